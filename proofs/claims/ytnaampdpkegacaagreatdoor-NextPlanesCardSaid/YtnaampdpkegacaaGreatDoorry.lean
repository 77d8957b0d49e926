/-
  Contracts of the reference 12's told, Next and After: they tell what next's tell. A helper of the claims that stand beside it.
-/
import Derived.Test.YtnaampdpkegacaaGreatDoorrw
import Derived.Test.YtnaampdpkegacaaGreatDoorqsim
namespace Go.Proofs.YtnaampdpkegacaaGreatDoor
open Go.RowKit

/-- What is told of a work. -/
def outW (s : QS) : Cyc × R × Bool := if s.fd.lacks then (s.fd.ask, R0, false) else (Cyc0, s.r, true)
def qs0 (r : R) (gv : Value) (got : List U8) : QS := { toQC := qc0 r, fd := fd0, gv := gv, got := got }
theorem outW_Q (m : QM Unit) (r : R) (gv : Value) (got : List U8) : outW (runQ m (qs0 r gv got)).2 = outQ (m (qc0 r)) got := rfl
theorem results_crb {fn : Func} {p q t : Tmp} (hr : fn.results = #[.cell p 28, .cell q 24, .tmp t]) (tmps : Array Value) (w : World) (a b : Nat) (x : Cyc) (r : R) (l : Bool) (hp : tmps.getD p undef = .pointer (some ⟨a, 0, none⟩)) (hq : tmps.getD q undef = .pointer (some ⟨b, 0, none⟩)) (ht : tmps.getD t undef = .bool l)
    (ha : blk w a = x.cells) (hb : blk w b = r.cells) : (results fn tmps).run Tryz.prog w = .ok (.tuple #[.agg x.cells, .agg r.cells, .bool l]) w := by
  have e1 : (loadVar 28 ⟨a, 0, none⟩).run Tryz.prog w = .ok (.agg x.cells) w := by
    rw [ld_cyc, ld_cyc_run w a 0 (by rw [ha]; exact Nat.le_refl 4), ha]
    exact congrArg (fun y => Result.ok (Value.agg y) w) (Cyc.all x)
  have e2 : (loadVar 24 ⟨b, 0, none⟩).run Tryz.prog w = .ok (.agg r.cells) w := by
    rw [ld_regs, ld_regs_run w b 0 (by rw [hb]; exact Nat.le_refl 20), hb]
    exact congrArg (fun y => Result.ok (Value.agg y) w) (R.all r)
  unfold results
  rw [hr]
  rw [Array.getD_eq_getD_getElem?] at hp hq ht
  simp [hp, hq, ht, e1, e2, asAddr]
theorem QS.askx (s : QS) : s.cells.extract 23 27 = s.fd.ask.cells := by simp [Cyc.cells, QS.cells]
attribute [go_sem] QS.askx
theorem below_same_put {w X : World} {B : Nat} {c : Array Value} (hb : Below w.heap.size w X) : Below (put w B c).heap.size (put w B c) (put X B c) := by
  refine ⟨hb.os, hb.tape, hb.output, by simp only [put_size]; exact hb.size, fun k hk => ?_⟩
  rw [put_size] at hk
  simp only [put, Array.getElem?_modify, hb.block k hk]
theorem two_new (w : World) (c : Cyc) (r : R) : ∃ W2, (w.alloc (.cells c.cells 28)).alloc (.cells r.cells 24) = put (put W2 w.heap.size c.cells) (w.heap.size + 1) r.cells ∧ Inb w.heap.size W2 ∧ Inb (w.heap.size + 1) W2 ∧ Below w.heap.size w W2 := by
  have e3 := heap_alloc_last (w.alloc (.cells c.cells 28)) (.cells r.cells 24)
  rw [World.size_alloc] at e3
  have e2 : ((w.alloc (.cells c.cells 28)).alloc (.cells r.cells 24)).heap[w.heap.size]? = some (.cells c.cells 28) := by
    have e0 := heap_alloc_last w (.cells c.cells 28)
    show ((w.alloc (.cells c.cells 28)).heap.push (.cells r.cells 24))[w.heap.size]? = _
    rw [Array.getElem?_push, if_neg (by rw [World.size_alloc]; omega), e0]
  refine ⟨(w.alloc (.cells c.cells 28)).alloc (.cells r.cells 24), ?_, by unfold Inb; simp only [World.size_alloc]; omega, by unfold Inb; simp only [World.size_alloc]; omega, by go_grown⟩
  rw [asput e2, asput e3]
set_option maxHeartbeats 1000000 in
set_option maxRecDepth 20000 in
theorem toldQ_ (B : Nat) (s : QS) (w : World) (hI : QInv B w s.gv s.got) : Calls Tryz.prog 28 #[.pointer (some ⟨B, 0, none⟩)] (put w B s.cells) fun e w' => e = .returned (.tuple #[.agg (outW s).1.cells, .agg (outW s).2.1.cells, .bool (outW s).2.2]) ∧ Below (put w B s.cells).heap.size (put w B s.cells) w' := by
  have hi := hI.inb
  have hne := hi.ne
  have hlt : B < w.heap.size := hi
  have hne1 : ¬ w.heap.size + 1 = B := by omega
  have hn1 : ¬ B = w.heap.size := by omega
  have hn2 : ¬ B = w.heap.size + 1 := by omega
  have hn3 : ¬ w.heap.size = w.heap.size + 1 := by omega
  unfold outW
  rcases Bool.eq_false_or_eq_true s.fd.lacks with hl | hl
  · rw [if_pos hl]
    go_enter Tryz.func28, Tryz.ntmps28
    go_wp2
    refine bodyPost_ret (results_crb rfl _ _ w.heap.size (w.heap.size + 1) s.fd.ask R0 false rfl rfl rfl ?_ ?_) rfl ⟨rfl, ?_⟩
    · simp [go_sem, *]
    · simp [go_sem, *]
    · exact below_same_put (by go_grown)
  · rw [if_neg (by rw [hl]; exact Bool.false_ne_true)]
    obtain ⟨W2, hW, i0, i1, hb2⟩ := two_new w Cyc0 R0
    have iB : Inb B W2 := Nat.lt_of_lt_of_le hlt hb2.size
    have hW' := Lib.hid hW
    clear hW
    go_enter Tryz.func28, Tryz.ntmps28
    go_wp2
    rw [hW'.out]
    have i0' : Inb w.heap.size W2.drew := i0
    have i1' : Inb (w.heap.size + 1) W2.drew := i1
    have iB' : Inb B W2.drew := iB
    go_region
    all_goals
      go_wp2
      refine bodyPost_ret (results_crb rfl _ _ w.heap.size (w.heap.size + 1) Cyc0 s.r true rfl rfl rfl ?_ ?_) rfl ⟨rfl, ?_⟩
      · simp [go_sem, *]
      · simp [go_sem, *]
      · exact below_same_put (below_put (below_put hb2.drew (Nat.le_refl _)) (Nat.le_succ _))
theorem outW_l {s p : QS} (h1 : s.fd = p.fd) (h2 : p.fd.lacks = false → s = p) : outW s = outW p := by
  rcases Bool.eq_false_or_eq_true p.fd.lacks with h | h
  · unfold outW; rw [h1, h]; rfl
  · rw [h2 h]
/-- A work of the reference that is built. -/
def bdW (parts : Array (Nat × Value)) : Sem Value := Instr.build 54 parts
@[go_sem ↓ high] theorem bd_w (parts : Array (Nat × Value)) : Instr.build 54 parts = bdW parts := rfl
theorem bd_w_run (r : R) (a : Option Addr) (n c : Nat) (W : World) : (bdW #[(0, .agg r.cells), (1, .slice a n c)]).run Tryz.prog W = .ok (.agg (qs0 r (.slice a n c) []).cells) W := by kernel_rfl
attribute [go_sem] bd_w_run
theorem four_new (w : World) (r : R) (s : QS) : ∃ W, (((w.alloc (.cells r.cells 24)).alloc (.cells Cyc0.cells 28)).alloc (.cells R0.cells 24)).alloc (.cells s.cells 54) = put W (w.heap.size + 1 + 1 + 1) s.cells ∧ blk W w.heap.size = r.cells ∧ W.heap.size = w.heap.size + 1 + 1 + 1 + 1 ∧ Below w.heap.size w W ∧ W.heap[w.heap.size + 1]? = some (.cells Cyc0.cells 28) ∧ W.heap[w.heap.size + 1 + 1]? = some (.cells R0.cells 24) := by
  obtain ⟨h0, h1, h2, h3, -, -⟩ := @five w (.cells r.cells 24) (.cells Cyc0.cells 28) (.cells R0.cells 24) (.cells s.cells 54) (.cells #[] 0)
  generalize hW : (((w.alloc (.cells r.cells 24)).alloc (.cells Cyc0.cells 28)).alloc (.cells R0.cells 24)).alloc (.cells s.cells 54) = W at *
  have hs : W.heap.size = w.heap.size + 1 + 1 + 1 + 1 := by rw [← hW]; simp only [World.size_alloc]
  have back : ∀ k o, k < W.heap.size → (W.alloc (.cells #[] 0)).heap[k]? = some o → W.heap[k]? = some o := fun k o hk h => by
    have e : (W.alloc (.cells #[] 0)).heap[k]? = (W.heap.push (.cells #[] 0))[k]? := rfl
    rw [e, Array.getElem?_push, if_neg (by omega)] at h
    exact h
  have g0 := back _ _ (by omega) h0
  have g1 := back _ _ (by omega) h1
  have g2 := back _ _ (by omega) h2
  have g3 := back _ _ (by omega) h3
  refine ⟨W, (asput g3).symm, ?_, hs, by rw [← hW]; go_grown, g1, g2⟩
  unfold blk; rw [g0]
theorem two_back {n : Nat} {W w1 : World} (hb : Below W.heap.size W w1) (hs : W.heap.size = n + 1 + 1 + 1 + 1) (e1 : W.heap[n + 1]? = some (.cells Cyc0.cells 28)) (e2 : W.heap[n + 1 + 1]? = some (.cells R0.cells 24)) :
    w1 = put (put w1 (n + 1) Cyc0.cells) (n + 1 + 1) R0.cells ∧ Inb (n + 1) w1 ∧ Inb (n + 1 + 1) w1 ∧ Inb (n + 1 + 1 + 1) w1 := by
  have hz := hb.size
  refine ⟨?_, by unfold Inb; omega, by unfold Inb; omega, by unfold Inb; omega⟩
  rw [asput ((hb.block _ (by omega)).trans e1), asput ((hb.block _ (by omega)).trans e2)]
def ql0 (r : R) (gv : Value) (got : List U8) : QS := { qs0 r gv got with r := { r with late := false } }
theorem fetch_room {r : R} {gv : Value} {got : List U8} {v : U8} {s1 : QS} (h : runQ fetchQ (ql0 r gv got) = (v, s1)) : s1.fd.lacks = true ∨ (s1.fd.at' ≤ s1.got.length ∧ s1.got.length < s1.fd.at' + (got.length + 1)) := by
  obtain ⟨hg, h1⟩ := fetchQ_len h rfl
  have e : s1.got = got := hg
  rcases h1 with h1 | ⟨h1, h2⟩
  · exact .inl h1
  · have h1 : 0 < got.length := h1
    have h2 : s1.fd.at' = 0 + 1 := h2
    exact .inr (by rw [e, h2]; omega)
set_option maxHeartbeats 4000000 in
set_option maxRecDepth 20000 in
theorem r12nextW_ (r : R) (gv : Value) (got : List U8) (w : World) (hg : SlIs w gv got) (hlen : got.length ≤ 4611686018427387903) : Calls Tryz.prog 13 #[.agg r.cells, gv] w (Told (nextF r got) w) := by
  rw [← next_same, ← outW_Q _ r gv got]
  obtain ⟨sa, sn, sc, rfl⟩ := hg.slice
  have lt1 : w.heap.size < w.heap.size + 1 := by omega
  have lt2 : w.heap.size < w.heap.size + 1 + 1 := by omega
  have n1 : ¬ w.heap.size = w.heap.size + 1 + 1 + 1 := by omega
  have n2 : ¬ w.heap.size + 1 = w.heap.size + 1 + 1 + 1 := by omega
  have n3 : ¬ w.heap.size + 1 + 1 = w.heap.size + 1 + 1 + 1 := by omega
  have n4 : ¬ w.heap.size + 1 = w.heap.size + 1 + 1 := by omega
  rcases Bool.eq_false_or_eq_true r.halted with hh | hh
  · rw [hh]
    obtain ⟨W, hW, hbk, hs, hbW, e1, e2⟩ := four_new w r (qs0 r (.slice sa sn sc) got)
    have hW' := Lib.hid (show (((w.alloc (.cells r.cells 24)).alloc (.cells Cyc0.cells 28)).alloc (.cells R0.cells 24)).alloc (.cells (qs0 r (.slice sa sn sc) []).cells 54) = _ from hW)
    have hI : QInv (w.heap.size + 1 + 1 + 1) W (.slice sa sn sc) got := ⟨by unfold Inb; omega, hg.hd hbW (by omega), hlen⟩
    have hi := hI.inb
    have hb0 := Below.refl W.heap.size W
    have hN := Lib.hid (And.intro hbW (And.intro hs (And.intro e1 (And.intro e2 hlen))))
    clear hW hg hs e1 e2 hbW hlen
    go_enter Tryz.func13, Tryz.ntmps13
    go_wp2_with (first | (go_at_call 26; rw [hW'.out]; refine (cycR_ _ 1 r.pc (u8 0) 4 (qs0 r (.slice sa sn sc) got) _ (by assumption)).mono (QPost.thru hb0 (fun v s1 w1 hq hb0 hI hi => ?_)); have hq1 := hq) | (go_at_call 27; refine (tickQ_ _ _ _ (by assumption)).mono (QPost.thru hb0 (fun v s1 w1 hq hb0 hI hi => ?_))) | (go_at_call 28; refine (toldQ_ _ _ _ (by assumption)).mono ?_; rintro e w5 ⟨rfl, hb⟩; obtain ⟨w6, rfl, hb6⟩ := unput hi hb; have hb7 := bt hb0 hb6; obtain ⟨e6, i1, i2, iB⟩ := two_back hb7 hN.out.2.1 hN.out.2.2.1 hN.out.2.2.2.1; rw [e6]; have hN2 := Lib.hid (bt hN.out.1 hb7); clear e6 hb hb6 hb7))
    have hE : (runQ (nextQ (got.length + 1) true) (qs0 r (.slice sa sn sc) got)).2 = s1 := by
      show (runQ (cycleQ ⟨1, r.pc, u8 0, 4⟩ >>= fun _ => tickQ) (qs0 r (.slice sa sn sc) got)).2 = s1
      rw [runQ_bind, hq1, hq]
    refine bodyPost_ret (results_crb rfl _ _ (w.heap.size + 1) (w.heap.size + 1 + 1) (outW s1).1 (outW s1).2.1 (outW s1).2.2 rfl rfl rfl ?_ ?_) rfl ⟨?_, below_put (below_put (below_put hN2.out (by omega)) (by omega)) (by omega)⟩
    · simp [go_sem, *]
    · simp [go_sem, *]
    · rw [hE]
  · rw [hh]
    obtain ⟨W, hW, hbk, hs, hbW, e1, e2⟩ := four_new w r (ql0 r (.slice sa sn sc) got)
    have hW' := Lib.hid (show (((w.alloc (.cells r.cells 24)).alloc (.cells Cyc0.cells 28)).alloc (.cells R0.cells 24)).alloc (.cells (ql0 r (.slice sa sn sc) []).cells 54) = _ from hW)
    have hI : QInv (w.heap.size + 1 + 1 + 1) W (.slice sa sn sc) got := ⟨by unfold Inb; omega, hg.hd hbW (by omega), hlen⟩
    have hi := hI.inb
    have hb0 := Below.refl W.heap.size W
    have hN := Lib.hid (And.intro hbW (And.intro hs (And.intro e1 (And.intro e2 hlen))))
    clear hW hg hs e1 e2 hbW hlen
    go_enter Tryz.func13, Tryz.ntmps13
    go_wp2_with (first | (go_at_call 29; change Calls _ _ _ ((((w.alloc (.cells r.cells 24)).alloc (.cells Cyc0.cells 28)).alloc (.cells R0.cells 24)).alloc (.cells (ql0 r (.slice sa sn sc) []).cells 54)) _; rw [hW'.out]; refine (fetchQ_ _ (ql0 r (.slice sa sn sc) got) _ (by assumption)).mono (QPost.thru hb0 (fun v s1 w1 hq hb0 hI hi => ?_))) | (go_at_call 30; refine (firstQ_ _ (got.length + 1) _ _ _ (by assumption) (fetch_room hq)).mono ?_; rintro e w5 ⟨rfl, s2, w7, rfl, hb7, hI, hfd, hsame⟩; have hi := hI.inb; replace hb0 := bt hb0 hb7) | (go_at_call 28; refine (toldQ_ _ _ _ (by assumption)).mono ?_; rintro e w5 ⟨rfl, hb⟩; obtain ⟨w6, rfl, hb6⟩ := unput hi hb; have hb7 := bt hb0 hb6; obtain ⟨e6, i1, i2, iB⟩ := two_back hb7 hN.out.2.1 hN.out.2.2.1 hN.out.2.2.2.1; rw [e6]; have hN2 := Lib.hid (bt hN.out.1 hb7); clear e6 hb hb6 hb7))
    have hE : outW (runQ (nextQ (got.length + 1) false) (qs0 r (.slice sa sn sc) got)).2 = outW s2 := by
      show outW (runQ (fetchQ >>= fun b => firstQ (got.length + 1) b) (ql0 r (.slice sa sn sc) got)).2 = outW s2
      rw [runQ_bind, hq]
      exact (outW_l hfd hsame).symm
    refine bodyPost_ret (results_crb rfl _ _ (w.heap.size + 1) (w.heap.size + 1 + 1) (outW s2).1 (outW s2).2.1 (outW s2).2.2 rfl rfl rfl ?_ ?_) rfl ⟨?_, below_put (below_put (below_put hN2.out (by omega)) (by omega)) (by omega)⟩
    · simp [go_sem, *]
    · simp [go_sem, *]
    · rw [hE]
theorem first_room (r : R) (gv : Value) (got : List U8) : (ql0 r gv got).fd.lacks = true ∨ ((ql0 r gv got).fd.at' ≤ (ql0 r gv got).got.length ∧ (ql0 r gv got).got.length < (ql0 r gv got).fd.at' + (got.length + 1)) :=
  .inr ⟨Nat.zero_le _, show got.length < 0 + (got.length + 1) by omega⟩
set_option maxHeartbeats 4000000 in
set_option maxRecDepth 20000 in
theorem r12afterW_ (r : R) (b : U8) (gv : Value) (got : List U8) (w : World) (hg : SlIs w gv got) (hlen : got.length ≤ 4611686018427387903) : Calls Tryz.prog 15 #[.agg r.cells, .int .u8 b.v, gv] w (Told (afterF r b got) w) := by
  rw [← after_same, ← outW_Q _ r gv got]
  obtain ⟨sa, sn, sc, rfl⟩ := hg.slice
  have lt1 : w.heap.size < w.heap.size + 1 := by omega
  have lt2 : w.heap.size < w.heap.size + 1 + 1 := by omega
  have n1 : ¬ w.heap.size = w.heap.size + 1 + 1 + 1 := by omega
  have n2 : ¬ w.heap.size + 1 = w.heap.size + 1 + 1 + 1 := by omega
  have n3 : ¬ w.heap.size + 1 + 1 = w.heap.size + 1 + 1 + 1 := by omega
  have n4 : ¬ w.heap.size + 1 = w.heap.size + 1 + 1 := by omega
  obtain ⟨W, hW, hbk, hs, hbW, e1, e2⟩ := four_new w r (ql0 r (.slice sa sn sc) got)
  have hW' := Lib.hid (show (((w.alloc (.cells r.cells 24)).alloc (.cells Cyc0.cells 28)).alloc (.cells R0.cells 24)).alloc (.cells (ql0 r (.slice sa sn sc) []).cells 54) = _ from hW)
  have hI : QInv (w.heap.size + 1 + 1 + 1) W (.slice sa sn sc) got := ⟨by unfold Inb; omega, hg.hd hbW (by omega), hlen⟩
  have hi := hI.inb
  have hb0 := Below.refl W.heap.size W
  have hN := Lib.hid (And.intro hbW (And.intro hs (And.intro e1 (And.intro e2 hlen))))
  clear hW hg hs e1 e2 hbW hlen
  go_enter Tryz.func15, Tryz.ntmps15
  go_wp2_with (first | (go_at_call 30; change Calls _ _ _ ((((w.alloc (.cells r.cells 24)).alloc (.cells Cyc0.cells 28)).alloc (.cells R0.cells 24)).alloc (.cells (ql0 r (.slice sa sn sc) []).cells 54)) _; rw [hW'.out]; refine (firstQ_ _ (got.length + 1) _ (ql0 r (.slice sa sn sc) got) _ (by assumption) (first_room _ _ _)).mono ?_; rintro e w5 ⟨rfl, s2, w7, rfl, hb7, hI, hfd, hsame⟩; have hi := hI.inb; replace hb0 := bt hb0 hb7) | (go_at_call 28; refine (toldQ_ _ _ _ (by assumption)).mono ?_; rintro e w5 ⟨rfl, hb⟩; obtain ⟨w6, rfl, hb6⟩ := unput hi hb; have hb7 := bt hb0 hb6; obtain ⟨e6, i1, i2, iB⟩ := two_back hb7 hN.out.2.1 hN.out.2.2.1 hN.out.2.2.2.1; rw [e6]; have hN2 := Lib.hid (bt hN.out.1 hb7); clear e6 hb hb6 hb7))
  have hE : outW (runQ (afterQ (got.length + 1) b) (qs0 r (.slice sa sn sc) got)).2 = outW s2 := by
    show outW (runQ (firstQ (got.length + 1) b) (ql0 r (.slice sa sn sc) got)).2 = outW s2
    exact (outW_l hfd hsame).symm
  refine bodyPost_ret (results_crb rfl _ _ (w.heap.size + 1) (w.heap.size + 1 + 1) (outW s2).1 (outW s2).2.1 (outW s2).2.2 rfl rfl rfl ?_ ?_) rfl ⟨?_, below_put (below_put (below_put hN2.out (by omega)) (by omega)) (by omega)⟩
  · simp [go_sem, *]
  · simp [go_sem, *]
  · rw [hE]
end Go.Proofs.YtnaampdpkegacaaGreatDoor
