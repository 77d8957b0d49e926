/-
  Contract of next.After. A helper of the claim that stands beside it. (Printed by wip/genj1.py.)
-/
import Derived.Test.YtnaampdpkegacaaGreatDoori1
namespace Go.Proofs.YtnaampdpkegacaaGreatDoor
open Go.RowKit

set_option maxHeartbeats 4000000 in
set_option maxRecDepth 20000 in
theorem doneAfter_ (B : Nat) (X Y : Addr) (m : PM Unit) (s : PS) (w : World) (hI : Inv B w s.gv s.got) (hdo : ∀ W1, Below w.heap.size w W1 → Calls Tryz.prog 31 #[.pointer (some X), .pointer (some Y)] (put W1 B s.cells) (Post B W1 eU (run m s))) :
    Calls Tryz.prog 20 #[.pointer (some ⟨B, 0, none⟩), .func (.func 31) #[] #[.pointer (some X), .pointer (some Y)]] (put w B s.cells) (DonePost B w (run m s)) := by
  have hmf : ∀ (fn : Fn) (first cap : Array Value) (w : World), (Instr.makeFunc fn first cap).run Tryz.prog w = .ok (.func fn first cap) w := fun _ _ _ _ => rfl
  have hi := hI.inb
  have hD := Lib.hid hdo
  clear hdo
  have hB : B < w.heap.size := hi
  have hs0 : ¬ w.heap.size = B := by omega
  have hs1 : ¬ w.heap.size + 1 = B := by omega
  have hs2 : ¬ w.heap.size + 1 + 1 = B := by omega
  have c01 : ¬ w.heap.size = w.heap.size + 1 := by omega
  have c02 : ¬ w.heap.size = w.heap.size + 1 + 1 := by omega
  have c12 : ¬ w.heap.size + 1 = w.heap.size + 1 + 1 := by omega
  clear hB
  go_enter_defers Tryz.func20, Tryz.ntmps20
  go_wp2_with (go_at_call 31; refine (hD.out _ (by go_grown)).mono (Post.two (fun c s1 w1 hm hb hi => ?_) (fun v s1 w1 hm hb hI hi => ?_)))
  · obtain ⟨e1, hb1, i0, i1, i2⟩ := three1 hb
    rw [put_asput e1]
    clear e1 hb
    have hm' := Lib.hid hm
    clear hm
    refine leaves_cons (f := 40) (args := #[.pointer (some ⟨w.heap.size, 0, none⟩), .pointer (some ⟨w.heap.size + 1, 0, none⟩), .pointer (some ⟨w.heap.size + 1 + 1, 0, none⟩)]) (by simp) (by simp [go_sem]) ?_
    refine (done1_panicking w.heap.size (w.heap.size + 1) (w.heap.size + 1 + 1) B c Cyc0 R0 false _ w1 c01 c02 c12 hs0 hs1 hs2 i0 i1 i2 hi).mono ?_
    rintro e u' w'' ⟨rfl, rfl, w2, rfl, hb2⟩
    have i0' := i0.kept hb2
    have i1' := i1.kept hb2
    have i2' := i2.kept hb2
    have iB' := hi.kept hb2
    have hP : DonePost B w (.error c) (.returned (.tuple #[.agg c.cells, .agg R0.cells, .bool false])) (put (put (put (put w2 w.heap.size c.cells) (w.heap.size + 1) R0.cells) (w.heap.size + 1 + 1) #[.bool false]) B s1.cells) := ⟨rfl, _, _, rfl, below_put (below_put (below_put (bt hb1 hb2) (Nat.le_refl _)) (by omega)) (by omega)⟩
    exact ⟨_, results_done _ _ w.heap.size (w.heap.size + 1) (w.heap.size + 1 + 1) c R0 false rfl rfl rfl (by simp [go_sem, dres, hs0, c02, i0']) (by simp [go_sem, dres, hs1, i1']) (by simp [go_sem, dres, hs2, i2']), hP⟩
  · obtain ⟨e1, hb1, i0, i1, i2⟩ := three1 hb
    rw [put_asput e1]
    clear e1 hb
    have hm' := Lib.hid hm
    clear hm
    go_wp2
    go_region
    all_goals (try go_wp2)
    refine leaves_cons (f := 40) (args := #[.pointer (some ⟨w.heap.size, 0, none⟩), .pointer (some ⟨w.heap.size + 1, 0, none⟩), .pointer (some ⟨w.heap.size + 1 + 1, 0, none⟩)]) (by simp) (by simp [go_sem]) ?_
    refine (done1_idle ⟨w.heap.size, 0, none⟩ ⟨w.heap.size + 1, 0, none⟩ ⟨w.heap.size + 1 + 1, 0, none⟩ _).mono ?_
    rintro e u' w'' ⟨rfl, rfl, rfl⟩
    have hb2 : Below w.heap.size w w1.drew := hb1.trans ((Below.refl _ _).drew.mono hb1.size)
    have hP : DonePost B w (run m s) (.returned (.tuple #[.agg Cyc0.cells, .agg s1.r.cells, .bool true])) (put (put (put (put w1.drew w.heap.size Cyc0.cells) (w.heap.size + 1) s1.r.cells) (w.heap.size + 1 + 1) #[.bool true]) B s1.cells) := ⟨by rw [hm'.out]; rfl, _, _, rfl, below_put (below_put (below_put hb2 (Nat.le_refl _)) (by omega)) (by omega)⟩
    exact ⟨_, results_done _ _ w.heap.size (w.heap.size + 1) (w.heap.size + 1 + 1) Cyc0 s1.r true rfl rfl rfl (by simp [go_sem, hs0, c02, i0]) (by simp [go_sem, hs1, i1]) (by simp [go_sem, hs2, i2]), hP⟩
/-- Six new blocks. -/
theorem six {w : World} {a b c d e f : Obj} : let W := (((((w.alloc a).alloc b).alloc c).alloc d).alloc e).alloc f
    W.heap[w.heap.size]? = some a ∧ W.heap[w.heap.size + 1]? = some b ∧ W.heap[w.heap.size + 1 + 1]? = some c ∧ W.heap[w.heap.size + 1 + 1 + 1]? = some d ∧ W.heap[w.heap.size + 1 + 1 + 1 + 1]? = some e ∧ W.heap[w.heap.size + 1 + 1 + 1 + 1 + 1]? = some f ∧ W.heap.size = w.heap.size + 6 := by
  intro W
  obtain ⟨h0, h1, h2, h3, h4, hs⟩ := @five w a b c d e
  have hW : W.heap = (((((w.alloc a).alloc b).alloc c).alloc d).alloc e).heap.push f := rfl
  rw [hW]
  have p : ∀ k, k < w.heap.size + 5 → ((((((w.alloc a).alloc b).alloc c).alloc d).alloc e).heap.push f)[k]? = (((((w.alloc a).alloc b).alloc c).alloc d).alloc e).heap[k]? := fun k hk => by
    rw [Array.getElem?_push, if_neg (by rw [hs]; omega)]
  refine ⟨(p _ (by omega)).trans h0, (p _ (by omega)).trans h1, (p _ (by omega)).trans h2, (p _ (by omega)).trans h3, (p _ (by omega)).trans h4, ?_, by rw [Array.size_push, hs]⟩
  rw [Array.getElem?_push, if_pos (by rw [hs])]
def afterW6 (w : World) (r : R) (b : U8) (gv : Value) : World := (((((w.alloc (.cells r.cells 24)).alloc (.cells #[.int .u8 b.v] 5)).alloc (.cells Cyc0.cells 28)).alloc (.cells R0.cells 24)).alloc (.cells (ps0 r gv []).cells 47)).alloc (.cells #[.pointer (some ⟨w.heap.size + 1 + 1 + 1 + 1, 0, none⟩)] 45)
theorem six_after {w w1 : World} {r : R} {b : U8} {gv : Value} (hb : Below (afterW6 w r b gv).heap.size (afterW6 w r b gv) w1) :
    ∃ w2, w1 = put (put w2 (w.heap.size + 1 + 1) Cyc0.cells) (w.heap.size + 1 + 1 + 1) R0.cells ∧ Below w.heap.size w w2 ∧ Inb (w.heap.size + 1 + 1) w2 ∧ Inb (w.heap.size + 1 + 1 + 1) w2 := by
  obtain ⟨h0, h1, h2, h3, h4, h5, hs⟩ := @six w (.cells r.cells 24) (.cells #[.int .u8 b.v] 5) (.cells Cyc0.cells 28) (.cells R0.cells 24) (.cells (ps0 r gv []).cells 47) (.cells #[.pointer (some ⟨w.heap.size + 1 + 1 + 1 + 1, 0, none⟩)] 45)
  have hS : (afterW6 w r b gv).heap.size = w.heap.size + 6 := hs
  have e1 := (hb.block (w.heap.size + 1 + 1) (by rw [hS]; omega)).trans h2
  have e2 := (hb.block (w.heap.size + 1 + 1 + 1) (by rw [hS]; omega)).trans h3
  have hb0 : Below w.heap.size w (afterW6 w r b gv) := by unfold afterW6; go_grown
  have hz := hb.size
  refine ⟨w1, ?_, bt hb0 hb, by unfold Inb; omega, by unfold Inb; omega⟩
  rw [asput e1, asput e2]
theorem afterDone (r : R) (b : U8) (gv : Value) (got : List U8) (w : World) (hg : SlIs w gv got) (hL : Lg w) :
    Calls Tryz.prog 20 #[.pointer (some ⟨w.heap.size + 1 + 1 + 1 + 1, 0, none⟩), .func (.func 31) #[] #[.pointer (some ⟨w.heap.size + 1 + 1 + 1 + 1 + 1, 0, none⟩), .pointer (some ⟨w.heap.size + 1, 0, none⟩)]] (afterW6 w r b gv)
      (DonePost (w.heap.size + 1 + 1 + 1 + 1) (afterW6 w r b gv) (run (afterM (got.length + 1) b) (ps0 r gv got))) := by
  obtain ⟨h0, h1, h2, h3, h4, h5, hs⟩ := @six w (.cells r.cells 24) (.cells #[.int .u8 b.v] 5) (.cells Cyc0.cells 28) (.cells R0.cells 24) (.cells (ps0 r gv []).cells 47) (.cells #[.pointer (some ⟨w.heap.size + 1 + 1 + 1 + 1, 0, none⟩)] 45)
  have hb : Below w.heap.size w (afterW6 w r b gv) := by unfold afterW6; go_grown
  have hlt := hL.lt
  have hI : Inv (w.heap.size + 1 + 1 + 1 + 1) (afterW6 w r b gv) gv got := ⟨by unfold Inb afterW6; rw [hs]; omega, hg.hd hb (by omega), hL.kept hb, by omega⟩
  have h := doneAfter_ (w.heap.size + 1 + 1 + 1 + 1) ⟨w.heap.size + 1 + 1 + 1 + 1 + 1, 0, none⟩ ⟨w.heap.size + 1, 0, none⟩ (afterM (got.length + 1) b) (ps0 r gv got) (afterW6 w r b gv) hI (fun W1 hb1 =>
    after1_ _ _ _ _ _ _ W1 (hI.kept hb1) (Nat.lt_succ_self _)
      (by rw [hb1.cell (p := ⟨w.heap.size + 1 + 1 + 1 + 1 + 1, 0, none⟩) (by unfold afterW6; rw [hs]; show w.heap.size + 1 + 1 + 1 + 1 + 1 < _; omega)]; unfold afterW6; rw [heap_cell0 h5 0]; rfl)
      (by rw [hb1.cell (p := ⟨w.heap.size + 1, 0, none⟩) (by unfold afterW6; rw [hs]; show w.heap.size + 1 < _; omega)]; unfold afterW6; rw [heap_cell0 h1 0]; rfl) (by omega) (by omega))
  have e : put (afterW6 w r b gv) (w.heap.size + 1 + 1 + 1 + 1) (PS.cells (ps0 r gv got)) = afterW6 w r b gv := asput (t := 47) h4
  rw [e] at h
  exact h
theorem results_after (tmps : Array Value) (w : World) (a b : Nat) (x : Cyc) (r : R) (l : Bool) (hp : tmps.getD 6 undef = .pointer (some ⟨a, 0, none⟩)) (hq : tmps.getD 7 undef = .pointer (some ⟨b, 0, none⟩)) (hr : tmps.getD 8 undef = .bool l)
    (ha : blk w a = x.cells) (hb : blk w b = r.cells) : (results Tryz.f14 tmps).run Tryz.prog w = .ok (.tuple #[.agg x.cells, .agg r.cells, .bool l]) w := by
  have e1 : (loadVar 28 ⟨a, 0, none⟩).run Tryz.prog w = .ok (.agg x.cells) w := by
    rw [ld_cyc, ld_cyc_run w a 0 (by rw [ha]; exact Nat.le_refl 4), ha]
    exact congrArg (fun y => Result.ok (Value.agg y) w) (Cyc.all x)
  have e2 : (loadVar 24 ⟨b, 0, none⟩).run Tryz.prog w = .ok (.agg r.cells) w := by
    rw [ld_regs, ld_regs_run w b 0 (by rw [hb]; exact Nat.le_refl 20), hb]
    exact congrArg (fun y => Result.ok (Value.agg y) w) (R.all r)
  unfold results
  rw [Tryz.results14]
  rw [Array.getD_eq_getD_getElem?] at hp hq hr
  simp [hp, hq, hr, e1, e2, asAddr]
set_option maxHeartbeats 1000000 in
set_option maxRecDepth 20000 in
theorem afterW_ (r : R) (b : U8) (gv : Value) (got : List U8) (w : World) (hg : SlIs w gv got) (hL : Lg w) : Calls Tryz.prog 14 #[.agg r.cells, .int .u8 b.v, gv] w (Told (afterF r b got) w) := by
  have hmf : ∀ (fn : Fn) (first cap : Array Value) (w : World), (Instr.makeFunc fn first cap).run Tryz.prog w = .ok (.func fn first cap) w := fun _ _ _ _ => rfl
  obtain ⟨sa, sn, sc, rfl⟩ := hg.slice
  have hdn := afterDone r b _ got w hg hL
  rw [show afterF r b got = outM (run (afterM (got.length + 1) b) (ps0 r (.slice sa sn sc) got)) from (outM_run _ _ _ _).symm]
  generalize run (afterM (got.length + 1) b) (ps0 r (.slice sa sn sc) got) = M at *
  generalize hX : outM M = X
  have HD : Hid (Calls Tryz.prog 20 #[.pointer (some ⟨w.heap.size + 1 + 1 + 1 + 1, 0, none⟩), .func (.func 31) #[] #[.pointer (some ⟨w.heap.size + 1 + 1 + 1 + 1 + 1, 0, none⟩), .pointer (some ⟨w.heap.size + 1, 0, none⟩)]] (afterW6 w r b (.slice sa sn sc)) (fun e w' => e = .returned (.tuple #[.agg X.1.cells, .agg X.2.1.cells, .bool X.2.2]) ∧ ∃ w1 d, w' = put w1 (w.heap.size + 1 + 1 + 1 + 1) d ∧ Below (afterW6 w r b (.slice sa sn sc)).heap.size (afterW6 w r b (.slice sa sn sc)) w1)) := Lib.hid (by rw [← hX]; exact hdn)
  clear hdn hg hL hX
  obtain ⟨x, rr, l⟩ := X
  have lt1 : w.heap.size < w.heap.size + 1 := by omega
  have lt2 : w.heap.size < w.heap.size + 1 + 1 := by omega
  have lt3 : w.heap.size < w.heap.size + 1 + 1 + 1 := by omega
  have n12 : ¬ w.heap.size + 1 + 1 = w.heap.size + 1 + 1 + 1 := by omega
  have n13 : ¬ w.heap.size + 1 + 1 = w.heap.size + 1 + 1 + 1 + 1 := by omega
  have n23 : ¬ w.heap.size + 1 + 1 + 1 = w.heap.size + 1 + 1 + 1 + 1 := by omega
  go_enter Tryz.func14, Tryz.ntmps14
  go_wp2_with (go_at_call 20; refine HD.out.mono ?_; rintro e w6 ⟨rfl, w1, d, rfl, hb⟩; obtain ⟨w2, rfl, hb2, i1, i2⟩ := six_after hb; clear hb)
  refine bodyPost_ret (results_after _ _ (w.heap.size + 1 + 1) (w.heap.size + 1 + 1 + 1) x rr l rfl rfl rfl (by simp [go_sem, i1]) (by simp [go_sem, i2])) rfl ⟨rfl, ?_⟩
  exact below_put (below_put (below_put hb2 (by omega)) (by omega)) (by omega)
end Go.Proofs.YtnaampdpkegacaaGreatDoor
