/-
  Contracts of next.Next and next.After. A helper of the claim that stands beside it.
-/
import Derived.Test.YtnaampdpkegacaaGreatDoorh1
namespace Go.Proofs.YtnaampdpkegacaaGreatDoor
open Go.RowKit

/-- Bytes that lie in memory, as a slice. -/
def SlIs (w : World) (gv : Value) (got : List U8) : Prop :=
  (∃ a c, gv = .slice a 0 c ∧ got = []) ∨ ∃ b o c, gv = .slice (some ⟨b, o, none⟩) got.length c ∧ got.length ≤ c ∧ b < w.heap.size ∧ ∀ (j : Nat) (v : U8), got[j]? = some v → w.cell? ⟨b, o + j, none⟩ = some (.int .u8 v.v)
theorem SlIs.kept {w w1 : World} {gv : Value} {got : List U8} (h : SlIs w gv got) (hb : Below w.heap.size w w1) : SlIs w1 gv got := by
  rcases h with h | ⟨b, o, c, h1, h2, h4, h5⟩
  · exact .inl h
  · refine .inr ⟨b, o, c, h1, h2, Nat.lt_of_lt_of_le h4 hb.size, fun j v hj => ?_⟩
    rw [hb.cell (p := ⟨b, o + j, none⟩) h4]; exact h5 j v hj
theorem SlIs.hd {w w1 : World} {gv : Value} {got : List U8} {B : Nat} (h : SlIs w gv got) (hb : Below w.heap.size w w1) (hB : w.heap.size ≤ B) : hdIs B w1 gv got := by
  rcases h with h | ⟨b, o, c, h1, h2, h4, h5⟩
  · exact .inl h
  · refine .inr ⟨b, o, c, h1, h2, by omega, Nat.lt_of_lt_of_le h4 hb.size, fun j v hj => ?_⟩
    rw [hb.cell (p := ⟨b, o + j, none⟩) h4]; exact h5 j v hj
def cs0 (r : R) : CS := ⟨r, 0, u8 0, 0, 0, 0, 0, 0, u16 0, false⟩
def ps0 (r : R) (gv : Value) (got : List U8) : PS := { toCS := cs0 r, gv := gv, got := got }
/-- What is told of what works on registers, behind answers. -/
def outT (t : T (Unit × CS)) (got : List U8) : Cyc × R × Bool := match t.exec got with
  | .error c => (c, R0, false)
  | .ok p => (Cyc0, p.1.2.r, true)
theorem outM_run (m : PM Unit) (r : R) (gv : Value) (got : List U8) : outM (run m (ps0 r gv got)) = outT (m (cs0 r)) got := by
  unfold outM run outT ps0
  simp only
  cases (m (cs0 r)).exec got with
  | error c => rfl
  | ok p => rfl
def nextF (r : R) (got : List U8) : Cyc × R × Bool := outT (nextM (got.length + 1) r.halted (cs0 r)) got
def afterF (r : R) (b : U8) (got : List U8) : Cyc × R × Bool := outT (afterM (got.length + 1) b (cs0 r)) got
/-- A work that is built. -/
def bdWork (parts : Array (Nat × Value)) : Sem Value := Instr.build 47 parts
@[go_sem ↓ high] theorem bd_work (parts : Array (Nat × Value)) : Instr.build 47 parts = bdWork parts := rfl
theorem bd_work_run (r : R) (a : Option Addr) (n c : Nat) (W : World) : (bdWork #[(0, .agg r.cells), (1, .slice a n c)]).run Tryz.prog W = .ok (.agg (ps0 r (.slice a n c) []).cells) W := by kernel_rfl
attribute [go_sem] bd_work_run
theorem SlIs.slice {w : World} {gv : Value} {got : List U8} (h : SlIs w gv got) : ∃ a n c, gv = .slice a n c := by
  rcases h with ⟨a, c, h, _⟩ | ⟨b, o, c, h, _⟩
  · exact ⟨_, _, _, h⟩
  · exact ⟨_, _, _, h⟩
/-- What a call tells, and leaves. -/
def Told (x : Cyc × R × Bool) (w : World) (e : Ending) (w' : World) : Prop := e = .returned (.tuple #[.agg x.1.cells, .agg x.2.1.cells, .bool x.2.2]) ∧ Below w.heap.size w w'
/-- Five new blocks. -/
theorem five {w : World} {a b c d e : Obj} : let W := ((((w.alloc a).alloc b).alloc c).alloc d).alloc e
    W.heap[w.heap.size]? = some a ∧ W.heap[w.heap.size + 1]? = some b ∧ W.heap[w.heap.size + 1 + 1]? = some c ∧ W.heap[w.heap.size + 1 + 1 + 1]? = some d ∧ W.heap[w.heap.size + 1 + 1 + 1 + 1]? = some e ∧ W.heap.size = w.heap.size + 5 := by
  intro W
  have hW : W.heap = ((((w.heap.push a).push b).push c).push d).push e := rfl
  rw [hW]
  refine ⟨?_, ?_, ?_, ?_, ?_, by simp⟩
  · rw [Array.getElem?_push, if_neg (by simp; try omega), Array.getElem?_push, if_neg (by simp; try omega), Array.getElem?_push, if_neg (by simp; try omega), Array.getElem?_push, if_neg (by simp), Array.getElem?_push, if_pos rfl]
  · rw [Array.getElem?_push, if_neg (by simp; try omega), Array.getElem?_push, if_neg (by simp; try omega), Array.getElem?_push, if_neg (by simp), Array.getElem?_push, if_pos (by simp)]
  · rw [Array.getElem?_push, if_neg (by simp; try omega), Array.getElem?_push, if_neg (by simp), Array.getElem?_push, if_pos (by simp)]
  · rw [Array.getElem?_push, if_neg (by simp), Array.getElem?_push, if_pos (by simp)]
  · rw [Array.getElem?_push, if_pos (by simp)]
theorem heap_cell0 {w : World} {B : Nat} {c : Array Value} {t : TypeId} (h : w.heap[B]? = some (.cells c t (0, 0))) (j : Nat) : w.cell? ⟨B, j, none⟩ = c[j]? := by
  rw [cell_blk]; unfold blk; rw [h]
def nextW5 (w : World) (r : R) (gv : Value) : World := ((((w.alloc (.cells r.cells 24)).alloc (.cells Cyc0.cells 28)).alloc (.cells R0.cells 24)).alloc (.cells (ps0 r gv []).cells 47)).alloc (.cells #[.pointer (some ⟨w.heap.size + 1 + 1 + 1, 0, none⟩)] 45)
theorem five_after {w w1 : World} {r : R} {gv : Value} (hb : Below (nextW5 w r gv).heap.size (nextW5 w r gv) w1) :
    ∃ w2, w1 = put (put w2 (w.heap.size + 1) Cyc0.cells) (w.heap.size + 1 + 1) R0.cells ∧ Below w.heap.size w w2 ∧ Inb (w.heap.size + 1) w2 ∧ Inb (w.heap.size + 1 + 1) w2 := by
  obtain ⟨h0, h1, h2, h3, h4, hs⟩ := @five w (.cells r.cells 24) (.cells Cyc0.cells 28) (.cells R0.cells 24) (.cells (ps0 r gv []).cells 47) (.cells #[.pointer (some ⟨w.heap.size + 1 + 1 + 1, 0, none⟩)] 45)
  have hS : (nextW5 w r gv).heap.size = w.heap.size + 5 := hs
  have e1 := (hb.block (w.heap.size + 1) (by rw [hS]; omega)).trans h1
  have e2 := (hb.block (w.heap.size + 1 + 1) (by rw [hS]; omega)).trans h2
  have hb0 : Below w.heap.size w (nextW5 w r gv) := by unfold nextW5; go_grown
  have hz := hb.size
  refine ⟨w1, ?_, bt hb0 hb, by unfold Inb; omega, by unfold Inb; omega⟩
  rw [asput e1, asput e2]
theorem nextDone (r : R) (gv : Value) (got : List U8) (w : World) (hg : SlIs w gv got) (hL : Lg w) :
    Calls Tryz.prog 20 #[.pointer (some ⟨w.heap.size + 1 + 1 + 1, 0, none⟩), .func (.func 21) #[] #[.pointer (some ⟨w.heap.size, 0, none⟩), .pointer (some ⟨w.heap.size + 1 + 1 + 1 + 1, 0, none⟩)]] (nextW5 w r gv)
      (DonePost (w.heap.size + 1 + 1 + 1) (nextW5 w r gv) (run (nextM (got.length + 1) r.halted) (ps0 r gv got))) := by
  obtain ⟨h0, h1, h2, h3, h4, hs⟩ := @five w (.cells r.cells 24) (.cells Cyc0.cells 28) (.cells R0.cells 24) (.cells (ps0 r gv []).cells 47) (.cells #[.pointer (some ⟨w.heap.size + 1 + 1 + 1, 0, none⟩)] 45)
  have hb : Below w.heap.size w (nextW5 w r gv) := by unfold nextW5; go_grown
  have hlt := hL.lt
  have hI : Inv (w.heap.size + 1 + 1 + 1) (nextW5 w r gv) gv got := ⟨by unfold Inb nextW5; rw [hs]; omega, hg.hd hb (by omega), hL.kept hb, by omega⟩
  have h := doneNext_ (w.heap.size + 1 + 1 + 1) ⟨w.heap.size, 0, none⟩ ⟨w.heap.size + 1 + 1 + 1 + 1, 0, none⟩ (nextM (got.length + 1) r.halted) (ps0 r gv got) (nextW5 w r gv) hI (fun W1 hb1 =>
    next1_ _ _ _ _ _ _ W1 (hI.kept hb1) (Nat.lt_succ_self _)
      (by rw [hb1.cell (p := ⟨w.heap.size, 17, none⟩) (by unfold nextW5; rw [hs]; show w.heap.size < _; omega)]; unfold nextW5; rw [heap_cell0 h0 17]; rfl)
      (by rw [hb1.cell (p := ⟨w.heap.size + 1 + 1 + 1 + 1, 0, none⟩) (by unfold nextW5; rw [hs]; show w.heap.size + 1 + 1 + 1 + 1 < _; omega)]; unfold nextW5; rw [heap_cell0 h4 0]; rfl) (by omega) (by omega))
  have e : put (nextW5 w r gv) (w.heap.size + 1 + 1 + 1) (PS.cells (ps0 r gv got)) = nextW5 w r gv := asput (t := 47) h3
  rw [e] at h
  exact h
theorem results_next (tmps : Array Value) (w : World) (a b : Nat) (x : Cyc) (r : R) (l : Bool) (hp : tmps.getD 4 undef = .pointer (some ⟨a, 0, none⟩)) (hq : tmps.getD 5 undef = .pointer (some ⟨b, 0, none⟩)) (hr : tmps.getD 6 undef = .bool l)
    (ha : blk w a = x.cells) (hb : blk w b = r.cells) : (results Tryz.f12 tmps).run Tryz.prog w = .ok (.tuple #[.agg x.cells, .agg r.cells, .bool l]) w := by
  have e1 : (loadVar 28 ⟨a, 0, none⟩).run Tryz.prog w = .ok (.agg x.cells) w := by
    rw [ld_cyc, ld_cyc_run w a 0 (by rw [ha]; exact Nat.le_refl 4), ha]
    exact congrArg (fun y => Result.ok (Value.agg y) w) (Cyc.all x)
  have e2 : (loadVar 24 ⟨b, 0, none⟩).run Tryz.prog w = .ok (.agg r.cells) w := by
    rw [ld_regs, ld_regs_run w b 0 (by rw [hb]; exact Nat.le_refl 20), hb]
    exact congrArg (fun y => Result.ok (Value.agg y) w) (R.all r)
  unfold results
  rw [Tryz.results12]
  rw [Array.getD_eq_getD_getElem?] at hp hq hr
  simp [hp, hq, hr, e1, e2, asAddr]
set_option maxHeartbeats 1000000 in
set_option maxRecDepth 20000 in
theorem nextW_ (r : R) (gv : Value) (got : List U8) (w : World) (hg : SlIs w gv got) (hL : Lg w) : Calls Tryz.prog 12 #[.agg r.cells, gv] w (Told (nextF r got) w) := by
  have hmf : ∀ (fn : Fn) (first cap : Array Value) (w : World), (Instr.makeFunc fn first cap).run Tryz.prog w = .ok (.func fn first cap) w := fun _ _ _ _ => rfl
  obtain ⟨sa, sn, sc, rfl⟩ := hg.slice
  have hdn := nextDone r _ got w hg hL
  rw [show nextF r got = outM (run (nextM (got.length + 1) r.halted) (ps0 r (.slice sa sn sc) got)) from (outM_run _ _ _ _).symm]
  generalize run (nextM (got.length + 1) r.halted) (ps0 r (.slice sa sn sc) got) = M at *
  generalize hX : outM M = X
  have HD : Hid (Calls Tryz.prog 20 #[.pointer (some ⟨w.heap.size + 1 + 1 + 1, 0, none⟩), .func (.func 21) #[] #[.pointer (some ⟨w.heap.size, 0, none⟩), .pointer (some ⟨w.heap.size + 1 + 1 + 1 + 1, 0, none⟩)]] (nextW5 w r (.slice sa sn sc)) (fun e w' => e = .returned (.tuple #[.agg X.1.cells, .agg X.2.1.cells, .bool X.2.2]) ∧ ∃ w1 d, w' = put w1 (w.heap.size + 1 + 1 + 1) d ∧ Below (nextW5 w r (.slice sa sn sc)).heap.size (nextW5 w r (.slice sa sn sc)) w1)) := Lib.hid (by rw [← hX]; exact hdn)
  clear hdn hg hL hX
  obtain ⟨x, rr, l⟩ := X
  have lt1 : w.heap.size < w.heap.size + 1 := by omega
  have lt2 : w.heap.size < w.heap.size + 1 + 1 := by omega
  have n12 : ¬ w.heap.size + 1 = w.heap.size + 1 + 1 := by omega
  have n13 : ¬ w.heap.size + 1 = w.heap.size + 1 + 1 + 1 := by omega
  have n23 : ¬ w.heap.size + 1 + 1 = w.heap.size + 1 + 1 + 1 := by omega
  go_enter Tryz.func12, Tryz.ntmps12
  go_wp2_with (go_at_call 20; refine HD.out.mono ?_; rintro e w6 ⟨rfl, w1, d, rfl, hb⟩; obtain ⟨w2, rfl, hb2, i1, i2⟩ := five_after hb; clear hb)
  refine bodyPost_ret (results_next _ _ (w.heap.size + 1) (w.heap.size + 1 + 1) x rr l rfl rfl rfl (by simp [go_sem, i1]) (by simp [go_sem, i2])) rfl ⟨rfl, ?_⟩
  exact below_put (below_put (below_put hb2 (by omega)) (by omega)) (by omega)
end Go.Proofs.YtnaampdpkegacaaGreatDoor
