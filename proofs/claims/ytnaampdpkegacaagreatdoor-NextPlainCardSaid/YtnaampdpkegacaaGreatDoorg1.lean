/-
  Contract of next's done. A helper of the claim that stands beside it. (Printed by wip/geng.py.)
-/
import Derived.BigRegion
import Derived.Test.YtnaampdpkegacaaGreatDoorf1
namespace Go.Proofs.YtnaampdpkegacaaGreatDoor
open Go.RowKit

/-- What is told of a work. -/
def outM (M : Except Cyc (Unit × PS)) : Cyc × R × Bool := match M with
  | .error c => (c, R0, false)
  | .ok p => (Cyc0, p.2.r, true)
def DonePost (B : Nat) (w : World) (M : Except Cyc (Unit × PS)) (e : Ending) (w' : World) : Prop := e = .returned (.tuple #[.agg (outM M).1.cells, .agg (outM M).2.1.cells, .bool (outM M).2.2]) ∧ ∃ w1 d, w' = put w1 B d ∧ Below w.heap.size w w1
theorem heap_push_last (w : World) (o : Obj) : (w.alloc o).heap[w.heap.size]? = some o := heap_alloc_last w o
/-- Three new blocks, kept. -/
theorem three1 {w w1 : World} {a b c : Array Value} {s t u : TypeId} (hb : Below (((w.alloc (.cells a s)).alloc (.cells b t)).alloc (.cells c u)).heap.size (((w.alloc (.cells a s)).alloc (.cells b t)).alloc (.cells c u)) w1) :
    w1 = put (put (put w1 w.heap.size a) (w.heap.size + 1) b) (w.heap.size + 1 + 1) c ∧ Below w.heap.size w w1 ∧ Inb w.heap.size w1 ∧ Inb (w.heap.size + 1) w1 ∧ Inb (w.heap.size + 1 + 1) w1 := by
  have hs := hb.size
  simp only [World.size_alloc] at hs
  have e3 : w1.heap[w.heap.size + 1 + 1]? = some (.cells c u (0, 0)) := by
    rw [hb.block _ (by simp)]
    have := heap_alloc_last ((w.alloc (.cells a s)).alloc (.cells b t)) (.cells c u)
    simpa using this
  have e2 : w1.heap[w.heap.size + 1]? = some (.cells b t (0, 0)) := by
    rw [hb.block _ (by simp)]
    have e0 : (((w.alloc (.cells a s)).alloc (.cells b t)).alloc (.cells c u)).heap[w.heap.size + 1]? = ((w.alloc (.cells a s)).alloc (.cells b t)).heap[w.heap.size + 1]? := by
      show (((w.alloc (.cells a s)).alloc (.cells b t)).heap.push (.cells c u))[w.heap.size + 1]? = _
      rw [Array.getElem?_push, if_neg (by simp)]
    rw [e0]
    have := heap_alloc_last (w.alloc (.cells a s)) (.cells b t)
    simpa using this
  have e1 : w1.heap[w.heap.size]? = some (.cells a s (0, 0)) := by
    rw [hb.block _ (by simp; omega)]
    have e0 : (((w.alloc (.cells a s)).alloc (.cells b t)).alloc (.cells c u)).heap[w.heap.size]? = some (.cells a s (0, 0)) := by
      have := heap_alloc_last w (.cells a s)
      show ((((w.alloc (.cells a s)).heap.push (.cells b t))).push (.cells c u))[w.heap.size]? = _
      rw [Array.getElem?_push, if_neg (by simp; omega), Array.getElem?_push, if_neg (by simp), this]
    rw [e0]
  refine ⟨?_, bt (by go_grown) hb, by unfold Inb; omega, by unfold Inb; omega, by unfold Inb; omega⟩
  rw [asput e1, asput e2, asput e3]
theorem results_done (tmps : Array Value) (w : World) (a b c : Nat) (x : Cyc) (r : R) (l : Bool) (hp : tmps.getD 4 undef = .pointer (some ⟨a, 0, none⟩)) (hq : tmps.getD 5 undef = .pointer (some ⟨b, 0, none⟩)) (hr : tmps.getD 6 undef = .pointer (some ⟨c, 0, none⟩))
    (ha : blk w a = x.cells) (hb : blk w b = r.cells) (hc : w.cell? ⟨c, 0, none⟩ = some (.bool l)) : (results Tryz.f20 tmps).run Tryz.prog w = .ok (.tuple #[.agg x.cells, .agg r.cells, .bool l]) w := by
  have e1 : (loadVar 28 ⟨a, 0, none⟩).run Tryz.prog w = .ok (.agg x.cells) w := by
    rw [ld_cyc, ld_cyc_run w a 0 (by rw [ha]; exact Nat.le_refl 4), ha]
    exact congrArg (fun y => Result.ok (Value.agg y) w) (Cyc.all x)
  have e2 : (loadVar 24 ⟨b, 0, none⟩).run Tryz.prog w = .ok (.agg r.cells) w := by
    rw [ld_regs, ld_regs_run w b 0 (by rw [hb]; exact Nat.le_refl 20), hb]
    exact congrArg (fun y => Result.ok (Value.agg y) w) (R.all r)
  have e3 : (loadVar 4 ⟨c, 0, none⟩).run Tryz.prog w = .ok (.bool l) w := by simp [go_sem, hc]
  unfold results
  rw [Tryz.results20]
  rw [Array.getD_eq_getD_getElem?] at hp hq hr
  simp [hp, hq, hr, e1, e2, e3, asAddr]
theorem put_asput {w : World} {B : Nat} {d : Array Value} {a b c : Array Value} {x y z : Nat} (h : w = put (put (put w x a) y b) z c) : put w B d = put (put (put (put w x a) y b) z c) B d := by rw [← h]
set_option maxHeartbeats 4000000 in
set_option maxRecDepth 20000 in
theorem doneNext_ (B : Nat) (X Y : Addr) (m : PM Unit) (s : PS) (w : World) (hI : Inv B w s.gv s.got) (hdo : ∀ W1, Below w.heap.size w W1 → Calls Tryz.prog 21 #[.pointer (some X), .pointer (some Y)] (put W1 B s.cells) (Post B W1 eU (run m s))) :
    Calls Tryz.prog 20 #[.pointer (some ⟨B, 0, none⟩), .func (.func 21) #[] #[.pointer (some X), .pointer (some Y)]] (put w B s.cells) (DonePost B w (run m s)) := by
  have hmf : ∀ (fn : Fn) (first cap : Array Value) (w : World), (Instr.makeFunc fn first cap).run Tryz.prog w = .ok (.func fn first cap) w := fun _ _ _ _ => rfl
  have hi := hI.inb
  have hD := Lib.hid hdo
  clear hdo
  have hB : B < w.heap.size := hi
  have hs0 : ¬ w.heap.size = B := by omega
  have hs1 : ¬ w.heap.size + 1 = B := by omega
  have hs2 : ¬ w.heap.size + 1 + 1 = B := by omega
  have c01 : ¬ w.heap.size = w.heap.size + 1 := by omega
  have c02 : ¬ w.heap.size = w.heap.size + 1 + 1 := by omega
  have c12 : ¬ w.heap.size + 1 = w.heap.size + 1 + 1 := by omega
  clear hB
  go_enter_defers Tryz.func20, Tryz.ntmps20
  go_wp2_with (go_at_call 21; refine (hD.out _ (by go_grown)).mono (Post.two (fun c s1 w1 hm hb hi => ?_) (fun v s1 w1 hm hb hI hi => ?_)))
  · obtain ⟨e1, hb1, i0, i1, i2⟩ := three1 hb
    rw [put_asput e1]
    clear e1 hb
    have hm' := Lib.hid hm
    clear hm
    refine leaves_cons (f := 40) (args := #[.pointer (some ⟨w.heap.size, 0, none⟩), .pointer (some ⟨w.heap.size + 1, 0, none⟩), .pointer (some ⟨w.heap.size + 1 + 1, 0, none⟩)]) (by simp) (by simp [go_sem]) ?_
    refine (done1_panicking w.heap.size (w.heap.size + 1) (w.heap.size + 1 + 1) B c Cyc0 R0 false _ w1 c01 c02 c12 hs0 hs1 hs2 i0 i1 i2 hi).mono ?_
    rintro e u' w'' ⟨rfl, rfl, w2, rfl, hb2⟩
    have i0' := i0.kept hb2
    have i1' := i1.kept hb2
    have i2' := i2.kept hb2
    have iB' := hi.kept hb2
    have hP : DonePost B w (.error c) (.returned (.tuple #[.agg c.cells, .agg R0.cells, .bool false])) (put (put (put (put w2 w.heap.size c.cells) (w.heap.size + 1) R0.cells) (w.heap.size + 1 + 1) #[.bool false]) B s1.cells) := ⟨rfl, _, _, rfl, below_put (below_put (below_put (bt hb1 hb2) (Nat.le_refl _)) (by omega)) (by omega)⟩
    exact ⟨_, results_done _ _ w.heap.size (w.heap.size + 1) (w.heap.size + 1 + 1) c R0 false rfl rfl rfl (by simp [go_sem, dres, hs0, c02, i0']) (by simp [go_sem, dres, hs1, i1']) (by simp [go_sem, dres, hs2, i2']), hP⟩
  · obtain ⟨e1, hb1, i0, i1, i2⟩ := three1 hb
    rw [put_asput e1]
    clear e1 hb
    have hm' := Lib.hid hm
    clear hm
    go_wp2
    go_region
    all_goals (try go_wp2)
    refine leaves_cons (f := 40) (args := #[.pointer (some ⟨w.heap.size, 0, none⟩), .pointer (some ⟨w.heap.size + 1, 0, none⟩), .pointer (some ⟨w.heap.size + 1 + 1, 0, none⟩)]) (by simp) (by simp [go_sem]) ?_
    refine (done1_idle ⟨w.heap.size, 0, none⟩ ⟨w.heap.size + 1, 0, none⟩ ⟨w.heap.size + 1 + 1, 0, none⟩ _).mono ?_
    rintro e u' w'' ⟨rfl, rfl, rfl⟩
    have hb2 : Below w.heap.size w w1.drew := hb1.trans ((Below.refl _ _).drew.mono hb1.size)
    have hP : DonePost B w (run m s) (.returned (.tuple #[.agg Cyc0.cells, .agg s1.r.cells, .bool true])) (put (put (put (put w1.drew w.heap.size Cyc0.cells) (w.heap.size + 1) s1.r.cells) (w.heap.size + 1 + 1) #[.bool true]) B s1.cells) := ⟨by rw [hm'.out]; rfl, _, _, rfl, below_put (below_put (below_put hb2 (Nat.le_refl _)) (by omega)) (by omega)⟩
    exact ⟨_, results_done _ _ w.heap.size (w.heap.size + 1) (w.heap.size + 1 + 1) Cyc0 s1.r true rfl rfl rfl (by simp [go_sem, hs0, c02, i0]) (by simp [go_sem, hs1, i1]) (by simp [go_sem, hs2, i2]), hP⟩
end Go.Proofs.YtnaampdpkegacaaGreatDoor
