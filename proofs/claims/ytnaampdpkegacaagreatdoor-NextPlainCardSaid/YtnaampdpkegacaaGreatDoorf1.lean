/-
  Contracts of the closure that next's done defers. A helper of the claim that stands beside it.
-/
import Derived.Defers
import Derived.Recover
import Derived.Test.YtnaampdpkegacaaGreatDoore1
namespace Go.Proofs.YtnaampdpkegacaaGreatDoor
open Go.RowKit

theorem nilneq (w : World) : (binOp .neq 20 .nilIface .nilIface).run Tryz.prog w = .ok (.bool false) w := by kernel_rfl
theorem ifneq (v : Value) (w : World) : (binOp .neq 20 (.iface 68 v) .nilIface).run Tryz.prog w = .ok (.bool true) w := by kernel_rfl
theorem tas (v : Value) (w : World) : (Instr.typeAssert (.iface 68 v) 20 68 true).run Tryz.prog w = .ok (.tuple #[v, .bool true]) w := by kernel_rfl
theorem done1_idle (a b c : Addr) (w : World) :
    CallsD Tryz.prog 40 #[.pointer (some a), .pointer (some b), .pointer (some c)] .returning w fun e u' w' => e = .returned (.tuple #[]) ∧ u' = .returning ∧ w' = w := by
  refine callsD_of_wpS Tryz.func40 rfl fun c₀ cs hu => ?_
  apply wpS_seq
  apply wpS_region
  simp [wpOpsS, go_sem, recoverD, hu, Tryz.ntmps40, Exit.thenS]
  refine wpS_of_wp ?_
  rw [show (#[Value.pointer (some a), .pointer (some b), .pointer (some c)] ++ ((Array.replicate 17 undef).setIfInBounds 3 Value.nilIface).setIfInBounds 0 Value.nilIface) = #[Value.pointer (some a), .pointer (some b), .pointer (some c), .nilIface, undef, undef, .nilIface, undef, undef, undef, undef, undef, undef, undef, undef, undef, undef, undef, undef, undef] by kernel_rfl]
  have hn := nilneq
  have hu2 := Lib.hid hu
  clear hu
  go_wp2
  have hu := hu2.out
  cases c₀
  simp_all [bodyPostS, results, Tryz.results40]
def Cyc0 : Cyc := ⟨0, u16 0, u8 0, 0⟩
theorem Cyc0.fold : #[Value.int .i64 0, .int .u16 0, .int .u8 0, .int .i64 0] = Cyc0.cells := rfl
theorem Cyc.size (c : Cyc) : c.cells.size = 4 := rfl
theorem Cyc.len (c : Cyc) : c.cells.toList.length = 4 := rfl
theorem Cyc.all (c : Cyc) : c.cells.extract 0 4 = c.cells := by simp [Cyc.cells]
theorem Cyc.lay (a c : Cyc) : ov a.cells 0 c.cells.toList = c.cells := by simp [ov, Cyc.cells]
attribute [go_sem] Cyc0.fold Cyc.size Cyc.len Cyc.all Cyc.lay
@[go_sem ↓ high] theorem ld_cyc (a : Addr) : loadVar 28 a = ld 28 a := rfl
@[go_sem ↓ high] theorem st_cyc (a : Addr) (v : Value) : storeVar 28 a v = st 28 a v := rfl
@[go_sem] theorem ld_cyc_run (w : World) (n o : Nat) (h : o + 4 ≤ (blk w n).size) : (ld 28 ⟨n, o, none⟩).run Tryz.prog w = .ok (.agg ((blk w n).extract o (o + 4))) w := by
  unfold ld loadVar
  rw [Sem.run_bind, Tryz.isAgg28, Result.andThen_ok]
  simp only [if_true]
  rw [Sem.run_bind, Tryz.sizeOf28, Result.andThen_ok]
  unfold loadCells
  rw [Sem.run_bind, ldCells w n o 4 h]
  rfl
@[go_sem] theorem st_cyc_run (w : World) (n o : Nat) (c : Cyc) (ht : w.there n o (3 + 1)) : (st 28 ⟨n, o, none⟩ (.agg c.cells)).run Tryz.prog w = .ok () (w.setCells n o c.cells.toList) := by
  unfold st storeVar
  rw [Sem.run_bind, Tryz.sizeOf28, Result.andThen_ok]
  have e : (Value.agg c.cells).cells = c.cells := rfl
  rw [e, if_neg (by simp [Cyc.cells])]
  exact stCells w n o c.cells.toList ht (by simp [Cyc.cells, Value.oneCell'])
@[go_sem ↓ high] theorem ld_askd (a : Addr) : loadVar 68 a = ld 68 a := rfl
@[go_sem ↓ high] theorem st_askd (a : Addr) (v : Value) : storeVar 68 a v = st 68 a v := rfl
@[go_sem] theorem ld_askd_run (w : World) (n o : Nat) (h : o + 4 ≤ (blk w n).size) : (ld 68 ⟨n, o, none⟩).run Tryz.prog w = .ok (.agg ((blk w n).extract o (o + 4))) w := by
  unfold ld loadVar
  rw [Sem.run_bind, Tryz.isAgg68, Result.andThen_ok]
  simp only [if_true]
  rw [Sem.run_bind, Tryz.sizeOf68, Result.andThen_ok]
  unfold loadCells
  rw [Sem.run_bind, ldCells w n o 4 h]
  rfl
@[go_sem] theorem st_askd_run (w : World) (n o : Nat) (c : Cyc) (ht : w.there n o (3 + 1)) : (st 68 ⟨n, o, none⟩ (.agg c.cells)).run Tryz.prog w = .ok () (w.setCells n o c.cells.toList) := by
  unfold st storeVar
  rw [Sem.run_bind, Tryz.sizeOf68, Result.andThen_ok]
  have e : (Value.agg c.cells).cells = c.cells := rfl
  rw [e, if_neg (by simp [Cyc.cells])]
  exact stCells w n o c.cells.toList ht (by simp [Cyc.cells, Value.oneCell'])
/-- The world with done's results told. -/
def dres (w : World) (a b c : Nat) (x : Cyc) (r : R) (l : Bool) : World := put (put (put w a x.cells) b r.cells) c #[.bool l]
def DnPost (a b c B : Nat) (cy : Cyc) (d : Array Value) (w : World) (e : Ending) (u : FrameMode) (w' : World) : Prop := e = .returned (.tuple #[]) ∧ u = .panicking ({ v := .iface 68 (.agg cy.cells), recovered := true } :: []) ∧ ∃ w1, w' = put (dres w1 a b c cy R0 false) B d ∧ Below w.heap.size w w1
set_option maxHeartbeats 2000000 in
theorem done1_panicking (a b c B : Nat) (cy x : Cyc) (r : R) (l : Bool) (d : Array Value) (w : World) (hab : ¬ a = b) (hac : ¬ a = c) (hbc : ¬ b = c) (haB : ¬ a = B) (hbB : ¬ b = B) (hcB : ¬ c = B) (ha : Inb a w) (hb : Inb b w) (hc : Inb c w) (hB : Inb B w) :
    CallsD Tryz.prog 40 #[.pointer (some ⟨a, 0, none⟩), .pointer (some ⟨b, 0, none⟩), .pointer (some ⟨c, 0, none⟩)] (.panicking ({ v := .iface 68 (.agg cy.cells), recovered := false } :: [])) (put (dres w a b c x r l) B d) (DnPost a b c B cy d w) := by
  refine callsD_of_wpS Tryz.func40 rfl fun c₀ cs hu => ?_
  apply wpS_seq
  apply wpS_region
  simp [wpOpsS, go_sem, recoverD, hu, Tryz.ntmps40, Exit.thenS]
  refine wpS_of_wp ?_
  rw [show (#[Value.pointer (some ⟨a, 0, none⟩), .pointer (some ⟨b, 0, none⟩), .pointer (some ⟨c, 0, none⟩)] ++ ((Array.replicate 17 undef).setIfInBounds 3 (Value.iface 68 (Value.agg cy.cells))).setIfInBounds 0 (Value.iface 68 (Value.agg cy.cells))) = #[Value.pointer (some ⟨a, 0, none⟩), .pointer (some ⟨b, 0, none⟩), .pointer (some ⟨c, 0, none⟩), .iface 68 (Value.agg cy.cells), undef, undef, .iface 68 (Value.agg cy.cells), undef, undef, undef, undef, undef, undef, undef, undef, undef, undef, undef, undef, undef] by kernel_rfl]
  have hn := ifneq
  have ht := tas
  have hu2 := Lib.hid hu
  clear hu
  have hwa : ¬ w.heap.size = a := ha.ne
  have hwb : ¬ w.heap.size = b := hb.ne
  have hwc : ¬ w.heap.size = c := hc.ne
  have hwB : ¬ w.heap.size = B := hB.ne
  unfold dres
  go_wp2
  have hP : DnPost a b c B cy d w (.returned (.tuple #[])) (.panicking ({ v := .iface 68 (.agg cy.cells), recovered := true } :: [])) (put (dres (w.alloc (.cells cy.cells 68)) a b c cy R0 false) B d) := ⟨rfl, rfl, _, rfl, (Below.refl _ _).alloc (Nat.le_refl _) _⟩
  unfold dres at hP
  cases c₀
  simp [bodyPostS, results, Tryz.results40, hP]
end Go.Proofs.YtnaampdpkegacaaGreatDoor
