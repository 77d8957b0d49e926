/-
  The registers and the work of next as cells of a block; worlds with one block told. A helper of the claim that stands beside it. (Printed by wip/genj.py.)
-/
import Derived.Deep.MidRow
import Derived.Deep.WholeRow
import Derived.Test.YtnaampdpkegacaaGreatDoorH
import Derived.StillTailTactics

namespace Go.Proofs.YtnaampdpkegacaaGreatDoor
open Go.RowKit

@[ext] structure U16 where
  v : Int
  h0 : 0 ≤ v
  h1 : v ≤ 65535
@[ext] structure U8 where
  v : Int
  h0 : 0 ≤ v
  h1 : v ≤ 255
def u16 (x : Int) : U16 := ⟨x % 65536, by omega, by omega⟩
def u8 (x : Int) : U8 := ⟨x % 256, by omega, by omega⟩
def U16.hi (x : U16) : U8 := ⟨hiB x.v, hiB_0 _, hiB_1 _⟩
def U16.lo (x : U16) : U8 := ⟨loB x.v, loB_0 _, loB_1 _⟩
def U8.word (h l : U8) : U16 := ⟨wrd h.v l.v, by have := h.h0; have := l.h0; unfold wrd; omega, by have := h.h1; have := l.h1; unfold wrd; omega⟩

structure R where
  af : U16
  bc : U16
  de : U16
  hl : U16
  af2 : U16
  bc2 : U16
  de2 : U16
  hl2 : U16
  ix : U16
  iy : U16
  sp : U16
  pc : U16
  wz : U16
  i : U8
  r : U8
  iff1 : Bool
  iff2 : Bool
  halted : Bool
  late : Bool
  mode : Int
def R.cells (r : R) : Array Value := #[.int .u16 r.af.v, .int .u16 r.bc.v, .int .u16 r.de.v, .int .u16 r.hl.v, .int .u16 r.af2.v, .int .u16 r.bc2.v, .int .u16 r.de2.v, .int .u16 r.hl2.v, .int .u16 r.ix.v, .int .u16 r.iy.v, .int .u16 r.sp.v, .int .u16 r.pc.v, .int .u16 r.wz.v, .int .u8 r.i.v, .int .u8 r.r.v, .bool r.iff1, .bool r.iff2, .bool r.halted, .bool r.late, .int .i64 r.mode]
/-- The work, but for the answers. -/
structure CS where
  r : R
  plane : Int
  code : U8
  x : Int
  y : Int
  z : Int
  p : Int
  q : Int
  at' : U16
  known : Bool
structure PS extends CS where
  gv : Value
  got : List U8
def PS.cells (s : PS) : Array Value := #[.int .u16 s.r.af.v, .int .u16 s.r.bc.v, .int .u16 s.r.de.v, .int .u16 s.r.hl.v, .int .u16 s.r.af2.v, .int .u16 s.r.bc2.v, .int .u16 s.r.de2.v, .int .u16 s.r.hl2.v, .int .u16 s.r.ix.v, .int .u16 s.r.iy.v, .int .u16 s.r.sp.v, .int .u16 s.r.pc.v, .int .u16 s.r.wz.v, .int .u8 s.r.i.v, .int .u8 s.r.r.v, .bool s.r.iff1, .bool s.r.iff2, .bool s.r.halted, .bool s.r.late, .int .i64 s.r.mode, s.gv, .int .i64 s.plane, .int .u8 s.code.v, .int .i64 s.x, .int .i64 s.y, .int .i64 s.z, .int .i64 s.p, .int .i64 s.q, .int .u16 s.at'.v, .bool s.known]
@[go_sem] theorem PS.get0 (s : PS) : s.cells[0]? = some (.int .u16 s.r.af.v) := rfl
@[go_sem] theorem PS.set0 (s : PS) (v : U16) : s.cells.setIfInBounds 0 (.int .u16 v.v) = PS.cells { s with r := { s.r with af := v } } := rfl
@[go_sem] theorem PS.get1 (s : PS) : s.cells[1]? = some (.int .u16 s.r.bc.v) := rfl
@[go_sem] theorem PS.set1 (s : PS) (v : U16) : s.cells.setIfInBounds 1 (.int .u16 v.v) = PS.cells { s with r := { s.r with bc := v } } := rfl
@[go_sem] theorem PS.get2 (s : PS) : s.cells[2]? = some (.int .u16 s.r.de.v) := rfl
@[go_sem] theorem PS.set2 (s : PS) (v : U16) : s.cells.setIfInBounds 2 (.int .u16 v.v) = PS.cells { s with r := { s.r with de := v } } := rfl
@[go_sem] theorem PS.get3 (s : PS) : s.cells[3]? = some (.int .u16 s.r.hl.v) := rfl
@[go_sem] theorem PS.set3 (s : PS) (v : U16) : s.cells.setIfInBounds 3 (.int .u16 v.v) = PS.cells { s with r := { s.r with hl := v } } := rfl
@[go_sem] theorem PS.get4 (s : PS) : s.cells[4]? = some (.int .u16 s.r.af2.v) := rfl
@[go_sem] theorem PS.set4 (s : PS) (v : U16) : s.cells.setIfInBounds 4 (.int .u16 v.v) = PS.cells { s with r := { s.r with af2 := v } } := rfl
@[go_sem] theorem PS.get5 (s : PS) : s.cells[5]? = some (.int .u16 s.r.bc2.v) := rfl
@[go_sem] theorem PS.set5 (s : PS) (v : U16) : s.cells.setIfInBounds 5 (.int .u16 v.v) = PS.cells { s with r := { s.r with bc2 := v } } := rfl
@[go_sem] theorem PS.get6 (s : PS) : s.cells[6]? = some (.int .u16 s.r.de2.v) := rfl
@[go_sem] theorem PS.set6 (s : PS) (v : U16) : s.cells.setIfInBounds 6 (.int .u16 v.v) = PS.cells { s with r := { s.r with de2 := v } } := rfl
@[go_sem] theorem PS.get7 (s : PS) : s.cells[7]? = some (.int .u16 s.r.hl2.v) := rfl
@[go_sem] theorem PS.set7 (s : PS) (v : U16) : s.cells.setIfInBounds 7 (.int .u16 v.v) = PS.cells { s with r := { s.r with hl2 := v } } := rfl
@[go_sem] theorem PS.get8 (s : PS) : s.cells[8]? = some (.int .u16 s.r.ix.v) := rfl
@[go_sem] theorem PS.set8 (s : PS) (v : U16) : s.cells.setIfInBounds 8 (.int .u16 v.v) = PS.cells { s with r := { s.r with ix := v } } := rfl
@[go_sem] theorem PS.get9 (s : PS) : s.cells[9]? = some (.int .u16 s.r.iy.v) := rfl
@[go_sem] theorem PS.set9 (s : PS) (v : U16) : s.cells.setIfInBounds 9 (.int .u16 v.v) = PS.cells { s with r := { s.r with iy := v } } := rfl
@[go_sem] theorem PS.get10 (s : PS) : s.cells[10]? = some (.int .u16 s.r.sp.v) := rfl
@[go_sem] theorem PS.set10 (s : PS) (v : U16) : s.cells.setIfInBounds 10 (.int .u16 v.v) = PS.cells { s with r := { s.r with sp := v } } := rfl
@[go_sem] theorem PS.get11 (s : PS) : s.cells[11]? = some (.int .u16 s.r.pc.v) := rfl
@[go_sem] theorem PS.set11 (s : PS) (v : U16) : s.cells.setIfInBounds 11 (.int .u16 v.v) = PS.cells { s with r := { s.r with pc := v } } := rfl
@[go_sem] theorem PS.get12 (s : PS) : s.cells[12]? = some (.int .u16 s.r.wz.v) := rfl
@[go_sem] theorem PS.set12 (s : PS) (v : U16) : s.cells.setIfInBounds 12 (.int .u16 v.v) = PS.cells { s with r := { s.r with wz := v } } := rfl
@[go_sem] theorem PS.get13 (s : PS) : s.cells[13]? = some (.int .u8 s.r.i.v) := rfl
@[go_sem] theorem PS.set13 (s : PS) (v : U8) : s.cells.setIfInBounds 13 (.int .u8 v.v) = PS.cells { s with r := { s.r with i := v } } := rfl
@[go_sem] theorem PS.get14 (s : PS) : s.cells[14]? = some (.int .u8 s.r.r.v) := rfl
@[go_sem] theorem PS.set14 (s : PS) (v : U8) : s.cells.setIfInBounds 14 (.int .u8 v.v) = PS.cells { s with r := { s.r with r := v } } := rfl
@[go_sem] theorem PS.get15 (s : PS) : s.cells[15]? = some (.bool s.r.iff1) := rfl
@[go_sem] theorem PS.set15 (s : PS) (v : Bool) : s.cells.setIfInBounds 15 (.bool v) = PS.cells { s with r := { s.r with iff1 := v } } := rfl
@[go_sem] theorem PS.get16 (s : PS) : s.cells[16]? = some (.bool s.r.iff2) := rfl
@[go_sem] theorem PS.set16 (s : PS) (v : Bool) : s.cells.setIfInBounds 16 (.bool v) = PS.cells { s with r := { s.r with iff2 := v } } := rfl
@[go_sem] theorem PS.get17 (s : PS) : s.cells[17]? = some (.bool s.r.halted) := rfl
@[go_sem] theorem PS.set17 (s : PS) (v : Bool) : s.cells.setIfInBounds 17 (.bool v) = PS.cells { s with r := { s.r with halted := v } } := rfl
@[go_sem] theorem PS.get18 (s : PS) : s.cells[18]? = some (.bool s.r.late) := rfl
@[go_sem] theorem PS.set18 (s : PS) (v : Bool) : s.cells.setIfInBounds 18 (.bool v) = PS.cells { s with r := { s.r with late := v } } := rfl
@[go_sem] theorem PS.get19 (s : PS) : s.cells[19]? = some (.int .i64 s.r.mode) := rfl
@[go_sem] theorem PS.set19 (s : PS) (v : Int) : s.cells.setIfInBounds 19 (.int .i64 v) = PS.cells { s with r := { s.r with mode := v } } := rfl
@[go_sem] theorem PS.get20 (s : PS) : s.cells[20]? = some (s.gv) := rfl
@[go_sem] theorem PS.set20 (s : PS) (v : Value) : s.cells.setIfInBounds 20 (v) = PS.cells { s with gv := v } := rfl
@[go_sem] theorem PS.get21 (s : PS) : s.cells[21]? = some (.int .i64 s.plane) := rfl
@[go_sem] theorem PS.set21 (s : PS) (v : Int) : s.cells.setIfInBounds 21 (.int .i64 v) = PS.cells { s with plane := v } := rfl
@[go_sem] theorem PS.get22 (s : PS) : s.cells[22]? = some (.int .u8 s.code.v) := rfl
@[go_sem] theorem PS.set22 (s : PS) (v : U8) : s.cells.setIfInBounds 22 (.int .u8 v.v) = PS.cells { s with code := v } := rfl
@[go_sem] theorem PS.get23 (s : PS) : s.cells[23]? = some (.int .i64 s.x) := rfl
@[go_sem] theorem PS.set23 (s : PS) (v : Int) : s.cells.setIfInBounds 23 (.int .i64 v) = PS.cells { s with x := v } := rfl
@[go_sem] theorem PS.get24 (s : PS) : s.cells[24]? = some (.int .i64 s.y) := rfl
@[go_sem] theorem PS.set24 (s : PS) (v : Int) : s.cells.setIfInBounds 24 (.int .i64 v) = PS.cells { s with y := v } := rfl
@[go_sem] theorem PS.get25 (s : PS) : s.cells[25]? = some (.int .i64 s.z) := rfl
@[go_sem] theorem PS.set25 (s : PS) (v : Int) : s.cells.setIfInBounds 25 (.int .i64 v) = PS.cells { s with z := v } := rfl
@[go_sem] theorem PS.get26 (s : PS) : s.cells[26]? = some (.int .i64 s.p) := rfl
@[go_sem] theorem PS.set26 (s : PS) (v : Int) : s.cells.setIfInBounds 26 (.int .i64 v) = PS.cells { s with p := v } := rfl
@[go_sem] theorem PS.get27 (s : PS) : s.cells[27]? = some (.int .i64 s.q) := rfl
@[go_sem] theorem PS.set27 (s : PS) (v : Int) : s.cells.setIfInBounds 27 (.int .i64 v) = PS.cells { s with q := v } := rfl
@[go_sem] theorem PS.get28 (s : PS) : s.cells[28]? = some (.int .u16 s.at'.v) := rfl
@[go_sem] theorem PS.set28 (s : PS) (v : U16) : s.cells.setIfInBounds 28 (.int .u16 v.v) = PS.cells { s with at' := v } := rfl
@[go_sem] theorem PS.get29 (s : PS) : s.cells[29]? = some (.bool s.known) := rfl
@[go_sem] theorem PS.set29 (s : PS) (v : Bool) : s.cells.setIfInBounds 29 (.bool v) = PS.cells { s with known := v } := rfl
@[go_sem] theorem R.get0 (r : R) : r.cells[0]? = some (.int .u16 r.af.v) := rfl
@[go_sem] theorem R.set0 (r : R) (v : U16) : r.cells.setIfInBounds 0 (.int .u16 v.v) = R.cells { r with af := v } := rfl
@[go_sem] theorem R.get1 (r : R) : r.cells[1]? = some (.int .u16 r.bc.v) := rfl
@[go_sem] theorem R.set1 (r : R) (v : U16) : r.cells.setIfInBounds 1 (.int .u16 v.v) = R.cells { r with bc := v } := rfl
@[go_sem] theorem R.get2 (r : R) : r.cells[2]? = some (.int .u16 r.de.v) := rfl
@[go_sem] theorem R.set2 (r : R) (v : U16) : r.cells.setIfInBounds 2 (.int .u16 v.v) = R.cells { r with de := v } := rfl
@[go_sem] theorem R.get3 (r : R) : r.cells[3]? = some (.int .u16 r.hl.v) := rfl
@[go_sem] theorem R.set3 (r : R) (v : U16) : r.cells.setIfInBounds 3 (.int .u16 v.v) = R.cells { r with hl := v } := rfl
@[go_sem] theorem R.get4 (r : R) : r.cells[4]? = some (.int .u16 r.af2.v) := rfl
@[go_sem] theorem R.set4 (r : R) (v : U16) : r.cells.setIfInBounds 4 (.int .u16 v.v) = R.cells { r with af2 := v } := rfl
@[go_sem] theorem R.get5 (r : R) : r.cells[5]? = some (.int .u16 r.bc2.v) := rfl
@[go_sem] theorem R.set5 (r : R) (v : U16) : r.cells.setIfInBounds 5 (.int .u16 v.v) = R.cells { r with bc2 := v } := rfl
@[go_sem] theorem R.get6 (r : R) : r.cells[6]? = some (.int .u16 r.de2.v) := rfl
@[go_sem] theorem R.set6 (r : R) (v : U16) : r.cells.setIfInBounds 6 (.int .u16 v.v) = R.cells { r with de2 := v } := rfl
@[go_sem] theorem R.get7 (r : R) : r.cells[7]? = some (.int .u16 r.hl2.v) := rfl
@[go_sem] theorem R.set7 (r : R) (v : U16) : r.cells.setIfInBounds 7 (.int .u16 v.v) = R.cells { r with hl2 := v } := rfl
@[go_sem] theorem R.get8 (r : R) : r.cells[8]? = some (.int .u16 r.ix.v) := rfl
@[go_sem] theorem R.set8 (r : R) (v : U16) : r.cells.setIfInBounds 8 (.int .u16 v.v) = R.cells { r with ix := v } := rfl
@[go_sem] theorem R.get9 (r : R) : r.cells[9]? = some (.int .u16 r.iy.v) := rfl
@[go_sem] theorem R.set9 (r : R) (v : U16) : r.cells.setIfInBounds 9 (.int .u16 v.v) = R.cells { r with iy := v } := rfl
@[go_sem] theorem R.get10 (r : R) : r.cells[10]? = some (.int .u16 r.sp.v) := rfl
@[go_sem] theorem R.set10 (r : R) (v : U16) : r.cells.setIfInBounds 10 (.int .u16 v.v) = R.cells { r with sp := v } := rfl
@[go_sem] theorem R.get11 (r : R) : r.cells[11]? = some (.int .u16 r.pc.v) := rfl
@[go_sem] theorem R.set11 (r : R) (v : U16) : r.cells.setIfInBounds 11 (.int .u16 v.v) = R.cells { r with pc := v } := rfl
@[go_sem] theorem R.get12 (r : R) : r.cells[12]? = some (.int .u16 r.wz.v) := rfl
@[go_sem] theorem R.set12 (r : R) (v : U16) : r.cells.setIfInBounds 12 (.int .u16 v.v) = R.cells { r with wz := v } := rfl
@[go_sem] theorem R.get13 (r : R) : r.cells[13]? = some (.int .u8 r.i.v) := rfl
@[go_sem] theorem R.set13 (r : R) (v : U8) : r.cells.setIfInBounds 13 (.int .u8 v.v) = R.cells { r with i := v } := rfl
@[go_sem] theorem R.get14 (r : R) : r.cells[14]? = some (.int .u8 r.r.v) := rfl
@[go_sem] theorem R.set14 (r : R) (v : U8) : r.cells.setIfInBounds 14 (.int .u8 v.v) = R.cells { r with r := v } := rfl
@[go_sem] theorem R.get15 (r : R) : r.cells[15]? = some (.bool r.iff1) := rfl
@[go_sem] theorem R.set15 (r : R) (v : Bool) : r.cells.setIfInBounds 15 (.bool v) = R.cells { r with iff1 := v } := rfl
@[go_sem] theorem R.get16 (r : R) : r.cells[16]? = some (.bool r.iff2) := rfl
@[go_sem] theorem R.set16 (r : R) (v : Bool) : r.cells.setIfInBounds 16 (.bool v) = R.cells { r with iff2 := v } := rfl
@[go_sem] theorem R.get17 (r : R) : r.cells[17]? = some (.bool r.halted) := rfl
@[go_sem] theorem R.set17 (r : R) (v : Bool) : r.cells.setIfInBounds 17 (.bool v) = R.cells { r with halted := v } := rfl
@[go_sem] theorem R.get18 (r : R) : r.cells[18]? = some (.bool r.late) := rfl
@[go_sem] theorem R.set18 (r : R) (v : Bool) : r.cells.setIfInBounds 18 (.bool v) = R.cells { r with late := v } := rfl
@[go_sem] theorem R.get19 (r : R) : r.cells[19]? = some (.int .i64 r.mode) := rfl
@[go_sem] theorem R.set19 (r : R) (v : Int) : r.cells.setIfInBounds 19 (.int .i64 v) = R.cells { r with mode := v } := rfl
@[go_sem] theorem PS.size (s : PS) : s.cells.size = 30 := rfl

def R0 : R := ⟨u16 0, u16 0, u16 0, u16 0, u16 0, u16 0, u16 0, u16 0, u16 0, u16 0, u16 0, u16 0, u16 0, u8 0, u8 0, false, false, false, false, 0⟩
@[go_sem] theorem R0.fold : (#[.int .u16 0, .int .u16 0, .int .u16 0, .int .u16 0, .int .u16 0, .int .u16 0, .int .u16 0, .int .u16 0, .int .u16 0, .int .u16 0, .int .u16 0, .int .u16 0, .int .u16 0, .int .u8 0, .int .u8 0, .bool false, .bool false, .bool false, .bool false, .int .i64 0] : Array Value) = R0.cells := rfl

/-- The world with block B's cells told. -/
def put (w : World) (B : Nat) (c : Array Value) : World := { w with heap := w.heap.modify B fun | .cells _ t _ => .cells c t (0, 0) | _ => .cells c 0 (0, 0) }
theorem put_size (w : World) (B : Nat) (c : Array Value) : (put w B c).heap.size = w.heap.size := by simp [put]
/-- B is a block of w. -/
def Inb (B : Nat) (w : World) : Prop := B < w.heap.size
theorem inb_alloc (B : Nat) (w : World) (o : Obj) : Inb B (w.alloc o) = (Inb B w ∨ B = w.heap.size) := by
  simp only [Inb, World.size_alloc, eq_iff_iff]; omega
theorem inb_drew (B : Nat) (w : World) : Inb B w.drew = Inb B w := propext Iff.rfl
theorem inb_set (B : Nat) (w : World) (a : Addr) (v : Value) : Inb B (w.setCell a v) = Inb B w := by simp [Inb]
theorem inb_put (B C : Nat) (w : World) (c : Array Value) : Inb B (put w C c) = Inb B w := by simp [Inb, put_size]
theorem put_at {w : World} {B : Nat} (h : Inb B w) (c : Array Value) : ∃ t, (put w B c).heap[B]? = some (.cells c t (0, 0)) := by
  have h : B < w.heap.size := h
  simp only [put, Array.getElem?_modify, if_true, Array.getElem?_eq_getElem h, Option.map_some]
  cases w.heap[B] <;> exact ⟨_, rfl⟩
theorem put_off {w : World} {B k : Nat} (h : k ≠ B) (c : Array Value) : (put w B c).heap[k]? = w.heap[k]? := by
  simp [put, Array.getElem?_modify, Ne.symm h]
theorem put_cell {w : World} {B : Nat} (h : Inb B w) (c : Array Value) (i : Nat) : (put w B c).cell? ⟨B, i, none⟩ = c[i]? := by
  obtain ⟨t, ht⟩ := put_at h c
  simp [World.cell?, ht]
theorem put_frozen {w : World} {B : Nat} (h : Inb B w) (c : Array Value) (i : Nat) : (put w B c).frozen? ⟨B, i, none⟩ = false := by
  obtain ⟨t, ht⟩ := put_at h c
  simp [World.frozen?, ht]
theorem put_cell_off {w : World} {B n : Nat} (h : n ≠ B) (c : Array Value) (i : Nat) : (put w B c).cell? ⟨n, i, none⟩ = w.cell? ⟨n, i, none⟩ := by
  simp [World.cell?, put_off h]
theorem put_frozen_off {w : World} {B n : Nat} (h : n ≠ B) (c : Array Value) (i : Nat) : (put w B c).frozen? ⟨n, i, none⟩ = w.frozen? ⟨n, i, none⟩ := by
  simp [World.frozen?, put_off h]
theorem put_setCell {w : World} {B : Nat} (c : Array Value) (i : Nat) (v : Value) : (put w B c).setCell ⟨B, i, none⟩ v = put w B (c.setIfInBounds i v) := by
  unfold put World.setCell
  congr 1
  apply Array.ext_getElem?
  intro k
  simp only [Array.getElem?_modify]
  by_cases hk : B = k
  · subst hk
    simp only [if_true]
    cases w.heap[B]? with
    | none => rfl
    | some o => cases o <;> rfl
  · simp [hk]
theorem put_setCell_off {w : World} {B n : Nat} (h : n ≠ B) (c : Array Value) (i : Nat) (v : Value) : (put w B c).setCell ⟨n, i, none⟩ v = put (w.setCell ⟨n, i, none⟩ v) B c := by
  unfold put World.setCell
  congr 1
  apply Array.ext_getElem?
  intro k
  simp only [Array.getElem?_modify]
  by_cases hk : B = k
  · subst hk; simp [h]
  · simp [hk]
theorem put_alloc {w : World} {B : Nat} (h : Inb B w) (c : Array Value) (o : Obj) : (put w B c).alloc o = put (w.alloc o) B c := by
  unfold put World.alloc
  congr 1
  apply Array.ext_getElem?
  intro k
  simp only [Array.getElem?_modify, Array.getElem?_push, Array.size_modify]
  by_cases hk : k = w.heap.size
  · subst hk; have h : B < w.heap.size := h; simp [Nat.ne_of_lt h]
  · simp [hk]
theorem put_drew (w : World) (B : Nat) (c : Array Value) : (put w B c).drew = put w.drew B c := rfl
theorem put_put (w : World) (B : Nat) (c d : Array Value) : put (put w B c) B d = put w B d := by
  unfold put
  congr 1
  apply Array.ext_getElem?
  intro k
  simp only [Array.getElem?_modify]
  by_cases hk : B = k
  · subst hk
    simp only [if_true]
    cases w.heap[B]? with
    | none => rfl
    | some o => cases o <;> rfl
  · simp [hk]
theorem lts {B n : Nat} (h : B < n) : B < n + 1 := by omega
theorem ltne {B n : Nat} (h : B < n) : ¬ n = B := by omega
/-- What came of a call that knows nothing of B. -/
theorem unput {w w' : World} {B : Nat} {c : Array Value} (hB : Inb B w) (h : Below (put w B c).heap.size (put w B c) w') : ∃ w1, w' = put w1 B c ∧ Below w.heap.size w w1 := by
  have hB' : B < w.heap.size := hB
  refine ⟨{ w' with heap := w'.heap.modify B fun _ => w.heap[B] }, ?_, h.os, h.tape, h.output, ?_, ?_⟩
  · unfold put
    cases w' with
    | mk hp tp dr os ou =>
    simp only
    congr 1
    apply Array.ext_getElem?
    intro k
    simp only [Array.getElem?_modify]
    by_cases hk : B = k
    · subst hk
      have e := h.block B (by rw [put_size]; exact hB')
      obtain ⟨t, ht⟩ := put_at hB c
      simp only [ht] at e
      have hb : B < hp.size := Nat.lt_of_lt_of_le hB' (by have := h.size; rw [put_size] at this; exact this)
      simp only [if_true, e, Option.map_some]
      congr 1
      have e2 : (put w B c).heap[B]? = some ((match w.heap[B] with | .cells _ t _ => Obj.cells c t (0, 0) | _ => .cells c 0 (0, 0))) := by
        simp only [put, Array.getElem?_modify, if_true, Array.getElem?_eq_getElem hB', Option.map_some]
      rw [ht] at e2
      exact Option.some.inj e2
    · simp [hk]
  · have := h.size; rw [put_size] at this; simpa using this
  · intro k hk
    by_cases e : k = B
    · subst e
      have hb : k < w'.heap.size := Nat.lt_of_lt_of_le hB' (by have := h.size; rw [put_size] at this; exact this)
      simp [Array.getElem?_modify, Array.getElem?_eq_getElem hb, Array.getElem?_eq_getElem hk]
    · have := h.block k (by rw [put_size]; exact hk)
      rw [put_off e] at this
      simpa [Array.getElem?_modify, Ne.symm e] using this
/-! Blocks as arrays of cells; many cells read and written at once. -/
def blk (w : World) (n : Nat) : Array Value := match w.heap[n]? with | some (.cells c _ _) => c | _ => #[]
theorem cell_blk (w : World) (n i : Nat) : w.cell? ⟨n, i, none⟩ = (blk w n)[i]? := by
  unfold World.cell? blk
  cases h : w.heap[n]? with
  | none => simp
  | some o => cases o <;> simp
theorem blk_put {w : World} {B : Nat} (h : Inb B w) (c : Array Value) : blk (put w B c) B = c := by
  obtain ⟨t, ht⟩ := put_at h c
  simp [blk, ht]
theorem blk_put_off {w : World} {B n : Nat} (h : n ≠ B) (c : Array Value) : blk (put w B c) n = blk w n := by simp [blk, put_off h]
theorem blk_alloc_at (w : World) (c : Array Value) (t : TypeId) (n : Nat) (h : n = w.heap.size) : blk (w.alloc (.cells c t)) n = c := by
  subst h; rw [blk, heap_alloc_last]
theorem blk_alloc_past (w : World) (o : Obj) (n : Nat) (h : n < w.heap.size) : blk (w.alloc o) n = blk w n := by
  unfold blk
  rw [show (w.alloc o).heap[n]? = w.heap[n]? by show (w.heap.push o)[n]? = _; rw [Array.getElem?_push, if_neg (Nat.ne_of_lt h)]]
theorem blk_drew (w : World) (n : Nat) : blk w.drew n = blk w n := rfl
theorem ldCells {P : Program} (w : World) (n o k : Nat) (h : o + k ≤ (blk w n).size) : (loadCellsFrom ⟨n, o, none⟩ 0 k #[]).run P w = .ok ((blk w n).extract o (o + k)) w := by
  have hl : ((blk w n).extract o (o + k)).toList.length = k := by simp; omega
  have := run_loadCells_list (P := P) w ⟨n, o, none⟩ ((blk w n).extract o (o + k)).toList (fun j v hv => by
    rw [Addr.add_mid, cell_blk]
    simp only [Array.getElem?_toList, Array.getElem?_extract] at hv
    split at hv
    · exact hv
    · cases hv)
  rw [hl] at this
  exact this
def ov (d : Array Value) (o : Nat) : List Value → Array Value
  | [] => d
  | v :: l => ov (d.setIfInBounds o v) (o + 1) l
theorem stCells {P : Program} (w : World) (n o : Nat) (l : List Value) (ht : w.there n o l.length) (h1 : ∀ v ∈ l, v.oneCell' = true) : (storeCells ⟨n, o, none⟩ l 0).run P w = .ok () (w.setCells n o l) := by
  have := run_storeCells_cells (P := P) n o l 0 w (fun j hj => by simpa using (ht j (by simpa using hj)).1) (fun j hj => by simpa using (ht j (by simpa using hj)).2) h1
  simpa using this
theorem setCells_put (w : World) (B : Nat) (l : List Value) : ∀ (d : Array Value) (o : Nat), (put w B d).setCells B o l = put w B (ov d o l) := by
  induction l with
  | nil => intro d o; rfl
  | cons v l ih => intro d o; rw [World.setCells, put_setCell, ih]; rfl
theorem setCells_put_off {B n : Nat} (h : n ≠ B) (d : Array Value) (l : List Value) : ∀ (w : World) (o : Nat), (put w B d).setCells n o l = put (w.setCells n o l) B d := by
  induction l with
  | nil => intro w o; rfl
  | cons v l ih => intro w o; rw [World.setCells, put_setCell_off h, ih]; rfl
theorem setCells_alloc_at (w : World) (t : TypeId) (n : Nat) (h : n = w.heap.size) (l : List Value) : ∀ (d : Array Value) (o : Nat), (w.alloc (.cells d t)).setCells n o l = w.alloc (.cells (ov d o l) t) := by
  induction l with
  | nil => intro d o; rfl
  | cons v l ih => intro d o; rw [World.setCells, World.setCell_alloc_at _ _ _ _ _ h, ih]; rfl
theorem setCells_alloc_past (ob : Obj) (n : Nat) (l : List Value) : ∀ (w : World) (o : Nat), n < w.heap.size → (w.alloc ob).setCells n o l = (w.setCells n o l).alloc ob := by
  induction l with
  | nil => intro w o h; rfl
  | cons v l ih => intro w o h; rw [World.setCells, World.setCell_alloc_past _ _ _ _ h, ih _ _ (by simpa using h)]; rfl
theorem there_blk {w : World} {n : Nat} (o k : Nat) (hf : ∀ j, w.frozen? ⟨n, j, none⟩ = false) (h : o + k ≤ (blk w n).size) : w.there n o k := fun j hj => ⟨by rw [cell_blk, Array.getElem?_eq_getElem (by omega)]; rfl, hf _⟩
theorem there_size {w : World} {n o k : Nat} (h : w.there n o k) (hk : 0 < k) : o + k ≤ (blk w n).size := by
  have := (h (k - 1) (by omega)).1
  rw [cell_blk] at this
  have := (Array.getElem?_eq_some_iff.1 (Option.isSome_iff_exists.1 this).choose_spec).1
  omega
theorem there_put {w : World} {B : Nat} (h : Inb B w) (d : Array Value) (o k : Nat) : (put w B d).there B o (k + 1) = (o + (k + 1) ≤ d.size) := by
  refine propext ⟨fun hk => ?_, fun hk => there_blk o _ (fun j => put_frozen h d j) (by rw [blk_put h]; exact hk)⟩
  have := there_size hk (by omega)
  rwa [blk_put h] at this
theorem there_put_off {w : World} {B n : Nat} (h : n ≠ B) (d : Array Value) (o k : Nat) : (put w B d).there n o k = w.there n o k := by
  unfold World.there; simp only [put_cell_off h, put_frozen_off h]
theorem there_alloc_at (w : World) (c : Array Value) (t : TypeId) (n o k : Nat) (h : n = w.heap.size) : (w.alloc (.cells c t)).there n o (k + 1) = (o + (k + 1) ≤ c.size) := by
  refine propext ⟨fun hk => ?_, fun hk => there_blk o _ (fun j => World.frozen?_alloc_at c t n j h) (by rw [blk_alloc_at w c t n h]; exact hk)⟩
  have := there_size hk (by omega)
  rwa [blk_alloc_at w c t n h] at this
theorem there_alloc_past (w : World) (ob : Obj) (n o k : Nat) (h : n < w.heap.size) : (w.alloc ob).there n o k = w.there n o k := by
  unfold World.there; simp only [World.cell?_alloc_past ob n _ h, World.frozen?_alloc_past ob n _ h]
theorem R.size (r : R) : r.cells.size = 20 := rfl
theorem R.len (r : R) : r.cells.toList.length = 20 := rfl
theorem R.one (r : R) : (∀ v ∈ r.cells.toList, v.oneCell' = true) = True := by simp [R.cells, Value.oneCell']
theorem R.all (r : R) : r.cells.extract 0 20 = r.cells := by simp [R.cells]
theorem PS.regs (s : PS) : s.cells.extract 0 20 = s.r.cells := by simp [R.cells, PS.cells]
theorem R.list (r : R) : r.cells.toList = [.int .u16 r.af.v, .int .u16 r.bc.v, .int .u16 r.de.v, .int .u16 r.hl.v, .int .u16 r.af2.v, .int .u16 r.bc2.v, .int .u16 r.de2.v, .int .u16 r.hl2.v, .int .u16 r.ix.v, .int .u16 r.iy.v, .int .u16 r.sp.v, .int .u16 r.pc.v, .int .u16 r.wz.v, .int .u8 r.i.v, .int .u8 r.r.v, .bool r.iff1, .bool r.iff2, .bool r.halted, .bool r.late, .int .i64 r.mode] := rfl
theorem R.lay (a r : R) : ov a.cells 0 r.cells.toList = r.cells := by
  rw [R.list]
  simp only [ov, Nat.reduceAdd, R.set0, R.set1, R.set2, R.set3, R.set4, R.set5, R.set6, R.set7, R.set8, R.set9, R.set10, R.set11, R.set12, R.set13, R.set14, R.set15, R.set16, R.set17, R.set18, R.set19]
theorem PS.lay (s : PS) (r : R) : ov s.cells 0 r.cells.toList = PS.cells { s with r := r } := by
  rw [R.list]
  simp only [ov, Nat.reduceAdd, PS.set0, PS.set1, PS.set2, PS.set3, PS.set4, PS.set5, PS.set6, PS.set7, PS.set8, PS.set9, PS.set10, PS.set11, PS.set12, PS.set13, PS.set14, PS.set15, PS.set16, PS.set17, PS.set18, PS.set19]
/-- Registers loaded and stored whole. -/
def ld (t : TypeId) (a : Addr) : Sem Value := loadVar t a
def st (t : TypeId) (a : Addr) (v : Value) : Sem Unit := storeVar t a v
@[go_sem ↓ high] theorem ld_regs (a : Addr) : loadVar 24 a = ld 24 a := rfl
@[go_sem ↓ high] theorem st_regs (a : Addr) (v : Value) : storeVar 24 a v = st 24 a v := rfl
@[go_sem] theorem ld_regs_run (w : World) (n o : Nat) (h : o + 20 ≤ (blk w n).size) : (ld 24 ⟨n, o, none⟩).run Tryz.prog w = .ok (.agg ((blk w n).extract o (o + 20))) w := by
  unfold ld loadVar
  rw [Sem.run_bind, Tryz.isAgg24, Result.andThen_ok]
  simp only [if_true]
  rw [Sem.run_bind, Tryz.sizeOf24, Result.andThen_ok]
  unfold loadCells
  rw [Sem.run_bind, ldCells w n o 20 h]
  rfl
@[go_sem] theorem st_regs_run (w : World) (n o : Nat) (r : R) (ht : w.there n o (19 + 1)) : (st 24 ⟨n, o, none⟩ (.agg r.cells)).run Tryz.prog w = .ok () (w.setCells n o r.cells.toList) := by
  unfold st storeVar
  rw [Sem.run_bind, Tryz.sizeOf24, Result.andThen_ok]
  have e : (Value.agg r.cells).cells = r.cells := rfl
  rw [e, if_neg (by simp [R.size])]
  exact stCells w n o r.cells.toList ht (by have := R.one r; simpa using this)
@[go_sem ↓ high] theorem ld_file (a : Addr) : loadVar 139 a = ld 139 a := rfl
@[go_sem ↓ high] theorem st_file (a : Addr) (v : Value) : storeVar 139 a v = st 139 a v := rfl
@[go_sem] theorem ld_file_run (w : World) (n o : Nat) (h : o + 20 ≤ (blk w n).size) : (ld 139 ⟨n, o, none⟩).run Tryz.prog w = .ok (.agg ((blk w n).extract o (o + 20))) w := by
  unfold ld loadVar
  rw [Sem.run_bind, Tryz.isAgg139, Result.andThen_ok]
  simp only [if_true]
  rw [Sem.run_bind, Tryz.sizeOf139, Result.andThen_ok]
  unfold loadCells
  rw [Sem.run_bind, ldCells w n o 20 h]
  rfl
@[go_sem] theorem st_file_run (w : World) (n o : Nat) (r : R) (ht : w.there n o (19 + 1)) : (st 139 ⟨n, o, none⟩ (.agg r.cells)).run Tryz.prog w = .ok () (w.setCells n o r.cells.toList) := by
  unfold st storeVar
  rw [Sem.run_bind, Tryz.sizeOf139, Result.andThen_ok]
  have e : (Value.agg r.cells).cells = r.cells := rfl
  rw [e, if_neg (by simp [R.size])]
  exact stCells w n o r.cells.toList ht (by have := R.one r; simpa using this)
attribute [go_sem] blk_put blk_put_off blk_alloc_at blk_alloc_past blk_drew setCells_put setCells_put_off setCells_alloc_at setCells_alloc_past World.there_drew there_put there_put_off there_alloc_at there_alloc_past R.size R.len R.one R.all PS.regs R.lay PS.lay
attribute [go_sem] put_size put_cell put_frozen put_cell_off put_frozen_off put_setCell put_setCell_off put_alloc put_drew put_put inb_alloc inb_drew inb_set inb_put
end Go.Proofs.YtnaampdpkegacaaGreatDoor

namespace Go.Proofs.YtnaampdpkegacaaGreatDoor
open Go.RowKit

/-- A cycle that is asked for. -/
@[ext] structure Cyc where
  kind : Int
  addr : U16
  data : U8
  t : Int
def Cyc.cells (c : Cyc) : Array Value := #[.int .i64 c.kind, .int .u16 c.addr.v, .int .u8 c.data.v, .int .i64 c.t]
def asked (c : Cyc) : List PanicEntry := [{ v := .iface 68 (.agg c.cells), recovered := false }]
/-- What asks for cycles: to its end, or on behind an answer. -/
inductive T (α : Type) : Type where
  | ret (a : α) : T α
  | ask (c : Cyc) (k : U8 → T α) : T α
namespace T
def bind {α β : Type} : T α → (α → T β) → T β
  | .ret a, f => f a
  | .ask c k, f => .ask c fun b => (k b).bind f
/-- With answers: to its end, with what is left of them, or to a cycle that is not answered. -/
def exec {α : Type} : T α → List U8 → Except Cyc (α × List U8)
  | .ret a, l => .ok (a, l)
  | .ask c _, [] => .error c
  | .ask _ k, b :: l => (k b).exec l
theorem exec_bind {α β : Type} (f : α → T β) : ∀ (t : T α) (l : List U8), (t.bind f).exec l = match t.exec l with | .error c => .error c | .ok p => (f p.1).exec p.2
  | .ret _, _ => rfl
  | .ask _ _, [] => rfl
  | .ask _ k, b :: l => exec_bind f (k b) l
end T
/-- The slice's value behind so many answers. -/
def tl : Value → Value
  | .slice (some a) n c => if c = 1 then .slice (some a) (n - 1) 0 else .slice (some ⟨a.block, a.off + 1, none⟩) (n - 1) (c - 1)
  | v => v
def tls : Nat → Value → Value
  | 0, v => v
  | n + 1, v => tls n (tl v)
theorem tls_add (a b : Nat) (v : Value) : tls (a + b) v = tls b (tls a v) := by
  induction a generalizing v with
  | zero => rw [Nat.zero_add]; rfl
  | succ n ih => rw [Nat.succ_add]; exact ih (tl v)
theorem T.exec_len {α : Type} : ∀ (t : T α) (l : List U8) (a : α) (l' : List U8), t.exec l = .ok (a, l') → l'.length ≤ l.length
  | .ret _, _, _, _, h => by cases h; exact Nat.le_refl _
  | .ask _ _, [], _, _, h => by cases h
  | .ask _ k, b :: l, a, l', h => Nat.le_succ_of_le (exec_len (k b) l a l' h)
/-- What works on the state, and asks for cycles. -/
def PM (α : Type) : Type := CS → T (α × CS)
namespace PM
def ret {α : Type} (a : α) : PM α := fun s => .ret (a, s)
def bind {α β : Type} (m : PM α) (f : α → PM β) : PM β := fun s => (m s).bind fun p => f p.1 p.2
def get : PM CS := fun s => .ret (s, s)
def mod (f : CS → CS) : PM Unit := fun s => .ret ((), f s)
instance : Monad PM where
  pure := ret
  bind := bind
end PM
/-- On the whole state. -/
def run {α : Type} (m : PM α) (s : PS) : Except Cyc (α × PS) := match (m s.toCS).exec s.got with
  | .error c => .error c
  | .ok p => .ok (p.1.1, { toCS := p.1.2, got := p.2, gv := tls (s.got.length - p.2.length) s.gv })
@[simp] theorem run_pure {α : Type} (a : α) (s : PS) : run (pure a : PM α) s = .ok (a, s) := by
  show Except.ok (a, ({ toCS := s.toCS, got := s.got, gv := tls (s.got.length - s.got.length) s.gv } : PS)) = _
  rw [Nat.sub_self]; rfl
@[simp] theorem run_get (s : PS) : run PM.get s = .ok (s.toCS, s) := run_pure s.toCS s
@[simp] theorem run_mod (g : CS → CS) (s : PS) : run (PM.mod g) s = .ok ((), { s with toCS := g s.toCS }) := by
  show Except.ok ((), ({ toCS := g s.toCS, got := s.got, gv := tls (s.got.length - s.got.length) s.gv } : PS)) = _
  rw [Nat.sub_self]; rfl
@[simp] theorem run_bind {α β : Type} (m : PM α) (f : α → PM β) (s : PS) : run (m >>= f) s = match run m s with | .error c => .error c | .ok p => run (f p.1) p.2 := by
  show (match ((m s.toCS).bind fun p => f p.1 p.2).exec s.got with | .error c => _ | .ok p => _) = _
  rw [T.exec_bind]
  unfold run
  cases h : (m s.toCS).exec s.got with
  | error c => rfl
  | ok p =>
    obtain ⟨⟨a, c⟩, l⟩ := p
    have hl := T.exec_len _ _ _ _ h
    simp only
    cases h2 : (f a c).exec l with
    | error c => rfl
    | ok q =>
      obtain ⟨⟨b, d⟩, l2⟩ := q
      have hl2 := T.exec_len _ _ _ _ h2
      simp only
      rw [show s.got.length - l2.length = (s.got.length - l.length) + (l.length - l2.length) by omega, tls_add]
@[simp] theorem run_ite {α : Type} (p : Prop) [Decidable p] (m n : PM α) (s : PS) : run (if p then m else n) s = if p then run m s else run n s := by split <;> rfl

/-- The answers that are left, and where they lie. -/
def hdIs (B : Nat) (w : World) (gv : Value) (got : List U8) : Prop :=
  (∃ a c, gv = .slice a 0 c ∧ got = []) ∨ ∃ b o c, gv = .slice (some ⟨b, o, none⟩) got.length c ∧ got.length ≤ c ∧ b ≠ B ∧ b < w.heap.size ∧ ∀ (j : Nat) (v : U8), got[j]? = some v → w.cell? ⟨b, o + j, none⟩ = some (.int .u8 v.v)
/-- The package-level variable logic.right, as it is laid. -/
def Lg (w : World) : Prop := blk w 0 = #[.int .u8 0, .int .u8 6, .int .u8 96, .int .u8 102]
theorem Lg.lt {w : World} (h : Lg w) : 0 < w.heap.size := by
  unfold Lg blk at h
  cases e : w.heap[0]? with
  | none => rw [e] at h; simp at h
  | some o => exact (Array.getElem?_eq_some_iff.1 e).1
theorem Lg.kept {w w1 : World} (h : Lg w) (hb : Below w.heap.size w w1) : Lg w1 := by
  unfold Lg blk
  rw [hb.block _ h.lt]
  exact h
theorem Lg.cell {w : World} (h : Lg w) : w.cell? ⟨0, 0, none⟩ = some (.int .u8 0) ∧ w.cell? ⟨0, 1, none⟩ = some (.int .u8 6) ∧ w.cell? ⟨0, 2, none⟩ = some (.int .u8 96) ∧ w.cell? ⟨0, 3, none⟩ = some (.int .u8 102) := by
  unfold Lg at h
  simp only [cell_blk, h]
  exact ⟨rfl, rfl, rfl, rfl⟩
structure Inv (B : Nat) (w : World) (gv : Value) (got : List U8) : Prop where
  inb : Inb B w
  hd : hdIs B w gv got
  lg : Lg w
  off : ¬ 0 = B
theorem Inb.kept {B : Nat} {w w1 : World} (h : Inb B w) (hb : Below w.heap.size w w1) : Inb B w1 := Nat.lt_of_lt_of_le h hb.size
theorem hdIs.kept {B : Nat} {w w1 : World} {gv : Value} {got : List U8} (h : hdIs B w gv got) (hb : Below w.heap.size w w1) : hdIs B w1 gv got := by
  rcases h with h | ⟨b, o, c, h1, h2, h3, h4, h5⟩
  · exact .inl h
  · refine .inr ⟨b, o, c, h1, h2, h3, Nat.lt_of_lt_of_le h4 hb.size, fun j v hj => ?_⟩
    rw [hb.cell (p := ⟨b, o + j, none⟩) h4]; exact h5 j v hj
theorem Inv.kept {B : Nat} {w w1 : World} {gv : Value} {got : List U8} (h : Inv B w gv got) (hb : Below w.heap.size w w1) : Inv B w1 gv got := ⟨h.inb.kept hb, h.hd.kept hb, h.lg.kept hb, h.off⟩
/-- What a call leaves. -/
def Post {α : Type} (B : Nat) (w : World) (enc : α → Value) (m : Except Cyc (α × PS)) (e : Ending) (w' : World) : Prop :=
  match m with
  | .error c => e = .panicked (asked c) ∧ ∃ s1 w1, w' = put w1 B (PS.cells s1) ∧ Below w.heap.size w w1 ∧ Inb B w1
  | .ok (v, s') => e = .returned (enc v) ∧ ∃ w1, w' = put w1 B s'.cells ∧ Below w.heap.size w w1 ∧ Inv B w1 s'.gv s'.got
theorem Post.two {α : Type} {B : Nat} {w : World} {enc : α → Value} {m : Except Cyc (α × PS)} {Q : Ending → World → Prop}
    (h1 : ∀ c s1 w1, m = .error c → Below w.heap.size w w1 → Inb B w1 → Q (.panicked (asked c)) (put w1 B (PS.cells s1)))
    (h2 : ∀ v s' w1, m = .ok (v, s') → Below w.heap.size w w1 → Inv B w1 s'.gv s'.got → Inb B w1 → Q (.returned (enc v)) (put w1 B s'.cells)) : ∀ e w', Post B w enc m e w' → Q e w' := by
  intro e w' h
  unfold Post at h
  cases m with
  | error c => obtain ⟨rfl, s1, w1, rfl, hb, hi⟩ := h; exact h1 c s1 w1 rfl hb hi
  | ok p => obtain ⟨v, s'⟩ := p; obtain ⟨rfl, w1, rfl, hb, hi⟩ := h; exact h2 v s' w1 rfl hb hi hi.inb
theorem Post.err {α : Type} {B : Nat} {w w1 : World} {enc : α → Value} {m : Except Cyc (α × PS)} {c : Cyc} (s1 : PS) (hm : m = .error c) (hb : Below w.heap.size w w1) (hi : Inb B w1) : Post B w enc m (.panicked (asked c)) (put w1 B s1.cells) := by
  subst hm; exact ⟨rfl, s1, w1, rfl, hb, hi⟩
theorem Post.done {α : Type} {B : Nat} {w w1 : World} {enc : α → Value} {m : Except Cyc (α × PS)} {v : α} {s' : PS} {e : Ending} (hm : m = .ok (v, s')) (he : e = .returned (enc v)) (hb : Below w.heap.size w w1) (hi : Inv B w1 s'.gv s'.got) : Post B w enc m e (put w1 B s'.cells) := by
  subst hm; exact ⟨he, w1, rfl, hb, hi⟩
def eU (_ : Unit) : Value := .tuple #[]
def e8 (x : U8) : Value := .int .u8 x.v
def e16 (x : U16) : Value := .int .u16 x.v

/-! Cycles. -/
def cycleS (c : Cyc) : PM U8 := fun s => .ask c fun b => .ret (b, s)
theorem run_cycle_no (c : Cyc) (s : PS) (h : s.got = []) : run (cycleS c) s = .error c := by
  unfold run cycleS; rw [h]; rfl
theorem run_cycle_yes (c : Cyc) (s : PS) (x : U8) (l : List U8) (h : s.got = x :: l) : run (cycleS c) s = .ok (x, { s with got := l, gv := tl s.gv }) := by
  unfold run cycleS; rw [h]
  show Except.ok (x, ({ toCS := s.toCS, got := l, gv := tls (l.length + 1 - l.length) s.gv } : PS)) = _
  rw [show l.length + 1 - l.length = 1 by omega]; rfl
theorem Inb.ne {B : Nat} {w : World} (h : Inb B w) : ¬ w.heap.size = B := fun e => by have h : B < w.heap.size := h; omega
theorem cycle_ (B : Nat) (c : Cyc) (s : PS) (w : World) (hI : Inv B w s.gv s.got) : Calls Tryz.prog 22 #[.pointer (some ⟨B, 0, none⟩), .agg #[.int .i64 c.kind, .int .u16 c.addr.v, .int .u8 c.data.v, .int .i64 c.t]] (put w B s.cells) (Post B w e8 (run (cycleS c) s)) := by
  have hB := hI.inb
  have hn := hB.ne
  rcases hI.hd with ⟨a, n, hg, hs⟩ | ⟨b, o, n, hg, hn, hne, hlt, hc⟩
  · have hm := run_cycle_no c s hs
    generalize hM : run (cycleS c) s = M at hm ⊢
    have hm' := Lib.hid hm
    clear hm hs
    go_enter Tryz.func22, Tryz.ntmps22
    go_wp2
    have hb : Below w.heap.size w (w.alloc (.cells c.cells 28)) := by go_grown
    exact ⟨rfl, Post.err s hm'.out hb (hB.kept hb)⟩
  · cases hs : s.got with
    | nil =>
      rw [hs] at hg
      have hm := run_cycle_no c s hs
      generalize hM : run (cycleS c) s = M at hm ⊢
      have hm' := Lib.hid hm
      clear hm hs hM hc
      simp only [List.length_nil] at hg
      go_enter Tryz.func22, Tryz.ntmps22
      go_wp2
      have hb : Below w.heap.size w (w.alloc (.cells c.cells 28)) := by go_grown
      exact ⟨rfl, Post.err s hm'.out hb (hB.kept hb)⟩
    | cons x l =>
      have hm := run_cycle_yes c s x l hs
      have hx : w.cell? ⟨b, o, none⟩ = some (.int .u8 x.v) := hc 0 x (by rw [hs]; rfl)
      have hg2 : s.gv = .slice (some ⟨b, o, none⟩) (l.length + 1) n := by rw [hg, hs]; rfl
      have hn2 : l.length + 1 ≤ n := by rw [hs] at hn; exact hn
      generalize hM : run (cycleS c) s = M at hm ⊢
      have hm' := Lib.hid hm
      have hc' := Lib.hid hc
      have hs' := Lib.hid hs
      clear hm hs hM hg hc hn
      go_enter Tryz.func22, Tryz.ntmps22
      have hb : Below w.heap.size w (w.alloc (.cells c.cells 28)) := by go_grown
      go_wp2
      · go_ret
        have ht : tl s.gv = .slice (some ⟨b, o, none⟩) l.length 0 := by rw [hg2]; unfold tl; exact if_pos (by assumption)
        rw [ht] at hm'
        refine Post.done (s' := { s with got := l, gv := .slice (some ⟨b, o, none⟩) l.length 0 }) hm'.out rfl hb ⟨hB.kept hb, ?_, hI.lg.kept hb, hI.off⟩
        have : l = [] := List.eq_nil_of_length_eq_zero (by omega)
        subst this
        exact .inl ⟨_, _, rfl, rfl⟩
      · go_ret
        have ht : tl s.gv = .slice (some ⟨b, o + 1, none⟩) l.length (n - 1) := by rw [hg2]; unfold tl; exact if_neg (by assumption)
        rw [ht] at hm'
        refine Post.done (s' := { s with got := l, gv := .slice (some ⟨b, o + 1, none⟩) l.length (n - 1) }) hm'.out rfl hb ⟨hB.kept hb, .inr ⟨b, o + 1, n - 1, rfl, ?_, hne, ?_, ?_⟩, hI.lg.kept hb, hI.off⟩
        · simp only; omega
        · exact Nat.lt_of_lt_of_le hlt hb.size
        · intro j v hj
          refine (hb.cell (p := ⟨b, o + 1 + j, none⟩) hlt).trans ?_
          rw [show o + 1 + j = o + (j + 1) by omega]
          exact hc'.out (j + 1) v (by rw [hs'.out]; exact hj)
theorem blk_heap {w : World} {n : Nat} {c : Array Value} (h : blk w n = c) (hc : 0 < c.size) : ∃ t fr, w.heap[n]? = some (.cells c t fr) := by
  unfold blk at h
  cases e : w.heap[n]? with
  | none => rw [e] at h; subst h; simp at hc
  | some o =>
    rw [e] at h
    cases o with
    | cells c' t fr => exact ⟨t, fr, by rw [← h]⟩
    | _ => subst h; simp at hc
theorem ret_regs {fn : Func} {p : Tmp} {Q : Ending → World → Prop} {a : Act} {w : World} (hr : fn.results = #[.cell p 24]) (n : Nat) (hp : a.tmps.getD p undef = .pointer (some ⟨n, 0, none⟩)) (r : R) (hbk : blk w n = r.cells) (hd : a.defers = [])
    (h : Q (.returned (.agg r.cells)) w) : bodyPost Tryz.prog fn Q .ret a w := by
  obtain ⟨t, fr, hg⟩ := blk_heap hbk (by rw [R.size]; decide)
  refine bodyPost_ret (results_cell_row hr a.tmps w n t r.cells fr _ hp hg Tryz.underlying24 rfl ?_) hd h
  kernel_rfl
def tk (x : U8) : U8 := ⟨x.v / 128 * 128 + (x.v + 1) % 128, by have := x.h0; omega, by have := x.h1; omega⟩
theorem tick_bits (x : U8) : bits .or .u8 (bits .andNot .u8 x.v 127) (bits .and .u8 ((x.v + 1) % 256) 127) = (tk x).v := by
  have h : ∀ n : Fin 256, bits .or .u8 (bits .andNot .u8 (n.val : Int) 127) (bits .and .u8 (((n.val : Int) + 1) % 256) 127) = (n.val : Int) / 128 * 128 + ((n.val : Int) + 1) % 128 := by decide +kernel
  obtain ⟨v, h0, h1⟩ := x
  have := h ⟨v.toNat, by omega⟩
  simp only [Int.toNat_of_nonneg h0] at this
  exact this
def tickR (r : R) : R := { r with r := tk r.r }
set_option maxRecDepth 5000 in
theorem tickreg_ (r : R) (w : World) : Calls Tryz.prog 41 #[.agg r.cells, .int .i64 1] w fun e w' => e = .returned (.agg (tickR r).cells) ∧ Below w.heap.size w w' := by
  have tb := tick_bits r.r
  go_enter Tryz.func41, Tryz.ntmps41
  go_wp2
  refine ret_regs rfl (w.heap.size + 1) rfl (tickR r) ?_ rfl ⟨rfl, by go_grown⟩
  simp [go_sem, tickR]
def tickS : PM Unit := PM.mod fun s => { s with r := tickR s.r }
theorem tick_ (B : Nat) (s : PS) (w : World) (hI : Inv B w s.gv s.got) : Calls Tryz.prog 23 #[.pointer (some ⟨B, 0, none⟩)] (put w B s.cells) (Post B w eU (run tickS s)) := by
  have hB := hI.inb
  go_enter Tryz.func23, Tryz.ntmps23
  go_wp2_with (go_at_call 41; refine (tickreg_ _ _).mono ?_; rintro e w1 ⟨rfl, hb⟩; obtain ⟨w2, rfl, hb2⟩ := unput hB hb; have hB2 := hB.kept hb2)
  exact bodyPost_end (results_none rfl _ _ _) rfl (Post.done (v := ()) (run_mod _ _) rfl hb2 (hI.kept hb2))
end Go.Proofs.YtnaampdpkegacaaGreatDoor

namespace Go.Proofs.YtnaampdpkegacaaGreatDoor
open Go.RowKit

def U16.inc (x : U16) (n : Int) : U16 := u16 (x.v + n)
theorem inc_fold (x : U16) : IntKind.u16.wrap (x.v + 1) = (x.inc 1).v := by simp only [IntKind.wrap_u16]; rfl
theorem dec_fold (x : U16) : IntKind.u16.wrap (x.v - 1) = (x.inc (-1)).v := by simp only [IntKind.wrap_u16]; rfl
theorem hiB_fold (x : U16) : hiB x.v = x.hi.v := rfl
theorem loB_fold (x : U16) : loB x.v = x.lo.v := rfl
theorem wrd_fold (x y : U8) : wrd x.v y.v = (x.word y).v := rfl
theorem e8_eq (x : U8) : e8 x = .int .u8 x.v := rfl
theorem e16_eq (x : U16) : e16 x = .int .u16 x.v := rfl
theorem eU_eq (x : Unit) : eU x = .tuple #[] := rfl
attribute [go_sem] inc_fold dec_fold hiB_fold loB_fold wrd_fold e8_eq e16_eq eU_eq
theorem still_tail {P : Program} {id : Nat} {Q : Exit → Act → World → Prop} {a : Act} {w : World} {l : List Oper} (n : Nat) (hm : P.follows .mixedOrders = true) (hB : Region.lexTailB .any l.toArray n = true)
    (h : wpStill P l.toArray w.drew (fun a' => wpList P l.toArray Q (l.drop n) a' w.drew) (l.take n) a) : (Code.region id l.toArray true).wp P Q a w :=
  wp_region_still_tail n hm hB h
theorem Inv.drew {B : Nat} {w : World} {gv : Value} {got : List U8} (h : Inv B w gv got) : Inv B w.drew gv got := h.kept (Below.refl _ _).drew
theorem Post.thru {α : Type} {B : Nat} {w0 w : World} {enc : α → Value} {m : Except Cyc (α × PS)} {Q : Ending → World → Prop} (hb0 : Below w0.heap.size w0 w)
    (h1 : ∀ c s1 w1, m = .error c → Below w0.heap.size w0 w1 → Inb B w1 → Q (.panicked (asked c)) (put w1 B (PS.cells s1)))
    (h2 : ∀ v s' w1, m = .ok (v, s') → Below w0.heap.size w0 w1 → Inv B w1 s'.gv s'.got → Inb B w1 → Q (.returned (enc v)) (put w1 B s'.cells)) : ∀ e w', Post B w enc m e w' → Q e w' :=
  Post.two (fun c s1 w1 hm hb hi => h1 c s1 w1 hm (bt hb0 hb) hi) (fun v s' w1 hm hb hI hi => h2 v s' w1 hm (bt hb0 hb) hI hi)

def fetchS : PM U8 := do
  let s ← PM.get
  let b ← cycleS ⟨1, s.r.pc, u8 0, 4⟩
  PM.mod fun s => { s with r := { s.r with pc := s.r.pc.inc 1 } }
  tickS
  pure b
set_option maxRecDepth 4000 in
theorem fetchW_ (B : Nat) (s : PS) (w : World) (hI : Inv B w s.gv s.got) : Calls Tryz.prog 25 #[.pointer (some ⟨B, 0, none⟩)] (put w B s.cells) (Post B w e8 (run fetchS s)) := by
  have hi := hI.inb
  have hb0 := Below.refl w.heap.size w
  go_enter Tryz.func25, Tryz.ntmps25
  go_wp2_with (first | (go_at_call 22; refine (cycle_ B ⟨1, s.r.pc, u8 0, 4⟩ _ _ (by assumption)).mono (Post.thru hb0 (fun c s1 w1 hq hb0 hi => ?_) (fun v s1 w1 hq hb0 hI hi => ?_))) | (go_at_call 23; refine (tick_ B  _ _ (by assumption)).mono (Post.thru hb0 (fun c s1 w1 hq hb0 hi => ?_) (fun v s1 w1 hq hb0 hI hi => ?_))))
  all_goals first
    | (refine ⟨rfl, Post.err _ ?_ hb0 hi⟩; simp [fetchS, *]; done)
    | (go_ret; refine Post.done ?_ rfl hb0 hI; simp [fetchS, *]; done)
def statesS (n : Int) : PM Unit := do
  let _ ← cycleS ⟨7, u16 0, u8 0, n⟩
  pure ()
set_option maxRecDepth 4000 in
theorem statesW_ (B : Nat) (n : Int) (s : PS) (w : World) (hI : Inv B w s.gv s.got) : Calls Tryz.prog 47 #[.pointer (some ⟨B, 0, none⟩), .int .i64 n] (put w B s.cells) (Post B w eU (run (statesS n) s)) := by
  have hi := hI.inb
  have hb0 := Below.refl w.heap.size w
  go_enter Tryz.func47, Tryz.ntmps47
  go_wp2_with (first | (go_at_call 22; refine (cycle_ B ⟨7, u16 0, u8 0, n⟩ _ _ (by assumption)).mono (Post.thru hb0 (fun c s1 w1 hq hb0 hi => ?_) (fun v s1 w1 hq hb0 hI hi => ?_))))
  all_goals first
    | (refine ⟨rfl, Post.err _ ?_ hb0 hi⟩; simp [statesS, *]; done)
    | (refine bodyPost_end (results_none rfl _ _ _) rfl (Post.done (v := ()) ?_ rfl hb0 hI); simp [statesS, *]; done)
def readS (a : U16) : PM U8 := do
  cycleS ⟨2, a, u8 0, 3⟩
set_option maxRecDepth 4000 in
theorem readW_ (B : Nat) (a : U16) (s : PS) (w : World) (hI : Inv B w s.gv s.got) : Calls Tryz.prog 75 #[.pointer (some ⟨B, 0, none⟩), .int .u16 a.v] (put w B s.cells) (Post B w e8 (run (readS a) s)) := by
  have hi := hI.inb
  have hb0 := Below.refl w.heap.size w
  go_enter Tryz.func75, Tryz.ntmps75
  go_wp2_with (first | (go_at_call 22; refine (cycle_ B ⟨2, a, u8 0, 3⟩ _ _ (by assumption)).mono (Post.thru hb0 (fun c s1 w1 hq hb0 hi => ?_) (fun v s1 w1 hq hb0 hI hi => ?_))))
  all_goals first
    | (refine ⟨rfl, Post.err _ ?_ hb0 hi⟩; simp [readS, *]; done)
    | (go_ret; refine Post.done ?_ rfl hb0 hI; simp [readS, *]; done)
def writeS (a : U16) (b : U8) : PM Unit := do
  let _ ← cycleS ⟨3, a, b, 3⟩
  pure ()
set_option maxRecDepth 4000 in
theorem writeW_ (B : Nat) (a : U16) (b : U8) (s : PS) (w : World) (hI : Inv B w s.gv s.got) : Calls Tryz.prog 131 #[.pointer (some ⟨B, 0, none⟩), .int .u16 a.v, .int .u8 b.v] (put w B s.cells) (Post B w eU (run (writeS a b) s)) := by
  have hi := hI.inb
  have hb0 := Below.refl w.heap.size w
  go_enter Tryz.func131, Tryz.ntmps131
  go_wp2_with (first | (go_at_call 22; refine (cycle_ B ⟨3, a, b, 3⟩ _ _ (by assumption)).mono (Post.thru hb0 (fun c s1 w1 hq hb0 hi => ?_) (fun v s1 w1 hq hb0 hI hi => ?_))))
  all_goals first
    | (refine ⟨rfl, Post.err _ ?_ hb0 hi⟩; simp [writeS, *]; done)
    | (refine bodyPost_end (results_none rfl _ _ _) rfl (Post.done (v := ()) ?_ rfl hb0 hI); simp [writeS, *]; done)
def inS (a : U16) : PM U8 := do
  cycleS ⟨4, a, u8 0, 4⟩
set_option maxRecDepth 4000 in
theorem inW_ (B : Nat) (a : U16) (s : PS) (w : World) (hI : Inv B w s.gv s.got) : Calls Tryz.prog 120 #[.pointer (some ⟨B, 0, none⟩), .int .u16 a.v] (put w B s.cells) (Post B w e8 (run (inS a) s)) := by
  have hi := hI.inb
  have hb0 := Below.refl w.heap.size w
  go_enter Tryz.func120, Tryz.ntmps120
  go_wp2_with (first | (go_at_call 22; refine (cycle_ B ⟨4, a, u8 0, 4⟩ _ _ (by assumption)).mono (Post.thru hb0 (fun c s1 w1 hq hb0 hi => ?_) (fun v s1 w1 hq hb0 hI hi => ?_))))
  all_goals first
    | (refine ⟨rfl, Post.err _ ?_ hb0 hi⟩; simp [inS, *]; done)
    | (go_ret; refine Post.done ?_ rfl hb0 hI; simp [inS, *]; done)
def outS (a : U16) (b : U8) : PM Unit := do
  let _ ← cycleS ⟨5, a, b, 4⟩
  pure ()
set_option maxRecDepth 4000 in
theorem outW_ (B : Nat) (a : U16) (b : U8) (s : PS) (w : World) (hI : Inv B w s.gv s.got) : Calls Tryz.prog 122 #[.pointer (some ⟨B, 0, none⟩), .int .u16 a.v, .int .u8 b.v] (put w B s.cells) (Post B w eU (run (outS a b) s)) := by
  have hi := hI.inb
  have hb0 := Below.refl w.heap.size w
  go_enter Tryz.func122, Tryz.ntmps122
  go_wp2_with (first | (go_at_call 22; refine (cycle_ B ⟨5, a, b, 4⟩ _ _ (by assumption)).mono (Post.thru hb0 (fun c s1 w1 hq hb0 hi => ?_) (fun v s1 w1 hq hb0 hI hi => ?_))))
  all_goals first
    | (refine ⟨rfl, Post.err _ ?_ hb0 hi⟩; simp [outS, *]; done)
    | (refine bodyPost_end (results_none rfl _ _ _) rfl (Post.done (v := ()) ?_ rfl hb0 hI); simp [outS, *]; done)
def numberS : PM U8 := do
  let s ← PM.get
  let b ← readS s.r.pc
  PM.mod fun s => { s with r := { s.r with pc := s.r.pc.inc 1 } }
  pure b
set_option maxRecDepth 4000 in
theorem numberW_ (B : Nat) (s : PS) (w : World) (hI : Inv B w s.gv s.got) : Calls Tryz.prog 46 #[.pointer (some ⟨B, 0, none⟩)] (put w B s.cells) (Post B w e8 (run numberS s)) := by
  have hi := hI.inb
  have hb0 := Below.refl w.heap.size w
  go_enter Tryz.func46, Tryz.ntmps46
  go_wp2_with (first | (go_at_call 75; refine (readW_ B _ _ _ (by assumption)).mono (Post.thru hb0 (fun c s1 w1 hq hb0 hi => ?_) (fun v s1 w1 hq hb0 hI hi => ?_))))
  all_goals first
    | (refine ⟨rfl, Post.err _ ?_ hb0 hi⟩; simp [numberS, *]; done)
    | (go_ret; refine Post.done ?_ rfl hb0 hI; simp [numberS, *]; done)
def wordS : PM U16 := do
  let lo ← numberS
  let hi ← numberS
  pure (hi.word lo)
set_option maxRecDepth 4000 in
theorem wordW_ (B : Nat) (s : PS) (w : World) (hI : Inv B w s.gv s.got) : Calls Tryz.prog 78 #[.pointer (some ⟨B, 0, none⟩)] (put w B s.cells) (Post B w e16 (run wordS s)) := by
  have hi := hI.inb
  have hb0 := Below.refl w.heap.size w
  go_enter Tryz.func78, Tryz.ntmps78
  go_wp2_with (first | (go_at_call 46; refine (numberW_ B  _ _ (by assumption)).mono (Post.thru hb0 (fun c s1 w1 hq hb0 hi => ?_) (fun v s1 w1 hq hb0 hI hi => ?_))) | (go_at_call 149; refine (word_ _ _ (U8.h0 _) (U8.h1 _) (U8.h0 _) (U8.h1 _) _).mono ?_; rintro e w1 ⟨rfl, rfl⟩))
  all_goals first
    | (refine ⟨rfl, Post.err _ ?_ hb0 hi⟩; simp [wordS, *]; done)
    | (go_ret; refine Post.done ?_ rfl hb0 hI; simp [wordS, *]; done)
def popS : PM U16 := do
  let s ← PM.get
  let lo ← readS s.r.sp
  PM.mod fun s => { s with r := { s.r with sp := s.r.sp.inc 1 } }
  let s ← PM.get
  let hi ← readS s.r.sp
  PM.mod fun s => { s with r := { s.r with sp := s.r.sp.inc 1 } }
  pure (hi.word lo)
set_option maxRecDepth 4000 in
theorem popW_ (B : Nat) (s : PS) (w : World) (hI : Inv B w s.gv s.got) : Calls Tryz.prog 169 #[.pointer (some ⟨B, 0, none⟩)] (put w B s.cells) (Post B w e16 (run popS s)) := by
  have hi := hI.inb
  have hb0 := Below.refl w.heap.size w
  go_enter Tryz.func169, Tryz.ntmps169
  go_wp2_with (first | (go_at_call 75; refine (readW_ B _ _ _ (by assumption)).mono (Post.thru hb0 (fun c s1 w1 hq hb0 hi => ?_) (fun v s1 w1 hq hb0 hI hi => ?_))) | (go_at_call 149; refine (word_ _ _ (U8.h0 _) (U8.h1 _) (U8.h0 _) (U8.h1 _) _).mono ?_; rintro e w1 ⟨rfl, rfl⟩))
  all_goals first
    | (refine ⟨rfl, Post.err _ ?_ hb0 hi⟩; simp [popS, *]; done)
    | (go_ret; refine Post.done ?_ rfl hb0 hI; simp [popS, *]; done)
set_option maxRecDepth 4000 in
theorem aW_ (B : Nat) (s : PS) (w : World) (hI : Inv B w s.gv s.got) : Calls Tryz.prog 128 #[.pointer (some ⟨B, 0, none⟩)] (put w B s.cells) fun e w' => e = .returned (.int .u8 s.r.af.hi.v) ∧ put w B s.cells = w' := by
  have hi := hI.inb
  have hb0 := Below.refl w.heap.size w
  go_enter Tryz.func128, Tryz.ntmps128
  go_wp2_with (first | (go_at_call 66; refine (hi_ _ _).mono ?_; rintro e w1 ⟨rfl, rfl⟩))
  go_ret
  exact ⟨rfl, rfl⟩
set_option maxRecDepth 4000 in
theorem fW_ (B : Nat) (s : PS) (w : World) (hI : Inv B w s.gv s.got) : Calls Tryz.prog 68 #[.pointer (some ⟨B, 0, none⟩)] (put w B s.cells) fun e w' => e = .returned (.int .u8 s.r.af.lo.v) ∧ put w B s.cells = w' := by
  have hi := hI.inb
  have hb0 := Below.refl w.heap.size w
  go_enter Tryz.func68, Tryz.ntmps68
  go_wp2_with (first | (go_at_call 136; refine (lo_ _ _).mono ?_; rintro e w1 ⟨rfl, rfl⟩))
  go_ret
  exact ⟨rfl, rfl⟩
def putS (a : U8) (f : U8) : PM Unit := do
  PM.mod fun s => { s with r := { s.r with af := a.word f } }
set_option maxRecDepth 4000 in
theorem putW_ (B : Nat) (a : U8) (f : U8) (s : PS) (w : World) (hI : Inv B w s.gv s.got) : Calls Tryz.prog 126 #[.pointer (some ⟨B, 0, none⟩), .int .u8 a.v, .int .u8 f.v] (put w B s.cells) (Post B w eU (run (putS a f) s)) := by
  have hi := hI.inb
  have hb0 := Below.refl w.heap.size w
  go_enter Tryz.func126, Tryz.ntmps126
  go_wp2_with (first | (go_at_call 149; refine (word_ _ _ (U8.h0 _) (U8.h1 _) (U8.h0 _) (U8.h1 _) _).mono ?_; rintro e w1 ⟨rfl, rfl⟩))
  all_goals first
    | (refine ⟨rfl, Post.err _ ?_ hb0 hi⟩; simp [putS, *]; done)
    | (refine bodyPost_end (results_none rfl _ _ _) rfl (Post.done (v := ()) ?_ rfl hb0 hI); simp [putS, *]; done)
def flagS (f : U8) : PM Unit := do
  let s ← PM.get
  putS s.r.af.hi f
set_option maxRecDepth 4000 in
theorem flagW_ (B : Nat) (f : U8) (s : PS) (w : World) (hI : Inv B w s.gv s.got) : Calls Tryz.prog 69 #[.pointer (some ⟨B, 0, none⟩), .int .u8 f.v] (put w B s.cells) (Post B w eU (run (flagS f) s)) := by
  have hi := hI.inb
  have hb0 := Below.refl w.heap.size w
  go_enter Tryz.func69, Tryz.ntmps69
  go_wp2_with (first | (go_at_call 128; refine (aW_ B _ _ (by assumption)).mono ?_; rintro e w1 ⟨rfl, rfl⟩) | (go_at_call 126; refine (putW_ B _ _ _ _ (by assumption)).mono (Post.thru hb0 (fun c s1 w1 hq hb0 hi => ?_) (fun v s1 w1 hq hb0 hI hi => ?_))))
  all_goals first
    | (refine ⟨rfl, Post.err _ ?_ hb0 hi⟩; simp [flagS, *]; done)
    | (refine bodyPost_end (results_none rfl _ _ _) rfl (Post.done (v := ()) ?_ rfl hb0 hI); simp [flagS, *]; done)
def pushS (x : U16) : PM Unit := do
  PM.mod fun s => { s with r := { s.r with sp := s.r.sp.inc (-1) } }
  let s ← PM.get
  writeS s.r.sp x.hi
  PM.mod fun s => { s with r := { s.r with sp := s.r.sp.inc (-1) } }
  let s ← PM.get
  writeS s.r.sp x.lo
set_option maxRecDepth 4000 in
theorem pushW_ (B : Nat) (x : U16) (s : PS) (w : World) (hI : Inv B w s.gv s.got) : Calls Tryz.prog 93 #[.pointer (some ⟨B, 0, none⟩), .int .u16 x.v] (put w B s.cells) (Post B w eU (run (pushS x) s)) := by
  have hi := hI.inb
  have hb0 := Below.refl w.heap.size w
  go_enter Tryz.func93, Tryz.ntmps93
  go_wp2_with fail
  refine still_tail 8 (by kernel_rfl) (by kernel_rfl) ?_
  simp only [List.take_succ_cons, List.take_zero, List.drop_succ_cons, List.drop_zero, put_drew]
  replace hb0 := bt hb0 (Below.refl _ _).drew
  replace hI := Inv.drew hI
  replace hi := Inv.inb hI
  repeat (first | still_step | (refine wpStill_step (fun K hK => ?_); go_simp; refine ⟨_, (hi_ _ _).mono (fun e w' h => ⟨h.1, h.2.symm⟩), hK _ ?_⟩; clear hK K))
  refine wpStill_nil ?_
  go_wp2_with (first | (go_at_call 131; refine (writeW_ B _ _ _ _ (by assumption)).mono (Post.thru hb0 (fun c s1 w1 hq hb0 hi => ?_) (fun v s1 w1 hq hb0 hI hi => ?_))))
  · exact ⟨rfl, Post.err _ (by simp [pushS, *]) hb0 hi⟩
  refine still_tail 8 (by kernel_rfl) (by kernel_rfl) ?_
  simp only [List.take_succ_cons, List.take_zero, List.drop_succ_cons, List.drop_zero, put_drew]
  replace hb0 := bt hb0 (Below.refl _ _).drew
  replace hI := Inv.drew hI
  replace hi := Inv.inb hI
  repeat (first | still_step | (refine wpStill_step (fun K hK => ?_); go_simp; refine ⟨_, (lo_ _ _).mono (fun e w' h => ⟨h.1, h.2.symm⟩), hK _ ?_⟩; clear hK K))
  refine wpStill_nil ?_
  go_wp2_with (first | (go_at_call 131; refine (writeW_ B _ _ _ _ (by assumption)).mono (Post.thru hb0 (fun c s1 w1 hq hb0 hi => ?_) (fun v s1 w1 hq hb0 hI hi => ?_))))
  · exact ⟨rfl, Post.err _ (by simp [pushS, *]) hb0 hi⟩
  · exact bodyPost_end (results_none rfl _ _ _) rfl (Post.done (v := ()) (by simp [pushS, *]) rfl hb0 hI)
end Go.Proofs.YtnaampdpkegacaaGreatDoor
