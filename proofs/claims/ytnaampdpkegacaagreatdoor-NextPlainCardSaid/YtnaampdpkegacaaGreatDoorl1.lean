/-
  The law's example of layer 12, awake. A helper of the claim that stands beside it.
-/
import Derived.Test.YtnaampdpkegacaaGreatDoork1
namespace Go.Proofs.YtnaampdpkegacaaGreatDoor
open Go.RowKit

/-- The example's registers. -/
def R5 : R := { R0 with pc := u16 5 }
theorem aw1 : nextF R5 [] = (⟨1, u16 5, u8 0, 4⟩, R0, false) := by kernel_rfl
theorem aw2 : nextF R5 [u8 62] = (⟨2, u16 6, u8 0, 3⟩, R0, false) := by kernel_rfl
theorem aw3 : nextF R5 [u8 62, u8 7] = (Cyc0, { R0 with af := u16 1792, pc := u16 7, r := u8 1 }, true) := by kernel_rfl
theorem aw5 : takesF R5 [u8 62, u8 7] = (7, 2) := by kernel_rfl
theorem aw4 : afterF R5 (u8 60) [] = (Cyc0, { R0 with af := u16 256, pc := u16 5, r := u8 0 }, true) := by kernel_rfl
theorem blk_keep {w w1 : World} {n : Nat} {c : Array Value} (hb : Below w.heap.size w w1) (hn : n < w.heap.size) (h : blk w n = c) : blk w1 n = c := by
  unfold blk at *
  rw [hb.block n hn]
  exact h
/-- Registers and cycles that are built. -/
def bdRegs (parts : Array (Nat × Value)) : Sem Value := Instr.build 24 parts
def bdCyc (parts : Array (Nat × Value)) : Sem Value := Instr.build 28 parts
@[go_sem ↓ high] theorem bd_regs (parts : Array (Nat × Value)) : Instr.build 24 parts = bdRegs parts := rfl
@[go_sem ↓ high] theorem bd_cyc (parts : Array (Nat × Value)) : Instr.build 28 parts = bdCyc parts := rfl
theorem bd_regs0 (W : World) : (bdRegs #[]).run Tryz.prog W = .ok (.agg R0.cells) W := by kernel_rfl
theorem bd_cyc0 (W : World) : (bdCyc #[]).run Tryz.prog W = .ok (.agg Cyc0.cells) W := by kernel_rfl
theorem bd_r5 (W : World) : (bdRegs #[(11, .int .u16 5)]).run Tryz.prog W = .ok (.agg R5.cells) W := by kernel_rfl
theorem bd_c1 (W : World) : (bdCyc #[(0, .int .i64 1), (1, .int .u16 5), (3, .int .i64 4)]).run Tryz.prog W = .ok (.agg (Cyc.cells ⟨1, u16 5, u8 0, 4⟩)) W := by kernel_rfl
theorem bd_c2 (W : World) : (bdCyc #[(0, .int .i64 2), (1, .int .u16 6), (3, .int .i64 3)]).run Tryz.prog W = .ok (.agg (Cyc.cells ⟨2, u16 6, u8 0, 3⟩)) W := by kernel_rfl
theorem bd_r3 (W : World) : (bdRegs #[(0, .int .u16 1792), (11, .int .u16 7), (14, .int .u8 1)]).run Tryz.prog W = .ok (.agg (R.cells { R0 with af := u16 1792, pc := u16 7, r := u8 1 })) W := by kernel_rfl
attribute [go_sem] bd_regs0 bd_cyc0 bd_r5 bd_c1 bd_c2 bd_r3
theorem eq_c1 (W : World) : (binOp .eql 28 (.agg (Cyc.cells ⟨1, u16 5, u8 0, 4⟩)) (.agg (Cyc.cells ⟨1, u16 5, u8 0, 4⟩))).run Tryz.prog W = .ok (.bool true) W := by kernel_rfl
theorem eq_c2 (W : World) : (binOp .eql 28 (.agg (Cyc.cells ⟨2, u16 6, u8 0, 3⟩)) (.agg (Cyc.cells ⟨2, u16 6, u8 0, 3⟩))).run Tryz.prog W = .ok (.bool true) W := by kernel_rfl
theorem eq_r3 (W : World) : (binOp .eql 24 (.agg (R.cells { R0 with af := u16 1792, pc := u16 7, r := u8 1 })) (.agg (R.cells { R0 with af := u16 1792, pc := u16 7, r := u8 1 }))).run Tryz.prog W = .ok (.bool true) W := by kernel_rfl
theorem sl_nil (w : World) : SlIs w (.slice none 0 0) [] := .inl ⟨_, _, rfl, rfl⟩
theorem sl_one {w : World} {b c : Nat} {x : U8} (hc : 1 ≤ c) (h : w.cell? ⟨b, 0, none⟩ = some (.int .u8 x.v)) : SlIs w (.slice (some ⟨b, 0, none⟩) 1 c) [x] := by
  refine .inr ⟨b, 0, c, rfl, hc, World.block_lt_of_cell? _ _ h, fun j v hj => ?_⟩
  rcases j with _ | j
  · cases hj; exact h
  · cases hj
theorem sl_two {w : World} {b c : Nat} {x y : U8} (hc : 2 ≤ c) (h : w.cell? ⟨b, 0, none⟩ = some (.int .u8 x.v)) (k : w.cell? ⟨b, 1, none⟩ = some (.int .u8 y.v)) : SlIs w (.slice (some ⟨b, 0, none⟩) 2 c) [x, y] := by
  refine .inr ⟨b, 0, c, rfl, hc, World.block_lt_of_cell? _ _ h, fun j v hj => ?_⟩
  rcases j with _ | _ | j
  · cases hj; exact h
  · cases hj; exact k
  · cases hj
set_option maxHeartbeats 4000000 in
set_option maxRecDepth 20000 in
theorem awakeW_ (w : World) (hL : Lg w) : Calls Tryz.prog 11 #[] w fun e w' => e = .returned (.bool true) ∧ Below w.heap.size w w' := by
  have e1 := eq_c1
  have e2 := eq_c2
  have e3 := eq_r3
  have hb0 := Below.refl w.heap.size w
  have HL := Lib.hid hL
  clear hL
  go_enter Tryz.func11, Tryz.ntmps11
  go_wp2_with fail
  refine (nextW_ R5 _ [] _ (sl_nil _) (HL.out.kept (by go_grown))).mono ?_
  rw [aw1]
  rintro e w1 ⟨rfl, hb1⟩
  have z1 : w.heap.size < w1.heap.size := by have := hb1.size; simp at this; omega
  have k1 : blk w1 w.heap.size = R5.cells := blk_keep hb1 (by first | omega | (simp only [World.size_alloc]; omega)) (by simp [go_sem])
  have y1 : w.heap.size < w1.heap.size + 1 := by omega
  go_wp2_with fail
  refine (nextW_ R5 _ [u8 62] _ (sl_one (Nat.le_refl 1) (by simp [go_sem]; rfl)) (HL.out.kept (by refine bt ?_ (bt hb1 ?_) <;> go_grown))).mono ?_
  rw [aw2]
  rintro e w2 ⟨rfl, hb2⟩
  have s2 : w1.heap.size + 3 ≤ w2.heap.size := by have := hb2.size; simp at this; omega
  have z2 : w.heap.size < w2.heap.size := by omega
  have y2 : w.heap.size < w2.heap.size + 1 := by omega
  have z21 : w1.heap.size < w2.heap.size := by omega
  have k2 : blk w2 w.heap.size = R5.cells := blk_keep hb2 (by first | omega | (simp only [World.size_alloc]; omega)) (by (repeat refine (blk_alloc_past _ _ _ (by first | omega | (simp only [World.size_alloc]; omega))).trans ?_); assumption)
  have c2 : blk w2 w1.heap.size = Cyc.cells ⟨1, u16 5, u8 0, 4⟩ := blk_keep hb2 (by first | omega | (simp only [World.size_alloc]; omega)) (by simp [go_sem])
  have B2 : Below w.heap.size w w2 := by refine bt ?_ (bt hb1 (bt ?_ hb2)) <;> go_grown
  go_wp2_with fail
  refine (nextW_ R5 _ [u8 62, u8 7] _ (sl_two (Nat.le_refl 2) (by simp [go_sem]; rfl) (by simp [go_sem]; rfl)) (HL.out.kept (bt B2 (by go_grown)))).mono ?_
  rw [aw3]
  rintro e w3 ⟨rfl, hb3⟩
  have s3 : w2.heap.size + 3 ≤ w3.heap.size := by have := hb3.size; simp at this; omega
  have z3 : w.heap.size < w3.heap.size := by omega
  have y3 : w.heap.size < w3.heap.size + 1 := by omega
  have k3 : blk w3 w.heap.size = R5.cells := blk_keep hb3 (by first | omega | (simp only [World.size_alloc]; omega)) (by (repeat refine (blk_alloc_past _ _ _ (by first | omega | (simp only [World.size_alloc]; omega))).trans ?_); assumption)
  have c3 : blk w3 w1.heap.size = Cyc.cells ⟨1, u16 5, u8 0, 4⟩ := blk_keep hb3 (by first | omega | (simp only [World.size_alloc]; omega)) (by (repeat refine (blk_alloc_past _ _ _ (by first | omega | (simp only [World.size_alloc]; omega))).trans ?_); assumption)
  have d3 : blk w3 w2.heap.size = Cyc.cells ⟨2, u16 6, u8 0, 3⟩ := blk_keep hb3 (by first | omega | (simp only [World.size_alloc]; omega)) (by simp [go_sem])
  have B3 : Below w.heap.size w w3 := bt B2 (bt (by go_grown) hb3)
  go_wp2_with fail
  refine (afterW_ R5 (u8 60) _ [] _ (sl_nil _) (HL.out.kept (bt B3 (by go_grown)))).mono ?_
  rw [aw4]
  rintro e w4 ⟨rfl, hb4⟩
  have s4 : w3.heap.size + 2 ≤ w4.heap.size := by have := hb4.size; simp only [World.size_alloc] at this; omega
  have z4 : w.heap.size < w4.heap.size := by omega
  have y4 : w.heap.size < w4.heap.size + 1 := by omega
  have k4 : blk w4 w.heap.size = R5.cells := blk_keep hb4 (by first | omega | (simp only [World.size_alloc]; omega)) (by (repeat refine (blk_alloc_past _ _ _ (by first | omega | (simp only [World.size_alloc]; omega))).trans ?_); assumption)
  have x1 : w1.heap.size < w3.heap.size := by omega
  have x2 : w1.heap.size < w3.heap.size + 1 := by omega
  have x3 : w2.heap.size < w3.heap.size := by omega
  have x4 : w2.heap.size < w3.heap.size + 1 := by omega
  have c4 : blk w4 w1.heap.size = Cyc.cells ⟨1, u16 5, u8 0, 4⟩ := blk_keep hb4 (by first | omega | (simp only [World.size_alloc]; omega)) (by (repeat refine (blk_alloc_past _ _ _ (by first | omega | (simp only [World.size_alloc]; omega))).trans ?_); assumption)
  have d4 : blk w4 w2.heap.size = Cyc.cells ⟨2, u16 6, u8 0, 3⟩ := blk_keep hb4 (by first | omega | (simp only [World.size_alloc]; omega)) (by (repeat refine (blk_alloc_past _ _ _ (by first | omega | (simp only [World.size_alloc]; omega))).trans ?_); assumption)
  have r4 : blk w4 (w3.heap.size + 1) = R.cells { R0 with af := u16 1792, pc := u16 7, r := u8 1 } := blk_keep hb4 (by first | omega | (simp only [World.size_alloc]; omega)) (by simp [go_sem])
  have B4 : Below w.heap.size w w4 := bt B3 (bt (by go_grown) hb4)
  go_wp2_with fail
  refine (takesW_ R5 _ [u8 62, u8 7] _ (sl_two (Nat.le_refl 2) (by simp [go_sem]; rfl) (by simp [go_sem]; rfl)) (HL.out.kept (bt B4 (by go_grown)))).mono ?_
  rw [aw5]
  rintro e w5 ⟨rfl, hb5⟩
  have s5 : w4.heap.size + 3 ≤ w5.heap.size := by have := hb5.size; simp at this; omega
  have u1 : w1.heap.size < w4.heap.size := by omega
  have u2 : w1.heap.size < w4.heap.size + 1 := by omega
  have u3 : w2.heap.size < w4.heap.size := by omega
  have u4 : w2.heap.size < w4.heap.size + 1 := by omega
  have u5 : w3.heap.size + 1 < w4.heap.size := by omega
  have u6 : w3.heap.size + 1 < w4.heap.size + 1 := by omega
  have c5 : blk w5 w1.heap.size = Cyc.cells ⟨1, u16 5, u8 0, 4⟩ := blk_keep hb5 (by first | omega | (simp only [World.size_alloc]; omega)) (by (repeat refine (blk_alloc_past _ _ _ (by first | omega | (simp only [World.size_alloc]; omega))).trans ?_); assumption)
  have d5 : blk w5 w2.heap.size = Cyc.cells ⟨2, u16 6, u8 0, 3⟩ := blk_keep hb5 (by first | omega | (simp only [World.size_alloc]; omega)) (by (repeat refine (blk_alloc_past _ _ _ (by first | omega | (simp only [World.size_alloc]; omega))).trans ?_); assumption)
  have r5 : blk w5 (w3.heap.size + 1) = R.cells { R0 with af := u16 1792, pc := u16 7, r := u8 1 } := blk_keep hb5 (by first | omega | (simp only [World.size_alloc]; omega)) (by (repeat refine (blk_alloc_past _ _ _ (by first | omega | (simp only [World.size_alloc]; omega))).trans ?_); assumption)
  have a5 : blk w5 (w4.heap.size + 1) = R.cells { R0 with af := u16 256, pc := u16 5, r := u8 0 } := blk_keep hb5 (by first | omega | (simp only [World.size_alloc]; omega)) (by simp [go_sem])
  have g5 : w5.cell? ⟨w4.heap.size + 1, 0, none⟩ = some (.int .u16 256) := by rw [cell_blk, a5]; rfl
  have B5 : Below w.heap.size w w5 := bt B4 (bt (by go_grown) hb5)
  go_wp2
  go_ret
  exact ⟨rfl, bt B5 (by go_grown)⟩
end Go.Proofs.YtnaampdpkegacaaGreatDoor
