/-
  The walk of the law NextHalted. A helper of the claim that stands beside it.
-/
import Derived.Test.YtnaampdpkegacaaGreatDoorm1
namespace Go.Proofs.YtnaampdpkegacaaGreatDoor
open Go.RowKit

theorem halted1 (r : R) : nextF { r with halted := true } [] = (⟨1, r.pc, u8 0, 4⟩, R0, false) := rfl
theorem halted2 (r : R) (b : U8) : nextF { r with halted := true } [b] = (Cyc0, tickR { r with halted := true }, true) := rfl
theorem halted3 (r : R) (b : U8) : takesF { r with halted := true } [b] = (4, 1) := by
  unfold takesF
  rw [show (200 : Nat) = 198 + 1 + 1 from rfl]
  unfold takesL
  rw [halted1]
  simp only [Bool.false_eq_true, if_false]
  rw [show reads 1 = true from rfl]
  simp only [if_true, List.headD_cons, List.tail_cons, List.nil_append]
  unfold takesL
  rw [halted2, if_pos rfl]
  simp [wrap64]
theorem tick_law (x : U8) : IntKind.u8.wrap (bits .and .u8 x.v 128 + bits .and .u8 ((x.v + 1) % 256) 127) = (tk x).v := by
  have h : ∀ n : Fin 256, IntKind.u8.wrap (bits .and .u8 (n.val : Int) 128 + bits .and .u8 (((n.val : Int) + 1) % 256) 127) = (n.val : Int) / 128 * 128 + ((n.val : Int) + 1) % 128 := by decide +kernel
  obtain ⟨v, h0, h1⟩ := x
  have := h ⟨v.toNat, by omega⟩
  simp only [Int.toNat_of_nonneg h0] at this
  exact this
theorem bd_c3 (p : U16) (W : World) : (bdCyc #[(0, .int .i64 1), (1, .int .u16 p.v), (3, .int .i64 4)]).run Tryz.prog W = .ok (.agg (Cyc.cells ⟨1, p, u8 0, 4⟩)) W := by kernel_rfl
set_option maxHeartbeats 4000000 in
set_option maxRecDepth 20000 in
theorem haltedW_ (r : R) (b : U8) (w : World) (hL : Lg w) : Calls Tryz.prog 9 #[.agg r.cells, .int .u8 b.v] w fun e w' => e = .returned (.bool true) ∧ Below w.heap.size w w' := by
  have q3 := bd_c3
  have tl : ∀ x : U8, (bits .and .u8 x.v 128 + bits .and .u8 (x.inc 1).v 127) % 256 = (tk x).v := fun x => by have h := tick_law x; rw [IntKind.wrap_u8] at h; exact h
  have HL := Lib.hid hL
  have hlt := hL.lt
  clear hL
  go_enter Tryz.func9, Tryz.ntmps9
  go_wp2_with fail
  refine (awakeW_ _ (HL.out.kept (by go_grown))).mono ?_
  rintro e w0 ⟨rfl, hb0⟩
  obtain ⟨w1, rfl, hb1, i1⟩ : ∃ w1, w0 = put w1 w.heap.size r.cells ∧ Below w.heap.size w w1 ∧ Inb w.heap.size w1 := by
    have e1 := (hb0.block w.heap.size (by simp)).trans (heap_alloc_last w _)
    exact ⟨w0, (asput e1).symm, bt (by go_grown) hb0, by have := hb0.size; simp only [World.size_alloc] at this; unfold Inb; omega⟩
  clear hb0
  have B1 : Below w.heap.size w (put w1 w.heap.size (R.cells { r with halted := true })) := below_put hb1 (Nat.le_refl _)
  go_wp2_with fail
  refine (nextW_ { r with halted := true } _ [] _ (sl_nil _) (HL.out.kept B1)).mono ?_
  rw [halted1]
  rintro e w2 ⟨rfl, hb2⟩
  have j1 : w.heap.size < w1.heap.size := i1
  have s2 : w1.heap.size ≤ w2.heap.size := by have := hb2.size; rwa [put_size] at this
  have k2 : blk w2 w.heap.size = (R.cells { r with halted := true }) := blk_keep hb2 (by rw [put_size]; exact i1) (blk_put i1 _)
  have B2 : Below w.heap.size w w2 := bt B1 hb2
  have z2 : w.heap.size < w2.heap.size := by omega
  have y2 : w.heap.size < w2.heap.size + 1 := by omega
  go_wp2_with fail
  refine (nextW_ { r with halted := true } _ [b] _ (sl_one (Nat.le_refl 1) (by simp [go_sem])) (HL.out.kept (bt B2 (by go_grown)))).mono ?_
  rw [halted2]
  rintro e w3 ⟨rfl, hb3⟩
  have s3 : w2.heap.size + 3 ≤ w3.heap.size := by have := hb3.size; simp only [World.size_alloc] at this; omega
  have z3 : w.heap.size < w3.heap.size := by omega
  have y3 : w.heap.size < w3.heap.size + 1 := by omega
  have k3 : blk w3 w.heap.size = (R.cells { r with halted := true }) := blk_keep hb3 (by first | omega | (simp only [World.size_alloc]; omega)) (by (repeat refine (blk_alloc_past _ _ _ (by first | omega | (simp only [World.size_alloc]; omega))).trans ?_); assumption)
  have c3 : blk w3 w2.heap.size = Cyc.cells ⟨1, r.pc, u8 0, 4⟩ := blk_keep hb3 (by first | omega | (simp only [World.size_alloc]; omega)) (by simp [go_sem])
  have B3 : Below w.heap.size w w3 := bt B2 (bt (by go_grown) hb3)
  go_wp2_with fail
  refine (takesW_ { r with halted := true } _ [b] _ (sl_one (Nat.le_refl 1) (by simp [go_sem])) (HL.out.kept (bt B3 (by go_grown)))).mono ?_
  rw [halted3]
  rintro e w4 ⟨rfl, hb4⟩
  have s4 : w3.heap.size + 3 ≤ w4.heap.size := by have := hb4.size; simp only [World.size_alloc] at this; omega
  have z4 : w.heap.size < w4.heap.size := by omega
  have y4 : w.heap.size < w4.heap.size + 1 := by omega
  have k4 : blk w4 w.heap.size = (R.cells { r with halted := true }) := blk_keep hb4 (by first | omega | (simp only [World.size_alloc]; omega)) (by (repeat refine (blk_alloc_past _ _ _ (by first | omega | (simp only [World.size_alloc]; omega))).trans ?_); assumption)
  have c4 : blk w4 w2.heap.size = Cyc.cells ⟨1, r.pc, u8 0, 4⟩ := blk_keep hb4 (by first | omega | (simp only [World.size_alloc]; omega)) (by (repeat refine (blk_alloc_past _ _ _ (by first | omega | (simp only [World.size_alloc]; omega))).trans ?_); assumption)
  have d4 : blk w4 (w3.heap.size + 1) = R.cells (tickR { r with halted := true }) := blk_keep hb4 (by first | omega | (simp only [World.size_alloc]; omega)) (by simp [go_sem])
  have v1 : w2.heap.size < w4.heap.size := by omega
  have v2 : w3.heap.size + 1 < w4.heap.size := by omega
  have m1 : w4.cell? ⟨w.heap.size, 14, none⟩ = some (.int .u8 r.r.v) := by rw [cell_blk, k4]; rfl
  have m2 : w4.cell? ⟨w.heap.size, 11, none⟩ = some (.int .u16 r.pc.v) := by rw [cell_blk, k4]; rfl
  have B4 : Below w.heap.size w w4 := bt B3 (bt (by go_grown) hb4)
  have E1 := eqC_refl ⟨1, r.pc, u8 0, 4⟩
  have E2 : eqR (tickR { r with halted := true }) { r with halted := true, r := tk r.r } = true := eqR_refl _
  go_wp2
  go_ret
  exact ⟨rfl, bt B4 (by go_grown)⟩
end Go.Proofs.YtnaampdpkegacaaGreatDoor
