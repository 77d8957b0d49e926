/-
  Contracts of the reference 08: Fields and Near. A helper of the claims that stand beside it.
-/
import Derived.Test.YtnaampdpkegacaaGreatDoorqbase
namespace Go.Proofs.YtnaampdpkegacaaGreatDoor
open Go.RowKit

theorem wrap64_small {x : Int} (h0 : 0 ≤ x) (h1 : x ≤ 65535) : wrap64 x = x := by unfold wrap64; omega
theorem tdiv_nn {x y : Int} (h0 : 0 ≤ x) : x.tdiv y = x / y := Int.tdiv_eq_ediv_of_nonneg h0
theorem tmod_nn {x y : Int} (h0 : 0 ≤ x) : x.tmod y = x % y := Int.tmod_eq_emod_of_nonneg h0
theorem p8Fields_ (c : U8) (w : World) : Calls Tryz.prog 36 #[.int .u8 c.v] w fun e w' => e = .returned (.tuple #[.int .i64 (fx c), .int .i64 (fy c), .int .i64 (fz c), .int .i64 (fy c / 2), .int .i64 (fy c % 2)]) ∧ w = w' := by
  have c0 := c.h0
  have c1 := c.h1
  go_enter Tryz.func36, Tryz.ntmps36
  go_wp2
  refine bodyPost_ret (results_tmp5 rfl _ _ _) rfl ⟨?_, rfl⟩
  show Ending.returned (.tuple #[.int .i64 (c.v / 64), .int .i64 (c.v / 8 % 8), .int .i64 (c.v % 8), .int .i64 (c.v / 16 % 4), .int .i64 (c.v / 8 % 2)]) = _
  rw [show c.v / 16 % 4 = fy c / 2 by unfold fy; omega, show c.v / 8 % 2 = fy c % 2 by unfold fy; omega]
  rfl
set_option maxHeartbeats 2000000 in
theorem p8Near_ (plane : Int) (c : U8) (w : World) : Calls Tryz.prog 34 #[.int .i64 plane, .int .u8 c.v] w fun e w' => e = .returned (.bool (nearS plane c)) ∧ w = w' := by
  have x0 : 0 ≤ fx c := by have := c.h0; unfold fx; omega
  have y0 : 0 ≤ fy c := by unfold fy; omega
  have z0 : 0 ≤ fz c := by unfold fz; omega
  rcases (show plane = 5 ∨ plane = 6 ∨ (¬ plane = 5 ∧ ¬ plane = 6 ∧ ¬ plane = 3 ∧ ¬ plane = 4) ∨ plane = 3 ∨ plane = 4 by omega) with rfl | rfl | ⟨h5, h6, h3, h4⟩ | hp | hp
  case' inr.inr.inr.inl | inr.inr.inr.inr =>
    subst hp
    rcases (show (fx c = 0 ∧ ¬ fy c = 6) ∨ (fx c = 0 ∧ fy c = 6 ∧ fz c < 4) ∨ (fx c = 0 ∧ fy c = 6 ∧ 4 ≤ fz c ∧ fz c ≤ 6) ∨ (fx c = 0 ∧ fy c = 6 ∧ 4 ≤ fz c ∧ 6 < fz c) ∨ (fx c = 1 ∧ fz c = 6 ∧ fy c = 6) ∨ (fx c = 1 ∧ fz c = 6 ∧ ¬ fy c = 6) ∨ (fx c = 1 ∧ ¬ fz c = 6 ∧ fy c = 6) ∨ (fx c = 1 ∧ ¬ fz c = 6 ∧ ¬ fy c = 6) ∨ (fx c = 2 ∧ fz c = 6) ∨ (fx c = 2 ∧ ¬ fz c = 6) ∨ (¬ fx c = 0 ∧ ¬ fx c = 1 ∧ ¬ fx c = 2) by omega) with ⟨a, b⟩ | ⟨a, b, d⟩ | ⟨a, b, d, e⟩ | ⟨a, b, d, e⟩ | ⟨a, b, d⟩ | ⟨a, b, d⟩ | ⟨a, b, d⟩ | ⟨a, b, d⟩ | ⟨a, b⟩ | ⟨a, b⟩ | ⟨a, b, d⟩
  all_goals
    go_enter Tryz.func34, Tryz.ntmps34
    go_wp2_with (go_at_call 36; refine (p8Fields_ _ _).mono ?_; rintro e w1 ⟨rfl, rfl⟩)
  all_goals
    go_ret
    refine ⟨?_, rfl⟩
    first
      | (simp [nearS, *]; done)
      | (simp [nearS, *]; omega)
      | (have e1 : (fz c == 6) = false := by simpa using b
         have e2 : (fy c == 6) = false := by simpa using d
         simp [nearS, *]; done)
end Go.Proofs.YtnaampdpkegacaaGreatDoor
