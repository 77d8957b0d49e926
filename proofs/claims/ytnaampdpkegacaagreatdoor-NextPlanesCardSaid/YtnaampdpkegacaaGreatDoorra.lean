/-
  Contracts of the reference 04 (words). A helper of the claims that stand beside it.
-/
import Derived.Test.YtnaampdpkegacaaGreatDoorH
namespace Go.Proofs.YtnaampdpkegacaaGreatDoor
open Go.RowKit

theorem r04lines_ (a b c d e f g i : Bool) (r : Int) (r0 : 0 ≤ r) (r1 : r ≤ 65535) (w : World) : Calls Tryz.prog 245 #[.agg #[.bool a, .bool b, .bool c, .bool d, .bool e, .bool f, .bool g, .bool i], .int .u16 r] w fun x w' =>
    x = .returned (.agg #[.bool a, .bool b, .bool (bit 5 (hiB r)), .bool d, .bool (bit 3 (hiB r)), .bool f, .bool g, .bool i]) ∧ Below w.heap.size w w' := by
  go_enter Tryz.func245, Tryz.ntmps245
  go_wp2_with (first | (go_at_call 111; refine (r01hi_ _ r0 r1 _).mono ?_; rintro x w1 ⟨rfl, rfl⟩) | (go_at_call 181; refine (r01is_ _ _ (hiB_0 _) (hiB_1 _) _).mono ?_; rintro x w1 ⟨rfl, rfl⟩))
  go_returns
  exact ⟨rfl, by go_grown⟩
theorem r04result_ (r : Int) (half over out minus : Bool) (r0 : 0 ≤ r) (r1 : r ≤ 65535) (w : World) : Calls Tryz.prog 192 #[.int .u16 r, .bool half, .bool over, .bool out, .bool minus] w fun x w' =>
    x = .returned (.int .u8 (mk (bit 7 (hiB r)) (decide (r = 0)) (bit 5 (hiB r)) half (bit 3 (hiB r)) over minus out)) ∧ Below w.heap.size w w' := by
  go_enter Tryz.func192, Tryz.ntmps192
  go_wp2_with (first | (go_at_call 111; refine (r01hi_ _ r0 r1 _).mono ?_; rintro x w1 ⟨rfl, rfl⟩) | (go_at_call 181; refine (r01is_ _ _ (hiB_0 _) (hiB_1 _) _).mono ?_; rintro x w1 ⟨rfl, rfl⟩) | (go_at_call 245; refine (r04lines_ _ _ _ _ _ _ _ _ _ r0 r1 _).mono ?_; rintro x w1 ⟨rfl, hb1⟩) | (go_at_call 185; refine (r02make_ _ _ _ _ _ _ _ _ _).mono ?_; rintro x w2 ⟨rfl, hb2⟩))
  go_ret
  exact ⟨rfl, bt hb1 (((Below.refl _ _).alloc (Nat.le_refl _) _).trans (hb2.mono (by simp)))⟩
theorem r04add_ (a b f : Int) (a0 : 0 ≤ a) (a1 : a ≤ 65535) (b0 : 0 ≤ b) (b1 : b ≤ 65535) (f0 : 0 ≤ f) (f1 : f ≤ 255) (w : World) : Calls Tryz.prog 201 #[.int .u16 a, .int .u16 b, .int .u8 f] w fun x w' => x = .returned (.tuple #[.int .u16 (wAddR a b false), .int .u8 (hAddF a b f)]) ∧ Below w.heap.size w w' := by
  have er : (a + b) % 65536 = wAddR a b false := by unfold wAddR bw; simp
  have r0 := wAddR_0 a b false
  have r1 := wAddR_1 a b false
  go_enter Tryz.func201, Tryz.ntmps201
  go_wp2_with (first | (go_at_call 183; refine (r02of_ _ f0 f1 _).mono ?_; rintro x w1 ⟨rfl, hb1⟩) | (go_at_call 245; refine (r04lines_ _ _ _ _ _ _ _ _ _ r0 r1 _).mono ?_; rintro x w2 ⟨rfl, hb2⟩) | (go_at_call 185; refine (r02make_ _ _ _ _ _ _ _ _ _).mono ?_; rintro x w3 ⟨rfl, hb3⟩))
  go_ret2
  refine ⟨ret2 rfl ?_, bt hb1 (bt hb2 (((Below.refl _ _).alloc (Nat.le_refl _) _).trans (hb3.mono (by simp))))⟩
  unfold hAddF
  rw [kp_mk]
  have e196 : ∀ j, j < 8 → bit j 196 = (decide (j = 7) || decide (j = 6) || decide (j = 2)) := by decide
  simp (disch := decide) only [e196, wAddF, bit7_mk, bit6_mk, bit5_mk, bit4_mk, bit3_mk, bit2_mk, bit1_mk, bit0_mk]
  simp [bw]
theorem r04adc_ (a b f : Int) (a0 : 0 ≤ a) (a1 : a ≤ 65535) (b0 : 0 ≤ b) (b1 : b ≤ 65535) (f0 : 0 ≤ f) (f1 : f ≤ 255) (w : World) : Calls Tryz.prog 106 #[.int .u16 a, .int .u16 b, .int .u8 f] w fun x w' => x = .returned (.tuple #[.int .u16 (wAddR a b (bit 0 f)), .int .u8 (wAddF a b (bit 0 f))]) ∧ Below w.heap.size w w' := by
  have q := bw_range (bit 0 f)
  have er : (a + b + bw (bit 0 f) 1) % 65536 = wAddR a b (bit 0 f) := rfl
  have r0 := wAddR_0 a b (bit 0 f)
  have r1 := wAddR_1 a b (bit 0 f)
  have sa := wsgn_cases a
  have sb := wsgn_cases b
  rcases (show (wsgn a + wsgn b + bw (bit 0 f) 1 < -32768) ∨ (¬ wsgn a + wsgn b + bw (bit 0 f) 1 < -32768 ∧ 32767 < wsgn a + wsgn b + bw (bit 0 f) 1) ∨ (¬ wsgn a + wsgn b + bw (bit 0 f) 1 < -32768 ∧ ¬ 32767 < wsgn a + wsgn b + bw (bit 0 f) 1) by omega) with h | ⟨h, h2⟩ | ⟨h, h2⟩
  all_goals
    go_enter Tryz.func106, Tryz.ntmps106
    go_wp2_with (first | (go_at_call 190; refine (r04carry_ _ f0 f1 _).mono ?_; rintro x w1 ⟨rfl, rfl⟩) | (go_at_call 191; refine (r04signed_ _ (by omega) (by omega) _).mono ?_; rintro x w1 ⟨rfl, rfl⟩) | (go_at_call 192; refine (r04result_ _ _ _ _ _ r0 r1 _).mono ?_; rintro x w1 ⟨rfl, hb1⟩))
    go_ret2
    refine ⟨ret2 rfl ?_, by first | exact hb1 | exact bt (by go_grown) hb1⟩
    unfold wAddF wfar
    simp [*]
theorem r04sbc_ (a b f : Int) (a0 : 0 ≤ a) (a1 : a ≤ 65535) (b0 : 0 ≤ b) (b1 : b ≤ 65535) (f0 : 0 ≤ f) (f1 : f ≤ 255) (w : World) : Calls Tryz.prog 103 #[.int .u16 a, .int .u16 b, .int .u8 f] w fun x w' => x = .returned (.tuple #[.int .u16 (wSubR a b (bit 0 f)), .int .u8 (wSubF a b (bit 0 f))]) ∧ Below w.heap.size w w' := by
  have q := bw_range (bit 0 f)
  have er : (a - b - bw (bit 0 f) 1 + 131072) % 65536 = wSubR a b (bit 0 f) := by unfold wSubR; omega
  have r0 := wSubR_0 a b (bit 0 f)
  have r1 := wSubR_1 a b (bit 0 f)
  have sa := wsgn_cases a
  have sb := wsgn_cases b
  rcases (show (wsgn a - wsgn b - bw (bit 0 f) 1 < -32768) ∨ (¬ wsgn a - wsgn b - bw (bit 0 f) 1 < -32768 ∧ 32767 < wsgn a - wsgn b - bw (bit 0 f) 1) ∨ (¬ wsgn a - wsgn b - bw (bit 0 f) 1 < -32768 ∧ ¬ 32767 < wsgn a - wsgn b - bw (bit 0 f) 1) by omega) with h | ⟨h, h2⟩ | ⟨h, h2⟩
  all_goals
    go_enter Tryz.func103, Tryz.ntmps103
    go_wp2_with (first | (go_at_call 190; refine (r04carry_ _ f0 f1 _).mono ?_; rintro x w1 ⟨rfl, rfl⟩) | (go_at_call 191; refine (r04signed_ _ (by omega) (by omega) _).mono ?_; rintro x w1 ⟨rfl, rfl⟩) | (go_at_call 192; refine (r04result_ _ _ _ _ _ r0 r1 _).mono ?_; rintro x w1 ⟨rfl, hb1⟩))
    go_ret2
    refine ⟨ret2 rfl ?_, by first | exact hb1 | exact bt (by go_grown) hb1⟩
    unfold wSubF wfar
    simp [*]
end Go.Proofs.YtnaampdpkegacaaGreatDoor
