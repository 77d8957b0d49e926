/-
  Contracts of words: bits, wide, and the references 01, 03, 04. A helper of the claim that stands beside it.
-/
import Derived.Deep.RegionHeld3
import Derived.Test.YtnaampdpkegacaaGreatDoorN
import Derived.Test.YtnaampdpkegacaaGreatDoorD
namespace Go.Proofs.YtnaampdpkegacaaGreatDoor
open Go.RowKit

theorem hi_ (x : Int) (w : World) : Calls Tryz.prog 66 #[.int .u16 x] w fun e w' => e = .returned (.int .u8 (hiB x)) ∧ w = w' := by
  go_enter Tryz.func66, Tryz.ntmps66
  go_wp2
  go_ret
  exact ⟨rfl, rfl⟩
theorem lo_ (x : Int) (w : World) : Calls Tryz.prog 136 #[.int .u16 x] w fun e w' => e = .returned (.int .u8 (loB x)) ∧ w = w' := by
  go_enter Tryz.func136, Tryz.ntmps136
  go_wp2
  go_ret
  exact ⟨rfl, rfl⟩
theorem word_ (h l : Int) (h0 : 0 ≤ h) (h1 : h ≤ 255) (l0 : 0 ≤ l) (l1 : l ≤ 255) (w : World) : Calls Tryz.prog 149 #[.int .u8 h, .int .u8 l] w fun e w' => e = .returned (.int .u16 (wrd h l)) ∧ w = w' := by
  have e := Lib.hid (word_or h l h0 h1 l0 l1)
  go_enter Tryz.func149, Tryz.ntmps149
  go_wp2
  go_ret
  exact ⟨ret_int e.out, rfl⟩
theorem signed_ (b : Int) (b0 : 0 ≤ b) (b1 : b ≤ 255) (w : World) : Calls Tryz.prog 146 #[.int .u8 b] w fun e w' => e = .returned (.int .i64 (sgn b)) ∧ w = w' := by
  have e := Lib.hid (sgn_wrap b b0 b1)
  go_enter Tryz.func146, Tryz.ntmps146
  go_wp2
  go_ret
  exact ⟨ret_int (by have := sgn_range b b0 b1; rw [e.out]; unfold wrap64; omega), rfl⟩
theorem r01hi_ (x : Int) (x0 : 0 ≤ x) (x1 : x ≤ 65535) (w : World) : Calls Tryz.prog 111 #[.int .u16 x] w fun e w' => e = .returned (.int .u8 (hiB x)) ∧ w = w' := by
  go_enter Tryz.func111, Tryz.ntmps111
  go_wp2
  go_ret
  exact ⟨ret_int (by unfold hiB; omega), rfl⟩
theorem r01lo_ (x : Int) (x0 : 0 ≤ x) (x1 : x ≤ 65535) (w : World) : Calls Tryz.prog 177 #[.int .u16 x] w fun e w' => e = .returned (.int .u8 (loB x)) ∧ w = w' := by
  go_enter Tryz.func177, Tryz.ntmps177
  go_wp2
  go_ret
  exact ⟨ret_int (by unfold loB; omega), rfl⟩
theorem r01word_ (h l : Int) (h0 : 0 ≤ h) (h1 : h ≤ 255) (l0 : 0 ≤ l) (l1 : l ≤ 255) (w : World) : Calls Tryz.prog 180 #[.int .u8 h, .int .u8 l] w fun e w' => e = .returned (.int .u16 (wrd h l)) ∧ w = w' := by
  go_enter Tryz.func180, Tryz.ntmps180
  go_wp2
  go_ret
  exact ⟨ret_int (by unfold wrd; omega), rfl⟩
theorem r01signed_ (b : Int) (b0 : 0 ≤ b) (b1 : b ≤ 255) (w : World) : Calls Tryz.prog 116 #[.int .u8 b] w fun e w' => e = .returned (.int .i64 (sgn b)) ∧ w = w' := by
  by_cases h : b < 128
  · have e := Lib.hid (show sgn b = b by simp [sgn, h])
    go_enter Tryz.func116, Tryz.ntmps116
    go_wp2
    go_ret
    exact ⟨ret_int e.out.symm, rfl⟩
  · have e := Lib.hid (show sgn b = b - 256 by simp [sgn, h])
    go_enter Tryz.func116, Tryz.ntmps116
    go_wp2
    go_ret
    exact ⟨ret_int e.out.symm, rfl⟩
theorem r03one_ (b : Bool) (w : World) : Calls Tryz.prog 246 #[.bool b] w fun e w' => e = .returned (.int .i64 (bw b 1)) ∧ w = w' := by
  cases b
  all_goals
    go_enter Tryz.func246, Tryz.ntmps246
    go_wp2
    go_ret
    exact ⟨rfl, rfl⟩
theorem r03far_ (n : Int) (w : World) : Calls Tryz.prog 247 #[.int .i64 n] w fun e w' => e = .returned (.bool (farb n)) ∧ w = w' := by
  by_cases h : n < -128
  · go_enter Tryz.func247, Tryz.ntmps247
    go_wp2
    go_ret
    exact ⟨ret_bool (by simp only [farb, h, decide_true, Bool.true_or]), rfl⟩
  · go_enter Tryz.func247, Tryz.ntmps247
    go_wp2
    go_ret
    exact ⟨ret_bool (by simp only [farb, show ¬ n < -128 by omega, decide_false, Bool.false_or]), rfl⟩
theorem r03add_ (a b : Int) (c : Bool) (a0 : 0 ≤ a) (a1 : a ≤ 255) (b0 : 0 ≤ b) (b1 : b ≤ 255) (w : World) : Calls Tryz.prog 206 #[.int .u8 a, .int .u8 b, .bool c] w fun e w' => e = .returned (.tuple #[.int .u8 (addR a b c), .int .u8 (addF a b c)]) ∧ Below w.heap.size w w' := by
  have q := bw_range c
  have sa := sgn_range a a0 a1
  have sb := sgn_range b b0 b1
  go_enter Tryz.func206, Tryz.ntmps206
  go_wp2_with (first
    | (go_at_call 246; refine (r03one_ _ _).mono ?_; rintro e w1 ⟨rfl, rfl⟩)
    | (go_at_call 197; refine (r02result_ _ (by omega) (by omega) _).mono ?_; rintro e w1 ⟨rfl, hb1⟩)
    | (go_at_call 183; refine (r02of_ _ (by have := res_range ((a + b + bw c 1) % 256); omega) (by have := res_range ((a + b + bw c 1) % 256); omega) _).mono ?_; rintro e w2 ⟨rfl, hb2⟩)
    | (go_at_call 116; refine (r01signed_ _ (by omega) (by omega) _).mono ?_; rintro e w1 ⟨rfl, rfl⟩)
    | (go_at_call 247; refine (r03far_ _ _).mono ?_; rintro e w1 ⟨rfl, rfl⟩)
    | (go_at_call 185; refine (r02make_ _ _ _ _ _ _ _ _ _).mono ?_; rintro e w3 ⟨rfl, hb3⟩))
  go_ret2
  exact ⟨ret2 rfl (by simp only [res, bit7_mk, bit6_mk, bit5_mk, bit3_mk, bit1_mk]; rfl), bt hb1 (bt hb2 (((Below.refl _ _).alloc (Nat.le_refl _) _).trans (hb3.mono (by simp))))⟩
theorem r03sub_ (a b : Int) (c : Bool) (a0 : 0 ≤ a) (a1 : a ≤ 255) (b0 : 0 ≤ b) (b1 : b ≤ 255) (w : World) : Calls Tryz.prog 195 #[.int .u8 a, .int .u8 b, .bool c] w fun e w' => e = .returned (.tuple #[.int .u8 (subR a b c), .int .u8 (subF a b c)]) ∧ Below w.heap.size w w' := by
  have q := bw_range c
  have sa := sgn_range a a0 a1
  have sb := sgn_range b b0 b1
  have er : (a - b - bw c 1 + 512) % 256 = subR a b c := by unfold subR; omega
  go_enter Tryz.func195, Tryz.ntmps195
  go_wp2_with (first
    | (go_at_call 246; refine (r03one_ _ _).mono ?_; rintro e w1 ⟨rfl, rfl⟩)
    | (go_at_call 197; refine (r02result_ _ (by have := subR_range a b c; omega) (by have := subR_range a b c; omega) _).mono ?_; rintro e w1 ⟨rfl, hb1⟩)
    | (go_at_call 183; refine (r02of_ _ (by have := res_range (subR a b c); omega) (by have := res_range (subR a b c); omega) _).mono ?_; rintro e w2 ⟨rfl, hb2⟩)
    | (go_at_call 116; refine (r01signed_ _ (by omega) (by omega) _).mono ?_; rintro e w1 ⟨rfl, rfl⟩)
    | (go_at_call 247; refine (r03far_ _ _).mono ?_; rintro e w1 ⟨rfl, rfl⟩)
    | (go_at_call 185; refine (r02make_ _ _ _ _ _ _ _ _ _).mono ?_; rintro e w3 ⟨rfl, hb3⟩))
  go_ret2
  exact ⟨ret2 rfl (by simp only [res, bit7_mk, bit6_mk, bit5_mk, bit3_mk]; rfl), bt hb1 (bt hb2 (((Below.refl _ _).alloc (Nat.le_refl _) _).trans (hb3.mono (by simp))))⟩
theorem r03neg_ (a : Int) (a0 : 0 ≤ a) (a1 : a ≤ 255) (w : World) : Calls Tryz.prog 108 #[.int .u8 a] w fun e w' => e = .returned (.tuple #[.int .u8 (subR 0 a false), .int .u8 (subF 0 a false)]) ∧ Below w.heap.size w w' := by
  go_enter Tryz.func108, Tryz.ntmps108
  go_wp2_with (go_at_call 195; refine (r03sub_ _ _ _ (by omega) (by omega) a0 a1 _).mono ?_; rintro e w1 ⟨rfl, hb⟩)
  go_ret2
  exact ⟨rfl, hb⟩
theorem r03cmp_ (a b : Int) (a0 : 0 ≤ a) (a1 : a ≤ 255) (b0 : 0 ≤ b) (b1 : b ≤ 255) (w : World) : Calls Tryz.prog 210 #[.int .u8 a, .int .u8 b] w fun e w' => e = .returned (.int .u8 (cmpF a b)) ∧ Below w.heap.size w w' := by
  go_enter Tryz.func210, Tryz.ntmps210
  go_wp2_with (first
    | (go_at_call 195; refine (r03sub_ _ _ _ a0 a1 b0 b1 _).mono ?_; rintro e w1 ⟨rfl, hb1⟩)
    | (go_at_call 183; refine (r02of_ _ (by have := subF_range a b false; omega) (by have := subF_range a b false; omega) _).mono ?_; rintro e w2 ⟨rfl, hb2⟩)
    | (go_at_call 181; refine (r01is_ _ _ b0 b1 _).mono ?_; rintro e w1 ⟨rfl, rfl⟩)
    | (go_at_call 185; refine (r02make_ _ _ _ _ _ _ _ _ _).mono ?_; rintro e w3 ⟨rfl, hb3⟩))
  go_ret
  refine ⟨ret_int ?_, bt hb1 (bt hb2 (((Below.refl _ _).alloc (Nat.le_refl _) _).trans (hb3.mono (by simp))))⟩
  unfold cmpF
  rw [kp_mk]
  have e40 : ∀ j, j < 8 → bit j 40 = (decide (j = 5) || decide (j = 3)) := by decide
  simp (disch := decide) only [e40, isb]
  rfl
theorem r03inc_ (a f : Int) (a0 : 0 ≤ a) (a1 : a ≤ 255) (f0 : 0 ≤ f) (f1 : f ≤ 255) (w : World) : Calls Tryz.prog 251 #[.int .u8 a, .int .u8 f] w fun e w' => e = .returned (.tuple #[.int .u8 (addR a 1 false), .int .u8 (kp (addF a 1 false) f 1)]) ∧ Below w.heap.size w w' := by
  go_enter Tryz.func251, Tryz.ntmps251
  go_wp2_with (first
    | (go_at_call 206; refine (r03add_ _ _ _ a0 a1 (by omega) (by omega) _).mono ?_; rintro e w1 ⟨rfl, hb1⟩)
    | (go_at_call 183; refine (r02of_ _ (by have := addF_range a 1 false; omega) (by have := addF_range a 1 false; omega) _).mono ?_; rintro e w2 ⟨rfl, hb2⟩)
    | (go_at_call 181; refine (r01is_ _ _ f0 f1 _).mono ?_; rintro e w1 ⟨rfl, rfl⟩)
    | (go_at_call 185; refine (r02make_ _ _ _ _ _ _ _ _ _).mono ?_; rintro e w3 ⟨rfl, hb3⟩))
  go_ret2
  refine ⟨ret2 rfl ?_, bt hb1 (bt hb2 (((Below.refl _ _).alloc (Nat.le_refl _) _).trans (hb3.mono (by simp))))⟩
  rw [kp_mk]
  simp only [bit_1, isb]
  rfl
theorem r03dec_ (a f : Int) (a0 : 0 ≤ a) (a1 : a ≤ 255) (f0 : 0 ≤ f) (f1 : f ≤ 255) (w : World) : Calls Tryz.prog 252 #[.int .u8 a, .int .u8 f] w fun e w' => e = .returned (.tuple #[.int .u8 (subR a 1 false), .int .u8 (kp (subF a 1 false) f 1)]) ∧ Below w.heap.size w w' := by
  go_enter Tryz.func252, Tryz.ntmps252
  go_wp2_with (first
    | (go_at_call 195; refine (r03sub_ _ _ _ a0 a1 (by omega) (by omega) _).mono ?_; rintro e w1 ⟨rfl, hb1⟩)
    | (go_at_call 183; refine (r02of_ _ (by have := subF_range a 1 false; omega) (by have := subF_range a 1 false; omega) _).mono ?_; rintro e w2 ⟨rfl, hb2⟩)
    | (go_at_call 181; refine (r01is_ _ _ f0 f1 _).mono ?_; rintro e w1 ⟨rfl, rfl⟩)
    | (go_at_call 185; refine (r02make_ _ _ _ _ _ _ _ _ _).mono ?_; rintro e w3 ⟨rfl, hb3⟩))
  go_ret2
  refine ⟨ret2 rfl ?_, bt hb1 (bt hb2 (((Below.refl _ _).alloc (Nat.le_refl _) _).trans (hb3.mono (by simp))))⟩
  rw [kp_mk]
  simp only [bit_1, isb]
  rfl
end Go.Proofs.YtnaampdpkegacaaGreatDoor
