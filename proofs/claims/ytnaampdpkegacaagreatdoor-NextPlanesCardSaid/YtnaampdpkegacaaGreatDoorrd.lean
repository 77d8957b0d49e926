/-
  Contracts of the reference 07 (blocks). A helper of the claims that stand beside it.
-/
import Derived.Test.YtnaampdpkegacaaGreatDoorrb
namespace Go.Proofs.YtnaampdpkegacaaGreatDoor
open Go.RowKit

def moFq (a b : Int) (nz : Bool) (f : Int) : Int := mk (bit 7 f) (bit 6 f) (bit 1 ((a + b) % 256)) false (bit 3 ((a + b) % 256)) nz false (bit 0 f)
def fiNq (a b : Int) : Int := (subR a b false - bw (bit 4 (subF a b false)) 1) % 256
def fiFq (a b : Int) (nz : Bool) (f : Int) : Int := mk (bit 7 (subF a b false)) (bit 6 (subF a b false)) (bit 1 (fiNq a b)) (bit 4 (subF a b false)) (bit 3 (fiNq a b)) nz true (bit 0 f)
def coFq (b left k : Int) : Int := mk (bit 7 left) (decide (left = 0)) (bit 5 left) (decide (255 < k)) (bit 3 left) (evb (bits .xor .u8 (k % 8) left)) (decide (127 < b)) (decide (255 < k))
def agSq (k f : Int) : Bool := if k = 0 then bit 2 f else if k = 1 then bit 2 f && !bit 6 f else if k = 2 ∨ k = 3 then !bit 6 f else false

set_option maxHeartbeats 2000000 in
theorem r07move_ (a b x f : Int) (a0 : 0 ≤ a) (a1 : a ≤ 255) (b0 : 0 ≤ b) (b1 : b ≤ 255) (f0 : 0 ≤ f) (f1 : f ≤ 255) (w : World) : Calls Tryz.prog 173 #[.int .u8 a, .int .u8 b, .int .u16 x, .int .u8 f] w fun e w' => e = .returned (.int .u8 (moFq a b (decide (¬ x = 0)) f)) ∧ Below w.heap.size w w' := by
  go_enter Tryz.func173, Tryz.ntmps173
  go_wp2_with (first | (go_at_call 181; refine (r01is_ _ _ (by omega) (by omega) _).mono ?_; rintro x w1 ⟨rfl, rfl⟩) | (go_at_call 183; refine (r02of_ _ f0 f1 _).mono ?_; rintro x w1 ⟨rfl, hb1⟩) | (go_at_call 185; refine (r02make_ _ _ _ _ _ _ _ _ _).mono ?_; rintro x w2 ⟨rfl, hb2⟩))
  go_ret
  refine ⟨ret_int ?_, bt hb1 (((Below.refl _ _).alloc (Nat.le_refl _) _).trans (hb2.mono (by simp)))⟩
  unfold moFq
  rw [show (x != 0) = decide (¬ x = 0) by by_cases hx : x = 0 <;> simp [hx, bne]]
  simp [isb]
set_option maxHeartbeats 2000000 in
theorem r07find_ (a b x f : Int) (a0 : 0 ≤ a) (a1 : a ≤ 255) (b0 : 0 ≤ b) (b1 : b ≤ 255) (f0 : 0 ≤ f) (f1 : f ≤ 255) (w : World) : Calls Tryz.prog 174 #[.int .u8 a, .int .u8 b, .int .u16 x, .int .u8 f] w fun e w' => e = .returned (.int .u8 (fiFq a b (decide (¬ x = 0)) f)) ∧ Below w.heap.size w w' := by
  have r := subR_range a b false
  have s := subF_range a b false
  rcases Bool.eq_false_or_eq_true (bit 4 (subF a b false)) with h4 | h4
  · have EN := Lib.hid (show fiNq a b = (subR a b false + 255) % 256 by unfold fiNq; rw [h4]; simp [bw]; omega)
    go_enter Tryz.func174, Tryz.ntmps174
    go_wp2_with (first | (go_at_call 195; refine (r03sub_ _ _ _ a0 a1 b0 b1 _).mono ?_; rintro x w1 ⟨rfl, hb0⟩) | (go_at_call 181; refine (r01is_ _ _ (by omega) (by omega) _).mono ?_; rintro x w1 ⟨rfl, rfl⟩) | (go_at_call 183; refine (r02of_ _ s.1 s.2 _).mono ?_; rintro x w1 ⟨rfl, hb1⟩) | (go_at_call 185; refine (r02make_ _ _ _ _ _ _ _ _ _).mono ?_; rintro x w2 ⟨rfl, hb2⟩))
    go_ret
    refine ⟨ret_int ?_, bt hb0 (bt hb1 (((Below.refl _ _).alloc (Nat.le_refl _) _).trans (hb2.mono (by simp))))⟩
    unfold fiFq
    rw [EN.out, h4]
    rw [show (x != 0) = decide (¬ x = 0) by by_cases hx : x = 0 <;> simp [hx, bne]]
    simp [isb]
  · have EN := Lib.hid (show fiNq a b = subR a b false by unfold fiNq; rw [h4]; simp [bw]; omega)
    go_enter Tryz.func174, Tryz.ntmps174
    go_wp2_with (first | (go_at_call 195; refine (r03sub_ _ _ _ a0 a1 b0 b1 _).mono ?_; rintro x w1 ⟨rfl, hb0⟩) | (go_at_call 181; refine (r01is_ _ _ (by omega) (by omega) _).mono ?_; rintro x w1 ⟨rfl, rfl⟩) | (go_at_call 183; refine (r02of_ _ s.1 s.2 _).mono ?_; rintro x w1 ⟨rfl, hb1⟩) | (go_at_call 185; refine (r02make_ _ _ _ _ _ _ _ _ _).mono ?_; rintro x w2 ⟨rfl, hb2⟩))
    go_ret
    refine ⟨ret_int ?_, bt hb0 (bt hb1 (((Below.refl _ _).alloc (Nat.le_refl _) _).trans (hb2.mono (by simp))))⟩
    unfold fiFq
    rw [EN.out, h4]
    rw [show (x != 0) = decide (¬ x = 0) by by_cases hx : x = 0 <;> simp [hx, bne]]
    simp [isb]
set_option maxHeartbeats 2000000 in
theorem qcounted_ (b l k : Int) (b0 : 0 ≤ b) (b1 : b ≤ 255) (l0 : 0 ≤ l) (l1 : l ≤ 255) (k0 : 0 ≤ k) (_k1 : k ≤ 1000) (w : World) : Calls Tryz.prog 243 #[.int .u8 b, .int .u8 l, .int .i64 k] w fun e w' => e = .returned (.int .u8 (coFq b l k)) ∧ Below w.heap.size w w' := by
  have hr := res_range l
  have hk8 : k.tmod 8 = k % 8 := by rw [Int.tmod_eq_emod_of_nonneg k0]
  have nx : ∀ x y : Bool, (!x == y) = (x != y) := by decide
  go_enter Tryz.func243, Tryz.ntmps243
  go_wp2_with (first | (go_at_call 197; refine (r02result_ _ l0 l1 _).mono ?_; rintro x w2 ⟨rfl, hb2⟩) | (go_at_call 183; refine (r02of_ _ hr.1 hr.2 _).mono ?_; rintro x w1 ⟨rfl, hb1⟩))
  go_loop [8, 9] (fun p n => ∃ j : Nat, j ≤ 8 ∧ n = .int .i64 j ∧ p = .int .u8 (agn 2 (k % 8) l j)) (fun _ n => 8 - (intOf n).toNat)
  case atStart => exact ⟨0, by omega, rfl, rfl⟩
  case round =>
    obtain ⟨j, hj, rfl, rfl⟩ := hrel
    have hc := agn_range 2 (k % 8) l j
    by_cases hlt : j < 8
    · have e := Lib.hid (show agn 2 (k % 8) l (j + 1) = wth (agn 2 (k % 8) l j) j (isb (k % 8) j != isb l j) from rfl)
      go_wp2_with (first | (go_at_call 181; refine (r01is_ _ _ (by first | assumption | omega) (by first | assumption | omega) _).mono ?_; rintro x w1 ⟨rfl, rfl⟩) | (go_at_call 98; refine (r01with_ _ hc.1 hc.2 _ _ _).mono ?_; rintro x w1 ⟨rfl, rfl⟩))
      go_round
      case rel => exact ⟨j + 1, by omega, by go_num, by rw [e.out, ← nx]⟩
      case measure => simp [intOf]; omega
    · obtain rfl : j = 8 := by omega
      have hx := agn_xor (k % 8) l
      have hb7 := bit7_ge b b0 b1
      go_wp2_with (first | (go_at_call 184; refine (r01even_ _ (bits_range _ _ _).1 (bits_range _ _ _).2 _).mono ?_; rintro x w3 ⟨rfl, rfl⟩) | (go_at_call 181; refine (r01is_ b _ b0 b1 _).mono ?_; rintro x w1 ⟨rfl, rfl⟩) | (go_at_call 185; refine (r02make_ _ _ _ _ _ _ _ _ _).mono ?_; rintro x w4 ⟨rfl, hb4⟩))
      go_ret
      refine ⟨ret_int ?_, bt hb2 (bt hb1 (((Below.refl _ _).alloc (Nat.le_refl _) _).trans (hb4.mono (by simp))))⟩
      unfold coFq
      simp [res, isb, hb7]
      rw [show decide (127 < b) = decide (128 ≤ b) from decide_eq_decide.2 (by omega)]
set_option maxHeartbeats 2000000 in
theorem r07give_ (b l t : Int) (b0 : 0 ≤ b) (b1 : b ≤ 255) (l0 : 0 ≤ l) (l1 : l ≤ 255) (t0 : 0 ≤ t) (t1 : t ≤ 255) (w : World) : Calls Tryz.prog 178 #[.int .u8 b, .int .u8 l, .int .u8 t] w fun e w' => e = .returned (.int .u8 (coFq b t (b + l))) ∧ Below w.heap.size w w' := by
  go_enter Tryz.func178, Tryz.ntmps178
  go_wp2_with (go_at_call 243; refine (qcounted_ _ _ _ b0 b1 t0 t1 (by omega) (by omega) _).mono ?_; rintro x w1 ⟨rfl, hb1⟩)
  go_ret
  exact ⟨rfl, hb1⟩
set_option maxHeartbeats 2000000 in
theorem r07take_ (b c t n : Int) (hn : n = 1 ∨ n = -1) (b0 : 0 ≤ b) (b1 : b ≤ 255) (c0 : 0 ≤ c) (c1 : c ≤ 255) (t0 : 0 ≤ t) (t1 : t ≤ 255) (w : World) : Calls Tryz.prog 176 #[.int .u8 b, .int .u8 c, .int .u8 t, .int .i64 n] w fun e w' => e = .returned (.int .u8 (coFq b t (b + (c + n) % 256))) ∧ Below w.heap.size w w' := by
  rcases hn with rfl | rfl
  · skip
    go_enter Tryz.func176, Tryz.ntmps176
    go_wp2_with (go_at_call 243; refine (qcounted_ _ _ _ b0 b1 t0 t1 (by omega) (by omega) _).mono ?_; rintro x w1 ⟨rfl, hb1⟩)
    go_ret
    exact ⟨rfl, hb1⟩
  · have e1 : (c + -1).tmod 256 = (if c = 0 then -1 else c - 1) := by
      by_cases hc : c = 0
      · subst hc; rfl
      · rw [if_neg hc, Int.tmod_eq_emod_of_nonneg (by omega)]; omega
    have e2 : wrap64 (b + (wrap64 ((c + -1).tmod 256 + 256)).tmod 256) = b + (c + -1) % 256 := by
      rw [e1]
      have h : wrap64 ((if c = 0 then -1 else c - 1) + 256) = (if c = 0 then -1 else c - 1) + 256 := by unfold wrap64; split <;> omega
      rw [h, Int.tmod_eq_emod_of_nonneg (by split <;> omega)]
      unfold wrap64
      split <;> omega
    clear e1
    go_enter Tryz.func176, Tryz.ntmps176
    go_wp2_with (go_at_call 243; refine (qcounted_ _ _ _ b0 b1 t0 t1 (by omega) (by omega) _).mono ?_; rintro x w1 ⟨rfl, hb1⟩)
    go_ret
    exact ⟨rfl, hb1⟩
set_option maxHeartbeats 2000000 in
theorem r07again_ (k f : Int) (f0 : 0 ≤ f) (f1 : f ≤ 255) (w : World) : Calls Tryz.prog 179 #[.int .i64 k, .int .u8 f] w fun e w' => e = .returned (.bool (agSq k f)) ∧ Below w.heap.size w w' := by
  rcases (show k = 0 ∨ k = 1 ∨ k = 2 ∨ k = 3 ∨ (¬ k = 0 ∧ ¬ k = 1 ∧ ¬ k = 2 ∧ ¬ k = 3) by omega) with rfl | rfl | rfl | rfl | ⟨h0, h1, h2, h3⟩
  all_goals
    cases h6 : bit 6 f
    all_goals
      cases h2 : bit 2 f
      all_goals
        go_enter Tryz.func179, Tryz.ntmps179
        go_wp2_with (go_at_call 183; refine (r02of_ _ f0 f1 _).mono ?_; rintro x w1 ⟨rfl, hb1⟩)
        go_ret
        exact ⟨ret_bool (by unfold agSq; simp [*]), by first | exact hb1 | exact bt hb1 (by go_grown)⟩
end Go.Proofs.YtnaampdpkegacaaGreatDoor
