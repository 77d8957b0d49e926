/-
  Contracts of the reference 06 (shifts). A helper of the claims that stand beside it.
-/
import Derived.Test.YtnaampdpkegacaaGreatDoorbase
namespace Go.Proofs.YtnaampdpkegacaaGreatDoor
open Go.RowKit

def shInq (k b f : Int) : Bool := if k = 0 ∨ k = 5 then bit 7 b else if k = 1 then bit 0 b else if k = 2 ∨ k = 3 then bit 0 f else decide (k = 6)
def shLq (b : Int) (i : Bool) : Int := mk (bit 6 b) (bit 5 b) (bit 4 b) (bit 3 b) (bit 2 b) (bit 1 b) (bit 0 b) i
def shRtq (b : Int) (i : Bool) : Int := mk i (bit 7 b) (bit 6 b) (bit 5 b) (bit 4 b) (bit 3 b) (bit 2 b) (bit 1 b)
def shRq (k b f : Int) : Int := if k % 2 = 0 then shLq b (shInq k b f) else shRtq b (shInq k b f)
def shOq (k b : Int) : Bool := if k % 2 = 0 then bit 7 b else bit 0 b
theorem shRq_range (k b f : Int) : 0 ≤ shRq k b f ∧ shRq k b f ≤ 255 := by unfold shRq; split <;> exact mk_range _ _ _ _ _ _ _ _
def doRq (k b f : Int) : Int := if k < 0 ∨ 7 < k then b else shRq k b f
def doFq (k b f : Int) : Int := if k < 0 ∨ 7 < k then f else mk (bit 7 (shRq k b f)) (decide (shRq k b f = 0)) (bit 5 (shRq k b f)) false (bit 3 (shRq k b f)) (evb (shRq k b f)) false (shOq k b)
def acRq (k a f : Int) : Int := if k < 0 ∨ 3 < k then a else shRq k a f
def acFq (k a f : Int) : Int := if k < 0 ∨ 3 < k then f else mk (bit 7 f) (bit 6 f) (bit 5 (shRq k a f)) false (bit 3 (shRq k a f)) (bit 2 f) false (shOq k a)
def biFq (n b lines f : Int) : Int := mk (decide (n = 7) && isb b n) (!isb b n) (bit 5 lines) true (bit 3 lines) (!isb b n) false (bit 0 f)
def diAq (r : Bool) (a b : Int) : Int := a / 16 * 16 + bif r then b % 16 else b / 16
def diBq (r : Bool) (a b : Int) : Int := bif r then a % 16 * 16 + b / 16 else b % 16 * 16 + a % 16
def diFq (r : Bool) (a b f : Int) : Int := mk (bit 7 (diAq r a b)) (decide (diAq r a b = 0)) (bit 5 (diAq r a b)) false (bit 3 (diAq r a b)) (evb (diAq r a b)) false (bit 0 f)
theorem diAq_range (r : Bool) (a b : Int) (a0 : 0 ≤ a) (a1 : a ≤ 255) (b0 : 0 ≤ b) (b1 : b ≤ 255) : 0 ≤ diAq r a b ∧ diAq r a b ≤ 255 := by unfold diAq; cases r <;> simp only [cond_true, cond_false] <;> omega

def mvn (left : Bool) (b : Int) : Nat → Int
  | 0 => 0
  | k + 1 => wth (mvn left b k) (if left then k + 1 else k - 1) (isb b k)
theorem mvn_range (left : Bool) (b : Int) : ∀ k, 0 ≤ mvn left b k ∧ mvn left b k ≤ 255
  | 0 => by show 0 ≤ (0 : Int) ∧ (0 : Int) ≤ 255; omega
  | k + 1 => wth_range _ _ _ (mvn_range left b k).1 (mvn_range left b k).2
theorem mv_left (x0 x1 x2 x3 x4 x5 x6 x7 i : Bool) : wth (wth (wth (wth (wth (wth (wth (wth (wth 0 1 x0) 2 x1) 3 x2) 4 x3) 5 x4) 6 x5) 7 x6) 8 x7) 0 i = mk x6 x5 x4 x3 x2 x1 x0 i := by
  rw [show ∀ b x, wth b 8 x = b from fun b x => rfl]
  revert x0 x1 x2 x3 x4 x5 x6 i; decide +kernel
theorem mv_right (x0 x1 x2 x3 x4 x5 x6 x7 i : Bool) : wth (wth (wth (wth (wth (wth (wth (wth (wth 0 (-1) x0) 0 x1) 1 x2) 2 x3) 3 x4) 4 x5) 5 x6) 6 x7) 7 i = mk i x7 x6 x5 x4 x3 x2 x1 := by
  rw [show ∀ b x, wth b (-1) x = b from fun b x => rfl]
  revert x1 x2 x3 x4 x5 x6 x7 i; decide +kernel
theorem mvn_left (b : Int) (i : Bool) : wth (mvn true b 8) 0 i = shLq b i := mv_left (isb b 0) (isb b 1) (isb b 2) (isb b 3) (isb b 4) (isb b 5) (isb b 6) (isb b 7) i
theorem mvn_right (b : Int) (i : Bool) : wth (mvn false b 8) 7 i = shRtq b i := mv_right (isb b 0) (isb b 1) (isb b 2) (isb b 3) (isb b 4) (isb b 5) (isb b 6) (isb b 7) i
set_option maxHeartbeats 2000000 in
theorem moved_left (b : Int) (b0 : 0 ≤ b) (b1 : b ≤ 255) (i : Bool) (w : World) : Calls Tryz.prog 248 #[.int .u8 b, .bool true, .bool i] w fun e w' => e = .returned (.tuple #[.int .u8 (shLq b i), .bool (bit 7 b)]) ∧ w = w' := by
  go_enter Tryz.func248, Tryz.ntmps248
  go_wp2_with fail
  go_loop [8, 9] (fun r n => ∃ k : Nat, k ≤ 8 ∧ n = .int .i64 k ∧ r = .int .u8 (mvn true b k)) (fun _ n => 8 - (intOf n).toNat)
  case atStart => exact ⟨0, by omega, rfl, rfl⟩
  case round =>
    obtain ⟨k, hk, rfl, rfl⟩ := hrel
    have hc := mvn_range true b k
    by_cases hlt : k < 8
    · have e := Lib.hid (show mvn true b (k + 1) = wth (mvn true b k) (k + 1) (isb b k) from rfl)
      go_wp2_with (first | (go_at_call 181; refine (r01is_ _ _ b0 b1 _).mono ?_; rintro x w1 ⟨rfl, rfl⟩) | (go_at_call 98; refine (r01with_ _ hc.1 hc.2 _ _ _).mono ?_; rintro x w1 ⟨rfl, rfl⟩))
      go_round
      case rel => exact ⟨k + 1, by omega, by go_num, by rw [e.out]⟩
      case measure => simp [intOf]; omega
    · obtain rfl : k = 8 := by omega
      have hl := mvn_left b i
      go_wp2_with (first | (go_at_call 181; refine (r01is_ _ _ b0 b1 _).mono ?_; rintro x w1 ⟨rfl, rfl⟩) | (go_at_call 98; refine (r01with_ _ hc.1 hc.2 _ _ _).mono ?_; rw [hl]; rintro x w1 ⟨rfl, rfl⟩))
      go_ret2
      exact ⟨rfl, rfl⟩
set_option maxHeartbeats 2000000 in
theorem moved_right (b : Int) (b0 : 0 ≤ b) (b1 : b ≤ 255) (i : Bool) (w : World) : Calls Tryz.prog 248 #[.int .u8 b, .bool false, .bool i] w fun e w' => e = .returned (.tuple #[.int .u8 (shRtq b i), .bool (bit 0 b)]) ∧ w = w' := by
  go_enter Tryz.func248, Tryz.ntmps248
  go_wp2_with fail
  go_loop [8, 9] (fun r n => ∃ k : Nat, k ≤ 8 ∧ n = .int .i64 k ∧ r = .int .u8 (mvn false b k)) (fun _ n => 8 - (intOf n).toNat)
  case atStart => exact ⟨0, by omega, rfl, rfl⟩
  case round =>
    obtain ⟨k, hk, rfl, rfl⟩ := hrel
    have hc := mvn_range false b k
    by_cases hlt : k < 8
    · have e := Lib.hid (show mvn false b (k + 1) = wth (mvn false b k) (k - 1) (isb b k) from rfl)
      go_wp2_with (first | (go_at_call 181; refine (r01is_ _ _ b0 b1 _).mono ?_; rintro x w1 ⟨rfl, rfl⟩) | (go_at_call 98; refine (r01with_ _ hc.1 hc.2 _ _ _).mono ?_; rintro x w1 ⟨rfl, rfl⟩))
      go_round
      case rel => exact ⟨k + 1, by omega, by go_num, by rw [e.out]⟩
      case measure => simp [intOf]; omega
    · obtain rfl : k = 8 := by omega
      have hl := mvn_right b i
      go_wp2_with (first | (go_at_call 181; refine (r01is_ _ _ b0 b1 _).mono ?_; rintro x w1 ⟨rfl, rfl⟩) | (go_at_call 98; refine (r01with_ _ hc.1 hc.2 _ _ _).mono ?_; rw [hl]; rintro x w1 ⟨rfl, rfl⟩))
      go_ret2
      exact ⟨rfl, rfl⟩
set_option maxHeartbeats 2000000 in
theorem qmoved_ (l : Bool) (b : Int) (b0 : 0 ≤ b) (b1 : b ≤ 255) (i : Bool) (w : World) : Calls Tryz.prog 248 #[.int .u8 b, .bool l, .bool i] w fun e w' => e = .returned (.tuple #[.int .u8 (if l then shLq b i else shRtq b i), .bool (if l then bit 7 b else bit 0 b)]) ∧ w = w' := by
  cases l
  · exact moved_right b b0 b1 i w
  · exact moved_left b b0 b1 i w
set_option maxHeartbeats 2000000 in
theorem turned_ (k b f : Int) (k0 : 0 ≤ k) (k1 : k ≤ 7) (b0 : 0 ≤ b) (b1 : b ≤ 255) (f0 : 0 ≤ f) (f1 : f ≤ 255) (w : World) : Calls Tryz.prog 199 #[.int .i64 k, .int .u8 b, .int .u8 f] w fun e w' => e = .returned (.tuple #[.int .u8 (shRq k b f), .bool (shOq k b), .bool true]) ∧ w = w' := by
  rcases (show k = 0 ∨ k = 1 ∨ k = 2 ∨ k = 3 ∨ k = 4 ∨ k = 5 ∨ k = 6 ∨ k = 7 by omega) with rfl | rfl | rfl | rfl | rfl | rfl | rfl | rfl
  all_goals
    clear k0 k1
    go_enter Tryz.func199, Tryz.ntmps199
    go_wp2_with (first | (go_at_call 181; refine (r01is_ _ _ (by first | assumption | omega) (by first | assumption | omega) _).mono ?_; rintro x w1 ⟨rfl, rfl⟩) | (go_at_call 248; refine (qmoved_ _ _ b0 b1 _ _).mono ?_; rintro x w1 ⟨rfl, rfl⟩))
    go_ret3
    exact ⟨by simp [shRq, shInq, shOq, isb], rfl⟩
theorem wth_out (r : Int) (o : Bool) : wth (evf r) 0 o = mk (bit 7 r) (decide (r = 0)) (bit 5 r) false (bit 3 r) (evb r) false o := by
  unfold evf
  generalize bit 7 r = a, decide (r = 0) = b, bit 5 r = c, bit 3 r = d, evb r = e
  revert a b c d e o; decide +kernel
set_option maxHeartbeats 2000000 in
theorem r06do_ (k b f : Int) (k0 : 0 ≤ k) (k1 : k ≤ 7) (b0 : 0 ≤ b) (b1 : b ≤ 255) (f0 : 0 ≤ f) (f1 : f ≤ 255) (w : World) : Calls Tryz.prog 112 #[.int .i64 k, .int .u8 b, .int .u8 f] w fun e w' => e = .returned (.tuple #[.int .u8 (doRq k b f), .int .u8 (doFq k b f)]) ∧ Below w.heap.size w w' := by
  have r := shRq_range k b f
  have e := evf_range (shRq k b f)
  have eR : doRq k b f = shRq k b f := if_neg (by omega)
  have eF : doFq k b f = wth (evf (shRq k b f)) 0 (shOq k b) := (if_neg (by omega)).trans (wth_out _ _).symm
  rw [eR, eF]
  clear eR eF
  go_enter Tryz.func112, Tryz.ntmps112
  go_wp2_with (first | (go_at_call 199; refine (turned_ _ _ _ k0 k1 b0 b1 f0 f1 _).mono ?_; rintro x w1 ⟨rfl, rfl⟩) | (go_at_call 99; refine (r02even_ _ r.1 r.2 _).mono ?_; rintro x w1 ⟨rfl, hb1⟩) | (go_at_call 98; refine (r01with_ _ e.1 e.2 _ _ _).mono ?_; rintro x w1 ⟨rfl, rfl⟩))
  go_ret2
  exact ⟨rfl, hb1⟩
set_option maxHeartbeats 2000000 in
theorem r06acc_ (k a f : Int) (k0 : 0 ≤ k) (k1 : k ≤ 7) (a0 : 0 ≤ a) (a1 : a ≤ 255) (f0 : 0 ≤ f) (f1 : f ≤ 255) (w : World) : Calls Tryz.prog 257 #[.int .i64 k, .int .u8 a, .int .u8 f] w fun e w' => e = .returned (.tuple #[.int .u8 (acRq k a f), .int .u8 (acFq k a f)]) ∧ Below w.heap.size w w' := by
  have r := shRq_range k a f
  by_cases hk : 3 < k
  · have eR : acRq k a f = a := if_pos (by omega)
    have eF : acFq k a f = f := if_pos (by omega)
    rw [eR, eF]
    clear eR eF
    go_enter Tryz.func257, Tryz.ntmps257
    go_wp2_with (go_at_call 199; refine (turned_ _ _ _ k0 k1 a0 a1 f0 f1 _).mono ?_; rintro x w1 ⟨rfl, rfl⟩)
    go_ret2
    exact ⟨rfl, Below.refl _ _⟩
  · have eR : acRq k a f = shRq k a f := if_neg (by omega)
    have eF : acFq k a f = mk (bit 7 f) (bit 6 f) (bit 5 (shRq k a f)) false (bit 3 (shRq k a f)) (bit 2 f) false (shOq k a) := if_neg (by omega)
    rw [eR, eF]
    clear eR eF
    go_enter Tryz.func257, Tryz.ntmps257
    go_wp2_with (first | (go_at_call 199; refine (turned_ _ _ _ k0 k1 a0 a1 f0 f1 _).mono ?_; rintro x w1 ⟨rfl, rfl⟩) | (go_at_call 183; refine (r02of_ _ f0 f1 _).mono ?_; rintro x w1 ⟨rfl, hb1⟩) | (go_at_call 181; refine (r01is_ _ _ r.1 r.2 _).mono ?_; rintro x w1 ⟨rfl, rfl⟩) | (go_at_call 185; refine (r02make_ _ _ _ _ _ _ _ _ _).mono ?_; rintro x w2 ⟨rfl, hb2⟩))
    go_ret2
    exact ⟨rfl, bt hb1 (((Below.refl _ _).alloc (Nat.le_refl _) _).trans (hb2.mono (by simp)))⟩
theorem dig_out (r f : Int) : wth (evf r) 0 (isb f 0) = mk (bit 7 r) (decide (r = 0)) (bit 5 r) false (bit 3 r) (evb r) false (bit 0 f) := wth_out r (bit 0 f)
set_option maxHeartbeats 2000000 in
theorem r06digit_ (r : Bool) (a b f : Int) (a0 : 0 ≤ a) (a1 : a ≤ 255) (b0 : 0 ≤ b) (b1 : b ≤ 255) (f0 : 0 ≤ f) (f1 : f ≤ 255) (w : World) : Calls Tryz.prog 198 #[.bool r, .int .u8 a, .int .u8 b, .int .u8 f] w fun e w' => e = .returned (.tuple #[.int .u8 (diAq r a b), .int .u8 (diBq r a b), .int .u8 (diFq r a b f)]) ∧ Below w.heap.size w w' := by
  have eF : diFq r a b f = wth (evf (diAq r a b)) 0 (isb f 0) := (dig_out _ _).symm
  rw [eF]
  clear eF
  cases r
  all_goals
    go_enter Tryz.func198, Tryz.ntmps198
    go_wp2_with (first | (go_at_call 99; refine (r02even_ _ (by omega) (by omega) _).mono ?_; rintro x w1 ⟨rfl, hb1⟩) | (go_at_call 181; refine (r01is_ _ _ f0 f1 _).mono ?_; rintro x w4 ⟨rfl, rfl⟩) | (go_at_call 98; refine (r01with_ _ (evf_range _).1 (evf_range _).2 _ _ _).mono ?_; rintro x w1 ⟨rfl, rfl⟩))
    go_ret3
    exact ⟨rfl, hb1⟩
set_option maxHeartbeats 2000000 in
theorem r06bit_ (n b l f : Int) (b0 : 0 ≤ b) (b1 : b ≤ 255) (l0 : 0 ≤ l) (l1 : l ≤ 255) (f0 : 0 ≤ f) (f1 : f ≤ 255) (w : World) : Calls Tryz.prog 113 #[.int .i64 n, .int .u8 b, .int .u8 l, .int .u8 f] w fun e w' => e = .returned (.int .u8 (biFq n b l f)) ∧ Below w.heap.size w w' := by
  by_cases h7 : n = 7
  all_goals
    cases hi : isb b n
    all_goals
      go_enter Tryz.func113, Tryz.ntmps113
      go_wp2_with (first | (go_at_call 181; refine (r01is_ _ _ (by first | assumption | omega) (by first | assumption | omega) _).mono ?_; rintro x w1 ⟨rfl, rfl⟩) | (go_at_call 183; refine (r02of_ _ f0 f1 _).mono ?_; rintro x w1 ⟨rfl, hb1⟩) | (go_at_call 185; refine (r02make_ _ _ _ _ _ _ _ _ _).mono ?_; rintro x w2 ⟨rfl, hb2⟩))
      go_ret
      refine ⟨ret_int ?_, bt hb1 (((Below.refl _ _).alloc (Nat.le_refl _) _).trans (hb2.mono (by simp)))⟩
      unfold biFq
      simp [hi, h7, show isb l 5 = bit 5 l by simp [isb], show isb l 3 = bit 3 l by simp [isb]]
end Go.Proofs.YtnaampdpkegacaaGreatDoor
