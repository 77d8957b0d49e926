/-
  Contracts of the reference 05 (logic). A helper of the claims that stand beside it.
-/
import Derived.Test.YtnaampdpkegacaaGreatDoorbase
namespace Go.Proofs.YtnaampdpkegacaaGreatDoor
open Go.RowKit

def lgFq (r : Int) (h : Bool) : Int := mk (bit 7 r) (decide (r = 0)) (bit 5 r) h (bit 3 r) (evb r) false false
theorem lgFq_range (r : Int) (h : Bool) : 0 ≤ lgFq r h ∧ lgFq r h ≤ 255 := mk_range _ _ _ _ _ _ _ _
def notBq (a : Int) : Int := 255 - a
def cplFq (a f : Int) : Int := mk (bit 7 f) (bit 6 f) (bit 5 (notBq a)) true (bit 3 (notBq a)) (bit 2 f) true (bit 0 f)
def scfFq (a f : Int) : Int := mk (bit 7 f) (bit 6 f) (bit 5 a) false (bit 3 a) (bit 2 f) false true
def ccfFq (a f : Int) : Int := mk (bit 7 f) (bit 6 f) (bit 5 a) (bit 0 f) (bit 3 a) (bit 2 f) false (!bit 0 f)
theorem notBq_range (a : Int) (a0 : 0 ≤ a) (a1 : a ≤ 255) : 0 ≤ notBq a ∧ notBq a ≤ 255 := by unfold notBq; omega
def daLq (a f : Int) : Bool := bit 4 f || decide (9 < a % 16)
def daHq (a f : Int) : Bool := bit 0 f || decide (153 < a)
def daBq (a f : Int) : Int := bw (daLq a f) 6 + bw (daHq a f) 96
def daRq (a f : Int) : Int := bif bit 1 f then (a - daBq a f) % 256 else (a + daBq a f) % 256
def daFq (a f : Int) : Int := mk (bit 7 (daRq a f)) (decide (daRq a f = 0)) (bit 5 (daRq a f)) (bit 4 a ^^ bit 4 (daRq a f)) (bit 3 (daRq a f)) (evb (daRq a f)) (bit 1 f) (daHq a f)
theorem daRq_range (a f : Int) : 0 ≤ daRq a f ∧ daRq a f ≤ 255 := by unfold daRq; cases bit 1 f <;> simp only [cond_true, cond_false] <;> omega

def opK (kind : Int) (x y : Bool) : Bool := if kind = 1 then x || y else if kind = 2 then x != y else x && y
def agn (kind a b : Int) : Nat → Int
  | 0 => 0
  | k + 1 => wth (agn kind a b k) k (opK kind (isb a k) (isb b k))
theorem agn_range (kind a b : Int) : ∀ k, 0 ≤ agn kind a b k ∧ agn kind a b k ≤ 255
  | 0 => by show 0 ≤ (0 : Int) ∧ (0 : Int) ≤ 255; omega
  | k + 1 => wth_range _ _ _ (agn_range kind a b k).1 (agn_range kind a b k).2
theorem isb_lt (b : Int) (n : Nat) (hn : n < 8) : isb b n = bit n b := by
  unfold isb; simp
  intro _ ; omega
theorem agn_bit (kind a b : Int) : ∀ k, k ≤ 8 → ∀ i, i < 8 → bit i (agn kind a b k) = (decide (i < k) && opK kind (bit i a) (bit i b))
  | 0, _, i, _ => by simp [agn, bit_0]
  | k + 1, hk, i, hi => by
    unfold agn
    rw [bit_wth i hi _ k (by omega), agn_bit kind a b k (by omega) i hi, isb_lt a k (by omega), isb_lt b k (by omega)]
    by_cases h : i = k
    · subst h; simp
    · have : (i == k) = false := by simpa using h
      rw [this, cond_false, show decide (i < k + 1) = decide (i < k) from decide_eq_decide.2 (by omega)]
theorem agn_and (a b : Int) : agn 0 a b 8 = bits .and .u8 a b := by
  have r := agn_range 0 a b 8
  have s := bits_range .and a b
  apply byte_ext r.1 r.2 s.1 s.2 <;> rw [agn_bit 0 a b 8 (by decide) _ (by decide), bit_and _ (by decide)] <;> simp [opK]
theorem agn_or (a b : Int) : agn 1 a b 8 = bits .or .u8 a b := by
  have r := agn_range 1 a b 8
  have s := bits_range .or a b
  apply byte_ext r.1 r.2 s.1 s.2 <;> rw [agn_bit 1 a b 8 (by decide) _ (by decide), bit_or _ (by decide)] <;> simp [opK]
theorem agn_xor (a b : Int) : agn 2 a b 8 = bits .xor .u8 a b := by
  have r := agn_range 2 a b 8
  have s := bits_range .xor a b
  apply byte_ext r.1 r.2 s.1 s.2 <;> rw [agn_bit 2 a b 8 (by decide) _ (by decide), bit_xor _ (by decide)] <;> simp [opK]


set_option maxHeartbeats 2000000 in
theorem against0_ (a b : Int) (a0 : 0 ≤ a) (a1 : a ≤ 255) (b0 : 0 ≤ b) (b1 : b ≤ 255) (w : World) : Calls Tryz.prog 258 #[.int .i64 0, .int .u8 a, .int .u8 b] w fun e w' => e = .returned (.int .u8 (agn 0 a b 8)) ∧ w = w' := by
  go_enter Tryz.func258, Tryz.ntmps258
  go_wp2_with fail
  go_loop [7, 8] (fun r i => ∃ k : Nat, k ≤ 8 ∧ i = .int .i64 k ∧ r = .int .u8 (agn 0 a b k)) (fun _ i => 8 - (intOf i).toNat)
  case atStart => exact ⟨0, by omega, rfl, rfl⟩
  case round =>
    obtain ⟨k, hk, rfl, rfl⟩ := hrel
    have hc := agn_range 0 a b k
    by_cases hlt : k < 8
    · obtain ⟨x, hi⟩ : ∃ x, isb a k = x := ⟨_, rfl⟩
      obtain ⟨y, hj⟩ : ∃ y, isb b k = y := ⟨_, rfl⟩
      have e := Lib.hid (show agn 0 a b (k + 1) = wth (agn 0 a b k) k (opK 0 x y) by rw [← hi, ← hj]; rfl)
      cases x
      · cases y
        · have E := Lib.hid (e.out.trans (congrArg (wth (agn 0 a b k) k) (show opK 0 false false = false by decide)))
          clear e
          go_wp2_with (first | (go_at_call 181; refine (r01is_ _ _ (by first | assumption | omega) (by first | assumption | omega) _).mono ?_; rintro x w1 ⟨rfl, rfl⟩) | (go_at_call 98; refine (r01with_ _ hc.1 hc.2 _ _ _).mono ?_; rintro x w1 ⟨rfl, rfl⟩))
          go_round
          case rel => exact ⟨k + 1, by omega, by go_num, by rw [E.out]⟩
          case measure => simp [intOf]; omega
        · have E := Lib.hid (e.out.trans (congrArg (wth (agn 0 a b k) k) (show opK 0 false true = false by decide)))
          clear e
          go_wp2_with (first | (go_at_call 181; refine (r01is_ _ _ (by first | assumption | omega) (by first | assumption | omega) _).mono ?_; rintro x w1 ⟨rfl, rfl⟩) | (go_at_call 98; refine (r01with_ _ hc.1 hc.2 _ _ _).mono ?_; rintro x w1 ⟨rfl, rfl⟩))
          go_round
          case rel => exact ⟨k + 1, by omega, by go_num, by rw [E.out]⟩
          case measure => simp [intOf]; omega
      · cases y
        · have E := Lib.hid (e.out.trans (congrArg (wth (agn 0 a b k) k) (show opK 0 true false = false by decide)))
          clear e
          go_wp2_with (first | (go_at_call 181; refine (r01is_ _ _ (by first | assumption | omega) (by first | assumption | omega) _).mono ?_; rintro x w1 ⟨rfl, rfl⟩) | (go_at_call 98; refine (r01with_ _ hc.1 hc.2 _ _ _).mono ?_; rintro x w1 ⟨rfl, rfl⟩))
          go_round
          case rel => exact ⟨k + 1, by omega, by go_num, by rw [E.out]⟩
          case measure => simp [intOf]; omega
        · have E := Lib.hid (e.out.trans (congrArg (wth (agn 0 a b k) k) (show opK 0 true true = true by decide)))
          clear e
          go_wp2_with (first | (go_at_call 181; refine (r01is_ _ _ (by first | assumption | omega) (by first | assumption | omega) _).mono ?_; rintro x w1 ⟨rfl, rfl⟩) | (go_at_call 98; refine (r01with_ _ hc.1 hc.2 _ _ _).mono ?_; rintro x w1 ⟨rfl, rfl⟩))
          go_round
          case rel => exact ⟨k + 1, by omega, by go_num, by rw [E.out]⟩
          case measure => simp [intOf]; omega
    · obtain rfl : k = 8 := by omega
      go_wp2
      go_ret
      exact ⟨rfl, rfl⟩
set_option maxHeartbeats 2000000 in
theorem against1_ (a b : Int) (a0 : 0 ≤ a) (a1 : a ≤ 255) (b0 : 0 ≤ b) (b1 : b ≤ 255) (w : World) : Calls Tryz.prog 258 #[.int .i64 1, .int .u8 a, .int .u8 b] w fun e w' => e = .returned (.int .u8 (agn 1 a b 8)) ∧ w = w' := by
  go_enter Tryz.func258, Tryz.ntmps258
  go_wp2_with fail
  go_loop [7, 8] (fun r i => ∃ k : Nat, k ≤ 8 ∧ i = .int .i64 k ∧ r = .int .u8 (agn 1 a b k)) (fun _ i => 8 - (intOf i).toNat)
  case atStart => exact ⟨0, by omega, rfl, rfl⟩
  case round =>
    obtain ⟨k, hk, rfl, rfl⟩ := hrel
    have hc := agn_range 1 a b k
    by_cases hlt : k < 8
    · obtain ⟨x, hi⟩ : ∃ x, isb a k = x := ⟨_, rfl⟩
      obtain ⟨y, hj⟩ : ∃ y, isb b k = y := ⟨_, rfl⟩
      have e := Lib.hid (show agn 1 a b (k + 1) = wth (agn 1 a b k) k (opK 1 x y) by rw [← hi, ← hj]; rfl)
      cases x
      · cases y
        · have E := Lib.hid (e.out.trans (congrArg (wth (agn 1 a b k) k) (show opK 1 false false = false by decide)))
          clear e
          go_wp2_with (first | (go_at_call 181; refine (r01is_ _ _ (by first | assumption | omega) (by first | assumption | omega) _).mono ?_; rintro x w1 ⟨rfl, rfl⟩) | (go_at_call 98; refine (r01with_ _ hc.1 hc.2 _ _ _).mono ?_; rintro x w1 ⟨rfl, rfl⟩))
          go_round
          case rel => exact ⟨k + 1, by omega, by go_num, by rw [E.out]⟩
          case measure => simp [intOf]; omega
        · have E := Lib.hid (e.out.trans (congrArg (wth (agn 1 a b k) k) (show opK 1 false true = true by decide)))
          clear e
          go_wp2_with (first | (go_at_call 181; refine (r01is_ _ _ (by first | assumption | omega) (by first | assumption | omega) _).mono ?_; rintro x w1 ⟨rfl, rfl⟩) | (go_at_call 98; refine (r01with_ _ hc.1 hc.2 _ _ _).mono ?_; rintro x w1 ⟨rfl, rfl⟩))
          go_round
          case rel => exact ⟨k + 1, by omega, by go_num, by rw [E.out]⟩
          case measure => simp [intOf]; omega
      · cases y
        · have E := Lib.hid (e.out.trans (congrArg (wth (agn 1 a b k) k) (show opK 1 true false = true by decide)))
          clear e
          go_wp2_with (first | (go_at_call 181; refine (r01is_ _ _ (by first | assumption | omega) (by first | assumption | omega) _).mono ?_; rintro x w1 ⟨rfl, rfl⟩) | (go_at_call 98; refine (r01with_ _ hc.1 hc.2 _ _ _).mono ?_; rintro x w1 ⟨rfl, rfl⟩))
          go_round
          case rel => exact ⟨k + 1, by omega, by go_num, by rw [E.out]⟩
          case measure => simp [intOf]; omega
        · have E := Lib.hid (e.out.trans (congrArg (wth (agn 1 a b k) k) (show opK 1 true true = true by decide)))
          clear e
          go_wp2_with (first | (go_at_call 181; refine (r01is_ _ _ (by first | assumption | omega) (by first | assumption | omega) _).mono ?_; rintro x w1 ⟨rfl, rfl⟩) | (go_at_call 98; refine (r01with_ _ hc.1 hc.2 _ _ _).mono ?_; rintro x w1 ⟨rfl, rfl⟩))
          go_round
          case rel => exact ⟨k + 1, by omega, by go_num, by rw [E.out]⟩
          case measure => simp [intOf]; omega
    · obtain rfl : k = 8 := by omega
      go_wp2
      go_ret
      exact ⟨rfl, rfl⟩
set_option maxHeartbeats 2000000 in
theorem against2_ (a b : Int) (a0 : 0 ≤ a) (a1 : a ≤ 255) (b0 : 0 ≤ b) (b1 : b ≤ 255) (w : World) : Calls Tryz.prog 258 #[.int .i64 2, .int .u8 a, .int .u8 b] w fun e w' => e = .returned (.int .u8 (agn 2 a b 8)) ∧ w = w' := by
  go_enter Tryz.func258, Tryz.ntmps258
  go_wp2_with fail
  go_loop [7, 8] (fun r i => ∃ k : Nat, k ≤ 8 ∧ i = .int .i64 k ∧ r = .int .u8 (agn 2 a b k)) (fun _ i => 8 - (intOf i).toNat)
  case atStart => exact ⟨0, by omega, rfl, rfl⟩
  case round =>
    obtain ⟨k, hk, rfl, rfl⟩ := hrel
    have hc := agn_range 2 a b k
    by_cases hlt : k < 8
    · obtain ⟨x, hi⟩ : ∃ x, isb a k = x := ⟨_, rfl⟩
      obtain ⟨y, hj⟩ : ∃ y, isb b k = y := ⟨_, rfl⟩
      have e := Lib.hid (show agn 2 a b (k + 1) = wth (agn 2 a b k) k (opK 2 x y) by rw [← hi, ← hj]; rfl)
      cases x
      · cases y
        · have E := Lib.hid (e.out.trans (congrArg (wth (agn 2 a b k) k) (show opK 2 false false = false by decide)))
          clear e
          go_wp2_with (first | (go_at_call 181; refine (r01is_ _ _ (by first | assumption | omega) (by first | assumption | omega) _).mono ?_; rintro x w1 ⟨rfl, rfl⟩) | (go_at_call 98; refine (r01with_ _ hc.1 hc.2 _ _ _).mono ?_; rintro x w1 ⟨rfl, rfl⟩))
          go_round
          case rel => exact ⟨k + 1, by omega, by go_num, by rw [E.out]⟩
          case measure => simp [intOf]; omega
        · have E := Lib.hid (e.out.trans (congrArg (wth (agn 2 a b k) k) (show opK 2 false true = true by decide)))
          clear e
          go_wp2_with (first | (go_at_call 181; refine (r01is_ _ _ (by first | assumption | omega) (by first | assumption | omega) _).mono ?_; rintro x w1 ⟨rfl, rfl⟩) | (go_at_call 98; refine (r01with_ _ hc.1 hc.2 _ _ _).mono ?_; rintro x w1 ⟨rfl, rfl⟩))
          go_round
          case rel => exact ⟨k + 1, by omega, by go_num, by rw [E.out]⟩
          case measure => simp [intOf]; omega
      · cases y
        · have E := Lib.hid (e.out.trans (congrArg (wth (agn 2 a b k) k) (show opK 2 true false = true by decide)))
          clear e
          go_wp2_with (first | (go_at_call 181; refine (r01is_ _ _ (by first | assumption | omega) (by first | assumption | omega) _).mono ?_; rintro x w1 ⟨rfl, rfl⟩) | (go_at_call 98; refine (r01with_ _ hc.1 hc.2 _ _ _).mono ?_; rintro x w1 ⟨rfl, rfl⟩))
          go_round
          case rel => exact ⟨k + 1, by omega, by go_num, by rw [E.out]⟩
          case measure => simp [intOf]; omega
        · have E := Lib.hid (e.out.trans (congrArg (wth (agn 2 a b k) k) (show opK 2 true true = false by decide)))
          clear e
          go_wp2_with (first | (go_at_call 181; refine (r01is_ _ _ (by first | assumption | omega) (by first | assumption | omega) _).mono ?_; rintro x w1 ⟨rfl, rfl⟩) | (go_at_call 98; refine (r01with_ _ hc.1 hc.2 _ _ _).mono ?_; rintro x w1 ⟨rfl, rfl⟩))
          go_round
          case rel => exact ⟨k + 1, by omega, by go_num, by rw [E.out]⟩
          case measure => simp [intOf]; omega
    · obtain rfl : k = 8 := by omega
      go_wp2
      go_ret
      exact ⟨rfl, rfl⟩
set_option maxHeartbeats 2000000 in
theorem r02ofx_ (f : Int) (h0 : 0 ≤ f) (h1 : f ≤ 255) (w : World) : Calls Tryz.prog 183 #[.int .u8 f] w fun e w' => e = .returned (.agg #[.bool (isb f 7), .bool (isb f 6), .bool (isb f 5), .bool (isb f 4), .bool (isb f 3), .bool (isb f 2), .bool (isb f 1), .bool (isb f 0)]) ∧ (w.alloc (.cells #[.bool (isb f 7), .bool (isb f 6), .bool (isb f 5), .bool (isb f 4), .bool (isb f 3), .bool (isb f 2), .bool (isb f 1), .bool (isb f 0)] 125)).alloc (.cells #[.bool (isb f 7), .bool (isb f 6), .bool (isb f 5), .bool (isb f 4), .bool (isb f 3), .bool (isb f 2), .bool (isb f 1), .bool (isb f 0)] 125) = w' := by
  go_enter Tryz.func183, Tryz.ntmps183
  go_wp2_with fail
  refine wp_loop_rounds 9 ?_
  repeat any_goals (rw [rounds_succ]; go_wp2_with (go_at_call 181; refine (r01is_ _ _ h0 h1 _).mono ?_; rintro e w' ⟨rfl, rfl⟩))
  go_returns
  exact ⟨rfl, rfl⟩
set_option maxHeartbeats 2000000 in
theorem r05lines_ (f a : Int) (f0 : 0 ≤ f) (f1 : f ≤ 255) (a0 : 0 ≤ a) (a1 : a ≤ 255) (w : World) : Calls Tryz.prog 268 #[.int .u8 f, .int .u8 a] w fun e w' => e = .returned (.agg #[.bool (bit 7 f), .bool (bit 6 f), .bool (bit 5 a), .bool (bit 4 f), .bool (bit 3 a), .bool (bit 2 f), .bool (bit 1 f), .bool (bit 0 f)]) ∧ Below w.heap.size w w' := by
  go_enter Tryz.func268, Tryz.ntmps268
  go_wp2_with (first | (go_at_call 183; refine (r02ofx_ _ f0 f1 _).mono ?_; rintro x w1 ⟨rfl, rfl⟩) | (go_at_call 181; refine (r01is_ _ _ a0 a1 _).mono ?_; rintro x w1 ⟨rfl, rfl⟩))
  go_returns
  exact ⟨rfl, by go_grown⟩
theorem lg_ev (r : Int) : evf r = lgFq r false := rfl
theorem wth_ev (r : Int) : wth (evf r) 4 true = lgFq r true := by
  have h := evf_range r
  have k := wth_range (evf r) 4 true h.1 h.2
  have l := lgFq_range r true
  apply byte_ext k.1 k.2 l.1 l.2 <;> rw [show ((4 : Int)) = ((4 : Nat) : Int) from rfl, bit_wth _ (by decide) _ 4 (by decide)] <;> simp [evf, lgFq, bit7_mk, bit6_mk, bit5_mk, bit4_mk, bit3_mk, bit2_mk, bit1_mk, bit0_mk]

set_option maxHeartbeats 2000000 in
theorem r05and_ (a b : Int) (a0 : 0 ≤ a) (a1 : a ≤ 255) (b0 : 0 ≤ b) (b1 : b ≤ 255) (w : World) : Calls Tryz.prog 207 #[.int .u8 a, .int .u8 b] w fun e w' => e = .returned (.tuple #[.int .u8 (bits .and .u8 a b), .int .u8 (lgFq (bits .and .u8 a b) true)]) ∧ Below w.heap.size w w' := by
  have r := bits_range .and a b
  have e := evf_range (bits .and .u8 a b)
  go_enter Tryz.func207, Tryz.ntmps207
  go_wp2_with (first | (go_at_call 258; refine (against0_ _ _ a0 a1 b0 b1 _).mono ?_; rw [agn_and]; rintro x w1 ⟨rfl, rfl⟩) | (go_at_call 99; refine (r02even_ _ r.1 r.2 _).mono ?_; rintro x w1 ⟨rfl, hb1⟩) | (go_at_call 98; refine (r01with_ _ e.1 e.2 _ _ _).mono ?_; rintro x w1 ⟨rfl, rfl⟩))
  go_ret2
  exact ⟨ret2 rfl (by first | exact wth_ev _ | exact lg_ev _), by first | exact hb1 | go_grown⟩
set_option maxHeartbeats 2000000 in
theorem r05or_ (a b : Int) (a0 : 0 ≤ a) (a1 : a ≤ 255) (b0 : 0 ≤ b) (b1 : b ≤ 255) (w : World) : Calls Tryz.prog 209 #[.int .u8 a, .int .u8 b] w fun e w' => e = .returned (.tuple #[.int .u8 (bits .or .u8 a b), .int .u8 (lgFq (bits .or .u8 a b) false)]) ∧ Below w.heap.size w w' := by
  have r := bits_range .or a b
  have e := evf_range (bits .or .u8 a b)
  go_enter Tryz.func209, Tryz.ntmps209
  go_wp2_with (first | (go_at_call 258; refine (against1_ _ _ a0 a1 b0 b1 _).mono ?_; rw [agn_or]; rintro x w1 ⟨rfl, rfl⟩) | (go_at_call 99; refine (r02even_ _ r.1 r.2 _).mono ?_; rintro x w1 ⟨rfl, hb1⟩) | (go_at_call 98; refine (r01with_ _ e.1 e.2 _ _ _).mono ?_; rintro x w1 ⟨rfl, rfl⟩))
  go_ret2
  exact ⟨ret2 rfl (by first | exact wth_ev _ | exact lg_ev _), by first | exact hb1 | go_grown⟩
set_option maxHeartbeats 2000000 in
theorem r05xor_ (a b : Int) (a0 : 0 ≤ a) (a1 : a ≤ 255) (b0 : 0 ≤ b) (b1 : b ≤ 255) (w : World) : Calls Tryz.prog 208 #[.int .u8 a, .int .u8 b] w fun e w' => e = .returned (.tuple #[.int .u8 (bits .xor .u8 a b), .int .u8 (lgFq (bits .xor .u8 a b) false)]) ∧ Below w.heap.size w w' := by
  have r := bits_range .xor a b
  have e := evf_range (bits .xor .u8 a b)
  go_enter Tryz.func208, Tryz.ntmps208
  go_wp2_with (first | (go_at_call 258; refine (against2_ _ _ a0 a1 b0 b1 _).mono ?_; rw [agn_xor]; rintro x w1 ⟨rfl, rfl⟩) | (go_at_call 99; refine (r02even_ _ r.1 r.2 _).mono ?_; rintro x w1 ⟨rfl, hb1⟩) | (go_at_call 98; refine (r01with_ _ e.1 e.2 _ _ _).mono ?_; rintro x w1 ⟨rfl, rfl⟩))
  go_ret2
  exact ⟨ret2 rfl (by first | exact wth_ev _ | exact lg_ev _), by first | exact hb1 | go_grown⟩
set_option maxHeartbeats 2000000 in
theorem r05cpl_ (a f : Int) (a0 : 0 ≤ a) (a1 : a ≤ 255) (f0 : 0 ≤ f) (f1 : f ≤ 255) (w : World) : Calls Tryz.prog 254 #[.int .u8 a, .int .u8 f] w fun e w' => e = .returned (.tuple #[.int .u8 (notBq a), .int .u8 (cplFq a f)]) ∧ Below w.heap.size w w' := by
  have n := notBq_range a a0 a1
  have e : (255 - a) % 256 = notBq a := by unfold notBq; omega
  go_enter Tryz.func254, Tryz.ntmps254
  go_wp2_with (first | (go_at_call 268; refine (r05lines_ _ _ f0 f1 n.1 n.2 _).mono ?_; rintro x w1 ⟨rfl, hb1⟩) | (go_at_call 185; refine (r02make_ _ _ _ _ _ _ _ _ _).mono ?_; rintro x w2 ⟨rfl, hb2⟩))
  go_ret2
  refine ⟨ret2 (by first | rfl | exact e) ?_, bt hb1 (((Below.refl _ _).alloc (Nat.le_refl _) _).trans (hb2.mono (by simp)))⟩
  unfold cplFq
  rfl
set_option maxHeartbeats 2000000 in
theorem r05scf_ (a f : Int) (a0 : 0 ≤ a) (a1 : a ≤ 255) (f0 : 0 ≤ f) (f1 : f ≤ 255) (w : World) : Calls Tryz.prog 255 #[.int .u8 a, .int .u8 f] w fun e w' => e = .returned (.int .u8 (scfFq a f)) ∧ Below w.heap.size w w' := by
  cases hc : bit 0 f
  all_goals
    go_enter Tryz.func255, Tryz.ntmps255
    go_wp2_with (first | (go_at_call 268; refine (r05lines_ _ _ f0 f1 a0 a1 _).mono ?_; rintro x w1 ⟨rfl, hb1⟩) | (go_at_call 185; refine (r02make_ _ _ _ _ _ _ _ _ _).mono ?_; rintro x w2 ⟨rfl, hb2⟩))
    go_ret
    refine ⟨ret_int ?_, bt hb1 (((Below.refl _ _).alloc (Nat.le_refl _) _).trans (hb2.mono (by simp)))⟩
    unfold scfFq
    simp
set_option maxHeartbeats 2000000 in
theorem r05ccf_ (a f : Int) (a0 : 0 ≤ a) (a1 : a ≤ 255) (f0 : 0 ≤ f) (f1 : f ≤ 255) (w : World) : Calls Tryz.prog 256 #[.int .u8 a, .int .u8 f] w fun e w' => e = .returned (.int .u8 (ccfFq a f)) ∧ Below w.heap.size w w' := by
  cases hc : bit 0 f
  all_goals
    go_enter Tryz.func256, Tryz.ntmps256
    go_wp2_with (first | (go_at_call 268; refine (r05lines_ _ _ f0 f1 a0 a1 _).mono ?_; rintro x w1 ⟨rfl, hb1⟩) | (go_at_call 185; refine (r02make_ _ _ _ _ _ _ _ _ _).mono ?_; rintro x w2 ⟨rfl, hb2⟩))
    go_ret
    refine ⟨ret_int ?_, bt hb1 (((Below.refl _ _).alloc (Nat.le_refl _) _).trans (hb2.mono (by simp)))⟩
    unfold ccfFq
    simp [hc]
end Go.Proofs.YtnaampdpkegacaaGreatDoor
