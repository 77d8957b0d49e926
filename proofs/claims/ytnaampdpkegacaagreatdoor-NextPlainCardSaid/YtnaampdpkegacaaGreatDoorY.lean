/-
  Contracts of the package block. A helper of the claim that stands beside it.
-/
import Derived.Test.YtnaampdpkegacaaGreatDoorX
namespace Go.Proofs.YtnaampdpkegacaaGreatDoor
open Go.RowKit

theorem mk_8 : (8 : Int) = mk false false false false true false false false := rfl
theorem mk_17 : (17 : Int) = mk false false false true false false false true := rfl
theorem mk_32 : (32 : Int) = mk false false true false false false false false := rfl
theorem mk_193 : (193 : Int) = mk true true false false false false false true := rfl
theorem mk_210 : (210 : Int) = mk true true false true false false true false := rfl
def liB (n : Int) : Int := mk false false (bit 1 n) false (bit 3 n) false false false
theorem li_eq (n : Int) (n0 : 0 ≤ n) (n1 : n ≤ 255) : bits .or .u8 (bits .and .u8 (n * 16 % 256) 32) (bits .and .u8 n 8) = liB n :=
  byte_all (fun n => bits .or .u8 (bits .and .u8 (n * 16 % 256) 32) (bits .and .u8 n 8) = liB n) (by decide +kernel) n n0 n1
theorem lines_ (n : Int) (n0 : 0 ≤ n) (n1 : n ≤ 255) (w : World) : Calls Tryz.prog 220 #[.int .u8 n] w fun e w' => e = .returned (.int .u8 (liB n)) ∧ w = w' := by
  have e1 := Lib.hid (li_eq n n0 n1)
  go_enter Tryz.func220, Tryz.ntmps220
  go_wp2
  go_ret
  exact ⟨ret_int e1.out, rfl⟩
/-! Moves. -/
def moF (a b : Int) (nz : Bool) (f : Int) : Int := mk (bit 7 f) (bit 6 f) (bit 1 ((a + b) % 256)) false (bit 3 ((a + b) % 256)) nz false (bit 0 f)
theorem moF_range (a b : Int) (nz : Bool) (f : Int) : 0 ≤ moF a b nz f ∧ moF a b nz f ≤ 255 := mk_range _ _ _ _ _ _ _ _
theorem and_193 (f : Int) : bits .and .u8 f 193 = mk (bit 7 f) (bit 6 f) false false false false false (bit 0 f) := by
  have hr := bits_range .and f 193
  rw [to_mk _ hr.1 hr.2]
  simp (disch := decide) only [bit_and, mk_193, bit7_mk, bit6_mk, bit5_mk, bit4_mk, bit3_mk, bit2_mk, bit1_mk, bit0_mk]
  simp
theorem and_210 (f : Int) : bits .and .u8 f 210 = mk (bit 7 f) (bit 6 f) false (bit 4 f) false false (bit 1 f) false := by
  have hr := bits_range .and f 210
  rw [to_mk _ hr.1 hr.2]
  simp (disch := decide) only [bit_and, mk_210, bit7_mk, bit6_mk, bit5_mk, bit4_mk, bit3_mk, bit2_mk, bit1_mk, bit0_mk]
  simp
theorem mo_no (a b f : Int) : bits .or .u8 (bits .and .u8 f 193) (liB ((a + b) % 256)) = moF a b false f := by
  unfold liB moF; rw [and_193, mk_or]; simp
theorem mo_yes (a b f : Int) : bits .or .u8 (bits .or .u8 (bits .and .u8 f 193) (liB ((a + b) % 256))) 4 = moF a b true f := by
  rw [mo_no]; unfold moF; rw [mk_4, mk_or]; simp
theorem bmove_ (a b bc f : Int) (w : World) : Calls Tryz.prog 132 #[.int .u8 a, .int .u8 b, .int .u16 bc, .int .u8 f] w fun e w' => e = .returned (.int .u8 (moF a b (decide (¬ bc = 0)) f)) ∧ Below w.heap.size w w' := by
  have m0 : 0 ≤ (a + b) % 256 := by omega
  have m1 : (a + b) % 256 ≤ 255 := by omega
  have e1 := Lib.hid (mo_no a b f)
  have e2 := Lib.hid (mo_yes a b f)
  by_cases h : bc = 0
  · have H := Lib.hid (show decide (¬ bc = 0) = false by simp [h])
    rw [H.out]
    go_enter Tryz.func132, Tryz.ntmps132
    go_wp2_with (first | (go_at_call 220; refine (lines_ _ m0 m1 _).mono ?_; rintro e w1 ⟨rfl, rfl⟩) | (go_at_call 219; go_in))
    refine wp_loop_rounds 3 ?_
    repeat any_goals (rw [rounds_succ]; go_wp2)
    go_ret
    exact ⟨ret_int e1.out, by go_grown⟩
  · have H := Lib.hid (show decide (¬ bc = 0) = true by simp [h])
    rw [H.out]
    go_enter Tryz.func132, Tryz.ntmps132
    go_wp2_with (first | (go_at_call 220; refine (lines_ _ m0 m1 _).mono ?_; rintro e w1 ⟨rfl, rfl⟩) | (go_at_call 219; go_in))
    refine wp_loop_rounds 3 ?_
    repeat any_goals (rw [rounds_succ]; go_wp2)
    go_ret
    exact ⟨ret_int e2.out, by go_grown⟩
/-! Finds. -/
def fiN (a b : Int) : Int := (subR a b false - bw (bit 4 (subF a b false)) 1) % 256
def fiF (a b : Int) (nz : Bool) (f : Int) : Int := mk (bit 7 (subF a b false)) (bit 6 (subF a b false)) (bit 1 (fiN a b)) (bit 4 (subF a b false)) (bit 3 (fiN a b)) nz true (bit 0 f)
theorem fiF_range (a b : Int) (nz : Bool) (f : Int) : 0 ≤ fiF a b nz f ∧ fiF a b nz f ≤ 255 := mk_range _ _ _ _ _ _ _ _
theorem fi_no (a b f : Int) : bits .or .u8 (bits .or .u8 (bits .and .u8 (subF a b false) 210) (bits .and .u8 f 1)) (liB (fiN a b)) = fiF a b false f := by
  have h1 : bit 1 (subF a b false) = true := by unfold subF; rw [bit1_mk]
  unfold liB fiF; rw [and_210, and_b0, mk_or, mk_or, h1]; simp
theorem fi_yes (a b f : Int) : bits .or .u8 (bits .or .u8 (bits .or .u8 (bits .and .u8 (subF a b false) 210) (bits .and .u8 f 1)) (liB (fiN a b))) 4 = fiF a b true f := by
  rw [fi_no]; unfold fiF; rw [mk_4, mk_or]; simp
theorem half_16 (g : Int) : bits .and .u8 g 16 / 16 = bw (bit 4 g) 1 := by
  have := band_pow 4 (by decide) g
  rw [show (16 : Int) = 2 ^ 4 from rfl, this]; cases bit 4 g <;> rfl
theorem bfind_ (a b bc f : Int) (a0 : 0 ≤ a) (a1 : a ≤ 255) (b0 : 0 ≤ b) (b1 : b ≤ 255) (w : World) : Calls Tryz.prog 133 #[.int .u8 a, .int .u8 b, .int .u16 bc, .int .u8 f] w fun e w' => e = .returned (.int .u8 (fiF a b (decide (¬ bc = 0)) f)) ∧ Below w.heap.size w w' := by
  have m0 : 0 ≤ fiN a b := by unfold fiN; omega
  have m1 : fiN a b ≤ 255 := by unfold fiN; omega
  have e1 := Lib.hid (fi_no a b f)
  have e2 := Lib.hid (fi_yes a b f)
  have e3 := half_16 (subF a b false)
  have e4 : IntKind.u8.wrap (subR a b false - bw (bit 4 (subF a b false)) 1) = fiN a b := by rw [IntKind.wrap_u8]; rfl
  have e5 : (subR a b false - bw (bit 4 (subF a b false)) 1) % 256 = fiN a b := rfl
  by_cases h : bc = 0
  all_goals
    have H := Lib.hid (show decide (¬ bc = 0) = _ by simp [h]; rfl)
    rw [H.out]
    go_enter Tryz.func133, Tryz.ntmps133
    go_wp2_with (first | (go_at_call 157; refine (sub_ _ _ _ a0 a1 b0 b1 _).mono ?_; rintro e w1 ⟨rfl, hb⟩) | (go_at_call 220; refine (lines_ _ m0 m1 _).mono ?_; rintro e w1 ⟨rfl, rfl⟩) | (go_at_call 219; go_in))
    refine wp_loop_rounds 3 ?_
    repeat any_goals (rw [rounds_succ]; go_wp2)
    go_ret
    first | exact ⟨ret_int e1.out, bt hb (by go_grown)⟩ | exact ⟨ret_int e2.out, bt hb (by go_grown)⟩
/-! Bytes that go in and out. -/
def coF (b left k : Int) : Int := mk (bit 7 left) (decide (left = 0)) (bit 5 left) (decide (255 < k)) (bit 3 left) (evb (bits .xor .u8 (k % 8) left)) (decide (127 < b)) (decide (255 < k))
theorem coF_range (b left k : Int) : 0 ≤ coF b left k ∧ coF b left k ≤ 255 := mk_range _ _ _ _ _ _ _ _
theorem and_7 (k : Int) (k0 : 0 ≤ k) (k1 : k ≤ 65535) : bits .and .i64 k 7 = k % 8 := by
  obtain ⟨k, rfl⟩ := Int.eq_ofNat_of_zero_le k0
  have e : (BitVec.ofInt 64 (k : Int) &&& BitVec.ofInt 64 ((7 : Nat) : Int)).toNat = k % 8 := by
    rw [BitVec.ofInt_natCast, BitVec.ofInt_natCast, BitVec.toNat_and, BitVec.toNat_ofNat, BitVec.toNat_ofNat, Nat.mod_eq_of_lt (show k < 2 ^ 64 by omega), Nat.mod_eq_of_lt (show 7 < 2 ^ 64 by omega)]
    exact Nat.and_two_pow_sub_one_eq_mod k 3
  show IntKind.i64.wrap ((BitVec.ofInt 64 (k : Int) &&& BitVec.ofInt 64 ((7 : Nat) : Int)).toNat : Int) = _
  rw [e]
  have := Nat.mod_lt k (show 0 < 8 by decide)
  rw [IntKind.wrap_i64]
  omega
def cow (x : Int) (a b c : Bool) : Int :=
  let y := bif a then bits .or .u8 x 17 else x
  let z := bif b then bits .or .u8 y 4 else y
  bif c then bits .or .u8 z 2 else z
theorem co_eq (left : Int) (a b c : Bool) : cow (res left) a b c = mk (bit 7 left) (decide (left = 0)) (bit 5 left) a (bit 3 left) b c a := by
  unfold cow res
  cases a <;> cases b <;> cases c <;> simp only [cond_true, cond_false, mk_17, mk_4, mk_2, mk_or] <;> simp
set_option maxHeartbeats 2000000 in
theorem counted_ (b left k : Int) (k0 : 0 ≤ k) (k1 : k ≤ 65535) (w : World) : Calls Tryz.prog 221 #[.int .u8 b, .int .u8 left, .int .i64 k] w fun e w' => e = .returned (.int .u8 (coF b left k)) ∧ Below w.heap.size w w' := by
  have e7 := and_7 k k0 k1
  have m0 : 0 ≤ k % 8 := by omega
  have m1 : k % 8 < 8 := by omega
  have E : coF b left k = cow (res left) (decide (255 < k)) (evb (bits .xor .u8 (k % 8) left)) (decide (127 < b)) := by rw [co_eq]; rfl
  rcases (Bool.eq_false_or_eq_true (evb (bits .xor .u8 (k % 8) left))).symm with hp | hp <;> by_cases hk : 255 < k <;> by_cases hq : 127 < b
  all_goals
    simp only [hp, hk, hq, decide_true, decide_false, cow, cond_true, cond_false] at E
    have E2 := Lib.hid E
    clear E
    go_enter Tryz.func221, Tryz.ntmps221
    go_wp2_with (first | (go_at_call 216; refine (result_ _ _).mono ?_; rintro e w1 ⟨rfl, rfl⟩) | (go_at_call 217; refine (beven_ _ _).mono ?_; rw [hp]; rintro e w1 ⟨rfl, hb⟩) | (go_at_call 219; go_in))
    refine wp_loop_rounds 5 ?_
    repeat any_goals (rw [rounds_succ]; go_wp2)
    go_ret
    exact ⟨ret_int E2.out.symm, bt hb (by go_grown)⟩
theorem take_ (b c left by' : Int) (b0 : 0 ≤ b) (b1 : b ≤ 255) (w : World) : Calls Tryz.prog 135 #[.int .u8 b, .int .u8 c, .int .u8 left, .int .i64 by'] w fun e w' => e = .returned (.int .u8 (coF b left (b + (c + by') % 256))) ∧ Below w.heap.size w w' := by
  have m0 : 0 ≤ (c + by') % 256 := by omega
  have m1 : (c + by') % 256 ≤ 255 := by omega
  have e1 : IntKind.u8.wrap (c + IntKind.u8.wrap by') = (c + by') % 256 := by simp only [IntKind.wrap_u8]; omega
  have e2 : (c + by' % 256) % 256 = (c + by') % 256 := by omega
  go_enter Tryz.func135, Tryz.ntmps135
  go_wp2_with (go_at_call 221; refine (counted_ _ _ _ (by omega) (by omega) _).mono ?_; rintro e w1 ⟨rfl, hb⟩)
  go_ret
  exact ⟨rfl, hb⟩
theorem give_ (b l left : Int) (b0 : 0 ≤ b) (b1 : b ≤ 255) (l0 : 0 ≤ l) (l1 : l ≤ 255) (w : World) : Calls Tryz.prog 137 #[.int .u8 b, .int .u8 l, .int .u8 left] w fun e w' => e = .returned (.int .u8 (coF b left (b + l))) ∧ Below w.heap.size w w' := by
  go_enter Tryz.func137, Tryz.ntmps137
  go_wp2_with (go_at_call 221; refine (counted_ _ _ _ (by omega) (by omega) _).mono ?_; rintro e w1 ⟨rfl, hb⟩)
  go_ret
  exact ⟨rfl, hb⟩
def agS (k f : Int) : Bool := if k = 0 then bit 2 f else if k = 1 then bit 2 f && !bit 6 f else if k = 2 ∨ k = 3 then !bit 6 f else false
set_option maxHeartbeats 2000000 in
theorem again_ (k f : Int) (w : World) : Calls Tryz.prog 138 #[.int .i64 k, .int .u8 f] w fun e w' => e = .returned (.bool (agS k f)) ∧ w = w' := by
  have n4 := ne4 f
  have n64 := ne64 f
  have hc : k = 0 ∨ k = 1 ∨ k = 2 ∨ k = 3 ∨ (¬ k = 0 ∧ ¬ k = 1 ∧ ¬ k = 2 ∧ ¬ k = 3) := by omega
  rcases hc with rfl | rfl | rfl | rfl | ⟨h0, h1, h2, h3⟩ <;> rcases (Bool.eq_false_or_eq_true (bit 2 f)).symm with p | p <;> rcases (Bool.eq_false_or_eq_true (bit 6 f)).symm with q | q
  all_goals
    rw [p] at n4
    rw [q] at n64
    have P := Lib.hid p
    have Q := Lib.hid q
    clear p q
    go_enter Tryz.func138, Tryz.ntmps138
    go_wp2
    go_ret
    exact ⟨ret_bool (by unfold agS; rw [P.out, Q.out]; simp [*]), rfl⟩
end Go.Proofs.YtnaampdpkegacaaGreatDoor
