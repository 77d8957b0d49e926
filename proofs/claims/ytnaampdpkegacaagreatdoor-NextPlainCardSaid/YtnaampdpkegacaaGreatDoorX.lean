/-
  Contract of shift.Digit. A helper of the claim that stands beside it.
-/
import Derived.Test.YtnaampdpkegacaaGreatDoorW
namespace Go.Proofs.YtnaampdpkegacaaGreatDoor
open Go.RowKit

theorem or16_add (k : Nat) (h l : Int) (h0 : 0 ≤ h) (l0 : 0 ≤ l) (l1 : l < 2 ^ k) (hl : h * 2 ^ k + l < 65536) : bits .or .u16 (h * 2 ^ k) l = h * 2 ^ k + l := by
  obtain ⟨h, rfl⟩ := Int.eq_ofNat_of_zero_le h0
  obtain ⟨l, rfl⟩ := Int.eq_ofNat_of_zero_le l0
  have e0 : ((2 : Int) ^ k) = ((2 ^ k : Nat) : Int) := by simp
  rw [e0] at l1 hl ⊢
  have l1' : l < 2 ^ k := by omega
  have e1 : ((h : Int) * ((2 ^ k : Nat) : Int)) = ((h * 2 ^ k : Nat) : Int) := (Int.natCast_mul _ _).symm
  rw [e1] at hl ⊢
  generalize hN : 2 ^ k = N at *
  have e : (BitVec.ofInt 16 ((h * N : Nat) : Int) ||| BitVec.ofInt 16 (l : Int)).toNat = h * N + l := by
    rw [BitVec.ofInt_natCast, BitVec.ofInt_natCast, BitVec.toNat_or, BitVec.toNat_ofNat, BitVec.toNat_ofNat, Nat.mod_eq_of_lt (show h * N < 2 ^ 16 by omega), Nat.mod_eq_of_lt (show l < 2 ^ 16 by omega)]
    have := Nat.shiftLeft_add_eq_or_of_lt (i := k) (b := l) (by rw [hN]; exact l1') h
    rw [Nat.shiftLeft_eq, hN] at this
    exact this.symm
  show IntKind.u16.wrap ((BitVec.ofInt 16 ((h * N : Nat) : Int) ||| BitVec.ofInt 16 (l : Int)).toNat : Int) = _
  rw [e, IntKind.wrap_u16]
  omega
theorem and16_mod (k : Nat) (hk : k ≤ 16) (t : Int) (t0 : 0 ≤ t) (t1 : t ≤ 65535) : bits .and .u16 t ((2 ^ k - 1 : Nat) : Int) = t % ((2 ^ k : Nat) : Int) := by
  obtain ⟨t, rfl⟩ := Int.eq_ofNat_of_zero_le t0
  have hp : 2 ^ k ≤ 2 ^ 16 := Nat.pow_le_pow_right (by decide) hk
  have h1 : 0 < 2 ^ k := Nat.two_pow_pos k
  have e : (BitVec.ofInt 16 (t : Int) &&& BitVec.ofInt 16 ((2 ^ k - 1 : Nat) : Int)).toNat = t % 2 ^ k := by
    rw [BitVec.ofInt_natCast, BitVec.ofInt_natCast, BitVec.toNat_and, BitVec.toNat_ofNat, BitVec.toNat_ofNat, Nat.mod_eq_of_lt (show t < 2 ^ 16 by omega), Nat.mod_eq_of_lt (show 2 ^ k - 1 < 2 ^ 16 by omega)]
    exact Nat.and_two_pow_sub_one_eq_mod t k
  show IntKind.u16.wrap ((BitVec.ofInt 16 (t : Int) &&& BitVec.ofInt 16 ((2 ^ k - 1 : Nat) : Int)).toNat : Int) = _
  rw [e, IntKind.wrap_u16]
  have := Nat.mod_lt t h1
  omega
theorem or16_comm (a b : Int) : bits .or .u16 a b = bits .or .u16 b a := by
  show IntKind.u16.wrap ((BitVec.ofInt 16 a ||| BitVec.ofInt 16 b).toNat : Int) = IntKind.u16.wrap ((BitVec.ofInt 16 b ||| BitVec.ofInt 16 a).toNat : Int)
  rw [BitVec.or_comm]
theorem or8_nib (h p : Int) (h0 : 0 ≤ h) (h1 : h < 16) (p0 : 0 ≤ p) (p1 : p < 16) : bits .or .u8 (h * 16) p = h * 16 + p := by
  have k : ∀ h p : Fin 16, bits .or .u8 ((h.val : Int) * 16) (p.val : Int) = (h.val : Int) * 16 + (p.val : Int) := by decide +kernel
  have := k ⟨h.toNat, by omega⟩ ⟨p.toNat, by omega⟩
  simp only [Int.toNat_of_nonneg h0, Int.toNat_of_nonneg p0] at this
  exact this
theorem and_240 (a : Int) (a0 : 0 ≤ a) (a1 : a ≤ 255) : bits .and .u8 a 240 = a / 16 * 16 :=
  byte_all (fun a => bits .and .u8 a 240 = a / 16 * 16) (by decide +kernel) a a0 a1
def diA (r : Bool) (a b : Int) : Int := a / 16 * 16 + bif r then b % 16 else b / 16
def diB (r : Bool) (a b : Int) : Int := bif r then a % 16 * 16 + b / 16 else b % 16 * 16 + a % 16
def diF (r : Bool) (a b f : Int) : Int := mk (bit 7 (diA r a b)) (decide (diA r a b = 0)) (bit 5 (diA r a b)) false (bit 3 (diA r a b)) (evb (diA r a b)) false (bit 0 f)
theorem diA_range (r : Bool) (a b : Int) (a0 : 0 ≤ a) (a1 : a ≤ 255) (b0 : 0 ≤ b) (b1 : b ≤ 255) : 0 ≤ diA r a b ∧ diA r a b ≤ 255 := by unfold diA; cases r <;> simp only [cond_true, cond_false] <;> omega
theorem diB_range (r : Bool) (a b : Int) (_a0 : 0 ≤ a) (_a1 : a ≤ 255) (b0 : 0 ≤ b) (b1 : b ≤ 255) : 0 ≤ diB r a b ∧ diB r a b ≤ 255 := by unfold diB; cases r <;> simp only [cond_true, cond_false] <;> omega
theorem diF_range (r : Bool) (a b f : Int) : 0 ≤ diF r a b f ∧ diF r a b f ≤ 255 := mk_range _ _ _ _ _ _ _ _
theorem dg_1 (a b : Int) (_a0 : 0 ≤ a) (_a1 : a ≤ 255) (b0 : 0 ≤ b) (b1 : b ≤ 255) : hiB (b % 16 * 256 + (a % 16 * 16 + b / 16)) = b % 16 := by
  have h1 : 0 ≤ b % 16 ∧ b % 16 < 16 := by omega
  have h2 : 0 ≤ a % 16 * 16 + b / 16 ∧ a % 16 * 16 + b / 16 < 256 := by omega
  generalize b % 16 = z at *
  generalize a % 16 * 16 + b / 16 = y at *
  unfold hiB; omega
theorem dg_2 (a b : Int) (_a0 : 0 ≤ a) (_a1 : a ≤ 255) (b0 : 0 ≤ b) (b1 : b ≤ 255) : hiB (b * 16 + a % 16) = b / 16 := by unfold hiB; omega
theorem ret3i {k l m : IntKind} {a b c d x y : Int} (h : a = c) (g : b = d) (i : x = y) : Ending.returned (.tuple #[.int k a, .int l b, .int m x]) = .returned (.tuple #[.int k c, .int l d, .int m y]) := by rw [h, g, i]
theorem digit_ (r : Bool) (a b f : Int) (a0 : 0 ≤ a) (a1 : a ≤ 255) (b0 : 0 ≤ b) (b1 : b ≤ 255) (w : World) : Calls Tryz.prog 218 #[.bool r, .int .u8 a, .int .u8 b, .int .u8 f] w fun e w' => e = .returned (.tuple #[.int .u8 (diA r a b), .int .u8 (diB r a b), .int .u8 (diF r a b f)]) ∧ Below w.heap.size w w' := by
  have e15 := and_15 a a0 a1
  have e240 := and_240 a a0 a1
  have m0 : 0 ≤ a % 16 := by omega
  have m1 : a % 16 < 16 := by omega
  have ew : bits .or .u16 (a % 16 * 256) b = a % 16 * 256 + b := or16_add 8 (a % 16) b m0 b0 (by omega) (by omega)
  have e1 : bits .and .u16 (a % 16 * 256 + b) 15 = b % 16 := (and16_mod 4 (by decide) _ (by omega) (by omega)).trans (by omega)
  have e2 : bits .or .u16 ((a % 16 * 256 + b) / 16) (b % 16 * 256) = b % 16 * 256 + (a % 16 * 16 + b / 16) := by
    rw [or16_comm, show (a % 16 * 256 + b) / 16 = a % 16 * 16 + b / 16 by omega]
    exact or16_add 8 (b % 16) _ (by omega) (by omega) (by omega) (by omega)
  have e3 : bits .and .u16 ((a % 16 * 256 + b) * 16) 4095 = b * 16 := (and16_mod 12 (by decide) _ (by omega) (by omega)).trans (by omega)
  have e4 : bits .or .u16 (b * 16) ((a % 16 * 256 + b) / 256) = b * 16 + a % 16 := by
    rw [show (a % 16 * 256 + b) / 256 = a % 16 by omega]
    exact or16_add 4 b _ b0 (by omega) (by omega) (by omega)
  have e5 : bits .or .u8 (a / 16 * 16) (hiB (b % 16 * 256 + (a % 16 * 16 + b / 16))) = diA true a b := by
    rw [dg_1 a b a0 a1 b0 b1]
    exact or8_nib _ _ (by omega) (by omega) (by omega) (by omega)
  have e6 : bits .or .u8 (a / 16 * 16) (hiB (b * 16 + a % 16)) = diA false a b := by
    rw [dg_2 a b a0 a1 b0 b1]
    exact or8_nib _ _ (by omega) (by omega) (by omega) (by omega)
  have e7 := Lib.hid (show loB (b % 16 * 256 + (a % 16 * 16 + b / 16)) = diB true a b by unfold loB diB; simp only [cond_true]; omega)
  have e8 := Lib.hid (show loB (b * 16 + a % 16) = diB false a b by unfold loB diB; simp only [cond_false]; omega)
  have e9 := Lib.hid (fun r => show bits .or .u8 (evf (diA r a b)) (bits .and .u8 f 1) = diF r a b f from by rw [and_1]; exact or_out _ _)
  cases r
  all_goals
    go_enter Tryz.func218, Tryz.ntmps218
    go_wp2_with (first | (go_at_call 66; refine (hi_ _ _).mono ?_; rintro e w1 ⟨rfl, rfl⟩) | (go_at_call 136; refine (lo_ _ _).mono ?_; rintro e w1 ⟨rfl, rfl⟩) | (go_at_call 121; refine (feven_ _ _).mono ?_; rintro e w1 ⟨rfl, hb⟩))
    go_ret3
    first | exact ⟨ret3i rfl e7.out (e9.out _), hb⟩ | exact ⟨ret3i rfl e8.out (e9.out _), hb⟩
end Go.Proofs.YtnaampdpkegacaaGreatDoor
