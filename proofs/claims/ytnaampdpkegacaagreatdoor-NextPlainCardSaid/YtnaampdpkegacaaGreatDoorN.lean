/-
  Plain lemmas on words: no program in sight. A helper of the claim that stands beside it.
-/
import Derived.WalkKit
import Derived.Test.YtnaampdpkegacaaGreatDoorM
namespace Go.Proofs.YtnaampdpkegacaaGreatDoor
open Go

def hiB (w : Int) : Int := w / 256 % 256
def loB (w : Int) : Int := w % 256
def wrd (h l : Int) : Int := (h * 256 + l) % 65536
def mov (w b : Int) : Int := (w + b) % 65536
section
variable (x y : Int)
theorem hiB_0 : 0 ≤ hiB x := by unfold hiB; omega
theorem hiB_1 : hiB x ≤ 255 := by unfold hiB; omega
theorem loB_0 : 0 ≤ loB x := by unfold loB; omega
theorem loB_1 : loB x ≤ 255 := by unfold loB; omega
theorem wrd_0 : 0 ≤ wrd x y := by unfold wrd; omega
theorem wrd_1 : wrd x y ≤ 65535 := by unfold wrd; omega
theorem mov_0 : 0 ≤ mov x y := by unfold mov; omega
theorem mov_1 : mov x y ≤ 65535 := by unfold mov; omega
end
theorem wrd_hl (w : Int) (h0 : 0 ≤ w) (h1 : w ≤ 65535) : wrd (hiB w) (loB w) = w := by unfold wrd hiB loB; omega
theorem hiB_wrd (h l : Int) (h0 : 0 ≤ h) (h1 : h ≤ 255) (l0 : 0 ≤ l) (l1 : l ≤ 255) : hiB (wrd h l) = h := by unfold wrd hiB; omega
theorem loB_wrd (h l : Int) (l0 : 0 ≤ l) (l1 : l ≤ 255) : loB (wrd h l) = l := by unfold wrd loB; omega
theorem word_or (h l : Int) (h0 : 0 ≤ h) (h1 : h ≤ 255) (l0 : 0 ≤ l) (l1 : l ≤ 255) : bits .or .u16 (h * 256) l = wrd h l := by
  obtain ⟨h, rfl⟩ := Int.eq_ofNat_of_zero_le h0
  obtain ⟨l, rfl⟩ := Int.eq_ofNat_of_zero_le l0
  have e1 : ((h : Int) * 256) = ((h * 256 : Nat) : Int) := by rw [Int.natCast_mul]; rfl
  have e : (BitVec.ofInt 16 ((h * 256 : Nat) : Int) ||| BitVec.ofInt 16 (l : Int)).toNat = h * 256 + l := by
    rw [BitVec.ofInt_natCast, BitVec.ofInt_natCast, BitVec.toNat_or, BitVec.toNat_ofNat, BitVec.toNat_ofNat, Nat.mod_eq_of_lt (show h * 256 < 2 ^ 16 by omega), Nat.mod_eq_of_lt (show l < 2 ^ 16 by omega)]
    have := Nat.shiftLeft_add_eq_or_of_lt (i := 8) (b := l) (by omega) h
    rw [Nat.shiftLeft_eq] at this
    exact this.symm
  rw [e1]
  show IntKind.u16.wrap ((BitVec.ofInt 16 ((h * 256 : Nat) : Int) ||| BitVec.ofInt 16 (l : Int)).toNat : Int) = _
  rw [e, IntKind.wrap_u16]
  unfold wrd; omega
def wAddR (a b : Int) (c : Bool) : Int := (a + b + bw c 1) % 65536
def wSubR (a b : Int) (c : Bool) : Int := (a - b - bw c 1) % 65536
def wsgn (w : Int) : Int := bif decide (w < 32768) then w else w - 65536
def wfar (n : Int) : Bool := decide (n < -32768) || decide (32767 < n)
/-- All flags of a sum of words. -/
def wAddF (a b : Int) (c : Bool) : Int := mk (bit 7 (hiB (wAddR a b c))) (decide (wAddR a b c = 0)) (bit 5 (hiB (wAddR a b c))) (decide (4095 < a % 4096 + b % 4096 + bw c 1)) (bit 3 (hiB (wAddR a b c))) (wfar (wsgn a + wsgn b + bw c 1)) false (decide (65535 < a + b + bw c 1))
def wSubF (a b : Int) (c : Bool) : Int := mk (bit 7 (hiB (wSubR a b c))) (decide (wSubR a b c = 0)) (bit 5 (hiB (wSubR a b c))) (decide (a % 4096 - b % 4096 - bw c 1 < 0)) (bit 3 (hiB (wSubR a b c))) (wfar (wsgn a - wsgn b - bw c 1)) true (decide (a - b - bw c 1 < 0))
/-- ADD HL: S, Z and P are kept. -/
def hAddF (a b f : Int) : Int := kp (wAddF a b false) f 196
theorem wAddR_0 (a b : Int) (c : Bool) : 0 ≤ wAddR a b c := by unfold wAddR; omega
theorem wAddR_1 (a b : Int) (c : Bool) : wAddR a b c ≤ 65535 := by unfold wAddR; omega
theorem wSubR_0 (a b : Int) (c : Bool) : 0 ≤ wSubR a b c := by unfold wSubR; omega
theorem wSubR_1 (a b : Int) (c : Bool) : wSubR a b c ≤ 65535 := by unfold wSubR; omega
theorem wAddF_range (a b : Int) (c : Bool) : 0 ≤ wAddF a b c ∧ wAddF a b c ≤ 255 := mk_range _ _ _ _ _ _ _ _
theorem wSubF_range (a b : Int) (c : Bool) : 0 ≤ wSubF a b c ∧ wSubF a b c ≤ 255 := mk_range _ _ _ _ _ _ _ _
theorem hAddF_range (a b f : Int) : 0 ≤ hAddF a b f ∧ hAddF a b f ≤ 255 := kp_range _ _ _
/-- Two sums of bytes make a sum of words. -/
theorem add_both (a b : Int) (c : Bool) (_a0 : 0 ≤ a) (_a1 : a ≤ 65535) (_b0 : 0 ≤ b) (_b1 : b ≤ 65535) :
    wrd (addR (hiB a) (hiB b) (bit 0 (addF (loB a) (loB b) c))) (addR (loB a) (loB b) c) = wAddR a b c := by
  have q := bw_range c
  simp only [addF, bit0_mk]
  unfold wrd addR hiB loB wAddR
  by_cases h : 255 < a % 256 + b % 256 + bw c 1
  · simp only [h, decide_true]; simp only [bw, cond_true] at *; omega
  · simp only [h, decide_false]; simp only [bw, cond_false] at *; omega
theorem sub_both (a b : Int) (c : Bool) (_a0 : 0 ≤ a) (_a1 : a ≤ 65535) (_b0 : 0 ≤ b) (_b1 : b ≤ 65535) :
    wrd (subR (hiB a) (hiB b) (bit 0 (subF (loB a) (loB b) c))) (subR (loB a) (loB b) c) = wSubR a b c := by
  have q := bw_range c
  simp only [subF, bit0_mk]
  unfold wrd subR hiB loB wSubR
  by_cases h : a % 256 - b % 256 - bw c 1 < 0
  · simp only [h, decide_true]; simp only [bw, cond_true] at *; omega
  · simp only [h, decide_false]; simp only [bw, cond_false] at *; omega
theorem sgn_cases (x : Int) : (x < 128 ∧ sgn x = x) ∨ (128 ≤ x ∧ sgn x = x - 256) := by
  unfold sgn; by_cases h : x < 128
  · simp [h]
  · right; simp [h]; omega
theorem wsgn_cases (x : Int) : (x < 32768 ∧ wsgn x = x) ∨ (32768 ≤ x ∧ wsgn x = x - 65536) := by
  unfold wsgn; by_cases h : x < 32768
  · simp [h]
  · right; simp [h]; omega
theorem bwd_cases (p : Prop) [Decidable p] : (p ∧ bw (decide p) 1 = 1) ∨ (¬ p ∧ bw (decide p) 1 = 0) := by by_cases h : p <;> simp [h, bw]
theorem far_iff {x y : Int} (h : (x < -128 ∨ 127 < x) ↔ (y < -32768 ∨ 32767 < y)) : farb x = wfar y := by
  unfold farb wfar
  rw [Bool.eq_iff_iff, Bool.or_eq_true, Bool.or_eq_true, decide_eq_true_eq, decide_eq_true_eq, decide_eq_true_eq, decide_eq_true_eq]
  exact h
theorem adc_flags (a b : Int) (c : Bool) (a0 : 0 ≤ a) (a1 : a ≤ 65535) (b0 : 0 ≤ b) (b1 : b ≤ 65535) :
    (bif wAddR a b c != 0 then bits .andNot .u8 (addF (hiB a) (hiB b) (bit 0 (addF (loB a) (loB b) c))) 64 else addF (hiB a) (hiB b) (bit 0 (addF (loB a) (loB b) c))) = wAddF a b c := by
  have q := bw_range c
  have hb := add_both a b c a0 a1 b0 b1
  have er : addR (hiB a) (hiB b) (bit 0 (addF (loB a) (loB b) c)) = hiB (wAddR a b c) := by
    have r := addR_range (hiB a) (hiB b) (bit 0 (addF (loB a) (loB b) c))
    have t := addR_range (loB a) (loB b) c
    rw [← hb, hiB_wrd _ _ r.1 r.2 t.1 t.2]
  have el : bit 0 (addF (loB a) (loB b) c) = decide (255 < loB a + loB b + bw c 1) := by simp only [addF, bit0_mk]
  have m := wAddF_range a b c
  have n := addF_range (hiB a) (hiB b) (bit 0 (addF (loB a) (loB b) c))
  have k := bits_range .andNot (addF (hiB a) (hiB b) (bit 0 (addF (loB a) (loB b) c))) 64
  have ez : addF (hiB a) (hiB b) (bit 0 (addF (loB a) (loB b) c)) = mk (bit 7 (hiB (wAddR a b c))) (decide (hiB (wAddR a b c) = 0)) (bit 5 (hiB (wAddR a b c))) (decide (4095 < a % 4096 + b % 4096 + bw c 1)) (bit 3 (hiB (wAddR a b c))) (wfar (wsgn a + wsgn b + bw c 1)) false (decide (65535 < a + b + bw c 1)) := by
    rw [show addF (hiB a) (hiB b) (bit 0 (addF (loB a) (loB b) c)) = mk (bit 7 (addR (hiB a) (hiB b) (bit 0 (addF (loB a) (loB b) c)))) (decide (addR (hiB a) (hiB b) (bit 0 (addF (loB a) (loB b) c)) = 0)) (bit 5 (addR (hiB a) (hiB b) (bit 0 (addF (loB a) (loB b) c)))) (decide (15 < hiB a % 16 + hiB b % 16 + bw (bit 0 (addF (loB a) (loB b) c)) 1)) (bit 3 (addR (hiB a) (hiB b) (bit 0 (addF (loB a) (loB b) c)))) (farb (sgn (hiB a) + sgn (hiB b) + bw (bit 0 (addF (loB a) (loB b) c)) 1)) false (decide (255 < hiB a + hiB b + bw (bit 0 (addF (loB a) (loB b) c)) 1)) from rfl, er, el]
    have e1 : decide (15 < hiB a % 16 + hiB b % 16 + bw (decide (255 < loB a + loB b + bw c 1)) 1) = decide (4095 < a % 4096 + b % 4096 + bw c 1) := by
      have c5 := bwd_cases (255 < loB a + loB b + bw c 1)
      congr 1; apply propext; unfold hiB loB at *
      omega
    have e2 : farb (sgn (hiB a) + sgn (hiB b) + bw (decide (255 < loB a + loB b + bw c 1)) 1) = wfar (wsgn a + wsgn b + bw c 1) := by
      apply far_iff
      have c1 := sgn_cases (hiB a); have c2 := sgn_cases (hiB b); have c3 := wsgn_cases a; have c4 := wsgn_cases b; have c5 := bwd_cases (255 < loB a + loB b + bw c 1)
      unfold hiB loB at *
      omega
    have e3 : decide (255 < hiB a + hiB b + bw (decide (255 < loB a + loB b + bw c 1)) 1) = decide (65535 < a + b + bw c 1) := by
      have c5 := bwd_cases (255 < loB a + loB b + bw c 1)
      congr 1; apply propext; unfold hiB loB at *
      omega
    rw [e1, e2, e3]
  have r0 := wAddR_0 a b c
  have r1 := wAddR_1 a b c
  by_cases hz : wAddR a b c = 0
  · rw [show (wAddR a b c != 0) = false by simp [hz], cond_false, ez]
    unfold wAddF; rw [hz]; rfl
  · rw [show (wAddR a b c != 0) = true by simp [hz], cond_true]
    rw [ez] at k ⊢
    refine byte_ext k.1 k.2 m.1 m.2 ?_ ?_ ?_ ?_ ?_ ?_ ?_ ?_ <;> simp (disch := decide) only [bit_andNot, bit_64, wAddF, bit7_mk, bit6_mk, bit5_mk, bit4_mk, bit3_mk, bit2_mk, bit1_mk, bit0_mk] <;> simp [hz]
theorem sbc_flags (a b : Int) (c : Bool) (a0 : 0 ≤ a) (a1 : a ≤ 65535) (b0 : 0 ≤ b) (b1 : b ≤ 65535) :
    (bif wSubR a b c != 0 then bits .andNot .u8 (subF (hiB a) (hiB b) (bit 0 (subF (loB a) (loB b) c))) 64 else subF (hiB a) (hiB b) (bit 0 (subF (loB a) (loB b) c))) = wSubF a b c := by
  have q := bw_range c
  have hb := sub_both a b c a0 a1 b0 b1
  have er : subR (hiB a) (hiB b) (bit 0 (subF (loB a) (loB b) c)) = hiB (wSubR a b c) := by
    have r := subR_range (hiB a) (hiB b) (bit 0 (subF (loB a) (loB b) c))
    have t := subR_range (loB a) (loB b) c
    rw [← hb, hiB_wrd _ _ r.1 r.2 t.1 t.2]
  have el : bit 0 (subF (loB a) (loB b) c) = decide (loB a - loB b - bw c 1 < 0) := by simp only [subF, bit0_mk]
  have m := wSubF_range a b c
  have n := subF_range (hiB a) (hiB b) (bit 0 (subF (loB a) (loB b) c))
  have k := bits_range .andNot (subF (hiB a) (hiB b) (bit 0 (subF (loB a) (loB b) c))) 64
  have ez : subF (hiB a) (hiB b) (bit 0 (subF (loB a) (loB b) c)) = mk (bit 7 (hiB (wSubR a b c))) (decide (hiB (wSubR a b c) = 0)) (bit 5 (hiB (wSubR a b c))) (decide (a % 4096 - b % 4096 - bw c 1 < 0)) (bit 3 (hiB (wSubR a b c))) (wfar (wsgn a - wsgn b - bw c 1)) true (decide (a - b - bw c 1 < 0)) := by
    rw [show subF (hiB a) (hiB b) (bit 0 (subF (loB a) (loB b) c)) = mk (bit 7 (subR (hiB a) (hiB b) (bit 0 (subF (loB a) (loB b) c)))) (decide (subR (hiB a) (hiB b) (bit 0 (subF (loB a) (loB b) c)) = 0)) (bit 5 (subR (hiB a) (hiB b) (bit 0 (subF (loB a) (loB b) c)))) (decide (hiB a % 16 - hiB b % 16 - bw (bit 0 (subF (loB a) (loB b) c)) 1 < 0)) (bit 3 (subR (hiB a) (hiB b) (bit 0 (subF (loB a) (loB b) c)))) (farb (sgn (hiB a) - sgn (hiB b) - bw (bit 0 (subF (loB a) (loB b) c)) 1)) true (decide (hiB a - hiB b - bw (bit 0 (subF (loB a) (loB b) c)) 1 < 0)) from rfl, er, el]
    have e1 : decide (hiB a % 16 - hiB b % 16 - bw (decide (loB a - loB b - bw c 1 < 0)) 1 < 0) = decide (a % 4096 - b % 4096 - bw c 1 < 0) := by
      have c5 := bwd_cases (loB a - loB b - bw c 1 < 0)
      congr 1; apply propext; unfold hiB loB at *
      omega
    have e2 : farb (sgn (hiB a) - sgn (hiB b) - bw (decide (loB a - loB b - bw c 1 < 0)) 1) = wfar (wsgn a - wsgn b - bw c 1) := by
      apply far_iff
      have c1 := sgn_cases (hiB a); have c2 := sgn_cases (hiB b); have c3 := wsgn_cases a; have c4 := wsgn_cases b; have c5 := bwd_cases (loB a - loB b - bw c 1 < 0)
      unfold hiB loB at *
      omega
    have e3 : decide (hiB a - hiB b - bw (decide (loB a - loB b - bw c 1 < 0)) 1 < 0) = decide (a - b - bw c 1 < 0) := by
      have c5 := bwd_cases (loB a - loB b - bw c 1 < 0)
      congr 1; apply propext; unfold hiB loB at *
      omega
    rw [e1, e2, e3]
  have r0 := wSubR_0 a b c
  have r1 := wSubR_1 a b c
  by_cases hz : wSubR a b c = 0
  · rw [show (wSubR a b c != 0) = false by simp [hz], cond_false, ez]
    unfold wSubF; rw [hz]; rfl
  · rw [show (wSubR a b c != 0) = true by simp [hz], cond_true]
    rw [ez] at k ⊢
    refine byte_ext k.1 k.2 m.1 m.2 ?_ ?_ ?_ ?_ ?_ ?_ ?_ ?_ <;> simp (disch := decide) only [bit_andNot, bit_64, wSubF, bit7_mk, bit6_mk, bit5_mk, bit4_mk, bit3_mk, bit2_mk, bit1_mk, bit0_mk] <;> simp [hz]
end Go.Proofs.YtnaampdpkegacaaGreatDoor
