/-
  Contracts of logic.Daa, and of the package shift. A helper of the claim that stands beside it.
-/
import Derived.Test.YtnaampdpkegacaaGreatDoorU
namespace Go.Proofs.YtnaampdpkegacaaGreatDoor
open Go.RowKit

/-! A decimal sum, made right. -/
def daL (a f : Int) : Bool := bit 4 f || decide (9 < a % 16)
def daH (a f : Int) : Bool := bit 0 f || decide (153 < a)
def daB (a f : Int) : Int := bw (daL a f) 6 + bw (daH a f) 96
def daR (a f : Int) : Int := bif bit 1 f then (a - daB a f) % 256 else (a + daB a f) % 256
def daF (a f : Int) : Int := mk (bit 7 (daR a f)) (decide (daR a f = 0)) (bit 5 (daR a f)) (bit 4 a ^^ bit 4 (daR a f)) (bit 3 (daR a f)) (evb (daR a f)) (bit 1 f) (daH a f)
theorem daR_range (a f : Int) : 0 ≤ daR a f ∧ daR a f ≤ 255 := by unfold daR; cases bit 1 f <;> simp only [cond_true, cond_false] <;> omega
theorem daF_range (a f : Int) : 0 ≤ daF a f ∧ daF a f ≤ 255 := mk_range _ _ _ _ _ _ _ _
theorem and_15 (a : Int) (a0 : 0 ≤ a) (a1 : a ≤ 255) : bits .and .u8 a 15 = a % 16 :=
  byte_all (fun a => bits .and .u8 a 15 = a % 16) (by decide +kernel) a a0 a1
theorem and_b1 (f : Int) : bits .and .u8 f 2 = mk false false false false false false (bit 1 f) false := by
  rw [show (2 : Int) = 2 ^ 1 from rfl, band_pow 1 (by decide)]; cases bit 1 f <;> rfl
theorem and_b4 (f : Int) : bits .and .u8 f 16 = mk false false false (bit 4 f) false false false false := by
  rw [show (16 : Int) = 2 ^ 4 from rfl, band_pow 4 (by decide)]; cases bit 4 f <;> rfl
theorem and_b0 (f : Int) : bits .and .u8 f 1 = mk false false false false false false false (bit 0 f) := by
  rw [show (1 : Int) = 2 ^ 0 from rfl, band_pow 0 (by decide)]; cases bit 0 f <;> rfl
theorem daa_no (a f r : Int) : bits .or .u8 (bits .or .u8 (evf r) (bits .and .u8 f 2)) (bits .and .u8 (bits .xor .u8 a r) 16) = mk (bit 7 r) (decide (r = 0)) (bit 5 r) (bit 4 a ^^ bit 4 r) (bit 3 r) (evb r) (bit 1 f) false := by
  rw [and_b1, and_b4, bit_xor 4 (by decide)]
  unfold evf
  rw [mk_or, mk_or]
  simp
theorem daa_yes (a f r : Int) : bits .or .u8 (bits .or .u8 (bits .or .u8 (evf r) (bits .and .u8 f 2)) (bits .and .u8 (bits .xor .u8 a r) 16)) 1 = mk (bit 7 r) (decide (r = 0)) (bit 5 r) (bit 4 a ^^ bit 4 r) (bit 3 r) (evb r) (bit 1 f) true := by
  rw [daa_no, mk_1, mk_or]
  simp
theorem bool3 (x : Bool) (p : Prop) [Decidable p] : (x = true) ∨ (x = false ∧ p) ∨ (x = false ∧ ¬ p) := by
  cases x <;> by_cases h : p <;> simp [h]
theorem ret2' {k l : IntKind} {a b c d : Int} (h : a = c ∧ b = d) : Ending.returned (.tuple #[.int k a, .int l b]) = .returned (.tuple #[.int k c, .int l d]) := by rw [h.1, h.2]
theorem daa_ends (a f r g : Int) (hr : r = daR a f) (hg : g = bits .or .u8 (bits .or .u8 (evf r) (bits .and .u8 f 2)) (bits .and .u8 (bits .xor .u8 a r) 16)) (hc : daH a f = false) : r = daR a f ∧ g = daF a f := by
  refine ⟨hr, ?_⟩
  rw [hg, daa_no]; unfold daF; rw [hc, ← hr]
theorem daa_endy (a f r g : Int) (hr : r = daR a f) (hg : g = bits .or .u8 (bits .or .u8 (bits .or .u8 (evf r) (bits .and .u8 f 2)) (bits .and .u8 (bits .xor .u8 a r) 16)) 1) (hc : daH a f = true) : r = daR a f ∧ g = daF a f := by
  refine ⟨hr, ?_⟩
  rw [hg, daa_yes]; unfold daF; rw [hc, ← hr]
set_option maxHeartbeats 2000000 in
theorem ldaa_ (a f : Int) (a0 : 0 ≤ a) (a1 : a ≤ 255) (w : World) (hL : Lg w) : Calls Tryz.prog 158 #[.int .u8 a, .int .u8 f] w fun e w' => e = .returned (.tuple #[.int .u8 (daR a f), .int .u8 (daF a f)]) ∧ Below w.heap.size w w' := by
  have e15 := and_15 a a0 a1
  obtain ⟨l0, l1, l2, l3⟩ := hL.cell
  have o1 : bits .or .i64 0 1 = 1 := by decide +kernel
  have o2 : bits .or .i64 0 2 = 2 := by decide +kernel
  have o3 : bits .or .i64 1 2 = 3 := by decide +kernel
  have p0 : bits .and .i64 0 2 = 0 := by decide +kernel
  have p1 : bits .and .i64 1 2 = 0 := by decide +kernel
  have p2 : bits .and .i64 2 2 = 2 := by decide +kernel
  have p3 : bits .and .i64 3 2 = 2 := by decide +kernel
  have n16 := ne16 f
  have n1 := ne1 f
  have n2 := ne2 f
  have ea := Lib.hid (daa_ends a f)
  have eb := Lib.hid (daa_endy a f)
  have m0 : 0 ≤ a % 16 := by omega
  have H4 : Hid (daL a f = (bit 4 f || decide (9 < a % 16)) ∧ daH a f = (bit 0 f || decide (153 < a)) ∧ daR a f = (bif bit 1 f then (a - daB a f) % 256 else (a + daB a f) % 256) ∧ daB a f = bw (daL a f) 6 + bw (daH a f) 96) := Lib.hid ⟨rfl, rfl, rfl, rfl⟩
  rcases bool3 (bit 4 f) (9 < a % 16) with h4 | ⟨h4, h9⟩ | ⟨h4, h9⟩ <;> rcases bool3 (bit 0 f) (153 < a) with h0 | ⟨h0, h3⟩ | ⟨h0, h3⟩ <;> rcases (Bool.eq_false_or_eq_true (bit 1 f)).symm with h1 | h1
  all_goals
    rw [h4] at n16
    rw [h0] at n1
    rw [h1] at n2
    have k4 := Lib.hid h4
    have k0 := Lib.hid h0
    have k1 := Lib.hid h1
    have K := Lib.hid hL
    clear h4 h0 h1 hL
    go_enter Tryz.func158, Tryz.ntmps158
    go_wp2_with (go_at_call 121; refine (feven_ _ _).mono ?_; rintro e w1 ⟨rfl, hb⟩)
  all_goals
    go_ret2
    refine ⟨ret2' ?_, hb⟩
    obtain ⟨q1, q2, q3, q4⟩ := H4.out
    rw [k4.out] at q1
    rw [k0.out] at q2
    rw [k1.out] at q3
    rw [q4] at q3
    simp only [Bool.true_or, Bool.false_or] at q1 q2
    (try rw [decide_eq_true (show (9 : Int) < a % 16 by omega)] at q1)
    (try rw [decide_eq_false (show ¬ (9 : Int) < a % 16 by omega)] at q1)
    (try rw [decide_eq_true (show (153 : Int) < a by omega)] at q2)
    (try rw [decide_eq_false (show ¬ (153 : Int) < a by omega)] at q2)
    rw [q1, q2] at q3
    simp only [bw, cond_true, cond_false] at q3
    first
      | exact ea.out _ _ (by omega) rfl q2
      | exact eb.out _ _ (by omega) rfl q2
end Go.Proofs.YtnaampdpkegacaaGreatDoor
