/-
  Plain lemmas on bytes and their bits: no program in sight. A helper of the claim that stands beside it.
-/
import Derived.Laws.Entries
import Derived.Laws.Bits
import Derived.Test.YtnaampdpkegacaaGreatDoorRows
import Derived.WalkKit
import Derived.WalkSpells
import Derived.WalkLawsBesides
import Derived.LoopN
import Derived.Handy
import Derived.RangeFuncNested
import Derived.RangeFuncBound
import Derived.RangeFuncCalls
import Derived.RangeFuncLeaves
import Derived.Shelf.Abstract
import Derived.Shelf.RegionOpen
import Derived.OwnWalkIn
import Derived.TacticsInMore
import Derived.LoopNIn
import Derived.LoopIn
import Derived.Lib.Hide
import Derived.Deep.RegionHeld3

namespace Go.Proofs.YtnaampdpkegacaaGreatDoor
open Go
def bit (i : Nat) (x : Int) : Bool := decide (x / 2 ^ i % 2 = 1)
def bw (b : Bool) (n : Int) : Int := bif b then n else 0
def mk (s z y h x p n c : Bool) : Int := bw s 128 + bw z 64 + bw y 32 + bw h 16 + bw x 8 + bw p 4 + bw n 2 + bw c 1

theorem byte_all (p : Int → Prop) (h : ∀ n : Fin 256, p (n.val : Int)) (x : Int) (h0 : 0 ≤ x) (h1 : x ≤ 255) : p x := by
  have := h ⟨x.toNat, by omega⟩
  simpa [Int.toNat_of_nonneg h0] using this

theorem mk_bit (x : Int) (h0 : 0 ≤ x) (h1 : x ≤ 255) : mk (bit 7 x) (bit 6 x) (bit 5 x) (bit 4 x) (bit 3 x) (bit 2 x) (bit 1 x) (bit 0 x) = x :=
  byte_all (fun x => mk (bit 7 x) (bit 6 x) (bit 5 x) (bit 4 x) (bit 3 x) (bit 2 x) (bit 1 x) (bit 0 x) = x) (by decide +kernel) x h0 h1

section
variable (s z y h x p n c : Bool)
theorem mk_range : 0 ≤ mk s z y h x p n c ∧ mk s z y h x p n c ≤ 255 := by revert s z y h x p n c; decide +kernel
@[simp] theorem bit7_mk : bit 7 (mk s z y h x p n c) = s := by revert s z y h x p n c; decide +kernel
@[simp] theorem bit6_mk : bit 6 (mk s z y h x p n c) = z := by revert s z y h x p n c; decide +kernel
@[simp] theorem bit5_mk : bit 5 (mk s z y h x p n c) = y := by revert s z y h x p n c; decide +kernel
@[simp] theorem bit4_mk : bit 4 (mk s z y h x p n c) = h := by revert s z y h x p n c; decide +kernel
@[simp] theorem bit3_mk : bit 3 (mk s z y h x p n c) = x := by revert s z y h x p n c; decide +kernel
@[simp] theorem bit2_mk : bit 2 (mk s z y h x p n c) = p := by revert s z y h x p n c; decide +kernel
@[simp] theorem bit1_mk : bit 1 (mk s z y h x p n c) = n := by revert s z y h x p n c; decide +kernel
@[simp] theorem bit0_mk : bit 0 (mk s z y h x p n c) = c := by revert s z y h x p n c; decide +kernel
end

theorem byte_ext {a b : Int} (a0 : 0 ≤ a) (a1 : a ≤ 255) (b0 : 0 ≤ b) (b1 : b ≤ 255) (h7 : bit 7 a = bit 7 b) (h6 : bit 6 a = bit 6 b) (h5 : bit 5 a = bit 5 b) (h4 : bit 4 a = bit 4 b)
    (h3 : bit 3 a = bit 3 b) (h2 : bit 2 a = bit 2 b) (h1 : bit 1 a = bit 1 b) (h0 : bit 0 a = bit 0 b) : a = b := by
  rw [← mk_bit a a0 a1, ← mk_bit b b0 b1, h7, h6, h5, h4, h3, h2, h1, h0]

theorem bit_nat (i n : Nat) : bit i (n : Int) = n.testBit i := by
  unfold bit
  rw [Nat.testBit_eq_decide_div_mod_eq]
  congr 1
  have : ((n : Int) / 2 ^ i % 2) = ((n / 2 ^ i % 2 : Nat) : Int) := by push_cast; rfl
  rw [this]
  simp; omega

theorem bits_nat (op : BinOp) (a b : Nat)  : bits op .u8 (a : Int) (b : Int) =
    (((match op with | .and => BitVec.ofNat 8 a &&& BitVec.ofNat 8 b | .or => BitVec.ofNat 8 a ||| BitVec.ofNat 8 b | .xor => BitVec.ofNat 8 a ^^^ BitVec.ofNat 8 b | _ => BitVec.ofNat 8 a &&& ~~~ BitVec.ofNat 8 b).toNat : Nat) : Int) := by
  have ha' : BitVec.ofInt 8 (a : Int) = BitVec.ofNat 8 a := by apply BitVec.eq_of_toNat_eq; simp
  have hb' : BitVec.ofInt 8 (b : Int) = BitVec.ofNat 8 b := by apply BitVec.eq_of_toNat_eq; simp
  simp only [bits, IntKind.bits, ha', hb']
  have hr : ∀ v : BitVec 8, IntKind.u8.wrap (v.toNat : Int) = (v.toNat : Int) := by
    intro v; have := v.isLt; simp only [IntKind.wrap_u8]; omega
  cases op <;> exact hr _

theorem bits_range (op : BinOp) (a b : Int) : 0 ≤ bits op .u8 a b ∧ bits op .u8 a b ≤ 255 := by
  simp only [bits, IntKind.wrap_u8]; omega


theorem bit_mod (i : Nat) (hi : i < 8) (a : Int) : bit i (a % 256) = bit i a := by
  unfold bit
  congr 1
  have h : i = 0 ∨ i = 1 ∨ i = 2 ∨ i = 3 ∨ i = 4 ∨ i = 5 ∨ i = 6 ∨ i = 7 := by omega
  rcases h with rfl | rfl | rfl | rfl | rfl | rfl | rfl | rfl <;> simp only [Int.reducePow] <;> (apply propext; omega)

theorem bits_mod (op : BinOp) (a b : Int) : bits op .u8 (a % 256) (b % 256) = bits op .u8 a b := by
  have h : ∀ a : Int, BitVec.ofInt 8 (a % 256) = BitVec.ofInt 8 a := by
    intro a; apply BitVec.eq_of_toNat_eq; simp
  simp only [bits, IntKind.bits, h]

theorem byte_nat (a : Int) : ∃ n : Nat, n < 256 ∧ a % 256 = (n : Int) := ⟨(a % 256).toNat, by omega, by omega⟩

section
variable (i : Nat) (hi : i < 8) (a b : Int)
include hi
theorem bit_and : bit i (bits .and .u8 a b) = (bit i a && bit i b) := by
  rw [← bits_mod, ← bit_mod i hi a, ← bit_mod i hi b]
  obtain ⟨a, ha, ea⟩ := byte_nat a; obtain ⟨b, hb, eb⟩ := byte_nat b
  rw [ea, eb, bits_nat]
  simp only [bit_nat, BitVec.toNat_and, BitVec.toNat_ofNat, Nat.testBit_and]
  rw [Nat.mod_eq_of_lt (by omega), Nat.mod_eq_of_lt (by omega)]
theorem bit_or : bit i (bits .or .u8 a b) = (bit i a || bit i b) := by
  rw [← bits_mod, ← bit_mod i hi a, ← bit_mod i hi b]
  obtain ⟨a, ha, ea⟩ := byte_nat a; obtain ⟨b, hb, eb⟩ := byte_nat b
  rw [ea, eb, bits_nat]
  simp only [bit_nat, BitVec.toNat_or, BitVec.toNat_ofNat, Nat.testBit_or]
  rw [Nat.mod_eq_of_lt (by omega), Nat.mod_eq_of_lt (by omega)]
theorem bit_xor : bit i (bits .xor .u8 a b) = (bit i a ^^ bit i b) := by
  rw [← bits_mod, ← bit_mod i hi a, ← bit_mod i hi b]
  obtain ⟨a, ha, ea⟩ := byte_nat a; obtain ⟨b, hb, eb⟩ := byte_nat b
  rw [ea, eb, bits_nat]
  simp only [bit_nat, BitVec.toNat_xor, BitVec.toNat_ofNat, Nat.testBit_xor]
  rw [Nat.mod_eq_of_lt (by omega), Nat.mod_eq_of_lt (by omega)]
theorem bit_andNot : bit i (bits .andNot .u8 a b) = (bit i a && !bit i b) := by
  rw [← bits_mod, ← bit_mod i hi a, ← bit_mod i hi b]
  obtain ⟨a, ha, ea⟩ := byte_nat a; obtain ⟨b, hb, eb⟩ := byte_nat b
  rw [ea, eb, bits_nat]
  simp only [bit_nat, BitVec.toNat_and, BitVec.toNat_not, BitVec.toNat_ofNat, Nat.testBit_and]
  rw [Nat.mod_eq_of_lt (by omega), Nat.mod_eq_of_lt (by omega)]
  congr 1
  have := Nat.testBit_two_pow_sub_succ (x := b) (n := 8) (by omega) i
  rw [show 2 ^ 8 - 1 - b = 2 ^ 8 - (b + 1) by omega, this]
  simp [hi]
end

/-- A byte with a bit set, or not. -/
def wth (b n : Int) (on : Bool) : Int := bif (decide (0 ≤ n) && decide (n < 8)) then (bif on then bits .or .u8 b (2 ^ n.toNat % 256) else bits .andNot .u8 b (2 ^ n.toNat % 256)) else b
def isb (b n : Int) : Bool := decide (0 ≤ n) && decide (n < 8) && bit n.toNat b
theorem bit_one (i n : Nat) (hn : n < 8) : bit i (2 ^ n % 256) = decide (i = n) := by
  have h : ((2 : Int) ^ n % 256) = ((2 ^ n : Nat) : Int) := by
    have h : n = 0 ∨ n = 1 ∨ n = 2 ∨ n = 3 ∨ n = 4 ∨ n = 5 ∨ n = 6 ∨ n = 7 := by omega
    rcases h with rfl | rfl | rfl | rfl | rfl | rfl | rfl | rfl <;> rfl
  rw [h, bit_nat, Nat.testBit_two_pow]
  simp [eq_comm]
theorem bit_wth (i : Nat) (hi : i < 8) (b : Int) (n : Nat) (hn : n < 8) (on : Bool) : bit i (wth b n on) = bif i == n then on else bit i b := by
  have h : (decide ((0 : Int) ≤ n) && decide ((n : Int) < 8)) = true := by simp; omega
  unfold wth
  rw [h]
  cases on <;> simp only [cond_true, cond_false, Int.toNat_natCast, bit_or i hi, bit_andNot i hi, bit_one i n hn] <;> by_cases e : i = n <;> simp [e]
theorem wth_range (b n : Int) (on : Bool) (h0 : 0 ≤ b) (h1 : b ≤ 255) : 0 ≤ wth b n on ∧ wth b n on ≤ 255 := by
  unfold wth
  cases (decide (0 ≤ n) && decide (n < 8)) <;> cases on <;> simp only [cond_true, cond_false] <;> first | exact ⟨h0, h1⟩ | exact bits_range _ _ _
/-- Eight bits set one behind the other. -/
theorem make_mk (s z y h x p n c : Bool) : wth (wth (wth (wth (wth (wth (wth (wth 0 7 s) 6 z) 5 y) 4 h) 3 x) 2 p) 1 n) 0 c = mk s z y h x p n c := by
  revert s z y h x p n c; decide +kernel
theorem ret_int {k : IntKind} {a b : Int} (h : a = b) : Ending.returned (.int k a) = .returned (.int k b) := by rw [h]
theorem ret_bool {a b : Bool} (h : a = b) : Ending.returned (.bool a) = .returned (.bool b) := by rw [h]
theorem band1 (x : Int) : bits .and .u8 x 1 = x % 2 := by
  have h := bits_range .and x 1
  have e : bit 0 (bits .and .u8 x 1) = bit 0 x := by rw [bit_and 0 (by decide)]; simp [show bit 0 1 = true from rfl]
  have f : ∀ i, 0 < i → i < 8 → bit i (bits .and .u8 x 1) = false := fun i h0 hi => by
    rw [bit_and i hi]
    have : i = 1 ∨ i = 2 ∨ i = 3 ∨ i = 4 ∨ i = 5 ∨ i = 6 ∨ i = 7 := by omega
    rcases this with rfl | rfl | rfl | rfl | rfl | rfl | rfl <;> simp [bit]
  rw [← mk_bit _ h.1 h.2, f 7 (by decide) (by decide), f 6 (by decide) (by decide), f 5 (by decide) (by decide), f 4 (by decide) (by decide), f 3 (by decide) (by decide),
    f 2 (by decide) (by decide), f 1 (by decide) (by decide), e]
  unfold bit mk bw
  by_cases hx : x % 2 = 1
  · simp [hx]
  · simp [hx]; omega
theorem isb_of (b n : Int) (h0 : 0 ≤ n) (h1 : n < 8) : isb b n = (b / 2 ^ n.toNat % 2 == 1) := by
  simp [isb, h0, h1, bit, BEq.beq]
/-- S, Z, Y and X of a result. -/
def res (r : Int) : Int := mk (bit 7 r) (decide (r = 0)) (bit 5 r) false (bit 3 r) false false false
theorem wth_eq (n : Nat) (hn : n < 8) (on : Bool) (b : Int) (h0 : 0 ≤ b) (h1 : b ≤ 255) : wth b n on = (b + (bif isb b n then (bif on then 0 else - 2 ^ n) else (bif on then 2 ^ n else 0))) % 256 :=
  byte_all (fun b => wth b n on = (b + (bif isb b n then (bif on then 0 else - 2 ^ n) else (bif on then 2 ^ n else 0))) % 256)
    ((by decide +kernel : ∀ (n : Fin 8) (on : Bool) (b : Fin 256), wth (b.val : Int) (n.val : Int) on = ((b.val : Int) + (bif isb (b.val : Int) (n.val : Int) then (bif on then 0 else - 2 ^ n.val) else (bif on then 2 ^ n.val else 0))) % 256) ⟨n, hn⟩ on) b h0 h1
/-- How many of the first k bits are set. -/
def cnt (b : Int) : Nat → Int
  | 0 => 0
  | k + 1 => cnt b k + bw (isb b k) 1
theorem cnt_range (b : Int) (k : Nat) : 0 ≤ cnt b k ∧ cnt b k ≤ k := by
  induction k with
  | zero => exact ⟨Int.le_refl _, Int.le_refl _⟩
  | succ k ih => unfold cnt; cases isb b k <;> simp only [bw, cond_true, cond_false] <;> omega
def evb (b : Int) : Bool := decide (cnt b 8 % 2 = 0)
/-- S, Z, Y and X of a result, and P. -/
def evf (r : Int) : Int := mk (bit 7 r) (decide (r = 0)) (bit 5 r) false (bit 3 r) (evb r) false false
def tst (f cond : Int) : Bool := if cond = 0 then !bit 6 f else if cond = 1 then bit 6 f else if cond = 2 then !bit 0 f else if cond = 3 then bit 0 f else if cond = 4 then !bit 2 f else if cond = 5 then bit 2 f
  else if cond = 6 then !bit 7 f else if cond = 7 then bit 7 f else false
def kp (f old mask : Int) : Int := bits .or .u8 (bits .andNot .u8 f mask) (bits .and .u8 old mask)
theorem bit_kp (i : Nat) (hi : i < 8) (f old mask : Int) : bit i (kp f old mask) = bif bit i mask then bit i old else bit i f := by
  unfold kp; rw [bit_or i hi, bit_andNot i hi, bit_and i hi]; cases bit i mask <;> simp
theorem kp_range (f old mask : Int) : 0 ≤ kp f old mask ∧ kp f old mask ≤ 255 := bits_range _ _ _
theorem kp_mk (f old mask : Int) : kp f old mask = mk (bif bit 7 mask then bit 7 old else bit 7 f) (bif bit 6 mask then bit 6 old else bit 6 f) (bif bit 5 mask then bit 5 old else bit 5 f)
    (bif bit 4 mask then bit 4 old else bit 4 f) (bif bit 3 mask then bit 3 old else bit 3 f) (bif bit 2 mask then bit 2 old else bit 2 f) (bif bit 1 mask then bit 1 old else bit 1 f) (bif bit 0 mask then bit 0 old else bit 0 f) := by
  rw [← mk_bit _ (kp_range f old mask).1 (kp_range f old mask).2]
  simp only [bit_kp 7 (by decide), bit_kp 6 (by decide), bit_kp 5 (by decide), bit_kp 4 (by decide), bit_kp 3 (by decide), bit_kp 2 (by decide), bit_kp 1 (by decide), bit_kp 0 (by decide)]
def sgn (b : Int) : Int := bif decide (b < 128) then b else b - 256
def farb (n : Int) : Bool := decide (n < -128) || decide (127 < n)
def addR (a b : Int) (c : Bool) : Int := (a + b + bw c 1) % 256
def addF (a b : Int) (c : Bool) : Int := mk (bit 7 (addR a b c)) (decide (addR a b c = 0)) (bit 5 (addR a b c)) (decide (15 < a % 16 + b % 16 + bw c 1)) (bit 3 (addR a b c)) (farb (sgn a + sgn b + bw c 1)) false (decide (255 < a + b + bw c 1))
def subR (a b : Int) (c : Bool) : Int := (a - b - bw c 1) % 256
def subF (a b : Int) (c : Bool) : Int := mk (bit 7 (subR a b c)) (decide (subR a b c = 0)) (bit 5 (subR a b c)) (decide (a % 16 - b % 16 - bw c 1 < 0)) (bit 3 (subR a b c)) (farb (sgn a - sgn b - bw c 1)) true (decide (a - b - bw c 1 < 0))
def cmpF (a b : Int) : Int := kp (subF a b false) b 40
theorem addR_range (a b : Int) (c : Bool) : 0 ≤ addR a b c ∧ addR a b c ≤ 255 := by unfold addR; omega
theorem subR_range (a b : Int) (c : Bool) : 0 ≤ subR a b c ∧ subR a b c ≤ 255 := by unfold subR; omega
theorem addF_range (a b : Int) (c : Bool) : 0 ≤ addF a b c ∧ addF a b c ≤ 255 := mk_range _ _ _ _ _ _ _ _
theorem subF_range (a b : Int) (c : Bool) : 0 ≤ subF a b c ∧ subF a b c ≤ 255 := mk_range _ _ _ _ _ _ _ _
theorem res_range (r : Int) : 0 ≤ res r ∧ res r ≤ 255 := mk_range _ _ _ _ _ _ _ _
theorem evf_range (r : Int) : 0 ≤ evf r ∧ evf r ≤ 255 := mk_range _ _ _ _ _ _ _ _
theorem cmpF_range (a b : Int) : 0 ≤ cmpF a b ∧ cmpF a b ≤ 255 := kp_range _ _ _
theorem bw_range (c : Bool) : 0 ≤ bw c 1 ∧ bw c 1 ≤ 1 := by cases c <;> decide
theorem res_eq (r : Int) (h : ¬ r = 0) : bits .and .u8 r 168 = res r := by
  have k := bits_range .and r 168
  have m := res_range r
  refine byte_ext k.1 k.2 m.1 m.2 ?_ ?_ ?_ ?_ ?_ ?_ ?_ ?_ <;> simp only [res, bit7_mk, bit6_mk, bit5_mk, bit4_mk, bit3_mk, bit2_mk, bit1_mk, bit0_mk, bit_and _ (show 7 < 8 by decide), bit_and _ (show 6 < 8 by decide), bit_and _ (show 5 < 8 by decide), bit_and _ (show 4 < 8 by decide), bit_and _ (show 3 < 8 by decide), bit_and _ (show 2 < 8 by decide), bit_and _ (show 1 < 8 by decide), bit_and _ (show 0 < 8 by decide), h] <;> simp [show bit 7 168 = true from rfl, show bit 6 168 = false from rfl, show bit 5 168 = true from rfl, show bit 4 168 = false from rfl, show bit 3 168 = true from rfl, show bit 2 168 = false from rfl, show bit 1 168 = false from rfl, show bit 0 168 = false from rfl]
theorem bit_two (j i : Nat) : bit j (2 ^ i) = decide (j = i) := by
  have h : ((2 : Int) ^ i) = ((2 ^ i : Nat) : Int) := by push_cast; rfl
  rw [h, bit_nat, Nat.testBit_two_pow]
  simp [eq_comm]
theorem band_pow (i : Nat) (hi : i < 8) (f : Int) : bits .and .u8 f (2 ^ i) = bw (bit i f) (2 ^ i) := by
  have k := bits_range .and f (2 ^ i)
  have h := hi
  have m : (0 : Int) ≤ bw (bit i f) (2 ^ i) ∧ bw (bit i f) (2 ^ i) ≤ 255 := by
    have h : i = 0 ∨ i = 1 ∨ i = 2 ∨ i = 3 ∨ i = 4 ∨ i = 5 ∨ i = 6 ∨ i = 7 := by omega
    rcases h with rfl | rfl | rfl | rfl | rfl | rfl | rfl | rfl <;> cases bit _ f <;> decide
  have e : ∀ j, j < 8 → bit j (bits .and .u8 f (2 ^ i)) = bit j (bw (bit i f) (2 ^ i)) := fun j hj => by
    rw [bit_and j hj, bit_two j i]
    by_cases ji : j = i
    · subst ji
      cases hb : bit j f
      · simp [bw, bit]
      · simp [bw, bit_two j j]
    · cases hb : bit i f
      · simp [bw, bit, ji]
      · simp [bw, bit_two j i, ji]
  exact byte_ext k.1 k.2 m.1 m.2 (e 7 (by decide)) (e 6 (by decide)) (e 5 (by decide)) (e 4 (by decide)) (e 3 (by decide)) (e 2 (by decide)) (e 1 (by decide)) (e 0 (by decide))
theorem band_ne (i : Nat) (hi : i < 8) (f : Int) : (bits .and .u8 f (2 ^ i) != 0) = bit i f := by
  rw [band_pow i hi]
  have h : i = 0 ∨ i = 1 ∨ i = 2 ∨ i = 3 ∨ i = 4 ∨ i = 5 ∨ i = 6 ∨ i = 7 := by omega
  rcases h with rfl | rfl | rfl | rfl | rfl | rfl | rfl | rfl <;> cases bit _ f <;> decide
theorem ne1 (f : Int) : (bits .and .u8 f 1 != 0) = bit 0 f := band_ne 0 (by decide) f
theorem ne2 (f : Int) : (bits .and .u8 f 2 != 0) = bit 1 f := band_ne 1 (by decide) f
theorem ne4 (f : Int) : (bits .and .u8 f 4 != 0) = bit 2 f := band_ne 2 (by decide) f
theorem ne8 (f : Int) : (bits .and .u8 f 8 != 0) = bit 3 f := band_ne 3 (by decide) f
theorem ne16 (f : Int) : (bits .and .u8 f 16 != 0) = bit 4 f := band_ne 4 (by decide) f
theorem ne32 (f : Int) : (bits .and .u8 f 32 != 0) = bit 5 f := band_ne 5 (by decide) f
theorem ne64 (f : Int) : (bits .and .u8 f 64 != 0) = bit 6 f := band_ne 6 (by decide) f
theorem ne128 (f : Int) : (bits .and .u8 f 128 != 0) = bit 7 f := band_ne 7 (by decide) f
theorem bit_0 (j : Nat) : bit j 0 = false := by simp [bit]
theorem bit_1 (j : Nat) : bit j 1 = decide (j = 0) := bit_two j 0
theorem bit_2 (j : Nat) : bit j 2 = decide (j = 1) := bit_two j 1
theorem bit_4 (j : Nat) : bit j 4 = decide (j = 2) := bit_two j 2
theorem bit_8 (j : Nat) : bit j 8 = decide (j = 3) := bit_two j 3
theorem bit_16 (j : Nat) : bit j 16 = decide (j = 4) := bit_two j 4
theorem bit_32 (j : Nat) : bit j 32 = decide (j = 5) := bit_two j 5
theorem bit_64 (j : Nat) : bit j 64 = decide (j = 6) := bit_two j 6
theorem bit_128 (j : Nat) : bit j 128 = decide (j = 7) := bit_two j 7
theorem bit_bw (j : Nat) (b : Bool) (k : Int) : bit j (bw b k) = (b && bit j k) := by cases b <;> simp [bw, bit_0]
theorem sgn_range (b : Int) (h0 : 0 ≤ b) (h1 : b ≤ 255) : -128 ≤ sgn b ∧ sgn b ≤ 127 := by unfold sgn; by_cases h : b < 128 <;> simp [h] <;> omega
theorem bit7_ge (b : Int) (h0 : 0 ≤ b) (h1 : b ≤ 255) : bit 7 b = decide (128 ≤ b) := by unfold bit; congr 1; apply propext; simp only [Int.reducePow]; omega
theorem add_eq (a b : Int) (c : Bool) (a0 : 0 ≤ a) (a1 : a ≤ 255) (b0 : 0 ≤ b) (b1 : b ≤ 255) :
    bits .or .u8 (bits .or .u8 (bits .or .u8 (bits .or .u8 0 (res ((a + b + bw c 1) % 256))) (bits .and .u8 (bits .xor .u8 (bits .xor .u8 a b) ((a + b + bw c 1) % 256)) 16))
      (bw (bits .and .u8 (bits .and .u8 (bits .xor .u8 a ((a + b + bw c 1) % 256)) (bits .xor .u8 b ((a + b + bw c 1) % 256))) 128 != 0) 4)) (bw (decide (255 < a + b + bw c 1)) 1) = addF a b c := by
  have m := addF_range a b c
  have q := bw_range c
  have k := bits_range .or (bits .or .u8 (bits .or .u8 (bits .or .u8 0 (res ((a + b + bw c 1) % 256))) (bits .and .u8 (bits .xor .u8 (bits .xor .u8 a b) ((a + b + bw c 1) % 256)) 16))
      (bw (bits .and .u8 (bits .and .u8 (bits .xor .u8 a ((a + b + bw c 1) % 256)) (bits .xor .u8 b ((a + b + bw c 1) % 256))) 128 != 0) 4)) (bw (decide (255 < a + b + bw c 1)) 1)
  refine byte_ext k.1 k.2 m.1 m.2 ?_ ?_ ?_ ?_ ?_ ?_ ?_ ?_ <;> simp (disch := decide) only [ne128, bit_or, bit_and, bit_xor, bit_bw, bit_0, bit_1, bit_4, bit_16, res, addF, addR, bit7_mk, bit6_mk, bit5_mk, bit4_mk, bit3_mk, bit2_mk, bit1_mk, bit0_mk] <;> simp
  all_goals first
    | rfl
    | (unfold bit; simp only [Int.reducePow]; by_cases h1 : a / 16 % 2 = 1 <;> by_cases h2 : b / 16 % 2 = 1 <;> by_cases h3 : (a + b + bw c 1) % 256 / 16 % 2 = 1 <;> simp [h1, h2, h3] <;> omega)
    | (rw [bit7_ge a a0 a1, bit7_ge b b0 b1, bit7_ge _ (by omega) (by omega)]; unfold farb sgn; by_cases h1 : a < 128 <;> by_cases h2 : b < 128 <;> by_cases h3 : 128 ≤ (a + b + bw c 1) % 256 <;> simp [h1, h2, h3, show (128 ≤ a) ↔ ¬ a < 128 by omega, show (128 ≤ b) ↔ ¬ b < 128 by omega] <;> omega)
    | omega
theorem sub_eq (a b : Int) (c : Bool) (a0 : 0 ≤ a) (a1 : a ≤ 255) (b0 : 0 ≤ b) (b1 : b ≤ 255) :
    bits .or .u8 (bits .or .u8 (bits .or .u8 (bits .or .u8 (bits .or .u8 0 (res ((a - b - bw c 1) % 65536 % 256))) (bits .and .u8 (bits .xor .u8 (bits .xor .u8 a b) ((a - b - bw c 1) % 65536 % 256)) 16))
      (bw (bits .and .u8 (bits .and .u8 (bits .xor .u8 a b) (bits .xor .u8 a ((a - b - bw c 1) % 65536 % 256))) 128 != 0) 4)) 2) (bw (decide (255 < (a - b - bw c 1) % 65536)) 1) = subF a b c := by
  have m := subF_range a b c
  have q := bw_range c
  have e : (a - b - bw c 1) % 65536 % 256 = (a - b - bw c 1) % 256 := by omega
  rw [e]
  have k := bits_range .or (bits .or .u8 (bits .or .u8 (bits .or .u8 (bits .or .u8 0 (res ((a - b - bw c 1) % 256))) (bits .and .u8 (bits .xor .u8 (bits .xor .u8 a b) ((a - b - bw c 1) % 256)) 16))
      (bw (bits .and .u8 (bits .and .u8 (bits .xor .u8 a b) (bits .xor .u8 a ((a - b - bw c 1) % 256))) 128 != 0) 4)) 2) (bw (decide (255 < (a - b - bw c 1) % 65536)) 1)
  refine byte_ext k.1 k.2 m.1 m.2 ?_ ?_ ?_ ?_ ?_ ?_ ?_ ?_ <;> simp (disch := decide) only [ne128, bit_or, bit_and, bit_xor, bit_bw, bit_0, bit_1, bit_2, bit_4, bit_16, res, subF, subR, bit7_mk, bit6_mk, bit5_mk, bit4_mk, bit3_mk, bit2_mk, bit1_mk, bit0_mk] <;> simp
  all_goals first
    | rfl
    | (unfold bit; simp only [Int.reducePow]; by_cases h1 : a / 16 % 2 = 1 <;> by_cases h2 : b / 16 % 2 = 1 <;> by_cases h3 : (a - b - bw c 1) % 256 / 16 % 2 = 1 <;> simp [h1, h2, h3] <;> omega)
    | (rw [bit7_ge a a0 a1, bit7_ge b b0 b1, bit7_ge _ (by omega) (by omega)]; unfold farb sgn; by_cases h1 : a < 128 <;> by_cases h2 : b < 128 <;> by_cases h3 : 128 ≤ (a - b - bw c 1) % 256 <;> simp [h1, h2, h3, show (128 ≤ a) ↔ ¬ a < 128 by omega, show (128 ≤ b) ↔ ¬ b < 128 by omega] <;> omega)
    | omega
theorem cmp_bits (a b : Int) (a0 : 0 ≤ a) (a1 : a ≤ 255) (b0 : 0 ≤ b) (b1 : b ≤ 255) :
    bit 6 (cmpF a b) = decide (a = b) ∧ bit 0 (cmpF a b) = decide (a < b) ∧ bit 7 (cmpF a b) = decide (128 ≤ subR a b false) ∧ bit 2 (cmpF a b) = farb (sgn a - sgn b) ∧ bit 1 (cmpF a b) = true := by
  have r := subR_range a b false
  unfold cmpF
  have e40 : ∀ j, j < 8 → bit j 40 = (decide (j = 5) || decide (j = 3)) := by decide
  simp (disch := decide) only [bit_kp, e40, subF, bit7_mk, bit6_mk, bit2_mk, bit1_mk, bit0_mk]
  refine ⟨?_, ?_, ?_, ?_, ?_⟩
  · simp only [subR, bw, cond_false]; by_cases h : a = b <;> simp [h] <;> omega
  · simp only [bw, cond_false]; by_cases h : a < b <;> simp [h] <;> omega
  · rw [bit7_ge _ r.1 r.2]; simp
  · simp [bw]
  · simp
theorem lower_signed (a b : Int) (a0 : 0 ≤ a) (a1 : a ≤ 255) (b0 : 0 ≤ b) (b1 : b ≤ 255) : (bit 7 (cmpF a b) == bit 2 (cmpF a b)) = !decide (sgn a < sgn b) := by
  have h := cmp_bits a b a0 a1 b0 b1
  rw [h.2.2.1, h.2.2.2.1]
  unfold farb sgn subR
  simp only [bw, cond_false, Int.sub_zero]
  by_cases h1 : a < 128 <;> by_cases h2 : b < 128 <;> by_cases h3 : 128 ≤ (a - b) % 256 <;> simp only [h1, h2, h3, decide_true, decide_false, cond_true, cond_false] <;> rw [Bool.eq_iff_iff] <;> simp <;> omega
theorem sgn_wrap (a : Int) (a0 : 0 ≤ a) (a1 : a ≤ 255) : IntKind.i8.wrap a = sgn a := by
  unfold sgn
  by_cases h : a < 128
  · simp only [h, decide_true, cond_true, IntKind.wrap, IntKind.bits, IntKind.signed]; simp; omega
  · simp only [h, decide_false, cond_false, IntKind.wrap, IntKind.bits, IntKind.signed]; simp; omega
section
variable (f : Int)
theorem tst_0 : tst f 0 = !bit 6 f := rfl
theorem tst_1 : tst f 1 = bit 6 f := rfl
theorem tst_2 : tst f 2 = !bit 0 f := rfl
theorem tst_3 : tst f 3 = bit 0 f := rfl
theorem tst_4 : tst f 4 = !bit 2 f := rfl
theorem tst_5 : tst f 5 = bit 2 f := rfl
theorem tst_6 : tst f 6 = !bit 7 f := rfl
theorem tst_7 : tst f 7 = bit 7 f := rfl
end
/-- The bits that are set, below k. -/
def setl (b : Int) : Nat → List Int
  | 0 => []
  | k + 1 => setl b k ++ bif isb b k then [(k : Int)] else []
theorem setl_len (b : Int) (k : Nat) : (setl b k).length ≤ k := by
  induction k with
  | zero => simp [setl]
  | succ k ih => simp only [setl, List.length_append]; cases isb b k <;> simp <;> omega
theorem setl_cnt (b : Int) (k : Nat) : ((setl b k).length : Int) = cnt b k := by
  induction k with
  | zero => simp [setl, cnt]
  | succ k ih => simp only [setl, cnt, List.length_append]; cases isb b k <;> simp [bw, ih]
theorem setl_pre (b : Int) (k m : Nat) (h : k ≤ m) : setl b k <+: setl b m := by
  induction m with
  | zero => obtain rfl : k = 0 := by omega
            exact List.prefix_refl _
  | succ m ih =>
    by_cases e : k = m + 1
    · subst e; exact List.prefix_refl _
    · exact (ih (by omega)).trans (List.prefix_append _ _)
theorem setl_yes (b : Int) (k : Nat) (h : isb b k = true) : setl b k ++ [(k : Int)] = setl b (k + 1) := by simp [setl, h]
theorem setl_no (b : Int) (k : Nat) (h : isb b k = false) : setl b k = setl b (k + 1) := by simp [setl, h]
def par (l : List Int) : Bool := decide (l.length % 2 = 0)
theorem par_snoc (l : List Int) (x : Int) : par (l ++ [x]) = !par l := by
  unfold par
  simp only [List.length_append, List.length_cons, List.length_nil]
  by_cases h : l.length % 2 = 0 <;> simp [h] <;> omega
theorem par_setl (b : Int) : par (setl b 8) = evb b := by
  unfold par evb
  rw [← setl_cnt]
  congr 1
  apply propext; omega
theorem evf_no (r : Int) (h : evb r = false) : res r = evf r := by unfold res evf; rw [h]
theorem evf_yes (r : Int) (h : evb r = true) : bits .or .u8 (res r) 4 = evf r := by
  have k := bits_range .or (res r) 4
  have m := evf_range r
  refine byte_ext k.1 k.2 m.1 m.2 ?_ ?_ ?_ ?_ ?_ ?_ ?_ ?_ <;> simp (disch := decide) only [bit_or, bit_4, res, evf, h, bit7_mk, bit6_mk, bit5_mk, bit4_mk, bit3_mk, bit2_mk, bit1_mk, bit0_mk] <;> simp
end Go.Proofs.YtnaampdpkegacaaGreatDoor

namespace Go.Proofs.YtnaampdpkegacaaGreatDoor
open Go.RowKit

theorem may_ (n : Int) (w : World) : Calls Tryz.prog 144 #[.int .i64 n] w fun e w' => e = .returned (.bool (decide (0 ≤ n) && decide (n < 8))) ∧ w = w' := by
  by_cases h0 : 0 ≤ n
  · go_enter Tryz.func144, Tryz.ntmps144
    go_wp2
    go_ret
    exact ⟨by simp [h0], rfl⟩
  · go_enter Tryz.func144, Tryz.ntmps144
    go_wp2
    go_ret
    exact ⟨by simp [show ¬ 0 ≤ n by omega], rfl⟩

theorem is_ (b n : Int) (w : World) : Calls Tryz.prog 143 #[.int .u8 b, .int .i64 n] w fun e w' => e = .returned (.bool (isb b n)) ∧ w = w' := by
  by_cases h0 : 0 ≤ n
  · by_cases h1 : n < 8
    · have h2 : n ≤ 8 := by omega
      go_enter Tryz.func143, Tryz.ntmps143
      go_wp2
      go_ret
      refine ⟨ret_bool ?_, rfl⟩
      rw [isb_of b n h0 h1, ← band1]
    · go_enter Tryz.func143, Tryz.ntmps143
      go_wp2
      go_ret
      exact ⟨by simp [isb, show ¬ n < 8 by omega], rfl⟩
  · go_enter Tryz.func143, Tryz.ntmps143
    go_wp2
    go_ret
    exact ⟨by simp [isb, show ¬ 0 ≤ n by omega], rfl⟩

theorem with_ (b n : Int) (on : Bool) (w : World) : Calls Tryz.prog 71 #[.int .u8 b, .int .i64 n, .bool on] w fun e w' => e = .returned (.int .u8 (wth b n on)) ∧ w = w' := by
  by_cases h0 : 0 ≤ n
  · by_cases h1 : n < 8
    · have h2 : n ≤ 8 := by omega
      cases on
      all_goals
        go_enter Tryz.func71, Tryz.ntmps71
        go_wp2
        go_ret
        refine ⟨?_, rfl⟩
        simp [wth, show 0 ≤ n by omega, show n < 8 by omega]
    · go_enter Tryz.func71, Tryz.ntmps71
      go_wp2
      go_ret
      exact ⟨by simp [wth, show ¬ n < 8 by omega], rfl⟩
  · go_enter Tryz.func71, Tryz.ntmps71
    go_wp2
    go_ret
    exact ⟨by simp [wth, show ¬ 0 ≤ n by omega], rfl⟩

theorem power_ (n : Nat) (hn : n < 8) (w : World) : Calls Tryz.prog 182 #[.int .i64 n] w fun e w' => e = .returned (.int .i64 (2 ^ n)) ∧ w = w' := by
  have h : n = 0 ∨ n = 1 ∨ n = 2 ∨ n = 3 ∨ n = 4 ∨ n = 5 ∨ n = 6 ∨ n = 7 := by omega
  rcases h with rfl | rfl | rfl | rfl | rfl | rfl | rfl | rfl
  all_goals
    clear hn
    go_enter Tryz.func182, Tryz.ntmps182
    go_wp2
    refine wp_loop_rounds 9 ?_
    repeat any_goals (rw [rounds_succ]; go_wp2)
    go_ret
    exact ⟨rfl, rfl⟩
theorem r01is_ (b n : Int) (h0 : 0 ≤ b) (h1 : b ≤ 255) (w : World) : Calls Tryz.prog 181 #[.int .u8 b, .int .i64 n] w fun e w' => e = .returned (.bool (isb b n)) ∧ w = w' := by
  by_cases hn : 0 ≤ n ∧ n < 8
  · obtain ⟨n, rfl⟩ := Int.eq_ofNat_of_zero_le hn.1
    have h : n = 0 ∨ n = 1 ∨ n = 2 ∨ n = 3 ∨ n = 4 ∨ n = 5 ∨ n = 6 ∨ n = 7 := by omega
    rcases h with rfl | rfl | rfl | rfl | rfl | rfl | rfl | rfl
    all_goals
      clear hn
      go_enter Tryz.func181, Tryz.ntmps181
      go_wp2_with (go_at_call 182; refine (power_ _ (by decide) _).mono ?_; rintro e w' ⟨rfl, rfl⟩)
      go_ret
      exact ⟨ret_bool (by rw [isb_of _ _ (by omega) (by omega)]; simp), rfl⟩
  · by_cases hn0 : n < 0
    · go_enter Tryz.func181, Tryz.ntmps181
      go_wp2
      go_ret
      exact ⟨by simp [isb, show ¬ 0 ≤ n by omega], rfl⟩
    · have hn1 : 7 < n := by omega
      go_enter Tryz.func181, Tryz.ntmps181
      go_wp2
      go_ret
      exact ⟨by simp [isb, show ¬ n < 8 by omega], rfl⟩

section
variable (a b c d e f g h : Value) (w : World)
@[go_sem] theorem idx8_0 : (Instr.index 125 (.agg #[a, b, c, d, e, f, g, h]) (.int .i64 0)).run Tryz.prog w = .ok a w := by kernel_rfl
@[go_sem] theorem idx8_1 : (Instr.index 125 (.agg #[a, b, c, d, e, f, g, h]) (.int .i64 1)).run Tryz.prog w = .ok b w := by kernel_rfl
@[go_sem] theorem idx8_2 : (Instr.index 125 (.agg #[a, b, c, d, e, f, g, h]) (.int .i64 2)).run Tryz.prog w = .ok c w := by kernel_rfl
@[go_sem] theorem idx8_3 : (Instr.index 125 (.agg #[a, b, c, d, e, f, g, h]) (.int .i64 3)).run Tryz.prog w = .ok d w := by kernel_rfl
@[go_sem] theorem idx8_4 : (Instr.index 125 (.agg #[a, b, c, d, e, f, g, h]) (.int .i64 4)).run Tryz.prog w = .ok e w := by kernel_rfl
@[go_sem] theorem idx8_5 : (Instr.index 125 (.agg #[a, b, c, d, e, f, g, h]) (.int .i64 5)).run Tryz.prog w = .ok f w := by kernel_rfl
@[go_sem] theorem idx8_6 : (Instr.index 125 (.agg #[a, b, c, d, e, f, g, h]) (.int .i64 6)).run Tryz.prog w = .ok g w := by kernel_rfl
@[go_sem] theorem idx8_7 : (Instr.index 125 (.agg #[a, b, c, d, e, f, g, h]) (.int .i64 7)).run Tryz.prog w = .ok h w := by kernel_rfl
end
theorem bcell {W w1 : World} (hb : Below W.heap.size W w1) : (∀ b o, b < W.heap.size → w1.cell? ⟨b, o, none⟩ = W.cell? ⟨b, o, none⟩) ∧ (∀ b o, b < W.heap.size → w1.frozen? ⟨b, o, none⟩ = W.frozen? ⟨b, o, none⟩) :=
  ⟨fun b o h => hb.cell (p := ⟨b, o, none⟩) h, fun b o h => hb.frozen (p := ⟨b, o, none⟩) h⟩

/-- What lies below is kept, one call behind the other. -/
theorem bt {A B C : World} (h : Below A.heap.size A B) (k : Below B.heap.size B C) : Below A.heap.size A C := h.trans (k.mono h.size)

theorem r01with_ (b : Int) (h0 : 0 ≤ b) (h1 : b ≤ 255) (n : Int) (on : Bool) (w : World) : Calls Tryz.prog 98 #[.int .u8 b, .int .i64 n, .bool on] w fun e w' => e = .returned (.int .u8 (wth b n on)) ∧ w = w' := by
  by_cases hn : 0 ≤ n ∧ n < 8
  · obtain ⟨n, rfl⟩ := Int.eq_ofNat_of_zero_le hn.1
    have h : n = 0 ∨ n = 1 ∨ n = 2 ∨ n = 3 ∨ n = 4 ∨ n = 5 ∨ n = 6 ∨ n = 7 := by omega
    have hq := wth_eq n (by omega) on b h0 h1
    cases hi : isb b n
    all_goals
      cases on
      all_goals
        rcases h with rfl | rfl | rfl | rfl | rfl | rfl | rfl | rfl
        all_goals
          rw [hi] at hq
          have Hq : Hid _ := hq
          clear hq hn
          simp at hi
          go_enter Tryz.func98, Tryz.ntmps98
          go_wp2_with (first | (go_at_call 182; refine (power_ _ (by decide) _).mono ?_; rintro e w' ⟨rfl, rfl⟩) | (go_at_call 181; refine (r01is_ _ _ h0 h1 _).mono ?_; rintro e w' ⟨rfl, rfl⟩))
          go_ret
          refine ⟨ret_int ?_, rfl⟩
          refine Eq.trans ?_ Hq.out.symm
          simp
          try omega
  · by_cases hn0 : n < 0
    · go_enter Tryz.func98, Tryz.ntmps98
      go_wp2
      go_ret
      exact ⟨by simp [wth, show ¬ 0 ≤ n by omega], rfl⟩
    · have hn1 : 7 < n := by omega
      go_enter Tryz.func98, Tryz.ntmps98
      go_wp2
      go_ret
      exact ⟨by simp [wth, show ¬ n < 8 by omega], rfl⟩
end Go.Proofs.YtnaampdpkegacaaGreatDoor

namespace Go.Proofs.YtnaampdpkegacaaGreatDoor
open Go.RowKit

theorem r02make_ (s z y h x p n c : Bool) (w : World) : Calls Tryz.prog 185 #[.agg #[.bool s, .bool z, .bool y, .bool h, .bool x, .bool p, .bool n, .bool c]] w fun e w' => e = .returned (.int .u8 (mk s z y h x p n c)) ∧ Below w.heap.size w w' := by
  have q0 : (0 : Int) ≤ 0 ∧ (0 : Int) ≤ 255 := by decide
  have q1 := wth_range 0 7 s q0.1 q0.2
  have q2 := wth_range _ 6 z q1.1 q1.2
  have q3 := wth_range _ 5 y q2.1 q2.2
  have q4 := wth_range _ 4 h q3.1 q3.2
  have q5 := wth_range _ 3 x q4.1 q4.2
  have q6 := wth_range _ 2 p q5.1 q5.2
  have q7 := wth_range _ 1 n q6.1 q6.2
  go_enter Tryz.func185, Tryz.ntmps185
  go_wp2_with fail
  refine wp_loop_rounds 9 ?_
  repeat any_goals (rw [rounds_succ]; go_wp2_with (go_at_call 98; refine (r01with_ _ (by omega) (by omega) _ _ _).mono ?_; rintro e w' ⟨rfl, rfl⟩))
  go_ret
  exact ⟨ret_int (make_mk s z y h x p n c), by go_grown⟩
theorem r02of_ (f : Int) (h0 : 0 ≤ f) (h1 : f ≤ 255) (w : World) : Calls Tryz.prog 183 #[.int .u8 f] w fun e w' => e = .returned (.agg #[.bool (bit 7 f), .bool (bit 6 f), .bool (bit 5 f), .bool (bit 4 f), .bool (bit 3 f), .bool (bit 2 f), .bool (bit 1 f), .bool (bit 0 f)]) ∧ Below w.heap.size w w' := by
  go_enter Tryz.func183, Tryz.ntmps183
  go_wp2_with fail
  refine wp_loop_rounds 9 ?_
  repeat any_goals (rw [rounds_succ]; go_wp2_with (go_at_call 181; refine (r01is_ _ _ h0 h1 _).mono ?_; rintro e w' ⟨rfl, rfl⟩))
  go_returns
  exact ⟨rfl, by go_grown⟩
theorem result_ (r : Int) (w : World) : Calls Tryz.prog 216 #[.int .u8 r] w fun e w' => e = .returned (.int .u8 (res r)) ∧ w = w' := by
  by_cases h : r = 0
  · subst h
    go_enter Tryz.func216, Tryz.ntmps216
    go_wp2
    go_ret
    exact ⟨rfl, rfl⟩
  · have hb : (r == 0) = false := by simpa using h
    have he : Hid _ := res_eq r h
    clear h
    go_enter Tryz.func216, Tryz.ntmps216
    go_wp2
    go_ret
    exact ⟨ret_int he.out, rfl⟩
theorem keep_ (f old mask : Int) (w : World) : Calls Tryz.prog 154 #[.int .u8 f, .int .u8 old, .int .u8 mask] w fun e w' => e = .returned (.int .u8 (kp f old mask)) ∧ w = w' := by
  go_enter Tryz.func154, Tryz.ntmps154
  go_wp2
  go_ret
  exact ⟨rfl, rfl⟩
section
variable (a b c d : Value) (w : World)
@[go_sem] theorem idx4_0 : (Instr.index 150 (.agg #[a, b, c, d]) (.int .i64 0)).run Tryz.prog w = .ok a w := by kernel_rfl
@[go_sem] theorem idx4_1 : (Instr.index 150 (.agg #[a, b, c, d]) (.int .i64 1)).run Tryz.prog w = .ok b w := by kernel_rfl
@[go_sem] theorem idx4_2 : (Instr.index 150 (.agg #[a, b, c, d]) (.int .i64 2)).run Tryz.prog w = .ok c w := by kernel_rfl
@[go_sem] theorem idx4_3 : (Instr.index 150 (.agg #[a, b, c, d]) (.int .i64 3)).run Tryz.prog w = .ok d w := by kernel_rfl
end
theorem masks_ (w : World) : Calls Tryz.prog 242 #[] w fun e w' => e = .returned (.agg #[.int .u8 64, .int .u8 1, .int .u8 4, .int .u8 128]) ∧ Below w.heap.size w w' := by
  go_enter Tryz.func242, Tryz.ntmps242
  go_wp2
  go_returns
  exact ⟨rfl, by go_grown⟩
theorem ret2 {k l : IntKind} {a b c d : Int} (h : a = c) (g : b = d) : Ending.returned (.tuple #[.int k a, .int l b]) = .returned (.tuple #[.int k c, .int l d]) := by rw [h, g]
theorem test_ (f cond : Int) (w : World) : Calls Tryz.prog 168 #[.int .u8 f, .int .i64 cond] w fun e w' => e = .returned (.bool (tst f cond)) ∧ Below w.heap.size w w' := by
  have hB := Below.refl w.heap.size w
  by_cases h0 : cond < 0
  · go_enter Tryz.func168, Tryz.ntmps168
    go_wp2
    go_ret
    exact ⟨ret_bool (by simp [tst, show ¬ cond = 0 by omega, show ¬ cond = 1 by omega, show ¬ cond = 2 by omega, show ¬ cond = 3 by omega, show ¬ cond = 4 by omega, show ¬ cond = 5 by omega, show ¬ cond = 6 by omega, show ¬ cond = 7 by omega]), by go_grown⟩
  · by_cases h8 : 8 ≤ cond
    · go_enter Tryz.func168, Tryz.ntmps168
      go_wp2_with (go_at_call 242; refine (masks_ _).mono ?_; rintro e w1 ⟨rfl, hb⟩; replace hB := bt hB hb)
      go_ret
      exact ⟨ret_bool (by simp [tst, show ¬ cond = 0 by omega, show ¬ cond = 1 by omega, show ¬ cond = 2 by omega, show ¬ cond = 3 by omega, show ¬ cond = 4 by omega, show ¬ cond = 5 by omega, show ¬ cond = 6 by omega, show ¬ cond = 7 by omega]), hB⟩
    · have h : cond = 0 ∨ cond = 1 ∨ cond = 2 ∨ cond = 3 ∨ cond = 4 ∨ cond = 5 ∨ cond = 6 ∨ cond = 7 := by omega
      clear h0 h8
      rcases h with rfl | rfl | rfl | rfl | rfl | rfl | rfl | rfl
      all_goals
        go_enter Tryz.func168, Tryz.ntmps168
        go_wp2_with (go_at_call 242; refine (masks_ _).mono ?_; rintro e w1 ⟨rfl, hb⟩; replace hB := bt hB hb)
        go_ret
        exact ⟨ret_bool (by simp [tst, ne1, ne4, ne64, ne128]), hB⟩
theorem one16_ (b : Bool) (w : World) : Calls Tryz.prog 234 #[.bool b] w fun e w' => e = .returned (.int .u16 (bw b 1)) ∧ w = w' := by
  cases b
  all_goals
    go_enter Tryz.func234, Tryz.ntmps234
    go_wp2
    go_ret
    exact ⟨rfl, rfl⟩
theorem when_ (b : Bool) (f : Int) (h0 : 0 ≤ f) (h1 : f ≤ 255) (w : World) : Calls Tryz.prog 236 #[.bool b, .int .u8 f] w fun e w' => e = .returned (.int .u8 (bw b f)) ∧ w = w' := by
  cases b
  all_goals
    go_enter Tryz.func236, Tryz.ntmps236
    go_wp2
    go_ret
    exact ⟨rfl, rfl⟩
theorem add_ (a b : Int) (c : Bool) (a0 : 0 ≤ a) (a1 : a ≤ 255) (b0 : 0 ≤ b) (b1 : b ≤ 255) (w : World) : Calls Tryz.prog 152 #[.int .u8 a, .int .u8 b, .bool c] w fun e w' => e = .returned (.tuple #[.int .u8 (addR a b c), .int .u8 (addF a b c)]) ∧ Below w.heap.size w w' := by
  have q := bw_range c
  go_enter Tryz.func152, Tryz.ntmps152
  go_wp2_with (first | (go_at_call 234; refine (one16_ _ _).mono ?_; rintro e w1 ⟨rfl, rfl⟩) | (go_at_call 216; refine (result_ _ _).mono ?_; rintro e w1 ⟨rfl, rfl⟩) | (go_at_call 236; refine (when_ _ _ (by omega) (by omega) _).mono ?_; rintro e w1 ⟨rfl, rfl⟩) | (go_at_call 235; go_in))
  refine wp_loop_rounds 9 ?_
  repeat any_goals (rw [rounds_succ]; go_wp2)
  go_ret2
  exact ⟨ret2 (by rfl) (add_eq a b c a0 a1 b0 b1), by go_grown⟩
theorem sub_ (a b : Int) (c : Bool) (a0 : 0 ≤ a) (a1 : a ≤ 255) (b0 : 0 ≤ b) (b1 : b ≤ 255) (w : World) : Calls Tryz.prog 157 #[.int .u8 a, .int .u8 b, .bool c] w fun e w' => e = .returned (.tuple #[.int .u8 (subR a b c), .int .u8 (subF a b c)]) ∧ Below w.heap.size w w' := by
  have q := bw_range c
  go_enter Tryz.func157, Tryz.ntmps157
  go_wp2_with (first | (go_at_call 234; refine (one16_ _ _).mono ?_; rintro e w1 ⟨rfl, rfl⟩) | (go_at_call 216; refine (result_ _ _).mono ?_; rintro e w1 ⟨rfl, rfl⟩) | (go_at_call 236; refine (when_ _ _ (by omega) (by omega) _).mono ?_; rintro e w1 ⟨rfl, rfl⟩) | (go_at_call 235; go_in))
  refine wp_loop_rounds 9 ?_
  repeat any_goals (rw [rounds_succ]; go_wp2)
  go_ret2
  refine ⟨?_, by go_grown⟩
  have e : IntKind.u16.wrap (IntKind.u16.wrap (a - b) - bw c 1) = (a - b - bw c 1) % 65536 := by simp only [IntKind.wrap_u16]; omega
  simp only [e]
  exact ret2 (by unfold subR; omega) (sub_eq a b c a0 a1 b0 b1)
theorem neg_ (a : Int) (a0 : 0 ≤ a) (a1 : a ≤ 255) (w : World) : Calls Tryz.prog 127 #[.int .u8 a] w fun e w' => e = .returned (.tuple #[.int .u8 (subR 0 a false), .int .u8 (subF 0 a false)]) ∧ Below w.heap.size w w' := by
  go_enter Tryz.func127, Tryz.ntmps127
  go_wp2_with (go_at_call 157; refine (sub_ _ _ _ (by omega) (by omega) a0 a1 _).mono ?_; rintro e w1 ⟨rfl, hb⟩)
  go_ret2
  exact ⟨rfl, hb⟩
theorem cmp_ (a b : Int) (a0 : 0 ≤ a) (a1 : a ≤ 255) (b0 : 0 ≤ b) (b1 : b ≤ 255) (w : World) : Calls Tryz.prog 167 #[.int .u8 a, .int .u8 b] w fun e w' => e = .returned (.int .u8 (cmpF a b)) ∧ Below w.heap.size w w' := by
  go_enter Tryz.func167, Tryz.ntmps167
  go_wp2_with (first | (go_at_call 157; refine (sub_ _ _ _ a0 a1 b0 b1 _).mono ?_; rintro e w1 ⟨rfl, hb⟩) | (go_at_call 154; refine (keep_ _ _ _ _).mono ?_; rintro e w1 ⟨rfl, rfl⟩))
  go_ret
  exact ⟨rfl, hb⟩
theorem inc_ (a f : Int) (a0 : 0 ≤ a) (a1 : a ≤ 255) (w : World) : Calls Tryz.prog 83 #[.int .u8 a, .int .u8 f] w fun e w' => e = .returned (.tuple #[.int .u8 (addR a 1 false), .int .u8 (kp (addF a 1 false) f 1)]) ∧ Below w.heap.size w w' := by
  go_enter Tryz.func83, Tryz.ntmps83
  go_wp2_with (first | (go_at_call 152; refine (add_ _ _ _ a0 a1 (by omega) (by omega) _).mono ?_; rintro e w1 ⟨rfl, hb⟩) | (go_at_call 154; refine (keep_ _ _ _ _).mono ?_; rintro e w1 ⟨rfl, rfl⟩))
  go_ret2
  exact ⟨rfl, hb⟩
theorem dec_ (a f : Int) (a0 : 0 ≤ a) (a1 : a ≤ 255) (w : World) : Calls Tryz.prog 84 #[.int .u8 a, .int .u8 f] w fun e w' => e = .returned (.tuple #[.int .u8 (subR a 1 false), .int .u8 (kp (subF a 1 false) f 1)]) ∧ Below w.heap.size w w' := by
  go_enter Tryz.func84, Tryz.ntmps84
  go_wp2_with (first | (go_at_call 157; refine (sub_ _ _ _ a0 a1 (by omega) (by omega) _).mono ?_; rintro e w1 ⟨rfl, hb⟩) | (go_at_call 154; refine (keep_ _ _ _ _).mono ?_; rintro e w1 ⟨rfl, rfl⟩))
  go_ret2
  exact ⟨rfl, hb⟩
end Go.Proofs.YtnaampdpkegacaaGreatDoor

namespace Go.Proofs.YtnaampdpkegacaaGreatDoor
open Go.RowKit Go.Shelf
attribute [local go_sem] Oper.semAt_some

theorem cell_of_box_l {W : World} {B : Nat} {v : Value} {t : TypeId} (h : W.heap[B]? = some (.cells #[v] t (0, 0))) : W.cell? ⟨B, 0, none⟩ = some v ∧ W.frozen? ⟨B, 0, none⟩ = false := by
  constructor <;> simp [World.cell?, World.frozen?, h]
theorem cell_new_l (W : World) (v : Value) (t : TypeId) : (W.alloc (.cells #[v] t)).cell? ⟨W.heap.size, 0, none⟩ = some v ∧ (W.alloc (.cells #[v] t)).frozen? ⟨W.heap.size, 0, none⟩ = false :=
  cell_of_box_l (World.alloc_heap_new W _)
theorem cell_alloc_l {W : World} {a : Addr} {v : Value} (o : Obj) (h : W.cell? a = some v) : (W.alloc o).cell? a = some v := cell_kept h (World.grownBy_alloc W o none) (fun r e => by cases e)
theorem frozen_alloc_l {W : World} {a : Addr} {v : Value} (o : Obj) (h : W.cell? a = some v) (hf : W.frozen? a = false) : (W.alloc o).frozen? a = false := (frozen_kept h (World.grownBy_alloc W o none) (fun r e => by cases e)).trans hf

theorem set_ (b : Int) (w : World) : Calls Tryz.prog 260 #[.int .u8 b] w fun e w' => e = .returned (.func (.func 269) #[] #[.pointer (some ⟨w.heap.size, 0, none⟩)]) ∧ w.alloc (.cells #[.int .u8 b] 5) = w' := by
  have hmf : ∀ (fn : Fn) (first cap : Array Value) (w : World), (Instr.makeFunc fn first cap).run Tryz.prog w = .ok (.func fn first cap) w := fun _ _ _ _ => rfl
  go_enter Tryz.func260, Tryz.ntmps260
  go_wp2
  go_ret
  exact ⟨rfl, rfl⟩

def Kc (B : Nat) (W W' : World) : Prop := W'.cell? ⟨B, 0, none⟩ = W.cell? ⟨B, 0, none⟩

set_option maxRecDepth 100000 in
set_option maxHeartbeats 1000000 in
theorem set1_stops (n : Nat) (hn : 1 ≤ n) (b : Int) (B : Nat) (w : World) (hB : B < w.heap.size) (hc : w.cell? ⟨B, 0, none⟩ = some (.int .u8 b)) :
    SeqStopsK Fence.wide n Tryz.prog 269 #[.pointer (some ⟨B, 0, none⟩)] (fun x : Int => #[.int .i64 x]) (Kc B) (fun xs => xs = setl b 8) (fun pre => pre <+: setl b 8) 8 w := fun l J Jx W hW hJ hJx hY h0 => by
  have hcW : W.cell? ⟨B, 0, none⟩ = some (.int .u8 b) := (hW.cell (p := ⟨B, 0, none⟩) hB).trans hc
  refine callsIn_of_wp Tryz.func269 rfl trivial ?_ rfl
  simp only [Tryz.ntmps269, List.size_toArray, List.length_cons, List.length_nil, Nat.reduceAdd, Nat.reduceSub, Array.replicate_succ, Array.replicate_zero, List.push_toArray, List.append_toArray, List.nil_append, List.cons_append]
  clear hc hB hW
  gi_wp2
  gi_loopw [4] (fun i wr => ∃ k : Nat, k ≤ 8 ∧ i = .int .i64 k ∧ wr.cell? ⟨B, 0, none⟩ = some (.int .u8 b) ∧ J (setl b k) wr) (fun i _ => 8 - (intOf i).toNat)
  case atStart => exact ⟨0, by omega, rfl, hcW, h0⟩
  case round =>
    obtain ⟨k, hk, rfl, hcr, hJr⟩ := hrel
    by_cases hlt : k < 8
    · cases hi : isb b k
      · have hJ2 : J (setl b (k + 1)) wr := by rw [← setl_no b k hi]; exact hJr
        clear hJr hcW h0
        gi_wp2_with (refine ⟨trivial, ?_⟩; gi_at_call 143; refine (callsIn_wide.2 (is_ _ _ _)).mono ?_; rintro e w1 ⟨rfl, rfl⟩)
        refine ⟨fun _ _ => trivial, ?_⟩
        gi_wp2
        go_roundw
        case rel => exact ⟨k + 1, by omega, by go_num, hcr, hJ2⟩
        case measure => simp [intOf]; omega
      · have hl := setl_len b k
        obtain ⟨fn, tmps, assign, body, hy, hR⟩ := hY (setl b k) k wr hJr (by omega)
        rw [setl_yes b k hi] at hR
        clear hJr hcW h0
        gi_wp2_with (refine ⟨trivial, ?_⟩; gi_at_call 143; refine (callsIn_wide.2 (is_ _ _ _)).mono ?_; rintro e w1 ⟨rfl, rfl⟩)
        refine hR.mono ?_
        rintro e W3 (⟨rfl, hJ3, hk3⟩ | ⟨rfl, hJx3⟩)
        · have hc3 : W3.cell? ⟨B, 0, none⟩ = some (.int .u8 b) := Eq.trans hk3 hcr
          clear hcr hk3
          gi_wp2
          go_roundw
          case rel => exact ⟨k + 1, by omega, by go_num, hc3, hJ3⟩
          case measure => simp [intOf]; omega
        · gi_wp2
          refine bodyPost_ret (results_none rfl _ _ _) rfl ?_
          exact ⟨⟨_, rfl⟩, .inr ⟨setl b (k + 1), setl_pre b (k + 1) 8 (by omega), hJx3⟩⟩
    · obtain rfl : k = 8 := by omega
      gi_wp2
      go_end0
      exact ⟨⟨_, rfl⟩, .inl ⟨_, rfl, hJr⟩⟩

theorem kc_b {B n : Nat} (hB : B < n) (W : World) (l : Nat) (o o' : Obj) (hl : n ≤ l) (h : W.heap[l]? = some o) (_ : o.isCells = false) (_ : o.isWalk = false) : Kc B W (W.putObj l o') :=
  ((Below.refl n W).grown (grownBy_putObj' W l o') (by have := (Array.getElem?_eq_some_iff.1 h).1; omega) (fun k e => by cases e; omega)).cell (p := ⟨B, 0, none⟩) hB

set_option maxRecDepth 100000 in
set_option maxHeartbeats 1000000 in
theorem beven_ (b : Int) (w : World) : Calls Tryz.prog 217 #[.int .u8 b] w fun e w' => e = .returned (.bool (evb b)) ∧ Below w.heap.size w w' := by
  have hnot : ∀ (x : Bool) (w : World), (Op.unary .not (.bool x)).run Tryz.prog w = .ok (.bool (!x)) w := fun _ _ => rfl
  refine (callsIn_wide (n := 5)).1 ?_
  refine callsIn_of_wp_marks Tryz.func217 rfl trivial ?_ rfl
  simp only [Tryz.ntmps217, List.size_toArray, List.length_cons, List.length_nil, Nat.reduceAdd, Nat.reduceSub, Array.replicate_succ, Array.replicate_zero, List.push_toArray, List.append_toArray, List.nil_append, List.cons_append]
  gi_wp2_with (refine ⟨trivial, ?_⟩; gi_at_call 260; refine (callsIn_wide.2 (set_ _ _)).mono ?_; rintro e w1 ⟨rfl, rfl⟩)
  have hs := cell_new_l w (.bool true) 4
  have hb := cell_new_l (w.alloc (.cells #[.bool true] 4)) (.int .u8 b) 5
  rw [World.size_alloc] at hb
  have hB0 : Below w.heap.size w ((w.alloc (.cells #[.bool true] 4)).alloc (.cells #[.int .u8 b] 5)) := ((Below.refl _ w).alloc (Nat.le_refl _) _).alloc (by simp) _
  refine wpIn_rangeFunc_ownF (F := Fence.wide) rfl (by decide) (gf := 269) (lb := #[.pointer (some ⟨w.heap.size + 1, 0, none⟩)]) rfl trivial (enters_of Tryz.func269 (by kernel_rfl) rfl)
    (set1_stops (5 - 1) (by decide) b (w.heap.size + 1) _ (by simp) hb.1) (fun h k => Eq.trans k h) (kc_b (by simp)) (Below.refl _ _) (fun _ => rfl)
    (fun pre W => (W.cell? ⟨w.heap.size, 0, none⟩ = some (.bool (par pre)) ∧ W.frozen? ⟨w.heap.size, 0, none⟩ = false) ∧ Below w.heap.size w W)
    (fun _ _ _ => False)
    (OwnFrom.and (Own.from (fun s A B row hs hg hr => ⟨cell_kept hs.1 hg hr, (frozen_kept hs.1 hg hr).trans hs.2⟩) _) (ownFrom_below (Nat.le_refl _) (by simp; omega)))
    (fun _ _ _ _ _ hs _ _ => hs)
    ⟨⟨cell_alloc_l _ hs.1, frozen_alloc_l _ hs.1 hs.2⟩, hB0⟩
    (fun x => { tmps := #[.int .u8 b, undef, .bool false, .pointer (some ⟨w.heap.size, 0, none⟩), .int .u8 b, .func (.func 269) #[] #[.pointer (some ⟨w.heap.size + 1, 0, none⟩)], .int .i64 x, undef, undef, undef], defers := [] }) ?assign ?body ?done ?stop
  case assign =>
    intro l x W K hK
    gi_wp2
    simpa using hK
  case body =>
    rintro l pre x W ⟨⟨hc, hf⟩, hB⟩ _
    gi_wp2
    exact ⟨KeepsOthers.setCell _ _ _, World.cell?_setCell_other _ _ _ _ (by simp), ⟨by rw [par_snoc]; exact World.cell?_setCell_same' _ _ _ (by rw [hc]; rfl), by rw [World.frozen?_setCell]; exact hf⟩, hB.setCell (p := ⟨w.heap.size, 0, none⟩) (Nat.le_refl _) _⟩
  case done =>
    rintro D ys W hD rfl ⟨⟨hc, _⟩, hB⟩ hK
    gi_wp2
    refine ⟨by simp, .inl ⟨_, _, rfl, run_takeDeferred hK, ?_⟩⟩
    exact ⟨.bool (par (setl b 8)), results_tmp (t := 2) rfl _ _ _, by rw [par_setl], hB.trans (belowK_b (w := w) (Nat.le_refl _) W D _ _ (by simp at hD; omega) hK rfl rfl)⟩
  case stop =>
    rintro D c pre W _ _ h _
    exact h.elim
theorem feven_ (r : Int) (w : World) : Calls Tryz.prog 121 #[.int .u8 r] w fun e w' => e = .returned (.int .u8 (evf r)) ∧ Below w.heap.size w w' := by
  go_enter Tryz.func121, Tryz.ntmps121
  cases hv : evb r
  · go_wp2_with (first | (go_at_call 216; refine (result_ _ _).mono ?_; rintro e w1 ⟨rfl, rfl⟩) | (go_at_call 217; refine (beven_ _ _).mono ?_; rintro e w1 ⟨rfl, hb⟩))
    go_ret
    exact ⟨ret_int (evf_no r hv), hb⟩
  · go_wp2_with (first | (go_at_call 216; refine (result_ _ _).mono ?_; rintro e w1 ⟨rfl, rfl⟩) | (go_at_call 217; refine (beven_ _ _).mono ?_; rintro e w1 ⟨rfl, hb⟩))
    go_ret
    exact ⟨ret_int (evf_yes r hv), hb⟩
end Go.Proofs.YtnaampdpkegacaaGreatDoor

namespace Go.Proofs.YtnaampdpkegacaaGreatDoor
open Go.RowKit

theorem r01count_ (b : Int) (h0 : 0 ≤ b) (h1 : b ≤ 255) (w : World) : Calls Tryz.prog 244 #[.int .u8 b] w fun e w' => e = .returned (.int .i64 (cnt b 8)) ∧ w = w' := by
  go_enter Tryz.func244, Tryz.ntmps244
  go_wp2_with fail
  go_loop [3, 4] (fun n i => ∃ k : Nat, k ≤ 8 ∧ i = .int .i64 k ∧ n = .int .i64 (cnt b k)) (fun _ i => 8 - (intOf i).toNat)
  case atStart => exact ⟨0, by omega, rfl, rfl⟩
  case round =>
    obtain ⟨k, hk, rfl, rfl⟩ := hrel
    have hc := cnt_range b k
    by_cases hlt : k < 8
    · cases hi : isb b k
      · have e : Hid (cnt b (k + 1) = cnt b k) := by show cnt b k + bw (isb b k) 1 = cnt b k; rw [hi]; exact Int.add_zero _
        go_wp2_with (go_at_call 181; refine (r01is_ _ _ h0 h1 _).mono ?_; rintro e w1 ⟨rfl, rfl⟩)
        go_round
        case rel => exact ⟨k + 1, by omega, by go_num, by rw [e.out]⟩
        case measure => simp [intOf]; omega
      · have e : Hid (cnt b (k + 1) = cnt b k + 1) := by show cnt b k + bw (isb b k) 1 = cnt b k + 1; rw [hi]; rfl
        go_wp2_with (go_at_call 181; refine (r01is_ _ _ h0 h1 _).mono ?_; rintro e w1 ⟨rfl, rfl⟩)
        go_round
        case rel => exact ⟨k + 1, by omega, by go_num, by rw [e.out]⟩
        case measure => simp [intOf]; omega
    · obtain rfl : k = 8 := by omega
      go_wp2
      go_ret
      exact ⟨rfl, rfl⟩
theorem r01even_ (b : Int) (h0 : 0 ≤ b) (h1 : b ≤ 255) (w : World) : Calls Tryz.prog 184 #[.int .u8 b] w fun e w' => e = .returned (.bool (evb b)) ∧ w = w' := by
  have hc := cnt_range b 8
  go_enter Tryz.func184, Tryz.ntmps184
  go_wp2_with (go_at_call 244; refine (r01count_ _ h0 h1 _).mono ?_; rintro e w1 ⟨rfl, rfl⟩)
  go_ret
  exact ⟨rfl, rfl⟩
theorem r02result_ (r : Int) (h0 : 0 ≤ r) (h1 : r ≤ 255) (w : World) : Calls Tryz.prog 197 #[.int .u8 r] w fun e w' => e = .returned (.int .u8 (res r)) ∧ Below w.heap.size w w' := by
  have hB := Below.refl w.heap.size w
  go_enter Tryz.func197, Tryz.ntmps197
  go_wp2_with (first | (go_at_call 183; refine (r02of_ _ h0 h1 _).mono ?_; rintro e w1 ⟨rfl, hb⟩; replace hB := bt hB hb; have hz := hb.size) | (go_at_call 185; refine (r02make_ _ _ _ _ _ _ _ _ _).mono ?_; rintro e w2 ⟨rfl, hb2⟩))
  go_ret
  exact ⟨rfl, bt (by go_grown) hb2⟩
theorem r02even_ (r : Int) (h0 : 0 ≤ r) (h1 : r ≤ 255) (w : World) : Calls Tryz.prog 99 #[.int .u8 r] w fun e w' => e = .returned (.int .u8 (evf r)) ∧ Below w.heap.size w w' := by
  have hB := Below.refl w.heap.size w
  go_enter Tryz.func99, Tryz.ntmps99
  go_wp2_with (first | (go_at_call 183; refine (r02of_ _ h0 h1 _).mono ?_; rintro e w1 ⟨rfl, hb⟩; replace hB := bt hB hb; have hz := hb.size) | (go_at_call 185; refine (r02make_ _ _ _ _ _ _ _ _ _).mono ?_; rintro e w2 ⟨rfl, hb2⟩) | (go_at_call 184; refine (r01even_ _ h0 h1 _).mono ?_; rintro e w1 ⟨rfl, rfl⟩))
  go_ret
  exact ⟨rfl, bt (by go_grown) hb2⟩
theorem r02test_ (f cond : Int) (f0 : 0 ≤ f) (f1 : f ≤ 255) (w : World) : Calls Tryz.prog 211 #[.int .u8 f, .int .i64 cond] w fun e w' => e = .returned (.bool (tst f cond)) ∧ Below w.heap.size w w' := by
  have hB := Below.refl w.heap.size w
  by_cases h : cond = 0 ∨ cond = 1 ∨ cond = 2 ∨ cond = 3 ∨ cond = 4 ∨ cond = 5 ∨ cond = 6 ∨ cond = 7
  · rcases h with rfl | rfl | rfl | rfl | rfl | rfl | rfl | rfl
    all_goals
      go_enter Tryz.func211, Tryz.ntmps211
      go_wp2_with (go_at_call 183; refine (r02of_ _ f0 f1 _).mono ?_; rintro e w1 ⟨rfl, hb⟩; replace hB := bt hB hb; have hz := hb.size)
      go_ret
      exact ⟨rfl, by go_grown⟩
  · have e0 : (cond == 0) = false := by simp; omega
    have e1 : (cond == 1) = false := by simp; omega
    have e2 : (cond == 2) = false := by simp; omega
    have e3 : (cond == 3) = false := by simp; omega
    have e4 : (cond == 4) = false := by simp; omega
    have e5 : (cond == 5) = false := by simp; omega
    have e6 : (cond == 6) = false := by simp; omega
    have e7 : (cond == 7) = false := by simp; omega
    have ht : Hid (false = tst f cond) := by show false = tst f cond; simp [tst, show ¬ cond = 0 by omega, show ¬ cond = 1 by omega, show ¬ cond = 2 by omega, show ¬ cond = 3 by omega, show ¬ cond = 4 by omega, show ¬ cond = 5 by omega, show ¬ cond = 6 by omega, show ¬ cond = 7 by omega]
    clear h
    go_enter Tryz.func211, Tryz.ntmps211
    go_wp2_with (go_at_call 183; refine (r02of_ _ f0 f1 _).mono ?_; rintro e w1 ⟨rfl, hb⟩; replace hB := bt hB hb; have hz := hb.size)
    go_ret
    exact ⟨ret_bool ht.out, by go_grown⟩
theorem heap_cell {w : World} {B : Nat} {c : Array Value} {t : TypeId} (h : w.heap[B]? = some (.cells c t)) (j : Nat) (v : Value) (hv : c[j]? = some v) : w.cell? ⟨B, j, none⟩ = some v ∧ w.frozen? ⟨B, j, none⟩ = false := by
  constructor <;> simp [World.cell?, World.frozen?, h, hv]
theorem heap_set {w : World} {B : Nat} {c : Array Value} {t : TypeId} (h : w.heap[B]? = some (.cells c t)) (j : Nat) (v : Value) : (w.setCell ⟨B, j, none⟩ v).heap[B]? = some (.cells (c.setIfInBounds j v) t) := by
  simp [World.setCell, Array.getElem?_modify, h]
theorem heap_other {w : World} {B C : Nat} (j : Nat) (v : Value) (h : C ≠ B) : (w.setCell ⟨B, j, none⟩ v).heap[C]? = w.heap[C]? := Below.heap_setCell _ _ _ _ h
def kc (f old mask : Int) (k j : Nat) : Value := .bool (bif (decide (7 - j < k)) && bit j mask then bit j old else bit j f)
end Go.Proofs.YtnaampdpkegacaaGreatDoor

namespace Go.Proofs.YtnaampdpkegacaaGreatDoor
open Go

def hiB (w : Int) : Int := w / 256 % 256
def loB (w : Int) : Int := w % 256
def wrd (h l : Int) : Int := (h * 256 + l) % 65536
def mov (w b : Int) : Int := (w + b) % 65536
section
variable (x y : Int)
theorem hiB_0 : 0 ≤ hiB x := by unfold hiB; omega
theorem hiB_1 : hiB x ≤ 255 := by unfold hiB; omega
theorem loB_0 : 0 ≤ loB x := by unfold loB; omega
theorem loB_1 : loB x ≤ 255 := by unfold loB; omega
theorem wrd_0 : 0 ≤ wrd x y := by unfold wrd; omega
theorem wrd_1 : wrd x y ≤ 65535 := by unfold wrd; omega
theorem mov_0 : 0 ≤ mov x y := by unfold mov; omega
theorem mov_1 : mov x y ≤ 65535 := by unfold mov; omega
end
theorem wrd_hl (w : Int) (h0 : 0 ≤ w) (h1 : w ≤ 65535) : wrd (hiB w) (loB w) = w := by unfold wrd hiB loB; omega
theorem hiB_wrd (h l : Int) (h0 : 0 ≤ h) (h1 : h ≤ 255) (l0 : 0 ≤ l) (l1 : l ≤ 255) : hiB (wrd h l) = h := by unfold wrd hiB; omega
theorem loB_wrd (h l : Int) (l0 : 0 ≤ l) (l1 : l ≤ 255) : loB (wrd h l) = l := by unfold wrd loB; omega
theorem word_or (h l : Int) (h0 : 0 ≤ h) (h1 : h ≤ 255) (l0 : 0 ≤ l) (l1 : l ≤ 255) : bits .or .u16 (h * 256) l = wrd h l := by
  obtain ⟨h, rfl⟩ := Int.eq_ofNat_of_zero_le h0
  obtain ⟨l, rfl⟩ := Int.eq_ofNat_of_zero_le l0
  have e1 : ((h : Int) * 256) = ((h * 256 : Nat) : Int) := by rw [Int.natCast_mul]; rfl
  have e : (BitVec.ofInt 16 ((h * 256 : Nat) : Int) ||| BitVec.ofInt 16 (l : Int)).toNat = h * 256 + l := by
    rw [BitVec.ofInt_natCast, BitVec.ofInt_natCast, BitVec.toNat_or, BitVec.toNat_ofNat, BitVec.toNat_ofNat, Nat.mod_eq_of_lt (show h * 256 < 2 ^ 16 by omega), Nat.mod_eq_of_lt (show l < 2 ^ 16 by omega)]
    have := Nat.shiftLeft_add_eq_or_of_lt (i := 8) (b := l) (by omega) h
    rw [Nat.shiftLeft_eq] at this
    exact this.symm
  rw [e1]
  show IntKind.u16.wrap ((BitVec.ofInt 16 ((h * 256 : Nat) : Int) ||| BitVec.ofInt 16 (l : Int)).toNat : Int) = _
  rw [e, IntKind.wrap_u16]
  unfold wrd; omega
def wAddR (a b : Int) (c : Bool) : Int := (a + b + bw c 1) % 65536
def wSubR (a b : Int) (c : Bool) : Int := (a - b - bw c 1) % 65536
def wsgn (w : Int) : Int := bif decide (w < 32768) then w else w - 65536
def wfar (n : Int) : Bool := decide (n < -32768) || decide (32767 < n)
/-- All flags of a sum of words. -/
def wAddF (a b : Int) (c : Bool) : Int := mk (bit 7 (hiB (wAddR a b c))) (decide (wAddR a b c = 0)) (bit 5 (hiB (wAddR a b c))) (decide (4095 < a % 4096 + b % 4096 + bw c 1)) (bit 3 (hiB (wAddR a b c))) (wfar (wsgn a + wsgn b + bw c 1)) false (decide (65535 < a + b + bw c 1))
def wSubF (a b : Int) (c : Bool) : Int := mk (bit 7 (hiB (wSubR a b c))) (decide (wSubR a b c = 0)) (bit 5 (hiB (wSubR a b c))) (decide (a % 4096 - b % 4096 - bw c 1 < 0)) (bit 3 (hiB (wSubR a b c))) (wfar (wsgn a - wsgn b - bw c 1)) true (decide (a - b - bw c 1 < 0))
/-- ADD HL: S, Z and P are kept. -/
def hAddF (a b f : Int) : Int := kp (wAddF a b false) f 196
theorem wAddR_0 (a b : Int) (c : Bool) : 0 ≤ wAddR a b c := by unfold wAddR; omega
theorem wAddR_1 (a b : Int) (c : Bool) : wAddR a b c ≤ 65535 := by unfold wAddR; omega
theorem wSubR_0 (a b : Int) (c : Bool) : 0 ≤ wSubR a b c := by unfold wSubR; omega
theorem wSubR_1 (a b : Int) (c : Bool) : wSubR a b c ≤ 65535 := by unfold wSubR; omega
theorem wAddF_range (a b : Int) (c : Bool) : 0 ≤ wAddF a b c ∧ wAddF a b c ≤ 255 := mk_range _ _ _ _ _ _ _ _
theorem wSubF_range (a b : Int) (c : Bool) : 0 ≤ wSubF a b c ∧ wSubF a b c ≤ 255 := mk_range _ _ _ _ _ _ _ _
theorem hAddF_range (a b f : Int) : 0 ≤ hAddF a b f ∧ hAddF a b f ≤ 255 := kp_range _ _ _
/-- Two sums of bytes make a sum of words. -/
theorem add_both (a b : Int) (c : Bool) (_a0 : 0 ≤ a) (_a1 : a ≤ 65535) (_b0 : 0 ≤ b) (_b1 : b ≤ 65535) :
    wrd (addR (hiB a) (hiB b) (bit 0 (addF (loB a) (loB b) c))) (addR (loB a) (loB b) c) = wAddR a b c := by
  have q := bw_range c
  simp only [addF, bit0_mk]
  unfold wrd addR hiB loB wAddR
  by_cases h : 255 < a % 256 + b % 256 + bw c 1
  · simp only [h, decide_true]; simp only [bw, cond_true] at *; omega
  · simp only [h, decide_false]; simp only [bw, cond_false] at *; omega
theorem sub_both (a b : Int) (c : Bool) (_a0 : 0 ≤ a) (_a1 : a ≤ 65535) (_b0 : 0 ≤ b) (_b1 : b ≤ 65535) :
    wrd (subR (hiB a) (hiB b) (bit 0 (subF (loB a) (loB b) c))) (subR (loB a) (loB b) c) = wSubR a b c := by
  have q := bw_range c
  simp only [subF, bit0_mk]
  unfold wrd subR hiB loB wSubR
  by_cases h : a % 256 - b % 256 - bw c 1 < 0
  · simp only [h, decide_true]; simp only [bw, cond_true] at *; omega
  · simp only [h, decide_false]; simp only [bw, cond_false] at *; omega
theorem sgn_cases (x : Int) : (x < 128 ∧ sgn x = x) ∨ (128 ≤ x ∧ sgn x = x - 256) := by
  unfold sgn; by_cases h : x < 128
  · simp [h]
  · right; simp [h]; omega
theorem wsgn_cases (x : Int) : (x < 32768 ∧ wsgn x = x) ∨ (32768 ≤ x ∧ wsgn x = x - 65536) := by
  unfold wsgn; by_cases h : x < 32768
  · simp [h]
  · right; simp [h]; omega
theorem bwd_cases (p : Prop) [Decidable p] : (p ∧ bw (decide p) 1 = 1) ∨ (¬ p ∧ bw (decide p) 1 = 0) := by by_cases h : p <;> simp [h, bw]
theorem far_iff {x y : Int} (h : (x < -128 ∨ 127 < x) ↔ (y < -32768 ∨ 32767 < y)) : farb x = wfar y := by
  unfold farb wfar
  rw [Bool.eq_iff_iff, Bool.or_eq_true, Bool.or_eq_true, decide_eq_true_eq, decide_eq_true_eq, decide_eq_true_eq, decide_eq_true_eq]
  exact h
theorem adc_flags (a b : Int) (c : Bool) (a0 : 0 ≤ a) (a1 : a ≤ 65535) (b0 : 0 ≤ b) (b1 : b ≤ 65535) :
    (bif wAddR a b c != 0 then bits .andNot .u8 (addF (hiB a) (hiB b) (bit 0 (addF (loB a) (loB b) c))) 64 else addF (hiB a) (hiB b) (bit 0 (addF (loB a) (loB b) c))) = wAddF a b c := by
  have q := bw_range c
  have hb := add_both a b c a0 a1 b0 b1
  have er : addR (hiB a) (hiB b) (bit 0 (addF (loB a) (loB b) c)) = hiB (wAddR a b c) := by
    have r := addR_range (hiB a) (hiB b) (bit 0 (addF (loB a) (loB b) c))
    have t := addR_range (loB a) (loB b) c
    rw [← hb, hiB_wrd _ _ r.1 r.2 t.1 t.2]
  have el : bit 0 (addF (loB a) (loB b) c) = decide (255 < loB a + loB b + bw c 1) := by simp only [addF, bit0_mk]
  have m := wAddF_range a b c
  have n := addF_range (hiB a) (hiB b) (bit 0 (addF (loB a) (loB b) c))
  have k := bits_range .andNot (addF (hiB a) (hiB b) (bit 0 (addF (loB a) (loB b) c))) 64
  have ez : addF (hiB a) (hiB b) (bit 0 (addF (loB a) (loB b) c)) = mk (bit 7 (hiB (wAddR a b c))) (decide (hiB (wAddR a b c) = 0)) (bit 5 (hiB (wAddR a b c))) (decide (4095 < a % 4096 + b % 4096 + bw c 1)) (bit 3 (hiB (wAddR a b c))) (wfar (wsgn a + wsgn b + bw c 1)) false (decide (65535 < a + b + bw c 1)) := by
    rw [show addF (hiB a) (hiB b) (bit 0 (addF (loB a) (loB b) c)) = mk (bit 7 (addR (hiB a) (hiB b) (bit 0 (addF (loB a) (loB b) c)))) (decide (addR (hiB a) (hiB b) (bit 0 (addF (loB a) (loB b) c)) = 0)) (bit 5 (addR (hiB a) (hiB b) (bit 0 (addF (loB a) (loB b) c)))) (decide (15 < hiB a % 16 + hiB b % 16 + bw (bit 0 (addF (loB a) (loB b) c)) 1)) (bit 3 (addR (hiB a) (hiB b) (bit 0 (addF (loB a) (loB b) c)))) (farb (sgn (hiB a) + sgn (hiB b) + bw (bit 0 (addF (loB a) (loB b) c)) 1)) false (decide (255 < hiB a + hiB b + bw (bit 0 (addF (loB a) (loB b) c)) 1)) from rfl, er, el]
    have e1 : decide (15 < hiB a % 16 + hiB b % 16 + bw (decide (255 < loB a + loB b + bw c 1)) 1) = decide (4095 < a % 4096 + b % 4096 + bw c 1) := by
      have c5 := bwd_cases (255 < loB a + loB b + bw c 1)
      congr 1; apply propext; unfold hiB loB at *
      omega
    have e2 : farb (sgn (hiB a) + sgn (hiB b) + bw (decide (255 < loB a + loB b + bw c 1)) 1) = wfar (wsgn a + wsgn b + bw c 1) := by
      apply far_iff
      have c1 := sgn_cases (hiB a); have c2 := sgn_cases (hiB b); have c3 := wsgn_cases a; have c4 := wsgn_cases b; have c5 := bwd_cases (255 < loB a + loB b + bw c 1)
      unfold hiB loB at *
      omega
    have e3 : decide (255 < hiB a + hiB b + bw (decide (255 < loB a + loB b + bw c 1)) 1) = decide (65535 < a + b + bw c 1) := by
      have c5 := bwd_cases (255 < loB a + loB b + bw c 1)
      congr 1; apply propext; unfold hiB loB at *
      omega
    rw [e1, e2, e3]
  have r0 := wAddR_0 a b c
  have r1 := wAddR_1 a b c
  by_cases hz : wAddR a b c = 0
  · rw [show (wAddR a b c != 0) = false by simp [hz], cond_false, ez]
    unfold wAddF; rw [hz]; rfl
  · rw [show (wAddR a b c != 0) = true by simp [hz], cond_true]
    rw [ez] at k ⊢
    refine byte_ext k.1 k.2 m.1 m.2 ?_ ?_ ?_ ?_ ?_ ?_ ?_ ?_ <;> simp (disch := decide) only [bit_andNot, bit_64, wAddF, bit7_mk, bit6_mk, bit5_mk, bit4_mk, bit3_mk, bit2_mk, bit1_mk, bit0_mk] <;> simp [hz]
theorem sbc_flags (a b : Int) (c : Bool) (a0 : 0 ≤ a) (a1 : a ≤ 65535) (b0 : 0 ≤ b) (b1 : b ≤ 65535) :
    (bif wSubR a b c != 0 then bits .andNot .u8 (subF (hiB a) (hiB b) (bit 0 (subF (loB a) (loB b) c))) 64 else subF (hiB a) (hiB b) (bit 0 (subF (loB a) (loB b) c))) = wSubF a b c := by
  have q := bw_range c
  have hb := sub_both a b c a0 a1 b0 b1
  have er : subR (hiB a) (hiB b) (bit 0 (subF (loB a) (loB b) c)) = hiB (wSubR a b c) := by
    have r := subR_range (hiB a) (hiB b) (bit 0 (subF (loB a) (loB b) c))
    have t := subR_range (loB a) (loB b) c
    rw [← hb, hiB_wrd _ _ r.1 r.2 t.1 t.2]
  have el : bit 0 (subF (loB a) (loB b) c) = decide (loB a - loB b - bw c 1 < 0) := by simp only [subF, bit0_mk]
  have m := wSubF_range a b c
  have n := subF_range (hiB a) (hiB b) (bit 0 (subF (loB a) (loB b) c))
  have k := bits_range .andNot (subF (hiB a) (hiB b) (bit 0 (subF (loB a) (loB b) c))) 64
  have ez : subF (hiB a) (hiB b) (bit 0 (subF (loB a) (loB b) c)) = mk (bit 7 (hiB (wSubR a b c))) (decide (hiB (wSubR a b c) = 0)) (bit 5 (hiB (wSubR a b c))) (decide (a % 4096 - b % 4096 - bw c 1 < 0)) (bit 3 (hiB (wSubR a b c))) (wfar (wsgn a - wsgn b - bw c 1)) true (decide (a - b - bw c 1 < 0)) := by
    rw [show subF (hiB a) (hiB b) (bit 0 (subF (loB a) (loB b) c)) = mk (bit 7 (subR (hiB a) (hiB b) (bit 0 (subF (loB a) (loB b) c)))) (decide (subR (hiB a) (hiB b) (bit 0 (subF (loB a) (loB b) c)) = 0)) (bit 5 (subR (hiB a) (hiB b) (bit 0 (subF (loB a) (loB b) c)))) (decide (hiB a % 16 - hiB b % 16 - bw (bit 0 (subF (loB a) (loB b) c)) 1 < 0)) (bit 3 (subR (hiB a) (hiB b) (bit 0 (subF (loB a) (loB b) c)))) (farb (sgn (hiB a) - sgn (hiB b) - bw (bit 0 (subF (loB a) (loB b) c)) 1)) true (decide (hiB a - hiB b - bw (bit 0 (subF (loB a) (loB b) c)) 1 < 0)) from rfl, er, el]
    have e1 : decide (hiB a % 16 - hiB b % 16 - bw (decide (loB a - loB b - bw c 1 < 0)) 1 < 0) = decide (a % 4096 - b % 4096 - bw c 1 < 0) := by
      have c5 := bwd_cases (loB a - loB b - bw c 1 < 0)
      congr 1; apply propext; unfold hiB loB at *
      omega
    have e2 : farb (sgn (hiB a) - sgn (hiB b) - bw (decide (loB a - loB b - bw c 1 < 0)) 1) = wfar (wsgn a - wsgn b - bw c 1) := by
      apply far_iff
      have c1 := sgn_cases (hiB a); have c2 := sgn_cases (hiB b); have c3 := wsgn_cases a; have c4 := wsgn_cases b; have c5 := bwd_cases (loB a - loB b - bw c 1 < 0)
      unfold hiB loB at *
      omega
    have e3 : decide (hiB a - hiB b - bw (decide (loB a - loB b - bw c 1 < 0)) 1 < 0) = decide (a - b - bw c 1 < 0) := by
      have c5 := bwd_cases (loB a - loB b - bw c 1 < 0)
      congr 1; apply propext; unfold hiB loB at *
      omega
    rw [e1, e2, e3]
  have r0 := wSubR_0 a b c
  have r1 := wSubR_1 a b c
  by_cases hz : wSubR a b c = 0
  · rw [show (wSubR a b c != 0) = false by simp [hz], cond_false, ez]
    unfold wSubF; rw [hz]; rfl
  · rw [show (wSubR a b c != 0) = true by simp [hz], cond_true]
    rw [ez] at k ⊢
    refine byte_ext k.1 k.2 m.1 m.2 ?_ ?_ ?_ ?_ ?_ ?_ ?_ ?_ <;> simp (disch := decide) only [bit_andNot, bit_64, wSubF, bit7_mk, bit6_mk, bit5_mk, bit4_mk, bit3_mk, bit2_mk, bit1_mk, bit0_mk] <;> simp [hz]
end Go.Proofs.YtnaampdpkegacaaGreatDoor

namespace Go.Proofs.YtnaampdpkegacaaGreatDoor
open Go.RowKit

theorem hi_ (x : Int) (w : World) : Calls Tryz.prog 66 #[.int .u16 x] w fun e w' => e = .returned (.int .u8 (hiB x)) ∧ w = w' := by
  go_enter Tryz.func66, Tryz.ntmps66
  go_wp2
  go_ret
  exact ⟨rfl, rfl⟩
theorem lo_ (x : Int) (w : World) : Calls Tryz.prog 136 #[.int .u16 x] w fun e w' => e = .returned (.int .u8 (loB x)) ∧ w = w' := by
  go_enter Tryz.func136, Tryz.ntmps136
  go_wp2
  go_ret
  exact ⟨rfl, rfl⟩
theorem word_ (h l : Int) (h0 : 0 ≤ h) (h1 : h ≤ 255) (l0 : 0 ≤ l) (l1 : l ≤ 255) (w : World) : Calls Tryz.prog 149 #[.int .u8 h, .int .u8 l] w fun e w' => e = .returned (.int .u16 (wrd h l)) ∧ w = w' := by
  have e := Lib.hid (word_or h l h0 h1 l0 l1)
  go_enter Tryz.func149, Tryz.ntmps149
  go_wp2
  go_ret
  exact ⟨ret_int e.out, rfl⟩
theorem signed_ (b : Int) (b0 : 0 ≤ b) (b1 : b ≤ 255) (w : World) : Calls Tryz.prog 146 #[.int .u8 b] w fun e w' => e = .returned (.int .i64 (sgn b)) ∧ w = w' := by
  have e := Lib.hid (sgn_wrap b b0 b1)
  go_enter Tryz.func146, Tryz.ntmps146
  go_wp2
  go_ret
  exact ⟨ret_int (by have := sgn_range b b0 b1; rw [e.out]; unfold wrap64; omega), rfl⟩
theorem r01hi_ (x : Int) (x0 : 0 ≤ x) (x1 : x ≤ 65535) (w : World) : Calls Tryz.prog 111 #[.int .u16 x] w fun e w' => e = .returned (.int .u8 (hiB x)) ∧ w = w' := by
  go_enter Tryz.func111, Tryz.ntmps111
  go_wp2
  go_ret
  exact ⟨ret_int (by unfold hiB; omega), rfl⟩
theorem r01lo_ (x : Int) (x0 : 0 ≤ x) (x1 : x ≤ 65535) (w : World) : Calls Tryz.prog 177 #[.int .u16 x] w fun e w' => e = .returned (.int .u8 (loB x)) ∧ w = w' := by
  go_enter Tryz.func177, Tryz.ntmps177
  go_wp2
  go_ret
  exact ⟨ret_int (by unfold loB; omega), rfl⟩
theorem r01word_ (h l : Int) (h0 : 0 ≤ h) (h1 : h ≤ 255) (l0 : 0 ≤ l) (l1 : l ≤ 255) (w : World) : Calls Tryz.prog 180 #[.int .u8 h, .int .u8 l] w fun e w' => e = .returned (.int .u16 (wrd h l)) ∧ w = w' := by
  go_enter Tryz.func180, Tryz.ntmps180
  go_wp2
  go_ret
  exact ⟨ret_int (by unfold wrd; omega), rfl⟩
theorem r01signed_ (b : Int) (b0 : 0 ≤ b) (b1 : b ≤ 255) (w : World) : Calls Tryz.prog 116 #[.int .u8 b] w fun e w' => e = .returned (.int .i64 (sgn b)) ∧ w = w' := by
  by_cases h : b < 128
  · have e := Lib.hid (show sgn b = b by simp [sgn, h])
    go_enter Tryz.func116, Tryz.ntmps116
    go_wp2
    go_ret
    exact ⟨ret_int e.out.symm, rfl⟩
  · have e := Lib.hid (show sgn b = b - 256 by simp [sgn, h])
    go_enter Tryz.func116, Tryz.ntmps116
    go_wp2
    go_ret
    exact ⟨ret_int e.out.symm, rfl⟩
theorem r03one_ (b : Bool) (w : World) : Calls Tryz.prog 246 #[.bool b] w fun e w' => e = .returned (.int .i64 (bw b 1)) ∧ w = w' := by
  cases b
  all_goals
    go_enter Tryz.func246, Tryz.ntmps246
    go_wp2
    go_ret
    exact ⟨rfl, rfl⟩
theorem r03far_ (n : Int) (w : World) : Calls Tryz.prog 247 #[.int .i64 n] w fun e w' => e = .returned (.bool (farb n)) ∧ w = w' := by
  by_cases h : n < -128
  · go_enter Tryz.func247, Tryz.ntmps247
    go_wp2
    go_ret
    exact ⟨ret_bool (by simp only [farb, h, decide_true, Bool.true_or]), rfl⟩
  · go_enter Tryz.func247, Tryz.ntmps247
    go_wp2
    go_ret
    exact ⟨ret_bool (by simp only [farb, show ¬ n < -128 by omega, decide_false, Bool.false_or]), rfl⟩
theorem r03add_ (a b : Int) (c : Bool) (a0 : 0 ≤ a) (a1 : a ≤ 255) (b0 : 0 ≤ b) (b1 : b ≤ 255) (w : World) : Calls Tryz.prog 206 #[.int .u8 a, .int .u8 b, .bool c] w fun e w' => e = .returned (.tuple #[.int .u8 (addR a b c), .int .u8 (addF a b c)]) ∧ Below w.heap.size w w' := by
  have q := bw_range c
  have sa := sgn_range a a0 a1
  have sb := sgn_range b b0 b1
  go_enter Tryz.func206, Tryz.ntmps206
  go_wp2_with (first
    | (go_at_call 246; refine (r03one_ _ _).mono ?_; rintro e w1 ⟨rfl, rfl⟩)
    | (go_at_call 197; refine (r02result_ _ (by omega) (by omega) _).mono ?_; rintro e w1 ⟨rfl, hb1⟩)
    | (go_at_call 183; refine (r02of_ _ (by have := res_range ((a + b + bw c 1) % 256); omega) (by have := res_range ((a + b + bw c 1) % 256); omega) _).mono ?_; rintro e w2 ⟨rfl, hb2⟩)
    | (go_at_call 116; refine (r01signed_ _ (by omega) (by omega) _).mono ?_; rintro e w1 ⟨rfl, rfl⟩)
    | (go_at_call 247; refine (r03far_ _ _).mono ?_; rintro e w1 ⟨rfl, rfl⟩)
    | (go_at_call 185; refine (r02make_ _ _ _ _ _ _ _ _ _).mono ?_; rintro e w3 ⟨rfl, hb3⟩))
  go_ret2
  exact ⟨ret2 rfl (by simp only [res, bit7_mk, bit6_mk, bit5_mk, bit3_mk, bit1_mk]; rfl), bt hb1 (bt hb2 (((Below.refl _ _).alloc (Nat.le_refl _) _).trans (hb3.mono (by simp))))⟩
theorem r03sub_ (a b : Int) (c : Bool) (a0 : 0 ≤ a) (a1 : a ≤ 255) (b0 : 0 ≤ b) (b1 : b ≤ 255) (w : World) : Calls Tryz.prog 195 #[.int .u8 a, .int .u8 b, .bool c] w fun e w' => e = .returned (.tuple #[.int .u8 (subR a b c), .int .u8 (subF a b c)]) ∧ Below w.heap.size w w' := by
  have q := bw_range c
  have sa := sgn_range a a0 a1
  have sb := sgn_range b b0 b1
  have er : (a - b - bw c 1 + 512) % 256 = subR a b c := by unfold subR; omega
  go_enter Tryz.func195, Tryz.ntmps195
  go_wp2_with (first
    | (go_at_call 246; refine (r03one_ _ _).mono ?_; rintro e w1 ⟨rfl, rfl⟩)
    | (go_at_call 197; refine (r02result_ _ (by have := subR_range a b c; omega) (by have := subR_range a b c; omega) _).mono ?_; rintro e w1 ⟨rfl, hb1⟩)
    | (go_at_call 183; refine (r02of_ _ (by have := res_range (subR a b c); omega) (by have := res_range (subR a b c); omega) _).mono ?_; rintro e w2 ⟨rfl, hb2⟩)
    | (go_at_call 116; refine (r01signed_ _ (by omega) (by omega) _).mono ?_; rintro e w1 ⟨rfl, rfl⟩)
    | (go_at_call 247; refine (r03far_ _ _).mono ?_; rintro e w1 ⟨rfl, rfl⟩)
    | (go_at_call 185; refine (r02make_ _ _ _ _ _ _ _ _ _).mono ?_; rintro e w3 ⟨rfl, hb3⟩))
  go_ret2
  exact ⟨ret2 rfl (by simp only [res, bit7_mk, bit6_mk, bit5_mk, bit3_mk]; rfl), bt hb1 (bt hb2 (((Below.refl _ _).alloc (Nat.le_refl _) _).trans (hb3.mono (by simp))))⟩
theorem r03neg_ (a : Int) (a0 : 0 ≤ a) (a1 : a ≤ 255) (w : World) : Calls Tryz.prog 108 #[.int .u8 a] w fun e w' => e = .returned (.tuple #[.int .u8 (subR 0 a false), .int .u8 (subF 0 a false)]) ∧ Below w.heap.size w w' := by
  go_enter Tryz.func108, Tryz.ntmps108
  go_wp2_with (go_at_call 195; refine (r03sub_ _ _ _ (by omega) (by omega) a0 a1 _).mono ?_; rintro e w1 ⟨rfl, hb⟩)
  go_ret2
  exact ⟨rfl, hb⟩
theorem r03cmp_ (a b : Int) (a0 : 0 ≤ a) (a1 : a ≤ 255) (b0 : 0 ≤ b) (b1 : b ≤ 255) (w : World) : Calls Tryz.prog 210 #[.int .u8 a, .int .u8 b] w fun e w' => e = .returned (.int .u8 (cmpF a b)) ∧ Below w.heap.size w w' := by
  go_enter Tryz.func210, Tryz.ntmps210
  go_wp2_with (first
    | (go_at_call 195; refine (r03sub_ _ _ _ a0 a1 b0 b1 _).mono ?_; rintro e w1 ⟨rfl, hb1⟩)
    | (go_at_call 183; refine (r02of_ _ (by have := subF_range a b false; omega) (by have := subF_range a b false; omega) _).mono ?_; rintro e w2 ⟨rfl, hb2⟩)
    | (go_at_call 181; refine (r01is_ _ _ b0 b1 _).mono ?_; rintro e w1 ⟨rfl, rfl⟩)
    | (go_at_call 185; refine (r02make_ _ _ _ _ _ _ _ _ _).mono ?_; rintro e w3 ⟨rfl, hb3⟩))
  go_ret
  refine ⟨ret_int ?_, bt hb1 (bt hb2 (((Below.refl _ _).alloc (Nat.le_refl _) _).trans (hb3.mono (by simp))))⟩
  unfold cmpF
  rw [kp_mk]
  have e40 : ∀ j, j < 8 → bit j 40 = (decide (j = 5) || decide (j = 3)) := by decide
  simp (disch := decide) only [e40, isb]
  rfl
theorem r03inc_ (a f : Int) (a0 : 0 ≤ a) (a1 : a ≤ 255) (f0 : 0 ≤ f) (f1 : f ≤ 255) (w : World) : Calls Tryz.prog 251 #[.int .u8 a, .int .u8 f] w fun e w' => e = .returned (.tuple #[.int .u8 (addR a 1 false), .int .u8 (kp (addF a 1 false) f 1)]) ∧ Below w.heap.size w w' := by
  go_enter Tryz.func251, Tryz.ntmps251
  go_wp2_with (first
    | (go_at_call 206; refine (r03add_ _ _ _ a0 a1 (by omega) (by omega) _).mono ?_; rintro e w1 ⟨rfl, hb1⟩)
    | (go_at_call 183; refine (r02of_ _ (by have := addF_range a 1 false; omega) (by have := addF_range a 1 false; omega) _).mono ?_; rintro e w2 ⟨rfl, hb2⟩)
    | (go_at_call 181; refine (r01is_ _ _ f0 f1 _).mono ?_; rintro e w1 ⟨rfl, rfl⟩)
    | (go_at_call 185; refine (r02make_ _ _ _ _ _ _ _ _ _).mono ?_; rintro e w3 ⟨rfl, hb3⟩))
  go_ret2
  refine ⟨ret2 rfl ?_, bt hb1 (bt hb2 (((Below.refl _ _).alloc (Nat.le_refl _) _).trans (hb3.mono (by simp))))⟩
  rw [kp_mk]
  simp only [bit_1, isb]
  rfl
theorem r03dec_ (a f : Int) (a0 : 0 ≤ a) (a1 : a ≤ 255) (f0 : 0 ≤ f) (f1 : f ≤ 255) (w : World) : Calls Tryz.prog 252 #[.int .u8 a, .int .u8 f] w fun e w' => e = .returned (.tuple #[.int .u8 (subR a 1 false), .int .u8 (kp (subF a 1 false) f 1)]) ∧ Below w.heap.size w w' := by
  go_enter Tryz.func252, Tryz.ntmps252
  go_wp2_with (first
    | (go_at_call 195; refine (r03sub_ _ _ _ a0 a1 (by omega) (by omega) _).mono ?_; rintro e w1 ⟨rfl, hb1⟩)
    | (go_at_call 183; refine (r02of_ _ (by have := subF_range a 1 false; omega) (by have := subF_range a 1 false; omega) _).mono ?_; rintro e w2 ⟨rfl, hb2⟩)
    | (go_at_call 181; refine (r01is_ _ _ f0 f1 _).mono ?_; rintro e w1 ⟨rfl, rfl⟩)
    | (go_at_call 185; refine (r02make_ _ _ _ _ _ _ _ _ _).mono ?_; rintro e w3 ⟨rfl, hb3⟩))
  go_ret2
  refine ⟨ret2 rfl ?_, bt hb1 (bt hb2 (((Below.refl _ _).alloc (Nat.le_refl _) _).trans (hb3.mono (by simp))))⟩
  rw [kp_mk]
  simp only [bit_1, isb]
  rfl
end Go.Proofs.YtnaampdpkegacaaGreatDoor
