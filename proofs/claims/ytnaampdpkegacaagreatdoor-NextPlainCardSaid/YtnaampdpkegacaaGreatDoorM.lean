/-
  Plain lemmas on bytes and their bits: no program in sight. A helper of the claim that stands beside it.
-/
import Derived.Laws.Entries
import Derived.Laws.Bits
namespace Go.Proofs.YtnaampdpkegacaaGreatDoor
open Go
def bit (i : Nat) (x : Int) : Bool := decide (x / 2 ^ i % 2 = 1)
def bw (b : Bool) (n : Int) : Int := bif b then n else 0
def mk (s z y h x p n c : Bool) : Int := bw s 128 + bw z 64 + bw y 32 + bw h 16 + bw x 8 + bw p 4 + bw n 2 + bw c 1

theorem byte_all (p : Int → Prop) (h : ∀ n : Fin 256, p (n.val : Int)) (x : Int) (h0 : 0 ≤ x) (h1 : x ≤ 255) : p x := by
  have := h ⟨x.toNat, by omega⟩
  simpa [Int.toNat_of_nonneg h0] using this

theorem mk_bit (x : Int) (h0 : 0 ≤ x) (h1 : x ≤ 255) : mk (bit 7 x) (bit 6 x) (bit 5 x) (bit 4 x) (bit 3 x) (bit 2 x) (bit 1 x) (bit 0 x) = x :=
  byte_all (fun x => mk (bit 7 x) (bit 6 x) (bit 5 x) (bit 4 x) (bit 3 x) (bit 2 x) (bit 1 x) (bit 0 x) = x) (by decide +kernel) x h0 h1

section
variable (s z y h x p n c : Bool)
theorem mk_range : 0 ≤ mk s z y h x p n c ∧ mk s z y h x p n c ≤ 255 := by revert s z y h x p n c; decide +kernel
@[simp] theorem bit7_mk : bit 7 (mk s z y h x p n c) = s := by revert s z y h x p n c; decide +kernel
@[simp] theorem bit6_mk : bit 6 (mk s z y h x p n c) = z := by revert s z y h x p n c; decide +kernel
@[simp] theorem bit5_mk : bit 5 (mk s z y h x p n c) = y := by revert s z y h x p n c; decide +kernel
@[simp] theorem bit4_mk : bit 4 (mk s z y h x p n c) = h := by revert s z y h x p n c; decide +kernel
@[simp] theorem bit3_mk : bit 3 (mk s z y h x p n c) = x := by revert s z y h x p n c; decide +kernel
@[simp] theorem bit2_mk : bit 2 (mk s z y h x p n c) = p := by revert s z y h x p n c; decide +kernel
@[simp] theorem bit1_mk : bit 1 (mk s z y h x p n c) = n := by revert s z y h x p n c; decide +kernel
@[simp] theorem bit0_mk : bit 0 (mk s z y h x p n c) = c := by revert s z y h x p n c; decide +kernel
end

theorem byte_ext {a b : Int} (a0 : 0 ≤ a) (a1 : a ≤ 255) (b0 : 0 ≤ b) (b1 : b ≤ 255) (h7 : bit 7 a = bit 7 b) (h6 : bit 6 a = bit 6 b) (h5 : bit 5 a = bit 5 b) (h4 : bit 4 a = bit 4 b)
    (h3 : bit 3 a = bit 3 b) (h2 : bit 2 a = bit 2 b) (h1 : bit 1 a = bit 1 b) (h0 : bit 0 a = bit 0 b) : a = b := by
  rw [← mk_bit a a0 a1, ← mk_bit b b0 b1, h7, h6, h5, h4, h3, h2, h1, h0]

theorem bit_nat (i n : Nat) : bit i (n : Int) = n.testBit i := by
  unfold bit
  rw [Nat.testBit_eq_decide_div_mod_eq]
  congr 1
  have : ((n : Int) / 2 ^ i % 2) = ((n / 2 ^ i % 2 : Nat) : Int) := by push_cast; rfl
  rw [this]
  simp; omega

theorem bits_nat (op : BinOp) (a b : Nat)  : bits op .u8 (a : Int) (b : Int) =
    (((match op with | .and => BitVec.ofNat 8 a &&& BitVec.ofNat 8 b | .or => BitVec.ofNat 8 a ||| BitVec.ofNat 8 b | .xor => BitVec.ofNat 8 a ^^^ BitVec.ofNat 8 b | _ => BitVec.ofNat 8 a &&& ~~~ BitVec.ofNat 8 b).toNat : Nat) : Int) := by
  have ha' : BitVec.ofInt 8 (a : Int) = BitVec.ofNat 8 a := by apply BitVec.eq_of_toNat_eq; simp
  have hb' : BitVec.ofInt 8 (b : Int) = BitVec.ofNat 8 b := by apply BitVec.eq_of_toNat_eq; simp
  simp only [bits, IntKind.bits, ha', hb']
  have hr : ∀ v : BitVec 8, IntKind.u8.wrap (v.toNat : Int) = (v.toNat : Int) := by
    intro v; have := v.isLt; simp only [IntKind.wrap_u8]; omega
  cases op <;> exact hr _

theorem bits_range (op : BinOp) (a b : Int) : 0 ≤ bits op .u8 a b ∧ bits op .u8 a b ≤ 255 := by
  simp only [bits, IntKind.wrap_u8]; omega


theorem bit_mod (i : Nat) (hi : i < 8) (a : Int) : bit i (a % 256) = bit i a := by
  unfold bit
  congr 1
  have h : i = 0 ∨ i = 1 ∨ i = 2 ∨ i = 3 ∨ i = 4 ∨ i = 5 ∨ i = 6 ∨ i = 7 := by omega
  rcases h with rfl | rfl | rfl | rfl | rfl | rfl | rfl | rfl <;> simp only [Int.reducePow] <;> (apply propext; omega)

theorem bits_mod (op : BinOp) (a b : Int) : bits op .u8 (a % 256) (b % 256) = bits op .u8 a b := by
  have h : ∀ a : Int, BitVec.ofInt 8 (a % 256) = BitVec.ofInt 8 a := by
    intro a; apply BitVec.eq_of_toNat_eq; simp
  simp only [bits, IntKind.bits, h]

theorem byte_nat (a : Int) : ∃ n : Nat, n < 256 ∧ a % 256 = (n : Int) := ⟨(a % 256).toNat, by omega, by omega⟩

section
variable (i : Nat) (hi : i < 8) (a b : Int)
include hi
theorem bit_and : bit i (bits .and .u8 a b) = (bit i a && bit i b) := by
  rw [← bits_mod, ← bit_mod i hi a, ← bit_mod i hi b]
  obtain ⟨a, ha, ea⟩ := byte_nat a; obtain ⟨b, hb, eb⟩ := byte_nat b
  rw [ea, eb, bits_nat]
  simp only [bit_nat, BitVec.toNat_and, BitVec.toNat_ofNat, Nat.testBit_and]
  rw [Nat.mod_eq_of_lt (by omega), Nat.mod_eq_of_lt (by omega)]
theorem bit_or : bit i (bits .or .u8 a b) = (bit i a || bit i b) := by
  rw [← bits_mod, ← bit_mod i hi a, ← bit_mod i hi b]
  obtain ⟨a, ha, ea⟩ := byte_nat a; obtain ⟨b, hb, eb⟩ := byte_nat b
  rw [ea, eb, bits_nat]
  simp only [bit_nat, BitVec.toNat_or, BitVec.toNat_ofNat, Nat.testBit_or]
  rw [Nat.mod_eq_of_lt (by omega), Nat.mod_eq_of_lt (by omega)]
theorem bit_xor : bit i (bits .xor .u8 a b) = (bit i a ^^ bit i b) := by
  rw [← bits_mod, ← bit_mod i hi a, ← bit_mod i hi b]
  obtain ⟨a, ha, ea⟩ := byte_nat a; obtain ⟨b, hb, eb⟩ := byte_nat b
  rw [ea, eb, bits_nat]
  simp only [bit_nat, BitVec.toNat_xor, BitVec.toNat_ofNat, Nat.testBit_xor]
  rw [Nat.mod_eq_of_lt (by omega), Nat.mod_eq_of_lt (by omega)]
theorem bit_andNot : bit i (bits .andNot .u8 a b) = (bit i a && !bit i b) := by
  rw [← bits_mod, ← bit_mod i hi a, ← bit_mod i hi b]
  obtain ⟨a, ha, ea⟩ := byte_nat a; obtain ⟨b, hb, eb⟩ := byte_nat b
  rw [ea, eb, bits_nat]
  simp only [bit_nat, BitVec.toNat_and, BitVec.toNat_not, BitVec.toNat_ofNat, Nat.testBit_and]
  rw [Nat.mod_eq_of_lt (by omega), Nat.mod_eq_of_lt (by omega)]
  congr 1
  have := Nat.testBit_two_pow_sub_succ (x := b) (n := 8) (by omega) i
  rw [show 2 ^ 8 - 1 - b = 2 ^ 8 - (b + 1) by omega, this]
  simp [hi]
end

/-- A byte with a bit set, or not. -/
def wth (b n : Int) (on : Bool) : Int := bif (decide (0 ≤ n) && decide (n < 8)) then (bif on then bits .or .u8 b (2 ^ n.toNat % 256) else bits .andNot .u8 b (2 ^ n.toNat % 256)) else b
def isb (b n : Int) : Bool := decide (0 ≤ n) && decide (n < 8) && bit n.toNat b
theorem bit_one (i n : Nat) (hn : n < 8) : bit i (2 ^ n % 256) = decide (i = n) := by
  have h : ((2 : Int) ^ n % 256) = ((2 ^ n : Nat) : Int) := by
    have h : n = 0 ∨ n = 1 ∨ n = 2 ∨ n = 3 ∨ n = 4 ∨ n = 5 ∨ n = 6 ∨ n = 7 := by omega
    rcases h with rfl | rfl | rfl | rfl | rfl | rfl | rfl | rfl <;> rfl
  rw [h, bit_nat, Nat.testBit_two_pow]
  simp [eq_comm]
theorem bit_wth (i : Nat) (hi : i < 8) (b : Int) (n : Nat) (hn : n < 8) (on : Bool) : bit i (wth b n on) = bif i == n then on else bit i b := by
  have h : (decide ((0 : Int) ≤ n) && decide ((n : Int) < 8)) = true := by simp; omega
  unfold wth
  rw [h]
  cases on <;> simp only [cond_true, cond_false, Int.toNat_natCast, bit_or i hi, bit_andNot i hi, bit_one i n hn] <;> by_cases e : i = n <;> simp [e]
theorem wth_range (b n : Int) (on : Bool) (h0 : 0 ≤ b) (h1 : b ≤ 255) : 0 ≤ wth b n on ∧ wth b n on ≤ 255 := by
  unfold wth
  cases (decide (0 ≤ n) && decide (n < 8)) <;> cases on <;> simp only [cond_true, cond_false] <;> first | exact ⟨h0, h1⟩ | exact bits_range _ _ _
/-- Eight bits set one behind the other. -/
theorem make_mk (s z y h x p n c : Bool) : wth (wth (wth (wth (wth (wth (wth (wth 0 7 s) 6 z) 5 y) 4 h) 3 x) 2 p) 1 n) 0 c = mk s z y h x p n c := by
  revert s z y h x p n c; decide +kernel
theorem ret_int {k : IntKind} {a b : Int} (h : a = b) : Ending.returned (.int k a) = .returned (.int k b) := by rw [h]
theorem ret_bool {a b : Bool} (h : a = b) : Ending.returned (.bool a) = .returned (.bool b) := by rw [h]
theorem band1 (x : Int) : bits .and .u8 x 1 = x % 2 := by
  have h := bits_range .and x 1
  have e : bit 0 (bits .and .u8 x 1) = bit 0 x := by rw [bit_and 0 (by decide)]; simp [show bit 0 1 = true from rfl]
  have f : ∀ i, 0 < i → i < 8 → bit i (bits .and .u8 x 1) = false := fun i h0 hi => by
    rw [bit_and i hi]
    have : i = 1 ∨ i = 2 ∨ i = 3 ∨ i = 4 ∨ i = 5 ∨ i = 6 ∨ i = 7 := by omega
    rcases this with rfl | rfl | rfl | rfl | rfl | rfl | rfl <;> simp [bit]
  rw [← mk_bit _ h.1 h.2, f 7 (by decide) (by decide), f 6 (by decide) (by decide), f 5 (by decide) (by decide), f 4 (by decide) (by decide), f 3 (by decide) (by decide),
    f 2 (by decide) (by decide), f 1 (by decide) (by decide), e]
  unfold bit mk bw
  by_cases hx : x % 2 = 1
  · simp [hx]
  · simp [hx]; omega
theorem isb_of (b n : Int) (h0 : 0 ≤ n) (h1 : n < 8) : isb b n = (b / 2 ^ n.toNat % 2 == 1) := by
  simp [isb, h0, h1, bit, BEq.beq]
/-- S, Z, Y and X of a result. -/
def res (r : Int) : Int := mk (bit 7 r) (decide (r = 0)) (bit 5 r) false (bit 3 r) false false false
theorem wth_eq (n : Nat) (hn : n < 8) (on : Bool) (b : Int) (h0 : 0 ≤ b) (h1 : b ≤ 255) : wth b n on = (b + (bif isb b n then (bif on then 0 else - 2 ^ n) else (bif on then 2 ^ n else 0))) % 256 :=
  byte_all (fun b => wth b n on = (b + (bif isb b n then (bif on then 0 else - 2 ^ n) else (bif on then 2 ^ n else 0))) % 256)
    ((by decide +kernel : ∀ (n : Fin 8) (on : Bool) (b : Fin 256), wth (b.val : Int) (n.val : Int) on = ((b.val : Int) + (bif isb (b.val : Int) (n.val : Int) then (bif on then 0 else - 2 ^ n.val) else (bif on then 2 ^ n.val else 0))) % 256) ⟨n, hn⟩ on) b h0 h1
/-- How many of the first k bits are set. -/
def cnt (b : Int) : Nat → Int
  | 0 => 0
  | k + 1 => cnt b k + bw (isb b k) 1
theorem cnt_range (b : Int) (k : Nat) : 0 ≤ cnt b k ∧ cnt b k ≤ k := by
  induction k with
  | zero => exact ⟨Int.le_refl _, Int.le_refl _⟩
  | succ k ih => unfold cnt; cases isb b k <;> simp only [bw, cond_true, cond_false] <;> omega
def evb (b : Int) : Bool := decide (cnt b 8 % 2 = 0)
/-- S, Z, Y and X of a result, and P. -/
def evf (r : Int) : Int := mk (bit 7 r) (decide (r = 0)) (bit 5 r) false (bit 3 r) (evb r) false false
def tst (f cond : Int) : Bool := if cond = 0 then !bit 6 f else if cond = 1 then bit 6 f else if cond = 2 then !bit 0 f else if cond = 3 then bit 0 f else if cond = 4 then !bit 2 f else if cond = 5 then bit 2 f
  else if cond = 6 then !bit 7 f else if cond = 7 then bit 7 f else false
def kp (f old mask : Int) : Int := bits .or .u8 (bits .andNot .u8 f mask) (bits .and .u8 old mask)
theorem bit_kp (i : Nat) (hi : i < 8) (f old mask : Int) : bit i (kp f old mask) = bif bit i mask then bit i old else bit i f := by
  unfold kp; rw [bit_or i hi, bit_andNot i hi, bit_and i hi]; cases bit i mask <;> simp
theorem kp_range (f old mask : Int) : 0 ≤ kp f old mask ∧ kp f old mask ≤ 255 := bits_range _ _ _
theorem kp_mk (f old mask : Int) : kp f old mask = mk (bif bit 7 mask then bit 7 old else bit 7 f) (bif bit 6 mask then bit 6 old else bit 6 f) (bif bit 5 mask then bit 5 old else bit 5 f)
    (bif bit 4 mask then bit 4 old else bit 4 f) (bif bit 3 mask then bit 3 old else bit 3 f) (bif bit 2 mask then bit 2 old else bit 2 f) (bif bit 1 mask then bit 1 old else bit 1 f) (bif bit 0 mask then bit 0 old else bit 0 f) := by
  rw [← mk_bit _ (kp_range f old mask).1 (kp_range f old mask).2]
  simp only [bit_kp 7 (by decide), bit_kp 6 (by decide), bit_kp 5 (by decide), bit_kp 4 (by decide), bit_kp 3 (by decide), bit_kp 2 (by decide), bit_kp 1 (by decide), bit_kp 0 (by decide)]
def sgn (b : Int) : Int := bif decide (b < 128) then b else b - 256
def farb (n : Int) : Bool := decide (n < -128) || decide (127 < n)
def addR (a b : Int) (c : Bool) : Int := (a + b + bw c 1) % 256
def addF (a b : Int) (c : Bool) : Int := mk (bit 7 (addR a b c)) (decide (addR a b c = 0)) (bit 5 (addR a b c)) (decide (15 < a % 16 + b % 16 + bw c 1)) (bit 3 (addR a b c)) (farb (sgn a + sgn b + bw c 1)) false (decide (255 < a + b + bw c 1))
def subR (a b : Int) (c : Bool) : Int := (a - b - bw c 1) % 256
def subF (a b : Int) (c : Bool) : Int := mk (bit 7 (subR a b c)) (decide (subR a b c = 0)) (bit 5 (subR a b c)) (decide (a % 16 - b % 16 - bw c 1 < 0)) (bit 3 (subR a b c)) (farb (sgn a - sgn b - bw c 1)) true (decide (a - b - bw c 1 < 0))
def cmpF (a b : Int) : Int := kp (subF a b false) b 40
theorem addR_range (a b : Int) (c : Bool) : 0 ≤ addR a b c ∧ addR a b c ≤ 255 := by unfold addR; omega
theorem subR_range (a b : Int) (c : Bool) : 0 ≤ subR a b c ∧ subR a b c ≤ 255 := by unfold subR; omega
theorem addF_range (a b : Int) (c : Bool) : 0 ≤ addF a b c ∧ addF a b c ≤ 255 := mk_range _ _ _ _ _ _ _ _
theorem subF_range (a b : Int) (c : Bool) : 0 ≤ subF a b c ∧ subF a b c ≤ 255 := mk_range _ _ _ _ _ _ _ _
theorem res_range (r : Int) : 0 ≤ res r ∧ res r ≤ 255 := mk_range _ _ _ _ _ _ _ _
theorem evf_range (r : Int) : 0 ≤ evf r ∧ evf r ≤ 255 := mk_range _ _ _ _ _ _ _ _
theorem cmpF_range (a b : Int) : 0 ≤ cmpF a b ∧ cmpF a b ≤ 255 := kp_range _ _ _
theorem bw_range (c : Bool) : 0 ≤ bw c 1 ∧ bw c 1 ≤ 1 := by cases c <;> decide
theorem res_eq (r : Int) (h : ¬ r = 0) : bits .and .u8 r 168 = res r := by
  have k := bits_range .and r 168
  have m := res_range r
  refine byte_ext k.1 k.2 m.1 m.2 ?_ ?_ ?_ ?_ ?_ ?_ ?_ ?_ <;> simp only [res, bit7_mk, bit6_mk, bit5_mk, bit4_mk, bit3_mk, bit2_mk, bit1_mk, bit0_mk, bit_and _ (show 7 < 8 by decide), bit_and _ (show 6 < 8 by decide), bit_and _ (show 5 < 8 by decide), bit_and _ (show 4 < 8 by decide), bit_and _ (show 3 < 8 by decide), bit_and _ (show 2 < 8 by decide), bit_and _ (show 1 < 8 by decide), bit_and _ (show 0 < 8 by decide), h] <;> simp [show bit 7 168 = true from rfl, show bit 6 168 = false from rfl, show bit 5 168 = true from rfl, show bit 4 168 = false from rfl, show bit 3 168 = true from rfl, show bit 2 168 = false from rfl, show bit 1 168 = false from rfl, show bit 0 168 = false from rfl]
theorem bit_two (j i : Nat) : bit j (2 ^ i) = decide (j = i) := by
  have h : ((2 : Int) ^ i) = ((2 ^ i : Nat) : Int) := by push_cast; rfl
  rw [h, bit_nat, Nat.testBit_two_pow]
  simp [eq_comm]
theorem band_pow (i : Nat) (hi : i < 8) (f : Int) : bits .and .u8 f (2 ^ i) = bw (bit i f) (2 ^ i) := by
  have k := bits_range .and f (2 ^ i)
  have h := hi
  have m : (0 : Int) ≤ bw (bit i f) (2 ^ i) ∧ bw (bit i f) (2 ^ i) ≤ 255 := by
    have h : i = 0 ∨ i = 1 ∨ i = 2 ∨ i = 3 ∨ i = 4 ∨ i = 5 ∨ i = 6 ∨ i = 7 := by omega
    rcases h with rfl | rfl | rfl | rfl | rfl | rfl | rfl | rfl <;> cases bit _ f <;> decide
  have e : ∀ j, j < 8 → bit j (bits .and .u8 f (2 ^ i)) = bit j (bw (bit i f) (2 ^ i)) := fun j hj => by
    rw [bit_and j hj, bit_two j i]
    by_cases ji : j = i
    · subst ji
      cases hb : bit j f
      · simp [bw, bit]
      · simp [bw, bit_two j j]
    · cases hb : bit i f
      · simp [bw, bit, ji]
      · simp [bw, bit_two j i, ji]
  exact byte_ext k.1 k.2 m.1 m.2 (e 7 (by decide)) (e 6 (by decide)) (e 5 (by decide)) (e 4 (by decide)) (e 3 (by decide)) (e 2 (by decide)) (e 1 (by decide)) (e 0 (by decide))
theorem band_ne (i : Nat) (hi : i < 8) (f : Int) : (bits .and .u8 f (2 ^ i) != 0) = bit i f := by
  rw [band_pow i hi]
  have h : i = 0 ∨ i = 1 ∨ i = 2 ∨ i = 3 ∨ i = 4 ∨ i = 5 ∨ i = 6 ∨ i = 7 := by omega
  rcases h with rfl | rfl | rfl | rfl | rfl | rfl | rfl | rfl <;> cases bit _ f <;> decide
theorem ne1 (f : Int) : (bits .and .u8 f 1 != 0) = bit 0 f := band_ne 0 (by decide) f
theorem ne2 (f : Int) : (bits .and .u8 f 2 != 0) = bit 1 f := band_ne 1 (by decide) f
theorem ne4 (f : Int) : (bits .and .u8 f 4 != 0) = bit 2 f := band_ne 2 (by decide) f
theorem ne8 (f : Int) : (bits .and .u8 f 8 != 0) = bit 3 f := band_ne 3 (by decide) f
theorem ne16 (f : Int) : (bits .and .u8 f 16 != 0) = bit 4 f := band_ne 4 (by decide) f
theorem ne32 (f : Int) : (bits .and .u8 f 32 != 0) = bit 5 f := band_ne 5 (by decide) f
theorem ne64 (f : Int) : (bits .and .u8 f 64 != 0) = bit 6 f := band_ne 6 (by decide) f
theorem ne128 (f : Int) : (bits .and .u8 f 128 != 0) = bit 7 f := band_ne 7 (by decide) f
theorem bit_0 (j : Nat) : bit j 0 = false := by simp [bit]
theorem bit_1 (j : Nat) : bit j 1 = decide (j = 0) := bit_two j 0
theorem bit_2 (j : Nat) : bit j 2 = decide (j = 1) := bit_two j 1
theorem bit_4 (j : Nat) : bit j 4 = decide (j = 2) := bit_two j 2
theorem bit_8 (j : Nat) : bit j 8 = decide (j = 3) := bit_two j 3
theorem bit_16 (j : Nat) : bit j 16 = decide (j = 4) := bit_two j 4
theorem bit_32 (j : Nat) : bit j 32 = decide (j = 5) := bit_two j 5
theorem bit_64 (j : Nat) : bit j 64 = decide (j = 6) := bit_two j 6
theorem bit_128 (j : Nat) : bit j 128 = decide (j = 7) := bit_two j 7
theorem bit_bw (j : Nat) (b : Bool) (k : Int) : bit j (bw b k) = (b && bit j k) := by cases b <;> simp [bw, bit_0]
theorem sgn_range (b : Int) (h0 : 0 ≤ b) (h1 : b ≤ 255) : -128 ≤ sgn b ∧ sgn b ≤ 127 := by unfold sgn; by_cases h : b < 128 <;> simp [h] <;> omega
theorem bit7_ge (b : Int) (h0 : 0 ≤ b) (h1 : b ≤ 255) : bit 7 b = decide (128 ≤ b) := by unfold bit; congr 1; apply propext; simp only [Int.reducePow]; omega
theorem add_eq (a b : Int) (c : Bool) (a0 : 0 ≤ a) (a1 : a ≤ 255) (b0 : 0 ≤ b) (b1 : b ≤ 255) :
    bits .or .u8 (bits .or .u8 (bits .or .u8 (bits .or .u8 0 (res ((a + b + bw c 1) % 256))) (bits .and .u8 (bits .xor .u8 (bits .xor .u8 a b) ((a + b + bw c 1) % 256)) 16))
      (bw (bits .and .u8 (bits .and .u8 (bits .xor .u8 a ((a + b + bw c 1) % 256)) (bits .xor .u8 b ((a + b + bw c 1) % 256))) 128 != 0) 4)) (bw (decide (255 < a + b + bw c 1)) 1) = addF a b c := by
  have m := addF_range a b c
  have q := bw_range c
  have k := bits_range .or (bits .or .u8 (bits .or .u8 (bits .or .u8 0 (res ((a + b + bw c 1) % 256))) (bits .and .u8 (bits .xor .u8 (bits .xor .u8 a b) ((a + b + bw c 1) % 256)) 16))
      (bw (bits .and .u8 (bits .and .u8 (bits .xor .u8 a ((a + b + bw c 1) % 256)) (bits .xor .u8 b ((a + b + bw c 1) % 256))) 128 != 0) 4)) (bw (decide (255 < a + b + bw c 1)) 1)
  refine byte_ext k.1 k.2 m.1 m.2 ?_ ?_ ?_ ?_ ?_ ?_ ?_ ?_ <;> simp (disch := decide) only [ne128, bit_or, bit_and, bit_xor, bit_bw, bit_0, bit_1, bit_4, bit_16, res, addF, addR, bit7_mk, bit6_mk, bit5_mk, bit4_mk, bit3_mk, bit2_mk, bit1_mk, bit0_mk] <;> simp
  all_goals first
    | rfl
    | (unfold bit; simp only [Int.reducePow]; by_cases h1 : a / 16 % 2 = 1 <;> by_cases h2 : b / 16 % 2 = 1 <;> by_cases h3 : (a + b + bw c 1) % 256 / 16 % 2 = 1 <;> simp [h1, h2, h3] <;> omega)
    | (rw [bit7_ge a a0 a1, bit7_ge b b0 b1, bit7_ge _ (by omega) (by omega)]; unfold farb sgn; by_cases h1 : a < 128 <;> by_cases h2 : b < 128 <;> by_cases h3 : 128 ≤ (a + b + bw c 1) % 256 <;> simp [h1, h2, h3, show (128 ≤ a) ↔ ¬ a < 128 by omega, show (128 ≤ b) ↔ ¬ b < 128 by omega] <;> omega)
    | omega
theorem sub_eq (a b : Int) (c : Bool) (a0 : 0 ≤ a) (a1 : a ≤ 255) (b0 : 0 ≤ b) (b1 : b ≤ 255) :
    bits .or .u8 (bits .or .u8 (bits .or .u8 (bits .or .u8 (bits .or .u8 0 (res ((a - b - bw c 1) % 65536 % 256))) (bits .and .u8 (bits .xor .u8 (bits .xor .u8 a b) ((a - b - bw c 1) % 65536 % 256)) 16))
      (bw (bits .and .u8 (bits .and .u8 (bits .xor .u8 a b) (bits .xor .u8 a ((a - b - bw c 1) % 65536 % 256))) 128 != 0) 4)) 2) (bw (decide (255 < (a - b - bw c 1) % 65536)) 1) = subF a b c := by
  have m := subF_range a b c
  have q := bw_range c
  have e : (a - b - bw c 1) % 65536 % 256 = (a - b - bw c 1) % 256 := by omega
  rw [e]
  have k := bits_range .or (bits .or .u8 (bits .or .u8 (bits .or .u8 (bits .or .u8 0 (res ((a - b - bw c 1) % 256))) (bits .and .u8 (bits .xor .u8 (bits .xor .u8 a b) ((a - b - bw c 1) % 256)) 16))
      (bw (bits .and .u8 (bits .and .u8 (bits .xor .u8 a b) (bits .xor .u8 a ((a - b - bw c 1) % 256))) 128 != 0) 4)) 2) (bw (decide (255 < (a - b - bw c 1) % 65536)) 1)
  refine byte_ext k.1 k.2 m.1 m.2 ?_ ?_ ?_ ?_ ?_ ?_ ?_ ?_ <;> simp (disch := decide) only [ne128, bit_or, bit_and, bit_xor, bit_bw, bit_0, bit_1, bit_2, bit_4, bit_16, res, subF, subR, bit7_mk, bit6_mk, bit5_mk, bit4_mk, bit3_mk, bit2_mk, bit1_mk, bit0_mk] <;> simp
  all_goals first
    | rfl
    | (unfold bit; simp only [Int.reducePow]; by_cases h1 : a / 16 % 2 = 1 <;> by_cases h2 : b / 16 % 2 = 1 <;> by_cases h3 : (a - b - bw c 1) % 256 / 16 % 2 = 1 <;> simp [h1, h2, h3] <;> omega)
    | (rw [bit7_ge a a0 a1, bit7_ge b b0 b1, bit7_ge _ (by omega) (by omega)]; unfold farb sgn; by_cases h1 : a < 128 <;> by_cases h2 : b < 128 <;> by_cases h3 : 128 ≤ (a - b - bw c 1) % 256 <;> simp [h1, h2, h3, show (128 ≤ a) ↔ ¬ a < 128 by omega, show (128 ≤ b) ↔ ¬ b < 128 by omega] <;> omega)
    | omega
theorem cmp_bits (a b : Int) (a0 : 0 ≤ a) (a1 : a ≤ 255) (b0 : 0 ≤ b) (b1 : b ≤ 255) :
    bit 6 (cmpF a b) = decide (a = b) ∧ bit 0 (cmpF a b) = decide (a < b) ∧ bit 7 (cmpF a b) = decide (128 ≤ subR a b false) ∧ bit 2 (cmpF a b) = farb (sgn a - sgn b) ∧ bit 1 (cmpF a b) = true := by
  have r := subR_range a b false
  unfold cmpF
  have e40 : ∀ j, j < 8 → bit j 40 = (decide (j = 5) || decide (j = 3)) := by decide
  simp (disch := decide) only [bit_kp, e40, subF, bit7_mk, bit6_mk, bit2_mk, bit1_mk, bit0_mk]
  refine ⟨?_, ?_, ?_, ?_, ?_⟩
  · simp only [subR, bw, cond_false]; by_cases h : a = b <;> simp [h] <;> omega
  · simp only [bw, cond_false]; by_cases h : a < b <;> simp [h] <;> omega
  · rw [bit7_ge _ r.1 r.2]; simp
  · simp [bw]
  · simp
theorem lower_signed (a b : Int) (a0 : 0 ≤ a) (a1 : a ≤ 255) (b0 : 0 ≤ b) (b1 : b ≤ 255) : (bit 7 (cmpF a b) == bit 2 (cmpF a b)) = !decide (sgn a < sgn b) := by
  have h := cmp_bits a b a0 a1 b0 b1
  rw [h.2.2.1, h.2.2.2.1]
  unfold farb sgn subR
  simp only [bw, cond_false, Int.sub_zero]
  by_cases h1 : a < 128 <;> by_cases h2 : b < 128 <;> by_cases h3 : 128 ≤ (a - b) % 256 <;> simp only [h1, h2, h3, decide_true, decide_false, cond_true, cond_false] <;> rw [Bool.eq_iff_iff] <;> simp <;> omega
theorem sgn_wrap (a : Int) (a0 : 0 ≤ a) (a1 : a ≤ 255) : IntKind.i8.wrap a = sgn a := by
  unfold sgn
  by_cases h : a < 128
  · simp only [h, decide_true, cond_true, IntKind.wrap, IntKind.bits, IntKind.signed]; simp; omega
  · simp only [h, decide_false, cond_false, IntKind.wrap, IntKind.bits, IntKind.signed]; simp; omega
section
variable (f : Int)
theorem tst_0 : tst f 0 = !bit 6 f := rfl
theorem tst_1 : tst f 1 = bit 6 f := rfl
theorem tst_2 : tst f 2 = !bit 0 f := rfl
theorem tst_3 : tst f 3 = bit 0 f := rfl
theorem tst_4 : tst f 4 = !bit 2 f := rfl
theorem tst_5 : tst f 5 = bit 2 f := rfl
theorem tst_6 : tst f 6 = !bit 7 f := rfl
theorem tst_7 : tst f 7 = bit 7 f := rfl
end
/-- The bits that are set, below k. -/
def setl (b : Int) : Nat → List Int
  | 0 => []
  | k + 1 => setl b k ++ bif isb b k then [(k : Int)] else []
theorem setl_len (b : Int) (k : Nat) : (setl b k).length ≤ k := by
  induction k with
  | zero => simp [setl]
  | succ k ih => simp only [setl, List.length_append]; cases isb b k <;> simp <;> omega
theorem setl_cnt (b : Int) (k : Nat) : ((setl b k).length : Int) = cnt b k := by
  induction k with
  | zero => simp [setl, cnt]
  | succ k ih => simp only [setl, cnt, List.length_append]; cases isb b k <;> simp [bw, ih]
theorem setl_pre (b : Int) (k m : Nat) (h : k ≤ m) : setl b k <+: setl b m := by
  induction m with
  | zero => obtain rfl : k = 0 := by omega
            exact List.prefix_refl _
  | succ m ih =>
    by_cases e : k = m + 1
    · subst e; exact List.prefix_refl _
    · exact (ih (by omega)).trans (List.prefix_append _ _)
theorem setl_yes (b : Int) (k : Nat) (h : isb b k = true) : setl b k ++ [(k : Int)] = setl b (k + 1) := by simp [setl, h]
theorem setl_no (b : Int) (k : Nat) (h : isb b k = false) : setl b k = setl b (k + 1) := by simp [setl, h]
def par (l : List Int) : Bool := decide (l.length % 2 = 0)
theorem par_snoc (l : List Int) (x : Int) : par (l ++ [x]) = !par l := by
  unfold par
  simp only [List.length_append, List.length_cons, List.length_nil]
  by_cases h : l.length % 2 = 0 <;> simp [h] <;> omega
theorem par_setl (b : Int) : par (setl b 8) = evb b := by
  unfold par evb
  rw [← setl_cnt]
  congr 1
  apply propext; omega
theorem evf_no (r : Int) (h : evb r = false) : res r = evf r := by unfold res evf; rw [h]
theorem evf_yes (r : Int) (h : evb r = true) : bits .or .u8 (res r) 4 = evf r := by
  have k := bits_range .or (res r) 4
  have m := evf_range r
  refine byte_ext k.1 k.2 m.1 m.2 ?_ ?_ ?_ ?_ ?_ ?_ ?_ ?_ <;> simp (disch := decide) only [bit_or, bit_4, res, evf, h, bit7_mk, bit6_mk, bit5_mk, bit4_mk, bit3_mk, bit2_mk, bit1_mk, bit0_mk] <;> simp
end Go.Proofs.YtnaampdpkegacaaGreatDoor
