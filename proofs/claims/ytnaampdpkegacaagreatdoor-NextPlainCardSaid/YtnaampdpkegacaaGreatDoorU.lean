/-
  Plain lemmas on bytes of bits; contracts of the package logic. A helper of the claim that stands beside it.
-/
import Derived.Test.YtnaampdpkegacaaGreatDoorT
namespace Go.Proofs.YtnaampdpkegacaaGreatDoor
open Go.RowKit

/-! Bytes of bits, against each other. -/
theorem mk_or (s z y h x p n c s' z' y' h' x' p' n' c' : Bool) : bits .or .u8 (mk s z y h x p n c) (mk s' z' y' h' x' p' n' c') = mk (s || s') (z || z') (y || y') (h || h') (x || x') (p || p') (n || n') (c || c') := by
  have hr := bits_range .or (mk s z y h x p n c) (mk s' z' y' h' x' p' n' c')
  have hm := mk_range (s || s') (z || z') (y || y') (h || h') (x || x') (p || p') (n || n') (c || c')
  refine byte_ext hr.1 hr.2 hm.1 hm.2 ?_ ?_ ?_ ?_ ?_ ?_ ?_ ?_ <;> simp (disch := decide) only [bit_or, bit7_mk, bit6_mk, bit5_mk, bit4_mk, bit3_mk, bit2_mk, bit1_mk, bit0_mk]
theorem mk_and (s z y h x p n c s' z' y' h' x' p' n' c' : Bool) : bits .and .u8 (mk s z y h x p n c) (mk s' z' y' h' x' p' n' c') = mk (s && s') (z && z') (y && y') (h && h') (x && x') (p && p') (n && n') (c && c') := by
  have hr := bits_range .and (mk s z y h x p n c) (mk s' z' y' h' x' p' n' c')
  have hm := mk_range (s && s') (z && z') (y && y') (h && h') (x && x') (p && p') (n && n') (c && c')
  refine byte_ext hr.1 hr.2 hm.1 hm.2 ?_ ?_ ?_ ?_ ?_ ?_ ?_ ?_ <;> simp (disch := decide) only [bit_and, bit7_mk, bit6_mk, bit5_mk, bit4_mk, bit3_mk, bit2_mk, bit1_mk, bit0_mk]
theorem mk_xor (s z y h x p n c s' z' y' h' x' p' n' c' : Bool) : bits .xor .u8 (mk s z y h x p n c) (mk s' z' y' h' x' p' n' c') = mk (s ^^ s') (z ^^ z') (y ^^ y') (h ^^ h') (x ^^ x') (p ^^ p') (n ^^ n') (c ^^ c') := by
  have hr := bits_range .xor (mk s z y h x p n c) (mk s' z' y' h' x' p' n' c')
  have hm := mk_range (s ^^ s') (z ^^ z') (y ^^ y') (h ^^ h') (x ^^ x') (p ^^ p') (n ^^ n') (c ^^ c')
  refine byte_ext hr.1 hr.2 hm.1 hm.2 ?_ ?_ ?_ ?_ ?_ ?_ ?_ ?_ <;> simp (disch := decide) only [bit_xor, bit7_mk, bit6_mk, bit5_mk, bit4_mk, bit3_mk, bit2_mk, bit1_mk, bit0_mk]
theorem mk_andNot (s z y h x p n c s' z' y' h' x' p' n' c' : Bool) : bits .andNot .u8 (mk s z y h x p n c) (mk s' z' y' h' x' p' n' c') = mk (s && !s') (z && !z') (y && !y') (h && !h') (x && !x') (p && !p') (n && !n') (c && !c') := by
  have hr := bits_range .andNot (mk s z y h x p n c) (mk s' z' y' h' x' p' n' c')
  have hm := mk_range (s && !s') (z && !z') (y && !y') (h && !h') (x && !x') (p && !p') (n && !n') (c && !c')
  refine byte_ext hr.1 hr.2 hm.1 hm.2 ?_ ?_ ?_ ?_ ?_ ?_ ?_ ?_ <;> simp (disch := decide) only [bit_andNot, bit7_mk, bit6_mk, bit5_mk, bit4_mk, bit3_mk, bit2_mk, bit1_mk, bit0_mk]
theorem to_mk (x : Int) (h0 : 0 ≤ x) (h1 : x ≤ 255) : x = mk (bit 7 x) (bit 6 x) (bit 5 x) (bit 4 x) (bit 3 x) (bit 2 x) (bit 1 x) (bit 0 x) := (mk_bit x h0 h1).symm
theorem mk_1 : (1 : Int) = mk false false false false false false false true := rfl
theorem mk_2 : (2 : Int) = mk false false false false false false true false := rfl
theorem mk_4 : (4 : Int) = mk false false false false false true false false := rfl
theorem mk_16 : (16 : Int) = mk false false false true false false false false := rfl
theorem mk_18 : (18 : Int) = mk false false false true false false true false := rfl
theorem mk_19 : (19 : Int) = mk false false false true false false true true := rfl
theorem mk_40 : (40 : Int) = mk false false true false true false false false := rfl
theorem mk_64 : (64 : Int) = mk false true false false false false false false := rfl
theorem mk_128 : (128 : Int) = mk true false false false false false false false := rfl
/-- The flags of a result of bits. -/
def lgF (r : Int) (h : Bool) : Int := mk (bit 7 r) (decide (r = 0)) (bit 5 r) h (bit 3 r) (evb r) false false
theorem lgF_range (r : Int) (h : Bool) : 0 ≤ lgF r h ∧ lgF r h ≤ 255 := mk_range _ _ _ _ _ _ _ _
theorem lg_16 (r : Int) : bits .or .u8 (evf r) 16 = lgF r true := by unfold evf lgF; rw [mk_16, mk_or]; simp
theorem lg_0 (r : Int) : bits .or .u8 (evf r) 0 = lgF r false := by unfold evf lgF; rw [show (0 : Int) = mk false false false false false false false false from rfl, mk_or]; simp

theorem and1_ (A B : Nat) (a b : Int) (w : World) (hA : w.cell? ⟨A, 0, none⟩ = some (.int .u8 a)) (hB : w.cell? ⟨B, 0, none⟩ = some (.int .u8 b)) :
    Calls Tryz.prog 239 #[.pointer (some ⟨A, 0, none⟩), .pointer (some ⟨B, 0, none⟩)] w fun e w' => e = .returned (.int .u8 (bits .and .u8 a b)) ∧ w = w' := by
  go_enter Tryz.func239, Tryz.ntmps239
  go_wp2
  go_ret
  exact ⟨rfl, rfl⟩
theorem made_and (A B : Nat) (a b : Int) (w : World) (hA : w.cell? ⟨A, 0, none⟩ = some (.int .u8 a)) (hB : w.cell? ⟨B, 0, none⟩ = some (.int .u8 b)) :
    Calls Tryz.prog 238 #[.int .u8 16, .func (.func 239) #[] #[.pointer (some ⟨A, 0, none⟩), .pointer (some ⟨B, 0, none⟩)]] w fun e w' => e = .returned (.tuple #[.int .u8 (bits .and .u8 a b), .int .u8 (lgF (bits .and .u8 a b) true)]) ∧ Below w.heap.size w w' := by
  have e1 := Lib.hid (lg_16 (bits .and .u8 a b))
  go_enter Tryz.func238, Tryz.ntmps238
  go_wp2_with (first | (go_at_call 239; refine (and1_ A B a b _ hA hB).mono ?_; rintro e w1 ⟨rfl, rfl⟩) | (go_at_call 121; refine (feven_ _ _).mono ?_; rintro e w1 ⟨rfl, hb⟩))
  go_ret2
  exact ⟨ret2 rfl e1.out, hb⟩
theorem land_ (a b : Int) (w : World) : Calls Tryz.prog 164 #[.int .u8 a, .int .u8 b] w fun e w' => e = .returned (.tuple #[.int .u8 (bits .and .u8 a b), .int .u8 (lgF (bits .and .u8 a b) true)]) ∧ Below w.heap.size w w' := by
  have hmf : ∀ (fn : Fn) (first cap : Array Value) (w : World), (Instr.makeFunc fn first cap).run Tryz.prog w = .ok (.func fn first cap) w := fun _ _ _ _ => rfl
  go_enter Tryz.func164, Tryz.ntmps164
  go_wp2_with (go_at_call 238; refine (made_and _ _ a b _ (by simp [go_sem]) (by simp [go_sem])).mono ?_; rintro e w1 ⟨rfl, hb⟩)
  go_ret2
  exact ⟨rfl, bt (by go_grown) hb⟩
theorem or1_ (A B : Nat) (a b : Int) (w : World) (hA : w.cell? ⟨A, 0, none⟩ = some (.int .u8 a)) (hB : w.cell? ⟨B, 0, none⟩ = some (.int .u8 b)) :
    Calls Tryz.prog 241 #[.pointer (some ⟨A, 0, none⟩), .pointer (some ⟨B, 0, none⟩)] w fun e w' => e = .returned (.int .u8 (bits .or .u8 a b)) ∧ w = w' := by
  go_enter Tryz.func241, Tryz.ntmps241
  go_wp2
  go_ret
  exact ⟨rfl, rfl⟩
theorem made_or (A B : Nat) (a b : Int) (w : World) (hA : w.cell? ⟨A, 0, none⟩ = some (.int .u8 a)) (hB : w.cell? ⟨B, 0, none⟩ = some (.int .u8 b)) :
    Calls Tryz.prog 238 #[.int .u8 0, .func (.func 241) #[] #[.pointer (some ⟨A, 0, none⟩), .pointer (some ⟨B, 0, none⟩)]] w fun e w' => e = .returned (.tuple #[.int .u8 (bits .or .u8 a b), .int .u8 (lgF (bits .or .u8 a b) false)]) ∧ Below w.heap.size w w' := by
  have e1 := Lib.hid (lg_0 (bits .or .u8 a b))
  go_enter Tryz.func238, Tryz.ntmps238
  go_wp2_with (first | (go_at_call 241; refine (or1_ A B a b _ hA hB).mono ?_; rintro e w1 ⟨rfl, rfl⟩) | (go_at_call 121; refine (feven_ _ _).mono ?_; rintro e w1 ⟨rfl, hb⟩))
  go_ret2
  exact ⟨ret2 rfl e1.out, hb⟩
theorem lor_ (a b : Int) (w : World) : Calls Tryz.prog 166 #[.int .u8 a, .int .u8 b] w fun e w' => e = .returned (.tuple #[.int .u8 (bits .or .u8 a b), .int .u8 (lgF (bits .or .u8 a b) false)]) ∧ Below w.heap.size w w' := by
  have hmf : ∀ (fn : Fn) (first cap : Array Value) (w : World), (Instr.makeFunc fn first cap).run Tryz.prog w = .ok (.func fn first cap) w := fun _ _ _ _ => rfl
  go_enter Tryz.func166, Tryz.ntmps166
  go_wp2_with (go_at_call 238; refine (made_or _ _ a b _ (by simp [go_sem]) (by simp [go_sem])).mono ?_; rintro e w1 ⟨rfl, hb⟩)
  go_ret2
  exact ⟨rfl, bt (by go_grown) hb⟩
theorem xor1_ (A B : Nat) (a b : Int) (w : World) (hA : w.cell? ⟨A, 0, none⟩ = some (.int .u8 a)) (hB : w.cell? ⟨B, 0, none⟩ = some (.int .u8 b)) :
    Calls Tryz.prog 240 #[.pointer (some ⟨A, 0, none⟩), .pointer (some ⟨B, 0, none⟩)] w fun e w' => e = .returned (.int .u8 (bits .xor .u8 a b)) ∧ w = w' := by
  go_enter Tryz.func240, Tryz.ntmps240
  go_wp2
  go_ret
  exact ⟨rfl, rfl⟩
theorem made_xor (A B : Nat) (a b : Int) (w : World) (hA : w.cell? ⟨A, 0, none⟩ = some (.int .u8 a)) (hB : w.cell? ⟨B, 0, none⟩ = some (.int .u8 b)) :
    Calls Tryz.prog 238 #[.int .u8 0, .func (.func 240) #[] #[.pointer (some ⟨A, 0, none⟩), .pointer (some ⟨B, 0, none⟩)]] w fun e w' => e = .returned (.tuple #[.int .u8 (bits .xor .u8 a b), .int .u8 (lgF (bits .xor .u8 a b) false)]) ∧ Below w.heap.size w w' := by
  have e1 := Lib.hid (lg_0 (bits .xor .u8 a b))
  go_enter Tryz.func238, Tryz.ntmps238
  go_wp2_with (first | (go_at_call 240; refine (xor1_ A B a b _ hA hB).mono ?_; rintro e w1 ⟨rfl, rfl⟩) | (go_at_call 121; refine (feven_ _ _).mono ?_; rintro e w1 ⟨rfl, hb⟩))
  go_ret2
  exact ⟨ret2 rfl e1.out, hb⟩
theorem lxor_ (a b : Int) (w : World) : Calls Tryz.prog 165 #[.int .u8 a, .int .u8 b] w fun e w' => e = .returned (.tuple #[.int .u8 (bits .xor .u8 a b), .int .u8 (lgF (bits .xor .u8 a b) false)]) ∧ Below w.heap.size w w' := by
  have hmf : ∀ (fn : Fn) (first cap : Array Value) (w : World), (Instr.makeFunc fn first cap).run Tryz.prog w = .ok (.func fn first cap) w := fun _ _ _ _ => rfl
  go_enter Tryz.func165, Tryz.ntmps165
  go_wp2_with (go_at_call 238; refine (made_xor _ _ a b _ (by simp [go_sem]) (by simp [go_sem])).mono ?_; rintro e w1 ⟨rfl, hb⟩)
  go_ret2
  exact ⟨rfl, bt (by go_grown) hb⟩
/-! A, F: all bits the other way; the carry set, and turned about. -/
def notB (a : Int) : Int := 255 - a
def cplF (a f : Int) : Int := mk (bit 7 f) (bit 6 f) (bit 5 (notB a)) true (bit 3 (notB a)) (bit 2 f) true (bit 0 f)
def scfF (a f : Int) : Int := mk (bit 7 f) (bit 6 f) (bit 5 a) false (bit 3 a) (bit 2 f) false true
def ccfF (a f : Int) : Int := mk (bit 7 f) (bit 6 f) (bit 5 a) (bit 0 f) (bit 3 a) (bit 2 f) false (!bit 0 f)
theorem notB_range (a : Int) (a0 : 0 ≤ a) (a1 : a ≤ 255) : 0 ≤ notB a ∧ notB a ≤ 255 := by unfold notB; omega
theorem cplF_range (a f : Int) : 0 ≤ cplF a f ∧ cplF a f ≤ 255 := mk_range _ _ _ _ _ _ _ _
theorem scfF_range (a f : Int) : 0 ≤ scfF a f ∧ scfF a f ≤ 255 := mk_range _ _ _ _ _ _ _ _
theorem ccfF_range (a f : Int) : 0 ≤ ccfF a f ∧ ccfF a f ≤ 255 := mk_range _ _ _ _ _ _ _ _
theorem cpl_eq (f r : Int) : bits .or .u8 (bits .or .u8 (kp f r 40) 16) 2 = mk (bit 7 f) (bit 6 f) (bit 5 r) true (bit 3 r) (bit 2 f) true (bit 0 f) := by
  rw [kp_mk, mk_16, mk_or, mk_2, mk_or]
  simp (disch := decide) only [mk_40, bit7_mk, bit6_mk, bit5_mk, bit4_mk, bit3_mk, bit2_mk, bit1_mk, bit0_mk]
  simp
theorem scf_eq (f r : Int) : bits .or .u8 (bits .andNot .u8 (kp f r 40) 18) 1 = scfF r f := by
  rw [kp_mk, mk_18, mk_andNot, mk_1, mk_or]
  simp (disch := decide) only [mk_40, bit7_mk, bit6_mk, bit5_mk, bit4_mk, bit3_mk, bit2_mk, bit1_mk, bit0_mk]
  simp [scfF]
theorem ccf_eq (a f : Int) : bits .or .u8 (bits .andNot .u8 (scfF a f) 1) 16 = mk (bit 7 f) (bit 6 f) (bit 5 a) true (bit 3 a) (bit 2 f) false false := by
  unfold scfF
  rw [mk_1, mk_andNot, mk_16, mk_or]
  simp
theorem lscf_ (a f : Int) (w : World) : Calls Tryz.prog 160 #[.int .u8 a, .int .u8 f] w fun e w' => e = .returned (.int .u8 (scfF a f)) ∧ w = w' := by
  have e1 := Lib.hid (scf_eq f a)
  go_enter Tryz.func160, Tryz.ntmps160
  go_wp2_with (go_at_call 154; refine (keep_ _ _ _ _).mono ?_; rintro e w1 ⟨rfl, rfl⟩)
  go_ret
  exact ⟨ret_int e1.out, rfl⟩
theorem lccf_ (a f : Int) (w : World) : Calls Tryz.prog 161 #[.int .u8 a, .int .u8 f] w fun e w' => e = .returned (.int .u8 (ccfF a f)) ∧ w = w' := by
  have e1 := Lib.hid (ccf_eq a f)
  have e2 := ne1 f
  rcases (Bool.eq_false_or_eq_true (bit 0 f)).symm with h | h
  all_goals
    have h' := Lib.hid h
    rw [h] at e2
    clear h
    go_enter Tryz.func161, Tryz.ntmps161
    go_wp2_with (go_at_call 160; refine (lscf_ _ _ _).mono ?_; rintro e w1 ⟨rfl, rfl⟩)
    go_ret
    exact ⟨ret_int (by first | (rw [e1.out]; unfold ccfF; rw [h'.out]; rfl) | (unfold ccfF scfF; rw [h'.out]; rfl)), rfl⟩
theorem xor_255 (a : Int) (a0 : 0 ≤ a) (a1 : a ≤ 255) : bits .xor .u8 255 a = notB a :=
  byte_all (fun a => bits .xor .u8 255 a = notB a) (by decide +kernel) a a0 a1
theorem lcpl_ (a f : Int) (a0 : 0 ≤ a) (a1 : a ≤ 255) (w : World) : Calls Tryz.prog 159 #[.int .u8 a, .int .u8 f] w fun e w' => e = .returned (.tuple #[.int .u8 (notB a), .int .u8 (cplF a f)]) ∧ w = w' := by
  have e1 := Lib.hid (cpl_eq f (notB a))
  have e2 : IntKind.u8.signed = false := rfl
  have e3 : IntKind.u8.max = 255 := rfl
  have e4 := xor_255 a a0 a1
  go_enter Tryz.func159, Tryz.ntmps159
  go_wp2_with (go_at_call 154; refine (keep_ _ _ _ _).mono ?_; rintro e w1 ⟨rfl, rfl⟩)
  go_ret2
  exact ⟨ret2 rfl e1.out, rfl⟩
end Go.Proofs.YtnaampdpkegacaaGreatDoor
