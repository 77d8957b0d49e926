/-
  The contract of the reference 02's Read, and what the law's own examples answer. A helper of the claim that stands beside it.
-/
import Derived.Test.YtmkaglcobgjjaaaE
namespace Go.Proofs.Ytmkaglcobgjjaaa
open Go.RowKit

def RdRel (s : ByteArray) (i : Value) (W w : World) : Prop := ∃ k : Nat, k ≤ 256 ∧ i = .int .i64 k ∧ (∀ f : Nat, f < k → shw f ≠ s.toList) ∧ Below W.heap.size W w
set_option maxRecDepth 100000 in
set_option maxHeartbeats 4000000 in
theorem r02read_ (s : ByteArray) (w : World) : Calls Try.prog 13 #[.string s] w fun x w' =>
    ((∃ f : Nat, f < 256 ∧ shw f = s.toList ∧ x = .returned (.tuple #[.int .u8 f, .bool true])) ∨ ((∀ f : Nat, f < 256 → shw f ≠ s.toList) ∧ x = .returned (.tuple #[.int .u8 0, .bool false]))) ∧ Below w.heap.size w w' := by
  go_enter Try.func13, Try.ntmps13
  go_wp2_with fail
  go_loopw [4] (fun i wr => RdRel s i w wr) (fun i _ => 256 - (intOf i).toNat)
  case atStart => exact ⟨0, by omega, rfl, fun f h => by omega, Below.refl _ _⟩
  case round =>
    obtain ⟨k, hk, rfl, hf, rB⟩ := hrel
    have HF := Lib.hid hf
    clear hf
    by_cases h8 : k < 256
    · rcases Decidable.em (shw k = s.toList) with hq | hq
      · have e : (shw k == s.toList) = true := by rw [hq]; exact beq_self_eq_true _
        have HQ := Lib.hid hq
        clear hq
        go_wp2_with (go_at_call 19; refine (r02show_ _ (by omega) (by omega) _).mono ?_; rintro x w2 ⟨rfl, hb2⟩)
        go_ret2
        exact ⟨.inl ⟨k, h8, HQ.out, rfl⟩, rB.trans (hb2.mono rB.size)⟩
      · have e : (shw k == s.toList) = false := beq_eq_false_iff_ne.2 hq
        have HQ := Lib.hid hq
        clear hq
        go_wp2_with (go_at_call 19; refine (r02show_ _ (by omega) (by omega) _).mono ?_; rintro x w2 ⟨rfl, hb2⟩)
        go_roundw
        case rel => exact ⟨k + 1, by omega, by go_num, fun f hf => by
          by_cases e : f = k
          · rw [e]; exact HQ.out
          · exact HF.out f (by omega), rB.trans (hb2.mono rB.size)⟩
        case measure => simp [intOf]; omega
    · obtain rfl : k = 256 := by omega
      go_wp2
      go_ret2
      exact ⟨.inr ⟨HF.out, rfl⟩, rB⟩

set_option maxRecDepth 100000 in
set_option maxHeartbeats 4000000 in
theorem law02awake_ (w : World) : Calls Try.prog 11 #[] w fun e w' => e = .returned (.bool true) ∧ Below w.heap.size w w' := by
  have hB := Below.refl w.heap.size w
  go_enter Try.func11, Try.ntmps11
  go_wp2_with fail
  refine (read8_ _ _ _ _ _ _ _ _ _).mono ?_
  rintro x w1 ⟨hx, hb⟩
  rcases hx with ⟨_, rfl⟩ | ⟨hx, _⟩
  · replace hB := bt hB hb
    go_wp2_with (first
    | (go_at_call 21; refine (result_ _ _).mono ?_; rintro x w1 ⟨rfl, rfl⟩)
    | (go_at_call 25; refine (keep_ _ _ _ _).mono ?_; rintro x w1 ⟨rfl, rfl⟩)
    | (go_at_call 23; refine (feven_ _ _).mono ?_; rintro e w1 ⟨rfl, hb⟩; replace hB := bt hB hb)
    | (go_at_call 18; refine (show_ _ _).mono ?_; rintro e w1 ⟨rfl, hb⟩; replace hB := bt hB hb)
    | (go_at_call 10; refine (test_ _ _ _).mono ?_; rintro e w1 ⟨rfl, hb⟩; replace hB := bt hB hb)
    | (go_at_call 14; refine (make_ _ _ _ _ _ _ _ _ _).mono ?_; rintro e w1 ⟨rfl, hb⟩; replace hB := bt hB hb)
    | (go_at_call 16; refine (of_ _ _).mono ?_; rintro e w1 ⟨rfl, hb⟩; replace hB := bt hB hb))
    go_ret
    exact ⟨ret_bool (by decide), hB⟩
  · exact absurd (by decide) hx
theorem eq8_refl (l0 l1 l2 l3 l4 l5 l6 l7 : Bool) (w : World) : (Op.equalIn 10000 27 (.agg #[.bool l0, .bool l1, .bool l2, .bool l3, .bool l4, .bool l5, .bool l6, .bool l7]) (.agg #[.bool l0, .bool l1, .bool l2, .bool l3, .bool l4, .bool l5, .bool l6, .bool l7])).run Try.prog w = .ok true w := by
  cases l0 <;> cases l1 <;> cases l2 <;> cases l3 <;> cases l4 <;> cases l5 <;> cases l6 <;> cases l7 <;> kernel_rfl
theorem rd_shw (f : Int) : (chu f 7 = 83 ∨ chu f 7 = 45) ∧ (chu f 6 = 90 ∨ chu f 6 = 45) ∧ (chu f 5 = 89 ∨ chu f 5 = 45) ∧ (chu f 4 = 72 ∨ chu f 4 = 45) ∧ (chu f 3 = 88 ∨ chu f 3 = 45) ∧ (chu f 2 = 80 ∨ chu f 2 = 45) ∧ (chu f 1 = 78 ∨ chu f 1 = 45) ∧ (chu f 0 = 67 ∨ chu f 0 = 45) := by
  refine ⟨?_, ?_, ?_, ?_, ?_, ?_, ?_, ?_⟩ <;> unfold chu <;> cases bit _ f <;> decide
theorem mk_shw (f : Int) (f0 : 0 ≤ f) (f1 : f ≤ 255) : mk (chu f 7 == 83) (chu f 6 == 90) (chu f 5 == 89) (chu f 4 == 72) (chu f 3 == 88) (chu f 2 == 80) (chu f 1 == 78) (chu f 0 == 67) = f := by
  have e : ∀ j, j = 7 ∧ (chu f j == 83) = bit j f ∨ j = 6 ∧ (chu f j == 90) = bit j f ∨ j = 5 ∧ (chu f j == 89) = bit j f ∨ j = 4 ∧ (chu f j == 72) = bit j f ∨ j = 3 ∧ (chu f j == 88) = bit j f ∨ j = 2 ∧ (chu f j == 80) = bit j f ∨ j = 1 ∧ (chu f j == 78) = bit j f ∨ j = 0 ∧ (chu f j == 67) = bit j f ∨ 8 ≤ j := by
    intro j
    have h : j = 0 ∨ j = 1 ∨ j = 2 ∨ j = 3 ∨ j = 4 ∨ j = 5 ∨ j = 6 ∨ j = 7 ∨ 8 ≤ j := by omega
    rcases h with rfl | rfl | rfl | rfl | rfl | rfl | rfl | rfl | h
    · cases h : bit 0 f <;> simp [chu, h, lett]
    · cases h : bit 1 f <;> simp [chu, h, lett]
    · cases h : bit 2 f <;> simp [chu, h, lett]
    · cases h : bit 3 f <;> simp [chu, h, lett]
    · cases h : bit 4 f <;> simp [chu, h, lett]
    · cases h : bit 5 f <;> simp [chu, h, lett]
    · cases h : bit 6 f <;> simp [chu, h, lett]
    · cases h : bit 7 f <;> simp [chu, h, lett]
    · simp [h]
  have e7 := e 7; have e6 := e 6; have e5 := e 5; have e4 := e 4; have e3 := e 3; have e2 := e 2; have e1 := e 1; have e0 := e 0
  simp at e7 e6 e5 e4 e3 e2 e1 e0
  rw [e7, e6, e5, e4, e3, e2, e1, e0]
  exact mk_bit f f0 f1
end Go.Proofs.Ytmkaglcobgjjaaa
