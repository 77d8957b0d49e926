/-
  The contract of the reference 02's Read, and what the law's own examples answer. A helper of the claim that stands beside it.
-/
import Derived.Test.YtmkaglcobgjjaaaE
namespace Go.Proofs.Ytmkaglcobgjjaaa
open Go.RowKit

def RdRel (s : ByteArray) (i : Value) (W w : World) : Prop := ∃ k : Nat, k ≤ 256 ∧ i = .int .i64 k ∧ (∀ f : Nat, f < k → shw f ≠ s.toList) ∧ Below W.heap.size W w
set_option maxRecDepth 100000 in
set_option maxHeartbeats 4000000 in
theorem r02read_ (s : ByteArray) (w : World) : Calls Try.prog 13 #[.string s] w fun x w' =>
    ((∃ f : Nat, f < 256 ∧ shw f = s.toList ∧ x = .returned (.tuple #[.int .u8 f, .bool true])) ∨ ((∀ f : Nat, f < 256 → shw f ≠ s.toList) ∧ x = .returned (.tuple #[.int .u8 0, .bool false]))) ∧ Below w.heap.size w w' := by
  go_enter Try.func13, Try.ntmps13
  go_wp2_with fail
  go_loopw [4] (fun i wr => RdRel s i w wr) (fun i _ => 256 - (intOf i).toNat)
  case atStart => exact ⟨0, by omega, rfl, fun f h => by omega, Below.refl _ _⟩
  case round =>
    obtain ⟨k, hk, rfl, hf, rB⟩ := hrel
    have HF := Lib.hid hf
    clear hf
    by_cases h8 : k < 256
    · rcases Decidable.em (shw k = s.toList) with hq | hq
      · have e : (shw k == s.toList) = true := by rw [hq]; exact beq_self_eq_true _
        have HQ := Lib.hid hq
        clear hq
        go_wp2_with (go_at_call 19; refine (r02show_ _ (by omega) (by omega) _).mono ?_; rintro x w2 ⟨rfl, hb2⟩)
        go_ret2
        exact ⟨.inl ⟨k, h8, HQ.out, rfl⟩, rB.trans (hb2.mono rB.size)⟩
      · have e : (shw k == s.toList) = false := beq_eq_false_iff_ne.2 hq
        have HQ := Lib.hid hq
        clear hq
        go_wp2_with (go_at_call 19; refine (r02show_ _ (by omega) (by omega) _).mono ?_; rintro x w2 ⟨rfl, hb2⟩)
        go_roundw
        case rel => exact ⟨k + 1, by omega, by go_num, fun f hf => by
          by_cases e : f = k
          · rw [e]; exact HQ.out
          · exact HF.out f (by omega), rB.trans (hb2.mono rB.size)⟩
        case measure => simp [intOf]; omega
    · obtain rfl : k = 256 := by omega
      go_wp2
      go_ret2
      exact ⟨.inr ⟨HF.out, rfl⟩, rB⟩

set_option maxRecDepth 100000 in
set_option maxHeartbeats 4000000 in
theorem law02awake_ (w : World) : Calls Try.prog 11 #[] w fun e w' => e = .returned (.bool true) ∧ Below w.heap.size w w' := by
  have hB := Below.refl w.heap.size w
  go_enter Try.func11, Try.ntmps11
  go_wp2_with fail
  refine (read8_ _ _ _ _ _ _ _ _ _).mono ?_
  rintro x w1 ⟨hx, hb⟩
  rcases hx with ⟨_, rfl⟩ | ⟨hx, _⟩
  · replace hB := bt hB hb
    go_wp2_with (first
    | (go_at_call 21; refine (result_ _ _).mono ?_; rintro x w1 ⟨rfl, rfl⟩)
    | (go_at_call 25; refine (keep_ _ _ _ _).mono ?_; rintro x w1 ⟨rfl, rfl⟩)
    | (go_at_call 23; refine (feven_ _ _).mono ?_; rintro e w1 ⟨rfl, hb⟩; replace hB := bt hB hb)
    | (go_at_call 18; refine (show_ _ _).mono ?_; rintro e w1 ⟨rfl, hb⟩; replace hB := bt hB hb)
    | (go_at_call 10; refine (test_ _ _ _).mono ?_; rintro e w1 ⟨rfl, hb⟩; replace hB := bt hB hb)
    | (go_at_call 14; refine (make_ _ _ _ _ _ _ _ _ _).mono ?_; rintro e w1 ⟨rfl, hb⟩; replace hB := bt hB hb)
    | (go_at_call 16; refine (of_ _ _).mono ?_; rintro e w1 ⟨rfl, hb⟩; replace hB := bt hB hb))
    go_ret
    exact ⟨ret_bool (by decide), hB⟩
  · exact absurd (by decide) hx
theorem Try.own : ownKnob Try.prog.godebug = none := by kernel_rfl
theorem u8_of_wf {x : Int} (h : (Lit.int .u8 x).wf = true) : 0 ≤ x ∧ x ≤ 255 := by
  simp [Lit.wf, IntKind.min, IntKind.max, IntKind.signed, IntKind.bits] at h
  exact ⟨by omega, by omega⟩
end Go.Proofs.Ytmkaglcobgjjaaa
