/-
  The statement SumCompares: a comparison of any two bytes tells the same, the lower, and the lower of signed ones. No condition.
-/
import Derived.Test.YtmkaglcobgjjaaaB
import Derived.Test.YtmkaglcobgjjaaaL
namespace Go.Proofs.Ytmkaglcobgjjaaa
open Go.ChangeShapes Go.WideShapes Go.ChangeAt Go.RowKit

set_option maxRecDepth 100000 in
theorem law03awake_ (w : World) : Calls Try.prog 8 #[] w fun e w' => e = .returned (.bool true) ∧ Below w.heap.size w w' := by
  have hB := Below.refl w.heap.size w
  go_enter Try.func8, Try.ntmps8
  go_wp2_with (first
    | (go_at_call 27; refine (add_ _ _ _ (by omega) (by omega) (by omega) (by omega) _).mono ?_; rintro e w1 ⟨rfl, hb⟩; replace hB := bt hB hb)
    | (go_at_call 28; refine (sub_ _ _ _ (by omega) (by omega) (by omega) (by omega) _).mono ?_; rintro e w1 ⟨rfl, hb⟩; replace hB := bt hB hb)
    | (go_at_call 29; refine (inc_ _ _ (by omega) (by omega) _).mono ?_; rintro e w1 ⟨rfl, hb⟩; replace hB := bt hB hb)
    | (go_at_call 30; refine (dec_ _ _ (by omega) (by omega) _).mono ?_; rintro e w1 ⟨rfl, hb⟩; replace hB := bt hB hb)
    | (go_at_call 31; refine (neg_ _ (by omega) (by omega) _).mono ?_; rintro e w1 ⟨rfl, hb⟩; replace hB := bt hB hb)
    | (go_at_call 9; refine (cmp_ _ _ (by omega) (by omega) (by omega) (by omega) _).mono ?_; rintro e w1 ⟨rfl, hb⟩; replace hB := bt hB hb))
  go_ret
  exact ⟨ret_bool (by decide +kernel), hB⟩

set_option maxRecDepth 100000 in
theorem sumCompares_ (a b : Int) (a0 : 0 ≤ a) (a1 : a ≤ 255) (b0 : 0 ≤ b) (b1 : b ≤ 255) (w : World) : Calls Try.prog 3 #[.int .u8 a, .int .u8 b] w fun e w' => e = .returned (.bool true) ∧ Below w.heap.size w w' := by
  have hB := Below.refl w.heap.size w
  have h := cmp_bits a b a0 a1 b0 b1
  have t1 : tst (cmpF a b) 1 = (a == b) := by rw [tst_1, h.1]; rfl
  have t3 : tst (cmpF a b) 3 = decide (a < b) := by rw [tst_3, h.2.1]
  have t7 : (tst (cmpF a b) 7 == tst (cmpF a b) 5) = !decide (IntKind.i8.wrap a < IntKind.i8.wrap b) := by
    rw [tst_7, tst_5, lower_signed a b a0 a1 b0 b1, sgn_wrap a a0 a1, sgn_wrap b b0 b1]
  have ta : tst (cmpF a a) 1 = true := by rw [tst_1, (cmp_bits a a a0 a1 a0 a1).1]; simp
  have n2 : (bits .and .u8 (cmpF a b) 2 == 2) = true := by
    have := band_pow 1 (by decide) (cmpF a b)
    rw [show (2 : Int) ^ 1 = 2 from rfl, h.2.2.2.2] at this
    rw [this]; rfl
  clear h
  go_enter Try.func3, Try.ntmps3
  go_wp2_with (first
    | (go_at_call 8; refine (law03awake_ _).mono ?_; rintro e w1 ⟨rfl, hb⟩; replace hB := bt hB hb)
    | (go_at_call 10; refine (test_ _ _ _).mono ?_; rintro e w1 ⟨rfl, hb⟩; replace hB := bt hB hb)
    | (go_at_call 9; refine (cmp_ _ _ (by omega) (by omega) (by omega) (by omega) _).mono ?_; rintro e w1 ⟨rfl, hb⟩; replace hB := bt hB hb))
  go_ret
  exact ⟨rfl, hB⟩

set_option maxRecDepth 100000 in
theorem sumCompares_lifted (os : Os) (started : os.Started) (H : Type) (enc : TypeId × Value → H) :
    ReturnsInHanded {} Try.checked os 3 .any (Rows.sumComparesSpec.pre6 enc Try.prog Try.f3 Rows.sumComparesRow.domain false) (Rows.sumComparesSpec.post enc Try.prog Try.f3 false true false false) := by
  refine returnsInHanded_of_change (C := Try.checked) Try.own started (by kernel_rfl) Try.func3
    (ChangeSpec.witness6 (enc := enc) (C := Try.checked) false ⟨#[], #[.int .u8 0, .int .u8 0], []⟩ 8 (by kernel_rfl) (by kernel_rfl) (by kernel_rfl) (by kernel_rfl)) ?_
  intro W base args ds gs before hval0 hW hcnd _
  have hval : ∀ (j : Nat) t v, Try.f3.params[j]? = some t → args[j]? = some v → Value.okWide Try.prog W .any base t v := hval0
  have hW' := hW
  have hlt := fun x hx => hW.lt x hx
  obtain ⟨p, q, hA0, hV, rfl, hfz, hnd⟩ := hW
  have hA : DataW.TrodAll enc Try.prog W 0 (fun _ => true) true Try.f3.params.toList args.toList ds p := hA0
  have hAk := hA
  rw [Try.params3] at hA hval
  obtain ⟨v0, v1, d0, d1, p0, p1, rfl, rfl, rfl, h0, h1⟩ := trodAll_two hA
  obtain ⟨rfl, rfl⟩ := trodVars_none hV
  obtain ⟨a, rfl, _, _, w0⟩ := open_int Try.underlying5 (hval 0 5 v0 rfl rfl) h0
  obtain ⟨b, rfl, _, _, w1⟩ := open_int Try.underlying5 (hval 1 5 v1 rfl rfl) h1
  clear hA0 hval0
  simp only [List.append_nil] at hW' hlt
  refine (sumCompares_ a b (u8_of_wf w0).1 (u8_of_wf w0).2 (u8_of_wf w1).1 (u8_of_wf w1).2 W).mono fun e W' ⟨he, hg⟩ => ?_
  subst he
  exact ⟨_, rfl, _, _, _, [], _, [], hW', trodAll_mk1 (shut_bool Try.underlying4 _), trodAll_below Try.laidOut hg (by kernel_rfl) hAk hlt, rfl, hg.frame _, fun h => by cases h⟩

theorem sumCompares_holds : Rows.SumComparesSaid :=
  OpenClaim.holds_of_wide 3 Try.f3 rfl rfl rfl rfl rfl rfl rfl ⟨rfl, rfl, rfl, rfl, rfl⟩ rfl rfl rfl rfl rfl (by kernel_rfl) Try.func3 (by kernel_rfl)
    (of_decide_eq_true (by kernel_rfl)) (by unfold Func.isWrapper; rw [if_neg (of_decide_eq_false (by kernel_rfl))]; exact ⟨rfl, rfl⟩)
    (fun os started H enc _ => sumCompares_lifted os started H enc)
#print axioms sumCompares_holds
end Go.Proofs.Ytmkaglcobgjjaaa
