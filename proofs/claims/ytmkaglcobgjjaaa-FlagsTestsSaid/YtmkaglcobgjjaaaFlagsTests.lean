/-
  The statement FlagsTests: any condition of any byte, the flags that any result tells, and any byte with some flags of another one, are as the reference tells them. No condition.
-/
import Derived.Test.YtmkaglcobgjjaaaF
import Derived.Test.YtmkaglcobgjjaaaL
namespace Go.Proofs.Ytmkaglcobgjjaaa
open Go.ChangeShapes Go.WideShapes Go.ChangeAt Go.RowKit

set_option maxRecDepth 100000 in
theorem flagsTests_ (f cond mask : Int) (f0 : 0 ≤ f) (f1 : f ≤ 255) (m0 : 0 ≤ mask) (m1 : mask ≤ 255) (w : World) :
    Calls Try.prog 5 #[.int .u8 f, .int .i64 cond, .int .u8 mask] w fun e w' => e = .returned (.bool true) ∧ Below w.heap.size w w' := by
  have hB := Below.refl w.heap.size w
  go_enter Try.func5, Try.ntmps5
  go_wp2_with (first
    | (go_at_call 11; refine (law02awake_ _).mono ?_; rintro e w1 ⟨rfl, hb⟩; replace hB := bt hB hb)
    | (go_at_call 21; refine (result_ _ _).mono ?_; rintro x w1 ⟨rfl, rfl⟩)
    | (go_at_call 25; refine (keep_ _ _ _ _).mono ?_; rintro x w1 ⟨rfl, rfl⟩)
    | (go_at_call 23; refine (feven_ _ _).mono ?_; rintro e w1 ⟨rfl, hb⟩; replace hB := bt hB hb)
    | (go_at_call 10; refine (test_ _ _ _).mono ?_; rintro e w1 ⟨rfl, hb⟩; replace hB := bt hB hb)
    | (go_at_call 20; refine (r02test_ _ _ f0 f1 _).mono ?_; rintro e w1 ⟨rfl, hb⟩; replace hB := bt hB hb)
    | (go_at_call 22; refine (r02result_ _ f0 f1 _).mono ?_; rintro e w1 ⟨rfl, hb⟩; replace hB := bt hB hb)
    | (go_at_call 24; refine (r02even_ _ f0 f1 _).mono ?_; rintro e w1 ⟨rfl, hb⟩; replace hB := bt hB hb)
    | (go_at_call 26; refine (r02keep_ _ _ _ f0 f1 (by omega) (by omega) m0 m1 _).mono ?_; rintro e w1 ⟨rfl, hb⟩; replace hB := bt hB hb))
  go_ret
  exact ⟨rfl, hB⟩

set_option maxRecDepth 100000 in
theorem flagsTests_lifted (os : Os) (started : os.Started) (H : Type) (enc : TypeId × Value → H) :
    ReturnsInHanded {} Try.checked os 5 .any (Rows.flagsTestsSpec.pre6 enc Try.prog Try.f5 Rows.flagsTestsRow.domain false) (Rows.flagsTestsSpec.post enc Try.prog Try.f5 false true false false) := by
  refine returnsInHanded_of_change (C := Try.checked) Try.own started (by kernel_rfl) Try.func5
    (ChangeSpec.witness6 (enc := enc) (C := Try.checked) false ⟨#[], #[.int .u8 0, .int .i64 0, .int .u8 0], []⟩ 8 (by kernel_rfl) (by kernel_rfl) (by kernel_rfl) (by kernel_rfl)) ?_
  intro W base args ds gs before hval0 hW hcnd _
  have hval : ∀ (j : Nat) t v, Try.f5.params[j]? = some t → args[j]? = some v → Value.okWide Try.prog W .any base t v := hval0
  have hW' := hW
  have hlt := fun x hx => hW.lt x hx
  obtain ⟨p, q, hA0, hV, rfl, hfz, hnd⟩ := hW
  have hA : DataW.TrodAll enc Try.prog W 0 (fun _ => true) true Try.f5.params.toList args.toList ds p := hA0
  have hAk := hA
  rw [Try.params5] at hA hval
  obtain ⟨v0, v1, v2, d0, d1, d2, p0, p1, p2, rfl, rfl, rfl, h0, h1, h2⟩ := trodAll_three hA
  obtain ⟨rfl, rfl⟩ := trodVars_none hV
  obtain ⟨f, rfl, _, _, w0⟩ := open_int Try.underlying5 (hval 0 5 v0 rfl rfl) h0
  obtain ⟨cond, rfl, _, _, w1⟩ := open_int Try.underlying3 (hval 1 3 v1 rfl rfl) h1
  obtain ⟨mask, rfl, _, _, w2⟩ := open_int Try.underlying5 (hval 2 5 v2 rfl rfl) h2
  clear hA0 hval0
  simp only [List.append_nil] at hW' hlt
  refine (flagsTests_ f cond mask (u8_of_wf w0).1 (u8_of_wf w0).2 (u8_of_wf w2).1 (u8_of_wf w2).2 W).mono fun e W' ⟨he, hg⟩ => ?_
  subst he
  exact ⟨_, rfl, _, _, _, [], _, [], hW', trodAll_mk1 (shut_bool Try.underlying4 _), trodAll_below Try.laidOut hg (by kernel_rfl) hAk hlt, rfl, hg.frame _, fun h => by cases h⟩

theorem flagsTests_holds : Rows.FlagsTestsSaid :=
  OpenClaim.holds_of_wide 5 Try.f5 rfl rfl rfl rfl rfl rfl rfl ⟨rfl, rfl, rfl, rfl, rfl⟩ rfl rfl rfl rfl rfl (by kernel_rfl) Try.func5 (by kernel_rfl)
    (of_decide_eq_true (by kernel_rfl)) (by unfold Func.isWrapper; rw [if_neg (of_decide_eq_false (by kernel_rfl))]; exact ⟨rfl, rfl⟩)
    (fun os started H enc _ => flagsTests_lifted os started H enc)
#print axioms flagsTests_holds
end Go.Proofs.Ytmkaglcobgjjaaa
