/-
  The statement FlagsKeeps: keeping none, or all, of any flags; keeping twice is keeping once; the flags of a result are no others than four. No condition.
-/
import Derived.Test.YtmkaglcobgjjaaaF
import Derived.Test.YtmkaglcobgjjaaaL
namespace Go.Proofs.Ytmkaglcobgjjaaa
open Go.ChangeShapes Go.WideShapes Go.ChangeAt Go.RowKit

theorem bbeq {a b : Int} (h : a = b) : (a == b) = true := by rw [h]; exact beq_self_eq_true _
set_option maxRecDepth 100000 in
theorem flagsKeeps_ (f old mask : Int) (f0 : 0 ≤ f) (f1 : f ≤ 255) (o0 : 0 ≤ old) (o1 : old ≤ 255) (w : World) :
    Calls Try.prog 7 #[.int .u8 f, .int .u8 old, .int .u8 mask] w fun e w' => e = .returned (.bool true) ∧ Below w.heap.size w w' := by
  have hB := Below.refl w.heap.size w
  have e255 : ∀ j, j < 8 → bit j 255 = true := by decide
  have k1 : (kp f old 0 == f) = true := bbeq (by rw [kp_mk]; simp only [bit_0, cond_false]; exact mk_bit f f0 f1)
  have k2 : (kp f old 255 == old) = true := bbeq (by rw [kp_mk]; simp (disch := decide) only [e255, cond_true]; exact mk_bit old o0 o1)
  have k3 : (kp (kp f old mask) old mask == kp f old mask) = true := bbeq (by
    have a := kp_range (kp f old mask) old mask
    have b := kp_range f old mask
    refine byte_ext a.1 a.2 b.1 b.2 ?_ ?_ ?_ ?_ ?_ ?_ ?_ ?_ <;> simp (disch := decide) only [bit_kp] <;> cases bit _ mask <;> rfl)
  have k4 : (kp (kp f old mask) f mask == f) = true := bbeq (by
    have a := kp_range (kp f old mask) f mask
    refine byte_ext a.1 a.2 f0 f1 ?_ ?_ ?_ ?_ ?_ ?_ ?_ ?_ <;> simp (disch := decide) only [bit_kp] <;> cases bit _ mask <;> rfl)
  have k5 : (bits .and .u8 (res f) 23 == 0) = true := bbeq (byte_all (fun f => bits .and .u8 (res f) 23 = 0) (by decide +kernel) f f0 f1)
  have k6 : (bits .and .u8 (evf f) 19 == 0) = true := bbeq (byte_all (fun f => bits .and .u8 (evf f) 19 = 0) (by decide +kernel) f f0 f1)
  have k7 : (bits .and .u8 (evf f) 251 == res f) = true := bbeq (byte_all (fun f => bits .and .u8 (evf f) 251 = res f) (by decide +kernel) f f0 f1)
  have k8 : (tst (res f) 1 == (f == 0)) = true := byte_all (fun f => (tst (res f) 1 == (f == 0)) = true) (by decide +kernel) f f0 f1
  go_enter Try.func7, Try.ntmps7
  go_wp2_with (first
    | (go_at_call 11; refine (law02awake_ _).mono ?_; rintro e w1 ⟨rfl, hb⟩; replace hB := bt hB hb)
    | (go_at_call 21; refine (result_ _ _).mono ?_; rintro x w1 ⟨rfl, rfl⟩)
    | (go_at_call 25; refine (keep_ _ _ _ _).mono ?_; rintro x w1 ⟨rfl, rfl⟩)
    | (go_at_call 23; refine (feven_ _ _).mono ?_; rintro e w1 ⟨rfl, hb⟩; replace hB := bt hB hb)
    | (go_at_call 10; refine (test_ _ _ _).mono ?_; rintro e w1 ⟨rfl, hb⟩; replace hB := bt hB hb))
  go_ret
  exact ⟨rfl, hB⟩

set_option maxRecDepth 100000 in
theorem flagsKeeps_lifted (os : Os) (started : os.Started) (H : Type) (enc : TypeId × Value → H) :
    ReturnsInHanded {} Try.checked os 7 .any (Rows.flagsKeepsSpec.pre6 enc Try.prog Try.f7 Rows.flagsKeepsRow.domain false) (Rows.flagsKeepsSpec.post enc Try.prog Try.f7 false true false false) := by
  refine returnsInHanded_of_change (C := Try.checked) Try.own started (by kernel_rfl) Try.func7
    (ChangeSpec.witness6 (enc := enc) (C := Try.checked) false ⟨#[], #[.int .u8 0, .int .u8 0, .int .u8 0], []⟩ 8 (by kernel_rfl) (by kernel_rfl) (by kernel_rfl) (by kernel_rfl)) ?_
  intro W base args ds gs before hval0 hW hcnd _
  have hval : ∀ (j : Nat) t v, Try.f7.params[j]? = some t → args[j]? = some v → Value.okWide Try.prog W .any base t v := hval0
  have hW' := hW
  have hlt := fun x hx => hW.lt x hx
  obtain ⟨p, q, hA0, hV, rfl, hfz, hnd⟩ := hW
  have hA : DataW.TrodAll enc Try.prog W 0 (fun _ => true) true Try.f7.params.toList args.toList ds p := hA0
  have hAk := hA
  rw [Try.params7] at hA hval
  obtain ⟨v0, v1, v2, d0, d1, d2, p0, p1, p2, rfl, rfl, rfl, h0, h1, h2⟩ := trodAll_three hA
  obtain ⟨rfl, rfl⟩ := trodVars_none hV
  obtain ⟨f, rfl, _, _, w0⟩ := open_int Try.underlying5 (hval 0 5 v0 rfl rfl) h0
  obtain ⟨old, rfl, _, _, w1⟩ := open_int Try.underlying5 (hval 1 5 v1 rfl rfl) h1
  obtain ⟨mask, rfl, _, _, w2⟩ := open_int Try.underlying5 (hval 2 5 v2 rfl rfl) h2
  clear hA0 hval0
  simp only [List.append_nil] at hW' hlt
  refine (flagsKeeps_ f old mask (u8_of_wf w0).1 (u8_of_wf w0).2 (u8_of_wf w1).1 (u8_of_wf w1).2 W).mono fun e W' ⟨he, hg⟩ => ?_
  subst he
  exact ⟨_, rfl, _, _, _, [], _, [], hW', trodAll_mk1 (shut_bool Try.underlying4 _), trodAll_below Try.laidOut hg (by kernel_rfl) hAk hlt, rfl, hg.frame _, fun h => by cases h⟩

theorem flagsKeeps_holds : Rows.FlagsKeepsSaid :=
  OpenClaim.holds_of_wide 7 Try.f7 rfl rfl rfl rfl rfl rfl rfl ⟨rfl, rfl, rfl, rfl, rfl⟩ rfl rfl rfl rfl rfl (by kernel_rfl) Try.func7 (by kernel_rfl)
    (of_decide_eq_true (by kernel_rfl)) (by unfold Func.isWrapper; rw [if_neg (of_decide_eq_false (by kernel_rfl))]; exact ⟨rfl, rfl⟩)
    (fun os started H enc _ => flagsKeeps_lifted os started H enc)
#print axioms flagsKeeps_holds
end Go.Proofs.Ytmkaglcobgjjaaa
