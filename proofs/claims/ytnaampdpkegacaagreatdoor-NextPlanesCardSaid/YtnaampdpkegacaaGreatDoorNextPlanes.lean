/-
  NextPlanes: of any registers, all 256 codes of any plane, whatever is answered to what they read, end in the registers that the document says, through the cycles that it says; in each world where the variable logic.right is as it is laid.
-/
import Derived.Test.YtnaampdpkegacaaGreatDoorpls
import Derived.Test.YtnaampdpkegacaaGreatDoorCards
import Derived.Test.YtnaampdpkegacaaGreatDoorTie
import Derived.SevenTiedAt
namespace Go.Proofs.YtnaampdpkegacaaGreatDoor
open Go Go.ChangeShapes Go.WideShapes Go.ChangeAt Go.RowKit

set_option maxRecDepth 100000 in
theorem nextPlanes_lifted (os : Os) (started : os.Started) (H : Type) (enc : TypeId × Value → H) :
    ReturnsInHanded {} Tryz.checked os 5 .any (fun w args => (Rows.nextPlanesSpec.pre enc Tryz.prog Tryz.f5 [] false w args ∧ laidMetH Tryz.prog lists w) ∧ sizedMet enc Tryz.prog Tryz.f5 (OpenSpec.ofChange Rows.nextPlanesSpec) false w args)
      (Rows.nextPlanesSpec.post enc Tryz.prog Tryz.f5 false true false false) := by
  refine returnsInHanded_of_change_and (C := Tryz.checked) (X := fun w _ => laidMetH Tryz.prog lists w) (fun _ _ _ hh h => h.of_heap hh) own_knob started (by kernel_rfl) Tryz.func5
    (ChangeSpec.witness_shaped (enc := enc) (C := Tryz.checked) (os := os) (X := fun w _ => laidMetH Tryz.prog lists w) false (World.doorLaid Tryz.prog 400 os) #[.agg R0.cells, .int .i64 0, .slice none 0 0] 8 rfl (World.shaped_of_RefB (by kernel_rfl) (by kernel_rfl)) (by kernel_rfl) (by kernel_rfl) (by kernel_rfl) (door_met os _)) ?_
  intro W base args ds gs before hval0 hW _ _ hL _
  have hval : ∀ (j : Nat) t v, Tryz.f5.params[j]? = some t → args[j]? = some v → Value.okWide Tryz.prog W .any base t v := hval0
  have hW' := hW
  have hlt := fun x hx => hW.lt x hx
  obtain ⟨p, q, hA0, hV, rfl, hfz, hnd⟩ := hW
  have hA : DataW.TrodAll enc Tryz.prog W 0 (fun _ => true) true Tryz.f5.params.toList args.toList ds p := hA0
  have hAk := hA
  rw [Tryz.params5] at hA hval
  obtain ⟨v0, v1, v2, d0, d1, d2, p0, p1, p2, rfl, rfl, rfl, h0, h1, h2⟩ := trodAll_three hA
  obtain ⟨rfl, rfl⟩ := trodVars_none hV
  obtain ⟨r, rfl⟩ := open_regs (hval 0 24 v0 rfl rfl)
  obtain ⟨p, rfl, _, _, _⟩ := open_int Tryz.underlying3 (hval 1 3 v1 rfl rfl) h1
  obtain ⟨got, s2, z2⟩ := open_u8s (hval 2 25 v2 rfl rfl) h2
  clear hA0 hval0
  simp only [List.append_nil] at hW' hlt
  refine (planesW_ r p _ got W s2 z2 (lg_of_laid hL)).mono fun e W' ⟨he, hg⟩ => ?_
  subst he
  exact ⟨_, rfl, _, _, _, [], _, [], hW', trodAll_mk1 (shut_bool Tryz.underlying4 _), trodAll_below Tryz.laidOut hg (by kernel_rfl) hAk hlt, rfl, hg.frame _, fun h => by cases h⟩

theorem nextPlanes_holds : Rows.NextPlanesSaid :=
  OpenClaim.holds_of_wide 5 Tryz.f5 rfl rfl rfl rfl rfl rfl rfl ⟨rfl, rfl, rfl, rfl, rfl⟩ rfl rfl rfl rfl rfl (by kernel_rfl) Tryz.func5 (by kernel_rfl)
    (of_decide_eq_true (by kernel_rfl)) (by unfold Func.isWrapper; first | (rw [if_pos (by decide +kernel)]; kernel_rfl) | (rw [if_neg (by decide +kernel)]; exact ⟨rfl, rfl⟩))
    (fun os started H enc _ => nextPlanes_lifted os started H enc)
#print axioms nextPlanes_holds

theorem nextPlanes_card : Rows.NextPlanesCardSaid :=
  Claim7.holds_tied_plain_at .later [] [.data] true (true, "29493549432773ae8e58e768a4077f6210b426e5ee4b915a71d8f8878f430310") true
    nextPlanes_holds (fun _ h => by cases h) (by kernel_rfl) (fun _ h => by cases h) nextPlanes_row_tie rfl ⟨rfl, rfl⟩ (by kernel_rfl) rfl
    (fun f fn hf hfn => by
      obtain rfl : f = 5 := Option.some.inj ((show Tryz.prog.funcNamed "charabanc/charabanclaw12.NextPlanes" = some 5 by kernel_rfl).symm.trans hf) |>.symm
      obtain rfl : fn = Tryz.f5 := (Option.some.inj (Tryz.func5.symm.trans hfn)).symm
      exact ⟨by kernel_rfl, fun j t ht => by
        rw [Tryz.params5] at ht
        have hm : t ∈ [24, 3, 25] := by simpa using Array.mem_of_getElem? ht
        have hall : ([24, 3, 25].all fun u => !Tryz.prog.wantsStandIn u) = true := by kernel_rfl
        exact (show Tryz.prog.wantsStandIn t = false by simpa using List.all_eq_true.1 hall t hm)⟩)
    (by kernel_rfl)
#print axioms nextPlanes_card
end Go.Proofs.YtnaampdpkegacaaGreatDoor
