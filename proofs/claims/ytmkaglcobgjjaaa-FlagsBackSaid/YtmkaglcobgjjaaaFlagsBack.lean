/-
  The statement FlagsBack: what is made of any eight flags is told again, what is shown of any byte is read, conditions in pairs are never alike. No condition.
-/
import Derived.Deep.RegionHeld3
import Derived.Test.YtmkaglcobgjjaaaF
import Derived.Test.YtmkaglcobgjjaaaL
namespace Go.Proofs.Ytmkaglcobgjjaaa
open Go.ChangeShapes Go.WideShapes Go.ChangeAt Go.RowKit Go.ChangeMaps

set_option maxRecDepth 100000 in
set_option maxHeartbeats 1000000 in
theorem flagsBack_ (l0 l1 l2 l3 l4 l5 l6 l7 : Bool) (f : Int) (f0 : 0 ≤ f) (f1 : f ≤ 255) (w : World) :
    Calls Try.prog 6 #[.agg #[.bool l0, .bool l1, .bool l2, .bool l3, .bool l4, .bool l5, .bool l6, .bool l7], .int .u8 f] w fun e w' => e = .returned (.bool true) ∧ Below w.heap.size w w' := by
  go_enter Try.func6, Try.ntmps6
  have hB : Below w.heap.size w (w.alloc (.cells #[.bool l0, .bool l1, .bool l2, .bool l3, .bool l4, .bool l5, .bool l6, .bool l7] 27)) := (Below.refl _ _).alloc (Nat.le_refl _) _
  have hL : (w.alloc (.cells #[.bool l0, .bool l1, .bool l2, .bool l3, .bool l4, .bool l5, .bool l6, .bool l7] 27)).heap[w.heap.size]? = some (.cells #[.bool l0, .bool l1, .bool l2, .bool l3, .bool l4, .bool l5, .bool l6, .bool l7] 27) := World.alloc_heap_new _ _
  go_wp2_with fail
  refine (law02awake_ _).mono ?_
  rintro x w1 ⟨rfl, hb⟩
  replace hL := (hb.block _ (by simp)).trans hL
  replace hB := hB.trans (hb.mono (by simp))
  clear hb
  have hz := (Array.getElem?_eq_some_iff.1 hL).1
  have HL := Lib.hid hL
  clear hL
  go_wp2_with fail
  refine (show_ _ _).mono ?_
  rintro x w2 ⟨rfl, hb⟩
  have hL := (hb.block _ hz).trans HL.out
  replace hB := bt hB hb
  clear hb HL hz
  have hz := (Array.getElem?_eq_some_iff.1 hL).1
  have HL := Lib.hid hL
  clear hL
  go_wp2_with fail
  refine (read8_ (chu f 7) (chu f 6) (chu f 5) (chu f 4) (chu f 3) (chu f 2) (chu f 1) (chu f 0) _).mono ?_
  rintro x w3 ⟨hx, hb⟩
  have hx' : x = .returned (.tuple #[.int .u8 f, .bool true]) := by
    rcases hx with ⟨_, rfl⟩ | ⟨hx, _⟩
    · rw [mk_shw f f0 f1]
    · exact absurd (rd_shw f) hx
  clear hx
  subst hx'
  have hL := (hb.block _ hz).trans HL.out
  replace hB := bt hB hb
  clear hb HL hz
  have hz := (Array.getElem?_eq_some_iff.1 hL).1
  have HL := Lib.hid hL
  clear hL
  have t0 : (tst f 0 == tst f 1) = false := by rw [tst_0, tst_1]; cases bit 6 f <;> rfl
  have t2 : (tst f 2 == tst f 3) = false := by rw [tst_2, tst_3]; cases bit 0 f <;> rfl
  have t4 : (tst f 4 == tst f 5) = false := by rw [tst_4, tst_5]; cases bit 2 f <;> rfl
  have t6 : (tst f 6 == tst f 7) = false := by rw [tst_6, tst_7]; cases bit 7 f <;> rfl
  go_wp2_with fail
  refine wp_loop_rounds 6 ?_
  repeat any_goals (rw [rounds_succ]; go_wp2_with (go_at_call 10; refine (test_ _ _ _).mono ?_; rintro x wn ⟨rfl, hb⟩; replace HL := Lib.hid ((hb.block _ hz).trans HL.out); replace hz := Nat.lt_of_lt_of_le hz hb.size; replace hB := bt hB hb; clear hb))
  have hL := HL.out
  have c0 := (heap_cell hL 0 _ rfl).1
  have c1 := (heap_cell hL 1 _ rfl).1
  have c2 := (heap_cell hL 2 _ rfl).1
  have c3 := (heap_cell hL 3 _ rfl).1
  have c4 := (heap_cell hL 4 _ rfl).1
  have c5 := (heap_cell hL 5 _ rfl).1
  have c6 := (heap_cell hL 6 _ rfl).1
  have c7 := (heap_cell hL 7 _ rfl).1
  clear hL HL t0 t2 t4 t6
  have e8 := fun w => eq8_refl l0 l1 l2 l3 l4 l5 l6 l7 w
  have em : (mk (bit 7 f) (bit 6 f) (bit 5 f) (bit 4 f) (bit 3 f) (bit 2 f) (bit 1 f) (bit 0 f) == f) = true := by rw [mk_bit f f0 f1]; exact beq_self_eq_true _
  go_region_held3 (fun w' => w'.cell? ⟨w.heap.size, 0, none⟩ = some (.bool l0) ∧ w'.cell? ⟨w.heap.size, 1, none⟩ = some (.bool l1) ∧ w'.cell? ⟨w.heap.size, 2, none⟩ = some (.bool l2) ∧ w'.cell? ⟨w.heap.size, 3, none⟩ = some (.bool l3) ∧ w'.cell? ⟨w.heap.size, 4, none⟩ = some (.bool l4) ∧ w'.cell? ⟨w.heap.size, 5, none⟩ = some (.bool l5) ∧ w'.cell? ⟨w.heap.size, 6, none⟩ = some (.bool l6) ∧ w'.cell? ⟨w.heap.size, 7, none⟩ = some (.bool l7) ∧ w.heap.size < w'.heap.size ∧ Below w.heap.size w w')
    (first | exact ⟨by simpa using c0, by simpa using c1, by simpa using c2, by simpa using c3, by simpa using c4, by simpa using c5, by simpa using c6, by simpa using c7, by simpa using hz, hB.drew⟩ | go_keep | (go_split_ands; refine ⟨?_, ?_, ?_, ?_, ?_, ?_, ?_, ?_, ?_, ?_⟩ <;> first | assumption | (exact (Below.cell (by assumption) (by assumption)).trans (by assumption)) | (exact Nat.lt_of_lt_of_le (by assumption) (Below.size (by assumption))) | (exact bt (by assumption) (by assumption))))
    ((first | (go_at_call 14; refine (make_ _ _ _ _ _ _ _ _ _).mono ?_; rintro x wn ⟨rfl, hb⟩) | (go_at_call 16; refine (of_ _ _).mono ?_; rintro x wn ⟨rfl, hb⟩) | (go_at_call 18; refine (show_ _ _).mono ?_; rintro x wn ⟨rfl, hb⟩)))
  go_wp2
  go_ret
  rename_i hh
  exact ⟨rfl, hh.2.2.2.2.2.2.2.2.2⟩

set_option maxRecDepth 100000 in
theorem flagsBack_lifted (os : Os) (started : os.Started) (H : Type) (enc : TypeId × Value → H) :
    ReturnsInHanded {} Try.checked os 6 .any (Rows.flagsBackSpec.pre6 enc Try.prog Try.f6 Rows.flagsBackRow.domain false) (Rows.flagsBackSpec.post enc Try.prog Try.f6 false true false false) := by
  refine returnsInHanded_of_change (C := Try.checked) Try.own started (by kernel_rfl) Try.func6
    (ChangeSpec.witness6 (enc := enc) (C := Try.checked) false ⟨#[], #[.agg #[.bool false, .bool false, .bool false, .bool false, .bool false, .bool false, .bool false, .bool false], .int .u8 0], []⟩ 8 (by kernel_rfl) (by kernel_rfl) (by kernel_rfl) (by kernel_rfl)) ?_
  intro W base args ds gs before hval0 hW hcnd _
  have hval : ∀ (j : Nat) t v, Try.f6.params[j]? = some t → args[j]? = some v → Value.okWide Try.prog W .any base t v := hval0
  have hW' := hW
  have hlt := fun x hx => hW.lt x hx
  obtain ⟨p, q, hA0, hV, rfl, hfz, hnd⟩ := hW
  have hA : DataW.TrodAll enc Try.prog W 0 (fun _ => true) true Try.f6.params.toList args.toList ds p := hA0
  have hAk := hA
  rw [Try.params6] at hA hval
  obtain ⟨v0, v1, d0, d1, p0, p1, rfl, rfl, rfl, h0, h1⟩ := trodAll_two hA
  obtain ⟨rfl, rfl⟩ := trodVars_none hV
  obtain ⟨l0, l1, l2, l3, l4, l5, l6, l7, rfl⟩ := open_b8 (hval 0 27 v0 rfl rfl) h0
  obtain ⟨f, rfl, _, _, w1⟩ := open_int Try.underlying5 (hval 1 5 v1 rfl rfl) h1
  clear hA0 hval0
  simp only [List.append_nil] at hW' hlt
  refine (flagsBack_ l0 l1 l2 l3 l4 l5 l6 l7 f (u8_of_wf w1).1 (u8_of_wf w1).2 W).mono fun e W' ⟨he, hg⟩ => ?_
  subst he
  exact ⟨_, rfl, _, _, _, [], _, [], hW', trodAll_mk1 (shut_bool Try.underlying4 _), trodAll_below Try.laidOut hg (by kernel_rfl) hAk hlt, rfl, hg.frame _, fun h => by cases h⟩

theorem flagsBack_holds : Rows.FlagsBackSaid :=
  OpenClaim.holds_of_wide 6 Try.f6 rfl rfl rfl rfl rfl rfl rfl ⟨rfl, rfl, rfl, rfl, rfl⟩ rfl rfl rfl rfl rfl (by kernel_rfl) Try.func6 (by kernel_rfl)
    (of_decide_eq_true (by kernel_rfl)) (by unfold Func.isWrapper; rw [if_neg (of_decide_eq_false (by kernel_rfl))]; exact ⟨rfl, rfl⟩)
    (fun os started H enc _ => flagsBack_lifted os started H enc)
#print axioms flagsBack_holds
end Go.Proofs.Ytmkaglcobgjjaaa
