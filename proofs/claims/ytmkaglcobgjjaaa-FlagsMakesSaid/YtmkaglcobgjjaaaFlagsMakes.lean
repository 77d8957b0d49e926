/-
  The statement FlagsMakes: what is made of any eight flags, what is told of any byte, its text, and the byte of any text of at most 50 bytes, are as the reference tells them. No condition.
-/
import Derived.Deep.RegionHeld3
import Derived.Test.YtmkaglcobgjjaaaF
import Derived.Test.YtmkaglcobgjjaaaL
namespace Go.Proofs.Ytmkaglcobgjjaaa
open Go.ChangeShapes Go.WideShapes Go.ChangeAt Go.RowKit Go.ChangeMaps

/-- What both readers of a text answer. -/
theorem readers_meet (s : ByteArray) (x y : Ending)
    (hx : (∃ a b c d e f g i : UInt8, s = ⟨#[a, b, c, d, e, f, g, i]⟩ ∧ ((((a = 83 ∨ a = 45) ∧ (b = 90 ∨ b = 45) ∧ (c = 89 ∨ c = 45) ∧ (d = 72 ∨ d = 45) ∧ (e = 88 ∨ e = 45) ∧ (f = 80 ∨ f = 45) ∧ (g = 78 ∨ g = 45) ∧ (i = 67 ∨ i = 45)) ∧ x = .returned (.tuple #[.int .u8 (mk (a == 83) (b == 90) (c == 89) (d == 72) (e == 88) (f == 80) (g == 78) (i == 67)), .bool true])) ∨ (¬ ((a = 83 ∨ a = 45) ∧ (b = 90 ∨ b = 45) ∧ (c = 89 ∨ c = 45) ∧ (d = 72 ∨ d = 45) ∧ (e = 88 ∨ e = 45) ∧ (f = 80 ∨ f = 45) ∧ (g = 78 ∨ g = 45) ∧ (i = 67 ∨ i = 45)) ∧ x = .returned (.tuple #[.int .u8 0, .bool false])))) ∨ (¬ s.size = 8 ∧ x = .returned (.tuple #[.int .u8 0, .bool false])))
    (hy : (∃ f : Nat, f < 256 ∧ shw f = s.toList ∧ y = .returned (.tuple #[.int .u8 f, .bool true])) ∨ ((∀ f : Nat, f < 256 → shw f ≠ s.toList) ∧ y = .returned (.tuple #[.int .u8 0, .bool false]))) :
    ∃ n : Int, ∃ b : Bool, x = .returned (.tuple #[.int .u8 n, .bool b]) ∧ y = .returned (.tuple #[.int .u8 n, .bool b]) := by
  rcases hx with ⟨a, b, c, d, e, f, g, i, rfl, hx⟩ | ⟨hs, rfl⟩
  · have el : (ByteArray.mk #[a, b, c, d, e, f, g, i]).toList = [a, b, c, d, e, f, g, i] := by rw [ByteArray.toList_eq]
    rw [el] at hy
    rcases hx with ⟨ok, rfl⟩ | ⟨no, rfl⟩
    · have hr := mk_range (a == 83) (b == 90) (c == 89) (d == 72) (e == 88) (f == 80) (g == 78) (i == 67)
      have hm : shw (mk (a == 83) (b == 90) (c == 89) (d == 72) (e == 88) (f == 80) (g == 78) (i == 67)) = [a, b, c, d, e, f, g, i] := by
        unfold shw chu
        simp only [bit7_mk, bit6_mk, bit5_mk, bit4_mk, bit3_mk, bit2_mk, bit1_mk, bit0_mk]
        have one : ∀ (x : UInt8) (n : UInt8), (x = n ∨ x = 45) → (bif x == n then n else 45) = x := by
          intro x n h
          by_cases e : x = n
          · rw [e]; simp
          · rcases h with h | h
            · exact absurd h e
            · rw [show (x == n) = false from beq_eq_false_iff_ne.2 e]; exact h.symm
        have o7 := one a 83 ok.1; have o6 := one b 90 ok.2.1; have o5 := one c 89 ok.2.2.1; have o4 := one d 72 ok.2.2.2.1
        have o3 := one e 88 ok.2.2.2.2.1; have o2 := one f 80 ok.2.2.2.2.2.1; have o1 := one g 78 ok.2.2.2.2.2.2.1; have o0 := one i 67 ok.2.2.2.2.2.2.2
        exact congr (congrArg _ o7) (congr (congrArg _ o6) (congr (congrArg _ o5) (congr (congrArg _ o4) (congr (congrArg _ o3) (congr (congrArg _ o2) (congr (congrArg _ o1) (congr (congrArg _ o0) rfl)))))))
      rcases hy with ⟨k, hk, hs, rfl⟩ | ⟨hn, rfl⟩
      · refine ⟨_, true, rfl, ?_⟩
        have := shw_inj ⟨k, hk⟩ ⟨(mk (a == 83) (b == 90) (c == 89) (d == 72) (e == 88) (f == 80) (g == 78) (i == 67)).toNat, by omega⟩ (by rw [hs]; simp only []; rw [Int.toNat_of_nonneg hr.1]; exact hm.symm)
        have hk' : k = (mk (a == 83) (b == 90) (c == 89) (d == 72) (e == 88) (f == 80) (g == 78) (i == 67)).toNat := congrArg Fin.val this
        rw [show (k : Int) = mk (a == 83) (b == 90) (c == 89) (d == 72) (e == 88) (f == 80) (g == 78) (i == 67) from by omega]
      · exact absurd (by rw [Int.toNat_of_nonneg hr.1]; exact hm) (hn (mk (a == 83) (b == 90) (c == 89) (d == 72) (e == 88) (f == 80) (g == 78) (i == 67)).toNat (by omega))
    · rcases hy with ⟨k, hk, hs, rfl⟩ | ⟨hn, rfl⟩
      · exfalso
        apply no
        have r := rd_shw (k : Int)
        simp only [shw, List.cons.injEq, and_true] at hs
        obtain ⟨rfl, rfl, rfl, rfl, rfl, rfl, rfl, rfl⟩ := hs
        exact r
      · exact ⟨0, false, rfl, rfl⟩
  · rcases hy with ⟨k, hk, h, rfl⟩ | ⟨hn, rfl⟩
    · exfalso
      apply hs
      have := congrArg List.length h
      rw [ByteArray.toList_eq] at this
      simpa [shw] using this.symm
    · exact ⟨0, false, rfl, rfl⟩
set_option maxRecDepth 100000 in
set_option maxHeartbeats 2000000 in
theorem flagsMakes_ (l0 l1 l2 l3 l4 l5 l6 l7 : Bool) (f : Int) (f0 : 0 ≤ f) (f1 : f ≤ 255) (s : ByteArray) (hm : s.size ≤ maxLen) (w : World) :
    Calls Try.prog 4 #[.agg #[.bool l0, .bool l1, .bool l2, .bool l3, .bool l4, .bool l5, .bool l6, .bool l7], .int .u8 f, .string s] w fun e w' => e = .returned (.bool true) ∧ Below w.heap.size w w' := by
  unfold maxLen at hm
  go_enter Try.func4, Try.ntmps4
  have hB : Below w.heap.size w (w.alloc (.cells #[.bool l0, .bool l1, .bool l2, .bool l3, .bool l4, .bool l5, .bool l6, .bool l7] 27)) := (Below.refl _ _).alloc (Nat.le_refl _) _
  have hL : (w.alloc (.cells #[.bool l0, .bool l1, .bool l2, .bool l3, .bool l4, .bool l5, .bool l6, .bool l7] 27)).heap[w.heap.size]? = some (.cells #[.bool l0, .bool l1, .bool l2, .bool l3, .bool l4, .bool l5, .bool l6, .bool l7] 27) := World.alloc_heap_new _ _
  go_wp2_with fail
  refine (law02awake_ _).mono ?_
  rintro x w1 ⟨rfl, hb⟩
  replace hL := (hb.block _ (by simp)).trans hL
  replace hB := hB.trans (hb.mono (by simp))
  clear hb
  have hz := (Array.getElem?_eq_some_iff.1 hL).1
  have HL := Lib.hid hL
  clear hL
  by_cases h50 : 50 < s.size
  · have h : (50 : Int) < s.size := by omega
    go_wp2
    go_ret
    exact ⟨rfl, hB⟩
  · have h : ¬ (50 : Int) < s.size := by omega
    go_wp2_with fail
    have hread : Calls Try.prog 12 #[.string s] w1 fun x w' => ((∃ a b c d e f g i : UInt8, s = ⟨#[a, b, c, d, e, f, g, i]⟩ ∧ ((((a = 83 ∨ a = 45) ∧ (b = 90 ∨ b = 45) ∧ (c = 89 ∨ c = 45) ∧ (d = 72 ∨ d = 45) ∧ (e = 88 ∨ e = 45) ∧ (f = 80 ∨ f = 45) ∧ (g = 78 ∨ g = 45) ∧ (i = 67 ∨ i = 45)) ∧ x = .returned (.tuple #[.int .u8 (mk (a == 83) (b == 90) (c == 89) (d == 72) (e == 88) (f == 80) (g == 78) (i == 67)), .bool true])) ∨ (¬ ((a = 83 ∨ a = 45) ∧ (b = 90 ∨ b = 45) ∧ (c = 89 ∨ c = 45) ∧ (d = 72 ∨ d = 45) ∧ (e = 88 ∨ e = 45) ∧ (f = 80 ∨ f = 45) ∧ (g = 78 ∨ g = 45) ∧ (i = 67 ∨ i = 45)) ∧ x = .returned (.tuple #[.int .u8 0, .bool false])))) ∨ (¬ s.size = 8 ∧ x = .returned (.tuple #[.int .u8 0, .bool false]))) ∧ Below w1.heap.size w1 w' := by
      by_cases h8 : s.size = 8
      · obtain ⟨a, b, c, d, e, f, g, i, rfl⟩ := eight s h8
        exact (read8_ a b c d e f g i w1).mono fun x w' ⟨h, hb⟩ => ⟨.inl ⟨a, b, c, d, e, f, g, i, rfl, h⟩, hb⟩
      · exact (read_no s h8 (by omega) w1).mono fun x w' ⟨h, hw⟩ => ⟨.inr ⟨h8, h⟩, by rw [← hw]; exact Below.refl _ _⟩
    refine hread.mono ?_
    rintro x w2 ⟨hx, hb⟩
    have hL := (hb.block _ hz).trans HL.out
    replace hB := bt hB hb
    clear hb HL hz hread
    have hz := (Array.getElem?_eq_some_iff.1 hL).1
    have HL := Lib.hid hL
    clear hL
    have hx2 : ∃ n b, x = .returned (.tuple #[.int .u8 n, .bool b]) := by
      rcases hx with ⟨_, _, _, _, _, _, _, _, _, h | h⟩ | h
      · exact ⟨_, _, h.2⟩
      · exact ⟨_, _, h.2⟩
      · exact ⟨_, _, h.2⟩
    obtain ⟨n, b, ex⟩ := hx2
    subst ex
    have HX := Lib.hid hx
    clear hx
    go_wp2_with fail
    refine (r02read_ s _).mono ?_
    rintro y w3 ⟨hy, hb⟩
    obtain ⟨n', b', e1, rfl⟩ := readers_meet s _ y HX.out hy
    simp only [Ending.returned.injEq, Value.tuple.injEq, Array.mk.injEq, List.cons.injEq, Value.int.injEq, Value.bool.injEq, and_true, true_and] at e1
    obtain ⟨rfl, rfl⟩ := e1
    clear hy HX
    have hL := (hb.block _ hz).trans HL.out
    replace hB := bt hB hb
    clear hb HL hz
    have hz := (Array.getElem?_eq_some_iff.1 hL).1
    have c0 := (heap_cell hL 0 _ rfl).1
    have c1 := (heap_cell hL 1 _ rfl).1
    have c2 := (heap_cell hL 2 _ rfl).1
    have c3 := (heap_cell hL 3 _ rfl).1
    have c4 := (heap_cell hL 4 _ rfl).1
    have c5 := (heap_cell hL 5 _ rfl).1
    have c6 := (heap_cell hL 6 _ rfl).1
    have c7 := (heap_cell hL 7 _ rfl).1
    clear hL
    have e8 := fun w => eq8_refl (bit 7 f) (bit 6 f) (bit 5 f) (bit 4 f) (bit 3 f) (bit 2 f) (bit 1 f) (bit 0 f) w
    go_wp2_with fail
    go_region_held3 (fun w' => w'.cell? ⟨w.heap.size, 0, none⟩ = some (.bool l0) ∧ w'.cell? ⟨w.heap.size, 1, none⟩ = some (.bool l1) ∧ w'.cell? ⟨w.heap.size, 2, none⟩ = some (.bool l2) ∧ w'.cell? ⟨w.heap.size, 3, none⟩ = some (.bool l3) ∧ w'.cell? ⟨w.heap.size, 4, none⟩ = some (.bool l4) ∧ w'.cell? ⟨w.heap.size, 5, none⟩ = some (.bool l5) ∧ w'.cell? ⟨w.heap.size, 6, none⟩ = some (.bool l6) ∧ w'.cell? ⟨w.heap.size, 7, none⟩ = some (.bool l7) ∧ w.heap.size < w'.heap.size ∧ Below w.heap.size w w')
      (first | exact ⟨by simpa using c0, by simpa using c1, by simpa using c2, by simpa using c3, by simpa using c4, by simpa using c5, by simpa using c6, by simpa using c7, by simpa using hz, hB.drew⟩ | go_keep | (go_split_ands; refine ⟨?_, ?_, ?_, ?_, ?_, ?_, ?_, ?_, ?_, ?_⟩ <;> first | assumption | (exact (Below.cell (by assumption) (by assumption)).trans (by assumption)) | (exact Nat.lt_of_lt_of_le (by assumption) (Below.size (by assumption))) | (exact bt (by assumption) (by assumption))))
      ((first | (go_at_call 14; refine (make_ _ _ _ _ _ _ _ _ _).mono ?_; rintro x wn ⟨rfl, hb⟩) | (go_at_call 15; refine (r02make_ _ _ _ _ _ _ _ _ _).mono ?_; rintro x wn ⟨rfl, hb⟩) | (go_at_call 16; refine (of_ _ _).mono ?_; rintro x wn ⟨rfl, hb⟩) | (go_at_call 17; refine (r02of_ _ f0 f1 _).mono ?_; rintro x wn ⟨rfl, hb⟩) | (go_at_call 18; refine (show_ _ _).mono ?_; rintro x wn ⟨rfl, hb⟩) | (go_at_call 19; refine (r02show_ _ f0 f1 _).mono ?_; rintro x wn ⟨rfl, hb⟩)))
    go_wp2
    go_ret
    rename_i hh
    exact ⟨rfl, hh.2.2.2.2.2.2.2.2.2⟩

set_option maxRecDepth 100000 in
theorem flagsMakes_lifted (os : Os) (started : os.Started) (H : Type) (enc : TypeId × Value → H) :
    ReturnsInHanded {} Try.checked os 4 .any (Rows.flagsMakesSpec.pre6 enc Try.prog Try.f4 Rows.flagsMakesRow.domain false) (Rows.flagsMakesSpec.post enc Try.prog Try.f4 false true false false) := by
  refine returnsInHanded_of_change (C := Try.checked) Try.own started (by kernel_rfl) Try.func4
    (ChangeSpec.witness6 (enc := enc) (C := Try.checked) false ⟨#[], #[.agg #[.bool false, .bool false, .bool false, .bool false, .bool false, .bool false, .bool false, .bool false], .int .u8 0, .string ⟨#[]⟩], []⟩ 8 (by kernel_rfl) (by kernel_rfl) (by kernel_rfl) (by kernel_rfl)) ?_
  intro W base args ds gs before hval0 hW hcnd _
  have hval : ∀ (j : Nat) t v, Try.f4.params[j]? = some t → args[j]? = some v → Value.okWide Try.prog W .any base t v := hval0
  have hW' := hW
  have hlt := fun x hx => hW.lt x hx
  obtain ⟨p, q, hA0, hV, rfl, hfz, hnd⟩ := hW
  have hA : DataW.TrodAll enc Try.prog W 0 (fun _ => true) true Try.f4.params.toList args.toList ds p := hA0
  have hAk := hA
  rw [Try.params4] at hA hval
  obtain ⟨v0, v1, v2, d0, d1, d2, p0, p1, p2, rfl, rfl, rfl, h0, h1, h2⟩ := trodAll_three hA
  obtain ⟨rfl, rfl⟩ := trodVars_none hV
  obtain ⟨l0, l1, l2, l3, l4, l5, l6, l7, rfl⟩ := open_b8 (hval 0 27 v0 rfl rfl) h0
  obtain ⟨f, rfl, _, _, w1⟩ := open_int Try.underlying5 (hval 1 5 v1 rfl rfl) h1
  obtain ⟨s, rfl, _, _, w2⟩ := open_string Try.underlying9 (hval 2 9 v2 rfl rfl) h2
  clear hA0 hval0
  simp only [List.append_nil] at hW' hlt
  refine (flagsMakes_ l0 l1 l2 l3 l4 l5 l6 l7 f (u8_of_wf w1).1 (u8_of_wf w1).2 s w2 W).mono fun e W' ⟨he, hg⟩ => ?_
  subst he
  exact ⟨_, rfl, _, _, _, [], _, [], hW', trodAll_mk1 (shut_bool Try.underlying4 _), trodAll_below Try.laidOut hg (by kernel_rfl) hAk hlt, rfl, hg.frame _, fun h => by cases h⟩

theorem flagsMakes_holds : Rows.FlagsMakesSaid :=
  OpenClaim.holds_of_wide 4 Try.f4 rfl rfl rfl rfl rfl rfl rfl ⟨rfl, rfl, rfl, rfl, rfl⟩ rfl rfl rfl rfl rfl (by kernel_rfl) Try.func4 (by kernel_rfl)
    (of_decide_eq_true (by kernel_rfl)) (by unfold Func.isWrapper; rw [if_neg (of_decide_eq_false (by kernel_rfl))]; exact ⟨rfl, rfl⟩)
    (fun os started H enc _ => flagsMakes_lifted os started H enc)
#print axioms flagsMakes_holds
end Go.Proofs.Ytmkaglcobgjjaaa
