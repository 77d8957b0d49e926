/-
  Contract of the reference 12's Takes. A helper of the claims that stand beside it. (Printed by wip/genrta.py.)
-/
import Derived.Test.YtnaampdpkegacaaGreatDooropen
import Derived.Test.YtnaampdpkegacaaGreatDoorry
namespace Go.Proofs.YtnaampdpkegacaaGreatDoor
open Go.RowKit
def QTakesRel (w0 : World) (r : R) (ans0 : List U8) (g : Nat) (v n k : Value) (W : World) : Prop := ∃ (got : List U8) (j : Nat) (m : Int), got.length + g = 200 ∧ j + g ≤ 200 ∧ W.ownsRow w0.heap.size 5 1 v got.length (u8s got) ∧ n = .int .i64 m ∧ k = .int .i64 (j : Int) ∧ Below w0.heap.size w0 W ∧ takesF r ans0 = takesL r g got (ans0.drop j) m
theorem drop_in {l : List U8} {j : Nat} {x : U8} (h : l[j]? = some x) : (l.drop j).headD zero8 = x ∧ (l.drop j).tail = l.drop (j + 1) := by
  obtain ⟨hj, rfl⟩ := List.getElem?_eq_some_iff.1 h
  rw [List.drop_eq_getElem_cons hj]
  exact ⟨rfl, rfl⟩
theorem drop_out {l : List U8} {j : Nat} (h : l.length ≤ j) : (l.drop j).headD zero8 = zero8 ∧ (l.drop j).tail = l.drop (j + 1) := by
  rw [List.drop_eq_nil_of_le h, List.drop_eq_nil_of_le (by omega)]
  exact ⟨rfl, rfl⟩
set_option maxHeartbeats 4000000 in
set_option maxRecDepth 20000 in
theorem r12takesW_ (r : R) (av : Value) (ans : List U8) (w : World) (hg : SlIs w av ans) : Calls Tryz.prog 17 #[.agg r.cells, av] w (TakesPost (takesF r ans) w) := by
  generalize hX : takesF r ans = X
  have HX := Lib.hid hX
  clear hX
  have hbw : Below w.heap.size w (w.alloc (.cells r.cells 24)) := (Below.refl _ _).alloc (Nat.le_refl _) _
  obtain ⟨aa, an, rfl⟩ := hg.slice'
  have HG := Lib.hid hg
  clear hg
  go_enter Tryz.func17, Tryz.ntmps17
  go_wp2_with fail
  have hR0 : (w.alloc (.cells r.cells 24)).heap[w.heap.size]? = some (.cells r.cells 24) := heap_alloc_last w _
  have hS0 : w.heap.size < (w.alloc (.cells r.cells 24)).heap.size := by simp
  obtain ⟨W0, hW0⟩ : ∃ W0, W0 = w.alloc (.cells r.cells 24) := ⟨_, rfl⟩
  rw [← hW0] at hbw hR0 hS0
  rw [← hW0]
  clear hW0
  have HR := Lib.hid hR0
  clear hR0
  go_loopg [6, 7, 8] 200 (fun g v n k W => QTakesRel W0 r ans g v n k W)
  case atStart => exact ⟨[], 0, 0, rfl, by omega, ⟨rfl, .inl ⟨rfl, rfl⟩⟩, rfl, rfl, Below.refl _ _, rfl⟩
  case round =>
    obtain ⟨got, j, m, hlen, hj, hown, rfl, rfl, hb0, hE⟩ := hrel
    obtain ⟨va, vc, rfl⟩ := own_slice hown
    have hNX := r12nextW_ r _ got wr (own_sl hown) (by omega)
    have hbk : blk wr w.heap.size = r.cells := by
      unfold blk; rw [hb0.block _ hS0, HR.out]
    have HN := Lib.hid hNX
    have HO := Lib.hid hown
    have HXF := Lib.hid HX.out
    have HE := Lib.hid (HX.out.symm.trans hE)
    have HL := Lib.hid (And.intro hlen hj)
    clear hNX hown hE hlen hj HX
    have hz : w.heap.size < wr.heap.size := Nat.lt_of_lt_of_le hS0 hb0.size
    have hsz : w.heap.size + 20 ≤ w.heap.size + 20 := Nat.le_refl _
    by_cases hlt : got.length < 200
    · obtain ⟨g, rfl⟩ : ∃ g', gk = g' + 1 := ⟨gk - 1, by have := HL.out; omega⟩
      obtain ⟨⟨cy, rr, l⟩, hx⟩ : ∃ x, nextF r got = x := ⟨_, rfl⟩
      rw [hx] at HN
      have HX2 := Lib.hid hx
      clear hx
      cases l
      · obtain ⟨i0, hi, hz0, hz1, hz2⟩ := info_parts Tryz.info5
        have hk : (cy.kind = 1 ∨ cy.kind = 2 ∨ cy.kind = 4) ∨ (¬ cy.kind = 1 ∧ ¬ cy.kind = 2 ∧ ¬ cy.kind = 4) := by omega
        have hwj : wrap64 ((j : Int) + 1) = (j : Int) + 1 := by have := HL.out.2; unfold wrap64; omega
        rcases hk with hk | ⟨hk1, hk2, hk4⟩
        · by_cases hja : j < ans.length
          · obtain ⟨x, hx⟩ : ∃ x, ans[j]? = some x := ⟨_, List.getElem?_eq_getElem hja⟩
            obtain ⟨xb, xo, hae, hcell⟩ : ∃ xb xo, aa = some ⟨xb, xo, none⟩ ∧ w.cell? ⟨xb, xo + j, none⟩ = some (.int .u8 x.v) := by
              rcases HG.out with ⟨a', c', e, h0⟩ | ⟨b', o', c', e, h1, h2, h3⟩
              · rw [h0] at hja; simp at hja
              · cases e; exact ⟨b', o', rfl, h3 _ _ hx⟩
            subst hae
            have hcx1 := kept (bt hbw hb0) hcell
            obtain ⟨hd1, hd2⟩ := drop_in hx
            have HD := Lib.hid (And.intro hd1 hd2)
            have hj1 : (j : Int) < (ans.length : Int) := by omega
            have hj0 : (0 : Int) ≤ (j : Int) := by omega
            clear hx hcell hd1 hd2
            rcases hk with hk | hk | hk
            all_goals
              go_wp2_with (first | (go_at_call 13; refine HN.out.mono ?_; rintro e w1 ⟨rfl, hb⟩; have hcx := kept hb hcx1; have hcx2 := cell_alloc_l (.cells rr.cells 24) (cell_alloc_l (.cells cy.cells 28) hcx)) | (at_builtin; refine wpList_append_own _ rfl _ _ 25 rfl W0.heap.size 5 i0 (.int .u8 0) 1 1 Tryz.underlying25 hi hz0 hz1 hz2 rfl (by decide) _ got.length (u8s got) rfl (own_below HO.out (bt hb (by go_grown))) ⟨w1.heap.size + 1 + 1, 0, none⟩ 1 1 [.int .u8 x.v] rfl rfl ?c1 ?c2 ?c3 ?c4 ?c5 ?_))
              case c1 => intro i u hj; rcases i with _ | i <;> simp at hj; subst hj; simp [go_sem]
              case c2 => intro u hu; simp at hu; subst hu; rfl
              case c3 => unfold maxLen; omega
              case c4 => omega
              case c5 => have := hb0.size; have := hb.size; simp; omega
              intro v' w2 hown' hgrow _
              have hbn : Below W0.heap.size W0 w2 := (bt hb0 (bt hb (by go_grown))).grown hgrow (by have := hb0.size; have := hb.size; simp; omega) (own_row HO.out)
              have HON := Lib.hid hown'
              clear hown' hgrow
              go_wp2
              go_roundg g
              case measure => exact Nat.lt_succ_self _
              case rel =>
                refine ⟨got ++ [x], j + 1, wrap64 (m + cy.t), by have := HL.out.1; simp; omega, by have := HL.out.2; omega, ?_, rfl, by go_num, hbn, ?_⟩
                · have := HON.out; simpa [u8s, zero8v] using this
                · rw [HXF.out, takes_step HE.out HX2.out rfl]
                  have hrd : reads cy.kind = true := by simp [reads, *]
                  show takesL r g (got ++ [if reads cy.kind then _ else _]) (if reads cy.kind then _ else _) _ = _
                  rw [hrd, if_pos rfl, if_pos rfl, HD.out.1, HD.out.2]
          · obtain ⟨hd1, hd2⟩ := drop_out (l := ans) (j := j) (by omega)
            have HD := Lib.hid (And.intro hd1 hd2)
            have hj1 : ¬ (j : Int) < (ans.length : Int) := by omega
            clear hd1 hd2
            rcases hk with hk | hk | hk
            all_goals
              go_wp2_with (first | (go_at_call 13; refine HN.out.mono ?_; rintro e w1 ⟨rfl, hb⟩) | (at_builtin; refine wpList_append_own _ rfl _ _ 25 rfl W0.heap.size 5 i0 (.int .u8 0) 1 1 Tryz.underlying25 hi hz0 hz1 hz2 rfl (by decide) _ got.length (u8s got) rfl (own_below HO.out (bt hb (by go_grown))) ⟨w1.heap.size + 1 + 1, 0, none⟩ 1 1 [.int .u8 0] rfl rfl ?c1 ?c2 ?c3 ?c4 ?c5 ?_))
              case c1 => intro i u hj; rcases i with _ | i <;> simp at hj; subst hj; simp [go_sem]
              case c2 => intro u hu; simp at hu; subst hu; rfl
              case c3 => unfold maxLen; omega
              case c4 => omega
              case c5 => have := hb0.size; have := hb.size; simp; omega
              intro v' w2 hown' hgrow _
              have hbn : Below W0.heap.size W0 w2 := (bt hb0 (bt hb (by go_grown))).grown hgrow (by have := hb0.size; have := hb.size; simp; omega) (own_row HO.out)
              have HON := Lib.hid hown'
              clear hown' hgrow
              go_wp2
              go_roundg g
              case measure => exact Nat.lt_succ_self _
              case rel =>
                refine ⟨got ++ [zero8], j + 1, wrap64 (m + cy.t), by have := HL.out.1; simp; omega, by have := HL.out.2; omega, ?_, rfl, by go_num, hbn, ?_⟩
                · have := HON.out; simpa [u8s, zero8v] using this
                · rw [HXF.out, takes_step HE.out HX2.out rfl]
                  have hrd : reads cy.kind = true := by simp [reads, *]
                  show takesL r g (got ++ [if reads cy.kind then _ else _]) (if reads cy.kind then _ else _) _ = _
                  rw [hrd, if_pos rfl, if_pos rfl, HD.out.1, HD.out.2]
        · have b1 : (cy.kind == 1) = false := by simpa using hk1
          have b2 : (cy.kind == 2) = false := by simpa using hk2
          have b4 : (cy.kind == 4) = false := by simpa using hk4
          go_wp2_with (first | (go_at_call 13; refine HN.out.mono ?_; rintro e w1 ⟨rfl, hb⟩) | (at_builtin; refine wpList_append_own _ rfl _ _ 25 rfl W0.heap.size 5 i0 (.int .u8 0) 1 1 Tryz.underlying25 hi hz0 hz1 hz2 rfl (by decide) _ got.length (u8s got) rfl (own_below HO.out (bt hb (by go_grown))) ⟨w1.heap.size + 1 + 1, 0, none⟩ 1 1 [.int .u8 0] rfl rfl ?c1 ?c2 ?c3 ?c4 ?c5 ?_))
          case c1 => intro i u hj; rcases i with _ | i <;> simp at hj; subst hj; simp [go_sem]
          case c2 => intro u hu; simp at hu; subst hu; rfl
          case c3 => unfold maxLen; omega
          case c4 => omega
          case c5 => have := hb0.size; have := hb.size; simp; omega
          intro v' w2 hown' hgrow _
          have hbn : Below W0.heap.size W0 w2 := (bt hb0 (bt hb (by go_grown))).grown hgrow (by have := hb0.size; have := hb.size; simp; omega) (own_row HO.out)
          have HON := Lib.hid hown'
          clear hown' hgrow
          go_wp2
          go_roundg g
          case measure => exact Nat.lt_succ_self _
          case rel =>
            refine ⟨got ++ [zero8], j, wrap64 (m + cy.t), by have := HL.out.1; simp; omega, by have := HL.out.2; omega, ?_, rfl, by go_num, hbn, ?_⟩
            · have := HON.out; simpa [u8s, zero8v] using this
            · rw [HXF.out, takes_step HE.out HX2.out rfl]
              simp [reads, *]
      · go_wp2_with (go_at_call 13; refine HN.out.mono ?_; rintro e w1 ⟨rfl, hb⟩)
        go_ret2
        have he : X = (m, got.length) := by
          have := HE.out
          unfold takesL at this
          rw [HX2.out] at this
          exact this
        subst he
        exact ⟨rfl, bt hbw (bt hb0 (bt hb (by go_grown)))⟩
    · have hg0 : gk = 0 := by have := HL.out; omega
      subst hg0
      go_wp2
      go_ret2
      have he : X = (m, got.length) := HE.out
      subst he
      exact ⟨rfl, bt hbw hb0⟩
end Go.Proofs.YtnaampdpkegacaaGreatDoor
