/-
  Contract of next.Takes. A helper of the claim that stands beside it.
-/
import Derived.Deep.LoopGhost
import Derived.Test.YtnaampdpkegacaaGreatDoorj1
namespace Go.Proofs.YtnaampdpkegacaaGreatDoor
open Go.RowKit

/-- Is a cycle one that reads? -/
def reads (k : Int) : Bool := decide (k = 1) || decide (k = 2) || decide (k = 4)
def zero8 : U8 := u8 0
theorem zero8v : zero8.v = 0 := rfl
/-- The cycles that an instruction takes: so many at most are still to come. -/
def takesL (r : R) : Nat → List U8 → List U8 → Int → Int × Nat
  | 0, got, _, n => (n, got.length)
  | k + 1, got, ans, n => if (nextF r got).2.2 then (n, got.length) else
      takesL r k (got ++ [if reads (nextF r got).1.kind then ans.headD zero8 else zero8]) (if reads (nextF r got).1.kind then ans.tail else ans) (wrap64 (n + (nextF r got).1.t))
def takesF (r : R) (ans : List U8) : Int × Nat := takesL r 200 [] ans 0
def u8s (l : List U8) : List Value := l.map fun b => .int .u8 b.v
theorem own_sl {w : World} {base : Nat} {v : Value} {got : List U8} (h : w.ownsRow base 5 1 v got.length (u8s got)) : SlIs w v got := by
  obtain ⟨_, h⟩ := h
  rcases h with ⟨rfl, h0⟩ | ⟨g, cap, cur, rfl, hb, hg, hn, hm, hs, ht⟩
  · exact .inl ⟨none, 0, rfl, List.eq_nil_of_length_eq_zero h0⟩
  · refine .inr ⟨g, 0, cap, rfl, hn, (Array.getElem?_eq_some_iff.1 hg).1, fun j b hj => ?_⟩
    rw [heap_cell0 hg, Nat.zero_add]
    have e : (u8s got)[j]? = some (.int .u8 b.v) := by simp [u8s, hj]
    rw [← ht, List.getElem?_take] at e
    split at e
    · simpa using e
    · cases e
theorem own_below {w w1 : World} {base n : Nat} {v : Value} {xs : List Value} (h : w.ownsRow base 5 1 v n xs) (hb : Below w.heap.size w w1) : w1.ownsRow base 5 1 v n xs := by
  obtain ⟨hl, h⟩ := h
  refine ⟨hl, ?_⟩
  rcases h with h | ⟨g, cap, cur, h1, h2, hg, h3⟩
  · exact .inl h
  · exact .inr ⟨g, cap, cur, h1, h2, by rw [hb.block g (Array.getElem?_eq_some_iff.1 hg).1]; exact hg, h3⟩
def TakesRel (w0 : World) (r : R) (ans0 : List U8) (g : Nat) (a v n : Value) (W : World) : Prop := ∃ (got ans : List U8) (k : Int), got.length + g = 200 ∧ W.ownsRow w0.heap.size 5 1 v got.length (u8s got) ∧ SlIs w0 a ans ∧ n = .int .i64 k ∧ Below w0.heap.size w0 W ∧ takesF r ans0 = takesL r g got ans k
theorem own_row {w : World} {base n : Nat} {v : Value} {xs : List Value} (h : w.ownsRow base 5 1 v n xs) : ∀ k, v.ownBlock = some k → base ≤ k := by
  obtain ⟨_, h⟩ := h
  rcases h with ⟨rfl, rfl⟩ | ⟨g, cap, cur, rfl, hb, _⟩
  · intro k hk; cases hk
  · intro k hk; cases hk; exact hb
theorem takes_step {r : R} {g : Nat} {got an : List U8} {k : Int} {x : Cyc × R × Bool} {X : Int × Nat} (hE : X = takesL r (g + 1) got an k) (hx : nextF r got = x) (hl : x.2.2 = false) :
    X = takesL r g (got ++ [if reads x.1.kind then an.headD zero8 else zero8]) (if reads x.1.kind then an.tail else an) (wrap64 (k + x.1.t)) := by
  subst hx
  rw [hE]
  show (if (nextF r got).2.2 then _ else _) = _
  rw [if_neg (by rw [hl]; exact Bool.false_ne_true)]
theorem own_slice {w : World} {base n : Nat} {v : Value} {xs : List Value} (h : w.ownsRow base 5 1 v n xs) : ∃ a c, v = .slice a n c := by
  obtain ⟨_, h⟩ := h
  rcases h with ⟨rfl, rfl⟩ | ⟨g, cap, cur, rfl, _⟩
  · exact ⟨_, _, rfl⟩
  · exact ⟨_, _, rfl⟩
theorem Cyc.get0 (c : Cyc) : c.cells[0]? = some (.int .i64 c.kind) := rfl
theorem Cyc.get1 (c : Cyc) : c.cells[1]? = some (.int .u16 c.addr.v) := rfl
theorem Cyc.get2 (c : Cyc) : c.cells[2]? = some (.int .u8 c.data.v) := rfl
theorem Cyc.get3 (c : Cyc) : c.cells[3]? = some (.int .i64 c.t) := rfl
attribute [go_sem] Cyc.get0 Cyc.get1 Cyc.get2 Cyc.get3
theorem SlIs.nil {w : World} {a : Option Addr} {n c : Nat} (h : SlIs w (.slice a n c) []) : n = 0 := by
  rcases h with ⟨a', c', h, _⟩ | ⟨b, o, c', h, _⟩
  · cases h; rfl
  · cases h; rfl
theorem SlIs.cons {w : World} {a : Option Addr} {n c : Nat} {x : U8} {l : List U8} (h : SlIs w (.slice a n c) (x :: l)) :
    ∃ b o, a = some ⟨b, o, none⟩ ∧ n = l.length + 1 ∧ l.length + 1 ≤ c ∧ w.cell? ⟨b, o, none⟩ = some (.int .u8 x.v) ∧ (c = 1 → SlIs w (.slice (some ⟨b, o, none⟩) l.length 0) l) ∧ (¬ c = 1 → SlIs w (.slice (some ⟨b, o + 1, none⟩) l.length (c - 1)) l) := by
  rcases h with ⟨a', c', h, h2⟩ | ⟨b, o, c', h, hn, hlt, hc⟩
  · cases h2
  · cases h
    refine ⟨b, o, rfl, rfl, hn, hc 0 x rfl, fun h1 => ?_, fun h1 => ?_⟩
    · have hz : l = [] := List.eq_nil_of_length_eq_zero (by simp at hn; omega)
      subst hz
      exact .inl ⟨_, _, rfl, rfl⟩
    · refine .inr ⟨b, o + 1, c - 1, rfl, by simp at hn; omega, hlt, fun j v hj => ?_⟩
      rw [show o + 1 + j = o + (j + 1) by omega]
      exact hc (j + 1) v hj
theorem Tryz.info5 : (Tryz.prog.info? 5).map (fun i => (i.zero, i.size, i.bytes)) = some (some (.int .u8 0), 1, 1) := by kernel_rfl
def TakesPost (x : Int × Nat) (w : World) (e : Ending) (w' : World) : Prop := e = .returned (.tuple #[.int .i64 x.1, .int .i64 x.2]) ∧ Below w.heap.size w w'
set_option maxHeartbeats 2000000 in
set_option maxRecDepth 20000 in
theorem takesW_ (r : R) (av : Value) (ans : List U8) (w : World) (hg : SlIs w av ans) (hL : Lg w) : Calls Tryz.prog 16 #[.agg r.cells, av] w (TakesPost (takesF r ans) w) := by
  generalize hX : takesF r ans = X
  have HX := Lib.hid hX
  clear hX
  have hbw : Below w.heap.size w (w.alloc (.cells r.cells 24)) := (Below.refl _ _).alloc (Nat.le_refl _) _
  have HG := Lib.hid (And.intro hg hL)
  clear hg hL
  go_enter Tryz.func16, Tryz.ntmps16
  go_wp2_with fail
  have hR0 : (w.alloc (.cells r.cells 24)).heap[w.heap.size]? = some (.cells r.cells 24) := heap_alloc_last w _
  have hS0 : w.heap.size < (w.alloc (.cells r.cells 24)).heap.size := by simp
  obtain ⟨W0, hW0⟩ : ∃ W0, W0 = w.alloc (.cells r.cells 24) := ⟨_, rfl⟩
  rw [← hW0] at hbw hR0 hS0
  rw [← hW0]
  clear hW0
  have HR := Lib.hid hR0
  clear hR0
  go_loopg [1, 6, 7] 200 (fun g a v n W => TakesRel W0 r ans g a v n W)
  case atStart => exact ⟨[], ans, 0, rfl, ⟨rfl, .inl ⟨rfl, rfl⟩⟩, HG.out.1.kept hbw, rfl, Below.refl _ _, rfl⟩
  case round =>
    obtain ⟨got, an, k, hlen, hown, hsl, rfl, hb0, hE⟩ := hrel
    obtain ⟨va, vc, rfl⟩ := own_slice hown
    obtain ⟨aa, ac, an', rfl⟩ := hsl.slice
    have hLk : Lg wr := HG.out.2.kept (bt hbw hb0)
    have hNX := nextW_ r _ got wr (own_sl hown) hLk
    have hbk : blk wr w.heap.size = r.cells := by
      unfold blk; rw [hb0.block _ hS0, HR.out]
    have HN := Lib.hid hNX
    have HO := Lib.hid hown
    have HS := Lib.hid hsl
    have HXF := Lib.hid HX.out
    have HE := Lib.hid (HX.out.symm.trans hE)
    have HL := Lib.hid hlen
    clear hNX hown hsl hE hlen HX
    have hz : w.heap.size < wr.heap.size := Nat.lt_of_lt_of_le hS0 hb0.size
    have hsz : w.heap.size + 20 ≤ w.heap.size + 20 := Nat.le_refl _
    by_cases hlt : got.length < 200
    · obtain ⟨g, rfl⟩ : ∃ g', gk = g' + 1 := ⟨gk - 1, by have := HL.out; omega⟩
      obtain ⟨⟨cy, rr, l⟩, hx⟩ : ∃ x, nextF r got = x := ⟨_, rfl⟩
      rw [hx] at HN
      have HX2 := Lib.hid hx
      clear hx
      cases l
      · obtain ⟨i0, hi, hz0, hz1, hz2⟩ := info_parts Tryz.info5
        have hk : (cy.kind = 1 ∨ cy.kind = 2 ∨ cy.kind = 4) ∨ (¬ cy.kind = 1 ∧ ¬ cy.kind = 2 ∧ ¬ cy.kind = 4) := by omega
        rcases hk with hk | ⟨hk1, hk2, hk4⟩
        · cases an with
          | nil =>
            obtain rfl := HS.out.nil
            rcases hk with hk | hk | hk
            all_goals
             go_wp2_with (first | (go_at_call 12; refine HN.out.mono ?_; rintro e w1 ⟨rfl, hb⟩) | (at_builtin; refine wpList_append_own _ rfl _ _ 25 rfl W0.heap.size 5 i0 (.int .u8 0) 1 1 Tryz.underlying25 hi hz0 hz1 hz2 rfl (by decide) _ got.length (u8s got) rfl (own_below HO.out (bt hb (by go_grown))) ⟨w1.heap.size + 1 + 1, 0, none⟩ 1 1 [.int .u8 0] rfl rfl ?c1 ?c2 ?c3 ?c4 ?c5 ?_))
             case c1 => intro j u hj; rcases j with _ | j <;> simp at hj; subst hj; simp [go_sem]
             case c2 => intro u hu; simp at hu; subst hu; rfl
             case c3 => have := HL.out; unfold maxLen; omega
             case c4 => have := HL.out; omega
             case c5 => have := hb0.size; have := hb.size; simp; omega
             intro v' w2 hown' hgrow _
             have hbn : Below W0.heap.size W0 w2 := (bt hb0 (bt hb (by go_grown))).grown hgrow (by have := hb0.size; have := hb.size; simp; omega) (own_row HO.out)
             have HON := Lib.hid hown'
             clear hown' hgrow
             go_wp2
             go_roundg g
             case measure => exact Nat.lt_succ_self _
             case rel =>
               refine ⟨got ++ [zero8], [], wrap64 (k + cy.t), by have := HL.out; simp; omega, ?_, HS.out, rfl, hbn, ?_⟩
               · have := HON.out; simpa [u8s, zero8v] using this
               · rw [HXF.out, takes_step HE.out HX2.out rfl]
                 simp [reads, *]
          | cons x l =>
            obtain ⟨xb, xo, rfl, rfl, hcc, hcx0, hs1, hs2⟩ := HS.out.cons
            have hcx1 := kept hb0 hcx0
            have H1 := Lib.hid hs1
            have H2 := Lib.hid hs2
            clear hs1 hs2
            rcases (show an' = 1 ∨ ¬ an' = 1 by omega) with hc1 | hc1
            · have SL := H1.out hc1
              rcases hk with hk | hk | hk
              all_goals
               go_wp2_with ((go_at_call 12; refine HN.out.mono ?_; rintro e w1 ⟨rfl, hb⟩; have hcx := kept hb hcx1; have hcx2 := cell_alloc_l (.cells rr.cells 24) (cell_alloc_l (.cells cy.cells 28) hcx)))
               go_region
               all_goals
                 go_wp2_with ((at_builtin; refine wpList_append_own _ rfl _ _ 25 rfl W0.heap.size 5 i0 (.int .u8 0) 1 1 Tryz.underlying25 hi hz0 hz1 hz2 rfl (by decide) _ got.length (u8s got) rfl (own_below HO.out (bt hb (by go_grown))) ⟨w1.heap.size + 1 + 1, 0, none⟩ 1 1 [.int .u8 x.v] rfl rfl ?c1 ?c2 ?c3 ?c4 ?c5 ?_))
                 case c1 => intro j u hj; rcases j with _ | j <;> simp at hj; subst hj; simp [go_sem]
                 case c2 => intro u hu; simp at hu; subst hu; rfl
                 case c3 => have := HL.out; unfold maxLen; omega
                 case c4 => have := HL.out; omega
                 case c5 => have := hb0.size; have := hb.size; simp; omega
                 intro v' w2 hown' hgrow _
                 have hbn : Below W0.heap.size W0 w2 := (bt hb0 (bt hb (by go_grown))).grown hgrow (by have := hb0.size; have := hb.size; simp; omega) (own_row HO.out)
                 have HON := Lib.hid hown'
                 clear hown' hgrow
                 go_wp2
                 go_roundg g
                 case measure => exact Nat.lt_succ_self _
                 case rel =>
                   refine ⟨got ++ [x], l, wrap64 (k + cy.t), by have := HL.out; simp; omega, ?_, SL, rfl, hbn, ?_⟩
                   · have := HON.out; simpa [u8s, zero8v] using this
                   · rw [HXF.out, takes_step HE.out HX2.out rfl]
                     simp [reads, *]
            · have SL := H2.out hc1
              rcases hk with hk | hk | hk
              all_goals
               go_wp2_with ((go_at_call 12; refine HN.out.mono ?_; rintro e w1 ⟨rfl, hb⟩; have hcx := kept hb hcx1; have hcx2 := cell_alloc_l (.cells rr.cells 24) (cell_alloc_l (.cells cy.cells 28) hcx)))
               go_region
               all_goals
                 go_wp2_with ((at_builtin; refine wpList_append_own _ rfl _ _ 25 rfl W0.heap.size 5 i0 (.int .u8 0) 1 1 Tryz.underlying25 hi hz0 hz1 hz2 rfl (by decide) _ got.length (u8s got) rfl (own_below HO.out (bt hb (by go_grown))) ⟨w1.heap.size + 1 + 1, 0, none⟩ 1 1 [.int .u8 x.v] rfl rfl ?c1 ?c2 ?c3 ?c4 ?c5 ?_))
                 case c1 => intro j u hj; rcases j with _ | j <;> simp at hj; subst hj; simp [go_sem]
                 case c2 => intro u hu; simp at hu; subst hu; rfl
                 case c3 => have := HL.out; unfold maxLen; omega
                 case c4 => have := HL.out; omega
                 case c5 => have := hb0.size; have := hb.size; simp; omega
                 intro v' w2 hown' hgrow _
                 have hbn : Below W0.heap.size W0 w2 := (bt hb0 (bt hb (by go_grown))).grown hgrow (by have := hb0.size; have := hb.size; simp; omega) (own_row HO.out)
                 have HON := Lib.hid hown'
                 clear hown' hgrow
                 go_wp2
                 go_roundg g
                 case measure => exact Nat.lt_succ_self _
                 case rel =>
                   refine ⟨got ++ [x], l, wrap64 (k + cy.t), by have := HL.out; simp; omega, ?_, SL, rfl, hbn, ?_⟩
                   · have := HON.out; simpa [u8s, zero8v] using this
                   · rw [HXF.out, takes_step HE.out HX2.out rfl]
                     simp [reads, *]
        · have b1 : (cy.kind == 1) = false := by simpa using hk1
          have b2 : (cy.kind == 2) = false := by simpa using hk2
          have b4 : (cy.kind == 4) = false := by simpa using hk4
          go_wp2_with (first | (go_at_call 12; refine HN.out.mono ?_; rintro e w1 ⟨rfl, hb⟩) | (at_builtin; refine wpList_append_own _ rfl _ _ 25 rfl W0.heap.size 5 i0 (.int .u8 0) 1 1 Tryz.underlying25 hi hz0 hz1 hz2 rfl (by decide) _ got.length (u8s got) rfl (own_below HO.out (bt hb (by go_grown))) ⟨w1.heap.size + 1 + 1, 0, none⟩ 1 1 [.int .u8 0] rfl rfl ?c1 ?c2 ?c3 ?c4 ?c5 ?_))
          case c1 => intro j u hj; rcases j with _ | j <;> simp at hj; subst hj; simp [go_sem]
          case c2 => intro u hu; simp at hu; subst hu; rfl
          case c3 => have := HL.out; unfold maxLen; omega
          case c4 => have := HL.out; omega
          case c5 => have := hb0.size; have := hb.size; simp; omega
          intro v' w2 hown' hgrow _
          have hbn : Below W0.heap.size W0 w2 := (bt hb0 (bt hb (by go_grown))).grown hgrow (by have := hb0.size; have := hb.size; simp; omega) (own_row HO.out)
          have HON := Lib.hid hown'
          clear hown' hgrow
          go_wp2
          go_roundg g
          case measure => exact Nat.lt_succ_self _
          case rel =>
            refine ⟨got ++ [zero8], an, wrap64 (k + cy.t), by have := HL.out; simp; omega, ?_, HS.out, rfl, hbn, ?_⟩
            · have := HON.out; simpa [u8s, zero8v] using this
            · rw [HXF.out, takes_step HE.out HX2.out rfl]
              simp [reads, *]
      · go_wp2_with (go_at_call 12; refine HN.out.mono ?_; rintro e w1 ⟨rfl, hb⟩)
        go_ret2
        have he : X = (k, got.length) := by
          have := HE.out
          unfold takesL at this
          rw [HX2.out] at this
          exact this
        subst he
        exact ⟨rfl, bt hbw (bt hb0 (bt hb (by go_grown)))⟩
    · have hg0 : gk = 0 := by have := HL.out; omega
      subst hg0
      go_wp2
      go_ret2
      have he : X = (k, got.length) := HE.out
      subst he
      exact ⟨rfl, bt hbw hb0⟩
end Go.Proofs.YtnaampdpkegacaaGreatDoor
