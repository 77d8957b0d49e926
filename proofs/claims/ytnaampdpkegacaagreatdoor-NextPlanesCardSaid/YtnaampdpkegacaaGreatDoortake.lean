/-
  Contract of next.Takes. A helper of the claim that stands beside it.
-/
import Derived.Deep.LoopGhost
import Derived.Test.YtnaampdpkegacaaGreatDoornext
import Derived.Laws.StructEq

namespace Go.Proofs.YtnaampdpkegacaaGreatDoor
open Go.RowKit

/-- Is a cycle one that reads? -/
def reads (k : Int) : Bool := decide (k = 1) || decide (k = 2) || decide (k = 4)
/-- The cycles that an instruction takes: so many at most are still to come. -/
def takesL (r : R) : Nat → List U8 → List U8 → Int → Int × Nat
  | 0, got, _, n => (n, got.length)
  | k + 1, got, ans, n => if (nextF r got).2.2 then (n, got.length) else
      takesL r k (got ++ [if reads (nextF r got).1.kind then ans.headD zero8 else zero8]) (if reads (nextF r got).1.kind then ans.tail else ans) (wrap64 (n + (nextF r got).1.t))
def takesF (r : R) (ans : List U8) : Int × Nat := takesL r 200 [] ans 0
def u8s (l : List U8) : List Value := l.map fun b => .int .u8 b.v
theorem own_sl {w : World} {base : Nat} {v : Value} {got : List U8} (h : w.ownsRow base 5 1 v got.length (u8s got)) : SlIs w v got := by
  obtain ⟨_, h⟩ := h
  rcases h with ⟨rfl, h0⟩ | ⟨g, cap, cur, rfl, hb, hg, hn, hm, hs, ht⟩
  · exact .inl ⟨none, 0, rfl, List.eq_nil_of_length_eq_zero h0⟩
  · refine .inr ⟨g, 0, cap, rfl, hn, (Array.getElem?_eq_some_iff.1 hg).1, fun j b hj => ?_⟩
    rw [heap_cell0 hg, Nat.zero_add]
    have e : (u8s got)[j]? = some (.int .u8 b.v) := by simp [u8s, hj]
    rw [← ht, List.getElem?_take] at e
    split at e
    · simpa using e
    · cases e
theorem own_below {w w1 : World} {base n : Nat} {v : Value} {xs : List Value} (h : w.ownsRow base 5 1 v n xs) (hb : Below w.heap.size w w1) : w1.ownsRow base 5 1 v n xs := by
  obtain ⟨hl, h⟩ := h
  refine ⟨hl, ?_⟩
  rcases h with h | ⟨g, cap, cur, h1, h2, hg, h3⟩
  · exact .inl h
  · exact .inr ⟨g, cap, cur, h1, h2, by rw [hb.block g (Array.getElem?_eq_some_iff.1 hg).1]; exact hg, h3⟩
def TakesRel (w0 : World) (r : R) (ans0 : List U8) (g : Nat) (a v n : Value) (W : World) : Prop := ∃ (got ans : List U8) (k : Int), got.length + g = 200 ∧ W.ownsRow w0.heap.size 5 1 v got.length (u8s got) ∧ SlIs w0 a ans ∧ n = .int .i64 k ∧ Below w0.heap.size w0 W ∧ takesF r ans0 = takesL r g got ans k
theorem own_row {w : World} {base n : Nat} {v : Value} {xs : List Value} (h : w.ownsRow base 5 1 v n xs) : ∀ k, v.ownBlock = some k → base ≤ k := by
  obtain ⟨_, h⟩ := h
  rcases h with ⟨rfl, rfl⟩ | ⟨g, cap, cur, rfl, hb, _⟩
  · intro k hk; cases hk
  · intro k hk; cases hk; exact hb
theorem takes_step {r : R} {g : Nat} {got an : List U8} {k : Int} {x : Cyc × R × Bool} {X : Int × Nat} (hE : X = takesL r (g + 1) got an k) (hx : nextF r got = x) (hl : x.2.2 = false) :
    X = takesL r g (got ++ [if reads x.1.kind then an.headD zero8 else zero8]) (if reads x.1.kind then an.tail else an) (wrap64 (k + x.1.t)) := by
  subst hx
  rw [hE]
  show (if (nextF r got).2.2 then _ else _) = _
  rw [if_neg (by rw [hl]; exact Bool.false_ne_true)]
theorem own_slice {w : World} {base n : Nat} {v : Value} {xs : List Value} (h : w.ownsRow base 5 1 v n xs) : ∃ a c, v = .slice a n c := by
  obtain ⟨_, h⟩ := h
  rcases h with ⟨rfl, rfl⟩ | ⟨g, cap, cur, rfl, _⟩
  · exact ⟨_, _, rfl⟩
  · exact ⟨_, _, rfl⟩
theorem Cyc.get0 (c : Cyc) : c.cells[0]? = some (.int .i64 c.kind) := rfl
theorem Cyc.get1 (c : Cyc) : c.cells[1]? = some (.int .u16 c.addr.v) := rfl
theorem Cyc.get2 (c : Cyc) : c.cells[2]? = some (.int .u8 c.data.v) := rfl
theorem Cyc.get3 (c : Cyc) : c.cells[3]? = some (.int .i64 c.t) := rfl
attribute [go_sem] Cyc.get0 Cyc.get1 Cyc.get2 Cyc.get3
theorem SlIs.nil {w : World} {a : Option Addr} {n c : Nat} (h : SlIs w (.slice a n c) []) : n = 0 := by
  rcases h with ⟨a', c', h, _⟩ | ⟨b, o, c', h, _⟩
  · cases h; rfl
  · cases h; rfl
theorem SlIs.cons {w : World} {a : Option Addr} {n c : Nat} {x : U8} {l : List U8} (h : SlIs w (.slice a n c) (x :: l)) :
    ∃ b o, a = some ⟨b, o, none⟩ ∧ n = l.length + 1 ∧ l.length + 1 ≤ c ∧ w.cell? ⟨b, o, none⟩ = some (.int .u8 x.v) ∧ (c = 1 → SlIs w (.slice (some ⟨b, o, none⟩) l.length 0) l) ∧ (¬ c = 1 → SlIs w (.slice (some ⟨b, o + 1, none⟩) l.length (c - 1)) l) := by
  rcases h with ⟨a', c', h, h2⟩ | ⟨b, o, c', h, hn, hlt, hc⟩
  · cases h2
  · cases h
    refine ⟨b, o, rfl, rfl, hn, hc 0 x rfl, fun h1 => ?_, fun h1 => ?_⟩
    · have hz : l = [] := List.eq_nil_of_length_eq_zero (by simp at hn; omega)
      subst hz
      exact .inl ⟨_, _, rfl, rfl⟩
    · refine .inr ⟨b, o + 1, c - 1, rfl, by simp at hn; omega, hlt, fun j v hj => ?_⟩
      rw [show o + 1 + j = o + (j + 1) by omega]
      exact hc (j + 1) v hj
theorem Tryz.info5 : (Tryz.prog.info? 5).map (fun i => (i.zero, i.size, i.bytes)) = some (some (.int .u8 0), 1, 1) := by kernel_rfl
def TakesPost (x : Int × Nat) (w : World) (e : Ending) (w' : World) : Prop := e = .returned (.tuple #[.int .i64 x.1, .int .i64 x.2]) ∧ Below w.heap.size w w'
set_option maxHeartbeats 2000000 in
set_option maxRecDepth 20000 in
theorem takesW_ (r : R) (av : Value) (ans : List U8) (w : World) (hg : SlIs w av ans) (hL : Lg w) : Calls Tryz.prog 16 #[.agg r.cells, av] w (TakesPost (takesF r ans) w) := by
  generalize hX : takesF r ans = X
  have HX := Lib.hid hX
  clear hX
  have hbw : Below w.heap.size w (w.alloc (.cells r.cells 24)) := (Below.refl _ _).alloc (Nat.le_refl _) _
  have HG := Lib.hid (And.intro hg hL)
  clear hg hL
  go_enter Tryz.func16, Tryz.ntmps16
  go_wp2_with fail
  have hR0 : (w.alloc (.cells r.cells 24)).heap[w.heap.size]? = some (.cells r.cells 24) := heap_alloc_last w _
  have hS0 : w.heap.size < (w.alloc (.cells r.cells 24)).heap.size := by simp
  obtain ⟨W0, hW0⟩ : ∃ W0, W0 = w.alloc (.cells r.cells 24) := ⟨_, rfl⟩
  rw [← hW0] at hbw hR0 hS0
  rw [← hW0]
  clear hW0
  have HR := Lib.hid hR0
  clear hR0
  go_loopg [1, 6, 7] 200 (fun g a v n W => TakesRel W0 r ans g a v n W)
  case atStart => exact ⟨[], ans, 0, rfl, ⟨rfl, .inl ⟨rfl, rfl⟩⟩, HG.out.1.kept hbw, rfl, Below.refl _ _, rfl⟩
  case round =>
    obtain ⟨got, an, k, hlen, hown, hsl, rfl, hb0, hE⟩ := hrel
    obtain ⟨va, vc, rfl⟩ := own_slice hown
    obtain ⟨aa, ac, an', rfl⟩ := hsl.slice
    have hLk : Lg wr := HG.out.2.kept (bt hbw hb0)
    have hNX := nextW_ r _ got wr (own_sl hown) hLk
    have hbk : blk wr w.heap.size = r.cells := by
      unfold blk; rw [hb0.block _ hS0, HR.out]
    have HN := Lib.hid hNX
    have HO := Lib.hid hown
    have HS := Lib.hid hsl
    have HXF := Lib.hid HX.out
    have HE := Lib.hid (HX.out.symm.trans hE)
    have HL := Lib.hid hlen
    clear hNX hown hsl hE hlen HX
    have hz : w.heap.size < wr.heap.size := Nat.lt_of_lt_of_le hS0 hb0.size
    have hsz : w.heap.size + 20 ≤ w.heap.size + 20 := Nat.le_refl _
    by_cases hlt : got.length < 200
    · obtain ⟨g, rfl⟩ : ∃ g', gk = g' + 1 := ⟨gk - 1, by have := HL.out; omega⟩
      obtain ⟨⟨cy, rr, l⟩, hx⟩ : ∃ x, nextF r got = x := ⟨_, rfl⟩
      rw [hx] at HN
      have HX2 := Lib.hid hx
      clear hx
      cases l
      · obtain ⟨i0, hi, hz0, hz1, hz2⟩ := info_parts Tryz.info5
        have hk : (cy.kind = 1 ∨ cy.kind = 2 ∨ cy.kind = 4) ∨ (¬ cy.kind = 1 ∧ ¬ cy.kind = 2 ∧ ¬ cy.kind = 4) := by omega
        rcases hk with hk | ⟨hk1, hk2, hk4⟩
        · cases an with
          | nil =>
            obtain rfl := HS.out.nil
            rcases hk with hk | hk | hk
            all_goals
             go_wp2_with (first | (go_at_call 12; refine HN.out.mono ?_; rintro e w1 ⟨rfl, hb⟩) | (at_builtin; refine wpList_append_own _ rfl _ _ 25 rfl W0.heap.size 5 i0 (.int .u8 0) 1 1 Tryz.underlying25 hi hz0 hz1 hz2 rfl (by decide) _ got.length (u8s got) rfl (own_below HO.out (bt hb (by go_grown))) ⟨w1.heap.size + 1 + 1, 0, none⟩ 1 1 [.int .u8 0] rfl rfl ?c1 ?c2 ?c3 ?c4 ?c5 ?_))
             case c1 => intro j u hj; rcases j with _ | j <;> simp at hj; subst hj; simp [go_sem]
             case c2 => intro u hu; simp at hu; subst hu; rfl
             case c3 => have := HL.out; unfold maxLen; omega
             case c4 => have := HL.out; omega
             case c5 => have := hb0.size; have := hb.size; simp; omega
             intro v' w2 hown' hgrow _
             have hbn : Below W0.heap.size W0 w2 := (bt hb0 (bt hb (by go_grown))).grown hgrow (by have := hb0.size; have := hb.size; simp; omega) (own_row HO.out)
             have HON := Lib.hid hown'
             clear hown' hgrow
             go_wp2
             go_roundg g
             case measure => exact Nat.lt_succ_self _
             case rel =>
               refine ⟨got ++ [zero8], [], wrap64 (k + cy.t), by have := HL.out; simp; omega, ?_, HS.out, rfl, hbn, ?_⟩
               · have := HON.out; simpa [u8s, zero8v] using this
               · rw [HXF.out, takes_step HE.out HX2.out rfl]
                 simp [reads, *]
          | cons x l =>
            obtain ⟨xb, xo, rfl, rfl, hcc, hcx0, hs1, hs2⟩ := HS.out.cons
            have hcx1 := kept hb0 hcx0
            have H1 := Lib.hid hs1
            have H2 := Lib.hid hs2
            clear hs1 hs2
            rcases (show an' = 1 ∨ ¬ an' = 1 by omega) with hc1 | hc1
            · have SL := H1.out hc1
              rcases hk with hk | hk | hk
              all_goals
               go_wp2_with ((go_at_call 12; refine HN.out.mono ?_; rintro e w1 ⟨rfl, hb⟩; have hcx := kept hb hcx1; have hcx2 := cell_alloc_l (.cells rr.cells 24) (cell_alloc_l (.cells cy.cells 28) hcx)))
               go_region
               all_goals
                 go_wp2_with ((at_builtin; refine wpList_append_own _ rfl _ _ 25 rfl W0.heap.size 5 i0 (.int .u8 0) 1 1 Tryz.underlying25 hi hz0 hz1 hz2 rfl (by decide) _ got.length (u8s got) rfl (own_below HO.out (bt hb (by go_grown))) ⟨w1.heap.size + 1 + 1, 0, none⟩ 1 1 [.int .u8 x.v] rfl rfl ?c1 ?c2 ?c3 ?c4 ?c5 ?_))
                 case c1 => intro j u hj; rcases j with _ | j <;> simp at hj; subst hj; simp [go_sem]
                 case c2 => intro u hu; simp at hu; subst hu; rfl
                 case c3 => have := HL.out; unfold maxLen; omega
                 case c4 => have := HL.out; omega
                 case c5 => have := hb0.size; have := hb.size; simp; omega
                 intro v' w2 hown' hgrow _
                 have hbn : Below W0.heap.size W0 w2 := (bt hb0 (bt hb (by go_grown))).grown hgrow (by have := hb0.size; have := hb.size; simp; omega) (own_row HO.out)
                 have HON := Lib.hid hown'
                 clear hown' hgrow
                 go_wp2
                 go_roundg g
                 case measure => exact Nat.lt_succ_self _
                 case rel =>
                   refine ⟨got ++ [x], l, wrap64 (k + cy.t), by have := HL.out; simp; omega, ?_, SL, rfl, hbn, ?_⟩
                   · have := HON.out; simpa [u8s, zero8v] using this
                   · rw [HXF.out, takes_step HE.out HX2.out rfl]
                     simp [reads, *]
            · have SL := H2.out hc1
              rcases hk with hk | hk | hk
              all_goals
               go_wp2_with ((go_at_call 12; refine HN.out.mono ?_; rintro e w1 ⟨rfl, hb⟩; have hcx := kept hb hcx1; have hcx2 := cell_alloc_l (.cells rr.cells 24) (cell_alloc_l (.cells cy.cells 28) hcx)))
               go_region
               all_goals
                 go_wp2_with ((at_builtin; refine wpList_append_own _ rfl _ _ 25 rfl W0.heap.size 5 i0 (.int .u8 0) 1 1 Tryz.underlying25 hi hz0 hz1 hz2 rfl (by decide) _ got.length (u8s got) rfl (own_below HO.out (bt hb (by go_grown))) ⟨w1.heap.size + 1 + 1, 0, none⟩ 1 1 [.int .u8 x.v] rfl rfl ?c1 ?c2 ?c3 ?c4 ?c5 ?_))
                 case c1 => intro j u hj; rcases j with _ | j <;> simp at hj; subst hj; simp [go_sem]
                 case c2 => intro u hu; simp at hu; subst hu; rfl
                 case c3 => have := HL.out; unfold maxLen; omega
                 case c4 => have := HL.out; omega
                 case c5 => have := hb0.size; have := hb.size; simp; omega
                 intro v' w2 hown' hgrow _
                 have hbn : Below W0.heap.size W0 w2 := (bt hb0 (bt hb (by go_grown))).grown hgrow (by have := hb0.size; have := hb.size; simp; omega) (own_row HO.out)
                 have HON := Lib.hid hown'
                 clear hown' hgrow
                 go_wp2
                 go_roundg g
                 case measure => exact Nat.lt_succ_self _
                 case rel =>
                   refine ⟨got ++ [x], l, wrap64 (k + cy.t), by have := HL.out; simp; omega, ?_, SL, rfl, hbn, ?_⟩
                   · have := HON.out; simpa [u8s, zero8v] using this
                   · rw [HXF.out, takes_step HE.out HX2.out rfl]
                     simp [reads, *]
        · have b1 : (cy.kind == 1) = false := by simpa using hk1
          have b2 : (cy.kind == 2) = false := by simpa using hk2
          have b4 : (cy.kind == 4) = false := by simpa using hk4
          go_wp2_with (first | (go_at_call 12; refine HN.out.mono ?_; rintro e w1 ⟨rfl, hb⟩) | (at_builtin; refine wpList_append_own _ rfl _ _ 25 rfl W0.heap.size 5 i0 (.int .u8 0) 1 1 Tryz.underlying25 hi hz0 hz1 hz2 rfl (by decide) _ got.length (u8s got) rfl (own_below HO.out (bt hb (by go_grown))) ⟨w1.heap.size + 1 + 1, 0, none⟩ 1 1 [.int .u8 0] rfl rfl ?c1 ?c2 ?c3 ?c4 ?c5 ?_))
          case c1 => intro j u hj; rcases j with _ | j <;> simp at hj; subst hj; simp [go_sem]
          case c2 => intro u hu; simp at hu; subst hu; rfl
          case c3 => have := HL.out; unfold maxLen; omega
          case c4 => have := HL.out; omega
          case c5 => have := hb0.size; have := hb.size; simp; omega
          intro v' w2 hown' hgrow _
          have hbn : Below W0.heap.size W0 w2 := (bt hb0 (bt hb (by go_grown))).grown hgrow (by have := hb0.size; have := hb.size; simp; omega) (own_row HO.out)
          have HON := Lib.hid hown'
          clear hown' hgrow
          go_wp2
          go_roundg g
          case measure => exact Nat.lt_succ_self _
          case rel =>
            refine ⟨got ++ [zero8], an, wrap64 (k + cy.t), by have := HL.out; simp; omega, ?_, HS.out, rfl, hbn, ?_⟩
            · have := HON.out; simpa [u8s, zero8v] using this
            · rw [HXF.out, takes_step HE.out HX2.out rfl]
              simp [reads, *]
      · go_wp2_with (go_at_call 12; refine HN.out.mono ?_; rintro e w1 ⟨rfl, hb⟩)
        go_ret2
        have he : X = (k, got.length) := by
          have := HE.out
          unfold takesL at this
          rw [HX2.out] at this
          exact this
        subst he
        exact ⟨rfl, bt hbw (bt hb0 (bt hb (by go_grown)))⟩
    · have hg0 : gk = 0 := by have := HL.out; omega
      subst hg0
      go_wp2
      go_ret2
      have he : X = (k, got.length) := HE.out
      subst he
      exact ⟨rfl, bt hbw hb0⟩
end Go.Proofs.YtnaampdpkegacaaGreatDoor

namespace Go.Proofs.YtnaampdpkegacaaGreatDoor
open Go.RowKit

/-- The example's registers. -/
def R5 : R := { R0 with pc := u16 5 }
theorem aw1 : nextF R5 [] = (⟨1, u16 5, u8 0, 4⟩, R0, false) := by kernel_rfl
theorem aw2 : nextF R5 [u8 62] = (⟨2, u16 6, u8 0, 3⟩, R0, false) := by kernel_rfl
theorem aw3 : nextF R5 [u8 62, u8 7] = (Cyc0, { R0 with af := u16 1792, pc := u16 7, r := u8 1 }, true) := by kernel_rfl
theorem aw5 : takesF R5 [u8 62, u8 7] = (7, 2) := by kernel_rfl
theorem aw4 : afterF R5 (u8 60) [] = (Cyc0, { R0 with af := u16 256, pc := u16 5, r := u8 0 }, true) := by kernel_rfl
theorem blk_keep {w w1 : World} {n : Nat} {c : Array Value} (hb : Below w.heap.size w w1) (hn : n < w.heap.size) (h : blk w n = c) : blk w1 n = c := by
  unfold blk at *
  rw [hb.block n hn]
  exact h
/-- Registers and cycles that are built. -/
def bdRegs (parts : Array (Nat × Value)) : Sem Value := Instr.build 24 parts
def bdCyc (parts : Array (Nat × Value)) : Sem Value := Instr.build 28 parts
@[go_sem ↓ high] theorem bd_regs (parts : Array (Nat × Value)) : Instr.build 24 parts = bdRegs parts := rfl
@[go_sem ↓ high] theorem bd_cyc (parts : Array (Nat × Value)) : Instr.build 28 parts = bdCyc parts := rfl
theorem bd_regs0 (W : World) : (bdRegs #[]).run Tryz.prog W = .ok (.agg R0.cells) W := by kernel_rfl
theorem bd_cyc0 (W : World) : (bdCyc #[]).run Tryz.prog W = .ok (.agg Cyc0.cells) W := by kernel_rfl
theorem bd_r5 (W : World) : (bdRegs #[(11, .int .u16 5)]).run Tryz.prog W = .ok (.agg R5.cells) W := by kernel_rfl
theorem bd_c1 (W : World) : (bdCyc #[(0, .int .i64 1), (1, .int .u16 5), (3, .int .i64 4)]).run Tryz.prog W = .ok (.agg (Cyc.cells ⟨1, u16 5, u8 0, 4⟩)) W := by kernel_rfl
theorem bd_c2 (W : World) : (bdCyc #[(0, .int .i64 2), (1, .int .u16 6), (3, .int .i64 3)]).run Tryz.prog W = .ok (.agg (Cyc.cells ⟨2, u16 6, u8 0, 3⟩)) W := by kernel_rfl
theorem bd_r3 (W : World) : (bdRegs #[(0, .int .u16 1792), (11, .int .u16 7), (14, .int .u8 1)]).run Tryz.prog W = .ok (.agg (R.cells { R0 with af := u16 1792, pc := u16 7, r := u8 1 })) W := by kernel_rfl
attribute [go_sem] bd_regs0 bd_cyc0 bd_r5 bd_c1 bd_c2 bd_r3
theorem eq_c1 (W : World) : (binOp .eql 28 (.agg (Cyc.cells ⟨1, u16 5, u8 0, 4⟩)) (.agg (Cyc.cells ⟨1, u16 5, u8 0, 4⟩))).run Tryz.prog W = .ok (.bool true) W := by kernel_rfl
theorem eq_c2 (W : World) : (binOp .eql 28 (.agg (Cyc.cells ⟨2, u16 6, u8 0, 3⟩)) (.agg (Cyc.cells ⟨2, u16 6, u8 0, 3⟩))).run Tryz.prog W = .ok (.bool true) W := by kernel_rfl
theorem eq_r3 (W : World) : (binOp .eql 24 (.agg (R.cells { R0 with af := u16 1792, pc := u16 7, r := u8 1 })) (.agg (R.cells { R0 with af := u16 1792, pc := u16 7, r := u8 1 }))).run Tryz.prog W = .ok (.bool true) W := by kernel_rfl
theorem sl_nil (w : World) : SlIs w (.slice none 0 0) [] := .inl ⟨_, _, rfl, rfl⟩
theorem sl_one {w : World} {b c : Nat} {x : U8} (hc : 1 ≤ c) (h : w.cell? ⟨b, 0, none⟩ = some (.int .u8 x.v)) : SlIs w (.slice (some ⟨b, 0, none⟩) 1 c) [x] := by
  refine .inr ⟨b, 0, c, rfl, hc, World.block_lt_of_cell? _ _ h, fun j v hj => ?_⟩
  rcases j with _ | j
  · cases hj; exact h
  · cases hj
theorem sl_two {w : World} {b c : Nat} {x y : U8} (hc : 2 ≤ c) (h : w.cell? ⟨b, 0, none⟩ = some (.int .u8 x.v)) (k : w.cell? ⟨b, 1, none⟩ = some (.int .u8 y.v)) : SlIs w (.slice (some ⟨b, 0, none⟩) 2 c) [x, y] := by
  refine .inr ⟨b, 0, c, rfl, hc, World.block_lt_of_cell? _ _ h, fun j v hj => ?_⟩
  rcases j with _ | _ | j
  · cases hj; exact h
  · cases hj; exact k
  · cases hj
set_option maxHeartbeats 4000000 in
set_option maxRecDepth 20000 in
theorem awakeW_ (w : World) (hL : Lg w) : Calls Tryz.prog 11 #[] w fun e w' => e = .returned (.bool true) ∧ Below w.heap.size w w' := by
  have e1 := eq_c1
  have e2 := eq_c2
  have e3 := eq_r3
  have hb0 := Below.refl w.heap.size w
  have HL := Lib.hid hL
  clear hL
  go_enter Tryz.func11, Tryz.ntmps11
  go_wp2_with fail
  refine (nextW_ R5 _ [] _ (sl_nil _) (HL.out.kept (by go_grown))).mono ?_
  rw [aw1]
  rintro e w1 ⟨rfl, hb1⟩
  have z1 : w.heap.size < w1.heap.size := by have := hb1.size; simp at this; omega
  have k1 : blk w1 w.heap.size = R5.cells := blk_keep hb1 (by first | omega | (simp only [World.size_alloc]; omega)) (by simp [go_sem])
  have y1 : w.heap.size < w1.heap.size + 1 := by omega
  go_wp2_with fail
  refine (nextW_ R5 _ [u8 62] _ (sl_one (Nat.le_refl 1) (by simp [go_sem]; rfl)) (HL.out.kept (by refine bt ?_ (bt hb1 ?_) <;> go_grown))).mono ?_
  rw [aw2]
  rintro e w2 ⟨rfl, hb2⟩
  have s2 : w1.heap.size + 3 ≤ w2.heap.size := by have := hb2.size; simp at this; omega
  have z2 : w.heap.size < w2.heap.size := by omega
  have y2 : w.heap.size < w2.heap.size + 1 := by omega
  have z21 : w1.heap.size < w2.heap.size := by omega
  have k2 : blk w2 w.heap.size = R5.cells := blk_keep hb2 (by first | omega | (simp only [World.size_alloc]; omega)) (by (repeat refine (blk_alloc_past _ _ _ (by first | omega | (simp only [World.size_alloc]; omega))).trans ?_); assumption)
  have c2 : blk w2 w1.heap.size = Cyc.cells ⟨1, u16 5, u8 0, 4⟩ := blk_keep hb2 (by first | omega | (simp only [World.size_alloc]; omega)) (by simp [go_sem])
  have B2 : Below w.heap.size w w2 := by refine bt ?_ (bt hb1 (bt ?_ hb2)) <;> go_grown
  go_wp2_with fail
  refine (nextW_ R5 _ [u8 62, u8 7] _ (sl_two (Nat.le_refl 2) (by simp [go_sem]; rfl) (by simp [go_sem]; rfl)) (HL.out.kept (bt B2 (by go_grown)))).mono ?_
  rw [aw3]
  rintro e w3 ⟨rfl, hb3⟩
  have s3 : w2.heap.size + 3 ≤ w3.heap.size := by have := hb3.size; simp at this; omega
  have z3 : w.heap.size < w3.heap.size := by omega
  have y3 : w.heap.size < w3.heap.size + 1 := by omega
  have k3 : blk w3 w.heap.size = R5.cells := blk_keep hb3 (by first | omega | (simp only [World.size_alloc]; omega)) (by (repeat refine (blk_alloc_past _ _ _ (by first | omega | (simp only [World.size_alloc]; omega))).trans ?_); assumption)
  have c3 : blk w3 w1.heap.size = Cyc.cells ⟨1, u16 5, u8 0, 4⟩ := blk_keep hb3 (by first | omega | (simp only [World.size_alloc]; omega)) (by (repeat refine (blk_alloc_past _ _ _ (by first | omega | (simp only [World.size_alloc]; omega))).trans ?_); assumption)
  have d3 : blk w3 w2.heap.size = Cyc.cells ⟨2, u16 6, u8 0, 3⟩ := blk_keep hb3 (by first | omega | (simp only [World.size_alloc]; omega)) (by simp [go_sem])
  have B3 : Below w.heap.size w w3 := bt B2 (bt (by go_grown) hb3)
  go_wp2_with fail
  refine (afterW_ R5 (u8 60) _ [] _ (sl_nil _) (HL.out.kept (bt B3 (by go_grown)))).mono ?_
  rw [aw4]
  rintro e w4 ⟨rfl, hb4⟩
  have s4 : w3.heap.size + 2 ≤ w4.heap.size := by have := hb4.size; simp only [World.size_alloc] at this; omega
  have z4 : w.heap.size < w4.heap.size := by omega
  have y4 : w.heap.size < w4.heap.size + 1 := by omega
  have k4 : blk w4 w.heap.size = R5.cells := blk_keep hb4 (by first | omega | (simp only [World.size_alloc]; omega)) (by (repeat refine (blk_alloc_past _ _ _ (by first | omega | (simp only [World.size_alloc]; omega))).trans ?_); assumption)
  have x1 : w1.heap.size < w3.heap.size := by omega
  have x2 : w1.heap.size < w3.heap.size + 1 := by omega
  have x3 : w2.heap.size < w3.heap.size := by omega
  have x4 : w2.heap.size < w3.heap.size + 1 := by omega
  have c4 : blk w4 w1.heap.size = Cyc.cells ⟨1, u16 5, u8 0, 4⟩ := blk_keep hb4 (by first | omega | (simp only [World.size_alloc]; omega)) (by (repeat refine (blk_alloc_past _ _ _ (by first | omega | (simp only [World.size_alloc]; omega))).trans ?_); assumption)
  have d4 : blk w4 w2.heap.size = Cyc.cells ⟨2, u16 6, u8 0, 3⟩ := blk_keep hb4 (by first | omega | (simp only [World.size_alloc]; omega)) (by (repeat refine (blk_alloc_past _ _ _ (by first | omega | (simp only [World.size_alloc]; omega))).trans ?_); assumption)
  have r4 : blk w4 (w3.heap.size + 1) = R.cells { R0 with af := u16 1792, pc := u16 7, r := u8 1 } := blk_keep hb4 (by first | omega | (simp only [World.size_alloc]; omega)) (by simp [go_sem])
  have B4 : Below w.heap.size w w4 := bt B3 (bt (by go_grown) hb4)
  go_wp2_with fail
  refine (takesW_ R5 _ [u8 62, u8 7] _ (sl_two (Nat.le_refl 2) (by simp [go_sem]; rfl) (by simp [go_sem]; rfl)) (HL.out.kept (bt B4 (by go_grown)))).mono ?_
  rw [aw5]
  rintro e w5 ⟨rfl, hb5⟩
  have s5 : w4.heap.size + 3 ≤ w5.heap.size := by have := hb5.size; simp at this; omega
  have u1 : w1.heap.size < w4.heap.size := by omega
  have u2 : w1.heap.size < w4.heap.size + 1 := by omega
  have u3 : w2.heap.size < w4.heap.size := by omega
  have u4 : w2.heap.size < w4.heap.size + 1 := by omega
  have u5 : w3.heap.size + 1 < w4.heap.size := by omega
  have u6 : w3.heap.size + 1 < w4.heap.size + 1 := by omega
  have c5 : blk w5 w1.heap.size = Cyc.cells ⟨1, u16 5, u8 0, 4⟩ := blk_keep hb5 (by first | omega | (simp only [World.size_alloc]; omega)) (by (repeat refine (blk_alloc_past _ _ _ (by first | omega | (simp only [World.size_alloc]; omega))).trans ?_); assumption)
  have d5 : blk w5 w2.heap.size = Cyc.cells ⟨2, u16 6, u8 0, 3⟩ := blk_keep hb5 (by first | omega | (simp only [World.size_alloc]; omega)) (by (repeat refine (blk_alloc_past _ _ _ (by first | omega | (simp only [World.size_alloc]; omega))).trans ?_); assumption)
  have r5 : blk w5 (w3.heap.size + 1) = R.cells { R0 with af := u16 1792, pc := u16 7, r := u8 1 } := blk_keep hb5 (by first | omega | (simp only [World.size_alloc]; omega)) (by (repeat refine (blk_alloc_past _ _ _ (by first | omega | (simp only [World.size_alloc]; omega))).trans ?_); assumption)
  have a5 : blk w5 (w4.heap.size + 1) = R.cells { R0 with af := u16 256, pc := u16 5, r := u8 0 } := blk_keep hb5 (by first | omega | (simp only [World.size_alloc]; omega)) (by simp [go_sem])
  have g5 : w5.cell? ⟨w4.heap.size + 1, 0, none⟩ = some (.int .u16 256) := by rw [cell_blk, a5]; rfl
  have B5 : Below w.heap.size w w5 := bt B4 (bt (by go_grown) hb5)
  go_wp2
  go_ret
  exact ⟨rfl, bt B5 (by go_grown)⟩
end Go.Proofs.YtnaampdpkegacaaGreatDoor

namespace Go.Proofs.YtnaampdpkegacaaGreatDoor
open Go.RowKit

def eqC (a b : Cyc) : Bool := a.kind == b.kind && a.addr.v == b.addr.v && a.data.v == b.data.v && a.t == b.t
theorem eqC_refl (a : Cyc) : eqC a a = true := by simp [eqC]
theorem eqC_eq {a b : Cyc} (h : eqC a b = true) : a = b := by
  simp only [eqC, Bool.and_eq_true, beq_iff_eq] at h
  obtain ⟨⟨⟨h1, h2⟩, h3⟩, h4⟩ := h
  exact Cyc.ext h1 (U16.ext h2) (U8.ext h3) h4
theorem flds28 : Tryz.prog.underlying 28 = some (.struct (Tryz.prog.fieldsOf 28)) := by kernel_rfl
theorem held28 : Tryz.prog.stoodInHeld 28 = false := by kernel_rfl
theorem eq_cyc (a b : Cyc) (w : World) : (binOp .eql 28 (.agg a.cells) (.agg b.cells)).run Tryz.prog w = .ok (.bool (eqC a b)) w := by
  rw [run_eql_struct, run_equalIn_agg w _ _ _ _ flds28 held28]
  unfold eqC
  simp [go_sem, Cyc.cells, Op.eqFields, Tryz.underlying28]
  repeat' split
  all_goals simp [*]
def eqR (a b : R) : Bool := a.af.v == b.af.v && a.bc.v == b.bc.v && a.de.v == b.de.v && a.hl.v == b.hl.v && a.af2.v == b.af2.v && a.bc2.v == b.bc2.v && a.de2.v == b.de2.v && a.hl2.v == b.hl2.v && a.ix.v == b.ix.v && a.iy.v == b.iy.v && a.sp.v == b.sp.v && a.pc.v == b.pc.v && a.wz.v == b.wz.v && a.i.v == b.i.v && a.r.v == b.r.v && a.iff1 == b.iff1 && a.iff2 == b.iff2 && a.halted == b.halted && a.late == b.late && a.mode == b.mode
theorem eqR_refl (a : R) : eqR a a = true := by simp [eqR]
theorem R.ext' {a b : R} (h0 : a.af = b.af) (h1 : a.bc = b.bc) (h2 : a.de = b.de) (h3 : a.hl = b.hl) (h4 : a.af2 = b.af2) (h5 : a.bc2 = b.bc2) (h6 : a.de2 = b.de2) (h7 : a.hl2 = b.hl2) (h8 : a.ix = b.ix) (h9 : a.iy = b.iy) (h10 : a.sp = b.sp) (h11 : a.pc = b.pc) (h12 : a.wz = b.wz) (h13 : a.i = b.i) (h14 : a.r = b.r) (h15 : a.iff1 = b.iff1) (h16 : a.iff2 = b.iff2) (h17 : a.halted = b.halted) (h18 : a.late = b.late) (h19 : a.mode = b.mode) : a = b := by
  obtain ⟨a0, a1, a2, a3, a4, a5, a6, a7, a8, a9, a10, a11, a12, a13, a14, a15, a16, a17, a18, a19⟩ := a
  obtain ⟨b0, b1, b2, b3, b4, b5, b6, b7, b8, b9, b10, b11, b12, b13, b14, b15, b16, b17, b18, b19⟩ := b
  simp only at *
  subst_vars
  rfl
theorem eqR_eq {a b : R} (h : eqR a b = true) : a = b := by
  simp only [eqR, Bool.and_eq_true, beq_iff_eq] at h
  obtain ⟨⟨⟨⟨⟨⟨⟨⟨⟨⟨⟨⟨⟨⟨⟨⟨⟨⟨⟨h0, h1⟩, h2⟩, h3⟩, h4⟩, h5⟩, h6⟩, h7⟩, h8⟩, h9⟩, h10⟩, h11⟩, h12⟩, h13⟩, h14⟩, h15⟩, h16⟩, h17⟩, h18⟩, h19⟩ := h
  exact R.ext' (U16.ext h0) (U16.ext h1) (U16.ext h2) (U16.ext h3) (U16.ext h4) (U16.ext h5) (U16.ext h6) (U16.ext h7) (U16.ext h8) (U16.ext h9) (U16.ext h10) (U16.ext h11) (U16.ext h12) (U8.ext h13) (U8.ext h14) h15 h16 h17 h18 h19
theorem flds24 : Tryz.prog.underlying 24 = some (.struct (Tryz.prog.fieldsOf 24)) := by kernel_rfl
theorem held24 : Tryz.prog.stoodInHeld 24 = false := by kernel_rfl
set_option maxRecDepth 20000 in
theorem eq_regs (a b : R) (w : World) : (binOp .eql 24 (.agg a.cells) (.agg b.cells)).run Tryz.prog w = .ok (.bool (eqR a b)) w := by
  rw [run_eql_struct, run_equalIn_agg w _ _ _ _ flds24 held24]
  unfold eqR
  simp [go_sem, R.cells, Op.eqFields, Tryz.underlying24]
  by_cases h0 : a.af.v = b.af.v
  case neg => rw [if_neg h0]; simp [h0]
  rw [if_pos h0]
  by_cases h1 : a.bc.v = b.bc.v
  case neg => rw [if_neg h1]; simp [h1]
  rw [if_pos h1]
  by_cases h2 : a.de.v = b.de.v
  case neg => rw [if_neg h2]; simp [h2]
  rw [if_pos h2]
  by_cases h3 : a.hl.v = b.hl.v
  case neg => rw [if_neg h3]; simp [h3]
  rw [if_pos h3]
  by_cases h4 : a.af2.v = b.af2.v
  case neg => rw [if_neg h4]; simp [h4]
  rw [if_pos h4]
  by_cases h5 : a.bc2.v = b.bc2.v
  case neg => rw [if_neg h5]; simp [h5]
  rw [if_pos h5]
  by_cases h6 : a.de2.v = b.de2.v
  case neg => rw [if_neg h6]; simp [h6]
  rw [if_pos h6]
  by_cases h7 : a.hl2.v = b.hl2.v
  case neg => rw [if_neg h7]; simp [h7]
  rw [if_pos h7]
  by_cases h8 : a.ix.v = b.ix.v
  case neg => rw [if_neg h8]; simp [h8]
  rw [if_pos h8]
  by_cases h9 : a.iy.v = b.iy.v
  case neg => rw [if_neg h9]; simp [h9]
  rw [if_pos h9]
  by_cases h10 : a.sp.v = b.sp.v
  case neg => rw [if_neg h10]; simp [h10]
  rw [if_pos h10]
  by_cases h11 : a.pc.v = b.pc.v
  case neg => rw [if_neg h11]; simp [h11]
  rw [if_pos h11]
  by_cases h12 : a.wz.v = b.wz.v
  case neg => rw [if_neg h12]; simp [h12]
  rw [if_pos h12]
  by_cases h13 : a.i.v = b.i.v
  case neg => rw [if_neg h13]; simp [h13]
  rw [if_pos h13]
  by_cases h14 : a.r.v = b.r.v
  case neg => rw [if_neg h14]; simp [h14]
  rw [if_pos h14]
  by_cases h15 : a.iff1 = b.iff1
  case neg => rw [if_neg h15]; simp [h15]
  rw [if_pos h15]
  by_cases h16 : a.iff2 = b.iff2
  case neg => rw [if_neg h16]; simp [h16]
  rw [if_pos h16]
  by_cases h17 : a.halted = b.halted
  case neg => rw [if_neg h17]; simp [h17]
  rw [if_pos h17]
  by_cases h18 : a.late = b.late
  case neg => rw [if_neg h18]; simp [h18]
  rw [if_pos h18]
  by_cases h19 : a.mode = b.mode
  case neg => rw [if_neg h19]; simp [h19]
  rw [if_pos h19]
  simp [h0, h1, h2, h3, h4, h5, h6, h7, h8, h9, h10, h11, h12, h13, h14, h15, h16, h17, h18, h19]
/-- Registers and cycles compared, by a name. -/
def eqRg (a b : R) : Sem Value := binOp .eql 24 (.agg a.cells) (.agg b.cells)
def eqCg (a b : Cyc) : Sem Value := binOp .eql 28 (.agg a.cells) (.agg b.cells)
@[go_sem ↓ high] theorem eq_regs_name (a b : R) : binOp .eql 24 (.agg a.cells) (.agg b.cells) = eqRg a b := rfl
@[go_sem ↓ high] theorem eq_cyc_name (a b : Cyc) : binOp .eql 28 (.agg a.cells) (.agg b.cells) = eqCg a b := rfl
@[go_sem] theorem eq_regs_run (a b : R) (w : World) : (eqRg a b).run Tryz.prog w = .ok (.bool (eqR a b)) w := eq_regs a b w
@[go_sem] theorem eq_cyc_run (a b : Cyc) (w : World) : (eqCg a b).run Tryz.prog w = .ok (.bool (eqC a b)) w := eq_cyc a b w
end Go.Proofs.YtnaampdpkegacaaGreatDoor
