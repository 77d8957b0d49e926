/-
  What the walks of NextEnds and NextPlain share, and the walk of NextEnds. A helper of the claims that stand beside it.
-/
import Derived.Laws.AppendOwnNone
import Derived.Test.YtnaampdpkegacaaGreatDooro1
import Derived.Test.YtnaampdpkegacaaGreatDoorq2
import Derived.Deep.DeepCutAuto

namespace Go.Proofs.YtnaampdpkegacaaGreatDoor
open Go.RowKit

theorem ne_cyc (a b : Cyc) (w : World) : (binOp .neq 28 (.agg a.cells) (.agg b.cells)).run Tryz.prog w = .ok (.bool (!eqC a b)) w := by
  have h := eq_cyc a b w
  rw [run_eql_struct] at h
  rw [run_neq_struct]
  cases e : (Op.equalIn 10000 28 (.agg a.cells) (.agg b.cells)).run Tryz.prog w with
  | ok x w1 => rw [e] at h; simp only [Result.andThen, Result.ok.injEq, Value.bool.injEq] at h ⊢; rw [h.1, h.2]; exact ⟨rfl, rfl⟩
  | _ => rw [e] at h; cases h
theorem ne_regs (a b : R) (w : World) : (binOp .neq 24 (.agg a.cells) (.agg b.cells)).run Tryz.prog w = .ok (.bool (!eqR a b)) w := by
  have h := eq_regs a b w
  rw [run_eql_struct] at h
  rw [run_neq_struct]
  cases e : (Op.equalIn 10000 24 (.agg a.cells) (.agg b.cells)).run Tryz.prog w with
  | ok x w1 => rw [e] at h; simp only [Result.andThen, Result.ok.injEq, Value.bool.injEq] at h ⊢; rw [h.1, h.2]; exact ⟨rfl, rfl⟩
  | _ => rw [e] at h; cases h
def neRg (a b : R) : Sem Value := binOp .neq 24 (.agg a.cells) (.agg b.cells)
def neCg (a b : Cyc) : Sem Value := binOp .neq 28 (.agg a.cells) (.agg b.cells)
@[go_sem ↓ high] theorem ne_regs_name (a b : R) : binOp .neq 24 (.agg a.cells) (.agg b.cells) = neRg a b := rfl
@[go_sem ↓ high] theorem ne_cyc_name (a b : Cyc) : binOp .neq 28 (.agg a.cells) (.agg b.cells) = neCg a b := rfl
@[go_sem] theorem ne_regs_run (a b : R) (w : World) : (neRg a b).run Tryz.prog w = .ok (.bool (!eqR a b)) w := ne_regs a b w
@[go_sem] theorem ne_cyc_run (a b : Cyc) (w : World) : (neCg a b).run Tryz.prog w = .ok (.bool (!eqC a b)) w := ne_cyc a b w
theorem SlIs.slice' {w : World} {gv : Value} {got : List U8} (h : SlIs w gv got) : ∃ a c, gv = .slice a got.length c := by
  rcases h with ⟨a, c, rfl, rfl⟩ | ⟨b, o, c, rfl, _⟩
  · exact ⟨a, c, rfl⟩
  · exact ⟨_, c, rfl⟩
theorem SlIs.take {w : World} {a : Option Addr} {n c : Nat} {got : List U8} (h : SlIs w (.slice a n c) got) (k : Nat) (hk : k ≤ n) : SlIs w (.slice a k c) (got.take k) := by
  rcases h with ⟨a', c', e, rfl⟩ | ⟨b, o, c', e, hc, hb, hj⟩
  · cases e
    obtain rfl : k = 0 := by omega
    exact .inl ⟨_, _, rfl, rfl⟩
  · cases e
    refine .inr ⟨b, o, c, by rw [List.length_take, Nat.min_eq_left hk], by rw [List.length_take]; omega, hb, fun j v hv => hj j v ?_⟩
    rw [List.getElem?_take] at hv
    split at hv
    · exact hv
    · cases hv
theorem own_nil (w : World) (base : Nat) : w.ownsRow base 5 1 (.slice none 0 0) 0 (u8s []) := ⟨rfl, .inl ⟨rfl, rfl⟩⟩
theorem u8s_app (a b : List U8) : u8s (a ++ b) = u8s a ++ u8s b := List.map_append
theorem u8s_len (a : List U8) : (u8s a).length = a.length := List.length_map _
theorem u8s_one (a : List U8) : ∀ u ∈ u8s a, u.oneCell' = true := by
  intro u hu
  obtain ⟨x, _, rfl⟩ := List.mem_map.1 hu
  rfl
/-- The cells behind a slice that is not empty, as an append wants them. -/
theorem SlIs.news {w : World} {b o n c : Nat} {got : List U8} (h : SlIs w (.slice (some ⟨b, o, none⟩) n c) got) : n = got.length ∧ ∀ j u, (u8s got)[j]? = some u → w.cell? ((⟨b, o, none⟩ : Addr).add j) = some u := by
  rcases h with ⟨a', c', e, rfl⟩ | ⟨b', o', c', e, hc, hb, hj⟩
  · cases e
    exact ⟨rfl, fun j u hu => by simp [u8s] at hu⟩
  · cases e
    refine ⟨rfl, fun j u hu => ?_⟩
    simp only [u8s, List.getElem?_map, Option.map_eq_some_iff] at hu
    obtain ⟨v, hv, rfl⟩ := hu
    rw [Addr.add_mid]
    exact hj j v hv
theorem SlIs.addr {w : World} {a : Option Addr} {n c : Nat} {got : List U8} (h : SlIs w (.slice a n c) got) (hz : NilOk (.slice a n c)) : (a = none ∧ n = 0 ∧ c = 0 ∧ got = []) ∨ ∃ ad, a = some ad ∧ n = got.length ∧ ∀ j u, (u8s got)[j]? = some u → w.cell? (ad.add j) = some u := by
  rcases h with ⟨a', c', e, rfl⟩ | ⟨b', o', c', e, hc, hb, hj⟩
  · cases e
    cases a with
    | none => obtain ⟨_, rfl⟩ := hz _ _ rfl; exact .inl ⟨rfl, rfl, rfl, rfl⟩
    | some ad => exact .inr ⟨ad, rfl, rfl, fun j u hu => by simp [u8s] at hu⟩
  · cases e
    exact .inr ⟨_, rfl, rfl, (SlIs.news (.inr ⟨b', o', c, rfl, hc, hb, hj⟩)).2⟩
/-- A slice of bytes appended, nil or not. -/
theorem wpList_append_sl {w : World} {ops : Array Oper} {rest : List Oper} {o : Oper} {a : Act} {Q : Exit → Act → World → Prop} (hgd : o.guard = none) (s x : Operand)
    (ho : o.op = .call { callee := .builtin .append, args := #[s, x], argTypes := #[25, 25] })
    (base : Nat) (i : TypeInfo) (hi : Tryz.prog.info? 5 = some i) (hz : i.zero = some (.int .u8 0)) (hsize : i.size = 1) (hby : i.bytes = 1)
    (v : Value) (n : Nat) (xs : List Value) (hs : a.eval s = v) (hown : w.ownsRow base 5 1 v n xs)
    (aa : Option Addr) (m c : Nat) (got : List U8) (hx : a.eval x = .slice aa m c)
    (hA : (aa = none ∧ m = 0 ∧ c = 0 ∧ got = []) ∨ ∃ ad, aa = some ad ∧ m = got.length ∧ ∀ j u, (u8s got)[j]? = some u → w.cell? (ad.add j) = some u)
    (h63 : n + got.length ≤ 1000) (hbase : base ≤ w.heap.size)
    (h : ∀ v' w', w'.ownsRow base 5 1 v' (n + got.length) (xs ++ u8s got) → w.grownBy w' v.ownBlock → wpList Tryz.prog ops Q rest (a.put o.dst v') w') : wpList Tryz.prog ops Q (o :: rest) a w := by
  rcases hA with ⟨rfl, rfl, rfl, rfl⟩ | ⟨ad, rfl, rfl, hc⟩
  · refine wpList_append_own_none hgd s x 25 ho base 5 i 1 Tryz.underlying25 hi v n xs hs hown hx (h v w ?_ ?_)
    · simpa [u8s] using hown
    · exact World.grownBy.refl _ _
  · exact wpList_append_own _ hgd s x 25 ho base 5 i (.int .u8 0) 1 1 Tryz.underlying25 hi hz hsize hby rfl (by decide) v n xs hs hown ad got.length c (u8s got) hx (by rw [u8s_len, Nat.mul_one]) hc (u8s_one _)
      (by unfold maxLen; omega) (by omega) hbase fun v' w' h1 h2 _ => h v' w' h1 h2
end Go.Proofs.YtnaampdpkegacaaGreatDoor

namespace Go.Proofs.YtnaampdpkegacaaGreatDoor
open Go.RowKit
theorem own_parts {w : World} {base n : Nat} {v : Value} {xs : List Value} (h : w.ownsRow base 5 1 v n xs) (hn : 0 < n) : ∃ gb c, v = .slice (some ⟨gb, 0, none⟩) n c ∧ n ≤ c ∧ base ≤ gb := by
  obtain ⟨hl, h⟩ := h
  rcases h with ⟨rfl, h0⟩ | ⟨g, cap, cur, h1, h2, hg, h3, h4⟩
  · omega
  · exact ⟨g, cap, h1, h3, h2⟩
theorem own_put {w : World} {base n E gb c : Nat} {xs : List Value} {d : Array Value} (hE : gb ≠ E) (h : w.ownsRow base 5 1 (.slice (some ⟨gb, 0, none⟩) n c) n xs) : (put w E d).ownsRow base 5 1 (.slice (some ⟨gb, 0, none⟩) n c) n xs := by
  obtain ⟨hl, h⟩ := h
  refine ⟨hl, ?_⟩
  rcases h with h | ⟨g, cap, cur, h1, h2, hg, h3⟩
  · exact .inl h
  · cases h1
    exact .inr ⟨gb, c, cur, rfl, h2, (put_off hE d).trans hg, h3⟩
theorem own_lt {w : World} {base n gb c : Nat} {xs : List Value} (h : w.ownsRow base 5 1 (.slice (some ⟨gb, 0, none⟩) n c) n xs) : gb < w.heap.size := by
  obtain ⟨hl, h⟩ := h
  rcases h with ⟨h, _⟩ | ⟨g, cap, cur, h1, h2, hg, h3⟩
  · cases h
  · cases h1
    exact (Array.getElem?_eq_some_iff.1 hg).1
def fstF (n K : Nat) : Int := if n ≤ K then -1 else K
def endR (n K : Nat) (s : R) : R := if n ≤ K then R0 else s
def EndRel2 (w0 : World) (E : Nat) (K : Nat) (s : R) (v : Value) (G : List U8) (g : Nat) (first k : Value) (W : World) : Prop := ∃ n : Nat, n + g = 31 ∧ k = .int .i64 n ∧ first = .int .i64 (fstF n K) ∧ (∃ t, W.heap[E]? = some (.cells (endR n K s).cells t (0, 0))) ∧ W.ownsRow w0.heap.size 5 1 v 30 (u8s G) ∧ Below w0.heap.size w0 W
theorem bl_alloc {w W : World} {o : Obj} (h : Below w.heap.size w W) : Below w.heap.size w (W.alloc o) := bt h (by go_grown)
theorem bl_drew {w W : World} (h : Below w.heap.size w W) : Below w.heap.size w W.drew := bt h (Below.refl _ _).drew
theorem after0 {w w4 : World} (hb : Below w.drew.heap.size w.drew w4) : ∃ w5, w4 = w5 ∧ Below w.heap.size w w5 := ⟨w4, rfl, undrew hb⟩
theorem after1 {w w4 : World} {c : Array Value} {t : TypeId} (hb : Below (w.alloc (.cells c t)).drew.heap.size (w.alloc (.cells c t)).drew w4) : ∃ w5, w4 = put w5 w.heap.size c ∧ Below w.heap.size w w5 ∧ Inb w.heap.size w5 := by
  have h := undrew hb
  have e1 := (h.block w.heap.size (by simp)).trans (heap_alloc_last w _)
  exact ⟨w4, (asput e1).symm, bt (by go_grown) h, by have := h.size; simp only [World.size_alloc] at this; unfold Inb; omega⟩
theorem after2 {w w4 : World} {c d : Array Value} {t u : TypeId} (hb : Below ((w.alloc (.cells c t)).alloc (.cells d u)).drew.heap.size ((w.alloc (.cells c t)).alloc (.cells d u)).drew w4) :
    ∃ w5, w4 = put (put w5 w.heap.size c) (w.heap.size + 1) d ∧ Below w.heap.size w w5 ∧ Inb w.heap.size w5 ∧ Inb (w.heap.size + 1) w5 := by
  have h := undrew hb
  have e1 : w4.heap[w.heap.size]? = some (.cells c t (0, 0)) := (h.block w.heap.size (by simp; omega)).trans (by
    show ((w.alloc (.cells c t)).heap.push _)[w.heap.size]? = _
    rw [Array.getElem?_push, if_neg (by simp)]; exact heap_alloc_last w _)
  have e2 : w4.heap[w.heap.size + 1]? = some (.cells d u (0, 0)) := (h.block (w.heap.size + 1) (by simp)).trans (by
    have := heap_alloc_last (w.alloc (.cells c t)) (.cells d u)
    simpa using this)
  have hs : w.heap.size + 2 ≤ w4.heap.size := by have := h.size; simp only [World.size_alloc] at this; omega
  refine ⟨w4, ?_, bt (by go_grown) h, by unfold Inb; omega, by unfold Inb; omega⟩
  rw [asput e1, asput e2]
def EndRel (w0 : World) (ans : List U8) (g : Nat) (v : Value) (W : World) : Prop := ∃ j, ans.length + j + g = 30 ∧ W.ownsRow w0.heap.size 5 1 v (ans.length + j) (u8s (ans ++ List.replicate j zero8)) ∧ Below w0.heap.size w0 W
set_option maxHeartbeats 4000000 in
set_option maxRecDepth 20000 in
theorem endsW_ (r : R) (av : Value) (ans : List U8) (w : World) (hg : SlIs w av ans) (hz : NilOk av) (hL : Lg w) : Calls Tryz.prog 8 #[.agg r.cells, av] w fun e w' => e = .returned (.bool true) ∧ Below w.heap.size w w' := by
  have HG := Lib.hid (And.intro hg hL)
  obtain ⟨aa, an, rfl⟩ := hg.slice'
  by_cases h12 : 12 < ans.length
  · clear hg hL hz
    go_enter Tryz.func8, Tryz.ntmps8
    go_wp2_with (first | (go_at_call 11; refine (awakeW_ _ (HG.out.2.kept (by go_grown))).mono ?_; rintro e w1 ⟨rfl, hb1⟩))
    go_ret
    exact ⟨rfl, bt (by go_grown) hb1⟩
  · obtain ⟨i0, hi, hz0, hz1, hz2⟩ := info_parts Tryz.info5
    have HZ := Lib.hid hz
    clear hg hL hz
    go_enter Tryz.func8, Tryz.ntmps8
    go_wp2_with (first | (go_at_call 11; refine (awakeW_ _ (HG.out.2.kept (by go_grown))).mono ?_; rintro e w1 ⟨rfl, hb1⟩) | (at_builtin; refine wpList_append_sl rfl _ _ rfl w1.heap.size i0 hi hz0 hz1 hz2 _ 0 (u8s []) rfl (own_nil _ _) aa ans.length an ans rfl ((HG.out.1.kept (bt (by go_grown) hb1)).addr HZ.out) ?c1 (Nat.le_refl _) ?_))
    case c1 => omega
    intro v w2 hown hgrow
    have hb2 : Below w1.heap.size w1 w2 := (Below.refl w1.heap.size w1).grown hgrow (Nat.le_refl _) (by intro k hk; cases hk)
    have HO := Lib.hid hown
    have HB : Below w.heap.size w w1 := bt (by go_grown) hb1
    have hr1 : blk w1 w.heap.size = r.cells := blk_keep hb1 (by simp) (blk_alloc_at _ _ _ _ rfl)
    have hs1 : w.heap.size < w1.heap.size := by have := hb1.size; simp at this; omega
    clear hown hgrow hb1
    go_wp2_with fail
    go_loopg [6] (30 - ans.length) (fun g v W => EndRel w1 ans g v W)
    case atStart => exact ⟨0, by omega, by simpa [u8s] using HO.out, hb2⟩
    case round =>
      obtain ⟨j, hlen, hown, hb⟩ := hrel
      obtain ⟨va, vc, rfl⟩ := own_slice hown
      have HL := Lib.hid hlen
      have HW := Lib.hid hown
      by_cases hlt : ans.length + j < 30
      · obtain ⟨g, rfl⟩ : ∃ g', gk = g' + 1 := ⟨gk - 1, by omega⟩
        clear hlen hown
        go_wp2_with (at_builtin; refine wpList_append_own _ rfl _ _ 25 rfl w1.heap.size 5 i0 (.int .u8 0) 1 1 Tryz.underlying25 hi hz0 hz1 hz2 rfl (by decide) _ (ans.length + j) (u8s (ans ++ List.replicate j zero8)) rfl (own_below HW.out (by go_grown)) ⟨wr.heap.size, 0, none⟩ 1 1 [.int .u8 0] rfl rfl ?c1 ?c2 ?c3 ?c4 ?c5 ?_)
        case c1 => intro j u hj; rcases j with _ | j <;> simp at hj; subst hj; simp [go_sem]
        case c2 => intro u hu; simp at hu; subst hu; rfl
        case c3 => unfold maxLen; omega
        case c4 => omega
        case c5 => have := hb.size; simp; omega
        intro v' w4 hown' hgrow _
        have hbn : Below w1.heap.size w1 w4 := (bt hb (by go_grown)).grown hgrow (by have := hb.size; simp; omega) (own_row HW.out)
        have HON := Lib.hid hown'
        clear hown' hgrow
        go_wp2
        go_roundg g
        case measure => exact Nat.lt_succ_self _
        case rel =>
          refine ⟨j + 1, by have := HL.out; omega, ?_, hbn⟩
          have := HON.out
          simpa [u8s, zero8v, List.replicate_succ', ← List.append_assoc, ← Nat.add_assoc] using this
      · obtain ⟨K, s, hK0, hK, hA, hB⟩ := ends_law r ans (by omega)
        have eG : ans ++ List.replicate j zero8 = endG ans := by unfold endG; rw [show j = 30 - ans.length by omega]
        have e30 : ans.length + j = 30 := by omega
        rw [eG, e30] at hown
        have eg : gk = 0 := by omega
        subst eg
        obtain ⟨gb, gc, ev, hgc, hgb⟩ := own_parts hown (by omega)
        rw [e30]
        cases ev
        clear hlen HW
        have hgw : gb < wr.heap.size := own_lt hown
        have HO2 := Lib.hid hown
        have HAB := Lib.hid (And.intro hA hB)
        clear hown hA hB
        go_wp2_with fail
        obtain ⟨E, hE⟩ : ∃ E, E = wr.heap.size := ⟨_, rfl⟩
        have hEs : w1.heap.size ≤ E := by have := hb.size; omega
        rw [← hE]
        have hgE0 : gb < E := by omega
        have HR := Lib.hid hr1
        have HE0 := Lib.hid hE
        clear hr1 hE
        go_loopg [7, 9] 31 (fun g first k W => EndRel2 w1 E K s (.slice (some ⟨gb, 0, none⟩) 30 vc) (endG ans) g first k W)
        case atStart =>
          refine ⟨0, rfl, rfl, rfl, ?_, own_below HO2.out (by go_grown), bt hb (by go_grown)⟩
          · rw [HE0.out]; exact ⟨_, heap_alloc_last _ _⟩
        case round =>
          obtain ⟨n, hn, rfl, rfl, ⟨te, he⟩, hown, hbw⟩ := hrel
          have hr : blk wr w.heap.size = r.cells := blk_keep hbw hs1 HR.out
          have hEw : E < wr.heap.size := (Array.getElem?_eq_some_iff.1 he).1
          have hbE : blk wr E = (endR n K s).cells := by unfold blk; rw [he]
          have hrs : w.heap.size < wr.heap.size := by omega
          have HOW := Lib.hid hown
          have HE := Lib.hid he
          have HN := Lib.hid hn
          clear hown he hn
          by_cases hl : n ≤ 30
          · obtain ⟨g, rfl⟩ : ∃ g', gk = g' + 1 := ⟨gk - 1, by have := HN.out; omega⟩
            have hsl : SlIs wr (.slice (some ⟨gb, 0, none⟩) 30 vc) (endG ans) := own_sl (by rw [endG_len ans (by omega)]; exact HOW.out)
            have hNX : ∀ x, nextF r ((endG ans).take n) = x → ∀ W', Below wr.heap.size wr W' → Calls Tryz.prog 12 #[.agg r.cells, .slice (some ⟨gb, 0, none⟩) n vc] W' (Told x W') := by
              rintro x rfl W' hW'
              exact nextW_ r _ _ W' ((hsl.take n hl).kept hW') (HG.out.2.kept (bt HB (bt hbw hW')))
            clear hsl
            obtain ⟨⟨c, s1, d⟩, hx⟩ : ∃ x, nextF r ((endG ans).take n) = x := ⟨_, rfl⟩
            have HX := Lib.hid (hNX _ hx)
            have HXE := Lib.hid hx
            clear hNX hx
            have hn0 : (0 : Int) ≤ (n : Int) := by omega
            have hn1 : (n : Int) ≤ 30 := by omega
            have hn2 : (n : Int) ≤ (vc : Int) := by omega
            have hn3 : n ≤ vc := by omega
            have HSS := Lib.hid (show ∀ w', Below wr.heap.size wr w' → blk w' w.heap.size = r.cells ∧ Below wr.heap.size wr w' from fun w' h => ⟨blk_keep h hrs hr, h⟩)
            go_wp2_with fail
            go_cut [10, 11, 12] (fun p q z wx => ∃ bc br, p = .pointer (some ⟨bc, 0, none⟩) ∧ q = .pointer (some ⟨br, 0, none⟩) ∧ z = .bool d ∧ blk wx bc = c.cells ∧ blk wx br = s1.cells ∧ Below wr.heap.size wr wx ∧ bc < wx.heap.size ∧ br < wx.heap.size ∧ wr.heap.size ≤ bc ∧ wr.heap.size ≤ br)
            case first =>
              go_region_held3 (fun w' => blk w' w.heap.size = r.cells ∧ Below wr.heap.size wr w')
                ((refine HSS.out _ ?_; repeat (first | assumption | exact Below.refl _ _ | refine below_put ?_ (by omega) | refine bl_alloc ?_ | refine bl_drew ?_)))
                ((first | (go_at_call 12; refine (HX.out _ (by go_grown)).mono ?_; rintro e w4 ⟨rfl, hb4⟩; (first | (obtain ⟨w5, rfl, hb5, i5, j5⟩ := after2 hb4; have k5 := i5.ne; have l5 := j5.ne) | (obtain ⟨w5, rfl, hb5, i5⟩ := after1 hb4; have k5 := i5.ne) | (obtain ⟨w5, rfl, hb5⟩ := after0 hb4)); clear hb4)))
              all_goals rename_i hh
              all_goals go_wp2_with fail
              all_goals go_meet
              all_goals
                refine ⟨_, _, rfl, rfl, rfl, ?_, ?_, hh.2, ?_, ?_, ?_, ?_⟩
                · simp [go_sem, *]
                · simp [go_sem, *]
                all_goals (have hs5 := hb5.size; first | omega | (simp; done) | (simp; omega) | (simp [put_size]; done) | (simp [put_size]; omega))
            case rest =>
              obtain ⟨bc, br, rfl, rfl, rfl, hbc, hbr, hbx, lc, lr, gc, gr⟩ := hcut
              have hsz := hbx.size
              have hbE2 : blk wc E = (endR n K s).cells := blk_keep hbx hEw hbE
              have hHE : ∃ t, wc.heap[E]? = some (.cells (endR n K s).cells t (0, 0)) := ⟨te, (hbx.block E hEw).trans HE.out⟩
              have HHE := Lib.hid hHE
              clear hHE
              have nE1 : ¬ E = bc := by omega
              have nE2 : ¬ E = br := by omega
              have lE : E < wc.heap.size := by omega
              have m0 : wc.cell? ⟨bc, 0, none⟩ = some (.int .i64 c.kind) := by rw [cell_blk, hbc]; rfl
              have m2 : wc.cell? ⟨bc, 2, none⟩ = some (.int .u8 c.data.v) := by rw [cell_blk, hbc]; rfl
              have m3 : wc.cell? ⟨bc, 3, none⟩ = some (.int .i64 c.t) := by rw [cell_blk, hbc]; rfl
              have BW : Below w1.heap.size w1 wc := bt hbw hbx
              have HOC := Lib.hid (own_below HOW.out hbx)
              rcases (show n < K ∨ n = K ∨ K < n by omega) with hk | hk | hk
              · obtain ⟨c', hc, hx'⟩ := HAB.out.1 n hk
                have hx2 := HXE.out.symm.trans hx'
                obtain rfl : c = c' := congrArg (·.1) hx2
                obtain rfl : s1 = R0 := congrArg (·.2.1) hx2
                obtain rfl : d = false := congrArg (·.2.2) hx2
                obtain ⟨t1, t7, k1, k7, hd⟩ := hc
                have e1 : fstF n K = -1 := if_pos (by omega)
                have e2 : endR n K s = R0 := if_pos (by omega)
                rw [e1]
                have f1 : ¬ c.t < 1 := by omega
                have f7 : ¬ 7 < c.t := by omega
                have p1 : ¬ c.kind < 1 := by omega
                have p7 : ¬ 7 < c.kind := by omega
                have q0 := eqR_refl R0
                rcases (show c.kind = 3 ∨ c.kind = 5 ∨ (¬ c.kind = 3 ∧ ¬ c.kind = 5) by omega) with h3 | h5 | ⟨h3, h5⟩
                all_goals
                  try (have hd0 : c.data.v = 0 := by rw [hd h3 h5]; rfl)
                  clear hd
                  go_wp2_with fail
                  go_roundg g
                  case measure => exact Nat.lt_succ_self _
                  case rel =>
                    refine ⟨n + 1, by have := HN.out; omega, by go_num, ?_, ?_, HOC.out, BW⟩
                    · rw [show fstF (n + 1) K = -1 from if_pos (by omega)]
                    · rw [show endR (n + 1) K s = R0 from if_pos (by omega), ← e2]; exact HHE.out
              · have hx2 := HXE.out.symm.trans (HAB.out.2 n (by omega))
                obtain rfl : c = Cyc0 := congrArg (·.1) hx2
                obtain rfl : s1 = s := congrArg (·.2.1) hx2
                obtain rfl : d = true := congrArg (·.2.2) hx2
                have e1 : fstF n K = -1 := if_pos (by omega)
                have e2 : endR n K s1 = R0 := if_pos (by omega)
                rw [e1]
                have q0 := eqR_refl s1
                have q1 := eqC_refl Cyc0
                have q2 := bd_cyc0
                obtain ⟨tx, hE3⟩ := HHE.out
                have hput : put wc E (endR n K s1).cells = wc := asput hE3
                generalize wc = wd at *
                rw [← hput]
                have iE : Inb E wd := lE
                have B2 : Below w1.heap.size w1 (put wd E s1.cells) := below_put BW hEs
                have hgE : gb ≠ E := by omega
                have nE3 : ¬ br = E := by omega
                have nE4 : ¬ bc = E := by omega
                clear hput
                go_wp2_with fail
                go_roundg g
                case measure => exact Nat.lt_succ_self _
                case rel =>
                  refine ⟨n + 1, by have := HN.out; omega, by go_num, ?_, ?_, ?_, B2⟩
                  · rw [show fstF (n + 1) K = K from if_neg (by omega)]
                  · rw [show endR (n + 1) K s1 = s1 from if_neg (by omega)]; exact put_at iE _
                  · exact own_put hgE HOC.out
              · have hx2 := HXE.out.symm.trans (HAB.out.2 n (by omega))
                obtain rfl : c = Cyc0 := congrArg (·.1) hx2
                obtain rfl : s1 = s := congrArg (·.2.1) hx2
                obtain rfl : d = true := congrArg (·.2.2) hx2
                have e1 : fstF n K = K := if_neg (by omega)
                have e2 : endR n K s1 = s1 := if_neg (by omega)
                rw [e1]
                rw [e2] at hbE2
                have q0 := eqR_refl s1
                have q1 := eqC_refl Cyc0
                have q2 := bd_cyc0
                have p0 : ¬ (K : Int) < 0 := by omega
                go_wp2_with fail
                go_roundg g
                case measure => exact Nat.lt_succ_self _
                case rel =>
                  refine ⟨n + 1, by have := HN.out; omega, by go_num, ?_, ?_, HOC.out, BW⟩
                  · rw [show fstF (n + 1) K = K from if_neg (by omega)]
                  · rw [show endR (n + 1) K s1 = endR n K s1 from (if_neg (by omega)).trans e2.symm]; exact HHE.out
          · have e1 : fstF n K = K := if_neg (by omega)
            rw [e1]
            have p0 : (0 : Int) < K := by omega
            have hb31 : ¬ (n : Int) ≤ 30 := by omega
            go_wp2_with fail
            go_ret
            exact ⟨rfl, bt HB hbw⟩
end Go.Proofs.YtnaampdpkegacaaGreatDoor
