/-
  Two slices of a call of its own, and the walk of NextPlain. A helper of the claim that stands beside it.
-/
import Derived.Test.YtnaampdpkegacaaGreatDoors2
import Derived.Deep.DeepCutAuto

namespace Go.Proofs.YtnaampdpkegacaaGreatDoor
open Go.RowKit

theorem app_block {w w' : World} {v v' : Value} {base n : Nat} {xs : List Value} {i : TypeInfo} (hi : Tryz.prog.info? 5 = some i) (hz : i.zero = some (.int .u8 0)) (hsize : i.size = 1) (hby : i.bytes = 1)
    (hown : w.ownsRow base 5 1 v n xs) (nb : Nat) (y : Value) (hy : w.cell? ⟨nb, 0, none⟩ = some y) (h1 : y.oneCell' = true) (hn : n ≤ 1000) (ty : TypeId)
    (hr : (Builtin.append_ #[25, 25] ty #[v, .slice (some ⟨nb, 0, none⟩) 1 1]).run Tryz.prog w = .ok v' w') : ∀ k, v'.ownBlock = some k → v.ownBlock = some k ∨ k = w.heap.size := by
  have hnews : ∀ j u, ([y] : List Value)[j]? = some u → w.cell? ((⟨nb, 0, none⟩ : Addr).add j) = some u := by
    intro j u hj
    rcases j with _ | j
    · cases hj; rw [Addr.add_mid]; exact hy
    · cases hj
  have hone : ∀ u ∈ ([y] : List Value), u.oneCell' = true := fun u hu => by rw [List.mem_singleton.1 hu]; exact h1
  intro k hk
  rcases hown.2 with ⟨rfl, rfl⟩ | ⟨g, cap, cur, rfl, hbg, hg, hnc, hcm, hcs, htake⟩
  · have h := run_append_nil (P := Tryz.prog) w 25 ty 5 i (.int .u8 0) Tryz.underlying25 hi hz ⟨nb, 0, none⟩ 1 1 [y] (by rw [hsize]; rfl) hnews (by omega) (by omega) (by omega)
    rw [hr] at h
    injection h with e _
    subst e
    right
    simpa [Value.ownBlock, eq_comm] using hk
  · by_cases hroom : n + 1 ≤ cap
    · have h := run_append_room (P := Tryz.prog) w 25 ty 5 i Tryz.underlying25 hi g n cap cur hg ⟨nb, 0, none⟩ 1 1 [y] (by rw [hsize]; rfl) hnews hone hroom (by rw [hsize, hcs]; simp; omega)
      rw [hr] at h
      injection h with e _
      subst e
      left
      simpa [Value.ownBlock] using hk
    · have holds : ∀ j u, xs[j]? = some u → w.cell? ((⟨g, 0, none⟩ : Addr).add j) = some u := hown.cells (g := g) rfl
      have h := run_append_grow (P := Tryz.prog) w 25 ty 5 i (.int .u8 0) Tryz.underlying25 hi hz ⟨g, 0, none⟩ n cap xs (by rw [hown.1, hsize]) holds ⟨nb, 0, none⟩ 1 1 [y] (by rw [hsize]; rfl) hnews (by omega) (by omega) (growslice_fits (by omega) (by rw [hby]; omega))
      rw [hr] at h
      injection h with e _
      subst e
      right
      simpa [Value.ownBlock, eq_comm] using hk
/-- One byte appended to a slice of the call's own: where it lies then. -/
theorem wpList_append_b {w : World} {ops : Array Oper} {rest : List Oper} {o : Oper} {a : Act} {Q : Exit → Act → World → Prop} (hgd : o.guard = none) (s x : Operand)
    (ho : o.op = .call { callee := .builtin .append, args := #[s, x], argTypes := #[25, 25] })
    (base : Nat) (i : TypeInfo) (hi : Tryz.prog.info? 5 = some i) (hz : i.zero = some (.int .u8 0)) (hsize : i.size = 1) (hby : i.bytes = 1)
    (v : Value) (n : Nat) (G : List U8) (hs : a.eval s = v) (hown : w.ownsRow base 5 1 v n (u8s G))
    (nb : Nat) (y : U8) (hx : a.eval x = .slice (some ⟨nb, 0, none⟩) 1 1) (hy : w.cell? ⟨nb, 0, none⟩ = some (.int .u8 y.v)) (hn : n ≤ 1000) (hbase : base ≤ w.heap.size)
    (h : ∀ v' w', w'.ownsRow base 5 1 v' (n + 1) (u8s (G ++ [y])) → w.grownBy w' v.ownBlock → (∀ k, v'.ownBlock = some k → v.ownBlock = some k ∨ k = w.heap.size) → wpList Tryz.prog ops Q rest (a.put o.dst v') w') : wpList Tryz.prog ops Q (o :: rest) a w := by
  refine wpList_plain hgd fun K hK => ?_
  have hnews : ∀ j u, ([.int .u8 y.v] : List Value)[j]? = some u → w.cell? ((⟨nb, 0, none⟩ : Addr).add j) = some u := by
    intro j u hj
    rcases j with _ | j
    · cases hj; rw [Addr.add_mid]; exact hy
    · cases hj
  obtain ⟨v', w', hr, h2, h3, h4⟩ := run_append_own (P := Tryz.prog) w base 25 o.type 5 i (.int .u8 0) 1 1 Tryz.underlying25 hi hz hsize hby rfl (by decide) v n (u8s G) hown ⟨nb, 0, none⟩ 1 1 [.int .u8 y.v] rfl hnews
    (fun u hu => by rw [List.mem_singleton.1 hu]; rfl) (by unfold maxLen; omega) (by omega) hbase
  have hb := app_block hi hz hsize hby hown nb (.int .u8 y.v) hy rfl hn o.type hr
  unfold Oper.wp execOp
  simp only [ho, resolve, invoke, builtin, Sem.run_bind, Sem.run_pure, Result.andThen_ok, List.map_toArray, List.map_cons, List.map_nil, hs, hx, hr]
  exact hK _ _ (h v' w' (by rw [u8s_app]; exact h2) h3 hb)
theorem own_other {w w' : World} {base n : Nat} {v : Value} {xs : List Value} {row : Option Nat} (h : w.ownsRow base 5 1 v n xs) (hg : w.grownBy w' row) (hne : ∀ k, v.ownBlock = some k → row = some k → False) : w'.ownsRow base 5 1 v n xs := by
  obtain ⟨hl, h⟩ := h
  refine ⟨hl, ?_⟩
  rcases h with h | ⟨g, cap, cur, rfl, hb, hh, h3⟩
  · exact .inl h
  · exact .inr ⟨g, cap, cur, rfl, hb, (hg.block g (Array.getElem?_eq_some_iff.1 hh).1 (fun e => hne g rfl e.symm)).trans hh, h3⟩
/-- Two slices that lie apart. -/
def ApartV (v u : Value) : Prop := ∀ k, v.ownBlock = some k → u.ownBlock = some k → False
def PlRel (w0 : World) (r : R) (g : Nat) (v u k : Value) (W : World) : Prop := ∃ (G O : List U8) (n : Nat), n + g = 60 ∧ k = .int .i64 n ∧ PlainR r G O ∧ G.length = n ∧ W.ownsRow w0.heap.size 5 1 v n (u8s G) ∧ W.ownsRow w0.heap.size 5 1 u n (u8s O) ∧ ApartV v u ∧ Below w0.heap.size w0 W
end Go.Proofs.YtnaampdpkegacaaGreatDoor

namespace Go.Proofs.YtnaampdpkegacaaGreatDoor
open Go.RowKit
set_option maxHeartbeats 4000000 in
set_option maxRecDepth 20000 in
theorem plainW_ (r : R) (av : Value) (ans : List U8) (b : U8) (w : World) (hg : SlIs w av ans) (hz : NilOk av) (hL : Lg w) : Calls Tryz.prog 10 #[.agg r.cells, av, .int .u8 b.v] w fun e w' => e = .returned (.bool true) ∧ Below w.heap.size w w' := by
  have HG := Lib.hid (And.intro hg hL)
  obtain ⟨aa, an, rfl⟩ := hg.slice'
  by_cases h40 : 40 < ans.length
  · clear hg hL hz
    go_enter Tryz.func10, Tryz.ntmps10
    go_wp2_with (first | (go_at_call 11; refine (awakeW_ _ (HG.out.2.kept (by go_grown))).mono ?_; rintro e w1 ⟨rfl, hb1⟩))
    go_ret
    exact ⟨rfl, bt (by go_grown) hb1⟩
  · obtain ⟨i0, hi, hz0, hz1, hz2⟩ := info_parts Tryz.info5
    have HZ := Lib.hid hz
    clear hg hL hz
    go_enter Tryz.func10, Tryz.ntmps10
    go_wp2_with (first | (go_at_call 11; refine (awakeW_ _ (HG.out.2.kept (by go_grown))).mono ?_; rintro e w1 ⟨rfl, hb1⟩))
    have HB : Below w.heap.size w w1 := bt (by go_grown) hb1
    have hr1 : blk w1 w.heap.size = r.cells := blk_keep hb1 (by simp) (blk_alloc_at _ _ _ _ rfl)
    have hs1 : w.heap.size < w1.heap.size := by have := hb1.size; simp at this; omega
    have HR := Lib.hid hr1
    clear hb1 hr1
    go_loopg [8, 9, 10] 60 (fun g v u k W => PlRel w1 r g v u k W)
    case atStart => exact ⟨[], [], 0, rfl, rfl, plain_nil r, rfl, own_nil _ _, own_nil _ _, fun k hk _ => (by cases hk), Below.refl _ _⟩
    case round =>
      obtain ⟨G, O, n, hn, rfl, hP, hlen, hG, hO, hAp, hb⟩ := hrel
      subst hlen
      have HN := Lib.hid hn
      clear hn
      by_cases hl : G.length < 60
      · obtain ⟨g, rfl⟩ : ∃ g', gk = g' + 1 := ⟨gk - 1, by have := HN.out; omega⟩
        obtain ⟨va, vc, rfl⟩ := own_slice hG
        obtain ⟨ua, uc, rfl⟩ := own_slice hO
        have hr : blk wr w.heap.size = r.cells := blk_keep hb hs1 HR.out
        have hrs : w.heap.size < wr.heap.size := Nat.lt_of_lt_of_le hs1 hb.size
        obtain ⟨⟨c, s, d⟩, hx⟩ : ∃ x, nextF r G = x := ⟨_, rfl⟩
        have hx2 := (plain_same hP (by omega)).trans hx
        have hSG : SlIs wr (.slice va G.length vc) G := own_sl hG
        have hSO : SlIs wr (.slice ua G.length uc) O := own_sl (by rw [← hP.2]; exact hO)
        have HX : ∀ W', Below wr.heap.size wr W' → Calls Tryz.prog 12 #[.agg r.cells, .slice va G.length vc] W' (Told (c, s, d) W') := fun W' hW' => by
          rw [← hx]; exact nextW_ r _ _ W' (hSG.kept hW') (HG.out.2.kept (bt HB (bt hb hW')))
        have HX2 : ∀ W', Below wr.heap.size wr W' → Calls Tryz.prog 12 #[.agg r.cells, .slice ua G.length uc] W' (Told (c, s, d) W') := fun W' hW' => by
          rw [← hx2]; exact nextW_ r _ _ W' (hSO.kept hW') (HG.out.2.kept (bt HB (bt hb hW')))
        have K1 := Lib.hid HX
        have K2 := Lib.hid HX2
        have HXE := Lib.hid hx
        have HPP := Lib.hid hP
        have HGG := Lib.hid hG
        have HOO := Lib.hid hO
        have HAP := Lib.hid hAp
        clear HX HX2 hx hx2 hSG hSO hP hG hO hAp
        go_wp2_with fail
        refine (K1.out _ (by go_grown)).mono ?_
        rintro e w2 ⟨rfl, hb2⟩
        have z2 : w.heap.size < w2.heap.size := by have := hb2.size; omega
        have y2 : w.heap.size < w2.heap.size + 1 := by omega
        have hr2 : blk w2 w.heap.size = r.cells := blk_keep hb2 hrs hr
        have B2 : Below wr.heap.size wr w2 := hb2
        go_wp2_with fail
        refine (K2.out _ (bt B2 (by go_grown))).mono ?_
        rintro e w3 ⟨rfl, hb3⟩
        have s3 : w2.heap.size + 2 ≤ w3.heap.size := by have := hb3.size; simp only [World.size_alloc] at this; omega
        have kc : blk w3 w2.heap.size = c.cells := blk_keep hb3 (by simp only [World.size_alloc]; omega) (by simp [go_sem])
        have ks : blk w3 (w2.heap.size + 1) = s.cells := blk_keep hb3 (by simp only [World.size_alloc]; omega) (by simp [go_sem])
        have B3 : Below wr.heap.size wr w3 := bt B2 (bt (by go_grown) hb3)
        have l1 : w2.heap.size < w3.heap.size := by omega
        have l2 : w2.heap.size + 1 < w3.heap.size := by omega
        have l3 : w2.heap.size < w3.heap.size + 1 := by omega
        have l4 : w2.heap.size + 1 < w3.heap.size + 1 := by omega
        have q0 := eqC_refl c
        have q1 := eqR_refl s
        have m3 : w3.cell? ⟨w2.heap.size, 0, none⟩ = some (.int .i64 c.kind) := by rw [cell_blk, kc]; rfl
        have hGl : ∀ k, Value.ownBlock (.slice va G.length vc) = some k → k < wr.heap.size := fun k hk => (HGG.out.lt k hk).2
        have hOl : ∀ k, Value.ownBlock (.slice ua G.length uc) = some k → k < wr.heap.size := fun k hk => (HOO.out.lt k hk).2
        have sw2 : wr.heap.size ≤ w2.heap.size := B2.size
        clear hb2 hb3
        cases d
        · by_cases hin : G.length < ans.length
          · obtain ⟨ab, ao, ac, e1, hcap, hlt, hcells⟩ : ∃ ab ao ac, Value.slice aa ans.length an = .slice (some ⟨ab, ao, none⟩) ans.length ac ∧ ans.length ≤ ac ∧ ab < w.heap.size ∧ ∀ (j : Nat) (v : U8), ans[j]? = some v → w.cell? ⟨ab, ao + j, none⟩ = some (.int .u8 v.v) := by
              rcases HG.out.1 with ⟨a', c', e, h0⟩ | ⟨b', o', c', e, h1, h2, h3⟩
              · rw [h0] at hin; simp at hin
              · exact ⟨b', o', c', e, h1, h2, h3⟩
            cases e1
            obtain ⟨Y, hY⟩ : ∃ y, ans[G.length]? = some y := ⟨_, List.getElem?_eq_getElem hin⟩
            have hcY := hcells _ _ hY
            have hc3 : w3.cell? ⟨ab, ao + G.length, none⟩ = some (.int .u8 Y.v) := ((bt HB (bt hb B3)).cell (p := ⟨ab, ao + G.length, none⟩) hlt).trans hcY
            have la : ab < w3.heap.size := by have := (bt HB (bt hb B3)).size; omega
            have la1 : ab < w3.heap.size + 1 := by omega
            clear hcells
            go_wp2_with (at_builtin; refine wpList_append_b rfl _ _ rfl w1.heap.size i0 hi hz0 hz1 hz2 _ G.length G rfl (own_below HGG.out (bt B3 (by go_grown))) (w3.heap.size + 1 + 1) Y rfl (by simp [go_sem]) (by omega) (by have := hb.size; have := B3.size; simp; omega) ?_)
            intro v' w4 hv' hgrow hbk
            obtain ⟨u4, hu4⟩ : ∃ u4 : World, u4 = w4 := ⟨w4, rfl⟩
            have zG := hGl
            have B4 : Below w1.heap.size w1 w4 := (bt hb (bt B3 (by go_grown))).grown hgrow (by have := hb.size; have := B3.size; simp; omega) (own_row HGG.out)
            have m0 : w4.cell? ⟨w2.heap.size, 0, none⟩ = some (.int .i64 c.kind) := hgrow.cell ((Below.cell (p := ⟨w2.heap.size, 0, none⟩) (by go_grown) l1).trans m3) (fun e => absurd (hGl _ e.symm) (Nat.not_lt.2 sw2))
            have hO4 := own_other (own_below HOO.out (bt B3 (by go_grown))) hgrow (fun k h1 h2 => HAP.out k h2 h1)
            have s4 : w3.heap.size + 3 ≤ w4.heap.size := by have := hgrow.size; simp only [World.size_alloc] at this; omega
            have hbk2 : ∀ k, v'.ownBlock = some k → Value.ownBlock (.slice va G.length vc) = some k ∨ k = w3.heap.size + 1 + 1 + 1 := fun k hk => by have := hbk k hk; simpa using this
            have HV := Lib.hid hv'
            have HO4 := Lib.hid hO4
            have HBK := Lib.hid hbk2
            clear hv' hgrow hbk hO4 hbk2
            rcases (show ((c.kind = 3 ∨ c.kind = 5 ∨ c.kind = 7) ∧ sends c = true) ∨ (¬ c.kind = 3 ∧ ¬ c.kind = 5 ∧ ¬ c.kind = 7) by
              by_cases h3 : c.kind = 3
              · exact .inl ⟨.inl h3, by simp [sends, h3]⟩
              · by_cases h5 : c.kind = 5
                · exact .inl ⟨.inr (.inl h5), by simp [sends, h5]⟩
                · by_cases h7 : c.kind = 7
                  · exact .inl ⟨.inr (.inr h7), by simp [sends, h7]⟩
                  · exact .inr ⟨h3, h5, h7⟩) with ⟨hk, hsend⟩ | ⟨h3, h5, h7⟩
            · obtain ⟨y', hv⟩ : ∃ y' : U8, y'.v = (U8.v Y + b.v) % 256 := ⟨u8 (U8.v Y + b.v), rfl⟩
              have hsd : sends c = true ∨ Y = y' := .inl hsend
              rcases hk with h3 | h5 | h7
              all_goals
                go_wp2_with (at_builtin; refine wpList_append_b rfl _ _ rfl w1.heap.size i0 hi hz0 hz1 hz2 _ G.length O rfl (own_below HO4.out (by go_grown)) w4.heap.size y' rfl (by first | (simp [go_sem, hv]; done) | (simp [go_sem]; have := b.h0; have := b.h1; simp [zero8v] at hv; omega)) (by omega) (by have := B4.size; simp; omega) ?_)
                intro u' w5 hu' hgrow2 hbu
                have B5 : Below w1.heap.size w1 w5 := (bt B4 (by go_grown)).grown hgrow2 (by have := B4.size; simp; omega) (own_row HOO.out)
                have hv5 := own_other (own_below HV.out (by go_grown)) hgrow2 (fun k h1 h2 => by
                  rcases HBK.out k h1 with h | h
                  · exact HAP.out k h h2
                  · have := hOl k h2; omega)
                have hvl : ∀ k, v'.ownBlock = some k → k < w4.heap.size := fun k hk => (HV.out.lt k hk).2
                have HU := Lib.hid hu'
                have HV5 := Lib.hid hv5
                have HBU := Lib.hid (show ∀ k, u'.ownBlock = some k → Value.ownBlock (.slice ua G.length uc) = some k ∨ w4.heap.size ≤ k from fun k hk => by
                  rcases hbu k hk with h | h
                  · exact .inl h
                  · exact .inr (by first | omega | (simp at h; omega) | (subst h; simp)))
                clear hu' hgrow2 hbu hv5
                go_wp2
                go_roundg g
                case measure => exact Nat.lt_succ_self _
                case rel =>
                  refine ⟨G ++ [Y], O ++ [y'], G.length + 1, by have := HN.out; omega, by go_num, plain_more HPP.out (by omega) HXE.out hsd, by simp, HV5.out, HU.out, ?_, B5⟩
                  intro k hk1 hk2
                  rcases HBU.out k hk2 with h | h
                  · rcases HBK.out k hk1 with h' | h'
                    · exact HAP.out k h' h
                    · have := hOl k h; omega
                  · have := hvl k hk1; omega
            · have b3 : (c.kind == 3) = false := by simpa using h3
              have b5 : (c.kind == 5) = false := by simpa using h5
              have b7 : (c.kind == 7) = false := by simpa using h7
              obtain ⟨y', hv, hsd⟩ : ∃ y' : U8, y'.v = U8.v Y ∧ (sends c = true ∨ Y = y') := ⟨Y, rfl, .inr rfl⟩
              go_wp2_with (at_builtin; refine wpList_append_b rfl _ _ rfl w1.heap.size i0 hi hz0 hz1 hz2 _ G.length O rfl (own_below HO4.out (by go_grown)) w4.heap.size y' rfl (by first | (simp [go_sem, hv]; done) | (simp [go_sem]; have := b.h0; have := b.h1; simp [zero8v] at hv; omega)) (by omega) (by have := B4.size; simp; omega) ?_)
              intro u' w5 hu' hgrow2 hbu
              have B5 : Below w1.heap.size w1 w5 := (bt B4 (by go_grown)).grown hgrow2 (by have := B4.size; simp; omega) (own_row HOO.out)
              have hv5 := own_other (own_below HV.out (by go_grown)) hgrow2 (fun k h1 h2 => by
                rcases HBK.out k h1 with h | h
                · exact HAP.out k h h2
                · have := hOl k h2; omega)
              have hvl : ∀ k, v'.ownBlock = some k → k < w4.heap.size := fun k hk => (HV.out.lt k hk).2
              have HU := Lib.hid hu'
              have HV5 := Lib.hid hv5
              have HBU := Lib.hid (show ∀ k, u'.ownBlock = some k → Value.ownBlock (.slice ua G.length uc) = some k ∨ w4.heap.size ≤ k from fun k hk => by
                rcases hbu k hk with h | h
                · exact .inl h
                · exact .inr (by first | omega | (simp at h; omega) | (subst h; simp)))
              clear hu' hgrow2 hbu hv5
              go_wp2
              go_roundg g
              case measure => exact Nat.lt_succ_self _
              case rel =>
                refine ⟨G ++ [Y], O ++ [y'], G.length + 1, by have := HN.out; omega, by go_num, plain_more HPP.out (by omega) HXE.out hsd, by simp, HV5.out, HU.out, ?_, B5⟩
                intro k hk1 hk2
                rcases HBU.out k hk2 with h | h
                · rcases HBK.out k hk1 with h' | h'
                  · exact HAP.out k h' h
                  · have := hOl k h; omega
                · have := hvl k hk1; omega
          · obtain ⟨Y, hY⟩ : ∃ y : U8, y = zero8 := ⟨_, rfl⟩
            subst hY
            go_wp2_with (at_builtin; refine wpList_append_b rfl _ _ rfl w1.heap.size i0 hi hz0 hz1 hz2 _ G.length G rfl (own_below HGG.out (bt B3 (by go_grown))) (w3.heap.size + 1 + 1) zero8 rfl (by simp [go_sem, zero8v]) (by omega) (by have := hb.size; have := B3.size; simp; omega) ?_)
            intro v' w4 hv' hgrow hbk
            obtain ⟨u4, hu4⟩ : ∃ u4 : World, u4 = w4 := ⟨w4, rfl⟩
            have zG := hGl
            have B4 : Below w1.heap.size w1 w4 := (bt hb (bt B3 (by go_grown))).grown hgrow (by have := hb.size; have := B3.size; simp; omega) (own_row HGG.out)
            have m0 : w4.cell? ⟨w2.heap.size, 0, none⟩ = some (.int .i64 c.kind) := hgrow.cell ((Below.cell (p := ⟨w2.heap.size, 0, none⟩) (by go_grown) l1).trans m3) (fun e => absurd (hGl _ e.symm) (Nat.not_lt.2 sw2))
            have hO4 := own_other (own_below HOO.out (bt B3 (by go_grown))) hgrow (fun k h1 h2 => HAP.out k h2 h1)
            have s4 : w3.heap.size + 3 ≤ w4.heap.size := by have := hgrow.size; simp only [World.size_alloc] at this; omega
            have hbk2 : ∀ k, v'.ownBlock = some k → Value.ownBlock (.slice va G.length vc) = some k ∨ k = w3.heap.size + 1 + 1 + 1 := fun k hk => by have := hbk k hk; simpa using this
            have HV := Lib.hid hv'
            have HO4 := Lib.hid hO4
            have HBK := Lib.hid hbk2
            clear hv' hgrow hbk hO4 hbk2
            rcases (show ((c.kind = 3 ∨ c.kind = 5 ∨ c.kind = 7) ∧ sends c = true) ∨ (¬ c.kind = 3 ∧ ¬ c.kind = 5 ∧ ¬ c.kind = 7) by
              by_cases h3 : c.kind = 3
              · exact .inl ⟨.inl h3, by simp [sends, h3]⟩
              · by_cases h5 : c.kind = 5
                · exact .inl ⟨.inr (.inl h5), by simp [sends, h5]⟩
                · by_cases h7 : c.kind = 7
                  · exact .inl ⟨.inr (.inr h7), by simp [sends, h7]⟩
                  · exact .inr ⟨h3, h5, h7⟩) with ⟨hk, hsend⟩ | ⟨h3, h5, h7⟩
            · obtain ⟨y', hv⟩ : ∃ y' : U8, y'.v = (U8.v zero8 + b.v) % 256 := ⟨u8 (U8.v zero8 + b.v), rfl⟩
              have hsd : sends c = true ∨ zero8 = y' := .inl hsend
              rcases hk with h3 | h5 | h7
              all_goals
                go_wp2_with (at_builtin; refine wpList_append_b rfl _ _ rfl w1.heap.size i0 hi hz0 hz1 hz2 _ G.length O rfl (own_below HO4.out (by go_grown)) w4.heap.size y' rfl (by first | (simp [go_sem, hv]; done) | (simp [go_sem]; have := b.h0; have := b.h1; simp [zero8v] at hv; omega)) (by omega) (by have := B4.size; simp; omega) ?_)
                intro u' w5 hu' hgrow2 hbu
                have B5 : Below w1.heap.size w1 w5 := (bt B4 (by go_grown)).grown hgrow2 (by have := B4.size; simp; omega) (own_row HOO.out)
                have hv5 := own_other (own_below HV.out (by go_grown)) hgrow2 (fun k h1 h2 => by
                  rcases HBK.out k h1 with h | h
                  · exact HAP.out k h h2
                  · have := hOl k h2; omega)
                have hvl : ∀ k, v'.ownBlock = some k → k < w4.heap.size := fun k hk => (HV.out.lt k hk).2
                have HU := Lib.hid hu'
                have HV5 := Lib.hid hv5
                have HBU := Lib.hid (show ∀ k, u'.ownBlock = some k → Value.ownBlock (.slice ua G.length uc) = some k ∨ w4.heap.size ≤ k from fun k hk => by
                  rcases hbu k hk with h | h
                  · exact .inl h
                  · exact .inr (by first | omega | (simp at h; omega) | (subst h; simp)))
                clear hu' hgrow2 hbu hv5
                go_wp2
                go_roundg g
                case measure => exact Nat.lt_succ_self _
                case rel =>
                  refine ⟨G ++ [zero8], O ++ [y'], G.length + 1, by have := HN.out; omega, by go_num, plain_more HPP.out (by omega) HXE.out hsd, by simp, HV5.out, HU.out, ?_, B5⟩
                  intro k hk1 hk2
                  rcases HBU.out k hk2 with h | h
                  · rcases HBK.out k hk1 with h' | h'
                    · exact HAP.out k h' h
                    · have := hOl k h; omega
                  · have := hvl k hk1; omega
            · have b3 : (c.kind == 3) = false := by simpa using h3
              have b5 : (c.kind == 5) = false := by simpa using h5
              have b7 : (c.kind == 7) = false := by simpa using h7
              obtain ⟨y', hv, hsd⟩ : ∃ y' : U8, y'.v = U8.v zero8 ∧ (sends c = true ∨ zero8 = y') := ⟨zero8, rfl, .inr rfl⟩
              go_wp2_with (at_builtin; refine wpList_append_b rfl _ _ rfl w1.heap.size i0 hi hz0 hz1 hz2 _ G.length O rfl (own_below HO4.out (by go_grown)) w4.heap.size y' rfl (by first | (simp [go_sem, hv]; done) | (simp [go_sem]; have := b.h0; have := b.h1; simp [zero8v] at hv; omega)) (by omega) (by have := B4.size; simp; omega) ?_)
              intro u' w5 hu' hgrow2 hbu
              have B5 : Below w1.heap.size w1 w5 := (bt B4 (by go_grown)).grown hgrow2 (by have := B4.size; simp; omega) (own_row HOO.out)
              have hv5 := own_other (own_below HV.out (by go_grown)) hgrow2 (fun k h1 h2 => by
                rcases HBK.out k h1 with h | h
                · exact HAP.out k h h2
                · have := hOl k h2; omega)
              have hvl : ∀ k, v'.ownBlock = some k → k < w4.heap.size := fun k hk => (HV.out.lt k hk).2
              have HU := Lib.hid hu'
              have HV5 := Lib.hid hv5
              have HBU := Lib.hid (show ∀ k, u'.ownBlock = some k → Value.ownBlock (.slice ua G.length uc) = some k ∨ w4.heap.size ≤ k from fun k hk => by
                rcases hbu k hk with h | h
                · exact .inl h
                · exact .inr (by first | omega | (simp at h; omega) | (subst h; simp)))
              clear hu' hgrow2 hbu hv5
              go_wp2
              go_roundg g
              case measure => exact Nat.lt_succ_self _
              case rel =>
                refine ⟨G ++ [zero8], O ++ [y'], G.length + 1, by have := HN.out; omega, by go_num, plain_more HPP.out (by omega) HXE.out hsd, by simp, HV5.out, HU.out, ?_, B5⟩
                intro k hk1 hk2
                rcases HBU.out k hk2 with h | h
                · rcases HBK.out k hk1 with h' | h'
                  · exact HAP.out k h' h
                  · have := hOl k h; omega
                · have := hvl k hk1; omega
        · go_wp2_with fail
          go_ret
          exact ⟨rfl, bt HB (bt hb (bt B3 (by go_grown)))⟩
      · have e60 : G.length = 60 := by have := HN.out; omega
        go_wp2_with fail
        go_ret
        exact ⟨rfl, bt HB hb⟩
end Go.Proofs.YtnaampdpkegacaaGreatDoor
