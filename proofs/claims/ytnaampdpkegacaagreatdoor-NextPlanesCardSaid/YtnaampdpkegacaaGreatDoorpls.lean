/-
  The walk of NextPlanes: all codes of a plane, whatever is answered. A helper of the claim that stands beside it. (Printed by wip/genpls.py.)
-/
import Derived.Deep.DeepCutAuto
import Derived.Test.YtnaampdpkegacaaGreatDooropen
import Derived.Test.YtnaampdpkegacaaGreatDoorry
namespace Go.Proofs.YtnaampdpkegacaaGreatDoor
open Go.RowKit
/-- The head of a plane, as the statement has it. -/
def headOf (i : Nat) : List U8 := if i = 1 then [u8 203] else if i = 2 then [u8 237] else if i = 3 then [u8 221] else if i = 4 then [u8 253] else if i = 5 then [u8 221, u8 203, u8 133] else if i = 6 then [u8 253, u8 203, u8 127] else []
theorem i64_and7 (n : Int) : bits .and .i64 n 7 = n % 8 := by
  have h7 : (BitVec.ofInt 64 7).toNat = 2 ^ 3 - 1 := by decide
  have key : (BitVec.ofInt 64 n &&& BitVec.ofInt 64 7).toNat = (n % ((2 ^ 64 : Nat) : Int)).toNat % 2 ^ 3 := by
    rw [BitVec.toNat_and, BitVec.toNat_ofInt, h7, Nat.and_two_pow_sub_one_eq_mod]
  show IntKind.i64.wrap ((BitVec.ofInt 64 n &&& BitVec.ofInt 64 7).toNat : Nat) = n % 8
  rw [key, IntKind.wrap_i64]
  omega
theorem idx_ex (plane : Int) : ∃ i : Nat, i ≤ 6 ∧ (bits .and .i64 plane 7).tmod 7 = (i : Int) := by
  have h0 : 0 ≤ bits .and .i64 plane 7 ∧ bits .and .i64 plane 7 ≤ 7 := by
    rw [i64_and7]; omega
  refine ⟨((bits .and .i64 plane 7).tmod 7).toNat, ?_, ?_⟩
  · rw [Int.tmod_eq_emod_of_nonneg h0.1]; omega
  · rw [Int.tmod_eq_emod_of_nonneg h0.1]; omega
theorem head_len (i : Nat) : (headOf i).length ≤ 3 := by
  unfold headOf
  repeat' split
  all_goals simp
def W8 (w1 : World) : World := (((((((w1.alloc (.cells #[] 5)).alloc (.cells #[.int .u8 203] 5)).alloc (.cells #[.int .u8 237] 5)).alloc (.cells #[.int .u8 221] 5)).alloc (.cells #[.int .u8 253] 5)).alloc (.cells #[.int .u8 221, .int .u8 203, .int .u8 133] 5)).alloc (.cells #[.int .u8 253, .int .u8 203, .int .u8 127] 5)).alloc (.cells #[.slice (some ⟨w1.heap.size, 0, none⟩) 0 0, .slice (some ⟨w1.heap.size + 1, 0, none⟩) 1 1, .slice (some ⟨w1.heap.size + 1 + 1, 0, none⟩) 1 1, .slice (some ⟨w1.heap.size + 1 + 1 + 1, 0, none⟩) 1 1, .slice (some ⟨w1.heap.size + 1 + 1 + 1 + 1, 0, none⟩) 1 1, .slice (some ⟨w1.heap.size + 1 + 1 + 1 + 1 + 1, 0, none⟩) 3 3, .slice (some ⟨w1.heap.size + 1 + 1 + 1 + 1 + 1 + 1, 0, none⟩) 3 3] 25)
theorem heads_ (w1 : World) (n : Nat) (hn : Inb n w1) (c : Array Value) (i : Nat) (hi : i ≤ 6) : ∃ hv, (put (W8 w1) n c).cell? ⟨w1.heap.size + 1 + 1 + 1 + 1 + 1 + 1 + 1, i, none⟩ = some hv ∧ SlIs (put (W8 w1) n c) hv (headOf i) ∧ ∃ ad m k, hv = .slice (some ad) m k := by
  have hn : n < w1.heap.size := hn
  have hne0 : ¬ w1.heap.size = n := by omega
  have hne1 : ¬ w1.heap.size + 1 = n := by omega
  have hne2 : ¬ w1.heap.size + 1 + 1 = n := by omega
  have hne3 : ¬ w1.heap.size + 1 + 1 + 1 = n := by omega
  have hne4 : ¬ w1.heap.size + 1 + 1 + 1 + 1 = n := by omega
  have hne5 : ¬ w1.heap.size + 1 + 1 + 1 + 1 + 1 = n := by omega
  have hne6 : ¬ w1.heap.size + 1 + 1 + 1 + 1 + 1 + 1 = n := by omega
  have hne7 : ¬ w1.heap.size + 1 + 1 + 1 + 1 + 1 + 1 + 1 = n := by omega
  rcases (show i = 0 ∨ i = 1 ∨ i = 2 ∨ i = 3 ∨ i = 4 ∨ i = 5 ∨ i = 6 by omega) with rfl | rfl | rfl | rfl | rfl | rfl | rfl
  · exact ⟨.slice (some ⟨w1.heap.size, 0, none⟩) 0 0, by unfold W8; simp [go_sem, *], .inl ⟨_, _, rfl, rfl⟩, _, _, _, rfl⟩
  · exact ⟨.slice (some ⟨w1.heap.size + 1, 0, none⟩) 1 1, by unfold W8; simp [go_sem, *], .inr ⟨w1.heap.size + 1, 0, 1, rfl, Nat.le_refl _, by rw [put_size]; unfold W8; simp only [World.size_alloc]; omega, fun j v hj => by
      unfold W8
      rcases j with _ | _ | _ | j <;> simp [headOf] at hj <;> subst hj <;> simp [go_sem, *] <;> rfl⟩, _, _, _, rfl⟩
  · exact ⟨.slice (some ⟨w1.heap.size + 1 + 1, 0, none⟩) 1 1, by unfold W8; simp [go_sem, *], .inr ⟨w1.heap.size + 1 + 1, 0, 1, rfl, Nat.le_refl _, by rw [put_size]; unfold W8; simp only [World.size_alloc]; omega, fun j v hj => by
      unfold W8
      rcases j with _ | _ | _ | j <;> simp [headOf] at hj <;> subst hj <;> simp [go_sem, *] <;> rfl⟩, _, _, _, rfl⟩
  · exact ⟨.slice (some ⟨w1.heap.size + 1 + 1 + 1, 0, none⟩) 1 1, by unfold W8; simp [go_sem, *], .inr ⟨w1.heap.size + 1 + 1 + 1, 0, 1, rfl, Nat.le_refl _, by rw [put_size]; unfold W8; simp only [World.size_alloc]; omega, fun j v hj => by
      unfold W8
      rcases j with _ | _ | _ | j <;> simp [headOf] at hj <;> subst hj <;> simp [go_sem, *] <;> rfl⟩, _, _, _, rfl⟩
  · exact ⟨.slice (some ⟨w1.heap.size + 1 + 1 + 1 + 1, 0, none⟩) 1 1, by unfold W8; simp [go_sem, *], .inr ⟨w1.heap.size + 1 + 1 + 1 + 1, 0, 1, rfl, Nat.le_refl _, by rw [put_size]; unfold W8; simp only [World.size_alloc]; omega, fun j v hj => by
      unfold W8
      rcases j with _ | _ | _ | j <;> simp [headOf] at hj <;> subst hj <;> simp [go_sem, *] <;> rfl⟩, _, _, _, rfl⟩
  · exact ⟨.slice (some ⟨w1.heap.size + 1 + 1 + 1 + 1 + 1, 0, none⟩) 3 3, by unfold W8; simp [go_sem, *], .inr ⟨w1.heap.size + 1 + 1 + 1 + 1 + 1, 0, 3, rfl, Nat.le_refl _, by rw [put_size]; unfold W8; simp only [World.size_alloc]; omega, fun j v hj => by
      unfold W8
      rcases j with _ | _ | _ | j <;> simp [headOf] at hj <;> subst hj <;> simp [go_sem, *] <;> rfl⟩, _, _, _, rfl⟩
  · exact ⟨.slice (some ⟨w1.heap.size + 1 + 1 + 1 + 1 + 1 + 1, 0, none⟩) 3 3, by unfold W8; simp [go_sem, *], .inr ⟨w1.heap.size + 1 + 1 + 1 + 1 + 1 + 1, 0, 3, rfl, Nat.le_refl _, by rw [put_size]; unfold W8; simp only [World.size_alloc]; omega, fun j v hj => by
      unfold W8
      rcases j with _ | _ | _ | j <;> simp [headOf] at hj <;> subst hj <;> simp [go_sem, *] <;> rfl⟩, _, _, _, rfl⟩
theorem sl_cap {w : World} {a : Option Addr} {n c : Nat} {got : List U8} (h : SlIs w (.slice a n c) got) : n ≤ c ∨ n = 0 := by
  rcases h with ⟨a', c', e, rfl⟩ | ⟨b', o', c', e, hc, hb, hj⟩
  · cases e; exact .inr rfl
  · cases e; exact .inl hc
def PadRel (W0 : World) (G0 : List U8) (g : Nat) (v : Value) (W : World) : Prop := ∃ G : List U8, G.length + g = G0.length + (16 - G0.length) ∧ W.ownsRow W0.heap.size 5 1 v G.length (u8s G) ∧ Below W0.heap.size W0 W
def PlsRel (W0 : World) (g : Nat) (k : Value) (W : World) : Prop := ∃ n : Nat, n + g = 256 ∧ k = .int .i64 n ∧ Below W0.heap.size W0 W
set_option maxHeartbeats 8000000 in
set_option maxRecDepth 20000 in
theorem planesW_ (r : R) (plane : Int) (av : Value) (ans : List U8) (w : World) (hg : SlIs w av ans) (hz : NilOk av) (hL : Lg w) : Calls Tryz.prog 5 #[.agg r.cells, .int .i64 plane, av] w fun e w' => e = .returned (.bool true) ∧ Below w.heap.size w w' := by
  have HG := Lib.hid (And.intro hg hL)
  obtain ⟨aa, an, rfl⟩ := hg.slice'
  by_cases hlim : 20 < ans.length
  · clear hg hL hz
    go_enter Tryz.func5, Tryz.ntmps5
    go_wp2_with (first | (go_at_call 11; refine (awakeW_ _ (HG.out.2.kept (by go_grown))).mono ?_; rintro e w1 ⟨rfl, hb1⟩))
    go_ret
    exact ⟨rfl, bt (by go_grown) hb1⟩
  · have HZ := Lib.hid hz
    obtain ⟨i, hi6, hidx⟩ := idx_ex plane
    obtain ⟨i0, hi, hz0, hz1, hz2⟩ := info_parts Tryz.info5
    clear hg hL hz
    go_enter Tryz.func5, Tryz.ntmps5
    go_wp2_with fail
    refine (awakeW_ _ (HG.out.2.kept (by go_grown))).mono ?_
    rintro e w0 ⟨rfl, hb0⟩
    obtain ⟨w1, rfl, hb1, i1⟩ : ∃ w1, w0 = put w1 w.heap.size r.cells ∧ Below w.heap.size w w1 ∧ Inb w.heap.size w1 := by
      have e1 := (hb0.block w.heap.size (by simp)).trans (heap_alloc_last w _)
      exact ⟨w0, (asput e1).symm, bt (by go_grown) hb0, by have := hb0.size; simp only [World.size_alloc] at this; unfold Inb; omega⟩
    clear hb0
    have hb2 : Below w.heap.size w (put (W8 w1) w.heap.size (R.cells { r with halted := false })) := below_put (bt hb1 (by unfold W8; go_grown)) (Nat.le_refl _)
    obtain ⟨hv, hc0, hs0, hnz⟩ := heads_ w1 w.heap.size i1 (R.cells { r with halted := false }) i hi6
    have hr0 : blk (put (W8 w1) w.heap.size (R.cells { r with halted := false })) w.heap.size = R.cells { r with halted := false } := blk_put (by unfold W8; simp only [inb_alloc]; simp [i1]) _
    have hHl : w1.heap.size + 1 + 1 + 1 + 1 + 1 + 1 + 1 < (put (W8 w1) w.heap.size (R.cells { r with halted := false })).heap.size := by rw [put_size]; unfold W8; simp only [World.size_alloc]; omega
    have hwl : w.heap.size < (put (W8 w1) w.heap.size (R.cells { r with halted := false })).heap.size := by rw [put_size]; unfold W8; simp only [World.size_alloc]; have : w.heap.size < w1.heap.size := i1; omega
    go_wp2_with fail
    change Code.wp _ _ _ _ (put (W8 w1) w.heap.size (R.cells { r with halted := false }))
    generalize put (W8 w1) w.heap.size (R.cells { r with halted := false }) = W0 at *
    generalize w1.heap.size + 1 + 1 + 1 + 1 + 1 + 1 + 1 = Hb at *
    clear hb1 i1
    have HF := Lib.hid (And.intro hb2 (And.intro hr0 (And.intro hc0 (And.intro hs0 (And.intro hnz (And.intro hHl hwl))))))
    clear hb2 hr0 hc0 hs0 hnz hHl hwl
    go_loopg [9] 256 (fun g k W => PlsRel W0 g k W)
    case atStart => exact ⟨0, by omega, rfl, Below.refl _ _⟩
    case round =>
      obtain ⟨n, hn, rfl, hb⟩ := hrel
      have HN := Lib.hid hn
      clear hn
      have hr : blk wr w.heap.size = R.cells { r with halted := false } := blk_keep hb HF.out.2.2.2.2.2.2 HF.out.2.1
      have hrs : w.heap.size < wr.heap.size := Nat.lt_of_lt_of_le HF.out.2.2.2.2.2.2 hb.size
      have hcell : wr.cell? ⟨Hb, i, none⟩ = some hv := (hb.cell (p := ⟨Hb, i, none⟩) HF.out.2.2.2.2.2.1).trans HF.out.2.2.1
      by_cases hl : n < 256
      · obtain ⟨g, rfl⟩ : ∃ g', gk = g' + 1 := ⟨gk - 1, by have := HN.out; omega⟩
        have hi70 : (0 : Int) ≤ (i : Int) := by omega
        have hi71 : (i : Int) < 7 := by omega
        have hn0 : (n : Int) < 256 := by omega
        obtain ⟨ha, hm, hk, rfl⟩ := HF.out.2.2.2.2.1
        go_wp2_with (at_builtin; refine wpList_append_sl rfl _ _ rfl wr.heap.size i0 hi hz0 hz1 hz2 _ 0 (u8s []) rfl (own_nil _ _) (some ha) hm hk (headOf i) rfl ((HF.out.2.2.2.1.kept hb).addr (fun _ _ h => by cases h)) ?c1 (Nat.le_refl _) ?_)
        case c1 => have := head_len i; omega
        intro v1 w2 hown1 hgrow1
        have hown1 : w2.ownsRow wr.heap.size 5 1 v1 (headOf i).length (u8s (headOf i)) := by simpa [u8s] using hown1
        have B2 : Below wr.heap.size wr w2 := (Below.refl _ _).grown hgrow1 (Nat.le_refl _) (by intro k hk; cases hk)
        have HO1 := Lib.hid hown1
        clear hown1 hgrow1
        obtain ⟨va, vc, rfl⟩ := own_slice HO1.out
        have hw8 := fold8
        have hL3 := head_len i
        go_wp2_with (at_builtin; refine wpList_append_own _ rfl _ _ 25 rfl wr.heap.size 5 i0 (.int .u8 0) 1 1 Tryz.underlying25 hi hz0 hz1 hz2 rfl (by decide) _ (headOf i).length (u8s (headOf i)) rfl (own_below HO1.out (by go_grown)) ⟨w2.heap.size, 0, none⟩ 1 1 [.int .u8 (U8.v (u8 n))] rfl rfl ?c1 ?c2 ?c3 ?c4 ?c5 ?_)
        case c1 => intro j u hj; rcases j with _ | j <;> simp at hj; subst hj; simp [go_sem]
        case c2 => intro u hu; simp at hu; subst hu; rfl
        case c3 => unfold maxLen; omega
        case c4 => omega
        case c5 => have := B2.size; simp; omega
        intro v2 w3 hown2 hgrow2 _
        obtain ⟨G1, hG1⟩ : ∃ G1, G1 = headOf i ++ [u8 (n : Int)] := ⟨_, rfl⟩
        have hG1l : G1.length = (headOf i).length + 1 := by rw [hG1]; simp
        have hown2 : w3.ownsRow wr.heap.size 5 1 v2 G1.length (u8s G1) := by rw [hG1]; simpa [u8s] using hown2
        have hL4 : G1.length ≤ 4 ∧ 1 ≤ G1.length := by omega
        clear hG1 hG1l
        have B3 : Below wr.heap.size wr w3 := (bt B2 (by go_grown)).grown hgrow2 (by have := B2.size; simp; omega) (own_row HO1.out)
        have HO2 := Lib.hid hown2
        clear hown2 hgrow2
        obtain ⟨vb, vd, rfl⟩ := own_slice HO2.out
        go_wp2_with (at_builtin; refine wpList_append_sl rfl _ _ rfl wr.heap.size i0 hi hz0 hz1 hz2 _ G1.length (u8s G1) rfl HO2.out aa ans.length an ans rfl ((HG.out.1.kept (bt HF.out.1 (bt hb B3))).addr HZ.out) ?c1 (B3.size) ?_)
        case c1 => omega
        intro v3 w4 hown3 hgrow3
        have B4 : Below wr.heap.size wr w4 := B3.grown hgrow3 B3.size (own_row HO2.out)
        obtain ⟨G0, hG0⟩ : ∃ G0, G0 = G1 ++ ans := ⟨_, rfl⟩
        have hG0l : G0.length = G1.length + ans.length := by rw [hG0]; exact List.length_append
        have hown3 : w4.ownsRow wr.heap.size 5 1 v3 G0.length (u8s G0) := by rw [hG0l, hG0, u8s_app]; exact hown3
        have HO3 := Lib.hid hown3
        have hL5 : G0.length ≤ 24 ∧ 1 ≤ G0.length := by omega
        clear hown3 hgrow3 hG0 hG0l
        go_wp2_with fail
        generalize wr = wq at *
        go_loopg [10] (16 - G0.length) (fun g v W => PadRel wq G0 g v W)
        case atStart => exact ⟨G0, rfl, HO3.out, B4⟩
        case round =>
          obtain ⟨G, hGl, hGo, hGb⟩ := hrel
          have HGL := Lib.hid hGl
          have HGO := Lib.hid hGo
          clear hGl hGo
          obtain ⟨vg, vh, rfl⟩ := own_slice HGO.out
          have hw8 := fold8
          by_cases hlt : G.length < 16
          · obtain ⟨g2, rfl⟩ : ∃ g', gk = g' + 1 := ⟨gk - 1, by have := HGL.out; omega⟩
            have hlt2 : (G.length : Int) < 16 := by omega
            go_wp2_with (at_builtin; refine wpList_append_own _ rfl _ _ 25 rfl wq.heap.size 5 i0 (.int .u8 0) 1 1 Tryz.underlying25 hi hz0 hz1 hz2 rfl (by decide) _ G.length (u8s G) rfl (own_below HGO.out (by go_grown)) ⟨wr.heap.size, 0, none⟩ 1 1 [.int .u8 (U8.v (u8 G.length))] rfl rfl ?c1 ?c2 ?c3 ?c4 ?c5 ?_)
            case c1 => intro j u hj; rcases j with _ | j <;> simp at hj; subst hj; simp [go_sem]
            case c2 => intro u hu; simp at hu; subst hu; rfl
            case c3 => unfold maxLen; omega
            case c4 => omega
            case c5 => have := hGb.size; simp; omega
            intro v5 w5 hown5 hgrow5 _
            have hbn : Below wq.heap.size wq w5 := (bt hGb (by go_grown)).grown hgrow5 (by have := hGb.size; simp; omega) (own_row HGO.out)
            have HON := Lib.hid hown5
            clear hown5 hgrow5
            go_wp2
            go_roundg g2
            case measure => exact Nat.lt_succ_self _
            case rel =>
              refine ⟨G ++ [u8 G.length], by have := HGL.out; simp; omega, ?_, hbn⟩
              have := HON.out; simpa [u8s] using this
          · have hlt2 : ¬ (G.length : Int) < 16 := by omega
            have hsl : SlIs wr (.slice vg G.length vh) G := own_sl HGO.out
            have hcapG : G.length ≤ vh := by rcases sl_cap hsl with h | h <;> omega
            obtain ⟨ga, rfl⟩ : ∃ ga, vg = some ga := by
              rcases hsl with ⟨a', c', e, h0⟩ | ⟨b', o', c', e, h1, h2, h3⟩
              · rw [h0] at hlt; simp at hlt
              · cases e; exact ⟨_, rfl⟩
            have hlenG : G.length ≤ 24 := by have := HGL.out; omega
            have hlg : Lg wr := HG.out.2.kept (bt HF.out.1 (bt hb hGb))
            have hr5 : blk wr w.heap.size = R.cells { r with halted := false } := blk_keep hGb hrs hr
            have hrs5 : w.heap.size < wr.heap.size := Nat.lt_of_lt_of_le hrs hGb.size
            obtain ⟨⟨c, s, d⟩, hx⟩ : ∃ x, nextF { r with halted := false } G = x := ⟨_, rfl⟩
            obtain ⟨⟨c3, s3, d3⟩, hx3⟩ : ∃ x, nextF { r with halted := false } (G.take 3) = x := ⟨_, rfl⟩
            have hl3 : (G.take 3).length ≤ 4611686018427387903 := by rw [List.length_take]; omega
            have K1 := Lib.hid (show ∀ W', Below wr.heap.size wr W' → Calls Tryz.prog 12 #[.agg (R.cells { r with halted := false }), .slice (some ga) G.length vh] W' (Told (c, s, d) W') from fun W' hW' => by
              rw [← hx]; exact nextW_ _ _ _ W' (hsl.kept hW') (hlg.kept hW'))
            have K2 := Lib.hid (show ∀ W', Below wr.heap.size wr W' → Calls Tryz.prog 13 #[.agg (R.cells { r with halted := false }), .slice (some ga) G.length vh] W' (Told (c, s, d) W') from fun W' hW' => by
              rw [← hx]; exact r12nextW_ _ _ _ W' (hsl.kept hW') (by omega))
            have K3 := Lib.hid (show ∀ W', Below wr.heap.size wr W' → Calls Tryz.prog 12 #[.agg (R.cells { r with halted := false }), .slice (some ga) 3 vh] W' (Told (c3, s3, d3) W') from fun W' hW' => by
              rw [← hx3]; exact nextW_ _ _ _ W' ((hsl.take 3 (by omega)).kept hW') (hlg.kept hW'))
            have K4 := Lib.hid (show ∀ W', Below wr.heap.size wr W' → Calls Tryz.prog 13 #[.agg (R.cells { r with halted := false }), .slice (some ga) 3 vh] W' (Told (c3, s3, d3) W') from fun W' hW' => by
              rw [← hx3]; exact r12nextW_ _ _ _ W' ((hsl.take 3 (by omega)).kept hW') hl3)
            have HB := Lib.hid (bt hb hGb)
            have hcap3 : (3 : Int) ≤ (vh : Int) := by omega
            have hcap3n : 3 ≤ vh := by omega
            clear hx hx3 hsl hlg hl3 hGb hr hcell
            go_wp2_with fail
            refine (K1.out _ (by go_grown)).mono ?_
            rintro e w2' ⟨rfl, hb2⟩
            have z2 : w.heap.size < w2'.heap.size := by have := hb2.size; omega
            have y2 : w.heap.size < w2'.heap.size + 1 := by omega
            have hr2 : blk w2' w.heap.size = R.cells { r with halted := false } := blk_keep hb2 hrs5 hr5
            have B2' : Below wr.heap.size wr w2' := hb2
            go_wp2_with fail
            refine (K2.out _ (bt B2' (by go_grown))).mono ?_
            rintro e w3' ⟨rfl, hb3⟩
            have s3' : w2'.heap.size + 2 ≤ w3'.heap.size := by have := hb3.size; simp only [World.size_alloc] at this; omega
            have kc : blk w3' w2'.heap.size = c.cells := blk_keep hb3 (by simp only [World.size_alloc]; omega) (by simp [go_sem])
            have ks : blk w3' (w2'.heap.size + 1) = s.cells := blk_keep hb3 (by simp only [World.size_alloc]; omega) (by simp [go_sem])
            have B3' : Below wr.heap.size wr w3' := bt B2' (bt (by go_grown) hb3)
            have l1 : w2'.heap.size < w3'.heap.size := by omega
            have l2 : w2'.heap.size + 1 < w3'.heap.size := by omega
            have l3 : w2'.heap.size < w3'.heap.size + 1 := by omega
            have l4 : w2'.heap.size + 1 < w3'.heap.size + 1 := by omega
            have q0 := eqC_refl c
            have q1 := eqR_refl s
            have B6 : Below wr.heap.size wr ((w3'.alloc (.cells c.cells 28)).alloc (.cells s.cells 24)) := bt B3' (by go_grown)
            clear hb2 hb3
            go_wp2_with fail
            obtain ⟨w6, hw6⟩ : ∃ w6, w6 = (w3'.alloc (.cells c.cells 28)).alloc (.cells s.cells 24) := ⟨_, rfl⟩
            rw [← hw6] at B6
            rw [← hw6]
            clear hw6 kc ks l1 l2 l3 l4 hr2 z2 y2 B2' B3'
            have hr6 : blk w6 w.heap.size = R.cells { r with halted := false } := blk_keep B6 hrs5 hr5
            have hs6 : w.heap.size < w6.heap.size := Nat.lt_of_lt_of_le hrs5 B6.size
            have q2 := eqC_refl c3
            have K5 := Lib.hid (show ∀ W', Below w6.heap.size w6 W' → Calls Tryz.prog 12 #[.agg (R.cells { r with halted := false }), .slice (some ga) 3 vh] W' (Told (c3, s3, d3) W') from fun W' h => K3.out W' (bt B6 h))
            have HSS := Lib.hid (show ∀ w', Below w6.heap.size w6 w' → blk w' w.heap.size = R.cells { r with halted := false } ∧ Below w6.heap.size w6 w' from fun w' h => ⟨blk_keep h hs6 hr6, h⟩)
            go_cut [17, 18, 19] (fun p q z wx => ∃ bc br, p = .pointer (some ⟨bc, 0, none⟩) ∧ q = .pointer (some ⟨br, 0, none⟩) ∧ z = .bool d3 ∧ blk wx bc = c3.cells ∧ blk wx br = s3.cells ∧ Below w6.heap.size w6 wx ∧ bc < wx.heap.size ∧ br < wx.heap.size)
            case first =>
              go_region_held3 (fun w' => blk w' w.heap.size = R.cells { r with halted := false } ∧ Below w6.heap.size w6 w')
                (((refine HSS.out _ ?_; repeat (first | assumption | exact Below.refl _ _ | refine below_put ?_ (by omega) | refine bl_alloc ?_ | refine bl_drew ?_))))
                ((first | (go_at_call 12; refine (K5.out _ (by go_grown)).mono ?_; rintro e w4 ⟨rfl, hb4⟩; (first | (obtain ⟨w5, rfl, hb5, i5, j5⟩ := after2 hb4; have k5 := i5.ne; have l5 := j5.ne) | (obtain ⟨w5, rfl, hb5, i5⟩ := after1 hb4; have k5 := i5.ne) | (obtain ⟨w5, rfl, hb5⟩ := after0 hb4)); clear hb4)))
              all_goals rename_i hh
              all_goals go_wp2_with fail
              all_goals go_meet
              all_goals
                refine ⟨_, _, rfl, rfl, rfl, ?_, ?_, hh.2, ?_, ?_⟩
                · simp [go_sem, *]
                · simp [go_sem, *]
                all_goals (have hs5 := hb5.size; first | omega | (simp; done) | (simp; omega) | (simp [put_size]; done) | (simp [put_size]; omega))
            case rest =>
              obtain ⟨bc, br, rfl, rfl, rfl, hbc, hbr, hbx, lc, lr⟩ := hcut
              have hrc : blk wc w.heap.size = R.cells { r with halted := false } := blk_keep hbx hs6 hr6
              have hcs : w.heap.size < wc.heap.size := Nat.lt_of_lt_of_le hs6 hbx.size
              have K6 := Lib.hid (show ∀ W', Below wc.heap.size wc W' → Calls Tryz.prog 13 #[.agg (R.cells { r with halted := false }), .slice (some ga) 3 vh] W' (Told (c3, s3, d3) W') from fun W' h => K4.out W' (bt B6 (bt hbx h)))
              have HSS2 := Lib.hid (show ∀ w', Below wc.heap.size wc w' → blk w' w.heap.size = R.cells { r with halted := false } ∧ Below wc.heap.size wc w' from fun w' h => ⟨blk_keep h hcs hrc, h⟩)
              have HBX := Lib.hid (And.intro (bt B6 hbx) (And.intro hbc hbr))
              clear K5 K4 K3 K2 K1 HSS hbx hbc hbr hr6 hs6 hr5
              generalize wc = wd at *
              go_wp2_with fail
              go_cut [20, 21, 22] (fun p q z wx => ∃ bc br, p = .pointer (some ⟨bc, 0, none⟩) ∧ q = .pointer (some ⟨br, 0, none⟩) ∧ z = .bool d3 ∧ blk wx bc = c3.cells ∧ blk wx br = s3.cells ∧ Below wd.heap.size wd wx ∧ bc < wx.heap.size ∧ br < wx.heap.size)
              case first =>
                go_region_held3 (fun w' => blk w' w.heap.size = R.cells { r with halted := false } ∧ Below wd.heap.size wd w')
                  (((refine HSS2.out _ ?_; repeat (first | assumption | exact Below.refl _ _ | refine below_put ?_ (by omega) | refine bl_alloc ?_ | refine bl_drew ?_))))
                  ((first | (go_at_call 13; refine (K6.out _ (by go_grown)).mono ?_; rintro e w4 ⟨rfl, hb4⟩; (first | (obtain ⟨w5, rfl, hb5, i5, j5⟩ := after2 hb4; have k5 := i5.ne; have l5 := j5.ne) | (obtain ⟨w5, rfl, hb5, i5⟩ := after1 hb4; have k5 := i5.ne) | (obtain ⟨w5, rfl, hb5⟩ := after0 hb4)); clear hb4)))
                all_goals rename_i hh
                all_goals go_wp2_with fail
                all_goals go_meet
                all_goals
                  refine ⟨_, _, rfl, rfl, rfl, ?_, ?_, hh.2, ?_, ?_⟩
                  · simp [go_sem, *]
                  · simp [go_sem, *]
                  all_goals (have hs5 := hb5.size; first | omega | (simp; done) | (simp; omega) | (simp [put_size]; done) | (simp [put_size]; omega))
              case rest =>
                obtain ⟨bd, be, rfl, rfl, rfl, hbd, hbe, hby, ld, le⟩ := hcut
                have hbc2 : blk wc bc = c3.cells := blk_keep hby lc HBX.out.2.1
                have BW : Below W0.heap.size W0 wc := bt HB.out (bt HBX.out.1 hby)
                go_wp2_with fail
                go_roundg g
                case measure => exact Nat.lt_succ_self _
                case rel => exact ⟨n + 1, by have := HN.out; omega, by go_num, BW⟩
      · have hl2 : ¬ (n : Int) < 256 := by omega
        go_wp2_with fail
        go_ret
        exact ⟨rfl, bt HF.out.1 hb⟩
end Go.Proofs.YtnaampdpkegacaaGreatDoor
