/-
  The walks of NextAsks and NextAfter: at each prefix of the answers next and the reference tell the same. A helper of the claims that stand beside it. (Printed by wip/genasks.py.)
-/
import Derived.Deep.DeepCutAuto
import Derived.Test.YtnaampdpkegacaaGreatDooropen
import Derived.Test.YtnaampdpkegacaaGreatDoorry
namespace Go.Proofs.YtnaampdpkegacaaGreatDoor
open Go.RowKit
def AskRel (w1 : World) (L : Nat) (g : Nat) (k : Value) (W : World) : Prop := ∃ n : Nat, n + g = L + 1 ∧ k = .int .i64 n ∧ Below w1.heap.size w1 W
theorem SlIs.cap {w : World} {a : Option Addr} {n c : Nat} {got : List U8} (h : SlIs w (.slice a n c) got) : n ≤ c ∨ (n = 0 ∧ got = []) := by
  rcases h with ⟨a', c', e, rfl⟩ | ⟨b', o', c', e, hc, hb, hj⟩
  · cases e; exact .inr ⟨rfl, rfl⟩
  · cases e; exact .inl hc
set_option maxHeartbeats 8000000 in
set_option maxRecDepth 20000 in
theorem asksW_ (r : R) (av : Value) (ans : List U8) (w : World) (hg : SlIs w av ans) (hz : NilOk av) (hL : Lg w) : Calls Tryz.prog 3 #[.agg r.cells, av] w fun e w' => e = .returned (.bool true) ∧ Below w.heap.size w w' := by
  have HG := Lib.hid (And.intro hg hL)
  obtain ⟨aa, an, rfl⟩ := hg.slice'
  by_cases hlim : 100 < ans.length
  · clear hg hL hz
    go_enter Tryz.func3, Tryz.ntmps3
    go_wp2_with (first | (go_at_call 11; refine (awakeW_ _ (HG.out.2.kept (by go_grown))).mono ?_; rintro e w1 ⟨rfl, hb1⟩))
    go_ret
    exact ⟨rfl, bt (by go_grown) hb1⟩
  · have hcap : ans.length ≤ an := by rcases hg.cap with h | ⟨h, _⟩ <;> omega
    clear hg hL hz
    go_enter Tryz.func3, Tryz.ntmps3
    go_wp2_with (first | (go_at_call 11; refine (awakeW_ _ (HG.out.2.kept (by go_grown))).mono ?_; rintro e w1 ⟨rfl, hb1⟩))
    have HB : Below w.heap.size w w1 := bt (by go_grown) hb1
    have hr1 : blk w1 w.heap.size = r.cells := blk_keep hb1 (by simp) (blk_alloc_at _ _ _ _ rfl)
    have hs1 : w.heap.size < w1.heap.size := by have := hb1.size; simp at this; omega
    have HR := Lib.hid hr1
    clear hb1 hr1
    go_loopg [6] (ans.length + 1) (fun g k W => AskRel w1 ans.length g k W)
    case atStart => exact ⟨0, by omega, rfl, Below.refl _ _⟩
    case round =>
      obtain ⟨n, hn, rfl, hb⟩ := hrel
      have HN := Lib.hid hn
      clear hn
      have hr : blk wr w.heap.size = r.cells := blk_keep hb hs1 HR.out
      have hrs : w.heap.size < wr.heap.size := Nat.lt_of_lt_of_le hs1 hb.size
      by_cases hl : n ≤ ans.length
      · obtain ⟨g, rfl⟩ : ∃ g', gk = g' + 1 := ⟨gk - 1, by have := HN.out; omega⟩
        have hsl : SlIs wr (.slice aa ans.length an) ans := HG.out.1.kept (bt HB hb)
        have hlg : Lg wr := HG.out.2.kept (bt HB hb)
        have hlen : (ans.take n).length ≤ 4611686018427387903 := by rw [List.length_take]; omega
        obtain ⟨⟨c, s, d⟩, hx⟩ : ∃ x, nextF r (ans.take n) = x := ⟨_, rfl⟩
        have HX : ∀ W', Below wr.heap.size wr W' → Calls Tryz.prog 12 #[.agg r.cells, .slice aa n an] W' (Told (c, s, d) W') := fun W' hW' => by
          rw [← hx]; exact nextW_ r _ _ W' ((hsl.take n hl).kept hW') (hlg.kept hW')
        have HY : ∀ W', Below wr.heap.size wr W' → Calls Tryz.prog 13 #[.agg r.cells, .slice aa n an] W' (Told (c, s, d) W') := fun W' hW' => by
          rw [← hx]; exact r12nextW_ r _ _ W' ((hsl.take n hl).kept hW') hlen
        have K1 := Lib.hid HX
        have K2 := Lib.hid HY
        clear HX HY hx hsl hlg hlen
        have hn0 : (0 : Int) ≤ (n : Int) := by omega
        have hn1 : (n : Int) ≤ (ans.length : Int) := by omega
        have hn2 : (n : Int) ≤ (an : Int) := by omega
        have hn3 : n ≤ an := by omega
        have q0 := eqC_refl c
        have q1 := eqR_refl s
        have HSS := Lib.hid (show ∀ w', Below wr.heap.size wr w' → blk w' w.heap.size = r.cells ∧ Below wr.heap.size wr w' from fun w' h => ⟨blk_keep h hrs hr, h⟩)
        cases aa with
        | none =>
          go_wp2_with fail
          go_cut [7, 8, 9] (fun p q z wx => ∃ bc br, p = .pointer (some ⟨bc, 0, none⟩) ∧ q = .pointer (some ⟨br, 0, none⟩) ∧ z = .bool d ∧ blk wx bc = c.cells ∧ blk wx br = s.cells ∧ Below wr.heap.size wr wx ∧ bc < wx.heap.size ∧ br < wx.heap.size)
          case first =>
            go_region_held3 (fun w' => blk w' w.heap.size = r.cells ∧ Below wr.heap.size wr w')
              (((refine HSS.out _ ?_; repeat (first | assumption | exact Below.refl _ _ | refine below_put ?_ (by omega) | refine bl_alloc ?_ | refine bl_drew ?_))))
              ((first | (go_at_call 12; refine (K1.out _ (by go_grown)).mono ?_; rintro e w4 ⟨rfl, hb4⟩; (first | (obtain ⟨w5, rfl, hb5, i5, j5⟩ := after2 hb4; have k5 := i5.ne; have l5 := j5.ne) | (obtain ⟨w5, rfl, hb5, i5⟩ := after1 hb4; have k5 := i5.ne) | (obtain ⟨w5, rfl, hb5⟩ := after0 hb4)); clear hb4)))
            all_goals rename_i hh
            all_goals go_wp2_with fail
            all_goals go_meet
            all_goals
              refine ⟨_, _, rfl, rfl, rfl, ?_, ?_, hh.2, ?_, ?_⟩
              · simp [go_sem, *]
              · simp [go_sem, *]
              all_goals (have hs5 := hb5.size; first | omega | (simp; done) | (simp; omega) | (simp [put_size]; done) | (simp [put_size]; omega))
          case rest =>
            obtain ⟨bc, br, rfl, rfl, rfl, hbc, hbr, hbx, lc, lr⟩ := hcut
            have hrc : blk wc w.heap.size = r.cells := blk_keep hbx hrs hr
            have hcs : w.heap.size < wc.heap.size := Nat.lt_of_lt_of_le hrs hbx.size
            have K3 := Lib.hid (show ∀ W', Below wc.heap.size wc W' → Calls Tryz.prog 13 #[.agg r.cells, .slice none n an] W' (Told (c, s, d) W') from fun W' h => K2.out W' (bt hbx h))
            have HSS2 := Lib.hid (show ∀ w', Below wc.heap.size wc w' → blk w' w.heap.size = r.cells ∧ Below wc.heap.size wc w' from fun w' h => ⟨blk_keep h hcs hrc, h⟩)
            have HBX := Lib.hid (And.intro hbx (And.intro hbc hbr))
            clear K1 K2 HSS hbx hbc hbr hr
            generalize wc = wd at *
            go_wp2_with fail
            go_cut [10, 11, 12] (fun p q z wx => ∃ bd be, p = .pointer (some ⟨bd, 0, none⟩) ∧ q = .pointer (some ⟨be, 0, none⟩) ∧ z = .bool d ∧ blk wx bd = c.cells ∧ blk wx be = s.cells ∧ Below wd.heap.size wd wx ∧ bd < wx.heap.size ∧ be < wx.heap.size)
            case first =>
              go_region_held3 (fun w' => blk w' w.heap.size = r.cells ∧ Below wd.heap.size wd w')
                (((refine HSS2.out _ ?_; repeat (first | assumption | exact Below.refl _ _ | refine below_put ?_ (by omega) | refine bl_alloc ?_ | refine bl_drew ?_))))
                ((first | (go_at_call 13; refine (K3.out _ (by go_grown)).mono ?_; rintro e w4 ⟨rfl, hb4⟩; (first | (obtain ⟨w5, rfl, hb5, i5, j5⟩ := after2 hb4; have k5 := i5.ne; have l5 := j5.ne) | (obtain ⟨w5, rfl, hb5, i5⟩ := after1 hb4; have k5 := i5.ne) | (obtain ⟨w5, rfl, hb5⟩ := after0 hb4)); clear hb4)))
              all_goals rename_i hh
              all_goals go_wp2_with fail
              all_goals go_meet
              all_goals
                refine ⟨_, _, rfl, rfl, rfl, ?_, ?_, hh.2, ?_, ?_⟩
                · simp [go_sem, *]
                · simp [go_sem, *]
                all_goals (have hs5 := hb5.size; first | omega | (simp; done) | (simp; omega) | (simp [put_size]; done) | (simp [put_size]; omega))
            case rest =>
              obtain ⟨bd, be, rfl, rfl, rfl, hbd, hbe, hby, ld, le⟩ := hcut
              have hbc2 : blk wc bc = c.cells := blk_keep hby lc HBX.out.2.1
              have hbr2 : blk wc br = s.cells := blk_keep hby lr HBX.out.2.2
              have BW : Below w1.heap.size w1 wc := bt hb (bt HBX.out.1 hby)
              go_wp2_with fail
              go_roundg g
              case measure => exact Nat.lt_succ_self _
              case rel => exact ⟨n + 1, by have := HN.out; omega, by go_num, BW⟩
        | some ad =>
          go_wp2_with fail
          go_cut [7, 8, 9] (fun p q z wx => ∃ bc br, p = .pointer (some ⟨bc, 0, none⟩) ∧ q = .pointer (some ⟨br, 0, none⟩) ∧ z = .bool d ∧ blk wx bc = c.cells ∧ blk wx br = s.cells ∧ Below wr.heap.size wr wx ∧ bc < wx.heap.size ∧ br < wx.heap.size)
          case first =>
            go_region_held3 (fun w' => blk w' w.heap.size = r.cells ∧ Below wr.heap.size wr w')
              (((refine HSS.out _ ?_; repeat (first | assumption | exact Below.refl _ _ | refine below_put ?_ (by omega) | refine bl_alloc ?_ | refine bl_drew ?_))))
              ((first | (go_at_call 12; refine (K1.out _ (by go_grown)).mono ?_; rintro e w4 ⟨rfl, hb4⟩; (first | (obtain ⟨w5, rfl, hb5, i5, j5⟩ := after2 hb4; have k5 := i5.ne; have l5 := j5.ne) | (obtain ⟨w5, rfl, hb5, i5⟩ := after1 hb4; have k5 := i5.ne) | (obtain ⟨w5, rfl, hb5⟩ := after0 hb4)); clear hb4)))
            all_goals rename_i hh
            all_goals go_wp2_with fail
            all_goals go_meet
            all_goals
              refine ⟨_, _, rfl, rfl, rfl, ?_, ?_, hh.2, ?_, ?_⟩
              · simp [go_sem, *]
              · simp [go_sem, *]
              all_goals (have hs5 := hb5.size; first | omega | (simp; done) | (simp; omega) | (simp [put_size]; done) | (simp [put_size]; omega))
          case rest =>
            obtain ⟨bc, br, rfl, rfl, rfl, hbc, hbr, hbx, lc, lr⟩ := hcut
            have hrc : blk wc w.heap.size = r.cells := blk_keep hbx hrs hr
            have hcs : w.heap.size < wc.heap.size := Nat.lt_of_lt_of_le hrs hbx.size
            have K3 := Lib.hid (show ∀ W', Below wc.heap.size wc W' → Calls Tryz.prog 13 #[.agg r.cells, .slice (some ad) n an] W' (Told (c, s, d) W') from fun W' h => K2.out W' (bt hbx h))
            have HSS2 := Lib.hid (show ∀ w', Below wc.heap.size wc w' → blk w' w.heap.size = r.cells ∧ Below wc.heap.size wc w' from fun w' h => ⟨blk_keep h hcs hrc, h⟩)
            have HBX := Lib.hid (And.intro hbx (And.intro hbc hbr))
            clear K1 K2 HSS hbx hbc hbr hr
            generalize wc = wd at *
            go_wp2_with fail
            go_cut [10, 11, 12] (fun p q z wx => ∃ bd be, p = .pointer (some ⟨bd, 0, none⟩) ∧ q = .pointer (some ⟨be, 0, none⟩) ∧ z = .bool d ∧ blk wx bd = c.cells ∧ blk wx be = s.cells ∧ Below wd.heap.size wd wx ∧ bd < wx.heap.size ∧ be < wx.heap.size)
            case first =>
              go_region_held3 (fun w' => blk w' w.heap.size = r.cells ∧ Below wd.heap.size wd w')
                (((refine HSS2.out _ ?_; repeat (first | assumption | exact Below.refl _ _ | refine below_put ?_ (by omega) | refine bl_alloc ?_ | refine bl_drew ?_))))
                ((first | (go_at_call 13; refine (K3.out _ (by go_grown)).mono ?_; rintro e w4 ⟨rfl, hb4⟩; (first | (obtain ⟨w5, rfl, hb5, i5, j5⟩ := after2 hb4; have k5 := i5.ne; have l5 := j5.ne) | (obtain ⟨w5, rfl, hb5, i5⟩ := after1 hb4; have k5 := i5.ne) | (obtain ⟨w5, rfl, hb5⟩ := after0 hb4)); clear hb4)))
              all_goals rename_i hh
              all_goals go_wp2_with fail
              all_goals go_meet
              all_goals
                refine ⟨_, _, rfl, rfl, rfl, ?_, ?_, hh.2, ?_, ?_⟩
                · simp [go_sem, *]
                · simp [go_sem, *]
                all_goals (have hs5 := hb5.size; first | omega | (simp; done) | (simp; omega) | (simp [put_size]; done) | (simp [put_size]; omega))
            case rest =>
              obtain ⟨bd, be, rfl, rfl, rfl, hbd, hbe, hby, ld, le⟩ := hcut
              have hbc2 : blk wc bc = c.cells := blk_keep hby lc HBX.out.2.1
              have hbr2 : blk wc br = s.cells := blk_keep hby lr HBX.out.2.2
              have BW : Below w1.heap.size w1 wc := bt hb (bt HBX.out.1 hby)
              go_wp2_with fail
              go_roundg g
              case measure => exact Nat.lt_succ_self _
              case rel => exact ⟨n + 1, by have := HN.out; omega, by go_num, BW⟩
      · have hb31 : ¬ (n : Int) ≤ (ans.length : Int) := by omega
        go_wp2_with fail
        go_ret
        exact ⟨rfl, bt HB hb⟩
set_option maxHeartbeats 8000000 in
set_option maxRecDepth 20000 in
theorem afterAllW_ (r : R) (b : U8) (av : Value) (ans : List U8) (w : World) (hg : SlIs w av ans) (hz : NilOk av) (hL : Lg w) : Calls Tryz.prog 4 #[.agg r.cells, .int .u8 b.v, av] w fun e w' => e = .returned (.bool true) ∧ Below w.heap.size w w' := by
  have HG := Lib.hid (And.intro hg hL)
  obtain ⟨aa, an, rfl⟩ := hg.slice'
  by_cases hlim : 60 < ans.length
  · clear hg hL hz
    go_enter Tryz.func4, Tryz.ntmps4
    go_wp2_with (first | (go_at_call 11; refine (awakeW_ _ (HG.out.2.kept (by go_grown))).mono ?_; rintro e w1 ⟨rfl, hb1⟩))
    go_ret
    exact ⟨rfl, bt (by go_grown) hb1⟩
  · have hcap : ans.length ≤ an := by rcases hg.cap with h | ⟨h, _⟩ <;> omega
    clear hg hL hz
    go_enter Tryz.func4, Tryz.ntmps4
    go_wp2_with (first | (go_at_call 11; refine (awakeW_ _ (HG.out.2.kept (by go_grown))).mono ?_; rintro e w1 ⟨rfl, hb1⟩))
    have HB : Below w.heap.size w w1 := bt (by go_grown) hb1
    have hr1 : blk w1 w.heap.size = r.cells := blk_keep hb1 (by simp) (blk_alloc_at _ _ _ _ rfl)
    have hs1 : w.heap.size < w1.heap.size := by have := hb1.size; simp at this; omega
    have HR := Lib.hid hr1
    clear hb1 hr1
    go_loopg [8] (ans.length + 1) (fun g k W => AskRel w1 ans.length g k W)
    case atStart => exact ⟨0, by omega, rfl, Below.refl _ _⟩
    case round =>
      obtain ⟨n, hn, rfl, hb⟩ := hrel
      have HN := Lib.hid hn
      clear hn
      have hr : blk wr w.heap.size = r.cells := blk_keep hb hs1 HR.out
      have hrs : w.heap.size < wr.heap.size := Nat.lt_of_lt_of_le hs1 hb.size
      by_cases hl : n ≤ ans.length
      · obtain ⟨g, rfl⟩ : ∃ g', gk = g' + 1 := ⟨gk - 1, by have := HN.out; omega⟩
        have hsl : SlIs wr (.slice aa ans.length an) ans := HG.out.1.kept (bt HB hb)
        have hlg : Lg wr := HG.out.2.kept (bt HB hb)
        have hlen : (ans.take n).length ≤ 4611686018427387903 := by rw [List.length_take]; omega
        obtain ⟨⟨c, s, d⟩, hx⟩ : ∃ x, afterF r b (ans.take n) = x := ⟨_, rfl⟩
        have HX : ∀ W', Below wr.heap.size wr W' → Calls Tryz.prog 14 #[.agg r.cells, .int .u8 b.v, .slice aa n an] W' (Told (c, s, d) W') := fun W' hW' => by
          rw [← hx]; exact afterW_ r b _ _ W' ((hsl.take n hl).kept hW') (hlg.kept hW')
        have HY : ∀ W', Below wr.heap.size wr W' → Calls Tryz.prog 15 #[.agg r.cells, .int .u8 b.v, .slice aa n an] W' (Told (c, s, d) W') := fun W' hW' => by
          rw [← hx]; exact r12afterW_ r b _ _ W' ((hsl.take n hl).kept hW') hlen
        have K1 := Lib.hid HX
        have K2 := Lib.hid HY
        clear HX HY hx hsl hlg hlen
        have hn0 : (0 : Int) ≤ (n : Int) := by omega
        have hn1 : (n : Int) ≤ (ans.length : Int) := by omega
        have hn2 : (n : Int) ≤ (an : Int) := by omega
        have hn3 : n ≤ an := by omega
        have q0 := eqC_refl c
        have q1 := eqR_refl s
        have HSS := Lib.hid (show ∀ w', Below wr.heap.size wr w' → blk w' w.heap.size = r.cells ∧ Below wr.heap.size wr w' from fun w' h => ⟨blk_keep h hrs hr, h⟩)
        cases aa with
        | none =>
          go_wp2_with fail
          go_cut [9, 10, 11] (fun p q z wx => ∃ bc br, p = .pointer (some ⟨bc, 0, none⟩) ∧ q = .pointer (some ⟨br, 0, none⟩) ∧ z = .bool d ∧ blk wx bc = c.cells ∧ blk wx br = s.cells ∧ Below wr.heap.size wr wx ∧ bc < wx.heap.size ∧ br < wx.heap.size)
          case first =>
            go_region_held3 (fun w' => blk w' w.heap.size = r.cells ∧ Below wr.heap.size wr w')
              (((refine HSS.out _ ?_; repeat (first | assumption | exact Below.refl _ _ | refine below_put ?_ (by omega) | refine bl_alloc ?_ | refine bl_drew ?_))))
              ((first | (go_at_call 14; refine (K1.out _ (by go_grown)).mono ?_; rintro e w4 ⟨rfl, hb4⟩; (first | (obtain ⟨w5, rfl, hb5, i5, j5⟩ := after2 hb4; have k5 := i5.ne; have l5 := j5.ne) | (obtain ⟨w5, rfl, hb5, i5⟩ := after1 hb4; have k5 := i5.ne) | (obtain ⟨w5, rfl, hb5⟩ := after0 hb4)); clear hb4)))
            all_goals rename_i hh
            all_goals go_wp2_with fail
            all_goals go_meet
            all_goals
              refine ⟨_, _, rfl, rfl, rfl, ?_, ?_, hh.2, ?_, ?_⟩
              · simp [go_sem, *]
              · simp [go_sem, *]
              all_goals (have hs5 := hb5.size; first | omega | (simp; done) | (simp; omega) | (simp [put_size]; done) | (simp [put_size]; omega))
          case rest =>
            obtain ⟨bc, br, rfl, rfl, rfl, hbc, hbr, hbx, lc, lr⟩ := hcut
            have hrc : blk wc w.heap.size = r.cells := blk_keep hbx hrs hr
            have hcs : w.heap.size < wc.heap.size := Nat.lt_of_lt_of_le hrs hbx.size
            have K3 := Lib.hid (show ∀ W', Below wc.heap.size wc W' → Calls Tryz.prog 15 #[.agg r.cells, .int .u8 b.v, .slice none n an] W' (Told (c, s, d) W') from fun W' h => K2.out W' (bt hbx h))
            have HSS2 := Lib.hid (show ∀ w', Below wc.heap.size wc w' → blk w' w.heap.size = r.cells ∧ Below wc.heap.size wc w' from fun w' h => ⟨blk_keep h hcs hrc, h⟩)
            have HBX := Lib.hid (And.intro hbx (And.intro hbc hbr))
            clear K1 K2 HSS hbx hbc hbr hr
            generalize wc = wd at *
            go_wp2_with fail
            go_cut [12, 13, 14] (fun p q z wx => ∃ bd be, p = .pointer (some ⟨bd, 0, none⟩) ∧ q = .pointer (some ⟨be, 0, none⟩) ∧ z = .bool d ∧ blk wx bd = c.cells ∧ blk wx be = s.cells ∧ Below wd.heap.size wd wx ∧ bd < wx.heap.size ∧ be < wx.heap.size)
            case first =>
              go_region_held3 (fun w' => blk w' w.heap.size = r.cells ∧ Below wd.heap.size wd w')
                (((refine HSS2.out _ ?_; repeat (first | assumption | exact Below.refl _ _ | refine below_put ?_ (by omega) | refine bl_alloc ?_ | refine bl_drew ?_))))
                ((first | (go_at_call 15; refine (K3.out _ (by go_grown)).mono ?_; rintro e w4 ⟨rfl, hb4⟩; (first | (obtain ⟨w5, rfl, hb5, i5, j5⟩ := after2 hb4; have k5 := i5.ne; have l5 := j5.ne) | (obtain ⟨w5, rfl, hb5, i5⟩ := after1 hb4; have k5 := i5.ne) | (obtain ⟨w5, rfl, hb5⟩ := after0 hb4)); clear hb4)))
              all_goals rename_i hh
              all_goals go_wp2_with fail
              all_goals go_meet
              all_goals
                refine ⟨_, _, rfl, rfl, rfl, ?_, ?_, hh.2, ?_, ?_⟩
                · simp [go_sem, *]
                · simp [go_sem, *]
                all_goals (have hs5 := hb5.size; first | omega | (simp; done) | (simp; omega) | (simp [put_size]; done) | (simp [put_size]; omega))
            case rest =>
              obtain ⟨bd, be, rfl, rfl, rfl, hbd, hbe, hby, ld, le⟩ := hcut
              have hbc2 : blk wc bc = c.cells := blk_keep hby lc HBX.out.2.1
              have hbr2 : blk wc br = s.cells := blk_keep hby lr HBX.out.2.2
              have BW : Below w1.heap.size w1 wc := bt hb (bt HBX.out.1 hby)
              go_wp2_with fail
              go_roundg g
              case measure => exact Nat.lt_succ_self _
              case rel => exact ⟨n + 1, by have := HN.out; omega, by go_num, BW⟩
        | some ad =>
          go_wp2_with fail
          go_cut [9, 10, 11] (fun p q z wx => ∃ bc br, p = .pointer (some ⟨bc, 0, none⟩) ∧ q = .pointer (some ⟨br, 0, none⟩) ∧ z = .bool d ∧ blk wx bc = c.cells ∧ blk wx br = s.cells ∧ Below wr.heap.size wr wx ∧ bc < wx.heap.size ∧ br < wx.heap.size)
          case first =>
            go_region_held3 (fun w' => blk w' w.heap.size = r.cells ∧ Below wr.heap.size wr w')
              (((refine HSS.out _ ?_; repeat (first | assumption | exact Below.refl _ _ | refine below_put ?_ (by omega) | refine bl_alloc ?_ | refine bl_drew ?_))))
              ((first | (go_at_call 14; refine (K1.out _ (by go_grown)).mono ?_; rintro e w4 ⟨rfl, hb4⟩; (first | (obtain ⟨w5, rfl, hb5, i5, j5⟩ := after2 hb4; have k5 := i5.ne; have l5 := j5.ne) | (obtain ⟨w5, rfl, hb5, i5⟩ := after1 hb4; have k5 := i5.ne) | (obtain ⟨w5, rfl, hb5⟩ := after0 hb4)); clear hb4)))
            all_goals rename_i hh
            all_goals go_wp2_with fail
            all_goals go_meet
            all_goals
              refine ⟨_, _, rfl, rfl, rfl, ?_, ?_, hh.2, ?_, ?_⟩
              · simp [go_sem, *]
              · simp [go_sem, *]
              all_goals (have hs5 := hb5.size; first | omega | (simp; done) | (simp; omega) | (simp [put_size]; done) | (simp [put_size]; omega))
          case rest =>
            obtain ⟨bc, br, rfl, rfl, rfl, hbc, hbr, hbx, lc, lr⟩ := hcut
            have hrc : blk wc w.heap.size = r.cells := blk_keep hbx hrs hr
            have hcs : w.heap.size < wc.heap.size := Nat.lt_of_lt_of_le hrs hbx.size
            have K3 := Lib.hid (show ∀ W', Below wc.heap.size wc W' → Calls Tryz.prog 15 #[.agg r.cells, .int .u8 b.v, .slice (some ad) n an] W' (Told (c, s, d) W') from fun W' h => K2.out W' (bt hbx h))
            have HSS2 := Lib.hid (show ∀ w', Below wc.heap.size wc w' → blk w' w.heap.size = r.cells ∧ Below wc.heap.size wc w' from fun w' h => ⟨blk_keep h hcs hrc, h⟩)
            have HBX := Lib.hid (And.intro hbx (And.intro hbc hbr))
            clear K1 K2 HSS hbx hbc hbr hr
            generalize wc = wd at *
            go_wp2_with fail
            go_cut [12, 13, 14] (fun p q z wx => ∃ bd be, p = .pointer (some ⟨bd, 0, none⟩) ∧ q = .pointer (some ⟨be, 0, none⟩) ∧ z = .bool d ∧ blk wx bd = c.cells ∧ blk wx be = s.cells ∧ Below wd.heap.size wd wx ∧ bd < wx.heap.size ∧ be < wx.heap.size)
            case first =>
              go_region_held3 (fun w' => blk w' w.heap.size = r.cells ∧ Below wd.heap.size wd w')
                (((refine HSS2.out _ ?_; repeat (first | assumption | exact Below.refl _ _ | refine below_put ?_ (by omega) | refine bl_alloc ?_ | refine bl_drew ?_))))
                ((first | (go_at_call 15; refine (K3.out _ (by go_grown)).mono ?_; rintro e w4 ⟨rfl, hb4⟩; (first | (obtain ⟨w5, rfl, hb5, i5, j5⟩ := after2 hb4; have k5 := i5.ne; have l5 := j5.ne) | (obtain ⟨w5, rfl, hb5, i5⟩ := after1 hb4; have k5 := i5.ne) | (obtain ⟨w5, rfl, hb5⟩ := after0 hb4)); clear hb4)))
              all_goals rename_i hh
              all_goals go_wp2_with fail
              all_goals go_meet
              all_goals
                refine ⟨_, _, rfl, rfl, rfl, ?_, ?_, hh.2, ?_, ?_⟩
                · simp [go_sem, *]
                · simp [go_sem, *]
                all_goals (have hs5 := hb5.size; first | omega | (simp; done) | (simp; omega) | (simp [put_size]; done) | (simp [put_size]; omega))
            case rest =>
              obtain ⟨bd, be, rfl, rfl, rfl, hbd, hbe, hby, ld, le⟩ := hcut
              have hbc2 : blk wc bc = c.cells := blk_keep hby lc HBX.out.2.1
              have hbr2 : blk wc br = s.cells := blk_keep hby lr HBX.out.2.2
              have BW : Below w1.heap.size w1 wc := bt hb (bt HBX.out.1 hby)
              go_wp2_with fail
              go_roundg g
              case measure => exact Nat.lt_succ_self _
              case rel => exact ⟨n + 1, by have := HN.out; omega, by go_num, BW⟩
      · have hb31 : ¬ (n : Int) ≤ (ans.length : Int) := by omega
        go_wp2_with fail
        go_ret
        exact ⟨rfl, bt HB hb⟩
end Go.Proofs.YtnaampdpkegacaaGreatDoor
