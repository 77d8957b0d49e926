/-
  The walk of NextTakes: next.Takes and the reference's tell the same. A helper of the claim that stands beside it.
-/
import Derived.Test.YtnaampdpkegacaaGreatDooropen
import Derived.Test.YtnaampdpkegacaaGreatDoorrta
namespace Go.Proofs.YtnaampdpkegacaaGreatDoor
open Go.RowKit
set_option maxHeartbeats 4000000 in
set_option maxRecDepth 20000 in
theorem takesAllW_ (r : R) (av : Value) (ans : List U8) (w : World) (hg : SlIs w av ans) (_hz : NilOk av) (hL : Lg w) : Calls Tryz.prog 6 #[.agg r.cells, av] w fun e w' => e = .returned (.bool true) ∧ Below w.heap.size w w' := by
  have HG := Lib.hid (And.intro hg hL)
  obtain ⟨aa, an, rfl⟩ := hg.slice'
  clear hg hL
  by_cases h60 : 60 < ans.length
  · go_enter Tryz.func6, Tryz.ntmps6
    go_wp2_with (first | (go_at_call 11; refine (awakeW_ _ (HG.out.2.kept (by go_grown))).mono ?_; rintro e w1 ⟨rfl, hb1⟩))
    go_ret
    exact ⟨rfl, bt (by go_grown) hb1⟩
  · obtain ⟨⟨n, m⟩, hx⟩ : ∃ x, takesF r ans = x := ⟨_, rfl⟩
    have HX := Lib.hid hx
    clear hx
    go_enter Tryz.func6, Tryz.ntmps6
    go_wp2_with (first | (go_at_call 11; refine (awakeW_ _ (HG.out.2.kept (by go_grown))).mono ?_; rintro e w1 ⟨rfl, hb1⟩; have hr1 : blk w1 w.heap.size = r.cells := blk_keep hb1 (by simp) (blk_alloc_at _ _ _ _ rfl)))
    have HB : Below w.heap.size w w1 := bt (by go_grown) hb1
    have hs1 : w.heap.size < w1.heap.size := by have := hb1.size; simp at this; omega
    clear hb1
    go_wp2_with fail
    refine (takesW_ r _ ans _ (HG.out.1.kept HB) (HG.out.2.kept HB)).mono ?_
    rw [HX.out]
    rintro e w2 ⟨rfl, hb2⟩
    have hr2 : blk w2 w.heap.size = r.cells := blk_keep hb2 hs1 hr1
    have B2 : Below w.heap.size w w2 := bt HB hb2
    have hs2 : w.heap.size < w2.heap.size := Nat.lt_of_lt_of_le hs1 hb2.size
    go_wp2_with fail
    refine (r12takesW_ r _ ans _ (HG.out.1.kept B2)).mono ?_
    rw [HX.out]
    rintro e w3 ⟨rfl, hb3⟩
    have B3 : Below w.heap.size w w3 := bt B2 hb3
    go_wp2
    go_ret
    exact ⟨by simp, B3⟩
end Go.Proofs.YtnaampdpkegacaaGreatDoor
