/-
  Contract of the reference 12's plain. A helper of the claims that stand beside it. (Printed by wip/genrs.py.)
-/
import Derived.Test.YtnaampdpkegacaaGreatDoorrq
import Derived.Test.YtnaampdpkegacaaGreatDoorrr
namespace Go.Proofs.YtnaampdpkegacaaGreatDoor
open Go.RowKit

set_option maxHeartbeats 6000000 in
set_option maxRecDepth 20000 in
theorem plain_0Q_ (B : Nat) (plane : Int) (c : U8) (s : QS) (w : World) (hI : QInv B w s.gv s.got) (hx : fx c = 0) : Calls Tryz.prog 59 #[.pointer (some ⟨B, 0, none⟩), .int .i64 plane, .int .u8 c.v] (put w B s.cells) (QPost B w eU (runQ (plainQ plane c) s)) := by
  have hi := hI.inb
  have hb0 := Below.refl w.heap.size w
  have y0 : 0 ≤ fy c := by unfold fy; omega
  have y1 : fy c ≤ 7 := by unfold fy; omega
  have z0 : 0 ≤ fz c := by unfold fz; omega
  have z1 : fz c ≤ 7 := by unfold fz; omega
  have hne := hi.ne
  go_enter Tryz.func59, Tryz.ntmps59
  all_goals (try go_wp2_with (first | (go_at_call 36; refine (p8Fields_ _ _).mono ?_; rintro e w1 ⟨rfl, rfl⟩) | (go_at_call 117; refine (lowQ_ B _ _ _ _ _ _ (by assumption) (by omega) (by omega)).mono (QPost.thru hb0 (fun v s1 w1 hq hb0 hI hi => ?_)))))
  all_goals first
    | (refine bodyPost_end (results_none rfl _ _ _) rfl (QPost.done (v := ()) ?_ rfl hb0 hI); simp [plainQ, *]; done)
    | (refine bodyPost_ret (results_none rfl _ _ _) rfl (QPost.done (v := ()) ?_ rfl hb0 hI); simp [plainQ, QC.hl', *]; done)
set_option maxHeartbeats 6000000 in
set_option maxRecDepth 20000 in
theorem plain_1Q_ (B : Nat) (plane : Int) (c : U8) (s : QS) (w : World) (hI : QInv B w s.gv s.got) (hx : fx c = 1) (hy : fy c = 6) (hz : fz c = 6) : Calls Tryz.prog 59 #[.pointer (some ⟨B, 0, none⟩), .int .i64 plane, .int .u8 c.v] (put w B s.cells) (QPost B w eU (runQ (plainQ plane c) s)) := by
  have hi := hI.inb
  have hb0 := Below.refl w.heap.size w
  have y0 : 0 ≤ fy c := by unfold fy; omega
  have y1 : fy c ≤ 7 := by unfold fy; omega
  have z0 : 0 ≤ fz c := by unfold fz; omega
  have z1 : fz c ≤ 7 := by unfold fz; omega
  have hne := hi.ne
  go_enter Tryz.func59, Tryz.ntmps59
  all_goals (try go_wp2_with (first | (go_at_call 36; refine (p8Fields_ _ _).mono ?_; rintro e w1 ⟨rfl, rfl⟩)))
  all_goals first
    | (refine bodyPost_end (results_none rfl _ _ _) rfl (QPost.done (v := ()) ?_ rfl hb0 hI); simp [plainQ, *]; done)
    | (refine bodyPost_ret (results_none rfl _ _ _) rfl (QPost.done (v := ()) ?_ rfl hb0 hI); simp [plainQ, QC.hl', *]; done)
set_option maxHeartbeats 6000000 in
set_option maxRecDepth 20000 in
theorem plain_2Q_ (B : Nat) (plane : Int) (c : U8) (s : QS) (w : World) (hI : QInv B w s.gv s.got) (hx : fx c = 1) (hy : fy c = 6) (hz : ¬ fz c = 6) : Calls Tryz.prog 59 #[.pointer (some ⟨B, 0, none⟩), .int .i64 plane, .int .u8 c.v] (put w B s.cells) (QPost B w eU (runQ (plainQ plane c) s)) := by
  have hi := hI.inb
  have hb0 := Below.refl w.heap.size w
  have y0 : 0 ≤ fy c := by unfold fy; omega
  have y1 : fy c ≤ 7 := by unfold fy; omega
  have z0 : 0 ≤ fz c := by unfold fz; omega
  have z1 : fz c ≤ 7 := by unfold fz; omega
  have hne := hi.ne
  go_enter Tryz.func59, Tryz.ntmps59
  all_goals (try go_wp2_with (first | (go_at_call 36; refine (p8Fields_ _ _).mono ?_; rintro e w1 ⟨rfl, rfl⟩) | (go_at_call 102; refine (getQ_ B _ _ _ (by assumption)).mono (QPost.thru hb0 (fun v s1 w1 hq hb0 hI hi => ?_))) | (go_at_call 101; refine (setQ_ B _ _ _ _ (by assumption)).mono (QPost.thru hb0 (fun v s1 w1 hq hb0 hI hi => ?_)))))
  all_goals first
    | (refine bodyPost_end (results_none rfl _ _ _) rfl (QPost.done (v := ()) ?_ rfl hb0 hI); simp [plainQ, *]; done)
    | (refine bodyPost_ret (results_none rfl _ _ _) rfl (QPost.done (v := ()) ?_ rfl hb0 hI); simp [plainQ, QC.hl', *]; done)
set_option maxHeartbeats 6000000 in
set_option maxRecDepth 20000 in
theorem plain_3Q_ (B : Nat) (plane : Int) (c : U8) (s : QS) (w : World) (hI : QInv B w s.gv s.got) (hx : fx c = 1) (hy : ¬ fy c = 6) : Calls Tryz.prog 59 #[.pointer (some ⟨B, 0, none⟩), .int .i64 plane, .int .u8 c.v] (put w B s.cells) (QPost B w eU (runQ (plainQ plane c) s)) := by
  have hi := hI.inb
  have hb0 := Below.refl w.heap.size w
  have y0 : 0 ≤ fy c := by unfold fy; omega
  have y1 : fy c ≤ 7 := by unfold fy; omega
  have z0 : 0 ≤ fz c := by unfold fz; omega
  have z1 : fz c ≤ 7 := by unfold fz; omega
  have hne := hi.ne
  go_enter Tryz.func59, Tryz.ntmps59
  all_goals (try go_wp2_with (first | (go_at_call 36; refine (p8Fields_ _ _).mono ?_; rintro e w1 ⟨rfl, rfl⟩) | (go_at_call 102; refine (getQ_ B _ _ _ (by assumption)).mono (QPost.thru hb0 (fun v s1 w1 hq hb0 hI hi => ?_))) | (go_at_call 101; refine (setQ_ B _ _ _ _ (by assumption)).mono (QPost.thru hb0 (fun v s1 w1 hq hb0 hI hi => ?_)))))
  all_goals first
    | (refine bodyPost_end (results_none rfl _ _ _) rfl (QPost.done (v := ()) ?_ rfl hb0 hI); simp [plainQ, *]; done)
    | (refine bodyPost_ret (results_none rfl _ _ _) rfl (QPost.done (v := ()) ?_ rfl hb0 hI); simp [plainQ, QC.hl', *]; done)
set_option maxHeartbeats 6000000 in
set_option maxRecDepth 20000 in
theorem plain_4Q_ (B : Nat) (plane : Int) (c : U8) (s : QS) (w : World) (hI : QInv B w s.gv s.got) (hx : fx c = 2) : Calls Tryz.prog 59 #[.pointer (some ⟨B, 0, none⟩), .int .i64 plane, .int .u8 c.v] (put w B s.cells) (QPost B w eU (runQ (plainQ plane c) s)) := by
  have hi := hI.inb
  have hb0 := Below.refl w.heap.size w
  have y0 : 0 ≤ fy c := by unfold fy; omega
  have y1 : fy c ≤ 7 := by unfold fy; omega
  have z0 : 0 ≤ fz c := by unfold fz; omega
  have z1 : fz c ≤ 7 := by unfold fz; omega
  have hne := hi.ne
  go_enter Tryz.func59, Tryz.ntmps59
  all_goals (try go_wp2_with (first | (go_at_call 36; refine (p8Fields_ _ _).mono ?_; rintro e w1 ⟨rfl, rfl⟩) | (go_at_call 102; refine (getQ_ B _ _ _ (by assumption)).mono (QPost.thru hb0 (fun v s1 w1 hq hb0 hI hi => ?_))) | (go_at_call 118; refine (sumQ_ B _ _ _ _ (by assumption)).mono (QPost.thru hb0 (fun v s1 w1 hq hb0 hI hi => ?_)))))
  all_goals first
    | (refine bodyPost_end (results_none rfl _ _ _) rfl (QPost.done (v := ()) ?_ rfl hb0 hI); simp [plainQ, *]; done)
    | (refine bodyPost_ret (results_none rfl _ _ _) rfl (QPost.done (v := ()) ?_ rfl hb0 hI); simp [plainQ, QC.hl', *]; done)
set_option maxHeartbeats 6000000 in
set_option maxRecDepth 20000 in
theorem plain_5Q_ (B : Nat) (plane : Int) (c : U8) (s : QS) (w : World) (hI : QInv B w s.gv s.got) (h0 : ¬ fx c = 0) (h1 : ¬ fx c = 1) (h2 : ¬ fx c = 2) : Calls Tryz.prog 59 #[.pointer (some ⟨B, 0, none⟩), .int .i64 plane, .int .u8 c.v] (put w B s.cells) (QPost B w eU (runQ (plainQ plane c) s)) := by
  have hi := hI.inb
  have hb0 := Below.refl w.heap.size w
  have y0 : 0 ≤ fy c := by unfold fy; omega
  have y1 : fy c ≤ 7 := by unfold fy; omega
  have z0 : 0 ≤ fz c := by unfold fz; omega
  have z1 : fz c ≤ 7 := by unfold fz; omega
  have hne := hi.ne
  go_enter Tryz.func59, Tryz.ntmps59
  all_goals (try go_wp2_with (first | (go_at_call 36; refine (p8Fields_ _ _).mono ?_; rintro e w1 ⟨rfl, rfl⟩) | (go_at_call 119; refine (highQ_ B _ _ _ _ _ _ (by assumption)).mono (QPost.thru hb0 (fun v s1 w1 hq hb0 hI hi => ?_)))))
  all_goals first
    | (refine bodyPost_end (results_none rfl _ _ _) rfl (QPost.done (v := ()) ?_ rfl hb0 hI); simp [plainQ, *]; done)
    | (refine bodyPost_ret (results_none rfl _ _ _) rfl (QPost.done (v := ()) ?_ rfl hb0 hI); simp [plainQ, QC.hl', *]; done)
theorem plainQ_ (B : Nat) (plane : Int) (c : U8) (s : QS) (w : World) (hI : QInv B w s.gv s.got) : Calls Tryz.prog 59 #[.pointer (some ⟨B, 0, none⟩), .int .i64 plane, .int .u8 c.v] (put w B s.cells) (QPost B w eU (runQ (plainQ plane c) s)) := by
  rcases (show (fx c = 0) ∨ (fx c = 1 ∧ fy c = 6 ∧ fz c = 6) ∨ (fx c = 1 ∧ fy c = 6 ∧ ¬ fz c = 6) ∨ (fx c = 1 ∧ ¬ fy c = 6) ∨ (fx c = 2) ∨ (¬ fx c = 0 ∧ ¬ fx c = 1 ∧ ¬ fx c = 2) by omega) with hx | ⟨hx, hy, hz⟩ | ⟨hx, hy, hz⟩ | ⟨hx, hy⟩ | hx | ⟨h0, h1, h2⟩
  · exact plain_0Q_ B plane c s w hI hx
  · exact plain_1Q_ B plane c s w hI hx hy hz
  · exact plain_2Q_ B plane c s w hI hx hy hz
  · exact plain_3Q_ B plane c s w hI hx hy
  · exact plain_4Q_ B plane c s w hI hx
  · exact plain_5Q_ B plane c s w hI h0 h1 h2
end Go.Proofs.YtnaampdpkegacaaGreatDoor
