/-
  Contract of the reference 12's low. A helper of the claims that stand beside it. (Printed by wip/genrq.py.)
-/
import Derived.Test.YtnaampdpkegacaaGreatDoorro
namespace Go.Proofs.YtnaampdpkegacaaGreatDoor
open Go.RowKit

set_option maxHeartbeats 6000000 in
set_option maxRecDepth 20000 in
theorem low_0Q_ (B : Nat) (y : Int) (z : Int) (p : Int) (q : Int) (s : QS) (w : World) (hI : QInv B w s.gv s.got) (_y0 : 0 ≤ y) (_y1 : y ≤ 7) (hz : z = 0) : Calls Tryz.prog 117 #[.pointer (some ⟨B, 0, none⟩), .int .i64 y, .int .i64 z, .int .i64 p, .int .i64 q] (put w B s.cells) (QPost B w eU (runQ (lowQ y z p q) s)) := by
  have hi := hI.inb
  have hb0 := Below.refl w.heap.size w
  go_enter Tryz.func117, Tryz.ntmps117
  all_goals (try go_wp2_with (first | (go_at_call 200; refine (hopsQ_ B _ _ _ (by assumption)).mono (QPost.thru hb0 (fun v s1 w1 hq hb0 hI hi => ?_)))))
  all_goals first
    | (refine bodyPost_end (results_none rfl _ _ _) rfl (QPost.done (v := ()) ?_ rfl hb0 hI); simp [lowQ, *]; done)
    | (refine bodyPost_ret (results_none rfl _ _ _) rfl (QPost.done (v := ()) ?_ rfl hb0 hI); simp [lowQ, loadQ, QC.hl', *]; done)
set_option maxHeartbeats 6000000 in
set_option maxRecDepth 20000 in
theorem low_1Q_ (B : Nat) (y : Int) (z : Int) (p : Int) (q : Int) (s : QS) (w : World) (hI : QInv B w s.gv s.got) (_y0 : 0 ≤ y) (_y1 : y ≤ 7) (hz : z = 1) (hq0 : q = 0) : Calls Tryz.prog 117 #[.pointer (some ⟨B, 0, none⟩), .int .i64 y, .int .i64 z, .int .i64 p, .int .i64 q] (put w B s.cells) (QPost B w eU (runQ (lowQ y z p q) s)) := by
  have hi := hI.inb
  have hb0 := Below.refl w.heap.size w
  go_enter Tryz.func117, Tryz.ntmps117
  all_goals (try go_wp2_with (first | (go_at_call 193; refine (wordQ_ B  _ _ (by assumption)).mono (QPost.thru hb0 (fun v s1 w1 hq hb0 hI hi => ?_)))))
  all_goals (try (
        replace hb0 := bt hb0 (Below.refl _ _).drew
        replace hI := QInv.drew hI
        replace hi := QInv.inb hI
        go_region_with (first | (go_at_call 194; refine (r11setpair_ _ _ _ _ _).mono ?_; rintro e w1 ⟨rfl, hb⟩; obtain ⟨w2, rfl, hb2⟩ := unput hi hb; replace hb0 := bt hb0 hb2; replace hI := hI.kept hb2; have hi := hI.inb))))
  all_goals (try go_wp2)
  all_goals first
    | (refine bodyPost_end (results_none rfl _ _ _) rfl (QPost.done (v := ()) ?_ rfl hb0 hI); simp [lowQ, *]; done)
    | (refine bodyPost_ret (results_none rfl _ _ _) rfl (QPost.done (v := ()) ?_ rfl hb0 hI); simp [lowQ, loadQ, QC.hl', *]; done)
set_option maxHeartbeats 6000000 in
set_option maxRecDepth 20000 in
theorem low_2Q_ (B : Nat) (y : Int) (z : Int) (p : Int) (q : Int) (s : QS) (w : World) (hI : QInv B w s.gv s.got) (_y0 : 0 ≤ y) (_y1 : y ≤ 7) (hz : z = 1) (hq0 : ¬ q = 0) : Calls Tryz.prog 117 #[.pointer (some ⟨B, 0, none⟩), .int .i64 y, .int .i64 z, .int .i64 p, .int .i64 q] (put w B s.cells) (QPost B w eU (runQ (lowQ y z p q) s)) := by
  have hi := hI.inb
  have hb0 := Below.refl w.heap.size w
  go_enter Tryz.func117, Tryz.ntmps117
  all_goals (try go_wp2_with (first | (go_at_call 58; refine (statesQ_ B _ _ _ (by assumption)).mono (QPost.thru hb0 (fun v s1 w1 hq hb0 hI hi => ?_))) | (go_at_call 57; refine (hlQ_ B _ _ (by assumption)).mono ?_; rintro e w1 ⟨rfl, hb⟩; obtain ⟨w2, rfl, hb2⟩ := unput hi hb; replace hb0 := bt hb0 hb2; replace hI := hI.kept hb2; have hi := hI.inb)))
  all_goals (try (
        replace hb0 := bt hb0 (Below.refl _ _).drew
        replace hI := QInv.drew hI
        replace hi := QInv.inb hI
        go_region_with (first | (go_at_call 57; refine (hlQ_ B _ _ (by assumption)).mono ?_; rintro e w1 ⟨rfl, hb⟩; obtain ⟨w2, rfl, hb2⟩ := unput hi hb; replace hb0 := bt hb0 hb2; replace hI := hI.kept hb2; have hi := hI.inb) | (go_at_call 104; refine (r11pair_ _ _ _ _).mono ?_; rintro e w1 ⟨rfl, hb⟩; obtain ⟨w2, rfl, hb2⟩ := unput hi hb; replace hb0 := bt hb0 hb2; replace hI := hI.kept hb2; have hi := hI.inb) | (go_at_call 105; refine (fQ_ B _ _ (by assumption)).mono ?_; rintro e w1 ⟨rfl, rfl⟩) | (go_at_call 201; refine (pHAdd_ _ _ _ _).mono ?_; rintro e w1 ⟨rfl, hb⟩; obtain ⟨w2, rfl, hb2⟩ := unput hi hb; replace hb0 := bt hb0 hb2; replace hI := hI.kept hb2; have hi := hI.inb))))
  all_goals (try go_wp2_with (first | (go_at_call 202; refine (setHlQ_ B _ _ _ (by assumption)).mono (QPost.thru hb0 (fun v s1 w1 hq hb0 hI hi => ?_))) | (go_at_call 97; refine (aQ_ B _ _ (by assumption)).mono ?_; rintro e w1 ⟨rfl, rfl⟩) | (go_at_call 96; refine (putQ_ B _ _ _ _ (by assumption)).mono (QPost.thru hb0 (fun v s1 w1 hq hb0 hI hi => ?_)))))
  all_goals first
    | (refine bodyPost_end (results_none rfl _ _ _) rfl (QPost.done (v := ()) ?_ rfl hb0 hI); simp [lowQ, QC.hl', *]; done)
    | (refine bodyPost_ret (results_none rfl _ _ _) rfl (QPost.done (v := ()) ?_ rfl hb0 hI); simp [lowQ, loadQ, QC.hl', *]; done)
set_option maxHeartbeats 6000000 in
set_option maxRecDepth 20000 in
theorem low_3Q_ (B : Nat) (y : Int) (z : Int) (p : Int) (q : Int) (s : QS) (w : World) (hI : QInv B w s.gv s.got) (y0 : 0 ≤ y) (y1 : y ≤ 7) (hz : z = 2) : Calls Tryz.prog 117 #[.pointer (some ⟨B, 0, none⟩), .int .i64 y, .int .i64 z, .int .i64 p, .int .i64 q] (put w B s.cells) (QPost B w eU (runQ (lowQ y z p q) s)) := by
  have hi := hI.inb
  have hb0 := Below.refl w.heap.size w
  go_enter Tryz.func117, Tryz.ntmps117
  all_goals (try go_wp2_with (first | (go_at_call 203; refine (storesQ_ B _ _ _ (by assumption) (by omega) (by omega)).mono (QPost.thru hb0 (fun v s1 w1 hq hb0 hI hi => ?_)))))
  all_goals first
    | (refine bodyPost_end (results_none rfl _ _ _) rfl (QPost.done (v := ()) ?_ rfl hb0 hI); simp [lowQ, *]; done)
    | (refine bodyPost_ret (results_none rfl _ _ _) rfl (QPost.done (v := ()) ?_ rfl hb0 hI); simp [lowQ, loadQ, QC.hl', *]; done)
set_option maxHeartbeats 6000000 in
set_option maxRecDepth 20000 in
theorem low_4Q_ (B : Nat) (y : Int) (z : Int) (p : Int) (q : Int) (s : QS) (w : World) (hI : QInv B w s.gv s.got) (_y0 : 0 ≤ y) (_y1 : y ≤ 7) (hz : z = 3) (hq0 : q = 0) : Calls Tryz.prog 117 #[.pointer (some ⟨B, 0, none⟩), .int .i64 y, .int .i64 z, .int .i64 p, .int .i64 q] (put w B s.cells) (QPost B w eU (runQ (lowQ y z p q) s)) := by
  have hi := hI.inb
  have hb0 := Below.refl w.heap.size w
  go_enter Tryz.func117, Tryz.ntmps117
  all_goals (try go_wp2_with (first | (go_at_call 58; refine (statesQ_ B _ _ _ (by assumption)).mono (QPost.thru hb0 (fun v s1 w1 hq hb0 hI hi => ?_)))))
  all_goals (try (
        replace hb0 := bt hb0 (Below.refl _ _).drew
        replace hI := QInv.drew hI
        replace hi := QInv.inb hI
        go_region_with (first | (go_at_call 104; refine (r11pair_ _ _ _ _).mono ?_; rintro e w1 ⟨rfl, hb⟩; obtain ⟨w2, rfl, hb2⟩ := unput hi hb; replace hb0 := bt hb0 hb2; replace hI := hI.kept hb2; have hi := hI.inb))))
  all_goals (try go_wp2)
  all_goals (try (
        replace hb0 := bt hb0 (Below.refl _ _).drew
        replace hI := QInv.drew hI
        replace hi := QInv.inb hI
        go_region_with (first | (go_at_call 194; refine (r11setpair_ _ _ _ _ _).mono ?_; rintro e w1 ⟨rfl, hb⟩; obtain ⟨w2, rfl, hb2⟩ := unput hi hb; replace hb0 := bt hb0 hb2; replace hI := hI.kept hb2; have hi := hI.inb))))
  all_goals (try go_wp2)
  all_goals first
    | (refine bodyPost_end (results_none rfl _ _ _) rfl (QPost.done (v := ()) ?_ rfl hb0 hI); simp [lowQ, *]; done)
    | (refine bodyPost_ret (results_none rfl _ _ _) rfl (QPost.done (v := ()) ?_ rfl hb0 hI); simp [lowQ, loadQ, QC.hl', *]; done)
set_option maxHeartbeats 6000000 in
set_option maxRecDepth 20000 in
theorem low_5Q_ (B : Nat) (y : Int) (z : Int) (p : Int) (q : Int) (s : QS) (w : World) (hI : QInv B w s.gv s.got) (_y0 : 0 ≤ y) (_y1 : y ≤ 7) (hz : z = 3) (hq0 : ¬ q = 0) : Calls Tryz.prog 117 #[.pointer (some ⟨B, 0, none⟩), .int .i64 y, .int .i64 z, .int .i64 p, .int .i64 q] (put w B s.cells) (QPost B w eU (runQ (lowQ y z p q) s)) := by
  have hi := hI.inb
  have hb0 := Below.refl w.heap.size w
  go_enter Tryz.func117, Tryz.ntmps117
  all_goals (try go_wp2_with (first | (go_at_call 58; refine (statesQ_ B _ _ _ (by assumption)).mono (QPost.thru hb0 (fun v s1 w1 hq hb0 hI hi => ?_)))))
  all_goals (try (
        replace hb0 := bt hb0 (Below.refl _ _).drew
        replace hI := QInv.drew hI
        replace hi := QInv.inb hI
        go_region_with (first | (go_at_call 104; refine (r11pair_ _ _ _ _).mono ?_; rintro e w1 ⟨rfl, hb⟩; obtain ⟨w2, rfl, hb2⟩ := unput hi hb; replace hb0 := bt hb0 hb2; replace hI := hI.kept hb2; have hi := hI.inb))))
  all_goals (try go_wp2)
  all_goals (try (
        replace hb0 := bt hb0 (Below.refl _ _).drew
        replace hI := QInv.drew hI
        replace hi := QInv.inb hI
        go_region_with (first | (go_at_call 194; refine (r11setpair_ _ _ _ _ _).mono ?_; rintro e w1 ⟨rfl, hb⟩; obtain ⟨w2, rfl, hb2⟩ := unput hi hb; replace hb0 := bt hb0 hb2; replace hI := hI.kept hb2; have hi := hI.inb))))
  all_goals (try go_wp2)
  all_goals first
    | (refine bodyPost_end (results_none rfl _ _ _) rfl (QPost.done (v := ()) ?_ rfl hb0 hI); simp [lowQ, *]; done)
    | (refine bodyPost_ret (results_none rfl _ _ _) rfl (QPost.done (v := ()) ?_ rfl hb0 hI); simp [lowQ, loadQ, QC.hl', *]; done)
set_option maxHeartbeats 6000000 in
set_option maxRecDepth 20000 in
theorem low_6Q_ (B : Nat) (y : Int) (z : Int) (p : Int) (q : Int) (s : QS) (w : World) (hI : QInv B w s.gv s.got) (_y0 : 0 ≤ y) (_y1 : y ≤ 7) (hz : z = 4) : Calls Tryz.prog 117 #[.pointer (some ⟨B, 0, none⟩), .int .i64 y, .int .i64 z, .int .i64 p, .int .i64 q] (put w B s.cells) (QPost B w eU (runQ (lowQ y z p q) s)) := by
  have hi := hI.inb
  have hb0 := Below.refl w.heap.size w
  go_enter Tryz.func117, Tryz.ntmps117
  all_goals (try go_wp2_with (first | (go_at_call 204; refine (stepQ_ B _ _ _ _ (by assumption)).mono (QPost.thru hb0 (fun v s1 w1 hq hb0 hI hi => ?_)))))
  all_goals first
    | (refine bodyPost_end (results_none rfl _ _ _) rfl (QPost.done (v := ()) ?_ rfl hb0 hI); simp [lowQ, *]; done)
    | (refine bodyPost_ret (results_none rfl _ _ _) rfl (QPost.done (v := ()) ?_ rfl hb0 hI); simp [lowQ, loadQ, QC.hl', *]; done)
set_option maxHeartbeats 6000000 in
set_option maxRecDepth 20000 in
theorem low_7Q_ (B : Nat) (y : Int) (z : Int) (p : Int) (q : Int) (s : QS) (w : World) (hI : QInv B w s.gv s.got) (_y0 : 0 ≤ y) (_y1 : y ≤ 7) (hz : z = 5) : Calls Tryz.prog 117 #[.pointer (some ⟨B, 0, none⟩), .int .i64 y, .int .i64 z, .int .i64 p, .int .i64 q] (put w B s.cells) (QPost B w eU (runQ (lowQ y z p q) s)) := by
  have hi := hI.inb
  have hb0 := Below.refl w.heap.size w
  go_enter Tryz.func117, Tryz.ntmps117
  all_goals (try go_wp2_with (first | (go_at_call 204; refine (stepQ_ B _ _ _ _ (by assumption)).mono (QPost.thru hb0 (fun v s1 w1 hq hb0 hI hi => ?_)))))
  all_goals first
    | (refine bodyPost_end (results_none rfl _ _ _) rfl (QPost.done (v := ()) ?_ rfl hb0 hI); simp [lowQ, *]; done)
    | (refine bodyPost_ret (results_none rfl _ _ _) rfl (QPost.done (v := ()) ?_ rfl hb0 hI); simp [lowQ, loadQ, QC.hl', *]; done)
set_option maxHeartbeats 6000000 in
set_option maxRecDepth 20000 in
theorem low_8Q_ (B : Nat) (y : Int) (z : Int) (p : Int) (q : Int) (s : QS) (w : World) (hI : QInv B w s.gv s.got) (_y0 : 0 ≤ y) (_y1 : y ≤ 7) (hz : z = 6) (hy : y = 6) (hp : s.plane = 0) : Calls Tryz.prog 117 #[.pointer (some ⟨B, 0, none⟩), .int .i64 y, .int .i64 z, .int .i64 p, .int .i64 q] (put w B s.cells) (QPost B w eU (runQ (lowQ y z p q) s)) := by
  have hi := hI.inb
  have hb0 := Below.refl w.heap.size w
  go_enter Tryz.func117, Tryz.ntmps117
  all_goals (try go_wp2_with (first | (go_at_call 55; refine (numberQ_ B  _ _ (by assumption)).mono (QPost.thru hb0 (fun v s1 w1 hq hb0 hI hi => ?_))) | (go_at_call 101; refine (setQ_ B _ _ _ _ (by assumption)).mono (QPost.thru hb0 (fun v s1 w1 hq hb0 hI hi => ?_)))))
  all_goals first
    | (refine bodyPost_end (results_none rfl _ _ _) rfl (QPost.done (v := ()) ?_ rfl hb0 hI); simp [lowQ, loadQ, QC.hl', *]; done)
    | (refine bodyPost_ret (results_none rfl _ _ _) rfl (QPost.done (v := ()) ?_ rfl hb0 hI); simp [lowQ, loadQ, QC.hl', *]; done)
set_option maxHeartbeats 6000000 in
set_option maxRecDepth 20000 in
theorem low_9Q_ (B : Nat) (y : Int) (z : Int) (p : Int) (q : Int) (s : QS) (w : World) (hI : QInv B w s.gv s.got) (_y0 : 0 ≤ y) (_y1 : y ≤ 7) (hz : z = 6) (hy : y = 6) (hp : ¬ s.plane = 0) : Calls Tryz.prog 117 #[.pointer (some ⟨B, 0, none⟩), .int .i64 y, .int .i64 z, .int .i64 p, .int .i64 q] (put w B s.cells) (QPost B w eU (runQ (lowQ y z p q) s)) := by
  have hi := hI.inb
  have hb0 := Below.refl w.heap.size w
  go_enter Tryz.func117, Tryz.ntmps117
  all_goals (try go_wp2_with (first | (go_at_call 55; refine (numberQ_ B  _ _ (by assumption)).mono (QPost.thru hb0 (fun v s1 w1 hq hb0 hI hi => ?_))) | (go_at_call 57; refine (hlQ_ B _ _ (by assumption)).mono ?_; rintro e w1 ⟨rfl, hb⟩; obtain ⟨w2, rfl, hb2⟩ := unput hi hb; replace hb0 := bt hb0 hb2; replace hI := hI.kept hb2; have hi := hI.inb) | (go_at_call 56; refine (pNear_ _ _ _).mono ?_; rintro e w1 ⟨rfl, rfl⟩) | (go_at_call 58; refine (statesQ_ B _ _ _ (by assumption)).mono (QPost.thru hb0 (fun v s1 w1 hq hb0 hI hi => ?_))) | (go_at_call 172; refine (writeQ_ B _ _ _ _ (by assumption)).mono (QPost.thru hb0 (fun v s1 w1 hq hb0 hI hi => ?_)))))
  all_goals first
    | (refine bodyPost_end (results_none rfl _ _ _) rfl (QPost.done (v := ()) ?_ rfl hb0 hI); simp [lowQ, loadQ, QC.hl', *]; done)
    | (refine bodyPost_ret (results_none rfl _ _ _) rfl (QPost.done (v := ()) ?_ rfl hb0 hI); simp [lowQ, loadQ, QC.hl', *]; done)
set_option maxHeartbeats 6000000 in
set_option maxRecDepth 20000 in
theorem low_10Q_ (B : Nat) (y : Int) (z : Int) (p : Int) (q : Int) (s : QS) (w : World) (hI : QInv B w s.gv s.got) (_y0 : 0 ≤ y) (_y1 : y ≤ 7) (hz : z = 6) (hy : ¬ y = 6) : Calls Tryz.prog 117 #[.pointer (some ⟨B, 0, none⟩), .int .i64 y, .int .i64 z, .int .i64 p, .int .i64 q] (put w B s.cells) (QPost B w eU (runQ (lowQ y z p q) s)) := by
  have hi := hI.inb
  have hb0 := Below.refl w.heap.size w
  go_enter Tryz.func117, Tryz.ntmps117
  all_goals (try go_wp2_with (first | (go_at_call 55; refine (numberQ_ B  _ _ (by assumption)).mono (QPost.thru hb0 (fun v s1 w1 hq hb0 hI hi => ?_))) | (go_at_call 101; refine (setQ_ B _ _ _ _ (by assumption)).mono (QPost.thru hb0 (fun v s1 w1 hq hb0 hI hi => ?_)))))
  all_goals first
    | (refine bodyPost_end (results_none rfl _ _ _) rfl (QPost.done (v := ()) ?_ rfl hb0 hI); simp [lowQ, loadQ, *]; done)
    | (refine bodyPost_ret (results_none rfl _ _ _) rfl (QPost.done (v := ()) ?_ rfl hb0 hI); simp [lowQ, loadQ, QC.hl', *]; done)
set_option maxHeartbeats 6000000 in
set_option maxRecDepth 20000 in
theorem low_11Q_ (B : Nat) (y : Int) (z : Int) (p : Int) (q : Int) (s : QS) (w : World) (hI : QInv B w s.gv s.got) (y0 : 0 ≤ y) (y1 : y ≤ 7) (h0 : ¬ z = 0) (h1 : ¬ z = 1) (h2 : ¬ z = 2) (h3 : ¬ z = 3) (h4 : ¬ z = 4) (h5 : ¬ z = 5) (h6 : ¬ z = 6) : Calls Tryz.prog 117 #[.pointer (some ⟨B, 0, none⟩), .int .i64 y, .int .i64 z, .int .i64 p, .int .i64 q] (put w B s.cells) (QPost B w eU (runQ (lowQ y z p q) s)) := by
  have hi := hI.inb
  have hb0 := Below.refl w.heap.size w
  go_enter Tryz.func117, Tryz.ntmps117
  all_goals (try go_wp2_with (first | (go_at_call 205; refine (turnQ_ B _ _ _ (by assumption) (by omega) (by omega)).mono (QPost.thru hb0 (fun v s1 w1 hq hb0 hI hi => ?_)))))
  all_goals first
    | (refine bodyPost_end (results_none rfl _ _ _) rfl (QPost.done (v := ()) ?_ rfl hb0 hI); simp [lowQ, *]; done)
    | (refine bodyPost_ret (results_none rfl _ _ _) rfl (QPost.done (v := ()) ?_ rfl hb0 hI); simp [lowQ, loadQ, QC.hl', *]; done)
theorem lowQ_ (B : Nat) (y : Int) (z : Int) (p : Int) (q : Int) (s : QS) (w : World) (hI : QInv B w s.gv s.got) (y0 : 0 ≤ y) (y1 : y ≤ 7) : Calls Tryz.prog 117 #[.pointer (some ⟨B, 0, none⟩), .int .i64 y, .int .i64 z, .int .i64 p, .int .i64 q] (put w B s.cells) (QPost B w eU (runQ (lowQ y z p q) s)) := by
  rcases (show (z = 0) ∨ (z = 1 ∧ q = 0) ∨ (z = 1 ∧ ¬ q = 0) ∨ (z = 2) ∨ (z = 3 ∧ q = 0) ∨ (z = 3 ∧ ¬ q = 0) ∨ (z = 4) ∨ (z = 5) ∨ (z = 6 ∧ y = 6 ∧ s.plane = 0) ∨ (z = 6 ∧ y = 6 ∧ ¬ s.plane = 0) ∨ (z = 6 ∧ ¬ y = 6) ∨ (¬ z = 0 ∧ ¬ z = 1 ∧ ¬ z = 2 ∧ ¬ z = 3 ∧ ¬ z = 4 ∧ ¬ z = 5 ∧ ¬ z = 6) by omega) with hz | ⟨hz, hq0⟩ | ⟨hz, hq0⟩ | hz | ⟨hz, hq0⟩ | ⟨hz, hq0⟩ | hz | hz | ⟨hz, hy, hp⟩ | ⟨hz, hy, hp⟩ | ⟨hz, hy⟩ | ⟨h0, h1, h2, h3, h4, h5, h6⟩
  · exact low_0Q_ B y z p q s w hI y0 y1 hz
  · exact low_1Q_ B y z p q s w hI y0 y1 hz hq0
  · exact low_2Q_ B y z p q s w hI y0 y1 hz hq0
  · exact low_3Q_ B y z p q s w hI y0 y1 hz
  · exact low_4Q_ B y z p q s w hI y0 y1 hz hq0
  · exact low_5Q_ B y z p q s w hI y0 y1 hz hq0
  · exact low_6Q_ B y z p q s w hI y0 y1 hz
  · exact low_7Q_ B y z p q s w hI y0 y1 hz
  · exact low_8Q_ B y z p q s w hI y0 y1 hz hy hp
  · exact low_9Q_ B y z p q s w hI y0 y1 hz hy hp
  · exact low_10Q_ B y z p q s w hI y0 y1 hz hy
  · exact low_11Q_ B y z p q s w hI y0 y1 h0 h1 h2 h3 h4 h5 h6
end Go.Proofs.YtnaampdpkegacaaGreatDoor
