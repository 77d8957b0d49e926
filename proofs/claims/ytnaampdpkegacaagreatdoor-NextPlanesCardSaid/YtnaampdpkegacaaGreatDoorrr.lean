/-
  Contract of the reference 12's high. A helper of the claims that stand beside it. (Printed by wip/genrq.py.)
-/
import Derived.Test.YtnaampdpkegacaaGreatDoorrp
import Derived.Test.YtnaampdpkegacaaGreatDoorro
namespace Go.Proofs.YtnaampdpkegacaaGreatDoor
open Go.RowKit

theorem rst_foldq (n : Int) : IntKind.u16.wrap (wrap64 (8 * n)) = (u16 (8 * n)).v := by
  rw [IntKind.wrap_u16]
  unfold wrap64
  show _ = (8 * n) % 65536
  omega
attribute [go_sem] rst_foldq
set_option maxHeartbeats 6000000 in
set_option maxRecDepth 20000 in
theorem high_0Q_ (B : Nat) (y : Int) (z : Int) (p : Int) (q : Int) (s : QS) (w : World) (hI : QInv B w s.gv s.got) (hz : z = 0) : Calls Tryz.prog 119 #[.pointer (some ⟨B, 0, none⟩), .int .i64 y, .int .i64 z, .int .i64 p, .int .i64 q] (put w B s.cells) (QPost B w eU (runQ (highQ y z p q) s)) := by
  have hi := hI.inb
  have hb0 := Below.refl w.heap.size w
  go_enter Tryz.func119, Tryz.ntmps119
  all_goals (try go_wp2_with (first | (go_at_call 105; refine (fQ_ B _ _ (by assumption)).mono ?_; rintro e w1 ⟨rfl, rfl⟩) | (go_at_call 211; refine (pTest_ _ _ _).mono ?_; rintro e w1 ⟨rfl, hb⟩; obtain ⟨w2, rfl, hb2⟩ := unput hi hb; replace hb0 := bt hb0 hb2; replace hI := hI.kept hb2; have hi := hI.inb) | (go_at_call 58; refine (statesQ_ B _ _ _ (by assumption)).mono (QPost.thru hb0 (fun v s1 w1 hq hb0 hI hi => ?_))) | (go_at_call 109; refine (backQ_ B  _ _ (by assumption)).mono (QPost.thru hb0 (fun v s1 w1 hq hb0 hI hi => ?_)))))
  all_goals first
    | (refine bodyPost_end (results_none rfl _ _ _) rfl (QPost.done (v := ()) ?_ rfl hb0 hI); simp [highQ, *]; done)
    | (refine bodyPost_ret (results_none rfl _ _ _) rfl (QPost.done (v := ()) ?_ rfl hb0 hI); simp [highQ, QC.hl', *]; done)
set_option maxHeartbeats 6000000 in
set_option maxRecDepth 20000 in
theorem high_1Q_ (B : Nat) (y : Int) (z : Int) (p : Int) (q : Int) (s : QS) (w : World) (hI : QInv B w s.gv s.got) (hz : z = 1) : Calls Tryz.prog 119 #[.pointer (some ⟨B, 0, none⟩), .int .i64 y, .int .i64 z, .int .i64 p, .int .i64 q] (put w B s.cells) (QPost B w eU (runQ (highQ y z p q) s)) := by
  have hi := hI.inb
  have hb0 := Below.refl w.heap.size w
  go_enter Tryz.func119, Tryz.ntmps119
  all_goals (try go_wp2_with (first | (go_at_call 105; refine (fQ_ B _ _ (by assumption)).mono ?_; rintro e w1 ⟨rfl, rfl⟩) | (go_at_call 211; refine (pTest_ _ _ _).mono ?_; rintro e w1 ⟨rfl, hb⟩; obtain ⟨w2, rfl, hb2⟩ := unput hi hb; replace hb0 := bt hb0 hb2; replace hI := hI.kept hb2; have hi := hI.inb) | (go_at_call 212; refine (popsQ_ B _ _ _ _ (by assumption)).mono (QPost.thru hb0 (fun v s1 w1 hq hb0 hI hi => ?_)))))
  all_goals first
    | (refine bodyPost_end (results_none rfl _ _ _) rfl (QPost.done (v := ()) ?_ rfl hb0 hI); simp [highQ, *]; done)
    | (refine bodyPost_ret (results_none rfl _ _ _) rfl (QPost.done (v := ()) ?_ rfl hb0 hI); simp [highQ, QC.hl', *]; done)
set_option maxHeartbeats 6000000 in
set_option maxRecDepth 20000 in
theorem high_2Q_ (B : Nat) (y : Int) (z : Int) (p : Int) (q : Int) (s : QS) (w : World) (hI : QInv B w s.gv s.got) (hz : z = 2) : Calls Tryz.prog 119 #[.pointer (some ⟨B, 0, none⟩), .int .i64 y, .int .i64 z, .int .i64 p, .int .i64 q] (put w B s.cells) (QPost B w eU (runQ (highQ y z p q) s)) := by
  have hi := hI.inb
  have hb0 := Below.refl w.heap.size w
  go_enter Tryz.func119, Tryz.ntmps119
  all_goals (try go_wp2_with (first | (go_at_call 105; refine (fQ_ B _ _ (by assumption)).mono ?_; rintro e w1 ⟨rfl, rfl⟩) | (go_at_call 211; refine (pTest_ _ _ _).mono ?_; rintro e w1 ⟨rfl, hb⟩; obtain ⟨w2, rfl, hb2⟩ := unput hi hb; replace hb0 := bt hb0 hb2; replace hI := hI.kept hb2; have hi := hI.inb) | (go_at_call 193; refine (wordQ_ B  _ _ (by assumption)).mono (QPost.thru hb0 (fun v s1 w1 hq hb0 hI hi => ?_)))))
  all_goals first
    | (refine bodyPost_end (results_none rfl _ _ _) rfl (QPost.done (v := ()) ?_ rfl hb0 hI); simp [highQ, *]; done)
    | (refine bodyPost_ret (results_none rfl _ _ _) rfl (QPost.done (v := ()) ?_ rfl hb0 hI); simp [highQ, QC.hl', *]; done)
set_option maxHeartbeats 6000000 in
set_option maxRecDepth 20000 in
theorem high_3Q_ (B : Nat) (y : Int) (z : Int) (p : Int) (q : Int) (s : QS) (w : World) (hI : QInv B w s.gv s.got) (hz : z = 3) : Calls Tryz.prog 119 #[.pointer (some ⟨B, 0, none⟩), .int .i64 y, .int .i64 z, .int .i64 p, .int .i64 q] (put w B s.cells) (QPost B w eU (runQ (highQ y z p q) s)) := by
  have hi := hI.inb
  have hb0 := Below.refl w.heap.size w
  go_enter Tryz.func119, Tryz.ntmps119
  all_goals (try go_wp2_with (first | (go_at_call 105; refine (fQ_ B _ _ (by assumption)).mono ?_; rintro e w1 ⟨rfl, rfl⟩) | (go_at_call 211; refine (pTest_ _ _ _).mono ?_; rintro e w1 ⟨rfl, hb⟩; obtain ⟨w2, rfl, hb2⟩ := unput hi hb; replace hb0 := bt hb0 hb2; replace hI := hI.kept hb2; have hi := hI.inb) | (go_at_call 213; refine (portsQ_ B _ _ _ (by assumption)).mono (QPost.thru hb0 (fun v s1 w1 hq hb0 hI hi => ?_)))))
  all_goals first
    | (refine bodyPost_end (results_none rfl _ _ _) rfl (QPost.done (v := ()) ?_ rfl hb0 hI); simp [highQ, *]; done)
    | (refine bodyPost_ret (results_none rfl _ _ _) rfl (QPost.done (v := ()) ?_ rfl hb0 hI); simp [highQ, QC.hl', *]; done)
set_option maxHeartbeats 6000000 in
set_option maxRecDepth 20000 in
theorem high_4Q_ (B : Nat) (y : Int) (z : Int) (p : Int) (q : Int) (s : QS) (w : World) (hI : QInv B w s.gv s.got) (hz : z = 4) : Calls Tryz.prog 119 #[.pointer (some ⟨B, 0, none⟩), .int .i64 y, .int .i64 z, .int .i64 p, .int .i64 q] (put w B s.cells) (QPost B w eU (runQ (highQ y z p q) s)) := by
  have hi := hI.inb
  have hb0 := Below.refl w.heap.size w
  go_enter Tryz.func119, Tryz.ntmps119
  all_goals (try go_wp2_with (first | (go_at_call 105; refine (fQ_ B _ _ (by assumption)).mono ?_; rintro e w1 ⟨rfl, rfl⟩) | (go_at_call 211; refine (pTest_ _ _ _).mono ?_; rintro e w1 ⟨rfl, hb⟩; obtain ⟨w2, rfl, hb2⟩ := unput hi hb; replace hb0 := bt hb0 hb2; replace hI := hI.kept hb2; have hi := hI.inb) | (go_at_call 214; refine (callQ_ B _ _ _ (by assumption)).mono (QPost.thru hb0 (fun v s1 w1 hq hb0 hI hi => ?_)))))
  all_goals first
    | (refine bodyPost_end (results_none rfl _ _ _) rfl (QPost.done (v := ()) ?_ rfl hb0 hI); simp [highQ, *]; done)
    | (refine bodyPost_ret (results_none rfl _ _ _) rfl (QPost.done (v := ()) ?_ rfl hb0 hI); simp [highQ, QC.hl', *]; done)
set_option maxHeartbeats 6000000 in
set_option maxRecDepth 20000 in
theorem high_5Q_ (B : Nat) (y : Int) (z : Int) (p : Int) (q : Int) (s : QS) (w : World) (hI : QInv B w s.gv s.got) (hz : z = 5) (hq1 : q = 1) : Calls Tryz.prog 119 #[.pointer (some ⟨B, 0, none⟩), .int .i64 y, .int .i64 z, .int .i64 p, .int .i64 q] (put w B s.cells) (QPost B w eU (runQ (highQ y z p q) s)) := by
  have hi := hI.inb
  have hb0 := Below.refl w.heap.size w
  go_enter Tryz.func119, Tryz.ntmps119
  all_goals (try go_wp2_with (first | (go_at_call 105; refine (fQ_ B _ _ (by assumption)).mono ?_; rintro e w1 ⟨rfl, rfl⟩) | (go_at_call 211; refine (pTest_ _ _ _).mono ?_; rintro e w1 ⟨rfl, hb⟩; obtain ⟨w2, rfl, hb2⟩ := unput hi hb; replace hb0 := bt hb0 hb2; replace hI := hI.kept hb2; have hi := hI.inb) | (go_at_call 214; refine (callQ_ B _ _ _ (by assumption)).mono (QPost.thru hb0 (fun v s1 w1 hq hb0 hI hi => ?_)))))
  all_goals first
    | (refine bodyPost_end (results_none rfl _ _ _) rfl (QPost.done (v := ()) ?_ rfl hb0 hI); simp [highQ, *]; done)
    | (refine bodyPost_ret (results_none rfl _ _ _) rfl (QPost.done (v := ()) ?_ rfl hb0 hI); simp [highQ, QC.hl', *]; done)
set_option maxHeartbeats 6000000 in
set_option maxRecDepth 20000 in
theorem high_6Q_ (B : Nat) (y : Int) (z : Int) (p : Int) (q : Int) (s : QS) (w : World) (hI : QInv B w s.gv s.got) (hz : z = 5) (hq1 : ¬ q = 1) (hp : p = 3) : Calls Tryz.prog 119 #[.pointer (some ⟨B, 0, none⟩), .int .i64 y, .int .i64 z, .int .i64 p, .int .i64 q] (put w B s.cells) (QPost B w eU (runQ (highQ y z p q) s)) := by
  have hi := hI.inb
  have hb0 := Below.refl w.heap.size w
  go_enter Tryz.func119, Tryz.ntmps119
  all_goals (try go_wp2_with (first | (go_at_call 105; refine (fQ_ B _ _ (by assumption)).mono ?_; rintro e w1 ⟨rfl, rfl⟩) | (go_at_call 211; refine (pTest_ _ _ _).mono ?_; rintro e w1 ⟨rfl, hb⟩; obtain ⟨w2, rfl, hb2⟩ := unput hi hb; replace hb0 := bt hb0 hb2; replace hI := hI.kept hb2; have hi := hI.inb) | (go_at_call 58; refine (statesQ_ B _ _ _ (by assumption)).mono (QPost.thru hb0 (fun v s1 w1 hq hb0 hI hi => ?_))) | (go_at_call 215; refine (pushQ_ B _ _ _ (by assumption)).mono (QPost.thru hb0 (fun v s1 w1 hq hb0 hI hi => ?_)))))
  all_goals first
    | (refine bodyPost_end (results_none rfl _ _ _) rfl (QPost.done (v := ()) ?_ rfl hb0 hI); simp [highQ, *]; done)
    | (refine bodyPost_ret (results_none rfl _ _ _) rfl (QPost.done (v := ()) ?_ rfl hb0 hI); simp [highQ, QC.hl', *]; done)
set_option maxHeartbeats 6000000 in
set_option maxRecDepth 20000 in
theorem high_7Q_ (B : Nat) (y : Int) (z : Int) (p : Int) (q : Int) (s : QS) (w : World) (hI : QInv B w s.gv s.got) (hz : z = 5) (hq1 : ¬ q = 1) (hp : ¬ p = 3) : Calls Tryz.prog 119 #[.pointer (some ⟨B, 0, none⟩), .int .i64 y, .int .i64 z, .int .i64 p, .int .i64 q] (put w B s.cells) (QPost B w eU (runQ (highQ y z p q) s)) := by
  have hi := hI.inb
  have hb0 := Below.refl w.heap.size w
  go_enter Tryz.func119, Tryz.ntmps119
  all_goals (try go_wp2_with (first | (go_at_call 105; refine (fQ_ B _ _ (by assumption)).mono ?_; rintro e w1 ⟨rfl, rfl⟩) | (go_at_call 211; refine (pTest_ _ _ _).mono ?_; rintro e w1 ⟨rfl, hb⟩; obtain ⟨w2, rfl, hb2⟩ := unput hi hb; replace hb0 := bt hb0 hb2; replace hI := hI.kept hb2; have hi := hI.inb) | (go_at_call 58; refine (statesQ_ B _ _ _ (by assumption)).mono (QPost.thru hb0 (fun v s1 w1 hq hb0 hI hi => ?_)))))
  all_goals (try (
        replace hb0 := bt hb0 (Below.refl _ _).drew
        replace hI := QInv.drew hI
        replace hi := QInv.inb hI
        go_region_with (first | (go_at_call 104; refine (r11pair_ _ _ _ _).mono ?_; rintro e w1 ⟨rfl, hb⟩; obtain ⟨w2, rfl, hb2⟩ := unput hi hb; replace hb0 := bt hb0 hb2; replace hI := hI.kept hb2; have hi := hI.inb) | (go_at_call 215; refine (pushQ_ B _ _ _ (by assumption)).mono (QPost.thru hb0 (fun v s1 w1 hq hb0 hI hi => ?_))))))
  all_goals (try go_wp2)
  all_goals first
    | (refine bodyPost_end (results_none rfl _ _ _) rfl (QPost.done (v := ()) ?_ rfl hb0 hI); simp [highQ, *]; done)
    | (refine bodyPost_ret (results_none rfl _ _ _) rfl (QPost.done (v := ()) ?_ rfl hb0 hI); simp [highQ, QC.hl', *]; done)
set_option maxHeartbeats 6000000 in
set_option maxRecDepth 20000 in
theorem high_8Q_ (B : Nat) (y : Int) (z : Int) (p : Int) (q : Int) (s : QS) (w : World) (hI : QInv B w s.gv s.got) (hz : z = 6) : Calls Tryz.prog 119 #[.pointer (some ⟨B, 0, none⟩), .int .i64 y, .int .i64 z, .int .i64 p, .int .i64 q] (put w B s.cells) (QPost B w eU (runQ (highQ y z p q) s)) := by
  have hi := hI.inb
  have hb0 := Below.refl w.heap.size w
  go_enter Tryz.func119, Tryz.ntmps119
  all_goals (try go_wp2_with (first | (go_at_call 105; refine (fQ_ B _ _ (by assumption)).mono ?_; rintro e w1 ⟨rfl, rfl⟩) | (go_at_call 211; refine (pTest_ _ _ _).mono ?_; rintro e w1 ⟨rfl, hb⟩; obtain ⟨w2, rfl, hb2⟩ := unput hi hb; replace hb0 := bt hb0 hb2; replace hI := hI.kept hb2; have hi := hI.inb) | (go_at_call 55; refine (numberQ_ B  _ _ (by assumption)).mono (QPost.thru hb0 (fun v s1 w1 hq hb0 hI hi => ?_))) | (go_at_call 118; refine (sumQ_ B _ _ _ _ (by assumption)).mono (QPost.thru hb0 (fun v s1 w1 hq hb0 hI hi => ?_)))))
  all_goals first
    | (refine bodyPost_end (results_none rfl _ _ _) rfl (QPost.done (v := ()) ?_ rfl hb0 hI); simp [highQ, *]; done)
    | (refine bodyPost_ret (results_none rfl _ _ _) rfl (QPost.done (v := ()) ?_ rfl hb0 hI); simp [highQ, QC.hl', *]; done)
set_option maxHeartbeats 6000000 in
set_option maxRecDepth 20000 in
theorem high_9Q_ (B : Nat) (y : Int) (z : Int) (p : Int) (q : Int) (s : QS) (w : World) (hI : QInv B w s.gv s.got) (h0 : ¬ z = 0) (h1 : ¬ z = 1) (h2 : ¬ z = 2) (h3 : ¬ z = 3) (h4 : ¬ z = 4) (h5 : ¬ z = 5) (h6 : ¬ z = 6) : Calls Tryz.prog 119 #[.pointer (some ⟨B, 0, none⟩), .int .i64 y, .int .i64 z, .int .i64 p, .int .i64 q] (put w B s.cells) (QPost B w eU (runQ (highQ y z p q) s)) := by
  have hi := hI.inb
  have hb0 := Below.refl w.heap.size w
  go_enter Tryz.func119, Tryz.ntmps119
  all_goals (try go_wp2_with (first | (go_at_call 105; refine (fQ_ B _ _ (by assumption)).mono ?_; rintro e w1 ⟨rfl, rfl⟩) | (go_at_call 211; refine (pTest_ _ _ _).mono ?_; rintro e w1 ⟨rfl, hb⟩; obtain ⟨w2, rfl, hb2⟩ := unput hi hb; replace hb0 := bt hb0 hb2; replace hI := hI.kept hb2; have hi := hI.inb) | (go_at_call 58; refine (statesQ_ B _ _ _ (by assumption)).mono (QPost.thru hb0 (fun v s1 w1 hq hb0 hI hi => ?_))) | (go_at_call 215; refine (pushQ_ B _ _ _ (by assumption)).mono (QPost.thru hb0 (fun v s1 w1 hq hb0 hI hi => ?_)))))
  all_goals first
    | (refine bodyPost_end (results_none rfl _ _ _) rfl (QPost.done (v := ()) ?_ rfl hb0 hI); simp [highQ, *]; done)
    | (refine bodyPost_ret (results_none rfl _ _ _) rfl (QPost.done (v := ()) ?_ rfl hb0 hI); simp [highQ, QC.hl', *]; done)
theorem highQ_ (B : Nat) (y : Int) (z : Int) (p : Int) (q : Int) (s : QS) (w : World) (hI : QInv B w s.gv s.got) : Calls Tryz.prog 119 #[.pointer (some ⟨B, 0, none⟩), .int .i64 y, .int .i64 z, .int .i64 p, .int .i64 q] (put w B s.cells) (QPost B w eU (runQ (highQ y z p q) s)) := by
  rcases (show (z = 0) ∨ (z = 1) ∨ (z = 2) ∨ (z = 3) ∨ (z = 4) ∨ (z = 5 ∧ q = 1) ∨ (z = 5 ∧ ¬ q = 1 ∧ p = 3) ∨ (z = 5 ∧ ¬ q = 1 ∧ ¬ p = 3) ∨ (z = 6) ∨ (¬ z = 0 ∧ ¬ z = 1 ∧ ¬ z = 2 ∧ ¬ z = 3 ∧ ¬ z = 4 ∧ ¬ z = 5 ∧ ¬ z = 6) by omega) with hz | hz | hz | hz | hz | ⟨hz, hq1⟩ | ⟨hz, hq1, hp⟩ | ⟨hz, hq1, hp⟩ | hz | ⟨h0, h1, h2, h3, h4, h5, h6⟩
  · exact high_0Q_ B y z p q s w hI hz
  · exact high_1Q_ B y z p q s w hI hz
  · exact high_2Q_ B y z p q s w hI hz
  · exact high_3Q_ B y z p q s w hI hz
  · exact high_4Q_ B y z p q s w hI hz
  · exact high_5Q_ B y z p q s w hI hz hq1
  · exact high_6Q_ B y z p q s w hI hz hq1 hp
  · exact high_7Q_ B y z p q s w hI hz hq1 hp
  · exact high_8Q_ B y z p q s w hI hz
  · exact high_9Q_ B y z p q s w hI h0 h1 h2 h3 h4 h5 h6
end Go.Proofs.YtnaampdpkegacaaGreatDoor
