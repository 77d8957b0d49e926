/-
  Contract of the reference 12's ed. A helper of the claims that stand beside it. (Printed by wip/genrs.py.)
-/
import Derived.Test.YtnaampdpkegacaaGreatDoorrva
import Derived.Test.YtnaampdpkegacaaGreatDoorrvb
import Derived.Test.YtnaampdpkegacaaGreatDoorru
namespace Go.Proofs.YtnaampdpkegacaaGreatDoor
open Go.RowKit

set_option maxHeartbeats 6000000 in
set_option maxRecDepth 20000 in
theorem ed_0Q_ (B : Nat) (c : U8) (s : QS) (w : World) (hI : QInv B w s.gv s.got) (hx : fx c = 2) (hz : fz c < 4) (hy : 3 < fy c) : Calls Tryz.prog 53 #[.pointer (some ⟨B, 0, none⟩), .int .u8 c.v] (put w B s.cells) (QPost B w eU (runQ (edQ c) s)) := by
  have hi := hI.inb
  have hb0 := Below.refl w.heap.size w
  have y0 : 0 ≤ fy c := by unfold fy; omega
  have y1 : fy c ≤ 7 := by unfold fy; omega
  have z0 : 0 ≤ fz c := by unfold fz; omega
  have z1 : fz c ≤ 7 := by unfold fz; omega
  have hne := hi.ne
  go_enter Tryz.func53, Tryz.ntmps53
  all_goals (try go_wp2_with (first | (go_at_call 36; refine (p8Fields_ _ _).mono ?_; rintro e w1 ⟨rfl, rfl⟩) | (go_at_call 95; refine (blockQ_ B _ _ _ _ (by assumption) (by omega) (by omega) (by omega)).mono (QPost.thru hb0 (fun v s1 w1 hq hb0 hI hi => ?_)))))
  all_goals first
    | (refine bodyPost_end (results_none rfl _ _ _) rfl (QPost.done (v := ()) ?_ rfl hb0 hI); simp [edQ, *]; done)
    | (refine bodyPost_ret (results_none rfl _ _ _) rfl (QPost.done (v := ()) ?_ rfl hb0 hI); simp [edQ, edmQ, modeQ, QC.hl', *]; done)
    | (refine bodyPost_end (results_none rfl _ _ _) rfl (QPost.done (v := ()) ?_ rfl (bt hb0 (by go_grown)) (hI.kept (by go_grown))); simp [edQ, edmQ, modeQ, *]; done)
    | (have hz' : ¬ fz c < 4 := (by omega); refine bodyPost_ret (results_none rfl _ _ _) rfl (QPost.done (v := ()) ?_ rfl hb0 hI); simp [edQ, *]; done)
    | (have hz' : ¬ 3 < fy c := (by omega); refine bodyPost_ret (results_none rfl _ _ _) rfl (QPost.done (v := ()) ?_ rfl hb0 hI); simp [edQ, *]; done)
set_option maxHeartbeats 6000000 in
set_option maxRecDepth 20000 in
theorem ed_1Q_ (B : Nat) (c : U8) (s : QS) (w : World) (hI : QInv B w s.gv s.got) (hx : fx c = 2) (hz : ¬ fz c < 4) : Calls Tryz.prog 53 #[.pointer (some ⟨B, 0, none⟩), .int .u8 c.v] (put w B s.cells) (QPost B w eU (runQ (edQ c) s)) := by
  have hi := hI.inb
  have hb0 := Below.refl w.heap.size w
  have y0 : 0 ≤ fy c := by unfold fy; omega
  have y1 : fy c ≤ 7 := by unfold fy; omega
  have z0 : 0 ≤ fz c := by unfold fz; omega
  have z1 : fz c ≤ 7 := by unfold fz; omega
  have hne := hi.ne
  go_enter Tryz.func53, Tryz.ntmps53
  all_goals (try go_wp2_with (first | (go_at_call 36; refine (p8Fields_ _ _).mono ?_; rintro e w1 ⟨rfl, rfl⟩)))
  all_goals first
    | (refine bodyPost_end (results_none rfl _ _ _) rfl (QPost.done (v := ()) ?_ rfl hb0 hI); simp [edQ, *]; done)
    | (refine bodyPost_ret (results_none rfl _ _ _) rfl (QPost.done (v := ()) ?_ rfl hb0 hI); simp [edQ, *]; done)
    | (refine bodyPost_end (results_none rfl _ _ _) rfl (QPost.done (v := ()) ?_ rfl (bt hb0 (by go_grown)) (hI.kept (by go_grown))); simp [edQ, *]; done)
    | (have hz' : ¬ fz c < 4 := (by omega); refine bodyPost_ret (results_none rfl _ _ _) rfl (QPost.done (v := ()) ?_ rfl hb0 hI); simp [edQ, *]; done)
    | (have hz' : ¬ 3 < fy c := (by omega); refine bodyPost_ret (results_none rfl _ _ _) rfl (QPost.done (v := ()) ?_ rfl hb0 hI); simp [edQ, *]; done)
set_option maxHeartbeats 6000000 in
set_option maxRecDepth 20000 in
theorem ed_2Q_ (B : Nat) (c : U8) (s : QS) (w : World) (hI : QInv B w s.gv s.got) (hx : fx c = 2) (hz : fz c < 4) (hy : ¬ 3 < fy c) : Calls Tryz.prog 53 #[.pointer (some ⟨B, 0, none⟩), .int .u8 c.v] (put w B s.cells) (QPost B w eU (runQ (edQ c) s)) := by
  have hi := hI.inb
  have hb0 := Below.refl w.heap.size w
  have y0 : 0 ≤ fy c := by unfold fy; omega
  have y1 : fy c ≤ 7 := by unfold fy; omega
  have z0 : 0 ≤ fz c := by unfold fz; omega
  have z1 : fz c ≤ 7 := by unfold fz; omega
  have hne := hi.ne
  go_enter Tryz.func53, Tryz.ntmps53
  all_goals (try go_wp2_with (first | (go_at_call 36; refine (p8Fields_ _ _).mono ?_; rintro e w1 ⟨rfl, rfl⟩)))
  all_goals first
    | (refine bodyPost_end (results_none rfl _ _ _) rfl (QPost.done (v := ()) ?_ rfl hb0 hI); simp [edQ, *]; done)
    | (refine bodyPost_ret (results_none rfl _ _ _) rfl (QPost.done (v := ()) ?_ rfl hb0 hI); simp [edQ, *]; done)
    | (refine bodyPost_end (results_none rfl _ _ _) rfl (QPost.done (v := ()) ?_ rfl (bt hb0 (by go_grown)) (hI.kept (by go_grown))); simp [edQ, *]; done)
    | (have hz' : ¬ fz c < 4 := (by omega); refine bodyPost_ret (results_none rfl _ _ _) rfl (QPost.done (v := ()) ?_ rfl hb0 hI); simp [edQ, *]; done)
    | (have hz' : ¬ 3 < fy c := (by omega); refine bodyPost_ret (results_none rfl _ _ _) rfl (QPost.done (v := ()) ?_ rfl hb0 hI); simp [edQ, *]; done)
set_option maxHeartbeats 6000000 in
set_option maxRecDepth 20000 in
theorem ed_3Q_ (B : Nat) (c : U8) (s : QS) (w : World) (hI : QInv B w s.gv s.got) (hx : ¬ fx c = 2) (hx1 : ¬ fx c = 1) : Calls Tryz.prog 53 #[.pointer (some ⟨B, 0, none⟩), .int .u8 c.v] (put w B s.cells) (QPost B w eU (runQ (edQ c) s)) := by
  have hi := hI.inb
  have hb0 := Below.refl w.heap.size w
  have y0 : 0 ≤ fy c := by unfold fy; omega
  have y1 : fy c ≤ 7 := by unfold fy; omega
  have z0 : 0 ≤ fz c := by unfold fz; omega
  have z1 : fz c ≤ 7 := by unfold fz; omega
  have hne := hi.ne
  go_enter Tryz.func53, Tryz.ntmps53
  all_goals (try go_wp2_with (first | (go_at_call 36; refine (p8Fields_ _ _).mono ?_; rintro e w1 ⟨rfl, rfl⟩)))
  all_goals first
    | (refine bodyPost_end (results_none rfl _ _ _) rfl (QPost.done (v := ()) ?_ rfl hb0 hI); simp [edQ, *]; done)
    | (refine bodyPost_ret (results_none rfl _ _ _) rfl (QPost.done (v := ()) ?_ rfl hb0 hI); simp [edQ, edmQ, modeQ, QC.hl', *]; done)
    | (refine bodyPost_end (results_none rfl _ _ _) rfl (QPost.done (v := ()) ?_ rfl (bt hb0 (by go_grown)) (hI.kept (by go_grown))); simp [edQ, edmQ, modeQ, *]; done)
    | (have hz' : ¬ fz c < 4 := (by omega); refine bodyPost_ret (results_none rfl _ _ _) rfl (QPost.done (v := ()) ?_ rfl hb0 hI); simp [edQ, *]; done)
    | (have hz' : ¬ 3 < fy c := (by omega); refine bodyPost_ret (results_none rfl _ _ _) rfl (QPost.done (v := ()) ?_ rfl hb0 hI); simp [edQ, *]; done)
set_option maxHeartbeats 6000000 in
set_option maxRecDepth 20000 in
theorem ed_4Q_ (B : Nat) (c : U8) (s : QS) (w : World) (hI : QInv B w s.gv s.got) (hx : fx c = 1) (hz : fz c = 0) (hy : fy c = 6) : Calls Tryz.prog 53 #[.pointer (some ⟨B, 0, none⟩), .int .u8 c.v] (put w B s.cells) (QPost B w eU (runQ (edQ c) s)) := by
  have hi := hI.inb
  have hb0 := Below.refl w.heap.size w
  have y0 : 0 ≤ fy c := by unfold fy; omega
  have y1 : fy c ≤ 7 := by unfold fy; omega
  have z0 : 0 ≤ fz c := by unfold fz; omega
  have z1 : fz c ≤ 7 := by unfold fz; omega
  have hne := hi.ne
  go_enter Tryz.func53, Tryz.ntmps53
  all_goals (try go_wp2_with (first | (go_at_call 36; refine (p8Fields_ _ _).mono ?_; rintro e w1 ⟨rfl, rfl⟩) | (go_at_call 26; refine (cycR_ B 4 _ (u8 0) 4 _ _ (by assumption)).mono (QPost.thru hb0 (fun v s1 w1 hq hb0 hI hi => ?_))) | (go_at_call 97; refine (aQ_ B _ _ (by assumption)).mono ?_; rintro e w1 ⟨rfl, rfl⟩) | (go_at_call 99; refine (pEven_ _ _).mono ?_; rintro e w1 ⟨rfl, hb⟩; obtain ⟨w2, rfl, hb2⟩ := unput hi hb; replace hb0 := bt hb0 hb2; replace hI := hI.kept hb2; have hi := hI.inb) | (go_at_call 100; refine (carryQ_ B _ _ (by assumption)).mono ?_; rintro e w1 ⟨rfl, rfl⟩) | (go_at_call 98; refine (pWith_ _ _ _ _).mono ?_; rintro e w1 ⟨rfl, rfl⟩) | (go_at_call 96; refine (putQ_ B _ _ _ _ (by assumption)).mono (QPost.thru hb0 (fun v s1 w1 hq hb0 hI hi => ?_)))))
  all_goals first
    | (refine bodyPost_end (results_none rfl _ _ _) rfl (QPost.done (v := ()) ?_ rfl hb0 hI); simp [edQ, edmQ, *]; done)
    | (refine bodyPost_ret (results_none rfl _ _ _) rfl (QPost.done (v := ()) ?_ rfl hb0 hI); simp [edQ, edmQ, modeQ, QC.hl', *]; done)
    | (refine bodyPost_end (results_none rfl _ _ _) rfl (QPost.done (v := ()) ?_ rfl (bt hb0 (by go_grown)) (hI.kept (by go_grown))); simp [edQ, edmQ, modeQ, *]; done)
    | (have hz' : ¬ fz c < 4 := (by omega); refine bodyPost_ret (results_none rfl _ _ _) rfl (QPost.done (v := ()) ?_ rfl hb0 hI); simp [edQ, *]; done)
    | (have hz' : ¬ 3 < fy c := (by omega); refine bodyPost_ret (results_none rfl _ _ _) rfl (QPost.done (v := ()) ?_ rfl hb0 hI); simp [edQ, *]; done)
set_option maxHeartbeats 6000000 in
set_option maxRecDepth 20000 in
theorem ed_5Q_ (B : Nat) (c : U8) (s : QS) (w : World) (hI : QInv B w s.gv s.got) (hx : fx c = 1) (hz : fz c = 0) (hy : ¬ fy c = 6) : Calls Tryz.prog 53 #[.pointer (some ⟨B, 0, none⟩), .int .u8 c.v] (put w B s.cells) (QPost B w eU (runQ (edQ c) s)) := by
  have hi := hI.inb
  have hb0 := Below.refl w.heap.size w
  have y0 : 0 ≤ fy c := by unfold fy; omega
  have y1 : fy c ≤ 7 := by unfold fy; omega
  have z0 : 0 ≤ fz c := by unfold fz; omega
  have z1 : fz c ≤ 7 := by unfold fz; omega
  have hne := hi.ne
  go_enter Tryz.func53, Tryz.ntmps53
  all_goals (try go_wp2_with (first | (go_at_call 36; refine (p8Fields_ _ _).mono ?_; rintro e w1 ⟨rfl, rfl⟩) | (go_at_call 26; refine (cycR_ B 4 _ (u8 0) 4 _ _ (by assumption)).mono (QPost.thru hb0 (fun v s1 w1 hq hb0 hI hi => ?_))) | (go_at_call 97; refine (aQ_ B _ _ (by assumption)).mono ?_; rintro e w1 ⟨rfl, rfl⟩) | (go_at_call 99; refine (pEven_ _ _).mono ?_; rintro e w1 ⟨rfl, hb⟩; obtain ⟨w2, rfl, hb2⟩ := unput hi hb; replace hb0 := bt hb0 hb2; replace hI := hI.kept hb2; have hi := hI.inb) | (go_at_call 100; refine (carryQ_ B _ _ (by assumption)).mono ?_; rintro e w1 ⟨rfl, rfl⟩) | (go_at_call 98; refine (pWith_ _ _ _ _).mono ?_; rintro e w1 ⟨rfl, rfl⟩) | (go_at_call 96; refine (putQ_ B _ _ _ _ (by assumption)).mono (QPost.thru hb0 (fun v s1 w1 hq hb0 hI hi => ?_))) | (go_at_call 101; refine (setQ_ B _ _ _ _ (by assumption)).mono (QPost.thru hb0 (fun v s1 w1 hq hb0 hI hi => ?_)))))
  all_goals first
    | (refine bodyPost_end (results_none rfl _ _ _) rfl (QPost.done (v := ()) ?_ rfl hb0 hI); simp [edQ, edmQ, *]; done)
    | (refine bodyPost_ret (results_none rfl _ _ _) rfl (QPost.done (v := ()) ?_ rfl hb0 hI); simp [edQ, edmQ, modeQ, QC.hl', *]; done)
    | (refine bodyPost_end (results_none rfl _ _ _) rfl (QPost.done (v := ()) ?_ rfl (bt hb0 (by go_grown)) (hI.kept (by go_grown))); simp [edQ, edmQ, modeQ, *]; done)
    | (have hz' : ¬ fz c < 4 := (by omega); refine bodyPost_ret (results_none rfl _ _ _) rfl (QPost.done (v := ()) ?_ rfl hb0 hI); simp [edQ, *]; done)
    | (have hz' : ¬ 3 < fy c := (by omega); refine bodyPost_ret (results_none rfl _ _ _) rfl (QPost.done (v := ()) ?_ rfl hb0 hI); simp [edQ, *]; done)
set_option maxHeartbeats 6000000 in
set_option maxRecDepth 20000 in
theorem ed_6Q_ (B : Nat) (c : U8) (s : QS) (w : World) (hI : QInv B w s.gv s.got) (hx : fx c = 1) (hz : fz c = 1) (hy : fy c = 6) : Calls Tryz.prog 53 #[.pointer (some ⟨B, 0, none⟩), .int .u8 c.v] (put w B s.cells) (QPost B w eU (runQ (edQ c) s)) := by
  have hi := hI.inb
  have hb0 := Below.refl w.heap.size w
  have y0 : 0 ≤ fy c := by unfold fy; omega
  have y1 : fy c ≤ 7 := by unfold fy; omega
  have z0 : 0 ≤ fz c := by unfold fz; omega
  have z1 : fz c ≤ 7 := by unfold fz; omega
  have hne := hi.ne
  go_enter Tryz.func53, Tryz.ntmps53
  all_goals (try go_wp2_with (first | (go_at_call 36; refine (p8Fields_ _ _).mono ?_; rintro e w1 ⟨rfl, rfl⟩) | (go_at_call 26; refine (cycR_ B 5 _ (u8 0) 4 _ _ (by assumption)).mono (QPost.thru hb0 (fun v s1 w1 hq hb0 hI hi => ?_)))))
  all_goals first
    | (refine bodyPost_end (results_none rfl _ _ _) rfl (QPost.done (v := ()) ?_ rfl hb0 hI); simp [edQ, edmQ, *]; done)
    | (refine bodyPost_ret (results_none rfl _ _ _) rfl (QPost.done (v := ()) ?_ rfl hb0 hI); simp [edQ, edmQ, modeQ, QC.hl', *]; done)
    | (refine bodyPost_end (results_none rfl _ _ _) rfl (QPost.done (v := ()) ?_ rfl (bt hb0 (by go_grown)) (hI.kept (by go_grown))); simp [edQ, edmQ, modeQ, *]; done)
    | (have hz' : ¬ fz c < 4 := (by omega); refine bodyPost_ret (results_none rfl _ _ _) rfl (QPost.done (v := ()) ?_ rfl hb0 hI); simp [edQ, *]; done)
    | (have hz' : ¬ 3 < fy c := (by omega); refine bodyPost_ret (results_none rfl _ _ _) rfl (QPost.done (v := ()) ?_ rfl hb0 hI); simp [edQ, *]; done)
set_option maxHeartbeats 6000000 in
set_option maxRecDepth 20000 in
theorem ed_7Q_ (B : Nat) (c : U8) (s : QS) (w : World) (hI : QInv B w s.gv s.got) (hx : fx c = 1) (hz : fz c = 1) (hy : ¬ fy c = 6) : Calls Tryz.prog 53 #[.pointer (some ⟨B, 0, none⟩), .int .u8 c.v] (put w B s.cells) (QPost B w eU (runQ (edQ c) s)) := by
  have hi := hI.inb
  have hb0 := Below.refl w.heap.size w
  have y0 : 0 ≤ fy c := by unfold fy; omega
  have y1 : fy c ≤ 7 := by unfold fy; omega
  have z0 : 0 ≤ fz c := by unfold fz; omega
  have z1 : fz c ≤ 7 := by unfold fz; omega
  have hne := hi.ne
  go_enter Tryz.func53, Tryz.ntmps53
  all_goals (try go_wp2_with (first | (go_at_call 36; refine (p8Fields_ _ _).mono ?_; rintro e w1 ⟨rfl, rfl⟩) | (go_at_call 102; refine (getQ_ B _ _ _ (by assumption)).mono (QPost.thru hb0 (fun v s1 w1 hq hb0 hI hi => ?_))) | (go_at_call 26; refine (cycR_ B 5 _ _ 4 _ _ (by assumption)).mono (QPost.thru hb0 (fun v s1 w1 hq hb0 hI hi => ?_)))))
  all_goals first
    | (refine bodyPost_end (results_none rfl _ _ _) rfl (QPost.done (v := ()) ?_ rfl hb0 hI); simp [edQ, edmQ, *]; done)
    | (refine bodyPost_ret (results_none rfl _ _ _) rfl (QPost.done (v := ()) ?_ rfl hb0 hI); simp [edQ, edmQ, modeQ, QC.hl', *]; done)
    | (refine bodyPost_end (results_none rfl _ _ _) rfl (QPost.done (v := ()) ?_ rfl (bt hb0 (by go_grown)) (hI.kept (by go_grown))); simp [edQ, edmQ, modeQ, *]; done)
    | (have hz' : ¬ fz c < 4 := (by omega); refine bodyPost_ret (results_none rfl _ _ _) rfl (QPost.done (v := ()) ?_ rfl hb0 hI); simp [edQ, *]; done)
    | (have hz' : ¬ 3 < fy c := (by omega); refine bodyPost_ret (results_none rfl _ _ _) rfl (QPost.done (v := ()) ?_ rfl hb0 hI); simp [edQ, *]; done)
set_option maxHeartbeats 6000000 in
set_option maxRecDepth 20000 in
theorem ed_10Q_ (B : Nat) (c : U8) (s : QS) (w : World) (hI : QInv B w s.gv s.got) (hx : fx c = 1) (hz : fz c = 3) : Calls Tryz.prog 53 #[.pointer (some ⟨B, 0, none⟩), .int .u8 c.v] (put w B s.cells) (QPost B w eU (runQ (edQ c) s)) := by
  have hi := hI.inb
  have hb0 := Below.refl w.heap.size w
  have y0 : 0 ≤ fy c := by unfold fy; omega
  have y1 : fy c ≤ 7 := by unfold fy; omega
  have z0 : 0 ≤ fz c := by unfold fz; omega
  have z1 : fz c ≤ 7 := by unfold fz; omega
  have hne := hi.ne
  go_enter Tryz.func53, Tryz.ntmps53
  all_goals (try go_wp2_with (first | (go_at_call 36; refine (p8Fields_ _ _).mono ?_; rintro e w1 ⟨rfl, rfl⟩) | (go_at_call 107; refine (wordsQ_ B _ _ _ _ (by assumption)).mono (QPost.thru hb0 (fun v s1 w1 hq hb0 hI hi => ?_)))))
  all_goals first
    | (refine bodyPost_end (results_none rfl _ _ _) rfl (QPost.done (v := ()) ?_ rfl hb0 hI); simp [edQ, edmQ, *]; done)
    | (refine bodyPost_ret (results_none rfl _ _ _) rfl (QPost.done (v := ()) ?_ rfl hb0 hI); simp [edQ, edmQ, modeQ, QC.hl', *]; done)
    | (refine bodyPost_end (results_none rfl _ _ _) rfl (QPost.done (v := ()) ?_ rfl (bt hb0 (by go_grown)) (hI.kept (by go_grown))); simp [edQ, edmQ, modeQ, *]; done)
    | (have hz' : ¬ fz c < 4 := (by omega); refine bodyPost_ret (results_none rfl _ _ _) rfl (QPost.done (v := ()) ?_ rfl hb0 hI); simp [edQ, *]; done)
    | (have hz' : ¬ 3 < fy c := (by omega); refine bodyPost_ret (results_none rfl _ _ _) rfl (QPost.done (v := ()) ?_ rfl hb0 hI); simp [edQ, *]; done)
set_option maxHeartbeats 6000000 in
set_option maxRecDepth 20000 in
theorem ed_11Q_ (B : Nat) (c : U8) (s : QS) (w : World) (hI : QInv B w s.gv s.got) (hx : fx c = 1) (hz : fz c = 4) : Calls Tryz.prog 53 #[.pointer (some ⟨B, 0, none⟩), .int .u8 c.v] (put w B s.cells) (QPost B w eU (runQ (edQ c) s)) := by
  have hi := hI.inb
  have hb0 := Below.refl w.heap.size w
  have y0 : 0 ≤ fy c := by unfold fy; omega
  have y1 : fy c ≤ 7 := by unfold fy; omega
  have z0 : 0 ≤ fz c := by unfold fz; omega
  have z1 : fz c ≤ 7 := by unfold fz; omega
  have hne := hi.ne
  go_enter Tryz.func53, Tryz.ntmps53
  all_goals (try go_wp2_with (first | (go_at_call 36; refine (p8Fields_ _ _).mono ?_; rintro e w1 ⟨rfl, rfl⟩) | (go_at_call 97; refine (aQ_ B _ _ (by assumption)).mono ?_; rintro e w1 ⟨rfl, rfl⟩) | (go_at_call 108; refine (pNeg_ _ _).mono ?_; rintro e w1 ⟨rfl, hb⟩; obtain ⟨w2, rfl, hb2⟩ := unput hi hb; replace hb0 := bt hb0 hb2; replace hI := hI.kept hb2; have hi := hI.inb) | (go_at_call 96; refine (putQ_ B _ _ _ _ (by assumption)).mono (QPost.thru hb0 (fun v s1 w1 hq hb0 hI hi => ?_)))))
  all_goals first
    | (refine bodyPost_end (results_none rfl _ _ _) rfl (QPost.done (v := ()) ?_ rfl hb0 hI); simp [edQ, edmQ, *]; done)
    | (refine bodyPost_ret (results_none rfl _ _ _) rfl (QPost.done (v := ()) ?_ rfl hb0 hI); simp [edQ, edmQ, modeQ, QC.hl', *]; done)
    | (refine bodyPost_end (results_none rfl _ _ _) rfl (QPost.done (v := ()) ?_ rfl (bt hb0 (by go_grown)) (hI.kept (by go_grown))); simp [edQ, edmQ, modeQ, *]; done)
    | (have hz' : ¬ fz c < 4 := (by omega); refine bodyPost_ret (results_none rfl _ _ _) rfl (QPost.done (v := ()) ?_ rfl hb0 hI); simp [edQ, *]; done)
    | (have hz' : ¬ 3 < fy c := (by omega); refine bodyPost_ret (results_none rfl _ _ _) rfl (QPost.done (v := ()) ?_ rfl hb0 hI); simp [edQ, *]; done)
set_option maxHeartbeats 6000000 in
set_option maxRecDepth 20000 in
theorem ed_12Q_ (B : Nat) (c : U8) (s : QS) (w : World) (hI : QInv B w s.gv s.got) (hx : fx c = 1) (hz : fz c = 5) : Calls Tryz.prog 53 #[.pointer (some ⟨B, 0, none⟩), .int .u8 c.v] (put w B s.cells) (QPost B w eU (runQ (edQ c) s)) := by
  have hi := hI.inb
  have hb0 := Below.refl w.heap.size w
  have y0 : 0 ≤ fy c := by unfold fy; omega
  have y1 : fy c ≤ 7 := by unfold fy; omega
  have z0 : 0 ≤ fz c := by unfold fz; omega
  have z1 : fz c ≤ 7 := by unfold fz; omega
  have hne := hi.ne
  go_enter Tryz.func53, Tryz.ntmps53
  all_goals (try go_wp2_with (first | (go_at_call 36; refine (p8Fields_ _ _).mono ?_; rintro e w1 ⟨rfl, rfl⟩) | (go_at_call 109; refine (backQ_ B  _ _ (by assumption)).mono (QPost.thru hb0 (fun v s1 w1 hq hb0 hI hi => ?_)))))
  all_goals first
    | (refine bodyPost_end (results_none rfl _ _ _) rfl (QPost.done (v := ()) ?_ rfl hb0 hI); simp [edQ, edmQ, *]; done)
    | (refine bodyPost_ret (results_none rfl _ _ _) rfl (QPost.done (v := ()) ?_ rfl hb0 hI); simp [edQ, edmQ, modeQ, QC.hl', *]; done)
    | (refine bodyPost_end (results_none rfl _ _ _) rfl (QPost.done (v := ()) ?_ rfl (bt hb0 (by go_grown)) (hI.kept (by go_grown))); simp [edQ, edmQ, modeQ, *]; done)
    | (have hz' : ¬ fz c < 4 := (by omega); refine bodyPost_ret (results_none rfl _ _ _) rfl (QPost.done (v := ()) ?_ rfl hb0 hI); simp [edQ, *]; done)
    | (have hz' : ¬ 3 < fy c := (by omega); refine bodyPost_ret (results_none rfl _ _ _) rfl (QPost.done (v := ()) ?_ rfl hb0 hI); simp [edQ, *]; done)
set_option maxHeartbeats 6000000 in
set_option maxRecDepth 20000 in
theorem ed_13Q_ (B : Nat) (c : U8) (s : QS) (w : World) (hI : QInv B w s.gv s.got) (hx : fx c = 1) (hz : fz c = 6) (hy : fy c = 0) : Calls Tryz.prog 53 #[.pointer (some ⟨B, 0, none⟩), .int .u8 c.v] (put w B s.cells) (QPost B w eU (runQ (edQ c) s)) := by
  have hi := hI.inb
  have hb0 := Below.refl w.heap.size w
  have y0 : 0 ≤ fy c := by unfold fy; omega
  have y1 : fy c ≤ 7 := by unfold fy; omega
  have z0 : 0 ≤ fz c := by unfold fz; omega
  have z1 : fz c ≤ 7 := by unfold fz; omega
  have hne := hi.ne
  go_enter Tryz.func53, Tryz.ntmps53
  all_goals (try go_wp2_with (first | (go_at_call 36; refine (p8Fields_ _ _).mono ?_; rintro e w1 ⟨rfl, rfl⟩)))
  all_goals first
    | (refine bodyPost_end (results_none rfl _ _ _) rfl (QPost.done (v := ()) ?_ rfl hb0 hI); simp [edQ, edmQ, modeQ, QC.hl', *]; done)
    | (refine bodyPost_ret (results_none rfl _ _ _) rfl (QPost.done (v := ()) ?_ rfl hb0 hI); simp [edQ, edmQ, modeQ, QC.hl', *]; done)
    | (refine bodyPost_end (results_none rfl _ _ _) rfl (QPost.done (v := ()) ?_ rfl (bt hb0 (by go_grown)) (hI.kept (by go_grown))); simp [edQ, edmQ, modeQ, *]; done)
    | (have hz' : ¬ fz c < 4 := (by omega); refine bodyPost_ret (results_none rfl _ _ _) rfl (QPost.done (v := ()) ?_ rfl hb0 hI); simp [edQ, *]; done)
    | (have hz' : ¬ 3 < fy c := (by omega); refine bodyPost_ret (results_none rfl _ _ _) rfl (QPost.done (v := ()) ?_ rfl hb0 hI); simp [edQ, *]; done)
set_option maxHeartbeats 6000000 in
set_option maxRecDepth 20000 in
theorem ed_14Q_ (B : Nat) (c : U8) (s : QS) (w : World) (hI : QInv B w s.gv s.got) (hx : fx c = 1) (hz : fz c = 6) (hy : fy c = 1) : Calls Tryz.prog 53 #[.pointer (some ⟨B, 0, none⟩), .int .u8 c.v] (put w B s.cells) (QPost B w eU (runQ (edQ c) s)) := by
  have hi := hI.inb
  have hb0 := Below.refl w.heap.size w
  have y0 : 0 ≤ fy c := by unfold fy; omega
  have y1 : fy c ≤ 7 := by unfold fy; omega
  have z0 : 0 ≤ fz c := by unfold fz; omega
  have z1 : fz c ≤ 7 := by unfold fz; omega
  have hne := hi.ne
  go_enter Tryz.func53, Tryz.ntmps53
  all_goals (try go_wp2_with (first | (go_at_call 36; refine (p8Fields_ _ _).mono ?_; rintro e w1 ⟨rfl, rfl⟩)))
  all_goals first
    | (refine bodyPost_end (results_none rfl _ _ _) rfl (QPost.done (v := ()) ?_ rfl hb0 hI); simp [edQ, edmQ, modeQ, QC.hl', *]; done)
    | (refine bodyPost_ret (results_none rfl _ _ _) rfl (QPost.done (v := ()) ?_ rfl hb0 hI); simp [edQ, edmQ, modeQ, QC.hl', *]; done)
    | (refine bodyPost_end (results_none rfl _ _ _) rfl (QPost.done (v := ()) ?_ rfl (bt hb0 (by go_grown)) (hI.kept (by go_grown))); simp [edQ, edmQ, modeQ, *]; done)
    | (have hz' : ¬ fz c < 4 := (by omega); refine bodyPost_ret (results_none rfl _ _ _) rfl (QPost.done (v := ()) ?_ rfl hb0 hI); simp [edQ, *]; done)
    | (have hz' : ¬ 3 < fy c := (by omega); refine bodyPost_ret (results_none rfl _ _ _) rfl (QPost.done (v := ()) ?_ rfl hb0 hI); simp [edQ, *]; done)
set_option maxHeartbeats 6000000 in
set_option maxRecDepth 20000 in
theorem ed_15Q_ (B : Nat) (c : U8) (s : QS) (w : World) (hI : QInv B w s.gv s.got) (hx : fx c = 1) (hz : fz c = 6) (hy : fy c = 2) : Calls Tryz.prog 53 #[.pointer (some ⟨B, 0, none⟩), .int .u8 c.v] (put w B s.cells) (QPost B w eU (runQ (edQ c) s)) := by
  have hi := hI.inb
  have hb0 := Below.refl w.heap.size w
  have y0 : 0 ≤ fy c := by unfold fy; omega
  have y1 : fy c ≤ 7 := by unfold fy; omega
  have z0 : 0 ≤ fz c := by unfold fz; omega
  have z1 : fz c ≤ 7 := by unfold fz; omega
  have hne := hi.ne
  go_enter Tryz.func53, Tryz.ntmps53
  all_goals (try go_wp2_with (first | (go_at_call 36; refine (p8Fields_ _ _).mono ?_; rintro e w1 ⟨rfl, rfl⟩)))
  all_goals first
    | (refine bodyPost_end (results_none rfl _ _ _) rfl (QPost.done (v := ()) ?_ rfl hb0 hI); simp [edQ, edmQ, modeQ, QC.hl', *]; done)
    | (refine bodyPost_ret (results_none rfl _ _ _) rfl (QPost.done (v := ()) ?_ rfl hb0 hI); simp [edQ, edmQ, modeQ, QC.hl', *]; done)
    | (refine bodyPost_end (results_none rfl _ _ _) rfl (QPost.done (v := ()) ?_ rfl (bt hb0 (by go_grown)) (hI.kept (by go_grown))); simp [edQ, edmQ, modeQ, *]; done)
    | (have hz' : ¬ fz c < 4 := (by omega); refine bodyPost_ret (results_none rfl _ _ _) rfl (QPost.done (v := ()) ?_ rfl hb0 hI); simp [edQ, *]; done)
    | (have hz' : ¬ 3 < fy c := (by omega); refine bodyPost_ret (results_none rfl _ _ _) rfl (QPost.done (v := ()) ?_ rfl hb0 hI); simp [edQ, *]; done)
set_option maxHeartbeats 6000000 in
set_option maxRecDepth 20000 in
theorem ed_16Q_ (B : Nat) (c : U8) (s : QS) (w : World) (hI : QInv B w s.gv s.got) (hx : fx c = 1) (hz : fz c = 6) (hy : fy c = 3) : Calls Tryz.prog 53 #[.pointer (some ⟨B, 0, none⟩), .int .u8 c.v] (put w B s.cells) (QPost B w eU (runQ (edQ c) s)) := by
  have hi := hI.inb
  have hb0 := Below.refl w.heap.size w
  have y0 : 0 ≤ fy c := by unfold fy; omega
  have y1 : fy c ≤ 7 := by unfold fy; omega
  have z0 : 0 ≤ fz c := by unfold fz; omega
  have z1 : fz c ≤ 7 := by unfold fz; omega
  have hne := hi.ne
  go_enter Tryz.func53, Tryz.ntmps53
  all_goals (try go_wp2_with (first | (go_at_call 36; refine (p8Fields_ _ _).mono ?_; rintro e w1 ⟨rfl, rfl⟩)))
  all_goals first
    | (refine bodyPost_end (results_none rfl _ _ _) rfl (QPost.done (v := ()) ?_ rfl hb0 hI); simp [edQ, edmQ, modeQ, QC.hl', *]; done)
    | (refine bodyPost_ret (results_none rfl _ _ _) rfl (QPost.done (v := ()) ?_ rfl hb0 hI); simp [edQ, edmQ, modeQ, QC.hl', *]; done)
    | (refine bodyPost_end (results_none rfl _ _ _) rfl (QPost.done (v := ()) ?_ rfl (bt hb0 (by go_grown)) (hI.kept (by go_grown))); simp [edQ, edmQ, modeQ, *]; done)
    | (have hz' : ¬ fz c < 4 := (by omega); refine bodyPost_ret (results_none rfl _ _ _) rfl (QPost.done (v := ()) ?_ rfl hb0 hI); simp [edQ, *]; done)
    | (have hz' : ¬ 3 < fy c := (by omega); refine bodyPost_ret (results_none rfl _ _ _) rfl (QPost.done (v := ()) ?_ rfl hb0 hI); simp [edQ, *]; done)
set_option maxHeartbeats 6000000 in
set_option maxRecDepth 20000 in
theorem ed_17Q_ (B : Nat) (c : U8) (s : QS) (w : World) (hI : QInv B w s.gv s.got) (hx : fx c = 1) (hz : fz c = 6) (hy : fy c = 4) : Calls Tryz.prog 53 #[.pointer (some ⟨B, 0, none⟩), .int .u8 c.v] (put w B s.cells) (QPost B w eU (runQ (edQ c) s)) := by
  have hi := hI.inb
  have hb0 := Below.refl w.heap.size w
  have y0 : 0 ≤ fy c := by unfold fy; omega
  have y1 : fy c ≤ 7 := by unfold fy; omega
  have z0 : 0 ≤ fz c := by unfold fz; omega
  have z1 : fz c ≤ 7 := by unfold fz; omega
  have hne := hi.ne
  go_enter Tryz.func53, Tryz.ntmps53
  all_goals (try go_wp2_with (first | (go_at_call 36; refine (p8Fields_ _ _).mono ?_; rintro e w1 ⟨rfl, rfl⟩)))
  all_goals first
    | (refine bodyPost_end (results_none rfl _ _ _) rfl (QPost.done (v := ()) ?_ rfl hb0 hI); simp [edQ, edmQ, modeQ, QC.hl', *]; done)
    | (refine bodyPost_ret (results_none rfl _ _ _) rfl (QPost.done (v := ()) ?_ rfl hb0 hI); simp [edQ, edmQ, modeQ, QC.hl', *]; done)
    | (refine bodyPost_end (results_none rfl _ _ _) rfl (QPost.done (v := ()) ?_ rfl (bt hb0 (by go_grown)) (hI.kept (by go_grown))); simp [edQ, edmQ, modeQ, *]; done)
    | (have hz' : ¬ fz c < 4 := (by omega); refine bodyPost_ret (results_none rfl _ _ _) rfl (QPost.done (v := ()) ?_ rfl hb0 hI); simp [edQ, *]; done)
    | (have hz' : ¬ 3 < fy c := (by omega); refine bodyPost_ret (results_none rfl _ _ _) rfl (QPost.done (v := ()) ?_ rfl hb0 hI); simp [edQ, *]; done)
set_option maxHeartbeats 6000000 in
set_option maxRecDepth 20000 in
theorem ed_18Q_ (B : Nat) (c : U8) (s : QS) (w : World) (hI : QInv B w s.gv s.got) (hx : fx c = 1) (hz : fz c = 6) (hy : fy c = 5) : Calls Tryz.prog 53 #[.pointer (some ⟨B, 0, none⟩), .int .u8 c.v] (put w B s.cells) (QPost B w eU (runQ (edQ c) s)) := by
  have hi := hI.inb
  have hb0 := Below.refl w.heap.size w
  have y0 : 0 ≤ fy c := by unfold fy; omega
  have y1 : fy c ≤ 7 := by unfold fy; omega
  have z0 : 0 ≤ fz c := by unfold fz; omega
  have z1 : fz c ≤ 7 := by unfold fz; omega
  have hne := hi.ne
  go_enter Tryz.func53, Tryz.ntmps53
  all_goals (try go_wp2_with (first | (go_at_call 36; refine (p8Fields_ _ _).mono ?_; rintro e w1 ⟨rfl, rfl⟩)))
  all_goals first
    | (refine bodyPost_end (results_none rfl _ _ _) rfl (QPost.done (v := ()) ?_ rfl hb0 hI); simp [edQ, edmQ, modeQ, QC.hl', *]; done)
    | (refine bodyPost_ret (results_none rfl _ _ _) rfl (QPost.done (v := ()) ?_ rfl hb0 hI); simp [edQ, edmQ, modeQ, QC.hl', *]; done)
    | (refine bodyPost_end (results_none rfl _ _ _) rfl (QPost.done (v := ()) ?_ rfl (bt hb0 (by go_grown)) (hI.kept (by go_grown))); simp [edQ, edmQ, modeQ, *]; done)
    | (have hz' : ¬ fz c < 4 := (by omega); refine bodyPost_ret (results_none rfl _ _ _) rfl (QPost.done (v := ()) ?_ rfl hb0 hI); simp [edQ, *]; done)
    | (have hz' : ¬ 3 < fy c := (by omega); refine bodyPost_ret (results_none rfl _ _ _) rfl (QPost.done (v := ()) ?_ rfl hb0 hI); simp [edQ, *]; done)
set_option maxHeartbeats 6000000 in
set_option maxRecDepth 20000 in
theorem ed_19Q_ (B : Nat) (c : U8) (s : QS) (w : World) (hI : QInv B w s.gv s.got) (hx : fx c = 1) (hz : fz c = 6) (hy : fy c = 6) : Calls Tryz.prog 53 #[.pointer (some ⟨B, 0, none⟩), .int .u8 c.v] (put w B s.cells) (QPost B w eU (runQ (edQ c) s)) := by
  have hi := hI.inb
  have hb0 := Below.refl w.heap.size w
  have y0 : 0 ≤ fy c := by unfold fy; omega
  have y1 : fy c ≤ 7 := by unfold fy; omega
  have z0 : 0 ≤ fz c := by unfold fz; omega
  have z1 : fz c ≤ 7 := by unfold fz; omega
  have hne := hi.ne
  go_enter Tryz.func53, Tryz.ntmps53
  all_goals (try go_wp2_with (first | (go_at_call 36; refine (p8Fields_ _ _).mono ?_; rintro e w1 ⟨rfl, rfl⟩)))
  all_goals first
    | (refine bodyPost_end (results_none rfl _ _ _) rfl (QPost.done (v := ()) ?_ rfl hb0 hI); simp [edQ, edmQ, modeQ, QC.hl', *]; done)
    | (refine bodyPost_ret (results_none rfl _ _ _) rfl (QPost.done (v := ()) ?_ rfl hb0 hI); simp [edQ, edmQ, modeQ, QC.hl', *]; done)
    | (refine bodyPost_end (results_none rfl _ _ _) rfl (QPost.done (v := ()) ?_ rfl (bt hb0 (by go_grown)) (hI.kept (by go_grown))); simp [edQ, edmQ, modeQ, *]; done)
    | (have hz' : ¬ fz c < 4 := (by omega); refine bodyPost_ret (results_none rfl _ _ _) rfl (QPost.done (v := ()) ?_ rfl hb0 hI); simp [edQ, *]; done)
    | (have hz' : ¬ 3 < fy c := (by omega); refine bodyPost_ret (results_none rfl _ _ _) rfl (QPost.done (v := ()) ?_ rfl hb0 hI); simp [edQ, *]; done)
set_option maxHeartbeats 6000000 in
set_option maxRecDepth 20000 in
theorem ed_20Q_ (B : Nat) (c : U8) (s : QS) (w : World) (hI : QInv B w s.gv s.got) (hx : fx c = 1) (hz : fz c = 6) (hy : fy c = 7) : Calls Tryz.prog 53 #[.pointer (some ⟨B, 0, none⟩), .int .u8 c.v] (put w B s.cells) (QPost B w eU (runQ (edQ c) s)) := by
  have hi := hI.inb
  have hb0 := Below.refl w.heap.size w
  have y0 : 0 ≤ fy c := by unfold fy; omega
  have y1 : fy c ≤ 7 := by unfold fy; omega
  have z0 : 0 ≤ fz c := by unfold fz; omega
  have z1 : fz c ≤ 7 := by unfold fz; omega
  have hne := hi.ne
  go_enter Tryz.func53, Tryz.ntmps53
  all_goals (try go_wp2_with (first | (go_at_call 36; refine (p8Fields_ _ _).mono ?_; rintro e w1 ⟨rfl, rfl⟩)))
  all_goals first
    | (refine bodyPost_end (results_none rfl _ _ _) rfl (QPost.done (v := ()) ?_ rfl hb0 hI); simp [edQ, edmQ, modeQ, QC.hl', *]; done)
    | (refine bodyPost_ret (results_none rfl _ _ _) rfl (QPost.done (v := ()) ?_ rfl hb0 hI); simp [edQ, edmQ, modeQ, QC.hl', *]; done)
    | (refine bodyPost_end (results_none rfl _ _ _) rfl (QPost.done (v := ()) ?_ rfl (bt hb0 (by go_grown)) (hI.kept (by go_grown))); simp [edQ, edmQ, modeQ, *]; done)
    | (have hz' : ¬ fz c < 4 := (by omega); refine bodyPost_ret (results_none rfl _ _ _) rfl (QPost.done (v := ()) ?_ rfl hb0 hI); simp [edQ, *]; done)
    | (have hz' : ¬ 3 < fy c := (by omega); refine bodyPost_ret (results_none rfl _ _ _) rfl (QPost.done (v := ()) ?_ rfl hb0 hI); simp [edQ, *]; done)
set_option maxHeartbeats 6000000 in
set_option maxRecDepth 20000 in
theorem ed_21Q_ (B : Nat) (c : U8) (s : QS) (w : World) (hI : QInv B w s.gv s.got) (hx : fx c = 1) (h0 : ¬ fz c = 0) (h1 : ¬ fz c = 1) (h2 : ¬ fz c = 2) (h3 : ¬ fz c = 3) (h4 : ¬ fz c = 4) (h5 : ¬ fz c = 5) (h6 : ¬ fz c = 6) : Calls Tryz.prog 53 #[.pointer (some ⟨B, 0, none⟩), .int .u8 c.v] (put w B s.cells) (QPost B w eU (runQ (edQ c) s)) := by
  have hi := hI.inb
  have hb0 := Below.refl w.heap.size w
  have y0 : 0 ≤ fy c := by unfold fy; omega
  have y1 : fy c ≤ 7 := by unfold fy; omega
  have z0 : 0 ≤ fz c := by unfold fz; omega
  have z1 : fz c ≤ 7 := by unfold fz; omega
  have hne := hi.ne
  go_enter Tryz.func53, Tryz.ntmps53
  all_goals (try go_wp2_with (first | (go_at_call 36; refine (p8Fields_ _ _).mono ?_; rintro e w1 ⟨rfl, rfl⟩) | (go_at_call 110; refine (oddQ_ B _ _ _ (by assumption) (by omega) (by omega)).mono (QPost.thru hb0 (fun v s1 w1 hq hb0 hI hi => ?_)))))
  all_goals first
    | (refine bodyPost_end (results_none rfl _ _ _) rfl (QPost.done (v := ()) ?_ rfl hb0 hI); simp [edQ, edmQ, *]; done)
    | (refine bodyPost_ret (results_none rfl _ _ _) rfl (QPost.done (v := ()) ?_ rfl hb0 hI); simp [edQ, edmQ, modeQ, QC.hl', *]; done)
    | (refine bodyPost_end (results_none rfl _ _ _) rfl (QPost.done (v := ()) ?_ rfl (bt hb0 (by go_grown)) (hI.kept (by go_grown))); simp [edQ, edmQ, modeQ, *]; done)
    | (have hz' : ¬ fz c < 4 := (by omega); refine bodyPost_ret (results_none rfl _ _ _) rfl (QPost.done (v := ()) ?_ rfl hb0 hI); simp [edQ, *]; done)
    | (have hz' : ¬ 3 < fy c := (by omega); refine bodyPost_ret (results_none rfl _ _ _) rfl (QPost.done (v := ()) ?_ rfl hb0 hI); simp [edQ, *]; done)
theorem edQ_ (B : Nat) (c : U8) (s : QS) (w : World) (hI : QInv B w s.gv s.got) : Calls Tryz.prog 53 #[.pointer (some ⟨B, 0, none⟩), .int .u8 c.v] (put w B s.cells) (QPost B w eU (runQ (edQ c) s)) := by
  have y0 : 0 ≤ fy c := by unfold fy; omega
  have y1 : fy c ≤ 7 := by unfold fy; omega
  have z0 : 0 ≤ fz c := by unfold fz; omega
  have z1 : fz c ≤ 7 := by unfold fz; omega
  by_cases hx : fx c = 2
  · by_cases hz : fz c < 4
    · by_cases hy : 3 < fy c
      · exact ed_0Q_ B c s w hI hx hz hy
      · exact ed_2Q_ B c s w hI hx hz hy
    · exact ed_1Q_ B c s w hI hx hz
  by_cases hx1 : fx c = 1
  case neg => exact ed_3Q_ B c s w hI hx hx1
  by_cases h0 : fz c = 0
  · by_cases hy : fy c = 6
    · exact ed_4Q_ B c s w hI hx1 h0 hy
    · exact ed_5Q_ B c s w hI hx1 h0 hy
  by_cases h1 : fz c = 1
  · by_cases hy : fy c = 6
    · exact ed_6Q_ B c s w hI hx1 h1 hy
    · exact ed_7Q_ B c s w hI hx1 h1 hy
  by_cases h2 : fz c = 2
  · by_cases hq : fy c % 2 = 1
    · exact ed_8Q_ B c s w hI hx1 h2 hq
    · exact ed_9Q_ B c s w hI hx1 h2 hq
  by_cases h3 : fz c = 3
  · exact ed_10Q_ B c s w hI hx1 h3
  by_cases h4 : fz c = 4
  · exact ed_11Q_ B c s w hI hx1 h4
  by_cases h5 : fz c = 5
  · exact ed_12Q_ B c s w hI hx1 h5
  by_cases h6 : fz c = 6
  · rcases (show fy c = 0 ∨ fy c = 1 ∨ fy c = 2 ∨ fy c = 3 ∨ fy c = 4 ∨ fy c = 5 ∨ fy c = 6 ∨ fy c = 7 by omega) with hy | hy | hy | hy | hy | hy | hy | hy
    · exact ed_13Q_ B c s w hI hx1 h6 hy
    · exact ed_14Q_ B c s w hI hx1 h6 hy
    · exact ed_15Q_ B c s w hI hx1 h6 hy
    · exact ed_16Q_ B c s w hI hx1 h6 hy
    · exact ed_17Q_ B c s w hI hx1 h6 hy
    · exact ed_18Q_ B c s w hI hx1 h6 hy
    · exact ed_19Q_ B c s w hI hx1 h6 hy
    · exact ed_20Q_ B c s w hI hx1 h6 hy
  exact ed_21Q_ B c s w hI hx1 h0 h1 h2 h3 h4 h5 h6
end Go.Proofs.YtnaampdpkegacaaGreatDoor
