/-
  Contract of the reference 12's ed, words added and taken. A helper of the claims that stand beside it. (Printed by wip/genrs.py.)
-/
import Derived.Test.YtnaampdpkegacaaGreatDoorrn
namespace Go.Proofs.YtnaampdpkegacaaGreatDoor
open Go.RowKit

set_option maxHeartbeats 6000000 in
set_option maxRecDepth 20000 in
theorem ed_8Q_ (B : Nat) (c : U8) (s : QS) (w : World) (hI : QInv B w s.gv s.got) (hx : fx c = 1) (hz : fz c = 2) (hq1 : fy c % 2 = 1) : Calls Tryz.prog 53 #[.pointer (some ⟨B, 0, none⟩), .int .u8 c.v] (put w B s.cells) (QPost B w eU (runQ (edQ c) s)) := by
  have hi := hI.inb
  have hb0 := Below.refl w.heap.size w
  have y0 : 0 ≤ fy c := by unfold fy; omega
  have y1 : fy c ≤ 7 := by unfold fy; omega
  have z0 : 0 ≤ fz c := by unfold fz; omega
  have z1 : fz c ≤ 7 := by unfold fz; omega
  have hne := hi.ne
  go_enter Tryz.func53, Tryz.ntmps53
  all_goals (try go_wp2_with (first | (go_at_call 36; refine (p8Fields_ _ _).mono ?_; rintro e w1 ⟨rfl, rfl⟩) | (go_at_call 58; refine (statesQ_ B _ _ _ (by assumption)).mono (QPost.thru hb0 (fun v s1 w1 hq hb0 hI hi => ?_)))))
  all_goals (try (
        replace hb0 := bt hb0 (Below.refl _ _).drew
        replace hI := QInv.drew hI
        replace hi := QInv.inb hI
        go_region_with (first | (go_at_call 104; refine (r11pair_ _ _ _ _).mono ?_; rintro e w1 ⟨rfl, hb⟩; obtain ⟨w2, rfl, hb2⟩ := unput hi hb; replace hb0 := bt hb0 hb2; replace hI := hI.kept hb2; have hi := hI.inb) | (go_at_call 105; refine (fQ_ B _ _ (by assumption)).mono ?_; rintro e w1 ⟨rfl, rfl⟩) | (go_at_call 103; refine (pSbc_ _ _ _ _).mono ?_; rintro e w1 ⟨rfl, hb⟩; obtain ⟨w2, rfl, hb2⟩ := unput hi hb; replace hb0 := bt hb0 hb2; replace hI := hI.kept hb2; have hi := hI.inb))))
  all_goals (try go_wp2)
  all_goals (try (
        replace hb0 := bt hb0 (Below.refl _ _).drew
        replace hI := QInv.drew hI
        replace hi := QInv.inb hI
        go_region_with (first | (go_at_call 104; refine (r11pair_ _ _ _ _).mono ?_; rintro e w1 ⟨rfl, hb⟩; obtain ⟨w2, rfl, hb2⟩ := unput hi hb; replace hb0 := bt hb0 hb2; replace hI := hI.kept hb2; have hi := hI.inb) | (go_at_call 105; refine (fQ_ B _ _ (by assumption)).mono ?_; rintro e w1 ⟨rfl, rfl⟩) | (go_at_call 106; refine (pAdc_ _ _ _ _).mono ?_; rintro e w1 ⟨rfl, hb⟩; obtain ⟨w2, rfl, hb2⟩ := unput hi hb; replace hb0 := bt hb0 hb2; replace hI := hI.kept hb2; have hi := hI.inb))))
  all_goals (try go_wp2_with (first | (go_at_call 97; refine (aQ_ B _ _ (by assumption)).mono ?_; rintro e w1 ⟨rfl, rfl⟩) | (go_at_call 96; refine (putQ_ B _ _ _ _ (by assumption)).mono (QPost.thru hb0 (fun v s1 w1 hq hb0 hI hi => ?_)))))
  all_goals first
    | (refine bodyPost_end (results_none rfl _ _ _) rfl (QPost.done (v := ()) ?_ rfl hb0 hI); simp [edQ, edmQ, *]; done)
    | (refine bodyPost_ret (results_none rfl _ _ _) rfl (QPost.done (v := ()) ?_ rfl hb0 hI); simp [edQ, edmQ, modeQ, QC.hl', *]; done)
    | (refine bodyPost_end (results_none rfl _ _ _) rfl (QPost.done (v := ()) ?_ rfl (bt hb0 (by go_grown)) (hI.kept (by go_grown))); simp [edQ, edmQ, modeQ, *]; done)
    | (have hz' : ¬ fz c < 4 := (by omega); refine bodyPost_ret (results_none rfl _ _ _) rfl (QPost.done (v := ()) ?_ rfl hb0 hI); simp [edQ, *]; done)
    | (have hz' : ¬ 3 < fy c := (by omega); refine bodyPost_ret (results_none rfl _ _ _) rfl (QPost.done (v := ()) ?_ rfl hb0 hI); simp [edQ, *]; done)
set_option maxHeartbeats 6000000 in
set_option maxRecDepth 20000 in
theorem ed_9Q_ (B : Nat) (c : U8) (s : QS) (w : World) (hI : QInv B w s.gv s.got) (hx : fx c = 1) (hz : fz c = 2) (hq1 : ¬ fy c % 2 = 1) : Calls Tryz.prog 53 #[.pointer (some ⟨B, 0, none⟩), .int .u8 c.v] (put w B s.cells) (QPost B w eU (runQ (edQ c) s)) := by
  have hi := hI.inb
  have hb0 := Below.refl w.heap.size w
  have y0 : 0 ≤ fy c := by unfold fy; omega
  have y1 : fy c ≤ 7 := by unfold fy; omega
  have z0 : 0 ≤ fz c := by unfold fz; omega
  have z1 : fz c ≤ 7 := by unfold fz; omega
  have hne := hi.ne
  go_enter Tryz.func53, Tryz.ntmps53
  all_goals (try go_wp2_with (first | (go_at_call 36; refine (p8Fields_ _ _).mono ?_; rintro e w1 ⟨rfl, rfl⟩) | (go_at_call 58; refine (statesQ_ B _ _ _ (by assumption)).mono (QPost.thru hb0 (fun v s1 w1 hq hb0 hI hi => ?_)))))
  all_goals (try (
        replace hb0 := bt hb0 (Below.refl _ _).drew
        replace hI := QInv.drew hI
        replace hi := QInv.inb hI
        go_region_with (first | (go_at_call 104; refine (r11pair_ _ _ _ _).mono ?_; rintro e w1 ⟨rfl, hb⟩; obtain ⟨w2, rfl, hb2⟩ := unput hi hb; replace hb0 := bt hb0 hb2; replace hI := hI.kept hb2; have hi := hI.inb) | (go_at_call 105; refine (fQ_ B _ _ (by assumption)).mono ?_; rintro e w1 ⟨rfl, rfl⟩) | (go_at_call 103; refine (pSbc_ _ _ _ _).mono ?_; rintro e w1 ⟨rfl, hb⟩; obtain ⟨w2, rfl, hb2⟩ := unput hi hb; replace hb0 := bt hb0 hb2; replace hI := hI.kept hb2; have hi := hI.inb))))
  all_goals (try go_wp2_with (first | (go_at_call 97; refine (aQ_ B _ _ (by assumption)).mono ?_; rintro e w1 ⟨rfl, rfl⟩) | (go_at_call 96; refine (putQ_ B _ _ _ _ (by assumption)).mono (QPost.thru hb0 (fun v s1 w1 hq hb0 hI hi => ?_)))))
  all_goals first
    | (refine bodyPost_end (results_none rfl _ _ _) rfl (QPost.done (v := ()) ?_ rfl hb0 hI); simp [edQ, edmQ, *]; done)
    | (refine bodyPost_ret (results_none rfl _ _ _) rfl (QPost.done (v := ()) ?_ rfl hb0 hI); simp [edQ, edmQ, modeQ, QC.hl', *]; done)
    | (refine bodyPost_end (results_none rfl _ _ _) rfl (QPost.done (v := ()) ?_ rfl (bt hb0 (by go_grown)) (hI.kept (by go_grown))); simp [edQ, edmQ, modeQ, *]; done)
    | (have hz' : ¬ fz c < 4 := (by omega); refine bodyPost_ret (results_none rfl _ _ _) rfl (QPost.done (v := ()) ?_ rfl hb0 hI); simp [edQ, *]; done)
    | (have hz' : ¬ 3 < fy c := (by omega); refine bodyPost_ret (results_none rfl _ _ _) rfl (QPost.done (v := ()) ?_ rfl hb0 hI); simp [edQ, *]; done)
end Go.Proofs.YtnaampdpkegacaaGreatDoor
