/-
  Contract of next's low. A helper of the claim that stands beside it. (Printed by a program of wip/.)
-/
import Derived.Test.YtnaampdpkegacaaGreatDoor3
namespace Go.Proofs.YtnaampdpkegacaaGreatDoor
open Go.RowKit

def lowS : PM Unit := do
  let s ← PM.get
  if s.z = 0 then hopsS else
  if s.z = 1 then do
    if s.q = 0 then do
      let x ← wordS
      setPairS s.p x
    else do
      statesS 7
      PM.mod fun s => { s with r := { s.r with wz := (getP s.r s.plane 2).inc 1 } }
      let s ← PM.get
      setPairS 2 (oHAdd (getP s.r s.plane 2) (getP s.r s.plane s.p))
      flagS (oHAddF (getP s.r s.plane 2) (getP s.r s.plane s.p) s.r.af.lo)
  else if s.z = 2 then storesS
  else if s.z = 3 then do
    statesS 2
    let s ← PM.get
    setPairS s.p ((getP s.r s.plane s.p).mv (IntKind.i64.wrap (1 - IntKind.i64.wrap (2 * s.q))))
  else if s.z = 4 then stepIncS
  else if s.z = 5 then stepDecS
  else if s.z = 6 then loadS
  else turnS
theorem fr_low : Fr lowS := by
  unfold lowS
  repeat (first | with_reducible exact fr_pure _ | with_reducible exact fr_get | with_reducible refine fr_ite ?_ ?_ | with_reducible refine fr_bind ?_ fun _ => ?_ | with_reducible exact (fr_add _ _) | with_reducible exact (fr_beside _) | with_reducible exact (fr_call _) | with_reducible exact (fr_flag _) | with_reducible exact (fr_getS _) | with_reducible exact (fr_hop _) | with_reducible exact (fr_in _) | with_reducible exact (fr_mv _) | with_reducible exact (fr_out _ _) | with_reducible exact (fr_push _) | with_reducible exact (fr_put _ _) | with_reducible exact (fr_read _) | with_reducible exact (fr_set _ _) | with_reducible exact (fr_setPair _ _) | with_reducible exact (fr_states _) | with_reducible exact (fr_write _ _) | with_reducible exact fr_back | with_reducible exact fr_fetch | with_reducible exact fr_hops | with_reducible exact fr_load | with_reducible exact fr_move | with_reducible exact fr_number | with_reducible exact fr_pairAt | with_reducible exact fr_pop | with_reducible exact fr_stepDec | with_reducible exact fr_stepInc | with_reducible exact fr_stores | with_reducible exact fr_sums | with_reducible exact fr_tick | with_reducible exact fr_turn | with_reducible exact fr_where | with_reducible exact fr_word | ((with_reducible refine fr_mod ?_); exact fun s => Same.refl s))
set_option maxHeartbeats 6000000 in
set_option maxRecDepth 8000 in
theorem low_0W_ (B : Nat) (s : PS) (w : World) (hI : Inv B w s.gv s.got) (hz : s.z = 0) : Calls Tryz.prog 48 #[.pointer (some ⟨B, 0, none⟩)] (put w B s.cells) (Post B w eU (run lowS s)) := by
  have hi := hI.inb
  have hb0 := Below.refl w.heap.size w
  go_enter Tryz.func48, Tryz.ntmps48
  all_goals (try go_wp2_with (first | (go_at_call 76; refine (hopsW_ B  _ _ (by assumption)).mono (Post.thruF fr_hops hb0 (fun c s1 w1 hq hb0 hi => ?_) (fun v s1 w1 hq f1 f2 f3 f4 f5 f6 f7 hb0 hI hi => ?_)))))
  all_goals first
    | (refine ⟨rfl, Post.err _ ?_ hb0 hi⟩; simp [lowS, *]; done)
    | (refine bodyPost_end (results_none rfl _ _ _) rfl (Post.done (v := ()) ?_ rfl hb0 hI); simp [lowS, *]; done)
    | (refine bodyPost_ret (results_none rfl _ _ _) rfl (Post.done (v := ()) ?_ rfl hb0 hI); simp [lowS, *]; done)
set_option maxHeartbeats 6000000 in
set_option maxRecDepth 8000 in
theorem low_1W_ (B : Nat) (s : PS) (w : World) (hI : Inv B w s.gv s.got) (hz : s.z = 1) (hq0 : s.q = 0) : Calls Tryz.prog 48 #[.pointer (some ⟨B, 0, none⟩)] (put w B s.cells) (Post B w eU (run lowS s)) := by
  have hi := hI.inb
  have hb0 := Below.refl w.heap.size w
  go_enter Tryz.func48, Tryz.ntmps48
  all_goals (try go_wp2)
  all_goals (try (
        replace hb0 := bt hb0 (Below.refl _ _).drew
        replace hI := Inv.drew hI
        replace hi := Inv.inb hI
        go_region_with (first | (go_at_call 78; refine (wordW_ B  _ _ (by assumption)).mono (Post.thruF fr_word hb0 (fun c s1 w1 hq hb0 hi => ?_) (fun v s1 w1 hq f1 f2 f3 f4 f5 f6 f7 hb0 hI hi => ?_)); (· exact ⟨rfl, Post.err _ (by simp [lowS, *]) hb0 hi⟩)) | (go_at_call 77; refine (setPairW_ B _ _ _ _ (by assumption)).mono (Post.thruF (fr_setPair _ _) hb0 (fun c s1 w1 hq hb0 hi => ?_) (fun v s1 w1 hq f1 f2 f3 f4 f5 f6 f7 hb0 hI hi => ?_)); (· exact ⟨rfl, Post.err _ (by simp [lowS, *]) hb0 hi⟩)))))
  all_goals (try go_wp2)
  all_goals first
    | (refine ⟨rfl, Post.err _ ?_ hb0 hi⟩; simp [lowS, *]; done)
    | (refine bodyPost_end (results_none rfl _ _ _) rfl (Post.done (v := ()) ?_ rfl hb0 hI); simp [lowS, *]; done)
    | (refine bodyPost_ret (results_none rfl _ _ _) rfl (Post.done (v := ()) ?_ rfl hb0 hI); simp [lowS, *]; done)
set_option maxHeartbeats 6000000 in
set_option maxRecDepth 8000 in
theorem low_2W_ (B : Nat) (s : PS) (w : World) (hI : Inv B w s.gv s.got) (hz : s.z = 1) (hq0 : ¬ s.q = 0) : Calls Tryz.prog 48 #[.pointer (some ⟨B, 0, none⟩)] (put w B s.cells) (Post B w eU (run lowS s)) := by
  have hi := hI.inb
  have hb0 := Below.refl w.heap.size w
  go_enter Tryz.func48, Tryz.ntmps48
  all_goals (try go_wp2_with (first | (go_at_call 47; refine (statesW_ B _ _ _ (by assumption)).mono (Post.thruF (fr_states _) hb0 (fun c s1 w1 hq hb0 hi => ?_) (fun v s1 w1 hq f1 f2 f3 f4 f5 f6 f7 hb0 hI hi => ?_))) | (go_at_call 74; refine (pairW_ B _ _ _ (by assumption)).mono ?_; rintro e w1 ⟨rfl, hb⟩; obtain ⟨w2, rfl, hb2⟩ := unput hi hb; replace hb0 := bt hb0 hb2; replace hI := hI.kept hb2; have hi := hI.inb)))
  all_goals (try (
        replace hb0 := bt hb0 (Below.refl _ _).drew
        replace hI := Inv.drew hI
        replace hi := Inv.inb hI
        go_region_with (first | (go_at_call 74; refine (pairW_ B _ _ _ (by assumption)).mono ?_; rintro e w1 ⟨rfl, hb⟩; obtain ⟨w2, rfl, hb2⟩ := unput hi hb; replace hb0 := bt hb0 hb2; replace hI := hI.kept hb2; have hi := hI.inb) | (go_at_call 79; refine (oHAdd_ _ _ _ _).mono ?_; rintro e w1 ⟨rfl, hb⟩; obtain ⟨w2, rfl, hb2⟩ := unput hi hb; replace hb0 := bt hb0 hb2; replace hI := hI.kept hb2; have hi := hI.inb) | (go_at_call 68; refine (fW_ B _ _ (by assumption)).mono ?_; rintro e w1 ⟨rfl, rfl⟩))))
  all_goals (try go_wp2_with (first | (go_at_call 77; refine (setPairW_ B _ _ _ _ (by assumption)).mono (Post.thruF (fr_setPair _ _) hb0 (fun c s1 w1 hq hb0 hi => ?_) (fun v s1 w1 hq f1 f2 f3 f4 f5 f6 f7 hb0 hI hi => ?_))) | (go_at_call 69; refine (flagW_ B _ _ _ (by assumption)).mono (Post.thruF (fr_flag _) hb0 (fun c s1 w1 hq hb0 hi => ?_) (fun v s1 w1 hq f1 f2 f3 f4 f5 f6 f7 hb0 hI hi => ?_))) | (go_at_call 79; refine (oHAdd_ _ _ _ _).mono ?_; rintro e w1 ⟨rfl, hb⟩; obtain ⟨w2, rfl, hb2⟩ := unput hi hb; replace hb0 := bt hb0 hb2; replace hI := hI.kept hb2; have hi := hI.inb)))
  all_goals first
    | (refine ⟨rfl, Post.err _ ?_ hb0 hi⟩; simp [lowS, *]; done)
    | (refine bodyPost_end (results_none rfl _ _ _) rfl (Post.done (v := ()) ?_ rfl hb0 hI); simp [lowS, *]; done)
    | (refine bodyPost_ret (results_none rfl _ _ _) rfl (Post.done (v := ()) ?_ rfl hb0 hI); simp [lowS, *]; done)
set_option maxHeartbeats 6000000 in
set_option maxRecDepth 8000 in
theorem low_3W_ (B : Nat) (s : PS) (w : World) (hI : Inv B w s.gv s.got) (hz : s.z = 2) : Calls Tryz.prog 48 #[.pointer (some ⟨B, 0, none⟩)] (put w B s.cells) (Post B w eU (run lowS s)) := by
  have hi := hI.inb
  have hb0 := Below.refl w.heap.size w
  go_enter Tryz.func48, Tryz.ntmps48
  all_goals (try go_wp2_with (first | (go_at_call 80; refine (storesW_ B  _ _ (by assumption)).mono (Post.thruF fr_stores hb0 (fun c s1 w1 hq hb0 hi => ?_) (fun v s1 w1 hq f1 f2 f3 f4 f5 f6 f7 hb0 hI hi => ?_)))))
  all_goals first
    | (refine ⟨rfl, Post.err _ ?_ hb0 hi⟩; simp [lowS, *]; done)
    | (refine bodyPost_end (results_none rfl _ _ _) rfl (Post.done (v := ()) ?_ rfl hb0 hI); simp [lowS, *]; done)
    | (refine bodyPost_ret (results_none rfl _ _ _) rfl (Post.done (v := ()) ?_ rfl hb0 hI); simp [lowS, *]; done)
set_option maxHeartbeats 6000000 in
set_option maxRecDepth 8000 in
theorem low_4W_ (B : Nat) (s : PS) (w : World) (hI : Inv B w s.gv s.got) (hz : s.z = 3) : Calls Tryz.prog 48 #[.pointer (some ⟨B, 0, none⟩)] (put w B s.cells) (Post B w eU (run lowS s)) := by
  have hi := hI.inb
  have hb0 := Below.refl w.heap.size w
  go_enter Tryz.func48, Tryz.ntmps48
  all_goals (try go_wp2_with (first | (go_at_call 47; refine (statesW_ B _ _ _ (by assumption)).mono (Post.thruF (fr_states _) hb0 (fun c s1 w1 hq hb0 hi => ?_) (fun v s1 w1 hq f1 f2 f3 f4 f5 f6 f7 hb0 hI hi => ?_)))))
  all_goals (try (
        replace hb0 := bt hb0 (Below.refl _ _).drew
        replace hI := Inv.drew hI
        replace hi := Inv.inb hI
        go_region_with (first | (go_at_call 74; refine (pairW_ B _ _ _ (by assumption)).mono ?_; rintro e w1 ⟨rfl, hb⟩; obtain ⟨w2, rfl, hb2⟩ := unput hi hb; replace hb0 := bt hb0 hb2; replace hI := hI.kept hb2; have hi := hI.inb) | (go_at_call 81; refine (oMv_ _ _ _).mono ?_; rintro e w1 ⟨rfl, rfl⟩) | (go_at_call 77; refine (setPairW_ B _ _ _ _ (by assumption)).mono (Post.thruF (fr_setPair _ _) hb0 (fun c s1 w1 hq hb0 hi => ?_) (fun v s1 w1 hq f1 f2 f3 f4 f5 f6 f7 hb0 hI hi => ?_)); (· exact ⟨rfl, Post.err _ (by simp [lowS, *]) hb0 hi⟩)))))
  all_goals (try go_wp2)
  all_goals first
    | (refine ⟨rfl, Post.err _ ?_ hb0 hi⟩; simp [lowS, *]; done)
    | (refine bodyPost_end (results_none rfl _ _ _) rfl (Post.done (v := ()) ?_ rfl hb0 hI); simp [lowS, *]; done)
    | (refine bodyPost_ret (results_none rfl _ _ _) rfl (Post.done (v := ()) ?_ rfl hb0 hI); simp [lowS, *]; done)
set_option maxHeartbeats 6000000 in
set_option maxRecDepth 8000 in
theorem low_5W_ (B : Nat) (s : PS) (w : World) (hI : Inv B w s.gv s.got) (hz : s.z = 4) : Calls Tryz.prog 48 #[.pointer (some ⟨B, 0, none⟩)] (put w B s.cells) (Post B w eU (run lowS s)) := by
  have hi := hI.inb
  have hb0 := Below.refl w.heap.size w
  go_enter Tryz.func48, Tryz.ntmps48
  all_goals (try go_wp2_with (first | (go_at_call 82; refine (stepIncW_ B  _ _ (by assumption)).mono (Post.thruF fr_stepInc hb0 (fun c s1 w1 hq hb0 hi => ?_) (fun v s1 w1 hq f1 f2 f3 f4 f5 f6 f7 hb0 hI hi => ?_)))))
  all_goals first
    | (refine ⟨rfl, Post.err _ ?_ hb0 hi⟩; simp [lowS, *]; done)
    | (refine bodyPost_end (results_none rfl _ _ _) rfl (Post.done (v := ()) ?_ rfl hb0 hI); simp [lowS, *]; done)
    | (refine bodyPost_ret (results_none rfl _ _ _) rfl (Post.done (v := ()) ?_ rfl hb0 hI); simp [lowS, *]; done)
set_option maxHeartbeats 6000000 in
set_option maxRecDepth 8000 in
theorem low_6W_ (B : Nat) (s : PS) (w : World) (hI : Inv B w s.gv s.got) (hz : s.z = 5) : Calls Tryz.prog 48 #[.pointer (some ⟨B, 0, none⟩)] (put w B s.cells) (Post B w eU (run lowS s)) := by
  have hi := hI.inb
  have hb0 := Below.refl w.heap.size w
  go_enter Tryz.func48, Tryz.ntmps48
  all_goals (try go_wp2_with (first | (go_at_call 82; refine (stepDecW_ B  _ _ (by assumption)).mono (Post.thruF fr_stepDec hb0 (fun c s1 w1 hq hb0 hi => ?_) (fun v s1 w1 hq f1 f2 f3 f4 f5 f6 f7 hb0 hI hi => ?_)))))
  all_goals first
    | (refine ⟨rfl, Post.err _ ?_ hb0 hi⟩; simp [lowS, *]; done)
    | (refine bodyPost_end (results_none rfl _ _ _) rfl (Post.done (v := ()) ?_ rfl hb0 hI); simp [lowS, *]; done)
    | (refine bodyPost_ret (results_none rfl _ _ _) rfl (Post.done (v := ()) ?_ rfl hb0 hI); simp [lowS, *]; done)
set_option maxHeartbeats 6000000 in
set_option maxRecDepth 8000 in
theorem low_7W_ (B : Nat) (s : PS) (w : World) (hI : Inv B w s.gv s.got) (hz : s.z = 6) : Calls Tryz.prog 48 #[.pointer (some ⟨B, 0, none⟩)] (put w B s.cells) (Post B w eU (run lowS s)) := by
  have hi := hI.inb
  have hb0 := Below.refl w.heap.size w
  go_enter Tryz.func48, Tryz.ntmps48
  all_goals (try go_wp2_with (first | (go_at_call 85; refine (loadW_ B  _ _ (by assumption)).mono (Post.thruF fr_load hb0 (fun c s1 w1 hq hb0 hi => ?_) (fun v s1 w1 hq f1 f2 f3 f4 f5 f6 f7 hb0 hI hi => ?_)))))
  all_goals first
    | (refine ⟨rfl, Post.err _ ?_ hb0 hi⟩; simp [lowS, *]; done)
    | (refine bodyPost_end (results_none rfl _ _ _) rfl (Post.done (v := ()) ?_ rfl hb0 hI); simp [lowS, *]; done)
    | (refine bodyPost_ret (results_none rfl _ _ _) rfl (Post.done (v := ()) ?_ rfl hb0 hI); simp [lowS, *]; done)
set_option maxHeartbeats 6000000 in
set_option maxRecDepth 8000 in
theorem low_8W_ (B : Nat) (s : PS) (w : World) (hI : Inv B w s.gv s.got) (h0 : ¬ s.z = 0) (h1 : ¬ s.z = 1) (h2 : ¬ s.z = 2) (h3 : ¬ s.z = 3) (h4 : ¬ s.z = 4) (h5 : ¬ s.z = 5) (h6 : ¬ s.z = 6) : Calls Tryz.prog 48 #[.pointer (some ⟨B, 0, none⟩)] (put w B s.cells) (Post B w eU (run lowS s)) := by
  have hi := hI.inb
  have hb0 := Below.refl w.heap.size w
  go_enter Tryz.func48, Tryz.ntmps48
  all_goals (try go_wp2_with (first | (go_at_call 86; refine (turnW_ B  _ _ (by assumption)).mono (Post.thruF fr_turn hb0 (fun c s1 w1 hq hb0 hi => ?_) (fun v s1 w1 hq f1 f2 f3 f4 f5 f6 f7 hb0 hI hi => ?_)))))
  all_goals first
    | (refine ⟨rfl, Post.err _ ?_ hb0 hi⟩; simp [lowS, *]; done)
    | (refine bodyPost_end (results_none rfl _ _ _) rfl (Post.done (v := ()) ?_ rfl hb0 hI); simp [lowS, *]; done)
    | (refine bodyPost_ret (results_none rfl _ _ _) rfl (Post.done (v := ()) ?_ rfl hb0 hI); simp [lowS, *]; done)
theorem lowW_ (B : Nat) (s : PS) (w : World) (hI : Inv B w s.gv s.got) : Calls Tryz.prog 48 #[.pointer (some ⟨B, 0, none⟩)] (put w B s.cells) (Post B w eU (run lowS s)) := by
  rcases (show (s.z = 0) ∨ (s.z = 1 ∧ s.q = 0) ∨ (s.z = 1 ∧ ¬ s.q = 0) ∨ (s.z = 2) ∨ (s.z = 3) ∨ (s.z = 4) ∨ (s.z = 5) ∨ (s.z = 6) ∨ (¬ s.z = 0 ∧ ¬ s.z = 1 ∧ ¬ s.z = 2 ∧ ¬ s.z = 3 ∧ ¬ s.z = 4 ∧ ¬ s.z = 5 ∧ ¬ s.z = 6) by omega) with hz | ⟨hz, hq0⟩ | ⟨hz, hq0⟩ | hz | hz | hz | hz | hz | ⟨h0, h1, h2, h3, h4, h5, h6⟩
  · exact low_0W_ B s w hI hz
  · exact low_1W_ B s w hI hz hq0
  · exact low_2W_ B s w hI hz hq0
  · exact low_3W_ B s w hI hz
  · exact low_4W_ B s w hI hz
  · exact low_5W_ B s w hI hz
  · exact low_6W_ B s w hI hz
  · exact low_7W_ B s w hI hz
  · exact low_8W_ B s w hI h0 h1 h2 h3 h4 h5 h6
end Go.Proofs.YtnaampdpkegacaaGreatDoor
