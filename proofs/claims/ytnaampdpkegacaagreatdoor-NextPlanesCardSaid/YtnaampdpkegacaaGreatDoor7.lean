/-
  Contract of next's high. A helper of the claim that stands beside it. (Printed by a program of wip/.)
-/
import Derived.Test.YtnaampdpkegacaaGreatDoor6
namespace Go.Proofs.YtnaampdpkegacaaGreatDoor
open Go.RowKit

theorem rst_fold (n : Int) : IntKind.u16.wrap (wrap64 (8 * n)) = (u16 (8 * n)).v := by
  rw [IntKind.wrap_u16]
  unfold wrap64
  show _ = (8 * n) % 65536
  omega
attribute [go_sem] rst_fold
def highS : PM Unit := do
  let s ← PM.get
  if s.z = 0 then do
    statesS 1
    let s ← PM.get
    if tst s.r.af.lo.v s.y then backS else pure ()
  else if s.z = 1 then popsS
  else if s.z = 2 then do
    let x ← wordS
    PM.mod fun s => { s with r := { s.r with wz := x } }
    let s ← PM.get
    if tst s.r.af.lo.v s.y then PM.mod fun s => { s with r := { s.r with pc := s.r.wz } } else pure ()
  else if s.z = 3 then portsS
  else if s.z = 4 then callS (tst s.r.af.lo.v s.y)
  else if s.z = 5 then do
    if s.q = 0 then do
      statesS 1
      let s ← PM.get
      pushS (if s.p = 3 then s.r.af else getP s.r s.plane s.p)
    else callS true
  else if s.z = 6 then do
    let b ← numberS
    addS s.y b
  else do
    statesS 1
    let s ← PM.get
    pushS s.r.pc
    PM.mod fun s => { s with r := { s.r with pc := u16 (8 * s.y) } }
    PM.mod fun s => { s with r := { s.r with wz := s.r.pc } }
theorem fr_high : Fr highS := by
  unfold highS
  repeat (first | with_reducible exact fr_pure _ | with_reducible exact fr_get | with_reducible refine fr_ite ?_ ?_ | with_reducible refine fr_bind ?_ fun _ => ?_ | with_reducible exact (fr_add _ _) | with_reducible exact (fr_beside _) | with_reducible exact (fr_call _) | with_reducible exact (fr_flag _) | with_reducible exact (fr_getS _) | with_reducible exact (fr_hop _) | with_reducible exact (fr_in _) | with_reducible exact (fr_mv _) | with_reducible exact (fr_out _ _) | with_reducible exact (fr_push _) | with_reducible exact (fr_put _ _) | with_reducible exact (fr_read _) | with_reducible exact (fr_set _ _) | with_reducible exact (fr_setPair _ _) | with_reducible exact (fr_states _) | with_reducible exact (fr_write _ _) | with_reducible exact fr_back | with_reducible exact fr_cross | with_reducible exact fr_fetch | with_reducible exact fr_hops | with_reducible exact fr_load | with_reducible exact fr_low | with_reducible exact fr_move | with_reducible exact fr_number | with_reducible exact fr_pairAt | with_reducible exact fr_pop | with_reducible exact fr_pops | with_reducible exact fr_ports | with_reducible exact fr_stepDec | with_reducible exact fr_stepInc | with_reducible exact fr_stores | with_reducible exact fr_sums | with_reducible exact fr_tick | with_reducible exact fr_turn | with_reducible exact fr_where | with_reducible exact fr_word | ((with_reducible refine fr_mod ?_); exact fun s => Same.refl s))
set_option maxHeartbeats 6000000 in
set_option maxRecDepth 8000 in
theorem high_0W_ (B : Nat) (s : PS) (w : World) (hI : Inv B w s.gv s.got) (hz : s.z = 0) : Calls Tryz.prog 51 #[.pointer (some ⟨B, 0, none⟩)] (put w B s.cells) (Post B w eU (run highS s)) := by
  have hi := hI.inb
  have hb0 := Below.refl w.heap.size w
  go_enter Tryz.func51, Tryz.ntmps51
  all_goals (try go_wp2_with (first | (go_at_call 47; refine (statesW_ B _ _ _ (by assumption)).mono (Post.thruF (fr_states _) hb0 (fun c s1 w1 hq hb0 hi => ?_) (fun v s1 w1 hq f1 f2 f3 f4 f5 f6 f7 hb0 hI hi => ?_))) | (go_at_call 88; refine (holdsW_ B _ _ _ (by assumption)).mono ?_; rintro e w1 ⟨rfl, hb⟩; obtain ⟨w2, rfl, hb2⟩ := unput hi hb; replace hb0 := bt hb0 hb2; replace hI := hI.kept hb2; have hi := hI.inb) | (go_at_call 89; refine (backW_ B  _ _ (by assumption)).mono (Post.thruF fr_back hb0 (fun c s1 w1 hq hb0 hi => ?_) (fun v s1 w1 hq f1 f2 f3 f4 f5 f6 f7 hb0 hI hi => ?_)))))
  all_goals first
    | (refine ⟨rfl, Post.err _ ?_ hb0 hi⟩; simp [highS, *]; done)
    | (refine bodyPost_end (results_none rfl _ _ _) rfl (Post.done (v := ()) ?_ rfl hb0 hI); simp [highS, *]; done)
    | (refine bodyPost_ret (results_none rfl _ _ _) rfl (Post.done (v := ()) ?_ rfl hb0 hI); simp [highS, *]; done)
set_option maxHeartbeats 6000000 in
set_option maxRecDepth 8000 in
theorem high_1W_ (B : Nat) (s : PS) (w : World) (hI : Inv B w s.gv s.got) (hz : s.z = 1) : Calls Tryz.prog 51 #[.pointer (some ⟨B, 0, none⟩)] (put w B s.cells) (Post B w eU (run highS s)) := by
  have hi := hI.inb
  have hb0 := Below.refl w.heap.size w
  go_enter Tryz.func51, Tryz.ntmps51
  all_goals (try go_wp2_with (first | (go_at_call 90; refine (popsW_ B  _ _ (by assumption)).mono (Post.thruF fr_pops hb0 (fun c s1 w1 hq hb0 hi => ?_) (fun v s1 w1 hq f1 f2 f3 f4 f5 f6 f7 hb0 hI hi => ?_)))))
  all_goals first
    | (refine ⟨rfl, Post.err _ ?_ hb0 hi⟩; simp [highS, *]; done)
    | (refine bodyPost_end (results_none rfl _ _ _) rfl (Post.done (v := ()) ?_ rfl hb0 hI); simp [highS, *]; done)
    | (refine bodyPost_ret (results_none rfl _ _ _) rfl (Post.done (v := ()) ?_ rfl hb0 hI); simp [highS, *]; done)
set_option maxHeartbeats 6000000 in
set_option maxRecDepth 8000 in
theorem high_2W_ (B : Nat) (s : PS) (w : World) (hI : Inv B w s.gv s.got) (hz : s.z = 2) : Calls Tryz.prog 51 #[.pointer (some ⟨B, 0, none⟩)] (put w B s.cells) (Post B w eU (run highS s)) := by
  have hi := hI.inb
  have hb0 := Below.refl w.heap.size w
  go_enter Tryz.func51, Tryz.ntmps51
  all_goals (try go_wp2_with (first | (go_at_call 78; refine (wordW_ B  _ _ (by assumption)).mono (Post.thruF fr_word hb0 (fun c s1 w1 hq hb0 hi => ?_) (fun v s1 w1 hq f1 f2 f3 f4 f5 f6 f7 hb0 hI hi => ?_))) | (go_at_call 88; refine (holdsW_ B _ _ _ (by assumption)).mono ?_; rintro e w1 ⟨rfl, hb⟩; obtain ⟨w2, rfl, hb2⟩ := unput hi hb; replace hb0 := bt hb0 hb2; replace hI := hI.kept hb2; have hi := hI.inb)))
  all_goals first
    | (refine ⟨rfl, Post.err _ ?_ hb0 hi⟩; simp [highS, *]; done)
    | (refine bodyPost_end (results_none rfl _ _ _) rfl (Post.done (v := ()) ?_ rfl hb0 hI); simp [highS, *]; done)
    | (refine bodyPost_ret (results_none rfl _ _ _) rfl (Post.done (v := ()) ?_ rfl hb0 hI); simp [highS, *]; done)
set_option maxHeartbeats 6000000 in
set_option maxRecDepth 8000 in
theorem high_3W_ (B : Nat) (s : PS) (w : World) (hI : Inv B w s.gv s.got) (hz : s.z = 3) : Calls Tryz.prog 51 #[.pointer (some ⟨B, 0, none⟩)] (put w B s.cells) (Post B w eU (run highS s)) := by
  have hi := hI.inb
  have hb0 := Below.refl w.heap.size w
  go_enter Tryz.func51, Tryz.ntmps51
  all_goals (try go_wp2_with (first | (go_at_call 91; refine (portsW_ B  _ _ (by assumption)).mono (Post.thruF fr_ports hb0 (fun c s1 w1 hq hb0 hi => ?_) (fun v s1 w1 hq f1 f2 f3 f4 f5 f6 f7 hb0 hI hi => ?_)))))
  all_goals first
    | (refine ⟨rfl, Post.err _ ?_ hb0 hi⟩; simp [highS, *]; done)
    | (refine bodyPost_end (results_none rfl _ _ _) rfl (Post.done (v := ()) ?_ rfl hb0 hI); simp [highS, *]; done)
    | (refine bodyPost_ret (results_none rfl _ _ _) rfl (Post.done (v := ()) ?_ rfl hb0 hI); simp [highS, *]; done)
set_option maxHeartbeats 6000000 in
set_option maxRecDepth 8000 in
theorem high_4W_ (B : Nat) (s : PS) (w : World) (hI : Inv B w s.gv s.got) (hz : s.z = 4) : Calls Tryz.prog 51 #[.pointer (some ⟨B, 0, none⟩)] (put w B s.cells) (Post B w eU (run highS s)) := by
  have hi := hI.inb
  have hb0 := Below.refl w.heap.size w
  go_enter Tryz.func51, Tryz.ntmps51
  all_goals (try go_wp2_with (first | (go_at_call 88; refine (holdsW_ B _ _ _ (by assumption)).mono ?_; rintro e w1 ⟨rfl, hb⟩; obtain ⟨w2, rfl, hb2⟩ := unput hi hb; replace hb0 := bt hb0 hb2; replace hI := hI.kept hb2; have hi := hI.inb) | (go_at_call 92; refine (callW_ B _ _ _ (by assumption)).mono (Post.thruF (fr_call _) hb0 (fun c s1 w1 hq hb0 hi => ?_) (fun v s1 w1 hq f1 f2 f3 f4 f5 f6 f7 hb0 hI hi => ?_)))))
  all_goals first
    | (refine ⟨rfl, Post.err _ ?_ hb0 hi⟩; simp [highS, *]; done)
    | (refine bodyPost_end (results_none rfl _ _ _) rfl (Post.done (v := ()) ?_ rfl hb0 hI); simp [highS, *]; done)
    | (refine bodyPost_ret (results_none rfl _ _ _) rfl (Post.done (v := ()) ?_ rfl hb0 hI); simp [highS, *]; done)
set_option maxHeartbeats 6000000 in
set_option maxRecDepth 8000 in
theorem high_5W_ (B : Nat) (s : PS) (w : World) (hI : Inv B w s.gv s.got) (hz : s.z = 5) (hq0 : s.q = 0) (hp : s.p = 3) : Calls Tryz.prog 51 #[.pointer (some ⟨B, 0, none⟩)] (put w B s.cells) (Post B w eU (run highS s)) := by
  have hi := hI.inb
  have hb0 := Below.refl w.heap.size w
  go_enter Tryz.func51, Tryz.ntmps51
  go_wp2_with (first | (go_at_call 47; refine (statesW_ B _ _ _ (by assumption)).mono (Post.thruF (fr_states _) hb0 (fun c s1 w1 hq hb0 hi => ?_) (fun v s1 w1 hq f1 f2 f3 f4 f5 f6 f7 hb0 hI hi => ?_))) | (go_at_call 93; refine (pushW_ B _ _ _ (by assumption)).mono (Post.thruF (fr_push _) hb0 (fun c s1 w1 hq hb0 hi => ?_) (fun v s1 w1 hq f1 f2 f3 f4 f5 f6 f7 hb0 hI hi => ?_))) | (go_at_call 94; refine (stackedW_af B _ _ (by assumption) (by rw [f6]; exact hp)).mono ?_; rintro e w1 ⟨rfl, rfl⟩))
  all_goals first
    | (refine ⟨rfl, Post.err _ ?_ hb0 hi⟩; simp [highS, *]; done)
    | (refine bodyPost_end (results_none rfl _ _ _) rfl (Post.done (v := ()) ?_ rfl hb0 hI); simp [highS, *]; done)
    | (refine bodyPost_ret (results_none rfl _ _ _) rfl (Post.done (v := ()) ?_ rfl hb0 hI); simp [highS, *]; done)
set_option maxHeartbeats 6000000 in
set_option maxRecDepth 8000 in
theorem high_6W_ (B : Nat) (s : PS) (w : World) (hI : Inv B w s.gv s.got) (hz : s.z = 5) (hq0 : s.q = 0) (hp : ¬ s.p = 3) : Calls Tryz.prog 51 #[.pointer (some ⟨B, 0, none⟩)] (put w B s.cells) (Post B w eU (run highS s)) := by
  have hi := hI.inb
  have hb0 := Below.refl w.heap.size w
  go_enter Tryz.func51, Tryz.ntmps51
  go_wp2_with (first | (go_at_call 47; refine (statesW_ B _ _ _ (by assumption)).mono (Post.thruF (fr_states _) hb0 (fun c s1 w1 hq hb0 hi => ?_) (fun v s1 w1 hq f1 f2 f3 f4 f5 f6 f7 hb0 hI hi => ?_))) | (go_at_call 93; refine (pushW_ B _ _ _ (by assumption)).mono (Post.thruF (fr_push _) hb0 (fun c s1 w1 hq hb0 hi => ?_) (fun v s1 w1 hq f1 f2 f3 f4 f5 f6 f7 hb0 hI hi => ?_))) | (go_at_call 94; refine (stackedW_no B _ _ (by assumption) (by rw [f6]; exact hp)).mono ?_; rintro e w1 ⟨n, w2, rfl, rfl, hb2, hcn, hnn⟩; replace hb0 := bt hb0 hb2; replace hI := hI.kept hb2; have hi := hI.inb))
  all_goals first
    | (refine ⟨rfl, Post.err _ ?_ hb0 hi⟩; simp [highS, *]; done)
    | (refine bodyPost_end (results_none rfl _ _ _) rfl (Post.done (v := ()) ?_ rfl hb0 hI); simp [highS, *]; done)
    | (refine bodyPost_ret (results_none rfl _ _ _) rfl (Post.done (v := ()) ?_ rfl hb0 hI); simp [highS, *]; done)
set_option maxHeartbeats 6000000 in
set_option maxRecDepth 8000 in
theorem high_7W_ (B : Nat) (s : PS) (w : World) (hI : Inv B w s.gv s.got) (hz : s.z = 5) (hq0 : ¬ s.q = 0) : Calls Tryz.prog 51 #[.pointer (some ⟨B, 0, none⟩)] (put w B s.cells) (Post B w eU (run highS s)) := by
  have hi := hI.inb
  have hb0 := Below.refl w.heap.size w
  go_enter Tryz.func51, Tryz.ntmps51
  all_goals (try go_wp2_with (first | (go_at_call 92; refine (callW_ B _ _ _ (by assumption)).mono (Post.thruF (fr_call _) hb0 (fun c s1 w1 hq hb0 hi => ?_) (fun v s1 w1 hq f1 f2 f3 f4 f5 f6 f7 hb0 hI hi => ?_)))))
  all_goals first
    | (refine ⟨rfl, Post.err _ ?_ hb0 hi⟩; simp [highS, *]; done)
    | (refine bodyPost_end (results_none rfl _ _ _) rfl (Post.done (v := ()) ?_ rfl hb0 hI); simp [highS, *]; done)
    | (refine bodyPost_ret (results_none rfl _ _ _) rfl (Post.done (v := ()) ?_ rfl hb0 hI); simp [highS, *]; done)
set_option maxHeartbeats 6000000 in
set_option maxRecDepth 8000 in
theorem high_8W_ (B : Nat) (s : PS) (w : World) (hI : Inv B w s.gv s.got) (hz : s.z = 6) : Calls Tryz.prog 51 #[.pointer (some ⟨B, 0, none⟩)] (put w B s.cells) (Post B w eU (run highS s)) := by
  have hi := hI.inb
  have hb0 := Below.refl w.heap.size w
  go_enter Tryz.func51, Tryz.ntmps51
  all_goals (try go_wp2)
  all_goals (try (
        replace hb0 := bt hb0 (Below.refl _ _).drew
        replace hI := Inv.drew hI
        replace hi := Inv.inb hI
        go_region_with (first | (go_at_call 46; refine (numberW_ B  _ _ (by assumption)).mono (Post.thruF fr_number hb0 (fun c s1 w1 hq hb0 hi => ?_) (fun v s1 w1 hq f1 f2 f3 f4 f5 f6 f7 hb0 hI hi => ?_)); (· exact ⟨rfl, Post.err _ (by simp [highS, *]) hb0 hi⟩)) | (go_at_call 87; refine (addW_ B _ _ _ _ (by assumption)).mono (Post.thruF (fr_add _ _) hb0 (fun c s1 w1 hq hb0 hi => ?_) (fun v s1 w1 hq f1 f2 f3 f4 f5 f6 f7 hb0 hI hi => ?_)); (· exact ⟨rfl, Post.err _ (by simp [highS, *]) hb0 hi⟩)))))
  all_goals (try go_wp2)
  all_goals first
    | (refine ⟨rfl, Post.err _ ?_ hb0 hi⟩; simp [highS, *]; done)
    | (refine bodyPost_end (results_none rfl _ _ _) rfl (Post.done (v := ()) ?_ rfl hb0 hI); simp [highS, *]; done)
    | (refine bodyPost_ret (results_none rfl _ _ _) rfl (Post.done (v := ()) ?_ rfl hb0 hI); simp [highS, *]; done)
set_option maxHeartbeats 6000000 in
set_option maxRecDepth 8000 in
theorem high_9W_ (B : Nat) (s : PS) (w : World) (hI : Inv B w s.gv s.got) (h0 : ¬ s.z = 0) (h1 : ¬ s.z = 1) (h2 : ¬ s.z = 2) (h3 : ¬ s.z = 3) (h4 : ¬ s.z = 4) (h5 : ¬ s.z = 5) (h6 : ¬ s.z = 6) : Calls Tryz.prog 51 #[.pointer (some ⟨B, 0, none⟩)] (put w B s.cells) (Post B w eU (run highS s)) := by
  have hi := hI.inb
  have hb0 := Below.refl w.heap.size w
  go_enter Tryz.func51, Tryz.ntmps51
  all_goals (try go_wp2_with (first | (go_at_call 47; refine (statesW_ B _ _ _ (by assumption)).mono (Post.thruF (fr_states _) hb0 (fun c s1 w1 hq hb0 hi => ?_) (fun v s1 w1 hq f1 f2 f3 f4 f5 f6 f7 hb0 hI hi => ?_))) | (go_at_call 93; refine (pushW_ B _ _ _ (by assumption)).mono (Post.thruF (fr_push _) hb0 (fun c s1 w1 hq hb0 hi => ?_) (fun v s1 w1 hq f1 f2 f3 f4 f5 f6 f7 hb0 hI hi => ?_)))))
  all_goals first
    | (refine ⟨rfl, Post.err _ ?_ hb0 hi⟩; simp [highS, *]; done)
    | (refine bodyPost_end (results_none rfl _ _ _) rfl (Post.done (v := ()) ?_ rfl hb0 hI); simp [highS, *]; done)
    | (refine bodyPost_ret (results_none rfl _ _ _) rfl (Post.done (v := ()) ?_ rfl hb0 hI); simp [highS, *]; done)
theorem highW_ (B : Nat) (s : PS) (w : World) (hI : Inv B w s.gv s.got) : Calls Tryz.prog 51 #[.pointer (some ⟨B, 0, none⟩)] (put w B s.cells) (Post B w eU (run highS s)) := by
  rcases (show (s.z = 0) ∨ (s.z = 1) ∨ (s.z = 2) ∨ (s.z = 3) ∨ (s.z = 4) ∨ (s.z = 5 ∧ s.q = 0 ∧ s.p = 3) ∨ (s.z = 5 ∧ s.q = 0 ∧ ¬ s.p = 3) ∨ (s.z = 5 ∧ ¬ s.q = 0) ∨ (s.z = 6) ∨ (¬ s.z = 0 ∧ ¬ s.z = 1 ∧ ¬ s.z = 2 ∧ ¬ s.z = 3 ∧ ¬ s.z = 4 ∧ ¬ s.z = 5 ∧ ¬ s.z = 6) by omega) with hz | hz | hz | hz | hz | ⟨hz, hq0, hp⟩ | ⟨hz, hq0, hp⟩ | ⟨hz, hq0⟩ | hz | ⟨h0, h1, h2, h3, h4, h5, h6⟩
  · exact high_0W_ B s w hI hz
  · exact high_1W_ B s w hI hz
  · exact high_2W_ B s w hI hz
  · exact high_3W_ B s w hI hz
  · exact high_4W_ B s w hI hz
  · exact high_5W_ B s w hI hz hq0 hp
  · exact high_6W_ B s w hI hz hq0 hp
  · exact high_7W_ B s w hI hz hq0
  · exact high_8W_ B s w hI hz
  · exact high_9W_ B s w hI h0 h1 h2 h3 h4 h5 h6
end Go.Proofs.YtnaampdpkegacaaGreatDoor
