/-
  Contracts of next's last quarter. A helper of the claim that stands beside it. (Printed by a program of wip/.)
-/
import Derived.Test.YtnaampdpkegacaaGreatDoor3
namespace Go.Proofs.YtnaampdpkegacaaGreatDoor
open Go.RowKit

def popsS : PM Unit := do
  let s ← PM.get
  if s.q = 0 then do
    if s.p = 3 then do
      let x ← popS
      PM.mod fun s => { s with r := { s.r with af := x } }
    else do
      let x ← popS
      setPairS s.p x
  else if s.p = 0 then backS
  else if s.p = 1 then PM.mod fun s => { s with r := exxR s.r }
  else if s.p = 2 then PM.mod fun s => { s with r := { s.r with pc := getP s.r s.plane 2 } }
  else do
    statesS 2
    PM.mod fun s => { s with r := { s.r with sp := getP s.r s.plane 2 } }
theorem fr_pops : Fr popsS := by
  unfold popsS
  repeat (first | with_reducible exact fr_pure _ | with_reducible exact fr_get | with_reducible refine fr_ite ?_ ?_ | with_reducible refine fr_bind ?_ fun _ => ?_ | with_reducible exact (fr_add _ _) | with_reducible exact (fr_beside _) | with_reducible exact (fr_call _) | with_reducible exact (fr_flag _) | with_reducible exact (fr_getS _) | with_reducible exact (fr_hop _) | with_reducible exact (fr_in _) | with_reducible exact (fr_mv _) | with_reducible exact (fr_out _ _) | with_reducible exact (fr_push _) | with_reducible exact (fr_put _ _) | with_reducible exact (fr_read _) | with_reducible exact (fr_set _ _) | with_reducible exact (fr_setPair _ _) | with_reducible exact (fr_states _) | with_reducible exact (fr_write _ _) | with_reducible exact fr_back | with_reducible exact fr_fetch | with_reducible exact fr_hops | with_reducible exact fr_load | with_reducible exact fr_low | with_reducible exact fr_move | with_reducible exact fr_number | with_reducible exact fr_pairAt | with_reducible exact fr_pop | with_reducible exact fr_stepDec | with_reducible exact fr_stepInc | with_reducible exact fr_stores | with_reducible exact fr_sums | with_reducible exact fr_tick | with_reducible exact fr_turn | with_reducible exact fr_where | with_reducible exact fr_word | ((with_reducible refine fr_mod ?_); exact fun s => Same.refl s))
set_option maxHeartbeats 6000000 in
set_option maxRecDepth 8000 in
theorem pops_0W_ (B : Nat) (s : PS) (w : World) (hI : Inv B w s.gv s.got) (hq0 : s.q = 0) (hp : s.p = 3) : Calls Tryz.prog 90 #[.pointer (some ⟨B, 0, none⟩)] (put w B s.cells) (Post B w eU (run popsS s)) := by
  have hi := hI.inb
  have hb0 := Below.refl w.heap.size w
  go_enter Tryz.func90, Tryz.ntmps90
  all_goals (try go_wp2_with (first | (go_at_call 169; refine (popW_ B  _ _ (by assumption)).mono (Post.thruF fr_pop hb0 (fun c s1 w1 hq hb0 hi => ?_) (fun v s1 w1 hq f1 f2 f3 f4 f5 f6 f7 hb0 hI hi => ?_)))))
  all_goals first
    | (refine ⟨rfl, Post.err _ ?_ hb0 hi⟩; simp [popsS, *]; done)
    | (refine bodyPost_end (results_none rfl _ _ _) rfl (Post.done (v := ()) ?_ rfl hb0 hI); simp [popsS, *]; done)
    | (refine bodyPost_ret (results_none rfl _ _ _) rfl (Post.done (v := ()) ?_ rfl hb0 hI); simp [popsS, *]; done)
set_option maxHeartbeats 6000000 in
set_option maxRecDepth 8000 in
theorem pops_1W_ (B : Nat) (s : PS) (w : World) (hI : Inv B w s.gv s.got) (hq0 : s.q = 0) (hp : ¬ s.p = 3) : Calls Tryz.prog 90 #[.pointer (some ⟨B, 0, none⟩)] (put w B s.cells) (Post B w eU (run popsS s)) := by
  have hi := hI.inb
  have hb0 := Below.refl w.heap.size w
  go_enter Tryz.func90, Tryz.ntmps90
  all_goals (try go_wp2)
  all_goals (try (
        replace hb0 := bt hb0 (Below.refl _ _).drew
        replace hI := Inv.drew hI
        replace hi := Inv.inb hI
        go_region_with (first | (go_at_call 169; refine (popW_ B  _ _ (by assumption)).mono (Post.thruF fr_pop hb0 (fun c s1 w1 hq hb0 hi => ?_) (fun v s1 w1 hq f1 f2 f3 f4 f5 f6 f7 hb0 hI hi => ?_)); (· exact ⟨rfl, Post.err _ (by simp [popsS, *]) hb0 hi⟩)) | (go_at_call 77; refine (setPairW_ B _ _ _ _ (by assumption)).mono (Post.thruF (fr_setPair _ _) hb0 (fun c s1 w1 hq hb0 hi => ?_) (fun v s1 w1 hq f1 f2 f3 f4 f5 f6 f7 hb0 hI hi => ?_)); (· exact ⟨rfl, Post.err _ (by simp [popsS, *]) hb0 hi⟩)))))
  all_goals (try go_wp2)
  all_goals first
    | (refine ⟨rfl, Post.err _ ?_ hb0 hi⟩; simp [popsS, *]; done)
    | (refine bodyPost_end (results_none rfl _ _ _) rfl (Post.done (v := ()) ?_ rfl hb0 hI); simp [popsS, *]; done)
    | (refine bodyPost_ret (results_none rfl _ _ _) rfl (Post.done (v := ()) ?_ rfl hb0 hI); simp [popsS, *]; done)
set_option maxHeartbeats 6000000 in
set_option maxRecDepth 8000 in
theorem pops_2W_ (B : Nat) (s : PS) (w : World) (hI : Inv B w s.gv s.got) (hq0 : ¬ s.q = 0) (hp : s.p = 0) : Calls Tryz.prog 90 #[.pointer (some ⟨B, 0, none⟩)] (put w B s.cells) (Post B w eU (run popsS s)) := by
  have hi := hI.inb
  have hb0 := Below.refl w.heap.size w
  go_enter Tryz.func90, Tryz.ntmps90
  all_goals (try go_wp2_with (first | (go_at_call 89; refine (backW_ B  _ _ (by assumption)).mono (Post.thruF fr_back hb0 (fun c s1 w1 hq hb0 hi => ?_) (fun v s1 w1 hq f1 f2 f3 f4 f5 f6 f7 hb0 hI hi => ?_)))))
  all_goals first
    | (refine ⟨rfl, Post.err _ ?_ hb0 hi⟩; simp [popsS, *]; done)
    | (refine bodyPost_end (results_none rfl _ _ _) rfl (Post.done (v := ()) ?_ rfl hb0 hI); simp [popsS, *]; done)
    | (refine bodyPost_ret (results_none rfl _ _ _) rfl (Post.done (v := ()) ?_ rfl hb0 hI); simp [popsS, *]; done)
set_option maxHeartbeats 6000000 in
set_option maxRecDepth 8000 in
theorem pops_3W_ (B : Nat) (s : PS) (w : World) (hI : Inv B w s.gv s.got) (hq0 : ¬ s.q = 0) (hp : s.p = 1) : Calls Tryz.prog 90 #[.pointer (some ⟨B, 0, none⟩)] (put w B s.cells) (Post B w eU (run popsS s)) := by
  have hi := hI.inb
  have hb0 := Below.refl w.heap.size w
  go_enter Tryz.func90, Tryz.ntmps90
  all_goals (try go_wp2_with (first | (go_at_call 170; refine (exx_ _ _).mono ?_; rintro e w1 ⟨rfl, hb⟩; obtain ⟨w2, rfl, hb2⟩ := unput hi hb; replace hb0 := bt hb0 hb2; replace hI := hI.kept hb2; have hi := hI.inb)))
  all_goals first
    | (refine ⟨rfl, Post.err _ ?_ hb0 hi⟩; simp [popsS, *]; done)
    | (refine bodyPost_end (results_none rfl _ _ _) rfl (Post.done (v := ()) ?_ rfl hb0 hI); simp [popsS, *]; done)
    | (refine bodyPost_ret (results_none rfl _ _ _) rfl (Post.done (v := ()) ?_ rfl hb0 hI); simp [popsS, *]; done)
set_option maxHeartbeats 6000000 in
set_option maxRecDepth 8000 in
theorem pops_4W_ (B : Nat) (s : PS) (w : World) (hI : Inv B w s.gv s.got) (hq0 : ¬ s.q = 0) (hp : s.p = 2) : Calls Tryz.prog 90 #[.pointer (some ⟨B, 0, none⟩)] (put w B s.cells) (Post B w eU (run popsS s)) := by
  have hi := hI.inb
  have hb0 := Below.refl w.heap.size w
  go_enter Tryz.func90, Tryz.ntmps90
  all_goals (try go_wp2_with (first | (go_at_call 74; refine (pairW_ B _ _ _ (by assumption)).mono ?_; rintro e w1 ⟨rfl, hb⟩; obtain ⟨w2, rfl, hb2⟩ := unput hi hb; replace hb0 := bt hb0 hb2; replace hI := hI.kept hb2; have hi := hI.inb)))
  all_goals first
    | (refine ⟨rfl, Post.err _ ?_ hb0 hi⟩; simp [popsS, *]; done)
    | (refine bodyPost_end (results_none rfl _ _ _) rfl (Post.done (v := ()) ?_ rfl hb0 hI); simp [popsS, *]; done)
    | (refine bodyPost_ret (results_none rfl _ _ _) rfl (Post.done (v := ()) ?_ rfl hb0 hI); simp [popsS, *]; done)
set_option maxHeartbeats 6000000 in
set_option maxRecDepth 8000 in
theorem pops_5W_ (B : Nat) (s : PS) (w : World) (hI : Inv B w s.gv s.got) (hq0 : ¬ s.q = 0) (h0 : ¬ s.p = 0) (h1 : ¬ s.p = 1) (h2 : ¬ s.p = 2) : Calls Tryz.prog 90 #[.pointer (some ⟨B, 0, none⟩)] (put w B s.cells) (Post B w eU (run popsS s)) := by
  have hi := hI.inb
  have hb0 := Below.refl w.heap.size w
  go_enter Tryz.func90, Tryz.ntmps90
  all_goals (try go_wp2_with (first | (go_at_call 47; refine (statesW_ B _ _ _ (by assumption)).mono (Post.thruF (fr_states _) hb0 (fun c s1 w1 hq hb0 hi => ?_) (fun v s1 w1 hq f1 f2 f3 f4 f5 f6 f7 hb0 hI hi => ?_))) | (go_at_call 74; refine (pairW_ B _ _ _ (by assumption)).mono ?_; rintro e w1 ⟨rfl, hb⟩; obtain ⟨w2, rfl, hb2⟩ := unput hi hb; replace hb0 := bt hb0 hb2; replace hI := hI.kept hb2; have hi := hI.inb)))
  all_goals first
    | (refine ⟨rfl, Post.err _ ?_ hb0 hi⟩; simp [popsS, *]; done)
    | (refine bodyPost_end (results_none rfl _ _ _) rfl (Post.done (v := ()) ?_ rfl hb0 hI); simp [popsS, *]; done)
    | (refine bodyPost_ret (results_none rfl _ _ _) rfl (Post.done (v := ()) ?_ rfl hb0 hI); simp [popsS, *]; done)
theorem popsW_ (B : Nat) (s : PS) (w : World) (hI : Inv B w s.gv s.got) : Calls Tryz.prog 90 #[.pointer (some ⟨B, 0, none⟩)] (put w B s.cells) (Post B w eU (run popsS s)) := by
  rcases (show (s.q = 0 ∧ s.p = 3) ∨ (s.q = 0 ∧ ¬ s.p = 3) ∨ (¬ s.q = 0 ∧ s.p = 0) ∨ (¬ s.q = 0 ∧ s.p = 1) ∨ (¬ s.q = 0 ∧ s.p = 2) ∨ (¬ s.q = 0 ∧ ¬ s.p = 0 ∧ ¬ s.p = 1 ∧ ¬ s.p = 2) by omega) with ⟨hq0, hp⟩ | ⟨hq0, hp⟩ | ⟨hq0, hp⟩ | ⟨hq0, hp⟩ | ⟨hq0, hp⟩ | ⟨hq0, h0, h1, h2⟩
  · exact pops_0W_ B s w hI hq0 hp
  · exact pops_1W_ B s w hI hq0 hp
  · exact pops_2W_ B s w hI hq0 hp
  · exact pops_3W_ B s w hI hq0 hp
  · exact pops_4W_ B s w hI hq0 hp
  · exact pops_5W_ B s w hI hq0 h0 h1 h2
def crossS : PM Unit := do
  let s ← PM.get
  let lo ← readS s.r.sp
  let s ← PM.get
  let hi ← readS (s.r.sp.inc 1)
  statesS 1
  let s ← PM.get
  writeS (s.r.sp.inc 1) (getP s.r s.plane 2).hi
  let s ← PM.get
  writeS s.r.sp (getP s.r s.plane 2).lo
  statesS 2
  PM.mod fun s => { s with r := { s.r with wz := hi.word lo } }
  let s ← PM.get
  setPairS 2 s.r.wz
theorem fr_cross : Fr crossS := by
  unfold crossS
  repeat (first | with_reducible exact fr_pure _ | with_reducible exact fr_get | with_reducible refine fr_ite ?_ ?_ | with_reducible refine fr_bind ?_ fun _ => ?_ | with_reducible exact (fr_add _ _) | with_reducible exact (fr_beside _) | with_reducible exact (fr_call _) | with_reducible exact (fr_flag _) | with_reducible exact (fr_getS _) | with_reducible exact (fr_hop _) | with_reducible exact (fr_in _) | with_reducible exact (fr_mv _) | with_reducible exact (fr_out _ _) | with_reducible exact (fr_push _) | with_reducible exact (fr_put _ _) | with_reducible exact (fr_read _) | with_reducible exact (fr_set _ _) | with_reducible exact (fr_setPair _ _) | with_reducible exact (fr_states _) | with_reducible exact (fr_write _ _) | with_reducible exact fr_back | with_reducible exact fr_fetch | with_reducible exact fr_hops | with_reducible exact fr_load | with_reducible exact fr_low | with_reducible exact fr_move | with_reducible exact fr_number | with_reducible exact fr_pairAt | with_reducible exact fr_pop | with_reducible exact fr_pops | with_reducible exact fr_stepDec | with_reducible exact fr_stepInc | with_reducible exact fr_stores | with_reducible exact fr_sums | with_reducible exact fr_tick | with_reducible exact fr_turn | with_reducible exact fr_where | with_reducible exact fr_word | ((with_reducible refine fr_mod ?_); exact fun s => Same.refl s))
set_option maxHeartbeats 4000000 in
set_option maxRecDepth 8000 in
theorem crossW_ (B : Nat) (s : PS) (w : World) (hI : Inv B w s.gv s.got) : Calls Tryz.prog 171 #[.pointer (some ⟨B, 0, none⟩)] (put w B s.cells) (Post B w eU (run crossS s)) := by
  have hi := hI.inb
  have hb0 := Below.refl w.heap.size w
  go_enter Tryz.func171, Tryz.ntmps171
  all_goals (try go_wp2_with (first | (go_at_call 75; refine (readW_ B _ _ _ (by assumption)).mono (Post.thruF (fr_read _) hb0 (fun c s1 w1 hq hb0 hi => ?_) (fun v s1 w1 hq f1 f2 f3 f4 f5 f6 f7 hb0 hI hi => ?_))) | (go_at_call 47; refine (statesW_ B _ _ _ (by assumption)).mono (Post.thruF (fr_states _) hb0 (fun c s1 w1 hq hb0 hi => ?_) (fun v s1 w1 hq f1 f2 f3 f4 f5 f6 f7 hb0 hI hi => ?_)))))
  all_goals (try (
        replace hb0 := bt hb0 (Below.refl _ _).drew
        replace hI := Inv.drew hI
        replace hi := Inv.inb hI
        go_region_with (first | (go_at_call 74; refine (pairW_ B _ _ _ (by assumption)).mono ?_; rintro e w1 ⟨rfl, hb⟩; obtain ⟨w2, rfl, hb2⟩ := unput hi hb; replace hb0 := bt hb0 hb2; replace hI := hI.kept hb2; have hi := hI.inb) | (go_at_call 66; refine (hi_ _ _).mono ?_; rintro e w1 ⟨rfl, rfl⟩) | (go_at_call 131; refine (writeW_ B _ _ _ _ (by assumption)).mono (Post.thruF (fr_write _ _) hb0 (fun c s1 w1 hq hb0 hi => ?_) (fun v s1 w1 hq f1 f2 f3 f4 f5 f6 f7 hb0 hI hi => ?_)); (· exact ⟨rfl, Post.err _ (by simp [crossS, *]) hb0 hi⟩)))))
  all_goals (try go_wp2)
  all_goals (try (
        replace hb0 := bt hb0 (Below.refl _ _).drew
        replace hI := Inv.drew hI
        replace hi := Inv.inb hI
        go_region_with (first | (go_at_call 74; refine (pairW_ B _ _ _ (by assumption)).mono ?_; rintro e w1 ⟨rfl, hb⟩; obtain ⟨w2, rfl, hb2⟩ := unput hi hb; replace hb0 := bt hb0 hb2; replace hI := hI.kept hb2; have hi := hI.inb) | (go_at_call 136; refine (lo_ _ _).mono ?_; rintro e w1 ⟨rfl, rfl⟩) | (go_at_call 131; refine (writeW_ B _ _ _ _ (by assumption)).mono (Post.thruF (fr_write _ _) hb0 (fun c s1 w1 hq hb0 hi => ?_) (fun v s1 w1 hq f1 f2 f3 f4 f5 f6 f7 hb0 hI hi => ?_)); (· exact ⟨rfl, Post.err _ (by simp [crossS, *]) hb0 hi⟩)))))
  all_goals (try go_wp2_with (first | (go_at_call 47; refine (statesW_ B _ _ _ (by assumption)).mono (Post.thruF (fr_states _) hb0 (fun c s1 w1 hq hb0 hi => ?_) (fun v s1 w1 hq f1 f2 f3 f4 f5 f6 f7 hb0 hI hi => ?_))) | (go_at_call 149; refine (word_ _ _ (U8.h0 _) (U8.h1 _) (U8.h0 _) (U8.h1 _) _).mono ?_; rintro e w1 ⟨rfl, rfl⟩) | (go_at_call 77; refine (setPairW_ B _ _ _ _ (by assumption)).mono (Post.thruF (fr_setPair _ _) hb0 (fun c s1 w1 hq hb0 hi => ?_) (fun v s1 w1 hq f1 f2 f3 f4 f5 f6 f7 hb0 hI hi => ?_)))))
  all_goals first
    | (refine ⟨rfl, Post.err _ ?_ hb0 hi⟩; simp [crossS, *]; done)
    | (refine bodyPost_end (results_none rfl _ _ _) rfl (Post.done (v := ()) ?_ rfl hb0 hI); simp [crossS, *]; done)
    | (refine bodyPost_ret (results_none rfl _ _ _) rfl (Post.done (v := ()) ?_ rfl hb0 hI); simp [crossS, *]; done)
end Go.Proofs.YtnaampdpkegacaaGreatDoor
