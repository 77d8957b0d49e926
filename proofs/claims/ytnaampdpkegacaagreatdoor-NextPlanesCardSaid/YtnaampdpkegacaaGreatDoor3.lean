/-
  Contracts of next's first three quarters. A helper of the claim that stands beside it. (Printed by a program of wip/.)
-/
import Derived.Test.YtnaampdpkegacaaGreatDoorhops
namespace Go.Proofs.YtnaampdpkegacaaGreatDoor
open Go.RowKit

def loadS : PM Unit := do
  let s ← PM.get
  if ¬ s.y = 6 ∨ s.plane = 0 then do
    let b ← numberS
    setS s.y b
  else do
    let b ← numberS
    mvS b
    let b ← numberS
    statesS 2
    setS 6 b
theorem fr_load : Fr loadS := by
  unfold loadS
  repeat (first | with_reducible exact fr_pure _ | with_reducible exact fr_get | with_reducible refine fr_ite ?_ ?_ | with_reducible refine fr_bind ?_ fun _ => ?_ | with_reducible exact (fr_beside _) | with_reducible exact (fr_call _) | with_reducible exact (fr_flag _) | with_reducible exact (fr_getS _) | with_reducible exact (fr_hop _) | with_reducible exact (fr_in _) | with_reducible exact (fr_mv _) | with_reducible exact (fr_out _ _) | with_reducible exact (fr_push _) | with_reducible exact (fr_put _ _) | with_reducible exact (fr_read _) | with_reducible exact (fr_set _ _) | with_reducible exact (fr_setPair _ _) | with_reducible exact (fr_states _) | with_reducible exact (fr_write _ _) | with_reducible exact fr_back | with_reducible exact fr_fetch | with_reducible exact fr_hops | with_reducible exact fr_number | with_reducible exact fr_pairAt | with_reducible exact fr_pop | with_reducible exact fr_stepDec | with_reducible exact fr_stepInc | with_reducible exact fr_stores | with_reducible exact fr_tick | with_reducible exact fr_where | with_reducible exact fr_word | ((with_reducible refine fr_mod ?_); exact fun s => Same.refl s))
set_option maxHeartbeats 1000000 in
set_option maxRecDepth 8000 in
theorem loadW_ (B : Nat) (s : PS) (w : World) (hI : Inv B w s.gv s.got) : Calls Tryz.prog 85 #[.pointer (some ⟨B, 0, none⟩)] (put w B s.cells) (Post B w eU (run loadS s)) := by
  have hi := hI.inb
  have hb0 := Below.refl w.heap.size w
  rcases (show (¬ s.y = 6) ∨ (s.y = 6 ∧ s.plane = 0) ∨ (s.y = 6 ∧ ¬ s.plane = 0) by omega) with hp | ⟨hp, hp2⟩ | ⟨hp, hp2⟩
  all_goals
    go_enter Tryz.func85, Tryz.ntmps85
    all_goals (try go_wp2_with (first | (go_at_call 46; refine (numberW_ B  _ _ (by assumption)).mono (Post.thruF fr_number hb0 (fun c s1 w1 hq hb0 hi => ?_) (fun v s1 w1 hq f1 f2 f3 f4 f5 f6 f7 hb0 hI hi => ?_))) | (go_at_call 45; refine (nearW_ B _ _ _ (by assumption)).mono (Post.thruF (fr_mv _) hb0 (fun c s1 w1 hq hb0 hi => ?_) (fun v s1 w1 hq f1 f2 f3 f4 f5 f6 f7 hb0 hI hi => ?_))) | (go_at_call 47; refine (statesW_ B _ _ _ (by assumption)).mono (Post.thruF (fr_states _) hb0 (fun c s1 w1 hq hb0 hi => ?_) (fun v s1 w1 hq f1 f2 f3 f4 f5 f6 f7 hb0 hI hi => ?_))) | (go_at_call 72; refine (setW_ B _ _ _ _ (by assumption)).mono (Post.thruF (fr_set _ _) hb0 (fun c s1 w1 hq hb0 hi => ?_) (fun v s1 w1 hq f1 f2 f3 f4 f5 f6 f7 hb0 hI hi => ?_)))))
    all_goals (try (
          replace hb0 := bt hb0 (Below.refl _ _).drew
          replace hI := Inv.drew hI
          replace hi := Inv.inb hI
          go_region_with (first | (go_at_call 46; refine (numberW_ B  _ _ (by assumption)).mono (Post.thruF fr_number hb0 (fun c s1 w1 hq hb0 hi => ?_) (fun v s1 w1 hq f1 f2 f3 f4 f5 f6 f7 hb0 hI hi => ?_)); (· exact ⟨rfl, Post.err _ (by simp [loadS, *]) hb0 hi⟩)) | (go_at_call 72; refine (setW_ B _ _ _ _ (by assumption)).mono (Post.thruF (fr_set _ _) hb0 (fun c s1 w1 hq hb0 hi => ?_) (fun v s1 w1 hq f1 f2 f3 f4 f5 f6 f7 hb0 hI hi => ?_)); (· exact ⟨rfl, Post.err _ (by simp [loadS, *]) hb0 hi⟩)))))
    all_goals (try go_wp2)
    all_goals first
      | (refine ⟨rfl, Post.err _ ?_ hb0 hi⟩; simp [loadS, *]; done)
      | (refine bodyPost_end (results_none rfl _ _ _) rfl (Post.done (v := ()) ?_ rfl hb0 hI); simp [loadS, *]; done)
      | (refine bodyPost_ret (results_none rfl _ _ _) rfl (Post.done (v := ()) ?_ rfl hb0 hI); simp [loadS, *]; done)
def turnS : PM Unit := do
  let s ← PM.get
  if s.y = 4 then putS (oDaa s.r.af.hi s.r.af.lo) (oDaaF s.r.af.hi s.r.af.lo) else
  if s.y = 5 then putS (oCpl s.r.af.hi) (oCplF s.r.af.hi s.r.af.lo) else
  if s.y = 6 then flagS (oScf s.r.af.hi s.r.af.lo) else
  if s.y = 7 then flagS (oCcf s.r.af.hi s.r.af.lo) else
  putS (oAcc s.y s.r.af.hi s.r.af.lo) (oAccF s.y s.r.af.hi s.r.af.lo)
theorem fr_turn : Fr turnS := by
  unfold turnS
  repeat (first | with_reducible exact fr_pure _ | with_reducible exact fr_get | with_reducible refine fr_ite ?_ ?_ | with_reducible refine fr_bind ?_ fun _ => ?_ | with_reducible exact (fr_beside _) | with_reducible exact (fr_call _) | with_reducible exact (fr_flag _) | with_reducible exact (fr_getS _) | with_reducible exact (fr_hop _) | with_reducible exact (fr_in _) | with_reducible exact (fr_mv _) | with_reducible exact (fr_out _ _) | with_reducible exact (fr_push _) | with_reducible exact (fr_put _ _) | with_reducible exact (fr_read _) | with_reducible exact (fr_set _ _) | with_reducible exact (fr_setPair _ _) | with_reducible exact (fr_states _) | with_reducible exact (fr_write _ _) | with_reducible exact fr_back | with_reducible exact fr_fetch | with_reducible exact fr_hops | with_reducible exact fr_load | with_reducible exact fr_number | with_reducible exact fr_pairAt | with_reducible exact fr_pop | with_reducible exact fr_stepDec | with_reducible exact fr_stepInc | with_reducible exact fr_stores | with_reducible exact fr_tick | with_reducible exact fr_where | with_reducible exact fr_word | ((with_reducible refine fr_mod ?_); exact fun s => Same.refl s))
set_option maxHeartbeats 1000000 in
set_option maxRecDepth 8000 in
theorem turnW_ (B : Nat) (s : PS) (w : World) (hI : Inv B w s.gv s.got) : Calls Tryz.prog 86 #[.pointer (some ⟨B, 0, none⟩)] (put w B s.cells) (Post B w eU (run turnS s)) := by
  have hi := hI.inb
  have hb0 := Below.refl w.heap.size w
  rcases (show s.y = 4 ∨ s.y = 5 ∨ s.y = 6 ∨ s.y = 7 ∨ (¬ s.y = 4 ∧ ¬ s.y = 5 ∧ ¬ s.y = 6 ∧ ¬ s.y = 7) by omega) with hy | hy | hy | hy | ⟨h0, h1, h2, h3⟩
  all_goals
    go_enter Tryz.func86, Tryz.ntmps86
    all_goals (try go_wp2_with (first | (go_at_call 128; refine (aW_ B _ _ (by assumption)).mono ?_; rintro e w1 ⟨rfl, rfl⟩) | (go_at_call 68; refine (fW_ B _ _ (by assumption)).mono ?_; rintro e w1 ⟨rfl, rfl⟩) | (go_at_call 158; refine (oDaa_ _ _ _ (hI.lgp)).mono ?_; rintro e w1 ⟨rfl, hb⟩; obtain ⟨w2, rfl, hb2⟩ := unput hi hb; replace hb0 := bt hb0 hb2; replace hI := hI.kept hb2; have hi := hI.inb) | (go_at_call 159; refine (oCpl_ _ _ _).mono ?_; rintro e w1 ⟨rfl, rfl⟩) | (go_at_call 160; refine (oScf_ _ _ _).mono ?_; rintro e w1 ⟨rfl, rfl⟩) | (go_at_call 161; refine (oCcf_ _ _ _).mono ?_; rintro e w1 ⟨rfl, rfl⟩) | (go_at_call 162; refine (oAcc_ _ _ _ _).mono ?_; rintro e w1 ⟨rfl, hb⟩; obtain ⟨w2, rfl, hb2⟩ := unput hi hb; replace hb0 := bt hb0 hb2; replace hI := hI.kept hb2; have hi := hI.inb) | (go_at_call 126; refine (putW_ B _ _ _ _ (by assumption)).mono (Post.thruF (fr_put _ _) hb0 (fun c s1 w1 hq hb0 hi => ?_) (fun v s1 w1 hq f1 f2 f3 f4 f5 f6 f7 hb0 hI hi => ?_))) | (go_at_call 69; refine (flagW_ B _ _ _ (by assumption)).mono (Post.thruF (fr_flag _) hb0 (fun c s1 w1 hq hb0 hi => ?_) (fun v s1 w1 hq f1 f2 f3 f4 f5 f6 f7 hb0 hI hi => ?_)))))
    all_goals first
      | (refine ⟨rfl, Post.err _ ?_ hb0 hi⟩; simp [turnS, *]; done)
      | (refine bodyPost_end (results_none rfl _ _ _) rfl (Post.done (v := ()) ?_ rfl hb0 hI); simp [turnS, *]; done)
      | (refine bodyPost_ret (results_none rfl _ _ _) rfl (Post.done (v := ()) ?_ rfl hb0 hI); simp [turnS, *]; done)
def addS (k : Int) (b : U8) : PM Unit := do
  let s ← PM.get
  if k = 0 then putS (oAdd s.r.af.hi b false) (oAddF s.r.af.hi b false) else
  if k = 1 then putS (oAdd s.r.af.hi b (bit 0 s.r.af.lo.v)) (oAddF s.r.af.hi b (bit 0 s.r.af.lo.v)) else
  if k = 2 then putS (oSub s.r.af.hi b false) (oSubF s.r.af.hi b false) else
  if k = 3 then putS (oSub s.r.af.hi b (bit 0 s.r.af.lo.v)) (oSubF s.r.af.hi b (bit 0 s.r.af.lo.v)) else
  if k = 4 then putS (oAnd s.r.af.hi b) (oAndF s.r.af.hi b) else
  if k = 5 then putS (oXor s.r.af.hi b) (oXorF s.r.af.hi b) else
  if k = 6 then putS (oOr s.r.af.hi b) (oOrF s.r.af.hi b) else
  flagS (oCmp s.r.af.hi b)
theorem fr_add (k : Int) (b : U8) : Fr (addS k b) := by
  unfold addS
  repeat (first | with_reducible exact fr_pure _ | with_reducible exact fr_get | with_reducible refine fr_ite ?_ ?_ | with_reducible refine fr_bind ?_ fun _ => ?_ | with_reducible exact (fr_beside _) | with_reducible exact (fr_call _) | with_reducible exact (fr_flag _) | with_reducible exact (fr_getS _) | with_reducible exact (fr_hop _) | with_reducible exact (fr_in _) | with_reducible exact (fr_mv _) | with_reducible exact (fr_out _ _) | with_reducible exact (fr_push _) | with_reducible exact (fr_put _ _) | with_reducible exact (fr_read _) | with_reducible exact (fr_set _ _) | with_reducible exact (fr_setPair _ _) | with_reducible exact (fr_states _) | with_reducible exact (fr_write _ _) | with_reducible exact fr_back | with_reducible exact fr_fetch | with_reducible exact fr_hops | with_reducible exact fr_load | with_reducible exact fr_number | with_reducible exact fr_pairAt | with_reducible exact fr_pop | with_reducible exact fr_stepDec | with_reducible exact fr_stepInc | with_reducible exact fr_stores | with_reducible exact fr_tick | with_reducible exact fr_turn | with_reducible exact fr_where | with_reducible exact fr_word | ((with_reducible refine fr_mod ?_); exact fun s => Same.refl s))
set_option maxHeartbeats 1000000 in
set_option maxRecDepth 8000 in
theorem addW_ (B : Nat) (k : Int) (b : U8) (s : PS) (w : World) (hI : Inv B w s.gv s.got) : Calls Tryz.prog 87 #[.pointer (some ⟨B, 0, none⟩), .int .i64 k, .int .u8 b.v] (put w B s.cells) (Post B w eU (run (addS k b) s)) := by
  have hi := hI.inb
  have hb0 := Below.refl w.heap.size w
  rcases (show k = 0 ∨ k = 1 ∨ k = 2 ∨ k = 3 ∨ k = 4 ∨ k = 5 ∨ k = 6 ∨ (¬ k = 0 ∧ ¬ k = 1 ∧ ¬ k = 2 ∧ ¬ k = 3 ∧ ¬ k = 4 ∧ ¬ k = 5 ∧ ¬ k = 6) by omega) with hy | hy | hy | hy | hy | hy | hy | ⟨h0, h1, h2, h3, h4, h5, h6⟩
  all_goals
    go_enter Tryz.func87, Tryz.ntmps87
    all_goals (try go_wp2_with (first | (go_at_call 128; refine (aW_ B _ _ (by assumption)).mono ?_; rintro e w1 ⟨rfl, rfl⟩) | (go_at_call 163; refine (carryW_ B _ _ (by assumption)).mono ?_; rintro e w1 ⟨rfl, rfl⟩) | (go_at_call 152; refine (oAdd_ _ _ _ _).mono ?_; rintro e w1 ⟨rfl, hb⟩; obtain ⟨w2, rfl, hb2⟩ := unput hi hb; replace hb0 := bt hb0 hb2; replace hI := hI.kept hb2; have hi := hI.inb) | (go_at_call 157; refine (oSub_ _ _ _ _).mono ?_; rintro e w1 ⟨rfl, hb⟩; obtain ⟨w2, rfl, hb2⟩ := unput hi hb; replace hb0 := bt hb0 hb2; replace hI := hI.kept hb2; have hi := hI.inb) | (go_at_call 164; refine (oAnd_ _ _ _).mono ?_; rintro e w1 ⟨rfl, hb⟩; obtain ⟨w2, rfl, hb2⟩ := unput hi hb; replace hb0 := bt hb0 hb2; replace hI := hI.kept hb2; have hi := hI.inb) | (go_at_call 165; refine (oXor_ _ _ _).mono ?_; rintro e w1 ⟨rfl, hb⟩; obtain ⟨w2, rfl, hb2⟩ := unput hi hb; replace hb0 := bt hb0 hb2; replace hI := hI.kept hb2; have hi := hI.inb) | (go_at_call 166; refine (oOr_ _ _ _).mono ?_; rintro e w1 ⟨rfl, hb⟩; obtain ⟨w2, rfl, hb2⟩ := unput hi hb; replace hb0 := bt hb0 hb2; replace hI := hI.kept hb2; have hi := hI.inb) | (go_at_call 167; refine (oCmp_ _ _ _).mono ?_; rintro e w1 ⟨rfl, hb⟩; obtain ⟨w2, rfl, hb2⟩ := unput hi hb; replace hb0 := bt hb0 hb2; replace hI := hI.kept hb2; have hi := hI.inb) | (go_at_call 126; refine (putW_ B _ _ _ _ (by assumption)).mono (Post.thruF (fr_put _ _) hb0 (fun c s1 w1 hq hb0 hi => ?_) (fun v s1 w1 hq f1 f2 f3 f4 f5 f6 f7 hb0 hI hi => ?_))) | (go_at_call 69; refine (flagW_ B _ _ _ (by assumption)).mono (Post.thruF (fr_flag _) hb0 (fun c s1 w1 hq hb0 hi => ?_) (fun v s1 w1 hq f1 f2 f3 f4 f5 f6 f7 hb0 hI hi => ?_)))))
    all_goals first
      | (refine ⟨rfl, Post.err _ ?_ hb0 hi⟩; simp [addS, *]; done)
      | (refine bodyPost_end (results_none rfl _ _ _) rfl (Post.done (v := ()) ?_ rfl hb0 hI); simp [addS, *]; done)
      | (refine bodyPost_ret (results_none rfl _ _ _) rfl (Post.done (v := ()) ?_ rfl hb0 hI); simp [addS, *]; done)
def moveS : PM Unit := do
  let s ← PM.get
  if s.y = 6 ∧ s.z = 6 then PM.mod fun s => { s with r := { s.r with halted := true } }
  else do
    let b ← getS s.z
    setS s.y b
theorem fr_move : Fr moveS := by
  unfold moveS
  repeat (first | with_reducible exact fr_pure _ | with_reducible exact fr_get | with_reducible refine fr_ite ?_ ?_ | with_reducible refine fr_bind ?_ fun _ => ?_ | with_reducible exact (fr_add _ _) | with_reducible exact (fr_beside _) | with_reducible exact (fr_call _) | with_reducible exact (fr_flag _) | with_reducible exact (fr_getS _) | with_reducible exact (fr_hop _) | with_reducible exact (fr_in _) | with_reducible exact (fr_mv _) | with_reducible exact (fr_out _ _) | with_reducible exact (fr_push _) | with_reducible exact (fr_put _ _) | with_reducible exact (fr_read _) | with_reducible exact (fr_set _ _) | with_reducible exact (fr_setPair _ _) | with_reducible exact (fr_states _) | with_reducible exact (fr_write _ _) | with_reducible exact fr_back | with_reducible exact fr_fetch | with_reducible exact fr_hops | with_reducible exact fr_load | with_reducible exact fr_number | with_reducible exact fr_pairAt | with_reducible exact fr_pop | with_reducible exact fr_stepDec | with_reducible exact fr_stepInc | with_reducible exact fr_stores | with_reducible exact fr_tick | with_reducible exact fr_turn | with_reducible exact fr_where | with_reducible exact fr_word | ((with_reducible refine fr_mod ?_); exact fun s => Same.refl s))
set_option maxHeartbeats 1000000 in
set_option maxRecDepth 8000 in
theorem moveW_ (B : Nat) (s : PS) (w : World) (hI : Inv B w s.gv s.got) : Calls Tryz.prog 49 #[.pointer (some ⟨B, 0, none⟩)] (put w B s.cells) (Post B w eU (run moveS s)) := by
  have hi := hI.inb
  have hb0 := Below.refl w.heap.size w
  rcases (show (¬ s.y = 6) ∨ (s.y = 6 ∧ s.z = 6) ∨ (s.y = 6 ∧ ¬ s.z = 6) by omega) with hp | ⟨hp, hp2⟩ | ⟨hp, hp2⟩
  all_goals
    go_enter Tryz.func49, Tryz.ntmps49
    all_goals (try go_wp2)
    all_goals (try (
          replace hb0 := bt hb0 (Below.refl _ _).drew
          replace hI := Inv.drew hI
          replace hi := Inv.inb hI
          go_region_with (first | (go_at_call 65; refine (getW_ B _ _ _ (by assumption)).mono (Post.thruF (fr_getS _) hb0 (fun c s1 w1 hq hb0 hi => ?_) (fun v s1 w1 hq f1 f2 f3 f4 f5 f6 f7 hb0 hI hi => ?_)); (· exact ⟨rfl, Post.err _ (by simp [moveS, *]) hb0 hi⟩)) | (go_at_call 72; refine (setW_ B _ _ _ _ (by assumption)).mono (Post.thruF (fr_set _ _) hb0 (fun c s1 w1 hq hb0 hi => ?_) (fun v s1 w1 hq f1 f2 f3 f4 f5 f6 f7 hb0 hI hi => ?_)); (· exact ⟨rfl, Post.err _ (by simp [moveS, *]) hb0 hi⟩)))))
    all_goals (try go_wp2)
    all_goals first
      | (refine ⟨rfl, Post.err _ ?_ hb0 hi⟩; simp [moveS, *]; done)
      | (refine bodyPost_end (results_none rfl _ _ _) rfl (Post.done (v := ()) ?_ rfl hb0 hI); simp [moveS, *]; done)
      | (refine bodyPost_ret (results_none rfl _ _ _) rfl (Post.done (v := ()) ?_ rfl hb0 hI); simp [moveS, *]; done)
def sumsS : PM Unit := do
  let s ← PM.get
  let b ← getS s.z
  addS s.y b
theorem fr_sums : Fr sumsS := by
  unfold sumsS
  repeat (first | with_reducible exact fr_pure _ | with_reducible exact fr_get | with_reducible refine fr_ite ?_ ?_ | with_reducible refine fr_bind ?_ fun _ => ?_ | with_reducible exact (fr_add _ _) | with_reducible exact (fr_beside _) | with_reducible exact (fr_call _) | with_reducible exact (fr_flag _) | with_reducible exact (fr_getS _) | with_reducible exact (fr_hop _) | with_reducible exact (fr_in _) | with_reducible exact (fr_mv _) | with_reducible exact (fr_out _ _) | with_reducible exact (fr_push _) | with_reducible exact (fr_put _ _) | with_reducible exact (fr_read _) | with_reducible exact (fr_set _ _) | with_reducible exact (fr_setPair _ _) | with_reducible exact (fr_states _) | with_reducible exact (fr_write _ _) | with_reducible exact fr_back | with_reducible exact fr_fetch | with_reducible exact fr_hops | with_reducible exact fr_load | with_reducible exact fr_move | with_reducible exact fr_number | with_reducible exact fr_pairAt | with_reducible exact fr_pop | with_reducible exact fr_stepDec | with_reducible exact fr_stepInc | with_reducible exact fr_stores | with_reducible exact fr_tick | with_reducible exact fr_turn | with_reducible exact fr_where | with_reducible exact fr_word | ((with_reducible refine fr_mod ?_); exact fun s => Same.refl s))
set_option maxHeartbeats 1000000 in
set_option maxRecDepth 8000 in
theorem sumsW_ (B : Nat) (s : PS) (w : World) (hI : Inv B w s.gv s.got) : Calls Tryz.prog 50 #[.pointer (some ⟨B, 0, none⟩)] (put w B s.cells) (Post B w eU (run sumsS s)) := by
  have hi := hI.inb
  have hb0 := Below.refl w.heap.size w
  go_enter Tryz.func50, Tryz.ntmps50
  all_goals (try go_wp2)
  all_goals (try (
        replace hb0 := bt hb0 (Below.refl _ _).drew
        replace hI := Inv.drew hI
        replace hi := Inv.inb hI
        go_region_with (first | (go_at_call 65; refine (getW_ B _ _ _ (by assumption)).mono (Post.thruF (fr_getS _) hb0 (fun c s1 w1 hq hb0 hi => ?_) (fun v s1 w1 hq f1 f2 f3 f4 f5 f6 f7 hb0 hI hi => ?_)); (· exact ⟨rfl, Post.err _ (by simp [sumsS, *]) hb0 hi⟩)) | (go_at_call 87; refine (addW_ B _ _ _ _ (by assumption)).mono (Post.thruF (fr_add _ _) hb0 (fun c s1 w1 hq hb0 hi => ?_) (fun v s1 w1 hq f1 f2 f3 f4 f5 f6 f7 hb0 hI hi => ?_)); (· exact ⟨rfl, Post.err _ (by simp [sumsS, *]) hb0 hi⟩)))))
  all_goals (try go_wp2)
  all_goals first
    | (refine ⟨rfl, Post.err _ ?_ hb0 hi⟩; simp [sumsS, *]; done)
    | (refine bodyPost_end (results_none rfl _ _ _) rfl (Post.done (v := ()) ?_ rfl hb0 hI); simp [sumsS, *]; done)
    | (refine bodyPost_ret (results_none rfl _ _ _) rfl (Post.done (v := ()) ?_ rfl hb0 hI); simp [sumsS, *]; done)
end Go.Proofs.YtnaampdpkegacaaGreatDoor
