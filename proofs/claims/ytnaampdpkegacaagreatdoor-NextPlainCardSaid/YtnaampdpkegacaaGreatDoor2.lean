/-
  Contracts of next's hops, loads and steps. A helper of the claim that stands beside it. (Printed by a program of wip/.)
-/
import Derived.Test.YtnaampdpkegacaaGreatDoor1
namespace Go.Proofs.YtnaampdpkegacaaGreatDoor
open Go.RowKit

set_option maxRecDepth 8000 in
theorem swap_ (r : R) (w : World) : Calls Tryz.prog 148 #[.agg r.cells] w fun e w' => e = .returned (.agg (swapR r).cells) ∧ Below w.heap.size w w' := by
  go_enter Tryz.func148, Tryz.ntmps148
  go_wp2
  refine ret_regs rfl (w.heap.size + 1) rfl (swapR r) ?_ rfl ⟨rfl, by go_grown⟩
  simp [go_sem, swapR]
set_option maxRecDepth 8000 in
theorem exx_ (r : R) (w : World) : Calls Tryz.prog 170 #[.agg r.cells] w fun e w' => e = .returned (.agg (exxR r).cells) ∧ Below w.heap.size w w' := by
  go_enter Tryz.func170, Tryz.ntmps170
  go_wp2
  refine ret_regs rfl (w.heap.size + 1) rfl (exxR r) ?_ rfl ⟨rfl, by go_grown⟩
  simp [go_sem, exxR]
def hopsS : PM Unit := do
  let s ← PM.get
  if s.y = 0 then pure () else
  if s.y = 1 then PM.mod fun s => { s with r := swapR s.r } else
  if s.y = 2 then do
    statesS 1
    let s ← PM.get
    PM.mod fun s => { s with r := { s.r with bc := (s.r.bc.hi.inc (-1)).word s.r.bc.lo } }
    hopS ((s.r.bc.hi.inc (-1)).v != 0)
  else if s.y = 3 then hopS true
  else hopS (tst s.r.af.lo.v (wrap64 (s.y - 4)))
theorem fr_hops : Fr hopsS := by
  unfold hopsS
  repeat (first | with_reducible exact fr_pure _ | with_reducible exact fr_get | with_reducible refine fr_ite ?_ ?_ | with_reducible refine fr_bind ?_ fun _ => ?_ | with_reducible exact (fr_beside _) | with_reducible exact (fr_call _) | with_reducible exact (fr_flag _) | with_reducible exact (fr_getS _) | with_reducible exact (fr_hop _) | with_reducible exact (fr_in _) | with_reducible exact (fr_mv _) | with_reducible exact (fr_out _ _) | with_reducible exact (fr_push _) | with_reducible exact (fr_put _ _) | with_reducible exact (fr_read _) | with_reducible exact (fr_set _ _) | with_reducible exact (fr_setPair _ _) | with_reducible exact (fr_states _) | with_reducible exact (fr_write _ _) | with_reducible exact fr_back | with_reducible exact fr_fetch | with_reducible exact fr_hops | with_reducible exact fr_number | with_reducible exact fr_pairAt | with_reducible exact fr_pop | with_reducible exact fr_stepDec | with_reducible exact fr_stepInc | with_reducible exact fr_stores | with_reducible exact fr_tick | with_reducible exact fr_where | with_reducible exact fr_word | ((with_reducible refine fr_mod ?_); exact fun s => Same.refl s))
set_option maxHeartbeats 1000000 in
set_option maxRecDepth 8000 in
theorem hopsW_ (B : Nat) (s : PS) (w : World) (hI : Inv B w s.gv s.got) : Calls Tryz.prog 76 #[.pointer (some ⟨B, 0, none⟩)] (put w B s.cells) (Post B w eU (run hopsS s)) := by
  have hi := hI.inb
  have hb0 := Below.refl w.heap.size w
  rcases (show s.y = 0 ∨ s.y = 1 ∨ s.y = 2 ∨ s.y = 3 ∨ (¬ s.y = 0 ∧ ¬ s.y = 1 ∧ ¬ s.y = 2 ∧ ¬ s.y = 3) by omega) with hy | hy | hy | hy | ⟨h0, h1, h2, h3⟩
  all_goals
    go_enter Tryz.func76, Tryz.ntmps76
    all_goals (try go_wp2_with (first | (go_at_call 148; refine (swap_ _ _).mono ?_; rintro e w1 ⟨rfl, hb⟩; obtain ⟨w2, rfl, hb2⟩ := unput hi hb; replace hb0 := bt hb0 hb2; replace hI := hI.kept hb2; have hi := hI.inb) | (go_at_call 47; refine (statesW_ B _ _ _ (by assumption)).mono (Post.thruF (fr_states _) hb0 (fun c s1 w1 hq hb0 hi => ?_) (fun v s1 w1 hq f1 f2 f3 f4 f5 f6 f7 hb0 hI hi => ?_))) | (go_at_call 66; refine (hi_ _ _).mono ?_; rintro e w1 ⟨rfl, rfl⟩) | (go_at_call 136; refine (lo_ _ _).mono ?_; rintro e w1 ⟨rfl, rfl⟩) | (go_at_call 149; refine (word_ _ _ (U8.h0 _) (U8.h1 _) (U8.h0 _) (U8.h1 _) _).mono ?_; rintro e w1 ⟨rfl, rfl⟩) | (go_at_call 150; refine (hopW_ B _ _ _ (by assumption)).mono (Post.thruF (fr_hop _) hb0 (fun c s1 w1 hq hb0 hi => ?_) (fun v s1 w1 hq f1 f2 f3 f4 f5 f6 f7 hb0 hI hi => ?_))) | (go_at_call 88; refine (holdsW_ B _ _ _ (by assumption)).mono ?_; rintro e w1 ⟨rfl, hb⟩; obtain ⟨w2, rfl, hb2⟩ := unput hi hb; replace hb0 := bt hb0 hb2; replace hI := hI.kept hb2; have hi := hI.inb)))
    all_goals first
      | (refine ⟨rfl, Post.err _ ?_ hb0 hi⟩; simp [hopsS, *]; done)
      | (refine bodyPost_end (results_none rfl _ _ _) rfl (Post.done (v := ()) ?_ rfl hb0 hI); simp [hopsS, *]; done)
      | (refine bodyPost_ret (results_none rfl _ _ _) rfl (Post.done (v := ()) ?_ rfl hb0 hI); simp [hopsS, *]; done)
def storesS : PM Unit := do
  let at' ← pairAtS
  let s ← PM.get
  if s.y = 0 ∨ s.y = 2 ∨ s.y = 6 then do
    writeS at' s.r.af.hi
    besideS at'
  else do
    if s.y = 1 ∨ s.y = 3 ∨ s.y = 7 then do
      let b ← readS at'
      let s ← PM.get
      putS b s.r.af.lo
    else if s.y = 4 then do
      writeS at' (getP s.r s.plane 2).lo
      let s ← PM.get
      writeS (at'.inc 1) (getP s.r s.plane 2).hi
    else do
      let lo ← readS at'
      let hi ← readS (at'.inc 1)
      setPairS 2 (hi.word lo)
    PM.mod fun s => { s with r := { s.r with wz := at'.inc 1 } }
theorem fr_stores : Fr storesS := by
  unfold storesS
  repeat (first | with_reducible exact fr_pure _ | with_reducible exact fr_get | with_reducible refine fr_ite ?_ ?_ | with_reducible refine fr_bind ?_ fun _ => ?_ | with_reducible exact (fr_beside _) | with_reducible exact (fr_call _) | with_reducible exact (fr_flag _) | with_reducible exact (fr_getS _) | with_reducible exact (fr_hop _) | with_reducible exact (fr_in _) | with_reducible exact (fr_mv _) | with_reducible exact (fr_out _ _) | with_reducible exact (fr_push _) | with_reducible exact (fr_put _ _) | with_reducible exact (fr_read _) | with_reducible exact (fr_set _ _) | with_reducible exact (fr_setPair _ _) | with_reducible exact (fr_states _) | with_reducible exact (fr_write _ _) | with_reducible exact fr_back | with_reducible exact fr_fetch | with_reducible exact fr_hops | with_reducible exact fr_number | with_reducible exact fr_pairAt | with_reducible exact fr_pop | with_reducible exact fr_stepDec | with_reducible exact fr_stepInc | with_reducible exact fr_stores | with_reducible exact fr_tick | with_reducible exact fr_where | with_reducible exact fr_word | ((with_reducible refine fr_mod ?_); exact fun s => Same.refl s))
set_option maxHeartbeats 1000000 in
set_option maxRecDepth 8000 in
theorem storesW_ (B : Nat) (s : PS) (w : World) (hI : Inv B w s.gv s.got) : Calls Tryz.prog 80 #[.pointer (some ⟨B, 0, none⟩)] (put w B s.cells) (Post B w eU (run storesS s)) := by
  have hi := hI.inb
  have hb0 := Below.refl w.heap.size w
  rcases (show s.y = 0 ∨ s.y = 1 ∨ s.y = 2 ∨ s.y = 3 ∨ s.y = 4 ∨ s.y = 6 ∨ s.y = 7 ∨ (¬ s.y = 0 ∧ ¬ s.y = 1 ∧ ¬ s.y = 2 ∧ ¬ s.y = 3 ∧ ¬ s.y = 4 ∧ ¬ s.y = 6 ∧ ¬ s.y = 7) by omega) with hy | hy | hy | hy | hy | hy | hy | ⟨h0, h1, h2, h3, h4, h5, h6⟩
  all_goals
    go_enter Tryz.func80, Tryz.ntmps80
    all_goals (try go_wp2_with (first | (go_at_call 155; refine (pairAtW_ B  _ _ (by assumption)).mono (Post.thruF fr_pairAt hb0 (fun c s1 w1 hq hb0 hi => ?_) (fun v s1 w1 hq f1 f2 f3 f4 f5 f6 f7 hb0 hI hi => ?_))) | (go_at_call 131; refine (writeW_ B _ _ _ _ (by assumption)).mono (Post.thruF (fr_write _ _) hb0 (fun c s1 w1 hq hb0 hi => ?_) (fun v s1 w1 hq f1 f2 f3 f4 f5 f6 f7 hb0 hI hi => ?_))) | (go_at_call 128; refine (aW_ B _ _ (by assumption)).mono ?_; rintro e w1 ⟨rfl, rfl⟩) | (go_at_call 156; refine (besideW_ B _ _ _ (by assumption)).mono (Post.thruF (fr_beside _) hb0 (fun c s1 w1 hq hb0 hi => ?_) (fun v s1 w1 hq f1 f2 f3 f4 f5 f6 f7 hb0 hI hi => ?_))) | (go_at_call 75; refine (readW_ B _ _ _ (by assumption)).mono (Post.thruF (fr_read _) hb0 (fun c s1 w1 hq hb0 hi => ?_) (fun v s1 w1 hq f1 f2 f3 f4 f5 f6 f7 hb0 hI hi => ?_))) | (go_at_call 68; refine (fW_ B _ _ (by assumption)).mono ?_; rintro e w1 ⟨rfl, rfl⟩) | (go_at_call 126; refine (putW_ B _ _ _ _ (by assumption)).mono (Post.thruF (fr_put _ _) hb0 (fun c s1 w1 hq hb0 hi => ?_) (fun v s1 w1 hq f1 f2 f3 f4 f5 f6 f7 hb0 hI hi => ?_))) | (go_at_call 74; refine (pairW_ B _ _ _ (by assumption)).mono ?_; rintro e w1 ⟨rfl, hb⟩; obtain ⟨w2, rfl, hb2⟩ := unput hi hb; replace hb0 := bt hb0 hb2; replace hI := hI.kept hb2; have hi := hI.inb) | (go_at_call 136; refine (lo_ _ _).mono ?_; rintro e w1 ⟨rfl, rfl⟩) | (go_at_call 66; refine (hi_ _ _).mono ?_; rintro e w1 ⟨rfl, rfl⟩) | (go_at_call 149; refine (word_ _ _ (U8.h0 _) (U8.h1 _) (U8.h0 _) (U8.h1 _) _).mono ?_; rintro e w1 ⟨rfl, rfl⟩) | (go_at_call 77; refine (setPairW_ B _ _ _ _ (by assumption)).mono (Post.thruF (fr_setPair _ _) hb0 (fun c s1 w1 hq hb0 hi => ?_) (fun v s1 w1 hq f1 f2 f3 f4 f5 f6 f7 hb0 hI hi => ?_)))))
    all_goals first
      | (refine ⟨rfl, Post.err _ ?_ hb0 hi⟩; simp [storesS, *]; done)
      | (refine bodyPost_end (results_none rfl _ _ _) rfl (Post.done (v := ()) ?_ rfl hb0 hI); simp [storesS, *]; done)
      | (refine bodyPost_ret (results_none rfl _ _ _) rfl (Post.done (v := ()) ?_ rfl hb0 hI); simp [storesS, *]; done)
def stepIncS : PM Unit := do
  let s ← PM.get
  let b ← getS s.y
  let t ← PM.get
  let f := oIncF b t.r.af.lo
  if s.y = 6 then do
    statesS 1
    flagS f
    setS s.y (oInc b)
  else do
    flagS f
    setS s.y (oInc b)
theorem fr_stepInc : Fr stepIncS := by
  unfold stepIncS
  repeat (first | with_reducible exact fr_pure _ | with_reducible exact fr_get | with_reducible refine fr_ite ?_ ?_ | with_reducible refine fr_bind ?_ fun _ => ?_ | with_reducible exact (fr_beside _) | with_reducible exact (fr_call _) | with_reducible exact (fr_flag _) | with_reducible exact (fr_getS _) | with_reducible exact (fr_hop _) | with_reducible exact (fr_in _) | with_reducible exact (fr_mv _) | with_reducible exact (fr_out _ _) | with_reducible exact (fr_push _) | with_reducible exact (fr_put _ _) | with_reducible exact (fr_read _) | with_reducible exact (fr_set _ _) | with_reducible exact (fr_setPair _ _) | with_reducible exact (fr_states _) | with_reducible exact (fr_write _ _) | with_reducible exact fr_back | with_reducible exact fr_fetch | with_reducible exact fr_hops | with_reducible exact fr_number | with_reducible exact fr_pairAt | with_reducible exact fr_pop | with_reducible exact fr_stepDec | with_reducible exact fr_stepInc | with_reducible exact fr_stores | with_reducible exact fr_tick | with_reducible exact fr_where | with_reducible exact fr_word | ((with_reducible refine fr_mod ?_); exact fun s => Same.refl s))
set_option maxHeartbeats 1000000 in
set_option maxRecDepth 8000 in
theorem stepIncW_ (B : Nat) (s : PS) (w : World) (hI : Inv B w s.gv s.got) : Calls Tryz.prog 82 #[.pointer (some ⟨B, 0, none⟩), .func (.func 83) #[] #[]] (put w B s.cells) (Post B w eU (run stepIncS s)) := by
  have hi := hI.inb
  have hb0 := Below.refl w.heap.size w
  rcases (show s.y = 6 ∨ ¬ s.y = 6 by omega) with hy | hy
  all_goals
    go_enter Tryz.func82, Tryz.ntmps82
    all_goals (try go_wp2_with (first | (go_at_call 65; refine (getW_ B _ _ _ (by assumption)).mono (Post.thruF (fr_getS _) hb0 (fun c s1 w1 hq hb0 hi => ?_) (fun v s1 w1 hq f1 f2 f3 f4 f5 f6 f7 hb0 hI hi => ?_))) | (go_at_call 68; refine (fW_ B _ _ (by assumption)).mono ?_; rintro e w1 ⟨rfl, rfl⟩) | (go_at_call 83; refine (oInc_ _ _ _).mono ?_; rintro e w1 ⟨rfl, hb⟩; obtain ⟨w2, rfl, hb2⟩ := unput hi hb; replace hb0 := bt hb0 hb2; replace hI := hI.kept hb2; have hi := hI.inb) | (go_at_call 47; refine (statesW_ B _ _ _ (by assumption)).mono (Post.thruF (fr_states _) hb0 (fun c s1 w1 hq hb0 hi => ?_) (fun v s1 w1 hq f1 f2 f3 f4 f5 f6 f7 hb0 hI hi => ?_))) | (go_at_call 69; refine (flagW_ B _ _ _ (by assumption)).mono (Post.thruF (fr_flag _) hb0 (fun c s1 w1 hq hb0 hi => ?_) (fun v s1 w1 hq f1 f2 f3 f4 f5 f6 f7 hb0 hI hi => ?_))) | (go_at_call 72; refine (setW_ B _ _ _ _ (by assumption)).mono (Post.thruF (fr_set _ _) hb0 (fun c s1 w1 hq hb0 hi => ?_) (fun v s1 w1 hq f1 f2 f3 f4 f5 f6 f7 hb0 hI hi => ?_)))))
    all_goals first
      | (refine ⟨rfl, Post.err _ ?_ hb0 hi⟩; simp [stepIncS, *]; done)
      | (refine bodyPost_end (results_none rfl _ _ _) rfl (Post.done (v := ()) ?_ rfl hb0 hI); simp [stepIncS, *]; done)
      | (refine bodyPost_ret (results_none rfl _ _ _) rfl (Post.done (v := ()) ?_ rfl hb0 hI); simp [stepIncS, *]; done)
def stepDecS : PM Unit := do
  let s ← PM.get
  let b ← getS s.y
  let t ← PM.get
  let f := oDecF b t.r.af.lo
  if s.y = 6 then do
    statesS 1
    flagS f
    setS s.y (oDec b)
  else do
    flagS f
    setS s.y (oDec b)
theorem fr_stepDec : Fr stepDecS := by
  unfold stepDecS
  repeat (first | with_reducible exact fr_pure _ | with_reducible exact fr_get | with_reducible refine fr_ite ?_ ?_ | with_reducible refine fr_bind ?_ fun _ => ?_ | with_reducible exact (fr_beside _) | with_reducible exact (fr_call _) | with_reducible exact (fr_flag _) | with_reducible exact (fr_getS _) | with_reducible exact (fr_hop _) | with_reducible exact (fr_in _) | with_reducible exact (fr_mv _) | with_reducible exact (fr_out _ _) | with_reducible exact (fr_push _) | with_reducible exact (fr_put _ _) | with_reducible exact (fr_read _) | with_reducible exact (fr_set _ _) | with_reducible exact (fr_setPair _ _) | with_reducible exact (fr_states _) | with_reducible exact (fr_write _ _) | with_reducible exact fr_back | with_reducible exact fr_fetch | with_reducible exact fr_hops | with_reducible exact fr_number | with_reducible exact fr_pairAt | with_reducible exact fr_pop | with_reducible exact fr_stepDec | with_reducible exact fr_stepInc | with_reducible exact fr_stores | with_reducible exact fr_tick | with_reducible exact fr_where | with_reducible exact fr_word | ((with_reducible refine fr_mod ?_); exact fun s => Same.refl s))
set_option maxHeartbeats 1000000 in
set_option maxRecDepth 8000 in
theorem stepDecW_ (B : Nat) (s : PS) (w : World) (hI : Inv B w s.gv s.got) : Calls Tryz.prog 82 #[.pointer (some ⟨B, 0, none⟩), .func (.func 84) #[] #[]] (put w B s.cells) (Post B w eU (run stepDecS s)) := by
  have hi := hI.inb
  have hb0 := Below.refl w.heap.size w
  rcases (show s.y = 6 ∨ ¬ s.y = 6 by omega) with hy | hy
  all_goals
    go_enter Tryz.func82, Tryz.ntmps82
    all_goals (try go_wp2_with (first | (go_at_call 65; refine (getW_ B _ _ _ (by assumption)).mono (Post.thruF (fr_getS _) hb0 (fun c s1 w1 hq hb0 hi => ?_) (fun v s1 w1 hq f1 f2 f3 f4 f5 f6 f7 hb0 hI hi => ?_))) | (go_at_call 68; refine (fW_ B _ _ (by assumption)).mono ?_; rintro e w1 ⟨rfl, rfl⟩) | (go_at_call 84; refine (oDec_ _ _ _).mono ?_; rintro e w1 ⟨rfl, hb⟩; obtain ⟨w2, rfl, hb2⟩ := unput hi hb; replace hb0 := bt hb0 hb2; replace hI := hI.kept hb2; have hi := hI.inb) | (go_at_call 47; refine (statesW_ B _ _ _ (by assumption)).mono (Post.thruF (fr_states _) hb0 (fun c s1 w1 hq hb0 hi => ?_) (fun v s1 w1 hq f1 f2 f3 f4 f5 f6 f7 hb0 hI hi => ?_))) | (go_at_call 69; refine (flagW_ B _ _ _ (by assumption)).mono (Post.thruF (fr_flag _) hb0 (fun c s1 w1 hq hb0 hi => ?_) (fun v s1 w1 hq f1 f2 f3 f4 f5 f6 f7 hb0 hI hi => ?_))) | (go_at_call 72; refine (setW_ B _ _ _ _ (by assumption)).mono (Post.thruF (fr_set _ _) hb0 (fun c s1 w1 hq hb0 hi => ?_) (fun v s1 w1 hq f1 f2 f3 f4 f5 f6 f7 hb0 hI hi => ?_)))))
    all_goals first
      | (refine ⟨rfl, Post.err _ ?_ hb0 hi⟩; simp [stepDecS, *]; done)
      | (refine bodyPost_end (results_none rfl _ _ _) rfl (Post.done (v := ()) ?_ rfl hb0 hI); simp [stepDecS, *]; done)
      | (refine bodyPost_ret (results_none rfl _ _ _) rfl (Post.done (v := ()) ?_ rfl hb0 hI); simp [stepDecS, *]; done)
end Go.Proofs.YtnaampdpkegacaaGreatDoor
