/-
  Contract of next's middle. A helper of the claim that stands beside it. (Printed by a program of wip/.)
-/
import Derived.Test.YtnaampdpkegacaaGreatDoor9
namespace Go.Proofs.YtnaampdpkegacaaGreatDoor
open Go.RowKit

/-- The mode of interrupts that a code sets. -/
def modeS (y : Int) : Int := if wrap64 (bits .and .i64 y 3 - 1) ≤ 0 then 0 else wrap64 (bits .and .i64 y 3 - 1)
def middleS : PM Unit := do
  let s ← PM.get
  if s.z = 0 then do
    let b ← inS s.r.bc
    PM.mod fun s => { s with r := { s.r with wz := s.r.bc.inc 1 } }
    let t ← PM.get
    flagS (oEvC b t.r.af.lo)
    if s.y = 6 then pure () else setS s.y b
  else if s.z = 1 then do
    let b ← if s.y = 6 then pure (u8 0) else getS s.y
    let t ← PM.get
    outS t.r.bc b
    PM.mod fun s => { s with r := { s.r with wz := s.r.bc.inc 1 } }
  else if s.z = 2 then do
    statesS 7
    PM.mod fun s => { s with r := { s.r with wz := s.r.hl.inc 1 } }
    let t ← PM.get
    let x := getP t.r s.plane s.p
    PM.mod fun t => { t with r := { t.r with hl := if s.q = 1 then oAdc t.r.hl x t.r.af.lo else oSbc t.r.hl x t.r.af.lo } }
    flagS (if s.q = 1 then oAdcF t.r.hl x t.r.af.lo else oSbcF t.r.hl x t.r.af.lo)
  else if s.z = 3 then wordsS
  else if s.z = 4 then putS (oNeg s.r.af.hi) (oNegF s.r.af.hi)
  else if s.z = 5 then do
    backS
    PM.mod fun s => { s with r := { s.r with iff1 := s.r.iff2 } }
  else if s.z = 6 then PM.mod fun s => { s with r := { s.r with mode := modeS s.y } }
  else oddS
theorem fr_middle : Fr middleS := by
  unfold middleS
  repeat (first | with_reducible exact fr_pure _ | with_reducible exact fr_get | with_reducible refine fr_ite ?_ ?_ | with_reducible refine fr_bind ?_ fun _ => ?_ | with_reducible exact (fr_add _ _) | with_reducible exact (fr_beside _) | with_reducible exact (fr_call _) | with_reducible exact (fr_flag _) | with_reducible exact (fr_getS _) | with_reducible exact (fr_hop _) | with_reducible exact (fr_in _) | with_reducible exact (fr_mv _) | with_reducible exact (fr_out _ _) | with_reducible exact (fr_push _) | with_reducible exact (fr_put _ _) | with_reducible exact (fr_read _) | with_reducible exact (fr_set _ _) | with_reducible exact (fr_setPair _ _) | with_reducible exact (fr_states _) | with_reducible exact (fr_write _ _) | with_reducible exact fr_back | with_reducible exact fr_cross | with_reducible exact fr_fetch | with_reducible exact fr_high | with_reducible exact fr_hops | with_reducible exact fr_less | with_reducible exact fr_load | with_reducible exact fr_low | with_reducible exact fr_move | with_reducible exact fr_number | with_reducible exact fr_odd | with_reducible exact fr_pairAt | with_reducible exact fr_pop | with_reducible exact fr_pops | with_reducible exact fr_ports | with_reducible exact fr_stepDec | with_reducible exact fr_stepInc | with_reducible exact fr_stores | with_reducible exact fr_sums | with_reducible exact fr_tick | with_reducible exact fr_turn | with_reducible exact fr_where | with_reducible exact fr_word | with_reducible exact fr_words | ((with_reducible refine fr_mod ?_); exact fun s => Same.refl s))
set_option maxHeartbeats 6000000 in
set_option maxRecDepth 8000 in
theorem middle_0W_ (B : Nat) (s : PS) (w : World) (hI : Inv B w s.gv s.got) (hz : s.z = 0) (hy : s.y = 6) : Calls Tryz.prog 63 #[.pointer (some ⟨B, 0, none⟩)] (put w B s.cells) (Post B w eU (run middleS s)) := by
  have hi := hI.inb
  have hb0 := Below.refl w.heap.size w
  go_enter Tryz.func63, Tryz.ntmps63
  all_goals (try go_wp2_with (first | (go_at_call 120; refine (inW_ B _ _ _ (by assumption)).mono (Post.thruF (fr_in _) hb0 (fun c s1 w1 hq hb0 hi => ?_) (fun v s1 w1 hq f1 f2 f3 f4 f5 f6 f7 hb0 hI hi => ?_))) | (go_at_call 121; refine (oEven_ _ _).mono ?_; rintro e w1 ⟨rfl, hb⟩; obtain ⟨w2, rfl, hb2⟩ := unput hi hb; replace hb0 := bt hb0 hb2; replace hI := hI.kept hb2; have hi := hI.inb) | (go_at_call 68; refine (fW_ B _ _ (by assumption)).mono ?_; rintro e w1 ⟨rfl, rfl⟩) | (go_at_call 69; refine (flagW_ B _ _ _ (by assumption)).mono (Post.thruF (fr_flag _) hb0 (fun c s1 w1 hq hb0 hi => ?_) (fun v s1 w1 hq f1 f2 f3 f4 f5 f6 f7 hb0 hI hi => ?_))) | (go_at_call 72; refine (setW_ B _ _ _ _ (by assumption)).mono (Post.thruF (fr_set _ _) hb0 (fun c s1 w1 hq hb0 hi => ?_) (fun v s1 w1 hq f1 f2 f3 f4 f5 f6 f7 hb0 hI hi => ?_)))))
  all_goals first
    | (refine ⟨rfl, Post.err _ ?_ hb0 hi⟩; simp [middleS, modeS, *]; done)
    | (refine bodyPost_end (results_none rfl _ _ _) rfl (Post.done (v := ()) ?_ rfl hb0 hI); simp [middleS, modeS, *]; done)
    | (refine bodyPost_ret (results_none rfl _ _ _) rfl (Post.done (v := ()) ?_ rfl hb0 hI); simp [middleS, modeS, *]; done)
    | (refine bodyPost_end (results_none rfl _ _ _) rfl (Post.done (v := ()) ?_ rfl hb0 hI); have hm : (wrap64 (bits .and .i64 s.y 3 - 1) ≤ 0) = False := eq_false (by omega); simp [middleS, modeS, *]; done)
set_option maxHeartbeats 6000000 in
set_option maxRecDepth 8000 in
theorem middle_1W_ (B : Nat) (s : PS) (w : World) (hI : Inv B w s.gv s.got) (hz : s.z = 0) (hy : ¬ s.y = 6) : Calls Tryz.prog 63 #[.pointer (some ⟨B, 0, none⟩)] (put w B s.cells) (Post B w eU (run middleS s)) := by
  have hi := hI.inb
  have hb0 := Below.refl w.heap.size w
  go_enter Tryz.func63, Tryz.ntmps63
  all_goals (try go_wp2_with (first | (go_at_call 120; refine (inW_ B _ _ _ (by assumption)).mono (Post.thruF (fr_in _) hb0 (fun c s1 w1 hq hb0 hi => ?_) (fun v s1 w1 hq f1 f2 f3 f4 f5 f6 f7 hb0 hI hi => ?_))) | (go_at_call 121; refine (oEven_ _ _).mono ?_; rintro e w1 ⟨rfl, hb⟩; obtain ⟨w2, rfl, hb2⟩ := unput hi hb; replace hb0 := bt hb0 hb2; replace hI := hI.kept hb2; have hi := hI.inb) | (go_at_call 68; refine (fW_ B _ _ (by assumption)).mono ?_; rintro e w1 ⟨rfl, rfl⟩) | (go_at_call 69; refine (flagW_ B _ _ _ (by assumption)).mono (Post.thruF (fr_flag _) hb0 (fun c s1 w1 hq hb0 hi => ?_) (fun v s1 w1 hq f1 f2 f3 f4 f5 f6 f7 hb0 hI hi => ?_))) | (go_at_call 72; refine (setW_ B _ _ _ _ (by assumption)).mono (Post.thruF (fr_set _ _) hb0 (fun c s1 w1 hq hb0 hi => ?_) (fun v s1 w1 hq f1 f2 f3 f4 f5 f6 f7 hb0 hI hi => ?_)))))
  all_goals first
    | (refine ⟨rfl, Post.err _ ?_ hb0 hi⟩; simp [middleS, modeS, *]; done)
    | (refine bodyPost_end (results_none rfl _ _ _) rfl (Post.done (v := ()) ?_ rfl hb0 hI); simp [middleS, modeS, *]; done)
    | (refine bodyPost_ret (results_none rfl _ _ _) rfl (Post.done (v := ()) ?_ rfl hb0 hI); simp [middleS, modeS, *]; done)
    | (refine bodyPost_end (results_none rfl _ _ _) rfl (Post.done (v := ()) ?_ rfl hb0 hI); have hm : (wrap64 (bits .and .i64 s.y 3 - 1) ≤ 0) = False := eq_false (by omega); simp [middleS, modeS, *]; done)
set_option maxHeartbeats 6000000 in
set_option maxRecDepth 8000 in
theorem middle_2W_ (B : Nat) (s : PS) (w : World) (hI : Inv B w s.gv s.got) (hz : s.z = 1) (hy : s.y = 6) : Calls Tryz.prog 63 #[.pointer (some ⟨B, 0, none⟩)] (put w B s.cells) (Post B w eU (run middleS s)) := by
  have hi := hI.inb
  have hb0 := Below.refl w.heap.size w
  go_enter Tryz.func63, Tryz.ntmps63
  go_wp2_with (first | (go_at_call 122; refine (outW_ B _ (u8 0) _ _ (by assumption)).mono (Post.thruF (fr_out _ _) hb0 (fun c s1 w1 hq hb0 hi => ?_) (fun v s1 w1 hq f1 f2 f3 f4 f5 f6 f7 hb0 hI hi => ?_))))
  all_goals first
    | (refine ⟨rfl, Post.err _ ?_ hb0 hi⟩; simp [middleS, modeS, *]; done)
    | (refine bodyPost_end (results_none rfl _ _ _) rfl (Post.done (v := ()) ?_ rfl hb0 hI); simp [middleS, modeS, *]; done)
    | (refine bodyPost_ret (results_none rfl _ _ _) rfl (Post.done (v := ()) ?_ rfl hb0 hI); simp [middleS, modeS, *]; done)
    | (refine bodyPost_end (results_none rfl _ _ _) rfl (Post.done (v := ()) ?_ rfl hb0 hI); have hm : (wrap64 (bits .and .i64 s.y 3 - 1) ≤ 0) = False := eq_false (by omega); simp [middleS, modeS, *]; done)
set_option maxHeartbeats 6000000 in
set_option maxRecDepth 8000 in
theorem middle_3W_ (B : Nat) (s : PS) (w : World) (hI : Inv B w s.gv s.got) (hz : s.z = 1) (hy : ¬ s.y = 6) : Calls Tryz.prog 63 #[.pointer (some ⟨B, 0, none⟩)] (put w B s.cells) (Post B w eU (run middleS s)) := by
  have hi := hI.inb
  have hb0 := Below.refl w.heap.size w
  go_enter Tryz.func63, Tryz.ntmps63
  all_goals (try go_wp2_with (first | (go_at_call 65; refine (getW_ B _ _ _ (by assumption)).mono (Post.thruF (fr_getS _) hb0 (fun c s1 w1 hq hb0 hi => ?_) (fun v s1 w1 hq f1 f2 f3 f4 f5 f6 f7 hb0 hI hi => ?_))) | (go_at_call 122; refine (outW_ B _ _ _ _ (by assumption)).mono (Post.thruF (fr_out _ _) hb0 (fun c s1 w1 hq hb0 hi => ?_) (fun v s1 w1 hq f1 f2 f3 f4 f5 f6 f7 hb0 hI hi => ?_)))))
  all_goals first
    | (refine ⟨rfl, Post.err _ ?_ hb0 hi⟩; simp [middleS, modeS, *]; done)
    | (refine bodyPost_end (results_none rfl _ _ _) rfl (Post.done (v := ()) ?_ rfl hb0 hI); simp [middleS, modeS, *]; done)
    | (refine bodyPost_ret (results_none rfl _ _ _) rfl (Post.done (v := ()) ?_ rfl hb0 hI); simp [middleS, modeS, *]; done)
    | (refine bodyPost_end (results_none rfl _ _ _) rfl (Post.done (v := ()) ?_ rfl hb0 hI); have hm : (wrap64 (bits .and .i64 s.y 3 - 1) ≤ 0) = False := eq_false (by omega); simp [middleS, modeS, *]; done)
set_option maxHeartbeats 6000000 in
set_option maxRecDepth 8000 in
theorem middle_4W_ (B : Nat) (s : PS) (w : World) (hI : Inv B w s.gv s.got) (hz : s.z = 2) (hq1 : s.q = 1) : Calls Tryz.prog 63 #[.pointer (some ⟨B, 0, none⟩)] (put w B s.cells) (Post B w eU (run middleS s)) := by
  have hi := hI.inb
  have hb0 := Below.refl w.heap.size w
  go_enter Tryz.func63, Tryz.ntmps63
  all_goals (try go_wp2_with (first | (go_at_call 47; refine (statesW_ B _ _ _ (by assumption)).mono (Post.thruF (fr_states _) hb0 (fun c s1 w1 hq hb0 hi => ?_) (fun v s1 w1 hq f1 f2 f3 f4 f5 f6 f7 hb0 hI hi => ?_)))))
  all_goals (try (
        replace hb0 := bt hb0 (Below.refl _ _).drew
        replace hI := Inv.drew hI
        replace hi := Inv.inb hI
        go_region_with (first | (go_at_call 74; refine (pairW_ B _ _ _ (by assumption)).mono ?_; rintro e w1 ⟨rfl, hb⟩; obtain ⟨w2, rfl, hb2⟩ := unput hi hb; replace hb0 := bt hb0 hb2; replace hI := hI.kept hb2; have hi := hI.inb) | (go_at_call 68; refine (fW_ B _ _ (by assumption)).mono ?_; rintro e w1 ⟨rfl, rfl⟩) | (go_at_call 124; refine (oAdc_ _ _ _ _).mono ?_; rintro e w1 ⟨rfl, hb⟩; obtain ⟨w2, rfl, hb2⟩ := unput hi hb; replace hb0 := bt hb0 hb2; replace hI := hI.kept hb2; have hi := hI.inb) | (go_at_call 123; refine (oSbc_ _ _ _ _).mono ?_; rintro e w1 ⟨rfl, hb⟩; obtain ⟨w2, rfl, hb2⟩ := unput hi hb; replace hb0 := bt hb0 hb2; replace hI := hI.kept hb2; have hi := hI.inb))))
  all_goals (try go_wp2_with (first | (go_at_call 69; refine (flagW_ B _ _ _ (by assumption)).mono (Post.thruF (fr_flag _) hb0 (fun c s1 w1 hq hb0 hi => ?_) (fun v s1 w1 hq f1 f2 f3 f4 f5 f6 f7 hb0 hI hi => ?_)))))
  all_goals first
    | (refine ⟨rfl, Post.err _ ?_ hb0 hi⟩; simp [middleS, modeS, *]; done)
    | (refine bodyPost_end (results_none rfl _ _ _) rfl (Post.done (v := ()) ?_ rfl hb0 hI); simp [middleS, modeS, *]; done)
    | (refine bodyPost_ret (results_none rfl _ _ _) rfl (Post.done (v := ()) ?_ rfl hb0 hI); simp [middleS, modeS, *]; done)
    | (refine bodyPost_end (results_none rfl _ _ _) rfl (Post.done (v := ()) ?_ rfl hb0 hI); have hm : (wrap64 (bits .and .i64 s.y 3 - 1) ≤ 0) = False := eq_false (by omega); simp [middleS, modeS, *]; done)
set_option maxHeartbeats 6000000 in
set_option maxRecDepth 8000 in
theorem middle_5W_ (B : Nat) (s : PS) (w : World) (hI : Inv B w s.gv s.got) (hz : s.z = 2) (hq1 : ¬ s.q = 1) : Calls Tryz.prog 63 #[.pointer (some ⟨B, 0, none⟩)] (put w B s.cells) (Post B w eU (run middleS s)) := by
  have hi := hI.inb
  have hb0 := Below.refl w.heap.size w
  go_enter Tryz.func63, Tryz.ntmps63
  all_goals (try go_wp2_with (first | (go_at_call 47; refine (statesW_ B _ _ _ (by assumption)).mono (Post.thruF (fr_states _) hb0 (fun c s1 w1 hq hb0 hi => ?_) (fun v s1 w1 hq f1 f2 f3 f4 f5 f6 f7 hb0 hI hi => ?_)))))
  all_goals (try (
        replace hb0 := bt hb0 (Below.refl _ _).drew
        replace hI := Inv.drew hI
        replace hi := Inv.inb hI
        go_region_with (first | (go_at_call 74; refine (pairW_ B _ _ _ (by assumption)).mono ?_; rintro e w1 ⟨rfl, hb⟩; obtain ⟨w2, rfl, hb2⟩ := unput hi hb; replace hb0 := bt hb0 hb2; replace hI := hI.kept hb2; have hi := hI.inb) | (go_at_call 68; refine (fW_ B _ _ (by assumption)).mono ?_; rintro e w1 ⟨rfl, rfl⟩) | (go_at_call 124; refine (oAdc_ _ _ _ _).mono ?_; rintro e w1 ⟨rfl, hb⟩; obtain ⟨w2, rfl, hb2⟩ := unput hi hb; replace hb0 := bt hb0 hb2; replace hI := hI.kept hb2; have hi := hI.inb) | (go_at_call 123; refine (oSbc_ _ _ _ _).mono ?_; rintro e w1 ⟨rfl, hb⟩; obtain ⟨w2, rfl, hb2⟩ := unput hi hb; replace hb0 := bt hb0 hb2; replace hI := hI.kept hb2; have hi := hI.inb))))
  all_goals (try go_wp2_with (first | (go_at_call 69; refine (flagW_ B _ _ _ (by assumption)).mono (Post.thruF (fr_flag _) hb0 (fun c s1 w1 hq hb0 hi => ?_) (fun v s1 w1 hq f1 f2 f3 f4 f5 f6 f7 hb0 hI hi => ?_)))))
  all_goals first
    | (refine ⟨rfl, Post.err _ ?_ hb0 hi⟩; simp [middleS, modeS, *]; done)
    | (refine bodyPost_end (results_none rfl _ _ _) rfl (Post.done (v := ()) ?_ rfl hb0 hI); simp [middleS, modeS, *]; done)
    | (refine bodyPost_ret (results_none rfl _ _ _) rfl (Post.done (v := ()) ?_ rfl hb0 hI); simp [middleS, modeS, *]; done)
    | (refine bodyPost_end (results_none rfl _ _ _) rfl (Post.done (v := ()) ?_ rfl hb0 hI); have hm : (wrap64 (bits .and .i64 s.y 3 - 1) ≤ 0) = False := eq_false (by omega); simp [middleS, modeS, *]; done)
set_option maxHeartbeats 6000000 in
set_option maxRecDepth 8000 in
theorem middle_6W_ (B : Nat) (s : PS) (w : World) (hI : Inv B w s.gv s.got) (hz : s.z = 3) : Calls Tryz.prog 63 #[.pointer (some ⟨B, 0, none⟩)] (put w B s.cells) (Post B w eU (run middleS s)) := by
  have hi := hI.inb
  have hb0 := Below.refl w.heap.size w
  go_enter Tryz.func63, Tryz.ntmps63
  all_goals (try go_wp2_with (first | (go_at_call 125; refine (wordsW_ B  _ _ (by assumption)).mono (Post.thruF fr_words hb0 (fun c s1 w1 hq hb0 hi => ?_) (fun v s1 w1 hq f1 f2 f3 f4 f5 f6 f7 hb0 hI hi => ?_)))))
  all_goals first
    | (refine ⟨rfl, Post.err _ ?_ hb0 hi⟩; simp [middleS, modeS, *]; done)
    | (refine bodyPost_end (results_none rfl _ _ _) rfl (Post.done (v := ()) ?_ rfl hb0 hI); simp [middleS, modeS, *]; done)
    | (refine bodyPost_ret (results_none rfl _ _ _) rfl (Post.done (v := ()) ?_ rfl hb0 hI); simp [middleS, modeS, *]; done)
    | (refine bodyPost_end (results_none rfl _ _ _) rfl (Post.done (v := ()) ?_ rfl hb0 hI); have hm : (wrap64 (bits .and .i64 s.y 3 - 1) ≤ 0) = False := eq_false (by omega); simp [middleS, modeS, *]; done)
set_option maxHeartbeats 6000000 in
set_option maxRecDepth 8000 in
theorem middle_7W_ (B : Nat) (s : PS) (w : World) (hI : Inv B w s.gv s.got) (hz : s.z = 4) : Calls Tryz.prog 63 #[.pointer (some ⟨B, 0, none⟩)] (put w B s.cells) (Post B w eU (run middleS s)) := by
  have hi := hI.inb
  have hb0 := Below.refl w.heap.size w
  go_enter Tryz.func63, Tryz.ntmps63
  all_goals (try go_wp2_with (first | (go_at_call 128; refine (aW_ B _ _ (by assumption)).mono ?_; rintro e w1 ⟨rfl, rfl⟩) | (go_at_call 127; refine (oNeg_ _ _).mono ?_; rintro e w1 ⟨rfl, hb⟩; obtain ⟨w2, rfl, hb2⟩ := unput hi hb; replace hb0 := bt hb0 hb2; replace hI := hI.kept hb2; have hi := hI.inb) | (go_at_call 126; refine (putW_ B _ _ _ _ (by assumption)).mono (Post.thruF (fr_put _ _) hb0 (fun c s1 w1 hq hb0 hi => ?_) (fun v s1 w1 hq f1 f2 f3 f4 f5 f6 f7 hb0 hI hi => ?_)))))
  all_goals first
    | (refine ⟨rfl, Post.err _ ?_ hb0 hi⟩; simp [middleS, modeS, *]; done)
    | (refine bodyPost_end (results_none rfl _ _ _) rfl (Post.done (v := ()) ?_ rfl hb0 hI); simp [middleS, modeS, *]; done)
    | (refine bodyPost_ret (results_none rfl _ _ _) rfl (Post.done (v := ()) ?_ rfl hb0 hI); simp [middleS, modeS, *]; done)
    | (refine bodyPost_end (results_none rfl _ _ _) rfl (Post.done (v := ()) ?_ rfl hb0 hI); have hm : (wrap64 (bits .and .i64 s.y 3 - 1) ≤ 0) = False := eq_false (by omega); simp [middleS, modeS, *]; done)
set_option maxHeartbeats 6000000 in
set_option maxRecDepth 8000 in
theorem middle_8W_ (B : Nat) (s : PS) (w : World) (hI : Inv B w s.gv s.got) (hz : s.z = 5) : Calls Tryz.prog 63 #[.pointer (some ⟨B, 0, none⟩)] (put w B s.cells) (Post B w eU (run middleS s)) := by
  have hi := hI.inb
  have hb0 := Below.refl w.heap.size w
  go_enter Tryz.func63, Tryz.ntmps63
  all_goals (try go_wp2_with (first | (go_at_call 89; refine (backW_ B  _ _ (by assumption)).mono (Post.thruF fr_back hb0 (fun c s1 w1 hq hb0 hi => ?_) (fun v s1 w1 hq f1 f2 f3 f4 f5 f6 f7 hb0 hI hi => ?_)))))
  all_goals first
    | (refine ⟨rfl, Post.err _ ?_ hb0 hi⟩; simp [middleS, modeS, *]; done)
    | (refine bodyPost_end (results_none rfl _ _ _) rfl (Post.done (v := ()) ?_ rfl hb0 hI); simp [middleS, modeS, *]; done)
    | (refine bodyPost_ret (results_none rfl _ _ _) rfl (Post.done (v := ()) ?_ rfl hb0 hI); simp [middleS, modeS, *]; done)
    | (refine bodyPost_end (results_none rfl _ _ _) rfl (Post.done (v := ()) ?_ rfl hb0 hI); have hm : (wrap64 (bits .and .i64 s.y 3 - 1) ≤ 0) = False := eq_false (by omega); simp [middleS, modeS, *]; done)
set_option maxHeartbeats 6000000 in
set_option maxRecDepth 8000 in
theorem middle_9W_ (B : Nat) (s : PS) (w : World) (hI : Inv B w s.gv s.got) (hz : s.z = 6) : Calls Tryz.prog 63 #[.pointer (some ⟨B, 0, none⟩)] (put w B s.cells) (Post B w eU (run middleS s)) := by
  have hi := hI.inb
  have hb0 := Below.refl w.heap.size w
  go_enter Tryz.func63, Tryz.ntmps63
  all_goals (try go_wp2)
  all_goals first
    | (refine ⟨rfl, Post.err _ ?_ hb0 hi⟩; simp [middleS, modeS, *]; done)
    | (refine bodyPost_end (results_none rfl _ _ _) rfl (Post.done (v := ()) ?_ rfl hb0 hI); simp [middleS, modeS, *]; done)
    | (refine bodyPost_ret (results_none rfl _ _ _) rfl (Post.done (v := ()) ?_ rfl hb0 hI); simp [middleS, modeS, *]; done)
    | (refine bodyPost_end (results_none rfl _ _ _) rfl (Post.done (v := ()) ?_ rfl hb0 hI); have hm : (wrap64 (bits .and .i64 s.y 3 - 1) ≤ 0) = False := eq_false (by omega); simp [middleS, modeS, *]; done)
set_option maxHeartbeats 6000000 in
set_option maxRecDepth 8000 in
theorem middle_10W_ (B : Nat) (s : PS) (w : World) (hI : Inv B w s.gv s.got) (h0 : ¬ s.z = 0) (h1 : ¬ s.z = 1) (h2 : ¬ s.z = 2) (h3 : ¬ s.z = 3) (h4 : ¬ s.z = 4) (h5 : ¬ s.z = 5) (h6 : ¬ s.z = 6) : Calls Tryz.prog 63 #[.pointer (some ⟨B, 0, none⟩)] (put w B s.cells) (Post B w eU (run middleS s)) := by
  have hi := hI.inb
  have hb0 := Below.refl w.heap.size w
  go_enter Tryz.func63, Tryz.ntmps63
  all_goals (try go_wp2_with (first | (go_at_call 129; refine (oddW_ B  _ _ (by assumption)).mono (Post.thruF fr_odd hb0 (fun c s1 w1 hq hb0 hi => ?_) (fun v s1 w1 hq f1 f2 f3 f4 f5 f6 f7 hb0 hI hi => ?_)))))
  all_goals first
    | (refine ⟨rfl, Post.err _ ?_ hb0 hi⟩; simp [middleS, modeS, *]; done)
    | (refine bodyPost_end (results_none rfl _ _ _) rfl (Post.done (v := ()) ?_ rfl hb0 hI); simp [middleS, modeS, *]; done)
    | (refine bodyPost_ret (results_none rfl _ _ _) rfl (Post.done (v := ()) ?_ rfl hb0 hI); simp [middleS, modeS, *]; done)
    | (refine bodyPost_end (results_none rfl _ _ _) rfl (Post.done (v := ()) ?_ rfl hb0 hI); have hm : (wrap64 (bits .and .i64 s.y 3 - 1) ≤ 0) = False := eq_false (by omega); simp [middleS, modeS, *]; done)
theorem middleW_ (B : Nat) (s : PS) (w : World) (hI : Inv B w s.gv s.got) : Calls Tryz.prog 63 #[.pointer (some ⟨B, 0, none⟩)] (put w B s.cells) (Post B w eU (run middleS s)) := by
  rcases (show (s.z = 0 ∧ s.y = 6) ∨ (s.z = 0 ∧ ¬ s.y = 6) ∨ (s.z = 1 ∧ s.y = 6) ∨ (s.z = 1 ∧ ¬ s.y = 6) ∨ (s.z = 2 ∧ s.q = 1) ∨ (s.z = 2 ∧ ¬ s.q = 1) ∨ (s.z = 3) ∨ (s.z = 4) ∨ (s.z = 5) ∨ (s.z = 6) ∨ (¬ s.z = 0 ∧ ¬ s.z = 1 ∧ ¬ s.z = 2 ∧ ¬ s.z = 3 ∧ ¬ s.z = 4 ∧ ¬ s.z = 5 ∧ ¬ s.z = 6) by omega) with ⟨hz, hy⟩ | ⟨hz, hy⟩ | ⟨hz, hy⟩ | ⟨hz, hy⟩ | ⟨hz, hq1⟩ | ⟨hz, hq1⟩ | hz | hz | hz | hz | ⟨h0, h1, h2, h3, h4, h5, h6⟩
  · exact middle_0W_ B s w hI hz hy
  · exact middle_1W_ B s w hI hz hy
  · exact middle_2W_ B s w hI hz hy
  · exact middle_3W_ B s w hI hz hy
  · exact middle_4W_ B s w hI hz hq1
  · exact middle_5W_ B s w hI hz hq1
  · exact middle_6W_ B s w hI hz
  · exact middle_7W_ B s w hI hz
  · exact middle_8W_ B s w hI hz
  · exact middle_9W_ B s w hI hz
  · exact middle_10W_ B s w hI h0 h1 h2 h3 h4 h5 h6
end Go.Proofs.YtnaampdpkegacaaGreatDoor
