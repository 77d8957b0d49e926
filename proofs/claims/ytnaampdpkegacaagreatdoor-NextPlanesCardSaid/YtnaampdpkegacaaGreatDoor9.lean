/-
  Contracts of next's words, odd, less and middle. A helper of the claim that stands beside it. (Printed by a program of wip/.)
-/
import Derived.Test.YtnaampdpkegacaaGreatDoor3
namespace Go.Proofs.YtnaampdpkegacaaGreatDoor
open Go.RowKit

/-- Flags of what goes in, and of I and R. -/
def oEvC (b f : U8) : U8 := ⟨bits .or .u8 (evf b.v) (bits .and .u8 f.v 1), (bits_range _ _ _).1, (bits_range _ _ _).2⟩
theorem evc_fold (b f : U8) : bits .or .u8 (oEven b).v (bits .and .u8 f.v 1) = (oEvC b f).v := rfl
def oRsC (b f : U8) : U8 := ⟨bits .or .u8 (res b.v) (bits .and .u8 f.v 1), (bits_range _ _ _).1, (bits_range _ _ _).2⟩
theorem rsc_fold (b f : U8) : bits .or .u8 (oRes b).v (bits .and .u8 f.v 1) = (oRsC b f).v := rfl
def oOr4 (f : U8) : U8 := ⟨bits .or .u8 f.v 4, (bits_range _ _ _).1, (bits_range _ _ _).2⟩
theorem or4_fold (f : U8) : bits .or .u8 f.v 4 = (oOr4 f).v := rfl
attribute [go_sem] evc_fold rsc_fold or4_fold

def wordsS : PM Unit := do
  let a ← wordS
  PM.mod fun s => { s with r := { s.r with wz := a.inc 1 } }
  let s ← PM.get
  if s.q = 0 then do
    writeS a (getP s.r s.plane s.p).lo
    let s ← PM.get
    writeS (a.inc 1) (getP s.r s.plane s.p).hi
  else do
    let lo ← readS a
    let hi ← readS (a.inc 1)
    setPairS s.p (hi.word lo)
theorem fr_words : Fr wordsS := by
  unfold wordsS
  repeat (first | with_reducible exact fr_pure _ | with_reducible exact fr_get | with_reducible refine fr_ite ?_ ?_ | with_reducible refine fr_bind ?_ fun _ => ?_ | with_reducible exact (fr_add _ _) | with_reducible exact (fr_beside _) | with_reducible exact (fr_call _) | with_reducible exact (fr_flag _) | with_reducible exact (fr_getS _) | with_reducible exact (fr_hop _) | with_reducible exact (fr_in _) | with_reducible exact (fr_mv _) | with_reducible exact (fr_out _ _) | with_reducible exact (fr_push _) | with_reducible exact (fr_put _ _) | with_reducible exact (fr_read _) | with_reducible exact (fr_set _ _) | with_reducible exact (fr_setPair _ _) | with_reducible exact (fr_states _) | with_reducible exact (fr_write _ _) | with_reducible exact fr_back | with_reducible exact fr_cross | with_reducible exact fr_fetch | with_reducible exact fr_high | with_reducible exact fr_hops | with_reducible exact fr_load | with_reducible exact fr_low | with_reducible exact fr_move | with_reducible exact fr_number | with_reducible exact fr_pairAt | with_reducible exact fr_pop | with_reducible exact fr_pops | with_reducible exact fr_ports | with_reducible exact fr_stepDec | with_reducible exact fr_stepInc | with_reducible exact fr_stores | with_reducible exact fr_sums | with_reducible exact fr_tick | with_reducible exact fr_turn | with_reducible exact fr_where | with_reducible exact fr_word | ((with_reducible refine fr_mod ?_); exact fun s => Same.refl s))
set_option maxHeartbeats 1000000 in
set_option maxRecDepth 8000 in
theorem wordsW_ (B : Nat) (s : PS) (w : World) (hI : Inv B w s.gv s.got) : Calls Tryz.prog 125 #[.pointer (some ⟨B, 0, none⟩)] (put w B s.cells) (Post B w eU (run wordsS s)) := by
  have hi := hI.inb
  have hb0 := Below.refl w.heap.size w
  rcases (show s.q = 0 ∨ ¬ s.q = 0 by omega) with hq0 | hq0
  all_goals
    go_enter Tryz.func125, Tryz.ntmps125
    all_goals (try go_wp2_with (first | (go_at_call 78; refine (wordW_ B  _ _ (by assumption)).mono (Post.thruF fr_word hb0 (fun c s1 w1 hq hb0 hi => ?_) (fun v s1 w1 hq f1 f2 f3 f4 f5 f6 f7 hb0 hI hi => ?_))) | (go_at_call 74; refine (pairW_ B _ _ _ (by assumption)).mono ?_; rintro e w1 ⟨rfl, hb⟩; obtain ⟨w2, rfl, hb2⟩ := unput hi hb; replace hb0 := bt hb0 hb2; replace hI := hI.kept hb2; have hi := hI.inb) | (go_at_call 136; refine (lo_ _ _).mono ?_; rintro e w1 ⟨rfl, rfl⟩) | (go_at_call 66; refine (hi_ _ _).mono ?_; rintro e w1 ⟨rfl, rfl⟩) | (go_at_call 131; refine (writeW_ B _ _ _ _ (by assumption)).mono (Post.thruF (fr_write _ _) hb0 (fun c s1 w1 hq hb0 hi => ?_) (fun v s1 w1 hq f1 f2 f3 f4 f5 f6 f7 hb0 hI hi => ?_))) | (go_at_call 75; refine (readW_ B _ _ _ (by assumption)).mono (Post.thruF (fr_read _) hb0 (fun c s1 w1 hq hb0 hi => ?_) (fun v s1 w1 hq f1 f2 f3 f4 f5 f6 f7 hb0 hI hi => ?_)))))
    all_goals (try (
          replace hb0 := bt hb0 (Below.refl _ _).drew
          replace hI := Inv.drew hI
          replace hi := Inv.inb hI
          go_region_with (first | (go_at_call 75; refine (readW_ B _ _ _ (by assumption)).mono (Post.thruF (fr_read _) hb0 (fun c s1 w1 hq hb0 hi => ?_) (fun v s1 w1 hq f1 f2 f3 f4 f5 f6 f7 hb0 hI hi => ?_)); (· exact ⟨rfl, Post.err _ (by simp [wordsS, *]) hb0 hi⟩)) | (go_at_call 149; refine (word_ _ _ (U8.h0 _) (U8.h1 _) (U8.h0 _) (U8.h1 _) _).mono ?_; rintro e w1 ⟨rfl, rfl⟩) | (go_at_call 77; refine (setPairW_ B _ _ _ _ (by assumption)).mono (Post.thruF (fr_setPair _ _) hb0 (fun c s1 w1 hq hb0 hi => ?_) (fun v s1 w1 hq f1 f2 f3 f4 f5 f6 f7 hb0 hI hi => ?_)); (· exact ⟨rfl, Post.err _ (by simp [wordsS, *]) hb0 hi⟩)))))
    all_goals (try go_wp2)
    all_goals first
      | (refine ⟨rfl, Post.err _ ?_ hb0 hi⟩; simp [wordsS, *]; done)
      | (refine bodyPost_end (results_none rfl _ _ _) rfl (Post.done (v := ()) ?_ rfl hb0 hI); simp [wordsS, *]; done)
      | (refine bodyPost_ret (results_none rfl _ _ _) rfl (Post.done (v := ()) ?_ rfl hb0 hI); simp [wordsS, *]; done)
def oddS : PM Unit := do
  let s ← PM.get
  if s.y = 0 then do
    statesS 1
    PM.mod fun s => { s with r := { s.r with i := s.r.af.hi } }
  else if s.y = 1 then do
    statesS 1
    PM.mod fun s => { s with r := { s.r with r := s.r.af.hi } }
  else if s.y = 2 ∨ s.y = 3 then do
    statesS 1
    let t ← PM.get
    let b := if s.y = 3 then t.r.r else t.r.i
    putS b (if t.r.iff2 then oOr4 (oRsC b t.r.af.lo) else oRsC b t.r.af.lo)
  else if s.y = 4 ∨ s.y = 5 then do
    let b ← readS s.r.hl
    statesS 4
    let t ← PM.get
    writeS t.r.hl (oDigB (s.y == 4) t.r.af.hi b)
    putS (oDigA (s.y == 4) t.r.af.hi b) (oDigF (s.y == 4) t.r.af.hi b t.r.af.lo)
    PM.mod fun s => { s with r := { s.r with wz := s.r.hl.inc 1 } }
  else pure ()
theorem fr_odd : Fr oddS := by
  unfold oddS
  repeat (first | with_reducible exact fr_pure _ | with_reducible exact fr_get | with_reducible refine fr_ite ?_ ?_ | with_reducible refine fr_bind ?_ fun _ => ?_ | with_reducible exact (fr_add _ _) | with_reducible exact (fr_beside _) | with_reducible exact (fr_call _) | with_reducible exact (fr_flag _) | with_reducible exact (fr_getS _) | with_reducible exact (fr_hop _) | with_reducible exact (fr_in _) | with_reducible exact (fr_mv _) | with_reducible exact (fr_out _ _) | with_reducible exact (fr_push _) | with_reducible exact (fr_put _ _) | with_reducible exact (fr_read _) | with_reducible exact (fr_set _ _) | with_reducible exact (fr_setPair _ _) | with_reducible exact (fr_states _) | with_reducible exact (fr_write _ _) | with_reducible exact fr_back | with_reducible exact fr_cross | with_reducible exact fr_fetch | with_reducible exact fr_high | with_reducible exact fr_hops | with_reducible exact fr_load | with_reducible exact fr_low | with_reducible exact fr_move | with_reducible exact fr_number | with_reducible exact fr_pairAt | with_reducible exact fr_pop | with_reducible exact fr_pops | with_reducible exact fr_ports | with_reducible exact fr_stepDec | with_reducible exact fr_stepInc | with_reducible exact fr_stores | with_reducible exact fr_sums | with_reducible exact fr_tick | with_reducible exact fr_turn | with_reducible exact fr_where | with_reducible exact fr_word | with_reducible exact fr_words | ((with_reducible refine fr_mod ?_); exact fun s => Same.refl s))
set_option maxHeartbeats 6000000 in
set_option maxRecDepth 8000 in
theorem odd_0W_ (B : Nat) (s : PS) (w : World) (hI : Inv B w s.gv s.got) (hy : s.y = 0) : Calls Tryz.prog 129 #[.pointer (some ⟨B, 0, none⟩)] (put w B s.cells) (Post B w eU (run oddS s)) := by
  have hi := hI.inb
  have hb0 := Below.refl w.heap.size w
  go_enter Tryz.func129, Tryz.ntmps129
  all_goals (try go_wp2_with (first | (go_at_call 47; refine (statesW_ B _ _ _ (by assumption)).mono (Post.thruF (fr_states _) hb0 (fun c s1 w1 hq hb0 hi => ?_) (fun v s1 w1 hq f1 f2 f3 f4 f5 f6 f7 hb0 hI hi => ?_))) | (go_at_call 128; refine (aW_ B _ _ (by assumption)).mono ?_; rintro e w1 ⟨rfl, rfl⟩)))
  all_goals first
    | (refine ⟨rfl, Post.err _ ?_ hb0 hi⟩; simp [oddS, *]; done)
    | (refine bodyPost_end (results_none rfl _ _ _) rfl (Post.done (v := ()) ?_ rfl hb0 hI); simp [oddS, *]; done)
    | (refine bodyPost_ret (results_none rfl _ _ _) rfl (Post.done (v := ()) ?_ rfl hb0 hI); simp [oddS, *]; done)
set_option maxHeartbeats 6000000 in
set_option maxRecDepth 8000 in
theorem odd_1W_ (B : Nat) (s : PS) (w : World) (hI : Inv B w s.gv s.got) (hy : s.y = 1) : Calls Tryz.prog 129 #[.pointer (some ⟨B, 0, none⟩)] (put w B s.cells) (Post B w eU (run oddS s)) := by
  have hi := hI.inb
  have hb0 := Below.refl w.heap.size w
  go_enter Tryz.func129, Tryz.ntmps129
  all_goals (try go_wp2_with (first | (go_at_call 47; refine (statesW_ B _ _ _ (by assumption)).mono (Post.thruF (fr_states _) hb0 (fun c s1 w1 hq hb0 hi => ?_) (fun v s1 w1 hq f1 f2 f3 f4 f5 f6 f7 hb0 hI hi => ?_))) | (go_at_call 128; refine (aW_ B _ _ (by assumption)).mono ?_; rintro e w1 ⟨rfl, rfl⟩)))
  all_goals first
    | (refine ⟨rfl, Post.err _ ?_ hb0 hi⟩; simp [oddS, *]; done)
    | (refine bodyPost_end (results_none rfl _ _ _) rfl (Post.done (v := ()) ?_ rfl hb0 hI); simp [oddS, *]; done)
    | (refine bodyPost_ret (results_none rfl _ _ _) rfl (Post.done (v := ()) ?_ rfl hb0 hI); simp [oddS, *]; done)
set_option maxHeartbeats 6000000 in
set_option maxRecDepth 8000 in
theorem odd_2W_ (B : Nat) (s : PS) (w : World) (hI : Inv B w s.gv s.got) (hy : s.y = 2) : Calls Tryz.prog 129 #[.pointer (some ⟨B, 0, none⟩)] (put w B s.cells) (Post B w eU (run oddS s)) := by
  have hi := hI.inb
  have hb0 := Below.refl w.heap.size w
  go_enter Tryz.func129, Tryz.ntmps129
  all_goals (try go_wp2_with (first | (go_at_call 47; refine (statesW_ B _ _ _ (by assumption)).mono (Post.thruF (fr_states _) hb0 (fun c s1 w1 hq hb0 hi => ?_) (fun v s1 w1 hq f1 f2 f3 f4 f5 f6 f7 hb0 hI hi => ?_))) | (go_at_call 216; refine (oRes_ _ _).mono ?_; rintro e w1 ⟨rfl, rfl⟩) | (go_at_call 68; refine (fW_ B _ _ (by assumption)).mono ?_; rintro e w1 ⟨rfl, rfl⟩) | (go_at_call 126; refine (putW_ B _ _ _ _ (by assumption)).mono (Post.thruF (fr_put _ _) hb0 (fun c s1 w1 hq hb0 hi => ?_) (fun v s1 w1 hq f1 f2 f3 f4 f5 f6 f7 hb0 hI hi => ?_)))))
  all_goals first
    | (refine ⟨rfl, Post.err _ ?_ hb0 hi⟩; simp [oddS, *]; done)
    | (refine bodyPost_end (results_none rfl _ _ _) rfl (Post.done (v := ()) ?_ rfl hb0 hI); simp [oddS, *]; done)
    | (refine bodyPost_ret (results_none rfl _ _ _) rfl (Post.done (v := ()) ?_ rfl hb0 hI); simp [oddS, *]; done)
set_option maxHeartbeats 6000000 in
set_option maxRecDepth 8000 in
theorem odd_3W_ (B : Nat) (s : PS) (w : World) (hI : Inv B w s.gv s.got) (hy : s.y = 3) : Calls Tryz.prog 129 #[.pointer (some ⟨B, 0, none⟩)] (put w B s.cells) (Post B w eU (run oddS s)) := by
  have hi := hI.inb
  have hb0 := Below.refl w.heap.size w
  go_enter Tryz.func129, Tryz.ntmps129
  all_goals (try go_wp2_with (first | (go_at_call 47; refine (statesW_ B _ _ _ (by assumption)).mono (Post.thruF (fr_states _) hb0 (fun c s1 w1 hq hb0 hi => ?_) (fun v s1 w1 hq f1 f2 f3 f4 f5 f6 f7 hb0 hI hi => ?_))) | (go_at_call 216; refine (oRes_ _ _).mono ?_; rintro e w1 ⟨rfl, rfl⟩) | (go_at_call 68; refine (fW_ B _ _ (by assumption)).mono ?_; rintro e w1 ⟨rfl, rfl⟩) | (go_at_call 126; refine (putW_ B _ _ _ _ (by assumption)).mono (Post.thruF (fr_put _ _) hb0 (fun c s1 w1 hq hb0 hi => ?_) (fun v s1 w1 hq f1 f2 f3 f4 f5 f6 f7 hb0 hI hi => ?_)))))
  all_goals first
    | (refine ⟨rfl, Post.err _ ?_ hb0 hi⟩; simp [oddS, *]; done)
    | (refine bodyPost_end (results_none rfl _ _ _) rfl (Post.done (v := ()) ?_ rfl hb0 hI); simp [oddS, *]; done)
    | (refine bodyPost_ret (results_none rfl _ _ _) rfl (Post.done (v := ()) ?_ rfl hb0 hI); simp [oddS, *]; done)
set_option maxHeartbeats 6000000 in
set_option maxRecDepth 8000 in
theorem odd_4W_ (B : Nat) (s : PS) (w : World) (hI : Inv B w s.gv s.got) (hy : s.y = 4) : Calls Tryz.prog 129 #[.pointer (some ⟨B, 0, none⟩)] (put w B s.cells) (Post B w eU (run oddS s)) := by
  have hi := hI.inb
  have hb0 := Below.refl w.heap.size w
  go_enter Tryz.func129, Tryz.ntmps129
  all_goals (try go_wp2_with (first | (go_at_call 75; refine (readW_ B _ _ _ (by assumption)).mono (Post.thruF (fr_read _) hb0 (fun c s1 w1 hq hb0 hi => ?_) (fun v s1 w1 hq f1 f2 f3 f4 f5 f6 f7 hb0 hI hi => ?_))) | (go_at_call 47; refine (statesW_ B _ _ _ (by assumption)).mono (Post.thruF (fr_states _) hb0 (fun c s1 w1 hq hb0 hi => ?_) (fun v s1 w1 hq f1 f2 f3 f4 f5 f6 f7 hb0 hI hi => ?_)))))
  all_goals (try (
        replace hb0 := bt hb0 (Below.refl _ _).drew
        replace hI := Inv.drew hI
        replace hi := Inv.inb hI
        go_region_with (first | (go_at_call 128; refine (aW_ B _ _ (by assumption)).mono ?_; rintro e w1 ⟨rfl, rfl⟩) | (go_at_call 68; refine (fW_ B _ _ (by assumption)).mono ?_; rintro e w1 ⟨rfl, rfl⟩) | (go_at_call 218; refine (oDig_ _ _ _ _ _).mono ?_; rintro e w1 ⟨rfl, hb⟩; obtain ⟨w2, rfl, hb2⟩ := unput hi hb; replace hb0 := bt hb0 hb2; replace hI := hI.kept hb2; have hi := hI.inb))))
  all_goals (try go_wp2_with (first | (go_at_call 131; refine (writeW_ B _ _ _ _ (by assumption)).mono (Post.thruF (fr_write _ _) hb0 (fun c s1 w1 hq hb0 hi => ?_) (fun v s1 w1 hq f1 f2 f3 f4 f5 f6 f7 hb0 hI hi => ?_))) | (go_at_call 126; refine (putW_ B _ _ _ _ (by assumption)).mono (Post.thruF (fr_put _ _) hb0 (fun c s1 w1 hq hb0 hi => ?_) (fun v s1 w1 hq f1 f2 f3 f4 f5 f6 f7 hb0 hI hi => ?_)))))
  all_goals first
    | (refine ⟨rfl, Post.err _ ?_ hb0 hi⟩; simp [oddS, *]; done)
    | (refine bodyPost_end (results_none rfl _ _ _) rfl (Post.done (v := ()) ?_ rfl hb0 hI); simp [oddS, *]; done)
    | (refine bodyPost_ret (results_none rfl _ _ _) rfl (Post.done (v := ()) ?_ rfl hb0 hI); simp [oddS, *]; done)
set_option maxHeartbeats 6000000 in
set_option maxRecDepth 8000 in
theorem odd_5W_ (B : Nat) (s : PS) (w : World) (hI : Inv B w s.gv s.got) (hy : s.y = 5) : Calls Tryz.prog 129 #[.pointer (some ⟨B, 0, none⟩)] (put w B s.cells) (Post B w eU (run oddS s)) := by
  have hi := hI.inb
  have hb0 := Below.refl w.heap.size w
  go_enter Tryz.func129, Tryz.ntmps129
  all_goals (try go_wp2_with (first | (go_at_call 75; refine (readW_ B _ _ _ (by assumption)).mono (Post.thruF (fr_read _) hb0 (fun c s1 w1 hq hb0 hi => ?_) (fun v s1 w1 hq f1 f2 f3 f4 f5 f6 f7 hb0 hI hi => ?_))) | (go_at_call 47; refine (statesW_ B _ _ _ (by assumption)).mono (Post.thruF (fr_states _) hb0 (fun c s1 w1 hq hb0 hi => ?_) (fun v s1 w1 hq f1 f2 f3 f4 f5 f6 f7 hb0 hI hi => ?_)))))
  all_goals (try (
        replace hb0 := bt hb0 (Below.refl _ _).drew
        replace hI := Inv.drew hI
        replace hi := Inv.inb hI
        go_region_with (first | (go_at_call 128; refine (aW_ B _ _ (by assumption)).mono ?_; rintro e w1 ⟨rfl, rfl⟩) | (go_at_call 68; refine (fW_ B _ _ (by assumption)).mono ?_; rintro e w1 ⟨rfl, rfl⟩) | (go_at_call 218; refine (oDig_ _ _ _ _ _).mono ?_; rintro e w1 ⟨rfl, hb⟩; obtain ⟨w2, rfl, hb2⟩ := unput hi hb; replace hb0 := bt hb0 hb2; replace hI := hI.kept hb2; have hi := hI.inb))))
  all_goals (try go_wp2_with (first | (go_at_call 131; refine (writeW_ B _ _ _ _ (by assumption)).mono (Post.thruF (fr_write _ _) hb0 (fun c s1 w1 hq hb0 hi => ?_) (fun v s1 w1 hq f1 f2 f3 f4 f5 f6 f7 hb0 hI hi => ?_))) | (go_at_call 126; refine (putW_ B _ _ _ _ (by assumption)).mono (Post.thruF (fr_put _ _) hb0 (fun c s1 w1 hq hb0 hi => ?_) (fun v s1 w1 hq f1 f2 f3 f4 f5 f6 f7 hb0 hI hi => ?_)))))
  all_goals first
    | (refine ⟨rfl, Post.err _ ?_ hb0 hi⟩; simp [oddS, *]; done)
    | (refine bodyPost_end (results_none rfl _ _ _) rfl (Post.done (v := ()) ?_ rfl hb0 hI); simp [oddS, *]; done)
    | (refine bodyPost_ret (results_none rfl _ _ _) rfl (Post.done (v := ()) ?_ rfl hb0 hI); simp [oddS, *]; done)
set_option maxHeartbeats 6000000 in
set_option maxRecDepth 8000 in
theorem odd_6W_ (B : Nat) (s : PS) (w : World) (hI : Inv B w s.gv s.got) (h0 : ¬ s.y = 0) (h1 : ¬ s.y = 1) (h2 : ¬ s.y = 2) (h3 : ¬ s.y = 3) (h4 : ¬ s.y = 4) (h5 : ¬ s.y = 5) : Calls Tryz.prog 129 #[.pointer (some ⟨B, 0, none⟩)] (put w B s.cells) (Post B w eU (run oddS s)) := by
  have hi := hI.inb
  have hb0 := Below.refl w.heap.size w
  go_enter Tryz.func129, Tryz.ntmps129
  all_goals (try go_wp2)
  all_goals first
    | (refine ⟨rfl, Post.err _ ?_ hb0 hi⟩; simp [oddS, *]; done)
    | (refine bodyPost_end (results_none rfl _ _ _) rfl (Post.done (v := ()) ?_ rfl hb0 hI); simp [oddS, *]; done)
    | (refine bodyPost_ret (results_none rfl _ _ _) rfl (Post.done (v := ()) ?_ rfl hb0 hI); simp [oddS, *]; done)
theorem oddW_ (B : Nat) (s : PS) (w : World) (hI : Inv B w s.gv s.got) : Calls Tryz.prog 129 #[.pointer (some ⟨B, 0, none⟩)] (put w B s.cells) (Post B w eU (run oddS s)) := by
  rcases (show (s.y = 0) ∨ (s.y = 1) ∨ (s.y = 2) ∨ (s.y = 3) ∨ (s.y = 4) ∨ (s.y = 5) ∨ (¬ s.y = 0 ∧ ¬ s.y = 1 ∧ ¬ s.y = 2 ∧ ¬ s.y = 3 ∧ ¬ s.y = 4 ∧ ¬ s.y = 5) by omega) with hy | hy | hy | hy | hy | hy | ⟨h0, h1, h2, h3, h4, h5⟩
  · exact odd_0W_ B s w hI hy
  · exact odd_1W_ B s w hI hy
  · exact odd_2W_ B s w hI hy
  · exact odd_3W_ B s w hI hy
  · exact odd_4W_ B s w hI hy
  · exact odd_5W_ B s w hI hy
  · exact odd_6W_ B s w hI h0 h1 h2 h3 h4 h5
def lessS : PM U8 := do
  let s ← PM.get
  PM.mod fun s => { s with r := { s.r with bc := (s.r.bc.hi.inc (-1)).word s.r.bc.lo } }
  pure (s.r.bc.hi.inc (-1))
theorem fr_less : Fr lessS := by
  unfold lessS
  repeat (first | with_reducible exact fr_pure _ | with_reducible exact fr_get | with_reducible refine fr_ite ?_ ?_ | with_reducible refine fr_bind ?_ fun _ => ?_ | with_reducible exact (fr_add _ _) | with_reducible exact (fr_beside _) | with_reducible exact (fr_call _) | with_reducible exact (fr_flag _) | with_reducible exact (fr_getS _) | with_reducible exact (fr_hop _) | with_reducible exact (fr_in _) | with_reducible exact (fr_mv _) | with_reducible exact (fr_out _ _) | with_reducible exact (fr_push _) | with_reducible exact (fr_put _ _) | with_reducible exact (fr_read _) | with_reducible exact (fr_set _ _) | with_reducible exact (fr_setPair _ _) | with_reducible exact (fr_states _) | with_reducible exact (fr_write _ _) | with_reducible exact fr_back | with_reducible exact fr_cross | with_reducible exact fr_fetch | with_reducible exact fr_high | with_reducible exact fr_hops | with_reducible exact fr_load | with_reducible exact fr_low | with_reducible exact fr_move | with_reducible exact fr_number | with_reducible exact fr_odd | with_reducible exact fr_pairAt | with_reducible exact fr_pop | with_reducible exact fr_pops | with_reducible exact fr_ports | with_reducible exact fr_stepDec | with_reducible exact fr_stepInc | with_reducible exact fr_stores | with_reducible exact fr_sums | with_reducible exact fr_tick | with_reducible exact fr_turn | with_reducible exact fr_where | with_reducible exact fr_word | with_reducible exact fr_words | ((with_reducible refine fr_mod ?_); exact fun s => Same.refl s))
set_option maxHeartbeats 1000000 in
set_option maxRecDepth 8000 in
theorem lessW_ (B : Nat) (s : PS) (w : World) (hI : Inv B w s.gv s.got) : Calls Tryz.prog 134 #[.pointer (some ⟨B, 0, none⟩)] (put w B s.cells) (Post B w e8 (run lessS s)) := by
  have hi := hI.inb
  have hb0 := Below.refl w.heap.size w
  go_enter Tryz.func134, Tryz.ntmps134
  all_goals (try go_wp2_with (first | (go_at_call 66; refine (hi_ _ _).mono ?_; rintro e w1 ⟨rfl, rfl⟩) | (go_at_call 136; refine (lo_ _ _).mono ?_; rintro e w1 ⟨rfl, rfl⟩) | (go_at_call 149; refine (word_ _ _ (U8.h0 _) (U8.h1 _) (U8.h0 _) (U8.h1 _) _).mono ?_; rintro e w1 ⟨rfl, rfl⟩)))
  all_goals first
    | (refine ⟨rfl, Post.err _ ?_ hb0 hi⟩; simp [lessS, *]; done)
    | (go_ret; refine Post.done ?_ rfl hb0 hI; simp [lessS, *]; done)
end Go.Proofs.YtnaampdpkegacaaGreatDoor
