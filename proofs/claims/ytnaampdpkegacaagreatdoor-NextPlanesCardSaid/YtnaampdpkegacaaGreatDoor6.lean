/-
  Contracts of next's ports and of its last quarter. A helper of the claim that stands beside it. (Printed by a program of wip/.)
-/
import Derived.Test.YtnaampdpkegacaaGreatDoor5
namespace Go.Proofs.YtnaampdpkegacaaGreatDoor
open Go.RowKit

/-- What stacked leaves, but for AF. -/
def StPost (B : Nat) (w : World) (s : PS) (x : U16) (e : Ending) (w' : World) : Prop := ∃ n w2, e = .returned (.pointer (some ⟨n, 0, none⟩)) ∧ w' = put w2 B s.cells ∧ Below w.heap.size w w2 ∧ w2.cell? ⟨n, 0, none⟩ = some (.int .u16 x.v) ∧ ¬ n = B
theorem stackedW_af (B : Nat) (s : PS) (w : World) (hI : Inv B w s.gv s.got) (hp : s.p = 3) : Calls Tryz.prog 94 #[.pointer (some ⟨B, 0, none⟩)] (put w B s.cells) fun e w' => e = .returned (.pointer (some ⟨B, 0, none⟩)) ∧ put w B s.cells = w' := by
  have hi := hI.inb
  go_enter Tryz.func94, Tryz.ntmps94
  go_wp2
  go_ret
  exact ⟨rfl, rfl⟩
theorem stackedW_no (B : Nat) (s : PS) (w : World) (hI : Inv B w s.gv s.got) (hp : ¬ s.p = 3) : Calls Tryz.prog 94 #[.pointer (some ⟨B, 0, none⟩)] (put w B s.cells) (StPost B w s (getP s.r s.plane s.p)) := by
  have hi := hI.inb
  have hb0 := Below.refl w.heap.size w
  go_enter Tryz.func94, Tryz.ntmps94
  go_wp2_with ((go_at_call 74; refine (pairW_ B _ _ _ (by assumption)).mono ?_; rintro e w1 ⟨rfl, hb⟩; obtain ⟨w2, rfl, hb2⟩ := unput hi hb; replace hb0 := bt hb0 hb2; replace hI := hI.kept hb2; have hi := hI.inb); have hne := hi.ne)
  go_ret
  refine ⟨_, _, rfl, rfl, hb0.alloc hb0.size _, ?_, hi.ne⟩
  exact (cell_new_l _ _ _).1

def portsS : PM Unit := do
  let s ← PM.get
  if s.y = 0 then do
    let x ← wordS
    PM.mod fun s => { s with r := { s.r with pc := x } }
    PM.mod fun s => { s with r := { s.r with wz := s.r.pc } }
  else if s.y = 2 then do
    let n ← numberS
    let t ← PM.get
    outS (s.r.af.hi.word n) t.r.af.hi
    besideS (s.r.af.hi.word n)
  else if s.y = 3 then do
    let n ← numberS
    let b ← inS (s.r.af.hi.word n)
    let t ← PM.get
    putS b t.r.af.lo
    PM.mod fun t => { t with r := { t.r with wz := (s.r.af.hi.word n).inc 1 } }
  else if s.y = 4 then crossS
  else if s.y = 5 then PM.mod fun s => { s with r := { s.r with de := s.r.hl, hl := s.r.de } }
  else if s.y = 6 then PM.mod fun s => { s with r := { s.r with iff1 := false, iff2 := false } }
  else if s.y = 7 then PM.mod fun s => { s with r := { s.r with iff1 := true, iff2 := true, late := true } }
  else pure ()
theorem fr_ports : Fr portsS := by
  unfold portsS
  repeat (first | with_reducible exact fr_pure _ | with_reducible exact fr_get | with_reducible refine fr_ite ?_ ?_ | with_reducible refine fr_bind ?_ fun _ => ?_ | with_reducible exact (fr_add _ _) | with_reducible exact (fr_beside _) | with_reducible exact (fr_call _) | with_reducible exact (fr_flag _) | with_reducible exact (fr_getS _) | with_reducible exact (fr_hop _) | with_reducible exact (fr_in _) | with_reducible exact (fr_mv _) | with_reducible exact (fr_out _ _) | with_reducible exact (fr_push _) | with_reducible exact (fr_put _ _) | with_reducible exact (fr_read _) | with_reducible exact (fr_set _ _) | with_reducible exact (fr_setPair _ _) | with_reducible exact (fr_states _) | with_reducible exact (fr_write _ _) | with_reducible exact fr_back | with_reducible exact fr_cross | with_reducible exact fr_fetch | with_reducible exact fr_hops | with_reducible exact fr_load | with_reducible exact fr_low | with_reducible exact fr_move | with_reducible exact fr_number | with_reducible exact fr_pairAt | with_reducible exact fr_pop | with_reducible exact fr_pops | with_reducible exact fr_stepDec | with_reducible exact fr_stepInc | with_reducible exact fr_stores | with_reducible exact fr_sums | with_reducible exact fr_tick | with_reducible exact fr_turn | with_reducible exact fr_where | with_reducible exact fr_word | ((with_reducible refine fr_mod ?_); exact fun s => Same.refl s))
set_option maxHeartbeats 6000000 in
set_option maxRecDepth 8000 in
theorem ports_0W_ (B : Nat) (s : PS) (w : World) (hI : Inv B w s.gv s.got) (hy : s.y = 0) : Calls Tryz.prog 91 #[.pointer (some ⟨B, 0, none⟩)] (put w B s.cells) (Post B w eU (run portsS s)) := by
  have hi := hI.inb
  have hb0 := Below.refl w.heap.size w
  go_enter Tryz.func91, Tryz.ntmps91
  all_goals (try go_wp2_with (first | (go_at_call 78; refine (wordW_ B  _ _ (by assumption)).mono (Post.thruF fr_word hb0 (fun c s1 w1 hq hb0 hi => ?_) (fun v s1 w1 hq f1 f2 f3 f4 f5 f6 f7 hb0 hI hi => ?_)))))
  all_goals first
    | (refine ⟨rfl, Post.err _ ?_ hb0 hi⟩; simp [portsS, *]; done)
    | (refine bodyPost_end (results_none rfl _ _ _) rfl (Post.done (v := ()) ?_ rfl hb0 hI); simp [portsS, *]; done)
    | (refine bodyPost_ret (results_none rfl _ _ _) rfl (Post.done (v := ()) ?_ rfl hb0 hI); simp [portsS, *]; done)
set_option maxHeartbeats 6000000 in
set_option maxRecDepth 8000 in
theorem ports_1W_ (B : Nat) (s : PS) (w : World) (hI : Inv B w s.gv s.got) (hy : s.y = 2) : Calls Tryz.prog 91 #[.pointer (some ⟨B, 0, none⟩)] (put w B s.cells) (Post B w eU (run portsS s)) := by
  have hi := hI.inb
  have hb0 := Below.refl w.heap.size w
  go_enter Tryz.func91, Tryz.ntmps91
  all_goals (try go_wp2_with (first | (go_at_call 128; refine (aW_ B _ _ (by assumption)).mono ?_; rintro e w1 ⟨rfl, rfl⟩) | (go_at_call 46; refine (numberW_ B  _ _ (by assumption)).mono (Post.thruF fr_number hb0 (fun c s1 w1 hq hb0 hi => ?_) (fun v s1 w1 hq f1 f2 f3 f4 f5 f6 f7 hb0 hI hi => ?_))) | (go_at_call 149; refine (word_ _ _ (U8.h0 _) (U8.h1 _) (U8.h0 _) (U8.h1 _) _).mono ?_; rintro e w1 ⟨rfl, rfl⟩) | (go_at_call 122; refine (outW_ B _ _ _ _ (by assumption)).mono (Post.thruF (fr_out _ _) hb0 (fun c s1 w1 hq hb0 hi => ?_) (fun v s1 w1 hq f1 f2 f3 f4 f5 f6 f7 hb0 hI hi => ?_))) | (go_at_call 156; refine (besideW_ B _ _ _ (by assumption)).mono (Post.thruF (fr_beside _) hb0 (fun c s1 w1 hq hb0 hi => ?_) (fun v s1 w1 hq f1 f2 f3 f4 f5 f6 f7 hb0 hI hi => ?_)))))
  all_goals first
    | (refine ⟨rfl, Post.err _ ?_ hb0 hi⟩; simp [portsS, *]; done)
    | (refine bodyPost_end (results_none rfl _ _ _) rfl (Post.done (v := ()) ?_ rfl hb0 hI); simp [portsS, *]; done)
    | (refine bodyPost_ret (results_none rfl _ _ _) rfl (Post.done (v := ()) ?_ rfl hb0 hI); simp [portsS, *]; done)
set_option maxHeartbeats 6000000 in
set_option maxRecDepth 8000 in
theorem ports_2W_ (B : Nat) (s : PS) (w : World) (hI : Inv B w s.gv s.got) (hy : s.y = 3) : Calls Tryz.prog 91 #[.pointer (some ⟨B, 0, none⟩)] (put w B s.cells) (Post B w eU (run portsS s)) := by
  have hi := hI.inb
  have hb0 := Below.refl w.heap.size w
  go_enter Tryz.func91, Tryz.ntmps91
  all_goals (try go_wp2_with (first | (go_at_call 128; refine (aW_ B _ _ (by assumption)).mono ?_; rintro e w1 ⟨rfl, rfl⟩) | (go_at_call 46; refine (numberW_ B  _ _ (by assumption)).mono (Post.thruF fr_number hb0 (fun c s1 w1 hq hb0 hi => ?_) (fun v s1 w1 hq f1 f2 f3 f4 f5 f6 f7 hb0 hI hi => ?_))) | (go_at_call 149; refine (word_ _ _ (U8.h0 _) (U8.h1 _) (U8.h0 _) (U8.h1 _) _).mono ?_; rintro e w1 ⟨rfl, rfl⟩) | (go_at_call 120; refine (inW_ B _ _ _ (by assumption)).mono (Post.thruF (fr_in _) hb0 (fun c s1 w1 hq hb0 hi => ?_) (fun v s1 w1 hq f1 f2 f3 f4 f5 f6 f7 hb0 hI hi => ?_))) | (go_at_call 68; refine (fW_ B _ _ (by assumption)).mono ?_; rintro e w1 ⟨rfl, rfl⟩) | (go_at_call 126; refine (putW_ B _ _ _ _ (by assumption)).mono (Post.thruF (fr_put _ _) hb0 (fun c s1 w1 hq hb0 hi => ?_) (fun v s1 w1 hq f1 f2 f3 f4 f5 f6 f7 hb0 hI hi => ?_)))))
  all_goals first
    | (refine ⟨rfl, Post.err _ ?_ hb0 hi⟩; simp [portsS, *]; done)
    | (refine bodyPost_end (results_none rfl _ _ _) rfl (Post.done (v := ()) ?_ rfl hb0 hI); simp [portsS, *]; done)
    | (refine bodyPost_ret (results_none rfl _ _ _) rfl (Post.done (v := ()) ?_ rfl hb0 hI); simp [portsS, *]; done)
set_option maxHeartbeats 6000000 in
set_option maxRecDepth 8000 in
theorem ports_3W_ (B : Nat) (s : PS) (w : World) (hI : Inv B w s.gv s.got) (hy : s.y = 4) : Calls Tryz.prog 91 #[.pointer (some ⟨B, 0, none⟩)] (put w B s.cells) (Post B w eU (run portsS s)) := by
  have hi := hI.inb
  have hb0 := Below.refl w.heap.size w
  go_enter Tryz.func91, Tryz.ntmps91
  all_goals (try go_wp2_with (first | (go_at_call 171; refine (crossW_ B  _ _ (by assumption)).mono (Post.thruF fr_cross hb0 (fun c s1 w1 hq hb0 hi => ?_) (fun v s1 w1 hq f1 f2 f3 f4 f5 f6 f7 hb0 hI hi => ?_)))))
  all_goals first
    | (refine ⟨rfl, Post.err _ ?_ hb0 hi⟩; simp [portsS, *]; done)
    | (refine bodyPost_end (results_none rfl _ _ _) rfl (Post.done (v := ()) ?_ rfl hb0 hI); simp [portsS, *]; done)
    | (refine bodyPost_ret (results_none rfl _ _ _) rfl (Post.done (v := ()) ?_ rfl hb0 hI); simp [portsS, *]; done)
set_option maxHeartbeats 6000000 in
set_option maxRecDepth 8000 in
theorem ports_4W_ (B : Nat) (s : PS) (w : World) (hI : Inv B w s.gv s.got) (hy : s.y = 5) : Calls Tryz.prog 91 #[.pointer (some ⟨B, 0, none⟩)] (put w B s.cells) (Post B w eU (run portsS s)) := by
  have hi := hI.inb
  have hb0 := Below.refl w.heap.size w
  go_enter Tryz.func91, Tryz.ntmps91
  all_goals (try go_wp2)
  replace hi := Inv.inb (Inv.drew hI)
  replace hb0 := bt hb0 (Below.refl _ _).drew
  replace hI := Inv.drew hI
  go_region
  all_goals (try go_wp2)
  all_goals first
    | (refine ⟨rfl, Post.err _ ?_ hb0 hi⟩; simp [portsS, *]; done)
    | (refine bodyPost_end (results_none rfl _ _ _) rfl (Post.done (v := ()) ?_ rfl hb0 hI); simp [portsS, *]; done)
    | (refine bodyPost_ret (results_none rfl _ _ _) rfl (Post.done (v := ()) ?_ rfl hb0 hI); simp [portsS, *]; done)
set_option maxHeartbeats 6000000 in
set_option maxRecDepth 8000 in
theorem ports_5W_ (B : Nat) (s : PS) (w : World) (hI : Inv B w s.gv s.got) (hy : s.y = 6) : Calls Tryz.prog 91 #[.pointer (some ⟨B, 0, none⟩)] (put w B s.cells) (Post B w eU (run portsS s)) := by
  have hi := hI.inb
  have hb0 := Below.refl w.heap.size w
  go_enter Tryz.func91, Tryz.ntmps91
  all_goals (try go_wp2)
  all_goals first
    | (refine ⟨rfl, Post.err _ ?_ hb0 hi⟩; simp [portsS, *]; done)
    | (refine bodyPost_end (results_none rfl _ _ _) rfl (Post.done (v := ()) ?_ rfl hb0 hI); simp [portsS, *]; done)
    | (refine bodyPost_ret (results_none rfl _ _ _) rfl (Post.done (v := ()) ?_ rfl hb0 hI); simp [portsS, *]; done)
set_option maxHeartbeats 6000000 in
set_option maxRecDepth 8000 in
theorem ports_6W_ (B : Nat) (s : PS) (w : World) (hI : Inv B w s.gv s.got) (hy : s.y = 7) : Calls Tryz.prog 91 #[.pointer (some ⟨B, 0, none⟩)] (put w B s.cells) (Post B w eU (run portsS s)) := by
  have hi := hI.inb
  have hb0 := Below.refl w.heap.size w
  go_enter Tryz.func91, Tryz.ntmps91
  all_goals (try go_wp2)
  all_goals first
    | (refine ⟨rfl, Post.err _ ?_ hb0 hi⟩; simp [portsS, *]; done)
    | (refine bodyPost_end (results_none rfl _ _ _) rfl (Post.done (v := ()) ?_ rfl hb0 hI); simp [portsS, *]; done)
    | (refine bodyPost_ret (results_none rfl _ _ _) rfl (Post.done (v := ()) ?_ rfl hb0 hI); simp [portsS, *]; done)
set_option maxHeartbeats 6000000 in
set_option maxRecDepth 8000 in
theorem ports_7W_ (B : Nat) (s : PS) (w : World) (hI : Inv B w s.gv s.got) (h0 : ¬ s.y = 0) (h2 : ¬ s.y = 2) (h3 : ¬ s.y = 3) (h4 : ¬ s.y = 4) (h5 : ¬ s.y = 5) (h6 : ¬ s.y = 6) (h7 : ¬ s.y = 7) : Calls Tryz.prog 91 #[.pointer (some ⟨B, 0, none⟩)] (put w B s.cells) (Post B w eU (run portsS s)) := by
  have hi := hI.inb
  have hb0 := Below.refl w.heap.size w
  go_enter Tryz.func91, Tryz.ntmps91
  all_goals (try go_wp2)
  all_goals first
    | (refine ⟨rfl, Post.err _ ?_ hb0 hi⟩; simp [portsS, *]; done)
    | (refine bodyPost_end (results_none rfl _ _ _) rfl (Post.done (v := ()) ?_ rfl hb0 hI); simp [portsS, *]; done)
    | (refine bodyPost_ret (results_none rfl _ _ _) rfl (Post.done (v := ()) ?_ rfl hb0 hI); simp [portsS, *]; done)
theorem portsW_ (B : Nat) (s : PS) (w : World) (hI : Inv B w s.gv s.got) : Calls Tryz.prog 91 #[.pointer (some ⟨B, 0, none⟩)] (put w B s.cells) (Post B w eU (run portsS s)) := by
  rcases (show (s.y = 0) ∨ (s.y = 2) ∨ (s.y = 3) ∨ (s.y = 4) ∨ (s.y = 5) ∨ (s.y = 6) ∨ (s.y = 7) ∨ (¬ s.y = 0 ∧ ¬ s.y = 2 ∧ ¬ s.y = 3 ∧ ¬ s.y = 4 ∧ ¬ s.y = 5 ∧ ¬ s.y = 6 ∧ ¬ s.y = 7) by omega) with hy | hy | hy | hy | hy | hy | hy | ⟨h0, h2, h3, h4, h5, h6, h7⟩
  · exact ports_0W_ B s w hI hy
  · exact ports_1W_ B s w hI hy
  · exact ports_2W_ B s w hI hy
  · exact ports_3W_ B s w hI hy
  · exact ports_4W_ B s w hI hy
  · exact ports_5W_ B s w hI hy
  · exact ports_6W_ B s w hI hy
  · exact ports_7W_ B s w hI h0 h2 h3 h4 h5 h6 h7
end Go.Proofs.YtnaampdpkegacaaGreatDoor
