/-
  Contracts of next's hops, loads and steps. A helper of the claim that stands beside it. (Printed by a program of wip/.)
-/
import Derived.Test.YtnaampdpkegacaaGreatDoorZ
namespace Go.Proofs.YtnaampdpkegacaaGreatDoor
open Go.RowKit

def U8.inc (x : U8) (n : Int) : U8 := u8 (x.v + n)
theorem inc8_fold (x : U8) : IntKind.u8.wrap (x.v + 1) = (x.inc 1).v := by simp only [IntKind.wrap_u8]; rfl
theorem dec8_fold (x : U8) : IntKind.u8.wrap (x.v - 1) = (x.inc (-1)).v := by simp only [IntKind.wrap_u8]; rfl
theorem inc8_fold2 (x : U8) : (x.v + 1) % 256 = (x.inc 1).v := rfl
theorem dec8_fold2 (x : U8) : (x.v - 1) % 256 = (x.inc (-1)).v := rfl
theorem inc16_fold2 (x : U16) : (x.v + 1) % 65536 = (x.inc 1).v := rfl
theorem dec16_fold2 (x : U16) : (x.v - 1) % 65536 = (x.inc (-1)).v := rfl
attribute [go_sem] inc8_fold dec8_fold inc8_fold2 dec8_fold2 inc16_fold2 dec16_fold2
theorem Inv.lgp {B : Nat} {w : World} {gv : Value} {got : List U8} {c : Array Value} (h : Inv B w gv got) : Lg (put w B c) := by
  unfold Lg
  rw [blk_put_off h.off]
  exact h.lg
def swapR (r : R) : R := { r with af := r.af2, af2 := r.af }
def exxR (r : R) : R := { r with bc := r.bc2, bc2 := r.bc, de := r.de2, de2 := r.de, hl := r.hl2, hl2 := r.hl }
def hopS (is : Bool) : PM Unit := do
  let b ← numberS
  if is then do
    statesS 5
    PM.mod fun s => { s with r := { s.r with pc := s.r.pc.mv (sgn b.v) } }
    PM.mod fun s => { s with r := { s.r with wz := s.r.pc } }
  else pure ()
theorem fr_hop (is : Bool) : Fr (hopS is) := by
  unfold hopS
  repeat (first | with_reducible exact fr_pure _ | with_reducible exact fr_get | with_reducible refine fr_ite ?_ ?_ | with_reducible refine fr_bind ?_ fun _ => ?_ | with_reducible exact (fr_flag _) | with_reducible exact (fr_getS _) | with_reducible exact (fr_in _) | with_reducible exact (fr_mv _) | with_reducible exact (fr_out _ _) | with_reducible exact (fr_push _) | with_reducible exact (fr_put _ _) | with_reducible exact (fr_read _) | with_reducible exact (fr_set _ _) | with_reducible exact (fr_setPair _ _) | with_reducible exact (fr_states _) | with_reducible exact (fr_write _ _) | with_reducible exact fr_fetch | with_reducible exact fr_number | with_reducible exact fr_pop | with_reducible exact fr_tick | with_reducible exact fr_where | with_reducible exact fr_word | ((with_reducible refine fr_mod ?_); exact fun s => Same.refl s))
set_option maxHeartbeats 1000000 in
set_option maxRecDepth 8000 in
theorem hopW_ (B : Nat) (is : Bool) (s : PS) (w : World) (hI : Inv B w s.gv s.got) : Calls Tryz.prog 150 #[.pointer (some ⟨B, 0, none⟩), .bool is] (put w B s.cells) (Post B w eU (run (hopS is) s)) := by
  have hi := hI.inb
  have hb0 := Below.refl w.heap.size w
  cases is
  all_goals
    go_enter Tryz.func150, Tryz.ntmps150
    all_goals (try go_wp2_with (first | (go_at_call 46; refine (numberW_ B  _ _ (by assumption)).mono (Post.thruF fr_number hb0 (fun c s1 w1 hq hb0 hi => ?_) (fun v s1 w1 hq f1 f2 f3 f4 f5 f6 f7 hb0 hI hi => ?_))) | (go_at_call 47; refine (statesW_ B _ _ _ (by assumption)).mono (Post.thruF (fr_states _) hb0 (fun c s1 w1 hq hb0 hi => ?_) (fun v s1 w1 hq f1 f2 f3 f4 f5 f6 f7 hb0 hI hi => ?_))) | (go_at_call 73; refine (oNear_ _ _ _).mono ?_; rintro e w1 ⟨rfl, rfl⟩)))
    all_goals first
      | (refine ⟨rfl, Post.err _ ?_ hb0 hi⟩; simp [hopS, *]; done)
      | (refine bodyPost_end (results_none rfl _ _ _) rfl (Post.done (v := ()) ?_ rfl hb0 hI); simp [hopS, *]; done)
      | (refine bodyPost_ret (results_none rfl _ _ _) rfl (Post.done (v := ()) ?_ rfl hb0 hI); simp [hopS, *]; done)
def backS : PM Unit := do
  let x ← popS
  PM.mod fun s => { s with r := { s.r with pc := x } }
  PM.mod fun s => { s with r := { s.r with wz := s.r.pc } }
theorem fr_back : Fr backS := by
  unfold backS
  repeat (first | with_reducible exact fr_pure _ | with_reducible exact fr_get | with_reducible refine fr_ite ?_ ?_ | with_reducible refine fr_bind ?_ fun _ => ?_ | with_reducible exact (fr_flag _) | with_reducible exact (fr_getS _) | with_reducible exact (fr_hop _) | with_reducible exact (fr_in _) | with_reducible exact (fr_mv _) | with_reducible exact (fr_out _ _) | with_reducible exact (fr_push _) | with_reducible exact (fr_put _ _) | with_reducible exact (fr_read _) | with_reducible exact (fr_set _ _) | with_reducible exact (fr_setPair _ _) | with_reducible exact (fr_states _) | with_reducible exact (fr_write _ _) | with_reducible exact fr_fetch | with_reducible exact fr_number | with_reducible exact fr_pop | with_reducible exact fr_tick | with_reducible exact fr_where | with_reducible exact fr_word | ((with_reducible refine fr_mod ?_); exact fun s => Same.refl s))
set_option maxHeartbeats 1000000 in
set_option maxRecDepth 8000 in
theorem backW_ (B : Nat) (s : PS) (w : World) (hI : Inv B w s.gv s.got) : Calls Tryz.prog 89 #[.pointer (some ⟨B, 0, none⟩)] (put w B s.cells) (Post B w eU (run backS s)) := by
  have hi := hI.inb
  have hb0 := Below.refl w.heap.size w
  go_enter Tryz.func89, Tryz.ntmps89
  all_goals (try go_wp2_with (first | (go_at_call 169; refine (popW_ B  _ _ (by assumption)).mono (Post.thruF fr_pop hb0 (fun c s1 w1 hq hb0 hi => ?_) (fun v s1 w1 hq f1 f2 f3 f4 f5 f6 f7 hb0 hI hi => ?_)))))
  all_goals first
    | (refine ⟨rfl, Post.err _ ?_ hb0 hi⟩; simp [backS, *]; done)
    | (refine bodyPost_end (results_none rfl _ _ _) rfl (Post.done (v := ()) ?_ rfl hb0 hI); simp [backS, *]; done)
    | (refine bodyPost_ret (results_none rfl _ _ _) rfl (Post.done (v := ()) ?_ rfl hb0 hI); simp [backS, *]; done)
def callS (is : Bool) : PM Unit := do
  let x ← wordS
  PM.mod fun s => { s with r := { s.r with wz := x } }
  if is then do
    statesS 1
    let s ← PM.get
    pushS s.r.pc
    PM.mod fun s => { s with r := { s.r with pc := s.r.wz } }
  else pure ()
theorem fr_call (is : Bool) : Fr (callS is) := by
  unfold callS
  repeat (first | with_reducible exact fr_pure _ | with_reducible exact fr_get | with_reducible refine fr_ite ?_ ?_ | with_reducible refine fr_bind ?_ fun _ => ?_ | with_reducible exact (fr_flag _) | with_reducible exact (fr_getS _) | with_reducible exact (fr_hop _) | with_reducible exact (fr_in _) | with_reducible exact (fr_mv _) | with_reducible exact (fr_out _ _) | with_reducible exact (fr_push _) | with_reducible exact (fr_put _ _) | with_reducible exact (fr_read _) | with_reducible exact (fr_set _ _) | with_reducible exact (fr_setPair _ _) | with_reducible exact (fr_states _) | with_reducible exact (fr_write _ _) | with_reducible exact fr_back | with_reducible exact fr_fetch | with_reducible exact fr_number | with_reducible exact fr_pop | with_reducible exact fr_tick | with_reducible exact fr_where | with_reducible exact fr_word | ((with_reducible refine fr_mod ?_); exact fun s => Same.refl s))
set_option maxHeartbeats 1000000 in
set_option maxRecDepth 8000 in
theorem callW_ (B : Nat) (is : Bool) (s : PS) (w : World) (hI : Inv B w s.gv s.got) : Calls Tryz.prog 92 #[.pointer (some ⟨B, 0, none⟩), .bool is] (put w B s.cells) (Post B w eU (run (callS is) s)) := by
  have hi := hI.inb
  have hb0 := Below.refl w.heap.size w
  cases is
  all_goals
    go_enter Tryz.func92, Tryz.ntmps92
    all_goals (try go_wp2_with (first | (go_at_call 78; refine (wordW_ B  _ _ (by assumption)).mono (Post.thruF fr_word hb0 (fun c s1 w1 hq hb0 hi => ?_) (fun v s1 w1 hq f1 f2 f3 f4 f5 f6 f7 hb0 hI hi => ?_))) | (go_at_call 47; refine (statesW_ B _ _ _ (by assumption)).mono (Post.thruF (fr_states _) hb0 (fun c s1 w1 hq hb0 hi => ?_) (fun v s1 w1 hq f1 f2 f3 f4 f5 f6 f7 hb0 hI hi => ?_))) | (go_at_call 93; refine (pushW_ B _ _ _ (by assumption)).mono (Post.thruF (fr_push _) hb0 (fun c s1 w1 hq hb0 hi => ?_) (fun v s1 w1 hq f1 f2 f3 f4 f5 f6 f7 hb0 hI hi => ?_)))))
    all_goals first
      | (refine ⟨rfl, Post.err _ ?_ hb0 hi⟩; simp [callS, *]; done)
      | (refine bodyPost_end (results_none rfl _ _ _) rfl (Post.done (v := ()) ?_ rfl hb0 hI); simp [callS, *]; done)
      | (refine bodyPost_ret (results_none rfl _ _ _) rfl (Post.done (v := ()) ?_ rfl hb0 hI); simp [callS, *]; done)
def besideS (a : U16) : PM Unit := do
  PM.mod fun s => { s with r := { s.r with wz := s.r.af.hi.word (a.lo.inc 1) } }
theorem fr_beside (a : U16) : Fr (besideS a) := by
  unfold besideS
  repeat (first | with_reducible exact fr_pure _ | with_reducible exact fr_get | with_reducible refine fr_ite ?_ ?_ | with_reducible refine fr_bind ?_ fun _ => ?_ | with_reducible exact (fr_call _) | with_reducible exact (fr_flag _) | with_reducible exact (fr_getS _) | with_reducible exact (fr_hop _) | with_reducible exact (fr_in _) | with_reducible exact (fr_mv _) | with_reducible exact (fr_out _ _) | with_reducible exact (fr_push _) | with_reducible exact (fr_put _ _) | with_reducible exact (fr_read _) | with_reducible exact (fr_set _ _) | with_reducible exact (fr_setPair _ _) | with_reducible exact (fr_states _) | with_reducible exact (fr_write _ _) | with_reducible exact fr_back | with_reducible exact fr_fetch | with_reducible exact fr_number | with_reducible exact fr_pop | with_reducible exact fr_tick | with_reducible exact fr_where | with_reducible exact fr_word | ((with_reducible refine fr_mod ?_); exact fun s => Same.refl s))
set_option maxHeartbeats 1000000 in
set_option maxRecDepth 8000 in
theorem besideW_ (B : Nat) (a : U16) (s : PS) (w : World) (hI : Inv B w s.gv s.got) : Calls Tryz.prog 156 #[.pointer (some ⟨B, 0, none⟩), .int .u16 a.v] (put w B s.cells) (Post B w eU (run (besideS a) s)) := by
  have hi := hI.inb
  have hb0 := Below.refl w.heap.size w
  go_enter Tryz.func156, Tryz.ntmps156
  all_goals (try go_wp2_with (first | (go_at_call 128; refine (aW_ B _ _ (by assumption)).mono ?_; rintro e w1 ⟨rfl, rfl⟩) | (go_at_call 136; refine (lo_ _ _).mono ?_; rintro e w1 ⟨rfl, rfl⟩) | (go_at_call 149; refine (word_ _ _ (U8.h0 _) (U8.h1 _) (U8.h0 _) (U8.h1 _) _).mono ?_; rintro e w1 ⟨rfl, rfl⟩)))
  all_goals first
    | (refine ⟨rfl, Post.err _ ?_ hb0 hi⟩; simp [besideS, *]; done)
    | (refine bodyPost_end (results_none rfl _ _ _) rfl (Post.done (v := ()) ?_ rfl hb0 hI); simp [besideS, *]; done)
    | (refine bodyPost_ret (results_none rfl _ _ _) rfl (Post.done (v := ()) ?_ rfl hb0 hI); simp [besideS, *]; done)
def pairAtS : PM U16 := do
  let s ← PM.get
  if s.p = 0 then pure s.r.bc else if s.p = 1 then pure s.r.de else wordS
theorem fr_pairAt : Fr pairAtS := by
  unfold pairAtS
  repeat (first | with_reducible exact fr_pure _ | with_reducible exact fr_get | with_reducible refine fr_ite ?_ ?_ | with_reducible refine fr_bind ?_ fun _ => ?_ | with_reducible exact (fr_beside _) | with_reducible exact (fr_call _) | with_reducible exact (fr_flag _) | with_reducible exact (fr_getS _) | with_reducible exact (fr_hop _) | with_reducible exact (fr_in _) | with_reducible exact (fr_mv _) | with_reducible exact (fr_out _ _) | with_reducible exact (fr_push _) | with_reducible exact (fr_put _ _) | with_reducible exact (fr_read _) | with_reducible exact (fr_set _ _) | with_reducible exact (fr_setPair _ _) | with_reducible exact (fr_states _) | with_reducible exact (fr_write _ _) | with_reducible exact fr_back | with_reducible exact fr_fetch | with_reducible exact fr_number | with_reducible exact fr_pop | with_reducible exact fr_tick | with_reducible exact fr_where | with_reducible exact fr_word | ((with_reducible refine fr_mod ?_); exact fun s => Same.refl s))
set_option maxHeartbeats 1000000 in
set_option maxRecDepth 8000 in
theorem pairAtW_ (B : Nat) (s : PS) (w : World) (hI : Inv B w s.gv s.got) : Calls Tryz.prog 155 #[.pointer (some ⟨B, 0, none⟩)] (put w B s.cells) (Post B w e16 (run pairAtS s)) := by
  have hi := hI.inb
  have hb0 := Below.refl w.heap.size w
  rcases (show s.p = 0 ∨ s.p = 1 ∨ (¬ s.p = 0 ∧ ¬ s.p = 1) by omega) with h0 | h0 | ⟨h0, h1⟩
  all_goals
    go_enter Tryz.func155, Tryz.ntmps155
    all_goals (try go_wp2_with (first | (go_at_call 78; refine (wordW_ B  _ _ (by assumption)).mono (Post.thruF fr_word hb0 (fun c s1 w1 hq hb0 hi => ?_) (fun v s1 w1 hq f1 f2 f3 f4 f5 f6 f7 hb0 hI hi => ?_)))))
    all_goals first
      | (refine ⟨rfl, Post.err _ ?_ hb0 hi⟩; simp [pairAtS, *]; done)
      | (go_ret; refine Post.done ?_ rfl hb0 hI; simp [pairAtS, *]; done)
end Go.Proofs.YtnaampdpkegacaaGreatDoor
