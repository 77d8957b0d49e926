/-
  Contracts of next's hops, loads and steps. A helper of the claim that stands beside it. (Printed by a program of wip/.)
-/
import Derived.Test.YtnaampdpkegacaaGreatDoorregs

namespace Go.Proofs.YtnaampdpkegacaaGreatDoor
open Go.RowKit

def U8.inc (x : U8) (n : Int) : U8 := u8 (x.v + n)
theorem inc8_fold (x : U8) : IntKind.u8.wrap (x.v + 1) = (x.inc 1).v := by simp only [IntKind.wrap_u8]; rfl
theorem dec8_fold (x : U8) : IntKind.u8.wrap (x.v - 1) = (x.inc (-1)).v := by simp only [IntKind.wrap_u8]; rfl
theorem inc8_fold2 (x : U8) : (x.v + 1) % 256 = (x.inc 1).v := rfl
theorem dec8_fold2 (x : U8) : (x.v - 1) % 256 = (x.inc (-1)).v := rfl
theorem inc16_fold2 (x : U16) : (x.v + 1) % 65536 = (x.inc 1).v := rfl
theorem dec16_fold2 (x : U16) : (x.v - 1) % 65536 = (x.inc (-1)).v := rfl
attribute [go_sem] inc8_fold dec8_fold inc8_fold2 dec8_fold2 inc16_fold2 dec16_fold2
theorem Inv.lgp {B : Nat} {w : World} {gv : Value} {got : List U8} {c : Array Value} (h : Inv B w gv got) : Lg (put w B c) := by
  unfold Lg
  rw [blk_put_off h.off]
  exact h.lg
def swapR (r : R) : R := { r with af := r.af2, af2 := r.af }
def exxR (r : R) : R := { r with bc := r.bc2, bc2 := r.bc, de := r.de2, de2 := r.de, hl := r.hl2, hl2 := r.hl }
def hopS (is : Bool) : PM Unit := do
  let b ← numberS
  if is then do
    statesS 5
    PM.mod fun s => { s with r := { s.r with pc := s.r.pc.mv (sgn b.v) } }
    PM.mod fun s => { s with r := { s.r with wz := s.r.pc } }
  else pure ()
theorem fr_hop (is : Bool) : Fr (hopS is) := by
  unfold hopS
  repeat (first | with_reducible exact fr_pure _ | with_reducible exact fr_get | with_reducible refine fr_ite ?_ ?_ | with_reducible refine fr_bind ?_ fun _ => ?_ | with_reducible exact (fr_flag _) | with_reducible exact (fr_getS _) | with_reducible exact (fr_in _) | with_reducible exact (fr_mv _) | with_reducible exact (fr_out _ _) | with_reducible exact (fr_push _) | with_reducible exact (fr_put _ _) | with_reducible exact (fr_read _) | with_reducible exact (fr_set _ _) | with_reducible exact (fr_setPair _ _) | with_reducible exact (fr_states _) | with_reducible exact (fr_write _ _) | with_reducible exact fr_fetch | with_reducible exact fr_number | with_reducible exact fr_pop | with_reducible exact fr_tick | with_reducible exact fr_where | with_reducible exact fr_word | ((with_reducible refine fr_mod ?_); exact fun s => Same.refl s))
set_option maxHeartbeats 1000000 in
set_option maxRecDepth 8000 in
theorem hopW_ (B : Nat) (is : Bool) (s : PS) (w : World) (hI : Inv B w s.gv s.got) : Calls Tryz.prog 150 #[.pointer (some ⟨B, 0, none⟩), .bool is] (put w B s.cells) (Post B w eU (run (hopS is) s)) := by
  have hi := hI.inb
  have hb0 := Below.refl w.heap.size w
  cases is
  all_goals
    go_enter Tryz.func150, Tryz.ntmps150
    all_goals (try go_wp2_with (first | (go_at_call 46; refine (numberW_ B  _ _ (by assumption)).mono (Post.thruF fr_number hb0 (fun c s1 w1 hq hb0 hi => ?_) (fun v s1 w1 hq f1 f2 f3 f4 f5 f6 f7 hb0 hI hi => ?_))) | (go_at_call 47; refine (statesW_ B _ _ _ (by assumption)).mono (Post.thruF (fr_states _) hb0 (fun c s1 w1 hq hb0 hi => ?_) (fun v s1 w1 hq f1 f2 f3 f4 f5 f6 f7 hb0 hI hi => ?_))) | (go_at_call 73; refine (oNear_ _ _ _).mono ?_; rintro e w1 ⟨rfl, rfl⟩)))
    all_goals first
      | (refine ⟨rfl, Post.err _ ?_ hb0 hi⟩; simp [hopS, *]; done)
      | (refine bodyPost_end (results_none rfl _ _ _) rfl (Post.done (v := ()) ?_ rfl hb0 hI); simp [hopS, *]; done)
      | (refine bodyPost_ret (results_none rfl _ _ _) rfl (Post.done (v := ()) ?_ rfl hb0 hI); simp [hopS, *]; done)
def backS : PM Unit := do
  let x ← popS
  PM.mod fun s => { s with r := { s.r with pc := x } }
  PM.mod fun s => { s with r := { s.r with wz := s.r.pc } }
theorem fr_back : Fr backS := by
  unfold backS
  repeat (first | with_reducible exact fr_pure _ | with_reducible exact fr_get | with_reducible refine fr_ite ?_ ?_ | with_reducible refine fr_bind ?_ fun _ => ?_ | with_reducible exact (fr_flag _) | with_reducible exact (fr_getS _) | with_reducible exact (fr_hop _) | with_reducible exact (fr_in _) | with_reducible exact (fr_mv _) | with_reducible exact (fr_out _ _) | with_reducible exact (fr_push _) | with_reducible exact (fr_put _ _) | with_reducible exact (fr_read _) | with_reducible exact (fr_set _ _) | with_reducible exact (fr_setPair _ _) | with_reducible exact (fr_states _) | with_reducible exact (fr_write _ _) | with_reducible exact fr_fetch | with_reducible exact fr_number | with_reducible exact fr_pop | with_reducible exact fr_tick | with_reducible exact fr_where | with_reducible exact fr_word | ((with_reducible refine fr_mod ?_); exact fun s => Same.refl s))
set_option maxHeartbeats 1000000 in
set_option maxRecDepth 8000 in
theorem backW_ (B : Nat) (s : PS) (w : World) (hI : Inv B w s.gv s.got) : Calls Tryz.prog 89 #[.pointer (some ⟨B, 0, none⟩)] (put w B s.cells) (Post B w eU (run backS s)) := by
  have hi := hI.inb
  have hb0 := Below.refl w.heap.size w
  go_enter Tryz.func89, Tryz.ntmps89
  all_goals (try go_wp2_with (first | (go_at_call 169; refine (popW_ B  _ _ (by assumption)).mono (Post.thruF fr_pop hb0 (fun c s1 w1 hq hb0 hi => ?_) (fun v s1 w1 hq f1 f2 f3 f4 f5 f6 f7 hb0 hI hi => ?_)))))
  all_goals first
    | (refine ⟨rfl, Post.err _ ?_ hb0 hi⟩; simp [backS, *]; done)
    | (refine bodyPost_end (results_none rfl _ _ _) rfl (Post.done (v := ()) ?_ rfl hb0 hI); simp [backS, *]; done)
    | (refine bodyPost_ret (results_none rfl _ _ _) rfl (Post.done (v := ()) ?_ rfl hb0 hI); simp [backS, *]; done)
def callS (is : Bool) : PM Unit := do
  let x ← wordS
  PM.mod fun s => { s with r := { s.r with wz := x } }
  if is then do
    statesS 1
    let s ← PM.get
    pushS s.r.pc
    PM.mod fun s => { s with r := { s.r with pc := s.r.wz } }
  else pure ()
theorem fr_call (is : Bool) : Fr (callS is) := by
  unfold callS
  repeat (first | with_reducible exact fr_pure _ | with_reducible exact fr_get | with_reducible refine fr_ite ?_ ?_ | with_reducible refine fr_bind ?_ fun _ => ?_ | with_reducible exact (fr_flag _) | with_reducible exact (fr_getS _) | with_reducible exact (fr_hop _) | with_reducible exact (fr_in _) | with_reducible exact (fr_mv _) | with_reducible exact (fr_out _ _) | with_reducible exact (fr_push _) | with_reducible exact (fr_put _ _) | with_reducible exact (fr_read _) | with_reducible exact (fr_set _ _) | with_reducible exact (fr_setPair _ _) | with_reducible exact (fr_states _) | with_reducible exact (fr_write _ _) | with_reducible exact fr_back | with_reducible exact fr_fetch | with_reducible exact fr_number | with_reducible exact fr_pop | with_reducible exact fr_tick | with_reducible exact fr_where | with_reducible exact fr_word | ((with_reducible refine fr_mod ?_); exact fun s => Same.refl s))
set_option maxHeartbeats 1000000 in
set_option maxRecDepth 8000 in
theorem callW_ (B : Nat) (is : Bool) (s : PS) (w : World) (hI : Inv B w s.gv s.got) : Calls Tryz.prog 92 #[.pointer (some ⟨B, 0, none⟩), .bool is] (put w B s.cells) (Post B w eU (run (callS is) s)) := by
  have hi := hI.inb
  have hb0 := Below.refl w.heap.size w
  cases is
  all_goals
    go_enter Tryz.func92, Tryz.ntmps92
    all_goals (try go_wp2_with (first | (go_at_call 78; refine (wordW_ B  _ _ (by assumption)).mono (Post.thruF fr_word hb0 (fun c s1 w1 hq hb0 hi => ?_) (fun v s1 w1 hq f1 f2 f3 f4 f5 f6 f7 hb0 hI hi => ?_))) | (go_at_call 47; refine (statesW_ B _ _ _ (by assumption)).mono (Post.thruF (fr_states _) hb0 (fun c s1 w1 hq hb0 hi => ?_) (fun v s1 w1 hq f1 f2 f3 f4 f5 f6 f7 hb0 hI hi => ?_))) | (go_at_call 93; refine (pushW_ B _ _ _ (by assumption)).mono (Post.thruF (fr_push _) hb0 (fun c s1 w1 hq hb0 hi => ?_) (fun v s1 w1 hq f1 f2 f3 f4 f5 f6 f7 hb0 hI hi => ?_)))))
    all_goals first
      | (refine ⟨rfl, Post.err _ ?_ hb0 hi⟩; simp [callS, *]; done)
      | (refine bodyPost_end (results_none rfl _ _ _) rfl (Post.done (v := ()) ?_ rfl hb0 hI); simp [callS, *]; done)
      | (refine bodyPost_ret (results_none rfl _ _ _) rfl (Post.done (v := ()) ?_ rfl hb0 hI); simp [callS, *]; done)
def besideS (a : U16) : PM Unit := do
  PM.mod fun s => { s with r := { s.r with wz := s.r.af.hi.word (a.lo.inc 1) } }
theorem fr_beside (a : U16) : Fr (besideS a) := by
  unfold besideS
  repeat (first | with_reducible exact fr_pure _ | with_reducible exact fr_get | with_reducible refine fr_ite ?_ ?_ | with_reducible refine fr_bind ?_ fun _ => ?_ | with_reducible exact (fr_call _) | with_reducible exact (fr_flag _) | with_reducible exact (fr_getS _) | with_reducible exact (fr_hop _) | with_reducible exact (fr_in _) | with_reducible exact (fr_mv _) | with_reducible exact (fr_out _ _) | with_reducible exact (fr_push _) | with_reducible exact (fr_put _ _) | with_reducible exact (fr_read _) | with_reducible exact (fr_set _ _) | with_reducible exact (fr_setPair _ _) | with_reducible exact (fr_states _) | with_reducible exact (fr_write _ _) | with_reducible exact fr_back | with_reducible exact fr_fetch | with_reducible exact fr_number | with_reducible exact fr_pop | with_reducible exact fr_tick | with_reducible exact fr_where | with_reducible exact fr_word | ((with_reducible refine fr_mod ?_); exact fun s => Same.refl s))
set_option maxHeartbeats 1000000 in
set_option maxRecDepth 8000 in
theorem besideW_ (B : Nat) (a : U16) (s : PS) (w : World) (hI : Inv B w s.gv s.got) : Calls Tryz.prog 156 #[.pointer (some ⟨B, 0, none⟩), .int .u16 a.v] (put w B s.cells) (Post B w eU (run (besideS a) s)) := by
  have hi := hI.inb
  have hb0 := Below.refl w.heap.size w
  go_enter Tryz.func156, Tryz.ntmps156
  all_goals (try go_wp2_with (first | (go_at_call 128; refine (aW_ B _ _ (by assumption)).mono ?_; rintro e w1 ⟨rfl, rfl⟩) | (go_at_call 136; refine (lo_ _ _).mono ?_; rintro e w1 ⟨rfl, rfl⟩) | (go_at_call 149; refine (word_ _ _ (U8.h0 _) (U8.h1 _) (U8.h0 _) (U8.h1 _) _).mono ?_; rintro e w1 ⟨rfl, rfl⟩)))
  all_goals first
    | (refine ⟨rfl, Post.err _ ?_ hb0 hi⟩; simp [besideS, *]; done)
    | (refine bodyPost_end (results_none rfl _ _ _) rfl (Post.done (v := ()) ?_ rfl hb0 hI); simp [besideS, *]; done)
    | (refine bodyPost_ret (results_none rfl _ _ _) rfl (Post.done (v := ()) ?_ rfl hb0 hI); simp [besideS, *]; done)
def pairAtS : PM U16 := do
  let s ← PM.get
  if s.p = 0 then pure s.r.bc else if s.p = 1 then pure s.r.de else wordS
theorem fr_pairAt : Fr pairAtS := by
  unfold pairAtS
  repeat (first | with_reducible exact fr_pure _ | with_reducible exact fr_get | with_reducible refine fr_ite ?_ ?_ | with_reducible refine fr_bind ?_ fun _ => ?_ | with_reducible exact (fr_beside _) | with_reducible exact (fr_call _) | with_reducible exact (fr_flag _) | with_reducible exact (fr_getS _) | with_reducible exact (fr_hop _) | with_reducible exact (fr_in _) | with_reducible exact (fr_mv _) | with_reducible exact (fr_out _ _) | with_reducible exact (fr_push _) | with_reducible exact (fr_put _ _) | with_reducible exact (fr_read _) | with_reducible exact (fr_set _ _) | with_reducible exact (fr_setPair _ _) | with_reducible exact (fr_states _) | with_reducible exact (fr_write _ _) | with_reducible exact fr_back | with_reducible exact fr_fetch | with_reducible exact fr_number | with_reducible exact fr_pop | with_reducible exact fr_tick | with_reducible exact fr_where | with_reducible exact fr_word | ((with_reducible refine fr_mod ?_); exact fun s => Same.refl s))
set_option maxHeartbeats 1000000 in
set_option maxRecDepth 8000 in
theorem pairAtW_ (B : Nat) (s : PS) (w : World) (hI : Inv B w s.gv s.got) : Calls Tryz.prog 155 #[.pointer (some ⟨B, 0, none⟩)] (put w B s.cells) (Post B w e16 (run pairAtS s)) := by
  have hi := hI.inb
  have hb0 := Below.refl w.heap.size w
  rcases (show s.p = 0 ∨ s.p = 1 ∨ (¬ s.p = 0 ∧ ¬ s.p = 1) by omega) with h0 | h0 | ⟨h0, h1⟩
  all_goals
    go_enter Tryz.func155, Tryz.ntmps155
    all_goals (try go_wp2_with (first | (go_at_call 78; refine (wordW_ B  _ _ (by assumption)).mono (Post.thruF fr_word hb0 (fun c s1 w1 hq hb0 hi => ?_) (fun v s1 w1 hq f1 f2 f3 f4 f5 f6 f7 hb0 hI hi => ?_)))))
    all_goals first
      | (refine ⟨rfl, Post.err _ ?_ hb0 hi⟩; simp [pairAtS, *]; done)
      | (go_ret; refine Post.done ?_ rfl hb0 hI; simp [pairAtS, *]; done)
def zero8 : U8 := u8 0
theorem zero8v : zero8.v = 0 := rfl
end Go.Proofs.YtnaampdpkegacaaGreatDoor

namespace Go.Proofs.YtnaampdpkegacaaGreatDoor
open Go.RowKit

set_option maxRecDepth 8000 in
theorem swap_ (r : R) (w : World) : Calls Tryz.prog 148 #[.agg r.cells] w fun e w' => e = .returned (.agg (swapR r).cells) ∧ Below w.heap.size w w' := by
  go_enter Tryz.func148, Tryz.ntmps148
  go_wp2
  refine ret_regs rfl (w.heap.size + 1) rfl (swapR r) ?_ rfl ⟨rfl, by go_grown⟩
  simp [go_sem, swapR]
set_option maxRecDepth 8000 in
theorem exx_ (r : R) (w : World) : Calls Tryz.prog 170 #[.agg r.cells] w fun e w' => e = .returned (.agg (exxR r).cells) ∧ Below w.heap.size w w' := by
  go_enter Tryz.func170, Tryz.ntmps170
  go_wp2
  refine ret_regs rfl (w.heap.size + 1) rfl (exxR r) ?_ rfl ⟨rfl, by go_grown⟩
  simp [go_sem, exxR]
def hopsS : PM Unit := do
  let s ← PM.get
  if s.y = 0 then pure () else
  if s.y = 1 then PM.mod fun s => { s with r := swapR s.r } else
  if s.y = 2 then do
    statesS 1
    let s ← PM.get
    PM.mod fun s => { s with r := { s.r with bc := (s.r.bc.hi.inc (-1)).word s.r.bc.lo } }
    hopS ((s.r.bc.hi.inc (-1)).v != 0)
  else if s.y = 3 then hopS true
  else hopS (tst s.r.af.lo.v (wrap64 (s.y - 4)))
theorem fr_hops : Fr hopsS := by
  unfold hopsS
  repeat (first | with_reducible exact fr_pure _ | with_reducible exact fr_get | with_reducible refine fr_ite ?_ ?_ | with_reducible refine fr_bind ?_ fun _ => ?_ | with_reducible exact (fr_beside _) | with_reducible exact (fr_call _) | with_reducible exact (fr_flag _) | with_reducible exact (fr_getS _) | with_reducible exact (fr_hop _) | with_reducible exact (fr_in _) | with_reducible exact (fr_mv _) | with_reducible exact (fr_out _ _) | with_reducible exact (fr_push _) | with_reducible exact (fr_put _ _) | with_reducible exact (fr_read _) | with_reducible exact (fr_set _ _) | with_reducible exact (fr_setPair _ _) | with_reducible exact (fr_states _) | with_reducible exact (fr_write _ _) | with_reducible exact fr_back | with_reducible exact fr_fetch | with_reducible exact fr_hops | with_reducible exact fr_number | with_reducible exact fr_pairAt | with_reducible exact fr_pop | with_reducible exact fr_stepDec | with_reducible exact fr_stepInc | with_reducible exact fr_stores | with_reducible exact fr_tick | with_reducible exact fr_where | with_reducible exact fr_word | ((with_reducible refine fr_mod ?_); exact fun s => Same.refl s))
set_option maxHeartbeats 1000000 in
set_option maxRecDepth 8000 in
theorem hopsW_ (B : Nat) (s : PS) (w : World) (hI : Inv B w s.gv s.got) : Calls Tryz.prog 76 #[.pointer (some ⟨B, 0, none⟩)] (put w B s.cells) (Post B w eU (run hopsS s)) := by
  have hi := hI.inb
  have hb0 := Below.refl w.heap.size w
  rcases (show s.y = 0 ∨ s.y = 1 ∨ s.y = 2 ∨ s.y = 3 ∨ (¬ s.y = 0 ∧ ¬ s.y = 1 ∧ ¬ s.y = 2 ∧ ¬ s.y = 3) by omega) with hy | hy | hy | hy | ⟨h0, h1, h2, h3⟩
  all_goals
    go_enter Tryz.func76, Tryz.ntmps76
    all_goals (try go_wp2_with (first | (go_at_call 148; refine (swap_ _ _).mono ?_; rintro e w1 ⟨rfl, hb⟩; obtain ⟨w2, rfl, hb2⟩ := unput hi hb; replace hb0 := bt hb0 hb2; replace hI := hI.kept hb2; have hi := hI.inb) | (go_at_call 47; refine (statesW_ B _ _ _ (by assumption)).mono (Post.thruF (fr_states _) hb0 (fun c s1 w1 hq hb0 hi => ?_) (fun v s1 w1 hq f1 f2 f3 f4 f5 f6 f7 hb0 hI hi => ?_))) | (go_at_call 66; refine (hi_ _ _).mono ?_; rintro e w1 ⟨rfl, rfl⟩) | (go_at_call 136; refine (lo_ _ _).mono ?_; rintro e w1 ⟨rfl, rfl⟩) | (go_at_call 149; refine (word_ _ _ (U8.h0 _) (U8.h1 _) (U8.h0 _) (U8.h1 _) _).mono ?_; rintro e w1 ⟨rfl, rfl⟩) | (go_at_call 150; refine (hopW_ B _ _ _ (by assumption)).mono (Post.thruF (fr_hop _) hb0 (fun c s1 w1 hq hb0 hi => ?_) (fun v s1 w1 hq f1 f2 f3 f4 f5 f6 f7 hb0 hI hi => ?_))) | (go_at_call 88; refine (holdsW_ B _ _ _ (by assumption)).mono ?_; rintro e w1 ⟨rfl, hb⟩; obtain ⟨w2, rfl, hb2⟩ := unput hi hb; replace hb0 := bt hb0 hb2; replace hI := hI.kept hb2; have hi := hI.inb)))
    all_goals first
      | (refine ⟨rfl, Post.err _ ?_ hb0 hi⟩; simp [hopsS, *]; done)
      | (refine bodyPost_end (results_none rfl _ _ _) rfl (Post.done (v := ()) ?_ rfl hb0 hI); simp [hopsS, *]; done)
      | (refine bodyPost_ret (results_none rfl _ _ _) rfl (Post.done (v := ()) ?_ rfl hb0 hI); simp [hopsS, *]; done)
def storesS : PM Unit := do
  let at' ← pairAtS
  let s ← PM.get
  if s.y = 0 ∨ s.y = 2 ∨ s.y = 6 then do
    writeS at' s.r.af.hi
    besideS at'
  else do
    if s.y = 1 ∨ s.y = 3 ∨ s.y = 7 then do
      let b ← readS at'
      let s ← PM.get
      putS b s.r.af.lo
    else if s.y = 4 then do
      writeS at' (getP s.r s.plane 2).lo
      let s ← PM.get
      writeS (at'.inc 1) (getP s.r s.plane 2).hi
    else do
      let lo ← readS at'
      let hi ← readS (at'.inc 1)
      setPairS 2 (hi.word lo)
    PM.mod fun s => { s with r := { s.r with wz := at'.inc 1 } }
theorem fr_stores : Fr storesS := by
  unfold storesS
  repeat (first | with_reducible exact fr_pure _ | with_reducible exact fr_get | with_reducible refine fr_ite ?_ ?_ | with_reducible refine fr_bind ?_ fun _ => ?_ | with_reducible exact (fr_beside _) | with_reducible exact (fr_call _) | with_reducible exact (fr_flag _) | with_reducible exact (fr_getS _) | with_reducible exact (fr_hop _) | with_reducible exact (fr_in _) | with_reducible exact (fr_mv _) | with_reducible exact (fr_out _ _) | with_reducible exact (fr_push _) | with_reducible exact (fr_put _ _) | with_reducible exact (fr_read _) | with_reducible exact (fr_set _ _) | with_reducible exact (fr_setPair _ _) | with_reducible exact (fr_states _) | with_reducible exact (fr_write _ _) | with_reducible exact fr_back | with_reducible exact fr_fetch | with_reducible exact fr_hops | with_reducible exact fr_number | with_reducible exact fr_pairAt | with_reducible exact fr_pop | with_reducible exact fr_stepDec | with_reducible exact fr_stepInc | with_reducible exact fr_stores | with_reducible exact fr_tick | with_reducible exact fr_where | with_reducible exact fr_word | ((with_reducible refine fr_mod ?_); exact fun s => Same.refl s))
set_option maxHeartbeats 1000000 in
set_option maxRecDepth 8000 in
theorem storesW_ (B : Nat) (s : PS) (w : World) (hI : Inv B w s.gv s.got) : Calls Tryz.prog 80 #[.pointer (some ⟨B, 0, none⟩)] (put w B s.cells) (Post B w eU (run storesS s)) := by
  have hi := hI.inb
  have hb0 := Below.refl w.heap.size w
  rcases (show s.y = 0 ∨ s.y = 1 ∨ s.y = 2 ∨ s.y = 3 ∨ s.y = 4 ∨ s.y = 6 ∨ s.y = 7 ∨ (¬ s.y = 0 ∧ ¬ s.y = 1 ∧ ¬ s.y = 2 ∧ ¬ s.y = 3 ∧ ¬ s.y = 4 ∧ ¬ s.y = 6 ∧ ¬ s.y = 7) by omega) with hy | hy | hy | hy | hy | hy | hy | ⟨h0, h1, h2, h3, h4, h5, h6⟩
  all_goals
    go_enter Tryz.func80, Tryz.ntmps80
    all_goals (try go_wp2_with (first | (go_at_call 155; refine (pairAtW_ B  _ _ (by assumption)).mono (Post.thruF fr_pairAt hb0 (fun c s1 w1 hq hb0 hi => ?_) (fun v s1 w1 hq f1 f2 f3 f4 f5 f6 f7 hb0 hI hi => ?_))) | (go_at_call 131; refine (writeW_ B _ _ _ _ (by assumption)).mono (Post.thruF (fr_write _ _) hb0 (fun c s1 w1 hq hb0 hi => ?_) (fun v s1 w1 hq f1 f2 f3 f4 f5 f6 f7 hb0 hI hi => ?_))) | (go_at_call 128; refine (aW_ B _ _ (by assumption)).mono ?_; rintro e w1 ⟨rfl, rfl⟩) | (go_at_call 156; refine (besideW_ B _ _ _ (by assumption)).mono (Post.thruF (fr_beside _) hb0 (fun c s1 w1 hq hb0 hi => ?_) (fun v s1 w1 hq f1 f2 f3 f4 f5 f6 f7 hb0 hI hi => ?_))) | (go_at_call 75; refine (readW_ B _ _ _ (by assumption)).mono (Post.thruF (fr_read _) hb0 (fun c s1 w1 hq hb0 hi => ?_) (fun v s1 w1 hq f1 f2 f3 f4 f5 f6 f7 hb0 hI hi => ?_))) | (go_at_call 68; refine (fW_ B _ _ (by assumption)).mono ?_; rintro e w1 ⟨rfl, rfl⟩) | (go_at_call 126; refine (putW_ B _ _ _ _ (by assumption)).mono (Post.thruF (fr_put _ _) hb0 (fun c s1 w1 hq hb0 hi => ?_) (fun v s1 w1 hq f1 f2 f3 f4 f5 f6 f7 hb0 hI hi => ?_))) | (go_at_call 74; refine (pairW_ B _ _ _ (by assumption)).mono ?_; rintro e w1 ⟨rfl, hb⟩; obtain ⟨w2, rfl, hb2⟩ := unput hi hb; replace hb0 := bt hb0 hb2; replace hI := hI.kept hb2; have hi := hI.inb) | (go_at_call 136; refine (lo_ _ _).mono ?_; rintro e w1 ⟨rfl, rfl⟩) | (go_at_call 66; refine (hi_ _ _).mono ?_; rintro e w1 ⟨rfl, rfl⟩) | (go_at_call 149; refine (word_ _ _ (U8.h0 _) (U8.h1 _) (U8.h0 _) (U8.h1 _) _).mono ?_; rintro e w1 ⟨rfl, rfl⟩) | (go_at_call 77; refine (setPairW_ B _ _ _ _ (by assumption)).mono (Post.thruF (fr_setPair _ _) hb0 (fun c s1 w1 hq hb0 hi => ?_) (fun v s1 w1 hq f1 f2 f3 f4 f5 f6 f7 hb0 hI hi => ?_)))))
    all_goals first
      | (refine ⟨rfl, Post.err _ ?_ hb0 hi⟩; simp [storesS, *]; done)
      | (refine bodyPost_end (results_none rfl _ _ _) rfl (Post.done (v := ()) ?_ rfl hb0 hI); simp [storesS, *]; done)
      | (refine bodyPost_ret (results_none rfl _ _ _) rfl (Post.done (v := ()) ?_ rfl hb0 hI); simp [storesS, *]; done)
def stepIncS : PM Unit := do
  let s ← PM.get
  let b ← getS s.y
  let t ← PM.get
  let f := oIncF b t.r.af.lo
  if s.y = 6 then do
    statesS 1
    flagS f
    setS s.y (oInc b)
  else do
    flagS f
    setS s.y (oInc b)
theorem fr_stepInc : Fr stepIncS := by
  unfold stepIncS
  repeat (first | with_reducible exact fr_pure _ | with_reducible exact fr_get | with_reducible refine fr_ite ?_ ?_ | with_reducible refine fr_bind ?_ fun _ => ?_ | with_reducible exact (fr_beside _) | with_reducible exact (fr_call _) | with_reducible exact (fr_flag _) | with_reducible exact (fr_getS _) | with_reducible exact (fr_hop _) | with_reducible exact (fr_in _) | with_reducible exact (fr_mv _) | with_reducible exact (fr_out _ _) | with_reducible exact (fr_push _) | with_reducible exact (fr_put _ _) | with_reducible exact (fr_read _) | with_reducible exact (fr_set _ _) | with_reducible exact (fr_setPair _ _) | with_reducible exact (fr_states _) | with_reducible exact (fr_write _ _) | with_reducible exact fr_back | with_reducible exact fr_fetch | with_reducible exact fr_hops | with_reducible exact fr_number | with_reducible exact fr_pairAt | with_reducible exact fr_pop | with_reducible exact fr_stepDec | with_reducible exact fr_stepInc | with_reducible exact fr_stores | with_reducible exact fr_tick | with_reducible exact fr_where | with_reducible exact fr_word | ((with_reducible refine fr_mod ?_); exact fun s => Same.refl s))
set_option maxHeartbeats 1000000 in
set_option maxRecDepth 8000 in
theorem stepIncW_ (B : Nat) (s : PS) (w : World) (hI : Inv B w s.gv s.got) : Calls Tryz.prog 82 #[.pointer (some ⟨B, 0, none⟩), .func (.func 83) #[] #[]] (put w B s.cells) (Post B w eU (run stepIncS s)) := by
  have hi := hI.inb
  have hb0 := Below.refl w.heap.size w
  rcases (show s.y = 6 ∨ ¬ s.y = 6 by omega) with hy | hy
  all_goals
    go_enter Tryz.func82, Tryz.ntmps82
    all_goals (try go_wp2_with (first | (go_at_call 65; refine (getW_ B _ _ _ (by assumption)).mono (Post.thruF (fr_getS _) hb0 (fun c s1 w1 hq hb0 hi => ?_) (fun v s1 w1 hq f1 f2 f3 f4 f5 f6 f7 hb0 hI hi => ?_))) | (go_at_call 68; refine (fW_ B _ _ (by assumption)).mono ?_; rintro e w1 ⟨rfl, rfl⟩) | (go_at_call 83; refine (oInc_ _ _ _).mono ?_; rintro e w1 ⟨rfl, hb⟩; obtain ⟨w2, rfl, hb2⟩ := unput hi hb; replace hb0 := bt hb0 hb2; replace hI := hI.kept hb2; have hi := hI.inb) | (go_at_call 47; refine (statesW_ B _ _ _ (by assumption)).mono (Post.thruF (fr_states _) hb0 (fun c s1 w1 hq hb0 hi => ?_) (fun v s1 w1 hq f1 f2 f3 f4 f5 f6 f7 hb0 hI hi => ?_))) | (go_at_call 69; refine (flagW_ B _ _ _ (by assumption)).mono (Post.thruF (fr_flag _) hb0 (fun c s1 w1 hq hb0 hi => ?_) (fun v s1 w1 hq f1 f2 f3 f4 f5 f6 f7 hb0 hI hi => ?_))) | (go_at_call 72; refine (setW_ B _ _ _ _ (by assumption)).mono (Post.thruF (fr_set _ _) hb0 (fun c s1 w1 hq hb0 hi => ?_) (fun v s1 w1 hq f1 f2 f3 f4 f5 f6 f7 hb0 hI hi => ?_)))))
    all_goals first
      | (refine ⟨rfl, Post.err _ ?_ hb0 hi⟩; simp [stepIncS, *]; done)
      | (refine bodyPost_end (results_none rfl _ _ _) rfl (Post.done (v := ()) ?_ rfl hb0 hI); simp [stepIncS, *]; done)
      | (refine bodyPost_ret (results_none rfl _ _ _) rfl (Post.done (v := ()) ?_ rfl hb0 hI); simp [stepIncS, *]; done)
def stepDecS : PM Unit := do
  let s ← PM.get
  let b ← getS s.y
  let t ← PM.get
  let f := oDecF b t.r.af.lo
  if s.y = 6 then do
    statesS 1
    flagS f
    setS s.y (oDec b)
  else do
    flagS f
    setS s.y (oDec b)
theorem fr_stepDec : Fr stepDecS := by
  unfold stepDecS
  repeat (first | with_reducible exact fr_pure _ | with_reducible exact fr_get | with_reducible refine fr_ite ?_ ?_ | with_reducible refine fr_bind ?_ fun _ => ?_ | with_reducible exact (fr_beside _) | with_reducible exact (fr_call _) | with_reducible exact (fr_flag _) | with_reducible exact (fr_getS _) | with_reducible exact (fr_hop _) | with_reducible exact (fr_in _) | with_reducible exact (fr_mv _) | with_reducible exact (fr_out _ _) | with_reducible exact (fr_push _) | with_reducible exact (fr_put _ _) | with_reducible exact (fr_read _) | with_reducible exact (fr_set _ _) | with_reducible exact (fr_setPair _ _) | with_reducible exact (fr_states _) | with_reducible exact (fr_write _ _) | with_reducible exact fr_back | with_reducible exact fr_fetch | with_reducible exact fr_hops | with_reducible exact fr_number | with_reducible exact fr_pairAt | with_reducible exact fr_pop | with_reducible exact fr_stepDec | with_reducible exact fr_stepInc | with_reducible exact fr_stores | with_reducible exact fr_tick | with_reducible exact fr_where | with_reducible exact fr_word | ((with_reducible refine fr_mod ?_); exact fun s => Same.refl s))
set_option maxHeartbeats 1000000 in
set_option maxRecDepth 8000 in
theorem stepDecW_ (B : Nat) (s : PS) (w : World) (hI : Inv B w s.gv s.got) : Calls Tryz.prog 82 #[.pointer (some ⟨B, 0, none⟩), .func (.func 84) #[] #[]] (put w B s.cells) (Post B w eU (run stepDecS s)) := by
  have hi := hI.inb
  have hb0 := Below.refl w.heap.size w
  rcases (show s.y = 6 ∨ ¬ s.y = 6 by omega) with hy | hy
  all_goals
    go_enter Tryz.func82, Tryz.ntmps82
    all_goals (try go_wp2_with (first | (go_at_call 65; refine (getW_ B _ _ _ (by assumption)).mono (Post.thruF (fr_getS _) hb0 (fun c s1 w1 hq hb0 hi => ?_) (fun v s1 w1 hq f1 f2 f3 f4 f5 f6 f7 hb0 hI hi => ?_))) | (go_at_call 68; refine (fW_ B _ _ (by assumption)).mono ?_; rintro e w1 ⟨rfl, rfl⟩) | (go_at_call 84; refine (oDec_ _ _ _).mono ?_; rintro e w1 ⟨rfl, hb⟩; obtain ⟨w2, rfl, hb2⟩ := unput hi hb; replace hb0 := bt hb0 hb2; replace hI := hI.kept hb2; have hi := hI.inb) | (go_at_call 47; refine (statesW_ B _ _ _ (by assumption)).mono (Post.thruF (fr_states _) hb0 (fun c s1 w1 hq hb0 hi => ?_) (fun v s1 w1 hq f1 f2 f3 f4 f5 f6 f7 hb0 hI hi => ?_))) | (go_at_call 69; refine (flagW_ B _ _ _ (by assumption)).mono (Post.thruF (fr_flag _) hb0 (fun c s1 w1 hq hb0 hi => ?_) (fun v s1 w1 hq f1 f2 f3 f4 f5 f6 f7 hb0 hI hi => ?_))) | (go_at_call 72; refine (setW_ B _ _ _ _ (by assumption)).mono (Post.thruF (fr_set _ _) hb0 (fun c s1 w1 hq hb0 hi => ?_) (fun v s1 w1 hq f1 f2 f3 f4 f5 f6 f7 hb0 hI hi => ?_)))))
    all_goals first
      | (refine ⟨rfl, Post.err _ ?_ hb0 hi⟩; simp [stepDecS, *]; done)
      | (refine bodyPost_end (results_none rfl _ _ _) rfl (Post.done (v := ()) ?_ rfl hb0 hI); simp [stepDecS, *]; done)
      | (refine bodyPost_ret (results_none rfl _ _ _) rfl (Post.done (v := ()) ?_ rfl hb0 hI); simp [stepDecS, *]; done)
end Go.Proofs.YtnaampdpkegacaaGreatDoor
