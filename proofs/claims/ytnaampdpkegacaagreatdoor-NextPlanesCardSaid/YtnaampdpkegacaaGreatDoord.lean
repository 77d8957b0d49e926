/-
  Contracts of next's blocks, joined, and of far. A helper of the claim that stands beside it. (Printed by a program of wip/.)
-/
import Derived.Test.YtnaampdpkegacaaGreatDoorc0
import Derived.Test.YtnaampdpkegacaaGreatDoorc1
import Derived.Test.YtnaampdpkegacaaGreatDoorc2
import Derived.Test.YtnaampdpkegacaaGreatDoorc3
import Derived.Test.YtnaampdpkegacaaGreatDoora
namespace Go.Proofs.YtnaampdpkegacaaGreatDoor
open Go.RowKit

theorem blocksW_ (B : Nat) (s : PS) (w : World) (hI : Inv B w s.gv s.got) : Calls Tryz.prog 64 #[.pointer (some ⟨B, 0, none⟩)] (put w B s.cells) (Post B w eU (run blocksS s)) := by
  rcases (show s.z = 0 ∨ s.z = 1 ∨ s.z = 2 ∨ (¬ s.z = 0 ∧ ¬ s.z = 1 ∧ ¬ s.z = 2) by omega) with hz | hz | hz | ⟨h0, h1, h2⟩
  · exact blocks_0W_ B s w hI hz
  · exact blocks_1W_ B s w hI hz
  · exact blocks_2W_ B s w hI hz
  · exact blocks_3W_ B s w hI h0 h1 h2
def farS : PM Unit := do
  let s ← PM.get
  if s.x = 1 then middleS else if s.x = 2 ∧ s.z < 4 ∧ 3 < s.y then blocksS else pure ()
theorem fr_far : Fr farS := by
  unfold farS
  repeat (first | with_reducible exact fr_pure _ | with_reducible exact fr_get | with_reducible refine fr_ite ?_ ?_ | with_reducible refine fr_bind ?_ fun _ => ?_ | with_reducible exact (fr_add _ _) | with_reducible exact (fr_beside _) | with_reducible exact (fr_call _) | with_reducible exact (fr_flag _) | with_reducible exact (fr_getS _) | with_reducible exact (fr_hop _) | with_reducible exact (fr_in _) | with_reducible exact (fr_mv _) | with_reducible exact (fr_out _ _) | with_reducible exact (fr_push _) | with_reducible exact (fr_put _ _) | with_reducible exact (fr_read _) | with_reducible exact (fr_set _ _) | with_reducible exact (fr_setPair _ _) | with_reducible exact (fr_states _) | with_reducible exact (fr_write _ _) | with_reducible exact fr_back | with_reducible exact fr_blocks | with_reducible exact fr_cross | with_reducible exact fr_fetch | with_reducible exact fr_high | with_reducible exact fr_hops | with_reducible exact fr_less | with_reducible exact fr_load | with_reducible exact fr_low | with_reducible exact fr_middle | with_reducible exact fr_move | with_reducible exact fr_number | with_reducible exact fr_odd | with_reducible exact fr_pairAt | with_reducible exact fr_pop | with_reducible exact fr_pops | with_reducible exact fr_ports | with_reducible exact fr_stepDec | with_reducible exact fr_stepInc | with_reducible exact fr_stores | with_reducible exact fr_sums | with_reducible exact fr_tick | with_reducible exact fr_turn | with_reducible exact fr_where | with_reducible exact fr_word | with_reducible exact fr_words | ((with_reducible refine fr_mod ?_); exact fun s => Same.refl s))
set_option maxHeartbeats 6000000 in
set_option maxRecDepth 8000 in
theorem far_0W_ (B : Nat) (s : PS) (w : World) (hI : Inv B w s.gv s.got) (hx : s.x = 1) : Calls Tryz.prog 43 #[.pointer (some ⟨B, 0, none⟩)] (put w B s.cells) (Post B w eU (run farS s)) := by
  have hi := hI.inb
  have hb0 := Below.refl w.heap.size w
  go_enter Tryz.func43, Tryz.ntmps43
  all_goals (try go_wp2_with (first | (go_at_call 63; refine (middleW_ B  _ _ (by assumption)).mono (Post.thruF fr_middle hb0 (fun c s1 w1 hq hb0 hi => ?_) (fun v s1 w1 hq f1 f2 f3 f4 f5 f6 f7 hb0 hI hi => ?_)))))
  all_goals first
    | (refine ⟨rfl, Post.err _ ?_ hb0 hi⟩; simp [farS, *]; done)
    | (refine bodyPost_end (results_none rfl _ _ _) rfl (Post.done (v := ()) ?_ rfl hb0 hI); simp [farS, *]; done)
    | (refine bodyPost_ret (results_none rfl _ _ _) rfl (Post.done (v := ()) ?_ rfl hb0 hI); simp [farS, *]; done)
    | (refine bodyPost_end (results_none rfl _ _ _) rfl (Post.done (v := ()) ?_ rfl hb0 hI); have hm : (3 < s.y) = False := eq_false (by omega); simp [farS, *]; done)
    | (refine bodyPost_end (results_none rfl _ _ _) rfl (Post.done (v := ()) ?_ rfl hb0 hI); have hm : (s.z < 4) = False := eq_false (by omega); simp [farS, *]; done)
set_option maxHeartbeats 6000000 in
set_option maxRecDepth 8000 in
theorem far_1W_ (B : Nat) (s : PS) (w : World) (hI : Inv B w s.gv s.got) (hx : s.x = 2) (hz : s.z < 4) (hy : 3 < s.y) : Calls Tryz.prog 43 #[.pointer (some ⟨B, 0, none⟩)] (put w B s.cells) (Post B w eU (run farS s)) := by
  have hi := hI.inb
  have hb0 := Below.refl w.heap.size w
  go_enter Tryz.func43, Tryz.ntmps43
  all_goals (try go_wp2_with (first | (go_at_call 64; refine (blocksW_ B  _ _ (by assumption)).mono (Post.thruF fr_blocks hb0 (fun c s1 w1 hq hb0 hi => ?_) (fun v s1 w1 hq f1 f2 f3 f4 f5 f6 f7 hb0 hI hi => ?_)))))
  all_goals first
    | (refine ⟨rfl, Post.err _ ?_ hb0 hi⟩; simp [farS, *]; done)
    | (refine bodyPost_end (results_none rfl _ _ _) rfl (Post.done (v := ()) ?_ rfl hb0 hI); simp [farS, *]; done)
    | (refine bodyPost_ret (results_none rfl _ _ _) rfl (Post.done (v := ()) ?_ rfl hb0 hI); simp [farS, *]; done)
    | (refine bodyPost_end (results_none rfl _ _ _) rfl (Post.done (v := ()) ?_ rfl hb0 hI); have hm : (3 < s.y) = False := eq_false (by omega); simp [farS, *]; done)
    | (refine bodyPost_end (results_none rfl _ _ _) rfl (Post.done (v := ()) ?_ rfl hb0 hI); have hm : (s.z < 4) = False := eq_false (by omega); simp [farS, *]; done)
set_option maxHeartbeats 6000000 in
set_option maxRecDepth 8000 in
theorem far_2W_ (B : Nat) (s : PS) (w : World) (hI : Inv B w s.gv s.got) (hx : s.x = 2) (hz : s.z < 4) (hy : ¬ 3 < s.y) : Calls Tryz.prog 43 #[.pointer (some ⟨B, 0, none⟩)] (put w B s.cells) (Post B w eU (run farS s)) := by
  have hi := hI.inb
  have hb0 := Below.refl w.heap.size w
  go_enter Tryz.func43, Tryz.ntmps43
  all_goals (try go_wp2)
  all_goals first
    | (refine ⟨rfl, Post.err _ ?_ hb0 hi⟩; simp [farS, *]; done)
    | (refine bodyPost_end (results_none rfl _ _ _) rfl (Post.done (v := ()) ?_ rfl hb0 hI); simp [farS, *]; done)
    | (refine bodyPost_ret (results_none rfl _ _ _) rfl (Post.done (v := ()) ?_ rfl hb0 hI); simp [farS, *]; done)
    | (refine bodyPost_end (results_none rfl _ _ _) rfl (Post.done (v := ()) ?_ rfl hb0 hI); have hm : (3 < s.y) = False := eq_false (by omega); simp [farS, *]; done)
    | (refine bodyPost_end (results_none rfl _ _ _) rfl (Post.done (v := ()) ?_ rfl hb0 hI); have hm : (s.z < 4) = False := eq_false (by omega); simp [farS, *]; done)
set_option maxHeartbeats 6000000 in
set_option maxRecDepth 8000 in
theorem far_3W_ (B : Nat) (s : PS) (w : World) (hI : Inv B w s.gv s.got) (hx : s.x = 2) (hz : ¬ s.z < 4) : Calls Tryz.prog 43 #[.pointer (some ⟨B, 0, none⟩)] (put w B s.cells) (Post B w eU (run farS s)) := by
  have hi := hI.inb
  have hb0 := Below.refl w.heap.size w
  go_enter Tryz.func43, Tryz.ntmps43
  all_goals (try go_wp2)
  all_goals first
    | (refine ⟨rfl, Post.err _ ?_ hb0 hi⟩; simp [farS, *]; done)
    | (refine bodyPost_end (results_none rfl _ _ _) rfl (Post.done (v := ()) ?_ rfl hb0 hI); simp [farS, *]; done)
    | (refine bodyPost_ret (results_none rfl _ _ _) rfl (Post.done (v := ()) ?_ rfl hb0 hI); simp [farS, *]; done)
    | (refine bodyPost_end (results_none rfl _ _ _) rfl (Post.done (v := ()) ?_ rfl hb0 hI); have hm : (3 < s.y) = False := eq_false (by omega); simp [farS, *]; done)
    | (refine bodyPost_end (results_none rfl _ _ _) rfl (Post.done (v := ()) ?_ rfl hb0 hI); have hm : (s.z < 4) = False := eq_false (by omega); simp [farS, *]; done)
set_option maxHeartbeats 6000000 in
set_option maxRecDepth 8000 in
theorem far_4W_ (B : Nat) (s : PS) (w : World) (hI : Inv B w s.gv s.got) (hx : ¬ s.x = 1) (hx2 : ¬ s.x = 2) : Calls Tryz.prog 43 #[.pointer (some ⟨B, 0, none⟩)] (put w B s.cells) (Post B w eU (run farS s)) := by
  have hi := hI.inb
  have hb0 := Below.refl w.heap.size w
  go_enter Tryz.func43, Tryz.ntmps43
  all_goals (try go_wp2)
  all_goals first
    | (refine ⟨rfl, Post.err _ ?_ hb0 hi⟩; simp [farS, *]; done)
    | (refine bodyPost_end (results_none rfl _ _ _) rfl (Post.done (v := ()) ?_ rfl hb0 hI); simp [farS, *]; done)
    | (refine bodyPost_ret (results_none rfl _ _ _) rfl (Post.done (v := ()) ?_ rfl hb0 hI); simp [farS, *]; done)
    | (refine bodyPost_end (results_none rfl _ _ _) rfl (Post.done (v := ()) ?_ rfl hb0 hI); have hm : (3 < s.y) = False := eq_false (by omega); simp [farS, *]; done)
    | (refine bodyPost_end (results_none rfl _ _ _) rfl (Post.done (v := ()) ?_ rfl hb0 hI); have hm : (s.z < 4) = False := eq_false (by omega); simp [farS, *]; done)
theorem farW_ (B : Nat) (s : PS) (w : World) (hI : Inv B w s.gv s.got) : Calls Tryz.prog 43 #[.pointer (some ⟨B, 0, none⟩)] (put w B s.cells) (Post B w eU (run farS s)) := by
  rcases (show (s.x = 1) ∨ (s.x = 2 ∧ s.z < 4 ∧ 3 < s.y) ∨ (s.x = 2 ∧ s.z < 4 ∧ ¬ 3 < s.y) ∨ (s.x = 2 ∧ ¬ s.z < 4) ∨ (¬ s.x = 1 ∧ ¬ s.x = 2) by omega) with hx | ⟨hx, hz, hy⟩ | ⟨hx, hz, hy⟩ | ⟨hx, hz⟩ | ⟨hx, hx2⟩
  · exact far_0W_ B s w hI hx
  · exact far_1W_ B s w hI hx hz hy
  · exact far_2W_ B s w hI hx hz hy
  · exact far_3W_ B s w hI hx hz
  · exact far_4W_ B s w hI hx hx2
end Go.Proofs.YtnaampdpkegacaaGreatDoor
