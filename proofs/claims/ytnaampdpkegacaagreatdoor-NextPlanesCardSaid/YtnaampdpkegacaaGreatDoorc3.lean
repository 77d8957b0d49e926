/-
  Contract of next's blocks, in one of its cases. A helper of the claim that stands beside it. (Printed by a program of wip/.)
-/
import Derived.BigQuiet
import Derived.Deep.QuietTactic
import Derived.Test.YtnaampdpkegacaaGreatDoorcmid
namespace Go.Proofs.YtnaampdpkegacaaGreatDoor
open Go.RowKit

set_option maxHeartbeats 6000000 in
set_option maxRecDepth 20000 in
theorem blocks_3W_ (B : Nat) (s : PS) (w : World) (hI : Inv B w s.gv s.got) (h0 : ¬ s.z = 0) (h1 : ¬ s.z = 1) (h2 : ¬ s.z = 2) : Calls Tryz.prog 64 #[.pointer (some ⟨B, 0, none⟩)] (put w B s.cells) (Post B w eU (run blocksS s)) := by
  have hmf : ∀ (fn : Fn) (first cap : Array Value) (w : World), (Instr.makeFunc fn first cap).run Tryz.prog w = .ok (.func fn first cap) w := fun _ _ _ _ => rfl
  have hi := hI.inb
  have hC := hi.ne
  have hfold := by_fold s.y
  go_enter Tryz.func64, Tryz.ntmps64
  go_wp2_with fail
  have hCB : ¬ w.heap.size = B := hi.ne
  have hbw : Below w.heap.size w (w.alloc (.cells #[.int .i64 (byS s.y)] 3)) := (Below.refl _ _).alloc (Nat.le_refl _) _
  have hC0 : (w.alloc (.cells #[.int .i64 (byS s.y)] 3)).cell? ⟨w.heap.size, 0, none⟩ = some (.int .i64 (byS s.y)) := (cell_new_l _ _ _).1
  obtain ⟨W0, hW0⟩ : ∃ W0, W0 = w.alloc (.cells #[.int .i64 (byS s.y)] 3) := ⟨_, rfl⟩
  rw [← hW0] at hbw hC0
  rw [← hW0]
  clear hW0
  replace hI := hI.kept hbw
  replace hi := hI.inb
  have hb0 := Below.refl W0.heap.size W0
  have hCk := kept hb0 hC0
  go_wp2_with (first | (go_at_call 130; refine (on_ B _ 3 _ _ _ _ _ (by assumption) (kept hb0 hC0) hCB (PS.get3 _) (PS.set3 _ _)).mono ?_; rintro e w1 ⟨rfl, rfl⟩; replace hb0 := bt hb0 (Below.refl _ _).drew; replace hI := Inv.drew hI; have hi := hI.inb; have hCk := kept hb0 hC0) | (go_at_call 130; refine (on_ B _ 2 _ _ _ _ _ (by assumption) (kept hb0 hC0) hCB (PS.get2 _) (PS.set2 _ _)).mono ?_; rintro e w1 ⟨rfl, rfl⟩; replace hb0 := bt hb0 (Below.refl _ _).drew; replace hI := Inv.drew hI; have hi := hI.inb; have hCk := kept hb0 hC0) | (go_at_call 130; refine (on_ B _ 12 _ _ _ _ _ (by assumption) (kept hb0 hC0) hCB (PS.get12 _) (PS.set12 _ _)).mono ?_; rintro e w1 ⟨rfl, rfl⟩; replace hb0 := bt hb0 (Below.refl _ _).drew; replace hI := Inv.drew hI; have hi := hI.inb; have hCk := kept hb0 hC0) | (go_at_call 47; refine (statesW_ B _ _ _ (by assumption)).mono (Post.thruF (fr_states _) hb0 (fun c s1 w1 hq hb0 hi => ?_) (fun v s1 w1 hq f1 f2 f3 f4 f5 f6 f7 hb0 hI hi => ?_)) <;> have hCk := kept hb0 hC0) | (go_at_call 75; refine (readW_ B _ _ _ (by assumption)).mono (Post.thruF (fr_read _) hb0 (fun c s1 w1 hq hb0 hi => ?_) (fun v s1 w1 hq f1 f2 f3 f4 f5 f6 f7 hb0 hI hi => ?_)) <;> have hCk := kept hb0 hC0) | (go_at_call 134; refine (lessW_ B  _ _ (by assumption)).mono (Post.thruF fr_less hb0 (fun c s1 w1 hq hb0 hi => ?_) (fun v s1 w1 hq f1 f2 f3 f4 f5 f6 f7 hb0 hI hi => ?_)) <;> have hCk := kept hb0 hC0) | (go_at_call 122; refine (outW_ B _ _ _ _ (by assumption)).mono (Post.thruF (fr_out _ _) hb0 (fun c s1 w1 hq hb0 hi => ?_) (fun v s1 w1 hq f1 f2 f3 f4 f5 f6 f7 hb0 hI hi => ?_)) <;> have hCk := kept hb0 hC0) | (go_at_call 132; refine (oMo_ _ _ _ _ _).mono ?_; rintro e w1 ⟨rfl, hb⟩; obtain ⟨w2, rfl, hb2⟩ := unput hi hb; replace hb0 := bt hb0 hb2; replace hI := hI.kept hb2; have hi := hI.inb; have hCk := kept hb0 hC0) | (go_at_call 133; refine (oFi_ _ _ _ _ _).mono ?_; rintro e w1 ⟨rfl, hb⟩; obtain ⟨w2, rfl, hb2⟩ := unput hi hb; replace hb0 := bt hb0 hb2; replace hI := hI.kept hb2; have hi := hI.inb; have hCk := kept hb0 hC0) | (go_at_call 135; refine (oTake_ _ _ _ _ _).mono ?_; rintro e w1 ⟨rfl, hb⟩; obtain ⟨w2, rfl, hb2⟩ := unput hi hb; replace hb0 := bt hb0 hb2; replace hI := hI.kept hb2; have hi := hI.inb; have hCk := kept hb0 hC0) | (go_at_call 137; refine (oGive_ _ _ _ _).mono ?_; rintro e w1 ⟨rfl, hb⟩; obtain ⟨w2, rfl, hb2⟩ := unput hi hb; replace hb0 := bt hb0 hb2; replace hI := hI.kept hb2; have hi := hI.inb; have hCk := kept hb0 hC0) | (go_at_call 69; refine (flagW_ B _ _ _ (by assumption)).mono (Post.thruF (fr_flag _) hb0 (fun c s1 w1 hq hb0 hi => ?_) (fun v s1 w1 hq f1 f2 f3 f4 f5 f6 f7 hb0 hI hi => ?_)) <;> have hCk := kept hb0 hC0) | (go_at_call 136; refine (lo_ _ _).mono ?_; rintro e w1 ⟨rfl, rfl⟩))
  all_goals (try (refine ⟨rfl, Post.err _ ?_ (bt hbw hb0) hi⟩; simp [blocksS, blkRepS, blk0S, blk1S, blk2S, blk3S, *]; done))
  (
      refine still_tail 11 (by kernel_rfl) (by kernel_rfl) ?_
      simp only [List.take_succ_cons, List.take_zero, List.drop_succ_cons, List.drop_zero, put_drew]
      replace hb0 := bt hb0 (Below.refl _ _).drew
      replace hI := Inv.drew hI
      replace hi := Inv.inb hI
      have hCk := kept hb0 hC0
      repeat (first | still_step | (refine wpStill_step (fun K hK => ?_); go_simp; (first | (refine ⟨_, (oMv_ _ _ _).mono (fun e w' h => ⟨h.1, h.2.symm⟩), hK _ ?_⟩)); clear hK K))
      refine wpStill_nil ?_)
  all_goals (try go_wp2_with (first | (go_at_call 130; refine (on_ B _ 3 _ _ _ _ _ (by assumption) (kept hb0 hC0) hCB (PS.get3 _) (PS.set3 _ _)).mono ?_; rintro e w1 ⟨rfl, rfl⟩; replace hb0 := bt hb0 (Below.refl _ _).drew; replace hI := Inv.drew hI; have hi := hI.inb; have hCk := kept hb0 hC0) | (go_at_call 130; refine (on_ B _ 2 _ _ _ _ _ (by assumption) (kept hb0 hC0) hCB (PS.get2 _) (PS.set2 _ _)).mono ?_; rintro e w1 ⟨rfl, rfl⟩; replace hb0 := bt hb0 (Below.refl _ _).drew; replace hI := Inv.drew hI; have hi := hI.inb; have hCk := kept hb0 hC0) | (go_at_call 130; refine (on_ B _ 12 _ _ _ _ _ (by assumption) (kept hb0 hC0) hCB (PS.get12 _) (PS.set12 _ _)).mono ?_; rintro e w1 ⟨rfl, rfl⟩; replace hb0 := bt hb0 (Below.refl _ _).drew; replace hI := Inv.drew hI; have hi := hI.inb; have hCk := kept hb0 hC0) | (go_at_call 47; refine (statesW_ B _ _ _ (by assumption)).mono (Post.thruF (fr_states _) hb0 (fun c s1 w1 hq hb0 hi => ?_) (fun v s1 w1 hq f1 f2 f3 f4 f5 f6 f7 hb0 hI hi => ?_)) <;> have hCk := kept hb0 hC0) | (go_at_call 75; refine (readW_ B _ _ _ (by assumption)).mono (Post.thruF (fr_read _) hb0 (fun c s1 w1 hq hb0 hi => ?_) (fun v s1 w1 hq f1 f2 f3 f4 f5 f6 f7 hb0 hI hi => ?_)) <;> have hCk := kept hb0 hC0) | (go_at_call 134; refine (lessW_ B  _ _ (by assumption)).mono (Post.thruF fr_less hb0 (fun c s1 w1 hq hb0 hi => ?_) (fun v s1 w1 hq f1 f2 f3 f4 f5 f6 f7 hb0 hI hi => ?_)) <;> have hCk := kept hb0 hC0) | (go_at_call 122; refine (outW_ B _ _ _ _ (by assumption)).mono (Post.thruF (fr_out _ _) hb0 (fun c s1 w1 hq hb0 hi => ?_) (fun v s1 w1 hq f1 f2 f3 f4 f5 f6 f7 hb0 hI hi => ?_)) <;> have hCk := kept hb0 hC0) | (go_at_call 132; refine (oMo_ _ _ _ _ _).mono ?_; rintro e w1 ⟨rfl, hb⟩; obtain ⟨w2, rfl, hb2⟩ := unput hi hb; replace hb0 := bt hb0 hb2; replace hI := hI.kept hb2; have hi := hI.inb; have hCk := kept hb0 hC0) | (go_at_call 133; refine (oFi_ _ _ _ _ _).mono ?_; rintro e w1 ⟨rfl, hb⟩; obtain ⟨w2, rfl, hb2⟩ := unput hi hb; replace hb0 := bt hb0 hb2; replace hI := hI.kept hb2; have hi := hI.inb; have hCk := kept hb0 hC0) | (go_at_call 135; refine (oTake_ _ _ _ _ _).mono ?_; rintro e w1 ⟨rfl, hb⟩; obtain ⟨w2, rfl, hb2⟩ := unput hi hb; replace hb0 := bt hb0 hb2; replace hI := hI.kept hb2; have hi := hI.inb; have hCk := kept hb0 hC0) | (go_at_call 137; refine (oGive_ _ _ _ _).mono ?_; rintro e w1 ⟨rfl, hb⟩; obtain ⟨w2, rfl, hb2⟩ := unput hi hb; replace hb0 := bt hb0 hb2; replace hI := hI.kept hb2; have hi := hI.inb; have hCk := kept hb0 hC0) | (go_at_call 69; refine (flagW_ B _ _ _ (by assumption)).mono (Post.thruF (fr_flag _) hb0 (fun c s1 w1 hq hb0 hi => ?_) (fun v s1 w1 hq f1 f2 f3 f4 f5 f6 f7 hb0 hI hi => ?_)) <;> have hCk := kept hb0 hC0) | (go_at_call 136; refine (lo_ _ _).mono ?_; rintro e w1 ⟨rfl, rfl⟩)))
  all_goals (try (refine ⟨rfl, Post.err _ ?_ (bt hbw hb0) hi⟩; simp [blocksS, blkRepS, blk0S, blk1S, blk2S, blk3S, *]; done))
  all_goals
    rcases (show 5 < s.y ∨ ¬ 5 < s.y by omega) with hy | hy
    · have hy2 : decide (5 < s.y) = true := decide_eq_true hy
      go_quiet ((first | (go_at_call 68; exact quiet_same (fW_ B _ _ (hI.drewN _))) | (go_at_call 138; exact quiet_same (oAgain_ _ _ _))))
      simp only [put_drewN]
      replace hb0 := Below.dn (n := nq) hb0
      replace hI := hI.drewN nq
      replace hi := hI.inb
      go_wp2_with (first | (go_at_call 47; refine (statesW_ B _ _ _ (by assumption)).mono (Post.thruF (fr_states _) hb0 (fun c s1 w1 hq hb0 hi => ?_) (fun v s1 w1 hq f1 f2 f3 f4 f5 f6 f7 hb0 hI hi => ?_))))
      all_goals first
        | (refine ⟨rfl, Post.err _ ?_ (bt hbw hb0) hi⟩; simp [blocksS, blkRepS, blk0S, blk1S, blk2S, blk3S, *]; done)
        | (refine bodyPost_end (results_none rfl _ _ _) rfl (Post.done (v := ()) ?_ rfl (bt hbw hb0) hI); simp [blocksS, blkRepS, blk0S, blk1S, blk2S, blk3S, *]; done)
        | (refine bodyPost_end (results_none rfl _ _ _) rfl (Post.done (v := ()) ?_ rfl (bt hbw hb0) hI); simp [blocksS, blkRepS, blk0S, blk1S, blk2S, blk3S, *]; done)
        | (refine bodyPost_end (results_none rfl _ _ _) rfl (Post.done (v := ()) ?_ rfl (bt hbw hb0) hI); have hz2 : (s.z < 2) = False := eq_false (by omega); simp [blocksS, blkRepS, blk0S, blk1S, blk2S, blk3S, *]; done)
    · have hy2 : decide (5 < s.y) = false := decide_eq_false hy
      have hy3 := Lib.hid hy
      go_quiet ((first | (go_at_call 68; exact quiet_same (fW_ B _ _ (hI.drewN _))) | (go_at_call 138; exact quiet_same (oAgain_ _ _ _))))
      simp only [put_drewN]
      replace hb0 := Below.dn (n := nq) hb0
      replace hI := hI.drewN nq
      go_wp2
      have hy4 : (5 < s.y) = False := eq_false (by have := hy3.out; omega)
      first
        | (refine bodyPost_end (results_none rfl _ _ _) rfl (Post.done (v := ()) ?_ rfl (bt hbw hb0) hI); simp [blocksS, blkRepS, blk0S, blk1S, blk2S, blk3S, *]; done)
end Go.Proofs.YtnaampdpkegacaaGreatDoor
