/-
  Contract of the reference 12's block. A helper of the claims that stand beside it. (Printed by wip/genrs.py.)
-/
import Derived.Test.YtnaampdpkegacaaGreatDoorrn
import Derived.Test.YtnaampdpkegacaaGreatDoorrx
namespace Go.Proofs.YtnaampdpkegacaaGreatDoor
open Go.RowKit

set_option maxHeartbeats 6000000 in
set_option maxRecDepth 20000 in
theorem block_0Q_ (B : Nat) (y : Int) (z : Int) (s : QS) (w : World) (hI : QInv B w s.gv s.got) (hy : y = 4) (hz : z = 0) : Calls Tryz.prog 95 #[.pointer (some ⟨B, 0, none⟩), .int .i64 y, .int .i64 z] (put w B s.cells) (QPost B w eU (runQ (blockQ y z) s)) := by
  have hi := hI.inb
  have hb0 := Below.refl w.heap.size w
  subst hy hz
  go_enter Tryz.func95, Tryz.ntmps95
  all_goals (try go_wp2_with (first | (go_at_call 114; refine (readQ_ B _ _ _ (by assumption)).mono (QPost.thru hb0 (fun v s1 w1 hq hb0 hI hi => ?_))) | (go_at_call 58; refine (statesQ_ B _ _ _ (by assumption)).mono (QPost.thru hb0 (fun v s1 w1 hq hb0 hI hi => ?_))) | (go_at_call 115; refine (pMv_ _ _ _).mono ?_; rintro e w1 ⟨rfl, rfl⟩) | (go_at_call 175; refine (lessQ_ B  _ _ (by assumption)).mono (QPost.thru hb0 (fun v s1 w1 hq hb0 hI hi => ?_))) | (go_at_call 172; refine (writeQ_ B _ _ _ _ (by assumption)).mono (QPost.thru hb0 (fun v s1 w1 hq hb0 hI hi => ?_))) | (go_at_call 177; refine (pLo_ _ _).mono ?_; rintro e w1 ⟨rfl, rfl⟩) | (go_at_call 26; refine (cycR_ B 5 _ _ 4 _ _ (by assumption)).mono (QPost.thru hb0 (fun v s1 w1 hq hb0 hI hi => ?_))) | (go_at_call 97; refine (aQ_ B _ _ (by assumption)).mono ?_; rintro e w1 ⟨rfl, rfl⟩) | (go_at_call 176; refine (pTake_ _ _ _ _ (by decide) _).mono ?_; rintro e w1 ⟨rfl, hb⟩; obtain ⟨w2, rfl, hb2⟩ := unput hi hb; replace hb0 := bt hb0 hb2; replace hI := hI.kept hb2; have hi := hI.inb) | (go_at_call 178; refine (pGive_ _ _ _ _).mono ?_; rintro e w1 ⟨rfl, hb⟩; obtain ⟨w2, rfl, hb2⟩ := unput hi hb; replace hb0 := bt hb0 hb2; replace hI := hI.kept hb2; have hi := hI.inb)))
  all_goals (try (
        refine still_tail 10 (by kernel_rfl) (by decide +kernel) ?_
        simp only [List.take_succ_cons, List.take_zero, List.drop_succ_cons, List.drop_zero, put_drew]
        replace hb0 := bt hb0 (Below.refl _ _).drew
        replace hI := QInv.drew hI
        replace hi := QInv.inb hI
        repeat (first | still_step | (refine wpStill_step (fun K hK => ?_); go_simp; (first | (refine ⟨_, (aQ_ B _ _ (by assumption)).mono (fun e w' h => ⟨h.1, h.2.symm⟩), hK _ ?_⟩) | (refine ⟨_, (fQ_ B _ _ (by assumption)).mono (fun e w' h => ⟨h.1, h.2.symm⟩), hK _ ?_⟩)); clear hK K))
        refine wpStill_nil ?_))
  all_goals (try go_wp2_with (first | (go_at_call 173; refine (pMo_ _ _ _ _ _).mono ?_; rintro e w1 ⟨rfl, hb⟩; obtain ⟨w2, rfl, hb2⟩ := unput hi hb; replace hb0 := bt hb0 hb2; replace hI := hI.kept hb2; have hi := hI.inb) | (go_at_call 174; refine (pFi_ _ _ _ _ _).mono ?_; rintro e w1 ⟨rfl, hb⟩; obtain ⟨w2, rfl, hb2⟩ := unput hi hb; replace hb0 := bt hb0 hb2; replace hI := hI.kept hb2; have hi := hI.inb) | (go_at_call 115; refine (pMv_ _ _ _).mono ?_; rintro e w1 ⟨rfl, rfl⟩) | (go_at_call 176; refine (pTake_ _ _ _ _ (by decide) _).mono ?_; rintro e w1 ⟨rfl, hb⟩; obtain ⟨w2, rfl, hb2⟩ := unput hi hb; replace hb0 := bt hb0 hb2; replace hI := hI.kept hb2; have hi := hI.inb) | (go_at_call 178; refine (pGive_ _ _ _ _).mono ?_; rintro e w1 ⟨rfl, hb⟩; obtain ⟨w2, rfl, hb2⟩ := unput hi hb; replace hb0 := bt hb0 hb2; replace hI := hI.kept hb2; have hi := hI.inb) | (go_at_call 97; refine (aQ_ B _ _ (by assumption)).mono ?_; rintro e w1 ⟨rfl, rfl⟩) | (go_at_call 96; refine (putQ_ B _ _ _ _ (by assumption)).mono (QPost.thru hb0 (fun v s1 w1 hq hb0 hI hi => ?_))) | (go_at_call 179; refine (pAgain_ _ _ _).mono ?_; rintro e w1 ⟨rfl, hb⟩; obtain ⟨w2, rfl, hb2⟩ := unput hi hb; replace hb0 := bt hb0 hb2; replace hI := hI.kept hb2; have hi := hI.inb) | (go_at_call 58; refine (statesQ_ B _ _ _ (by assumption)).mono (QPost.thru hb0 (fun v s1 w1 hq hb0 hI hi => ?_)))))
  all_goals first
    | (refine bodyPost_end (results_none rfl _ _ _) rfl (QPost.done (v := ()) ?_ rfl hb0 hI); simp [blockQ, blk0Q, byQ, *]; done)
    | (refine bodyPost_ret (results_none rfl _ _ _) rfl (QPost.done (v := ()) ?_ rfl hb0 hI); simp [blockQ, blk0Q, blk1Q, blk2Q, blk3Q, byQ, QC.hl', *]; done)
set_option maxHeartbeats 6000000 in
set_option maxRecDepth 20000 in
theorem block_1Q_ (B : Nat) (y : Int) (z : Int) (s : QS) (w : World) (hI : QInv B w s.gv s.got) (hy : y = 4) (hz : z = 1) : Calls Tryz.prog 95 #[.pointer (some ⟨B, 0, none⟩), .int .i64 y, .int .i64 z] (put w B s.cells) (QPost B w eU (runQ (blockQ y z) s)) := by
  have hi := hI.inb
  have hb0 := Below.refl w.heap.size w
  subst hy hz
  go_enter Tryz.func95, Tryz.ntmps95
  all_goals (try go_wp2_with (first | (go_at_call 114; refine (readQ_ B _ _ _ (by assumption)).mono (QPost.thru hb0 (fun v s1 w1 hq hb0 hI hi => ?_))) | (go_at_call 58; refine (statesQ_ B _ _ _ (by assumption)).mono (QPost.thru hb0 (fun v s1 w1 hq hb0 hI hi => ?_))) | (go_at_call 115; refine (pMv_ _ _ _).mono ?_; rintro e w1 ⟨rfl, rfl⟩) | (go_at_call 175; refine (lessQ_ B  _ _ (by assumption)).mono (QPost.thru hb0 (fun v s1 w1 hq hb0 hI hi => ?_))) | (go_at_call 172; refine (writeQ_ B _ _ _ _ (by assumption)).mono (QPost.thru hb0 (fun v s1 w1 hq hb0 hI hi => ?_))) | (go_at_call 177; refine (pLo_ _ _).mono ?_; rintro e w1 ⟨rfl, rfl⟩) | (go_at_call 26; refine (cycR_ B 5 _ _ 4 _ _ (by assumption)).mono (QPost.thru hb0 (fun v s1 w1 hq hb0 hI hi => ?_))) | (go_at_call 97; refine (aQ_ B _ _ (by assumption)).mono ?_; rintro e w1 ⟨rfl, rfl⟩) | (go_at_call 176; refine (pTake_ _ _ _ _ (by decide) _).mono ?_; rintro e w1 ⟨rfl, hb⟩; obtain ⟨w2, rfl, hb2⟩ := unput hi hb; replace hb0 := bt hb0 hb2; replace hI := hI.kept hb2; have hi := hI.inb) | (go_at_call 178; refine (pGive_ _ _ _ _).mono ?_; rintro e w1 ⟨rfl, hb⟩; obtain ⟨w2, rfl, hb2⟩ := unput hi hb; replace hb0 := bt hb0 hb2; replace hI := hI.kept hb2; have hi := hI.inb)))
  all_goals (try (
        refine still_tail 10 (by kernel_rfl) (by decide +kernel) ?_
        simp only [List.take_succ_cons, List.take_zero, List.drop_succ_cons, List.drop_zero, put_drew]
        replace hb0 := bt hb0 (Below.refl _ _).drew
        replace hI := QInv.drew hI
        replace hi := QInv.inb hI
        repeat (first | still_step | (refine wpStill_step (fun K hK => ?_); go_simp; (first | (refine ⟨_, (aQ_ B _ _ (by assumption)).mono (fun e w' h => ⟨h.1, h.2.symm⟩), hK _ ?_⟩) | (refine ⟨_, (fQ_ B _ _ (by assumption)).mono (fun e w' h => ⟨h.1, h.2.symm⟩), hK _ ?_⟩)); clear hK K))
        refine wpStill_nil ?_))
  all_goals (try go_wp2_with (first | (go_at_call 173; refine (pMo_ _ _ _ _ _).mono ?_; rintro e w1 ⟨rfl, hb⟩; obtain ⟨w2, rfl, hb2⟩ := unput hi hb; replace hb0 := bt hb0 hb2; replace hI := hI.kept hb2; have hi := hI.inb) | (go_at_call 174; refine (pFi_ _ _ _ _ _).mono ?_; rintro e w1 ⟨rfl, hb⟩; obtain ⟨w2, rfl, hb2⟩ := unput hi hb; replace hb0 := bt hb0 hb2; replace hI := hI.kept hb2; have hi := hI.inb) | (go_at_call 115; refine (pMv_ _ _ _).mono ?_; rintro e w1 ⟨rfl, rfl⟩) | (go_at_call 176; refine (pTake_ _ _ _ _ (by decide) _).mono ?_; rintro e w1 ⟨rfl, hb⟩; obtain ⟨w2, rfl, hb2⟩ := unput hi hb; replace hb0 := bt hb0 hb2; replace hI := hI.kept hb2; have hi := hI.inb) | (go_at_call 178; refine (pGive_ _ _ _ _).mono ?_; rintro e w1 ⟨rfl, hb⟩; obtain ⟨w2, rfl, hb2⟩ := unput hi hb; replace hb0 := bt hb0 hb2; replace hI := hI.kept hb2; have hi := hI.inb) | (go_at_call 97; refine (aQ_ B _ _ (by assumption)).mono ?_; rintro e w1 ⟨rfl, rfl⟩) | (go_at_call 96; refine (putQ_ B _ _ _ _ (by assumption)).mono (QPost.thru hb0 (fun v s1 w1 hq hb0 hI hi => ?_))) | (go_at_call 179; refine (pAgain_ _ _ _).mono ?_; rintro e w1 ⟨rfl, hb⟩; obtain ⟨w2, rfl, hb2⟩ := unput hi hb; replace hb0 := bt hb0 hb2; replace hI := hI.kept hb2; have hi := hI.inb) | (go_at_call 58; refine (statesQ_ B _ _ _ (by assumption)).mono (QPost.thru hb0 (fun v s1 w1 hq hb0 hI hi => ?_)))))
  all_goals first
    | (refine bodyPost_end (results_none rfl _ _ _) rfl (QPost.done (v := ()) ?_ rfl hb0 hI); simp [blockQ, blk1Q, byQ, *]; done)
    | (refine bodyPost_ret (results_none rfl _ _ _) rfl (QPost.done (v := ()) ?_ rfl hb0 hI); simp [blockQ, blk0Q, blk1Q, blk2Q, blk3Q, byQ, QC.hl', *]; done)
set_option maxHeartbeats 6000000 in
set_option maxRecDepth 20000 in
theorem block_4Q_ (B : Nat) (y : Int) (z : Int) (s : QS) (w : World) (hI : QInv B w s.gv s.got) (hy : y = 5) (hz : z = 0) : Calls Tryz.prog 95 #[.pointer (some ⟨B, 0, none⟩), .int .i64 y, .int .i64 z] (put w B s.cells) (QPost B w eU (runQ (blockQ y z) s)) := by
  have hi := hI.inb
  have hb0 := Below.refl w.heap.size w
  subst hy hz
  go_enter Tryz.func95, Tryz.ntmps95
  all_goals (try go_wp2_with (first | (go_at_call 114; refine (readQ_ B _ _ _ (by assumption)).mono (QPost.thru hb0 (fun v s1 w1 hq hb0 hI hi => ?_))) | (go_at_call 58; refine (statesQ_ B _ _ _ (by assumption)).mono (QPost.thru hb0 (fun v s1 w1 hq hb0 hI hi => ?_))) | (go_at_call 115; refine (pMv_ _ _ _).mono ?_; rintro e w1 ⟨rfl, rfl⟩) | (go_at_call 175; refine (lessQ_ B  _ _ (by assumption)).mono (QPost.thru hb0 (fun v s1 w1 hq hb0 hI hi => ?_))) | (go_at_call 172; refine (writeQ_ B _ _ _ _ (by assumption)).mono (QPost.thru hb0 (fun v s1 w1 hq hb0 hI hi => ?_))) | (go_at_call 177; refine (pLo_ _ _).mono ?_; rintro e w1 ⟨rfl, rfl⟩) | (go_at_call 26; refine (cycR_ B 5 _ _ 4 _ _ (by assumption)).mono (QPost.thru hb0 (fun v s1 w1 hq hb0 hI hi => ?_))) | (go_at_call 97; refine (aQ_ B _ _ (by assumption)).mono ?_; rintro e w1 ⟨rfl, rfl⟩) | (go_at_call 176; refine (pTake_ _ _ _ _ (by decide) _).mono ?_; rintro e w1 ⟨rfl, hb⟩; obtain ⟨w2, rfl, hb2⟩ := unput hi hb; replace hb0 := bt hb0 hb2; replace hI := hI.kept hb2; have hi := hI.inb) | (go_at_call 178; refine (pGive_ _ _ _ _).mono ?_; rintro e w1 ⟨rfl, hb⟩; obtain ⟨w2, rfl, hb2⟩ := unput hi hb; replace hb0 := bt hb0 hb2; replace hI := hI.kept hb2; have hi := hI.inb)))
  all_goals (try (
        refine still_tail 10 (by kernel_rfl) (by decide +kernel) ?_
        simp only [List.take_succ_cons, List.take_zero, List.drop_succ_cons, List.drop_zero, put_drew]
        replace hb0 := bt hb0 (Below.refl _ _).drew
        replace hI := QInv.drew hI
        replace hi := QInv.inb hI
        repeat (first | still_step | (refine wpStill_step (fun K hK => ?_); go_simp; (first | (refine ⟨_, (aQ_ B _ _ (by assumption)).mono (fun e w' h => ⟨h.1, h.2.symm⟩), hK _ ?_⟩) | (refine ⟨_, (fQ_ B _ _ (by assumption)).mono (fun e w' h => ⟨h.1, h.2.symm⟩), hK _ ?_⟩)); clear hK K))
        refine wpStill_nil ?_))
  all_goals (try go_wp2_with (first | (go_at_call 173; refine (pMo_ _ _ _ _ _).mono ?_; rintro e w1 ⟨rfl, hb⟩; obtain ⟨w2, rfl, hb2⟩ := unput hi hb; replace hb0 := bt hb0 hb2; replace hI := hI.kept hb2; have hi := hI.inb) | (go_at_call 174; refine (pFi_ _ _ _ _ _).mono ?_; rintro e w1 ⟨rfl, hb⟩; obtain ⟨w2, rfl, hb2⟩ := unput hi hb; replace hb0 := bt hb0 hb2; replace hI := hI.kept hb2; have hi := hI.inb) | (go_at_call 115; refine (pMv_ _ _ _).mono ?_; rintro e w1 ⟨rfl, rfl⟩) | (go_at_call 176; refine (pTake_ _ _ _ _ (by decide) _).mono ?_; rintro e w1 ⟨rfl, hb⟩; obtain ⟨w2, rfl, hb2⟩ := unput hi hb; replace hb0 := bt hb0 hb2; replace hI := hI.kept hb2; have hi := hI.inb) | (go_at_call 178; refine (pGive_ _ _ _ _).mono ?_; rintro e w1 ⟨rfl, hb⟩; obtain ⟨w2, rfl, hb2⟩ := unput hi hb; replace hb0 := bt hb0 hb2; replace hI := hI.kept hb2; have hi := hI.inb) | (go_at_call 97; refine (aQ_ B _ _ (by assumption)).mono ?_; rintro e w1 ⟨rfl, rfl⟩) | (go_at_call 96; refine (putQ_ B _ _ _ _ (by assumption)).mono (QPost.thru hb0 (fun v s1 w1 hq hb0 hI hi => ?_))) | (go_at_call 179; refine (pAgain_ _ _ _).mono ?_; rintro e w1 ⟨rfl, hb⟩; obtain ⟨w2, rfl, hb2⟩ := unput hi hb; replace hb0 := bt hb0 hb2; replace hI := hI.kept hb2; have hi := hI.inb) | (go_at_call 58; refine (statesQ_ B _ _ _ (by assumption)).mono (QPost.thru hb0 (fun v s1 w1 hq hb0 hI hi => ?_)))))
  all_goals first
    | (refine bodyPost_end (results_none rfl _ _ _) rfl (QPost.done (v := ()) ?_ rfl hb0 hI); simp [blockQ, blk0Q, byQ, *]; done)
    | (refine bodyPost_ret (results_none rfl _ _ _) rfl (QPost.done (v := ()) ?_ rfl hb0 hI); simp [blockQ, blk0Q, blk1Q, blk2Q, blk3Q, byQ, QC.hl', *]; done)
set_option maxHeartbeats 6000000 in
set_option maxRecDepth 20000 in
theorem block_5Q_ (B : Nat) (y : Int) (z : Int) (s : QS) (w : World) (hI : QInv B w s.gv s.got) (hy : y = 5) (hz : z = 1) : Calls Tryz.prog 95 #[.pointer (some ⟨B, 0, none⟩), .int .i64 y, .int .i64 z] (put w B s.cells) (QPost B w eU (runQ (blockQ y z) s)) := by
  have hi := hI.inb
  have hb0 := Below.refl w.heap.size w
  subst hy hz
  go_enter Tryz.func95, Tryz.ntmps95
  all_goals (try go_wp2_with (first | (go_at_call 114; refine (readQ_ B _ _ _ (by assumption)).mono (QPost.thru hb0 (fun v s1 w1 hq hb0 hI hi => ?_))) | (go_at_call 58; refine (statesQ_ B _ _ _ (by assumption)).mono (QPost.thru hb0 (fun v s1 w1 hq hb0 hI hi => ?_))) | (go_at_call 115; refine (pMv_ _ _ _).mono ?_; rintro e w1 ⟨rfl, rfl⟩) | (go_at_call 175; refine (lessQ_ B  _ _ (by assumption)).mono (QPost.thru hb0 (fun v s1 w1 hq hb0 hI hi => ?_))) | (go_at_call 172; refine (writeQ_ B _ _ _ _ (by assumption)).mono (QPost.thru hb0 (fun v s1 w1 hq hb0 hI hi => ?_))) | (go_at_call 177; refine (pLo_ _ _).mono ?_; rintro e w1 ⟨rfl, rfl⟩) | (go_at_call 26; refine (cycR_ B 5 _ _ 4 _ _ (by assumption)).mono (QPost.thru hb0 (fun v s1 w1 hq hb0 hI hi => ?_))) | (go_at_call 97; refine (aQ_ B _ _ (by assumption)).mono ?_; rintro e w1 ⟨rfl, rfl⟩) | (go_at_call 176; refine (pTake_ _ _ _ _ (by decide) _).mono ?_; rintro e w1 ⟨rfl, hb⟩; obtain ⟨w2, rfl, hb2⟩ := unput hi hb; replace hb0 := bt hb0 hb2; replace hI := hI.kept hb2; have hi := hI.inb) | (go_at_call 178; refine (pGive_ _ _ _ _).mono ?_; rintro e w1 ⟨rfl, hb⟩; obtain ⟨w2, rfl, hb2⟩ := unput hi hb; replace hb0 := bt hb0 hb2; replace hI := hI.kept hb2; have hi := hI.inb)))
  all_goals (try (
        refine still_tail 10 (by kernel_rfl) (by decide +kernel) ?_
        simp only [List.take_succ_cons, List.take_zero, List.drop_succ_cons, List.drop_zero, put_drew]
        replace hb0 := bt hb0 (Below.refl _ _).drew
        replace hI := QInv.drew hI
        replace hi := QInv.inb hI
        repeat (first | still_step | (refine wpStill_step (fun K hK => ?_); go_simp; (first | (refine ⟨_, (aQ_ B _ _ (by assumption)).mono (fun e w' h => ⟨h.1, h.2.symm⟩), hK _ ?_⟩) | (refine ⟨_, (fQ_ B _ _ (by assumption)).mono (fun e w' h => ⟨h.1, h.2.symm⟩), hK _ ?_⟩)); clear hK K))
        refine wpStill_nil ?_))
  all_goals (try go_wp2_with (first | (go_at_call 173; refine (pMo_ _ _ _ _ _).mono ?_; rintro e w1 ⟨rfl, hb⟩; obtain ⟨w2, rfl, hb2⟩ := unput hi hb; replace hb0 := bt hb0 hb2; replace hI := hI.kept hb2; have hi := hI.inb) | (go_at_call 174; refine (pFi_ _ _ _ _ _).mono ?_; rintro e w1 ⟨rfl, hb⟩; obtain ⟨w2, rfl, hb2⟩ := unput hi hb; replace hb0 := bt hb0 hb2; replace hI := hI.kept hb2; have hi := hI.inb) | (go_at_call 115; refine (pMv_ _ _ _).mono ?_; rintro e w1 ⟨rfl, rfl⟩) | (go_at_call 176; refine (pTake_ _ _ _ _ (by decide) _).mono ?_; rintro e w1 ⟨rfl, hb⟩; obtain ⟨w2, rfl, hb2⟩ := unput hi hb; replace hb0 := bt hb0 hb2; replace hI := hI.kept hb2; have hi := hI.inb) | (go_at_call 178; refine (pGive_ _ _ _ _).mono ?_; rintro e w1 ⟨rfl, hb⟩; obtain ⟨w2, rfl, hb2⟩ := unput hi hb; replace hb0 := bt hb0 hb2; replace hI := hI.kept hb2; have hi := hI.inb) | (go_at_call 97; refine (aQ_ B _ _ (by assumption)).mono ?_; rintro e w1 ⟨rfl, rfl⟩) | (go_at_call 96; refine (putQ_ B _ _ _ _ (by assumption)).mono (QPost.thru hb0 (fun v s1 w1 hq hb0 hI hi => ?_))) | (go_at_call 179; refine (pAgain_ _ _ _).mono ?_; rintro e w1 ⟨rfl, hb⟩; obtain ⟨w2, rfl, hb2⟩ := unput hi hb; replace hb0 := bt hb0 hb2; replace hI := hI.kept hb2; have hi := hI.inb) | (go_at_call 58; refine (statesQ_ B _ _ _ (by assumption)).mono (QPost.thru hb0 (fun v s1 w1 hq hb0 hI hi => ?_)))))
  all_goals first
    | (refine bodyPost_end (results_none rfl _ _ _) rfl (QPost.done (v := ()) ?_ rfl hb0 hI); simp [blockQ, blk1Q, byQ, *]; done)
    | (refine bodyPost_ret (results_none rfl _ _ _) rfl (QPost.done (v := ()) ?_ rfl hb0 hI); simp [blockQ, blk0Q, blk1Q, blk2Q, blk3Q, byQ, QC.hl', *]; done)
set_option maxHeartbeats 6000000 in
set_option maxRecDepth 20000 in
theorem block_8Q_ (B : Nat) (y : Int) (z : Int) (s : QS) (w : World) (hI : QInv B w s.gv s.got) (hy : y = 6) (hz : z = 0) : Calls Tryz.prog 95 #[.pointer (some ⟨B, 0, none⟩), .int .i64 y, .int .i64 z] (put w B s.cells) (QPost B w eU (runQ (blockQ y z) s)) := by
  have hi := hI.inb
  have hb0 := Below.refl w.heap.size w
  subst hy hz
  go_enter Tryz.func95, Tryz.ntmps95
  all_goals (try go_wp2_with (first | (go_at_call 114; refine (readQ_ B _ _ _ (by assumption)).mono (QPost.thru hb0 (fun v s1 w1 hq hb0 hI hi => ?_))) | (go_at_call 58; refine (statesQ_ B _ _ _ (by assumption)).mono (QPost.thru hb0 (fun v s1 w1 hq hb0 hI hi => ?_))) | (go_at_call 115; refine (pMv_ _ _ _).mono ?_; rintro e w1 ⟨rfl, rfl⟩) | (go_at_call 175; refine (lessQ_ B  _ _ (by assumption)).mono (QPost.thru hb0 (fun v s1 w1 hq hb0 hI hi => ?_))) | (go_at_call 172; refine (writeQ_ B _ _ _ _ (by assumption)).mono (QPost.thru hb0 (fun v s1 w1 hq hb0 hI hi => ?_))) | (go_at_call 177; refine (pLo_ _ _).mono ?_; rintro e w1 ⟨rfl, rfl⟩) | (go_at_call 26; refine (cycR_ B 5 _ _ 4 _ _ (by assumption)).mono (QPost.thru hb0 (fun v s1 w1 hq hb0 hI hi => ?_))) | (go_at_call 97; refine (aQ_ B _ _ (by assumption)).mono ?_; rintro e w1 ⟨rfl, rfl⟩) | (go_at_call 176; refine (pTake_ _ _ _ _ (by decide) _).mono ?_; rintro e w1 ⟨rfl, hb⟩; obtain ⟨w2, rfl, hb2⟩ := unput hi hb; replace hb0 := bt hb0 hb2; replace hI := hI.kept hb2; have hi := hI.inb) | (go_at_call 178; refine (pGive_ _ _ _ _).mono ?_; rintro e w1 ⟨rfl, hb⟩; obtain ⟨w2, rfl, hb2⟩ := unput hi hb; replace hb0 := bt hb0 hb2; replace hI := hI.kept hb2; have hi := hI.inb)))
  all_goals (try (
        refine still_tail 10 (by kernel_rfl) (by decide +kernel) ?_
        simp only [List.take_succ_cons, List.take_zero, List.drop_succ_cons, List.drop_zero, put_drew]
        replace hb0 := bt hb0 (Below.refl _ _).drew
        replace hI := QInv.drew hI
        replace hi := QInv.inb hI
        repeat (first | still_step | (refine wpStill_step (fun K hK => ?_); go_simp; (first | (refine ⟨_, (aQ_ B _ _ (by assumption)).mono (fun e w' h => ⟨h.1, h.2.symm⟩), hK _ ?_⟩) | (refine ⟨_, (fQ_ B _ _ (by assumption)).mono (fun e w' h => ⟨h.1, h.2.symm⟩), hK _ ?_⟩)); clear hK K))
        refine wpStill_nil ?_))
  all_goals (try go_wp2_with (first | (go_at_call 173; refine (pMo_ _ _ _ _ _).mono ?_; rintro e w1 ⟨rfl, hb⟩; obtain ⟨w2, rfl, hb2⟩ := unput hi hb; replace hb0 := bt hb0 hb2; replace hI := hI.kept hb2; have hi := hI.inb) | (go_at_call 174; refine (pFi_ _ _ _ _ _).mono ?_; rintro e w1 ⟨rfl, hb⟩; obtain ⟨w2, rfl, hb2⟩ := unput hi hb; replace hb0 := bt hb0 hb2; replace hI := hI.kept hb2; have hi := hI.inb) | (go_at_call 115; refine (pMv_ _ _ _).mono ?_; rintro e w1 ⟨rfl, rfl⟩) | (go_at_call 176; refine (pTake_ _ _ _ _ (by decide) _).mono ?_; rintro e w1 ⟨rfl, hb⟩; obtain ⟨w2, rfl, hb2⟩ := unput hi hb; replace hb0 := bt hb0 hb2; replace hI := hI.kept hb2; have hi := hI.inb) | (go_at_call 178; refine (pGive_ _ _ _ _).mono ?_; rintro e w1 ⟨rfl, hb⟩; obtain ⟨w2, rfl, hb2⟩ := unput hi hb; replace hb0 := bt hb0 hb2; replace hI := hI.kept hb2; have hi := hI.inb) | (go_at_call 97; refine (aQ_ B _ _ (by assumption)).mono ?_; rintro e w1 ⟨rfl, rfl⟩) | (go_at_call 96; refine (putQ_ B _ _ _ _ (by assumption)).mono (QPost.thru hb0 (fun v s1 w1 hq hb0 hI hi => ?_))) | (go_at_call 179; refine (pAgain_ _ _ _).mono ?_; rintro e w1 ⟨rfl, hb⟩; obtain ⟨w2, rfl, hb2⟩ := unput hi hb; replace hb0 := bt hb0 hb2; replace hI := hI.kept hb2; have hi := hI.inb) | (go_at_call 58; refine (statesQ_ B _ _ _ (by assumption)).mono (QPost.thru hb0 (fun v s1 w1 hq hb0 hI hi => ?_)))))
  all_goals first
    | (refine bodyPost_end (results_none rfl _ _ _) rfl (QPost.done (v := ()) ?_ rfl hb0 hI); simp [blockQ, blk0Q, byQ, *]; done)
    | (refine bodyPost_ret (results_none rfl _ _ _) rfl (QPost.done (v := ()) ?_ rfl hb0 hI); simp [blockQ, blk0Q, blk1Q, blk2Q, blk3Q, byQ, QC.hl', *]; done)
set_option maxHeartbeats 6000000 in
set_option maxRecDepth 20000 in
theorem block_9Q_ (B : Nat) (y : Int) (z : Int) (s : QS) (w : World) (hI : QInv B w s.gv s.got) (hy : y = 6) (hz : z = 1) : Calls Tryz.prog 95 #[.pointer (some ⟨B, 0, none⟩), .int .i64 y, .int .i64 z] (put w B s.cells) (QPost B w eU (runQ (blockQ y z) s)) := by
  have hi := hI.inb
  have hb0 := Below.refl w.heap.size w
  subst hy hz
  go_enter Tryz.func95, Tryz.ntmps95
  all_goals (try go_wp2_with (first | (go_at_call 114; refine (readQ_ B _ _ _ (by assumption)).mono (QPost.thru hb0 (fun v s1 w1 hq hb0 hI hi => ?_))) | (go_at_call 58; refine (statesQ_ B _ _ _ (by assumption)).mono (QPost.thru hb0 (fun v s1 w1 hq hb0 hI hi => ?_))) | (go_at_call 115; refine (pMv_ _ _ _).mono ?_; rintro e w1 ⟨rfl, rfl⟩) | (go_at_call 175; refine (lessQ_ B  _ _ (by assumption)).mono (QPost.thru hb0 (fun v s1 w1 hq hb0 hI hi => ?_))) | (go_at_call 172; refine (writeQ_ B _ _ _ _ (by assumption)).mono (QPost.thru hb0 (fun v s1 w1 hq hb0 hI hi => ?_))) | (go_at_call 177; refine (pLo_ _ _).mono ?_; rintro e w1 ⟨rfl, rfl⟩) | (go_at_call 26; refine (cycR_ B 5 _ _ 4 _ _ (by assumption)).mono (QPost.thru hb0 (fun v s1 w1 hq hb0 hI hi => ?_))) | (go_at_call 97; refine (aQ_ B _ _ (by assumption)).mono ?_; rintro e w1 ⟨rfl, rfl⟩) | (go_at_call 176; refine (pTake_ _ _ _ _ (by decide) _).mono ?_; rintro e w1 ⟨rfl, hb⟩; obtain ⟨w2, rfl, hb2⟩ := unput hi hb; replace hb0 := bt hb0 hb2; replace hI := hI.kept hb2; have hi := hI.inb) | (go_at_call 178; refine (pGive_ _ _ _ _).mono ?_; rintro e w1 ⟨rfl, hb⟩; obtain ⟨w2, rfl, hb2⟩ := unput hi hb; replace hb0 := bt hb0 hb2; replace hI := hI.kept hb2; have hi := hI.inb)))
  all_goals (try (
        refine still_tail 10 (by kernel_rfl) (by decide +kernel) ?_
        simp only [List.take_succ_cons, List.take_zero, List.drop_succ_cons, List.drop_zero, put_drew]
        replace hb0 := bt hb0 (Below.refl _ _).drew
        replace hI := QInv.drew hI
        replace hi := QInv.inb hI
        repeat (first | still_step | (refine wpStill_step (fun K hK => ?_); go_simp; (first | (refine ⟨_, (aQ_ B _ _ (by assumption)).mono (fun e w' h => ⟨h.1, h.2.symm⟩), hK _ ?_⟩) | (refine ⟨_, (fQ_ B _ _ (by assumption)).mono (fun e w' h => ⟨h.1, h.2.symm⟩), hK _ ?_⟩)); clear hK K))
        refine wpStill_nil ?_))
  all_goals (try go_wp2_with (first | (go_at_call 173; refine (pMo_ _ _ _ _ _).mono ?_; rintro e w1 ⟨rfl, hb⟩; obtain ⟨w2, rfl, hb2⟩ := unput hi hb; replace hb0 := bt hb0 hb2; replace hI := hI.kept hb2; have hi := hI.inb) | (go_at_call 174; refine (pFi_ _ _ _ _ _).mono ?_; rintro e w1 ⟨rfl, hb⟩; obtain ⟨w2, rfl, hb2⟩ := unput hi hb; replace hb0 := bt hb0 hb2; replace hI := hI.kept hb2; have hi := hI.inb) | (go_at_call 115; refine (pMv_ _ _ _).mono ?_; rintro e w1 ⟨rfl, rfl⟩) | (go_at_call 176; refine (pTake_ _ _ _ _ (by decide) _).mono ?_; rintro e w1 ⟨rfl, hb⟩; obtain ⟨w2, rfl, hb2⟩ := unput hi hb; replace hb0 := bt hb0 hb2; replace hI := hI.kept hb2; have hi := hI.inb) | (go_at_call 178; refine (pGive_ _ _ _ _).mono ?_; rintro e w1 ⟨rfl, hb⟩; obtain ⟨w2, rfl, hb2⟩ := unput hi hb; replace hb0 := bt hb0 hb2; replace hI := hI.kept hb2; have hi := hI.inb) | (go_at_call 97; refine (aQ_ B _ _ (by assumption)).mono ?_; rintro e w1 ⟨rfl, rfl⟩) | (go_at_call 96; refine (putQ_ B _ _ _ _ (by assumption)).mono (QPost.thru hb0 (fun v s1 w1 hq hb0 hI hi => ?_))) | (go_at_call 179; refine (pAgain_ _ _ _).mono ?_; rintro e w1 ⟨rfl, hb⟩; obtain ⟨w2, rfl, hb2⟩ := unput hi hb; replace hb0 := bt hb0 hb2; replace hI := hI.kept hb2; have hi := hI.inb) | (go_at_call 58; refine (statesQ_ B _ _ _ (by assumption)).mono (QPost.thru hb0 (fun v s1 w1 hq hb0 hI hi => ?_)))))
  all_goals first
    | (refine bodyPost_end (results_none rfl _ _ _) rfl (QPost.done (v := ()) ?_ rfl hb0 hI); simp [blockQ, blk1Q, byQ, *]; done)
    | (refine bodyPost_ret (results_none rfl _ _ _) rfl (QPost.done (v := ()) ?_ rfl hb0 hI); simp [blockQ, blk0Q, blk1Q, blk2Q, blk3Q, byQ, QC.hl', *]; done)
set_option maxHeartbeats 6000000 in
set_option maxRecDepth 20000 in
theorem block_12Q_ (B : Nat) (y : Int) (z : Int) (s : QS) (w : World) (hI : QInv B w s.gv s.got) (hy : y = 7) (hz : z = 0) : Calls Tryz.prog 95 #[.pointer (some ⟨B, 0, none⟩), .int .i64 y, .int .i64 z] (put w B s.cells) (QPost B w eU (runQ (blockQ y z) s)) := by
  have hi := hI.inb
  have hb0 := Below.refl w.heap.size w
  subst hy hz
  go_enter Tryz.func95, Tryz.ntmps95
  all_goals (try go_wp2_with (first | (go_at_call 114; refine (readQ_ B _ _ _ (by assumption)).mono (QPost.thru hb0 (fun v s1 w1 hq hb0 hI hi => ?_))) | (go_at_call 58; refine (statesQ_ B _ _ _ (by assumption)).mono (QPost.thru hb0 (fun v s1 w1 hq hb0 hI hi => ?_))) | (go_at_call 115; refine (pMv_ _ _ _).mono ?_; rintro e w1 ⟨rfl, rfl⟩) | (go_at_call 175; refine (lessQ_ B  _ _ (by assumption)).mono (QPost.thru hb0 (fun v s1 w1 hq hb0 hI hi => ?_))) | (go_at_call 172; refine (writeQ_ B _ _ _ _ (by assumption)).mono (QPost.thru hb0 (fun v s1 w1 hq hb0 hI hi => ?_))) | (go_at_call 177; refine (pLo_ _ _).mono ?_; rintro e w1 ⟨rfl, rfl⟩) | (go_at_call 26; refine (cycR_ B 5 _ _ 4 _ _ (by assumption)).mono (QPost.thru hb0 (fun v s1 w1 hq hb0 hI hi => ?_))) | (go_at_call 97; refine (aQ_ B _ _ (by assumption)).mono ?_; rintro e w1 ⟨rfl, rfl⟩) | (go_at_call 176; refine (pTake_ _ _ _ _ (by decide) _).mono ?_; rintro e w1 ⟨rfl, hb⟩; obtain ⟨w2, rfl, hb2⟩ := unput hi hb; replace hb0 := bt hb0 hb2; replace hI := hI.kept hb2; have hi := hI.inb) | (go_at_call 178; refine (pGive_ _ _ _ _).mono ?_; rintro e w1 ⟨rfl, hb⟩; obtain ⟨w2, rfl, hb2⟩ := unput hi hb; replace hb0 := bt hb0 hb2; replace hI := hI.kept hb2; have hi := hI.inb)))
  all_goals (try (
        refine still_tail 10 (by kernel_rfl) (by decide +kernel) ?_
        simp only [List.take_succ_cons, List.take_zero, List.drop_succ_cons, List.drop_zero, put_drew]
        replace hb0 := bt hb0 (Below.refl _ _).drew
        replace hI := QInv.drew hI
        replace hi := QInv.inb hI
        repeat (first | still_step | (refine wpStill_step (fun K hK => ?_); go_simp; (first | (refine ⟨_, (aQ_ B _ _ (by assumption)).mono (fun e w' h => ⟨h.1, h.2.symm⟩), hK _ ?_⟩) | (refine ⟨_, (fQ_ B _ _ (by assumption)).mono (fun e w' h => ⟨h.1, h.2.symm⟩), hK _ ?_⟩)); clear hK K))
        refine wpStill_nil ?_))
  all_goals (try go_wp2_with (first | (go_at_call 173; refine (pMo_ _ _ _ _ _).mono ?_; rintro e w1 ⟨rfl, hb⟩; obtain ⟨w2, rfl, hb2⟩ := unput hi hb; replace hb0 := bt hb0 hb2; replace hI := hI.kept hb2; have hi := hI.inb) | (go_at_call 174; refine (pFi_ _ _ _ _ _).mono ?_; rintro e w1 ⟨rfl, hb⟩; obtain ⟨w2, rfl, hb2⟩ := unput hi hb; replace hb0 := bt hb0 hb2; replace hI := hI.kept hb2; have hi := hI.inb) | (go_at_call 115; refine (pMv_ _ _ _).mono ?_; rintro e w1 ⟨rfl, rfl⟩) | (go_at_call 176; refine (pTake_ _ _ _ _ (by decide) _).mono ?_; rintro e w1 ⟨rfl, hb⟩; obtain ⟨w2, rfl, hb2⟩ := unput hi hb; replace hb0 := bt hb0 hb2; replace hI := hI.kept hb2; have hi := hI.inb) | (go_at_call 178; refine (pGive_ _ _ _ _).mono ?_; rintro e w1 ⟨rfl, hb⟩; obtain ⟨w2, rfl, hb2⟩ := unput hi hb; replace hb0 := bt hb0 hb2; replace hI := hI.kept hb2; have hi := hI.inb) | (go_at_call 97; refine (aQ_ B _ _ (by assumption)).mono ?_; rintro e w1 ⟨rfl, rfl⟩) | (go_at_call 96; refine (putQ_ B _ _ _ _ (by assumption)).mono (QPost.thru hb0 (fun v s1 w1 hq hb0 hI hi => ?_))) | (go_at_call 179; refine (pAgain_ _ _ _).mono ?_; rintro e w1 ⟨rfl, hb⟩; obtain ⟨w2, rfl, hb2⟩ := unput hi hb; replace hb0 := bt hb0 hb2; replace hI := hI.kept hb2; have hi := hI.inb) | (go_at_call 58; refine (statesQ_ B _ _ _ (by assumption)).mono (QPost.thru hb0 (fun v s1 w1 hq hb0 hI hi => ?_)))))
  all_goals first
    | (refine bodyPost_end (results_none rfl _ _ _) rfl (QPost.done (v := ()) ?_ rfl hb0 hI); simp [blockQ, blk0Q, byQ, *]; done)
    | (refine bodyPost_ret (results_none rfl _ _ _) rfl (QPost.done (v := ()) ?_ rfl hb0 hI); simp [blockQ, blk0Q, blk1Q, blk2Q, blk3Q, byQ, QC.hl', *]; done)
set_option maxHeartbeats 6000000 in
set_option maxRecDepth 20000 in
theorem block_13Q_ (B : Nat) (y : Int) (z : Int) (s : QS) (w : World) (hI : QInv B w s.gv s.got) (hy : y = 7) (hz : z = 1) : Calls Tryz.prog 95 #[.pointer (some ⟨B, 0, none⟩), .int .i64 y, .int .i64 z] (put w B s.cells) (QPost B w eU (runQ (blockQ y z) s)) := by
  have hi := hI.inb
  have hb0 := Below.refl w.heap.size w
  subst hy hz
  go_enter Tryz.func95, Tryz.ntmps95
  all_goals (try go_wp2_with (first | (go_at_call 114; refine (readQ_ B _ _ _ (by assumption)).mono (QPost.thru hb0 (fun v s1 w1 hq hb0 hI hi => ?_))) | (go_at_call 58; refine (statesQ_ B _ _ _ (by assumption)).mono (QPost.thru hb0 (fun v s1 w1 hq hb0 hI hi => ?_))) | (go_at_call 115; refine (pMv_ _ _ _).mono ?_; rintro e w1 ⟨rfl, rfl⟩) | (go_at_call 175; refine (lessQ_ B  _ _ (by assumption)).mono (QPost.thru hb0 (fun v s1 w1 hq hb0 hI hi => ?_))) | (go_at_call 172; refine (writeQ_ B _ _ _ _ (by assumption)).mono (QPost.thru hb0 (fun v s1 w1 hq hb0 hI hi => ?_))) | (go_at_call 177; refine (pLo_ _ _).mono ?_; rintro e w1 ⟨rfl, rfl⟩) | (go_at_call 26; refine (cycR_ B 5 _ _ 4 _ _ (by assumption)).mono (QPost.thru hb0 (fun v s1 w1 hq hb0 hI hi => ?_))) | (go_at_call 97; refine (aQ_ B _ _ (by assumption)).mono ?_; rintro e w1 ⟨rfl, rfl⟩) | (go_at_call 176; refine (pTake_ _ _ _ _ (by decide) _).mono ?_; rintro e w1 ⟨rfl, hb⟩; obtain ⟨w2, rfl, hb2⟩ := unput hi hb; replace hb0 := bt hb0 hb2; replace hI := hI.kept hb2; have hi := hI.inb) | (go_at_call 178; refine (pGive_ _ _ _ _).mono ?_; rintro e w1 ⟨rfl, hb⟩; obtain ⟨w2, rfl, hb2⟩ := unput hi hb; replace hb0 := bt hb0 hb2; replace hI := hI.kept hb2; have hi := hI.inb)))
  all_goals (try (
        refine still_tail 10 (by kernel_rfl) (by decide +kernel) ?_
        simp only [List.take_succ_cons, List.take_zero, List.drop_succ_cons, List.drop_zero, put_drew]
        replace hb0 := bt hb0 (Below.refl _ _).drew
        replace hI := QInv.drew hI
        replace hi := QInv.inb hI
        repeat (first | still_step | (refine wpStill_step (fun K hK => ?_); go_simp; (first | (refine ⟨_, (aQ_ B _ _ (by assumption)).mono (fun e w' h => ⟨h.1, h.2.symm⟩), hK _ ?_⟩) | (refine ⟨_, (fQ_ B _ _ (by assumption)).mono (fun e w' h => ⟨h.1, h.2.symm⟩), hK _ ?_⟩)); clear hK K))
        refine wpStill_nil ?_))
  all_goals (try go_wp2_with (first | (go_at_call 173; refine (pMo_ _ _ _ _ _).mono ?_; rintro e w1 ⟨rfl, hb⟩; obtain ⟨w2, rfl, hb2⟩ := unput hi hb; replace hb0 := bt hb0 hb2; replace hI := hI.kept hb2; have hi := hI.inb) | (go_at_call 174; refine (pFi_ _ _ _ _ _).mono ?_; rintro e w1 ⟨rfl, hb⟩; obtain ⟨w2, rfl, hb2⟩ := unput hi hb; replace hb0 := bt hb0 hb2; replace hI := hI.kept hb2; have hi := hI.inb) | (go_at_call 115; refine (pMv_ _ _ _).mono ?_; rintro e w1 ⟨rfl, rfl⟩) | (go_at_call 176; refine (pTake_ _ _ _ _ (by decide) _).mono ?_; rintro e w1 ⟨rfl, hb⟩; obtain ⟨w2, rfl, hb2⟩ := unput hi hb; replace hb0 := bt hb0 hb2; replace hI := hI.kept hb2; have hi := hI.inb) | (go_at_call 178; refine (pGive_ _ _ _ _).mono ?_; rintro e w1 ⟨rfl, hb⟩; obtain ⟨w2, rfl, hb2⟩ := unput hi hb; replace hb0 := bt hb0 hb2; replace hI := hI.kept hb2; have hi := hI.inb) | (go_at_call 97; refine (aQ_ B _ _ (by assumption)).mono ?_; rintro e w1 ⟨rfl, rfl⟩) | (go_at_call 96; refine (putQ_ B _ _ _ _ (by assumption)).mono (QPost.thru hb0 (fun v s1 w1 hq hb0 hI hi => ?_))) | (go_at_call 179; refine (pAgain_ _ _ _).mono ?_; rintro e w1 ⟨rfl, hb⟩; obtain ⟨w2, rfl, hb2⟩ := unput hi hb; replace hb0 := bt hb0 hb2; replace hI := hI.kept hb2; have hi := hI.inb) | (go_at_call 58; refine (statesQ_ B _ _ _ (by assumption)).mono (QPost.thru hb0 (fun v s1 w1 hq hb0 hI hi => ?_)))))
  all_goals first
    | (refine bodyPost_end (results_none rfl _ _ _) rfl (QPost.done (v := ()) ?_ rfl hb0 hI); simp [blockQ, blk1Q, byQ, *]; done)
    | (refine bodyPost_ret (results_none rfl _ _ _) rfl (QPost.done (v := ()) ?_ rfl hb0 hI); simp [blockQ, blk0Q, blk1Q, blk2Q, blk3Q, byQ, QC.hl', *]; done)
theorem blockQ_ (B : Nat) (y : Int) (z : Int) (s : QS) (w : World) (hI : QInv B w s.gv s.got) (h0 : 3 < y ∧ y ≤ 7) (h1 : 0 ≤ z) (h2 : z < 4) : Calls Tryz.prog 95 #[.pointer (some ⟨B, 0, none⟩), .int .i64 y, .int .i64 z] (put w B s.cells) (QPost B w eU (runQ (blockQ y z) s)) := by
  rcases (show z = 0 ∨ z = 1 ∨ z = 2 ∨ z = 3 by omega) with hz | hz | hz | hz <;> rcases (show y = 4 ∨ y = 5 ∨ y = 6 ∨ y = 7 by omega) with hy | hy | hy | hy
  · exact block_0Q_ B y z s w hI hy hz
  · exact block_4Q_ B y z s w hI hy hz
  · exact block_8Q_ B y z s w hI hy hz
  · exact block_12Q_ B y z s w hI hy hz
  · exact block_1Q_ B y z s w hI hy hz
  · exact block_5Q_ B y z s w hI hy hz
  · exact block_9Q_ B y z s w hI hy hz
  · exact block_13Q_ B y z s w hI hy hz
  · exact block_2Q_ B y z s w hI hy hz
  · exact block_6Q_ B y z s w hI hy hz
  · exact block_10Q_ B y z s w hI hy hz
  · exact block_14Q_ B y z s w hI hy hz
  · exact block_3Q_ B y z s w hI hy hz
  · exact block_7Q_ B y z s w hI hy hz
  · exact block_11Q_ B y z s w hI hy hz
  · exact block_15Q_ B y z s w hI hy hz
end Go.Proofs.YtnaampdpkegacaaGreatDoor
