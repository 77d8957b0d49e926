/-
  Contracts of the reference 12's sums, hops, stores, steps and turns. A helper of the claims that stand beside it. (Printed by wip/genro.py.)
-/
import Derived.Test.YtnaampdpkegacaaGreatDoorrn
namespace Go.Proofs.YtnaampdpkegacaaGreatDoor
open Go.RowKit

set_option maxHeartbeats 4000000 in
set_option maxRecDepth 20000 in
theorem sumQ_ (B : Nat) (y : Int) (b : U8) (s : QS) (w : World) (hI : QInv B w s.gv s.got) : Calls Tryz.prog 118 #[.pointer (some ⟨B, 0, none⟩), .int .i64 y, .int .u8 b.v] (put w B s.cells) (QPost B w eU (runQ (sumQ y b) s)) := by
  have hi := hI.inb
  have hb0 := Below.refl w.heap.size w
  rcases (show y = 0 ∨ y = 1 ∨ y = 2 ∨ y = 3 ∨ y = 4 ∨ y = 5 ∨ y = 6 ∨ (¬ y = 0 ∧ ¬ y = 1 ∧ ¬ y = 2 ∧ ¬ y = 3 ∧ ¬ y = 4 ∧ ¬ y = 5 ∧ ¬ y = 6) by omega) with rfl | rfl | rfl | rfl | rfl | rfl | rfl | ⟨h0, h1, h2, h3, h4, h5, h6⟩
  all_goals
    go_enter Tryz.func118, Tryz.ntmps118
    all_goals (try go_wp2_with (first | (go_at_call 97; refine (aQ_ B _ _ (by assumption)).mono ?_; rintro e w1 ⟨rfl, rfl⟩) | (go_at_call 100; refine (carryQ_ B _ _ (by assumption)).mono ?_; rintro e w1 ⟨rfl, rfl⟩) | (go_at_call 206; refine (pAdd_ _ _ _ _).mono ?_; rintro e w1 ⟨rfl, hb⟩; obtain ⟨w2, rfl, hb2⟩ := unput hi hb; replace hb0 := bt hb0 hb2; replace hI := hI.kept hb2; have hi := hI.inb) | (go_at_call 195; refine (pSub_ _ _ _ _).mono ?_; rintro e w1 ⟨rfl, hb⟩; obtain ⟨w2, rfl, hb2⟩ := unput hi hb; replace hb0 := bt hb0 hb2; replace hI := hI.kept hb2; have hi := hI.inb) | (go_at_call 207; refine (pAnd_ _ _ _).mono ?_; rintro e w1 ⟨rfl, hb⟩; obtain ⟨w2, rfl, hb2⟩ := unput hi hb; replace hb0 := bt hb0 hb2; replace hI := hI.kept hb2; have hi := hI.inb) | (go_at_call 208; refine (pXor_ _ _ _).mono ?_; rintro e w1 ⟨rfl, hb⟩; obtain ⟨w2, rfl, hb2⟩ := unput hi hb; replace hb0 := bt hb0 hb2; replace hI := hI.kept hb2; have hi := hI.inb) | (go_at_call 209; refine (pOr_ _ _ _).mono ?_; rintro e w1 ⟨rfl, hb⟩; obtain ⟨w2, rfl, hb2⟩ := unput hi hb; replace hb0 := bt hb0 hb2; replace hI := hI.kept hb2; have hi := hI.inb) | (go_at_call 210; refine (pCmp_ _ _ _).mono ?_; rintro e w1 ⟨rfl, hb⟩; obtain ⟨w2, rfl, hb2⟩ := unput hi hb; replace hb0 := bt hb0 hb2; replace hI := hI.kept hb2; have hi := hI.inb) | (go_at_call 96; refine (putQ_ B _ _ _ _ (by assumption)).mono (QPost.thru hb0 (fun v s1 w1 hq hb0 hI hi => ?_)))))
    all_goals first
      | (refine bodyPost_end (results_none rfl _ _ _) rfl (QPost.done (v := ()) ?_ rfl hb0 hI); simp [sumQ, sumF, *]; done)
      | (refine bodyPost_ret (results_none rfl _ _ _) rfl (QPost.done (v := ()) ?_ rfl hb0 hI); simp [sumQ, sumF, QC.hl', *]; done)
set_option maxHeartbeats 6000000 in
set_option maxRecDepth 20000 in
theorem hops_0Q_ (B : Nat) (y : Int) (s : QS) (w : World) (hI : QInv B w s.gv s.got) (hy : y = 0) : Calls Tryz.prog 200 #[.pointer (some ⟨B, 0, none⟩), .int .i64 y] (put w B s.cells) (QPost B w eU (runQ (hopsQ y) s)) := by
  have hi := hI.inb
  have hb0 := Below.refl w.heap.size w
  go_enter Tryz.func200, Tryz.ntmps200
  all_goals (try go_wp2)
  all_goals first
    | (refine bodyPost_end (results_none rfl _ _ _) rfl (QPost.done (v := ()) ?_ rfl hb0 hI); simp [hopsQ, *]; done)
    | (refine bodyPost_ret (results_none rfl _ _ _) rfl (QPost.done (v := ()) ?_ rfl hb0 hI); simp [hopsQ, QC.hl', *]; done)
set_option maxHeartbeats 6000000 in
set_option maxRecDepth 20000 in
theorem hops_1Q_ (B : Nat) (y : Int) (s : QS) (w : World) (hI : QInv B w s.gv s.got) (hy : y = 1) : Calls Tryz.prog 200 #[.pointer (some ⟨B, 0, none⟩), .int .i64 y] (put w B s.cells) (QPost B w eU (runQ (hopsQ y) s)) := by
  have hi := hI.inb
  have hb0 := Below.refl w.heap.size w
  go_enter Tryz.func200, Tryz.ntmps200
  all_goals (try go_wp2_with (first | (go_at_call 249; refine (r11swap_ _ _).mono ?_; rintro e w1 ⟨rfl, hb⟩; obtain ⟨w2, rfl, hb2⟩ := unput hi hb; replace hb0 := bt hb0 hb2; replace hI := hI.kept hb2; have hi := hI.inb)))
  all_goals first
    | (refine bodyPost_end (results_none rfl _ _ _) rfl (QPost.done (v := ()) ?_ rfl hb0 hI); simp [hopsQ, *]; done)
    | (refine bodyPost_ret (results_none rfl _ _ _) rfl (QPost.done (v := ()) ?_ rfl hb0 hI); simp [hopsQ, QC.hl', *]; done)
set_option maxHeartbeats 6000000 in
set_option maxRecDepth 20000 in
theorem hops_2Q_ (B : Nat) (y : Int) (s : QS) (w : World) (hI : QInv B w s.gv s.got) (hy : y = 2) : Calls Tryz.prog 200 #[.pointer (some ⟨B, 0, none⟩), .int .i64 y] (put w B s.cells) (QPost B w eU (runQ (hopsQ y) s)) := by
  have hi := hI.inb
  have hb0 := Below.refl w.heap.size w
  go_enter Tryz.func200, Tryz.ntmps200
  all_goals (try go_wp2_with (first | (go_at_call 58; refine (statesQ_ B _ _ _ (by assumption)).mono (QPost.thru hb0 (fun v s1 w1 hq hb0 hI hi => ?_))) | (go_at_call 175; refine (lessQ_ B  _ _ (by assumption)).mono (QPost.thru hb0 (fun v s1 w1 hq hb0 hI hi => ?_))) | (go_at_call 250; refine (hopQ_ B _ _ _ (by assumption)).mono (QPost.thru hb0 (fun v s1 w1 hq hb0 hI hi => ?_)))))
  all_goals first
    | (refine bodyPost_end (results_none rfl _ _ _) rfl (QPost.done (v := ()) ?_ rfl hb0 hI); simp [hopsQ, *]; done)
    | (refine bodyPost_ret (results_none rfl _ _ _) rfl (QPost.done (v := ()) ?_ rfl hb0 hI); simp [hopsQ, QC.hl', *]; done)
set_option maxHeartbeats 6000000 in
set_option maxRecDepth 20000 in
theorem hops_3Q_ (B : Nat) (y : Int) (s : QS) (w : World) (hI : QInv B w s.gv s.got) (hy : y = 3) : Calls Tryz.prog 200 #[.pointer (some ⟨B, 0, none⟩), .int .i64 y] (put w B s.cells) (QPost B w eU (runQ (hopsQ y) s)) := by
  have hi := hI.inb
  have hb0 := Below.refl w.heap.size w
  go_enter Tryz.func200, Tryz.ntmps200
  all_goals (try go_wp2_with (first | (go_at_call 250; refine (hopQ_ B _ _ _ (by assumption)).mono (QPost.thru hb0 (fun v s1 w1 hq hb0 hI hi => ?_)))))
  all_goals first
    | (refine bodyPost_end (results_none rfl _ _ _) rfl (QPost.done (v := ()) ?_ rfl hb0 hI); simp [hopsQ, *]; done)
    | (refine bodyPost_ret (results_none rfl _ _ _) rfl (QPost.done (v := ()) ?_ rfl hb0 hI); simp [hopsQ, QC.hl', *]; done)
set_option maxHeartbeats 6000000 in
set_option maxRecDepth 20000 in
theorem hops_4Q_ (B : Nat) (y : Int) (s : QS) (w : World) (hI : QInv B w s.gv s.got) (h0 : ¬ y = 0) (h1 : ¬ y = 1) (h2 : ¬ y = 2) (h3 : ¬ y = 3) : Calls Tryz.prog 200 #[.pointer (some ⟨B, 0, none⟩), .int .i64 y] (put w B s.cells) (QPost B w eU (runQ (hopsQ y) s)) := by
  have hi := hI.inb
  have hb0 := Below.refl w.heap.size w
  go_enter Tryz.func200, Tryz.ntmps200
  all_goals (try go_wp2_with (first | (go_at_call 105; refine (fQ_ B _ _ (by assumption)).mono ?_; rintro e w1 ⟨rfl, rfl⟩) | (go_at_call 211; refine (pTest_ _ _ _).mono ?_; rintro e w1 ⟨rfl, hb⟩; obtain ⟨w2, rfl, hb2⟩ := unput hi hb; replace hb0 := bt hb0 hb2; replace hI := hI.kept hb2; have hi := hI.inb) | (go_at_call 250; refine (hopQ_ B _ _ _ (by assumption)).mono (QPost.thru hb0 (fun v s1 w1 hq hb0 hI hi => ?_)))))
  all_goals first
    | (refine bodyPost_end (results_none rfl _ _ _) rfl (QPost.done (v := ()) ?_ rfl hb0 hI); simp [hopsQ, *]; done)
    | (refine bodyPost_ret (results_none rfl _ _ _) rfl (QPost.done (v := ()) ?_ rfl hb0 hI); simp [hopsQ, QC.hl', *]; done)
theorem hopsQ_ (B : Nat) (y : Int) (s : QS) (w : World) (hI : QInv B w s.gv s.got) : Calls Tryz.prog 200 #[.pointer (some ⟨B, 0, none⟩), .int .i64 y] (put w B s.cells) (QPost B w eU (runQ (hopsQ y) s)) := by
  rcases (show (y = 0) ∨ (y = 1) ∨ (y = 2) ∨ (y = 3) ∨ (¬ y = 0 ∧ ¬ y = 1 ∧ ¬ y = 2 ∧ ¬ y = 3) by omega) with hy | hy | hy | hy | ⟨h0, h1, h2, h3⟩
  · exact hops_0Q_ B y s w hI hy
  · exact hops_1Q_ B y s w hI hy
  · exact hops_2Q_ B y s w hI hy
  · exact hops_3Q_ B y s w hI hy
  · exact hops_4Q_ B y s w hI h0 h1 h2 h3
set_option maxHeartbeats 6000000 in
set_option maxRecDepth 20000 in
theorem stores_0Q_ (B : Nat) (y : Int) (s : QS) (w : World) (hI : QInv B w s.gv s.got) (hy : y = 0) : Calls Tryz.prog 203 #[.pointer (some ⟨B, 0, none⟩), .int .i64 y] (put w B s.cells) (QPost B w eU (runQ (storesQ y) s)) := by
  have hi := hI.inb
  have hb0 := Below.refl w.heap.size w
  go_enter Tryz.func203, Tryz.ntmps203
  all_goals (try go_wp2_with (first | (go_at_call 193; refine (wordQ_ B  _ _ (by assumption)).mono (QPost.thru hb0 (fun v s1 w1 hq hb0 hI hi => ?_))) | (go_at_call 97; refine (aQ_ B _ _ (by assumption)).mono ?_; rintro e w1 ⟨rfl, rfl⟩) | (go_at_call 105; refine (fQ_ B _ _ (by assumption)).mono ?_; rintro e w1 ⟨rfl, rfl⟩) | (go_at_call 172; refine (writeQ_ B _ _ _ _ (by assumption)).mono (QPost.thru hb0 (fun v s1 w1 hq hb0 hI hi => ?_))) | (go_at_call 177; refine (pLo_ _ _).mono ?_; rintro e w1 ⟨rfl, rfl⟩) | (go_at_call 111; refine (pHi_ _ _).mono ?_; rintro e w1 ⟨rfl, rfl⟩) | (go_at_call 180; refine (pWord_ _ _ _).mono ?_; rintro e w1 ⟨rfl, rfl⟩) | (go_at_call 114; refine (readQ_ B _ _ _ (by assumption)).mono (QPost.thru hb0 (fun v s1 w1 hq hb0 hI hi => ?_))) | (go_at_call 96; refine (putQ_ B _ _ _ _ (by assumption)).mono (QPost.thru hb0 (fun v s1 w1 hq hb0 hI hi => ?_))) | (go_at_call 57; refine (hlQ_ B _ _ (by assumption)).mono ?_; rintro e w1 ⟨rfl, hb⟩; obtain ⟨w2, rfl, hb2⟩ := unput hi hb; replace hb0 := bt hb0 hb2; replace hI := hI.kept hb2; have hi := hI.inb) | (go_at_call 202; refine (setHlQ_ B _ _ _ (by assumption)).mono (QPost.thru hb0 (fun v s1 w1 hq hb0 hI hi => ?_)))))
  all_goals first
    | (refine bodyPost_end (results_none rfl _ _ _) rfl (QPost.done (v := ()) ?_ rfl hb0 hI); simp [storesQ, atQ, *]; done)
    | (refine bodyPost_ret (results_none rfl _ _ _) rfl (QPost.done (v := ()) ?_ rfl hb0 hI); simp [storesQ, atQ, QC.hl', *]; done)
set_option maxHeartbeats 6000000 in
set_option maxRecDepth 20000 in
theorem stores_1Q_ (B : Nat) (y : Int) (s : QS) (w : World) (hI : QInv B w s.gv s.got) (hy : y = 1) : Calls Tryz.prog 203 #[.pointer (some ⟨B, 0, none⟩), .int .i64 y] (put w B s.cells) (QPost B w eU (runQ (storesQ y) s)) := by
  have hi := hI.inb
  have hb0 := Below.refl w.heap.size w
  go_enter Tryz.func203, Tryz.ntmps203
  all_goals (try go_wp2_with (first | (go_at_call 193; refine (wordQ_ B  _ _ (by assumption)).mono (QPost.thru hb0 (fun v s1 w1 hq hb0 hI hi => ?_))) | (go_at_call 97; refine (aQ_ B _ _ (by assumption)).mono ?_; rintro e w1 ⟨rfl, rfl⟩) | (go_at_call 105; refine (fQ_ B _ _ (by assumption)).mono ?_; rintro e w1 ⟨rfl, rfl⟩) | (go_at_call 172; refine (writeQ_ B _ _ _ _ (by assumption)).mono (QPost.thru hb0 (fun v s1 w1 hq hb0 hI hi => ?_))) | (go_at_call 177; refine (pLo_ _ _).mono ?_; rintro e w1 ⟨rfl, rfl⟩) | (go_at_call 111; refine (pHi_ _ _).mono ?_; rintro e w1 ⟨rfl, rfl⟩) | (go_at_call 180; refine (pWord_ _ _ _).mono ?_; rintro e w1 ⟨rfl, rfl⟩) | (go_at_call 114; refine (readQ_ B _ _ _ (by assumption)).mono (QPost.thru hb0 (fun v s1 w1 hq hb0 hI hi => ?_))) | (go_at_call 96; refine (putQ_ B _ _ _ _ (by assumption)).mono (QPost.thru hb0 (fun v s1 w1 hq hb0 hI hi => ?_))) | (go_at_call 57; refine (hlQ_ B _ _ (by assumption)).mono ?_; rintro e w1 ⟨rfl, hb⟩; obtain ⟨w2, rfl, hb2⟩ := unput hi hb; replace hb0 := bt hb0 hb2; replace hI := hI.kept hb2; have hi := hI.inb) | (go_at_call 202; refine (setHlQ_ B _ _ _ (by assumption)).mono (QPost.thru hb0 (fun v s1 w1 hq hb0 hI hi => ?_)))))
  all_goals first
    | (refine bodyPost_end (results_none rfl _ _ _) rfl (QPost.done (v := ()) ?_ rfl hb0 hI); simp [storesQ, atQ, *]; done)
    | (refine bodyPost_ret (results_none rfl _ _ _) rfl (QPost.done (v := ()) ?_ rfl hb0 hI); simp [storesQ, atQ, QC.hl', *]; done)
set_option maxHeartbeats 6000000 in
set_option maxRecDepth 20000 in
theorem stores_2Q_ (B : Nat) (y : Int) (s : QS) (w : World) (hI : QInv B w s.gv s.got) (hy : y = 2) : Calls Tryz.prog 203 #[.pointer (some ⟨B, 0, none⟩), .int .i64 y] (put w B s.cells) (QPost B w eU (runQ (storesQ y) s)) := by
  have hi := hI.inb
  have hb0 := Below.refl w.heap.size w
  go_enter Tryz.func203, Tryz.ntmps203
  all_goals (try go_wp2_with (first | (go_at_call 193; refine (wordQ_ B  _ _ (by assumption)).mono (QPost.thru hb0 (fun v s1 w1 hq hb0 hI hi => ?_))) | (go_at_call 97; refine (aQ_ B _ _ (by assumption)).mono ?_; rintro e w1 ⟨rfl, rfl⟩) | (go_at_call 105; refine (fQ_ B _ _ (by assumption)).mono ?_; rintro e w1 ⟨rfl, rfl⟩) | (go_at_call 172; refine (writeQ_ B _ _ _ _ (by assumption)).mono (QPost.thru hb0 (fun v s1 w1 hq hb0 hI hi => ?_))) | (go_at_call 177; refine (pLo_ _ _).mono ?_; rintro e w1 ⟨rfl, rfl⟩) | (go_at_call 111; refine (pHi_ _ _).mono ?_; rintro e w1 ⟨rfl, rfl⟩) | (go_at_call 180; refine (pWord_ _ _ _).mono ?_; rintro e w1 ⟨rfl, rfl⟩) | (go_at_call 114; refine (readQ_ B _ _ _ (by assumption)).mono (QPost.thru hb0 (fun v s1 w1 hq hb0 hI hi => ?_))) | (go_at_call 96; refine (putQ_ B _ _ _ _ (by assumption)).mono (QPost.thru hb0 (fun v s1 w1 hq hb0 hI hi => ?_))) | (go_at_call 57; refine (hlQ_ B _ _ (by assumption)).mono ?_; rintro e w1 ⟨rfl, hb⟩; obtain ⟨w2, rfl, hb2⟩ := unput hi hb; replace hb0 := bt hb0 hb2; replace hI := hI.kept hb2; have hi := hI.inb) | (go_at_call 202; refine (setHlQ_ B _ _ _ (by assumption)).mono (QPost.thru hb0 (fun v s1 w1 hq hb0 hI hi => ?_)))))
  all_goals first
    | (refine bodyPost_end (results_none rfl _ _ _) rfl (QPost.done (v := ()) ?_ rfl hb0 hI); simp [storesQ, atQ, *]; done)
    | (refine bodyPost_ret (results_none rfl _ _ _) rfl (QPost.done (v := ()) ?_ rfl hb0 hI); simp [storesQ, atQ, QC.hl', *]; done)
set_option maxHeartbeats 6000000 in
set_option maxRecDepth 20000 in
theorem stores_3Q_ (B : Nat) (y : Int) (s : QS) (w : World) (hI : QInv B w s.gv s.got) (hy : y = 3) : Calls Tryz.prog 203 #[.pointer (some ⟨B, 0, none⟩), .int .i64 y] (put w B s.cells) (QPost B w eU (runQ (storesQ y) s)) := by
  have hi := hI.inb
  have hb0 := Below.refl w.heap.size w
  go_enter Tryz.func203, Tryz.ntmps203
  all_goals (try go_wp2_with (first | (go_at_call 193; refine (wordQ_ B  _ _ (by assumption)).mono (QPost.thru hb0 (fun v s1 w1 hq hb0 hI hi => ?_))) | (go_at_call 97; refine (aQ_ B _ _ (by assumption)).mono ?_; rintro e w1 ⟨rfl, rfl⟩) | (go_at_call 105; refine (fQ_ B _ _ (by assumption)).mono ?_; rintro e w1 ⟨rfl, rfl⟩) | (go_at_call 172; refine (writeQ_ B _ _ _ _ (by assumption)).mono (QPost.thru hb0 (fun v s1 w1 hq hb0 hI hi => ?_))) | (go_at_call 177; refine (pLo_ _ _).mono ?_; rintro e w1 ⟨rfl, rfl⟩) | (go_at_call 111; refine (pHi_ _ _).mono ?_; rintro e w1 ⟨rfl, rfl⟩) | (go_at_call 180; refine (pWord_ _ _ _).mono ?_; rintro e w1 ⟨rfl, rfl⟩) | (go_at_call 114; refine (readQ_ B _ _ _ (by assumption)).mono (QPost.thru hb0 (fun v s1 w1 hq hb0 hI hi => ?_))) | (go_at_call 96; refine (putQ_ B _ _ _ _ (by assumption)).mono (QPost.thru hb0 (fun v s1 w1 hq hb0 hI hi => ?_))) | (go_at_call 57; refine (hlQ_ B _ _ (by assumption)).mono ?_; rintro e w1 ⟨rfl, hb⟩; obtain ⟨w2, rfl, hb2⟩ := unput hi hb; replace hb0 := bt hb0 hb2; replace hI := hI.kept hb2; have hi := hI.inb) | (go_at_call 202; refine (setHlQ_ B _ _ _ (by assumption)).mono (QPost.thru hb0 (fun v s1 w1 hq hb0 hI hi => ?_)))))
  all_goals first
    | (refine bodyPost_end (results_none rfl _ _ _) rfl (QPost.done (v := ()) ?_ rfl hb0 hI); simp [storesQ, atQ, *]; done)
    | (refine bodyPost_ret (results_none rfl _ _ _) rfl (QPost.done (v := ()) ?_ rfl hb0 hI); simp [storesQ, atQ, QC.hl', *]; done)
set_option maxHeartbeats 6000000 in
set_option maxRecDepth 20000 in
theorem stores_4Q_ (B : Nat) (y : Int) (s : QS) (w : World) (hI : QInv B w s.gv s.got) (hy : y = 4) : Calls Tryz.prog 203 #[.pointer (some ⟨B, 0, none⟩), .int .i64 y] (put w B s.cells) (QPost B w eU (runQ (storesQ y) s)) := by
  have hi := hI.inb
  have hb0 := Below.refl w.heap.size w
  go_enter Tryz.func203, Tryz.ntmps203
  all_goals (try go_wp2_with (first | (go_at_call 193; refine (wordQ_ B  _ _ (by assumption)).mono (QPost.thru hb0 (fun v s1 w1 hq hb0 hI hi => ?_))) | (go_at_call 97; refine (aQ_ B _ _ (by assumption)).mono ?_; rintro e w1 ⟨rfl, rfl⟩) | (go_at_call 105; refine (fQ_ B _ _ (by assumption)).mono ?_; rintro e w1 ⟨rfl, rfl⟩) | (go_at_call 172; refine (writeQ_ B _ _ _ _ (by assumption)).mono (QPost.thru hb0 (fun v s1 w1 hq hb0 hI hi => ?_))) | (go_at_call 177; refine (pLo_ _ _).mono ?_; rintro e w1 ⟨rfl, rfl⟩) | (go_at_call 111; refine (pHi_ _ _).mono ?_; rintro e w1 ⟨rfl, rfl⟩) | (go_at_call 180; refine (pWord_ _ _ _).mono ?_; rintro e w1 ⟨rfl, rfl⟩) | (go_at_call 114; refine (readQ_ B _ _ _ (by assumption)).mono (QPost.thru hb0 (fun v s1 w1 hq hb0 hI hi => ?_))) | (go_at_call 96; refine (putQ_ B _ _ _ _ (by assumption)).mono (QPost.thru hb0 (fun v s1 w1 hq hb0 hI hi => ?_))) | (go_at_call 57; refine (hlQ_ B _ _ (by assumption)).mono ?_; rintro e w1 ⟨rfl, hb⟩; obtain ⟨w2, rfl, hb2⟩ := unput hi hb; replace hb0 := bt hb0 hb2; replace hI := hI.kept hb2; have hi := hI.inb) | (go_at_call 202; refine (setHlQ_ B _ _ _ (by assumption)).mono (QPost.thru hb0 (fun v s1 w1 hq hb0 hI hi => ?_)))))
  all_goals first
    | (refine bodyPost_end (results_none rfl _ _ _) rfl (QPost.done (v := ()) ?_ rfl hb0 hI); simp [storesQ, atQ, QC.hl', *]; done)
    | (refine bodyPost_ret (results_none rfl _ _ _) rfl (QPost.done (v := ()) ?_ rfl hb0 hI); simp [storesQ, atQ, QC.hl', *]; done)
set_option maxHeartbeats 6000000 in
set_option maxRecDepth 20000 in
theorem stores_5Q_ (B : Nat) (y : Int) (s : QS) (w : World) (hI : QInv B w s.gv s.got) (hy : y = 5) : Calls Tryz.prog 203 #[.pointer (some ⟨B, 0, none⟩), .int .i64 y] (put w B s.cells) (QPost B w eU (runQ (storesQ y) s)) := by
  have hi := hI.inb
  have hb0 := Below.refl w.heap.size w
  go_enter Tryz.func203, Tryz.ntmps203
  all_goals (try go_wp2_with (first | (go_at_call 193; refine (wordQ_ B  _ _ (by assumption)).mono (QPost.thru hb0 (fun v s1 w1 hq hb0 hI hi => ?_))) | (go_at_call 97; refine (aQ_ B _ _ (by assumption)).mono ?_; rintro e w1 ⟨rfl, rfl⟩) | (go_at_call 105; refine (fQ_ B _ _ (by assumption)).mono ?_; rintro e w1 ⟨rfl, rfl⟩) | (go_at_call 172; refine (writeQ_ B _ _ _ _ (by assumption)).mono (QPost.thru hb0 (fun v s1 w1 hq hb0 hI hi => ?_))) | (go_at_call 177; refine (pLo_ _ _).mono ?_; rintro e w1 ⟨rfl, rfl⟩) | (go_at_call 111; refine (pHi_ _ _).mono ?_; rintro e w1 ⟨rfl, rfl⟩) | (go_at_call 180; refine (pWord_ _ _ _).mono ?_; rintro e w1 ⟨rfl, rfl⟩) | (go_at_call 114; refine (readQ_ B _ _ _ (by assumption)).mono (QPost.thru hb0 (fun v s1 w1 hq hb0 hI hi => ?_))) | (go_at_call 96; refine (putQ_ B _ _ _ _ (by assumption)).mono (QPost.thru hb0 (fun v s1 w1 hq hb0 hI hi => ?_))) | (go_at_call 57; refine (hlQ_ B _ _ (by assumption)).mono ?_; rintro e w1 ⟨rfl, hb⟩; obtain ⟨w2, rfl, hb2⟩ := unput hi hb; replace hb0 := bt hb0 hb2; replace hI := hI.kept hb2; have hi := hI.inb) | (go_at_call 202; refine (setHlQ_ B _ _ _ (by assumption)).mono (QPost.thru hb0 (fun v s1 w1 hq hb0 hI hi => ?_)))))
  all_goals first
    | (refine bodyPost_end (results_none rfl _ _ _) rfl (QPost.done (v := ()) ?_ rfl hb0 hI); simp [storesQ, atQ, *]; done)
    | (refine bodyPost_ret (results_none rfl _ _ _) rfl (QPost.done (v := ()) ?_ rfl hb0 hI); simp [storesQ, atQ, QC.hl', *]; done)
set_option maxHeartbeats 6000000 in
set_option maxRecDepth 20000 in
theorem stores_6Q_ (B : Nat) (y : Int) (s : QS) (w : World) (hI : QInv B w s.gv s.got) (hy : y = 6) : Calls Tryz.prog 203 #[.pointer (some ⟨B, 0, none⟩), .int .i64 y] (put w B s.cells) (QPost B w eU (runQ (storesQ y) s)) := by
  have hi := hI.inb
  have hb0 := Below.refl w.heap.size w
  go_enter Tryz.func203, Tryz.ntmps203
  all_goals (try go_wp2_with (first | (go_at_call 193; refine (wordQ_ B  _ _ (by assumption)).mono (QPost.thru hb0 (fun v s1 w1 hq hb0 hI hi => ?_))) | (go_at_call 97; refine (aQ_ B _ _ (by assumption)).mono ?_; rintro e w1 ⟨rfl, rfl⟩) | (go_at_call 105; refine (fQ_ B _ _ (by assumption)).mono ?_; rintro e w1 ⟨rfl, rfl⟩) | (go_at_call 172; refine (writeQ_ B _ _ _ _ (by assumption)).mono (QPost.thru hb0 (fun v s1 w1 hq hb0 hI hi => ?_))) | (go_at_call 177; refine (pLo_ _ _).mono ?_; rintro e w1 ⟨rfl, rfl⟩) | (go_at_call 111; refine (pHi_ _ _).mono ?_; rintro e w1 ⟨rfl, rfl⟩) | (go_at_call 180; refine (pWord_ _ _ _).mono ?_; rintro e w1 ⟨rfl, rfl⟩) | (go_at_call 114; refine (readQ_ B _ _ _ (by assumption)).mono (QPost.thru hb0 (fun v s1 w1 hq hb0 hI hi => ?_))) | (go_at_call 96; refine (putQ_ B _ _ _ _ (by assumption)).mono (QPost.thru hb0 (fun v s1 w1 hq hb0 hI hi => ?_))) | (go_at_call 57; refine (hlQ_ B _ _ (by assumption)).mono ?_; rintro e w1 ⟨rfl, hb⟩; obtain ⟨w2, rfl, hb2⟩ := unput hi hb; replace hb0 := bt hb0 hb2; replace hI := hI.kept hb2; have hi := hI.inb) | (go_at_call 202; refine (setHlQ_ B _ _ _ (by assumption)).mono (QPost.thru hb0 (fun v s1 w1 hq hb0 hI hi => ?_)))))
  all_goals first
    | (refine bodyPost_end (results_none rfl _ _ _) rfl (QPost.done (v := ()) ?_ rfl hb0 hI); simp [storesQ, atQ, *]; done)
    | (refine bodyPost_ret (results_none rfl _ _ _) rfl (QPost.done (v := ()) ?_ rfl hb0 hI); simp [storesQ, atQ, QC.hl', *]; done)
set_option maxHeartbeats 6000000 in
set_option maxRecDepth 20000 in
theorem stores_7Q_ (B : Nat) (y : Int) (s : QS) (w : World) (hI : QInv B w s.gv s.got) (hy : y = 7) : Calls Tryz.prog 203 #[.pointer (some ⟨B, 0, none⟩), .int .i64 y] (put w B s.cells) (QPost B w eU (runQ (storesQ y) s)) := by
  have hi := hI.inb
  have hb0 := Below.refl w.heap.size w
  go_enter Tryz.func203, Tryz.ntmps203
  all_goals (try go_wp2_with (first | (go_at_call 193; refine (wordQ_ B  _ _ (by assumption)).mono (QPost.thru hb0 (fun v s1 w1 hq hb0 hI hi => ?_))) | (go_at_call 97; refine (aQ_ B _ _ (by assumption)).mono ?_; rintro e w1 ⟨rfl, rfl⟩) | (go_at_call 105; refine (fQ_ B _ _ (by assumption)).mono ?_; rintro e w1 ⟨rfl, rfl⟩) | (go_at_call 172; refine (writeQ_ B _ _ _ _ (by assumption)).mono (QPost.thru hb0 (fun v s1 w1 hq hb0 hI hi => ?_))) | (go_at_call 177; refine (pLo_ _ _).mono ?_; rintro e w1 ⟨rfl, rfl⟩) | (go_at_call 111; refine (pHi_ _ _).mono ?_; rintro e w1 ⟨rfl, rfl⟩) | (go_at_call 180; refine (pWord_ _ _ _).mono ?_; rintro e w1 ⟨rfl, rfl⟩) | (go_at_call 114; refine (readQ_ B _ _ _ (by assumption)).mono (QPost.thru hb0 (fun v s1 w1 hq hb0 hI hi => ?_))) | (go_at_call 96; refine (putQ_ B _ _ _ _ (by assumption)).mono (QPost.thru hb0 (fun v s1 w1 hq hb0 hI hi => ?_))) | (go_at_call 57; refine (hlQ_ B _ _ (by assumption)).mono ?_; rintro e w1 ⟨rfl, hb⟩; obtain ⟨w2, rfl, hb2⟩ := unput hi hb; replace hb0 := bt hb0 hb2; replace hI := hI.kept hb2; have hi := hI.inb) | (go_at_call 202; refine (setHlQ_ B _ _ _ (by assumption)).mono (QPost.thru hb0 (fun v s1 w1 hq hb0 hI hi => ?_)))))
  all_goals first
    | (refine bodyPost_end (results_none rfl _ _ _) rfl (QPost.done (v := ()) ?_ rfl hb0 hI); simp [storesQ, atQ, *]; done)
    | (refine bodyPost_ret (results_none rfl _ _ _) rfl (QPost.done (v := ()) ?_ rfl hb0 hI); simp [storesQ, atQ, QC.hl', *]; done)
theorem storesQ_ (B : Nat) (y : Int) (s : QS) (w : World) (hI : QInv B w s.gv s.got) (y0 : 0 ≤ y) (y1 : y ≤ 7) : Calls Tryz.prog 203 #[.pointer (some ⟨B, 0, none⟩), .int .i64 y] (put w B s.cells) (QPost B w eU (runQ (storesQ y) s)) := by
  rcases (show (y = 0) ∨ (y = 1) ∨ (y = 2) ∨ (y = 3) ∨ (y = 4) ∨ (y = 5) ∨ (y = 6) ∨ (y = 7) by omega) with hy | hy | hy | hy | hy | hy | hy | hy
  · exact stores_0Q_ B y s w hI hy
  · exact stores_1Q_ B y s w hI hy
  · exact stores_2Q_ B y s w hI hy
  · exact stores_3Q_ B y s w hI hy
  · exact stores_4Q_ B y s w hI hy
  · exact stores_5Q_ B y s w hI hy
  · exact stores_6Q_ B y s w hI hy
  · exact stores_7Q_ B y s w hI hy
set_option maxHeartbeats 4000000 in
set_option maxRecDepth 20000 in
theorem turnQ_ (B : Nat) (y : Int) (s : QS) (w : World) (hI : QInv B w s.gv s.got) (y0 : 0 ≤ y) (y1 : y ≤ 7) : Calls Tryz.prog 205 #[.pointer (some ⟨B, 0, none⟩), .int .i64 y] (put w B s.cells) (QPost B w eU (runQ (turnQ y) s)) := by
  have hi := hI.inb
  have hb0 := Below.refl w.heap.size w
  rcases (show y = 4 ∨ y = 5 ∨ y = 6 ∨ y = 7 ∨ (¬ y = 4 ∧ ¬ y = 5 ∧ ¬ y = 6 ∧ ¬ y = 7) by omega) with rfl | rfl | rfl | rfl | ⟨h0, h1, h2, h3⟩
  all_goals
    go_enter Tryz.func205, Tryz.ntmps205
    all_goals (try go_wp2_with (first | (go_at_call 97; refine (aQ_ B _ _ (by assumption)).mono ?_; rintro e w1 ⟨rfl, rfl⟩) | (go_at_call 105; refine (fQ_ B _ _ (by assumption)).mono ?_; rintro e w1 ⟨rfl, rfl⟩) | (go_at_call 253; refine (pDaa_ _ _ _).mono ?_; rintro e w1 ⟨rfl, hb⟩; obtain ⟨w2, rfl, hb2⟩ := unput hi hb; replace hb0 := bt hb0 hb2; replace hI := hI.kept hb2; have hi := hI.inb) | (go_at_call 254; refine (pCpl_ _ _ _).mono ?_; rintro e w1 ⟨rfl, hb⟩; obtain ⟨w2, rfl, hb2⟩ := unput hi hb; replace hb0 := bt hb0 hb2; replace hI := hI.kept hb2; have hi := hI.inb) | (go_at_call 255; refine (pScf_ _ _ _).mono ?_; rintro e w1 ⟨rfl, hb⟩; obtain ⟨w2, rfl, hb2⟩ := unput hi hb; replace hb0 := bt hb0 hb2; replace hI := hI.kept hb2; have hi := hI.inb) | (go_at_call 256; refine (pCcf_ _ _ _).mono ?_; rintro e w1 ⟨rfl, hb⟩; obtain ⟨w2, rfl, hb2⟩ := unput hi hb; replace hb0 := bt hb0 hb2; replace hI := hI.kept hb2; have hi := hI.inb) | (go_at_call 257; refine (pAcc_ _ _ _ (by omega) (by omega) _).mono ?_; rintro e w1 ⟨rfl, hb⟩; obtain ⟨w2, rfl, hb2⟩ := unput hi hb; replace hb0 := bt hb0 hb2; replace hI := hI.kept hb2; have hi := hI.inb) | (go_at_call 96; refine (putQ_ B _ _ _ _ (by assumption)).mono (QPost.thru hb0 (fun v s1 w1 hq hb0 hI hi => ?_)))))
    all_goals first
      | (refine bodyPost_end (results_none rfl _ _ _) rfl (QPost.done (v := ()) ?_ rfl hb0 hI); simp [turnQ, turnF, *]; done)
      | (refine bodyPost_ret (results_none rfl _ _ _) rfl (QPost.done (v := ()) ?_ rfl hb0 hI); simp [turnQ, turnF, QC.hl', *]; done)
set_option maxHeartbeats 6000000 in
set_option maxRecDepth 20000 in
theorem step_0Q_ (B : Nat) (y : Int) (z : Int) (s : QS) (w : World) (hI : QInv B w s.gv s.got) (hy : y = 6) (hz : z = 5) : Calls Tryz.prog 204 #[.pointer (some ⟨B, 0, none⟩), .int .i64 y, .int .i64 z] (put w B s.cells) (QPost B w eU (runQ (stepQ y z) s)) := by
  have hi := hI.inb
  have hb0 := Below.refl w.heap.size w
  go_enter Tryz.func204, Tryz.ntmps204
  all_goals (try go_wp2_with (first | (go_at_call 102; refine (getQ_ B _ _ _ (by assumption)).mono (QPost.thru hb0 (fun v s1 w1 hq hb0 hI hi => ?_))) | (go_at_call 58; refine (statesQ_ B _ _ _ (by assumption)).mono (QPost.thru hb0 (fun v s1 w1 hq hb0 hI hi => ?_))) | (go_at_call 105; refine (fQ_ B _ _ (by assumption)).mono ?_; rintro e w1 ⟨rfl, rfl⟩) | (go_at_call 251; refine (pInc_ _ _ _).mono ?_; rintro e w1 ⟨rfl, hb⟩; obtain ⟨w2, rfl, hb2⟩ := unput hi hb; replace hb0 := bt hb0 hb2; replace hI := hI.kept hb2; have hi := hI.inb) | (go_at_call 252; refine (pDec_ _ _ _).mono ?_; rintro e w1 ⟨rfl, hb⟩; obtain ⟨w2, rfl, hb2⟩ := unput hi hb; replace hb0 := bt hb0 hb2; replace hI := hI.kept hb2; have hi := hI.inb) | (go_at_call 97; refine (aQ_ B _ _ (by assumption)).mono ?_; rintro e w1 ⟨rfl, rfl⟩) | (go_at_call 96; refine (putQ_ B _ _ _ _ (by assumption)).mono (QPost.thru hb0 (fun v s1 w1 hq hb0 hI hi => ?_))) | (go_at_call 101; refine (setQ_ B _ _ _ _ (by assumption)).mono (QPost.thru hb0 (fun v s1 w1 hq hb0 hI hi => ?_)))))
  all_goals first
    | (refine bodyPost_end (results_none rfl _ _ _) rfl (QPost.done (v := ()) ?_ rfl hb0 hI); simp [stepQ, *]; done)
    | (refine bodyPost_ret (results_none rfl _ _ _) rfl (QPost.done (v := ()) ?_ rfl hb0 hI); simp [stepQ, QC.hl', *]; done)
set_option maxHeartbeats 6000000 in
set_option maxRecDepth 20000 in
theorem step_1Q_ (B : Nat) (y : Int) (z : Int) (s : QS) (w : World) (hI : QInv B w s.gv s.got) (hy : y = 6) (hz : ¬ z = 5) : Calls Tryz.prog 204 #[.pointer (some ⟨B, 0, none⟩), .int .i64 y, .int .i64 z] (put w B s.cells) (QPost B w eU (runQ (stepQ y z) s)) := by
  have hi := hI.inb
  have hb0 := Below.refl w.heap.size w
  go_enter Tryz.func204, Tryz.ntmps204
  all_goals (try go_wp2_with (first | (go_at_call 102; refine (getQ_ B _ _ _ (by assumption)).mono (QPost.thru hb0 (fun v s1 w1 hq hb0 hI hi => ?_))) | (go_at_call 58; refine (statesQ_ B _ _ _ (by assumption)).mono (QPost.thru hb0 (fun v s1 w1 hq hb0 hI hi => ?_))) | (go_at_call 105; refine (fQ_ B _ _ (by assumption)).mono ?_; rintro e w1 ⟨rfl, rfl⟩) | (go_at_call 251; refine (pInc_ _ _ _).mono ?_; rintro e w1 ⟨rfl, hb⟩; obtain ⟨w2, rfl, hb2⟩ := unput hi hb; replace hb0 := bt hb0 hb2; replace hI := hI.kept hb2; have hi := hI.inb) | (go_at_call 252; refine (pDec_ _ _ _).mono ?_; rintro e w1 ⟨rfl, hb⟩; obtain ⟨w2, rfl, hb2⟩ := unput hi hb; replace hb0 := bt hb0 hb2; replace hI := hI.kept hb2; have hi := hI.inb) | (go_at_call 97; refine (aQ_ B _ _ (by assumption)).mono ?_; rintro e w1 ⟨rfl, rfl⟩) | (go_at_call 96; refine (putQ_ B _ _ _ _ (by assumption)).mono (QPost.thru hb0 (fun v s1 w1 hq hb0 hI hi => ?_))) | (go_at_call 101; refine (setQ_ B _ _ _ _ (by assumption)).mono (QPost.thru hb0 (fun v s1 w1 hq hb0 hI hi => ?_)))))
  all_goals first
    | (refine bodyPost_end (results_none rfl _ _ _) rfl (QPost.done (v := ()) ?_ rfl hb0 hI); simp [stepQ, *]; done)
    | (refine bodyPost_ret (results_none rfl _ _ _) rfl (QPost.done (v := ()) ?_ rfl hb0 hI); simp [stepQ, QC.hl', *]; done)
set_option maxHeartbeats 6000000 in
set_option maxRecDepth 20000 in
theorem step_2Q_ (B : Nat) (y : Int) (z : Int) (s : QS) (w : World) (hI : QInv B w s.gv s.got) (hy : ¬ y = 6) (hz : z = 5) : Calls Tryz.prog 204 #[.pointer (some ⟨B, 0, none⟩), .int .i64 y, .int .i64 z] (put w B s.cells) (QPost B w eU (runQ (stepQ y z) s)) := by
  have hi := hI.inb
  have hb0 := Below.refl w.heap.size w
  go_enter Tryz.func204, Tryz.ntmps204
  all_goals (try go_wp2_with (first | (go_at_call 102; refine (getQ_ B _ _ _ (by assumption)).mono (QPost.thru hb0 (fun v s1 w1 hq hb0 hI hi => ?_))) | (go_at_call 58; refine (statesQ_ B _ _ _ (by assumption)).mono (QPost.thru hb0 (fun v s1 w1 hq hb0 hI hi => ?_))) | (go_at_call 105; refine (fQ_ B _ _ (by assumption)).mono ?_; rintro e w1 ⟨rfl, rfl⟩) | (go_at_call 251; refine (pInc_ _ _ _).mono ?_; rintro e w1 ⟨rfl, hb⟩; obtain ⟨w2, rfl, hb2⟩ := unput hi hb; replace hb0 := bt hb0 hb2; replace hI := hI.kept hb2; have hi := hI.inb) | (go_at_call 252; refine (pDec_ _ _ _).mono ?_; rintro e w1 ⟨rfl, hb⟩; obtain ⟨w2, rfl, hb2⟩ := unput hi hb; replace hb0 := bt hb0 hb2; replace hI := hI.kept hb2; have hi := hI.inb) | (go_at_call 97; refine (aQ_ B _ _ (by assumption)).mono ?_; rintro e w1 ⟨rfl, rfl⟩) | (go_at_call 96; refine (putQ_ B _ _ _ _ (by assumption)).mono (QPost.thru hb0 (fun v s1 w1 hq hb0 hI hi => ?_))) | (go_at_call 101; refine (setQ_ B _ _ _ _ (by assumption)).mono (QPost.thru hb0 (fun v s1 w1 hq hb0 hI hi => ?_)))))
  all_goals first
    | (refine bodyPost_end (results_none rfl _ _ _) rfl (QPost.done (v := ()) ?_ rfl hb0 hI); simp [stepQ, *]; done)
    | (refine bodyPost_ret (results_none rfl _ _ _) rfl (QPost.done (v := ()) ?_ rfl hb0 hI); simp [stepQ, QC.hl', *]; done)
set_option maxHeartbeats 6000000 in
set_option maxRecDepth 20000 in
theorem step_3Q_ (B : Nat) (y : Int) (z : Int) (s : QS) (w : World) (hI : QInv B w s.gv s.got) (hy : ¬ y = 6) (hz : ¬ z = 5) : Calls Tryz.prog 204 #[.pointer (some ⟨B, 0, none⟩), .int .i64 y, .int .i64 z] (put w B s.cells) (QPost B w eU (runQ (stepQ y z) s)) := by
  have hi := hI.inb
  have hb0 := Below.refl w.heap.size w
  go_enter Tryz.func204, Tryz.ntmps204
  all_goals (try go_wp2_with (first | (go_at_call 102; refine (getQ_ B _ _ _ (by assumption)).mono (QPost.thru hb0 (fun v s1 w1 hq hb0 hI hi => ?_))) | (go_at_call 58; refine (statesQ_ B _ _ _ (by assumption)).mono (QPost.thru hb0 (fun v s1 w1 hq hb0 hI hi => ?_))) | (go_at_call 105; refine (fQ_ B _ _ (by assumption)).mono ?_; rintro e w1 ⟨rfl, rfl⟩) | (go_at_call 251; refine (pInc_ _ _ _).mono ?_; rintro e w1 ⟨rfl, hb⟩; obtain ⟨w2, rfl, hb2⟩ := unput hi hb; replace hb0 := bt hb0 hb2; replace hI := hI.kept hb2; have hi := hI.inb) | (go_at_call 252; refine (pDec_ _ _ _).mono ?_; rintro e w1 ⟨rfl, hb⟩; obtain ⟨w2, rfl, hb2⟩ := unput hi hb; replace hb0 := bt hb0 hb2; replace hI := hI.kept hb2; have hi := hI.inb) | (go_at_call 97; refine (aQ_ B _ _ (by assumption)).mono ?_; rintro e w1 ⟨rfl, rfl⟩) | (go_at_call 96; refine (putQ_ B _ _ _ _ (by assumption)).mono (QPost.thru hb0 (fun v s1 w1 hq hb0 hI hi => ?_))) | (go_at_call 101; refine (setQ_ B _ _ _ _ (by assumption)).mono (QPost.thru hb0 (fun v s1 w1 hq hb0 hI hi => ?_)))))
  all_goals first
    | (refine bodyPost_end (results_none rfl _ _ _) rfl (QPost.done (v := ()) ?_ rfl hb0 hI); simp [stepQ, *]; done)
    | (refine bodyPost_ret (results_none rfl _ _ _) rfl (QPost.done (v := ()) ?_ rfl hb0 hI); simp [stepQ, QC.hl', *]; done)
theorem stepQ_ (B : Nat) (y : Int) (z : Int) (s : QS) (w : World) (hI : QInv B w s.gv s.got) : Calls Tryz.prog 204 #[.pointer (some ⟨B, 0, none⟩), .int .i64 y, .int .i64 z] (put w B s.cells) (QPost B w eU (runQ (stepQ y z) s)) := by
  rcases (show (y = 6 ∧ z = 5) ∨ (y = 6 ∧ ¬ z = 5) ∨ (¬ y = 6 ∧ z = 5) ∨ (¬ y = 6 ∧ ¬ z = 5) by omega) with ⟨hy, hz⟩ | ⟨hy, hz⟩ | ⟨hy, hz⟩ | ⟨hy, hz⟩
  · exact step_0Q_ B y z s w hI hy hz
  · exact step_1Q_ B y z s w hI hy hz
  · exact step_2Q_ B y z s w hI hy hz
  · exact step_3Q_ B y z s w hI hy hz
end Go.Proofs.YtnaampdpkegacaaGreatDoor
