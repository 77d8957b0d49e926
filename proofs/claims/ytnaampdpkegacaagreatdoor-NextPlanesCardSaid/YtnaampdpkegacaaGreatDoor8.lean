/-
  Contract of next's bit. A helper of the claim that stands beside it. (Printed by a program of wip/.)
-/
import Derived.Test.YtnaampdpkegacaaGreatDoor3
namespace Go.Proofs.YtnaampdpkegacaaGreatDoor
open Go.RowKit

/-- The byte is set, and where there is a displacement a register too. -/
def bitEnd (far : Bool) (k z : Int) (b : U8) : PM Unit := do
  setS k b
  if far && z != 6 then do
    PM.mod fun s => { s with plane := 0 }
    setS z b
  else pure ()
def bitS : PM Unit := do
  let s ← PM.get
  if s.plane = 1 ∧ ¬ s.z = 6 then do
    let b ← getS s.z
    let t ← PM.get
    if s.x = 0 then do
      flagS (oDoF s.y b t.r.af.lo)
      bitEnd false s.z s.z (oDo s.y b t.r.af.lo)
    else if s.x = 1 then flagS (oBit s.y b b t.r.af.lo)
    else bitEnd false s.z s.z (oWith b s.y (s.x == 3))
  else do
    let b ← getS 6
    statesS 1
    let t ← PM.get
    if s.x = 0 then do
      flagS (oDoF s.y b t.r.af.lo)
      bitEnd (s.plane != 1) 6 s.z (oDo s.y b t.r.af.lo)
    else if s.x = 1 then flagS (oBit s.y b t.r.wz.hi t.r.af.lo)
    else bitEnd (s.plane != 1) 6 s.z (oWith b s.y (s.x == 3))
set_option maxHeartbeats 6000000 in
set_option maxRecDepth 8000 in
theorem bit_0W_ (B : Nat) (s : PS) (w : World) (hI : Inv B w s.gv s.got) (hp : s.plane = 1) (hz : s.z = 6) (hx : s.x = 0) : Calls Tryz.prog 44 #[.pointer (some ⟨B, 0, none⟩)] (put w B s.cells) (Post B w eU (run bitS s)) := by
  have hi := hI.inb
  have hb0 := Below.refl w.heap.size w
  go_enter Tryz.func44, Tryz.ntmps44
  all_goals (try go_wp2_with (first | (go_at_call 65; refine (getW_ B _ _ _ (by assumption)).mono (Post.thruF (fr_getS _) hb0 (fun c s1 w1 hq hb0 hi => ?_) (fun v s1 w1 hq f1 f2 f3 f4 f5 f6 f7 hb0 hI hi => ?_))) | (go_at_call 47; refine (statesW_ B _ _ _ (by assumption)).mono (Post.thruF (fr_states _) hb0 (fun c s1 w1 hq hb0 hi => ?_) (fun v s1 w1 hq f1 f2 f3 f4 f5 f6 f7 hb0 hI hi => ?_))) | (go_at_call 66; refine (hi_ _ _).mono ?_; rintro e w1 ⟨rfl, rfl⟩)))
  all_goals (try (
        replace hb0 := bt hb0 (Below.refl _ _).drew
        replace hI := Inv.drew hI
        replace hi := Inv.inb hI
        go_region_with (first | (go_at_call 67; refine (oDo_ _ _ _ _).mono ?_; rintro e w1 ⟨rfl, hb⟩; obtain ⟨w2, rfl, hb2⟩ := unput hi hb; replace hb0 := bt hb0 hb2; replace hI := hI.kept hb2; have hi := hI.inb) | (go_at_call 68; refine (fW_ B _ _ (by assumption)).mono ?_; rintro e w1 ⟨rfl, rfl⟩) | (go_at_call 70; refine (oBit_ _ _ _ _ _).mono ?_; rintro e w1 ⟨rfl, rfl⟩) | (go_at_call 69; refine (flagW_ B _ _ _ (by assumption)).mono (Post.thruF (fr_flag _) hb0 (fun c s1 w1 hq hb0 hi => ?_) (fun v s1 w1 hq f1 f2 f3 f4 f5 f6 f7 hb0 hI hi => ?_)); (· exact ⟨rfl, Post.err _ (by simp [bitS, *]) hb0 hi⟩)) | (go_at_call 71; refine (oWith_ _ _ _ _).mono ?_; rintro e w1 ⟨rfl, rfl⟩))))
  all_goals (try go_wp2_with (first | (go_at_call 69; refine (flagW_ B _ _ _ (by assumption)).mono (Post.thruF (fr_flag _) hb0 (fun c s1 w1 hq hb0 hi => ?_) (fun v s1 w1 hq f1 f2 f3 f4 f5 f6 f7 hb0 hI hi => ?_))) | (go_at_call 72; refine (setW_ B _ _ _ _ (by assumption)).mono (Post.thruF (fr_set _ _) hb0 (fun c s1 w1 hq hb0 hi => ?_) (fun v s1 w1 hq f1 f2 f3 f4 f5 f6 f7 hb0 hI hi => ?_)))))
  all_goals (try go_wp2_with (first | (go_at_call 72; refine (setW_ B _ _ _ _ (by assumption)).mono (Post.thruF (fr_set _ _) hb0 (fun c s1 w1 hq hb0 hi => ?_) (fun v s1 w1 hq f1 f2 f3 f4 f5 f6 f7 hb0 hI hi => ?_)))))
  all_goals first
    | (refine ⟨rfl, Post.err _ ?_ hb0 hi⟩; simp [bitS, bitEnd, *]; done)
    | (refine bodyPost_end (results_none rfl _ _ _) rfl (Post.done (v := ()) ?_ rfl hb0 hI); simp [bitS, bitEnd, *]; done)
    | (refine bodyPost_ret (results_none rfl _ _ _) rfl (Post.done (v := ()) ?_ rfl hb0 hI); simp [bitS, bitEnd, *]; done)
set_option maxHeartbeats 6000000 in
set_option maxRecDepth 8000 in
theorem bit_1W_ (B : Nat) (s : PS) (w : World) (hI : Inv B w s.gv s.got) (hp : s.plane = 1) (hz : s.z = 6) (hx : s.x = 1) : Calls Tryz.prog 44 #[.pointer (some ⟨B, 0, none⟩)] (put w B s.cells) (Post B w eU (run bitS s)) := by
  have hi := hI.inb
  have hb0 := Below.refl w.heap.size w
  go_enter Tryz.func44, Tryz.ntmps44
  all_goals (try go_wp2_with (first | (go_at_call 65; refine (getW_ B _ _ _ (by assumption)).mono (Post.thruF (fr_getS _) hb0 (fun c s1 w1 hq hb0 hi => ?_) (fun v s1 w1 hq f1 f2 f3 f4 f5 f6 f7 hb0 hI hi => ?_))) | (go_at_call 47; refine (statesW_ B _ _ _ (by assumption)).mono (Post.thruF (fr_states _) hb0 (fun c s1 w1 hq hb0 hi => ?_) (fun v s1 w1 hq f1 f2 f3 f4 f5 f6 f7 hb0 hI hi => ?_))) | (go_at_call 66; refine (hi_ _ _).mono ?_; rintro e w1 ⟨rfl, rfl⟩)))
  all_goals (try (
        replace hb0 := bt hb0 (Below.refl _ _).drew
        replace hI := Inv.drew hI
        replace hi := Inv.inb hI
        go_region_with (first | (go_at_call 67; refine (oDo_ _ _ _ _).mono ?_; rintro e w1 ⟨rfl, hb⟩; obtain ⟨w2, rfl, hb2⟩ := unput hi hb; replace hb0 := bt hb0 hb2; replace hI := hI.kept hb2; have hi := hI.inb) | (go_at_call 68; refine (fW_ B _ _ (by assumption)).mono ?_; rintro e w1 ⟨rfl, rfl⟩) | (go_at_call 70; refine (oBit_ _ _ _ _ _).mono ?_; rintro e w1 ⟨rfl, rfl⟩) | (go_at_call 69; refine (flagW_ B _ _ _ (by assumption)).mono (Post.thruF (fr_flag _) hb0 (fun c s1 w1 hq hb0 hi => ?_) (fun v s1 w1 hq f1 f2 f3 f4 f5 f6 f7 hb0 hI hi => ?_)); (· exact ⟨rfl, Post.err _ (by simp [bitS, *]) hb0 hi⟩)) | (go_at_call 71; refine (oWith_ _ _ _ _).mono ?_; rintro e w1 ⟨rfl, rfl⟩))))
  all_goals (try go_wp2_with (first | (go_at_call 69; refine (flagW_ B _ _ _ (by assumption)).mono (Post.thruF (fr_flag _) hb0 (fun c s1 w1 hq hb0 hi => ?_) (fun v s1 w1 hq f1 f2 f3 f4 f5 f6 f7 hb0 hI hi => ?_))) | (go_at_call 72; refine (setW_ B _ _ _ _ (by assumption)).mono (Post.thruF (fr_set _ _) hb0 (fun c s1 w1 hq hb0 hi => ?_) (fun v s1 w1 hq f1 f2 f3 f4 f5 f6 f7 hb0 hI hi => ?_)))))
  all_goals (try go_wp2_with (first | (go_at_call 72; refine (setW_ B _ _ _ _ (by assumption)).mono (Post.thruF (fr_set _ _) hb0 (fun c s1 w1 hq hb0 hi => ?_) (fun v s1 w1 hq f1 f2 f3 f4 f5 f6 f7 hb0 hI hi => ?_)))))
  all_goals first
    | (refine ⟨rfl, Post.err _ ?_ hb0 hi⟩; simp [bitS, bitEnd, *]; done)
    | (refine bodyPost_end (results_none rfl _ _ _) rfl (Post.done (v := ()) ?_ rfl hb0 hI); simp [bitS, bitEnd, *]; done)
    | (refine bodyPost_ret (results_none rfl _ _ _) rfl (Post.done (v := ()) ?_ rfl hb0 hI); simp [bitS, bitEnd, *]; done)
set_option maxHeartbeats 6000000 in
set_option maxRecDepth 8000 in
theorem bit_2W_ (B : Nat) (s : PS) (w : World) (hI : Inv B w s.gv s.got) (hp : s.plane = 1) (hz : s.z = 6) (hx : ¬ s.x = 0) (hx1 : ¬ s.x = 1) : Calls Tryz.prog 44 #[.pointer (some ⟨B, 0, none⟩)] (put w B s.cells) (Post B w eU (run bitS s)) := by
  have hi := hI.inb
  have hb0 := Below.refl w.heap.size w
  go_enter Tryz.func44, Tryz.ntmps44
  all_goals (try go_wp2_with (first | (go_at_call 65; refine (getW_ B _ _ _ (by assumption)).mono (Post.thruF (fr_getS _) hb0 (fun c s1 w1 hq hb0 hi => ?_) (fun v s1 w1 hq f1 f2 f3 f4 f5 f6 f7 hb0 hI hi => ?_))) | (go_at_call 47; refine (statesW_ B _ _ _ (by assumption)).mono (Post.thruF (fr_states _) hb0 (fun c s1 w1 hq hb0 hi => ?_) (fun v s1 w1 hq f1 f2 f3 f4 f5 f6 f7 hb0 hI hi => ?_))) | (go_at_call 66; refine (hi_ _ _).mono ?_; rintro e w1 ⟨rfl, rfl⟩)))
  all_goals (try (
        replace hb0 := bt hb0 (Below.refl _ _).drew
        replace hI := Inv.drew hI
        replace hi := Inv.inb hI
        go_region_with (first | (go_at_call 67; refine (oDo_ _ _ _ _).mono ?_; rintro e w1 ⟨rfl, hb⟩; obtain ⟨w2, rfl, hb2⟩ := unput hi hb; replace hb0 := bt hb0 hb2; replace hI := hI.kept hb2; have hi := hI.inb) | (go_at_call 68; refine (fW_ B _ _ (by assumption)).mono ?_; rintro e w1 ⟨rfl, rfl⟩) | (go_at_call 70; refine (oBit_ _ _ _ _ _).mono ?_; rintro e w1 ⟨rfl, rfl⟩) | (go_at_call 69; refine (flagW_ B _ _ _ (by assumption)).mono (Post.thruF (fr_flag _) hb0 (fun c s1 w1 hq hb0 hi => ?_) (fun v s1 w1 hq f1 f2 f3 f4 f5 f6 f7 hb0 hI hi => ?_)); (· exact ⟨rfl, Post.err _ (by simp [bitS, *]) hb0 hi⟩)) | (go_at_call 71; refine (oWith_ _ _ _ _).mono ?_; rintro e w1 ⟨rfl, rfl⟩))))
  all_goals (try go_wp2_with (first | (go_at_call 69; refine (flagW_ B _ _ _ (by assumption)).mono (Post.thruF (fr_flag _) hb0 (fun c s1 w1 hq hb0 hi => ?_) (fun v s1 w1 hq f1 f2 f3 f4 f5 f6 f7 hb0 hI hi => ?_))) | (go_at_call 72; refine (setW_ B _ _ _ _ (by assumption)).mono (Post.thruF (fr_set _ _) hb0 (fun c s1 w1 hq hb0 hi => ?_) (fun v s1 w1 hq f1 f2 f3 f4 f5 f6 f7 hb0 hI hi => ?_)))))
  all_goals (try go_wp2_with (first | (go_at_call 72; refine (setW_ B _ _ _ _ (by assumption)).mono (Post.thruF (fr_set _ _) hb0 (fun c s1 w1 hq hb0 hi => ?_) (fun v s1 w1 hq f1 f2 f3 f4 f5 f6 f7 hb0 hI hi => ?_)))))
  all_goals first
    | (refine ⟨rfl, Post.err _ ?_ hb0 hi⟩; simp [bitS, bitEnd, *]; done)
    | (refine bodyPost_end (results_none rfl _ _ _) rfl (Post.done (v := ()) ?_ rfl hb0 hI); simp [bitS, bitEnd, *]; done)
    | (refine bodyPost_ret (results_none rfl _ _ _) rfl (Post.done (v := ()) ?_ rfl hb0 hI); simp [bitS, bitEnd, *]; done)
set_option maxHeartbeats 6000000 in
set_option maxRecDepth 8000 in
theorem bit_3W_ (B : Nat) (s : PS) (w : World) (hI : Inv B w s.gv s.got) (hp : s.plane = 1) (hz : ¬ s.z = 6) (hx : s.x = 0) : Calls Tryz.prog 44 #[.pointer (some ⟨B, 0, none⟩)] (put w B s.cells) (Post B w eU (run bitS s)) := by
  have hi := hI.inb
  have hb0 := Below.refl w.heap.size w
  go_enter Tryz.func44, Tryz.ntmps44
  all_goals (try go_wp2_with (first | (go_at_call 65; refine (getW_ B _ _ _ (by assumption)).mono (Post.thruF (fr_getS _) hb0 (fun c s1 w1 hq hb0 hi => ?_) (fun v s1 w1 hq f1 f2 f3 f4 f5 f6 f7 hb0 hI hi => ?_))) | (go_at_call 47; refine (statesW_ B _ _ _ (by assumption)).mono (Post.thruF (fr_states _) hb0 (fun c s1 w1 hq hb0 hi => ?_) (fun v s1 w1 hq f1 f2 f3 f4 f5 f6 f7 hb0 hI hi => ?_))) | (go_at_call 66; refine (hi_ _ _).mono ?_; rintro e w1 ⟨rfl, rfl⟩)))
  all_goals (try (
        replace hb0 := bt hb0 (Below.refl _ _).drew
        replace hI := Inv.drew hI
        replace hi := Inv.inb hI
        go_region_with (first | (go_at_call 67; refine (oDo_ _ _ _ _).mono ?_; rintro e w1 ⟨rfl, hb⟩; obtain ⟨w2, rfl, hb2⟩ := unput hi hb; replace hb0 := bt hb0 hb2; replace hI := hI.kept hb2; have hi := hI.inb) | (go_at_call 68; refine (fW_ B _ _ (by assumption)).mono ?_; rintro e w1 ⟨rfl, rfl⟩) | (go_at_call 70; refine (oBit_ _ _ _ _ _).mono ?_; rintro e w1 ⟨rfl, rfl⟩) | (go_at_call 69; refine (flagW_ B _ _ _ (by assumption)).mono (Post.thruF (fr_flag _) hb0 (fun c s1 w1 hq hb0 hi => ?_) (fun v s1 w1 hq f1 f2 f3 f4 f5 f6 f7 hb0 hI hi => ?_)); (· exact ⟨rfl, Post.err _ (by simp [bitS, *]) hb0 hi⟩)) | (go_at_call 71; refine (oWith_ _ _ _ _).mono ?_; rintro e w1 ⟨rfl, rfl⟩))))
  all_goals (try go_wp2_with (first | (go_at_call 69; refine (flagW_ B _ _ _ (by assumption)).mono (Post.thruF (fr_flag _) hb0 (fun c s1 w1 hq hb0 hi => ?_) (fun v s1 w1 hq f1 f2 f3 f4 f5 f6 f7 hb0 hI hi => ?_))) | (go_at_call 72; refine (setW_ B _ _ _ _ (by assumption)).mono (Post.thruF (fr_set _ _) hb0 (fun c s1 w1 hq hb0 hi => ?_) (fun v s1 w1 hq f1 f2 f3 f4 f5 f6 f7 hb0 hI hi => ?_)))))
  all_goals (try go_wp2_with (first | (go_at_call 72; refine (setW_ B _ _ _ _ (by assumption)).mono (Post.thruF (fr_set _ _) hb0 (fun c s1 w1 hq hb0 hi => ?_) (fun v s1 w1 hq f1 f2 f3 f4 f5 f6 f7 hb0 hI hi => ?_)))))
  all_goals first
    | (refine ⟨rfl, Post.err _ ?_ hb0 hi⟩; simp [bitS, bitEnd, *]; done)
    | (refine bodyPost_end (results_none rfl _ _ _) rfl (Post.done (v := ()) ?_ rfl hb0 hI); simp [bitS, bitEnd, *]; done)
    | (refine bodyPost_ret (results_none rfl _ _ _) rfl (Post.done (v := ()) ?_ rfl hb0 hI); simp [bitS, bitEnd, *]; done)
set_option maxHeartbeats 6000000 in
set_option maxRecDepth 8000 in
theorem bit_4W_ (B : Nat) (s : PS) (w : World) (hI : Inv B w s.gv s.got) (hp : s.plane = 1) (hz : ¬ s.z = 6) (hx : s.x = 1) : Calls Tryz.prog 44 #[.pointer (some ⟨B, 0, none⟩)] (put w B s.cells) (Post B w eU (run bitS s)) := by
  have hi := hI.inb
  have hb0 := Below.refl w.heap.size w
  go_enter Tryz.func44, Tryz.ntmps44
  all_goals (try go_wp2_with (first | (go_at_call 65; refine (getW_ B _ _ _ (by assumption)).mono (Post.thruF (fr_getS _) hb0 (fun c s1 w1 hq hb0 hi => ?_) (fun v s1 w1 hq f1 f2 f3 f4 f5 f6 f7 hb0 hI hi => ?_))) | (go_at_call 47; refine (statesW_ B _ _ _ (by assumption)).mono (Post.thruF (fr_states _) hb0 (fun c s1 w1 hq hb0 hi => ?_) (fun v s1 w1 hq f1 f2 f3 f4 f5 f6 f7 hb0 hI hi => ?_))) | (go_at_call 66; refine (hi_ _ _).mono ?_; rintro e w1 ⟨rfl, rfl⟩)))
  all_goals (try (
        replace hb0 := bt hb0 (Below.refl _ _).drew
        replace hI := Inv.drew hI
        replace hi := Inv.inb hI
        go_region_with (first | (go_at_call 67; refine (oDo_ _ _ _ _).mono ?_; rintro e w1 ⟨rfl, hb⟩; obtain ⟨w2, rfl, hb2⟩ := unput hi hb; replace hb0 := bt hb0 hb2; replace hI := hI.kept hb2; have hi := hI.inb) | (go_at_call 68; refine (fW_ B _ _ (by assumption)).mono ?_; rintro e w1 ⟨rfl, rfl⟩) | (go_at_call 70; refine (oBit_ _ _ _ _ _).mono ?_; rintro e w1 ⟨rfl, rfl⟩) | (go_at_call 69; refine (flagW_ B _ _ _ (by assumption)).mono (Post.thruF (fr_flag _) hb0 (fun c s1 w1 hq hb0 hi => ?_) (fun v s1 w1 hq f1 f2 f3 f4 f5 f6 f7 hb0 hI hi => ?_)); (· exact ⟨rfl, Post.err _ (by simp [bitS, *]) hb0 hi⟩)) | (go_at_call 71; refine (oWith_ _ _ _ _).mono ?_; rintro e w1 ⟨rfl, rfl⟩))))
  all_goals (try go_wp2_with (first | (go_at_call 69; refine (flagW_ B _ _ _ (by assumption)).mono (Post.thruF (fr_flag _) hb0 (fun c s1 w1 hq hb0 hi => ?_) (fun v s1 w1 hq f1 f2 f3 f4 f5 f6 f7 hb0 hI hi => ?_))) | (go_at_call 72; refine (setW_ B _ _ _ _ (by assumption)).mono (Post.thruF (fr_set _ _) hb0 (fun c s1 w1 hq hb0 hi => ?_) (fun v s1 w1 hq f1 f2 f3 f4 f5 f6 f7 hb0 hI hi => ?_)))))
  all_goals (try go_wp2_with (first | (go_at_call 72; refine (setW_ B _ _ _ _ (by assumption)).mono (Post.thruF (fr_set _ _) hb0 (fun c s1 w1 hq hb0 hi => ?_) (fun v s1 w1 hq f1 f2 f3 f4 f5 f6 f7 hb0 hI hi => ?_)))))
  all_goals first
    | (refine ⟨rfl, Post.err _ ?_ hb0 hi⟩; simp [bitS, bitEnd, *]; done)
    | (refine bodyPost_end (results_none rfl _ _ _) rfl (Post.done (v := ()) ?_ rfl hb0 hI); simp [bitS, bitEnd, *]; done)
    | (refine bodyPost_ret (results_none rfl _ _ _) rfl (Post.done (v := ()) ?_ rfl hb0 hI); simp [bitS, bitEnd, *]; done)
set_option maxHeartbeats 6000000 in
set_option maxRecDepth 8000 in
theorem bit_5W_ (B : Nat) (s : PS) (w : World) (hI : Inv B w s.gv s.got) (hp : s.plane = 1) (hz : ¬ s.z = 6) (hx : ¬ s.x = 0) (hx1 : ¬ s.x = 1) : Calls Tryz.prog 44 #[.pointer (some ⟨B, 0, none⟩)] (put w B s.cells) (Post B w eU (run bitS s)) := by
  have hi := hI.inb
  have hb0 := Below.refl w.heap.size w
  go_enter Tryz.func44, Tryz.ntmps44
  all_goals (try go_wp2_with (first | (go_at_call 65; refine (getW_ B _ _ _ (by assumption)).mono (Post.thruF (fr_getS _) hb0 (fun c s1 w1 hq hb0 hi => ?_) (fun v s1 w1 hq f1 f2 f3 f4 f5 f6 f7 hb0 hI hi => ?_))) | (go_at_call 47; refine (statesW_ B _ _ _ (by assumption)).mono (Post.thruF (fr_states _) hb0 (fun c s1 w1 hq hb0 hi => ?_) (fun v s1 w1 hq f1 f2 f3 f4 f5 f6 f7 hb0 hI hi => ?_))) | (go_at_call 66; refine (hi_ _ _).mono ?_; rintro e w1 ⟨rfl, rfl⟩)))
  all_goals (try (
        replace hb0 := bt hb0 (Below.refl _ _).drew
        replace hI := Inv.drew hI
        replace hi := Inv.inb hI
        go_region_with (first | (go_at_call 67; refine (oDo_ _ _ _ _).mono ?_; rintro e w1 ⟨rfl, hb⟩; obtain ⟨w2, rfl, hb2⟩ := unput hi hb; replace hb0 := bt hb0 hb2; replace hI := hI.kept hb2; have hi := hI.inb) | (go_at_call 68; refine (fW_ B _ _ (by assumption)).mono ?_; rintro e w1 ⟨rfl, rfl⟩) | (go_at_call 70; refine (oBit_ _ _ _ _ _).mono ?_; rintro e w1 ⟨rfl, rfl⟩) | (go_at_call 69; refine (flagW_ B _ _ _ (by assumption)).mono (Post.thruF (fr_flag _) hb0 (fun c s1 w1 hq hb0 hi => ?_) (fun v s1 w1 hq f1 f2 f3 f4 f5 f6 f7 hb0 hI hi => ?_)); (· exact ⟨rfl, Post.err _ (by simp [bitS, *]) hb0 hi⟩)) | (go_at_call 71; refine (oWith_ _ _ _ _).mono ?_; rintro e w1 ⟨rfl, rfl⟩))))
  all_goals (try go_wp2_with (first | (go_at_call 69; refine (flagW_ B _ _ _ (by assumption)).mono (Post.thruF (fr_flag _) hb0 (fun c s1 w1 hq hb0 hi => ?_) (fun v s1 w1 hq f1 f2 f3 f4 f5 f6 f7 hb0 hI hi => ?_))) | (go_at_call 72; refine (setW_ B _ _ _ _ (by assumption)).mono (Post.thruF (fr_set _ _) hb0 (fun c s1 w1 hq hb0 hi => ?_) (fun v s1 w1 hq f1 f2 f3 f4 f5 f6 f7 hb0 hI hi => ?_)))))
  all_goals (try go_wp2_with (first | (go_at_call 72; refine (setW_ B _ _ _ _ (by assumption)).mono (Post.thruF (fr_set _ _) hb0 (fun c s1 w1 hq hb0 hi => ?_) (fun v s1 w1 hq f1 f2 f3 f4 f5 f6 f7 hb0 hI hi => ?_)))))
  all_goals first
    | (refine ⟨rfl, Post.err _ ?_ hb0 hi⟩; simp [bitS, bitEnd, *]; done)
    | (refine bodyPost_end (results_none rfl _ _ _) rfl (Post.done (v := ()) ?_ rfl hb0 hI); simp [bitS, bitEnd, *]; done)
    | (refine bodyPost_ret (results_none rfl _ _ _) rfl (Post.done (v := ()) ?_ rfl hb0 hI); simp [bitS, bitEnd, *]; done)
set_option maxHeartbeats 6000000 in
set_option maxRecDepth 8000 in
theorem bit_6W_ (B : Nat) (s : PS) (w : World) (hI : Inv B w s.gv s.got) (hp : ¬ s.plane = 1) (hz : s.z = 6) (hx : s.x = 0) : Calls Tryz.prog 44 #[.pointer (some ⟨B, 0, none⟩)] (put w B s.cells) (Post B w eU (run bitS s)) := by
  have hi := hI.inb
  have hb0 := Below.refl w.heap.size w
  go_enter Tryz.func44, Tryz.ntmps44
  all_goals (try go_wp2_with (first | (go_at_call 65; refine (getW_ B _ _ _ (by assumption)).mono (Post.thruF (fr_getS _) hb0 (fun c s1 w1 hq hb0 hi => ?_) (fun v s1 w1 hq f1 f2 f3 f4 f5 f6 f7 hb0 hI hi => ?_))) | (go_at_call 47; refine (statesW_ B _ _ _ (by assumption)).mono (Post.thruF (fr_states _) hb0 (fun c s1 w1 hq hb0 hi => ?_) (fun v s1 w1 hq f1 f2 f3 f4 f5 f6 f7 hb0 hI hi => ?_))) | (go_at_call 66; refine (hi_ _ _).mono ?_; rintro e w1 ⟨rfl, rfl⟩)))
  all_goals (try (
        replace hb0 := bt hb0 (Below.refl _ _).drew
        replace hI := Inv.drew hI
        replace hi := Inv.inb hI
        go_region_with (first | (go_at_call 67; refine (oDo_ _ _ _ _).mono ?_; rintro e w1 ⟨rfl, hb⟩; obtain ⟨w2, rfl, hb2⟩ := unput hi hb; replace hb0 := bt hb0 hb2; replace hI := hI.kept hb2; have hi := hI.inb) | (go_at_call 68; refine (fW_ B _ _ (by assumption)).mono ?_; rintro e w1 ⟨rfl, rfl⟩) | (go_at_call 70; refine (oBit_ _ _ _ _ _).mono ?_; rintro e w1 ⟨rfl, rfl⟩) | (go_at_call 69; refine (flagW_ B _ _ _ (by assumption)).mono (Post.thruF (fr_flag _) hb0 (fun c s1 w1 hq hb0 hi => ?_) (fun v s1 w1 hq f1 f2 f3 f4 f5 f6 f7 hb0 hI hi => ?_)); (· exact ⟨rfl, Post.err _ (by simp [bitS, *]) hb0 hi⟩)) | (go_at_call 71; refine (oWith_ _ _ _ _).mono ?_; rintro e w1 ⟨rfl, rfl⟩))))
  all_goals (try go_wp2_with (first | (go_at_call 69; refine (flagW_ B _ _ _ (by assumption)).mono (Post.thruF (fr_flag _) hb0 (fun c s1 w1 hq hb0 hi => ?_) (fun v s1 w1 hq f1 f2 f3 f4 f5 f6 f7 hb0 hI hi => ?_))) | (go_at_call 72; refine (setW_ B _ _ _ _ (by assumption)).mono (Post.thruF (fr_set _ _) hb0 (fun c s1 w1 hq hb0 hi => ?_) (fun v s1 w1 hq f1 f2 f3 f4 f5 f6 f7 hb0 hI hi => ?_)))))
  all_goals (try go_wp2_with (first | (go_at_call 72; refine (setW_ B _ _ _ _ (by assumption)).mono (Post.thruF (fr_set _ _) hb0 (fun c s1 w1 hq hb0 hi => ?_) (fun v s1 w1 hq f1 f2 f3 f4 f5 f6 f7 hb0 hI hi => ?_)))))
  all_goals first
    | (refine ⟨rfl, Post.err _ ?_ hb0 hi⟩; simp [bitS, bitEnd, *]; done)
    | (refine bodyPost_end (results_none rfl _ _ _) rfl (Post.done (v := ()) ?_ rfl hb0 hI); simp [bitS, bitEnd, *]; done)
    | (refine bodyPost_ret (results_none rfl _ _ _) rfl (Post.done (v := ()) ?_ rfl hb0 hI); simp [bitS, bitEnd, *]; done)
set_option maxHeartbeats 6000000 in
set_option maxRecDepth 8000 in
theorem bit_7W_ (B : Nat) (s : PS) (w : World) (hI : Inv B w s.gv s.got) (hp : ¬ s.plane = 1) (hz : s.z = 6) (hx : s.x = 1) : Calls Tryz.prog 44 #[.pointer (some ⟨B, 0, none⟩)] (put w B s.cells) (Post B w eU (run bitS s)) := by
  have hi := hI.inb
  have hb0 := Below.refl w.heap.size w
  go_enter Tryz.func44, Tryz.ntmps44
  all_goals (try go_wp2_with (first | (go_at_call 65; refine (getW_ B _ _ _ (by assumption)).mono (Post.thruF (fr_getS _) hb0 (fun c s1 w1 hq hb0 hi => ?_) (fun v s1 w1 hq f1 f2 f3 f4 f5 f6 f7 hb0 hI hi => ?_))) | (go_at_call 47; refine (statesW_ B _ _ _ (by assumption)).mono (Post.thruF (fr_states _) hb0 (fun c s1 w1 hq hb0 hi => ?_) (fun v s1 w1 hq f1 f2 f3 f4 f5 f6 f7 hb0 hI hi => ?_))) | (go_at_call 66; refine (hi_ _ _).mono ?_; rintro e w1 ⟨rfl, rfl⟩)))
  all_goals (try (
        replace hb0 := bt hb0 (Below.refl _ _).drew
        replace hI := Inv.drew hI
        replace hi := Inv.inb hI
        go_region_with (first | (go_at_call 67; refine (oDo_ _ _ _ _).mono ?_; rintro e w1 ⟨rfl, hb⟩; obtain ⟨w2, rfl, hb2⟩ := unput hi hb; replace hb0 := bt hb0 hb2; replace hI := hI.kept hb2; have hi := hI.inb) | (go_at_call 68; refine (fW_ B _ _ (by assumption)).mono ?_; rintro e w1 ⟨rfl, rfl⟩) | (go_at_call 70; refine (oBit_ _ _ _ _ _).mono ?_; rintro e w1 ⟨rfl, rfl⟩) | (go_at_call 69; refine (flagW_ B _ _ _ (by assumption)).mono (Post.thruF (fr_flag _) hb0 (fun c s1 w1 hq hb0 hi => ?_) (fun v s1 w1 hq f1 f2 f3 f4 f5 f6 f7 hb0 hI hi => ?_)); (· exact ⟨rfl, Post.err _ (by simp [bitS, *]) hb0 hi⟩)) | (go_at_call 71; refine (oWith_ _ _ _ _).mono ?_; rintro e w1 ⟨rfl, rfl⟩))))
  all_goals (try go_wp2_with (first | (go_at_call 69; refine (flagW_ B _ _ _ (by assumption)).mono (Post.thruF (fr_flag _) hb0 (fun c s1 w1 hq hb0 hi => ?_) (fun v s1 w1 hq f1 f2 f3 f4 f5 f6 f7 hb0 hI hi => ?_))) | (go_at_call 72; refine (setW_ B _ _ _ _ (by assumption)).mono (Post.thruF (fr_set _ _) hb0 (fun c s1 w1 hq hb0 hi => ?_) (fun v s1 w1 hq f1 f2 f3 f4 f5 f6 f7 hb0 hI hi => ?_)))))
  all_goals (try go_wp2_with (first | (go_at_call 72; refine (setW_ B _ _ _ _ (by assumption)).mono (Post.thruF (fr_set _ _) hb0 (fun c s1 w1 hq hb0 hi => ?_) (fun v s1 w1 hq f1 f2 f3 f4 f5 f6 f7 hb0 hI hi => ?_)))))
  all_goals first
    | (refine ⟨rfl, Post.err _ ?_ hb0 hi⟩; simp [bitS, bitEnd, *]; done)
    | (refine bodyPost_end (results_none rfl _ _ _) rfl (Post.done (v := ()) ?_ rfl hb0 hI); simp [bitS, bitEnd, *]; done)
    | (refine bodyPost_ret (results_none rfl _ _ _) rfl (Post.done (v := ()) ?_ rfl hb0 hI); simp [bitS, bitEnd, *]; done)
set_option maxHeartbeats 6000000 in
set_option maxRecDepth 8000 in
theorem bit_8W_ (B : Nat) (s : PS) (w : World) (hI : Inv B w s.gv s.got) (hp : ¬ s.plane = 1) (hz : s.z = 6) (hx : ¬ s.x = 0) (hx1 : ¬ s.x = 1) : Calls Tryz.prog 44 #[.pointer (some ⟨B, 0, none⟩)] (put w B s.cells) (Post B w eU (run bitS s)) := by
  have hi := hI.inb
  have hb0 := Below.refl w.heap.size w
  go_enter Tryz.func44, Tryz.ntmps44
  all_goals (try go_wp2_with (first | (go_at_call 65; refine (getW_ B _ _ _ (by assumption)).mono (Post.thruF (fr_getS _) hb0 (fun c s1 w1 hq hb0 hi => ?_) (fun v s1 w1 hq f1 f2 f3 f4 f5 f6 f7 hb0 hI hi => ?_))) | (go_at_call 47; refine (statesW_ B _ _ _ (by assumption)).mono (Post.thruF (fr_states _) hb0 (fun c s1 w1 hq hb0 hi => ?_) (fun v s1 w1 hq f1 f2 f3 f4 f5 f6 f7 hb0 hI hi => ?_))) | (go_at_call 66; refine (hi_ _ _).mono ?_; rintro e w1 ⟨rfl, rfl⟩)))
  all_goals (try (
        replace hb0 := bt hb0 (Below.refl _ _).drew
        replace hI := Inv.drew hI
        replace hi := Inv.inb hI
        go_region_with (first | (go_at_call 67; refine (oDo_ _ _ _ _).mono ?_; rintro e w1 ⟨rfl, hb⟩; obtain ⟨w2, rfl, hb2⟩ := unput hi hb; replace hb0 := bt hb0 hb2; replace hI := hI.kept hb2; have hi := hI.inb) | (go_at_call 68; refine (fW_ B _ _ (by assumption)).mono ?_; rintro e w1 ⟨rfl, rfl⟩) | (go_at_call 70; refine (oBit_ _ _ _ _ _).mono ?_; rintro e w1 ⟨rfl, rfl⟩) | (go_at_call 69; refine (flagW_ B _ _ _ (by assumption)).mono (Post.thruF (fr_flag _) hb0 (fun c s1 w1 hq hb0 hi => ?_) (fun v s1 w1 hq f1 f2 f3 f4 f5 f6 f7 hb0 hI hi => ?_)); (· exact ⟨rfl, Post.err _ (by simp [bitS, *]) hb0 hi⟩)) | (go_at_call 71; refine (oWith_ _ _ _ _).mono ?_; rintro e w1 ⟨rfl, rfl⟩))))
  all_goals (try go_wp2_with (first | (go_at_call 69; refine (flagW_ B _ _ _ (by assumption)).mono (Post.thruF (fr_flag _) hb0 (fun c s1 w1 hq hb0 hi => ?_) (fun v s1 w1 hq f1 f2 f3 f4 f5 f6 f7 hb0 hI hi => ?_))) | (go_at_call 72; refine (setW_ B _ _ _ _ (by assumption)).mono (Post.thruF (fr_set _ _) hb0 (fun c s1 w1 hq hb0 hi => ?_) (fun v s1 w1 hq f1 f2 f3 f4 f5 f6 f7 hb0 hI hi => ?_)))))
  all_goals (try go_wp2_with (first | (go_at_call 72; refine (setW_ B _ _ _ _ (by assumption)).mono (Post.thruF (fr_set _ _) hb0 (fun c s1 w1 hq hb0 hi => ?_) (fun v s1 w1 hq f1 f2 f3 f4 f5 f6 f7 hb0 hI hi => ?_)))))
  all_goals first
    | (refine ⟨rfl, Post.err _ ?_ hb0 hi⟩; simp [bitS, bitEnd, *]; done)
    | (refine bodyPost_end (results_none rfl _ _ _) rfl (Post.done (v := ()) ?_ rfl hb0 hI); simp [bitS, bitEnd, *]; done)
    | (refine bodyPost_ret (results_none rfl _ _ _) rfl (Post.done (v := ()) ?_ rfl hb0 hI); simp [bitS, bitEnd, *]; done)
set_option maxHeartbeats 6000000 in
set_option maxRecDepth 8000 in
theorem bit_9W_ (B : Nat) (s : PS) (w : World) (hI : Inv B w s.gv s.got) (hp : ¬ s.plane = 1) (hz : ¬ s.z = 6) (hx : s.x = 0) : Calls Tryz.prog 44 #[.pointer (some ⟨B, 0, none⟩)] (put w B s.cells) (Post B w eU (run bitS s)) := by
  have hi := hI.inb
  have hb0 := Below.refl w.heap.size w
  go_enter Tryz.func44, Tryz.ntmps44
  all_goals (try go_wp2_with (first | (go_at_call 65; refine (getW_ B _ _ _ (by assumption)).mono (Post.thruF (fr_getS _) hb0 (fun c s1 w1 hq hb0 hi => ?_) (fun v s1 w1 hq f1 f2 f3 f4 f5 f6 f7 hb0 hI hi => ?_))) | (go_at_call 47; refine (statesW_ B _ _ _ (by assumption)).mono (Post.thruF (fr_states _) hb0 (fun c s1 w1 hq hb0 hi => ?_) (fun v s1 w1 hq f1 f2 f3 f4 f5 f6 f7 hb0 hI hi => ?_))) | (go_at_call 66; refine (hi_ _ _).mono ?_; rintro e w1 ⟨rfl, rfl⟩)))
  all_goals (try (
        replace hb0 := bt hb0 (Below.refl _ _).drew
        replace hI := Inv.drew hI
        replace hi := Inv.inb hI
        go_region_with (first | (go_at_call 67; refine (oDo_ _ _ _ _).mono ?_; rintro e w1 ⟨rfl, hb⟩; obtain ⟨w2, rfl, hb2⟩ := unput hi hb; replace hb0 := bt hb0 hb2; replace hI := hI.kept hb2; have hi := hI.inb) | (go_at_call 68; refine (fW_ B _ _ (by assumption)).mono ?_; rintro e w1 ⟨rfl, rfl⟩) | (go_at_call 70; refine (oBit_ _ _ _ _ _).mono ?_; rintro e w1 ⟨rfl, rfl⟩) | (go_at_call 69; refine (flagW_ B _ _ _ (by assumption)).mono (Post.thruF (fr_flag _) hb0 (fun c s1 w1 hq hb0 hi => ?_) (fun v s1 w1 hq f1 f2 f3 f4 f5 f6 f7 hb0 hI hi => ?_)); (· exact ⟨rfl, Post.err _ (by simp [bitS, *]) hb0 hi⟩)) | (go_at_call 71; refine (oWith_ _ _ _ _).mono ?_; rintro e w1 ⟨rfl, rfl⟩))))
  all_goals (try go_wp2_with (first | (go_at_call 69; refine (flagW_ B _ _ _ (by assumption)).mono (Post.thruF (fr_flag _) hb0 (fun c s1 w1 hq hb0 hi => ?_) (fun v s1 w1 hq f1 f2 f3 f4 f5 f6 f7 hb0 hI hi => ?_))) | (go_at_call 72; refine (setW_ B _ _ _ _ (by assumption)).mono (Post.thruF (fr_set _ _) hb0 (fun c s1 w1 hq hb0 hi => ?_) (fun v s1 w1 hq f1 f2 f3 f4 f5 f6 f7 hb0 hI hi => ?_)))))
  all_goals (try go_wp2_with (first | (go_at_call 72; refine (setW_ B _ _ _ _ (by assumption)).mono (Post.thruF (fr_set _ _) hb0 (fun c s1 w1 hq hb0 hi => ?_) (fun v s1 w1 hq f1 f2 f3 f4 f5 f6 f7 hb0 hI hi => ?_)))))
  all_goals first
    | (refine ⟨rfl, Post.err _ ?_ hb0 hi⟩; simp [bitS, bitEnd, *]; done)
    | (refine bodyPost_end (results_none rfl _ _ _) rfl (Post.done (v := ()) ?_ rfl hb0 hI); simp [bitS, bitEnd, *]; done)
    | (refine bodyPost_ret (results_none rfl _ _ _) rfl (Post.done (v := ()) ?_ rfl hb0 hI); simp [bitS, bitEnd, *]; done)
set_option maxHeartbeats 6000000 in
set_option maxRecDepth 8000 in
theorem bit_10W_ (B : Nat) (s : PS) (w : World) (hI : Inv B w s.gv s.got) (hp : ¬ s.plane = 1) (hz : ¬ s.z = 6) (hx : s.x = 1) : Calls Tryz.prog 44 #[.pointer (some ⟨B, 0, none⟩)] (put w B s.cells) (Post B w eU (run bitS s)) := by
  have hi := hI.inb
  have hb0 := Below.refl w.heap.size w
  go_enter Tryz.func44, Tryz.ntmps44
  all_goals (try go_wp2_with (first | (go_at_call 65; refine (getW_ B _ _ _ (by assumption)).mono (Post.thruF (fr_getS _) hb0 (fun c s1 w1 hq hb0 hi => ?_) (fun v s1 w1 hq f1 f2 f3 f4 f5 f6 f7 hb0 hI hi => ?_))) | (go_at_call 47; refine (statesW_ B _ _ _ (by assumption)).mono (Post.thruF (fr_states _) hb0 (fun c s1 w1 hq hb0 hi => ?_) (fun v s1 w1 hq f1 f2 f3 f4 f5 f6 f7 hb0 hI hi => ?_))) | (go_at_call 66; refine (hi_ _ _).mono ?_; rintro e w1 ⟨rfl, rfl⟩)))
  all_goals (try (
        replace hb0 := bt hb0 (Below.refl _ _).drew
        replace hI := Inv.drew hI
        replace hi := Inv.inb hI
        go_region_with (first | (go_at_call 67; refine (oDo_ _ _ _ _).mono ?_; rintro e w1 ⟨rfl, hb⟩; obtain ⟨w2, rfl, hb2⟩ := unput hi hb; replace hb0 := bt hb0 hb2; replace hI := hI.kept hb2; have hi := hI.inb) | (go_at_call 68; refine (fW_ B _ _ (by assumption)).mono ?_; rintro e w1 ⟨rfl, rfl⟩) | (go_at_call 70; refine (oBit_ _ _ _ _ _).mono ?_; rintro e w1 ⟨rfl, rfl⟩) | (go_at_call 69; refine (flagW_ B _ _ _ (by assumption)).mono (Post.thruF (fr_flag _) hb0 (fun c s1 w1 hq hb0 hi => ?_) (fun v s1 w1 hq f1 f2 f3 f4 f5 f6 f7 hb0 hI hi => ?_)); (· exact ⟨rfl, Post.err _ (by simp [bitS, *]) hb0 hi⟩)) | (go_at_call 71; refine (oWith_ _ _ _ _).mono ?_; rintro e w1 ⟨rfl, rfl⟩))))
  all_goals (try go_wp2_with (first | (go_at_call 69; refine (flagW_ B _ _ _ (by assumption)).mono (Post.thruF (fr_flag _) hb0 (fun c s1 w1 hq hb0 hi => ?_) (fun v s1 w1 hq f1 f2 f3 f4 f5 f6 f7 hb0 hI hi => ?_))) | (go_at_call 72; refine (setW_ B _ _ _ _ (by assumption)).mono (Post.thruF (fr_set _ _) hb0 (fun c s1 w1 hq hb0 hi => ?_) (fun v s1 w1 hq f1 f2 f3 f4 f5 f6 f7 hb0 hI hi => ?_)))))
  all_goals (try go_wp2_with (first | (go_at_call 72; refine (setW_ B _ _ _ _ (by assumption)).mono (Post.thruF (fr_set _ _) hb0 (fun c s1 w1 hq hb0 hi => ?_) (fun v s1 w1 hq f1 f2 f3 f4 f5 f6 f7 hb0 hI hi => ?_)))))
  all_goals first
    | (refine ⟨rfl, Post.err _ ?_ hb0 hi⟩; simp [bitS, bitEnd, *]; done)
    | (refine bodyPost_end (results_none rfl _ _ _) rfl (Post.done (v := ()) ?_ rfl hb0 hI); simp [bitS, bitEnd, *]; done)
    | (refine bodyPost_ret (results_none rfl _ _ _) rfl (Post.done (v := ()) ?_ rfl hb0 hI); simp [bitS, bitEnd, *]; done)
set_option maxHeartbeats 6000000 in
set_option maxRecDepth 8000 in
theorem bit_11W_ (B : Nat) (s : PS) (w : World) (hI : Inv B w s.gv s.got) (hp : ¬ s.plane = 1) (hz : ¬ s.z = 6) (hx : ¬ s.x = 0) (hx1 : ¬ s.x = 1) : Calls Tryz.prog 44 #[.pointer (some ⟨B, 0, none⟩)] (put w B s.cells) (Post B w eU (run bitS s)) := by
  have hi := hI.inb
  have hb0 := Below.refl w.heap.size w
  go_enter Tryz.func44, Tryz.ntmps44
  all_goals (try go_wp2_with (first | (go_at_call 65; refine (getW_ B _ _ _ (by assumption)).mono (Post.thruF (fr_getS _) hb0 (fun c s1 w1 hq hb0 hi => ?_) (fun v s1 w1 hq f1 f2 f3 f4 f5 f6 f7 hb0 hI hi => ?_))) | (go_at_call 47; refine (statesW_ B _ _ _ (by assumption)).mono (Post.thruF (fr_states _) hb0 (fun c s1 w1 hq hb0 hi => ?_) (fun v s1 w1 hq f1 f2 f3 f4 f5 f6 f7 hb0 hI hi => ?_))) | (go_at_call 66; refine (hi_ _ _).mono ?_; rintro e w1 ⟨rfl, rfl⟩)))
  all_goals (try (
        replace hb0 := bt hb0 (Below.refl _ _).drew
        replace hI := Inv.drew hI
        replace hi := Inv.inb hI
        go_region_with (first | (go_at_call 67; refine (oDo_ _ _ _ _).mono ?_; rintro e w1 ⟨rfl, hb⟩; obtain ⟨w2, rfl, hb2⟩ := unput hi hb; replace hb0 := bt hb0 hb2; replace hI := hI.kept hb2; have hi := hI.inb) | (go_at_call 68; refine (fW_ B _ _ (by assumption)).mono ?_; rintro e w1 ⟨rfl, rfl⟩) | (go_at_call 70; refine (oBit_ _ _ _ _ _).mono ?_; rintro e w1 ⟨rfl, rfl⟩) | (go_at_call 69; refine (flagW_ B _ _ _ (by assumption)).mono (Post.thruF (fr_flag _) hb0 (fun c s1 w1 hq hb0 hi => ?_) (fun v s1 w1 hq f1 f2 f3 f4 f5 f6 f7 hb0 hI hi => ?_)); (· exact ⟨rfl, Post.err _ (by simp [bitS, *]) hb0 hi⟩)) | (go_at_call 71; refine (oWith_ _ _ _ _).mono ?_; rintro e w1 ⟨rfl, rfl⟩))))
  all_goals (try go_wp2_with (first | (go_at_call 69; refine (flagW_ B _ _ _ (by assumption)).mono (Post.thruF (fr_flag _) hb0 (fun c s1 w1 hq hb0 hi => ?_) (fun v s1 w1 hq f1 f2 f3 f4 f5 f6 f7 hb0 hI hi => ?_))) | (go_at_call 72; refine (setW_ B _ _ _ _ (by assumption)).mono (Post.thruF (fr_set _ _) hb0 (fun c s1 w1 hq hb0 hi => ?_) (fun v s1 w1 hq f1 f2 f3 f4 f5 f6 f7 hb0 hI hi => ?_)))))
  all_goals (try go_wp2_with (first | (go_at_call 72; refine (setW_ B _ _ _ _ (by assumption)).mono (Post.thruF (fr_set _ _) hb0 (fun c s1 w1 hq hb0 hi => ?_) (fun v s1 w1 hq f1 f2 f3 f4 f5 f6 f7 hb0 hI hi => ?_)))))
  all_goals first
    | (refine ⟨rfl, Post.err _ ?_ hb0 hi⟩; simp [bitS, bitEnd, *]; done)
    | (refine bodyPost_end (results_none rfl _ _ _) rfl (Post.done (v := ()) ?_ rfl hb0 hI); simp [bitS, bitEnd, *]; done)
    | (refine bodyPost_ret (results_none rfl _ _ _) rfl (Post.done (v := ()) ?_ rfl hb0 hI); simp [bitS, bitEnd, *]; done)
theorem bitW_ (B : Nat) (s : PS) (w : World) (hI : Inv B w s.gv s.got) : Calls Tryz.prog 44 #[.pointer (some ⟨B, 0, none⟩)] (put w B s.cells) (Post B w eU (run bitS s)) := by
  rcases (show (s.plane = 1 ∧ s.z = 6 ∧ s.x = 0) ∨ (s.plane = 1 ∧ s.z = 6 ∧ s.x = 1) ∨ (s.plane = 1 ∧ s.z = 6 ∧ ¬ s.x = 0 ∧ ¬ s.x = 1) ∨ (s.plane = 1 ∧ ¬ s.z = 6 ∧ s.x = 0) ∨ (s.plane = 1 ∧ ¬ s.z = 6 ∧ s.x = 1) ∨ (s.plane = 1 ∧ ¬ s.z = 6 ∧ ¬ s.x = 0 ∧ ¬ s.x = 1) ∨ (¬ s.plane = 1 ∧ s.z = 6 ∧ s.x = 0) ∨ (¬ s.plane = 1 ∧ s.z = 6 ∧ s.x = 1) ∨ (¬ s.plane = 1 ∧ s.z = 6 ∧ ¬ s.x = 0 ∧ ¬ s.x = 1) ∨ (¬ s.plane = 1 ∧ ¬ s.z = 6 ∧ s.x = 0) ∨ (¬ s.plane = 1 ∧ ¬ s.z = 6 ∧ s.x = 1) ∨ (¬ s.plane = 1 ∧ ¬ s.z = 6 ∧ ¬ s.x = 0 ∧ ¬ s.x = 1) by omega) with ⟨hp, hz, hx⟩ | ⟨hp, hz, hx⟩ | ⟨hp, hz, hx, hx1⟩ | ⟨hp, hz, hx⟩ | ⟨hp, hz, hx⟩ | ⟨hp, hz, hx, hx1⟩ | ⟨hp, hz, hx⟩ | ⟨hp, hz, hx⟩ | ⟨hp, hz, hx, hx1⟩ | ⟨hp, hz, hx⟩ | ⟨hp, hz, hx⟩ | ⟨hp, hz, hx, hx1⟩
  · exact bit_0W_ B s w hI hp hz hx
  · exact bit_1W_ B s w hI hp hz hx
  · exact bit_2W_ B s w hI hp hz hx hx1
  · exact bit_3W_ B s w hI hp hz hx
  · exact bit_4W_ B s w hI hp hz hx
  · exact bit_5W_ B s w hI hp hz hx hx1
  · exact bit_6W_ B s w hI hp hz hx
  · exact bit_7W_ B s w hI hp hz hx
  · exact bit_8W_ B s w hI hp hz hx hx1
  · exact bit_9W_ B s w hI hp hz hx
  · exact bit_10W_ B s w hI hp hz hx
  · exact bit_11W_ B s w hI hp hz hx hx1
end Go.Proofs.YtnaampdpkegacaaGreatDoor
