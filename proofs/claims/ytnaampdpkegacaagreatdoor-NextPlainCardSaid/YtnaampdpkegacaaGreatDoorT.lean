/-
  Contracts of next's where, get and set. A helper of the claim that stands beside it.
-/
import Derived.Test.YtnaampdpkegacaaGreatDoorS
namespace Go.Proofs.YtnaampdpkegacaaGreatDoor
open Go.RowKit
def whereS : PM U16 := do
  let s ← PM.get
  if s.known then pure s.at' else do
    PM.mod fun s => { s with known := true, at' := s.r.hl }
    if s.plane = 3 ∨ s.plane = 4 then do
      let b ← numberS
      mvS b
      statesS 5
      let s ← PM.get
      pure s.at'
    else pure s.r.hl
set_option maxRecDepth 4000 in
theorem whereW_ (B : Nat) (s : PS) (w : World) (hI : Inv B w s.gv s.got) : Calls Tryz.prog 139 #[.pointer (some ⟨B, 0, none⟩)] (put w B s.cells) (Post B w e16 (run whereS s)) := by
  have hi := hI.inb
  have hb0 := Below.refl w.heap.size w
  have hp : (s.plane = 3 ∨ s.plane = 4) ∨ (¬ s.plane = 3 ∧ ¬ s.plane = 4 ∧ (s.plane == 3) = false ∧ (s.plane == 4) = false) := by simp only [beq_eq_false_iff_ne]; omega
  rcases hp with (hp | hp) | ⟨hp, hp2, b3, b4⟩
  all_goals
   go_enter Tryz.func139, Tryz.ntmps139
   go_wp2_with (first | (go_at_call 46; refine (numberW_ B _ _ (by assumption)).mono (Post.thru hb0 (fun c s1 w1 hq hb0 hi => ?_) (fun v s1 w1 hq hb0 hI hi => ?_))) | (go_at_call 45; refine (nearW_ B _ _ _ (by assumption)).mono (Post.thru hb0 (fun c s1 w1 hq hb0 hi => ?_) (fun v s1 w1 hq hb0 hI hi => ?_))) | (go_at_call 47; refine (statesW_ B _ _ _ (by assumption)).mono (Post.thru hb0 (fun c s1 w1 hq hb0 hi => ?_) (fun v s1 w1 hq hb0 hI hi => ?_))))
  all_goals first
    | (refine ⟨rfl, Post.err _ ?_ hb0 hi⟩; simp [whereS, *]; done)
    | (go_ret; refine Post.done ?_ rfl hb0 hI; simp [whereS, *]; done)
def getS (k : Int) : PM U8 := do
  if k = 6 then do
    let a ← whereS
    readS a
  else do
    let s ← PM.get
    pure (getR s.r (thr s) k)
def setS (k : Int) (b : U8) : PM Unit := do
  if k = 6 then do
    let a ← whereS
    writeS a b
  else PM.mod fun s => { s with r := setR s.r (thr s) k b }
theorem Post.relax {α : Type} {B : Nat} {w : World} {enc : α → Value} {m : Except Cyc (α × PS)} {e : Ending} {w' : World} (h : Post B w.drew enc m e w') : Post B w enc m e w' := by
  unfold Post at *
  cases m with
  | error c => obtain ⟨h1, s1, w1, h2, h3, h4⟩ := h; exact ⟨h1, s1, w1, h2, undrew h3, h4⟩
  | ok p => obtain ⟨h1, w1, h2, h3, h4⟩ := h; exact ⟨h1, w1, h2, undrew h3, h4⟩
set_option maxRecDepth 4000 in
theorem getW_ (B : Nat) (k : Int) (s : PS) (w : World) (hI : Inv B w s.gv s.got) : Calls Tryz.prog 65 #[.pointer (some ⟨B, 0, none⟩), .int .i64 k] (put w B s.cells) (Post B w e8 (run (getS k) s)) := by
  have hi := hI.inb
  have hb0 := Below.refl w.heap.size w
  by_cases hk : k = 6
  · go_enter Tryz.func65, Tryz.ntmps65
    go_wp2_with (first | (go_at_call 139; refine (whereW_ B _ _ (by assumption)).mono (Post.thru hb0 (fun c s1 w1 hq hb0 hi => ?_) (fun v s1 w1 hq hb0 hI hi => ?_))) | (go_at_call 75; refine (readW_ B _ _ _ (by assumption)).mono (Post.thru hb0 (fun c s1 w1 hq hb0 hi => ?_) (fun v s1 w1 hq hb0 hI hi => ?_))))
    all_goals first
      | (refine ⟨rfl, Post.err _ ?_ hb0 hi⟩; simp [getS, *]; done)
      | (go_ret; refine Post.done ?_ rfl hb0 hI; simp [getS, *]; done)
  · go_enter Tryz.func65, Tryz.ntmps65
    go_wp2_with fail
    go_region_with (first | (go_at_call 141; refine (throughW_ B _ _ (by first | exact hI | exact hI.drew)).mono ?_; rintro e w1 ⟨rfl, rfl⟩) | (go_at_call 140; refine (rget_ _ _ _ _).mono ?_; rintro e w1 ⟨rfl, hb⟩))
    all_goals
      obtain ⟨w2, rfl, hb2⟩ := unput hI.drew.drew.inb hb
      have hb3 : Below w.heap.size w w2 := undrew (undrew hb2)
      go_wp2
      go_ret
      refine Post.done ?_ rfl hb3 (hI.kept hb3)
      simp [getS, *]
set_option maxRecDepth 4000 in
theorem setW_ (B : Nat) (k : Int) (b : U8) (s : PS) (w : World) (hI : Inv B w s.gv s.got) : Calls Tryz.prog 72 #[.pointer (some ⟨B, 0, none⟩), .int .i64 k, .int .u8 b.v] (put w B s.cells) (Post B w eU (run (setS k b) s)) := by
  have hi := hI.inb
  have hb0 := Below.refl w.heap.size w
  by_cases hk : k = 6
  · go_enter Tryz.func72, Tryz.ntmps72
    go_wp2_with (first | (go_at_call 139; refine (whereW_ B _ _ (by assumption)).mono (Post.thru hb0 (fun c s1 w1 hq hb0 hi => ?_) (fun v s1 w1 hq hb0 hI hi => ?_))) | (go_at_call 131; refine (writeW_ B _ _ _ _ (by assumption)).mono (Post.thru hb0 (fun c s1 w1 hq hb0 hi => ?_) (fun v s1 w1 hq hb0 hI hi => ?_))))
    all_goals first
      | (refine ⟨rfl, Post.err _ ?_ hb0 hi⟩; simp [setS, *]; done)
      | (refine bodyPost_ret (results_none rfl _ _ _) rfl (Post.done (v := ()) ?_ rfl hb0 hI); simp [setS, *]; done)
  · have hid : Inb B w.drew.drew := hI.drew.drew.inb
    go_enter Tryz.func72, Tryz.ntmps72
    go_wp2_with fail
    go_region_with (first | (go_at_call 141; refine (throughW_ B _ _ (by first | exact hI | exact hI.drew)).mono ?_; rintro e w1 ⟨rfl, rfl⟩) | (go_at_call 145; refine (rset_ _ _ _ _ _).mono ?_; rintro e w1 ⟨rfl, hb⟩; obtain ⟨w2, rfl, hb2⟩ := unput hid hb; have hi2 : Inb B w2 := Inb.kept hid hb2))
    all_goals
      have hb3 : Below w.heap.size w w2 := undrew (undrew hb2)
      exact bodyPost_end (results_none rfl _ _ _) rfl (Post.done (v := ()) (by simp [setS, *]) rfl hb3 (hI.kept hb3))
end Go.Proofs.YtnaampdpkegacaaGreatDoor
