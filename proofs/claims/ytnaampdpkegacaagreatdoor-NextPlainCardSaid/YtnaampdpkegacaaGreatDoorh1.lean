/-
  Contracts of next's closures in Next and After. A helper of the claim that stands beside it. (Printed by a program of wip/.)
-/
import Derived.Test.YtnaampdpkegacaaGreatDoorg1
namespace Go.Proofs.YtnaampdpkegacaaGreatDoor
open Go.RowKit

/-- The work of Next, and of After. -/
def nextM (n : Nat) (h : Bool) : PM Unit := do
  if h then do
    let s ← PM.get
    let _ ← cycleS ⟨1, s.r.pc, u8 0, 4⟩
    tickS
  else do
    PM.mod fun s => { s with r := { s.r with late := false } }
    let b ← fetchS
    firstS n b
def afterM (n : Nat) (b : U8) : PM Unit := do
  PM.mod fun s => { s with r := { s.r with late := false } }
  firstS n b
set_option maxHeartbeats 4000000 in
set_option maxRecDepth 20000 in
theorem next1_ (B H V n : Nat) (h : Bool) (s : PS) (w : World) (hI : Inv B w s.gv s.got) (hn : s.got.length < n) (hH : w.cell? ⟨H, 17, none⟩ = some (.bool h)) (hV : w.cell? ⟨V, 0, none⟩ = some (.pointer (some ⟨B, 0, none⟩))) (hHB : ¬ H = B) (hVB : ¬ V = B) :
    Calls Tryz.prog 21 #[.pointer (some ⟨H, 0, none⟩), .pointer (some ⟨V, 0, none⟩)] (put w B s.cells) (Post B w eU (run (nextM n h) s)) := by
  have hi := hI.inb
  have hb0 := Below.refl w.heap.size w
  have hVk := kept hb0 hV
  cases h
  · go_enter Tryz.func21, Tryz.ntmps21
    go_wp2
    replace hb0 := bt hb0 (Below.refl _ _).drew
    replace hI := Inv.drew hI
    replace hi := Inv.inb hI
    have hVk := kept hb0 hV
    go_region_with (first | (go_at_call 25; refine (fetchW_ B  _ _ (by assumption)).mono (Post.thruF fr_fetch hb0 (fun c s1 w1 hq hb0 hi => ?_) (fun v s1 w1 hq f1 f2 f3 f4 f5 f6 f7 hb0 hI hi => ?_)); (· exact ⟨rfl, Post.err _ (by simp [nextM, *]) hb0 hi⟩); have hVk := kept hb0 hV) | (go_at_call 24; refine (firstW_ B n _ _ _ (by assumption) (by first | exact hn | exact Nat.lt_trans (fetch_len hq) hn)).mono (Post.thru hb0 (fun c s1 w1 hq hb0 hi => ?_) (fun v s1 w1 hq hb0 hI hi => ?_)); (· exact ⟨rfl, Post.err _ (by simp [nextM, *]) hb0 hi⟩)))
    all_goals (try go_wp2)
    all_goals first
      | (refine bodyPost_end (results_none rfl _ _ _) rfl (Post.done (v := ()) ?_ rfl hb0 hI); simp [nextM, *]; done)
  · go_enter Tryz.func21, Tryz.ntmps21
    go_wp2
    replace hb0 := bt hb0 (Below.refl _ _).drew
    replace hI := Inv.drew hI
    replace hi := Inv.inb hI
    have hVk := kept hb0 hV
    go_region_with (first | (go_at_call 22; refine (cycle_ B ⟨1, s.r.pc, u8 0, 4⟩ _ _ (by assumption)).mono (Post.thru hb0 (fun c s1 w1 hq hb0 hi => ?_) (fun v s1 w1 hq hb0 hI hi => ?_)); (· exact ⟨rfl, Post.err _ (by simp [nextM, *]) hb0 hi⟩); have hVk := kept hb0 hV))
    all_goals (try go_wp2_with (first | (go_at_call 23; refine (tick_ B  _ _ (by assumption)).mono (Post.thruF fr_tick hb0 (fun c s1 w1 hq hb0 hi => ?_) (fun v s1 w1 hq f1 f2 f3 f4 f5 f6 f7 hb0 hI hi => ?_)) <;> have hVk := kept hb0 hV)))
    all_goals first
      | (refine ⟨rfl, Post.err _ ?_ hb0 hi⟩; simp [nextM, *]; done)
      | (refine bodyPost_end (results_none rfl _ _ _) rfl (Post.done (v := ()) ?_ rfl hb0 hI); simp [nextM, *]; done)
      | (refine bodyPost_ret (results_none rfl _ _ _) rfl (Post.done (v := ()) ?_ rfl hb0 hI); simp [nextM, *]; done)
set_option maxHeartbeats 4000000 in
set_option maxRecDepth 20000 in
theorem after1_ (B V C n : Nat) (b : U8) (s : PS) (w : World) (hI : Inv B w s.gv s.got) (hn : s.got.length < n) (hV : w.cell? ⟨V, 0, none⟩ = some (.pointer (some ⟨B, 0, none⟩))) (hC : w.cell? ⟨C, 0, none⟩ = some (.int .u8 b.v)) (hVB : ¬ V = B) (hCB : ¬ C = B) :
    Calls Tryz.prog 31 #[.pointer (some ⟨V, 0, none⟩), .pointer (some ⟨C, 0, none⟩)] (put w B s.cells) (Post B w eU (run (afterM n b) s)) := by
  have hi := hI.inb
  have hb0 := Below.refl w.heap.size w
  go_enter Tryz.func31, Tryz.ntmps31
  go_wp2_with ((go_at_call 24; refine (firstW_ B n _ _ _ (by assumption) (by first | exact hn | exact Nat.lt_trans (fetch_len hq) hn)).mono (Post.thru hb0 (fun c s1 w1 hq hb0 hi => ?_) (fun v s1 w1 hq hb0 hI hi => ?_))))
  all_goals first
    | (refine ⟨rfl, Post.err _ ?_ hb0 hi⟩; simp [afterM, *]; done)
    | (refine bodyPost_end (results_none rfl _ _ _) rfl (Post.done (v := ()) ?_ rfl hb0 hI); simp [afterM, *]; done)
end Go.Proofs.YtnaampdpkegacaaGreatDoor
