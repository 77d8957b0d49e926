/-
  Contract of next's first. A helper of the claim that stands beside it. (Printed by a program of wip/.)
-/
import Derived.Deep.LoopGhost
import Derived.Test.YtnaampdpkegacaaGreatDoord
import Derived.Test.YtnaampdpkegacaaGreatDoor4
import Derived.Test.YtnaampdpkegacaaGreatDoor7
import Derived.Test.YtnaampdpkegacaaGreatDoor8
namespace Go.Proofs.YtnaampdpkegacaaGreatDoor
open Go.RowKit

/-- The quarter of a code. -/
def quarterS : PM Unit := do
  let s ← PM.get
  if s.x = 0 then lowS else if s.x = 1 then moveS else if s.x = 2 then sumsS else highS
/-- An instruction behind its prefixes. -/
def restS (plane : Int) (b : U8) : PM Unit := do
  if b.v = 237 then do
    let c ← fetchS
    ofS 2 c
    farS
  else if b.v = 203 then do
    if plane = 0 then do
      let c ← fetchS
      ofS 1 c
      bitS
    else do
      PM.mod fun s => { s with plane := plane }
      let d ← numberS
      mvS d
      let c ← numberS
      ofS (plane + 2) c
      statesS 2
      bitS
  else do
    ofS plane b
    quarterS
/-- The prefixes, so many at most. -/
def prefS : Nat → Int → U8 → PM (Int × U8)
  | 0, p, b => pure (p, b)
  | n + 1, p, b => if b.v = 221 ∨ b.v = 253 then do
      let c ← fetchS
      prefS n (if b.v = 253 then 4 else 3) c
    else pure (p, b)
def onS (n : Nat) (p : Int) (b : U8) : PM Unit := do
  let q ← prefS n p b
  restS q.1 q.2
def firstS (n : Nat) (b : U8) : PM Unit := onS n 0 b
theorem fetch_len {s s1 : PS} {v : U8} (h : run fetchS s = .ok (v, s1)) : s1.got.length < s.got.length := by
  unfold fetchS at h
  simp only [run_bind, run_get] at h
  cases hg : s.got with
  | nil => rw [run_cycle_no _ _ hg] at h; cases h
  | cons x l =>
    rw [run_cycle_yes _ _ x l hg] at h
    simp only [run_mod, tickS, run_pure] at h
    cases h
    exact Nat.lt_succ_self _
theorem on_yes (n : Nat) (p : Int) (b : U8) (s : PS) (h : b.v = 221 ∨ b.v = 253) : run (onS (n + 1) p b) s = match run fetchS s with | .error c => .error c | .ok q => run (onS n (if b.v = 253 then 4 else 3) q.1) q.2 := by
  unfold onS
  rw [show prefS (n + 1) p b = (if b.v = 221 ∨ b.v = 253 then do
      let c ← fetchS
      prefS n (if b.v = 253 then 4 else 3) c
    else pure (p, b)) from rfl, if_pos h]
  simp only [run_bind]
  cases run fetchS s with
  | error c => rfl
  | ok q => rfl
theorem on_no (n : Nat) (p : Int) (b : U8) (s : PS) (h : ¬ (b.v = 221 ∨ b.v = 253)) : run (onS (n + 1) p b) s = run (restS p b) s := by
  unfold onS
  rw [show prefS (n + 1) p b = (if b.v = 221 ∨ b.v = 253 then do
      let c ← fetchS
      prefS n (if b.v = 253 then 4 else 3) c
    else pure (p, b)) from rfl, if_neg h]
  simp only [run_bind, run_pure]
set_option maxRecDepth 4000 in
theorem ofX_ (B : Nat) (plane : Int) (code : U8) (s : PS) (w : World) (hI : Inv B w s.gv s.got) : Calls Tryz.prog 42 #[.pointer (some ⟨B, 0, none⟩), .int .i64 plane, .int .u8 code.v] (put w B s.cells) fun e w' => e = .returned (.tuple #[]) ∧ put w B (PS.cells { s with plane := plane, code := code, x := fx code, y := fy code, z := fz code, p := fy code / 2, q := fy code % 2 }) = w' := by
  have hi := hI.inb
  go_enter Tryz.func42, Tryz.ntmps42
  go_wp2_with (go_at_call 62; refine (fields_ _ _).mono ?_; rintro e w1 ⟨rfl, rfl⟩)
  exact bodyPost_end (results_none rfl _ _ _) rfl ⟨rfl, rfl⟩
theorem fx_cases (c : U8) : fx c = 0 ∨ fx c = 1 ∨ fx c = 2 ∨ fx c = 3 := by
  have := c.h0; have := c.h1; unfold fx; omega
@[go_sem ↓ high] theorem st_quarters (a : Addr) (v : Value) : storeVar 73 a v = st 73 a v := rfl
@[go_sem] theorem st_quarters_run (w : World) (n : Nat) (f g h i : Fn) (a b c d a' b' c' d' : Array Value) (ht : w.there n 0 (3 + 1)) :
    (st 73 ⟨n, 0, none⟩ (.agg #[.func f a a', .func g b b', .func h c c', .func i d d'])).run Tryz.prog w = .ok () (w.setCells n 0 [.func f a a', .func g b b', .func h c c', .func i d d']) := by
  unfold st storeVar
  rw [Sem.run_bind, Tryz.sizeOf73, Result.andThen_ok]
  have e : (Value.agg #[.func f a a', .func g b b', .func h c c', .func i d d']).cells = #[.func f a a', .func g b b', .func h c c', .func i d d'] := rfl
  rw [e, if_neg (by simp)]
  exact stCells w n 0 [.func f a a', .func g b b', .func h c c', .func i d d'] ht (by simp [Value.oneCell'])
@[go_sem] theorem ov4 (a b c d e f g h : Value) : ov #[a, b, c, d] 0 [e, f, g, h] = #[e, f, g, h] := rfl
/-- What holds at the head of the loop over prefixes. -/
def PrefRel (B n : Nat) (b : U8) (s : PS) (w : World) (g : Nat) (pl bb : Value) (W : World) : Prop := ∃ (p : Int) (c : U8) (s1 : PS) (w1 : World), pl = .int .i64 p ∧ bb = .int .u8 c.v ∧ W = put w1 B s1.cells ∧ s1.got.length < g ∧ (p = 0 ∨ p = 3 ∨ p = 4) ∧ Below w.heap.size w w1 ∧ Inv B w1 s1.gv s1.got ∧ run (firstS n b) s = run (onS g p c) s1
set_option maxHeartbeats 6000000 in
set_option maxRecDepth 20000 in
theorem firstW_ (B n : Nat) (b : U8) (s : PS) (w : World) (hI : Inv B w s.gv s.got) (hn : s.got.length < n) : Calls Tryz.prog 24 #[.pointer (some ⟨B, 0, none⟩), .int .u8 b.v] (put w B s.cells) (Post B w eU (run (firstS n b) s)) := by
  have hmf : ∀ (fn : Fn) (first cap : Array Value) (w : World), (Instr.makeFunc fn first cap).run Tryz.prog w = .ok (.func fn first cap) w := fun _ _ _ _ => rfl
  have hi := hI.inb
  generalize hM : run (firstS n b) s = M
  have hM' := Lib.hid hM
  have hI' := Lib.hid hI
  clear hM hI
  go_enter Tryz.func24, Tryz.ntmps24
  go_wp2_with fail
  go_loopg [4, 1] n (fun g pl bb W => PrefRel B n b s w g pl bb W)
  case atStart => exact ⟨0, b, s, w, rfl, rfl, rfl, hn, .inl rfl, Below.refl _ _, hI'.out, rfl⟩
  case round =>
    obtain ⟨p, c, s1, w1, rfl, rfl, rfl, hg, hp, hb0, hI, hE⟩ := hrel
    have hE0 := Lib.hid hE
    replace hE := hM'.out.symm.trans hE
    clear hI'
    replace hi := hI.inb
    obtain ⟨g, rfl⟩ : ∃ g', gk = g' + 1 := ⟨gk - 1, by omega⟩
    by_cases hc : c.v = 221 ∨ c.v = 253
    · have hE2 := Lib.hid (hE.trans (on_yes g p c s1 hc))
      have hE3 := Lib.hid (hE0.out.trans (on_yes g p c s1 hc))
      clear hE hE0
      rcases hc with hc | hc
      all_goals
        have hg' := Lib.hid hg
        clear hg
        go_wp2_with ((go_at_call 25; refine (fetchW_ B  _ _ (by assumption)).mono (Post.thruF fr_fetch hb0 (fun c s1 w1 hq hb0 hi => ?_) (fun v s1 w1 hq f1 f2 f3 f4 f5 f6 f7 hb0 hI hi => ?_))))
        · refine ⟨rfl, Post.err _ ?_ hb0 hi⟩
          rw [hE2.out, hq]
        · go_roundg g
          case measure => exact Nat.lt_succ_self _
          case rel =>
            have hl := fetch_len hq
            have hg2 := hg'.out
            refine ⟨_, _, _, _, rfl, rfl, rfl, by omega, by simp, hb0, hI, ?_⟩
            rw [hE3.out, hq]
            simp [hc]
    · have hE2 := Lib.hid (hE.trans (on_no g p c s1 hc))
      clear hE hE0 hg
      have n1 : (c.v == 221) = false := by simpa using fun h => hc (.inl h)
      have n2 : (c.v == 253) = false := by simpa using fun h => hc (.inr h)
      clear hc
      by_cases h237 : c.v = 237
      · have OF := fun (f : U8) => ofX_ B 2 f
        go_wp2_with (first | (go_at_call 25; refine (fetchW_ B  _ _ (by assumption)).mono (Post.thruF fr_fetch hb0 (fun c s1 w1 hq hb0 hi => ?_) (fun v s1 w1 hq f1 f2 f3 f4 f5 f6 f7 hb0 hI hi => ?_))) | (go_at_call 46; refine (numberW_ B  _ _ (by assumption)).mono (Post.thruF fr_number hb0 (fun c s1 w1 hq hb0 hi => ?_) (fun v s1 w1 hq f1 f2 f3 f4 f5 f6 f7 hb0 hI hi => ?_))) | (go_at_call 45; refine (nearW_ B _ _ _ (by assumption)).mono (Post.thruF (fr_mv _) hb0 (fun c s1 w1 hq hb0 hi => ?_) (fun v s1 w1 hq f1 f2 f3 f4 f5 f6 f7 hb0 hI hi => ?_))) | (go_at_call 47; refine (statesW_ B _ _ _ (by assumption)).mono (Post.thruF (fr_states _) hb0 (fun c s1 w1 hq hb0 hi => ?_) (fun v s1 w1 hq f1 f2 f3 f4 f5 f6 f7 hb0 hI hi => ?_))) | (go_at_call 43; refine (farW_ B  _ _ (by assumption)).mono (Post.thruF fr_far hb0 (fun c s1 w1 hq hb0 hi => ?_) (fun v s1 w1 hq f1 f2 f3 f4 f5 f6 f7 hb0 hI hi => ?_))) | (go_at_call 44; refine (bitW_ B  _ _ (by assumption)).mono (Post.thru hb0 (fun c s1 w1 hq hb0 hi => ?_) (fun v s1 w1 hq hb0 hI hi => ?_))) | (go_at_call 42; refine (ofX_ B _ _ _ _ (by assumption)).mono ?_; rintro e w3 ⟨rfl, rfl⟩))
        all_goals first
          | (refine ⟨rfl, Post.err _ ?_ hb0 hi⟩; rw [hE2.out]; simp [restS, ofS, *]; done)
          | (refine bodyPost_end (results_none rfl _ _ _) rfl (Post.done (v := ()) ?_ rfl hb0 hI); rw [hE2.out]; simp [restS, ofS, *]; done)
      · have n3 : (c.v == 237) = false := by simpa using h237
        by_cases h203 : c.v = 203
        · rcases hp with rfl | rfl | rfl
          all_goals
            go_wp2_with (first | (go_at_call 25; refine (fetchW_ B  _ _ (by assumption)).mono (Post.thruF fr_fetch hb0 (fun c s1 w1 hq hb0 hi => ?_) (fun v s1 w1 hq f1 f2 f3 f4 f5 f6 f7 hb0 hI hi => ?_))) | (go_at_call 46; refine (numberW_ B  _ _ (by assumption)).mono (Post.thruF fr_number hb0 (fun c s1 w1 hq hb0 hi => ?_) (fun v s1 w1 hq f1 f2 f3 f4 f5 f6 f7 hb0 hI hi => ?_))) | (go_at_call 45; refine (nearW_ B _ _ _ (by assumption)).mono (Post.thruF (fr_mv _) hb0 (fun c s1 w1 hq hb0 hi => ?_) (fun v s1 w1 hq f1 f2 f3 f4 f5 f6 f7 hb0 hI hi => ?_))) | (go_at_call 47; refine (statesW_ B _ _ _ (by assumption)).mono (Post.thruF (fr_states _) hb0 (fun c s1 w1 hq hb0 hi => ?_) (fun v s1 w1 hq f1 f2 f3 f4 f5 f6 f7 hb0 hI hi => ?_))) | (go_at_call 43; refine (farW_ B  _ _ (by assumption)).mono (Post.thruF fr_far hb0 (fun c s1 w1 hq hb0 hi => ?_) (fun v s1 w1 hq f1 f2 f3 f4 f5 f6 f7 hb0 hI hi => ?_))) | (go_at_call 44; refine (bitW_ B  _ _ (by assumption)).mono (Post.thru hb0 (fun c s1 w1 hq hb0 hi => ?_) (fun v s1 w1 hq hb0 hI hi => ?_))) | (go_at_call 42; refine (ofX_ B _ _ _ _ (by assumption)).mono ?_; rintro e w3 ⟨rfl, rfl⟩))
          all_goals first
            | (refine ⟨rfl, Post.err _ ?_ hb0 hi⟩; rw [hE2.out]; simp [restS, ofS, *]; done)
            | (refine bodyPost_end (results_none rfl _ _ _) rfl (Post.done (v := ()) ?_ rfl hb0 hI); rw [hE2.out]; simp [restS, ofS, *]; done)
        · have n4 : (c.v == 203) = false := by simpa using h203
          have hne := hi.ne
          rcases fx_cases c with hx | hx | hx | hx
          all_goals
            go_wp2_with (first | (go_at_call 48; refine (lowW_ B  _ _ (by exact hI.kept ((Below.refl _ _).alloc (Nat.le_refl _) _))).mono (Post.thruF fr_low (bt hb0 ((Below.refl _ _).alloc (Nat.le_refl _) _)) (fun c s1 w1 hq hb0 hi => ?_) (fun v s1 w1 hq f1 f2 f3 f4 f5 f6 f7 hb0 hI hi => ?_))) | (go_at_call 49; refine (moveW_ B  _ _ (by exact hI.kept ((Below.refl _ _).alloc (Nat.le_refl _) _))).mono (Post.thruF fr_move (bt hb0 ((Below.refl _ _).alloc (Nat.le_refl _) _)) (fun c s1 w1 hq hb0 hi => ?_) (fun v s1 w1 hq f1 f2 f3 f4 f5 f6 f7 hb0 hI hi => ?_))) | (go_at_call 50; refine (sumsW_ B  _ _ (by exact hI.kept ((Below.refl _ _).alloc (Nat.le_refl _) _))).mono (Post.thruF fr_sums (bt hb0 ((Below.refl _ _).alloc (Nat.le_refl _) _)) (fun c s1 w1 hq hb0 hi => ?_) (fun v s1 w1 hq f1 f2 f3 f4 f5 f6 f7 hb0 hI hi => ?_))) | (go_at_call 51; refine (highW_ B  _ _ (by exact hI.kept ((Below.refl _ _).alloc (Nat.le_refl _) _))).mono (Post.thruF fr_high (bt hb0 ((Below.refl _ _).alloc (Nat.le_refl _) _)) (fun c s1 w1 hq hb0 hi => ?_) (fun v s1 w1 hq f1 f2 f3 f4 f5 f6 f7 hb0 hI hi => ?_))) | (go_at_call 42; refine (ofX_ B _ _ _ _ (by assumption)).mono ?_; rintro e w3 ⟨rfl, rfl⟩))
          all_goals first
            | (refine ⟨rfl, Post.err _ ?_ hb0 hi⟩; rw [hE2.out]; simp [restS, ofS, quarterS, *]; done)
            | (refine bodyPost_end (results_none rfl _ _ _) rfl (Post.done (v := ()) ?_ rfl hb0 hI); rw [hE2.out]; simp [restS, ofS, quarterS, *]; done)

end Go.Proofs.YtnaampdpkegacaaGreatDoor
