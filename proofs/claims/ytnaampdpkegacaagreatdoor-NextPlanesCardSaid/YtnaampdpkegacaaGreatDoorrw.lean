/-
  Contract of the reference 12's first. A helper of the claims that stand beside it. (Printed by wip/genrw.py.)
-/
import Derived.Deep.LoopGhost
import Derived.Test.YtnaampdpkegacaaGreatDoorrs
import Derived.Test.YtnaampdpkegacaaGreatDoorrt
import Derived.Test.YtnaampdpkegacaaGreatDoorrv
namespace Go.Proofs.YtnaampdpkegacaaGreatDoor
open Go.RowKit

theorem feed_keeps {α : Type} : ∀ (t : T α) (got : List U8) (d : Fd), d.lacks = true → (t.feed got d).2 = d
  | .ret _, _, _, _ => rfl
  | .ask c k, got, d, h => by
    simp only [T.feed, h]
    exact feed_keeps (k zero8) got d h
theorem runQ_lacks {α : Type} (m : QM α) (s : QS) (h : s.fd.lacks = true) : (runQ m s).2.fd = s.fd := feed_keeps (m s.toQC) s.got s.fd h
theorem runQ_gv {α : Type} (m : QM α) (s : QS) : (runQ m s).2.gv = s.gv ∧ (runQ m s).2.got = s.got := ⟨rfl, rfl⟩
/-- What first leaves: the machine's, or both lack the same. -/
def LPost (B : Nat) (w : World) (p : Unit × QS) (e : Ending) (w' : World) : Prop :=
  e = .returned (.tuple #[]) ∧ ∃ s2 w1, w' = put w1 B s2.cells ∧ Below w.heap.size w w1 ∧ QInv B w1 s2.gv s2.got ∧ s2.fd = p.2.fd ∧ (p.2.fd.lacks = false → s2 = p.2)
theorem LPost.same {B : Nat} {w w1 : World} {p : Unit × QS} {v : Unit} {s' : QS} (hm : p = (v, s')) (hb : Below w.heap.size w w1) (hI : QInv B w1 s'.gv s'.got) : LPost B w p (.returned (.tuple #[])) (put w1 B s'.cells) := by
  subst hm; exact ⟨rfl, s', w1, rfl, hb, hI, rfl, fun _ => rfl⟩
theorem LPost.lack {B : Nat} {w w1 : World} {p : Unit × QS} {m : QM Unit} {s' : QS} (hm : p = runQ m s') (hl : s'.fd.lacks = true) (hb : Below w.heap.size w w1) (hI : QInv B w1 s'.gv s'.got) : LPost B w p (.returned (.tuple #[])) (put w1 B s'.cells) := by
  refine ⟨rfl, s', w1, rfl, hb, hI, ?_, fun h => ?_⟩
  · rw [hm, runQ_lacks _ _ hl]
  · rw [hm, runQ_lacks _ _ hl, hl] at h; cases h
def onQ (n : Nat) (p : Int) (b : U8) : QM Unit := do
  let q ← prefQ n p b
  restQ q.1 q.2
theorem onQ_no (n : Nat) (p : Int) (b : U8) (s : QS) (h : ¬ (b.v = 221 ∨ b.v = 253)) : runQ (onQ n p b) s = runQ (restQ p b) s := by
  cases n with
  | zero => simp [onQ, prefQ]
  | succ n => simp [onQ, prefQ, h]
theorem onQ_yes (g : Nat) (p : Int) (b : U8) (s : QS) (h : b.v = 221 ∨ b.v = 253) : runQ (onQ (g + 1) p b) s = runQ (onQ g (if b.v = 253 then 4 else 3) (runQ fetchQ s).1) (runQ fetchQ s).2 := by
  simp [onQ, prefQ, h]
theorem fetchQ_len {s s1 : QS} {v : U8} (h : runQ fetchQ s = (v, s1)) (hl : s.fd.lacks = false) : s1.got = s.got ∧ (s1.fd.lacks = true ∨ (s.fd.at' < s.got.length ∧ s1.fd.at' = s.fd.at' + 1)) := by
  have hg : s1.got = s.got := by have := (runQ_gv fetchQ s).2; rw [h] at this; exact this
  refine ⟨hg, ?_⟩
  cases hx : s.got[s.fd.at']? with
  | none =>
    have e := cycleQ_no ⟨1, s.r.pc, u8 0, 4⟩ s hl hx
    simp [fetchQ, tickQ, e] at h
    obtain ⟨_, rfl⟩ := h
    exact .inl rfl
  | some x =>
    have e := cycleQ_yes ⟨1, s.r.pc, u8 0, 4⟩ s x hl hx
    simp [fetchQ, tickQ, e] at h
    obtain ⟨_, rfl⟩ := h
    refine .inr ⟨?_, rfl⟩
    rcases Nat.lt_or_ge s.fd.at' s.got.length with h | h
    · exact h
    · rw [List.getElem?_eq_none_iff.2 h] at hx; cases hx
/-- What holds at the head of the loop over prefixes. -/
def QPrefRel (B n : Nat) (b : U8) (s : QS) (w : World) (g : Nat) (pl bb : Value) (W : World) : Prop := ∃ (p : Int) (c : U8) (s1 : QS) (w1 : World), pl = .int .i64 p ∧ bb = .int .u8 c.v ∧ W = put w1 B s1.cells ∧ (s1.fd.lacks = true ∨ (s1.fd.at' ≤ s1.got.length ∧ s1.got.length < s1.fd.at' + g)) ∧ (p = 0 ∨ p = 3 ∨ p = 4) ∧ Below w.heap.size w w1 ∧ QInv B w1 s1.gv s1.got ∧ runQ (firstQ n b) s = runQ (onQ g p c) s1
set_option maxHeartbeats 6000000 in
set_option maxRecDepth 20000 in
theorem firstQ_ (B n : Nat) (b : U8) (s : QS) (w : World) (hI : QInv B w s.gv s.got) (hn : s.fd.lacks = true ∨ (s.fd.at' ≤ s.got.length ∧ s.got.length < s.fd.at' + n)) : Calls Tryz.prog 30 #[.pointer (some ⟨B, 0, none⟩), .int .u8 b.v] (put w B s.cells) (LPost B w (runQ (firstQ n b) s)) := by
  have hi := hI.inb
  generalize hM : runQ (firstQ n b) s = M
  have hM' := Lib.hid hM
  have hI' := Lib.hid hI
  clear hM hI
  go_enter Tryz.func30, Tryz.ntmps30
  go_wp2_with fail
  go_loopg [4, 1] n (fun g pl bb W => QPrefRel B n b s w g pl bb W)
  case atStart => exact ⟨0, b, s, w, rfl, rfl, rfl, hn, .inl rfl, Below.refl _ _, hI'.out, rfl⟩
  case round =>
    obtain ⟨p, c, s1, w1, rfl, rfl, rfl, hg, hp, hb0, hI, hE⟩ := hrel
    have hE0 := Lib.hid hE
    replace hE := hM'.out.symm.trans hE
    clear hI'
    replace hi := hI.inb
    rcases (Bool.eq_false_or_eq_true s1.fd.lacks) with hl | hl
    · have hE2 := Lib.hid hE
      clear hE hE0 hg
      rcases (show c.v = 221 ∨ (¬ c.v = 221 ∧ c.v = 253) ∨ (¬ c.v = 221 ∧ ¬ c.v = 253) by omega) with hc | ⟨hc, hc2⟩ | ⟨hc, hc2⟩
      all_goals
        go_wp2
        exact bodyPost_end (results_none rfl _ _ _) rfl (LPost.lack hE2.out hl hb0 hI)
    · have hg' : s1.fd.at' ≤ s1.got.length ∧ s1.got.length < s1.fd.at' + gk := by
        rcases hg with h | h
        · rw [hl] at h; cases h
        · exact h
      clear hg
      obtain ⟨g, rfl⟩ : ∃ g', gk = g' + 1 := ⟨gk - 1, by omega⟩
      by_cases hc : c.v = 221 ∨ c.v = 253
      · have hE3 := Lib.hid (hE0.out.trans (onQ_yes g p c s1 hc))
        clear hE hE0
        have hg2 := Lib.hid hg'
        clear hg'
        rcases hc with hc | hc
        all_goals
          go_wp2_with ((go_at_call 29; refine (fetchQ_ B  _ _ (by assumption)).mono (QPost.thru hb0 (fun v s1 w1 hq hb0 hI hi => ?_))))
          go_roundg g
          case measure => exact Nat.lt_succ_self _
          case rel =>
            obtain ⟨hgot, hl1⟩ := fetchQ_len hq hl
            have hg3 := hg2.out
            refine ⟨_, _, _, _, rfl, rfl, rfl, ?_, by simp, hb0, hI, ?_⟩
            · rcases hl1 with h | ⟨h, h2⟩
              · exact .inl h
              · exact .inr (by rw [hgot, h2]; omega)
            · rw [hE3.out, hq]
              simp [hc]
      · have hE2 := Lib.hid (hE.trans (onQ_no (g + 1) p c s1 hc))
        clear hE hE0 hg'
        have m1 : ¬ c.v = 221 := fun h => hc (.inl h)
        have m2 : ¬ c.v = 253 := fun h => hc (.inr h)
        have n1 : (c.v == 221) = false := by simpa using m1
        have n2 : (c.v == 253) = false := by simpa using m2
        clear hc
        by_cases h237 : c.v = 237
        · go_wp2_with (first | (go_at_call 29; refine (fetchQ_ B  _ _ (by assumption)).mono (QPost.thru hb0 (fun v s1 w1 hq hb0 hI hi => ?_))) | (go_at_call 53; refine (edQ_ B _ _ _ (by assumption)).mono (QPost.thru hb0 (fun v s1 w1 hq hb0 hI hi => ?_))) | (go_at_call 54; refine (bitQ_ B _ _ _ _ (by assumption)).mono (QPost.thru hb0 (fun v s1 w1 hq hb0 hI hi => ?_))) | (go_at_call 55; refine (numberQ_ B  _ _ (by assumption)).mono (QPost.thru hb0 (fun v s1 w1 hq hb0 hI hi => ?_))) | (go_at_call 57; refine (hlQ_ B _ _ (by assumption)).mono ?_; rintro e w1 ⟨rfl, hb⟩; obtain ⟨w2, rfl, hb2⟩ := unput hi hb; replace hb0 := bt hb0 hb2; replace hI := hI.kept hb2; have hi := hI.inb) | (go_at_call 56; refine (pNear_ _ _ _).mono ?_; rintro e w1 ⟨rfl, rfl⟩) | (go_at_call 58; refine (statesQ_ B _ _ _ (by assumption)).mono (QPost.thru hb0 (fun v s1 w1 hq hb0 hI hi => ?_))) | (go_at_call 59; refine (plainQ_ B _ _ _ _ (by assumption)).mono (QPost.thru hb0 (fun v s1 w1 hq hb0 hI hi => ?_))))
          all_goals first
            | (refine bodyPost_end (results_none rfl _ _ _) rfl (LPost.same (v := ()) ?_ hb0 hI); rw [hE2.out]; simp [restQ, *]; done)
        · have n3 : (c.v == 237) = false := by simpa using h237
          by_cases h203 : c.v = 203
          · rcases hp with rfl | rfl | rfl
            all_goals
              go_wp2_with (first | (go_at_call 29; refine (fetchQ_ B  _ _ (by assumption)).mono (QPost.thru hb0 (fun v s1 w1 hq hb0 hI hi => ?_))) | (go_at_call 53; refine (edQ_ B _ _ _ (by assumption)).mono (QPost.thru hb0 (fun v s1 w1 hq hb0 hI hi => ?_))) | (go_at_call 54; refine (bitQ_ B _ _ _ _ (by assumption)).mono (QPost.thru hb0 (fun v s1 w1 hq hb0 hI hi => ?_))) | (go_at_call 55; refine (numberQ_ B  _ _ (by assumption)).mono (QPost.thru hb0 (fun v s1 w1 hq hb0 hI hi => ?_))) | (go_at_call 57; refine (hlQ_ B _ _ (by assumption)).mono ?_; rintro e w1 ⟨rfl, hb⟩; obtain ⟨w2, rfl, hb2⟩ := unput hi hb; replace hb0 := bt hb0 hb2; replace hI := hI.kept hb2; have hi := hI.inb) | (go_at_call 56; refine (pNear_ _ _ _).mono ?_; rintro e w1 ⟨rfl, rfl⟩) | (go_at_call 58; refine (statesQ_ B _ _ _ (by assumption)).mono (QPost.thru hb0 (fun v s1 w1 hq hb0 hI hi => ?_))) | (go_at_call 59; refine (plainQ_ B _ _ _ _ (by assumption)).mono (QPost.thru hb0 (fun v s1 w1 hq hb0 hI hi => ?_))))
            all_goals first
              | (refine bodyPost_end (results_none rfl _ _ _) rfl (LPost.same (v := ()) ?_ hb0 hI); rw [hE2.out]; simp [restQ, QC.hl', *]; done)
          · have n4 : (c.v == 203) = false := by simpa using h203
            go_wp2_with (first | (go_at_call 29; refine (fetchQ_ B  _ _ (by assumption)).mono (QPost.thru hb0 (fun v s1 w1 hq hb0 hI hi => ?_))) | (go_at_call 53; refine (edQ_ B _ _ _ (by assumption)).mono (QPost.thru hb0 (fun v s1 w1 hq hb0 hI hi => ?_))) | (go_at_call 54; refine (bitQ_ B _ _ _ _ (by assumption)).mono (QPost.thru hb0 (fun v s1 w1 hq hb0 hI hi => ?_))) | (go_at_call 55; refine (numberQ_ B  _ _ (by assumption)).mono (QPost.thru hb0 (fun v s1 w1 hq hb0 hI hi => ?_))) | (go_at_call 57; refine (hlQ_ B _ _ (by assumption)).mono ?_; rintro e w1 ⟨rfl, hb⟩; obtain ⟨w2, rfl, hb2⟩ := unput hi hb; replace hb0 := bt hb0 hb2; replace hI := hI.kept hb2; have hi := hI.inb) | (go_at_call 56; refine (pNear_ _ _ _).mono ?_; rintro e w1 ⟨rfl, rfl⟩) | (go_at_call 58; refine (statesQ_ B _ _ _ (by assumption)).mono (QPost.thru hb0 (fun v s1 w1 hq hb0 hI hi => ?_))) | (go_at_call 59; refine (plainQ_ B _ _ _ _ (by assumption)).mono (QPost.thru hb0 (fun v s1 w1 hq hb0 hI hi => ?_))))
            all_goals first
              | (refine bodyPost_end (results_none rfl _ _ _) rfl (LPost.same (v := ()) ?_ hb0 hI); rw [hE2.out]; simp [restQ, *]; done)

end Go.Proofs.YtnaampdpkegacaaGreatDoor
