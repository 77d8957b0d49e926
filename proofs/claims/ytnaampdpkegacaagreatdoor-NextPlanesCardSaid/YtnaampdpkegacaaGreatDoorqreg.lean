/-
  Contracts of the reference 11 (registers). A helper of the claims that stand beside it.
-/
import Derived.Test.YtnaampdpkegacaaGreatDoorqbase
import Derived.StillTailTactics
import Derived.Test.YtnaampdpkegacaaGreatDoorrm

namespace Go.Proofs.YtnaampdpkegacaaGreatDoor
open Go.RowKit

theorem getP_eq (r : R) (plane p : Int) : getP r plane p = if p = 0 then r.bc else if p = 1 then r.de else if p = 2 then (if plane = 3 then r.ix else if plane = 4 then r.iy else r.hl) else if p = 3 then r.sp else u16 0 := by
  unfold getP poff
  by_cases h0 : p = 0
  · subst h0; rfl
  by_cases h1 : p = 1
  · subst h1; rfl
  by_cases h2 : p = 2
  · subst h2
    by_cases h3 : plane = 3
    · subst h3; rfl
    by_cases h4 : plane = 4
    · subst h4; rfl
    simp [h3, h4, R.at]
  by_cases h3 : p = 3
  · subst h3; rfl
  simp [h0, h1, h2, h3]
set_option maxHeartbeats 2000000 in
theorem r11pair_ (r : R) (plane p : Int) (w : World) : Calls Tryz.prog 104 #[.agg r.cells, .int .i64 plane, .int .i64 p] w fun e w' => e = .returned (.int .u16 (getP r plane p).v) ∧ Below w.heap.size w w' := by
  rw [getP_eq]
  rcases (show p = 0 ∨ p = 1 ∨ (p = 2 ∧ plane = 3) ∨ (p = 2 ∧ plane = 4) ∨ (p = 2 ∧ ¬ plane = 3 ∧ ¬ plane = 4) ∨ p = 3 ∨ (¬ p = 0 ∧ ¬ p = 1 ∧ ¬ p = 2 ∧ ¬ p = 3) by omega) with rfl | rfl | ⟨rfl, rfl⟩ | ⟨rfl, rfl⟩ | ⟨rfl, h3, h4⟩ | rfl | ⟨h0, h1, h2, h3⟩
  all_goals
    go_enter Tryz.func104, Tryz.ntmps104
    go_wp2
    go_ret
    exact ⟨by simp [*]; try rfl, by go_grown⟩
theorem setP_eq (r : R) (plane p : Int) (v : U16) : setP r plane p v = if p = 0 then { r with bc := v } else if p = 1 then { r with de := v } else if p = 2 then (if plane = 3 then { r with ix := v } else if plane = 4 then { r with iy := v } else { r with hl := v }) else if p = 3 then { r with sp := v } else r := by
  unfold setP poff
  by_cases h0 : p = 0
  · subst h0; rfl
  by_cases h1 : p = 1
  · subst h1; rfl
  by_cases h2 : p = 2
  · subst h2
    by_cases h3 : plane = 3
    · subst h3; rfl
    by_cases h4 : plane = 4
    · subst h4; rfl
    simp [h3, h4, R.putAt]
  by_cases h3 : p = 3
  · subst h3; rfl
  simp [h0, h1, h2, h3]
set_option maxHeartbeats 2000000 in
theorem r11setpair_ (r : R) (plane p : Int) (v : U16) (w : World) : Calls Tryz.prog 194 #[.agg r.cells, .int .i64 plane, .int .i64 p, .int .u16 v.v] w fun e w' => e = .returned (.agg (setP r plane p v).cells) ∧ Below w.heap.size w w' := by
  rw [setP_eq]
  rcases (show p = 0 ∨ p = 1 ∨ (p = 2 ∧ plane = 3) ∨ (p = 2 ∧ plane = 4) ∨ (p = 2 ∧ ¬ plane = 3 ∧ ¬ plane = 4) ∨ p = 3 ∨ (¬ p = 0 ∧ ¬ p = 1 ∧ ¬ p = 2 ∧ ¬ p = 3) by omega) with rfl | rfl | ⟨rfl, rfl⟩ | ⟨rfl, rfl⟩ | ⟨rfl, h3, h4⟩ | rfl | ⟨h0, h1, h2, h3⟩
  all_goals
    go_enter Tryz.func194, Tryz.ntmps194
    go_wp2
    refine ret_regs rfl _ rfl _ ?_ rfl ⟨rfl, by go_grown⟩
    simp [go_sem, *]
set_option maxHeartbeats 2000000 in
theorem r11swap_ (r : R) (w : World) : Calls Tryz.prog 249 #[.agg r.cells] w fun e w' => e = .returned (.agg (swapR r).cells) ∧ Below w.heap.size w w' := by
  go_enter Tryz.func249, Tryz.ntmps249
  go_wp2
  refine ret_regs rfl _ rfl (swapR r) ?_ rfl ⟨rfl, by go_grown⟩
  simp [go_sem, swapR]
set_option maxHeartbeats 2000000 in
theorem r11exx_ (r : R) (w : World) : Calls Tryz.prog 259 #[.agg r.cells] w fun e w' => e = .returned (.agg (exxR r).cells) ∧ Below w.heap.size w w' := by
  go_enter Tryz.func259, Tryz.ntmps259
  go_wp2
  refine ret_regs rfl _ rfl (exxR r) ?_ rfl ⟨rfl, by go_grown⟩
  simp [go_sem, exxR]
end Go.Proofs.YtnaampdpkegacaaGreatDoor

namespace Go.Proofs.YtnaampdpkegacaaGreatDoor
open Go.RowKit

theorem getR_eq (r : R) (plane k : Int) : getR r plane k = if k = 7 then r.af.hi else if k < 0 ∨ 5 < k then u8 0 else if k % 2 = 0 then (getP r plane (k / 2)).hi else (getP r plane (k / 2)).lo := by
  unfold getR halfS getP
  by_cases h7 : k = 7
  · subst h7; rfl
  by_cases h5 : k < 0 ∨ 5 < k
  · simp [h7, h5]
  · by_cases h2 : k % 2 = 0
    · simp only [if_neg h7, if_neg h5, h2]
      cases poff plane (k / 2) <;> rfl
    · simp only [if_neg h7, if_neg h5, if_neg h2]
      have : (k % 2 == 0) = false := by simpa using h2
      rw [this]
      cases poff plane (k / 2) <;> rfl
set_option maxHeartbeats 2000000 in
theorem r11get_ (r : R) (plane k : Int) (w : World) : Calls Tryz.prog 189 #[.agg r.cells, .int .i64 plane, .int .i64 k] w fun e w' => e = .returned (.int .u8 (getR r plane k).v) ∧ Below w.heap.size w w' := by
  rw [getR_eq]
  rcases (show k = 7 ∨ k < 0 ∨ (¬ k = 7 ∧ ¬ k < 0 ∧ 5 < k) ∨ k = 0 ∨ k = 1 ∨ k = 2 ∨ k = 3 ∨ k = 4 ∨ k = 5 by omega) with rfl | h0 | ⟨h7, h0, h5⟩ | rfl | rfl | rfl | rfl | rfl | rfl
  all_goals
    go_enter Tryz.func189, Tryz.ntmps189
    go_wp2_with (first | (go_at_call 104; refine (r11pair_ _ _ _ _).mono ?_; rintro e w1 ⟨rfl, hb1⟩) | (go_at_call 111; refine (r01hi_ _ (U16.h0 _) (U16.h1 _) _).mono ?_; rintro e w1 ⟨rfl, rfl⟩) | (go_at_call 177; refine (r01lo_ _ (U16.h0 _) (U16.h1 _) _).mono ?_; rintro e w1 ⟨rfl, rfl⟩))
    go_ret
    exact ⟨by first | rfl | (simp [*]; done) | (simp [*]; rfl) | (rw [if_neg (by omega), if_pos (by omega)]; rfl), by first | (exact bt (by go_grown) hb1) | go_grown⟩
end Go.Proofs.YtnaampdpkegacaaGreatDoor

namespace Go.Proofs.YtnaampdpkegacaaGreatDoor
open Go.RowKit

theorem setR_eq (r : R) (plane k : Int) (b : U8) : setR r plane k b = if k = 7 then { r with af := b.word r.af.lo } else if k < 0 ∨ 5 < k then r else if k % 2 = 0 then setP r plane (k / 2) (b.word (getP r plane (k / 2)).lo) else setP r plane (k / 2) ((getP r plane (k / 2)).hi.word b) := by
  unfold setR halfS getP setP
  by_cases h7 : k = 7
  · subst h7; rfl
  by_cases h5 : k < 0 ∨ 5 < k
  · simp [h7, h5]
  · by_cases h2 : k % 2 = 0
    · simp only [if_neg h7, if_neg h5, h2]
      cases poff plane (k / 2) <;> rfl
    · simp only [if_neg h7, if_neg h5, if_neg h2]
      have : (k % 2 == 0) = false := by simpa using h2
      rw [this]
      cases poff plane (k / 2) <;> rfl
theorem two_kept {w w1 : World} {r : R} (hb : Below ((w.alloc (.cells r.cells 24)).alloc (.cells R0.cells 24)).heap.size ((w.alloc (.cells r.cells 24)).alloc (.cells R0.cells 24)) w1) :
    ∃ w2, w1 = put w2 (w.heap.size + 1) R0.cells ∧ blk w2 w.heap.size = r.cells ∧ Inb w.heap.size w2 ∧ Inb (w.heap.size + 1) w2 ∧ Below w.heap.size w w2 := by
  have hz := hb.size
  simp only [World.size_alloc] at hz
  have e1 := hb.block (w.heap.size + 1) (by simp only [World.size_alloc]; omega)
  have e3 := heap_alloc_last (w.alloc (.cells r.cells 24)) (.cells R0.cells 24)
  rw [World.size_alloc] at e3
  have e2 : w1.heap[w.heap.size + 1]? = some (.cells R0.cells 24) := e1.trans e3
  refine ⟨w1, (asput e2).symm, ?_, by unfold Inb; omega, by unfold Inb; omega, bt (by go_grown) hb⟩
  unfold blk
  rw [hb.block _ (by simp only [World.size_alloc]; omega)]
  exact (by simp [go_sem] : blk ((w.alloc (.cells r.cells 24)).alloc (.cells R0.cells 24)) w.heap.size = r.cells)
set_option maxHeartbeats 2000000 in
set_option maxRecDepth 20000 in
theorem r11set0 (r : R) (plane : Int) (b : U8) (w : World) : Calls Tryz.prog 187 #[.agg r.cells, .int .i64 plane, .int .i64 0, .int .u8 b.v] w fun e w' => e = .returned (.agg (setP r plane 0 (b.word (getP r plane 0).lo)).cells) ∧ Below w.heap.size w w' := by
  have hne : ¬ w.heap.size = w.heap.size + 1 := by omega
  go_enter Tryz.func187, Tryz.ntmps187
  go_wp2_with (go_at_call 104; refine (r11pair_ _ _ _ _).mono ?_; rintro e w1 ⟨rfl, hb1⟩; obtain ⟨w2, rfl, hbk, hi0, hi1, hb2⟩ := two_kept hb1; clear hb1)
  refine still_tail 8 (by kernel_rfl) (by decide +kernel) ?_
  simp only [List.take_succ_cons, List.take_zero, List.drop_succ_cons, List.drop_zero, put_drew]
  replace hb2 := hb2.drew
  have hd0 : Inb w.heap.size w2.drew := hi0
  have hd1 : Inb (w.heap.size + 1) w2.drew := hi1
  repeat (first | still_step | (refine wpStill_step (fun K hK => ?_); go_simp; (first | (refine ⟨_, (pLo_ _ _).mono (fun e w' h => ⟨h.1, h.2.symm⟩), hK _ ?_⟩) | (refine ⟨_, (pWord_ _ _ _).mono (fun e w' h => ⟨h.1, h.2.symm⟩), hK _ ?_⟩)); clear hK K))
  refine wpStill_nil ?_
  go_wp2_with (go_at_call 194; refine (r11setpair_ _ _ _ _ _).mono ?_; rintro e w3 ⟨rfl, hb3⟩; obtain ⟨w4, rfl, hb4⟩ := unput hd1 hb3; replace hb2 := bt hb2 hb4; have hi4 : Inb (w.heap.size + 1) w4 := Inb.kept hd1 hb4)
  refine ret_regs rfl (w.heap.size + 1) rfl (setP r plane 0 (b.word (getP r plane 0).lo)) ?_ rfl ⟨rfl, ?_⟩
  · simp [go_sem, *]
  · exact below_put hb2 (by omega)
set_option maxHeartbeats 2000000 in
set_option maxRecDepth 20000 in
theorem r11set1 (r : R) (plane : Int) (b : U8) (w : World) : Calls Tryz.prog 187 #[.agg r.cells, .int .i64 plane, .int .i64 1, .int .u8 b.v] w fun e w' => e = .returned (.agg (setP r plane 0 ((getP r plane 0).hi.word b)).cells) ∧ Below w.heap.size w w' := by
  have hne : ¬ w.heap.size = w.heap.size + 1 := by omega
  go_enter Tryz.func187, Tryz.ntmps187
  go_wp2_with (go_at_call 104; refine (r11pair_ _ _ _ _).mono ?_; rintro e w1 ⟨rfl, hb1⟩; obtain ⟨w2, rfl, hbk, hi0, hi1, hb2⟩ := two_kept hb1; clear hb1)
  refine still_tail 8 (by kernel_rfl) (by decide +kernel) ?_
  simp only [List.take_succ_cons, List.take_zero, List.drop_succ_cons, List.drop_zero, put_drew]
  replace hb2 := hb2.drew
  have hd0 : Inb w.heap.size w2.drew := hi0
  have hd1 : Inb (w.heap.size + 1) w2.drew := hi1
  repeat (first | still_step | (refine wpStill_step (fun K hK => ?_); go_simp; (first | (refine ⟨_, (pHi_ _ _).mono (fun e w' h => ⟨h.1, h.2.symm⟩), hK _ ?_⟩) | (refine ⟨_, (pWord_ _ _ _).mono (fun e w' h => ⟨h.1, h.2.symm⟩), hK _ ?_⟩)); clear hK K))
  refine wpStill_nil ?_
  go_wp2_with (go_at_call 194; refine (r11setpair_ _ _ _ _ _).mono ?_; rintro e w3 ⟨rfl, hb3⟩; obtain ⟨w4, rfl, hb4⟩ := unput hd1 hb3; replace hb2 := bt hb2 hb4; have hi4 : Inb (w.heap.size + 1) w4 := Inb.kept hd1 hb4)
  refine ret_regs rfl (w.heap.size + 1) rfl (setP r plane 0 ((getP r plane 0).hi.word b)) ?_ rfl ⟨rfl, ?_⟩
  · simp [go_sem, *]
  · exact below_put hb2 (by omega)
set_option maxHeartbeats 2000000 in
set_option maxRecDepth 20000 in
theorem r11set2 (r : R) (plane : Int) (b : U8) (w : World) : Calls Tryz.prog 187 #[.agg r.cells, .int .i64 plane, .int .i64 2, .int .u8 b.v] w fun e w' => e = .returned (.agg (setP r plane 1 (b.word (getP r plane 1).lo)).cells) ∧ Below w.heap.size w w' := by
  have hne : ¬ w.heap.size = w.heap.size + 1 := by omega
  go_enter Tryz.func187, Tryz.ntmps187
  go_wp2_with (go_at_call 104; refine (r11pair_ _ _ _ _).mono ?_; rintro e w1 ⟨rfl, hb1⟩; obtain ⟨w2, rfl, hbk, hi0, hi1, hb2⟩ := two_kept hb1; clear hb1)
  refine still_tail 8 (by kernel_rfl) (by decide +kernel) ?_
  simp only [List.take_succ_cons, List.take_zero, List.drop_succ_cons, List.drop_zero, put_drew]
  replace hb2 := hb2.drew
  have hd0 : Inb w.heap.size w2.drew := hi0
  have hd1 : Inb (w.heap.size + 1) w2.drew := hi1
  repeat (first | still_step | (refine wpStill_step (fun K hK => ?_); go_simp; (first | (refine ⟨_, (pLo_ _ _).mono (fun e w' h => ⟨h.1, h.2.symm⟩), hK _ ?_⟩) | (refine ⟨_, (pWord_ _ _ _).mono (fun e w' h => ⟨h.1, h.2.symm⟩), hK _ ?_⟩)); clear hK K))
  refine wpStill_nil ?_
  go_wp2_with (go_at_call 194; refine (r11setpair_ _ _ _ _ _).mono ?_; rintro e w3 ⟨rfl, hb3⟩; obtain ⟨w4, rfl, hb4⟩ := unput hd1 hb3; replace hb2 := bt hb2 hb4; have hi4 : Inb (w.heap.size + 1) w4 := Inb.kept hd1 hb4)
  refine ret_regs rfl (w.heap.size + 1) rfl (setP r plane 1 (b.word (getP r plane 1).lo)) ?_ rfl ⟨rfl, ?_⟩
  · simp [go_sem, *]
  · exact below_put hb2 (by omega)
set_option maxHeartbeats 2000000 in
set_option maxRecDepth 20000 in
theorem r11set3 (r : R) (plane : Int) (b : U8) (w : World) : Calls Tryz.prog 187 #[.agg r.cells, .int .i64 plane, .int .i64 3, .int .u8 b.v] w fun e w' => e = .returned (.agg (setP r plane 1 ((getP r plane 1).hi.word b)).cells) ∧ Below w.heap.size w w' := by
  have hne : ¬ w.heap.size = w.heap.size + 1 := by omega
  go_enter Tryz.func187, Tryz.ntmps187
  go_wp2_with (go_at_call 104; refine (r11pair_ _ _ _ _).mono ?_; rintro e w1 ⟨rfl, hb1⟩; obtain ⟨w2, rfl, hbk, hi0, hi1, hb2⟩ := two_kept hb1; clear hb1)
  refine still_tail 8 (by kernel_rfl) (by decide +kernel) ?_
  simp only [List.take_succ_cons, List.take_zero, List.drop_succ_cons, List.drop_zero, put_drew]
  replace hb2 := hb2.drew
  have hd0 : Inb w.heap.size w2.drew := hi0
  have hd1 : Inb (w.heap.size + 1) w2.drew := hi1
  repeat (first | still_step | (refine wpStill_step (fun K hK => ?_); go_simp; (first | (refine ⟨_, (pHi_ _ _).mono (fun e w' h => ⟨h.1, h.2.symm⟩), hK _ ?_⟩) | (refine ⟨_, (pWord_ _ _ _).mono (fun e w' h => ⟨h.1, h.2.symm⟩), hK _ ?_⟩)); clear hK K))
  refine wpStill_nil ?_
  go_wp2_with (go_at_call 194; refine (r11setpair_ _ _ _ _ _).mono ?_; rintro e w3 ⟨rfl, hb3⟩; obtain ⟨w4, rfl, hb4⟩ := unput hd1 hb3; replace hb2 := bt hb2 hb4; have hi4 : Inb (w.heap.size + 1) w4 := Inb.kept hd1 hb4)
  refine ret_regs rfl (w.heap.size + 1) rfl (setP r plane 1 ((getP r plane 1).hi.word b)) ?_ rfl ⟨rfl, ?_⟩
  · simp [go_sem, *]
  · exact below_put hb2 (by omega)
set_option maxHeartbeats 2000000 in
set_option maxRecDepth 20000 in
theorem r11set4 (r : R) (plane : Int) (b : U8) (w : World) : Calls Tryz.prog 187 #[.agg r.cells, .int .i64 plane, .int .i64 4, .int .u8 b.v] w fun e w' => e = .returned (.agg (setP r plane 2 (b.word (getP r plane 2).lo)).cells) ∧ Below w.heap.size w w' := by
  have hne : ¬ w.heap.size = w.heap.size + 1 := by omega
  go_enter Tryz.func187, Tryz.ntmps187
  go_wp2_with (go_at_call 104; refine (r11pair_ _ _ _ _).mono ?_; rintro e w1 ⟨rfl, hb1⟩; obtain ⟨w2, rfl, hbk, hi0, hi1, hb2⟩ := two_kept hb1; clear hb1)
  refine still_tail 8 (by kernel_rfl) (by decide +kernel) ?_
  simp only [List.take_succ_cons, List.take_zero, List.drop_succ_cons, List.drop_zero, put_drew]
  replace hb2 := hb2.drew
  have hd0 : Inb w.heap.size w2.drew := hi0
  have hd1 : Inb (w.heap.size + 1) w2.drew := hi1
  repeat (first | still_step | (refine wpStill_step (fun K hK => ?_); go_simp; (first | (refine ⟨_, (pLo_ _ _).mono (fun e w' h => ⟨h.1, h.2.symm⟩), hK _ ?_⟩) | (refine ⟨_, (pWord_ _ _ _).mono (fun e w' h => ⟨h.1, h.2.symm⟩), hK _ ?_⟩)); clear hK K))
  refine wpStill_nil ?_
  go_wp2_with (go_at_call 194; refine (r11setpair_ _ _ _ _ _).mono ?_; rintro e w3 ⟨rfl, hb3⟩; obtain ⟨w4, rfl, hb4⟩ := unput hd1 hb3; replace hb2 := bt hb2 hb4; have hi4 : Inb (w.heap.size + 1) w4 := Inb.kept hd1 hb4)
  refine ret_regs rfl (w.heap.size + 1) rfl (setP r plane 2 (b.word (getP r plane 2).lo)) ?_ rfl ⟨rfl, ?_⟩
  · simp [go_sem, *]
  · exact below_put hb2 (by omega)
set_option maxHeartbeats 2000000 in
set_option maxRecDepth 20000 in
theorem r11set5 (r : R) (plane : Int) (b : U8) (w : World) : Calls Tryz.prog 187 #[.agg r.cells, .int .i64 plane, .int .i64 5, .int .u8 b.v] w fun e w' => e = .returned (.agg (setP r plane 2 ((getP r plane 2).hi.word b)).cells) ∧ Below w.heap.size w w' := by
  have hne : ¬ w.heap.size = w.heap.size + 1 := by omega
  go_enter Tryz.func187, Tryz.ntmps187
  go_wp2_with (go_at_call 104; refine (r11pair_ _ _ _ _).mono ?_; rintro e w1 ⟨rfl, hb1⟩; obtain ⟨w2, rfl, hbk, hi0, hi1, hb2⟩ := two_kept hb1; clear hb1)
  refine still_tail 8 (by kernel_rfl) (by decide +kernel) ?_
  simp only [List.take_succ_cons, List.take_zero, List.drop_succ_cons, List.drop_zero, put_drew]
  replace hb2 := hb2.drew
  have hd0 : Inb w.heap.size w2.drew := hi0
  have hd1 : Inb (w.heap.size + 1) w2.drew := hi1
  repeat (first | still_step | (refine wpStill_step (fun K hK => ?_); go_simp; (first | (refine ⟨_, (pHi_ _ _).mono (fun e w' h => ⟨h.1, h.2.symm⟩), hK _ ?_⟩) | (refine ⟨_, (pWord_ _ _ _).mono (fun e w' h => ⟨h.1, h.2.symm⟩), hK _ ?_⟩)); clear hK K))
  refine wpStill_nil ?_
  go_wp2_with (go_at_call 194; refine (r11setpair_ _ _ _ _ _).mono ?_; rintro e w3 ⟨rfl, hb3⟩; obtain ⟨w4, rfl, hb4⟩ := unput hd1 hb3; replace hb2 := bt hb2 hb4; have hi4 : Inb (w.heap.size + 1) w4 := Inb.kept hd1 hb4)
  refine ret_regs rfl (w.heap.size + 1) rfl (setP r plane 2 ((getP r plane 2).hi.word b)) ?_ rfl ⟨rfl, ?_⟩
  · simp [go_sem, *]
  · exact below_put hb2 (by omega)
set_option maxHeartbeats 2000000 in
set_option maxRecDepth 20000 in
theorem r11set_ (r : R) (plane k : Int) (b : U8) (w : World) : Calls Tryz.prog 187 #[.agg r.cells, .int .i64 plane, .int .i64 k, .int .u8 b.v] w fun e w' => e = .returned (.agg (setR r plane k b).cells) ∧ Below w.heap.size w w' := by
  rw [setR_eq]
  rcases (show k = 7 ∨ k < 0 ∨ (¬ k = 7 ∧ ¬ k < 0 ∧ 5 < k) ∨ k = 0 ∨ k = 1 ∨ k = 2 ∨ k = 3 ∨ k = 4 ∨ k = 5 by omega) with rfl | h0 | ⟨h7, h0, h5⟩ | rfl | rfl | rfl | rfl | rfl | rfl
  · rw [if_pos rfl]
    go_enter Tryz.func187, Tryz.ntmps187
    go_wp2_with (first | (go_at_call 177; refine (pLo_ _ _).mono ?_; rintro e w1 ⟨rfl, rfl⟩) | (go_at_call 180; refine (pWord_ _ _ _).mono ?_; rintro e w1 ⟨rfl, rfl⟩))
    refine ret_regs rfl _ rfl { r with af := b.word r.af.lo } ?_ rfl ⟨rfl, by go_grown⟩
    simp [go_sem]
  · rw [if_neg (by omega), if_pos (.inl h0)]
    have h7 : ¬ k = 7 := by omega
    go_enter Tryz.func187, Tryz.ntmps187
    go_wp2
    refine ret_regs rfl _ rfl r ?_ rfl ⟨rfl, by go_grown⟩
    simp [go_sem]
  · rw [if_neg (by omega), if_pos (.inr h5)]
    go_enter Tryz.func187, Tryz.ntmps187
    go_wp2
    refine ret_regs rfl _ rfl r ?_ rfl ⟨rfl, by go_grown⟩
    simp [go_sem]
  · exact r11set0 r plane b w
  · exact r11set1 r plane b w
  · exact r11set2 r plane b w
  · exact r11set3 r plane b w
  · exact r11set4 r plane b w
  · exact r11set5 r plane b w
theorem fold8 (x : Int) : IntKind.u8.wrap x = (u8 x).v := by rw [IntKind.wrap_u8]; rfl
theorem wrap64_in {x : Int} (h0 : 0 ≤ x) (h1 : x ≤ 65535) : wrap64 x = x := by unfold wrap64; omega
theorem tick_val (x : U8) : u8 (wrap64 (wrap64 (wrap64 ((wrap64 x.v).tdiv 128) * 128) + (wrap64 ((wrap64 ((wrap64 x.v).tmod 128 + 1)).tmod 128 + 128)).tmod 128)) = tk x := by
  have h0 := x.h0
  have h1 := x.h1
  rw [wrap64_in h0 (by omega), Int.tdiv_eq_ediv_of_nonneg h0, Int.tmod_eq_emod_of_nonneg h0, wrap64_in (x := x.v / 128) (by omega) (by omega), wrap64_in (x := x.v / 128 * 128) (by omega) (by omega), wrap64_in (x := x.v % 128 + 1) (by omega) (by omega), Int.tmod_eq_emod_of_nonneg (a := x.v % 128 + 1) (by omega), wrap64_in (x := (x.v % 128 + 1) % 128 + 128) (by omega) (by omega), Int.tmod_eq_emod_of_nonneg (a := (x.v % 128 + 1) % 128 + 128) (by omega), wrap64_in (by omega) (by omega)]
  refine U8.ext ?_
  show (x.v / 128 * 128 + ((x.v % 128 + 1) % 128 + 128) % 128) % 256 = x.v / 128 * 128 + (x.v + 1) % 128
  omega
set_option maxHeartbeats 400000 in
set_option maxRecDepth 5000 in
theorem r11tick_ (r : R) (w : World) : Calls Tryz.prog 52 #[.agg r.cells, .int .i64 1] w fun e w' => e = .returned (.agg (tickR r).cells) ∧ Below w.heap.size w w' := by
  have hw := fold8
  have hv := Lib.hid (tick_val r.r)
  go_enter Tryz.func52, Tryz.ntmps52
  go_wp2_with fail
  refine ret_regs rfl _ rfl (tickR r) ?_ rfl ⟨rfl, by go_grown⟩
  rw [hv.out]
  simp [go_sem, tickR]
end Go.Proofs.YtnaampdpkegacaaGreatDoor
