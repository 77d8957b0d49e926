/-
  Contracts of the packages bits, flags and sum, and of the references 01 and 02: what each function answers, as bits of a byte. A helper of the claim that stands beside it.
-/
import Derived.Test.YtnaampdpkegacaaGreatDoorRows
import Derived.Test.YtnaampdpkegacaaGreatDoorM
import Derived.WalkKit
import Derived.WalkSpells
import Derived.WalkLawsBesides
import Derived.LoopN
import Derived.Handy
namespace Go.Proofs.YtnaampdpkegacaaGreatDoor
open Go.RowKit

theorem may_ (n : Int) (w : World) : Calls Tryz.prog 144 #[.int .i64 n] w fun e w' => e = .returned (.bool (decide (0 ≤ n) && decide (n < 8))) ∧ w = w' := by
  by_cases h0 : 0 ≤ n
  · go_enter Tryz.func144, Tryz.ntmps144
    go_wp2
    go_ret
    exact ⟨by simp [h0], rfl⟩
  · go_enter Tryz.func144, Tryz.ntmps144
    go_wp2
    go_ret
    exact ⟨by simp [show ¬ 0 ≤ n by omega], rfl⟩

theorem is_ (b n : Int) (w : World) : Calls Tryz.prog 143 #[.int .u8 b, .int .i64 n] w fun e w' => e = .returned (.bool (isb b n)) ∧ w = w' := by
  by_cases h0 : 0 ≤ n
  · by_cases h1 : n < 8
    · have h2 : n ≤ 8 := by omega
      go_enter Tryz.func143, Tryz.ntmps143
      go_wp2
      go_ret
      refine ⟨ret_bool ?_, rfl⟩
      rw [isb_of b n h0 h1, ← band1]
    · go_enter Tryz.func143, Tryz.ntmps143
      go_wp2
      go_ret
      exact ⟨by simp [isb, show ¬ n < 8 by omega], rfl⟩
  · go_enter Tryz.func143, Tryz.ntmps143
    go_wp2
    go_ret
    exact ⟨by simp [isb, show ¬ 0 ≤ n by omega], rfl⟩

theorem with_ (b n : Int) (on : Bool) (w : World) : Calls Tryz.prog 71 #[.int .u8 b, .int .i64 n, .bool on] w fun e w' => e = .returned (.int .u8 (wth b n on)) ∧ w = w' := by
  by_cases h0 : 0 ≤ n
  · by_cases h1 : n < 8
    · have h2 : n ≤ 8 := by omega
      cases on
      all_goals
        go_enter Tryz.func71, Tryz.ntmps71
        go_wp2
        go_ret
        refine ⟨?_, rfl⟩
        simp [wth, show 0 ≤ n by omega, show n < 8 by omega]
    · go_enter Tryz.func71, Tryz.ntmps71
      go_wp2
      go_ret
      exact ⟨by simp [wth, show ¬ n < 8 by omega], rfl⟩
  · go_enter Tryz.func71, Tryz.ntmps71
    go_wp2
    go_ret
    exact ⟨by simp [wth, show ¬ 0 ≤ n by omega], rfl⟩

theorem power_ (n : Nat) (hn : n < 8) (w : World) : Calls Tryz.prog 182 #[.int .i64 n] w fun e w' => e = .returned (.int .i64 (2 ^ n)) ∧ w = w' := by
  have h : n = 0 ∨ n = 1 ∨ n = 2 ∨ n = 3 ∨ n = 4 ∨ n = 5 ∨ n = 6 ∨ n = 7 := by omega
  rcases h with rfl | rfl | rfl | rfl | rfl | rfl | rfl | rfl
  all_goals
    clear hn
    go_enter Tryz.func182, Tryz.ntmps182
    go_wp2
    refine wp_loop_rounds 9 ?_
    repeat any_goals (rw [rounds_succ]; go_wp2)
    go_ret
    exact ⟨rfl, rfl⟩
theorem r01is_ (b n : Int) (h0 : 0 ≤ b) (h1 : b ≤ 255) (w : World) : Calls Tryz.prog 181 #[.int .u8 b, .int .i64 n] w fun e w' => e = .returned (.bool (isb b n)) ∧ w = w' := by
  by_cases hn : 0 ≤ n ∧ n < 8
  · obtain ⟨n, rfl⟩ := Int.eq_ofNat_of_zero_le hn.1
    have h : n = 0 ∨ n = 1 ∨ n = 2 ∨ n = 3 ∨ n = 4 ∨ n = 5 ∨ n = 6 ∨ n = 7 := by omega
    rcases h with rfl | rfl | rfl | rfl | rfl | rfl | rfl | rfl
    all_goals
      clear hn
      go_enter Tryz.func181, Tryz.ntmps181
      go_wp2_with (go_at_call 182; refine (power_ _ (by decide) _).mono ?_; rintro e w' ⟨rfl, rfl⟩)
      go_ret
      exact ⟨ret_bool (by rw [isb_of _ _ (by omega) (by omega)]; simp), rfl⟩
  · by_cases hn0 : n < 0
    · go_enter Tryz.func181, Tryz.ntmps181
      go_wp2
      go_ret
      exact ⟨by simp [isb, show ¬ 0 ≤ n by omega], rfl⟩
    · have hn1 : 7 < n := by omega
      go_enter Tryz.func181, Tryz.ntmps181
      go_wp2
      go_ret
      exact ⟨by simp [isb, show ¬ n < 8 by omega], rfl⟩

section
variable (a b c d e f g h : Value) (w : World)
@[go_sem] theorem idx8_0 : (Instr.index 125 (.agg #[a, b, c, d, e, f, g, h]) (.int .i64 0)).run Tryz.prog w = .ok a w := by kernel_rfl
@[go_sem] theorem idx8_1 : (Instr.index 125 (.agg #[a, b, c, d, e, f, g, h]) (.int .i64 1)).run Tryz.prog w = .ok b w := by kernel_rfl
@[go_sem] theorem idx8_2 : (Instr.index 125 (.agg #[a, b, c, d, e, f, g, h]) (.int .i64 2)).run Tryz.prog w = .ok c w := by kernel_rfl
@[go_sem] theorem idx8_3 : (Instr.index 125 (.agg #[a, b, c, d, e, f, g, h]) (.int .i64 3)).run Tryz.prog w = .ok d w := by kernel_rfl
@[go_sem] theorem idx8_4 : (Instr.index 125 (.agg #[a, b, c, d, e, f, g, h]) (.int .i64 4)).run Tryz.prog w = .ok e w := by kernel_rfl
@[go_sem] theorem idx8_5 : (Instr.index 125 (.agg #[a, b, c, d, e, f, g, h]) (.int .i64 5)).run Tryz.prog w = .ok f w := by kernel_rfl
@[go_sem] theorem idx8_6 : (Instr.index 125 (.agg #[a, b, c, d, e, f, g, h]) (.int .i64 6)).run Tryz.prog w = .ok g w := by kernel_rfl
@[go_sem] theorem idx8_7 : (Instr.index 125 (.agg #[a, b, c, d, e, f, g, h]) (.int .i64 7)).run Tryz.prog w = .ok h w := by kernel_rfl
end
theorem bcell {W w1 : World} (hb : Below W.heap.size W w1) : (∀ b o, b < W.heap.size → w1.cell? ⟨b, o, none⟩ = W.cell? ⟨b, o, none⟩) ∧ (∀ b o, b < W.heap.size → w1.frozen? ⟨b, o, none⟩ = W.frozen? ⟨b, o, none⟩) :=
  ⟨fun b o h => hb.cell (p := ⟨b, o, none⟩) h, fun b o h => hb.frozen (p := ⟨b, o, none⟩) h⟩

/-- What lies below is kept, one call behind the other. -/
theorem bt {A B C : World} (h : Below A.heap.size A B) (k : Below B.heap.size B C) : Below A.heap.size A C := h.trans (k.mono h.size)

theorem r01with_ (b : Int) (h0 : 0 ≤ b) (h1 : b ≤ 255) (n : Int) (on : Bool) (w : World) : Calls Tryz.prog 98 #[.int .u8 b, .int .i64 n, .bool on] w fun e w' => e = .returned (.int .u8 (wth b n on)) ∧ w = w' := by
  by_cases hn : 0 ≤ n ∧ n < 8
  · obtain ⟨n, rfl⟩ := Int.eq_ofNat_of_zero_le hn.1
    have h : n = 0 ∨ n = 1 ∨ n = 2 ∨ n = 3 ∨ n = 4 ∨ n = 5 ∨ n = 6 ∨ n = 7 := by omega
    have hq := wth_eq n (by omega) on b h0 h1
    cases hi : isb b n
    all_goals
      cases on
      all_goals
        rcases h with rfl | rfl | rfl | rfl | rfl | rfl | rfl | rfl
        all_goals
          rw [hi] at hq
          have Hq : Hid _ := hq
          clear hq hn
          simp at hi
          go_enter Tryz.func98, Tryz.ntmps98
          go_wp2_with (first | (go_at_call 182; refine (power_ _ (by decide) _).mono ?_; rintro e w' ⟨rfl, rfl⟩) | (go_at_call 181; refine (r01is_ _ _ h0 h1 _).mono ?_; rintro e w' ⟨rfl, rfl⟩))
          go_ret
          refine ⟨ret_int ?_, rfl⟩
          refine Eq.trans ?_ Hq.out.symm
          simp
          try omega
  · by_cases hn0 : n < 0
    · go_enter Tryz.func98, Tryz.ntmps98
      go_wp2
      go_ret
      exact ⟨by simp [wth, show ¬ 0 ≤ n by omega], rfl⟩
    · have hn1 : 7 < n := by omega
      go_enter Tryz.func98, Tryz.ntmps98
      go_wp2
      go_ret
      exact ⟨by simp [wth, show ¬ n < 8 by omega], rfl⟩
end Go.Proofs.YtnaampdpkegacaaGreatDoor
