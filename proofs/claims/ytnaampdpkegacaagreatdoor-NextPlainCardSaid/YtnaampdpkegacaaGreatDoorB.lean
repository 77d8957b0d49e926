/-
  Contracts of the packages flags and sum, and of the references 02 and 03. A helper of the claim that stands beside it.
-/
import Derived.Test.YtnaampdpkegacaaGreatDoorA
namespace Go.Proofs.YtnaampdpkegacaaGreatDoor
open Go.RowKit

theorem r02make_ (s z y h x p n c : Bool) (w : World) : Calls Tryz.prog 185 #[.agg #[.bool s, .bool z, .bool y, .bool h, .bool x, .bool p, .bool n, .bool c]] w fun e w' => e = .returned (.int .u8 (mk s z y h x p n c)) ∧ Below w.heap.size w w' := by
  have q0 : (0 : Int) ≤ 0 ∧ (0 : Int) ≤ 255 := by decide
  have q1 := wth_range 0 7 s q0.1 q0.2
  have q2 := wth_range _ 6 z q1.1 q1.2
  have q3 := wth_range _ 5 y q2.1 q2.2
  have q4 := wth_range _ 4 h q3.1 q3.2
  have q5 := wth_range _ 3 x q4.1 q4.2
  have q6 := wth_range _ 2 p q5.1 q5.2
  have q7 := wth_range _ 1 n q6.1 q6.2
  go_enter Tryz.func185, Tryz.ntmps185
  go_wp2_with fail
  refine wp_loop_rounds 9 ?_
  repeat any_goals (rw [rounds_succ]; go_wp2_with (go_at_call 98; refine (r01with_ _ (by omega) (by omega) _ _ _).mono ?_; rintro e w' ⟨rfl, rfl⟩))
  go_ret
  exact ⟨ret_int (make_mk s z y h x p n c), by go_grown⟩
theorem r02of_ (f : Int) (h0 : 0 ≤ f) (h1 : f ≤ 255) (w : World) : Calls Tryz.prog 183 #[.int .u8 f] w fun e w' => e = .returned (.agg #[.bool (bit 7 f), .bool (bit 6 f), .bool (bit 5 f), .bool (bit 4 f), .bool (bit 3 f), .bool (bit 2 f), .bool (bit 1 f), .bool (bit 0 f)]) ∧ Below w.heap.size w w' := by
  go_enter Tryz.func183, Tryz.ntmps183
  go_wp2_with fail
  refine wp_loop_rounds 9 ?_
  repeat any_goals (rw [rounds_succ]; go_wp2_with (go_at_call 181; refine (r01is_ _ _ h0 h1 _).mono ?_; rintro e w' ⟨rfl, rfl⟩))
  go_returns
  exact ⟨rfl, by go_grown⟩
theorem result_ (r : Int) (w : World) : Calls Tryz.prog 216 #[.int .u8 r] w fun e w' => e = .returned (.int .u8 (res r)) ∧ w = w' := by
  by_cases h : r = 0
  · subst h
    go_enter Tryz.func216, Tryz.ntmps216
    go_wp2
    go_ret
    exact ⟨rfl, rfl⟩
  · have hb : (r == 0) = false := by simpa using h
    have he : Hid _ := res_eq r h
    clear h
    go_enter Tryz.func216, Tryz.ntmps216
    go_wp2
    go_ret
    exact ⟨ret_int he.out, rfl⟩
theorem keep_ (f old mask : Int) (w : World) : Calls Tryz.prog 154 #[.int .u8 f, .int .u8 old, .int .u8 mask] w fun e w' => e = .returned (.int .u8 (kp f old mask)) ∧ w = w' := by
  go_enter Tryz.func154, Tryz.ntmps154
  go_wp2
  go_ret
  exact ⟨rfl, rfl⟩
section
variable (a b c d : Value) (w : World)
@[go_sem] theorem idx4_0 : (Instr.index 150 (.agg #[a, b, c, d]) (.int .i64 0)).run Tryz.prog w = .ok a w := by kernel_rfl
@[go_sem] theorem idx4_1 : (Instr.index 150 (.agg #[a, b, c, d]) (.int .i64 1)).run Tryz.prog w = .ok b w := by kernel_rfl
@[go_sem] theorem idx4_2 : (Instr.index 150 (.agg #[a, b, c, d]) (.int .i64 2)).run Tryz.prog w = .ok c w := by kernel_rfl
@[go_sem] theorem idx4_3 : (Instr.index 150 (.agg #[a, b, c, d]) (.int .i64 3)).run Tryz.prog w = .ok d w := by kernel_rfl
end
theorem masks_ (w : World) : Calls Tryz.prog 242 #[] w fun e w' => e = .returned (.agg #[.int .u8 64, .int .u8 1, .int .u8 4, .int .u8 128]) ∧ Below w.heap.size w w' := by
  go_enter Tryz.func242, Tryz.ntmps242
  go_wp2
  go_returns
  exact ⟨rfl, by go_grown⟩
theorem ret2 {k l : IntKind} {a b c d : Int} (h : a = c) (g : b = d) : Ending.returned (.tuple #[.int k a, .int l b]) = .returned (.tuple #[.int k c, .int l d]) := by rw [h, g]
theorem test_ (f cond : Int) (w : World) : Calls Tryz.prog 168 #[.int .u8 f, .int .i64 cond] w fun e w' => e = .returned (.bool (tst f cond)) ∧ Below w.heap.size w w' := by
  have hB := Below.refl w.heap.size w
  by_cases h0 : cond < 0
  · go_enter Tryz.func168, Tryz.ntmps168
    go_wp2
    go_ret
    exact ⟨ret_bool (by simp [tst, show ¬ cond = 0 by omega, show ¬ cond = 1 by omega, show ¬ cond = 2 by omega, show ¬ cond = 3 by omega, show ¬ cond = 4 by omega, show ¬ cond = 5 by omega, show ¬ cond = 6 by omega, show ¬ cond = 7 by omega]), by go_grown⟩
  · by_cases h8 : 8 ≤ cond
    · go_enter Tryz.func168, Tryz.ntmps168
      go_wp2_with (go_at_call 242; refine (masks_ _).mono ?_; rintro e w1 ⟨rfl, hb⟩; replace hB := bt hB hb)
      go_ret
      exact ⟨ret_bool (by simp [tst, show ¬ cond = 0 by omega, show ¬ cond = 1 by omega, show ¬ cond = 2 by omega, show ¬ cond = 3 by omega, show ¬ cond = 4 by omega, show ¬ cond = 5 by omega, show ¬ cond = 6 by omega, show ¬ cond = 7 by omega]), hB⟩
    · have h : cond = 0 ∨ cond = 1 ∨ cond = 2 ∨ cond = 3 ∨ cond = 4 ∨ cond = 5 ∨ cond = 6 ∨ cond = 7 := by omega
      clear h0 h8
      rcases h with rfl | rfl | rfl | rfl | rfl | rfl | rfl | rfl
      all_goals
        go_enter Tryz.func168, Tryz.ntmps168
        go_wp2_with (go_at_call 242; refine (masks_ _).mono ?_; rintro e w1 ⟨rfl, hb⟩; replace hB := bt hB hb)
        go_ret
        exact ⟨ret_bool (by simp [tst, ne1, ne4, ne64, ne128]), hB⟩
theorem one16_ (b : Bool) (w : World) : Calls Tryz.prog 234 #[.bool b] w fun e w' => e = .returned (.int .u16 (bw b 1)) ∧ w = w' := by
  cases b
  all_goals
    go_enter Tryz.func234, Tryz.ntmps234
    go_wp2
    go_ret
    exact ⟨rfl, rfl⟩
theorem when_ (b : Bool) (f : Int) (h0 : 0 ≤ f) (h1 : f ≤ 255) (w : World) : Calls Tryz.prog 236 #[.bool b, .int .u8 f] w fun e w' => e = .returned (.int .u8 (bw b f)) ∧ w = w' := by
  cases b
  all_goals
    go_enter Tryz.func236, Tryz.ntmps236
    go_wp2
    go_ret
    exact ⟨rfl, rfl⟩
theorem add_ (a b : Int) (c : Bool) (a0 : 0 ≤ a) (a1 : a ≤ 255) (b0 : 0 ≤ b) (b1 : b ≤ 255) (w : World) : Calls Tryz.prog 152 #[.int .u8 a, .int .u8 b, .bool c] w fun e w' => e = .returned (.tuple #[.int .u8 (addR a b c), .int .u8 (addF a b c)]) ∧ Below w.heap.size w w' := by
  have q := bw_range c
  go_enter Tryz.func152, Tryz.ntmps152
  go_wp2_with (first | (go_at_call 234; refine (one16_ _ _).mono ?_; rintro e w1 ⟨rfl, rfl⟩) | (go_at_call 216; refine (result_ _ _).mono ?_; rintro e w1 ⟨rfl, rfl⟩) | (go_at_call 236; refine (when_ _ _ (by omega) (by omega) _).mono ?_; rintro e w1 ⟨rfl, rfl⟩) | (go_at_call 235; go_in))
  refine wp_loop_rounds 9 ?_
  repeat any_goals (rw [rounds_succ]; go_wp2)
  go_ret2
  exact ⟨ret2 (by rfl) (add_eq a b c a0 a1 b0 b1), by go_grown⟩
theorem sub_ (a b : Int) (c : Bool) (a0 : 0 ≤ a) (a1 : a ≤ 255) (b0 : 0 ≤ b) (b1 : b ≤ 255) (w : World) : Calls Tryz.prog 157 #[.int .u8 a, .int .u8 b, .bool c] w fun e w' => e = .returned (.tuple #[.int .u8 (subR a b c), .int .u8 (subF a b c)]) ∧ Below w.heap.size w w' := by
  have q := bw_range c
  go_enter Tryz.func157, Tryz.ntmps157
  go_wp2_with (first | (go_at_call 234; refine (one16_ _ _).mono ?_; rintro e w1 ⟨rfl, rfl⟩) | (go_at_call 216; refine (result_ _ _).mono ?_; rintro e w1 ⟨rfl, rfl⟩) | (go_at_call 236; refine (when_ _ _ (by omega) (by omega) _).mono ?_; rintro e w1 ⟨rfl, rfl⟩) | (go_at_call 235; go_in))
  refine wp_loop_rounds 9 ?_
  repeat any_goals (rw [rounds_succ]; go_wp2)
  go_ret2
  refine ⟨?_, by go_grown⟩
  have e : IntKind.u16.wrap (IntKind.u16.wrap (a - b) - bw c 1) = (a - b - bw c 1) % 65536 := by simp only [IntKind.wrap_u16]; omega
  simp only [e]
  exact ret2 (by unfold subR; omega) (sub_eq a b c a0 a1 b0 b1)
theorem neg_ (a : Int) (a0 : 0 ≤ a) (a1 : a ≤ 255) (w : World) : Calls Tryz.prog 127 #[.int .u8 a] w fun e w' => e = .returned (.tuple #[.int .u8 (subR 0 a false), .int .u8 (subF 0 a false)]) ∧ Below w.heap.size w w' := by
  go_enter Tryz.func127, Tryz.ntmps127
  go_wp2_with (go_at_call 157; refine (sub_ _ _ _ (by omega) (by omega) a0 a1 _).mono ?_; rintro e w1 ⟨rfl, hb⟩)
  go_ret2
  exact ⟨rfl, hb⟩
theorem cmp_ (a b : Int) (a0 : 0 ≤ a) (a1 : a ≤ 255) (b0 : 0 ≤ b) (b1 : b ≤ 255) (w : World) : Calls Tryz.prog 167 #[.int .u8 a, .int .u8 b] w fun e w' => e = .returned (.int .u8 (cmpF a b)) ∧ Below w.heap.size w w' := by
  go_enter Tryz.func167, Tryz.ntmps167
  go_wp2_with (first | (go_at_call 157; refine (sub_ _ _ _ a0 a1 b0 b1 _).mono ?_; rintro e w1 ⟨rfl, hb⟩) | (go_at_call 154; refine (keep_ _ _ _ _).mono ?_; rintro e w1 ⟨rfl, rfl⟩))
  go_ret
  exact ⟨rfl, hb⟩
theorem inc_ (a f : Int) (a0 : 0 ≤ a) (a1 : a ≤ 255) (w : World) : Calls Tryz.prog 83 #[.int .u8 a, .int .u8 f] w fun e w' => e = .returned (.tuple #[.int .u8 (addR a 1 false), .int .u8 (kp (addF a 1 false) f 1)]) ∧ Below w.heap.size w w' := by
  go_enter Tryz.func83, Tryz.ntmps83
  go_wp2_with (first | (go_at_call 152; refine (add_ _ _ _ a0 a1 (by omega) (by omega) _).mono ?_; rintro e w1 ⟨rfl, hb⟩) | (go_at_call 154; refine (keep_ _ _ _ _).mono ?_; rintro e w1 ⟨rfl, rfl⟩))
  go_ret2
  exact ⟨rfl, hb⟩
theorem dec_ (a f : Int) (a0 : 0 ≤ a) (a1 : a ≤ 255) (w : World) : Calls Tryz.prog 84 #[.int .u8 a, .int .u8 f] w fun e w' => e = .returned (.tuple #[.int .u8 (subR a 1 false), .int .u8 (kp (subF a 1 false) f 1)]) ∧ Below w.heap.size w w' := by
  go_enter Tryz.func84, Tryz.ntmps84
  go_wp2_with (first | (go_at_call 157; refine (sub_ _ _ _ a0 a1 (by omega) (by omega) _).mono ?_; rintro e w1 ⟨rfl, hb⟩) | (go_at_call 154; refine (keep_ _ _ _ _).mono ?_; rintro e w1 ⟨rfl, rfl⟩))
  go_ret2
  exact ⟨rfl, hb⟩
end Go.Proofs.YtnaampdpkegacaaGreatDoor
