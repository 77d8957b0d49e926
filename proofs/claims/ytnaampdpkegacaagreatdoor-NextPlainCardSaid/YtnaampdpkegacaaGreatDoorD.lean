/-
  Contracts of the references 01 and 02 that tell flags. A helper of the claim that stands beside it.
-/
import Derived.Lib.Hide
import Derived.Test.YtnaampdpkegacaaGreatDoorC
namespace Go.Proofs.YtnaampdpkegacaaGreatDoor
open Go.RowKit

theorem r01count_ (b : Int) (h0 : 0 ≤ b) (h1 : b ≤ 255) (w : World) : Calls Tryz.prog 244 #[.int .u8 b] w fun e w' => e = .returned (.int .i64 (cnt b 8)) ∧ w = w' := by
  go_enter Tryz.func244, Tryz.ntmps244
  go_wp2_with fail
  go_loop [3, 4] (fun n i => ∃ k : Nat, k ≤ 8 ∧ i = .int .i64 k ∧ n = .int .i64 (cnt b k)) (fun _ i => 8 - (intOf i).toNat)
  case atStart => exact ⟨0, by omega, rfl, rfl⟩
  case round =>
    obtain ⟨k, hk, rfl, rfl⟩ := hrel
    have hc := cnt_range b k
    by_cases hlt : k < 8
    · cases hi : isb b k
      · have e : Hid (cnt b (k + 1) = cnt b k) := by show cnt b k + bw (isb b k) 1 = cnt b k; rw [hi]; exact Int.add_zero _
        go_wp2_with (go_at_call 181; refine (r01is_ _ _ h0 h1 _).mono ?_; rintro e w1 ⟨rfl, rfl⟩)
        go_round
        case rel => exact ⟨k + 1, by omega, by go_num, by rw [e.out]⟩
        case measure => simp [intOf]; omega
      · have e : Hid (cnt b (k + 1) = cnt b k + 1) := by show cnt b k + bw (isb b k) 1 = cnt b k + 1; rw [hi]; rfl
        go_wp2_with (go_at_call 181; refine (r01is_ _ _ h0 h1 _).mono ?_; rintro e w1 ⟨rfl, rfl⟩)
        go_round
        case rel => exact ⟨k + 1, by omega, by go_num, by rw [e.out]⟩
        case measure => simp [intOf]; omega
    · obtain rfl : k = 8 := by omega
      go_wp2
      go_ret
      exact ⟨rfl, rfl⟩
theorem r01even_ (b : Int) (h0 : 0 ≤ b) (h1 : b ≤ 255) (w : World) : Calls Tryz.prog 184 #[.int .u8 b] w fun e w' => e = .returned (.bool (evb b)) ∧ w = w' := by
  have hc := cnt_range b 8
  go_enter Tryz.func184, Tryz.ntmps184
  go_wp2_with (go_at_call 244; refine (r01count_ _ h0 h1 _).mono ?_; rintro e w1 ⟨rfl, rfl⟩)
  go_ret
  exact ⟨rfl, rfl⟩
theorem r02result_ (r : Int) (h0 : 0 ≤ r) (h1 : r ≤ 255) (w : World) : Calls Tryz.prog 197 #[.int .u8 r] w fun e w' => e = .returned (.int .u8 (res r)) ∧ Below w.heap.size w w' := by
  have hB := Below.refl w.heap.size w
  go_enter Tryz.func197, Tryz.ntmps197
  go_wp2_with (first | (go_at_call 183; refine (r02of_ _ h0 h1 _).mono ?_; rintro e w1 ⟨rfl, hb⟩; replace hB := bt hB hb; have hz := hb.size) | (go_at_call 185; refine (r02make_ _ _ _ _ _ _ _ _ _).mono ?_; rintro e w2 ⟨rfl, hb2⟩))
  go_ret
  exact ⟨rfl, bt (by go_grown) hb2⟩
theorem r02even_ (r : Int) (h0 : 0 ≤ r) (h1 : r ≤ 255) (w : World) : Calls Tryz.prog 99 #[.int .u8 r] w fun e w' => e = .returned (.int .u8 (evf r)) ∧ Below w.heap.size w w' := by
  have hB := Below.refl w.heap.size w
  go_enter Tryz.func99, Tryz.ntmps99
  go_wp2_with (first | (go_at_call 183; refine (r02of_ _ h0 h1 _).mono ?_; rintro e w1 ⟨rfl, hb⟩; replace hB := bt hB hb; have hz := hb.size) | (go_at_call 185; refine (r02make_ _ _ _ _ _ _ _ _ _).mono ?_; rintro e w2 ⟨rfl, hb2⟩) | (go_at_call 184; refine (r01even_ _ h0 h1 _).mono ?_; rintro e w1 ⟨rfl, rfl⟩))
  go_ret
  exact ⟨rfl, bt (by go_grown) hb2⟩
theorem r02test_ (f cond : Int) (f0 : 0 ≤ f) (f1 : f ≤ 255) (w : World) : Calls Tryz.prog 211 #[.int .u8 f, .int .i64 cond] w fun e w' => e = .returned (.bool (tst f cond)) ∧ Below w.heap.size w w' := by
  have hB := Below.refl w.heap.size w
  by_cases h : cond = 0 ∨ cond = 1 ∨ cond = 2 ∨ cond = 3 ∨ cond = 4 ∨ cond = 5 ∨ cond = 6 ∨ cond = 7
  · rcases h with rfl | rfl | rfl | rfl | rfl | rfl | rfl | rfl
    all_goals
      go_enter Tryz.func211, Tryz.ntmps211
      go_wp2_with (go_at_call 183; refine (r02of_ _ f0 f1 _).mono ?_; rintro e w1 ⟨rfl, hb⟩; replace hB := bt hB hb; have hz := hb.size)
      go_ret
      exact ⟨rfl, by go_grown⟩
  · have e0 : (cond == 0) = false := by simp; omega
    have e1 : (cond == 1) = false := by simp; omega
    have e2 : (cond == 2) = false := by simp; omega
    have e3 : (cond == 3) = false := by simp; omega
    have e4 : (cond == 4) = false := by simp; omega
    have e5 : (cond == 5) = false := by simp; omega
    have e6 : (cond == 6) = false := by simp; omega
    have e7 : (cond == 7) = false := by simp; omega
    have ht : Hid (false = tst f cond) := by show false = tst f cond; simp [tst, show ¬ cond = 0 by omega, show ¬ cond = 1 by omega, show ¬ cond = 2 by omega, show ¬ cond = 3 by omega, show ¬ cond = 4 by omega, show ¬ cond = 5 by omega, show ¬ cond = 6 by omega, show ¬ cond = 7 by omega]
    clear h
    go_enter Tryz.func211, Tryz.ntmps211
    go_wp2_with (go_at_call 183; refine (r02of_ _ f0 f1 _).mono ?_; rintro e w1 ⟨rfl, hb⟩; replace hB := bt hB hb; have hz := hb.size)
    go_ret
    exact ⟨ret_bool ht.out, by go_grown⟩
theorem heap_cell {w : World} {B : Nat} {c : Array Value} {t : TypeId} (h : w.heap[B]? = some (.cells c t)) (j : Nat) (v : Value) (hv : c[j]? = some v) : w.cell? ⟨B, j, none⟩ = some v ∧ w.frozen? ⟨B, j, none⟩ = false := by
  constructor <;> simp [World.cell?, World.frozen?, h, hv]
theorem heap_set {w : World} {B : Nat} {c : Array Value} {t : TypeId} (h : w.heap[B]? = some (.cells c t)) (j : Nat) (v : Value) : (w.setCell ⟨B, j, none⟩ v).heap[B]? = some (.cells (c.setIfInBounds j v) t) := by
  simp [World.setCell, Array.getElem?_modify, h]
theorem heap_other {w : World} {B C : Nat} (j : Nat) (v : Value) (h : C ≠ B) : (w.setCell ⟨B, j, none⟩ v).heap[C]? = w.heap[C]? := Below.heap_setCell _ _ _ _ h
def kc (f old mask : Int) (k j : Nat) : Value := .bool (bif (decide (7 - j < k)) && bit j mask then bit j old else bit j f)
end Go.Proofs.YtnaampdpkegacaaGreatDoor
