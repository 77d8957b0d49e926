/-
  Contracts of the references 01 and 02 that tell flags. A helper of the claim that stands beside it.
-/
import Derived.Lib.Hide
import Derived.Test.YtmkaglcobgjjaaaC
namespace Go.Proofs.Ytmkaglcobgjjaaa
open Go.RowKit

theorem r01count_ (b : Int) (h0 : 0 ≤ b) (h1 : b ≤ 255) (w : World) : Calls Try.prog 45 #[.int .u8 b] w fun e w' => e = .returned (.int .i64 (cnt b 8)) ∧ w = w' := by
  go_enter Try.func45, Try.ntmps45
  go_wp2_with fail
  go_loop [3, 4] (fun n i => ∃ k : Nat, k ≤ 8 ∧ i = .int .i64 k ∧ n = .int .i64 (cnt b k)) (fun _ i => 8 - (intOf i).toNat)
  case atStart => exact ⟨0, by omega, rfl, rfl⟩
  case round =>
    obtain ⟨k, hk, rfl, rfl⟩ := hrel
    have hc := cnt_range b k
    by_cases hlt : k < 8
    · cases hi : isb b k
      · have e : Hid (cnt b (k + 1) = cnt b k) := by show cnt b k + bw (isb b k) 1 = cnt b k; rw [hi]; exact Int.add_zero _
        go_wp2_with (go_at_call 36; refine (r01is_ _ _ h0 h1 _).mono ?_; rintro e w1 ⟨rfl, rfl⟩)
        go_round
        case rel => exact ⟨k + 1, by omega, by go_num, by rw [e.out]⟩
        case measure => simp [intOf]; omega
      · have e : Hid (cnt b (k + 1) = cnt b k + 1) := by show cnt b k + bw (isb b k) 1 = cnt b k + 1; rw [hi]; rfl
        go_wp2_with (go_at_call 36; refine (r01is_ _ _ h0 h1 _).mono ?_; rintro e w1 ⟨rfl, rfl⟩)
        go_round
        case rel => exact ⟨k + 1, by omega, by go_num, by rw [e.out]⟩
        case measure => simp [intOf]; omega
    · obtain rfl : k = 8 := by omega
      go_wp2
      go_ret
      exact ⟨rfl, rfl⟩
theorem r01even_ (b : Int) (h0 : 0 ≤ b) (h1 : b ≤ 255) (w : World) : Calls Try.prog 38 #[.int .u8 b] w fun e w' => e = .returned (.bool (evb b)) ∧ w = w' := by
  have hc := cnt_range b 8
  go_enter Try.func38, Try.ntmps38
  go_wp2_with (go_at_call 45; refine (r01count_ _ h0 h1 _).mono ?_; rintro e w1 ⟨rfl, rfl⟩)
  go_ret
  exact ⟨rfl, rfl⟩
theorem r02result_ (r : Int) (h0 : 0 ≤ r) (h1 : r ≤ 255) (w : World) : Calls Try.prog 22 #[.int .u8 r] w fun e w' => e = .returned (.int .u8 (res r)) ∧ Below w.heap.size w w' := by
  have hB := Below.refl w.heap.size w
  go_enter Try.func22, Try.ntmps22
  go_wp2_with (first | (go_at_call 17; refine (r02of_ _ h0 h1 _).mono ?_; rintro e w1 ⟨rfl, hb⟩; replace hB := bt hB hb; have hz := hb.size) | (go_at_call 15; refine (r02make_ _ _ _ _ _ _ _ _ _).mono ?_; rintro e w2 ⟨rfl, hb2⟩))
  go_ret
  exact ⟨rfl, bt (by go_grown) hb2⟩
theorem r02even_ (r : Int) (h0 : 0 ≤ r) (h1 : r ≤ 255) (w : World) : Calls Try.prog 24 #[.int .u8 r] w fun e w' => e = .returned (.int .u8 (evf r)) ∧ Below w.heap.size w w' := by
  have hB := Below.refl w.heap.size w
  go_enter Try.func24, Try.ntmps24
  go_wp2_with (first | (go_at_call 17; refine (r02of_ _ h0 h1 _).mono ?_; rintro e w1 ⟨rfl, hb⟩; replace hB := bt hB hb; have hz := hb.size) | (go_at_call 15; refine (r02make_ _ _ _ _ _ _ _ _ _).mono ?_; rintro e w2 ⟨rfl, hb2⟩) | (go_at_call 38; refine (r01even_ _ h0 h1 _).mono ?_; rintro e w1 ⟨rfl, rfl⟩))
  go_ret
  exact ⟨rfl, bt (by go_grown) hb2⟩
theorem r02test_ (f cond : Int) (f0 : 0 ≤ f) (f1 : f ≤ 255) (w : World) : Calls Try.prog 20 #[.int .u8 f, .int .i64 cond] w fun e w' => e = .returned (.bool (tst f cond)) ∧ Below w.heap.size w w' := by
  have hB := Below.refl w.heap.size w
  by_cases h : cond = 0 ∨ cond = 1 ∨ cond = 2 ∨ cond = 3 ∨ cond = 4 ∨ cond = 5 ∨ cond = 6 ∨ cond = 7
  · rcases h with rfl | rfl | rfl | rfl | rfl | rfl | rfl | rfl
    all_goals
      go_enter Try.func20, Try.ntmps20
      go_wp2_with (go_at_call 17; refine (r02of_ _ f0 f1 _).mono ?_; rintro e w1 ⟨rfl, hb⟩; replace hB := bt hB hb; have hz := hb.size)
      go_ret
      exact ⟨rfl, by go_grown⟩
  · have e0 : (cond == 0) = false := by simp; omega
    have e1 : (cond == 1) = false := by simp; omega
    have e2 : (cond == 2) = false := by simp; omega
    have e3 : (cond == 3) = false := by simp; omega
    have e4 : (cond == 4) = false := by simp; omega
    have e5 : (cond == 5) = false := by simp; omega
    have e6 : (cond == 6) = false := by simp; omega
    have e7 : (cond == 7) = false := by simp; omega
    have ht : Hid (false = tst f cond) := by show false = tst f cond; simp [tst, show ¬ cond = 0 by omega, show ¬ cond = 1 by omega, show ¬ cond = 2 by omega, show ¬ cond = 3 by omega, show ¬ cond = 4 by omega, show ¬ cond = 5 by omega, show ¬ cond = 6 by omega, show ¬ cond = 7 by omega]
    clear h
    go_enter Try.func20, Try.ntmps20
    go_wp2_with (go_at_call 17; refine (r02of_ _ f0 f1 _).mono ?_; rintro e w1 ⟨rfl, hb⟩; replace hB := bt hB hb; have hz := hb.size)
    go_ret
    exact ⟨ret_bool ht.out, by go_grown⟩
theorem heap_cell {w : World} {B : Nat} {c : Array Value} {t : TypeId} (h : w.heap[B]? = some (.cells c t)) (j : Nat) (v : Value) (hv : c[j]? = some v) : w.cell? ⟨B, j, none⟩ = some v ∧ w.frozen? ⟨B, j, none⟩ = false := by
  constructor <;> simp [World.cell?, World.frozen?, h, hv]
theorem heap_set {w : World} {B : Nat} {c : Array Value} {t : TypeId} (h : w.heap[B]? = some (.cells c t)) (j : Nat) (v : Value) : (w.setCell ⟨B, j, none⟩ v).heap[B]? = some (.cells (c.setIfInBounds j v) t) := by
  simp [World.setCell, Array.getElem?_modify, h]
theorem heap_other {w : World} {B C : Nat} (j : Nat) (v : Value) (h : C ≠ B) : (w.setCell ⟨B, j, none⟩ v).heap[C]? = w.heap[C]? := Below.heap_setCell _ _ _ _ h
def kc (f old mask : Int) (k j : Nat) : Value := .bool (bif (decide (7 - j < k)) && bit j mask then bit j old else bit j f)
set_option maxHeartbeats 4000000 in
theorem r02keep_ (f old mask : Int) (f0 : 0 ≤ f) (f1 : f ≤ 255) (o0 : 0 ≤ old) (o1 : old ≤ 255) (m0 : 0 ≤ mask) (m1 : mask ≤ 255) (w : World) :
    Calls Try.prog 26 #[.int .u8 f, .int .u8 old, .int .u8 mask] w fun e w' => e = .returned (.int .u8 (kp f old mask)) ∧ Below w.heap.size w w' := by
  go_enter Try.func26, Try.ntmps26
  go_wp2_with fail
  refine (r02of_ _ f0 f1 _).mono ?_
  rintro e wa ⟨rfl, ha⟩
  go_wp2_with fail
  refine (r02of_ _ o0 o1 _).mono ?_
  rintro e wb ⟨rfl, hb⟩
  go_wp2_with fail
  refine (r02of_ _ m0 m1 _).mono ?_
  rintro e wm ⟨rfl, hm⟩
  have za := ha.size
  have zb := hb.size
  have zm := hm.size
  rw [World.size_alloc] at zb zm
  have B2 : Below w.heap.size w wm := ((ha.alloc za _).trans (hb.mono (by simp; omega))).alloc (by omega) _ |>.trans (hm.mono (by simp; omega))
  have hA : wm.heap[wa.heap.size]? = some (.cells #[.bool (bit 7 f), .bool (bit 6 f), .bool (bit 5 f), .bool (bit 4 f), .bool (bit 3 f), .bool (bit 2 f), .bool (bit 1 f), .bool (bit 0 f)] 27) := by
    rw [hm.block _ (by simp; omega), Below.heap_alloc _ _ _ (by omega), hb.block _ (by simp)]; exact World.alloc_heap_new wa _
  have hO : wm.heap[wb.heap.size]? = some (.cells #[.bool (bit 7 old), .bool (bit 6 old), .bool (bit 5 old), .bool (bit 4 old), .bool (bit 3 old), .bool (bit 2 old), .bool (bit 1 old), .bool (bit 0 old)] 27) := by
    rw [hm.block _ (by simp)]; exact World.alloc_heap_new wb _
  clear ha hb hm
  go_wp2_with fail
  go_loopw [10] (fun i wr => ∃ k : Nat, k ≤ 8 ∧ i = .int .i64 k ∧
      wr.heap[wa.heap.size]? = some (.cells #[kc f old mask k 7, kc f old mask k 6, kc f old mask k 5, kc f old mask k 4, kc f old mask k 3, kc f old mask k 2, kc f old mask k 1, kc f old mask k 0] 27) ∧
      wr.heap[wb.heap.size]? = some (.cells #[.bool (bit 7 old), .bool (bit 6 old), .bool (bit 5 old), .bool (bit 4 old), .bool (bit 3 old), .bool (bit 2 old), .bool (bit 1 old), .bool (bit 0 old)] 27) ∧
      wr.heap[wm.heap.size]? = some (.cells #[.bool (bit 7 mask), .bool (bit 6 mask), .bool (bit 5 mask), .bool (bit 4 mask), .bool (bit 3 mask), .bool (bit 2 mask), .bool (bit 1 mask), .bool (bit 0 mask)] 27) ∧
      Below w.heap.size w wr ∧ wm.heap.size < wr.heap.size)
    (fun i _ => 8 - (intOf i).toNat)
  case atStart => exact ⟨0, by omega, rfl, (Below.heap_alloc _ _ _ (by omega)).trans hA, (Below.heap_alloc _ _ _ (by omega)).trans hO, World.alloc_heap_new wm _, B2.alloc B2.size _, by simp⟩
  case round =>
    obtain ⟨k, hk, rfl, rA, rO, rM, rB, rz⟩ := hrel
    clear hA hO B2
    by_cases h8 : k = 8
    · subst h8
      have e : ∀ j, 7 - j < 8 → kc f old mask 8 j = .bool (bif bit j mask then bit j old else bit j f) := fun j hj => by simp only [kc, decide_eq_true hj, Bool.true_and]
      rw [e 7 (by decide), e 6 (by decide), e 5 (by decide), e 4 (by decide), e 3 (by decide), e 2 (by decide), e 1 (by decide), e 0 (by decide)] at rA
      have c0 := (heap_cell rA 0 _ rfl).1
      have c1 := (heap_cell rA 1 _ rfl).1
      have c2 := (heap_cell rA 2 _ rfl).1
      have c3 := (heap_cell rA 3 _ rfl).1
      have c4 := (heap_cell rA 4 _ rfl).1
      have c5 := (heap_cell rA 5 _ rfl).1
      have c6 := (heap_cell rA 6 _ rfl).1
      have c7 := (heap_cell rA 7 _ rfl).1
      clear rA rO rM e
      go_wp2_with (go_at_call 15; refine (r02make_ _ _ _ _ _ _ _ _ _).mono ?_; rintro e w2 ⟨rfl, hb2⟩)
      go_ret
      exact ⟨ret_int (kp_mk f old mask).symm, rB.trans (hb2.mono rB.size)⟩
    · have h : k = 0 ∨ k = 1 ∨ k = 2 ∨ k = 3 ∨ k = 4 ∨ k = 5 ∨ k = 6 ∨ k = 7 := by omega
      clear hk h8
      rcases h with rfl | rfl | rfl | rfl | rfl | rfl | rfl | rfl
      · have hM := heap_cell rM 0 _ rfl
        have hO := heap_cell rO 0 _ rfl
        have hA := heap_cell rA 0 _ rfl
        have RA := Lib.hid rA
        have RO := Lib.hid rO
        have RM := Lib.hid rM
        clear rA rO rM
        rcases (Bool.eq_false_or_eq_true (bit 7 mask)).symm with hq | hq
        · rw [hq] at hM
          have HQ := Lib.hid hq
          clear hq
          go_wp2
          go_roundw
          case rel => exact ⟨1, by omega, rfl, by rw [RA.out]; simp [kc, HQ.out], RO.out, RM.out, rB, rz⟩
          case measure => simp [intOf]
        · rw [hq] at hM
          have HQ := Lib.hid hq
          clear hq
          go_wp2
          go_roundw
          case rel => exact ⟨1, by omega, rfl, by rw [heap_set RA.out]; simp [kc, HQ.out], (heap_other _ _ (by omega)).trans RO.out, (heap_other _ _ (by omega)).trans RM.out, rB.setCell (p := ⟨wa.heap.size, 0, none⟩) za _, by simpa [World.setCell] using rz⟩
          case measure => simp [intOf]
      · have hM := heap_cell rM 1 _ rfl
        have hO := heap_cell rO 1 _ rfl
        have hA := heap_cell rA 1 _ rfl
        have RA := Lib.hid rA
        have RO := Lib.hid rO
        have RM := Lib.hid rM
        clear rA rO rM
        rcases (Bool.eq_false_or_eq_true (bit 6 mask)).symm with hq | hq
        · rw [hq] at hM
          have HQ := Lib.hid hq
          clear hq
          go_wp2
          go_roundw
          case rel => exact ⟨2, by omega, rfl, by rw [RA.out]; simp [kc, HQ.out], RO.out, RM.out, rB, rz⟩
          case measure => simp [intOf]
        · rw [hq] at hM
          have HQ := Lib.hid hq
          clear hq
          go_wp2
          go_roundw
          case rel => exact ⟨2, by omega, rfl, by rw [heap_set RA.out]; simp [kc, HQ.out], (heap_other _ _ (by omega)).trans RO.out, (heap_other _ _ (by omega)).trans RM.out, rB.setCell (p := ⟨wa.heap.size, 1, none⟩) za _, by simpa [World.setCell] using rz⟩
          case measure => simp [intOf]
      · have hM := heap_cell rM 2 _ rfl
        have hO := heap_cell rO 2 _ rfl
        have hA := heap_cell rA 2 _ rfl
        have RA := Lib.hid rA
        have RO := Lib.hid rO
        have RM := Lib.hid rM
        clear rA rO rM
        rcases (Bool.eq_false_or_eq_true (bit 5 mask)).symm with hq | hq
        · rw [hq] at hM
          have HQ := Lib.hid hq
          clear hq
          go_wp2
          go_roundw
          case rel => exact ⟨3, by omega, rfl, by rw [RA.out]; simp [kc, HQ.out], RO.out, RM.out, rB, rz⟩
          case measure => simp [intOf]
        · rw [hq] at hM
          have HQ := Lib.hid hq
          clear hq
          go_wp2
          go_roundw
          case rel => exact ⟨3, by omega, rfl, by rw [heap_set RA.out]; simp [kc, HQ.out], (heap_other _ _ (by omega)).trans RO.out, (heap_other _ _ (by omega)).trans RM.out, rB.setCell (p := ⟨wa.heap.size, 2, none⟩) za _, by simpa [World.setCell] using rz⟩
          case measure => simp [intOf]
      · have hM := heap_cell rM 3 _ rfl
        have hO := heap_cell rO 3 _ rfl
        have hA := heap_cell rA 3 _ rfl
        have RA := Lib.hid rA
        have RO := Lib.hid rO
        have RM := Lib.hid rM
        clear rA rO rM
        rcases (Bool.eq_false_or_eq_true (bit 4 mask)).symm with hq | hq
        · rw [hq] at hM
          have HQ := Lib.hid hq
          clear hq
          go_wp2
          go_roundw
          case rel => exact ⟨4, by omega, rfl, by rw [RA.out]; simp [kc, HQ.out], RO.out, RM.out, rB, rz⟩
          case measure => simp [intOf]
        · rw [hq] at hM
          have HQ := Lib.hid hq
          clear hq
          go_wp2
          go_roundw
          case rel => exact ⟨4, by omega, rfl, by rw [heap_set RA.out]; simp [kc, HQ.out], (heap_other _ _ (by omega)).trans RO.out, (heap_other _ _ (by omega)).trans RM.out, rB.setCell (p := ⟨wa.heap.size, 3, none⟩) za _, by simpa [World.setCell] using rz⟩
          case measure => simp [intOf]
      · have hM := heap_cell rM 4 _ rfl
        have hO := heap_cell rO 4 _ rfl
        have hA := heap_cell rA 4 _ rfl
        have RA := Lib.hid rA
        have RO := Lib.hid rO
        have RM := Lib.hid rM
        clear rA rO rM
        rcases (Bool.eq_false_or_eq_true (bit 3 mask)).symm with hq | hq
        · rw [hq] at hM
          have HQ := Lib.hid hq
          clear hq
          go_wp2
          go_roundw
          case rel => exact ⟨5, by omega, rfl, by rw [RA.out]; simp [kc, HQ.out], RO.out, RM.out, rB, rz⟩
          case measure => simp [intOf]
        · rw [hq] at hM
          have HQ := Lib.hid hq
          clear hq
          go_wp2
          go_roundw
          case rel => exact ⟨5, by omega, rfl, by rw [heap_set RA.out]; simp [kc, HQ.out], (heap_other _ _ (by omega)).trans RO.out, (heap_other _ _ (by omega)).trans RM.out, rB.setCell (p := ⟨wa.heap.size, 4, none⟩) za _, by simpa [World.setCell] using rz⟩
          case measure => simp [intOf]
      · have hM := heap_cell rM 5 _ rfl
        have hO := heap_cell rO 5 _ rfl
        have hA := heap_cell rA 5 _ rfl
        have RA := Lib.hid rA
        have RO := Lib.hid rO
        have RM := Lib.hid rM
        clear rA rO rM
        rcases (Bool.eq_false_or_eq_true (bit 2 mask)).symm with hq | hq
        · rw [hq] at hM
          have HQ := Lib.hid hq
          clear hq
          go_wp2
          go_roundw
          case rel => exact ⟨6, by omega, rfl, by rw [RA.out]; simp [kc, HQ.out], RO.out, RM.out, rB, rz⟩
          case measure => simp [intOf]
        · rw [hq] at hM
          have HQ := Lib.hid hq
          clear hq
          go_wp2
          go_roundw
          case rel => exact ⟨6, by omega, rfl, by rw [heap_set RA.out]; simp [kc, HQ.out], (heap_other _ _ (by omega)).trans RO.out, (heap_other _ _ (by omega)).trans RM.out, rB.setCell (p := ⟨wa.heap.size, 5, none⟩) za _, by simpa [World.setCell] using rz⟩
          case measure => simp [intOf]
      · have hM := heap_cell rM 6 _ rfl
        have hO := heap_cell rO 6 _ rfl
        have hA := heap_cell rA 6 _ rfl
        have RA := Lib.hid rA
        have RO := Lib.hid rO
        have RM := Lib.hid rM
        clear rA rO rM
        rcases (Bool.eq_false_or_eq_true (bit 1 mask)).symm with hq | hq
        · rw [hq] at hM
          have HQ := Lib.hid hq
          clear hq
          go_wp2
          go_roundw
          case rel => exact ⟨7, by omega, rfl, by rw [RA.out]; simp [kc, HQ.out], RO.out, RM.out, rB, rz⟩
          case measure => simp [intOf]
        · rw [hq] at hM
          have HQ := Lib.hid hq
          clear hq
          go_wp2
          go_roundw
          case rel => exact ⟨7, by omega, rfl, by rw [heap_set RA.out]; simp [kc, HQ.out], (heap_other _ _ (by omega)).trans RO.out, (heap_other _ _ (by omega)).trans RM.out, rB.setCell (p := ⟨wa.heap.size, 6, none⟩) za _, by simpa [World.setCell] using rz⟩
          case measure => simp [intOf]
      · have hM := heap_cell rM 7 _ rfl
        have hO := heap_cell rO 7 _ rfl
        have hA := heap_cell rA 7 _ rfl
        have RA := Lib.hid rA
        have RO := Lib.hid rO
        have RM := Lib.hid rM
        clear rA rO rM
        rcases (Bool.eq_false_or_eq_true (bit 0 mask)).symm with hq | hq
        · rw [hq] at hM
          have HQ := Lib.hid hq
          clear hq
          go_wp2
          go_roundw
          case rel => exact ⟨8, by omega, rfl, by rw [RA.out]; simp [kc, HQ.out], RO.out, RM.out, rB, rz⟩
          case measure => simp [intOf]
        · rw [hq] at hM
          have HQ := Lib.hid hq
          clear hq
          go_wp2
          go_roundw
          case rel => exact ⟨8, by omega, rfl, by rw [heap_set RA.out]; simp [kc, HQ.out], (heap_other _ _ (by omega)).trans RO.out, (heap_other _ _ (by omega)).trans RM.out, rB.setCell (p := ⟨wa.heap.size, 7, none⟩) za _, by simpa [World.setCell] using rz⟩
          case measure => simp [intOf]
end Go.Proofs.Ytmkaglcobgjjaaa
