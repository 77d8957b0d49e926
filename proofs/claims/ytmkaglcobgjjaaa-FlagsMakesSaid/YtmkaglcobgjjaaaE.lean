/-
  Contracts of flags.Show, flags.Read and of their references. A helper of the claim that stands beside it.
-/
import Derived.Lib.SlBytesConst
import Derived.Test.YtmkaglcobgjjaaaD
namespace Go.Proofs.Ytmkaglcobgjjaaa
open Go.RowKit

def lett : Nat → Int
  | 7 => 83 | 6 => 90 | 5 => 89 | 4 => 72 | 3 => 88 | 2 => 80 | 1 => 78 | _ => 67
/-- The text's byte for bit j, k bytes being done. -/
def chk (f : Int) (k j : Nat) : Int := bif decide (7 - j < k) && !bit j f then 45 else lett j
def chu (f : Int) (j : Nat) : UInt8 := bif bit j f then UInt8.ofNat (lett j).toNat else 45
def shw (f : Int) : List UInt8 := [chu f 7, chu f 6, chu f 5, chu f 4, chu f 3, chu f 2, chu f 1, chu f 0]
theorem heap_cell' {w : World} {B : Nat} {c : Array Value} {t : TypeId} (h : w.heap[B]? = some (.cells c t (8, 9))) (j : Nat) (hj : j < 8) (v : Value) (hv : c[j]? = some v) : w.cell? ⟨B, j, none⟩ = some v ∧ w.frozen? ⟨B, j, none⟩ = false := by
  constructor
  · simp [World.cell?, h, hv]
  · simp [World.frozen?, h]; omega
theorem heap_set' {w : World} {B : Nat} {c : Array Value} {t : TypeId} {z : Nat × Nat} (h : w.heap[B]? = some (.cells c t z)) (j : Nat) (v : Value) : (w.setCell ⟨B, j, none⟩ v).heap[B]? = some (.cells (c.setIfInBounds j v) t z) := by
  simp [World.setCell, Array.getElem?_modify, h]
set_option maxHeartbeats 4000000 in
theorem show_ (f : Int) (w : World) : Calls Try.prog 18 #[.int .u8 f] w fun e w' => e = .returned (.string ⟨(shw f).toArray⟩) ∧ Below w.heap.size w w' := by
  have kc := fun (w : World) (C : Array Value) (n c : Nat) => Lib.run_convert_bytes_const (P := Try.prog) w 46 5 C n c Try.underlying46 Try.underlying5
  go_enter Try.func18, Try.ntmps18
  go_wp2_with fail
  refine (of_ _ _).mono ?_
  rintro e wa ⟨rfl, ha⟩
  clear kc
  have hA : wa.heap[w.heap.size]? = some (.cells #[.int .u8 (chk f 0 7), .int .u8 (chk f 0 6), .int .u8 (chk f 0 5), .int .u8 (chk f 0 4), .int .u8 (chk f 0 3), .int .u8 (chk f 0 2), .int .u8 (chk f 0 1), .int .u8 (chk f 0 0)] 5 (8, 9)) := by
    rw [ha.block _ (by simp)]; exact World.alloc_heap_new w _
  have B2 : Below w.heap.size w wa := ((Below.refl _ w).alloc (Nat.le_refl _) _).trans (ha.mono (by simp))
  clear ha
  go_wp2_with fail
  go_loopw [10] (fun i wr => ∃ k : Nat, k ≤ 8 ∧ i = .int .i64 k ∧
      wr.heap[w.heap.size]? = some (.cells #[.int .u8 (chk f k 7), .int .u8 (chk f k 6), .int .u8 (chk f k 5), .int .u8 (chk f k 4), .int .u8 (chk f k 3), .int .u8 (chk f k 2), .int .u8 (chk f k 1), .int .u8 (chk f k 0)] 5 (8, 9)) ∧
      Below w.heap.size w wr)
    (fun i _ => 8 - (intOf i).toNat)
  case atStart => exact ⟨0, by omega, rfl, hA, B2⟩
  case round =>
    obtain ⟨k, hk, rfl, rA, rB⟩ := hrel
    clear hA B2
    by_cases h8 : k = 8
    · subst h8
      have e : ∀ j, 7 - j < 8 → Value.int .u8 (chk f 8 j) = .int .u8 ((chu f j).toNat : Int) := fun j hj => by
        simp only [chk, decide_eq_true hj, Bool.true_and, chu]
        cases bit j f
        · rfl
        · simp only [Bool.not_true, cond_false, cond_true]; unfold lett; split <;> rfl
      rw [e 7 (by decide), e 6 (by decide), e 5 (by decide), e 4 (by decide), e 3 (by decide), e 2 (by decide), e 1 (by decide), e 0 (by decide)] at rA
      have kb : ∀ cap, (convert 46 9 (.slice (some ⟨w.heap.size, 0, none⟩) 8 cap)).run Try.prog wr = .ok (.string ⟨(shw f).toArray⟩) wr := fun cap => run_convert_bytes_back (P := Try.prog) wr 46 9 5 ⟨w.heap.size, 0, none⟩ cap (shw f) Try.underlying46 Try.underlying5 Try.underlying9 (by
        intro i hi
        have hi' : i < 8 := hi
        have h : i = 0 ∨ i = 1 ∨ i = 2 ∨ i = 3 ∨ i = 4 ∨ i = 5 ∨ i = 6 ∨ i = 7 := by omega
        rcases h with rfl | rfl | rfl | rfl | rfl | rfl | rfl | rfl <;> simp [shw, World.cell?, Addr.add, rA])
      clear rA e
      go_wp2
      go_ret
      exact ⟨rfl, rB⟩
    · have h : k = 0 ∨ k = 1 ∨ k = 2 ∨ k = 3 ∨ k = 4 ∨ k = 5 ∨ k = 6 ∨ k = 7 := by omega
      clear hk h8
      rcases h with rfl | rfl | rfl | rfl | rfl | rfl | rfl | rfl
      · have hA := heap_cell' rA 0 (by decide) _ rfl
        have RA := Lib.hid rA
        clear rA
        rcases (Bool.eq_false_or_eq_true (bit 7 f)).symm with hq | hq
        · have hn : (!bit 7 f) = true := by rw [hq]; rfl
          have HQ := Lib.hid hq
          clear hq
          go_wp2
          go_roundw
          case rel => exact ⟨1, by omega, rfl, by rw [heap_set' RA.out]; simp [chk, HQ.out], rB.setCell (p := ⟨w.heap.size, 0, none⟩) (Nat.le_refl _) _⟩
          case measure => simp [intOf]
        · have hn : (!bit 7 f) = false := by rw [hq]; rfl
          have HQ := Lib.hid hq
          clear hq
          go_wp2
          go_roundw
          case rel => exact ⟨1, by omega, rfl, by rw [RA.out]; simp [chk, HQ.out], rB⟩
          case measure => simp [intOf]
      · have hA := heap_cell' rA 1 (by decide) _ rfl
        have RA := Lib.hid rA
        clear rA
        rcases (Bool.eq_false_or_eq_true (bit 6 f)).symm with hq | hq
        · have hn : (!bit 6 f) = true := by rw [hq]; rfl
          have HQ := Lib.hid hq
          clear hq
          go_wp2
          go_roundw
          case rel => exact ⟨2, by omega, rfl, by rw [heap_set' RA.out]; simp [chk, HQ.out], rB.setCell (p := ⟨w.heap.size, 1, none⟩) (Nat.le_refl _) _⟩
          case measure => simp [intOf]
        · have hn : (!bit 6 f) = false := by rw [hq]; rfl
          have HQ := Lib.hid hq
          clear hq
          go_wp2
          go_roundw
          case rel => exact ⟨2, by omega, rfl, by rw [RA.out]; simp [chk, HQ.out], rB⟩
          case measure => simp [intOf]
      · have hA := heap_cell' rA 2 (by decide) _ rfl
        have RA := Lib.hid rA
        clear rA
        rcases (Bool.eq_false_or_eq_true (bit 5 f)).symm with hq | hq
        · have hn : (!bit 5 f) = true := by rw [hq]; rfl
          have HQ := Lib.hid hq
          clear hq
          go_wp2
          go_roundw
          case rel => exact ⟨3, by omega, rfl, by rw [heap_set' RA.out]; simp [chk, HQ.out], rB.setCell (p := ⟨w.heap.size, 2, none⟩) (Nat.le_refl _) _⟩
          case measure => simp [intOf]
        · have hn : (!bit 5 f) = false := by rw [hq]; rfl
          have HQ := Lib.hid hq
          clear hq
          go_wp2
          go_roundw
          case rel => exact ⟨3, by omega, rfl, by rw [RA.out]; simp [chk, HQ.out], rB⟩
          case measure => simp [intOf]
      · have hA := heap_cell' rA 3 (by decide) _ rfl
        have RA := Lib.hid rA
        clear rA
        rcases (Bool.eq_false_or_eq_true (bit 4 f)).symm with hq | hq
        · have hn : (!bit 4 f) = true := by rw [hq]; rfl
          have HQ := Lib.hid hq
          clear hq
          go_wp2
          go_roundw
          case rel => exact ⟨4, by omega, rfl, by rw [heap_set' RA.out]; simp [chk, HQ.out], rB.setCell (p := ⟨w.heap.size, 3, none⟩) (Nat.le_refl _) _⟩
          case measure => simp [intOf]
        · have hn : (!bit 4 f) = false := by rw [hq]; rfl
          have HQ := Lib.hid hq
          clear hq
          go_wp2
          go_roundw
          case rel => exact ⟨4, by omega, rfl, by rw [RA.out]; simp [chk, HQ.out], rB⟩
          case measure => simp [intOf]
      · have hA := heap_cell' rA 4 (by decide) _ rfl
        have RA := Lib.hid rA
        clear rA
        rcases (Bool.eq_false_or_eq_true (bit 3 f)).symm with hq | hq
        · have hn : (!bit 3 f) = true := by rw [hq]; rfl
          have HQ := Lib.hid hq
          clear hq
          go_wp2
          go_roundw
          case rel => exact ⟨5, by omega, rfl, by rw [heap_set' RA.out]; simp [chk, HQ.out], rB.setCell (p := ⟨w.heap.size, 4, none⟩) (Nat.le_refl _) _⟩
          case measure => simp [intOf]
        · have hn : (!bit 3 f) = false := by rw [hq]; rfl
          have HQ := Lib.hid hq
          clear hq
          go_wp2
          go_roundw
          case rel => exact ⟨5, by omega, rfl, by rw [RA.out]; simp [chk, HQ.out], rB⟩
          case measure => simp [intOf]
      · have hA := heap_cell' rA 5 (by decide) _ rfl
        have RA := Lib.hid rA
        clear rA
        rcases (Bool.eq_false_or_eq_true (bit 2 f)).symm with hq | hq
        · have hn : (!bit 2 f) = true := by rw [hq]; rfl
          have HQ := Lib.hid hq
          clear hq
          go_wp2
          go_roundw
          case rel => exact ⟨6, by omega, rfl, by rw [heap_set' RA.out]; simp [chk, HQ.out], rB.setCell (p := ⟨w.heap.size, 5, none⟩) (Nat.le_refl _) _⟩
          case measure => simp [intOf]
        · have hn : (!bit 2 f) = false := by rw [hq]; rfl
          have HQ := Lib.hid hq
          clear hq
          go_wp2
          go_roundw
          case rel => exact ⟨6, by omega, rfl, by rw [RA.out]; simp [chk, HQ.out], rB⟩
          case measure => simp [intOf]
      · have hA := heap_cell' rA 6 (by decide) _ rfl
        have RA := Lib.hid rA
        clear rA
        rcases (Bool.eq_false_or_eq_true (bit 1 f)).symm with hq | hq
        · have hn : (!bit 1 f) = true := by rw [hq]; rfl
          have HQ := Lib.hid hq
          clear hq
          go_wp2
          go_roundw
          case rel => exact ⟨7, by omega, rfl, by rw [heap_set' RA.out]; simp [chk, HQ.out], rB.setCell (p := ⟨w.heap.size, 6, none⟩) (Nat.le_refl _) _⟩
          case measure => simp [intOf]
        · have hn : (!bit 1 f) = false := by rw [hq]; rfl
          have HQ := Lib.hid hq
          clear hq
          go_wp2
          go_roundw
          case rel => exact ⟨7, by omega, rfl, by rw [RA.out]; simp [chk, HQ.out], rB⟩
          case measure => simp [intOf]
      · have hA := heap_cell' rA 7 (by decide) _ rfl
        have RA := Lib.hid rA
        clear rA
        rcases (Bool.eq_false_or_eq_true (bit 0 f)).symm with hq | hq
        · have hn : (!bit 0 f) = true := by rw [hq]; rfl
          have HQ := Lib.hid hq
          clear hq
          go_wp2
          go_roundw
          case rel => exact ⟨8, by omega, rfl, by rw [heap_set' RA.out]; simp [chk, HQ.out], rB.setCell (p := ⟨w.heap.size, 7, none⟩) (Nat.le_refl _) _⟩
          case measure => simp [intOf]
        · have hn : (!bit 0 f) = false := by rw [hq]; rfl
          have HQ := Lib.hid hq
          clear hq
          go_wp2
          go_roundw
          case rel => exact ⟨8, by omega, rfl, by rw [RA.out]; simp [chk, HQ.out], rB⟩
          case measure => simp [intOf]
theorem eight (s : ByteArray) (h : s.size = 8) : ∃ a b c d e f g i : UInt8, s = ⟨#[a, b, c, d, e, f, g, i]⟩ := by
  obtain ⟨⟨l⟩⟩ := s
  match l, h with
  | [a, b, c, d, e, f, g, i], _ => exact ⟨a, b, c, d, e, f, g, i, rfl⟩
theorem eq_yes (a : UInt8) (n : Nat) (hn : n < 256) (h : a = UInt8.ofNat n) : ((a.toNat : Int) == (n : Int)) = true := by
  rw [h, UInt8.toNat_ofNat', Nat.mod_eq_of_lt hn]; simp
theorem eq_no (a : UInt8) (n : Nat) (hn : n < 256) (h : ¬ a = UInt8.ofNat n) : ((a.toNat : Int) == (n : Int)) = false := by
  rw [beq_eq_false_iff_ne]
  intro e
  exact h (UInt8.toNat_inj.1 (by rw [UInt8.toNat_ofNat', Nat.mod_eq_of_lt hn]; omega))
theorem ne_yes (a : UInt8) (n : Nat) (hn : n < 256) (h : a = UInt8.ofNat n) : ((a.toNat : Int) != (n : Int)) = false := by
  rw [bne, eq_yes a n hn h]; rfl
theorem ne_no (a : UInt8) (n : Nat) (hn : n < 256) (h : ¬ a = UInt8.ofNat n) : ((a.toNat : Int) != (n : Int)) = true := by
  rw [bne, eq_no a n hn h]; rfl
set_option maxRecDepth 100000 in
set_option maxHeartbeats 8000000 in
theorem read8_ (a b c d e f g i : UInt8) (w : World) : Calls Try.prog 12 #[.string ⟨#[a, b, c, d, e, f, g, i]⟩] w fun x w' =>
    ((((a = 83 ∨ a = 45) ∧ (b = 90 ∨ b = 45) ∧ (c = 89 ∨ c = 45) ∧ (d = 72 ∨ d = 45) ∧ (e = 88 ∨ e = 45) ∧ (f = 80 ∨ f = 45) ∧ (g = 78 ∨ g = 45) ∧ (i = 67 ∨ i = 45)) ∧ x = .returned (.tuple #[.int .u8 (mk (a == 83) (b == 90) (c == 89) (d == 72) (e == 88) (f == 80) (g == 78) (i == 67)), .bool true])) ∨
     (¬ ((a = 83 ∨ a = 45) ∧ (b = 90 ∨ b = 45) ∧ (c = 89 ∨ c = 45) ∧ (d = 72 ∨ d = 45) ∧ (e = 88 ∨ e = 45) ∧ (f = 80 ∨ f = 45) ∧ (g = 78 ∨ g = 45) ∧ (i = 67 ∨ i = 45)) ∧ x = .returned (.tuple #[.int .u8 0, .bool false]))) ∧ Below w.heap.size w w' := by
  go_enter Try.func12, Try.ntmps12
  go_wp2_with fail
  go_loopw [9] (fun v wr => ∃ k : Nat, k ≤ 8 ∧ v = .int .i64 k ∧
      wr.heap[w.heap.size]? = some (.cells #[.bool (decide (0 < k) && (a == 83)), .bool (decide (1 < k) && (b == 90)), .bool (decide (2 < k) && (c == 89)), .bool (decide (3 < k) && (d == 72)), .bool (decide (4 < k) && (e == 88)), .bool (decide (5 < k) && (f == 80)), .bool (decide (6 < k) && (g == 78)), .bool (decide (7 < k) && (i == 67))] 27) ∧ ((0 < k → (a = 83 ∨ a = 45)) ∧ (1 < k → (b = 90 ∨ b = 45)) ∧ (2 < k → (c = 89 ∨ c = 45)) ∧ (3 < k → (d = 72 ∨ d = 45)) ∧ (4 < k → (e = 88 ∨ e = 45)) ∧ (5 < k → (f = 80 ∨ f = 45)) ∧ (6 < k → (g = 78 ∨ g = 45)) ∧ (7 < k → (i = 67 ∨ i = 45))) ∧ Below w.heap.size w wr)
    (fun v _ => 8 - (intOf v).toNat)
  case atStart => exact ⟨0, by omega, rfl, World.alloc_heap_new w _, by simp, (Below.refl _ _).alloc (Nat.le_refl _) _⟩
  case round =>
    obtain ⟨k, hk, rfl, rA, rP, rB⟩ := hrel
    by_cases h8 : k = 8
    · subst h8
      have okk : (a = 83 ∨ a = 45) ∧ (b = 90 ∨ b = 45) ∧ (c = 89 ∨ c = 45) ∧ (d = 72 ∨ d = 45) ∧ (e = 88 ∨ e = 45) ∧ (f = 80 ∨ f = 45) ∧ (g = 78 ∨ g = 45) ∧ (i = 67 ∨ i = 45) := by simpa using rP
      have Ok := Lib.hid okk
      simp only [show (0 < 8) from by decide, show (1 < 8) from by decide, show (2 < 8) from by decide, show (3 < 8) from by decide, show (4 < 8) from by decide, show (5 < 8) from by decide, show (6 < 8) from by decide, show (7 < 8) from by decide, decide_true, Bool.true_and] at rA
      have c0 := (heap_cell rA 0 _ rfl).1
      have c1 := (heap_cell rA 1 _ rfl).1
      have c2 := (heap_cell rA 2 _ rfl).1
      have c3 := (heap_cell rA 3 _ rfl).1
      have c4 := (heap_cell rA 4 _ rfl).1
      have c5 := (heap_cell rA 5 _ rfl).1
      have c6 := (heap_cell rA 6 _ rfl).1
      have c7 := (heap_cell rA 7 _ rfl).1
      clear rA rP okk hk
      go_wp2_with (go_at_call 14; refine (make_ _ _ _ _ _ _ _ _ _).mono ?_; rintro x w2 ⟨rfl, hb2⟩)
      go_ret2
      exact ⟨.inl ⟨Ok.out, rfl⟩, rB.trans (hb2.mono rB.size)⟩
    · have h : k = 0 ∨ k = 1 ∨ k = 2 ∨ k = 3 ∨ k = 4 ∨ k = 5 ∨ k = 6 ∨ k = 7 := by omega
      clear hk h8
      rcases h with rfl | rfl | rfl | rfl | rfl | rfl | rfl | rfl
      · have hA := heap_cell rA 0 _ rfl
        have RA := Lib.hid rA
        have RP := Lib.hid rP
        clear rA rP
        have g0 : ∀ h, (ByteArray.mk #[a, b, c, d, e, f, g, i])[0]'h = a := fun _ => rfl
        have g1 : ∀ h, (ByteArray.mk #[83, 90, 89, 72, 88, 80, 78, 67])[0]'h = 83 := fun _ => rfl
        by_cases q1 : a = 83
        · have e1 : ((a.toNat : Int) == 83) = true := eq_yes a 83 (by decide) q1
          have Q1 := Lib.hid q1
          clear q1
          go_wp2
          go_region
          go_wp2
          go_roundw
          case rel => exact ⟨1, by omega, rfl, (heap_set RA.out _ _).trans (by simp [Q1.out]), by simp [Q1.out], (rB.setCell (p := ⟨w.heap.size, 0, none⟩) (Nat.le_refl _) _).drew⟩
          case measure => simp [intOf]
        · have e1 : ((a.toNat : Int) == 83) = false := eq_no a 83 (by decide) q1
          by_cases q2 : a = 45
          · have e2 : ((a.toNat : Int) != 45) = false := ne_yes a 45 (by decide) q2
            have Q1 := Lib.hid q1
            have Q2 := Lib.hid q2
            clear q1 q2
            go_wp2
            go_region
            go_wp2
            go_roundw
            case rel => exact ⟨1, by omega, rfl, (heap_set RA.out _ _).trans (by simp [Q2.out]), by simp [Q2.out], (rB.setCell (p := ⟨w.heap.size, 0, none⟩) (Nat.le_refl _) _).drew⟩
            case measure => simp [intOf]
          · have e2 : ((a.toNat : Int) != 45) = true := ne_no a 45 (by decide) q2
            have Q1 := Lib.hid q1
            have Q2 := Lib.hid q2
            clear q1 q2
            go_wp2
            go_region
            go_wp2
            go_ret2
            exact ⟨.inr ⟨fun h => (h.1).elim Q1.out Q2.out, rfl⟩, by go_grown⟩
      · have hA := heap_cell rA 1 _ rfl
        have RA := Lib.hid rA
        have RP := Lib.hid rP
        clear rA rP
        have g0 : ∀ h, (ByteArray.mk #[a, b, c, d, e, f, g, i])[1]'h = b := fun _ => rfl
        have g1 : ∀ h, (ByteArray.mk #[83, 90, 89, 72, 88, 80, 78, 67])[1]'h = 90 := fun _ => rfl
        by_cases q1 : b = 90
        · have e1 : ((b.toNat : Int) == 90) = true := eq_yes b 90 (by decide) q1
          have Q1 := Lib.hid q1
          clear q1
          go_wp2
          go_region
          go_wp2
          go_roundw
          case rel => exact ⟨2, by omega, rfl, (heap_set RA.out _ _).trans (by simp [Q1.out]), by have := RP.out; simp at this; simp [Q1.out, this], (rB.setCell (p := ⟨w.heap.size, 1, none⟩) (Nat.le_refl _) _).drew⟩
          case measure => simp [intOf]
        · have e1 : ((b.toNat : Int) == 90) = false := eq_no b 90 (by decide) q1
          by_cases q2 : b = 45
          · have e2 : ((b.toNat : Int) != 45) = false := ne_yes b 45 (by decide) q2
            have Q1 := Lib.hid q1
            have Q2 := Lib.hid q2
            clear q1 q2
            go_wp2
            go_region
            go_wp2
            go_roundw
            case rel => exact ⟨2, by omega, rfl, (heap_set RA.out _ _).trans (by simp [Q2.out]), by have := RP.out; simp at this; simp [Q2.out, this], (rB.setCell (p := ⟨w.heap.size, 1, none⟩) (Nat.le_refl _) _).drew⟩
            case measure => simp [intOf]
          · have e2 : ((b.toNat : Int) != 45) = true := ne_no b 45 (by decide) q2
            have Q1 := Lib.hid q1
            have Q2 := Lib.hid q2
            clear q1 q2
            go_wp2
            go_region
            go_wp2
            go_ret2
            exact ⟨.inr ⟨fun h => (h.2.1).elim Q1.out Q2.out, rfl⟩, by go_grown⟩
      · have hA := heap_cell rA 2 _ rfl
        have RA := Lib.hid rA
        have RP := Lib.hid rP
        clear rA rP
        have g0 : ∀ h, (ByteArray.mk #[a, b, c, d, e, f, g, i])[2]'h = c := fun _ => rfl
        have g1 : ∀ h, (ByteArray.mk #[83, 90, 89, 72, 88, 80, 78, 67])[2]'h = 89 := fun _ => rfl
        by_cases q1 : c = 89
        · have e1 : ((c.toNat : Int) == 89) = true := eq_yes c 89 (by decide) q1
          have Q1 := Lib.hid q1
          clear q1
          go_wp2
          go_region
          go_wp2
          go_roundw
          case rel => exact ⟨3, by omega, rfl, (heap_set RA.out _ _).trans (by simp [Q1.out]), by have := RP.out; simp at this; simp [Q1.out, this], (rB.setCell (p := ⟨w.heap.size, 2, none⟩) (Nat.le_refl _) _).drew⟩
          case measure => simp [intOf]
        · have e1 : ((c.toNat : Int) == 89) = false := eq_no c 89 (by decide) q1
          by_cases q2 : c = 45
          · have e2 : ((c.toNat : Int) != 45) = false := ne_yes c 45 (by decide) q2
            have Q1 := Lib.hid q1
            have Q2 := Lib.hid q2
            clear q1 q2
            go_wp2
            go_region
            go_wp2
            go_roundw
            case rel => exact ⟨3, by omega, rfl, (heap_set RA.out _ _).trans (by simp [Q2.out]), by have := RP.out; simp at this; simp [Q2.out, this], (rB.setCell (p := ⟨w.heap.size, 2, none⟩) (Nat.le_refl _) _).drew⟩
            case measure => simp [intOf]
          · have e2 : ((c.toNat : Int) != 45) = true := ne_no c 45 (by decide) q2
            have Q1 := Lib.hid q1
            have Q2 := Lib.hid q2
            clear q1 q2
            go_wp2
            go_region
            go_wp2
            go_ret2
            exact ⟨.inr ⟨fun h => (h.2.2.1).elim Q1.out Q2.out, rfl⟩, by go_grown⟩
      · have hA := heap_cell rA 3 _ rfl
        have RA := Lib.hid rA
        have RP := Lib.hid rP
        clear rA rP
        have g0 : ∀ h, (ByteArray.mk #[a, b, c, d, e, f, g, i])[3]'h = d := fun _ => rfl
        have g1 : ∀ h, (ByteArray.mk #[83, 90, 89, 72, 88, 80, 78, 67])[3]'h = 72 := fun _ => rfl
        by_cases q1 : d = 72
        · have e1 : ((d.toNat : Int) == 72) = true := eq_yes d 72 (by decide) q1
          have Q1 := Lib.hid q1
          clear q1
          go_wp2
          go_region
          go_wp2
          go_roundw
          case rel => exact ⟨4, by omega, rfl, (heap_set RA.out _ _).trans (by simp [Q1.out]), by have := RP.out; simp at this; simp [Q1.out, this], (rB.setCell (p := ⟨w.heap.size, 3, none⟩) (Nat.le_refl _) _).drew⟩
          case measure => simp [intOf]
        · have e1 : ((d.toNat : Int) == 72) = false := eq_no d 72 (by decide) q1
          by_cases q2 : d = 45
          · have e2 : ((d.toNat : Int) != 45) = false := ne_yes d 45 (by decide) q2
            have Q1 := Lib.hid q1
            have Q2 := Lib.hid q2
            clear q1 q2
            go_wp2
            go_region
            go_wp2
            go_roundw
            case rel => exact ⟨4, by omega, rfl, (heap_set RA.out _ _).trans (by simp [Q2.out]), by have := RP.out; simp at this; simp [Q2.out, this], (rB.setCell (p := ⟨w.heap.size, 3, none⟩) (Nat.le_refl _) _).drew⟩
            case measure => simp [intOf]
          · have e2 : ((d.toNat : Int) != 45) = true := ne_no d 45 (by decide) q2
            have Q1 := Lib.hid q1
            have Q2 := Lib.hid q2
            clear q1 q2
            go_wp2
            go_region
            go_wp2
            go_ret2
            exact ⟨.inr ⟨fun h => (h.2.2.2.1).elim Q1.out Q2.out, rfl⟩, by go_grown⟩
      · have hA := heap_cell rA 4 _ rfl
        have RA := Lib.hid rA
        have RP := Lib.hid rP
        clear rA rP
        have g0 : ∀ h, (ByteArray.mk #[a, b, c, d, e, f, g, i])[4]'h = e := fun _ => rfl
        have g1 : ∀ h, (ByteArray.mk #[83, 90, 89, 72, 88, 80, 78, 67])[4]'h = 88 := fun _ => rfl
        by_cases q1 : e = 88
        · have e1 : ((e.toNat : Int) == 88) = true := eq_yes e 88 (by decide) q1
          have Q1 := Lib.hid q1
          clear q1
          go_wp2
          go_region
          go_wp2
          go_roundw
          case rel => exact ⟨5, by omega, rfl, (heap_set RA.out _ _).trans (by simp [Q1.out]), by have := RP.out; simp at this; simp [Q1.out, this], (rB.setCell (p := ⟨w.heap.size, 4, none⟩) (Nat.le_refl _) _).drew⟩
          case measure => simp [intOf]
        · have e1 : ((e.toNat : Int) == 88) = false := eq_no e 88 (by decide) q1
          by_cases q2 : e = 45
          · have e2 : ((e.toNat : Int) != 45) = false := ne_yes e 45 (by decide) q2
            have Q1 := Lib.hid q1
            have Q2 := Lib.hid q2
            clear q1 q2
            go_wp2
            go_region
            go_wp2
            go_roundw
            case rel => exact ⟨5, by omega, rfl, (heap_set RA.out _ _).trans (by simp [Q2.out]), by have := RP.out; simp at this; simp [Q2.out, this], (rB.setCell (p := ⟨w.heap.size, 4, none⟩) (Nat.le_refl _) _).drew⟩
            case measure => simp [intOf]
          · have e2 : ((e.toNat : Int) != 45) = true := ne_no e 45 (by decide) q2
            have Q1 := Lib.hid q1
            have Q2 := Lib.hid q2
            clear q1 q2
            go_wp2
            go_region
            go_wp2
            go_ret2
            exact ⟨.inr ⟨fun h => (h.2.2.2.2.1).elim Q1.out Q2.out, rfl⟩, by go_grown⟩
      · have hA := heap_cell rA 5 _ rfl
        have RA := Lib.hid rA
        have RP := Lib.hid rP
        clear rA rP
        have g0 : ∀ h, (ByteArray.mk #[a, b, c, d, e, f, g, i])[5]'h = f := fun _ => rfl
        have g1 : ∀ h, (ByteArray.mk #[83, 90, 89, 72, 88, 80, 78, 67])[5]'h = 80 := fun _ => rfl
        by_cases q1 : f = 80
        · have e1 : ((f.toNat : Int) == 80) = true := eq_yes f 80 (by decide) q1
          have Q1 := Lib.hid q1
          clear q1
          go_wp2
          go_region
          go_wp2
          go_roundw
          case rel => exact ⟨6, by omega, rfl, (heap_set RA.out _ _).trans (by simp [Q1.out]), by have := RP.out; simp at this; simp [Q1.out, this], (rB.setCell (p := ⟨w.heap.size, 5, none⟩) (Nat.le_refl _) _).drew⟩
          case measure => simp [intOf]
        · have e1 : ((f.toNat : Int) == 80) = false := eq_no f 80 (by decide) q1
          by_cases q2 : f = 45
          · have e2 : ((f.toNat : Int) != 45) = false := ne_yes f 45 (by decide) q2
            have Q1 := Lib.hid q1
            have Q2 := Lib.hid q2
            clear q1 q2
            go_wp2
            go_region
            go_wp2
            go_roundw
            case rel => exact ⟨6, by omega, rfl, (heap_set RA.out _ _).trans (by simp [Q2.out]), by have := RP.out; simp at this; simp [Q2.out, this], (rB.setCell (p := ⟨w.heap.size, 5, none⟩) (Nat.le_refl _) _).drew⟩
            case measure => simp [intOf]
          · have e2 : ((f.toNat : Int) != 45) = true := ne_no f 45 (by decide) q2
            have Q1 := Lib.hid q1
            have Q2 := Lib.hid q2
            clear q1 q2
            go_wp2
            go_region
            go_wp2
            go_ret2
            exact ⟨.inr ⟨fun h => (h.2.2.2.2.2.1).elim Q1.out Q2.out, rfl⟩, by go_grown⟩
      · have hA := heap_cell rA 6 _ rfl
        have RA := Lib.hid rA
        have RP := Lib.hid rP
        clear rA rP
        have g0 : ∀ h, (ByteArray.mk #[a, b, c, d, e, f, g, i])[6]'h = g := fun _ => rfl
        have g1 : ∀ h, (ByteArray.mk #[83, 90, 89, 72, 88, 80, 78, 67])[6]'h = 78 := fun _ => rfl
        by_cases q1 : g = 78
        · have e1 : ((g.toNat : Int) == 78) = true := eq_yes g 78 (by decide) q1
          have Q1 := Lib.hid q1
          clear q1
          go_wp2
          go_region
          go_wp2
          go_roundw
          case rel => exact ⟨7, by omega, rfl, (heap_set RA.out _ _).trans (by simp [Q1.out]), by have := RP.out; simp at this; simp [Q1.out, this], (rB.setCell (p := ⟨w.heap.size, 6, none⟩) (Nat.le_refl _) _).drew⟩
          case measure => simp [intOf]
        · have e1 : ((g.toNat : Int) == 78) = false := eq_no g 78 (by decide) q1
          by_cases q2 : g = 45
          · have e2 : ((g.toNat : Int) != 45) = false := ne_yes g 45 (by decide) q2
            have Q1 := Lib.hid q1
            have Q2 := Lib.hid q2
            clear q1 q2
            go_wp2
            go_region
            go_wp2
            go_roundw
            case rel => exact ⟨7, by omega, rfl, (heap_set RA.out _ _).trans (by simp [Q2.out]), by have := RP.out; simp at this; simp [Q2.out, this], (rB.setCell (p := ⟨w.heap.size, 6, none⟩) (Nat.le_refl _) _).drew⟩
            case measure => simp [intOf]
          · have e2 : ((g.toNat : Int) != 45) = true := ne_no g 45 (by decide) q2
            have Q1 := Lib.hid q1
            have Q2 := Lib.hid q2
            clear q1 q2
            go_wp2
            go_region
            go_wp2
            go_ret2
            exact ⟨.inr ⟨fun h => (h.2.2.2.2.2.2.1).elim Q1.out Q2.out, rfl⟩, by go_grown⟩
      · have hA := heap_cell rA 7 _ rfl
        have RA := Lib.hid rA
        have RP := Lib.hid rP
        clear rA rP
        have g0 : ∀ h, (ByteArray.mk #[a, b, c, d, e, f, g, i])[7]'h = i := fun _ => rfl
        have g1 : ∀ h, (ByteArray.mk #[83, 90, 89, 72, 88, 80, 78, 67])[7]'h = 67 := fun _ => rfl
        by_cases q1 : i = 67
        · have e1 : ((i.toNat : Int) == 67) = true := eq_yes i 67 (by decide) q1
          have Q1 := Lib.hid q1
          clear q1
          go_wp2
          go_region
          go_wp2
          go_roundw
          case rel => exact ⟨8, by omega, rfl, (heap_set RA.out _ _).trans (by simp [Q1.out]), by have := RP.out; simp at this; simp [Q1.out, this], (rB.setCell (p := ⟨w.heap.size, 7, none⟩) (Nat.le_refl _) _).drew⟩
          case measure => simp [intOf]
        · have e1 : ((i.toNat : Int) == 67) = false := eq_no i 67 (by decide) q1
          by_cases q2 : i = 45
          · have e2 : ((i.toNat : Int) != 45) = false := ne_yes i 45 (by decide) q2
            have Q1 := Lib.hid q1
            have Q2 := Lib.hid q2
            clear q1 q2
            go_wp2
            go_region
            go_wp2
            go_roundw
            case rel => exact ⟨8, by omega, rfl, (heap_set RA.out _ _).trans (by simp [Q2.out]), by have := RP.out; simp at this; simp [Q2.out, this], (rB.setCell (p := ⟨w.heap.size, 7, none⟩) (Nat.le_refl _) _).drew⟩
            case measure => simp [intOf]
          · have e2 : ((i.toNat : Int) != 45) = true := ne_no i 45 (by decide) q2
            have Q1 := Lib.hid q1
            have Q2 := Lib.hid q2
            clear q1 q2
            go_wp2
            go_region
            go_wp2
            go_ret2
            exact ⟨.inr ⟨fun h => (h.2.2.2.2.2.2.2).elim Q1.out Q2.out, rfl⟩, by go_grown⟩
theorem read_no (s : ByteArray) (hs : ¬ s.size = 8) (_hm : s.size ≤ 50) (w : World) : Calls Try.prog 12 #[.string s] w fun x w' => x = .returned (.tuple #[.int .u8 0, .bool false]) ∧ w = w' := by
  have e : ((s.size : Int) != 8) = true := by rw [bne_iff_ne]; omega
  clear hs
  go_enter Try.func12, Try.ntmps12
  go_wp2
  go_ret2
  exact ⟨rfl, rfl⟩
def shk (f : Int) (k : Nat) : ByteArray := ⟨((shw f).take k).toArray⟩
def ShRel (f : Int) (s i : Value) : Prop := ∃ (k : Nat) (sv : ByteArray), k ≤ 8 ∧ i = .int .i64 k ∧ s = .string sv ∧ sv = shk f k ∧ sv.size ≤ k
theorem append_mk (a b : Array UInt8) : (ByteArray.mk a) ++ (ByteArray.mk b) = ByteArray.mk (a ++ b) := by
  apply ByteArray.ext; simp
set_option maxHeartbeats 4000000 in
theorem r02show_ (f : Int) (f0 : 0 ≤ f) (f1 : f ≤ 255) (w : World) : Calls Try.prog 19 #[.int .u8 f] w fun e w' => e = .returned (.string ⟨(shw f).toArray⟩) ∧ Below w.heap.size w w' := by
  go_enter Try.func19, Try.ntmps19
  go_wp2_with fail
  refine (r02of_ _ f0 f1 _).mono ?_
  rintro e wa ⟨rfl, ha⟩
  go_wp2_with fail
  go_loop [5, 6] (fun s i => ShRel f s i) (fun _ i => 8 - (intOf i).toNat)
  case atStart => exact ⟨0, ⟨#[]⟩, by omega, rfl, rfl, rfl, by decide⟩
  case round =>
    obtain ⟨k, sv, hk, rfl, rfl, es, hs⟩ := hrel
    have ES := Lib.hid es
    clear es
    by_cases h8 : k = 8
    · subst h8
      go_wp2
      go_ret
      exact ⟨by rw [ES.out]; rfl, ha.alloc ha.size _⟩
    · have h : k = 0 ∨ k = 1 ∨ k = 2 ∨ k = 3 ∨ k = 4 ∨ k = 5 ∨ k = 6 ∨ k = 7 := by omega
      clear hk h8
      rcases h with rfl | rfl | rfl | rfl | rfl | rfl | rfl | rfl
      · rcases (Bool.eq_false_or_eq_true (bit 7 f)).symm with hq | hq
        · have hc : Hid (shk f 0 ++ ⟨#[45]⟩ = shk f 1) := by show shk f 0 ++ ⟨#[45]⟩ = shk f 1; simp [shk, shw, chu, hq, append_mk]
          go_wp2
          go_round
          case rel => exact ⟨1, sv ++ ⟨#[45]⟩, by omega, rfl, rfl, by rw [ES.out]; exact hc.out, by rw [ByteArray.size_append]; exact Nat.add_le_add_right hs 1⟩
          case measure => simp [intOf]
        · have hc : Hid (shk f 0 ++ ⟨#[83]⟩ = shk f 1) := by show shk f 0 ++ ⟨#[83]⟩ = shk f 1; simp [shk, shw, chu, hq, append_mk, lett]
          go_wp2
          go_round
          case rel => exact ⟨1, sv ++ ⟨#[83]⟩, by omega, rfl, rfl, by rw [ES.out]; exact hc.out, by rw [ByteArray.size_append]; exact Nat.add_le_add_right hs 1⟩
          case measure => simp [intOf]
      · rcases (Bool.eq_false_or_eq_true (bit 6 f)).symm with hq | hq
        · have hc : Hid (shk f 1 ++ ⟨#[45]⟩ = shk f 2) := by show shk f 1 ++ ⟨#[45]⟩ = shk f 2; simp [shk, shw, chu, hq, append_mk]
          go_wp2
          go_round
          case rel => exact ⟨2, sv ++ ⟨#[45]⟩, by omega, rfl, rfl, by rw [ES.out]; exact hc.out, by rw [ByteArray.size_append]; exact Nat.add_le_add_right hs 1⟩
          case measure => simp [intOf]
        · have hc : Hid (shk f 1 ++ ⟨#[90]⟩ = shk f 2) := by show shk f 1 ++ ⟨#[90]⟩ = shk f 2; simp [shk, shw, chu, hq, append_mk, lett]
          go_wp2
          go_round
          case rel => exact ⟨2, sv ++ ⟨#[90]⟩, by omega, rfl, rfl, by rw [ES.out]; exact hc.out, by rw [ByteArray.size_append]; exact Nat.add_le_add_right hs 1⟩
          case measure => simp [intOf]
      · rcases (Bool.eq_false_or_eq_true (bit 5 f)).symm with hq | hq
        · have hc : Hid (shk f 2 ++ ⟨#[45]⟩ = shk f 3) := by show shk f 2 ++ ⟨#[45]⟩ = shk f 3; simp [shk, shw, chu, hq, append_mk]
          go_wp2
          go_round
          case rel => exact ⟨3, sv ++ ⟨#[45]⟩, by omega, rfl, rfl, by rw [ES.out]; exact hc.out, by rw [ByteArray.size_append]; exact Nat.add_le_add_right hs 1⟩
          case measure => simp [intOf]
        · have hc : Hid (shk f 2 ++ ⟨#[89]⟩ = shk f 3) := by show shk f 2 ++ ⟨#[89]⟩ = shk f 3; simp [shk, shw, chu, hq, append_mk, lett]
          go_wp2
          go_round
          case rel => exact ⟨3, sv ++ ⟨#[89]⟩, by omega, rfl, rfl, by rw [ES.out]; exact hc.out, by rw [ByteArray.size_append]; exact Nat.add_le_add_right hs 1⟩
          case measure => simp [intOf]
      · rcases (Bool.eq_false_or_eq_true (bit 4 f)).symm with hq | hq
        · have hc : Hid (shk f 3 ++ ⟨#[45]⟩ = shk f 4) := by show shk f 3 ++ ⟨#[45]⟩ = shk f 4; simp [shk, shw, chu, hq, append_mk]
          go_wp2
          go_round
          case rel => exact ⟨4, sv ++ ⟨#[45]⟩, by omega, rfl, rfl, by rw [ES.out]; exact hc.out, by rw [ByteArray.size_append]; exact Nat.add_le_add_right hs 1⟩
          case measure => simp [intOf]
        · have hc : Hid (shk f 3 ++ ⟨#[72]⟩ = shk f 4) := by show shk f 3 ++ ⟨#[72]⟩ = shk f 4; simp [shk, shw, chu, hq, append_mk, lett]
          go_wp2
          go_round
          case rel => exact ⟨4, sv ++ ⟨#[72]⟩, by omega, rfl, rfl, by rw [ES.out]; exact hc.out, by rw [ByteArray.size_append]; exact Nat.add_le_add_right hs 1⟩
          case measure => simp [intOf]
      · rcases (Bool.eq_false_or_eq_true (bit 3 f)).symm with hq | hq
        · have hc : Hid (shk f 4 ++ ⟨#[45]⟩ = shk f 5) := by show shk f 4 ++ ⟨#[45]⟩ = shk f 5; simp [shk, shw, chu, hq, append_mk]
          go_wp2
          go_round
          case rel => exact ⟨5, sv ++ ⟨#[45]⟩, by omega, rfl, rfl, by rw [ES.out]; exact hc.out, by rw [ByteArray.size_append]; exact Nat.add_le_add_right hs 1⟩
          case measure => simp [intOf]
        · have hc : Hid (shk f 4 ++ ⟨#[88]⟩ = shk f 5) := by show shk f 4 ++ ⟨#[88]⟩ = shk f 5; simp [shk, shw, chu, hq, append_mk, lett]
          go_wp2
          go_round
          case rel => exact ⟨5, sv ++ ⟨#[88]⟩, by omega, rfl, rfl, by rw [ES.out]; exact hc.out, by rw [ByteArray.size_append]; exact Nat.add_le_add_right hs 1⟩
          case measure => simp [intOf]
      · rcases (Bool.eq_false_or_eq_true (bit 2 f)).symm with hq | hq
        · have hc : Hid (shk f 5 ++ ⟨#[45]⟩ = shk f 6) := by show shk f 5 ++ ⟨#[45]⟩ = shk f 6; simp [shk, shw, chu, hq, append_mk]
          go_wp2
          go_round
          case rel => exact ⟨6, sv ++ ⟨#[45]⟩, by omega, rfl, rfl, by rw [ES.out]; exact hc.out, by rw [ByteArray.size_append]; exact Nat.add_le_add_right hs 1⟩
          case measure => simp [intOf]
        · have hc : Hid (shk f 5 ++ ⟨#[80]⟩ = shk f 6) := by show shk f 5 ++ ⟨#[80]⟩ = shk f 6; simp [shk, shw, chu, hq, append_mk, lett]
          go_wp2
          go_round
          case rel => exact ⟨6, sv ++ ⟨#[80]⟩, by omega, rfl, rfl, by rw [ES.out]; exact hc.out, by rw [ByteArray.size_append]; exact Nat.add_le_add_right hs 1⟩
          case measure => simp [intOf]
      · rcases (Bool.eq_false_or_eq_true (bit 1 f)).symm with hq | hq
        · have hc : Hid (shk f 6 ++ ⟨#[45]⟩ = shk f 7) := by show shk f 6 ++ ⟨#[45]⟩ = shk f 7; simp [shk, shw, chu, hq, append_mk]
          go_wp2
          go_round
          case rel => exact ⟨7, sv ++ ⟨#[45]⟩, by omega, rfl, rfl, by rw [ES.out]; exact hc.out, by rw [ByteArray.size_append]; exact Nat.add_le_add_right hs 1⟩
          case measure => simp [intOf]
        · have hc : Hid (shk f 6 ++ ⟨#[78]⟩ = shk f 7) := by show shk f 6 ++ ⟨#[78]⟩ = shk f 7; simp [shk, shw, chu, hq, append_mk, lett]
          go_wp2
          go_round
          case rel => exact ⟨7, sv ++ ⟨#[78]⟩, by omega, rfl, rfl, by rw [ES.out]; exact hc.out, by rw [ByteArray.size_append]; exact Nat.add_le_add_right hs 1⟩
          case measure => simp [intOf]
      · rcases (Bool.eq_false_or_eq_true (bit 0 f)).symm with hq | hq
        · have hc : Hid (shk f 7 ++ ⟨#[45]⟩ = shk f 8) := by show shk f 7 ++ ⟨#[45]⟩ = shk f 8; simp [shk, shw, chu, hq, append_mk]
          go_wp2
          go_round
          case rel => exact ⟨8, sv ++ ⟨#[45]⟩, by omega, rfl, rfl, by rw [ES.out]; exact hc.out, by rw [ByteArray.size_append]; exact Nat.add_le_add_right hs 1⟩
          case measure => simp [intOf]
        · have hc : Hid (shk f 7 ++ ⟨#[67]⟩ = shk f 8) := by show shk f 7 ++ ⟨#[67]⟩ = shk f 8; simp [shk, shw, chu, hq, append_mk, lett]
          go_wp2
          go_round
          case rel => exact ⟨8, sv ++ ⟨#[67]⟩, by omega, rfl, rfl, by rw [ES.out]; exact hc.out, by rw [ByteArray.size_append]; exact Nat.add_le_add_right hs 1⟩
          case measure => simp [intOf]
theorem shw_inj : ∀ f g : Fin 256, shw f.val = shw g.val → f = g := by decide +kernel
end Go.Proofs.Ytmkaglcobgjjaaa
