/-
  Contract of the reference 05's Daa. A helper of the claims that stand beside it. (Printed by wip/gendaa.py.)
-/
import Derived.Test.YtnaampdpkegacaaGreatDoorrb
namespace Go.Proofs.YtnaampdpkegacaaGreatDoor
open Go.RowKit

set_option maxHeartbeats 1000000 in
theorem daa_000 (a f : Int) (a0 : 0 ≤ a) (a1 : a ≤ 255) (f0 : 0 ≤ f) (f1 : f ≤ 255) (w : World) (hl : bit 4 f = true) (hh : bit 0 f = true) (h1 : bit 1 f = false) : Calls Tryz.prog 253 #[.int .u8 a, .int .u8 f] w fun e w' => e = .returned (.tuple #[.int .u8 (daRq a f), .int .u8 (daFq a f)]) ∧ Below w.heap.size w w' := by
  have h4 := hl
  have h0 := hh
  have er : (a + 102) % 256 = daRq a f := by unfold daRq daBq daLq daHq; simp [h4, h0, h1, bw]; try omega
  have eh : daHq a f = true := by unfold daHq; simp [*]
  have i4 : isb f 4 = bit 4 f := rfl
  have i0 : isb f 0 = bit 0 f := rfl
  have i1 : isb f 1 = bit 1 f := rfl
  have HR := Lib.hid er
  have HE := Lib.hid eh
  clear er eh
  skip
  go_enter Tryz.func253, Tryz.ntmps253
  go_wp2_with (first | (go_at_call 183; refine (r02ofx_ _ (by first | assumption | exact (evf_range _).1) (by first | assumption | exact (evf_range _).2) _).mono ?_; rintro x w1 ⟨rfl, rfl⟩) | (go_at_call 99; refine (r02even_ _ (by omega) (by omega) _).mono ?_; rintro x w2 ⟨rfl, hb2⟩; have k6 := (hb2.cell (p := ⟨w.heap.size + 1 + 1, 6, none⟩) (by simp)).trans (show _ = some (.bool (bit 1 f)) by simp [go_sem, h1]); have lw : w.heap.size + 1 + 1 < w2.heap.size := (by have := hb2.size; simp at this; omega); have lw1 : w.heap.size + 1 < w2.heap.size := (by omega); have lw0 : w.heap.size < w2.heap.size := (by omega)) | (go_at_call 181; refine (r01is_ _ _ (by omega) (by omega) _).mono ?_; rintro x w4 ⟨rfl, rfl⟩) | (go_at_call 185; refine (r02make_ _ _ _ _ _ _ _ _ _).mono ?_; rintro x w5 ⟨rfl, hb5⟩))
  go_ret2
  refine ⟨ret2 HR.out ?_, bt (bt (by go_grown) hb2) (bt (by go_grown) hb5)⟩
  unfold daFq
  rw [← HR.out, HE.out]
  have nx : ∀ x y : Bool, (!x == y) = (x ^^ y) := by decide
  simp [evf, h1, isb, nx]
set_option maxHeartbeats 1000000 in
theorem daa_001 (a f : Int) (a0 : 0 ≤ a) (a1 : a ≤ 255) (f0 : 0 ≤ f) (f1 : f ≤ 255) (w : World) (hl : bit 4 f = true) (hh : bit 0 f = true) (h1 : bit 1 f = true) : Calls Tryz.prog 253 #[.int .u8 a, .int .u8 f] w fun e w' => e = .returned (.tuple #[.int .u8 (daRq a f), .int .u8 (daFq a f)]) ∧ Below w.heap.size w w' := by
  have h4 := hl
  have h0 := hh
  have er : (a - 102) % 256 = daRq a f := by unfold daRq daBq daLq daHq; simp [h4, h0, h1, bw]; try omega
  have eh : daHq a f = true := by unfold daHq; simp [*]
  have i4 : isb f 4 = bit 4 f := rfl
  have i0 : isb f 0 = bit 0 f := rfl
  have i1 : isb f 1 = bit 1 f := rfl
  have HR := Lib.hid er
  have HE := Lib.hid eh
  clear er eh
  skip
  go_enter Tryz.func253, Tryz.ntmps253
  go_wp2_with (first | (go_at_call 183; refine (r02ofx_ _ (by first | assumption | exact (evf_range _).1) (by first | assumption | exact (evf_range _).2) _).mono ?_; rintro x w1 ⟨rfl, rfl⟩) | (go_at_call 99; refine (r02even_ _ (by omega) (by omega) _).mono ?_; rintro x w2 ⟨rfl, hb2⟩; have k6 := (hb2.cell (p := ⟨w.heap.size + 1 + 1, 6, none⟩) (by simp)).trans (show _ = some (.bool (bit 1 f)) by simp [go_sem, h1]); have lw : w.heap.size + 1 + 1 < w2.heap.size := (by have := hb2.size; simp at this; omega); have lw1 : w.heap.size + 1 < w2.heap.size := (by omega); have lw0 : w.heap.size < w2.heap.size := (by omega)) | (go_at_call 181; refine (r01is_ _ _ (by omega) (by omega) _).mono ?_; rintro x w4 ⟨rfl, rfl⟩) | (go_at_call 185; refine (r02make_ _ _ _ _ _ _ _ _ _).mono ?_; rintro x w5 ⟨rfl, hb5⟩))
  go_ret2
  refine ⟨ret2 HR.out ?_, bt (bt (by go_grown) hb2) (bt (by go_grown) hb5)⟩
  unfold daFq
  rw [← HR.out, HE.out]
  have nx : ∀ x y : Bool, (!x == y) = (x ^^ y) := by decide
  simp [evf, h1, isb, nx]
set_option maxHeartbeats 1000000 in
theorem daa_010 (a f : Int) (a0 : 0 ≤ a) (a1 : a ≤ 255) (f0 : 0 ≤ f) (f1 : f ≤ 255) (w : World) (hl : bit 4 f = true) (hh : bit 0 f = false ∧ 153 < a) (h1 : bit 1 f = false) : Calls Tryz.prog 253 #[.int .u8 a, .int .u8 f] w fun e w' => e = .returned (.tuple #[.int .u8 (daRq a f), .int .u8 (daFq a f)]) ∧ Below w.heap.size w w' := by
  have h4 := hl
  obtain ⟨h0, h5⟩ := hh
  have er : (a + 102) % 256 = daRq a f := by unfold daRq daBq daLq daHq; simp [h4, h0, h1, h5, bw]; try omega
  have eh : daHq a f = true := by unfold daHq; simp [*]
  have i4 : isb f 4 = bit 4 f := rfl
  have i0 : isb f 0 = bit 0 f := rfl
  have i1 : isb f 1 = bit 1 f := rfl
  have HR := Lib.hid er
  have HE := Lib.hid eh
  clear er eh
  skip
  go_enter Tryz.func253, Tryz.ntmps253
  go_wp2_with (first | (go_at_call 183; refine (r02ofx_ _ (by first | assumption | exact (evf_range _).1) (by first | assumption | exact (evf_range _).2) _).mono ?_; rintro x w1 ⟨rfl, rfl⟩) | (go_at_call 99; refine (r02even_ _ (by omega) (by omega) _).mono ?_; rintro x w2 ⟨rfl, hb2⟩; have k6 := (hb2.cell (p := ⟨w.heap.size + 1 + 1, 6, none⟩) (by simp)).trans (show _ = some (.bool (bit 1 f)) by simp [go_sem, h1]); have lw : w.heap.size + 1 + 1 < w2.heap.size := (by have := hb2.size; simp at this; omega); have lw1 : w.heap.size + 1 < w2.heap.size := (by omega); have lw0 : w.heap.size < w2.heap.size := (by omega)) | (go_at_call 181; refine (r01is_ _ _ (by omega) (by omega) _).mono ?_; rintro x w4 ⟨rfl, rfl⟩) | (go_at_call 185; refine (r02make_ _ _ _ _ _ _ _ _ _).mono ?_; rintro x w5 ⟨rfl, hb5⟩))
  go_ret2
  refine ⟨ret2 HR.out ?_, bt (bt (by go_grown) hb2) (bt (by go_grown) hb5)⟩
  unfold daFq
  rw [← HR.out, HE.out]
  have nx : ∀ x y : Bool, (!x == y) = (x ^^ y) := by decide
  simp [evf, h1, isb, nx]
set_option maxHeartbeats 1000000 in
theorem daa_011 (a f : Int) (a0 : 0 ≤ a) (a1 : a ≤ 255) (f0 : 0 ≤ f) (f1 : f ≤ 255) (w : World) (hl : bit 4 f = true) (hh : bit 0 f = false ∧ 153 < a) (h1 : bit 1 f = true) : Calls Tryz.prog 253 #[.int .u8 a, .int .u8 f] w fun e w' => e = .returned (.tuple #[.int .u8 (daRq a f), .int .u8 (daFq a f)]) ∧ Below w.heap.size w w' := by
  have h4 := hl
  obtain ⟨h0, h5⟩ := hh
  have er : (a - 102) % 256 = daRq a f := by unfold daRq daBq daLq daHq; simp [h4, h0, h1, h5, bw]; try omega
  have eh : daHq a f = true := by unfold daHq; simp [*]
  have i4 : isb f 4 = bit 4 f := rfl
  have i0 : isb f 0 = bit 0 f := rfl
  have i1 : isb f 1 = bit 1 f := rfl
  have HR := Lib.hid er
  have HE := Lib.hid eh
  clear er eh
  skip
  go_enter Tryz.func253, Tryz.ntmps253
  go_wp2_with (first | (go_at_call 183; refine (r02ofx_ _ (by first | assumption | exact (evf_range _).1) (by first | assumption | exact (evf_range _).2) _).mono ?_; rintro x w1 ⟨rfl, rfl⟩) | (go_at_call 99; refine (r02even_ _ (by omega) (by omega) _).mono ?_; rintro x w2 ⟨rfl, hb2⟩; have k6 := (hb2.cell (p := ⟨w.heap.size + 1 + 1, 6, none⟩) (by simp)).trans (show _ = some (.bool (bit 1 f)) by simp [go_sem, h1]); have lw : w.heap.size + 1 + 1 < w2.heap.size := (by have := hb2.size; simp at this; omega); have lw1 : w.heap.size + 1 < w2.heap.size := (by omega); have lw0 : w.heap.size < w2.heap.size := (by omega)) | (go_at_call 181; refine (r01is_ _ _ (by omega) (by omega) _).mono ?_; rintro x w4 ⟨rfl, rfl⟩) | (go_at_call 185; refine (r02make_ _ _ _ _ _ _ _ _ _).mono ?_; rintro x w5 ⟨rfl, hb5⟩))
  go_ret2
  refine ⟨ret2 HR.out ?_, bt (bt (by go_grown) hb2) (bt (by go_grown) hb5)⟩
  unfold daFq
  rw [← HR.out, HE.out]
  have nx : ∀ x y : Bool, (!x == y) = (x ^^ y) := by decide
  simp [evf, h1, isb, nx]
set_option maxHeartbeats 1000000 in
theorem daa_020 (a f : Int) (a0 : 0 ≤ a) (a1 : a ≤ 255) (f0 : 0 ≤ f) (f1 : f ≤ 255) (w : World) (hl : bit 4 f = true) (hh : bit 0 f = false ∧ ¬ 153 < a) (h1 : bit 1 f = false) : Calls Tryz.prog 253 #[.int .u8 a, .int .u8 f] w fun e w' => e = .returned (.tuple #[.int .u8 (daRq a f), .int .u8 (daFq a f)]) ∧ Below w.heap.size w w' := by
  have h4 := hl
  obtain ⟨h0, h5⟩ := hh
  have er : (a + 6) % 256 = daRq a f := by unfold daRq daBq daLq daHq; simp [h4, h0, h1, h5, bw]; try omega
  have eh : daHq a f = false := by unfold daHq; simp [*]
  have i4 : isb f 4 = bit 4 f := rfl
  have i0 : isb f 0 = bit 0 f := rfl
  have i1 : isb f 1 = bit 1 f := rfl
  have HR := Lib.hid er
  have HE := Lib.hid eh
  clear er eh
  have hd : decide (153 < a) = false := by simp; omega
  go_enter Tryz.func253, Tryz.ntmps253
  go_wp2_with (first | (go_at_call 183; refine (r02ofx_ _ (by first | assumption | exact (evf_range _).1) (by first | assumption | exact (evf_range _).2) _).mono ?_; rintro x w1 ⟨rfl, rfl⟩) | (go_at_call 99; refine (r02even_ _ (by omega) (by omega) _).mono ?_; rintro x w2 ⟨rfl, hb2⟩; have k6 := (hb2.cell (p := ⟨w.heap.size + 1 + 1, 6, none⟩) (by simp)).trans (show _ = some (.bool (bit 1 f)) by simp [go_sem, h1]); have lw : w.heap.size + 1 + 1 < w2.heap.size := (by have := hb2.size; simp at this; omega); have lw1 : w.heap.size + 1 < w2.heap.size := (by omega); have lw0 : w.heap.size < w2.heap.size := (by omega)) | (go_at_call 181; refine (r01is_ _ _ (by omega) (by omega) _).mono ?_; rintro x w4 ⟨rfl, rfl⟩) | (go_at_call 185; refine (r02make_ _ _ _ _ _ _ _ _ _).mono ?_; rintro x w5 ⟨rfl, hb5⟩))
  go_ret2
  refine ⟨ret2 HR.out ?_, bt (bt (by go_grown) hb2) (bt (by go_grown) hb5)⟩
  unfold daFq
  rw [← HR.out, HE.out]
  have nx : ∀ x y : Bool, (!x == y) = (x ^^ y) := by decide
  simp [evf, h1, isb, nx]
set_option maxHeartbeats 1000000 in
theorem daa_021 (a f : Int) (a0 : 0 ≤ a) (a1 : a ≤ 255) (f0 : 0 ≤ f) (f1 : f ≤ 255) (w : World) (hl : bit 4 f = true) (hh : bit 0 f = false ∧ ¬ 153 < a) (h1 : bit 1 f = true) : Calls Tryz.prog 253 #[.int .u8 a, .int .u8 f] w fun e w' => e = .returned (.tuple #[.int .u8 (daRq a f), .int .u8 (daFq a f)]) ∧ Below w.heap.size w w' := by
  have h4 := hl
  obtain ⟨h0, h5⟩ := hh
  have er : (a - 6) % 256 = daRq a f := by unfold daRq daBq daLq daHq; simp [h4, h0, h1, h5, bw]; try omega
  have eh : daHq a f = false := by unfold daHq; simp [*]
  have i4 : isb f 4 = bit 4 f := rfl
  have i0 : isb f 0 = bit 0 f := rfl
  have i1 : isb f 1 = bit 1 f := rfl
  have HR := Lib.hid er
  have HE := Lib.hid eh
  clear er eh
  have hd : decide (153 < a) = false := by simp; omega
  go_enter Tryz.func253, Tryz.ntmps253
  go_wp2_with (first | (go_at_call 183; refine (r02ofx_ _ (by first | assumption | exact (evf_range _).1) (by first | assumption | exact (evf_range _).2) _).mono ?_; rintro x w1 ⟨rfl, rfl⟩) | (go_at_call 99; refine (r02even_ _ (by omega) (by omega) _).mono ?_; rintro x w2 ⟨rfl, hb2⟩; have k6 := (hb2.cell (p := ⟨w.heap.size + 1 + 1, 6, none⟩) (by simp)).trans (show _ = some (.bool (bit 1 f)) by simp [go_sem, h1]); have lw : w.heap.size + 1 + 1 < w2.heap.size := (by have := hb2.size; simp at this; omega); have lw1 : w.heap.size + 1 < w2.heap.size := (by omega); have lw0 : w.heap.size < w2.heap.size := (by omega)) | (go_at_call 181; refine (r01is_ _ _ (by omega) (by omega) _).mono ?_; rintro x w4 ⟨rfl, rfl⟩) | (go_at_call 185; refine (r02make_ _ _ _ _ _ _ _ _ _).mono ?_; rintro x w5 ⟨rfl, hb5⟩))
  go_ret2
  refine ⟨ret2 HR.out ?_, bt (bt (by go_grown) hb2) (bt (by go_grown) hb5)⟩
  unfold daFq
  rw [← HR.out, HE.out]
  have nx : ∀ x y : Bool, (!x == y) = (x ^^ y) := by decide
  simp [evf, h1, isb, nx]
set_option maxHeartbeats 1000000 in
theorem daa_100 (a f : Int) (a0 : 0 ≤ a) (a1 : a ≤ 255) (f0 : 0 ≤ f) (f1 : f ≤ 255) (w : World) (hl : bit 4 f = false ∧ 9 < a % 16) (hh : bit 0 f = true) (h1 : bit 1 f = false) : Calls Tryz.prog 253 #[.int .u8 a, .int .u8 f] w fun e w' => e = .returned (.tuple #[.int .u8 (daRq a f), .int .u8 (daFq a f)]) ∧ Below w.heap.size w w' := by
  obtain ⟨h4, h9⟩ := hl
  have h0 := hh
  have er : (a + 102) % 256 = daRq a f := by unfold daRq daBq daLq daHq; simp [h4, h0, h1, h9, bw]; try omega
  have eh : daHq a f = true := by unfold daHq; simp [*]
  have i4 : isb f 4 = bit 4 f := rfl
  have i0 : isb f 0 = bit 0 f := rfl
  have i1 : isb f 1 = bit 1 f := rfl
  have HR := Lib.hid er
  have HE := Lib.hid eh
  clear er eh
  skip
  go_enter Tryz.func253, Tryz.ntmps253
  go_wp2_with (first | (go_at_call 183; refine (r02ofx_ _ (by first | assumption | exact (evf_range _).1) (by first | assumption | exact (evf_range _).2) _).mono ?_; rintro x w1 ⟨rfl, rfl⟩) | (go_at_call 99; refine (r02even_ _ (by omega) (by omega) _).mono ?_; rintro x w2 ⟨rfl, hb2⟩; have k6 := (hb2.cell (p := ⟨w.heap.size + 1 + 1, 6, none⟩) (by simp)).trans (show _ = some (.bool (bit 1 f)) by simp [go_sem, h1]); have lw : w.heap.size + 1 + 1 < w2.heap.size := (by have := hb2.size; simp at this; omega); have lw1 : w.heap.size + 1 < w2.heap.size := (by omega); have lw0 : w.heap.size < w2.heap.size := (by omega)) | (go_at_call 181; refine (r01is_ _ _ (by omega) (by omega) _).mono ?_; rintro x w4 ⟨rfl, rfl⟩) | (go_at_call 185; refine (r02make_ _ _ _ _ _ _ _ _ _).mono ?_; rintro x w5 ⟨rfl, hb5⟩))
  go_ret2
  refine ⟨ret2 HR.out ?_, bt (bt (by go_grown) hb2) (bt (by go_grown) hb5)⟩
  unfold daFq
  rw [← HR.out, HE.out]
  have nx : ∀ x y : Bool, (!x == y) = (x ^^ y) := by decide
  simp [evf, h1, isb, nx]
set_option maxHeartbeats 1000000 in
theorem daa_101 (a f : Int) (a0 : 0 ≤ a) (a1 : a ≤ 255) (f0 : 0 ≤ f) (f1 : f ≤ 255) (w : World) (hl : bit 4 f = false ∧ 9 < a % 16) (hh : bit 0 f = true) (h1 : bit 1 f = true) : Calls Tryz.prog 253 #[.int .u8 a, .int .u8 f] w fun e w' => e = .returned (.tuple #[.int .u8 (daRq a f), .int .u8 (daFq a f)]) ∧ Below w.heap.size w w' := by
  obtain ⟨h4, h9⟩ := hl
  have h0 := hh
  have er : (a - 102) % 256 = daRq a f := by unfold daRq daBq daLq daHq; simp [h4, h0, h1, h9, bw]; try omega
  have eh : daHq a f = true := by unfold daHq; simp [*]
  have i4 : isb f 4 = bit 4 f := rfl
  have i0 : isb f 0 = bit 0 f := rfl
  have i1 : isb f 1 = bit 1 f := rfl
  have HR := Lib.hid er
  have HE := Lib.hid eh
  clear er eh
  skip
  go_enter Tryz.func253, Tryz.ntmps253
  go_wp2_with (first | (go_at_call 183; refine (r02ofx_ _ (by first | assumption | exact (evf_range _).1) (by first | assumption | exact (evf_range _).2) _).mono ?_; rintro x w1 ⟨rfl, rfl⟩) | (go_at_call 99; refine (r02even_ _ (by omega) (by omega) _).mono ?_; rintro x w2 ⟨rfl, hb2⟩; have k6 := (hb2.cell (p := ⟨w.heap.size + 1 + 1, 6, none⟩) (by simp)).trans (show _ = some (.bool (bit 1 f)) by simp [go_sem, h1]); have lw : w.heap.size + 1 + 1 < w2.heap.size := (by have := hb2.size; simp at this; omega); have lw1 : w.heap.size + 1 < w2.heap.size := (by omega); have lw0 : w.heap.size < w2.heap.size := (by omega)) | (go_at_call 181; refine (r01is_ _ _ (by omega) (by omega) _).mono ?_; rintro x w4 ⟨rfl, rfl⟩) | (go_at_call 185; refine (r02make_ _ _ _ _ _ _ _ _ _).mono ?_; rintro x w5 ⟨rfl, hb5⟩))
  go_ret2
  refine ⟨ret2 HR.out ?_, bt (bt (by go_grown) hb2) (bt (by go_grown) hb5)⟩
  unfold daFq
  rw [← HR.out, HE.out]
  have nx : ∀ x y : Bool, (!x == y) = (x ^^ y) := by decide
  simp [evf, h1, isb, nx]
set_option maxHeartbeats 1000000 in
theorem daa_110 (a f : Int) (a0 : 0 ≤ a) (a1 : a ≤ 255) (f0 : 0 ≤ f) (f1 : f ≤ 255) (w : World) (hl : bit 4 f = false ∧ 9 < a % 16) (hh : bit 0 f = false ∧ 153 < a) (h1 : bit 1 f = false) : Calls Tryz.prog 253 #[.int .u8 a, .int .u8 f] w fun e w' => e = .returned (.tuple #[.int .u8 (daRq a f), .int .u8 (daFq a f)]) ∧ Below w.heap.size w w' := by
  obtain ⟨h4, h9⟩ := hl
  obtain ⟨h0, h5⟩ := hh
  have er : (a + 102) % 256 = daRq a f := by unfold daRq daBq daLq daHq; simp [h4, h0, h1, h9, h5, bw]; try omega
  have eh : daHq a f = true := by unfold daHq; simp [*]
  have i4 : isb f 4 = bit 4 f := rfl
  have i0 : isb f 0 = bit 0 f := rfl
  have i1 : isb f 1 = bit 1 f := rfl
  have HR := Lib.hid er
  have HE := Lib.hid eh
  clear er eh
  skip
  go_enter Tryz.func253, Tryz.ntmps253
  go_wp2_with (first | (go_at_call 183; refine (r02ofx_ _ (by first | assumption | exact (evf_range _).1) (by first | assumption | exact (evf_range _).2) _).mono ?_; rintro x w1 ⟨rfl, rfl⟩) | (go_at_call 99; refine (r02even_ _ (by omega) (by omega) _).mono ?_; rintro x w2 ⟨rfl, hb2⟩; have k6 := (hb2.cell (p := ⟨w.heap.size + 1 + 1, 6, none⟩) (by simp)).trans (show _ = some (.bool (bit 1 f)) by simp [go_sem, h1]); have lw : w.heap.size + 1 + 1 < w2.heap.size := (by have := hb2.size; simp at this; omega); have lw1 : w.heap.size + 1 < w2.heap.size := (by omega); have lw0 : w.heap.size < w2.heap.size := (by omega)) | (go_at_call 181; refine (r01is_ _ _ (by omega) (by omega) _).mono ?_; rintro x w4 ⟨rfl, rfl⟩) | (go_at_call 185; refine (r02make_ _ _ _ _ _ _ _ _ _).mono ?_; rintro x w5 ⟨rfl, hb5⟩))
  go_ret2
  refine ⟨ret2 HR.out ?_, bt (bt (by go_grown) hb2) (bt (by go_grown) hb5)⟩
  unfold daFq
  rw [← HR.out, HE.out]
  have nx : ∀ x y : Bool, (!x == y) = (x ^^ y) := by decide
  simp [evf, h1, isb, nx]
set_option maxHeartbeats 1000000 in
theorem daa_111 (a f : Int) (a0 : 0 ≤ a) (a1 : a ≤ 255) (f0 : 0 ≤ f) (f1 : f ≤ 255) (w : World) (hl : bit 4 f = false ∧ 9 < a % 16) (hh : bit 0 f = false ∧ 153 < a) (h1 : bit 1 f = true) : Calls Tryz.prog 253 #[.int .u8 a, .int .u8 f] w fun e w' => e = .returned (.tuple #[.int .u8 (daRq a f), .int .u8 (daFq a f)]) ∧ Below w.heap.size w w' := by
  obtain ⟨h4, h9⟩ := hl
  obtain ⟨h0, h5⟩ := hh
  have er : (a - 102) % 256 = daRq a f := by unfold daRq daBq daLq daHq; simp [h4, h0, h1, h9, h5, bw]; try omega
  have eh : daHq a f = true := by unfold daHq; simp [*]
  have i4 : isb f 4 = bit 4 f := rfl
  have i0 : isb f 0 = bit 0 f := rfl
  have i1 : isb f 1 = bit 1 f := rfl
  have HR := Lib.hid er
  have HE := Lib.hid eh
  clear er eh
  skip
  go_enter Tryz.func253, Tryz.ntmps253
  go_wp2_with (first | (go_at_call 183; refine (r02ofx_ _ (by first | assumption | exact (evf_range _).1) (by first | assumption | exact (evf_range _).2) _).mono ?_; rintro x w1 ⟨rfl, rfl⟩) | (go_at_call 99; refine (r02even_ _ (by omega) (by omega) _).mono ?_; rintro x w2 ⟨rfl, hb2⟩; have k6 := (hb2.cell (p := ⟨w.heap.size + 1 + 1, 6, none⟩) (by simp)).trans (show _ = some (.bool (bit 1 f)) by simp [go_sem, h1]); have lw : w.heap.size + 1 + 1 < w2.heap.size := (by have := hb2.size; simp at this; omega); have lw1 : w.heap.size + 1 < w2.heap.size := (by omega); have lw0 : w.heap.size < w2.heap.size := (by omega)) | (go_at_call 181; refine (r01is_ _ _ (by omega) (by omega) _).mono ?_; rintro x w4 ⟨rfl, rfl⟩) | (go_at_call 185; refine (r02make_ _ _ _ _ _ _ _ _ _).mono ?_; rintro x w5 ⟨rfl, hb5⟩))
  go_ret2
  refine ⟨ret2 HR.out ?_, bt (bt (by go_grown) hb2) (bt (by go_grown) hb5)⟩
  unfold daFq
  rw [← HR.out, HE.out]
  have nx : ∀ x y : Bool, (!x == y) = (x ^^ y) := by decide
  simp [evf, h1, isb, nx]
set_option maxHeartbeats 1000000 in
theorem daa_120 (a f : Int) (a0 : 0 ≤ a) (a1 : a ≤ 255) (f0 : 0 ≤ f) (f1 : f ≤ 255) (w : World) (hl : bit 4 f = false ∧ 9 < a % 16) (hh : bit 0 f = false ∧ ¬ 153 < a) (h1 : bit 1 f = false) : Calls Tryz.prog 253 #[.int .u8 a, .int .u8 f] w fun e w' => e = .returned (.tuple #[.int .u8 (daRq a f), .int .u8 (daFq a f)]) ∧ Below w.heap.size w w' := by
  obtain ⟨h4, h9⟩ := hl
  obtain ⟨h0, h5⟩ := hh
  have er : (a + 6) % 256 = daRq a f := by unfold daRq daBq daLq daHq; simp [h4, h0, h1, h9, h5, bw]; try omega
  have eh : daHq a f = false := by unfold daHq; simp [*]
  have i4 : isb f 4 = bit 4 f := rfl
  have i0 : isb f 0 = bit 0 f := rfl
  have i1 : isb f 1 = bit 1 f := rfl
  have HR := Lib.hid er
  have HE := Lib.hid eh
  clear er eh
  have hd : decide (153 < a) = false := by simp; omega
  go_enter Tryz.func253, Tryz.ntmps253
  go_wp2_with (first | (go_at_call 183; refine (r02ofx_ _ (by first | assumption | exact (evf_range _).1) (by first | assumption | exact (evf_range _).2) _).mono ?_; rintro x w1 ⟨rfl, rfl⟩) | (go_at_call 99; refine (r02even_ _ (by omega) (by omega) _).mono ?_; rintro x w2 ⟨rfl, hb2⟩; have k6 := (hb2.cell (p := ⟨w.heap.size + 1 + 1, 6, none⟩) (by simp)).trans (show _ = some (.bool (bit 1 f)) by simp [go_sem, h1]); have lw : w.heap.size + 1 + 1 < w2.heap.size := (by have := hb2.size; simp at this; omega); have lw1 : w.heap.size + 1 < w2.heap.size := (by omega); have lw0 : w.heap.size < w2.heap.size := (by omega)) | (go_at_call 181; refine (r01is_ _ _ (by omega) (by omega) _).mono ?_; rintro x w4 ⟨rfl, rfl⟩) | (go_at_call 185; refine (r02make_ _ _ _ _ _ _ _ _ _).mono ?_; rintro x w5 ⟨rfl, hb5⟩))
  go_ret2
  refine ⟨ret2 HR.out ?_, bt (bt (by go_grown) hb2) (bt (by go_grown) hb5)⟩
  unfold daFq
  rw [← HR.out, HE.out]
  have nx : ∀ x y : Bool, (!x == y) = (x ^^ y) := by decide
  simp [evf, h1, isb, nx]
set_option maxHeartbeats 1000000 in
theorem daa_121 (a f : Int) (a0 : 0 ≤ a) (a1 : a ≤ 255) (f0 : 0 ≤ f) (f1 : f ≤ 255) (w : World) (hl : bit 4 f = false ∧ 9 < a % 16) (hh : bit 0 f = false ∧ ¬ 153 < a) (h1 : bit 1 f = true) : Calls Tryz.prog 253 #[.int .u8 a, .int .u8 f] w fun e w' => e = .returned (.tuple #[.int .u8 (daRq a f), .int .u8 (daFq a f)]) ∧ Below w.heap.size w w' := by
  obtain ⟨h4, h9⟩ := hl
  obtain ⟨h0, h5⟩ := hh
  have er : (a - 6) % 256 = daRq a f := by unfold daRq daBq daLq daHq; simp [h4, h0, h1, h9, h5, bw]; try omega
  have eh : daHq a f = false := by unfold daHq; simp [*]
  have i4 : isb f 4 = bit 4 f := rfl
  have i0 : isb f 0 = bit 0 f := rfl
  have i1 : isb f 1 = bit 1 f := rfl
  have HR := Lib.hid er
  have HE := Lib.hid eh
  clear er eh
  have hd : decide (153 < a) = false := by simp; omega
  go_enter Tryz.func253, Tryz.ntmps253
  go_wp2_with (first | (go_at_call 183; refine (r02ofx_ _ (by first | assumption | exact (evf_range _).1) (by first | assumption | exact (evf_range _).2) _).mono ?_; rintro x w1 ⟨rfl, rfl⟩) | (go_at_call 99; refine (r02even_ _ (by omega) (by omega) _).mono ?_; rintro x w2 ⟨rfl, hb2⟩; have k6 := (hb2.cell (p := ⟨w.heap.size + 1 + 1, 6, none⟩) (by simp)).trans (show _ = some (.bool (bit 1 f)) by simp [go_sem, h1]); have lw : w.heap.size + 1 + 1 < w2.heap.size := (by have := hb2.size; simp at this; omega); have lw1 : w.heap.size + 1 < w2.heap.size := (by omega); have lw0 : w.heap.size < w2.heap.size := (by omega)) | (go_at_call 181; refine (r01is_ _ _ (by omega) (by omega) _).mono ?_; rintro x w4 ⟨rfl, rfl⟩) | (go_at_call 185; refine (r02make_ _ _ _ _ _ _ _ _ _).mono ?_; rintro x w5 ⟨rfl, hb5⟩))
  go_ret2
  refine ⟨ret2 HR.out ?_, bt (bt (by go_grown) hb2) (bt (by go_grown) hb5)⟩
  unfold daFq
  rw [← HR.out, HE.out]
  have nx : ∀ x y : Bool, (!x == y) = (x ^^ y) := by decide
  simp [evf, h1, isb, nx]
set_option maxHeartbeats 1000000 in
theorem daa_200 (a f : Int) (a0 : 0 ≤ a) (a1 : a ≤ 255) (f0 : 0 ≤ f) (f1 : f ≤ 255) (w : World) (hl : bit 4 f = false ∧ ¬ 9 < a % 16) (hh : bit 0 f = true) (h1 : bit 1 f = false) : Calls Tryz.prog 253 #[.int .u8 a, .int .u8 f] w fun e w' => e = .returned (.tuple #[.int .u8 (daRq a f), .int .u8 (daFq a f)]) ∧ Below w.heap.size w w' := by
  obtain ⟨h4, h9⟩ := hl
  have h0 := hh
  have er : (a + 96) % 256 = daRq a f := by unfold daRq daBq daLq daHq; simp [h4, h0, h1, h9, bw]; try omega
  have eh : daHq a f = true := by unfold daHq; simp [*]
  have i4 : isb f 4 = bit 4 f := rfl
  have i0 : isb f 0 = bit 0 f := rfl
  have i1 : isb f 1 = bit 1 f := rfl
  have HR := Lib.hid er
  have HE := Lib.hid eh
  clear er eh
  skip
  go_enter Tryz.func253, Tryz.ntmps253
  go_wp2_with (first | (go_at_call 183; refine (r02ofx_ _ (by first | assumption | exact (evf_range _).1) (by first | assumption | exact (evf_range _).2) _).mono ?_; rintro x w1 ⟨rfl, rfl⟩) | (go_at_call 99; refine (r02even_ _ (by omega) (by omega) _).mono ?_; rintro x w2 ⟨rfl, hb2⟩; have k6 := (hb2.cell (p := ⟨w.heap.size + 1 + 1, 6, none⟩) (by simp)).trans (show _ = some (.bool (bit 1 f)) by simp [go_sem, h1]); have lw : w.heap.size + 1 + 1 < w2.heap.size := (by have := hb2.size; simp at this; omega); have lw1 : w.heap.size + 1 < w2.heap.size := (by omega); have lw0 : w.heap.size < w2.heap.size := (by omega)) | (go_at_call 181; refine (r01is_ _ _ (by omega) (by omega) _).mono ?_; rintro x w4 ⟨rfl, rfl⟩) | (go_at_call 185; refine (r02make_ _ _ _ _ _ _ _ _ _).mono ?_; rintro x w5 ⟨rfl, hb5⟩))
  go_ret2
  refine ⟨ret2 HR.out ?_, bt (bt (by go_grown) hb2) (bt (by go_grown) hb5)⟩
  unfold daFq
  rw [← HR.out, HE.out]
  have nx : ∀ x y : Bool, (!x == y) = (x ^^ y) := by decide
  simp [evf, h1, isb, nx]
set_option maxHeartbeats 1000000 in
theorem daa_201 (a f : Int) (a0 : 0 ≤ a) (a1 : a ≤ 255) (f0 : 0 ≤ f) (f1 : f ≤ 255) (w : World) (hl : bit 4 f = false ∧ ¬ 9 < a % 16) (hh : bit 0 f = true) (h1 : bit 1 f = true) : Calls Tryz.prog 253 #[.int .u8 a, .int .u8 f] w fun e w' => e = .returned (.tuple #[.int .u8 (daRq a f), .int .u8 (daFq a f)]) ∧ Below w.heap.size w w' := by
  obtain ⟨h4, h9⟩ := hl
  have h0 := hh
  have er : (a - 96) % 256 = daRq a f := by unfold daRq daBq daLq daHq; simp [h4, h0, h1, h9, bw]; try omega
  have eh : daHq a f = true := by unfold daHq; simp [*]
  have i4 : isb f 4 = bit 4 f := rfl
  have i0 : isb f 0 = bit 0 f := rfl
  have i1 : isb f 1 = bit 1 f := rfl
  have HR := Lib.hid er
  have HE := Lib.hid eh
  clear er eh
  skip
  go_enter Tryz.func253, Tryz.ntmps253
  go_wp2_with (first | (go_at_call 183; refine (r02ofx_ _ (by first | assumption | exact (evf_range _).1) (by first | assumption | exact (evf_range _).2) _).mono ?_; rintro x w1 ⟨rfl, rfl⟩) | (go_at_call 99; refine (r02even_ _ (by omega) (by omega) _).mono ?_; rintro x w2 ⟨rfl, hb2⟩; have k6 := (hb2.cell (p := ⟨w.heap.size + 1 + 1, 6, none⟩) (by simp)).trans (show _ = some (.bool (bit 1 f)) by simp [go_sem, h1]); have lw : w.heap.size + 1 + 1 < w2.heap.size := (by have := hb2.size; simp at this; omega); have lw1 : w.heap.size + 1 < w2.heap.size := (by omega); have lw0 : w.heap.size < w2.heap.size := (by omega)) | (go_at_call 181; refine (r01is_ _ _ (by omega) (by omega) _).mono ?_; rintro x w4 ⟨rfl, rfl⟩) | (go_at_call 185; refine (r02make_ _ _ _ _ _ _ _ _ _).mono ?_; rintro x w5 ⟨rfl, hb5⟩))
  go_ret2
  refine ⟨ret2 HR.out ?_, bt (bt (by go_grown) hb2) (bt (by go_grown) hb5)⟩
  unfold daFq
  rw [← HR.out, HE.out]
  have nx : ∀ x y : Bool, (!x == y) = (x ^^ y) := by decide
  simp [evf, h1, isb, nx]
set_option maxHeartbeats 1000000 in
theorem daa_210 (a f : Int) (a0 : 0 ≤ a) (a1 : a ≤ 255) (f0 : 0 ≤ f) (f1 : f ≤ 255) (w : World) (hl : bit 4 f = false ∧ ¬ 9 < a % 16) (hh : bit 0 f = false ∧ 153 < a) (h1 : bit 1 f = false) : Calls Tryz.prog 253 #[.int .u8 a, .int .u8 f] w fun e w' => e = .returned (.tuple #[.int .u8 (daRq a f), .int .u8 (daFq a f)]) ∧ Below w.heap.size w w' := by
  obtain ⟨h4, h9⟩ := hl
  obtain ⟨h0, h5⟩ := hh
  have er : (a + 96) % 256 = daRq a f := by unfold daRq daBq daLq daHq; simp [h4, h0, h1, h9, h5, bw]; try omega
  have eh : daHq a f = true := by unfold daHq; simp [*]
  have i4 : isb f 4 = bit 4 f := rfl
  have i0 : isb f 0 = bit 0 f := rfl
  have i1 : isb f 1 = bit 1 f := rfl
  have HR := Lib.hid er
  have HE := Lib.hid eh
  clear er eh
  skip
  go_enter Tryz.func253, Tryz.ntmps253
  go_wp2_with (first | (go_at_call 183; refine (r02ofx_ _ (by first | assumption | exact (evf_range _).1) (by first | assumption | exact (evf_range _).2) _).mono ?_; rintro x w1 ⟨rfl, rfl⟩) | (go_at_call 99; refine (r02even_ _ (by omega) (by omega) _).mono ?_; rintro x w2 ⟨rfl, hb2⟩; have k6 := (hb2.cell (p := ⟨w.heap.size + 1 + 1, 6, none⟩) (by simp)).trans (show _ = some (.bool (bit 1 f)) by simp [go_sem, h1]); have lw : w.heap.size + 1 + 1 < w2.heap.size := (by have := hb2.size; simp at this; omega); have lw1 : w.heap.size + 1 < w2.heap.size := (by omega); have lw0 : w.heap.size < w2.heap.size := (by omega)) | (go_at_call 181; refine (r01is_ _ _ (by omega) (by omega) _).mono ?_; rintro x w4 ⟨rfl, rfl⟩) | (go_at_call 185; refine (r02make_ _ _ _ _ _ _ _ _ _).mono ?_; rintro x w5 ⟨rfl, hb5⟩))
  go_ret2
  refine ⟨ret2 HR.out ?_, bt (bt (by go_grown) hb2) (bt (by go_grown) hb5)⟩
  unfold daFq
  rw [← HR.out, HE.out]
  have nx : ∀ x y : Bool, (!x == y) = (x ^^ y) := by decide
  simp [evf, h1, isb, nx]
set_option maxHeartbeats 1000000 in
theorem daa_211 (a f : Int) (a0 : 0 ≤ a) (a1 : a ≤ 255) (f0 : 0 ≤ f) (f1 : f ≤ 255) (w : World) (hl : bit 4 f = false ∧ ¬ 9 < a % 16) (hh : bit 0 f = false ∧ 153 < a) (h1 : bit 1 f = true) : Calls Tryz.prog 253 #[.int .u8 a, .int .u8 f] w fun e w' => e = .returned (.tuple #[.int .u8 (daRq a f), .int .u8 (daFq a f)]) ∧ Below w.heap.size w w' := by
  obtain ⟨h4, h9⟩ := hl
  obtain ⟨h0, h5⟩ := hh
  have er : (a - 96) % 256 = daRq a f := by unfold daRq daBq daLq daHq; simp [h4, h0, h1, h9, h5, bw]; try omega
  have eh : daHq a f = true := by unfold daHq; simp [*]
  have i4 : isb f 4 = bit 4 f := rfl
  have i0 : isb f 0 = bit 0 f := rfl
  have i1 : isb f 1 = bit 1 f := rfl
  have HR := Lib.hid er
  have HE := Lib.hid eh
  clear er eh
  skip
  go_enter Tryz.func253, Tryz.ntmps253
  go_wp2_with (first | (go_at_call 183; refine (r02ofx_ _ (by first | assumption | exact (evf_range _).1) (by first | assumption | exact (evf_range _).2) _).mono ?_; rintro x w1 ⟨rfl, rfl⟩) | (go_at_call 99; refine (r02even_ _ (by omega) (by omega) _).mono ?_; rintro x w2 ⟨rfl, hb2⟩; have k6 := (hb2.cell (p := ⟨w.heap.size + 1 + 1, 6, none⟩) (by simp)).trans (show _ = some (.bool (bit 1 f)) by simp [go_sem, h1]); have lw : w.heap.size + 1 + 1 < w2.heap.size := (by have := hb2.size; simp at this; omega); have lw1 : w.heap.size + 1 < w2.heap.size := (by omega); have lw0 : w.heap.size < w2.heap.size := (by omega)) | (go_at_call 181; refine (r01is_ _ _ (by omega) (by omega) _).mono ?_; rintro x w4 ⟨rfl, rfl⟩) | (go_at_call 185; refine (r02make_ _ _ _ _ _ _ _ _ _).mono ?_; rintro x w5 ⟨rfl, hb5⟩))
  go_ret2
  refine ⟨ret2 HR.out ?_, bt (bt (by go_grown) hb2) (bt (by go_grown) hb5)⟩
  unfold daFq
  rw [← HR.out, HE.out]
  have nx : ∀ x y : Bool, (!x == y) = (x ^^ y) := by decide
  simp [evf, h1, isb, nx]
set_option maxHeartbeats 1000000 in
theorem daa_220 (a f : Int) (a0 : 0 ≤ a) (a1 : a ≤ 255) (f0 : 0 ≤ f) (f1 : f ≤ 255) (w : World) (hl : bit 4 f = false ∧ ¬ 9 < a % 16) (hh : bit 0 f = false ∧ ¬ 153 < a) (h1 : bit 1 f = false) : Calls Tryz.prog 253 #[.int .u8 a, .int .u8 f] w fun e w' => e = .returned (.tuple #[.int .u8 (daRq a f), .int .u8 (daFq a f)]) ∧ Below w.heap.size w w' := by
  obtain ⟨h4, h9⟩ := hl
  obtain ⟨h0, h5⟩ := hh
  have er : a % 256 = daRq a f := by unfold daRq daBq daLq daHq; simp [h4, h0, h1, h9, h5, bw]; try omega
  have eh : daHq a f = false := by unfold daHq; simp [*]
  have i4 : isb f 4 = bit 4 f := rfl
  have i0 : isb f 0 = bit 0 f := rfl
  have i1 : isb f 1 = bit 1 f := rfl
  have HR := Lib.hid er
  have HE := Lib.hid eh
  clear er eh
  have hd : decide (153 < a) = false := by simp; omega
  go_enter Tryz.func253, Tryz.ntmps253
  go_wp2_with (first | (go_at_call 183; refine (r02ofx_ _ (by first | assumption | exact (evf_range _).1) (by first | assumption | exact (evf_range _).2) _).mono ?_; rintro x w1 ⟨rfl, rfl⟩) | (go_at_call 99; refine (r02even_ _ (by omega) (by omega) _).mono ?_; rintro x w2 ⟨rfl, hb2⟩; have k6 := (hb2.cell (p := ⟨w.heap.size + 1 + 1, 6, none⟩) (by simp)).trans (show _ = some (.bool (bit 1 f)) by simp [go_sem, h1]); have lw : w.heap.size + 1 + 1 < w2.heap.size := (by have := hb2.size; simp at this; omega); have lw1 : w.heap.size + 1 < w2.heap.size := (by omega); have lw0 : w.heap.size < w2.heap.size := (by omega)) | (go_at_call 181; refine (r01is_ _ _ (by omega) (by omega) _).mono ?_; rintro x w4 ⟨rfl, rfl⟩) | (go_at_call 185; refine (r02make_ _ _ _ _ _ _ _ _ _).mono ?_; rintro x w5 ⟨rfl, hb5⟩))
  go_ret2
  refine ⟨ret2 HR.out ?_, bt (bt (by go_grown) hb2) (bt (by go_grown) hb5)⟩
  unfold daFq
  rw [← HR.out, HE.out]
  have nx : ∀ x y : Bool, (!x == y) = (x ^^ y) := by decide
  simp [evf, h1, isb, nx]
set_option maxHeartbeats 1000000 in
theorem daa_221 (a f : Int) (a0 : 0 ≤ a) (a1 : a ≤ 255) (f0 : 0 ≤ f) (f1 : f ≤ 255) (w : World) (hl : bit 4 f = false ∧ ¬ 9 < a % 16) (hh : bit 0 f = false ∧ ¬ 153 < a) (h1 : bit 1 f = true) : Calls Tryz.prog 253 #[.int .u8 a, .int .u8 f] w fun e w' => e = .returned (.tuple #[.int .u8 (daRq a f), .int .u8 (daFq a f)]) ∧ Below w.heap.size w w' := by
  obtain ⟨h4, h9⟩ := hl
  obtain ⟨h0, h5⟩ := hh
  have er : a % 256 = daRq a f := by unfold daRq daBq daLq daHq; simp [h4, h0, h1, h9, h5, bw]; try omega
  have eh : daHq a f = false := by unfold daHq; simp [*]
  have i4 : isb f 4 = bit 4 f := rfl
  have i0 : isb f 0 = bit 0 f := rfl
  have i1 : isb f 1 = bit 1 f := rfl
  have HR := Lib.hid er
  have HE := Lib.hid eh
  clear er eh
  have hd : decide (153 < a) = false := by simp; omega
  go_enter Tryz.func253, Tryz.ntmps253
  go_wp2_with (first | (go_at_call 183; refine (r02ofx_ _ (by first | assumption | exact (evf_range _).1) (by first | assumption | exact (evf_range _).2) _).mono ?_; rintro x w1 ⟨rfl, rfl⟩) | (go_at_call 99; refine (r02even_ _ (by omega) (by omega) _).mono ?_; rintro x w2 ⟨rfl, hb2⟩; have k6 := (hb2.cell (p := ⟨w.heap.size + 1 + 1, 6, none⟩) (by simp)).trans (show _ = some (.bool (bit 1 f)) by simp [go_sem, h1]); have lw : w.heap.size + 1 + 1 < w2.heap.size := (by have := hb2.size; simp at this; omega); have lw1 : w.heap.size + 1 < w2.heap.size := (by omega); have lw0 : w.heap.size < w2.heap.size := (by omega)) | (go_at_call 181; refine (r01is_ _ _ (by omega) (by omega) _).mono ?_; rintro x w4 ⟨rfl, rfl⟩) | (go_at_call 185; refine (r02make_ _ _ _ _ _ _ _ _ _).mono ?_; rintro x w5 ⟨rfl, hb5⟩))
  go_ret2
  refine ⟨ret2 HR.out ?_, bt (bt (by go_grown) hb2) (bt (by go_grown) hb5)⟩
  unfold daFq
  rw [← HR.out, HE.out]
  have nx : ∀ x y : Bool, (!x == y) = (x ^^ y) := by decide
  simp [evf, h1, isb, nx]
theorem r05daa_ (a f : Int) (a0 : 0 ≤ a) (a1 : a ≤ 255) (f0 : 0 ≤ f) (f1 : f ≤ 255) (w : World) : Calls Tryz.prog 253 #[.int .u8 a, .int .u8 f] w fun e w' => e = .returned (.tuple #[.int .u8 (daRq a f), .int .u8 (daFq a f)]) ∧ Below w.heap.size w w' := by
  rcases (show ((bit 4 f = true) ∨ (bit 4 f = false ∧ 9 < a % 16) ∨ (bit 4 f = false ∧ ¬ 9 < a % 16)) by cases bit 4 f <;> simp; omega) with hl | hl | hl
  · rcases (show ((bit 0 f = true) ∨ (bit 0 f = false ∧ 153 < a) ∨ (bit 0 f = false ∧ ¬ 153 < a)) by cases bit 0 f <;> simp; omega) with hh | hh | hh
    · cases h1 : bit 1 f
      · exact daa_000 a f a0 a1 f0 f1 w hl hh h1
      · exact daa_001 a f a0 a1 f0 f1 w hl hh h1
    · cases h1 : bit 1 f
      · exact daa_010 a f a0 a1 f0 f1 w hl hh h1
      · exact daa_011 a f a0 a1 f0 f1 w hl hh h1
    · cases h1 : bit 1 f
      · exact daa_020 a f a0 a1 f0 f1 w hl hh h1
      · exact daa_021 a f a0 a1 f0 f1 w hl hh h1
  · rcases (show ((bit 0 f = true) ∨ (bit 0 f = false ∧ 153 < a) ∨ (bit 0 f = false ∧ ¬ 153 < a)) by cases bit 0 f <;> simp; omega) with hh | hh | hh
    · cases h1 : bit 1 f
      · exact daa_100 a f a0 a1 f0 f1 w hl hh h1
      · exact daa_101 a f a0 a1 f0 f1 w hl hh h1
    · cases h1 : bit 1 f
      · exact daa_110 a f a0 a1 f0 f1 w hl hh h1
      · exact daa_111 a f a0 a1 f0 f1 w hl hh h1
    · cases h1 : bit 1 f
      · exact daa_120 a f a0 a1 f0 f1 w hl hh h1
      · exact daa_121 a f a0 a1 f0 f1 w hl hh h1
  · rcases (show ((bit 0 f = true) ∨ (bit 0 f = false ∧ 153 < a) ∨ (bit 0 f = false ∧ ¬ 153 < a)) by cases bit 0 f <;> simp; omega) with hh | hh | hh
    · cases h1 : bit 1 f
      · exact daa_200 a f a0 a1 f0 f1 w hl hh h1
      · exact daa_201 a f a0 a1 f0 f1 w hl hh h1
    · cases h1 : bit 1 f
      · exact daa_210 a f a0 a1 f0 f1 w hl hh h1
      · exact daa_211 a f a0 a1 f0 f1 w hl hh h1
    · cases h1 : bit 1 f
      · exact daa_220 a f a0 a1 f0 f1 w hl hh h1
      · exact daa_221 a f a0 a1 f0 f1 w hl hh h1
end Go.Proofs.YtnaampdpkegacaaGreatDoor
