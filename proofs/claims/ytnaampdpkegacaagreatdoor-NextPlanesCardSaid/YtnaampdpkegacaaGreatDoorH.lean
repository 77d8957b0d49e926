/-
  Contracts of the package wide and of the reference 04. A helper of the claim that stands beside it.
-/
import Derived.Test.YtnaampdpkegacaaGreatDoorbase
namespace Go.Proofs.YtnaampdpkegacaaGreatDoor
open Go.RowKit

theorem tmod_of (z : Int) : ∃ k t : Int, (z.tmod 65536 = t ∧ z = 65536 * k + t) ∧ -65536 < t ∧ t < 65536 :=
  ⟨z.tdiv 65536, z.tmod 65536, ⟨rfl, by have := Int.tmod_add_mul_tdiv z 65536; omega⟩, by have := Int.lt_tmod_of_pos z (show (0 : Int) < 65536 by decide); omega, Int.tmod_lt_of_pos z (by decide)⟩
theorem undrew {w wn : World} (h : Below w.drew.heap.size w.drew wn) : Below w.heap.size w wn := ⟨h.os, h.tape, h.output, h.size, h.block⟩
theorem kept {A B : World} {p : Addr} {v : Value} (hb : Below A.heap.size A B) (h : A.cell? p = some v) : B.cell? p = some v := (hb.cell (World.block_lt_of_cell? _ _ h)).trans h
theorem move_ (x b : Int) (w : World) : Calls Tryz.prog 81 #[.int .u16 x, .int .i64 b] w fun e w' => e = .returned (.int .u16 (mov x b)) ∧ w = w' := by
  go_enter Tryz.func81, Tryz.ntmps81
  go_wp2
  go_ret
  exact ⟨ret_int (by unfold mov; simp only [IntKind.wrap_u16]; omega), rfl⟩
theorem near_ (x b : Int) (b0 : 0 ≤ b) (b1 : b ≤ 255) (w : World) : Calls Tryz.prog 73 #[.int .u16 x, .int .u8 b] w fun e w' => e = .returned (.int .u16 (mov x (sgn b))) ∧ w = w' := by
  go_enter Tryz.func73, Tryz.ntmps73
  go_wp2_with (first | (go_at_call 146; refine (signed_ _ b0 b1 _).mono ?_; rintro e w1 ⟨rfl, rfl⟩) | (go_at_call 81; refine (move_ _ _ _).mono ?_; rintro e w1 ⟨rfl, rfl⟩))
  go_ret
  exact ⟨rfl, rfl⟩
theorem r04move_ (x b : Int) (x0 : 0 ≤ x) (x1 : x ≤ 65535) (w : World) : Calls Tryz.prog 115 #[.int .u16 x, .int .i64 b] w fun e w' => e = .returned (.int .u16 (mov x b)) ∧ w = w' := by
  go_enter Tryz.func115, Tryz.ntmps115
  go_wp2
  go_ret
  refine ⟨ret_int ?_, rfl⟩
  obtain ⟨k, t, ht, l0, l1⟩ := tmod_of b
  rw [ht.1]
  have e1 : wrap64 (x + t) = x + t := by unfold wrap64; omega
  rw [e1]
  obtain ⟨k2, t2, ht2, m0, m1⟩ := tmod_of (x + t)
  rw [ht2.1]
  have e2 : wrap64 (t2 + 65536) = t2 + 65536 := by unfold wrap64; omega
  rw [e2]
  obtain ⟨k3, t3, ht3, n0, n1⟩ := tmod_of (t2 + 65536)
  rw [ht3.1, IntKind.wrap_u16]
  unfold mov
  have := ht.2; have := ht2.2; have := ht3.2
  omega
theorem both1_add (B C D E : Nat) (a b f : Int) (w : World) (hB : w.cell? ⟨B, 0, none⟩ = some (.func (.func 152) #[] #[])) (hC : w.cell? ⟨C, 0, none⟩ = some (.int .u16 a)) (hD : w.cell? ⟨D, 0, none⟩ = some (.int .u16 b)) (hE : w.cell? ⟨E, 0, none⟩ = some (.int .u8 f)) :
    Calls Tryz.prog 237 #[.pointer (some ⟨B, 0, none⟩), .pointer (some ⟨C, 0, none⟩), .pointer (some ⟨D, 0, none⟩), .pointer (some ⟨E, 0, none⟩)] w fun e w' => e = .returned (.tuple #[.int .u8 (addR (hiB a) (hiB b) (bit 0 f)), .int .u8 (addF (hiB a) (hiB b) (bit 0 f))]) ∧ Below w.heap.size w w' := by
  have ef : (bits .and .u8 f 1 != 0) = bit 0 f := ne1 f
  have q0 := hiB_0 a
  have q1 := hiB_1 a
  have q2 := hiB_0 b
  have q3 := hiB_1 b
  go_enter Tryz.func237, Tryz.ntmps237
  go_wp2_with fail
  go_region_held3 (fun w' => w'.cell? ⟨B, 0, none⟩ = some (.func (.func 152) #[] #[]) ∧ w'.cell? ⟨C, 0, none⟩ = some (.int .u16 a) ∧ w'.cell? ⟨D, 0, none⟩ = some (.int .u16 b) ∧ w'.cell? ⟨E, 0, none⟩ = some (.int .u8 f))
    (first | exact ⟨by simpa using hB, by simpa using hC, by simpa using hD, by simpa using hE⟩ | go_keep | (go_split_ands; refine ⟨kept (by assumption) (by assumption), kept (by assumption) (by assumption), kept (by assumption) (by assumption), kept (by assumption) (by assumption)⟩))
    ((first | (go_at_call 66; refine (hi_ _ _).mono ?_; rintro x wn ⟨rfl, rfl⟩) | (go_at_call 152; refine (add_ _ _ _ (by omega) (by omega) (by omega) (by omega) _).mono ?_; rintro x wn ⟨rfl, hb⟩)))
  go_wp2
  go_ret2
  exact ⟨rfl, undrew hb⟩
theorem both1_sub (B C D E : Nat) (a b f : Int) (w : World) (hB : w.cell? ⟨B, 0, none⟩ = some (.func (.func 157) #[] #[])) (hC : w.cell? ⟨C, 0, none⟩ = some (.int .u16 a)) (hD : w.cell? ⟨D, 0, none⟩ = some (.int .u16 b)) (hE : w.cell? ⟨E, 0, none⟩ = some (.int .u8 f)) :
    Calls Tryz.prog 237 #[.pointer (some ⟨B, 0, none⟩), .pointer (some ⟨C, 0, none⟩), .pointer (some ⟨D, 0, none⟩), .pointer (some ⟨E, 0, none⟩)] w fun e w' => e = .returned (.tuple #[.int .u8 (subR (hiB a) (hiB b) (bit 0 f)), .int .u8 (subF (hiB a) (hiB b) (bit 0 f))]) ∧ Below w.heap.size w w' := by
  have ef : (bits .and .u8 f 1 != 0) = bit 0 f := ne1 f
  have q0 := hiB_0 a
  have q1 := hiB_1 a
  have q2 := hiB_0 b
  have q3 := hiB_1 b
  go_enter Tryz.func237, Tryz.ntmps237
  go_wp2_with fail
  go_region_held3 (fun w' => w'.cell? ⟨B, 0, none⟩ = some (.func (.func 157) #[] #[]) ∧ w'.cell? ⟨C, 0, none⟩ = some (.int .u16 a) ∧ w'.cell? ⟨D, 0, none⟩ = some (.int .u16 b) ∧ w'.cell? ⟨E, 0, none⟩ = some (.int .u8 f))
    (first | exact ⟨by simpa using hB, by simpa using hC, by simpa using hD, by simpa using hE⟩ | go_keep | (go_split_ands; refine ⟨kept (by assumption) (by assumption), kept (by assumption) (by assumption), kept (by assumption) (by assumption), kept (by assumption) (by assumption)⟩))
    ((first | (go_at_call 66; refine (hi_ _ _).mono ?_; rintro x wn ⟨rfl, rfl⟩) | (go_at_call 157; refine (sub_ _ _ _ (by omega) (by omega) (by omega) (by omega) _).mono ?_; rintro x wn ⟨rfl, hb⟩)))
  go_wp2
  go_ret2
  exact ⟨rfl, undrew hb⟩
set_option maxHeartbeats 2000000 in
theorem both_add (a b : Int) (c : Bool) (a0 : 0 ≤ a) (a1 : a ≤ 65535) (b0 : 0 ≤ b) (b1 : b ≤ 65535) (w : World) :
    Calls Tryz.prog 153 #[.agg #[.func (.func 152) #[] #[]], .int .u16 a, .int .u16 b, .bool c] w fun e w' => e = .returned (.tuple #[.int .u16 (wAddR a b c), .int .u8 (wAddF a b c)]) ∧ Below w.heap.size w w' := by
  have hmf : ∀ (fn : Fn) (first cap : Array Value) (w : World), (Instr.makeFunc fn first cap).run Tryz.prog w = .ok (.func fn first cap) w := fun _ _ _ _ => rfl
  have q0 := loB_0 a
  have q1 := loB_1 a
  have q2 := loB_0 b
  have q3 := loB_1 b
  have ew := add_both a b c a0 a1 b0 b1
  have ef := Lib.hid (adc_flags a b c a0 a1 b0 b1)
  have r1 := addR_range (loB a) (loB b) c
  have r2 := addR_range (hiB a) (hiB b) (bit 0 (addF (loB a) (loB b) c))
  go_enter Tryz.func153, Tryz.ntmps153
  go_wp2_with fail
  obtain ⟨W0, hW0⟩ : ∃ W0, W0 = ((w.alloc (.cells #[.func (.func 152) #[] #[]] 121)).alloc (.cells #[.int .u16 a] 22)).alloc (.cells #[.int .u16 b] 22) := ⟨_, rfl⟩
  have cA : W0.cell? ⟨w.heap.size, 0, none⟩ = some (.func (.func 152) #[] #[]) := by rw [hW0]; exact cell_alloc_l _ (cell_alloc_l _ (cell_new_l _ _ _).1)
  have cB : W0.cell? ⟨w.heap.size + 1, 0, none⟩ = some (.int .u16 a) := by rw [hW0]; have := (cell_new_l (w.alloc (.cells #[.func (.func 152) #[] #[]] 121)) (.int .u16 a) 22).1; rw [World.size_alloc] at this; exact cell_alloc_l _ this
  have cC : W0.cell? ⟨w.heap.size + 1 + 1, 0, none⟩ = some (.int .u16 b) := by rw [hW0]; have := (cell_new_l ((w.alloc (.cells #[.func (.func 152) #[] #[]] 121)).alloc (.cells #[.int .u16 a] 22)) (.int .u16 b) 22).1; rw [World.size_alloc, World.size_alloc] at this; exact this
  have hS : W0.heap.size = w.heap.size + 3 := by rw [hW0]; simp
  have hB0 : Below w.heap.size w W0 := by rw [hW0]; exact (((Below.refl _ _).alloc (Nat.le_refl _) _).alloc (by simp) _).alloc (by simp; omega) _
  rw [← hW0]
  have l0 : w.heap.size < W0.heap.size := by omega
  have l1 : w.heap.size + 1 < W0.heap.size := by omega
  have l2 : w.heap.size + 1 + 1 < W0.heap.size := by omega
  have m0 : w.heap.size < W0.heap.size + 1 := by omega
  have m1 : w.heap.size + 1 < W0.heap.size + 1 := by omega
  have m2 : w.heap.size + 1 + 1 < W0.heap.size + 1 := by omega
  have n0 : ¬ W0.heap.size = w.heap.size := by omega
  have n1 : ¬ W0.heap.size = w.heap.size + 1 := by omega
  have n2 : ¬ W0.heap.size = w.heap.size + 1 + 1 := by omega
  have HSS : Hid (∀ w' : World, Below W0.heap.size W0 w' → w'.cell? ⟨w.heap.size, 0, none⟩ = some (.func (.func 152) #[] #[]) ∧ w'.cell? ⟨w.heap.size + 1, 0, none⟩ = some (.int .u16 a) ∧ w'.cell? ⟨w.heap.size + 1 + 1, 0, none⟩ = some (.int .u16 b) ∧ W0.heap.size ≤ w'.heap.size ∧ Below W0.heap.size W0 w') := fun w' hbb => ⟨kept hbb cA, kept hbb cB, kept hbb cC, hbb.size, hbb⟩
  clear hW0 hS
  go_region_held3 (fun w' => w'.cell? ⟨w.heap.size, 0, none⟩ = some (.func (.func 152) #[] #[]) ∧ w'.cell? ⟨w.heap.size + 1, 0, none⟩ = some (.int .u16 a) ∧ w'.cell? ⟨w.heap.size + 1 + 1, 0, none⟩ = some (.int .u16 b) ∧ W0.heap.size ≤ w'.heap.size ∧ Below W0.heap.size W0 w')
    ((refine HSS.out _ ?_; (try go_split_ands); first | assumption | (with_reducible exact (Below.refl _ _).drew) | (go_grown; done)))
    ((first | (go_at_call 136; refine (lo_ _ _).mono ?_; rintro x wn ⟨rfl, rfl⟩) | (go_at_call 152; refine (add_ _ _ _ (by omega) (by omega) (by omega) (by omega) _).mono ?_; rintro x wn ⟨rfl, hb⟩; (try replace hb := undrew hb); obtain ⟨hc, hf⟩ := bcell hb; have hbw : Below W0.heap.size W0 wn := (by refine bt ?_ hb; go_grown); have hbz := hbw.size)))
  all_goals
    rename_i hh
    obtain ⟨dA, dB, dC, _, hW⟩ := hh
    go_wp2_with fail
    refine (both1_add _ _ _ _ a b (addF (loB a) (loB b) c) _ dA dB dC (by first | exact (cell_new_l _ _ _).1 | (refine World.cell?_setCell_same' _ _ _ ?_; rw [hc _ _ (by simp)]; simp [go_sem]))).mono ?_
    rintro x wx ⟨rfl, hx⟩
    go_wp2_with (go_at_call 149; refine (word_ _ _ (by omega) (by omega) (by omega) (by omega) _).mono ?_; rintro e w1 ⟨rfl, rfl⟩)
  all_goals
    rename_i hz
    go_ret2
    exact ⟨ret2 rfl (by rw [← ef.out, hz]; rfl), hB0.trans ((hW.trans (hx.mono hW.size)).mono hB0.size)⟩
set_option maxHeartbeats 2000000 in
theorem both_sub (a b : Int) (c : Bool) (a0 : 0 ≤ a) (a1 : a ≤ 65535) (b0 : 0 ≤ b) (b1 : b ≤ 65535) (w : World) :
    Calls Tryz.prog 153 #[.agg #[.func (.func 157) #[] #[]], .int .u16 a, .int .u16 b, .bool c] w fun e w' => e = .returned (.tuple #[.int .u16 (wSubR a b c), .int .u8 (wSubF a b c)]) ∧ Below w.heap.size w w' := by
  have hmf : ∀ (fn : Fn) (first cap : Array Value) (w : World), (Instr.makeFunc fn first cap).run Tryz.prog w = .ok (.func fn first cap) w := fun _ _ _ _ => rfl
  have q0 := loB_0 a
  have q1 := loB_1 a
  have q2 := loB_0 b
  have q3 := loB_1 b
  have ew := sub_both a b c a0 a1 b0 b1
  have ef := Lib.hid (sbc_flags a b c a0 a1 b0 b1)
  have r1 := subR_range (loB a) (loB b) c
  have r2 := subR_range (hiB a) (hiB b) (bit 0 (subF (loB a) (loB b) c))
  go_enter Tryz.func153, Tryz.ntmps153
  go_wp2_with fail
  obtain ⟨W0, hW0⟩ : ∃ W0, W0 = ((w.alloc (.cells #[.func (.func 157) #[] #[]] 121)).alloc (.cells #[.int .u16 a] 22)).alloc (.cells #[.int .u16 b] 22) := ⟨_, rfl⟩
  have cA : W0.cell? ⟨w.heap.size, 0, none⟩ = some (.func (.func 157) #[] #[]) := by rw [hW0]; exact cell_alloc_l _ (cell_alloc_l _ (cell_new_l _ _ _).1)
  have cB : W0.cell? ⟨w.heap.size + 1, 0, none⟩ = some (.int .u16 a) := by rw [hW0]; have := (cell_new_l (w.alloc (.cells #[.func (.func 157) #[] #[]] 121)) (.int .u16 a) 22).1; rw [World.size_alloc] at this; exact cell_alloc_l _ this
  have cC : W0.cell? ⟨w.heap.size + 1 + 1, 0, none⟩ = some (.int .u16 b) := by rw [hW0]; have := (cell_new_l ((w.alloc (.cells #[.func (.func 157) #[] #[]] 121)).alloc (.cells #[.int .u16 a] 22)) (.int .u16 b) 22).1; rw [World.size_alloc, World.size_alloc] at this; exact this
  have hS : W0.heap.size = w.heap.size + 3 := by rw [hW0]; simp
  have hB0 : Below w.heap.size w W0 := by rw [hW0]; exact (((Below.refl _ _).alloc (Nat.le_refl _) _).alloc (by simp) _).alloc (by simp; omega) _
  rw [← hW0]
  have l0 : w.heap.size < W0.heap.size := by omega
  have l1 : w.heap.size + 1 < W0.heap.size := by omega
  have l2 : w.heap.size + 1 + 1 < W0.heap.size := by omega
  have m0 : w.heap.size < W0.heap.size + 1 := by omega
  have m1 : w.heap.size + 1 < W0.heap.size + 1 := by omega
  have m2 : w.heap.size + 1 + 1 < W0.heap.size + 1 := by omega
  have n0 : ¬ W0.heap.size = w.heap.size := by omega
  have n1 : ¬ W0.heap.size = w.heap.size + 1 := by omega
  have n2 : ¬ W0.heap.size = w.heap.size + 1 + 1 := by omega
  have HSS : Hid (∀ w' : World, Below W0.heap.size W0 w' → w'.cell? ⟨w.heap.size, 0, none⟩ = some (.func (.func 157) #[] #[]) ∧ w'.cell? ⟨w.heap.size + 1, 0, none⟩ = some (.int .u16 a) ∧ w'.cell? ⟨w.heap.size + 1 + 1, 0, none⟩ = some (.int .u16 b) ∧ W0.heap.size ≤ w'.heap.size ∧ Below W0.heap.size W0 w') := fun w' hbb => ⟨kept hbb cA, kept hbb cB, kept hbb cC, hbb.size, hbb⟩
  clear hW0 hS
  go_region_held3 (fun w' => w'.cell? ⟨w.heap.size, 0, none⟩ = some (.func (.func 157) #[] #[]) ∧ w'.cell? ⟨w.heap.size + 1, 0, none⟩ = some (.int .u16 a) ∧ w'.cell? ⟨w.heap.size + 1 + 1, 0, none⟩ = some (.int .u16 b) ∧ W0.heap.size ≤ w'.heap.size ∧ Below W0.heap.size W0 w')
    ((refine HSS.out _ ?_; (try go_split_ands); first | assumption | (with_reducible exact (Below.refl _ _).drew) | (go_grown; done)))
    ((first | (go_at_call 136; refine (lo_ _ _).mono ?_; rintro x wn ⟨rfl, rfl⟩) | (go_at_call 157; refine (sub_ _ _ _ (by omega) (by omega) (by omega) (by omega) _).mono ?_; rintro x wn ⟨rfl, hb⟩; (try replace hb := undrew hb); obtain ⟨hc, hf⟩ := bcell hb; have hbw : Below W0.heap.size W0 wn := (by refine bt ?_ hb; go_grown); have hbz := hbw.size)))
  all_goals
    rename_i hh
    obtain ⟨dA, dB, dC, _, hW⟩ := hh
    go_wp2_with fail
    refine (both1_sub _ _ _ _ a b (subF (loB a) (loB b) c) _ dA dB dC (by first | exact (cell_new_l _ _ _).1 | (refine World.cell?_setCell_same' _ _ _ ?_; rw [hc _ _ (by simp)]; simp [go_sem]))).mono ?_
    rintro x wx ⟨rfl, hx⟩
    go_wp2_with (go_at_call 149; refine (word_ _ _ (by omega) (by omega) (by omega) (by omega) _).mono ?_; rintro e w1 ⟨rfl, rfl⟩)
  all_goals
    rename_i hz
    go_ret2
    exact ⟨ret2 rfl (by rw [← ef.out, hz]; rfl), hB0.trans ((hW.trans (hx.mono hW.size)).mono hB0.size)⟩
theorem wadd_ (a b f : Int) (a0 : 0 ≤ a) (a1 : a ≤ 65535) (b0 : 0 ≤ b) (b1 : b ≤ 65535) (w : World) : Calls Tryz.prog 79 #[.int .u16 a, .int .u16 b, .int .u8 f] w fun e w' => e = .returned (.tuple #[.int .u16 (wAddR a b false), .int .u8 (hAddF a b f)]) ∧ Below w.heap.size w w' := by
  go_enter Tryz.func79, Tryz.ntmps79
  go_wp2_with (first | (go_at_call 153; refine (both_add _ _ _ a0 a1 b0 b1 _).mono ?_; rintro e w1 ⟨rfl, hb⟩) | (go_at_call 154; refine (keep_ _ _ _ _).mono ?_; rintro e w1 ⟨rfl, rfl⟩))
  go_ret2
  exact ⟨rfl, hb⟩
theorem wadc_ (a b f : Int) (a0 : 0 ≤ a) (a1 : a ≤ 65535) (b0 : 0 ≤ b) (b1 : b ≤ 65535) (w : World) : Calls Tryz.prog 124 #[.int .u16 a, .int .u16 b, .int .u8 f] w fun e w' => e = .returned (.tuple #[.int .u16 (wAddR a b (bit 0 f)), .int .u8 (wAddF a b (bit 0 f))]) ∧ Below w.heap.size w w' := by
  have ef : (bits .and .u8 f 1 != 0) = bit 0 f := ne1 f
  go_enter Tryz.func124, Tryz.ntmps124
  go_wp2_with (go_at_call 153; refine (both_add _ _ _ a0 a1 b0 b1 _).mono ?_; rintro e w1 ⟨rfl, hb⟩)
  go_ret2
  exact ⟨rfl, hb⟩
theorem wsbc_ (a b f : Int) (a0 : 0 ≤ a) (a1 : a ≤ 65535) (b0 : 0 ≤ b) (b1 : b ≤ 65535) (w : World) : Calls Tryz.prog 123 #[.int .u16 a, .int .u16 b, .int .u8 f] w fun e w' => e = .returned (.tuple #[.int .u16 (wSubR a b (bit 0 f)), .int .u8 (wSubF a b (bit 0 f))]) ∧ Below w.heap.size w w' := by
  have ef : (bits .and .u8 f 1 != 0) = bit 0 f := ne1 f
  go_enter Tryz.func123, Tryz.ntmps123
  go_wp2_with (go_at_call 153; refine (both_sub _ _ _ a0 a1 b0 b1 _).mono ?_; rintro e w1 ⟨rfl, hb⟩)
  go_ret2
  exact ⟨rfl, hb⟩
theorem r04near_ (x b : Int) (x0 : 0 ≤ x) (x1 : x ≤ 65535) (b0 : 0 ≤ b) (b1 : b ≤ 255) (w : World) : Calls Tryz.prog 56 #[.int .u16 x, .int .u8 b] w fun e w' => e = .returned (.int .u16 (mov x (sgn b))) ∧ w = w' := by
  go_enter Tryz.func56, Tryz.ntmps56
  go_wp2_with (first | (go_at_call 116; refine (r01signed_ _ b0 b1 _).mono ?_; rintro e w1 ⟨rfl, rfl⟩) | (go_at_call 115; refine (r04move_ _ _ x0 x1 _).mono ?_; rintro e w1 ⟨rfl, rfl⟩))
  go_ret
  exact ⟨rfl, rfl⟩
theorem r04signed_ (x : Int) (x0 : 0 ≤ x) (x1 : x ≤ 65535) (w : World) : Calls Tryz.prog 191 #[.int .u16 x] w fun e w' => e = .returned (.int .i64 (wsgn x)) ∧ w = w' := by
  by_cases h : x < 32768
  · have e := Lib.hid (show wsgn x = x by simp [wsgn, h])
    go_enter Tryz.func191, Tryz.ntmps191
    go_wp2
    go_ret
    exact ⟨ret_int e.out.symm, rfl⟩
  · have e := Lib.hid (show wsgn x = x - 65536 by simp [wsgn, h])
    go_enter Tryz.func191, Tryz.ntmps191
    go_wp2
    go_ret
    exact ⟨ret_int e.out.symm, rfl⟩
theorem r04carry_ (f : Int) (f0 : 0 ≤ f) (f1 : f ≤ 255) (w : World) : Calls Tryz.prog 190 #[.int .u8 f] w fun e w' => e = .returned (.int .i64 (bw (bit 0 f) 1)) ∧ w = w' := by
  have hi : isb f 0 = bit 0 f := rfl
  cases hq : bit 0 f
  all_goals
    rw [hq] at hi
    go_enter Tryz.func190, Tryz.ntmps190
    go_wp2_with (go_at_call 181; refine (r01is_ _ _ f0 f1 _).mono ?_; rintro e w1 ⟨rfl, rfl⟩)
    go_ret
    exact ⟨rfl, rfl⟩
end Go.Proofs.YtnaampdpkegacaaGreatDoor
