/-
  Contracts of decode.Fields, decode.Near, and next's of. A helper of the claim that stands beside it.
-/
import Derived.Test.YtnaampdpkegacaaGreatDoorQ
namespace Go.Proofs.YtnaampdpkegacaaGreatDoor
open Go.RowKit

def fx (c : U8) : Int := c.v / 64
def fy (c : U8) : Int := c.v / 8 % 8
def fz (c : U8) : Int := c.v % 8
theorem fx_fold (c : U8) : wrap64 (c.v / 64) = fx c := by have := c.h0; have := c.h1; unfold wrap64 fx; omega
theorem fy_fold (c : U8) : wrap64 (bits .and .u8 (c.v / 8) 7) = fy c := by
  have h : ∀ n : Fin 256, wrap64 (bits .and .u8 ((n.val : Int) / 8) 7) = (n.val : Int) / 8 % 8 := by decide +kernel
  obtain ⟨v, h0, h1⟩ := c
  have := h ⟨v.toNat, by omega⟩
  simp only [Int.toNat_of_nonneg h0] at this
  exact this
theorem fz_fold (c : U8) : wrap64 (bits .and .u8 c.v 7) = fz c := by
  have h : ∀ n : Fin 256, wrap64 (bits .and .u8 (n.val : Int) 7) = (n.val : Int) % 8 := by decide +kernel
  obtain ⟨v, h0, h1⟩ := c
  have := h ⟨v.toNat, by omega⟩
  simp only [Int.toNat_of_nonneg h0] at this
  exact this
theorem fq_fold (c : U8) : bits .and .i64 (fy c) 1 = fy c % 2 := by
  have h : ∀ n : Fin 8, bits .and .i64 (n.val : Int) 1 = (n.val : Int) % 2 := by decide +kernel
  have h0 : 0 ≤ fy c := by unfold fy; omega
  have h1 : fy c < 8 := by unfold fy; omega
  have := h ⟨(fy c).toNat, by omega⟩
  simp only [Int.toNat_of_nonneg h0] at this
  exact this
attribute [go_sem] fx_fold fy_fold fz_fold fq_fold
theorem results_tmp5 {fn : Func} {t u v x y : Tmp} (h : fn.results = #[.tmp t, .tmp u, .tmp v, .tmp x, .tmp y]) (tmps : Array Value) (P : Program) (w : World) :
    (results fn tmps).run P w = .ok (.tuple #[tmps.getD t undef, tmps.getD u undef, tmps.getD v undef, tmps.getD x undef, tmps.getD y undef]) w := by
  simp [results, h]
theorem fields_ (c : U8) (w : World) : Calls Tryz.prog 62 #[.int .u8 c.v] w fun e w' => e = .returned (.tuple #[.int .i64 (fx c), .int .i64 (fy c), .int .i64 (fz c), .int .i64 (fy c / 2), .int .i64 (fy c % 2)]) ∧ w = w' := by
  go_enter Tryz.func62, Tryz.ntmps62
  go_wp2
  refine bodyPost_ret (results_tmp5 rfl _ _ _) rfl ⟨?_, rfl⟩
  show Ending.returned (.tuple #[.int .i64 (wrap64 (c.v / 64)), .int .i64 (wrap64 (bits .and .u8 (c.v / 8) 7)), .int .i64 (wrap64 (bits .and .u8 c.v 7)), .int .i64 (fy c / 2), .int .i64 (fy c % 2)]) = _
  rw [fx_fold, fy_fold, fz_fold]
/-- Has the instruction a displacement. -/
def nearS (plane : Int) (c : U8) : Bool :=
  if plane = 5 ∨ plane = 6 then true else if plane ≠ 3 ∧ plane ≠ 4 then false else
    (decide (fx c = 0) && decide (fy c = 6) && decide (4 ≤ fz c) && decide (fz c ≤ 6)) || (decide (fx c = 1) && (decide (fy c = 6) != decide (fz c = 6))) || (decide (fx c = 2) && decide (fz c = 6))
theorem six_ne {a b : Int} (hn : ¬(a == 6) = (b == 6)) : (decide (a = 6) != decide (b = 6)) = true := by
  have e : ∀ x : Int, decide (x = 6) = (x == 6) := fun x => by by_cases h : x = 6 <;> simp [h]
  rw [e, e]
  exact bne_iff_ne.2 hn
theorem dnear_ (plane : Int) (c : U8) (w : World) : Calls Tryz.prog 223 #[.int .i64 plane, .int .u8 c.v] w fun e w' => e = .returned (.bool (nearS plane c)) ∧ w = w' := by
  by_cases h1 : plane = 5 ∨ plane = 6
  · have e := Lib.hid (show nearS plane c = true by unfold nearS; rw [if_pos h1])
    rcases h1 with rfl | rfl
    all_goals
      go_enter Tryz.func223, Tryz.ntmps223
      go_wp2
      go_ret
      exact ⟨by rw [e.out]; rfl, rfl⟩
  · by_cases h2 : plane ≠ 3 ∧ plane ≠ 4
    · have e := Lib.hid (show nearS plane c = false by unfold nearS; rw [if_neg h1, if_pos h2])
      obtain ⟨h3, h4⟩ := h2
      have h5 : plane ≠ 5 := fun h => h1 (.inl h)
      have h6 : plane ≠ 6 := fun h => h1 (.inr h)
      clear h1
      have b5 : (plane == 5) = false := by simpa using h5
      have b6 : (plane == 6) = false := by simpa using h6
      have b3 : (plane != 3) = true := by simpa using h3
      have b4 : (plane != 4) = true := by simpa using h4
      go_enter Tryz.func223, Tryz.ntmps223
      go_wp2
      go_ret
      exact ⟨by rw [e.out]; rfl, rfl⟩
    · have h3 : plane = 3 ∨ plane = 4 := by omega
      have x0 : 0 ≤ fx c := by have := c.h0; unfold fx; omega
      have y0 : 0 ≤ fy c := by unfold fy; omega
      have z0 : 0 ≤ fz c := by unfold fz; omega
      rcases h3 with rfl | rfl
      all_goals
        clear h1 h2
        go_enter Tryz.func223, Tryz.ntmps223
        go_wp2_with (go_at_call 62; refine (fields_ _ _).mono ?_; rintro e w1 ⟨rfl, rfl⟩)
      all_goals
        go_ret
        refine ⟨?_, rfl⟩
        unfold nearS
        rw [if_neg (by decide), if_neg (by decide)]
        first
          | (simp [*]; done)
          | (simp [*]; omega)
          | (by_cases hy : fy c = 6 <;> by_cases hz : fz c = 6 <;> simp_all <;> done)
          | (rename_i hn
             have e1 : fx c = 1 := by assumption
             rw [six_ne hn, e1]
             rfl)
def ofS (plane : Int) (code : U8) : PM Unit := PM.mod fun s => { s with plane := plane, code := code, x := fx code, y := fy code, z := fz code, p := fy code / 2, q := fy code % 2 }
set_option maxRecDepth 4000 in
theorem ofW_ (B : Nat) (plane : Int) (code : U8) (s : PS) (w : World) (hI : Inv B w s.gv s.got) : Calls Tryz.prog 42 #[.pointer (some ⟨B, 0, none⟩), .int .i64 plane, .int .u8 code.v] (put w B s.cells) (Post B w eU (run (ofS plane code) s)) := by
  have hi := hI.inb
  have hb0 := Below.refl w.heap.size w
  go_enter Tryz.func42, Tryz.ntmps42
  go_wp2_with (go_at_call 62; refine (fields_ _ _).mono ?_; rintro e w1 ⟨rfl, rfl⟩)
  exact bodyPost_end (results_none rfl _ _ _) rfl (Post.done (v := ()) (run_mod _ _) rfl hb0 hI)
end Go.Proofs.YtnaampdpkegacaaGreatDoor
