/-
  Contracts of the package regs, of 8 bits. A helper of the claim that stands beside it.
-/
import Derived.Test.YtnaampdpkegacaaGreatDoorP
namespace Go.Proofs.YtnaampdpkegacaaGreatDoor
open Go.RowKit

set_option maxRecDepth 20000 in
theorem rset1_ (m n o : Nat) (h l : U8) (w : World) (x : Value) (hc : w.cell? ⟨m, 0, none⟩ = some (.pointer (some ⟨n, o, none⟩))) (hx : w.cell? ⟨n, o, none⟩ = some x) (hf : w.frozen? ⟨n, o, none⟩ = false) :
    Calls Tryz.prog 232 #[.int .u8 h.v, .int .u8 l.v, .pointer (some ⟨m, 0, none⟩)] w fun e w' => e = .returned (.tuple #[]) ∧ w.drew.setCell ⟨n, o, none⟩ (.int .u16 (h.word l).v) = w' := by
  go_enter Tryz.func232, Tryz.ntmps232
  go_wp2_with fail
  refine still_tail 5 (by kernel_rfl) (by kernel_rfl) ?_
  simp only [List.take_succ_cons, List.take_zero, List.drop_succ_cons, List.drop_zero]
  repeat (first | still_step | (refine wpStill_step (fun K hK => ?_); go_simp; refine ⟨_, (word_ _ _ (U8.h0 _) (U8.h1 _) (U8.h0 _) (U8.h1 _) _).mono (fun e w' h => ⟨h.1, h.2.symm⟩), hK _ ?_⟩; clear hK K))
  refine wpStill_nil ?_
  go_wp2
  exact bodyPost_end (results_none rfl _ _ _) rfl ⟨rfl, rfl⟩
/-- One of 8 bits, set. -/
def setR (r : R) (plane k : Int) (b : U8) : R := match halfS plane k with
  | (some o, true) => r.putAt o (b.word (r.at o).lo)
  | (some o, false) => r.putAt o ((r.at o).hi.word b)
  | (none, _) => r
set_option maxHeartbeats 2000000 in
set_option maxRecDepth 20000 in
theorem rset_ (r : R) (plane k : Int) (v : U8) (w : World) : Calls Tryz.prog 145 #[.agg r.cells, .int .i64 plane, .int .i64 k, .int .u8 v.v] w fun e w' => e = .returned (.agg (setR r plane k v).cells) ∧ Below w.heap.size w w' := by
  have hmf : ∀ (fn : Fn) (first cap : Array Value) (w : World), (Instr.makeFunc fn first cap).run Tryz.prog w = .ok (.func fn first cap) w := fun _ _ _ _ => rfl
  unfold setR
  rcases hq : halfS plane k with ⟨o | o, b⟩
  · have hq' := Lib.hid hq
    clear hq
    go_enter Tryz.func145, Tryz.ntmps145
    go_wp2_with (go_at_call 222; refine (half_ _ _ _ _).mono ?_; rw [hq'.out]; rintro e w1 ⟨rfl, hb⟩; obtain ⟨w2, rfl, hb2, i1, i2, hk, m0⟩ := three0 hb; clear hb; have m1 : ¬ w2.heap.size = w.heap.size + 1 := i1.ne; have m2 : ¬ w2.heap.size = w.heap.size + 1 + 1 := i2.ne; have c1 : ¬ w.heap.size = w.heap.size + 1 := (by omega); have c2 : ¬ w.heap.size = w.heap.size + 1 + 1 := (by omega))
    refine ret_regs rfl (w.heap.size + 1) rfl r ?_ rfl ⟨rfl, below_put (below_put (bt hb2 (by go_grown)) (by omega)) (by omega)⟩
    simp [go_sem, i1]
  · have ho := at_get (halfS_ok hq) r
    have hs := at_set (halfS_ok hq) r
    have hq' := Lib.hid hq
    clear hq
    cases b
    all_goals
      go_enter Tryz.func145, Tryz.ntmps145
      go_wp2_with (first | (go_at_call 222; refine (half_ _ _ _ _).mono ?_; rw [hq'.out]; rintro e w1 ⟨rfl, hb⟩; obtain ⟨w2, rfl, hb2, i1, i2, hk, m0⟩ := three0 hb; clear hb; have m1 : ¬ w2.heap.size = w.heap.size + 1 := i1.ne; have m2 : ¬ w2.heap.size = w.heap.size + 1 + 1 := i2.ne; have c1 : ¬ w.heap.size = w.heap.size + 1 := (by omega); have c2 : ¬ w.heap.size = w.heap.size + 1 + 1 := (by omega)) | (go_at_call 232; refine (rset1_ _ (w.heap.size + 1 + 1) o _ _ _ (.int .u16 (r.at o).v) (by simp [go_sem, *]) (by simp [go_sem, *]) (by simp [go_sem, *])).mono ?_; rintro e w3 ⟨rfl, rfl⟩) | (go_at_call 66; refine (hi_ _ _).mono ?_; rintro e w2 ⟨rfl, rfl⟩) | (go_at_call 136; refine (lo_ _ _).mono ?_; rintro e w3 ⟨rfl, rfl⟩))
    · refine ret_regs rfl (w.heap.size + 1) rfl (r.putAt o ((r.at o).hi.word v)) ?_ rfl ⟨rfl, below_put (below_put (bt hb2 (by go_grown)) (by omega)) (by omega)⟩
      simp [go_sem, i1]
    · refine ret_regs rfl (w.heap.size + 1) rfl (r.putAt o (v.word (r.at o).lo)) ?_ rfl ⟨rfl, below_put (below_put (bt hb2 (by go_grown)) (by omega)) (by omega)⟩
      simp [go_sem, i1]
end Go.Proofs.YtnaampdpkegacaaGreatDoor
