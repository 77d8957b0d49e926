/-
  Contracts of the iterator bits.set, of bits.Even, and of flags.Even. A helper of the claim that stands beside it.
-/
import Derived.RangeFuncNested
import Derived.RangeFuncBound
import Derived.RangeFuncCalls
import Derived.RangeFuncLeaves
import Derived.Shelf.Abstract
import Derived.Shelf.RegionOpen
import Derived.OwnWalkIn
import Derived.TacticsInMore
import Derived.LoopNIn
import Derived.LoopIn
import Derived.Test.YtnaampdpkegacaaGreatDoorB
namespace Go.Proofs.YtnaampdpkegacaaGreatDoor
open Go.RowKit Go.Shelf
attribute [local go_sem] Oper.semAt_some

theorem cell_of_box_l {W : World} {B : Nat} {v : Value} {t : TypeId} (h : W.heap[B]? = some (.cells #[v] t (0, 0))) : W.cell? ⟨B, 0, none⟩ = some v ∧ W.frozen? ⟨B, 0, none⟩ = false := by
  constructor <;> simp [World.cell?, World.frozen?, h]
theorem cell_new_l (W : World) (v : Value) (t : TypeId) : (W.alloc (.cells #[v] t)).cell? ⟨W.heap.size, 0, none⟩ = some v ∧ (W.alloc (.cells #[v] t)).frozen? ⟨W.heap.size, 0, none⟩ = false :=
  cell_of_box_l (World.alloc_heap_new W _)
theorem cell_alloc_l {W : World} {a : Addr} {v : Value} (o : Obj) (h : W.cell? a = some v) : (W.alloc o).cell? a = some v := cell_kept h (World.grownBy_alloc W o none) (fun r e => by cases e)
theorem frozen_alloc_l {W : World} {a : Addr} {v : Value} (o : Obj) (h : W.cell? a = some v) (hf : W.frozen? a = false) : (W.alloc o).frozen? a = false := (frozen_kept h (World.grownBy_alloc W o none) (fun r e => by cases e)).trans hf

theorem set_ (b : Int) (w : World) : Calls Tryz.prog 260 #[.int .u8 b] w fun e w' => e = .returned (.func (.func 269) #[] #[.pointer (some ⟨w.heap.size, 0, none⟩)]) ∧ w.alloc (.cells #[.int .u8 b] 5) = w' := by
  have hmf : ∀ (fn : Fn) (first cap : Array Value) (w : World), (Instr.makeFunc fn first cap).run Tryz.prog w = .ok (.func fn first cap) w := fun _ _ _ _ => rfl
  go_enter Tryz.func260, Tryz.ntmps260
  go_wp2
  go_ret
  exact ⟨rfl, rfl⟩

def Kc (B : Nat) (W W' : World) : Prop := W'.cell? ⟨B, 0, none⟩ = W.cell? ⟨B, 0, none⟩

set_option maxRecDepth 100000 in
set_option maxHeartbeats 1000000 in
theorem set1_stops (n : Nat) (hn : 1 ≤ n) (b : Int) (B : Nat) (w : World) (hB : B < w.heap.size) (hc : w.cell? ⟨B, 0, none⟩ = some (.int .u8 b)) :
    SeqStopsK Fence.wide n Tryz.prog 269 #[.pointer (some ⟨B, 0, none⟩)] (fun x : Int => #[.int .i64 x]) (Kc B) (fun xs => xs = setl b 8) (fun pre => pre <+: setl b 8) 8 w := fun l J Jx W hW hJ hJx hY h0 => by
  have hcW : W.cell? ⟨B, 0, none⟩ = some (.int .u8 b) := (hW.cell (p := ⟨B, 0, none⟩) hB).trans hc
  refine callsIn_of_wp Tryz.func269 rfl trivial ?_ rfl
  simp only [Tryz.ntmps269, List.size_toArray, List.length_cons, List.length_nil, Nat.reduceAdd, Nat.reduceSub, Array.replicate_succ, Array.replicate_zero, List.push_toArray, List.append_toArray, List.nil_append, List.cons_append]
  clear hc hB hW
  gi_wp2
  gi_loopw [4] (fun i wr => ∃ k : Nat, k ≤ 8 ∧ i = .int .i64 k ∧ wr.cell? ⟨B, 0, none⟩ = some (.int .u8 b) ∧ J (setl b k) wr) (fun i _ => 8 - (intOf i).toNat)
  case atStart => exact ⟨0, by omega, rfl, hcW, h0⟩
  case round =>
    obtain ⟨k, hk, rfl, hcr, hJr⟩ := hrel
    by_cases hlt : k < 8
    · cases hi : isb b k
      · have hJ2 : J (setl b (k + 1)) wr := by rw [← setl_no b k hi]; exact hJr
        clear hJr hcW h0
        gi_wp2_with (refine ⟨trivial, ?_⟩; gi_at_call 143; refine (callsIn_wide.2 (is_ _ _ _)).mono ?_; rintro e w1 ⟨rfl, rfl⟩)
        refine ⟨fun _ _ => trivial, ?_⟩
        gi_wp2
        go_roundw
        case rel => exact ⟨k + 1, by omega, by go_num, hcr, hJ2⟩
        case measure => simp [intOf]; omega
      · have hl := setl_len b k
        obtain ⟨fn, tmps, assign, body, hy, hR⟩ := hY (setl b k) k wr hJr (by omega)
        rw [setl_yes b k hi] at hR
        clear hJr hcW h0
        gi_wp2_with (refine ⟨trivial, ?_⟩; gi_at_call 143; refine (callsIn_wide.2 (is_ _ _ _)).mono ?_; rintro e w1 ⟨rfl, rfl⟩)
        refine hR.mono ?_
        rintro e W3 (⟨rfl, hJ3, hk3⟩ | ⟨rfl, hJx3⟩)
        · have hc3 : W3.cell? ⟨B, 0, none⟩ = some (.int .u8 b) := Eq.trans hk3 hcr
          clear hcr hk3
          gi_wp2
          go_roundw
          case rel => exact ⟨k + 1, by omega, by go_num, hc3, hJ3⟩
          case measure => simp [intOf]; omega
        · gi_wp2
          refine bodyPost_ret (results_none rfl _ _ _) rfl ?_
          exact ⟨⟨_, rfl⟩, .inr ⟨setl b (k + 1), setl_pre b (k + 1) 8 (by omega), hJx3⟩⟩
    · obtain rfl : k = 8 := by omega
      gi_wp2
      go_end0
      exact ⟨⟨_, rfl⟩, .inl ⟨_, rfl, hJr⟩⟩

theorem kc_b {B n : Nat} (hB : B < n) (W : World) (l : Nat) (o o' : Obj) (hl : n ≤ l) (h : W.heap[l]? = some o) (_ : o.isCells = false) (_ : o.isWalk = false) : Kc B W (W.putObj l o') :=
  ((Below.refl n W).grown (grownBy_putObj' W l o') (by have := (Array.getElem?_eq_some_iff.1 h).1; omega) (fun k e => by cases e; omega)).cell (p := ⟨B, 0, none⟩) hB

set_option maxRecDepth 100000 in
set_option maxHeartbeats 1000000 in
theorem beven_ (b : Int) (w : World) : Calls Tryz.prog 217 #[.int .u8 b] w fun e w' => e = .returned (.bool (evb b)) ∧ Below w.heap.size w w' := by
  have hnot : ∀ (x : Bool) (w : World), (Op.unary .not (.bool x)).run Tryz.prog w = .ok (.bool (!x)) w := fun _ _ => rfl
  refine (callsIn_wide (n := 5)).1 ?_
  refine callsIn_of_wp_marks Tryz.func217 rfl trivial ?_ rfl
  simp only [Tryz.ntmps217, List.size_toArray, List.length_cons, List.length_nil, Nat.reduceAdd, Nat.reduceSub, Array.replicate_succ, Array.replicate_zero, List.push_toArray, List.append_toArray, List.nil_append, List.cons_append]
  gi_wp2_with (refine ⟨trivial, ?_⟩; gi_at_call 260; refine (callsIn_wide.2 (set_ _ _)).mono ?_; rintro e w1 ⟨rfl, rfl⟩)
  have hs := cell_new_l w (.bool true) 4
  have hb := cell_new_l (w.alloc (.cells #[.bool true] 4)) (.int .u8 b) 5
  rw [World.size_alloc] at hb
  have hB0 : Below w.heap.size w ((w.alloc (.cells #[.bool true] 4)).alloc (.cells #[.int .u8 b] 5)) := ((Below.refl _ w).alloc (Nat.le_refl _) _).alloc (by simp) _
  refine wpIn_rangeFunc_ownF (F := Fence.wide) rfl (by decide) (gf := 269) (lb := #[.pointer (some ⟨w.heap.size + 1, 0, none⟩)]) rfl trivial (enters_of Tryz.func269 (by kernel_rfl) rfl)
    (set1_stops (5 - 1) (by decide) b (w.heap.size + 1) _ (by simp) hb.1) (fun h k => Eq.trans k h) (kc_b (by simp)) (Below.refl _ _) (fun _ => rfl)
    (fun pre W => (W.cell? ⟨w.heap.size, 0, none⟩ = some (.bool (par pre)) ∧ W.frozen? ⟨w.heap.size, 0, none⟩ = false) ∧ Below w.heap.size w W)
    (fun _ _ _ => False)
    (OwnFrom.and (Own.from (fun s A B row hs hg hr => ⟨cell_kept hs.1 hg hr, (frozen_kept hs.1 hg hr).trans hs.2⟩) _) (ownFrom_below (Nat.le_refl _) (by simp; omega)))
    (fun _ _ _ _ _ hs _ _ => hs)
    ⟨⟨cell_alloc_l _ hs.1, frozen_alloc_l _ hs.1 hs.2⟩, hB0⟩
    (fun x => { tmps := #[.int .u8 b, undef, .bool false, .pointer (some ⟨w.heap.size, 0, none⟩), .int .u8 b, .func (.func 269) #[] #[.pointer (some ⟨w.heap.size + 1, 0, none⟩)], .int .i64 x, undef, undef, undef], defers := [] }) ?assign ?body ?done ?stop
  case assign =>
    intro l x W K hK
    gi_wp2
    simpa using hK
  case body =>
    rintro l pre x W ⟨⟨hc, hf⟩, hB⟩ _
    gi_wp2
    exact ⟨KeepsOthers.setCell _ _ _, World.cell?_setCell_other _ _ _ _ (by simp), ⟨by rw [par_snoc]; exact World.cell?_setCell_same' _ _ _ (by rw [hc]; rfl), by rw [World.frozen?_setCell]; exact hf⟩, hB.setCell (p := ⟨w.heap.size, 0, none⟩) (Nat.le_refl _) _⟩
  case done =>
    rintro D ys W hD rfl ⟨⟨hc, _⟩, hB⟩ hK
    gi_wp2
    refine ⟨by simp, .inl ⟨_, _, rfl, run_takeDeferred hK, ?_⟩⟩
    exact ⟨.bool (par (setl b 8)), results_tmp (t := 2) rfl _ _ _, by rw [par_setl], hB.trans (belowK_b (w := w) (Nat.le_refl _) W D _ _ (by simp at hD; omega) hK rfl rfl)⟩
  case stop =>
    rintro D c pre W _ _ h _
    exact h.elim
theorem feven_ (r : Int) (w : World) : Calls Tryz.prog 121 #[.int .u8 r] w fun e w' => e = .returned (.int .u8 (evf r)) ∧ Below w.heap.size w w' := by
  go_enter Tryz.func121, Tryz.ntmps121
  cases hv : evb r
  · go_wp2_with (first | (go_at_call 216; refine (result_ _ _).mono ?_; rintro e w1 ⟨rfl, rfl⟩) | (go_at_call 217; refine (beven_ _ _).mono ?_; rintro e w1 ⟨rfl, hb⟩))
    go_ret
    exact ⟨ret_int (evf_no r hv), hb⟩
  · go_wp2_with (first | (go_at_call 216; refine (result_ _ _).mono ?_; rintro e w1 ⟨rfl, rfl⟩) | (go_at_call 217; refine (beven_ _ _).mono ?_; rintro e w1 ⟨rfl, hb⟩))
    go_ret
    exact ⟨ret_int (evf_yes r hv), hb⟩
end Go.Proofs.YtnaampdpkegacaaGreatDoor
