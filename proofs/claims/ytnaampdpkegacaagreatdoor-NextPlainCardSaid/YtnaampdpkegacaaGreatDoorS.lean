/-
  Contracts of next's registers: through, pair. A helper of the claim that stands beside it.
-/
import Derived.Test.YtnaampdpkegacaaGreatDoorR
namespace Go.Proofs.YtnaampdpkegacaaGreatDoor
open Go.RowKit

def U16.mv (x : U16) (b : Int) : U16 := ⟨mov x.v b, by unfold mov; omega, by unfold mov; omega⟩
/-- The plane through which registers are asked. -/
def thr (s : CS) : Int := if nearS s.plane s.code then 0 else s.plane
set_option maxRecDepth 4000 in
theorem throughW_ (B : Nat) (s : PS) (w : World) (hI : Inv B w s.gv s.got) : Calls Tryz.prog 141 #[.pointer (some ⟨B, 0, none⟩)] (put w B s.cells) fun e w' => e = .returned (.int .i64 (thr s.toCS)) ∧ put w.drew B s.cells = w' := by
  have hi := hI.inb
  rcases (Bool.eq_false_or_eq_true (nearS s.plane s.code)).symm with hq | hq
  all_goals
    have hq' := Lib.hid hq
    clear hq
    unfold thr
    rw [hq'.out]
    go_enter Tryz.func141, Tryz.ntmps141
    go_wp2_with fail
    refine still_tail 8 (by kernel_rfl) (by kernel_rfl) ?_
    simp only [List.take_succ_cons, List.take_zero, List.drop_succ_cons, List.drop_zero, put_drew]
    replace hi := Inv.inb (Inv.drew hI)
    repeat still_step
    refine wpStill_nil ?_
    go_wp2_with (go_at_call 223; refine (dnear_ _ _ _).mono ?_; rw [hq'.out]; rintro e w1 ⟨rfl, rfl⟩)
    go_ret
    exact ⟨rfl, rfl⟩
set_option maxRecDepth 4000 in
theorem pairW_ (B : Nat) (p : Int) (s : PS) (w : World) (hI : Inv B w s.gv s.got) : Calls Tryz.prog 74 #[.pointer (some ⟨B, 0, none⟩), .int .i64 p] (put w B s.cells) fun e w' => e = .returned (.int .u16 (getP s.r s.plane p).v) ∧ Below (put w B s.cells).heap.size (put w B s.cells) w' := by
  have hi := hI.inb
  go_enter Tryz.func74, Tryz.ntmps74
  go_wp2_with fail
  refine still_tail 9 (by kernel_rfl) (by kernel_rfl) ?_
  simp only [List.take_succ_cons, List.take_zero, List.drop_succ_cons, List.drop_zero, put_drew]
  replace hi := Inv.inb (Inv.drew hI)
  repeat still_step
  refine wpStill_nil ?_
  go_wp2_with (go_at_call 147; refine (rpair_ _ _ _ _).mono ?_; rintro e w1 ⟨rfl, hb⟩)
  go_ret
  exact ⟨rfl, bt (by rw [← put_drew]; exact (Below.refl _ _).drew) hb⟩
def mvS (by' : U8) : PM Unit := PM.mod fun s => { s with at' := (getP s.r s.plane 2).mv (sgn by'.v), known := true, r := { s.r with wz := (getP s.r s.plane 2).mv (sgn by'.v) } }
theorem holdsW_ (B : Nat) (cond : Int) (s : PS) (w : World) (hI : Inv B w s.gv s.got) : Calls Tryz.prog 88 #[.pointer (some ⟨B, 0, none⟩), .int .i64 cond] (put w B s.cells) fun e w' => e = .returned (.bool (tst s.r.af.lo.v cond)) ∧ Below (put w B s.cells).heap.size (put w B s.cells) w' := by
  have hi := hI.inb
  go_enter Tryz.func88, Tryz.ntmps88
  go_wp2_with (first | (go_at_call 68; refine (fW_ B _ _ (by assumption)).mono ?_; rintro e w1 ⟨rfl, rfl⟩) | (go_at_call 168; refine (test_ _ _ _).mono ?_; rintro e w1 ⟨rfl, hb⟩))
  go_ret
  exact ⟨rfl, hb⟩
theorem carryW_ (B : Nat) (s : PS) (w : World) (hI : Inv B w s.gv s.got) : Calls Tryz.prog 163 #[.pointer (some ⟨B, 0, none⟩)] (put w B s.cells) fun e w' => e = .returned (.bool (bit 0 s.r.af.lo.v)) ∧ put w B s.cells = w' := by
  have hi := hI.inb
  go_enter Tryz.func163, Tryz.ntmps163
  go_wp2_with (go_at_call 68; refine (fW_ B _ _ (by assumption)).mono ?_; rintro e w1 ⟨rfl, rfl⟩)
  go_ret
  exact ⟨ret_bool (ne1 _), rfl⟩
theorem mv_fold (x : U16) (b : Int) : mov x.v b = (x.mv b).v := rfl
attribute [go_sem] mv_fold
theorem nearW_ (B : Nat) (b : U8) (s : PS) (w : World) (hI : Inv B w s.gv s.got) : Calls Tryz.prog 45 #[.pointer (some ⟨B, 0, none⟩), .int .u8 b.v] (put w B s.cells) (Post B w eU (run (mvS b) s)) := by
  have hi := hI.inb
  have hb0 := Below.refl w.heap.size w
  go_enter Tryz.func45, Tryz.ntmps45
  go_wp2_with (first | (go_at_call 74; refine (pairW_ B _ _ _ (by assumption)).mono ?_; rintro e w1 ⟨rfl, hb⟩; obtain ⟨w2, rfl, hb2⟩ := unput hi hb; replace hb0 := bt hb0 hb2; replace hI := hI.kept hb2; have hi := hI.inb) | (go_at_call 73; refine (near_ _ _ (U8.h0 _) (U8.h1 _) _).mono ?_; rintro e w1 ⟨rfl, rfl⟩))
  exact bodyPost_end (results_none rfl _ _ _) rfl (Post.done (v := ()) (run_mod _ _) rfl hb0 hI)
def setPairS (p : Int) (v : U16) : PM Unit := PM.mod fun s => { s with r := setP s.r s.plane p v }
set_option maxRecDepth 4000 in
theorem setPairW_ (B : Nat) (p : Int) (v : U16) (s : PS) (w : World) (hI : Inv B w s.gv s.got) : Calls Tryz.prog 77 #[.pointer (some ⟨B, 0, none⟩), .int .i64 p, .int .u16 v.v] (put w B s.cells) (Post B w eU (run (setPairS p v) s)) := by
  have hi := hI.inb
  go_enter Tryz.func77, Tryz.ntmps77
  go_wp2_with fail
  go_region_with (go_at_call 151; refine (rsetpair_ _ _ _ _ _).mono ?_; rintro e w1 ⟨rfl, hb⟩; obtain ⟨w2, rfl, hb2⟩ := unput (by first | exact hi | (simpa [go_sem] using hi)) hb; have hi2 : Inb B w2 := Inb.kept (by first | exact hi | (simpa [go_sem] using hi)) hb2)
  all_goals
    have hb3 : Below w.heap.size w w2 := bt (Below.refl _ _).drew hb2
    exact bodyPost_end (results_none rfl _ _ _) rfl (Post.done (v := ()) (run_mod _ _) rfl hb3 (hI.kept hb3))
end Go.Proofs.YtnaampdpkegacaaGreatDoor
