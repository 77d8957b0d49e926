/-
  Contracts of next's closure in blocks. A helper of the claim that stands beside it. (Printed by a program of wip/.)
-/
import Derived.Test.YtnaampdpkegacaaGreatDoor9
import Derived.BigQuiet
import Derived.Deep.QuietTactic

namespace Go.Proofs.YtnaampdpkegacaaGreatDoor
open Go.RowKit

/-- The closure of blocks: a word that lies in the work moves on. -/
theorem on_ (B C o : Nat) (n : Int) (x : U16) (s s' : PS) (w : World) (hI : Inv B w s.gv s.got) (hC : w.cell? ⟨C, 0, none⟩ = some (.int .i64 n)) (hne : ¬ C = B)
    (hg : s.cells[o]? = some (.int .u16 x.v)) (hs : s.cells.setIfInBounds o (.int .u16 (x.mv n).v) = s'.cells) :
    Calls Tryz.prog 130 #[.pointer (some ⟨B, o, none⟩), .pointer (some ⟨C, 0, none⟩)] (put w B s.cells) fun e w' => e = .returned (.tuple #[]) ∧ put w.drew B s'.cells = w' := by
  have hi := hI.inb
  have hid := Inv.inb (Inv.drew hI)
  have hcd : w.drew.cell? ⟨C, 0, none⟩ = some (.int .i64 n) := hC
  go_enter Tryz.func130, Tryz.ntmps130
  go_wp2
  go_region_with ((go_at_call 81; refine (oMv_ _ _ _).mono ?_; rintro e w1 ⟨rfl, rfl⟩))
  all_goals (try go_wp2)
  all_goals exact bodyPost_end (results_none rfl _ _ _) rfl ⟨rfl, rfl⟩
end Go.Proofs.YtnaampdpkegacaaGreatDoor

namespace Go.Proofs.YtnaampdpkegacaaGreatDoor
open Go.RowKit

def byS (y : Int) : Int := wrap64 (1 - wrap64 (2 * bits .and .i64 y 1))
theorem dec2_fold (x : U16) : IntKind.u16.wrap (x.v - 2) = (x.inc (-2)).v := by simp only [IntKind.wrap_u16]; rfl
theorem dec2_fold2 (x : U16) : (x.v - 2) % 65536 = (x.inc (-2)).v := rfl
theorem by_fold (y : Int) : wrap64 (1 - wrap64 (2 * bits .and .i64 y 1)) = byS y := rfl
attribute [go_sem] dec2_fold dec2_fold2
def blkRepS (y : Int) (z : Int) : PM Unit := do
  let t ← PM.get
  if 5 < y then do
    if agS z t.r.af.lo.v then do
      statesS 5
      PM.mod fun s => { s with r := { s.r with pc := s.r.pc.inc (-2) } }
      if z < 2 then PM.mod fun s => { s with r := { s.r with wz := s.r.pc.inc 1 } } else pure ()
    else pure ()
  else pure ()
theorem fr_blkRep (y : Int) (z : Int) : Fr (blkRepS y z) := by
  unfold blkRepS
  repeat (first | with_reducible exact fr_pure _ | with_reducible exact fr_get | with_reducible refine fr_ite ?_ ?_ | with_reducible refine fr_bind ?_ fun _ => ?_ | with_reducible exact (fr_add _ _) | with_reducible exact (fr_beside _) | with_reducible exact (fr_call _) | with_reducible exact (fr_flag _) | with_reducible exact (fr_getS _) | with_reducible exact (fr_hop _) | with_reducible exact (fr_in _) | with_reducible exact (fr_mv _) | with_reducible exact (fr_out _ _) | with_reducible exact (fr_push _) | with_reducible exact (fr_put _ _) | with_reducible exact (fr_read _) | with_reducible exact (fr_set _ _) | with_reducible exact (fr_setPair _ _) | with_reducible exact (fr_states _) | with_reducible exact (fr_write _ _) | with_reducible exact fr_back | with_reducible exact fr_cross | with_reducible exact fr_fetch | with_reducible exact fr_high | with_reducible exact fr_hops | with_reducible exact fr_less | with_reducible exact fr_load | with_reducible exact fr_low | with_reducible exact fr_middle | with_reducible exact fr_move | with_reducible exact fr_number | with_reducible exact fr_odd | with_reducible exact fr_pairAt | with_reducible exact fr_pop | with_reducible exact fr_pops | with_reducible exact fr_ports | with_reducible exact fr_stepDec | with_reducible exact fr_stepInc | with_reducible exact fr_stores | with_reducible exact fr_sums | with_reducible exact fr_tick | with_reducible exact fr_turn | with_reducible exact fr_where | with_reducible exact fr_word | with_reducible exact fr_words | ((with_reducible refine fr_mod ?_); exact fun s => Same.refl s))
def blk0S (n : Int) : PM Unit := do
  let s ← PM.get
  let b ← readS s.r.hl
  let t ← PM.get
  writeS t.r.de b
  statesS 2
  PM.mod fun s => { s with r := { s.r with hl := s.r.hl.mv n } }
  PM.mod fun s => { s with r := { s.r with de := s.r.de.mv n } }
  PM.mod fun s => { s with r := { s.r with bc := s.r.bc.inc (-1) } }
  let t ← PM.get
  flagS (oMo t.r.af.hi b t.r.bc.nz t.r.af.lo)
theorem fr_blk0 (n : Int) : Fr (blk0S n) := by
  unfold blk0S
  repeat (first | with_reducible exact fr_pure _ | with_reducible exact fr_get | with_reducible refine fr_ite ?_ ?_ | with_reducible refine fr_bind ?_ fun _ => ?_ | with_reducible exact (fr_add _ _) | with_reducible exact (fr_beside _) | with_reducible exact (fr_call _) | with_reducible exact (fr_flag _) | with_reducible exact (fr_getS _) | with_reducible exact (fr_hop _) | with_reducible exact (fr_in _) | with_reducible exact (fr_mv _) | with_reducible exact (fr_out _ _) | with_reducible exact (fr_push _) | with_reducible exact (fr_put _ _) | with_reducible exact (fr_read _) | with_reducible exact (fr_set _ _) | with_reducible exact (fr_setPair _ _) | with_reducible exact (fr_states _) | with_reducible exact (fr_write _ _) | with_reducible exact fr_back | with_reducible exact fr_cross | with_reducible exact fr_fetch | with_reducible exact fr_high | with_reducible exact fr_hops | with_reducible exact fr_less | with_reducible exact fr_load | with_reducible exact fr_low | with_reducible exact fr_middle | with_reducible exact fr_move | with_reducible exact fr_number | with_reducible exact fr_odd | with_reducible exact fr_pairAt | with_reducible exact fr_pop | with_reducible exact fr_pops | with_reducible exact fr_ports | with_reducible exact fr_stepDec | with_reducible exact fr_stepInc | with_reducible exact fr_stores | with_reducible exact fr_sums | with_reducible exact fr_tick | with_reducible exact fr_turn | with_reducible exact fr_where | with_reducible exact fr_word | with_reducible exact fr_words | ((with_reducible refine fr_mod ?_); exact fun s => Same.refl s))
def blk1S (n : Int) : PM Unit := do
  let s ← PM.get
  let b ← readS s.r.hl
  statesS 5
  PM.mod fun s => { s with r := { s.r with hl := s.r.hl.mv n } }
  PM.mod fun s => { s with r := { s.r with wz := s.r.wz.mv n } }
  PM.mod fun s => { s with r := { s.r with bc := s.r.bc.inc (-1) } }
  let t ← PM.get
  flagS (oFi t.r.af.hi b t.r.bc.nz t.r.af.lo)
theorem fr_blk1 (n : Int) : Fr (blk1S n) := by
  unfold blk1S
  repeat (first | with_reducible exact fr_pure _ | with_reducible exact fr_get | with_reducible refine fr_ite ?_ ?_ | with_reducible refine fr_bind ?_ fun _ => ?_ | with_reducible exact (fr_add _ _) | with_reducible exact (fr_beside _) | with_reducible exact (fr_blk0 _) | with_reducible exact (fr_call _) | with_reducible exact (fr_flag _) | with_reducible exact (fr_getS _) | with_reducible exact (fr_hop _) | with_reducible exact (fr_in _) | with_reducible exact (fr_mv _) | with_reducible exact (fr_out _ _) | with_reducible exact (fr_push _) | with_reducible exact (fr_put _ _) | with_reducible exact (fr_read _) | with_reducible exact (fr_set _ _) | with_reducible exact (fr_setPair _ _) | with_reducible exact (fr_states _) | with_reducible exact (fr_write _ _) | with_reducible exact fr_back | with_reducible exact fr_cross | with_reducible exact fr_fetch | with_reducible exact fr_high | with_reducible exact fr_hops | with_reducible exact fr_less | with_reducible exact fr_load | with_reducible exact fr_low | with_reducible exact fr_middle | with_reducible exact fr_move | with_reducible exact fr_number | with_reducible exact fr_odd | with_reducible exact fr_pairAt | with_reducible exact fr_pop | with_reducible exact fr_pops | with_reducible exact fr_ports | with_reducible exact fr_stepDec | with_reducible exact fr_stepInc | with_reducible exact fr_stores | with_reducible exact fr_sums | with_reducible exact fr_tick | with_reducible exact fr_turn | with_reducible exact fr_where | with_reducible exact fr_word | with_reducible exact fr_words | ((with_reducible refine fr_mod ?_); exact fun s => Same.refl s))
def blk2S (n : Int) : PM Unit := do
  statesS 1
  let t ← PM.get
  let b ← inS t.r.bc
  PM.mod fun s => { s with r := { s.r with wz := s.r.bc.mv n } }
  let left ← lessS
  let t ← PM.get
  writeS t.r.hl b
  PM.mod fun s => { s with r := { s.r with hl := s.r.hl.mv n } }
  let t ← PM.get
  flagS (oTake b t.r.bc.lo left n)
theorem fr_blk2 (n : Int) : Fr (blk2S n) := by
  unfold blk2S
  repeat (first | with_reducible exact fr_pure _ | with_reducible exact fr_get | with_reducible refine fr_ite ?_ ?_ | with_reducible refine fr_bind ?_ fun _ => ?_ | with_reducible exact (fr_add _ _) | with_reducible exact (fr_beside _) | with_reducible exact (fr_blk0 _) | with_reducible exact (fr_blk1 _) | with_reducible exact (fr_call _) | with_reducible exact (fr_flag _) | with_reducible exact (fr_getS _) | with_reducible exact (fr_hop _) | with_reducible exact (fr_in _) | with_reducible exact (fr_mv _) | with_reducible exact (fr_out _ _) | with_reducible exact (fr_push _) | with_reducible exact (fr_put _ _) | with_reducible exact (fr_read _) | with_reducible exact (fr_set _ _) | with_reducible exact (fr_setPair _ _) | with_reducible exact (fr_states _) | with_reducible exact (fr_write _ _) | with_reducible exact fr_back | with_reducible exact fr_cross | with_reducible exact fr_fetch | with_reducible exact fr_high | with_reducible exact fr_hops | with_reducible exact fr_less | with_reducible exact fr_load | with_reducible exact fr_low | with_reducible exact fr_middle | with_reducible exact fr_move | with_reducible exact fr_number | with_reducible exact fr_odd | with_reducible exact fr_pairAt | with_reducible exact fr_pop | with_reducible exact fr_pops | with_reducible exact fr_ports | with_reducible exact fr_stepDec | with_reducible exact fr_stepInc | with_reducible exact fr_stores | with_reducible exact fr_sums | with_reducible exact fr_tick | with_reducible exact fr_turn | with_reducible exact fr_where | with_reducible exact fr_word | with_reducible exact fr_words | ((with_reducible refine fr_mod ?_); exact fun s => Same.refl s))
def blk3S (n : Int) : PM Unit := do
  statesS 1
  let t ← PM.get
  let b ← readS t.r.hl
  let left ← lessS
  PM.mod fun s => { s with r := { s.r with wz := s.r.bc.mv n } }
  let t ← PM.get
  outS t.r.bc b
  PM.mod fun s => { s with r := { s.r with hl := s.r.hl.mv n } }
  let t ← PM.get
  flagS (oGive b t.r.hl.lo left)
theorem fr_blk3 (n : Int) : Fr (blk3S n) := by
  unfold blk3S
  repeat (first | with_reducible exact fr_pure _ | with_reducible exact fr_get | with_reducible refine fr_ite ?_ ?_ | with_reducible refine fr_bind ?_ fun _ => ?_ | with_reducible exact (fr_add _ _) | with_reducible exact (fr_beside _) | with_reducible exact (fr_blk0 _) | with_reducible exact (fr_blk1 _) | with_reducible exact (fr_blk2 _) | with_reducible exact (fr_call _) | with_reducible exact (fr_flag _) | with_reducible exact (fr_getS _) | with_reducible exact (fr_hop _) | with_reducible exact (fr_in _) | with_reducible exact (fr_mv _) | with_reducible exact (fr_out _ _) | with_reducible exact (fr_push _) | with_reducible exact (fr_put _ _) | with_reducible exact (fr_read _) | with_reducible exact (fr_set _ _) | with_reducible exact (fr_setPair _ _) | with_reducible exact (fr_states _) | with_reducible exact (fr_write _ _) | with_reducible exact fr_back | with_reducible exact fr_cross | with_reducible exact fr_fetch | with_reducible exact fr_high | with_reducible exact fr_hops | with_reducible exact fr_less | with_reducible exact fr_load | with_reducible exact fr_low | with_reducible exact fr_middle | with_reducible exact fr_move | with_reducible exact fr_number | with_reducible exact fr_odd | with_reducible exact fr_pairAt | with_reducible exact fr_pop | with_reducible exact fr_pops | with_reducible exact fr_ports | with_reducible exact fr_stepDec | with_reducible exact fr_stepInc | with_reducible exact fr_stores | with_reducible exact fr_sums | with_reducible exact fr_tick | with_reducible exact fr_turn | with_reducible exact fr_where | with_reducible exact fr_word | with_reducible exact fr_words | ((with_reducible refine fr_mod ?_); exact fun s => Same.refl s))
def blocksS : PM Unit := do
  let s ← PM.get
  if s.z = 0 then blk0S (byS s.y) else if s.z = 1 then blk1S (byS s.y) else if s.z = 2 then blk2S (byS s.y) else blk3S (byS s.y)
  blkRepS s.y s.z
theorem fr_blocks : Fr blocksS := by
  unfold blocksS
  repeat (first | with_reducible exact fr_pure _ | with_reducible exact fr_get | with_reducible refine fr_ite ?_ ?_ | with_reducible refine fr_bind ?_ fun _ => ?_ | with_reducible exact (fr_add _ _) | with_reducible exact (fr_beside _) | with_reducible exact (fr_blk0 _) | with_reducible exact (fr_blk1 _) | with_reducible exact (fr_blk2 _) | with_reducible exact (fr_blk3 _) | with_reducible exact (fr_blkRep _ _) | with_reducible exact (fr_call _) | with_reducible exact (fr_flag _) | with_reducible exact (fr_getS _) | with_reducible exact (fr_hop _) | with_reducible exact (fr_in _) | with_reducible exact (fr_mv _) | with_reducible exact (fr_out _ _) | with_reducible exact (fr_push _) | with_reducible exact (fr_put _ _) | with_reducible exact (fr_read _) | with_reducible exact (fr_set _ _) | with_reducible exact (fr_setPair _ _) | with_reducible exact (fr_states _) | with_reducible exact (fr_write _ _) | with_reducible exact fr_back | with_reducible exact fr_cross | with_reducible exact fr_fetch | with_reducible exact fr_high | with_reducible exact fr_hops | with_reducible exact fr_less | with_reducible exact fr_load | with_reducible exact fr_low | with_reducible exact fr_middle | with_reducible exact fr_move | with_reducible exact fr_number | with_reducible exact fr_odd | with_reducible exact fr_pairAt | with_reducible exact fr_pop | with_reducible exact fr_pops | with_reducible exact fr_ports | with_reducible exact fr_stepDec | with_reducible exact fr_stepInc | with_reducible exact fr_stores | with_reducible exact fr_sums | with_reducible exact fr_tick | with_reducible exact fr_turn | with_reducible exact fr_where | with_reducible exact fr_word | with_reducible exact fr_words | ((with_reducible refine fr_mod ?_); exact fun s => Same.refl s))
end Go.Proofs.YtnaampdpkegacaaGreatDoor
