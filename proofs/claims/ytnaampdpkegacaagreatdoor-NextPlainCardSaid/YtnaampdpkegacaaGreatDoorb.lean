/-
  Contracts of next's closure in blocks. A helper of the claim that stands beside it. (Printed by a program of wip/.)
-/
import Derived.Test.YtnaampdpkegacaaGreatDoor9
namespace Go.Proofs.YtnaampdpkegacaaGreatDoor
open Go.RowKit

/-- The closure of blocks: a word that lies in the work moves on. -/
theorem on_ (B C o : Nat) (n : Int) (x : U16) (s s' : PS) (w : World) (hI : Inv B w s.gv s.got) (hC : w.cell? ⟨C, 0, none⟩ = some (.int .i64 n)) (hne : ¬ C = B)
    (hg : s.cells[o]? = some (.int .u16 x.v)) (hs : s.cells.setIfInBounds o (.int .u16 (x.mv n).v) = s'.cells) :
    Calls Tryz.prog 130 #[.pointer (some ⟨B, o, none⟩), .pointer (some ⟨C, 0, none⟩)] (put w B s.cells) fun e w' => e = .returned (.tuple #[]) ∧ put w.drew B s'.cells = w' := by
  have hi := hI.inb
  have hid := Inv.inb (Inv.drew hI)
  have hcd : w.drew.cell? ⟨C, 0, none⟩ = some (.int .i64 n) := hC
  go_enter Tryz.func130, Tryz.ntmps130
  go_wp2
  go_region_with ((go_at_call 81; refine (oMv_ _ _ _).mono ?_; rintro e w1 ⟨rfl, rfl⟩))
  all_goals (try go_wp2)
  all_goals exact bodyPost_end (results_none rfl _ _ _) rfl ⟨rfl, rfl⟩
end Go.Proofs.YtnaampdpkegacaaGreatDoor
