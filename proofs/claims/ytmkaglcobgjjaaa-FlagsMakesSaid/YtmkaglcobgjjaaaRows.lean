/-
  No cell of these rows narrows 'for every input' (looked for: loops, veiled, ifaces, maps, wideKeys, modest, calm, conditions, laid).
  DERIVED. THE GIVEN ROWS OF THIS SEAT. 5 by the template 'for every input the law returns true; each argument reads behind the call as it read before'; 0 by the template 'total and deterministic' (their statements: YtmkaglcobgjjaaaTotals.lean).
  GIVEN WITH THE SEED: the statements are not yours to turn. If you find one false, say at which input.
  Laid BY PROGRAM, IN A SANDBOX (cutbox-rows.mjs): the forced cells as the released guide's own fill.sh prints them over the translation 405336cf7c19e70c… (all of the seat's roots in one cut). By AI agents, Wed Nov 11 2026. No macro, syntax, notation, axiom, sorry.
-/
import Derived.Test.YtmkaglcobgjjaaaChecked
import GoSem.Claim
import GoSem.ClaimJoined
import GoSem.ClaimMapViews
import Derived.JoinedTies
import Derived.KernelRfl
namespace Go.Proofs.Ytmkaglcobgjjaaa
/- THE CELL 'sum', in the pinned program and in every row, IS THE sha256 OF THE DUMP (.gsa) THAT YtmkaglcobgjjaaaProg.lean LOADS. Nothing in Lean hashes anything: it is a label: what it is worth is what the hold of that sum in a sandbox is worth. -/
noncomputable def Try.pinned : Pinned := { name := "ytmkaglcobgjjaaa", sum := "405336cf7c19e70ce4cbfeb0b098f426cb23c22fd6a6718bdd44d0a848e252d9", checked := Try.checked }
namespace Rows
def none {H : Type} : Left H := { results := [], args := [] }

/-- 'charabanclaw03.SumCompares': WHATEVER THE INPUT: true; the input reads as it did. -/
def sumComparesSpec : ChangeSpec := { name := "sumCompares", fn := fun _ => fun
  | [d1, d2] => { results := [.lit (.bool true)], args := [d1, d2] }
  | _ => none }
def sumComparesRow : OpenClaim := { program := "ytmkaglcobgjjaaa", sum := "405336cf7c19e70ce4cbfeb0b098f426cb23c22fd6a6718bdd44d0a848e252d9", func := "charabanc/charabanclaw03.SumCompares", spec := "sumCompares", apart := false }
def SumComparesSaid : Prop := sumComparesRow.holds Try.pinned (OpenSpec.ofChange sumComparesSpec)

/-- ITS FALSE NEIGHBOUR: 'it returns false'. Refute it at one input. -/
def sumComparesWrong : ChangeSpec := { name := "sumCompares", fn := fun _ => fun
  | [d1, d2] => { results := [.lit (.bool false)], args := [d1, d2] }
  | _ => none }
def SumComparesWrongFalsely : Prop := sumComparesRow.holds Try.pinned (OpenSpec.ofChange sumComparesWrong)

/-- 'charabanclaw02.FlagsMakes': WHATEVER THE INPUT: true; the input reads as it did. -/
def flagsMakesSpec : ChangeSpec := { name := "flagsMakes", fn := fun _ => fun
  | [d1, d2, d3] => { results := [.lit (.bool true)], args := [d1, d2, d3] }
  | _ => none }
def flagsMakesRow : OpenClaim := { program := "ytmkaglcobgjjaaa", sum := "405336cf7c19e70ce4cbfeb0b098f426cb23c22fd6a6718bdd44d0a848e252d9", func := "charabanc/charabanclaw02.FlagsMakes", spec := "flagsMakes", unfollowed := true, recurses := true, apart := false }
def FlagsMakesSaid : Prop := flagsMakesRow.holds Try.pinned (OpenSpec.ofChange flagsMakesSpec)

/-- ITS FALSE NEIGHBOUR: 'it returns false'. Refute it at one input. -/
def flagsMakesWrong : ChangeSpec := { name := "flagsMakes", fn := fun _ => fun
  | [d1, d2, d3] => { results := [.lit (.bool false)], args := [d1, d2, d3] }
  | _ => none }
def FlagsMakesWrongFalsely : Prop := flagsMakesRow.holds Try.pinned (OpenSpec.ofChange flagsMakesWrong)

/-- 'charabanclaw02.FlagsTests': WHATEVER THE INPUT: true; the input reads as it did. -/
def flagsTestsSpec : ChangeSpec := { name := "flagsTests", fn := fun _ => fun
  | [d1, d2, d3] => { results := [.lit (.bool true)], args := [d1, d2, d3] }
  | _ => none }
def flagsTestsRow : OpenClaim := { program := "ytmkaglcobgjjaaa", sum := "405336cf7c19e70ce4cbfeb0b098f426cb23c22fd6a6718bdd44d0a848e252d9", func := "charabanc/charabanclaw02.FlagsTests", spec := "flagsTests", unfollowed := true, recurses := true, apart := false }
def FlagsTestsSaid : Prop := flagsTestsRow.holds Try.pinned (OpenSpec.ofChange flagsTestsSpec)

/-- ITS FALSE NEIGHBOUR: 'it returns false'. Refute it at one input. -/
def flagsTestsWrong : ChangeSpec := { name := "flagsTests", fn := fun _ => fun
  | [d1, d2, d3] => { results := [.lit (.bool false)], args := [d1, d2, d3] }
  | _ => none }
def FlagsTestsWrongFalsely : Prop := flagsTestsRow.holds Try.pinned (OpenSpec.ofChange flagsTestsWrong)

/-- 'charabanclaw02.FlagsBack': WHATEVER THE INPUT: true; the input reads as it did. -/
def flagsBackSpec : ChangeSpec := { name := "flagsBack", fn := fun _ => fun
  | [d1, d2] => { results := [.lit (.bool true)], args := [d1, d2] }
  | _ => none }
def flagsBackRow : OpenClaim := { program := "ytmkaglcobgjjaaa", sum := "405336cf7c19e70ce4cbfeb0b098f426cb23c22fd6a6718bdd44d0a848e252d9", func := "charabanc/charabanclaw02.FlagsBack", spec := "flagsBack", unfollowed := true, recurses := true, apart := false }
def FlagsBackSaid : Prop := flagsBackRow.holds Try.pinned (OpenSpec.ofChange flagsBackSpec)

/-- ITS FALSE NEIGHBOUR: 'it returns false'. Refute it at one input. -/
def flagsBackWrong : ChangeSpec := { name := "flagsBack", fn := fun _ => fun
  | [d1, d2] => { results := [.lit (.bool false)], args := [d1, d2] }
  | _ => none }
def FlagsBackWrongFalsely : Prop := flagsBackRow.holds Try.pinned (OpenSpec.ofChange flagsBackWrong)

/-- 'charabanclaw02.FlagsKeeps': WHATEVER THE INPUT: true; the input reads as it did. -/
def flagsKeepsSpec : ChangeSpec := { name := "flagsKeeps", fn := fun _ => fun
  | [d1, d2, d3] => { results := [.lit (.bool true)], args := [d1, d2, d3] }
  | _ => none }
def flagsKeepsRow : OpenClaim := { program := "ytmkaglcobgjjaaa", sum := "405336cf7c19e70ce4cbfeb0b098f426cb23c22fd6a6718bdd44d0a848e252d9", func := "charabanc/charabanclaw02.FlagsKeeps", spec := "flagsKeeps", unfollowed := true, recurses := true, apart := false }
def FlagsKeepsSaid : Prop := flagsKeepsRow.holds Try.pinned (OpenSpec.ofChange flagsKeepsSpec)

/-- ITS FALSE NEIGHBOUR: 'it returns false'. Refute it at one input. -/
def flagsKeepsWrong : ChangeSpec := { name := "flagsKeeps", fn := fun _ => fun
  | [d1, d2, d3] => { results := [.lit (.bool false)], args := [d1, d2, d3] }
  | _ => none }
def FlagsKeepsWrongFalsely : Prop := flagsKeepsRow.holds Try.pinned (OpenSpec.ofChange flagsKeepsWrong)

/- THE SECOND FORM. 'bulk': how many values and letters a reading holds, each counted each time it is reached (what is shared counts as often as it is met; a slice's spare places count too). A statement '..UptoSaid' is the law's where the arguments, and the package variables that the reading takes, are together of bulk at most 1048576: NARROWER than '..Said'. Prove '..Said' where nothing that the law and all that it calls make is longer than what came in: it says more and counts as full. Else prove '..UptoSaid'. A law counts once. -/
mutual
def uptoBulk {H : Type} : DataW H → Nat
  | .lit (.string bytes) => bytes.length + 1
  | .lit _ => 1
  | .nil => 1
  | .ptr d => uptoBulk d + 1
  | .slice elems spare => uptoBulkAll elems + uptoBulkAll spare + 1
  | .agg parts => uptoBulkAll parts + 1
  | .iface _ d => uptoBulk d + 1
  | .map entries => uptoBulkEntries entries + 1
  | .held _ => 1
def uptoBulkAll {H : Type} : List (DataW H) → Nat
  | [] => 0
  | d :: r => uptoBulk d + uptoBulkAll r
def uptoBulkEntries {H : Type} : List (Lit × DataW H) → Nat
  | [] => 0
  | x :: r => uptoBulkEntry x + uptoBulkEntries r
def uptoBulkEntry {H : Type} : Lit × DataW H → Nat
  | (.string bytes, d) => bytes.length + uptoBulk d + 1
  | (_, d) => uptoBulk d + 1
 end
def uptoSmall : (H : Type) → List (DataW H) → Bool := fun _ ds => decide (uptoBulkAll ds ≤ 1048576)
def OpenSpec.upto (s : _root_.Go.ChangeSpec) : _root_.Go.OpenSpec := { _root_.Go.OpenSpec.ofChange s with cond := some uptoSmall }

/-- 'charabanclaw03.SumCompares', WHERE WHAT IT READS IS OF BULK AT MOST 1048576: true; the input reads as it did. -/
def sumComparesUptoRow : OpenClaim := { program := "ytmkaglcobgjjaaa", sum := "405336cf7c19e70ce4cbfeb0b098f426cb23c22fd6a6718bdd44d0a848e252d9", func := "charabanc/charabanclaw03.SumCompares", spec := "sumCompares", apart := false, narrowed := true }
def SumComparesUptoSaid : Prop := sumComparesUptoRow.holds Try.pinned (OpenSpec.upto sumComparesSpec)

/-- 'charabanclaw02.FlagsMakes', WHERE WHAT IT READS IS OF BULK AT MOST 1048576: true; the input reads as it did. -/
def flagsMakesUptoRow : OpenClaim := { program := "ytmkaglcobgjjaaa", sum := "405336cf7c19e70ce4cbfeb0b098f426cb23c22fd6a6718bdd44d0a848e252d9", func := "charabanc/charabanclaw02.FlagsMakes", spec := "flagsMakes", unfollowed := true, recurses := true, apart := false, narrowed := true }
def FlagsMakesUptoSaid : Prop := flagsMakesUptoRow.holds Try.pinned (OpenSpec.upto flagsMakesSpec)

/-- 'charabanclaw02.FlagsTests', WHERE WHAT IT READS IS OF BULK AT MOST 1048576: true; the input reads as it did. -/
def flagsTestsUptoRow : OpenClaim := { program := "ytmkaglcobgjjaaa", sum := "405336cf7c19e70ce4cbfeb0b098f426cb23c22fd6a6718bdd44d0a848e252d9", func := "charabanc/charabanclaw02.FlagsTests", spec := "flagsTests", unfollowed := true, recurses := true, apart := false, narrowed := true }
def FlagsTestsUptoSaid : Prop := flagsTestsUptoRow.holds Try.pinned (OpenSpec.upto flagsTestsSpec)

/-- 'charabanclaw02.FlagsBack', WHERE WHAT IT READS IS OF BULK AT MOST 1048576: true; the input reads as it did. -/
def flagsBackUptoRow : OpenClaim := { program := "ytmkaglcobgjjaaa", sum := "405336cf7c19e70ce4cbfeb0b098f426cb23c22fd6a6718bdd44d0a848e252d9", func := "charabanc/charabanclaw02.FlagsBack", spec := "flagsBack", unfollowed := true, recurses := true, apart := false, narrowed := true }
def FlagsBackUptoSaid : Prop := flagsBackUptoRow.holds Try.pinned (OpenSpec.upto flagsBackSpec)

/-- 'charabanclaw02.FlagsKeeps', WHERE WHAT IT READS IS OF BULK AT MOST 1048576: true; the input reads as it did. -/
def flagsKeepsUptoRow : OpenClaim := { program := "ytmkaglcobgjjaaa", sum := "405336cf7c19e70ce4cbfeb0b098f426cb23c22fd6a6718bdd44d0a848e252d9", func := "charabanc/charabanclaw02.FlagsKeeps", spec := "flagsKeeps", unfollowed := true, recurses := true, apart := false, narrowed := true }
def FlagsKeepsUptoSaid : Prop := flagsKeepsUptoRow.holds Try.pinned (OpenSpec.upto flagsKeepsSpec)

end Rows
end Go.Proofs.Ytmkaglcobgjjaaa
