/-
  How a law's arguments are opened, and how they read behind the call. A helper of the claim that stands beside it.
-/
import Derived.Test.YtmkaglcobgjjaaaRows
import Derived.OpenVars
import Derived.OpenShut
import Derived.ProofKit
namespace Go.Proofs.Ytmkaglcobgjjaaa
open Go.ChangeShapes Go.WideShapes Go.ChangeAt Go.RowKit

theorem Try.own : ownKnob Try.prog.godebug = none := by kernel_rfl
theorem Try.laidOut : laidOutB Try.prog = true := by kernel_rfl
/-- One closed fact for a list of types: each can be read, and is a row of the table. -/
def typesRowed (P : Program) (ts : List TypeId) : Bool := ts.all fun t => P.readableRec t && decide (t < P.types.size)
theorem trodAll_below {H : Type} {enc : TypeId × Value → H} {P : Program} (hl : laidOutB P = true) {W W' : World} (hb : Below W.heap.size W W') :
    ∀ {ts : List TypeId} {vs : List Value} {ds : List (DataW H)} {ps : List MemPlace}, typesRowed P ts = true → DataW.TrodAll enc P W 0 (fun _ => true) true ts vs ds ps → (∀ x ∈ ps, x.block < W.heap.size) →
      DataW.TrodAll enc P W' 0 (fun b => decide (b < W.heap.size)) true ts vs ds ps
  | [], [], [], _, _, h, _ => h
  | [], [], _ :: _, _, _, h, _ => h.elim
  | [], _ :: _, _, _, _, h, _ => h.elim
  | _ :: _, [], _, _, _, h, _ => h.elim
  | _ :: _, _ :: _, [], _, _, h, _ => h.elim
  | t :: ts, v :: vs, d :: ds, ps, ht, h, hlt => by
    obtain ⟨p, q, h1, h2, e⟩ := h
    simp only [typesRowed, List.all_cons, Bool.and_eq_true, decide_eq_true_eq] at ht
    exact ⟨p, q, Below.trod hl ht.1.1 ht.1.2 h1 hb (fun x hx => hlt x (by rw [e]; simp [hx])), trodAll_below hl hb (by simp only [typesRowed]; exact ht.2) h2 (fun x hx => hlt x (by rw [e]; simp [hx])), e⟩
theorem u8_of_wf {x : Int} (h : (Lit.int .u8 x).wf = true) : 0 ≤ x ∧ x ≤ 255 := by
  simp [Lit.wf, IntKind.min, IntKind.max, IntKind.signed, IntKind.bits] at h
  exact ⟨by omega, by omega⟩
theorem list8 {α : Type} (l : List α) (h : l.length = 8) : ∃ a b c d e f g i, l = [a, b, c, d, e, f, g, i] := by
  match l, h with
  | [a, b, c, d, e, f, g, i], _ => exact ⟨a, b, c, d, e, f, g, i, rfl⟩
theorem Try.cells8 : Try.prog.cellsOf 27 = 8 := by kernel_rfl
theorem Try.cells1 : Try.prog.cellsOf 4 = 1 := by kernel_rfl
theorem open_b8 {H : Type} {enc : TypeId × Value → H} {W : World} {b0 : Nat} {r : Reach} {sp : Nat → Bool} {base : Nat} {held : Bool} {v : Value} {d : DataW H} {ps : List MemPlace} (hval : Value.okWide Try.prog W r b0 27 v)
    (hd : DataW.Trod enc Try.prog W base sp held 27 v d ps) : ∃ a b c d e f g i : Bool, v = .agg #[.bool a, .bool b, .bool c, .bool d, .bool e, .bool f, .bool g, .bool i] := by
  obtain ⟨cs, rfl, hsz, _⟩ : ∃ cs, v = .agg cs ∧ cs.size = Try.prog.cellsOf 27 ∧ Row.okWide Try.prog W r b0 27 cs := by
    simpa [Value.okWide, Try.underlying27] using hval
  rw [Try.cells8] at hsz
  obtain ⟨l⟩ := cs
  obtain ⟨a, b, c, d, e, f, g, i, rfl⟩ := list8 l hsz
  obtain ⟨fuel, hf⟩ := hd
  obtain ⟨xs, m, _, _, _, hl, hg⟩ := DataW.trod_array Try.underlying27 hf
  have h : ∀ k, k < 8 → ∃ x : Bool, ([a, b, c, d, e, f, g, i] : List Value)[k]? = some (.bool x) := by
    intro k hk
    have hk' := hg k hk
    obtain ⟨y, hy⟩ : ∃ y, xs[k]? = some y := ⟨xs[k], List.getElem?_eq_getElem (by omega)⟩
    rw [hy, Try.cells1] at hk'
    obtain ⟨x, hx, _⟩ := DataW.trod_bool Try.underlying4 hk'
    refine ⟨x, ?_⟩
    have h' : k = 0 ∨ k = 1 ∨ k = 2 ∨ k = 3 ∨ k = 4 ∨ k = 5 ∨ k = 6 ∨ k = 7 := by omega
    rcases h' with rfl | rfl | rfl | rfl | rfl | rfl | rfl | rfl <;> simpa [Value.cells] using hx
  obtain ⟨x0, h0⟩ := h 0 (by decide)
  obtain ⟨x1, h1⟩ := h 1 (by decide)
  obtain ⟨x2, h2⟩ := h 2 (by decide)
  obtain ⟨x3, h3⟩ := h 3 (by decide)
  obtain ⟨x4, h4⟩ := h 4 (by decide)
  obtain ⟨x5, h5⟩ := h 5 (by decide)
  obtain ⟨x6, h6⟩ := h 6 (by decide)
  obtain ⟨x7, h7⟩ := h 7 (by decide)
  simp at h0 h1 h2 h3 h4 h5 h6 h7
  subst h0 h1 h2 h3 h4 h5 h6 h7
  exact ⟨_, _, _, _, _, _, _, _, rfl⟩
end Go.Proofs.Ytmkaglcobgjjaaa
