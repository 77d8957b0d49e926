/-
  What the eight rows of next's law share: what the laid variable gives, a world that meets it, an argument of registers, an argument of answers. A helper of the claims that stand beside it.
-/
import Derived.Test.YtnaampdpkegacaaGreatDoortake
import Derived.Test.YtnaampdpkegacaaGreatDoorRows
import Derived.ChangeSame
import Derived.ChangeSlices
import Derived.ChangeVars
import Derived.JoinedOf
import Derived.RowKit
import Derived.LaidLaws
import Derived.LaidHandle
import Derived.LaidMore
import Derived.OpenShut
import Derived.MakeChecks
import Derived.Stop.Joined
import Derived.Laws.AppendOwnNone

namespace Go.Proofs.YtnaampdpkegacaaGreatDoor
open Go.ChangeShapes Go.WideShapes Go.ChangeAt Go.RowKit
set_option maxRecDepth 100000

theorem own_knob : ownKnob Tryz.prog.godebug = none := by kernel_rfl
theorem g_right : Tryz.prog.globalNamed "charabanc/logic.right" = some 0 := by kernel_rfl
theorem t_right : (Tryz.prog.globals[0]?).map (·.type) = some 150 := by kernel_rfl
theorem u_right : Tryz.prog.underlying 150 = some (.array 4 5) := by kernel_rfl
theorem c_right : Tryz.prog.cellsOf 150 = 4 := by kernel_rfl
theorem c_u8 : Tryz.prog.cellsOf 5 = 1 := by kernel_rfl
/-- What the rows' premise lists. -/
abbrev lists : List (String × DataW Unit) := [("charabanc/logic.right", Rows.laid_charabanc_logic_right)]
theorem lg_of_laid {W : World} (h : laidMetH Tryz.prog lists W) : Lg W := by
  rw [MakeChecks.laidMetH_plain _ _ _ (by kernel_rfl)] at h
  obtain ⟨ps, ⟨g, t, cs, fuel, p, q, hg, ht, hvar, hd, _, _⟩, _⟩ := h
  obtain rfl := Option.some.inj (g_right.symm.trans hg)
  obtain rfl := Option.some.inj (t_right.symm.trans ht)
  obtain ⟨xs, m, _, hx, hl, hn, hel⟩ := DataW.trod_array u_right hd
  have h0 := hel 0 (by decide)
  have h1 := hel 1 (by decide)
  have h2 := hel 2 (by decide)
  have h3 := hel 3 (by decide)
  rw [c_u8] at h0 h1 h2 h3
  rw [c_right] at hl
  obtain ⟨l⟩ := cs
  match l, hl with
  | [a, b, c, d], _ =>
    match xs, hn with
    | [x0, x1, x2, x3], _ =>
      obtain ⟨n0, e0, f0, _⟩ := DataW.trod_int Tryz.underlying5 (show DataW.trod _ Tryz.prog W 0 _ false m 5 [a] = some x0 from h0)
      obtain ⟨n1, e1, f1, _⟩ := DataW.trod_int Tryz.underlying5 (show DataW.trod _ Tryz.prog W 0 _ false m 5 [b] = some x1 from h1)
      obtain ⟨n2, e2, f2, _⟩ := DataW.trod_int Tryz.underlying5 (show DataW.trod _ Tryz.prog W 0 _ false m 5 [c] = some x2 from h2)
      obtain ⟨n3, e3, f3, _⟩ := DataW.trod_int Tryz.underlying5 (show DataW.trod _ Tryz.prog W 0 _ false m 5 [d] = some x3 from h3)
      subst f0 f1 f2 f3
      simp [Rows.laid_charabanc_logic_right] at e0 e1 e2 e3 hx
      obtain ⟨⟨rfl, rfl, rfl, rfl⟩, _⟩ := hx
      subst e0 e1 e2 e3
      unfold World.var? at hvar
      rw [hg, Option.bind_some] at hvar
      unfold Lg blk
      cases e : W.heap[0]? with
      | none => rw [e] at hvar; cases hvar
      | some o =>
        cases o <;> simp [e] at hvar ⊢
        exact hvar
theorem cell_u16 {W : World} {r : Reach} {b0 : Nat} {v : Value} (h : Cell.okWide Tryz.prog W r b0 22 v) : ∃ x : U16, v = .int .u16 x.v := by
  unfold Cell.okWide Cell.ok at h
  rw [Tryz.underlying22] at h
  cases v <;> simp only [IntKind.has] at h
  obtain ⟨rfl, h0, h1⟩ := h
  exact ⟨⟨_, h0, h1⟩, rfl⟩
theorem cell_u8 {W : World} {r : Reach} {b0 : Nat} {v : Value} (h : Cell.okWide Tryz.prog W r b0 5 v) : ∃ x : U8, v = .int .u8 x.v := by
  unfold Cell.okWide Cell.ok at h
  rw [Tryz.underlying5] at h
  cases v <;> simp only [IntKind.has] at h
  obtain ⟨rfl, h0, h1⟩ := h
  exact ⟨⟨_, h0, h1⟩, rfl⟩
theorem cell_b {W : World} {r : Reach} {b0 : Nat} {v : Value} (h : Cell.okWide Tryz.prog W r b0 4 v) : ∃ x : Bool, v = .bool x := by
  unfold Cell.okWide Cell.ok at h
  rw [Tryz.underlying4] at h
  cases v <;> simp only at h
  exact ⟨_, rfl⟩
theorem cell_i64 {W : World} {r : Reach} {b0 : Nat} {v : Value} (h : Cell.okWide Tryz.prog W r b0 3 v) : ∃ x : Int, v = .int .i64 x := by
  unfold Cell.okWide Cell.ok at h
  rw [Tryz.underlying3] at h
  cases v <;> simp only [IntKind.has] at h
  obtain ⟨rfl, h0, h1⟩ := h
  exact ⟨_, rfl⟩
theorem c_regs : Tryz.prog.cellsOf 24 = 20 := by kernel_rfl
theorem ct_regs : Tryz.prog.cellTypes Tryz.prog.depth 24 = some [22, 22, 22, 22, 22, 22, 22, 22, 22, 22, 22, 22, 22, 5, 5, 4, 4, 4, 4, 3] := by kernel_rfl
theorem list20 {α : Type} (l : List α) (h : l.length = 20) : ∃ c0 c1 c2 c3 c4 c5 c6 c7 c8 c9 c10 c11 c12 c13 c14 c15 c16 c17 c18 c19, l = [c0, c1, c2, c3, c4, c5, c6, c7, c8, c9, c10, c11, c12, c13, c14, c15, c16, c17, c18, c19] := by
  match l, h with
  | [c0, c1, c2, c3, c4, c5, c6, c7, c8, c9, c10, c11, c12, c13, c14, c15, c16, c17, c18, c19], _ => exact ⟨c0, c1, c2, c3, c4, c5, c6, c7, c8, c9, c10, c11, c12, c13, c14, c15, c16, c17, c18, c19, rfl⟩
/-- An argument of registers is the cells of some registers. -/
theorem open_regs {W : World} {r : Reach} {b0 : Nat} {v : Value} (hval : Value.okWide Tryz.prog W r b0 24 v) : ∃ g : R, v = .agg g.cells := by
  obtain ⟨cs, rfl, hsz, ts, ht, _, hc⟩ : ∃ cs, v = .agg cs ∧ cs.size = Tryz.prog.cellsOf 24 ∧ Row.okWide Tryz.prog W r b0 24 cs := by
    simpa [Value.okWide, Tryz.underlying24] using hval
  obtain rfl := Option.some.inj (ct_regs.symm.trans ht)
  rw [c_regs] at hsz
  obtain ⟨l⟩ := cs
  obtain ⟨c0, c1, c2, c3, c4, c5, c6, c7, c8, c9, c10, c11, c12, c13, c14, c15, c16, c17, c18, c19, rfl⟩ := list20 l hsz
  obtain ⟨x0, rfl⟩ : ∃ x : U16, c0 = .int .u16 x.v := by
    obtain ⟨u, hu, hk⟩ := hc 0 c0 rfl
    obtain rfl := Option.some.inj (show some 22 = some u from hu)
    exact cell_u16 hk
  obtain ⟨x1, rfl⟩ : ∃ x : U16, c1 = .int .u16 x.v := by
    obtain ⟨u, hu, hk⟩ := hc 1 c1 rfl
    obtain rfl := Option.some.inj (show some 22 = some u from hu)
    exact cell_u16 hk
  obtain ⟨x2, rfl⟩ : ∃ x : U16, c2 = .int .u16 x.v := by
    obtain ⟨u, hu, hk⟩ := hc 2 c2 rfl
    obtain rfl := Option.some.inj (show some 22 = some u from hu)
    exact cell_u16 hk
  obtain ⟨x3, rfl⟩ : ∃ x : U16, c3 = .int .u16 x.v := by
    obtain ⟨u, hu, hk⟩ := hc 3 c3 rfl
    obtain rfl := Option.some.inj (show some 22 = some u from hu)
    exact cell_u16 hk
  obtain ⟨x4, rfl⟩ : ∃ x : U16, c4 = .int .u16 x.v := by
    obtain ⟨u, hu, hk⟩ := hc 4 c4 rfl
    obtain rfl := Option.some.inj (show some 22 = some u from hu)
    exact cell_u16 hk
  obtain ⟨x5, rfl⟩ : ∃ x : U16, c5 = .int .u16 x.v := by
    obtain ⟨u, hu, hk⟩ := hc 5 c5 rfl
    obtain rfl := Option.some.inj (show some 22 = some u from hu)
    exact cell_u16 hk
  obtain ⟨x6, rfl⟩ : ∃ x : U16, c6 = .int .u16 x.v := by
    obtain ⟨u, hu, hk⟩ := hc 6 c6 rfl
    obtain rfl := Option.some.inj (show some 22 = some u from hu)
    exact cell_u16 hk
  obtain ⟨x7, rfl⟩ : ∃ x : U16, c7 = .int .u16 x.v := by
    obtain ⟨u, hu, hk⟩ := hc 7 c7 rfl
    obtain rfl := Option.some.inj (show some 22 = some u from hu)
    exact cell_u16 hk
  obtain ⟨x8, rfl⟩ : ∃ x : U16, c8 = .int .u16 x.v := by
    obtain ⟨u, hu, hk⟩ := hc 8 c8 rfl
    obtain rfl := Option.some.inj (show some 22 = some u from hu)
    exact cell_u16 hk
  obtain ⟨x9, rfl⟩ : ∃ x : U16, c9 = .int .u16 x.v := by
    obtain ⟨u, hu, hk⟩ := hc 9 c9 rfl
    obtain rfl := Option.some.inj (show some 22 = some u from hu)
    exact cell_u16 hk
  obtain ⟨x10, rfl⟩ : ∃ x : U16, c10 = .int .u16 x.v := by
    obtain ⟨u, hu, hk⟩ := hc 10 c10 rfl
    obtain rfl := Option.some.inj (show some 22 = some u from hu)
    exact cell_u16 hk
  obtain ⟨x11, rfl⟩ : ∃ x : U16, c11 = .int .u16 x.v := by
    obtain ⟨u, hu, hk⟩ := hc 11 c11 rfl
    obtain rfl := Option.some.inj (show some 22 = some u from hu)
    exact cell_u16 hk
  obtain ⟨x12, rfl⟩ : ∃ x : U16, c12 = .int .u16 x.v := by
    obtain ⟨u, hu, hk⟩ := hc 12 c12 rfl
    obtain rfl := Option.some.inj (show some 22 = some u from hu)
    exact cell_u16 hk
  obtain ⟨x13, rfl⟩ : ∃ x : U8, c13 = .int .u8 x.v := by
    obtain ⟨u, hu, hk⟩ := hc 13 c13 rfl
    obtain rfl := Option.some.inj (show some 5 = some u from hu)
    exact cell_u8 hk
  obtain ⟨x14, rfl⟩ : ∃ x : U8, c14 = .int .u8 x.v := by
    obtain ⟨u, hu, hk⟩ := hc 14 c14 rfl
    obtain rfl := Option.some.inj (show some 5 = some u from hu)
    exact cell_u8 hk
  obtain ⟨x15, rfl⟩ : ∃ x : Bool, c15 = .bool x := by
    obtain ⟨u, hu, hk⟩ := hc 15 c15 rfl
    obtain rfl := Option.some.inj (show some 4 = some u from hu)
    exact cell_b hk
  obtain ⟨x16, rfl⟩ : ∃ x : Bool, c16 = .bool x := by
    obtain ⟨u, hu, hk⟩ := hc 16 c16 rfl
    obtain rfl := Option.some.inj (show some 4 = some u from hu)
    exact cell_b hk
  obtain ⟨x17, rfl⟩ : ∃ x : Bool, c17 = .bool x := by
    obtain ⟨u, hu, hk⟩ := hc 17 c17 rfl
    obtain rfl := Option.some.inj (show some 4 = some u from hu)
    exact cell_b hk
  obtain ⟨x18, rfl⟩ : ∃ x : Bool, c18 = .bool x := by
    obtain ⟨u, hu, hk⟩ := hc 18 c18 rfl
    obtain rfl := Option.some.inj (show some 4 = some u from hu)
    exact cell_b hk
  obtain ⟨x19, rfl⟩ : ∃ x : Int, c19 = .int .i64 x := by
    obtain ⟨u, hu, hk⟩ := hc 19 c19 rfl
    obtain rfl := Option.some.inj (show some 3 = some u from hu)
    exact cell_i64 hk
  exact ⟨⟨x0, x1, x2, x3, x4, x5, x6, x7, x8, x9, x10, x11, x12, x13, x14, x15, x16, x17, x18, x19⟩, rfl⟩
theorem el_bytes : Tryz.prog.cellsOf 5 = 1 := by kernel_rfl
theorem bytes_of (zs : List Int) (h : ∀ z ∈ zs, (Lit.int .u8 z).wf = true) : ∃ got : List U8, got.map (·.v) = zs := by
  induction zs with
  | nil => exact ⟨[], rfl⟩
  | cons z zs ih =>
    obtain ⟨got, hg⟩ := ih (fun x hx => h x (List.mem_cons_of_mem _ hx))
    have hz := h z List.mem_cons_self
    simp [Lit.wf, IntKind.min, IntKind.max, IntKind.signed, IntKind.bits] at hz
    exact ⟨⟨z, by omega, by omega⟩ :: got, by rw [List.map_cons, hg]⟩
theorem cell_in {w : World} {a : Addr} {v : Value} (h : w.cell? a = some v) : a.block < w.heap.size := by
  unfold World.cell? at h
  cases e : w.heap[a.block]? with
  | none => rw [e] at h; cases h
  | some o => exact (Array.getElem?_eq_some_iff.1 e).1
/-- A slice without an array is the nil slice. -/
def NilOk (v : Value) : Prop := ∀ n c, v = .slice none n c → n = 0 ∧ c = 0
/-- An argument of answers. -/
theorem open_u8s {H : Type} {enc : TypeId × Value → H} {W : World} {r : Reach} {b0 base : Nat} {sp : Nat → Bool} {held : Bool} {v : Value} {d : DataW H} {ps : List MemPlace} (hval : Value.okWide Tryz.prog W r b0 25 v)
    (hd : DataW.Trod enc Tryz.prog W base sp held 25 v d ps) : ∃ got : List U8, SlIs W v got ∧ NilOk v := by
  obtain ⟨fuel, hf⟩ := hd
  rcases open_ints Tryz.underlying25 Tryz.underlying5 el_bytes hf with ⟨h, _⟩ | ⟨a, n, c, zs, h, _, hle, _, hlen, _, hcell, hwf⟩
  · unfold Value.okWide Cell.okWide Cell.ok at hval
    rw [Tryz.underlying25] at hval
    cases v <;> simp [Value.cells] at h hval
    obtain ⟨rfl, rfl, rfl⟩ := h
    exact ⟨[], .inl ⟨_, _, rfl, rfl⟩, fun n c e => by cases e; exact ⟨rfl, rfl⟩⟩
  · unfold Value.okWide Cell.okWide Cell.ok at hval
    rw [Tryz.underlying25] at hval
    cases v <;> simp [Value.cells] at h hval
    rename_i p' n' c'
    obtain ⟨e1, e2, e3⟩ := h
    subst e1
    obtain rfl : n = n' := e2.symm
    obtain rfl : c = c' := e3.symm
    clear hf
    simp at hval
    obtain ⟨_, _, _, hs, _⟩ := hval
    obtain ⟨b, o, s⟩ := a
    simp only at hs
    subst hs
    obtain ⟨got, hg⟩ := bytes_of (zs.take n) (fun z hz => hwf z (List.mem_of_mem_take hz))
    have hn : n ≤ zs.length := by
      rw [hlen]; split
      · exact hle
      · exact Nat.le_refl _
    have hl : got.length = n := by
      have := congrArg List.length hg
      simpa [Nat.min_eq_left hn] using this
    rcases Nat.eq_zero_or_pos n with h0 | h0
    · subst h0
      exact ⟨[], .inl ⟨_, _, rfl, rfl⟩, fun n c e => by cases e⟩
    · refine ⟨got, .inr ⟨b, o, c, by rw [hl], by omega, cell_in (hcell 0 (by omega)), ?_⟩, fun n c e => by cases e⟩
      intro j v hj
      have hc := hcell j (by have := (List.getElem?_eq_some_iff.1 hj).1; omega)
      have hm : (zs.take n)[j]? = some v.v := by rw [← hg, List.getElem?_map, hj]; rfl
      have hz : zs[j]? = some v.v := by
        rw [List.getElem?_take] at hm
        split at hm
        · exact hm
        · cases hm
      rw [List.getD_eq_getElem?_getD, hz, Option.getD_some, Addr.add_mid] at hc
      exact hc
/-- The door's own heap meets the premise. -/
theorem door_met (os : Os) (args : Array Value) : laidMetH Tryz.prog lists ((World.doorLaid Tryz.prog 400 os).forCall (fun _ _ => 0) ⟨#[], args, []⟩).memory :=
  laidMetH_of_parts3 (fuel := 8) (laidMet_of_run' 8 (by kernel_rfl) (by kernel_rfl)) (by kernel_rfl) (by kernel_rfl)
theorem open_u8 {W : World} {r : Reach} {b0 : Nat} {v : Value} (h : Value.okWide Tryz.prog W r b0 5 v) : ∃ x : U8, v = .int .u8 x.v := by
  unfold Value.okWide at h
  simp only [Tryz.underlying5] at h
  exact cell_u8 h
theorem Tryz.laidOut : laidOutB Tryz.prog = true := by kernel_rfl
/-- One closed fact for a list of types: each can be read, and is a row of the table. -/
def typesRowed (P : Program) (ts : List TypeId) : Bool := ts.all fun t => P.readableRec t && decide (t < P.types.size)
theorem trodAll_below {H : Type} {enc : TypeId × Value → H} {P : Program} (hl : laidOutB P = true) {W W' : World} (hb : Below W.heap.size W W') :
    ∀ {ts : List TypeId} {vs : List Value} {ds : List (DataW H)} {ps : List MemPlace}, typesRowed P ts = true → DataW.TrodAll enc P W 0 (fun _ => true) true ts vs ds ps → (∀ x ∈ ps, x.block < W.heap.size) →
      DataW.TrodAll enc P W' 0 (fun b => decide (b < W.heap.size)) true ts vs ds ps
  | [], [], [], _, _, h, _ => h
  | [], [], _ :: _, _, _, h, _ => h.elim
  | [], _ :: _, _, _, _, h, _ => h.elim
  | _ :: _, [], _, _, _, h, _ => h.elim
  | _ :: _, _ :: _, [], _, _, h, _ => h.elim
  | t :: ts, v :: vs, d :: ds, ps, ht, h, hlt => by
    obtain ⟨p, q, h1, h2, e⟩ := h
    simp only [typesRowed, List.all_cons, Bool.and_eq_true, decide_eq_true_eq] at ht
    exact ⟨p, q, Below.trod hl ht.1.1 ht.1.2 h1 hb (fun x hx => hlt x (by rw [e]; simp [hx])), trodAll_below hl hb (by simp only [typesRowed]; exact ht.2) h2 (fun x hx => hlt x (by rw [e]; simp [hx])), e⟩
end Go.Proofs.YtnaampdpkegacaaGreatDoor

namespace Go.Proofs.YtnaampdpkegacaaGreatDoor
open Go.RowKit

theorem ne_cyc (a b : Cyc) (w : World) : (binOp .neq 28 (.agg a.cells) (.agg b.cells)).run Tryz.prog w = .ok (.bool (!eqC a b)) w := by
  have h := eq_cyc a b w
  rw [run_eql_struct] at h
  rw [run_neq_struct]
  cases e : (Op.equalIn 10000 28 (.agg a.cells) (.agg b.cells)).run Tryz.prog w with
  | ok x w1 => rw [e] at h; simp only [Result.andThen, Result.ok.injEq, Value.bool.injEq] at h ⊢; rw [h.1, h.2]; exact ⟨rfl, rfl⟩
  | _ => rw [e] at h; cases h
theorem ne_regs (a b : R) (w : World) : (binOp .neq 24 (.agg a.cells) (.agg b.cells)).run Tryz.prog w = .ok (.bool (!eqR a b)) w := by
  have h := eq_regs a b w
  rw [run_eql_struct] at h
  rw [run_neq_struct]
  cases e : (Op.equalIn 10000 24 (.agg a.cells) (.agg b.cells)).run Tryz.prog w with
  | ok x w1 => rw [e] at h; simp only [Result.andThen, Result.ok.injEq, Value.bool.injEq] at h ⊢; rw [h.1, h.2]; exact ⟨rfl, rfl⟩
  | _ => rw [e] at h; cases h
def neRg (a b : R) : Sem Value := binOp .neq 24 (.agg a.cells) (.agg b.cells)
def neCg (a b : Cyc) : Sem Value := binOp .neq 28 (.agg a.cells) (.agg b.cells)
@[go_sem ↓ high] theorem ne_regs_name (a b : R) : binOp .neq 24 (.agg a.cells) (.agg b.cells) = neRg a b := rfl
@[go_sem ↓ high] theorem ne_cyc_name (a b : Cyc) : binOp .neq 28 (.agg a.cells) (.agg b.cells) = neCg a b := rfl
@[go_sem] theorem ne_regs_run (a b : R) (w : World) : (neRg a b).run Tryz.prog w = .ok (.bool (!eqR a b)) w := ne_regs a b w
@[go_sem] theorem ne_cyc_run (a b : Cyc) (w : World) : (neCg a b).run Tryz.prog w = .ok (.bool (!eqC a b)) w := ne_cyc a b w
theorem SlIs.slice' {w : World} {gv : Value} {got : List U8} (h : SlIs w gv got) : ∃ a c, gv = .slice a got.length c := by
  rcases h with ⟨a, c, rfl, rfl⟩ | ⟨b, o, c, rfl, _⟩
  · exact ⟨a, c, rfl⟩
  · exact ⟨_, c, rfl⟩
theorem SlIs.take {w : World} {a : Option Addr} {n c : Nat} {got : List U8} (h : SlIs w (.slice a n c) got) (k : Nat) (hk : k ≤ n) : SlIs w (.slice a k c) (got.take k) := by
  rcases h with ⟨a', c', e, rfl⟩ | ⟨b, o, c', e, hc, hb, hj⟩
  · cases e
    obtain rfl : k = 0 := by omega
    exact .inl ⟨_, _, rfl, rfl⟩
  · cases e
    refine .inr ⟨b, o, c, by rw [List.length_take, Nat.min_eq_left hk], by rw [List.length_take]; omega, hb, fun j v hv => hj j v ?_⟩
    rw [List.getElem?_take] at hv
    split at hv
    · exact hv
    · cases hv
theorem own_nil (w : World) (base : Nat) : w.ownsRow base 5 1 (.slice none 0 0) 0 (u8s []) := ⟨rfl, .inl ⟨rfl, rfl⟩⟩
theorem u8s_app (a b : List U8) : u8s (a ++ b) = u8s a ++ u8s b := List.map_append
theorem u8s_len (a : List U8) : (u8s a).length = a.length := List.length_map _
theorem u8s_one (a : List U8) : ∀ u ∈ u8s a, u.oneCell' = true := by
  intro u hu
  obtain ⟨x, _, rfl⟩ := List.mem_map.1 hu
  rfl
/-- The cells behind a slice that is not empty, as an append wants them. -/
theorem SlIs.news {w : World} {b o n c : Nat} {got : List U8} (h : SlIs w (.slice (some ⟨b, o, none⟩) n c) got) : n = got.length ∧ ∀ j u, (u8s got)[j]? = some u → w.cell? ((⟨b, o, none⟩ : Addr).add j) = some u := by
  rcases h with ⟨a', c', e, rfl⟩ | ⟨b', o', c', e, hc, hb, hj⟩
  · cases e
    exact ⟨rfl, fun j u hu => by simp [u8s] at hu⟩
  · cases e
    refine ⟨rfl, fun j u hu => ?_⟩
    simp only [u8s, List.getElem?_map, Option.map_eq_some_iff] at hu
    obtain ⟨v, hv, rfl⟩ := hu
    rw [Addr.add_mid]
    exact hj j v hv
theorem SlIs.addr {w : World} {a : Option Addr} {n c : Nat} {got : List U8} (h : SlIs w (.slice a n c) got) (hz : NilOk (.slice a n c)) : (a = none ∧ n = 0 ∧ c = 0 ∧ got = []) ∨ ∃ ad, a = some ad ∧ n = got.length ∧ ∀ j u, (u8s got)[j]? = some u → w.cell? (ad.add j) = some u := by
  rcases h with ⟨a', c', e, rfl⟩ | ⟨b', o', c', e, hc, hb, hj⟩
  · cases e
    cases a with
    | none => obtain ⟨_, rfl⟩ := hz _ _ rfl; exact .inl ⟨rfl, rfl, rfl, rfl⟩
    | some ad => exact .inr ⟨ad, rfl, rfl, fun j u hu => by simp [u8s] at hu⟩
  · cases e
    exact .inr ⟨_, rfl, rfl, (SlIs.news (.inr ⟨b', o', c, rfl, hc, hb, hj⟩)).2⟩
/-- A slice of bytes appended, nil or not. -/
theorem wpList_append_sl {w : World} {ops : Array Oper} {rest : List Oper} {o : Oper} {a : Act} {Q : Exit → Act → World → Prop} (hgd : o.guard = none) (s x : Operand)
    (ho : o.op = .call { callee := .builtin .append, args := #[s, x], argTypes := #[25, 25] })
    (base : Nat) (i : TypeInfo) (hi : Tryz.prog.info? 5 = some i) (hz : i.zero = some (.int .u8 0)) (hsize : i.size = 1) (hby : i.bytes = 1)
    (v : Value) (n : Nat) (xs : List Value) (hs : a.eval s = v) (hown : w.ownsRow base 5 1 v n xs)
    (aa : Option Addr) (m c : Nat) (got : List U8) (hx : a.eval x = .slice aa m c)
    (hA : (aa = none ∧ m = 0 ∧ c = 0 ∧ got = []) ∨ ∃ ad, aa = some ad ∧ m = got.length ∧ ∀ j u, (u8s got)[j]? = some u → w.cell? (ad.add j) = some u)
    (h63 : n + got.length ≤ 1000) (hbase : base ≤ w.heap.size)
    (h : ∀ v' w', w'.ownsRow base 5 1 v' (n + got.length) (xs ++ u8s got) → w.grownBy w' v.ownBlock → wpList Tryz.prog ops Q rest (a.put o.dst v') w') : wpList Tryz.prog ops Q (o :: rest) a w := by
  rcases hA with ⟨rfl, rfl, rfl, rfl⟩ | ⟨ad, rfl, rfl, hc⟩
  · refine wpList_append_own_none hgd s x 25 ho base 5 i 1 Tryz.underlying25 hi v n xs hs hown hx (h v w ?_ ?_)
    · simpa [u8s] using hown
    · exact World.grownBy.refl _ _
  · exact wpList_append_own _ hgd s x 25 ho base 5 i (.int .u8 0) 1 1 Tryz.underlying25 hi hz hsize hby rfl (by decide) v n xs hs hown ad got.length c (u8s got) hx (by rw [u8s_len, Nat.mul_one]) hc (u8s_one _)
      (by unfold maxLen; omega) (by omega) hbase fun v' w' h1 h2 _ => h v' w' h1 h2
end Go.Proofs.YtnaampdpkegacaaGreatDoor

namespace Go.Proofs.YtnaampdpkegacaaGreatDoor
open Go.RowKit
theorem bl_alloc {w W : World} {o : Obj} (h : Below w.heap.size w W) : Below w.heap.size w (W.alloc o) := bt h (by go_grown)
theorem bl_drew {w W : World} (h : Below w.heap.size w W) : Below w.heap.size w W.drew := bt h (Below.refl _ _).drew
theorem after0 {w w4 : World} (hb : Below w.drew.heap.size w.drew w4) : ∃ w5, w4 = w5 ∧ Below w.heap.size w w5 := ⟨w4, rfl, undrew hb⟩
theorem after1 {w w4 : World} {c : Array Value} {t : TypeId} (hb : Below (w.alloc (.cells c t)).drew.heap.size (w.alloc (.cells c t)).drew w4) : ∃ w5, w4 = put w5 w.heap.size c ∧ Below w.heap.size w w5 ∧ Inb w.heap.size w5 := by
  have h := undrew hb
  have e1 := (h.block w.heap.size (by simp)).trans (heap_alloc_last w _)
  exact ⟨w4, (asput e1).symm, bt (by go_grown) h, by have := h.size; simp only [World.size_alloc] at this; unfold Inb; omega⟩
theorem after2 {w w4 : World} {c d : Array Value} {t u : TypeId} (hb : Below ((w.alloc (.cells c t)).alloc (.cells d u)).drew.heap.size ((w.alloc (.cells c t)).alloc (.cells d u)).drew w4) :
    ∃ w5, w4 = put (put w5 w.heap.size c) (w.heap.size + 1) d ∧ Below w.heap.size w w5 ∧ Inb w.heap.size w5 ∧ Inb (w.heap.size + 1) w5 := by
  have h := undrew hb
  have e1 : w4.heap[w.heap.size]? = some (.cells c t (0, 0)) := (h.block w.heap.size (by simp; omega)).trans (by
    show ((w.alloc (.cells c t)).heap.push _)[w.heap.size]? = _
    rw [Array.getElem?_push, if_neg (by simp)]; exact heap_alloc_last w _)
  have e2 : w4.heap[w.heap.size + 1]? = some (.cells d u (0, 0)) := (h.block (w.heap.size + 1) (by simp)).trans (by
    have := heap_alloc_last (w.alloc (.cells c t)) (.cells d u)
    simpa using this)
  have hs : w.heap.size + 2 ≤ w4.heap.size := by have := h.size; simp only [World.size_alloc] at this; omega
  refine ⟨w4, ?_, bt (by go_grown) h, by unfold Inb; omega, by unfold Inb; omega⟩
  rw [asput e1, asput e2]
end Go.Proofs.YtnaampdpkegacaaGreatDoor
