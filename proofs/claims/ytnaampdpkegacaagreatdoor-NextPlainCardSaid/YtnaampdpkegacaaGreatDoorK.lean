/-
  The work of next as a machine of its own (a cycle that is not answered ends it), what a call of it leaves, and the contracts of its cycles. A helper of the claim that stands beside it.
-/
import Derived.Test.YtnaampdpkegacaaGreatDoorJ
namespace Go.Proofs.YtnaampdpkegacaaGreatDoor
open Go.RowKit

/-- A cycle that is asked for. -/
@[ext] structure Cyc where
  kind : Int
  addr : U16
  data : U8
  t : Int
def Cyc.cells (c : Cyc) : Array Value := #[.int .i64 c.kind, .int .u16 c.addr.v, .int .u8 c.data.v, .int .i64 c.t]
def asked (c : Cyc) : List PanicEntry := [{ v := .iface 68 (.agg c.cells), recovered := false }]
/-- What asks for cycles: to its end, or on behind an answer. -/
inductive T (α : Type) : Type where
  | ret (a : α) : T α
  | ask (c : Cyc) (k : U8 → T α) : T α
namespace T
def bind {α β : Type} : T α → (α → T β) → T β
  | .ret a, f => f a
  | .ask c k, f => .ask c fun b => (k b).bind f
/-- With answers: to its end, with what is left of them, or to a cycle that is not answered. -/
def exec {α : Type} : T α → List U8 → Except Cyc (α × List U8)
  | .ret a, l => .ok (a, l)
  | .ask c _, [] => .error c
  | .ask _ k, b :: l => (k b).exec l
theorem exec_bind {α β : Type} (f : α → T β) : ∀ (t : T α) (l : List U8), (t.bind f).exec l = match t.exec l with | .error c => .error c | .ok p => (f p.1).exec p.2
  | .ret _, _ => rfl
  | .ask _ _, [] => rfl
  | .ask _ k, b :: l => exec_bind f (k b) l
end T
/-- The slice's value behind so many answers. -/
def tl : Value → Value
  | .slice (some a) n c => if c = 1 then .slice (some a) (n - 1) 0 else .slice (some ⟨a.block, a.off + 1, none⟩) (n - 1) (c - 1)
  | v => v
def tls : Nat → Value → Value
  | 0, v => v
  | n + 1, v => tls n (tl v)
theorem tls_add (a b : Nat) (v : Value) : tls (a + b) v = tls b (tls a v) := by
  induction a generalizing v with
  | zero => rw [Nat.zero_add]; rfl
  | succ n ih => rw [Nat.succ_add]; exact ih (tl v)
theorem T.exec_len {α : Type} : ∀ (t : T α) (l : List U8) (a : α) (l' : List U8), t.exec l = .ok (a, l') → l'.length ≤ l.length
  | .ret _, _, _, _, h => by cases h; exact Nat.le_refl _
  | .ask _ _, [], _, _, h => by cases h
  | .ask _ k, b :: l, a, l', h => Nat.le_succ_of_le (exec_len (k b) l a l' h)
/-- What works on the state, and asks for cycles. -/
def PM (α : Type) : Type := CS → T (α × CS)
namespace PM
def ret {α : Type} (a : α) : PM α := fun s => .ret (a, s)
def bind {α β : Type} (m : PM α) (f : α → PM β) : PM β := fun s => (m s).bind fun p => f p.1 p.2
def get : PM CS := fun s => .ret (s, s)
def mod (f : CS → CS) : PM Unit := fun s => .ret ((), f s)
instance : Monad PM where
  pure := ret
  bind := bind
end PM
/-- On the whole state. -/
def run {α : Type} (m : PM α) (s : PS) : Except Cyc (α × PS) := match (m s.toCS).exec s.got with
  | .error c => .error c
  | .ok p => .ok (p.1.1, { toCS := p.1.2, got := p.2, gv := tls (s.got.length - p.2.length) s.gv })
@[simp] theorem run_pure {α : Type} (a : α) (s : PS) : run (pure a : PM α) s = .ok (a, s) := by
  show Except.ok (a, ({ toCS := s.toCS, got := s.got, gv := tls (s.got.length - s.got.length) s.gv } : PS)) = _
  rw [Nat.sub_self]; rfl
@[simp] theorem run_get (s : PS) : run PM.get s = .ok (s.toCS, s) := run_pure s.toCS s
@[simp] theorem run_mod (g : CS → CS) (s : PS) : run (PM.mod g) s = .ok ((), { s with toCS := g s.toCS }) := by
  show Except.ok ((), ({ toCS := g s.toCS, got := s.got, gv := tls (s.got.length - s.got.length) s.gv } : PS)) = _
  rw [Nat.sub_self]; rfl
@[simp] theorem run_bind {α β : Type} (m : PM α) (f : α → PM β) (s : PS) : run (m >>= f) s = match run m s with | .error c => .error c | .ok p => run (f p.1) p.2 := by
  show (match ((m s.toCS).bind fun p => f p.1 p.2).exec s.got with | .error c => _ | .ok p => _) = _
  rw [T.exec_bind]
  unfold run
  cases h : (m s.toCS).exec s.got with
  | error c => rfl
  | ok p =>
    obtain ⟨⟨a, c⟩, l⟩ := p
    have hl := T.exec_len _ _ _ _ h
    simp only
    cases h2 : (f a c).exec l with
    | error c => rfl
    | ok q =>
      obtain ⟨⟨b, d⟩, l2⟩ := q
      have hl2 := T.exec_len _ _ _ _ h2
      simp only
      rw [show s.got.length - l2.length = (s.got.length - l.length) + (l.length - l2.length) by omega, tls_add]
@[simp] theorem run_ite {α : Type} (p : Prop) [Decidable p] (m n : PM α) (s : PS) : run (if p then m else n) s = if p then run m s else run n s := by split <;> rfl

/-- The answers that are left, and where they lie. -/
def hdIs (B : Nat) (w : World) (gv : Value) (got : List U8) : Prop :=
  (∃ a c, gv = .slice a 0 c ∧ got = []) ∨ ∃ b o c, gv = .slice (some ⟨b, o, none⟩) got.length c ∧ got.length ≤ c ∧ b ≠ B ∧ b < w.heap.size ∧ ∀ (j : Nat) (v : U8), got[j]? = some v → w.cell? ⟨b, o + j, none⟩ = some (.int .u8 v.v)
/-- The package-level variable logic.right, as it is laid. -/
def Lg (w : World) : Prop := blk w 0 = #[.int .u8 0, .int .u8 6, .int .u8 96, .int .u8 102]
theorem Lg.lt {w : World} (h : Lg w) : 0 < w.heap.size := by
  unfold Lg blk at h
  cases e : w.heap[0]? with
  | none => rw [e] at h; simp at h
  | some o => exact (Array.getElem?_eq_some_iff.1 e).1
theorem Lg.kept {w w1 : World} (h : Lg w) (hb : Below w.heap.size w w1) : Lg w1 := by
  unfold Lg blk
  rw [hb.block _ h.lt]
  exact h
theorem Lg.cell {w : World} (h : Lg w) : w.cell? ⟨0, 0, none⟩ = some (.int .u8 0) ∧ w.cell? ⟨0, 1, none⟩ = some (.int .u8 6) ∧ w.cell? ⟨0, 2, none⟩ = some (.int .u8 96) ∧ w.cell? ⟨0, 3, none⟩ = some (.int .u8 102) := by
  unfold Lg at h
  simp only [cell_blk, h]
  exact ⟨rfl, rfl, rfl, rfl⟩
structure Inv (B : Nat) (w : World) (gv : Value) (got : List U8) : Prop where
  inb : Inb B w
  hd : hdIs B w gv got
  lg : Lg w
  off : ¬ 0 = B
theorem Inb.kept {B : Nat} {w w1 : World} (h : Inb B w) (hb : Below w.heap.size w w1) : Inb B w1 := Nat.lt_of_lt_of_le h hb.size
theorem hdIs.kept {B : Nat} {w w1 : World} {gv : Value} {got : List U8} (h : hdIs B w gv got) (hb : Below w.heap.size w w1) : hdIs B w1 gv got := by
  rcases h with h | ⟨b, o, c, h1, h2, h3, h4, h5⟩
  · exact .inl h
  · refine .inr ⟨b, o, c, h1, h2, h3, Nat.lt_of_lt_of_le h4 hb.size, fun j v hj => ?_⟩
    rw [hb.cell (p := ⟨b, o + j, none⟩) h4]; exact h5 j v hj
theorem Inv.kept {B : Nat} {w w1 : World} {gv : Value} {got : List U8} (h : Inv B w gv got) (hb : Below w.heap.size w w1) : Inv B w1 gv got := ⟨h.inb.kept hb, h.hd.kept hb, h.lg.kept hb, h.off⟩
/-- What a call leaves. -/
def Post {α : Type} (B : Nat) (w : World) (enc : α → Value) (m : Except Cyc (α × PS)) (e : Ending) (w' : World) : Prop :=
  match m with
  | .error c => e = .panicked (asked c) ∧ ∃ s1 w1, w' = put w1 B (PS.cells s1) ∧ Below w.heap.size w w1 ∧ Inb B w1
  | .ok (v, s') => e = .returned (enc v) ∧ ∃ w1, w' = put w1 B s'.cells ∧ Below w.heap.size w w1 ∧ Inv B w1 s'.gv s'.got
theorem Post.two {α : Type} {B : Nat} {w : World} {enc : α → Value} {m : Except Cyc (α × PS)} {Q : Ending → World → Prop}
    (h1 : ∀ c s1 w1, m = .error c → Below w.heap.size w w1 → Inb B w1 → Q (.panicked (asked c)) (put w1 B (PS.cells s1)))
    (h2 : ∀ v s' w1, m = .ok (v, s') → Below w.heap.size w w1 → Inv B w1 s'.gv s'.got → Inb B w1 → Q (.returned (enc v)) (put w1 B s'.cells)) : ∀ e w', Post B w enc m e w' → Q e w' := by
  intro e w' h
  unfold Post at h
  cases m with
  | error c => obtain ⟨rfl, s1, w1, rfl, hb, hi⟩ := h; exact h1 c s1 w1 rfl hb hi
  | ok p => obtain ⟨v, s'⟩ := p; obtain ⟨rfl, w1, rfl, hb, hi⟩ := h; exact h2 v s' w1 rfl hb hi hi.inb
theorem Post.err {α : Type} {B : Nat} {w w1 : World} {enc : α → Value} {m : Except Cyc (α × PS)} {c : Cyc} (s1 : PS) (hm : m = .error c) (hb : Below w.heap.size w w1) (hi : Inb B w1) : Post B w enc m (.panicked (asked c)) (put w1 B s1.cells) := by
  subst hm; exact ⟨rfl, s1, w1, rfl, hb, hi⟩
theorem Post.done {α : Type} {B : Nat} {w w1 : World} {enc : α → Value} {m : Except Cyc (α × PS)} {v : α} {s' : PS} {e : Ending} (hm : m = .ok (v, s')) (he : e = .returned (enc v)) (hb : Below w.heap.size w w1) (hi : Inv B w1 s'.gv s'.got) : Post B w enc m e (put w1 B s'.cells) := by
  subst hm; exact ⟨he, w1, rfl, hb, hi⟩
def eU (_ : Unit) : Value := .tuple #[]
def e8 (x : U8) : Value := .int .u8 x.v
def e16 (x : U16) : Value := .int .u16 x.v

/-! Cycles. -/
def cycleS (c : Cyc) : PM U8 := fun s => .ask c fun b => .ret (b, s)
theorem run_cycle_no (c : Cyc) (s : PS) (h : s.got = []) : run (cycleS c) s = .error c := by
  unfold run cycleS; rw [h]; rfl
theorem run_cycle_yes (c : Cyc) (s : PS) (x : U8) (l : List U8) (h : s.got = x :: l) : run (cycleS c) s = .ok (x, { s with got := l, gv := tl s.gv }) := by
  unfold run cycleS; rw [h]
  show Except.ok (x, ({ toCS := s.toCS, got := l, gv := tls (l.length + 1 - l.length) s.gv } : PS)) = _
  rw [show l.length + 1 - l.length = 1 by omega]; rfl
theorem Inb.ne {B : Nat} {w : World} (h : Inb B w) : ¬ w.heap.size = B := fun e => by have h : B < w.heap.size := h; omega
theorem cycle_ (B : Nat) (c : Cyc) (s : PS) (w : World) (hI : Inv B w s.gv s.got) : Calls Tryz.prog 22 #[.pointer (some ⟨B, 0, none⟩), .agg #[.int .i64 c.kind, .int .u16 c.addr.v, .int .u8 c.data.v, .int .i64 c.t]] (put w B s.cells) (Post B w e8 (run (cycleS c) s)) := by
  have hB := hI.inb
  have hn := hB.ne
  rcases hI.hd with ⟨a, n, hg, hs⟩ | ⟨b, o, n, hg, hn, hne, hlt, hc⟩
  · have hm := run_cycle_no c s hs
    generalize hM : run (cycleS c) s = M at hm ⊢
    have hm' := Lib.hid hm
    clear hm hs
    go_enter Tryz.func22, Tryz.ntmps22
    go_wp2
    have hb : Below w.heap.size w (w.alloc (.cells c.cells 28)) := by go_grown
    exact ⟨rfl, Post.err s hm'.out hb (hB.kept hb)⟩
  · cases hs : s.got with
    | nil =>
      rw [hs] at hg
      have hm := run_cycle_no c s hs
      generalize hM : run (cycleS c) s = M at hm ⊢
      have hm' := Lib.hid hm
      clear hm hs hM hc
      simp only [List.length_nil] at hg
      go_enter Tryz.func22, Tryz.ntmps22
      go_wp2
      have hb : Below w.heap.size w (w.alloc (.cells c.cells 28)) := by go_grown
      exact ⟨rfl, Post.err s hm'.out hb (hB.kept hb)⟩
    | cons x l =>
      have hm := run_cycle_yes c s x l hs
      have hx : w.cell? ⟨b, o, none⟩ = some (.int .u8 x.v) := hc 0 x (by rw [hs]; rfl)
      have hg2 : s.gv = .slice (some ⟨b, o, none⟩) (l.length + 1) n := by rw [hg, hs]; rfl
      have hn2 : l.length + 1 ≤ n := by rw [hs] at hn; exact hn
      generalize hM : run (cycleS c) s = M at hm ⊢
      have hm' := Lib.hid hm
      have hc' := Lib.hid hc
      have hs' := Lib.hid hs
      clear hm hs hM hg hc hn
      go_enter Tryz.func22, Tryz.ntmps22
      have hb : Below w.heap.size w (w.alloc (.cells c.cells 28)) := by go_grown
      go_wp2
      · go_ret
        have ht : tl s.gv = .slice (some ⟨b, o, none⟩) l.length 0 := by rw [hg2]; unfold tl; exact if_pos (by assumption)
        rw [ht] at hm'
        refine Post.done (s' := { s with got := l, gv := .slice (some ⟨b, o, none⟩) l.length 0 }) hm'.out rfl hb ⟨hB.kept hb, ?_, hI.lg.kept hb, hI.off⟩
        have : l = [] := List.eq_nil_of_length_eq_zero (by omega)
        subst this
        exact .inl ⟨_, _, rfl, rfl⟩
      · go_ret
        have ht : tl s.gv = .slice (some ⟨b, o + 1, none⟩) l.length (n - 1) := by rw [hg2]; unfold tl; exact if_neg (by assumption)
        rw [ht] at hm'
        refine Post.done (s' := { s with got := l, gv := .slice (some ⟨b, o + 1, none⟩) l.length (n - 1) }) hm'.out rfl hb ⟨hB.kept hb, .inr ⟨b, o + 1, n - 1, rfl, ?_, hne, ?_, ?_⟩, hI.lg.kept hb, hI.off⟩
        · simp only; omega
        · exact Nat.lt_of_lt_of_le hlt hb.size
        · intro j v hj
          refine (hb.cell (p := ⟨b, o + 1 + j, none⟩) hlt).trans ?_
          rw [show o + 1 + j = o + (j + 1) by omega]
          exact hc'.out (j + 1) v (by rw [hs'.out]; exact hj)
theorem blk_heap {w : World} {n : Nat} {c : Array Value} (h : blk w n = c) (hc : 0 < c.size) : ∃ t fr, w.heap[n]? = some (.cells c t fr) := by
  unfold blk at h
  cases e : w.heap[n]? with
  | none => rw [e] at h; subst h; simp at hc
  | some o =>
    rw [e] at h
    cases o with
    | cells c' t fr => exact ⟨t, fr, by rw [← h]⟩
    | _ => subst h; simp at hc
theorem ret_regs {fn : Func} {p : Tmp} {Q : Ending → World → Prop} {a : Act} {w : World} (hr : fn.results = #[.cell p 24]) (n : Nat) (hp : a.tmps.getD p undef = .pointer (some ⟨n, 0, none⟩)) (r : R) (hbk : blk w n = r.cells) (hd : a.defers = [])
    (h : Q (.returned (.agg r.cells)) w) : bodyPost Tryz.prog fn Q .ret a w := by
  obtain ⟨t, fr, hg⟩ := blk_heap hbk (by rw [R.size]; decide)
  refine bodyPost_ret (results_cell_row hr a.tmps w n t r.cells fr _ hp hg Tryz.underlying24 rfl ?_) hd h
  kernel_rfl
def tk (x : U8) : U8 := ⟨x.v / 128 * 128 + (x.v + 1) % 128, by have := x.h0; omega, by have := x.h1; omega⟩
theorem tick_bits (x : U8) : bits .or .u8 (bits .andNot .u8 x.v 127) (bits .and .u8 ((x.v + 1) % 256) 127) = (tk x).v := by
  have h : ∀ n : Fin 256, bits .or .u8 (bits .andNot .u8 (n.val : Int) 127) (bits .and .u8 (((n.val : Int) + 1) % 256) 127) = (n.val : Int) / 128 * 128 + ((n.val : Int) + 1) % 128 := by decide +kernel
  obtain ⟨v, h0, h1⟩ := x
  have := h ⟨v.toNat, by omega⟩
  simp only [Int.toNat_of_nonneg h0] at this
  exact this
def tickR (r : R) : R := { r with r := tk r.r }
set_option maxRecDepth 5000 in
theorem tickreg_ (r : R) (w : World) : Calls Tryz.prog 41 #[.agg r.cells, .int .i64 1] w fun e w' => e = .returned (.agg (tickR r).cells) ∧ Below w.heap.size w w' := by
  have tb := tick_bits r.r
  go_enter Tryz.func41, Tryz.ntmps41
  go_wp2
  refine ret_regs rfl (w.heap.size + 1) rfl (tickR r) ?_ rfl ⟨rfl, by go_grown⟩
  simp [go_sem, tickR]
def tickS : PM Unit := PM.mod fun s => { s with r := tickR s.r }
theorem tick_ (B : Nat) (s : PS) (w : World) (hI : Inv B w s.gv s.got) : Calls Tryz.prog 23 #[.pointer (some ⟨B, 0, none⟩)] (put w B s.cells) (Post B w eU (run tickS s)) := by
  have hB := hI.inb
  go_enter Tryz.func23, Tryz.ntmps23
  go_wp2_with (go_at_call 41; refine (tickreg_ _ _).mono ?_; rintro e w1 ⟨rfl, hb⟩; obtain ⟨w2, rfl, hb2⟩ := unput hB hb; have hB2 := hB.kept hb2)
  exact bodyPost_end (results_none rfl _ _ _) rfl (Post.done (v := ()) (run_mod _ _) rfl hb2 (hI.kept hb2))
end Go.Proofs.YtnaampdpkegacaaGreatDoor
