/-
  The work of the reference 12 as cells of a block; its machine (a cycle that lacks is remembered, and answered with 0), and what a call of it leaves. A helper of the claims that stand beside it. (Printed by wip/genrf.py.)
-/
import Derived.Test.YtnaampdpkegacaaGreatDoorhops

namespace Go.Proofs.YtnaampdpkegacaaGreatDoor
open Go.RowKit

/-- The reference's work, but for the answers. -/
structure QC where
  r : R
  plane : Int
  code : U8
  m : U16
  known : Bool
/-- How far the answers went. -/
structure Fd where
  at' : Nat
  lacks : Bool
  ask : Cyc
structure QS extends QC where
  fd : Fd
  gv : Value
  got : List U8

def QS.cells (s : QS) : Array Value := #[.int .u16 s.r.af.v, .int .u16 s.r.bc.v, .int .u16 s.r.de.v, .int .u16 s.r.hl.v, .int .u16 s.r.af2.v, .int .u16 s.r.bc2.v, .int .u16 s.r.de2.v, .int .u16 s.r.hl2.v, .int .u16 s.r.ix.v, .int .u16 s.r.iy.v, .int .u16 s.r.sp.v, .int .u16 s.r.pc.v, .int .u16 s.r.wz.v, .int .u8 s.r.i.v, .int .u8 s.r.r.v, .bool s.r.iff1, .bool s.r.iff2, .bool s.r.halted, .bool s.r.late, .int .i64 s.r.mode, s.gv, .int .i64 s.fd.at', .bool s.fd.lacks, .int .i64 s.fd.ask.kind, .int .u16 s.fd.ask.addr.v, .int .u8 s.fd.ask.data.v, .int .i64 s.fd.ask.t, .int .i64 s.plane, .int .u8 s.code.v, .int .u16 s.m.v, .bool s.known]
@[go_sem] theorem QS.get0 (s : QS) : s.cells[0]? = some (.int .u16 s.r.af.v) := rfl
@[go_sem] theorem QS.set0 (s : QS) (v : U16) : s.cells.setIfInBounds 0 (.int .u16 v.v) = QS.cells { s with r := { s.r with af := v } } := rfl
@[go_sem] theorem QS.get1 (s : QS) : s.cells[1]? = some (.int .u16 s.r.bc.v) := rfl
@[go_sem] theorem QS.set1 (s : QS) (v : U16) : s.cells.setIfInBounds 1 (.int .u16 v.v) = QS.cells { s with r := { s.r with bc := v } } := rfl
@[go_sem] theorem QS.get2 (s : QS) : s.cells[2]? = some (.int .u16 s.r.de.v) := rfl
@[go_sem] theorem QS.set2 (s : QS) (v : U16) : s.cells.setIfInBounds 2 (.int .u16 v.v) = QS.cells { s with r := { s.r with de := v } } := rfl
@[go_sem] theorem QS.get3 (s : QS) : s.cells[3]? = some (.int .u16 s.r.hl.v) := rfl
@[go_sem] theorem QS.set3 (s : QS) (v : U16) : s.cells.setIfInBounds 3 (.int .u16 v.v) = QS.cells { s with r := { s.r with hl := v } } := rfl
@[go_sem] theorem QS.get4 (s : QS) : s.cells[4]? = some (.int .u16 s.r.af2.v) := rfl
@[go_sem] theorem QS.set4 (s : QS) (v : U16) : s.cells.setIfInBounds 4 (.int .u16 v.v) = QS.cells { s with r := { s.r with af2 := v } } := rfl
@[go_sem] theorem QS.get5 (s : QS) : s.cells[5]? = some (.int .u16 s.r.bc2.v) := rfl
@[go_sem] theorem QS.set5 (s : QS) (v : U16) : s.cells.setIfInBounds 5 (.int .u16 v.v) = QS.cells { s with r := { s.r with bc2 := v } } := rfl
@[go_sem] theorem QS.get6 (s : QS) : s.cells[6]? = some (.int .u16 s.r.de2.v) := rfl
@[go_sem] theorem QS.set6 (s : QS) (v : U16) : s.cells.setIfInBounds 6 (.int .u16 v.v) = QS.cells { s with r := { s.r with de2 := v } } := rfl
@[go_sem] theorem QS.get7 (s : QS) : s.cells[7]? = some (.int .u16 s.r.hl2.v) := rfl
@[go_sem] theorem QS.set7 (s : QS) (v : U16) : s.cells.setIfInBounds 7 (.int .u16 v.v) = QS.cells { s with r := { s.r with hl2 := v } } := rfl
@[go_sem] theorem QS.get8 (s : QS) : s.cells[8]? = some (.int .u16 s.r.ix.v) := rfl
@[go_sem] theorem QS.set8 (s : QS) (v : U16) : s.cells.setIfInBounds 8 (.int .u16 v.v) = QS.cells { s with r := { s.r with ix := v } } := rfl
@[go_sem] theorem QS.get9 (s : QS) : s.cells[9]? = some (.int .u16 s.r.iy.v) := rfl
@[go_sem] theorem QS.set9 (s : QS) (v : U16) : s.cells.setIfInBounds 9 (.int .u16 v.v) = QS.cells { s with r := { s.r with iy := v } } := rfl
@[go_sem] theorem QS.get10 (s : QS) : s.cells[10]? = some (.int .u16 s.r.sp.v) := rfl
@[go_sem] theorem QS.set10 (s : QS) (v : U16) : s.cells.setIfInBounds 10 (.int .u16 v.v) = QS.cells { s with r := { s.r with sp := v } } := rfl
@[go_sem] theorem QS.get11 (s : QS) : s.cells[11]? = some (.int .u16 s.r.pc.v) := rfl
@[go_sem] theorem QS.set11 (s : QS) (v : U16) : s.cells.setIfInBounds 11 (.int .u16 v.v) = QS.cells { s with r := { s.r with pc := v } } := rfl
@[go_sem] theorem QS.get12 (s : QS) : s.cells[12]? = some (.int .u16 s.r.wz.v) := rfl
@[go_sem] theorem QS.set12 (s : QS) (v : U16) : s.cells.setIfInBounds 12 (.int .u16 v.v) = QS.cells { s with r := { s.r with wz := v } } := rfl
@[go_sem] theorem QS.get13 (s : QS) : s.cells[13]? = some (.int .u8 s.r.i.v) := rfl
@[go_sem] theorem QS.set13 (s : QS) (v : U8) : s.cells.setIfInBounds 13 (.int .u8 v.v) = QS.cells { s with r := { s.r with i := v } } := rfl
@[go_sem] theorem QS.get14 (s : QS) : s.cells[14]? = some (.int .u8 s.r.r.v) := rfl
@[go_sem] theorem QS.set14 (s : QS) (v : U8) : s.cells.setIfInBounds 14 (.int .u8 v.v) = QS.cells { s with r := { s.r with r := v } } := rfl
@[go_sem] theorem QS.get15 (s : QS) : s.cells[15]? = some (.bool s.r.iff1) := rfl
@[go_sem] theorem QS.set15 (s : QS) (v : Bool) : s.cells.setIfInBounds 15 (.bool v) = QS.cells { s with r := { s.r with iff1 := v } } := rfl
@[go_sem] theorem QS.get16 (s : QS) : s.cells[16]? = some (.bool s.r.iff2) := rfl
@[go_sem] theorem QS.set16 (s : QS) (v : Bool) : s.cells.setIfInBounds 16 (.bool v) = QS.cells { s with r := { s.r with iff2 := v } } := rfl
@[go_sem] theorem QS.get17 (s : QS) : s.cells[17]? = some (.bool s.r.halted) := rfl
@[go_sem] theorem QS.set17 (s : QS) (v : Bool) : s.cells.setIfInBounds 17 (.bool v) = QS.cells { s with r := { s.r with halted := v } } := rfl
@[go_sem] theorem QS.get18 (s : QS) : s.cells[18]? = some (.bool s.r.late) := rfl
@[go_sem] theorem QS.set18 (s : QS) (v : Bool) : s.cells.setIfInBounds 18 (.bool v) = QS.cells { s with r := { s.r with late := v } } := rfl
@[go_sem] theorem QS.get19 (s : QS) : s.cells[19]? = some (.int .i64 s.r.mode) := rfl
@[go_sem] theorem QS.set19 (s : QS) (v : Int) : s.cells.setIfInBounds 19 (.int .i64 v) = QS.cells { s with r := { s.r with mode := v } } := rfl
@[go_sem] theorem QS.get20 (s : QS) : s.cells[20]? = some (s.gv) := rfl
@[go_sem] theorem QS.set20 (s : QS) (v : Value) : s.cells.setIfInBounds 20 (v) = QS.cells { s with gv := v } := rfl
@[go_sem] theorem QS.get21 (s : QS) : s.cells[21]? = some (.int .i64 s.fd.at') := rfl
@[go_sem] theorem QS.set21 (s : QS) (v : Nat) : s.cells.setIfInBounds 21 (.int .i64 (v : Int)) = QS.cells { s with fd := { s.fd with at' := v } } := rfl
@[go_sem] theorem QS.step21 (s : QS) (v : Nat) : s.cells.setIfInBounds 21 (.int .i64 ((v : Int) + 1)) = QS.cells { s with fd := { s.fd with at' := v + 1 } } := rfl
@[go_sem] theorem QS.get22 (s : QS) : s.cells[22]? = some (.bool s.fd.lacks) := rfl
@[go_sem] theorem QS.set22 (s : QS) (v : Bool) : s.cells.setIfInBounds 22 (.bool v) = QS.cells { s with fd := { s.fd with lacks := v } } := rfl
@[go_sem] theorem QS.get23 (s : QS) : s.cells[23]? = some (.int .i64 s.fd.ask.kind) := rfl
@[go_sem] theorem QS.get24 (s : QS) : s.cells[24]? = some (.int .u16 s.fd.ask.addr.v) := rfl
@[go_sem] theorem QS.get25 (s : QS) : s.cells[25]? = some (.int .u8 s.fd.ask.data.v) := rfl
@[go_sem] theorem QS.get26 (s : QS) : s.cells[26]? = some (.int .i64 s.fd.ask.t) := rfl
@[go_sem] theorem QS.get27 (s : QS) : s.cells[27]? = some (.int .i64 s.plane) := rfl
@[go_sem] theorem QS.set27 (s : QS) (v : Int) : s.cells.setIfInBounds 27 (.int .i64 v) = QS.cells { s with plane := v } := rfl
@[go_sem] theorem QS.get28 (s : QS) : s.cells[28]? = some (.int .u8 s.code.v) := rfl
@[go_sem] theorem QS.set28 (s : QS) (v : U8) : s.cells.setIfInBounds 28 (.int .u8 v.v) = QS.cells { s with code := v } := rfl
@[go_sem] theorem QS.zero28 (s : QS) : s.cells.setIfInBounds 28 (.int .u8 0) = QS.cells { s with code := u8 0 } := rfl
@[go_sem] theorem QS.get29 (s : QS) : s.cells[29]? = some (.int .u16 s.m.v) := rfl
@[go_sem] theorem QS.set29 (s : QS) (v : U16) : s.cells.setIfInBounds 29 (.int .u16 v.v) = QS.cells { s with m := v } := rfl
@[go_sem] theorem QS.get30 (s : QS) : s.cells[30]? = some (.bool s.known) := rfl
@[go_sem] theorem QS.set30 (s : QS) (v : Bool) : s.cells.setIfInBounds 30 (.bool v) = QS.cells { s with known := v } := rfl
@[go_sem] theorem QS.size (s : QS) : s.cells.size = 31 := rfl
theorem QS.regs (s : QS) : s.cells.extract 0 20 = s.r.cells := by simp [R.cells, QS.cells]
theorem QS.lay (s : QS) (r : R) : ov s.cells 0 r.cells.toList = QS.cells { s with r := r } := by
  rw [R.list]
  simp only [ov, Nat.reduceAdd, QS.set0, QS.set1, QS.set2, QS.set3, QS.set4, QS.set5, QS.set6, QS.set7, QS.set8, QS.set9, QS.set10, QS.set11, QS.set12, QS.set13, QS.set14, QS.set15, QS.set16, QS.set17, QS.set18, QS.set19]
theorem QS.asked (s : QS) (c : Cyc) : ov s.cells 23 c.cells.toList = QS.cells { s with fd := { s.fd with ask := c } } := rfl
attribute [go_sem] QS.regs QS.lay QS.asked

/-- With answers, to the end: a cycle that lacks is remembered, and answered with 0. -/
def T.feed {α : Type} : T α → List U8 → Fd → α × Fd
  | .ret a, _, d => (a, d)
  | .ask c k, got, d => match d.lacks with
    | true => (k zero8).feed got d
    | false => match got[d.at']? with
      | none => (k zero8).feed got { d with lacks := true, ask := c }
      | some b => (k b).feed got { d with at' := d.at' + 1 }
theorem T.feed_bind {α β : Type} (f : α → T β) : ∀ (t : T α) (got : List U8) (d : Fd), (t.bind f).feed got d = (f (t.feed got d).1).feed got (t.feed got d).2
  | .ret _, _, _ => rfl
  | .ask c k, got, d => by
    simp only [T.bind, T.feed]
    cases d.lacks with
    | true => exact T.feed_bind f (k zero8) got d
    | false =>
      cases got[d.at']? with
      | none => exact T.feed_bind f (k zero8) got _
      | some b => exact T.feed_bind f (k b) got _
def QM (α : Type) : Type := QC → T (α × QC)
namespace QM
def ret {α : Type} (a : α) : QM α := fun s => .ret (a, s)
def bind {α β : Type} (m : QM α) (f : α → QM β) : QM β := fun s => (m s).bind fun p => f p.1 p.2
def get : QM QC := fun s => .ret (s, s)
def mod (f : QC → QC) : QM Unit := fun s => .ret ((), f s)
instance : Monad QM where
  pure := ret
  bind := bind
end QM
/-- On the whole state. -/
def runQ {α : Type} (m : QM α) (s : QS) : α × QS :=
  let p := (m s.toQC).feed s.got s.fd
  (p.1.1, { toQC := p.1.2, fd := p.2, gv := s.gv, got := s.got })
@[simp] theorem runQ_pure {α : Type} (a : α) (s : QS) : runQ (pure a : QM α) s = (a, s) := rfl
@[simp] theorem runQ_get (s : QS) : runQ QM.get s = (s.toQC, s) := rfl
@[simp] theorem runQ_mod (g : QC → QC) (s : QS) : runQ (QM.mod g) s = ((), { s with toQC := g s.toQC }) := rfl
@[simp] theorem runQ_bind {α β : Type} (m : QM α) (f : α → QM β) (s : QS) : runQ (m >>= f) s = runQ (f (runQ m s).1) (runQ m s).2 := by
  unfold runQ
  rw [show (m >>= f) s.toQC = (m s.toQC).bind fun p => f p.1 p.2 from rfl, T.feed_bind]
@[simp] theorem runQ_ite {α : Type} (p : Prop) [Decidable p] (m n : QM α) (s : QS) : runQ (if p then m else n) s = if p then runQ m s else runQ n s := by split <;> rfl
/-- The world beside the block: the block is there, and the answers. -/
structure QInv (B : Nat) (w : World) (gv : Value) (got : List U8) : Prop where
  inb : Inb B w
  hd : hdIs B w gv got
  len : got.length ≤ 4611686018427387903
theorem QInv.kept {B : Nat} {w w1 : World} {gv : Value} {got : List U8} (h : QInv B w gv got) (hb : Below w.heap.size w w1) : QInv B w1 gv got := ⟨h.inb.kept hb, h.hd.kept hb, h.len⟩
theorem QInv.drew {B : Nat} {w : World} {gv : Value} {got : List U8} (h : QInv B w gv got) : QInv B w.drew gv got := h.kept (Below.refl _ _).drew
/-- What a call leaves. -/
def QPost {α : Type} (B : Nat) (w : World) (enc : α → Value) (p : α × QS) (e : Ending) (w' : World) : Prop :=
  e = .returned (enc p.1) ∧ ∃ w1, w' = put w1 B p.2.cells ∧ Below w.heap.size w w1 ∧ QInv B w1 p.2.gv p.2.got
theorem QPost.thru {α : Type} {B : Nat} {w0 w : World} {enc : α → Value} {p : α × QS} {Q : Ending → World → Prop} (hb0 : Below w0.heap.size w0 w)
    (h : ∀ v s1 w1, p = (v, s1) → Below w0.heap.size w0 w1 → QInv B w1 s1.gv s1.got → Inb B w1 → Q (.returned (enc v)) (put w1 B s1.cells)) : ∀ e w', QPost B w enc p e w' → Q e w' := by
  rintro e w' ⟨rfl, w1, rfl, hb, hI⟩
  exact h p.1 p.2 w1 rfl (bt hb0 hb) hI hI.inb
theorem QPost.done {α : Type} {B : Nat} {w w1 : World} {enc : α → Value} {p : α × QS} {v : α} {s' : QS} {e : Ending} (hm : p = (v, s')) (he : e = .returned (enc v)) (hb : Below w.heap.size w w1) (hI : QInv B w1 s'.gv s'.got) : QPost B w enc p e (put w1 B s'.cells) := by
  subst hm; exact ⟨he, w1, rfl, hb, hI⟩
def cycleQ (c : Cyc) : QM U8 := fun s => .ask c fun b => .ret (b, s)
theorem cycleQ_lacks (c : Cyc) (s : QS) (h : s.fd.lacks = true) : runQ (cycleQ c) s = (zero8, s) := by
  simp only [runQ, cycleQ, T.feed, h]
theorem cycleQ_no (c : Cyc) (s : QS) (h : s.fd.lacks = false) (hn : s.got[s.fd.at']? = none) : runQ (cycleQ c) s = (zero8, { s with fd := { s.fd with lacks := true, ask := c } }) := by
  simp only [runQ, cycleQ, T.feed, h, hn]
theorem cycleQ_yes (c : Cyc) (s : QS) (x : U8) (h : s.fd.lacks = false) (hn : s.got[s.fd.at']? = some x) : runQ (cycleQ c) s = (x, { s with fd := { s.fd with at' := s.fd.at' + 1 } }) := by
  simp only [runQ, cycleQ, T.feed, h, hn]
end Go.Proofs.YtnaampdpkegacaaGreatDoor

namespace Go.Proofs.YtnaampdpkegacaaGreatDoor
open Go.RowKit

def tickQ : QM Unit := QM.mod fun s => { s with r := tickR s.r }
def fetchQ : QM U8 := do
  let s ← QM.get
  let b ← cycleQ ⟨1, s.r.pc, u8 0, 4⟩
  QM.mod fun s => { s with r := { s.r with pc := s.r.pc.inc 1 } }
  tickQ
  pure b
def statesQ (n : Int) : QM Unit := do
  let _ ← cycleQ ⟨7, u16 0, u8 0, n⟩
  pure ()
def readQ (a : U16) : QM U8 := do
  cycleQ ⟨2, a, u8 0, 3⟩
def writeQ (a : U16) (b : U8) : QM Unit := do
  let _ ← cycleQ ⟨3, a, b, 3⟩
  pure ()
def numberQ : QM U8 := do
  let s ← QM.get
  let b ← readQ s.r.pc
  QM.mod fun s => { s with r := { s.r with pc := s.r.pc.inc 1 } }
  pure b
def wordQ : QM U16 := do
  let lo ← numberQ
  let hi ← numberQ
  pure (hi.word lo)
def pushQ (x : U16) : QM Unit := do
  QM.mod fun s => { s with r := { s.r with sp := s.r.sp.inc (-1) } }
  let s ← QM.get
  writeQ s.r.sp x.hi
  QM.mod fun s => { s with r := { s.r with sp := s.r.sp.inc (-1) } }
  let s ← QM.get
  writeQ s.r.sp x.lo
def popQ : QM U16 := do
  let s ← QM.get
  let lo ← readQ s.r.sp
  QM.mod fun s => { s with r := { s.r with sp := s.r.sp.inc 1 } }
  let s ← QM.get
  let hi ← readQ s.r.sp
  QM.mod fun s => { s with r := { s.r with sp := s.r.sp.inc 1 } }
  pure (hi.word lo)
def putQ (a f : U8) : QM Unit := QM.mod fun s => { s with r := { s.r with af := a.word f } }
def QC.hl' (s : QC) : U16 := getP s.r s.plane 2
def setHlQ (x : U16) : QM Unit := QM.mod fun s => { s with r := setP s.r s.plane 2 x }
def whereQ : QM U16 := do
  let s ← QM.get
  if s.known then pure s.m else do
    QM.mod fun s => { s with known := true, m := s.r.hl }
    if s.plane = 3 ∨ s.plane = 4 then do
      let e ← numberQ
      statesQ 5
      QM.mod fun s => { s with m := s.hl'.mv (sgn e.v) }
      QM.mod fun s => { s with r := { s.r with wz := s.m } }
      let s ← QM.get
      pure s.m
    else do
      let s ← QM.get
      pure s.m
def thq (s : QC) : Int := if nearS s.plane s.code then 0 else s.plane
def getQ (k : Int) : QM U8 := do
  if k = 6 then do
    let a ← whereQ
    readQ a
  else do
    let s ← QM.get
    pure (getR s.r (thq s) k)
def setQ (k : Int) (b : U8) : QM Unit := do
  if k = 6 then do
    let a ← whereQ
    writeQ a b
  else QM.mod fun s => { s with r := setR s.r (thq s) k b }
def sumF (y : Int) (a f b : U8) : U8 × U8 :=
  if y = 0 then (oAdd a b false, oAddF a b false) else
  if y = 1 then (oAdd a b (bit 0 f.v), oAddF a b (bit 0 f.v)) else
  if y = 2 then (oSub a b false, oSubF a b false) else
  if y = 3 then (oSub a b (bit 0 f.v), oSubF a b (bit 0 f.v)) else
  if y = 4 then (oAnd a b, oAndF a b) else
  if y = 5 then (oXor a b, oXorF a b) else
  if y = 6 then (oOr a b, oOrF a b) else (a, oCmp a b)
def sumQ (y : Int) (b : U8) : QM Unit := do
  let s ← QM.get
  putQ (sumF y s.r.af.hi s.r.af.lo b).1 (sumF y s.r.af.hi s.r.af.lo b).2
def hopQ (is : Bool) : QM Unit := do
  let e ← numberQ
  if is then do
    statesQ 5
    QM.mod fun s => { s with r := { s.r with pc := s.r.pc.mv (sgn e.v) } }
    QM.mod fun s => { s with r := { s.r with wz := s.r.pc } }
  else pure ()
def lessQ : QM U8 := do
  let s ← QM.get
  QM.mod fun s => { s with r := { s.r with bc := (s.r.bc.hi.inc (-1)).word s.r.bc.lo } }
  pure (s.r.bc.hi.inc (-1))
def hopsQ (y : Int) : QM Unit := do
  if y = 0 then pure () else
  if y = 1 then QM.mod fun s => { s with r := swapR s.r } else
  if y = 2 then do
    statesQ 1
    let b ← lessQ
    hopQ (b.v != 0)
  else if y = 3 then hopQ true
  else do
    let s ← QM.get
    hopQ (tst s.r.af.lo.v (wrap64 (y - 4)))
def atQ (y : Int) : QM U16 := do
  let s ← QM.get
  if 3 < y then wordQ else if y = 2 ∨ y = 3 then pure s.r.de else pure s.r.bc
def storesQ (y : Int) : QM Unit := do
  let at' ← atQ y
  let s ← QM.get
  if y = 0 ∨ y = 2 ∨ y = 6 then do
    writeQ at' s.r.af.hi
    QM.mod fun s => { s with r := { s.r with wz := s.r.af.hi.word (at'.lo.inc 1) } }
  else do
    if y = 1 ∨ y = 3 ∨ y = 7 then do
      let b ← readQ at'
      let s ← QM.get
      putQ b s.r.af.lo
    else if y = 4 then do
      writeQ at' s.hl'.lo
      let s ← QM.get
      writeQ (at'.inc 1) s.hl'.hi
    else if y = 5 then do
      let lo ← readQ at'
      let hi ← readQ (at'.inc 1)
      setHlQ (hi.word lo)
    else pure ()
    QM.mod fun s => { s with r := { s.r with wz := at'.inc 1 } }
def stepQ (y z : Int) : QM Unit := do
  let b ← getQ y
  if y = 6 then statesQ 1 else pure ()
  let t ← QM.get
  putQ t.r.af.hi (if z = 5 then oDecF b t.r.af.lo else oIncF b t.r.af.lo)
  setQ y (if z = 5 then oDec b else oInc b)
def turnF (y : Int) (a f : U8) : U8 × U8 :=
  if y = 4 then (oDaa a f, oDaaF a f) else
  if y = 5 then (oCpl a, oCplF a f) else
  if y = 6 then (a, oScf a f) else
  if y = 7 then (a, oCcf a f) else (oAcc y a f, oAccF y a f)
def turnQ (y : Int) : QM Unit := do
  let s ← QM.get
  putQ (turnF y s.r.af.hi s.r.af.lo).1 (turnF y s.r.af.hi s.r.af.lo).2
def loadQ (y : Int) : QM Unit := do
  let s ← QM.get
  if y = 6 ∧ ¬ s.plane = 0 then do
    let e ← numberQ
    QM.mod fun s => { s with m := s.hl'.mv (sgn e.v) }
    QM.mod fun s => { s with known := true }
    QM.mod fun s => { s with r := { s.r with wz := s.m } }
    let b ← numberQ
    statesQ 2
    let s ← QM.get
    writeQ s.m b
  else do
    let b ← numberQ
    setQ y b
def lowQ (y z p q : Int) : QM Unit := do
  if z = 0 then hopsQ y else
  if z = 1 then do
    if q = 0 then do
      let x ← wordQ
      QM.mod fun s => { s with r := setP s.r s.plane p x }
    else do
      statesQ 7
      QM.mod fun s => { s with r := { s.r with wz := s.hl'.inc 1 } }
      let s ← QM.get
      setHlQ (oHAdd s.hl' (getP s.r s.plane p))
      let t ← QM.get
      putQ t.r.af.hi (oHAddF s.hl' (getP s.r s.plane p) s.r.af.lo)
  else if z = 2 then storesQ y
  else if z = 3 then do
    statesQ 2
    QM.mod fun s => { s with r := setP s.r s.plane p (if q = 0 then (getP s.r s.plane p).inc 1 else (getP s.r s.plane p).inc (-1)) }
  else if z = 4 ∨ z = 5 then stepQ y z
  else if z = 6 then loadQ y
  else turnQ y
def backQ : QM Unit := do
  let x ← popQ
  QM.mod fun s => { s with r := { s.r with pc := x } }
  QM.mod fun s => { s with r := { s.r with wz := s.r.pc } }
def callQ (is : Bool) : QM Unit := do
  let x ← wordQ
  QM.mod fun s => { s with r := { s.r with wz := x } }
  if is then do
    statesQ 1
    let s ← QM.get
    pushQ s.r.pc
    QM.mod fun s => { s with r := { s.r with pc := s.r.wz } }
  else pure ()
def popsQ (p q : Int) : QM Unit := do
  if q = 0 ∧ p = 3 then do
    let x ← popQ
    QM.mod fun s => { s with r := { s.r with af := x } }
  else if q = 0 then do
    let x ← popQ
    QM.mod fun s => { s with r := setP s.r s.plane p x }
  else if p = 0 then backQ
  else if p = 1 then QM.mod fun s => { s with r := exxR s.r }
  else if p = 2 then QM.mod fun s => { s with r := { s.r with pc := s.hl' } }
  else do
    statesQ 2
    QM.mod fun s => { s with r := { s.r with sp := s.hl' } }
def crossQ : QM Unit := do
  let s ← QM.get
  let lo ← readQ s.r.sp
  let s ← QM.get
  let hi ← readQ (s.r.sp.inc 1)
  statesQ 1
  let s ← QM.get
  writeQ (s.r.sp.inc 1) s.hl'.hi
  let s ← QM.get
  writeQ s.r.sp s.hl'.lo
  statesQ 2
  QM.mod fun s => { s with r := { s.r with wz := hi.word lo } }
  let s ← QM.get
  setHlQ s.r.wz
def portsQ (y : Int) : QM Unit := do
  if y = 0 then do
    let x ← wordQ
    QM.mod fun s => { s with r := { s.r with pc := x } }
    QM.mod fun s => { s with r := { s.r with wz := s.r.pc } }
  else if y = 2 then do
    let n ← numberQ
    let s ← QM.get
    let _ ← cycleQ ⟨5, s.r.af.hi.word n, s.r.af.hi, 4⟩
    QM.mod fun s => { s with r := { s.r with wz := s.r.af.hi.word (n.inc 1) } }
  else if y = 3 then do
    let n ← numberQ
    let s ← QM.get
    let b ← cycleQ ⟨4, s.r.af.hi.word n, u8 0, 4⟩
    let t ← QM.get
    putQ b t.r.af.lo
    QM.mod fun t => { t with r := { t.r with wz := (s.r.af.hi.word n).inc 1 } }
  else if y = 4 then crossQ
  else if y = 5 then QM.mod fun s => { s with r := { s.r with de := s.r.hl, hl := s.r.de } }
  else if y = 6 then QM.mod fun s => { s with r := { s.r with iff1 := false, iff2 := false } }
  else if y = 7 then QM.mod fun s => { s with r := { s.r with iff1 := true, iff2 := true, late := true } }
  else pure ()
def highQ (y z p q : Int) : QM Unit := do
  let s ← QM.get
  if z = 0 then do
    statesQ 1
    if tst s.r.af.lo.v y then backQ else pure ()
  else if z = 1 then popsQ p q
  else if z = 2 then do
    let x ← wordQ
    QM.mod fun s => { s with r := { s.r with wz := x } }
    if tst s.r.af.lo.v y then QM.mod fun s => { s with r := { s.r with pc := s.r.wz } } else pure ()
  else if z = 3 then portsQ y
  else if z = 4 then callQ (tst s.r.af.lo.v y)
  else if z = 5 then do
    if q = 1 then callQ true
    else do
      statesQ 1
      let s ← QM.get
      pushQ (if p = 3 then s.r.af else getP s.r s.plane p)
  else if z = 6 then do
    let b ← numberQ
    sumQ y b
  else do
    statesQ 1
    let s ← QM.get
    pushQ s.r.pc
    QM.mod fun s => { s with r := { s.r with pc := u16 (8 * y) } }
    QM.mod fun s => { s with r := { s.r with wz := s.r.pc } }
def plainQ (plane : Int) (c : U8) : QM Unit := do
  QM.mod fun s => { s with plane := plane }
  QM.mod fun s => { s with code := c }
  if fx c = 0 then lowQ (fy c) (fz c) (fy c / 2) (fy c % 2)
  else if fx c = 1 then do
    if fy c = 6 ∧ fz c = 6 then QM.mod fun s => { s with r := { s.r with halted := true } }
    else do
      let b ← getQ (fz c)
      setQ (fy c) b
  else if fx c = 2 then do
    let b ← getQ (fz c)
    sumQ (fy c) b
  else highQ (fy c) (fz c) (fy c / 2) (fy c % 2)
def bitQ (far : Bool) (c : U8) : QM Unit := do
  QM.mod fun s => { s with plane := 0 }
  QM.mod fun s => { s with code := u8 0 }
  let k := if far then 6 else fz c
  let b ← getQ k
  if k = 6 then statesQ 1 else pure ()
  let t ← QM.get
  let lines := if k = 6 then t.r.wz.hi else b
  if fx c = 1 then putQ t.r.af.hi (oBit (fy c) b lines t.r.af.lo)
  else do
    if fx c = 0 then putQ t.r.af.hi (oDoF (fy c) b t.r.af.lo) else pure ()
    let d := if fx c = 0 then oDo (fy c) b t.r.af.lo else oWith b (fy c) (fx c != 2)
    setQ k d
    if far && fz c != 6 then setQ (fz c) d else pure ()
def wordsQ (p q : Int) : QM Unit := do
  let a ← wordQ
  let s ← QM.get
  if q = 0 then do
    writeQ a (getP s.r 0 p).lo
    writeQ (a.inc 1) (getP s.r 0 p).hi
  else do
    let lo ← readQ a
    let hi ← readQ (a.inc 1)
    QM.mod fun s => { s with r := setP s.r 0 p (hi.word lo) }
  QM.mod fun s => { s with r := { s.r with wz := a.inc 1 } }
/-- The flags of a register that is read into A. -/
def oIr (b : U8) (iff : Bool) (c : Bool) : U8 := ⟨mk (bit 7 b.v) (decide (b.v = 0)) (bit 5 b.v) false (bit 3 b.v) iff false c, (mk_range _ _ _ _ _ _ _ _).1, (mk_range _ _ _ _ _ _ _ _).2⟩
def oddQ (y : Int) : QM Unit := do
  if y < 4 then statesQ 1 else pure ()
  if y = 0 then QM.mod fun s => { s with r := { s.r with i := s.r.af.hi } }
  else if y = 1 then QM.mod fun s => { s with r := { s.r with r := s.r.af.hi } }
  else if y = 2 ∨ y = 3 then do
    let t ← QM.get
    let b := if y = 3 then t.r.r else t.r.i
    putQ b (oIr b t.r.iff2 (bit 0 t.r.af.lo.v))
  else if y = 4 ∨ y = 5 then do
    let s ← QM.get
    let b ← readQ s.r.hl
    statesQ 4
    let t ← QM.get
    writeQ t.r.hl (oDigB (y == 4) t.r.af.hi b)
    putQ (oDigA (y == 4) t.r.af.hi b) (oDigF (y == 4) t.r.af.hi b t.r.af.lo)
    QM.mod fun s => { s with r := { s.r with wz := s.r.hl.inc 1 } }
  else pure ()
def blk0Q (n : Int) : QM U8 := do
  let s ← QM.get
  let b ← readQ s.r.hl
  let t ← QM.get
  writeQ t.r.de b
  statesQ 2
  QM.mod fun s => { s with r := { s.r with de := s.r.de.mv n } }
  QM.mod fun s => { s with r := { s.r with bc := s.r.bc.inc (-1) } }
  let t ← QM.get
  QM.mod fun s => { s with r := { s.r with hl := s.r.hl.mv n } }
  pure (oMo t.r.af.hi b t.r.bc.nz t.r.af.lo)
def blk1Q (n : Int) : QM U8 := do
  let s ← QM.get
  let b ← readQ s.r.hl
  statesQ 5
  QM.mod fun s => { s with r := { s.r with wz := s.r.wz.mv n } }
  QM.mod fun s => { s with r := { s.r with bc := s.r.bc.inc (-1) } }
  let t ← QM.get
  QM.mod fun s => { s with r := { s.r with hl := s.r.hl.mv n } }
  pure (oFi t.r.af.hi b t.r.bc.nz t.r.af.lo)
def blk2Q (n : Int) : QM U8 := do
  statesQ 1
  let t ← QM.get
  let b ← cycleQ ⟨4, t.r.bc, u8 0, 4⟩
  QM.mod fun s => { s with r := { s.r with wz := s.r.bc.mv n } }
  let left ← lessQ
  let t ← QM.get
  writeQ t.r.hl b
  QM.mod fun s => { s with r := { s.r with hl := s.r.hl.mv n } }
  let t ← QM.get
  pure (oTake b t.r.bc.lo left n)
def blk3Q (n : Int) : QM U8 := do
  statesQ 1
  let t ← QM.get
  let b ← readQ t.r.hl
  let left ← lessQ
  QM.mod fun s => { s with r := { s.r with wz := s.r.bc.mv n } }
  let t ← QM.get
  let _ ← cycleQ ⟨5, t.r.bc, b, 4⟩
  QM.mod fun s => { s with r := { s.r with hl := s.r.hl.mv n } }
  let t ← QM.get
  pure (oGive b t.r.hl.lo left)
def byQ (y : Int) : Int := if y % 2 = 1 then -1 else 1
def blockQ (y z : Int) : QM Unit := do
  let f ← if z = 0 then blk0Q (byQ y) else if z = 1 then blk1Q (byQ y) else if z = 2 then blk2Q (byQ y) else blk3Q (byQ y)
  let t ← QM.get
  putQ t.r.af.hi f
  if 5 < y ∧ agS z f.v = true then do
    statesQ 5
    QM.mod fun s => { s with r := { s.r with pc := s.r.pc.inc (-2) } }
    if z < 2 then QM.mod fun s => { s with r := { s.r with wz := s.r.pc.inc 1 } } else pure ()
  else pure ()
/-- The mode that an ED code tells. -/
def modeQ (y : Int) : Int := if y % 4 = 2 then 1 else if y % 4 = 3 then 2 else 0
def edmQ (y z p q : Int) : QM Unit := do
  let s ← QM.get
  if z = 0 then do
    let b ← cycleQ ⟨4, s.r.bc, u8 0, 4⟩
    QM.mod fun s => { s with r := { s.r with wz := s.r.bc.inc 1 } }
    let t ← QM.get
    putQ t.r.af.hi (oWith (oEven b) 0 (bit 0 t.r.af.lo.v))
    if y = 6 then pure () else setQ y b
  else if z = 1 then do
    let b ← if y = 6 then pure (u8 0) else getQ y
    let t ← QM.get
    let _ ← cycleQ ⟨5, t.r.bc, b, 4⟩
    QM.mod fun s => { s with r := { s.r with wz := s.r.bc.inc 1 } }
  else if z = 2 then do
    statesQ 7
    QM.mod fun s => { s with r := { s.r with wz := s.r.hl.inc 1 } }
    let t ← QM.get
    let x := getP t.r 0 p
    QM.mod fun t => { t with r := { t.r with hl := if q = 1 then oAdc t.r.hl x t.r.af.lo else oSbc t.r.hl x t.r.af.lo } }
    let u ← QM.get
    putQ u.r.af.hi (if q = 1 then oAdcF t.r.hl x t.r.af.lo else oSbcF t.r.hl x t.r.af.lo)
  else if z = 3 then wordsQ p q
  else if z = 4 then putQ (oNeg s.r.af.hi) (oNegF s.r.af.hi)
  else if z = 5 then do
    backQ
    QM.mod fun s => { s with r := { s.r with iff1 := s.r.iff2 } }
  else if z = 6 then QM.mod fun s => { s with r := { s.r with mode := modeQ y } }
  else oddQ y
def edQ (c : U8) : QM Unit := do
  if fx c = 2 ∧ fz c < 4 ∧ 3 < fy c then blockQ (fy c) (fz c)
  else if fx c = 1 then edmQ (fy c) (fz c) (fy c / 2) (fy c % 2)
  else pure ()
def restQ (plane : Int) (b : U8) : QM Unit := do
  if b.v = 237 then do
    let c ← fetchQ
    QM.mod fun s => { s with plane := 0 }
    QM.mod fun s => { s with code := u8 0 }
    edQ c
  else if b.v = 203 then do
    if plane = 0 then do
      let c ← fetchQ
      bitQ false c
    else do
      QM.mod fun s => { s with plane := plane }
      let e ← numberQ
      QM.mod fun s => { s with m := s.hl'.mv (sgn e.v) }
      QM.mod fun s => { s with known := true }
      QM.mod fun s => { s with r := { s.r with wz := s.m } }
      let c ← numberQ
      statesQ 2
      bitQ true c
  else plainQ plane b
def prefQ : Nat → Int → U8 → QM (Int × U8)
  | 0, p, b => pure (p, b)
  | n + 1, p, b => if b.v = 221 ∨ b.v = 253 then do
      let c ← fetchQ
      prefQ n (if b.v = 253 then 4 else 3) c
    else pure (p, b)
def firstQ (n : Nat) (b : U8) : QM Unit := do
  let q ← prefQ n 0 b
  restQ q.1 q.2
def nextQ (n : Nat) (h : Bool) : QM Unit := do
  if h then do
    let s ← QM.get
    let _ ← cycleQ ⟨1, s.r.pc, u8 0, 4⟩
    tickQ
  else do
    QM.mod fun s => { s with r := { s.r with late := false } }
    let b ← fetchQ
    firstQ n b
def afterQ (n : Nat) (b : U8) : QM Unit := do
  QM.mod fun s => { s with r := { s.r with late := false } }
  firstQ n b
end Go.Proofs.YtnaampdpkegacaaGreatDoor
