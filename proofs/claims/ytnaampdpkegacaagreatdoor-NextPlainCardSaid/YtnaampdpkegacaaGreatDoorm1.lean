/-
  Cycles and registers compared. A helper of the claim that stands beside it.
-/
import Derived.Laws.StructEq
import Derived.Test.YtnaampdpkegacaaGreatDoorl1
namespace Go.Proofs.YtnaampdpkegacaaGreatDoor
open Go.RowKit

def eqC (a b : Cyc) : Bool := a.kind == b.kind && a.addr.v == b.addr.v && a.data.v == b.data.v && a.t == b.t
theorem eqC_refl (a : Cyc) : eqC a a = true := by simp [eqC]
theorem eqC_eq {a b : Cyc} (h : eqC a b = true) : a = b := by
  simp only [eqC, Bool.and_eq_true, beq_iff_eq] at h
  obtain ⟨⟨⟨h1, h2⟩, h3⟩, h4⟩ := h
  exact Cyc.ext h1 (U16.ext h2) (U8.ext h3) h4
theorem flds28 : Tryz.prog.underlying 28 = some (.struct (Tryz.prog.fieldsOf 28)) := by kernel_rfl
theorem held28 : Tryz.prog.stoodInHeld 28 = false := by kernel_rfl
theorem eq_cyc (a b : Cyc) (w : World) : (binOp .eql 28 (.agg a.cells) (.agg b.cells)).run Tryz.prog w = .ok (.bool (eqC a b)) w := by
  rw [run_eql_struct, run_equalIn_agg w _ _ _ _ flds28 held28]
  unfold eqC
  simp [go_sem, Cyc.cells, Op.eqFields, Tryz.underlying28]
  repeat' split
  all_goals simp [*]
def eqR (a b : R) : Bool := a.af.v == b.af.v && a.bc.v == b.bc.v && a.de.v == b.de.v && a.hl.v == b.hl.v && a.af2.v == b.af2.v && a.bc2.v == b.bc2.v && a.de2.v == b.de2.v && a.hl2.v == b.hl2.v && a.ix.v == b.ix.v && a.iy.v == b.iy.v && a.sp.v == b.sp.v && a.pc.v == b.pc.v && a.wz.v == b.wz.v && a.i.v == b.i.v && a.r.v == b.r.v && a.iff1 == b.iff1 && a.iff2 == b.iff2 && a.halted == b.halted && a.late == b.late && a.mode == b.mode
theorem eqR_refl (a : R) : eqR a a = true := by simp [eqR]
theorem R.ext' {a b : R} (h0 : a.af = b.af) (h1 : a.bc = b.bc) (h2 : a.de = b.de) (h3 : a.hl = b.hl) (h4 : a.af2 = b.af2) (h5 : a.bc2 = b.bc2) (h6 : a.de2 = b.de2) (h7 : a.hl2 = b.hl2) (h8 : a.ix = b.ix) (h9 : a.iy = b.iy) (h10 : a.sp = b.sp) (h11 : a.pc = b.pc) (h12 : a.wz = b.wz) (h13 : a.i = b.i) (h14 : a.r = b.r) (h15 : a.iff1 = b.iff1) (h16 : a.iff2 = b.iff2) (h17 : a.halted = b.halted) (h18 : a.late = b.late) (h19 : a.mode = b.mode) : a = b := by
  obtain ⟨a0, a1, a2, a3, a4, a5, a6, a7, a8, a9, a10, a11, a12, a13, a14, a15, a16, a17, a18, a19⟩ := a
  obtain ⟨b0, b1, b2, b3, b4, b5, b6, b7, b8, b9, b10, b11, b12, b13, b14, b15, b16, b17, b18, b19⟩ := b
  simp only at *
  subst_vars
  rfl
theorem eqR_eq {a b : R} (h : eqR a b = true) : a = b := by
  simp only [eqR, Bool.and_eq_true, beq_iff_eq] at h
  obtain ⟨⟨⟨⟨⟨⟨⟨⟨⟨⟨⟨⟨⟨⟨⟨⟨⟨⟨⟨h0, h1⟩, h2⟩, h3⟩, h4⟩, h5⟩, h6⟩, h7⟩, h8⟩, h9⟩, h10⟩, h11⟩, h12⟩, h13⟩, h14⟩, h15⟩, h16⟩, h17⟩, h18⟩, h19⟩ := h
  exact R.ext' (U16.ext h0) (U16.ext h1) (U16.ext h2) (U16.ext h3) (U16.ext h4) (U16.ext h5) (U16.ext h6) (U16.ext h7) (U16.ext h8) (U16.ext h9) (U16.ext h10) (U16.ext h11) (U16.ext h12) (U8.ext h13) (U8.ext h14) h15 h16 h17 h18 h19
theorem flds24 : Tryz.prog.underlying 24 = some (.struct (Tryz.prog.fieldsOf 24)) := by kernel_rfl
theorem held24 : Tryz.prog.stoodInHeld 24 = false := by kernel_rfl
set_option maxRecDepth 20000 in
theorem eq_regs (a b : R) (w : World) : (binOp .eql 24 (.agg a.cells) (.agg b.cells)).run Tryz.prog w = .ok (.bool (eqR a b)) w := by
  rw [run_eql_struct, run_equalIn_agg w _ _ _ _ flds24 held24]
  unfold eqR
  simp [go_sem, R.cells, Op.eqFields, Tryz.underlying24]
  by_cases h0 : a.af.v = b.af.v
  case neg => rw [if_neg h0]; simp [h0]
  rw [if_pos h0]
  by_cases h1 : a.bc.v = b.bc.v
  case neg => rw [if_neg h1]; simp [h1]
  rw [if_pos h1]
  by_cases h2 : a.de.v = b.de.v
  case neg => rw [if_neg h2]; simp [h2]
  rw [if_pos h2]
  by_cases h3 : a.hl.v = b.hl.v
  case neg => rw [if_neg h3]; simp [h3]
  rw [if_pos h3]
  by_cases h4 : a.af2.v = b.af2.v
  case neg => rw [if_neg h4]; simp [h4]
  rw [if_pos h4]
  by_cases h5 : a.bc2.v = b.bc2.v
  case neg => rw [if_neg h5]; simp [h5]
  rw [if_pos h5]
  by_cases h6 : a.de2.v = b.de2.v
  case neg => rw [if_neg h6]; simp [h6]
  rw [if_pos h6]
  by_cases h7 : a.hl2.v = b.hl2.v
  case neg => rw [if_neg h7]; simp [h7]
  rw [if_pos h7]
  by_cases h8 : a.ix.v = b.ix.v
  case neg => rw [if_neg h8]; simp [h8]
  rw [if_pos h8]
  by_cases h9 : a.iy.v = b.iy.v
  case neg => rw [if_neg h9]; simp [h9]
  rw [if_pos h9]
  by_cases h10 : a.sp.v = b.sp.v
  case neg => rw [if_neg h10]; simp [h10]
  rw [if_pos h10]
  by_cases h11 : a.pc.v = b.pc.v
  case neg => rw [if_neg h11]; simp [h11]
  rw [if_pos h11]
  by_cases h12 : a.wz.v = b.wz.v
  case neg => rw [if_neg h12]; simp [h12]
  rw [if_pos h12]
  by_cases h13 : a.i.v = b.i.v
  case neg => rw [if_neg h13]; simp [h13]
  rw [if_pos h13]
  by_cases h14 : a.r.v = b.r.v
  case neg => rw [if_neg h14]; simp [h14]
  rw [if_pos h14]
  by_cases h15 : a.iff1 = b.iff1
  case neg => rw [if_neg h15]; simp [h15]
  rw [if_pos h15]
  by_cases h16 : a.iff2 = b.iff2
  case neg => rw [if_neg h16]; simp [h16]
  rw [if_pos h16]
  by_cases h17 : a.halted = b.halted
  case neg => rw [if_neg h17]; simp [h17]
  rw [if_pos h17]
  by_cases h18 : a.late = b.late
  case neg => rw [if_neg h18]; simp [h18]
  rw [if_pos h18]
  by_cases h19 : a.mode = b.mode
  case neg => rw [if_neg h19]; simp [h19]
  rw [if_pos h19]
  simp [h0, h1, h2, h3, h4, h5, h6, h7, h8, h9, h10, h11, h12, h13, h14, h15, h16, h17, h18, h19]
/-- Registers and cycles compared, by a name. -/
def eqRg (a b : R) : Sem Value := binOp .eql 24 (.agg a.cells) (.agg b.cells)
def eqCg (a b : Cyc) : Sem Value := binOp .eql 28 (.agg a.cells) (.agg b.cells)
@[go_sem ↓ high] theorem eq_regs_name (a b : R) : binOp .eql 24 (.agg a.cells) (.agg b.cells) = eqRg a b := rfl
@[go_sem ↓ high] theorem eq_cyc_name (a b : Cyc) : binOp .eql 28 (.agg a.cells) (.agg b.cells) = eqCg a b := rfl
@[go_sem] theorem eq_regs_run (a b : R) (w : World) : (eqRg a b).run Tryz.prog w = .ok (.bool (eqR a b)) w := eq_regs a b w
@[go_sem] theorem eq_cyc_run (a b : Cyc) (w : World) : (eqCg a b).run Tryz.prog w = .ok (.bool (eqC a b)) w := eq_cyc a b w
end Go.Proofs.YtnaampdpkegacaaGreatDoor
