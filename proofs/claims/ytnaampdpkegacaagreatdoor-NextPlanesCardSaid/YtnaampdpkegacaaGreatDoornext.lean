/-
  Contracts of the closure that next's done defers. A helper of the claim that stands beside it.
-/
import Derived.Defers
import Derived.Recover
import Derived.Test.YtnaampdpkegacaaGreatDoore1
import Derived.BigRegion

namespace Go.Proofs.YtnaampdpkegacaaGreatDoor
open Go.RowKit

theorem nilneq (w : World) : (binOp .neq 20 .nilIface .nilIface).run Tryz.prog w = .ok (.bool false) w := by kernel_rfl
theorem ifneq (v : Value) (w : World) : (binOp .neq 20 (.iface 68 v) .nilIface).run Tryz.prog w = .ok (.bool true) w := by kernel_rfl
theorem tas (v : Value) (w : World) : (Instr.typeAssert (.iface 68 v) 20 68 true).run Tryz.prog w = .ok (.tuple #[v, .bool true]) w := by kernel_rfl
theorem done1_idle (a b c : Addr) (w : World) :
    CallsD Tryz.prog 40 #[.pointer (some a), .pointer (some b), .pointer (some c)] .returning w fun e u' w' => e = .returned (.tuple #[]) ∧ u' = .returning ∧ w' = w := by
  refine callsD_of_wpS Tryz.func40 rfl fun c₀ cs hu => ?_
  apply wpS_seq
  apply wpS_region
  simp [wpOpsS, go_sem, recoverD, hu, Tryz.ntmps40, Exit.thenS]
  refine wpS_of_wp ?_
  rw [show (#[Value.pointer (some a), .pointer (some b), .pointer (some c)] ++ ((Array.replicate 17 undef).setIfInBounds 3 Value.nilIface).setIfInBounds 0 Value.nilIface) = #[Value.pointer (some a), .pointer (some b), .pointer (some c), .nilIface, undef, undef, .nilIface, undef, undef, undef, undef, undef, undef, undef, undef, undef, undef, undef, undef, undef] by kernel_rfl]
  have hn := nilneq
  have hu2 := Lib.hid hu
  clear hu
  go_wp2
  have hu := hu2.out
  cases c₀
  simp_all [bodyPostS, results, Tryz.results40]
def Cyc0 : Cyc := ⟨0, u16 0, u8 0, 0⟩
theorem Cyc0.fold : #[Value.int .i64 0, .int .u16 0, .int .u8 0, .int .i64 0] = Cyc0.cells := rfl
theorem Cyc.size (c : Cyc) : c.cells.size = 4 := rfl
theorem Cyc.len (c : Cyc) : c.cells.toList.length = 4 := rfl
theorem Cyc.all (c : Cyc) : c.cells.extract 0 4 = c.cells := by simp [Cyc.cells]
theorem Cyc.lay (a c : Cyc) : ov a.cells 0 c.cells.toList = c.cells := by simp [ov, Cyc.cells]
attribute [go_sem] Cyc0.fold Cyc.size Cyc.len Cyc.all Cyc.lay
@[go_sem ↓ high] theorem ld_cyc (a : Addr) : loadVar 28 a = ld 28 a := rfl
@[go_sem ↓ high] theorem st_cyc (a : Addr) (v : Value) : storeVar 28 a v = st 28 a v := rfl
@[go_sem] theorem ld_cyc_run (w : World) (n o : Nat) (h : o + 4 ≤ (blk w n).size) : (ld 28 ⟨n, o, none⟩).run Tryz.prog w = .ok (.agg ((blk w n).extract o (o + 4))) w := by
  unfold ld loadVar
  rw [Sem.run_bind, Tryz.isAgg28, Result.andThen_ok]
  simp only [if_true]
  rw [Sem.run_bind, Tryz.sizeOf28, Result.andThen_ok]
  unfold loadCells
  rw [Sem.run_bind, ldCells w n o 4 h]
  rfl
@[go_sem] theorem st_cyc_run (w : World) (n o : Nat) (c : Cyc) (ht : w.there n o (3 + 1)) : (st 28 ⟨n, o, none⟩ (.agg c.cells)).run Tryz.prog w = .ok () (w.setCells n o c.cells.toList) := by
  unfold st storeVar
  rw [Sem.run_bind, Tryz.sizeOf28, Result.andThen_ok]
  have e : (Value.agg c.cells).cells = c.cells := rfl
  rw [e, if_neg (by simp [Cyc.cells])]
  exact stCells w n o c.cells.toList ht (by simp [Cyc.cells, Value.oneCell'])
@[go_sem ↓ high] theorem ld_askd (a : Addr) : loadVar 68 a = ld 68 a := rfl
@[go_sem ↓ high] theorem st_askd (a : Addr) (v : Value) : storeVar 68 a v = st 68 a v := rfl
@[go_sem] theorem ld_askd_run (w : World) (n o : Nat) (h : o + 4 ≤ (blk w n).size) : (ld 68 ⟨n, o, none⟩).run Tryz.prog w = .ok (.agg ((blk w n).extract o (o + 4))) w := by
  unfold ld loadVar
  rw [Sem.run_bind, Tryz.isAgg68, Result.andThen_ok]
  simp only [if_true]
  rw [Sem.run_bind, Tryz.sizeOf68, Result.andThen_ok]
  unfold loadCells
  rw [Sem.run_bind, ldCells w n o 4 h]
  rfl
@[go_sem] theorem st_askd_run (w : World) (n o : Nat) (c : Cyc) (ht : w.there n o (3 + 1)) : (st 68 ⟨n, o, none⟩ (.agg c.cells)).run Tryz.prog w = .ok () (w.setCells n o c.cells.toList) := by
  unfold st storeVar
  rw [Sem.run_bind, Tryz.sizeOf68, Result.andThen_ok]
  have e : (Value.agg c.cells).cells = c.cells := rfl
  rw [e, if_neg (by simp [Cyc.cells])]
  exact stCells w n o c.cells.toList ht (by simp [Cyc.cells, Value.oneCell'])
/-- The world with done's results told. -/
def dres (w : World) (a b c : Nat) (x : Cyc) (r : R) (l : Bool) : World := put (put (put w a x.cells) b r.cells) c #[.bool l]
def DnPost (a b c B : Nat) (cy : Cyc) (d : Array Value) (w : World) (e : Ending) (u : FrameMode) (w' : World) : Prop := e = .returned (.tuple #[]) ∧ u = .panicking ({ v := .iface 68 (.agg cy.cells), recovered := true } :: []) ∧ ∃ w1, w' = put (dres w1 a b c cy R0 false) B d ∧ Below w.heap.size w w1
set_option maxHeartbeats 2000000 in
theorem done1_panicking (a b c B : Nat) (cy x : Cyc) (r : R) (l : Bool) (d : Array Value) (w : World) (hab : ¬ a = b) (hac : ¬ a = c) (hbc : ¬ b = c) (haB : ¬ a = B) (hbB : ¬ b = B) (hcB : ¬ c = B) (ha : Inb a w) (hb : Inb b w) (hc : Inb c w) (hB : Inb B w) :
    CallsD Tryz.prog 40 #[.pointer (some ⟨a, 0, none⟩), .pointer (some ⟨b, 0, none⟩), .pointer (some ⟨c, 0, none⟩)] (.panicking ({ v := .iface 68 (.agg cy.cells), recovered := false } :: [])) (put (dres w a b c x r l) B d) (DnPost a b c B cy d w) := by
  refine callsD_of_wpS Tryz.func40 rfl fun c₀ cs hu => ?_
  apply wpS_seq
  apply wpS_region
  simp [wpOpsS, go_sem, recoverD, hu, Tryz.ntmps40, Exit.thenS]
  refine wpS_of_wp ?_
  rw [show (#[Value.pointer (some ⟨a, 0, none⟩), .pointer (some ⟨b, 0, none⟩), .pointer (some ⟨c, 0, none⟩)] ++ ((Array.replicate 17 undef).setIfInBounds 3 (Value.iface 68 (Value.agg cy.cells))).setIfInBounds 0 (Value.iface 68 (Value.agg cy.cells))) = #[Value.pointer (some ⟨a, 0, none⟩), .pointer (some ⟨b, 0, none⟩), .pointer (some ⟨c, 0, none⟩), .iface 68 (Value.agg cy.cells), undef, undef, .iface 68 (Value.agg cy.cells), undef, undef, undef, undef, undef, undef, undef, undef, undef, undef, undef, undef, undef] by kernel_rfl]
  have hn := ifneq
  have ht := tas
  have hu2 := Lib.hid hu
  clear hu
  have hwa : ¬ w.heap.size = a := ha.ne
  have hwb : ¬ w.heap.size = b := hb.ne
  have hwc : ¬ w.heap.size = c := hc.ne
  have hwB : ¬ w.heap.size = B := hB.ne
  unfold dres
  go_wp2
  have hP : DnPost a b c B cy d w (.returned (.tuple #[])) (.panicking ({ v := .iface 68 (.agg cy.cells), recovered := true } :: [])) (put (dres (w.alloc (.cells cy.cells 68)) a b c cy R0 false) B d) := ⟨rfl, rfl, _, rfl, (Below.refl _ _).alloc (Nat.le_refl _) _⟩
  unfold dres at hP
  cases c₀
  simp [bodyPostS, results, Tryz.results40, hP]
end Go.Proofs.YtnaampdpkegacaaGreatDoor

namespace Go.Proofs.YtnaampdpkegacaaGreatDoor
open Go.RowKit

/-- What is told of a work. -/
def outM (M : Except Cyc (Unit × PS)) : Cyc × R × Bool := match M with
  | .error c => (c, R0, false)
  | .ok p => (Cyc0, p.2.r, true)
def DonePost (B : Nat) (w : World) (M : Except Cyc (Unit × PS)) (e : Ending) (w' : World) : Prop := e = .returned (.tuple #[.agg (outM M).1.cells, .agg (outM M).2.1.cells, .bool (outM M).2.2]) ∧ ∃ w1 d, w' = put w1 B d ∧ Below w.heap.size w w1
theorem heap_push_last (w : World) (o : Obj) : (w.alloc o).heap[w.heap.size]? = some o := heap_alloc_last w o
/-- Three new blocks, kept. -/
theorem three1 {w w1 : World} {a b c : Array Value} {s t u : TypeId} (hb : Below (((w.alloc (.cells a s)).alloc (.cells b t)).alloc (.cells c u)).heap.size (((w.alloc (.cells a s)).alloc (.cells b t)).alloc (.cells c u)) w1) :
    w1 = put (put (put w1 w.heap.size a) (w.heap.size + 1) b) (w.heap.size + 1 + 1) c ∧ Below w.heap.size w w1 ∧ Inb w.heap.size w1 ∧ Inb (w.heap.size + 1) w1 ∧ Inb (w.heap.size + 1 + 1) w1 := by
  have hs := hb.size
  simp only [World.size_alloc] at hs
  have e3 : w1.heap[w.heap.size + 1 + 1]? = some (.cells c u (0, 0)) := by
    rw [hb.block _ (by simp)]
    have := heap_alloc_last ((w.alloc (.cells a s)).alloc (.cells b t)) (.cells c u)
    simpa using this
  have e2 : w1.heap[w.heap.size + 1]? = some (.cells b t (0, 0)) := by
    rw [hb.block _ (by simp)]
    have e0 : (((w.alloc (.cells a s)).alloc (.cells b t)).alloc (.cells c u)).heap[w.heap.size + 1]? = ((w.alloc (.cells a s)).alloc (.cells b t)).heap[w.heap.size + 1]? := by
      show (((w.alloc (.cells a s)).alloc (.cells b t)).heap.push (.cells c u))[w.heap.size + 1]? = _
      rw [Array.getElem?_push, if_neg (by simp)]
    rw [e0]
    have := heap_alloc_last (w.alloc (.cells a s)) (.cells b t)
    simpa using this
  have e1 : w1.heap[w.heap.size]? = some (.cells a s (0, 0)) := by
    rw [hb.block _ (by simp; omega)]
    have e0 : (((w.alloc (.cells a s)).alloc (.cells b t)).alloc (.cells c u)).heap[w.heap.size]? = some (.cells a s (0, 0)) := by
      have := heap_alloc_last w (.cells a s)
      show ((((w.alloc (.cells a s)).heap.push (.cells b t))).push (.cells c u))[w.heap.size]? = _
      rw [Array.getElem?_push, if_neg (by simp; omega), Array.getElem?_push, if_neg (by simp), this]
    rw [e0]
  refine ⟨?_, bt (by go_grown) hb, by unfold Inb; omega, by unfold Inb; omega, by unfold Inb; omega⟩
  rw [asput e1, asput e2, asput e3]
theorem results_done (tmps : Array Value) (w : World) (a b c : Nat) (x : Cyc) (r : R) (l : Bool) (hp : tmps.getD 4 undef = .pointer (some ⟨a, 0, none⟩)) (hq : tmps.getD 5 undef = .pointer (some ⟨b, 0, none⟩)) (hr : tmps.getD 6 undef = .pointer (some ⟨c, 0, none⟩))
    (ha : blk w a = x.cells) (hb : blk w b = r.cells) (hc : w.cell? ⟨c, 0, none⟩ = some (.bool l)) : (results Tryz.f20 tmps).run Tryz.prog w = .ok (.tuple #[.agg x.cells, .agg r.cells, .bool l]) w := by
  have e1 : (loadVar 28 ⟨a, 0, none⟩).run Tryz.prog w = .ok (.agg x.cells) w := by
    rw [ld_cyc, ld_cyc_run w a 0 (by rw [ha]; exact Nat.le_refl 4), ha]
    exact congrArg (fun y => Result.ok (Value.agg y) w) (Cyc.all x)
  have e2 : (loadVar 24 ⟨b, 0, none⟩).run Tryz.prog w = .ok (.agg r.cells) w := by
    rw [ld_regs, ld_regs_run w b 0 (by rw [hb]; exact Nat.le_refl 20), hb]
    exact congrArg (fun y => Result.ok (Value.agg y) w) (R.all r)
  have e3 : (loadVar 4 ⟨c, 0, none⟩).run Tryz.prog w = .ok (.bool l) w := by simp [go_sem, hc]
  unfold results
  rw [Tryz.results20]
  rw [Array.getD_eq_getD_getElem?] at hp hq hr
  simp [hp, hq, hr, e1, e2, e3, asAddr]
theorem put_asput {w : World} {B : Nat} {d : Array Value} {a b c : Array Value} {x y z : Nat} (h : w = put (put (put w x a) y b) z c) : put w B d = put (put (put (put w x a) y b) z c) B d := by rw [← h]
set_option maxHeartbeats 4000000 in
set_option maxRecDepth 20000 in
theorem doneNext_ (B : Nat) (X Y : Addr) (m : PM Unit) (s : PS) (w : World) (hI : Inv B w s.gv s.got) (hdo : ∀ W1, Below w.heap.size w W1 → Calls Tryz.prog 21 #[.pointer (some X), .pointer (some Y)] (put W1 B s.cells) (Post B W1 eU (run m s))) :
    Calls Tryz.prog 20 #[.pointer (some ⟨B, 0, none⟩), .func (.func 21) #[] #[.pointer (some X), .pointer (some Y)]] (put w B s.cells) (DonePost B w (run m s)) := by
  have hmf : ∀ (fn : Fn) (first cap : Array Value) (w : World), (Instr.makeFunc fn first cap).run Tryz.prog w = .ok (.func fn first cap) w := fun _ _ _ _ => rfl
  have hi := hI.inb
  have hD := Lib.hid hdo
  clear hdo
  have hB : B < w.heap.size := hi
  have hs0 : ¬ w.heap.size = B := by omega
  have hs1 : ¬ w.heap.size + 1 = B := by omega
  have hs2 : ¬ w.heap.size + 1 + 1 = B := by omega
  have c01 : ¬ w.heap.size = w.heap.size + 1 := by omega
  have c02 : ¬ w.heap.size = w.heap.size + 1 + 1 := by omega
  have c12 : ¬ w.heap.size + 1 = w.heap.size + 1 + 1 := by omega
  clear hB
  go_enter_defers Tryz.func20, Tryz.ntmps20
  go_wp2_with (go_at_call 21; refine (hD.out _ (by go_grown)).mono (Post.two (fun c s1 w1 hm hb hi => ?_) (fun v s1 w1 hm hb hI hi => ?_)))
  · obtain ⟨e1, hb1, i0, i1, i2⟩ := three1 hb
    rw [put_asput e1]
    clear e1 hb
    have hm' := Lib.hid hm
    clear hm
    refine leaves_cons (f := 40) (args := #[.pointer (some ⟨w.heap.size, 0, none⟩), .pointer (some ⟨w.heap.size + 1, 0, none⟩), .pointer (some ⟨w.heap.size + 1 + 1, 0, none⟩)]) (by simp) (by simp [go_sem]) ?_
    refine (done1_panicking w.heap.size (w.heap.size + 1) (w.heap.size + 1 + 1) B c Cyc0 R0 false _ w1 c01 c02 c12 hs0 hs1 hs2 i0 i1 i2 hi).mono ?_
    rintro e u' w'' ⟨rfl, rfl, w2, rfl, hb2⟩
    have i0' := i0.kept hb2
    have i1' := i1.kept hb2
    have i2' := i2.kept hb2
    have iB' := hi.kept hb2
    have hP : DonePost B w (.error c) (.returned (.tuple #[.agg c.cells, .agg R0.cells, .bool false])) (put (put (put (put w2 w.heap.size c.cells) (w.heap.size + 1) R0.cells) (w.heap.size + 1 + 1) #[.bool false]) B s1.cells) := ⟨rfl, _, _, rfl, below_put (below_put (below_put (bt hb1 hb2) (Nat.le_refl _)) (by omega)) (by omega)⟩
    exact ⟨_, results_done _ _ w.heap.size (w.heap.size + 1) (w.heap.size + 1 + 1) c R0 false rfl rfl rfl (by simp [go_sem, dres, hs0, c02, i0']) (by simp [go_sem, dres, hs1, i1']) (by simp [go_sem, dres, hs2, i2']), hP⟩
  · obtain ⟨e1, hb1, i0, i1, i2⟩ := three1 hb
    rw [put_asput e1]
    clear e1 hb
    have hm' := Lib.hid hm
    clear hm
    go_wp2
    go_region
    all_goals (try go_wp2)
    refine leaves_cons (f := 40) (args := #[.pointer (some ⟨w.heap.size, 0, none⟩), .pointer (some ⟨w.heap.size + 1, 0, none⟩), .pointer (some ⟨w.heap.size + 1 + 1, 0, none⟩)]) (by simp) (by simp [go_sem]) ?_
    refine (done1_idle ⟨w.heap.size, 0, none⟩ ⟨w.heap.size + 1, 0, none⟩ ⟨w.heap.size + 1 + 1, 0, none⟩ _).mono ?_
    rintro e u' w'' ⟨rfl, rfl, rfl⟩
    have hb2 : Below w.heap.size w w1.drew := hb1.trans ((Below.refl _ _).drew.mono hb1.size)
    have hP : DonePost B w (run m s) (.returned (.tuple #[.agg Cyc0.cells, .agg s1.r.cells, .bool true])) (put (put (put (put w1.drew w.heap.size Cyc0.cells) (w.heap.size + 1) s1.r.cells) (w.heap.size + 1 + 1) #[.bool true]) B s1.cells) := ⟨by rw [hm'.out]; rfl, _, _, rfl, below_put (below_put (below_put hb2 (Nat.le_refl _)) (by omega)) (by omega)⟩
    exact ⟨_, results_done _ _ w.heap.size (w.heap.size + 1) (w.heap.size + 1 + 1) Cyc0 s1.r true rfl rfl rfl (by simp [go_sem, hs0, c02, i0]) (by simp [go_sem, hs1, i1]) (by simp [go_sem, hs2, i2]), hP⟩
end Go.Proofs.YtnaampdpkegacaaGreatDoor

namespace Go.Proofs.YtnaampdpkegacaaGreatDoor
open Go.RowKit

/-- The work of Next, and of After. -/
def nextM (n : Nat) (h : Bool) : PM Unit := do
  if h then do
    let s ← PM.get
    let _ ← cycleS ⟨1, s.r.pc, u8 0, 4⟩
    tickS
  else do
    PM.mod fun s => { s with r := { s.r with late := false } }
    let b ← fetchS
    firstS n b
def afterM (n : Nat) (b : U8) : PM Unit := do
  PM.mod fun s => { s with r := { s.r with late := false } }
  firstS n b
set_option maxHeartbeats 4000000 in
set_option maxRecDepth 20000 in
theorem next1_ (B H V n : Nat) (h : Bool) (s : PS) (w : World) (hI : Inv B w s.gv s.got) (hn : s.got.length < n) (hH : w.cell? ⟨H, 17, none⟩ = some (.bool h)) (hV : w.cell? ⟨V, 0, none⟩ = some (.pointer (some ⟨B, 0, none⟩))) (hHB : ¬ H = B) (hVB : ¬ V = B) :
    Calls Tryz.prog 21 #[.pointer (some ⟨H, 0, none⟩), .pointer (some ⟨V, 0, none⟩)] (put w B s.cells) (Post B w eU (run (nextM n h) s)) := by
  have hi := hI.inb
  have hb0 := Below.refl w.heap.size w
  have hVk := kept hb0 hV
  cases h
  · go_enter Tryz.func21, Tryz.ntmps21
    go_wp2
    replace hb0 := bt hb0 (Below.refl _ _).drew
    replace hI := Inv.drew hI
    replace hi := Inv.inb hI
    have hVk := kept hb0 hV
    go_region_with (first | (go_at_call 25; refine (fetchW_ B  _ _ (by assumption)).mono (Post.thruF fr_fetch hb0 (fun c s1 w1 hq hb0 hi => ?_) (fun v s1 w1 hq f1 f2 f3 f4 f5 f6 f7 hb0 hI hi => ?_)); (· exact ⟨rfl, Post.err _ (by simp [nextM, *]) hb0 hi⟩); have hVk := kept hb0 hV) | (go_at_call 24; refine (firstW_ B n _ _ _ (by assumption) (by first | exact hn | exact Nat.lt_trans (fetch_len hq) hn)).mono (Post.thru hb0 (fun c s1 w1 hq hb0 hi => ?_) (fun v s1 w1 hq hb0 hI hi => ?_)); (· exact ⟨rfl, Post.err _ (by simp [nextM, *]) hb0 hi⟩)))
    all_goals (try go_wp2)
    all_goals first
      | (refine bodyPost_end (results_none rfl _ _ _) rfl (Post.done (v := ()) ?_ rfl hb0 hI); simp [nextM, *]; done)
  · go_enter Tryz.func21, Tryz.ntmps21
    go_wp2
    replace hb0 := bt hb0 (Below.refl _ _).drew
    replace hI := Inv.drew hI
    replace hi := Inv.inb hI
    have hVk := kept hb0 hV
    go_region_with (first | (go_at_call 22; refine (cycle_ B ⟨1, s.r.pc, u8 0, 4⟩ _ _ (by assumption)).mono (Post.thru hb0 (fun c s1 w1 hq hb0 hi => ?_) (fun v s1 w1 hq hb0 hI hi => ?_)); (· exact ⟨rfl, Post.err _ (by simp [nextM, *]) hb0 hi⟩); have hVk := kept hb0 hV))
    all_goals (try go_wp2_with (first | (go_at_call 23; refine (tick_ B  _ _ (by assumption)).mono (Post.thruF fr_tick hb0 (fun c s1 w1 hq hb0 hi => ?_) (fun v s1 w1 hq f1 f2 f3 f4 f5 f6 f7 hb0 hI hi => ?_)) <;> have hVk := kept hb0 hV)))
    all_goals first
      | (refine ⟨rfl, Post.err _ ?_ hb0 hi⟩; simp [nextM, *]; done)
      | (refine bodyPost_end (results_none rfl _ _ _) rfl (Post.done (v := ()) ?_ rfl hb0 hI); simp [nextM, *]; done)
      | (refine bodyPost_ret (results_none rfl _ _ _) rfl (Post.done (v := ()) ?_ rfl hb0 hI); simp [nextM, *]; done)
set_option maxHeartbeats 4000000 in
set_option maxRecDepth 20000 in
theorem after1_ (B V C n : Nat) (b : U8) (s : PS) (w : World) (hI : Inv B w s.gv s.got) (hn : s.got.length < n) (hV : w.cell? ⟨V, 0, none⟩ = some (.pointer (some ⟨B, 0, none⟩))) (hC : w.cell? ⟨C, 0, none⟩ = some (.int .u8 b.v)) (hVB : ¬ V = B) (hCB : ¬ C = B) :
    Calls Tryz.prog 31 #[.pointer (some ⟨V, 0, none⟩), .pointer (some ⟨C, 0, none⟩)] (put w B s.cells) (Post B w eU (run (afterM n b) s)) := by
  have hi := hI.inb
  have hb0 := Below.refl w.heap.size w
  go_enter Tryz.func31, Tryz.ntmps31
  go_wp2_with ((go_at_call 24; refine (firstW_ B n _ _ _ (by assumption) (by first | exact hn | exact Nat.lt_trans (fetch_len hq) hn)).mono (Post.thru hb0 (fun c s1 w1 hq hb0 hi => ?_) (fun v s1 w1 hq hb0 hI hi => ?_))))
  all_goals first
    | (refine ⟨rfl, Post.err _ ?_ hb0 hi⟩; simp [afterM, *]; done)
    | (refine bodyPost_end (results_none rfl _ _ _) rfl (Post.done (v := ()) ?_ rfl hb0 hI); simp [afterM, *]; done)
end Go.Proofs.YtnaampdpkegacaaGreatDoor

namespace Go.Proofs.YtnaampdpkegacaaGreatDoor
open Go.RowKit

/-- Bytes that lie in memory, as a slice. -/
def SlIs (w : World) (gv : Value) (got : List U8) : Prop :=
  (∃ a c, gv = .slice a 0 c ∧ got = []) ∨ ∃ b o c, gv = .slice (some ⟨b, o, none⟩) got.length c ∧ got.length ≤ c ∧ b < w.heap.size ∧ ∀ (j : Nat) (v : U8), got[j]? = some v → w.cell? ⟨b, o + j, none⟩ = some (.int .u8 v.v)
theorem SlIs.kept {w w1 : World} {gv : Value} {got : List U8} (h : SlIs w gv got) (hb : Below w.heap.size w w1) : SlIs w1 gv got := by
  rcases h with h | ⟨b, o, c, h1, h2, h4, h5⟩
  · exact .inl h
  · refine .inr ⟨b, o, c, h1, h2, Nat.lt_of_lt_of_le h4 hb.size, fun j v hj => ?_⟩
    rw [hb.cell (p := ⟨b, o + j, none⟩) h4]; exact h5 j v hj
theorem SlIs.hd {w w1 : World} {gv : Value} {got : List U8} {B : Nat} (h : SlIs w gv got) (hb : Below w.heap.size w w1) (hB : w.heap.size ≤ B) : hdIs B w1 gv got := by
  rcases h with h | ⟨b, o, c, h1, h2, h4, h5⟩
  · exact .inl h
  · refine .inr ⟨b, o, c, h1, h2, by omega, Nat.lt_of_lt_of_le h4 hb.size, fun j v hj => ?_⟩
    rw [hb.cell (p := ⟨b, o + j, none⟩) h4]; exact h5 j v hj
def cs0 (r : R) : CS := ⟨r, 0, u8 0, 0, 0, 0, 0, 0, u16 0, false⟩
def ps0 (r : R) (gv : Value) (got : List U8) : PS := { toCS := cs0 r, gv := gv, got := got }
/-- What is told of what works on registers, behind answers. -/
def outT (t : T (Unit × CS)) (got : List U8) : Cyc × R × Bool := match t.exec got with
  | .error c => (c, R0, false)
  | .ok p => (Cyc0, p.1.2.r, true)
theorem outM_run (m : PM Unit) (r : R) (gv : Value) (got : List U8) : outM (run m (ps0 r gv got)) = outT (m (cs0 r)) got := by
  unfold outM run outT ps0
  simp only
  cases (m (cs0 r)).exec got with
  | error c => rfl
  | ok p => rfl
def nextF (r : R) (got : List U8) : Cyc × R × Bool := outT (nextM (got.length + 1) r.halted (cs0 r)) got
def afterF (r : R) (b : U8) (got : List U8) : Cyc × R × Bool := outT (afterM (got.length + 1) b (cs0 r)) got
/-- A work that is built. -/
def bdWork (parts : Array (Nat × Value)) : Sem Value := Instr.build 47 parts
@[go_sem ↓ high] theorem bd_work (parts : Array (Nat × Value)) : Instr.build 47 parts = bdWork parts := rfl
theorem bd_work_run (r : R) (a : Option Addr) (n c : Nat) (W : World) : (bdWork #[(0, .agg r.cells), (1, .slice a n c)]).run Tryz.prog W = .ok (.agg (ps0 r (.slice a n c) []).cells) W := by kernel_rfl
attribute [go_sem] bd_work_run
theorem SlIs.slice {w : World} {gv : Value} {got : List U8} (h : SlIs w gv got) : ∃ a n c, gv = .slice a n c := by
  rcases h with ⟨a, c, h, _⟩ | ⟨b, o, c, h, _⟩
  · exact ⟨_, _, _, h⟩
  · exact ⟨_, _, _, h⟩
/-- What a call tells, and leaves. -/
def Told (x : Cyc × R × Bool) (w : World) (e : Ending) (w' : World) : Prop := e = .returned (.tuple #[.agg x.1.cells, .agg x.2.1.cells, .bool x.2.2]) ∧ Below w.heap.size w w'
/-- Five new blocks. -/
theorem five {w : World} {a b c d e : Obj} : let W := ((((w.alloc a).alloc b).alloc c).alloc d).alloc e
    W.heap[w.heap.size]? = some a ∧ W.heap[w.heap.size + 1]? = some b ∧ W.heap[w.heap.size + 1 + 1]? = some c ∧ W.heap[w.heap.size + 1 + 1 + 1]? = some d ∧ W.heap[w.heap.size + 1 + 1 + 1 + 1]? = some e ∧ W.heap.size = w.heap.size + 5 := by
  intro W
  have hW : W.heap = ((((w.heap.push a).push b).push c).push d).push e := rfl
  rw [hW]
  refine ⟨?_, ?_, ?_, ?_, ?_, by simp⟩
  · rw [Array.getElem?_push, if_neg (by simp; try omega), Array.getElem?_push, if_neg (by simp; try omega), Array.getElem?_push, if_neg (by simp; try omega), Array.getElem?_push, if_neg (by simp), Array.getElem?_push, if_pos rfl]
  · rw [Array.getElem?_push, if_neg (by simp; try omega), Array.getElem?_push, if_neg (by simp; try omega), Array.getElem?_push, if_neg (by simp), Array.getElem?_push, if_pos (by simp)]
  · rw [Array.getElem?_push, if_neg (by simp; try omega), Array.getElem?_push, if_neg (by simp), Array.getElem?_push, if_pos (by simp)]
  · rw [Array.getElem?_push, if_neg (by simp), Array.getElem?_push, if_pos (by simp)]
  · rw [Array.getElem?_push, if_pos (by simp)]
theorem heap_cell0 {w : World} {B : Nat} {c : Array Value} {t : TypeId} (h : w.heap[B]? = some (.cells c t (0, 0))) (j : Nat) : w.cell? ⟨B, j, none⟩ = c[j]? := by
  rw [cell_blk]; unfold blk; rw [h]
def nextW5 (w : World) (r : R) (gv : Value) : World := ((((w.alloc (.cells r.cells 24)).alloc (.cells Cyc0.cells 28)).alloc (.cells R0.cells 24)).alloc (.cells (ps0 r gv []).cells 47)).alloc (.cells #[.pointer (some ⟨w.heap.size + 1 + 1 + 1, 0, none⟩)] 45)
theorem five_after {w w1 : World} {r : R} {gv : Value} (hb : Below (nextW5 w r gv).heap.size (nextW5 w r gv) w1) :
    ∃ w2, w1 = put (put w2 (w.heap.size + 1) Cyc0.cells) (w.heap.size + 1 + 1) R0.cells ∧ Below w.heap.size w w2 ∧ Inb (w.heap.size + 1) w2 ∧ Inb (w.heap.size + 1 + 1) w2 := by
  obtain ⟨h0, h1, h2, h3, h4, hs⟩ := @five w (.cells r.cells 24) (.cells Cyc0.cells 28) (.cells R0.cells 24) (.cells (ps0 r gv []).cells 47) (.cells #[.pointer (some ⟨w.heap.size + 1 + 1 + 1, 0, none⟩)] 45)
  have hS : (nextW5 w r gv).heap.size = w.heap.size + 5 := hs
  have e1 := (hb.block (w.heap.size + 1) (by rw [hS]; omega)).trans h1
  have e2 := (hb.block (w.heap.size + 1 + 1) (by rw [hS]; omega)).trans h2
  have hb0 : Below w.heap.size w (nextW5 w r gv) := by unfold nextW5; go_grown
  have hz := hb.size
  refine ⟨w1, ?_, bt hb0 hb, by unfold Inb; omega, by unfold Inb; omega⟩
  rw [asput e1, asput e2]
theorem nextDone (r : R) (gv : Value) (got : List U8) (w : World) (hg : SlIs w gv got) (hL : Lg w) :
    Calls Tryz.prog 20 #[.pointer (some ⟨w.heap.size + 1 + 1 + 1, 0, none⟩), .func (.func 21) #[] #[.pointer (some ⟨w.heap.size, 0, none⟩), .pointer (some ⟨w.heap.size + 1 + 1 + 1 + 1, 0, none⟩)]] (nextW5 w r gv)
      (DonePost (w.heap.size + 1 + 1 + 1) (nextW5 w r gv) (run (nextM (got.length + 1) r.halted) (ps0 r gv got))) := by
  obtain ⟨h0, h1, h2, h3, h4, hs⟩ := @five w (.cells r.cells 24) (.cells Cyc0.cells 28) (.cells R0.cells 24) (.cells (ps0 r gv []).cells 47) (.cells #[.pointer (some ⟨w.heap.size + 1 + 1 + 1, 0, none⟩)] 45)
  have hb : Below w.heap.size w (nextW5 w r gv) := by unfold nextW5; go_grown
  have hlt := hL.lt
  have hI : Inv (w.heap.size + 1 + 1 + 1) (nextW5 w r gv) gv got := ⟨by unfold Inb nextW5; rw [hs]; omega, hg.hd hb (by omega), hL.kept hb, by omega⟩
  have h := doneNext_ (w.heap.size + 1 + 1 + 1) ⟨w.heap.size, 0, none⟩ ⟨w.heap.size + 1 + 1 + 1 + 1, 0, none⟩ (nextM (got.length + 1) r.halted) (ps0 r gv got) (nextW5 w r gv) hI (fun W1 hb1 =>
    next1_ _ _ _ _ _ _ W1 (hI.kept hb1) (Nat.lt_succ_self _)
      (by rw [hb1.cell (p := ⟨w.heap.size, 17, none⟩) (by unfold nextW5; rw [hs]; show w.heap.size < _; omega)]; unfold nextW5; rw [heap_cell0 h0 17]; rfl)
      (by rw [hb1.cell (p := ⟨w.heap.size + 1 + 1 + 1 + 1, 0, none⟩) (by unfold nextW5; rw [hs]; show w.heap.size + 1 + 1 + 1 + 1 < _; omega)]; unfold nextW5; rw [heap_cell0 h4 0]; rfl) (by omega) (by omega))
  have e : put (nextW5 w r gv) (w.heap.size + 1 + 1 + 1) (PS.cells (ps0 r gv got)) = nextW5 w r gv := asput (t := 47) h3
  rw [e] at h
  exact h
theorem results_next (tmps : Array Value) (w : World) (a b : Nat) (x : Cyc) (r : R) (l : Bool) (hp : tmps.getD 4 undef = .pointer (some ⟨a, 0, none⟩)) (hq : tmps.getD 5 undef = .pointer (some ⟨b, 0, none⟩)) (hr : tmps.getD 6 undef = .bool l)
    (ha : blk w a = x.cells) (hb : blk w b = r.cells) : (results Tryz.f12 tmps).run Tryz.prog w = .ok (.tuple #[.agg x.cells, .agg r.cells, .bool l]) w := by
  have e1 : (loadVar 28 ⟨a, 0, none⟩).run Tryz.prog w = .ok (.agg x.cells) w := by
    rw [ld_cyc, ld_cyc_run w a 0 (by rw [ha]; exact Nat.le_refl 4), ha]
    exact congrArg (fun y => Result.ok (Value.agg y) w) (Cyc.all x)
  have e2 : (loadVar 24 ⟨b, 0, none⟩).run Tryz.prog w = .ok (.agg r.cells) w := by
    rw [ld_regs, ld_regs_run w b 0 (by rw [hb]; exact Nat.le_refl 20), hb]
    exact congrArg (fun y => Result.ok (Value.agg y) w) (R.all r)
  unfold results
  rw [Tryz.results12]
  rw [Array.getD_eq_getD_getElem?] at hp hq hr
  simp [hp, hq, hr, e1, e2, asAddr]
set_option maxHeartbeats 1000000 in
set_option maxRecDepth 20000 in
theorem nextW_ (r : R) (gv : Value) (got : List U8) (w : World) (hg : SlIs w gv got) (hL : Lg w) : Calls Tryz.prog 12 #[.agg r.cells, gv] w (Told (nextF r got) w) := by
  have hmf : ∀ (fn : Fn) (first cap : Array Value) (w : World), (Instr.makeFunc fn first cap).run Tryz.prog w = .ok (.func fn first cap) w := fun _ _ _ _ => rfl
  obtain ⟨sa, sn, sc, rfl⟩ := hg.slice
  have hdn := nextDone r _ got w hg hL
  rw [show nextF r got = outM (run (nextM (got.length + 1) r.halted) (ps0 r (.slice sa sn sc) got)) from (outM_run _ _ _ _).symm]
  generalize run (nextM (got.length + 1) r.halted) (ps0 r (.slice sa sn sc) got) = M at *
  generalize hX : outM M = X
  have HD : Hid (Calls Tryz.prog 20 #[.pointer (some ⟨w.heap.size + 1 + 1 + 1, 0, none⟩), .func (.func 21) #[] #[.pointer (some ⟨w.heap.size, 0, none⟩), .pointer (some ⟨w.heap.size + 1 + 1 + 1 + 1, 0, none⟩)]] (nextW5 w r (.slice sa sn sc)) (fun e w' => e = .returned (.tuple #[.agg X.1.cells, .agg X.2.1.cells, .bool X.2.2]) ∧ ∃ w1 d, w' = put w1 (w.heap.size + 1 + 1 + 1) d ∧ Below (nextW5 w r (.slice sa sn sc)).heap.size (nextW5 w r (.slice sa sn sc)) w1)) := Lib.hid (by rw [← hX]; exact hdn)
  clear hdn hg hL hX
  obtain ⟨x, rr, l⟩ := X
  have lt1 : w.heap.size < w.heap.size + 1 := by omega
  have lt2 : w.heap.size < w.heap.size + 1 + 1 := by omega
  have n12 : ¬ w.heap.size + 1 = w.heap.size + 1 + 1 := by omega
  have n13 : ¬ w.heap.size + 1 = w.heap.size + 1 + 1 + 1 := by omega
  have n23 : ¬ w.heap.size + 1 + 1 = w.heap.size + 1 + 1 + 1 := by omega
  go_enter Tryz.func12, Tryz.ntmps12
  go_wp2_with (go_at_call 20; refine HD.out.mono ?_; rintro e w6 ⟨rfl, w1, d, rfl, hb⟩; obtain ⟨w2, rfl, hb2, i1, i2⟩ := five_after hb; clear hb)
  refine bodyPost_ret (results_next _ _ (w.heap.size + 1) (w.heap.size + 1 + 1) x rr l rfl rfl rfl (by simp [go_sem, i1]) (by simp [go_sem, i2])) rfl ⟨rfl, ?_⟩
  exact below_put (below_put (below_put hb2 (by omega)) (by omega)) (by omega)
end Go.Proofs.YtnaampdpkegacaaGreatDoor

namespace Go.Proofs.YtnaampdpkegacaaGreatDoor
open Go.RowKit

set_option maxHeartbeats 4000000 in
set_option maxRecDepth 20000 in
theorem doneAfter_ (B : Nat) (X Y : Addr) (m : PM Unit) (s : PS) (w : World) (hI : Inv B w s.gv s.got) (hdo : ∀ W1, Below w.heap.size w W1 → Calls Tryz.prog 31 #[.pointer (some X), .pointer (some Y)] (put W1 B s.cells) (Post B W1 eU (run m s))) :
    Calls Tryz.prog 20 #[.pointer (some ⟨B, 0, none⟩), .func (.func 31) #[] #[.pointer (some X), .pointer (some Y)]] (put w B s.cells) (DonePost B w (run m s)) := by
  have hmf : ∀ (fn : Fn) (first cap : Array Value) (w : World), (Instr.makeFunc fn first cap).run Tryz.prog w = .ok (.func fn first cap) w := fun _ _ _ _ => rfl
  have hi := hI.inb
  have hD := Lib.hid hdo
  clear hdo
  have hB : B < w.heap.size := hi
  have hs0 : ¬ w.heap.size = B := by omega
  have hs1 : ¬ w.heap.size + 1 = B := by omega
  have hs2 : ¬ w.heap.size + 1 + 1 = B := by omega
  have c01 : ¬ w.heap.size = w.heap.size + 1 := by omega
  have c02 : ¬ w.heap.size = w.heap.size + 1 + 1 := by omega
  have c12 : ¬ w.heap.size + 1 = w.heap.size + 1 + 1 := by omega
  clear hB
  go_enter_defers Tryz.func20, Tryz.ntmps20
  go_wp2_with (go_at_call 31; refine (hD.out _ (by go_grown)).mono (Post.two (fun c s1 w1 hm hb hi => ?_) (fun v s1 w1 hm hb hI hi => ?_)))
  · obtain ⟨e1, hb1, i0, i1, i2⟩ := three1 hb
    rw [put_asput e1]
    clear e1 hb
    have hm' := Lib.hid hm
    clear hm
    refine leaves_cons (f := 40) (args := #[.pointer (some ⟨w.heap.size, 0, none⟩), .pointer (some ⟨w.heap.size + 1, 0, none⟩), .pointer (some ⟨w.heap.size + 1 + 1, 0, none⟩)]) (by simp) (by simp [go_sem]) ?_
    refine (done1_panicking w.heap.size (w.heap.size + 1) (w.heap.size + 1 + 1) B c Cyc0 R0 false _ w1 c01 c02 c12 hs0 hs1 hs2 i0 i1 i2 hi).mono ?_
    rintro e u' w'' ⟨rfl, rfl, w2, rfl, hb2⟩
    have i0' := i0.kept hb2
    have i1' := i1.kept hb2
    have i2' := i2.kept hb2
    have iB' := hi.kept hb2
    have hP : DonePost B w (.error c) (.returned (.tuple #[.agg c.cells, .agg R0.cells, .bool false])) (put (put (put (put w2 w.heap.size c.cells) (w.heap.size + 1) R0.cells) (w.heap.size + 1 + 1) #[.bool false]) B s1.cells) := ⟨rfl, _, _, rfl, below_put (below_put (below_put (bt hb1 hb2) (Nat.le_refl _)) (by omega)) (by omega)⟩
    exact ⟨_, results_done _ _ w.heap.size (w.heap.size + 1) (w.heap.size + 1 + 1) c R0 false rfl rfl rfl (by simp [go_sem, dres, hs0, c02, i0']) (by simp [go_sem, dres, hs1, i1']) (by simp [go_sem, dres, hs2, i2']), hP⟩
  · obtain ⟨e1, hb1, i0, i1, i2⟩ := three1 hb
    rw [put_asput e1]
    clear e1 hb
    have hm' := Lib.hid hm
    clear hm
    go_wp2
    go_region
    all_goals (try go_wp2)
    refine leaves_cons (f := 40) (args := #[.pointer (some ⟨w.heap.size, 0, none⟩), .pointer (some ⟨w.heap.size + 1, 0, none⟩), .pointer (some ⟨w.heap.size + 1 + 1, 0, none⟩)]) (by simp) (by simp [go_sem]) ?_
    refine (done1_idle ⟨w.heap.size, 0, none⟩ ⟨w.heap.size + 1, 0, none⟩ ⟨w.heap.size + 1 + 1, 0, none⟩ _).mono ?_
    rintro e u' w'' ⟨rfl, rfl, rfl⟩
    have hb2 : Below w.heap.size w w1.drew := hb1.trans ((Below.refl _ _).drew.mono hb1.size)
    have hP : DonePost B w (run m s) (.returned (.tuple #[.agg Cyc0.cells, .agg s1.r.cells, .bool true])) (put (put (put (put w1.drew w.heap.size Cyc0.cells) (w.heap.size + 1) s1.r.cells) (w.heap.size + 1 + 1) #[.bool true]) B s1.cells) := ⟨by rw [hm'.out]; rfl, _, _, rfl, below_put (below_put (below_put hb2 (Nat.le_refl _)) (by omega)) (by omega)⟩
    exact ⟨_, results_done _ _ w.heap.size (w.heap.size + 1) (w.heap.size + 1 + 1) Cyc0 s1.r true rfl rfl rfl (by simp [go_sem, hs0, c02, i0]) (by simp [go_sem, hs1, i1]) (by simp [go_sem, hs2, i2]), hP⟩
/-- Six new blocks. -/
theorem six {w : World} {a b c d e f : Obj} : let W := (((((w.alloc a).alloc b).alloc c).alloc d).alloc e).alloc f
    W.heap[w.heap.size]? = some a ∧ W.heap[w.heap.size + 1]? = some b ∧ W.heap[w.heap.size + 1 + 1]? = some c ∧ W.heap[w.heap.size + 1 + 1 + 1]? = some d ∧ W.heap[w.heap.size + 1 + 1 + 1 + 1]? = some e ∧ W.heap[w.heap.size + 1 + 1 + 1 + 1 + 1]? = some f ∧ W.heap.size = w.heap.size + 6 := by
  intro W
  obtain ⟨h0, h1, h2, h3, h4, hs⟩ := @five w a b c d e
  have hW : W.heap = (((((w.alloc a).alloc b).alloc c).alloc d).alloc e).heap.push f := rfl
  rw [hW]
  have p : ∀ k, k < w.heap.size + 5 → ((((((w.alloc a).alloc b).alloc c).alloc d).alloc e).heap.push f)[k]? = (((((w.alloc a).alloc b).alloc c).alloc d).alloc e).heap[k]? := fun k hk => by
    rw [Array.getElem?_push, if_neg (by rw [hs]; omega)]
  refine ⟨(p _ (by omega)).trans h0, (p _ (by omega)).trans h1, (p _ (by omega)).trans h2, (p _ (by omega)).trans h3, (p _ (by omega)).trans h4, ?_, by rw [Array.size_push, hs]⟩
  rw [Array.getElem?_push, if_pos (by rw [hs])]
def afterW6 (w : World) (r : R) (b : U8) (gv : Value) : World := (((((w.alloc (.cells r.cells 24)).alloc (.cells #[.int .u8 b.v] 5)).alloc (.cells Cyc0.cells 28)).alloc (.cells R0.cells 24)).alloc (.cells (ps0 r gv []).cells 47)).alloc (.cells #[.pointer (some ⟨w.heap.size + 1 + 1 + 1 + 1, 0, none⟩)] 45)
theorem six_after {w w1 : World} {r : R} {b : U8} {gv : Value} (hb : Below (afterW6 w r b gv).heap.size (afterW6 w r b gv) w1) :
    ∃ w2, w1 = put (put w2 (w.heap.size + 1 + 1) Cyc0.cells) (w.heap.size + 1 + 1 + 1) R0.cells ∧ Below w.heap.size w w2 ∧ Inb (w.heap.size + 1 + 1) w2 ∧ Inb (w.heap.size + 1 + 1 + 1) w2 := by
  obtain ⟨h0, h1, h2, h3, h4, h5, hs⟩ := @six w (.cells r.cells 24) (.cells #[.int .u8 b.v] 5) (.cells Cyc0.cells 28) (.cells R0.cells 24) (.cells (ps0 r gv []).cells 47) (.cells #[.pointer (some ⟨w.heap.size + 1 + 1 + 1 + 1, 0, none⟩)] 45)
  have hS : (afterW6 w r b gv).heap.size = w.heap.size + 6 := hs
  have e1 := (hb.block (w.heap.size + 1 + 1) (by rw [hS]; omega)).trans h2
  have e2 := (hb.block (w.heap.size + 1 + 1 + 1) (by rw [hS]; omega)).trans h3
  have hb0 : Below w.heap.size w (afterW6 w r b gv) := by unfold afterW6; go_grown
  have hz := hb.size
  refine ⟨w1, ?_, bt hb0 hb, by unfold Inb; omega, by unfold Inb; omega⟩
  rw [asput e1, asput e2]
theorem afterDone (r : R) (b : U8) (gv : Value) (got : List U8) (w : World) (hg : SlIs w gv got) (hL : Lg w) :
    Calls Tryz.prog 20 #[.pointer (some ⟨w.heap.size + 1 + 1 + 1 + 1, 0, none⟩), .func (.func 31) #[] #[.pointer (some ⟨w.heap.size + 1 + 1 + 1 + 1 + 1, 0, none⟩), .pointer (some ⟨w.heap.size + 1, 0, none⟩)]] (afterW6 w r b gv)
      (DonePost (w.heap.size + 1 + 1 + 1 + 1) (afterW6 w r b gv) (run (afterM (got.length + 1) b) (ps0 r gv got))) := by
  obtain ⟨h0, h1, h2, h3, h4, h5, hs⟩ := @six w (.cells r.cells 24) (.cells #[.int .u8 b.v] 5) (.cells Cyc0.cells 28) (.cells R0.cells 24) (.cells (ps0 r gv []).cells 47) (.cells #[.pointer (some ⟨w.heap.size + 1 + 1 + 1 + 1, 0, none⟩)] 45)
  have hb : Below w.heap.size w (afterW6 w r b gv) := by unfold afterW6; go_grown
  have hlt := hL.lt
  have hI : Inv (w.heap.size + 1 + 1 + 1 + 1) (afterW6 w r b gv) gv got := ⟨by unfold Inb afterW6; rw [hs]; omega, hg.hd hb (by omega), hL.kept hb, by omega⟩
  have h := doneAfter_ (w.heap.size + 1 + 1 + 1 + 1) ⟨w.heap.size + 1 + 1 + 1 + 1 + 1, 0, none⟩ ⟨w.heap.size + 1, 0, none⟩ (afterM (got.length + 1) b) (ps0 r gv got) (afterW6 w r b gv) hI (fun W1 hb1 =>
    after1_ _ _ _ _ _ _ W1 (hI.kept hb1) (Nat.lt_succ_self _)
      (by rw [hb1.cell (p := ⟨w.heap.size + 1 + 1 + 1 + 1 + 1, 0, none⟩) (by unfold afterW6; rw [hs]; show w.heap.size + 1 + 1 + 1 + 1 + 1 < _; omega)]; unfold afterW6; rw [heap_cell0 h5 0]; rfl)
      (by rw [hb1.cell (p := ⟨w.heap.size + 1, 0, none⟩) (by unfold afterW6; rw [hs]; show w.heap.size + 1 < _; omega)]; unfold afterW6; rw [heap_cell0 h1 0]; rfl) (by omega) (by omega))
  have e : put (afterW6 w r b gv) (w.heap.size + 1 + 1 + 1 + 1) (PS.cells (ps0 r gv got)) = afterW6 w r b gv := asput (t := 47) h4
  rw [e] at h
  exact h
theorem results_after (tmps : Array Value) (w : World) (a b : Nat) (x : Cyc) (r : R) (l : Bool) (hp : tmps.getD 6 undef = .pointer (some ⟨a, 0, none⟩)) (hq : tmps.getD 7 undef = .pointer (some ⟨b, 0, none⟩)) (hr : tmps.getD 8 undef = .bool l)
    (ha : blk w a = x.cells) (hb : blk w b = r.cells) : (results Tryz.f14 tmps).run Tryz.prog w = .ok (.tuple #[.agg x.cells, .agg r.cells, .bool l]) w := by
  have e1 : (loadVar 28 ⟨a, 0, none⟩).run Tryz.prog w = .ok (.agg x.cells) w := by
    rw [ld_cyc, ld_cyc_run w a 0 (by rw [ha]; exact Nat.le_refl 4), ha]
    exact congrArg (fun y => Result.ok (Value.agg y) w) (Cyc.all x)
  have e2 : (loadVar 24 ⟨b, 0, none⟩).run Tryz.prog w = .ok (.agg r.cells) w := by
    rw [ld_regs, ld_regs_run w b 0 (by rw [hb]; exact Nat.le_refl 20), hb]
    exact congrArg (fun y => Result.ok (Value.agg y) w) (R.all r)
  unfold results
  rw [Tryz.results14]
  rw [Array.getD_eq_getD_getElem?] at hp hq hr
  simp [hp, hq, hr, e1, e2, asAddr]
set_option maxHeartbeats 1000000 in
set_option maxRecDepth 20000 in
theorem afterW_ (r : R) (b : U8) (gv : Value) (got : List U8) (w : World) (hg : SlIs w gv got) (hL : Lg w) : Calls Tryz.prog 14 #[.agg r.cells, .int .u8 b.v, gv] w (Told (afterF r b got) w) := by
  have hmf : ∀ (fn : Fn) (first cap : Array Value) (w : World), (Instr.makeFunc fn first cap).run Tryz.prog w = .ok (.func fn first cap) w := fun _ _ _ _ => rfl
  obtain ⟨sa, sn, sc, rfl⟩ := hg.slice
  have hdn := afterDone r b _ got w hg hL
  rw [show afterF r b got = outM (run (afterM (got.length + 1) b) (ps0 r (.slice sa sn sc) got)) from (outM_run _ _ _ _).symm]
  generalize run (afterM (got.length + 1) b) (ps0 r (.slice sa sn sc) got) = M at *
  generalize hX : outM M = X
  have HD : Hid (Calls Tryz.prog 20 #[.pointer (some ⟨w.heap.size + 1 + 1 + 1 + 1, 0, none⟩), .func (.func 31) #[] #[.pointer (some ⟨w.heap.size + 1 + 1 + 1 + 1 + 1, 0, none⟩), .pointer (some ⟨w.heap.size + 1, 0, none⟩)]] (afterW6 w r b (.slice sa sn sc)) (fun e w' => e = .returned (.tuple #[.agg X.1.cells, .agg X.2.1.cells, .bool X.2.2]) ∧ ∃ w1 d, w' = put w1 (w.heap.size + 1 + 1 + 1 + 1) d ∧ Below (afterW6 w r b (.slice sa sn sc)).heap.size (afterW6 w r b (.slice sa sn sc)) w1)) := Lib.hid (by rw [← hX]; exact hdn)
  clear hdn hg hL hX
  obtain ⟨x, rr, l⟩ := X
  have lt1 : w.heap.size < w.heap.size + 1 := by omega
  have lt2 : w.heap.size < w.heap.size + 1 + 1 := by omega
  have lt3 : w.heap.size < w.heap.size + 1 + 1 + 1 := by omega
  have n12 : ¬ w.heap.size + 1 + 1 = w.heap.size + 1 + 1 + 1 := by omega
  have n13 : ¬ w.heap.size + 1 + 1 = w.heap.size + 1 + 1 + 1 + 1 := by omega
  have n23 : ¬ w.heap.size + 1 + 1 + 1 = w.heap.size + 1 + 1 + 1 + 1 := by omega
  go_enter Tryz.func14, Tryz.ntmps14
  go_wp2_with (go_at_call 20; refine HD.out.mono ?_; rintro e w6 ⟨rfl, w1, d, rfl, hb⟩; obtain ⟨w2, rfl, hb2, i1, i2⟩ := six_after hb; clear hb)
  refine bodyPost_ret (results_after _ _ (w.heap.size + 1 + 1) (w.heap.size + 1 + 1 + 1) x rr l rfl rfl rfl (by simp [go_sem, i1]) (by simp [go_sem, i2])) rfl ⟨rfl, ?_⟩
  exact below_put (below_put (below_put hb2 (by omega)) (by omega)) (by omega)
end Go.Proofs.YtnaampdpkegacaaGreatDoor
