/-
  Contracts of the package regs: registers by their numbers. A helper of the claim that stands beside it.
-/
import Derived.MapKept
import Derived.Test.YtnaampdpkegacaaGreatDoormach

namespace Go.Proofs.YtnaampdpkegacaaGreatDoor
open Go.RowKit Go.MapKept

/-! A map of ints to functions, made and asked at once. -/
def ents : List (Int × FuncId) → Nat → List MapEntry
  | [], _ => []
  | p :: l, b => { key := .int .i64 p.1, val := .func (.func p.2) #[] #[], born := b } :: ents l (b + 1)
def findE (k : Int) : List (Int × FuncId) → Nat → Option (Nat × Value)
  | [], _ => none
  | p :: l, i => if k = p.1 then some (i, .func (.func p.2) #[] #[]) else findE k l (i + 1)
theorem find_ents (k : Int) : ∀ (l : List (Int × FuncId)) (b i : Nat), Instr.findNow (.int .i64) (.int .i64 k) (ents l b) i = some (findE k l i)
  | [], _, _ => rfl
  | p :: l, b, i => by
    have ih := find_ents k l (b + 1) (i + 1)
    by_cases h : k = p.1
    · simp [ents, findE, Instr.findNow, Instr.sameNow, h]
    · have h' : (k == p.1) = false := by simpa using h
      simp only [ents, findE, Instr.findNow, Instr.sameNow, if_true, h', if_neg h, ih]
theorem ents_app (p : Int × FuncId) : ∀ (l : List (Int × FuncId)) (b : Nat), ents (l ++ [p]) b = ents l b ++ [{ key := .int .i64 p.1, val := .func (.func p.2) #[] #[], born := b + l.length }]
  | [], _ => rfl
  | q :: l, b => by
    simp only [List.cons_append, ents, ents_app p l (b + 1), List.length_cons]
    rw [show b + 1 + l.length = b + (l.length + 1) by omega]
def mapOf (l : List (Int × FuncId)) : Obj := .map (ents l 0).toArray l.length
theorem mk_run (w : World) : (Instr.makeMap 165 none).run Tryz.prog w = .ok (.map (some w.heap.size)) (w.alloc (mapOf [])) := by
  unfold Instr.makeMap
  simp [go_sem, mapOf, ents]
theorem ins_run (n : Nat) (W : World) (l : List (Int × FuncId)) (k : Int) (f : FuncId) (hn : n = W.heap.size) (hf : findE k l 0 = none) :
    (Instr.mapUpdate 165 (.map (some n)) (.int .i64 k) (.func (.func f) #[] #[])).run Tryz.prog (W.alloc (mapOf l)) = .ok () (W.alloc (mapOf (l ++ [(k, f)]))) := by
  subst hn
  have hb : (W.alloc (mapOf l)).heap[W.heap.size]? = some (.map (ents l 0).toArray l.length) := heap_alloc_last W _
  have hfk := MapKept.run_findKey (P := Tryz.prog) (w := W.alloc (mapOf l)) (kt := 3) (k := .int .i64 k) Tryz.underlying3 (find_ents k l 0 0)
  have hck : (Instr.checkKey false 10000 3 (.int .i64 k)).run Tryz.prog (W.alloc (mapOf l)) = .ok () (W.alloc (mapOf l)) := MapKept.run_checkKey Tryz.underlying3 (by simp [IsKey]) false 9999
  unfold Instr.mapUpdate
  simp only [Sem.run_bind, Tryz.runUnderlying165, Result.andThen_ok, MapKept.run_getObj_map hb, hck, hfk, hf]
  rw [MapKept.run_setObj_map _ hb]
  have e1 : Obj.map ((ents l 0).toArray.push { key := .int .i64 k, val := .func (.func f) #[] #[], born := l.length }) (l.length + 1) = mapOf (l ++ [(k, f)]) := by
    unfold mapOf
    rw [ents_app, List.length_append, Nat.zero_add, List.push_toArray]
    rfl
  rw [e1]
  have e2 : (W.alloc (mapOf l)).heap.setIfInBounds W.heap.size (mapOf (l ++ [(k, f)])) = (W.alloc (mapOf (l ++ [(k, f)]))).heap := by
    show (W.heap.push (mapOf l)).setIfInBounds W.heap.size (mapOf (l ++ [(k, f)])) = W.heap.push (mapOf (l ++ [(k, f)]))
    apply Array.ext_getElem?
    intro i
    simp only [Array.getElem?_setIfInBounds, Array.getElem?_push, Array.size_push]
    by_cases h : W.heap.size = i
    · subst h; simp
    · have h' : ¬ i = W.heap.size := fun e => h e.symm
      simp [h, h']
  rw [e2]
  rfl
theorem look_run (n : Nat) (W : World) (l : List (Int × FuncId)) (k : Int) (hn : n = W.heap.size) :
    (Instr.lookup 165 (.map (some n)) (.int .i64 k) true).run Tryz.prog (W.alloc (mapOf l)) = .ok (match findE k l 0 with | some (_, v) => .tuple #[v, .bool true] | none => .tuple #[.nilFunc, .bool false]) (W.alloc (mapOf l)) := by
  subst hn
  have hb : (W.alloc (mapOf l)).heap[W.heap.size]? = some (.map (ents l 0).toArray l.length) := heap_alloc_last W _
  have hfk := MapKept.run_findKey (P := Tryz.prog) (w := W.alloc (mapOf l)) (kt := 3) (k := .int .i64 k) Tryz.underlying3 (find_ents k l 0 0)
  have hck : (Instr.checkKey (ents l 0).toArray.isEmpty 10000 3 (.int .i64 k)).run Tryz.prog (W.alloc (mapOf l)) = .ok () (W.alloc (mapOf l)) := MapKept.run_checkKey Tryz.underlying3 (by simp [IsKey]) _ 9999
  unfold Instr.lookup
  simp only [Sem.run_bind, Tryz.runUnderlying165, Result.andThen_ok, MapKept.run_getObj_map hb, hck, hfk, Sem.run_pure]
  cases findE k l 0 with
  | none =>
    simp only [Sem.run_bind, Tryz.zeroValue163, Result.andThen_ok, Sem.run_pure, if_true]
  | some p => simp only [Sem.run_bind, Result.andThen_ok, Sem.run_pure, if_true]
theorem ins_ix (n : Nat) (W : World) (hn : n = W.heap.size) : (Instr.mapUpdate 165 (.map (some n)) (.int .i64 3) (.func (.func 261) #[] #[])).run Tryz.prog (W.alloc (mapOf [])) = .ok () (W.alloc (mapOf [(3, 261)])) := ins_run n W _ _ _ hn rfl
theorem ins_iy (n : Nat) (W : World) (hn : n = W.heap.size) : (Instr.mapUpdate 165 (.map (some n)) (.int .i64 4) (.func (.func 262) #[] #[])).run Tryz.prog (W.alloc (mapOf [(3, 261)])) = .ok () (W.alloc (mapOf [(3, 261), (4, 262)])) := ins_run n W _ _ _ hn rfl
theorem ins_bc (n : Nat) (W : World) (hn : n = W.heap.size) : (Instr.mapUpdate 165 (.map (some n)) (.int .i64 0) (.func (.func 263) #[] #[])).run Tryz.prog (W.alloc (mapOf [])) = .ok () (W.alloc (mapOf [(0, 263)])) := ins_run n W _ _ _ hn rfl
theorem ins_de (n : Nat) (W : World) (hn : n = W.heap.size) : (Instr.mapUpdate 165 (.map (some n)) (.int .i64 1) (.func (.func 264) #[] #[])).run Tryz.prog (W.alloc (mapOf [(0, 263)])) = .ok () (W.alloc (mapOf [(0, 263), (1, 264)])) := ins_run n W _ _ _ hn rfl
theorem ins_hl (n : Nat) (W : World) (hn : n = W.heap.size) : (Instr.mapUpdate 165 (.map (some n)) (.int .i64 2) (.func (.func 265) #[] #[])).run Tryz.prog (W.alloc (mapOf [(0, 263), (1, 264)])) = .ok () (W.alloc (mapOf [(0, 263), (1, 264), (2, 265)])) := ins_run n W _ _ _ hn rfl
theorem ins_sp (n : Nat) (W : World) (hn : n = W.heap.size) : (Instr.mapUpdate 165 (.map (some n)) (.int .i64 3) (.func (.func 266) #[] #[])).run Tryz.prog (W.alloc (mapOf [(0, 263), (1, 264), (2, 265)])) = .ok () (W.alloc (mapOf [(0, 263), (1, 264), (2, 265), (3, 266)])) := ins_run n W _ _ _ hn rfl
attribute [go_sem] mk_run ins_ix ins_iy ins_bc ins_de ins_hl ins_sp look_run findE
theorem flbc_ (n : Nat) (w : World) : Calls Tryz.prog 263 #[.pointer (some ⟨n, 0, none⟩)] w fun e w' => e = .returned (.pointer (some ⟨n, 1, none⟩)) ∧ w = w' := by
  go_enter Tryz.func263, Tryz.ntmps263
  go_wp2
  go_ret
  exact ⟨rfl, rfl⟩
theorem flde_ (n : Nat) (w : World) : Calls Tryz.prog 264 #[.pointer (some ⟨n, 0, none⟩)] w fun e w' => e = .returned (.pointer (some ⟨n, 2, none⟩)) ∧ w = w' := by
  go_enter Tryz.func264, Tryz.ntmps264
  go_wp2
  go_ret
  exact ⟨rfl, rfl⟩
theorem flhl_ (n : Nat) (w : World) : Calls Tryz.prog 265 #[.pointer (some ⟨n, 0, none⟩)] w fun e w' => e = .returned (.pointer (some ⟨n, 3, none⟩)) ∧ w = w' := by
  go_enter Tryz.func265, Tryz.ntmps265
  go_wp2
  go_ret
  exact ⟨rfl, rfl⟩
theorem flix_ (n : Nat) (w : World) : Calls Tryz.prog 261 #[.pointer (some ⟨n, 0, none⟩)] w fun e w' => e = .returned (.pointer (some ⟨n, 8, none⟩)) ∧ w = w' := by
  go_enter Tryz.func261, Tryz.ntmps261
  go_wp2
  go_ret
  exact ⟨rfl, rfl⟩
theorem fliy_ (n : Nat) (w : World) : Calls Tryz.prog 262 #[.pointer (some ⟨n, 0, none⟩)] w fun e w' => e = .returned (.pointer (some ⟨n, 9, none⟩)) ∧ w = w' := by
  go_enter Tryz.func262, Tryz.ntmps262
  go_wp2
  go_ret
  exact ⟨rfl, rfl⟩
theorem flsp_ (n : Nat) (w : World) : Calls Tryz.prog 266 #[.pointer (some ⟨n, 0, none⟩)] w fun e w' => e = .returned (.pointer (some ⟨n, 10, none⟩)) ∧ w = w' := by
  go_enter Tryz.func266, Tryz.ntmps266
  go_wp2
  go_ret
  exact ⟨rfl, rfl⟩
def poff (plane p : Int) : Option Nat := if p = 2 then (if plane = 3 then some 8 else if plane = 4 then some 9 else some 3) else if p = 0 then some 1 else if p = 1 then some 2 else if p = 3 then some 10 else none
def ptrAt (n : Nat) : Option Nat → Value
  | some o => .pointer (some ⟨n, o, none⟩)
  | none => .pointer none
set_option maxRecDepth 20000 in
theorem where_ (n : Nat) (plane p : Int) (w : World) : Calls Tryz.prog 233 #[.pointer (some ⟨n, 0, none⟩), .int .i64 plane, .int .i64 p] w fun e w' => e = .returned (ptrAt n (poff plane p)) ∧ Below w.heap.size w w' := by
  have hc : (p = 2 ∧ plane = 3) ∨ (p = 2 ∧ plane = 4) ∨ (p = 2 ∧ plane ≠ 3 ∧ plane ≠ 4) ∨ p = 0 ∨ p = 1 ∨ p = 3 ∨ (p ≠ 0 ∧ p ≠ 1 ∧ p ≠ 2 ∧ p ≠ 3) := by omega
  rcases hc with ⟨rfl, rfl⟩ | ⟨rfl, rfl⟩ | ⟨rfl, h3, h4⟩ | rfl | rfl | rfl | ⟨h0, h1, h2, h3⟩
  all_goals
    go_enter Tryz.func233, Tryz.ntmps233
    go_wp2_with (first | (go_at_call 263; refine (flbc_ _ _).mono ?_; rintro e w1 ⟨rfl, rfl⟩) | (go_at_call 264; refine (flde_ _ _).mono ?_; rintro e w1 ⟨rfl, rfl⟩) | (go_at_call 265; refine (flhl_ _ _).mono ?_; rintro e w1 ⟨rfl, rfl⟩) | (go_at_call 261; refine (flix_ _ _).mono ?_; rintro e w1 ⟨rfl, rfl⟩) | (go_at_call 262; refine (fliy_ _ _).mono ?_; rintro e w1 ⟨rfl, rfl⟩) | (go_at_call 266; refine (flsp_ _ _).mono ?_; rintro e w1 ⟨rfl, rfl⟩))
    go_ret
    exact ⟨by simp [poff, ptrAt, *], by go_grown⟩
theorem ptrAt_none (n : Nat) : ptrAt n none = .pointer none := rfl
theorem ptrAt_some (n o : Nat) : ptrAt n (some o) = .pointer (some ⟨n, o, none⟩) := rfl
attribute [go_sem] ptrAt_none ptrAt_some
def halfS (plane k : Int) : Option Nat × Bool := if k = 7 then (some 0, true) else if k < 0 ∨ 5 < k then (none, false) else (poff plane (k / 2), k % 2 == 0)
set_option maxRecDepth 20000 in
theorem half_ (n : Nat) (plane k : Int) (w : World) : Calls Tryz.prog 222 #[.pointer (some ⟨n, 0, none⟩), .int .i64 plane, .int .i64 k] w fun e w' => e = .returned (.tuple #[ptrAt n (halfS plane k).1, .bool (halfS plane k).2]) ∧ Below w.heap.size w w' := by
  have hc : (k = 7 ∧ halfS plane k = (some 0, true)) ∨ ((k < 0 ∨ (5 < k ∧ k ≠ 7)) ∧ halfS plane k = (none, false)) ∨ (k = 0 ∧ halfS plane k = (poff plane 0, true)) ∨ (k = 1 ∧ halfS plane k = (poff plane 0, false)) ∨ (k = 2 ∧ halfS plane k = (poff plane 1, true)) ∨
      (k = 3 ∧ halfS plane k = (poff plane 1, false)) ∨ (k = 4 ∧ halfS plane k = (poff plane 2, true)) ∨ (k = 5 ∧ halfS plane k = (poff plane 2, false)) := by
    by_cases h : k < 0 ∨ (5 < k ∧ k ≠ 7)
    · refine .inr (.inl ⟨h, ?_⟩)
      unfold halfS
      rw [if_neg (by omega), if_pos (by omega)]
    · have : k = 7 ∨ k = 0 ∨ k = 1 ∨ k = 2 ∨ k = 3 ∨ k = 4 ∨ k = 5 := by omega
      rcases this with rfl | rfl | rfl | rfl | rfl | rfl | rfl <;> simp [halfS]
  rcases hc with ⟨rfl, e⟩ | ⟨h | ⟨h, h7⟩, e⟩ | ⟨rfl, e⟩ | ⟨rfl, e⟩ | ⟨rfl, e⟩ | ⟨rfl, e⟩ | ⟨rfl, e⟩ | ⟨rfl, e⟩
  all_goals
    rw [e]
    clear e
    go_enter Tryz.func222, Tryz.ntmps222
    go_wp2_with (go_at_call 233; refine (where_ _ _ _ _).mono ?_; rintro e w1 ⟨rfl, hb⟩)
    go_ret2
    first | exact ⟨rfl, hb⟩ | exact ⟨rfl, Below.refl _ _⟩
def R.at (r : R) : Nat → U16
  | 0 => r.af | 1 => r.bc | 2 => r.de | 3 => r.hl | 8 => r.ix | 9 => r.iy | 10 => r.sp | _ => u16 0
def R.putAt (r : R) (o : Nat) (v : U16) : R :=
  match o with
  | 0 => { r with af := v } | 1 => { r with bc := v } | 2 => { r with de := v } | 3 => { r with hl := v } | 8 => { r with ix := v } | 9 => { r with iy := v } | 10 => { r with sp := v } | _ => r
def offOk (o : Nat) : Prop := o = 0 ∨ o = 1 ∨ o = 2 ∨ o = 3 ∨ o = 8 ∨ o = 9 ∨ o = 10
theorem at_get {o : Nat} (h : offOk o) (r : R) : r.cells[o]? = some (.int .u16 (r.at o).v) := by
  rcases h with rfl | rfl | rfl | rfl | rfl | rfl | rfl <;> rfl
theorem at_set {o : Nat} (h : offOk o) (r : R) (v : U16) : r.cells.setIfInBounds o (.int .u16 v.v) = (r.putAt o v).cells := by
  rcases h with rfl | rfl | rfl | rfl | rfl | rfl | rfl <;> rfl
theorem poff_ok {plane p : Int} {o : Nat} (h : poff plane p = some o) : offOk o := by
  unfold poff at h
  unfold offOk
  repeat' split at h
  all_goals first | (cases h; simp) | cases h
theorem halfS_ok {plane k : Int} {o : Nat} {b : Bool} (h : halfS plane k = (some o, b)) : offOk o := by
  unfold halfS at h
  repeat' split at h
  · cases h; simp [offOk]
  · cases h
  · exact poff_ok (Prod.ext_iff.1 h).1

def getR (r : R) (plane k : Int) : U8 := match halfS plane k with
  | (some o, true) => (r.at o).hi
  | (some o, false) => (r.at o).lo
  | (none, _) => u8 0
set_option maxRecDepth 20000 in
theorem rget_ (r : R) (plane k : Int) (w : World) : Calls Tryz.prog 140 #[.agg r.cells, .int .i64 plane, .int .i64 k] w fun e w' => e = .returned (.int .u8 (getR r plane k).v) ∧ Below w.heap.size w w' := by
  unfold getR
  rcases hq : halfS plane k with ⟨o | o, b⟩
  · have hq' := Lib.hid hq
    clear hq
    go_enter Tryz.func140, Tryz.ntmps140
    go_wp2_with (go_at_call 222; refine (half_ _ _ _ _).mono ?_; rw [hq'.out]; rintro e w1 ⟨rfl, hb⟩)
    go_ret
    exact ⟨rfl, bt (by go_grown) hb⟩
  · have ho := at_get (halfS_ok hq) r
    have hq' := Lib.hid hq
    clear hq
    cases b
    all_goals
      go_enter Tryz.func140, Tryz.ntmps140
      go_wp2_with (first | (go_at_call 222; refine (half_ _ _ _ _).mono ?_; rw [hq'.out]; rintro e w1 ⟨rfl, hb⟩; have hc1 : w1.cell? ⟨w.heap.size + 1, o, none⟩ = some (.int .u16 (r.at o).v) := kept hb (by simp [go_sem, ho])) | (go_at_call 66; refine (hi_ _ _).mono ?_; rintro e w2 ⟨rfl, rfl⟩) | (go_at_call 136; refine (lo_ _ _).mono ?_; rintro e w2 ⟨rfl, rfl⟩))
      go_ret
      exact ⟨rfl, bt (by go_grown) hb⟩
/-- The pair at an offset. -/
def getP (r : R) (plane p : Int) : U16 := match poff plane p with
  | some o => r.at o
  | none => u16 0
def setP (r : R) (plane p : Int) (v : U16) : R := match poff plane p with
  | some o => r.putAt o v
  | none => r
set_option maxRecDepth 20000 in
theorem rpair_ (r : R) (plane p : Int) (w : World) : Calls Tryz.prog 147 #[.agg r.cells, .int .i64 plane, .int .i64 p] w fun e w' => e = .returned (.int .u16 (getP r plane p).v) ∧ Below w.heap.size w w' := by
  unfold getP
  rcases hq : poff plane p with _ | o
  · have hq' := Lib.hid hq
    clear hq
    go_enter Tryz.func147, Tryz.ntmps147
    go_wp2_with (go_at_call 233; refine (where_ _ _ _ _).mono ?_; rw [hq'.out]; rintro e w1 ⟨rfl, hb⟩)
    go_ret
    exact ⟨rfl, bt (by go_grown) hb⟩
  · have ho := at_get (poff_ok hq) r
    have hq' := Lib.hid hq
    clear hq
    go_enter Tryz.func147, Tryz.ntmps147
    go_wp2_with (go_at_call 233; refine (where_ _ _ _ _).mono ?_; rw [hq'.out]; rintro e w1 ⟨rfl, hb⟩; have hc1 : w1.cell? ⟨w.heap.size + 1, o, none⟩ = some (.int .u16 (r.at o).v) := kept hb (by simp [go_sem, ho]))
    go_ret
    exact ⟨rfl, bt (by go_grown) hb⟩
theorem asput {w : World} {B : Nat} {c : Array Value} {t : TypeId} (h : w.heap[B]? = some (.cells c t (0, 0))) : put w B c = w := by
  unfold put
  cases w with
  | mk hp tp dr os ou =>
  simp only at h ⊢
  congr 1
  apply Array.ext_getElem?
  intro k
  simp only [Array.getElem?_modify]
  by_cases hk : B = k
  · subst hk; rw [h]; simp
  · simp [hk]
theorem below_put {m B : Nat} {w w1 : World} {c : Array Value} (h : Below m w w1) (hB : m ≤ B) : Below m w (put w1 B c) :=
  ⟨h.os, h.tape, h.output, by rw [put_size]; exact h.size, fun k hk => by rw [put_off (by omega)]; exact h.block k hk⟩
theorem three {w w1 : World} {o : Obj} {a b : Array Value} {t u : TypeId} (hb : Below (((w.alloc o).alloc (.cells a t)).alloc (.cells b u)).heap.size (((w.alloc o).alloc (.cells a t)).alloc (.cells b u)) w1) :
    ∃ w2, w1 = put (put w2 (w.heap.size + 1) a) (w.heap.size + 1 + 1) b ∧ Below w.heap.size w w2 ∧ Inb (w.heap.size + 1) w2 ∧ Inb (w.heap.size + 1 + 1) w2 := by
  have hs := hb.size
  simp only [World.size_alloc] at hs
  have e2 : w1.heap[w.heap.size + 1 + 1]? = some (.cells b u (0, 0)) := by
    rw [hb.block _ (by simp)]
    have := heap_alloc_last ((w.alloc o).alloc (.cells a t)) (.cells b u)
    simpa using this
  have e1 : w1.heap[w.heap.size + 1]? = some (.cells a t (0, 0)) := by
    rw [hb.block _ (by simp)]
    have e0 : (((w.alloc o).alloc (.cells a t)).alloc (.cells b u)).heap[w.heap.size + 1]? = ((w.alloc o).alloc (.cells a t)).heap[w.heap.size + 1]? := by
      show (((w.alloc o).alloc (.cells a t)).heap.push (.cells b u))[w.heap.size + 1]? = _
      rw [Array.getElem?_push, if_neg (by simp)]
    rw [e0]
    have := heap_alloc_last (w.alloc o) (.cells a t)
    simpa using this
  refine ⟨w1, ?_, bt (by go_grown) hb, by unfold Inb; omega, by unfold Inb; omega⟩
  rw [asput e1, asput e2]
theorem three0 {w w1 : World} {c a b : Array Value} {s t u : TypeId} (hb : Below (((w.alloc (.cells c s)).alloc (.cells a t)).alloc (.cells b u)).heap.size (((w.alloc (.cells c s)).alloc (.cells a t)).alloc (.cells b u)) w1) :
    ∃ w2, w1 = put (put w2 (w.heap.size + 1) a) (w.heap.size + 1 + 1) b ∧ Below w.heap.size w w2 ∧ Inb (w.heap.size + 1) w2 ∧ Inb (w.heap.size + 1 + 1) w2 ∧ blk w2 w.heap.size = c ∧ w.heap.size < w2.heap.size := by
  obtain ⟨w2, e, h1, h2, h3⟩ := three hb
  refine ⟨w2, e, h1, h2, h3, ?_, by unfold Inb at h2; omega⟩
  have e1 : blk w1 w.heap.size = c := by
    unfold blk
    rw [hb.block _ (by simp; omega)]
    have e0 : (((w.alloc (.cells c s)).alloc (.cells a t)).alloc (.cells b u)).heap[w.heap.size]? = some (.cells c s (0, 0)) := by
      have := heap_alloc_last w (.cells c s)
      show ((((w.alloc (.cells c s)).heap.push (.cells a t))).push (.cells b u))[w.heap.size]? = _
      rw [Array.getElem?_push, if_neg (by simp; omega), Array.getElem?_push, if_neg (by simp), this]
    rw [e0]
  rw [e, blk_put_off (by omega), blk_put_off (by omega)] at e1
  exact e1
theorem nn1 (n : Nat) : (n + 1 = n + 1 + 1) = False := by simp
set_option maxRecDepth 20000 in
theorem rsetpair_ (r : R) (plane p : Int) (v : U16) (w : World) : Calls Tryz.prog 151 #[.agg r.cells, .int .i64 plane, .int .i64 p, .int .u16 v.v] w fun e w' => e = .returned (.agg (setP r plane p v).cells) ∧ Below w.heap.size w w' := by
  unfold setP
  rcases hq : poff plane p with _ | o
  · have hq' := Lib.hid hq
    clear hq
    go_enter Tryz.func151, Tryz.ntmps151
    go_wp2_with (go_at_call 233; refine (where_ _ _ _ _).mono ?_; rw [hq'.out]; rintro e w1 ⟨rfl, hb⟩; obtain ⟨w2, rfl, hb2, i1, i2⟩ := three hb; clear hb)
    refine ret_regs rfl (w.heap.size + 1) rfl r ?_ rfl ⟨rfl, below_put (below_put hb2 (by omega)) (by omega)⟩
    simp [go_sem, i1]
  · have ho := at_get (poff_ok hq) r
    have hs := at_set (poff_ok hq) r v
    have hq' := Lib.hid hq
    clear hq
    go_enter Tryz.func151, Tryz.ntmps151
    go_wp2_with (go_at_call 233; refine (where_ _ _ _ _).mono ?_; rw [hq'.out]; rintro e w1 ⟨rfl, hb⟩; obtain ⟨w2, rfl, hb2, i1, i2⟩ := three hb; clear hb)
    refine ret_regs rfl (w.heap.size + 1) rfl (r.putAt o v) ?_ rfl ⟨rfl, below_put (below_put hb2 (by omega)) (by omega)⟩
    simp [go_sem, i1]
end Go.Proofs.YtnaampdpkegacaaGreatDoor

namespace Go.Proofs.YtnaampdpkegacaaGreatDoor
open Go.RowKit

set_option maxRecDepth 20000 in
theorem rset1_ (m n o : Nat) (h l : U8) (w : World) (x : Value) (hc : w.cell? ⟨m, 0, none⟩ = some (.pointer (some ⟨n, o, none⟩))) (hx : w.cell? ⟨n, o, none⟩ = some x) (hf : w.frozen? ⟨n, o, none⟩ = false) :
    Calls Tryz.prog 232 #[.int .u8 h.v, .int .u8 l.v, .pointer (some ⟨m, 0, none⟩)] w fun e w' => e = .returned (.tuple #[]) ∧ w.drew.setCell ⟨n, o, none⟩ (.int .u16 (h.word l).v) = w' := by
  go_enter Tryz.func232, Tryz.ntmps232
  go_wp2_with fail
  refine still_tail 5 (by kernel_rfl) (by kernel_rfl) ?_
  simp only [List.take_succ_cons, List.take_zero, List.drop_succ_cons, List.drop_zero]
  repeat (first | still_step | (refine wpStill_step (fun K hK => ?_); go_simp; refine ⟨_, (word_ _ _ (U8.h0 _) (U8.h1 _) (U8.h0 _) (U8.h1 _) _).mono (fun e w' h => ⟨h.1, h.2.symm⟩), hK _ ?_⟩; clear hK K))
  refine wpStill_nil ?_
  go_wp2
  exact bodyPost_end (results_none rfl _ _ _) rfl ⟨rfl, rfl⟩
/-- One of 8 bits, set. -/
def setR (r : R) (plane k : Int) (b : U8) : R := match halfS plane k with
  | (some o, true) => r.putAt o (b.word (r.at o).lo)
  | (some o, false) => r.putAt o ((r.at o).hi.word b)
  | (none, _) => r
set_option maxHeartbeats 2000000 in
set_option maxRecDepth 20000 in
theorem rset_ (r : R) (plane k : Int) (v : U8) (w : World) : Calls Tryz.prog 145 #[.agg r.cells, .int .i64 plane, .int .i64 k, .int .u8 v.v] w fun e w' => e = .returned (.agg (setR r plane k v).cells) ∧ Below w.heap.size w w' := by
  have hmf : ∀ (fn : Fn) (first cap : Array Value) (w : World), (Instr.makeFunc fn first cap).run Tryz.prog w = .ok (.func fn first cap) w := fun _ _ _ _ => rfl
  unfold setR
  rcases hq : halfS plane k with ⟨o | o, b⟩
  · have hq' := Lib.hid hq
    clear hq
    go_enter Tryz.func145, Tryz.ntmps145
    go_wp2_with (go_at_call 222; refine (half_ _ _ _ _).mono ?_; rw [hq'.out]; rintro e w1 ⟨rfl, hb⟩; obtain ⟨w2, rfl, hb2, i1, i2, hk, m0⟩ := three0 hb; clear hb; have m1 : ¬ w2.heap.size = w.heap.size + 1 := i1.ne; have m2 : ¬ w2.heap.size = w.heap.size + 1 + 1 := i2.ne; have c1 : ¬ w.heap.size = w.heap.size + 1 := (by omega); have c2 : ¬ w.heap.size = w.heap.size + 1 + 1 := (by omega))
    refine ret_regs rfl (w.heap.size + 1) rfl r ?_ rfl ⟨rfl, below_put (below_put (bt hb2 (by go_grown)) (by omega)) (by omega)⟩
    simp [go_sem, i1]
  · have ho := at_get (halfS_ok hq) r
    have hs := at_set (halfS_ok hq) r
    have hq' := Lib.hid hq
    clear hq
    cases b
    all_goals
      go_enter Tryz.func145, Tryz.ntmps145
      go_wp2_with (first | (go_at_call 222; refine (half_ _ _ _ _).mono ?_; rw [hq'.out]; rintro e w1 ⟨rfl, hb⟩; obtain ⟨w2, rfl, hb2, i1, i2, hk, m0⟩ := three0 hb; clear hb; have m1 : ¬ w2.heap.size = w.heap.size + 1 := i1.ne; have m2 : ¬ w2.heap.size = w.heap.size + 1 + 1 := i2.ne; have c1 : ¬ w.heap.size = w.heap.size + 1 := (by omega); have c2 : ¬ w.heap.size = w.heap.size + 1 + 1 := (by omega)) | (go_at_call 232; refine (rset1_ _ (w.heap.size + 1 + 1) o _ _ _ (.int .u16 (r.at o).v) (by simp [go_sem, *]) (by simp [go_sem, *]) (by simp [go_sem, *])).mono ?_; rintro e w3 ⟨rfl, rfl⟩) | (go_at_call 66; refine (hi_ _ _).mono ?_; rintro e w2 ⟨rfl, rfl⟩) | (go_at_call 136; refine (lo_ _ _).mono ?_; rintro e w3 ⟨rfl, rfl⟩))
    · refine ret_regs rfl (w.heap.size + 1) rfl (r.putAt o ((r.at o).hi.word v)) ?_ rfl ⟨rfl, below_put (below_put (bt hb2 (by go_grown)) (by omega)) (by omega)⟩
      simp [go_sem, i1]
    · refine ret_regs rfl (w.heap.size + 1) rfl (r.putAt o (v.word (r.at o).lo)) ?_ rfl ⟨rfl, below_put (below_put (bt hb2 (by go_grown)) (by omega)) (by omega)⟩
      simp [go_sem, i1]
end Go.Proofs.YtnaampdpkegacaaGreatDoor

namespace Go.Proofs.YtnaampdpkegacaaGreatDoor
open Go.RowKit

def fx (c : U8) : Int := c.v / 64
def fy (c : U8) : Int := c.v / 8 % 8
def fz (c : U8) : Int := c.v % 8
theorem fx_fold (c : U8) : wrap64 (c.v / 64) = fx c := by have := c.h0; have := c.h1; unfold wrap64 fx; omega
theorem fy_fold (c : U8) : wrap64 (bits .and .u8 (c.v / 8) 7) = fy c := by
  have h : ∀ n : Fin 256, wrap64 (bits .and .u8 ((n.val : Int) / 8) 7) = (n.val : Int) / 8 % 8 := by decide +kernel
  obtain ⟨v, h0, h1⟩ := c
  have := h ⟨v.toNat, by omega⟩
  simp only [Int.toNat_of_nonneg h0] at this
  exact this
theorem fz_fold (c : U8) : wrap64 (bits .and .u8 c.v 7) = fz c := by
  have h : ∀ n : Fin 256, wrap64 (bits .and .u8 (n.val : Int) 7) = (n.val : Int) % 8 := by decide +kernel
  obtain ⟨v, h0, h1⟩ := c
  have := h ⟨v.toNat, by omega⟩
  simp only [Int.toNat_of_nonneg h0] at this
  exact this
theorem fq_fold (c : U8) : bits .and .i64 (fy c) 1 = fy c % 2 := by
  have h : ∀ n : Fin 8, bits .and .i64 (n.val : Int) 1 = (n.val : Int) % 2 := by decide +kernel
  have h0 : 0 ≤ fy c := by unfold fy; omega
  have h1 : fy c < 8 := by unfold fy; omega
  have := h ⟨(fy c).toNat, by omega⟩
  simp only [Int.toNat_of_nonneg h0] at this
  exact this
attribute [go_sem] fx_fold fy_fold fz_fold fq_fold
theorem results_tmp5 {fn : Func} {t u v x y : Tmp} (h : fn.results = #[.tmp t, .tmp u, .tmp v, .tmp x, .tmp y]) (tmps : Array Value) (P : Program) (w : World) :
    (results fn tmps).run P w = .ok (.tuple #[tmps.getD t undef, tmps.getD u undef, tmps.getD v undef, tmps.getD x undef, tmps.getD y undef]) w := by
  simp [results, h]
theorem fields_ (c : U8) (w : World) : Calls Tryz.prog 62 #[.int .u8 c.v] w fun e w' => e = .returned (.tuple #[.int .i64 (fx c), .int .i64 (fy c), .int .i64 (fz c), .int .i64 (fy c / 2), .int .i64 (fy c % 2)]) ∧ w = w' := by
  go_enter Tryz.func62, Tryz.ntmps62
  go_wp2
  refine bodyPost_ret (results_tmp5 rfl _ _ _) rfl ⟨?_, rfl⟩
  show Ending.returned (.tuple #[.int .i64 (wrap64 (c.v / 64)), .int .i64 (wrap64 (bits .and .u8 (c.v / 8) 7)), .int .i64 (wrap64 (bits .and .u8 c.v 7)), .int .i64 (fy c / 2), .int .i64 (fy c % 2)]) = _
  rw [fx_fold, fy_fold, fz_fold]
/-- Has the instruction a displacement. -/
def nearS (plane : Int) (c : U8) : Bool :=
  if plane = 5 ∨ plane = 6 then true else if plane ≠ 3 ∧ plane ≠ 4 then false else
    (decide (fx c = 0) && decide (fy c = 6) && decide (4 ≤ fz c) && decide (fz c ≤ 6)) || (decide (fx c = 1) && (decide (fy c = 6) != decide (fz c = 6))) || (decide (fx c = 2) && decide (fz c = 6))
theorem six_ne {a b : Int} (hn : ¬(a == 6) = (b == 6)) : (decide (a = 6) != decide (b = 6)) = true := by
  have e : ∀ x : Int, decide (x = 6) = (x == 6) := fun x => by by_cases h : x = 6 <;> simp [h]
  rw [e, e]
  exact bne_iff_ne.2 hn
theorem dnear_ (plane : Int) (c : U8) (w : World) : Calls Tryz.prog 223 #[.int .i64 plane, .int .u8 c.v] w fun e w' => e = .returned (.bool (nearS plane c)) ∧ w = w' := by
  by_cases h1 : plane = 5 ∨ plane = 6
  · have e := Lib.hid (show nearS plane c = true by unfold nearS; rw [if_pos h1])
    rcases h1 with rfl | rfl
    all_goals
      go_enter Tryz.func223, Tryz.ntmps223
      go_wp2
      go_ret
      exact ⟨by rw [e.out]; rfl, rfl⟩
  · by_cases h2 : plane ≠ 3 ∧ plane ≠ 4
    · have e := Lib.hid (show nearS plane c = false by unfold nearS; rw [if_neg h1, if_pos h2])
      obtain ⟨h3, h4⟩ := h2
      have h5 : plane ≠ 5 := fun h => h1 (.inl h)
      have h6 : plane ≠ 6 := fun h => h1 (.inr h)
      clear h1
      have b5 : (plane == 5) = false := by simpa using h5
      have b6 : (plane == 6) = false := by simpa using h6
      have b3 : (plane != 3) = true := by simpa using h3
      have b4 : (plane != 4) = true := by simpa using h4
      go_enter Tryz.func223, Tryz.ntmps223
      go_wp2
      go_ret
      exact ⟨by rw [e.out]; rfl, rfl⟩
    · have h3 : plane = 3 ∨ plane = 4 := by omega
      have x0 : 0 ≤ fx c := by have := c.h0; unfold fx; omega
      have y0 : 0 ≤ fy c := by unfold fy; omega
      have z0 : 0 ≤ fz c := by unfold fz; omega
      rcases h3 with rfl | rfl
      all_goals
        clear h1 h2
        go_enter Tryz.func223, Tryz.ntmps223
        go_wp2_with (go_at_call 62; refine (fields_ _ _).mono ?_; rintro e w1 ⟨rfl, rfl⟩)
      all_goals
        go_ret
        refine ⟨?_, rfl⟩
        unfold nearS
        rw [if_neg (by decide), if_neg (by decide)]
        first
          | (simp [*]; done)
          | (simp [*]; omega)
          | (by_cases hy : fy c = 6 <;> by_cases hz : fz c = 6 <;> simp_all <;> done)
          | (rename_i hn
             have e1 : fx c = 1 := by assumption
             rw [six_ne hn, e1]
             rfl)
def ofS (plane : Int) (code : U8) : PM Unit := PM.mod fun s => { s with plane := plane, code := code, x := fx code, y := fy code, z := fz code, p := fy code / 2, q := fy code % 2 }
set_option maxRecDepth 4000 in
theorem ofW_ (B : Nat) (plane : Int) (code : U8) (s : PS) (w : World) (hI : Inv B w s.gv s.got) : Calls Tryz.prog 42 #[.pointer (some ⟨B, 0, none⟩), .int .i64 plane, .int .u8 code.v] (put w B s.cells) (Post B w eU (run (ofS plane code) s)) := by
  have hi := hI.inb
  have hb0 := Below.refl w.heap.size w
  go_enter Tryz.func42, Tryz.ntmps42
  go_wp2_with (go_at_call 62; refine (fields_ _ _).mono ?_; rintro e w1 ⟨rfl, rfl⟩)
  exact bodyPost_end (results_none rfl _ _ _) rfl (Post.done (v := ()) (run_mod _ _) rfl hb0 hI)
end Go.Proofs.YtnaampdpkegacaaGreatDoor

namespace Go.Proofs.YtnaampdpkegacaaGreatDoor
open Go.RowKit

def U16.mv (x : U16) (b : Int) : U16 := ⟨mov x.v b, by unfold mov; omega, by unfold mov; omega⟩
/-- The plane through which registers are asked. -/
def thr (s : CS) : Int := if nearS s.plane s.code then 0 else s.plane
set_option maxRecDepth 4000 in
theorem throughW_ (B : Nat) (s : PS) (w : World) (hI : Inv B w s.gv s.got) : Calls Tryz.prog 141 #[.pointer (some ⟨B, 0, none⟩)] (put w B s.cells) fun e w' => e = .returned (.int .i64 (thr s.toCS)) ∧ put w.drew B s.cells = w' := by
  have hi := hI.inb
  rcases (Bool.eq_false_or_eq_true (nearS s.plane s.code)).symm with hq | hq
  all_goals
    have hq' := Lib.hid hq
    clear hq
    unfold thr
    rw [hq'.out]
    go_enter Tryz.func141, Tryz.ntmps141
    go_wp2_with fail
    refine still_tail 8 (by kernel_rfl) (by kernel_rfl) ?_
    simp only [List.take_succ_cons, List.take_zero, List.drop_succ_cons, List.drop_zero, put_drew]
    replace hi := Inv.inb (Inv.drew hI)
    repeat still_step
    refine wpStill_nil ?_
    go_wp2_with (go_at_call 223; refine (dnear_ _ _ _).mono ?_; rw [hq'.out]; rintro e w1 ⟨rfl, rfl⟩)
    go_ret
    exact ⟨rfl, rfl⟩
set_option maxRecDepth 4000 in
theorem pairW_ (B : Nat) (p : Int) (s : PS) (w : World) (hI : Inv B w s.gv s.got) : Calls Tryz.prog 74 #[.pointer (some ⟨B, 0, none⟩), .int .i64 p] (put w B s.cells) fun e w' => e = .returned (.int .u16 (getP s.r s.plane p).v) ∧ Below (put w B s.cells).heap.size (put w B s.cells) w' := by
  have hi := hI.inb
  go_enter Tryz.func74, Tryz.ntmps74
  go_wp2_with fail
  refine still_tail 9 (by kernel_rfl) (by kernel_rfl) ?_
  simp only [List.take_succ_cons, List.take_zero, List.drop_succ_cons, List.drop_zero, put_drew]
  replace hi := Inv.inb (Inv.drew hI)
  repeat still_step
  refine wpStill_nil ?_
  go_wp2_with (go_at_call 147; refine (rpair_ _ _ _ _).mono ?_; rintro e w1 ⟨rfl, hb⟩)
  go_ret
  exact ⟨rfl, bt (by rw [← put_drew]; exact (Below.refl _ _).drew) hb⟩
def mvS (by' : U8) : PM Unit := PM.mod fun s => { s with at' := (getP s.r s.plane 2).mv (sgn by'.v), known := true, r := { s.r with wz := (getP s.r s.plane 2).mv (sgn by'.v) } }
theorem holdsW_ (B : Nat) (cond : Int) (s : PS) (w : World) (hI : Inv B w s.gv s.got) : Calls Tryz.prog 88 #[.pointer (some ⟨B, 0, none⟩), .int .i64 cond] (put w B s.cells) fun e w' => e = .returned (.bool (tst s.r.af.lo.v cond)) ∧ Below (put w B s.cells).heap.size (put w B s.cells) w' := by
  have hi := hI.inb
  go_enter Tryz.func88, Tryz.ntmps88
  go_wp2_with (first | (go_at_call 68; refine (fW_ B _ _ (by assumption)).mono ?_; rintro e w1 ⟨rfl, rfl⟩) | (go_at_call 168; refine (test_ _ _ _).mono ?_; rintro e w1 ⟨rfl, hb⟩))
  go_ret
  exact ⟨rfl, hb⟩
theorem carryW_ (B : Nat) (s : PS) (w : World) (hI : Inv B w s.gv s.got) : Calls Tryz.prog 163 #[.pointer (some ⟨B, 0, none⟩)] (put w B s.cells) fun e w' => e = .returned (.bool (bit 0 s.r.af.lo.v)) ∧ put w B s.cells = w' := by
  have hi := hI.inb
  go_enter Tryz.func163, Tryz.ntmps163
  go_wp2_with (go_at_call 68; refine (fW_ B _ _ (by assumption)).mono ?_; rintro e w1 ⟨rfl, rfl⟩)
  go_ret
  exact ⟨ret_bool (ne1 _), rfl⟩
theorem mv_fold (x : U16) (b : Int) : mov x.v b = (x.mv b).v := rfl
attribute [go_sem] mv_fold
theorem nearW_ (B : Nat) (b : U8) (s : PS) (w : World) (hI : Inv B w s.gv s.got) : Calls Tryz.prog 45 #[.pointer (some ⟨B, 0, none⟩), .int .u8 b.v] (put w B s.cells) (Post B w eU (run (mvS b) s)) := by
  have hi := hI.inb
  have hb0 := Below.refl w.heap.size w
  go_enter Tryz.func45, Tryz.ntmps45
  go_wp2_with (first | (go_at_call 74; refine (pairW_ B _ _ _ (by assumption)).mono ?_; rintro e w1 ⟨rfl, hb⟩; obtain ⟨w2, rfl, hb2⟩ := unput hi hb; replace hb0 := bt hb0 hb2; replace hI := hI.kept hb2; have hi := hI.inb) | (go_at_call 73; refine (near_ _ _ (U8.h0 _) (U8.h1 _) _).mono ?_; rintro e w1 ⟨rfl, rfl⟩))
  exact bodyPost_end (results_none rfl _ _ _) rfl (Post.done (v := ()) (run_mod _ _) rfl hb0 hI)
def setPairS (p : Int) (v : U16) : PM Unit := PM.mod fun s => { s with r := setP s.r s.plane p v }
set_option maxRecDepth 4000 in
theorem setPairW_ (B : Nat) (p : Int) (v : U16) (s : PS) (w : World) (hI : Inv B w s.gv s.got) : Calls Tryz.prog 77 #[.pointer (some ⟨B, 0, none⟩), .int .i64 p, .int .u16 v.v] (put w B s.cells) (Post B w eU (run (setPairS p v) s)) := by
  have hi := hI.inb
  go_enter Tryz.func77, Tryz.ntmps77
  go_wp2_with fail
  go_region_with (go_at_call 151; refine (rsetpair_ _ _ _ _ _).mono ?_; rintro e w1 ⟨rfl, hb⟩; obtain ⟨w2, rfl, hb2⟩ := unput (by first | exact hi | (simpa [go_sem] using hi)) hb; have hi2 : Inb B w2 := Inb.kept (by first | exact hi | (simpa [go_sem] using hi)) hb2)
  all_goals
    have hb3 : Below w.heap.size w w2 := bt (Below.refl _ _).drew hb2
    exact bodyPost_end (results_none rfl _ _ _) rfl (Post.done (v := ()) (run_mod _ _) rfl hb3 (hI.kept hb3))
end Go.Proofs.YtnaampdpkegacaaGreatDoor

namespace Go.Proofs.YtnaampdpkegacaaGreatDoor
open Go.RowKit
def whereS : PM U16 := do
  let s ← PM.get
  if s.known then pure s.at' else do
    PM.mod fun s => { s with known := true, at' := s.r.hl }
    if s.plane = 3 ∨ s.plane = 4 then do
      let b ← numberS
      mvS b
      statesS 5
      let s ← PM.get
      pure s.at'
    else pure s.r.hl
set_option maxRecDepth 4000 in
theorem whereW_ (B : Nat) (s : PS) (w : World) (hI : Inv B w s.gv s.got) : Calls Tryz.prog 139 #[.pointer (some ⟨B, 0, none⟩)] (put w B s.cells) (Post B w e16 (run whereS s)) := by
  have hi := hI.inb
  have hb0 := Below.refl w.heap.size w
  have hp : (s.plane = 3 ∨ s.plane = 4) ∨ (¬ s.plane = 3 ∧ ¬ s.plane = 4 ∧ (s.plane == 3) = false ∧ (s.plane == 4) = false) := by simp only [beq_eq_false_iff_ne]; omega
  rcases hp with (hp | hp) | ⟨hp, hp2, b3, b4⟩
  all_goals
   go_enter Tryz.func139, Tryz.ntmps139
   go_wp2_with (first | (go_at_call 46; refine (numberW_ B _ _ (by assumption)).mono (Post.thru hb0 (fun c s1 w1 hq hb0 hi => ?_) (fun v s1 w1 hq hb0 hI hi => ?_))) | (go_at_call 45; refine (nearW_ B _ _ _ (by assumption)).mono (Post.thru hb0 (fun c s1 w1 hq hb0 hi => ?_) (fun v s1 w1 hq hb0 hI hi => ?_))) | (go_at_call 47; refine (statesW_ B _ _ _ (by assumption)).mono (Post.thru hb0 (fun c s1 w1 hq hb0 hi => ?_) (fun v s1 w1 hq hb0 hI hi => ?_))))
  all_goals first
    | (refine ⟨rfl, Post.err _ ?_ hb0 hi⟩; simp [whereS, *]; done)
    | (go_ret; refine Post.done ?_ rfl hb0 hI; simp [whereS, *]; done)
def getS (k : Int) : PM U8 := do
  if k = 6 then do
    let a ← whereS
    readS a
  else do
    let s ← PM.get
    pure (getR s.r (thr s) k)
def setS (k : Int) (b : U8) : PM Unit := do
  if k = 6 then do
    let a ← whereS
    writeS a b
  else PM.mod fun s => { s with r := setR s.r (thr s) k b }
theorem Post.relax {α : Type} {B : Nat} {w : World} {enc : α → Value} {m : Except Cyc (α × PS)} {e : Ending} {w' : World} (h : Post B w.drew enc m e w') : Post B w enc m e w' := by
  unfold Post at *
  cases m with
  | error c => obtain ⟨h1, s1, w1, h2, h3, h4⟩ := h; exact ⟨h1, s1, w1, h2, undrew h3, h4⟩
  | ok p => obtain ⟨h1, w1, h2, h3, h4⟩ := h; exact ⟨h1, w1, h2, undrew h3, h4⟩
set_option maxRecDepth 4000 in
theorem getW_ (B : Nat) (k : Int) (s : PS) (w : World) (hI : Inv B w s.gv s.got) : Calls Tryz.prog 65 #[.pointer (some ⟨B, 0, none⟩), .int .i64 k] (put w B s.cells) (Post B w e8 (run (getS k) s)) := by
  have hi := hI.inb
  have hb0 := Below.refl w.heap.size w
  by_cases hk : k = 6
  · go_enter Tryz.func65, Tryz.ntmps65
    go_wp2_with (first | (go_at_call 139; refine (whereW_ B _ _ (by assumption)).mono (Post.thru hb0 (fun c s1 w1 hq hb0 hi => ?_) (fun v s1 w1 hq hb0 hI hi => ?_))) | (go_at_call 75; refine (readW_ B _ _ _ (by assumption)).mono (Post.thru hb0 (fun c s1 w1 hq hb0 hi => ?_) (fun v s1 w1 hq hb0 hI hi => ?_))))
    all_goals first
      | (refine ⟨rfl, Post.err _ ?_ hb0 hi⟩; simp [getS, *]; done)
      | (go_ret; refine Post.done ?_ rfl hb0 hI; simp [getS, *]; done)
  · go_enter Tryz.func65, Tryz.ntmps65
    go_wp2_with fail
    go_region_with (first | (go_at_call 141; refine (throughW_ B _ _ (by first | exact hI | exact hI.drew)).mono ?_; rintro e w1 ⟨rfl, rfl⟩) | (go_at_call 140; refine (rget_ _ _ _ _).mono ?_; rintro e w1 ⟨rfl, hb⟩))
    all_goals
      obtain ⟨w2, rfl, hb2⟩ := unput hI.drew.drew.inb hb
      have hb3 : Below w.heap.size w w2 := undrew (undrew hb2)
      go_wp2
      go_ret
      refine Post.done ?_ rfl hb3 (hI.kept hb3)
      simp [getS, *]
set_option maxRecDepth 4000 in
theorem setW_ (B : Nat) (k : Int) (b : U8) (s : PS) (w : World) (hI : Inv B w s.gv s.got) : Calls Tryz.prog 72 #[.pointer (some ⟨B, 0, none⟩), .int .i64 k, .int .u8 b.v] (put w B s.cells) (Post B w eU (run (setS k b) s)) := by
  have hi := hI.inb
  have hb0 := Below.refl w.heap.size w
  by_cases hk : k = 6
  · go_enter Tryz.func72, Tryz.ntmps72
    go_wp2_with (first | (go_at_call 139; refine (whereW_ B _ _ (by assumption)).mono (Post.thru hb0 (fun c s1 w1 hq hb0 hi => ?_) (fun v s1 w1 hq hb0 hI hi => ?_))) | (go_at_call 131; refine (writeW_ B _ _ _ _ (by assumption)).mono (Post.thru hb0 (fun c s1 w1 hq hb0 hi => ?_) (fun v s1 w1 hq hb0 hI hi => ?_))))
    all_goals first
      | (refine ⟨rfl, Post.err _ ?_ hb0 hi⟩; simp [setS, *]; done)
      | (refine bodyPost_ret (results_none rfl _ _ _) rfl (Post.done (v := ()) ?_ rfl hb0 hI); simp [setS, *]; done)
  · have hid : Inb B w.drew.drew := hI.drew.drew.inb
    go_enter Tryz.func72, Tryz.ntmps72
    go_wp2_with fail
    go_region_with (first | (go_at_call 141; refine (throughW_ B _ _ (by first | exact hI | exact hI.drew)).mono ?_; rintro e w1 ⟨rfl, rfl⟩) | (go_at_call 145; refine (rset_ _ _ _ _ _).mono ?_; rintro e w1 ⟨rfl, hb⟩; obtain ⟨w2, rfl, hb2⟩ := unput hid hb; have hi2 : Inb B w2 := Inb.kept hid hb2))
    all_goals
      have hb3 : Below w.heap.size w w2 := undrew (undrew hb2)
      exact bodyPost_end (results_none rfl _ _ _) rfl (Post.done (v := ()) (by simp [setS, *]) rfl hb3 (hI.kept hb3))
end Go.Proofs.YtnaampdpkegacaaGreatDoor

namespace Go.Proofs.YtnaampdpkegacaaGreatDoor
open Go.RowKit

/-! Bytes of bits, against each other. -/
theorem mk_or (s z y h x p n c s' z' y' h' x' p' n' c' : Bool) : bits .or .u8 (mk s z y h x p n c) (mk s' z' y' h' x' p' n' c') = mk (s || s') (z || z') (y || y') (h || h') (x || x') (p || p') (n || n') (c || c') := by
  have hr := bits_range .or (mk s z y h x p n c) (mk s' z' y' h' x' p' n' c')
  have hm := mk_range (s || s') (z || z') (y || y') (h || h') (x || x') (p || p') (n || n') (c || c')
  refine byte_ext hr.1 hr.2 hm.1 hm.2 ?_ ?_ ?_ ?_ ?_ ?_ ?_ ?_ <;> simp (disch := decide) only [bit_or, bit7_mk, bit6_mk, bit5_mk, bit4_mk, bit3_mk, bit2_mk, bit1_mk, bit0_mk]
theorem mk_and (s z y h x p n c s' z' y' h' x' p' n' c' : Bool) : bits .and .u8 (mk s z y h x p n c) (mk s' z' y' h' x' p' n' c') = mk (s && s') (z && z') (y && y') (h && h') (x && x') (p && p') (n && n') (c && c') := by
  have hr := bits_range .and (mk s z y h x p n c) (mk s' z' y' h' x' p' n' c')
  have hm := mk_range (s && s') (z && z') (y && y') (h && h') (x && x') (p && p') (n && n') (c && c')
  refine byte_ext hr.1 hr.2 hm.1 hm.2 ?_ ?_ ?_ ?_ ?_ ?_ ?_ ?_ <;> simp (disch := decide) only [bit_and, bit7_mk, bit6_mk, bit5_mk, bit4_mk, bit3_mk, bit2_mk, bit1_mk, bit0_mk]
theorem mk_xor (s z y h x p n c s' z' y' h' x' p' n' c' : Bool) : bits .xor .u8 (mk s z y h x p n c) (mk s' z' y' h' x' p' n' c') = mk (s ^^ s') (z ^^ z') (y ^^ y') (h ^^ h') (x ^^ x') (p ^^ p') (n ^^ n') (c ^^ c') := by
  have hr := bits_range .xor (mk s z y h x p n c) (mk s' z' y' h' x' p' n' c')
  have hm := mk_range (s ^^ s') (z ^^ z') (y ^^ y') (h ^^ h') (x ^^ x') (p ^^ p') (n ^^ n') (c ^^ c')
  refine byte_ext hr.1 hr.2 hm.1 hm.2 ?_ ?_ ?_ ?_ ?_ ?_ ?_ ?_ <;> simp (disch := decide) only [bit_xor, bit7_mk, bit6_mk, bit5_mk, bit4_mk, bit3_mk, bit2_mk, bit1_mk, bit0_mk]
theorem mk_andNot (s z y h x p n c s' z' y' h' x' p' n' c' : Bool) : bits .andNot .u8 (mk s z y h x p n c) (mk s' z' y' h' x' p' n' c') = mk (s && !s') (z && !z') (y && !y') (h && !h') (x && !x') (p && !p') (n && !n') (c && !c') := by
  have hr := bits_range .andNot (mk s z y h x p n c) (mk s' z' y' h' x' p' n' c')
  have hm := mk_range (s && !s') (z && !z') (y && !y') (h && !h') (x && !x') (p && !p') (n && !n') (c && !c')
  refine byte_ext hr.1 hr.2 hm.1 hm.2 ?_ ?_ ?_ ?_ ?_ ?_ ?_ ?_ <;> simp (disch := decide) only [bit_andNot, bit7_mk, bit6_mk, bit5_mk, bit4_mk, bit3_mk, bit2_mk, bit1_mk, bit0_mk]
theorem to_mk (x : Int) (h0 : 0 ≤ x) (h1 : x ≤ 255) : x = mk (bit 7 x) (bit 6 x) (bit 5 x) (bit 4 x) (bit 3 x) (bit 2 x) (bit 1 x) (bit 0 x) := (mk_bit x h0 h1).symm
theorem mk_1 : (1 : Int) = mk false false false false false false false true := rfl
theorem mk_2 : (2 : Int) = mk false false false false false false true false := rfl
theorem mk_4 : (4 : Int) = mk false false false false false true false false := rfl
theorem mk_16 : (16 : Int) = mk false false false true false false false false := rfl
theorem mk_18 : (18 : Int) = mk false false false true false false true false := rfl
theorem mk_19 : (19 : Int) = mk false false false true false false true true := rfl
theorem mk_40 : (40 : Int) = mk false false true false true false false false := rfl
theorem mk_64 : (64 : Int) = mk false true false false false false false false := rfl
theorem mk_128 : (128 : Int) = mk true false false false false false false false := rfl
/-- The flags of a result of bits. -/
def lgF (r : Int) (h : Bool) : Int := mk (bit 7 r) (decide (r = 0)) (bit 5 r) h (bit 3 r) (evb r) false false
theorem lgF_range (r : Int) (h : Bool) : 0 ≤ lgF r h ∧ lgF r h ≤ 255 := mk_range _ _ _ _ _ _ _ _
theorem lg_16 (r : Int) : bits .or .u8 (evf r) 16 = lgF r true := by unfold evf lgF; rw [mk_16, mk_or]; simp
theorem lg_0 (r : Int) : bits .or .u8 (evf r) 0 = lgF r false := by unfold evf lgF; rw [show (0 : Int) = mk false false false false false false false false from rfl, mk_or]; simp

theorem and1_ (A B : Nat) (a b : Int) (w : World) (hA : w.cell? ⟨A, 0, none⟩ = some (.int .u8 a)) (hB : w.cell? ⟨B, 0, none⟩ = some (.int .u8 b)) :
    Calls Tryz.prog 239 #[.pointer (some ⟨A, 0, none⟩), .pointer (some ⟨B, 0, none⟩)] w fun e w' => e = .returned (.int .u8 (bits .and .u8 a b)) ∧ w = w' := by
  go_enter Tryz.func239, Tryz.ntmps239
  go_wp2
  go_ret
  exact ⟨rfl, rfl⟩
theorem made_and (A B : Nat) (a b : Int) (w : World) (hA : w.cell? ⟨A, 0, none⟩ = some (.int .u8 a)) (hB : w.cell? ⟨B, 0, none⟩ = some (.int .u8 b)) :
    Calls Tryz.prog 238 #[.int .u8 16, .func (.func 239) #[] #[.pointer (some ⟨A, 0, none⟩), .pointer (some ⟨B, 0, none⟩)]] w fun e w' => e = .returned (.tuple #[.int .u8 (bits .and .u8 a b), .int .u8 (lgF (bits .and .u8 a b) true)]) ∧ Below w.heap.size w w' := by
  have e1 := Lib.hid (lg_16 (bits .and .u8 a b))
  go_enter Tryz.func238, Tryz.ntmps238
  go_wp2_with (first | (go_at_call 239; refine (and1_ A B a b _ hA hB).mono ?_; rintro e w1 ⟨rfl, rfl⟩) | (go_at_call 121; refine (feven_ _ _).mono ?_; rintro e w1 ⟨rfl, hb⟩))
  go_ret2
  exact ⟨ret2 rfl e1.out, hb⟩
theorem land_ (a b : Int) (w : World) : Calls Tryz.prog 164 #[.int .u8 a, .int .u8 b] w fun e w' => e = .returned (.tuple #[.int .u8 (bits .and .u8 a b), .int .u8 (lgF (bits .and .u8 a b) true)]) ∧ Below w.heap.size w w' := by
  have hmf : ∀ (fn : Fn) (first cap : Array Value) (w : World), (Instr.makeFunc fn first cap).run Tryz.prog w = .ok (.func fn first cap) w := fun _ _ _ _ => rfl
  go_enter Tryz.func164, Tryz.ntmps164
  go_wp2_with (go_at_call 238; refine (made_and _ _ a b _ (by simp [go_sem]) (by simp [go_sem])).mono ?_; rintro e w1 ⟨rfl, hb⟩)
  go_ret2
  exact ⟨rfl, bt (by go_grown) hb⟩
theorem or1_ (A B : Nat) (a b : Int) (w : World) (hA : w.cell? ⟨A, 0, none⟩ = some (.int .u8 a)) (hB : w.cell? ⟨B, 0, none⟩ = some (.int .u8 b)) :
    Calls Tryz.prog 241 #[.pointer (some ⟨A, 0, none⟩), .pointer (some ⟨B, 0, none⟩)] w fun e w' => e = .returned (.int .u8 (bits .or .u8 a b)) ∧ w = w' := by
  go_enter Tryz.func241, Tryz.ntmps241
  go_wp2
  go_ret
  exact ⟨rfl, rfl⟩
theorem made_or (A B : Nat) (a b : Int) (w : World) (hA : w.cell? ⟨A, 0, none⟩ = some (.int .u8 a)) (hB : w.cell? ⟨B, 0, none⟩ = some (.int .u8 b)) :
    Calls Tryz.prog 238 #[.int .u8 0, .func (.func 241) #[] #[.pointer (some ⟨A, 0, none⟩), .pointer (some ⟨B, 0, none⟩)]] w fun e w' => e = .returned (.tuple #[.int .u8 (bits .or .u8 a b), .int .u8 (lgF (bits .or .u8 a b) false)]) ∧ Below w.heap.size w w' := by
  have e1 := Lib.hid (lg_0 (bits .or .u8 a b))
  go_enter Tryz.func238, Tryz.ntmps238
  go_wp2_with (first | (go_at_call 241; refine (or1_ A B a b _ hA hB).mono ?_; rintro e w1 ⟨rfl, rfl⟩) | (go_at_call 121; refine (feven_ _ _).mono ?_; rintro e w1 ⟨rfl, hb⟩))
  go_ret2
  exact ⟨ret2 rfl e1.out, hb⟩
theorem lor_ (a b : Int) (w : World) : Calls Tryz.prog 166 #[.int .u8 a, .int .u8 b] w fun e w' => e = .returned (.tuple #[.int .u8 (bits .or .u8 a b), .int .u8 (lgF (bits .or .u8 a b) false)]) ∧ Below w.heap.size w w' := by
  have hmf : ∀ (fn : Fn) (first cap : Array Value) (w : World), (Instr.makeFunc fn first cap).run Tryz.prog w = .ok (.func fn first cap) w := fun _ _ _ _ => rfl
  go_enter Tryz.func166, Tryz.ntmps166
  go_wp2_with (go_at_call 238; refine (made_or _ _ a b _ (by simp [go_sem]) (by simp [go_sem])).mono ?_; rintro e w1 ⟨rfl, hb⟩)
  go_ret2
  exact ⟨rfl, bt (by go_grown) hb⟩
theorem xor1_ (A B : Nat) (a b : Int) (w : World) (hA : w.cell? ⟨A, 0, none⟩ = some (.int .u8 a)) (hB : w.cell? ⟨B, 0, none⟩ = some (.int .u8 b)) :
    Calls Tryz.prog 240 #[.pointer (some ⟨A, 0, none⟩), .pointer (some ⟨B, 0, none⟩)] w fun e w' => e = .returned (.int .u8 (bits .xor .u8 a b)) ∧ w = w' := by
  go_enter Tryz.func240, Tryz.ntmps240
  go_wp2
  go_ret
  exact ⟨rfl, rfl⟩
theorem made_xor (A B : Nat) (a b : Int) (w : World) (hA : w.cell? ⟨A, 0, none⟩ = some (.int .u8 a)) (hB : w.cell? ⟨B, 0, none⟩ = some (.int .u8 b)) :
    Calls Tryz.prog 238 #[.int .u8 0, .func (.func 240) #[] #[.pointer (some ⟨A, 0, none⟩), .pointer (some ⟨B, 0, none⟩)]] w fun e w' => e = .returned (.tuple #[.int .u8 (bits .xor .u8 a b), .int .u8 (lgF (bits .xor .u8 a b) false)]) ∧ Below w.heap.size w w' := by
  have e1 := Lib.hid (lg_0 (bits .xor .u8 a b))
  go_enter Tryz.func238, Tryz.ntmps238
  go_wp2_with (first | (go_at_call 240; refine (xor1_ A B a b _ hA hB).mono ?_; rintro e w1 ⟨rfl, rfl⟩) | (go_at_call 121; refine (feven_ _ _).mono ?_; rintro e w1 ⟨rfl, hb⟩))
  go_ret2
  exact ⟨ret2 rfl e1.out, hb⟩
theorem lxor_ (a b : Int) (w : World) : Calls Tryz.prog 165 #[.int .u8 a, .int .u8 b] w fun e w' => e = .returned (.tuple #[.int .u8 (bits .xor .u8 a b), .int .u8 (lgF (bits .xor .u8 a b) false)]) ∧ Below w.heap.size w w' := by
  have hmf : ∀ (fn : Fn) (first cap : Array Value) (w : World), (Instr.makeFunc fn first cap).run Tryz.prog w = .ok (.func fn first cap) w := fun _ _ _ _ => rfl
  go_enter Tryz.func165, Tryz.ntmps165
  go_wp2_with (go_at_call 238; refine (made_xor _ _ a b _ (by simp [go_sem]) (by simp [go_sem])).mono ?_; rintro e w1 ⟨rfl, hb⟩)
  go_ret2
  exact ⟨rfl, bt (by go_grown) hb⟩
/-! A, F: all bits the other way; the carry set, and turned about. -/
def notB (a : Int) : Int := 255 - a
def cplF (a f : Int) : Int := mk (bit 7 f) (bit 6 f) (bit 5 (notB a)) true (bit 3 (notB a)) (bit 2 f) true (bit 0 f)
def scfF (a f : Int) : Int := mk (bit 7 f) (bit 6 f) (bit 5 a) false (bit 3 a) (bit 2 f) false true
def ccfF (a f : Int) : Int := mk (bit 7 f) (bit 6 f) (bit 5 a) (bit 0 f) (bit 3 a) (bit 2 f) false (!bit 0 f)
theorem notB_range (a : Int) (a0 : 0 ≤ a) (a1 : a ≤ 255) : 0 ≤ notB a ∧ notB a ≤ 255 := by unfold notB; omega
theorem cplF_range (a f : Int) : 0 ≤ cplF a f ∧ cplF a f ≤ 255 := mk_range _ _ _ _ _ _ _ _
theorem scfF_range (a f : Int) : 0 ≤ scfF a f ∧ scfF a f ≤ 255 := mk_range _ _ _ _ _ _ _ _
theorem ccfF_range (a f : Int) : 0 ≤ ccfF a f ∧ ccfF a f ≤ 255 := mk_range _ _ _ _ _ _ _ _
theorem cpl_eq (f r : Int) : bits .or .u8 (bits .or .u8 (kp f r 40) 16) 2 = mk (bit 7 f) (bit 6 f) (bit 5 r) true (bit 3 r) (bit 2 f) true (bit 0 f) := by
  rw [kp_mk, mk_16, mk_or, mk_2, mk_or]
  simp (disch := decide) only [mk_40, bit7_mk, bit6_mk, bit5_mk, bit4_mk, bit3_mk, bit2_mk, bit1_mk, bit0_mk]
  simp
theorem scf_eq (f r : Int) : bits .or .u8 (bits .andNot .u8 (kp f r 40) 18) 1 = scfF r f := by
  rw [kp_mk, mk_18, mk_andNot, mk_1, mk_or]
  simp (disch := decide) only [mk_40, bit7_mk, bit6_mk, bit5_mk, bit4_mk, bit3_mk, bit2_mk, bit1_mk, bit0_mk]
  simp [scfF]
theorem ccf_eq (a f : Int) : bits .or .u8 (bits .andNot .u8 (scfF a f) 1) 16 = mk (bit 7 f) (bit 6 f) (bit 5 a) true (bit 3 a) (bit 2 f) false false := by
  unfold scfF
  rw [mk_1, mk_andNot, mk_16, mk_or]
  simp
theorem lscf_ (a f : Int) (w : World) : Calls Tryz.prog 160 #[.int .u8 a, .int .u8 f] w fun e w' => e = .returned (.int .u8 (scfF a f)) ∧ w = w' := by
  have e1 := Lib.hid (scf_eq f a)
  go_enter Tryz.func160, Tryz.ntmps160
  go_wp2_with (go_at_call 154; refine (keep_ _ _ _ _).mono ?_; rintro e w1 ⟨rfl, rfl⟩)
  go_ret
  exact ⟨ret_int e1.out, rfl⟩
theorem lccf_ (a f : Int) (w : World) : Calls Tryz.prog 161 #[.int .u8 a, .int .u8 f] w fun e w' => e = .returned (.int .u8 (ccfF a f)) ∧ w = w' := by
  have e1 := Lib.hid (ccf_eq a f)
  have e2 := ne1 f
  rcases (Bool.eq_false_or_eq_true (bit 0 f)).symm with h | h
  all_goals
    have h' := Lib.hid h
    rw [h] at e2
    clear h
    go_enter Tryz.func161, Tryz.ntmps161
    go_wp2_with (go_at_call 160; refine (lscf_ _ _ _).mono ?_; rintro e w1 ⟨rfl, rfl⟩)
    go_ret
    exact ⟨ret_int (by first | (rw [e1.out]; unfold ccfF; rw [h'.out]; rfl) | (unfold ccfF scfF; rw [h'.out]; rfl)), rfl⟩
theorem xor_255 (a : Int) (a0 : 0 ≤ a) (a1 : a ≤ 255) : bits .xor .u8 255 a = notB a :=
  byte_all (fun a => bits .xor .u8 255 a = notB a) (by decide +kernel) a a0 a1
theorem lcpl_ (a f : Int) (a0 : 0 ≤ a) (a1 : a ≤ 255) (w : World) : Calls Tryz.prog 159 #[.int .u8 a, .int .u8 f] w fun e w' => e = .returned (.tuple #[.int .u8 (notB a), .int .u8 (cplF a f)]) ∧ w = w' := by
  have e1 := Lib.hid (cpl_eq f (notB a))
  have e2 : IntKind.u8.signed = false := rfl
  have e3 : IntKind.u8.max = 255 := rfl
  have e4 := xor_255 a a0 a1
  go_enter Tryz.func159, Tryz.ntmps159
  go_wp2_with (go_at_call 154; refine (keep_ _ _ _ _).mono ?_; rintro e w1 ⟨rfl, rfl⟩)
  go_ret2
  exact ⟨ret2 rfl e1.out, rfl⟩
end Go.Proofs.YtnaampdpkegacaaGreatDoor

namespace Go.Proofs.YtnaampdpkegacaaGreatDoor
open Go.RowKit

/-! A decimal sum, made right. -/
def daL (a f : Int) : Bool := bit 4 f || decide (9 < a % 16)
def daH (a f : Int) : Bool := bit 0 f || decide (153 < a)
def daB (a f : Int) : Int := bw (daL a f) 6 + bw (daH a f) 96
def daR (a f : Int) : Int := bif bit 1 f then (a - daB a f) % 256 else (a + daB a f) % 256
def daF (a f : Int) : Int := mk (bit 7 (daR a f)) (decide (daR a f = 0)) (bit 5 (daR a f)) (bit 4 a ^^ bit 4 (daR a f)) (bit 3 (daR a f)) (evb (daR a f)) (bit 1 f) (daH a f)
theorem daR_range (a f : Int) : 0 ≤ daR a f ∧ daR a f ≤ 255 := by unfold daR; cases bit 1 f <;> simp only [cond_true, cond_false] <;> omega
theorem daF_range (a f : Int) : 0 ≤ daF a f ∧ daF a f ≤ 255 := mk_range _ _ _ _ _ _ _ _
theorem and_15 (a : Int) (a0 : 0 ≤ a) (a1 : a ≤ 255) : bits .and .u8 a 15 = a % 16 :=
  byte_all (fun a => bits .and .u8 a 15 = a % 16) (by decide +kernel) a a0 a1
theorem and_b1 (f : Int) : bits .and .u8 f 2 = mk false false false false false false (bit 1 f) false := by
  rw [show (2 : Int) = 2 ^ 1 from rfl, band_pow 1 (by decide)]; cases bit 1 f <;> rfl
theorem and_b4 (f : Int) : bits .and .u8 f 16 = mk false false false (bit 4 f) false false false false := by
  rw [show (16 : Int) = 2 ^ 4 from rfl, band_pow 4 (by decide)]; cases bit 4 f <;> rfl
theorem and_b0 (f : Int) : bits .and .u8 f 1 = mk false false false false false false false (bit 0 f) := by
  rw [show (1 : Int) = 2 ^ 0 from rfl, band_pow 0 (by decide)]; cases bit 0 f <;> rfl
theorem daa_no (a f r : Int) : bits .or .u8 (bits .or .u8 (evf r) (bits .and .u8 f 2)) (bits .and .u8 (bits .xor .u8 a r) 16) = mk (bit 7 r) (decide (r = 0)) (bit 5 r) (bit 4 a ^^ bit 4 r) (bit 3 r) (evb r) (bit 1 f) false := by
  rw [and_b1, and_b4, bit_xor 4 (by decide)]
  unfold evf
  rw [mk_or, mk_or]
  simp
theorem daa_yes (a f r : Int) : bits .or .u8 (bits .or .u8 (bits .or .u8 (evf r) (bits .and .u8 f 2)) (bits .and .u8 (bits .xor .u8 a r) 16)) 1 = mk (bit 7 r) (decide (r = 0)) (bit 5 r) (bit 4 a ^^ bit 4 r) (bit 3 r) (evb r) (bit 1 f) true := by
  rw [daa_no, mk_1, mk_or]
  simp
theorem bool3 (x : Bool) (p : Prop) [Decidable p] : (x = true) ∨ (x = false ∧ p) ∨ (x = false ∧ ¬ p) := by
  cases x <;> by_cases h : p <;> simp [h]
theorem ret2' {k l : IntKind} {a b c d : Int} (h : a = c ∧ b = d) : Ending.returned (.tuple #[.int k a, .int l b]) = .returned (.tuple #[.int k c, .int l d]) := by rw [h.1, h.2]
theorem daa_ends (a f r g : Int) (hr : r = daR a f) (hg : g = bits .or .u8 (bits .or .u8 (evf r) (bits .and .u8 f 2)) (bits .and .u8 (bits .xor .u8 a r) 16)) (hc : daH a f = false) : r = daR a f ∧ g = daF a f := by
  refine ⟨hr, ?_⟩
  rw [hg, daa_no]; unfold daF; rw [hc, ← hr]
theorem daa_endy (a f r g : Int) (hr : r = daR a f) (hg : g = bits .or .u8 (bits .or .u8 (bits .or .u8 (evf r) (bits .and .u8 f 2)) (bits .and .u8 (bits .xor .u8 a r) 16)) 1) (hc : daH a f = true) : r = daR a f ∧ g = daF a f := by
  refine ⟨hr, ?_⟩
  rw [hg, daa_yes]; unfold daF; rw [hc, ← hr]
set_option maxHeartbeats 2000000 in
theorem ldaa_ (a f : Int) (a0 : 0 ≤ a) (a1 : a ≤ 255) (w : World) (hL : Lg w) : Calls Tryz.prog 158 #[.int .u8 a, .int .u8 f] w fun e w' => e = .returned (.tuple #[.int .u8 (daR a f), .int .u8 (daF a f)]) ∧ Below w.heap.size w w' := by
  have e15 := and_15 a a0 a1
  obtain ⟨l0, l1, l2, l3⟩ := hL.cell
  have o1 : bits .or .i64 0 1 = 1 := by decide +kernel
  have o2 : bits .or .i64 0 2 = 2 := by decide +kernel
  have o3 : bits .or .i64 1 2 = 3 := by decide +kernel
  have p0 : bits .and .i64 0 2 = 0 := by decide +kernel
  have p1 : bits .and .i64 1 2 = 0 := by decide +kernel
  have p2 : bits .and .i64 2 2 = 2 := by decide +kernel
  have p3 : bits .and .i64 3 2 = 2 := by decide +kernel
  have n16 := ne16 f
  have n1 := ne1 f
  have n2 := ne2 f
  have ea := Lib.hid (daa_ends a f)
  have eb := Lib.hid (daa_endy a f)
  have m0 : 0 ≤ a % 16 := by omega
  have H4 : Hid (daL a f = (bit 4 f || decide (9 < a % 16)) ∧ daH a f = (bit 0 f || decide (153 < a)) ∧ daR a f = (bif bit 1 f then (a - daB a f) % 256 else (a + daB a f) % 256) ∧ daB a f = bw (daL a f) 6 + bw (daH a f) 96) := Lib.hid ⟨rfl, rfl, rfl, rfl⟩
  rcases bool3 (bit 4 f) (9 < a % 16) with h4 | ⟨h4, h9⟩ | ⟨h4, h9⟩ <;> rcases bool3 (bit 0 f) (153 < a) with h0 | ⟨h0, h3⟩ | ⟨h0, h3⟩ <;> rcases (Bool.eq_false_or_eq_true (bit 1 f)).symm with h1 | h1
  all_goals
    rw [h4] at n16
    rw [h0] at n1
    rw [h1] at n2
    have k4 := Lib.hid h4
    have k0 := Lib.hid h0
    have k1 := Lib.hid h1
    have K := Lib.hid hL
    clear h4 h0 h1 hL
    go_enter Tryz.func158, Tryz.ntmps158
    go_wp2_with (go_at_call 121; refine (feven_ _ _).mono ?_; rintro e w1 ⟨rfl, hb⟩)
  all_goals
    go_ret2
    refine ⟨ret2' ?_, hb⟩
    obtain ⟨q1, q2, q3, q4⟩ := H4.out
    rw [k4.out] at q1
    rw [k0.out] at q2
    rw [k1.out] at q3
    rw [q4] at q3
    simp only [Bool.true_or, Bool.false_or] at q1 q2
    (try rw [decide_eq_true (show (9 : Int) < a % 16 by omega)] at q1)
    (try rw [decide_eq_false (show ¬ (9 : Int) < a % 16 by omega)] at q1)
    (try rw [decide_eq_true (show (153 : Int) < a by omega)] at q2)
    (try rw [decide_eq_false (show ¬ (153 : Int) < a by omega)] at q2)
    rw [q1, q2] at q3
    simp only [bw, cond_true, cond_false] at q3
    first
      | exact ea.out _ _ (by omega) rfl q2
      | exact eb.out _ _ (by omega) rfl q2
end Go.Proofs.YtnaampdpkegacaaGreatDoor
