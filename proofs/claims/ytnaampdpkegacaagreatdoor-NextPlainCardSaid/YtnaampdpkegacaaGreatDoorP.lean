/-
  Contracts of the package regs: registers by their numbers. A helper of the claim that stands beside it.
-/
import Derived.MapKept
import Derived.Test.YtnaampdpkegacaaGreatDoorO
namespace Go.Proofs.YtnaampdpkegacaaGreatDoor
open Go.RowKit Go.MapKept

/-! A map of ints to functions, made and asked at once. -/
def ents : List (Int × FuncId) → Nat → List MapEntry
  | [], _ => []
  | p :: l, b => { key := .int .i64 p.1, val := .func (.func p.2) #[] #[], born := b } :: ents l (b + 1)
def findE (k : Int) : List (Int × FuncId) → Nat → Option (Nat × Value)
  | [], _ => none
  | p :: l, i => if k = p.1 then some (i, .func (.func p.2) #[] #[]) else findE k l (i + 1)
theorem find_ents (k : Int) : ∀ (l : List (Int × FuncId)) (b i : Nat), Instr.findNow (.int .i64) (.int .i64 k) (ents l b) i = some (findE k l i)
  | [], _, _ => rfl
  | p :: l, b, i => by
    have ih := find_ents k l (b + 1) (i + 1)
    by_cases h : k = p.1
    · simp [ents, findE, Instr.findNow, Instr.sameNow, h]
    · have h' : (k == p.1) = false := by simpa using h
      simp only [ents, findE, Instr.findNow, Instr.sameNow, if_true, h', if_neg h, ih]
theorem ents_app (p : Int × FuncId) : ∀ (l : List (Int × FuncId)) (b : Nat), ents (l ++ [p]) b = ents l b ++ [{ key := .int .i64 p.1, val := .func (.func p.2) #[] #[], born := b + l.length }]
  | [], _ => rfl
  | q :: l, b => by
    simp only [List.cons_append, ents, ents_app p l (b + 1), List.length_cons]
    rw [show b + 1 + l.length = b + (l.length + 1) by omega]
def mapOf (l : List (Int × FuncId)) : Obj := .map (ents l 0).toArray l.length
theorem mk_run (w : World) : (Instr.makeMap 165 none).run Tryz.prog w = .ok (.map (some w.heap.size)) (w.alloc (mapOf [])) := by
  unfold Instr.makeMap
  simp [go_sem, mapOf, ents]
theorem ins_run (n : Nat) (W : World) (l : List (Int × FuncId)) (k : Int) (f : FuncId) (hn : n = W.heap.size) (hf : findE k l 0 = none) :
    (Instr.mapUpdate 165 (.map (some n)) (.int .i64 k) (.func (.func f) #[] #[])).run Tryz.prog (W.alloc (mapOf l)) = .ok () (W.alloc (mapOf (l ++ [(k, f)]))) := by
  subst hn
  have hb : (W.alloc (mapOf l)).heap[W.heap.size]? = some (.map (ents l 0).toArray l.length) := heap_alloc_last W _
  have hfk := MapKept.run_findKey (P := Tryz.prog) (w := W.alloc (mapOf l)) (kt := 3) (k := .int .i64 k) Tryz.underlying3 (find_ents k l 0 0)
  have hck : (Instr.checkKey false 10000 3 (.int .i64 k)).run Tryz.prog (W.alloc (mapOf l)) = .ok () (W.alloc (mapOf l)) := MapKept.run_checkKey Tryz.underlying3 (by simp [IsKey]) false 9999
  unfold Instr.mapUpdate
  simp only [Sem.run_bind, Tryz.runUnderlying165, Result.andThen_ok, MapKept.run_getObj_map hb, hck, hfk, hf]
  rw [MapKept.run_setObj_map _ hb]
  have e1 : Obj.map ((ents l 0).toArray.push { key := .int .i64 k, val := .func (.func f) #[] #[], born := l.length }) (l.length + 1) = mapOf (l ++ [(k, f)]) := by
    unfold mapOf
    rw [ents_app, List.length_append, Nat.zero_add, List.push_toArray]
    rfl
  rw [e1]
  have e2 : (W.alloc (mapOf l)).heap.setIfInBounds W.heap.size (mapOf (l ++ [(k, f)])) = (W.alloc (mapOf (l ++ [(k, f)]))).heap := by
    show (W.heap.push (mapOf l)).setIfInBounds W.heap.size (mapOf (l ++ [(k, f)])) = W.heap.push (mapOf (l ++ [(k, f)]))
    apply Array.ext_getElem?
    intro i
    simp only [Array.getElem?_setIfInBounds, Array.getElem?_push, Array.size_push]
    by_cases h : W.heap.size = i
    · subst h; simp
    · have h' : ¬ i = W.heap.size := fun e => h e.symm
      simp [h, h']
  rw [e2]
  rfl
theorem look_run (n : Nat) (W : World) (l : List (Int × FuncId)) (k : Int) (hn : n = W.heap.size) :
    (Instr.lookup 165 (.map (some n)) (.int .i64 k) true).run Tryz.prog (W.alloc (mapOf l)) = .ok (match findE k l 0 with | some (_, v) => .tuple #[v, .bool true] | none => .tuple #[.nilFunc, .bool false]) (W.alloc (mapOf l)) := by
  subst hn
  have hb : (W.alloc (mapOf l)).heap[W.heap.size]? = some (.map (ents l 0).toArray l.length) := heap_alloc_last W _
  have hfk := MapKept.run_findKey (P := Tryz.prog) (w := W.alloc (mapOf l)) (kt := 3) (k := .int .i64 k) Tryz.underlying3 (find_ents k l 0 0)
  have hck : (Instr.checkKey (ents l 0).toArray.isEmpty 10000 3 (.int .i64 k)).run Tryz.prog (W.alloc (mapOf l)) = .ok () (W.alloc (mapOf l)) := MapKept.run_checkKey Tryz.underlying3 (by simp [IsKey]) _ 9999
  unfold Instr.lookup
  simp only [Sem.run_bind, Tryz.runUnderlying165, Result.andThen_ok, MapKept.run_getObj_map hb, hck, hfk, Sem.run_pure]
  cases findE k l 0 with
  | none =>
    simp only [Sem.run_bind, Tryz.zeroValue163, Result.andThen_ok, Sem.run_pure, if_true]
  | some p => simp only [Sem.run_bind, Result.andThen_ok, Sem.run_pure, if_true]
theorem ins_ix (n : Nat) (W : World) (hn : n = W.heap.size) : (Instr.mapUpdate 165 (.map (some n)) (.int .i64 3) (.func (.func 261) #[] #[])).run Tryz.prog (W.alloc (mapOf [])) = .ok () (W.alloc (mapOf [(3, 261)])) := ins_run n W _ _ _ hn rfl
theorem ins_iy (n : Nat) (W : World) (hn : n = W.heap.size) : (Instr.mapUpdate 165 (.map (some n)) (.int .i64 4) (.func (.func 262) #[] #[])).run Tryz.prog (W.alloc (mapOf [(3, 261)])) = .ok () (W.alloc (mapOf [(3, 261), (4, 262)])) := ins_run n W _ _ _ hn rfl
theorem ins_bc (n : Nat) (W : World) (hn : n = W.heap.size) : (Instr.mapUpdate 165 (.map (some n)) (.int .i64 0) (.func (.func 263) #[] #[])).run Tryz.prog (W.alloc (mapOf [])) = .ok () (W.alloc (mapOf [(0, 263)])) := ins_run n W _ _ _ hn rfl
theorem ins_de (n : Nat) (W : World) (hn : n = W.heap.size) : (Instr.mapUpdate 165 (.map (some n)) (.int .i64 1) (.func (.func 264) #[] #[])).run Tryz.prog (W.alloc (mapOf [(0, 263)])) = .ok () (W.alloc (mapOf [(0, 263), (1, 264)])) := ins_run n W _ _ _ hn rfl
theorem ins_hl (n : Nat) (W : World) (hn : n = W.heap.size) : (Instr.mapUpdate 165 (.map (some n)) (.int .i64 2) (.func (.func 265) #[] #[])).run Tryz.prog (W.alloc (mapOf [(0, 263), (1, 264)])) = .ok () (W.alloc (mapOf [(0, 263), (1, 264), (2, 265)])) := ins_run n W _ _ _ hn rfl
theorem ins_sp (n : Nat) (W : World) (hn : n = W.heap.size) : (Instr.mapUpdate 165 (.map (some n)) (.int .i64 3) (.func (.func 266) #[] #[])).run Tryz.prog (W.alloc (mapOf [(0, 263), (1, 264), (2, 265)])) = .ok () (W.alloc (mapOf [(0, 263), (1, 264), (2, 265), (3, 266)])) := ins_run n W _ _ _ hn rfl
attribute [go_sem] mk_run ins_ix ins_iy ins_bc ins_de ins_hl ins_sp look_run findE
theorem flbc_ (n : Nat) (w : World) : Calls Tryz.prog 263 #[.pointer (some ⟨n, 0, none⟩)] w fun e w' => e = .returned (.pointer (some ⟨n, 1, none⟩)) ∧ w = w' := by
  go_enter Tryz.func263, Tryz.ntmps263
  go_wp2
  go_ret
  exact ⟨rfl, rfl⟩
theorem flde_ (n : Nat) (w : World) : Calls Tryz.prog 264 #[.pointer (some ⟨n, 0, none⟩)] w fun e w' => e = .returned (.pointer (some ⟨n, 2, none⟩)) ∧ w = w' := by
  go_enter Tryz.func264, Tryz.ntmps264
  go_wp2
  go_ret
  exact ⟨rfl, rfl⟩
theorem flhl_ (n : Nat) (w : World) : Calls Tryz.prog 265 #[.pointer (some ⟨n, 0, none⟩)] w fun e w' => e = .returned (.pointer (some ⟨n, 3, none⟩)) ∧ w = w' := by
  go_enter Tryz.func265, Tryz.ntmps265
  go_wp2
  go_ret
  exact ⟨rfl, rfl⟩
theorem flix_ (n : Nat) (w : World) : Calls Tryz.prog 261 #[.pointer (some ⟨n, 0, none⟩)] w fun e w' => e = .returned (.pointer (some ⟨n, 8, none⟩)) ∧ w = w' := by
  go_enter Tryz.func261, Tryz.ntmps261
  go_wp2
  go_ret
  exact ⟨rfl, rfl⟩
theorem fliy_ (n : Nat) (w : World) : Calls Tryz.prog 262 #[.pointer (some ⟨n, 0, none⟩)] w fun e w' => e = .returned (.pointer (some ⟨n, 9, none⟩)) ∧ w = w' := by
  go_enter Tryz.func262, Tryz.ntmps262
  go_wp2
  go_ret
  exact ⟨rfl, rfl⟩
theorem flsp_ (n : Nat) (w : World) : Calls Tryz.prog 266 #[.pointer (some ⟨n, 0, none⟩)] w fun e w' => e = .returned (.pointer (some ⟨n, 10, none⟩)) ∧ w = w' := by
  go_enter Tryz.func266, Tryz.ntmps266
  go_wp2
  go_ret
  exact ⟨rfl, rfl⟩
def poff (plane p : Int) : Option Nat := if p = 2 then (if plane = 3 then some 8 else if plane = 4 then some 9 else some 3) else if p = 0 then some 1 else if p = 1 then some 2 else if p = 3 then some 10 else none
def ptrAt (n : Nat) : Option Nat → Value
  | some o => .pointer (some ⟨n, o, none⟩)
  | none => .pointer none
set_option maxRecDepth 20000 in
theorem where_ (n : Nat) (plane p : Int) (w : World) : Calls Tryz.prog 233 #[.pointer (some ⟨n, 0, none⟩), .int .i64 plane, .int .i64 p] w fun e w' => e = .returned (ptrAt n (poff plane p)) ∧ Below w.heap.size w w' := by
  have hc : (p = 2 ∧ plane = 3) ∨ (p = 2 ∧ plane = 4) ∨ (p = 2 ∧ plane ≠ 3 ∧ plane ≠ 4) ∨ p = 0 ∨ p = 1 ∨ p = 3 ∨ (p ≠ 0 ∧ p ≠ 1 ∧ p ≠ 2 ∧ p ≠ 3) := by omega
  rcases hc with ⟨rfl, rfl⟩ | ⟨rfl, rfl⟩ | ⟨rfl, h3, h4⟩ | rfl | rfl | rfl | ⟨h0, h1, h2, h3⟩
  all_goals
    go_enter Tryz.func233, Tryz.ntmps233
    go_wp2_with (first | (go_at_call 263; refine (flbc_ _ _).mono ?_; rintro e w1 ⟨rfl, rfl⟩) | (go_at_call 264; refine (flde_ _ _).mono ?_; rintro e w1 ⟨rfl, rfl⟩) | (go_at_call 265; refine (flhl_ _ _).mono ?_; rintro e w1 ⟨rfl, rfl⟩) | (go_at_call 261; refine (flix_ _ _).mono ?_; rintro e w1 ⟨rfl, rfl⟩) | (go_at_call 262; refine (fliy_ _ _).mono ?_; rintro e w1 ⟨rfl, rfl⟩) | (go_at_call 266; refine (flsp_ _ _).mono ?_; rintro e w1 ⟨rfl, rfl⟩))
    go_ret
    exact ⟨by simp [poff, ptrAt, *], by go_grown⟩
theorem ptrAt_none (n : Nat) : ptrAt n none = .pointer none := rfl
theorem ptrAt_some (n o : Nat) : ptrAt n (some o) = .pointer (some ⟨n, o, none⟩) := rfl
attribute [go_sem] ptrAt_none ptrAt_some
def halfS (plane k : Int) : Option Nat × Bool := if k = 7 then (some 0, true) else if k < 0 ∨ 5 < k then (none, false) else (poff plane (k / 2), k % 2 == 0)
set_option maxRecDepth 20000 in
theorem half_ (n : Nat) (plane k : Int) (w : World) : Calls Tryz.prog 222 #[.pointer (some ⟨n, 0, none⟩), .int .i64 plane, .int .i64 k] w fun e w' => e = .returned (.tuple #[ptrAt n (halfS plane k).1, .bool (halfS plane k).2]) ∧ Below w.heap.size w w' := by
  have hc : (k = 7 ∧ halfS plane k = (some 0, true)) ∨ ((k < 0 ∨ (5 < k ∧ k ≠ 7)) ∧ halfS plane k = (none, false)) ∨ (k = 0 ∧ halfS plane k = (poff plane 0, true)) ∨ (k = 1 ∧ halfS plane k = (poff plane 0, false)) ∨ (k = 2 ∧ halfS plane k = (poff plane 1, true)) ∨
      (k = 3 ∧ halfS plane k = (poff plane 1, false)) ∨ (k = 4 ∧ halfS plane k = (poff plane 2, true)) ∨ (k = 5 ∧ halfS plane k = (poff plane 2, false)) := by
    by_cases h : k < 0 ∨ (5 < k ∧ k ≠ 7)
    · refine .inr (.inl ⟨h, ?_⟩)
      unfold halfS
      rw [if_neg (by omega), if_pos (by omega)]
    · have : k = 7 ∨ k = 0 ∨ k = 1 ∨ k = 2 ∨ k = 3 ∨ k = 4 ∨ k = 5 := by omega
      rcases this with rfl | rfl | rfl | rfl | rfl | rfl | rfl <;> simp [halfS]
  rcases hc with ⟨rfl, e⟩ | ⟨h | ⟨h, h7⟩, e⟩ | ⟨rfl, e⟩ | ⟨rfl, e⟩ | ⟨rfl, e⟩ | ⟨rfl, e⟩ | ⟨rfl, e⟩ | ⟨rfl, e⟩
  all_goals
    rw [e]
    clear e
    go_enter Tryz.func222, Tryz.ntmps222
    go_wp2_with (go_at_call 233; refine (where_ _ _ _ _).mono ?_; rintro e w1 ⟨rfl, hb⟩)
    go_ret2
    first | exact ⟨rfl, hb⟩ | exact ⟨rfl, Below.refl _ _⟩
def R.at (r : R) : Nat → U16
  | 0 => r.af | 1 => r.bc | 2 => r.de | 3 => r.hl | 8 => r.ix | 9 => r.iy | 10 => r.sp | _ => u16 0
def R.putAt (r : R) (o : Nat) (v : U16) : R :=
  match o with
  | 0 => { r with af := v } | 1 => { r with bc := v } | 2 => { r with de := v } | 3 => { r with hl := v } | 8 => { r with ix := v } | 9 => { r with iy := v } | 10 => { r with sp := v } | _ => r
def offOk (o : Nat) : Prop := o = 0 ∨ o = 1 ∨ o = 2 ∨ o = 3 ∨ o = 8 ∨ o = 9 ∨ o = 10
theorem at_get {o : Nat} (h : offOk o) (r : R) : r.cells[o]? = some (.int .u16 (r.at o).v) := by
  rcases h with rfl | rfl | rfl | rfl | rfl | rfl | rfl <;> rfl
theorem at_set {o : Nat} (h : offOk o) (r : R) (v : U16) : r.cells.setIfInBounds o (.int .u16 v.v) = (r.putAt o v).cells := by
  rcases h with rfl | rfl | rfl | rfl | rfl | rfl | rfl <;> rfl
theorem poff_ok {plane p : Int} {o : Nat} (h : poff plane p = some o) : offOk o := by
  unfold poff at h
  unfold offOk
  repeat' split at h
  all_goals first | (cases h; simp) | cases h
theorem halfS_ok {plane k : Int} {o : Nat} {b : Bool} (h : halfS plane k = (some o, b)) : offOk o := by
  unfold halfS at h
  repeat' split at h
  · cases h; simp [offOk]
  · cases h
  · exact poff_ok (Prod.ext_iff.1 h).1

def getR (r : R) (plane k : Int) : U8 := match halfS plane k with
  | (some o, true) => (r.at o).hi
  | (some o, false) => (r.at o).lo
  | (none, _) => u8 0
set_option maxRecDepth 20000 in
theorem rget_ (r : R) (plane k : Int) (w : World) : Calls Tryz.prog 140 #[.agg r.cells, .int .i64 plane, .int .i64 k] w fun e w' => e = .returned (.int .u8 (getR r plane k).v) ∧ Below w.heap.size w w' := by
  unfold getR
  rcases hq : halfS plane k with ⟨o | o, b⟩
  · have hq' := Lib.hid hq
    clear hq
    go_enter Tryz.func140, Tryz.ntmps140
    go_wp2_with (go_at_call 222; refine (half_ _ _ _ _).mono ?_; rw [hq'.out]; rintro e w1 ⟨rfl, hb⟩)
    go_ret
    exact ⟨rfl, bt (by go_grown) hb⟩
  · have ho := at_get (halfS_ok hq) r
    have hq' := Lib.hid hq
    clear hq
    cases b
    all_goals
      go_enter Tryz.func140, Tryz.ntmps140
      go_wp2_with (first | (go_at_call 222; refine (half_ _ _ _ _).mono ?_; rw [hq'.out]; rintro e w1 ⟨rfl, hb⟩; have hc1 : w1.cell? ⟨w.heap.size + 1, o, none⟩ = some (.int .u16 (r.at o).v) := kept hb (by simp [go_sem, ho])) | (go_at_call 66; refine (hi_ _ _).mono ?_; rintro e w2 ⟨rfl, rfl⟩) | (go_at_call 136; refine (lo_ _ _).mono ?_; rintro e w2 ⟨rfl, rfl⟩))
      go_ret
      exact ⟨rfl, bt (by go_grown) hb⟩
/-- The pair at an offset. -/
def getP (r : R) (plane p : Int) : U16 := match poff plane p with
  | some o => r.at o
  | none => u16 0
def setP (r : R) (plane p : Int) (v : U16) : R := match poff plane p with
  | some o => r.putAt o v
  | none => r
set_option maxRecDepth 20000 in
theorem rpair_ (r : R) (plane p : Int) (w : World) : Calls Tryz.prog 147 #[.agg r.cells, .int .i64 plane, .int .i64 p] w fun e w' => e = .returned (.int .u16 (getP r plane p).v) ∧ Below w.heap.size w w' := by
  unfold getP
  rcases hq : poff plane p with _ | o
  · have hq' := Lib.hid hq
    clear hq
    go_enter Tryz.func147, Tryz.ntmps147
    go_wp2_with (go_at_call 233; refine (where_ _ _ _ _).mono ?_; rw [hq'.out]; rintro e w1 ⟨rfl, hb⟩)
    go_ret
    exact ⟨rfl, bt (by go_grown) hb⟩
  · have ho := at_get (poff_ok hq) r
    have hq' := Lib.hid hq
    clear hq
    go_enter Tryz.func147, Tryz.ntmps147
    go_wp2_with (go_at_call 233; refine (where_ _ _ _ _).mono ?_; rw [hq'.out]; rintro e w1 ⟨rfl, hb⟩; have hc1 : w1.cell? ⟨w.heap.size + 1, o, none⟩ = some (.int .u16 (r.at o).v) := kept hb (by simp [go_sem, ho]))
    go_ret
    exact ⟨rfl, bt (by go_grown) hb⟩
theorem asput {w : World} {B : Nat} {c : Array Value} {t : TypeId} (h : w.heap[B]? = some (.cells c t (0, 0))) : put w B c = w := by
  unfold put
  cases w with
  | mk hp tp dr os ou =>
  simp only at h ⊢
  congr 1
  apply Array.ext_getElem?
  intro k
  simp only [Array.getElem?_modify]
  by_cases hk : B = k
  · subst hk; rw [h]; simp
  · simp [hk]
theorem below_put {m B : Nat} {w w1 : World} {c : Array Value} (h : Below m w w1) (hB : m ≤ B) : Below m w (put w1 B c) :=
  ⟨h.os, h.tape, h.output, by rw [put_size]; exact h.size, fun k hk => by rw [put_off (by omega)]; exact h.block k hk⟩
theorem three {w w1 : World} {o : Obj} {a b : Array Value} {t u : TypeId} (hb : Below (((w.alloc o).alloc (.cells a t)).alloc (.cells b u)).heap.size (((w.alloc o).alloc (.cells a t)).alloc (.cells b u)) w1) :
    ∃ w2, w1 = put (put w2 (w.heap.size + 1) a) (w.heap.size + 1 + 1) b ∧ Below w.heap.size w w2 ∧ Inb (w.heap.size + 1) w2 ∧ Inb (w.heap.size + 1 + 1) w2 := by
  have hs := hb.size
  simp only [World.size_alloc] at hs
  have e2 : w1.heap[w.heap.size + 1 + 1]? = some (.cells b u (0, 0)) := by
    rw [hb.block _ (by simp)]
    have := heap_alloc_last ((w.alloc o).alloc (.cells a t)) (.cells b u)
    simpa using this
  have e1 : w1.heap[w.heap.size + 1]? = some (.cells a t (0, 0)) := by
    rw [hb.block _ (by simp)]
    have e0 : (((w.alloc o).alloc (.cells a t)).alloc (.cells b u)).heap[w.heap.size + 1]? = ((w.alloc o).alloc (.cells a t)).heap[w.heap.size + 1]? := by
      show (((w.alloc o).alloc (.cells a t)).heap.push (.cells b u))[w.heap.size + 1]? = _
      rw [Array.getElem?_push, if_neg (by simp)]
    rw [e0]
    have := heap_alloc_last (w.alloc o) (.cells a t)
    simpa using this
  refine ⟨w1, ?_, bt (by go_grown) hb, by unfold Inb; omega, by unfold Inb; omega⟩
  rw [asput e1, asput e2]
theorem three0 {w w1 : World} {c a b : Array Value} {s t u : TypeId} (hb : Below (((w.alloc (.cells c s)).alloc (.cells a t)).alloc (.cells b u)).heap.size (((w.alloc (.cells c s)).alloc (.cells a t)).alloc (.cells b u)) w1) :
    ∃ w2, w1 = put (put w2 (w.heap.size + 1) a) (w.heap.size + 1 + 1) b ∧ Below w.heap.size w w2 ∧ Inb (w.heap.size + 1) w2 ∧ Inb (w.heap.size + 1 + 1) w2 ∧ blk w2 w.heap.size = c ∧ w.heap.size < w2.heap.size := by
  obtain ⟨w2, e, h1, h2, h3⟩ := three hb
  refine ⟨w2, e, h1, h2, h3, ?_, by unfold Inb at h2; omega⟩
  have e1 : blk w1 w.heap.size = c := by
    unfold blk
    rw [hb.block _ (by simp; omega)]
    have e0 : (((w.alloc (.cells c s)).alloc (.cells a t)).alloc (.cells b u)).heap[w.heap.size]? = some (.cells c s (0, 0)) := by
      have := heap_alloc_last w (.cells c s)
      show ((((w.alloc (.cells c s)).heap.push (.cells a t))).push (.cells b u))[w.heap.size]? = _
      rw [Array.getElem?_push, if_neg (by simp; omega), Array.getElem?_push, if_neg (by simp), this]
    rw [e0]
  rw [e, blk_put_off (by omega), blk_put_off (by omega)] at e1
  exact e1
theorem nn1 (n : Nat) : (n + 1 = n + 1 + 1) = False := by simp
set_option maxRecDepth 20000 in
theorem rsetpair_ (r : R) (plane p : Int) (v : U16) (w : World) : Calls Tryz.prog 151 #[.agg r.cells, .int .i64 plane, .int .i64 p, .int .u16 v.v] w fun e w' => e = .returned (.agg (setP r plane p v).cells) ∧ Below w.heap.size w w' := by
  unfold setP
  rcases hq : poff plane p with _ | o
  · have hq' := Lib.hid hq
    clear hq
    go_enter Tryz.func151, Tryz.ntmps151
    go_wp2_with (go_at_call 233; refine (where_ _ _ _ _).mono ?_; rw [hq'.out]; rintro e w1 ⟨rfl, hb⟩; obtain ⟨w2, rfl, hb2, i1, i2⟩ := three hb; clear hb)
    refine ret_regs rfl (w.heap.size + 1) rfl r ?_ rfl ⟨rfl, below_put (below_put hb2 (by omega)) (by omega)⟩
    simp [go_sem, i1]
  · have ho := at_get (poff_ok hq) r
    have hs := at_set (poff_ok hq) r v
    have hq' := Lib.hid hq
    clear hq
    go_enter Tryz.func151, Tryz.ntmps151
    go_wp2_with (go_at_call 233; refine (where_ _ _ _ _).mono ?_; rw [hq'.out]; rintro e w1 ⟨rfl, hb⟩; obtain ⟨w2, rfl, hb2, i1, i2⟩ := three hb; clear hb)
    refine ret_regs rfl (w.heap.size + 1) rfl (r.putAt o v) ?_ rfl ⟨rfl, below_put (below_put hb2 (by omega)) (by omega)⟩
    simp [go_sem, i1]
end Go.Proofs.YtnaampdpkegacaaGreatDoor
