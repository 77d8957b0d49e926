/-
  Contracts of the package shift. A helper of the claim that stands beside it.
-/
import Derived.BigQuiet
import Derived.Deep.QuietTactic
import Derived.Test.YtnaampdpkegacaaGreatDoorkeys

namespace Go.Proofs.YtnaampdpkegacaaGreatDoor
open Go.RowKit Go.MapKept

/-! A map of ints to function values, made and asked at once. -/
def entv : List (Int × Value) → Nat → List MapEntry
  | [], _ => []
  | p :: l, b => { key := .int .i64 p.1, val := p.2, born := b } :: entv l (b + 1)
def findV (k : Int) : List (Int × Value) → Nat → Option (Nat × Value)
  | [], _ => none
  | p :: l, i => if k = p.1 then some (i, p.2) else findV k l (i + 1)
theorem find_entv (k : Int) : ∀ (l : List (Int × Value)) (b i : Nat), Instr.findNow (.int .i64) (.int .i64 k) (entv l b) i = some (findV k l i)
  | [], _, _ => rfl
  | p :: l, b, i => by
    have ih := find_entv k l (b + 1) (i + 1)
    by_cases h : k = p.1
    · simp [entv, findV, Instr.findNow, Instr.sameNow, h]
    · have h' : (k == p.1) = false := by simpa using h
      simp only [entv, findV, Instr.findNow, Instr.sameNow, if_true, h', if_neg h, ih]
theorem entv_app (p : Int × Value) : ∀ (l : List (Int × Value)) (b : Nat), entv (l ++ [p]) b = entv l b ++ [{ key := .int .i64 p.1, val := p.2, born := b + l.length }]
  | [], _ => rfl
  | q :: l, b => by
    simp only [List.cons_append, entv, entv_app p l (b + 1), List.length_cons]
    rw [show b + 1 + l.length = b + (l.length + 1) by omega]
def mapV (l : List (Int × Value)) : Obj := .map (entv l 0).toArray l.length

theorem ms_mk (w : World) : (Instr.makeMap 143 none).run Tryz.prog w = .ok (.map (some w.heap.size)) (w.alloc (mapV [])) := by
  unfold Instr.makeMap
  simp [go_sem, mapV, entv]
theorem ms_ins (n : Nat) (W : World) (l : List (Int × Value)) (k : Int) (v : Value) (hn : n = W.heap.size) (hf : findV k l 0 = none) :
    (Instr.mapUpdate 143 (.map (some n)) (.int .i64 k) v).run Tryz.prog (W.alloc (mapV l)) = .ok () (W.alloc (mapV (l ++ [(k, v)]))) := by
  subst hn
  have hb : (W.alloc (mapV l)).heap[W.heap.size]? = some (.map (entv l 0).toArray l.length) := heap_alloc_last W _
  have hfk := MapKept.run_findKey (P := Tryz.prog) (w := W.alloc (mapV l)) (kt := 3) (k := .int .i64 k) Tryz.underlying3 (find_entv k l 0 0)
  have hck : (Instr.checkKey false 10000 3 (.int .i64 k)).run Tryz.prog (W.alloc (mapV l)) = .ok () (W.alloc (mapV l)) := MapKept.run_checkKey Tryz.underlying3 (by simp [IsKey]) false 9999
  unfold Instr.mapUpdate
  simp only [Sem.run_bind, Tryz.runUnderlying143, Result.andThen_ok, MapKept.run_getObj_map hb, hck, hfk, hf]
  rw [MapKept.run_setObj_map _ hb]
  have e1 : Obj.map ((entv l 0).toArray.push { key := .int .i64 k, val := v, born := l.length }) (l.length + 1) = mapV (l ++ [(k, v)]) := by
    unfold mapV
    rw [entv_app, List.length_append, Nat.zero_add, List.push_toArray]
    rfl
  rw [e1]
  have e2 : (W.alloc (mapV l)).heap.setIfInBounds W.heap.size (mapV (l ++ [(k, v)])) = (W.alloc (mapV (l ++ [(k, v)]))).heap := by
    show (W.heap.push (mapV l)).setIfInBounds W.heap.size (mapV (l ++ [(k, v)])) = W.heap.push (mapV (l ++ [(k, v)]))
    apply Array.ext_getElem?
    intro i
    simp only [Array.getElem?_setIfInBounds, Array.getElem?_push, Array.size_push]
    by_cases h : W.heap.size = i
    · subst h; simp
    · have h' : ¬ i = W.heap.size := fun e => h e.symm
      simp [h, h']
  rw [e2]
  rfl
theorem ms_look (n : Nat) (W : World) (l : List (Int × Value)) (k : Int) (hn : n = W.heap.size) :
    (Instr.lookup 143 (.map (some n)) (.int .i64 k) true).run Tryz.prog (W.alloc (mapV l)) = .ok (match findV k l 0 with | some (_, v) => .tuple #[v, .bool true] | none => .tuple #[.nilFunc, .bool false]) (W.alloc (mapV l)) := by
  subst hn
  have hb : (W.alloc (mapV l)).heap[W.heap.size]? = some (.map (entv l 0).toArray l.length) := heap_alloc_last W _
  have hfk := MapKept.run_findKey (P := Tryz.prog) (w := W.alloc (mapV l)) (kt := 3) (k := .int .i64 k) Tryz.underlying3 (find_entv k l 0 0)
  have hck : (Instr.checkKey (entv l 0).toArray.isEmpty 10000 3 (.int .i64 k)).run Tryz.prog (W.alloc (mapV l)) = .ok () (W.alloc (mapV l)) := MapKept.run_checkKey Tryz.underlying3 (by simp [IsKey]) _ 9999
  unfold Instr.lookup
  simp only [Sem.run_bind, Tryz.runUnderlying143, Result.andThen_ok, MapKept.run_getObj_map hb, hck, hfk, Sem.run_pure]
  cases findV k l 0 with
  | none =>
    simp only [Sem.run_bind, Tryz.zeroValue51, Result.andThen_ok, Sem.run_pure, if_true]
  | some p => simp only [Sem.run_bind, Result.andThen_ok, Sem.run_pure, if_true]
theorem ms_ins0 (n X : Nat) (W : World) (hn : n = W.heap.size) : (Instr.mapUpdate 143 (.map (some n)) (.int .i64 0) (.func (.func 224) #[] #[.pointer (some ⟨X, 0, none⟩)])).run Tryz.prog (W.alloc (mapV [])) = .ok () (W.alloc (mapV [(0, .func (.func 224) #[] #[.pointer (some ⟨X, 0, none⟩)])])) := ms_ins n W _ _ _ hn rfl
theorem ms_ins1 (n X : Nat) (W : World) (hn : n = W.heap.size) : (Instr.mapUpdate 143 (.map (some n)) (.int .i64 1) (.func (.func 225) #[] #[.pointer (some ⟨X, 0, none⟩)])).run Tryz.prog (W.alloc (mapV [(0, .func (.func 224) #[] #[.pointer (some ⟨X, 0, none⟩)])])) = .ok () (W.alloc (mapV [(0, .func (.func 224) #[] #[.pointer (some ⟨X, 0, none⟩)]), (1, .func (.func 225) #[] #[.pointer (some ⟨X, 0, none⟩)])])) := ms_ins n W _ _ _ hn rfl
theorem ms_ins2 (n X Y : Nat) (W : World) (hn : n = W.heap.size) : (Instr.mapUpdate 143 (.map (some n)) (.int .i64 2) (.func (.func 226) #[] #[.pointer (some ⟨Y, 0, none⟩)])).run Tryz.prog (W.alloc (mapV [(0, .func (.func 224) #[] #[.pointer (some ⟨X, 0, none⟩)]), (1, .func (.func 225) #[] #[.pointer (some ⟨X, 0, none⟩)])])) = .ok () (W.alloc (mapV [(0, .func (.func 224) #[] #[.pointer (some ⟨X, 0, none⟩)]), (1, .func (.func 225) #[] #[.pointer (some ⟨X, 0, none⟩)]), (2, .func (.func 226) #[] #[.pointer (some ⟨Y, 0, none⟩)])])) := ms_ins n W _ _ _ hn rfl
theorem ms_ins3 (n X Y : Nat) (W : World) (hn : n = W.heap.size) : (Instr.mapUpdate 143 (.map (some n)) (.int .i64 3) (.func (.func 227) #[] #[.pointer (some ⟨Y, 0, none⟩)])).run Tryz.prog (W.alloc (mapV [(0, .func (.func 224) #[] #[.pointer (some ⟨X, 0, none⟩)]), (1, .func (.func 225) #[] #[.pointer (some ⟨X, 0, none⟩)]), (2, .func (.func 226) #[] #[.pointer (some ⟨Y, 0, none⟩)])])) = .ok () (W.alloc (mapV [(0, .func (.func 224) #[] #[.pointer (some ⟨X, 0, none⟩)]), (1, .func (.func 225) #[] #[.pointer (some ⟨X, 0, none⟩)]), (2, .func (.func 226) #[] #[.pointer (some ⟨Y, 0, none⟩)]), (3, .func (.func 227) #[] #[.pointer (some ⟨Y, 0, none⟩)])])) := ms_ins n W _ _ _ hn rfl
theorem ms_ins4 (n X Y : Nat) (W : World) (hn : n = W.heap.size) : (Instr.mapUpdate 143 (.map (some n)) (.int .i64 4) (.func (.func 228) #[] #[])).run Tryz.prog (W.alloc (mapV [(0, .func (.func 224) #[] #[.pointer (some ⟨X, 0, none⟩)]), (1, .func (.func 225) #[] #[.pointer (some ⟨X, 0, none⟩)]), (2, .func (.func 226) #[] #[.pointer (some ⟨Y, 0, none⟩)]), (3, .func (.func 227) #[] #[.pointer (some ⟨Y, 0, none⟩)])])) = .ok () (W.alloc (mapV [(0, .func (.func 224) #[] #[.pointer (some ⟨X, 0, none⟩)]), (1, .func (.func 225) #[] #[.pointer (some ⟨X, 0, none⟩)]), (2, .func (.func 226) #[] #[.pointer (some ⟨Y, 0, none⟩)]), (3, .func (.func 227) #[] #[.pointer (some ⟨Y, 0, none⟩)]), (4, .func (.func 228) #[] #[])])) := ms_ins n W _ _ _ hn rfl
theorem ms_ins5 (n X Y : Nat) (W : World) (hn : n = W.heap.size) : (Instr.mapUpdate 143 (.map (some n)) (.int .i64 5) (.func (.func 229) #[] #[.pointer (some ⟨X, 0, none⟩)])).run Tryz.prog (W.alloc (mapV [(0, .func (.func 224) #[] #[.pointer (some ⟨X, 0, none⟩)]), (1, .func (.func 225) #[] #[.pointer (some ⟨X, 0, none⟩)]), (2, .func (.func 226) #[] #[.pointer (some ⟨Y, 0, none⟩)]), (3, .func (.func 227) #[] #[.pointer (some ⟨Y, 0, none⟩)]), (4, .func (.func 228) #[] #[])])) = .ok () (W.alloc (mapV [(0, .func (.func 224) #[] #[.pointer (some ⟨X, 0, none⟩)]), (1, .func (.func 225) #[] #[.pointer (some ⟨X, 0, none⟩)]), (2, .func (.func 226) #[] #[.pointer (some ⟨Y, 0, none⟩)]), (3, .func (.func 227) #[] #[.pointer (some ⟨Y, 0, none⟩)]), (4, .func (.func 228) #[] #[]), (5, .func (.func 229) #[] #[.pointer (some ⟨X, 0, none⟩)])])) := ms_ins n W _ _ _ hn rfl
theorem ms_ins6 (n X Y : Nat) (W : World) (hn : n = W.heap.size) : (Instr.mapUpdate 143 (.map (some n)) (.int .i64 6) (.func (.func 230) #[] #[])).run Tryz.prog (W.alloc (mapV [(0, .func (.func 224) #[] #[.pointer (some ⟨X, 0, none⟩)]), (1, .func (.func 225) #[] #[.pointer (some ⟨X, 0, none⟩)]), (2, .func (.func 226) #[] #[.pointer (some ⟨Y, 0, none⟩)]), (3, .func (.func 227) #[] #[.pointer (some ⟨Y, 0, none⟩)]), (4, .func (.func 228) #[] #[]), (5, .func (.func 229) #[] #[.pointer (some ⟨X, 0, none⟩)])])) = .ok () (W.alloc (mapV [(0, .func (.func 224) #[] #[.pointer (some ⟨X, 0, none⟩)]), (1, .func (.func 225) #[] #[.pointer (some ⟨X, 0, none⟩)]), (2, .func (.func 226) #[] #[.pointer (some ⟨Y, 0, none⟩)]), (3, .func (.func 227) #[] #[.pointer (some ⟨Y, 0, none⟩)]), (4, .func (.func 228) #[] #[]), (5, .func (.func 229) #[] #[.pointer (some ⟨X, 0, none⟩)]), (6, .func (.func 230) #[] #[])])) := ms_ins n W _ _ _ hn rfl
theorem ms_ins7 (n X Y : Nat) (W : World) (hn : n = W.heap.size) : (Instr.mapUpdate 143 (.map (some n)) (.int .i64 7) (.func (.func 231) #[] #[])).run Tryz.prog (W.alloc (mapV [(0, .func (.func 224) #[] #[.pointer (some ⟨X, 0, none⟩)]), (1, .func (.func 225) #[] #[.pointer (some ⟨X, 0, none⟩)]), (2, .func (.func 226) #[] #[.pointer (some ⟨Y, 0, none⟩)]), (3, .func (.func 227) #[] #[.pointer (some ⟨Y, 0, none⟩)]), (4, .func (.func 228) #[] #[]), (5, .func (.func 229) #[] #[.pointer (some ⟨X, 0, none⟩)]), (6, .func (.func 230) #[] #[])])) = .ok () (W.alloc (mapV [(0, .func (.func 224) #[] #[.pointer (some ⟨X, 0, none⟩)]), (1, .func (.func 225) #[] #[.pointer (some ⟨X, 0, none⟩)]), (2, .func (.func 226) #[] #[.pointer (some ⟨Y, 0, none⟩)]), (3, .func (.func 227) #[] #[.pointer (some ⟨Y, 0, none⟩)]), (4, .func (.func 228) #[] #[]), (5, .func (.func 229) #[] #[.pointer (some ⟨X, 0, none⟩)]), (6, .func (.func 230) #[] #[]), (7, .func (.func 231) #[] #[])])) := ms_ins n W _ _ _ hn rfl
attribute [go_sem] ms_mk ms_ins0 ms_ins1 ms_ins2 ms_ins3 ms_ins4 ms_ins5 ms_ins6 ms_ins7 ms_look findV
/-! What goes in, what comes of it, what goes out. -/
def shIn (k b f : Int) : Bool := if k = 0 ∨ k = 5 then bit 7 b else if k = 1 then bit 0 b else if k = 2 ∨ k = 3 then bit 0 f else decide (k = 6)
def shL (b : Int) (i : Bool) : Int := mk (bit 6 b) (bit 5 b) (bit 4 b) (bit 3 b) (bit 2 b) (bit 1 b) (bit 0 b) i
def shRt (b : Int) (i : Bool) : Int := mk i (bit 7 b) (bit 6 b) (bit 5 b) (bit 4 b) (bit 3 b) (bit 2 b) (bit 1 b)
def shR (k b f : Int) : Int := if k % 2 = 0 then shL b (shIn k b f) else shRt b (shIn k b f)
def shO (k b : Int) : Bool := if k % 2 = 0 then bit 7 b else bit 0 b
theorem shR_range (k b f : Int) : 0 ≤ shR k b f ∧ shR k b f ≤ 255 := by unfold shR; split <;> exact mk_range _ _ _ _ _ _ _ _

theorem mv1_ (X : Nat) (b : Int) (w : World) (hX : w.cell? ⟨X, 0, none⟩ = some (.int .u8 b)) : Calls Tryz.prog 224 #[.pointer (some ⟨X, 0, none⟩)] w fun e w' => e = .returned (.int .u8 (b / 128)) ∧ w = w' := by
  go_enter Tryz.func224, Tryz.ntmps224
  go_wp2
  go_ret
  exact ⟨rfl, rfl⟩
theorem mv2_ (X : Nat) (b : Int) (w : World) (hX : w.cell? ⟨X, 0, none⟩ = some (.int .u8 b)) : Calls Tryz.prog 225 #[.pointer (some ⟨X, 0, none⟩)] w fun e w' => e = .returned (.int .u8 (b * 128 % 256)) ∧ w = w' := by
  go_enter Tryz.func225, Tryz.ntmps225
  go_wp2
  go_ret
  exact ⟨rfl, rfl⟩
theorem mv3_ (X : Nat) (c : Int) (w : World) (hX : w.cell? ⟨X, 0, none⟩ = some (.int .u8 c)) : Calls Tryz.prog 226 #[.pointer (some ⟨X, 0, none⟩)] w fun e w' => e = .returned (.int .u8 (c)) ∧ w = w' := by
  go_enter Tryz.func226, Tryz.ntmps226
  go_wp2
  go_ret
  exact ⟨rfl, rfl⟩
theorem mv4_ (X : Nat) (c : Int) (w : World) (hX : w.cell? ⟨X, 0, none⟩ = some (.int .u8 c)) : Calls Tryz.prog 227 #[.pointer (some ⟨X, 0, none⟩)] w fun e w' => e = .returned (.int .u8 (c * 128 % 256)) ∧ w = w' := by
  go_enter Tryz.func227, Tryz.ntmps227
  go_wp2
  go_ret
  exact ⟨rfl, rfl⟩
theorem mv6_ (X : Nat) (b : Int) (w : World) (hX : w.cell? ⟨X, 0, none⟩ = some (.int .u8 b)) : Calls Tryz.prog 229 #[.pointer (some ⟨X, 0, none⟩)] w fun e w' => e = .returned (.int .u8 (bits .and .u8 b 128)) ∧ w = w' := by
  go_enter Tryz.func229, Tryz.ntmps229
  go_wp2
  go_ret
  exact ⟨rfl, rfl⟩
theorem mv5_ (w : World) : Calls Tryz.prog 228 #[] w fun e w' => e = .returned (.int .u8 (0)) ∧ w = w' := by
  go_enter Tryz.func228, Tryz.ntmps228
  go_wp2
  go_ret
  exact ⟨rfl, rfl⟩
theorem mv7_ (w : World) : Calls Tryz.prog 230 #[] w fun e w' => e = .returned (.int .u8 (1)) ∧ w = w' := by
  go_enter Tryz.func230, Tryz.ntmps230
  go_wp2
  go_ret
  exact ⟨rfl, rfl⟩
theorem mv8_ (w : World) : Calls Tryz.prog 231 #[] w fun e w' => e = .returned (.int .u8 (0)) ∧ w = w' := by
  go_enter Tryz.func231, Tryz.ntmps231
  go_wp2
  go_ret
  exact ⟨rfl, rfl⟩
theorem lsh_or (b : Int) (i : Bool) (b0 : 0 ≤ b) (b1 : b ≤ 255) : bits .or .u8 (b * 2 % 256) (bw i 1) = shL b i := by
  cases i
  · exact byte_all (fun b => bits .or .u8 (b * 2 % 256) (bw false 1) = shL b false) (by decide +kernel) b b0 b1
  · exact byte_all (fun b => bits .or .u8 (b * 2 % 256) (bw true 1) = shL b true) (by decide +kernel) b b0 b1
theorem rsh_or (b : Int) (i : Bool) (b0 : 0 ≤ b) (b1 : b ≤ 255) : bits .or .u8 (b / 2) (bw i 128) = shRt b i := by
  cases i
  · exact byte_all (fun b => bits .or .u8 (b / 2) (bw false 128) = shRt b false) (by decide +kernel) b b0 b1
  · exact byte_all (fun b => bits .or .u8 (b / 2) (bw true 128) = shRt b true) (by decide +kernel) b b0 b1
theorem div_128 (b : Int) (b0 : 0 ≤ b) (b1 : b ≤ 255) : b / 128 = bw (bit 7 b) 1 := byte_all (fun b => b / 128 = bw (bit 7 b) 1) (by decide +kernel) b b0 b1
theorem mul_128 (b : Int) (b0 : 0 ≤ b) (b1 : b ≤ 255) : b * 128 % 256 = bw (bit 0 b) 128 := byte_all (fun b => b * 128 % 256 = bw (bit 0 b) 128) (by decide +kernel) b b0 b1
theorem and_128 (b : Int) (b0 : 0 ≤ b) (b1 : b ≤ 255) : bits .and .u8 b 128 = bw (bit 7 b) 128 := byte_all (fun b => bits .and .u8 b 128 = bw (bit 7 b) 128) (by decide +kernel) b b0 b1
theorem and_1 (b : Int) : bits .and .u8 b 1 = bw (bit 0 b) 1 := by have := band_pow 0 (by decide) b; exact this
theorem bw_128 (i : Bool) : bw i 1 * 128 % 256 = bw i 128 := by cases i <;> rfl
theorem ret3' {k l : IntKind} {a b c d : Int} {x y : Bool} (h : a = c) (g : b = d) (i : x = y) : Ending.returned (.tuple #[.int k a, .int l b, .bool x]) = .returned (.tuple #[.int k c, .int l d, .bool y]) := by rw [h, g, i]

theorem Below.dn {m n : Nat} {w w1 : World} (h : Below m w w1) : Below m w (w1.drewN n) := ⟨h.os, h.tape, h.output, h.size, h.block⟩
theorem quiet_same {P : Program} {f : FuncId} {args : Array Value} {w : World} {n : Nat} {v : Value} (h : Calls P f args (w.drewN n) fun e w' => e = .returned v ∧ w.drewN n = w') : Calls P f args (w.drewN n) fun e w'' => e = .returned v ∧ ∃ m, w'' = w.drewN m :=
  h.mono fun _ _ ⟨he, hm⟩ => ⟨he, n, hm.symm⟩
set_option maxHeartbeats 2000000 in
set_option maxRecDepth 20000 in
theorem moved_ (k b f : Int) (b0 : 0 ≤ b) (b1 : b ≤ 255) (k0 : 0 ≤ k) (k1 : k ≤ 7) (w : World) : Calls Tryz.prog 142 #[.int .i64 k, .int .u8 b, .int .u8 f] w fun e w' => e = .returned (.tuple #[.int .u8 (shR k b f), .int .u8 (bw (shO k b) 1), .bool true]) ∧ Below w.heap.size w w' := by
  have hmf : ∀ (fn : Fn) (first cap : Array Value) (w : World), (Instr.makeFunc fn first cap).run Tryz.prog w = .ok (.func fn first cap) w := fun _ _ _ _ => rfl
  have e1 := Lib.hid (lsh_or b (shIn k b f) b0 b1)
  have e2 := Lib.hid (rsh_or b (shIn k b f) b0 b1)
  have e3 := Lib.hid (div_128 b b0 b1)
  have e4 := Lib.hid (mul_128 b b0 b1)
  have e5 := Lib.hid (and_128 b b0 b1)
  have HX := Lib.hid (show ∀ (M : Obj) (n : Nat), ((((w.alloc (.cells #[.int .u8 b] 5)).alloc (.cells #[.int .u8 (bits .and .u8 f 1)] 5)).alloc M).drewN n).cell? ⟨w.heap.size, 0, none⟩ = some (.int .u8 b) from fun M n => (World.cell?_drewN _ _ _).trans (cell_alloc_l M (cell_alloc_l _ (cell_new_l w _ _).1)))
  have HY := Lib.hid (show ∀ (M : Obj) (n : Nat), ((((w.alloc (.cells #[.int .u8 b] 5)).alloc (.cells #[.int .u8 (bits .and .u8 f 1)] 5)).alloc M).drewN n).cell? ⟨w.heap.size + 1, 0, none⟩ = some (.int .u8 (bits .and .u8 f 1)) from fun M n => by
    have h := (cell_new_l (w.alloc (.cells #[.int .u8 b] 5)) (.int .u8 (bits .and .u8 f 1)) 5).1
    rw [World.size_alloc] at h
    exact (World.cell?_drewN _ _ _).trans (cell_alloc_l M h))
  have q0 : bits .and .i64 0 1 = 0 := by decide +kernel
  have q1 : bits .and .i64 1 1 = 1 := by decide +kernel
  have q2 : bits .and .i64 2 1 = 0 := by decide +kernel
  have q3 : bits .and .i64 3 1 = 1 := by decide +kernel
  have q4 : bits .and .i64 4 1 = 0 := by decide +kernel
  have q5 : bits .and .i64 5 1 = 1 := by decide +kernel
  have q6 : bits .and .i64 6 1 = 0 := by decide +kernel
  have q7 : bits .and .i64 7 1 = 1 := by decide +kernel
  have hc : k = 0 ∨ k = 1 ∨ k = 2 ∨ k = 3 ∨ k = 4 ∨ k = 5 ∨ k = 6 ∨ k = 7 := by omega
  rcases hc with rfl | rfl | rfl | rfl | rfl | rfl | rfl | rfl
  all_goals
    go_enter Tryz.func142, Tryz.ntmps142
    go_wp2
    go_quiet ((first | (go_at_call 224; exact quiet_same (mv1_ _ _ _ (HX.out _ _))) | (go_at_call 225; exact quiet_same (mv2_ _ _ _ (HX.out _ _))) | (go_at_call 226; exact quiet_same (mv3_ _ _ _ (HY.out _ _))) | (go_at_call 227; exact quiet_same (mv4_ _ _ _ (HY.out _ _))) | (go_at_call 229; exact quiet_same (mv6_ _ _ _ (HX.out _ _))) | (go_at_call 228; exact quiet_same (mv5_ _)) | (go_at_call 230; exact quiet_same (mv7_ _)) | (go_at_call 231; exact quiet_same (mv8_ _))))
  all_goals
    go_wp2
    go_ret3
    refine ⟨ret3' ?_ ?_ rfl, Below.dn (by go_grown)⟩
    · first
        | exact e1.out
        | exact e2.out
        | (rw [e3.out]; exact e1.out)
        | (rw [and_1]; exact e1.out)
        | (rw [e4.out]; exact e2.out)
        | (rw [e5.out]; exact e2.out)
        | (rw [and_1, bw_128]; exact e2.out)
    · first
        | exact e3.out
        | exact and_1 b
theorem moved_no (k b f : Int) (h : k < 0 ∨ 7 < k) (w : World) : Calls Tryz.prog 142 #[.int .i64 k, .int .u8 b, .int .u8 f] w fun e w' => e = .returned (.tuple #[.int .u8 b, .int .u8 0, .bool false]) ∧ Below w.heap.size w w' := by
  have hmf : ∀ (fn : Fn) (first cap : Array Value) (w : World), (Instr.makeFunc fn first cap).run Tryz.prog w = .ok (.func fn first cap) w := fun _ _ _ _ => rfl
  have n0 : ¬ k = 0 := by omega
  have n1 : ¬ k = 1 := by omega
  have n2 : ¬ k = 2 := by omega
  have n3 : ¬ k = 3 := by omega
  have n4 : ¬ k = 4 := by omega
  have n5 : ¬ k = 5 := by omega
  have n6 : ¬ k = 6 := by omega
  have n7 : ¬ k = 7 := by omega
  go_enter Tryz.func142, Tryz.ntmps142
  go_wp2
  go_ret3
  exact ⟨rfl, by go_grown⟩
/-! Do, Acc. -/
def doR (k b f : Int) : Int := if k < 0 ∨ 7 < k then b else shR k b f
def doF (k b f : Int) : Int := if k < 0 ∨ 7 < k then f else mk (bit 7 (shR k b f)) (decide (shR k b f = 0)) (bit 5 (shR k b f)) false (bit 3 (shR k b f)) (evb (shR k b f)) false (shO k b)
def acR (k a f : Int) : Int := if k < 0 ∨ 3 < k then a else shR k a f
def acF (k a f : Int) : Int := if k < 0 ∨ 3 < k then f else mk (bit 7 f) (bit 6 f) (bit 5 (shR k a f)) false (bit 3 (shR k a f)) (bit 2 f) false (shO k a)
theorem or_out (r : Int) (o : Bool) : bits .or .u8 (evf r) (bw o 1) = mk (bit 7 r) (decide (r = 0)) (bit 5 r) false (bit 3 r) (evb r) false o := by
  rw [show bw o 1 = mk false false false false false false false o by cases o <;> rfl]
  unfold evf
  rw [mk_or]
  simp
theorem acc_out (f r : Int) (o : Bool) : bits .or .u8 (bits .andNot .u8 (kp f r 40) 19) (bw o 1) = mk (bit 7 f) (bit 6 f) (bit 5 r) false (bit 3 r) (bit 2 f) false o := by
  rw [show bw o 1 = mk false false false false false false false o by cases o <;> rfl, kp_mk, mk_19, mk_andNot, mk_or]
  simp (disch := decide) only [mk_40, bit7_mk, bit6_mk, bit5_mk, bit4_mk, bit3_mk, bit2_mk, bit1_mk, bit0_mk]
  simp
theorem sdo_ (k b f : Int) (b0 : 0 ≤ b) (b1 : b ≤ 255) (w : World) : Calls Tryz.prog 67 #[.int .i64 k, .int .u8 b, .int .u8 f] w fun e w' => e = .returned (.tuple #[.int .u8 (doR k b f), .int .u8 (doF k b f)]) ∧ Below w.heap.size w w' := by
  by_cases h : k < 0 ∨ 7 < k
  · have e1 := Lib.hid (show doR k b f = b ∧ doF k b f = f from ⟨if_pos h, if_pos h⟩)
    have H := Lib.hid h
    clear h
    go_enter Tryz.func67, Tryz.ntmps67
    go_wp2_with (go_at_call 142; refine (moved_no _ _ _ H.out _).mono ?_; rintro e w1 ⟨rfl, hb⟩)
    go_ret2
    exact ⟨ret2 e1.out.1.symm e1.out.2.symm, hb⟩
  · have e1 := Lib.hid (show doR k b f = shR k b f ∧ doF k b f = mk (bit 7 (shR k b f)) (decide (shR k b f = 0)) (bit 5 (shR k b f)) false (bit 3 (shR k b f)) (evb (shR k b f)) false (shO k b) from ⟨if_neg h, if_neg h⟩)
    have e2 := Lib.hid (or_out (shR k b f) (shO k b))
    have k0 : 0 ≤ k := by omega
    have k1 : k ≤ 7 := by omega
    clear h
    go_enter Tryz.func67, Tryz.ntmps67
    go_wp2_with (first | (go_at_call 142; refine (moved_ _ _ _ b0 b1 k0 k1 _).mono ?_; rintro e w1 ⟨rfl, hb⟩) | (go_at_call 121; refine (feven_ _ _).mono ?_; rintro e w2 ⟨rfl, hb2⟩))
    go_ret2
    exact ⟨ret2 e1.out.1.symm (e2.out.trans e1.out.2.symm), bt hb hb2⟩
theorem sacc_ (k a f : Int) (a0 : 0 ≤ a) (a1 : a ≤ 255) (w : World) : Calls Tryz.prog 162 #[.int .i64 k, .int .u8 a, .int .u8 f] w fun e w' => e = .returned (.tuple #[.int .u8 (acR k a f), .int .u8 (acF k a f)]) ∧ Below w.heap.size w w' := by
  have hc : (k < 0 ∨ 7 < k) ∨ (3 < k ∧ k ≤ 7) ∨ (0 ≤ k ∧ k ≤ 3) := by omega
  rcases hc with h | ⟨h3, h7⟩ | ⟨k0, k1⟩
  · have e1 := Lib.hid (show acR k a f = a ∧ acF k a f = f from ⟨if_pos (by omega), if_pos (by omega)⟩)
    have H := Lib.hid h
    clear h
    go_enter Tryz.func162, Tryz.ntmps162
    go_wp2_with (go_at_call 142; refine (moved_no _ _ _ H.out _).mono ?_; rintro e w1 ⟨rfl, hb⟩)
    go_ret2
    exact ⟨ret2 e1.out.1.symm e1.out.2.symm, hb⟩
  · have e1 := Lib.hid (show acR k a f = a ∧ acF k a f = f from ⟨if_pos (by omega), if_pos (by omega)⟩)
    have k0 : 0 ≤ k := by omega
    go_enter Tryz.func162, Tryz.ntmps162
    go_wp2_with (go_at_call 142; refine (moved_ _ _ _ a0 a1 k0 h7 _).mono ?_; rintro e w1 ⟨rfl, hb⟩)
    go_ret2
    exact ⟨ret2 e1.out.1.symm e1.out.2.symm, hb⟩
  · have e1 := Lib.hid (show acR k a f = shR k a f ∧ acF k a f = mk (bit 7 f) (bit 6 f) (bit 5 (shR k a f)) false (bit 3 (shR k a f)) (bit 2 f) false (shO k a) from ⟨if_neg (by omega), if_neg (by omega)⟩)
    have e2 := Lib.hid (acc_out f (shR k a f) (shO k a))
    have k7 : k ≤ 7 := by omega
    have k3 : ¬ 3 < k := by omega
    go_enter Tryz.func162, Tryz.ntmps162
    go_wp2_with (first | (go_at_call 142; refine (moved_ _ _ _ a0 a1 k0 k7 _).mono ?_; rintro e w1 ⟨rfl, hb⟩) | (go_at_call 154; refine (keep_ _ _ _ _).mono ?_; rintro e w2 ⟨rfl, rfl⟩))
    go_ret2
    exact ⟨ret2 e1.out.1.symm (e2.out.trans e1.out.2.symm), hb⟩
/-! Bit. -/
def biF (n b lines f : Int) : Int := mk (decide (n = 7) && isb b n) (!isb b n) (bit 5 lines) true (bit 3 lines) (!isb b n) false (bit 0 f)
theorem bit_eq (f lines : Int) : bits .or .u8 (bits .or .u8 (bits .and .u8 f 1) 16) (bits .and .u8 lines 40) = mk false false (bit 5 lines) true (bit 3 lines) false false (bit 0 f) := by
  rw [and_b0, mk_16, mk_or]
  have h : bits .and .u8 lines 40 = mk false false (bit 5 lines) false (bit 3 lines) false false false := by
    have hr := bits_range .and lines 40
    rw [to_mk _ hr.1 hr.2]
    simp (disch := decide) only [bit_and, mk_40, bit7_mk, bit6_mk, bit5_mk, bit4_mk, bit3_mk, bit2_mk, bit1_mk, bit0_mk]
    simp
  rw [h, mk_or]
  simp
theorem bit_no (f l : Int) : bits .or .u8 (bits .or .u8 (mk false false (bit 5 l) true (bit 3 l) false false (bit 0 f)) 64) 4 = mk false true (bit 5 l) true (bit 3 l) true false (bit 0 f) := by
  rw [mk_64, mk_or, mk_4, mk_or]; simp
theorem bit_seven (f l : Int) : bits .or .u8 (mk false false (bit 5 l) true (bit 3 l) false false (bit 0 f)) 128 = mk true false (bit 5 l) true (bit 3 l) false false (bit 0 f) := by
  rw [mk_128, mk_or]; simp
theorem sbit_ (n b lines f : Int) (w : World) : Calls Tryz.prog 70 #[.int .i64 n, .int .u8 b, .int .u8 lines, .int .u8 f] w fun e w' => e = .returned (.int .u8 (biF n b lines f)) ∧ w = w' := by
  have e1 := bit_eq f lines
  have e2 := Lib.hid (bit_no f lines)
  have e3 := Lib.hid (bit_seven f lines)
  rcases (Bool.eq_false_or_eq_true (isb b n)).symm with h | h
  · have H := Lib.hid (show biF n b lines f = mk false true (bit 5 lines) true (bit 3 lines) true false (bit 0 f) by unfold biF; rw [h]; simp)
    go_enter Tryz.func70, Tryz.ntmps70
    go_wp2_with (go_at_call 143; refine (is_ _ _ _).mono ?_; rintro e w1 ⟨rfl, rfl⟩)
    go_ret
    exact ⟨ret_int (e2.out.trans H.out.symm), rfl⟩
  · by_cases h7 : n = 7
    · subst h7
      have H := Lib.hid (show biF 7 b lines f = mk true false (bit 5 lines) true (bit 3 lines) false false (bit 0 f) by unfold biF; rw [h]; simp)
      go_enter Tryz.func70, Tryz.ntmps70
      go_wp2_with (go_at_call 143; refine (is_ _ _ _).mono ?_; rintro e w1 ⟨rfl, rfl⟩)
      go_ret
      exact ⟨ret_int (e3.out.trans H.out.symm), rfl⟩
    · have H := Lib.hid (show biF n b lines f = mk false false (bit 5 lines) true (bit 3 lines) false false (bit 0 f) by unfold biF; rw [h]; simp [h7])
      go_enter Tryz.func70, Tryz.ntmps70
      go_wp2_with (go_at_call 143; refine (is_ _ _ _).mono ?_; rintro e w1 ⟨rfl, rfl⟩)
      go_ret
      exact ⟨ret_int H.out.symm, rfl⟩
end Go.Proofs.YtnaampdpkegacaaGreatDoor

namespace Go.Proofs.YtnaampdpkegacaaGreatDoor
open Go.RowKit

theorem or16_add (k : Nat) (h l : Int) (h0 : 0 ≤ h) (l0 : 0 ≤ l) (l1 : l < 2 ^ k) (hl : h * 2 ^ k + l < 65536) : bits .or .u16 (h * 2 ^ k) l = h * 2 ^ k + l := by
  obtain ⟨h, rfl⟩ := Int.eq_ofNat_of_zero_le h0
  obtain ⟨l, rfl⟩ := Int.eq_ofNat_of_zero_le l0
  have e0 : ((2 : Int) ^ k) = ((2 ^ k : Nat) : Int) := by simp
  rw [e0] at l1 hl ⊢
  have l1' : l < 2 ^ k := by omega
  have e1 : ((h : Int) * ((2 ^ k : Nat) : Int)) = ((h * 2 ^ k : Nat) : Int) := (Int.natCast_mul _ _).symm
  rw [e1] at hl ⊢
  generalize hN : 2 ^ k = N at *
  have e : (BitVec.ofInt 16 ((h * N : Nat) : Int) ||| BitVec.ofInt 16 (l : Int)).toNat = h * N + l := by
    rw [BitVec.ofInt_natCast, BitVec.ofInt_natCast, BitVec.toNat_or, BitVec.toNat_ofNat, BitVec.toNat_ofNat, Nat.mod_eq_of_lt (show h * N < 2 ^ 16 by omega), Nat.mod_eq_of_lt (show l < 2 ^ 16 by omega)]
    have := Nat.shiftLeft_add_eq_or_of_lt (i := k) (b := l) (by rw [hN]; exact l1') h
    rw [Nat.shiftLeft_eq, hN] at this
    exact this.symm
  show IntKind.u16.wrap ((BitVec.ofInt 16 ((h * N : Nat) : Int) ||| BitVec.ofInt 16 (l : Int)).toNat : Int) = _
  rw [e, IntKind.wrap_u16]
  omega
theorem and16_mod (k : Nat) (hk : k ≤ 16) (t : Int) (t0 : 0 ≤ t) (t1 : t ≤ 65535) : bits .and .u16 t ((2 ^ k - 1 : Nat) : Int) = t % ((2 ^ k : Nat) : Int) := by
  obtain ⟨t, rfl⟩ := Int.eq_ofNat_of_zero_le t0
  have hp : 2 ^ k ≤ 2 ^ 16 := Nat.pow_le_pow_right (by decide) hk
  have h1 : 0 < 2 ^ k := Nat.two_pow_pos k
  have e : (BitVec.ofInt 16 (t : Int) &&& BitVec.ofInt 16 ((2 ^ k - 1 : Nat) : Int)).toNat = t % 2 ^ k := by
    rw [BitVec.ofInt_natCast, BitVec.ofInt_natCast, BitVec.toNat_and, BitVec.toNat_ofNat, BitVec.toNat_ofNat, Nat.mod_eq_of_lt (show t < 2 ^ 16 by omega), Nat.mod_eq_of_lt (show 2 ^ k - 1 < 2 ^ 16 by omega)]
    exact Nat.and_two_pow_sub_one_eq_mod t k
  show IntKind.u16.wrap ((BitVec.ofInt 16 (t : Int) &&& BitVec.ofInt 16 ((2 ^ k - 1 : Nat) : Int)).toNat : Int) = _
  rw [e, IntKind.wrap_u16]
  have := Nat.mod_lt t h1
  omega
theorem or16_comm (a b : Int) : bits .or .u16 a b = bits .or .u16 b a := by
  show IntKind.u16.wrap ((BitVec.ofInt 16 a ||| BitVec.ofInt 16 b).toNat : Int) = IntKind.u16.wrap ((BitVec.ofInt 16 b ||| BitVec.ofInt 16 a).toNat : Int)
  rw [BitVec.or_comm]
theorem or8_nib (h p : Int) (h0 : 0 ≤ h) (h1 : h < 16) (p0 : 0 ≤ p) (p1 : p < 16) : bits .or .u8 (h * 16) p = h * 16 + p := by
  have k : ∀ h p : Fin 16, bits .or .u8 ((h.val : Int) * 16) (p.val : Int) = (h.val : Int) * 16 + (p.val : Int) := by decide +kernel
  have := k ⟨h.toNat, by omega⟩ ⟨p.toNat, by omega⟩
  simp only [Int.toNat_of_nonneg h0, Int.toNat_of_nonneg p0] at this
  exact this
theorem and_240 (a : Int) (a0 : 0 ≤ a) (a1 : a ≤ 255) : bits .and .u8 a 240 = a / 16 * 16 :=
  byte_all (fun a => bits .and .u8 a 240 = a / 16 * 16) (by decide +kernel) a a0 a1
def diA (r : Bool) (a b : Int) : Int := a / 16 * 16 + bif r then b % 16 else b / 16
def diB (r : Bool) (a b : Int) : Int := bif r then a % 16 * 16 + b / 16 else b % 16 * 16 + a % 16
def diF (r : Bool) (a b f : Int) : Int := mk (bit 7 (diA r a b)) (decide (diA r a b = 0)) (bit 5 (diA r a b)) false (bit 3 (diA r a b)) (evb (diA r a b)) false (bit 0 f)
theorem diA_range (r : Bool) (a b : Int) (a0 : 0 ≤ a) (a1 : a ≤ 255) (b0 : 0 ≤ b) (b1 : b ≤ 255) : 0 ≤ diA r a b ∧ diA r a b ≤ 255 := by unfold diA; cases r <;> simp only [cond_true, cond_false] <;> omega
theorem diB_range (r : Bool) (a b : Int) (_a0 : 0 ≤ a) (_a1 : a ≤ 255) (b0 : 0 ≤ b) (b1 : b ≤ 255) : 0 ≤ diB r a b ∧ diB r a b ≤ 255 := by unfold diB; cases r <;> simp only [cond_true, cond_false] <;> omega
theorem diF_range (r : Bool) (a b f : Int) : 0 ≤ diF r a b f ∧ diF r a b f ≤ 255 := mk_range _ _ _ _ _ _ _ _
theorem dg_1 (a b : Int) (_a0 : 0 ≤ a) (_a1 : a ≤ 255) (b0 : 0 ≤ b) (b1 : b ≤ 255) : hiB (b % 16 * 256 + (a % 16 * 16 + b / 16)) = b % 16 := by
  have h1 : 0 ≤ b % 16 ∧ b % 16 < 16 := by omega
  have h2 : 0 ≤ a % 16 * 16 + b / 16 ∧ a % 16 * 16 + b / 16 < 256 := by omega
  generalize b % 16 = z at *
  generalize a % 16 * 16 + b / 16 = y at *
  unfold hiB; omega
theorem dg_2 (a b : Int) (_a0 : 0 ≤ a) (_a1 : a ≤ 255) (b0 : 0 ≤ b) (b1 : b ≤ 255) : hiB (b * 16 + a % 16) = b / 16 := by unfold hiB; omega
theorem ret3i {k l m : IntKind} {a b c d x y : Int} (h : a = c) (g : b = d) (i : x = y) : Ending.returned (.tuple #[.int k a, .int l b, .int m x]) = .returned (.tuple #[.int k c, .int l d, .int m y]) := by rw [h, g, i]
theorem digit_ (r : Bool) (a b f : Int) (a0 : 0 ≤ a) (a1 : a ≤ 255) (b0 : 0 ≤ b) (b1 : b ≤ 255) (w : World) : Calls Tryz.prog 218 #[.bool r, .int .u8 a, .int .u8 b, .int .u8 f] w fun e w' => e = .returned (.tuple #[.int .u8 (diA r a b), .int .u8 (diB r a b), .int .u8 (diF r a b f)]) ∧ Below w.heap.size w w' := by
  have e15 := and_15 a a0 a1
  have e240 := and_240 a a0 a1
  have m0 : 0 ≤ a % 16 := by omega
  have m1 : a % 16 < 16 := by omega
  have ew : bits .or .u16 (a % 16 * 256) b = a % 16 * 256 + b := or16_add 8 (a % 16) b m0 b0 (by omega) (by omega)
  have e1 : bits .and .u16 (a % 16 * 256 + b) 15 = b % 16 := (and16_mod 4 (by decide) _ (by omega) (by omega)).trans (by omega)
  have e2 : bits .or .u16 ((a % 16 * 256 + b) / 16) (b % 16 * 256) = b % 16 * 256 + (a % 16 * 16 + b / 16) := by
    rw [or16_comm, show (a % 16 * 256 + b) / 16 = a % 16 * 16 + b / 16 by omega]
    exact or16_add 8 (b % 16) _ (by omega) (by omega) (by omega) (by omega)
  have e3 : bits .and .u16 ((a % 16 * 256 + b) * 16) 4095 = b * 16 := (and16_mod 12 (by decide) _ (by omega) (by omega)).trans (by omega)
  have e4 : bits .or .u16 (b * 16) ((a % 16 * 256 + b) / 256) = b * 16 + a % 16 := by
    rw [show (a % 16 * 256 + b) / 256 = a % 16 by omega]
    exact or16_add 4 b _ b0 (by omega) (by omega) (by omega)
  have e5 : bits .or .u8 (a / 16 * 16) (hiB (b % 16 * 256 + (a % 16 * 16 + b / 16))) = diA true a b := by
    rw [dg_1 a b a0 a1 b0 b1]
    exact or8_nib _ _ (by omega) (by omega) (by omega) (by omega)
  have e6 : bits .or .u8 (a / 16 * 16) (hiB (b * 16 + a % 16)) = diA false a b := by
    rw [dg_2 a b a0 a1 b0 b1]
    exact or8_nib _ _ (by omega) (by omega) (by omega) (by omega)
  have e7 := Lib.hid (show loB (b % 16 * 256 + (a % 16 * 16 + b / 16)) = diB true a b by unfold loB diB; simp only [cond_true]; omega)
  have e8 := Lib.hid (show loB (b * 16 + a % 16) = diB false a b by unfold loB diB; simp only [cond_false]; omega)
  have e9 := Lib.hid (fun r => show bits .or .u8 (evf (diA r a b)) (bits .and .u8 f 1) = diF r a b f from by rw [and_1]; exact or_out _ _)
  cases r
  all_goals
    go_enter Tryz.func218, Tryz.ntmps218
    go_wp2_with (first | (go_at_call 66; refine (hi_ _ _).mono ?_; rintro e w1 ⟨rfl, rfl⟩) | (go_at_call 136; refine (lo_ _ _).mono ?_; rintro e w1 ⟨rfl, rfl⟩) | (go_at_call 121; refine (feven_ _ _).mono ?_; rintro e w1 ⟨rfl, hb⟩))
    go_ret3
    first | exact ⟨ret3i rfl e7.out (e9.out _), hb⟩ | exact ⟨ret3i rfl e8.out (e9.out _), hb⟩
end Go.Proofs.YtnaampdpkegacaaGreatDoor

namespace Go.Proofs.YtnaampdpkegacaaGreatDoor
open Go.RowKit

theorem mk_8 : (8 : Int) = mk false false false false true false false false := rfl
theorem mk_17 : (17 : Int) = mk false false false true false false false true := rfl
theorem mk_32 : (32 : Int) = mk false false true false false false false false := rfl
theorem mk_193 : (193 : Int) = mk true true false false false false false true := rfl
theorem mk_210 : (210 : Int) = mk true true false true false false true false := rfl
def liB (n : Int) : Int := mk false false (bit 1 n) false (bit 3 n) false false false
theorem li_eq (n : Int) (n0 : 0 ≤ n) (n1 : n ≤ 255) : bits .or .u8 (bits .and .u8 (n * 16 % 256) 32) (bits .and .u8 n 8) = liB n :=
  byte_all (fun n => bits .or .u8 (bits .and .u8 (n * 16 % 256) 32) (bits .and .u8 n 8) = liB n) (by decide +kernel) n n0 n1
theorem lines_ (n : Int) (n0 : 0 ≤ n) (n1 : n ≤ 255) (w : World) : Calls Tryz.prog 220 #[.int .u8 n] w fun e w' => e = .returned (.int .u8 (liB n)) ∧ w = w' := by
  have e1 := Lib.hid (li_eq n n0 n1)
  go_enter Tryz.func220, Tryz.ntmps220
  go_wp2
  go_ret
  exact ⟨ret_int e1.out, rfl⟩
/-! Moves. -/
def moF (a b : Int) (nz : Bool) (f : Int) : Int := mk (bit 7 f) (bit 6 f) (bit 1 ((a + b) % 256)) false (bit 3 ((a + b) % 256)) nz false (bit 0 f)
theorem moF_range (a b : Int) (nz : Bool) (f : Int) : 0 ≤ moF a b nz f ∧ moF a b nz f ≤ 255 := mk_range _ _ _ _ _ _ _ _
theorem and_193 (f : Int) : bits .and .u8 f 193 = mk (bit 7 f) (bit 6 f) false false false false false (bit 0 f) := by
  have hr := bits_range .and f 193
  rw [to_mk _ hr.1 hr.2]
  simp (disch := decide) only [bit_and, mk_193, bit7_mk, bit6_mk, bit5_mk, bit4_mk, bit3_mk, bit2_mk, bit1_mk, bit0_mk]
  simp
theorem and_210 (f : Int) : bits .and .u8 f 210 = mk (bit 7 f) (bit 6 f) false (bit 4 f) false false (bit 1 f) false := by
  have hr := bits_range .and f 210
  rw [to_mk _ hr.1 hr.2]
  simp (disch := decide) only [bit_and, mk_210, bit7_mk, bit6_mk, bit5_mk, bit4_mk, bit3_mk, bit2_mk, bit1_mk, bit0_mk]
  simp
theorem mo_no (a b f : Int) : bits .or .u8 (bits .and .u8 f 193) (liB ((a + b) % 256)) = moF a b false f := by
  unfold liB moF; rw [and_193, mk_or]; simp
theorem mo_yes (a b f : Int) : bits .or .u8 (bits .or .u8 (bits .and .u8 f 193) (liB ((a + b) % 256))) 4 = moF a b true f := by
  rw [mo_no]; unfold moF; rw [mk_4, mk_or]; simp
theorem bmove_ (a b bc f : Int) (w : World) : Calls Tryz.prog 132 #[.int .u8 a, .int .u8 b, .int .u16 bc, .int .u8 f] w fun e w' => e = .returned (.int .u8 (moF a b (decide (¬ bc = 0)) f)) ∧ Below w.heap.size w w' := by
  have m0 : 0 ≤ (a + b) % 256 := by omega
  have m1 : (a + b) % 256 ≤ 255 := by omega
  have e1 := Lib.hid (mo_no a b f)
  have e2 := Lib.hid (mo_yes a b f)
  by_cases h : bc = 0
  · have H := Lib.hid (show decide (¬ bc = 0) = false by simp [h])
    rw [H.out]
    go_enter Tryz.func132, Tryz.ntmps132
    go_wp2_with (first | (go_at_call 220; refine (lines_ _ m0 m1 _).mono ?_; rintro e w1 ⟨rfl, rfl⟩) | (go_at_call 219; go_in))
    refine wp_loop_rounds 3 ?_
    repeat any_goals (rw [rounds_succ]; go_wp2)
    go_ret
    exact ⟨ret_int e1.out, by go_grown⟩
  · have H := Lib.hid (show decide (¬ bc = 0) = true by simp [h])
    rw [H.out]
    go_enter Tryz.func132, Tryz.ntmps132
    go_wp2_with (first | (go_at_call 220; refine (lines_ _ m0 m1 _).mono ?_; rintro e w1 ⟨rfl, rfl⟩) | (go_at_call 219; go_in))
    refine wp_loop_rounds 3 ?_
    repeat any_goals (rw [rounds_succ]; go_wp2)
    go_ret
    exact ⟨ret_int e2.out, by go_grown⟩
/-! Finds. -/
def fiN (a b : Int) : Int := (subR a b false - bw (bit 4 (subF a b false)) 1) % 256
def fiF (a b : Int) (nz : Bool) (f : Int) : Int := mk (bit 7 (subF a b false)) (bit 6 (subF a b false)) (bit 1 (fiN a b)) (bit 4 (subF a b false)) (bit 3 (fiN a b)) nz true (bit 0 f)
theorem fiF_range (a b : Int) (nz : Bool) (f : Int) : 0 ≤ fiF a b nz f ∧ fiF a b nz f ≤ 255 := mk_range _ _ _ _ _ _ _ _
theorem fi_no (a b f : Int) : bits .or .u8 (bits .or .u8 (bits .and .u8 (subF a b false) 210) (bits .and .u8 f 1)) (liB (fiN a b)) = fiF a b false f := by
  have h1 : bit 1 (subF a b false) = true := by unfold subF; rw [bit1_mk]
  unfold liB fiF; rw [and_210, and_b0, mk_or, mk_or, h1]; simp
theorem fi_yes (a b f : Int) : bits .or .u8 (bits .or .u8 (bits .or .u8 (bits .and .u8 (subF a b false) 210) (bits .and .u8 f 1)) (liB (fiN a b))) 4 = fiF a b true f := by
  rw [fi_no]; unfold fiF; rw [mk_4, mk_or]; simp
theorem half_16 (g : Int) : bits .and .u8 g 16 / 16 = bw (bit 4 g) 1 := by
  have := band_pow 4 (by decide) g
  rw [show (16 : Int) = 2 ^ 4 from rfl, this]; cases bit 4 g <;> rfl
theorem bfind_ (a b bc f : Int) (a0 : 0 ≤ a) (a1 : a ≤ 255) (b0 : 0 ≤ b) (b1 : b ≤ 255) (w : World) : Calls Tryz.prog 133 #[.int .u8 a, .int .u8 b, .int .u16 bc, .int .u8 f] w fun e w' => e = .returned (.int .u8 (fiF a b (decide (¬ bc = 0)) f)) ∧ Below w.heap.size w w' := by
  have m0 : 0 ≤ fiN a b := by unfold fiN; omega
  have m1 : fiN a b ≤ 255 := by unfold fiN; omega
  have e1 := Lib.hid (fi_no a b f)
  have e2 := Lib.hid (fi_yes a b f)
  have e3 := half_16 (subF a b false)
  have e4 : IntKind.u8.wrap (subR a b false - bw (bit 4 (subF a b false)) 1) = fiN a b := by rw [IntKind.wrap_u8]; rfl
  have e5 : (subR a b false - bw (bit 4 (subF a b false)) 1) % 256 = fiN a b := rfl
  by_cases h : bc = 0
  all_goals
    have H := Lib.hid (show decide (¬ bc = 0) = _ by simp [h]; rfl)
    rw [H.out]
    go_enter Tryz.func133, Tryz.ntmps133
    go_wp2_with (first | (go_at_call 157; refine (sub_ _ _ _ a0 a1 b0 b1 _).mono ?_; rintro e w1 ⟨rfl, hb⟩) | (go_at_call 220; refine (lines_ _ m0 m1 _).mono ?_; rintro e w1 ⟨rfl, rfl⟩) | (go_at_call 219; go_in))
    refine wp_loop_rounds 3 ?_
    repeat any_goals (rw [rounds_succ]; go_wp2)
    go_ret
    first | exact ⟨ret_int e1.out, bt hb (by go_grown)⟩ | exact ⟨ret_int e2.out, bt hb (by go_grown)⟩
/-! Bytes that go in and out. -/
def coF (b left k : Int) : Int := mk (bit 7 left) (decide (left = 0)) (bit 5 left) (decide (255 < k)) (bit 3 left) (evb (bits .xor .u8 (k % 8) left)) (decide (127 < b)) (decide (255 < k))
theorem coF_range (b left k : Int) : 0 ≤ coF b left k ∧ coF b left k ≤ 255 := mk_range _ _ _ _ _ _ _ _
theorem and_7 (k : Int) (k0 : 0 ≤ k) (k1 : k ≤ 65535) : bits .and .i64 k 7 = k % 8 := by
  obtain ⟨k, rfl⟩ := Int.eq_ofNat_of_zero_le k0
  have e : (BitVec.ofInt 64 (k : Int) &&& BitVec.ofInt 64 ((7 : Nat) : Int)).toNat = k % 8 := by
    rw [BitVec.ofInt_natCast, BitVec.ofInt_natCast, BitVec.toNat_and, BitVec.toNat_ofNat, BitVec.toNat_ofNat, Nat.mod_eq_of_lt (show k < 2 ^ 64 by omega), Nat.mod_eq_of_lt (show 7 < 2 ^ 64 by omega)]
    exact Nat.and_two_pow_sub_one_eq_mod k 3
  show IntKind.i64.wrap ((BitVec.ofInt 64 (k : Int) &&& BitVec.ofInt 64 ((7 : Nat) : Int)).toNat : Int) = _
  rw [e]
  have := Nat.mod_lt k (show 0 < 8 by decide)
  rw [IntKind.wrap_i64]
  omega
def cow (x : Int) (a b c : Bool) : Int :=
  let y := bif a then bits .or .u8 x 17 else x
  let z := bif b then bits .or .u8 y 4 else y
  bif c then bits .or .u8 z 2 else z
theorem co_eq (left : Int) (a b c : Bool) : cow (res left) a b c = mk (bit 7 left) (decide (left = 0)) (bit 5 left) a (bit 3 left) b c a := by
  unfold cow res
  cases a <;> cases b <;> cases c <;> simp only [cond_true, cond_false, mk_17, mk_4, mk_2, mk_or] <;> simp
set_option maxHeartbeats 2000000 in
theorem counted_ (b left k : Int) (k0 : 0 ≤ k) (k1 : k ≤ 65535) (w : World) : Calls Tryz.prog 221 #[.int .u8 b, .int .u8 left, .int .i64 k] w fun e w' => e = .returned (.int .u8 (coF b left k)) ∧ Below w.heap.size w w' := by
  have e7 := and_7 k k0 k1
  have m0 : 0 ≤ k % 8 := by omega
  have m1 : k % 8 < 8 := by omega
  have E : coF b left k = cow (res left) (decide (255 < k)) (evb (bits .xor .u8 (k % 8) left)) (decide (127 < b)) := by rw [co_eq]; rfl
  rcases (Bool.eq_false_or_eq_true (evb (bits .xor .u8 (k % 8) left))).symm with hp | hp <;> by_cases hk : 255 < k <;> by_cases hq : 127 < b
  all_goals
    simp only [hp, hk, hq, decide_true, decide_false, cow, cond_true, cond_false] at E
    have E2 := Lib.hid E
    clear E
    go_enter Tryz.func221, Tryz.ntmps221
    go_wp2_with (first | (go_at_call 216; refine (result_ _ _).mono ?_; rintro e w1 ⟨rfl, rfl⟩) | (go_at_call 217; refine (beven_ _ _).mono ?_; rw [hp]; rintro e w1 ⟨rfl, hb⟩) | (go_at_call 219; go_in))
    refine wp_loop_rounds 5 ?_
    repeat any_goals (rw [rounds_succ]; go_wp2)
    go_ret
    exact ⟨ret_int E2.out.symm, bt hb (by go_grown)⟩
theorem take_ (b c left by' : Int) (b0 : 0 ≤ b) (b1 : b ≤ 255) (w : World) : Calls Tryz.prog 135 #[.int .u8 b, .int .u8 c, .int .u8 left, .int .i64 by'] w fun e w' => e = .returned (.int .u8 (coF b left (b + (c + by') % 256))) ∧ Below w.heap.size w w' := by
  have m0 : 0 ≤ (c + by') % 256 := by omega
  have m1 : (c + by') % 256 ≤ 255 := by omega
  have e1 : IntKind.u8.wrap (c + IntKind.u8.wrap by') = (c + by') % 256 := by simp only [IntKind.wrap_u8]; omega
  have e2 : (c + by' % 256) % 256 = (c + by') % 256 := by omega
  go_enter Tryz.func135, Tryz.ntmps135
  go_wp2_with (go_at_call 221; refine (counted_ _ _ _ (by omega) (by omega) _).mono ?_; rintro e w1 ⟨rfl, hb⟩)
  go_ret
  exact ⟨rfl, hb⟩
theorem give_ (b l left : Int) (b0 : 0 ≤ b) (b1 : b ≤ 255) (l0 : 0 ≤ l) (l1 : l ≤ 255) (w : World) : Calls Tryz.prog 137 #[.int .u8 b, .int .u8 l, .int .u8 left] w fun e w' => e = .returned (.int .u8 (coF b left (b + l))) ∧ Below w.heap.size w w' := by
  go_enter Tryz.func137, Tryz.ntmps137
  go_wp2_with (go_at_call 221; refine (counted_ _ _ _ (by omega) (by omega) _).mono ?_; rintro e w1 ⟨rfl, hb⟩)
  go_ret
  exact ⟨rfl, hb⟩
def agS (k f : Int) : Bool := if k = 0 then bit 2 f else if k = 1 then bit 2 f && !bit 6 f else if k = 2 ∨ k = 3 then !bit 6 f else false
set_option maxHeartbeats 2000000 in
theorem again_ (k f : Int) (w : World) : Calls Tryz.prog 138 #[.int .i64 k, .int .u8 f] w fun e w' => e = .returned (.bool (agS k f)) ∧ w = w' := by
  have n4 := ne4 f
  have n64 := ne64 f
  have hc : k = 0 ∨ k = 1 ∨ k = 2 ∨ k = 3 ∨ (¬ k = 0 ∧ ¬ k = 1 ∧ ¬ k = 2 ∧ ¬ k = 3) := by omega
  rcases hc with rfl | rfl | rfl | rfl | ⟨h0, h1, h2, h3⟩ <;> rcases (Bool.eq_false_or_eq_true (bit 2 f)).symm with p | p <;> rcases (Bool.eq_false_or_eq_true (bit 6 f)).symm with q | q
  all_goals
    rw [p] at n4
    rw [q] at n64
    have P := Lib.hid p
    have Q := Lib.hid q
    clear p q
    go_enter Tryz.func138, Tryz.ntmps138
    go_wp2
    go_ret
    exact ⟨ret_bool (by unfold agS; rw [P.out, Q.out]; simp [*]), rfl⟩
end Go.Proofs.YtnaampdpkegacaaGreatDoor

namespace Go.Proofs.YtnaampdpkegacaaGreatDoor
open Go.RowKit

def oAdd (a : U8) (b : U8) (c : Bool) : U8 := ⟨addR a.v b.v c, (addR_range _ _ _).1, (addR_range _ _ _).2⟩
def oAddF (a : U8) (b : U8) (c : Bool) : U8 := ⟨addF a.v b.v c, (addF_range _ _ _).1, (addF_range _ _ _).2⟩
theorem oAdd_ (a : U8) (b : U8) (c : Bool) (w : World) : Calls Tryz.prog 152 #[.int .u8 a.v, .int .u8 b.v, .bool c] w fun e w' => e = .returned (.tuple #[.int .u8 (oAdd a b c).v, .int .u8 (oAddF a b c).v]) ∧ Below w.heap.size w w' := add_ a.v b.v c a.h0 a.h1 b.h0 b.h1 w
def oSub (a : U8) (b : U8) (c : Bool) : U8 := ⟨subR a.v b.v c, (subR_range _ _ _).1, (subR_range _ _ _).2⟩
def oSubF (a : U8) (b : U8) (c : Bool) : U8 := ⟨subF a.v b.v c, (subF_range _ _ _).1, (subF_range _ _ _).2⟩
theorem oSub_ (a : U8) (b : U8) (c : Bool) (w : World) : Calls Tryz.prog 157 #[.int .u8 a.v, .int .u8 b.v, .bool c] w fun e w' => e = .returned (.tuple #[.int .u8 (oSub a b c).v, .int .u8 (oSubF a b c).v]) ∧ Below w.heap.size w w' := sub_ a.v b.v c a.h0 a.h1 b.h0 b.h1 w
def oCmp (a : U8) (b : U8) : U8 := ⟨cmpF a.v b.v, (cmpF_range _ _).1, (cmpF_range _ _).2⟩
theorem oCmp_ (a : U8) (b : U8) (w : World) : Calls Tryz.prog 167 #[.int .u8 a.v, .int .u8 b.v] w fun e w' => e = .returned (.int .u8 (oCmp a b).v) ∧ Below w.heap.size w w' := cmp_ a.v b.v a.h0 a.h1 b.h0 b.h1 w
def oInc (a : U8) : U8 := ⟨addR a.v 1 false, (addR_range _ _ _).1, (addR_range _ _ _).2⟩
def oIncF (a : U8) (f : U8) : U8 := ⟨kp (addF a.v 1 false) f.v 1, (kp_range _ _ _).1, (kp_range _ _ _).2⟩
theorem oInc_ (a : U8) (f : U8) (w : World) : Calls Tryz.prog 83 #[.int .u8 a.v, .int .u8 f.v] w fun e w' => e = .returned (.tuple #[.int .u8 (oInc a).v, .int .u8 (oIncF a f).v]) ∧ Below w.heap.size w w' := inc_ a.v f.v a.h0 a.h1 w
def oDec (a : U8) : U8 := ⟨subR a.v 1 false, (subR_range _ _ _).1, (subR_range _ _ _).2⟩
def oDecF (a : U8) (f : U8) : U8 := ⟨kp (subF a.v 1 false) f.v 1, (kp_range _ _ _).1, (kp_range _ _ _).2⟩
theorem oDec_ (a : U8) (f : U8) (w : World) : Calls Tryz.prog 84 #[.int .u8 a.v, .int .u8 f.v] w fun e w' => e = .returned (.tuple #[.int .u8 (oDec a).v, .int .u8 (oDecF a f).v]) ∧ Below w.heap.size w w' := dec_ a.v f.v a.h0 a.h1 w
def oNeg (a : U8) : U8 := ⟨subR 0 a.v false, (subR_range _ _ _).1, (subR_range _ _ _).2⟩
def oNegF (a : U8) : U8 := ⟨subF 0 a.v false, (subF_range _ _ _).1, (subF_range _ _ _).2⟩
theorem oNeg_ (a : U8) (w : World) : Calls Tryz.prog 127 #[.int .u8 a.v] w fun e w' => e = .returned (.tuple #[.int .u8 (oNeg a).v, .int .u8 (oNegF a).v]) ∧ Below w.heap.size w w' := neg_ a.v a.h0 a.h1 w
def oAnd (a : U8) (b : U8) : U8 := ⟨bits .and .u8 a.v b.v, (bits_range _ _ _).1, (bits_range _ _ _).2⟩
def oAndF (a : U8) (b : U8) : U8 := ⟨lgF (bits .and .u8 a.v b.v) true, (lgF_range _ _).1, (lgF_range _ _).2⟩
theorem oAnd_ (a : U8) (b : U8) (w : World) : Calls Tryz.prog 164 #[.int .u8 a.v, .int .u8 b.v] w fun e w' => e = .returned (.tuple #[.int .u8 (oAnd a b).v, .int .u8 (oAndF a b).v]) ∧ Below w.heap.size w w' := land_ a.v b.v w
def oOr (a : U8) (b : U8) : U8 := ⟨bits .or .u8 a.v b.v, (bits_range _ _ _).1, (bits_range _ _ _).2⟩
def oOrF (a : U8) (b : U8) : U8 := ⟨lgF (bits .or .u8 a.v b.v) false, (lgF_range _ _).1, (lgF_range _ _).2⟩
theorem oOr_ (a : U8) (b : U8) (w : World) : Calls Tryz.prog 166 #[.int .u8 a.v, .int .u8 b.v] w fun e w' => e = .returned (.tuple #[.int .u8 (oOr a b).v, .int .u8 (oOrF a b).v]) ∧ Below w.heap.size w w' := lor_ a.v b.v w
def oXor (a : U8) (b : U8) : U8 := ⟨bits .xor .u8 a.v b.v, (bits_range _ _ _).1, (bits_range _ _ _).2⟩
def oXorF (a : U8) (b : U8) : U8 := ⟨lgF (bits .xor .u8 a.v b.v) false, (lgF_range _ _).1, (lgF_range _ _).2⟩
theorem oXor_ (a : U8) (b : U8) (w : World) : Calls Tryz.prog 165 #[.int .u8 a.v, .int .u8 b.v] w fun e w' => e = .returned (.tuple #[.int .u8 (oXor a b).v, .int .u8 (oXorF a b).v]) ∧ Below w.heap.size w w' := lxor_ a.v b.v w
def oCpl (a : U8) : U8 := ⟨notB a.v, (notB_range _ a.h0 a.h1).1, (notB_range _ a.h0 a.h1).2⟩
def oCplF (a : U8) (f : U8) : U8 := ⟨cplF a.v f.v, (cplF_range _ _).1, (cplF_range _ _).2⟩
theorem oCpl_ (a : U8) (f : U8) (w : World) : Calls Tryz.prog 159 #[.int .u8 a.v, .int .u8 f.v] w fun e w' => e = .returned (.tuple #[.int .u8 (oCpl a).v, .int .u8 (oCplF a f).v]) ∧ w = w' := lcpl_ a.v f.v a.h0 a.h1 w
def oScf (a : U8) (f : U8) : U8 := ⟨scfF a.v f.v, (scfF_range _ _).1, (scfF_range _ _).2⟩
theorem oScf_ (a : U8) (f : U8) (w : World) : Calls Tryz.prog 160 #[.int .u8 a.v, .int .u8 f.v] w fun e w' => e = .returned (.int .u8 (oScf a f).v) ∧ w = w' := lscf_ a.v f.v w
def oCcf (a : U8) (f : U8) : U8 := ⟨ccfF a.v f.v, (ccfF_range _ _).1, (ccfF_range _ _).2⟩
theorem oCcf_ (a : U8) (f : U8) (w : World) : Calls Tryz.prog 161 #[.int .u8 a.v, .int .u8 f.v] w fun e w' => e = .returned (.int .u8 (oCcf a f).v) ∧ w = w' := lccf_ a.v f.v w
def oDaa (a : U8) (f : U8) : U8 := ⟨daR a.v f.v, (daR_range _ _).1, (daR_range _ _).2⟩
def oDaaF (a : U8) (f : U8) : U8 := ⟨daF a.v f.v, (daF_range _ _).1, (daF_range _ _).2⟩
theorem oDaa_ (a : U8) (f : U8) (w : World) (hL : Lg w) : Calls Tryz.prog 158 #[.int .u8 a.v, .int .u8 f.v] w fun e w' => e = .returned (.tuple #[.int .u8 (oDaa a f).v, .int .u8 (oDaaF a f).v]) ∧ Below w.heap.size w w' := ldaa_ a.v f.v a.h0 a.h1 w hL
theorem doR_range (k b f : Int) (b0 : 0 ≤ b) (b1 : b ≤ 255) : 0 ≤ doR k b f ∧ doR k b f ≤ 255 := by unfold doR; split; exact ⟨b0, b1⟩; exact shR_range _ _ _
theorem doF_range (k b f : Int) (b0 : 0 ≤ f) (b1 : f ≤ 255) : 0 ≤ doF k b f ∧ doF k b f ≤ 255 := by unfold doF; split; exact ⟨b0, b1⟩; exact mk_range _ _ _ _ _ _ _ _
theorem acR_range (k b f : Int) (b0 : 0 ≤ b) (b1 : b ≤ 255) : 0 ≤ acR k b f ∧ acR k b f ≤ 255 := by unfold acR; split; exact ⟨b0, b1⟩; exact shR_range _ _ _
theorem acF_range (k b f : Int) (b0 : 0 ≤ f) (b1 : f ≤ 255) : 0 ≤ acF k b f ∧ acF k b f ≤ 255 := by unfold acF; split; exact ⟨b0, b1⟩; exact mk_range _ _ _ _ _ _ _ _
def oDo (k : Int) (b : U8) (f : U8) : U8 := ⟨doR k b.v f.v, (doR_range _ _ _ b.h0 b.h1).1, (doR_range _ _ _ b.h0 b.h1).2⟩
def oDoF (k : Int) (b : U8) (f : U8) : U8 := ⟨doF k b.v f.v, (doF_range _ _ _ f.h0 f.h1).1, (doF_range _ _ _ f.h0 f.h1).2⟩
theorem oDo_ (k : Int) (b : U8) (f : U8) (w : World) : Calls Tryz.prog 67 #[.int .i64 k, .int .u8 b.v, .int .u8 f.v] w fun e w' => e = .returned (.tuple #[.int .u8 (oDo k b f).v, .int .u8 (oDoF k b f).v]) ∧ Below w.heap.size w w' := sdo_ k b.v f.v b.h0 b.h1 w
def oAcc (k : Int) (b : U8) (f : U8) : U8 := ⟨acR k b.v f.v, (acR_range _ _ _ b.h0 b.h1).1, (acR_range _ _ _ b.h0 b.h1).2⟩
def oAccF (k : Int) (b : U8) (f : U8) : U8 := ⟨acF k b.v f.v, (acF_range _ _ _ f.h0 f.h1).1, (acF_range _ _ _ f.h0 f.h1).2⟩
theorem oAcc_ (k : Int) (b : U8) (f : U8) (w : World) : Calls Tryz.prog 162 #[.int .i64 k, .int .u8 b.v, .int .u8 f.v] w fun e w' => e = .returned (.tuple #[.int .u8 (oAcc k b f).v, .int .u8 (oAccF k b f).v]) ∧ Below w.heap.size w w' := sacc_ k b.v f.v b.h0 b.h1 w
def oBit (n : Int) (b : U8) (l : U8) (f : U8) : U8 := ⟨biF n b.v l.v f.v, (mk_range _ _ _ _ _ _ _ _).1, (mk_range _ _ _ _ _ _ _ _).2⟩
theorem oBit_ (n : Int) (b : U8) (l : U8) (f : U8) (w : World) : Calls Tryz.prog 70 #[.int .i64 n, .int .u8 b.v, .int .u8 l.v, .int .u8 f.v] w fun e w' => e = .returned (.int .u8 (oBit n b l f).v) ∧ w = w' := sbit_ n b.v l.v f.v w
def oDigA (r : Bool) (a : U8) (b : U8) : U8 := ⟨diA r a.v b.v, (diA_range _ _ _ a.h0 a.h1 b.h0 b.h1).1, (diA_range _ _ _ a.h0 a.h1 b.h0 b.h1).2⟩
def oDigB (r : Bool) (a : U8) (b : U8) : U8 := ⟨diB r a.v b.v, (diB_range _ _ _ a.h0 a.h1 b.h0 b.h1).1, (diB_range _ _ _ a.h0 a.h1 b.h0 b.h1).2⟩
def oDigF (r : Bool) (a : U8) (b : U8) (f : U8) : U8 := ⟨diF r a.v b.v f.v, (diF_range _ _ _ _).1, (diF_range _ _ _ _).2⟩
theorem oDig_ (r : Bool) (a : U8) (b : U8) (f : U8) (w : World) : Calls Tryz.prog 218 #[.bool r, .int .u8 a.v, .int .u8 b.v, .int .u8 f.v] w fun e w' => e = .returned (.tuple #[.int .u8 (oDigA r a b).v, .int .u8 (oDigB r a b).v, .int .u8 (oDigF r a b f).v]) ∧ Below w.heap.size w w' := digit_ r a.v b.v f.v a.h0 a.h1 b.h0 b.h1 w
def oWith (b : U8) (n : Int) (on : Bool) : U8 := ⟨wth b.v n on, (wth_range _ _ _ b.h0 b.h1).1, (wth_range _ _ _ b.h0 b.h1).2⟩
theorem oWith_ (b : U8) (n : Int) (on : Bool) (w : World) : Calls Tryz.prog 71 #[.int .u8 b.v, .int .i64 n, .bool on] w fun e w' => e = .returned (.int .u8 (oWith b n on).v) ∧ w = w' := with_ b.v n on w
def oEven (r : U8) : U8 := ⟨evf r.v, (evf_range _).1, (evf_range _).2⟩
theorem oEven_ (r : U8) (w : World) : Calls Tryz.prog 121 #[.int .u8 r.v] w fun e w' => e = .returned (.int .u8 (oEven r).v) ∧ Below w.heap.size w w' := feven_ r.v w
def oRes (r : U8) : U8 := ⟨res r.v, (res_range _).1, (res_range _).2⟩
theorem oRes_ (r : U8) (w : World) : Calls Tryz.prog 216 #[.int .u8 r.v] w fun e w' => e = .returned (.int .u8 (oRes r).v) ∧ w = w' := result_ r.v w
def oHAdd (a b : U16) : U16 := ⟨wAddR a.v b.v false, wAddR_0 _ _ _, wAddR_1 _ _ _⟩
def oHAddF (a b : U16) (f : U8) : U8 := ⟨hAddF a.v b.v f.v, (hAddF_range _ _ _).1, (hAddF_range _ _ _).2⟩
theorem oHAdd_ (a : U16) (b : U16) (f : U8) (w : World) : Calls Tryz.prog 79 #[.int .u16 a.v, .int .u16 b.v, .int .u8 f.v] w fun e w' => e = .returned (.tuple #[.int .u16 (oHAdd a b).v, .int .u8 (oHAddF a b f).v]) ∧ Below w.heap.size w w' := wadd_ a.v b.v f.v a.h0 a.h1 b.h0 b.h1 w
def oAdc (a b : U16) (f : U8) : U16 := ⟨wAddR a.v b.v (bit 0 f.v), wAddR_0 _ _ _, wAddR_1 _ _ _⟩
def oAdcF (a b : U16) (f : U8) : U8 := ⟨wAddF a.v b.v (bit 0 f.v), (wAddF_range _ _ _).1, (wAddF_range _ _ _).2⟩
theorem oAdc_ (a : U16) (b : U16) (f : U8) (w : World) : Calls Tryz.prog 124 #[.int .u16 a.v, .int .u16 b.v, .int .u8 f.v] w fun e w' => e = .returned (.tuple #[.int .u16 (oAdc a b f).v, .int .u8 (oAdcF a b f).v]) ∧ Below w.heap.size w w' := wadc_ a.v b.v f.v a.h0 a.h1 b.h0 b.h1 w
def oSbc (a b : U16) (f : U8) : U16 := ⟨wSubR a.v b.v (bit 0 f.v), wSubR_0 _ _ _, wSubR_1 _ _ _⟩
def oSbcF (a b : U16) (f : U8) : U8 := ⟨wSubF a.v b.v (bit 0 f.v), (wSubF_range _ _ _).1, (wSubF_range _ _ _).2⟩
theorem oSbc_ (a : U16) (b : U16) (f : U8) (w : World) : Calls Tryz.prog 123 #[.int .u16 a.v, .int .u16 b.v, .int .u8 f.v] w fun e w' => e = .returned (.tuple #[.int .u16 (oSbc a b f).v, .int .u8 (oSbcF a b f).v]) ∧ Below w.heap.size w w' := wsbc_ a.v b.v f.v a.h0 a.h1 b.h0 b.h1 w
theorem oMv_ (x : U16) (n : Int) (w : World) : Calls Tryz.prog 81 #[.int .u16 x.v, .int .i64 n] w fun e w' => e = .returned (.int .u16 (x.mv n).v) ∧ w = w' := move_ x.v n w
theorem oNear_ (x : U16) (b : U8) (w : World) : Calls Tryz.prog 73 #[.int .u16 x.v, .int .u8 b.v] w fun e w' => e = .returned (.int .u16 (x.mv (sgn b.v)).v) ∧ w = w' := near_ x.v b.v b.h0 b.h1 w
def oMo (a b : U8) (nz : Bool) (f : U8) : U8 := ⟨moF a.v b.v nz f.v, (moF_range _ _ _ _).1, (moF_range _ _ _ _).2⟩
def oFi (a b : U8) (nz : Bool) (f : U8) : U8 := ⟨fiF a.v b.v nz f.v, (fiF_range _ _ _ _).1, (fiF_range _ _ _ _).2⟩
def U16.nz (x : U16) : Bool := decide (¬ x.v = 0)
theorem oMo_ (a : U8) (b : U8) (x : U16) (f : U8) (w : World) : Calls Tryz.prog 132 #[.int .u8 a.v, .int .u8 b.v, .int .u16 x.v, .int .u8 f.v] w fun e w' => e = .returned (.int .u8 (oMo a b x.nz f).v) ∧ Below w.heap.size w w' := bmove_ a.v b.v x.v f.v w
theorem oFi_ (a : U8) (b : U8) (x : U16) (f : U8) (w : World) : Calls Tryz.prog 133 #[.int .u8 a.v, .int .u8 b.v, .int .u16 x.v, .int .u8 f.v] w fun e w' => e = .returned (.int .u8 (oFi a b x.nz f).v) ∧ Below w.heap.size w w' := bfind_ a.v b.v x.v f.v a.h0 a.h1 b.h0 b.h1 w
def oTake (b c left : U8) (n : Int) : U8 := ⟨coF b.v left.v (b.v + (c.v + n) % 256), (coF_range _ _ _).1, (coF_range _ _ _).2⟩
def oGive (b l left : U8) : U8 := ⟨coF b.v left.v (b.v + l.v), (coF_range _ _ _).1, (coF_range _ _ _).2⟩
theorem oTake_ (b : U8) (c : U8) (left : U8) (n : Int) (w : World) : Calls Tryz.prog 135 #[.int .u8 b.v, .int .u8 c.v, .int .u8 left.v, .int .i64 n] w fun e w' => e = .returned (.int .u8 (oTake b c left n).v) ∧ Below w.heap.size w w' := take_ b.v c.v left.v n b.h0 b.h1 w
theorem oGive_ (b : U8) (l : U8) (left : U8) (w : World) : Calls Tryz.prog 137 #[.int .u8 b.v, .int .u8 l.v, .int .u8 left.v] w fun e w' => e = .returned (.int .u8 (oGive b l left).v) ∧ Below w.heap.size w w' := give_ b.v l.v left.v b.h0 b.h1 l.h0 l.h1 w
theorem oAgain_ (k : Int) (f : U8) (w : World) : Calls Tryz.prog 138 #[.int .i64 k, .int .u8 f.v] w fun e w' => e = .returned (.bool (agS k f.v)) ∧ w = w' := again_ k f.v w
theorem oTest_ (f : U8) (k : Int) (w : World) : Calls Tryz.prog 168 #[.int .u8 f.v, .int .i64 k] w fun e w' => e = .returned (.bool (tst f.v k)) ∧ Below w.heap.size w w' := test_ f.v k w
/-- What every way leads to. -/
def T.All {α : Type} (P : α → Prop) : T α → Prop
  | .ret a => P a
  | .ask _ k => ∀ b, (k b).All P
theorem T.All.bind {α β : Type} {P : α → Prop} {Q : β → Prop} {f : α → T β} (h : ∀ a, P a → (f a).All Q) : ∀ t : T α, t.All P → (t.bind f).All Q
  | .ret a, ha => h a ha
  | .ask _ k, ha => fun b => T.All.bind h (k b) (ha b)
theorem T.All.exec {α : Type} {P : α → Prop} : ∀ (t : T α) (l : List U8) (a : α) (l' : List U8), t.All P → t.exec l = .ok (a, l') → P a
  | .ret _, _, _, _, h, e => by cases e; exact h
  | .ask _ _, [], _, _, _, e => by cases e
  | .ask _ k, b :: l, a, l', h, e => T.All.exec (k b) l a l' (h b) e
/-- The plane and the code are the same. -/
def Same (s t : CS) : Prop := t.plane = s.plane ∧ t.code = s.code ∧ t.x = s.x ∧ t.y = s.y ∧ t.z = s.z ∧ t.p = s.p ∧ t.q = s.q
theorem Same.refl (s : CS) : Same s s := ⟨rfl, rfl, rfl, rfl, rfl, rfl, rfl⟩
theorem Same.trans {a b c : CS} (h : Same a b) (k : Same b c) : Same a c := by
  obtain ⟨h1, h2, h3, h4, h5, h6, h7⟩ := h
  obtain ⟨k1, k2, k3, k4, k5, k6, k7⟩ := k
  exact ⟨k1.trans h1, k2.trans h2, k3.trans h3, k4.trans h4, k5.trans h5, k6.trans h6, k7.trans h7⟩
def Fr {α : Type} (m : PM α) : Prop := ∀ s, (m s).All fun p => Same s p.2
theorem fr_pure {α : Type} (a : α) : Fr (pure a : PM α) := fun s => Same.refl s
theorem fr_get : Fr PM.get := fun s => Same.refl s
theorem fr_mod {g : CS → CS} (h : ∀ s, Same s (g s)) : Fr (PM.mod g) := h
theorem fr_cycle (c : Cyc) : Fr (cycleS c) := fun s _ => Same.refl s
theorem fr_bind {α β : Type} {m : PM α} {f : α → PM β} (h : Fr m) (k : ∀ a, Fr (f a)) : Fr (m >>= f) := fun s =>
  T.All.bind (fun p hp => by
    have := k p.1 p.2
    generalize (f p.1) p.2 = t at this ⊢
    revert this
    induction t with
    | ret a => exact fun this => hp.trans this
    | ask c k ih => exact fun this b => ih b (this b)) (m s) (h s)
theorem fr_ite {α : Type} {p : Prop} [Decidable p] {m n : PM α} (h : Fr m) (k : Fr n) : Fr (if p then m else n) := by split <;> assumption
theorem fr_match {α : Type} {b : Bool} {m n : PM α} (h : Fr m) (k : Fr n) : Fr (if b then m else n) := fr_ite h k
theorem run_fr {α : Type} {m : PM α} {s s1 : PS} {v : α} (h : Fr m) (e : run m s = .ok (v, s1)) : Same s.toCS s1.toCS := by
  unfold run at e
  cases hx : (m s.toCS).exec s.got with
  | error c => rw [hx] at e; cases e
  | ok p =>
    rw [hx] at e
    obtain ⟨⟨a, c⟩, l⟩ := p
    have := T.All.exec _ _ _ _ (h s.toCS) hx
    cases e
    exact this
theorem fr_read (a : U16) : Fr (readS a) := fr_cycle _
theorem fr_in (a : U16) : Fr (inS a) := fr_cycle _
theorem fr_write (a : U16) (b : U8) : Fr (writeS a b) := fr_bind (fr_cycle _) fun _ => fr_pure _
theorem fr_out (a : U16) (b : U8) : Fr (outS a b) := fr_bind (fr_cycle _) fun _ => fr_pure _
theorem fr_states (n : Int) : Fr (statesS n) := fr_bind (fr_cycle _) fun _ => fr_pure _
theorem fr_number : Fr numberS := by
  unfold numberS
  exact fr_bind fr_get fun _ => fr_bind (fr_read _) fun _ => fr_bind (fr_mod fun s => Same.refl s) fun _ => fr_pure _
theorem fr_word : Fr wordS := fr_bind fr_number fun _ => fr_bind fr_number fun _ => fr_pure _
theorem fr_pop : Fr popS := by
  unfold popS
  exact fr_bind fr_get fun _ => fr_bind (fr_read _) fun _ => fr_bind (fr_mod fun s => Same.refl s) fun _ => fr_bind fr_get fun _ => fr_bind (fr_read _) fun _ => fr_bind (fr_mod fun s => Same.refl s) fun _ => fr_pure _
theorem fr_mv (b : U8) : Fr (mvS b) := fr_mod fun s => Same.refl s
theorem fr_where : Fr whereS := by
  unfold whereS
  exact fr_bind fr_get fun _ => fr_ite (fr_pure _) (fr_bind (fr_mod fun s => Same.refl s) fun _ => fr_ite (fr_bind fr_number fun _ => fr_bind (fr_mv _) fun _ => fr_bind (fr_states _) fun _ => fr_bind fr_get fun _ => fr_pure _) (fr_pure _))
theorem fr_getS (k : Int) : Fr (getS k) := by
  unfold getS
  exact fr_ite (fr_bind fr_where fun _ => fr_read _) (fr_bind fr_get fun _ => fr_pure _)

theorem Post.thruF {α : Type} {B : Nat} {w0 w : World} {s : PS} {enc : α → Value} {m : PM α} {Q : Ending → World → Prop} (hF : Fr m) (hb0 : Below w0.heap.size w0 w)
    (h1 : ∀ c s1 w1, run m s = .error c → Below w0.heap.size w0 w1 → Inb B w1 → Q (.panicked (asked c)) (put w1 B (PS.cells s1)))
    (h2 : ∀ v s1 w1, run m s = .ok (v, s1) → s1.plane = s.plane → s1.code = s.code → s1.x = s.x → s1.y = s.y → s1.z = s.z → s1.p = s.p → s1.q = s.q → Below w0.heap.size w0 w1 → Inv B w1 s1.gv s1.got → Inb B w1 → Q (.returned (enc v)) (put w1 B s1.cells)) : ∀ e w', Post B w enc (run m s) e w' → Q e w' :=
  Post.two (fun c s1 w1 hm hb hi => h1 c s1 w1 hm (bt hb0 hb) hi) (fun v s1 w1 hm hb hI hi => by
    obtain ⟨f1, f2, f3, f4, f5, f6, f7⟩ := run_fr hF hm
    exact h2 v s1 w1 hm f1 f2 f3 f4 f5 f6 f7 (bt hb0 hb) hI hi)
theorem fr_set (k : Int) (b : U8) : Fr (setS k b) := by
  unfold setS
  exact fr_ite (fr_bind fr_where fun _ => fr_write _ _) (fr_mod fun s => Same.refl s)
theorem fr_setPair (p : Int) (v : U16) : Fr (setPairS p v) := fr_mod fun s => Same.refl s
theorem fr_put (a f : U8) : Fr (putS a f) := fr_mod fun s => Same.refl s
theorem fr_flag (f : U8) : Fr (flagS f) := fr_bind fr_get fun _ => fr_put _ _
theorem fr_push (x : U16) : Fr (pushS x) := by
  unfold pushS
  exact fr_bind (fr_mod fun s => Same.refl s) fun _ => fr_bind fr_get fun _ => fr_bind (fr_write _ _) fun _ => fr_bind (fr_mod fun s => Same.refl s) fun _ => fr_bind fr_get fun _ => fr_write _ _
theorem fr_tick : Fr tickS := fr_mod fun s => Same.refl s
theorem fr_fetch : Fr fetchS := by
  unfold fetchS
  exact fr_bind fr_get fun _ => fr_bind (fr_cycle _) fun _ => fr_bind (fr_mod fun s => Same.refl s) fun _ => fr_bind fr_tick fun _ => fr_pure _
theorem Inv.drewN {B : Nat} {w : World} {gv : Value} {got : List U8} (h : Inv B w gv got) (n : Nat) : Inv B (w.drewN n) gv got := h.kept (Below.dn (Below.refl _ _))
theorem put_drewN (w : World) (B n : Nat) (c : Array Value) : (put w B c).drewN n = put (w.drewN n) B c := rfl

end Go.Proofs.YtnaampdpkegacaaGreatDoor
