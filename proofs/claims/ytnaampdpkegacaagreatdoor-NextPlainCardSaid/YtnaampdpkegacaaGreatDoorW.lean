/-
  Contracts of the package shift. A helper of the claim that stands beside it.
-/
import Derived.BigQuiet
import Derived.Deep.QuietTactic
import Derived.Test.YtnaampdpkegacaaGreatDoorV
namespace Go.Proofs.YtnaampdpkegacaaGreatDoor
open Go.RowKit Go.MapKept

/-! A map of ints to function values, made and asked at once. -/
def entv : List (Int × Value) → Nat → List MapEntry
  | [], _ => []
  | p :: l, b => { key := .int .i64 p.1, val := p.2, born := b } :: entv l (b + 1)
def findV (k : Int) : List (Int × Value) → Nat → Option (Nat × Value)
  | [], _ => none
  | p :: l, i => if k = p.1 then some (i, p.2) else findV k l (i + 1)
theorem find_entv (k : Int) : ∀ (l : List (Int × Value)) (b i : Nat), Instr.findNow (.int .i64) (.int .i64 k) (entv l b) i = some (findV k l i)
  | [], _, _ => rfl
  | p :: l, b, i => by
    have ih := find_entv k l (b + 1) (i + 1)
    by_cases h : k = p.1
    · simp [entv, findV, Instr.findNow, Instr.sameNow, h]
    · have h' : (k == p.1) = false := by simpa using h
      simp only [entv, findV, Instr.findNow, Instr.sameNow, if_true, h', if_neg h, ih]
theorem entv_app (p : Int × Value) : ∀ (l : List (Int × Value)) (b : Nat), entv (l ++ [p]) b = entv l b ++ [{ key := .int .i64 p.1, val := p.2, born := b + l.length }]
  | [], _ => rfl
  | q :: l, b => by
    simp only [List.cons_append, entv, entv_app p l (b + 1), List.length_cons]
    rw [show b + 1 + l.length = b + (l.length + 1) by omega]
def mapV (l : List (Int × Value)) : Obj := .map (entv l 0).toArray l.length

theorem ms_mk (w : World) : (Instr.makeMap 143 none).run Tryz.prog w = .ok (.map (some w.heap.size)) (w.alloc (mapV [])) := by
  unfold Instr.makeMap
  simp [go_sem, mapV, entv]
theorem ms_ins (n : Nat) (W : World) (l : List (Int × Value)) (k : Int) (v : Value) (hn : n = W.heap.size) (hf : findV k l 0 = none) :
    (Instr.mapUpdate 143 (.map (some n)) (.int .i64 k) v).run Tryz.prog (W.alloc (mapV l)) = .ok () (W.alloc (mapV (l ++ [(k, v)]))) := by
  subst hn
  have hb : (W.alloc (mapV l)).heap[W.heap.size]? = some (.map (entv l 0).toArray l.length) := heap_alloc_last W _
  have hfk := MapKept.run_findKey (P := Tryz.prog) (w := W.alloc (mapV l)) (kt := 3) (k := .int .i64 k) Tryz.underlying3 (find_entv k l 0 0)
  have hck : (Instr.checkKey false 10000 3 (.int .i64 k)).run Tryz.prog (W.alloc (mapV l)) = .ok () (W.alloc (mapV l)) := MapKept.run_checkKey Tryz.underlying3 (by simp [IsKey]) false 9999
  unfold Instr.mapUpdate
  simp only [Sem.run_bind, Tryz.runUnderlying143, Result.andThen_ok, MapKept.run_getObj_map hb, hck, hfk, hf]
  rw [MapKept.run_setObj_map _ hb]
  have e1 : Obj.map ((entv l 0).toArray.push { key := .int .i64 k, val := v, born := l.length }) (l.length + 1) = mapV (l ++ [(k, v)]) := by
    unfold mapV
    rw [entv_app, List.length_append, Nat.zero_add, List.push_toArray]
    rfl
  rw [e1]
  have e2 : (W.alloc (mapV l)).heap.setIfInBounds W.heap.size (mapV (l ++ [(k, v)])) = (W.alloc (mapV (l ++ [(k, v)]))).heap := by
    show (W.heap.push (mapV l)).setIfInBounds W.heap.size (mapV (l ++ [(k, v)])) = W.heap.push (mapV (l ++ [(k, v)]))
    apply Array.ext_getElem?
    intro i
    simp only [Array.getElem?_setIfInBounds, Array.getElem?_push, Array.size_push]
    by_cases h : W.heap.size = i
    · subst h; simp
    · have h' : ¬ i = W.heap.size := fun e => h e.symm
      simp [h, h']
  rw [e2]
  rfl
theorem ms_look (n : Nat) (W : World) (l : List (Int × Value)) (k : Int) (hn : n = W.heap.size) :
    (Instr.lookup 143 (.map (some n)) (.int .i64 k) true).run Tryz.prog (W.alloc (mapV l)) = .ok (match findV k l 0 with | some (_, v) => .tuple #[v, .bool true] | none => .tuple #[.nilFunc, .bool false]) (W.alloc (mapV l)) := by
  subst hn
  have hb : (W.alloc (mapV l)).heap[W.heap.size]? = some (.map (entv l 0).toArray l.length) := heap_alloc_last W _
  have hfk := MapKept.run_findKey (P := Tryz.prog) (w := W.alloc (mapV l)) (kt := 3) (k := .int .i64 k) Tryz.underlying3 (find_entv k l 0 0)
  have hck : (Instr.checkKey (entv l 0).toArray.isEmpty 10000 3 (.int .i64 k)).run Tryz.prog (W.alloc (mapV l)) = .ok () (W.alloc (mapV l)) := MapKept.run_checkKey Tryz.underlying3 (by simp [IsKey]) _ 9999
  unfold Instr.lookup
  simp only [Sem.run_bind, Tryz.runUnderlying143, Result.andThen_ok, MapKept.run_getObj_map hb, hck, hfk, Sem.run_pure]
  cases findV k l 0 with
  | none =>
    simp only [Sem.run_bind, Tryz.zeroValue51, Result.andThen_ok, Sem.run_pure, if_true]
  | some p => simp only [Sem.run_bind, Result.andThen_ok, Sem.run_pure, if_true]
theorem ms_ins0 (n X : Nat) (W : World) (hn : n = W.heap.size) : (Instr.mapUpdate 143 (.map (some n)) (.int .i64 0) (.func (.func 224) #[] #[.pointer (some ⟨X, 0, none⟩)])).run Tryz.prog (W.alloc (mapV [])) = .ok () (W.alloc (mapV [(0, .func (.func 224) #[] #[.pointer (some ⟨X, 0, none⟩)])])) := ms_ins n W _ _ _ hn rfl
theorem ms_ins1 (n X : Nat) (W : World) (hn : n = W.heap.size) : (Instr.mapUpdate 143 (.map (some n)) (.int .i64 1) (.func (.func 225) #[] #[.pointer (some ⟨X, 0, none⟩)])).run Tryz.prog (W.alloc (mapV [(0, .func (.func 224) #[] #[.pointer (some ⟨X, 0, none⟩)])])) = .ok () (W.alloc (mapV [(0, .func (.func 224) #[] #[.pointer (some ⟨X, 0, none⟩)]), (1, .func (.func 225) #[] #[.pointer (some ⟨X, 0, none⟩)])])) := ms_ins n W _ _ _ hn rfl
theorem ms_ins2 (n X Y : Nat) (W : World) (hn : n = W.heap.size) : (Instr.mapUpdate 143 (.map (some n)) (.int .i64 2) (.func (.func 226) #[] #[.pointer (some ⟨Y, 0, none⟩)])).run Tryz.prog (W.alloc (mapV [(0, .func (.func 224) #[] #[.pointer (some ⟨X, 0, none⟩)]), (1, .func (.func 225) #[] #[.pointer (some ⟨X, 0, none⟩)])])) = .ok () (W.alloc (mapV [(0, .func (.func 224) #[] #[.pointer (some ⟨X, 0, none⟩)]), (1, .func (.func 225) #[] #[.pointer (some ⟨X, 0, none⟩)]), (2, .func (.func 226) #[] #[.pointer (some ⟨Y, 0, none⟩)])])) := ms_ins n W _ _ _ hn rfl
theorem ms_ins3 (n X Y : Nat) (W : World) (hn : n = W.heap.size) : (Instr.mapUpdate 143 (.map (some n)) (.int .i64 3) (.func (.func 227) #[] #[.pointer (some ⟨Y, 0, none⟩)])).run Tryz.prog (W.alloc (mapV [(0, .func (.func 224) #[] #[.pointer (some ⟨X, 0, none⟩)]), (1, .func (.func 225) #[] #[.pointer (some ⟨X, 0, none⟩)]), (2, .func (.func 226) #[] #[.pointer (some ⟨Y, 0, none⟩)])])) = .ok () (W.alloc (mapV [(0, .func (.func 224) #[] #[.pointer (some ⟨X, 0, none⟩)]), (1, .func (.func 225) #[] #[.pointer (some ⟨X, 0, none⟩)]), (2, .func (.func 226) #[] #[.pointer (some ⟨Y, 0, none⟩)]), (3, .func (.func 227) #[] #[.pointer (some ⟨Y, 0, none⟩)])])) := ms_ins n W _ _ _ hn rfl
theorem ms_ins4 (n X Y : Nat) (W : World) (hn : n = W.heap.size) : (Instr.mapUpdate 143 (.map (some n)) (.int .i64 4) (.func (.func 228) #[] #[])).run Tryz.prog (W.alloc (mapV [(0, .func (.func 224) #[] #[.pointer (some ⟨X, 0, none⟩)]), (1, .func (.func 225) #[] #[.pointer (some ⟨X, 0, none⟩)]), (2, .func (.func 226) #[] #[.pointer (some ⟨Y, 0, none⟩)]), (3, .func (.func 227) #[] #[.pointer (some ⟨Y, 0, none⟩)])])) = .ok () (W.alloc (mapV [(0, .func (.func 224) #[] #[.pointer (some ⟨X, 0, none⟩)]), (1, .func (.func 225) #[] #[.pointer (some ⟨X, 0, none⟩)]), (2, .func (.func 226) #[] #[.pointer (some ⟨Y, 0, none⟩)]), (3, .func (.func 227) #[] #[.pointer (some ⟨Y, 0, none⟩)]), (4, .func (.func 228) #[] #[])])) := ms_ins n W _ _ _ hn rfl
theorem ms_ins5 (n X Y : Nat) (W : World) (hn : n = W.heap.size) : (Instr.mapUpdate 143 (.map (some n)) (.int .i64 5) (.func (.func 229) #[] #[.pointer (some ⟨X, 0, none⟩)])).run Tryz.prog (W.alloc (mapV [(0, .func (.func 224) #[] #[.pointer (some ⟨X, 0, none⟩)]), (1, .func (.func 225) #[] #[.pointer (some ⟨X, 0, none⟩)]), (2, .func (.func 226) #[] #[.pointer (some ⟨Y, 0, none⟩)]), (3, .func (.func 227) #[] #[.pointer (some ⟨Y, 0, none⟩)]), (4, .func (.func 228) #[] #[])])) = .ok () (W.alloc (mapV [(0, .func (.func 224) #[] #[.pointer (some ⟨X, 0, none⟩)]), (1, .func (.func 225) #[] #[.pointer (some ⟨X, 0, none⟩)]), (2, .func (.func 226) #[] #[.pointer (some ⟨Y, 0, none⟩)]), (3, .func (.func 227) #[] #[.pointer (some ⟨Y, 0, none⟩)]), (4, .func (.func 228) #[] #[]), (5, .func (.func 229) #[] #[.pointer (some ⟨X, 0, none⟩)])])) := ms_ins n W _ _ _ hn rfl
theorem ms_ins6 (n X Y : Nat) (W : World) (hn : n = W.heap.size) : (Instr.mapUpdate 143 (.map (some n)) (.int .i64 6) (.func (.func 230) #[] #[])).run Tryz.prog (W.alloc (mapV [(0, .func (.func 224) #[] #[.pointer (some ⟨X, 0, none⟩)]), (1, .func (.func 225) #[] #[.pointer (some ⟨X, 0, none⟩)]), (2, .func (.func 226) #[] #[.pointer (some ⟨Y, 0, none⟩)]), (3, .func (.func 227) #[] #[.pointer (some ⟨Y, 0, none⟩)]), (4, .func (.func 228) #[] #[]), (5, .func (.func 229) #[] #[.pointer (some ⟨X, 0, none⟩)])])) = .ok () (W.alloc (mapV [(0, .func (.func 224) #[] #[.pointer (some ⟨X, 0, none⟩)]), (1, .func (.func 225) #[] #[.pointer (some ⟨X, 0, none⟩)]), (2, .func (.func 226) #[] #[.pointer (some ⟨Y, 0, none⟩)]), (3, .func (.func 227) #[] #[.pointer (some ⟨Y, 0, none⟩)]), (4, .func (.func 228) #[] #[]), (5, .func (.func 229) #[] #[.pointer (some ⟨X, 0, none⟩)]), (6, .func (.func 230) #[] #[])])) := ms_ins n W _ _ _ hn rfl
theorem ms_ins7 (n X Y : Nat) (W : World) (hn : n = W.heap.size) : (Instr.mapUpdate 143 (.map (some n)) (.int .i64 7) (.func (.func 231) #[] #[])).run Tryz.prog (W.alloc (mapV [(0, .func (.func 224) #[] #[.pointer (some ⟨X, 0, none⟩)]), (1, .func (.func 225) #[] #[.pointer (some ⟨X, 0, none⟩)]), (2, .func (.func 226) #[] #[.pointer (some ⟨Y, 0, none⟩)]), (3, .func (.func 227) #[] #[.pointer (some ⟨Y, 0, none⟩)]), (4, .func (.func 228) #[] #[]), (5, .func (.func 229) #[] #[.pointer (some ⟨X, 0, none⟩)]), (6, .func (.func 230) #[] #[])])) = .ok () (W.alloc (mapV [(0, .func (.func 224) #[] #[.pointer (some ⟨X, 0, none⟩)]), (1, .func (.func 225) #[] #[.pointer (some ⟨X, 0, none⟩)]), (2, .func (.func 226) #[] #[.pointer (some ⟨Y, 0, none⟩)]), (3, .func (.func 227) #[] #[.pointer (some ⟨Y, 0, none⟩)]), (4, .func (.func 228) #[] #[]), (5, .func (.func 229) #[] #[.pointer (some ⟨X, 0, none⟩)]), (6, .func (.func 230) #[] #[]), (7, .func (.func 231) #[] #[])])) := ms_ins n W _ _ _ hn rfl
attribute [go_sem] ms_mk ms_ins0 ms_ins1 ms_ins2 ms_ins3 ms_ins4 ms_ins5 ms_ins6 ms_ins7 ms_look findV
/-! What goes in, what comes of it, what goes out. -/
def shIn (k b f : Int) : Bool := if k = 0 ∨ k = 5 then bit 7 b else if k = 1 then bit 0 b else if k = 2 ∨ k = 3 then bit 0 f else decide (k = 6)
def shL (b : Int) (i : Bool) : Int := mk (bit 6 b) (bit 5 b) (bit 4 b) (bit 3 b) (bit 2 b) (bit 1 b) (bit 0 b) i
def shRt (b : Int) (i : Bool) : Int := mk i (bit 7 b) (bit 6 b) (bit 5 b) (bit 4 b) (bit 3 b) (bit 2 b) (bit 1 b)
def shR (k b f : Int) : Int := if k % 2 = 0 then shL b (shIn k b f) else shRt b (shIn k b f)
def shO (k b : Int) : Bool := if k % 2 = 0 then bit 7 b else bit 0 b
theorem shR_range (k b f : Int) : 0 ≤ shR k b f ∧ shR k b f ≤ 255 := by unfold shR; split <;> exact mk_range _ _ _ _ _ _ _ _

theorem mv1_ (X : Nat) (b : Int) (w : World) (hX : w.cell? ⟨X, 0, none⟩ = some (.int .u8 b)) : Calls Tryz.prog 224 #[.pointer (some ⟨X, 0, none⟩)] w fun e w' => e = .returned (.int .u8 (b / 128)) ∧ w = w' := by
  go_enter Tryz.func224, Tryz.ntmps224
  go_wp2
  go_ret
  exact ⟨rfl, rfl⟩
theorem mv2_ (X : Nat) (b : Int) (w : World) (hX : w.cell? ⟨X, 0, none⟩ = some (.int .u8 b)) : Calls Tryz.prog 225 #[.pointer (some ⟨X, 0, none⟩)] w fun e w' => e = .returned (.int .u8 (b * 128 % 256)) ∧ w = w' := by
  go_enter Tryz.func225, Tryz.ntmps225
  go_wp2
  go_ret
  exact ⟨rfl, rfl⟩
theorem mv3_ (X : Nat) (c : Int) (w : World) (hX : w.cell? ⟨X, 0, none⟩ = some (.int .u8 c)) : Calls Tryz.prog 226 #[.pointer (some ⟨X, 0, none⟩)] w fun e w' => e = .returned (.int .u8 (c)) ∧ w = w' := by
  go_enter Tryz.func226, Tryz.ntmps226
  go_wp2
  go_ret
  exact ⟨rfl, rfl⟩
theorem mv4_ (X : Nat) (c : Int) (w : World) (hX : w.cell? ⟨X, 0, none⟩ = some (.int .u8 c)) : Calls Tryz.prog 227 #[.pointer (some ⟨X, 0, none⟩)] w fun e w' => e = .returned (.int .u8 (c * 128 % 256)) ∧ w = w' := by
  go_enter Tryz.func227, Tryz.ntmps227
  go_wp2
  go_ret
  exact ⟨rfl, rfl⟩
theorem mv6_ (X : Nat) (b : Int) (w : World) (hX : w.cell? ⟨X, 0, none⟩ = some (.int .u8 b)) : Calls Tryz.prog 229 #[.pointer (some ⟨X, 0, none⟩)] w fun e w' => e = .returned (.int .u8 (bits .and .u8 b 128)) ∧ w = w' := by
  go_enter Tryz.func229, Tryz.ntmps229
  go_wp2
  go_ret
  exact ⟨rfl, rfl⟩
theorem mv5_ (w : World) : Calls Tryz.prog 228 #[] w fun e w' => e = .returned (.int .u8 (0)) ∧ w = w' := by
  go_enter Tryz.func228, Tryz.ntmps228
  go_wp2
  go_ret
  exact ⟨rfl, rfl⟩
theorem mv7_ (w : World) : Calls Tryz.prog 230 #[] w fun e w' => e = .returned (.int .u8 (1)) ∧ w = w' := by
  go_enter Tryz.func230, Tryz.ntmps230
  go_wp2
  go_ret
  exact ⟨rfl, rfl⟩
theorem mv8_ (w : World) : Calls Tryz.prog 231 #[] w fun e w' => e = .returned (.int .u8 (0)) ∧ w = w' := by
  go_enter Tryz.func231, Tryz.ntmps231
  go_wp2
  go_ret
  exact ⟨rfl, rfl⟩
theorem lsh_or (b : Int) (i : Bool) (b0 : 0 ≤ b) (b1 : b ≤ 255) : bits .or .u8 (b * 2 % 256) (bw i 1) = shL b i := by
  cases i
  · exact byte_all (fun b => bits .or .u8 (b * 2 % 256) (bw false 1) = shL b false) (by decide +kernel) b b0 b1
  · exact byte_all (fun b => bits .or .u8 (b * 2 % 256) (bw true 1) = shL b true) (by decide +kernel) b b0 b1
theorem rsh_or (b : Int) (i : Bool) (b0 : 0 ≤ b) (b1 : b ≤ 255) : bits .or .u8 (b / 2) (bw i 128) = shRt b i := by
  cases i
  · exact byte_all (fun b => bits .or .u8 (b / 2) (bw false 128) = shRt b false) (by decide +kernel) b b0 b1
  · exact byte_all (fun b => bits .or .u8 (b / 2) (bw true 128) = shRt b true) (by decide +kernel) b b0 b1
theorem div_128 (b : Int) (b0 : 0 ≤ b) (b1 : b ≤ 255) : b / 128 = bw (bit 7 b) 1 := byte_all (fun b => b / 128 = bw (bit 7 b) 1) (by decide +kernel) b b0 b1
theorem mul_128 (b : Int) (b0 : 0 ≤ b) (b1 : b ≤ 255) : b * 128 % 256 = bw (bit 0 b) 128 := byte_all (fun b => b * 128 % 256 = bw (bit 0 b) 128) (by decide +kernel) b b0 b1
theorem and_128 (b : Int) (b0 : 0 ≤ b) (b1 : b ≤ 255) : bits .and .u8 b 128 = bw (bit 7 b) 128 := byte_all (fun b => bits .and .u8 b 128 = bw (bit 7 b) 128) (by decide +kernel) b b0 b1
theorem and_1 (b : Int) : bits .and .u8 b 1 = bw (bit 0 b) 1 := by have := band_pow 0 (by decide) b; exact this
theorem bw_128 (i : Bool) : bw i 1 * 128 % 256 = bw i 128 := by cases i <;> rfl
theorem ret3' {k l : IntKind} {a b c d : Int} {x y : Bool} (h : a = c) (g : b = d) (i : x = y) : Ending.returned (.tuple #[.int k a, .int l b, .bool x]) = .returned (.tuple #[.int k c, .int l d, .bool y]) := by rw [h, g, i]

theorem Below.dn {m n : Nat} {w w1 : World} (h : Below m w w1) : Below m w (w1.drewN n) := ⟨h.os, h.tape, h.output, h.size, h.block⟩
theorem quiet_same {P : Program} {f : FuncId} {args : Array Value} {w : World} {n : Nat} {v : Value} (h : Calls P f args (w.drewN n) fun e w' => e = .returned v ∧ w.drewN n = w') : Calls P f args (w.drewN n) fun e w'' => e = .returned v ∧ ∃ m, w'' = w.drewN m :=
  h.mono fun _ _ ⟨he, hm⟩ => ⟨he, n, hm.symm⟩
set_option maxHeartbeats 2000000 in
set_option maxRecDepth 20000 in
theorem moved_ (k b f : Int) (b0 : 0 ≤ b) (b1 : b ≤ 255) (k0 : 0 ≤ k) (k1 : k ≤ 7) (w : World) : Calls Tryz.prog 142 #[.int .i64 k, .int .u8 b, .int .u8 f] w fun e w' => e = .returned (.tuple #[.int .u8 (shR k b f), .int .u8 (bw (shO k b) 1), .bool true]) ∧ Below w.heap.size w w' := by
  have hmf : ∀ (fn : Fn) (first cap : Array Value) (w : World), (Instr.makeFunc fn first cap).run Tryz.prog w = .ok (.func fn first cap) w := fun _ _ _ _ => rfl
  have e1 := Lib.hid (lsh_or b (shIn k b f) b0 b1)
  have e2 := Lib.hid (rsh_or b (shIn k b f) b0 b1)
  have e3 := Lib.hid (div_128 b b0 b1)
  have e4 := Lib.hid (mul_128 b b0 b1)
  have e5 := Lib.hid (and_128 b b0 b1)
  have HX := Lib.hid (show ∀ (M : Obj) (n : Nat), ((((w.alloc (.cells #[.int .u8 b] 5)).alloc (.cells #[.int .u8 (bits .and .u8 f 1)] 5)).alloc M).drewN n).cell? ⟨w.heap.size, 0, none⟩ = some (.int .u8 b) from fun M n => (World.cell?_drewN _ _ _).trans (cell_alloc_l M (cell_alloc_l _ (cell_new_l w _ _).1)))
  have HY := Lib.hid (show ∀ (M : Obj) (n : Nat), ((((w.alloc (.cells #[.int .u8 b] 5)).alloc (.cells #[.int .u8 (bits .and .u8 f 1)] 5)).alloc M).drewN n).cell? ⟨w.heap.size + 1, 0, none⟩ = some (.int .u8 (bits .and .u8 f 1)) from fun M n => by
    have h := (cell_new_l (w.alloc (.cells #[.int .u8 b] 5)) (.int .u8 (bits .and .u8 f 1)) 5).1
    rw [World.size_alloc] at h
    exact (World.cell?_drewN _ _ _).trans (cell_alloc_l M h))
  have q0 : bits .and .i64 0 1 = 0 := by decide +kernel
  have q1 : bits .and .i64 1 1 = 1 := by decide +kernel
  have q2 : bits .and .i64 2 1 = 0 := by decide +kernel
  have q3 : bits .and .i64 3 1 = 1 := by decide +kernel
  have q4 : bits .and .i64 4 1 = 0 := by decide +kernel
  have q5 : bits .and .i64 5 1 = 1 := by decide +kernel
  have q6 : bits .and .i64 6 1 = 0 := by decide +kernel
  have q7 : bits .and .i64 7 1 = 1 := by decide +kernel
  have hc : k = 0 ∨ k = 1 ∨ k = 2 ∨ k = 3 ∨ k = 4 ∨ k = 5 ∨ k = 6 ∨ k = 7 := by omega
  rcases hc with rfl | rfl | rfl | rfl | rfl | rfl | rfl | rfl
  all_goals
    go_enter Tryz.func142, Tryz.ntmps142
    go_wp2
    go_quiet ((first | (go_at_call 224; exact quiet_same (mv1_ _ _ _ (HX.out _ _))) | (go_at_call 225; exact quiet_same (mv2_ _ _ _ (HX.out _ _))) | (go_at_call 226; exact quiet_same (mv3_ _ _ _ (HY.out _ _))) | (go_at_call 227; exact quiet_same (mv4_ _ _ _ (HY.out _ _))) | (go_at_call 229; exact quiet_same (mv6_ _ _ _ (HX.out _ _))) | (go_at_call 228; exact quiet_same (mv5_ _)) | (go_at_call 230; exact quiet_same (mv7_ _)) | (go_at_call 231; exact quiet_same (mv8_ _))))
  all_goals
    go_wp2
    go_ret3
    refine ⟨ret3' ?_ ?_ rfl, Below.dn (by go_grown)⟩
    · first
        | exact e1.out
        | exact e2.out
        | (rw [e3.out]; exact e1.out)
        | (rw [and_1]; exact e1.out)
        | (rw [e4.out]; exact e2.out)
        | (rw [e5.out]; exact e2.out)
        | (rw [and_1, bw_128]; exact e2.out)
    · first
        | exact e3.out
        | exact and_1 b
theorem moved_no (k b f : Int) (h : k < 0 ∨ 7 < k) (w : World) : Calls Tryz.prog 142 #[.int .i64 k, .int .u8 b, .int .u8 f] w fun e w' => e = .returned (.tuple #[.int .u8 b, .int .u8 0, .bool false]) ∧ Below w.heap.size w w' := by
  have hmf : ∀ (fn : Fn) (first cap : Array Value) (w : World), (Instr.makeFunc fn first cap).run Tryz.prog w = .ok (.func fn first cap) w := fun _ _ _ _ => rfl
  have n0 : ¬ k = 0 := by omega
  have n1 : ¬ k = 1 := by omega
  have n2 : ¬ k = 2 := by omega
  have n3 : ¬ k = 3 := by omega
  have n4 : ¬ k = 4 := by omega
  have n5 : ¬ k = 5 := by omega
  have n6 : ¬ k = 6 := by omega
  have n7 : ¬ k = 7 := by omega
  go_enter Tryz.func142, Tryz.ntmps142
  go_wp2
  go_ret3
  exact ⟨rfl, by go_grown⟩
/-! Do, Acc. -/
def doR (k b f : Int) : Int := if k < 0 ∨ 7 < k then b else shR k b f
def doF (k b f : Int) : Int := if k < 0 ∨ 7 < k then f else mk (bit 7 (shR k b f)) (decide (shR k b f = 0)) (bit 5 (shR k b f)) false (bit 3 (shR k b f)) (evb (shR k b f)) false (shO k b)
def acR (k a f : Int) : Int := if k < 0 ∨ 3 < k then a else shR k a f
def acF (k a f : Int) : Int := if k < 0 ∨ 3 < k then f else mk (bit 7 f) (bit 6 f) (bit 5 (shR k a f)) false (bit 3 (shR k a f)) (bit 2 f) false (shO k a)
theorem or_out (r : Int) (o : Bool) : bits .or .u8 (evf r) (bw o 1) = mk (bit 7 r) (decide (r = 0)) (bit 5 r) false (bit 3 r) (evb r) false o := by
  rw [show bw o 1 = mk false false false false false false false o by cases o <;> rfl]
  unfold evf
  rw [mk_or]
  simp
theorem acc_out (f r : Int) (o : Bool) : bits .or .u8 (bits .andNot .u8 (kp f r 40) 19) (bw o 1) = mk (bit 7 f) (bit 6 f) (bit 5 r) false (bit 3 r) (bit 2 f) false o := by
  rw [show bw o 1 = mk false false false false false false false o by cases o <;> rfl, kp_mk, mk_19, mk_andNot, mk_or]
  simp (disch := decide) only [mk_40, bit7_mk, bit6_mk, bit5_mk, bit4_mk, bit3_mk, bit2_mk, bit1_mk, bit0_mk]
  simp
theorem sdo_ (k b f : Int) (b0 : 0 ≤ b) (b1 : b ≤ 255) (w : World) : Calls Tryz.prog 67 #[.int .i64 k, .int .u8 b, .int .u8 f] w fun e w' => e = .returned (.tuple #[.int .u8 (doR k b f), .int .u8 (doF k b f)]) ∧ Below w.heap.size w w' := by
  by_cases h : k < 0 ∨ 7 < k
  · have e1 := Lib.hid (show doR k b f = b ∧ doF k b f = f from ⟨if_pos h, if_pos h⟩)
    have H := Lib.hid h
    clear h
    go_enter Tryz.func67, Tryz.ntmps67
    go_wp2_with (go_at_call 142; refine (moved_no _ _ _ H.out _).mono ?_; rintro e w1 ⟨rfl, hb⟩)
    go_ret2
    exact ⟨ret2 e1.out.1.symm e1.out.2.symm, hb⟩
  · have e1 := Lib.hid (show doR k b f = shR k b f ∧ doF k b f = mk (bit 7 (shR k b f)) (decide (shR k b f = 0)) (bit 5 (shR k b f)) false (bit 3 (shR k b f)) (evb (shR k b f)) false (shO k b) from ⟨if_neg h, if_neg h⟩)
    have e2 := Lib.hid (or_out (shR k b f) (shO k b))
    have k0 : 0 ≤ k := by omega
    have k1 : k ≤ 7 := by omega
    clear h
    go_enter Tryz.func67, Tryz.ntmps67
    go_wp2_with (first | (go_at_call 142; refine (moved_ _ _ _ b0 b1 k0 k1 _).mono ?_; rintro e w1 ⟨rfl, hb⟩) | (go_at_call 121; refine (feven_ _ _).mono ?_; rintro e w2 ⟨rfl, hb2⟩))
    go_ret2
    exact ⟨ret2 e1.out.1.symm (e2.out.trans e1.out.2.symm), bt hb hb2⟩
theorem sacc_ (k a f : Int) (a0 : 0 ≤ a) (a1 : a ≤ 255) (w : World) : Calls Tryz.prog 162 #[.int .i64 k, .int .u8 a, .int .u8 f] w fun e w' => e = .returned (.tuple #[.int .u8 (acR k a f), .int .u8 (acF k a f)]) ∧ Below w.heap.size w w' := by
  have hc : (k < 0 ∨ 7 < k) ∨ (3 < k ∧ k ≤ 7) ∨ (0 ≤ k ∧ k ≤ 3) := by omega
  rcases hc with h | ⟨h3, h7⟩ | ⟨k0, k1⟩
  · have e1 := Lib.hid (show acR k a f = a ∧ acF k a f = f from ⟨if_pos (by omega), if_pos (by omega)⟩)
    have H := Lib.hid h
    clear h
    go_enter Tryz.func162, Tryz.ntmps162
    go_wp2_with (go_at_call 142; refine (moved_no _ _ _ H.out _).mono ?_; rintro e w1 ⟨rfl, hb⟩)
    go_ret2
    exact ⟨ret2 e1.out.1.symm e1.out.2.symm, hb⟩
  · have e1 := Lib.hid (show acR k a f = a ∧ acF k a f = f from ⟨if_pos (by omega), if_pos (by omega)⟩)
    have k0 : 0 ≤ k := by omega
    go_enter Tryz.func162, Tryz.ntmps162
    go_wp2_with (go_at_call 142; refine (moved_ _ _ _ a0 a1 k0 h7 _).mono ?_; rintro e w1 ⟨rfl, hb⟩)
    go_ret2
    exact ⟨ret2 e1.out.1.symm e1.out.2.symm, hb⟩
  · have e1 := Lib.hid (show acR k a f = shR k a f ∧ acF k a f = mk (bit 7 f) (bit 6 f) (bit 5 (shR k a f)) false (bit 3 (shR k a f)) (bit 2 f) false (shO k a) from ⟨if_neg (by omega), if_neg (by omega)⟩)
    have e2 := Lib.hid (acc_out f (shR k a f) (shO k a))
    have k7 : k ≤ 7 := by omega
    have k3 : ¬ 3 < k := by omega
    go_enter Tryz.func162, Tryz.ntmps162
    go_wp2_with (first | (go_at_call 142; refine (moved_ _ _ _ a0 a1 k0 k7 _).mono ?_; rintro e w1 ⟨rfl, hb⟩) | (go_at_call 154; refine (keep_ _ _ _ _).mono ?_; rintro e w2 ⟨rfl, rfl⟩))
    go_ret2
    exact ⟨ret2 e1.out.1.symm (e2.out.trans e1.out.2.symm), hb⟩
/-! Bit. -/
def biF (n b lines f : Int) : Int := mk (decide (n = 7) && isb b n) (!isb b n) (bit 5 lines) true (bit 3 lines) (!isb b n) false (bit 0 f)
theorem bit_eq (f lines : Int) : bits .or .u8 (bits .or .u8 (bits .and .u8 f 1) 16) (bits .and .u8 lines 40) = mk false false (bit 5 lines) true (bit 3 lines) false false (bit 0 f) := by
  rw [and_b0, mk_16, mk_or]
  have h : bits .and .u8 lines 40 = mk false false (bit 5 lines) false (bit 3 lines) false false false := by
    have hr := bits_range .and lines 40
    rw [to_mk _ hr.1 hr.2]
    simp (disch := decide) only [bit_and, mk_40, bit7_mk, bit6_mk, bit5_mk, bit4_mk, bit3_mk, bit2_mk, bit1_mk, bit0_mk]
    simp
  rw [h, mk_or]
  simp
theorem bit_no (f l : Int) : bits .or .u8 (bits .or .u8 (mk false false (bit 5 l) true (bit 3 l) false false (bit 0 f)) 64) 4 = mk false true (bit 5 l) true (bit 3 l) true false (bit 0 f) := by
  rw [mk_64, mk_or, mk_4, mk_or]; simp
theorem bit_seven (f l : Int) : bits .or .u8 (mk false false (bit 5 l) true (bit 3 l) false false (bit 0 f)) 128 = mk true false (bit 5 l) true (bit 3 l) false false (bit 0 f) := by
  rw [mk_128, mk_or]; simp
theorem sbit_ (n b lines f : Int) (w : World) : Calls Tryz.prog 70 #[.int .i64 n, .int .u8 b, .int .u8 lines, .int .u8 f] w fun e w' => e = .returned (.int .u8 (biF n b lines f)) ∧ w = w' := by
  have e1 := bit_eq f lines
  have e2 := Lib.hid (bit_no f lines)
  have e3 := Lib.hid (bit_seven f lines)
  rcases (Bool.eq_false_or_eq_true (isb b n)).symm with h | h
  · have H := Lib.hid (show biF n b lines f = mk false true (bit 5 lines) true (bit 3 lines) true false (bit 0 f) by unfold biF; rw [h]; simp)
    go_enter Tryz.func70, Tryz.ntmps70
    go_wp2_with (go_at_call 143; refine (is_ _ _ _).mono ?_; rintro e w1 ⟨rfl, rfl⟩)
    go_ret
    exact ⟨ret_int (e2.out.trans H.out.symm), rfl⟩
  · by_cases h7 : n = 7
    · subst h7
      have H := Lib.hid (show biF 7 b lines f = mk true false (bit 5 lines) true (bit 3 lines) false false (bit 0 f) by unfold biF; rw [h]; simp)
      go_enter Tryz.func70, Tryz.ntmps70
      go_wp2_with (go_at_call 143; refine (is_ _ _ _).mono ?_; rintro e w1 ⟨rfl, rfl⟩)
      go_ret
      exact ⟨ret_int (e3.out.trans H.out.symm), rfl⟩
    · have H := Lib.hid (show biF n b lines f = mk false false (bit 5 lines) true (bit 3 lines) false false (bit 0 f) by unfold biF; rw [h]; simp [h7])
      go_enter Tryz.func70, Tryz.ntmps70
      go_wp2_with (go_at_call 143; refine (is_ _ _ _).mono ?_; rintro e w1 ⟨rfl, rfl⟩)
      go_ret
      exact ⟨ret_int H.out.symm, rfl⟩
end Go.Proofs.YtnaampdpkegacaaGreatDoor
