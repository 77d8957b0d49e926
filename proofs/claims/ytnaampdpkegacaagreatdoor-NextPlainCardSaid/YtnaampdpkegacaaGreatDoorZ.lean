/-
  The operations of next on bytes and words, and the contracts of what computes them in these terms; what every way of an instruction keeps. A helper of the claim that stands beside it. (Printed by wip/genz.py.)
-/
import Derived.Test.YtnaampdpkegacaaGreatDoorY
namespace Go.Proofs.YtnaampdpkegacaaGreatDoor
open Go.RowKit

def oAdd (a : U8) (b : U8) (c : Bool) : U8 := ⟨addR a.v b.v c, (addR_range _ _ _).1, (addR_range _ _ _).2⟩
def oAddF (a : U8) (b : U8) (c : Bool) : U8 := ⟨addF a.v b.v c, (addF_range _ _ _).1, (addF_range _ _ _).2⟩
theorem oAdd_ (a : U8) (b : U8) (c : Bool) (w : World) : Calls Tryz.prog 152 #[.int .u8 a.v, .int .u8 b.v, .bool c] w fun e w' => e = .returned (.tuple #[.int .u8 (oAdd a b c).v, .int .u8 (oAddF a b c).v]) ∧ Below w.heap.size w w' := add_ a.v b.v c a.h0 a.h1 b.h0 b.h1 w
def oSub (a : U8) (b : U8) (c : Bool) : U8 := ⟨subR a.v b.v c, (subR_range _ _ _).1, (subR_range _ _ _).2⟩
def oSubF (a : U8) (b : U8) (c : Bool) : U8 := ⟨subF a.v b.v c, (subF_range _ _ _).1, (subF_range _ _ _).2⟩
theorem oSub_ (a : U8) (b : U8) (c : Bool) (w : World) : Calls Tryz.prog 157 #[.int .u8 a.v, .int .u8 b.v, .bool c] w fun e w' => e = .returned (.tuple #[.int .u8 (oSub a b c).v, .int .u8 (oSubF a b c).v]) ∧ Below w.heap.size w w' := sub_ a.v b.v c a.h0 a.h1 b.h0 b.h1 w
def oCmp (a : U8) (b : U8) : U8 := ⟨cmpF a.v b.v, (cmpF_range _ _).1, (cmpF_range _ _).2⟩
theorem oCmp_ (a : U8) (b : U8) (w : World) : Calls Tryz.prog 167 #[.int .u8 a.v, .int .u8 b.v] w fun e w' => e = .returned (.int .u8 (oCmp a b).v) ∧ Below w.heap.size w w' := cmp_ a.v b.v a.h0 a.h1 b.h0 b.h1 w
def oInc (a : U8) : U8 := ⟨addR a.v 1 false, (addR_range _ _ _).1, (addR_range _ _ _).2⟩
def oIncF (a : U8) (f : U8) : U8 := ⟨kp (addF a.v 1 false) f.v 1, (kp_range _ _ _).1, (kp_range _ _ _).2⟩
theorem oInc_ (a : U8) (f : U8) (w : World) : Calls Tryz.prog 83 #[.int .u8 a.v, .int .u8 f.v] w fun e w' => e = .returned (.tuple #[.int .u8 (oInc a).v, .int .u8 (oIncF a f).v]) ∧ Below w.heap.size w w' := inc_ a.v f.v a.h0 a.h1 w
def oDec (a : U8) : U8 := ⟨subR a.v 1 false, (subR_range _ _ _).1, (subR_range _ _ _).2⟩
def oDecF (a : U8) (f : U8) : U8 := ⟨kp (subF a.v 1 false) f.v 1, (kp_range _ _ _).1, (kp_range _ _ _).2⟩
theorem oDec_ (a : U8) (f : U8) (w : World) : Calls Tryz.prog 84 #[.int .u8 a.v, .int .u8 f.v] w fun e w' => e = .returned (.tuple #[.int .u8 (oDec a).v, .int .u8 (oDecF a f).v]) ∧ Below w.heap.size w w' := dec_ a.v f.v a.h0 a.h1 w
def oNeg (a : U8) : U8 := ⟨subR 0 a.v false, (subR_range _ _ _).1, (subR_range _ _ _).2⟩
def oNegF (a : U8) : U8 := ⟨subF 0 a.v false, (subF_range _ _ _).1, (subF_range _ _ _).2⟩
theorem oNeg_ (a : U8) (w : World) : Calls Tryz.prog 127 #[.int .u8 a.v] w fun e w' => e = .returned (.tuple #[.int .u8 (oNeg a).v, .int .u8 (oNegF a).v]) ∧ Below w.heap.size w w' := neg_ a.v a.h0 a.h1 w
def oAnd (a : U8) (b : U8) : U8 := ⟨bits .and .u8 a.v b.v, (bits_range _ _ _).1, (bits_range _ _ _).2⟩
def oAndF (a : U8) (b : U8) : U8 := ⟨lgF (bits .and .u8 a.v b.v) true, (lgF_range _ _).1, (lgF_range _ _).2⟩
theorem oAnd_ (a : U8) (b : U8) (w : World) : Calls Tryz.prog 164 #[.int .u8 a.v, .int .u8 b.v] w fun e w' => e = .returned (.tuple #[.int .u8 (oAnd a b).v, .int .u8 (oAndF a b).v]) ∧ Below w.heap.size w w' := land_ a.v b.v w
def oOr (a : U8) (b : U8) : U8 := ⟨bits .or .u8 a.v b.v, (bits_range _ _ _).1, (bits_range _ _ _).2⟩
def oOrF (a : U8) (b : U8) : U8 := ⟨lgF (bits .or .u8 a.v b.v) false, (lgF_range _ _).1, (lgF_range _ _).2⟩
theorem oOr_ (a : U8) (b : U8) (w : World) : Calls Tryz.prog 166 #[.int .u8 a.v, .int .u8 b.v] w fun e w' => e = .returned (.tuple #[.int .u8 (oOr a b).v, .int .u8 (oOrF a b).v]) ∧ Below w.heap.size w w' := lor_ a.v b.v w
def oXor (a : U8) (b : U8) : U8 := ⟨bits .xor .u8 a.v b.v, (bits_range _ _ _).1, (bits_range _ _ _).2⟩
def oXorF (a : U8) (b : U8) : U8 := ⟨lgF (bits .xor .u8 a.v b.v) false, (lgF_range _ _).1, (lgF_range _ _).2⟩
theorem oXor_ (a : U8) (b : U8) (w : World) : Calls Tryz.prog 165 #[.int .u8 a.v, .int .u8 b.v] w fun e w' => e = .returned (.tuple #[.int .u8 (oXor a b).v, .int .u8 (oXorF a b).v]) ∧ Below w.heap.size w w' := lxor_ a.v b.v w
def oCpl (a : U8) : U8 := ⟨notB a.v, (notB_range _ a.h0 a.h1).1, (notB_range _ a.h0 a.h1).2⟩
def oCplF (a : U8) (f : U8) : U8 := ⟨cplF a.v f.v, (cplF_range _ _).1, (cplF_range _ _).2⟩
theorem oCpl_ (a : U8) (f : U8) (w : World) : Calls Tryz.prog 159 #[.int .u8 a.v, .int .u8 f.v] w fun e w' => e = .returned (.tuple #[.int .u8 (oCpl a).v, .int .u8 (oCplF a f).v]) ∧ w = w' := lcpl_ a.v f.v a.h0 a.h1 w
def oScf (a : U8) (f : U8) : U8 := ⟨scfF a.v f.v, (scfF_range _ _).1, (scfF_range _ _).2⟩
theorem oScf_ (a : U8) (f : U8) (w : World) : Calls Tryz.prog 160 #[.int .u8 a.v, .int .u8 f.v] w fun e w' => e = .returned (.int .u8 (oScf a f).v) ∧ w = w' := lscf_ a.v f.v w
def oCcf (a : U8) (f : U8) : U8 := ⟨ccfF a.v f.v, (ccfF_range _ _).1, (ccfF_range _ _).2⟩
theorem oCcf_ (a : U8) (f : U8) (w : World) : Calls Tryz.prog 161 #[.int .u8 a.v, .int .u8 f.v] w fun e w' => e = .returned (.int .u8 (oCcf a f).v) ∧ w = w' := lccf_ a.v f.v w
def oDaa (a : U8) (f : U8) : U8 := ⟨daR a.v f.v, (daR_range _ _).1, (daR_range _ _).2⟩
def oDaaF (a : U8) (f : U8) : U8 := ⟨daF a.v f.v, (daF_range _ _).1, (daF_range _ _).2⟩
theorem oDaa_ (a : U8) (f : U8) (w : World) (hL : Lg w) : Calls Tryz.prog 158 #[.int .u8 a.v, .int .u8 f.v] w fun e w' => e = .returned (.tuple #[.int .u8 (oDaa a f).v, .int .u8 (oDaaF a f).v]) ∧ Below w.heap.size w w' := ldaa_ a.v f.v a.h0 a.h1 w hL
theorem doR_range (k b f : Int) (b0 : 0 ≤ b) (b1 : b ≤ 255) : 0 ≤ doR k b f ∧ doR k b f ≤ 255 := by unfold doR; split; exact ⟨b0, b1⟩; exact shR_range _ _ _
theorem doF_range (k b f : Int) (b0 : 0 ≤ f) (b1 : f ≤ 255) : 0 ≤ doF k b f ∧ doF k b f ≤ 255 := by unfold doF; split; exact ⟨b0, b1⟩; exact mk_range _ _ _ _ _ _ _ _
theorem acR_range (k b f : Int) (b0 : 0 ≤ b) (b1 : b ≤ 255) : 0 ≤ acR k b f ∧ acR k b f ≤ 255 := by unfold acR; split; exact ⟨b0, b1⟩; exact shR_range _ _ _
theorem acF_range (k b f : Int) (b0 : 0 ≤ f) (b1 : f ≤ 255) : 0 ≤ acF k b f ∧ acF k b f ≤ 255 := by unfold acF; split; exact ⟨b0, b1⟩; exact mk_range _ _ _ _ _ _ _ _
def oDo (k : Int) (b : U8) (f : U8) : U8 := ⟨doR k b.v f.v, (doR_range _ _ _ b.h0 b.h1).1, (doR_range _ _ _ b.h0 b.h1).2⟩
def oDoF (k : Int) (b : U8) (f : U8) : U8 := ⟨doF k b.v f.v, (doF_range _ _ _ f.h0 f.h1).1, (doF_range _ _ _ f.h0 f.h1).2⟩
theorem oDo_ (k : Int) (b : U8) (f : U8) (w : World) : Calls Tryz.prog 67 #[.int .i64 k, .int .u8 b.v, .int .u8 f.v] w fun e w' => e = .returned (.tuple #[.int .u8 (oDo k b f).v, .int .u8 (oDoF k b f).v]) ∧ Below w.heap.size w w' := sdo_ k b.v f.v b.h0 b.h1 w
def oAcc (k : Int) (b : U8) (f : U8) : U8 := ⟨acR k b.v f.v, (acR_range _ _ _ b.h0 b.h1).1, (acR_range _ _ _ b.h0 b.h1).2⟩
def oAccF (k : Int) (b : U8) (f : U8) : U8 := ⟨acF k b.v f.v, (acF_range _ _ _ f.h0 f.h1).1, (acF_range _ _ _ f.h0 f.h1).2⟩
theorem oAcc_ (k : Int) (b : U8) (f : U8) (w : World) : Calls Tryz.prog 162 #[.int .i64 k, .int .u8 b.v, .int .u8 f.v] w fun e w' => e = .returned (.tuple #[.int .u8 (oAcc k b f).v, .int .u8 (oAccF k b f).v]) ∧ Below w.heap.size w w' := sacc_ k b.v f.v b.h0 b.h1 w
def oBit (n : Int) (b : U8) (l : U8) (f : U8) : U8 := ⟨biF n b.v l.v f.v, (mk_range _ _ _ _ _ _ _ _).1, (mk_range _ _ _ _ _ _ _ _).2⟩
theorem oBit_ (n : Int) (b : U8) (l : U8) (f : U8) (w : World) : Calls Tryz.prog 70 #[.int .i64 n, .int .u8 b.v, .int .u8 l.v, .int .u8 f.v] w fun e w' => e = .returned (.int .u8 (oBit n b l f).v) ∧ w = w' := sbit_ n b.v l.v f.v w
def oDigA (r : Bool) (a : U8) (b : U8) : U8 := ⟨diA r a.v b.v, (diA_range _ _ _ a.h0 a.h1 b.h0 b.h1).1, (diA_range _ _ _ a.h0 a.h1 b.h0 b.h1).2⟩
def oDigB (r : Bool) (a : U8) (b : U8) : U8 := ⟨diB r a.v b.v, (diB_range _ _ _ a.h0 a.h1 b.h0 b.h1).1, (diB_range _ _ _ a.h0 a.h1 b.h0 b.h1).2⟩
def oDigF (r : Bool) (a : U8) (b : U8) (f : U8) : U8 := ⟨diF r a.v b.v f.v, (diF_range _ _ _ _).1, (diF_range _ _ _ _).2⟩
theorem oDig_ (r : Bool) (a : U8) (b : U8) (f : U8) (w : World) : Calls Tryz.prog 218 #[.bool r, .int .u8 a.v, .int .u8 b.v, .int .u8 f.v] w fun e w' => e = .returned (.tuple #[.int .u8 (oDigA r a b).v, .int .u8 (oDigB r a b).v, .int .u8 (oDigF r a b f).v]) ∧ Below w.heap.size w w' := digit_ r a.v b.v f.v a.h0 a.h1 b.h0 b.h1 w
def oWith (b : U8) (n : Int) (on : Bool) : U8 := ⟨wth b.v n on, (wth_range _ _ _ b.h0 b.h1).1, (wth_range _ _ _ b.h0 b.h1).2⟩
theorem oWith_ (b : U8) (n : Int) (on : Bool) (w : World) : Calls Tryz.prog 71 #[.int .u8 b.v, .int .i64 n, .bool on] w fun e w' => e = .returned (.int .u8 (oWith b n on).v) ∧ w = w' := with_ b.v n on w
def oEven (r : U8) : U8 := ⟨evf r.v, (evf_range _).1, (evf_range _).2⟩
theorem oEven_ (r : U8) (w : World) : Calls Tryz.prog 121 #[.int .u8 r.v] w fun e w' => e = .returned (.int .u8 (oEven r).v) ∧ Below w.heap.size w w' := feven_ r.v w
def oRes (r : U8) : U8 := ⟨res r.v, (res_range _).1, (res_range _).2⟩
theorem oRes_ (r : U8) (w : World) : Calls Tryz.prog 216 #[.int .u8 r.v] w fun e w' => e = .returned (.int .u8 (oRes r).v) ∧ w = w' := result_ r.v w
def oHAdd (a b : U16) : U16 := ⟨wAddR a.v b.v false, wAddR_0 _ _ _, wAddR_1 _ _ _⟩
def oHAddF (a b : U16) (f : U8) : U8 := ⟨hAddF a.v b.v f.v, (hAddF_range _ _ _).1, (hAddF_range _ _ _).2⟩
theorem oHAdd_ (a : U16) (b : U16) (f : U8) (w : World) : Calls Tryz.prog 79 #[.int .u16 a.v, .int .u16 b.v, .int .u8 f.v] w fun e w' => e = .returned (.tuple #[.int .u16 (oHAdd a b).v, .int .u8 (oHAddF a b f).v]) ∧ Below w.heap.size w w' := wadd_ a.v b.v f.v a.h0 a.h1 b.h0 b.h1 w
def oAdc (a b : U16) (f : U8) : U16 := ⟨wAddR a.v b.v (bit 0 f.v), wAddR_0 _ _ _, wAddR_1 _ _ _⟩
def oAdcF (a b : U16) (f : U8) : U8 := ⟨wAddF a.v b.v (bit 0 f.v), (wAddF_range _ _ _).1, (wAddF_range _ _ _).2⟩
theorem oAdc_ (a : U16) (b : U16) (f : U8) (w : World) : Calls Tryz.prog 124 #[.int .u16 a.v, .int .u16 b.v, .int .u8 f.v] w fun e w' => e = .returned (.tuple #[.int .u16 (oAdc a b f).v, .int .u8 (oAdcF a b f).v]) ∧ Below w.heap.size w w' := wadc_ a.v b.v f.v a.h0 a.h1 b.h0 b.h1 w
def oSbc (a b : U16) (f : U8) : U16 := ⟨wSubR a.v b.v (bit 0 f.v), wSubR_0 _ _ _, wSubR_1 _ _ _⟩
def oSbcF (a b : U16) (f : U8) : U8 := ⟨wSubF a.v b.v (bit 0 f.v), (wSubF_range _ _ _).1, (wSubF_range _ _ _).2⟩
theorem oSbc_ (a : U16) (b : U16) (f : U8) (w : World) : Calls Tryz.prog 123 #[.int .u16 a.v, .int .u16 b.v, .int .u8 f.v] w fun e w' => e = .returned (.tuple #[.int .u16 (oSbc a b f).v, .int .u8 (oSbcF a b f).v]) ∧ Below w.heap.size w w' := wsbc_ a.v b.v f.v a.h0 a.h1 b.h0 b.h1 w
theorem oMv_ (x : U16) (n : Int) (w : World) : Calls Tryz.prog 81 #[.int .u16 x.v, .int .i64 n] w fun e w' => e = .returned (.int .u16 (x.mv n).v) ∧ w = w' := move_ x.v n w
theorem oNear_ (x : U16) (b : U8) (w : World) : Calls Tryz.prog 73 #[.int .u16 x.v, .int .u8 b.v] w fun e w' => e = .returned (.int .u16 (x.mv (sgn b.v)).v) ∧ w = w' := near_ x.v b.v b.h0 b.h1 w
def oMo (a b : U8) (nz : Bool) (f : U8) : U8 := ⟨moF a.v b.v nz f.v, (moF_range _ _ _ _).1, (moF_range _ _ _ _).2⟩
def oFi (a b : U8) (nz : Bool) (f : U8) : U8 := ⟨fiF a.v b.v nz f.v, (fiF_range _ _ _ _).1, (fiF_range _ _ _ _).2⟩
def U16.nz (x : U16) : Bool := decide (¬ x.v = 0)
theorem oMo_ (a : U8) (b : U8) (x : U16) (f : U8) (w : World) : Calls Tryz.prog 132 #[.int .u8 a.v, .int .u8 b.v, .int .u16 x.v, .int .u8 f.v] w fun e w' => e = .returned (.int .u8 (oMo a b x.nz f).v) ∧ Below w.heap.size w w' := bmove_ a.v b.v x.v f.v w
theorem oFi_ (a : U8) (b : U8) (x : U16) (f : U8) (w : World) : Calls Tryz.prog 133 #[.int .u8 a.v, .int .u8 b.v, .int .u16 x.v, .int .u8 f.v] w fun e w' => e = .returned (.int .u8 (oFi a b x.nz f).v) ∧ Below w.heap.size w w' := bfind_ a.v b.v x.v f.v a.h0 a.h1 b.h0 b.h1 w
def oTake (b c left : U8) (n : Int) : U8 := ⟨coF b.v left.v (b.v + (c.v + n) % 256), (coF_range _ _ _).1, (coF_range _ _ _).2⟩
def oGive (b l left : U8) : U8 := ⟨coF b.v left.v (b.v + l.v), (coF_range _ _ _).1, (coF_range _ _ _).2⟩
theorem oTake_ (b : U8) (c : U8) (left : U8) (n : Int) (w : World) : Calls Tryz.prog 135 #[.int .u8 b.v, .int .u8 c.v, .int .u8 left.v, .int .i64 n] w fun e w' => e = .returned (.int .u8 (oTake b c left n).v) ∧ Below w.heap.size w w' := take_ b.v c.v left.v n b.h0 b.h1 w
theorem oGive_ (b : U8) (l : U8) (left : U8) (w : World) : Calls Tryz.prog 137 #[.int .u8 b.v, .int .u8 l.v, .int .u8 left.v] w fun e w' => e = .returned (.int .u8 (oGive b l left).v) ∧ Below w.heap.size w w' := give_ b.v l.v left.v b.h0 b.h1 l.h0 l.h1 w
theorem oAgain_ (k : Int) (f : U8) (w : World) : Calls Tryz.prog 138 #[.int .i64 k, .int .u8 f.v] w fun e w' => e = .returned (.bool (agS k f.v)) ∧ w = w' := again_ k f.v w
theorem oTest_ (f : U8) (k : Int) (w : World) : Calls Tryz.prog 168 #[.int .u8 f.v, .int .i64 k] w fun e w' => e = .returned (.bool (tst f.v k)) ∧ Below w.heap.size w w' := test_ f.v k w
/-- What every way leads to. -/
def T.All {α : Type} (P : α → Prop) : T α → Prop
  | .ret a => P a
  | .ask _ k => ∀ b, (k b).All P
theorem T.All.bind {α β : Type} {P : α → Prop} {Q : β → Prop} {f : α → T β} (h : ∀ a, P a → (f a).All Q) : ∀ t : T α, t.All P → (t.bind f).All Q
  | .ret a, ha => h a ha
  | .ask _ k, ha => fun b => T.All.bind h (k b) (ha b)
theorem T.All.exec {α : Type} {P : α → Prop} : ∀ (t : T α) (l : List U8) (a : α) (l' : List U8), t.All P → t.exec l = .ok (a, l') → P a
  | .ret _, _, _, _, h, e => by cases e; exact h
  | .ask _ _, [], _, _, _, e => by cases e
  | .ask _ k, b :: l, a, l', h, e => T.All.exec (k b) l a l' (h b) e
/-- The plane and the code are the same. -/
def Same (s t : CS) : Prop := t.plane = s.plane ∧ t.code = s.code ∧ t.x = s.x ∧ t.y = s.y ∧ t.z = s.z ∧ t.p = s.p ∧ t.q = s.q
theorem Same.refl (s : CS) : Same s s := ⟨rfl, rfl, rfl, rfl, rfl, rfl, rfl⟩
theorem Same.trans {a b c : CS} (h : Same a b) (k : Same b c) : Same a c := by
  obtain ⟨h1, h2, h3, h4, h5, h6, h7⟩ := h
  obtain ⟨k1, k2, k3, k4, k5, k6, k7⟩ := k
  exact ⟨k1.trans h1, k2.trans h2, k3.trans h3, k4.trans h4, k5.trans h5, k6.trans h6, k7.trans h7⟩
def Fr {α : Type} (m : PM α) : Prop := ∀ s, (m s).All fun p => Same s p.2
theorem fr_pure {α : Type} (a : α) : Fr (pure a : PM α) := fun s => Same.refl s
theorem fr_get : Fr PM.get := fun s => Same.refl s
theorem fr_mod {g : CS → CS} (h : ∀ s, Same s (g s)) : Fr (PM.mod g) := h
theorem fr_cycle (c : Cyc) : Fr (cycleS c) := fun s _ => Same.refl s
theorem fr_bind {α β : Type} {m : PM α} {f : α → PM β} (h : Fr m) (k : ∀ a, Fr (f a)) : Fr (m >>= f) := fun s =>
  T.All.bind (fun p hp => by
    have := k p.1 p.2
    generalize (f p.1) p.2 = t at this ⊢
    revert this
    induction t with
    | ret a => exact fun this => hp.trans this
    | ask c k ih => exact fun this b => ih b (this b)) (m s) (h s)
theorem fr_ite {α : Type} {p : Prop} [Decidable p] {m n : PM α} (h : Fr m) (k : Fr n) : Fr (if p then m else n) := by split <;> assumption
theorem fr_match {α : Type} {b : Bool} {m n : PM α} (h : Fr m) (k : Fr n) : Fr (if b then m else n) := fr_ite h k
theorem run_fr {α : Type} {m : PM α} {s s1 : PS} {v : α} (h : Fr m) (e : run m s = .ok (v, s1)) : Same s.toCS s1.toCS := by
  unfold run at e
  cases hx : (m s.toCS).exec s.got with
  | error c => rw [hx] at e; cases e
  | ok p =>
    rw [hx] at e
    obtain ⟨⟨a, c⟩, l⟩ := p
    have := T.All.exec _ _ _ _ (h s.toCS) hx
    cases e
    exact this
theorem fr_read (a : U16) : Fr (readS a) := fr_cycle _
theorem fr_in (a : U16) : Fr (inS a) := fr_cycle _
theorem fr_write (a : U16) (b : U8) : Fr (writeS a b) := fr_bind (fr_cycle _) fun _ => fr_pure _
theorem fr_out (a : U16) (b : U8) : Fr (outS a b) := fr_bind (fr_cycle _) fun _ => fr_pure _
theorem fr_states (n : Int) : Fr (statesS n) := fr_bind (fr_cycle _) fun _ => fr_pure _
theorem fr_number : Fr numberS := by
  unfold numberS
  exact fr_bind fr_get fun _ => fr_bind (fr_read _) fun _ => fr_bind (fr_mod fun s => Same.refl s) fun _ => fr_pure _
theorem fr_word : Fr wordS := fr_bind fr_number fun _ => fr_bind fr_number fun _ => fr_pure _
theorem fr_pop : Fr popS := by
  unfold popS
  exact fr_bind fr_get fun _ => fr_bind (fr_read _) fun _ => fr_bind (fr_mod fun s => Same.refl s) fun _ => fr_bind fr_get fun _ => fr_bind (fr_read _) fun _ => fr_bind (fr_mod fun s => Same.refl s) fun _ => fr_pure _
theorem fr_mv (b : U8) : Fr (mvS b) := fr_mod fun s => Same.refl s
theorem fr_where : Fr whereS := by
  unfold whereS
  exact fr_bind fr_get fun _ => fr_ite (fr_pure _) (fr_bind (fr_mod fun s => Same.refl s) fun _ => fr_ite (fr_bind fr_number fun _ => fr_bind (fr_mv _) fun _ => fr_bind (fr_states _) fun _ => fr_bind fr_get fun _ => fr_pure _) (fr_pure _))
theorem fr_getS (k : Int) : Fr (getS k) := by
  unfold getS
  exact fr_ite (fr_bind fr_where fun _ => fr_read _) (fr_bind fr_get fun _ => fr_pure _)

theorem Post.thruF {α : Type} {B : Nat} {w0 w : World} {s : PS} {enc : α → Value} {m : PM α} {Q : Ending → World → Prop} (hF : Fr m) (hb0 : Below w0.heap.size w0 w)
    (h1 : ∀ c s1 w1, run m s = .error c → Below w0.heap.size w0 w1 → Inb B w1 → Q (.panicked (asked c)) (put w1 B (PS.cells s1)))
    (h2 : ∀ v s1 w1, run m s = .ok (v, s1) → s1.plane = s.plane → s1.code = s.code → s1.x = s.x → s1.y = s.y → s1.z = s.z → s1.p = s.p → s1.q = s.q → Below w0.heap.size w0 w1 → Inv B w1 s1.gv s1.got → Inb B w1 → Q (.returned (enc v)) (put w1 B s1.cells)) : ∀ e w', Post B w enc (run m s) e w' → Q e w' :=
  Post.two (fun c s1 w1 hm hb hi => h1 c s1 w1 hm (bt hb0 hb) hi) (fun v s1 w1 hm hb hI hi => by
    obtain ⟨f1, f2, f3, f4, f5, f6, f7⟩ := run_fr hF hm
    exact h2 v s1 w1 hm f1 f2 f3 f4 f5 f6 f7 (bt hb0 hb) hI hi)
theorem fr_set (k : Int) (b : U8) : Fr (setS k b) := by
  unfold setS
  exact fr_ite (fr_bind fr_where fun _ => fr_write _ _) (fr_mod fun s => Same.refl s)
theorem fr_setPair (p : Int) (v : U16) : Fr (setPairS p v) := fr_mod fun s => Same.refl s
theorem fr_put (a f : U8) : Fr (putS a f) := fr_mod fun s => Same.refl s
theorem fr_flag (f : U8) : Fr (flagS f) := fr_bind fr_get fun _ => fr_put _ _
theorem fr_push (x : U16) : Fr (pushS x) := by
  unfold pushS
  exact fr_bind (fr_mod fun s => Same.refl s) fun _ => fr_bind fr_get fun _ => fr_bind (fr_write _ _) fun _ => fr_bind (fr_mod fun s => Same.refl s) fun _ => fr_bind fr_get fun _ => fr_write _ _
theorem fr_tick : Fr tickS := fr_mod fun s => Same.refl s
theorem fr_fetch : Fr fetchS := by
  unfold fetchS
  exact fr_bind fr_get fun _ => fr_bind (fr_cycle _) fun _ => fr_bind (fr_mod fun s => Same.refl s) fun _ => fr_bind fr_tick fun _ => fr_pure _
theorem Inv.drewN {B : Nat} {w : World} {gv : Value} {got : List U8} (h : Inv B w gv got) (n : Nat) : Inv B (w.drewN n) gv got := h.kept (Below.dn (Below.refl _ _))
theorem put_drewN (w : World) (B n : Nat) (c : Array Value) : (put w B c).drewN n = put (w.drewN n) B c := rfl

end Go.Proofs.YtnaampdpkegacaaGreatDoor
