/-
  The references 01 to 07 in the machine's own words: contracts on bytes and words. A helper of the claims that stand beside it. (Printed by wip/genrm.py.)
-/
import Derived.Test.YtnaampdpkegacaaGreatDoorra
import Derived.Test.YtnaampdpkegacaaGreatDoorrba
import Derived.Test.YtnaampdpkegacaaGreatDoorrc
import Derived.Test.YtnaampdpkegacaaGreatDoorrd
import Derived.Test.YtnaampdpkegacaaGreatDoorqbase
namespace Go.Proofs.YtnaampdpkegacaaGreatDoor
open Go.RowKit

theorem pHi_ (x : U16) (w : World) : Calls Tryz.prog 111 #[.int .u16 x.v] w fun e w' => e = .returned (.int .u8 x.hi.v) ∧ w = w' := r01hi_ x.v x.h0 x.h1 w
theorem pLo_ (x : U16) (w : World) : Calls Tryz.prog 177 #[.int .u16 x.v] w fun e w' => e = .returned (.int .u8 x.lo.v) ∧ w = w' := r01lo_ x.v x.h0 x.h1 w
theorem pWord_ (a : U8) (b : U8) (w : World) : Calls Tryz.prog 180 #[.int .u8 a.v, .int .u8 b.v] w fun e w' => e = .returned (.int .u16 (a.word b).v) ∧ w = w' := r01word_ a.v b.v a.h0 a.h1 b.h0 b.h1 w
theorem pIs0_ (f : U8) (w : World) : Calls Tryz.prog 181 #[.int .u8 f.v, .int .i64 0] w fun e w' => e = .returned (.bool (bit 0 f.v)) ∧ w = w' := by
  have e : isb f.v 0 = bit 0 f.v := rfl
  have := r01is_ f.v 0 f.h0 f.h1 w
  rw [e] at this
  exact this
theorem pWith_ (b : U8) (n : Int) (on : Bool) (w : World) : Calls Tryz.prog 98 #[.int .u8 b.v, .int .i64 n, .bool on] w fun e w' => e = .returned (.int .u8 (oWith b n on).v) ∧ w = w' := r01with_ b.v b.h0 b.h1 n on w
theorem pEven_ (b : U8) (w : World) : Calls Tryz.prog 99 #[.int .u8 b.v] w fun e w' => e = .returned (.int .u8 (oEven b).v) ∧ Below w.heap.size w w' := r02even_ b.v b.h0 b.h1 w
theorem pRes_ (b : U8) (w : World) : Calls Tryz.prog 197 #[.int .u8 b.v] w fun e w' => e = .returned (.int .u8 (oRes b).v) ∧ Below w.heap.size w w' := r02result_ b.v b.h0 b.h1 w
theorem pTest_ (f : U8) (k : Int) (w : World) : Calls Tryz.prog 211 #[.int .u8 f.v, .int .i64 k] w fun e w' => e = .returned (.bool (tst f.v k)) ∧ Below w.heap.size w w' := r02test_ f.v k f.h0 f.h1 w
theorem pAdd_ (a : U8) (b : U8) (c : Bool) (w : World) : Calls Tryz.prog 206 #[.int .u8 a.v, .int .u8 b.v, .bool c] w fun e w' => e = .returned (.tuple #[.int .u8 (oAdd a b c).v, .int .u8 (oAddF a b c).v]) ∧ Below w.heap.size w w' := r03add_ a.v b.v c a.h0 a.h1 b.h0 b.h1 w
theorem pSub_ (a : U8) (b : U8) (c : Bool) (w : World) : Calls Tryz.prog 195 #[.int .u8 a.v, .int .u8 b.v, .bool c] w fun e w' => e = .returned (.tuple #[.int .u8 (oSub a b c).v, .int .u8 (oSubF a b c).v]) ∧ Below w.heap.size w w' := r03sub_ a.v b.v c a.h0 a.h1 b.h0 b.h1 w
theorem pCmp_ (a : U8) (b : U8) (w : World) : Calls Tryz.prog 210 #[.int .u8 a.v, .int .u8 b.v] w fun e w' => e = .returned (.int .u8 (oCmp a b).v) ∧ Below w.heap.size w w' := r03cmp_ a.v b.v a.h0 a.h1 b.h0 b.h1 w
theorem pInc_ (a : U8) (f : U8) (w : World) : Calls Tryz.prog 251 #[.int .u8 a.v, .int .u8 f.v] w fun e w' => e = .returned (.tuple #[.int .u8 (oInc a).v, .int .u8 (oIncF a f).v]) ∧ Below w.heap.size w w' := r03inc_ a.v f.v a.h0 a.h1 f.h0 f.h1 w
theorem pDec_ (a : U8) (f : U8) (w : World) : Calls Tryz.prog 252 #[.int .u8 a.v, .int .u8 f.v] w fun e w' => e = .returned (.tuple #[.int .u8 (oDec a).v, .int .u8 (oDecF a f).v]) ∧ Below w.heap.size w w' := r03dec_ a.v f.v a.h0 a.h1 f.h0 f.h1 w
theorem pNeg_ (a : U8) (w : World) : Calls Tryz.prog 108 #[.int .u8 a.v] w fun e w' => e = .returned (.tuple #[.int .u8 (oNeg a).v, .int .u8 (oNegF a).v]) ∧ Below w.heap.size w w' := r03neg_ a.v a.h0 a.h1 w
theorem pNear_ (x : U16) (b : U8) (w : World) : Calls Tryz.prog 56 #[.int .u16 x.v, .int .u8 b.v] w fun e w' => e = .returned (.int .u16 (x.mv (sgn b.v)).v) ∧ w = w' := r04near_ x.v b.v x.h0 x.h1 b.h0 b.h1 w
theorem pMv_ (x : U16) (n : Int) (w : World) : Calls Tryz.prog 115 #[.int .u16 x.v, .int .i64 n] w fun e w' => e = .returned (.int .u16 (x.mv n).v) ∧ w = w' := r04move_ x.v n x.h0 x.h1 w
theorem pHAdd_ (a : U16) (b : U16) (f : U8) (w : World) : Calls Tryz.prog 201 #[.int .u16 a.v, .int .u16 b.v, .int .u8 f.v] w fun e w' => e = .returned (.tuple #[.int .u16 (oHAdd a b).v, .int .u8 (oHAddF a b f).v]) ∧ Below w.heap.size w w' := r04add_ a.v b.v f.v a.h0 a.h1 b.h0 b.h1 f.h0 f.h1 w
theorem pAdc_ (a : U16) (b : U16) (f : U8) (w : World) : Calls Tryz.prog 106 #[.int .u16 a.v, .int .u16 b.v, .int .u8 f.v] w fun e w' => e = .returned (.tuple #[.int .u16 (oAdc a b f).v, .int .u8 (oAdcF a b f).v]) ∧ Below w.heap.size w w' := r04adc_ a.v b.v f.v a.h0 a.h1 b.h0 b.h1 f.h0 f.h1 w
theorem pSbc_ (a : U16) (b : U16) (f : U8) (w : World) : Calls Tryz.prog 103 #[.int .u16 a.v, .int .u16 b.v, .int .u8 f.v] w fun e w' => e = .returned (.tuple #[.int .u16 (oSbc a b f).v, .int .u8 (oSbcF a b f).v]) ∧ Below w.heap.size w w' := r04sbc_ a.v b.v f.v a.h0 a.h1 b.h0 b.h1 f.h0 f.h1 w
theorem pAnd_ (a : U8) (b : U8) (w : World) : Calls Tryz.prog 207 #[.int .u8 a.v, .int .u8 b.v] w fun e w' => e = .returned (.tuple #[.int .u8 (oAnd a b).v, .int .u8 (oAndF a b).v]) ∧ Below w.heap.size w w' := r05and_ a.v b.v a.h0 a.h1 b.h0 b.h1 w
theorem pOr_ (a : U8) (b : U8) (w : World) : Calls Tryz.prog 209 #[.int .u8 a.v, .int .u8 b.v] w fun e w' => e = .returned (.tuple #[.int .u8 (oOr a b).v, .int .u8 (oOrF a b).v]) ∧ Below w.heap.size w w' := r05or_ a.v b.v a.h0 a.h1 b.h0 b.h1 w
theorem pXor_ (a : U8) (b : U8) (w : World) : Calls Tryz.prog 208 #[.int .u8 a.v, .int .u8 b.v] w fun e w' => e = .returned (.tuple #[.int .u8 (oXor a b).v, .int .u8 (oXorF a b).v]) ∧ Below w.heap.size w w' := r05xor_ a.v b.v a.h0 a.h1 b.h0 b.h1 w
theorem pCpl_ (a : U8) (f : U8) (w : World) : Calls Tryz.prog 254 #[.int .u8 a.v, .int .u8 f.v] w fun e w' => e = .returned (.tuple #[.int .u8 (oCpl a).v, .int .u8 (oCplF a f).v]) ∧ Below w.heap.size w w' := r05cpl_ a.v f.v a.h0 a.h1 f.h0 f.h1 w
theorem pScf_ (a : U8) (f : U8) (w : World) : Calls Tryz.prog 255 #[.int .u8 a.v, .int .u8 f.v] w fun e w' => e = .returned (.int .u8 (oScf a f).v) ∧ Below w.heap.size w w' := r05scf_ a.v f.v a.h0 a.h1 f.h0 f.h1 w
theorem pCcf_ (a : U8) (f : U8) (w : World) : Calls Tryz.prog 256 #[.int .u8 a.v, .int .u8 f.v] w fun e w' => e = .returned (.int .u8 (oCcf a f).v) ∧ Below w.heap.size w w' := r05ccf_ a.v f.v a.h0 a.h1 f.h0 f.h1 w
theorem pDaa_ (a : U8) (f : U8) (w : World) : Calls Tryz.prog 253 #[.int .u8 a.v, .int .u8 f.v] w fun e w' => e = .returned (.tuple #[.int .u8 (oDaa a f).v, .int .u8 (oDaaF a f).v]) ∧ Below w.heap.size w w' := r05daa_ a.v f.v a.h0 a.h1 f.h0 f.h1 w
theorem pDo_ (k : Int) (b : U8) (f : U8) (k0 : 0 ≤ k) (k1 : k ≤ 7) (w : World) : Calls Tryz.prog 112 #[.int .i64 k, .int .u8 b.v, .int .u8 f.v] w fun e w' => e = .returned (.tuple #[.int .u8 (oDo k b f).v, .int .u8 (oDoF k b f).v]) ∧ Below w.heap.size w w' := r06do_ k b.v f.v k0 k1 b.h0 b.h1 f.h0 f.h1 w
theorem pAcc_ (k : Int) (a : U8) (f : U8) (k0 : 0 ≤ k) (k1 : k ≤ 7) (w : World) : Calls Tryz.prog 257 #[.int .i64 k, .int .u8 a.v, .int .u8 f.v] w fun e w' => e = .returned (.tuple #[.int .u8 (oAcc k a f).v, .int .u8 (oAccF k a f).v]) ∧ Below w.heap.size w w' := r06acc_ k a.v f.v k0 k1 a.h0 a.h1 f.h0 f.h1 w
theorem pDig_ (r : Bool) (a : U8) (b : U8) (f : U8) (w : World) : Calls Tryz.prog 198 #[.bool r, .int .u8 a.v, .int .u8 b.v, .int .u8 f.v] w fun e w' => e = .returned (.tuple #[.int .u8 (oDigA r a b).v, .int .u8 (oDigB r a b).v, .int .u8 (oDigF r a b f).v]) ∧ Below w.heap.size w w' := r06digit_ r a.v b.v f.v a.h0 a.h1 b.h0 b.h1 f.h0 f.h1 w
theorem pBit_ (n : Int) (b : U8) (l : U8) (f : U8) (w : World) : Calls Tryz.prog 113 #[.int .i64 n, .int .u8 b.v, .int .u8 l.v, .int .u8 f.v] w fun e w' => e = .returned (.int .u8 (oBit n b l f).v) ∧ Below w.heap.size w w' := r06bit_ n b.v l.v f.v b.h0 b.h1 l.h0 l.h1 f.h0 f.h1 w
theorem pMo_ (a : U8) (b : U8) (x : U16) (f : U8) (w : World) : Calls Tryz.prog 173 #[.int .u8 a.v, .int .u8 b.v, .int .u16 x.v, .int .u8 f.v] w fun e w' => e = .returned (.int .u8 (oMo a b x.nz f).v) ∧ Below w.heap.size w w' := r07move_ a.v b.v x.v f.v a.h0 a.h1 b.h0 b.h1 f.h0 f.h1 w
theorem pFi_ (a : U8) (b : U8) (x : U16) (f : U8) (w : World) : Calls Tryz.prog 174 #[.int .u8 a.v, .int .u8 b.v, .int .u16 x.v, .int .u8 f.v] w fun e w' => e = .returned (.int .u8 (oFi a b x.nz f).v) ∧ Below w.heap.size w w' := r07find_ a.v b.v x.v f.v a.h0 a.h1 b.h0 b.h1 f.h0 f.h1 w
theorem pTake_ (b : U8) (c : U8) (t : U8) (n : Int) (hn : n = 1 ∨ n = -1) (w : World) : Calls Tryz.prog 176 #[.int .u8 b.v, .int .u8 c.v, .int .u8 t.v, .int .i64 n] w fun e w' => e = .returned (.int .u8 (oTake b c t n).v) ∧ Below w.heap.size w w' := r07take_ b.v c.v t.v n hn b.h0 b.h1 c.h0 c.h1 t.h0 t.h1 w
theorem pGive_ (b : U8) (l : U8) (t : U8) (w : World) : Calls Tryz.prog 178 #[.int .u8 b.v, .int .u8 l.v, .int .u8 t.v] w fun e w' => e = .returned (.int .u8 (oGive b l t).v) ∧ Below w.heap.size w w' := r07give_ b.v l.v t.v b.h0 b.h1 l.h0 l.h1 t.h0 t.h1 w
theorem pAgain_ (k : Int) (f : U8) (w : World) : Calls Tryz.prog 179 #[.int .i64 k, .int .u8 f.v] w fun e w' => e = .returned (.bool (agS k f.v)) ∧ Below w.heap.size w w' := r07again_ k f.v f.h0 f.h1 w
end Go.Proofs.YtnaampdpkegacaaGreatDoor
