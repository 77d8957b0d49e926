/-
  Contracts of the reference 12's words and odd. A helper of the claims that stand beside it. (Printed by wip/genrs.py.)
-/
import Derived.Test.YtnaampdpkegacaaGreatDoorrn
namespace Go.Proofs.YtnaampdpkegacaaGreatDoor
open Go.RowKit

/-! Eight bools, loaded and stored whole. -/
@[go_sem ↓ high] theorem ld_b8 (a : Addr) : loadVar 125 a = ld 125 a := rfl
@[go_sem ↓ high] theorem st_b8 (a : Addr) (v : Value) : storeVar 125 a v = st 125 a v := rfl
@[go_sem] theorem ld_b8_run (w : World) (n o : Nat) (h : o + 8 ≤ (blk w n).size) : (ld 125 ⟨n, o, none⟩).run Tryz.prog w = .ok (.agg ((blk w n).extract o (o + 8))) w := by
  unfold ld loadVar
  rw [Sem.run_bind, Tryz.isAgg125, Result.andThen_ok]
  simp only [if_true]
  rw [Sem.run_bind, Tryz.sizeOf125, Result.andThen_ok]
  unfold loadCells
  rw [Sem.run_bind, ldCells w n o 8 h]
  rfl
theorem st_b8_any (w : World) (n o : Nat) (l : List Value) (hl : l.length = 8) (h1 : ∀ v ∈ l, v.oneCell' = true) (ht : w.there n o (7 + 1)) : (st 125 ⟨n, o, none⟩ (.agg l.toArray)).run Tryz.prog w = .ok () (w.setCells n o l) := by
  unfold st storeVar
  rw [Sem.run_bind, Tryz.sizeOf125, Result.andThen_ok]
  have hc : (Value.agg l.toArray).cells = l.toArray := rfl
  rw [hc, if_neg (by simp [hl])]
  exact stCells w n o l (by rw [hl]; exact ht) h1
theorem one8 (a b c d e f g h : Bool) : ∀ v ∈ [Value.bool a, .bool b, .bool c, .bool d, .bool e, .bool f, .bool g, .bool h], v.oneCell' = true := by
  simp [Value.oneCell']
@[go_sem] theorem st_b8_run (w : World) (n o : Nat) (a b c d e f g h : Bool) (ht : w.there n o (7 + 1)) :
    (st 125 ⟨n, o, none⟩ (.agg #[.bool a, .bool b, .bool c, .bool d, .bool e, .bool f, .bool g, .bool h])).run Tryz.prog w = .ok () (w.setCells n o [.bool a, .bool b, .bool c, .bool d, .bool e, .bool f, .bool g, .bool h]) := by
  have := st_b8_any w n o [.bool a, .bool b, .bool c, .bool d, .bool e, .bool f, .bool g, .bool h] rfl (one8 a b c d e f g h) ht
  exact this
@[go_sem] theorem ov8 (a b c d e f g h a' b' c' d' e' f' g' h' : Value) : ov #[a, b, c, d, e, f, g, h] 0 [a', b', c', d', e', f', g', h'] = #[a', b', c', d', e', f', g', h'] := by kernel_rfl
@[go_sem] theorem ex8 (a b c d e f g h : Value) : (#[a, b, c, d, e, f, g, h]).extract 0 8 = #[a, b, c, d, e, f, g, h] := rfl
@[go_sem] theorem set85 (a b c d e f g h v : Value) : (#[a, b, c, d, e, f, g, h]).setIfInBounds 5 v = #[a, b, c, d, e, v, g, h] := rfl
@[go_sem] theorem set87 (a b c d e f g h v : Value) : (#[a, b, c, d, e, f, g, h]).setIfInBounds 7 v = #[a, b, c, d, e, f, g, v] := rfl
def oMk (s z y h x p n c : Bool) : U8 := ⟨mk s z y h x p n c, (mk_range _ _ _ _ _ _ _ _).1, (mk_range _ _ _ _ _ _ _ _).2⟩
theorem pMake_ (s z y h x p n c : Bool) (w : World) : Calls Tryz.prog 185 #[.agg #[.bool s, .bool z, .bool y, .bool h, .bool x, .bool p, .bool n, .bool c]] w fun e w' => e = .returned (.int .u8 (oMk s z y h x p n c).v) ∧ Below w.heap.size w w' := r02make_ s z y h x p n c w
theorem pOfRes_ (b : U8) (w : World) : Calls Tryz.prog 183 #[.int .u8 (oRes b).v] w fun e w' => e = .returned (.agg #[.bool (bit 7 b.v), .bool (decide (b.v = 0)), .bool (bit 5 b.v), .bool false, .bool (bit 3 b.v), .bool false, .bool false, .bool false]) ∧ Below w.heap.size w w' := by
  have h := r02of_ (oRes b).v (oRes b).h0 (oRes b).h1 w
  have e : (oRes b).v = mk (bit 7 b.v) (decide (b.v = 0)) (bit 5 b.v) false (bit 3 b.v) false false false := rfl
  simp only [e, bit7_mk, bit6_mk, bit5_mk, bit4_mk, bit3_mk, bit2_mk, bit1_mk, bit0_mk] at h
  exact h
theorem oIr_mk (b : U8) (iff c : Bool) : oIr b iff c = oMk (bit 7 b.v) (decide (b.v = 0)) (bit 5 b.v) false (bit 3 b.v) iff false c := rfl

set_option maxHeartbeats 6000000 in
set_option maxRecDepth 20000 in
theorem words_0Q_ (B : Nat) (p : Int) (q : Int) (s : QS) (w : World) (hI : QInv B w s.gv s.got) (hq0 : q = 0) : Calls Tryz.prog 107 #[.pointer (some ⟨B, 0, none⟩), .int .i64 p, .int .i64 q] (put w B s.cells) (QPost B w eU (runQ (wordsQ p q) s)) := by
  have hi := hI.inb
  have hb0 := Below.refl w.heap.size w
  go_enter Tryz.func107, Tryz.ntmps107
  all_goals (try go_wp2_with (first | (go_at_call 193; refine (wordQ_ B  _ _ (by assumption)).mono (QPost.thru hb0 (fun v s1 w1 hq hb0 hI hi => ?_))) | (go_at_call 104; refine (r11pair_ _ _ _ _).mono ?_; rintro e w1 ⟨rfl, hb⟩; obtain ⟨w2, rfl, hb2⟩ := unput hi hb; replace hb0 := bt hb0 hb2; replace hI := hI.kept hb2; have hi := hI.inb) | (go_at_call 177; refine (pLo_ _ _).mono ?_; rintro e w1 ⟨rfl, rfl⟩) | (go_at_call 111; refine (pHi_ _ _).mono ?_; rintro e w1 ⟨rfl, rfl⟩) | (go_at_call 172; refine (writeQ_ B _ _ _ _ (by assumption)).mono (QPost.thru hb0 (fun v s1 w1 hq hb0 hI hi => ?_)))))
  all_goals first
    | (refine bodyPost_end (results_none rfl _ _ _) rfl (QPost.done (v := ()) ?_ rfl hb0 hI); simp [wordsQ, *]; done)
    | (refine bodyPost_ret (results_none rfl _ _ _) rfl (QPost.done (v := ()) ?_ rfl hb0 hI); simp [wordsQ, QC.hl', *]; done)
set_option maxHeartbeats 6000000 in
set_option maxRecDepth 20000 in
theorem words_1Q_ (B : Nat) (p : Int) (q : Int) (s : QS) (w : World) (hI : QInv B w s.gv s.got) (hq0 : ¬ q = 0) : Calls Tryz.prog 107 #[.pointer (some ⟨B, 0, none⟩), .int .i64 p, .int .i64 q] (put w B s.cells) (QPost B w eU (runQ (wordsQ p q) s)) := by
  have hi := hI.inb
  have hb0 := Below.refl w.heap.size w
  go_enter Tryz.func107, Tryz.ntmps107
  all_goals (try go_wp2_with (first | (go_at_call 193; refine (wordQ_ B  _ _ (by assumption)).mono (QPost.thru hb0 (fun v s1 w1 hq hb0 hI hi => ?_))) | (go_at_call 114; refine (readQ_ B _ _ _ (by assumption)).mono (QPost.thru hb0 (fun v s1 w1 hq hb0 hI hi => ?_)))))
  all_goals (try (
        replace hb0 := bt hb0 (Below.refl _ _).drew
        replace hI := QInv.drew hI
        replace hi := QInv.inb hI
        go_region_with (first | (go_at_call 180; refine (pWord_ _ _ _).mono ?_; rintro e w1 ⟨rfl, rfl⟩) | (go_at_call 194; refine (r11setpair_ _ _ _ _ _).mono ?_; rintro e w1 ⟨rfl, hb⟩; obtain ⟨w2, rfl, hb2⟩ := unput hi hb; replace hb0 := bt hb0 hb2; replace hI := hI.kept hb2; have hi := hI.inb))))
  all_goals (try go_wp2)
  all_goals first
    | (refine bodyPost_end (results_none rfl _ _ _) rfl (QPost.done (v := ()) ?_ rfl hb0 hI); simp [wordsQ, *]; done)
    | (refine bodyPost_ret (results_none rfl _ _ _) rfl (QPost.done (v := ()) ?_ rfl hb0 hI); simp [wordsQ, QC.hl', *]; done)
theorem wordsQ_ (B : Nat) (p : Int) (q : Int) (s : QS) (w : World) (hI : QInv B w s.gv s.got) : Calls Tryz.prog 107 #[.pointer (some ⟨B, 0, none⟩), .int .i64 p, .int .i64 q] (put w B s.cells) (QPost B w eU (runQ (wordsQ p q) s)) := by
  rcases (show (q = 0) ∨ (¬ q = 0) by omega) with hq0 | hq0
  · exact words_0Q_ B p q s w hI hq0
  · exact words_1Q_ B p q s w hI hq0
set_option maxHeartbeats 6000000 in
set_option maxRecDepth 20000 in
theorem odd_0Q_ (B : Nat) (y : Int) (s : QS) (w : World) (hI : QInv B w s.gv s.got) (hy : y = 0) : Calls Tryz.prog 110 #[.pointer (some ⟨B, 0, none⟩), .int .i64 y] (put w B s.cells) (QPost B w eU (runQ (oddQ y) s)) := by
  have hi := hI.inb
  have hb0 := Below.refl w.heap.size w
  have hne := hi.ne
  go_enter Tryz.func110, Tryz.ntmps110
  all_goals (try go_wp2_with (first | (go_at_call 58; refine (statesQ_ B _ _ _ (by assumption)).mono (QPost.thru hb0 (fun v s1 w1 hq hb0 hI hi => ?_))) | (go_at_call 97; refine (aQ_ B _ _ (by assumption)).mono ?_; rintro e w1 ⟨rfl, rfl⟩) | (go_at_call 197; refine (pRes_ _ _).mono ?_; rintro e w1 ⟨rfl, hb⟩; obtain ⟨w2, rfl, hb2⟩ := unput hi hb; replace hb0 := bt hb0 hb2; replace hI := hI.kept hb2; have hi := hI.inb) | (go_at_call 183; refine (pOfRes_ _ _).mono ?_; rintro e w1 ⟨rfl, hb⟩; obtain ⟨w2, rfl, hb2⟩ := unput hi hb; replace hb0 := bt hb0 hb2; replace hI := hI.kept hb2; have hi := hI.inb) | (go_at_call 185; refine (pMake_ _ _ _ _ _ _ _ _ _).mono ?_; rintro e w1 ⟨rfl, hb⟩; obtain ⟨w2, rfl, hb2⟩ := unput hi hb; replace hb0 := bt hb0 hb2; replace hI := hI.kept hb2; have hi := hI.inb) | (go_at_call 100; refine (carryQ_ B _ _ (by assumption)).mono ?_; rintro e w1 ⟨rfl, rfl⟩) | (go_at_call 96; refine (putQ_ B _ _ _ _ (by assumption)).mono (QPost.thru hb0 (fun v s1 w1 hq hb0 hI hi => ?_))) | (go_at_call 114; refine (readQ_ B _ _ _ (by assumption)).mono (QPost.thru hb0 (fun v s1 w1 hq hb0 hI hi => ?_))) | (go_at_call 105; refine (fQ_ B _ _ (by assumption)).mono ?_; rintro e w1 ⟨rfl, rfl⟩) | (go_at_call 198; refine (pDig_ _ _ _ _ _).mono ?_; rintro e w1 ⟨rfl, hb⟩; obtain ⟨w2, rfl, hb2⟩ := unput hi hb; replace hb0 := bt hb0 hb2; replace hI := hI.kept hb2; have hi := hI.inb) | (go_at_call 172; refine (writeQ_ B _ _ _ _ (by assumption)).mono (QPost.thru hb0 (fun v s1 w1 hq hb0 hI hi => ?_)))))
  all_goals first
    | (refine bodyPost_end (results_none rfl _ _ _) rfl (QPost.done (v := ()) ?_ rfl hb0 hI); simp [oddQ, *]; done)
    | (refine bodyPost_ret (results_none rfl _ _ _) rfl (QPost.done (v := ()) ?_ rfl hb0 hI); simp [oddQ, oIr_mk, QC.hl', *]; done)
    | (refine bodyPost_end (results_none rfl _ _ _) rfl (QPost.done (v := ()) ?_ rfl hb0 hI); simp [oddQ, oIr_mk, *]; exact hq)
set_option maxHeartbeats 6000000 in
set_option maxRecDepth 20000 in
theorem odd_1Q_ (B : Nat) (y : Int) (s : QS) (w : World) (hI : QInv B w s.gv s.got) (hy : y = 1) : Calls Tryz.prog 110 #[.pointer (some ⟨B, 0, none⟩), .int .i64 y] (put w B s.cells) (QPost B w eU (runQ (oddQ y) s)) := by
  have hi := hI.inb
  have hb0 := Below.refl w.heap.size w
  have hne := hi.ne
  go_enter Tryz.func110, Tryz.ntmps110
  all_goals (try go_wp2_with (first | (go_at_call 58; refine (statesQ_ B _ _ _ (by assumption)).mono (QPost.thru hb0 (fun v s1 w1 hq hb0 hI hi => ?_))) | (go_at_call 97; refine (aQ_ B _ _ (by assumption)).mono ?_; rintro e w1 ⟨rfl, rfl⟩) | (go_at_call 197; refine (pRes_ _ _).mono ?_; rintro e w1 ⟨rfl, hb⟩; obtain ⟨w2, rfl, hb2⟩ := unput hi hb; replace hb0 := bt hb0 hb2; replace hI := hI.kept hb2; have hi := hI.inb) | (go_at_call 183; refine (pOfRes_ _ _).mono ?_; rintro e w1 ⟨rfl, hb⟩; obtain ⟨w2, rfl, hb2⟩ := unput hi hb; replace hb0 := bt hb0 hb2; replace hI := hI.kept hb2; have hi := hI.inb) | (go_at_call 185; refine (pMake_ _ _ _ _ _ _ _ _ _).mono ?_; rintro e w1 ⟨rfl, hb⟩; obtain ⟨w2, rfl, hb2⟩ := unput hi hb; replace hb0 := bt hb0 hb2; replace hI := hI.kept hb2; have hi := hI.inb) | (go_at_call 100; refine (carryQ_ B _ _ (by assumption)).mono ?_; rintro e w1 ⟨rfl, rfl⟩) | (go_at_call 96; refine (putQ_ B _ _ _ _ (by assumption)).mono (QPost.thru hb0 (fun v s1 w1 hq hb0 hI hi => ?_))) | (go_at_call 114; refine (readQ_ B _ _ _ (by assumption)).mono (QPost.thru hb0 (fun v s1 w1 hq hb0 hI hi => ?_))) | (go_at_call 105; refine (fQ_ B _ _ (by assumption)).mono ?_; rintro e w1 ⟨rfl, rfl⟩) | (go_at_call 198; refine (pDig_ _ _ _ _ _).mono ?_; rintro e w1 ⟨rfl, hb⟩; obtain ⟨w2, rfl, hb2⟩ := unput hi hb; replace hb0 := bt hb0 hb2; replace hI := hI.kept hb2; have hi := hI.inb) | (go_at_call 172; refine (writeQ_ B _ _ _ _ (by assumption)).mono (QPost.thru hb0 (fun v s1 w1 hq hb0 hI hi => ?_)))))
  all_goals first
    | (refine bodyPost_end (results_none rfl _ _ _) rfl (QPost.done (v := ()) ?_ rfl hb0 hI); simp [oddQ, *]; done)
    | (refine bodyPost_ret (results_none rfl _ _ _) rfl (QPost.done (v := ()) ?_ rfl hb0 hI); simp [oddQ, oIr_mk, QC.hl', *]; done)
    | (refine bodyPost_end (results_none rfl _ _ _) rfl (QPost.done (v := ()) ?_ rfl hb0 hI); simp [oddQ, oIr_mk, *]; exact hq)
set_option maxHeartbeats 6000000 in
set_option maxRecDepth 20000 in
theorem odd_2Q_ (B : Nat) (y : Int) (s : QS) (w : World) (hI : QInv B w s.gv s.got) (hy : y = 2) : Calls Tryz.prog 110 #[.pointer (some ⟨B, 0, none⟩), .int .i64 y] (put w B s.cells) (QPost B w eU (runQ (oddQ y) s)) := by
  have hi := hI.inb
  have hb0 := Below.refl w.heap.size w
  have hne := hi.ne
  go_enter Tryz.func110, Tryz.ntmps110
  all_goals (try go_wp2_with (first | (go_at_call 58; refine (statesQ_ B _ _ _ (by assumption)).mono (QPost.thru hb0 (fun v s1 w1 hq hb0 hI hi => ?_))) | (go_at_call 197; refine (pRes_ _ _).mono ?_; rintro e w1 ⟨rfl, hb⟩; obtain ⟨w2, rfl, hb2⟩ := unput hi hb; replace hb0 := bt hb0 hb2; replace hI := hI.kept hb2; have hi := hI.inb; have hne := hi.ne) | (go_at_call 183; refine (pOfRes_ _ _).mono ?_; rintro e w1 ⟨rfl, hb⟩; obtain ⟨w2, rfl, hb2⟩ := unput hi hb; replace hb0 := bt hb0 hb2; replace hI := hI.kept hb2; have hi := hI.inb; have hne := hi.ne) | (go_at_call 185; refine (pMake_ _ _ _ _ _ _ _ _ _).mono ?_; rintro e w1 ⟨rfl, hb⟩; obtain ⟨w3, rfl, hb2⟩ := unput (by rw [inb_alloc]; exact .inl hi) hb; replace hb0 := bt hb0 (bt (by go_grown) hb2); replace hI := hI.kept (bt (by go_grown) hb2); replace hi := hI.inb) | (go_at_call 100; refine (carryQ_ B _ _ (hI.kept (by go_grown))).mono ?_; rintro e w3 ⟨rfl, rfl⟩) | (go_at_call 96; refine (putQ_ B _ _ _ _ (by assumption)).mono (QPost.thru hb0 (fun v s1 w1 hq hb0 hI hi => ?_)))))
  all_goals first
    | (refine bodyPost_end (results_none rfl _ _ _) rfl (QPost.done (v := ()) ?_ rfl hb0 hI); simp [oddQ, oIr_mk, *]; done)
    | (refine bodyPost_ret (results_none rfl _ _ _) rfl (QPost.done (v := ()) ?_ rfl hb0 hI); simp [oddQ, oIr_mk, *]; done)
    | (refine bodyPost_end (results_none rfl _ _ _) rfl (QPost.done (v := ()) ?_ rfl hb0 hI); simp [oddQ, oIr_mk, *]; exact hq)
set_option maxHeartbeats 6000000 in
set_option maxRecDepth 20000 in
theorem odd_3Q_ (B : Nat) (y : Int) (s : QS) (w : World) (hI : QInv B w s.gv s.got) (hy : y = 3) : Calls Tryz.prog 110 #[.pointer (some ⟨B, 0, none⟩), .int .i64 y] (put w B s.cells) (QPost B w eU (runQ (oddQ y) s)) := by
  have hi := hI.inb
  have hb0 := Below.refl w.heap.size w
  have hne := hi.ne
  go_enter Tryz.func110, Tryz.ntmps110
  all_goals (try go_wp2_with (first | (go_at_call 58; refine (statesQ_ B _ _ _ (by assumption)).mono (QPost.thru hb0 (fun v s1 w1 hq hb0 hI hi => ?_))) | (go_at_call 197; refine (pRes_ _ _).mono ?_; rintro e w1 ⟨rfl, hb⟩; obtain ⟨w2, rfl, hb2⟩ := unput hi hb; replace hb0 := bt hb0 hb2; replace hI := hI.kept hb2; have hi := hI.inb; have hne := hi.ne) | (go_at_call 183; refine (pOfRes_ _ _).mono ?_; rintro e w1 ⟨rfl, hb⟩; obtain ⟨w2, rfl, hb2⟩ := unput hi hb; replace hb0 := bt hb0 hb2; replace hI := hI.kept hb2; have hi := hI.inb; have hne := hi.ne) | (go_at_call 185; refine (pMake_ _ _ _ _ _ _ _ _ _).mono ?_; rintro e w1 ⟨rfl, hb⟩; obtain ⟨w3, rfl, hb2⟩ := unput (by rw [inb_alloc]; exact .inl hi) hb; replace hb0 := bt hb0 (bt (by go_grown) hb2); replace hI := hI.kept (bt (by go_grown) hb2); replace hi := hI.inb) | (go_at_call 100; refine (carryQ_ B _ _ (hI.kept (by go_grown))).mono ?_; rintro e w3 ⟨rfl, rfl⟩) | (go_at_call 96; refine (putQ_ B _ _ _ _ (by assumption)).mono (QPost.thru hb0 (fun v s1 w1 hq hb0 hI hi => ?_)))))
  all_goals first
    | (refine bodyPost_end (results_none rfl _ _ _) rfl (QPost.done (v := ()) ?_ rfl hb0 hI); simp [oddQ, oIr_mk, *]; done)
    | (refine bodyPost_ret (results_none rfl _ _ _) rfl (QPost.done (v := ()) ?_ rfl hb0 hI); simp [oddQ, oIr_mk, *]; done)
    | (refine bodyPost_end (results_none rfl _ _ _) rfl (QPost.done (v := ()) ?_ rfl hb0 hI); simp [oddQ, oIr_mk, *]; exact hq)
set_option maxHeartbeats 6000000 in
set_option maxRecDepth 20000 in
theorem odd_4Q_ (B : Nat) (y : Int) (s : QS) (w : World) (hI : QInv B w s.gv s.got) (hy : y = 4) : Calls Tryz.prog 110 #[.pointer (some ⟨B, 0, none⟩), .int .i64 y] (put w B s.cells) (QPost B w eU (runQ (oddQ y) s)) := by
  have hi := hI.inb
  have hb0 := Below.refl w.heap.size w
  have hne := hi.ne
  go_enter Tryz.func110, Tryz.ntmps110
  all_goals (try go_wp2_with (first | (go_at_call 58; refine (statesQ_ B _ _ _ (by assumption)).mono (QPost.thru hb0 (fun v s1 w1 hq hb0 hI hi => ?_))) | (go_at_call 97; refine (aQ_ B _ _ (by assumption)).mono ?_; rintro e w1 ⟨rfl, rfl⟩) | (go_at_call 197; refine (pRes_ _ _).mono ?_; rintro e w1 ⟨rfl, hb⟩; obtain ⟨w2, rfl, hb2⟩ := unput hi hb; replace hb0 := bt hb0 hb2; replace hI := hI.kept hb2; have hi := hI.inb) | (go_at_call 183; refine (pOfRes_ _ _).mono ?_; rintro e w1 ⟨rfl, hb⟩; obtain ⟨w2, rfl, hb2⟩ := unput hi hb; replace hb0 := bt hb0 hb2; replace hI := hI.kept hb2; have hi := hI.inb) | (go_at_call 185; refine (pMake_ _ _ _ _ _ _ _ _ _).mono ?_; rintro e w1 ⟨rfl, hb⟩; obtain ⟨w2, rfl, hb2⟩ := unput hi hb; replace hb0 := bt hb0 hb2; replace hI := hI.kept hb2; have hi := hI.inb) | (go_at_call 100; refine (carryQ_ B _ _ (by assumption)).mono ?_; rintro e w1 ⟨rfl, rfl⟩) | (go_at_call 96; refine (putQ_ B _ _ _ _ (by assumption)).mono (QPost.thru hb0 (fun v s1 w1 hq hb0 hI hi => ?_))) | (go_at_call 114; refine (readQ_ B _ _ _ (by assumption)).mono (QPost.thru hb0 (fun v s1 w1 hq hb0 hI hi => ?_))) | (go_at_call 105; refine (fQ_ B _ _ (by assumption)).mono ?_; rintro e w1 ⟨rfl, rfl⟩) | (go_at_call 198; refine (pDig_ _ _ _ _ _).mono ?_; rintro e w1 ⟨rfl, hb⟩; obtain ⟨w2, rfl, hb2⟩ := unput hi hb; replace hb0 := bt hb0 hb2; replace hI := hI.kept hb2; have hi := hI.inb) | (go_at_call 172; refine (writeQ_ B _ _ _ _ (by assumption)).mono (QPost.thru hb0 (fun v s1 w1 hq hb0 hI hi => ?_)))))
  all_goals first
    | (refine bodyPost_end (results_none rfl _ _ _) rfl (QPost.done (v := ()) ?_ rfl hb0 hI); simp [oddQ, *]; done)
    | (refine bodyPost_ret (results_none rfl _ _ _) rfl (QPost.done (v := ()) ?_ rfl hb0 hI); simp [oddQ, oIr_mk, QC.hl', *]; done)
    | (refine bodyPost_end (results_none rfl _ _ _) rfl (QPost.done (v := ()) ?_ rfl hb0 hI); simp [oddQ, oIr_mk, *]; exact hq)
set_option maxHeartbeats 6000000 in
set_option maxRecDepth 20000 in
theorem odd_5Q_ (B : Nat) (y : Int) (s : QS) (w : World) (hI : QInv B w s.gv s.got) (hy : y = 5) : Calls Tryz.prog 110 #[.pointer (some ⟨B, 0, none⟩), .int .i64 y] (put w B s.cells) (QPost B w eU (runQ (oddQ y) s)) := by
  have hi := hI.inb
  have hb0 := Below.refl w.heap.size w
  have hne := hi.ne
  go_enter Tryz.func110, Tryz.ntmps110
  all_goals (try go_wp2_with (first | (go_at_call 58; refine (statesQ_ B _ _ _ (by assumption)).mono (QPost.thru hb0 (fun v s1 w1 hq hb0 hI hi => ?_))) | (go_at_call 97; refine (aQ_ B _ _ (by assumption)).mono ?_; rintro e w1 ⟨rfl, rfl⟩) | (go_at_call 197; refine (pRes_ _ _).mono ?_; rintro e w1 ⟨rfl, hb⟩; obtain ⟨w2, rfl, hb2⟩ := unput hi hb; replace hb0 := bt hb0 hb2; replace hI := hI.kept hb2; have hi := hI.inb) | (go_at_call 183; refine (pOfRes_ _ _).mono ?_; rintro e w1 ⟨rfl, hb⟩; obtain ⟨w2, rfl, hb2⟩ := unput hi hb; replace hb0 := bt hb0 hb2; replace hI := hI.kept hb2; have hi := hI.inb) | (go_at_call 185; refine (pMake_ _ _ _ _ _ _ _ _ _).mono ?_; rintro e w1 ⟨rfl, hb⟩; obtain ⟨w2, rfl, hb2⟩ := unput hi hb; replace hb0 := bt hb0 hb2; replace hI := hI.kept hb2; have hi := hI.inb) | (go_at_call 100; refine (carryQ_ B _ _ (by assumption)).mono ?_; rintro e w1 ⟨rfl, rfl⟩) | (go_at_call 96; refine (putQ_ B _ _ _ _ (by assumption)).mono (QPost.thru hb0 (fun v s1 w1 hq hb0 hI hi => ?_))) | (go_at_call 114; refine (readQ_ B _ _ _ (by assumption)).mono (QPost.thru hb0 (fun v s1 w1 hq hb0 hI hi => ?_))) | (go_at_call 105; refine (fQ_ B _ _ (by assumption)).mono ?_; rintro e w1 ⟨rfl, rfl⟩) | (go_at_call 198; refine (pDig_ _ _ _ _ _).mono ?_; rintro e w1 ⟨rfl, hb⟩; obtain ⟨w2, rfl, hb2⟩ := unput hi hb; replace hb0 := bt hb0 hb2; replace hI := hI.kept hb2; have hi := hI.inb) | (go_at_call 172; refine (writeQ_ B _ _ _ _ (by assumption)).mono (QPost.thru hb0 (fun v s1 w1 hq hb0 hI hi => ?_)))))
  all_goals first
    | (refine bodyPost_end (results_none rfl _ _ _) rfl (QPost.done (v := ()) ?_ rfl hb0 hI); simp [oddQ, *]; done)
    | (refine bodyPost_ret (results_none rfl _ _ _) rfl (QPost.done (v := ()) ?_ rfl hb0 hI); simp [oddQ, oIr_mk, QC.hl', *]; done)
    | (refine bodyPost_end (results_none rfl _ _ _) rfl (QPost.done (v := ()) ?_ rfl hb0 hI); simp [oddQ, oIr_mk, *]; exact hq)
set_option maxHeartbeats 6000000 in
set_option maxRecDepth 20000 in
theorem odd_6Q_ (B : Nat) (y : Int) (s : QS) (w : World) (hI : QInv B w s.gv s.got) (hy : y = 6) : Calls Tryz.prog 110 #[.pointer (some ⟨B, 0, none⟩), .int .i64 y] (put w B s.cells) (QPost B w eU (runQ (oddQ y) s)) := by
  have hi := hI.inb
  have hb0 := Below.refl w.heap.size w
  have hne := hi.ne
  go_enter Tryz.func110, Tryz.ntmps110
  all_goals (try go_wp2_with (first | (go_at_call 58; refine (statesQ_ B _ _ _ (by assumption)).mono (QPost.thru hb0 (fun v s1 w1 hq hb0 hI hi => ?_))) | (go_at_call 97; refine (aQ_ B _ _ (by assumption)).mono ?_; rintro e w1 ⟨rfl, rfl⟩) | (go_at_call 197; refine (pRes_ _ _).mono ?_; rintro e w1 ⟨rfl, hb⟩; obtain ⟨w2, rfl, hb2⟩ := unput hi hb; replace hb0 := bt hb0 hb2; replace hI := hI.kept hb2; have hi := hI.inb) | (go_at_call 183; refine (pOfRes_ _ _).mono ?_; rintro e w1 ⟨rfl, hb⟩; obtain ⟨w2, rfl, hb2⟩ := unput hi hb; replace hb0 := bt hb0 hb2; replace hI := hI.kept hb2; have hi := hI.inb) | (go_at_call 185; refine (pMake_ _ _ _ _ _ _ _ _ _).mono ?_; rintro e w1 ⟨rfl, hb⟩; obtain ⟨w2, rfl, hb2⟩ := unput hi hb; replace hb0 := bt hb0 hb2; replace hI := hI.kept hb2; have hi := hI.inb) | (go_at_call 100; refine (carryQ_ B _ _ (by assumption)).mono ?_; rintro e w1 ⟨rfl, rfl⟩) | (go_at_call 96; refine (putQ_ B _ _ _ _ (by assumption)).mono (QPost.thru hb0 (fun v s1 w1 hq hb0 hI hi => ?_))) | (go_at_call 114; refine (readQ_ B _ _ _ (by assumption)).mono (QPost.thru hb0 (fun v s1 w1 hq hb0 hI hi => ?_))) | (go_at_call 105; refine (fQ_ B _ _ (by assumption)).mono ?_; rintro e w1 ⟨rfl, rfl⟩) | (go_at_call 198; refine (pDig_ _ _ _ _ _).mono ?_; rintro e w1 ⟨rfl, hb⟩; obtain ⟨w2, rfl, hb2⟩ := unput hi hb; replace hb0 := bt hb0 hb2; replace hI := hI.kept hb2; have hi := hI.inb) | (go_at_call 172; refine (writeQ_ B _ _ _ _ (by assumption)).mono (QPost.thru hb0 (fun v s1 w1 hq hb0 hI hi => ?_)))))
  all_goals first
    | (refine bodyPost_end (results_none rfl _ _ _) rfl (QPost.done (v := ()) ?_ rfl hb0 hI); simp [oddQ, *]; done)
    | (refine bodyPost_ret (results_none rfl _ _ _) rfl (QPost.done (v := ()) ?_ rfl hb0 hI); simp [oddQ, oIr_mk, QC.hl', *]; done)
    | (refine bodyPost_end (results_none rfl _ _ _) rfl (QPost.done (v := ()) ?_ rfl hb0 hI); simp [oddQ, oIr_mk, *]; exact hq)
set_option maxHeartbeats 6000000 in
set_option maxRecDepth 20000 in
theorem odd_7Q_ (B : Nat) (y : Int) (s : QS) (w : World) (hI : QInv B w s.gv s.got) (hy : y = 7) : Calls Tryz.prog 110 #[.pointer (some ⟨B, 0, none⟩), .int .i64 y] (put w B s.cells) (QPost B w eU (runQ (oddQ y) s)) := by
  have hi := hI.inb
  have hb0 := Below.refl w.heap.size w
  have hne := hi.ne
  go_enter Tryz.func110, Tryz.ntmps110
  all_goals (try go_wp2_with (first | (go_at_call 58; refine (statesQ_ B _ _ _ (by assumption)).mono (QPost.thru hb0 (fun v s1 w1 hq hb0 hI hi => ?_))) | (go_at_call 97; refine (aQ_ B _ _ (by assumption)).mono ?_; rintro e w1 ⟨rfl, rfl⟩) | (go_at_call 197; refine (pRes_ _ _).mono ?_; rintro e w1 ⟨rfl, hb⟩; obtain ⟨w2, rfl, hb2⟩ := unput hi hb; replace hb0 := bt hb0 hb2; replace hI := hI.kept hb2; have hi := hI.inb) | (go_at_call 183; refine (pOfRes_ _ _).mono ?_; rintro e w1 ⟨rfl, hb⟩; obtain ⟨w2, rfl, hb2⟩ := unput hi hb; replace hb0 := bt hb0 hb2; replace hI := hI.kept hb2; have hi := hI.inb) | (go_at_call 185; refine (pMake_ _ _ _ _ _ _ _ _ _).mono ?_; rintro e w1 ⟨rfl, hb⟩; obtain ⟨w2, rfl, hb2⟩ := unput hi hb; replace hb0 := bt hb0 hb2; replace hI := hI.kept hb2; have hi := hI.inb) | (go_at_call 100; refine (carryQ_ B _ _ (by assumption)).mono ?_; rintro e w1 ⟨rfl, rfl⟩) | (go_at_call 96; refine (putQ_ B _ _ _ _ (by assumption)).mono (QPost.thru hb0 (fun v s1 w1 hq hb0 hI hi => ?_))) | (go_at_call 114; refine (readQ_ B _ _ _ (by assumption)).mono (QPost.thru hb0 (fun v s1 w1 hq hb0 hI hi => ?_))) | (go_at_call 105; refine (fQ_ B _ _ (by assumption)).mono ?_; rintro e w1 ⟨rfl, rfl⟩) | (go_at_call 198; refine (pDig_ _ _ _ _ _).mono ?_; rintro e w1 ⟨rfl, hb⟩; obtain ⟨w2, rfl, hb2⟩ := unput hi hb; replace hb0 := bt hb0 hb2; replace hI := hI.kept hb2; have hi := hI.inb) | (go_at_call 172; refine (writeQ_ B _ _ _ _ (by assumption)).mono (QPost.thru hb0 (fun v s1 w1 hq hb0 hI hi => ?_)))))
  all_goals first
    | (refine bodyPost_end (results_none rfl _ _ _) rfl (QPost.done (v := ()) ?_ rfl hb0 hI); simp [oddQ, *]; done)
    | (refine bodyPost_ret (results_none rfl _ _ _) rfl (QPost.done (v := ()) ?_ rfl hb0 hI); simp [oddQ, oIr_mk, QC.hl', *]; done)
    | (refine bodyPost_end (results_none rfl _ _ _) rfl (QPost.done (v := ()) ?_ rfl hb0 hI); simp [oddQ, oIr_mk, *]; exact hq)
theorem oddQ_ (B : Nat) (y : Int) (s : QS) (w : World) (hI : QInv B w s.gv s.got) (y0 : 0 ≤ y) (y1 : y ≤ 7) : Calls Tryz.prog 110 #[.pointer (some ⟨B, 0, none⟩), .int .i64 y] (put w B s.cells) (QPost B w eU (runQ (oddQ y) s)) := by
  rcases (show (y = 0) ∨ (y = 1) ∨ (y = 2) ∨ (y = 3) ∨ (y = 4) ∨ (y = 5) ∨ (y = 6) ∨ (y = 7) by omega) with hy | hy | hy | hy | hy | hy | hy | hy
  · exact odd_0Q_ B y s w hI hy
  · exact odd_1Q_ B y s w hI hy
  · exact odd_2Q_ B y s w hI hy
  · exact odd_3Q_ B y s w hI hy
  · exact odd_4Q_ B y s w hI hy
  · exact odd_5Q_ B y s w hI hy
  · exact odd_6Q_ B y s w hI hy
  · exact odd_7Q_ B y s w hI hy
end Go.Proofs.YtnaampdpkegacaaGreatDoor
