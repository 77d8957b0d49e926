/-
  Contracts of the reference 12's small methods. A helper of the claims that stand beside it. (Printed by wip/genrn.py.)
-/
import Derived.Test.YtnaampdpkegacaaGreatDoorrm
import Derived.Test.YtnaampdpkegacaaGreatDoorqreg
import Derived.Test.YtnaampdpkegacaaGreatDoorr8
namespace Go.Proofs.YtnaampdpkegacaaGreatDoor
open Go.RowKit

set_option maxHeartbeats 1000000 in
set_option maxRecDepth 20000 in
theorem cycQ_ (B : Nat) (c : Cyc) (s : QS) (w : World) (hI : QInv B w s.gv s.got) : Calls Tryz.prog 26 #[.pointer (some ⟨B, 0, none⟩), .int .i64 c.kind, .int .u16 c.addr.v, .int .u8 c.data.v, .int .i64 c.t] (put w B s.cells) (QPost B w e8 (runQ (cycleQ c) s)) := by
  have hi := hI.inb
  have hb0 := Below.refl w.heap.size w
  cases hl : s.fd.lacks with
  | true =>
    have hm := cycleQ_lacks c s hl
    generalize runQ (cycleQ c) s = M at hm ⊢
    go_enter Tryz.func26, Tryz.ntmps26
    go_wp2
    go_ret
    exact QPost.done hm rfl hb0 hI
  | false =>
    cases hx : s.got[s.fd.at']? with
    | none =>
      have hm := cycleQ_no c s hl hx
      generalize runQ (cycleQ c) s = M at hm ⊢
      have hge : (s.got.length : Int) ≤ (s.fd.at' : Int) := by have := List.getElem?_eq_none_iff.1 hx; omega
      obtain ⟨a, k, hg⟩ : ∃ a k, s.gv = .slice a s.got.length k := by
        rcases hI.hd with ⟨a, k, hg, hs⟩ | ⟨b, o, k, hg, _⟩
        · exact ⟨a, k, by rw [hg, hs]; rfl⟩
        · exact ⟨_, k, hg⟩
      rw [hg] at hm hI
      have hm' := Lib.hid hm
      clear hm hx
      go_enter Tryz.func26, Tryz.ntmps26
      go_wp2
      replace hb0 := bt hb0 (Below.refl _ _).drew
      replace hI := QInv.drew hI
      replace hi := QInv.inb hI
      go_region
      all_goals
        go_wp2
        go_ret
        exact QPost.done hm'.out rfl hb0 hI
    | some x =>
      have hm := cycleQ_yes c s x hl hx
      generalize runQ (cycleQ c) s = M at hm ⊢
      have hlt : s.fd.at' < s.got.length := by
        rcases Nat.lt_or_ge s.fd.at' s.got.length with h | h
        · exact h
        · rw [List.getElem?_eq_none_iff.2 h] at hx; cases hx
      have hlt1 : (s.fd.at' : Int) < (s.got.length : Int) := by omega
      have hlt3 := hI.len
      have hw : wrap64 ((s.fd.at' : Int) + 1) = (s.fd.at' : Int) + 1 := by unfold wrap64; omega
      have hw2 : wrap64 (s.fd.at' : Int) = (s.fd.at' : Int) := by unfold wrap64; omega
      obtain ⟨b, o, k, hg, hn, hne, hlt2, hc⟩ : ∃ b o k, s.gv = .slice (some ⟨b, o, none⟩) s.got.length k ∧ s.got.length ≤ k ∧ b ≠ B ∧ b < w.heap.size ∧ w.cell? ⟨b, o + s.fd.at', none⟩ = some (.int .u8 x.v) := by
        rcases hI.hd with ⟨a, k, hg, hs⟩ | ⟨b, o, k, hg, hn, hne, hl2, hc⟩
        · rw [hs] at hlt; simp at hlt
        · exact ⟨b, o, k, hg, hn, hne, hl2, hc _ _ hx⟩
      have hm' := Lib.hid (show M = (x, { s with fd := ⟨s.fd.at' + 1, false, s.fd.ask⟩, gv := .slice (some ⟨b, o, none⟩) s.got.length k }) by rw [hm, ← hg, ← hl])
      rw [hg] at hI
      clear hm hx
      go_enter Tryz.func26, Tryz.ntmps26
      go_wp2
      replace hb0 := bt hb0 (Below.refl _ _).drew
      replace hI := QInv.drew hI
      replace hi := QInv.inb hI
      go_region
      all_goals
        go_wp2
        replace hb0 := bt hb0 (Below.refl _ _).drew
        replace hI := QInv.drew hI
        replace hi := QInv.inb hI
        go_region
        all_goals
          go_wp2
          go_ret
          exact QPost.done hm'.out rfl hb0 hI
theorem cycR_ (B : Nat) (k : Int) (a : U16) (b : U8) (t : Int) (s : QS) (w : World) (hI : QInv B w s.gv s.got) : Calls Tryz.prog 26 #[.pointer (some ⟨B, 0, none⟩), .int .i64 k, .int .u16 a.v, .int .u8 b.v, .int .i64 t] (put w B s.cells) (QPost B w e8 (runQ (cycleQ ⟨k, a, b, t⟩) s)) := cycQ_ B ⟨k, a, b, t⟩ s w hI

set_option maxHeartbeats 1000000 in
set_option maxRecDepth 20000 in
theorem statesQ_ (B : Nat) (n : Int) (s : QS) (w : World) (hI : QInv B w s.gv s.got) : Calls Tryz.prog 58 #[.pointer (some ⟨B, 0, none⟩), .int .i64 n] (put w B s.cells) (QPost B w eU (runQ (statesQ n) s)) := by
  have hi := hI.inb
  have hb0 := Below.refl w.heap.size w
  go_enter Tryz.func58, Tryz.ntmps58
  all_goals (try go_wp2_with (first | (go_at_call 26; refine (cycR_ B 7 (u16 0) (u8 0) n _ _ (by assumption)).mono (QPost.thru hb0 (fun v s1 w1 hq hb0 hI hi => ?_)))))
  all_goals first
    | (refine bodyPost_end (results_none rfl _ _ _) rfl (QPost.done (v := ()) ?_ rfl hb0 hI); simp [statesQ, *]; done)
    | (refine bodyPost_ret (results_none rfl _ _ _) rfl (QPost.done (v := ()) ?_ rfl hb0 hI); simp [statesQ, QC.hl', *]; done)
set_option maxHeartbeats 1000000 in
set_option maxRecDepth 20000 in
theorem tickQ_ (B : Nat) (s : QS) (w : World) (hI : QInv B w s.gv s.got) : Calls Tryz.prog 27 #[.pointer (some ⟨B, 0, none⟩)] (put w B s.cells) (QPost B w eU (runQ tickQ s)) := by
  have hi := hI.inb
  have hb0 := Below.refl w.heap.size w
  go_enter Tryz.func27, Tryz.ntmps27
  all_goals (try go_wp2_with (first | (go_at_call 52; refine (r11tick_ _ _).mono ?_; rintro e w1 ⟨rfl, hb⟩; obtain ⟨w2, rfl, hb2⟩ := unput hi hb; replace hb0 := bt hb0 hb2; replace hI := hI.kept hb2; have hi := hI.inb)))
  all_goals first
    | (refine bodyPost_end (results_none rfl _ _ _) rfl (QPost.done (v := ()) ?_ rfl hb0 hI); simp [tickQ, *]; done)
    | (refine bodyPost_ret (results_none rfl _ _ _) rfl (QPost.done (v := ()) ?_ rfl hb0 hI); simp [tickQ, QC.hl', *]; done)
set_option maxHeartbeats 1000000 in
set_option maxRecDepth 20000 in
theorem fetchQ_ (B : Nat) (s : QS) (w : World) (hI : QInv B w s.gv s.got) : Calls Tryz.prog 29 #[.pointer (some ⟨B, 0, none⟩)] (put w B s.cells) (QPost B w e8 (runQ fetchQ s)) := by
  have hi := hI.inb
  have hb0 := Below.refl w.heap.size w
  go_enter Tryz.func29, Tryz.ntmps29
  all_goals (try go_wp2_with (first | (go_at_call 26; refine (cycR_ B 1 s.r.pc (u8 0) 4 _ _ (by assumption)).mono (QPost.thru hb0 (fun v s1 w1 hq hb0 hI hi => ?_))) | (go_at_call 27; refine (tickQ_ B  _ _ (by assumption)).mono (QPost.thru hb0 (fun v s1 w1 hq hb0 hI hi => ?_)))))
  all_goals first
    | (go_ret; refine QPost.done ?_ rfl hb0 hI; simp [fetchQ, *]; done)
set_option maxHeartbeats 1000000 in
set_option maxRecDepth 20000 in
theorem readQ_ (B : Nat) (a : U16) (s : QS) (w : World) (hI : QInv B w s.gv s.got) : Calls Tryz.prog 114 #[.pointer (some ⟨B, 0, none⟩), .int .u16 a.v] (put w B s.cells) (QPost B w e8 (runQ (readQ a) s)) := by
  have hi := hI.inb
  have hb0 := Below.refl w.heap.size w
  go_enter Tryz.func114, Tryz.ntmps114
  all_goals (try go_wp2_with (first | (go_at_call 26; refine (cycR_ B 2 a (u8 0) 3 _ _ (by assumption)).mono (QPost.thru hb0 (fun v s1 w1 hq hb0 hI hi => ?_)))))
  all_goals first
    | (go_ret; refine QPost.done ?_ rfl hb0 hI; simp [readQ, *]; done)
set_option maxHeartbeats 1000000 in
set_option maxRecDepth 20000 in
theorem writeQ_ (B : Nat) (a : U16) (b : U8) (s : QS) (w : World) (hI : QInv B w s.gv s.got) : Calls Tryz.prog 172 #[.pointer (some ⟨B, 0, none⟩), .int .u16 a.v, .int .u8 b.v] (put w B s.cells) (QPost B w eU (runQ (writeQ a b) s)) := by
  have hi := hI.inb
  have hb0 := Below.refl w.heap.size w
  go_enter Tryz.func172, Tryz.ntmps172
  all_goals (try go_wp2_with (first | (go_at_call 26; refine (cycR_ B 3 a b 3 _ _ (by assumption)).mono (QPost.thru hb0 (fun v s1 w1 hq hb0 hI hi => ?_)))))
  all_goals first
    | (refine bodyPost_end (results_none rfl _ _ _) rfl (QPost.done (v := ()) ?_ rfl hb0 hI); simp [writeQ, *]; done)
    | (refine bodyPost_ret (results_none rfl _ _ _) rfl (QPost.done (v := ()) ?_ rfl hb0 hI); simp [writeQ, QC.hl', *]; done)
set_option maxHeartbeats 1000000 in
set_option maxRecDepth 20000 in
theorem numberQ_ (B : Nat) (s : QS) (w : World) (hI : QInv B w s.gv s.got) : Calls Tryz.prog 55 #[.pointer (some ⟨B, 0, none⟩)] (put w B s.cells) (QPost B w e8 (runQ numberQ s)) := by
  have hi := hI.inb
  have hb0 := Below.refl w.heap.size w
  go_enter Tryz.func55, Tryz.ntmps55
  all_goals (try go_wp2_with (first | (go_at_call 114; refine (readQ_ B _ _ _ (by assumption)).mono (QPost.thru hb0 (fun v s1 w1 hq hb0 hI hi => ?_)))))
  all_goals first
    | (go_ret; refine QPost.done ?_ rfl hb0 hI; simp [numberQ, *]; done)
set_option maxHeartbeats 1000000 in
set_option maxRecDepth 20000 in
theorem wordQ_ (B : Nat) (s : QS) (w : World) (hI : QInv B w s.gv s.got) : Calls Tryz.prog 193 #[.pointer (some ⟨B, 0, none⟩)] (put w B s.cells) (QPost B w e16 (runQ wordQ s)) := by
  have hi := hI.inb
  have hb0 := Below.refl w.heap.size w
  go_enter Tryz.func193, Tryz.ntmps193
  all_goals (try go_wp2_with (first | (go_at_call 55; refine (numberQ_ B  _ _ (by assumption)).mono (QPost.thru hb0 (fun v s1 w1 hq hb0 hI hi => ?_))) | (go_at_call 180; refine (pWord_ _ _ _).mono ?_; rintro e w1 ⟨rfl, rfl⟩)))
  all_goals first
    | (go_ret; refine QPost.done ?_ rfl hb0 hI; simp [wordQ, *]; done)
set_option maxHeartbeats 1000000 in
set_option maxRecDepth 20000 in
theorem popQ_ (B : Nat) (s : QS) (w : World) (hI : QInv B w s.gv s.got) : Calls Tryz.prog 196 #[.pointer (some ⟨B, 0, none⟩)] (put w B s.cells) (QPost B w e16 (runQ popQ s)) := by
  have hi := hI.inb
  have hb0 := Below.refl w.heap.size w
  go_enter Tryz.func196, Tryz.ntmps196
  all_goals (try go_wp2_with (first | (go_at_call 114; refine (readQ_ B _ _ _ (by assumption)).mono (QPost.thru hb0 (fun v s1 w1 hq hb0 hI hi => ?_))) | (go_at_call 180; refine (pWord_ _ _ _).mono ?_; rintro e w1 ⟨rfl, rfl⟩)))
  all_goals first
    | (go_ret; refine QPost.done ?_ rfl hb0 hI; simp [popQ, *]; done)
set_option maxHeartbeats 1000000 in
set_option maxRecDepth 20000 in
theorem pushQ_ (B : Nat) (x : U16) (s : QS) (w : World) (hI : QInv B w s.gv s.got) : Calls Tryz.prog 215 #[.pointer (some ⟨B, 0, none⟩), .int .u16 x.v] (put w B s.cells) (QPost B w eU (runQ (pushQ x) s)) := by
  have hi := hI.inb
  have hb0 := Below.refl w.heap.size w
  go_enter Tryz.func215, Tryz.ntmps215
  all_goals (try go_wp2)
  all_goals (try (
        refine still_tail 8 (by kernel_rfl) (by decide +kernel) ?_
        simp only [List.take_succ_cons, List.take_zero, List.drop_succ_cons, List.drop_zero, put_drew]
        replace hb0 := bt hb0 (Below.refl _ _).drew
        replace hI := QInv.drew hI
        replace hi := QInv.inb hI
        repeat (first | still_step | (refine wpStill_step (fun K hK => ?_); go_simp; (first | (refine ⟨_, (pHi_ _ _).mono (fun e w' h => ⟨h.1, h.2.symm⟩), hK _ ?_⟩)); clear hK K))
        refine wpStill_nil ?_))
  all_goals (try go_wp2_with (first | (go_at_call 172; refine (writeQ_ B _ _ _ _ (by assumption)).mono (QPost.thru hb0 (fun v s1 w1 hq hb0 hI hi => ?_)))))
  all_goals (try (
        refine still_tail 8 (by kernel_rfl) (by decide +kernel) ?_
        simp only [List.take_succ_cons, List.take_zero, List.drop_succ_cons, List.drop_zero, put_drew]
        replace hb0 := bt hb0 (Below.refl _ _).drew
        replace hI := QInv.drew hI
        replace hi := QInv.inb hI
        repeat (first | still_step | (refine wpStill_step (fun K hK => ?_); go_simp; (first | (refine ⟨_, (pLo_ _ _).mono (fun e w' h => ⟨h.1, h.2.symm⟩), hK _ ?_⟩)); clear hK K))
        refine wpStill_nil ?_))
  all_goals (try go_wp2_with (first | (go_at_call 172; refine (writeQ_ B _ _ _ _ (by assumption)).mono (QPost.thru hb0 (fun v s1 w1 hq hb0 hI hi => ?_)))))
  all_goals first
    | (refine bodyPost_end (results_none rfl _ _ _) rfl (QPost.done (v := ()) ?_ rfl hb0 hI); simp [pushQ, *]; done)
    | (refine bodyPost_ret (results_none rfl _ _ _) rfl (QPost.done (v := ()) ?_ rfl hb0 hI); simp [pushQ, QC.hl', *]; done)
theorem aQ_ (B : Nat) (s : QS) (w : World) (hI : QInv B w s.gv s.got) : Calls Tryz.prog 97 #[.pointer (some ⟨B, 0, none⟩)] (put w B s.cells) fun e w' => e = .returned (.int .u8 s.r.af.hi.v) ∧ put w B s.cells = w' := by
  have hi := hI.inb
  go_enter Tryz.func97, Tryz.ntmps97
  go_wp2_with (first | (go_at_call 111; refine (pHi_ _ _).mono ?_; rintro e w1 ⟨rfl, rfl⟩))
  go_ret
  exact ⟨rfl, rfl⟩
theorem fQ_ (B : Nat) (s : QS) (w : World) (hI : QInv B w s.gv s.got) : Calls Tryz.prog 105 #[.pointer (some ⟨B, 0, none⟩)] (put w B s.cells) fun e w' => e = .returned (.int .u8 s.r.af.lo.v) ∧ put w B s.cells = w' := by
  have hi := hI.inb
  go_enter Tryz.func105, Tryz.ntmps105
  go_wp2_with (first | (go_at_call 177; refine (pLo_ _ _).mono ?_; rintro e w1 ⟨rfl, rfl⟩))
  go_ret
  exact ⟨rfl, rfl⟩
theorem carryQ_ (B : Nat) (s : QS) (w : World) (hI : QInv B w s.gv s.got) : Calls Tryz.prog 100 #[.pointer (some ⟨B, 0, none⟩)] (put w B s.cells) fun e w' => e = .returned (.bool (bit 0 s.r.af.lo.v)) ∧ put w B s.cells = w' := by
  have hi := hI.inb
  go_enter Tryz.func100, Tryz.ntmps100
  go_wp2_with (first | (go_at_call 105; refine (fQ_ B _ _ (by assumption)).mono ?_; rintro e w1 ⟨rfl, rfl⟩) | (go_at_call 181; refine (pIs0_ _ _).mono ?_; rintro e w1 ⟨rfl, rfl⟩))
  go_ret
  exact ⟨rfl, rfl⟩
set_option maxHeartbeats 1000000 in
set_option maxRecDepth 20000 in
theorem putQ_ (B : Nat) (a : U8) (f : U8) (s : QS) (w : World) (hI : QInv B w s.gv s.got) : Calls Tryz.prog 96 #[.pointer (some ⟨B, 0, none⟩), .int .u8 a.v, .int .u8 f.v] (put w B s.cells) (QPost B w eU (runQ (putQ a f) s)) := by
  have hi := hI.inb
  have hb0 := Below.refl w.heap.size w
  go_enter Tryz.func96, Tryz.ntmps96
  all_goals (try go_wp2_with (first | (go_at_call 180; refine (pWord_ _ _ _).mono ?_; rintro e w1 ⟨rfl, rfl⟩)))
  all_goals first
    | (refine bodyPost_end (results_none rfl _ _ _) rfl (QPost.done (v := ()) ?_ rfl hb0 hI); simp [putQ, *]; done)
    | (refine bodyPost_ret (results_none rfl _ _ _) rfl (QPost.done (v := ()) ?_ rfl hb0 hI); simp [putQ, QC.hl', *]; done)
set_option maxHeartbeats 1000000 in
set_option maxRecDepth 20000 in
theorem lessQ_ (B : Nat) (s : QS) (w : World) (hI : QInv B w s.gv s.got) : Calls Tryz.prog 175 #[.pointer (some ⟨B, 0, none⟩)] (put w B s.cells) (QPost B w e8 (runQ lessQ s)) := by
  have hi := hI.inb
  have hb0 := Below.refl w.heap.size w
  go_enter Tryz.func175, Tryz.ntmps175
  all_goals (try go_wp2_with (first | (go_at_call 111; refine (pHi_ _ _).mono ?_; rintro e w1 ⟨rfl, rfl⟩) | (go_at_call 177; refine (pLo_ _ _).mono ?_; rintro e w1 ⟨rfl, rfl⟩) | (go_at_call 180; refine (pWord_ _ _ _).mono ?_; rintro e w1 ⟨rfl, rfl⟩)))
  all_goals first
    | (go_ret; refine QPost.done ?_ rfl hb0 hI; simp [lessQ, *]; done)
set_option maxHeartbeats 1000000 in
set_option maxRecDepth 20000 in
theorem backQ_ (B : Nat) (s : QS) (w : World) (hI : QInv B w s.gv s.got) : Calls Tryz.prog 109 #[.pointer (some ⟨B, 0, none⟩)] (put w B s.cells) (QPost B w eU (runQ backQ s)) := by
  have hi := hI.inb
  have hb0 := Below.refl w.heap.size w
  go_enter Tryz.func109, Tryz.ntmps109
  all_goals (try go_wp2_with (first | (go_at_call 196; refine (popQ_ B  _ _ (by assumption)).mono (QPost.thru hb0 (fun v s1 w1 hq hb0 hI hi => ?_)))))
  all_goals first
    | (refine bodyPost_end (results_none rfl _ _ _) rfl (QPost.done (v := ()) ?_ rfl hb0 hI); simp [backQ, *]; done)
    | (refine bodyPost_ret (results_none rfl _ _ _) rfl (QPost.done (v := ()) ?_ rfl hb0 hI); simp [backQ, QC.hl', *]; done)
set_option maxRecDepth 20000 in
theorem hlQ_ (B : Nat) (s : QS) (w : World) (hI : QInv B w s.gv s.got) : Calls Tryz.prog 57 #[.pointer (some ⟨B, 0, none⟩)] (put w B s.cells) fun e w' => e = .returned (.int .u16 (getP s.r s.plane 2).v) ∧ Below (put w B s.cells).heap.size (put w B s.cells) w' := by
  have hi := hI.inb
  have hb0 := Below.refl w.heap.size w
  go_enter Tryz.func57, Tryz.ntmps57
  all_goals (try go_wp2)
  all_goals (try (
      refine still_tail 8 (by kernel_rfl) (by decide +kernel) ?_
      simp only [List.take_succ_cons, List.take_zero, List.drop_succ_cons, List.drop_zero, put_drew]
      replace hb0 := bt hb0 (Below.refl _ _).drew
      replace hI := QInv.drew hI
      replace hi := QInv.inb hI
      repeat (first | still_step)
      refine wpStill_nil ?_))
  go_wp2_with (go_at_call 104; refine (r11pair_ _ _ _ _).mono ?_; rintro e w1 ⟨rfl, hb⟩)
  go_ret
  exact ⟨rfl, bt (by rw [← put_drew]; exact (Below.refl _ _).drew) hb⟩
def thqB (s : QC) : Bool := nearS s.plane s.code
set_option maxRecDepth 20000 in
theorem throughQ_ (B : Nat) (s : QS) (w : World) (hI : QInv B w s.gv s.got) : Calls Tryz.prog 188 #[.pointer (some ⟨B, 0, none⟩)] (put w B s.cells) fun e w' => e = .returned (.int .i64 (thq s.toQC)) ∧ Below (put w B s.cells).heap.size (put w B s.cells) w' := by
  have hi := hI.inb
  rcases (Bool.eq_false_or_eq_true (nearS s.plane s.code)).symm with hq | hq
  all_goals
    have hq' := Lib.hid hq
    clear hq
    unfold thq
    rw [hq'.out]
    go_enter Tryz.func188, Tryz.ntmps188
    go_wp2_with fail
    refine still_tail 8 (by kernel_rfl) (by decide +kernel) ?_
    simp only [List.take_succ_cons, List.take_zero, List.drop_succ_cons, List.drop_zero, put_drew]
    replace hi := QInv.inb (QInv.drew hI)
    repeat still_step
    refine wpStill_nil ?_
    go_wp2_with (go_at_call 34; refine (p8Near_ _ _ _).mono ?_; rw [hq'.out]; rintro e w1 ⟨rfl, rfl⟩)
    go_ret
    exact ⟨rfl, by rw [← put_drew]; exact (Below.refl _ _).drew⟩
set_option maxHeartbeats 1000000 in
set_option maxRecDepth 20000 in
theorem setHlQ_ (B : Nat) (x : U16) (s : QS) (w : World) (hI : QInv B w s.gv s.got) : Calls Tryz.prog 202 #[.pointer (some ⟨B, 0, none⟩), .int .u16 x.v] (put w B s.cells) (QPost B w eU (runQ (setHlQ x) s)) := by
  have hi := hI.inb
  have hb0 := Below.refl w.heap.size w
  go_enter Tryz.func202, Tryz.ntmps202
  all_goals (try go_wp2)
  all_goals (try (
        replace hb0 := bt hb0 (Below.refl _ _).drew
        replace hI := QInv.drew hI
        replace hi := QInv.inb hI
        go_region_with (first | (go_at_call 194; refine (r11setpair_ _ _ _ _ _).mono ?_; rintro e w1 ⟨rfl, hb⟩; obtain ⟨w2, rfl, hb2⟩ := unput hi hb; replace hb0 := bt hb0 hb2; replace hI := hI.kept hb2; have hi := hI.inb))))
  all_goals (try go_wp2)
  all_goals first
    | (refine bodyPost_end (results_none rfl _ _ _) rfl (QPost.done (v := ()) ?_ rfl hb0 hI); simp [setHlQ, *]; done)
    | (refine bodyPost_ret (results_none rfl _ _ _) rfl (QPost.done (v := ()) ?_ rfl hb0 hI); simp [setHlQ, QC.hl', *]; done)
set_option maxHeartbeats 1000000 in
set_option maxRecDepth 20000 in
theorem whereQ_ (B : Nat) (s : QS) (w : World) (hI : QInv B w s.gv s.got) : Calls Tryz.prog 186 #[.pointer (some ⟨B, 0, none⟩)] (put w B s.cells) (QPost B w e16 (runQ whereQ s)) := by
  have hi := hI.inb
  have hb0 := Below.refl w.heap.size w
  rcases (show (s.known = true) ∨ (s.known = false ∧ s.plane = 3) ∨ (s.known = false ∧ s.plane = 4) ∨ (s.known = false ∧ ¬ s.plane = 3 ∧ ¬ s.plane = 4 ∧ (s.plane == 3) = false ∧ (s.plane == 4) = false) by simp only [beq_eq_false_iff_ne]; cases s.known <;> simp <;> omega) with hk | ⟨hk, hp⟩ | ⟨hk, hp⟩ | ⟨hk, hp, hp2, b3, b4⟩
  all_goals
    go_enter Tryz.func186, Tryz.ntmps186
    all_goals (try go_wp2_with (first | (go_at_call 55; refine (numberQ_ B  _ _ (by assumption)).mono (QPost.thru hb0 (fun v s1 w1 hq hb0 hI hi => ?_))) | (go_at_call 58; refine (statesQ_ B _ _ _ (by assumption)).mono (QPost.thru hb0 (fun v s1 w1 hq hb0 hI hi => ?_))) | (go_at_call 57; refine (hlQ_ B _ _ (by assumption)).mono ?_; rintro e w1 ⟨rfl, hb⟩; obtain ⟨w2, rfl, hb2⟩ := unput hi hb; replace hb0 := bt hb0 hb2; replace hI := hI.kept hb2; have hi := hI.inb) | (go_at_call 56; refine (pNear_ _ _ _).mono ?_; rintro e w1 ⟨rfl, rfl⟩)))
    all_goals first
      | (go_ret; refine QPost.done ?_ rfl hb0 hI; simp [whereQ, QC.hl', *]; done)
set_option maxHeartbeats 6000000 in
set_option maxRecDepth 20000 in
theorem get_0Q_ (B : Nat) (k : Int) (s : QS) (w : World) (hI : QInv B w s.gv s.got) (hk : k = 6) : Calls Tryz.prog 102 #[.pointer (some ⟨B, 0, none⟩), .int .i64 k] (put w B s.cells) (QPost B w e8 (runQ (getQ k) s)) := by
  have hi := hI.inb
  have hb0 := Below.refl w.heap.size w
  go_enter Tryz.func102, Tryz.ntmps102
  all_goals (try go_wp2_with (first | (go_at_call 186; refine (whereQ_ B  _ _ (by assumption)).mono (QPost.thru hb0 (fun v s1 w1 hq hb0 hI hi => ?_))) | (go_at_call 114; refine (readQ_ B _ _ _ (by assumption)).mono (QPost.thru hb0 (fun v s1 w1 hq hb0 hI hi => ?_)))))
  all_goals first
    | (go_ret; refine QPost.done ?_ rfl hb0 hI; simp [getQ, *]; done)
set_option maxHeartbeats 6000000 in
set_option maxRecDepth 20000 in
theorem get_1Q_ (B : Nat) (k : Int) (s : QS) (w : World) (hI : QInv B w s.gv s.got) (hk : ¬ k = 6) : Calls Tryz.prog 102 #[.pointer (some ⟨B, 0, none⟩), .int .i64 k] (put w B s.cells) (QPost B w e8 (runQ (getQ k) s)) := by
  have hi := hI.inb
  have hb0 := Below.refl w.heap.size w
  go_enter Tryz.func102, Tryz.ntmps102
  all_goals (try go_wp2)
  all_goals (try (
        replace hb0 := bt hb0 (Below.refl _ _).drew
        replace hI := QInv.drew hI
        replace hi := QInv.inb hI
        go_region_with (first | (go_at_call 188; refine (throughQ_ B _ _ (by assumption)).mono ?_; rintro e w1 ⟨rfl, hb⟩; obtain ⟨w2, rfl, hb2⟩ := unput hi hb; replace hb0 := bt hb0 hb2; replace hI := hI.kept hb2; have hi := hI.inb) | (go_at_call 189; refine (r11get_ _ _ _ _).mono ?_; rintro e w1 ⟨rfl, hb⟩; obtain ⟨w2, rfl, hb2⟩ := unput hi hb; replace hb0 := bt hb0 hb2; replace hI := hI.kept hb2; have hi := hI.inb))))
  all_goals (try go_wp2)
  all_goals first
    | (go_ret; refine QPost.done ?_ rfl hb0 hI; simp [getQ, *]; done)
theorem getQ_ (B : Nat) (k : Int) (s : QS) (w : World) (hI : QInv B w s.gv s.got) : Calls Tryz.prog 102 #[.pointer (some ⟨B, 0, none⟩), .int .i64 k] (put w B s.cells) (QPost B w e8 (runQ (getQ k) s)) := by
  rcases (show (k = 6) ∨ (¬ k = 6) by omega) with hk | hk
  · exact get_0Q_ B k s w hI hk
  · exact get_1Q_ B k s w hI hk
set_option maxHeartbeats 6000000 in
set_option maxRecDepth 20000 in
theorem set_0Q_ (B : Nat) (k : Int) (b : U8) (s : QS) (w : World) (hI : QInv B w s.gv s.got) (hk : k = 6) : Calls Tryz.prog 101 #[.pointer (some ⟨B, 0, none⟩), .int .i64 k, .int .u8 b.v] (put w B s.cells) (QPost B w eU (runQ (setQ k b) s)) := by
  have hi := hI.inb
  have hb0 := Below.refl w.heap.size w
  go_enter Tryz.func101, Tryz.ntmps101
  all_goals (try go_wp2_with (first | (go_at_call 186; refine (whereQ_ B  _ _ (by assumption)).mono (QPost.thru hb0 (fun v s1 w1 hq hb0 hI hi => ?_))) | (go_at_call 172; refine (writeQ_ B _ _ _ _ (by assumption)).mono (QPost.thru hb0 (fun v s1 w1 hq hb0 hI hi => ?_)))))
  all_goals first
    | (refine bodyPost_end (results_none rfl _ _ _) rfl (QPost.done (v := ()) ?_ rfl hb0 hI); simp [setQ, *]; done)
    | (refine bodyPost_ret (results_none rfl _ _ _) rfl (QPost.done (v := ()) ?_ rfl hb0 hI); simp [setQ, QC.hl', *]; done)
set_option maxHeartbeats 6000000 in
set_option maxRecDepth 20000 in
theorem set_1Q_ (B : Nat) (k : Int) (b : U8) (s : QS) (w : World) (hI : QInv B w s.gv s.got) (hk : ¬ k = 6) : Calls Tryz.prog 101 #[.pointer (some ⟨B, 0, none⟩), .int .i64 k, .int .u8 b.v] (put w B s.cells) (QPost B w eU (runQ (setQ k b) s)) := by
  have hi := hI.inb
  have hb0 := Below.refl w.heap.size w
  go_enter Tryz.func101, Tryz.ntmps101
  all_goals (try go_wp2)
  all_goals (try (
        replace hb0 := bt hb0 (Below.refl _ _).drew
        replace hI := QInv.drew hI
        replace hi := QInv.inb hI
        go_region_with (first | (go_at_call 188; refine (throughQ_ B _ _ (by assumption)).mono ?_; rintro e w1 ⟨rfl, hb⟩; obtain ⟨w2, rfl, hb2⟩ := unput hi hb; replace hb0 := bt hb0 hb2; replace hI := hI.kept hb2; have hi := hI.inb) | (go_at_call 187; refine (r11set_ _ _ _ _ _).mono ?_; rintro e w1 ⟨rfl, hb⟩; obtain ⟨w2, rfl, hb2⟩ := unput hi hb; replace hb0 := bt hb0 hb2; replace hI := hI.kept hb2; have hi := hI.inb))))
  all_goals (try go_wp2)
  all_goals first
    | (refine bodyPost_end (results_none rfl _ _ _) rfl (QPost.done (v := ()) ?_ rfl hb0 hI); simp [setQ, *]; done)
    | (refine bodyPost_ret (results_none rfl _ _ _) rfl (QPost.done (v := ()) ?_ rfl hb0 hI); simp [setQ, QC.hl', *]; done)
theorem setQ_ (B : Nat) (k : Int) (b : U8) (s : QS) (w : World) (hI : QInv B w s.gv s.got) : Calls Tryz.prog 101 #[.pointer (some ⟨B, 0, none⟩), .int .i64 k, .int .u8 b.v] (put w B s.cells) (QPost B w eU (runQ (setQ k b) s)) := by
  rcases (show (k = 6) ∨ (¬ k = 6) by omega) with hk | hk
  · exact set_0Q_ B k b s w hI hk
  · exact set_1Q_ B k b s w hI hk
set_option maxHeartbeats 1000000 in
set_option maxRecDepth 20000 in
theorem hopQ_ (B : Nat) (is : Bool) (s : QS) (w : World) (hI : QInv B w s.gv s.got) : Calls Tryz.prog 250 #[.pointer (some ⟨B, 0, none⟩), .bool is] (put w B s.cells) (QPost B w eU (runQ (hopQ is) s)) := by
  have hi := hI.inb
  have hb0 := Below.refl w.heap.size w
  cases is
  all_goals
    go_enter Tryz.func250, Tryz.ntmps250
    all_goals (try go_wp2_with (first | (go_at_call 55; refine (numberQ_ B  _ _ (by assumption)).mono (QPost.thru hb0 (fun v s1 w1 hq hb0 hI hi => ?_))) | (go_at_call 58; refine (statesQ_ B _ _ _ (by assumption)).mono (QPost.thru hb0 (fun v s1 w1 hq hb0 hI hi => ?_))) | (go_at_call 56; refine (pNear_ _ _ _).mono ?_; rintro e w1 ⟨rfl, rfl⟩)))
    all_goals first
      | (refine bodyPost_end (results_none rfl _ _ _) rfl (QPost.done (v := ()) ?_ rfl hb0 hI); simp [hopQ, *]; done)
      | (refine bodyPost_ret (results_none rfl _ _ _) rfl (QPost.done (v := ()) ?_ rfl hb0 hI); simp [hopQ, QC.hl', *]; done)
end Go.Proofs.YtnaampdpkegacaaGreatDoor
