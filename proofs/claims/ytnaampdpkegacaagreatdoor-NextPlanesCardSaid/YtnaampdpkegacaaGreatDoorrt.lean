/-
  Contract of the reference 12's bit. A helper of the claims that stand beside it. (Printed by wip/genrs.py.)
-/
import Derived.Test.YtnaampdpkegacaaGreatDoorrn
namespace Go.Proofs.YtnaampdpkegacaaGreatDoor
open Go.RowKit

set_option maxHeartbeats 6000000 in
set_option maxRecDepth 20000 in
theorem bit_0Q_ (B : Nat) (far : Bool) (c : U8) (s : QS) (w : World) (hI : QInv B w s.gv s.got) (hf : far = true) (hz : fz c = 6) (hx : fx c = 0) : Calls Tryz.prog 54 #[.pointer (some ⟨B, 0, none⟩), .bool far, .int .u8 c.v] (put w B s.cells) (QPost B w eU (runQ (bitQ far c) s)) := by
  have hi := hI.inb
  have hb0 := Below.refl w.heap.size w
  have y0 : 0 ≤ fy c := by unfold fy; omega
  have y1 : fy c ≤ 7 := by unfold fy; omega
  have z0 : 0 ≤ fz c := by unfold fz; omega
  have z1 : fz c ≤ 7 := by unfold fz; omega
  have hne := hi.ne
  subst hf
  go_enter Tryz.func54, Tryz.ntmps54
  all_goals (try go_wp2_with (first | (go_at_call 36; refine (p8Fields_ _ _).mono ?_; rintro e w1 ⟨rfl, rfl⟩) | (go_at_call 102; refine (getQ_ B _ _ _ (by assumption)).mono (QPost.thru hb0 (fun v s1 w1 hq hb0 hI hi => ?_))) | (go_at_call 58; refine (statesQ_ B _ _ _ (by assumption)).mono (QPost.thru hb0 (fun v s1 w1 hq hb0 hI hi => ?_))) | (go_at_call 111; refine (pHi_ _ _).mono ?_; rintro e w1 ⟨rfl, rfl⟩) | (go_at_call 105; refine (fQ_ B _ _ (by assumption)).mono ?_; rintro e w1 ⟨rfl, rfl⟩) | (go_at_call 112; refine (pDo_ _ _ _ (by omega) (by omega) _).mono ?_; rintro e w1 ⟨rfl, hb⟩; obtain ⟨w2, rfl, hb2⟩ := unput hi hb; replace hb0 := bt hb0 hb2; replace hI := hI.kept hb2; have hi := hI.inb) | (go_at_call 97; refine (aQ_ B _ _ (by assumption)).mono ?_; rintro e w1 ⟨rfl, rfl⟩) | (go_at_call 96; refine (putQ_ B _ _ _ _ (by assumption)).mono (QPost.thru hb0 (fun v s1 w1 hq hb0 hI hi => ?_))) | (go_at_call 113; refine (pBit_ _ _ _ _ _).mono ?_; rintro e w1 ⟨rfl, hb⟩; obtain ⟨w2, rfl, hb2⟩ := unput hi hb; replace hb0 := bt hb0 hb2; replace hI := hI.kept hb2; have hi := hI.inb) | (go_at_call 98; refine (pWith_ _ _ _ _).mono ?_; rintro e w1 ⟨rfl, rfl⟩) | (go_at_call 101; refine (setQ_ B _ _ _ _ (by assumption)).mono (QPost.thru hb0 (fun v s1 w1 hq hb0 hI hi => ?_)))))
  all_goals first
    | (refine bodyPost_end (results_none rfl _ _ _) rfl (QPost.done (v := ()) ?_ rfl hb0 hI); simp [bitQ, *]; done)
    | (refine bodyPost_ret (results_none rfl _ _ _) rfl (QPost.done (v := ()) ?_ rfl hb0 hI); simp [bitQ, QC.hl', *]; done)
set_option maxHeartbeats 6000000 in
set_option maxRecDepth 20000 in
theorem bit_1Q_ (B : Nat) (far : Bool) (c : U8) (s : QS) (w : World) (hI : QInv B w s.gv s.got) (hf : far = true) (hz : fz c = 6) (hx : fx c = 1) : Calls Tryz.prog 54 #[.pointer (some ⟨B, 0, none⟩), .bool far, .int .u8 c.v] (put w B s.cells) (QPost B w eU (runQ (bitQ far c) s)) := by
  have hi := hI.inb
  have hb0 := Below.refl w.heap.size w
  have y0 : 0 ≤ fy c := by unfold fy; omega
  have y1 : fy c ≤ 7 := by unfold fy; omega
  have z0 : 0 ≤ fz c := by unfold fz; omega
  have z1 : fz c ≤ 7 := by unfold fz; omega
  have hne := hi.ne
  subst hf
  go_enter Tryz.func54, Tryz.ntmps54
  all_goals (try go_wp2_with (first | (go_at_call 36; refine (p8Fields_ _ _).mono ?_; rintro e w1 ⟨rfl, rfl⟩) | (go_at_call 102; refine (getQ_ B _ _ _ (by assumption)).mono (QPost.thru hb0 (fun v s1 w1 hq hb0 hI hi => ?_))) | (go_at_call 58; refine (statesQ_ B _ _ _ (by assumption)).mono (QPost.thru hb0 (fun v s1 w1 hq hb0 hI hi => ?_))) | (go_at_call 111; refine (pHi_ _ _).mono ?_; rintro e w1 ⟨rfl, rfl⟩) | (go_at_call 105; refine (fQ_ B _ _ (by assumption)).mono ?_; rintro e w1 ⟨rfl, rfl⟩) | (go_at_call 112; refine (pDo_ _ _ _ (by omega) (by omega) _).mono ?_; rintro e w1 ⟨rfl, hb⟩; obtain ⟨w2, rfl, hb2⟩ := unput hi hb; replace hb0 := bt hb0 hb2; replace hI := hI.kept hb2; have hi := hI.inb) | (go_at_call 97; refine (aQ_ B _ _ (by assumption)).mono ?_; rintro e w1 ⟨rfl, rfl⟩) | (go_at_call 96; refine (putQ_ B _ _ _ _ (by assumption)).mono (QPost.thru hb0 (fun v s1 w1 hq hb0 hI hi => ?_))) | (go_at_call 113; refine (pBit_ _ _ _ _ _).mono ?_; rintro e w1 ⟨rfl, hb⟩; obtain ⟨w2, rfl, hb2⟩ := unput hi hb; replace hb0 := bt hb0 hb2; replace hI := hI.kept hb2; have hi := hI.inb) | (go_at_call 98; refine (pWith_ _ _ _ _).mono ?_; rintro e w1 ⟨rfl, rfl⟩) | (go_at_call 101; refine (setQ_ B _ _ _ _ (by assumption)).mono (QPost.thru hb0 (fun v s1 w1 hq hb0 hI hi => ?_)))))
  all_goals first
    | (refine bodyPost_end (results_none rfl _ _ _) rfl (QPost.done (v := ()) ?_ rfl hb0 hI); simp [bitQ, *]; done)
    | (refine bodyPost_ret (results_none rfl _ _ _) rfl (QPost.done (v := ()) ?_ rfl hb0 hI); simp [bitQ, QC.hl', *]; done)
set_option maxHeartbeats 6000000 in
set_option maxRecDepth 20000 in
theorem bit_2Q_ (B : Nat) (far : Bool) (c : U8) (s : QS) (w : World) (hI : QInv B w s.gv s.got) (hf : far = true) (hz : fz c = 6) (hx : fx c = 2) : Calls Tryz.prog 54 #[.pointer (some ⟨B, 0, none⟩), .bool far, .int .u8 c.v] (put w B s.cells) (QPost B w eU (runQ (bitQ far c) s)) := by
  have hi := hI.inb
  have hb0 := Below.refl w.heap.size w
  have y0 : 0 ≤ fy c := by unfold fy; omega
  have y1 : fy c ≤ 7 := by unfold fy; omega
  have z0 : 0 ≤ fz c := by unfold fz; omega
  have z1 : fz c ≤ 7 := by unfold fz; omega
  have hne := hi.ne
  subst hf
  go_enter Tryz.func54, Tryz.ntmps54
  all_goals (try go_wp2_with (first | (go_at_call 36; refine (p8Fields_ _ _).mono ?_; rintro e w1 ⟨rfl, rfl⟩) | (go_at_call 102; refine (getQ_ B _ _ _ (by assumption)).mono (QPost.thru hb0 (fun v s1 w1 hq hb0 hI hi => ?_))) | (go_at_call 58; refine (statesQ_ B _ _ _ (by assumption)).mono (QPost.thru hb0 (fun v s1 w1 hq hb0 hI hi => ?_))) | (go_at_call 111; refine (pHi_ _ _).mono ?_; rintro e w1 ⟨rfl, rfl⟩) | (go_at_call 105; refine (fQ_ B _ _ (by assumption)).mono ?_; rintro e w1 ⟨rfl, rfl⟩) | (go_at_call 112; refine (pDo_ _ _ _ (by omega) (by omega) _).mono ?_; rintro e w1 ⟨rfl, hb⟩; obtain ⟨w2, rfl, hb2⟩ := unput hi hb; replace hb0 := bt hb0 hb2; replace hI := hI.kept hb2; have hi := hI.inb) | (go_at_call 97; refine (aQ_ B _ _ (by assumption)).mono ?_; rintro e w1 ⟨rfl, rfl⟩) | (go_at_call 96; refine (putQ_ B _ _ _ _ (by assumption)).mono (QPost.thru hb0 (fun v s1 w1 hq hb0 hI hi => ?_))) | (go_at_call 113; refine (pBit_ _ _ _ _ _).mono ?_; rintro e w1 ⟨rfl, hb⟩; obtain ⟨w2, rfl, hb2⟩ := unput hi hb; replace hb0 := bt hb0 hb2; replace hI := hI.kept hb2; have hi := hI.inb) | (go_at_call 98; refine (pWith_ _ _ _ _).mono ?_; rintro e w1 ⟨rfl, rfl⟩) | (go_at_call 101; refine (setQ_ B _ _ _ _ (by assumption)).mono (QPost.thru hb0 (fun v s1 w1 hq hb0 hI hi => ?_)))))
  all_goals first
    | (refine bodyPost_end (results_none rfl _ _ _) rfl (QPost.done (v := ()) ?_ rfl hb0 hI); simp [bitQ, *]; done)
    | (refine bodyPost_ret (results_none rfl _ _ _) rfl (QPost.done (v := ()) ?_ rfl hb0 hI); simp [bitQ, QC.hl', *]; done)
set_option maxHeartbeats 6000000 in
set_option maxRecDepth 20000 in
theorem bit_3Q_ (B : Nat) (far : Bool) (c : U8) (s : QS) (w : World) (hI : QInv B w s.gv s.got) (hf : far = true) (hz : fz c = 6) (h0 : ¬ fx c = 0) (h1 : ¬ fx c = 1) (h2 : ¬ fx c = 2) : Calls Tryz.prog 54 #[.pointer (some ⟨B, 0, none⟩), .bool far, .int .u8 c.v] (put w B s.cells) (QPost B w eU (runQ (bitQ far c) s)) := by
  have hi := hI.inb
  have hb0 := Below.refl w.heap.size w
  have y0 : 0 ≤ fy c := by unfold fy; omega
  have y1 : fy c ≤ 7 := by unfold fy; omega
  have z0 : 0 ≤ fz c := by unfold fz; omega
  have z1 : fz c ≤ 7 := by unfold fz; omega
  have hne := hi.ne
  subst hf
  have b2 : (fx c != 2) = true := by simpa using h2
  go_enter Tryz.func54, Tryz.ntmps54
  all_goals (try go_wp2_with (first | (go_at_call 36; refine (p8Fields_ _ _).mono ?_; rintro e w1 ⟨rfl, rfl⟩) | (go_at_call 102; refine (getQ_ B _ _ _ (by assumption)).mono (QPost.thru hb0 (fun v s1 w1 hq hb0 hI hi => ?_))) | (go_at_call 58; refine (statesQ_ B _ _ _ (by assumption)).mono (QPost.thru hb0 (fun v s1 w1 hq hb0 hI hi => ?_))) | (go_at_call 111; refine (pHi_ _ _).mono ?_; rintro e w1 ⟨rfl, rfl⟩) | (go_at_call 105; refine (fQ_ B _ _ (by assumption)).mono ?_; rintro e w1 ⟨rfl, rfl⟩) | (go_at_call 112; refine (pDo_ _ _ _ (by omega) (by omega) _).mono ?_; rintro e w1 ⟨rfl, hb⟩; obtain ⟨w2, rfl, hb2⟩ := unput hi hb; replace hb0 := bt hb0 hb2; replace hI := hI.kept hb2; have hi := hI.inb) | (go_at_call 97; refine (aQ_ B _ _ (by assumption)).mono ?_; rintro e w1 ⟨rfl, rfl⟩) | (go_at_call 96; refine (putQ_ B _ _ _ _ (by assumption)).mono (QPost.thru hb0 (fun v s1 w1 hq hb0 hI hi => ?_))) | (go_at_call 113; refine (pBit_ _ _ _ _ _).mono ?_; rintro e w1 ⟨rfl, hb⟩; obtain ⟨w2, rfl, hb2⟩ := unput hi hb; replace hb0 := bt hb0 hb2; replace hI := hI.kept hb2; have hi := hI.inb) | (go_at_call 98; refine (pWith_ _ _ _ _).mono ?_; rintro e w1 ⟨rfl, rfl⟩) | (go_at_call 101; refine (setQ_ B _ _ _ _ (by assumption)).mono (QPost.thru hb0 (fun v s1 w1 hq hb0 hI hi => ?_)))))
  all_goals first
    | (refine bodyPost_end (results_none rfl _ _ _) rfl (QPost.done (v := ()) ?_ rfl hb0 hI); simp [bitQ, *]; done)
    | (refine bodyPost_ret (results_none rfl _ _ _) rfl (QPost.done (v := ()) ?_ rfl hb0 hI); simp [bitQ, QC.hl', *]; done)
set_option maxHeartbeats 6000000 in
set_option maxRecDepth 20000 in
theorem bit_4Q_ (B : Nat) (far : Bool) (c : U8) (s : QS) (w : World) (hI : QInv B w s.gv s.got) (hf : far = true) (hz : ¬ fz c = 6) (hx : fx c = 0) : Calls Tryz.prog 54 #[.pointer (some ⟨B, 0, none⟩), .bool far, .int .u8 c.v] (put w B s.cells) (QPost B w eU (runQ (bitQ far c) s)) := by
  have hi := hI.inb
  have hb0 := Below.refl w.heap.size w
  have y0 : 0 ≤ fy c := by unfold fy; omega
  have y1 : fy c ≤ 7 := by unfold fy; omega
  have z0 : 0 ≤ fz c := by unfold fz; omega
  have z1 : fz c ≤ 7 := by unfold fz; omega
  have hne := hi.ne
  subst hf
  go_enter Tryz.func54, Tryz.ntmps54
  all_goals (try go_wp2_with (first | (go_at_call 36; refine (p8Fields_ _ _).mono ?_; rintro e w1 ⟨rfl, rfl⟩) | (go_at_call 102; refine (getQ_ B _ _ _ (by assumption)).mono (QPost.thru hb0 (fun v s1 w1 hq hb0 hI hi => ?_))) | (go_at_call 58; refine (statesQ_ B _ _ _ (by assumption)).mono (QPost.thru hb0 (fun v s1 w1 hq hb0 hI hi => ?_))) | (go_at_call 111; refine (pHi_ _ _).mono ?_; rintro e w1 ⟨rfl, rfl⟩) | (go_at_call 105; refine (fQ_ B _ _ (by assumption)).mono ?_; rintro e w1 ⟨rfl, rfl⟩) | (go_at_call 112; refine (pDo_ _ _ _ (by omega) (by omega) _).mono ?_; rintro e w1 ⟨rfl, hb⟩; obtain ⟨w2, rfl, hb2⟩ := unput hi hb; replace hb0 := bt hb0 hb2; replace hI := hI.kept hb2; have hi := hI.inb) | (go_at_call 97; refine (aQ_ B _ _ (by assumption)).mono ?_; rintro e w1 ⟨rfl, rfl⟩) | (go_at_call 96; refine (putQ_ B _ _ _ _ (by assumption)).mono (QPost.thru hb0 (fun v s1 w1 hq hb0 hI hi => ?_))) | (go_at_call 113; refine (pBit_ _ _ _ _ _).mono ?_; rintro e w1 ⟨rfl, hb⟩; obtain ⟨w2, rfl, hb2⟩ := unput hi hb; replace hb0 := bt hb0 hb2; replace hI := hI.kept hb2; have hi := hI.inb) | (go_at_call 98; refine (pWith_ _ _ _ _).mono ?_; rintro e w1 ⟨rfl, rfl⟩) | (go_at_call 101; refine (setQ_ B _ _ _ _ (by assumption)).mono (QPost.thru hb0 (fun v s1 w1 hq hb0 hI hi => ?_)))))
  all_goals first
    | (refine bodyPost_end (results_none rfl _ _ _) rfl (QPost.done (v := ()) ?_ rfl hb0 hI); simp [bitQ, *]; done)
    | (refine bodyPost_ret (results_none rfl _ _ _) rfl (QPost.done (v := ()) ?_ rfl hb0 hI); simp [bitQ, QC.hl', *]; done)
set_option maxHeartbeats 6000000 in
set_option maxRecDepth 20000 in
theorem bit_5Q_ (B : Nat) (far : Bool) (c : U8) (s : QS) (w : World) (hI : QInv B w s.gv s.got) (hf : far = true) (_hz : ¬ fz c = 6) (hx : fx c = 1) : Calls Tryz.prog 54 #[.pointer (some ⟨B, 0, none⟩), .bool far, .int .u8 c.v] (put w B s.cells) (QPost B w eU (runQ (bitQ far c) s)) := by
  have hi := hI.inb
  have hb0 := Below.refl w.heap.size w
  have y0 : 0 ≤ fy c := by unfold fy; omega
  have y1 : fy c ≤ 7 := by unfold fy; omega
  have z0 : 0 ≤ fz c := by unfold fz; omega
  have z1 : fz c ≤ 7 := by unfold fz; omega
  have hne := hi.ne
  subst hf
  go_enter Tryz.func54, Tryz.ntmps54
  all_goals (try go_wp2_with (first | (go_at_call 36; refine (p8Fields_ _ _).mono ?_; rintro e w1 ⟨rfl, rfl⟩) | (go_at_call 102; refine (getQ_ B _ _ _ (by assumption)).mono (QPost.thru hb0 (fun v s1 w1 hq hb0 hI hi => ?_))) | (go_at_call 58; refine (statesQ_ B _ _ _ (by assumption)).mono (QPost.thru hb0 (fun v s1 w1 hq hb0 hI hi => ?_))) | (go_at_call 111; refine (pHi_ _ _).mono ?_; rintro e w1 ⟨rfl, rfl⟩) | (go_at_call 105; refine (fQ_ B _ _ (by assumption)).mono ?_; rintro e w1 ⟨rfl, rfl⟩) | (go_at_call 112; refine (pDo_ _ _ _ (by omega) (by omega) _).mono ?_; rintro e w1 ⟨rfl, hb⟩; obtain ⟨w2, rfl, hb2⟩ := unput hi hb; replace hb0 := bt hb0 hb2; replace hI := hI.kept hb2; have hi := hI.inb) | (go_at_call 97; refine (aQ_ B _ _ (by assumption)).mono ?_; rintro e w1 ⟨rfl, rfl⟩) | (go_at_call 96; refine (putQ_ B _ _ _ _ (by assumption)).mono (QPost.thru hb0 (fun v s1 w1 hq hb0 hI hi => ?_))) | (go_at_call 113; refine (pBit_ _ _ _ _ _).mono ?_; rintro e w1 ⟨rfl, hb⟩; obtain ⟨w2, rfl, hb2⟩ := unput hi hb; replace hb0 := bt hb0 hb2; replace hI := hI.kept hb2; have hi := hI.inb) | (go_at_call 98; refine (pWith_ _ _ _ _).mono ?_; rintro e w1 ⟨rfl, rfl⟩) | (go_at_call 101; refine (setQ_ B _ _ _ _ (by assumption)).mono (QPost.thru hb0 (fun v s1 w1 hq hb0 hI hi => ?_)))))
  all_goals first
    | (refine bodyPost_end (results_none rfl _ _ _) rfl (QPost.done (v := ()) ?_ rfl hb0 hI); simp [bitQ, *]; done)
    | (refine bodyPost_ret (results_none rfl _ _ _) rfl (QPost.done (v := ()) ?_ rfl hb0 hI); simp [bitQ, QC.hl', *]; done)
set_option maxHeartbeats 6000000 in
set_option maxRecDepth 20000 in
theorem bit_6Q_ (B : Nat) (far : Bool) (c : U8) (s : QS) (w : World) (hI : QInv B w s.gv s.got) (hf : far = true) (hz : ¬ fz c = 6) (hx : fx c = 2) : Calls Tryz.prog 54 #[.pointer (some ⟨B, 0, none⟩), .bool far, .int .u8 c.v] (put w B s.cells) (QPost B w eU (runQ (bitQ far c) s)) := by
  have hi := hI.inb
  have hb0 := Below.refl w.heap.size w
  have y0 : 0 ≤ fy c := by unfold fy; omega
  have y1 : fy c ≤ 7 := by unfold fy; omega
  have z0 : 0 ≤ fz c := by unfold fz; omega
  have z1 : fz c ≤ 7 := by unfold fz; omega
  have hne := hi.ne
  subst hf
  go_enter Tryz.func54, Tryz.ntmps54
  all_goals (try go_wp2_with (first | (go_at_call 36; refine (p8Fields_ _ _).mono ?_; rintro e w1 ⟨rfl, rfl⟩) | (go_at_call 102; refine (getQ_ B _ _ _ (by assumption)).mono (QPost.thru hb0 (fun v s1 w1 hq hb0 hI hi => ?_))) | (go_at_call 58; refine (statesQ_ B _ _ _ (by assumption)).mono (QPost.thru hb0 (fun v s1 w1 hq hb0 hI hi => ?_))) | (go_at_call 111; refine (pHi_ _ _).mono ?_; rintro e w1 ⟨rfl, rfl⟩) | (go_at_call 105; refine (fQ_ B _ _ (by assumption)).mono ?_; rintro e w1 ⟨rfl, rfl⟩) | (go_at_call 112; refine (pDo_ _ _ _ (by omega) (by omega) _).mono ?_; rintro e w1 ⟨rfl, hb⟩; obtain ⟨w2, rfl, hb2⟩ := unput hi hb; replace hb0 := bt hb0 hb2; replace hI := hI.kept hb2; have hi := hI.inb) | (go_at_call 97; refine (aQ_ B _ _ (by assumption)).mono ?_; rintro e w1 ⟨rfl, rfl⟩) | (go_at_call 96; refine (putQ_ B _ _ _ _ (by assumption)).mono (QPost.thru hb0 (fun v s1 w1 hq hb0 hI hi => ?_))) | (go_at_call 113; refine (pBit_ _ _ _ _ _).mono ?_; rintro e w1 ⟨rfl, hb⟩; obtain ⟨w2, rfl, hb2⟩ := unput hi hb; replace hb0 := bt hb0 hb2; replace hI := hI.kept hb2; have hi := hI.inb) | (go_at_call 98; refine (pWith_ _ _ _ _).mono ?_; rintro e w1 ⟨rfl, rfl⟩) | (go_at_call 101; refine (setQ_ B _ _ _ _ (by assumption)).mono (QPost.thru hb0 (fun v s1 w1 hq hb0 hI hi => ?_)))))
  all_goals first
    | (refine bodyPost_end (results_none rfl _ _ _) rfl (QPost.done (v := ()) ?_ rfl hb0 hI); simp [bitQ, *]; done)
    | (refine bodyPost_ret (results_none rfl _ _ _) rfl (QPost.done (v := ()) ?_ rfl hb0 hI); simp [bitQ, QC.hl', *]; done)
set_option maxHeartbeats 6000000 in
set_option maxRecDepth 20000 in
theorem bit_7Q_ (B : Nat) (far : Bool) (c : U8) (s : QS) (w : World) (hI : QInv B w s.gv s.got) (hf : far = true) (hz : ¬ fz c = 6) (h0 : ¬ fx c = 0) (h1 : ¬ fx c = 1) (h2 : ¬ fx c = 2) : Calls Tryz.prog 54 #[.pointer (some ⟨B, 0, none⟩), .bool far, .int .u8 c.v] (put w B s.cells) (QPost B w eU (runQ (bitQ far c) s)) := by
  have hi := hI.inb
  have hb0 := Below.refl w.heap.size w
  have y0 : 0 ≤ fy c := by unfold fy; omega
  have y1 : fy c ≤ 7 := by unfold fy; omega
  have z0 : 0 ≤ fz c := by unfold fz; omega
  have z1 : fz c ≤ 7 := by unfold fz; omega
  have hne := hi.ne
  subst hf
  have b2 : (fx c != 2) = true := by simpa using h2
  go_enter Tryz.func54, Tryz.ntmps54
  all_goals (try go_wp2_with (first | (go_at_call 36; refine (p8Fields_ _ _).mono ?_; rintro e w1 ⟨rfl, rfl⟩) | (go_at_call 102; refine (getQ_ B _ _ _ (by assumption)).mono (QPost.thru hb0 (fun v s1 w1 hq hb0 hI hi => ?_))) | (go_at_call 58; refine (statesQ_ B _ _ _ (by assumption)).mono (QPost.thru hb0 (fun v s1 w1 hq hb0 hI hi => ?_))) | (go_at_call 111; refine (pHi_ _ _).mono ?_; rintro e w1 ⟨rfl, rfl⟩) | (go_at_call 105; refine (fQ_ B _ _ (by assumption)).mono ?_; rintro e w1 ⟨rfl, rfl⟩) | (go_at_call 112; refine (pDo_ _ _ _ (by omega) (by omega) _).mono ?_; rintro e w1 ⟨rfl, hb⟩; obtain ⟨w2, rfl, hb2⟩ := unput hi hb; replace hb0 := bt hb0 hb2; replace hI := hI.kept hb2; have hi := hI.inb) | (go_at_call 97; refine (aQ_ B _ _ (by assumption)).mono ?_; rintro e w1 ⟨rfl, rfl⟩) | (go_at_call 96; refine (putQ_ B _ _ _ _ (by assumption)).mono (QPost.thru hb0 (fun v s1 w1 hq hb0 hI hi => ?_))) | (go_at_call 113; refine (pBit_ _ _ _ _ _).mono ?_; rintro e w1 ⟨rfl, hb⟩; obtain ⟨w2, rfl, hb2⟩ := unput hi hb; replace hb0 := bt hb0 hb2; replace hI := hI.kept hb2; have hi := hI.inb) | (go_at_call 98; refine (pWith_ _ _ _ _).mono ?_; rintro e w1 ⟨rfl, rfl⟩) | (go_at_call 101; refine (setQ_ B _ _ _ _ (by assumption)).mono (QPost.thru hb0 (fun v s1 w1 hq hb0 hI hi => ?_)))))
  all_goals first
    | (refine bodyPost_end (results_none rfl _ _ _) rfl (QPost.done (v := ()) ?_ rfl hb0 hI); simp [bitQ, *]; done)
    | (refine bodyPost_ret (results_none rfl _ _ _) rfl (QPost.done (v := ()) ?_ rfl hb0 hI); simp [bitQ, QC.hl', *]; done)
set_option maxHeartbeats 6000000 in
set_option maxRecDepth 20000 in
theorem bit_8Q_ (B : Nat) (far : Bool) (c : U8) (s : QS) (w : World) (hI : QInv B w s.gv s.got) (hf : far = false) (hz : fz c = 6) (hx : fx c = 0) : Calls Tryz.prog 54 #[.pointer (some ⟨B, 0, none⟩), .bool far, .int .u8 c.v] (put w B s.cells) (QPost B w eU (runQ (bitQ far c) s)) := by
  have hi := hI.inb
  have hb0 := Below.refl w.heap.size w
  have y0 : 0 ≤ fy c := by unfold fy; omega
  have y1 : fy c ≤ 7 := by unfold fy; omega
  have z0 : 0 ≤ fz c := by unfold fz; omega
  have z1 : fz c ≤ 7 := by unfold fz; omega
  have hne := hi.ne
  subst hf
  go_enter Tryz.func54, Tryz.ntmps54
  all_goals (try go_wp2_with (first | (go_at_call 36; refine (p8Fields_ _ _).mono ?_; rintro e w1 ⟨rfl, rfl⟩) | (go_at_call 102; refine (getQ_ B _ _ _ (by assumption)).mono (QPost.thru hb0 (fun v s1 w1 hq hb0 hI hi => ?_))) | (go_at_call 58; refine (statesQ_ B _ _ _ (by assumption)).mono (QPost.thru hb0 (fun v s1 w1 hq hb0 hI hi => ?_))) | (go_at_call 111; refine (pHi_ _ _).mono ?_; rintro e w1 ⟨rfl, rfl⟩) | (go_at_call 105; refine (fQ_ B _ _ (by assumption)).mono ?_; rintro e w1 ⟨rfl, rfl⟩) | (go_at_call 112; refine (pDo_ _ _ _ (by omega) (by omega) _).mono ?_; rintro e w1 ⟨rfl, hb⟩; obtain ⟨w2, rfl, hb2⟩ := unput hi hb; replace hb0 := bt hb0 hb2; replace hI := hI.kept hb2; have hi := hI.inb) | (go_at_call 97; refine (aQ_ B _ _ (by assumption)).mono ?_; rintro e w1 ⟨rfl, rfl⟩) | (go_at_call 96; refine (putQ_ B _ _ _ _ (by assumption)).mono (QPost.thru hb0 (fun v s1 w1 hq hb0 hI hi => ?_))) | (go_at_call 113; refine (pBit_ _ _ _ _ _).mono ?_; rintro e w1 ⟨rfl, hb⟩; obtain ⟨w2, rfl, hb2⟩ := unput hi hb; replace hb0 := bt hb0 hb2; replace hI := hI.kept hb2; have hi := hI.inb) | (go_at_call 98; refine (pWith_ _ _ _ _).mono ?_; rintro e w1 ⟨rfl, rfl⟩) | (go_at_call 101; refine (setQ_ B _ _ _ _ (by assumption)).mono (QPost.thru hb0 (fun v s1 w1 hq hb0 hI hi => ?_)))))
  all_goals first
    | (refine bodyPost_end (results_none rfl _ _ _) rfl (QPost.done (v := ()) ?_ rfl hb0 hI); simp [bitQ, *]; done)
    | (refine bodyPost_ret (results_none rfl _ _ _) rfl (QPost.done (v := ()) ?_ rfl hb0 hI); simp [bitQ, QC.hl', *]; done)
set_option maxHeartbeats 6000000 in
set_option maxRecDepth 20000 in
theorem bit_9Q_ (B : Nat) (far : Bool) (c : U8) (s : QS) (w : World) (hI : QInv B w s.gv s.got) (hf : far = false) (hz : fz c = 6) (hx : fx c = 1) : Calls Tryz.prog 54 #[.pointer (some ⟨B, 0, none⟩), .bool far, .int .u8 c.v] (put w B s.cells) (QPost B w eU (runQ (bitQ far c) s)) := by
  have hi := hI.inb
  have hb0 := Below.refl w.heap.size w
  have y0 : 0 ≤ fy c := by unfold fy; omega
  have y1 : fy c ≤ 7 := by unfold fy; omega
  have z0 : 0 ≤ fz c := by unfold fz; omega
  have z1 : fz c ≤ 7 := by unfold fz; omega
  have hne := hi.ne
  subst hf
  go_enter Tryz.func54, Tryz.ntmps54
  all_goals (try go_wp2_with (first | (go_at_call 36; refine (p8Fields_ _ _).mono ?_; rintro e w1 ⟨rfl, rfl⟩) | (go_at_call 102; refine (getQ_ B _ _ _ (by assumption)).mono (QPost.thru hb0 (fun v s1 w1 hq hb0 hI hi => ?_))) | (go_at_call 58; refine (statesQ_ B _ _ _ (by assumption)).mono (QPost.thru hb0 (fun v s1 w1 hq hb0 hI hi => ?_))) | (go_at_call 111; refine (pHi_ _ _).mono ?_; rintro e w1 ⟨rfl, rfl⟩) | (go_at_call 105; refine (fQ_ B _ _ (by assumption)).mono ?_; rintro e w1 ⟨rfl, rfl⟩) | (go_at_call 112; refine (pDo_ _ _ _ (by omega) (by omega) _).mono ?_; rintro e w1 ⟨rfl, hb⟩; obtain ⟨w2, rfl, hb2⟩ := unput hi hb; replace hb0 := bt hb0 hb2; replace hI := hI.kept hb2; have hi := hI.inb) | (go_at_call 97; refine (aQ_ B _ _ (by assumption)).mono ?_; rintro e w1 ⟨rfl, rfl⟩) | (go_at_call 96; refine (putQ_ B _ _ _ _ (by assumption)).mono (QPost.thru hb0 (fun v s1 w1 hq hb0 hI hi => ?_))) | (go_at_call 113; refine (pBit_ _ _ _ _ _).mono ?_; rintro e w1 ⟨rfl, hb⟩; obtain ⟨w2, rfl, hb2⟩ := unput hi hb; replace hb0 := bt hb0 hb2; replace hI := hI.kept hb2; have hi := hI.inb) | (go_at_call 98; refine (pWith_ _ _ _ _).mono ?_; rintro e w1 ⟨rfl, rfl⟩) | (go_at_call 101; refine (setQ_ B _ _ _ _ (by assumption)).mono (QPost.thru hb0 (fun v s1 w1 hq hb0 hI hi => ?_)))))
  all_goals first
    | (refine bodyPost_end (results_none rfl _ _ _) rfl (QPost.done (v := ()) ?_ rfl hb0 hI); simp [bitQ, *]; done)
    | (refine bodyPost_ret (results_none rfl _ _ _) rfl (QPost.done (v := ()) ?_ rfl hb0 hI); simp [bitQ, QC.hl', *]; done)
set_option maxHeartbeats 6000000 in
set_option maxRecDepth 20000 in
theorem bit_10Q_ (B : Nat) (far : Bool) (c : U8) (s : QS) (w : World) (hI : QInv B w s.gv s.got) (hf : far = false) (hz : fz c = 6) (hx : fx c = 2) : Calls Tryz.prog 54 #[.pointer (some ⟨B, 0, none⟩), .bool far, .int .u8 c.v] (put w B s.cells) (QPost B w eU (runQ (bitQ far c) s)) := by
  have hi := hI.inb
  have hb0 := Below.refl w.heap.size w
  have y0 : 0 ≤ fy c := by unfold fy; omega
  have y1 : fy c ≤ 7 := by unfold fy; omega
  have z0 : 0 ≤ fz c := by unfold fz; omega
  have z1 : fz c ≤ 7 := by unfold fz; omega
  have hne := hi.ne
  subst hf
  go_enter Tryz.func54, Tryz.ntmps54
  all_goals (try go_wp2_with (first | (go_at_call 36; refine (p8Fields_ _ _).mono ?_; rintro e w1 ⟨rfl, rfl⟩) | (go_at_call 102; refine (getQ_ B _ _ _ (by assumption)).mono (QPost.thru hb0 (fun v s1 w1 hq hb0 hI hi => ?_))) | (go_at_call 58; refine (statesQ_ B _ _ _ (by assumption)).mono (QPost.thru hb0 (fun v s1 w1 hq hb0 hI hi => ?_))) | (go_at_call 111; refine (pHi_ _ _).mono ?_; rintro e w1 ⟨rfl, rfl⟩) | (go_at_call 105; refine (fQ_ B _ _ (by assumption)).mono ?_; rintro e w1 ⟨rfl, rfl⟩) | (go_at_call 112; refine (pDo_ _ _ _ (by omega) (by omega) _).mono ?_; rintro e w1 ⟨rfl, hb⟩; obtain ⟨w2, rfl, hb2⟩ := unput hi hb; replace hb0 := bt hb0 hb2; replace hI := hI.kept hb2; have hi := hI.inb) | (go_at_call 97; refine (aQ_ B _ _ (by assumption)).mono ?_; rintro e w1 ⟨rfl, rfl⟩) | (go_at_call 96; refine (putQ_ B _ _ _ _ (by assumption)).mono (QPost.thru hb0 (fun v s1 w1 hq hb0 hI hi => ?_))) | (go_at_call 113; refine (pBit_ _ _ _ _ _).mono ?_; rintro e w1 ⟨rfl, hb⟩; obtain ⟨w2, rfl, hb2⟩ := unput hi hb; replace hb0 := bt hb0 hb2; replace hI := hI.kept hb2; have hi := hI.inb) | (go_at_call 98; refine (pWith_ _ _ _ _).mono ?_; rintro e w1 ⟨rfl, rfl⟩) | (go_at_call 101; refine (setQ_ B _ _ _ _ (by assumption)).mono (QPost.thru hb0 (fun v s1 w1 hq hb0 hI hi => ?_)))))
  all_goals first
    | (refine bodyPost_end (results_none rfl _ _ _) rfl (QPost.done (v := ()) ?_ rfl hb0 hI); simp [bitQ, *]; done)
    | (refine bodyPost_ret (results_none rfl _ _ _) rfl (QPost.done (v := ()) ?_ rfl hb0 hI); simp [bitQ, QC.hl', *]; done)
set_option maxHeartbeats 6000000 in
set_option maxRecDepth 20000 in
theorem bit_11Q_ (B : Nat) (far : Bool) (c : U8) (s : QS) (w : World) (hI : QInv B w s.gv s.got) (hf : far = false) (hz : fz c = 6) (h0 : ¬ fx c = 0) (h1 : ¬ fx c = 1) (h2 : ¬ fx c = 2) : Calls Tryz.prog 54 #[.pointer (some ⟨B, 0, none⟩), .bool far, .int .u8 c.v] (put w B s.cells) (QPost B w eU (runQ (bitQ far c) s)) := by
  have hi := hI.inb
  have hb0 := Below.refl w.heap.size w
  have y0 : 0 ≤ fy c := by unfold fy; omega
  have y1 : fy c ≤ 7 := by unfold fy; omega
  have z0 : 0 ≤ fz c := by unfold fz; omega
  have z1 : fz c ≤ 7 := by unfold fz; omega
  have hne := hi.ne
  subst hf
  have b2 : (fx c != 2) = true := by simpa using h2
  go_enter Tryz.func54, Tryz.ntmps54
  all_goals (try go_wp2_with (first | (go_at_call 36; refine (p8Fields_ _ _).mono ?_; rintro e w1 ⟨rfl, rfl⟩) | (go_at_call 102; refine (getQ_ B _ _ _ (by assumption)).mono (QPost.thru hb0 (fun v s1 w1 hq hb0 hI hi => ?_))) | (go_at_call 58; refine (statesQ_ B _ _ _ (by assumption)).mono (QPost.thru hb0 (fun v s1 w1 hq hb0 hI hi => ?_))) | (go_at_call 111; refine (pHi_ _ _).mono ?_; rintro e w1 ⟨rfl, rfl⟩) | (go_at_call 105; refine (fQ_ B _ _ (by assumption)).mono ?_; rintro e w1 ⟨rfl, rfl⟩) | (go_at_call 112; refine (pDo_ _ _ _ (by omega) (by omega) _).mono ?_; rintro e w1 ⟨rfl, hb⟩; obtain ⟨w2, rfl, hb2⟩ := unput hi hb; replace hb0 := bt hb0 hb2; replace hI := hI.kept hb2; have hi := hI.inb) | (go_at_call 97; refine (aQ_ B _ _ (by assumption)).mono ?_; rintro e w1 ⟨rfl, rfl⟩) | (go_at_call 96; refine (putQ_ B _ _ _ _ (by assumption)).mono (QPost.thru hb0 (fun v s1 w1 hq hb0 hI hi => ?_))) | (go_at_call 113; refine (pBit_ _ _ _ _ _).mono ?_; rintro e w1 ⟨rfl, hb⟩; obtain ⟨w2, rfl, hb2⟩ := unput hi hb; replace hb0 := bt hb0 hb2; replace hI := hI.kept hb2; have hi := hI.inb) | (go_at_call 98; refine (pWith_ _ _ _ _).mono ?_; rintro e w1 ⟨rfl, rfl⟩) | (go_at_call 101; refine (setQ_ B _ _ _ _ (by assumption)).mono (QPost.thru hb0 (fun v s1 w1 hq hb0 hI hi => ?_)))))
  all_goals first
    | (refine bodyPost_end (results_none rfl _ _ _) rfl (QPost.done (v := ()) ?_ rfl hb0 hI); simp [bitQ, *]; done)
    | (refine bodyPost_ret (results_none rfl _ _ _) rfl (QPost.done (v := ()) ?_ rfl hb0 hI); simp [bitQ, QC.hl', *]; done)
set_option maxHeartbeats 6000000 in
set_option maxRecDepth 20000 in
theorem bit_12Q_ (B : Nat) (far : Bool) (c : U8) (s : QS) (w : World) (hI : QInv B w s.gv s.got) (hf : far = false) (hz : ¬ fz c = 6) (hx : fx c = 0) : Calls Tryz.prog 54 #[.pointer (some ⟨B, 0, none⟩), .bool far, .int .u8 c.v] (put w B s.cells) (QPost B w eU (runQ (bitQ far c) s)) := by
  have hi := hI.inb
  have hb0 := Below.refl w.heap.size w
  have y0 : 0 ≤ fy c := by unfold fy; omega
  have y1 : fy c ≤ 7 := by unfold fy; omega
  have z0 : 0 ≤ fz c := by unfold fz; omega
  have z1 : fz c ≤ 7 := by unfold fz; omega
  have hne := hi.ne
  subst hf
  go_enter Tryz.func54, Tryz.ntmps54
  all_goals (try go_wp2_with (first | (go_at_call 36; refine (p8Fields_ _ _).mono ?_; rintro e w1 ⟨rfl, rfl⟩) | (go_at_call 102; refine (getQ_ B _ _ _ (by assumption)).mono (QPost.thru hb0 (fun v s1 w1 hq hb0 hI hi => ?_))) | (go_at_call 58; refine (statesQ_ B _ _ _ (by assumption)).mono (QPost.thru hb0 (fun v s1 w1 hq hb0 hI hi => ?_))) | (go_at_call 111; refine (pHi_ _ _).mono ?_; rintro e w1 ⟨rfl, rfl⟩) | (go_at_call 105; refine (fQ_ B _ _ (by assumption)).mono ?_; rintro e w1 ⟨rfl, rfl⟩) | (go_at_call 112; refine (pDo_ _ _ _ (by omega) (by omega) _).mono ?_; rintro e w1 ⟨rfl, hb⟩; obtain ⟨w2, rfl, hb2⟩ := unput hi hb; replace hb0 := bt hb0 hb2; replace hI := hI.kept hb2; have hi := hI.inb) | (go_at_call 97; refine (aQ_ B _ _ (by assumption)).mono ?_; rintro e w1 ⟨rfl, rfl⟩) | (go_at_call 96; refine (putQ_ B _ _ _ _ (by assumption)).mono (QPost.thru hb0 (fun v s1 w1 hq hb0 hI hi => ?_))) | (go_at_call 113; refine (pBit_ _ _ _ _ _).mono ?_; rintro e w1 ⟨rfl, hb⟩; obtain ⟨w2, rfl, hb2⟩ := unput hi hb; replace hb0 := bt hb0 hb2; replace hI := hI.kept hb2; have hi := hI.inb) | (go_at_call 98; refine (pWith_ _ _ _ _).mono ?_; rintro e w1 ⟨rfl, rfl⟩) | (go_at_call 101; refine (setQ_ B _ _ _ _ (by assumption)).mono (QPost.thru hb0 (fun v s1 w1 hq hb0 hI hi => ?_)))))
  all_goals first
    | (refine bodyPost_end (results_none rfl _ _ _) rfl (QPost.done (v := ()) ?_ rfl hb0 hI); simp [bitQ, *]; done)
    | (refine bodyPost_ret (results_none rfl _ _ _) rfl (QPost.done (v := ()) ?_ rfl hb0 hI); simp [bitQ, QC.hl', *]; done)
set_option maxHeartbeats 6000000 in
set_option maxRecDepth 20000 in
theorem bit_13Q_ (B : Nat) (far : Bool) (c : U8) (s : QS) (w : World) (hI : QInv B w s.gv s.got) (hf : far = false) (hz : ¬ fz c = 6) (hx : fx c = 1) : Calls Tryz.prog 54 #[.pointer (some ⟨B, 0, none⟩), .bool far, .int .u8 c.v] (put w B s.cells) (QPost B w eU (runQ (bitQ far c) s)) := by
  have hi := hI.inb
  have hb0 := Below.refl w.heap.size w
  have y0 : 0 ≤ fy c := by unfold fy; omega
  have y1 : fy c ≤ 7 := by unfold fy; omega
  have z0 : 0 ≤ fz c := by unfold fz; omega
  have z1 : fz c ≤ 7 := by unfold fz; omega
  have hne := hi.ne
  subst hf
  go_enter Tryz.func54, Tryz.ntmps54
  all_goals (try go_wp2_with (first | (go_at_call 36; refine (p8Fields_ _ _).mono ?_; rintro e w1 ⟨rfl, rfl⟩) | (go_at_call 102; refine (getQ_ B _ _ _ (by assumption)).mono (QPost.thru hb0 (fun v s1 w1 hq hb0 hI hi => ?_))) | (go_at_call 58; refine (statesQ_ B _ _ _ (by assumption)).mono (QPost.thru hb0 (fun v s1 w1 hq hb0 hI hi => ?_))) | (go_at_call 111; refine (pHi_ _ _).mono ?_; rintro e w1 ⟨rfl, rfl⟩) | (go_at_call 105; refine (fQ_ B _ _ (by assumption)).mono ?_; rintro e w1 ⟨rfl, rfl⟩) | (go_at_call 112; refine (pDo_ _ _ _ (by omega) (by omega) _).mono ?_; rintro e w1 ⟨rfl, hb⟩; obtain ⟨w2, rfl, hb2⟩ := unput hi hb; replace hb0 := bt hb0 hb2; replace hI := hI.kept hb2; have hi := hI.inb) | (go_at_call 97; refine (aQ_ B _ _ (by assumption)).mono ?_; rintro e w1 ⟨rfl, rfl⟩) | (go_at_call 96; refine (putQ_ B _ _ _ _ (by assumption)).mono (QPost.thru hb0 (fun v s1 w1 hq hb0 hI hi => ?_))) | (go_at_call 113; refine (pBit_ _ _ _ _ _).mono ?_; rintro e w1 ⟨rfl, hb⟩; obtain ⟨w2, rfl, hb2⟩ := unput hi hb; replace hb0 := bt hb0 hb2; replace hI := hI.kept hb2; have hi := hI.inb) | (go_at_call 98; refine (pWith_ _ _ _ _).mono ?_; rintro e w1 ⟨rfl, rfl⟩) | (go_at_call 101; refine (setQ_ B _ _ _ _ (by assumption)).mono (QPost.thru hb0 (fun v s1 w1 hq hb0 hI hi => ?_)))))
  all_goals first
    | (refine bodyPost_end (results_none rfl _ _ _) rfl (QPost.done (v := ()) ?_ rfl hb0 hI); simp [bitQ, *]; done)
    | (refine bodyPost_ret (results_none rfl _ _ _) rfl (QPost.done (v := ()) ?_ rfl hb0 hI); simp [bitQ, QC.hl', *]; done)
set_option maxHeartbeats 6000000 in
set_option maxRecDepth 20000 in
theorem bit_14Q_ (B : Nat) (far : Bool) (c : U8) (s : QS) (w : World) (hI : QInv B w s.gv s.got) (hf : far = false) (hz : ¬ fz c = 6) (hx : fx c = 2) : Calls Tryz.prog 54 #[.pointer (some ⟨B, 0, none⟩), .bool far, .int .u8 c.v] (put w B s.cells) (QPost B w eU (runQ (bitQ far c) s)) := by
  have hi := hI.inb
  have hb0 := Below.refl w.heap.size w
  have y0 : 0 ≤ fy c := by unfold fy; omega
  have y1 : fy c ≤ 7 := by unfold fy; omega
  have z0 : 0 ≤ fz c := by unfold fz; omega
  have z1 : fz c ≤ 7 := by unfold fz; omega
  have hne := hi.ne
  subst hf
  go_enter Tryz.func54, Tryz.ntmps54
  all_goals (try go_wp2_with (first | (go_at_call 36; refine (p8Fields_ _ _).mono ?_; rintro e w1 ⟨rfl, rfl⟩) | (go_at_call 102; refine (getQ_ B _ _ _ (by assumption)).mono (QPost.thru hb0 (fun v s1 w1 hq hb0 hI hi => ?_))) | (go_at_call 58; refine (statesQ_ B _ _ _ (by assumption)).mono (QPost.thru hb0 (fun v s1 w1 hq hb0 hI hi => ?_))) | (go_at_call 111; refine (pHi_ _ _).mono ?_; rintro e w1 ⟨rfl, rfl⟩) | (go_at_call 105; refine (fQ_ B _ _ (by assumption)).mono ?_; rintro e w1 ⟨rfl, rfl⟩) | (go_at_call 112; refine (pDo_ _ _ _ (by omega) (by omega) _).mono ?_; rintro e w1 ⟨rfl, hb⟩; obtain ⟨w2, rfl, hb2⟩ := unput hi hb; replace hb0 := bt hb0 hb2; replace hI := hI.kept hb2; have hi := hI.inb) | (go_at_call 97; refine (aQ_ B _ _ (by assumption)).mono ?_; rintro e w1 ⟨rfl, rfl⟩) | (go_at_call 96; refine (putQ_ B _ _ _ _ (by assumption)).mono (QPost.thru hb0 (fun v s1 w1 hq hb0 hI hi => ?_))) | (go_at_call 113; refine (pBit_ _ _ _ _ _).mono ?_; rintro e w1 ⟨rfl, hb⟩; obtain ⟨w2, rfl, hb2⟩ := unput hi hb; replace hb0 := bt hb0 hb2; replace hI := hI.kept hb2; have hi := hI.inb) | (go_at_call 98; refine (pWith_ _ _ _ _).mono ?_; rintro e w1 ⟨rfl, rfl⟩) | (go_at_call 101; refine (setQ_ B _ _ _ _ (by assumption)).mono (QPost.thru hb0 (fun v s1 w1 hq hb0 hI hi => ?_)))))
  all_goals first
    | (refine bodyPost_end (results_none rfl _ _ _) rfl (QPost.done (v := ()) ?_ rfl hb0 hI); simp [bitQ, *]; done)
    | (refine bodyPost_ret (results_none rfl _ _ _) rfl (QPost.done (v := ()) ?_ rfl hb0 hI); simp [bitQ, QC.hl', *]; done)
set_option maxHeartbeats 6000000 in
set_option maxRecDepth 20000 in
theorem bit_15Q_ (B : Nat) (far : Bool) (c : U8) (s : QS) (w : World) (hI : QInv B w s.gv s.got) (hf : far = false) (hz : ¬ fz c = 6) (h0 : ¬ fx c = 0) (h1 : ¬ fx c = 1) (h2 : ¬ fx c = 2) : Calls Tryz.prog 54 #[.pointer (some ⟨B, 0, none⟩), .bool far, .int .u8 c.v] (put w B s.cells) (QPost B w eU (runQ (bitQ far c) s)) := by
  have hi := hI.inb
  have hb0 := Below.refl w.heap.size w
  have y0 : 0 ≤ fy c := by unfold fy; omega
  have y1 : fy c ≤ 7 := by unfold fy; omega
  have z0 : 0 ≤ fz c := by unfold fz; omega
  have z1 : fz c ≤ 7 := by unfold fz; omega
  have hne := hi.ne
  subst hf
  have b2 : (fx c != 2) = true := by simpa using h2
  go_enter Tryz.func54, Tryz.ntmps54
  all_goals (try go_wp2_with (first | (go_at_call 36; refine (p8Fields_ _ _).mono ?_; rintro e w1 ⟨rfl, rfl⟩) | (go_at_call 102; refine (getQ_ B _ _ _ (by assumption)).mono (QPost.thru hb0 (fun v s1 w1 hq hb0 hI hi => ?_))) | (go_at_call 58; refine (statesQ_ B _ _ _ (by assumption)).mono (QPost.thru hb0 (fun v s1 w1 hq hb0 hI hi => ?_))) | (go_at_call 111; refine (pHi_ _ _).mono ?_; rintro e w1 ⟨rfl, rfl⟩) | (go_at_call 105; refine (fQ_ B _ _ (by assumption)).mono ?_; rintro e w1 ⟨rfl, rfl⟩) | (go_at_call 112; refine (pDo_ _ _ _ (by omega) (by omega) _).mono ?_; rintro e w1 ⟨rfl, hb⟩; obtain ⟨w2, rfl, hb2⟩ := unput hi hb; replace hb0 := bt hb0 hb2; replace hI := hI.kept hb2; have hi := hI.inb) | (go_at_call 97; refine (aQ_ B _ _ (by assumption)).mono ?_; rintro e w1 ⟨rfl, rfl⟩) | (go_at_call 96; refine (putQ_ B _ _ _ _ (by assumption)).mono (QPost.thru hb0 (fun v s1 w1 hq hb0 hI hi => ?_))) | (go_at_call 113; refine (pBit_ _ _ _ _ _).mono ?_; rintro e w1 ⟨rfl, hb⟩; obtain ⟨w2, rfl, hb2⟩ := unput hi hb; replace hb0 := bt hb0 hb2; replace hI := hI.kept hb2; have hi := hI.inb) | (go_at_call 98; refine (pWith_ _ _ _ _).mono ?_; rintro e w1 ⟨rfl, rfl⟩) | (go_at_call 101; refine (setQ_ B _ _ _ _ (by assumption)).mono (QPost.thru hb0 (fun v s1 w1 hq hb0 hI hi => ?_)))))
  all_goals first
    | (refine bodyPost_end (results_none rfl _ _ _) rfl (QPost.done (v := ()) ?_ rfl hb0 hI); simp [bitQ, *]; done)
    | (refine bodyPost_ret (results_none rfl _ _ _) rfl (QPost.done (v := ()) ?_ rfl hb0 hI); simp [bitQ, QC.hl', *]; done)
theorem bitQ_ (B : Nat) (far : Bool) (c : U8) (s : QS) (w : World) (hI : QInv B w s.gv s.got) : Calls Tryz.prog 54 #[.pointer (some ⟨B, 0, none⟩), .bool far, .int .u8 c.v] (put w B s.cells) (QPost B w eU (runQ (bitQ far c) s)) := by
  rcases Bool.eq_false_or_eq_true far with hf | hf <;> rcases (show fz c = 6 ∨ ¬ fz c = 6 by omega) with hz | hz <;> rcases (show fx c = 0 ∨ fx c = 1 ∨ fx c = 2 ∨ (¬ fx c = 0 ∧ ¬ fx c = 1 ∧ ¬ fx c = 2) by omega) with hx | hx | hx | ⟨h0, h1, h2⟩
  · exact bit_0Q_ B far c s w hI hf hz hx
  · exact bit_1Q_ B far c s w hI hf hz hx
  · exact bit_2Q_ B far c s w hI hf hz hx
  · exact bit_3Q_ B far c s w hI hf hz h0 h1 h2
  · exact bit_4Q_ B far c s w hI hf hz hx
  · exact bit_5Q_ B far c s w hI hf hz hx
  · exact bit_6Q_ B far c s w hI hf hz hx
  · exact bit_7Q_ B far c s w hI hf hz h0 h1 h2
  · exact bit_8Q_ B far c s w hI hf hz hx
  · exact bit_9Q_ B far c s w hI hf hz hx
  · exact bit_10Q_ B far c s w hI hf hz hx
  · exact bit_11Q_ B far c s w hI hf hz h0 h1 h2
  · exact bit_12Q_ B far c s w hI hf hz hx
  · exact bit_13Q_ B far c s w hI hf hz hx
  · exact bit_14Q_ B far c s w hI hf hz hx
  · exact bit_15Q_ B far c s w hI hf hz h0 h1 h2
end Go.Proofs.YtnaampdpkegacaaGreatDoor
