/-
  Contracts of the reference 12's calls, pops and ports. A helper of the claims that stand beside it. (Printed by wip/genro.py.)
-/
import Derived.Test.YtnaampdpkegacaaGreatDoorrn
namespace Go.Proofs.YtnaampdpkegacaaGreatDoor
open Go.RowKit

set_option maxHeartbeats 1000000 in
set_option maxRecDepth 20000 in
theorem callQ_ (B : Nat) (is : Bool) (s : QS) (w : World) (hI : QInv B w s.gv s.got) : Calls Tryz.prog 214 #[.pointer (some ⟨B, 0, none⟩), .bool is] (put w B s.cells) (QPost B w eU (runQ (callQ is) s)) := by
  have hi := hI.inb
  have hb0 := Below.refl w.heap.size w
  cases is
  all_goals
    go_enter Tryz.func214, Tryz.ntmps214
    all_goals (try go_wp2_with (first | (go_at_call 193; refine (wordQ_ B  _ _ (by assumption)).mono (QPost.thru hb0 (fun v s1 w1 hq hb0 hI hi => ?_))) | (go_at_call 58; refine (statesQ_ B _ _ _ (by assumption)).mono (QPost.thru hb0 (fun v s1 w1 hq hb0 hI hi => ?_))) | (go_at_call 215; refine (pushQ_ B _ _ _ (by assumption)).mono (QPost.thru hb0 (fun v s1 w1 hq hb0 hI hi => ?_)))))
    all_goals first
      | (refine bodyPost_end (results_none rfl _ _ _) rfl (QPost.done (v := ()) ?_ rfl hb0 hI); simp [callQ, *]; done)
      | (refine bodyPost_ret (results_none rfl _ _ _) rfl (QPost.done (v := ()) ?_ rfl hb0 hI); simp [callQ, QC.hl', *]; done)
set_option maxHeartbeats 6000000 in
set_option maxRecDepth 20000 in
theorem pops_0Q_ (B : Nat) (p : Int) (q : Int) (s : QS) (w : World) (hI : QInv B w s.gv s.got) (hq0 : q = 0) (hp : p = 3) : Calls Tryz.prog 212 #[.pointer (some ⟨B, 0, none⟩), .int .i64 p, .int .i64 q] (put w B s.cells) (QPost B w eU (runQ (popsQ p q) s)) := by
  have hi := hI.inb
  have hb0 := Below.refl w.heap.size w
  go_enter Tryz.func212, Tryz.ntmps212
  all_goals (try go_wp2_with (first | (go_at_call 196; refine (popQ_ B  _ _ (by assumption)).mono (QPost.thru hb0 (fun v s1 w1 hq hb0 hI hi => ?_)))))
  all_goals first
    | (refine bodyPost_end (results_none rfl _ _ _) rfl (QPost.done (v := ()) ?_ rfl hb0 hI); simp [popsQ, *]; done)
    | (refine bodyPost_ret (results_none rfl _ _ _) rfl (QPost.done (v := ()) ?_ rfl hb0 hI); simp [popsQ, QC.hl', *]; done)
set_option maxHeartbeats 6000000 in
set_option maxRecDepth 20000 in
theorem pops_1Q_ (B : Nat) (p : Int) (q : Int) (s : QS) (w : World) (hI : QInv B w s.gv s.got) (hq0 : q = 0) (hp : ¬ p = 3) : Calls Tryz.prog 212 #[.pointer (some ⟨B, 0, none⟩), .int .i64 p, .int .i64 q] (put w B s.cells) (QPost B w eU (runQ (popsQ p q) s)) := by
  have hi := hI.inb
  have hb0 := Below.refl w.heap.size w
  go_enter Tryz.func212, Tryz.ntmps212
  all_goals (try go_wp2_with (first | (go_at_call 196; refine (popQ_ B  _ _ (by assumption)).mono (QPost.thru hb0 (fun v s1 w1 hq hb0 hI hi => ?_)))))
  all_goals (try (
        replace hb0 := bt hb0 (Below.refl _ _).drew
        replace hI := QInv.drew hI
        replace hi := QInv.inb hI
        go_region_with (first | (go_at_call 194; refine (r11setpair_ _ _ _ _ _).mono ?_; rintro e w1 ⟨rfl, hb⟩; obtain ⟨w2, rfl, hb2⟩ := unput hi hb; replace hb0 := bt hb0 hb2; replace hI := hI.kept hb2; have hi := hI.inb))))
  all_goals (try go_wp2)
  all_goals first
    | (refine bodyPost_end (results_none rfl _ _ _) rfl (QPost.done (v := ()) ?_ rfl hb0 hI); simp [popsQ, *]; done)
    | (refine bodyPost_ret (results_none rfl _ _ _) rfl (QPost.done (v := ()) ?_ rfl hb0 hI); simp [popsQ, QC.hl', *]; done)
set_option maxHeartbeats 6000000 in
set_option maxRecDepth 20000 in
theorem pops_2Q_ (B : Nat) (p : Int) (q : Int) (s : QS) (w : World) (hI : QInv B w s.gv s.got) (hq0 : ¬ q = 0) (hp : p = 0) : Calls Tryz.prog 212 #[.pointer (some ⟨B, 0, none⟩), .int .i64 p, .int .i64 q] (put w B s.cells) (QPost B w eU (runQ (popsQ p q) s)) := by
  have hi := hI.inb
  have hb0 := Below.refl w.heap.size w
  go_enter Tryz.func212, Tryz.ntmps212
  all_goals (try go_wp2_with (first | (go_at_call 109; refine (backQ_ B  _ _ (by assumption)).mono (QPost.thru hb0 (fun v s1 w1 hq hb0 hI hi => ?_)))))
  all_goals first
    | (refine bodyPost_end (results_none rfl _ _ _) rfl (QPost.done (v := ()) ?_ rfl hb0 hI); simp [popsQ, *]; done)
    | (refine bodyPost_ret (results_none rfl _ _ _) rfl (QPost.done (v := ()) ?_ rfl hb0 hI); simp [popsQ, QC.hl', *]; done)
set_option maxHeartbeats 6000000 in
set_option maxRecDepth 20000 in
theorem pops_3Q_ (B : Nat) (p : Int) (q : Int) (s : QS) (w : World) (hI : QInv B w s.gv s.got) (hq0 : ¬ q = 0) (hp : p = 1) : Calls Tryz.prog 212 #[.pointer (some ⟨B, 0, none⟩), .int .i64 p, .int .i64 q] (put w B s.cells) (QPost B w eU (runQ (popsQ p q) s)) := by
  have hi := hI.inb
  have hb0 := Below.refl w.heap.size w
  go_enter Tryz.func212, Tryz.ntmps212
  all_goals (try go_wp2_with (first | (go_at_call 259; refine (r11exx_ _ _).mono ?_; rintro e w1 ⟨rfl, hb⟩; obtain ⟨w2, rfl, hb2⟩ := unput hi hb; replace hb0 := bt hb0 hb2; replace hI := hI.kept hb2; have hi := hI.inb)))
  all_goals first
    | (refine bodyPost_end (results_none rfl _ _ _) rfl (QPost.done (v := ()) ?_ rfl hb0 hI); simp [popsQ, *]; done)
    | (refine bodyPost_ret (results_none rfl _ _ _) rfl (QPost.done (v := ()) ?_ rfl hb0 hI); simp [popsQ, QC.hl', *]; done)
set_option maxHeartbeats 6000000 in
set_option maxRecDepth 20000 in
theorem pops_4Q_ (B : Nat) (p : Int) (q : Int) (s : QS) (w : World) (hI : QInv B w s.gv s.got) (hq0 : ¬ q = 0) (hp : p = 2) : Calls Tryz.prog 212 #[.pointer (some ⟨B, 0, none⟩), .int .i64 p, .int .i64 q] (put w B s.cells) (QPost B w eU (runQ (popsQ p q) s)) := by
  have hi := hI.inb
  have hb0 := Below.refl w.heap.size w
  go_enter Tryz.func212, Tryz.ntmps212
  all_goals (try go_wp2_with (first | (go_at_call 57; refine (hlQ_ B _ _ (by assumption)).mono ?_; rintro e w1 ⟨rfl, hb⟩; obtain ⟨w2, rfl, hb2⟩ := unput hi hb; replace hb0 := bt hb0 hb2; replace hI := hI.kept hb2; have hi := hI.inb)))
  all_goals first
    | (refine bodyPost_end (results_none rfl _ _ _) rfl (QPost.done (v := ()) ?_ rfl hb0 hI); simp [popsQ, QC.hl', *]; done)
    | (refine bodyPost_ret (results_none rfl _ _ _) rfl (QPost.done (v := ()) ?_ rfl hb0 hI); simp [popsQ, QC.hl', *]; done)
set_option maxHeartbeats 6000000 in
set_option maxRecDepth 20000 in
theorem pops_5Q_ (B : Nat) (p : Int) (q : Int) (s : QS) (w : World) (hI : QInv B w s.gv s.got) (hq0 : ¬ q = 0) (h0 : ¬ p = 0) (h1 : ¬ p = 1) (h2 : ¬ p = 2) : Calls Tryz.prog 212 #[.pointer (some ⟨B, 0, none⟩), .int .i64 p, .int .i64 q] (put w B s.cells) (QPost B w eU (runQ (popsQ p q) s)) := by
  have hi := hI.inb
  have hb0 := Below.refl w.heap.size w
  go_enter Tryz.func212, Tryz.ntmps212
  all_goals (try go_wp2_with (first | (go_at_call 58; refine (statesQ_ B _ _ _ (by assumption)).mono (QPost.thru hb0 (fun v s1 w1 hq hb0 hI hi => ?_))) | (go_at_call 57; refine (hlQ_ B _ _ (by assumption)).mono ?_; rintro e w1 ⟨rfl, hb⟩; obtain ⟨w2, rfl, hb2⟩ := unput hi hb; replace hb0 := bt hb0 hb2; replace hI := hI.kept hb2; have hi := hI.inb)))
  all_goals first
    | (refine bodyPost_end (results_none rfl _ _ _) rfl (QPost.done (v := ()) ?_ rfl hb0 hI); simp [popsQ, QC.hl', *]; done)
    | (refine bodyPost_ret (results_none rfl _ _ _) rfl (QPost.done (v := ()) ?_ rfl hb0 hI); simp [popsQ, QC.hl', *]; done)
theorem popsQ_ (B : Nat) (p : Int) (q : Int) (s : QS) (w : World) (hI : QInv B w s.gv s.got) : Calls Tryz.prog 212 #[.pointer (some ⟨B, 0, none⟩), .int .i64 p, .int .i64 q] (put w B s.cells) (QPost B w eU (runQ (popsQ p q) s)) := by
  rcases (show (q = 0 ∧ p = 3) ∨ (q = 0 ∧ ¬ p = 3) ∨ (¬ q = 0 ∧ p = 0) ∨ (¬ q = 0 ∧ p = 1) ∨ (¬ q = 0 ∧ p = 2) ∨ (¬ q = 0 ∧ ¬ p = 0 ∧ ¬ p = 1 ∧ ¬ p = 2) by omega) with ⟨hq0, hp⟩ | ⟨hq0, hp⟩ | ⟨hq0, hp⟩ | ⟨hq0, hp⟩ | ⟨hq0, hp⟩ | ⟨hq0, h0, h1, h2⟩
  · exact pops_0Q_ B p q s w hI hq0 hp
  · exact pops_1Q_ B p q s w hI hq0 hp
  · exact pops_2Q_ B p q s w hI hq0 hp
  · exact pops_3Q_ B p q s w hI hq0 hp
  · exact pops_4Q_ B p q s w hI hq0 hp
  · exact pops_5Q_ B p q s w hI hq0 h0 h1 h2
set_option maxHeartbeats 6000000 in
set_option maxRecDepth 20000 in
theorem ports_0Q_ (B : Nat) (y : Int) (s : QS) (w : World) (hI : QInv B w s.gv s.got) (hy : y = 0) : Calls Tryz.prog 213 #[.pointer (some ⟨B, 0, none⟩), .int .i64 y] (put w B s.cells) (QPost B w eU (runQ (portsQ y) s)) := by
  have hi := hI.inb
  have hb0 := Below.refl w.heap.size w
  go_enter Tryz.func213, Tryz.ntmps213
  all_goals (try go_wp2_with (first | (go_at_call 193; refine (wordQ_ B  _ _ (by assumption)).mono (QPost.thru hb0 (fun v s1 w1 hq hb0 hI hi => ?_)))))
  all_goals first
    | (refine bodyPost_end (results_none rfl _ _ _) rfl (QPost.done (v := ()) ?_ rfl hb0 hI); simp [portsQ, *]; done)
    | (refine bodyPost_ret (results_none rfl _ _ _) rfl (QPost.done (v := ()) ?_ rfl hb0 hI); simp [portsQ, crossQ, QC.hl', *]; done)
set_option maxHeartbeats 6000000 in
set_option maxRecDepth 20000 in
theorem ports_1Q_ (B : Nat) (y : Int) (s : QS) (w : World) (hI : QInv B w s.gv s.got) (hy : y = 2) : Calls Tryz.prog 213 #[.pointer (some ⟨B, 0, none⟩), .int .i64 y] (put w B s.cells) (QPost B w eU (runQ (portsQ y) s)) := by
  have hi := hI.inb
  have hb0 := Below.refl w.heap.size w
  go_enter Tryz.func213, Tryz.ntmps213
  all_goals (try go_wp2_with (first | (go_at_call 55; refine (numberQ_ B  _ _ (by assumption)).mono (QPost.thru hb0 (fun v s1 w1 hq hb0 hI hi => ?_))) | (go_at_call 97; refine (aQ_ B _ _ (by assumption)).mono ?_; rintro e w1 ⟨rfl, rfl⟩) | (go_at_call 180; refine (pWord_ _ _ _).mono ?_; rintro e w1 ⟨rfl, rfl⟩) | (go_at_call 26; refine (cycR_ B 5 _ _ 4 _ _ (by assumption)).mono (QPost.thru hb0 (fun v s1 w1 hq hb0 hI hi => ?_)))))
  all_goals first
    | (refine bodyPost_end (results_none rfl _ _ _) rfl (QPost.done (v := ()) ?_ rfl hb0 hI); simp [portsQ, *]; done)
    | (refine bodyPost_ret (results_none rfl _ _ _) rfl (QPost.done (v := ()) ?_ rfl hb0 hI); simp [portsQ, crossQ, QC.hl', *]; done)
set_option maxHeartbeats 6000000 in
set_option maxRecDepth 20000 in
theorem ports_2Q_ (B : Nat) (y : Int) (s : QS) (w : World) (hI : QInv B w s.gv s.got) (hy : y = 3) : Calls Tryz.prog 213 #[.pointer (some ⟨B, 0, none⟩), .int .i64 y] (put w B s.cells) (QPost B w eU (runQ (portsQ y) s)) := by
  have hi := hI.inb
  have hb0 := Below.refl w.heap.size w
  go_enter Tryz.func213, Tryz.ntmps213
  all_goals (try go_wp2_with (first | (go_at_call 55; refine (numberQ_ B  _ _ (by assumption)).mono (QPost.thru hb0 (fun v s1 w1 hq hb0 hI hi => ?_))) | (go_at_call 97; refine (aQ_ B _ _ (by assumption)).mono ?_; rintro e w1 ⟨rfl, rfl⟩) | (go_at_call 180; refine (pWord_ _ _ _).mono ?_; rintro e w1 ⟨rfl, rfl⟩) | (go_at_call 105; refine (fQ_ B _ _ (by assumption)).mono ?_; rintro e w1 ⟨rfl, rfl⟩) | (go_at_call 96; refine (putQ_ B _ _ _ _ (by assumption)).mono (QPost.thru hb0 (fun v s1 w1 hq hb0 hI hi => ?_))) | (go_at_call 26; refine (cycR_ B 4 _ (u8 0) 4 _ _ (by assumption)).mono (QPost.thru hb0 (fun v s1 w1 hq hb0 hI hi => ?_)))))
  all_goals first
    | (refine bodyPost_end (results_none rfl _ _ _) rfl (QPost.done (v := ()) ?_ rfl hb0 hI); simp [portsQ, *]; done)
    | (refine bodyPost_ret (results_none rfl _ _ _) rfl (QPost.done (v := ()) ?_ rfl hb0 hI); simp [portsQ, crossQ, QC.hl', *]; done)
set_option maxHeartbeats 6000000 in
set_option maxRecDepth 20000 in
theorem ports_3Q_ (B : Nat) (y : Int) (s : QS) (w : World) (hI : QInv B w s.gv s.got) (hy : y = 4) : Calls Tryz.prog 213 #[.pointer (some ⟨B, 0, none⟩), .int .i64 y] (put w B s.cells) (QPost B w eU (runQ (portsQ y) s)) := by
  have hi := hI.inb
  have hb0 := Below.refl w.heap.size w
  go_enter Tryz.func213, Tryz.ntmps213
  all_goals (try go_wp2_with (first | (go_at_call 114; refine (readQ_ B _ _ _ (by assumption)).mono (QPost.thru hb0 (fun v s1 w1 hq hb0 hI hi => ?_))) | (go_at_call 58; refine (statesQ_ B _ _ _ (by assumption)).mono (QPost.thru hb0 (fun v s1 w1 hq hb0 hI hi => ?_)))))
  all_goals (try (
        replace hb0 := bt hb0 (Below.refl _ _).drew
        replace hI := QInv.drew hI
        replace hi := QInv.inb hI
        go_region_with (first | (go_at_call 57; refine (hlQ_ B _ _ (by assumption)).mono ?_; rintro e w1 ⟨rfl, hb⟩; obtain ⟨w2, rfl, hb2⟩ := unput hi hb; replace hb0 := bt hb0 hb2; replace hI := hI.kept hb2; have hi := hI.inb) | (go_at_call 111; refine (pHi_ _ _).mono ?_; rintro e w1 ⟨rfl, rfl⟩) | (go_at_call 172; refine (writeQ_ B _ _ _ _ (by assumption)).mono (QPost.thru hb0 (fun v s1 w1 hq hb0 hI hi => ?_))))))
  all_goals (try go_wp2)
  all_goals (try (
        replace hb0 := bt hb0 (Below.refl _ _).drew
        replace hI := QInv.drew hI
        replace hi := QInv.inb hI
        go_region_with (first | (go_at_call 57; refine (hlQ_ B _ _ (by assumption)).mono ?_; rintro e w1 ⟨rfl, hb⟩; obtain ⟨w2, rfl, hb2⟩ := unput hi hb; replace hb0 := bt hb0 hb2; replace hI := hI.kept hb2; have hi := hI.inb) | (go_at_call 177; refine (pLo_ _ _).mono ?_; rintro e w1 ⟨rfl, rfl⟩) | (go_at_call 172; refine (writeQ_ B _ _ _ _ (by assumption)).mono (QPost.thru hb0 (fun v s1 w1 hq hb0 hI hi => ?_))))))
  all_goals (try go_wp2_with (first | (go_at_call 58; refine (statesQ_ B _ _ _ (by assumption)).mono (QPost.thru hb0 (fun v s1 w1 hq hb0 hI hi => ?_))) | (go_at_call 180; refine (pWord_ _ _ _).mono ?_; rintro e w1 ⟨rfl, rfl⟩) | (go_at_call 202; refine (setHlQ_ B _ _ _ (by assumption)).mono (QPost.thru hb0 (fun v s1 w1 hq hb0 hI hi => ?_)))))
  all_goals first
    | (refine bodyPost_end (results_none rfl _ _ _) rfl (QPost.done (v := ()) ?_ rfl hb0 hI); simp [portsQ, crossQ, QC.hl', *]; done)
    | (refine bodyPost_ret (results_none rfl _ _ _) rfl (QPost.done (v := ()) ?_ rfl hb0 hI); simp [portsQ, crossQ, QC.hl', *]; done)
set_option maxHeartbeats 6000000 in
set_option maxRecDepth 20000 in
theorem ports_4Q_ (B : Nat) (y : Int) (s : QS) (w : World) (hI : QInv B w s.gv s.got) (hy : y = 5) : Calls Tryz.prog 213 #[.pointer (some ⟨B, 0, none⟩), .int .i64 y] (put w B s.cells) (QPost B w eU (runQ (portsQ y) s)) := by
  have hi := hI.inb
  have hb0 := Below.refl w.heap.size w
  go_enter Tryz.func213, Tryz.ntmps213
  all_goals (try go_wp2)
  all_goals first
    | (refine bodyPost_end (results_none rfl _ _ _) rfl (QPost.done (v := ()) ?_ rfl hb0 hI); simp [portsQ, *]; done)
    | (refine bodyPost_ret (results_none rfl _ _ _) rfl (QPost.done (v := ()) ?_ rfl hb0 hI); simp [portsQ, crossQ, QC.hl', *]; done)
set_option maxHeartbeats 6000000 in
set_option maxRecDepth 20000 in
theorem ports_5Q_ (B : Nat) (y : Int) (s : QS) (w : World) (hI : QInv B w s.gv s.got) (hy : y = 6) : Calls Tryz.prog 213 #[.pointer (some ⟨B, 0, none⟩), .int .i64 y] (put w B s.cells) (QPost B w eU (runQ (portsQ y) s)) := by
  have hi := hI.inb
  have hb0 := Below.refl w.heap.size w
  go_enter Tryz.func213, Tryz.ntmps213
  all_goals (try go_wp2)
  all_goals first
    | (refine bodyPost_end (results_none rfl _ _ _) rfl (QPost.done (v := ()) ?_ rfl hb0 hI); simp [portsQ, *]; done)
    | (refine bodyPost_ret (results_none rfl _ _ _) rfl (QPost.done (v := ()) ?_ rfl hb0 hI); simp [portsQ, crossQ, QC.hl', *]; done)
set_option maxHeartbeats 6000000 in
set_option maxRecDepth 20000 in
theorem ports_6Q_ (B : Nat) (y : Int) (s : QS) (w : World) (hI : QInv B w s.gv s.got) (hy : y = 7) : Calls Tryz.prog 213 #[.pointer (some ⟨B, 0, none⟩), .int .i64 y] (put w B s.cells) (QPost B w eU (runQ (portsQ y) s)) := by
  have hi := hI.inb
  have hb0 := Below.refl w.heap.size w
  go_enter Tryz.func213, Tryz.ntmps213
  all_goals (try go_wp2)
  all_goals first
    | (refine bodyPost_end (results_none rfl _ _ _) rfl (QPost.done (v := ()) ?_ rfl hb0 hI); simp [portsQ, *]; done)
    | (refine bodyPost_ret (results_none rfl _ _ _) rfl (QPost.done (v := ()) ?_ rfl hb0 hI); simp [portsQ, crossQ, QC.hl', *]; done)
set_option maxHeartbeats 6000000 in
set_option maxRecDepth 20000 in
theorem ports_7Q_ (B : Nat) (y : Int) (s : QS) (w : World) (hI : QInv B w s.gv s.got) (h0 : ¬ y = 0) (h2 : ¬ y = 2) (h3 : ¬ y = 3) (h4 : ¬ y = 4) (h5 : ¬ y = 5) (h6 : ¬ y = 6) (h7 : ¬ y = 7) : Calls Tryz.prog 213 #[.pointer (some ⟨B, 0, none⟩), .int .i64 y] (put w B s.cells) (QPost B w eU (runQ (portsQ y) s)) := by
  have hi := hI.inb
  have hb0 := Below.refl w.heap.size w
  go_enter Tryz.func213, Tryz.ntmps213
  all_goals (try go_wp2)
  all_goals first
    | (refine bodyPost_end (results_none rfl _ _ _) rfl (QPost.done (v := ()) ?_ rfl hb0 hI); simp [portsQ, *]; done)
    | (refine bodyPost_ret (results_none rfl _ _ _) rfl (QPost.done (v := ()) ?_ rfl hb0 hI); simp [portsQ, crossQ, QC.hl', *]; done)
theorem portsQ_ (B : Nat) (y : Int) (s : QS) (w : World) (hI : QInv B w s.gv s.got) : Calls Tryz.prog 213 #[.pointer (some ⟨B, 0, none⟩), .int .i64 y] (put w B s.cells) (QPost B w eU (runQ (portsQ y) s)) := by
  rcases (show (y = 0) ∨ (y = 2) ∨ (y = 3) ∨ (y = 4) ∨ (y = 5) ∨ (y = 6) ∨ (y = 7) ∨ (¬ y = 0 ∧ ¬ y = 2 ∧ ¬ y = 3 ∧ ¬ y = 4 ∧ ¬ y = 5 ∧ ¬ y = 6 ∧ ¬ y = 7) by omega) with hy | hy | hy | hy | hy | hy | hy | ⟨h0, h2, h3, h4, h5, h6, h7⟩
  · exact ports_0Q_ B y s w hI hy
  · exact ports_1Q_ B y s w hI hy
  · exact ports_2Q_ B y s w hI hy
  · exact ports_3Q_ B y s w hI hy
  · exact ports_4Q_ B y s w hI hy
  · exact ports_5Q_ B y s w hI hy
  · exact ports_6Q_ B y s w hI hy
  · exact ports_7Q_ B y s w hI h0 h2 h3 h4 h5 h6 h7
end Go.Proofs.YtnaampdpkegacaaGreatDoor
