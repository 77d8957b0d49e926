/-
  Contracts of next's small methods: fetches, reads, writes, numbers, the stack, A and F. A helper of the claim that stands beside it. (Printed by wip/genw.py.)
-/
import Derived.StillTailTactics
import Derived.Test.YtnaampdpkegacaaGreatDoorK
namespace Go.Proofs.YtnaampdpkegacaaGreatDoor
open Go.RowKit

def U16.inc (x : U16) (n : Int) : U16 := u16 (x.v + n)
theorem inc_fold (x : U16) : IntKind.u16.wrap (x.v + 1) = (x.inc 1).v := by simp only [IntKind.wrap_u16]; rfl
theorem dec_fold (x : U16) : IntKind.u16.wrap (x.v - 1) = (x.inc (-1)).v := by simp only [IntKind.wrap_u16]; rfl
theorem hiB_fold (x : U16) : hiB x.v = x.hi.v := rfl
theorem loB_fold (x : U16) : loB x.v = x.lo.v := rfl
theorem wrd_fold (x y : U8) : wrd x.v y.v = (x.word y).v := rfl
theorem e8_eq (x : U8) : e8 x = .int .u8 x.v := rfl
theorem e16_eq (x : U16) : e16 x = .int .u16 x.v := rfl
theorem eU_eq (x : Unit) : eU x = .tuple #[] := rfl
attribute [go_sem] inc_fold dec_fold hiB_fold loB_fold wrd_fold e8_eq e16_eq eU_eq
theorem still_tail {P : Program} {id : Nat} {Q : Exit → Act → World → Prop} {a : Act} {w : World} {l : List Oper} (n : Nat) (hm : P.follows .mixedOrders = true) (hB : Region.lexTailB .any l.toArray n = true)
    (h : wpStill P l.toArray w.drew (fun a' => wpList P l.toArray Q (l.drop n) a' w.drew) (l.take n) a) : (Code.region id l.toArray true).wp P Q a w :=
  wp_region_still_tail n hm hB h
theorem Inv.drew {B : Nat} {w : World} {gv : Value} {got : List U8} (h : Inv B w gv got) : Inv B w.drew gv got := h.kept (Below.refl _ _).drew
theorem Post.thru {α : Type} {B : Nat} {w0 w : World} {enc : α → Value} {m : Except Cyc (α × PS)} {Q : Ending → World → Prop} (hb0 : Below w0.heap.size w0 w)
    (h1 : ∀ c s1 w1, m = .error c → Below w0.heap.size w0 w1 → Inb B w1 → Q (.panicked (asked c)) (put w1 B (PS.cells s1)))
    (h2 : ∀ v s' w1, m = .ok (v, s') → Below w0.heap.size w0 w1 → Inv B w1 s'.gv s'.got → Inb B w1 → Q (.returned (enc v)) (put w1 B s'.cells)) : ∀ e w', Post B w enc m e w' → Q e w' :=
  Post.two (fun c s1 w1 hm hb hi => h1 c s1 w1 hm (bt hb0 hb) hi) (fun v s' w1 hm hb hI hi => h2 v s' w1 hm (bt hb0 hb) hI hi)

def fetchS : PM U8 := do
  let s ← PM.get
  let b ← cycleS ⟨1, s.r.pc, u8 0, 4⟩
  PM.mod fun s => { s with r := { s.r with pc := s.r.pc.inc 1 } }
  tickS
  pure b
set_option maxRecDepth 4000 in
theorem fetchW_ (B : Nat) (s : PS) (w : World) (hI : Inv B w s.gv s.got) : Calls Tryz.prog 25 #[.pointer (some ⟨B, 0, none⟩)] (put w B s.cells) (Post B w e8 (run fetchS s)) := by
  have hi := hI.inb
  have hb0 := Below.refl w.heap.size w
  go_enter Tryz.func25, Tryz.ntmps25
  go_wp2_with (first | (go_at_call 22; refine (cycle_ B ⟨1, s.r.pc, u8 0, 4⟩ _ _ (by assumption)).mono (Post.thru hb0 (fun c s1 w1 hq hb0 hi => ?_) (fun v s1 w1 hq hb0 hI hi => ?_))) | (go_at_call 23; refine (tick_ B  _ _ (by assumption)).mono (Post.thru hb0 (fun c s1 w1 hq hb0 hi => ?_) (fun v s1 w1 hq hb0 hI hi => ?_))))
  all_goals first
    | (refine ⟨rfl, Post.err _ ?_ hb0 hi⟩; simp [fetchS, *]; done)
    | (go_ret; refine Post.done ?_ rfl hb0 hI; simp [fetchS, *]; done)
def statesS (n : Int) : PM Unit := do
  let _ ← cycleS ⟨7, u16 0, u8 0, n⟩
  pure ()
set_option maxRecDepth 4000 in
theorem statesW_ (B : Nat) (n : Int) (s : PS) (w : World) (hI : Inv B w s.gv s.got) : Calls Tryz.prog 47 #[.pointer (some ⟨B, 0, none⟩), .int .i64 n] (put w B s.cells) (Post B w eU (run (statesS n) s)) := by
  have hi := hI.inb
  have hb0 := Below.refl w.heap.size w
  go_enter Tryz.func47, Tryz.ntmps47
  go_wp2_with (first | (go_at_call 22; refine (cycle_ B ⟨7, u16 0, u8 0, n⟩ _ _ (by assumption)).mono (Post.thru hb0 (fun c s1 w1 hq hb0 hi => ?_) (fun v s1 w1 hq hb0 hI hi => ?_))))
  all_goals first
    | (refine ⟨rfl, Post.err _ ?_ hb0 hi⟩; simp [statesS, *]; done)
    | (refine bodyPost_end (results_none rfl _ _ _) rfl (Post.done (v := ()) ?_ rfl hb0 hI); simp [statesS, *]; done)
def readS (a : U16) : PM U8 := do
  cycleS ⟨2, a, u8 0, 3⟩
set_option maxRecDepth 4000 in
theorem readW_ (B : Nat) (a : U16) (s : PS) (w : World) (hI : Inv B w s.gv s.got) : Calls Tryz.prog 75 #[.pointer (some ⟨B, 0, none⟩), .int .u16 a.v] (put w B s.cells) (Post B w e8 (run (readS a) s)) := by
  have hi := hI.inb
  have hb0 := Below.refl w.heap.size w
  go_enter Tryz.func75, Tryz.ntmps75
  go_wp2_with (first | (go_at_call 22; refine (cycle_ B ⟨2, a, u8 0, 3⟩ _ _ (by assumption)).mono (Post.thru hb0 (fun c s1 w1 hq hb0 hi => ?_) (fun v s1 w1 hq hb0 hI hi => ?_))))
  all_goals first
    | (refine ⟨rfl, Post.err _ ?_ hb0 hi⟩; simp [readS, *]; done)
    | (go_ret; refine Post.done ?_ rfl hb0 hI; simp [readS, *]; done)
def writeS (a : U16) (b : U8) : PM Unit := do
  let _ ← cycleS ⟨3, a, b, 3⟩
  pure ()
set_option maxRecDepth 4000 in
theorem writeW_ (B : Nat) (a : U16) (b : U8) (s : PS) (w : World) (hI : Inv B w s.gv s.got) : Calls Tryz.prog 131 #[.pointer (some ⟨B, 0, none⟩), .int .u16 a.v, .int .u8 b.v] (put w B s.cells) (Post B w eU (run (writeS a b) s)) := by
  have hi := hI.inb
  have hb0 := Below.refl w.heap.size w
  go_enter Tryz.func131, Tryz.ntmps131
  go_wp2_with (first | (go_at_call 22; refine (cycle_ B ⟨3, a, b, 3⟩ _ _ (by assumption)).mono (Post.thru hb0 (fun c s1 w1 hq hb0 hi => ?_) (fun v s1 w1 hq hb0 hI hi => ?_))))
  all_goals first
    | (refine ⟨rfl, Post.err _ ?_ hb0 hi⟩; simp [writeS, *]; done)
    | (refine bodyPost_end (results_none rfl _ _ _) rfl (Post.done (v := ()) ?_ rfl hb0 hI); simp [writeS, *]; done)
def inS (a : U16) : PM U8 := do
  cycleS ⟨4, a, u8 0, 4⟩
set_option maxRecDepth 4000 in
theorem inW_ (B : Nat) (a : U16) (s : PS) (w : World) (hI : Inv B w s.gv s.got) : Calls Tryz.prog 120 #[.pointer (some ⟨B, 0, none⟩), .int .u16 a.v] (put w B s.cells) (Post B w e8 (run (inS a) s)) := by
  have hi := hI.inb
  have hb0 := Below.refl w.heap.size w
  go_enter Tryz.func120, Tryz.ntmps120
  go_wp2_with (first | (go_at_call 22; refine (cycle_ B ⟨4, a, u8 0, 4⟩ _ _ (by assumption)).mono (Post.thru hb0 (fun c s1 w1 hq hb0 hi => ?_) (fun v s1 w1 hq hb0 hI hi => ?_))))
  all_goals first
    | (refine ⟨rfl, Post.err _ ?_ hb0 hi⟩; simp [inS, *]; done)
    | (go_ret; refine Post.done ?_ rfl hb0 hI; simp [inS, *]; done)
def outS (a : U16) (b : U8) : PM Unit := do
  let _ ← cycleS ⟨5, a, b, 4⟩
  pure ()
set_option maxRecDepth 4000 in
theorem outW_ (B : Nat) (a : U16) (b : U8) (s : PS) (w : World) (hI : Inv B w s.gv s.got) : Calls Tryz.prog 122 #[.pointer (some ⟨B, 0, none⟩), .int .u16 a.v, .int .u8 b.v] (put w B s.cells) (Post B w eU (run (outS a b) s)) := by
  have hi := hI.inb
  have hb0 := Below.refl w.heap.size w
  go_enter Tryz.func122, Tryz.ntmps122
  go_wp2_with (first | (go_at_call 22; refine (cycle_ B ⟨5, a, b, 4⟩ _ _ (by assumption)).mono (Post.thru hb0 (fun c s1 w1 hq hb0 hi => ?_) (fun v s1 w1 hq hb0 hI hi => ?_))))
  all_goals first
    | (refine ⟨rfl, Post.err _ ?_ hb0 hi⟩; simp [outS, *]; done)
    | (refine bodyPost_end (results_none rfl _ _ _) rfl (Post.done (v := ()) ?_ rfl hb0 hI); simp [outS, *]; done)
def numberS : PM U8 := do
  let s ← PM.get
  let b ← readS s.r.pc
  PM.mod fun s => { s with r := { s.r with pc := s.r.pc.inc 1 } }
  pure b
set_option maxRecDepth 4000 in
theorem numberW_ (B : Nat) (s : PS) (w : World) (hI : Inv B w s.gv s.got) : Calls Tryz.prog 46 #[.pointer (some ⟨B, 0, none⟩)] (put w B s.cells) (Post B w e8 (run numberS s)) := by
  have hi := hI.inb
  have hb0 := Below.refl w.heap.size w
  go_enter Tryz.func46, Tryz.ntmps46
  go_wp2_with (first | (go_at_call 75; refine (readW_ B _ _ _ (by assumption)).mono (Post.thru hb0 (fun c s1 w1 hq hb0 hi => ?_) (fun v s1 w1 hq hb0 hI hi => ?_))))
  all_goals first
    | (refine ⟨rfl, Post.err _ ?_ hb0 hi⟩; simp [numberS, *]; done)
    | (go_ret; refine Post.done ?_ rfl hb0 hI; simp [numberS, *]; done)
def wordS : PM U16 := do
  let lo ← numberS
  let hi ← numberS
  pure (hi.word lo)
set_option maxRecDepth 4000 in
theorem wordW_ (B : Nat) (s : PS) (w : World) (hI : Inv B w s.gv s.got) : Calls Tryz.prog 78 #[.pointer (some ⟨B, 0, none⟩)] (put w B s.cells) (Post B w e16 (run wordS s)) := by
  have hi := hI.inb
  have hb0 := Below.refl w.heap.size w
  go_enter Tryz.func78, Tryz.ntmps78
  go_wp2_with (first | (go_at_call 46; refine (numberW_ B  _ _ (by assumption)).mono (Post.thru hb0 (fun c s1 w1 hq hb0 hi => ?_) (fun v s1 w1 hq hb0 hI hi => ?_))) | (go_at_call 149; refine (word_ _ _ (U8.h0 _) (U8.h1 _) (U8.h0 _) (U8.h1 _) _).mono ?_; rintro e w1 ⟨rfl, rfl⟩))
  all_goals first
    | (refine ⟨rfl, Post.err _ ?_ hb0 hi⟩; simp [wordS, *]; done)
    | (go_ret; refine Post.done ?_ rfl hb0 hI; simp [wordS, *]; done)
def popS : PM U16 := do
  let s ← PM.get
  let lo ← readS s.r.sp
  PM.mod fun s => { s with r := { s.r with sp := s.r.sp.inc 1 } }
  let s ← PM.get
  let hi ← readS s.r.sp
  PM.mod fun s => { s with r := { s.r with sp := s.r.sp.inc 1 } }
  pure (hi.word lo)
set_option maxRecDepth 4000 in
theorem popW_ (B : Nat) (s : PS) (w : World) (hI : Inv B w s.gv s.got) : Calls Tryz.prog 169 #[.pointer (some ⟨B, 0, none⟩)] (put w B s.cells) (Post B w e16 (run popS s)) := by
  have hi := hI.inb
  have hb0 := Below.refl w.heap.size w
  go_enter Tryz.func169, Tryz.ntmps169
  go_wp2_with (first | (go_at_call 75; refine (readW_ B _ _ _ (by assumption)).mono (Post.thru hb0 (fun c s1 w1 hq hb0 hi => ?_) (fun v s1 w1 hq hb0 hI hi => ?_))) | (go_at_call 149; refine (word_ _ _ (U8.h0 _) (U8.h1 _) (U8.h0 _) (U8.h1 _) _).mono ?_; rintro e w1 ⟨rfl, rfl⟩))
  all_goals first
    | (refine ⟨rfl, Post.err _ ?_ hb0 hi⟩; simp [popS, *]; done)
    | (go_ret; refine Post.done ?_ rfl hb0 hI; simp [popS, *]; done)
set_option maxRecDepth 4000 in
theorem aW_ (B : Nat) (s : PS) (w : World) (hI : Inv B w s.gv s.got) : Calls Tryz.prog 128 #[.pointer (some ⟨B, 0, none⟩)] (put w B s.cells) fun e w' => e = .returned (.int .u8 s.r.af.hi.v) ∧ put w B s.cells = w' := by
  have hi := hI.inb
  have hb0 := Below.refl w.heap.size w
  go_enter Tryz.func128, Tryz.ntmps128
  go_wp2_with (first | (go_at_call 66; refine (hi_ _ _).mono ?_; rintro e w1 ⟨rfl, rfl⟩))
  go_ret
  exact ⟨rfl, rfl⟩
set_option maxRecDepth 4000 in
theorem fW_ (B : Nat) (s : PS) (w : World) (hI : Inv B w s.gv s.got) : Calls Tryz.prog 68 #[.pointer (some ⟨B, 0, none⟩)] (put w B s.cells) fun e w' => e = .returned (.int .u8 s.r.af.lo.v) ∧ put w B s.cells = w' := by
  have hi := hI.inb
  have hb0 := Below.refl w.heap.size w
  go_enter Tryz.func68, Tryz.ntmps68
  go_wp2_with (first | (go_at_call 136; refine (lo_ _ _).mono ?_; rintro e w1 ⟨rfl, rfl⟩))
  go_ret
  exact ⟨rfl, rfl⟩
def putS (a : U8) (f : U8) : PM Unit := do
  PM.mod fun s => { s with r := { s.r with af := a.word f } }
set_option maxRecDepth 4000 in
theorem putW_ (B : Nat) (a : U8) (f : U8) (s : PS) (w : World) (hI : Inv B w s.gv s.got) : Calls Tryz.prog 126 #[.pointer (some ⟨B, 0, none⟩), .int .u8 a.v, .int .u8 f.v] (put w B s.cells) (Post B w eU (run (putS a f) s)) := by
  have hi := hI.inb
  have hb0 := Below.refl w.heap.size w
  go_enter Tryz.func126, Tryz.ntmps126
  go_wp2_with (first | (go_at_call 149; refine (word_ _ _ (U8.h0 _) (U8.h1 _) (U8.h0 _) (U8.h1 _) _).mono ?_; rintro e w1 ⟨rfl, rfl⟩))
  all_goals first
    | (refine ⟨rfl, Post.err _ ?_ hb0 hi⟩; simp [putS, *]; done)
    | (refine bodyPost_end (results_none rfl _ _ _) rfl (Post.done (v := ()) ?_ rfl hb0 hI); simp [putS, *]; done)
def flagS (f : U8) : PM Unit := do
  let s ← PM.get
  putS s.r.af.hi f
set_option maxRecDepth 4000 in
theorem flagW_ (B : Nat) (f : U8) (s : PS) (w : World) (hI : Inv B w s.gv s.got) : Calls Tryz.prog 69 #[.pointer (some ⟨B, 0, none⟩), .int .u8 f.v] (put w B s.cells) (Post B w eU (run (flagS f) s)) := by
  have hi := hI.inb
  have hb0 := Below.refl w.heap.size w
  go_enter Tryz.func69, Tryz.ntmps69
  go_wp2_with (first | (go_at_call 128; refine (aW_ B _ _ (by assumption)).mono ?_; rintro e w1 ⟨rfl, rfl⟩) | (go_at_call 126; refine (putW_ B _ _ _ _ (by assumption)).mono (Post.thru hb0 (fun c s1 w1 hq hb0 hi => ?_) (fun v s1 w1 hq hb0 hI hi => ?_))))
  all_goals first
    | (refine ⟨rfl, Post.err _ ?_ hb0 hi⟩; simp [flagS, *]; done)
    | (refine bodyPost_end (results_none rfl _ _ _) rfl (Post.done (v := ()) ?_ rfl hb0 hI); simp [flagS, *]; done)
def pushS (x : U16) : PM Unit := do
  PM.mod fun s => { s with r := { s.r with sp := s.r.sp.inc (-1) } }
  let s ← PM.get
  writeS s.r.sp x.hi
  PM.mod fun s => { s with r := { s.r with sp := s.r.sp.inc (-1) } }
  let s ← PM.get
  writeS s.r.sp x.lo
set_option maxRecDepth 4000 in
theorem pushW_ (B : Nat) (x : U16) (s : PS) (w : World) (hI : Inv B w s.gv s.got) : Calls Tryz.prog 93 #[.pointer (some ⟨B, 0, none⟩), .int .u16 x.v] (put w B s.cells) (Post B w eU (run (pushS x) s)) := by
  have hi := hI.inb
  have hb0 := Below.refl w.heap.size w
  go_enter Tryz.func93, Tryz.ntmps93
  go_wp2_with fail
  refine still_tail 8 (by kernel_rfl) (by kernel_rfl) ?_
  simp only [List.take_succ_cons, List.take_zero, List.drop_succ_cons, List.drop_zero, put_drew]
  replace hb0 := bt hb0 (Below.refl _ _).drew
  replace hI := Inv.drew hI
  replace hi := Inv.inb hI
  repeat (first | still_step | (refine wpStill_step (fun K hK => ?_); go_simp; refine ⟨_, (hi_ _ _).mono (fun e w' h => ⟨h.1, h.2.symm⟩), hK _ ?_⟩; clear hK K))
  refine wpStill_nil ?_
  go_wp2_with (first | (go_at_call 131; refine (writeW_ B _ _ _ _ (by assumption)).mono (Post.thru hb0 (fun c s1 w1 hq hb0 hi => ?_) (fun v s1 w1 hq hb0 hI hi => ?_))))
  · exact ⟨rfl, Post.err _ (by simp [pushS, *]) hb0 hi⟩
  refine still_tail 8 (by kernel_rfl) (by kernel_rfl) ?_
  simp only [List.take_succ_cons, List.take_zero, List.drop_succ_cons, List.drop_zero, put_drew]
  replace hb0 := bt hb0 (Below.refl _ _).drew
  replace hI := Inv.drew hI
  replace hi := Inv.inb hI
  repeat (first | still_step | (refine wpStill_step (fun K hK => ?_); go_simp; refine ⟨_, (lo_ _ _).mono (fun e w' h => ⟨h.1, h.2.symm⟩), hK _ ?_⟩; clear hK K))
  refine wpStill_nil ?_
  go_wp2_with (first | (go_at_call 131; refine (writeW_ B _ _ _ _ (by assumption)).mono (Post.thru hb0 (fun c s1 w1 hq hb0 hi => ?_) (fun v s1 w1 hq hb0 hI hi => ?_))))
  · exact ⟨rfl, Post.err _ (by simp [pushS, *]) hb0 hi⟩
  · exact bodyPost_end (results_none rfl _ _ _) rfl (Post.done (v := ()) (by simp [pushS, *]) rfl hb0 hI)
end Go.Proofs.YtnaampdpkegacaaGreatDoor
