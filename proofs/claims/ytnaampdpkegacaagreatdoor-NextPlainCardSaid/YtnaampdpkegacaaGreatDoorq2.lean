/-
  How many cycles each part of next takes, that they are good, and the plain laws of NextEnds and NextPlain. A helper of the claims that stand beside it.
-/
import Derived.Test.YtnaampdpkegacaaGreatDoorh1
import Derived.Test.YtnaampdpkegacaaGreatDoork1

namespace Go.Proofs.YtnaampdpkegacaaGreatDoor
open Go.RowKit

/-- A cycle that sends, or states within. -/
def sends (c : Cyc) : Bool := decide (c.kind = 3) || decide (c.kind = 5) || decide (c.kind = 7)
/-- What is said of a cycle that is asked for. -/
def COk (c : Cyc) : Prop := 1 ≤ c.t ∧ c.t ≤ 7 ∧ 1 ≤ c.kind ∧ c.kind ≤ 7 ∧ (c.kind ≠ 3 → c.kind ≠ 5 → c.data = u8 0)
def T.Gd {α : Type} : Nat → T α → Prop
  | _, .ret _ => True
  | 0, .ask _ _ => False
  | n + 1, .ask c k => COk c ∧ (∀ b, (k b).Gd n) ∧ (sends c = true → ∀ b b', k b = k b')
theorem T.Gd.le {α : Type} : ∀ (t : T α) {n m : Nat}, t.Gd n → n ≤ m → t.Gd m
  | .ret _, 0, 0, _, _ => True.intro
  | .ret _, 0, _ + 1, _, _ => True.intro
  | .ret _, _ + 1, 0, _, _ => True.intro
  | .ret _, _ + 1, _ + 1, _, _ => True.intro
  | .ask _ _, 0, _, h, _ => h.elim
  | .ask _ k, n + 1, 0, _, hl => absurd hl (by omega)
  | .ask _ k, n + 1, m + 1, h, hl => ⟨h.1, fun b => T.Gd.le (k b) (h.2.1 b) (by omega), h.2.2⟩
theorem T.gd_ret {α : Type} (n : Nat) (a : α) : (T.ret a).Gd n := by cases n <;> exact True.intro
theorem T.Gd.bind {α β : Type} {f : α → T β} {m : Nat} (hf : ∀ a, (f a).Gd m) : ∀ (t : T α) {n : Nat}, t.Gd n → (t.bind f).Gd (m + n)
  | .ret a, n, _ => T.Gd.le _ (hf a) (Nat.le_add_right _ _)
  | .ask _ _, 0, h => h.elim
  | .ask _ k, n + 1, h => ⟨h.1, fun b => T.Gd.bind hf (k b) (h.2.1 b), fun hs b b' => by show (k b).bind f = (k b').bind f; rw [h.2.2 hs b b']⟩
/-- Of so many answers it comes to its end. -/
theorem T.Gd.ends {α : Type} : ∀ (t : T α) {n : Nat} (l : List U8), t.Gd n → n ≤ l.length → ∃ a l', t.exec l = .ok (a, l')
  | .ret a, _, l, _, _ => ⟨a, l, rfl⟩
  | .ask _ _, 0, _, h, _ => h.elim
  | .ask _ _, n + 1, [], _, hl => absurd hl (by simp)
  | .ask _ k, n + 1, b :: l, h, hl => T.Gd.ends (k b) l (h.2.1 b) (by simpa using hl)
theorem T.Gd.okAt {α : Type} : ∀ (t : T α) {n : Nat} (l : List U8) {c : Cyc}, t.Gd n → t.exec l = .error c → COk c
  | .ret _, _, _, _, _, e => by cases e
  | .ask _ _, 0, _, _, h, _ => h.elim
  | .ask _ _, n + 1, [], _, h, e => by cases e; exact h.1
  | .ask _ k, n + 1, b :: l, _, h, e => T.Gd.okAt (k b) l (h.2.1 b) e
/-- Once at its end, more answers change nothing. -/
theorem T.exec_more {α : Type} : ∀ (t : T α) (l m : List U8) {a : α} {l' : List U8}, t.exec l = .ok (a, l') → t.exec (l ++ m) = .ok (a, l' ++ m)
  | .ret _, _, _, _, _, e => by cases e; rfl
  | .ask _ _, [], _, _, _, e => by cases e
  | .ask _ k, b :: l, m, _, _, e => T.exec_more (k b) l m e
/-- Two rows of answers that differ at most at what sends. -/
inductive Alike {α : Type} : T α → List U8 → List U8 → Prop
  | nil (t : T α) : Alike t [] []
  | ret (a : α) (l m : List U8) : Alike (.ret a) l m
  | cons {c : Cyc} {k : U8 → T α} {b b' : U8} {l m : List U8} (h : sends c = true ∨ b = b') (hk : Alike (k b) l m) : Alike (.ask c k) (b :: l) (b' :: m)
theorem Alike.exec {α : Type} {t : T α} {l m : List U8} (h : Alike t l m) : ∀ {n : Nat}, t.Gd n → (∀ c, t.exec l = .error c → t.exec m = .error c) ∧ (∀ a l', t.exec l = .ok (a, l') → ∃ m', t.exec m = .ok (a, m')) := by
  induction h with
  | nil t => exact fun _ => ⟨fun _ e => e, fun a l' e => ⟨l', e⟩⟩
  | ret a l m => exact fun _ => ⟨fun _ e => (by cases e), fun b l' e => (by cases e; exact ⟨m, rfl⟩)⟩
  | @cons c k b b' l m h hk ih =>
    intro n hg
    cases n with
    | zero => exact hg.elim
    | succ n =>
      have e : k b = k b' := by
        rcases h with h | h
        · exact hg.2.2 h b b'
        · rw [h]
      obtain ⟨i1, i2⟩ := ih (hg.2.1 b)
      refine ⟨fun c' ec => ?_, fun a l' ea => ?_⟩
      · show (k b').exec m = _
        rw [← e]
        exact i1 c' ec
      · show ∃ m', (k b').exec m = _
        rw [← e]
        exact i2 a l' ea
/-- One answer more: as it was asked. -/
theorem Alike.more {α : Type} {t : T α} {l m : List U8} (h : Alike t l m) : ∀ {n : Nat} {c : Cyc} {b b' : U8}, t.Gd n → t.exec l = .error c → (sends c = true ∨ b = b') → Alike t (l ++ [b]) (m ++ [b']) := by
  induction h with
  | nil t =>
    intro n c b b' _ e hs
    cases t with
    | ret a => cases e
    | ask c' k => cases e; exact .cons hs (.nil _)
  | ret a l m => intro n c b b' _ e; cases e
  | @cons c0 k b0 b0' l m h hk ih =>
    intro n c b b' hg e hs
    cases n with
    | zero => exact hg.elim
    | succ n => exact .cons h (ih (hg.2.1 b0) e hs)

def Gd {α : Type} (n : Nat) (m : PM α) : Prop := ∀ s, (m s).Gd n
theorem gd_pure {α : Type} (n : Nat) (a : α) : Gd n (pure a : PM α) := fun s => T.gd_ret n (a, s)
theorem gd_get (n : Nat) : Gd n PM.get := fun s => T.gd_ret n (s, s)
theorem gd_mod (n : Nat) (g : CS → CS) : Gd n (PM.mod g) := fun s => T.gd_ret n ((), g s)
theorem gd_le {α : Type} {k N : Nat} {m : PM α} (h : Gd k m) (hl : k ≤ N) : Gd N m := fun s => (h s).le _ hl
theorem gd_bind {α β : Type} {k N : Nat} {m : PM α} {f : α → PM β} (h : Gd k m) (hl : k ≤ N) (hf : ∀ a, Gd (N - k) (f a)) : Gd N (m >>= f) := fun s => by
  have := T.Gd.bind (f := fun p => f p.1 p.2) (fun p => hf p.1 p.2) (m s) (h s)
  rw [Nat.sub_add_cancel hl] at this
  exact this
theorem gd_ite {α : Type} {N : Nat} {p : Prop} [Decidable p] {m n : PM α} (h : Gd N m) (k : Gd N n) : Gd N (if p then m else n) := by split <;> assumption
theorem gd_ask {c : Cyc} (h : COk c) (hs : sends c = false) : Gd 1 (cycleS c) := fun s => ⟨h, fun b => T.gd_ret 0 (b, s), fun e => by rw [hs] at e; cases e⟩
theorem gd_send {c : Cyc} (h : COk c) : Gd 1 (do let _ ← cycleS c; pure () : PM Unit) := fun s => ⟨h, fun _ => T.gd_ret 0 ((), s), fun _ _ _ => rfl⟩
theorem gd_tick : Gd 0 tickS := gd_mod _ _
theorem gd_read (a : U16) : Gd 1 (readS a) := gd_ask ⟨by dsimp only; omega, by dsimp only; omega, by dsimp only; omega, by dsimp only; omega, fun _ _ => rfl⟩ rfl
theorem gd_in (a : U16) : Gd 1 (inS a) := gd_ask ⟨by dsimp only; omega, by dsimp only; omega, by dsimp only; omega, by dsimp only; omega, fun _ _ => rfl⟩ rfl
theorem gd_write (a : U16) (b : U8) : Gd 1 (writeS a b) := gd_send ⟨by dsimp only; omega, by dsimp only; omega, by dsimp only; omega, by dsimp only; omega, fun h => absurd rfl h⟩
theorem gd_out (a : U16) (b : U8) : Gd 1 (outS a b) := gd_send ⟨by dsimp only; omega, by dsimp only; omega, by dsimp only; omega, by dsimp only; omega, fun _ h => absurd rfl h⟩
theorem gd_states (n : Int) (h1 : 1 ≤ n) (h2 : n ≤ 7) : Gd 1 (statesS n) := gd_send ⟨h1, h2, by dsimp only; omega, by dsimp only; omega, fun _ _ => rfl⟩
theorem gd_fcyc (a : U16) : Gd 1 (cycleS ⟨1, a, u8 0, 4⟩) := gd_ask ⟨by dsimp only; omega, by dsimp only; omega, by dsimp only; omega, by dsimp only; omega, fun _ _ => rfl⟩ rfl
theorem gd_fetchS  : Gd 1 fetchS := by
  unfold fetchS
  repeat (first | with_reducible refine gd_ite ?_ ?_ | with_reducible exact gd_pure _ _ | with_reducible exact gd_get _ | with_reducible exact gd_mod _ _ | with_reducible refine gd_bind (gd_get 0) (by decide) fun _ => ?_ | with_reducible refine gd_bind (gd_mod 0 _) (by decide) fun _ => ?_ | with_reducible refine gd_bind (gd_pure 0 _) (by decide) fun _ => ?_ | with_reducible refine gd_bind (gd_tick) (by decide) fun _ => ?_ | with_reducible refine gd_bind (gd_fcyc _) (by decide) fun _ => ?_ | with_reducible exact gd_le (gd_tick) (by decide) | with_reducible exact gd_le (gd_fcyc _) (by decide) | dsimp only)
theorem gd_numberS  : Gd 1 numberS := by
  unfold numberS
  repeat (first | with_reducible refine gd_ite ?_ ?_ | with_reducible exact gd_pure _ _ | with_reducible exact gd_get _ | with_reducible exact gd_mod _ _ | with_reducible refine gd_bind (gd_get 0) (by decide) fun _ => ?_ | with_reducible refine gd_bind (gd_mod 0 _) (by decide) fun _ => ?_ | with_reducible refine gd_bind (gd_pure 0 _) (by decide) fun _ => ?_ | with_reducible refine gd_bind (gd_read _) (by decide) fun _ => ?_ | with_reducible exact gd_le (gd_read _) (by decide) | dsimp only)
theorem gd_wordS  : Gd 2 wordS := by
  unfold wordS
  repeat (first | with_reducible refine gd_ite ?_ ?_ | with_reducible exact gd_pure _ _ | with_reducible exact gd_get _ | with_reducible exact gd_mod _ _ | with_reducible refine gd_bind (gd_pure 0 _) (by decide) fun _ => ?_ | with_reducible refine gd_bind (gd_numberS) (by decide) fun _ => ?_ | with_reducible exact gd_le (gd_numberS) (by decide) | dsimp only)
theorem gd_popS  : Gd 2 popS := by
  unfold popS
  repeat (first | with_reducible refine gd_ite ?_ ?_ | with_reducible exact gd_pure _ _ | with_reducible exact gd_get _ | with_reducible exact gd_mod _ _ | with_reducible refine gd_bind (gd_get 0) (by decide) fun _ => ?_ | with_reducible refine gd_bind (gd_mod 0 _) (by decide) fun _ => ?_ | with_reducible refine gd_bind (gd_pure 0 _) (by decide) fun _ => ?_ | with_reducible refine gd_bind (gd_read _) (by decide) fun _ => ?_ | with_reducible exact gd_le (gd_read _) (by decide) | dsimp only)
theorem gd_putS (a f : U8) : Gd 0 (putS a f) := by
  unfold putS
  repeat (first | with_reducible refine gd_ite ?_ ?_ | with_reducible exact gd_pure _ _ | with_reducible exact gd_get _ | with_reducible exact gd_mod _ _ | with_reducible refine gd_bind (gd_mod 0 _) (by decide) fun _ => ?_ | dsimp only)
theorem gd_flagS (f : U8) : Gd 0 (flagS f) := by
  unfold flagS
  repeat (first | with_reducible refine gd_ite ?_ ?_ | with_reducible exact gd_pure _ _ | with_reducible exact gd_get _ | with_reducible exact gd_mod _ _ | with_reducible refine gd_bind (gd_get 0) (by decide) fun _ => ?_ | with_reducible refine gd_bind (gd_putS _ _) (by decide) fun _ => ?_ | with_reducible exact gd_le (gd_putS _ _) (by decide) | dsimp only)
theorem gd_pushS (x : U16) : Gd 2 (pushS x) := by
  unfold pushS
  repeat (first | with_reducible refine gd_ite ?_ ?_ | with_reducible exact gd_pure _ _ | with_reducible exact gd_get _ | with_reducible exact gd_mod _ _ | with_reducible refine gd_bind (gd_get 0) (by decide) fun _ => ?_ | with_reducible refine gd_bind (gd_mod 0 _) (by decide) fun _ => ?_ | with_reducible refine gd_bind (gd_write _ _) (by decide) fun _ => ?_ | with_reducible exact gd_le (gd_write _ _) (by decide) | dsimp only)
theorem gd_ofS (p : Int) (c : U8) : Gd 0 (ofS p c) := by
  unfold ofS
  repeat (first | with_reducible refine gd_ite ?_ ?_ | with_reducible exact gd_pure _ _ | with_reducible exact gd_get _ | with_reducible exact gd_mod _ _ | with_reducible refine gd_bind (gd_mod 0 _) (by decide) fun _ => ?_ | dsimp only)
theorem gd_mvS (b : U8) : Gd 0 (mvS b) := by
  unfold mvS
  repeat (first | with_reducible refine gd_ite ?_ ?_ | with_reducible exact gd_pure _ _ | with_reducible exact gd_get _ | with_reducible exact gd_mod _ _ | with_reducible refine gd_bind (gd_mod 0 _) (by decide) fun _ => ?_ | dsimp only)
theorem gd_setPairS (p : Int) (v : U16) : Gd 0 (setPairS p v) := by
  unfold setPairS
  repeat (first | with_reducible refine gd_ite ?_ ?_ | with_reducible exact gd_pure _ _ | with_reducible exact gd_get _ | with_reducible exact gd_mod _ _ | with_reducible refine gd_bind (gd_mod 0 _) (by decide) fun _ => ?_ | dsimp only)
theorem gd_whereS  : Gd 2 whereS := by
  unfold whereS
  repeat (first | with_reducible refine gd_ite ?_ ?_ | with_reducible exact gd_pure _ _ | with_reducible exact gd_get _ | with_reducible exact gd_mod _ _ | with_reducible refine gd_bind (gd_get 0) (by decide) fun _ => ?_ | with_reducible refine gd_bind (gd_mod 0 _) (by decide) fun _ => ?_ | with_reducible refine gd_bind (gd_pure 0 _) (by decide) fun _ => ?_ | with_reducible refine gd_bind (gd_states _ (by decide) (by decide)) (by decide) fun _ => ?_ | with_reducible refine gd_bind (gd_numberS) (by decide) fun _ => ?_ | with_reducible refine gd_bind (gd_mvS _) (by decide) fun _ => ?_ | with_reducible exact gd_le (gd_states _ (by decide) (by decide)) (by decide) | with_reducible exact gd_le (gd_numberS) (by decide) | with_reducible exact gd_le (gd_mvS _) (by decide) | dsimp only)
theorem gd_getS (k : Int) : Gd 3 (getS k) := by
  unfold getS
  repeat (first | with_reducible refine gd_ite ?_ ?_ | with_reducible exact gd_pure _ _ | with_reducible exact gd_get _ | with_reducible exact gd_mod _ _ | with_reducible refine gd_bind (gd_get 0) (by decide) fun _ => ?_ | with_reducible refine gd_bind (gd_pure 0 _) (by decide) fun _ => ?_ | with_reducible refine gd_bind (gd_read _) (by decide) fun _ => ?_ | with_reducible refine gd_bind (gd_whereS) (by decide) fun _ => ?_ | with_reducible exact gd_le (gd_read _) (by decide) | with_reducible exact gd_le (gd_whereS) (by decide) | dsimp only)
theorem gd_setS (k : Int) (b : U8) : Gd 3 (setS k b) := by
  unfold setS
  repeat (first | with_reducible refine gd_ite ?_ ?_ | with_reducible exact gd_pure _ _ | with_reducible exact gd_get _ | with_reducible exact gd_mod _ _ | with_reducible refine gd_bind (gd_mod 0 _) (by decide) fun _ => ?_ | with_reducible refine gd_bind (gd_write _ _) (by decide) fun _ => ?_ | with_reducible refine gd_bind (gd_whereS) (by decide) fun _ => ?_ | with_reducible exact gd_le (gd_write _ _) (by decide) | with_reducible exact gd_le (gd_whereS) (by decide) | dsimp only)
theorem gd_hopS (i : Bool) : Gd 2 (hopS i) := by
  unfold hopS
  repeat (first | with_reducible refine gd_ite ?_ ?_ | with_reducible exact gd_pure _ _ | with_reducible exact gd_get _ | with_reducible exact gd_mod _ _ | with_reducible refine gd_bind (gd_mod 0 _) (by decide) fun _ => ?_ | with_reducible refine gd_bind (gd_pure 0 _) (by decide) fun _ => ?_ | with_reducible refine gd_bind (gd_states _ (by decide) (by decide)) (by decide) fun _ => ?_ | with_reducible refine gd_bind (gd_numberS) (by decide) fun _ => ?_ | with_reducible exact gd_le (gd_states _ (by decide) (by decide)) (by decide) | with_reducible exact gd_le (gd_numberS) (by decide) | dsimp only)
theorem gd_backS  : Gd 2 backS := by
  unfold backS
  repeat (first | with_reducible refine gd_ite ?_ ?_ | with_reducible exact gd_pure _ _ | with_reducible exact gd_get _ | with_reducible exact gd_mod _ _ | with_reducible refine gd_bind (gd_mod 0 _) (by decide) fun _ => ?_ | with_reducible refine gd_bind (gd_popS) (by decide) fun _ => ?_ | with_reducible exact gd_le (gd_popS) (by decide) | dsimp only)
theorem gd_callS (i : Bool) : Gd 5 (callS i) := by
  unfold callS
  repeat (first | with_reducible refine gd_ite ?_ ?_ | with_reducible exact gd_pure _ _ | with_reducible exact gd_get _ | with_reducible exact gd_mod _ _ | with_reducible refine gd_bind (gd_get 0) (by decide) fun _ => ?_ | with_reducible refine gd_bind (gd_mod 0 _) (by decide) fun _ => ?_ | with_reducible refine gd_bind (gd_pure 0 _) (by decide) fun _ => ?_ | with_reducible refine gd_bind (gd_states _ (by decide) (by decide)) (by decide) fun _ => ?_ | with_reducible refine gd_bind (gd_wordS) (by decide) fun _ => ?_ | with_reducible refine gd_bind (gd_pushS _) (by decide) fun _ => ?_ | with_reducible exact gd_le (gd_states _ (by decide) (by decide)) (by decide) | with_reducible exact gd_le (gd_wordS) (by decide) | with_reducible exact gd_le (gd_pushS _) (by decide) | dsimp only)
theorem gd_besideS (a : U16) : Gd 0 (besideS a) := by
  unfold besideS
  repeat (first | with_reducible refine gd_ite ?_ ?_ | with_reducible exact gd_pure _ _ | with_reducible exact gd_get _ | with_reducible exact gd_mod _ _ | with_reducible refine gd_bind (gd_mod 0 _) (by decide) fun _ => ?_ | dsimp only)
theorem gd_pairAtS  : Gd 2 pairAtS := by
  unfold pairAtS
  repeat (first | with_reducible refine gd_ite ?_ ?_ | with_reducible exact gd_pure _ _ | with_reducible exact gd_get _ | with_reducible exact gd_mod _ _ | with_reducible refine gd_bind (gd_get 0) (by decide) fun _ => ?_ | with_reducible refine gd_bind (gd_pure 0 _) (by decide) fun _ => ?_ | with_reducible refine gd_bind (gd_wordS) (by decide) fun _ => ?_ | with_reducible exact gd_le (gd_wordS) (by decide) | dsimp only)
theorem gd_hopsS  : Gd 3 hopsS := by
  unfold hopsS
  repeat (first | with_reducible refine gd_ite ?_ ?_ | with_reducible exact gd_pure _ _ | with_reducible exact gd_get _ | with_reducible exact gd_mod _ _ | with_reducible refine gd_bind (gd_get 0) (by decide) fun _ => ?_ | with_reducible refine gd_bind (gd_mod 0 _) (by decide) fun _ => ?_ | with_reducible refine gd_bind (gd_pure 0 _) (by decide) fun _ => ?_ | with_reducible refine gd_bind (gd_states _ (by decide) (by decide)) (by decide) fun _ => ?_ | with_reducible refine gd_bind (gd_hopS _) (by decide) fun _ => ?_ | with_reducible exact gd_le (gd_states _ (by decide) (by decide)) (by decide) | with_reducible exact gd_le (gd_hopS _) (by decide) | dsimp only)
theorem gd_storesS  : Gd 4 storesS := by
  unfold storesS
  repeat (first | with_reducible refine gd_ite ?_ ?_ | with_reducible exact gd_pure _ _ | with_reducible exact gd_get _ | with_reducible exact gd_mod _ _ | with_reducible refine gd_bind (gd_get 0) (by decide) fun _ => ?_ | with_reducible refine gd_bind (gd_mod 0 _) (by decide) fun _ => ?_ | with_reducible refine gd_bind (gd_read _) (by decide) fun _ => ?_ | with_reducible refine gd_bind (gd_write _ _) (by decide) fun _ => ?_ | with_reducible refine gd_bind (gd_putS _ _) (by decide) fun _ => ?_ | with_reducible refine gd_bind (gd_setPairS _ _) (by decide) fun _ => ?_ | with_reducible refine gd_bind (gd_besideS _) (by decide) fun _ => ?_ | with_reducible refine gd_bind (gd_pairAtS) (by decide) fun _ => ?_ | with_reducible exact gd_le (gd_read _) (by decide) | with_reducible exact gd_le (gd_write _ _) (by decide) | with_reducible exact gd_le (gd_putS _ _) (by decide) | with_reducible exact gd_le (gd_setPairS _ _) (by decide) | with_reducible exact gd_le (gd_besideS _) (by decide) | with_reducible exact gd_le (gd_pairAtS) (by decide) | dsimp only)
theorem gd_stepIncS  : Gd 7 stepIncS := by
  unfold stepIncS
  repeat (first | with_reducible refine gd_ite ?_ ?_ | with_reducible exact gd_pure _ _ | with_reducible exact gd_get _ | with_reducible exact gd_mod _ _ | with_reducible refine gd_bind (gd_get 0) (by decide) fun _ => ?_ | with_reducible refine gd_bind (gd_states _ (by decide) (by decide)) (by decide) fun _ => ?_ | with_reducible refine gd_bind (gd_flagS _) (by decide) fun _ => ?_ | with_reducible refine gd_bind (gd_getS _) (by decide) fun _ => ?_ | with_reducible refine gd_bind (gd_setS _ _) (by decide) fun _ => ?_ | with_reducible exact gd_le (gd_states _ (by decide) (by decide)) (by decide) | with_reducible exact gd_le (gd_flagS _) (by decide) | with_reducible exact gd_le (gd_getS _) (by decide) | with_reducible exact gd_le (gd_setS _ _) (by decide) | dsimp only)
theorem gd_stepDecS  : Gd 7 stepDecS := by
  unfold stepDecS
  repeat (first | with_reducible refine gd_ite ?_ ?_ | with_reducible exact gd_pure _ _ | with_reducible exact gd_get _ | with_reducible exact gd_mod _ _ | with_reducible refine gd_bind (gd_get 0) (by decide) fun _ => ?_ | with_reducible refine gd_bind (gd_states _ (by decide) (by decide)) (by decide) fun _ => ?_ | with_reducible refine gd_bind (gd_flagS _) (by decide) fun _ => ?_ | with_reducible refine gd_bind (gd_getS _) (by decide) fun _ => ?_ | with_reducible refine gd_bind (gd_setS _ _) (by decide) fun _ => ?_ | with_reducible exact gd_le (gd_states _ (by decide) (by decide)) (by decide) | with_reducible exact gd_le (gd_flagS _) (by decide) | with_reducible exact gd_le (gd_getS _) (by decide) | with_reducible exact gd_le (gd_setS _ _) (by decide) | dsimp only)
theorem gd_loadS  : Gd 6 loadS := by
  unfold loadS
  repeat (first | with_reducible refine gd_ite ?_ ?_ | with_reducible exact gd_pure _ _ | with_reducible exact gd_get _ | with_reducible exact gd_mod _ _ | with_reducible refine gd_bind (gd_get 0) (by decide) fun _ => ?_ | with_reducible refine gd_bind (gd_states _ (by decide) (by decide)) (by decide) fun _ => ?_ | with_reducible refine gd_bind (gd_numberS) (by decide) fun _ => ?_ | with_reducible refine gd_bind (gd_mvS _) (by decide) fun _ => ?_ | with_reducible refine gd_bind (gd_setS _ _) (by decide) fun _ => ?_ | with_reducible exact gd_le (gd_states _ (by decide) (by decide)) (by decide) | with_reducible exact gd_le (gd_numberS) (by decide) | with_reducible exact gd_le (gd_mvS _) (by decide) | with_reducible exact gd_le (gd_setS _ _) (by decide) | dsimp only)
theorem gd_turnS  : Gd 0 turnS := by
  unfold turnS
  repeat (first | with_reducible refine gd_ite ?_ ?_ | with_reducible exact gd_pure _ _ | with_reducible exact gd_get _ | with_reducible exact gd_mod _ _ | with_reducible refine gd_bind (gd_get 0) (by decide) fun _ => ?_ | with_reducible refine gd_bind (gd_putS _ _) (by decide) fun _ => ?_ | with_reducible refine gd_bind (gd_flagS _) (by decide) fun _ => ?_ | with_reducible exact gd_le (gd_putS _ _) (by decide) | with_reducible exact gd_le (gd_flagS _) (by decide) | dsimp only)
theorem gd_addS (k : Int) (b : U8) : Gd 0 (addS k b) := by
  unfold addS
  repeat (first | with_reducible refine gd_ite ?_ ?_ | with_reducible exact gd_pure _ _ | with_reducible exact gd_get _ | with_reducible exact gd_mod _ _ | with_reducible refine gd_bind (gd_get 0) (by decide) fun _ => ?_ | with_reducible refine gd_bind (gd_putS _ _) (by decide) fun _ => ?_ | with_reducible refine gd_bind (gd_flagS _) (by decide) fun _ => ?_ | with_reducible exact gd_le (gd_putS _ _) (by decide) | with_reducible exact gd_le (gd_flagS _) (by decide) | dsimp only)
theorem gd_moveS  : Gd 6 moveS := by
  unfold moveS
  repeat (first | with_reducible refine gd_ite ?_ ?_ | with_reducible exact gd_pure _ _ | with_reducible exact gd_get _ | with_reducible exact gd_mod _ _ | with_reducible refine gd_bind (gd_get 0) (by decide) fun _ => ?_ | with_reducible refine gd_bind (gd_mod 0 _) (by decide) fun _ => ?_ | with_reducible refine gd_bind (gd_getS _) (by decide) fun _ => ?_ | with_reducible refine gd_bind (gd_setS _ _) (by decide) fun _ => ?_ | with_reducible exact gd_le (gd_getS _) (by decide) | with_reducible exact gd_le (gd_setS _ _) (by decide) | dsimp only)
theorem gd_sumsS  : Gd 3 sumsS := by
  unfold sumsS
  repeat (first | with_reducible refine gd_ite ?_ ?_ | with_reducible exact gd_pure _ _ | with_reducible exact gd_get _ | with_reducible exact gd_mod _ _ | with_reducible refine gd_bind (gd_get 0) (by decide) fun _ => ?_ | with_reducible refine gd_bind (gd_getS _) (by decide) fun _ => ?_ | with_reducible refine gd_bind (gd_addS _ _) (by decide) fun _ => ?_ | with_reducible exact gd_le (gd_getS _) (by decide) | with_reducible exact gd_le (gd_addS _ _) (by decide) | dsimp only)
set_option maxHeartbeats 1000000 in
theorem gd_lowS  : Gd 7 lowS := by
  unfold lowS
  exact gd_bind (gd_get 0) (by decide) fun s => gd_ite (gd_le gd_hopsS (by decide)) (gd_ite (gd_ite (gd_bind gd_wordS (by decide) fun x => gd_le (gd_setPairS _ _) (by decide)) (gd_bind (gd_states 7 (by decide) (by decide)) (by decide) fun _ => gd_bind (gd_mod 0 _) (by decide) fun _ => gd_bind (gd_get 0) (by decide) fun s => gd_bind (gd_setPairS _ _) (by decide) fun _ => gd_le (gd_flagS _) (by decide))) (gd_ite (gd_le gd_storesS (by decide)) (gd_ite (gd_bind (gd_states 2 (by decide) (by decide)) (by decide) fun _ => gd_bind (gd_get 0) (by decide) fun s => gd_le (gd_setPairS _ _) (by decide)) (gd_ite (gd_le gd_stepIncS (by decide)) (gd_ite (gd_le gd_stepDecS (by decide)) (gd_ite (gd_le gd_loadS (by decide)) (gd_le gd_turnS (by decide))))))))
theorem gd_popsS  : Gd 2 popsS := by
  unfold popsS
  repeat (first | with_reducible refine gd_ite ?_ ?_ | with_reducible exact gd_pure _ _ | with_reducible exact gd_get _ | with_reducible exact gd_mod _ _ | with_reducible refine gd_bind (gd_get 0) (by decide) fun _ => ?_ | with_reducible refine gd_bind (gd_mod 0 _) (by decide) fun _ => ?_ | with_reducible refine gd_bind (gd_states _ (by decide) (by decide)) (by decide) fun _ => ?_ | with_reducible refine gd_bind (gd_popS) (by decide) fun _ => ?_ | with_reducible refine gd_bind (gd_setPairS _ _) (by decide) fun _ => ?_ | with_reducible refine gd_bind (gd_backS) (by decide) fun _ => ?_ | with_reducible exact gd_le (gd_states _ (by decide) (by decide)) (by decide) | with_reducible exact gd_le (gd_popS) (by decide) | with_reducible exact gd_le (gd_setPairS _ _) (by decide) | with_reducible exact gd_le (gd_backS) (by decide) | dsimp only)
theorem gd_crossS  : Gd 6 crossS := by
  unfold crossS
  repeat (first | with_reducible refine gd_ite ?_ ?_ | with_reducible exact gd_pure _ _ | with_reducible exact gd_get _ | with_reducible exact gd_mod _ _ | with_reducible refine gd_bind (gd_get 0) (by decide) fun _ => ?_ | with_reducible refine gd_bind (gd_mod 0 _) (by decide) fun _ => ?_ | with_reducible refine gd_bind (gd_read _) (by decide) fun _ => ?_ | with_reducible refine gd_bind (gd_write _ _) (by decide) fun _ => ?_ | with_reducible refine gd_bind (gd_states _ (by decide) (by decide)) (by decide) fun _ => ?_ | with_reducible refine gd_bind (gd_setPairS _ _) (by decide) fun _ => ?_ | with_reducible exact gd_le (gd_read _) (by decide) | with_reducible exact gd_le (gd_write _ _) (by decide) | with_reducible exact gd_le (gd_states _ (by decide) (by decide)) (by decide) | with_reducible exact gd_le (gd_setPairS _ _) (by decide) | dsimp only)
theorem gd_portsS  : Gd 6 portsS := by
  unfold portsS
  repeat (first | with_reducible refine gd_ite ?_ ?_ | with_reducible exact gd_pure _ _ | with_reducible exact gd_get _ | with_reducible exact gd_mod _ _ | with_reducible refine gd_bind (gd_get 0) (by decide) fun _ => ?_ | with_reducible refine gd_bind (gd_mod 0 _) (by decide) fun _ => ?_ | with_reducible refine gd_bind (gd_pure 0 _) (by decide) fun _ => ?_ | with_reducible refine gd_bind (gd_in _) (by decide) fun _ => ?_ | with_reducible refine gd_bind (gd_out _ _) (by decide) fun _ => ?_ | with_reducible refine gd_bind (gd_numberS) (by decide) fun _ => ?_ | with_reducible refine gd_bind (gd_wordS) (by decide) fun _ => ?_ | with_reducible refine gd_bind (gd_putS _ _) (by decide) fun _ => ?_ | with_reducible refine gd_bind (gd_besideS _) (by decide) fun _ => ?_ | with_reducible refine gd_bind (gd_crossS) (by decide) fun _ => ?_ | with_reducible exact gd_le (gd_in _) (by decide) | with_reducible exact gd_le (gd_out _ _) (by decide) | with_reducible exact gd_le (gd_numberS) (by decide) | with_reducible exact gd_le (gd_wordS) (by decide) | with_reducible exact gd_le (gd_putS _ _) (by decide) | with_reducible exact gd_le (gd_besideS _) (by decide) | with_reducible exact gd_le (gd_crossS) (by decide) | dsimp only)
theorem gd_highS  : Gd 6 highS := by
  unfold highS
  repeat (first | with_reducible refine gd_ite ?_ ?_ | with_reducible exact gd_pure _ _ | with_reducible exact gd_get _ | with_reducible exact gd_mod _ _ | with_reducible refine gd_bind (gd_get 0) (by decide) fun _ => ?_ | with_reducible refine gd_bind (gd_mod 0 _) (by decide) fun _ => ?_ | with_reducible refine gd_bind (gd_pure 0 _) (by decide) fun _ => ?_ | with_reducible refine gd_bind (gd_states _ (by decide) (by decide)) (by decide) fun _ => ?_ | with_reducible refine gd_bind (gd_numberS) (by decide) fun _ => ?_ | with_reducible refine gd_bind (gd_wordS) (by decide) fun _ => ?_ | with_reducible refine gd_bind (gd_pushS _) (by decide) fun _ => ?_ | with_reducible refine gd_bind (gd_backS) (by decide) fun _ => ?_ | with_reducible refine gd_bind (gd_callS _) (by decide) fun _ => ?_ | with_reducible refine gd_bind (gd_addS _ _) (by decide) fun _ => ?_ | with_reducible refine gd_bind (gd_popsS) (by decide) fun _ => ?_ | with_reducible refine gd_bind (gd_portsS) (by decide) fun _ => ?_ | with_reducible exact gd_le (gd_states _ (by decide) (by decide)) (by decide) | with_reducible exact gd_le (gd_numberS) (by decide) | with_reducible exact gd_le (gd_wordS) (by decide) | with_reducible exact gd_le (gd_pushS _) (by decide) | with_reducible exact gd_le (gd_backS) (by decide) | with_reducible exact gd_le (gd_callS _) (by decide) | with_reducible exact gd_le (gd_addS _ _) (by decide) | with_reducible exact gd_le (gd_popsS) (by decide) | with_reducible exact gd_le (gd_portsS) (by decide) | dsimp only)
theorem gd_bitEnd (f : Bool) (k z : Int) (b : U8) : Gd 6 (bitEnd f k z b) := by
  unfold bitEnd
  repeat (first | with_reducible refine gd_ite ?_ ?_ | with_reducible exact gd_pure _ _ | with_reducible exact gd_get _ | with_reducible exact gd_mod _ _ | with_reducible refine gd_bind (gd_mod 0 _) (by decide) fun _ => ?_ | with_reducible refine gd_bind (gd_pure 0 _) (by decide) fun _ => ?_ | with_reducible refine gd_bind (gd_setS _ _) (by decide) fun _ => ?_ | with_reducible exact gd_le (gd_setS _ _) (by decide) | dsimp only)
theorem gd_bitS  : Gd 10 bitS := by
  unfold bitS
  repeat (first | with_reducible refine gd_ite ?_ ?_ | with_reducible exact gd_pure _ _ | with_reducible exact gd_get _ | with_reducible exact gd_mod _ _ | with_reducible refine gd_bind (gd_get 0) (by decide) fun _ => ?_ | with_reducible refine gd_bind (gd_states _ (by decide) (by decide)) (by decide) fun _ => ?_ | with_reducible refine gd_bind (gd_flagS _) (by decide) fun _ => ?_ | with_reducible refine gd_bind (gd_getS _) (by decide) fun _ => ?_ | with_reducible refine gd_bind (gd_bitEnd _ _ _ _) (by decide) fun _ => ?_ | with_reducible exact gd_le (gd_states _ (by decide) (by decide)) (by decide) | with_reducible exact gd_le (gd_flagS _) (by decide) | with_reducible exact gd_le (gd_getS _) (by decide) | with_reducible exact gd_le (gd_bitEnd _ _ _ _) (by decide) | dsimp only)
theorem gd_wordsS  : Gd 4 wordsS := by
  unfold wordsS
  repeat (first | with_reducible refine gd_ite ?_ ?_ | with_reducible exact gd_pure _ _ | with_reducible exact gd_get _ | with_reducible exact gd_mod _ _ | with_reducible refine gd_bind (gd_get 0) (by decide) fun _ => ?_ | with_reducible refine gd_bind (gd_mod 0 _) (by decide) fun _ => ?_ | with_reducible refine gd_bind (gd_read _) (by decide) fun _ => ?_ | with_reducible refine gd_bind (gd_write _ _) (by decide) fun _ => ?_ | with_reducible refine gd_bind (gd_wordS) (by decide) fun _ => ?_ | with_reducible refine gd_bind (gd_setPairS _ _) (by decide) fun _ => ?_ | with_reducible exact gd_le (gd_read _) (by decide) | with_reducible exact gd_le (gd_write _ _) (by decide) | with_reducible exact gd_le (gd_wordS) (by decide) | with_reducible exact gd_le (gd_setPairS _ _) (by decide) | dsimp only)
theorem gd_oddS  : Gd 3 oddS := by
  unfold oddS
  repeat (first | with_reducible refine gd_ite ?_ ?_ | with_reducible exact gd_pure _ _ | with_reducible exact gd_get _ | with_reducible exact gd_mod _ _ | with_reducible refine gd_bind (gd_get 0) (by decide) fun _ => ?_ | with_reducible refine gd_bind (gd_mod 0 _) (by decide) fun _ => ?_ | with_reducible refine gd_bind (gd_pure 0 _) (by decide) fun _ => ?_ | with_reducible refine gd_bind (gd_read _) (by decide) fun _ => ?_ | with_reducible refine gd_bind (gd_write _ _) (by decide) fun _ => ?_ | with_reducible refine gd_bind (gd_states _ (by decide) (by decide)) (by decide) fun _ => ?_ | with_reducible refine gd_bind (gd_putS _ _) (by decide) fun _ => ?_ | with_reducible exact gd_le (gd_read _) (by decide) | with_reducible exact gd_le (gd_write _ _) (by decide) | with_reducible exact gd_le (gd_states _ (by decide) (by decide)) (by decide) | with_reducible exact gd_le (gd_putS _ _) (by decide) | dsimp only)
theorem gd_lessS  : Gd 0 lessS := by
  unfold lessS
  repeat (first | with_reducible refine gd_ite ?_ ?_ | with_reducible exact gd_pure _ _ | with_reducible exact gd_get _ | with_reducible exact gd_mod _ _ | with_reducible refine gd_bind (gd_get 0) (by decide) fun _ => ?_ | with_reducible refine gd_bind (gd_mod 0 _) (by decide) fun _ => ?_ | with_reducible refine gd_bind (gd_pure 0 _) (by decide) fun _ => ?_ | dsimp only)
theorem gd_middleS  : Gd 4 middleS := by
  unfold middleS
  repeat (first | with_reducible refine gd_ite ?_ ?_ | with_reducible exact gd_pure _ _ | with_reducible exact gd_get _ | with_reducible exact gd_mod _ _ | with_reducible refine gd_bind (gd_get 0) (by decide) fun _ => ?_ | with_reducible refine gd_bind (gd_mod 0 _) (by decide) fun _ => ?_ | with_reducible refine gd_bind (gd_pure 0 _) (by decide) fun _ => ?_ | with_reducible refine gd_bind (gd_in _) (by decide) fun _ => ?_ | with_reducible refine gd_bind (gd_out _ _) (by decide) fun _ => ?_ | with_reducible refine gd_bind (gd_states _ (by decide) (by decide)) (by decide) fun _ => ?_ | with_reducible refine gd_bind (gd_putS _ _) (by decide) fun _ => ?_ | with_reducible refine gd_bind (gd_flagS _) (by decide) fun _ => ?_ | with_reducible refine gd_bind (gd_getS _) (by decide) fun _ => ?_ | with_reducible refine gd_bind (gd_setS _ _) (by decide) fun _ => ?_ | with_reducible refine gd_bind (gd_backS) (by decide) fun _ => ?_ | with_reducible refine gd_bind (gd_wordsS) (by decide) fun _ => ?_ | with_reducible refine gd_bind (gd_oddS) (by decide) fun _ => ?_ | with_reducible exact gd_le (gd_in _) (by decide) | with_reducible exact gd_le (gd_out _ _) (by decide) | with_reducible exact gd_le (gd_states _ (by decide) (by decide)) (by decide) | with_reducible exact gd_le (gd_putS _ _) (by decide) | with_reducible exact gd_le (gd_flagS _) (by decide) | with_reducible exact gd_le (gd_getS _) (by decide) | with_reducible exact gd_le (gd_setS _ _) (by decide) | with_reducible exact gd_le (gd_backS) (by decide) | with_reducible exact gd_le (gd_wordsS) (by decide) | with_reducible exact gd_le (gd_oddS) (by decide) | dsimp only)
theorem gd_blkRepS (y z : Int) : Gd 1 (blkRepS y z) := by
  unfold blkRepS
  repeat (first | with_reducible refine gd_ite ?_ ?_ | with_reducible exact gd_pure _ _ | with_reducible exact gd_get _ | with_reducible exact gd_mod _ _ | with_reducible refine gd_bind (gd_get 0) (by decide) fun _ => ?_ | with_reducible refine gd_bind (gd_mod 0 _) (by decide) fun _ => ?_ | with_reducible refine gd_bind (gd_pure 0 _) (by decide) fun _ => ?_ | with_reducible refine gd_bind (gd_states _ (by decide) (by decide)) (by decide) fun _ => ?_ | with_reducible exact gd_le (gd_states _ (by decide) (by decide)) (by decide) | dsimp only)
theorem gd_blk0S (n : Int) : Gd 3 (blk0S n) := by
  unfold blk0S
  repeat (first | with_reducible refine gd_ite ?_ ?_ | with_reducible exact gd_pure _ _ | with_reducible exact gd_get _ | with_reducible exact gd_mod _ _ | with_reducible refine gd_bind (gd_get 0) (by decide) fun _ => ?_ | with_reducible refine gd_bind (gd_mod 0 _) (by decide) fun _ => ?_ | with_reducible refine gd_bind (gd_read _) (by decide) fun _ => ?_ | with_reducible refine gd_bind (gd_write _ _) (by decide) fun _ => ?_ | with_reducible refine gd_bind (gd_states _ (by decide) (by decide)) (by decide) fun _ => ?_ | with_reducible refine gd_bind (gd_flagS _) (by decide) fun _ => ?_ | with_reducible exact gd_le (gd_read _) (by decide) | with_reducible exact gd_le (gd_write _ _) (by decide) | with_reducible exact gd_le (gd_states _ (by decide) (by decide)) (by decide) | with_reducible exact gd_le (gd_flagS _) (by decide) | dsimp only)
theorem gd_blk1S (n : Int) : Gd 2 (blk1S n) := by
  unfold blk1S
  repeat (first | with_reducible refine gd_ite ?_ ?_ | with_reducible exact gd_pure _ _ | with_reducible exact gd_get _ | with_reducible exact gd_mod _ _ | with_reducible refine gd_bind (gd_get 0) (by decide) fun _ => ?_ | with_reducible refine gd_bind (gd_mod 0 _) (by decide) fun _ => ?_ | with_reducible refine gd_bind (gd_read _) (by decide) fun _ => ?_ | with_reducible refine gd_bind (gd_states _ (by decide) (by decide)) (by decide) fun _ => ?_ | with_reducible refine gd_bind (gd_flagS _) (by decide) fun _ => ?_ | with_reducible exact gd_le (gd_read _) (by decide) | with_reducible exact gd_le (gd_states _ (by decide) (by decide)) (by decide) | with_reducible exact gd_le (gd_flagS _) (by decide) | dsimp only)
theorem gd_blk2S (n : Int) : Gd 3 (blk2S n) := by
  unfold blk2S
  repeat (first | with_reducible refine gd_ite ?_ ?_ | with_reducible exact gd_pure _ _ | with_reducible exact gd_get _ | with_reducible exact gd_mod _ _ | with_reducible refine gd_bind (gd_get 0) (by decide) fun _ => ?_ | with_reducible refine gd_bind (gd_mod 0 _) (by decide) fun _ => ?_ | with_reducible refine gd_bind (gd_in _) (by decide) fun _ => ?_ | with_reducible refine gd_bind (gd_write _ _) (by decide) fun _ => ?_ | with_reducible refine gd_bind (gd_states _ (by decide) (by decide)) (by decide) fun _ => ?_ | with_reducible refine gd_bind (gd_flagS _) (by decide) fun _ => ?_ | with_reducible refine gd_bind (gd_lessS) (by decide) fun _ => ?_ | with_reducible exact gd_le (gd_in _) (by decide) | with_reducible exact gd_le (gd_write _ _) (by decide) | with_reducible exact gd_le (gd_states _ (by decide) (by decide)) (by decide) | with_reducible exact gd_le (gd_flagS _) (by decide) | with_reducible exact gd_le (gd_lessS) (by decide) | dsimp only)
theorem gd_blk3S (n : Int) : Gd 3 (blk3S n) := by
  unfold blk3S
  repeat (first | with_reducible refine gd_ite ?_ ?_ | with_reducible exact gd_pure _ _ | with_reducible exact gd_get _ | with_reducible exact gd_mod _ _ | with_reducible refine gd_bind (gd_get 0) (by decide) fun _ => ?_ | with_reducible refine gd_bind (gd_mod 0 _) (by decide) fun _ => ?_ | with_reducible refine gd_bind (gd_read _) (by decide) fun _ => ?_ | with_reducible refine gd_bind (gd_out _ _) (by decide) fun _ => ?_ | with_reducible refine gd_bind (gd_states _ (by decide) (by decide)) (by decide) fun _ => ?_ | with_reducible refine gd_bind (gd_flagS _) (by decide) fun _ => ?_ | with_reducible refine gd_bind (gd_lessS) (by decide) fun _ => ?_ | with_reducible exact gd_le (gd_read _) (by decide) | with_reducible exact gd_le (gd_out _ _) (by decide) | with_reducible exact gd_le (gd_states _ (by decide) (by decide)) (by decide) | with_reducible exact gd_le (gd_flagS _) (by decide) | with_reducible exact gd_le (gd_lessS) (by decide) | dsimp only)
theorem gd_blocksS  : Gd 4 blocksS := by
  unfold blocksS
  repeat (first | with_reducible refine gd_ite ?_ ?_ | with_reducible exact gd_pure _ _ | with_reducible exact gd_get _ | with_reducible exact gd_mod _ _ | with_reducible refine gd_bind (gd_get 0) (by decide) fun _ => ?_ | with_reducible refine gd_bind (gd_blkRepS _ _) (by decide) fun _ => ?_ | with_reducible refine gd_bind (gd_blk0S _) (by decide) fun _ => ?_ | with_reducible refine gd_bind (gd_blk1S _) (by decide) fun _ => ?_ | with_reducible refine gd_bind (gd_blk2S _) (by decide) fun _ => ?_ | with_reducible refine gd_bind (gd_blk3S _) (by decide) fun _ => ?_ | with_reducible exact gd_le (gd_blkRepS _ _) (by decide) | with_reducible exact gd_le (gd_blk0S _) (by decide) | with_reducible exact gd_le (gd_blk1S _) (by decide) | with_reducible exact gd_le (gd_blk2S _) (by decide) | with_reducible exact gd_le (gd_blk3S _) (by decide) | dsimp only)
theorem gd_farS  : Gd 4 farS := by
  unfold farS
  repeat (first | with_reducible refine gd_ite ?_ ?_ | with_reducible exact gd_pure _ _ | with_reducible exact gd_get _ | with_reducible exact gd_mod _ _ | with_reducible refine gd_bind (gd_get 0) (by decide) fun _ => ?_ | with_reducible refine gd_bind (gd_pure 0 _) (by decide) fun _ => ?_ | with_reducible refine gd_bind (gd_middleS) (by decide) fun _ => ?_ | with_reducible refine gd_bind (gd_blocksS) (by decide) fun _ => ?_ | with_reducible exact gd_le (gd_middleS) (by decide) | with_reducible exact gd_le (gd_blocksS) (by decide) | dsimp only)
theorem gd_quarterS  : Gd 7 quarterS := by
  unfold quarterS
  repeat (first | with_reducible refine gd_ite ?_ ?_ | with_reducible exact gd_pure _ _ | with_reducible exact gd_get _ | with_reducible exact gd_mod _ _ | with_reducible refine gd_bind (gd_get 0) (by decide) fun _ => ?_ | with_reducible refine gd_bind (gd_moveS) (by decide) fun _ => ?_ | with_reducible refine gd_bind (gd_sumsS) (by decide) fun _ => ?_ | with_reducible refine gd_bind (gd_lowS) (by decide) fun _ => ?_ | with_reducible refine gd_bind (gd_highS) (by decide) fun _ => ?_ | with_reducible exact gd_le (gd_moveS) (by decide) | with_reducible exact gd_le (gd_sumsS) (by decide) | with_reducible exact gd_le (gd_lowS) (by decide) | with_reducible exact gd_le (gd_highS) (by decide) | dsimp only)
theorem gd_restS (p : Int) (b : U8) : Gd 13 (restS p b) := by
  unfold restS
  repeat (first | with_reducible refine gd_ite ?_ ?_ | with_reducible exact gd_pure _ _ | with_reducible exact gd_get _ | with_reducible exact gd_mod _ _ | with_reducible refine gd_bind (gd_mod 0 _) (by decide) fun _ => ?_ | with_reducible refine gd_bind (gd_states _ (by decide) (by decide)) (by decide) fun _ => ?_ | with_reducible refine gd_bind (gd_fetchS) (by decide) fun _ => ?_ | with_reducible refine gd_bind (gd_numberS) (by decide) fun _ => ?_ | with_reducible refine gd_bind (gd_ofS _ _) (by decide) fun _ => ?_ | with_reducible refine gd_bind (gd_mvS _) (by decide) fun _ => ?_ | with_reducible refine gd_bind (gd_bitS) (by decide) fun _ => ?_ | with_reducible refine gd_bind (gd_farS) (by decide) fun _ => ?_ | with_reducible refine gd_bind (gd_quarterS) (by decide) fun _ => ?_ | with_reducible exact gd_le (gd_states _ (by decide) (by decide)) (by decide) | with_reducible exact gd_le (gd_fetchS) (by decide) | with_reducible exact gd_le (gd_numberS) (by decide) | with_reducible exact gd_le (gd_ofS _ _) (by decide) | with_reducible exact gd_le (gd_mvS _) (by decide) | with_reducible exact gd_le (gd_bitS) (by decide) | with_reducible exact gd_le (gd_farS) (by decide) | with_reducible exact gd_le (gd_quarterS) (by decide) | dsimp only)
theorem gd_prefS : ∀ (n : Nat) (p : Int) (b : U8), Gd n (prefS n p b)
  | 0, _, _ => gd_pure _ _
  | n + 1, p, b => by
    show Gd (n + 1) (if b.v = 221 ∨ b.v = 253 then _ else _)
    exact gd_ite (gd_bind gd_fetchS (by omega) fun c => gd_prefS n _ c) (gd_pure _ _)
theorem gd_firstS (n : Nat) (b : U8) : Gd (n + 13) (firstS n b) := gd_bind (gd_prefS n 0 b) (by omega) fun q => gd_le (gd_restS _ _) (by omega)
theorem gd_nextM (n : Nat) (h : Bool) : Gd (n + 14) (nextM n h) := by
  unfold nextM
  refine gd_ite (gd_bind (gd_get 0) (by omega) fun s => gd_bind (gd_fcyc _) (by omega) fun _ => gd_le gd_tick (by omega)) (gd_bind (gd_mod 0 _) (by omega) fun _ => gd_bind gd_fetchS (by omega) fun b => gd_le (gd_firstS n b) (by omega))
end Go.Proofs.YtnaampdpkegacaaGreatDoor

namespace Go.Proofs.YtnaampdpkegacaaGreatDoor
open Go.RowKit

theorem exec_pm {α β : Type} (m : PM α) (f : α → PM β) (s : CS) (l : List U8) : ((m >>= f) s).exec l = match (m s).exec l with | .error c => .error c | .ok p => (f p.1.1 p.1.2).exec p.2 := by
  show ((m s).bind fun p => f p.1 p.2).exec l = _
  rw [T.exec_bind]
  cases (m s).exec l <;> rfl
theorem fetch_nil (s : CS) : (fetchS s).exec [] = .error ⟨1, s.r.pc, u8 0, 4⟩ := rfl
theorem fetch_cons (s : CS) (x : U8) (l : List U8) : ∃ s', (fetchS s).exec (x :: l) = .ok ((x, s'), l) := ⟨_, rfl⟩
theorem pref_at (n : Nat) (p : Int) (b : U8) : prefS (n + 1) p b = if b.v = 221 ∨ b.v = 253 then (do let c ← fetchS; prefS n (if b.v = 253 then 4 else 3) c) else pure (p, b) := rfl
theorem pref_fuel : ∀ (l : List U8) (n m : Nat) (p : Int) (b : U8) (s : CS), l.length < n → l.length < m → (prefS n p b s).exec l = (prefS m p b s).exec l
  | [], n + 1, m + 1, p, b, s, _, _ => by
    rw [pref_at, pref_at]
    by_cases h : b.v = 221 ∨ b.v = 253
    · rw [if_pos h, if_pos h, exec_pm, exec_pm, fetch_nil]
    · rw [if_neg h, if_neg h]
  | x :: l, n + 1, m + 1, p, b, s, hn, hm => by
    rw [pref_at, pref_at]
    by_cases h : b.v = 221 ∨ b.v = 253
    · rw [if_pos h, if_pos h, exec_pm, exec_pm]
      obtain ⟨s', hs⟩ := fetch_cons s x l
      rw [hs]
      exact pref_fuel l n m _ _ _ (by simpa using hn) (by simpa using hm)
    · rw [if_neg h, if_neg h]
  | _, 0, _, _, _, _, hn, _ => absurd hn (by omega)
  | _, _ + 1, 0, _, _, _, _, hm => absurd hm (by omega)
theorem first_fuel (l : List U8) (n m : Nat) (b : U8) (s : CS) (hn : l.length < n) (hm : l.length < m) : (firstS n b s).exec l = (firstS m b s).exec l := by
  show ((prefS n 0 b >>= fun q => restS q.1 q.2) s).exec l = ((prefS m 0 b >>= fun q => restS q.1 q.2) s).exec l
  rw [exec_pm, exec_pm, pref_fuel l n m 0 b s hn hm]
theorem next_at (n : Nat) (s : CS) : nextM n false s = (fetchS >>= fun b => firstS n b) { s with r := { s.r with late := false } } := rfl
theorem next_fuel (l : List U8) (n m : Nat) (h : Bool) (s : CS) (hn : l.length ≤ n) (hm : l.length ≤ m) : (nextM n h s).exec l = (nextM m h s).exec l := by
  cases h
  · rw [next_at, next_at, exec_pm, exec_pm]
    cases l with
    | nil => rw [fetch_nil]
    | cons x l =>
      obtain ⟨s', hs⟩ := fetch_cons { s with r := { s.r with late := false } } x l
      rw [hs]
      exact first_fuel l n m _ _ (by simp at hn; omega) (by simp at hm; omega)
  · rfl
theorem nextF_at (r : R) (got : List U8) (n : Nat) (hn : got.length ≤ n) : nextF r got = outT (nextM n r.halted (cs0 r)) got := by
  unfold nextF outT
  rw [next_fuel got (got.length + 1) n _ _ (by omega) hn]
theorem afterF_at (r : R) (b : U8) (got : List U8) (n : Nat) (hn : got.length < n) : afterF r b got = outT (afterM n b (cs0 r)) got := by
  unfold afterF outT
  have : (afterM (got.length + 1) b (cs0 r)).exec got = (afterM n b (cs0 r)).exec got := first_fuel got (got.length + 1) n b _ (by omega) hn
  rw [this]
theorem T.cut {α : Type} : ∀ (t : T α) (l : List U8) {a : α} {l' : List U8}, t.exec l = .ok (a, l') → ∃ K, K ≤ l.length ∧ (∀ k, k < K → ∃ c, t.exec (l.take k) = .error c) ∧ ∀ k, K ≤ k → ∃ l'', t.exec (l.take k) = .ok (a, l'')
  | .ret _, l, _, _, e => by
    cases e
    exact ⟨0, Nat.zero_le _, fun k hk => absurd hk (by omega), fun k _ => ⟨_, rfl⟩⟩
  | .ask _ _, [], _, _, e => by cases e
  | .ask c k, b :: l, a, l', e => by
    obtain ⟨K, hK, h1, h2⟩ := T.cut (k b) l e
    refine ⟨K + 1, by simpa using hK, fun j hj => ?_, fun j hj => ?_⟩
    · cases j with
      | zero => exact ⟨c, rfl⟩
      | succ j => exact h1 j (by omega)
    · cases j with
      | zero => omega
      | succ j => exact h2 j (by omega)
theorem zero_plain : ¬ (zero8.v = 221 ∨ zero8.v = 253) := by decide
theorem pref_zero (n : Nat) (p : Int) : prefS n p zero8 = pure (p, zero8) := by
  cases n with
  | zero => rfl
  | succ n => rw [pref_at, if_neg zero_plain]
theorem rest_ends (p : Int) (b : U8) (s : CS) (l : List U8) (h : 13 ≤ l.length) : ∃ a l', (restS p b s).exec l = .ok (a, l') := T.Gd.ends _ l (gd_restS p b s) h
theorem pref_ends : ∀ (l : List U8) (m n : Nat) (p : Int) (b : U8) (s : CS), l.length < n → 14 ≤ m → ∃ a l', ((prefS n p b >>= fun q => restS q.1 q.2) s).exec (l ++ List.replicate m zero8) = .ok (a, l')
  | [], m, n + 1, p, b, s, _, hm => by
    rw [pref_at]
    by_cases h : b.v = 221 ∨ b.v = 253
    · rw [if_pos h, exec_pm, exec_pm]
      obtain ⟨m', rfl⟩ : ∃ m', m = m' + 1 := ⟨m - 1, by omega⟩
      obtain ⟨s', hs⟩ := fetch_cons s zero8 (List.replicate m' zero8)
      rw [List.nil_append, List.replicate_succ, hs]
      simp only
      rw [pref_zero]
      exact rest_ends _ _ _ _ (by simp; omega)
    · rw [if_neg h, exec_pm]
      exact rest_ends _ _ _ _ (by simp; omega)
  | x :: l, m, n + 1, p, b, s, hn, hm => by
    rw [pref_at]
    by_cases h : b.v = 221 ∨ b.v = 253
    · rw [if_pos h, exec_pm, exec_pm]
      obtain ⟨s', hs⟩ := fetch_cons s x (l ++ List.replicate m zero8)
      rw [List.cons_append, hs]
      simp only
      have := pref_ends l m n (if b.v = 253 then 4 else 3) x s' (by simpa using hn) hm
      rw [exec_pm] at this
      exact this
    · rw [if_neg h, exec_pm]
      exact rest_ends _ _ _ _ (by simp; omega)
  | _, _, 0, _, _, _, hn, _ => absurd hn (by omega)
/-- The answers that NextEnds gives. -/
def endG (ans : List U8) : List U8 := ans ++ List.replicate (30 - ans.length) zero8
theorem endG_len (ans : List U8) (h : ans.length ≤ 12) : (endG ans).length = 30 := by
  unfold endG; simp; omega
theorem endG_at (ans : List U8) (h : ans.length ≤ 12) : ∃ x l m, endG ans = x :: (l ++ List.replicate m zero8) ∧ l.length < 30 ∧ 14 ≤ m := by
  cases ans with
  | nil => exact ⟨zero8, [], 29, rfl, by simp, by omega⟩
  | cons x l => exact ⟨x, l, 30 - (x :: l).length, rfl, by simp at h; omega, by simp at h ⊢; omega⟩
theorem ends_law (r : R) (ans : List U8) (h : ans.length ≤ 12) : ∃ K s, 0 < K ∧ K ≤ 30 ∧ (∀ k, k < K → ∃ c, COk c ∧ nextF r ((endG ans).take k) = (c, R0, false)) ∧ ∀ k, K ≤ k → nextF r ((endG ans).take k) = (Cyc0, s, true) := by
  obtain ⟨a, l', he⟩ : ∃ a l', (nextM 30 r.halted (cs0 r)).exec (endG ans) = .ok (a, l') := by
    obtain ⟨x, l, m, e, hl, hm⟩ := endG_at ans h
    rw [e]
    cases r.halted
    · rw [next_at, exec_pm]
      obtain ⟨s', hs⟩ := fetch_cons { cs0 r with r := { (cs0 r).r with late := false } } x (l ++ List.replicate m zero8)
      rw [hs]
      exact pref_ends l m 30 0 x s' hl hm
    · exact ⟨_, _, rfl⟩
  obtain ⟨K, hK, h1, h2⟩ := T.cut _ _ he
  have ht : ∀ k, ((endG ans).take k).length ≤ 30 := fun k => by rw [List.length_take, endG_len ans h]; omega
  refine ⟨K, a.2.r, ?_, by rw [endG_len ans h] at hK; exact hK, fun k hk => ?_, fun k hk => ?_⟩
  · rcases Nat.eq_zero_or_pos K with h0 | h0
    · subst h0
      obtain ⟨l'', e⟩ := h2 0 (Nat.le_refl _)
      cases hr : r.halted <;> rw [hr] at e <;> cases e
    · exact h0
  · obtain ⟨c, hc⟩ := h1 k hk
    refine ⟨c, T.Gd.okAt _ _ (gd_nextM 30 r.halted (cs0 r)) hc, ?_⟩
    rw [nextF_at r _ 30 (ht k)]
    unfold outT
    rw [hc]
  · obtain ⟨l'', e⟩ := h2 k hk
    rw [nextF_at r _ 30 (ht k)]
    unfold outT
    rw [e]
/-- What NextPlain's rows have in common. -/
def PlainR (r : R) (got odd : List U8) : Prop := Alike (nextM 60 r.halted (cs0 r)) got odd ∧ got.length = odd.length
theorem plain_nil (r : R) : PlainR r [] [] := ⟨.nil _, rfl⟩
theorem plain_same {r : R} {got odd : List U8} (h : PlainR r got odd) (hl : got.length ≤ 60) : nextF r odd = nextF r got := by
  rw [nextF_at r got 60 hl, nextF_at r odd 60 (by rw [← h.2]; exact hl)]
  obtain ⟨h1, h2⟩ := h.1.exec (gd_nextM 60 r.halted (cs0 r))
  unfold outT
  cases e : (nextM 60 r.halted (cs0 r)).exec got with
  | error c => rw [h1 c e]
  | ok p =>
    obtain ⟨m', em⟩ := h2 p.1 p.2 e
    rw [em]
theorem plain_more {r : R} {got odd : List U8} (h : PlainR r got odd) (hl : got.length ≤ 60) {c : Cyc} {s : R} (e : nextF r got = (c, s, false)) {b b' : U8} (hb : sends c = true ∨ b = b') : PlainR r (got ++ [b]) (odd ++ [b']) := by
  refine ⟨?_, by simp [h.2]⟩
  rw [nextF_at r got 60 hl] at e
  unfold outT at e
  cases ex : (nextM 60 r.halted (cs0 r)).exec got with
  | error c' =>
    rw [ex] at e
    obtain rfl : c' = c := congrArg (·.1) e
    exact h.1.more (gd_nextM 60 r.halted (cs0 r)) ex hb
  | ok p => rw [ex] at e; have := congrArg (·.2.2) e; cases this
end Go.Proofs.YtnaampdpkegacaaGreatDoor
