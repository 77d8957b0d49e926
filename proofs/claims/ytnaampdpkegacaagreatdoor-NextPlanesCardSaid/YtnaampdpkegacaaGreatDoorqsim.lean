/-
  The work of next and the reference's are alike: they ask for the same cycles, and end in the same registers. A helper of the claims that stand beside it.
-/
import Derived.Test.YtnaampdpkegacaaGreatDoorqbase
import Derived.Test.YtnaampdpkegacaaGreatDoortake

namespace Go.Proofs.YtnaampdpkegacaaGreatDoor
open Go.RowKit

/-- Two ways that ask for the same, and end alike. -/
def TRel {α β : Type} (R : α → β → Prop) : T α → T β → Prop
  | .ret a, .ret b => R a b
  | .ask c k, .ask c' k' => c = c' ∧ ∀ b, TRel R (k b) (k' b)
  | _, _ => False
theorem TRel.bind {α β γ δ : Type} {R : α → β → Prop} {S : γ → δ → Prop} {f : α → T γ} {g : β → T δ} (hf : ∀ a b, R a b → TRel S (f a) (g b)) : ∀ (t : T α) (u : T β), TRel R t u → TRel S (t.bind f) (u.bind g)
  | .ret a, .ret b, h => hf a b h
  | .ask _ k, .ask _ k', h => ⟨h.1, fun b => TRel.bind hf (k b) (k' b) (h.2 b)⟩
  | .ret _, .ask _ _, h => h.elim
  | .ask _ _, .ret _, h => h.elim
theorem TRel.mono {α β : Type} {R S : α → β → Prop} (hf : ∀ a b, R a b → S a b) : ∀ (t : T α) (u : T β), TRel R t u → TRel S t u
  | .ret a, .ret b, h => hf a b h
  | .ask _ k, .ask _ k', h => ⟨h.1, fun b => TRel.mono hf (k b) (k' b) (h.2 b)⟩
  | .ret _, .ask _ _, h => h.elim
  | .ask _ _, .ret _, h => h.elim
/-- What of the states does not change within an instruction. -/
structure Fld where
  plane : Int
  code : U8
  x : Int
  y : Int
  z : Int
  p : Int
  q : Int
  plane' : Int
  code' : U8
def cs (F : Fld) (r : R) (a : U16) (k : Bool) : CS := ⟨r, F.plane, F.code, F.x, F.y, F.z, F.p, F.q, a, k⟩
def qc (F : Fld) (r : R) (m : U16) (k : Bool) : QC := ⟨r, F.plane', F.code', m, k⟩
def nrm (p : Int) : Int := if p = 3 then 3 else if p = 4 then 4 else 0
def thc (plane : Int) (c : U8) : Int := if nearS plane c then 0 else plane
structure FOk (F : Fld) : Prop where
  pl : nrm F.plane = nrm F.plane'
  th : nrm (thc F.plane F.code) = nrm (thc F.plane' F.code')
theorem poff_nrm (plane p : Int) : poff (nrm plane) p = poff plane p := by
  unfold poff nrm
  by_cases h3 : plane = 3
  · simp [h3]
  · by_cases h4 : plane = 4 <;> simp [h3, h4]
theorem getP_nrm (r : R) (plane p : Int) : getP r (nrm plane) p = getP r plane p := by unfold getP; rw [poff_nrm]
theorem setP_nrm (r : R) (plane p : Int) (v : U16) : setP r (nrm plane) p v = setP r plane p v := by unfold setP; rw [poff_nrm]
theorem half_nrm (plane k : Int) : halfS (nrm plane) k = halfS plane k := by unfold halfS; rw [poff_nrm]
theorem getR_nrm (r : R) (plane k : Int) : getR r (nrm plane) k = getR r plane k := by unfold getR; rw [half_nrm]
theorem setR_nrm (r : R) (plane k : Int) (b : U8) : setR r (nrm plane) k b = setR r plane k b := by unfold setR; rw [half_nrm]
theorem FOk.getP {F : Fld} (h : FOk F) (r : R) (p : Int) : getP r F.plane' p = getP r F.plane p := by rw [← getP_nrm, ← h.pl, getP_nrm]
theorem FOk.setP {F : Fld} (h : FOk F) (r : R) (p : Int) (v : U16) : setP r F.plane' p v = setP r F.plane p v := by rw [← setP_nrm, ← h.pl, setP_nrm]
theorem FOk.getR {F : Fld} (h : FOk F) (r : R) (k : Int) : getR r (thc F.plane' F.code') k = getR r (thc F.plane F.code) k := by rw [← getR_nrm, ← h.th, getR_nrm]
theorem FOk.setR {F : Fld} (h : FOk F) (r : R) (k : Int) (b : U8) : setR r (thc F.plane' F.code') k b = setR r (thc F.plane F.code) k b := by rw [← setR_nrm, ← h.th, setR_nrm]
theorem nrm_34 {a b : Int} (h : nrm a = nrm b) : (b = 3 ∨ b = 4) ↔ (a = 3 ∨ a = 4) := by
  unfold nrm at h
  constructor <;> intro k <;> (repeat (split at h)) <;> omega
def Rl {α : Type} (F : Fld) (p : α × CS) (q : α × QC) : Prop := p.1 = q.1 ∧ ∃ r a m k, p.2 = cs F r a k ∧ q.2 = qc F r m k ∧ (k = true → m = a)
def Sim {α : Type} (F : Fld) (m : PM α) (m' : QM α) : Prop := ∀ r a m0 k, (k = true → m0 = a) → TRel (Rl F) (m (cs F r a k)) (m' (qc F r m0 k))
theorem trel_b {α β : Type} {F : Fld} {m : PM α} {m' : QM α} {f : α → PM β} {f' : α → QM β} (h : Sim F m m') {r : R} {a m0 : U16} {k : Bool} (hk : k = true → m0 = a)
    (hf : ∀ v r a m0 k, (k = true → m0 = a) → TRel (Rl F) (f v (cs F r a k)) (f' v (qc F r m0 k))) : TRel (Rl F) ((m >>= f) (cs F r a k)) ((m' >>= f') (qc F r m0 k)) :=
  TRel.bind (fun p q hR => by
    obtain ⟨e, r, a, m, k, e1, e2, hk⟩ := hR
    obtain ⟨p1, p2⟩ := p
    obtain ⟨q1, q2⟩ := q
    simp only at e e1 e2
    subst e e1 e2
    exact hf _ r a m k hk) _ _ (h r a m0 k hk)
theorem trel_ite {α : Type} {F : Fld} {c d : Prop} [Decidable c] [Decidable d] {A B : T (α × CS)} {A' B' : T (α × QC)} (hc : c ↔ d) (h : c → TRel (Rl F) A A') (k : ¬ c → TRel (Rl F) B B') : TRel (Rl F) (if c then A else B) (if d then A' else B') := by
  by_cases e : c
  · rw [if_pos e, if_pos (hc.1 e)]; exact h e
  · rw [if_neg e, if_neg (fun x => e (hc.2 x))]; exact k e
theorem trel_ret {α : Type} {F : Fld} {v v' : α} {r r' : R} {a m : U16} {k : Bool} (e : v = v') (er : r = r') (hk : k = true → m = a) : TRel (Rl F) (T.ret (v, cs F r a k)) (T.ret (v', qc F r' m k)) := by
  subst e er; exact ⟨rfl, r, a, m, k, rfl, rfl, hk⟩
theorem p_get {β : Type} (f : CS → PM β) (s : CS) : (PM.get >>= f) s = f s s := rfl
theorem q_get {β : Type} (f : QC → QM β) (s : QC) : (QM.get >>= f) s = f s s := rfl
theorem p_modb {β : Type} (g : CS → CS) (f : Unit → PM β) (s : CS) : (PM.mod g >>= f) s = f () (g s) := rfl
theorem q_modb {β : Type} (g : QC → QC) (f : Unit → QM β) (s : QC) : (QM.mod g >>= f) s = f () (g s) := rfl
theorem p_mod (g : CS → CS) (s : CS) : PM.mod g s = .ret ((), g s) := rfl
theorem q_mod (g : QC → QC) (s : QC) : QM.mod g s = .ret ((), g s) := rfl
theorem p_pure {α : Type} (a : α) (s : CS) : (pure a : PM α) s = .ret (a, s) := rfl
theorem q_pure {α : Type} (a : α) (s : QC) : (pure a : QM α) s = .ret (a, s) := rfl
theorem p_pureb {α β : Type} (a : α) (f : α → PM β) (s : CS) : ((pure a : PM α) >>= f) s = f a s := rfl
theorem q_pureb {α β : Type} (a : α) (f : α → QM β) (s : QC) : ((pure a : QM α) >>= f) s = f a s := rfl
theorem p_ite {α : Type} (c : Prop) [Decidable c] (m n : PM α) (s : CS) : (if c then m else n) s = if c then m s else n s := by split <;> rfl
theorem q_ite {α : Type} (c : Prop) [Decidable c] (m n : QM α) (s : QC) : (if c then m else n) s = if c then m s else n s := by split <;> rfl
theorem p_bb {α β γ : Type} (m : PM α) (f : α → PM β) (g : β → PM γ) : ((m >>= f) >>= g) = (m >>= fun a => f a >>= g) := by
  funext s
  show ((m s).bind fun p => f p.1 p.2).bind (fun p => g p.1 p.2) = (m s).bind fun p => (f p.1 p.2).bind fun p => g p.1 p.2
  generalize m s = t
  induction t with
  | ret a => rfl
  | ask c k ih => exact congrArg (T.ask c) (funext ih)
theorem q_bb {α β γ : Type} (m : QM α) (f : α → QM β) (g : β → QM γ) : ((m >>= f) >>= g) = (m >>= fun a => f a >>= g) := by
  funext s
  show ((m s).bind fun p => f p.1 p.2).bind (fun p => g p.1 p.2) = (m s).bind fun p => (f p.1 p.2).bind fun p => g p.1 p.2
  generalize m s = t
  induction t with
  | ret a => rfl
  | ask c k ih => exact congrArg (T.ask c) (funext ih)
theorem p_iteb {α β : Type} (c : Prop) [Decidable c] (m n : PM α) (f : α → PM β) : ((if c then m else n) >>= f) = if c then m >>= f else n >>= f := by split <;> rfl
theorem q_iteb {α β : Type} (c : Prop) [Decidable c] (m n : QM α) (f : α → QM β) : ((if c then m else n) >>= f) = if c then m >>= f else n >>= f := by split <;> rfl
theorem p_read {β : Type} (x : U16) (f : U8 → PM β) (s : CS) : (readS x >>= f) s = .ask ⟨2, x, u8 0, 3⟩ fun b => f b s := rfl
theorem p_readt (x : U16) (s : CS) : readS x s = .ask ⟨2, x, u8 0, 3⟩ fun b => .ret (b, s) := rfl
theorem q_read {β : Type} (x : U16) (f : U8 → QM β) (s : QC) : (readQ x >>= f) s = .ask ⟨2, x, u8 0, 3⟩ fun b => f b s := rfl
theorem q_readt (x : U16) (s : QC) : readQ x s = .ask ⟨2, x, u8 0, 3⟩ fun b => .ret (b, s) := rfl
theorem p_in {β : Type} (x : U16) (f : U8 → PM β) (s : CS) : (inS x >>= f) s = .ask ⟨4, x, u8 0, 4⟩ fun b => f b s := rfl
theorem p_int (x : U16) (s : CS) : inS x s = .ask ⟨4, x, u8 0, 4⟩ fun b => .ret (b, s) := rfl
theorem p_write {β : Type} (x : U16) (d : U8) (f : Unit → PM β) (s : CS) : (writeS x d >>= f) s = .ask ⟨3, x, d, 3⟩ fun _ => f () s := rfl
theorem p_writet (x : U16) (d : U8) (s : CS) : writeS x d s = .ask ⟨3, x, d, 3⟩ fun _ => .ret ((), s) := rfl
theorem q_write {β : Type} (x : U16) (d : U8) (f : Unit → QM β) (s : QC) : (writeQ x d >>= f) s = .ask ⟨3, x, d, 3⟩ fun _ => f () s := rfl
theorem q_writet (x : U16) (d : U8) (s : QC) : writeQ x d s = .ask ⟨3, x, d, 3⟩ fun _ => .ret ((), s) := rfl
theorem p_out {β : Type} (x : U16) (d : U8) (f : Unit → PM β) (s : CS) : (outS x d >>= f) s = .ask ⟨5, x, d, 4⟩ fun _ => f () s := rfl
theorem p_outt (x : U16) (d : U8) (s : CS) : outS x d s = .ask ⟨5, x, d, 4⟩ fun _ => .ret ((), s) := rfl
theorem p_states {β : Type} (n : Int) (f : Unit → PM β) (s : CS) : (statesS n >>= f) s = .ask ⟨7, u16 0, u8 0, n⟩ fun _ => f () s := rfl
theorem p_statest (n : Int) (s : CS) : statesS n s = .ask ⟨7, u16 0, u8 0, n⟩ fun _ => .ret ((), s) := rfl
theorem q_states {β : Type} (n : Int) (f : Unit → QM β) (s : QC) : (statesQ n >>= f) s = .ask ⟨7, u16 0, u8 0, n⟩ fun _ => f () s := rfl
theorem q_statest (n : Int) (s : QC) : statesQ n s = .ask ⟨7, u16 0, u8 0, n⟩ fun _ => .ret ((), s) := rfl
theorem p_number {β : Type} (f : U8 → PM β) (s : CS) : (numberS >>= f) s = .ask ⟨2, s.r.pc, u8 0, 3⟩ fun b => f b { s with r := { s.r with pc := s.r.pc.inc 1 } } := rfl
theorem p_numbert (s : CS) : numberS s = .ask ⟨2, s.r.pc, u8 0, 3⟩ fun b => .ret (b, { s with r := { s.r with pc := s.r.pc.inc 1 } }) := rfl
theorem q_number {β : Type} (f : U8 → QM β) (s : QC) : (numberQ >>= f) s = .ask ⟨2, s.r.pc, u8 0, 3⟩ fun b => f b { s with r := { s.r with pc := s.r.pc.inc 1 } } := rfl
theorem q_numbert (s : QC) : numberQ s = .ask ⟨2, s.r.pc, u8 0, 3⟩ fun b => .ret (b, { s with r := { s.r with pc := s.r.pc.inc 1 } }) := rfl
theorem p_fetch {β : Type} (f : U8 → PM β) (s : CS) : (fetchS >>= f) s = .ask ⟨1, s.r.pc, u8 0, 4⟩ fun b => f b { s with r := tickR { s.r with pc := s.r.pc.inc 1 } } := rfl
theorem p_fetcht (s : CS) : fetchS s = .ask ⟨1, s.r.pc, u8 0, 4⟩ fun b => .ret (b, { s with r := tickR { s.r with pc := s.r.pc.inc 1 } }) := rfl
theorem q_fetch {β : Type} (f : U8 → QM β) (s : QC) : (fetchQ >>= f) s = .ask ⟨1, s.r.pc, u8 0, 4⟩ fun b => f b { s with r := tickR { s.r with pc := s.r.pc.inc 1 } } := rfl
theorem q_fetcht (s : QC) : fetchQ s = .ask ⟨1, s.r.pc, u8 0, 4⟩ fun b => .ret (b, { s with r := tickR { s.r with pc := s.r.pc.inc 1 } }) := rfl
theorem p_cyc {β : Type} (c : Cyc) (f : U8 → PM β) (s : CS) : (cycleS c >>= f) s = .ask c fun b => f b s := rfl
theorem q_cyc {β : Type} (c : Cyc) (f : U8 → QM β) (s : QC) : (cycleQ c >>= f) s = .ask c fun b => f b s := rfl
theorem cs_r (F : Fld) (r : R) (a : U16) (k : Bool) : (cs F r a k).r = r := Eq.trans rfl rfl
theorem cs_plane (F : Fld) (r : R) (a : U16) (k : Bool) : (cs F r a k).plane = F.plane := Eq.trans rfl rfl
theorem cs_code (F : Fld) (r : R) (a : U16) (k : Bool) : (cs F r a k).code = F.code := Eq.trans rfl rfl
theorem cs_x (F : Fld) (r : R) (a : U16) (k : Bool) : (cs F r a k).x = F.x := Eq.trans rfl rfl
theorem cs_y (F : Fld) (r : R) (a : U16) (k : Bool) : (cs F r a k).y = F.y := Eq.trans rfl rfl
theorem cs_z (F : Fld) (r : R) (a : U16) (k : Bool) : (cs F r a k).z = F.z := Eq.trans rfl rfl
theorem cs_p (F : Fld) (r : R) (a : U16) (k : Bool) : (cs F r a k).p = F.p := Eq.trans rfl rfl
theorem cs_q (F : Fld) (r : R) (a : U16) (k : Bool) : (cs F r a k).q = F.q := Eq.trans rfl rfl
theorem cs_at' (F : Fld) (r : R) (a : U16) (k : Bool) : (cs F r a k).at' = a := Eq.trans rfl rfl
theorem cs_known (F : Fld) (r : R) (a : U16) (k : Bool) : (cs F r a k).known = k := Eq.trans rfl rfl
theorem qc_r (F : Fld) (r : R) (m : U16) (k : Bool) : (qc F r m k).r = r := Eq.trans rfl rfl
theorem qc_plane (F : Fld) (r : R) (m : U16) (k : Bool) : (qc F r m k).plane = F.plane' := Eq.trans rfl rfl
theorem qc_code (F : Fld) (r : R) (m : U16) (k : Bool) : (qc F r m k).code = F.code' := Eq.trans rfl rfl
theorem qc_m (F : Fld) (r : R) (m : U16) (k : Bool) : (qc F r m k).m = m := Eq.trans rfl rfl
theorem qc_known (F : Fld) (r : R) (m : U16) (k : Bool) : (qc F r m k).known = k := Eq.trans rfl rfl
theorem cs_mk (F : Fld) (r : R) (a : U16) (k : Bool) : CS.mk r F.plane F.code F.x F.y F.z F.p F.q a k = cs F r a k := rfl
theorem qc_mk (F : Fld) (r : R) (m : U16) (k : Bool) : QC.mk r F.plane' F.code' m k = qc F r m k := rfl
theorem thr_cs (F : Fld) (r : R) (a : U16) (k : Bool) : thr (cs F r a k) = thc F.plane F.code := Eq.trans rfl rfl
theorem thq_qc (F : Fld) (r : R) (m : U16) (k : Bool) : thq (qc F r m k) = thc F.plane' F.code' := Eq.trans rfl rfl
theorem hl_qc (F : Fld) (r : R) (m : U16) (k : Bool) : QC.hl' (qc F r m k) = getP r F.plane' 2 := Eq.trans rfl rfl
theorem trel_ask {α : Type} {F : Fld} {c c' : Cyc} {k : U8 → T (α × CS)} {k' : U8 → T (α × QC)} (e : c = c') (h : ∀ b, TRel (Rl F) (k b) (k' b)) : TRel (Rl F) (T.ask c k) (T.ask c' k') := ⟨e, h⟩
variable (F : Fld)
variable (hF : FOk F)
include hF
theorem sim_where : Sim F whereS whereQ := by
  intro r a m k hk
  simp only [whereS, whereQ, p_get, q_get, p_modb, q_modb, p_pure, q_pure, p_ite, q_ite, p_states, q_states, p_number, q_number, cs_r, cs_plane, cs_code, cs_x, cs_y, cs_z, cs_p, cs_q, cs_at', cs_known, qc_r, qc_plane, qc_code, qc_m, qc_known, cs_mk, qc_mk, hl_qc, hF.getP, mvS]
  cases k
  · simp only [Bool.false_eq_true, if_false]
    refine trel_ite (nrm_34 hF.pl).symm (fun _ => ?_) (fun _ => ?_)
    · refine trel_ask rfl fun b => trel_ask rfl fun _ => ?_
      exact trel_ret rfl rfl (fun _ => rfl)
    · exact trel_ret rfl rfl (fun _ => rfl)
  · simp only [if_true]
    exact trel_ret (hk rfl).symm rfl hk
theorem sim_get (k0 : Int) : Sim F (getS k0) (getQ k0) := by
  intro r a m k hk
  simp only [getS, getQ, p_get, q_get, p_pure, q_pure, p_ite, q_ite, cs_r, qc_r, thr_cs, thq_qc, hF.getR]
  by_cases h : k0 = 6
  · simp only [if_pos h]
    refine trel_b (sim_where F hF) hk fun v r a m k hk => ?_
    simp only [p_readt, q_readt]
    exact trel_ask rfl fun b => trel_ret rfl rfl hk
  · simp only [if_neg h]
    exact trel_ret rfl rfl hk

theorem sim_set (k0 : Int) (d : U8) : Sim F (setS k0 d) (setQ k0 d) := by
  intro r a m k hk
  simp only [setS, setQ, p_mod, q_mod, p_ite, q_ite, cs_r, cs_plane, cs_code, cs_x, cs_y, cs_z, cs_p, cs_q, cs_at', cs_known, qc_r, qc_plane, qc_code, qc_m, qc_known, cs_mk, qc_mk, thr_cs, thq_qc, hF.setR]
  by_cases h : k0 = 6
  · simp only [if_pos h]
    refine trel_b (sim_where F hF) hk fun v r a m k hk => ?_
    simp only [p_writet, q_writet]
    exact trel_ask rfl fun b => trel_ret rfl rfl hk
  · simp only [if_neg h]
    exact trel_ret rfl rfl hk
theorem sim_hop (i : Bool) : Sim F (hopS i) (hopQ i) := by
  have _ := hF
  intro r a m k hk
  simp only [hopS, hopQ, p_modb, q_modb, p_mod, q_mod, p_pure, q_pure, p_ite, q_ite, p_states, q_states, p_number, q_number, cs_r, cs_plane, cs_code, cs_x, cs_y, cs_z, cs_p, cs_q, cs_at', cs_known, qc_r, qc_plane, qc_code, qc_m, qc_known, cs_mk, qc_mk]
  repeat (first | exact trel_ret rfl rfl (by first | assumption | exact fun _ => rfl) | exact sim_get F hF _ _ _ _ _ (by first | assumption | exact fun _ => rfl) | exact sim_set F hF _ _ _ _ _ _ (by first | assumption | exact fun _ => rfl) | (refine trel_ask rfl fun b => ?_) | (refine trel_ite Iff.rfl (fun h => ?_) (fun h => ?_)) | (refine trel_b (sim_get F hF _) (by first | assumption | exact fun _ => rfl) fun v r a m k hk => ?_; simp only [p_get, q_get, p_modb, q_modb, p_mod, q_mod, p_pure, q_pure, p_ite, q_ite, p_pureb, q_pureb, p_bb, q_bb, p_iteb, q_iteb, p_read, q_read, p_readt, q_readt, p_in, p_int, p_write, q_write, p_writet, q_writet, p_out, p_outt, p_states, q_states, p_statest, q_statest, p_number, q_number, p_numbert, q_numbert, p_fetch, q_fetch, p_fetcht, q_fetcht, p_cyc, q_cyc, cs_r, cs_plane, cs_code, cs_x, cs_y, cs_z, cs_p, cs_q, cs_at', cs_known, qc_r, qc_plane, qc_code, qc_m, qc_known, cs_mk, qc_mk, thr_cs, thq_qc, hl_qc, hF.getP, hF.setP, hF.getR, hF.setR, wordS, wordQ, popS, popQ, pushS, pushQ, putS, putQ, flagS, mvS, setPairS, setHlQ, tickS, tickQ, besideS, lessS, lessQ]) | (refine trel_b (sim_set F hF _ _) (by first | assumption | exact fun _ => rfl) fun v r a m k hk => ?_; simp only [p_get, q_get, p_modb, q_modb, p_mod, q_mod, p_pure, q_pure, p_ite, q_ite, p_pureb, q_pureb, p_bb, q_bb, p_iteb, q_iteb, p_read, q_read, p_readt, q_readt, p_in, p_int, p_write, q_write, p_writet, q_writet, p_out, p_outt, p_states, q_states, p_statest, q_statest, p_number, q_number, p_numbert, q_numbert, p_fetch, q_fetch, p_fetcht, q_fetcht, p_cyc, q_cyc, cs_r, cs_plane, cs_code, cs_x, cs_y, cs_z, cs_p, cs_q, cs_at', cs_known, qc_r, qc_plane, qc_code, qc_m, qc_known, cs_mk, qc_mk, thr_cs, thq_qc, hl_qc, hF.getP, hF.setP, hF.getR, hF.setR, wordS, wordQ, popS, popQ, pushS, pushQ, putS, putQ, flagS, mvS, setPairS, setHlQ, tickS, tickQ, besideS, lessS, lessQ]))
theorem sim_back : Sim F backS backQ := by
  have _ := hF
  intro r a m k hk
  simp only [backS, backQ, p_get, q_get, p_modb, q_modb, p_mod, q_mod, p_pureb, q_pureb, p_bb, q_bb, p_read, q_read, cs_r, cs_plane, cs_code, cs_x, cs_y, cs_z, cs_p, cs_q, cs_at', cs_known, qc_r, qc_plane, qc_code, qc_m, qc_known, cs_mk, qc_mk, popS, popQ]
  repeat (first | exact trel_ret rfl rfl (by first | assumption | exact fun _ => rfl) | exact sim_get F hF _ _ _ _ _ (by first | assumption | exact fun _ => rfl) | exact sim_set F hF _ _ _ _ _ _ (by first | assumption | exact fun _ => rfl) | exact sim_hop F hF _ _ _ _ _ (by first | assumption | exact fun _ => rfl) | (refine trel_ask rfl fun b => ?_) | (refine trel_ite Iff.rfl (fun h => ?_) (fun h => ?_)) | (refine trel_b (sim_get F hF _) (by first | assumption | exact fun _ => rfl) fun v r a m k hk => ?_; simp only [p_get, q_get, p_modb, q_modb, p_mod, q_mod, p_pure, q_pure, p_ite, q_ite, p_pureb, q_pureb, p_bb, q_bb, p_iteb, q_iteb, p_read, q_read, p_readt, q_readt, p_in, p_int, p_write, q_write, p_writet, q_writet, p_out, p_outt, p_states, q_states, p_statest, q_statest, p_number, q_number, p_numbert, q_numbert, p_fetch, q_fetch, p_fetcht, q_fetcht, p_cyc, q_cyc, cs_r, cs_plane, cs_code, cs_x, cs_y, cs_z, cs_p, cs_q, cs_at', cs_known, qc_r, qc_plane, qc_code, qc_m, qc_known, cs_mk, qc_mk, thr_cs, thq_qc, hl_qc, hF.getP, hF.setP, hF.getR, hF.setR, wordS, wordQ, popS, popQ, pushS, pushQ, putS, putQ, flagS, mvS, setPairS, setHlQ, tickS, tickQ, besideS, lessS, lessQ]) | (refine trel_b (sim_set F hF _ _) (by first | assumption | exact fun _ => rfl) fun v r a m k hk => ?_; simp only [p_get, q_get, p_modb, q_modb, p_mod, q_mod, p_pure, q_pure, p_ite, q_ite, p_pureb, q_pureb, p_bb, q_bb, p_iteb, q_iteb, p_read, q_read, p_readt, q_readt, p_in, p_int, p_write, q_write, p_writet, q_writet, p_out, p_outt, p_states, q_states, p_statest, q_statest, p_number, q_number, p_numbert, q_numbert, p_fetch, q_fetch, p_fetcht, q_fetcht, p_cyc, q_cyc, cs_r, cs_plane, cs_code, cs_x, cs_y, cs_z, cs_p, cs_q, cs_at', cs_known, qc_r, qc_plane, qc_code, qc_m, qc_known, cs_mk, qc_mk, thr_cs, thq_qc, hl_qc, hF.getP, hF.setP, hF.getR, hF.setR, wordS, wordQ, popS, popQ, pushS, pushQ, putS, putQ, flagS, mvS, setPairS, setHlQ, tickS, tickQ, besideS, lessS, lessQ]) | (refine trel_b (sim_hop F hF _) (by first | assumption | exact fun _ => rfl) fun v r a m k hk => ?_; simp only [p_get, q_get, p_modb, q_modb, p_mod, q_mod, p_pure, q_pure, p_ite, q_ite, p_pureb, q_pureb, p_bb, q_bb, p_iteb, q_iteb, p_read, q_read, p_readt, q_readt, p_in, p_int, p_write, q_write, p_writet, q_writet, p_out, p_outt, p_states, q_states, p_statest, q_statest, p_number, q_number, p_numbert, q_numbert, p_fetch, q_fetch, p_fetcht, q_fetcht, p_cyc, q_cyc, cs_r, cs_plane, cs_code, cs_x, cs_y, cs_z, cs_p, cs_q, cs_at', cs_known, qc_r, qc_plane, qc_code, qc_m, qc_known, cs_mk, qc_mk, thr_cs, thq_qc, hl_qc, hF.getP, hF.setP, hF.getR, hF.setR, wordS, wordQ, popS, popQ, pushS, pushQ, putS, putQ, flagS, mvS, setPairS, setHlQ, tickS, tickQ, besideS, lessS, lessQ]))
theorem sim_call (i : Bool) : Sim F (callS i) (callQ i) := by
  have _ := hF
  intro r a m k hk
  simp only [callS, callQ, p_get, q_get, p_modb, q_modb, p_mod, q_mod, p_pure, q_pure, p_ite, q_ite, p_pureb, q_pureb, p_bb, q_bb, p_write, q_write, p_states, q_states, p_number, q_number, cs_r, cs_plane, cs_code, cs_x, cs_y, cs_z, cs_p, cs_q, cs_at', cs_known, qc_r, qc_plane, qc_code, qc_m, qc_known, cs_mk, qc_mk, wordS, wordQ, pushS, pushQ]
  repeat (first | exact trel_ret rfl rfl (by first | assumption | exact fun _ => rfl) | exact sim_get F hF _ _ _ _ _ (by first | assumption | exact fun _ => rfl) | exact sim_set F hF _ _ _ _ _ _ (by first | assumption | exact fun _ => rfl) | exact sim_hop F hF _ _ _ _ _ (by first | assumption | exact fun _ => rfl) | exact sim_back F hF _ _ _ _ (by first | assumption | exact fun _ => rfl) | (refine trel_ask rfl fun b => ?_) | (refine trel_ite Iff.rfl (fun h => ?_) (fun h => ?_)) | (refine trel_b (sim_get F hF _) (by first | assumption | exact fun _ => rfl) fun v r a m k hk => ?_; simp only [p_get, q_get, p_modb, q_modb, p_mod, q_mod, p_pure, q_pure, p_ite, q_ite, p_pureb, q_pureb, p_bb, q_bb, p_iteb, q_iteb, p_read, q_read, p_readt, q_readt, p_in, p_int, p_write, q_write, p_writet, q_writet, p_out, p_outt, p_states, q_states, p_statest, q_statest, p_number, q_number, p_numbert, q_numbert, p_fetch, q_fetch, p_fetcht, q_fetcht, p_cyc, q_cyc, cs_r, cs_plane, cs_code, cs_x, cs_y, cs_z, cs_p, cs_q, cs_at', cs_known, qc_r, qc_plane, qc_code, qc_m, qc_known, cs_mk, qc_mk, thr_cs, thq_qc, hl_qc, hF.getP, hF.setP, hF.getR, hF.setR, wordS, wordQ, popS, popQ, pushS, pushQ, putS, putQ, flagS, mvS, setPairS, setHlQ, tickS, tickQ, besideS, lessS, lessQ]) | (refine trel_b (sim_set F hF _ _) (by first | assumption | exact fun _ => rfl) fun v r a m k hk => ?_; simp only [p_get, q_get, p_modb, q_modb, p_mod, q_mod, p_pure, q_pure, p_ite, q_ite, p_pureb, q_pureb, p_bb, q_bb, p_iteb, q_iteb, p_read, q_read, p_readt, q_readt, p_in, p_int, p_write, q_write, p_writet, q_writet, p_out, p_outt, p_states, q_states, p_statest, q_statest, p_number, q_number, p_numbert, q_numbert, p_fetch, q_fetch, p_fetcht, q_fetcht, p_cyc, q_cyc, cs_r, cs_plane, cs_code, cs_x, cs_y, cs_z, cs_p, cs_q, cs_at', cs_known, qc_r, qc_plane, qc_code, qc_m, qc_known, cs_mk, qc_mk, thr_cs, thq_qc, hl_qc, hF.getP, hF.setP, hF.getR, hF.setR, wordS, wordQ, popS, popQ, pushS, pushQ, putS, putQ, flagS, mvS, setPairS, setHlQ, tickS, tickQ, besideS, lessS, lessQ]) | (refine trel_b (sim_hop F hF _) (by first | assumption | exact fun _ => rfl) fun v r a m k hk => ?_; simp only [p_get, q_get, p_modb, q_modb, p_mod, q_mod, p_pure, q_pure, p_ite, q_ite, p_pureb, q_pureb, p_bb, q_bb, p_iteb, q_iteb, p_read, q_read, p_readt, q_readt, p_in, p_int, p_write, q_write, p_writet, q_writet, p_out, p_outt, p_states, q_states, p_statest, q_statest, p_number, q_number, p_numbert, q_numbert, p_fetch, q_fetch, p_fetcht, q_fetcht, p_cyc, q_cyc, cs_r, cs_plane, cs_code, cs_x, cs_y, cs_z, cs_p, cs_q, cs_at', cs_known, qc_r, qc_plane, qc_code, qc_m, qc_known, cs_mk, qc_mk, thr_cs, thq_qc, hl_qc, hF.getP, hF.setP, hF.getR, hF.setR, wordS, wordQ, popS, popQ, pushS, pushQ, putS, putQ, flagS, mvS, setPairS, setHlQ, tickS, tickQ, besideS, lessS, lessQ]) | (refine trel_b (sim_back F hF) (by first | assumption | exact fun _ => rfl) fun v r a m k hk => ?_; simp only [p_get, q_get, p_modb, q_modb, p_mod, q_mod, p_pure, q_pure, p_ite, q_ite, p_pureb, q_pureb, p_bb, q_bb, p_iteb, q_iteb, p_read, q_read, p_readt, q_readt, p_in, p_int, p_write, q_write, p_writet, q_writet, p_out, p_outt, p_states, q_states, p_statest, q_statest, p_number, q_number, p_numbert, q_numbert, p_fetch, q_fetch, p_fetcht, q_fetcht, p_cyc, q_cyc, cs_r, cs_plane, cs_code, cs_x, cs_y, cs_z, cs_p, cs_q, cs_at', cs_known, qc_r, qc_plane, qc_code, qc_m, qc_known, cs_mk, qc_mk, thr_cs, thq_qc, hl_qc, hF.getP, hF.setP, hF.getR, hF.setR, wordS, wordQ, popS, popQ, pushS, pushQ, putS, putQ, flagS, mvS, setPairS, setHlQ, tickS, tickQ, besideS, lessS, lessQ]))
theorem sim_hops : Sim F hopsS (hopsQ F.y) := by
  intro r a m k hk
  simp only [hopsS, hopsQ, p_get, q_get, p_modb, q_modb, p_mod, q_mod, p_pure, q_pure, p_ite, q_ite, q_pureb, q_bb, p_states, q_states, cs_r, cs_plane, cs_code, cs_x, cs_y, cs_z, cs_p, cs_q, cs_at', cs_known, qc_r, qc_plane, qc_code, qc_m, qc_known, cs_mk, qc_mk, lessQ]
  repeat (first | exact trel_ret rfl rfl (by first | assumption | exact fun _ => rfl) | exact sim_get F hF _ _ _ _ _ (by first | assumption | exact fun _ => rfl) | exact sim_set F hF _ _ _ _ _ _ (by first | assumption | exact fun _ => rfl) | exact sim_hop F hF _ _ _ _ _ (by first | assumption | exact fun _ => rfl) | exact sim_back F hF _ _ _ _ (by first | assumption | exact fun _ => rfl) | exact sim_call F hF _ _ _ _ _ (by first | assumption | exact fun _ => rfl) | (refine trel_ask rfl fun b => ?_) | (refine trel_ite Iff.rfl (fun h => ?_) (fun h => ?_)) | (refine trel_b (sim_get F hF _) (by first | assumption | exact fun _ => rfl) fun v r a m k hk => ?_; simp only [p_get, q_get, p_modb, q_modb, p_mod, q_mod, p_pure, q_pure, p_ite, q_ite, p_pureb, q_pureb, p_bb, q_bb, p_iteb, q_iteb, p_read, q_read, p_readt, q_readt, p_in, p_int, p_write, q_write, p_writet, q_writet, p_out, p_outt, p_states, q_states, p_statest, q_statest, p_number, q_number, p_numbert, q_numbert, p_fetch, q_fetch, p_fetcht, q_fetcht, p_cyc, q_cyc, cs_r, cs_plane, cs_code, cs_x, cs_y, cs_z, cs_p, cs_q, cs_at', cs_known, qc_r, qc_plane, qc_code, qc_m, qc_known, cs_mk, qc_mk, thr_cs, thq_qc, hl_qc, hF.getP, hF.setP, hF.getR, hF.setR, wordS, wordQ, popS, popQ, pushS, pushQ, putS, putQ, flagS, mvS, setPairS, setHlQ, tickS, tickQ, besideS, lessS, lessQ]) | (refine trel_b (sim_set F hF _ _) (by first | assumption | exact fun _ => rfl) fun v r a m k hk => ?_; simp only [p_get, q_get, p_modb, q_modb, p_mod, q_mod, p_pure, q_pure, p_ite, q_ite, p_pureb, q_pureb, p_bb, q_bb, p_iteb, q_iteb, p_read, q_read, p_readt, q_readt, p_in, p_int, p_write, q_write, p_writet, q_writet, p_out, p_outt, p_states, q_states, p_statest, q_statest, p_number, q_number, p_numbert, q_numbert, p_fetch, q_fetch, p_fetcht, q_fetcht, p_cyc, q_cyc, cs_r, cs_plane, cs_code, cs_x, cs_y, cs_z, cs_p, cs_q, cs_at', cs_known, qc_r, qc_plane, qc_code, qc_m, qc_known, cs_mk, qc_mk, thr_cs, thq_qc, hl_qc, hF.getP, hF.setP, hF.getR, hF.setR, wordS, wordQ, popS, popQ, pushS, pushQ, putS, putQ, flagS, mvS, setPairS, setHlQ, tickS, tickQ, besideS, lessS, lessQ]) | (refine trel_b (sim_hop F hF _) (by first | assumption | exact fun _ => rfl) fun v r a m k hk => ?_; simp only [p_get, q_get, p_modb, q_modb, p_mod, q_mod, p_pure, q_pure, p_ite, q_ite, p_pureb, q_pureb, p_bb, q_bb, p_iteb, q_iteb, p_read, q_read, p_readt, q_readt, p_in, p_int, p_write, q_write, p_writet, q_writet, p_out, p_outt, p_states, q_states, p_statest, q_statest, p_number, q_number, p_numbert, q_numbert, p_fetch, q_fetch, p_fetcht, q_fetcht, p_cyc, q_cyc, cs_r, cs_plane, cs_code, cs_x, cs_y, cs_z, cs_p, cs_q, cs_at', cs_known, qc_r, qc_plane, qc_code, qc_m, qc_known, cs_mk, qc_mk, thr_cs, thq_qc, hl_qc, hF.getP, hF.setP, hF.getR, hF.setR, wordS, wordQ, popS, popQ, pushS, pushQ, putS, putQ, flagS, mvS, setPairS, setHlQ, tickS, tickQ, besideS, lessS, lessQ]) | (refine trel_b (sim_back F hF) (by first | assumption | exact fun _ => rfl) fun v r a m k hk => ?_; simp only [p_get, q_get, p_modb, q_modb, p_mod, q_mod, p_pure, q_pure, p_ite, q_ite, p_pureb, q_pureb, p_bb, q_bb, p_iteb, q_iteb, p_read, q_read, p_readt, q_readt, p_in, p_int, p_write, q_write, p_writet, q_writet, p_out, p_outt, p_states, q_states, p_statest, q_statest, p_number, q_number, p_numbert, q_numbert, p_fetch, q_fetch, p_fetcht, q_fetcht, p_cyc, q_cyc, cs_r, cs_plane, cs_code, cs_x, cs_y, cs_z, cs_p, cs_q, cs_at', cs_known, qc_r, qc_plane, qc_code, qc_m, qc_known, cs_mk, qc_mk, thr_cs, thq_qc, hl_qc, hF.getP, hF.setP, hF.getR, hF.setR, wordS, wordQ, popS, popQ, pushS, pushQ, putS, putQ, flagS, mvS, setPairS, setHlQ, tickS, tickQ, besideS, lessS, lessQ]) | (refine trel_b (sim_call F hF _) (by first | assumption | exact fun _ => rfl) fun v r a m k hk => ?_; simp only [p_get, q_get, p_modb, q_modb, p_mod, q_mod, p_pure, q_pure, p_ite, q_ite, p_pureb, q_pureb, p_bb, q_bb, p_iteb, q_iteb, p_read, q_read, p_readt, q_readt, p_in, p_int, p_write, q_write, p_writet, q_writet, p_out, p_outt, p_states, q_states, p_statest, q_statest, p_number, q_number, p_numbert, q_numbert, p_fetch, q_fetch, p_fetcht, q_fetcht, p_cyc, q_cyc, cs_r, cs_plane, cs_code, cs_x, cs_y, cs_z, cs_p, cs_q, cs_at', cs_known, qc_r, qc_plane, qc_code, qc_m, qc_known, cs_mk, qc_mk, thr_cs, thq_qc, hl_qc, hF.getP, hF.setP, hF.getR, hF.setR, wordS, wordQ, popS, popQ, pushS, pushQ, putS, putQ, flagS, mvS, setPairS, setHlQ, tickS, tickQ, besideS, lessS, lessQ]))
variable (hy : 0 ≤ F.y ∧ F.y ≤ 7) (hz : 0 ≤ F.z ∧ F.z ≤ 7) (hp : F.p = F.y / 2) (hq : F.q = F.y % 2) (hpl : F.plane' = F.plane)
include hy hp
theorem sim_at : Sim F pairAtS (atQ F.y) := by
  have _ := hF
  intro r a m k hk
  simp only [pairAtS, atQ, p_get, q_get, p_pure, q_pure, p_ite, q_ite, p_number, q_number, cs_r, cs_plane, cs_code, cs_x, cs_y, cs_z, cs_p, cs_q, cs_at', cs_known, qc_r, qc_plane, qc_code, qc_m, qc_known, cs_mk, qc_mk, wordS, wordQ]
  rcases (show (F.p = 0 ∧ ¬ 3 < F.y ∧ ¬ (F.y = 2 ∨ F.y = 3)) ∨ (¬ F.p = 0 ∧ F.p = 1 ∧ ¬ 3 < F.y ∧ (F.y = 2 ∨ F.y = 3)) ∨ (¬ F.p = 0 ∧ ¬ F.p = 1 ∧ 3 < F.y) by omega) with ⟨h1, h2, h3⟩ | ⟨h1, h2, h3, h4⟩ | ⟨h1, h2, h3⟩
  · rw [if_pos h1, if_neg h2, if_neg h3]; exact trel_ret rfl rfl hk
  · rw [if_neg h1, if_pos h2, if_neg h3, if_pos h4]; exact trel_ret rfl rfl hk
  · rw [if_neg h1, if_neg h2, if_pos h3]; exact trel_ask rfl fun _ => trel_ask rfl fun _ => trel_ret rfl rfl hk
theorem sim_stores : Sim F storesS (storesQ F.y) := by
  intro r a m k hk
  simp only [storesS, storesQ]
  refine trel_b (sim_at F hF hy hp) hk fun v r a m k hk => ?_
  simp only [p_get, q_get, p_modb, q_modb, p_mod, q_mod, p_ite, q_ite, p_read, q_read, p_write, q_write, cs_r, cs_plane, cs_code, cs_x, cs_y, cs_z, cs_p, cs_q, cs_at', cs_known, qc_r, qc_plane, qc_code, qc_m, qc_known, cs_mk, qc_mk, hl_qc, hF.getP, hF.setP, putS, putQ, setPairS, setHlQ, besideS]
  by_cases h1 : F.y = 0 ∨ F.y = 2 ∨ F.y = 6
  · rw [if_pos h1, if_pos h1]; exact trel_ask rfl fun _ => trel_ret rfl rfl hk
  · rw [if_neg h1, if_neg h1]
    by_cases h2 : F.y = 1 ∨ F.y = 3 ∨ F.y = 7
    · rw [if_pos h2, if_pos h2]; exact trel_ask rfl fun _ => trel_ret rfl rfl hk
    · rw [if_neg h2, if_neg h2]
      by_cases h3 : F.y = 4
      · rw [if_pos h3, if_pos h3]; exact trel_ask rfl fun _ => trel_ask rfl fun _ => trel_ret rfl rfl hk
      · rw [if_neg h3, if_neg h3, if_pos (show F.y = 5 by omega)]; exact trel_ask rfl fun _ => trel_ask rfl fun _ => trel_ret rfl rfl hk
omit hy hp
theorem sim_stepInc : Sim F stepIncS (stepQ F.y 4) := by
  intro r a m k hk
  simp only [stepIncS, stepQ, p_get, cs_y]
  refine trel_b (sim_get F hF _) hk fun v r a m k hk => ?_
  simp only [p_get, q_get, p_modb, q_modb, p_ite, q_ite, p_bb, p_states, q_states, cs_r, cs_plane, cs_code, cs_x, cs_y, cs_z, cs_p, cs_q, cs_at', cs_known, qc_r, qc_plane, qc_code, qc_m, qc_known, cs_mk, qc_mk, putS, putQ, flagS, show ((4 : Int) = 5) = False by decide, if_false]
  by_cases h : F.y = 6
  · rw [if_pos h, if_pos h]
    refine trel_ask rfl fun _ => ?_
    exact sim_set F hF _ _ _ _ _ _ hk
  · rw [if_neg h, if_neg h]
    exact sim_set F hF _ _ _ _ _ _ hk
theorem sim_stepDec : Sim F stepDecS (stepQ F.y 5) := by
  intro r a m k hk
  simp only [stepDecS, stepQ, p_get, cs_y]
  refine trel_b (sim_get F hF _) hk fun v r a m k hk => ?_
  simp only [p_get, q_get, p_modb, q_modb, p_ite, q_ite, p_bb, p_states, q_states, cs_r, cs_plane, cs_code, cs_x, cs_y, cs_z, cs_p, cs_q, cs_at', cs_known, qc_r, qc_plane, qc_code, qc_m, qc_known, cs_mk, qc_mk, putS, putQ, flagS, if_true]
  by_cases h : F.y = 6
  · rw [if_pos h, if_pos h]
    refine trel_ask rfl fun _ => ?_
    exact sim_set F hF _ _ _ _ _ _ hk
  · rw [if_neg h, if_neg h]
    exact sim_set F hF _ _ _ _ _ _ hk
theorem sim_turn : Sim F turnS (turnQ F.y) := by
  have _ := hF
  intro r a m k hk
  simp only [turnS, turnQ, turnF, p_get, q_get, p_mod, q_mod, p_ite, cs_r, cs_plane, cs_code, cs_x, cs_y, cs_z, cs_p, cs_q, cs_at', cs_known, qc_r, qc_plane, qc_code, qc_m, qc_known, cs_mk, qc_mk, putS, putQ, flagS]
  by_cases h4 : F.y = 4
  · simp only [if_pos h4]; exact trel_ret rfl rfl hk
  by_cases h5 : F.y = 5
  · simp only [if_neg h4, if_pos h5]; exact trel_ret rfl rfl hk
  by_cases h6 : F.y = 6
  · simp only [if_neg h4, if_neg h5, if_pos h6]; exact trel_ret rfl rfl hk
  by_cases h7 : F.y = 7
  · simp only [if_neg h4, if_neg h5, if_neg h6, if_pos h7]; exact trel_ret rfl rfl hk
  simp only [if_neg h4, if_neg h5, if_neg h6, if_neg h7]; exact trel_ret rfl rfl hk
theorem sim_sum (y : Int) (b : U8) : Sim F (addS y b) (sumQ y b) := by
  have _ := hF
  intro r a m k hk
  simp only [addS, sumQ, sumF, p_get, q_get, p_mod, q_mod, p_ite, cs_r, cs_plane, cs_code, cs_x, cs_y, cs_z, cs_p, cs_q, cs_at', cs_known, qc_r, qc_plane, qc_code, qc_m, qc_known, cs_mk, qc_mk, putS, putQ, flagS]
  by_cases h0 : y = 0
  · simp only [if_pos h0]; exact trel_ret rfl rfl hk
  by_cases h1 : y = 1
  · simp only [if_neg h0, if_pos h1]; exact trel_ret rfl rfl hk
  by_cases h2 : y = 2
  · simp only [if_neg h0, if_neg h1, if_pos h2]; exact trel_ret rfl rfl hk
  by_cases h3 : y = 3
  · simp only [if_neg h0, if_neg h1, if_neg h2, if_pos h3]; exact trel_ret rfl rfl hk
  by_cases h4 : y = 4
  · simp only [if_neg h0, if_neg h1, if_neg h2, if_neg h3, if_pos h4]; exact trel_ret rfl rfl hk
  by_cases h5 : y = 5
  · simp only [if_neg h0, if_neg h1, if_neg h2, if_neg h3, if_neg h4, if_pos h5]; exact trel_ret rfl rfl hk
  by_cases h6 : y = 6
  · simp only [if_neg h0, if_neg h1, if_neg h2, if_neg h3, if_neg h4, if_neg h5, if_pos h6]; exact trel_ret rfl rfl hk
  simp only [if_neg h0, if_neg h1, if_neg h2, if_neg h3, if_neg h4, if_neg h5, if_neg h6]; exact trel_ret rfl rfl hk
include hpl
theorem sim_load : Sim F loadS (loadQ F.y) := by
  intro r a m k hk
  simp only [loadS, loadQ, p_get, q_get, p_modb, q_modb, p_ite, q_ite, q_writet, p_states, q_states, p_number, q_number, cs_r, cs_plane, cs_code, cs_x, cs_y, cs_z, cs_p, cs_q, cs_at', cs_known, qc_r, qc_plane, qc_code, qc_m, qc_known, cs_mk, qc_mk, hl_qc, hF.getP, mvS]
  by_cases h : F.y = 6 ∧ ¬ F.plane' = 0
  · rw [if_neg (by rw [← hpl]; omega), if_pos h]
    refine trel_ask rfl fun b => trel_ask rfl fun c => trel_ask rfl fun _ => ?_
    simp only [setS, whereS, if_true, p_get, p_modb, p_mod, p_ite, p_pureb, p_bb, p_iteb, p_writet, p_states, p_number, cs_r, cs_plane, cs_code, cs_x, cs_y, cs_z, cs_p, cs_q, cs_at', cs_known, cs_mk, thr_cs, mvS]
    exact trel_ask rfl fun _ => trel_ret rfl rfl (fun _ => rfl)
  · rw [if_pos (by rw [← hpl]; omega), if_neg h]
    exact trel_ask rfl fun b => sim_set F hF _ _ _ _ _ _ hk
omit hpl
end Go.Proofs.YtnaampdpkegacaaGreatDoor

namespace Go.Proofs.YtnaampdpkegacaaGreatDoor
open Go.RowKit

theorem lo_word (h l : U8) : (h.word l).lo = l := U8.ext (loB_wrd _ _ l.h0 l.h1)
theorem hi_word (h l : U8) : (h.word l).hi = h := U8.ext (hiB_wrd _ _ h.h0 h.h1 l.h0 l.h1)
theorem step_pair (x : U16) (q : Int) (h : q = 0 ∨ q = 1) : x.mv (IntKind.i64.wrap (1 - IntKind.i64.wrap (2 * q))) = if q = 0 then x.inc 1 else x.inc (-1) := by
  rcases h with rfl | rfl <;> rfl
theorem trel_r {α : Type} {F : Fld} {v v' : α} {r r' : R} {a m : U16} {k : Bool} (e : v = v') (er : r' = r) (hk : k = true → m = a) : TRel (Rl F) (T.ret (v, cs F r a k)) (T.ret (v', qc F r' m k)) := trel_ret e er.symm hk
variable (F : Fld)
variable (hF : FOk F)
include hF
theorem sim_pops : Sim F popsS (popsQ F.p F.q) := by
  intro r a m k hk
  simp only [popsS, popsQ, backS, backQ, p_get, q_get, p_modb, q_modb, p_mod, q_mod, p_ite, q_ite, p_pureb, q_pureb, p_bb, q_bb, p_read, q_read, p_states, q_states, cs_r, cs_plane, cs_code, cs_x, cs_y, cs_z, cs_p, cs_q, cs_at', cs_known, qc_r, qc_plane, qc_code, qc_m, qc_known, cs_mk, qc_mk, hl_qc, hF.getP, hF.setP, popS, popQ, setPairS]
  by_cases h0 : F.q = 0
  · by_cases h3 : F.p = 3
    · rw [if_pos h0, if_pos h3, if_pos (show F.q = 0 ∧ F.p = 3 from ⟨h0, h3⟩)]; exact trel_ask rfl fun _ => trel_ask rfl fun _ => trel_ret rfl rfl hk
    · rw [if_pos h0, if_neg h3, if_neg (show ¬ (F.q = 0 ∧ F.p = 3) by omega), if_pos h0]; exact trel_ask rfl fun _ => trel_ask rfl fun _ => trel_ret rfl rfl hk
  · rw [if_neg h0, if_neg (show ¬ (F.q = 0 ∧ F.p = 3) by omega), if_neg h0]
    refine trel_ite Iff.rfl (fun _ => trel_ask rfl fun _ => trel_ask rfl fun _ => trel_ret rfl rfl hk) fun _ => ?_
    refine trel_ite Iff.rfl (fun _ => trel_ret rfl rfl hk) fun _ => ?_
    refine trel_ite Iff.rfl (fun _ => trel_ret rfl rfl hk) fun _ => ?_
    exact trel_ask rfl fun _ => trel_ret rfl rfl hk
theorem sim_cross : Sim F crossS crossQ := by
  intro r a m k hk
  simp only [crossS, crossQ, p_get, q_get, p_modb, q_modb, p_mod, q_mod, p_read, q_read, p_write, q_write, p_states, q_states, cs_r, cs_plane, cs_code, cs_x, cs_y, cs_z, cs_p, cs_q, cs_at', cs_known, qc_r, qc_plane, qc_code, qc_m, qc_known, cs_mk, qc_mk, hl_qc, hF.getP, hF.setP, setPairS, setHlQ]
  exact trel_ask rfl fun _ => trel_ask rfl fun _ => trel_ask rfl fun _ => trel_ask rfl fun _ => trel_ask rfl fun _ => trel_ask rfl fun _ => trel_ret rfl rfl hk
theorem sim_ports : Sim F portsS (portsQ F.y) := by
  intro r a m k hk
  simp only [portsS, portsQ, p_get, q_get, p_modb, q_modb, p_mod, q_mod, p_pure, q_pure, p_ite, q_ite, p_pureb, q_pureb, p_bb, q_bb, p_in, p_out, p_number, q_number, q_cyc, cs_r, cs_plane, cs_code, cs_x, cs_y, cs_z, cs_p, cs_q, cs_at', cs_known, qc_r, qc_plane, qc_code, qc_m, qc_known, cs_mk, qc_mk, wordS, wordQ, putS, putQ, besideS]
  refine trel_ite Iff.rfl (fun _ => trel_ask rfl fun _ => trel_ask rfl fun _ => trel_ret rfl rfl hk) fun _ => ?_
  refine trel_ite Iff.rfl (fun _ => trel_ask rfl fun _ => trel_ask rfl fun _ => trel_ret rfl (by rw [lo_word]) hk) fun _ => ?_
  refine trel_ite Iff.rfl (fun _ => trel_ask rfl fun _ => trel_ask rfl fun _ => trel_ret rfl rfl hk) fun _ => ?_
  refine trel_ite Iff.rfl (fun _ => sim_cross F hF _ _ _ _ hk) fun _ => ?_
  refine trel_ite Iff.rfl (fun _ => trel_ret rfl rfl hk) fun _ => ?_
  refine trel_ite Iff.rfl (fun _ => trel_ret rfl rfl hk) fun _ => ?_
  exact trel_ite Iff.rfl (fun _ => trel_ret rfl rfl hk) fun _ => trel_ret rfl rfl hk
theorem sim_pushb {β : Type} (x : U16) (f : Unit → PM β) (f' : Unit → QM β) (r : R) (a m : U16) (k : Bool)
    (h : TRel (Rl F) (f () (cs F { r with sp := (r.sp.inc (-1)).inc (-1) } a k)) (f' () (qc F { r with sp := (r.sp.inc (-1)).inc (-1) } m k))) : TRel (Rl F) ((pushS x >>= f) (cs F r a k)) ((pushQ x >>= f') (qc F r m k)) := by
  have _ := hF
  simp only [p_get, q_get, p_modb, q_modb, p_bb, q_bb, p_write, q_write, cs_r, cs_plane, cs_code, cs_x, cs_y, cs_z, cs_p, cs_q, cs_at', cs_known, qc_r, qc_plane, qc_code, qc_m, qc_known, cs_mk, qc_mk, pushS, pushQ]
  exact trel_ask rfl fun _ => trel_ask rfl fun _ => h
variable (hy : 0 ≤ F.y ∧ F.y ≤ 7) (hz : 0 ≤ F.z ∧ F.z ≤ 7) (hp : F.p = F.y / 2) (hq : F.q = F.y % 2) (hpl : F.plane' = F.plane)
include hq hy in
theorem sim_high : Sim F highS (highQ F.y F.z F.p F.q) := by
  have _ := hy
  intro r a m k hk
  simp only [highS, highQ, p_get, q_get, p_modb, q_modb, p_mod, q_mod, p_pure, q_pure, p_ite, q_ite, p_pureb, q_pureb, p_bb, q_bb, p_write, q_write, p_writet, q_writet, p_states, q_states, p_number, q_number, cs_r, cs_plane, cs_code, cs_x, cs_y, cs_z, cs_p, cs_q, cs_at', cs_known, qc_r, qc_plane, qc_code, qc_m, qc_known, cs_mk, qc_mk, hF.getP, wordS, wordQ, pushS, pushQ]
  refine trel_ite Iff.rfl (fun _ => trel_ask rfl fun _ => trel_ite Iff.rfl (fun _ => sim_back F hF _ _ _ _ hk) fun _ => trel_ret rfl rfl hk) fun _ => ?_
  refine trel_ite Iff.rfl (fun _ => sim_pops F hF _ _ _ _ hk) fun _ => ?_
  refine trel_ite Iff.rfl (fun _ => trel_ask rfl fun _ => trel_ask rfl fun _ => trel_ite Iff.rfl (fun _ => trel_ret rfl rfl hk) fun _ => trel_ret rfl rfl hk) fun _ => ?_
  refine trel_ite Iff.rfl (fun _ => sim_ports F hF _ _ _ _ hk) fun _ => ?_
  refine trel_ite Iff.rfl (fun _ => sim_call F hF _ _ _ _ _ hk) fun _ => ?_
  refine trel_ite Iff.rfl (fun _ => ?_) fun _ => ?_
  · by_cases h : F.q = 0
    · rw [if_pos h, if_neg (show ¬ F.q = 1 by omega)]
      exact trel_ask rfl fun _ => trel_ask rfl fun _ => trel_ask rfl fun _ => trel_ret rfl rfl hk
    · rw [if_neg h, if_pos (show F.q = 1 by omega)]
      exact sim_call F hF _ _ _ _ _ hk
  refine trel_ite Iff.rfl (fun _ => trel_ask rfl fun _ => sim_sum F hF _ _ _ _ _ _ hk) fun _ => ?_
  exact trel_ask rfl fun _ => trel_ask rfl fun _ => trel_ask rfl fun _ => trel_ret rfl rfl hk
include hy hz hp hq hpl
theorem sim_low : Sim F lowS (lowQ F.y F.z F.p F.q) := by
  have _ := hz
  intro r a m k hk
  simp only [lowS, lowQ, p_get, q_get, p_modb, q_modb, p_mod, q_mod, p_ite, q_ite, p_pureb, q_pureb, p_bb, q_bb, p_states, q_states, p_number, q_number, cs_r, cs_plane, cs_code, cs_x, cs_y, cs_z, cs_p, cs_q, cs_at', cs_known, qc_r, qc_plane, qc_code, qc_m, qc_known, cs_mk, qc_mk, hl_qc, hF.getP, hF.setP, wordS, wordQ, putS, putQ, flagS, setPairS, setHlQ]
  refine trel_ite Iff.rfl (fun _ => sim_hops F hF _ _ _ _ hk) fun h0 => ?_
  refine trel_ite Iff.rfl (fun _ => ?_) fun h1 => ?_
  · refine trel_ite Iff.rfl (fun _ => trel_ask rfl fun _ => trel_ask rfl fun _ => trel_ret rfl rfl hk) fun _ => ?_
    exact trel_ask rfl fun _ => trel_ret rfl rfl hk
  refine trel_ite Iff.rfl (fun _ => sim_stores F hF hy hp _ _ _ _ hk) fun h2 => ?_
  refine trel_ite Iff.rfl (fun _ => trel_ask rfl fun _ => trel_ret rfl (by rw [step_pair _ _ (by omega)]) hk) fun h3 => ?_
  by_cases h4 : F.z = 4
  · rw [if_pos h4, if_pos (.inl h4), h4]; exact sim_stepInc F hF _ _ _ _ hk
  rw [if_neg h4]
  by_cases h5 : F.z = 5
  · rw [if_pos h5, if_pos (.inr h5), h5]; exact sim_stepDec F hF _ _ _ _ hk
  rw [if_neg h5, if_neg (show ¬ (F.z = 4 ∨ F.z = 5) by omega)]
  exact trel_ite Iff.rfl (fun _ => sim_load F hF hpl _ _ _ _ hk) fun _ => sim_turn F hF _ _ _ _ hk
end Go.Proofs.YtnaampdpkegacaaGreatDoor

namespace Go.Proofs.YtnaampdpkegacaaGreatDoor
open Go.RowKit

theorem at_wz (r : R) (v : U16) (o : Nat) : R.at { r with wz := v } o = r.at o := by unfold R.at; split <;> rfl
theorem getP_wz (r : R) (v : U16) (pl p : Int) : getP { r with wz := v } pl p = getP r pl p := by unfold getP; cases poff pl p <;> first | rfl | exact at_wz _ _ _
theorem setP_wz (r : R) (v x : U16) (pl p : Int) : setP { r with wz := v } pl p x = { setP r pl p x with wz := v } := by
  unfold setP
  cases poff pl p with
  | none => rfl
  | some o => simp only [R.putAt]; split <;> rfl
theorem ir_eq (b f : U8) (iff : Bool) : (if iff = true then oOr4 (oRsC b f) else oRsC b f) = oIr b iff (bit 0 f.v) := by
  have e : bits .or .u8 (res b.v) (bits .and .u8 f.v 1) = mk (bit 7 b.v) (decide (b.v = 0)) (bit 5 b.v) false (bit 3 b.v) false false (bit 0 f.v) := by
    rw [and_b0]; unfold res; rw [mk_or]; simp
  cases iff
  · exact U8.ext e
  · refine U8.ext ?_
    show bits .or .u8 (bits .or .u8 (res b.v) (bits .and .u8 f.v 1)) 4 = _
    rw [e, show (4 : Int) = mk false false false false false true false false from rfl, mk_or]
    simp [oIr]
theorem evc_eq (b f : U8) : oEvC b f = oWith (oEven b) 0 (bit 0 f.v) := by
  refine U8.ext ?_
  show bits .or .u8 (evf b.v) (bits .and .u8 f.v 1) = wth (evf b.v) 0 (bit 0 f.v)
  rw [and_b0]
  unfold evf
  rw [mk_or]
  generalize bit 7 b.v = x1, decide (b.v = 0) = x2, bit 5 b.v = x3, bit 3 b.v = x4, evb b.v = x5, bit 0 f.v = x6
  revert x1 x2 x3 x4 x5 x6; decide +kernel
theorem mode_eq (y : Int) (h : 0 ≤ y ∧ y ≤ 7) : modeS y = modeQ y := by
  rcases (show y = 0 ∨ y = 1 ∨ y = 2 ∨ y = 3 ∨ y = 4 ∨ y = 5 ∨ y = 6 ∨ y = 7 by omega) with rfl | rfl | rfl | rfl | rfl | rfl | rfl | rfl <;> decide +kernel
theorem by_eq (y : Int) (h : 0 ≤ y ∧ y ≤ 7) : byS y = byQ y := by
  rcases (show y = 0 ∨ y = 1 ∨ y = 2 ∨ y = 3 ∨ y = 4 ∨ y = 5 ∨ y = 6 ∨ y = 7 by omega) with rfl | rfl | rfl | rfl | rfl | rfl | rfl | rfl <;> decide +kernel
variable (F : Fld)
variable (hF : FOk F)
include hF
theorem getP_0 (h0 : nrm F.plane = nrm 0) (r : R) (p : Int) : getP r F.plane p = getP r 0 p := by have _ := hF; rw [← getP_nrm, h0, getP_nrm]
theorem setP_0 (h0 : nrm F.plane = nrm 0) (r : R) (p : Int) (v : U16) : setP r F.plane p v = setP r 0 p v := by have _ := hF; rw [← setP_nrm, h0, setP_nrm]
theorem sim_words (h0 : nrm F.plane = nrm 0) : Sim F wordsS (wordsQ F.p F.q) := by
  intro r a m k hk
  simp only [wordsS, wordsQ, getP_0 F hF h0, setP_0 F hF h0, p_get, q_get, p_modb, q_modb, p_mod, q_mod, p_ite, q_ite, p_pureb, q_pureb, p_bb, q_bb, p_read, q_read, p_write, q_write, p_writet, p_number, q_number, cs_r, cs_plane, cs_code, cs_x, cs_y, cs_z, cs_p, cs_q, cs_at', cs_known, qc_r, qc_plane, qc_code, qc_m, qc_known, cs_mk, qc_mk, wordS, wordQ, setPairS]
  refine trel_ask rfl fun lo => trel_ask rfl fun hi => ?_
  refine trel_ite Iff.rfl (fun _ => ?_) (fun _ => ?_)
  · refine trel_ask (congrArg (fun x : U16 => (⟨3, hi.word lo, x.lo, 3⟩ : Cyc)) (getP_wz { r with pc := (r.pc.inc 1).inc 1 } ((hi.word lo).inc 1) 0 F.p)) fun _ => trel_ask (congrArg (fun x : U16 => (⟨3, (hi.word lo).inc 1, x.hi, 3⟩ : Cyc)) (getP_wz { r with pc := (r.pc.inc 1).inc 1 } ((hi.word lo).inc 1) 0 F.p)) fun _ => trel_ret rfl rfl hk
  · exact trel_ask rfl fun _ => trel_ask rfl fun _ => trel_ret rfl (setP_wz { r with pc := (r.pc.inc 1).inc 1 } ((hi.word lo).inc 1) _ 0 F.p) hk
theorem sim_odd0 (h : F.y = 0) : Sim F oddS (oddQ F.y) := by
  have _ := hF
  intro r a m k hk
  simp only [oddS, oddQ, p_get, q_get, p_modb, q_modb, p_mod, q_mod, p_pure, q_pure, p_ite, q_ite, p_read, q_read, p_write, q_write, p_states, q_states, cs_r, cs_plane, cs_code, cs_x, cs_y, cs_z, cs_p, cs_q, cs_at', cs_known, qc_r, qc_plane, qc_code, qc_m, qc_known, cs_mk, qc_mk, putS, putQ]
  simp only [h, show ((0 : Int) = 1) = False from by simp, show ((0 : Int) = 2) = False from by simp, show ((0 : Int) = 3) = False from by simp, show ((0 : Int) = 4) = False from by simp, show ((0 : Int) = 5) = False from by simp, show ((0 : Int) < 4) = True from by simp, show ((0 : Int) == 4) = false from rfl, if_true, if_false, or_false]
  exact trel_ask rfl fun _ => trel_ret rfl rfl hk
theorem sim_odd1 (h : F.y = 1) : Sim F oddS (oddQ F.y) := by
  have _ := hF
  intro r a m k hk
  simp only [oddS, oddQ, p_get, q_get, p_modb, q_modb, p_mod, q_mod, p_pure, q_pure, p_ite, q_ite, p_read, q_read, p_write, q_write, p_states, q_states, cs_r, cs_plane, cs_code, cs_x, cs_y, cs_z, cs_p, cs_q, cs_at', cs_known, qc_r, qc_plane, qc_code, qc_m, qc_known, cs_mk, qc_mk, putS, putQ]
  simp only [h, show ((1 : Int) = 0) = False from by simp, show ((1 : Int) = 2) = False from by simp, show ((1 : Int) = 3) = False from by simp, show ((1 : Int) = 4) = False from by simp, show ((1 : Int) = 5) = False from by simp, show ((1 : Int) < 4) = True from by simp, show ((1 : Int) == 4) = false from rfl, if_true, if_false, or_false]
  exact trel_ask rfl fun _ => trel_ret rfl rfl hk
theorem sim_odd2 (h : F.y = 2) : Sim F oddS (oddQ F.y) := by
  have _ := hF
  intro r a m k hk
  simp only [oddS, oddQ, p_get, q_get, p_modb, q_modb, p_mod, q_mod, p_pure, q_pure, p_ite, q_ite, p_read, q_read, p_write, q_write, p_states, q_states, cs_r, cs_plane, cs_code, cs_x, cs_y, cs_z, cs_p, cs_q, cs_at', cs_known, qc_r, qc_plane, qc_code, qc_m, qc_known, cs_mk, qc_mk, putS, putQ]
  simp only [h, show ((2 : Int) = 0) = False from by simp, show ((2 : Int) = 1) = False from by simp, show ((2 : Int) = 3) = False from by simp, show ((2 : Int) = 4) = False from by simp, show ((2 : Int) = 5) = False from by simp, show ((2 : Int) < 4) = True from by simp, show ((2 : Int) == 4) = false from rfl, if_true, if_false, or_false]
  exact trel_ask rfl fun _ => trel_ret rfl (by rw [ir_eq]) hk
theorem sim_odd3 (h : F.y = 3) : Sim F oddS (oddQ F.y) := by
  have _ := hF
  intro r a m k hk
  simp only [oddS, oddQ, p_get, q_get, p_modb, q_modb, p_mod, q_mod, p_pure, q_pure, p_ite, q_ite, p_read, q_read, p_write, q_write, p_states, q_states, cs_r, cs_plane, cs_code, cs_x, cs_y, cs_z, cs_p, cs_q, cs_at', cs_known, qc_r, qc_plane, qc_code, qc_m, qc_known, cs_mk, qc_mk, putS, putQ]
  simp only [h, show ((3 : Int) = 0) = False from by simp, show ((3 : Int) = 1) = False from by simp, show ((3 : Int) = 2) = False from by simp, show ((3 : Int) = 4) = False from by simp, show ((3 : Int) = 5) = False from by simp, show ((3 : Int) < 4) = True from by simp, show ((3 : Int) == 4) = false from rfl, if_true, if_false, or_true, or_false]
  exact trel_ask rfl fun _ => trel_ret rfl (by rw [ir_eq]) hk
theorem sim_odd4 (h : F.y = 4) : Sim F oddS (oddQ F.y) := by
  have _ := hF
  intro r a m k hk
  simp only [oddS, oddQ, p_get, q_get, p_modb, q_modb, p_mod, q_mod, p_pure, q_pure, p_ite, q_ite, p_read, q_read, p_write, q_write, p_states, q_states, cs_r, cs_plane, cs_code, cs_x, cs_y, cs_z, cs_p, cs_q, cs_at', cs_known, qc_r, qc_plane, qc_code, qc_m, qc_known, cs_mk, qc_mk, putS, putQ]
  simp only [h, show ((4 : Int) = 0) = False from by simp, show ((4 : Int) = 1) = False from by simp, show ((4 : Int) = 2) = False from by simp, show ((4 : Int) = 3) = False from by simp, show ((4 : Int) = 5) = False from by simp, show ((4 : Int) < 4) = False from by simp, show ((4 : Int) == 4) = true from rfl, if_true, if_false, or_false]
  exact trel_ask rfl fun _ => trel_ask rfl fun _ => trel_ask rfl fun _ => trel_ret rfl rfl hk
theorem sim_odd5 (h : F.y = 5) : Sim F oddS (oddQ F.y) := by
  have _ := hF
  intro r a m k hk
  simp only [oddS, oddQ, p_get, q_get, p_modb, q_modb, p_mod, q_mod, p_pure, q_pure, p_ite, q_ite, p_read, q_read, p_write, q_write, p_states, q_states, cs_r, cs_plane, cs_code, cs_x, cs_y, cs_z, cs_p, cs_q, cs_at', cs_known, qc_r, qc_plane, qc_code, qc_m, qc_known, cs_mk, qc_mk, putS, putQ]
  simp only [h, show ((5 : Int) = 0) = False from by simp, show ((5 : Int) = 1) = False from by simp, show ((5 : Int) = 2) = False from by simp, show ((5 : Int) = 3) = False from by simp, show ((5 : Int) = 4) = False from by simp, show ((5 : Int) < 4) = False from by simp, show ((5 : Int) == 4) = false from rfl, if_true, if_false, or_true, or_false]
  exact trel_ask rfl fun _ => trel_ask rfl fun _ => trel_ask rfl fun _ => trel_ret rfl rfl hk
theorem sim_odd6 (h : F.y = 6) : Sim F oddS (oddQ F.y) := by
  have _ := hF
  intro r a m k hk
  simp only [oddS, oddQ, p_get, q_get, p_modb, q_modb, p_mod, q_mod, p_pure, q_pure, p_ite, q_ite, p_read, q_read, p_write, q_write, p_states, q_states, cs_r, cs_plane, cs_code, cs_x, cs_y, cs_z, cs_p, cs_q, cs_at', cs_known, qc_r, qc_plane, qc_code, qc_m, qc_known, cs_mk, qc_mk, putS, putQ]
  simp only [h, show ((6 : Int) = 0) = False from by simp, show ((6 : Int) = 1) = False from by simp, show ((6 : Int) = 2) = False from by simp, show ((6 : Int) = 3) = False from by simp, show ((6 : Int) = 4) = False from by simp, show ((6 : Int) = 5) = False from by simp, show ((6 : Int) < 4) = False from by simp, show ((6 : Int) == 4) = false from rfl, if_false, or_false]
  exact trel_ret rfl rfl hk
theorem sim_odd7 (h : F.y = 7) : Sim F oddS (oddQ F.y) := by
  have _ := hF
  intro r a m k hk
  simp only [oddS, oddQ, p_get, q_get, p_modb, q_modb, p_mod, q_mod, p_pure, q_pure, p_ite, q_ite, p_read, q_read, p_write, q_write, p_states, q_states, cs_r, cs_plane, cs_code, cs_x, cs_y, cs_z, cs_p, cs_q, cs_at', cs_known, qc_r, qc_plane, qc_code, qc_m, qc_known, cs_mk, qc_mk, putS, putQ]
  simp only [h, show ((7 : Int) = 0) = False from by simp, show ((7 : Int) = 1) = False from by simp, show ((7 : Int) = 2) = False from by simp, show ((7 : Int) = 3) = False from by simp, show ((7 : Int) = 4) = False from by simp, show ((7 : Int) = 5) = False from by simp, show ((7 : Int) < 4) = False from by simp, show ((7 : Int) == 4) = false from rfl, if_false, or_false]
  exact trel_ret rfl rfl hk
theorem sim_odd (hy : 0 ≤ F.y ∧ F.y ≤ 7) : Sim F oddS (oddQ F.y) := by
  rcases (show F.y = 0 ∨ F.y = 1 ∨ F.y = 2 ∨ F.y = 3 ∨ F.y = 4 ∨ F.y = 5 ∨ F.y = 6 ∨ F.y = 7 by omega) with h | h | h | h | h | h | h | h
  · exact sim_odd0 F hF h
  · exact sim_odd1 F hF h
  · exact sim_odd2 F hF h
  · exact sim_odd3 F hF h
  · exact sim_odd4 F hF h
  · exact sim_odd5 F hF h
  · exact sim_odd6 F hF h
  · exact sim_odd7 F hF h
theorem sim_middle (h0 : nrm F.plane = nrm 0) (hy : 0 ≤ F.y ∧ F.y ≤ 7) : Sim F middleS (edmQ F.y F.z F.p F.q) := by
  intro r a m k hk
  simp only [middleS, edmQ, getP_0 F hF h0, mode_eq _ hy, p_get, q_get, p_modb, q_modb, p_mod, q_mod, p_pure, q_pure, p_ite, q_ite, p_pureb, q_pureb, p_bb, p_in, p_out, p_states, q_states, q_cyc, cs_r, cs_plane, cs_code, cs_x, cs_y, cs_z, cs_p, cs_q, cs_at', cs_known, qc_r, qc_plane, qc_code, qc_m, qc_known, cs_mk, qc_mk, putS, putQ, flagS]
  refine trel_ite Iff.rfl (fun _ => ?_) fun _ => ?_
  · refine trel_ask rfl fun b => ?_
    rw [evc_eq]
    exact trel_ite Iff.rfl (fun _ => trel_ret rfl rfl hk) fun _ => sim_set F hF _ _ _ _ _ _ hk
  refine trel_ite Iff.rfl (fun _ => ?_) fun _ => ?_
  · refine trel_ite Iff.rfl (fun _ => trel_ask rfl fun _ => trel_ret rfl rfl hk) fun _ => ?_
    refine trel_b (sim_get F hF _) hk fun v r a m k hk => ?_
    simp only [p_get, q_get, p_mod, q_mod, p_out, q_cyc, cs_r, cs_plane, cs_code, cs_x, cs_y, cs_z, cs_p, cs_q, cs_at', cs_known, qc_r, qc_plane, qc_code, qc_m, qc_known, cs_mk, qc_mk]
    exact trel_ask rfl fun _ => trel_ret rfl rfl hk
  refine trel_ite Iff.rfl (fun _ => trel_ask rfl fun _ => trel_ret rfl rfl hk) fun _ => ?_
  refine trel_ite Iff.rfl (fun _ => sim_words F hF h0 _ _ _ _ hk) fun _ => ?_
  refine trel_ite Iff.rfl (fun _ => trel_ret rfl rfl hk) fun _ => ?_
  refine trel_ite Iff.rfl (fun _ => ?_) fun _ => ?_
  · refine trel_b (sim_back F hF) hk fun v r a m k hk => ?_
    simp only [p_mod, q_mod, cs_r, cs_plane, cs_code, cs_x, cs_y, cs_z, cs_p, cs_q, cs_at', cs_known, qc_r, qc_plane, qc_code, qc_m, qc_known, cs_mk, qc_mk]
    exact trel_ret rfl rfl hk
  exact trel_ite Iff.rfl (fun _ => trel_ret rfl rfl hk) fun _ => sim_odd F hF hy _ _ _ _ hk
theorem sim_block0 (h : F.z = 0) (hy : 0 ≤ F.y ∧ F.y ≤ 7) : Sim F blocksS (blockQ F.y F.z) := by
  have _ := hF
  intro r a m k hk
  simp only [blocksS, blockQ, blkRepS, blk0S, blk0Q, by_eq _ hy, p_get, q_get, p_modb, q_modb, p_mod, q_mod, p_pure, q_pure, p_ite, q_ite, q_pureb, p_bb, q_bb, p_read, q_read, p_write, q_write, p_states, q_states, cs_r, cs_plane, cs_code, cs_x, cs_y, cs_z, cs_p, cs_q, cs_at', cs_known, qc_r, qc_plane, qc_code, qc_m, qc_known, cs_mk, qc_mk, putS, putQ, flagS]
  simp only [h, show ((0 : Int) = 1) = False from by simp, show ((0 : Int) = 2) = False from by simp, show ((0 : Int) < 2) = True from by simp, if_true, if_false]
  simp only [lo_word]
  refine trel_ask rfl fun _ => trel_ask rfl fun _ => trel_ask rfl fun _ => ?_
  by_cases h5 : 5 < F.y
  · rw [if_pos h5]
    refine trel_ite ⟨fun h => ⟨h5, h⟩, fun h => h.2⟩ (fun _ => ?_) (fun _ => ?_)
    · exact trel_ask rfl fun _ => trel_ret rfl rfl hk
    · exact trel_ret rfl rfl hk
  · rw [if_neg h5, if_neg (fun h => h5 h.1)]
    exact trel_ret rfl rfl hk
theorem sim_block1 (h : F.z = 1) (hy : 0 ≤ F.y ∧ F.y ≤ 7) : Sim F blocksS (blockQ F.y F.z) := by
  have _ := hF
  intro r a m k hk
  simp only [blocksS, blockQ, blkRepS, blk1S, blk1Q, by_eq _ hy, p_get, q_get, p_modb, q_modb, p_mod, q_mod, p_pure, q_pure, p_ite, q_ite, q_pureb, p_bb, q_bb, p_read, q_read, p_states, q_states, cs_r, cs_plane, cs_code, cs_x, cs_y, cs_z, cs_p, cs_q, cs_at', cs_known, qc_r, qc_plane, qc_code, qc_m, qc_known, cs_mk, qc_mk, putS, putQ, flagS]
  simp only [h, show ((1 : Int) = 0) = False from by simp, show ((1 : Int) = 2) = False from by simp, show ((1 : Int) < 2) = True from by simp, if_true, if_false]
  simp only [lo_word]
  refine trel_ask rfl fun _ => trel_ask rfl fun _ => ?_
  by_cases h5 : 5 < F.y
  · rw [if_pos h5]
    refine trel_ite ⟨fun h => ⟨h5, h⟩, fun h => h.2⟩ (fun _ => ?_) (fun _ => ?_)
    · exact trel_ask rfl fun _ => trel_ret rfl rfl hk
    · exact trel_ret rfl rfl hk
  · rw [if_neg h5, if_neg (fun h => h5 h.1)]
    exact trel_ret rfl rfl hk
theorem sim_block2 (h : F.z = 2) (hy : 0 ≤ F.y ∧ F.y ≤ 7) : Sim F blocksS (blockQ F.y F.z) := by
  have _ := hF
  intro r a m k hk
  simp only [blocksS, blockQ, blkRepS, blk2S, blk2Q, by_eq _ hy, p_get, q_get, p_modb, q_modb, p_mod, q_mod, p_pure, q_pure, p_ite, q_ite, p_pureb, q_pureb, p_bb, q_bb, p_in, p_write, q_write, p_states, q_states, q_cyc, cs_r, cs_plane, cs_code, cs_x, cs_y, cs_z, cs_p, cs_q, cs_at', cs_known, qc_r, qc_plane, qc_code, qc_m, qc_known, cs_mk, qc_mk, putS, putQ, flagS, lessS, lessQ]
  simp only [h, show ((2 : Int) = 0) = False from by simp, show ((2 : Int) = 1) = False from by simp, show ((2 : Int) < 2) = False from by simp, if_true, if_false]
  simp only [lo_word]
  refine trel_ask rfl fun _ => trel_ask rfl fun _ => trel_ask rfl fun _ => ?_
  by_cases h5 : 5 < F.y
  · rw [if_pos h5]
    refine trel_ite ⟨fun h => ⟨h5, h⟩, fun h => h.2⟩ (fun _ => ?_) (fun _ => ?_)
    · exact trel_ask rfl fun _ => trel_ret rfl rfl hk
    · exact trel_ret rfl rfl hk
  · rw [if_neg h5, if_neg (fun h => h5 h.1)]
    exact trel_ret rfl rfl hk
theorem sim_block3 (h : F.z = 3) (hy : 0 ≤ F.y ∧ F.y ≤ 7) : Sim F blocksS (blockQ F.y F.z) := by
  have _ := hF
  intro r a m k hk
  simp only [blocksS, blockQ, blkRepS, blk3S, blk3Q, by_eq _ hy, p_get, q_get, p_modb, q_modb, p_mod, q_mod, p_pure, q_pure, p_ite, q_ite, p_pureb, q_pureb, p_bb, q_bb, p_read, q_read, p_out, p_states, q_states, q_cyc, cs_r, cs_plane, cs_code, cs_x, cs_y, cs_z, cs_p, cs_q, cs_at', cs_known, qc_r, qc_plane, qc_code, qc_m, qc_known, cs_mk, qc_mk, putS, putQ, flagS, lessS, lessQ]
  simp only [h, show ((3 : Int) = 0) = False from by simp, show ((3 : Int) = 1) = False from by simp, show ((3 : Int) = 2) = False from by simp, show ((3 : Int) < 2) = False from by simp, if_false]
  simp only [lo_word]
  refine trel_ask rfl fun _ => trel_ask rfl fun _ => trel_ask rfl fun _ => ?_
  by_cases h5 : 5 < F.y
  · rw [if_pos h5]
    refine trel_ite ⟨fun h => ⟨h5, h⟩, fun h => h.2⟩ (fun _ => ?_) (fun _ => ?_)
    · exact trel_ask rfl fun _ => trel_ret rfl rfl hk
    · exact trel_ret rfl rfl hk
  · rw [if_neg h5, if_neg (fun h => h5 h.1)]
    exact trel_ret rfl rfl hk
theorem sim_blocks (hz : 0 ≤ F.z ∧ F.z < 4) (hy : 0 ≤ F.y ∧ F.y ≤ 7) : Sim F blocksS (blockQ F.y F.z) := by
  rcases (show F.z = 0 ∨ F.z = 1 ∨ F.z = 2 ∨ F.z = 3 by omega) with h | h | h | h
  · exact sim_block0 F hF h hy
  · exact sim_block1 F hF h hy
  · exact sim_block2 F hF h hy
  · exact sim_block3 F hF h hy
end Go.Proofs.YtnaampdpkegacaaGreatDoor

namespace Go.Proofs.YtnaampdpkegacaaGreatDoor
open Go.RowKit

/-- The same registers at the end. -/
def Rf {α : Type} (p : α × CS) (q : α × QC) : Prop := p.1 = q.1 ∧ p.2.r = q.2.r
theorem rl_rf {α : Type} {F : Fld} (p : α × CS) (q : α × QC) (h : Rl F p q) : Rf p q := by
  obtain ⟨e, r, a, m, k, e1, e2, _⟩ := h
  exact ⟨e, by rw [e1, e2]; rfl⟩
theorem toRf {α : Type} {F : Fld} {t : T (α × CS)} {u : T (α × QC)} (h : TRel (Rl F) t u) : TRel Rf t u := TRel.mono rl_rf t u h
def fldP (plane : Int) (c : U8) : Fld := ⟨plane, c, fx c, fy c, fz c, fy c / 2, fy c % 2, plane, c⟩
def fldB (plane : Int) (c : U8) : Fld := ⟨plane, c, fx c, fy c, fz c, fy c / 2, fy c % 2, 0, u8 0⟩
theorem fy_r (c : U8) : 0 ≤ fy c ∧ fy c ≤ 7 := by unfold fy; have := c.h0; have := c.h1; omega
theorem fz_r (c : U8) : 0 ≤ fz c ∧ fz c ≤ 7 := by unfold fz; have := c.h0; have := c.h1; omega
theorem fx_r (c : U8) : 0 ≤ fx c ∧ fx c ≤ 3 := by unfold fx; have := c.h0; have := c.h1; omega
theorem okP (plane : Int) (c : U8) : FOk (fldP plane c) := ⟨rfl, rfl⟩
theorem thc_00 : nrm (thc 0 (u8 0)) = 0 := by decide
theorem okB (plane : Int) (c : U8) (h : plane = 1 ∨ plane = 2 ∨ plane = 5 ∨ plane = 6) : FOk (fldB plane c) := by
  rcases h with rfl | rfl | rfl | rfl
  · exact ⟨rfl, by show nrm (thc 1 c) = nrm (thc 0 (u8 0)); rw [thc_00]; simp [thc, nearS, nrm]⟩
  · exact ⟨rfl, by show nrm (thc 2 c) = nrm (thc 0 (u8 0)); rw [thc_00]; simp [thc, nearS, nrm]⟩
  · exact ⟨rfl, by show nrm (thc 5 c) = nrm (thc 0 (u8 0)); rw [thc_00]; simp [thc, nearS, nrm]⟩
  · exact ⟨rfl, by show nrm (thc 6 c) = nrm (thc 0 (u8 0)); rw [thc_00]; simp [thc, nearS, nrm]⟩
theorem ok0 (c : U8) : FOk (fldB 0 c) := ⟨rfl, by show nrm (thc 0 c) = nrm (thc 0 (u8 0)); rw [thc_00]; simp [thc, nearS, nrm]⟩
theorem sim_plain (plane : Int) (c : U8) (r : R) (a m : U16) (k : Bool) (p0 : Int) (c0 : U8) (hk : k = true → m = a) :
    TRel (Rl (fldP plane c)) (quarterS (cs (fldP plane c) r a k)) (plainQ plane c ⟨r, p0, c0, m, k⟩) := by
  have hF := okP plane c
  have e : plainQ plane c ⟨r, p0, c0, m, k⟩ = (if fx c = 0 then lowQ (fy c) (fz c) (fy c / 2) (fy c % 2)
    else if fx c = 1 then do
      if fy c = 6 ∧ fz c = 6 then QM.mod fun s => { s with r := { s.r with halted := true } }
      else do
        let b ← getQ (fz c)
        setQ (fy c) b
    else if fx c = 2 then do
      let b ← getQ (fz c)
      sumQ (fy c) b
    else highQ (fy c) (fz c) (fy c / 2) (fy c % 2) : QM Unit) (qc (fldP plane c) r m k) := rfl
  rw [e]
  simp only [quarterS, moveS, sumsS, p_get, p_mod, q_mod, p_ite, q_ite, cs_r, cs_plane, cs_code, cs_x, cs_y, cs_z, cs_p, cs_q, cs_at', cs_known, qc_r, qc_plane, qc_code, qc_m, qc_known, cs_mk, qc_mk]
  refine trel_ite Iff.rfl (fun _ => sim_low (fldP plane c) hF (fy_r c) (fz_r c) rfl rfl rfl _ _ _ _ hk) fun _ => ?_
  refine trel_ite Iff.rfl (fun _ => ?_) fun _ => ?_
  · refine trel_ite Iff.rfl (fun _ => trel_ret rfl rfl hk) fun _ => ?_
    refine trel_b (sim_get (fldP plane c) hF _) hk fun v r a m k hk => ?_
    exact sim_set (fldP plane c) hF _ _ _ _ _ _ hk
  refine trel_ite Iff.rfl (fun _ => ?_) fun _ => sim_high (fldP plane c) hF (fy_r c) rfl _ _ _ _ hk
  refine trel_b (sim_get (fldP plane c) hF _) hk fun v r a m k hk => ?_
  exact sim_sum (fldP plane c) hF _ _ _ _ _ _ hk
theorem sim_far (c : U8) (r : R) (a m : U16) (k : Bool) (hk : k = true → m = a) : TRel (Rl (fldB 2 c)) (farS (cs (fldB 2 c) r a k)) (edQ c (qc (fldB 2 c) r m k)) := by
  have hF := okB 2 c (by decide)
  simp only [farS, edQ, p_get, p_pure, q_pure, p_ite, q_ite, cs_x, cs_y, cs_z]
  have hx := fx_r c
  have hz := fz_r c
  rcases (show fx c = 1 ∨ (¬ fx c = 1 ∧ fx c = 2 ∧ fz c < 4 ∧ 3 < fy c) ∨ (¬ fx c = 1 ∧ ¬ (fx c = 2 ∧ fz c < 4 ∧ 3 < fy c)) by omega) with h | ⟨h1, h⟩ | ⟨h1, h⟩
  · rw [if_pos (show (fldB 2 c).x = 1 from h), if_neg (show ¬ (fx c = 2 ∧ fz c < 4 ∧ 3 < fy c) by omega), if_pos h]
    exact sim_middle (fldB 2 c) hF rfl (fy_r c) _ _ _ _ hk
  · rw [if_neg (show ¬ (fldB 2 c).x = 1 from h1), if_pos (show (fldB 2 c).x = 2 ∧ (fldB 2 c).z < 4 ∧ 3 < (fldB 2 c).y from h), if_pos h]
    exact sim_blocks (fldB 2 c) hF ⟨hz.1, h.2.1⟩ (fy_r c) _ _ _ _ hk
  · rw [if_neg (show ¬ (fldB 2 c).x = 1 from h1), if_neg (show ¬ ((fldB 2 c).x = 2 ∧ (fldB 2 c).z < 4 ∧ 3 < (fldB 2 c).y) from h), if_neg h, if_neg h1]
    exact trel_ret rfl rfl hk
theorem TRel.pureb {F : Fld} {r : R} {a m : U16} {k : Bool} (hk : k = true → m = a) : TRel (Rl F) ((pure () : PM Unit) (cs F r a k)) ((pure () : QM Unit) (qc F r m k)) := trel_ret rfl rfl hk
theorem fldB_x (p : Int) (c : U8) : (fldB p c).x = fx c := Eq.trans rfl rfl
theorem fldB_y (p : Int) (c : U8) : (fldB p c).y = fy c := Eq.trans rfl rfl
theorem fldB_z (p : Int) (c : U8) : (fldB p c).z = fz c := Eq.trans rfl rfl
theorem fldB_pl (p : Int) (c : U8) : (fldB p c).plane = p := Eq.trans rfl rfl
theorem sim_bit1 (c : U8) (r : R) (a m : U16) (k : Bool) (p0 : Int) (c0 : U8) (hk : k = true → m = a) : TRel (Rl (fldB 1 c)) (bitS (cs (fldB 1 c) r a k)) (bitQ false c ⟨r, p0, c0, m, k⟩) := by
  have hF := okB 1 c (by decide)
  have e : bitQ false c ⟨r, p0, c0, m, k⟩ = (do
    let b ← getQ (fz c)
    if fz c = 6 then statesQ 1 else pure ()
    let t ← QM.get
    if fx c = 1 then putQ t.r.af.hi (oBit (fy c) b (if fz c = 6 then t.r.wz.hi else b) t.r.af.lo)
    else do
      if fx c = 0 then putQ t.r.af.hi (oDoF (fy c) b t.r.af.lo) else pure ()
      setQ (fz c) (if fx c = 0 then oDo (fy c) b t.r.af.lo else oWith b (fy c) (fx c != 2))
      pure () : QM Unit) (qc (fldB 1 c) r m k) := rfl
  rw [e]
  by_cases hz : fz c = 6
  · simp only [bitS, bitEnd, p_get, p_ite, p_bb, cs_plane, cs_x, cs_y, cs_z, putS, putQ, flagS]
    rw [if_neg (show ¬ ((fldB 1 c).plane = 1 ∧ ¬ (fldB 1 c).z = 6) from fun h => h.2 hz)]
    rw [hz]
    simp only [eq_self, if_true]
    refine trel_b (sim_get (fldB 1 c) hF 6) hk fun v r a m k hk => ?_
    simp only [p_get, q_get, p_modb, q_modb, p_mod, q_mod, p_ite, q_ite, p_states, q_states, cs_r, cs_plane, cs_code, cs_x, cs_y, cs_z, cs_p, cs_q, cs_at', cs_known, qc_r, qc_plane, qc_code, qc_m, qc_known, cs_mk, qc_mk]
    refine trel_ask rfl fun _ => ?_
    rcases (show fx c = 0 ∨ fx c = 1 ∨ fx c = 2 ∨ fx c = 3 by have := fx_r c; omega) with h | h | h | h
    · simp only [show ((fldB 1 c).plane != 1) = false from rfl, Bool.false_and, Bool.false_eq_true, if_false, if_pos (show (fldB 1 c).x = 0 from h), if_pos (show fx c = 0 from h), if_neg (show ¬ (fldB 1 c).x = 1 by rw [show (fldB 1 c).x = 0 from h]; decide), if_neg (show ¬ fx c = 1 by rw [show fx c = 0 from h]; decide), show ((fldB 1 c).x == 3) = false by rw [show (fldB 1 c).x = 0 from h]; rfl, show (fx c != 2) = true by rw [h]; rfl]
      (try simp only [p_get, q_get, p_modb, q_modb, p_mod, q_mod, p_pure, q_pure, p_ite, q_ite, p_pureb, q_pureb, p_bb, q_bb, p_iteb, q_iteb, p_read, q_read, p_readt, q_readt, p_in, p_int, p_write, q_write, p_writet, q_writet, p_out, p_outt, p_states, q_states, p_statest, q_statest, p_number, q_number, p_numbert, q_numbert, p_fetch, q_fetch, p_fetcht, q_fetcht, p_cyc, q_cyc, cs_r, cs_plane, cs_code, cs_x, cs_y, cs_z, cs_p, cs_q, cs_at', cs_known, qc_r, qc_plane, qc_code, qc_m, qc_known, cs_mk, qc_mk, thr_cs, thq_qc, hl_qc, hF.getP, hF.setP, hF.getR, hF.setR, wordS, wordQ, popS, popQ, pushS, pushQ, putS, putQ, flagS, mvS, setPairS, setHlQ, tickS, tickQ, besideS, lessS, lessQ])
      exact trel_b (sim_set (fldB 1 c) hF _ _) hk fun v r a m k hk => TRel.pureb hk
    · simp only [show ((fldB 1 c).plane != 1) = false from rfl, Bool.false_and, Bool.false_eq_true, if_false, if_neg (show ¬ (fldB 1 c).x = 0 by rw [show (fldB 1 c).x = 1 from h]; decide), if_neg (show ¬ fx c = 0 by rw [show fx c = 1 from h]; decide), if_pos (show (fldB 1 c).x = 1 from h), if_pos (show fx c = 1 from h), show ((fldB 1 c).x == 3) = false by rw [show (fldB 1 c).x = 1 from h]; rfl, show (fx c != 2) = true by rw [h]; rfl]
      (try simp only [p_get, q_get, p_modb, q_modb, p_mod, q_mod, p_pure, q_pure, p_ite, q_ite, p_pureb, q_pureb, p_bb, q_bb, p_iteb, q_iteb, p_read, q_read, p_readt, q_readt, p_in, p_int, p_write, q_write, p_writet, q_writet, p_out, p_outt, p_states, q_states, p_statest, q_statest, p_number, q_number, p_numbert, q_numbert, p_fetch, q_fetch, p_fetcht, q_fetcht, p_cyc, q_cyc, cs_r, cs_plane, cs_code, cs_x, cs_y, cs_z, cs_p, cs_q, cs_at', cs_known, qc_r, qc_plane, qc_code, qc_m, qc_known, cs_mk, qc_mk, thr_cs, thq_qc, hl_qc, hF.getP, hF.setP, hF.getR, hF.setR, wordS, wordQ, popS, popQ, pushS, pushQ, putS, putQ, flagS, mvS, setPairS, setHlQ, tickS, tickQ, besideS, lessS, lessQ])
      exact trel_ret rfl rfl hk
    · simp only [show ((fldB 1 c).plane != 1) = false from rfl, Bool.false_and, Bool.false_eq_true, if_false, if_neg (show ¬ (fldB 1 c).x = 0 by rw [show (fldB 1 c).x = 2 from h]; decide), if_neg (show ¬ fx c = 0 by rw [show fx c = 2 from h]; decide), if_neg (show ¬ (fldB 1 c).x = 1 by rw [show (fldB 1 c).x = 2 from h]; decide), if_neg (show ¬ fx c = 1 by rw [show fx c = 2 from h]; decide), show ((fldB 1 c).x == 3) = false by rw [show (fldB 1 c).x = 2 from h]; rfl, show (fx c != 2) = false by rw [h]; rfl]
      (try simp only [p_get, q_get, p_modb, q_modb, p_mod, q_mod, p_pure, q_pure, p_ite, q_ite, p_pureb, q_pureb, p_bb, q_bb, p_iteb, q_iteb, p_read, q_read, p_readt, q_readt, p_in, p_int, p_write, q_write, p_writet, q_writet, p_out, p_outt, p_states, q_states, p_statest, q_statest, p_number, q_number, p_numbert, q_numbert, p_fetch, q_fetch, p_fetcht, q_fetcht, p_cyc, q_cyc, cs_r, cs_plane, cs_code, cs_x, cs_y, cs_z, cs_p, cs_q, cs_at', cs_known, qc_r, qc_plane, qc_code, qc_m, qc_known, cs_mk, qc_mk, thr_cs, thq_qc, hl_qc, hF.getP, hF.setP, hF.getR, hF.setR, wordS, wordQ, popS, popQ, pushS, pushQ, putS, putQ, flagS, mvS, setPairS, setHlQ, tickS, tickQ, besideS, lessS, lessQ])
      exact trel_b (sim_set (fldB 1 c) hF _ _) hk fun v r a m k hk => TRel.pureb hk
    · simp only [show ((fldB 1 c).plane != 1) = false from rfl, Bool.false_and, Bool.false_eq_true, if_false, if_neg (show ¬ (fldB 1 c).x = 0 by rw [show (fldB 1 c).x = 3 from h]; decide), if_neg (show ¬ fx c = 0 by rw [show fx c = 3 from h]; decide), if_neg (show ¬ (fldB 1 c).x = 1 by rw [show (fldB 1 c).x = 3 from h]; decide), if_neg (show ¬ fx c = 1 by rw [show fx c = 3 from h]; decide), show ((fldB 1 c).x == 3) = true by rw [show (fldB 1 c).x = 3 from h]; rfl, show (fx c != 2) = true by rw [h]; rfl]
      (try simp only [p_get, q_get, p_modb, q_modb, p_mod, q_mod, p_pure, q_pure, p_ite, q_ite, p_pureb, q_pureb, p_bb, q_bb, p_iteb, q_iteb, p_read, q_read, p_readt, q_readt, p_in, p_int, p_write, q_write, p_writet, q_writet, p_out, p_outt, p_states, q_states, p_statest, q_statest, p_number, q_number, p_numbert, q_numbert, p_fetch, q_fetch, p_fetcht, q_fetcht, p_cyc, q_cyc, cs_r, cs_plane, cs_code, cs_x, cs_y, cs_z, cs_p, cs_q, cs_at', cs_known, qc_r, qc_plane, qc_code, qc_m, qc_known, cs_mk, qc_mk, thr_cs, thq_qc, hl_qc, hF.getP, hF.setP, hF.getR, hF.setR, wordS, wordQ, popS, popQ, pushS, pushQ, putS, putQ, flagS, mvS, setPairS, setHlQ, tickS, tickQ, besideS, lessS, lessQ])
      exact trel_b (sim_set (fldB 1 c) hF _ _) hk fun v r a m k hk => TRel.pureb hk
  · simp only [bitS, bitEnd, p_get, p_ite, p_bb, cs_plane, cs_x, cs_y, cs_z, putS, putQ, flagS]
    rw [if_pos (show (fldB 1 c).plane = 1 ∧ ¬ (fldB 1 c).z = 6 from ⟨rfl, hz⟩)]
    simp only [if_neg hz]
    refine trel_b (sim_get (fldB 1 c) hF _) hk fun v r a m k hk => ?_
    simp only [Bool.false_and, Bool.false_eq_true, if_false, p_get, q_get, p_modb, q_modb, p_mod, q_mod, p_ite, q_ite, cs_r, cs_plane, cs_code, cs_x, cs_y, cs_z, cs_p, cs_q, cs_at', cs_known, qc_r, qc_plane, qc_code, qc_m, qc_known, cs_mk, qc_mk]
    rcases (show fx c = 0 ∨ fx c = 1 ∨ fx c = 2 ∨ fx c = 3 by have := fx_r c; omega) with h | h | h | h
    · simp only [if_pos (show (fldB 1 c).x = 0 from h), if_pos (show fx c = 0 from h), if_neg (show ¬ (fldB 1 c).x = 1 by rw [show (fldB 1 c).x = 0 from h]; decide), if_neg (show ¬ fx c = 1 by rw [show fx c = 0 from h]; decide), show ((fldB 1 c).x == 3) = false by rw [show (fldB 1 c).x = 0 from h]; rfl, show (fx c != 2) = true by rw [h]; rfl]
      (try simp only [p_get, q_get, p_modb, q_modb, p_mod, q_mod, p_pure, q_pure, p_ite, q_ite, p_pureb, q_pureb, p_bb, q_bb, p_iteb, q_iteb, p_read, q_read, p_readt, q_readt, p_in, p_int, p_write, q_write, p_writet, q_writet, p_out, p_outt, p_states, q_states, p_statest, q_statest, p_number, q_number, p_numbert, q_numbert, p_fetch, q_fetch, p_fetcht, q_fetcht, p_cyc, q_cyc, cs_r, cs_plane, cs_code, cs_x, cs_y, cs_z, cs_p, cs_q, cs_at', cs_known, qc_r, qc_plane, qc_code, qc_m, qc_known, cs_mk, qc_mk, thr_cs, thq_qc, hl_qc, hF.getP, hF.setP, hF.getR, hF.setR, wordS, wordQ, popS, popQ, pushS, pushQ, putS, putQ, flagS, mvS, setPairS, setHlQ, tickS, tickQ, besideS, lessS, lessQ])
      exact trel_b (sim_set (fldB 1 c) hF _ _) hk fun v r a m k hk => TRel.pureb hk
    · simp only [if_neg (show ¬ (fldB 1 c).x = 0 by rw [show (fldB 1 c).x = 1 from h]; decide), if_neg (show ¬ fx c = 0 by rw [show fx c = 1 from h]; decide), if_pos (show (fldB 1 c).x = 1 from h), if_pos (show fx c = 1 from h), show ((fldB 1 c).x == 3) = false by rw [show (fldB 1 c).x = 1 from h]; rfl, show (fx c != 2) = true by rw [h]; rfl]
      (try simp only [p_get, q_get, p_modb, q_modb, p_mod, q_mod, p_pure, q_pure, p_ite, q_ite, p_pureb, q_pureb, p_bb, q_bb, p_iteb, q_iteb, p_read, q_read, p_readt, q_readt, p_in, p_int, p_write, q_write, p_writet, q_writet, p_out, p_outt, p_states, q_states, p_statest, q_statest, p_number, q_number, p_numbert, q_numbert, p_fetch, q_fetch, p_fetcht, q_fetcht, p_cyc, q_cyc, cs_r, cs_plane, cs_code, cs_x, cs_y, cs_z, cs_p, cs_q, cs_at', cs_known, qc_r, qc_plane, qc_code, qc_m, qc_known, cs_mk, qc_mk, thr_cs, thq_qc, hl_qc, hF.getP, hF.setP, hF.getR, hF.setR, wordS, wordQ, popS, popQ, pushS, pushQ, putS, putQ, flagS, mvS, setPairS, setHlQ, tickS, tickQ, besideS, lessS, lessQ])
      exact trel_ret rfl rfl hk
    · simp only [if_neg (show ¬ (fldB 1 c).x = 0 by rw [show (fldB 1 c).x = 2 from h]; decide), if_neg (show ¬ fx c = 0 by rw [show fx c = 2 from h]; decide), if_neg (show ¬ (fldB 1 c).x = 1 by rw [show (fldB 1 c).x = 2 from h]; decide), if_neg (show ¬ fx c = 1 by rw [show fx c = 2 from h]; decide), show ((fldB 1 c).x == 3) = false by rw [show (fldB 1 c).x = 2 from h]; rfl, show (fx c != 2) = false by rw [h]; rfl]
      (try simp only [p_get, q_get, p_modb, q_modb, p_mod, q_mod, p_pure, q_pure, p_ite, q_ite, p_pureb, q_pureb, p_bb, q_bb, p_iteb, q_iteb, p_read, q_read, p_readt, q_readt, p_in, p_int, p_write, q_write, p_writet, q_writet, p_out, p_outt, p_states, q_states, p_statest, q_statest, p_number, q_number, p_numbert, q_numbert, p_fetch, q_fetch, p_fetcht, q_fetcht, p_cyc, q_cyc, cs_r, cs_plane, cs_code, cs_x, cs_y, cs_z, cs_p, cs_q, cs_at', cs_known, qc_r, qc_plane, qc_code, qc_m, qc_known, cs_mk, qc_mk, thr_cs, thq_qc, hl_qc, hF.getP, hF.setP, hF.getR, hF.setR, wordS, wordQ, popS, popQ, pushS, pushQ, putS, putQ, flagS, mvS, setPairS, setHlQ, tickS, tickQ, besideS, lessS, lessQ])
      exact trel_b (sim_set (fldB 1 c) hF _ _) hk fun v r a m k hk => TRel.pureb hk
    · simp only [if_neg (show ¬ (fldB 1 c).x = 0 by rw [show (fldB 1 c).x = 3 from h]; decide), if_neg (show ¬ fx c = 0 by rw [show fx c = 3 from h]; decide), if_neg (show ¬ (fldB 1 c).x = 1 by rw [show (fldB 1 c).x = 3 from h]; decide), if_neg (show ¬ fx c = 1 by rw [show fx c = 3 from h]; decide), show ((fldB 1 c).x == 3) = true by rw [show (fldB 1 c).x = 3 from h]; rfl, show (fx c != 2) = true by rw [h]; rfl]
      (try simp only [p_get, q_get, p_modb, q_modb, p_mod, q_mod, p_pure, q_pure, p_ite, q_ite, p_pureb, q_pureb, p_bb, q_bb, p_iteb, q_iteb, p_read, q_read, p_readt, q_readt, p_in, p_int, p_write, q_write, p_writet, q_writet, p_out, p_outt, p_states, q_states, p_statest, q_statest, p_number, q_number, p_numbert, q_numbert, p_fetch, q_fetch, p_fetcht, q_fetcht, p_cyc, q_cyc, cs_r, cs_plane, cs_code, cs_x, cs_y, cs_z, cs_p, cs_q, cs_at', cs_known, qc_r, qc_plane, qc_code, qc_m, qc_known, cs_mk, qc_mk, thr_cs, thq_qc, hl_qc, hF.getP, hF.setP, hF.getR, hF.setR, wordS, wordQ, popS, popQ, pushS, pushQ, putS, putQ, flagS, mvS, setPairS, setHlQ, tickS, tickQ, besideS, lessS, lessQ])
      exact trel_b (sim_set (fldB 1 c) hF _ _) hk fun v r a m k hk => TRel.pureb hk
end Go.Proofs.YtnaampdpkegacaaGreatDoor

namespace Go.Proofs.YtnaampdpkegacaaGreatDoor
open Go.RowKit

theorem trel_bS {α β : Type} {F : Fld} {S : β × CS → β × QC → Prop} {m : PM α} {m' : QM α} {f : α → PM β} {f' : α → QM β} (h : Sim F m m') {r : R} {a m0 : U16} {k : Bool} (hk : k = true → m0 = a)
    (hf : ∀ v r a m0 k, (k = true → m0 = a) → TRel S (f v (cs F r a k)) (f' v (qc F r m0 k))) : TRel S ((m >>= f) (cs F r a k)) ((m' >>= f') (qc F r m0 k)) :=
  TRel.bind (fun p q hR => by
    obtain ⟨e, r, a, m, k, e1, e2, hk⟩ := hR
    obtain ⟨p1, p2⟩ := p
    obtain ⟨q1, q2⟩ := q
    simp only at e e1 e2
    subst e e1 e2
    exact hf _ r a m k hk) _ _ (h r a m0 k hk)
theorem trel_askS {α β : Type} {S : α → β → Prop} {c c' : Cyc} {k : U8 → T α} {k' : U8 → T β} (e : c = c') (h : ∀ b, TRel S (k b) (k' b)) : TRel S (T.ask c k) (T.ask c' k') := ⟨e, h⟩
theorem trel_retS {F : Fld} {v v' : Unit} {r r' : R} {a m : U16} {k : Bool} (e : v = v') (er : r = r') : TRel Rf (T.ret (v, cs F r a k)) (T.ret (v', qc F r' m k)) := ⟨e, er⟩
theorem far_end (pl : Int) (c d : U8) (r : R) (a m : U16) (k : Bool) (hk : k = true → m = a) : TRel Rf
    ((if ((fldB pl c).z != 6) = true then (do PM.mod fun s => { s with plane := 0 }; setS (fldB pl c).z d) else pure () : PM Unit) (cs (fldB pl c) r a k))
    ((if (fz c != 6) = true then setQ (fz c) d else pure () : QM Unit) (qc (fldB pl c) r m k)) := by
  by_cases h : (fz c != 6) = true
  · rw [if_pos (show ((fldB pl c).z != 6) = true from h), if_pos h]
    exact toRf (sim_set (fldB 0 c) (ok0 c) (fz c) d r a m k hk)
  · rw [if_neg (show ¬ ((fldB pl c).z != 6) = true from h), if_neg h]
    exact ⟨rfl, rfl⟩
theorem sim_bitF (pl : Int) (hp : pl = 5 ∨ pl = 6) (c : U8) (r : R) (a m : U16) (k : Bool) (p0 : Int) (c0 : U8) (hk : k = true → m = a) : TRel Rf (bitS (cs (fldB pl c) r a k)) (bitQ true c ⟨r, p0, c0, m, k⟩) := by
  have hF := okB pl c (by omega)
  have hb : ((fldB pl c).plane != 1) = true := by rcases hp with rfl | rfl <;> rfl
  have e : bitQ true c ⟨r, p0, c0, m, k⟩ = (do
    let b ← getQ 6
    statesQ 1
    let t ← QM.get
    if fx c = 1 then putQ t.r.af.hi (oBit (fy c) b t.r.wz.hi t.r.af.lo)
    else do
      if fx c = 0 then putQ t.r.af.hi (oDoF (fy c) b t.r.af.lo) else pure ()
      setQ 6 (if fx c = 0 then oDo (fy c) b t.r.af.lo else oWith b (fy c) (fx c != 2))
      if (fz c != 6) = true then setQ (fz c) (if fx c = 0 then oDo (fy c) b t.r.af.lo else oWith b (fy c) (fx c != 2)) else pure () : QM Unit) (qc (fldB pl c) r m k) := rfl
  rw [e]
  · simp only [bitS, bitEnd, p_get, p_ite, p_bb, cs_plane, cs_x, cs_y, cs_z, putS, putQ, flagS]
    rw [if_neg (show ¬ ((fldB pl c).plane = 1 ∧ ¬ (fldB pl c).z = 6) from fun h => by have : pl = 1 := h.1; omega)]
    refine trel_bS (sim_get (fldB pl c) hF 6) hk fun v r a m k hk => ?_
    simp only [p_get, q_get, p_modb, q_modb, p_mod, q_mod, p_ite, q_ite, p_states, q_states, cs_r, cs_plane, cs_code, cs_x, cs_y, cs_z, cs_p, cs_q, cs_at', cs_known, qc_r, qc_plane, qc_code, qc_m, qc_known, cs_mk, qc_mk]
    refine trel_askS rfl fun _ => ?_
    rcases (show fx c = 0 ∨ fx c = 1 ∨ fx c = 2 ∨ fx c = 3 by have := fx_r c; omega) with h | h | h | h
    · simp only [hb, Bool.true_and, if_pos (show (fldB pl c).x = 0 from h), if_pos (show fx c = 0 from h), if_neg (show ¬ (fldB pl c).x = 1 by rw [show (fldB pl c).x = 0 from h]; decide), if_neg (show ¬ fx c = 1 by rw [show fx c = 0 from h]; decide), show ((fldB pl c).x == 3) = false by rw [show (fldB pl c).x = 0 from h]; rfl, show (fx c != 2) = true by rw [h]; rfl]
      (try simp only [p_get, q_get, p_modb, q_modb, p_mod, q_mod, p_pure, q_pure, p_ite, q_ite, p_pureb, q_pureb, p_bb, q_bb, p_iteb, q_iteb, p_read, q_read, p_readt, q_readt, p_in, p_int, p_write, q_write, p_writet, q_writet, p_out, p_outt, p_states, q_states, p_statest, q_statest, p_number, q_number, p_numbert, q_numbert, p_fetch, q_fetch, p_fetcht, q_fetcht, p_cyc, q_cyc, cs_r, cs_plane, cs_code, cs_x, cs_y, cs_z, cs_p, cs_q, cs_at', cs_known, qc_r, qc_plane, qc_code, qc_m, qc_known, cs_mk, qc_mk, thr_cs, thq_qc, hl_qc, hF.getP, hF.setP, hF.getR, hF.setR, wordS, wordQ, popS, popQ, pushS, pushQ, putS, putQ, flagS, mvS, setPairS, setHlQ, tickS, tickQ, besideS, lessS, lessQ])
      exact trel_bS (sim_set (fldB pl c) hF _ _) hk fun v r a m k hk => far_end pl c _ _ _ _ _ hk
    · simp only [hb, Bool.true_and, if_neg (show ¬ (fldB pl c).x = 0 by rw [show (fldB pl c).x = 1 from h]; decide), if_neg (show ¬ fx c = 0 by rw [show fx c = 1 from h]; decide), if_pos (show (fldB pl c).x = 1 from h), if_pos (show fx c = 1 from h), show ((fldB pl c).x == 3) = false by rw [show (fldB pl c).x = 1 from h]; rfl, show (fx c != 2) = true by rw [h]; rfl]
      (try simp only [p_get, q_get, p_modb, q_modb, p_mod, q_mod, p_pure, q_pure, p_ite, q_ite, p_pureb, q_pureb, p_bb, q_bb, p_iteb, q_iteb, p_read, q_read, p_readt, q_readt, p_in, p_int, p_write, q_write, p_writet, q_writet, p_out, p_outt, p_states, q_states, p_statest, q_statest, p_number, q_number, p_numbert, q_numbert, p_fetch, q_fetch, p_fetcht, q_fetcht, p_cyc, q_cyc, cs_r, cs_plane, cs_code, cs_x, cs_y, cs_z, cs_p, cs_q, cs_at', cs_known, qc_r, qc_plane, qc_code, qc_m, qc_known, cs_mk, qc_mk, thr_cs, thq_qc, hl_qc, hF.getP, hF.setP, hF.getR, hF.setR, wordS, wordQ, popS, popQ, pushS, pushQ, putS, putQ, flagS, mvS, setPairS, setHlQ, tickS, tickQ, besideS, lessS, lessQ])
      exact trel_retS rfl rfl
    · simp only [hb, Bool.true_and, if_neg (show ¬ (fldB pl c).x = 0 by rw [show (fldB pl c).x = 2 from h]; decide), if_neg (show ¬ fx c = 0 by rw [show fx c = 2 from h]; decide), if_neg (show ¬ (fldB pl c).x = 1 by rw [show (fldB pl c).x = 2 from h]; decide), if_neg (show ¬ fx c = 1 by rw [show fx c = 2 from h]; decide), show ((fldB pl c).x == 3) = false by rw [show (fldB pl c).x = 2 from h]; rfl, show (fx c != 2) = false by rw [h]; rfl]
      (try simp only [p_get, q_get, p_modb, q_modb, p_mod, q_mod, p_pure, q_pure, p_ite, q_ite, p_pureb, q_pureb, p_bb, q_bb, p_iteb, q_iteb, p_read, q_read, p_readt, q_readt, p_in, p_int, p_write, q_write, p_writet, q_writet, p_out, p_outt, p_states, q_states, p_statest, q_statest, p_number, q_number, p_numbert, q_numbert, p_fetch, q_fetch, p_fetcht, q_fetcht, p_cyc, q_cyc, cs_r, cs_plane, cs_code, cs_x, cs_y, cs_z, cs_p, cs_q, cs_at', cs_known, qc_r, qc_plane, qc_code, qc_m, qc_known, cs_mk, qc_mk, thr_cs, thq_qc, hl_qc, hF.getP, hF.setP, hF.getR, hF.setR, wordS, wordQ, popS, popQ, pushS, pushQ, putS, putQ, flagS, mvS, setPairS, setHlQ, tickS, tickQ, besideS, lessS, lessQ])
      exact trel_bS (sim_set (fldB pl c) hF _ _) hk fun v r a m k hk => far_end pl c _ _ _ _ _ hk
    · simp only [hb, Bool.true_and, if_neg (show ¬ (fldB pl c).x = 0 by rw [show (fldB pl c).x = 3 from h]; decide), if_neg (show ¬ fx c = 0 by rw [show fx c = 3 from h]; decide), if_neg (show ¬ (fldB pl c).x = 1 by rw [show (fldB pl c).x = 3 from h]; decide), if_neg (show ¬ fx c = 1 by rw [show fx c = 3 from h]; decide), show ((fldB pl c).x == 3) = true by rw [show (fldB pl c).x = 3 from h]; rfl, show (fx c != 2) = true by rw [h]; rfl]
      (try simp only [p_get, q_get, p_modb, q_modb, p_mod, q_mod, p_pure, q_pure, p_ite, q_ite, p_pureb, q_pureb, p_bb, q_bb, p_iteb, q_iteb, p_read, q_read, p_readt, q_readt, p_in, p_int, p_write, q_write, p_writet, q_writet, p_out, p_outt, p_states, q_states, p_statest, q_statest, p_number, q_number, p_numbert, q_numbert, p_fetch, q_fetch, p_fetcht, q_fetcht, p_cyc, q_cyc, cs_r, cs_plane, cs_code, cs_x, cs_y, cs_z, cs_p, cs_q, cs_at', cs_known, qc_r, qc_plane, qc_code, qc_m, qc_known, cs_mk, qc_mk, thr_cs, thq_qc, hl_qc, hF.getP, hF.setP, hF.getR, hF.setR, wordS, wordQ, popS, popQ, pushS, pushQ, putS, putQ, flagS, mvS, setPairS, setHlQ, tickS, tickQ, besideS, lessS, lessQ])
      exact trel_bS (sim_set (fldB pl c) hF _ _) hk fun v r a m k hk => far_end pl c _ _ _ _ _ hk
theorem sim_rest (plane : Int) (hp : plane = 0 ∨ plane = 3 ∨ plane = 4) (b : U8) (F : Fld) (r : R) (a m : U16) (k : Bool) (hk : k = true → m = a) : TRel Rf (restS plane b (cs F r a k)) (restQ plane b (qc F r m k)) := by
  by_cases h1 : b.v = 237
  · simp only [restS, restQ, if_pos h1]
    exact trel_askS rfl fun c => toRf (sim_far c _ a m k hk)
  · by_cases h2 : b.v = 203
    · by_cases h3 : plane = 0
      · simp only [restS, restQ, if_neg h1, if_pos h2, if_pos h3]
        exact trel_askS rfl fun c => toRf (sim_bit1 c _ a m k _ _ hk)
      · simp only [restS, restQ, if_neg h1, if_pos h2, if_neg h3]
        refine trel_askS rfl fun d => trel_askS rfl fun c => trel_askS rfl fun _ => ?_
        exact sim_bitF (plane + 2) (by omega) c _ _ _ true _ _ (fun _ => rfl)
    · simp only [restS, restQ, if_neg h1, if_neg h2]
      exact toRf (sim_plain plane b r a m k _ _ hk)
theorem sim_on : ∀ (n : Nat) (plane : Int) (_hp : plane = 0 ∨ plane = 3 ∨ plane = 4) (b : U8) (F : Fld) (r : R) (a m : U16) (k : Bool) (_hk : k = true → m = a),
    TRel Rf ((prefS n plane b >>= fun q => restS q.1 q.2) (cs F r a k)) ((prefQ n plane b >>= fun q => restQ q.1 q.2) (qc F r m k))
  | 0, plane, hp, b, F, r, a, m, k, hk => sim_rest plane hp b F r a m k hk
  | n + 1, plane, hp, b, F, r, a, m, k, hk => by
    have e1 : prefS (n + 1) plane b = if b.v = 221 ∨ b.v = 253 then (do let c ← fetchS; prefS n (if b.v = 253 then 4 else 3) c) else pure (plane, b) := rfl
    have e2 : prefQ (n + 1) plane b = if b.v = 221 ∨ b.v = 253 then (do let c ← fetchQ; prefQ n (if b.v = 253 then 4 else 3) c) else pure (plane, b) := rfl
    rw [e1, e2]
    by_cases h : b.v = 221 ∨ b.v = 253
    · rw [if_pos h, if_pos h]
      exact trel_askS rfl fun c => sim_on n _ (by by_cases h4 : b.v = 253 <;> simp [h4]) c F _ a m k hk
    · rw [if_neg h, if_neg h]
      exact sim_rest plane hp b F r a m k hk
def F0 : Fld := ⟨0, u8 0, 0, 0, 0, 0, 0, 0, u8 0⟩
def qc0 (r : R) : QC := ⟨r, 0, u8 0, u16 0, false⟩
theorem sim_next (n : Nat) (h : Bool) (r : R) : TRel Rf (nextM n h (cs0 r)) (nextQ n h (qc0 r)) := by
  cases h
  · exact trel_askS rfl fun b => sim_on n 0 (.inl rfl) b F0 _ (u16 0) (u16 0) false (fun h => by cases h)
  · exact trel_askS rfl fun _ => ⟨rfl, rfl⟩
theorem sim_after (n : Nat) (b : U8) (r : R) : TRel Rf (afterM n b (cs0 r)) (afterQ n b (qc0 r)) :=
  sim_on n 0 (.inl rfl) b F0 { r with late := false } (u16 0) (u16 0) false (fun h => by cases h)
theorem feed_lacks {α : Type} : ∀ (t : T α) (got : List U8) (d : Fd), d.lacks = true → (t.feed got d).2 = d
  | .ret _, _, _, _ => rfl
  | .ask _ k, got, d, h => by
    simp only [T.feed, h]
    exact feed_lacks (k zero8) got d h
theorem feed_exec {α β : Type} {S : α → β → Prop} : ∀ (t : T α) (u : T β) (got : List U8) (d : Fd), TRel S t u → d.lacks = false →
    (∀ c, t.exec (got.drop d.at') = .error c → (u.feed got d).2.lacks = true ∧ (u.feed got d).2.ask = c) ∧ (∀ a l, t.exec (got.drop d.at') = .ok (a, l) → (u.feed got d).2.lacks = false ∧ S a (u.feed got d).1)
  | .ret a, .ret b, got, d, h, hd => ⟨fun c e => (by cases e), fun a' l e => (by cases e; exact ⟨hd, h⟩)⟩
  | .ask c k, .ask c' k', got, d, h, hd => by
    obtain ⟨rfl, hk⟩ := h
    simp only [T.feed, hd]
    cases e : got[d.at']? with
    | none =>
      have hl : got.drop d.at' = [] := List.drop_eq_nil_of_le (List.getElem?_eq_none_iff.1 e)
      rw [hl]
      simp only
      have := feed_lacks (k' zero8) got { d with lacks := true, ask := c } rfl
      exact ⟨fun c' ec => by cases ec; rw [this]; exact ⟨rfl, rfl⟩, fun a l ec => by cases ec⟩
    | some b =>
      have hlt := (List.getElem?_eq_some_iff.1 e).1
      have hl : got.drop d.at' = b :: got.drop (d.at' + 1) := by
        rw [List.drop_eq_getElem_cons hlt, (List.getElem?_eq_some_iff.1 e).2]
      rw [hl]
      have := feed_exec (k b) (k' b) got { at' := d.at' + 1, lacks := false, ask := d.ask } (hk b) rfl
      exact this
  | .ret _, .ask _ _, _, _, h, _ => h.elim
  | .ask _ _, .ret _, _, _, h, _ => h.elim
/-- What the reference tells of its work. -/
def fd0 : Fd := ⟨0, false, Cyc0⟩
def toldQ (s : QS) : Cyc × R × Bool := if s.fd.lacks then (s.fd.ask, R0, false) else (Cyc0, s.r, true)
def outQ (u : T (Unit × QC)) (got : List U8) : Cyc × R × Bool := if (u.feed got fd0).2.lacks then ((u.feed got fd0).2.ask, R0, false) else (Cyc0, (u.feed got fd0).1.2.r, true)
theorem out_same {t : T (Unit × CS)} {u : T (Unit × QC)} (h : TRel Rf t u) (got : List U8) : outQ u got = outT t got := by
  obtain ⟨h1, h2⟩ := feed_exec t u got fd0 h rfl
  rw [show got.drop fd0.at' = got from rfl] at h1 h2
  unfold outT outQ
  cases e : t.exec got with
  | error c => obtain ⟨a1, a2⟩ := h1 c e; rw [a1, a2]; rfl
  | ok p => obtain ⟨a1, a2⟩ := h2 p.1 p.2 e; rw [a1, ← a2.2]; rfl
/-- What next tells is what the reference tells. -/
theorem next_same (r : R) (got : List U8) : outQ (nextQ (got.length + 1) r.halted (qc0 r)) got = nextF r got := out_same (sim_next _ _ r) got
theorem after_same (r : R) (b : U8) (got : List U8) : outQ (afterQ (got.length + 1) b (qc0 r)) got = afterF r b got := out_same (sim_after _ b r) got
end Go.Proofs.YtnaampdpkegacaaGreatDoor
