/- That the shallow reading of a statement's operations is the model's, in whatever order. No condition. -/
import Derived.Test.YtohlnmenghbgbaaShC4
import Derived.Test.YtohlnmenghbgbaaShD
namespace Go.Proofs.Ytohlnmenghbgbaa
set_option linter.unusedSimpArgs false
set_option linter.unusedVariables false
open Go

variable {P : Program} {n : Nat}

def denV (P : Program) (env : Env) (o : Oper) (H : Hp) (K : Value → Hp → Prop) : Prop :=
  cond (quietOp o.op) (denQ P env o H fun v => K v H) (denL P env o H K)

theorem denO_spec {env : Env} {o : Oper} {H : Hp} {K : Env → Hp → Prop} (h : denO P n env o H K) : okDst n o.dst = true ∧ denV P env o H fun v H' => K (env.put o.dst v) H' := by
  unfold denO at h
  cases hd : okDst n o.dst
  · simp [hd] at h
  · rw [hd, cond_true] at h
    exact ⟨rfl, h⟩

theorem denV_wp {env : Env} {o : Oper} {a : Act} {w : World} {K : Value → Hp → Prop} {next : Act → World → Prop} {Q : Exit → Act → World → Prop}
    (h : denV P env o (hp w) K) (ha : Agree env a.eval o.op.operands.toList) (hn : ∀ v w', Rest w w' → K v (hp w') → next (a.put o.dst v) w') : o.wp P a w next Q := by
  unfold denV at h
  unfold Oper.wp
  cases hq : quietOp o.op
  · rw [hq, cond_false] at h
    have hl := denL_ok h a.eval ha
    generalize (execOp a.eval o).run P w = r at hl ⊢
    unfold LoudOk at hl
    split at hl
    · rw [Oper.upon_value]; exact hn _ _ hl.1 hl.2
    · rw [Oper.upon_skip]; exact hn _ _ hl.1 hl.2
    · obtain ⟨rfl, hc⟩ := hl
      rw [Oper.upon_enter]
      exact (hc _ rfl).mono fun e w' ⟨v, he, hr, k⟩ => by subst he; exact hn _ _ hr k
    · exact hl.elim
  · rw [hq, cond_true] at h
    obtain ⟨v, k, hr⟩ := denQ_ok h
    rw [hr a.eval w ha rfl, Oper.upon_value]
    exact hn v w (.refl w) k

/-- The guard's slot is known. -/
def guardKnown (L : List Oper) (env : Env) (o : Oper) : Prop := ∀ j want, o.guard = some (j, want) → ∃ d v, (L[j]?).bind (·.dst) = some d ∧ env d = some v

theorem env_set_same {env : Env} {d : Nat} {v : Value} (h : env d = some v) : env.set d v = env := by
  funext i
  unfold Env.set
  by_cases hi : i = d
  · subst hi
    have : Nat.beq i i = true := by simp
    rw [this, cond_true, h]
  · have : Nat.beq i d = false := by rw [← Bool.not_eq_true]; exact fun e => hi (Nat.eq_of_beq_eq_true e)
    rw [this, cond_false]

theorem denG_spec {L : List Oper} {env : Env} {o : Oper} {H : Hp} {K : Env → Hp → Prop} (h : denG P n L env o H K) :
    guardKnown L env o ∧ ((wantedE L env o = true ∧ denO P n env o H K) ∨ (wantedE L env o = false ∧ okDst n o.dst = true ∧ K (env.put o.dst undef) H)) := by
  unfold denG at h
  split at h
  · rename_i hg
    exact ⟨fun j want e => by rw [hg] at e; (cases e), .inl ⟨by simp [wantedE, hg], h⟩⟩
  · rename_i j want hg
    split at h
    · exact h.elim
    rename_i d hd
    have skip : ∀ {X : Prop}, cond (okDst n o.dst) X False → okDst n o.dst = true ∧ X := by
      intro X hx
      cases ho : okDst n o.dst
      · simp [ho] at hx
      · rw [ho, cond_true] at hx; exact ⟨rfl, hx⟩
    split at h
    · rename_i b hb
      refine ⟨fun j' want' e => ?_, ?_⟩
      · rw [hg] at e; cases e; exact ⟨d, _, hd, hb⟩
      · have e : env.set d (.bool b) = env := env_set_same hb
        cases b <;> cases want <;> simp only [cond_true, cond_false, e] at h
        · exact .inl ⟨by simp [wantedE, hg, hd, hb], h⟩
        · exact .inr ⟨by simp [wantedE, hg, hd, hb], skip h⟩
        · exact .inr ⟨by simp [wantedE, hg, hd, hb], skip h⟩
        · exact .inl ⟨by simp [wantedE, hg, hd, hb], h⟩
    · rename_i v hv hb
      refine ⟨fun j' want' e => ?_, .inr ⟨?_, skip h⟩⟩
      · rw [hg] at e; cases e; exact ⟨d, _, hd, hb⟩
      · simp only [wantedE, hg, hd, hb]
        cases v <;> first | rfl | exact (hv _ rfl).elim
    · exact h.elim

theorem wanted_eq {ops : Array Oper} {env : Env} {o : Oper} {tm : Array Value} (hk : guardKnown ops.toList env o)
    (ha : ∀ j want d v, o.guard = some (j, want) → (ops.toList[j]?).bind (·.dst) = some d → env d = some v → tm[d]? = some v) :
    Region.wanted o (yielded ops tm) = wantedE ops.toList env o := by
  unfold Region.wanted wantedE
  cases hg : o.guard with
  | none => rfl
  | some g =>
    obtain ⟨j, want⟩ := g
    obtain ⟨d, v, hd, hv⟩ := hk j want hg
    have ht := ha j want d v hg hd hv
    rw [Array.getElem?_toList] at hd
    simp only [yielded, Array.getElem?_toList, hd, Option.bind_some, ht, hv]
    cases v <;> try rfl
    rename_i b
    cases b <;> cases want <;> rfl

/-- The run's slots are as the environment says. -/
structure Fits (n : Nat) (tm : Array Value) (env : Env) : Prop where
  size : tm.size = n
  at_ : ∀ i v, env i = some v → tm[i]? = some v

theorem put_tmps_none (a : Act) (v : Value) : (a.put none v).tmps = a.tmps := rfl
theorem put_tmps_some (a : Act) (d : Nat) (v : Value) : (a.put (some d) v).tmps = a.tmps.setIfInBounds d v := rfl
theorem put_size (a : Act) (d : Option Nat) (v : Value) : (a.put d v).tmps.size = a.tmps.size := by cases d <;> simp [Act.put]
theorem put_defers' (a : Act) (d : Option Nat) (v : Value) : (a.put d v).defers = a.defers := by cases d <;> rfl
theorem put_get_other {a : Act} {d : Option Nat} {v : Value} {t : Nat} (h : d ≠ some t) : (a.put d v).tmps[t]? = a.tmps[t]? := by
  cases d with
  | none => rfl
  | some d =>
    rw [put_tmps_some, Array.getElem?_setIfInBounds_ne]
    exact fun e => h (by rw [e])
theorem put_get_same {a : Act} {d : Nat} {v : Value} (h : d < a.tmps.size) : (a.put (some d) v).tmps[d]? = some v := by
  rw [put_tmps_some, Array.getElem?_setIfInBounds_self_of_lt h]
theorem env_put_other {env : Env} {d : Option Nat} {v : Value} {t : Nat} (h : d ≠ some t) : env.put d v t = env t := by
  cases d with
  | none => rfl
  | some d =>
    show cond (Nat.beq t d) _ _ = _
    have : Nat.beq t d = false := by rw [← Bool.not_eq_true]; exact fun e => h (by rw [Nat.eq_of_beq_eq_true e])
    rw [this, cond_false]
theorem env_put_same {env : Env} {d : Nat} {v : Value} : env.put (some d) v d = some v := by
  show cond (Nat.beq d d) _ _ = _
  have : Nat.beq d d = true := by simp
  rw [this, cond_true]
theorem okDst_lt {d : Nat} (h : okDst n (some d) = true) : d < n := Nat.le_of_ble_eq_true h

theorem Fits.put {a : Act} {env : Env} {d : Option Nat} {v : Value} (h : Fits n a.tmps env) (hd : okDst n d = true) : Fits n (a.put d v).tmps (env.put d v) := by
  refine ⟨by rw [put_size, h.size], fun i u hu => ?_⟩
  by_cases hi : d = some i
  · subst hi
    rw [env_put_same] at hu
    cases hu
    exact put_get_same (by rw [h.size]; exact okDst_lt hd)
  · rw [env_put_other hi] at hu
    rw [put_get_other hi]
    exact h.at_ i u hu

theorem agree_of {env : Env} {a : Act} {xs : List Operand} (h : ∀ t v, Operand.tmp t ∈ xs → env t = some v → a.tmps[t]? = some v) : Agree env a.eval xs := by
  intro x v hx hv
  cases x with
  | tmp t =>
    have := h t v hx hv
    simp [Act.eval, this]
  | const u => cases hv; rfl
  | global g => cases hv; rfl
  | func f => cases hv; rfl

/-- What a statement's operations leave alone. -/
def SameBut (ds : List Nat) (tm tm' : Array Value) : Prop := ∀ t, t ∉ ds → tm'[t]? = tm[t]?
def dsts (L : List Oper) : List Nat := L.filterMap (·.dst)

theorem mem_dsts {L : List Oper} {o : Oper} {d : Nat} (h : o ∈ L) (hd : o.dst = some d) : d ∈ dsts L := List.mem_filterMap.2 ⟨o, h, hd⟩

section seq
variable {ops : Array Oper} {Q : Exit → Act → World → Prop} {K : Env → Hp → Prop}

theorem denSeq_wp : ∀ (l : List Oper) (k : Nat) (env : Env) (a : Act) (w : World), (∀ j, l[j]? = ops.toList[k + j]?) → Fits n a.tmps env → denSeq P n ops.toList l env (hp w) K →
    (∀ env' a' w', Fits n a'.tmps env' → a'.defers = a.defers → Rest w w' → SameBut (dsts ops.toList) a.tmps a'.tmps → K env' (hp w') → Q .normal a' w') →
    wpOps P ops Q (List.range' k l.length) a w := by
  intro l
  induction l with
  | nil => intro k env a w _ hf h hK; exact hK env a w hf rfl (.refl w) (fun _ _ => rfl) h
  | cons o l ih =>
    intro k env a w hl hf h hK
    have ho : ops.toList[k]? = some o := by rw [← Nat.add_zero k, ← hl 0]; rfl
    have ho' : ops[k]? = some o := by rw [← Array.getElem?_toList]; exact ho
    have hl' : ∀ j, l[j]? = ops.toList[k + 1 + j]? := fun j => by
      have := hl (j + 1)
      rw [List.getElem?_cons_succ] at this
      rw [this]; congr 1; omega
    have hmem : o ∈ ops.toList := List.mem_of_getElem? ho
    rw [List.length_cons, List.range'_succ, wpOps_cons]
    unfold wpOp
    simp only [ho']
    obtain ⟨hgk, hg⟩ := denG_spec (K := fun env' H' => denSeq P n ops.toList l env' H' K) h
    have hw : Region.wanted o (yielded ops a.tmps) = wantedE ops.toList env o := wanted_eq hgk fun j want d v _ _ hv => hf.at_ d v hv
    have step : ∀ v w', okDst n o.dst = true → Rest w w' → denSeq P n ops.toList l (env.put o.dst v) (hp w') K → wpOps P ops Q (List.range' (k + 1) l.length) (a.put o.dst v) w' := by
      intro v w' hd hr hk
      refine ih (k + 1) _ _ w' hl' (hf.put hd) hk fun env' a' w'' hf' hdf hr' hs k' => hK env' a' w'' hf' (by rw [hdf, put_defers']) (hr.trans hr') (fun t ht => ?_) k'
      rw [hs t ht]
      exact put_get_other fun e => ht (mem_dsts hmem e)
    rcases hg with ⟨hb, hO⟩ | ⟨hb, hd, hk⟩
    · rw [hw, hb, if_pos rfl]
      obtain ⟨hd, hV⟩ := denO_spec (K := fun env' H' => denSeq P n ops.toList l env' H' K) hO
      exact .inl (denV_wp hV (agree_of fun t v _ hv => hf.at_ t v hv) fun v w' hr k => step v w' hd hr k)
    · rw [hw, hb, if_neg (by simp)]
      exact step undef w hd (.refl w) hk

end seq

end Go.Proofs.Ytohlnmenghbgbaa
