/- That the shallow reading of a statement's operations is the model's, in every order that the edges allow. No condition. -/
import Derived.Test.YtohlnmenghbgbaaShD2
namespace Go.Proofs.Ytohlnmenghbgbaa
set_option linter.unusedSimpArgs false
set_option linter.unusedVariables false
open Go

variable {P : Program} {n : Nat}

/-! ## Lists of numbers -/

theorem elemN_iff {l : List Nat} {i : Nat} : elemN l i = true ↔ i ∈ l := by
  induction l with
  | nil => simp [elemN]
  | cons j l ih =>
    unfold elemN
    by_cases h : i = j
    · subst h
      have : Nat.beq i i = true := by simp
      simp [this]
    · have : Nat.beq i j = false := by rw [← Bool.not_eq_true]; exact fun e => h (Nat.eq_of_beq_eq_true e)
      simp [this, h, ih]
theorem elemN_false {l : List Nat} {i : Nat} : elemN l i = false ↔ i ∉ l := by rw [← Bool.not_eq_true, elemN_iff]

theorem nodup_length {N : Nat} : ∀ {l : List Nat}, l.Nodup → (∀ i ∈ l, i < N) → l.length ≤ N := by
  induction N with
  | zero =>
    intro l _ h
    cases l with
    | nil => simp
    | cons x l => exact absurd (h x (by simp)) (by omega)
  | succ N ih =>
    intro l hn h
    by_cases hm : N ∈ l
    · have h1 : (l.erase N).Nodup := hn.erase N
      have h2 : ∀ i ∈ l.erase N, i < N := by
        intro i hi
        have h3 := (hn.mem_erase_iff).1 hi
        have := h i h3.2
        omega
      have := ih h1 h2
      rw [List.length_erase_of_mem hm] at this
      omega
    · have := ih hn (fun i hi => by
        have := h i hi
        have : i ≠ N := fun e => hm (e ▸ hi)
        omega)
      omega

theorem nodup_all {N : Nat} {l : List Nat} (hn : l.Nodup) (h : ∀ i ∈ l, i < N) (hl : l.length = N) : ∀ i, i < N → i ∈ l := by
  intro i hi
  refine Classical.byContradiction fun hc => ?_
  have := nodup_length (N := N) (l := i :: l) (List.nodup_cons.2 ⟨hc, hn⟩) (fun j hj => by
    rcases List.mem_cons.1 hj with e | e
    · omega
    · exact h j e)
  rw [List.length_cons] at this
  omega

theorem zipI_mem {L : List Oper} {i : Nat} {o : Oper} : ∀ {k : Nat}, (i, o) ∈ zipI L k ↔ k ≤ i ∧ L[i - k]? = some o := by
  induction L with
  | nil => intro k; simp [zipI]
  | cons x L ih =>
    intro k
    unfold zipI
    rw [List.mem_cons, ih]
    constructor
    · rintro (h | ⟨h1, h2⟩)
      · cases h
        exact ⟨Nat.le_refl _, by simp⟩
      · refine ⟨by omega, ?_⟩
        rw [show i - k = (i - (k + 1)) + 1 by omega, List.getElem?_cons_succ]
        exact h2
    · rintro ⟨h1, h2⟩
      by_cases e : i = k
      · subst e
        simp at h2
        exact .inl (by rw [h2])
      · refine .inr ⟨by omega, ?_⟩
        rw [show i - k = (i - (k + 1)) + 1 by omega, List.getElem?_cons_succ] at h2
        exact h2
theorem zipI_mem0 {L : List Oper} {i : Nat} {o : Oper} : (i, o) ∈ zipI L 0 ↔ L[i]? = some o := by simp [zipI_mem]

theorem allL_mem {l : List (Nat × Oper)} {f : Nat × Oper → Prop} (h : allL l f) {p : Nat × Oper} (hp : p ∈ l) : f p := by
  induction l with
  | nil => cases hp
  | cons q l ih =>
    cases l with
    | nil =>
      rcases List.mem_cons.1 hp with e | e
      · rw [e]; exact h
      · cases e
    | cons r l =>
      rcases List.mem_cons.1 hp with e | e
      · rw [e]; exact h.1
      · exact ih h.2 e

theorem recheck_spec {env : Env} {H : Hp} {l : List (Nat × Oper)} {K : Prop} (h : recheck P env H l K) :
    K ∧ ∀ p ∈ l, ∃ K', denQ P env p.2 H K' ∧ ∀ d, p.2.dst = some d → ∀ v, K' v → env d = some v := by
  induction l with
  | nil => exact ⟨h, fun p hp => by cases hp⟩
  | cons q l ih =>
    obtain ⟨h1, h2⟩ := h
    obtain ⟨hk, hl⟩ := ih h2
    refine ⟨hk, fun p hp => ?_⟩
    rcases List.mem_cons.1 hp with e | e
    · subst e
      split at h1
      · rename_i hd
        exact ⟨_, h1, fun d e => by rw [hd] at e; cases e⟩
      · rename_i d hd
        split at h1
        · rename_i u hu
          exact ⟨_, h1, fun d' e v hv => by rw [hd] at e; cases e; rw [hu, hv]⟩
        · exact h1.elim
    · exact hl p e

/-! ## What the condition gives -/

structure RegOk (P : Program) (L : List Oper) : Prop where
  back : ∀ (i : Nat) (o : Oper), L[i]? = some o → ∀ k ∈ aft o, k < i
  guard : ∀ (i : Nat) (o : Oper), L[i]? = some o → ∀ g w, o.guard = some (g, w) → g ∈ aft o
  self : ∀ (i : Nat) (o : Oper) (t : Nat), L[i]? = some o → o.dst = some t → readOp P o.op = true → t ∉ looksT L o
  one : ∀ (i : Nat) (o : Oper) (j : Nat) (p : Oper) (t : Nat), L[i]? = some o → L[j]? = some p → i ≠ j → p.dst = some t → o.dst ≠ some t
  look : ∀ (i : Nat) (o : Oper) (j : Nat) (p : Oper) (t : Nat), L[i]? = some o → L[j]? = some p → i ≠ j → p.dst = some t → t ∈ looksT L o →
    j ∈ aft o ∨ (i ∈ aft p ∧ ¬ (readOp P o.op = true ∧ quietOp o.op = true))

theorem regOk_spec {L : List Oper} (h : regOk P L = true) : RegOk P L := by
  unfold regOk at h
  rw [List.all_eq_true] at h
  have hq : ∀ i o, L[i]? = some o → okOp (i, o) = true ∧ okGuard (i, o) = true ∧ ∀ j p, L[j]? = some p → okPair P L (i, o) (j, p) = true := by
    intro i o ho
    have h1 := h (i, o) (zipI_mem0.2 ho)
    rw [Bool.and_eq_true, Bool.and_eq_true, List.all_eq_true] at h1
    exact ⟨h1.1.1, h1.1.2, fun j p hp => h1.2 (j, p) (zipI_mem0.2 hp)⟩
  have hne : ∀ {i j : Nat}, i ≠ j → Nat.beq i j = false := fun e => by rw [← Bool.not_eq_true]; exact fun e' => e (Nat.eq_of_beq_eq_true e')
  refine ⟨?_, ?_, ?_, ?_, ?_⟩
  · intro i o ho k hk
    have h1 := (hq i o ho).1
    unfold okOp at h1
    rw [List.all_eq_true] at h1
    exact Nat.le_of_ble_eq_true (h1 k hk)
  · intro i o ho g w hg
    have h1 := (hq i o ho).2.1
    unfold okGuard at h1
    simp only [hg] at h1
    exact elemN_iff.1 h1
  · intro i o t ho hd hr hm
    have h1 := (hq i o ho).2.2 i o ho
    unfold okPair at h1
    have : Nat.beq i i = true := by simp
    simp only [hd, this, cond_true, hr, elemN_iff.2 hm] at h1
    cases h1
  · intro i o j p t ho hp hij hd e
    have h1 := (hq i o ho).2.2 j p hp
    unfold okPair at h1
    have : Nat.beq t t = true := by simp
    simp only [hd, hne hij, cond_false, e, this] at h1
    simp at h1
  · intro i o j p t ho hp hij hd hm
    have h1 := (hq i o ho).2.2 j p hp
    unfold okPair at h1
    simp only [hd, hne hij, cond_false, Bool.and_eq_true, Bool.or_eq_true, Bool.not_eq_true', elemN_iff, elemN_false] at h1
    rcases h1.2 with (h2 | h2) | h2
    · exact absurd hm h2
    · exact .inl h2
    · refine .inr ⟨h2.1, fun hh => ?_⟩
      have := h2.2
      simp [hh.1, hh.2] at this

theorem ancs_sub {L : List Oper} {La : List Nat} (hc : ∀ i o, L[i]? = some o → i ∈ La → ∀ k ∈ aft o, k ∈ La) :
    ∀ {l : List (Nat × Oper)} {S : List Nat}, (∀ p ∈ l, L[p.1]? = some p.2) → (∀ k ∈ S, k ∈ La) → ∀ k ∈ ancs l S, k ∈ La := by
  intro l
  induction l with
  | nil => intro S _ hS k hk; exact hS k hk
  | cons p l ih =>
    intro S hl hS k hk
    unfold ancs at hk
    refine ih (fun q hq => hl q (by simp [hq])) ?_ k hk
    intro j hj
    cases he : elemN S p.1
    · rw [he, cond_false] at hj
      exact hS j hj
    · rw [he, cond_true] at hj
      rcases List.mem_append.1 hj with e | e
      · exact hc p.1 p.2 (hl p (by simp)) (hS _ (elemN_iff.1 he)) j e
      · exact hS j e

/-! ## The run behind the reading -/

section any
variable {ops : Array Oper} {Q : Exit → Act → World → Prop} {K : Env → Hp → Prop}

/-- What is known of an operation that the reading has done and the run has not. -/
def Held (P : Program) (n : Nat) (L : List Oper) (rd : List (Nat × Oper)) (H : Hp) (env : Env) (tm : Array Value) (q : Nat) (o : Oper) : Prop :=
  ∃ envq : Env, okDst n o.dst = true ∧ guardKnown L envq o ∧
    (∀ t ∈ looksT L o, ∀ v, envq t = some v →
      ((∃ p op, L[p]? = some op ∧ op.dst = some t ∧ p ∈ aft o) → env t = some v) ∧ ((¬ ∃ p op, L[p]? = some op ∧ op.dst = some t ∧ p ∈ aft o) → tm[t]? = some v)) ∧
    ((wantedE L envq o = true ∧ quietOp o.op = true ∧ (∃ K', denQ P envq o H K' ∧ ∀ d, o.dst = some d → ∀ v, K' v → env d = some v) ∧
        (readOp P o.op = true → (q, o) ∈ rd ∧ ∀ t ∈ looksT L o, env t = envq t)) ∨
      (wantedE L envq o = false ∧ ∀ d, o.dst = some d → env d = some undef))

structure Sim (P : Program) (n : Nat) (L : List Oper) (tm0 : Array Value) (H : Hp) (env : Env) (tm : Array Value) (Ld La : List Nat) (rd : List (Nat × Oper)) : Prop where
  size : tm.size = n
  sub : ∀ i ∈ La, i ∈ Ld
  clD : ∀ i o, L[i]? = some o → i ∈ Ld → ∀ k ∈ aft o, k ∈ Ld
  clA : ∀ i o, L[i]? = some o → i ∈ La → ∀ k ∈ aft o, k ∈ La
  ltD : ∀ i ∈ Ld, i < L.length
  ndD : Ld.Nodup
  ndA : La.Nodup
  rdIn : ∀ p ∈ rd, L[p.1]? = some p.2 ∧ p.1 ∈ Ld
  same : SameBut (dsts L) tm0 tm
  agree : ∀ t v, env t = some v → (∀ p o, L[p]? = some o → o.dst = some t → p ∈ Ld → p ∈ La) → tm[t]? = some v
  held : ∀ q o, L[q]? = some o → q ∈ Ld → q ∉ La → Held P n L rd H env tm q o

theorem lt_of_get {L : List Oper} {i : Nat} {o : Oper} (h : L[i]? = some o) : i < L.length := (List.getElem?_eq_some_iff.1 h).1

/-- The reading does a quiet operation more. -/
theorem Sim.quiet {L : List Oper} {tm0 tm : Array Value} {H : Hp} {env : Env} {Ld La : List Nat} {rd : List (Nat × Oper)} (hreg : RegOk P L)
    (s : Sim P n L tm0 H env tm Ld La rd) {q : Nat} {o : Oper} (ho : L[q]? = some o) (hq : q ∉ Ld) (haft : ∀ k ∈ aft o, k ∈ Ld) (hquiet : quietOp o.op = true)
    {K : Env → Hp → Prop} (h : denG P n L env o H K) :
    ∃ env', K env' H ∧ Sim P n L tm0 H env' tm (q :: Ld) La (cond (readOp P o.op && wantedE L env' o) ((q, o) :: rd) rd) := by
  obtain ⟨hgk, hg⟩ := denG_spec h
  have hqA : q ∉ La := fun e => hq (s.sub q e)
  -- a slot that is looked at by what is done is not this one's
  have hother : ∀ p op, L[p]? = some op → op.dst = o.dst → o.dst ≠ none → p ≠ q → False := by
    intro p op hp e hne hpq
    cases hd : o.dst with
    | none => exact hne hd
    | some t => exact hreg.one p op q o t hp ho hpq hd (by rw [e, hd])
  have key : ∀ u, okDst n o.dst = true → ((wantedE L env o = true ∧ denQ P env o H fun v => v = u) ∨ (wantedE L env o = false ∧ u = undef)) →
      Sim P n L tm0 H (env.put o.dst u) tm (q :: Ld) La (cond (readOp P o.op && wantedE L env o) ((q, o) :: rd) rd) := by
    intro u hd hu
    refine ⟨s.size, fun i hi => by simp [s.sub i hi], ?_, s.clA, ?_, List.nodup_cons.2 ⟨hq, s.ndD⟩, s.ndA, ?_, s.same, ?_, ?_⟩
    · intro i p hp hi k hk
      rcases List.mem_cons.1 hi with e | e
      · subst e
        rw [ho] at hp; cases hp
        simp [haft k hk]
      · simp [s.clD i p hp e k hk]
    · intro i hi
      rcases List.mem_cons.1 hi with e | e
      · subst e; exact lt_of_get ho
      · exact s.ltD i e
    · intro p hp
      have : p ∈ (q, o) :: rd := by
        cases hc : (readOp P o.op && wantedE L env o)
        · rw [hc, cond_false] at hp; simp [hp]
        · rw [hc, cond_true] at hp; exact hp
      rcases List.mem_cons.1 this with e | e
      · subst e; exact ⟨ho, by simp⟩
      · exact ⟨(s.rdIn p e).1, by simp [(s.rdIn p e).2]⟩
    · intro t v hv hA
      by_cases ht : o.dst = some t
      · exact absurd (hA q o ho ht (by simp)) hqA
      · rw [env_put_other ht] at hv
        exact s.agree t v hv fun p op hp hpd hpD => hA p op hp hpd (by simp [hpD])
    · intro q2 o2 ho2 hq2 hq2A
      rcases List.mem_cons.1 hq2 with e | e
      · subst e
        rw [ho] at ho2; cases ho2
        have hnl : ∀ t ∈ looksT L o, (∃ p op, L[p]? = some op ∧ op.dst = some t ∧ p ∈ aft o) → o.dst ≠ some t := by
          rintro t ht ⟨p, op, hp, hpd, hpa⟩ e
          have hpq : p ≠ q2 := fun e' => hq (e' ▸ haft p hpa)
          exact hreg.one p op q2 o t hp ho hpq e hpd
        refine ⟨env, hd, hgk, fun t ht v hv => ⟨fun hex => ?_, fun hno => ?_⟩, ?_⟩
        · rw [env_put_other (hnl t ht hex)]; exact hv
        · refine s.agree t v hv fun p op hp hpd hpD => ?_
          exfalso
          by_cases hpq : p = q2
          · exact hq (hpq ▸ hpD)
          · rcases hreg.look q2 o p op t ho hp (fun e => hpq e.symm) hpd ht with h1 | h1
            · exact hno ⟨p, op, hp, hpd, h1⟩
            · exact hq (s.clD p op hp hpD q2 h1.1)
        · rcases hu with ⟨hw, hk⟩ | ⟨hw, rfl⟩
          · refine .inl ⟨hw, hquiet, ⟨_, hk, fun d e v hv => ?_⟩, fun hr => ⟨?_, fun t ht => ?_⟩⟩
            · rw [e, hv]; exact env_put_same
            · rw [hr, hw]; simp
            · refine env_put_other fun e => ?_
              exact hreg.self q2 o t ho e hr ht
          · exact .inr ⟨hw, fun d e => by rw [e]; exact env_put_same⟩
      · have hne : q2 ≠ q := fun e' => hq (e' ▸ e)
        obtain ⟨envq, h1, h2, h3, h4⟩ := s.held q2 o2 ho2 e hq2A
        have hdst : ∀ d, o2.dst = some d → o.dst ≠ some d := fun d e1 e2 => hreg.one q2 o2 q o d ho2 ho hne e2 e1
        refine ⟨envq, h1, h2, fun t ht v hv => ⟨fun hex => ?_, (h3 t ht v hv).2⟩, ?_⟩
        · have hnt : o.dst ≠ some t := by
            obtain ⟨p, op, hp, hpd, hpa⟩ := hex
            intro e'
            have : p ≠ q := fun e'' => hq (e'' ▸ s.clD q2 o2 ho2 e p hpa)
            exact hreg.one p op q o t hp ho this e' hpd
          rw [env_put_other hnt]
          exact (h3 t ht v hv).1 hex
        · rcases h4 with ⟨hw, hqq, ⟨K', hk, hk'⟩, hr⟩ | ⟨hw, hk⟩
          · refine .inl ⟨hw, hqq, ⟨K', hk, fun d e1 v hv => by rw [env_put_other (hdst d e1)]; exact hk' d e1 v hv⟩, fun hrd => ?_⟩
            obtain ⟨hr1, hr2⟩ := hr hrd
            refine ⟨?_, fun t ht => ?_⟩
            · cases hc : (readOp P o.op && wantedE L env o)
              · rw [cond_false]; exact hr1
              · rw [cond_true]; simp [hr1]
            · rw [env_put_other]
              · exact hr2 t ht
              · intro e'
                rcases hreg.look q2 o2 q o t ho2 ho hne e' ht with h5 | h5
                · exact hq (s.clD q2 o2 ho2 e q h5)
                · exact h5.2 ⟨hrd, hqq⟩
          · exact .inr ⟨hw, fun d e1 => by rw [env_put_other (hdst d e1)]; exact hk d e1⟩
  have hwsame : ∀ u, wantedE L (env.put o.dst u) o = wantedE L env o := by
    intro u
    unfold wantedE
    split
    · rfl
    · rename_i j want hgd
      split
      · rfl
      · rename_i d hd
        rw [env_put_other]
        intro e
        have hj := hreg.guard q o ho j want hgd
        cases hjo : L[j]? with
        | none => rw [hjo] at hd; cases hd
        | some oj =>
          rw [hjo] at hd
          have hjq : j ≠ q := fun e' => hq (e' ▸ haft j hj)
          exact hreg.one j oj q o d hjo ho hjq e hd
  rcases hg with ⟨hb, hO⟩ | ⟨hb, hd, hk⟩
  · obtain ⟨hd, hV⟩ := denO_spec hO
    unfold denV at hV
    rw [hquiet, cond_true] at hV
    obtain ⟨v, k, hdet⟩ := denQ_det _ hV
    refine ⟨env.put o.dst v, k, ?_⟩
    rw [hwsame]
    exact key v hd (.inl ⟨hb, hdet (fun u => u = v) rfl⟩)
  · refine ⟨env.put o.dst undef, hk, ?_⟩
    rw [hwsame]
    exact key undef hd (.inr ⟨hb, rfl⟩)

/-- The reading goes on till no quiet operation is ready. -/
theorem Sim.saturate {L : List Oper} {tm0 tm : Array Value} {H : Hp} {La : List Nat} {rzs : List (Nat × Oper)} (hreg : RegOk P L) :
    ∀ (fd : Nat) (env : Env) (Ld : List Nat) (rd : List (Nat × Oper)), Sim P n L tm0 H env tm Ld La rd → fd + Ld.length = L.length →
      denAny P n L (zipI L 0) rzs fd Ld rd env H K →
      ∃ fd' env' Ld' rd', Sim P n L tm0 H env' tm Ld' La rd' ∧ fd' + Ld'.length = L.length ∧ denAny P n L (zipI L 0) rzs fd' Ld' rd' env' H K ∧ nextQ (zipI L 0) Ld' = none := by
  intro fd
  induction fd with
  | zero =>
    intro env Ld rd s hl h
    refine ⟨0, env, Ld, rd, s, hl, h, ?_⟩
    unfold nextQ
    rw [List.find?_eq_none]
    rintro ⟨i, o⟩ hm hc
    have hi := lt_of_get (zipI_mem0.1 hm)
    have : i ∈ Ld := nodup_all s.ndD s.ltD (by omega) i hi
    simp [readyI, elemN_iff.2 this] at hc
  | succ fd ih =>
    intro env Ld rd s hl h
    cases hn : nextQ (zipI L 0) Ld with
    | none => exact ⟨fd + 1, env, Ld, rd, s, hl, h, hn⟩
    | some p =>
      obtain ⟨q, o⟩ := p
      unfold denAny at h
      simp only [hn] at h
      have hm := List.mem_of_find?_eq_some hn
      have hc := List.find?_some hn
      simp only [readyI, Bool.and_eq_true, Bool.not_eq_true', elemN_false, List.all_eq_true, elemN_iff] at hc
      obtain ⟨env', k, s'⟩ := s.quiet hreg (zipI_mem0.1 hm) hc.2.1 hc.2.2 hc.1 h
      exact ih env' (q :: Ld) _ s' (by rw [List.length_cons]; omega) k

/-- How the model keeps which operations are done. -/
structure Lists (L : List Oper) (listed : Array Bool) (La : List Nat) : Prop where
  size : listed.size = L.length
  at_ : ∀ i, i < L.length → (listed[i]? = some true ↔ i ∈ La)
  lt : ∀ i ∈ La, i < L.length

theorem Lists.getD {L : List Oper} {listed : Array Bool} {La : List Nat} (h : Lists L listed La) (i : Nat) : listed.getD i false = true ↔ i ∈ La := by
  by_cases hi : i < L.length
  · rw [← h.at_ i hi]
    have : i < listed.size := by rw [h.size]; exact hi
    simp [Array.getD, this, Array.getElem?_eq_getElem this]
  · constructor
    · intro e
      have : ¬ i < listed.size := by rw [h.size]; exact hi
      simp [Array.getD, this] at e
    · intro e; exact absurd (h.lt i e) hi
theorem Lists.getD' {L : List Oper} {listed : Array Bool} {La : List Nat} (h : Lists L listed La) {i : Nat} (hi : i < L.length) : listed.getD i true = true ↔ i ∈ La := by
  rw [← h.at_ i hi]
  have : i < listed.size := by rw [h.size]; exact hi
  simp [Array.getD, this, Array.getElem?_eq_getElem this]

theorem Lists.set {L : List Oper} {listed : Array Bool} {La : List Nat} (h : Lists L listed La) {i : Nat} (hi : i < L.length) : Lists L (listed.setIfInBounds i true) (i :: La) := by
  refine ⟨by simp [h.size], fun j hj => ?_, fun j hj => ?_⟩
  · by_cases e : j = i
    · subst e
      rw [Array.getElem?_setIfInBounds_self_of_lt (by rw [h.size]; exact hj)]
      simp
    · rw [Array.getElem?_setIfInBounds_ne (fun e' => e e'.symm), h.at_ j hj]
      simp [e]
  · rcases List.mem_cons.1 hj with e | e
    · subst e; exact hi
    · exact h.lt j e

theorem ready_mem {listed : Array Bool} {La : List Nat} (h : Lists ops.toList listed La) {i : Nat} :
    i ∈ Region.ready .any ops listed ↔ ∃ o, ops.toList[i]? = some o ∧ i ∉ La ∧ ∀ k ∈ aft o, k ∈ La := by
  unfold Region.ready
  rw [List.mem_filter, List.mem_range]
  constructor
  · rintro ⟨hi, hc⟩
    have hi' : i < ops.toList.length := by simpa using hi
    obtain ⟨o, ho⟩ : ∃ o, ops[i]? = some o := ⟨ops[i], Array.getElem?_eq_getElem hi⟩
    rw [Bool.and_eq_true, Bool.not_eq_true', ← Bool.not_eq_true, h.getD' hi'] at hc
    refine ⟨o, by rw [Array.getElem?_toList]; exact ho, hc.1, fun k hk => ?_⟩
    have h2 := hc.2
    rw [ho] at h2
    simp only [Option.map_some, Option.getD_some, Array.all_eq_true_iff_forall_mem] at h2
    unfold aft at hk
    rw [List.mem_map] at hk
    obtain ⟨e, he, rfl⟩ := hk
    rw [List.mem_filter] at he
    have h3 := h2 e (by simpa using he.1)
    rw [he.2] at h3
    simp only [Bool.not_true, Bool.false_or] at h3
    exact (h.getD _).1 h3
  · rintro ⟨o, ho, hni, hall⟩
    have hi' := lt_of_get ho
    have hi : i < ops.size := by simpa using hi'
    refine ⟨hi, ?_⟩
    rw [Bool.and_eq_true, Bool.not_eq_true', ← Bool.not_eq_true, h.getD' hi']
    refine ⟨hni, ?_⟩
    rw [Array.getElem?_toList] at ho
    rw [ho]
    simp only [Option.map_some, Option.getD_some, Array.all_eq_true_iff_forall_mem]
    intro e he
    cases hb : Region.binds .any e
    · rfl
    · rw [Bool.not_true, Bool.false_or, h.getD]
      refine hall _ ?_
      unfold aft
      exact List.mem_map.2 ⟨e, List.mem_filter.2 ⟨by simpa using he, hb⟩, rfl⟩

theorem looksT_op {L : List Oper} {o : Oper} {t : Nat} (h : Operand.tmp t ∈ o.op.operands.toList) : t ∈ looksT L o := by
  unfold looksT
  exact List.mem_append.2 (.inl (List.mem_filterMap.2 ⟨_, h, rfl⟩))
theorem looksT_guard {L : List Oper} {o : Oper} {j d : Nat} {w : Bool} (hg : o.guard = some (j, w)) (hd : (L[j]?).bind (·.dst) = some d) : d ∈ looksT L o := by
  unfold looksT
  refine List.mem_append.2 (.inr ?_)
  simp [hg, hd]

theorem any_sound {rzs : List (Nat × Oper)} (hreg : RegOk P ops.toList) (hrz : ∀ p ∈ rzs, ops.toList[p.1]? = some p.2) (tm0 : Array Value) (df : List Deferred) (w0 : World)
    (hK : ∀ env a w, Fits n a.tmps env → a.defers = df → Rest w0 w → SameBut (dsts ops.toList) tm0 a.tmps → K env (hp w) → Q .normal a w) :
    ∀ (fa fd : Nat) (listed : Array Bool) (Ld La : List Nat) (rd : List (Nat × Oper)) (env : Env) (a : Act) (w : World), Lists ops.toList listed La →
      Sim P n ops.toList tm0 (hp w) env a.tmps Ld La rd → fa + La.length = ops.toList.length → fd + Ld.length = ops.toList.length → a.defers = df → Rest w0 w →
      denAny P n ops.toList (zipI ops.toList 0) rzs fd Ld rd env (hp w) K → wpAny P .any ops Q fa listed a w := by
  intro fa
  induction fa with
  | zero =>
    intro fd listed Ld La rd env a w hl s hfa hfd hdf hrest h
    have hall : ∀ i, i < ops.toList.length → i ∈ La := nodup_all s.ndA hl.lt (by omega)
    have hnone : Region.ready .any ops listed = [] := by
      rw [List.eq_nil_iff_forall_not_mem]
      intro i hi
      obtain ⟨o, ho, hni, _⟩ := (ready_mem hl).1 hi
      exact hni (hall i (lt_of_get ho))
    refine ⟨hnone, ?_⟩
    have hfd0 : fd = 0 := by
      have h1 := nodup_length s.ndA (fun i hi => s.ltD i (s.sub i hi))
      have h2 : La.length ≤ Ld.length := by
        have := nodup_length (N := ops.toList.length) s.ndD s.ltD
        have h3 : ops.toList.length ≤ Ld.length := by
          have := nodup_length (N := Ld.length) (l := List.range Ld.length) List.nodup_range (by simp)
          refine Classical.byContradiction fun hc => ?_
          have hr : ∀ i, i < ops.toList.length → i ∈ Ld := fun i hi => s.sub i (hall i hi)
          have key : ∀ (N : Nat) (l : List Nat), l.Nodup → (∀ i, i < N → i ∈ l) → N ≤ l.length := by
            intro N
            induction N with
            | zero => intro l _ _; omega
            | succ N ih =>
              intro l hn hm
              have h4 := ih (l.erase N) (hn.erase N) (fun i hi => (hn.mem_erase_iff).2 ⟨by omega, hm i (by omega)⟩)
              rw [List.length_erase_of_mem (hm N (by omega))] at h4
              have : 0 < l.length := List.length_pos_of_mem (hm N (by omega))
              omega
          exact hc (key _ _ s.ndD hr)
        omega
      omega
    subst hfd0
    refine hK env a w ⟨s.size, fun t v hv => s.agree t v hv fun p o hp _ _ => hall p (lt_of_get hp)⟩ hdf hrest s.same h
  | succ fa ih =>
    intro fd listed Ld La rd env a w hl s hfa hfd hdf hrest h
    obtain ⟨fd, env, Ld, rd, s, hfd, h, hnone⟩ := Sim.saturate hreg fd env Ld rd s hfd h
    refine ⟨fun hr => ?_, fun i hi => ?_⟩
    · -- nothing ready: all is done
      exfalso
      have hnot : ∀ i, i < ops.toList.length → i ∈ La := by
        intro i
        induction i using Nat.strongRecOn with
        | _ i ihi =>
          intro hi
          refine Classical.byContradiction fun hc => ?_
          have ho : ops.toList[i]? = some ops.toList[i] := List.getElem?_eq_getElem hi
          have : i ∈ Region.ready .any ops listed := (ready_mem hl).2 ⟨_, ho, hc, fun k hk => by
            have hk1 := hreg.back i _ ho k hk
            exact ihi k hk1 (by omega)⟩
          rw [hr] at this
          cases this
      have key : ∀ (N : Nat) (l : List Nat), l.Nodup → (∀ i, i < N → i ∈ l) → N ≤ l.length := by
        intro N
        induction N with
        | zero => intro l _ _; omega
        | succ N ih =>
          intro l hn hm
          have h4 := ih (l.erase N) (hn.erase N) (fun i hi => (hn.mem_erase_iff).2 ⟨by omega, hm i (by omega)⟩)
          rw [List.length_erase_of_mem (hm N (by omega))] at h4
          have : 0 < l.length := List.length_pos_of_mem (hm N (by omega))
          omega
      have := key _ _ s.ndA hnot
      omega
    · obtain ⟨o, ho, hni, hall⟩ := (ready_mem hl).1 hi
      have hlt := lt_of_get ho
      have ho' : ops[i]? = some o := by rw [← Array.getElem?_toList]; exact ho
      have hmem : o ∈ ops.toList := List.mem_of_getElem? ho
      have hl' := hl.set hlt
      have hclA : ∀ j p, ops.toList[j]? = some p → j ∈ i :: La → ∀ k ∈ aft p, k ∈ i :: La := by
        intro j p hp hj k hk
        rcases List.mem_cons.1 hj with e | e
        · subst e; rw [ho] at hp; cases hp; simp [hall k hk]
        · simp [s.clA j p hp e k hk]
      have hsame : ∀ v, SameBut (dsts ops.toList) tm0 (a.put o.dst v).tmps := fun v t ht => by
        rw [put_get_other fun e => ht (mem_dsts hmem e)]; exact s.same t ht
      unfold wpOp
      simp only [ho']
      by_cases hiD : i ∈ Ld
      · -- the reading has done it
        obtain ⟨envq, hd, hgk, hlook, hval⟩ := s.held i o ho hiD hni
        have hag : ∀ t ∈ looksT ops.toList o, ∀ v, envq t = some v → a.tmps[t]? = some v := by
          intro t ht v hv
          obtain ⟨h1, h2⟩ := hlook t ht v hv
          by_cases hex : ∃ p op, ops.toList[p]? = some op ∧ op.dst = some t ∧ p ∈ aft o
          · obtain ⟨p, op, hp, hpd, hpa⟩ := hex
            refine s.agree t v (h1 ⟨p, op, hp, hpd, hpa⟩) fun p' op' hp' hpd' _ => ?_
            by_cases e : p' = p
            · subst e; exact hall p' hpa
            · exact absurd hpd' (hreg.one p' op' p op t hp' hp e hpd)
          · exact h2 hex
        have hw : Region.wanted o (yielded ops a.tmps) = wantedE ops.toList envq o := wanted_eq hgk fun j want d v hg hdd hv => hag d (looksT_guard hg hdd) v hv
        have step : ∀ v, (∀ d, o.dst = some d → env d = some v) → wpAny P .any ops Q fa (listed.setIfInBounds i true) (a.put o.dst v) w := by
          intro v hv
          refine ih fd _ Ld (i :: La) rd env _ w hl' ?_ (by rw [List.length_cons]; omega) hfd (by rw [put_defers']; exact hdf) hrest h
          refine ⟨by rw [put_size, s.size], fun j hj => ?_, s.clD, hclA, s.ltD, s.ndD, List.nodup_cons.2 ⟨hni, s.ndA⟩, s.rdIn, hsame v, ?_, ?_⟩
          · rcases List.mem_cons.1 hj with e | e
            · subst e; exact hiD
            · exact s.sub j e
          · intro t u hu hA
            by_cases ht : o.dst = some t
            · rw [hv t ht] at hu; cases hu
              rw [ht]
              exact put_get_same (by rw [s.size]; rw [ht] at hd; exact okDst_lt hd)
            · rw [put_get_other ht]
              refine s.agree t u hu fun p op hp hpd hpD => ?_
              have hpi : p ≠ i := fun e => by subst e; rw [ho] at hp; cases hp; exact ht hpd
              rcases List.mem_cons.1 (hA p op hp hpd hpD) with e | e
              · exact absurd e hpi
              · exact e
          · intro q2 o2 ho2 hq2 hq2A
            have hq2i : q2 ≠ i := fun e => hq2A (by simp [e])
            have hq2A' : q2 ∉ La := fun e => hq2A (by simp [e])
            obtain ⟨envq2, h1, h2, h3, h4⟩ := s.held q2 o2 ho2 hq2 hq2A'
            refine ⟨envq2, h1, h2, fun t ht u hu => ⟨(h3 t ht u hu).1, fun hno => ?_⟩, h4⟩
            rw [put_get_other]
            · exact (h3 t ht u hu).2 hno
            · intro e
              rcases hreg.look q2 o2 i o t ho2 ho hq2i e ht with h5 | h5
              · exact hno ⟨i, o, ho, e, h5⟩
              · exact hq2A' (hall q2 h5.1)
        rcases hval with ⟨hb, hquiet, ⟨K', hk, hk'⟩, _⟩ | ⟨hb, hk⟩
        · rw [hw, hb, if_pos rfl]
          obtain ⟨v, kv, hr⟩ := denQ_ok hk
          refine .inl ?_
          unfold Oper.wp
          rw [hr a.eval w (agree_of fun t u hx hu => hag t (looksT_op hx) u hu) rfl, Oper.upon_value]
          exact step v fun d e => hk' d e v kv
        · rw [hw, hb, if_neg (by simp)]
          exact step undef hk
      · -- a loud one, in both at once
        have hallD : ∀ k ∈ aft o, k ∈ Ld := fun k hk => s.sub k (hall k hk)
        have hfd1 : ∃ f, fd = f + 1 := by
          cases fd with
          | zero => exact absurd (nodup_all s.ndD s.ltD (by omega) i hlt) hiD
          | succ f => exact ⟨f, rfl⟩
        obtain ⟨f, rfl⟩ := hfd1
        unfold denAny at h
        simp only [hnone] at h
        have hrdy : readyI Ld (i, o) = true := by
          simp only [readyI, Bool.and_eq_true, Bool.not_eq_true', elemN_false, List.all_eq_true, elemN_iff]
          exact ⟨hiD, hallD⟩
        have hin : (i, o) ∈ louds (zipI ops.toList 0) Ld := List.mem_filter.2 ⟨zipI_mem0.2 ho, hrdy⟩
        have hloud : quietOp o.op = false := by
          rw [← Bool.not_eq_true]
          intro hq
          have := (List.find?_eq_none.1 hnone) (i, o) (zipI_mem0.2 ho)
          simp [hq, hrdy] at this
        have hf := allL_mem h hin
        have hag : ∀ t ∈ looksT ops.toList o, ∀ v, env t = some v → a.tmps[t]? = some v := by
          intro t ht v hv
          refine s.agree t v hv fun p op hp hpd hpD => ?_
          have hpi : p ≠ i := fun e => hiD (e ▸ hpD)
          rcases hreg.look i o p op t ho hp (fun e => hpi e.symm) hpd ht with h5 | h5
          · exact hall p h5
          · exact absurd (s.clD p op hp hpD i h5.1) hiD
        obtain ⟨hgk, hg⟩ := denG_spec hf
        have hw : Region.wanted o (yielded ops a.tmps) = wantedE ops.toList env o := wanted_eq hgk fun j want d v hg hdd hv => hag d (looksT_guard hg hdd) v hv
        have step : ∀ v w', okDst n o.dst = true → Rest w w' →
            recheck P (env.put o.dst v) (hp w') (rd.filter fun q => !elemN (ancs rzs (aft o)) q.1)
              (denAny P n ops.toList (zipI ops.toList 0) rzs f (i :: Ld) (rd.filter fun q => !elemN (ancs rzs (aft o)) q.1) (env.put o.dst v) (hp w') K) →
            wpAny P .any ops Q fa (listed.setIfInBounds i true) (a.put o.dst v) w' := by
          intro v w' hd hr hk
          obtain ⟨hk, hre⟩ := recheck_spec hk
          refine ih f _ (i :: Ld) (i :: La) _ (env.put o.dst v) _ w' hl' ?_ (by rw [List.length_cons]; omega) (by rw [List.length_cons]; omega) (by rw [put_defers']; exact hdf) (hrest.trans hr) hk
          refine ⟨by rw [put_size, s.size], fun j hj => ?_, ?_, hclA, ?_, List.nodup_cons.2 ⟨hiD, s.ndD⟩, List.nodup_cons.2 ⟨hni, s.ndA⟩, ?_, hsame v, ?_, ?_⟩
          · rcases List.mem_cons.1 hj with e | e
            · subst e; simp
            · simp [s.sub j e]
          · intro j p hp hj k hk
            rcases List.mem_cons.1 hj with e | e
            · subst e; rw [ho] at hp; cases hp; simp [hallD k hk]
            · simp [s.clD j p hp e k hk]
          · intro j hj
            rcases List.mem_cons.1 hj with e | e
            · subst e; exact hlt
            · exact s.ltD j e
          · intro p hp
            have := (List.mem_filter.1 hp).1
            exact ⟨(s.rdIn p this).1, by simp [(s.rdIn p this).2]⟩
          · intro t u hu hA
            by_cases ht : o.dst = some t
            · rw [ht, env_put_same] at hu; cases hu
              rw [ht]
              exact put_get_same (by rw [s.size]; rw [ht] at hd; exact okDst_lt hd)
            · rw [env_put_other ht] at hu
              rw [put_get_other ht]
              refine s.agree t u hu fun p op hp hpd hpD => ?_
              have hpi : p ≠ i := fun e => by subst e; rw [ho] at hp; cases hp; exact ht hpd
              rcases List.mem_cons.1 (hA p op hp hpd (by simp [hpD])) with e | e
              · exact absurd e hpi
              · exact e
          · intro q2 o2 ho2 hq2 hq2A
            have hq2i : q2 ≠ i := fun e => hq2A (by simp [e])
            have hq2A' : q2 ∉ La := fun e => hq2A (by simp [e])
            have hq2D : q2 ∈ Ld := by
              rcases List.mem_cons.1 hq2 with e | e
              · exact absurd e hq2i
              · exact e
            obtain ⟨envq2, h1, h2, h3, h4⟩ := s.held q2 o2 ho2 hq2D hq2A'
            have hdst : ∀ d, o2.dst = some d → o.dst ≠ some d := fun d e1 e2 => hreg.one q2 o2 i o d ho2 ho hq2i e2 e1
            have hlk : ∀ t ∈ looksT ops.toList o2, o.dst ≠ some t := by
              intro t ht e
              rcases hreg.look q2 o2 i o t ho2 ho hq2i e ht with h5 | h5
              · exact hiD (s.clD q2 o2 ho2 hq2D i h5)
              · exact hq2A' (hall q2 h5.1)
            refine ⟨envq2, h1, h2, fun t ht u hu => ⟨fun hex => ?_, fun hno => ?_⟩, ?_⟩
            · rw [env_put_other (hlk t ht)]; exact (h3 t ht u hu).1 hex
            · rw [put_get_other (hlk t ht)]; exact (h3 t ht u hu).2 hno
            · rcases h4 with ⟨hb, hqq, ⟨K', hkq, hkq'⟩, hrd⟩ | ⟨hb, hkq⟩
              · refine .inl ⟨hb, hqq, ?_, fun hrr => ?_⟩
                · cases hrr : readOp P o2.op
                  · exact ⟨K', denQ_any hrr hkq, fun d e1 u hu => by rw [env_put_other (hdst d e1)]; exact hkq' d e1 u hu⟩
                  · obtain ⟨hr1, hr2⟩ := hrd hrr
                    have hnot : q2 ∉ ancs rzs (aft o) := fun e => hq2A' (ancs_sub s.clA hrz hall q2 e)
                    have hin2 : (q2, o2) ∈ rd.filter fun q => !elemN (ancs rzs (aft o)) q.1 := List.mem_filter.2 ⟨hr1, by simp [elemN_false.2 hnot]⟩
                    obtain ⟨K2, hk2, hk2'⟩ := hre (q2, o2) hin2
                    refine ⟨K2, denQ_congr hrr (fun x hx => ?_) hk2, fun d e1 u hu => hk2' d e1 u hu⟩
                    cases x with
                    | tmp t =>
                      show (env.put o.dst v) t = envq2 t
                      rw [env_put_other (hlk t (looksT_op hx))]
                      exact hr2 t (looksT_op hx)
                    | _ => rfl
                · obtain ⟨hr1, hr2⟩ := hrd hrr
                  have hnot : q2 ∉ ancs rzs (aft o) := fun e => hq2A' (ancs_sub s.clA hrz hall q2 e)
                  refine ⟨List.mem_filter.2 ⟨hr1, by simp [elemN_false.2 hnot]⟩, fun t ht => ?_⟩
                  rw [env_put_other (hlk t ht)]
                  exact hr2 t ht
              · exact .inr ⟨hb, fun d e1 => by rw [env_put_other (hdst d e1)]; exact hkq d e1⟩
        rcases hg with ⟨hb, hO⟩ | ⟨hb, hd, hk⟩
        · rw [hw, hb, if_pos rfl]
          obtain ⟨hd, hV⟩ := denO_spec hO
          exact .inl (denV_wp hV (agree_of fun t u hx hu => hag t (looksT_op hx) u hu) fun v w' hr k => step v w' hd hr k)
        · rw [hw, hb, if_neg (by simp)]
          exact step undef w hd (.refl w) hk

theorem denR_wp {id : Nat} {draw : Bool} {env : Env} {a : Act} {w : World} (hm : P.follows .mixedOrders = true) (hf : Fits n a.tmps env) (h : denR P n ops.toList draw env (hp w) K)
    (hK : ∀ env' a' w', Fits n a'.tmps env' → a'.defers = a.defers → Rest w w' → SameBut (dsts ops.toList) a.tmps a'.tmps → K env' (hp w') → Q .normal a' w') :
    (Code.region id ops draw).wp P Q a w := by
  unfold denR at h
  cases draw
  · rw [cond_false] at h
    refine wp_region ?_
    rw [List.range_eq_range']
    have := denSeq_wp (Q := Q) ops.toList 0 env a w (fun j => by rw [Nat.zero_add]) hf h hK
    rw [Array.length_toList] at this
    exact this
  · rw [cond_true] at h
    cases hr : regOk P ops.toList
    · simp [hr] at h
    · rw [hr, cond_true] at h
      refine wp_region_any hm ?_
      have hreg := regOk_spec hr
      have hL : Lists ops.toList (Array.replicate ops.size false) [] := by
        refine ⟨by simp, fun i hi => ?_, fun i hi => by cases hi⟩
        have : i < ops.size := by simpa using hi
        simp [this]
      refine any_sound (K := K) (rzs := (zipI ops.toList 0).reverse) hreg (fun p hp => zipI_mem0.1 (by simpa using hp)) a.tmps a.defers { w with drawn := w.drawn + 1 } (fun env' a' w' hf' hd hr hs k => ?_) ops.size ops.toList.length _ [] [] [] env a _ hL
        ⟨hf.size, (fun i hi => by cases hi), (fun i o _ hi => by cases hi), (fun i o _ hi => by cases hi), (fun i hi => by cases hi), List.nodup_nil, List.nodup_nil, (fun p hp => by cases hp), (fun _ _ => rfl),
          (fun t v hv _ => hf.at_ t v hv), (fun q o _ hq => by cases hq)⟩ (by simp) (by simp) rfl (.refl _) h
      exact hK env' a' w' hf' hd ⟨hr.os, hr.tape, hr.output, hr.size⟩ hs k

end any

end Go.Proofs.Ytohlnmenghbgbaa
