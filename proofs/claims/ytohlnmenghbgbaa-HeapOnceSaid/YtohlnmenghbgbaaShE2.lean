/- That the shallow reading of a function's body is the model's. No condition. -/
import Derived.Test.YtohlnmenghbgbaaShE
namespace Go.Proofs.Ytohlnmenghbgbaa
set_option linter.unusedSimpArgs false
set_option linter.unusedVariables false
open Go

variable {P : Program} {n : Nat}

theorem asB_spec' {v : Value} {K : Bool → Prop} (h : asB v K) : ∃ b, v = .bool b ∧ K b := asB_spec h
theorem asStr_spec {v : Value} {K : ByteArray → Prop} (h : asStr v K) : ∃ b, v = .string b ∧ K b := by
  unfold asStr at h
  split at h
  · exact ⟨_, rfl, h⟩
  · exact h.elim
theorem asP_spec {v : Value} {K : Option Addr → Prop} (h : asP v K) : ∃ b, v = .pointer b ∧ K b := by
  unfold asP at h
  split at h
  · exact ⟨_, rfl, h⟩
  · exact h.elim
theorem asI_mk {k : IntKind} {m : Int} {K : Int → Prop} (h : K m) : asI k (.int k m) K := by
  show cond (kindEq k k) _ _
  rw [kindEq_refl, cond_true]
  exact h

/-- What stands in a relation made of a reading is the reading. -/
theorem appP_curry : ∀ {ls : List Leaf} {f : List Value → Hp → Prop} {vs : List Value} {H : Hp}, vs.length = ls.length → appP ls (curryP ls f) vs H → f vs H := by
  intro ls
  induction ls with
  | nil =>
    intro f vs H hl h
    cases vs with
    | nil => exact h
    | cons v vs => simp at hl
  | cons l ls ih =>
    intro f vs H hl h
    cases vs with
    | nil => simp at hl
    | cons v vs =>
      have hl' : vs.length = ls.length := by simpa using hl
      cases l
      case int k => obtain ⟨m, rfl, h'⟩ := asI_spec h; exact ih (f := fun vs => f (.int k m :: vs)) hl' h'
      case bool => obtain ⟨m, rfl, h'⟩ := asB_spec h; exact ih (f := fun vs => f (.bool m :: vs)) hl' h'
      case str => obtain ⟨m, rfl, h'⟩ := asStr_spec h; exact ih (f := fun vs => f (.string m :: vs)) hl' h'
      case ptr => obtain ⟨m, rfl, h'⟩ := asP_spec h; exact ih (f := fun vs => f (.pointer m :: vs)) hl' h'
      case sl => obtain ⟨p, l, c, rfl, h'⟩ := asSl_spec h; exact ih (f := fun vs => f (.slice p l c :: vs)) hl' h'
      case map => obtain ⟨m, rfl, h'⟩ := asM_spec h; exact ih (f := fun vs => f (.map m :: vs)) hl' h'
      case any => exact ih (f := fun vs => f (v :: vs)) hl' h

/-- A value's place among a relation's is of its type. -/
def fitLs : List Leaf → List Value → Prop
  | [], [] => True
  | .int k :: l, v :: vs => (∃ m, v = .int k m) ∧ fitLs l vs
  | .bool :: l, v :: vs => (∃ m, v = .bool m) ∧ fitLs l vs
  | .str :: l, v :: vs => (∃ m, v = .string m) ∧ fitLs l vs
  | .ptr :: l, v :: vs => (∃ m, v = .pointer m) ∧ fitLs l vs
  | .sl :: l, v :: vs => (∃ p a c, v = .slice p a c) ∧ fitLs l vs
  | .map :: l, v :: vs => (∃ m, v = .map m) ∧ fitLs l vs
  | .any :: l, _ :: vs => fitLs l vs
  | _, _ => False

theorem appP_fit : ∀ {ls : List Leaf} {R : Pr ls} {vs : List Value} {H : Hp}, vs.length = ls.length → appP ls R vs H → fitLs ls vs := by
  intro ls
  induction ls with
  | nil => intro R vs H hl h; cases vs with | nil => trivial | cons v vs => simp at hl
  | cons l ls ih =>
    intro R vs H hl h
    cases vs with
    | nil => simp at hl
    | cons v vs =>
      have hl' : vs.length = ls.length := by simpa using hl
      cases l
      case int k => obtain ⟨m, rfl, h'⟩ := asI_spec h; exact ⟨⟨m, rfl⟩, ih hl' h'⟩
      case bool => obtain ⟨m, rfl, h'⟩ := asB_spec h; exact ⟨⟨m, rfl⟩, ih hl' h'⟩
      case str => obtain ⟨m, rfl, h'⟩ := asStr_spec h; exact ⟨⟨m, rfl⟩, ih hl' h'⟩
      case ptr => obtain ⟨m, rfl, h'⟩ := asP_spec h; exact ⟨⟨m, rfl⟩, ih hl' h'⟩
      case sl => obtain ⟨p, l, c, rfl, h'⟩ := asSl_spec h; exact ⟨⟨p, l, c, rfl⟩, ih hl' h'⟩
      case map => obtain ⟨m, rfl, h'⟩ := asM_spec h; exact ⟨⟨m, rfl⟩, ih hl' h'⟩
      case any => exact ih hl' h

theorem fit_length : ∀ {ls : List Leaf} {vs : List Value}, fitLs ls vs → vs.length = ls.length := by
  intro ls
  induction ls with
  | nil => intro vs h; cases vs with | nil => rfl | cons v vs => exact h.elim
  | cons l ls ih =>
    intro vs h
    cases vs with
    | nil => cases l <;> exact h.elim
    | cons v vs => cases l <;> first | (rw [List.length_cons, List.length_cons, ih h.2]) | (rw [List.length_cons, List.length_cons, ih (vs := vs) h])

theorem allP_fit : ∀ {ls : List Leaf} {K : List Value → Prop} {vs : List Value}, allP ls K → fitLs ls vs → K vs := by
  intro ls
  induction ls with
  | nil => intro K vs h hf; cases vs with | nil => exact h | cons v vs => exact hf.elim
  | cons l ls ih =>
    intro K vs h hf
    cases vs with
    | nil => cases l <;> exact hf.elim
    | cons v vs =>
      cases l
      case int k => obtain ⟨⟨m, rfl⟩, hf⟩ := hf; exact ih (K := fun vs => K (.int k m :: vs)) (h m) hf
      case bool => obtain ⟨⟨m, rfl⟩, hf⟩ := hf; exact ih (K := fun vs => K (.bool m :: vs)) (h m) hf
      case str => obtain ⟨⟨m, rfl⟩, hf⟩ := hf; exact ih (K := fun vs => K (.string m :: vs)) (h m) hf
      case ptr => obtain ⟨⟨m, rfl⟩, hf⟩ := hf; exact ih (K := fun vs => K (.pointer m :: vs)) (h m) hf
      case sl => obtain ⟨⟨p, a, c, rfl⟩, hf⟩ := hf; exact ih (K := fun vs => K (.slice p a c :: vs)) (h p a c) hf
      case map => obtain ⟨⟨m, rfl⟩, hf⟩ := hf; exact ih (K := fun vs => K (.map m :: vs)) (h m) hf
      case any => exact ih (K := fun vs => K (v :: vs)) (h v) hf

theorem allP_intro : ∀ {ls : List Leaf} {K : List Value → Prop}, (∀ vs, fitLs ls vs → K vs) → allP ls K := by
  intro ls
  induction ls with
  | nil => intro K h; exact h [] trivial
  | cons l ls ih =>
    intro K h
    cases l
    case int k => exact fun m => ih fun vs hf => h _ ⟨⟨m, rfl⟩, hf⟩
    case bool => exact fun m => ih fun vs hf => h _ ⟨⟨m, rfl⟩, hf⟩
    case str => exact fun m => ih fun vs hf => h _ ⟨⟨m, rfl⟩, hf⟩
    case ptr => exact fun m => ih fun vs hf => h _ ⟨⟨m, rfl⟩, hf⟩
    case sl => exact fun p a c => ih fun vs hf => h _ ⟨⟨p, a, c, rfl⟩, hf⟩
    case map => exact fun m => ih fun vs hf => h _ ⟨⟨m, rfl⟩, hf⟩
    case any => exact fun m => ih fun vs hf => h _ hf

theorem curry_app : ∀ {ls : List Leaf} {f : List Value → Hp → Prop} {vs : List Value} {H : Hp}, fitLs ls vs → f vs H → appP ls (curryP ls f) vs H := by
  intro ls
  induction ls with
  | nil => intro f vs H hf h; cases vs with | nil => exact h | cons v vs => exact hf.elim
  | cons l ls ih =>
    intro f vs H hf h
    cases vs with
    | nil => cases l <;> exact hf.elim
    | cons v vs =>
      cases l
      case int k => obtain ⟨⟨m, rfl⟩, hf⟩ := hf; exact asI_mk (ih (f := fun vs => f (.int k m :: vs)) hf h)
      case bool => obtain ⟨⟨m, rfl⟩, hf⟩ := hf; exact ih (f := fun vs => f (.bool m :: vs)) hf h
      case str => obtain ⟨⟨m, rfl⟩, hf⟩ := hf; exact ih (f := fun vs => f (.string m :: vs)) hf h
      case ptr => obtain ⟨⟨m, rfl⟩, hf⟩ := hf; exact ih (f := fun vs => f (.pointer m :: vs)) hf h
      case sl => obtain ⟨⟨p, a, c, rfl⟩, hf⟩ := hf; exact ih (f := fun vs => f (.slice p a c :: vs)) hf h
      case map => obtain ⟨⟨m, rfl⟩, hf⟩ := hf; exact ih (f := fun vs => f (.map m :: vs)) hf h
      case any => exact ih (f := fun vs => f (v :: vs)) hf h

theorem slotsE_spec {env : Env} : ∀ {g : List (Nat × Leaf)} {K : List Value → Prop}, slotsE env g K → ∃ vs, K vs ∧ vs.length = (g.map (·.2)).length ∧ ∀ i v, sigAt g vs i = some v → env i = some v := by
  intro g
  induction g with
  | nil => intro K h; exact ⟨[], h, rfl, fun i v hv => by simp [sigAt] at hv⟩
  | cons x g ih =>
    intro K h
    obtain ⟨d, l⟩ := x
    unfold slotsE at h
    split at h
    · rename_i u hu
      obtain ⟨vs, k, hl, hs⟩ := ih h
      refine ⟨u :: vs, k, by simp [hl], fun i v hv => ?_⟩
      unfold sigAt at hv
      by_cases hi : i = d
      · subst hi
        have : Nat.beq i i = true := by simp
        rw [this, cond_true] at hv
        rw [hu, hv]
      · have : Nat.beq i d = false := by rw [← Bool.not_eq_true]; exact fun e => hi (Nat.eq_of_beq_eq_true e)
        rw [this, cond_false] at hv
        exact hs i v hv
    · exact h.elim

theorem disj_spec {keep ws : List Nat} (h : disj keep ws = true) : ∀ i ∈ keep, i ∉ ws := by
  intro i hi hw
  unfold disj at h
  rw [List.all_eq_true] at h
  have := h i hw
  simp [elemN_iff.2 hi] at this

theorem Sig.ok_spec {s : Sig} {ws : List Nat} (h : s.ok ws = true) : disj s.keep ws = true ∧ nodupN (s.given.map (·.1)) = true := by
  unfold Sig.ok at h
  rwa [Bool.and_eq_true] at h

/-- The slots where ways meet. -/
theorem Fits.join {tm tm' : Array Value} {env env' : Env} {s : Sig} {ws : List Nat} {vs : List Value} (h : ∀ i ∈ s.keep, ∀ v, env i = some v → tm[i]? = some v) (h' : Fits n tm' env') (hs : SameBut ws tm tm') (hok : s.ok ws = true)
    (hv : ∀ i v, sigAt s.given vs i = some v → env' i = some v) : Fits n tm' (joinE env s vs) := by
  refine ⟨h'.size, fun i v hi => ?_⟩
  unfold joinE at hi
  split at hi
  · rename_i u hu
    cases hi
    exact h'.at_ i _ (hv i _ hu)
  · cases hk : elemN s.keep i
    · rw [hk, cond_false] at hi; cases hi
    · rw [hk, cond_true] at hi
      rw [hs i (disj_spec (Sig.ok_spec hok).1 i (elemN_iff.1 hk))]
      exact h i (elemN_iff.1 hk) v hi

theorem sigAt_mem : ∀ {g : List (Nat × Leaf)} {vs : List Value} {i : Nat} {v : Value}, sigAt g vs i = some v → i ∈ g.map (·.1) := by
  intro g
  induction g with
  | nil => intro vs i v h; simp [sigAt] at h
  | cons x g ih =>
    intro vs i v h
    obtain ⟨d, l⟩ := x
    cases vs with
    | nil => simp [sigAt] at h
    | cons u vs =>
      unfold sigAt at h
      by_cases hi : i = d
      · simp [hi]
      · have : Nat.beq i d = false := by rw [← Bool.not_eq_true]; exact fun e => hi (Nat.eq_of_beq_eq_true e)
        rw [this, cond_false] at h
        simp [ih h]

/-- The given slots, read off the run. -/
theorem slots_read {tm : Array Value} : ∀ {g : List (Nat × Leaf)} {vs : List Value}, nodupN (g.map (·.1)) = true → vs.length = g.length → (∀ i v, sigAt g vs i = some v → tm[i]? = some v) →
    (g.map fun x => tm.getD x.1 undef) = vs := by
  intro g
  induction g with
  | nil => intro vs _ hl _; cases vs with | nil => rfl | cons v vs => simp at hl
  | cons x g ih =>
    intro vs hn hl h
    obtain ⟨d, l⟩ := x
    cases vs with
    | nil => simp at hl
    | cons u vs =>
      simp only [List.map_cons, nodupN, Bool.and_eq_true, Bool.not_eq_true', elemN_false] at hn
      have hdd : Nat.beq d d = true := by simp
      have h1 : tm[d]? = some u := h d u (by simp [sigAt])
      have h2 : (g.map fun x => tm.getD x.1 undef) = vs := by
        refine ih hn.2 (by simpa using hl) fun i v hv => h i v ?_
        unfold sigAt
        have : i ≠ d := fun e => hn.1 (e ▸ sigAt_mem hv)
        have : Nat.beq i d = false := by rw [← Bool.not_eq_true]; exact fun e => this (Nat.eq_of_beq_eq_true e)
        rw [this, cond_false]
        exact hv
      rw [List.map_cons, h2]
      congr 1
      simp [h1]

theorem SameBut.mono {ws ws' : List Nat} {tm tm' : Array Value} (h : SameBut ws tm tm') (hs : ∀ i ∈ ws, i ∈ ws') : SameBut ws' tm tm' := fun t ht => h t fun e => ht (hs t e)
theorem SameBut.refl (ws : List Nat) (tm : Array Value) : SameBut ws tm tm := fun _ _ => rfl
theorem SameBut.trans {ws : List Nat} {a b c : Array Value} (h : SameBut ws a b) (k : SameBut ws b c) : SameBut ws a c := fun t ht => (k t ht).trans (h t ht)

/-- How the run ended, seen from the reading. -/
def Post (n : Nat) (ws : List Nat) (a0 : Act) (w0 : World) (Q : Exit → Env → Hp → Prop) (ex : Exit) (a : Act) (w : World) : Prop :=
  ∃ env, Fits n a.tmps env ∧ a.defers = a0.defers ∧ Rest w0 w ∧ SameBut ws a0.tmps a.tmps ∧ Q ex env (hp w)

theorem denC_wp (hm : P.follows .mixedOrders = true) : ∀ (c : Code) (ann : Ann) (env : Env) (Q : Exit → Env → Hp → Prop) (a : Act) (w : World), Fits n a.tmps env → denC P n c ann env (hp w) Q →
    c.wp P (Post n (writes c) a w Q) a w := by
  intro c
  induction c with
  | skip => intro ann env Q a w hf h; exact wp_skip ⟨env, hf, rfl, .refl w, .refl _ _, h⟩
  | region id ops draw =>
    intro ann env Q a w hf h
    refine denR_wp hm hf h fun env' a' w' hf' hd hr hs k => ⟨env', hf', hd, hr, hs, k⟩
  | seq x y ihx ihy =>
    intro ann env Q a w hf h
    refine wp_seq ?_
    unfold denC at h
    cases hc : ann.cut with
    | none =>
      simp only [hc] at h
      refine wp_mono (ihx ann.l env _ a w hf h) ?_
      rintro ex a1 w1 ⟨env1, hf1, hd1, hr1, hs1, hq⟩
      have hs1' : SameBut (writes (.seq x y)) a.tmps a1.tmps := hs1.mono fun i hi => by simp [writes, hi]
      cases ex with
      | normal =>
        refine wp_mono (ihy ann.r env1 Q a1 w1 hf1 hq) ?_
        rintro ex a2 w2 ⟨env2, hf2, hd2, hr2, hs2, hq2⟩
        exact ⟨env2, hf2, by rw [hd2, hd1], hr1.trans hr2, hs1'.trans (hs2.mono fun i hi => by simp [writes, hi]), hq2⟩
      | _ => exact ⟨env1, hf1, hd1, hr1, hs1', hq⟩
    | some s =>
      simp only [hc] at h
      cases hok : s.ok (writes x)
      · simp [hok] at h
      · rw [hok, cond_true] at h
        have h := h (curryP s.ls fun vs H' => denC P n y ann.r (joinE env s vs) H' Q) (allP_intro fun vs hfit H' hd => curry_app hfit hd)
        refine wp_mono (ihx ann.l env _ a w hf h) ?_
        rintro ex a1 w1 ⟨env1, hf1, hd1, hr1, hs1, hq⟩
        have hs1' : SameBut (writes (.seq x y)) a.tmps a1.tmps := hs1.mono fun i hi => by simp [writes, hi]
        cases ex with
        | normal =>
          obtain ⟨vs, k, hl, hv⟩ := slotsE_spec hq
          have hfj : Fits n a1.tmps (joinE env s vs) := Fits.join (fun i _ => hf.at_ i) hf1 hs1 hok hv
          have k' := appP_curry hl k
          refine wp_mono (ihy ann.r _ Q a1 w1 hfj k') ?_
          rintro ex a2 w2 ⟨env2, hf2, hd2, hr2, hs2, hq2⟩
          exact ⟨env2, hf2, by rw [hd2, hd1], hr1.trans hr2, hs1'.trans (hs2.mono fun i hi => by simp [writes, hi]), hq2⟩
        | _ => exact ⟨env1, hf1, hd1, hr1, hs1', hq⟩
  | cond c x y ihx ihy =>
    intro ann env Q a w hf h
    obtain ⟨v, hv, h⟩ := ev1_get h
    obtain ⟨b, rfl, h⟩ := asB_spec h
    have he : a.eval c = .bool b := (agree_of (xs := [c]) fun t u _ hu => hf.at_ t u hu) c _ (by simp) hv
    cases b
    · refine wp_cond_false he (wp_mono (ihy ann.r env Q a w hf h) ?_)
      rintro ex a2 w2 ⟨env2, hf2, hd2, hr2, hs2, hq2⟩
      exact ⟨env2, hf2, hd2, hr2, hs2.mono fun i hi => by simp [writes, hi], hq2⟩
    · refine wp_cond_true he (wp_mono (ihx ann.l env Q a w hf h) ?_)
      rintro ex a2 w2 ⟨env2, hf2, hd2, hr2, hs2, hq2⟩
      exact ⟨env2, hf2, hd2, hr2, hs2.mono fun i hi => by simp [writes, hi], hq2⟩
  | block id c ih =>
    intro ann env Q a w hf h
    refine wp_block (wp_mono (ih ann.b env _ a w hf h) ?_)
    rintro ex a2 w2 ⟨env2, hf2, hd2, hr2, hs2, hq2⟩
    cases ex with
    | exit j =>
      show ite (j = id) _ _
      by_cases e : j = id
      · subst e
        have : Nat.beq j j = true := by simp
        simp only [inBlk, this, cond_true] at hq2
        rw [if_pos rfl]
        exact ⟨env2, hf2, hd2, hr2, hs2, hq2⟩
      · have : Nat.beq j id = false := by rw [← Bool.not_eq_true]; exact fun e' => e (Nat.eq_of_beq_eq_true e')
        simp only [inBlk, this, cond_false] at hq2
        rw [if_neg e]
        exact ⟨env2, hf2, hd2, hr2, hs2, hq2⟩
    | _ => exact ⟨env2, hf2, hd2, hr2, hs2, hq2⟩
  | loop c ih =>
    intro ann env Q a w hf h
    unfold denC at h
    split at h
    · rename_i s b
      cases hok : s.ok (writes c)
      · simp [hok] at h
      · rw [hok, cond_true] at h
        obtain ⟨I, m, h0, hround⟩ := h
        have hnd := (Sig.ok_spec hok).2
        have hlen : s.ls.length = s.given.length := by simp [Sig.ls]
        have rd : ∀ {a1 : Act} {vs : List Value}, fitLs s.ls vs → Fits n a1.tmps (joinE env s vs) → (s.given.map fun x => a1.tmps.getD x.1 undef) = vs := by
          intro a1 vs hfit hf1
          refine slots_read hnd (by rw [fit_length hfit, hlen]) fun i v hv => hf1.at_ i v ?_
          unfold joinE
          rw [hv]
        have hkeep : ∀ i ∈ s.keep, ∀ v, env i = some v → a.tmps[i]? = some v := fun i _ => hf.at_ i
        refine wp_loop (I := fun a1 w1 => ∃ vs, a1.defers = a.defers ∧ Rest w w1 ∧ SameBut (writes (.loop c)) a.tmps a1.tmps ∧ Fits n a1.tmps (joinE env s vs) ∧ fitLs s.ls vs ∧ appP s.ls I vs (hp w1))
          (μ := fun a1 w1 => appM s.ls m (s.given.map fun x => a1.tmps.getD x.1 undef) (hp w1)) ?_ ?_
        · obtain ⟨vs, k, hl, hv⟩ := slotsE_spec h0
          exact ⟨vs, rfl, .refl w, .refl _ _, Fits.join hkeep hf (SameBut.refl (writes c) _) hok hv, appP_fit hl k, k⟩
        · rintro a1 w1 ⟨vs, hd1, hr1, hs1, hf1, hfit, k⟩
          have hb := allP_fit hround hfit (hp w1) k
          refine wp_mono (ih b _ _ a1 w1 hf1 hb) ?_
          rintro ex a2 w2 ⟨env2, hf2, hd2, hr2, hs2, hq2⟩
          have hs12 : SameBut (writes (.loop c)) a.tmps a2.tmps := hs1.trans (hs2.mono fun i hi => hi)
          cases ex with
          | normal =>
            obtain ⟨vs', ⟨k', hlt⟩, hl, hv⟩ := slotsE_spec hq2
            have hfit' := appP_fit hl k'
            have hfj : Fits n a2.tmps (joinE env s vs') := Fits.join hkeep hf2 hs12 hok hv
            refine ⟨⟨vs', by rw [hd2, hd1], hr1.trans hr2, hs12, hfj, hfit', k'⟩, ?_⟩
            show appM _ _ _ _ < appM _ _ _ _
            rw [rd hfit' hfj, rd hfit hf1]
            exact hlt
          | _ => exact ⟨env2, hf2, by rw [hd2, hd1], hr1.trans hr2, hs12, hq2⟩
    · exact h.elim
  | rangeFunc f ps as b ih1 ih2 => intro ann env Q a w hf h; exact h.elim
  | exit id => intro ann env Q a w hf h; exact wp_exit ⟨env, hf, rfl, .refl w, .refl _ _, h⟩
  | scope c ih =>
    intro ann env Q a w hf h
    refine wp_scope_straight (wp_mono (ih ann.b env _ a w hf h) ?_)
    rintro ex a2 w2 ⟨env2, hf2, hd2, hr2, hs2, hq2⟩
    cases ex <;> first | exact ⟨env2, hf2, hd2, hr2, hs2, hq2⟩ | exact hq2.elim
  | label l => intro ann env Q a w hf h; exact wp_label ⟨env, hf, rfl, .refl w, .refl _ _, h⟩
  | goto l => intro ann env Q a w hf h; exact wp_goto ⟨env, hf, rfl, .refl w, .refl _ _, h⟩
  | ret => intro ann env Q a w hf h; exact wp_ret ⟨env, hf, rfl, .refl w, .refl _ _, h⟩
  | refuse why => intro ann env Q a w hf h; exact h.elim


/-! ## A function -/

theorem resL_run {env : Env} {a : Act} {w : World} (hf : ∀ i v, env i = some v → a.tmps[i]? = some v) : ∀ {rs : List ResultVar} {K : List Value → Prop}, resL P env (hp w) rs K →
    ∃ vs, K vs ∧ (rs.mapM fun r => (match r with | .tmp t => pure (a.tmps.getD t undef) | .cell ad t => do loadVar t (← asAddr (a.tmps.getD ad undef)) : Sem Value)).run P w = .ok vs w := by
  intro rs
  induction rs with
  | nil => intro K h; exact ⟨[], h, rfl⟩
  | cons r rs ih =>
    intro K h
    cases r with
    | tmp t =>
      obtain ⟨v, hv, h⟩ := ev1_get h
      obtain ⟨vs, k, hr⟩ := ih h
      refine ⟨v :: vs, k, ?_⟩
      have e : a.tmps.getD t undef = v := by simp [hf t v hv]
      rw [List.mapM_cons]
      simp only [e, Sem.run_bind, Sem.run_pure, Result.andThen_ok, hr]
    | cell ad t =>
      obtain ⟨v, hv, h⟩ := ev1_get h
      obtain ⟨p, rfl, h⟩ := asA_spec h
      obtain ⟨u, h, hl⟩ := ldT_run h
      obtain ⟨vs, k, hr⟩ := ih h
      refine ⟨u :: vs, k, ?_⟩
      have e : a.tmps.getD ad undef = .pointer (some p) := by simp [hf ad _ hv]
      have e2 : (asAddr (.pointer (some p)) : Sem Addr) = pure p := rfl
      rw [List.mapM_cons]
      simp only [e, e2, Sem.run_bind, Sem.run_pure, Result.andThen_ok, hl w rfl, hr]

theorem resD_run {fn : Func} {env : Env} {a : Act} {w : World} {K : Value → Prop} (hf : ∀ i v, env i = some v → a.tmps[i]? = some v) (h : resD P fn.results.toList env (hp w) K) :
    ∃ v, K v ∧ (results fn a.tmps).run P w = .ok v w := by
  obtain ⟨vs, k, hr⟩ := resL_run (a := a) hf h
  have key : (results fn a.tmps).run P w = .ok (if h : vs.toArray.size = 1 then vs.toArray[0] else .tuple vs.toArray) w := by
    unfold results
    rw [Array.mapM_eq_mapM_toList]
    rw [Sem.run_bind, Sem.run_map]
    erw [hr]
    rfl
  rw [key]
  cases vs with
  | nil => exact ⟨_, k, rfl⟩
  | cons v vs =>
    cases vs with
    | nil => exact ⟨_, k, rfl⟩
    | cons u vs => exact ⟨_, k, by simp⟩

theorem denF_call {f : FuncId} {fn : Func} {ann : Ann} {args : List Value} {H : Hp} {K : Value → Hp → Prop} (hfn : P.funcs[f]? = some fn) (hm : P.follows .mixedOrders = true)
    (h : denF P fn ann args H K) : hcall P f ⟨args⟩ H K := by
  intro w hw
  subst hw
  unfold denF at h
  split at h
  · rename_i c hc
    cases hb : Nat.ble args.length fn.ntmps
    · simp [hb] at h
    · rw [hb, cond_true] at h
      have hle : args.length ≤ fn.ntmps := Nat.le_of_ble_eq_true hb
      refine calls_of_wp hfn hc ?_
      have hf : Fits fn.ntmps ((⟨args⟩ : Array Value) ++ Array.replicate (fn.ntmps - args.length) undef) (argE args) := by
        refine ⟨by simp; omega, fun i v hv => ?_⟩
        unfold argE at hv
        have hi : i < args.length := (List.getElem?_eq_some_iff.1 hv).1
        rw [Array.getElem?_append_left (by simpa using hi)]
        simpa using hv
      refine wp_mono (denC_wp hm c ann _ _ { tmps := (⟨args⟩ : Array Value) ++ Array.replicate (fn.ntmps - (⟨args⟩ : Array Value).size) undef, defers := [] } w hf h) ?_
      rintro ex a w' ⟨env, hf', hd, hr, hs, hq⟩
      cases ex <;> try exact hq.elim
      all_goals
        obtain ⟨v, k, hres⟩ := resD_run (P := P) (fn := fn) hf'.at_ hq
        exact ⟨hd, v, hres, v, rfl, hr, k⟩
  · exact h.elim

end Go.Proofs.Ytohlnmenghbgbaa
