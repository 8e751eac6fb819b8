/- That the shallow reading of an operation is the model's: the operations themselves. No condition. -/
import Derived.Test.YtohlnmenghbgbaaShC2
namespace Go.Proofs.Ytohlnmenghbgbaa
set_option linter.unusedSimpArgs false
set_option linter.unusedVariables false
open Go

variable {P : Program}

theorem nextC_spec {v : Value} {K : Value → Prop} (h : nextC v (K (.tuple #[.bool false])) fun k x => K (.tuple #[.bool true, k, x])) : K v := by
  unfold nextC at h
  split at h
  · exact h
  · exact h
  · exact h.elim

theorem evO_spec {env : Env} {ρ : Operand → Value} {xs : List Operand} {x : Option Operand} {K : Option Value → Prop} (ha : Agree env ρ xs) (hx : ∀ y, x = some y → y ∈ xs) (h : evO env x K) : K (x.map ρ) := by
  cases x with
  | none => exact h
  | some y => exact ev1_spec (K := fun v => K (some v)) ha (hx y rfl) h

theorem evParts_spec {env : Env} {ρ : Operand → Value} {xs : List Operand} {ps : List (Nat × Operand)} {K : List (Nat × Value) → Prop} (ha : Agree env ρ xs) (hx : ∀ p ∈ ps, p.2 ∈ xs) (h : evParts env ps K) :
    K (ps.map fun p => (p.1, ρ p.2)) := by
  induction ps generalizing K with
  | nil => exact h
  | cons p ps ih =>
    obtain ⟨i, x⟩ := p
    have h1 := ev1_spec (K := fun v => evParts env ps fun vs => K ((i, v) :: vs)) ha (hx (i, x) (by simp)) h
    exact ih (K := fun vs => K ((i, ρ x) :: vs)) (fun q hq => hx q (by simp [hq])) h1

theorem ev1_get {env : Env} {x : Operand} {K : Value → Prop} (h : ev1 env x K) : ∃ v, ev env x = some v ∧ K v := by
  unfold ev1 at h
  split at h
  · exact ⟨_, by assumption, h⟩
  · exact h.elim

theorem asB_spec {v : Value} {K : Bool → Prop} (h : asB v K) : ∃ b, v = .bool b ∧ K b := by
  unfold asB at h
  split at h
  · exact ⟨_, rfl, h⟩
  · exact h.elim

/-- What the environment says of the operands decides the run: one value, whatever run agrees with it. -/
theorem denQ_ok {env : Env} {o : Oper} {H : Hp} {K : Value → Prop} (h : denQ P env o H K) :
    ∃ v, K v ∧ ∀ (ρ : Operand → Value) w, Agree env ρ o.op.operands.toList → hp w = H → (execOp ρ o).run P w = .ok (.value v) w := by
  obtain ⟨dst, op, type, pos, after, guard⟩ := o
  unfold denQ at h
  cases op <;> simp only at h <;> try exact h.elim
  case move x =>
    obtain ⟨v, hv, k⟩ := ev1_get h
    exact ⟨v, k, fun ρ w ha _ => by simp [execOp, ha x v (by simp [Op.operands]) hv]⟩
  case assign x =>
    obtain ⟨v, hv, k⟩ := ev1_get h
    exact ⟨v, k, fun ρ w ha _ => by simp [execOp, ha x v (by simp [Op.operands]) hv]⟩
  case pick c x y =>
    obtain ⟨cv, hc, k⟩ := ev1_get h
    obtain ⟨b, rfl, k⟩ := asB_spec k
    cases b
    · obtain ⟨v, hv, k⟩ := ev1_get k
      exact ⟨v, k, fun ρ w ha _ => by simp [execOp, ha c _ (by simp [Op.operands]) hc, ha y v (by simp [Op.operands]) hv, asBool]⟩
    · obtain ⟨v, hv, k⟩ := ev1_get k
      exact ⟨v, k, fun ρ w ha _ => by simp [execOp, ha c _ (by simp [Op.operands]) hc, ha x v (by simp [Op.operands]) hv, asBool]⟩
  case nilCheck x =>
    obtain ⟨v, hv, k⟩ := ev1_get h
    unfold nilD at k
    split at k
    · rename_i p
      cases p with
      | none => exact k.elim
      | some a => exact ⟨_, k, fun ρ w ha _ => by simp [execOp, ha x _ (by simp [Op.operands]) hv]⟩
    · exact k.elim
  case binOp op t x y ty =>
    obtain ⟨a, hx, k⟩ := ev1_get h
    obtain ⟨b, hy, k⟩ := ev1_get k
    obtain ⟨v, k, hr⟩ := binD_run k
    refine ⟨v, k, fun ρ w ha hw => ?_⟩
    have e1 := ha x a (by simp [Op.operands]) hx
    have e2 := ha y b (by simp [Op.operands]) hy
    simp only [execOp, e1, e2]
    exact run_v (hr w hw)
  case unOp op t x =>
    obtain ⟨a, hx, k⟩ := ev1_get h
    obtain ⟨v, k, hr⟩ := unD_run (P := P) k
    refine ⟨v, k, fun ρ w ha hw => ?_⟩
    simp only [execOp, ha x a (by simp [Op.operands]) hx]
    exact run_v (hr w)
  case convert s d x =>
    obtain ⟨a, hx, k⟩ := ev1_get h
    obtain ⟨v, k, hr⟩ := convD_run k
    refine ⟨v, k, fun ρ w ha hw => ?_⟩
    simp only [execOp, ha x a (by simp [Op.operands]) hx]
    exact run_v (hr w hw)
  case extract x i =>
    obtain ⟨a, hx, k⟩ := ev1_get h
    obtain ⟨v, k, hr⟩ := extractD_run (P := P) k
    have k := asT_spec k
    refine ⟨v, k, fun ρ w ha hw => ?_⟩
    simp only [execOp, ha x a (by simp [Op.operands]) hx]
    exact run_v (hr w)
  case fieldAddr t x f =>
    obtain ⟨a, hx, k⟩ := ev1_get h
    obtain ⟨v, k, hr⟩ := fieldAddrD_run k
    refine ⟨v, k, fun ρ w ha hw => ?_⟩
    simp only [execOp, ha x a (by simp [Op.operands]) hx]
    exact run_v (hr w)
  case field t x f =>
    obtain ⟨a, hx, k⟩ := ev1_get h
    obtain ⟨v, k, hr⟩ := fieldD_run k
    refine ⟨v, k, fun ρ w ha hw => ?_⟩
    simp only [execOp, ha x a (by simp [Op.operands]) hx]
    exact run_v (hr w)
  case indexAddr t x i =>
    obtain ⟨a, hx, k⟩ := ev1_get h
    obtain ⟨b, hi, k⟩ := ev1_get k
    obtain ⟨v, k, hr⟩ := indexAddrD_run k
    refine ⟨v, k, fun ρ w ha hw => ?_⟩
    simp only [execOp, ha x a (by simp [Op.operands]) hx, ha i b (by simp [Op.operands]) hi]
    exact run_v (hr w)
  case index t x i =>
    obtain ⟨a, hx, k⟩ := ev1_get h
    obtain ⟨b, hi, k⟩ := ev1_get k
    obtain ⟨v, k, hr⟩ := indexD_run k
    refine ⟨v, k, fun ρ w ha hw => ?_⟩
    simp only [execOp, ha x a (by simp [Op.operands]) hx, ha i b (by simp [Op.operands]) hi]
    exact run_v (hr w hw)
  case slice t x lo hi mx =>
    obtain ⟨a, hx, k⟩ := ev1_get h
    have get : ∀ {y : Option Operand} {K : Option Value → Prop}, evO env y K → ∃ v, K v ∧ ∀ ρ : Operand → Value, (∀ z u, y = some z → ev env z = some u → ρ z = u) → y.map ρ = v := by
      intro y K hk
      cases y with
      | none => exact ⟨none, hk, fun _ _ => rfl⟩
      | some z =>
        obtain ⟨u, hu, k⟩ := ev1_get hk
        exact ⟨some u, k, fun ρ hρ => by simp [hρ z u rfl hu]⟩
    obtain ⟨l, k, hl⟩ := get k
    obtain ⟨h', k, hh⟩ := get k
    obtain ⟨m, k, hm⟩ := get k
    obtain ⟨v, k, hr⟩ := sliceD_run k
    refine ⟨v, k, fun ρ w ha hw => ?_⟩
    simp only [execOp, ha x a (by simp [Op.operands]) hx, hl ρ (fun z u e hz => ha z u (by simp [Op.operands, e]) hz), hh ρ (fun z u e hz => ha z u (by simp [Op.operands, e]) hz),
      hm ρ (fun z u e hz => ha z u (by simp [Op.operands, e]) hz)]
    exact run_v (hr w hw)
  case load t x =>
    obtain ⟨a, hx, k⟩ := ev1_get h
    obtain ⟨ad, rfl, k⟩ := asA_spec k
    obtain ⟨v, k, hr⟩ := ldT_run k
    refine ⟨v, k, fun ρ w ha hw => ?_⟩
    simp only [execOp, ha x _ (by simp [Op.operands]) hx]
    exact run_v (by simpa [Instr.loadAt, Instr.sureAddr] using hr w hw)
  case lookup t x i ok =>
    obtain ⟨a, hx, k⟩ := ev1_get h
    obtain ⟨b, hi, k⟩ := ev1_get k
    obtain ⟨v, hr, k⟩ := k
    refine ⟨v, asRes_spec k, fun ρ w ha hw => ?_⟩
    simp only [execOp, ha x a (by simp [Op.operands]) hx, ha i b (by simp [Op.operands]) hi]
    exact run_v (hr w hw)
  case build t parts =>
    have get : ∀ {ps : List (Nat × Operand)} {K : List (Nat × Value) → Prop}, evParts env ps K → ∃ vs, K vs ∧ ∀ ρ : Operand → Value, (∀ p ∈ ps, ∀ u, ev env p.2 = some u → ρ p.2 = u) → (ps.map fun p => (p.1, ρ p.2)) = vs := by
      intro ps
      induction ps with
      | nil => intro K hk; exact ⟨[], hk, fun _ _ => rfl⟩
      | cons p ps ih =>
        intro K hk
        obtain ⟨i, x⟩ := p
        obtain ⟨u, hu, k⟩ := ev1_get hk
        obtain ⟨vs, k, hvs⟩ := ih k
        exact ⟨(i, u) :: vs, k, fun ρ hρ => by simp [hρ (i, x) (by simp) u hu, hvs ρ (fun p hp => hρ p (by simp [hp]))]⟩
    obtain ⟨vs, k, hvs⟩ := get h
    obtain ⟨v, k, hr⟩ := buildD_run (ps := ⟨vs⟩) k
    refine ⟨v, k, fun ρ w ha hw => ?_⟩
    have e : (parts.map fun p => (p.1, ρ p.2)) = ⟨vs⟩ := by
      apply Array.toList_inj.1
      rw [Array.toList_map]
      exact hvs ρ (fun p hp u hu => ha p.2 u (by simp [Op.operands]; exact ⟨p.1, by simpa using hp⟩) hu)
    simp only [execOp]
    rw [show (parts.map fun x => match x with | (i, x) => (i, ρ x)) = (parts.map fun p => (p.1, ρ p.2)) from rfl, e]
    exact run_v (hr w)
  case makeFunc fn first cap =>
    have get : ∀ {ps : List Operand} {K : List Value → Prop}, evL env ps K → ∃ vs, K vs ∧ ∀ ρ : Operand → Value, (∀ p ∈ ps, ∀ u, ev env p = some u → ρ p = u) → ps.map ρ = vs := by
      intro ps
      induction ps with
      | nil => intro K hk; exact ⟨[], hk, fun _ _ => rfl⟩
      | cons x ps ih =>
        intro K hk
        obtain ⟨u, hu, k⟩ := ev1_get hk
        obtain ⟨vs, k, hvs⟩ := ih k
        exact ⟨u :: vs, k, fun ρ hρ => by simp [hρ x (by simp) u hu, hvs ρ (fun p hp => hρ p (by simp [hp]))]⟩
    obtain ⟨v1, k, h1⟩ := get h
    obtain ⟨v2, k, h2⟩ := get k
    refine ⟨_, k, fun ρ w ha hw => ?_⟩
    have e1 : first.map ρ = ⟨v1⟩ := by
      apply Array.toList_inj.1
      rw [Array.toList_map]
      exact h1 ρ (fun p hp u hu => ha p u (by simp [Op.operands]; exact .inl (by simpa using hp)) hu)
    have e2 : cap.map ρ = ⟨v2⟩ := by
      apply Array.toList_inj.1
      rw [Array.toList_map]
      exact h2 ρ (fun p hp u hu => ha p u (by simp [Op.operands]; exact .inr (by simpa using hp)) hu)
    simp only [execOp, e1, e2]
    exact run_v rfl
  case call c =>
    obtain ⟨callee, args, ats⟩ := c
    cases callee <;> simp only at h <;> try exact h.elim
    rename_i b
    have get : ∀ {ps : List Operand} {K : List Value → Prop}, evL env ps K → ∃ vs, K vs ∧ ∀ ρ : Operand → Value, (∀ p ∈ ps, ∀ u, ev env p = some u → ρ p = u) → ps.map ρ = vs := by
      intro ps
      induction ps with
      | nil => intro K hk; exact ⟨[], hk, fun _ _ => rfl⟩
      | cons x ps ih =>
        intro K hk
        obtain ⟨u, hu, k⟩ := ev1_get hk
        obtain ⟨vs, k, hvs⟩ := ih k
        exact ⟨u :: vs, k, fun ρ hρ => by simp [hρ x (by simp) u hu, hvs ρ (fun p hp => hρ p (by simp [hp]))]⟩
    have mm : (evL env args.toList fun vs => mmD P b ats type vs H K) → ∃ v, K v ∧ ∀ (ρ : Operand → Value) w, Agree env ρ (Op.call ⟨.builtin b, args, ats⟩).operands.toList → hp w = H →
        (execOp ρ ⟨dst, .call ⟨.builtin b, args, ats⟩, type, pos, after, guard⟩).run P w = .ok (.value v) w := by
      intro h
      obtain ⟨vs, k, hvs⟩ := get h
      obtain ⟨_, v, k, hr⟩ := mmD_run k
      refine ⟨v, k, fun ρ w ha hw => ?_⟩
      have e : args.map ρ = ⟨vs⟩ := by
        apply Array.toList_inj.1
        rw [Array.toList_map]
        exact hvs ρ (fun p hp u hu => ha p u (by simp [Op.operands, Call.operands]; simpa using hp) hu)
      simp only [execOp, resolve, e, Sem.run_bind, Sem.run_pure, Result.andThen_ok, invoke]
      exact hr _ w hw
    cases b <;> try exact mm h
    simp only at h
    split at h
    · rename_i x t hx ht
      obtain ⟨u, hu, k⟩ := ev1_get h
      obtain ⟨v, k, hr⟩ := lenD_run k
      refine ⟨v, k, fun ρ w ha hw => ?_⟩
      have e1 : args = #[x] := Array.toList_inj.1 hx
      have e2 : ats = #[t] := Array.toList_inj.1 ht
      subst e1
      subst e2
      have e := ha x u (by simp [Op.operands, Call.operands]) hu
      simp only [execOp, resolve, Sem.run_bind, Sem.run_pure, Result.andThen_ok, invoke, builtin]
      simp only [List.map_toArray, List.map_cons, List.map_nil, e, hr w hw, Result.andThen_ok]
    · exact h.elim



/-! ## What hangs on the heap -/

theorem binD_any {op : BinOp} {t : TypeId} {x y : Value} {H H' : Hp} {K : Value → Prop} (hr : aggT P t = false) (h : binD P op t x y H K) :
    binD P op t x y H' K := by
  unfold binD at h ⊢
  split at h
  all_goals first
    | exact h
    | (rw [hr, cond_false] at h; exact h.elim)

theorem convD_any {s d : TypeId} {x : Value} {H H' : Hp} {K : Value → Prop} (hr : ((intT P s).isNone || (intT P d).isNone) = false) (h : convD P s d x H K) : convD P s d x H' K := by
  unfold convD at h ⊢
  split at h
  · exact h
  · rename_i h1
    exfalso
    cases h2 : intT P s
    · simp [h2] at hr
    · cases h3 : intT P d
      · simp [h3] at hr
      · exact h1 _ _ h2 h3

theorem evO_mono {env : Env} {x : Option Operand} {K K' : Option Value → Prop} (h : evO env x K) (hk : ∀ v, K v → K' v) : evO env x K' := by
  cases x with
  | none => exact hk _ h
  | some y =>
    obtain ⟨v, hv, k⟩ := ev1_get h
    show ev1 env y _
    unfold ev1
    rw [hv]
    exact hk _ k
theorem ev1_mono {env : Env} {x : Operand} {K K' : Value → Prop} (h : ev1 env x K) (hk : ∀ v, K v → K' v) : ev1 env x K' := by
  obtain ⟨v, hv, k⟩ := ev1_get h
  unfold ev1
  rw [hv]
  exact hk _ k
theorem evL_mono {env : Env} {xs : List Operand} {K K' : List Value → Prop} (h : evL env xs K) (hk : ∀ v, K v → K' v) : evL env xs K' := by
  induction xs generalizing K K' with
  | nil => exact hk _ h
  | cons x xs ih => exact ev1_mono (K := fun v => evL env xs fun vs => K (v :: vs)) h fun v hv => ih hv fun vs k => hk _ k

theorem denQ_any {env : Env} {o : Oper} {H H' : Hp} {K : Value → Prop} (hr : readOp P o.op = false) (h : denQ P env o H K) : denQ P env o H' K := by
  obtain ⟨dst, op, type, pos, after, guard⟩ := o
  unfold denQ at h ⊢
  cases op <;> simp only at h ⊢ <;> try first | exact h | (simp [readOp] at hr; done)
  case binOp op t x y ty => exact ev1_mono h fun _ h => ev1_mono h fun _ h => binD_any hr h
  case convert s d x => exact ev1_mono h fun _ h => convD_any hr h
  case index t x i =>
    have hs : strT P t = true := by simpa [readOp] using hr
    refine ev1_mono h fun _ h => ev1_mono h fun _ h => ?_
    unfold indexD at h ⊢
    rw [hs, cond_true] at h ⊢
    exact h
  case slice t x lo hi mx =>
    have hs : slT P t = true := by simpa [readOp] using hr
    refine ev1_mono h fun _ h => evO_mono h fun _ h => evO_mono h fun _ h => evO_mono h fun _ h => ?_
    unfold sliceD at h ⊢
    rw [hs, cond_true] at h ⊢
    exact h
  case call c =>
    obtain ⟨callee, args, ats⟩ := c
    cases callee <;> simp only at h ⊢ <;> try exact h.elim
    rename_i b
    have mm : (hm : mmRead P ats = false) → (evL env args.toList fun vs => mmD P b ats type vs H K) → evL env args.toList fun vs => mmD P b ats type vs H' K := by
      intro hm h
      refine evL_mono h fun vs h => ?_
      unfold mmD at h ⊢
      cases b <;> simp only [hm, cond_false] at h ⊢ <;> exact h
    cases b <;> simp only [readOp] at h hr ⊢ <;> try first | exact mm hr h | contradiction
    split at h
    · rename_i x t hx ht
      rw [ht] at hr
      refine ev1_mono h fun _ h => ?_
      unfold lenD at h ⊢
      cases hs : slT P t
      · cases hs2 : strT P t
        · simp [hs, hs2] at hr
        · simp only [hs, hs2, cond_false, cond_true] at h ⊢; exact h
      · simp only [hs, cond_true] at h ⊢; exact h
    · exact h.elim

/-! ## The loud operations -/

theorem evW_loud {s : Sem Value} {w : World} {K : Value → Hp → Prop} (h : evW P s (hp w) K) : LoudOk P w K (((do pure (.value (← s))) : Sem Next).run P w) := by
  obtain ⟨v, w', hr, hs, k⟩ := h w rfl
  simp only [Sem.run_bind, hr, Result.andThen_ok, Sem.run_pure]
  exact ⟨hs, k⟩

theorem LoudOk.mono {w : World} {K K' : Value → Hp → Prop} {r : Result Next} (h : LoudOk P w K r) (hk : ∀ v H, K v H → K' v H) : LoudOk P w K' r := by
  unfold LoudOk at h ⊢
  split at h
  · exact ⟨h.1, hk _ _ h.2⟩
  · exact ⟨h.1, hk _ _ h.2⟩
  · exact ⟨h.1, h.2.mono hk⟩
  · exact h.elim

theorem asSl_spec {v : Value} {K : Option Addr → Nat → Nat → Prop} (h : asSl v K) : ∃ p l c, v = .slice p l c ∧ K p l c := by
  unfold asSl at h
  split at h
  · exact ⟨_, _, _, rfl, h⟩
  · exact h.elim
theorem asM_spec {v : Value} {K : Option Nat → Prop} (h : asM v K) : ∃ m, v = .map m ∧ K m := by
  unfold asM at h
  split at h
  · exact ⟨_, rfl, h⟩
  · exact h.elim
theorem asFn_spec {v : Value} {K : Fn → Array Value → Array Value → Prop} (h : asFn v K) : ∃ f a c, v = .func f a c ∧ K f a c := by
  unfold asFn at h
  split at h
  · exact ⟨_, _, _, rfl, h⟩
  · exact h.elim

theorem evL_get {env : Env} {ps : List Operand} {K : List Value → Prop} (h : evL env ps K) :
    ∃ vs, K vs ∧ ∀ ρ : Operand → Value, (∀ p ∈ ps, ∀ u, ev env p = some u → ρ p = u) → ps.map ρ = vs := by
  induction ps generalizing K with
  | nil => exact ⟨[], h, fun _ _ => rfl⟩
  | cons x ps ih =>
    obtain ⟨u, hu, k⟩ := ev1_get h
    obtain ⟨vs, k, hvs⟩ := ih k
    exact ⟨u :: vs, k, fun ρ hρ => by simp [hρ x (by simp) u hu, hvs ρ (fun p hp => hρ p (by simp [hp]))]⟩

theorem evParts_get {env : Env} {ps : List (Nat × Operand)} {K : List (Nat × Value) → Prop} (h : evParts env ps K) :
    ∃ vs, K vs ∧ ∀ ρ : Operand → Value, (∀ p ∈ ps, ∀ u, ev env p.2 = some u → ρ p.2 = u) → (ps.map fun p => (p.1, ρ p.2)) = vs := by
  induction ps generalizing K with
  | nil => exact ⟨[], h, fun _ _ => rfl⟩
  | cons p ps ih =>
    obtain ⟨i, x⟩ := p
    obtain ⟨u, hu, k⟩ := ev1_get h
    obtain ⟨vs, k, hvs⟩ := ih k
    exact ⟨(i, u) :: vs, k, fun ρ hρ => by simp [hρ (i, x) (by simp) u hu, hvs ρ (fun p hp => hρ p (by simp [hp]))]⟩

theorem buildSlice_run {t e : TypeId} {len : Nat} {ps : List (Nat × Value)} {cs : Array Value} (he : P.underlying t = some (.slice e)) (hc : buildSliceV P e len ps = some cs) (w : World) :
    (Instr.buildSlice t len ⟨ps⟩).run P w = .ok (.slice (some ⟨w.heap.size, 0, none⟩) len len) { w with heap := w.heap.push (.cells cs e) } := by
  unfold buildSliceV at hc
  split at hc
  · rename_i inf hinf
    split at hc
    · rename_i z hz
      cases hb : Nat.ble (len * inf.size) (2 ^ 24)
      · simp [hb] at hc
      · rw [hb, cond_true] at hc
        have hle : ¬ len * inf.size > 2 ^ 24 := by
          have := Nat.le_of_ble_eq_true hb
          omega
        simp only [Instr.buildSlice, Sem.run_bind, run_underlying he, Result.andThen_ok, run_sizeOf hinf, if_neg hle]
        by_cases h0 : len * inf.size = 0
        · have : Nat.beq (len * inf.size) 0 = true := by simp [h0]
          rw [this] at hc
          simp only [cond_true] at hc
          simp [h0] at hc ⊢
          simp [hc, newRow]
        · have : Nat.beq (len * inf.size) 0 = false := by rw [← Bool.not_eq_true]; exact fun e => h0 (Nat.eq_of_beq_eq_true e)
          rw [this] at hc
          simp only [cond_false] at hc
          simp only [if_neg h0, Sem.run_bind, zeroValue, run_typeInfo hinf, Result.andThen_ok, hz, Sem.run_pure, hc]
          simp [newRow]
    · cases hc
  · cases hc

theorem denL_ok {env : Env} {o : Oper} {w : World} {K : Value → Hp → Prop} (h : denL P env o (hp w) K) (ρ : Operand → Value) (ha : Agree env ρ o.op.operands.toList) :
    LoudOk P w K ((execOp ρ o).run P w) := by
  obtain ⟨dst, op, type, pos, after, guard⟩ := o
  unfold denL at h
  cases op <;> simp only at h <;> try exact h.elim
  case box t x =>
    obtain ⟨v, hv, k⟩ := ev1_get h
    simp only [execOp, ha x v (by simp [Op.operands]) hv, Instr.box, newVar, newRow, Sem.run_bind, run_newObj, Result.andThen_ok, Sem.run_pure]
    exact ⟨rest_push _ _, newB_run k⟩
  case alloc t =>
    split at h
    · rename_i inf hinf
      split at h
      · rename_i z hz
        have e : (Instr.alloc t true (.tuple #[])).run P w = .ok (.pointer (some ⟨w.heap.size, 0, none⟩)) { w with heap := w.heap.push (.cells z.cells t) } := by
          simp [Instr.alloc, zeroValue, run_typeInfo hinf, hz, newVar, newRow]
        simp only [execOp, Sem.run_bind, e, Result.andThen_ok, Sem.run_pure]
        exact ⟨rest_push _ _, newB_run h⟩
      · exact h.elim
    · exact h.elim
  case store t x y =>
    obtain ⟨v, hv, k⟩ := ev1_get h
    obtain ⟨a, rfl, k⟩ := asA_spec k
    obtain ⟨u, hu, k⟩ := ev1_get k
    split at k
    · rename_i inf hinf
      cases hb : Nat.beq u.cells.size inf.size
      · simp [hb] at k
      · rw [hb, cond_true] at k
        obtain ⟨w', hr, hs, k⟩ := stL_run (P := P) k
        have e : u.cells.size = inf.size := by simpa using hb
        simp only [execOp, ha x _ (by simp [Op.operands]) hv, ha y _ (by simp [Op.operands]) hu, Instr.storeAt, Instr.sureAddr, Sem.run_bind, Sem.run_pure, Result.andThen_ok, storeVar,
          run_sizeOf hinf, e, ne_eq, not_true_eq_false, if_false, hr]
        exact ⟨hs, k⟩
    · exact k.elim
  case buildSlice t len parts =>
    obtain ⟨vs, k, hvs⟩ := evParts_get h
    have e : (parts.map fun p => (p.1, ρ p.2)) = ⟨vs⟩ := by
      apply Array.toList_inj.1
      rw [Array.toList_map]
      exact hvs ρ (fun p hp u hu => ha p.2 u (by simp [Op.operands]; exact ⟨p.1, by simpa using hp⟩) hu)
    split at k
    · rename_i el hel
      split at k
      · rename_i cs hcs
        simp only [execOp]
        rw [show (parts.map fun x => match x with | (i, x) => (i, ρ x)) = (parts.map fun p => (p.1, ρ p.2)) from rfl, e]
        simp only [Sem.run_bind, buildSlice_run hel hcs, Result.andThen_ok, Sem.run_pure]
        exact ⟨rest_push _ _, newB_run k⟩
      · exact k.elim
    · exact k.elim
  case makeSlice t l c =>
    obtain ⟨a, hl, k⟩ := ev1_get h
    obtain ⟨b, hc, k⟩ := ev1_get k
    simp only [execOp, ha l a (by simp [Op.operands]) hl, ha c b (by simp [Op.operands]) hc]
    exact evW_loud (k.mono fun v H h => by obtain ⟨p, l, c, rfl, h⟩ := asSl_spec h; exact h)
  case makeMap t r =>
    cases r with
    | none =>
      simp only [execOp, Instr.makeMap]
      simp only [Option.map_none, Sem.run_bind, Sem.run_pure, Result.andThen_ok, run_newObj]
      exact ⟨rest_push _ _, newB_run h⟩
    | some x =>
      obtain ⟨a, hx, k⟩ := ev1_get h
      simp only [execOp, Option.map_some, ha x a (by simp [Op.operands]) hx]
      exact evW_loud (k.mono fun v H h => by obtain ⟨m, rfl, h⟩ := asM_spec h; exact h)
  case mapUpdate t m k x =>
    obtain ⟨a, h1, h⟩ := ev1_get h
    obtain ⟨b, h2, h⟩ := ev1_get h
    obtain ⟨c, h3, h⟩ := ev1_get h
    simp only [execOp, ha m a (by simp [Op.operands]) h1, ha k b (by simp [Op.operands]) h2, ha x c (by simp [Op.operands]) h3]
    obtain ⟨v, w', hr, hs, k⟩ := h w rfl
    simp only [Sem.run_bind, hr, Result.andThen_ok, Sem.run_pure]
    exact ⟨hs, k⟩
  case insert t m k x =>
    obtain ⟨a, h1, h⟩ := ev1_get h
    obtain ⟨b, h2, h⟩ := ev1_get h
    obtain ⟨c, h3, h⟩ := ev1_get h
    simp only [execOp, ha m a (by simp [Op.operands]) h1, ha k b (by simp [Op.operands]) h2, ha x c (by simp [Op.operands]) h3]
    obtain ⟨v, w', hr, hs, k⟩ := h w rfl
    simp only [Sem.run_bind, hr, Result.andThen_ok, Sem.run_pure]
    exact ⟨hs, k⟩
  case mapEntry t m k =>
    obtain ⟨a, h1, h⟩ := ev1_get h
    obtain ⟨b, h2, h⟩ := ev1_get h
    simp only [execOp, ha m a (by simp [Op.operands]) h1, ha k b (by simp [Op.operands]) h2]
    exact evW_loud (h.mono fun v H h => asRes_spec (K := fun v => K v H) h)
  case entryStore t m k x =>
    obtain ⟨a, h1, h⟩ := ev1_get h
    obtain ⟨b, h2, h⟩ := ev1_get h
    obtain ⟨c, h3, h⟩ := ev1_get h
    simp only [execOp, ha m a (by simp [Op.operands]) h1, ha k b (by simp [Op.operands]) h2, ha x c (by simp [Op.operands]) h3]
    obtain ⟨v, w', hr, hs, k⟩ := h w rfl
    simp only [Sem.run_bind, hr, Result.andThen_ok, Sem.run_pure]
    exact ⟨hs, k⟩
  case range t x =>
    obtain ⟨a, h1, h⟩ := ev1_get h
    simp only [execOp, ha x a (by simp [Op.operands]) h1]
    exact evW_loud (h.mono fun v H h => by obtain ⟨m, rfl, h⟩ := asA_spec h; exact h)
  case next x s =>
    obtain ⟨a, h1, h⟩ := ev1_get h
    simp only [execOp, ha x a (by simp [Op.operands]) h1]
    exact evW_loud (h.mono fun v H h => nextC_spec (K := fun v => K v H) h)
  case entry x =>
    obtain ⟨a, h1, h⟩ := ev1_get h
    simp only [execOp, ha x a (by simp [Op.operands]) h1]
    exact evW_loud h
  case call c =>
    obtain ⟨callee, args, ats⟩ := c
    cases callee <;> simp only at h <;> try exact h.elim
    case builtin b =>
      obtain ⟨vs, k, hvs⟩ := evL_get h
      have e : args.map ρ = ⟨vs⟩ := by
        apply Array.toList_inj.1
        rw [Array.toList_map]
        exact hvs ρ (fun p hp u hu => ha p u (by simp [Op.operands, Call.operands]; simpa using hp) hu)
      split at k
      · rename_i s hs
        simp only [execOp, resolve, e, Sem.run_bind, Sem.run_pure, Result.andThen_ok, invoke]
        have k' : evW P s (hp w) K := k.mono fun v H h => asRes_spec (K := fun v => K v H) h
        have := evW_loud k'
        simp only [Sem.run_bind] at this
        cases b <;> simp only [bSem] at hs <;> cases hs <;> simpa only [builtin, Sem.run_bind] using this
      · exact k.elim
    case value f =>
      obtain ⟨fv, hf, h⟩ := ev1_get h
      obtain ⟨fn, first, cap, rfl, h'⟩ := asFn_spec h
      clear h
      have h := h'
      clear h'
      split at h
      · rename_i fid
        split at h
        · rename_i g hg
          cases hb : (g.body.isSome && !(g.name == "runtime.NumGoroutine"))
          · simp [hb] at h
          · rw [hb, cond_true] at h
            simp only [Bool.and_eq_true, Bool.not_eq_true'] at hb
            obtain ⟨vs, k, hvs⟩ := evL_get h
            have e : args.map ρ = ⟨vs⟩ := by
              apply Array.toList_inj.1
              rw [Array.toList_map]
              exact hvs ρ (fun p hp u hu => ha p u (by simp [Op.operands, Call.operands]; exact .inr (by simpa using hp)) hu)
            have ef := ha f _ (by simp [Op.operands, Call.operands]) hf
            have hnone : g.body.isNone = false := by
              cases hgb : g.body
              · rw [hgb] at hb; simp at hb
              · rfl
            simp only [execOp, resolve, e, ef, Deferred.ofValue, Sem.run_bind, Sem.run_pure, Result.andThen_ok, invoke, callFunc, run_program, hg, hb.2, hnone]
            have eargs : (first ++ (⟨vs⟩ : Array Value) ++ cap) = ⟨first.toList ++ vs ++ cap.toList⟩ := by
              apply Array.toList_inj.1
              simp
            rw [eargs]
            exact ⟨rfl, k.mono fun v H h => asRes_spec (K := fun v => K v H) h⟩
        · exact h.elim
      · exact h.elim

end Go.Proofs.Ytohlnmenghbgbaa
