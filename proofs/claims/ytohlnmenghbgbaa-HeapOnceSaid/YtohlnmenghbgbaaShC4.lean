/- A quiet operation gives one value, and hangs on its operands alone. No condition. -/
import Derived.Test.YtohlnmenghbgbaaShC3
namespace Go.Proofs.Ytohlnmenghbgbaa
set_option linter.unusedSimpArgs false
set_option linter.unusedVariables false
open Go

variable {P : Program}

/-- Whatever is asked of what it gives, it is of one value. -/
def Det (F : (Value → Prop) → Prop) : Prop := ∀ K, F K → ∃ v, K v ∧ ∀ K' : Value → Prop, K' v → F K'

theorem Det.leaf (v : Value) : Det fun K => K v := fun _ h => ⟨v, h, fun _ h' => h'⟩
theorem Det.no : Det fun _ => False := fun _ h => h.elim
theorem Det.and {c : Prop} {F : (Value → Prop) → Prop} (h : Det F) : Det fun K => c ∧ F K := fun K ⟨hc, hf⟩ => let ⟨v, k, g⟩ := h K hf; ⟨v, k, fun K' k' => ⟨hc, g K' k'⟩⟩
theorem Det.cond {c : Bool} {F G : (Value → Prop) → Prop} (h : c = true → Det F) (g : c = false → Det G) : Det fun K => cond c (F K) (G K) := by
  cases c
  · exact g rfl
  · exact h rfl
theorem Det.ev1 {env : Env} {x : Operand} {F : Value → (Value → Prop) → Prop} (h : ∀ v, Det (F v)) : Det fun K => ev1 env x fun v => F v K := by
  intro K hk
  obtain ⟨u, hu, k⟩ := ev1_get hk
  obtain ⟨v, k, g⟩ := h u K k
  refine ⟨v, k, fun K' k' => ?_⟩
  show Go.Proofs.Ytohlnmenghbgbaa.ev1 env x _
  unfold Go.Proofs.Ytohlnmenghbgbaa.ev1
  rw [hu]
  exact g K' k'
theorem Det.evO {env : Env} {x : Option Operand} {F : Option Value → (Value → Prop) → Prop} (h : ∀ v, Det (F v)) : Det fun K => evO env x fun v => F v K := by
  cases x with
  | none => exact h none
  | some y => exact Det.ev1 (F := fun v K => F (some v) K) fun v => h (some v)
theorem Det.evL {env : Env} {xs : List Operand} {F : List Value → (Value → Prop) → Prop} (h : ∀ v, Det (F v)) : Det fun K => evL env xs fun v => F v K := by
  induction xs generalizing F with
  | nil => exact h []
  | cons x xs ih => exact Det.ev1 (F := fun v K => Go.Proofs.Ytohlnmenghbgbaa.evL env xs fun vs => F (v :: vs) K) fun v => ih (F := fun vs K => F (v :: vs) K) fun vs => h (v :: vs)
theorem Det.evParts {env : Env} {xs : List (Nat × Operand)} {F : List (Nat × Value) → (Value → Prop) → Prop} (h : ∀ v, Det (F v)) : Det fun K => evParts env xs fun v => F v K := by
  induction xs generalizing F with
  | nil => exact h []
  | cons x xs ih =>
    obtain ⟨i, x⟩ := x
    exact Det.ev1 (F := fun v K => Go.Proofs.Ytohlnmenghbgbaa.evParts env xs fun vs => F ((i, v) :: vs) K) fun v => ih (F := fun vs K => F ((i, v) :: vs) K) fun vs => h ((i, v) :: vs)
theorem Det.evR {s : Sem Value} {H : Hp} {F : Value → (Value → Prop) → Prop} (h : ∀ v, Det (F v)) : Det fun K => evR P s H fun v => F v K := by
  intro K hk
  obtain ⟨u, hu, k⟩ := hk
  obtain ⟨v, k, g⟩ := h u K k
  exact ⟨v, k, fun K' k' => ⟨u, hu, g K' k'⟩⟩
theorem Det.evR0 {s : Sem Value} {H : Hp} : Det fun K => Go.Proofs.Ytohlnmenghbgbaa.evR P s H K := Det.evR (F := fun v K => K v) Det.leaf

theorem Det.asI {k : IntKind} {u : Value} {F : Int → (Value → Prop) → Prop} (h : ∀ v, Det (F v)) : Det fun K => asI k u fun v => F v K := by
  unfold Go.Proofs.Ytohlnmenghbgbaa.asI
  split
  · exact Det.cond (fun _ => h _) (fun _ => Det.no)
  · exact Det.no
theorem Det.asB {u : Value} {F : Bool → (Value → Prop) → Prop} (h : ∀ v, Det (F v)) : Det fun K => asB u fun v => F v K := by
  unfold Go.Proofs.Ytohlnmenghbgbaa.asB; split <;> first | exact h _ | exact Det.no
theorem Det.asStr {u : Value} {F : ByteArray → (Value → Prop) → Prop} (h : ∀ v, Det (F v)) : Det fun K => asStr u fun v => F v K := by
  unfold Go.Proofs.Ytohlnmenghbgbaa.asStr; split <;> first | exact h _ | exact Det.no
theorem Det.asP {u : Value} {F : Option Addr → (Value → Prop) → Prop} (h : ∀ v, Det (F v)) : Det fun K => asP u fun v => F v K := by
  unfold Go.Proofs.Ytohlnmenghbgbaa.asP; split <;> first | exact h _ | exact Det.no
theorem Det.asA {u : Value} {F : Addr → (Value → Prop) → Prop} (h : ∀ v, Det (F v)) : Det fun K => asA u fun v => F v K := by
  unfold Go.Proofs.Ytohlnmenghbgbaa.asA; split <;> first | exact h _ | exact Det.no
theorem Det.asSl {u : Value} {F : Option Addr → Nat → Nat → (Value → Prop) → Prop} (h : ∀ a b c, Det (F a b c)) : Det fun K => asSl u fun a b c => F a b c K := by
  unfold Go.Proofs.Ytohlnmenghbgbaa.asSl; split <;> first | exact h _ _ _ | exact Det.no
theorem Det.asM {u : Value} {F : Option Nat → (Value → Prop) → Prop} (h : ∀ v, Det (F v)) : Det fun K => asM u fun v => F v K := by
  unfold Go.Proofs.Ytohlnmenghbgbaa.asM; split <;> first | exact h _ | exact Det.no
theorem Det.asAgg' {u : Value} {F : Array Value → (Value → Prop) → Prop} (h : ∀ v, Det (F v)) : Det fun K => asAgg' u fun v => F v K := by
  unfold Go.Proofs.Ytohlnmenghbgbaa.asAgg'; split <;> first | exact h _ | exact Det.no
theorem Det.asTup {u : Value} {F : Array Value → (Value → Prop) → Prop} (h : ∀ v, Det (F v)) : Det fun K => asTup u fun v => F v K := by
  unfold Go.Proofs.Ytohlnmenghbgbaa.asTup; split <;> first | exact h _ | exact Det.no
theorem Det.leafAs {l : Leaf} {u : Value} {F : Value → (Value → Prop) → Prop} (h : ∀ v, Det (F v)) : Det fun K => l.as u fun v => F v K := by
  cases l
  · exact Det.asI fun _ => h _
  · exact Det.asB fun _ => h _
  · exact Det.asStr fun _ => h _
  · exact Det.asP fun _ => h _
  · exact Det.asSl fun _ _ _ => h _
  · exact Det.asM fun _ => h _
  · exact h _
theorem Det.asLs {ls : List Leaf} {us : List Value} {F : List Value → (Value → Prop) → Prop} (h : ∀ v, Det (F v)) : Det fun K => asLs ls us fun v => F v K := by
  induction ls generalizing us F with
  | nil => cases us <;> first | exact h [] | exact Det.no
  | cons l ls ih =>
    cases us with
    | nil => exact Det.no
    | cons u us => exact Det.leafAs (F := fun v K => Go.Proofs.Ytohlnmenghbgbaa.asLs ls us fun vs => F (v :: vs) K) fun v => ih (F := fun vs K => F (v :: vs) K) fun vs => h (v :: vs)
theorem Det.unN {n : Nat} {l : List Value} {F : List Value → (Value → Prop) → Prop} (h : ∀ v, Det (F v)) : Det fun K => unN n l fun v => F v K := by
  induction n generalizing l F with
  | zero => cases l <;> first | exact h [] | exact Det.no
  | succ n ih =>
    cases l with
    | nil => exact Det.no
    | cons v r => exact ih (F := fun vs K => F (v :: vs) K) fun vs => h (v :: vs)
theorem Det.asT {t : TypeId} {u : Value} {F : Value → (Value → Prop) → Prop} (h : ∀ v, Det (F v)) : Det fun K => asT P t u fun v => F v K := by
  unfold Go.Proofs.Ytohlnmenghbgbaa.asT
  split
  · split
    · exact Det.asAgg' (F := fun cs K => _) fun cs => Det.unN (F := fun l K => _) fun l => Det.asLs fun vs => h _
    · split
      · exact Det.leafAs h
      · exact h _
  · exact h _
theorem Det.asTs {ts : List TypeId} {us : List Value} {F : List Value → (Value → Prop) → Prop} (h : ∀ v, Det (F v)) : Det fun K => asTs P ts us fun v => F v K := by
  induction ts generalizing us F with
  | nil => cases us <;> first | exact h [] | exact Det.no
  | cons l ls ih =>
    cases us with
    | nil => exact Det.no
    | cons u us => exact Det.asT (F := fun v K => Go.Proofs.Ytohlnmenghbgbaa.asTs P ls us fun vs => F (v :: vs) K) fun v => ih (F := fun vs K => F (v :: vs) K) fun vs => h (v :: vs)
theorem Det.asRes {t : TypeId} {u : Value} : Det fun K => asRes P t u K := by
  unfold Go.Proofs.Ytohlnmenghbgbaa.asRes
  split
  · split
    · exact Det.leaf _
    · exact Det.asTup (F := fun cs K => _) fun cs => Det.unN (F := fun l K => _) fun l => Det.asTs fun vs => Det.leaf _
  · exact Det.asT Det.leaf

theorem Det.ld {a : Addr} {H : Hp} {F : Value → (Value → Prop) → Prop} (h : ∀ v, Det (F v)) : Det fun K => ld a H fun v => F v K := by
  unfold Go.Proofs.Ytohlnmenghbgbaa.ld; split <;> first | exact h _ | exact Det.no
theorem Det.ldN {a : Addr} {H : Hp} {n i : Nat} {F : List Value → (Value → Prop) → Prop} (h : ∀ v, Det (F v)) : Det fun K => ldN a H i n fun v => F v K := by
  induction n generalizing i F with
  | zero => exact h []
  | succ n ih => exact Det.ld (F := fun v K => Go.Proofs.Ytohlnmenghbgbaa.ldN a H (i + 1) n fun vs => F (v :: vs) K) fun v => ih (F := fun vs K => F (v :: vs) K) fun vs => h (v :: vs)
theorem Det.ldLs {a : Addr} {H : Hp} {ls : List Leaf} {i : Nat} {F : List Value → (Value → Prop) → Prop} (h : ∀ v, Det (F v)) : Det fun K => ldLs a H i ls fun v => F v K := by
  induction ls generalizing i F with
  | nil => exact h []
  | cons l ls ih => exact Det.ld (F := fun v K => l.as v fun v' => Go.Proofs.Ytohlnmenghbgbaa.ldLs a H (i + 1) ls fun vs => F (v' :: vs) K) fun v => Det.leafAs (F := fun v' K => Go.Proofs.Ytohlnmenghbgbaa.ldLs a H (i + 1) ls fun vs => F (v' :: vs) K) fun v' => ih (F := fun vs K => F (v' :: vs) K) fun vs => h (v' :: vs)
theorem Det.ldT {t : TypeId} {a : Addr} {H : Hp} : Det fun K => ldT P t a H K := by
  unfold Go.Proofs.Ytohlnmenghbgbaa.ldT
  split
  · exact Det.no
  · split
    · exact Det.ld (F := fun v K => Go.Proofs.Ytohlnmenghbgbaa.asT P t v K) fun v => Det.asT Det.leaf
    · split
      · exact Det.no
      · split
        · exact Det.cond (fun _ => Det.ldLs (F := fun vs K => K (.agg ⟨vs⟩)) fun vs => Det.leaf _) (fun _ => Det.no)
        · exact Det.ldN (F := fun vs K => K (.agg ⟨vs⟩)) fun vs => Det.leaf _

theorem Det.binI {op : BinOp} {k : IntKind} {x y : Int} : Det fun K => binI op k x y K := by
  unfold Go.Proofs.Ytohlnmenghbgbaa.binI
  split <;> first | exact Det.leaf _ | exact Det.and (Det.leaf _) | exact Det.no
theorem Det.shI {op : BinOp} {k : IntKind} {x y : Int} : Det fun K => shI op k x y K := by
  unfold Go.Proofs.Ytohlnmenghbgbaa.shI
  split <;> first | exact Det.and (Det.leaf _) | exact Det.no
theorem Det.eqV {op : BinOp} {b : Bool} : Det fun K => eqV op b K := by
  unfold Go.Proofs.Ytohlnmenghbgbaa.eqV
  split <;> first | exact Det.leaf _ | exact Det.no
theorem Det.binD {op : BinOp} {t : TypeId} {x y : Value} {H : Hp} : Det fun K => binD P op t x y H K := by
  unfold Go.Proofs.Ytohlnmenghbgbaa.binD
  split
  · split
    · exact Det.shI
    · exact Det.shI
    · exact Det.cond (fun _ => Det.binI) (fun _ => Det.no)
  all_goals first
    | exact Det.cond (fun _ => Det.eqV) (fun _ => Det.no)
    | exact Det.cond (fun _ => Det.evR (F := fun v K => _) fun v => Det.asB (F := fun b K => K (.bool b)) fun b => Det.leaf _) (fun _ => Det.no)
    | exact Det.no

theorem Det.slice {t : TypeId} {x : Value} {lo hi mx : Option Value} {H : Hp} : Det fun K => sliceD P t x lo hi mx H K := by
  unfold Go.Proofs.Ytohlnmenghbgbaa.sliceD
  refine Det.cond (fun _ => ?_) (fun _ => Det.evR0)
  split
  · split
    · unfold intOpt
      split
      · split <;> first | exact Det.no | exact Det.leaf _ | exact Det.and (Det.leaf _) | exact Det.and (Det.and (Det.leaf _))
      · split <;> first | exact Det.no | exact Det.leaf _ | exact Det.and (Det.leaf _) | exact Det.and (Det.and (Det.leaf _))
      · exact Det.no
    · exact Det.no
  · exact Det.no

theorem denQ_det {env : Env} {o : Oper} {H : Hp} : Det fun K => denQ P env o H K := by
  obtain ⟨dst, op, type, pos, after, guard⟩ := o
  unfold denQ
  cases op <;> simp only <;> try exact Det.no
  case move x => exact Det.ev1 Det.leaf
  case assign x => exact Det.ev1 Det.leaf
  case pick c x y => exact Det.ev1 (F := fun cv K => _) fun cv => Det.asB (F := fun b K => _) fun b => Det.cond (fun _ => Det.ev1 Det.leaf) (fun _ => Det.ev1 Det.leaf)
  case nilCheck x =>
    refine Det.ev1 (F := fun v K => nilD v K) fun v => ?_
    unfold nilD nilP
    split
    · split <;> first | exact Det.leaf _ | exact Det.no
    · exact Det.no
  case binOp op t x y ty => exact Det.ev1 (F := fun v K => _) fun a => Det.ev1 (F := fun v K => _) fun b => Det.binD
  case unOp op t x =>
    refine Det.ev1 (F := fun v K => unD op v K) fun v => ?_
    unfold unD
    split <;> first | exact Det.leaf _ | exact Det.no
  case convert s d x =>
    refine Det.ev1 (F := fun v K => convD P s d v H K) fun v => ?_
    unfold convD
    split
    · split <;> first | exact Det.leaf _ | exact Det.no
    · exact Det.evR (F := fun v K => asT P d v K) fun v => Det.asT Det.leaf
  case extract x i =>
    refine Det.ev1 (F := fun v K => extractD v i fun u => asT P type u K) fun v => ?_
    refine Det.asTup (F := fun vs K => _) fun vs => ?_
    split
    · exact Det.asT (F := fun v K => K v) Det.leaf
    · exact Det.no
  case fieldAddr t x f =>
    refine Det.ev1 (F := fun v K => fieldAddrD P t v f K) fun v => ?_
    unfold fieldAddrD
    split
    · split
      · refine Det.cond (fun _ => Det.no) (fun _ => ?_)
        split <;> first | exact Det.asA (F := fun a K => K _) fun a => Det.leaf _ | exact Det.no
      · exact Det.no
    · exact Det.no
  case field t x f =>
    refine Det.ev1 (F := fun v K => fieldD P t v f K) fun v => ?_
    unfold fieldD
    split
    · split
      · refine Det.asAgg' (F := fun cs K => partD P _ cs _ K) fun cs => ?_
        unfold partD
        split
        · exact Det.no
        · split
          · split <;> first | exact Det.leaf _ | exact Det.no
          · split <;> first | exact Det.leaf _ | exact Det.no
      · exact Det.no
    · exact Det.no
  case indexAddr t x i =>
    refine Det.ev1 (F := fun v K => _) fun a => Det.ev1 (F := fun v K => indexAddrD P t a v K) fun b => ?_
    unfold indexAddrD
    split
    · split
      · split
        · unfold idxA; split <;> first | exact Det.and (Det.leaf _) | exact Det.no
        · exact Det.no
      · split
        · unfold idxA; split <;> first | exact Det.and (Det.leaf _) | exact Det.no
        · exact Det.no
      · exact Det.no
    · exact Det.no
  case index t x i =>
    refine Det.ev1 (F := fun v K => _) fun a => Det.ev1 (F := fun v K => indexD P t type a v H K) fun b => ?_
    unfold indexD
    refine Det.cond (fun _ => ?_) (fun _ => Det.evR (F := fun v K => asT P type v K) fun v => Det.asT Det.leaf)
    split
    · unfold idxStr
      refine Det.and ?_
      split <;> first | exact Det.leaf _ | exact Det.no
    · exact Det.no
  case slice t x lo hi mx => exact Det.ev1 (F := fun v K => _) fun a => Det.evO (F := fun v K => _) fun l => Det.evO (F := fun v K => _) fun h => Det.evO (F := fun v K => _) fun m => Det.slice
  case load t x => exact Det.ev1 (F := fun v K => _) fun v => Det.asA (F := fun a K => _) fun a => Det.ldT
  case lookup t x i ok => exact Det.ev1 (F := fun v K => _) fun a => Det.ev1 (F := fun v K => _) fun b => Det.evR (F := fun v K => asRes P type v K) fun v => Det.asRes
  case build t parts =>
    refine Det.evParts (F := fun ps K => buildD P t ps K) fun ps => ?_
    unfold buildD
    split
    · split <;> first | exact Det.leaf _ | exact Det.no
    · refine Det.cond (fun _ => ?_) (fun _ => Det.no)
      split <;> first | exact Det.leaf _ | exact Det.no
  case makeFunc fn first cap => exact Det.evL (F := fun a K => _) fun a => Det.evL (F := fun b K => K _) fun b => Det.leaf _
  case call c =>
    obtain ⟨callee, args, ats⟩ := c
    cases callee <;> simp only <;> try exact Det.no
    rename_i b
    have mm : Det fun K => evL env args.toList fun vs => mmD P b ats type vs H K := by
      refine Det.evL (F := fun vs K => mmD P b ats type vs H K) fun vs => ?_
      unfold mmD
      split
      · refine Det.cond (fun _ => Det.evR0) (fun _ => ?_)
        split <;> first | exact Det.leaf _ | exact Det.no
      · refine Det.cond (fun _ => Det.evR0) (fun _ => ?_)
        split <;> first | exact Det.leaf _ | exact Det.no
      · exact Det.no
    cases b <;> simp only <;> try exact mm
    split
    · refine Det.ev1 (F := fun v K => lenD P _ v type H K) fun v => ?_
      unfold lenD
      refine Det.cond (fun _ => ?_) (fun _ => Det.cond (fun _ => ?_) (fun _ => Det.evR (F := fun v K => _) fun v => Det.asI (F := fun n K => K _) fun n => Det.leaf _))
      · split <;> first | exact Det.leaf _ | exact Det.no
      · split <;> first | exact Det.leaf _ | exact Det.no
    · exact Det.no

/-! ## What it hangs on -/

theorem ev1_congr {env env' : Env} {x : Operand} {K : Value → Prop} (h : ev env x = ev env' x) (hk : ev1 env x K) : ev1 env' x K := by
  unfold ev1 at *
  rw [← h]
  exact hk
theorem evL_congr {env env' : Env} {xs : List Operand} {K : List Value → Prop} (h : ∀ x ∈ xs, ev env x = ev env' x) (hk : evL env xs K) : evL env' xs K := by
  induction xs generalizing K with
  | nil => exact hk
  | cons x xs ih => exact ev1_congr (h x (by simp)) (ev1_mono (K := fun v => evL env xs fun vs => K (v :: vs)) hk fun v k => ih (K := fun vs => K (v :: vs)) (fun y hy => h y (by simp [hy])) k)
theorem evO_congr {env env' : Env} {x : Option Operand} {K : Option Value → Prop} (h : ∀ y, x = some y → ev env y = ev env' y) (hk : evO env x K) : evO env' x K := by
  cases x with
  | none => exact hk
  | some y => exact ev1_congr (K := fun v => K (some v)) (h y rfl) hk

/-- Of the operations that read: they hang on their operands. -/
theorem denQ_congr {env env' : Env} {o : Oper} {H : Hp} {K : Value → Prop} (hr : readOp P o.op = true) (he : ∀ x ∈ o.op.operands.toList, ev env x = ev env' x) (h : denQ P env o H K) : denQ P env' o H K := by
  obtain ⟨dst, op, type, pos, after, guard⟩ := o
  unfold denQ at h ⊢
  cases op <;> simp only at h ⊢ <;> try first | exact h | (simp [readOp] at hr; done)
  case binOp op t x y ty => exact ev1_congr (he x (by simp [Op.operands])) (ev1_mono h fun _ h => ev1_congr (he y (by simp [Op.operands])) h)
  case convert s d x => exact ev1_congr (he x (by simp [Op.operands])) h
  case index t x i => exact ev1_congr (he x (by simp [Op.operands])) (ev1_mono h fun _ h => ev1_congr (he i (by simp [Op.operands])) h)
  case slice t x lo hi mx =>
    exact ev1_congr (he x (by simp [Op.operands])) (ev1_mono h fun _ h => evO_congr (fun y e => he y (by simp [Op.operands, e])) (evO_mono h fun _ h => evO_congr (fun y e => he y (by simp [Op.operands, e]))
      (evO_mono h fun _ h => evO_congr (fun y e => he y (by simp [Op.operands, e])) h)))
  case load t x => exact ev1_congr (he x (by simp [Op.operands])) h
  case lookup t x i ok => exact ev1_congr (he x (by simp [Op.operands])) (ev1_mono h fun _ h => ev1_congr (he i (by simp [Op.operands])) h)
  case call c =>
    obtain ⟨callee, args, ats⟩ := c
    cases callee <;> simp only at h ⊢ <;> try exact h.elim
    rename_i b
    have ha : ∀ x ∈ args.toList, ev env x = ev env' x := fun x hx => he x (by simp [Op.operands, Call.operands]; simpa using hx)
    cases b <;> simp only at h ⊢ <;> try exact evL_congr ha h
    split at h
    · rename_i x t hx ht
      exact ev1_congr (ha x (by simp [hx])) h
    · exact h.elim

end Go.Proofs.Ytohlnmenghbgbaa
