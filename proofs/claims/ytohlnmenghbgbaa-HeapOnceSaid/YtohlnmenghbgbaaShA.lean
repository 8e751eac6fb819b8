/- The heap as a function of block numbers; predicates that run a model's step; their laws. No condition. -/
import Derived.Calls
import Derived.Orders
import Derived.Scope
import Derived.Laws.Sem
namespace Go.Proofs.Ytohlnmenghbgbaa
set_option linter.unusedSimpArgs false
set_option linter.unusedVariables false
open Go

abbrev Hp := Nat → Option Obj
def hp (w : World) : Hp := fun b => w.heap[b]?
def upd (H : Hp) (b : Nat) (o : Obj) : Hp := fun c => if c = b then some o else H c
def hcell (H : Hp) (a : Addr) : Option Value :=
  match H a.block with
  | some (.cells c _ _) => if a.spot.isSome then none else c[a.off]?
  | _ => none

theorem cell?_hp (w : World) (a : Addr) : w.cell? a = hcell (hp w) a := rfl

structure Rest (w w' : World) : Prop where
  os : w'.os = w.os
  tape : w'.tape = w.tape
  output : w'.output = w.output
  size : w.heap.size ≤ w'.heap.size

theorem Rest.refl (w : World) : Rest w w := ⟨rfl, rfl, rfl, Nat.le_refl _⟩
theorem Rest.trans {a b c : World} (h : Rest a b) (k : Rest b c) : Rest a c :=
  ⟨k.os.trans h.os, k.tape.trans h.tape, k.output.trans h.output, Nat.le_trans h.size k.size⟩

/-- A piece of the model runs well from whatever world has this heap. -/
def evW {α : Type} (P : Program) (s : Sem α) (H : Hp) (K : α → Hp → Prop) : Prop :=
  ∀ w, hp w = H → ∃ v w', s.run P w = .ok v w' ∧ Rest w w' ∧ K v (hp w')
/-- Likewise, and what it gives hangs on the heap alone, which stays. -/
def evR {α : Type} (P : Program) (s : Sem α) (H : Hp) (K : α → Prop) : Prop :=
  ∃ v, (∀ w, hp w = H → s.run P w = .ok v w) ∧ K v

section
variable {P : Program} {α β : Type} {H : Hp}

theorem evW.mono {s : Sem α} {K K' : α → Hp → Prop} (h : evW P s H K) (hk : ∀ v H', K v H' → K' v H') : evW P s H K' :=
  fun w hw => let ⟨v, w', hr, hs, k⟩ := h w hw; ⟨v, w', hr, hs, hk _ _ k⟩

theorem evW_pure {a : α} {K : α → Hp → Prop} (h : K a H) : evW P (pure a) H K :=
  fun w hw => ⟨a, w, rfl, .refl w, hw ▸ h⟩

theorem evW_bind {s : Sem α} {f : α → Sem β} {K : β → Hp → Prop} (h : evW P s H fun a H' => evW P (f a) H' K) : evW P (s >>= f) H K := by
  intro w hw
  obtain ⟨a, w1, hr, hs, k⟩ := h w hw
  obtain ⟨b, w2, hr2, hs2, k2⟩ := k w1 rfl
  exact ⟨b, w2, by simp [hr, hr2], hs.trans hs2, k2⟩

theorem evW_of_evR {s : Sem α} {K : α → Hp → Prop} (h : evR P s H fun v => K v H) : evW P s H K := by
  obtain ⟨v, hv, k⟩ := h
  exact fun w hw => ⟨v, w, hv w hw, .refl w, hw ▸ k⟩

theorem evR_pure {a : α} {K : α → Prop} (h : K a) : evR P (pure a) H K := ⟨a, fun _ _ => rfl, h⟩

theorem evR_bind {s : Sem α} {f : α → Sem β} {K : β → Prop} (h : evR P s H fun a => evR P (f a) H K) : evR P (s >>= f) H K := by
  obtain ⟨a, ha, b, hb, k⟩ := h
  exact ⟨b, fun w hw => by simp [ha w hw, hb w hw], k⟩

theorem evR.mono {s : Sem α} {K K' : α → Prop} (h : evR P s H K) (hk : ∀ v, K v → K' v) : evR P s H K' :=
  let ⟨v, hv, k⟩ := h; ⟨v, hv, hk _ k⟩
end

/-- A call comes back well from whatever world has this heap. -/
def hcall (P : Program) (f : FuncId) (args : Array Value) (H : Hp) (K : Value → Hp → Prop) : Prop :=
  ∀ w, hp w = H → Calls P f args w fun e w' => ∃ v, e = .returned v ∧ Rest w w' ∧ K v (hp w')

theorem hcall.mono {P : Program} {f : FuncId} {args : Array Value} {H : Hp} {K K' : Value → Hp → Prop} (h : hcall P f args H K)
    (hk : ∀ v H', K v H' → K' v H') : hcall P f args H K' :=
  fun w hw => (h w hw).mono fun _ _ ⟨v, e, r, k⟩ => ⟨v, e, r, hk _ _ k⟩

/-- What there was is there still. -/
def Dom (H H' : Hp) : Prop := ∀ b, H b ≠ none → H' b ≠ none
theorem Rest.dom {w w' : World} (h : Rest w w') : Dom (hp w) (hp w') := by
  intro b hb
  have := h.size
  have hb' : b < w.heap.size := by
    rcases Nat.lt_or_ge b w.heap.size with g | g
    · exact g
    · simp [hp, Array.getElem?_eq_none g] at hb
  simp [hp]; omega

theorem hcall.dom {P : Program} {f : FuncId} {args : Array Value} {H : Hp} {K : Value → Hp → Prop} (h : hcall P f args H K) :
    hcall P f args H fun v H' => Dom H H' ∧ K v H' :=
  fun w hw => (h w hw).mono fun _ _ ⟨v, e, r, k⟩ => ⟨v, e, r, hw ▸ r.dom, k⟩

/-! ## The small steps -/

def kindEq (j k : IntKind) : Bool := match j, k with
  | .i8, .i8 | .i16, .i16 | .i32, .i32 | .i64, .i64 | .u8, .u8 | .u16, .u16 | .u32, .u32 | .u64, .u64 => true
  | _, _ => false
theorem kindEq_iff {j k : IntKind} : kindEq j k = true ↔ j = k := by cases j <;> cases k <;> simp [kindEq]
theorem kindEq_refl (k : IntKind) : kindEq k k = true := by cases k <;> rfl

def asI (k : IntKind) (v : Value) (K : Int → Prop) : Prop := match v with | .int j n => cond (kindEq j k) (K n) False | _ => False
def asB (v : Value) (K : Bool → Prop) : Prop := match v with | .bool b => K b | _ => False
def asStr (v : Value) (K : ByteArray → Prop) : Prop := match v with | .string s => K s | _ => False
def asP (v : Value) (K : Option Addr → Prop) : Prop := match v with | .pointer p => K p | _ => False
def asA (v : Value) (K : Addr → Prop) : Prop := match v with | .pointer (some a) => K a | _ => False
def asSl (v : Value) (K : Option Addr → Nat → Nat → Prop) : Prop := match v with | .slice p l c => K p l c | _ => False
def asM (v : Value) (K : Option Nat → Prop) : Prop := match v with | .map r => K r | _ => False
def asFn (v : Value) (K : Fn → Array Value → Array Value → Prop) : Prop := match v with | .func f a c => K f a c | _ => False
def asAgg' (v : Value) (K : Array Value → Prop) : Prop := match v with | .agg c => K c | _ => False
def asTup (v : Value) (K : Array Value → Prop) : Prop := match v with | .tuple c => K c | _ => False

/-- What one cell holds, by its type. -/
inductive Leaf where
  | int (k : IntKind) | bool | str | ptr | sl | map | any

def Leaf.as : Leaf → Value → (Value → Prop) → Prop
  | .int k, u, K => asI k u fun n => K (.int k n)
  | .bool, u, K => asB u fun x => K (.bool x)
  | .str, u, K => asStr u fun x => K (.string x)
  | .ptr, u, K => asP u fun x => K (.pointer x)
  | .sl, u, K => asSl u fun p l c => K (.slice p l c)
  | .map, u, K => asM u fun x => K (.map x)
  | .any, u, K => K u

theorem asI_spec {k : IntKind} {u : Value} {K : Int → Prop} (h : asI k u K) : ∃ n, u = .int k n ∧ K n := by
  unfold asI at h
  split at h
  · rename_i j n
    cases hk : kindEq j k
    · simp [hk] at h
    · rw [hk] at h
      rw [kindEq_iff] at hk
      exact ⟨n, by rw [hk], h⟩
  · exact h.elim

theorem Leaf.as_spec {l : Leaf} {u : Value} {K : Value → Prop} (h : l.as u K) : K u := by
  cases l
  case int k =>
    obtain ⟨n, rfl, h'⟩ := asI_spec h
    exact h'
  all_goals simp only [Leaf.as, asB, asStr, asP, asSl, asM] at h
  all_goals first
    | exact h
    | (split at h <;> first | exact h | exact h.elim)

/-- Several cells, by their types. -/
def asLs : List Leaf → List Value → (List Value → Prop) → Prop
  | [], [], K => K []
  | l :: ls, v :: vs, K => l.as v fun v' => asLs ls vs fun vs' => K (v' :: vs')
  | _, _, _ => False

theorem asLs_spec {ls : List Leaf} {vs : List Value} {K : List Value → Prop} (h : asLs ls vs K) : K vs := by
  induction ls generalizing vs K with
  | nil => cases vs <;> simp_all [asLs]
  | cons l ls ih =>
    cases vs with
    | nil => exact h.elim
    | cons v vs =>
      have h1 : asLs ls vs fun vs' => K (v :: vs') := Leaf.as_spec (K := fun v' => asLs ls vs fun vs' => K (v' :: vs')) h
      exact ih (K := fun vs' => K (v :: vs')) h1

def unCons (l : List Value) (K : Value → List Value → Prop) : Prop := match l with | v :: r => K v r | [] => False
def unNil (l : List Value) (K : Prop) : Prop := match l with | [] => K | _ :: _ => False
def unN : Nat → List Value → (List Value → Prop) → Prop
  | 0, l, K => unNil l (K [])
  | n + 1, l, K => unCons l fun v r => unN n r fun vs => K (v :: vs)

theorem unN_spec {n : Nat} {l : List Value} {K : List Value → Prop} (h : unN n l K) : K l := by
  induction n generalizing l K with
  | zero => cases l <;> simp_all [unN, unNil]
  | succ n ih =>
    cases l with
    | nil => exact h.elim
    | cons v r => exact ih (K := fun vs => K (v :: vs)) h

def tup2 (v : Value) (K : Value → Value → Prop) : Prop := asTup v fun vs => unN 2 vs.toList fun l => match l with | [a, b] => K a b | _ => False
def tup3 (v : Value) (K : Value → Value → Value → Prop) : Prop := asTup v fun vs => unN 3 vs.toList fun l => match l with | [a, b, c] => K a b c | _ => False
def agg1 (v : Value) (K : Value → Prop) : Prop := asAgg' v fun vs => unN 1 vs.toList fun l => match l with | [a] => K a | _ => False
def agg2 (v : Value) (K : Value → Value → Prop) : Prop := asAgg' v fun vs => unN 2 vs.toList fun l => match l with | [a, b] => K a b | _ => False
def agg3 (v : Value) (K : Value → Value → Value → Prop) : Prop := asAgg' v fun vs => unN 3 vs.toList fun l => match l with | [a, b, c] => K a b c | _ => False
def agg4 (v : Value) (K : Value → Value → Value → Value → Prop) : Prop := asAgg' v fun vs => unN 4 vs.toList fun l => match l with | [a, b, c, d] => K a b c d | _ => False

/-- The leaves of a type: none: it is taken as it is. -/
def leaves (P : Program) : Nat → TypeId → Option (List Leaf)
  | 0, _ => none
  | n + 1, t =>
    match P.underlying t with
    | some .bool => some [.bool]
    | some (.int k) => some [.int k]
    | some .string => some [.str]
    | some (.pointer _) => some [.ptr]
    | some (.slice _) => some [.sl]
    | some (.map _ _) => some [.map]
    | some (.func _ _ _) => some [.any]
    | some (.struct fs) => fs.toList.foldr (fun f acc => match leaves P n f.type, acc with | some a, some b => some (a ++ b) | _, _ => none) (some [])
    | _ => none

def aggT (P : Program) (t : TypeId) : Bool := match P.underlying t with | some (.struct _) | some (.array _ _) => true | _ => false

/-- A value, by its type. -/
def asT (P : Program) (t : TypeId) (v : Value) (K : Value → Prop) : Prop :=
  match leaves P 6 t with
  | some ls =>
    match aggT P t with
    | true => asAgg' v fun cs => unN ls.length cs.toList fun l => asLs ls l fun vs => K (.agg ⟨vs⟩)
    | false => match ls with | [l] => l.as v K | _ => K v
  | none => K v

theorem asT_spec {P : Program} {t : TypeId} {v : Value} {K : Value → Prop} (h : asT P t v K) : K v := by
  unfold asT at h
  split at h
  · split at h
    · cases v <;> simp only [asAgg'] at h
      exact asLs_spec (unN_spec h)
    · split at h
      · exact Leaf.as_spec h
      · exact h
  · exact h

def asTs (P : Program) : List TypeId → List Value → (List Value → Prop) → Prop
  | [], [], K => K []
  | t :: ts, v :: vs, K => asT P t v fun v' => asTs P ts vs fun vs' => K (v' :: vs')
  | _, _, _ => False

theorem asTs_spec {P : Program} {ts : List TypeId} {vs : List Value} {K : List Value → Prop} (h : asTs P ts vs K) : K vs := by
  induction ts generalizing vs K with
  | nil => cases vs <;> simp_all [asTs]
  | cons l ls ih =>
    cases vs with
    | nil => exact h.elim
    | cons v vs =>
      have h1 : asTs P ls vs fun vs' => K (v :: vs') := asT_spec (K := fun v' => asTs P ls vs fun vs' => K (v' :: vs')) h
      exact ih (K := fun vs' => K (v :: vs')) h1

/-- What a call hands back, by its type: a tuple's parts each by itself. -/
def asRes (P : Program) (t : TypeId) (v : Value) (K : Value → Prop) : Prop :=
  match P.underlying t with
  | some (.tuple ts) => match ts.toList with
    | [] => K v
    | l => asTup v fun vs => unN l.length vs.toList fun us => asTs P l us fun vs' => K (.tuple ⟨vs'⟩)
  | _ => asT P t v K

theorem asRes_spec {P : Program} {t : TypeId} {v : Value} {K : Value → Prop} (h : asRes P t v K) : K v := by
  unfold asRes at h
  split at h
  · split at h
    · exact h
    · cases v <;> simp only [asTup] at h
      exact asTs_spec (unN_spec h)
  · exact asT_spec h

/-! ## Cells -/

def ld (a : Addr) (H : Hp) (K : Value → Prop) : Prop := match hcell H a with | some v => K v | none => False
def ldN (a : Addr) (H : Hp) : Nat → Nat → (List Value → Prop) → Prop
  | _, 0, K => K []
  | i, n + 1, K => ld (a.add i) H fun v => ldN a H (i + 1) n fun vs => K (v :: vs)
def ldLs (a : Addr) (H : Hp) : Nat → List Leaf → (List Value → Prop) → Prop
  | _, [], K => K []
  | i, l :: ls, K => ld (a.add i) H fun v => l.as v fun v' => ldLs a H (i + 1) ls fun vs => K (v' :: vs)
def cellsT (P : Program) (t : TypeId) : Nat := ((P.info? t).map (·.size)).getD 0

def ldT (P : Program) (t : TypeId) (a : Addr) (H : Hp) (K : Value → Prop) : Prop :=
  match P.underlying t with
  | none => False
  | some _ =>
  match aggT P t with
  | false => ld a H fun v => asT P t v K
  | true => match P.info? t with
    | none => False
    | some inf => match leaves P 6 t with
      | some ls => cond (ls.length == inf.size) (ldLs a H 0 ls fun vs => K (.agg ⟨vs⟩)) False
      | none => ldN a H 0 inf.size fun vs => K (.agg ⟨vs⟩)

def ldI (k : IntKind) (a : Addr) (H : Hp) (K : Int → Prop) : Prop := ld a H fun v => asI k v K
def ldB (a : Addr) (H : Hp) (K : Bool → Prop) : Prop := ld a H fun v => asB v K
def ldStr (a : Addr) (H : Hp) (K : ByteArray → Prop) : Prop := ld a H fun v => asStr v K
def ldP (a : Addr) (H : Hp) (K : Option Addr → Prop) : Prop := ld a H fun v => asP v K
def ldSl (a : Addr) (H : Hp) (K : Option Addr → Nat → Nat → Prop) : Prop := ld a H fun v => asSl v K
def ldM (a : Addr) (H : Hp) (K : Option Nat → Prop) : Prop := ld a H fun v => asM v K

def frz (f : Nat × Nat) (o : Nat) : Bool := f.1 ≤ o && o < f.2
def one (v : Value) : Bool := match v with | .agg _ | .tuple _ => false | _ => true
def st (a : Addr) (v : Value) (H : Hp) (K : Hp → Prop) : Prop :=
  match H a.block with
  | some (.cells c e f) => a.spot = none ∧ a.off < c.size ∧ frz f a.off = false ∧ K (upd H a.block (.cells (c.setIfInBounds a.off v) e f))
  | _ => False
def stL (a : Addr) : Nat → List Value → Hp → (Hp → Prop) → Prop
  | _, [], H, K => K H
  | i, v :: vs, H, K => cond (one v) (st (a.add i) v H fun H' => stL a (i + 1) vs H' K) False
def newB (o : Obj) (H : Hp) (K : Nat → Hp → Prop) : Prop := ∀ b, H b = none → K b (upd H b o)

end Go.Proofs.Ytohlnmenghbgbaa
