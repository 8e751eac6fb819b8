/- Merged by merge.py: ShA, ShB, ShC, ShC2, ShC3, ShC4, ShD, ShD2, ShD3, ShE, ShE2, ShF0. No condition. -/
import Derived.Calls
import Derived.Orders
import Derived.Scope
import Derived.Laws.Sem

namespace Go.Proofs.YtflfodcemnapeaaGreat
set_option linter.unusedSimpArgs false
set_option linter.unusedVariables false
open Go
abbrev Hp := Nat → Option Obj
def hp (w : World) : Hp := fun b => w.heap[b]?
def upd (H : Hp) (b : Nat) (o : Obj) : Hp := fun c => if c = b then some o else H c
def hcell (H : Hp) (a : Addr) : Option Value :=
 match H a.block with
 | some (.cells c _ _) => if a.spot.isSome then none else c[a.off]?
 | _ => none

theorem cell?_hp (w : World) (a : Addr) : w.cell? a = hcell (hp w) a := rfl

structure Rest (w w' : World) : Prop where
 os : w'.os = w.os
 tape : w'.tape = w.tape
 output : w'.output = w.output
 size : w.heap.size ≤ w'.heap.size
 drawn : w.drawn ≤ w'.drawn

theorem Rest.refl (w : World) : Rest w w := ⟨rfl, rfl, rfl, Nat.le_refl _, Nat.le_refl _⟩
theorem Rest.trans {a b c : World} (h : Rest a b) (k : Rest b c) : Rest a c :=
 ⟨k.os.trans h.os, k.tape.trans h.tape, k.output.trans h.output, Nat.le_trans h.size k.size, Nat.le_trans h.drawn k.drawn⟩

/-- A piece of the model runs well from whatever world has this heap. -/
def evW {α : Type} (P : Program) (s : Sem α) (H : Hp) (K : α → Hp → Prop) : Prop :=
 ∀ w, hp w = H → ∃ v w', s.run P w = .ok v w' ∧ Rest w w' ∧ K v (hp w')
/-- Likewise, and what it gives hangs on the heap alone, which stays. -/
def evR {α : Type} (P : Program) (s : Sem α) (H : Hp) (K : α → Prop) : Prop :=
 ∃ v, (∀ w, hp w = H → s.run P w = .ok v w) ∧ K v

section
variable {P : Program} {α β : Type} {H : Hp}
theorem evW.mono {s : Sem α} {K K' : α → Hp → Prop} (h : evW P s H K) (hk : ∀ v H', K v H' → K' v H') : evW P s H K' :=
 fun w hw => let ⟨v, w', hr, hs, k⟩ := h w hw; ⟨v, w', hr, hs, hk _ _ k⟩

end
/-- A call comes back well from whatever world has this heap. -/
def hcall (P : Program) (f : FuncId) (args : Array Value) (H : Hp) (K : Value → Hp → Prop) : Prop :=
 ∀ w, hp w = H → Calls P f args w fun e w' => ∃ v, e = .returned v ∧ Rest w w' ∧ K v (hp w')

theorem hcall.mono {P : Program} {f : FuncId} {args : Array Value} {H : Hp} {K K' : Value → Hp → Prop} (h : hcall P f args H K)
  (hk : ∀ v H', K v H' → K' v H') : hcall P f args H K' :=
 fun w hw => (h w hw).mono fun _ _ ⟨v, e, r, k⟩ => ⟨v, e, r, hk _ _ k⟩

/-! ## The small steps -/
def kindEq (j k : IntKind) : Bool := match j, k with
 | .i8, .i8 | .i16, .i16 | .i32, .i32 | .i64, .i64 | .u8, .u8 | .u16, .u16 | .u32, .u32 | .u64, .u64 => true
 | _, _ => false
theorem kindEq_iff {j k : IntKind} : kindEq j k = true ↔ j = k := by cases j <;> cases k <;> simp [kindEq]
theorem kindEq_refl (k : IntKind) : kindEq k k = true := by cases k <;> rfl

def asI (k : IntKind) (v : Value) (K : Int → Prop) : Prop := match v with | .int j n => cond (kindEq j k) (K n) False | _ => False
def asB (v : Value) (K : Bool → Prop) : Prop := match v with | .bool b => K b | _ => False
def asStr (v : Value) (K : ByteArray → Prop) : Prop := match v with | .string s => K s | _ => False
def asP (v : Value) (K : Option Addr → Prop) : Prop := match v with | .pointer p => K p | _ => False
def asA (v : Value) (K : Addr → Prop) : Prop := match v with | .pointer (some a) => K a | _ => False
def asSl (v : Value) (K : Option Addr → Nat → Nat → Prop) : Prop := match v with | .slice p l c => K p l c | _ => False
def asM (v : Value) (K : Option Nat → Prop) : Prop := match v with | .map r => K r | _ => False
def asFn (v : Value) (K : Fn → Array Value → Array Value → Prop) : Prop := match v with | .func f a c => K f a c | _ => False
def asAgg' (v : Value) (K : Array Value → Prop) : Prop := match v with | .agg c => K c | _ => False
def asTup (v : Value) (K : Array Value → Prop) : Prop := match v with | .tuple c => K c | _ => False

/-- What one cell holds, by its type. -/
inductive Leaf where
 | int (k : IntKind) | bool | str | ptr | sl | map | any

def Leaf.as : Leaf → Value → (Value → Prop) → Prop
 | .int k, u, K => asI k u fun n => K (.int k n)
 | .bool, u, K => asB u fun x => K (.bool x)
 | .str, u, K => asStr u fun x => K (.string x)
 | .ptr, u, K => asP u fun x => K (.pointer x)
 | .sl, u, K => asSl u fun p l c => K (.slice p l c)
 | .map, u, K => asM u fun x => K (.map x)
 | .any, u, K => K u

theorem asI_spec {k : IntKind} {u : Value} {K : Int → Prop} (h : asI k u K) : ∃ n, u = .int k n ∧ K n := by
 unfold asI at h
 split at h
 ·rename_i j n
  cases hk : kindEq j k
  ·simp [hk] at h
  ·rw [hk] at h
   rw [kindEq_iff] at hk
   exact ⟨n, by rw [hk], h⟩
 ·exact h.elim

theorem Leaf.as_spec {l : Leaf} {u : Value} {K : Value → Prop} (h : l.as u K) : K u := by
 cases l
 case int k =>
  obtain ⟨n, rfl, h'⟩ := asI_spec h
  exact h'
 all_goals simp only [Leaf.as, asB, asStr, asP, asSl, asM] at h
 all_goals first
  | exact h
  | (split at h <;> first | exact h | exact h.elim)

/-- Several cells, by their types. -/
def asLs : List Leaf → List Value → (List Value → Prop) → Prop
 | [], [], K => K []
 | l :: ls, v :: vs, K => l.as v fun v' => asLs ls vs fun vs' => K (v' :: vs')
 | _, _, _ => False

theorem asLs_spec {ls : List Leaf} {vs : List Value} {K : List Value → Prop} (h : asLs ls vs K) : K vs := by
 induction ls generalizing vs K with
 | nil => cases vs <;> simp_all [asLs]
 | cons l ls ih =>
  cases vs with
  | nil => exact h.elim
  | cons v vs =>
   have h1 : asLs ls vs fun vs' => K (v :: vs') := Leaf.as_spec (K := fun v' => asLs ls vs fun vs' => K (v' :: vs')) h
   exact ih (K := fun vs' => K (v :: vs')) h1

def unCons (l : List Value) (K : Value → List Value → Prop) : Prop := match l with | v :: r => K v r | [] => False
def unNil (l : List Value) (K : Prop) : Prop := match l with | [] => K | _ :: _ => False
def unN : Nat → List Value → (List Value → Prop) → Prop
 | 0, l, K => unNil l (K [])
 | n + 1, l, K => unCons l fun v r => unN n r fun vs => K (v :: vs)

theorem unN_spec {n : Nat} {l : List Value} {K : List Value → Prop} (h : unN n l K) : K l := by
 induction n generalizing l K with
 | zero => cases l <;> simp_all [unN, unNil]
 | succ n ih =>
  cases l with
  | nil => exact h.elim
  | cons v r => exact ih (K := fun vs => K (v :: vs)) h

def tup2 (v : Value) (K : Value → Value → Prop) : Prop := asTup v fun vs => unN 2 vs.toList fun l => match l with | [a, b] => K a b | _ => False
def tup3 (v : Value) (K : Value → Value → Value → Prop) : Prop := asTup v fun vs => unN 3 vs.toList fun l => match l with | [a, b, c] => K a b c | _ => False
def agg1 (v : Value) (K : Value → Prop) : Prop := asAgg' v fun vs => unN 1 vs.toList fun l => match l with | [a] => K a | _ => False
def agg2 (v : Value) (K : Value → Value → Prop) : Prop := asAgg' v fun vs => unN 2 vs.toList fun l => match l with | [a, b] => K a b | _ => False
def agg3 (v : Value) (K : Value → Value → Value → Prop) : Prop := asAgg' v fun vs => unN 3 vs.toList fun l => match l with | [a, b, c] => K a b c | _ => False
def agg4 (v : Value) (K : Value → Value → Value → Value → Prop) : Prop := asAgg' v fun vs => unN 4 vs.toList fun l => match l with | [a, b, c, d] => K a b c d | _ => False

/-- The leaves of a type: none: it is taken as it is. -/
def leaves (P : Program) : Nat → TypeId → Option (List Leaf)
 | 0, _ => none
 | n + 1, t =>
  match P.underlying t with
  | some .bool => some [.bool]
  | some (.int k) => some [.int k]
  | some .string => some [.str]
  | some (.pointer _) => some [.ptr]
  | some (.slice _) => some [.sl]
  | some (.map _ _) => some [.map]
  | some (.func _ _ _) => some [.any]
  | some (.struct fs) => fs.toList.foldr (fun f acc => match leaves P n f.type, acc with | some a, some b => some (a ++ b) | _, _ => none) (some [])
  | _ => none

def aggT (P : Program) (t : TypeId) : Bool := match P.underlying t with | some (.struct _) | some (.array _ _) => true | _ => false

/-- A value, by its type. -/
def asT (P : Program) (t : TypeId) (v : Value) (K : Value → Prop) : Prop :=
 match leaves P 6 t with
 | some ls =>
  match aggT P t with
  | true => asAgg' v fun cs => unN ls.length cs.toList fun l => asLs ls l fun vs => K (.agg ⟨vs⟩)
  | false => match ls with | [l] => l.as v K | _ => K v
 | none => K v

theorem asT_spec {P : Program} {t : TypeId} {v : Value} {K : Value → Prop} (h : asT P t v K) : K v := by
 unfold asT at h
 split at h
 ·split at h
  ·cases v <;> simp only [asAgg'] at h
   exact asLs_spec (unN_spec h)
  ·split at h
   ·exact Leaf.as_spec h
   ·exact h
 ·exact h

def asTs (P : Program) : List TypeId → List Value → (List Value → Prop) → Prop
 | [], [], K => K []
 | t :: ts, v :: vs, K => asT P t v fun v' => asTs P ts vs fun vs' => K (v' :: vs')
 | _, _, _ => False

theorem asTs_spec {P : Program} {ts : List TypeId} {vs : List Value} {K : List Value → Prop} (h : asTs P ts vs K) : K vs := by
 induction ts generalizing vs K with
 | nil => cases vs <;> simp_all [asTs]
 | cons l ls ih =>
  cases vs with
  | nil => exact h.elim
  | cons v vs =>
   have h1 : asTs P ls vs fun vs' => K (v :: vs') := asT_spec (K := fun v' => asTs P ls vs fun vs' => K (v' :: vs')) h
   exact ih (K := fun vs' => K (v :: vs')) h1

/-- What a call hands back, by its type: a tuple's parts each by itself. -/
def asRes (P : Program) (t : TypeId) (v : Value) (K : Value → Prop) : Prop :=
 match P.underlying t with
 | some (.tuple ts) => match ts.toList with
  | [] => K v
  | l => asTup v fun vs => unN l.length vs.toList fun us => asTs P l us fun vs' => K (.tuple ⟨vs'⟩)
 | _ => asT P t v K

theorem asRes_spec {P : Program} {t : TypeId} {v : Value} {K : Value → Prop} (h : asRes P t v K) : K v := by
 unfold asRes at h
 split at h
 ·split at h
  ·exact h
  ·cases v <;> simp only [asTup] at h
   exact asTs_spec (unN_spec h)
 ·exact asT_spec h

/-! ## Cells -/
def ld (a : Addr) (H : Hp) (K : Value → Prop) : Prop := match hcell H a with | some v => K v | none => False
def ldN (a : Addr) (H : Hp) : Nat → Nat → (List Value → Prop) → Prop
 | _, 0, K => K []
 | i, n + 1, K => ld (a.add i) H fun v => ldN a H (i + 1) n fun vs => K (v :: vs)
def ldLs (a : Addr) (H : Hp) : Nat → List Leaf → (List Value → Prop) → Prop
 | _, [], K => K []
 | i, l :: ls, K => ld (a.add i) H fun v => l.as v fun v' => ldLs a H (i + 1) ls fun vs => K (v' :: vs)
def cellsT (P : Program) (t : TypeId) : Nat := ((P.info? t).map (·.size)).getD 0

def ldT (P : Program) (t : TypeId) (a : Addr) (H : Hp) (K : Value → Prop) : Prop :=
 match P.underlying t with
 | none => False
 | some _ =>
 match aggT P t with
 | false => ld a H fun v => asT P t v K
 | true => match P.info? t with
  | none => False
  | some inf => match leaves P 6 t with
   | some ls => cond (ls.length == inf.size) (ldLs a H 0 ls fun vs => K (.agg ⟨vs⟩)) False
   | none => ldN a H 0 inf.size fun vs => K (.agg ⟨vs⟩)

def ldI (k : IntKind) (a : Addr) (H : Hp) (K : Int → Prop) : Prop := ld a H fun v => asI k v K
def ldB (a : Addr) (H : Hp) (K : Bool → Prop) : Prop := ld a H fun v => asB v K
def ldP (a : Addr) (H : Hp) (K : Option Addr → Prop) : Prop := ld a H fun v => asP v K
def ldSl (a : Addr) (H : Hp) (K : Option Addr → Nat → Nat → Prop) : Prop := ld a H fun v => asSl v K
def ldM (a : Addr) (H : Hp) (K : Option Nat → Prop) : Prop := ld a H fun v => asM v K

def frz (f : Nat × Nat) (o : Nat) : Bool := f.1 ≤ o && o < f.2
def one (v : Value) : Bool := match v with | .agg _ | .tuple _ => false | _ => true
def st (a : Addr) (v : Value) (H : Hp) (K : Hp → Prop) : Prop :=
 match H a.block with
 | some (.cells c e f) => a.spot = none ∧ a.off < c.size ∧ frz f a.off = false ∧ K (upd H a.block (.cells (c.setIfInBounds a.off v) e f))
 | _ => False
def stL (a : Addr) : Nat → List Value → Hp → (Hp → Prop) → Prop
 | _, [], H, K => K H
 | i, v :: vs, H, K => cond (one v) (st (a.add i) v H fun H' => stL a (i + 1) vs H' K) False
def newB (o : Obj) (H : Hp) (K : Nat → Hp → Prop) : Prop := ∀ b, H b = none → K b (upd H b o)

end Go.Proofs.YtflfodcemnapeaaGreat

namespace Go.Proofs.YtflfodcemnapeaaGreat
set_option linter.unusedSimpArgs false
set_option linter.unusedVariables false
open Go
abbrev Env := Nat → Option Value
def Env.set (env : Env) (d : Nat) (v : Value) : Env := fun i => cond (Nat.beq i d) (some v) (env i)
def Env.put (env : Env) (d : Option Tmp) (v : Value) : Env := match d with | none => env | some d => env.set d v

def ev (env : Env) : Operand → Option Value
 | .tmp t => env t
 | .const v => some v
 | .global g => some (.pointer (some ⟨g, 0, none⟩))
 | .func f => some (.func (.func f) #[] #[])

def ev1 (env : Env) (x : Operand) (K : Value → Prop) : Prop := match ev env x with | some v => K v | none => False
def evL (env : Env) : List Operand → (List Value → Prop) → Prop
 | [], K => K []
 | x :: xs, K => ev1 env x fun v => evL env xs fun vs => K (v :: vs)

/-- The environment speaks of these operands as the run does. -/
def Agree (env : Env) (ρ : Operand → Value) (xs : List Operand) : Prop := ∀ x v, x ∈ xs → ev env x = some v → ρ x = v

/-! ## Numbers -/
def bitOp (op : BinOp) (k : IntKind) (x y : Int) : Int :=
 match op with
 | .and => k.wrap (BitVec.ofInt k.bits x &&& BitVec.ofInt k.bits y).toNat
 | .or => k.wrap (BitVec.ofInt k.bits x ||| BitVec.ofInt k.bits y).toNat
 | .xor => k.wrap (BitVec.ofInt k.bits x ^^^ BitVec.ofInt k.bits y).toNat
 | _ => k.wrap (BitVec.ofInt k.bits x &&& ~~~ BitVec.ofInt k.bits y).toNat

def shlI (k : IntKind) (x y : Int) : Int := k.wrap (x * 2 ^ (min y.toNat k.bits))
def shrI (k : IntKind) (x y : Int) : Int := x.fdiv (2 ^ (min y.toNat k.bits))

def binI (op : BinOp) (k : IntKind) (x y : Int) (K : Value → Prop) : Prop :=
 match op with
 | .add => K (.int k (k.wrap (x + y)))
 | .sub => K (.int k (k.wrap (x - y)))
 | .mul => K (.int k (k.wrap (x * y)))
 | .quo => y ≠ 0 ∧ K (.int k (k.wrap (x.tdiv y)))
 | .rem => y ≠ 0 ∧ K (.int k (x.tmod y))
 | .and => K (.int k (bitOp .and k x y))
 | .or => K (.int k (bitOp .or k x y))
 | .xor => K (.int k (bitOp .xor k x y))
 | .andNot => K (.int k (bitOp .andNot k x y))
 | .eql => K (.bool (x == y))
 | .neq => K (.bool (x != y))
 | .lss => K (.bool (decide (x < y)))
 | .leq => K (.bool (decide (x ≤ y)))
 | .gtr => K (.bool (decide (x > y)))
 | .geq => K (.bool (decide (x ≥ y)))
 | _ => False

def shI (op : BinOp) (k : IntKind) (x y : Int) (K : Value → Prop) : Prop :=
 match op with
 | .shl => 0 ≤ y ∧ K (.int k (shlI k x y))
 | .shr => 0 ≤ y ∧ K (.int k (shrI k x y))
 | _ => False

def boolT (P : Program) (t : TypeId) : Bool := match P.underlying t with | some .bool => true | _ => false
def strT (P : Program) (t : TypeId) : Bool := match P.underlying t with | some .string => true | _ => false
def ptrT (P : Program) (t : TypeId) : Bool := match P.underlying t with | some (.pointer _) => true | _ => false
def slT (P : Program) (t : TypeId) : Bool := match P.underlying t with | some (.slice _) => true | _ => false
def mapT (P : Program) (t : TypeId) : Bool := match P.underlying t with | some (.map _ _) => true | _ => false

def eqV (op : BinOp) (b : Bool) (K : Value → Prop) : Prop := match op with | .eql => K (.bool b) | .neq => K (.bool (!b)) | _ => False

def aggEq (op : BinOp) (t : TypeId) (x y : Array Value) : Sem Value := do eqGuard op t (.const (.bool true)) (.const (.bool true)) (.agg x) (.agg y); binOp op t (.agg x) (.agg y)

/-- A binary operation. -/
def binD (P : Program) (op : BinOp) (t : TypeId) (x y : Value) (H : Hp) (K : Value → Prop) : Prop :=
 match x, y with
 | .int k a, .int j b =>
  match op with
  | .shl => shI .shl k a b K
  | .shr => shI .shr k a b K
  | op => cond (kindEq j k) (binI op k a b K) False
 | .bool a, .bool b => cond (boolT P t) (eqV op (a == b) K) False
 | .string a, .string b => cond (strT P t) (eqV op (a.toList == b.toList) K) False
 | .pointer p, .pointer none => cond (ptrT P t) (eqV op p.isNone K) False
 | .slice p _ _, .slice none _ _ => cond (slT P t) (eqV op p.isNone K) False
 | .map p, .map none => cond (mapT P t) (eqV op p.isNone K) False
 | .agg x, .agg y => cond (aggT P t) (evR P (aggEq op t x y) H fun v => asB v fun b => K (.bool b)) False
 | _, _ => False

def unD (op : UnOp) (x : Value) (K : Value → Prop) : Prop :=
 match op, x with
 | .not, .bool b => K (.bool (!b))
 | .neg, .int k n => K (.int k (k.wrap (0 - n)))
 | _, _ => False

def intT (P : Program) (t : TypeId) : Option IntKind := match P.underlying t with | some (.int k) => some k | _ => none

def convD (P : Program) (src dst : TypeId) (x : Value) (H : Hp) (K : Value → Prop) : Prop :=
 match intT P src, intT P dst with
 | some _, some k => (match x with | .int _ n => K (.int k (k.wrap n)) | _ => False)
 | _, _ => evR P (convert src dst x) H fun v => asT P dst v K

def nilP (p : Option Addr) (K : Addr → Prop) : Prop := match p with | some a => K a | none => False
def nilD (x : Value) (K : Value → Prop) : Prop := match x with | .pointer p => nilP p fun a => K (.pointer (some a)) | _ => False

def structT (P : Program) (t : TypeId) : Option (Array Field) := match P.underlying t with | some (.struct fs) => some fs | _ => none

def fieldAddrD (P : Program) (t : TypeId) (x : Value) (f : Nat) (K : Value → Prop) : Prop :=
 match structT P t with
 | some fs => match fs[f]? with
  | some fl => cond (Nat.beq (cellsT P fl.type) 0) False (match P.info? fl.type with | some _ => asA x fun a => K (.pointer (some (a.add fl.offset))) | none => False)
  | none => False
 | none => False

def partD (P : Program) (t : TypeId) (cs : Array Value) (off : Nat) (K : Value → Prop) : Prop :=
 match P.underlying t with
 | none => False
 | some _ => match aggT P t with
  | true => (match P.info? t with | some i => K (.agg (cs.extract off (off + i.size))) | none => False)
  | false => match cs[off]? with | some v => K v | none => False

def fieldD (P : Program) (t : TypeId) (x : Value) (f : Nat) (K : Value → Prop) : Prop :=
 match structT P t with
 | some fs => match fs[f]? with
  | some fl => asAgg' x fun cs => partD P fl.type cs fl.offset K
  | none => False
 | none => False

def idxA (p : Option Addr) (len : Nat) (i : Int) (size : Nat) (K : Addr → Prop) : Prop :=
 match p with
 | some a => (0 ≤ i ∧ i < (len : Int)) ∧ K (a.add (i.toNat * size))
 | none => False

def indexAddrD (P : Program) (t : TypeId) (x i : Value) (K : Value → Prop) : Prop :=
 match i with
 | .int _ n => match P.underlying t, x with
  | some (.slice e), .slice p len _ => (match P.info? e with | some inf => idxA p len n inf.size fun a => K (.pointer (some a)) | none => False)
  | some (.array len e), .pointer p => (match P.info? e with | some inf => idxA p len n inf.size fun a => K (.pointer (some a)) | none => False)
  | _, _ => False
 | _ => False

def idxStr (s : ByteArray) (i : Int) (K : Int → Prop) : Prop := 0 ≤ i ∧ match s[i.toNat]? with | some b => K (b.toNat : Int) | none => False

def indexD (P : Program) (t ty : TypeId) (x i : Value) (H : Hp) (K : Value → Prop) : Prop :=
 cond (strT P t) (match x, i with | .string s, .int _ n => idxStr s n fun b => K (.int .u8 b) | _, _ => False) (evR P (Instr.index t x i) H fun v => asT P ty v K)

def slcP (p : Option Addr) (cap l size : Nat) : Option Addr := if cap = l then p else p.map (·.add (l * size))
def slcD (p : Option Addr) (len cap : Nat) (lo hi : Option Int) (size : Nat) (K : Option Addr → Nat → Nat → Prop) : Prop :=
 match lo, hi with
 | none, none => K (slcP p cap 0 size) len cap
 | some l, none => (0 ≤ l ∧ l ≤ (len : Int)) ∧ K (slcP p cap l.toNat size) (len - l.toNat) (cap - l.toNat)
 | none, some h => (0 ≤ h ∧ h ≤ (cap : Int)) ∧ K (slcP p cap 0 size) h.toNat cap
 | some l, some h => (0 ≤ h ∧ h ≤ (cap : Int)) ∧ (0 ≤ l ∧ l ≤ (h.toNat : Int)) ∧ K (slcP p cap l.toNat size) (h.toNat - l.toNat) (cap - l.toNat)

def intOpt (v : Option Value) (K : Option Int → Prop) : Prop :=
 match v with
 | none => K none
 | some (.int _ n) => K (some n)
 | _ => False

def evO (env : Env) (x : Option Operand) (K : Option Value → Prop) : Prop := match x with | none => K none | some x => ev1 env x fun v => K (some v)

def sliceD (P : Program) (t : TypeId) (x : Value) (lo hi mx : Option Value) (H : Hp) (K : Value → Prop) : Prop :=
 cond (slT P t)
  (match mx, P.underlying t, x with
  | none, some (.slice e), .slice p len cap => (match P.info? e with
   | some inf => intOpt lo fun l => intOpt hi fun h => slcD p len cap l h inf.size fun p l c => K (.slice p l c)
   | none => False)
  | _, _, _ => False)
  (evR P (Instr.sliceAt t x lo hi mx) H K)

def extractD (x : Value) (i : Nat) (K : Value → Prop) : Prop := asTup x fun vs => match vs[i]? with | some v => K v | none => False

def lenD (P : Program) (t : TypeId) (x : Value) (ty : TypeId) (H : Hp) (K : Value → Prop) : Prop :=
 cond (slT P t) (match x with | .slice _ n _ => K (.int .i64 n) | _ => False)
  (cond (strT P t) (match x with | .string s => K (.int .i64 s.size) | _ => False)
   (evR P (Builtin.len_ #[t] ty #[x]) H fun v => asI .i64 v fun n => K (.int .i64 n)))

def buildV (P : Program) (t : TypeId) (parts : List (Nat × Value)) : Option Value :=
 match P.info? t, structT P t with
 | some inf, some fs =>
  match inf.zero with
  | some z =>
   (Instr.fill ((fs.map fun f => (f.offset, cellsT P f.type))[·]?) z.cells parts).map .agg
  | none => none
 | _, _ => none

def evParts (env : Env) : List (Nat × Operand) → (List (Nat × Value) → Prop) → Prop
 | [], K => K []
 | (i, x) :: xs, K => ev1 env x fun v => evParts env xs fun vs => K ((i, v) :: vs)

def infoAll (P : Program) (fs : List Field) : Bool := fs.all fun f => (P.info? f.type).isSome

def buildA (P : Program) (t : TypeId) (parts : List (Nat × Value)) : Option Value :=
 match P.info? t, P.underlying t with
 | some inf, some (.array _ e) =>
  match inf.zero, P.info? e with
  | some z, some ie => (Instr.fill (fun i => some (i * ie.size, ie.size)) z.cells parts).map .agg
  | _, _ => none
 | _, _ => none

def buildD (P : Program) (t : TypeId) (parts : List (Nat × Value)) (K : Value → Prop) : Prop :=
 match structT P t with
 | none => match buildA P t parts with | some v => K v | none => False
 | some fs => cond (infoAll P fs.toList) (match buildV P t parts with | some v => K v | none => False) False

end Go.Proofs.YtflfodcemnapeaaGreat

namespace Go.Proofs.YtflfodcemnapeaaGreat
set_option linter.unusedSimpArgs false
set_option linter.unusedVariables false
open Go
def quietOp : Op → Bool
 | .move _ | .assign _ | .pick .. | .nilCheck _ | .binOp .. | .unOp .. | .convert .. | .extract .. | .fieldAddr .. | .field .. | .indexAddr .. | .index ..
 | .slice .. | .load .. | .lookup .. | .build .. | .makeFunc .. => true
 | .call c => match c.callee with | .builtin .len | .builtin .min | .builtin .max => true | _ => false
 | _ => false

def mmRead (P : Program) (argTypes : Array TypeId) : Bool := match argTypes.toList with | [t, _] => (intT P t).isNone | _ => true
def mmD (P : Program) (b : Builtin) (argTypes : Array TypeId) (ty : TypeId) (vs : List Value) (H : Hp) (K : Value → Prop) : Prop :=
 match b with
 | .min => cond (mmRead P argTypes) (evR P (Builtin.min_ argTypes ty ⟨vs⟩) H K) (match vs with | [.int k x, .int _ y] => K (.int k (if y < x then y else x)) | _ => False)
 | .max => cond (mmRead P argTypes) (evR P (Builtin.max_ argTypes ty ⟨vs⟩) H K) (match vs with | [.int k x, .int _ y] => K (.int k (if x < y then y else x)) | _ => False)
 | _ => False

def readOp (P : Program) : Op → Bool
 | .load .. | .lookup .. => true
 | .binOp _ t _ _ _ => aggT P t
 | .convert s d _ => (intT P s).isNone || (intT P d).isNone
 | .index t _ _ => !strT P t
 | .slice t _ _ _ _ => !slT P t
 | .call c => match c.callee with
  | .builtin .len => (match c.argTypes.toList with | [t] => !(slT P t || strT P t) | _ => true)
  | .builtin .min => mmRead P c.argTypes
  | .builtin .max => mmRead P c.argTypes
  | _ => true
 | _ => false

def denQ (P : Program) (env : Env) (o : Oper) (H : Hp) (K : Value → Prop) : Prop :=
 match o.op with
 | .move x => ev1 env x K
 | .assign x => ev1 env x K
 | .pick c x y => ev1 env c fun cv => asB cv fun b => cond b (ev1 env x K) (ev1 env y K)
 | .nilCheck x => ev1 env x fun v => nilD v K
 | .binOp op t x y _ => ev1 env x fun a => ev1 env y fun b => binD P op t a b H K
 | .unOp op _ x => ev1 env x fun v => unD op v K
 | .convert s d x => ev1 env x fun v => convD P s d v H K
 | .extract x i => ev1 env x fun v => extractD v i fun u => asT P o.type u K
 | .fieldAddr t x f => ev1 env x fun v => fieldAddrD P t v f K
 | .field t x f => ev1 env x fun v => fieldD P t v f K
 | .indexAddr t x i => ev1 env x fun a => ev1 env i fun b => indexAddrD P t a b K
 | .index t x i => ev1 env x fun a => ev1 env i fun b => indexD P t o.type a b H K
 | .slice t x lo hi mx => ev1 env x fun a => evO env lo fun l => evO env hi fun h => evO env mx fun m => sliceD P t a l h m H K
 | .load t x => ev1 env x fun v => asA v fun a => ldT P t a H K
 | .lookup t x i ok => ev1 env x fun a => ev1 env i fun b => evR P (Instr.lookup t a b ok) H fun v => asRes P o.type v K
 | .build t parts => evParts env parts.toList fun ps => buildD P t ps K
 | .makeFunc fn first cap => evL env first.toList fun a => evL env cap.toList fun b => K (.func fn ⟨a⟩ ⟨b⟩)
 | .call c => match c.callee with
  | .builtin .len => (match c.args.toList, c.argTypes.toList with | [x], [t] => ev1 env x fun v => lenD P t v o.type H K | _, _ => False)
  | .builtin b => evL env c.args.toList fun vs => mmD P b c.argTypes o.type vs H K
  | _ => False
 | _ => False

def bSem (b : Builtin) (argTypes : Array TypeId) (ty : TypeId) (args : Array Value) : Option (Sem Value) :=
 match b with
 | .append => some (Builtin.append_ argTypes ty args)
 | .cap => some (Builtin.cap_ argTypes ty args)
 | .clear => some (Builtin.clear_ argTypes ty args)
 | .copy => some (Builtin.copy_ argTypes ty args)
 | .delete => some (Builtin.delete_ argTypes ty args)
 | _ => none

def buildSliceV (P : Program) (e : TypeId) (len : Nat) (parts : List (Nat × Value)) : Option (Array Value) :=
 match P.info? e with
 | some inf =>
  match inf.zero with
  | some z => cond (Nat.ble (len * inf.size) (2 ^ 24))
    (Instr.fill (fun i => some (i * inf.size, inf.size)) ((Array.range (len * inf.size)).map ((cond (Nat.beq (len * inf.size) 0) #[] z.cells)[· % (cond (Nat.beq (len * inf.size) 0) #[] z.cells).size]!)) parts) none
  | none => none
 | none => none

/-- What a step of a range came to: over, or a key and what is there. -/
def nextC (v : Value) (A : Prop) (B : Value → Value → Prop) : Prop := match v with
 | .tuple ⟨[.bool false]⟩ => A
 | .tuple ⟨[.bool true, k, x]⟩ => B k x
 | _ => False
def denL (P : Program) (env : Env) (o : Oper) (H : Hp) (K : Value → Hp → Prop) : Prop :=
 match o.op with
 | .box t x => ev1 env x fun v => newB (.cells v.cells t) H fun b H' => K (.pointer (some ⟨b, 0, none⟩)) H'
 | .alloc t => match P.info? t with
  | some inf => (match inf.zero with | some z => newB (.cells z.cells t) H fun b H' => K (.pointer (some ⟨b, 0, none⟩)) H' | none => False)
  | none => False
 | .store t x y => ev1 env x fun v => asA v fun a => ev1 env y fun u => (match P.info? t with
  | some inf => cond (Nat.beq u.cells.size inf.size) (stL a 0 u.cells.toList H fun H' => K undef H') False
  | none => False)
 | .buildSlice t len parts => evParts env parts.toList fun ps => (match P.underlying t with
  | some (.slice e) => (match buildSliceV P e len ps with
   | some cs => newB (.cells cs e) H fun b H' => K (.slice (some ⟨b, 0, none⟩) len len) H'
   | none => False)
  | _ => False)
 | .makeSlice t l c => ev1 env l fun l => ev1 env c fun c => evW P (Instr.makeSlice t l c) H fun v H' => asSl v fun p l c => K (.slice p l c) H'
 | .makeMap t r => match r with
  | none => newB (.map #[] 0) H fun b H' => K (.map (some b)) H'
  | some x => ev1 env x fun v => evW P (Instr.makeMap t (some v)) H fun v H' => asM v fun m => K (.map m) H'
 | .mapUpdate t m k x => ev1 env m fun m => ev1 env k fun k => ev1 env x fun x => evW P (Instr.mapUpdate t m k x) H fun _ H' => K undef H'
 | .insert t m k x => ev1 env m fun m => ev1 env k fun k => ev1 env x fun x => evW P (Instr.mapUpdate t m k x) H fun _ H' => K undef H'
 | .mapEntry t m k => ev1 env m fun m => ev1 env k fun k => evW P (Instr.mapEntry t m k) H fun v H' => asRes P o.type v fun v => K v H'
 | .entryStore t m s x => ev1 env m fun m => ev1 env s fun s => ev1 env x fun x => evW P (Instr.entryStore t m s x) H fun _ H' => K undef H'
 | .range t x => ev1 env x fun x => evW P (Instr.range t x) H fun v H' => asA v fun a => K (.pointer (some a)) H'
 | .next x s => ev1 env x fun x => evW P (Instr.next x s o.type) H fun v H' => nextC v (K (.tuple #[.bool false]) H') fun k x => K (.tuple #[.bool true, k, x]) H'
 | .entry x => ev1 env x fun x => evW P (Instr.entry x) H K
 | .call c => match c.callee with
  | .builtin b => evL env c.args.toList fun vs => (match bSem b c.argTypes o.type ⟨vs⟩ with
   | some s => evW P s H fun v H' => asRes P o.type v fun v => K v H'
   | none => False)
  | .value f => ev1 env f fun fv => asFn fv fun fn first cap => (match fn with
   | .func f => (match P.funcs[f]? with
    | some g => cond (g.body.isSome && !(g.name == "runtime.NumGoroutine"))
      (evL env c.args.toList fun vs => hcall P f ⟨first.toList ++ vs ++ cap.toList⟩ H fun v H' => asRes P o.type v fun v => K v H') False
    | none => False)
   | _ => False)
  | _ => False
 | _ => False

/-- What an operation came to, as the run goes on from it. -/
def LoudOk (P : Program) (w : World) (K : Value → Hp → Prop) : Result Next → Prop
 | .ok (.value v) w' => Rest w w' ∧ K v (hp w')
 | .ok .skip w' => Rest w w' ∧ K undef (hp w')
 | .ok (.enter f args) w' => w' = w ∧ hcall P f args (hp w) K
 | _ => False

end Go.Proofs.YtflfodcemnapeaaGreat

namespace Go.Proofs.YtflfodcemnapeaaGreat
set_option linter.unusedSimpArgs false
set_option linter.unusedVariables false
open Go
variable {P : Program}
theorem run_underlying {t : TypeId} {d : TypeDesc} (h : P.underlying t = some d) (w : World) : (underlying t).run P w = .ok d w := by
 simp [underlying, h]
theorem run_typeInfo {t : TypeId} {d : TypeInfo} (h : P.info? t = some d) (w : World) : (typeInfo t).run P w = .ok d w := by
 simp [typeInfo, h]
theorem run_sizeOf {t : TypeId} {d : TypeInfo} (h : P.info? t = some d) (w : World) : (sizeOf t).run P w = .ok d.size w := by
 simp [sizeOf, run_typeInfo h]
theorem run_isAgg {t : TypeId} {d : TypeDesc} (h : P.underlying t = some d) (w : World) : (isAgg t).run P w = .ok (aggT P t) w := by
 simp only [isAgg, Sem.run_bind, run_underlying h, Result.andThen_ok, aggT, h]
 cases d <;> rfl

theorem run_load_some {w : World} {a : Addr} {v : Value} (h : hcell (hp w) a = some v) : (load a).run P w = .ok v w := by
 rw [run_load, cell?_hp, h]

theorem ldN_run {a : Addr} {H : Hp} : ∀ {n i : Nat} {K : List Value → Prop}, ldN a H i n K →
  ∃ vs, K vs ∧ ∀ w acc, hp w = H → (loadCellsFrom a i n acc).run P w = .ok (acc ++ vs.toArray) w := by
 intro n
 induction n with
 | zero => intro i K h; exact ⟨[], h, fun w acc _ => by simp [loadCellsFrom]⟩
 | succ n ih =>
  intro i K h
  unfold ldN ld at h
  split at h
  ·rename_i v hv
   obtain ⟨vs, k, hr⟩ := ih h
   refine ⟨v :: vs, k, fun w acc hw => ?_⟩
   subst hw
   simp only [loadCellsFrom, Sem.run_bind, run_load_some hv, Result.andThen_ok, hr _ _ rfl]
   simp
  ·exact h.elim

theorem ldLs_run {a : Addr} {H : Hp} : ∀ {ls : List Leaf} {i : Nat} {K : List Value → Prop}, ldLs a H i ls K →
  ∃ vs, K vs ∧ vs.length = ls.length ∧ ∀ w acc, hp w = H → (loadCellsFrom a i ls.length acc).run P w = .ok (acc ++ vs.toArray) w := by
 intro ls
 induction ls with
 | nil => intro i K h; exact ⟨[], h, rfl, fun w acc _ => by simp [loadCellsFrom]⟩
 | cons l ls ih =>
  intro i K h
  unfold ldLs ld at h
  split at h
  ·rename_i v hv
   obtain ⟨vs, k, hl, hr⟩ := ih (Leaf.as_spec h)
   refine ⟨v :: vs, k, by simp [hl], fun w acc hw => ?_⟩
   subst hw
   simp only [List.length_cons, loadCellsFrom, Sem.run_bind, run_load_some hv, Result.andThen_ok, hr _ _ rfl]
   simp
  ·exact h.elim

theorem ldT_run {t : TypeId} {a : Addr} {H : Hp} {K : Value → Prop} (h : ldT P t a H K) :
  ∃ v, K v ∧ ∀ w, hp w = H → (loadVar t a).run P w = .ok v w := by
 unfold ldT at h
 split at h
 ·exact h.elim
 rename_i d hd
 split at h
 ·rename_i hagg
  unfold ld at h
  split at h
  ·rename_i v hv
   refine ⟨v, asT_spec h, fun w hw => ?_⟩
   subst hw
   simp only [loadVar, Sem.run_bind, run_isAgg hd, Result.andThen_ok, hagg]
   simpa using run_load_some hv
  ·exact h.elim
 ·rename_i hagg
  split at h
  ·exact h.elim
  rename_i inf hinf
  split at h
  ·rename_i ls hls
   cases hb : (ls.length == inf.size)
   ·simp [hb] at h
   ·rw [hb] at h
    obtain ⟨vs, k, hl, hr⟩ := ldLs_run (P := P) h
    refine ⟨_, k, fun w hw => ?_⟩
    have e : ls.length = inf.size := by simpa using hb
    simp only [loadVar, Sem.run_bind, run_isAgg hd, Result.andThen_ok, hagg, if_true, run_sizeOf hinf, loadCells]
    rw [← e, hr w #[] hw]
    simp
  ·obtain ⟨vs, k, hr⟩ := ldN_run (P := P) h
   refine ⟨_, k, fun w hw => ?_⟩
   simp only [loadVar, Sem.run_bind, run_isAgg hd, Result.andThen_ok, hagg, if_true, run_sizeOf hinf, loadCells]
   rw [hr w #[] hw]
   simp

/-! ## Stores, new blocks -/
theorem hp_setCell {w : World} {a : Addr} {v : Value} {c : Array Value} {e : TypeId} {f : Nat × Nat} (h : hp w a.block = some (.cells c e f)) (hs : a.spot = none) :
  hp (w.setCell a v) = upd (hp w) a.block (.cells (c.setIfInBounds a.off v) e f) := by
 funext b
 simp only [hp, World.setCell, upd, Array.getElem?_modify]
 by_cases hb : b = a.block
 ·subst hb
  have h' : w.heap[a.block]? = some (.cells c e f) := h
  simp [h', hs]
 ·rw [if_neg (fun e => hb e.symm), if_neg hb]

theorem st_run {w : World} {a : Addr} {v : Value} {K : Hp → Prop} (hv : one v = true) (h : st a v (hp w) K) :
  ∃ w', (store a v).run P w = .ok () w' ∧ Rest w w' ∧ K (hp w') := by
 unfold st at h
 split at h
 ·rename_i c e f hc
  obtain ⟨hs, ho, hf, k⟩ := h
  refine ⟨w.setCell a v, ?_, ⟨rfl, rfl, rfl, by simp [World.setCell], Nat.le_refl _⟩, by rw [hp_setCell hc hs]; exact k⟩
  have h1 : v.oneCell' = true := by cases v <;> simp_all [one, Value.oneCell']
  have h2 : w.cell? a = some c[a.off] := by
   rw [cell?_hp]
   simp only [hcell, hc, hs]
   simp [ho]
  have h3 : w.frozen? a = false := by
   have hc' : w.heap[a.block]? = some (.cells c e f) := hc
   simp only [World.frozen?, hc']
   obtain ⟨f1, f2⟩ := f
   simpa [frz] using hf
  rw [run_store P w a v .plain h1, h2]
  simp [h3]
 ·exact h.elim

theorem stL_run {a : Addr} : ∀ {vs : List Value} {i : Nat} {w : World} {K : Hp → Prop}, stL a i vs (hp w) K →
  ∃ w', (storeCells a vs i).run P w = .ok () w' ∧ Rest w w' ∧ K (hp w') := by
 intro vs
 induction vs with
 | nil => intro i w K h; exact ⟨w, rfl, .refl w, h⟩
 | cons v vs ih =>
  intro i w K h
  unfold stL at h
  cases h1 : one v
  ·simp [h1] at h
  ·rw [h1, cond_true] at h
   obtain ⟨w1, r1, s1, k1⟩ := st_run (P := P) h1 h
   obtain ⟨w2, r2, s2, k2⟩ := ih k1
   exact ⟨w2, by simp only [storeCells, Sem.run_bind, r1, Result.andThen_ok, r2], s1.trans s2, k2⟩

theorem hp_push (w : World) (o : Obj) : hp { w with heap := w.heap.push o } = upd (hp w) w.heap.size o := by
 funext b
 simp only [hp, upd, Array.getElem?_push]

theorem rest_push (w : World) (o : Obj) : Rest w { w with heap := w.heap.push o } := ⟨rfl, rfl, rfl, by simp, Nat.le_refl _⟩

theorem newB_run {w : World} {o : Obj} {K : Nat → Hp → Prop} (h : newB o (hp w) K) : K w.heap.size (hp { w with heap := w.heap.push o }) := by
 rw [hp_push]
 exact h _ (by simp [hp])

/-! ## The quiet operations -/
theorem run_v {s : Sem Value} {v : Value} {w : World} (h : s.run P w = .ok v w) : ((do pure (.value (← s))) : Sem Next).run P w = .ok (.value v) w := by
  simp [h]

theorem binI_run {op : BinOp} {k : IntKind} {x y : Int} {K : Value → Prop} (h : binI op k x y K) (hs : op ≠ .shl) (hs' : op ≠ .shr) :
  ∃ v, K v ∧ ∀ (t : TypeId) (w : World), (binOp op t (.int k x) (.int k y)).run P w = .ok v w := by
 cases op <;> simp only [binI] at h <;> try exact h.elim
 all_goals first
  | exact (hs rfl).elim
  | exact (hs' rfl).elim
  | exact ⟨_, h, fun _ _ => by simp [binOp, Op.intArith, Op.intBits, Op.intCmp, bitOp]⟩
  | exact ⟨_, h.2, fun _ _ => by simp [binOp, Op.intDiv, h.1]⟩
  | exact ⟨_, h, fun _ _ => rfl⟩


theorem shI_run {op : BinOp} {k j : IntKind} {x y : Int} {K : Value → Prop} (h : shI op k x y K) :
  ∃ v, K v ∧ ∀ (t : TypeId) (w : World), (binOp op t (.int k x) (.int j y)).run P w = .ok v w := by
 cases op <;> simp only [shI] at h <;> try exact h.elim
 all_goals exact ⟨_, h.2, fun _ _ => by simp [binOp, Op.shift, shlI, shrI, Int.not_lt.2 h.1]⟩

theorem run_eqGuard {op : BinOp} {t : TypeId} {ox oy : Operand} {a b : Value} (ha : one a = true) (hb : a ≠ .nilIface) (w : World) :
  (eqGuard op t ox oy a b).run P w = .ok () w := by
 cases a <;> first
  | exact absurd rfl hb
  | (simp [one] at ha; done)
  | (cases op <;> rfl)

theorem run_bin {op : BinOp} {t : TypeId} {ox oy : Operand} {a b v : Value} {w : World} (ha : one a = true) (hb : a ≠ .nilIface) (h : (binOp op t a b).run P w = .ok v w) :
    ((do eqGuard op t ox oy a b; binOp op t a b) : Sem Value).run P w = .ok v w := by
  rw [Sem.run_bind, run_eqGuard ha hb, Result.andThen_ok, h]

theorem equalIn_bool {t : TypeId} (d : Nat) (hu : P.underlying t = some .bool) (a b : Bool) (w : World) :
  (Op.equalIn (d + 1) t (.bool a) (.bool b)).run P w = .ok (a == b) w := by
 simp [Op.equalIn, run_underlying hu]
theorem equalIn_ptr {t e : TypeId} (d : Nat) (hu : P.underlying t = some (.pointer e)) (p : Option Addr) (w : World) :
  (Op.equalIn (d + 1) t (.pointer p) (.pointer none)).run P w = .ok p.isNone w := by
 cases p <;> simp [Op.equalIn, run_underlying hu]
theorem equalIn_sl {t e : TypeId} (d : Nat) (hu : P.underlying t = some (.slice e)) (p : Option Addr) (l c l' c' : Nat) (w : World) :
  (Op.equalIn (d + 1) t (.slice p l c) (.slice none l' c')).run P w = .ok p.isNone w := by
 cases p <;> simp [Op.equalIn, run_underlying hu]
theorem equalIn_map {t e f : TypeId} (d : Nat) (hu : P.underlying t = some (.map e f)) (p : Option Nat) (w : World) :
  (Op.equalIn (d + 1) t (.map p) (.map none)).run P w = .ok p.isNone w := by
 cases p <;> simp [Op.equalIn, run_underlying hu]

theorem binD_run {op : BinOp} {t : TypeId} {ox oy : Operand} {x y : Value} {H : Hp} {K : Value → Prop} (h : binD P op t x y H K) :
    ∃ v, K v ∧ ∀ w, hp w = H → ((do eqGuard op t ox oy x y; binOp op t x y) : Sem Value).run P w = .ok v w := by
  unfold binD at h
  split at h
  · rename_i k a j b
    split at h
    · obtain ⟨v, k1, r⟩ := shI_run (P := P) (j := j) h
      exact ⟨v, k1, fun w _ => run_bin rfl (by simp) (r t w)⟩
    · obtain ⟨v, k1, r⟩ := shI_run (P := P) (j := j) h
      exact ⟨v, k1, fun w _ => run_bin rfl (by simp) (r t w)⟩
    · rename_i hs1 hs2
      cases hk : kindEq j k
      · simp [hk] at h
      · rw [hk, cond_true] at h
        rw [kindEq_iff] at hk
        subst hk
        obtain ⟨v, k1, r⟩ := binI_run (P := P) h hs1 hs2
        exact ⟨v, k1, fun w _ => run_bin rfl (by simp) (r t w)⟩
  · rename_i a b
    cases hb : boolT P t
    · simp [hb] at h
    · rw [hb, cond_true] at h
      have hu : P.underlying t = some .bool := by
        unfold boolT at hb
        split at hb
        · assumption
        · exact absurd hb (by simp)
      have he : ∀ w, (Op.equal t (.bool a) (.bool b)).run P w = .ok (a == b) w := equalIn_bool 9999 hu a b
      cases op <;> simp only [eqV] at h <;> try exact h.elim
      all_goals exact ⟨_, h, fun w _ => run_bin rfl (by simp) (by simp [binOp, he])⟩
  · rename_i a b
    cases hb : strT P t
    · simp [hb] at h
    · rw [hb, cond_true] at h
      cases op <;> simp only [eqV] at h <;> try exact h.elim
      all_goals exact ⟨_, h, fun w _ => run_bin rfl (by simp) (by simp [binOp, Op.stringOp, bne])⟩
  · rename_i p
    cases hb : ptrT P t
    · simp [hb] at h
    · rw [hb, cond_true] at h
      have hu : ∃ e, P.underlying t = some (.pointer e) := by
        unfold ptrT at hb
        split at hb
        · exact ⟨_, by assumption⟩
        · exact absurd hb (by simp)
      obtain ⟨e, hu⟩ := hu
      have he : ∀ w, (Op.equal t (.pointer p) (.pointer none)).run P w = .ok p.isNone w := equalIn_ptr 9999 hu p
      cases op <;> simp only [eqV] at h <;> try exact h.elim
      all_goals exact ⟨_, h, fun w _ => run_bin rfl (by simp) (by simp [binOp, he])⟩
  · rename_i p l c l' c'
    cases hb : slT P t
    · simp [hb] at h
    · rw [hb, cond_true] at h
      have hu : ∃ e, P.underlying t = some (.slice e) := by
        unfold slT at hb
        split at hb
        · exact ⟨_, by assumption⟩
        · exact absurd hb (by simp)
      obtain ⟨e, hu⟩ := hu
      have he : ∀ w, (Op.equal t (.slice p l c) (.slice none l' c')).run P w = .ok p.isNone w := equalIn_sl 9999 hu p l c l' c'
      cases op <;> simp only [eqV] at h <;> try exact h.elim
      all_goals exact ⟨_, h, fun w _ => run_bin rfl (by simp) (by simp [binOp, he])⟩
  · rename_i p
    cases hb : mapT P t
    · simp [hb] at h
    · rw [hb, cond_true] at h
      have hu : ∃ e f, P.underlying t = some (.map e f) := by
        unfold mapT at hb
        split at hb
        · exact ⟨_, _, by assumption⟩
        · exact absurd hb (by simp)
      obtain ⟨e, f, hu⟩ := hu
      have he : ∀ w, (Op.equal t (.map p) (.map none)).run P w = .ok p.isNone w := equalIn_map 9999 hu p
      cases op <;> simp only [eqV] at h <;> try exact h.elim
      all_goals exact ⟨_, h, fun w _ => run_bin rfl (by simp) (by simp [binOp, he])⟩
  · rename_i x y
    cases ha : aggT P t
    · simp [ha] at h
    · rw [ha, cond_true] at h
      obtain ⟨v, hv, k⟩ := h
      have k' : ∃ b, v = .bool b ∧ K (.bool b) := by
        unfold asB at k
        split at k
        · exact ⟨_, rfl, k⟩
        · exact k.elim
      obtain ⟨b, rfl, k⟩ := k'
      refine ⟨_, k, fun w hw => ?_⟩
      have h1 := hv w hw
      unfold aggEq at h1
      rw [Sem.run_bind] at h1 ⊢
      have e : (eqGuard op t ox oy (.agg x) (.agg y)).run P w = (eqGuard op t (.const (.bool true)) (.const (.bool true)) (.agg x) (.agg y)).run P w := rfl
      rw [e]
      exact h1
  · exact h.elim

theorem unD_run {op : UnOp} {x : Value} {K : Value → Prop} (h : unD op x K) : ∃ v, K v ∧ ∀ w, (Op.unary op x).run P w = .ok v w := by
 unfold unD at h
 split at h
 ·exact ⟨_, h, fun w => rfl⟩
 ·exact ⟨_, h, fun w => by simp [Op.unary, Op.intArith]⟩
 ·exact h.elim

theorem intT_some {t : TypeId} {k : IntKind} (h : intT P t = some k) : P.underlying t = some (.int k) := by
 unfold intT at h
 split at h
 ·rename_i e; cases h; exact e
 ·cases h

theorem convD_run {s d : TypeId} {x : Value} {H : Hp} {K : Value → Prop} (h : convD P s d x H K) :
  ∃ v, K v ∧ ∀ w, hp w = H → (convert s d x).run P w = .ok v w := by
 unfold convD at h
 split at h
 ·rename_i j k hs hk
  have hd := intT_some hs
  have hu := intT_some hk
  split at h
  ·exact ⟨_, h, fun w _ => by simp [convert, run_underlying hd, run_underlying hu, Conv.intToInt]⟩
  ·exact h.elim
 ·obtain ⟨v, hv, k⟩ := h
  exact ⟨v, asT_spec k, hv⟩

theorem strT_some {t : TypeId} (h : strT P t = true) : P.underlying t = some .string := by
 unfold strT at h
 split at h
 ·assumption
 ·cases h
theorem slT_some {t : TypeId} (h : slT P t = true) : ∃ e, P.underlying t = some (.slice e) := by
 unfold slT at h
 split at h
 ·exact ⟨_, by assumption⟩
 ·cases h

theorem structT_some {t : TypeId} {fs : Array Field} (h : structT P t = some fs) : P.underlying t = some (.struct fs) := by
 unfold structT at h
 split at h
 ·rename_i e; cases h; exact e
 ·cases h

theorem asA_spec {v : Value} {K : Addr → Prop} (h : asA v K) : ∃ a, v = .pointer (some a) ∧ K a := by
 unfold asA at h
 split at h
 ·exact ⟨_, rfl, h⟩
 ·exact h.elim

theorem fieldAddrD_run {t : TypeId} {x : Value} {f : Nat} {K : Value → Prop} (h : fieldAddrD P t x f K) :
  ∃ v, K v ∧ ∀ w, (Instr.fieldAt t x f).run P w = .ok v w := by
 unfold fieldAddrD at h
 split at h
 ·rename_i fs hfs
  split at h
  ·rename_i fl hfl
   cases h0 : Nat.beq (cellsT P fl.type) 0
   ·rw [h0, cond_false] at h
    split at h
    ·rename_i inf hinf
     obtain ⟨a, rfl, k⟩ := asA_spec h
     have hz : inf.size ≠ 0 := by
      intro e
      simp [cellsT, hinf, e] at h0
     exact ⟨_, k, fun w => by simp [Instr.fieldAt, run_underlying (structT_some hfs), hfl, Instr.sureAddr, fieldPlace, run_sizeOf hinf, hz]⟩
    ·exact h.elim
   ·simp [h0] at h
  ·exact h.elim
 ·exact h.elim

theorem partD_run {t : TypeId} {cs : Array Value} {off : Nat} {K : Value → Prop} (h : partD P t cs off K) :
  ∃ v, K v ∧ ∀ w, (part t cs off).run P w = .ok v w := by
 unfold partD at h
 split at h
 ·exact h.elim
 rename_i d hd
 split at h
 ·rename_i ha
  split at h
  ·rename_i inf hinf
   exact ⟨_, h, fun w => by simp [part, run_isAgg hd, ha, run_sizeOf hinf]⟩
  ·exact h.elim
 ·rename_i ha
  split at h
  ·rename_i v hv
   exact ⟨v, h, fun w => by simp [part, run_isAgg hd, ha, hv]⟩
  ·exact h.elim

theorem asAgg'_spec {v : Value} {K : Array Value → Prop} (h : asAgg' v K) : ∃ cs, v = .agg cs ∧ K cs := by
 unfold asAgg' at h
 split at h
 ·exact ⟨_, rfl, h⟩
 ·exact h.elim

theorem fieldD_run {t : TypeId} {x : Value} {f : Nat} {K : Value → Prop} (h : fieldD P t x f K) :
  ∃ v, K v ∧ ∀ w, (Instr.field t x f).run P w = .ok v w := by
 unfold fieldD at h
 split at h
 ·rename_i fs hfs
  split at h
  ·rename_i fl hfl
   obtain ⟨cs, rfl, k⟩ := asAgg'_spec h
   obtain ⟨v, k, hr⟩ := partD_run (P := P) k
   exact ⟨v, k, fun w => by simp [Instr.field, run_underlying (structT_some hfs), hfl, asAgg, hr]⟩
  ·exact h.elim
 ·exact h.elim

theorem indexAddrD_run {t : TypeId} {x i : Value} {K : Value → Prop} (h : indexAddrD P t x i K) :
  ∃ v, K v ∧ ∀ w, (Instr.indexAt t x i).run P w = .ok v w := by
 unfold indexAddrD at h
 split at h
 ·split at h
  ·rename_i e p len c he
   split at h
   ·rename_i inf hinf
    cases p with
    | none => exact h.elim
    | some a =>
     obtain ⟨hb, k⟩ := h
     exact ⟨_, k, fun w => by simp [Instr.indexAt, asIntOf, run_underlying he, hb, run_sizeOf hinf]⟩
   ·exact h.elim
  ·rename_i len e p he
   split at h
   ·rename_i inf hinf
    cases p with
    | none => exact h.elim
    | some a =>
     obtain ⟨hb, k⟩ := h
     exact ⟨_, k, fun w => by simp [Instr.indexAt, asIntOf, run_underlying he, hb, run_sizeOf hinf, Instr.sureAddr]⟩
   ·exact h.elim
  ·exact h.elim
 ·exact h.elim

theorem indexD_run {t ty : TypeId} {x i : Value} {H : Hp} {K : Value → Prop} (h : indexD P t ty x i H K) :
  ∃ v, K v ∧ ∀ w, hp w = H → (Instr.index t x i).run P w = .ok v w := by
 unfold indexD at h
 cases hs : strT P t
 ·rw [hs, cond_false] at h
  obtain ⟨v, hv, k⟩ := h
  exact ⟨v, asT_spec k, hv⟩
 ·rw [hs, cond_true] at h
  have hu := strT_some hs
  split at h
  ·obtain ⟨h0, h1⟩ := h
   split at h1
   ·rename_i b hb
    exact ⟨_, h1, fun w _ => by simp [Instr.index, asIntOf, run_underlying hu, h0, hb]⟩
   ·exact h1.elim
  ·exact h.elim

theorem sliceD_run {t : TypeId} {x : Value} {lo hi mx : Option Value} {H : Hp} {K : Value → Prop} (h : sliceD P t x lo hi mx H K) :
  ∃ v, K v ∧ ∀ w, hp w = H → (Instr.sliceAt t x lo hi mx).run P w = .ok v w := by
 unfold sliceD at h
 cases hs : slT P t
 ·rw [hs, cond_false] at h
  obtain ⟨v, hv, k⟩ := h
  exact ⟨v, k, hv⟩
 rw [hs, cond_true] at h
 split at h
 ·rename_i e p len cap he
  split at h
  ·rename_i inf hinf
   have key : ∀ (l h : Option Value) (a b c : Nat), (∀ w, (Instr.sliceBounds true len cap l h none).run P w = .ok (a, b, c) w) → ∀ w,
     (Instr.sliceAt t (.slice p len cap) l h none).run P w = .ok (.slice (slcP p c a inf.size) (b - a) (c - a)) w := by
    intro l h a b c hb w
    simp [Instr.sliceAt, run_underlying he, Instr.slice, hb, run_sizeOf hinf, slcP]
   unfold intOpt at h
   split at h
   ·split at h
    ·exact ⟨_, h, fun w _ => key _ _ 0 len cap (fun w => by simp [Instr.sliceBounds]) w⟩
    ·rename_i n
     obtain ⟨hh, k⟩ := h
     exact ⟨_, k, fun w _ => key _ _ 0 n.toNat cap (fun w => by simp [Instr.sliceBounds, Instr.sliceBound, asIntOf, hh]) w⟩
    ·exact h.elim
   ·split at h
    ·obtain ⟨hl, k⟩ := h
     exact ⟨_, k, fun w _ => key _ _ _ len cap (fun w => by simp [Instr.sliceBounds, Instr.sliceBound, asIntOf, hl]) w⟩
    ·rename_i m _ _ n
     obtain ⟨hh, hl, k⟩ := h
     have hl2 : m ≤ max n 0 := by omega
     exact ⟨_, k, fun w _ => key _ _ m.toNat n.toNat cap (fun w => by simp [Instr.sliceBounds, Instr.sliceBound, asIntOf, hh, hl.1, hl2]) w⟩
    ·exact h.elim
   ·exact h.elim
  ·exact h.elim
 ·exact h.elim

theorem extractD_run {x : Value} {i : Nat} {K : Value → Prop} (h : extractD x i K) : ∃ v, K v ∧ ∀ w, (Instr.extract x i).run P w = .ok v w := by
 unfold extractD asTup at h
 split at h
 ·split at h
  ·rename_i v hv
   exact ⟨v, h, fun w => by simp [Instr.extract, hv]⟩
  ·exact h.elim
 ·exact h.elim

theorem lenD_run {t ty : TypeId} {x : Value} {H : Hp} {K : Value → Prop} (h : lenD P t x ty H K) :
  ∃ v, K v ∧ ∀ w, hp w = H → (Builtin.len_ #[t] ty #[x]).run P w = .ok v w := by
 unfold lenD at h
 cases hs : slT P t
 ·rw [hs, cond_false] at h
  cases ht : strT P t
  ·rw [ht, cond_false] at h
   obtain ⟨v, hv, k⟩ := h
   obtain ⟨n, rfl, k⟩ := asI_spec k
   exact ⟨_, k, hv⟩
  ·rw [ht, cond_true] at h
   have hu := strT_some ht
   split at h
   ·exact ⟨_, h, fun w _ => by simp [Builtin.len_, run_underlying hu, goInt]⟩
   ·exact h.elim
 ·rw [hs, cond_true] at h
  obtain ⟨e, hu⟩ := slT_some hs
  split at h
  ·exact ⟨_, h, fun w _ => by simp [Builtin.len_, run_underlying hu, goInt]⟩
  ·exact h.elim

theorem infoAll_run {fs : List Field} (h : infoAll P fs = true) (w : World) :
    (fs.mapM fun f => (do pure (f.offset, ← sizeOf f.type) : Sem (Nat × Nat))).run P w = .ok (fs.map fun f => (f.offset, cellsT P f.type)) w := by
  induction fs with
  | nil => rfl
  | cons f fs ih =>
    simp only [infoAll, List.all_cons, Bool.and_eq_true] at h
    obtain ⟨h1, h2⟩ := h
    obtain ⟨inf, hinf⟩ := Option.isSome_iff_exists.1 h1
    rw [List.mapM_cons]
    simp only [Sem.run_bind, run_sizeOf hinf, Result.andThen_ok, Sem.run_pure, ih h2]
    simp [cellsT, hinf]

theorem buildD_run {t : TypeId} {ps : Array (Nat × Value)} {K : Value → Prop} (h : buildD P t ps.toList K) :
    ∃ v, K v ∧ ∀ w, (Instr.build t ps).run P w = .ok v w := by
  unfold buildD at h
  split at h
  · split at h
    · rename_i v hv
      refine ⟨v, h, fun w => ?_⟩
      unfold buildA at hv
      split at hv
      · rename_i inf n e hinf hu
        split at hv
        · rename_i z ie hz hie
          obtain ⟨cs, hcs, rfl⟩ := Option.map_eq_some_iff.1 hv
          simp only [Instr.build, Sem.run_bind, zeroValue, run_typeInfo hinf, Result.andThen_ok, hz, Sem.run_pure, run_underlying hu, run_sizeOf hie, hcs]
        · cases hv
      · cases hv
    · exact h.elim
  rename_i fs hfs
  cases hi : infoAll P fs.toList
  · simp [hi] at h
  · rw [hi, cond_true] at h
    split at h
    · rename_i v hv
      refine ⟨v, h, fun w => ?_⟩
      unfold buildV at hv
      split at hv
      · rename_i inf fs' hinf hfs'
        rw [hfs] at hfs'
        cases hfs'
        split at hv
        · rename_i z hz
          have hm : (fs.mapM fun f => (do pure (f.offset, ← sizeOf f.type) : Sem (Nat × Nat))).run P w = .ok (fs.map fun f => (f.offset, cellsT P f.type)) w := by
            rw [Array.mapM_eq_mapM_toList]
            rw [Sem.run_map, infoAll_run hi, Result.andThen_ok]
            congr 1
            apply Array.toList_inj.1
            simp
          obtain ⟨cs, hcs, rfl⟩ := Option.map_eq_some_iff.1 hv
          simp only [Instr.build, Sem.run_bind, zeroValue, run_typeInfo hinf, Result.andThen_ok, hz, Sem.run_pure, run_underlying (structT_some hfs), hm, hcs]
        · cases hv
      · cases hv
    · exact h.elim

theorem mmD_run {b : Builtin} {ats : Array TypeId} {ty : TypeId} {vs : List Value} {H : Hp} {K : Value → Prop} (h : mmD P b ats ty vs H K) :
  (b = .min ∨ b = .max) ∧ ∃ v, K v ∧ ∀ (consts : Array Bool) w, hp w = H → (builtin b ats ty consts ⟨vs⟩).run P w = .ok (.value v) w := by
 unfold mmD at h
 split at h
 ·cases hm : mmRead P ats
  ·rw [hm, cond_false] at h
   split at h
   ·exact ⟨.inl rfl, _, h, fun _ w _ => by simp [builtin, Builtin.min_, Builtin.min2]⟩
   ·exact h.elim
  ·rw [hm, cond_true] at h
   obtain ⟨v, hv, k⟩ := h
   exact ⟨.inl rfl, v, k, fun _ w hw => by simp [builtin, hv w hw]⟩
 ·cases hm : mmRead P ats
  ·rw [hm, cond_false] at h
   split at h
   ·exact ⟨.inr rfl, _, h, fun _ w _ => by simp [builtin, Builtin.max_, Builtin.max2]⟩
   ·exact h.elim
  ·rw [hm, cond_true] at h
   obtain ⟨v, hv, k⟩ := h
   exact ⟨.inr rfl, v, k, fun _ w hw => by simp [builtin, hv w hw]⟩
 ·exact h.elim

end Go.Proofs.YtflfodcemnapeaaGreat

namespace Go.Proofs.YtflfodcemnapeaaGreat
set_option linter.unusedSimpArgs false
set_option linter.unusedVariables false
open Go
variable {P : Program}
theorem nextC_spec {v : Value} {K : Value → Prop} (h : nextC v (K (.tuple #[.bool false])) fun k x => K (.tuple #[.bool true, k, x])) : K v := by
 unfold nextC at h
 split at h
 ·exact h
 ·exact h
 ·exact h.elim

theorem ev1_get {env : Env} {x : Operand} {K : Value → Prop} (h : ev1 env x K) : ∃ v, ev env x = some v ∧ K v := by
 unfold ev1 at h
 split at h
 ·exact ⟨_, by assumption, h⟩
 ·exact h.elim

theorem asB_spec {v : Value} {K : Bool → Prop} (h : asB v K) : ∃ b, v = .bool b ∧ K b := by
 unfold asB at h
 split at h
 ·exact ⟨_, rfl, h⟩
 ·exact h.elim

/-- What the environment says of the operands decides the run: one value, whatever run agrees with it. -/
theorem denQ_ok {env : Env} {o : Oper} {H : Hp} {K : Value → Prop} (h : denQ P env o H K) :
  ∃ v, K v ∧ ∀ (ρ : Operand → Value) w, Agree env ρ o.op.operands.toList → hp w = H → (execOp ρ o).run P w = .ok (.value v) w := by
 obtain ⟨dst, op, type, pos, after, guard⟩ := o
 unfold denQ at h
 cases op <;> simp only at h <;> try exact h.elim
 case move x =>
  obtain ⟨v, hv, k⟩ := ev1_get h
  exact ⟨v, k, fun ρ w ha _ => by simp [execOp, ha x v (by simp [Op.operands]) hv]⟩
 case assign x =>
  obtain ⟨v, hv, k⟩ := ev1_get h
  exact ⟨v, k, fun ρ w ha _ => by simp [execOp, ha x v (by simp [Op.operands]) hv]⟩
 case pick c x y =>
  obtain ⟨cv, hc, k⟩ := ev1_get h
  obtain ⟨b, rfl, k⟩ := asB_spec k
  cases b
  ·obtain ⟨v, hv, k⟩ := ev1_get k
   exact ⟨v, k, fun ρ w ha _ => by simp [execOp, ha c _ (by simp [Op.operands]) hc, ha y v (by simp [Op.operands]) hv, asBool]⟩
  ·obtain ⟨v, hv, k⟩ := ev1_get k
   exact ⟨v, k, fun ρ w ha _ => by simp [execOp, ha c _ (by simp [Op.operands]) hc, ha x v (by simp [Op.operands]) hv, asBool]⟩
 case nilCheck x =>
  obtain ⟨v, hv, k⟩ := ev1_get h
  unfold nilD at k
  split at k
  ·rename_i p
   cases p with
   | none => exact k.elim
   | some a => exact ⟨_, k, fun ρ w ha _ => by simp [execOp, ha x _ (by simp [Op.operands]) hv]⟩
  ·exact k.elim
 case binOp op t x y ty =>
  obtain ⟨a, hx, k⟩ := ev1_get h
  obtain ⟨b, hy, k⟩ := ev1_get k
  obtain ⟨v, k, hr⟩ := binD_run k
  refine ⟨v, k, fun ρ w ha hw => ?_⟩
  have e1 := ha x a (by simp [Op.operands]) hx
  have e2 := ha y b (by simp [Op.operands]) hy
  simp only [execOp, e1, e2]
  exact run_v (hr w hw)
 case unOp op t x =>
  obtain ⟨a, hx, k⟩ := ev1_get h
  obtain ⟨v, k, hr⟩ := unD_run (P := P) k
  refine ⟨v, k, fun ρ w ha hw => ?_⟩
  simp only [execOp, ha x a (by simp [Op.operands]) hx]
  exact run_v (hr w)
 case convert s d x =>
  obtain ⟨a, hx, k⟩ := ev1_get h
  obtain ⟨v, k, hr⟩ := convD_run k
  refine ⟨v, k, fun ρ w ha hw => ?_⟩
  simp only [execOp, ha x a (by simp [Op.operands]) hx]
  exact run_v (hr w hw)
 case extract x i =>
  obtain ⟨a, hx, k⟩ := ev1_get h
  obtain ⟨v, k, hr⟩ := extractD_run (P := P) k
  have k := asT_spec k
  refine ⟨v, k, fun ρ w ha hw => ?_⟩
  simp only [execOp, ha x a (by simp [Op.operands]) hx]
  exact run_v (hr w)
 case fieldAddr t x f =>
  obtain ⟨a, hx, k⟩ := ev1_get h
  obtain ⟨v, k, hr⟩ := fieldAddrD_run k
  refine ⟨v, k, fun ρ w ha hw => ?_⟩
  simp only [execOp, ha x a (by simp [Op.operands]) hx]
  exact run_v (hr w)
 case field t x f =>
  obtain ⟨a, hx, k⟩ := ev1_get h
  obtain ⟨v, k, hr⟩ := fieldD_run k
  refine ⟨v, k, fun ρ w ha hw => ?_⟩
  simp only [execOp, ha x a (by simp [Op.operands]) hx]
  exact run_v (hr w)
 case indexAddr t x i =>
  obtain ⟨a, hx, k⟩ := ev1_get h
  obtain ⟨b, hi, k⟩ := ev1_get k
  obtain ⟨v, k, hr⟩ := indexAddrD_run k
  refine ⟨v, k, fun ρ w ha hw => ?_⟩
  simp only [execOp, ha x a (by simp [Op.operands]) hx, ha i b (by simp [Op.operands]) hi]
  exact run_v (hr w)
 case index t x i =>
  obtain ⟨a, hx, k⟩ := ev1_get h
  obtain ⟨b, hi, k⟩ := ev1_get k
  obtain ⟨v, k, hr⟩ := indexD_run k
  refine ⟨v, k, fun ρ w ha hw => ?_⟩
  simp only [execOp, ha x a (by simp [Op.operands]) hx, ha i b (by simp [Op.operands]) hi]
  exact run_v (hr w hw)
 case slice t x lo hi mx =>
  obtain ⟨a, hx, k⟩ := ev1_get h
  have get : ∀ {y : Option Operand} {K : Option Value → Prop}, evO env y K → ∃ v, K v ∧ ∀ ρ : Operand → Value, (∀ z u, y = some z → ev env z = some u → ρ z = u) → y.map ρ = v := by
   intro y K hk
   cases y with
   | none => exact ⟨none, hk, fun _ _ => rfl⟩
   | some z =>
    obtain ⟨u, hu, k⟩ := ev1_get hk
    exact ⟨some u, k, fun ρ hρ => by simp [hρ z u rfl hu]⟩
  obtain ⟨l, k, hl⟩ := get k
  obtain ⟨h', k, hh⟩ := get k
  obtain ⟨m, k, hm⟩ := get k
  obtain ⟨v, k, hr⟩ := sliceD_run k
  refine ⟨v, k, fun ρ w ha hw => ?_⟩
  simp only [execOp, ha x a (by simp [Op.operands]) hx, hl ρ (fun z u e hz => ha z u (by simp [Op.operands, e]) hz), hh ρ (fun z u e hz => ha z u (by simp [Op.operands, e]) hz),
   hm ρ (fun z u e hz => ha z u (by simp [Op.operands, e]) hz)]
  exact run_v (hr w hw)
 case load t x =>
  obtain ⟨a, hx, k⟩ := ev1_get h
  obtain ⟨ad, rfl, k⟩ := asA_spec k
  obtain ⟨v, k, hr⟩ := ldT_run k
  refine ⟨v, k, fun ρ w ha hw => ?_⟩
  simp only [execOp, ha x _ (by simp [Op.operands]) hx]
  exact run_v (by simpa [Instr.loadAt, Instr.sureAddr] using hr w hw)
 case lookup t x i ok =>
  obtain ⟨a, hx, k⟩ := ev1_get h
  obtain ⟨b, hi, k⟩ := ev1_get k
  obtain ⟨v, hr, k⟩ := k
  refine ⟨v, asRes_spec k, fun ρ w ha hw => ?_⟩
  simp only [execOp, ha x a (by simp [Op.operands]) hx, ha i b (by simp [Op.operands]) hi]
  exact run_v (hr w hw)
 case build t parts =>
  have get : ∀ {ps : List (Nat × Operand)} {K : List (Nat × Value) → Prop}, evParts env ps K → ∃ vs, K vs ∧ ∀ ρ : Operand → Value, (∀ p ∈ ps, ∀ u, ev env p.2 = some u → ρ p.2 = u) → (ps.map fun p => (p.1, ρ p.2)) = vs := by
   intro ps
   induction ps with
   | nil => intro K hk; exact ⟨[], hk, fun _ _ => rfl⟩
   | cons p ps ih =>
    intro K hk
    obtain ⟨i, x⟩ := p
    obtain ⟨u, hu, k⟩ := ev1_get hk
    obtain ⟨vs, k, hvs⟩ := ih k
    exact ⟨(i, u) :: vs, k, fun ρ hρ => by simp [hρ (i, x) (by simp) u hu, hvs ρ (fun p hp => hρ p (by simp [hp]))]⟩
  obtain ⟨vs, k, hvs⟩ := get h
  obtain ⟨v, k, hr⟩ := buildD_run (ps := ⟨vs⟩) k
  refine ⟨v, k, fun ρ w ha hw => ?_⟩
  have e : (parts.map fun p => (p.1, ρ p.2)) = ⟨vs⟩ := by
   apply Array.toList_inj.1
   rw [Array.toList_map]
   exact hvs ρ (fun p hp u hu => ha p.2 u (by simp [Op.operands]; exact ⟨p.1, by simpa using hp⟩) hu)
  simp only [execOp]
  rw [show (parts.map fun x => match x with | (i, x) => (i, ρ x)) = (parts.map fun p => (p.1, ρ p.2)) from rfl, e]
  exact run_v (hr w)
 case makeFunc fn first cap =>
  have get : ∀ {ps : List Operand} {K : List Value → Prop}, evL env ps K → ∃ vs, K vs ∧ ∀ ρ : Operand → Value, (∀ p ∈ ps, ∀ u, ev env p = some u → ρ p = u) → ps.map ρ = vs := by
   intro ps
   induction ps with
   | nil => intro K hk; exact ⟨[], hk, fun _ _ => rfl⟩
   | cons x ps ih =>
    intro K hk
    obtain ⟨u, hu, k⟩ := ev1_get hk
    obtain ⟨vs, k, hvs⟩ := ih k
    exact ⟨u :: vs, k, fun ρ hρ => by simp [hρ x (by simp) u hu, hvs ρ (fun p hp => hρ p (by simp [hp]))]⟩
  obtain ⟨v1, k, h1⟩ := get h
  obtain ⟨v2, k, h2⟩ := get k
  refine ⟨_, k, fun ρ w ha hw => ?_⟩
  have e1 : first.map ρ = ⟨v1⟩ := by
   apply Array.toList_inj.1
   rw [Array.toList_map]
   exact h1 ρ (fun p hp u hu => ha p u (by simp [Op.operands]; exact .inl (by simpa using hp)) hu)
  have e2 : cap.map ρ = ⟨v2⟩ := by
   apply Array.toList_inj.1
   rw [Array.toList_map]
   exact h2 ρ (fun p hp u hu => ha p u (by simp [Op.operands]; exact .inr (by simpa using hp)) hu)
  simp only [execOp, e1, e2]
  exact run_v rfl
 case call c =>
  obtain ⟨callee, args, ats⟩ := c
  cases callee <;> simp only at h <;> try exact h.elim
  rename_i b
  have get : ∀ {ps : List Operand} {K : List Value → Prop}, evL env ps K → ∃ vs, K vs ∧ ∀ ρ : Operand → Value, (∀ p ∈ ps, ∀ u, ev env p = some u → ρ p = u) → ps.map ρ = vs := by
   intro ps
   induction ps with
   | nil => intro K hk; exact ⟨[], hk, fun _ _ => rfl⟩
   | cons x ps ih =>
    intro K hk
    obtain ⟨u, hu, k⟩ := ev1_get hk
    obtain ⟨vs, k, hvs⟩ := ih k
    exact ⟨u :: vs, k, fun ρ hρ => by simp [hρ x (by simp) u hu, hvs ρ (fun p hp => hρ p (by simp [hp]))]⟩
  have mm : (evL env args.toList fun vs => mmD P b ats type vs H K) → ∃ v, K v ∧ ∀ (ρ : Operand → Value) w, Agree env ρ (Op.call ⟨.builtin b, args, ats⟩).operands.toList → hp w = H →
    (execOp ρ ⟨dst, .call ⟨.builtin b, args, ats⟩, type, pos, after, guard⟩).run P w = .ok (.value v) w := by
   intro h
   obtain ⟨vs, k, hvs⟩ := get h
   obtain ⟨_, v, k, hr⟩ := mmD_run k
   refine ⟨v, k, fun ρ w ha hw => ?_⟩
   have e : args.map ρ = ⟨vs⟩ := by
    apply Array.toList_inj.1
    rw [Array.toList_map]
    exact hvs ρ (fun p hp u hu => ha p u (by simp [Op.operands, Call.operands]; simpa using hp) hu)
   simp only [execOp, resolve, e, Sem.run_bind, Sem.run_pure, Result.andThen_ok, invoke]
   exact hr _ w hw
  cases b <;> try exact mm h
  simp only at h
  split at h
  ·rename_i x t hx ht
   obtain ⟨u, hu, k⟩ := ev1_get h
   obtain ⟨v, k, hr⟩ := lenD_run k
   refine ⟨v, k, fun ρ w ha hw => ?_⟩
   have e1 : args = #[x] := Array.toList_inj.1 hx
   have e2 : ats = #[t] := Array.toList_inj.1 ht
   subst e1
   subst e2
   have e := ha x u (by simp [Op.operands, Call.operands]) hu
   simp only [execOp, resolve, Sem.run_bind, Sem.run_pure, Result.andThen_ok, invoke, builtin]
   simp only [List.map_toArray, List.map_cons, List.map_nil, e, hr w hw, Result.andThen_ok]
  ·exact h.elim



/-! ## What hangs on the heap -/
theorem binD_any {op : BinOp} {t : TypeId} {x y : Value} {H H' : Hp} {K : Value → Prop} (hr : aggT P t = false) (h : binD P op t x y H K) :
  binD P op t x y H' K := by
 unfold binD at h ⊢
 split at h
 all_goals first
  | exact h
  | (rw [hr, cond_false] at h; exact h.elim)

theorem convD_any {s d : TypeId} {x : Value} {H H' : Hp} {K : Value → Prop} (hr : ((intT P s).isNone || (intT P d).isNone) = false) (h : convD P s d x H K) : convD P s d x H' K := by
 unfold convD at h ⊢
 split at h
 ·exact h
 ·rename_i h1
  exfalso
  cases h2 : intT P s
  ·simp [h2] at hr
  ·cases h3 : intT P d
   ·simp [h3] at hr
   ·exact h1 _ _ h2 h3

theorem evO_mono {env : Env} {x : Option Operand} {K K' : Option Value → Prop} (h : evO env x K) (hk : ∀ v, K v → K' v) : evO env x K' := by
 cases x with
 | none => exact hk _ h
 | some y =>
  obtain ⟨v, hv, k⟩ := ev1_get h
  show ev1 env y _
  unfold ev1
  rw [hv]
  exact hk _ k
theorem ev1_mono {env : Env} {x : Operand} {K K' : Value → Prop} (h : ev1 env x K) (hk : ∀ v, K v → K' v) : ev1 env x K' := by
 obtain ⟨v, hv, k⟩ := ev1_get h
 unfold ev1
 rw [hv]
 exact hk _ k
theorem evL_mono {env : Env} {xs : List Operand} {K K' : List Value → Prop} (h : evL env xs K) (hk : ∀ v, K v → K' v) : evL env xs K' := by
 induction xs generalizing K K' with
 | nil => exact hk _ h
 | cons x xs ih => exact ev1_mono (K := fun v => evL env xs fun vs => K (v :: vs)) h fun v hv => ih hv fun vs k => hk _ k

theorem denQ_any {env : Env} {o : Oper} {H H' : Hp} {K : Value → Prop} (hr : readOp P o.op = false) (h : denQ P env o H K) : denQ P env o H' K := by
 obtain ⟨dst, op, type, pos, after, guard⟩ := o
 unfold denQ at h ⊢
 cases op <;> simp only at h ⊢ <;> try first | exact h | (simp [readOp] at hr; done)
 case binOp op t x y ty => exact ev1_mono h fun _ h => ev1_mono h fun _ h => binD_any hr h
 case convert s d x => exact ev1_mono h fun _ h => convD_any hr h
 case index t x i =>
  have hs : strT P t = true := by simpa [readOp] using hr
  refine ev1_mono h fun _ h => ev1_mono h fun _ h => ?_
  unfold indexD at h ⊢
  rw [hs, cond_true] at h ⊢
  exact h
 case slice t x lo hi mx =>
  have hs : slT P t = true := by simpa [readOp] using hr
  refine ev1_mono h fun _ h => evO_mono h fun _ h => evO_mono h fun _ h => evO_mono h fun _ h => ?_
  unfold sliceD at h ⊢
  rw [hs, cond_true] at h ⊢
  exact h
 case call c =>
  obtain ⟨callee, args, ats⟩ := c
  cases callee <;> simp only at h ⊢ <;> try exact h.elim
  rename_i b
  have mm : (hm : mmRead P ats = false) → (evL env args.toList fun vs => mmD P b ats type vs H K) → evL env args.toList fun vs => mmD P b ats type vs H' K := by
   intro hm h
   refine evL_mono h fun vs h => ?_
   unfold mmD at h ⊢
   cases b <;> simp only [hm, cond_false] at h ⊢ <;> exact h
  cases b <;> simp only [readOp] at h hr ⊢ <;> try first | exact mm hr h | contradiction
  split at h
  ·rename_i x t hx ht
   rw [ht] at hr
   refine ev1_mono h fun _ h => ?_
   unfold lenD at h ⊢
   cases hs : slT P t
   ·cases hs2 : strT P t
    ·simp [hs, hs2] at hr
    ·simp only [hs, hs2, cond_false, cond_true] at h ⊢; exact h
   ·simp only [hs, cond_true] at h ⊢; exact h
  ·exact h.elim

/-! ## The loud operations -/
theorem evW_loud {s : Sem Value} {w : World} {K : Value → Hp → Prop} (h : evW P s (hp w) K) : LoudOk P w K (((do pure (.value (← s))) : Sem Next).run P w) := by
  obtain ⟨v, w', hr, hs, k⟩ := h w rfl
  simp only [Sem.run_bind, hr, Result.andThen_ok, Sem.run_pure]
  exact ⟨hs, k⟩

theorem asSl_spec {v : Value} {K : Option Addr → Nat → Nat → Prop} (h : asSl v K) : ∃ p l c, v = .slice p l c ∧ K p l c := by
 unfold asSl at h
 split at h
 ·exact ⟨_, _, _, rfl, h⟩
 ·exact h.elim
theorem asM_spec {v : Value} {K : Option Nat → Prop} (h : asM v K) : ∃ m, v = .map m ∧ K m := by
 unfold asM at h
 split at h
 ·exact ⟨_, rfl, h⟩
 ·exact h.elim
theorem asFn_spec {v : Value} {K : Fn → Array Value → Array Value → Prop} (h : asFn v K) : ∃ f a c, v = .func f a c ∧ K f a c := by
 unfold asFn at h
 split at h
 ·exact ⟨_, _, _, rfl, h⟩
 ·exact h.elim

theorem evL_get {env : Env} {ps : List Operand} {K : List Value → Prop} (h : evL env ps K) :
  ∃ vs, K vs ∧ ∀ ρ : Operand → Value, (∀ p ∈ ps, ∀ u, ev env p = some u → ρ p = u) → ps.map ρ = vs := by
 induction ps generalizing K with
 | nil => exact ⟨[], h, fun _ _ => rfl⟩
 | cons x ps ih =>
  obtain ⟨u, hu, k⟩ := ev1_get h
  obtain ⟨vs, k, hvs⟩ := ih k
  exact ⟨u :: vs, k, fun ρ hρ => by simp [hρ x (by simp) u hu, hvs ρ (fun p hp => hρ p (by simp [hp]))]⟩

theorem evParts_get {env : Env} {ps : List (Nat × Operand)} {K : List (Nat × Value) → Prop} (h : evParts env ps K) :
  ∃ vs, K vs ∧ ∀ ρ : Operand → Value, (∀ p ∈ ps, ∀ u, ev env p.2 = some u → ρ p.2 = u) → (ps.map fun p => (p.1, ρ p.2)) = vs := by
 induction ps generalizing K with
 | nil => exact ⟨[], h, fun _ _ => rfl⟩
 | cons p ps ih =>
  obtain ⟨i, x⟩ := p
  obtain ⟨u, hu, k⟩ := ev1_get h
  obtain ⟨vs, k, hvs⟩ := ih k
  exact ⟨(i, u) :: vs, k, fun ρ hρ => by simp [hρ (i, x) (by simp) u hu, hvs ρ (fun p hp => hρ p (by simp [hp]))]⟩

theorem buildSlice_run {t e : TypeId} {len : Nat} {ps : List (Nat × Value)} {cs : Array Value} (he : P.underlying t = some (.slice e)) (hc : buildSliceV P e len ps = some cs) (w : World) :
  (Instr.buildSlice t len ⟨ps⟩).run P w = .ok (.slice (some ⟨w.heap.size, 0, none⟩) len len) { w with heap := w.heap.push (.cells cs e) } := by
 unfold buildSliceV at hc
 split at hc
 ·rename_i inf hinf
  split at hc
  ·rename_i z hz
   cases hb : Nat.ble (len * inf.size) (2 ^ 24)
   ·simp [hb] at hc
   ·rw [hb, cond_true] at hc
    have hle : ¬ len * inf.size > 2 ^ 24 := by
     have := Nat.le_of_ble_eq_true hb
     omega
    simp only [Instr.buildSlice, Sem.run_bind, run_underlying he, Result.andThen_ok, run_sizeOf hinf, if_neg hle]
    by_cases h0 : len * inf.size = 0
    ·have : Nat.beq (len * inf.size) 0 = true := by simp [h0]
     rw [this] at hc
     simp only [cond_true] at hc
     simp [h0] at hc ⊢
     simp [hc, newRow]
    ·have : Nat.beq (len * inf.size) 0 = false := by rw [← Bool.not_eq_true]; exact fun e => h0 (Nat.eq_of_beq_eq_true e)
     rw [this] at hc
     simp only [cond_false] at hc
     simp only [if_neg h0, Sem.run_bind, zeroValue, run_typeInfo hinf, Result.andThen_ok, hz, Sem.run_pure, hc]
     simp [newRow]
  ·cases hc
 ·cases hc

theorem denL_ok {env : Env} {o : Oper} {w : World} {K : Value → Hp → Prop} (h : denL P env o (hp w) K) (ρ : Operand → Value) (ha : Agree env ρ o.op.operands.toList) :
  LoudOk P w K ((execOp ρ o).run P w) := by
 obtain ⟨dst, op, type, pos, after, guard⟩ := o
 unfold denL at h
 cases op <;> simp only at h <;> try exact h.elim
 case box t x =>
  obtain ⟨v, hv, k⟩ := ev1_get h
  simp only [execOp, ha x v (by simp [Op.operands]) hv, Instr.box, newVar, newRow, Sem.run_bind, run_newObj, Result.andThen_ok, Sem.run_pure]
  exact ⟨rest_push _ _, newB_run k⟩
 case alloc t =>
  split at h
  ·rename_i inf hinf
   split at h
   ·rename_i z hz
    have e : (Instr.alloc t true (.tuple #[])).run P w = .ok (.pointer (some ⟨w.heap.size, 0, none⟩)) { w with heap := w.heap.push (.cells z.cells t) } := by
     simp [Instr.alloc, zeroValue, run_typeInfo hinf, hz, newVar, newRow]
    simp only [execOp, Sem.run_bind, e, Result.andThen_ok, Sem.run_pure]
    exact ⟨rest_push _ _, newB_run h⟩
   ·exact h.elim
  ·exact h.elim
 case store t x y =>
  obtain ⟨v, hv, k⟩ := ev1_get h
  obtain ⟨a, rfl, k⟩ := asA_spec k
  obtain ⟨u, hu, k⟩ := ev1_get k
  split at k
  ·rename_i inf hinf
   cases hb : Nat.beq u.cells.size inf.size
   ·simp [hb] at k
   ·rw [hb, cond_true] at k
    obtain ⟨w', hr, hs, k⟩ := stL_run (P := P) k
    have e : u.cells.size = inf.size := by simpa using hb
    simp only [execOp, ha x _ (by simp [Op.operands]) hv, ha y _ (by simp [Op.operands]) hu, Instr.storeAt, Instr.sureAddr, Sem.run_bind, Sem.run_pure, Result.andThen_ok, storeVar,
     run_sizeOf hinf, e, ne_eq, not_true_eq_false, if_false, hr]
    exact ⟨hs, k⟩
  ·exact k.elim
 case buildSlice t len parts =>
  obtain ⟨vs, k, hvs⟩ := evParts_get h
  have e : (parts.map fun p => (p.1, ρ p.2)) = ⟨vs⟩ := by
   apply Array.toList_inj.1
   rw [Array.toList_map]
   exact hvs ρ (fun p hp u hu => ha p.2 u (by simp [Op.operands]; exact ⟨p.1, by simpa using hp⟩) hu)
  split at k
  ·rename_i el hel
   split at k
   ·rename_i cs hcs
    simp only [execOp]
    rw [show (parts.map fun x => match x with | (i, x) => (i, ρ x)) = (parts.map fun p => (p.1, ρ p.2)) from rfl, e]
    simp only [Sem.run_bind, buildSlice_run hel hcs, Result.andThen_ok, Sem.run_pure]
    exact ⟨rest_push _ _, newB_run k⟩
   ·exact k.elim
  ·exact k.elim
 case makeSlice t l c =>
  obtain ⟨a, hl, k⟩ := ev1_get h
  obtain ⟨b, hc, k⟩ := ev1_get k
  simp only [execOp, ha l a (by simp [Op.operands]) hl, ha c b (by simp [Op.operands]) hc]
  exact evW_loud (k.mono fun v H h => by obtain ⟨p, l, c, rfl, h⟩ := asSl_spec h; exact h)
 case makeMap t r =>
  cases r with
  | none =>
   simp only [execOp, Instr.makeMap]
   simp only [Option.map_none, Sem.run_bind, Sem.run_pure, Result.andThen_ok, run_newObj]
   exact ⟨rest_push _ _, newB_run h⟩
  | some x =>
   obtain ⟨a, hx, k⟩ := ev1_get h
   simp only [execOp, Option.map_some, ha x a (by simp [Op.operands]) hx]
   exact evW_loud (k.mono fun v H h => by obtain ⟨m, rfl, h⟩ := asM_spec h; exact h)
 case mapUpdate t m k x =>
  obtain ⟨a, h1, h⟩ := ev1_get h
  obtain ⟨b, h2, h⟩ := ev1_get h
  obtain ⟨c, h3, h⟩ := ev1_get h
  simp only [execOp, ha m a (by simp [Op.operands]) h1, ha k b (by simp [Op.operands]) h2, ha x c (by simp [Op.operands]) h3]
  obtain ⟨v, w', hr, hs, k⟩ := h w rfl
  simp only [Sem.run_bind, hr, Result.andThen_ok, Sem.run_pure]
  exact ⟨hs, k⟩
 case insert t m k x =>
  obtain ⟨a, h1, h⟩ := ev1_get h
  obtain ⟨b, h2, h⟩ := ev1_get h
  obtain ⟨c, h3, h⟩ := ev1_get h
  simp only [execOp, ha m a (by simp [Op.operands]) h1, ha k b (by simp [Op.operands]) h2, ha x c (by simp [Op.operands]) h3]
  obtain ⟨v, w', hr, hs, k⟩ := h w rfl
  simp only [Sem.run_bind, hr, Result.andThen_ok, Sem.run_pure]
  exact ⟨hs, k⟩
 case mapEntry t m k =>
  obtain ⟨a, h1, h⟩ := ev1_get h
  obtain ⟨b, h2, h⟩ := ev1_get h
  simp only [execOp, ha m a (by simp [Op.operands]) h1, ha k b (by simp [Op.operands]) h2]
  exact evW_loud (h.mono fun v H h => asRes_spec (K := fun v => K v H) h)
 case entryStore t m k x =>
  obtain ⟨a, h1, h⟩ := ev1_get h
  obtain ⟨b, h2, h⟩ := ev1_get h
  obtain ⟨c, h3, h⟩ := ev1_get h
  simp only [execOp, ha m a (by simp [Op.operands]) h1, ha k b (by simp [Op.operands]) h2, ha x c (by simp [Op.operands]) h3]
  obtain ⟨v, w', hr, hs, k⟩ := h w rfl
  simp only [Sem.run_bind, hr, Result.andThen_ok, Sem.run_pure]
  exact ⟨hs, k⟩
 case range t x =>
  obtain ⟨a, h1, h⟩ := ev1_get h
  simp only [execOp, ha x a (by simp [Op.operands]) h1]
  exact evW_loud (h.mono fun v H h => by obtain ⟨m, rfl, h⟩ := asA_spec h; exact h)
 case next x s =>
  obtain ⟨a, h1, h⟩ := ev1_get h
  simp only [execOp, ha x a (by simp [Op.operands]) h1]
  exact evW_loud (h.mono fun v H h => nextC_spec (K := fun v => K v H) h)
 case entry x =>
  obtain ⟨a, h1, h⟩ := ev1_get h
  simp only [execOp, ha x a (by simp [Op.operands]) h1]
  exact evW_loud h
 case call c =>
  obtain ⟨callee, args, ats⟩ := c
  cases callee <;> simp only at h <;> try exact h.elim
  case builtin b =>
   obtain ⟨vs, k, hvs⟩ := evL_get h
   have e : args.map ρ = ⟨vs⟩ := by
    apply Array.toList_inj.1
    rw [Array.toList_map]
    exact hvs ρ (fun p hp u hu => ha p u (by simp [Op.operands, Call.operands]; simpa using hp) hu)
   split at k
   ·rename_i s hs
    simp only [execOp, resolve, e, Sem.run_bind, Sem.run_pure, Result.andThen_ok, invoke]
    have k' : evW P s (hp w) K := k.mono fun v H h => asRes_spec (K := fun v => K v H) h
    have := evW_loud k'
    simp only [Sem.run_bind] at this
    cases b <;> simp only [bSem] at hs <;> cases hs <;> simpa only [builtin, Sem.run_bind] using this
   ·exact k.elim
  case value f =>
   obtain ⟨fv, hf, h⟩ := ev1_get h
   obtain ⟨fn, first, cap, rfl, h'⟩ := asFn_spec h
   clear h
   have h := h'
   clear h'
   split at h
   ·rename_i fid
    split at h
    ·rename_i g hg
     cases hb : (g.body.isSome && !(g.name == "runtime.NumGoroutine"))
     ·simp [hb] at h
     ·rw [hb, cond_true] at h
      simp only [Bool.and_eq_true, Bool.not_eq_true'] at hb
      obtain ⟨vs, k, hvs⟩ := evL_get h
      have e : args.map ρ = ⟨vs⟩ := by
       apply Array.toList_inj.1
       rw [Array.toList_map]
       exact hvs ρ (fun p hp u hu => ha p u (by simp [Op.operands, Call.operands]; exact .inr (by simpa using hp)) hu)
      have ef := ha f _ (by simp [Op.operands, Call.operands]) hf
      have hnone : g.body.isNone = false := by
       cases hgb : g.body
       ·rw [hgb] at hb; simp at hb
       ·rfl
      simp only [execOp, resolve, e, ef, Deferred.ofValue, Sem.run_bind, Sem.run_pure, Result.andThen_ok, invoke, callFunc, run_program, hg, hb.2, hnone]
      have eargs : (first ++ (⟨vs⟩ : Array Value) ++ cap) = ⟨first.toList ++ vs ++ cap.toList⟩ := by
       apply Array.toList_inj.1
       simp
      rw [eargs]
      exact ⟨rfl, k.mono fun v H h => asRes_spec (K := fun v => K v H) h⟩
    ·exact h.elim
   ·exact h.elim

end Go.Proofs.YtflfodcemnapeaaGreat

namespace Go.Proofs.YtflfodcemnapeaaGreat
set_option linter.unusedSimpArgs false
set_option linter.unusedVariables false
open Go
variable {P : Program}
/-- Whatever is asked of what it gives, it is of one value. -/
def Det (F : (Value → Prop) → Prop) : Prop := ∀ K, F K → ∃ v, K v ∧ ∀ K' : Value → Prop, K' v → F K'

theorem Det.leaf (v : Value) : Det fun K => K v := fun _ h => ⟨v, h, fun _ h' => h'⟩
theorem Det.no : Det fun _ => False := fun _ h => h.elim
theorem Det.and {c : Prop} {F : (Value → Prop) → Prop} (h : Det F) : Det fun K => c ∧ F K := fun K ⟨hc, hf⟩ => let ⟨v, k, g⟩ := h K hf; ⟨v, k, fun K' k' => ⟨hc, g K' k'⟩⟩
theorem Det.cond {c : Bool} {F G : (Value → Prop) → Prop} (h : c = true → Det F) (g : c = false → Det G) : Det fun K => cond c (F K) (G K) := by
 cases c
 ·exact g rfl
 ·exact h rfl
theorem Det.ev1 {env : Env} {x : Operand} {F : Value → (Value → Prop) → Prop} (h : ∀ v, Det (F v)) : Det fun K => ev1 env x fun v => F v K := by
 intro K hk
 obtain ⟨u, hu, k⟩ := ev1_get hk
 obtain ⟨v, k, g⟩ := h u K k
 refine ⟨v, k, fun K' k' => ?_⟩
 show Go.Proofs.YtflfodcemnapeaaGreat.ev1 env x _
 unfold Go.Proofs.YtflfodcemnapeaaGreat.ev1
 rw [hu]
 exact g K' k'
theorem Det.evO {env : Env} {x : Option Operand} {F : Option Value → (Value → Prop) → Prop} (h : ∀ v, Det (F v)) : Det fun K => evO env x fun v => F v K := by
 cases x with
 | none => exact h none
 | some y => exact Det.ev1 (F := fun v K => F (some v) K) fun v => h (some v)
theorem Det.evL {env : Env} {xs : List Operand} {F : List Value → (Value → Prop) → Prop} (h : ∀ v, Det (F v)) : Det fun K => evL env xs fun v => F v K := by
 induction xs generalizing F with
 | nil => exact h []
 | cons x xs ih => exact Det.ev1 (F := fun v K => Go.Proofs.YtflfodcemnapeaaGreat.evL env xs fun vs => F (v :: vs) K) fun v => ih (F := fun vs K => F (v :: vs) K) fun vs => h (v :: vs)
theorem Det.evParts {env : Env} {xs : List (Nat × Operand)} {F : List (Nat × Value) → (Value → Prop) → Prop} (h : ∀ v, Det (F v)) : Det fun K => evParts env xs fun v => F v K := by
 induction xs generalizing F with
 | nil => exact h []
 | cons x xs ih =>
  obtain ⟨i, x⟩ := x
  exact Det.ev1 (F := fun v K => Go.Proofs.YtflfodcemnapeaaGreat.evParts env xs fun vs => F ((i, v) :: vs) K) fun v => ih (F := fun vs K => F ((i, v) :: vs) K) fun vs => h ((i, v) :: vs)
theorem Det.evR {s : Sem Value} {H : Hp} {F : Value → (Value → Prop) → Prop} (h : ∀ v, Det (F v)) : Det fun K => evR P s H fun v => F v K := by
 intro K hk
 obtain ⟨u, hu, k⟩ := hk
 obtain ⟨v, k, g⟩ := h u K k
 exact ⟨v, k, fun K' k' => ⟨u, hu, g K' k'⟩⟩
theorem Det.evR0 {s : Sem Value} {H : Hp} : Det fun K => Go.Proofs.YtflfodcemnapeaaGreat.evR P s H K := Det.evR (F := fun v K => K v) Det.leaf

theorem Det.asI {k : IntKind} {u : Value} {F : Int → (Value → Prop) → Prop} (h : ∀ v, Det (F v)) : Det fun K => asI k u fun v => F v K := by
 unfold Go.Proofs.YtflfodcemnapeaaGreat.asI
 split
 ·exact Det.cond (fun _ => h _) (fun _ => Det.no)
 ·exact Det.no
theorem Det.asB {u : Value} {F : Bool → (Value → Prop) → Prop} (h : ∀ v, Det (F v)) : Det fun K => asB u fun v => F v K := by
 unfold Go.Proofs.YtflfodcemnapeaaGreat.asB; split <;> first | exact h _ | exact Det.no
theorem Det.asStr {u : Value} {F : ByteArray → (Value → Prop) → Prop} (h : ∀ v, Det (F v)) : Det fun K => asStr u fun v => F v K := by
 unfold Go.Proofs.YtflfodcemnapeaaGreat.asStr; split <;> first | exact h _ | exact Det.no
theorem Det.asP {u : Value} {F : Option Addr → (Value → Prop) → Prop} (h : ∀ v, Det (F v)) : Det fun K => asP u fun v => F v K := by
 unfold Go.Proofs.YtflfodcemnapeaaGreat.asP; split <;> first | exact h _ | exact Det.no
theorem Det.asA {u : Value} {F : Addr → (Value → Prop) → Prop} (h : ∀ v, Det (F v)) : Det fun K => asA u fun v => F v K := by
 unfold Go.Proofs.YtflfodcemnapeaaGreat.asA; split <;> first | exact h _ | exact Det.no
theorem Det.asSl {u : Value} {F : Option Addr → Nat → Nat → (Value → Prop) → Prop} (h : ∀ a b c, Det (F a b c)) : Det fun K => asSl u fun a b c => F a b c K := by
 unfold Go.Proofs.YtflfodcemnapeaaGreat.asSl; split <;> first | exact h _ _ _ | exact Det.no
theorem Det.asM {u : Value} {F : Option Nat → (Value → Prop) → Prop} (h : ∀ v, Det (F v)) : Det fun K => asM u fun v => F v K := by
 unfold Go.Proofs.YtflfodcemnapeaaGreat.asM; split <;> first | exact h _ | exact Det.no
theorem Det.asAgg' {u : Value} {F : Array Value → (Value → Prop) → Prop} (h : ∀ v, Det (F v)) : Det fun K => asAgg' u fun v => F v K := by
 unfold Go.Proofs.YtflfodcemnapeaaGreat.asAgg'; split <;> first | exact h _ | exact Det.no
theorem Det.asTup {u : Value} {F : Array Value → (Value → Prop) → Prop} (h : ∀ v, Det (F v)) : Det fun K => asTup u fun v => F v K := by
 unfold Go.Proofs.YtflfodcemnapeaaGreat.asTup; split <;> first | exact h _ | exact Det.no
theorem Det.leafAs {l : Leaf} {u : Value} {F : Value → (Value → Prop) → Prop} (h : ∀ v, Det (F v)) : Det fun K => l.as u fun v => F v K := by
 cases l
 ·exact Det.asI fun _ => h _
 ·exact Det.asB fun _ => h _
 ·exact Det.asStr fun _ => h _
 ·exact Det.asP fun _ => h _
 ·exact Det.asSl fun _ _ _ => h _
 ·exact Det.asM fun _ => h _
 ·exact h _
theorem Det.asLs {ls : List Leaf} {us : List Value} {F : List Value → (Value → Prop) → Prop} (h : ∀ v, Det (F v)) : Det fun K => asLs ls us fun v => F v K := by
 induction ls generalizing us F with
 | nil => cases us <;> first | exact h [] | exact Det.no
 | cons l ls ih =>
  cases us with
  | nil => exact Det.no
  | cons u us => exact Det.leafAs (F := fun v K => Go.Proofs.YtflfodcemnapeaaGreat.asLs ls us fun vs => F (v :: vs) K) fun v => ih (F := fun vs K => F (v :: vs) K) fun vs => h (v :: vs)
theorem Det.unN {n : Nat} {l : List Value} {F : List Value → (Value → Prop) → Prop} (h : ∀ v, Det (F v)) : Det fun K => unN n l fun v => F v K := by
 induction n generalizing l F with
 | zero => cases l <;> first | exact h [] | exact Det.no
 | succ n ih =>
  cases l with
  | nil => exact Det.no
  | cons v r => exact ih (F := fun vs K => F (v :: vs) K) fun vs => h (v :: vs)
theorem Det.asT {t : TypeId} {u : Value} {F : Value → (Value → Prop) → Prop} (h : ∀ v, Det (F v)) : Det fun K => asT P t u fun v => F v K := by
 unfold Go.Proofs.YtflfodcemnapeaaGreat.asT
 split
 ·split
  ·exact Det.asAgg' (F := fun cs K => _) fun cs => Det.unN (F := fun l K => _) fun l => Det.asLs fun vs => h _
  ·split
   ·exact Det.leafAs h
   ·exact h _
 ·exact h _
theorem Det.asTs {ts : List TypeId} {us : List Value} {F : List Value → (Value → Prop) → Prop} (h : ∀ v, Det (F v)) : Det fun K => asTs P ts us fun v => F v K := by
 induction ts generalizing us F with
 | nil => cases us <;> first | exact h [] | exact Det.no
 | cons l ls ih =>
  cases us with
  | nil => exact Det.no
  | cons u us => exact Det.asT (F := fun v K => Go.Proofs.YtflfodcemnapeaaGreat.asTs P ls us fun vs => F (v :: vs) K) fun v => ih (F := fun vs K => F (v :: vs) K) fun vs => h (v :: vs)
theorem Det.asRes {t : TypeId} {u : Value} : Det fun K => asRes P t u K := by
 unfold Go.Proofs.YtflfodcemnapeaaGreat.asRes
 split
 ·split
  ·exact Det.leaf _
  ·exact Det.asTup (F := fun cs K => _) fun cs => Det.unN (F := fun l K => _) fun l => Det.asTs fun vs => Det.leaf _
 ·exact Det.asT Det.leaf

theorem Det.ld {a : Addr} {H : Hp} {F : Value → (Value → Prop) → Prop} (h : ∀ v, Det (F v)) : Det fun K => ld a H fun v => F v K := by
 unfold Go.Proofs.YtflfodcemnapeaaGreat.ld; split <;> first | exact h _ | exact Det.no
theorem Det.ldN {a : Addr} {H : Hp} {n i : Nat} {F : List Value → (Value → Prop) → Prop} (h : ∀ v, Det (F v)) : Det fun K => ldN a H i n fun v => F v K := by
 induction n generalizing i F with
 | zero => exact h []
 | succ n ih => exact Det.ld (F := fun v K => Go.Proofs.YtflfodcemnapeaaGreat.ldN a H (i + 1) n fun vs => F (v :: vs) K) fun v => ih (F := fun vs K => F (v :: vs) K) fun vs => h (v :: vs)
theorem Det.ldLs {a : Addr} {H : Hp} {ls : List Leaf} {i : Nat} {F : List Value → (Value → Prop) → Prop} (h : ∀ v, Det (F v)) : Det fun K => ldLs a H i ls fun v => F v K := by
 induction ls generalizing i F with
 | nil => exact h []
 | cons l ls ih => exact Det.ld (F := fun v K => l.as v fun v' => Go.Proofs.YtflfodcemnapeaaGreat.ldLs a H (i + 1) ls fun vs => F (v' :: vs) K) fun v => Det.leafAs (F := fun v' K => Go.Proofs.YtflfodcemnapeaaGreat.ldLs a H (i + 1) ls fun vs => F (v' :: vs) K) fun v' => ih (F := fun vs K => F (v' :: vs) K) fun vs => h (v' :: vs)
theorem Det.ldT {t : TypeId} {a : Addr} {H : Hp} : Det fun K => ldT P t a H K := by
 unfold Go.Proofs.YtflfodcemnapeaaGreat.ldT
 split
 ·exact Det.no
 ·split
  ·exact Det.ld (F := fun v K => Go.Proofs.YtflfodcemnapeaaGreat.asT P t v K) fun v => Det.asT Det.leaf
  ·split
   ·exact Det.no
   ·split
    ·exact Det.cond (fun _ => Det.ldLs (F := fun vs K => K (.agg ⟨vs⟩)) fun vs => Det.leaf _) (fun _ => Det.no)
    ·exact Det.ldN (F := fun vs K => K (.agg ⟨vs⟩)) fun vs => Det.leaf _

theorem Det.binI {op : BinOp} {k : IntKind} {x y : Int} : Det fun K => binI op k x y K := by
 unfold Go.Proofs.YtflfodcemnapeaaGreat.binI
 split <;> first | exact Det.leaf _ | exact Det.and (Det.leaf _) | exact Det.no
theorem Det.shI {op : BinOp} {k : IntKind} {x y : Int} : Det fun K => shI op k x y K := by
 unfold Go.Proofs.YtflfodcemnapeaaGreat.shI
 split <;> first | exact Det.and (Det.leaf _) | exact Det.no
theorem Det.eqV {op : BinOp} {b : Bool} : Det fun K => eqV op b K := by
 unfold Go.Proofs.YtflfodcemnapeaaGreat.eqV
 split <;> first | exact Det.leaf _ | exact Det.no
theorem Det.binD {op : BinOp} {t : TypeId} {x y : Value} {H : Hp} : Det fun K => binD P op t x y H K := by
 unfold Go.Proofs.YtflfodcemnapeaaGreat.binD
 split
 ·split
  ·exact Det.shI
  ·exact Det.shI
  ·exact Det.cond (fun _ => Det.binI) (fun _ => Det.no)
 all_goals first
  | exact Det.cond (fun _ => Det.eqV) (fun _ => Det.no)
  | exact Det.cond (fun _ => Det.evR (F := fun v K => _) fun v => Det.asB (F := fun b K => K (.bool b)) fun b => Det.leaf _) (fun _ => Det.no)
  | exact Det.no

theorem Det.slice {t : TypeId} {x : Value} {lo hi mx : Option Value} {H : Hp} : Det fun K => sliceD P t x lo hi mx H K := by
 unfold Go.Proofs.YtflfodcemnapeaaGreat.sliceD
 refine Det.cond (fun _ => ?_) (fun _ => Det.evR0)
 split
 ·split
  ·unfold intOpt
   split
   ·split <;> first | exact Det.no | exact Det.leaf _ | exact Det.and (Det.leaf _) | exact Det.and (Det.and (Det.leaf _))
   ·split <;> first | exact Det.no | exact Det.leaf _ | exact Det.and (Det.leaf _) | exact Det.and (Det.and (Det.leaf _))
   ·exact Det.no
  ·exact Det.no
 ·exact Det.no

theorem denQ_det {env : Env} {o : Oper} {H : Hp} : Det fun K => denQ P env o H K := by
 obtain ⟨dst, op, type, pos, after, guard⟩ := o
 unfold denQ
 cases op <;> simp only <;> try exact Det.no
 case move x => exact Det.ev1 Det.leaf
 case assign x => exact Det.ev1 Det.leaf
 case pick c x y => exact Det.ev1 (F := fun cv K => _) fun cv => Det.asB (F := fun b K => _) fun b => Det.cond (fun _ => Det.ev1 Det.leaf) (fun _ => Det.ev1 Det.leaf)
 case nilCheck x =>
  refine Det.ev1 (F := fun v K => nilD v K) fun v => ?_
  unfold nilD nilP
  split
  ·split <;> first | exact Det.leaf _ | exact Det.no
  ·exact Det.no
 case binOp op t x y ty => exact Det.ev1 (F := fun v K => _) fun a => Det.ev1 (F := fun v K => _) fun b => Det.binD
 case unOp op t x =>
  refine Det.ev1 (F := fun v K => unD op v K) fun v => ?_
  unfold unD
  split <;> first | exact Det.leaf _ | exact Det.no
 case convert s d x =>
  refine Det.ev1 (F := fun v K => convD P s d v H K) fun v => ?_
  unfold convD
  split
  ·split <;> first | exact Det.leaf _ | exact Det.no
  ·exact Det.evR (F := fun v K => asT P d v K) fun v => Det.asT Det.leaf
 case extract x i =>
  refine Det.ev1 (F := fun v K => extractD v i fun u => asT P type u K) fun v => ?_
  refine Det.asTup (F := fun vs K => _) fun vs => ?_
  split
  ·exact Det.asT (F := fun v K => K v) Det.leaf
  ·exact Det.no
 case fieldAddr t x f =>
  refine Det.ev1 (F := fun v K => fieldAddrD P t v f K) fun v => ?_
  unfold fieldAddrD
  split
  ·split
   ·refine Det.cond (fun _ => Det.no) (fun _ => ?_)
    split <;> first | exact Det.asA (F := fun a K => K _) fun a => Det.leaf _ | exact Det.no
   ·exact Det.no
  ·exact Det.no
 case field t x f =>
  refine Det.ev1 (F := fun v K => fieldD P t v f K) fun v => ?_
  unfold fieldD
  split
  ·split
   ·refine Det.asAgg' (F := fun cs K => partD P _ cs _ K) fun cs => ?_
    unfold partD
    split
    ·exact Det.no
    ·split
     ·split <;> first | exact Det.leaf _ | exact Det.no
     ·split <;> first | exact Det.leaf _ | exact Det.no
   ·exact Det.no
  ·exact Det.no
 case indexAddr t x i =>
  refine Det.ev1 (F := fun v K => _) fun a => Det.ev1 (F := fun v K => indexAddrD P t a v K) fun b => ?_
  unfold indexAddrD
  split
  ·split
   ·split
    ·unfold idxA; split <;> first | exact Det.and (Det.leaf _) | exact Det.no
    ·exact Det.no
   ·split
    ·unfold idxA; split <;> first | exact Det.and (Det.leaf _) | exact Det.no
    ·exact Det.no
   ·exact Det.no
  ·exact Det.no
 case index t x i =>
  refine Det.ev1 (F := fun v K => _) fun a => Det.ev1 (F := fun v K => indexD P t type a v H K) fun b => ?_
  unfold indexD
  refine Det.cond (fun _ => ?_) (fun _ => Det.evR (F := fun v K => asT P type v K) fun v => Det.asT Det.leaf)
  split
  ·unfold idxStr
   refine Det.and ?_
   split <;> first | exact Det.leaf _ | exact Det.no
  ·exact Det.no
 case slice t x lo hi mx => exact Det.ev1 (F := fun v K => _) fun a => Det.evO (F := fun v K => _) fun l => Det.evO (F := fun v K => _) fun h => Det.evO (F := fun v K => _) fun m => Det.slice
 case load t x => exact Det.ev1 (F := fun v K => _) fun v => Det.asA (F := fun a K => _) fun a => Det.ldT
 case lookup t x i ok => exact Det.ev1 (F := fun v K => _) fun a => Det.ev1 (F := fun v K => _) fun b => Det.evR (F := fun v K => asRes P type v K) fun v => Det.asRes
 case build t parts =>
  refine Det.evParts (F := fun ps K => buildD P t ps K) fun ps => ?_
  unfold buildD
  split
  ·split <;> first | exact Det.leaf _ | exact Det.no
  ·refine Det.cond (fun _ => ?_) (fun _ => Det.no)
   split <;> first | exact Det.leaf _ | exact Det.no
 case makeFunc fn first cap => exact Det.evL (F := fun a K => _) fun a => Det.evL (F := fun b K => K _) fun b => Det.leaf _
 case call c =>
  obtain ⟨callee, args, ats⟩ := c
  cases callee <;> simp only <;> try exact Det.no
  rename_i b
  have mm : Det fun K => evL env args.toList fun vs => mmD P b ats type vs H K := by
   refine Det.evL (F := fun vs K => mmD P b ats type vs H K) fun vs => ?_
   unfold mmD
   split
   ·refine Det.cond (fun _ => Det.evR0) (fun _ => ?_)
    split <;> first | exact Det.leaf _ | exact Det.no
   ·refine Det.cond (fun _ => Det.evR0) (fun _ => ?_)
    split <;> first | exact Det.leaf _ | exact Det.no
   ·exact Det.no
  cases b <;> simp only <;> try exact mm
  split
  ·refine Det.ev1 (F := fun v K => lenD P _ v type H K) fun v => ?_
   unfold lenD
   refine Det.cond (fun _ => ?_) (fun _ => Det.cond (fun _ => ?_) (fun _ => Det.evR (F := fun v K => _) fun v => Det.asI (F := fun n K => K _) fun n => Det.leaf _))
   ·split <;> first | exact Det.leaf _ | exact Det.no
   ·split <;> first | exact Det.leaf _ | exact Det.no
  ·exact Det.no

/-! ## What it hangs on -/
theorem ev1_congr {env env' : Env} {x : Operand} {K : Value → Prop} (h : ev env x = ev env' x) (hk : ev1 env x K) : ev1 env' x K := by
 unfold ev1 at *
 rw [← h]
 exact hk
theorem evL_congr {env env' : Env} {xs : List Operand} {K : List Value → Prop} (h : ∀ x ∈ xs, ev env x = ev env' x) (hk : evL env xs K) : evL env' xs K := by
 induction xs generalizing K with
 | nil => exact hk
 | cons x xs ih => exact ev1_congr (h x (by simp)) (ev1_mono (K := fun v => evL env xs fun vs => K (v :: vs)) hk fun v k => ih (K := fun vs => K (v :: vs)) (fun y hy => h y (by simp [hy])) k)
theorem evO_congr {env env' : Env} {x : Option Operand} {K : Option Value → Prop} (h : ∀ y, x = some y → ev env y = ev env' y) (hk : evO env x K) : evO env' x K := by
 cases x with
 | none => exact hk
 | some y => exact ev1_congr (K := fun v => K (some v)) (h y rfl) hk

/-- Of the operations that read: they hang on their operands. -/
theorem denQ_congr {env env' : Env} {o : Oper} {H : Hp} {K : Value → Prop} (hr : readOp P o.op = true) (he : ∀ x ∈ o.op.operands.toList, ev env x = ev env' x) (h : denQ P env o H K) : denQ P env' o H K := by
 obtain ⟨dst, op, type, pos, after, guard⟩ := o
 unfold denQ at h ⊢
 cases op <;> simp only at h ⊢ <;> try first | exact h | (simp [readOp] at hr; done)
 case binOp op t x y ty => exact ev1_congr (he x (by simp [Op.operands])) (ev1_mono h fun _ h => ev1_congr (he y (by simp [Op.operands])) h)
 case convert s d x => exact ev1_congr (he x (by simp [Op.operands])) h
 case index t x i => exact ev1_congr (he x (by simp [Op.operands])) (ev1_mono h fun _ h => ev1_congr (he i (by simp [Op.operands])) h)
 case slice t x lo hi mx =>
  exact ev1_congr (he x (by simp [Op.operands])) (ev1_mono h fun _ h => evO_congr (fun y e => he y (by simp [Op.operands, e])) (evO_mono h fun _ h => evO_congr (fun y e => he y (by simp [Op.operands, e]))
   (evO_mono h fun _ h => evO_congr (fun y e => he y (by simp [Op.operands, e])) h)))
 case load t x => exact ev1_congr (he x (by simp [Op.operands])) h
 case lookup t x i ok => exact ev1_congr (he x (by simp [Op.operands])) (ev1_mono h fun _ h => ev1_congr (he i (by simp [Op.operands])) h)
 case call c =>
  obtain ⟨callee, args, ats⟩ := c
  cases callee <;> simp only at h ⊢ <;> try exact h.elim
  rename_i b
  have ha : ∀ x ∈ args.toList, ev env x = ev env' x := fun x hx => he x (by simp [Op.operands, Call.operands]; simpa using hx)
  cases b <;> simp only at h ⊢ <;> try exact evL_congr ha h
  split at h
  ·rename_i x t hx ht
   exact ev1_congr (ha x (by simp [hx])) h
  ·exact h.elim

end Go.Proofs.YtflfodcemnapeaaGreat

namespace Go.Proofs.YtflfodcemnapeaaGreat
set_option linter.unusedSimpArgs false
set_option linter.unusedVariables false
open Go
def okDst (n : Nat) (d : Option Tmp) : Bool := match d with | none => true | some d => Nat.blt d n

def denO (P : Program) (n : Nat) (env : Env) (o : Oper) (H : Hp) (K : Env → Hp → Prop) : Prop :=
 cond (okDst n o.dst)
  (cond (quietOp o.op) (denQ P env o H fun v => K (env.put o.dst v) H) (denL P env o H fun v H' => K (env.put o.dst v) H')) False

/-- An operation under its guard, if it has one. -/
def denG (P : Program) (n : Nat) (ops : List Oper) (env : Env) (o : Oper) (H : Hp) (K : Env → Hp → Prop) : Prop :=
 match o.guard with
 | none => denO P n env o H K
 | some (j, want) =>
  match (ops[j]?).bind (·.dst) with
  | none => False
  | some d => match env d with
   | some (.bool b) =>
    cond b (match want with | true => denO P n (env.set d (.bool true)) o H K | false => cond (okDst n o.dst) (K ((env.set d (.bool true)).put o.dst undef) H) False)
     (match want with | true => cond (okDst n o.dst) (K ((env.set d (.bool false)).put o.dst undef) H) False | false => denO P n (env.set d (.bool false)) o H K)
   | some _ => cond (okDst n o.dst) (K (env.put o.dst undef) H) False
   | none => False

def denSeq (P : Program) (n : Nat) (ops : List Oper) : List Oper → Env → Hp → (Env → Hp → Prop) → Prop
 | [], env, H, K => K env H
 | o :: os, env, H, K => denG P n ops env o H fun env' H' => denSeq P n ops os env' H' K

/-! ## In every order -/
def aft (o : Oper) : List Nat := (o.after.toList.filter fun e => Region.binds .any e).map (·.on)
def zipI : List Oper → Nat → List (Nat × Oper)
 | [], _ => []
 | o :: os, i => (i, o) :: zipI os (i + 1)
def elemN (l : List Nat) (i : Nat) : Bool := match l with | [] => false | j :: l => cond (Nat.beq i j) true (elemN l i)
def readyI (Ld : List Nat) (p : Nat × Oper) : Bool := !elemN Ld p.1 && (aft p.2).all (elemN Ld)
def nextQ (l : List (Nat × Oper)) (Ld : List Nat) : Option (Nat × Oper) := l.find? fun p => quietOp p.2.op && readyI Ld p
def louds (l : List (Nat × Oper)) (Ld : List Nat) : List (Nat × Oper) := l.filter (readyI Ld)

/-- All that comes before, out of what comes right before: one way down. -/
def ancs : List (Nat × Oper) → List Nat → List Nat
 | [], S => S
 | p :: l, S => ancs l (cond (elemN S p.1) (aft p.2 ++ S) S)

def allL : List (Nat × Oper) → (Nat × Oper → Prop) → Prop
 | [], _ => True
 | [p], f => f p
 | p :: l, f => f p ∧ allL l f

/-- What was read reads likewise still. -/
def recheck (P : Program) (env : Env) (H : Hp) : List (Nat × Oper) → Prop → Prop
 | [], K => K
 | p :: l, K => (match p.2.dst with
  | none => denQ P env p.2 H fun _ => True
  | some d => match env d with
   | some u => denQ P env p.2 H fun v => v = u
   | none => False) ∧ recheck P env H l K

def wantedE (ops : List Oper) (env : Env) (o : Oper) : Bool :=
 match o.guard with
 | none => true
 | some (j, want) => match (ops[j]?).bind (·.dst) with
  | none => false
  | some d => match env d with | some (.bool b) => (match b, want with | true, true => true | false, false => true | _, _ => false) | _ => false

def denAny (P : Program) (n : Nat) (ops : List Oper) (zs rzs : List (Nat × Oper)) : Nat → List Nat → List (Nat × Oper) → Env → Hp → (Env → Hp → Prop) → Prop
 | 0, _, _, env, H, K => K env H
 | fuel + 1, Ld, rd, env, H, K =>
  match nextQ zs Ld with
  | some p => denG P n ops env p.2 H fun env' H' =>
    denAny P n ops zs rzs fuel (p.1 :: Ld) (cond (readOp P p.2.op && wantedE ops env' p.2) (p :: rd) rd) env' H' K
  | none => allL (louds zs Ld) fun p =>
    denG P n ops env p.2 H fun env' H' =>
     recheck P env' H' (rd.filter fun q => !elemN (ancs rzs (aft p.2)) q.1)
      (denAny P n ops zs rzs fuel (p.1 :: Ld) (rd.filter fun q => !elemN (ancs rzs (aft p.2)) q.1) env' H' K)

/-! The condition on a statement's operations: one writer a slot; who reads a slot that is written here stands in order with the writer. -/
def looksT (ops : List Oper) (o : Oper) : List Nat :=
 (o.op.operands.toList.filterMap fun | .tmp t => some t | _ => none) ++ (match o.guard with | some (g, _) => ((ops[g]?).bind (·.dst)).toList | none => [])
def okPair (P : Program) (ops : List Oper) (q p : Nat × Oper) : Bool :=
 match p.2.dst with
 | none => true
 | some t => cond (Nat.beq q.1 p.1) (!(readOp P q.2.op && elemN (looksT ops q.2) t))
   ((match q.2.dst with | none => true | some u => !Nat.beq u t) && (!elemN (looksT ops q.2) t || elemN (aft q.2) p.1 || (elemN (aft p.2) q.1 && !(readOp P q.2.op && quietOp q.2.op))))
def okOp (q : Nat × Oper) : Bool := (aft q.2).all fun i => Nat.blt i q.1
def okGuard (q : Nat × Oper) : Bool := match q.2.guard with | none => true | some (g, _) => elemN (aft q.2) g
def regOk (P : Program) (ops : List Oper) : Bool :=
 (zipI ops 0).all fun q => okOp q && okGuard q && (zipI ops 0).all fun p => okPair P ops q p

def denR (P : Program) (n : Nat) (ops : List Oper) (draw : Bool) (env : Env) (H : Hp) (K : Env → Hp → Prop) : Prop :=
 cond draw
  (cond (regOk P ops) (denAny P n ops (zipI ops 0) (zipI ops 0).reverse ops.length [] [] env H K) False)
  (denSeq P n ops ops env H K)

end Go.Proofs.YtflfodcemnapeaaGreat

namespace Go.Proofs.YtflfodcemnapeaaGreat
set_option linter.unusedSimpArgs false
set_option linter.unusedVariables false
open Go
variable {P : Program} {n : Nat}
def denV (P : Program) (env : Env) (o : Oper) (H : Hp) (K : Value → Hp → Prop) : Prop :=
 cond (quietOp o.op) (denQ P env o H fun v => K v H) (denL P env o H K)

theorem denO_spec {env : Env} {o : Oper} {H : Hp} {K : Env → Hp → Prop} (h : denO P n env o H K) : okDst n o.dst = true ∧ denV P env o H fun v H' => K (env.put o.dst v) H' := by
 unfold denO at h
 cases hd : okDst n o.dst
 ·simp [hd] at h
 ·rw [hd, cond_true] at h
  exact ⟨rfl, h⟩

theorem denV_wp {env : Env} {o : Oper} {a : Act} {w : World} {K : Value → Hp → Prop} {next : Act → World → Prop} {Q : Exit → Act → World → Prop}
  (h : denV P env o (hp w) K) (ha : Agree env a.eval o.op.operands.toList) (hn : ∀ v w', Rest w w' → K v (hp w') → next (a.put o.dst v) w') : o.wp P a w next Q := by
 unfold denV at h
 unfold Oper.wp
 cases hq : quietOp o.op
 ·rw [hq, cond_false] at h
  have hl := denL_ok h a.eval ha
  generalize (execOp a.eval o).run P w = r at hl ⊢
  unfold LoudOk at hl
  split at hl
  ·rw [Oper.upon_value]; exact hn _ _ hl.1 hl.2
  ·rw [Oper.upon_skip]; exact hn _ _ hl.1 hl.2
  ·obtain ⟨rfl, hc⟩ := hl
   rw [Oper.upon_enter]
   exact (hc _ rfl).mono fun e w' ⟨v, he, hr, k⟩ => by subst he; exact hn _ _ hr k
  ·exact hl.elim
 ·rw [hq, cond_true] at h
  obtain ⟨v, k, hr⟩ := denQ_ok h
  rw [hr a.eval w ha rfl, Oper.upon_value]
  exact hn v w (.refl w) k

/-- The guard's slot is known. -/
def guardKnown (L : List Oper) (env : Env) (o : Oper) : Prop := ∀ j want, o.guard = some (j, want) → ∃ d v, (L[j]?).bind (·.dst) = some d ∧ env d = some v

theorem env_set_same {env : Env} {d : Nat} {v : Value} (h : env d = some v) : env.set d v = env := by
 funext i
 unfold Env.set
 by_cases hi : i = d
 ·subst hi
  have : Nat.beq i i = true := by simp
  rw [this, cond_true, h]
 ·have : Nat.beq i d = false := by rw [← Bool.not_eq_true]; exact fun e => hi (Nat.eq_of_beq_eq_true e)
  rw [this, cond_false]

theorem denG_spec {L : List Oper} {env : Env} {o : Oper} {H : Hp} {K : Env → Hp → Prop} (h : denG P n L env o H K) :
  guardKnown L env o ∧ ((wantedE L env o = true ∧ denO P n env o H K) ∨ (wantedE L env o = false ∧ okDst n o.dst = true ∧ K (env.put o.dst undef) H)) := by
 unfold denG at h
 split at h
 ·rename_i hg
  exact ⟨fun j want e => by rw [hg] at e; (cases e), .inl ⟨by simp [wantedE, hg], h⟩⟩
 ·rename_i j want hg
  split at h
  ·exact h.elim
  rename_i d hd
  have skip : ∀ {X : Prop}, cond (okDst n o.dst) X False → okDst n o.dst = true ∧ X := by
   intro X hx
   cases ho : okDst n o.dst
   ·simp [ho] at hx
   ·rw [ho, cond_true] at hx; exact ⟨rfl, hx⟩
  split at h
  ·rename_i b hb
   refine ⟨fun j' want' e => ?_, ?_⟩
   ·rw [hg] at e; cases e; exact ⟨d, _, hd, hb⟩
   ·have e : env.set d (.bool b) = env := env_set_same hb
    cases b <;> cases want <;> simp only [cond_true, cond_false, e] at h
    ·exact .inl ⟨by simp [wantedE, hg, hd, hb], h⟩
    ·exact .inr ⟨by simp [wantedE, hg, hd, hb], skip h⟩
    ·exact .inr ⟨by simp [wantedE, hg, hd, hb], skip h⟩
    ·exact .inl ⟨by simp [wantedE, hg, hd, hb], h⟩
  ·rename_i v hv hb
   refine ⟨fun j' want' e => ?_, .inr ⟨?_, skip h⟩⟩
   ·rw [hg] at e; cases e; exact ⟨d, _, hd, hb⟩
   ·simp only [wantedE, hg, hd, hb]
    cases v <;> first | rfl | exact (hv _ rfl).elim
  ·exact h.elim

theorem wanted_eq {ops : Array Oper} {env : Env} {o : Oper} {tm : Array Value} (hk : guardKnown ops.toList env o)
  (ha : ∀ j want d v, o.guard = some (j, want) → (ops.toList[j]?).bind (·.dst) = some d → env d = some v → tm[d]? = some v) :
  Region.wanted o (yielded ops tm) = wantedE ops.toList env o := by
 unfold Region.wanted wantedE
 cases hg : o.guard with
 | none => rfl
 | some g =>
  obtain ⟨j, want⟩ := g
  obtain ⟨d, v, hd, hv⟩ := hk j want hg
  have ht := ha j want d v hg hd hv
  rw [Array.getElem?_toList] at hd
  simp only [yielded, Array.getElem?_toList, hd, Option.bind_some, ht, hv]
  cases v <;> try rfl
  rename_i b
  cases b <;> cases want <;> rfl

/-- The run's slots are as the environment says. -/
structure Fits (n : Nat) (tm : Array Value) (env : Env) : Prop where
 size : tm.size = n
 at_ : ∀ i v, env i = some v → tm[i]? = some v

theorem put_tmps_some (a : Act) (d : Nat) (v : Value) : (a.put (some d) v).tmps = a.tmps.setIfInBounds d v := rfl
theorem put_size (a : Act) (d : Option Nat) (v : Value) : (a.put d v).tmps.size = a.tmps.size := by cases d <;> simp [Act.put]
theorem put_defers' (a : Act) (d : Option Nat) (v : Value) : (a.put d v).defers = a.defers := by cases d <;> rfl
theorem put_get_other {a : Act} {d : Option Nat} {v : Value} {t : Nat} (h : d ≠ some t) : (a.put d v).tmps[t]? = a.tmps[t]? := by
 cases d with
 | none => rfl
 | some d =>
  rw [put_tmps_some, Array.getElem?_setIfInBounds_ne]
  exact fun e => h (by rw [e])
theorem put_get_same {a : Act} {d : Nat} {v : Value} (h : d < a.tmps.size) : (a.put (some d) v).tmps[d]? = some v := by
 rw [put_tmps_some, Array.getElem?_setIfInBounds_self_of_lt h]
theorem env_put_other {env : Env} {d : Option Nat} {v : Value} {t : Nat} (h : d ≠ some t) : env.put d v t = env t := by
 cases d with
 | none => rfl
 | some d =>
  show cond (Nat.beq t d) _ _ = _
  have : Nat.beq t d = false := by rw [← Bool.not_eq_true]; exact fun e => h (by rw [Nat.eq_of_beq_eq_true e])
  rw [this, cond_false]
theorem env_put_same {env : Env} {d : Nat} {v : Value} : env.put (some d) v d = some v := by
 show cond (Nat.beq d d) _ _ = _
 have : Nat.beq d d = true := by simp
 rw [this, cond_true]
theorem okDst_lt {d : Nat} (h : okDst n (some d) = true) : d < n := Nat.le_of_ble_eq_true h

theorem Fits.put {a : Act} {env : Env} {d : Option Nat} {v : Value} (h : Fits n a.tmps env) (hd : okDst n d = true) : Fits n (a.put d v).tmps (env.put d v) := by
 refine ⟨by rw [put_size, h.size], fun i u hu => ?_⟩
 by_cases hi : d = some i
 ·subst hi
  rw [env_put_same] at hu
  cases hu
  exact put_get_same (by rw [h.size]; exact okDst_lt hd)
 ·rw [env_put_other hi] at hu
  rw [put_get_other hi]
  exact h.at_ i u hu

theorem agree_of {env : Env} {a : Act} {xs : List Operand} (h : ∀ t v, Operand.tmp t ∈ xs → env t = some v → a.tmps[t]? = some v) : Agree env a.eval xs := by
 intro x v hx hv
 cases x with
 | tmp t =>
  have := h t v hx hv
  simp [Act.eval, this]
 | const u => cases hv; rfl
 | global g => cases hv; rfl
 | func f => cases hv; rfl

/-- What a statement's operations leave alone. -/
def SameBut (ds : List Nat) (tm tm' : Array Value) : Prop := ∀ t, t ∉ ds → tm'[t]? = tm[t]?
def dsts (L : List Oper) : List Nat := L.filterMap (·.dst)

theorem mem_dsts {L : List Oper} {o : Oper} {d : Nat} (h : o ∈ L) (hd : o.dst = some d) : d ∈ dsts L := List.mem_filterMap.2 ⟨o, h, hd⟩

section seq
variable {ops : Array Oper} {Q : Exit → Act → World → Prop} {K : Env → Hp → Prop}
theorem denSeq_wp : ∀ (l : List Oper) (k : Nat) (env : Env) (a : Act) (w : World), (∀ j, l[j]? = ops.toList[k + j]?) → Fits n a.tmps env → denSeq P n ops.toList l env (hp w) K →
  (∀ env' a' w', Fits n a'.tmps env' → a'.defers = a.defers → Rest w w' → SameBut (dsts ops.toList) a.tmps a'.tmps → K env' (hp w') → Q .normal a' w') →
  wpOps P ops Q (List.range' k l.length) a w := by
 intro l
 induction l with
 | nil => intro k env a w _ hf h hK; exact hK env a w hf rfl (.refl w) (fun _ _ => rfl) h
 | cons o l ih =>
  intro k env a w hl hf h hK
  have ho : ops.toList[k]? = some o := by rw [← Nat.add_zero k, ← hl 0]; rfl
  have ho' : ops[k]? = some o := by rw [← Array.getElem?_toList]; exact ho
  have hl' : ∀ j, l[j]? = ops.toList[k + 1 + j]? := fun j => by
   have := hl (j + 1)
   rw [List.getElem?_cons_succ] at this
   rw [this]; congr 1; omega
  have hmem : o ∈ ops.toList := List.mem_of_getElem? ho
  rw [List.length_cons, List.range'_succ, wpOps_cons]
  unfold wpOp
  simp only [ho']
  obtain ⟨hgk, hg⟩ := denG_spec (K := fun env' H' => denSeq P n ops.toList l env' H' K) h
  have hw : Region.wanted o (yielded ops a.tmps) = wantedE ops.toList env o := wanted_eq hgk fun j want d v _ _ hv => hf.at_ d v hv
  have step : ∀ v w', okDst n o.dst = true → Rest w w' → denSeq P n ops.toList l (env.put o.dst v) (hp w') K → wpOps P ops Q (List.range' (k + 1) l.length) (a.put o.dst v) w' := by
   intro v w' hd hr hk
   refine ih (k + 1) _ _ w' hl' (hf.put hd) hk fun env' a' w'' hf' hdf hr' hs k' => hK env' a' w'' hf' (by rw [hdf, put_defers']) (hr.trans hr') (fun t ht => ?_) k'
   rw [hs t ht]
   exact put_get_other fun e => ht (mem_dsts hmem e)
  rcases hg with ⟨hb, hO⟩ | ⟨hb, hd, hk⟩
  ·rw [hw, hb, if_pos rfl]
   obtain ⟨hd, hV⟩ := denO_spec (K := fun env' H' => denSeq P n ops.toList l env' H' K) hO
   exact .inl (denV_wp hV (agree_of fun t v _ hv => hf.at_ t v hv) fun v w' hr k => step v w' hd hr k)
  ·rw [hw, hb, if_neg (by simp)]
   exact step undef w hd (.refl w) hk

end seq
end Go.Proofs.YtflfodcemnapeaaGreat

namespace Go.Proofs.YtflfodcemnapeaaGreat
set_option linter.unusedSimpArgs false
set_option linter.unusedVariables false
open Go
variable {P : Program} {n : Nat}
/-! ## Lists of numbers -/
theorem elemN_iff {l : List Nat} {i : Nat} : elemN l i = true ↔ i ∈ l := by
 induction l with
 | nil => simp [elemN]
 | cons j l ih =>
  unfold elemN
  by_cases h : i = j
  ·subst h
   have : Nat.beq i i = true := by simp
   simp [this]
  ·have : Nat.beq i j = false := by rw [← Bool.not_eq_true]; exact fun e => h (Nat.eq_of_beq_eq_true e)
   simp [this, h, ih]
theorem elemN_false {l : List Nat} {i : Nat} : elemN l i = false ↔ i ∉ l := by rw [← Bool.not_eq_true, elemN_iff]

theorem nodup_length {N : Nat} : ∀ {l : List Nat}, l.Nodup → (∀ i ∈ l, i < N) → l.length ≤ N := by
 induction N with
 | zero =>
  intro l _ h
  cases l with
  | nil => simp
  | cons x l => exact absurd (h x (by simp)) (by omega)
 | succ N ih =>
  intro l hn h
  by_cases hm : N ∈ l
  ·have h1 : (l.erase N).Nodup := hn.erase N
   have h2 : ∀ i ∈ l.erase N, i < N := by
    intro i hi
    have h3 := (hn.mem_erase_iff).1 hi
    have := h i h3.2
    omega
   have := ih h1 h2
   rw [List.length_erase_of_mem hm] at this
   omega
  ·have := ih hn (fun i hi => by
    have := h i hi
    have : i ≠ N := fun e => hm (e ▸ hi)
    omega)
   omega

theorem nodup_all {N : Nat} {l : List Nat} (hn : l.Nodup) (h : ∀ i ∈ l, i < N) (hl : l.length = N) : ∀ i, i < N → i ∈ l := by
 intro i hi
 refine Classical.byContradiction fun hc => ?_
 have := nodup_length (N := N) (l := i :: l) (List.nodup_cons.2 ⟨hc, hn⟩) (fun j hj => by
  rcases List.mem_cons.1 hj with e | e
  ·omega
  ·exact h j e)
 rw [List.length_cons] at this
 omega

theorem zipI_mem {L : List Oper} {i : Nat} {o : Oper} : ∀ {k : Nat}, (i, o) ∈ zipI L k ↔ k ≤ i ∧ L[i - k]? = some o := by
 induction L with
 | nil => intro k; simp [zipI]
 | cons x L ih =>
  intro k
  unfold zipI
  rw [List.mem_cons, ih]
  constructor
  ·rintro (h | ⟨h1, h2⟩)
   ·cases h
    exact ⟨Nat.le_refl _, by simp⟩
   ·refine ⟨by omega, ?_⟩
    rw [show i - k = (i - (k + 1)) + 1 by omega, List.getElem?_cons_succ]
    exact h2
  ·rintro ⟨h1, h2⟩
   by_cases e : i = k
   ·subst e
    simp at h2
    exact .inl (by rw [h2])
   ·refine .inr ⟨by omega, ?_⟩
    rw [show i - k = (i - (k + 1)) + 1 by omega, List.getElem?_cons_succ] at h2
    exact h2
theorem zipI_mem0 {L : List Oper} {i : Nat} {o : Oper} : (i, o) ∈ zipI L 0 ↔ L[i]? = some o := by simp [zipI_mem]

theorem allL_mem {l : List (Nat × Oper)} {f : Nat × Oper → Prop} (h : allL l f) {p : Nat × Oper} (hp : p ∈ l) : f p := by
 induction l with
 | nil => cases hp
 | cons q l ih =>
  cases l with
  | nil =>
   rcases List.mem_cons.1 hp with e | e
   ·rw [e]; exact h
   ·cases e
  | cons r l =>
   rcases List.mem_cons.1 hp with e | e
   ·rw [e]; exact h.1
   ·exact ih h.2 e

theorem recheck_spec {env : Env} {H : Hp} {l : List (Nat × Oper)} {K : Prop} (h : recheck P env H l K) :
  K ∧ ∀ p ∈ l, ∃ K', denQ P env p.2 H K' ∧ ∀ d, p.2.dst = some d → ∀ v, K' v → env d = some v := by
 induction l with
 | nil => exact ⟨h, fun p hp => by cases hp⟩
 | cons q l ih =>
  obtain ⟨h1, h2⟩ := h
  obtain ⟨hk, hl⟩ := ih h2
  refine ⟨hk, fun p hp => ?_⟩
  rcases List.mem_cons.1 hp with e | e
  ·subst e
   split at h1
   ·rename_i hd
    exact ⟨_, h1, fun d e => by rw [hd] at e; cases e⟩
   ·rename_i d hd
    split at h1
    ·rename_i u hu
     exact ⟨_, h1, fun d' e v hv => by rw [hd] at e; cases e; rw [hu, hv]⟩
    ·exact h1.elim
  ·exact hl p e

/-! ## What the condition gives -/
structure RegOk (P : Program) (L : List Oper) : Prop where
 back : ∀ (i : Nat) (o : Oper), L[i]? = some o → ∀ k ∈ aft o, k < i
 guard : ∀ (i : Nat) (o : Oper), L[i]? = some o → ∀ g w, o.guard = some (g, w) → g ∈ aft o
 self : ∀ (i : Nat) (o : Oper) (t : Nat), L[i]? = some o → o.dst = some t → readOp P o.op = true → t ∉ looksT L o
 one : ∀ (i : Nat) (o : Oper) (j : Nat) (p : Oper) (t : Nat), L[i]? = some o → L[j]? = some p → i ≠ j → p.dst = some t → o.dst ≠ some t
 look : ∀ (i : Nat) (o : Oper) (j : Nat) (p : Oper) (t : Nat), L[i]? = some o → L[j]? = some p → i ≠ j → p.dst = some t → t ∈ looksT L o →
  j ∈ aft o ∨ (i ∈ aft p ∧ ¬ (readOp P o.op = true ∧ quietOp o.op = true))

theorem regOk_spec {L : List Oper} (h : regOk P L = true) : RegOk P L := by
 unfold regOk at h
 rw [List.all_eq_true] at h
 have hq : ∀ i o, L[i]? = some o → okOp (i, o) = true ∧ okGuard (i, o) = true ∧ ∀ j p, L[j]? = some p → okPair P L (i, o) (j, p) = true := by
  intro i o ho
  have h1 := h (i, o) (zipI_mem0.2 ho)
  rw [Bool.and_eq_true, Bool.and_eq_true, List.all_eq_true] at h1
  exact ⟨h1.1.1, h1.1.2, fun j p hp => h1.2 (j, p) (zipI_mem0.2 hp)⟩
 have hne : ∀ {i j : Nat}, i ≠ j → Nat.beq i j = false := fun e => by rw [← Bool.not_eq_true]; exact fun e' => e (Nat.eq_of_beq_eq_true e')
 refine ⟨?_, ?_, ?_, ?_, ?_⟩
 ·intro i o ho k hk
  have h1 := (hq i o ho).1
  unfold okOp at h1
  rw [List.all_eq_true] at h1
  exact Nat.le_of_ble_eq_true (h1 k hk)
 ·intro i o ho g w hg
  have h1 := (hq i o ho).2.1
  unfold okGuard at h1
  simp only [hg] at h1
  exact elemN_iff.1 h1
 ·intro i o t ho hd hr hm
  have h1 := (hq i o ho).2.2 i o ho
  unfold okPair at h1
  have : Nat.beq i i = true := by simp
  simp only [hd, this, cond_true, hr, elemN_iff.2 hm] at h1
  cases h1
 ·intro i o j p t ho hp hij hd e
  have h1 := (hq i o ho).2.2 j p hp
  unfold okPair at h1
  have : Nat.beq t t = true := by simp
  simp only [hd, hne hij, cond_false, e, this] at h1
  simp at h1
 ·intro i o j p t ho hp hij hd hm
  have h1 := (hq i o ho).2.2 j p hp
  unfold okPair at h1
  simp only [hd, hne hij, cond_false, Bool.and_eq_true, Bool.or_eq_true, Bool.not_eq_true', elemN_iff, elemN_false] at h1
  rcases h1.2 with (h2 | h2) | h2
  ·exact absurd hm h2
  ·exact .inl h2
  ·refine .inr ⟨h2.1, fun hh => ?_⟩
   have := h2.2
   simp [hh.1, hh.2] at this

theorem ancs_sub {L : List Oper} {La : List Nat} (hc : ∀ i o, L[i]? = some o → i ∈ La → ∀ k ∈ aft o, k ∈ La) :
  ∀ {l : List (Nat × Oper)} {S : List Nat}, (∀ p ∈ l, L[p.1]? = some p.2) → (∀ k ∈ S, k ∈ La) → ∀ k ∈ ancs l S, k ∈ La := by
 intro l
 induction l with
 | nil => intro S _ hS k hk; exact hS k hk
 | cons p l ih =>
  intro S hl hS k hk
  unfold ancs at hk
  refine ih (fun q hq => hl q (by simp [hq])) ?_ k hk
  intro j hj
  cases he : elemN S p.1
  ·rw [he, cond_false] at hj
   exact hS j hj
  ·rw [he, cond_true] at hj
   rcases List.mem_append.1 hj with e | e
   ·exact hc p.1 p.2 (hl p (by simp)) (hS _ (elemN_iff.1 he)) j e
   ·exact hS j e

section any
variable {ops : Array Oper} {Q : Exit → Act → World → Prop} {K : Env → Hp → Prop}
/-- What is known of an operation that the reading has done and the run has not. -/
def Held (P : Program) (n : Nat) (L : List Oper) (rd : List (Nat × Oper)) (H : Hp) (env : Env) (tm : Array Value) (q : Nat) (o : Oper) : Prop :=
 ∃ envq : Env, okDst n o.dst = true ∧ guardKnown L envq o ∧
  (∀ t ∈ looksT L o, ∀ v, envq t = some v →
   ((∃ p op, L[p]? = some op ∧ op.dst = some t ∧ p ∈ aft o) → env t = some v) ∧ ((¬ ∃ p op, L[p]? = some op ∧ op.dst = some t ∧ p ∈ aft o) → tm[t]? = some v)) ∧
  ((wantedE L envq o = true ∧ quietOp o.op = true ∧ (∃ K', denQ P envq o H K' ∧ ∀ d, o.dst = some d → ∀ v, K' v → env d = some v) ∧
    (readOp P o.op = true → (q, o) ∈ rd ∧ ∀ t ∈ looksT L o, env t = envq t)) ∨
   (wantedE L envq o = false ∧ ∀ d, o.dst = some d → env d = some undef))

structure Sim (P : Program) (n : Nat) (L : List Oper) (tm0 : Array Value) (H : Hp) (env : Env) (tm : Array Value) (Ld La : List Nat) (rd : List (Nat × Oper)) : Prop where
 size : tm.size = n
 sub : ∀ i ∈ La, i ∈ Ld
 clD : ∀ i o, L[i]? = some o → i ∈ Ld → ∀ k ∈ aft o, k ∈ Ld
 clA : ∀ i o, L[i]? = some o → i ∈ La → ∀ k ∈ aft o, k ∈ La
 ltD : ∀ i ∈ Ld, i < L.length
 ndD : Ld.Nodup
 ndA : La.Nodup
 rdIn : ∀ p ∈ rd, L[p.1]? = some p.2 ∧ p.1 ∈ Ld
 same : SameBut (dsts L) tm0 tm
 agree : ∀ t v, env t = some v → (∀ p o, L[p]? = some o → o.dst = some t → p ∈ Ld → p ∈ La) → tm[t]? = some v
 held : ∀ q o, L[q]? = some o → q ∈ Ld → q ∉ La → Held P n L rd H env tm q o

theorem lt_of_get {L : List Oper} {i : Nat} {o : Oper} (h : L[i]? = some o) : i < L.length := (List.getElem?_eq_some_iff.1 h).1

/-- The reading does a quiet operation more. -/
theorem Sim.quiet {L : List Oper} {tm0 tm : Array Value} {H : Hp} {env : Env} {Ld La : List Nat} {rd : List (Nat × Oper)} (hreg : RegOk P L)
  (s : Sim P n L tm0 H env tm Ld La rd) {q : Nat} {o : Oper} (ho : L[q]? = some o) (hq : q ∉ Ld) (haft : ∀ k ∈ aft o, k ∈ Ld) (hquiet : quietOp o.op = true)
  {K : Env → Hp → Prop} (h : denG P n L env o H K) :
  ∃ env', K env' H ∧ Sim P n L tm0 H env' tm (q :: Ld) La (cond (readOp P o.op && wantedE L env' o) ((q, o) :: rd) rd) := by
 obtain ⟨hgk, hg⟩ := denG_spec h
 have hqA : q ∉ La := fun e => hq (s.sub q e)
 -- a slot that is looked at by what is done is not this one's
 have hother : ∀ p op, L[p]? = some op → op.dst = o.dst → o.dst ≠ none → p ≠ q → False := by
  intro p op hp e hne hpq
  cases hd : o.dst with
  | none => exact hne hd
  | some t => exact hreg.one p op q o t hp ho hpq hd (by rw [e, hd])
 have key : ∀ u, okDst n o.dst = true → ((wantedE L env o = true ∧ denQ P env o H fun v => v = u) ∨ (wantedE L env o = false ∧ u = undef)) →
   Sim P n L tm0 H (env.put o.dst u) tm (q :: Ld) La (cond (readOp P o.op && wantedE L env o) ((q, o) :: rd) rd) := by
  intro u hd hu
  refine ⟨s.size, fun i hi => by simp [s.sub i hi], ?_, s.clA, ?_, List.nodup_cons.2 ⟨hq, s.ndD⟩, s.ndA, ?_, s.same, ?_, ?_⟩
  ·intro i p hp hi k hk
   rcases List.mem_cons.1 hi with e | e
   ·subst e
    rw [ho] at hp; cases hp
    simp [haft k hk]
   ·simp [s.clD i p hp e k hk]
  ·intro i hi
   rcases List.mem_cons.1 hi with e | e
   ·subst e; exact lt_of_get ho
   ·exact s.ltD i e
  ·intro p hp
   have : p ∈ (q, o) :: rd := by
    cases hc : (readOp P o.op && wantedE L env o)
    ·rw [hc, cond_false] at hp; simp [hp]
    ·rw [hc, cond_true] at hp; exact hp
   rcases List.mem_cons.1 this with e | e
   ·subst e; exact ⟨ho, by simp⟩
   ·exact ⟨(s.rdIn p e).1, by simp [(s.rdIn p e).2]⟩
  ·intro t v hv hA
   by_cases ht : o.dst = some t
   ·exact absurd (hA q o ho ht (by simp)) hqA
   ·rw [env_put_other ht] at hv
    exact s.agree t v hv fun p op hp hpd hpD => hA p op hp hpd (by simp [hpD])
  ·intro q2 o2 ho2 hq2 hq2A
   rcases List.mem_cons.1 hq2 with e | e
   ·subst e
    rw [ho] at ho2; cases ho2
    have hnl : ∀ t ∈ looksT L o, (∃ p op, L[p]? = some op ∧ op.dst = some t ∧ p ∈ aft o) → o.dst ≠ some t := by
     rintro t ht ⟨p, op, hp, hpd, hpa⟩ e
     have hpq : p ≠ q2 := fun e' => hq (e' ▸ haft p hpa)
     exact hreg.one p op q2 o t hp ho hpq e hpd
    refine ⟨env, hd, hgk, fun t ht v hv => ⟨fun hex => ?_, fun hno => ?_⟩, ?_⟩
    ·rw [env_put_other (hnl t ht hex)]; exact hv
    ·refine s.agree t v hv fun p op hp hpd hpD => ?_
     exfalso
     by_cases hpq : p = q2
     ·exact hq (hpq ▸ hpD)
     ·rcases hreg.look q2 o p op t ho hp (fun e => hpq e.symm) hpd ht with h1 | h1
      ·exact hno ⟨p, op, hp, hpd, h1⟩
      ·exact hq (s.clD p op hp hpD q2 h1.1)
    ·rcases hu with ⟨hw, hk⟩ | ⟨hw, rfl⟩
     ·refine .inl ⟨hw, hquiet, ⟨_, hk, fun d e v hv => ?_⟩, fun hr => ⟨?_, fun t ht => ?_⟩⟩
      ·rw [e, hv]; exact env_put_same
      ·rw [hr, hw]; simp
      ·refine env_put_other fun e => ?_
       exact hreg.self q2 o t ho e hr ht
     ·exact .inr ⟨hw, fun d e => by rw [e]; exact env_put_same⟩
   ·have hne : q2 ≠ q := fun e' => hq (e' ▸ e)
    obtain ⟨envq, h1, h2, h3, h4⟩ := s.held q2 o2 ho2 e hq2A
    have hdst : ∀ d, o2.dst = some d → o.dst ≠ some d := fun d e1 e2 => hreg.one q2 o2 q o d ho2 ho hne e2 e1
    refine ⟨envq, h1, h2, fun t ht v hv => ⟨fun hex => ?_, (h3 t ht v hv).2⟩, ?_⟩
    ·have hnt : o.dst ≠ some t := by
      obtain ⟨p, op, hp, hpd, hpa⟩ := hex
      intro e'
      have : p ≠ q := fun e'' => hq (e'' ▸ s.clD q2 o2 ho2 e p hpa)
      exact hreg.one p op q o t hp ho this e' hpd
     rw [env_put_other hnt]
     exact (h3 t ht v hv).1 hex
    ·rcases h4 with ⟨hw, hqq, ⟨K', hk, hk'⟩, hr⟩ | ⟨hw, hk⟩
     ·refine .inl ⟨hw, hqq, ⟨K', hk, fun d e1 v hv => by rw [env_put_other (hdst d e1)]; exact hk' d e1 v hv⟩, fun hrd => ?_⟩
      obtain ⟨hr1, hr2⟩ := hr hrd
      refine ⟨?_, fun t ht => ?_⟩
      ·cases hc : (readOp P o.op && wantedE L env o)
       ·rw [cond_false]; exact hr1
       ·rw [cond_true]; simp [hr1]
      ·rw [env_put_other]
       ·exact hr2 t ht
       ·intro e'
        rcases hreg.look q2 o2 q o t ho2 ho hne e' ht with h5 | h5
        ·exact hq (s.clD q2 o2 ho2 e q h5)
        ·exact h5.2 ⟨hrd, hqq⟩
     ·exact .inr ⟨hw, fun d e1 => by rw [env_put_other (hdst d e1)]; exact hk d e1⟩
 have hwsame : ∀ u, wantedE L (env.put o.dst u) o = wantedE L env o := by
  intro u
  unfold wantedE
  split
  ·rfl
  ·rename_i j want hgd
   split
   ·rfl
   ·rename_i d hd
    rw [env_put_other]
    intro e
    have hj := hreg.guard q o ho j want hgd
    cases hjo : L[j]? with
    | none => rw [hjo] at hd; cases hd
    | some oj =>
     rw [hjo] at hd
     have hjq : j ≠ q := fun e' => hq (e' ▸ haft j hj)
     exact hreg.one j oj q o d hjo ho hjq e hd
 rcases hg with ⟨hb, hO⟩ | ⟨hb, hd, hk⟩
 ·obtain ⟨hd, hV⟩ := denO_spec hO
  unfold denV at hV
  rw [hquiet, cond_true] at hV
  obtain ⟨v, k, hdet⟩ := denQ_det _ hV
  refine ⟨env.put o.dst v, k, ?_⟩
  rw [hwsame]
  exact key v hd (.inl ⟨hb, hdet (fun u => u = v) rfl⟩)
 ·refine ⟨env.put o.dst undef, hk, ?_⟩
  rw [hwsame]
  exact key undef hd (.inr ⟨hb, rfl⟩)

/-- The reading goes on till no quiet operation is ready. -/
theorem Sim.saturate {L : List Oper} {tm0 tm : Array Value} {H : Hp} {La : List Nat} {rzs : List (Nat × Oper)} (hreg : RegOk P L) :
  ∀ (fd : Nat) (env : Env) (Ld : List Nat) (rd : List (Nat × Oper)), Sim P n L tm0 H env tm Ld La rd → fd + Ld.length = L.length →
   denAny P n L (zipI L 0) rzs fd Ld rd env H K →
   ∃ fd' env' Ld' rd', Sim P n L tm0 H env' tm Ld' La rd' ∧ fd' + Ld'.length = L.length ∧ denAny P n L (zipI L 0) rzs fd' Ld' rd' env' H K ∧ nextQ (zipI L 0) Ld' = none := by
 intro fd
 induction fd with
 | zero =>
  intro env Ld rd s hl h
  refine ⟨0, env, Ld, rd, s, hl, h, ?_⟩
  unfold nextQ
  rw [List.find?_eq_none]
  rintro ⟨i, o⟩ hm hc
  have hi := lt_of_get (zipI_mem0.1 hm)
  have : i ∈ Ld := nodup_all s.ndD s.ltD (by omega) i hi
  simp [readyI, elemN_iff.2 this] at hc
 | succ fd ih =>
  intro env Ld rd s hl h
  cases hn : nextQ (zipI L 0) Ld with
  | none => exact ⟨fd + 1, env, Ld, rd, s, hl, h, hn⟩
  | some p =>
   obtain ⟨q, o⟩ := p
   unfold denAny at h
   simp only [hn] at h
   have hm := List.mem_of_find?_eq_some hn
   have hc := List.find?_some hn
   simp only [readyI, Bool.and_eq_true, Bool.not_eq_true', elemN_false, List.all_eq_true, elemN_iff] at hc
   obtain ⟨env', k, s'⟩ := s.quiet hreg (zipI_mem0.1 hm) hc.2.1 hc.2.2 hc.1 h
   exact ih env' (q :: Ld) _ s' (by rw [List.length_cons]; omega) k

/-- How the model keeps which operations are done. -/
structure Lists (L : List Oper) (listed : Array Bool) (La : List Nat) : Prop where
 size : listed.size = L.length
 at_ : ∀ i, i < L.length → (listed[i]? = some true ↔ i ∈ La)
 lt : ∀ i ∈ La, i < L.length

theorem Lists.getD {L : List Oper} {listed : Array Bool} {La : List Nat} (h : Lists L listed La) (i : Nat) : listed.getD i false = true ↔ i ∈ La := by
 by_cases hi : i < L.length
 ·rw [← h.at_ i hi]
  have : i < listed.size := by rw [h.size]; exact hi
  simp [Array.getD, this, Array.getElem?_eq_getElem this]
 ·constructor
  ·intro e
   have : ¬ i < listed.size := by rw [h.size]; exact hi
   simp [Array.getD, this] at e
  ·intro e; exact absurd (h.lt i e) hi
theorem Lists.getD' {L : List Oper} {listed : Array Bool} {La : List Nat} (h : Lists L listed La) {i : Nat} (hi : i < L.length) : listed.getD i true = true ↔ i ∈ La := by
 rw [← h.at_ i hi]
 have : i < listed.size := by rw [h.size]; exact hi
 simp [Array.getD, this, Array.getElem?_eq_getElem this]

theorem Lists.set {L : List Oper} {listed : Array Bool} {La : List Nat} (h : Lists L listed La) {i : Nat} (hi : i < L.length) : Lists L (listed.setIfInBounds i true) (i :: La) := by
 refine ⟨by simp [h.size], fun j hj => ?_, fun j hj => ?_⟩
 ·by_cases e : j = i
  ·subst e
   rw [Array.getElem?_setIfInBounds_self_of_lt (by rw [h.size]; exact hj)]
   simp
  ·rw [Array.getElem?_setIfInBounds_ne (fun e' => e e'.symm), h.at_ j hj]
   simp [e]
 ·rcases List.mem_cons.1 hj with e | e
  ·subst e; exact hi
  ·exact h.lt j e

theorem ready_mem {listed : Array Bool} {La : List Nat} (h : Lists ops.toList listed La) {i : Nat} :
  i ∈ Region.ready .any ops listed ↔ ∃ o, ops.toList[i]? = some o ∧ i ∉ La ∧ ∀ k ∈ aft o, k ∈ La := by
 unfold Region.ready
 rw [List.mem_filter, List.mem_range]
 constructor
 ·rintro ⟨hi, hc⟩
  have hi' : i < ops.toList.length := by simpa using hi
  obtain ⟨o, ho⟩ : ∃ o, ops[i]? = some o := ⟨ops[i], Array.getElem?_eq_getElem hi⟩
  rw [Bool.and_eq_true, Bool.not_eq_true', ← Bool.not_eq_true, h.getD' hi'] at hc
  refine ⟨o, by rw [Array.getElem?_toList]; exact ho, hc.1, fun k hk => ?_⟩
  have h2 := hc.2
  rw [ho] at h2
  simp only [Option.map_some, Option.getD_some, Array.all_eq_true_iff_forall_mem] at h2
  unfold aft at hk
  rw [List.mem_map] at hk
  obtain ⟨e, he, rfl⟩ := hk
  rw [List.mem_filter] at he
  have h3 := h2 e (by simpa using he.1)
  rw [he.2] at h3
  simp only [Bool.not_true, Bool.false_or] at h3
  exact (h.getD _).1 h3
 ·rintro ⟨o, ho, hni, hall⟩
  have hi' := lt_of_get ho
  have hi : i < ops.size := by simpa using hi'
  refine ⟨hi, ?_⟩
  rw [Bool.and_eq_true, Bool.not_eq_true', ← Bool.not_eq_true, h.getD' hi']
  refine ⟨hni, ?_⟩
  rw [Array.getElem?_toList] at ho
  rw [ho]
  simp only [Option.map_some, Option.getD_some, Array.all_eq_true_iff_forall_mem]
  intro e he
  cases hb : Region.binds .any e
  ·rfl
  ·rw [Bool.not_true, Bool.false_or, h.getD]
   refine hall _ ?_
   unfold aft
   exact List.mem_map.2 ⟨e, List.mem_filter.2 ⟨by simpa using he, hb⟩, rfl⟩

theorem looksT_op {L : List Oper} {o : Oper} {t : Nat} (h : Operand.tmp t ∈ o.op.operands.toList) : t ∈ looksT L o := by
 unfold looksT
 exact List.mem_append.2 (.inl (List.mem_filterMap.2 ⟨_, h, rfl⟩))
theorem looksT_guard {L : List Oper} {o : Oper} {j d : Nat} {w : Bool} (hg : o.guard = some (j, w)) (hd : (L[j]?).bind (·.dst) = some d) : d ∈ looksT L o := by
 unfold looksT
 refine List.mem_append.2 (.inr ?_)
 simp [hg, hd]

theorem any_sound {rzs : List (Nat × Oper)} (hreg : RegOk P ops.toList) (hrz : ∀ p ∈ rzs, ops.toList[p.1]? = some p.2) (tm0 : Array Value) (df : List Deferred) (w0 : World)
  (hK : ∀ env a w, Fits n a.tmps env → a.defers = df → Rest w0 w → SameBut (dsts ops.toList) tm0 a.tmps → K env (hp w) → Q .normal a w) :
  ∀ (fa fd : Nat) (listed : Array Bool) (Ld La : List Nat) (rd : List (Nat × Oper)) (env : Env) (a : Act) (w : World), Lists ops.toList listed La →
   Sim P n ops.toList tm0 (hp w) env a.tmps Ld La rd → fa + La.length = ops.toList.length → fd + Ld.length = ops.toList.length → a.defers = df → Rest w0 w →
   denAny P n ops.toList (zipI ops.toList 0) rzs fd Ld rd env (hp w) K → wpAny P .any ops Q fa listed a w := by
 intro fa
 induction fa with
 | zero =>
  intro fd listed Ld La rd env a w hl s hfa hfd hdf hrest h
  have hall : ∀ i, i < ops.toList.length → i ∈ La := nodup_all s.ndA hl.lt (by omega)
  have hnone : Region.ready .any ops listed = [] := by
   rw [List.eq_nil_iff_forall_not_mem]
   intro i hi
   obtain ⟨o, ho, hni, _⟩ := (ready_mem hl).1 hi
   exact hni (hall i (lt_of_get ho))
  refine ⟨hnone, ?_⟩
  have hfd0 : fd = 0 := by
   have h1 := nodup_length s.ndA (fun i hi => s.ltD i (s.sub i hi))
   have h2 : La.length ≤ Ld.length := by
    have := nodup_length (N := ops.toList.length) s.ndD s.ltD
    have h3 : ops.toList.length ≤ Ld.length := by
     have := nodup_length (N := Ld.length) (l := List.range Ld.length) List.nodup_range (by simp)
     refine Classical.byContradiction fun hc => ?_
     have hr : ∀ i, i < ops.toList.length → i ∈ Ld := fun i hi => s.sub i (hall i hi)
     have key : ∀ (N : Nat) (l : List Nat), l.Nodup → (∀ i, i < N → i ∈ l) → N ≤ l.length := by
      intro N
      induction N with
      | zero => intro l _ _; omega
      | succ N ih =>
       intro l hn hm
       have h4 := ih (l.erase N) (hn.erase N) (fun i hi => (hn.mem_erase_iff).2 ⟨by omega, hm i (by omega)⟩)
       rw [List.length_erase_of_mem (hm N (by omega))] at h4
       have : 0 < l.length := List.length_pos_of_mem (hm N (by omega))
       omega
     exact hc (key _ _ s.ndD hr)
    omega
   omega
  subst hfd0
  refine hK env a w ⟨s.size, fun t v hv => s.agree t v hv fun p o hp _ _ => hall p (lt_of_get hp)⟩ hdf hrest s.same h
 | succ fa ih =>
  intro fd listed Ld La rd env a w hl s hfa hfd hdf hrest h
  obtain ⟨fd, env, Ld, rd, s, hfd, h, hnone⟩ := Sim.saturate hreg fd env Ld rd s hfd h
  refine ⟨fun hr => ?_, fun i hi => ?_⟩
  · -- nothing ready: all is done
   exfalso
   have hnot : ∀ i, i < ops.toList.length → i ∈ La := by
    intro i
    induction i using Nat.strongRecOn with
    | _ i ihi =>
     intro hi
     refine Classical.byContradiction fun hc => ?_
     have ho : ops.toList[i]? = some ops.toList[i] := List.getElem?_eq_getElem hi
     have : i ∈ Region.ready .any ops listed := (ready_mem hl).2 ⟨_, ho, hc, fun k hk => by
      have hk1 := hreg.back i _ ho k hk
      exact ihi k hk1 (by omega)⟩
     rw [hr] at this
     cases this
   have key : ∀ (N : Nat) (l : List Nat), l.Nodup → (∀ i, i < N → i ∈ l) → N ≤ l.length := by
    intro N
    induction N with
    | zero => intro l _ _; omega
    | succ N ih =>
     intro l hn hm
     have h4 := ih (l.erase N) (hn.erase N) (fun i hi => (hn.mem_erase_iff).2 ⟨by omega, hm i (by omega)⟩)
     rw [List.length_erase_of_mem (hm N (by omega))] at h4
     have : 0 < l.length := List.length_pos_of_mem (hm N (by omega))
     omega
   have := key _ _ s.ndA hnot
   omega
  ·obtain ⟨o, ho, hni, hall⟩ := (ready_mem hl).1 hi
   have hlt := lt_of_get ho
   have ho' : ops[i]? = some o := by rw [← Array.getElem?_toList]; exact ho
   have hmem : o ∈ ops.toList := List.mem_of_getElem? ho
   have hl' := hl.set hlt
   have hclA : ∀ j p, ops.toList[j]? = some p → j ∈ i :: La → ∀ k ∈ aft p, k ∈ i :: La := by
    intro j p hp hj k hk
    rcases List.mem_cons.1 hj with e | e
    ·subst e; rw [ho] at hp; cases hp; simp [hall k hk]
    ·simp [s.clA j p hp e k hk]
   have hsame : ∀ v, SameBut (dsts ops.toList) tm0 (a.put o.dst v).tmps := fun v t ht => by
    rw [put_get_other fun e => ht (mem_dsts hmem e)]; exact s.same t ht
   unfold wpOp
   simp only [ho']
   by_cases hiD : i ∈ Ld
   · -- the reading has done it
    obtain ⟨envq, hd, hgk, hlook, hval⟩ := s.held i o ho hiD hni
    have hag : ∀ t ∈ looksT ops.toList o, ∀ v, envq t = some v → a.tmps[t]? = some v := by
     intro t ht v hv
     obtain ⟨h1, h2⟩ := hlook t ht v hv
     by_cases hex : ∃ p op, ops.toList[p]? = some op ∧ op.dst = some t ∧ p ∈ aft o
     ·obtain ⟨p, op, hp, hpd, hpa⟩ := hex
      refine s.agree t v (h1 ⟨p, op, hp, hpd, hpa⟩) fun p' op' hp' hpd' _ => ?_
      by_cases e : p' = p
      ·subst e; exact hall p' hpa
      ·exact absurd hpd' (hreg.one p' op' p op t hp' hp e hpd)
     ·exact h2 hex
    have hw : Region.wanted o (yielded ops a.tmps) = wantedE ops.toList envq o := wanted_eq hgk fun j want d v hg hdd hv => hag d (looksT_guard hg hdd) v hv
    have step : ∀ v, (∀ d, o.dst = some d → env d = some v) → wpAny P .any ops Q fa (listed.setIfInBounds i true) (a.put o.dst v) w := by
     intro v hv
     refine ih fd _ Ld (i :: La) rd env _ w hl' ?_ (by rw [List.length_cons]; omega) hfd (by rw [put_defers']; exact hdf) hrest h
     refine ⟨by rw [put_size, s.size], fun j hj => ?_, s.clD, hclA, s.ltD, s.ndD, List.nodup_cons.2 ⟨hni, s.ndA⟩, s.rdIn, hsame v, ?_, ?_⟩
     ·rcases List.mem_cons.1 hj with e | e
      ·subst e; exact hiD
      ·exact s.sub j e
     ·intro t u hu hA
      by_cases ht : o.dst = some t
      ·rw [hv t ht] at hu; cases hu
       rw [ht]
       exact put_get_same (by rw [s.size]; rw [ht] at hd; exact okDst_lt hd)
      ·rw [put_get_other ht]
       refine s.agree t u hu fun p op hp hpd hpD => ?_
       have hpi : p ≠ i := fun e => by subst e; rw [ho] at hp; cases hp; exact ht hpd
       rcases List.mem_cons.1 (hA p op hp hpd hpD) with e | e
       ·exact absurd e hpi
       ·exact e
     ·intro q2 o2 ho2 hq2 hq2A
      have hq2i : q2 ≠ i := fun e => hq2A (by simp [e])
      have hq2A' : q2 ∉ La := fun e => hq2A (by simp [e])
      obtain ⟨envq2, h1, h2, h3, h4⟩ := s.held q2 o2 ho2 hq2 hq2A'
      refine ⟨envq2, h1, h2, fun t ht u hu => ⟨(h3 t ht u hu).1, fun hno => ?_⟩, h4⟩
      rw [put_get_other]
      ·exact (h3 t ht u hu).2 hno
      ·intro e
       rcases hreg.look q2 o2 i o t ho2 ho hq2i e ht with h5 | h5
       ·exact hno ⟨i, o, ho, e, h5⟩
       ·exact hq2A' (hall q2 h5.1)
    rcases hval with ⟨hb, hquiet, ⟨K', hk, hk'⟩, _⟩ | ⟨hb, hk⟩
    ·rw [hw, hb, if_pos rfl]
     obtain ⟨v, kv, hr⟩ := denQ_ok hk
     refine .inl ?_
     unfold Oper.wp
     rw [hr a.eval w (agree_of fun t u hx hu => hag t (looksT_op hx) u hu) rfl, Oper.upon_value]
     exact step v fun d e => hk' d e v kv
    ·rw [hw, hb, if_neg (by simp)]
     exact step undef hk
   · -- a loud one, in both at once
    have hallD : ∀ k ∈ aft o, k ∈ Ld := fun k hk => s.sub k (hall k hk)
    have hfd1 : ∃ f, fd = f + 1 := by
     cases fd with
     | zero => exact absurd (nodup_all s.ndD s.ltD (by omega) i hlt) hiD
     | succ f => exact ⟨f, rfl⟩
    obtain ⟨f, rfl⟩ := hfd1
    unfold denAny at h
    simp only [hnone] at h
    have hrdy : readyI Ld (i, o) = true := by
     simp only [readyI, Bool.and_eq_true, Bool.not_eq_true', elemN_false, List.all_eq_true, elemN_iff]
     exact ⟨hiD, hallD⟩
    have hin : (i, o) ∈ louds (zipI ops.toList 0) Ld := List.mem_filter.2 ⟨zipI_mem0.2 ho, hrdy⟩
    have hloud : quietOp o.op = false := by
     rw [← Bool.not_eq_true]
     intro hq
     have := (List.find?_eq_none.1 hnone) (i, o) (zipI_mem0.2 ho)
     simp [hq, hrdy] at this
    have hf := allL_mem h hin
    have hag : ∀ t ∈ looksT ops.toList o, ∀ v, env t = some v → a.tmps[t]? = some v := by
     intro t ht v hv
     refine s.agree t v hv fun p op hp hpd hpD => ?_
     have hpi : p ≠ i := fun e => hiD (e ▸ hpD)
     rcases hreg.look i o p op t ho hp (fun e => hpi e.symm) hpd ht with h5 | h5
     ·exact hall p h5
     ·exact absurd (s.clD p op hp hpD i h5.1) hiD
    obtain ⟨hgk, hg⟩ := denG_spec hf
    have hw : Region.wanted o (yielded ops a.tmps) = wantedE ops.toList env o := wanted_eq hgk fun j want d v hg hdd hv => hag d (looksT_guard hg hdd) v hv
    have step : ∀ v w', okDst n o.dst = true → Rest w w' →
      recheck P (env.put o.dst v) (hp w') (rd.filter fun q => !elemN (ancs rzs (aft o)) q.1)
       (denAny P n ops.toList (zipI ops.toList 0) rzs f (i :: Ld) (rd.filter fun q => !elemN (ancs rzs (aft o)) q.1) (env.put o.dst v) (hp w') K) →
      wpAny P .any ops Q fa (listed.setIfInBounds i true) (a.put o.dst v) w' := by
     intro v w' hd hr hk
     obtain ⟨hk, hre⟩ := recheck_spec hk
     refine ih f _ (i :: Ld) (i :: La) _ (env.put o.dst v) _ w' hl' ?_ (by rw [List.length_cons]; omega) (by rw [List.length_cons]; omega) (by rw [put_defers']; exact hdf) (hrest.trans hr) hk
     refine ⟨by rw [put_size, s.size], fun j hj => ?_, ?_, hclA, ?_, List.nodup_cons.2 ⟨hiD, s.ndD⟩, List.nodup_cons.2 ⟨hni, s.ndA⟩, ?_, hsame v, ?_, ?_⟩
     ·rcases List.mem_cons.1 hj with e | e
      ·subst e; simp
      ·simp [s.sub j e]
     ·intro j p hp hj k hk
      rcases List.mem_cons.1 hj with e | e
      ·subst e; rw [ho] at hp; cases hp; simp [hallD k hk]
      ·simp [s.clD j p hp e k hk]
     ·intro j hj
      rcases List.mem_cons.1 hj with e | e
      ·subst e; exact hlt
      ·exact s.ltD j e
     ·intro p hp
      have := (List.mem_filter.1 hp).1
      exact ⟨(s.rdIn p this).1, by simp [(s.rdIn p this).2]⟩
     ·intro t u hu hA
      by_cases ht : o.dst = some t
      ·rw [ht, env_put_same] at hu; cases hu
       rw [ht]
       exact put_get_same (by rw [s.size]; rw [ht] at hd; exact okDst_lt hd)
      ·rw [env_put_other ht] at hu
       rw [put_get_other ht]
       refine s.agree t u hu fun p op hp hpd hpD => ?_
       have hpi : p ≠ i := fun e => by subst e; rw [ho] at hp; cases hp; exact ht hpd
       rcases List.mem_cons.1 (hA p op hp hpd (by simp [hpD])) with e | e
       ·exact absurd e hpi
       ·exact e
     ·intro q2 o2 ho2 hq2 hq2A
      have hq2i : q2 ≠ i := fun e => hq2A (by simp [e])
      have hq2A' : q2 ∉ La := fun e => hq2A (by simp [e])
      have hq2D : q2 ∈ Ld := by
       rcases List.mem_cons.1 hq2 with e | e
       ·exact absurd e hq2i
       ·exact e
      obtain ⟨envq2, h1, h2, h3, h4⟩ := s.held q2 o2 ho2 hq2D hq2A'
      have hdst : ∀ d, o2.dst = some d → o.dst ≠ some d := fun d e1 e2 => hreg.one q2 o2 i o d ho2 ho hq2i e2 e1
      have hlk : ∀ t ∈ looksT ops.toList o2, o.dst ≠ some t := by
       intro t ht e
       rcases hreg.look q2 o2 i o t ho2 ho hq2i e ht with h5 | h5
       ·exact hiD (s.clD q2 o2 ho2 hq2D i h5)
       ·exact hq2A' (hall q2 h5.1)
      refine ⟨envq2, h1, h2, fun t ht u hu => ⟨fun hex => ?_, fun hno => ?_⟩, ?_⟩
      ·rw [env_put_other (hlk t ht)]; exact (h3 t ht u hu).1 hex
      ·rw [put_get_other (hlk t ht)]; exact (h3 t ht u hu).2 hno
      ·rcases h4 with ⟨hb, hqq, ⟨K', hkq, hkq'⟩, hrd⟩ | ⟨hb, hkq⟩
       ·refine .inl ⟨hb, hqq, ?_, fun hrr => ?_⟩
        ·cases hrr : readOp P o2.op
         ·exact ⟨K', denQ_any hrr hkq, fun d e1 u hu => by rw [env_put_other (hdst d e1)]; exact hkq' d e1 u hu⟩
         ·obtain ⟨hr1, hr2⟩ := hrd hrr
          have hnot : q2 ∉ ancs rzs (aft o) := fun e => hq2A' (ancs_sub s.clA hrz hall q2 e)
          have hin2 : (q2, o2) ∈ rd.filter fun q => !elemN (ancs rzs (aft o)) q.1 := List.mem_filter.2 ⟨hr1, by simp [elemN_false.2 hnot]⟩
          obtain ⟨K2, hk2, hk2'⟩ := hre (q2, o2) hin2
          refine ⟨K2, denQ_congr hrr (fun x hx => ?_) hk2, fun d e1 u hu => hk2' d e1 u hu⟩
          cases x with
          | tmp t =>
           show (env.put o.dst v) t = envq2 t
           rw [env_put_other (hlk t (looksT_op hx))]
           exact hr2 t (looksT_op hx)
          | _ => rfl
        ·obtain ⟨hr1, hr2⟩ := hrd hrr
         have hnot : q2 ∉ ancs rzs (aft o) := fun e => hq2A' (ancs_sub s.clA hrz hall q2 e)
         refine ⟨List.mem_filter.2 ⟨hr1, by simp [elemN_false.2 hnot]⟩, fun t ht => ?_⟩
         rw [env_put_other (hlk t ht)]
         exact hr2 t ht
       ·exact .inr ⟨hb, fun d e1 => by rw [env_put_other (hdst d e1)]; exact hkq d e1⟩
    rcases hg with ⟨hb, hO⟩ | ⟨hb, hd, hk⟩
    ·rw [hw, hb, if_pos rfl]
     obtain ⟨hd, hV⟩ := denO_spec hO
     exact .inl (denV_wp hV (agree_of fun t u hx hu => hag t (looksT_op hx) u hu) fun v w' hr k => step v w' hd hr k)
    ·rw [hw, hb, if_neg (by simp)]
     exact step undef w hd (.refl w) hk

theorem denR_wp {id : Nat} {draw : Bool} {env : Env} {a : Act} {w : World} (hm : P.follows .mixedOrders = true) (hf : Fits n a.tmps env) (h : denR P n ops.toList draw env (hp w) K)
  (hK : ∀ env' a' w', Fits n a'.tmps env' → a'.defers = a.defers → Rest w w' → SameBut (dsts ops.toList) a.tmps a'.tmps → K env' (hp w') → Q .normal a' w') :
  (Code.region id ops draw).wp P Q a w := by
 unfold denR at h
 cases draw
 ·rw [cond_false] at h
  refine wp_region ?_
  rw [List.range_eq_range']
  have := denSeq_wp (Q := Q) ops.toList 0 env a w (fun j => by rw [Nat.zero_add]) hf h hK
  rw [Array.length_toList] at this
  exact this
 ·rw [cond_true] at h
  cases hr : regOk P ops.toList
  ·simp [hr] at h
  ·rw [hr, cond_true] at h
   refine wp_region_any hm ?_
   have hreg := regOk_spec hr
   have hL : Lists ops.toList (Array.replicate ops.size false) [] := by
    refine ⟨by simp, fun i hi => ?_, fun i hi => by cases hi⟩
    have : i < ops.size := by simpa using hi
    simp [this]
   refine any_sound (K := K) (rzs := (zipI ops.toList 0).reverse) hreg (fun p hp => zipI_mem0.1 (by simpa using hp)) a.tmps a.defers { w with drawn := w.drawn + 1 } (fun env' a' w' hf' hd hr hs k => ?_) ops.size ops.toList.length _ [] [] [] env a _ hL
    ⟨hf.size, (fun i hi => by cases hi), (fun i o _ hi => by cases hi), (fun i o _ hi => by cases hi), (fun i hi => by cases hi), List.nodup_nil, List.nodup_nil, (fun p hp => by cases hp), (fun _ _ => rfl),
     (fun t v hv _ => hf.at_ t v hv), (fun q o _ hq => by cases hq)⟩ (by simp) (by simp) rfl (.refl _) h
   exact hK env' a' w' hf' hd ⟨hr.os, hr.tape, hr.output, hr.size, Nat.le_trans (Nat.le_succ _) hr.drawn⟩ hs k

end any
end Go.Proofs.YtflfodcemnapeaaGreat

namespace Go.Proofs.YtflfodcemnapeaaGreat
set_option linter.unusedSimpArgs false
set_option linter.unusedVariables false
open Go
def Pr : List Leaf → Type
 | [] => Hp → Prop
 | .int _ :: l => Int → Pr l
 | .bool :: l => Bool → Pr l
 | .str :: l => ByteArray → Pr l
 | .ptr :: l => Option Addr → Pr l
 | .sl :: l => Option Addr → Nat → Nat → Pr l
 | .map :: l => Option Nat → Pr l
 | .any :: l => Value → Pr l
def Me : List Leaf → Type
 | [] => Hp → Nat
 | .int _ :: l => Int → Me l
 | .bool :: l => Bool → Me l
 | .str :: l => ByteArray → Me l
 | .ptr :: l => Option Addr → Me l
 | .sl :: l => Option Addr → Nat → Nat → Me l
 | .map :: l => Option Nat → Me l
 | .any :: l => Value → Me l

def allP : List Leaf → (List Value → Prop) → Prop
 | [], K => K []
 | .int k :: l, K => ∀ n, allP l fun vs => K (.int k n :: vs)
 | .bool :: l, K => ∀ n, allP l fun vs => K (.bool n :: vs)
 | .str :: l, K => ∀ n, allP l fun vs => K (.string n :: vs)
 | .ptr :: l, K => ∀ n, allP l fun vs => K (.pointer n :: vs)
 | .sl :: l, K => ∀ p n c, allP l fun vs => K (.slice p n c :: vs)
 | .map :: l, K => ∀ n, allP l fun vs => K (.map n :: vs)
 | .any :: l, K => ∀ n, allP l fun vs => K (n :: vs)

def appP : (ls : List Leaf) → Pr ls → List Value → Hp → Prop
 | [], R, _, H => R H
 | .int k :: l, R, v :: vs, H => asI k v fun n => appP l (R n) vs H
 | .bool :: l, R, v :: vs, H => asB v fun n => appP l (R n) vs H
 | .str :: l, R, v :: vs, H => asStr v fun n => appP l (R n) vs H
 | .ptr :: l, R, v :: vs, H => asP v fun n => appP l (R n) vs H
 | .sl :: l, R, v :: vs, H => asSl v fun p n c => appP l (R p n c) vs H
 | .map :: l, R, v :: vs, H => asM v fun n => appP l (R n) vs H
 | .any :: l, R, v :: vs, H => appP l (R v) vs H
 | _, _, [], _ => False

def appM : (ls : List Leaf) → Me ls → List Value → Hp → Nat
 | [], m, _, H => m H
 | .int _ :: l, m, v :: vs, H => match v with | .int _ n => appM l (m n) vs H | _ => 0
 | .bool :: l, m, v :: vs, H => match v with | .bool n => appM l (m n) vs H | _ => 0
 | .str :: l, m, v :: vs, H => match v with | .string n => appM l (m n) vs H | _ => 0
 | .ptr :: l, m, v :: vs, H => match v with | .pointer n => appM l (m n) vs H | _ => 0
 | .sl :: l, m, v :: vs, H => match v with | .slice p n c => appM l (m p n c) vs H | _ => 0
 | .map :: l, m, v :: vs, H => match v with | .map n => appM l (m n) vs H | _ => 0
 | .any :: l, m, v :: vs, H => appM l (m v) vs H
 | _, _, [], _ => 0

def curryP : (ls : List Leaf) → (List Value → Hp → Prop) → Pr ls
 | [], f => fun H => f [] H
 | .int k :: l, f => fun n => curryP l fun vs => f (.int k n :: vs)
 | .bool :: l, f => fun n => curryP l fun vs => f (.bool n :: vs)
 | .str :: l, f => fun n => curryP l fun vs => f (.string n :: vs)
 | .ptr :: l, f => fun n => curryP l fun vs => f (.pointer n :: vs)
 | .sl :: l, f => fun p n c => curryP l fun vs => f (.slice p n c :: vs)
 | .map :: l, f => fun n => curryP l fun vs => f (.map n :: vs)
 | .any :: l, f => fun n => curryP l fun vs => f (n :: vs)

/-- Where ways meet, or a loop begins: which slots are given, by their types; which others stay. -/
structure Sig where
 given : List (Nat × Leaf)
 keep : List Nat

def Sig.ls (s : Sig) : List Leaf := s.given.map (·.2)
def sigAt : List (Nat × Leaf) → List Value → Nat → Option Value
 | (d, _) :: l, v :: vs, i => cond (Nat.beq i d) (some v) (sigAt l vs i)
 | _, _, _ => none
def joinE (env : Env) (s : Sig) (vs : List Value) : Env := fun i => match sigAt s.given vs i with
 | some v => some v
 | none => cond (elemN s.keep i) (env i) none
def slotsE (env : Env) : List (Nat × Leaf) → (List Value → Prop) → Prop
 | [], K => K []
 | (d, _) :: l, K => match env d with | some v => slotsE env l fun vs => K (v :: vs) | none => False

inductive Ann where
 | n
 | seq (cut : Option Sig) (l r : Ann)
 | two (l r : Ann)
 | loop (s : Sig) (b : Ann)
 | sub (b : Ann)

def Ann.cut : Ann → Option Sig | .seq c _ _ => c | _ => none
def Ann.l : Ann → Ann | .seq _ l _ => l | .two l _ => l | _ => .n
def Ann.r : Ann → Ann | .seq _ _ r => r | .two _ r => r | _ => .n
def Ann.b : Ann → Ann | .sub b => b | _ => .n

def writes : Code → List Nat
 | .region _ ops _ => ops.toList.filterMap (·.dst)
 | .seq a b => writes a ++ writes b
 | .cond _ a b => writes a ++ writes b
 | .block _ c => writes c
 | .loop c => writes c
 | .scope c => writes c
 | _ => []

def disj (keep ws : List Nat) : Bool := ws.all fun w => !elemN keep w
/-- No given slot stands twice, none among those that stay. -/
def nodupN : List Nat → Bool
 | [] => true
 | i :: l => !elemN l i && nodupN l
def Sig.ok (s : Sig) (ws : List Nat) : Bool := disj s.keep ws && nodupN (s.given.map (·.1))

def onNormal (K : Env → Hp → Prop) (Q : Exit → Env → Hp → Prop) : Exit → Env → Hp → Prop := fun ex env H => match ex with
 | .normal => K env H
 | .exit j => Q (.exit j) env H
 | .goto l => Q (.goto l) env H
 | .ret => Q .ret env H
 | .panic c => Q (.panic c) env H
 | .outgrown => Q .outgrown env H
def inBlk (id : Nat) (Q : Exit → Env → Hp → Prop) : Exit → Env → Hp → Prop := fun ex env H => match ex with
 | .normal => Q .normal env H
 | .exit j => cond (Nat.beq j id) (Q .normal env H) (Q (.exit j) env H)
 | .goto l => Q (.goto l) env H
 | .ret => Q .ret env H
 | .panic c => Q (.panic c) env H
 | .outgrown => Q .outgrown env H
def noGoto (Q : Exit → Env → Hp → Prop) : Exit → Env → Hp → Prop := fun ex env H => match ex with
 | .normal => Q .normal env H
 | .exit j => Q (.exit j) env H
 | .goto _ => False
 | .ret => Q .ret env H
 | .panic c => Q (.panic c) env H
 | .outgrown => Q .outgrown env H

def denC (P : Program) (n : Nat) : Code → Ann → Env → Hp → (Exit → Env → Hp → Prop) → Prop
 | .skip, _, env, H, Q => Q .normal env H
 | .region _ ops draw, _, env, H, Q => denR P n ops.toList draw env H fun env' H' => Q .normal env' H'
 | .seq x y, ann, env, H, Q =>
  match ann.cut with
  | some s => cond (s.ok (writes x))
    (∀ R : Pr s.ls, (allP s.ls fun vs => ∀ H', denC P n y ann.r (joinE env s vs) H' Q → appP s.ls R vs H') →
     denC P n x ann.l env H (onNormal (fun env' H' => slotsE env' s.given fun vs => appP s.ls R vs H') Q)) False
  | none => denC P n x ann.l env H (onNormal (fun env' H' => denC P n y ann.r env' H' Q) Q)
 | .cond c x y, ann, env, H, Q => ev1 env c fun v => asB v fun b => cond b (denC P n x ann.l env H Q) (denC P n y ann.r env H Q)
 | .block id c, ann, env, H, Q => denC P n c ann.b env H (inBlk id Q)
 | .loop c, ann, env, H, Q =>
  match ann with
  | .loop s b => cond (s.ok (writes c))
    (∃ (I : Pr s.ls) (m : Me s.ls), (slotsE env s.given fun vs => appP s.ls I vs H) ∧
     allP s.ls fun vs => ∀ H', appP s.ls I vs H' → denC P n c b (joinE env s vs) H'
      (onNormal (fun env' H'' => slotsE env' s.given fun vs' => appP s.ls I vs' H'' ∧ appM s.ls m vs' H'' < appM s.ls m vs H') Q)) False
  | _ => False
 | .exit id, _, env, H, Q => Q (.exit id) env H
 | .scope c, ann, env, H, Q => denC P n c ann.b env H (noGoto Q)
 | .label _, _, env, H, Q => Q .normal env H
 | .goto l, _, env, H, Q => Q (.goto l) env H
 | .ret, _, env, H, Q => Q .ret env H
 | _, _, _, _, _ => False

def resL (P : Program) (env : Env) (H : Hp) : List ResultVar → (List Value → Prop) → Prop
 | [], K => K []
 | .tmp t :: l, K => ev1 env (.tmp t) fun v => resL P env H l fun vs => K (v :: vs)
 | .cell a t :: l, K => ev1 env (.tmp a) fun v => asA v fun ad => ldT P t ad H fun v => resL P env H l fun vs => K (v :: vs)
def resD (P : Program) (rs : List ResultVar) (env : Env) (H : Hp) (K : Value → Prop) : Prop :=
 resL P env H rs fun vs => match vs with | [v] => K v | vs => K (.tuple ⟨vs⟩)

def argE : List Value → Env := fun args i => args[i]?

def outQ (P : Program) (fn : Func) (K : Value → Hp → Prop) : Exit → Env → Hp → Prop := fun ex env H => match ex with
 | .normal => resD P fn.results.toList env H fun v => K v H
 | .ret => resD P fn.results.toList env H fun v => K v H
 | _ => False

def denF (P : Program) (fn : Func) (ann : Ann) (args : List Value) (H : Hp) (K : Value → Hp → Prop) : Prop :=
 match fn.body with
 | some c => cond (Nat.ble args.length fn.ntmps) (denC P fn.ntmps c ann (argE args) H (outQ P fn K)) False
 | none => False

end Go.Proofs.YtflfodcemnapeaaGreat

namespace Go.Proofs.YtflfodcemnapeaaGreat
set_option linter.unusedSimpArgs false
set_option linter.unusedVariables false
open Go
variable {P : Program} {n : Nat}
theorem asStr_spec {v : Value} {K : ByteArray → Prop} (h : asStr v K) : ∃ b, v = .string b ∧ K b := by
 unfold asStr at h
 split at h
 ·exact ⟨_, rfl, h⟩
 ·exact h.elim
theorem asP_spec {v : Value} {K : Option Addr → Prop} (h : asP v K) : ∃ b, v = .pointer b ∧ K b := by
 unfold asP at h
 split at h
 ·exact ⟨_, rfl, h⟩
 ·exact h.elim
theorem asI_mk {k : IntKind} {m : Int} {K : Int → Prop} (h : K m) : asI k (.int k m) K := by
 show cond (kindEq k k) _ _
 rw [kindEq_refl, cond_true]
 exact h

/-- What stands in a relation made of a reading is the reading. -/
theorem appP_curry : ∀ {ls : List Leaf} {f : List Value → Hp → Prop} {vs : List Value} {H : Hp}, vs.length = ls.length → appP ls (curryP ls f) vs H → f vs H := by
 intro ls
 induction ls with
 | nil =>
  intro f vs H hl h
  cases vs with
  | nil => exact h
  | cons v vs => simp at hl
 | cons l ls ih =>
  intro f vs H hl h
  cases vs with
  | nil => simp at hl
  | cons v vs =>
   have hl' : vs.length = ls.length := by simpa using hl
   cases l
   case int k => obtain ⟨m, rfl, h'⟩ := asI_spec h; exact ih (f := fun vs => f (.int k m :: vs)) hl' h'
   case bool => obtain ⟨m, rfl, h'⟩ := asB_spec h; exact ih (f := fun vs => f (.bool m :: vs)) hl' h'
   case str => obtain ⟨m, rfl, h'⟩ := asStr_spec h; exact ih (f := fun vs => f (.string m :: vs)) hl' h'
   case ptr => obtain ⟨m, rfl, h'⟩ := asP_spec h; exact ih (f := fun vs => f (.pointer m :: vs)) hl' h'
   case sl => obtain ⟨p, l, c, rfl, h'⟩ := asSl_spec h; exact ih (f := fun vs => f (.slice p l c :: vs)) hl' h'
   case map => obtain ⟨m, rfl, h'⟩ := asM_spec h; exact ih (f := fun vs => f (.map m :: vs)) hl' h'
   case any => exact ih (f := fun vs => f (v :: vs)) hl' h

/-- A value's place among a relation's is of its type. -/
def fitLs : List Leaf → List Value → Prop
 | [], [] => True
 | .int k :: l, v :: vs => (∃ m, v = .int k m) ∧ fitLs l vs
 | .bool :: l, v :: vs => (∃ m, v = .bool m) ∧ fitLs l vs
 | .str :: l, v :: vs => (∃ m, v = .string m) ∧ fitLs l vs
 | .ptr :: l, v :: vs => (∃ m, v = .pointer m) ∧ fitLs l vs
 | .sl :: l, v :: vs => (∃ p a c, v = .slice p a c) ∧ fitLs l vs
 | .map :: l, v :: vs => (∃ m, v = .map m) ∧ fitLs l vs
 | .any :: l, _ :: vs => fitLs l vs
 | _, _ => False

theorem appP_fit : ∀ {ls : List Leaf} {R : Pr ls} {vs : List Value} {H : Hp}, vs.length = ls.length → appP ls R vs H → fitLs ls vs := by
 intro ls
 induction ls with
 | nil => intro R vs H hl h; cases vs with | nil => trivial | cons v vs => simp at hl
 | cons l ls ih =>
  intro R vs H hl h
  cases vs with
  | nil => simp at hl
  | cons v vs =>
   have hl' : vs.length = ls.length := by simpa using hl
   cases l
   case int k => obtain ⟨m, rfl, h'⟩ := asI_spec h; exact ⟨⟨m, rfl⟩, ih hl' h'⟩
   case bool => obtain ⟨m, rfl, h'⟩ := asB_spec h; exact ⟨⟨m, rfl⟩, ih hl' h'⟩
   case str => obtain ⟨m, rfl, h'⟩ := asStr_spec h; exact ⟨⟨m, rfl⟩, ih hl' h'⟩
   case ptr => obtain ⟨m, rfl, h'⟩ := asP_spec h; exact ⟨⟨m, rfl⟩, ih hl' h'⟩
   case sl => obtain ⟨p, l, c, rfl, h'⟩ := asSl_spec h; exact ⟨⟨p, l, c, rfl⟩, ih hl' h'⟩
   case map => obtain ⟨m, rfl, h'⟩ := asM_spec h; exact ⟨⟨m, rfl⟩, ih hl' h'⟩
   case any => exact ih hl' h

theorem fit_length : ∀ {ls : List Leaf} {vs : List Value}, fitLs ls vs → vs.length = ls.length := by
 intro ls
 induction ls with
 | nil => intro vs h; cases vs with | nil => rfl | cons v vs => exact h.elim
 | cons l ls ih =>
  intro vs h
  cases vs with
  | nil => cases l <;> exact h.elim
  | cons v vs => cases l <;> first | (rw [List.length_cons, List.length_cons, ih h.2]) | (rw [List.length_cons, List.length_cons, ih (vs := vs) h])

theorem allP_fit : ∀ {ls : List Leaf} {K : List Value → Prop} {vs : List Value}, allP ls K → fitLs ls vs → K vs := by
 intro ls
 induction ls with
 | nil => intro K vs h hf; cases vs with | nil => exact h | cons v vs => exact hf.elim
 | cons l ls ih =>
  intro K vs h hf
  cases vs with
  | nil => cases l <;> exact hf.elim
  | cons v vs =>
   cases l
   case int k => obtain ⟨⟨m, rfl⟩, hf⟩ := hf; exact ih (K := fun vs => K (.int k m :: vs)) (h m) hf
   case bool => obtain ⟨⟨m, rfl⟩, hf⟩ := hf; exact ih (K := fun vs => K (.bool m :: vs)) (h m) hf
   case str => obtain ⟨⟨m, rfl⟩, hf⟩ := hf; exact ih (K := fun vs => K (.string m :: vs)) (h m) hf
   case ptr => obtain ⟨⟨m, rfl⟩, hf⟩ := hf; exact ih (K := fun vs => K (.pointer m :: vs)) (h m) hf
   case sl => obtain ⟨⟨p, a, c, rfl⟩, hf⟩ := hf; exact ih (K := fun vs => K (.slice p a c :: vs)) (h p a c) hf
   case map => obtain ⟨⟨m, rfl⟩, hf⟩ := hf; exact ih (K := fun vs => K (.map m :: vs)) (h m) hf
   case any => exact ih (K := fun vs => K (v :: vs)) (h v) hf

theorem allP_intro : ∀ {ls : List Leaf} {K : List Value → Prop}, (∀ vs, fitLs ls vs → K vs) → allP ls K := by
 intro ls
 induction ls with
 | nil => intro K h; exact h [] trivial
 | cons l ls ih =>
  intro K h
  cases l
  case int k => exact fun m => ih fun vs hf => h _ ⟨⟨m, rfl⟩, hf⟩
  case bool => exact fun m => ih fun vs hf => h _ ⟨⟨m, rfl⟩, hf⟩
  case str => exact fun m => ih fun vs hf => h _ ⟨⟨m, rfl⟩, hf⟩
  case ptr => exact fun m => ih fun vs hf => h _ ⟨⟨m, rfl⟩, hf⟩
  case sl => exact fun p a c => ih fun vs hf => h _ ⟨⟨p, a, c, rfl⟩, hf⟩
  case map => exact fun m => ih fun vs hf => h _ ⟨⟨m, rfl⟩, hf⟩
  case any => exact fun m => ih fun vs hf => h _ hf

theorem curry_app : ∀ {ls : List Leaf} {f : List Value → Hp → Prop} {vs : List Value} {H : Hp}, fitLs ls vs → f vs H → appP ls (curryP ls f) vs H := by
 intro ls
 induction ls with
 | nil => intro f vs H hf h; cases vs with | nil => exact h | cons v vs => exact hf.elim
 | cons l ls ih =>
  intro f vs H hf h
  cases vs with
  | nil => cases l <;> exact hf.elim
  | cons v vs =>
   cases l
   case int k => obtain ⟨⟨m, rfl⟩, hf⟩ := hf; exact asI_mk (ih (f := fun vs => f (.int k m :: vs)) hf h)
   case bool => obtain ⟨⟨m, rfl⟩, hf⟩ := hf; exact ih (f := fun vs => f (.bool m :: vs)) hf h
   case str => obtain ⟨⟨m, rfl⟩, hf⟩ := hf; exact ih (f := fun vs => f (.string m :: vs)) hf h
   case ptr => obtain ⟨⟨m, rfl⟩, hf⟩ := hf; exact ih (f := fun vs => f (.pointer m :: vs)) hf h
   case sl => obtain ⟨⟨p, a, c, rfl⟩, hf⟩ := hf; exact ih (f := fun vs => f (.slice p a c :: vs)) hf h
   case map => obtain ⟨⟨m, rfl⟩, hf⟩ := hf; exact ih (f := fun vs => f (.map m :: vs)) hf h
   case any => exact ih (f := fun vs => f (v :: vs)) hf h

theorem slotsE_spec {env : Env} : ∀ {g : List (Nat × Leaf)} {K : List Value → Prop}, slotsE env g K → ∃ vs, K vs ∧ vs.length = (g.map (·.2)).length ∧ ∀ i v, sigAt g vs i = some v → env i = some v := by
 intro g
 induction g with
 | nil => intro K h; exact ⟨[], h, rfl, fun i v hv => by simp [sigAt] at hv⟩
 | cons x g ih =>
  intro K h
  obtain ⟨d, l⟩ := x
  unfold slotsE at h
  split at h
  ·rename_i u hu
   obtain ⟨vs, k, hl, hs⟩ := ih h
   refine ⟨u :: vs, k, by simp [hl], fun i v hv => ?_⟩
   unfold sigAt at hv
   by_cases hi : i = d
   ·subst hi
    have : Nat.beq i i = true := by simp
    rw [this, cond_true] at hv
    rw [hu, hv]
   ·have : Nat.beq i d = false := by rw [← Bool.not_eq_true]; exact fun e => hi (Nat.eq_of_beq_eq_true e)
    rw [this, cond_false] at hv
    exact hs i v hv
  ·exact h.elim

theorem disj_spec {keep ws : List Nat} (h : disj keep ws = true) : ∀ i ∈ keep, i ∉ ws := by
 intro i hi hw
 unfold disj at h
 rw [List.all_eq_true] at h
 have := h i hw
 simp [elemN_iff.2 hi] at this

theorem Sig.ok_spec {s : Sig} {ws : List Nat} (h : s.ok ws = true) : disj s.keep ws = true ∧ nodupN (s.given.map (·.1)) = true := by
 unfold Sig.ok at h
 rwa [Bool.and_eq_true] at h

/-- The slots where ways meet. -/
theorem Fits.join {tm tm' : Array Value} {env env' : Env} {s : Sig} {ws : List Nat} {vs : List Value} (h : ∀ i ∈ s.keep, ∀ v, env i = some v → tm[i]? = some v) (h' : Fits n tm' env') (hs : SameBut ws tm tm') (hok : s.ok ws = true)
  (hv : ∀ i v, sigAt s.given vs i = some v → env' i = some v) : Fits n tm' (joinE env s vs) := by
 refine ⟨h'.size, fun i v hi => ?_⟩
 unfold joinE at hi
 split at hi
 ·rename_i u hu
  cases hi
  exact h'.at_ i _ (hv i _ hu)
 ·cases hk : elemN s.keep i
  ·rw [hk, cond_false] at hi; cases hi
  ·rw [hk, cond_true] at hi
   rw [hs i (disj_spec (Sig.ok_spec hok).1 i (elemN_iff.1 hk))]
   exact h i (elemN_iff.1 hk) v hi

theorem sigAt_mem : ∀ {g : List (Nat × Leaf)} {vs : List Value} {i : Nat} {v : Value}, sigAt g vs i = some v → i ∈ g.map (·.1) := by
 intro g
 induction g with
 | nil => intro vs i v h; simp [sigAt] at h
 | cons x g ih =>
  intro vs i v h
  obtain ⟨d, l⟩ := x
  cases vs with
  | nil => simp [sigAt] at h
  | cons u vs =>
   unfold sigAt at h
   by_cases hi : i = d
   ·simp [hi]
   ·have : Nat.beq i d = false := by rw [← Bool.not_eq_true]; exact fun e => hi (Nat.eq_of_beq_eq_true e)
    rw [this, cond_false] at h
    simp [ih h]

/-- The given slots, read off the run. -/
theorem slots_read {tm : Array Value} : ∀ {g : List (Nat × Leaf)} {vs : List Value}, nodupN (g.map (·.1)) = true → vs.length = g.length → (∀ i v, sigAt g vs i = some v → tm[i]? = some v) →
  (g.map fun x => tm.getD x.1 undef) = vs := by
 intro g
 induction g with
 | nil => intro vs _ hl _; cases vs with | nil => rfl | cons v vs => simp at hl
 | cons x g ih =>
  intro vs hn hl h
  obtain ⟨d, l⟩ := x
  cases vs with
  | nil => simp at hl
  | cons u vs =>
   simp only [List.map_cons, nodupN, Bool.and_eq_true, Bool.not_eq_true', elemN_false] at hn
   have hdd : Nat.beq d d = true := by simp
   have h1 : tm[d]? = some u := h d u (by simp [sigAt])
   have h2 : (g.map fun x => tm.getD x.1 undef) = vs := by
    refine ih hn.2 (by simpa using hl) fun i v hv => h i v ?_
    unfold sigAt
    have : i ≠ d := fun e => hn.1 (e ▸ sigAt_mem hv)
    have : Nat.beq i d = false := by rw [← Bool.not_eq_true]; exact fun e => this (Nat.eq_of_beq_eq_true e)
    rw [this, cond_false]
    exact hv
   rw [List.map_cons, h2]
   congr 1
   simp [h1]

theorem SameBut.mono {ws ws' : List Nat} {tm tm' : Array Value} (h : SameBut ws tm tm') (hs : ∀ i ∈ ws, i ∈ ws') : SameBut ws' tm tm' := fun t ht => h t fun e => ht (hs t e)
theorem SameBut.refl (ws : List Nat) (tm : Array Value) : SameBut ws tm tm := fun _ _ => rfl
theorem SameBut.trans {ws : List Nat} {a b c : Array Value} (h : SameBut ws a b) (k : SameBut ws b c) : SameBut ws a c := fun t ht => (k t ht).trans (h t ht)

/-- How the run ended, seen from the reading. -/
def Post (n : Nat) (ws : List Nat) (a0 : Act) (w0 : World) (Q : Exit → Env → Hp → Prop) (ex : Exit) (a : Act) (w : World) : Prop :=
 ∃ env, Fits n a.tmps env ∧ a.defers = a0.defers ∧ Rest w0 w ∧ SameBut ws a0.tmps a.tmps ∧ Q ex env (hp w)

theorem denC_wp (hm : P.follows .mixedOrders = true) : ∀ (c : Code) (ann : Ann) (env : Env) (Q : Exit → Env → Hp → Prop) (a : Act) (w : World), Fits n a.tmps env → denC P n c ann env (hp w) Q →
  c.wp P (Post n (writes c) a w Q) a w := by
 intro c
 induction c with
 | skip => intro ann env Q a w hf h; exact wp_skip ⟨env, hf, rfl, .refl w, .refl _ _, h⟩
 | region id ops draw =>
  intro ann env Q a w hf h
  refine denR_wp hm hf h fun env' a' w' hf' hd hr hs k => ⟨env', hf', hd, hr, hs, k⟩
 | seq x y ihx ihy =>
  intro ann env Q a w hf h
  refine wp_seq ?_
  unfold denC at h
  cases hc : ann.cut with
  | none =>
   simp only [hc] at h
   refine wp_mono (ihx ann.l env _ a w hf h) ?_
   rintro ex a1 w1 ⟨env1, hf1, hd1, hr1, hs1, hq⟩
   have hs1' : SameBut (writes (.seq x y)) a.tmps a1.tmps := hs1.mono fun i hi => by simp [writes, hi]
   cases ex with
   | normal =>
    refine wp_mono (ihy ann.r env1 Q a1 w1 hf1 hq) ?_
    rintro ex a2 w2 ⟨env2, hf2, hd2, hr2, hs2, hq2⟩
    exact ⟨env2, hf2, by rw [hd2, hd1], hr1.trans hr2, hs1'.trans (hs2.mono fun i hi => by simp [writes, hi]), hq2⟩
   | _ => exact ⟨env1, hf1, hd1, hr1, hs1', hq⟩
  | some s =>
   simp only [hc] at h
   cases hok : s.ok (writes x)
   ·simp [hok] at h
   ·rw [hok, cond_true] at h
    have h := h (curryP s.ls fun vs H' => denC P n y ann.r (joinE env s vs) H' Q) (allP_intro fun vs hfit H' hd => curry_app hfit hd)
    refine wp_mono (ihx ann.l env _ a w hf h) ?_
    rintro ex a1 w1 ⟨env1, hf1, hd1, hr1, hs1, hq⟩
    have hs1' : SameBut (writes (.seq x y)) a.tmps a1.tmps := hs1.mono fun i hi => by simp [writes, hi]
    cases ex with
    | normal =>
     obtain ⟨vs, k, hl, hv⟩ := slotsE_spec hq
     have hfj : Fits n a1.tmps (joinE env s vs) := Fits.join (fun i _ => hf.at_ i) hf1 hs1 hok hv
     have k' := appP_curry hl k
     refine wp_mono (ihy ann.r _ Q a1 w1 hfj k') ?_
     rintro ex a2 w2 ⟨env2, hf2, hd2, hr2, hs2, hq2⟩
     exact ⟨env2, hf2, by rw [hd2, hd1], hr1.trans hr2, hs1'.trans (hs2.mono fun i hi => by simp [writes, hi]), hq2⟩
    | _ => exact ⟨env1, hf1, hd1, hr1, hs1', hq⟩
 | cond c x y ihx ihy =>
  intro ann env Q a w hf h
  obtain ⟨v, hv, h⟩ := ev1_get h
  obtain ⟨b, rfl, h⟩ := asB_spec h
  have he : a.eval c = .bool b := (agree_of (xs := [c]) fun t u _ hu => hf.at_ t u hu) c _ (by simp) hv
  cases b
  ·refine wp_cond_false he (wp_mono (ihy ann.r env Q a w hf h) ?_)
   rintro ex a2 w2 ⟨env2, hf2, hd2, hr2, hs2, hq2⟩
   exact ⟨env2, hf2, hd2, hr2, hs2.mono fun i hi => by simp [writes, hi], hq2⟩
  ·refine wp_cond_true he (wp_mono (ihx ann.l env Q a w hf h) ?_)
   rintro ex a2 w2 ⟨env2, hf2, hd2, hr2, hs2, hq2⟩
   exact ⟨env2, hf2, hd2, hr2, hs2.mono fun i hi => by simp [writes, hi], hq2⟩
 | block id c ih =>
  intro ann env Q a w hf h
  refine wp_block (wp_mono (ih ann.b env _ a w hf h) ?_)
  rintro ex a2 w2 ⟨env2, hf2, hd2, hr2, hs2, hq2⟩
  cases ex with
  | exit j =>
   show ite (j = id) _ _
   by_cases e : j = id
   ·subst e
    have : Nat.beq j j = true := by simp
    simp only [inBlk, this, cond_true] at hq2
    rw [if_pos rfl]
    exact ⟨env2, hf2, hd2, hr2, hs2, hq2⟩
   ·have : Nat.beq j id = false := by rw [← Bool.not_eq_true]; exact fun e' => e (Nat.eq_of_beq_eq_true e')
    simp only [inBlk, this, cond_false] at hq2
    rw [if_neg e]
    exact ⟨env2, hf2, hd2, hr2, hs2, hq2⟩
  | _ => exact ⟨env2, hf2, hd2, hr2, hs2, hq2⟩
 | loop c ih =>
  intro ann env Q a w hf h
  unfold denC at h
  split at h
  ·rename_i s b
   cases hok : s.ok (writes c)
   ·simp [hok] at h
   ·rw [hok, cond_true] at h
    obtain ⟨I, m, h0, hround⟩ := h
    have hnd := (Sig.ok_spec hok).2
    have hlen : s.ls.length = s.given.length := by simp [Sig.ls]
    have rd : ∀ {a1 : Act} {vs : List Value}, fitLs s.ls vs → Fits n a1.tmps (joinE env s vs) → (s.given.map fun x => a1.tmps.getD x.1 undef) = vs := by
     intro a1 vs hfit hf1
     refine slots_read hnd (by rw [fit_length hfit, hlen]) fun i v hv => hf1.at_ i v ?_
     unfold joinE
     rw [hv]
    have hkeep : ∀ i ∈ s.keep, ∀ v, env i = some v → a.tmps[i]? = some v := fun i _ => hf.at_ i
    refine wp_loop (I := fun a1 w1 => ∃ vs, a1.defers = a.defers ∧ Rest w w1 ∧ SameBut (writes (.loop c)) a.tmps a1.tmps ∧ Fits n a1.tmps (joinE env s vs) ∧ fitLs s.ls vs ∧ appP s.ls I vs (hp w1))
     (μ := fun a1 w1 => appM s.ls m (s.given.map fun x => a1.tmps.getD x.1 undef) (hp w1)) ?_ ?_
    ·obtain ⟨vs, k, hl, hv⟩ := slotsE_spec h0
     exact ⟨vs, rfl, .refl w, .refl _ _, Fits.join hkeep hf (SameBut.refl (writes c) _) hok hv, appP_fit hl k, k⟩
    ·rintro a1 w1 ⟨vs, hd1, hr1, hs1, hf1, hfit, k⟩
     have hb := allP_fit hround hfit (hp w1) k
     refine wp_mono (ih b _ _ a1 w1 hf1 hb) ?_
     rintro ex a2 w2 ⟨env2, hf2, hd2, hr2, hs2, hq2⟩
     have hs12 : SameBut (writes (.loop c)) a.tmps a2.tmps := hs1.trans (hs2.mono fun i hi => hi)
     cases ex with
     | normal =>
      obtain ⟨vs', ⟨k', hlt⟩, hl, hv⟩ := slotsE_spec hq2
      have hfit' := appP_fit hl k'
      have hfj : Fits n a2.tmps (joinE env s vs') := Fits.join hkeep hf2 hs12 hok hv
      refine ⟨⟨vs', by rw [hd2, hd1], hr1.trans hr2, hs12, hfj, hfit', k'⟩, ?_⟩
      show appM _ _ _ _ < appM _ _ _ _
      rw [rd hfit' hfj, rd hfit hf1]
      exact hlt
     | _ => exact ⟨env2, hf2, by rw [hd2, hd1], hr1.trans hr2, hs12, hq2⟩
  ·exact h.elim
 | rangeFunc f ps as b ih1 ih2 => intro ann env Q a w hf h; exact h.elim
 | exit id => intro ann env Q a w hf h; exact wp_exit ⟨env, hf, rfl, .refl w, .refl _ _, h⟩
 | scope c ih =>
  intro ann env Q a w hf h
  refine wp_scope_straight (wp_mono (ih ann.b env _ a w hf h) ?_)
  rintro ex a2 w2 ⟨env2, hf2, hd2, hr2, hs2, hq2⟩
  cases ex <;> first | exact ⟨env2, hf2, hd2, hr2, hs2, hq2⟩ | exact hq2.elim
 | label l => intro ann env Q a w hf h; exact wp_label ⟨env, hf, rfl, .refl w, .refl _ _, h⟩
 | goto l => intro ann env Q a w hf h; exact wp_goto ⟨env, hf, rfl, .refl w, .refl _ _, h⟩
 | ret => intro ann env Q a w hf h; exact wp_ret ⟨env, hf, rfl, .refl w, .refl _ _, h⟩
 | refuse why => intro ann env Q a w hf h; exact h.elim


/-! ## A function -/
theorem resL_run {env : Env} {a : Act} {w : World} (hf : ∀ i v, env i = some v → a.tmps[i]? = some v) : ∀ {rs : List ResultVar} {K : List Value → Prop}, resL P env (hp w) rs K →
    ∃ vs, K vs ∧ (rs.mapM fun r => (match r with | .tmp t => pure (a.tmps.getD t undef) | .cell ad t => do loadVar t (← asAddr (a.tmps.getD ad undef)) : Sem Value)).run P w = .ok vs w := by
  intro rs
  induction rs with
  | nil => intro K h; exact ⟨[], h, rfl⟩
  | cons r rs ih =>
    intro K h
    cases r with
    | tmp t =>
      obtain ⟨v, hv, h⟩ := ev1_get h
      obtain ⟨vs, k, hr⟩ := ih h
      refine ⟨v :: vs, k, ?_⟩
      have e : a.tmps.getD t undef = v := by simp [hf t v hv]
      rw [List.mapM_cons]
      simp only [e, Sem.run_bind, Sem.run_pure, Result.andThen_ok, hr]
    | cell ad t =>
      obtain ⟨v, hv, h⟩ := ev1_get h
      obtain ⟨p, rfl, h⟩ := asA_spec h
      obtain ⟨u, h, hl⟩ := ldT_run h
      obtain ⟨vs, k, hr⟩ := ih h
      refine ⟨u :: vs, k, ?_⟩
      have e : a.tmps.getD ad undef = .pointer (some p) := by simp [hf ad _ hv]
      have e2 : (asAddr (.pointer (some p)) : Sem Addr) = pure p := rfl
      rw [List.mapM_cons]
      simp only [e, e2, Sem.run_bind, Sem.run_pure, Result.andThen_ok, hl w rfl, hr]

theorem resD_run {fn : Func} {env : Env} {a : Act} {w : World} {K : Value → Prop} (hf : ∀ i v, env i = some v → a.tmps[i]? = some v) (h : resD P fn.results.toList env (hp w) K) :
  ∃ v, K v ∧ (results fn a.tmps).run P w = .ok v w := by
 obtain ⟨vs, k, hr⟩ := resL_run (a := a) hf h
 have key : (results fn a.tmps).run P w = .ok (if h : vs.toArray.size = 1 then vs.toArray[0] else .tuple vs.toArray) w := by
  unfold results
  rw [Array.mapM_eq_mapM_toList]
  rw [Sem.run_bind, Sem.run_map]
  erw [hr]
  rfl
 rw [key]
 cases vs with
 | nil => exact ⟨_, k, rfl⟩
 | cons v vs =>
  cases vs with
  | nil => exact ⟨_, k, rfl⟩
  | cons u vs => exact ⟨_, k, by simp⟩

theorem denF_call {f : FuncId} {fn : Func} {ann : Ann} {args : List Value} {H : Hp} {K : Value → Hp → Prop} (hfn : P.funcs[f]? = some fn) (hm : P.follows .mixedOrders = true)
  (h : denF P fn ann args H K) : hcall P f ⟨args⟩ H K := by
 intro w hw
 subst hw
 unfold denF at h
 split at h
 ·rename_i c hc
  cases hb : Nat.ble args.length fn.ntmps
  ·simp [hb] at h
  ·rw [hb, cond_true] at h
   have hle : args.length ≤ fn.ntmps := Nat.le_of_ble_eq_true hb
   refine calls_of_wp hfn hc ?_
   have hf : Fits fn.ntmps ((⟨args⟩ : Array Value) ++ Array.replicate (fn.ntmps - args.length) undef) (argE args) := by
    refine ⟨by simp; omega, fun i v hv => ?_⟩
    unfold argE at hv
    have hi : i < args.length := (List.getElem?_eq_some_iff.1 hv).1
    rw [Array.getElem?_append_left (by simpa using hi)]
    simpa using hv
   refine wp_mono (denC_wp hm c ann _ _ { tmps := (⟨args⟩ : Array Value) ++ Array.replicate (fn.ntmps - (⟨args⟩ : Array Value).size) undef, defers := [] } w hf h) ?_
   rintro ex a w' ⟨env, hf', hd, hr, hs, hq⟩
   cases ex <;> try exact hq.elim
   all_goals
    obtain ⟨v, k, hres⟩ := resD_run (P := P) (fn := fn) hf'.at_ hq
    exact ⟨hd, v, hres, v, rfl, hr, k⟩
 ·exact h.elim

end Go.Proofs.YtflfodcemnapeaaGreat

namespace Go.Proofs.YtflfodcemnapeaaGreat
set_option linter.unusedSimpArgs false
set_option linter.unusedVariables false
open Go
variable {P : Program} {H H' H1 H2 : Hp}
/-! ## Cells -/
theorem hcell_blk {b o : Nat} {c : Array Value} {e : TypeId} {f : Nat × Nat} {v : Value} (hb : H b = some (.cells c e f)) (h : c[o]? = some v) : hcell H ⟨b, o, none⟩ = some v := by
 simp [hcell, hb, h]
theorem ld_of {a : Addr} {v : Value} {K : Value → Prop} (h : hcell H a = some v) (k : K v) : ld a H K := by
 unfold ld; rw [h]; exact k
theorem ldI_of {kd : IntKind} {a : Addr} {n : Int} {K : Int → Prop} (h : hcell H a = some (.int kd n)) (k : K n) : ldI kd a H K := ld_of h (asI_mk k)
theorem ldB_of {a : Addr} {n : Bool} {K : Bool → Prop} (h : hcell H a = some (.bool n)) (k : K n) : ldB a H K := ld_of h k
theorem ldP_of {a : Addr} {n : Option Addr} {K : Option Addr → Prop} (h : hcell H a = some (.pointer n)) (k : K n) : ldP a H K := ld_of h k
theorem ldM_of {a : Addr} {n : Option Nat} {K : Option Nat → Prop} (h : hcell H a = some (.map n)) (k : K n) : ldM a H K := ld_of h k
theorem ldSl_of {a : Addr} {p : Option Addr} {l c : Nat} {K : Option Addr → Nat → Nat → Prop} (h : hcell H a = some (.slice p l c)) (k : K p l c) : ldSl a H K := ld_of h k

theorem upd_same {b : Nat} {o : Obj} : upd H b o b = some o := by simp [upd]
theorem upd_other {b c : Nat} {o : Obj} (h : c ≠ b) : upd H b o c = H c := by simp [upd, h]

theorem st_of {b o : Nat} {c : Array Value} {e : TypeId} {v : Value} {K : Hp → Prop} (hb : H b = some (.cells c e (0, 0))) (ho : o < c.size) (k : K (upd H b (.cells (c.setIfInBounds o v) e (0, 0)))) :
  st ⟨b, o, none⟩ v H K := by
 unfold st
 simp only [hb]
 exact ⟨trivial, ho, by simp [frz], k⟩

theorem add_eq {a : Addr} (h : a.spot = none) (n : Nat) : a.add n = ⟨a.block, a.off + n, none⟩ := by
 unfold Addr.add
 split
 ·rename_i e
  subst e
  obtain ⟨b, o, s⟩ := a
  simp at h
  simp [h]
 ·rfl
@[simp] theorem Zu (b o n : Nat) : (⟨b, o, none⟩ : Addr).add n = ⟨b, o + n, none⟩ := add_eq rfl n

/-! ## Frames -/
/-- Of what was there nothing has turned but for what F names; nothing has gone. -/
structure Keep (F : Nat → Prop) (H H' : Hp) : Prop where
 dom : ∀ b, H b ≠ none → H' b ≠ none
 same : ∀ b, H b ≠ none → ¬ F b → H' b = H b

theorem Keep.refl (F : Nat → Prop) (H : Hp) : Keep F H H := ⟨fun _ h => h, fun _ _ _ => rfl⟩
theorem Keep.trans {F G : Nat → Prop} (h : Keep F H H1) (k : Keep G H1 H2) (hs : ∀ b, G b → F b ∨ H b = none) : Keep F H H2 :=
 ⟨fun b hb => k.dom b (h.dom b hb), fun b hb hf => by
  rw [k.same b (h.dom b hb) (fun hg => (hs b hg).elim hf hb), h.same b hb hf]⟩
theorem Keep.mono {F G : Nat → Prop} (h : Keep F H H') (hs : ∀ b, F b → G b ∨ H b = none) : Keep G H H' :=
 ⟨h.dom, fun b hb hg => h.same b hb fun hf => (hs b hf).elim hg hb⟩
theorem Keep.upd {b : Nat} {o : Obj} : Keep (fun c => c = b) H (upd H b o) :=
 ⟨fun c hc => by by_cases e : c = b <;> simp [Go.Proofs.YtflfodcemnapeaaGreat.upd, e, hc], fun c _ hf => upd_other hf⟩
theorem Keep.new {b : Nat} {o : Obj} (hb : H b = none) (F : Nat → Prop) : Keep F H (Go.Proofs.YtflfodcemnapeaaGreat.upd H b o) :=
 Keep.upd.mono fun c e => .inr (by rw [e]; exact hb)

/-! ## Rows -/
/-- Cells that can be read: a slice's, n elements of k cells. -/
def Rd (H : Hp) (k : Nat) (p : Option Addr) (n : Nat) (xs : List Value) : Prop :=
 xs.length = n * k ∧ match p with
 | none => n = 0
 | some a => (n ≠ 0 → a.spot = none) ∧ ∀ i, i < n * k → hcell H ⟨a.block, a.off + i, none⟩ = xs[i]?

/-- A row of the call's own: it may be written, up to its capacity. -/
def Own (H : Hp) (k : Nat) (p : Option Addr) (n cap : Nat) (xs : List Value) : Prop :=
 xs.length = n * k ∧ n ≤ cap ∧ match p with
 | none => cap = 0
 | some a => a.spot = none ∧ ∃ c e, H a.block = some (.cells c e (0, 0)) ∧ a.off + cap * k ≤ c.size ∧ ∀ i, i < n * k → c[a.off + i]? = xs[i]?

/-- The block that a pointer leads into. -/
def blk (p : Option Addr) (b : Nat) : Prop := ∃ a, p = some a ∧ a.block = b
theorem blk_none {b : Nat} : ¬ blk none b := fun ⟨_, h, _⟩ => by cases h
theorem blk_some {a : Addr} {b : Nat} : blk (some a) b ↔ a.block = b := ⟨fun ⟨_, h, e⟩ => by cases h; exact e, fun h => ⟨a, rfl, h⟩⟩

theorem Own.rd {k : Nat} {p : Option Addr} {n cap : Nat} {xs : List Value} (h : Own H k p n cap xs) : Rd H k p n xs := by
 obtain ⟨h1, h2, h3⟩ := h
 refine ⟨h1, ?_⟩
 cases p with
 | none => simp only at h3 ⊢; omega
 | some a =>
  obtain ⟨hs, c, e, hb, _, hc⟩ := h3
  refine ⟨fun _ => hs, fun i hi => ?_⟩
  have hi' : i < xs.length := by omega
  rw [hcell_blk hb (v := xs[i]) (by rw [hc i hi]; simp [hi'])]
  simp [hi']
theorem Own.dom {k : Nat} {p : Option Addr} {n cap : Nat} {xs : List Value} (h : Own H k p n cap xs) {b : Nat} (hb : blk p b) : H b ≠ none := by
 obtain ⟨a, rfl, rfl⟩ := hb
 obtain ⟨_, _, _, c, e, hb, _⟩ := h
 rw [hb]; simp
theorem Own.frame {k : Nat} {p : Option Addr} {n cap : Nat} {xs : List Value} (h : Own H k p n cap xs) (hf : ∀ b, blk p b → H' b = H b) : Own H' k p n cap xs := by
 obtain ⟨h1, h2, h3⟩ := h
 refine ⟨h1, h2, ?_⟩
 cases p with
 | none => exact h3
 | some a =>
  obtain ⟨hs, c, e, hb, hr⟩ := h3
  exact ⟨hs, c, e, by rw [hf _ (blk_some.2 rfl)]; exact hb, hr⟩
theorem Own.keep {k : Nat} {p : Option Addr} {n cap : Nat} {xs : List Value} {F : Nat → Prop} (h : Own H k p n cap xs) (hk : Keep F H H') (hd : ∀ b, blk p b → ¬ F b) : Own H' k p n cap xs :=
 h.frame fun b hb => hk.same b (h.dom hb) (hd b hb)
theorem Rd.keep {k : Nat} {p : Option Addr} {n : Nat} {xs : List Value} {F : Nat → Prop} (h : Rd H k p n xs) (hk : Keep F H H') (hd : ∀ b, blk p b → ¬ F b) : Rd H' k p n xs := by
 obtain ⟨h1, h3⟩ := h
 refine ⟨h1, ?_⟩
 cases p with
 | none => exact h3
 | some a =>
  obtain ⟨hs, hr⟩ := h3
  refine ⟨hs, fun i hi => ?_⟩
  have h4 := hr i hi
  have h5 : H a.block ≠ none := by
   intro e
   have hi' : i < xs.length := by omega
   simp [hcell, e, hi'] at h4
  rw [← h4]
  simp only [hcell]
  rw [hk.same _ h5 (hd _ (blk_some.2 rfl))]

theorem Own.nil (k : Nat) : Own H k none 0 0 [] := ⟨by simp, Nat.le_refl _, rfl⟩

/-- Reading an element. -/
theorem idxA_of {k : Nat} {p : Option Addr} {n : Nat} {xs : List Value} {i : Int} {K : Addr → Prop} (h : Rd H k p n xs) (h0 : 0 ≤ i) (hi : i < (n : Int))
  (hk : ∀ b o, p = some ⟨b, o, none⟩ → (∀ j, j < k → hcell H ⟨b, o + i.toNat * k + j, none⟩ = xs[i.toNat * k + j]?) → K ⟨b, o + i.toNat * k, none⟩) : idxA p n i k K := by
 obtain ⟨h1, h3⟩ := h
 cases p with
 | none => simp only at h3; omega
 | some a =>
  obtain ⟨b, o, s⟩ := a
  obtain ⟨hs, hr⟩ := h3
  simp only at hs hr
  have hs := hs (by omega)
  subst hs
  refine ⟨⟨h0, hi⟩, ?_⟩
  rw [Zu]
  refine hk b o rfl fun j hj => ?_
  have hlt : i.toNat * k + j < n * k := by
   have h5 : i.toNat + 1 ≤ n := by omega
   have h6 := Nat.mul_le_mul_right k h5
   rw [Nat.add_mul, Nat.one_mul] at h6
   omega
  rw [← hr _ hlt, Nat.add_assoc]

/-- Writing one cell of a row of one's own. -/
theorem Own.st {p : Option Addr} {n cap : Nat} {xs : List Value} {k : Nat} {b o i : Nat} {v : Value} {K : Hp → Prop} (h : Own H k p n cap xs) (hp : p = some ⟨b, o, none⟩) (hi : i < n * k)
  (hK : ∀ H', Own H' k p n cap (xs.set i v) → Keep (blk p) H H' → K H') : st ⟨b, o + i, none⟩ v H K := by
 subst hp
 obtain ⟨h1, h2, _, c, e, hb, hsz, hc⟩ := h
 simp only at hb hsz hc
 have hle : n * k ≤ cap * k := Nat.mul_le_mul_right k h2
 refine st_of hb (by omega) (hK _ ⟨by simp [h1], h2, rfl, c.setIfInBounds (o + i) v, e, upd_same, by simp; omega, fun j hj => ?_⟩ ?_)
 ·simp only
  by_cases e' : j = i
  ·subst e'
   rw [Array.getElem?_setIfInBounds_self_of_lt (by omega), List.getElem?_set_self (by omega)]
  ·rw [Array.getElem?_setIfInBounds_ne (by omega), List.getElem?_set_ne (fun h => e' h.symm)]
   exact hc j hj
 ·exact Keep.upd.mono fun c hc => .inl (blk_some.2 hc.symm)

/-! ## Append, make -/
theorem run_loadCellsFrom {a : Addr} {ys : List Value} {w : World} : ∀ {i : Nat} {acc : Array Value}, (∀ j, j < ys.length → hcell (hp w) (a.add (i + j)) = ys[j]?) →
  (loadCellsFrom a i ys.length acc).run P w = .ok (acc ++ ys.toArray) w := by
 induction ys with
 | nil => intro i acc _; simp [loadCellsFrom]
 | cons y ys ih =>
  intro i acc h
  have h0 := h 0 (by simp)
  simp only [Nat.add_zero, List.getElem?_cons_zero] at h0
  simp only [List.length_cons, loadCellsFrom, Sem.run_bind, run_load_some h0, Result.andThen_ok]
  rw [ih (fun j hj => by
   have := h (j + 1) (by simp; omega)
   rw [List.getElem?_cons_succ] at this
   rw [← this]
   congr 2
   omega)]
  simp

theorem run_firstCells {k m : Nat} {q : Option Addr} {ys : List Value} {w : World} (h : Rd (hp w) k q m ys) (c : Nat) : (Builtin.firstCells k m (.slice q m c)).run P w = .ok ys.toArray w := by
 obtain ⟨h1, h2⟩ := h
 cases q with
 | none =>
  simp only at h2
  subst h2
  have : ys = [] := by simpa using h1
  subst this
  rfl
 | some a =>
  obtain ⟨hs, hr⟩ := h2
  simp only [Builtin.firstCells, loadCells]
  rw [← h1, run_loadCellsFrom (fun j hj => ?_)]
  ·simp
  ·rw [Nat.zero_add, add_eq (hs (by rintro rfl; rw [Nat.zero_mul] at h1; omega))]
   exact hr j (by omega)

theorem hset_run {a : Addr} (hs : a.spot = none) : ∀ {vs : List Value} {i : Nat} {w : World} {c : Array Value} {e : TypeId}, hp w a.block = some (.cells c e (0, 0)) → a.off + i + vs.length ≤ c.size →
  (∀ v ∈ vs, one v = true) → ∃ w' c', (storeCells a vs i).run P w = .ok () w' ∧ Rest w w' ∧ hp w' = upd (hp w) a.block (.cells c' e (0, 0)) ∧ c'.size = c.size ∧
   (∀ j, j < vs.length → c'[a.off + i + j]? = vs[j]?) ∧ (∀ j, (j < a.off + i ∨ a.off + i + vs.length ≤ j) → c'[j]? = c[j]?) := by
 intro vs
 induction vs with
 | nil =>
  intro i w c e hb _ _
  refine ⟨w, c, rfl, .refl w, ?_, rfl, fun j hj => by simp at hj, fun _ _ => rfl⟩
  funext b
  by_cases hbb : b = a.block
  ·subst hbb; rw [upd_same, hb]
  ·rw [upd_other hbb]
 | cons v vs ih =>
  intro i w c e hb hsz hone
  rw [List.length_cons] at hsz
  have h1 := hone v (by simp)
  obtain ⟨w1, r1, s1, e1⟩ := st_run (P := P) (w := w) (a := a.add i) (v := v) (K := fun H => H = upd (hp w) a.block (.cells (c.setIfInBounds (a.off + i) v) e (0, 0))) h1 (by
   rw [add_eq hs]
   exact st_of (H := hp w) hb (by omega) rfl)
  have hb1 : hp w1 a.block = some (.cells (c.setIfInBounds (a.off + i) v) e (0, 0)) := by rw [e1, upd_same]
  obtain ⟨w2, c2, r2, s2, e2, z2, h2, h3⟩ := ih (i := i + 1) hb1 (by simp; omega) (fun u hu => hone u (by simp [hu]))
  refine ⟨w2, c2, ?_, s1.trans s2, ?_, by rw [z2]; simp, fun j hj => ?_, fun j hj => ?_⟩
  ·simp only [storeCells, Sem.run_bind, r1, Result.andThen_ok, r2]
  ·rw [e2, e1]
   funext b
   by_cases hbb : b = a.block
   ·subst hbb; rw [upd_same, upd_same]
   ·rw [upd_other hbb, upd_other hbb, upd_other hbb]
  ·cases j with
   | zero =>
    rw [h3 (a.off + i + 0) (.inl (by omega)), Nat.add_zero, Array.getElem?_setIfInBounds_self_of_lt (by omega)]
    rfl
   | succ j =>
    have := h2 j (by simpa using hj)
    rw [List.getElem?_cons_succ, ← this]
    congr 1
    omega
  ·rw [List.length_cons] at hj
   rw [h3 j (by omega), Array.getElem?_setIfInBounds_ne (by omega)]

theorem growBy_le (need : Nat) : ∀ (r c : Nat), c ≤ need → Builtin.growBy need r c ≤ need + (need + 768) / 4 := by
 intro r
 induction r with
 | zero => intro c h; simp [Builtin.growBy]; omega
 | succ r ih =>
  intro c h
  unfold Builtin.growBy
  split
  ·omega
  ·by_cases h2 : c + (c + 768) / 4 ≤ need
   ·exact ih _ h2
   ·cases r with
    | zero => simp [Builtin.growBy]; omega
    | succ r =>
     unfold Builtin.growBy
     rw [if_pos (by omega)]
     omega

theorem nextslicecap_le {need cap : Nat} (h : cap < need) : Builtin.nextslicecap need cap ≤ 2 * need + 512 := by
 unfold Builtin.nextslicecap
 split
 ·omega
 ·split
  ·omega
  ·have := growBy_le need 4 cap (by omega)
   omega

/-- append to a row of one's own, of what can be read. -/
theorem append_own {sl xt ty e : TypeId} {inf : TypeInfo} {z : Value} {p q : Option Addr} {n cap m qc : Nat} {xs ys : List Value} {K : Value → Hp → Prop}
    (hsl : P.underlying sl = some (.slice e)) (hxt : ∃ e', P.underlying xt = some (.slice e')) (hi : P.info? e = some inf) (hz : inf.zero = some z) (hzs : z.cells.size = inf.size)
    (h : Own H inf.size p n cap xs) (hq : Rd H inf.size q m ys) (hone : ∀ y ∈ ys, one y = true) (hroom : (2 * (n + m) + 512) * inf.bytes ≤ 2 ^ 48) (hbytes : inf.bytes ≠ 0)
    (hK : ∀ p' cap' H', Own H' inf.size p' (n + m) cap' (xs ++ ys) → Keep (blk p) H H' → (∀ b, blk p' b → blk p b ∨ H b = none) → K (.slice p' (n + m) cap') H') :
    evW P (Builtin.append_ #[sl, xt] ty #[.slice p n cap, .slice q m qc]) H K := by
  intro w hw
  subst hw
  obtain ⟨e', hxt⟩ := hxt
  obtain ⟨h1, h2, h3⟩ := h
  have hnew := run_firstCells (P := P) hq qc
  have hyl : ys.length = m * inf.size := hq.1
  by_cases hc : n + m ≤ cap
  · -- there is room
    have hrun : (Builtin.append_ #[sl, xt] ty #[.slice p n cap, .slice q m qc]).run P w =
        ((do if let some a := p then storeCells (a.add (n * inf.size)) ys
             pure (.slice p (n + m) cap)) : Sem Value).run P w := by
      simp [Builtin.append_, run_underlying hsl, run_underlying hxt, run_sizeOf hi, Builtin.lenOf, hc, hnew]
      cases p <;> rfl
    rw [hrun]
    cases p with
    | none =>
      simp only at h3
      have hn : n = 0 := by omega
      have hm : m = 0 := by omega
      subst hn hm h3
      have : ys = [] := by simpa using hyl
      subst this
      have : xs = [] := by simpa using h1
      subst this
      exact ⟨_, w, rfl, .refl w, hK none 0 (hp w) ⟨by simp, Nat.le_refl _, rfl⟩ (Keep.refl _ _) (fun b hb => absurd hb blk_none)⟩
    | some a =>
      obtain ⟨b, o, s⟩ := a
      obtain ⟨hs, c, e1, hb, hsz, hcell⟩ := h3
      simp only at hs hb hsz hcell
      subst hs
      have hle : (n + m) * inf.size ≤ cap * inf.size := Nat.mul_le_mul_right _ hc
      rw [Nat.add_mul] at hle
      obtain ⟨w', c', hr, hs', he, hz', hin, hout⟩ := hset_run (P := P) (a := ⟨b, o + n * inf.size, none⟩) rfl (vs := ys) (i := 0) (w := w) hb (by simp only; omega) hone
      refine ⟨.slice (some ⟨b, o, none⟩) (n + m) cap, w', ?_, hs', hK _ _ _ ⟨by rw [List.length_append, h1, hyl, Nat.add_mul], hc, rfl, c', e1, by rw [he, upd_same], by simp only; omega, fun i hi => ?_⟩ ?_ (fun b hb => .inl hb)⟩
      · simp only [Zu, Sem.run_bind, hr, Result.andThen_ok, Sem.run_pure]
      · simp only
        rw [Nat.add_mul] at hi
        by_cases hlt : i < n * inf.size
        · rw [hout (o + i) (.inl (by simp only; omega)), hcell i hlt, List.getElem?_append_left (by omega)]
        · rw [List.getElem?_append_right (by omega), h1]
          have := hin (i - n * inf.size) (by omega)
          simp only at this
          rw [← this]
          congr 1
          omega
      · rw [he]
        exact Keep.upd.mono fun x hx => .inl (blk_some.2 hx.symm)
  · -- it grows
    have hcap : cap < n + m := by omega
    have hnc := nextslicecap_le hcap
    have hb48 : Builtin.nextslicecap (n + m) cap * inf.bytes ≤ 2 ^ 48 := Nat.le_trans (Nat.mul_le_mul_right _ hnc) hroom
    have hold : ∀ w', hp w' = hp w → (Builtin.firstCells inf.size n (.slice p n cap)).run P w' = .ok xs.toArray w' := fun w' e => run_firstCells (P := P) (Own.rd ⟨h1, h2, by rw [e]; exact h3⟩) cap
    have hnew' : ∀ w', hp w' = hp w → (Builtin.firstCells inf.size m (.slice q m qc)).run P w' = .ok ys.toArray w' := fun w' e => run_firstCells (P := P) (by rw [e]; exact hq) qc
    let w1 : World := { w with drawn := w.drawn + 1 }
    let nc := (Question.appendCap (n + m) cap e).cut (w.tape w.drawn (.appendCap (n + m) cap e))
    have hnc' : n + m ≤ nc := by simp [nc, Question.cut]
    let cs := xs.toArray ++ ys.toArray ++ Builtin.zeroCells z.cells (nc - (n + m))
    have hrun : (Builtin.append_ #[sl, xt] ty #[.slice p n cap, .slice q m qc]).run P w = .ok (.slice (some ⟨w.heap.size, 0, none⟩) (n + m) nc) { w1 with heap := w1.heap.push (.cells cs e) } := by
      have hint : ¬ (inf.bytes = 0) := hbytes
      have hb48' : ¬ (2 ^ 48 < Builtin.nextslicecap (n + m) cap * inf.bytes) := by omega
      simp only [Builtin.append_, List.getElem?_toArray, List.getElem?_cons_zero, List.getElem?_cons_succ, Sem.run_bind, Sem.run_pure, run_underlying hsl, run_underlying hxt, run_sizeOf hi, Result.andThen_ok, Builtin.lenOf, Bool.false_eq_true, if_false, hc,
        run_typeInfo hi, hint, or_self, and_false, gt_iff_lt, hb48', run_choose, Question.forced, run_askRoom]
      rw [hold w1 rfl]
      simp only [Result.andThen_ok, Bool.not_false, if_true]
      rw [hnew' w1 rfl]
      simp only [Result.andThen_ok, zeroValue, Sem.run_bind, run_typeInfo hi, hz, Sem.run_pure, newRow, run_newObj]
      rfl
    rw [hrun]
    refine ⟨_, _, rfl, ⟨rfl, rfl, rfl, by simp [w1], Nat.le_succ _⟩, ?_⟩
    have hhp : hp { w1 with heap := w1.heap.push (.cells cs e) } = upd (hp w) w.heap.size (.cells cs e) := hp_push w1 _
    have hfresh : hp w w.heap.size = none := by simp [hp]
    rw [hhp]
    have hzl : (Builtin.zeroCells z.cells (nc - (n + m))).size = (nc - (n + m)) * inf.size := by simp [Builtin.zeroCells, hzs]
    have hcs : cs.size = nc * inf.size := by
      simp only [cs, Array.size_append, List.size_toArray, hzl, h1, hyl]
      rw [← Nat.add_mul, ← Nat.add_mul]
      congr 1
      omega
    refine hK _ _ _ ⟨by rw [List.length_append, h1, hyl, Nat.add_mul], hnc', rfl, cs, e, upd_same, by simp only [hcs]; omega, fun i hi => ?_⟩ (Keep.new hfresh _) (fun b hb => .inr ?_)
    · simp only [Nat.zero_add]
      have hl : i < (xs ++ ys).length := by rw [List.length_append, h1, hyl, ← Nat.add_mul]; exact hi
      have : cs = (xs ++ ys).toArray ++ Builtin.zeroCells z.cells (nc - (n + m)) := by
        show xs.toArray ++ ys.toArray ++ _ = _
        congr 1
        simp
      rw [this, Array.getElem?_append_left (by simpa using hl)]
      simp
    · rw [← blk_some.1 hb]
      exact hfresh

theorem wrap_i64 {n : Int} (h0 : -9223372036854775808 ≤ n) (h1 : n < 9223372036854775808) : IntKind.i64.wrap n = n := by
 have e1 : (2 : Int) ^ IntKind.i64.bits = 18446744073709551616 := by decide
 have e2 : (2 : Int) ^ (IntKind.i64.bits - 1) = 9223372036854775808 := by decide
 unfold IntKind.wrap
 simp only [e1, e2, show IntKind.i64.signed = true from rfl, Bool.true_and, decide_eq_true_eq, ge_iff_le]
 split <;> omega
theorem wrap_u64 {n : Int} : IntKind.u64.wrap n = n % 18446744073709551616 := by
 have e1 : (2 : Int) ^ IntKind.u64.bits = 18446744073709551616 := by decide
 unfold IntKind.wrap
 simp [e1, show IntKind.u64.signed = false from rfl]
theorem wrap_u16 {n : Int} : IntKind.u16.wrap n = n % 65536 := by
 have e1 : (2 : Int) ^ IntKind.u16.bits = 65536 := by decide
 unfold IntKind.wrap
 simp [e1, show IntKind.u16.signed = false from rfl]

theorem info_at {t : TypeId} {z : Value} {k b : Nat} (h : (P.info? t).map (fun i => (i.zero, i.size, i.bytes)) = some (some z, k, b)) : ∃ inf, P.info? t = some inf ∧ inf.zero = some z ∧ inf.size = k ∧ inf.bytes = b := by
 cases hi : P.info? t with
 | none => rw [hi] at h; cases h
 | some inf =>
  rw [hi] at h
  simp only [Option.map_some, Option.some.injEq, Prod.mk.injEq] at h
  exact ⟨inf, rfl, h.1, h.2.1, h.2.2⟩

theorem append_at {sl xt ty e k bytes : Nat} {z : Value} {p q : Option Addr} {n cap m qc : Nat} {xs ys : List Value} {K : Value → Hp → Prop}
  (hsl : P.underlying sl = some (.slice e)) (hxt : P.underlying xt = some (.slice e)) (hi : (P.info? e).map (fun i => (i.zero, i.size, i.bytes)) = some (some z, k, bytes)) (hzs : z.cells.size = k)
  (hbytes : bytes ≠ 0) (h : Own H k p n cap xs) (hq : Rd H k q m ys) (hone : ∀ y ∈ ys, one y = true) (hroom : (2 * (n + m) + 512) * bytes ≤ 2 ^ 48)
  (hK : ∀ p' cap' H', Own H' k p' (n + m) cap' (xs ++ ys) → Keep (blk p) H H' → (∀ b, blk p' b → blk p b ∨ H b = none) → K (.slice p' (n + m) cap') H') :
  evW P (Builtin.append_ #[sl, xt] ty #[.slice p n cap, .slice q m qc]) H K := by
 obtain ⟨inf, h1, h2, rfl, rfl⟩ := info_at hi
 exact append_own hsl ⟨e, hxt⟩ h1 h2 hzs h hq hone hroom hbytes hK

theorem Own.new {b k n : Nat} {c : Array Value} {e : TypeId} (hs : c.size = n * k) : Own (upd H b (.cells c e (0, 0))) k (some ⟨b, 0, none⟩) n n c.toList :=
 ⟨by simpa using hs, Nat.le_refl _, rfl, c, e, upd_same, by simp only [hs]; omega, fun i _ => by simp⟩

/-- make, of as many as are wanted. -/
theorem make_at {sl e k bytes : Nat} {z : Value} {n : Int} {K : Value → Hp → Prop}
  (hsl : P.underlying sl = some (.slice e)) (hi : (P.info? e).map (fun i => (i.zero, i.size, i.bytes)) = some (some z, k, bytes)) (h0 : 0 ≤ n) (h1 : n * bytes ≤ 2 ^ 47) (h2 : n < 2 ^ 62)
  (hzs : z.cells.size = k) (hk : k ≠ 0)
  (hK : ∀ b cs, H b = none → cs.size = n.toNat * k → (∀ i, i < n.toNat * k → cs[i]? = z.cells[i % k]?) → K (.slice (some ⟨b, 0, none⟩) n.toNat n.toNat) (upd H b (.cells cs e (0, 0)))) :
  evW P (Instr.makeSlice sl (.int .i64 n) (.int .i64 n)) H K := by
 obtain ⟨inf, g1, g2, rfl, rfl⟩ := info_at hi
 intro w hw
 subst hw
 have hw64 : IntKind.i64.wrap n = n := wrap_i64 (by omega) (by
  have h3 : (2 : Int) ^ 62 = 4611686018427387904 := by decide
  omega)
 let cs : Array Value := (Array.range (n.toNat * inf.size)).map fun i => (if n.toNat * inf.size = 0 then (#[] : Array Value) else z.cells)[i % (if n.toNat * inf.size = 0 then (#[] : Array Value) else z.cells).size]!
 have hrun : (Instr.makeSlice sl (.int .i64 n) (.int .i64 n)).run P w = .ok (.slice (some ⟨w.heap.size, 0, none⟩) n.toNat n.toNat) { w with heap := w.heap.push (.cells cs e) } := by
  have c1 : ¬ (n < 0) := by omega
  have c2 : ¬ (2 ^ 48 < (inf.bytes : Int) * n) := by
   have : (inf.bytes : Int) * n = n * inf.bytes := Int.mul_comm _ _
   rw [this]
   have h47 : (2 : Int) ^ 47 < 2 ^ 48 := by decide
   omega
  simp only [Instr.makeSlice, Sem.run_bind, run_underlying hsl, Result.andThen_ok, asInt, asIntOf, Sem.run_pure, run_typeInfo g1, hw64, c1, gt_iff_lt, c2, decide_false, Bool.or_false, Bool.false_or,
   Int.lt_irrefl, Bool.false_eq_true, if_false, run_askRoom, run_sizeOf g1]
  by_cases hz : n.toNat * inf.size = 0
  ·simp [cs, hz, newRow]
  ·simp only [if_neg hz, zeroValue, Sem.run_bind, run_typeInfo g1, Result.andThen_ok, g2, Sem.run_pure, newRow, run_newObj, cs]
 refine ⟨_, _, hrun, rest_push _ _, ?_⟩
 rw [hp_push]
 refine hK w.heap.size cs (by simp [hp]) (by simp [cs]) fun i hi' => ?_
 have hz : n.toNat * inf.size ≠ 0 := by omega
 have hlt : i % inf.size < z.cells.size := by rw [hzs]; exact Nat.mod_lt _ (by omega)
 have hlt' : i % z.cells.size < z.cells.size := by rw [hzs]; rwa [hzs] at hlt
 simp only [cs, if_neg hz, Array.getElem?_map]
 rw [Array.getElem?_range]
 rw [if_pos hi', Option.map_some, ← hzs]
 rw [getElem!_pos z.cells _ hlt', Array.getElem?_eq_getElem hlt']

/-! ## Small steps that are known -/
theorem Za {k : IntKind} {m : Int} {K : Int → Prop} : asI k (.int k m) K = K m := by
 show cond (kindEq k k) _ _ = _
 rw [kindEq_refl, cond_true]
theorem Zb {b : Bool} {K : Bool → Prop} : asB (.bool b) K = K b := propext Iff.rfl
theorem Zg {b : ByteArray} {K : ByteArray → Prop} : asStr (.string b) K = K b := propext Iff.rfl
theorem Zc {b : Option Addr} {K : Option Addr → Prop} : asP (.pointer b) K = K b := propext Iff.rfl
theorem Zd {b : Addr} {K : Addr → Prop} : asA (.pointer (some b)) K = K b := propext Iff.rfl
theorem Ze {b : Option Nat} {K : Option Nat → Prop} : asM (.map b) K = K b := propext Iff.rfl
theorem Zf {p : Option Addr} {l c : Nat} {K : Option Addr → Nat → Nat → Prop} : asSl (.slice p l c) K = K p l c := propext Iff.rfl
theorem Zh {a b : Value} {K : Value → Value → Prop} : tup2 (.tuple #[a, b]) K = K a b := propext Iff.rfl
theorem Zi {a b c : Value} {K : Value → Value → Value → Prop} : tup3 (.tuple #[a, b, c]) K = K a b c := propext Iff.rfl
theorem Zj {a : Value} {K : Value → Prop} : agg1 (.agg #[a]) K = K a := propext Iff.rfl
theorem Zk {a b : Value} {K : Value → Value → Prop} : agg2 (.agg #[a, b]) K = K a b := propext Iff.rfl
theorem Zl {a b c : Value} {K : Value → Value → Value → Prop} : agg3 (.agg #[a, b, c]) K = K a b c := propext Iff.rfl
theorem Zm {a b c d : Value} {K : Value → Value → Value → Value → Prop} : agg4 (.agg #[a, b, c, d]) K = K a b c d := propext Iff.rfl
theorem Zt {a : Addr} {K : Addr → Prop} : nilP (some a) K = K a := propext Iff.rfl

theorem Zv {A B : Prop} : cond true A B = A := propext Iff.rfl
theorem Zw {A B : Prop} : cond false A B = B := propext Iff.rfl
theorem bif_pos {c : Prop} [Decidable c] {A B : Prop} (h : c) (a : A) : cond (decide c) A B := by rw [decide_eq_true h]; exact a
theorem bif_neg {c : Prop} [Decidable c] {A B : Prop} (h : ¬ c) (b : B) : cond (decide c) A B := by rw [decide_eq_false h]; exact b
theorem bif_eq {x y : Int} {A B : Prop} (h : x = y) (a : A) : cond (x == y) A B := by rw [beq_iff_eq.2 h]; exact a
theorem bif_ne {x y : Int} {A B : Prop} (h : x ≠ y) (b : B) : cond (x == y) A B := by rw [beq_eq_false_iff_ne.2 h]; exact b
theorem bif_neq {x y : Int} {A B : Prop} (h : x ≠ y) (a : A) : cond (x != y) A B := by rw [bne_iff_ne.2 h]; exact a
theorem bif_neqf {x y : Int} {A B : Prop} (h : x = y) (b : B) : cond (x != y) A B := by rw [show (x != y) = false by simp [h]]; exact b

/-- A value that is one cell, in a block of its own. -/
theorem rd_new {b : Nat} {c : Array Value} {e : TypeId} {k n : Nat} (hs : c.size = n * k) : Rd (upd H b (.cells c e (0, 0))) k (some ⟨b, 0, none⟩) n c.toList := (Own.new hs).rd

theorem one_int {k : IntKind} (l : List Int) : ∀ y ∈ l.map (Value.int k), one y = true := by
 intro y hy
 obtain ⟨x, _, rfl⟩ := List.mem_map.1 hy
 rfl

/-! ## Pieces of rows -/
theorem slcP_zero {p : Option Addr} {cap k : Nat} : slcP p cap 0 k = p := by
 unfold slcP
 split
 ·rfl
 ·cases p with
  | none => rfl
  | some a => simp [Addr.add]

theorem slc_to {p : Option Addr} {len cap k : Nat} {h : Int} {K : Option Addr → Nat → Nat → Prop} (h0 : 0 ≤ h) (h1 : h ≤ cap) (hK : K p h.toNat cap) : slcD p len cap none (some h) k K :=
 ⟨⟨h0, h1⟩, by rw [slcP_zero]; exact hK⟩
theorem slc_from {p : Option Addr} {len cap k : Nat} {l : Int} {K : Option Addr → Nat → Nat → Prop} (h0 : 0 ≤ l) (h1 : l ≤ len) (hK : K (slcP p cap l.toNat k) (len - l.toNat) (cap - l.toNat)) : slcD p len cap (some l) none k K :=
 ⟨⟨h0, h1⟩, hK⟩

theorem Own.take {k : Nat} {p : Option Addr} {n m cap : Nat} {xs : List Value} (h : Own H k p n cap xs) (hm : m ≤ n) : Own H k p m cap (xs.take (m * k)) := by
 obtain ⟨h1, h2, h3⟩ := h
 have hle : m * k ≤ n * k := Nat.mul_le_mul_right _ hm
 refine ⟨by rw [List.length_take, h1]; omega, by omega, ?_⟩
 cases p with
 | none => exact h3
 | some a =>
  obtain ⟨hs, c, e, hb, hz, hc⟩ := h3
  exact ⟨hs, c, e, hb, hz, fun i hi => by rw [hc i (by omega), List.getElem?_take_of_lt hi]⟩

theorem Rd.take {k : Nat} {p : Option Addr} {n m : Nat} {xs : List Value} (h : Rd H k p n xs) (hm : m ≤ n) : Rd H k p m (xs.take (m * k)) := by
 obtain ⟨h1, h3⟩ := h
 have hle : m * k ≤ n * k := Nat.mul_le_mul_right _ hm
 refine ⟨by rw [List.length_take, h1]; omega, ?_⟩
 cases p with
 | none => simp only at h3 ⊢; omega
 | some a =>
  obtain ⟨hs, hc⟩ := h3
  exact ⟨fun h => hs (by omega), fun i hi => by rw [hc i (by omega), List.getElem?_take_of_lt hi]⟩

theorem slcP_eq {p : Option Addr} {cap k : Nat} : slcP p cap cap k = p := if_pos rfl
theorem slcP_none {cap l k : Nat} : slcP none cap l k = none := by unfold slcP; split <;> rfl
theorem slcP_some {b o cap l k : Nat} (h : cap ≠ l) : slcP (some ⟨b, o, none⟩) cap l k = some ⟨b, o + l * k, none⟩ := by
 unfold slcP
 rw [if_neg h, Option.map_some, Zu]

theorem Rd.drop {k : Nat} {p : Option Addr} {n l cap : Nat} {xs : List Value} (h : Rd H k p n xs) (hl : l ≤ n) (hcap : n ≤ cap) : Rd H k (slcP p cap l k) (n - l) (xs.drop (l * k)) := by
 obtain ⟨h1, h3⟩ := h
 have hle : l * k ≤ n * k := Nat.mul_le_mul_right _ hl
 have hsub : n * k - l * k = (n - l) * k := (Nat.sub_mul n l k).symm
 refine ⟨by rw [List.length_drop, h1, hsub], ?_⟩
 cases p with
 | none => rw [slcP_none]; simp only at h3 ⊢; omega
 | some a =>
  obtain ⟨b, o, s⟩ := a
  obtain ⟨hs, hc⟩ := h3
  simp only at hs hc
  by_cases h0 : n = 0
  ·have e0 : n - l = 0 := by omega
   simp only [e0, Nat.zero_mul]
   split
   ·trivial
   ·exact ⟨fun h => absurd rfl h, fun i hi => absurd hi (Nat.not_lt_zero i)⟩
  have hs := hs h0
  subst hs
  by_cases e1 : cap = l
  ·subst e1
   rw [slcP_eq]
   refine ⟨fun _ => rfl, fun i hi => ?_⟩
   have : n - cap = 0 := by omega
   rw [this, Nat.zero_mul] at hi
   omega
  ·rw [slcP_some e1]
   refine ⟨fun _ => rfl, fun i hi => ?_⟩
   simp only
   rw [List.getElem?_drop, ← hc (l * k + i) (by rw [← hsub] at hi; omega), Nat.add_assoc]

end Go.Proofs.YtflfodcemnapeaaGreat
