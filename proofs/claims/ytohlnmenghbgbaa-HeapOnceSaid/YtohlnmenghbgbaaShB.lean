/- The steps of the shallow reading, operation by operation, and that they are the model's. No condition. -/
import Derived.Test.YtohlnmenghbgbaaShA
namespace Go.Proofs.Ytohlnmenghbgbaa
set_option linter.unusedSimpArgs false
set_option linter.unusedVariables false
open Go

abbrev Env := Nat → Option Value
def Env.set (env : Env) (d : Nat) (v : Value) : Env := fun i => cond (Nat.beq i d) (some v) (env i)
def Env.put (env : Env) (d : Option Tmp) (v : Value) : Env := match d with | none => env | some d => env.set d v

def ev (env : Env) : Operand → Option Value
  | .tmp t => env t
  | .const v => some v
  | .global g => some (.pointer (some ⟨g, 0, none⟩))
  | .func f => some (.func (.func f) #[] #[])

def ev1 (env : Env) (x : Operand) (K : Value → Prop) : Prop := match ev env x with | some v => K v | none => False
def evL (env : Env) : List Operand → (List Value → Prop) → Prop
  | [], K => K []
  | x :: xs, K => ev1 env x fun v => evL env xs fun vs => K (v :: vs)

/-- The environment speaks of these operands as the run does. -/
def Agree (env : Env) (ρ : Operand → Value) (xs : List Operand) : Prop := ∀ x v, x ∈ xs → ev env x = some v → ρ x = v

theorem ev1_spec {env : Env} {ρ : Operand → Value} {xs : List Operand} {x : Operand} {K : Value → Prop} (ha : Agree env ρ xs) (hx : x ∈ xs) (h : ev1 env x K) : K (ρ x) := by
  unfold ev1 at h
  split at h
  · rename_i v hv; rw [ha x v hx hv]; exact h
  · exact h.elim

theorem evL_spec {env : Env} {ρ : Operand → Value} {xs ys : List Operand} {K : List Value → Prop} (ha : Agree env ρ xs) (hx : ∀ y ∈ ys, y ∈ xs) (h : evL env ys K) : K (ys.map ρ) := by
  induction ys generalizing K with
  | nil => exact h
  | cons y ys ih =>
    have h1 := ev1_spec ha (hx y (by simp)) h
    exact ih (fun z hz => hx z (by simp [hz])) h1

/-! ## Numbers -/

def bitOp (op : BinOp) (k : IntKind) (x y : Int) : Int :=
  match op with
  | .and => k.wrap (BitVec.ofInt k.bits x &&& BitVec.ofInt k.bits y).toNat
  | .or => k.wrap (BitVec.ofInt k.bits x ||| BitVec.ofInt k.bits y).toNat
  | .xor => k.wrap (BitVec.ofInt k.bits x ^^^ BitVec.ofInt k.bits y).toNat
  | _ => k.wrap (BitVec.ofInt k.bits x &&& ~~~ BitVec.ofInt k.bits y).toNat

def shlI (k : IntKind) (x y : Int) : Int := k.wrap (x * 2 ^ (min y.toNat k.bits))
def shrI (k : IntKind) (x y : Int) : Int := x.fdiv (2 ^ (min y.toNat k.bits))

def binI (op : BinOp) (k : IntKind) (x y : Int) (K : Value → Prop) : Prop :=
  match op with
  | .add => K (.int k (k.wrap (x + y)))
  | .sub => K (.int k (k.wrap (x - y)))
  | .mul => K (.int k (k.wrap (x * y)))
  | .quo => y ≠ 0 ∧ K (.int k (k.wrap (x.tdiv y)))
  | .rem => y ≠ 0 ∧ K (.int k (x.tmod y))
  | .and => K (.int k (bitOp .and k x y))
  | .or => K (.int k (bitOp .or k x y))
  | .xor => K (.int k (bitOp .xor k x y))
  | .andNot => K (.int k (bitOp .andNot k x y))
  | .eql => K (.bool (x == y))
  | .neq => K (.bool (x != y))
  | .lss => K (.bool (decide (x < y)))
  | .leq => K (.bool (decide (x ≤ y)))
  | .gtr => K (.bool (decide (x > y)))
  | .geq => K (.bool (decide (x ≥ y)))
  | _ => False

def shI (op : BinOp) (k : IntKind) (x y : Int) (K : Value → Prop) : Prop :=
  match op with
  | .shl => 0 ≤ y ∧ K (.int k (shlI k x y))
  | .shr => 0 ≤ y ∧ K (.int k (shrI k x y))
  | _ => False

def boolT (P : Program) (t : TypeId) : Bool := match P.underlying t with | some .bool => true | _ => false
def strT (P : Program) (t : TypeId) : Bool := match P.underlying t with | some .string => true | _ => false
def ptrT (P : Program) (t : TypeId) : Bool := match P.underlying t with | some (.pointer _) => true | _ => false
def slT (P : Program) (t : TypeId) : Bool := match P.underlying t with | some (.slice _) => true | _ => false
def mapT (P : Program) (t : TypeId) : Bool := match P.underlying t with | some (.map _ _) => true | _ => false

def eqV (op : BinOp) (b : Bool) (K : Value → Prop) : Prop := match op with | .eql => K (.bool b) | .neq => K (.bool (!b)) | _ => False

def aggEq (op : BinOp) (t : TypeId) (x y : Array Value) : Sem Value := do eqGuard op t (.const (.bool true)) (.const (.bool true)) (.agg x) (.agg y); binOp op t (.agg x) (.agg y)

/-- A binary operation. -/
def binD (P : Program) (op : BinOp) (t : TypeId) (x y : Value) (H : Hp) (K : Value → Prop) : Prop :=
  match x, y with
  | .int k a, .int j b =>
    match op with
    | .shl => shI .shl k a b K
    | .shr => shI .shr k a b K
    | op => cond (kindEq j k) (binI op k a b K) False
  | .bool a, .bool b => cond (boolT P t) (eqV op (a == b) K) False
  | .string a, .string b => cond (strT P t) (eqV op (a.toList == b.toList) K) False
  | .pointer p, .pointer none => cond (ptrT P t) (eqV op p.isNone K) False
  | .slice p _ _, .slice none _ _ => cond (slT P t) (eqV op p.isNone K) False
  | .map p, .map none => cond (mapT P t) (eqV op p.isNone K) False
  | .agg x, .agg y => cond (aggT P t) (evR P (aggEq op t x y) H fun v => asB v fun b => K (.bool b)) False
  | _, _ => False

def unD (op : UnOp) (x : Value) (K : Value → Prop) : Prop :=
  match op, x with
  | .not, .bool b => K (.bool (!b))
  | .neg, .int k n => K (.int k (k.wrap (0 - n)))
  | _, _ => False

def intT (P : Program) (t : TypeId) : Option IntKind := match P.underlying t with | some (.int k) => some k | _ => none

def convD (P : Program) (src dst : TypeId) (x : Value) (H : Hp) (K : Value → Prop) : Prop :=
  match intT P src, intT P dst with
  | some _, some k => (match x with | .int _ n => K (.int k (k.wrap n)) | _ => False)
  | _, _ => evR P (convert src dst x) H fun v => asT P dst v K

def nilP (p : Option Addr) (K : Addr → Prop) : Prop := match p with | some a => K a | none => False
def nilD (x : Value) (K : Value → Prop) : Prop := match x with | .pointer p => nilP p fun a => K (.pointer (some a)) | _ => False

def structT (P : Program) (t : TypeId) : Option (Array Field) := match P.underlying t with | some (.struct fs) => some fs | _ => none

def fieldAddrD (P : Program) (t : TypeId) (x : Value) (f : Nat) (K : Value → Prop) : Prop :=
  match structT P t with
  | some fs => match fs[f]? with
    | some fl => cond (Nat.beq (cellsT P fl.type) 0) False (match P.info? fl.type with | some _ => asA x fun a => K (.pointer (some (a.add fl.offset))) | none => False)
    | none => False
  | none => False

def partD (P : Program) (t : TypeId) (cs : Array Value) (off : Nat) (K : Value → Prop) : Prop :=
  match P.underlying t with
  | none => False
  | some _ => match aggT P t with
    | true => (match P.info? t with | some i => K (.agg (cs.extract off (off + i.size))) | none => False)
    | false => match cs[off]? with | some v => K v | none => False

def fieldD (P : Program) (t : TypeId) (x : Value) (f : Nat) (K : Value → Prop) : Prop :=
  match structT P t with
  | some fs => match fs[f]? with
    | some fl => asAgg' x fun cs => partD P fl.type cs fl.offset K
    | none => False
  | none => False

def idxA (p : Option Addr) (len : Nat) (i : Int) (size : Nat) (K : Addr → Prop) : Prop :=
  match p with
  | some a => (0 ≤ i ∧ i < (len : Int)) ∧ K (a.add (i.toNat * size))
  | none => False

def indexAddrD (P : Program) (t : TypeId) (x i : Value) (K : Value → Prop) : Prop :=
  match i with
  | .int _ n => match P.underlying t, x with
    | some (.slice e), .slice p len _ => (match P.info? e with | some inf => idxA p len n inf.size fun a => K (.pointer (some a)) | none => False)
    | some (.array len e), .pointer p => (match P.info? e with | some inf => idxA p len n inf.size fun a => K (.pointer (some a)) | none => False)
    | _, _ => False
  | _ => False

def idxStr (s : ByteArray) (i : Int) (K : Int → Prop) : Prop := 0 ≤ i ∧ match s[i.toNat]? with | some b => K (b.toNat : Int) | none => False

def indexD (P : Program) (t ty : TypeId) (x i : Value) (H : Hp) (K : Value → Prop) : Prop :=
  cond (strT P t) (match x, i with | .string s, .int _ n => idxStr s n fun b => K (.int .u8 b) | _, _ => False) (evR P (Instr.index t x i) H fun v => asT P ty v K)

def slcP (p : Option Addr) (cap l size : Nat) : Option Addr := if cap = l then p else p.map (·.add (l * size))
def slcD (p : Option Addr) (len cap : Nat) (lo hi : Option Int) (size : Nat) (K : Option Addr → Nat → Nat → Prop) : Prop :=
  match lo, hi with
  | none, none => K (slcP p cap 0 size) len cap
  | some l, none => (0 ≤ l ∧ l ≤ (len : Int)) ∧ K (slcP p cap l.toNat size) (len - l.toNat) (cap - l.toNat)
  | none, some h => (0 ≤ h ∧ h ≤ (cap : Int)) ∧ K (slcP p cap 0 size) h.toNat cap
  | some l, some h => (0 ≤ h ∧ h ≤ (cap : Int)) ∧ (0 ≤ l ∧ l ≤ (h.toNat : Int)) ∧ K (slcP p cap l.toNat size) (h.toNat - l.toNat) (cap - l.toNat)

def intOpt (v : Option Value) (K : Option Int → Prop) : Prop :=
  match v with
  | none => K none
  | some (.int _ n) => K (some n)
  | _ => False

def evO (env : Env) (x : Option Operand) (K : Option Value → Prop) : Prop := match x with | none => K none | some x => ev1 env x fun v => K (some v)

def sliceD (P : Program) (t : TypeId) (x : Value) (lo hi mx : Option Value) (H : Hp) (K : Value → Prop) : Prop :=
  cond (slT P t)
    (match mx, P.underlying t, x with
    | none, some (.slice e), .slice p len cap => (match P.info? e with
      | some inf => intOpt lo fun l => intOpt hi fun h => slcD p len cap l h inf.size fun p l c => K (.slice p l c)
      | none => False)
    | _, _, _ => False)
    (evR P (Instr.sliceAt t x lo hi mx) H K)

def extractD (x : Value) (i : Nat) (K : Value → Prop) : Prop := asTup x fun vs => match vs[i]? with | some v => K v | none => False

def lenD (P : Program) (t : TypeId) (x : Value) (ty : TypeId) (H : Hp) (K : Value → Prop) : Prop :=
  cond (slT P t) (match x with | .slice _ n _ => K (.int .i64 n) | _ => False)
    (cond (strT P t) (match x with | .string s => K (.int .i64 s.size) | _ => False)
      (evR P (Builtin.len_ #[t] ty #[x]) H fun v => asI .i64 v fun n => K (.int .i64 n)))

def buildV (P : Program) (t : TypeId) (parts : List (Nat × Value)) : Option Value :=
  match P.info? t, structT P t with
  | some inf, some fs =>
    match inf.zero with
    | some z =>
      (Instr.fill ((fs.map fun f => (f.offset, cellsT P f.type))[·]?) z.cells parts).map .agg
    | none => none
  | _, _ => none

def evParts (env : Env) : List (Nat × Operand) → (List (Nat × Value) → Prop) → Prop
  | [], K => K []
  | (i, x) :: xs, K => ev1 env x fun v => evParts env xs fun vs => K ((i, v) :: vs)

def infoAll (P : Program) (fs : List Field) : Bool := fs.all fun f => (P.info? f.type).isSome

def buildA (P : Program) (t : TypeId) (parts : List (Nat × Value)) : Option Value :=
  match P.info? t, P.underlying t with
  | some inf, some (.array _ e) =>
    match inf.zero, P.info? e with
    | some z, some ie => (Instr.fill (fun i => some (i * ie.size, ie.size)) z.cells parts).map .agg
    | _, _ => none
  | _, _ => none

def buildD (P : Program) (t : TypeId) (parts : List (Nat × Value)) (K : Value → Prop) : Prop :=
  match structT P t with
  | none => match buildA P t parts with | some v => K v | none => False
  | some fs => cond (infoAll P fs.toList) (match buildV P t parts with | some v => K v | none => False) False

end Go.Proofs.Ytohlnmenghbgbaa
