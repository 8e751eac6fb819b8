/- The shallow reading of one operation, and its truth. No condition. -/
import Derived.Test.YtohlnmenghbgbaaShB
namespace Go.Proofs.Ytohlnmenghbgbaa
set_option linter.unusedSimpArgs false
set_option linter.unusedVariables false
open Go

def quietOp : Op → Bool
  | .move _ | .assign _ | .pick .. | .nilCheck _ | .binOp .. | .unOp .. | .convert .. | .extract .. | .fieldAddr .. | .field .. | .indexAddr .. | .index ..
  | .slice .. | .load .. | .lookup .. | .build .. | .makeFunc .. => true
  | .call c => match c.callee with | .builtin .len | .builtin .min | .builtin .max => true | _ => false
  | _ => false

def mmRead (P : Program) (argTypes : Array TypeId) : Bool := match argTypes.toList with | [t, _] => (intT P t).isNone | _ => true
def mmD (P : Program) (b : Builtin) (argTypes : Array TypeId) (ty : TypeId) (vs : List Value) (H : Hp) (K : Value → Prop) : Prop :=
  match b with
  | .min => cond (mmRead P argTypes) (evR P (Builtin.min_ argTypes ty ⟨vs⟩) H K) (match vs with | [.int k x, .int _ y] => K (.int k (if y < x then y else x)) | _ => False)
  | .max => cond (mmRead P argTypes) (evR P (Builtin.max_ argTypes ty ⟨vs⟩) H K) (match vs with | [.int k x, .int _ y] => K (.int k (if x < y then y else x)) | _ => False)
  | _ => False

def readOp (P : Program) : Op → Bool
  | .load .. | .lookup .. => true
  | .binOp _ t _ _ _ => aggT P t
  | .convert s d _ => (intT P s).isNone || (intT P d).isNone
  | .index t _ _ => !strT P t
  | .slice t _ _ _ _ => !slT P t
  | .call c => match c.callee with
    | .builtin .len => (match c.argTypes.toList with | [t] => !(slT P t || strT P t) | _ => true)
    | .builtin .min => mmRead P c.argTypes
    | .builtin .max => mmRead P c.argTypes
    | _ => true
  | _ => false

def denQ (P : Program) (env : Env) (o : Oper) (H : Hp) (K : Value → Prop) : Prop :=
  match o.op with
  | .move x => ev1 env x K
  | .assign x => ev1 env x K
  | .pick c x y => ev1 env c fun cv => asB cv fun b => cond b (ev1 env x K) (ev1 env y K)
  | .nilCheck x => ev1 env x fun v => nilD v K
  | .binOp op t x y _ => ev1 env x fun a => ev1 env y fun b => binD P op t a b H K
  | .unOp op _ x => ev1 env x fun v => unD op v K
  | .convert s d x => ev1 env x fun v => convD P s d v H K
  | .extract x i => ev1 env x fun v => extractD v i fun u => asT P o.type u K
  | .fieldAddr t x f => ev1 env x fun v => fieldAddrD P t v f K
  | .field t x f => ev1 env x fun v => fieldD P t v f K
  | .indexAddr t x i => ev1 env x fun a => ev1 env i fun b => indexAddrD P t a b K
  | .index t x i => ev1 env x fun a => ev1 env i fun b => indexD P t o.type a b H K
  | .slice t x lo hi mx => ev1 env x fun a => evO env lo fun l => evO env hi fun h => evO env mx fun m => sliceD P t a l h m H K
  | .load t x => ev1 env x fun v => asA v fun a => ldT P t a H K
  | .lookup t x i ok => ev1 env x fun a => ev1 env i fun b => evR P (Instr.lookup t a b ok) H fun v => asRes P o.type v K
  | .build t parts => evParts env parts.toList fun ps => buildD P t ps K
  | .makeFunc fn first cap => evL env first.toList fun a => evL env cap.toList fun b => K (.func fn ⟨a⟩ ⟨b⟩)
  | .call c => match c.callee with
    | .builtin .len => (match c.args.toList, c.argTypes.toList with | [x], [t] => ev1 env x fun v => lenD P t v o.type H K | _, _ => False)
    | .builtin b => evL env c.args.toList fun vs => mmD P b c.argTypes o.type vs H K
    | _ => False
  | _ => False

def bSem (b : Builtin) (argTypes : Array TypeId) (ty : TypeId) (args : Array Value) : Option (Sem Value) :=
  match b with
  | .append => some (Builtin.append_ argTypes ty args)
  | .cap => some (Builtin.cap_ argTypes ty args)
  | .clear => some (Builtin.clear_ argTypes ty args)
  | .copy => some (Builtin.copy_ argTypes ty args)
  | .delete => some (Builtin.delete_ argTypes ty args)
  | _ => none

def buildSliceV (P : Program) (e : TypeId) (len : Nat) (parts : List (Nat × Value)) : Option (Array Value) :=
  match P.info? e with
  | some inf =>
    match inf.zero with
    | some z => cond (Nat.ble (len * inf.size) (2 ^ 24))
        (Instr.fill (fun i => some (i * inf.size, inf.size)) ((Array.range (len * inf.size)).map ((cond (Nat.beq (len * inf.size) 0) #[] z.cells)[· % (cond (Nat.beq (len * inf.size) 0) #[] z.cells).size]!)) parts) none
    | none => none
  | none => none

/-- What a step of a range came to: over, or a key and what is there. -/
def nextC (v : Value) (A : Prop) (B : Value → Value → Prop) : Prop := match v with
  | .tuple ⟨[.bool false]⟩ => A
  | .tuple ⟨[.bool true, k, x]⟩ => B k x
  | _ => False
def denL (P : Program) (env : Env) (o : Oper) (H : Hp) (K : Value → Hp → Prop) : Prop :=
  match o.op with
  | .box t x => ev1 env x fun v => newB (.cells v.cells t) H fun b H' => K (.pointer (some ⟨b, 0, none⟩)) H'
  | .alloc t => match P.info? t with
    | some inf => (match inf.zero with | some z => newB (.cells z.cells t) H fun b H' => K (.pointer (some ⟨b, 0, none⟩)) H' | none => False)
    | none => False
  | .store t x y => ev1 env x fun v => asA v fun a => ev1 env y fun u => (match P.info? t with
    | some inf => cond (Nat.beq u.cells.size inf.size) (stL a 0 u.cells.toList H fun H' => K undef H') False
    | none => False)
  | .buildSlice t len parts => evParts env parts.toList fun ps => (match P.underlying t with
    | some (.slice e) => (match buildSliceV P e len ps with
      | some cs => newB (.cells cs e) H fun b H' => K (.slice (some ⟨b, 0, none⟩) len len) H'
      | none => False)
    | _ => False)
  | .makeSlice t l c => ev1 env l fun l => ev1 env c fun c => evW P (Instr.makeSlice t l c) H fun v H' => asSl v fun p l c => K (.slice p l c) H'
  | .makeMap t r => match r with
    | none => newB (.map #[] 0) H fun b H' => K (.map (some b)) H'
    | some x => ev1 env x fun v => evW P (Instr.makeMap t (some v)) H fun v H' => asM v fun m => K (.map m) H'
  | .mapUpdate t m k x => ev1 env m fun m => ev1 env k fun k => ev1 env x fun x => evW P (Instr.mapUpdate t m k x) H fun _ H' => K undef H'
  | .insert t m k x => ev1 env m fun m => ev1 env k fun k => ev1 env x fun x => evW P (Instr.mapUpdate t m k x) H fun _ H' => K undef H'
  | .mapEntry t m k => ev1 env m fun m => ev1 env k fun k => evW P (Instr.mapEntry t m k) H fun v H' => asRes P o.type v fun v => K v H'
  | .entryStore t m s x => ev1 env m fun m => ev1 env s fun s => ev1 env x fun x => evW P (Instr.entryStore t m s x) H fun _ H' => K undef H'
  | .range t x => ev1 env x fun x => evW P (Instr.range t x) H fun v H' => asA v fun a => K (.pointer (some a)) H'
  | .next x s => ev1 env x fun x => evW P (Instr.next x s o.type) H fun v H' => nextC v (K (.tuple #[.bool false]) H') fun k x => K (.tuple #[.bool true, k, x]) H'
  | .entry x => ev1 env x fun x => evW P (Instr.entry x) H K
  | .call c => match c.callee with
    | .builtin b => evL env c.args.toList fun vs => (match bSem b c.argTypes o.type ⟨vs⟩ with
      | some s => evW P s H fun v H' => asRes P o.type v fun v => K v H'
      | none => False)
    | .value f => ev1 env f fun fv => asFn fv fun fn first cap => (match fn with
      | .func f => (match P.funcs[f]? with
        | some g => cond (g.body.isSome && !(g.name == "runtime.NumGoroutine"))
            (evL env c.args.toList fun vs => hcall P f ⟨first.toList ++ vs ++ cap.toList⟩ H fun v H' => asRes P o.type v fun v => K v H') False
        | none => False)
      | _ => False)
    | _ => False
  | _ => False

/-- What an operation came to, as the run goes on from it. -/
def LoudOk (P : Program) (w : World) (K : Value → Hp → Prop) : Result Next → Prop
  | .ok (.value v) w' => Rest w w' ∧ K v (hp w')
  | .ok .skip w' => Rest w w' ∧ K undef (hp w')
  | .ok (.enter f args) w' => w' = w ∧ hcall P f args (hp w) K
  | _ => False

end Go.Proofs.Ytohlnmenghbgbaa
