/- The shallow reading of a statement's operations, in the text's order or in every order that the edges allow. No condition. -/
import Derived.Test.YtohlnmenghbgbaaShC3
namespace Go.Proofs.Ytohlnmenghbgbaa
set_option linter.unusedSimpArgs false
set_option linter.unusedVariables false
open Go

def okDst (n : Nat) (d : Option Tmp) : Bool := match d with | none => true | some d => Nat.blt d n

def denO (P : Program) (n : Nat) (env : Env) (o : Oper) (H : Hp) (K : Env → Hp → Prop) : Prop :=
  cond (okDst n o.dst)
    (cond (quietOp o.op) (denQ P env o H fun v => K (env.put o.dst v) H) (denL P env o H fun v H' => K (env.put o.dst v) H')) False

/-- An operation under its guard, if it has one. -/
def denG (P : Program) (n : Nat) (ops : List Oper) (env : Env) (o : Oper) (H : Hp) (K : Env → Hp → Prop) : Prop :=
  match o.guard with
  | none => denO P n env o H K
  | some (j, want) =>
    match (ops[j]?).bind (·.dst) with
    | none => False
    | some d => match env d with
      | some (.bool b) =>
        cond b (match want with | true => denO P n (env.set d (.bool true)) o H K | false => cond (okDst n o.dst) (K ((env.set d (.bool true)).put o.dst undef) H) False)
          (match want with | true => cond (okDst n o.dst) (K ((env.set d (.bool false)).put o.dst undef) H) False | false => denO P n (env.set d (.bool false)) o H K)
      | some _ => cond (okDst n o.dst) (K (env.put o.dst undef) H) False
      | none => False

def denSeq (P : Program) (n : Nat) (ops : List Oper) : List Oper → Env → Hp → (Env → Hp → Prop) → Prop
  | [], env, H, K => K env H
  | o :: os, env, H, K => denG P n ops env o H fun env' H' => denSeq P n ops os env' H' K

/-! ## In every order -/

def aft (o : Oper) : List Nat := (o.after.toList.filter fun e => Region.binds .any e).map (·.on)
def zipI : List Oper → Nat → List (Nat × Oper)
  | [], _ => []
  | o :: os, i => (i, o) :: zipI os (i + 1)
def elemN (l : List Nat) (i : Nat) : Bool := match l with | [] => false | j :: l => cond (Nat.beq i j) true (elemN l i)
def readyI (Ld : List Nat) (p : Nat × Oper) : Bool := !elemN Ld p.1 && (aft p.2).all (elemN Ld)
def nextQ (l : List (Nat × Oper)) (Ld : List Nat) : Option (Nat × Oper) := l.find? fun p => quietOp p.2.op && readyI Ld p
def louds (l : List (Nat × Oper)) (Ld : List Nat) : List (Nat × Oper) := l.filter (readyI Ld)

/-- All that comes before, out of what comes right before: one way down. -/
def ancs : List (Nat × Oper) → List Nat → List Nat
  | [], S => S
  | p :: l, S => ancs l (cond (elemN S p.1) (aft p.2 ++ S) S)

def allL : List (Nat × Oper) → (Nat × Oper → Prop) → Prop
  | [], _ => True
  | [p], f => f p
  | p :: l, f => f p ∧ allL l f

/-- What was read reads likewise still. -/
def recheck (P : Program) (env : Env) (H : Hp) : List (Nat × Oper) → Prop → Prop
  | [], K => K
  | p :: l, K => (match p.2.dst with
    | none => denQ P env p.2 H fun _ => True
    | some d => match env d with
      | some u => denQ P env p.2 H fun v => v = u
      | none => False) ∧ recheck P env H l K

def wantedE (ops : List Oper) (env : Env) (o : Oper) : Bool :=
  match o.guard with
  | none => true
  | some (j, want) => match (ops[j]?).bind (·.dst) with
    | none => false
    | some d => match env d with | some (.bool b) => (match b, want with | true, true => true | false, false => true | _, _ => false) | _ => false

def denAny (P : Program) (n : Nat) (ops : List Oper) (zs rzs : List (Nat × Oper)) : Nat → List Nat → List (Nat × Oper) → Env → Hp → (Env → Hp → Prop) → Prop
  | 0, _, _, env, H, K => K env H
  | fuel + 1, Ld, rd, env, H, K =>
    match nextQ zs Ld with
    | some p => denG P n ops env p.2 H fun env' H' =>
        denAny P n ops zs rzs fuel (p.1 :: Ld) (cond (readOp P p.2.op && wantedE ops env' p.2) (p :: rd) rd) env' H' K
    | none => allL (louds zs Ld) fun p =>
        denG P n ops env p.2 H fun env' H' =>
          recheck P env' H' (rd.filter fun q => !elemN (ancs rzs (aft p.2)) q.1)
            (denAny P n ops zs rzs fuel (p.1 :: Ld) (rd.filter fun q => !elemN (ancs rzs (aft p.2)) q.1) env' H' K)

/-! The condition on a statement's operations: one writer a slot; who reads a slot that is written here stands in order with the writer. -/
def looksT (ops : List Oper) (o : Oper) : List Nat :=
  (o.op.operands.toList.filterMap fun | .tmp t => some t | _ => none) ++ (match o.guard with | some (g, _) => ((ops[g]?).bind (·.dst)).toList | none => [])
def okPair (P : Program) (ops : List Oper) (q p : Nat × Oper) : Bool :=
  match p.2.dst with
  | none => true
  | some t => cond (Nat.beq q.1 p.1) (!(readOp P q.2.op && elemN (looksT ops q.2) t))
      ((match q.2.dst with | none => true | some u => !Nat.beq u t) && (!elemN (looksT ops q.2) t || elemN (aft q.2) p.1 || (elemN (aft p.2) q.1 && !(readOp P q.2.op && quietOp q.2.op))))
def okOp (q : Nat × Oper) : Bool := (aft q.2).all fun i => Nat.blt i q.1
def okGuard (q : Nat × Oper) : Bool := match q.2.guard with | none => true | some (g, _) => elemN (aft q.2) g
def regOk (P : Program) (ops : List Oper) : Bool :=
  (zipI ops 0).all fun q => okOp q && okGuard q && (zipI ops 0).all fun p => okPair P ops q p

def denR (P : Program) (n : Nat) (ops : List Oper) (draw : Bool) (env : Env) (H : Hp) (K : Env → Hp → Prop) : Prop :=
  cond draw
    (cond (regOk P ops) (denAny P n ops (zipI ops 0) (zipI ops 0).reverse ops.length [] [] env H K) False)
    (denSeq P n ops ops env H K)

end Go.Proofs.Ytohlnmenghbgbaa
