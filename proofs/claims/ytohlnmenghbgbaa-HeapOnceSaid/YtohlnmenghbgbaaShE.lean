/- The shallow reading of a function's body. No condition. -/
import Derived.Test.YtohlnmenghbgbaaShD3
namespace Go.Proofs.Ytohlnmenghbgbaa
set_option linter.unusedSimpArgs false
set_option linter.unusedVariables false
open Go

def Pr : List Leaf → Type
  | [] => Hp → Prop
  | .int _ :: l => Int → Pr l
  | .bool :: l => Bool → Pr l
  | .str :: l => ByteArray → Pr l
  | .ptr :: l => Option Addr → Pr l
  | .sl :: l => Option Addr → Nat → Nat → Pr l
  | .map :: l => Option Nat → Pr l
  | .any :: l => Value → Pr l
def Me : List Leaf → Type
  | [] => Hp → Nat
  | .int _ :: l => Int → Me l
  | .bool :: l => Bool → Me l
  | .str :: l => ByteArray → Me l
  | .ptr :: l => Option Addr → Me l
  | .sl :: l => Option Addr → Nat → Nat → Me l
  | .map :: l => Option Nat → Me l
  | .any :: l => Value → Me l

def allP : List Leaf → (List Value → Prop) → Prop
  | [], K => K []
  | .int k :: l, K => ∀ n, allP l fun vs => K (.int k n :: vs)
  | .bool :: l, K => ∀ n, allP l fun vs => K (.bool n :: vs)
  | .str :: l, K => ∀ n, allP l fun vs => K (.string n :: vs)
  | .ptr :: l, K => ∀ n, allP l fun vs => K (.pointer n :: vs)
  | .sl :: l, K => ∀ p n c, allP l fun vs => K (.slice p n c :: vs)
  | .map :: l, K => ∀ n, allP l fun vs => K (.map n :: vs)
  | .any :: l, K => ∀ n, allP l fun vs => K (n :: vs)

def appP : (ls : List Leaf) → Pr ls → List Value → Hp → Prop
  | [], R, _, H => R H
  | .int k :: l, R, v :: vs, H => asI k v fun n => appP l (R n) vs H
  | .bool :: l, R, v :: vs, H => asB v fun n => appP l (R n) vs H
  | .str :: l, R, v :: vs, H => asStr v fun n => appP l (R n) vs H
  | .ptr :: l, R, v :: vs, H => asP v fun n => appP l (R n) vs H
  | .sl :: l, R, v :: vs, H => asSl v fun p n c => appP l (R p n c) vs H
  | .map :: l, R, v :: vs, H => asM v fun n => appP l (R n) vs H
  | .any :: l, R, v :: vs, H => appP l (R v) vs H
  | _, _, [], _ => False

def appM : (ls : List Leaf) → Me ls → List Value → Hp → Nat
  | [], m, _, H => m H
  | .int _ :: l, m, v :: vs, H => match v with | .int _ n => appM l (m n) vs H | _ => 0
  | .bool :: l, m, v :: vs, H => match v with | .bool n => appM l (m n) vs H | _ => 0
  | .str :: l, m, v :: vs, H => match v with | .string n => appM l (m n) vs H | _ => 0
  | .ptr :: l, m, v :: vs, H => match v with | .pointer n => appM l (m n) vs H | _ => 0
  | .sl :: l, m, v :: vs, H => match v with | .slice p n c => appM l (m p n c) vs H | _ => 0
  | .map :: l, m, v :: vs, H => match v with | .map n => appM l (m n) vs H | _ => 0
  | .any :: l, m, v :: vs, H => appM l (m v) vs H
  | _, _, [], _ => 0

def curryP : (ls : List Leaf) → (List Value → Hp → Prop) → Pr ls
  | [], f => fun H => f [] H
  | .int k :: l, f => fun n => curryP l fun vs => f (.int k n :: vs)
  | .bool :: l, f => fun n => curryP l fun vs => f (.bool n :: vs)
  | .str :: l, f => fun n => curryP l fun vs => f (.string n :: vs)
  | .ptr :: l, f => fun n => curryP l fun vs => f (.pointer n :: vs)
  | .sl :: l, f => fun p n c => curryP l fun vs => f (.slice p n c :: vs)
  | .map :: l, f => fun n => curryP l fun vs => f (.map n :: vs)
  | .any :: l, f => fun n => curryP l fun vs => f (n :: vs)

/-- Where ways meet, or a loop begins: which slots are given, by their types; which others stay. -/
structure Sig where
  given : List (Nat × Leaf)
  keep : List Nat

def Sig.ls (s : Sig) : List Leaf := s.given.map (·.2)
def sigAt : List (Nat × Leaf) → List Value → Nat → Option Value
  | (d, _) :: l, v :: vs, i => cond (Nat.beq i d) (some v) (sigAt l vs i)
  | _, _, _ => none
def joinE (env : Env) (s : Sig) (vs : List Value) : Env := fun i => match sigAt s.given vs i with
  | some v => some v
  | none => cond (elemN s.keep i) (env i) none
def slotsE (env : Env) : List (Nat × Leaf) → (List Value → Prop) → Prop
  | [], K => K []
  | (d, _) :: l, K => match env d with | some v => slotsE env l fun vs => K (v :: vs) | none => False

inductive Ann where
  | n
  | seq (cut : Option Sig) (l r : Ann)
  | two (l r : Ann)
  | loop (s : Sig) (b : Ann)
  | sub (b : Ann)

def Ann.cut : Ann → Option Sig | .seq c _ _ => c | _ => none
def Ann.l : Ann → Ann | .seq _ l _ => l | .two l _ => l | _ => .n
def Ann.r : Ann → Ann | .seq _ _ r => r | .two _ r => r | _ => .n
def Ann.b : Ann → Ann | .sub b => b | _ => .n

def writes : Code → List Nat
  | .region _ ops _ => ops.toList.filterMap (·.dst)
  | .seq a b => writes a ++ writes b
  | .cond _ a b => writes a ++ writes b
  | .block _ c => writes c
  | .loop c => writes c
  | .scope c => writes c
  | _ => []

def disj (keep ws : List Nat) : Bool := ws.all fun w => !elemN keep w
/-- No given slot stands twice, none among those that stay. -/
def nodupN : List Nat → Bool
  | [] => true
  | i :: l => !elemN l i && nodupN l
def Sig.ok (s : Sig) (ws : List Nat) : Bool := disj s.keep ws && nodupN (s.given.map (·.1))

def onNormal (K : Env → Hp → Prop) (Q : Exit → Env → Hp → Prop) : Exit → Env → Hp → Prop := fun ex env H => match ex with
  | .normal => K env H
  | .exit j => Q (.exit j) env H
  | .goto l => Q (.goto l) env H
  | .ret => Q .ret env H
  | .panic c => Q (.panic c) env H
  | .outgrown => Q .outgrown env H
def inBlk (id : Nat) (Q : Exit → Env → Hp → Prop) : Exit → Env → Hp → Prop := fun ex env H => match ex with
  | .normal => Q .normal env H
  | .exit j => cond (Nat.beq j id) (Q .normal env H) (Q (.exit j) env H)
  | .goto l => Q (.goto l) env H
  | .ret => Q .ret env H
  | .panic c => Q (.panic c) env H
  | .outgrown => Q .outgrown env H
def noGoto (Q : Exit → Env → Hp → Prop) : Exit → Env → Hp → Prop := fun ex env H => match ex with
  | .normal => Q .normal env H
  | .exit j => Q (.exit j) env H
  | .goto _ => False
  | .ret => Q .ret env H
  | .panic c => Q (.panic c) env H
  | .outgrown => Q .outgrown env H

def denC (P : Program) (n : Nat) : Code → Ann → Env → Hp → (Exit → Env → Hp → Prop) → Prop
  | .skip, _, env, H, Q => Q .normal env H
  | .region _ ops draw, _, env, H, Q => denR P n ops.toList draw env H fun env' H' => Q .normal env' H'
  | .seq x y, ann, env, H, Q =>
    match ann.cut with
    | some s => cond (s.ok (writes x))
        (∀ R : Pr s.ls, (allP s.ls fun vs => ∀ H', denC P n y ann.r (joinE env s vs) H' Q → appP s.ls R vs H') →
          denC P n x ann.l env H (onNormal (fun env' H' => slotsE env' s.given fun vs => appP s.ls R vs H') Q)) False
    | none => denC P n x ann.l env H (onNormal (fun env' H' => denC P n y ann.r env' H' Q) Q)
  | .cond c x y, ann, env, H, Q => ev1 env c fun v => asB v fun b => cond b (denC P n x ann.l env H Q) (denC P n y ann.r env H Q)
  | .block id c, ann, env, H, Q => denC P n c ann.b env H (inBlk id Q)
  | .loop c, ann, env, H, Q =>
    match ann with
    | .loop s b => cond (s.ok (writes c))
        (∃ (I : Pr s.ls) (m : Me s.ls), (slotsE env s.given fun vs => appP s.ls I vs H) ∧
          allP s.ls fun vs => ∀ H', appP s.ls I vs H' → denC P n c b (joinE env s vs) H'
            (onNormal (fun env' H'' => slotsE env' s.given fun vs' => appP s.ls I vs' H'' ∧ appM s.ls m vs' H'' < appM s.ls m vs H') Q)) False
    | _ => False
  | .exit id, _, env, H, Q => Q (.exit id) env H
  | .scope c, ann, env, H, Q => denC P n c ann.b env H (noGoto Q)
  | .label _, _, env, H, Q => Q .normal env H
  | .goto l, _, env, H, Q => Q (.goto l) env H
  | .ret, _, env, H, Q => Q .ret env H
  | _, _, _, _, _ => False

def resL (P : Program) (env : Env) (H : Hp) : List ResultVar → (List Value → Prop) → Prop
  | [], K => K []
  | .tmp t :: l, K => ev1 env (.tmp t) fun v => resL P env H l fun vs => K (v :: vs)
  | .cell a t :: l, K => ev1 env (.tmp a) fun v => asA v fun ad => ldT P t ad H fun v => resL P env H l fun vs => K (v :: vs)
def resD (P : Program) (rs : List ResultVar) (env : Env) (H : Hp) (K : Value → Prop) : Prop :=
  resL P env H rs fun vs => match vs with | [v] => K v | vs => K (.tuple ⟨vs⟩)

def argE : List Value → Env := fun args i => args[i]?

def outQ (P : Program) (fn : Func) (K : Value → Hp → Prop) : Exit → Env → Hp → Prop := fun ex env H => match ex with
  | .normal => resD P fn.results.toList env H fun v => K v H
  | .ret => resD P fn.results.toList env H fun v => K v H
  | _ => False

def denF (P : Program) (fn : Func) (ann : Ann) (args : List Value) (H : Hp) (K : Value → Hp → Prop) : Prop :=
  match fn.body with
  | some c => cond (Nat.ble args.length fn.ntmps) (denC P fn.ntmps c ann (argE args) H (outQ P fn K)) False
  | none => False

end Go.Proofs.Ytohlnmenghbgbaa
