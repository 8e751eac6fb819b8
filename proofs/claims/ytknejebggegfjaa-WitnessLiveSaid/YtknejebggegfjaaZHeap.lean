/- Merged by merge.py: DenHand, Hand, DenRef2. No condition. -/
import Derived.Test.YtknejebggegfjaaZNum

namespace Go.Proofs.Ytknejebggegfjaa
open Go
set_option linter.unusedVariables false
set_option maxRecDepth 100000
end Go.Proofs.Ytknejebggegfjaa

namespace Go.Proofs.Ytknejebggegfjaa
set_option linter.unusedSimpArgs false
set_option linter.unusedVariables false
open Go
/-- Any number as one of 0 to m - 1. -/
def pick (n m : Int) : Int := n % m

end Go.Proofs.Ytknejebggegfjaa

namespace Go.Proofs.Ytknejebggegfjaa
open Go
set_option linter.unusedVariables false
set_option maxRecDepth 100000
def B_ref2_Numbers (aP1 : Option Addr) (aL2 : Nat) (aC3 : Nat) (bP4 : Option Addr) (bL5 : Nat) (bC6 : Nat) (H : Hp) (K : Value → Hp → Prop) : Prop :=
 (bif (((aL2 : Int) : Int) != (bL5 : Int)) then
 K (.bool false) H
else
 ∃ (I7 : Int → Hp → Prop) (m8 : Int → Hp → Nat), I7 0 H ∧ ∀ i10 : Int, ∀ Hx9 : Hp, I7 i10 Hx9 →
 (bif (decide ((i10 : Int) < (aL2 : Int))) then
 idxA aP1 aL2 i10 1 fun el11 =>
 ldI .u64 el11 Hx9 fun t12 =>
 idxA bP4 bL5 i10 1 fun el13 =>
 ldI .u64 el13 Hx9 fun t14 =>
 (bif ((t12 : Int) != t14) then
 K (.bool false) Hx9
else
 I7 (IntKind.i64.wrap (i10 + 1)) Hx9 ∧ m8 (IntKind.i64.wrap (i10 + 1)) Hx9 < m8 i10 Hx9)
else
 K (.bool true) Hx9))
theorem E_ref2_Numbers (aP1 : Option Addr) (aL2 : Nat) (aC3 : Nat) (bP4 : Option Addr) (bL5 : Nat) (bC6 : Nat) (H : Hp) (K : Value → Hp → Prop) : B_ref2_Numbers aP1 aL2 aC3 bP4 bL5 bC6 H K = denF Try.prog Try.f25 (.seq none .n (.seq none .n (.seq none (.seq none .n (.sub (.loop ⟨[(5, .int .i64)], [0, 1]⟩ .n))) .n))) [(.slice aP1 aL2 aC3), (.slice bP4 bL5 bC6)] H K := by kernel_rfl
theorem den_ref2_Numbers {aP1 : Option Addr} {aL2 : Nat} {aC3 : Nat} {bP4 : Option Addr} {bL5 : Nat} {bC6 : Nat} {H : Hp} {K : Value → Hp → Prop} (h : B_ref2_Numbers aP1 aL2 aC3 bP4 bL5 bC6 H K) : hcall PR f_ref2_Numbers ⟨[(.slice aP1 aL2 aC3), (.slice bP4 bL5 bC6)]⟩ H K := denF_call Try.func25 PR_mixed (Eq.mp (E_ref2_Numbers aP1 aL2 aC3 bP4 bL5 bC6 H K) h)

end Go.Proofs.Ytknejebggegfjaa
