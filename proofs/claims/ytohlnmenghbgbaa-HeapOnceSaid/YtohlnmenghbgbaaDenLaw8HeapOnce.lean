/- PRINTED by gen.py: functions as plain propositions, held against the program by the kernel. No condition. -/
import Derived.Test.YtohlnmenghbgbaaDenN
namespace Go.Proofs.Ytohlnmenghbgbaa
open Go
set_option linter.unusedVariables false
set_option maxRecDepth 100000

def B_law8_HeapOnce (last1 : Int) (lP2 : Option Addr) (lL3 : Nat) (lC4 : Nat) (H : Hp) (K : Value → Hp → Prop) : Prop :=
(72057594037927935 : Int) ≠ 0 ∧
hcall PR f_heap_New ⟨[(.int .i64 1), (.int .i64 256), (.int .i64 8), (.int .u64 (Int.tmod last1 72057594037927935))]⟩ H fun v5 Hx6 =>
tup2 v5 fun v7 v8 =>
asP v7 fun t9 =>
asI .i64 v8 fun t10 =>
hcall PR f_law8_known ⟨[]⟩ Hx6 fun v11 Hx12 =>
asB v11 fun t13 =>
(bif (!t13) then
K (.bool false) Hx12
else
(bif ((t10 : Int) != 0) then
K (.bool false) Hx12
else
(bif (Option.isNone (α := Addr) t9) then
K (.bool false) Hx12
else
∃ (I14 : Int → Int → Hp → Prop) (m15 : Int → Int → Hp → Nat), I14 (Int.tmod last1 72057594037927935) 0 Hx12 ∧ ∀ atx17 : Int, ∀ i18 : Int, ∀ Hx16 : Hp, I14 atx17 i18 Hx16 →
(bif (decide ((i18 : Int) < (lL3 : Int))) then
(bif (decide ((i18 : Int) < 300)) then
∀ R19 : Int → Hp → Prop, (∀ atx21 : Int, ∀ Hx20 : Hp, (
hcall PR f_heap_Heap_Last ⟨[(.pointer t9)]⟩ Hx20 fun v22 Hx23 =>
asI .u64 v22 fun t24 =>
(bif ((t24 : Int) != atx21) then
K (.bool false) Hx23
else
I14 atx21 (IntKind.i64.wrap (i18 + 1)) Hx23 ∧ m15 atx21 (IntKind.i64.wrap (i18 + 1)) Hx23 < m15 atx17 i18 Hx16)) → R19 atx21 Hx20) →
idxA lP2 lL3 i18 8 fun el25 =>
ldI .i64 el25 Hx16 fun What26 =>
(2 : Int) ≠ 0 ∧
(bif (((Int.tmod What26 2) : Int) == 0) then
idxA lP2 lL3 i18 8 fun el27 =>
ldI .i64 (el27.add 1) Hx16 fun A28 =>
idxA lP2 lL3 i18 8 fun el29 =>
ldI .i64 (el29.add 2) Hx16 fun B30 =>
hcall PR f_hand_Pick ⟨[(.int .i64 A28), (.int .i64 3)]⟩ Hx16 fun v31 Hx32 =>
asI .i64 v31 fun t33 =>
(ldI .i64 (el29.add 2) Hx32 fun B34 =>
((.int .i64 B34) : Value) = (.int .i64 B30)) ∧
hcall PR f_hand_Pick ⟨[(.int .i64 B30), (.int .i64 3)]⟩ Hx32 fun v35 Hx36 =>
asI .i64 v35 fun t37 =>
hcall PR f_heap_Heap_Make ⟨[(.pointer t9), (.int .i64 t33), (.int .i64 t37)]⟩ Hx36 fun v38 Hx39 =>
tup2 v38 fun v40 v41 =>
asI .u64 v40 fun t42 =>
asI .i64 v41 fun t43 =>
∀ R44 : Hp → Prop, (∀ Hx45 : Hp, (
(bif ((t43 : Int) == 0) then
R19 t42 Hx45
else
R19 atx17 Hx45)) → R44 Hx45) →
(bif ((t43 : Int) == 0) then
(bif ((t42 : Int) != (IntKind.u64.wrap (atx17 + 1))) then
K (.bool false) Hx39
else
(bif ((t43 : Int) != 0) then
(bif ((t42 : Int) != 0) then
K (.bool false) Hx39
else
R44 Hx39)
else
R44 Hx39))
else
(bif ((t43 : Int) != 0) then
(bif ((t42 : Int) != 0) then
K (.bool false) Hx39
else
R44 Hx39)
else
R44 Hx39))
else
idxA lP2 lL3 i18 8 fun el46 =>
ldI .u64 (el46.add 3) Hx16 fun Serial47 =>
((IntKind.u64.wrap (IntKind.i64.wrap (i18 + 1))) : Int) ≠ 0 ∧
hcall PR f_heap_Heap_Next ⟨[(.pointer t9), (.int .u64 (IntKind.u64.wrap ((Int.tmod last1 72057594037927935) + (Int.tmod Serial47 (IntKind.u64.wrap (IntKind.i64.wrap (i18 + 1)))))))]⟩ Hx16 fun v48 Hx49 =>
tup2 v48 fun v50 v51 =>
asI .u64 v50 fun t52 =>
asB v51 fun t53 =>
(bif t53 then
hcall PR f_heap_Heap_Free ⟨[(.pointer t9), (.int .u64 t52)]⟩ Hx49 fun v54 Hx55 =>
asI .i64 v54 fun t56 =>
(bif ((t56 : Int) != 0) then
K (.bool false) Hx55
else
R19 atx17 Hx55)
else
R19 atx17 Hx49))
else
K (.bool true) Hx16)
else
K (.bool true) Hx16))))
theorem E_law8_HeapOnce (last1 : Int) (lP2 : Option Addr) (lL3 : Nat) (lC4 : Nat) (H : Hp) (K : Value → Hp → Prop) : B_law8_HeapOnce last1 lP2 lL3 lC4 H K = denF Try.prog Try.f7 (.seq none .n (.seq none .n (.seq none .n (.seq none .n (.seq none .n (.seq none (.seq none .n (.sub (.loop ⟨[(7, .int .u64), (8, .int .i64)], [0, 1, 5]⟩ (.seq none .n (.seq none (.sub (.seq (some ⟨[(7, .int .u64)], [0, 1, 5, 8]⟩) (.seq none .n (.two (.seq none .n (.seq (some ⟨[], [0, 1, 5, 7, 8, 9, 10]⟩) .n .n)) .n)) .n)) .n))))) .n)))))) [(.int .u64 last1), (.slice lP2 lL3 lC4)] H K := by kernel_rfl
theorem den_law8_HeapOnce {last1 : Int} {lP2 : Option Addr} {lL3 : Nat} {lC4 : Nat} {H : Hp} {K : Value → Hp → Prop} (h : B_law8_HeapOnce last1 lP2 lL3 lC4 H K) : hcall PR f_law8_HeapOnce ⟨[(.int .u64 last1), (.slice lP2 lL3 lC4)]⟩ H K := denF_call Try.func7 PR_mixed (Eq.mp (E_law8_HeapOnce last1 lP2 lL3 lC4 H K) h)

end Go.Proofs.Ytohlnmenghbgbaa
