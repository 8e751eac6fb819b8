/- PRINTED by gen.py: functions as plain propositions, held against the program by the kernel. No condition. -/
import Derived.Test.YtohlnmenghbgbaaDenN
namespace Go.Proofs.Ytohlnmenghbgbaa
open Go
set_option linter.unusedVariables false
set_option maxRecDepth 100000

def B_law8_HeapEnds (back1 : Int) (H : Hp) (K : Value → Hp → Prop) : Prop :=
hcall PR f_hand_Pick ⟨[(.int .i64 back1), (.int .i64 6)]⟩ H fun v2 Hx3 =>
asI .i64 v2 fun t4 =>
hcall PR f_heap_New ⟨[(.int .i64 1), (.int .i64 256), (.int .i64 10), (.int .u64 (IntKind.u64.wrap (72057594037927935 - (IntKind.u64.wrap t4))))]⟩ Hx3 fun v5 Hx6 =>
tup2 v5 fun v7 v8 =>
asP v7 fun t9 =>
asI .i64 v8 fun t10 =>
hcall PR f_law8_known ⟨[]⟩ Hx6 fun v11 Hx12 =>
asB v11 fun t13 =>
(bif (!t13) then
K (.bool false) Hx12
else
(bif ((t10 : Int) != 0) then
K (.bool false) Hx12
else
(bif (Option.isNone (α := Addr) t9) then
K (.bool false) Hx12
else
∃ (I14 : Int → Hp → Prop) (m15 : Int → Hp → Nat), I14 0 Hx12 ∧ ∀ i17 : Int, ∀ Hx16 : Hp, I14 i17 Hx16 →
(bif (decide ((i17 : Int) < t4)) then
hcall PR f_heap_Heap_Make ⟨[(.pointer t9), (.int .i64 1), (.int .i64 0)]⟩ Hx16 fun v18 Hx19 =>
tup2 v18 fun v20 v21 =>
asI .u64 v20 fun t22 =>
asI .i64 v21 fun t23 =>
(bif ((t23 : Int) != 0) then
K (.bool false) Hx19
else
I14 (IntKind.i64.wrap (i17 + 1)) Hx19 ∧ m15 (IntKind.i64.wrap (i17 + 1)) Hx19 < m15 i17 Hx16)
else
hcall PR f_heap_Heap_Make ⟨[(.pointer t9), (.int .i64 1), (.int .i64 0)]⟩ Hx16 fun v24 Hx25 =>
tup2 v24 fun v26 v27 =>
asI .u64 v26 fun t28 =>
asI .i64 v27 fun t29 =>
hcall PR f_heap_Heap_Free ⟨[(.pointer t9), (.int .u64 72057594037927935)]⟩ Hx25 fun v30 Hx31 =>
asI .i64 v30 fun t32 =>
hcall PR f_heap_Heap_Make ⟨[(.pointer t9), (.int .i64 1), (.int .i64 0)]⟩ Hx31 fun v33 Hx34 =>
tup2 v33 fun v35 v36 =>
asI .u64 v35 fun t37 =>
asI .i64 v36 fun t38 =>
(bif ((t29 : Int) == 7) then
(bif ((t38 : Int) == 7) then
hcall PR f_heap_Heap_Last ⟨[(.pointer t9)]⟩ Hx34 fun v39 Hx40 =>
asI .u64 v39 fun t41 =>
K (.bool ((t41 : Int) == 72057594037927935)) Hx40
else
K (.bool false) Hx34)
else
K (.bool false) Hx34)))))
theorem E_law8_HeapEnds (back1 : Int) (H : Hp) (K : Value → Hp → Prop) : B_law8_HeapEnds back1 H K = denF Try.prog Try.f6 (.seq none .n (.seq none .n (.seq none .n (.seq none .n (.seq none (.seq none .n (.sub (.loop ⟨[(5, .int .i64)], [0, 3]⟩ .n))) .n))))) [(.int .i64 back1)] H K := by kernel_rfl
theorem den_law8_HeapEnds {back1 : Int} {H : Hp} {K : Value → Hp → Prop} (h : B_law8_HeapEnds back1 H K) : hcall PR f_law8_HeapEnds ⟨[(.int .i64 back1)]⟩ H K := denF_call Try.func6 PR_mixed (Eq.mp (E_law8_HeapEnds back1 H K) h)

end Go.Proofs.Ytohlnmenghbgbaa
