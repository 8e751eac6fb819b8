/- Merged by merge.py: DenSlices, DenCmp, DenMath, TrB, TrS, DenTrace, DenClock, DenLease, TrP, TrP2, TrP3, TrP4. No condition. -/
import Derived.Test.YtknejebggegfjaaZNum
import Derived.Test.YtknejebggegfjaaZHeap
import Derived.Test.YtknejebggegfjaaZBase

namespace Go.Proofs.Ytknejebggegfjaa
open Go
set_option linter.unusedVariables false
set_option maxRecDepth 100000
def B_slices_Sort_Sint_int (xP1 : Option Addr) (xL2 : Nat) (xC3 : Nat) (H : Hp) (K : Value → Hp → Prop) : Prop :=
 hcall PR f_math_bits_Len ⟨[(.int .u64 (IntKind.u64.wrap (xL2 : Int)))]⟩ H fun v4 Hx5 =>
 asI .i64 v4 fun t6 =>
 hcall PR f_slices_pdqsortOrdered_int ⟨[(.slice xP1 xL2 xC3), (.int .i64 0), (.int .i64 (xL2 : Int)), (.int .i64 t6)]⟩ Hx5 fun v7 Hx8 =>
 K (.tuple #[]) Hx8
theorem E_slices_Sort_Sint_int (xP1 : Option Addr) (xL2 : Nat) (xC3 : Nat) (H : Hp) (K : Value → Hp → Prop) : B_slices_Sort_Sint_int xP1 xL2 xC3 H K = denF Try.prog Try.f98 .n [(.slice xP1 xL2 xC3)] H K := by kernel_rfl
theorem den_slices_Sort_Sint_int {xP1 : Option Addr} {xL2 : Nat} {xC3 : Nat} {H : Hp} {K : Value → Hp → Prop} (h : B_slices_Sort_Sint_int xP1 xL2 xC3 H K) : hcall PR f_slices_Sort_Sint_int ⟨[(.slice xP1 xL2 xC3)]⟩ H K := denF_call Try.func98 PR_mixed (Eq.mp (E_slices_Sort_Sint_int xP1 xL2 xC3 H K) h)

def B_slices_ContainsFunc_Strace_Item_trace_Item (sP1 : Option Addr) (sL2 : Nat) (sC3 : Nat) (f4 : Value) (H : Hp) (K : Value → Hp → Prop) : Prop :=
 hcall PR f_slices_IndexFunc_Strace_Item_trace_Item ⟨[(.slice sP1 sL2 sC3), f4]⟩ H fun v5 Hx6 =>
 asI .i64 v5 fun t7 =>
 K (.bool (decide ((t7 : Int) ≥ 0))) Hx6
theorem E_slices_ContainsFunc_Strace_Item_trace_Item (sP1 : Option Addr) (sL2 : Nat) (sC3 : Nat) (f4 : Value) (H : Hp) (K : Value → Hp → Prop) : B_slices_ContainsFunc_Strace_Item_trace_Item sP1 sL2 sC3 f4 H K = denF Try.prog Try.f113 .n [(.slice sP1 sL2 sC3), f4] H K := by kernel_rfl
theorem den_slices_ContainsFunc_Strace_Item_trace_Item {sP1 : Option Addr} {sL2 : Nat} {sC3 : Nat} {f4 : Value} {H : Hp} {K : Value → Hp → Prop} (h : B_slices_ContainsFunc_Strace_Item_trace_Item sP1 sL2 sC3 f4 H K) : hcall PR f_slices_ContainsFunc_Strace_Item_trace_Item ⟨[(.slice sP1 sL2 sC3), f4]⟩ H K := denF_call Try.func113 PR_mixed (Eq.mp (E_slices_ContainsFunc_Strace_Item_trace_Item sP1 sL2 sC3 f4 H K) h)

def B_slices_pdqsortOrdered_int (dataP1 : Option Addr) (dataL2 : Nat) (dataC3 : Nat) (a4 : Int) (b5 : Int) (limit6 : Int) (H : Hp) (K : Value → Hp → Prop) : Prop :=
 ∃ (I7 : Int → Int → Int → Bool → Bool → Hp → Prop) (m8 : Int → Int → Int → Bool → Bool → Hp → Nat), I7 a4 b5 limit6 true true H ∧ ∀ a10 : Int, ∀ b11 : Int, ∀ limit12 : Int, ∀ wasBalanced13 : Bool, ∀ wasPartitioned14 : Bool, ∀ Hx9 : Hp, I7 a10 b11 limit12 wasBalanced13 wasPartitioned14 Hx9 →
 (bif (decide (((IntKind.i64.wrap (b11 - a10)) : Int) ≤ 12)) then
 hcall PR f_slices_insertionSortOrdered_int ⟨[(.slice dataP1 dataL2 dataC3), (.int .i64 a10), (.int .i64 b11)]⟩ Hx9 fun v15 Hx16 =>
 K (.tuple #[]) Hx16
else
 (bif ((limit12 : Int) == 0) then
 hcall PR f_slices_heapSortOrdered_int ⟨[(.slice dataP1 dataL2 dataC3), (.int .i64 a10), (.int .i64 b11)]⟩ Hx9 fun v17 Hx18 =>
 K (.tuple #[]) Hx18
else
 ∀ R19 : Int → Hp → Prop, (∀ limit21 : Int, ∀ Hx20 : Hp, (
 hcall PR f_slices_choosePivotOrdered_int ⟨[(.slice dataP1 dataL2 dataC3), (.int .i64 a10), (.int .i64 b11)]⟩ Hx20 fun v22 Hx23 =>
 tup2 v22 fun v24 v25 =>
 asI .i64 v24 fun t26 =>
 asI .i64 v25 fun t27 =>
 ∀ R28 : Int → Int → Hp → Prop, (∀ pivot30 : Int, ∀ hint31 : Int, ∀ Hx29 : Hp, (
 ∀ R32 : Hp → Prop, (∀ Hx33 : Hp, (
 ∀ R34 : Int → Hp → Prop, (∀ a36 : Int, ∀ Hx35 : Hp, (
 hcall PR f_slices_partitionOrdered_int ⟨[(.slice dataP1 dataL2 dataC3), (.int .i64 a36), (.int .i64 b11), (.int .i64 pivot30)]⟩ Hx35 fun v37 Hx38 =>
 tup2 v37 fun v39 v40 =>
 asI .i64 v39 fun t41 =>
 asB v40 fun t42 =>
 (8 : Int) ≠ 0 ∧
 (bif (decide (((IntKind.i64.wrap (t41 - a36)) : Int) < (IntKind.i64.wrap (b11 - t41)))) then
 hcall PR f_slices_pdqsortOrdered_int ⟨[(.slice dataP1 dataL2 dataC3), (.int .i64 a36), (.int .i64 t41), (.int .i64 limit21)]⟩ Hx38 fun v43 Hx44 =>
 I7 (IntKind.i64.wrap (t41 + 1)) b11 limit21 (decide (((IntKind.i64.wrap (t41 - a36)) : Int) ≥ (IntKind.i64.wrap (Int.tdiv (IntKind.i64.wrap (b11 - a10)) 8)))) t42 Hx44 ∧ m8 (IntKind.i64.wrap (t41 + 1)) b11 limit21 (decide (((IntKind.i64.wrap (t41 - a36)) : Int) ≥ (IntKind.i64.wrap (Int.tdiv (IntKind.i64.wrap (b11 - a10)) 8)))) t42 Hx44 < m8 a10 b11 limit12 wasBalanced13 wasPartitioned14 Hx9
else
 hcall PR f_slices_pdqsortOrdered_int ⟨[(.slice dataP1 dataL2 dataC3), (.int .i64 (IntKind.i64.wrap (t41 + 1))), (.int .i64 b11), (.int .i64 limit21)]⟩ Hx38 fun v45 Hx46 =>
 I7 a36 t41 limit21 (decide (((IntKind.i64.wrap (b11 - t41)) : Int) ≥ (IntKind.i64.wrap (Int.tdiv (IntKind.i64.wrap (b11 - a10)) 8)))) t42 Hx46 ∧ m8 a36 t41 limit21 (decide (((IntKind.i64.wrap (b11 - t41)) : Int) ≥ (IntKind.i64.wrap (Int.tdiv (IntKind.i64.wrap (b11 - a10)) 8)))) t42 Hx46 < m8 a10 b11 limit12 wasBalanced13 wasPartitioned14 Hx9)) → R34 a36 Hx35) →
 (bif (decide ((a10 : Int) > 0)) then
 idxA dataP1 dataL2 (IntKind.i64.wrap (a10 - 1)) 1 fun el47 =>
 ldI .i64 el47 Hx33 fun t48 =>
 idxA dataP1 dataL2 pivot30 1 fun el49 =>
 ldI .i64 el49 Hx33 fun t50 =>
 hcall PR f_cmp_Less_int ⟨[(.int .i64 t48), (.int .i64 t50)]⟩ Hx33 fun v51 Hx52 =>
 asB v51 fun t53 =>
 (bif (!t53) then
 hcall PR f_slices_partitionEqualOrdered_int ⟨[(.slice dataP1 dataL2 dataC3), (.int .i64 a10), (.int .i64 b11), (.int .i64 pivot30)]⟩ Hx52 fun v54 Hx55 =>
 asI .i64 v54 fun t56 =>
 I7 t56 b11 limit21 wasBalanced13 wasPartitioned14 Hx55 ∧ m8 t56 b11 limit21 wasBalanced13 wasPartitioned14 Hx55 < m8 a10 b11 limit12 wasBalanced13 wasPartitioned14 Hx9
else
 R34 a10 Hx52)
else
 R34 a10 Hx33)) → R32 Hx33) →
 (bif wasBalanced13 then
 (bif wasPartitioned14 then
 (bif ((hint31 : Int) == 1) then
 hcall PR f_slices_partialInsertionSortOrdered_int ⟨[(.slice dataP1 dataL2 dataC3), (.int .i64 a10), (.int .i64 b11)]⟩ Hx29 fun v57 Hx58 =>
 asB v57 fun t59 =>
 (bif t59 then
 K (.tuple #[]) Hx58
else
 R32 Hx58)
else
 R32 Hx29)
else
 R32 Hx29)
else
 R32 Hx29)) → R28 pivot30 hint31 Hx29) →
 (bif ((t27 : Int) == 2) then
 hcall PR f_slices_reverseRangeOrdered_int ⟨[(.slice dataP1 dataL2 dataC3), (.int .i64 a10), (.int .i64 b11)]⟩ Hx23 fun v60 Hx61 =>
 R28 (IntKind.i64.wrap ((IntKind.i64.wrap (b11 - 1)) - (IntKind.i64.wrap (t26 - a10)))) 1 Hx61
else
 R28 t26 t27 Hx23)) → R19 limit21 Hx20) →
 (bif (!wasBalanced13) then
 hcall PR f_slices_breakPatternsOrdered_int ⟨[(.slice dataP1 dataL2 dataC3), (.int .i64 a10), (.int .i64 b11)]⟩ Hx9 fun v62 Hx63 =>
 R19 (IntKind.i64.wrap (limit12 - 1)) Hx63
else
 R19 limit12 Hx9)))
theorem E_slices_pdqsortOrdered_int (dataP1 : Option Addr) (dataL2 : Nat) (dataC3 : Nat) (a4 : Int) (b5 : Int) (limit6 : Int) (H : Hp) (K : Value → Hp → Prop) : B_slices_pdqsortOrdered_int dataP1 dataL2 dataC3 a4 b5 limit6 H K = denF Try.prog Try.f115 (.seq none .n (.seq none .n (.sub (.loop ⟨[(1, .int .i64), (2, .int .i64), (3, .int .i64), (8, .bool), (9, .bool)], [0]⟩ (.sub (.seq none .n (.seq none .n (.seq none .n (.seq (some ⟨[(3, .int .i64)], [0, 1, 2, 8, 9, 10]⟩) .n (.seq none .n (.seq (some ⟨[(11, .int .i64), (12, .int .i64)], [0, 1, 2, 3, 8, 9, 10]⟩) .n (.seq (some ⟨[], [0, 1, 2, 3, 8, 9, 10, 11]⟩) .n (.seq (some ⟨[(1, .int .i64)], [0, 2, 3, 10, 11]⟩) .n .n))))))))))))) [(.slice dataP1 dataL2 dataC3), (.int .i64 a4), (.int .i64 b5), (.int .i64 limit6)] H K := by kernel_rfl
theorem den_slices_pdqsortOrdered_int {dataP1 : Option Addr} {dataL2 : Nat} {dataC3 : Nat} {a4 : Int} {b5 : Int} {limit6 : Int} {H : Hp} {K : Value → Hp → Prop} (h : B_slices_pdqsortOrdered_int dataP1 dataL2 dataC3 a4 b5 limit6 H K) : hcall PR f_slices_pdqsortOrdered_int ⟨[(.slice dataP1 dataL2 dataC3), (.int .i64 a4), (.int .i64 b5), (.int .i64 limit6)]⟩ H K := denF_call Try.func115 PR_mixed (Eq.mp (E_slices_pdqsortOrdered_int dataP1 dataL2 dataC3 a4 b5 limit6 H K) h)

def B_slices_IndexFunc_Strace_Item_trace_Item (sP1 : Option Addr) (sL2 : Nat) (sC3 : Nat) (cap4 : Option Addr) (H : Hp) (K : Value → Hp → Prop) : Prop :=
 ∃ (I5 : Int → Hp → Prop) (m6 : Int → Hp → Nat), I5 0 H ∧ ∀ t8 : Int, ∀ Hx7 : Hp, I5 t8 Hx7 →
 (bif (decide ((t8 : Int) < (sL2 : Int))) then
 idxA sP1 sL2 t8 5 fun el9 =>
 ldB el9 Hx7 fun In10 =>
 ldI .i64 (el9.add 1) Hx7 fun Node11 =>
 ldI .i64 (el9.add 2) Hx7 fun Node12 =>
 ldI .u64 (el9.add 3) Hx7 fun Serial13 =>
 ldI .i64 (el9.add 4) Hx7 fun Code14 =>
 hcall PR f_trace_Trace_more_1 ⟨[(.agg #[(.bool In10), (.int .i64 Node11), (.int .i64 Node12), (.int .u64 Serial13), (.int .i64 Code14)]), (.pointer cap4)]⟩ Hx7 fun v15 Hx16 =>
 asB v15 fun t17 =>
 (bif t17 then
 K (.int .i64 t8) Hx16
else
 I5 (IntKind.i64.wrap (t8 + 1)) Hx16 ∧ m6 (IntKind.i64.wrap (t8 + 1)) Hx16 < m6 t8 Hx7)
else
 K (.int .i64 (-1)) Hx7)
theorem E_slices_IndexFunc_Strace_Item_trace_Item (sP1 : Option Addr) (sL2 : Nat) (sC3 : Nat) (cap4 : Option Addr) (H : Hp) (K : Value → Hp → Prop) : B_slices_IndexFunc_Strace_Item_trace_Item sP1 sL2 sC3 cap4 H K = denF Try.prog Try.f122 (.seq none .n (.seq none (.seq none .n (.sub (.loop ⟨[(8, .int .i64)], [0, 1, 7]⟩ .n))) .n)) [(.slice sP1 sL2 sC3), (.func (.func f_trace_Trace_more_1) #[] #[(.pointer cap4)])] H K := by kernel_rfl
theorem den_slices_IndexFunc_Strace_Item_trace_Item {sP1 : Option Addr} {sL2 : Nat} {sC3 : Nat} {cap4 : Option Addr} {H : Hp} {K : Value → Hp → Prop} (h : B_slices_IndexFunc_Strace_Item_trace_Item sP1 sL2 sC3 cap4 H K) : hcall PR f_slices_IndexFunc_Strace_Item_trace_Item ⟨[(.slice sP1 sL2 sC3), (.func (.func f_trace_Trace_more_1) #[] #[(.pointer cap4)])]⟩ H K := denF_call Try.func122 PR_mixed (Eq.mp (E_slices_IndexFunc_Strace_Item_trace_Item sP1 sL2 sC3 cap4 H K) h)

def B_slices_insertionSortOrdered_int (dataP1 : Option Addr) (dataL2 : Nat) (dataC3 : Nat) (a4 : Int) (b5 : Int) (H : Hp) (K : Value → Hp → Prop) : Prop :=
 ∃ (I6 : Int → Hp → Prop) (m7 : Int → Hp → Nat), I6 (IntKind.i64.wrap (a4 + 1)) H ∧ ∀ i9 : Int, ∀ Hx8 : Hp, I6 i9 Hx8 →
 (bif (decide ((i9 : Int) < b5)) then
 ∀ R10 : Hp → Prop, (∀ Hx11 : Hp, (
 I6 (IntKind.i64.wrap (i9 + 1)) Hx11 ∧ m7 (IntKind.i64.wrap (i9 + 1)) Hx11 < m7 i9 Hx8) → R10 Hx11) →
 ∃ (I12 : Int → Hp → Prop) (m13 : Int → Hp → Nat), I12 i9 Hx8 ∧ ∀ j15 : Int, ∀ Hx14 : Hp, I12 j15 Hx14 →
 (bif (decide ((j15 : Int) > a4)) then
 idxA dataP1 dataL2 j15 1 fun el16 =>
 ldI .i64 el16 Hx14 fun t17 =>
 idxA dataP1 dataL2 (IntKind.i64.wrap (j15 - 1)) 1 fun el18 =>
 ldI .i64 el18 Hx14 fun t19 =>
 hcall PR f_cmp_Less_int ⟨[(.int .i64 t17), (.int .i64 t19)]⟩ Hx14 fun v20 Hx21 =>
 asB v20 fun t22 =>
 (bif t22 then
 idxA dataP1 dataL2 (IntKind.i64.wrap (j15 - 1)) 1 fun el23 =>
 ldI .i64 el23 Hx21 fun t24 =>
 idxA dataP1 dataL2 j15 1 fun el25 =>
 ldI .i64 el25 Hx21 fun t26 =>
 idxA dataP1 dataL2 j15 1 fun el27 =>
 st el27 (.int .i64 t24) Hx21 fun Hx28 =>
 idxA dataP1 dataL2 (IntKind.i64.wrap (j15 - 1)) 1 fun el29 =>
 st el29 (.int .i64 t26) Hx28 fun Hx30 =>
 I12 (IntKind.i64.wrap (j15 - 1)) Hx30 ∧ m13 (IntKind.i64.wrap (j15 - 1)) Hx30 < m13 j15 Hx14
else
 R10 Hx21)
else
 R10 Hx14)
else
 K (.tuple #[]) Hx8)
theorem E_slices_insertionSortOrdered_int (dataP1 : Option Addr) (dataL2 : Nat) (dataC3 : Nat) (a4 : Int) (b5 : Int) (H : Hp) (K : Value → Hp → Prop) : B_slices_insertionSortOrdered_int dataP1 dataL2 dataC3 a4 b5 H K = denF Try.prog Try.f123 (.seq none .n (.sub (.loop ⟨[(6, .int .i64)], [0, 1, 2]⟩ (.seq none .n (.seq (some ⟨[], [0, 1, 2, 6]⟩) (.sub (.seq none .n (.sub (.loop ⟨[(7, .int .i64)], [0, 1, 2, 6]⟩ .n)))) .n))))) [(.slice dataP1 dataL2 dataC3), (.int .i64 a4), (.int .i64 b5)] H K := by kernel_rfl
theorem den_slices_insertionSortOrdered_int {dataP1 : Option Addr} {dataL2 : Nat} {dataC3 : Nat} {a4 : Int} {b5 : Int} {H : Hp} {K : Value → Hp → Prop} (h : B_slices_insertionSortOrdered_int dataP1 dataL2 dataC3 a4 b5 H K) : hcall PR f_slices_insertionSortOrdered_int ⟨[(.slice dataP1 dataL2 dataC3), (.int .i64 a4), (.int .i64 b5)]⟩ H K := denF_call Try.func123 PR_mixed (Eq.mp (E_slices_insertionSortOrdered_int dataP1 dataL2 dataC3 a4 b5 H K) h)

end Go.Proofs.Ytknejebggegfjaa

namespace Go.Proofs.Ytknejebggegfjaa
open Go
set_option linter.unusedVariables false
set_option maxRecDepth 100000
def B_cmp_Less_int (x1 : Int) (y2 : Int) (H : Hp) (K : Value → Hp → Prop) : Prop :=
 hcall PR f_cmp_isNaN_int ⟨[(.int .i64 x1)]⟩ H fun v3 Hx4 =>
 asB v3 fun t5 =>
 (bif t5 then
 hcall PR f_cmp_isNaN_int ⟨[(.int .i64 y2)]⟩ Hx4 fun v6 Hx7 =>
 asB v6 fun t8 =>
 (bif (!t8) then
 K (.bool true) Hx7
else
 K (.bool (decide ((x1 : Int) < y2))) Hx7)
else
 K (.bool (decide ((x1 : Int) < y2))) Hx4)
theorem E_cmp_Less_int (x1 : Int) (y2 : Int) (H : Hp) (K : Value → Hp → Prop) : B_cmp_Less_int x1 y2 H K = denF Try.prog Try.f129 .n [(.int .i64 x1), (.int .i64 y2)] H K := by kernel_rfl
theorem den_cmp_Less_int {x1 : Int} {y2 : Int} {H : Hp} {K : Value → Hp → Prop} (h : B_cmp_Less_int x1 y2 H K) : hcall PR f_cmp_Less_int ⟨[(.int .i64 x1), (.int .i64 y2)]⟩ H K := denF_call Try.func129 PR_mixed (Eq.mp (E_cmp_Less_int x1 y2 H K) h)

def B_cmp_isNaN_int (x1 : Int) (H : Hp) (K : Value → Hp → Prop) : Prop :=
 K (.bool ((x1 : Int) != x1)) H
theorem E_cmp_isNaN_int (x1 : Int) (H : Hp) (K : Value → Hp → Prop) : B_cmp_isNaN_int x1 H K = denF Try.prog Try.f136 .n [(.int .i64 x1)] H K := by kernel_rfl
theorem den_cmp_isNaN_int {x1 : Int} {H : Hp} {K : Value → Hp → Prop} (h : B_cmp_isNaN_int x1 H K) : hcall PR f_cmp_isNaN_int ⟨[(.int .i64 x1)]⟩ H K := denF_call Try.func136 PR_mixed (Eq.mp (E_cmp_isNaN_int x1 H K) h)

end Go.Proofs.Ytknejebggegfjaa

namespace Go.Proofs.Ytknejebggegfjaa
open Go
set_option linter.unusedVariables false
set_option maxRecDepth 100000
def B_math_bits_Len (x1 : Int) (H : Hp) (K : Value → Hp → Prop) : Prop :=
 hcall PR f_math_bits_Len64 ⟨[(.int .u64 x1)]⟩ H fun v2 Hx3 =>
 asI .i64 v2 fun t4 =>
 K (.int .i64 t4) Hx3
theorem E_math_bits_Len (x1 : Int) (H : Hp) (K : Value → Hp → Prop) : B_math_bits_Len x1 H K = denF Try.prog Try.f94 .n [(.int .u64 x1)] H K := by kernel_rfl
theorem den_math_bits_Len {x1 : Int} {H : Hp} {K : Value → Hp → Prop} (h : B_math_bits_Len x1 H K) : hcall PR f_math_bits_Len ⟨[(.int .u64 x1)]⟩ H K := denF_call Try.func94 PR_mixed (Eq.mp (E_math_bits_Len x1 H K) h)

def B_math_bits_Len64 (x1 : Int) (H : Hp) (K : Value → Hp → Prop) : Prop :=
 ∀ R2 : Int → Int → Hp → Prop, (∀ x4 : Int, ∀ n5 : Int, ∀ Hx3 : Hp, (
 ∀ R6 : Int → Int → Hp → Prop, (∀ x8 : Int, ∀ n9 : Int, ∀ Hx7 : Hp, (
 ∀ R10 : Int → Int → Hp → Prop, (∀ x12 : Int, ∀ n13 : Int, ∀ Hx11 : Hp, (
 idxStr ⟨#[0, 1, 2, 2, 3, 3, 3, 3, 4, 4, 4, 4, 4, 4, 4, 4, 5, 5, 5, 5, 5, 5, 5, 5, 5, 5, 5, 5, 5, 5, 5, 5, 6, 6, 6, 6, 6, 6, 6, 6, 6, 6, 6, 6, 6, 6, 6, 6, 6, 6, 6, 6, 6, 6, 6, 6, 6, 6, 6, 6, 6, 6, 6, 6, 7, 7, 7, 7, 7, 7, 7, 7, 7, 7, 7, 7, 7, 7, 7, 7, 7, 7, 7, 7, 7, 7, 7, 7, 7, 7, 7, 7, 7, 7, 7, 7, 7, 7, 7, 7, 7, 7, 7, 7, 7, 7, 7, 7, 7, 7, 7, 7, 7, 7, 7, 7, 7, 7, 7, 7, 7, 7, 7, 7, 7, 7, 7, 7, 8, 8, 8, 8, 8, 8, 8, 8, 8, 8, 8, 8, 8, 8, 8, 8, 8, 8, 8, 8, 8, 8, 8, 8, 8, 8, 8, 8, 8, 8, 8, 8, 8, 8, 8, 8, 8, 8, 8, 8, 8, 8, 8, 8, 8, 8, 8, 8, 8, 8, 8, 8, 8, 8, 8, 8, 8, 8, 8, 8, 8, 8, 8, 8, 8, 8, 8, 8, 8, 8, 8, 8, 8, 8, 8, 8, 8, 8, 8, 8, 8, 8, 8, 8, 8, 8, 8, 8, 8, 8, 8, 8, 8, 8, 8, 8, 8, 8, 8, 8, 8, 8, 8, 8, 8, 8, 8, 8, 8, 8, 8, 8, 8, 8, 8, 8, 8, 8, 8, 8, 8, 8, 8, 8, 8, 8, 8, 8]⟩ (IntKind.u8.wrap x12) fun t14 =>
 K (.int .i64 (IntKind.i64.wrap (n13 + (IntKind.i64.wrap t14)))) Hx11) → R10 x12 n13 Hx11) →
 (bif (decide ((x8 : Int) ≥ 256)) then
 (0 : Int) ≤ 8 ∧
 R10 (shrI .u64 x8 8) (IntKind.i64.wrap (n9 + 8)) Hx7
else
 R10 x8 n9 Hx7)) → R6 x8 n9 Hx7) →
 (bif (decide ((x4 : Int) ≥ 65536)) then
 (0 : Int) ≤ 16 ∧
 R6 (shrI .u64 x4 16) (IntKind.i64.wrap (n5 + 16)) Hx3
else
 R6 x4 n5 Hx3)) → R2 x4 n5 Hx3) →
 (bif (decide ((x1 : Int) ≥ 4294967296)) then
 (0 : Int) ≤ 32 ∧
 R2 (shrI .u64 x1 32) 32 H
else
 R2 x1 0 H)
theorem E_math_bits_Len64 (x1 : Int) (H : Hp) (K : Value → Hp → Prop) : B_math_bits_Len64 x1 H K = denF Try.prog Try.f112 (.seq none .n (.seq (some ⟨[(0, .int .u64), (2, .int .i64)], []⟩) .n (.seq (some ⟨[(0, .int .u64), (2, .int .i64)], []⟩) .n (.seq (some ⟨[(0, .int .u64), (2, .int .i64)], []⟩) .n .n)))) [(.int .u64 x1)] H K := by kernel_rfl
theorem den_math_bits_Len64 {x1 : Int} {H : Hp} {K : Value → Hp → Prop} (h : B_math_bits_Len64 x1 H K) : hcall PR f_math_bits_Len64 ⟨[(.int .u64 x1)]⟩ H K := denF_call Try.func112 PR_mixed (Eq.mp (E_math_bits_Len64 x1 H K) h)

end Go.Proofs.Ytknejebggegfjaa

namespace Go.Proofs.Ytknejebggegfjaa
set_option linter.unusedSimpArgs false
set_option linter.unusedVariables false
open Go
/-- A reference. -/
structure Id where
  n : Int
  s : Int
instance : DecidableEq Id := fun a b => decidable_of_iff (a.n = b.n ∧ a.s = b.s) ⟨fun h => by cases a; cases b; simp_all, fun h => by rw [h]; exact ⟨rfl, rfl⟩⟩
abbrev noId : Id := ⟨0, 0⟩
def Id.cells (x : Id) : List Value := [.int .i64 x.n, .int .u64 x.s]
theorem Id.len (x : Id) : x.cells.length = 2 := rfl
theorem id_ints : intsOf PR ty_api_ID = some [.i64, .u64] := by kernel_rfl
theorem id_guard : PR.eqGuardType PR.depth ty_api_ID = false := by kernel_rfl
theorem idEq {H : Hp} {a b c d : Int} {Q : Value → Prop} (hQ : Q (.bool (decide ((⟨a, b⟩ : Id) = ⟨c, d⟩)))) : evR PR (aggEq .eql ty_api_ID #[.int .i64 a, .int .u64 b] #[.int .i64 c, .int .u64 d]) H Q := by
  refine aggEq_ints (ks := [.i64, .u64]) (ns := [a, b]) (ms := [c, d]) id_ints id_guard rfl rfl ?_
  rw [show decide ([a, b] = [c, d]) = decide ((⟨a, b⟩ : Id) = ⟨c, d⟩) by simp]
  exact hQ
theorem idNe {H : Hp} {a b c d : Int} {Q : Value → Prop} (hQ : Q (.bool (!decide ((⟨a, b⟩ : Id) = ⟨c, d⟩)))) : evR PR (aggEq .neq ty_api_ID #[.int .i64 a, .int .u64 b] #[.int .i64 c, .int .u64 d]) H Q := by
  refine aggNe_ints (ks := [.i64, .u64]) (ns := [a, b]) (ms := [c, d]) id_ints id_guard rfl rfl ?_
  rw [show decide ([a, b] = [c, d]) = decide ((⟨a, b⟩ : Id) = ⟨c, d⟩) by simp]
  exact hQ

theorem wrap_u64' {n : Int} (h0 : 0 ≤ n) (h1 : n < 18446744073709551616) : IntKind.u64.wrap n = n := by rw [wrap_u64]; omega
/-! ## Stores in a row -/
def sts (b o : Nat) : List Value → Hp → (Hp → Prop) → Prop
  | [], H, K => K H
  | v :: vs, H, K => st ⟨b, o, none⟩ v H fun H' => sts b (o + 1) vs H' K
def setsA (c : Array Value) : Nat → List Value → Array Value
  | _, [] => c
  | o, v :: vs => setsA (c.setIfInBounds o v) (o + 1) vs
theorem setsA_get : ∀ {vs : List Value} {c : Array Value} {o i : Nat}, o + vs.length ≤ c.size → (setsA c o vs)[i]? = if o ≤ i ∧ i < o + vs.length then vs[i - o]? else c[i]?
  | [], c, o, i, h => by simp [setsA]; omega
  | v :: vs, c, o, i, h => by
    unfold setsA
    simp only [List.length_cons] at h
    rw [setsA_get (by simp; omega)]
    simp only [List.length_cons]
    by_cases h1 : o + 1 ≤ i ∧ i < o + 1 + vs.length
    · rw [if_pos h1, if_pos (by omega), show i - o = (i - (o + 1)) + 1 by omega, List.getElem?_cons_succ]
    · rw [if_neg h1, Array.getElem?_setIfInBounds]
      by_cases h2 : o = i
      · subst h2
        rw [if_pos rfl, if_pos (by omega), if_pos (by omega), Nat.sub_self]
        rfl
      · rw [if_neg h2, if_neg (by omega)]
theorem setsA_all {vs : List Value} {c : Array Value} (h : vs.length = c.size) : setsA c 0 vs = vs.toArray := by
  apply Array.ext_getElem?
  intro i
  rw [setsA_get (by omega)]
  by_cases hi : i < vs.length
  · rw [if_pos (by omega)]; simp
  · rw [if_neg (by omega), Array.getElem?_eq_none (by omega), Array.getElem?_eq_none (by simp; omega)]

section
variable {H0 H : Hp} {L M : List Prt} {i : Nat}
theorem St.sets {b : Nat} {e : TypeId} {K : Hp → Prop} : ∀ {vs : List Value} {c : Array Value} {o : Nat} {H : Hp} {L : List Prt}, St H0 L H → L[i]? = some (Prt.one b (.cells c e (0, 0))) → o + vs.length ≤ c.size →
    (∀ H', St H0 (L.set i (Prt.one b (.cells (setsA c o vs) e (0, 0)))) H' → K H') → sts b o vs H K
  | [], c, o, H, L, h, hi, hl, hK => hK H (by unfold setsA; rw [List.set_self hi]; exact h)
  | v :: vs, c, o, H, L, h, hi, hl, hK => by
    unfold sts
    simp only [List.length_cons] at hl
    have hil := ltOfGet hi
    refine h.put hi (by omega) fun H1 h1 => St.sets (o := o + 1) h1 (by simp [hil]; rfl) (by simp; omega) fun H2 h2 => hK H2 ?_
    rw [List.set_set] at h2
    exact h2
/-- A new block, all of it stored. -/
theorem boxs {T : TypeId} {c vs : List Value} {K : Nat → Hp → Prop} (h : St H0 L H) (hl : vs.length = c.length) (hK : ∀ b H', St H0 (Prt.one b (.cells vs.toArray T (0, 0)) :: L) H' → K b H') :
    newB (.cells c.toArray T) H fun b H1 => sts b 0 vs H1 (K b) := by
  intro b hb
  have h1 := h.alloc (o := .cells c.toArray T) hb
  refine St.sets (i := 0) h1 rfl (by simp [hl]) fun H2 h2 => hK b H2 ?_
  rw [setsA_all (by simp [hl])] at h2
  exact h2
end
section
variable {H0 H : Hp} {L M : List Prt} {i j : Nat}
theorem St.shutExN {α : Type} {A : α → List Prt} {L' N : List Prt} {B : Prt} (x : α) (h : St H0 (N ++ (A x ++ L'.set i .nil)) H) (hi : L'[i]? = some B) : St H0 (N ++ L'.set i (Prt.ex fun x => Prt.list (A x))) H := by
  have hlt : i < L'.length := by
    rcases Nat.lt_or_ge i L'.length with h | h
    · exact h
    · rw [List.getElem?_eq_none h] at hi; cases hi
  have h1 : St H0 (A x ++ (L' ++ N).set i .nil) H := by
    rw [List.set_append_left _ _ hlt]
    refine h.perm (List.perm_append_comm.trans ?_)
    rw [List.append_assoc]
  have h2 := St.shutEx (L' := L' ++ N) x h1 (B := B) (by rw [List.getElem?_append_left hlt]; exact hi)
  rw [List.set_append_left _ _ hlt] at h2
  exact h2.perm List.perm_append_comm
/-- A part is given up. -/
theorem St.void {A : Prt} (h : St H0 L H) (hi : L[i]? = some A) : St H0 (L.set i .nil) H := by
  obtain ⟨Fi, ha, up⟩ := h.at hi
  exact up .nil Nothing H (fun _ h => h) ((Goes.refl Fi H).less fun c h => h.elim)
/-- A new part takes an old one's place. -/
theorem St.over {A B : Prt} (h : St H0 (B :: L) H) (hi : L[i]? = some A) : St H0 (L.set i B) H := by
  have h1 := St.void (i := i + 1) h hi
  have h2 := St.shutAt (L := L.set i .nil) (i := i) h1 (set_nil_get hi)
  rwa [List.set_set] at h2
end
/-! ## Rising lists -/
def put1 (x : Int) : List Int → List Int
  | [] => [x]
  | y :: l => if x ≤ y then x :: y :: l else y :: put1 x l
def rise1 : List Int → List Int
  | [] => []
  | x :: l => put1 x (rise1 l)
theorem put1_perm {x : Int} : ∀ {l : List Int}, (put1 x l).Perm (x :: l)
  | [] => List.Perm.refl _
  | y :: l => by
    unfold put1
    split
    · exact List.Perm.refl _
    · exact ((put1_perm (l := l)).cons y).trans (List.Perm.swap x y l)
theorem rise1_perm : ∀ {l : List Int}, (rise1 l).Perm l
  | [] => List.Perm.refl _
  | x :: l => put1_perm.trans (rise1_perm.cons x)
theorem put1_rise {x : Int} : ∀ {l : List Int}, l.Pairwise (· ≤ ·) → (put1 x l).Pairwise (· ≤ ·)
  | [], _ => by simp [put1]
  | y :: l, h => by
    unfold put1
    rw [List.pairwise_cons] at h
    split
    · rename_i hxy
      refine List.pairwise_cons.2 ⟨fun z hz => ?_, List.pairwise_cons.2 h⟩
      rcases List.mem_cons.1 hz with rfl | hz
      · exact hxy
      · have := h.1 z hz; omega
    · rename_i hxy
      refine List.pairwise_cons.2 ⟨fun z hz => ?_, put1_rise h.2⟩
      rcases List.mem_cons.1 (put1_perm.mem_iff.1 hz) with rfl | hz
      · omega
      · exact h.1 z hz
theorem rise1_rise : ∀ {l : List Int}, (rise1 l).Pairwise (· ≤ ·)
  | [] => List.Pairwise.nil
  | x :: l => put1_rise rise1_rise
theorem rise_eq : ∀ {l m : List Int}, l.Perm m → l.Pairwise (· ≤ ·) → m.Pairwise (· ≤ ·) → l = m
  | [], m, hp, _, _ => (List.nil_perm.1 hp).symm
  | a :: l, [], hp, _, _ => by have := hp.length_eq; simp at this
  | a :: l, b :: m, hp, hl, hm => by
    rw [List.pairwise_cons] at hl hm
    have e : a = b := by
      have h1 : a ∈ b :: m := hp.mem_iff.1 (by simp)
      have h2 : b ∈ a :: l := hp.mem_iff.2 (by simp)
      rcases List.mem_cons.1 h1 with h1 | h1
      · exact h1
      · rcases List.mem_cons.1 h2 with h2 | h2
        · exact h2.symm
        · have := hl.1 b h2
          have := hm.1 a h1
          omega
    subst e
    rw [rise_eq ((List.perm_cons a).1 hp) hl.2 hm.2]
theorem rise_is {l m : List Int} (hp : m.Perm l) (hm : m.Pairwise (· ≤ ·)) : m = rise1 l := rise_eq (hp.trans rise1_perm.symm) hm rise1_rise

/-! ## slices.Sort of few ints -/
/-- Inserting goes on: all but the one at j stand in order. -/
structure Ins (l0 l : List Int) (i j : Nat) : Prop where
  perm : l.Perm l0
  hole : ∀ a b : Nat, a < b → b ≤ i → a ≠ j → b ≠ j → l.getD a 0 ≤ l.getD b 0
  above : ∀ b : Nat, j < b → b ≤ i → l.getD j 0 ≤ l.getD b 0
def Up (l : List Int) (i : Nat) : Prop := ∀ a b : Nat, a < b → b < i → l.getD a 0 ≤ l.getD b 0
theorem getD_set {l : List Int} {k a : Nat} {v : Int} (hk : k < l.length) : (l.set k v).getD a 0 = if a = k then v else l.getD a 0 := by
  rw [List.getD_eq_getElem?_getD, List.getElem?_set, List.getD_eq_getElem?_getD]
  by_cases e : k = a
  · subst e; rw [if_pos rfl, if_pos hk, if_pos rfl]; rfl
  · rw [if_neg e, if_neg (Ne.symm e)]
theorem swap_get {l : List Int} {j a : Nat} (hj : j + 1 < l.length) : ((l.set (j + 1) (l.getD j 0)).set j (l.getD (j + 1) 0)).getD a 0 = if a = j then l.getD (j + 1) 0 else if a = j + 1 then l.getD j 0 else l.getD a 0 := by
  rw [getD_set (by simp; omega), getD_set (by omega)]
theorem swap_perm {l : List Int} {j : Nat} (hj : j + 1 < l.length) : ((l.set (j + 1) (l.getD j 0)).set j (l.getD (j + 1) 0)).Perm l := by
  have e1 : l = l.take j ++ l.getD j 0 :: l.getD (j + 1) 0 :: l.drop (j + 2) := by
    have h1 : l.getD j 0 = l[j] := by rw [List.getD_eq_getElem?_getD, List.getElem?_eq_getElem (by omega)]; rfl
    have h2 : l.getD (j + 1) 0 = l[j + 1] := by rw [List.getD_eq_getElem?_getD, List.getElem?_eq_getElem hj]; rfl
    rw [h1, h2, List.getElem_cons_drop, List.getElem_cons_drop, List.take_append_drop]
  have hl : (l.take j).length = j := by rw [List.length_take]; omega
  generalize ha : l.getD j 0 = a at *
  generalize hb : l.getD (j + 1) 0 = b at *
  have e2 : (l.set (j + 1) a).set j b = l.take j ++ b :: a :: l.drop (j + 2) := by
    conv => lhs; rw [e1]
    rw [List.set_append_right (j + 1) a (by omega), hl, Nat.add_sub_cancel_left, List.set_append_right j b (by omega), hl, Nat.sub_self]
    rfl
  rw [e2]
  conv => rhs; rw [e1]
  exact List.Perm.append_left _ (List.Perm.swap a b _)

section
variable {H0 H : Hp} {L M : List Prt} {i : Nat}
theorem lessC {x y : Int} {K : Value → Hp → Prop} (hK : K (.bool (decide (x < y))) H) : hcall PR f_cmp_Less_int ⟨[.int .i64 x, .int .i64 y]⟩ H K := by
  apply den_cmp_Less_int
  unfold B_cmp_Less_int
  apply den_cmp_isNaN_int
  unfold B_cmp_isNaN_int
  (try simp only [asI_mk', asB_mk, asP_mk, asA_mk, asM_mk, asSl_mk, asStr_mk, tup2_mk, tup3_mk, agg1_mk, agg2_mk, agg3_mk, agg4_mk, asAggm, unCons_mk, unNil_mk, asTup_mk, extractD0, extractD1, List.toList_toArray, nilP_mk, add_mk, Nat.zero_add, Nat.add_zero, condT, condF, Bool.not_true, Bool.not_false, Option.isNone_some, Option.isNone_none])
  rw [show (x != x) = false by simp]
  (try simp only [asI_mk', asB_mk, asP_mk, asA_mk, asM_mk, asSl_mk, asStr_mk, tup2_mk, tup3_mk, agg1_mk, agg2_mk, agg3_mk, agg4_mk, asAggm, unCons_mk, unNil_mk, asTup_mk, extractD0, extractD1, List.toList_toArray, nilP_mk, add_mk, Nat.zero_add, Nat.add_zero, condT, condF, Bool.not_true, Bool.not_false, Option.isNone_some, Option.isNone_none])
  exact hK
theorem insC {p : Option Addr} {n cap : Nat} {l : List Int} {K : Value → Hp → Prop} (h : St H0 L H) (hi : L[i]? = some (Prt.row 1 p n cap (l.map (Value.int .i64)))) (hn : n < 4611686018427387904)
    (hK : ∀ H', St H0 (L.set i (Prt.row 1 p n cap ((rise1 l).map (Value.int .i64)))) H' → K (.tuple #[]) H') : hcall PR f_slices_insertionSortOrdered_int ⟨[.slice p n cap, .int .i64 0, .int .i64 n]⟩ H K := by
  have hln : l.length = n := by have := (h.row_own hi).len1; simpa using this
  have hil := ltOfGet hi
  apply den_slices_insertionSortOrdered_int
  unfold B_slices_insertionSortOrdered_int
  refine ⟨fun t H' => ∃ (y : Nat) (m : List Int), t = ((y + 1 : Nat) : Int) ∧ (y ≤ n) ∧ m.Perm l ∧ Up m (y + 1) ∧ St H0 (L.set i (Prt.row 1 p n cap (m.map (Value.int .i64)))) H', fun t _ => ((n : Int) - t + 1).toNat, ⟨0, l, rfl, by omega, List.Perm.refl _, fun a b h1 h2 => by omega, by rw [List.set_self hi]; exact h⟩, ?_⟩
  rintro t H1 ⟨y, m, rfl, hy, hp, hup, h1⟩
  by_cases hc : ((y + 1 : Nat) : Int) < (n : Int)
  rotate_left
  · refine bif_neg hc (hK H1 ?_)
    have hm : m = rise1 l := by
      refine rise_is hp ?_
      rw [List.pairwise_iff_getElem]
      intro a b ha hb hab
      have hlm := hp.length_eq
      have := hup a b hab (by omega)
      rw [List.getD_eq_getElem?_getD, List.getD_eq_getElem?_getD, List.getElem?_eq_getElem ha, List.getElem?_eq_getElem hb] at this
      exact this
    rw [← hm]
    exact h1
  refine bif_pos hc ?_
  intro R10 hR10
  have hR10 : ∀ (m : List Int) H', m.Perm l → Up m (y + 2) → St H0 (L.set i (Prt.row 1 p n cap (m.map (Value.int .i64)))) H' → R10 H' := fun m H' h1 h2 h3 => by
    refine hR10 H' ?_
    rw [wrap_i64 (by omega) (by omega)]
    exact ⟨⟨y + 1, m, by omega, by omega, h1, h2, h3⟩, by (try dsimp only); omega⟩
  refine ⟨fun t H' => ∃ (j : Nat) (m : List Int), t = j ∧ j ≤ y + 1 ∧ Ins l m (y + 1) j ∧ St H0 (L.set i (Prt.row 1 p n cap (m.map (Value.int .i64)))) H', fun t _ => t.toNat, ⟨y + 1, m, rfl, by omega, ⟨hp, fun a b h1 h2 h3 h4 => hup a b h1 (by omega), fun b h1 h2 => by omega⟩, h1⟩, ?_⟩
  clear h1 hup hp
  clear m
  rintro t H2 ⟨j, m, rfl, hj, hins, h2⟩
  have hlm := hins.perm.length_eq
  by_cases hcj : (j : Int) > 0
  rotate_left
  · refine bif_neg hcj (hR10 m H2 hins.perm (fun a b h1 h2 => ?_) h2)
    by_cases ea : a = j
    · subst ea; exact hins.above b h1 (by omega)
    · exact hins.hole a b h1 (by omega) ea (by omega)
  obtain ⟨j, rfl⟩ : ∃ j', j = j' + 1 := ⟨j - 1, by omega⟩
  have hset : (L.set i (Prt.row 1 p n cap (m.map (Value.int .i64))))[i]? = some (Prt.row 1 p n cap (m.map (Value.int .i64))) := by simp [hil]
  have wj : IntKind.i64.wrap (((j + 1 : Nat) : Int) - 1) = (j : Int) := by rw [wrap_i64 (by omega) (by omega)]; omega
  have rd : ∀ (k : Nat) (Q : Addr → Prop), k < n → (∀ a, hcell H2 a = some (.int .i64 (m.getD k 0)) → Q a) → idxA p n (k : Int) 1 Q := fun k Q hk hQ => by
    refine idx1 (d := (0 : Int)) (h2.row_rd hset) (by omega) (by omega) fun b o _ hcl => hQ _ ?_
    rw [hcl, Int.toNat_natCast]
  refine bif_pos hcj ?_
  rw [wj]
  refine rd (j + 1) _ (by omega) fun a1 c1 => ldI_of c1 (rd j _ (by omega) fun a2 c2 => ldI_of c2 (lessC ?_))
  (try simp only [asI_mk', asB_mk, asP_mk, asA_mk, asM_mk, asSl_mk, asStr_mk, tup2_mk, tup3_mk, agg1_mk, agg2_mk, agg3_mk, agg4_mk, asAggm, unCons_mk, unNil_mk, asTup_mk, extractD0, extractD1, List.toList_toArray, nilP_mk, add_mk, Nat.zero_add, Nat.add_zero, condT, condF, Bool.not_true, Bool.not_false, Option.isNone_some, Option.isNone_none])
  by_cases hlt : m.getD (j + 1) 0 < m.getD j 0
  rotate_left
  · refine bif_neg hlt (hR10 m H2 hins.perm (fun a b h1 h2' => ?_) h2)
    by_cases ea : a = j + 1
    · subst ea; exact hins.above b h1 (by omega)
    · by_cases eb : b = j + 1
      · subst eb
        by_cases ej : a = j
        · subst ej; omega
        · have := hins.hole a j (by omega) (by omega) ea (by omega)
          omega
      · exact hins.hole a b h1 (by omega) ea eb
  refine bif_pos hlt (rd j _ (by omega) fun a3 c3 => ldI_of c3 (rd (j + 1) _ (by omega) fun a4 c4 => ldI_of c4 ?_))
  refine idxA_of (h2.row_rd hset) (by omega) (by omega) fun b o hpp _ => ?_
  simp only [Int.toNat_natCast]
  refine h2.poke (j := (j + 1) * 1) hset hpp (by omega) fun H3 h3 => ?_
  rw [List.set_set] at h3
  have hset3 : (L.set i (Prt.row 1 p n cap ((m.map (Value.int .i64)).set ((j + 1) * 1) (.int .i64 (m.getD j 0)))))[i]? = some (Prt.row 1 p n cap ((m.map (Value.int .i64)).set ((j + 1) * 1) (.int .i64 (m.getD j 0)))) := by simp [hil]
  refine idxA_of (h3.row_rd hset3) (by omega) (by omega) fun b' o' hpp' _ => ?_
  obtain ⟨rfl, rfl⟩ : b = b' ∧ o = o' := by rw [hpp] at hpp'; simpa using hpp'
  simp only [Int.toNat_natCast]
  refine h3.poke (j := j * 1) hset3 hpp (by omega) fun H4 h4 => ?_
  rw [List.set_set, Nat.mul_one, Nat.mul_one, ← List.map_set, ← List.map_set] at h4
  refine ⟨⟨j, (m.set (j + 1) (m.getD j 0)).set j (m.getD (j + 1) 0), rfl, by omega, ⟨(swap_perm (by omega)).trans hins.perm, fun a b h1 h2' h3' h4' => ?_, fun b h1 h2' => ?_⟩, h4⟩, by (try dsimp only); omega⟩
  · rw [swap_get (a := a) (by omega), swap_get (a := b) (by omega), if_neg h3', if_neg h4']
    by_cases ea : a = j + 1
    · rw [if_pos ea, if_neg (by omega)]
      exact hins.hole j b (by omega) h2' (by omega) (by omega)
    · rw [if_neg ea]
      by_cases eb : b = j + 1
      · rw [if_pos eb]
        exact hins.hole a j (by omega) (by omega) ea (by omega)
      · rw [if_neg eb]
        exact hins.hole a b h1 h2' ea eb
  · rw [swap_get (a := j) (by omega), swap_get (a := b) (by omega), if_pos rfl, if_neg (by omega)]
    by_cases eb : b = j + 1
    · rw [if_pos eb]; omega
    · rw [if_neg eb]
      exact hins.above b (by omega) h2'
set_option maxRecDepth 100000 in
theorem bitsLen_small {n : Nat} {K : Value → Hp → Prop} (hn : n ≤ 12) (hK : ∀ n : Int, K (.int .i64 n) H) : hcall PR f_math_bits_Len ⟨[.int .u64 (n : Int)]⟩ H K := by
  apply den_math_bits_Len
  unfold B_math_bits_Len
  apply den_math_bits_Len64
  unfold B_math_bits_Len64
  intro R2 hR2
  refine bif_neg (by omega) (hR2 _ _ _ ?_)
  intro R6 hR6
  refine bif_neg (by omega) (hR6 _ _ _ ?_)
  intro R10 hR10
  refine bif_neg (by omega) (hR10 _ _ _ ?_)
  have : n = 0 ∨ n = 1 ∨ n = 2 ∨ n = 3 ∨ n = 4 ∨ n = 5 ∨ n = 6 ∨ n = 7 ∨ n = 8 ∨ n = 9 ∨ n = 10 ∨ n = 11 ∨ n = 12 := by omega
  rcases this with rfl | rfl | rfl | rfl | rfl | rfl | rfl | rfl | rfl | rfl | rfl | rfl | rfl
  all_goals
    refine ⟨by decide, ?_⟩
    exact hK _
theorem sortC {p : Option Addr} {n cap : Nat} {l : List Int} {K : Value → Hp → Prop} (h : St H0 L H) (hi : L[i]? = some (Prt.row 1 p n cap (l.map (Value.int .i64)))) (hn : n ≤ 12)
    (hK : ∀ H', St H0 (L.set i (Prt.row 1 p n cap ((rise1 l).map (Value.int .i64)))) H' → K (.tuple #[]) H') : hcall PR f_slices_Sort_Sint_int ⟨[.slice p n cap]⟩ H K := by
  apply den_slices_Sort_Sint_int
  unfold B_slices_Sort_Sint_int
  rw [wrap_u64' (by omega) (by omega)]
  refine bitsLen_small (by omega) fun z => ?_
  (try simp only [asI_mk', asB_mk, asP_mk, asA_mk, asM_mk, asSl_mk, asStr_mk, tup2_mk, tup3_mk, agg1_mk, agg2_mk, agg3_mk, agg4_mk, asAggm, unCons_mk, unNil_mk, asTup_mk, extractD0, extractD1, List.toList_toArray, nilP_mk, add_mk, Nat.zero_add, Nat.add_zero, condT, condF, Bool.not_true, Bool.not_false, Option.isNone_some, Option.isNone_none])
  apply den_slices_pdqsortOrdered_int
  unfold B_slices_pdqsortOrdered_int
  refine ⟨fun a b _ _ _ H' => a = 0 ∧ b = n ∧ H' = H, fun _ _ _ _ _ _ => 0, ⟨rfl, rfl, rfl⟩, ?_⟩
  rintro a b lim wb wp H1 ⟨rfl, rfl, rfl⟩
  rw [wrap_i64 (by omega) (by omega)]
  refine bif_pos (by omega) (insC h hi (by omega) fun H2 h2 => ?_)
  (try simp only [asI_mk', asB_mk, asP_mk, asA_mk, asM_mk, asSl_mk, asStr_mk, tup2_mk, tup3_mk, agg1_mk, agg2_mk, agg3_mk, agg4_mk, asAggm, unCons_mk, unNil_mk, asTup_mk, extractD0, extractD1, List.toList_toArray, nilP_mk, add_mk, Nat.zero_add, Nat.add_zero, condT, condF, Bool.not_true, Bool.not_false, Option.isNone_some, Option.isNone_none])
  exact hK H2 h2
end
end Go.Proofs.Ytknejebggegfjaa

namespace Go.Proofs.Ytknejebggegfjaa
set_option linter.unusedSimpArgs false
set_option linter.unusedVariables false
open Go
/-- An item. -/
structure It where
  inn : Bool
  node : Int
  id : Id
  code : Int
instance : Inhabited It := ⟨⟨false, 0, noId, 0⟩⟩
abbrev noIt : It := ⟨false, 0, noId, 0⟩
def It.cells (x : It) : List Value := [.bool x.inn, .int .i64 x.node, .int .i64 x.id.n, .int .u64 x.id.s, .int .i64 x.code]
theorem It.len (x : It) : x.cells.length = 5 := rfl
/-- The same item, whatever was told of it. -/
def It.same (a b : It) : Bool := (a.inn == b.inn) && decide (a.node = b.node) && decide (a.id = b.id)
/-- A trace. -/
structure Tr where
  node : Int
  num : Int
  found : Int
  st : Int
  items : List It
  sm : List (Int × Int)
  opn : Int
  todo : List Int
  sent : Int
  wait : Int
/-- A question. -/
structure Qn where
  kind : Int
  frm : Int
  to : Int
  call : Int
  op : Int
  item : Int
  tgt : Id
  stamp : Int

def Tr.over (t : Tr) : Tr := { t with st := 0, items := [], sm := [], todo := [], opn := 0, sent := 0, wait := 0 }
def Tr.finds (t : Tr) : Tr := Tr.over { t with found := IntKind.i64.wrap (t.found + 1) }
def Tr.next (t : Tr) : Tr := { t with opn := IntKind.i64.wrap (t.opn + 1), sent := 0, wait := 0 }
def lWait (w a b : Int) : Int := if w = 0 then (if b < a then b else a) else if w > IntKind.u64.wrap (Int.tdiv b 2) then b else IntKind.u64.wrap (2 * w)
def pastB (a s n : Int) : Bool := decide (n ≥ a) && decide (IntKind.u64.wrap (n - a) ≥ s)
def Tr.q (t : Tr) : Qn :=
  if t.st = 1 then ⟨8, t.node, (t.items.getD t.opn.toNat noIt).node, t.num, if (t.items.getD t.opn.toNat noIt).inn then 1 else 2, t.opn, (t.items.getD t.opn.toNat noIt).id, 0⟩
  else if t.st = 2 then ⟨8, t.node, t.todo.getD 0 0, t.num, 3, t.opn, noId, 0⟩
  else ⟨10, t.node, (t.items.getD (t.todo.getD 0 0).toNat noIt).node, t.num, 0, t.opn, (t.items.getD (t.todo.getD 0 0).toNat noIt).id, (mlook t.sm (t.items.getD (t.todo.getD 0 0).toNat noIt).node).getD 0⟩
def Tr.told (t : Tr) (a b now : Int) : Tr := { t with sent := now, wait := lWait t.wait a b }
/-- What an answer leads to. -/
def moreIt (nodes : Int) (x : It) (n : Int) : Option It :=
  if n < 1 then none else if n > 72057594037927935 then none else if x.inn then (if n > nodes then none else if n = x.id.n then none else some ⟨false, n, x.id, 0⟩) else some ⟨true, x.node, ⟨x.node, n⟩, 0⟩
def moreL (nodes : Int) (x : It) : List Int → List It → Bool × List It
  | [], l => (true, l)
  | n :: r, l => match moreIt nodes x n with
    | none => (false, l)
    | some y => if l.any (fun z => z.same y) then moreL nodes x r l else if 1000 ≤ l.length then (false, l) else moreL nodes x r (l ++ [y])
def Tr.onward (t : Tr) : Tr :=
  if (t.next).opn < t.items.length then t.next
  else if t.sm.length = 0 then Tr.finds t.next else { t.next with todo := rise1 (t.sm.map (·.1)), st := 2 }
def Tr.code (t : Tr) (c : Int) : Tr := { t with items := t.items.set t.opn.toNat { t.items.getD t.opn.toNat noIt with code := c } }
def Tr.asked (nodes : Int) (t : Tr) (code stamp : Int) (l : List Int) : Tr :=
  if code = 0 then (t.code 0).onward
  else if code = 2 then
    if (mlook t.sm (t.items.getD t.opn.toNat noIt).node).isSome ∧ (mlook t.sm (t.items.getD t.opn.toNat noIt).node).getD 0 ≠ stamp then t.over
    else if (moreL nodes (t.items.getD t.opn.toNat noIt) l (t.code 2).items).1 = false then t.over
    else Tr.onward { t with items := (moreL nodes (t.items.getD t.opn.toNat noIt) l (t.code 2).items).2, sm := mput t.sm (t.items.getD t.opn.toNat noIt).node stamp }
  else t.over
/-- The items that are to be buried, by place. -/
def buryFrom : Nat → List It → List Int
  | _, [] => []
  | k, x :: l => if x.inn = true ∧ x.code = 2 then (k : Int) :: buryFrom (k + 1) l else buryFrom (k + 1) l
def Tr.checked (t : Tr) (stamp : Int) : Tr :=
  if stamp ≠ (mlook t.sm (t.todo.getD 0 0)).getD 0 then t.over
  else if 1 < t.todo.length then { t.next with todo := t.todo.tail }
  else if (buryFrom 0 t.items).length = 0 then Tr.finds t.next
  else { t.next with todo := buryFrom 0 t.items, st := 3 }
def Tr.buried (t : Tr) : Tr := if t.todo.length ≤ 1 then Tr.finds t.next else { t.next with todo := t.todo.tail }
/-- What is heard. -/
structure Ms where
  kind : Int
  frm : Int
  to : Int
  call : Int
  item : Int
  code : Int
  stamp : Int
  list : List Int
def Tr.heeds (t : Tr) (m : Ms) : Bool := !decide (t.st = 0) && (decide (m.kind = if t.st = 3 then 11 else 9) && (decide (m.call = t.q.call) && (decide (m.item = t.q.item) && (decide (m.frm = t.q.to) && decide (m.to = t.node)))))
def Tr.hear (nodes : Int) (t : Tr) (m : Ms) : Tr :=
  if t.heeds m = false then t else if t.st = 1 then t.asked nodes m.code m.stamp m.list else if t.st = 2 then t.checked m.stamp else t.buried

/-- What holds of a trace. -/
structure Tr.ok (nodes : Int) (t : Tr) : Prop where
  st : 0 ≤ t.st ∧ t.st ≤ 3
  items : t.items.length ≤ 1000
  nds : ∀ x ∈ t.items, 1 ≤ x.node ∧ x.node ≤ nodes
  sm : mnod t.sm
  keys : ∀ e ∈ t.sm, 1 ≤ e.1 ∧ e.1 ≤ nodes
  one : t.st = 1 → 0 ≤ t.opn ∧ t.opn < t.items.length ∧ t.todo = []
  two : t.st = 2 → t.todo ≠ [] ∧ t.todo.length ≤ 64
  three : t.st = 3 → t.todo ≠ [] ∧ t.todo.length ≤ 1000 ∧ ∀ i ∈ t.todo, 0 ≤ i ∧ i < t.items.length
section
variable {nodes : Int} {t : Tr}
theorem Tr.over_ok : t.over.ok nodes := ⟨by simp [Tr.over], by simp [Tr.over], fun x hx => (by cases hx), List.Pairwise.nil, fun e he => (by cases he), fun h => absurd h (by simp [Tr.over]), fun h => absurd h (by simp [Tr.over]), fun h => absurd h (by simp [Tr.over])⟩
theorem Tr.finds_ok : t.finds.ok nodes := Tr.over_ok
theorem mput_in {l : List (Int × Int)} {k v : Int} {e : Int × Int} (h : e ∈ mput l k v) : e = (k, v) ∨ e ∈ l := by
  unfold mput at h
  split at h
  · obtain ⟨a, ha, rfl⟩ := List.mem_map.1 h
    split
    · exact .inl rfl
    · exact .inr ha
  · rcases List.mem_append.1 h with h | h
    · exact .inr h
    · simp at h; exact .inl h
theorem keys_few {l : List (Int × Int)} {k : Nat} (hn : mnod l) (h : ∀ e ∈ l, 1 ≤ e.1 ∧ e.1 ≤ (k : Int)) : l.length ≤ k := by
  induction k generalizing l with
  | zero =>
    cases l with
    | nil => simp
    | cons a l => have := h a (by simp); omega
  | succ k ih =>
    have h1 := ih (l := l.filter fun e => decide (e.1 ≠ ((k + 1 : Nat) : Int))) (by
      unfold mnod at hn ⊢
      exact hn.sublist (List.filter_sublist.map _)) fun e he => by
      rw [List.mem_filter] at he
      have := h e he.1
      have : e.1 ≠ ((k + 1 : Nat) : Int) := by simpa using he.2
      omega
    have h2 : l.length ≤ (l.filter fun e => decide (e.1 ≠ ((k + 1 : Nat) : Int))).length + 1 := by
      clear h1 h ih
      induction l with
      | nil => simp
      | cons a l ih =>
        unfold mnod at hn ih
        rw [List.map_cons, List.nodup_cons] at hn
        by_cases e : a.1 = ((k + 1 : Nat) : Int)
        · rw [List.filter_cons_of_neg (by simpa using e)]
          have : l.filter (fun e => decide (e.1 ≠ ((k + 1 : Nat) : Int))) = l := List.filter_eq_self.2 fun b hb => by
            have : b.1 ≠ a.1 := fun e => hn.1 (e ▸ List.mem_map.2 ⟨b, hb, rfl⟩)
            rw [e] at this
            simpa using this
          rw [this]; simp
        · rw [List.filter_cons_of_pos (by simpa using e)]
          have := ih hn.2
          simp only [List.length_cons]
          omega
    omega
theorem bury_mem : ∀ {l : List It} {k : Nat} {i : Int}, i ∈ buryFrom k l → (k : Int) ≤ i ∧ i < (k : Int) + l.length
  | [], k, i, h => by cases h
  | x :: l, k, i, h => by
    unfold buryFrom at h
    simp only [List.length_cons]
    split at h
    · rcases List.mem_cons.1 h with rfl | h
      · omega
      · have := bury_mem h; omega
    · have := bury_mem h; omega
theorem bury_len : ∀ {l : List It} {k : Nat}, (buryFrom k l).length ≤ l.length
  | [], _ => Nat.le_refl _
  | x :: l, k => by
    unfold buryFrom
    have := bury_len (l := l) (k := k + 1)
    split <;> simp only [List.length_cons] <;> omega
theorem more_ok {x : It} (hx : 1 ≤ x.node ∧ x.node ≤ nodes) : ∀ {r : List Int} {l : List It}, l.length ≤ 1000 → (∀ y ∈ l, 1 ≤ y.node ∧ y.node ≤ nodes) → (moreL nodes x r l).2.length ≤ 1000 ∧ (∀ y ∈ (moreL nodes x r l).2, 1 ≤ y.node ∧ y.node ≤ nodes) ∧ l.length ≤ (moreL nodes x r l).2.length
  | [], l, h1, h2 => ⟨h1, h2, Nat.le_refl _⟩
  | n :: r, l, h1, h2 => by
    unfold moreL
    split
    · exact ⟨h1, h2, Nat.le_refl _⟩
    · rename_i y hy
      split
      · exact more_ok hx h1 h2
      · split
        · exact ⟨h1, h2, Nat.le_refl _⟩
        · have hyn : 1 ≤ y.node ∧ y.node ≤ nodes := by
            unfold moreIt at hy
            split at hy
            · cases hy
            · split at hy
              · cases hy
              · split at hy
                · split at hy
                  · cases hy
                  · split at hy
                    · cases hy
                    · cases hy; exact ⟨by simp only; omega, by simp only; omega⟩
                · cases hy; exact hx
          have := more_ok hx (r := r) (l := l ++ [y]) (by simp; omega) fun z hz => by
            rcases List.mem_append.1 hz with hz | hz
            · exact h2 z hz
            · simp at hz; rw [hz]; exact hyn
          refine ⟨this.1, this.2.1, ?_⟩
          have := this.2.2
          simp at this
          omega
theorem Tr.ok.onward (hn : 1 ≤ nodes ∧ nodes ≤ 12) (h : t.ok nodes) (h1 : t.st = 1) : t.onward.ok nodes := by
  obtain ⟨o1, o2, o3⟩ := h.one h1
  have hi := h.items
  have hw : t.next.opn = t.opn + 1 := by unfold Tr.next; exact wrap_i64 (by omega) (by omega)
  unfold Tr.onward
  split
  · rename_i hlt
    exact ⟨h.st, h.items, h.nds, h.sm, h.keys, fun _ => ⟨by rw [hw]; omega, hlt, o3⟩, fun h2 => absurd h2 (by show ¬ t.st = 2; omega), fun h3 => absurd h3 (by show ¬ t.st = 3; omega)⟩
  · split
    · exact Tr.finds_ok
    · rename_i hs
      have hk := keys_few (k := nodes.toNat) h.sm fun e he => by have := h.keys e he; omega
      have hp := rise1_perm (l := t.sm.map (·.1))
      have hpl := hp.length_eq
      rw [List.length_map] at hpl
      refine ⟨by simp, h.items, h.nds, h.sm, h.keys, fun h2 => absurd h2 (by simp), fun _ => ⟨fun e => ?_, by simp only; omega⟩, fun h3 => absurd h3 (by simp)⟩
      simp only at e
      rw [e] at hpl
      simp at hpl
      omega
theorem Tr.code_ok {c : Int} (h : t.ok nodes) (h1 : t.st = 1) : (t.code c).ok nodes := by
  obtain ⟨o1, o2, o3⟩ := h.one h1
  refine ⟨h.st, by simp [Tr.code]; exact h.items, fun x hx => ?_, h.sm, h.keys, fun _ => ⟨o1, by simp [Tr.code]; omega, o3⟩, fun h2 => absurd h2 (by show ¬ t.st = 2; omega), fun h3 => absurd h3 (by show ¬ t.st = 3; omega)⟩
  unfold Tr.code at hx
  rcases List.mem_or_eq_of_mem_set hx with hx | rfl
  · exact h.nds x hx
  · simp only
    have hm : t.items.getD t.opn.toNat noIt ∈ t.items := by
      rw [List.getD_eq_getElem?_getD, List.getElem?_eq_getElem (by omega)]
      exact List.getElem_mem _
    exact h.nds _ hm
theorem Tr.ok.asked (hn : 1 ≤ nodes ∧ nodes ≤ 12) (h : t.ok nodes) (h1 : t.st = 1) {code stamp : Int} {l : List Int} : (t.asked nodes code stamp l).ok nodes := by
  obtain ⟨o1, o2, o3⟩ := h.one h1
  have hm : t.items.getD t.opn.toNat noIt ∈ t.items := by
    rw [List.getD_eq_getElem?_getD, List.getElem?_eq_getElem (by omega)]
    exact List.getElem_mem _
  have hx := h.nds _ hm
  unfold Tr.asked
  split
  · exact (Tr.code_ok h h1).onward hn h1
  · split
    · split
      · exact Tr.over_ok
      · split
        · exact Tr.over_ok
        · have hc := Tr.code_ok (c := 2) h h1
          have hmo := more_ok hx (r := l) hc.items hc.nds
          have hcl : (t.code 2).items.length = t.items.length := by simp [Tr.code]
          refine Tr.ok.onward hn ⟨h.st, hmo.1, hmo.2.1, mput_nod h.sm _ _, fun e he => ?_, fun _ => ⟨o1, by simp only; omega, o3⟩, fun h2 => absurd h2 (by show ¬ t.st = 2; omega), fun h3 => absurd h3 (by show ¬ t.st = 3; omega)⟩ h1
          rcases mput_in he with rfl | he
          · exact hx
          · exact h.keys e he
    · exact Tr.over_ok
theorem Tr.ok.checked (h : t.ok nodes) (h2 : t.st = 2) {stamp : Int} : (t.checked stamp).ok nodes := by
  obtain ⟨o1, o2⟩ := h.two h2
  unfold Tr.checked
  split
  · exact Tr.over_ok
  · split
    · rename_i hl
      refine ⟨h.st, h.items, h.nds, h.sm, h.keys, fun h3 => absurd h3 (by show ¬ t.st = 1; omega), fun _ => ⟨fun e => ?_, by simp only [List.length_tail]; omega⟩, fun h3 => absurd h3 (by show ¬ t.st = 3; omega)⟩
      have := congrArg List.length e
      simp at this
      omega
    · split
      · exact Tr.finds_ok
      · rename_i hb
        have := bury_len (l := t.items) (k := 0)
        have hi := h.items
        refine ⟨by simp, h.items, h.nds, h.sm, h.keys, fun h3 => absurd h3 (by simp), fun h3 => absurd h3 (by simp), fun _ => ⟨fun e => hb (by rw [show buryFrom 0 t.items = [] from e]; rfl), by simp only; omega, fun i hi => ?_⟩⟩
        have := bury_mem hi
        show 0 ≤ i ∧ i < (t.items.length : Int)
        omega
theorem Tr.ok.buried (h : t.ok nodes) (h3 : t.st = 3) : t.buried.ok nodes := by
  obtain ⟨o1, o2, o3⟩ := h.three h3
  unfold Tr.buried
  split
  · exact Tr.finds_ok
  · rename_i hl
    refine ⟨h.st, h.items, h.nds, h.sm, h.keys, fun h2 => absurd h2 (by show ¬ t.st = 1; omega), fun h2 => absurd h2 (by show ¬ t.st = 2; omega), fun _ => ⟨fun e => ?_, by simp only [List.length_tail]; omega, fun i hi => o3 i (List.mem_of_mem_tail hi)⟩⟩
    have := congrArg List.length e
    simp at this
    omega
theorem Tr.ok.hear (hn : 1 ≤ nodes ∧ nodes ≤ 12) (h : t.ok nodes) {m : Ms} : (t.hear nodes m).ok nodes := by
  unfold Tr.hear
  split
  · exact h
  · rename_i hh
    split
    · rename_i h1; exact h.asked hn h1
    · split
      · rename_i h2; exact h.checked h2
      · rename_i h1 h2
        have h0 : t.st ≠ 0 := fun e => hh (by unfold Tr.heeds; rw [e]; rfl)
        have := h.st
        exact h.buried (by omega)
theorem Tr.ok.told (h : t.ok nodes) {a b now : Int} : (t.told a b now).ok nodes := ⟨h.st, h.items, h.nds, h.sm, h.keys, h.one, h.two, h.three⟩
end
end Go.Proofs.Ytknejebggegfjaa

namespace Go.Proofs.Ytknejebggegfjaa
open Go
set_option linter.unusedVariables false
set_option maxRecDepth 100000
def B_trace_New (cNodes1 : Int) (cMutators2 : Int) (cSlots3 : Int) (cCells4 : Int) (cObjects5 : Int) (cStubs6 : Int) (cCalls7 : Int) (cWindow8 : Int) (cGrey9 : Int) (cBag10 : Int) (cInbox11 : Int) (cUnit12 : Int) (cDrift13 : Int) (cLease14 : Int) (cWait15 : Int) (cMost16 : Int) (cPatience17 : Int) (cSuspect18 : Int) (cTrace19 : Int) (cWork20 : Int) (cStart21 : Int) (cLast22 : Int) (node23 : Int) (last24 : Int) (H : Hp) (K : Value → Hp → Prop) : Prop :=
 newB (.cells #[(.int .i64 cNodes1), (.int .i64 cMutators2), (.int .i64 cSlots3), (.int .i64 cCells4), (.int .i64 cObjects5), (.int .i64 cStubs6), (.int .i64 cCalls7), (.int .i64 cWindow8), (.int .i64 cGrey9), (.int .i64 cBag10), (.int .i64 cInbox11), (.int .u64 cUnit12), (.int .u64 cDrift13), (.int .u64 cLease14), (.int .u64 cWait15), (.int .u64 cMost16), (.int .u64 cPatience17), (.int .i64 cSuspect18), (.int .i64 cTrace19), (.int .i64 cWork20), (.int .u64 cStart21), (.int .u64 cLast22)] ty_api_Config) H fun b25 Hx26 =>
 ldI .i64 ⟨b25, 0, none⟩ Hx26 fun Nodes27 =>
 ldI .i64 ⟨b25, 1, none⟩ Hx26 fun Mutators28 =>
 ldI .i64 ⟨b25, 2, none⟩ Hx26 fun Slots29 =>
 ldI .i64 ⟨b25, 3, none⟩ Hx26 fun Cells30 =>
 ldI .i64 ⟨b25, 4, none⟩ Hx26 fun Objects31 =>
 ldI .i64 ⟨b25, 5, none⟩ Hx26 fun Stubs32 =>
 ldI .i64 ⟨b25, 6, none⟩ Hx26 fun Calls33 =>
 ldI .i64 ⟨b25, 7, none⟩ Hx26 fun Window34 =>
 ldI .i64 ⟨b25, 8, none⟩ Hx26 fun Grey35 =>
 ldI .i64 ⟨b25, 9, none⟩ Hx26 fun Bag36 =>
 ldI .i64 ⟨b25, 10, none⟩ Hx26 fun Inbox37 =>
 ldI .u64 ⟨b25, 11, none⟩ Hx26 fun Unit38 =>
 ldI .u64 ⟨b25, 12, none⟩ Hx26 fun Drift39 =>
 ldI .u64 ⟨b25, 13, none⟩ Hx26 fun Lease40 =>
 ldI .u64 ⟨b25, 14, none⟩ Hx26 fun Wait41 =>
 ldI .u64 ⟨b25, 15, none⟩ Hx26 fun Most42 =>
 ldI .u64 ⟨b25, 16, none⟩ Hx26 fun Patience43 =>
 ldI .i64 ⟨b25, 17, none⟩ Hx26 fun Suspect44 =>
 ldI .i64 ⟨b25, 18, none⟩ Hx26 fun Trace45 =>
 ldI .i64 ⟨b25, 19, none⟩ Hx26 fun Work46 =>
 ldI .u64 ⟨b25, 20, none⟩ Hx26 fun Start47 =>
 ldI .u64 ⟨b25, 21, none⟩ Hx26 fun Last48 =>
 hcall PR f_api_May ⟨[(.agg #[(.int .i64 Nodes27), (.int .i64 Mutators28), (.int .i64 Slots29), (.int .i64 Cells30), (.int .i64 Objects31), (.int .i64 Stubs32), (.int .i64 Calls33), (.int .i64 Window34), (.int .i64 Grey35), (.int .i64 Bag36), (.int .i64 Inbox37), (.int .u64 Unit38), (.int .u64 Drift39), (.int .u64 Lease40), (.int .u64 Wait41), (.int .u64 Most42), (.int .u64 Patience43), (.int .i64 Suspect44), (.int .i64 Trace45), (.int .i64 Work46), (.int .u64 Start47), (.int .u64 Last48)])]⟩ Hx26 fun v49 Hx50 =>
 asB v49 fun t51 =>
 (bif (!t51) then
 K (.tuple #[(.pointer none), (.int .i64 1)]) Hx50
else
 (bif (decide ((node23 : Int) < 1)) then
 K (.tuple #[(.pointer none), (.int .i64 1)]) Hx50
else
 ldI .i64 ⟨b25, 0, none⟩ Hx50 fun Nodes52 =>
 (bif (decide ((node23 : Int) > Nodes52)) then
 K (.tuple #[(.pointer none), (.int .i64 1)]) Hx50
else
 (bif (decide ((last24 : Int) > 72057594037927935)) then
 K (.tuple #[(.pointer none), (.int .i64 1)]) Hx50
else
 ldI .i64 ⟨b25, 0, none⟩ Hx50 fun Nodes53 =>
 ldI .i64 ⟨b25, 1, none⟩ Hx50 fun Mutators54 =>
 ldI .i64 ⟨b25, 2, none⟩ Hx50 fun Slots55 =>
 ldI .i64 ⟨b25, 3, none⟩ Hx50 fun Cells56 =>
 ldI .i64 ⟨b25, 4, none⟩ Hx50 fun Objects57 =>
 ldI .i64 ⟨b25, 5, none⟩ Hx50 fun Stubs58 =>
 ldI .i64 ⟨b25, 6, none⟩ Hx50 fun Calls59 =>
 ldI .i64 ⟨b25, 7, none⟩ Hx50 fun Window60 =>
 ldI .i64 ⟨b25, 8, none⟩ Hx50 fun Grey61 =>
 ldI .i64 ⟨b25, 9, none⟩ Hx50 fun Bag62 =>
 ldI .i64 ⟨b25, 10, none⟩ Hx50 fun Inbox63 =>
 ldI .u64 ⟨b25, 11, none⟩ Hx50 fun Unit64 =>
 ldI .u64 ⟨b25, 12, none⟩ Hx50 fun Drift65 =>
 ldI .u64 ⟨b25, 13, none⟩ Hx50 fun Lease66 =>
 ldI .u64 ⟨b25, 14, none⟩ Hx50 fun Wait67 =>
 ldI .u64 ⟨b25, 15, none⟩ Hx50 fun Most68 =>
 ldI .u64 ⟨b25, 16, none⟩ Hx50 fun Patience69 =>
 ldI .i64 ⟨b25, 17, none⟩ Hx50 fun Suspect70 =>
 ldI .i64 ⟨b25, 18, none⟩ Hx50 fun Trace71 =>
 ldI .i64 ⟨b25, 19, none⟩ Hx50 fun Work72 =>
 ldI .u64 ⟨b25, 20, none⟩ Hx50 fun Start73 =>
 ldI .u64 ⟨b25, 21, none⟩ Hx50 fun Last74 =>
 newB (.cells #[(.int .i64 Nodes53), (.int .i64 Mutators54), (.int .i64 Slots55), (.int .i64 Cells56), (.int .i64 Objects57), (.int .i64 Stubs58), (.int .i64 Calls59), (.int .i64 Window60), (.int .i64 Grey61), (.int .i64 Bag62), (.int .i64 Inbox63), (.int .u64 Unit64), (.int .u64 Drift65), (.int .u64 Lease66), (.int .u64 Wait67), (.int .u64 Most68), (.int .u64 Patience69), (.int .i64 Suspect70), (.int .i64 Trace71), (.int .i64 Work72), (.int .u64 Start73), (.int .u64 Last74), (.int .i64 node23), (.int .u64 last24), (.int .i64 0), (.int .i64 0), (.slice none 0 0), (.map none), (.int .i64 0), (.slice none 0 0), (.int .u64 0), (.int .u64 0)] ty_trace_Trace) Hx50 fun b75 Hx76 =>
 K (.tuple #[(.pointer (some ⟨b75, 0, none⟩)), (.int .i64 0)]) Hx76))))
theorem E_trace_New (cNodes1 : Int) (cMutators2 : Int) (cSlots3 : Int) (cCells4 : Int) (cObjects5 : Int) (cStubs6 : Int) (cCalls7 : Int) (cWindow8 : Int) (cGrey9 : Int) (cBag10 : Int) (cInbox11 : Int) (cUnit12 : Int) (cDrift13 : Int) (cLease14 : Int) (cWait15 : Int) (cMost16 : Int) (cPatience17 : Int) (cSuspect18 : Int) (cTrace19 : Int) (cWork20 : Int) (cStart21 : Int) (cLast22 : Int) (node23 : Int) (last24 : Int) (H : Hp) (K : Value → Hp → Prop) : B_trace_New cNodes1 cMutators2 cSlots3 cCells4 cObjects5 cStubs6 cCalls7 cWindow8 cGrey9 cBag10 cInbox11 cUnit12 cDrift13 cLease14 cWait15 cMost16 cPatience17 cSuspect18 cTrace19 cWork20 cStart21 cLast22 node23 last24 H K = denF Try.prog Try.f27 .n [(.agg #[(.int .i64 cNodes1), (.int .i64 cMutators2), (.int .i64 cSlots3), (.int .i64 cCells4), (.int .i64 cObjects5), (.int .i64 cStubs6), (.int .i64 cCalls7), (.int .i64 cWindow8), (.int .i64 cGrey9), (.int .i64 cBag10), (.int .i64 cInbox11), (.int .u64 cUnit12), (.int .u64 cDrift13), (.int .u64 cLease14), (.int .u64 cWait15), (.int .u64 cMost16), (.int .u64 cPatience17), (.int .i64 cSuspect18), (.int .i64 cTrace19), (.int .i64 cWork20), (.int .u64 cStart21), (.int .u64 cLast22)]), (.int .i64 node23), (.int .u64 last24)] H K := by kernel_rfl
theorem den_trace_New {cNodes1 : Int} {cMutators2 : Int} {cSlots3 : Int} {cCells4 : Int} {cObjects5 : Int} {cStubs6 : Int} {cCalls7 : Int} {cWindow8 : Int} {cGrey9 : Int} {cBag10 : Int} {cInbox11 : Int} {cUnit12 : Int} {cDrift13 : Int} {cLease14 : Int} {cWait15 : Int} {cMost16 : Int} {cPatience17 : Int} {cSuspect18 : Int} {cTrace19 : Int} {cWork20 : Int} {cStart21 : Int} {cLast22 : Int} {node23 : Int} {last24 : Int} {H : Hp} {K : Value → Hp → Prop} (h : B_trace_New cNodes1 cMutators2 cSlots3 cCells4 cObjects5 cStubs6 cCalls7 cWindow8 cGrey9 cBag10 cInbox11 cUnit12 cDrift13 cLease14 cWait15 cMost16 cPatience17 cSuspect18 cTrace19 cWork20 cStart21 cLast22 node23 last24 H K) : hcall PR f_trace_New ⟨[(.agg #[(.int .i64 cNodes1), (.int .i64 cMutators2), (.int .i64 cSlots3), (.int .i64 cCells4), (.int .i64 cObjects5), (.int .i64 cStubs6), (.int .i64 cCalls7), (.int .i64 cWindow8), (.int .i64 cGrey9), (.int .i64 cBag10), (.int .i64 cInbox11), (.int .u64 cUnit12), (.int .u64 cDrift13), (.int .u64 cLease14), (.int .u64 cWait15), (.int .u64 cMost16), (.int .u64 cPatience17), (.int .i64 cSuspect18), (.int .i64 cTrace19), (.int .i64 cWork20), (.int .u64 cStart21), (.int .u64 cLast22)]), (.int .i64 node23), (.int .u64 last24)]⟩ H K := denF_call Try.func27 PR_mixed (Eq.mp (E_trace_New cNodes1 cMutators2 cSlots3 cCells4 cObjects5 cStubs6 cCalls7 cWindow8 cGrey9 cBag10 cInbox11 cUnit12 cDrift13 cLease14 cWait15 cMost16 cPatience17 cSuspect18 cTrace19 cWork20 cStart21 cLast22 node23 last24 H K) h)

def B_trace_Trace_Begin (t1 : Option Addr) (xNode2 : Int) (xSerial3 : Int) (now4 : Int) (H : Hp) (K : Value → Hp → Prop) : Prop :=
 newB (.cells #[(.int .i64 xNode2), (.int .u64 xSerial3)] ty_api_ID) H fun b5 Hx6 =>
 nilP t1 fun ta7 =>
 ldI .i64 (ta7.add 25) Hx6 fun state8 =>
 (bif ((state8 : Int) != 0) then
 K (.int .i64 10) Hx6
else
 ldI .i64 ⟨b5, 0, none⟩ Hx6 fun Node9 =>
 (bif (decide ((Node9 : Int) < 1)) then
 K (.int .i64 1) Hx6
else
 ldI .i64 ⟨b5, 0, none⟩ Hx6 fun Node10 =>
 nilP t1 fun ta11 =>
 ldI .i64 ta11 Hx6 fun Nodes12 =>
 (bif (decide ((Node10 : Int) > Nodes12)) then
 K (.int .i64 1) Hx6
else
 ldI .i64 ⟨b5, 0, none⟩ Hx6 fun Node13 =>
 nilP t1 fun ta14 =>
 ldI .i64 (ta14.add 22) Hx6 fun node15 =>
 (bif ((Node13 : Int) == node15) then
 K (.int .i64 1) Hx6
else
 ldI .u64 ⟨b5, 1, none⟩ Hx6 fun Serial16 =>
 (bif (decide ((Serial16 : Int) < 1)) then
 K (.int .i64 1) Hx6
else
 ldI .u64 ⟨b5, 1, none⟩ Hx6 fun Serial17 =>
 (bif (decide ((Serial17 : Int) > 72057594037927935)) then
 K (.int .i64 1) Hx6
else
 nilP t1 fun ta18 =>
 ldI .u64 (ta18.add 23) Hx6 fun num19 =>
 (bif ((num19 : Int) == 72057594037927935) then
 K (.int .i64 7) Hx6
else
 nilP t1 fun ta20 =>
 ldI .u64 (ta20.add 23) Hx6 fun num21 =>
 nilP t1 fun ta22 =>
 st (ta22.add 23) (.int .u64 (IntKind.u64.wrap (num21 + 1))) Hx6 fun Hx23 =>
 ∀ R24 : Hp → Prop, (∀ Hx25 : Hp, (
 nilP t1 fun ta26 =>
 st (ta26.add 30) (.int .u64 now4) Hx25 fun Hx27 =>
 nilP t1 fun ta28 =>
 st (ta28.add 31) (.int .u64 0) Hx27 fun Hx29 =>
 K (.int .i64 0) Hx29) → R24 Hx25) →
 nilP t1 fun ta30 =>
 ldI .i64 (ta30.add 22) Hx23 fun node31 =>
 ldI .i64 ⟨b5, 0, none⟩ Hx23 fun Node32 =>
 ldI .u64 ⟨b5, 1, none⟩ Hx23 fun Serial33 =>
 nilP t1 fun ta34 =>
 (newB (.cells #[(.bool false), (.int .i64 node31), (.int .i64 Node32), (.int .u64 Serial33), (.int .i64 0)] ty_trace_Item) Hx23 fun b35 Hx36 =>
 (newB (.map #[] 0) Hx36 fun b37 Hx38 =>
 st (ta34.add 25) (.int .i64 1) Hx38 fun Hx39 =>
 nilP t1 fun ta40 =>
 st (ta40.add 26) (.slice (some ⟨b35, 0, none⟩) 1 1) Hx39 fun Hx41 =>
 nilP t1 fun ta42 =>
 st (ta42.add 27) (.map (some b37)) Hx41 fun Hx43 =>
 nilP t1 fun ta44 =>
 st (ta44.add 28) (.int .i64 0) Hx43 fun Hx45 =>
 nilP t1 fun ta46 =>
 st (ta46.add 29) (.slice none 0 0) Hx45 fun Hx47 =>
 R24 Hx47) ∧
 (st (ta34.add 25) (.int .i64 1) Hx36 fun Hx48 =>
 nilP t1 fun ta49 =>
 (newB (.map #[] 0) Hx48 fun b50 Hx51 =>
 st (ta49.add 26) (.slice (some ⟨b35, 0, none⟩) 1 1) Hx51 fun Hx52 =>
 nilP t1 fun ta53 =>
 st (ta53.add 27) (.map (some b50)) Hx52 fun Hx54 =>
 nilP t1 fun ta55 =>
 st (ta55.add 28) (.int .i64 0) Hx54 fun Hx56 =>
 nilP t1 fun ta57 =>
 st (ta57.add 29) (.slice none 0 0) Hx56 fun Hx58 =>
 R24 Hx58) ∧
 (st (ta49.add 26) (.slice (some ⟨b35, 0, none⟩) 1 1) Hx48 fun Hx59 =>
 newB (.map #[] 0) Hx59 fun b60 Hx61 =>
 nilP t1 fun ta62 =>
 st (ta62.add 27) (.map (some b60)) Hx61 fun Hx63 =>
 nilP t1 fun ta64 =>
 st (ta64.add 28) (.int .i64 0) Hx63 fun Hx65 =>
 nilP t1 fun ta66 =>
 st (ta66.add 29) (.slice none 0 0) Hx65 fun Hx67 =>
 R24 Hx67))) ∧
 ((newB (.map #[] 0) Hx23 fun b68 Hx69 =>
 (ldI .i64 ⟨b5, 0, none⟩ Hx69 fun Node70 =>
 ldI .u64 ⟨b5, 1, none⟩ Hx69 fun Serial71 =>
 ((.agg #[(.int .i64 Node70), (.int .u64 Serial71)]) : Value) = (.agg #[(.int .i64 Node32), (.int .u64 Serial33)])) ∧
 (ldI .i64 (ta30.add 22) Hx69 fun node72 =>
 ((.int .i64 node72) : Value) = (.int .i64 node31)) ∧
 (newB (.cells #[(.bool false), (.int .i64 node31), (.int .i64 Node32), (.int .u64 Serial33), (.int .i64 0)] ty_trace_Item) Hx69 fun b73 Hx74 =>
 st (ta34.add 25) (.int .i64 1) Hx74 fun Hx75 =>
 nilP t1 fun ta76 =>
 st (ta76.add 26) (.slice (some ⟨b73, 0, none⟩) 1 1) Hx75 fun Hx77 =>
 nilP t1 fun ta78 =>
 st (ta78.add 27) (.map (some b68)) Hx77 fun Hx79 =>
 nilP t1 fun ta80 =>
 st (ta80.add 28) (.int .i64 0) Hx79 fun Hx81 =>
 nilP t1 fun ta82 =>
 st (ta82.add 29) (.slice none 0 0) Hx81 fun Hx83 =>
 R24 Hx83) ∧
 (st (ta34.add 25) (.int .i64 1) Hx69 fun Hx84 =>
 (ldI .i64 ⟨b5, 0, none⟩ Hx84 fun Node85 =>
 ldI .u64 ⟨b5, 1, none⟩ Hx84 fun Serial86 =>
 ((.agg #[(.int .i64 Node85), (.int .u64 Serial86)]) : Value) = (.agg #[(.int .i64 Node32), (.int .u64 Serial33)])) ∧
 newB (.cells #[(.bool false), (.int .i64 node31), (.int .i64 Node32), (.int .u64 Serial33), (.int .i64 0)] ty_trace_Item) Hx84 fun b87 Hx88 =>
 nilP t1 fun ta89 =>
 st (ta89.add 26) (.slice (some ⟨b87, 0, none⟩) 1 1) Hx88 fun Hx90 =>
 nilP t1 fun ta91 =>
 st (ta91.add 27) (.map (some b68)) Hx90 fun Hx92 =>
 nilP t1 fun ta93 =>
 st (ta93.add 28) (.int .i64 0) Hx92 fun Hx94 =>
 nilP t1 fun ta95 =>
 st (ta95.add 29) (.slice none 0 0) Hx94 fun Hx96 =>
 R24 Hx96)) ∧
 (st (ta34.add 25) (.int .i64 1) Hx23 fun Hx97 =>
 (ldI .i64 ⟨b5, 0, none⟩ Hx97 fun Node98 =>
 ldI .u64 ⟨b5, 1, none⟩ Hx97 fun Serial99 =>
 ((.agg #[(.int .i64 Node98), (.int .u64 Serial99)]) : Value) = (.agg #[(.int .i64 Node32), (.int .u64 Serial33)])) ∧
 (newB (.cells #[(.bool false), (.int .i64 node31), (.int .i64 Node32), (.int .u64 Serial33), (.int .i64 0)] ty_trace_Item) Hx97 fun b100 Hx101 =>
 nilP t1 fun ta102 =>
 (newB (.map #[] 0) Hx101 fun b103 Hx104 =>
 st (ta102.add 26) (.slice (some ⟨b100, 0, none⟩) 1 1) Hx104 fun Hx105 =>
 nilP t1 fun ta106 =>
 st (ta106.add 27) (.map (some b103)) Hx105 fun Hx107 =>
 nilP t1 fun ta108 =>
 st (ta108.add 28) (.int .i64 0) Hx107 fun Hx109 =>
 nilP t1 fun ta110 =>
 st (ta110.add 29) (.slice none 0 0) Hx109 fun Hx111 =>
 R24 Hx111) ∧
 (st (ta102.add 26) (.slice (some ⟨b100, 0, none⟩) 1 1) Hx101 fun Hx112 =>
 newB (.map #[] 0) Hx112 fun b113 Hx114 =>
 nilP t1 fun ta115 =>
 st (ta115.add 27) (.map (some b113)) Hx114 fun Hx116 =>
 nilP t1 fun ta117 =>
 st (ta117.add 28) (.int .i64 0) Hx116 fun Hx118 =>
 nilP t1 fun ta119 =>
 st (ta119.add 29) (.slice none 0 0) Hx118 fun Hx120 =>
 R24 Hx120)) ∧
 (newB (.map #[] 0) Hx97 fun b121 Hx122 =>
 (ldI .i64 ⟨b5, 0, none⟩ Hx122 fun Node123 =>
 ldI .u64 ⟨b5, 1, none⟩ Hx122 fun Serial124 =>
 ((.agg #[(.int .i64 Node123), (.int .u64 Serial124)]) : Value) = (.agg #[(.int .i64 Node32), (.int .u64 Serial33)])) ∧
 newB (.cells #[(.bool false), (.int .i64 node31), (.int .i64 Node32), (.int .u64 Serial33), (.int .i64 0)] ty_trace_Item) Hx122 fun b125 Hx126 =>
 nilP t1 fun ta127 =>
 st (ta127.add 26) (.slice (some ⟨b125, 0, none⟩) 1 1) Hx126 fun Hx128 =>
 nilP t1 fun ta129 =>
 st (ta129.add 27) (.map (some b121)) Hx128 fun Hx130 =>
 nilP t1 fun ta131 =>
 st (ta131.add 28) (.int .i64 0) Hx130 fun Hx132 =>
 nilP t1 fun ta133 =>
 st (ta133.add 29) (.slice none 0 0) Hx132 fun Hx134 =>
 R24 Hx134))))))))))
theorem E_trace_Trace_Begin (t1 : Option Addr) (xNode2 : Int) (xSerial3 : Int) (now4 : Int) (H : Hp) (K : Value → Hp → Prop) : B_trace_Trace_Begin t1 xNode2 xSerial3 now4 H K = denF Try.prog Try.f29 (.seq none .n (.seq none .n (.seq none .n (.seq (some ⟨[], [0, 2]⟩) .n .n)))) [(.pointer t1), (.agg #[(.int .i64 xNode2), (.int .u64 xSerial3)]), (.int .u64 now4)] H K := by kernel_rfl
theorem den_trace_Trace_Begin {t1 : Option Addr} {xNode2 : Int} {xSerial3 : Int} {now4 : Int} {H : Hp} {K : Value → Hp → Prop} (h : B_trace_Trace_Begin t1 xNode2 xSerial3 now4 H K) : hcall PR f_trace_Trace_Begin ⟨[(.pointer t1), (.agg #[(.int .i64 xNode2), (.int .u64 xSerial3)]), (.int .u64 now4)]⟩ H K := denF_call Try.func29 PR_mixed (Eq.mp (E_trace_Trace_Begin t1 xNode2 xSerial3 now4 H K) h)

def B_trace_Trace_State (t1 : Option Addr) (H : Hp) (K : Value → Hp → Prop) : Prop :=
 nilP t1 fun ta2 =>
 ldI .i64 (ta2.add 25) H fun state3 =>
 K (.int .i64 state3) H
theorem E_trace_Trace_State (t1 : Option Addr) (H : Hp) (K : Value → Hp → Prop) : B_trace_Trace_State t1 H K = denF Try.prog Try.f32 .n [(.pointer t1)] H K := by kernel_rfl
theorem den_trace_Trace_State {t1 : Option Addr} {H : Hp} {K : Value → Hp → Prop} (h : B_trace_Trace_State t1 H K) : hcall PR f_trace_Trace_State ⟨[(.pointer t1)]⟩ H K := denF_call Try.func32 PR_mixed (Eq.mp (E_trace_Trace_State t1 H K) h)

def B_trace_Trace_Step (t1 : Option Addr) (now2 : Int) (H : Hp) (K : Value → Hp → Prop) : Prop :=
 newB (.cells #[(.int .i64 0), (.int .i64 0), (.int .i64 0), (.int .u64 0), (.int .u64 0), (.int .i64 0), (.int .i64 0), (.int .i64 0), (.int .i64 0), (.int .u64 0), (.slice none 0 0), (.int .u64 0), (.int .i64 0), (.int .u64 0), (.int .i64 0), (.int .u64 0), (.int .i64 0), (.int .u64 0), (.slice none 0 0)] ty_api_Msg) H fun b3 Hx4 =>
 nilP t1 fun ta5 =>
 ldI .i64 (ta5.add 25) Hx4 fun state6 =>
 (bif ((state6 : Int) == 0) then
 st ⟨b3, 0, none⟩ (.int .i64 0) Hx4 fun Hx7 =>
 st ⟨b3, 1, none⟩ (.int .i64 0) Hx7 fun Hx8 =>
 st ⟨b3, 2, none⟩ (.int .i64 0) Hx8 fun Hx9 =>
 st ⟨b3, 3, none⟩ (.int .u64 0) Hx9 fun Hx10 =>
 st ⟨b3, 4, none⟩ (.int .u64 0) Hx10 fun Hx11 =>
 st ⟨b3, 5, none⟩ (.int .i64 0) Hx11 fun Hx12 =>
 st ⟨b3, 6, none⟩ (.int .i64 0) Hx12 fun Hx13 =>
 st ⟨b3, 7, none⟩ (.int .i64 0) Hx13 fun Hx14 =>
 st ⟨b3, 8, none⟩ (.int .i64 0) Hx14 fun Hx15 =>
 st ⟨b3, 9, none⟩ (.int .u64 0) Hx15 fun Hx16 =>
 st ⟨b3, 10, none⟩ (.slice none 0 0) Hx16 fun Hx17 =>
 st ⟨b3, 11, none⟩ (.int .u64 0) Hx17 fun Hx18 =>
 st ⟨b3, 12, none⟩ (.int .i64 0) Hx18 fun Hx19 =>
 st ⟨b3, 13, none⟩ (.int .u64 0) Hx19 fun Hx20 =>
 st ⟨b3, 14, none⟩ (.int .i64 0) Hx20 fun Hx21 =>
 st ⟨b3, 15, none⟩ (.int .u64 0) Hx21 fun Hx22 =>
 st ⟨b3, 16, none⟩ (.int .i64 0) Hx22 fun Hx23 =>
 st ⟨b3, 17, none⟩ (.int .u64 0) Hx23 fun Hx24 =>
 st ⟨b3, 18, none⟩ (.slice none 0 0) Hx24 fun Hx25 =>
 ldI .i64 ⟨b3, 0, none⟩ Hx25 fun Kind26 =>
 ldI .i64 ⟨b3, 1, none⟩ Hx25 fun From27 =>
 ldI .i64 ⟨b3, 2, none⟩ Hx25 fun To28 =>
 ldI .u64 ⟨b3, 3, none⟩ Hx25 fun Call29 =>
 ldI .u64 ⟨b3, 4, none⟩ Hx25 fun Floor30 =>
 ldI .i64 ⟨b3, 5, none⟩ Hx25 fun Op31 =>
 ldI .i64 ⟨b3, 6, none⟩ Hx25 fun Field32 =>
 ldI .i64 ⟨b3, 7, none⟩ Hx25 fun Item33 =>
 ldI .i64 ⟨b3, 8, none⟩ Hx25 fun Node34 =>
 ldI .u64 ⟨b3, 9, none⟩ Hx25 fun Serial35 =>
 ldSl ⟨b3, 10, none⟩ Hx25 fun RefsP36 RefsL37 RefsC38 =>
 ldI .u64 ⟨b3, 11, none⟩ Hx25 fun Value39 =>
 ldI .i64 ⟨b3, 12, none⟩ Hx25 fun Code40 =>
 ldI .u64 ⟨b3, 13, none⟩ Hx25 fun Seq41 =>
 ldI .i64 ⟨b3, 14, none⟩ Hx25 fun Voucher42 =>
 ldI .u64 ⟨b3, 15, none⟩ Hx25 fun At43 =>
 ldI .i64 ⟨b3, 16, none⟩ Hx25 fun Dist44 =>
 ldI .u64 ⟨b3, 17, none⟩ Hx25 fun Stamp45 =>
 ldSl ⟨b3, 18, none⟩ Hx25 fun ListP46 ListL47 ListC48 =>
 K (.tuple #[(.agg #[(.int .i64 Kind26), (.int .i64 From27), (.int .i64 To28), (.int .u64 Call29), (.int .u64 Floor30), (.int .i64 Op31), (.int .i64 Field32), (.int .i64 Item33), (.int .i64 Node34), (.int .u64 Serial35), (.slice RefsP36 RefsL37 RefsC38), (.int .u64 Value39), (.int .i64 Code40), (.int .u64 Seq41), (.int .i64 Voucher42), (.int .u64 At43), (.int .i64 Dist44), (.int .u64 Stamp45), (.slice ListP46 ListL47 ListC48)]), (.bool false)]) Hx25
else
 nilP t1 fun ta49 =>
 ldI .u64 (ta49.add 30) Hx4 fun sent50 =>
 nilP t1 fun ta51 =>
 ldI .u64 (ta51.add 31) Hx4 fun wait52 =>
 hcall PR f_clock_Past ⟨[(.int .u64 sent50), (.int .u64 wait52), (.int .u64 now2)]⟩ Hx4 fun v53 Hx54 =>
 asB v53 fun t55 =>
 (bif (!t55) then
 st ⟨b3, 0, none⟩ (.int .i64 0) Hx54 fun Hx56 =>
 st ⟨b3, 1, none⟩ (.int .i64 0) Hx56 fun Hx57 =>
 st ⟨b3, 2, none⟩ (.int .i64 0) Hx57 fun Hx58 =>
 st ⟨b3, 3, none⟩ (.int .u64 0) Hx58 fun Hx59 =>
 st ⟨b3, 4, none⟩ (.int .u64 0) Hx59 fun Hx60 =>
 st ⟨b3, 5, none⟩ (.int .i64 0) Hx60 fun Hx61 =>
 st ⟨b3, 6, none⟩ (.int .i64 0) Hx61 fun Hx62 =>
 st ⟨b3, 7, none⟩ (.int .i64 0) Hx62 fun Hx63 =>
 st ⟨b3, 8, none⟩ (.int .i64 0) Hx63 fun Hx64 =>
 st ⟨b3, 9, none⟩ (.int .u64 0) Hx64 fun Hx65 =>
 st ⟨b3, 10, none⟩ (.slice none 0 0) Hx65 fun Hx66 =>
 st ⟨b3, 11, none⟩ (.int .u64 0) Hx66 fun Hx67 =>
 st ⟨b3, 12, none⟩ (.int .i64 0) Hx67 fun Hx68 =>
 st ⟨b3, 13, none⟩ (.int .u64 0) Hx68 fun Hx69 =>
 st ⟨b3, 14, none⟩ (.int .i64 0) Hx69 fun Hx70 =>
 st ⟨b3, 15, none⟩ (.int .u64 0) Hx70 fun Hx71 =>
 st ⟨b3, 16, none⟩ (.int .i64 0) Hx71 fun Hx72 =>
 st ⟨b3, 17, none⟩ (.int .u64 0) Hx72 fun Hx73 =>
 st ⟨b3, 18, none⟩ (.slice none 0 0) Hx73 fun Hx74 =>
 ldI .i64 ⟨b3, 0, none⟩ Hx74 fun Kind75 =>
 ldI .i64 ⟨b3, 1, none⟩ Hx74 fun From76 =>
 ldI .i64 ⟨b3, 2, none⟩ Hx74 fun To77 =>
 ldI .u64 ⟨b3, 3, none⟩ Hx74 fun Call78 =>
 ldI .u64 ⟨b3, 4, none⟩ Hx74 fun Floor79 =>
 ldI .i64 ⟨b3, 5, none⟩ Hx74 fun Op80 =>
 ldI .i64 ⟨b3, 6, none⟩ Hx74 fun Field81 =>
 ldI .i64 ⟨b3, 7, none⟩ Hx74 fun Item82 =>
 ldI .i64 ⟨b3, 8, none⟩ Hx74 fun Node83 =>
 ldI .u64 ⟨b3, 9, none⟩ Hx74 fun Serial84 =>
 ldSl ⟨b3, 10, none⟩ Hx74 fun RefsP85 RefsL86 RefsC87 =>
 ldI .u64 ⟨b3, 11, none⟩ Hx74 fun Value88 =>
 ldI .i64 ⟨b3, 12, none⟩ Hx74 fun Code89 =>
 ldI .u64 ⟨b3, 13, none⟩ Hx74 fun Seq90 =>
 ldI .i64 ⟨b3, 14, none⟩ Hx74 fun Voucher91 =>
 ldI .u64 ⟨b3, 15, none⟩ Hx74 fun At92 =>
 ldI .i64 ⟨b3, 16, none⟩ Hx74 fun Dist93 =>
 ldI .u64 ⟨b3, 17, none⟩ Hx74 fun Stamp94 =>
 ldSl ⟨b3, 18, none⟩ Hx74 fun ListP95 ListL96 ListC97 =>
 K (.tuple #[(.agg #[(.int .i64 Kind75), (.int .i64 From76), (.int .i64 To77), (.int .u64 Call78), (.int .u64 Floor79), (.int .i64 Op80), (.int .i64 Field81), (.int .i64 Item82), (.int .i64 Node83), (.int .u64 Serial84), (.slice RefsP85 RefsL86 RefsC87), (.int .u64 Value88), (.int .i64 Code89), (.int .u64 Seq90), (.int .i64 Voucher91), (.int .u64 At92), (.int .i64 Dist93), (.int .u64 Stamp94), (.slice ListP95 ListL96 ListC97)]), (.bool false)]) Hx74
else
 nilP t1 fun ta98 =>
 st (ta98.add 30) (.int .u64 now2) Hx54 fun Hx99 =>
 nilP t1 fun ta100 =>
 ldI .u64 (ta100.add 31) Hx99 fun wait101 =>
 nilP t1 fun ta102 =>
 ldI .u64 (ta102.add 14) Hx99 fun Wait103 =>
 nilP t1 fun ta104 =>
 ldI .u64 (ta104.add 15) Hx99 fun Most105 =>
 hcall PR f_lease_Wait ⟨[(.int .u64 wait101), (.int .u64 Wait103), (.int .u64 Most105)]⟩ Hx99 fun v106 Hx107 =>
 asI .u64 v106 fun t108 =>
 nilP t1 fun ta109 =>
 st (ta109.add 31) (.int .u64 t108) Hx107 fun Hx110 =>
 hcall PR f_trace_Trace_question ⟨[(.pointer t1)]⟩ Hx110 fun v111 Hx112 =>
 asAgg' v111 fun cs113 =>
 unCons cs113.toList fun v114 r115 =>
 unCons r115 fun v116 r117 =>
 unCons r117 fun v118 r119 =>
 unCons r119 fun v120 r121 =>
 unCons r121 fun v122 r123 =>
 unCons r123 fun v124 r125 =>
 unCons r125 fun v126 r127 =>
 unCons r127 fun v128 r129 =>
 unCons r129 fun v130 r131 =>
 unCons r131 fun v132 r133 =>
 unCons r133 fun v134 r135 =>
 unCons r135 fun v136 r137 =>
 unCons r137 fun v138 r139 =>
 unCons r139 fun v140 r141 =>
 unCons r141 fun v142 r143 =>
 unCons r143 fun v144 r145 =>
 unCons r145 fun v146 r147 =>
 unCons r147 fun v148 r149 =>
 unCons r149 fun v150 r151 =>
 unNil r151 <|
 asI .i64 v114 fun Kind152 =>
 asI .i64 v116 fun From153 =>
 asI .i64 v118 fun To154 =>
 asI .u64 v120 fun Call155 =>
 asI .u64 v122 fun Floor156 =>
 asI .i64 v124 fun Op157 =>
 asI .i64 v126 fun Field158 =>
 asI .i64 v128 fun Item159 =>
 asI .i64 v130 fun Node160 =>
 asI .u64 v132 fun Serial161 =>
 asSl v134 fun RefsP162 RefsL163 RefsC164 =>
 asI .u64 v136 fun Value165 =>
 asI .i64 v138 fun Code166 =>
 asI .u64 v140 fun Seq167 =>
 asI .i64 v142 fun Voucher168 =>
 asI .u64 v144 fun At169 =>
 asI .i64 v146 fun Dist170 =>
 asI .u64 v148 fun Stamp171 =>
 asSl v150 fun ListP172 ListL173 ListC174 =>
 st ⟨b3, 0, none⟩ (.int .i64 Kind152) Hx112 fun Hx175 =>
 st ⟨b3, 1, none⟩ (.int .i64 From153) Hx175 fun Hx176 =>
 st ⟨b3, 2, none⟩ (.int .i64 To154) Hx176 fun Hx177 =>
 st ⟨b3, 3, none⟩ (.int .u64 Call155) Hx177 fun Hx178 =>
 st ⟨b3, 4, none⟩ (.int .u64 Floor156) Hx178 fun Hx179 =>
 st ⟨b3, 5, none⟩ (.int .i64 Op157) Hx179 fun Hx180 =>
 st ⟨b3, 6, none⟩ (.int .i64 Field158) Hx180 fun Hx181 =>
 st ⟨b3, 7, none⟩ (.int .i64 Item159) Hx181 fun Hx182 =>
 st ⟨b3, 8, none⟩ (.int .i64 Node160) Hx182 fun Hx183 =>
 st ⟨b3, 9, none⟩ (.int .u64 Serial161) Hx183 fun Hx184 =>
 st ⟨b3, 10, none⟩ (.slice RefsP162 RefsL163 RefsC164) Hx184 fun Hx185 =>
 st ⟨b3, 11, none⟩ (.int .u64 Value165) Hx185 fun Hx186 =>
 st ⟨b3, 12, none⟩ (.int .i64 Code166) Hx186 fun Hx187 =>
 st ⟨b3, 13, none⟩ (.int .u64 Seq167) Hx187 fun Hx188 =>
 st ⟨b3, 14, none⟩ (.int .i64 Voucher168) Hx188 fun Hx189 =>
 st ⟨b3, 15, none⟩ (.int .u64 At169) Hx189 fun Hx190 =>
 st ⟨b3, 16, none⟩ (.int .i64 Dist170) Hx190 fun Hx191 =>
 st ⟨b3, 17, none⟩ (.int .u64 Stamp171) Hx191 fun Hx192 =>
 st ⟨b3, 18, none⟩ (.slice ListP172 ListL173 ListC174) Hx192 fun Hx193 =>
 ldI .i64 ⟨b3, 0, none⟩ Hx193 fun Kind194 =>
 ldI .i64 ⟨b3, 1, none⟩ Hx193 fun From195 =>
 ldI .i64 ⟨b3, 2, none⟩ Hx193 fun To196 =>
 ldI .u64 ⟨b3, 3, none⟩ Hx193 fun Call197 =>
 ldI .u64 ⟨b3, 4, none⟩ Hx193 fun Floor198 =>
 ldI .i64 ⟨b3, 5, none⟩ Hx193 fun Op199 =>
 ldI .i64 ⟨b3, 6, none⟩ Hx193 fun Field200 =>
 ldI .i64 ⟨b3, 7, none⟩ Hx193 fun Item201 =>
 ldI .i64 ⟨b3, 8, none⟩ Hx193 fun Node202 =>
 ldI .u64 ⟨b3, 9, none⟩ Hx193 fun Serial203 =>
 ldSl ⟨b3, 10, none⟩ Hx193 fun RefsP204 RefsL205 RefsC206 =>
 ldI .u64 ⟨b3, 11, none⟩ Hx193 fun Value207 =>
 ldI .i64 ⟨b3, 12, none⟩ Hx193 fun Code208 =>
 ldI .u64 ⟨b3, 13, none⟩ Hx193 fun Seq209 =>
 ldI .i64 ⟨b3, 14, none⟩ Hx193 fun Voucher210 =>
 ldI .u64 ⟨b3, 15, none⟩ Hx193 fun At211 =>
 ldI .i64 ⟨b3, 16, none⟩ Hx193 fun Dist212 =>
 ldI .u64 ⟨b3, 17, none⟩ Hx193 fun Stamp213 =>
 ldSl ⟨b3, 18, none⟩ Hx193 fun ListP214 ListL215 ListC216 =>
 K (.tuple #[(.agg #[(.int .i64 Kind194), (.int .i64 From195), (.int .i64 To196), (.int .u64 Call197), (.int .u64 Floor198), (.int .i64 Op199), (.int .i64 Field200), (.int .i64 Item201), (.int .i64 Node202), (.int .u64 Serial203), (.slice RefsP204 RefsL205 RefsC206), (.int .u64 Value207), (.int .i64 Code208), (.int .u64 Seq209), (.int .i64 Voucher210), (.int .u64 At211), (.int .i64 Dist212), (.int .u64 Stamp213), (.slice ListP214 ListL215 ListC216)]), (.bool true)]) Hx193))
theorem E_trace_Trace_Step (t1 : Option Addr) (now2 : Int) (H : Hp) (K : Value → Hp → Prop) : B_trace_Trace_Step t1 now2 H K = denF Try.prog Try.f33 .n [(.pointer t1), (.int .u64 now2)] H K := by kernel_rfl
theorem den_trace_Trace_Step {t1 : Option Addr} {now2 : Int} {H : Hp} {K : Value → Hp → Prop} (h : B_trace_Trace_Step t1 now2 H K) : hcall PR f_trace_Trace_Step ⟨[(.pointer t1), (.int .u64 now2)]⟩ H K := denF_call Try.func33 PR_mixed (Eq.mp (E_trace_Trace_Step t1 now2 H K) h)

def B_trace_Trace_Hear (t1 : Option Addr) (mKind2 : Int) (mFrom3 : Int) (mTo4 : Int) (mCall5 : Int) (mFloor6 : Int) (mOp7 : Int) (mField8 : Int) (mItem9 : Int) (mNode10 : Int) (mSerial11 : Int) (mRefsP12 : Option Addr) (mRefsL13 : Nat) (mRefsC14 : Nat) (mValue15 : Int) (mCode16 : Int) (mSeq17 : Int) (mVoucher18 : Int) (mAt19 : Int) (mDist20 : Int) (mStamp21 : Int) (mListP22 : Option Addr) (mListL23 : Nat) (mListC24 : Nat) (H : Hp) (K : Value → Hp → Prop) : Prop :=
 newB (.cells #[(.int .i64 mKind2), (.int .i64 mFrom3), (.int .i64 mTo4), (.int .u64 mCall5), (.int .u64 mFloor6), (.int .i64 mOp7), (.int .i64 mField8), (.int .i64 mItem9), (.int .i64 mNode10), (.int .u64 mSerial11), (.slice mRefsP12 mRefsL13 mRefsC14), (.int .u64 mValue15), (.int .i64 mCode16), (.int .u64 mSeq17), (.int .i64 mVoucher18), (.int .u64 mAt19), (.int .i64 mDist20), (.int .u64 mStamp21), (.slice mListP22 mListL23 mListC24)] ty_api_Msg) H fun b25 Hx26 =>
 nilP t1 fun ta27 =>
 ldI .i64 (ta27.add 25) Hx26 fun state28 =>
 (bif ((state28 : Int) == 0) then
 K (.bool false) Hx26
else
 hcall PR f_trace_Trace_question ⟨[(.pointer t1)]⟩ Hx26 fun v29 Hx30 =>
 asAgg' v29 fun cs31 =>
 unCons cs31.toList fun v32 r33 =>
 unCons r33 fun v34 r35 =>
 unCons r35 fun v36 r37 =>
 unCons r37 fun v38 r39 =>
 unCons r39 fun v40 r41 =>
 unCons r41 fun v42 r43 =>
 unCons r43 fun v44 r45 =>
 unCons r45 fun v46 r47 =>
 unCons r47 fun v48 r49 =>
 unCons r49 fun v50 r51 =>
 unCons r51 fun v52 r53 =>
 unCons r53 fun v54 r55 =>
 unCons r55 fun v56 r57 =>
 unCons r57 fun v58 r59 =>
 unCons r59 fun v60 r61 =>
 unCons r61 fun v62 r63 =>
 unCons r63 fun v64 r65 =>
 unCons r65 fun v66 r67 =>
 unCons r67 fun v68 r69 =>
 unNil r69 <|
 asI .i64 v32 fun Kind70 =>
 asI .i64 v34 fun From71 =>
 asI .i64 v36 fun To72 =>
 asI .u64 v38 fun Call73 =>
 asI .u64 v40 fun Floor74 =>
 asI .i64 v42 fun Op75 =>
 asI .i64 v44 fun Field76 =>
 asI .i64 v46 fun Item77 =>
 asI .i64 v48 fun Node78 =>
 asI .u64 v50 fun Serial79 =>
 asSl v52 fun RefsP80 RefsL81 RefsC82 =>
 asI .u64 v54 fun Value83 =>
 asI .i64 v56 fun Code84 =>
 asI .u64 v58 fun Seq85 =>
 asI .i64 v60 fun Voucher86 =>
 asI .u64 v62 fun At87 =>
 asI .i64 v64 fun Dist88 =>
 asI .u64 v66 fun Stamp89 =>
 asSl v68 fun ListP90 ListL91 ListC92 =>
 newB (.cells #[(.int .i64 0), (.int .i64 0), (.int .i64 0), (.int .u64 0), (.int .u64 0), (.int .i64 0), (.int .i64 0), (.int .i64 0), (.int .i64 0), (.int .u64 0), (.slice none 0 0), (.int .u64 0), (.int .i64 0), (.int .u64 0), (.int .i64 0), (.int .u64 0), (.int .i64 0), (.int .u64 0), (.slice none 0 0)] ty_api_Msg) Hx30 fun b93 Hx94 =>
 st ⟨b93, 0, none⟩ (.int .i64 Kind70) Hx94 fun Hx95 =>
 st ⟨b93, 1, none⟩ (.int .i64 From71) Hx95 fun Hx96 =>
 st ⟨b93, 2, none⟩ (.int .i64 To72) Hx96 fun Hx97 =>
 st ⟨b93, 3, none⟩ (.int .u64 Call73) Hx97 fun Hx98 =>
 st ⟨b93, 4, none⟩ (.int .u64 Floor74) Hx98 fun Hx99 =>
 st ⟨b93, 5, none⟩ (.int .i64 Op75) Hx99 fun Hx100 =>
 st ⟨b93, 6, none⟩ (.int .i64 Field76) Hx100 fun Hx101 =>
 st ⟨b93, 7, none⟩ (.int .i64 Item77) Hx101 fun Hx102 =>
 st ⟨b93, 8, none⟩ (.int .i64 Node78) Hx102 fun Hx103 =>
 st ⟨b93, 9, none⟩ (.int .u64 Serial79) Hx103 fun Hx104 =>
 st ⟨b93, 10, none⟩ (.slice RefsP80 RefsL81 RefsC82) Hx104 fun Hx105 =>
 st ⟨b93, 11, none⟩ (.int .u64 Value83) Hx105 fun Hx106 =>
 st ⟨b93, 12, none⟩ (.int .i64 Code84) Hx106 fun Hx107 =>
 st ⟨b93, 13, none⟩ (.int .u64 Seq85) Hx107 fun Hx108 =>
 st ⟨b93, 14, none⟩ (.int .i64 Voucher86) Hx108 fun Hx109 =>
 st ⟨b93, 15, none⟩ (.int .u64 At87) Hx109 fun Hx110 =>
 st ⟨b93, 16, none⟩ (.int .i64 Dist88) Hx110 fun Hx111 =>
 st ⟨b93, 17, none⟩ (.int .u64 Stamp89) Hx111 fun Hx112 =>
 st ⟨b93, 18, none⟩ (.slice ListP90 ListL91 ListC92) Hx112 fun Hx113 =>
 ∀ R114 : Int → Hp → Prop, (∀ kind116 : Int, ∀ Hx115 : Hp, (
 ldI .i64 ⟨b25, 0, none⟩ Hx115 fun Kind117 =>
 (bif ((Kind117 : Int) != kind116) then
 K (.bool false) Hx115
else
 ldI .u64 ⟨b25, 3, none⟩ Hx115 fun Call118 =>
 ldI .u64 ⟨b93, 3, none⟩ Hx115 fun Call119 =>
 (bif ((Call118 : Int) != Call119) then
 K (.bool false) Hx115
else
 ldI .i64 ⟨b25, 7, none⟩ Hx115 fun Item120 =>
 ldI .i64 ⟨b93, 7, none⟩ Hx115 fun Item121 =>
 (bif ((Item120 : Int) != Item121) then
 K (.bool false) Hx115
else
 ldI .i64 ⟨b25, 1, none⟩ Hx115 fun From122 =>
 ldI .i64 ⟨b93, 2, none⟩ Hx115 fun To123 =>
 (bif ((From122 : Int) != To123) then
 K (.bool false) Hx115
else
 ldI .i64 ⟨b25, 2, none⟩ Hx115 fun To124 =>
 nilP t1 fun ta125 =>
 ldI .i64 (ta125.add 22) Hx115 fun node126 =>
 (bif ((To124 : Int) != node126) then
 K (.bool false) Hx115
else
 nilP t1 fun ta127 =>
 ldI .i64 (ta127.add 25) Hx115 fun state128 =>
 (bif ((state128 : Int) == 1) then
 ldI .i64 ⟨b25, 0, none⟩ Hx115 fun Kind129 =>
 ldI .i64 ⟨b25, 1, none⟩ Hx115 fun From130 =>
 ldI .i64 ⟨b25, 2, none⟩ Hx115 fun To131 =>
 ldI .u64 ⟨b25, 3, none⟩ Hx115 fun Call132 =>
 ldI .u64 ⟨b25, 4, none⟩ Hx115 fun Floor133 =>
 ldI .i64 ⟨b25, 5, none⟩ Hx115 fun Op134 =>
 ldI .i64 ⟨b25, 6, none⟩ Hx115 fun Field135 =>
 ldI .i64 ⟨b25, 7, none⟩ Hx115 fun Item136 =>
 ldI .i64 ⟨b25, 8, none⟩ Hx115 fun Node137 =>
 ldI .u64 ⟨b25, 9, none⟩ Hx115 fun Serial138 =>
 ldSl ⟨b25, 10, none⟩ Hx115 fun RefsP139 RefsL140 RefsC141 =>
 ldI .u64 ⟨b25, 11, none⟩ Hx115 fun Value142 =>
 ldI .i64 ⟨b25, 12, none⟩ Hx115 fun Code143 =>
 ldI .u64 ⟨b25, 13, none⟩ Hx115 fun Seq144 =>
 ldI .i64 ⟨b25, 14, none⟩ Hx115 fun Voucher145 =>
 ldI .u64 ⟨b25, 15, none⟩ Hx115 fun At146 =>
 ldI .i64 ⟨b25, 16, none⟩ Hx115 fun Dist147 =>
 ldI .u64 ⟨b25, 17, none⟩ Hx115 fun Stamp148 =>
 ldSl ⟨b25, 18, none⟩ Hx115 fun ListP149 ListL150 ListC151 =>
 hcall PR f_trace_Trace_asked ⟨[(.pointer t1), (.agg #[(.int .i64 Kind129), (.int .i64 From130), (.int .i64 To131), (.int .u64 Call132), (.int .u64 Floor133), (.int .i64 Op134), (.int .i64 Field135), (.int .i64 Item136), (.int .i64 Node137), (.int .u64 Serial138), (.slice RefsP139 RefsL140 RefsC141), (.int .u64 Value142), (.int .i64 Code143), (.int .u64 Seq144), (.int .i64 Voucher145), (.int .u64 At146), (.int .i64 Dist147), (.int .u64 Stamp148), (.slice ListP149 ListL150 ListC151)])]⟩ Hx115 fun v152 Hx153 =>
 K (.bool true) Hx153
else
 (bif ((state128 : Int) == 2) then
 ldI .i64 ⟨b25, 0, none⟩ Hx115 fun Kind154 =>
 ldI .i64 ⟨b25, 1, none⟩ Hx115 fun From155 =>
 ldI .i64 ⟨b25, 2, none⟩ Hx115 fun To156 =>
 ldI .u64 ⟨b25, 3, none⟩ Hx115 fun Call157 =>
 ldI .u64 ⟨b25, 4, none⟩ Hx115 fun Floor158 =>
 ldI .i64 ⟨b25, 5, none⟩ Hx115 fun Op159 =>
 ldI .i64 ⟨b25, 6, none⟩ Hx115 fun Field160 =>
 ldI .i64 ⟨b25, 7, none⟩ Hx115 fun Item161 =>
 ldI .i64 ⟨b25, 8, none⟩ Hx115 fun Node162 =>
 ldI .u64 ⟨b25, 9, none⟩ Hx115 fun Serial163 =>
 ldSl ⟨b25, 10, none⟩ Hx115 fun RefsP164 RefsL165 RefsC166 =>
 ldI .u64 ⟨b25, 11, none⟩ Hx115 fun Value167 =>
 ldI .i64 ⟨b25, 12, none⟩ Hx115 fun Code168 =>
 ldI .u64 ⟨b25, 13, none⟩ Hx115 fun Seq169 =>
 ldI .i64 ⟨b25, 14, none⟩ Hx115 fun Voucher170 =>
 ldI .u64 ⟨b25, 15, none⟩ Hx115 fun At171 =>
 ldI .i64 ⟨b25, 16, none⟩ Hx115 fun Dist172 =>
 ldI .u64 ⟨b25, 17, none⟩ Hx115 fun Stamp173 =>
 ldSl ⟨b25, 18, none⟩ Hx115 fun ListP174 ListL175 ListC176 =>
 hcall PR f_trace_Trace_checked ⟨[(.pointer t1), (.agg #[(.int .i64 Kind154), (.int .i64 From155), (.int .i64 To156), (.int .u64 Call157), (.int .u64 Floor158), (.int .i64 Op159), (.int .i64 Field160), (.int .i64 Item161), (.int .i64 Node162), (.int .u64 Serial163), (.slice RefsP164 RefsL165 RefsC166), (.int .u64 Value167), (.int .i64 Code168), (.int .u64 Seq169), (.int .i64 Voucher170), (.int .u64 At171), (.int .i64 Dist172), (.int .u64 Stamp173), (.slice ListP174 ListL175 ListC176)])]⟩ Hx115 fun v177 Hx178 =>
 K (.bool true) Hx178
else
 (bif ((state128 : Int) == 3) then
 hcall PR f_trace_Trace_wasBuried ⟨[(.pointer t1)]⟩ Hx115 fun v179 Hx180 =>
 K (.bool true) Hx180
else
 K (.bool true) Hx115))))))))) → R114 kind116 Hx115) →
 nilP t1 fun ta181 =>
 ldI .i64 (ta181.add 25) Hx113 fun state182 =>
 (bif ((state182 : Int) == 3) then
 R114 11 Hx113
else
 R114 9 Hx113))
theorem E_trace_Trace_Hear (t1 : Option Addr) (mKind2 : Int) (mFrom3 : Int) (mTo4 : Int) (mCall5 : Int) (mFloor6 : Int) (mOp7 : Int) (mField8 : Int) (mItem9 : Int) (mNode10 : Int) (mSerial11 : Int) (mRefsP12 : Option Addr) (mRefsL13 : Nat) (mRefsC14 : Nat) (mValue15 : Int) (mCode16 : Int) (mSeq17 : Int) (mVoucher18 : Int) (mAt19 : Int) (mDist20 : Int) (mStamp21 : Int) (mListP22 : Option Addr) (mListL23 : Nat) (mListC24 : Nat) (H : Hp) (K : Value → Hp → Prop) : B_trace_Trace_Hear t1 mKind2 mFrom3 mTo4 mCall5 mFloor6 mOp7 mField8 mItem9 mNode10 mSerial11 mRefsP12 mRefsL13 mRefsC14 mValue15 mCode16 mSeq17 mVoucher18 mAt19 mDist20 mStamp21 mListP22 mListL23 mListC24 H K = denF Try.prog Try.f34 (.seq none .n (.seq none .n (.seq none .n (.seq none .n (.seq (some ⟨[(6, .int .i64)], [0, 3, 5]⟩) .n .n))))) [(.pointer t1), (.agg #[(.int .i64 mKind2), (.int .i64 mFrom3), (.int .i64 mTo4), (.int .u64 mCall5), (.int .u64 mFloor6), (.int .i64 mOp7), (.int .i64 mField8), (.int .i64 mItem9), (.int .i64 mNode10), (.int .u64 mSerial11), (.slice mRefsP12 mRefsL13 mRefsC14), (.int .u64 mValue15), (.int .i64 mCode16), (.int .u64 mSeq17), (.int .i64 mVoucher18), (.int .u64 mAt19), (.int .i64 mDist20), (.int .u64 mStamp21), (.slice mListP22 mListL23 mListC24)])] H K := by kernel_rfl
theorem den_trace_Trace_Hear {t1 : Option Addr} {mKind2 : Int} {mFrom3 : Int} {mTo4 : Int} {mCall5 : Int} {mFloor6 : Int} {mOp7 : Int} {mField8 : Int} {mItem9 : Int} {mNode10 : Int} {mSerial11 : Int} {mRefsP12 : Option Addr} {mRefsL13 : Nat} {mRefsC14 : Nat} {mValue15 : Int} {mCode16 : Int} {mSeq17 : Int} {mVoucher18 : Int} {mAt19 : Int} {mDist20 : Int} {mStamp21 : Int} {mListP22 : Option Addr} {mListL23 : Nat} {mListC24 : Nat} {H : Hp} {K : Value → Hp → Prop} (h : B_trace_Trace_Hear t1 mKind2 mFrom3 mTo4 mCall5 mFloor6 mOp7 mField8 mItem9 mNode10 mSerial11 mRefsP12 mRefsL13 mRefsC14 mValue15 mCode16 mSeq17 mVoucher18 mAt19 mDist20 mStamp21 mListP22 mListL23 mListC24 H K) : hcall PR f_trace_Trace_Hear ⟨[(.pointer t1), (.agg #[(.int .i64 mKind2), (.int .i64 mFrom3), (.int .i64 mTo4), (.int .u64 mCall5), (.int .u64 mFloor6), (.int .i64 mOp7), (.int .i64 mField8), (.int .i64 mItem9), (.int .i64 mNode10), (.int .u64 mSerial11), (.slice mRefsP12 mRefsL13 mRefsC14), (.int .u64 mValue15), (.int .i64 mCode16), (.int .u64 mSeq17), (.int .i64 mVoucher18), (.int .u64 mAt19), (.int .i64 mDist20), (.int .u64 mStamp21), (.slice mListP22 mListL23 mListC24)])]⟩ H K := denF_call Try.func34 PR_mixed (Eq.mp (E_trace_Trace_Hear t1 mKind2 mFrom3 mTo4 mCall5 mFloor6 mOp7 mField8 mItem9 mNode10 mSerial11 mRefsP12 mRefsL13 mRefsC14 mValue15 mCode16 mSeq17 mVoucher18 mAt19 mDist20 mStamp21 mListP22 mListL23 mListC24 H K) h)

def B_trace_Trace_Count (t1 : Option Addr) (H : Hp) (K : Value → Hp → Prop) : Prop :=
 nilP t1 fun ta2 =>
 ldI .u64 (ta2.add 23) H fun num3 =>
 nilP t1 fun ta4 =>
 ldI .i64 (ta4.add 24) H fun found5 =>
 K (.tuple #[(.int .u64 num3), (.int .i64 found5)]) H
theorem E_trace_Trace_Count (t1 : Option Addr) (H : Hp) (K : Value → Hp → Prop) : B_trace_Trace_Count t1 H K = denF Try.prog Try.f36 .n [(.pointer t1)] H K := by kernel_rfl
theorem den_trace_Trace_Count {t1 : Option Addr} {H : Hp} {K : Value → Hp → Prop} (h : B_trace_Trace_Count t1 H K) : hcall PR f_trace_Trace_Count ⟨[(.pointer t1)]⟩ H K := denF_call Try.func36 PR_mixed (Eq.mp (E_trace_Trace_Count t1 H K) h)

def B_trace_Trace_Items (t1 : Option Addr) (H : Hp) (K : Value → Hp → Prop) : Prop :=
 newB (.cells #[] ty_trace_Item) H fun b2 Hx3 =>
 nilP t1 fun ta4 =>
 ldSl (ta4.add 26) Hx3 fun itemsP5 itemsL6 itemsC7 =>
 evW PR (Builtin.append_ #[ty_Strace_Item, ty_Strace_Item] ty_Strace_Item #[(.slice (some ⟨b2, 0, none⟩) 0 0), (.slice itemsP5 itemsL6 itemsC7)]) Hx3 fun v8 Hx9 =>
 asSl v8 fun tP10 tL11 tC12 =>
 K (.slice tP10 tL11 tC12) Hx9
theorem E_trace_Trace_Items (t1 : Option Addr) (H : Hp) (K : Value → Hp → Prop) : B_trace_Trace_Items t1 H K = denF Try.prog Try.f40 .n [(.pointer t1)] H K := by kernel_rfl
theorem den_trace_Trace_Items {t1 : Option Addr} {H : Hp} {K : Value → Hp → Prop} (h : B_trace_Trace_Items t1 H K) : hcall PR f_trace_Trace_Items ⟨[(.pointer t1)]⟩ H K := denF_call Try.func40 PR_mixed (Eq.mp (E_trace_Trace_Items t1 H K) h)

def B_trace_Trace_question (t1 : Option Addr) (H : Hp) (K : Value → Hp → Prop) : Prop :=
 newB (.cells #[(.int .i64 0), (.int .i64 0), (.int .i64 0), (.int .u64 0), (.int .u64 0), (.int .i64 0), (.int .i64 0), (.int .i64 0), (.int .i64 0), (.int .u64 0), (.slice none 0 0), (.int .u64 0), (.int .i64 0), (.int .u64 0), (.int .i64 0), (.int .u64 0), (.int .i64 0), (.int .u64 0), (.slice none 0 0)] ty_api_Msg) H fun b2 Hx3 =>
 nilP t1 fun ta4 =>
 ldI .i64 (ta4.add 22) Hx3 fun node5 =>
 nilP t1 fun ta6 =>
 ldI .u64 (ta6.add 23) Hx3 fun num7 =>
 nilP t1 fun ta8 =>
 ldI .i64 (ta8.add 28) Hx3 fun openx9 =>
 newB (.cells #[(.int .i64 0), (.int .i64 0), (.int .i64 0), (.int .u64 0), (.int .u64 0), (.int .i64 0), (.int .i64 0), (.int .i64 0), (.int .i64 0), (.int .u64 0), (.slice none 0 0), (.int .u64 0), (.int .i64 0), (.int .u64 0), (.int .i64 0), (.int .u64 0), (.int .i64 0), (.int .u64 0), (.slice none 0 0)] ty_api_Msg) Hx3 fun b10 Hx11 =>
 (ldI .i64 (ta8.add 28) Hx11 fun openx12 =>
 ((.int .i64 openx12) : Value) = (.int .i64 openx9)) ∧
 (ldI .u64 (ta6.add 23) Hx11 fun num13 =>
 ((.int .u64 num13) : Value) = (.int .u64 num7)) ∧
 (ldI .i64 (ta4.add 22) Hx11 fun node14 =>
 ((.int .i64 node14) : Value) = (.int .i64 node5)) ∧
 st ⟨b10, 0, none⟩ (.int .i64 0) Hx11 fun Hx15 =>
 st ⟨b10, 1, none⟩ (.int .i64 node5) Hx15 fun Hx16 =>
 st ⟨b10, 2, none⟩ (.int .i64 0) Hx16 fun Hx17 =>
 st ⟨b10, 3, none⟩ (.int .u64 num7) Hx17 fun Hx18 =>
 st ⟨b10, 4, none⟩ (.int .u64 0) Hx18 fun Hx19 =>
 st ⟨b10, 5, none⟩ (.int .i64 0) Hx19 fun Hx20 =>
 st ⟨b10, 6, none⟩ (.int .i64 0) Hx20 fun Hx21 =>
 st ⟨b10, 7, none⟩ (.int .i64 openx9) Hx21 fun Hx22 =>
 st ⟨b10, 8, none⟩ (.int .i64 0) Hx22 fun Hx23 =>
 st ⟨b10, 9, none⟩ (.int .u64 0) Hx23 fun Hx24 =>
 st ⟨b10, 10, none⟩ (.slice none 0 0) Hx24 fun Hx25 =>
 st ⟨b10, 11, none⟩ (.int .u64 0) Hx25 fun Hx26 =>
 st ⟨b10, 12, none⟩ (.int .i64 0) Hx26 fun Hx27 =>
 st ⟨b10, 13, none⟩ (.int .u64 0) Hx27 fun Hx28 =>
 st ⟨b10, 14, none⟩ (.int .i64 0) Hx28 fun Hx29 =>
 st ⟨b10, 15, none⟩ (.int .u64 0) Hx29 fun Hx30 =>
 st ⟨b10, 16, none⟩ (.int .i64 0) Hx30 fun Hx31 =>
 st ⟨b10, 17, none⟩ (.int .u64 0) Hx31 fun Hx32 =>
 st ⟨b10, 18, none⟩ (.slice none 0 0) Hx32 fun Hx33 =>
 ∀ R34 : Hp → Prop, (∀ Hx35 : Hp, (
 ldI .i64 ⟨b10, 0, none⟩ Hx35 fun Kind36 =>
 ldI .i64 ⟨b10, 1, none⟩ Hx35 fun From37 =>
 ldI .i64 ⟨b10, 2, none⟩ Hx35 fun To38 =>
 ldI .u64 ⟨b10, 3, none⟩ Hx35 fun Call39 =>
 ldI .u64 ⟨b10, 4, none⟩ Hx35 fun Floor40 =>
 ldI .i64 ⟨b10, 5, none⟩ Hx35 fun Op41 =>
 ldI .i64 ⟨b10, 6, none⟩ Hx35 fun Field42 =>
 ldI .i64 ⟨b10, 7, none⟩ Hx35 fun Item43 =>
 ldI .i64 ⟨b10, 8, none⟩ Hx35 fun Node44 =>
 ldI .u64 ⟨b10, 9, none⟩ Hx35 fun Serial45 =>
 ldSl ⟨b10, 10, none⟩ Hx35 fun RefsP46 RefsL47 RefsC48 =>
 ldI .u64 ⟨b10, 11, none⟩ Hx35 fun Value49 =>
 ldI .i64 ⟨b10, 12, none⟩ Hx35 fun Code50 =>
 ldI .u64 ⟨b10, 13, none⟩ Hx35 fun Seq51 =>
 ldI .i64 ⟨b10, 14, none⟩ Hx35 fun Voucher52 =>
 ldI .u64 ⟨b10, 15, none⟩ Hx35 fun At53 =>
 ldI .i64 ⟨b10, 16, none⟩ Hx35 fun Dist54 =>
 ldI .u64 ⟨b10, 17, none⟩ Hx35 fun Stamp55 =>
 ldSl ⟨b10, 18, none⟩ Hx35 fun ListP56 ListL57 ListC58 =>
 st ⟨b2, 0, none⟩ (.int .i64 Kind36) Hx35 fun Hx59 =>
 st ⟨b2, 1, none⟩ (.int .i64 From37) Hx59 fun Hx60 =>
 st ⟨b2, 2, none⟩ (.int .i64 To38) Hx60 fun Hx61 =>
 st ⟨b2, 3, none⟩ (.int .u64 Call39) Hx61 fun Hx62 =>
 st ⟨b2, 4, none⟩ (.int .u64 Floor40) Hx62 fun Hx63 =>
 st ⟨b2, 5, none⟩ (.int .i64 Op41) Hx63 fun Hx64 =>
 st ⟨b2, 6, none⟩ (.int .i64 Field42) Hx64 fun Hx65 =>
 st ⟨b2, 7, none⟩ (.int .i64 Item43) Hx65 fun Hx66 =>
 st ⟨b2, 8, none⟩ (.int .i64 Node44) Hx66 fun Hx67 =>
 st ⟨b2, 9, none⟩ (.int .u64 Serial45) Hx67 fun Hx68 =>
 st ⟨b2, 10, none⟩ (.slice RefsP46 RefsL47 RefsC48) Hx68 fun Hx69 =>
 st ⟨b2, 11, none⟩ (.int .u64 Value49) Hx69 fun Hx70 =>
 st ⟨b2, 12, none⟩ (.int .i64 Code50) Hx70 fun Hx71 =>
 st ⟨b2, 13, none⟩ (.int .u64 Seq51) Hx71 fun Hx72 =>
 st ⟨b2, 14, none⟩ (.int .i64 Voucher52) Hx72 fun Hx73 =>
 st ⟨b2, 15, none⟩ (.int .u64 At53) Hx73 fun Hx74 =>
 st ⟨b2, 16, none⟩ (.int .i64 Dist54) Hx74 fun Hx75 =>
 st ⟨b2, 17, none⟩ (.int .u64 Stamp55) Hx75 fun Hx76 =>
 st ⟨b2, 18, none⟩ (.slice ListP56 ListL57 ListC58) Hx76 fun Hx77 =>
 ldI .i64 ⟨b2, 0, none⟩ Hx77 fun Kind78 =>
 ldI .i64 ⟨b2, 1, none⟩ Hx77 fun From79 =>
 ldI .i64 ⟨b2, 2, none⟩ Hx77 fun To80 =>
 ldI .u64 ⟨b2, 3, none⟩ Hx77 fun Call81 =>
 ldI .u64 ⟨b2, 4, none⟩ Hx77 fun Floor82 =>
 ldI .i64 ⟨b2, 5, none⟩ Hx77 fun Op83 =>
 ldI .i64 ⟨b2, 6, none⟩ Hx77 fun Field84 =>
 ldI .i64 ⟨b2, 7, none⟩ Hx77 fun Item85 =>
 ldI .i64 ⟨b2, 8, none⟩ Hx77 fun Node86 =>
 ldI .u64 ⟨b2, 9, none⟩ Hx77 fun Serial87 =>
 ldSl ⟨b2, 10, none⟩ Hx77 fun RefsP88 RefsL89 RefsC90 =>
 ldI .u64 ⟨b2, 11, none⟩ Hx77 fun Value91 =>
 ldI .i64 ⟨b2, 12, none⟩ Hx77 fun Code92 =>
 ldI .u64 ⟨b2, 13, none⟩ Hx77 fun Seq93 =>
 ldI .i64 ⟨b2, 14, none⟩ Hx77 fun Voucher94 =>
 ldI .u64 ⟨b2, 15, none⟩ Hx77 fun At95 =>
 ldI .i64 ⟨b2, 16, none⟩ Hx77 fun Dist96 =>
 ldI .u64 ⟨b2, 17, none⟩ Hx77 fun Stamp97 =>
 ldSl ⟨b2, 18, none⟩ Hx77 fun ListP98 ListL99 ListC100 =>
 K (.agg #[(.int .i64 Kind78), (.int .i64 From79), (.int .i64 To80), (.int .u64 Call81), (.int .u64 Floor82), (.int .i64 Op83), (.int .i64 Field84), (.int .i64 Item85), (.int .i64 Node86), (.int .u64 Serial87), (.slice RefsP88 RefsL89 RefsC90), (.int .u64 Value91), (.int .i64 Code92), (.int .u64 Seq93), (.int .i64 Voucher94), (.int .u64 At95), (.int .i64 Dist96), (.int .u64 Stamp97), (.slice ListP98 ListL99 ListC100)]) Hx77) → R34 Hx35) →
 nilP t1 fun ta101 =>
 ldI .i64 (ta101.add 25) Hx33 fun state102 =>
 (bif ((state102 : Int) == 1) then
 nilP t1 fun ta103 =>
 ldSl (ta103.add 26) Hx33 fun itemsP104 itemsL105 itemsC106 =>
 nilP t1 fun ta107 =>
 ldI .i64 (ta107.add 28) Hx33 fun openx108 =>
 idxA itemsP104 itemsL105 openx108 5 fun el109 =>
 ldB el109 Hx33 fun In110 =>
 ldI .i64 (el109.add 1) Hx33 fun Node111 =>
 ldI .i64 (el109.add 2) Hx33 fun Node112 =>
 ldI .u64 (el109.add 3) Hx33 fun Serial113 =>
 ldI .i64 (el109.add 4) Hx33 fun Code114 =>
 newB (.cells #[(.bool false), (.int .i64 0), (.int .i64 0), (.int .u64 0), (.int .i64 0)] ty_trace_Item) Hx33 fun b115 Hx116 =>
 (ldB el109 Hx116 fun In117 =>
 ldI .i64 (el109.add 1) Hx116 fun Node118 =>
 ldI .i64 (el109.add 2) Hx116 fun Node119 =>
 ldI .u64 (el109.add 3) Hx116 fun Serial120 =>
 ldI .i64 (el109.add 4) Hx116 fun Code121 =>
 ((.agg #[(.bool In117), (.int .i64 Node118), (.int .i64 Node119), (.int .u64 Serial120), (.int .i64 Code121)]) : Value) = (.agg #[(.bool In110), (.int .i64 Node111), (.int .i64 Node112), (.int .u64 Serial113), (.int .i64 Code114)])) ∧
 (ldI .i64 (ta107.add 28) Hx116 fun openx122 =>
 ((.int .i64 openx122) : Value) = (.int .i64 openx108)) ∧
 (ldSl (ta103.add 26) Hx116 fun itemsP123 itemsL124 itemsC125 =>
 ((.slice itemsP123 itemsL124 itemsC125) : Value) = (.slice itemsP104 itemsL105 itemsC106)) ∧
 st ⟨b115, 0, none⟩ (.bool In110) Hx116 fun Hx126 =>
 st ⟨b115, 1, none⟩ (.int .i64 Node111) Hx126 fun Hx127 =>
 st ⟨b115, 2, none⟩ (.int .i64 Node112) Hx127 fun Hx128 =>
 st ⟨b115, 3, none⟩ (.int .u64 Serial113) Hx128 fun Hx129 =>
 st ⟨b115, 4, none⟩ (.int .i64 Code114) Hx129 fun Hx130 =>
 ldI .i64 ⟨b115, 1, none⟩ Hx130 fun Node131 =>
 ldI .i64 ⟨b115, 2, none⟩ Hx130 fun Node132 =>
 ldI .u64 ⟨b115, 3, none⟩ Hx130 fun Serial133 =>
 st ⟨b10, 0, none⟩ (.int .i64 8) Hx130 fun Hx134 =>
 (ldI .i64 ⟨b115, 2, none⟩ Hx134 fun Node135 =>
 ldI .u64 ⟨b115, 3, none⟩ Hx134 fun Serial136 =>
 ((.agg #[(.int .i64 Node135), (.int .u64 Serial136)]) : Value) = (.agg #[(.int .i64 Node132), (.int .u64 Serial133)])) ∧
 (ldI .i64 ⟨b115, 1, none⟩ Hx134 fun Node137 =>
 ((.int .i64 Node137) : Value) = (.int .i64 Node131)) ∧
 st ⟨b10, 2, none⟩ (.int .i64 Node131) Hx134 fun Hx138 =>
 (ldI .i64 ⟨b115, 2, none⟩ Hx138 fun Node139 =>
 ldI .u64 ⟨b115, 3, none⟩ Hx138 fun Serial140 =>
 ((.agg #[(.int .i64 Node139), (.int .u64 Serial140)]) : Value) = (.agg #[(.int .i64 Node132), (.int .u64 Serial133)])) ∧
 st ⟨b10, 5, none⟩ (.int .i64 2) Hx138 fun Hx141 =>
 (ldI .i64 ⟨b115, 2, none⟩ Hx141 fun Node142 =>
 ldI .u64 ⟨b115, 3, none⟩ Hx141 fun Serial143 =>
 ((.agg #[(.int .i64 Node142), (.int .u64 Serial143)]) : Value) = (.agg #[(.int .i64 Node132), (.int .u64 Serial133)])) ∧
 st ⟨b10, 8, none⟩ (.int .i64 Node132) Hx141 fun Hx144 =>
 st ⟨b10, 9, none⟩ (.int .u64 Serial133) Hx144 fun Hx145 =>
 ldB ⟨b115, 0, none⟩ Hx145 fun In146 =>
 (bif In146 then
 st ⟨b10, 5, none⟩ (.int .i64 1) Hx145 fun Hx147 =>
 R34 Hx147
else
 R34 Hx145)
else
 (bif ((state102 : Int) == 2) then
 nilP t1 fun ta148 =>
 ldSl (ta148.add 29) Hx33 fun todoP149 todoL150 todoC151 =>
 idxA todoP149 todoL150 0 1 fun el152 =>
 ldI .i64 el152 Hx33 fun t153 =>
 st ⟨b10, 0, none⟩ (.int .i64 8) Hx33 fun Hx154 =>
 (ldI .i64 el152 Hx154 fun t155 =>
 ((.int .i64 t155) : Value) = (.int .i64 t153)) ∧
 (ldSl (ta148.add 29) Hx154 fun todoP156 todoL157 todoC158 =>
 ((.slice todoP156 todoL157 todoC158) : Value) = (.slice todoP149 todoL150 todoC151)) ∧
 st ⟨b10, 2, none⟩ (.int .i64 t153) Hx154 fun Hx159 =>
 st ⟨b10, 5, none⟩ (.int .i64 3) Hx159 fun Hx160 =>
 R34 Hx160
else
 (bif ((state102 : Int) == 3) then
 nilP t1 fun ta161 =>
 ldSl (ta161.add 26) Hx33 fun itemsP162 itemsL163 itemsC164 =>
 nilP t1 fun ta165 =>
 ldSl (ta165.add 29) Hx33 fun todoP166 todoL167 todoC168 =>
 idxA todoP166 todoL167 0 1 fun el169 =>
 ldI .i64 el169 Hx33 fun t170 =>
 idxA itemsP162 itemsL163 t170 5 fun el171 =>
 ldB el171 Hx33 fun In172 =>
 ldI .i64 (el171.add 1) Hx33 fun Node173 =>
 ldI .i64 (el171.add 2) Hx33 fun Node174 =>
 ldI .u64 (el171.add 3) Hx33 fun Serial175 =>
 ldI .i64 (el171.add 4) Hx33 fun Code176 =>
 newB (.cells #[(.bool false), (.int .i64 0), (.int .i64 0), (.int .u64 0), (.int .i64 0)] ty_trace_Item) Hx33 fun b177 Hx178 =>
 (ldB el171 Hx178 fun In179 =>
 ldI .i64 (el171.add 1) Hx178 fun Node180 =>
 ldI .i64 (el171.add 2) Hx178 fun Node181 =>
 ldI .u64 (el171.add 3) Hx178 fun Serial182 =>
 ldI .i64 (el171.add 4) Hx178 fun Code183 =>
 ((.agg #[(.bool In179), (.int .i64 Node180), (.int .i64 Node181), (.int .u64 Serial182), (.int .i64 Code183)]) : Value) = (.agg #[(.bool In172), (.int .i64 Node173), (.int .i64 Node174), (.int .u64 Serial175), (.int .i64 Code176)])) ∧
 (ldI .i64 el169 Hx178 fun t184 =>
 ((.int .i64 t184) : Value) = (.int .i64 t170)) ∧
 (ldSl (ta165.add 29) Hx178 fun todoP185 todoL186 todoC187 =>
 ((.slice todoP185 todoL186 todoC187) : Value) = (.slice todoP166 todoL167 todoC168)) ∧
 (ldSl (ta161.add 26) Hx178 fun itemsP188 itemsL189 itemsC190 =>
 ((.slice itemsP188 itemsL189 itemsC190) : Value) = (.slice itemsP162 itemsL163 itemsC164)) ∧
 st ⟨b177, 0, none⟩ (.bool In172) Hx178 fun Hx191 =>
 st ⟨b177, 1, none⟩ (.int .i64 Node173) Hx191 fun Hx192 =>
 st ⟨b177, 2, none⟩ (.int .i64 Node174) Hx192 fun Hx193 =>
 st ⟨b177, 3, none⟩ (.int .u64 Serial175) Hx193 fun Hx194 =>
 st ⟨b177, 4, none⟩ (.int .i64 Code176) Hx194 fun Hx195 =>
 ldI .i64 ⟨b177, 1, none⟩ Hx195 fun Node196 =>
 ldI .i64 ⟨b177, 2, none⟩ Hx195 fun Node197 =>
 ldI .u64 ⟨b177, 3, none⟩ Hx195 fun Serial198 =>
 nilP t1 fun ta199 =>
 ldM (ta199.add 27) Hx195 fun stamps200 =>
 ldI .i64 ⟨b177, 1, none⟩ Hx195 fun Node201 =>
 evR PR (Instr.lookup ty_map_int_uint64 (.map stamps200) (.int .i64 Node201) false) Hx195 fun v202 =>
 asI .u64 v202 fun t203 =>
 st ⟨b10, 0, none⟩ (.int .i64 10) Hx195 fun Hx204 =>
 (evR PR (Instr.lookup ty_map_int_uint64 (.map stamps200) (.int .i64 Node201) false) Hx204 fun v205 =>
 asI .u64 v205 fun t206 =>
 ((.int .u64 t206) : Value) = (.int .u64 t203)) ∧
 (ldI .i64 ⟨b177, 1, none⟩ Hx204 fun Node207 =>
 ((.int .i64 Node207) : Value) = (.int .i64 Node201)) ∧
 (ldM (ta199.add 27) Hx204 fun stamps208 =>
 ((.map stamps208) : Value) = (.map stamps200)) ∧
 (ldI .i64 ⟨b177, 2, none⟩ Hx204 fun Node209 =>
 ldI .u64 ⟨b177, 3, none⟩ Hx204 fun Serial210 =>
 ((.agg #[(.int .i64 Node209), (.int .u64 Serial210)]) : Value) = (.agg #[(.int .i64 Node197), (.int .u64 Serial198)])) ∧
 (ldI .i64 ⟨b177, 1, none⟩ Hx204 fun Node211 =>
 ((.int .i64 Node211) : Value) = (.int .i64 Node196)) ∧
 st ⟨b10, 2, none⟩ (.int .i64 Node196) Hx204 fun Hx212 =>
 (evR PR (Instr.lookup ty_map_int_uint64 (.map stamps200) (.int .i64 Node201) false) Hx212 fun v213 =>
 asI .u64 v213 fun t214 =>
 ((.int .u64 t214) : Value) = (.int .u64 t203)) ∧
 (ldI .i64 ⟨b177, 1, none⟩ Hx212 fun Node215 =>
 ((.int .i64 Node215) : Value) = (.int .i64 Node201)) ∧
 (ldM (ta199.add 27) Hx212 fun stamps216 =>
 ((.map stamps216) : Value) = (.map stamps200)) ∧
 (ldI .i64 ⟨b177, 2, none⟩ Hx212 fun Node217 =>
 ldI .u64 ⟨b177, 3, none⟩ Hx212 fun Serial218 =>
 ((.agg #[(.int .i64 Node217), (.int .u64 Serial218)]) : Value) = (.agg #[(.int .i64 Node197), (.int .u64 Serial198)])) ∧
 st ⟨b10, 8, none⟩ (.int .i64 Node197) Hx212 fun Hx219 =>
 st ⟨b10, 9, none⟩ (.int .u64 Serial198) Hx219 fun Hx220 =>
 (evR PR (Instr.lookup ty_map_int_uint64 (.map stamps200) (.int .i64 Node201) false) Hx220 fun v221 =>
 asI .u64 v221 fun t222 =>
 ((.int .u64 t222) : Value) = (.int .u64 t203)) ∧
 (ldI .i64 ⟨b177, 1, none⟩ Hx220 fun Node223 =>
 ((.int .i64 Node223) : Value) = (.int .i64 Node201)) ∧
 (ldM (ta199.add 27) Hx220 fun stamps224 =>
 ((.map stamps224) : Value) = (.map stamps200)) ∧
 st ⟨b10, 17, none⟩ (.int .u64 t203) Hx220 fun Hx225 =>
 R34 Hx225
else
 R34 Hx33)))
theorem E_trace_Trace_question (t1 : Option Addr) (H : Hp) (K : Value → Hp → Prop) : B_trace_Trace_question t1 H K = denF Try.prog Try.f65 (.seq none .n (.seq none .n (.seq (some ⟨[], [2, 3]⟩) .n .n))) [(.pointer t1)] H K := by kernel_rfl
theorem den_trace_Trace_question {t1 : Option Addr} {H : Hp} {K : Value → Hp → Prop} (h : B_trace_Trace_question t1 H K) : hcall PR f_trace_Trace_question ⟨[(.pointer t1)]⟩ H K := denF_call Try.func65 PR_mixed (Eq.mp (E_trace_Trace_question t1 H K) h)

def B_trace_Trace_asked (t1 : Option Addr) (mKind2 : Int) (mFrom3 : Int) (mTo4 : Int) (mCall5 : Int) (mFloor6 : Int) (mOp7 : Int) (mField8 : Int) (mItem9 : Int) (mNode10 : Int) (mSerial11 : Int) (mRefsP12 : Option Addr) (mRefsL13 : Nat) (mRefsC14 : Nat) (mValue15 : Int) (mCode16 : Int) (mSeq17 : Int) (mVoucher18 : Int) (mAt19 : Int) (mDist20 : Int) (mStamp21 : Int) (mListP22 : Option Addr) (mListL23 : Nat) (mListC24 : Nat) (H : Hp) (K : Value → Hp → Prop) : Prop :=
 newB (.cells #[(.int .i64 mKind2), (.int .i64 mFrom3), (.int .i64 mTo4), (.int .u64 mCall5), (.int .u64 mFloor6), (.int .i64 mOp7), (.int .i64 mField8), (.int .i64 mItem9), (.int .i64 mNode10), (.int .u64 mSerial11), (.slice mRefsP12 mRefsL13 mRefsC14), (.int .u64 mValue15), (.int .i64 mCode16), (.int .u64 mSeq17), (.int .i64 mVoucher18), (.int .u64 mAt19), (.int .i64 mDist20), (.int .u64 mStamp21), (.slice mListP22 mListL23 mListC24)] ty_api_Msg) H fun b25 Hx26 =>
 nilP t1 fun ta27 =>
 ldSl (ta27.add 26) Hx26 fun itemsP28 itemsL29 itemsC30 =>
 nilP t1 fun ta31 =>
 ldI .i64 (ta31.add 28) Hx26 fun openx32 =>
 idxA itemsP28 itemsL29 openx32 5 fun el33 =>
 ldB el33 Hx26 fun In34 =>
 ldI .i64 (el33.add 1) Hx26 fun Node35 =>
 ldI .i64 (el33.add 2) Hx26 fun Node36 =>
 ldI .u64 (el33.add 3) Hx26 fun Serial37 =>
 ldI .i64 (el33.add 4) Hx26 fun Code38 =>
 newB (.cells #[(.bool false), (.int .i64 0), (.int .i64 0), (.int .u64 0), (.int .i64 0)] ty_trace_Item) Hx26 fun b39 Hx40 =>
 (ldB el33 Hx40 fun In41 =>
 ldI .i64 (el33.add 1) Hx40 fun Node42 =>
 ldI .i64 (el33.add 2) Hx40 fun Node43 =>
 ldI .u64 (el33.add 3) Hx40 fun Serial44 =>
 ldI .i64 (el33.add 4) Hx40 fun Code45 =>
 ((.agg #[(.bool In41), (.int .i64 Node42), (.int .i64 Node43), (.int .u64 Serial44), (.int .i64 Code45)]) : Value) = (.agg #[(.bool In34), (.int .i64 Node35), (.int .i64 Node36), (.int .u64 Serial37), (.int .i64 Code38)])) ∧
 (ldI .i64 (ta31.add 28) Hx40 fun openx46 =>
 ((.int .i64 openx46) : Value) = (.int .i64 openx32)) ∧
 (ldSl (ta27.add 26) Hx40 fun itemsP47 itemsL48 itemsC49 =>
 ((.slice itemsP47 itemsL48 itemsC49) : Value) = (.slice itemsP28 itemsL29 itemsC30)) ∧
 st ⟨b39, 0, none⟩ (.bool In34) Hx40 fun Hx50 =>
 st ⟨b39, 1, none⟩ (.int .i64 Node35) Hx50 fun Hx51 =>
 st ⟨b39, 2, none⟩ (.int .i64 Node36) Hx51 fun Hx52 =>
 st ⟨b39, 3, none⟩ (.int .u64 Serial37) Hx52 fun Hx53 =>
 st ⟨b39, 4, none⟩ (.int .i64 Code38) Hx53 fun Hx54 =>
 ∀ R55 : Hp → Prop, (∀ Hx56 : Hp, (
 hcall PR f_trace_Trace_next ⟨[(.pointer t1)]⟩ Hx56 fun v57 Hx58 =>
 nilP t1 fun ta59 =>
 ldI .i64 (ta59.add 28) Hx58 fun openx60 =>
 nilP t1 fun ta61 =>
 ldSl (ta61.add 26) Hx58 fun itemsP62 itemsL63 itemsC64 =>
 (bif (decide ((openx60 : Int) < (itemsL63 : Int))) then
 K (.tuple #[]) Hx58
else
 nilP t1 fun ta65 =>
 ldM (ta65.add 27) Hx58 fun stamps66 =>
 evW PR (Instr.range ty_map_int_uint64 (.map stamps66)) Hx58 fun v67 Hx68 =>
 asA v67 fun it69 =>
 ∃ (I70 : Hp → Prop) (m71 : Hp → Nat), I70 Hx68 ∧ ∀ Hx72 : Hp, I70 Hx72 →
 ∀ R73 : Bool → Hp → Prop, (∀ t75 : Bool, ∀ Hx74 : Hp, (
 (bif t75 then
 evW PR (Instr.entry (.pointer (some it69))) Hx74 fun en76 Hx77 =>
 extractD en76 0 fun v78 =>
 asI .i64 v78 fun t79 =>
 nilP t1 fun ta80 =>
 ldSl (ta80.add 29) Hx77 fun todoP81 todoL82 todoC83 =>
 newB (.cells #[(.int .i64 t79)] ty_int) Hx77 fun b84 Hx85 =>
 evW PR (Builtin.append_ #[ty_Sint, ty_Sint] ty_Sint #[(.slice todoP81 todoL82 todoC83), (.slice (some ⟨b84, 0, none⟩) 1 1)]) Hx85 fun v86 Hx87 =>
 asSl v86 fun tP88 tL89 tC90 =>
 nilP t1 fun ta91 =>
 st (ta91.add 29) (.slice tP88 tL89 tC90) Hx87 fun Hx92 =>
 I70 Hx92 ∧ m71 Hx92 < m71 Hx72
else
 nilP t1 fun ta93 =>
 ldSl (ta93.add 29) Hx74 fun todoP94 todoL95 todoC96 =>
 hcall PR f_slices_Sort_Sint_int ⟨[(.slice todoP94 todoL95 todoC96)]⟩ Hx74 fun v97 Hx98 =>
 nilP t1 fun ta99 =>
 ldSl (ta99.add 29) Hx98 fun todoP100 todoL101 todoC102 =>
 (bif (((todoL101 : Int) : Int) == 0) then
 hcall PR f_trace_Trace_finds ⟨[(.pointer t1)]⟩ Hx98 fun v103 Hx104 =>
 K (.tuple #[]) Hx104
else
 nilP t1 fun ta105 =>
 st (ta105.add 25) (.int .i64 2) Hx98 fun Hx106 =>
 K (.tuple #[]) Hx106))) → R73 t75 Hx74) →
 evW PR (Instr.next (.pointer (some it69)) false 0) Hx72 fun nx107 Hx108 =>
 nextC nx107 (
 R73 false Hx108) fun k109 x110 =>
 R73 true Hx108)) → R55 Hx56) →
 ldI .i64 ⟨b25, 12, none⟩ Hx54 fun Code111 =>
 (bif ((Code111 : Int) == 0) then
 nilP t1 fun ta112 =>
 ldSl (ta112.add 26) Hx54 fun itemsP113 itemsL114 itemsC115 =>
 nilP t1 fun ta116 =>
 ldI .i64 (ta116.add 28) Hx54 fun openx117 =>
 idxA itemsP113 itemsL114 openx117 5 fun el118 =>
 st (el118.add 4) (.int .i64 0) Hx54 fun Hx119 =>
 R55 Hx119
else
 (bif ((Code111 : Int) == 2) then
 nilP t1 fun ta120 =>
 ldSl (ta120.add 26) Hx54 fun itemsP121 itemsL122 itemsC123 =>
 nilP t1 fun ta124 =>
 ldI .i64 (ta124.add 28) Hx54 fun openx125 =>
 idxA itemsP121 itemsL122 openx125 5 fun el126 =>
 st (el126.add 4) (.int .i64 2) Hx54 fun Hx127 =>
 ∀ R128 : Hp → Prop, (∀ Hx129 : Hp, (
 nilP t1 fun ta130 =>
 ldM (ta130.add 27) Hx129 fun stamps131 =>
 ldI .i64 ⟨b39, 1, none⟩ Hx129 fun Node132 =>
 ldI .u64 ⟨b25, 17, none⟩ Hx129 fun Stamp133 =>
 evW PR (Instr.mapUpdate ty_map_int_uint64 (.map stamps131) (.int .i64 Node132) (.int .u64 Stamp133)) Hx129 fun v134 Hx135 =>
 ldB ⟨b39, 0, none⟩ Hx135 fun In136 =>
 ldI .i64 ⟨b39, 1, none⟩ Hx135 fun Node137 =>
 ldI .i64 ⟨b39, 2, none⟩ Hx135 fun Node138 =>
 ldI .u64 ⟨b39, 3, none⟩ Hx135 fun Serial139 =>
 ldI .i64 ⟨b39, 4, none⟩ Hx135 fun Code140 =>
 ldSl ⟨b25, 18, none⟩ Hx135 fun ListP141 ListL142 ListC143 =>
 hcall PR f_trace_Trace_more ⟨[(.pointer t1), (.agg #[(.bool In136), (.int .i64 Node137), (.int .i64 Node138), (.int .u64 Serial139), (.int .i64 Code140)]), (.slice ListP141 ListL142 ListC143)]⟩ Hx135 fun v144 Hx145 =>
 asB v144 fun t146 =>
 (bif (!t146) then
 hcall PR f_trace_Trace_over ⟨[(.pointer t1)]⟩ Hx145 fun v147 Hx148 =>
 K (.tuple #[]) Hx148
else
 R55 Hx145)) → R128 Hx129) →
 nilP t1 fun ta149 =>
 ldM (ta149.add 27) Hx127 fun stamps150 =>
 ldI .i64 ⟨b39, 1, none⟩ Hx127 fun Node151 =>
 evR PR (Instr.lookup ty_map_int_uint64 (.map stamps150) (.int .i64 Node151) true) Hx127 fun v152 =>
 tup2 v152 fun v153 v154 =>
 asI .u64 v153 fun t155 =>
 asB v154 fun t156 =>
 (bif t156 then
 ldI .u64 ⟨b25, 17, none⟩ Hx127 fun Stamp157 =>
 (bif ((t155 : Int) != Stamp157) then
 hcall PR f_trace_Trace_over ⟨[(.pointer t1)]⟩ Hx127 fun v158 Hx159 =>
 K (.tuple #[]) Hx159
else
 R128 Hx127)
else
 R128 Hx127)
else
 hcall PR f_trace_Trace_over ⟨[(.pointer t1)]⟩ Hx54 fun v160 Hx161 =>
 K (.tuple #[]) Hx161))
theorem E_trace_Trace_asked (t1 : Option Addr) (mKind2 : Int) (mFrom3 : Int) (mTo4 : Int) (mCall5 : Int) (mFloor6 : Int) (mOp7 : Int) (mField8 : Int) (mItem9 : Int) (mNode10 : Int) (mSerial11 : Int) (mRefsP12 : Option Addr) (mRefsL13 : Nat) (mRefsC14 : Nat) (mValue15 : Int) (mCode16 : Int) (mSeq17 : Int) (mVoucher18 : Int) (mAt19 : Int) (mDist20 : Int) (mStamp21 : Int) (mListP22 : Option Addr) (mListL23 : Nat) (mListC24 : Nat) (H : Hp) (K : Value → Hp → Prop) : B_trace_Trace_asked t1 mKind2 mFrom3 mTo4 mCall5 mFloor6 mOp7 mField8 mItem9 mNode10 mSerial11 mRefsP12 mRefsL13 mRefsC14 mValue15 mCode16 mSeq17 mVoucher18 mAt19 mDist20 mStamp21 mListP22 mListL23 mListC24 H K = denF Try.prog Try.f66 (.seq none .n (.seq none .n (.seq (some ⟨[], [0]⟩) (.seq none .n (.sub (.seq none .n (.two .n (.seq none .n (.two (.seq none .n (.seq (some ⟨[], [0, 3, 4]⟩) .n .n)) .n)))))) (.seq none .n (.seq none .n (.seq none (.seq none .n (.sub (.loop ⟨[], [0, 97]⟩ (.seq (some ⟨[(99, .bool)], [0, 97]⟩) .n .n)))) .n)))))) [(.pointer t1), (.agg #[(.int .i64 mKind2), (.int .i64 mFrom3), (.int .i64 mTo4), (.int .u64 mCall5), (.int .u64 mFloor6), (.int .i64 mOp7), (.int .i64 mField8), (.int .i64 mItem9), (.int .i64 mNode10), (.int .u64 mSerial11), (.slice mRefsP12 mRefsL13 mRefsC14), (.int .u64 mValue15), (.int .i64 mCode16), (.int .u64 mSeq17), (.int .i64 mVoucher18), (.int .u64 mAt19), (.int .i64 mDist20), (.int .u64 mStamp21), (.slice mListP22 mListL23 mListC24)])] H K := by kernel_rfl
theorem den_trace_Trace_asked {t1 : Option Addr} {mKind2 : Int} {mFrom3 : Int} {mTo4 : Int} {mCall5 : Int} {mFloor6 : Int} {mOp7 : Int} {mField8 : Int} {mItem9 : Int} {mNode10 : Int} {mSerial11 : Int} {mRefsP12 : Option Addr} {mRefsL13 : Nat} {mRefsC14 : Nat} {mValue15 : Int} {mCode16 : Int} {mSeq17 : Int} {mVoucher18 : Int} {mAt19 : Int} {mDist20 : Int} {mStamp21 : Int} {mListP22 : Option Addr} {mListL23 : Nat} {mListC24 : Nat} {H : Hp} {K : Value → Hp → Prop} (h : B_trace_Trace_asked t1 mKind2 mFrom3 mTo4 mCall5 mFloor6 mOp7 mField8 mItem9 mNode10 mSerial11 mRefsP12 mRefsL13 mRefsC14 mValue15 mCode16 mSeq17 mVoucher18 mAt19 mDist20 mStamp21 mListP22 mListL23 mListC24 H K) : hcall PR f_trace_Trace_asked ⟨[(.pointer t1), (.agg #[(.int .i64 mKind2), (.int .i64 mFrom3), (.int .i64 mTo4), (.int .u64 mCall5), (.int .u64 mFloor6), (.int .i64 mOp7), (.int .i64 mField8), (.int .i64 mItem9), (.int .i64 mNode10), (.int .u64 mSerial11), (.slice mRefsP12 mRefsL13 mRefsC14), (.int .u64 mValue15), (.int .i64 mCode16), (.int .u64 mSeq17), (.int .i64 mVoucher18), (.int .u64 mAt19), (.int .i64 mDist20), (.int .u64 mStamp21), (.slice mListP22 mListL23 mListC24)])]⟩ H K := denF_call Try.func66 PR_mixed (Eq.mp (E_trace_Trace_asked t1 mKind2 mFrom3 mTo4 mCall5 mFloor6 mOp7 mField8 mItem9 mNode10 mSerial11 mRefsP12 mRefsL13 mRefsC14 mValue15 mCode16 mSeq17 mVoucher18 mAt19 mDist20 mStamp21 mListP22 mListL23 mListC24 H K) h)

def B_trace_Trace_checked (t1 : Option Addr) (mKind2 : Int) (mFrom3 : Int) (mTo4 : Int) (mCall5 : Int) (mFloor6 : Int) (mOp7 : Int) (mField8 : Int) (mItem9 : Int) (mNode10 : Int) (mSerial11 : Int) (mRefsP12 : Option Addr) (mRefsL13 : Nat) (mRefsC14 : Nat) (mValue15 : Int) (mCode16 : Int) (mSeq17 : Int) (mVoucher18 : Int) (mAt19 : Int) (mDist20 : Int) (mStamp21 : Int) (mListP22 : Option Addr) (mListL23 : Nat) (mListC24 : Nat) (H : Hp) (K : Value → Hp → Prop) : Prop :=
 newB (.cells #[(.int .i64 mKind2), (.int .i64 mFrom3), (.int .i64 mTo4), (.int .u64 mCall5), (.int .u64 mFloor6), (.int .i64 mOp7), (.int .i64 mField8), (.int .i64 mItem9), (.int .i64 mNode10), (.int .u64 mSerial11), (.slice mRefsP12 mRefsL13 mRefsC14), (.int .u64 mValue15), (.int .i64 mCode16), (.int .u64 mSeq17), (.int .i64 mVoucher18), (.int .u64 mAt19), (.int .i64 mDist20), (.int .u64 mStamp21), (.slice mListP22 mListL23 mListC24)] ty_api_Msg) H fun b25 Hx26 =>
 ldI .u64 ⟨b25, 17, none⟩ Hx26 fun Stamp27 =>
 nilP t1 fun ta28 =>
 ldM (ta28.add 27) Hx26 fun stamps29 =>
 nilP t1 fun ta30 =>
 ldSl (ta30.add 29) Hx26 fun todoP31 todoL32 todoC33 =>
 idxA todoP31 todoL32 0 1 fun el34 =>
 ldI .i64 el34 Hx26 fun t35 =>
 evR PR (Instr.lookup ty_map_int_uint64 (.map stamps29) (.int .i64 t35) false) Hx26 fun v36 =>
 asI .u64 v36 fun t37 =>
 (bif ((Stamp27 : Int) != t37) then
 hcall PR f_trace_Trace_over ⟨[(.pointer t1)]⟩ Hx26 fun v38 Hx39 =>
 K (.tuple #[]) Hx39
else
 hcall PR f_trace_Trace_next ⟨[(.pointer t1)]⟩ Hx26 fun v40 Hx41 =>
 nilP t1 fun ta42 =>
 ldSl (ta42.add 29) Hx41 fun todoP43 todoL44 todoC45 =>
 slcD todoP43 todoL44 todoC45 (some 1) none 1 fun sP46 sL47 sC48 =>
 nilP t1 fun ta49 =>
 st (ta49.add 29) (.slice sP46 sL47 sC48) Hx41 fun Hx50 =>
 nilP t1 fun ta51 =>
 ldSl (ta51.add 29) Hx50 fun todoP52 todoL53 todoC54 =>
 (bif (decide (((todoL53 : Int) : Int) > 0)) then
 K (.tuple #[]) Hx50
else
 nilP t1 fun ta55 =>
 ldSl (ta55.add 26) Hx50 fun itemsP56 itemsL57 itemsC58 =>
 ∃ (I59 : Int → Hp → Prop) (m60 : Int → Hp → Nat), I59 0 Hx50 ∧ ∀ t62 : Int, ∀ Hx61 : Hp, I59 t62 Hx61 →
 (bif (decide ((t62 : Int) < (itemsL57 : Int))) then
 ∀ R63 : Hp → Prop, (∀ Hx64 : Hp, (
 I59 (IntKind.i64.wrap (t62 + 1)) Hx64 ∧ m60 (IntKind.i64.wrap (t62 + 1)) Hx64 < m60 t62 Hx61) → R63 Hx64) →
 idxA itemsP56 itemsL57 t62 5 fun el65 =>
 ldB el65 Hx61 fun In66 =>
 ldI .i64 (el65.add 1) Hx61 fun Node67 =>
 ldI .i64 (el65.add 2) Hx61 fun Node68 =>
 ldI .u64 (el65.add 3) Hx61 fun Serial69 =>
 ldI .i64 (el65.add 4) Hx61 fun Code70 =>
 newB (.cells #[(.bool false), (.int .i64 0), (.int .i64 0), (.int .u64 0), (.int .i64 0)] ty_trace_Item) Hx61 fun b71 Hx72 =>
 st ⟨b71, 0, none⟩ (.bool In66) Hx72 fun Hx73 =>
 st ⟨b71, 1, none⟩ (.int .i64 Node67) Hx73 fun Hx74 =>
 st ⟨b71, 2, none⟩ (.int .i64 Node68) Hx74 fun Hx75 =>
 st ⟨b71, 3, none⟩ (.int .u64 Serial69) Hx75 fun Hx76 =>
 st ⟨b71, 4, none⟩ (.int .i64 Code70) Hx76 fun Hx77 =>
 ldB ⟨b71, 0, none⟩ Hx77 fun In78 =>
 (bif In78 then
 ldI .i64 ⟨b71, 4, none⟩ Hx77 fun Code79 =>
 (bif ((Code79 : Int) == 2) then
 nilP t1 fun ta80 =>
 ldSl (ta80.add 29) Hx77 fun todoP81 todoL82 todoC83 =>
 newB (.cells #[(.int .i64 t62)] ty_int) Hx77 fun b84 Hx85 =>
 evW PR (Builtin.append_ #[ty_Sint, ty_Sint] ty_Sint #[(.slice todoP81 todoL82 todoC83), (.slice (some ⟨b84, 0, none⟩) 1 1)]) Hx85 fun v86 Hx87 =>
 asSl v86 fun tP88 tL89 tC90 =>
 nilP t1 fun ta91 =>
 st (ta91.add 29) (.slice tP88 tL89 tC90) Hx87 fun Hx92 =>
 R63 Hx92
else
 R63 Hx77)
else
 R63 Hx77)
else
 nilP t1 fun ta93 =>
 ldSl (ta93.add 29) Hx61 fun todoP94 todoL95 todoC96 =>
 (bif (((todoL95 : Int) : Int) == 0) then
 hcall PR f_trace_Trace_finds ⟨[(.pointer t1)]⟩ Hx61 fun v97 Hx98 =>
 K (.tuple #[]) Hx98
else
 nilP t1 fun ta99 =>
 st (ta99.add 25) (.int .i64 3) Hx61 fun Hx100 =>
 K (.tuple #[]) Hx100))))
theorem E_trace_Trace_checked (t1 : Option Addr) (mKind2 : Int) (mFrom3 : Int) (mTo4 : Int) (mCall5 : Int) (mFloor6 : Int) (mOp7 : Int) (mField8 : Int) (mItem9 : Int) (mNode10 : Int) (mSerial11 : Int) (mRefsP12 : Option Addr) (mRefsL13 : Nat) (mRefsC14 : Nat) (mValue15 : Int) (mCode16 : Int) (mSeq17 : Int) (mVoucher18 : Int) (mAt19 : Int) (mDist20 : Int) (mStamp21 : Int) (mListP22 : Option Addr) (mListL23 : Nat) (mListC24 : Nat) (H : Hp) (K : Value → Hp → Prop) : B_trace_Trace_checked t1 mKind2 mFrom3 mTo4 mCall5 mFloor6 mOp7 mField8 mItem9 mNode10 mSerial11 mRefsP12 mRefsL13 mRefsC14 mValue15 mCode16 mSeq17 mVoucher18 mAt19 mDist20 mStamp21 mListP22 mListL23 mListC24 H K = denF Try.prog Try.f67 (.seq none .n (.seq none .n (.seq none .n (.seq none .n (.seq none .n (.seq none (.seq none .n (.sub (.loop ⟨[(43, .int .i64)], [0, 41, 42]⟩ (.seq none .n (.seq none .n (.seq (some ⟨[], [0, 41, 42, 43]⟩) .n .n)))))) .n)))))) [(.pointer t1), (.agg #[(.int .i64 mKind2), (.int .i64 mFrom3), (.int .i64 mTo4), (.int .u64 mCall5), (.int .u64 mFloor6), (.int .i64 mOp7), (.int .i64 mField8), (.int .i64 mItem9), (.int .i64 mNode10), (.int .u64 mSerial11), (.slice mRefsP12 mRefsL13 mRefsC14), (.int .u64 mValue15), (.int .i64 mCode16), (.int .u64 mSeq17), (.int .i64 mVoucher18), (.int .u64 mAt19), (.int .i64 mDist20), (.int .u64 mStamp21), (.slice mListP22 mListL23 mListC24)])] H K := by kernel_rfl
theorem den_trace_Trace_checked {t1 : Option Addr} {mKind2 : Int} {mFrom3 : Int} {mTo4 : Int} {mCall5 : Int} {mFloor6 : Int} {mOp7 : Int} {mField8 : Int} {mItem9 : Int} {mNode10 : Int} {mSerial11 : Int} {mRefsP12 : Option Addr} {mRefsL13 : Nat} {mRefsC14 : Nat} {mValue15 : Int} {mCode16 : Int} {mSeq17 : Int} {mVoucher18 : Int} {mAt19 : Int} {mDist20 : Int} {mStamp21 : Int} {mListP22 : Option Addr} {mListL23 : Nat} {mListC24 : Nat} {H : Hp} {K : Value → Hp → Prop} (h : B_trace_Trace_checked t1 mKind2 mFrom3 mTo4 mCall5 mFloor6 mOp7 mField8 mItem9 mNode10 mSerial11 mRefsP12 mRefsL13 mRefsC14 mValue15 mCode16 mSeq17 mVoucher18 mAt19 mDist20 mStamp21 mListP22 mListL23 mListC24 H K) : hcall PR f_trace_Trace_checked ⟨[(.pointer t1), (.agg #[(.int .i64 mKind2), (.int .i64 mFrom3), (.int .i64 mTo4), (.int .u64 mCall5), (.int .u64 mFloor6), (.int .i64 mOp7), (.int .i64 mField8), (.int .i64 mItem9), (.int .i64 mNode10), (.int .u64 mSerial11), (.slice mRefsP12 mRefsL13 mRefsC14), (.int .u64 mValue15), (.int .i64 mCode16), (.int .u64 mSeq17), (.int .i64 mVoucher18), (.int .u64 mAt19), (.int .i64 mDist20), (.int .u64 mStamp21), (.slice mListP22 mListL23 mListC24)])]⟩ H K := denF_call Try.func67 PR_mixed (Eq.mp (E_trace_Trace_checked t1 mKind2 mFrom3 mTo4 mCall5 mFloor6 mOp7 mField8 mItem9 mNode10 mSerial11 mRefsP12 mRefsL13 mRefsC14 mValue15 mCode16 mSeq17 mVoucher18 mAt19 mDist20 mStamp21 mListP22 mListL23 mListC24 H K) h)

def B_trace_Trace_wasBuried (t1 : Option Addr) (H : Hp) (K : Value → Hp → Prop) : Prop :=
 hcall PR f_trace_Trace_next ⟨[(.pointer t1)]⟩ H fun v2 Hx3 =>
 nilP t1 fun ta4 =>
 ldSl (ta4.add 29) Hx3 fun todoP5 todoL6 todoC7 =>
 slcD todoP5 todoL6 todoC7 (some 1) none 1 fun sP8 sL9 sC10 =>
 nilP t1 fun ta11 =>
 st (ta11.add 29) (.slice sP8 sL9 sC10) Hx3 fun Hx12 =>
 nilP t1 fun ta13 =>
 ldSl (ta13.add 29) Hx12 fun todoP14 todoL15 todoC16 =>
 (bif (((todoL15 : Int) : Int) == 0) then
 hcall PR f_trace_Trace_finds ⟨[(.pointer t1)]⟩ Hx12 fun v17 Hx18 =>
 K (.tuple #[]) Hx18
else
 K (.tuple #[]) Hx12)
theorem E_trace_Trace_wasBuried (t1 : Option Addr) (H : Hp) (K : Value → Hp → Prop) : B_trace_Trace_wasBuried t1 H K = denF Try.prog Try.f68 .n [(.pointer t1)] H K := by kernel_rfl
theorem den_trace_Trace_wasBuried {t1 : Option Addr} {H : Hp} {K : Value → Hp → Prop} (h : B_trace_Trace_wasBuried t1 H K) : hcall PR f_trace_Trace_wasBuried ⟨[(.pointer t1)]⟩ H K := denF_call Try.func68 PR_mixed (Eq.mp (E_trace_Trace_wasBuried t1 H K) h)

def B_trace_Trace_over (t1 : Option Addr) (H : Hp) (K : Value → Hp → Prop) : Prop :=
 nilP t1 fun ta2 =>
 st (ta2.add 25) (.int .i64 0) H fun Hx3 =>
 nilP t1 fun ta4 =>
 st (ta4.add 26) (.slice none 0 0) Hx3 fun Hx5 =>
 nilP t1 fun ta6 =>
 st (ta6.add 27) (.map none) Hx5 fun Hx7 =>
 nilP t1 fun ta8 =>
 st (ta8.add 29) (.slice none 0 0) Hx7 fun Hx9 =>
 nilP t1 fun ta10 =>
 st (ta10.add 28) (.int .i64 0) Hx9 fun Hx11 =>
 nilP t1 fun ta12 =>
 st (ta12.add 30) (.int .u64 0) Hx11 fun Hx13 =>
 nilP t1 fun ta14 =>
 st (ta14.add 31) (.int .u64 0) Hx13 fun Hx15 =>
 K (.tuple #[]) Hx15
theorem E_trace_Trace_over (t1 : Option Addr) (H : Hp) (K : Value → Hp → Prop) : B_trace_Trace_over t1 H K = denF Try.prog Try.f95 .n [(.pointer t1)] H K := by kernel_rfl
theorem den_trace_Trace_over {t1 : Option Addr} {H : Hp} {K : Value → Hp → Prop} (h : B_trace_Trace_over t1 H K) : hcall PR f_trace_Trace_over ⟨[(.pointer t1)]⟩ H K := denF_call Try.func95 PR_mixed (Eq.mp (E_trace_Trace_over t1 H K) h)

def B_trace_Trace_more (t1 : Option Addr) (xIn2 : Bool) (xNode3 : Int) (xNode4 : Int) (xSerial5 : Int) (xCode6 : Int) (listP7 : Option Addr) (listL8 : Nat) (listC9 : Nat) (H : Hp) (K : Value → Hp → Prop) : Prop :=
 newB (.cells #[(.bool xIn2), (.int .i64 xNode3), (.int .i64 xNode4), (.int .u64 xSerial5), (.int .i64 xCode6)] ty_trace_Item) H fun b10 Hx11 =>
 ∃ (I12 : Int → Hp → Prop) (m13 : Int → Hp → Nat), I12 0 Hx11 ∧ ∀ t15 : Int, ∀ Hx14 : Hp, I12 t15 Hx14 →
 (bif (decide ((t15 : Int) < (listL8 : Int))) then
 ∀ R16 : Hp → Prop, (∀ Hx17 : Hp, (
 I12 (IntKind.i64.wrap (t15 + 1)) Hx17 ∧ m13 (IntKind.i64.wrap (t15 + 1)) Hx17 < m13 t15 Hx14) → R16 Hx17) →
 idxA listP7 listL8 t15 1 fun el18 =>
 ldI .u64 el18 Hx14 fun t19 =>
 (bif (decide ((t19 : Int) < 1)) then
 K (.bool false) Hx14
else
 (bif (decide ((t19 : Int) > 72057594037927935)) then
 K (.bool false) Hx14
else
 ldI .i64 ⟨b10, 1, none⟩ Hx14 fun Node20 =>
 ldI .i64 ⟨b10, 1, none⟩ Hx14 fun Node21 =>
 newB (.cells #[(.bool false), (.int .i64 0), (.int .i64 0), (.int .u64 0), (.int .i64 0)] ty_trace_Item) Hx14 fun b22 Hx23 =>
 st ⟨b22, 0, none⟩ (.bool true) Hx23 fun Hx24 =>
 st ⟨b22, 1, none⟩ (.int .i64 Node20) Hx24 fun Hx25 =>
 st ⟨b22, 2, none⟩ (.int .i64 Node21) Hx25 fun Hx26 =>
 st ⟨b22, 3, none⟩ (.int .u64 t19) Hx26 fun Hx27 =>
 st ⟨b22, 4, none⟩ (.int .i64 0) Hx27 fun Hx28 =>
 ∀ R29 : Hp → Prop, (∀ Hx30 : Hp, (
 nilP t1 fun ta31 =>
 ldSl (ta31.add 26) Hx30 fun itemsP32 itemsL33 itemsC34 =>
 hcall PR f_slices_ContainsFunc_Strace_Item_trace_Item ⟨[(.slice itemsP32 itemsL33 itemsC34), (.func (.func f_trace_Trace_more_1) #[] #[(.pointer (some ⟨b22, 0, none⟩))])]⟩ Hx30 fun v35 Hx36 =>
 asB v35 fun t37 =>
 (bif t37 then
 R16 Hx36
else
 nilP t1 fun ta38 =>
 ldSl (ta38.add 26) Hx36 fun itemsP39 itemsL40 itemsC41 =>
 (bif (decide (((itemsL40 : Int) : Int) ≥ 1000)) then
 K (.bool false) Hx36
else
 nilP t1 fun ta42 =>
 ldSl (ta42.add 26) Hx36 fun itemsP43 itemsL44 itemsC45 =>
 ldB ⟨b22, 0, none⟩ Hx36 fun In46 =>
 ldI .i64 ⟨b22, 1, none⟩ Hx36 fun Node47 =>
 ldI .i64 ⟨b22, 2, none⟩ Hx36 fun Node48 =>
 ldI .u64 ⟨b22, 3, none⟩ Hx36 fun Serial49 =>
 ldI .i64 ⟨b22, 4, none⟩ Hx36 fun Code50 =>
 newB (.cells #[(.bool In46), (.int .i64 Node47), (.int .i64 Node48), (.int .u64 Serial49), (.int .i64 Code50)] ty_trace_Item) Hx36 fun b51 Hx52 =>
 (ldSl (ta42.add 26) Hx52 fun itemsP53 itemsL54 itemsC55 =>
 ((.slice itemsP53 itemsL54 itemsC55) : Value) = (.slice itemsP43 itemsL44 itemsC45)) ∧
 evW PR (Builtin.append_ #[ty_Strace_Item, ty_Strace_Item] ty_Strace_Item #[(.slice itemsP43 itemsL44 itemsC45), (.slice (some ⟨b51, 0, none⟩) 1 1)]) Hx52 fun v56 Hx57 =>
 asSl v56 fun tP58 tL59 tC60 =>
 nilP t1 fun ta61 =>
 st (ta61.add 26) (.slice tP58 tL59 tC60) Hx57 fun Hx62 =>
 R16 Hx62))) → R29 Hx30) →
 ldB ⟨b10, 0, none⟩ Hx28 fun In63 =>
 (bif In63 then
 nilP t1 fun ta64 =>
 ldI .i64 ta64 Hx28 fun Nodes65 =>
 (bif (decide ((t19 : Int) > (IntKind.u64.wrap Nodes65))) then
 K (.bool false) Hx28
else
 ldI .i64 ⟨b10, 2, none⟩ Hx28 fun Node66 =>
 (bif (((IntKind.i64.wrap t19) : Int) == Node66) then
 K (.bool false) Hx28
else
 ldI .i64 ⟨b10, 2, none⟩ Hx28 fun Node67 =>
 ldI .u64 ⟨b10, 3, none⟩ Hx28 fun Serial68 =>
 st ⟨b22, 0, none⟩ (.bool false) Hx28 fun Hx69 =>
 st ⟨b22, 1, none⟩ (.int .i64 (IntKind.i64.wrap t19)) Hx69 fun Hx70 =>
 st ⟨b22, 2, none⟩ (.int .i64 Node67) Hx70 fun Hx71 =>
 st ⟨b22, 3, none⟩ (.int .u64 Serial68) Hx71 fun Hx72 =>
 st ⟨b22, 4, none⟩ (.int .i64 0) Hx72 fun Hx73 =>
 R29 Hx73))
else
 R29 Hx28)))
else
 K (.bool true) Hx14)
theorem E_trace_Trace_more (t1 : Option Addr) (xIn2 : Bool) (xNode3 : Int) (xNode4 : Int) (xSerial5 : Int) (xCode6 : Int) (listP7 : Option Addr) (listL8 : Nat) (listC9 : Nat) (H : Hp) (K : Value → Hp → Prop) : B_trace_Trace_more t1 xIn2 xNode3 xNode4 xSerial5 xCode6 listP7 listL8 listC9 H K = denF Try.prog Try.f96 (.seq none .n (.seq none (.seq none .n (.sub (.loop ⟨[(13, .int .i64)], [0, 4, 11, 12]⟩ (.seq none .n (.seq none .n (.seq (some ⟨[], [0, 4, 11, 12, 13]⟩) (.sub (.seq none .n (.seq none .n (.seq none .n (.seq (some ⟨[], [0, 4, 9, 11, 12, 13]⟩) .n .n))))) .n)))))) .n)) [(.pointer t1), (.agg #[(.bool xIn2), (.int .i64 xNode3), (.int .i64 xNode4), (.int .u64 xSerial5), (.int .i64 xCode6)]), (.slice listP7 listL8 listC9)] H K := by kernel_rfl
theorem den_trace_Trace_more {t1 : Option Addr} {xIn2 : Bool} {xNode3 : Int} {xNode4 : Int} {xSerial5 : Int} {xCode6 : Int} {listP7 : Option Addr} {listL8 : Nat} {listC9 : Nat} {H : Hp} {K : Value → Hp → Prop} (h : B_trace_Trace_more t1 xIn2 xNode3 xNode4 xSerial5 xCode6 listP7 listL8 listC9 H K) : hcall PR f_trace_Trace_more ⟨[(.pointer t1), (.agg #[(.bool xIn2), (.int .i64 xNode3), (.int .i64 xNode4), (.int .u64 xSerial5), (.int .i64 xCode6)]), (.slice listP7 listL8 listC9)]⟩ H K := denF_call Try.func96 PR_mixed (Eq.mp (E_trace_Trace_more t1 xIn2 xNode3 xNode4 xSerial5 xCode6 listP7 listL8 listC9 H K) h)

def B_trace_Trace_next (t1 : Option Addr) (H : Hp) (K : Value → Hp → Prop) : Prop :=
 nilP t1 fun ta2 =>
 ldI .i64 (ta2.add 28) H fun openx3 =>
 nilP t1 fun ta4 =>
 st (ta4.add 28) (.int .i64 (IntKind.i64.wrap (openx3 + 1))) H fun Hx5 =>
 nilP t1 fun ta6 =>
 st (ta6.add 30) (.int .u64 0) Hx5 fun Hx7 =>
 nilP t1 fun ta8 =>
 st (ta8.add 31) (.int .u64 0) Hx7 fun Hx9 =>
 K (.tuple #[]) Hx9
theorem E_trace_Trace_next (t1 : Option Addr) (H : Hp) (K : Value → Hp → Prop) : B_trace_Trace_next t1 H K = denF Try.prog Try.f97 .n [(.pointer t1)] H K := by kernel_rfl
theorem den_trace_Trace_next {t1 : Option Addr} {H : Hp} {K : Value → Hp → Prop} (h : B_trace_Trace_next t1 H K) : hcall PR f_trace_Trace_next ⟨[(.pointer t1)]⟩ H K := denF_call Try.func97 PR_mixed (Eq.mp (E_trace_Trace_next t1 H K) h)

def B_trace_Trace_finds (t1 : Option Addr) (H : Hp) (K : Value → Hp → Prop) : Prop :=
 nilP t1 fun ta2 =>
 ldI .i64 (ta2.add 24) H fun found3 =>
 nilP t1 fun ta4 =>
 st (ta4.add 24) (.int .i64 (IntKind.i64.wrap (found3 + 1))) H fun Hx5 =>
 hcall PR f_trace_Trace_over ⟨[(.pointer t1)]⟩ Hx5 fun v6 Hx7 =>
 K (.tuple #[]) Hx7
theorem E_trace_Trace_finds (t1 : Option Addr) (H : Hp) (K : Value → Hp → Prop) : B_trace_Trace_finds t1 H K = denF Try.prog Try.f99 .n [(.pointer t1)] H K := by kernel_rfl
theorem den_trace_Trace_finds {t1 : Option Addr} {H : Hp} {K : Value → Hp → Prop} (h : B_trace_Trace_finds t1 H K) : hcall PR f_trace_Trace_finds ⟨[(.pointer t1)]⟩ H K := denF_call Try.func99 PR_mixed (Eq.mp (E_trace_Trace_finds t1 H K) h)

def B_trace_Trace_more_1 (zIn1 : Bool) (zNode2 : Int) (zNode3 : Int) (zSerial4 : Int) (zCode5 : Int) (cap6 : Option Addr) (H : Hp) (K : Value → Hp → Prop) : Prop :=
 newB (.cells #[(.bool zIn1), (.int .i64 zNode2), (.int .i64 zNode3), (.int .u64 zSerial4), (.int .i64 zCode5)] ty_trace_Item) H fun b7 Hx8 =>
 ldB ⟨b7, 0, none⟩ Hx8 fun In9 =>
 asA (.pointer cap6) fun capa10 =>
 ldB capa10 Hx8 fun In11 =>
 (bif (In9 == In11) then
 ldI .i64 ⟨b7, 1, none⟩ Hx8 fun Node12 =>
 asA (.pointer cap6) fun capa13 =>
 ldI .i64 (capa13.add 1) Hx8 fun Node14 =>
 (bif ((Node12 : Int) == Node14) then
 ldI .i64 ⟨b7, 2, none⟩ Hx8 fun Node15 =>
 ldI .u64 ⟨b7, 3, none⟩ Hx8 fun Serial16 =>
 asA (.pointer cap6) fun capa17 =>
 ldI .i64 (capa17.add 2) Hx8 fun Node18 =>
 ldI .u64 ((capa17.add 2).add 1) Hx8 fun Serial19 =>
 evR PR (aggEq .eql ty_api_ID #[(.int .i64 Node15), (.int .u64 Serial16)] #[(.int .i64 Node18), (.int .u64 Serial19)]) Hx8 fun v20 =>
 asB v20 fun eq21 =>
 K (.bool eq21) Hx8
else
 K (.bool false) Hx8)
else
 K (.bool false) Hx8)
theorem E_trace_Trace_more_1 (zIn1 : Bool) (zNode2 : Int) (zNode3 : Int) (zSerial4 : Int) (zCode5 : Int) (cap6 : Option Addr) (H : Hp) (K : Value → Hp → Prop) : B_trace_Trace_more_1 zIn1 zNode2 zNode3 zSerial4 zCode5 cap6 H K = denF Try.prog Try.f114 .n [(.agg #[(.bool zIn1), (.int .i64 zNode2), (.int .i64 zNode3), (.int .u64 zSerial4), (.int .i64 zCode5)]), (.pointer cap6)] H K := by kernel_rfl
theorem den_trace_Trace_more_1 {zIn1 : Bool} {zNode2 : Int} {zNode3 : Int} {zSerial4 : Int} {zCode5 : Int} {cap6 : Option Addr} {H : Hp} {K : Value → Hp → Prop} (h : B_trace_Trace_more_1 zIn1 zNode2 zNode3 zSerial4 zCode5 cap6 H K) : hcall PR f_trace_Trace_more_1 ⟨[(.agg #[(.bool zIn1), (.int .i64 zNode2), (.int .i64 zNode3), (.int .u64 zSerial4), (.int .i64 zCode5)]), (.pointer cap6)]⟩ H K := denF_call Try.func114 PR_mixed (Eq.mp (E_trace_Trace_more_1 zIn1 zNode2 zNode3 zSerial4 zCode5 cap6 H K) h)

end Go.Proofs.Ytknejebggegfjaa

namespace Go.Proofs.Ytknejebggegfjaa
open Go
set_option linter.unusedVariables false
set_option maxRecDepth 100000
def B_clock_Past (atx1 : Int) (span2 : Int) (now3 : Int) (H : Hp) (K : Value → Hp → Prop) : Prop :=
 (bif (decide ((now3 : Int) ≥ atx1)) then
 K (.bool (decide (((IntKind.u64.wrap (now3 - atx1)) : Int) ≥ span2))) H
else
 K (.bool false) H)
theorem E_clock_Past (atx1 : Int) (span2 : Int) (now3 : Int) (H : Hp) (K : Value → Hp → Prop) : B_clock_Past atx1 span2 now3 H K = denF Try.prog Try.f63 .n [(.int .u64 atx1), (.int .u64 span2), (.int .u64 now3)] H K := by kernel_rfl
theorem den_clock_Past {atx1 : Int} {span2 : Int} {now3 : Int} {H : Hp} {K : Value → Hp → Prop} (h : B_clock_Past atx1 span2 now3 H K) : hcall PR f_clock_Past ⟨[(.int .u64 atx1), (.int .u64 span2), (.int .u64 now3)]⟩ H K := denF_call Try.func63 PR_mixed (Eq.mp (E_clock_Past atx1 span2 now3 H K) h)

end Go.Proofs.Ytknejebggegfjaa

namespace Go.Proofs.Ytknejebggegfjaa
open Go
set_option linter.unusedVariables false
set_option maxRecDepth 100000
def B_lease_Wait (wait1 : Int) (first2 : Int) (most3 : Int) (H : Hp) (K : Value → Hp → Prop) : Prop :=
 (bif ((wait1 : Int) == 0) then
 K (.int .u64 (if most3 < first2 then most3 else first2)) H
else
 (2 : Int) ≠ 0 ∧
 (bif (decide ((wait1 : Int) > (IntKind.u64.wrap (Int.tdiv most3 2)))) then
 K (.int .u64 most3) H
else
 K (.int .u64 (IntKind.u64.wrap (2 * wait1))) H))
theorem E_lease_Wait (wait1 : Int) (first2 : Int) (most3 : Int) (H : Hp) (K : Value → Hp → Prop) : B_lease_Wait wait1 first2 most3 H K = denF Try.prog Try.f64 .n [(.int .u64 wait1), (.int .u64 first2), (.int .u64 most3)] H K := by kernel_rfl
theorem den_lease_Wait {wait1 : Int} {first2 : Int} {most3 : Int} {H : Hp} {K : Value → Hp → Prop} (h : B_lease_Wait wait1 first2 most3 H K) : hcall PR f_lease_Wait ⟨[(.int .u64 wait1), (.int .u64 first2), (.int .u64 most3)]⟩ H K := denF_call Try.func64 PR_mixed (Eq.mp (E_lease_Wait wait1 first2 most3 H K) h)

end Go.Proofs.Ytknejebggegfjaa

namespace Go.Proofs.Ytknejebggegfjaa
set_option linter.unusedSimpArgs false
set_option linter.unusedVariables false
open Go
/-- A config. -/
structure Cf where
  a0 : Int
  a1 : Int
  a2 : Int
  a3 : Int
  a4 : Int
  a5 : Int
  a6 : Int
  a7 : Int
  a8 : Int
  a9 : Int
  a10 : Int
  a11 : Int
  a12 : Int
  a13 : Int
  a14 : Int
  a15 : Int
  a16 : Int
  a17 : Int
  a18 : Int
  a19 : Int
  a20 : Int
  a21 : Int
def Cf.val (c : Cf) : Value := .agg #[.int .i64 c.a0, .int .i64 c.a1, .int .i64 c.a2, .int .i64 c.a3, .int .i64 c.a4, .int .i64 c.a5, .int .i64 c.a6, .int .i64 c.a7, .int .i64 c.a8, .int .i64 c.a9, .int .i64 c.a10, .int .u64 c.a11, .int .u64 c.a12, .int .u64 c.a13, .int .u64 c.a14, .int .u64 c.a15, .int .u64 c.a16, .int .i64 c.a17, .int .i64 c.a18, .int .i64 c.a19, .int .u64 c.a20, .int .u64 c.a21]
structure TrX where
  ip : Option Addr
  ic : Nat
  mb : Nat
  tp : Option Addr
  tc : Nat
  T : Nat
def trB (b : Nat) (c : Cf) (n u f s : Int) (iv mv : Value) (o : Int) (tv : Value) (se w : Int) (T : Nat) : Prt := Prt.one b (.cells #[.int .i64 c.a0, .int .i64 c.a1, .int .i64 c.a2, .int .i64 c.a3, .int .i64 c.a4, .int .i64 c.a5, .int .i64 c.a6, .int .i64 c.a7, .int .i64 c.a8, .int .i64 c.a9, .int .i64 c.a10, .int .u64 c.a11, .int .u64 c.a12, .int .u64 c.a13, .int .u64 c.a14, .int .u64 c.a15, .int .u64 c.a16, .int .i64 c.a17, .int .i64 c.a18, .int .i64 c.a19, .int .u64 c.a20, .int .u64 c.a21, .int .i64 n, .int .u64 u, .int .i64 f, .int .i64 s, iv, mv, .int .i64 o, tv, .int .u64 se, .int .u64 w] T (0, 0))
def trRaw (b : Nat) (c : Cf) (t : Tr) (x : TrX) (mv : Value) (mp : Prt) (F : Prop) : List Prt :=
  [trB b c t.node t.num t.found t.st (.slice x.ip t.items.length x.ic) mv t.opn (.slice x.tp t.todo.length x.tc) t.sent t.wait x.T, Prt.row 5 x.ip t.items.length x.ic (cel It.cells t.items), mp, Prt.row 1 x.tp t.todo.length x.tc (t.todo.map (Value.int .i64)), Prt.pure F]
def smV (t : Tr) (x : TrX) : Value := if t.st = 0 then .map none else .map (some x.mb)
def smP (t : Tr) (x : TrX) : Prt := if t.st = 0 then Prt.nil else Prt.mp x.mb (ments (Value.int .i64) (Value.int .u64) t.sm)
def TrP (b : Nat) (c : Cf) (t : Tr) : Prt := Prt.ex fun x => Prt.list (trRaw b c t x (smV t x) (smP t x) (t.ok c.a0))
def Qn.val (q : Qn) : Value := .agg #[.int .i64 q.kind, .int .i64 q.frm, .int .i64 q.to, .int .u64 q.call, .int .u64 0, .int .i64 q.op, .int .i64 0, .int .i64 q.item, .int .i64 q.tgt.n, .int .u64 q.tgt.s, .slice none 0 0, .int .u64 0, .int .i64 0, .int .u64 0, .int .i64 0, .int .u64 0, .int .i64 0, .int .u64 q.stamp, .slice none 0 0]
def Qn.cells (q : Qn) : List Value := [.int .i64 q.kind, .int .i64 q.frm, .int .i64 q.to, .int .u64 q.call, .int .u64 0, .int .i64 q.op, .int .i64 0, .int .i64 q.item, .int .i64 q.tgt.n, .int .u64 q.tgt.s, .slice none 0 0, .int .u64 0, .int .i64 0, .int .u64 0, .int .i64 0, .int .u64 0, .int .i64 0, .int .u64 q.stamp, .slice none 0 0]

theorem smK : KeyK PR ty_int (Value.int .i64 : Int → Value) := KeyK.int (by kernel_rfl)
theorem smT : PR.underlying ty_map_int_uint64 = some (.map ty_int ty_uint64) := by kernel_rfl

section
variable {H0 H : Hp} {L M : List Prt} {i k tb : Nat} {c : Cf} {t : Tr} {x : TrX} {mv : Value} {mp : Prt} {F : Prop} {K : Value → Hp → Prop}
theorem trTake (h : St H0 L H) (hk : L[k]? = some (TrP tb c t)) : ∃ x M, St H0 (trRaw tb c t x (smV t x) (smP t x) True ++ M) H ∧ t.ok c.a0 ∧ (∀ i A, L[i]? = some A → i ≠ k → M[i]? = some A) ∧
    ∀ N t' x' H', t'.ok c.a0 → St H0 (N ++ (trRaw tb c t' x' (smV t' x') (smP t' x') True ++ M)) H' → St H0 (N ++ L.set k (TrP tb c t')) H' := by
  obtain ⟨x, h1⟩ := h.openEx (M := fun x => trRaw tb c t x (smV t x) (smP t x) (t.ok c.a0)) hk
  have hf : t.ok c.a0 := h1.fact (i := 4) rfl
  refine ⟨x, _, h1.refact (i := 4) (q := True) rfl trivial, hf, fun i A hi hij => ?_, fun N t' x' H' ho h' => ?_⟩
  · rw [List.getElem?_set_ne (Ne.symm hij)]; exact hi
  · have h2 := h'.refact (i := N.length + 4) (p := True) (q := t'.ok c.a0) (by rw [List.getElem?_append_right (Nat.le_add_right _ _), Nat.add_sub_cancel_left]; rfl) ho
    rw [List.set_append_right _ _ (Nat.le_add_right _ _), Nat.add_sub_cancel_left] at h2
    exact St.shutExN (A := fun x => trRaw tb c t' x (smV t' x) (smP t' x) (t'.ok c.a0)) (N := N) x' h2 hk
theorem trOverC (g : St H0 (trRaw tb c t x mv mp F ++ M) H) (hK : ∀ x' H', St H0 (trRaw tb c t.over x' (.map none) .nil F ++ M) H' → K (.tuple #[]) H') : hcall PR f_trace_Trace_over ⟨[.pointer (some ⟨tb, 0, none⟩)]⟩ H K := by
  apply den_trace_Trace_over
  unfold B_trace_Trace_over
  (try simp only [asI_mk', asB_mk, asP_mk, asA_mk, asM_mk, asSl_mk, asStr_mk, tup2_mk, tup3_mk, agg1_mk, agg2_mk, agg3_mk, agg4_mk, asAggm, unCons_mk, unNil_mk, asTup_mk, extractD0, extractD1, List.toList_toArray, nilP_mk, add_mk, Nat.zero_add, Nat.add_zero, condT, condF, Bool.not_true, Bool.not_false, Option.isNone_some, Option.isNone_none])
  refine g.put (i := 0) rfl (show 25 < 32 by decide) fun H1 g1 => ?_
  have g1 : St H0 (trB tb c t.node t.num t.found 0 (.slice x.ip t.items.length x.ic) mv t.opn (.slice x.tp t.todo.length x.tc) t.sent t.wait x.T :: Prt.row 5 x.ip t.items.length x.ic (cel It.cells t.items) :: mp :: Prt.row 1 x.tp t.todo.length x.tc (t.todo.map (Value.int .i64)) :: Prt.pure F :: M) H1 := g1
  refine g1.put (i := 0) rfl (show 26 < 32 by decide) fun H2 g2 => ?_
  have g2 : St H0 (trB tb c t.node t.num t.found 0 (.slice none 0 0) mv t.opn (.slice x.tp t.todo.length x.tc) t.sent t.wait x.T :: Prt.row 5 x.ip t.items.length x.ic (cel It.cells t.items) :: mp :: Prt.row 1 x.tp t.todo.length x.tc (t.todo.map (Value.int .i64)) :: Prt.pure F :: M) H2 := g2
  refine g2.put (i := 0) rfl (show 27 < 32 by decide) fun H3 g3 => ?_
  have g3 : St H0 (trB tb c t.node t.num t.found 0 (.slice none 0 0) (.map none) t.opn (.slice x.tp t.todo.length x.tc) t.sent t.wait x.T :: Prt.row 5 x.ip t.items.length x.ic (cel It.cells t.items) :: mp :: Prt.row 1 x.tp t.todo.length x.tc (t.todo.map (Value.int .i64)) :: Prt.pure F :: M) H3 := g3
  refine g3.put (i := 0) rfl (show 29 < 32 by decide) fun H4 g4 => ?_
  have g4 : St H0 (trB tb c t.node t.num t.found 0 (.slice none 0 0) (.map none) t.opn (.slice none 0 0) t.sent t.wait x.T :: Prt.row 5 x.ip t.items.length x.ic (cel It.cells t.items) :: mp :: Prt.row 1 x.tp t.todo.length x.tc (t.todo.map (Value.int .i64)) :: Prt.pure F :: M) H4 := g4
  refine g4.put (i := 0) rfl (show 28 < 32 by decide) fun H5 g5 => ?_
  have g5 : St H0 (trB tb c t.node t.num t.found 0 (.slice none 0 0) (.map none) 0 (.slice none 0 0) t.sent t.wait x.T :: Prt.row 5 x.ip t.items.length x.ic (cel It.cells t.items) :: mp :: Prt.row 1 x.tp t.todo.length x.tc (t.todo.map (Value.int .i64)) :: Prt.pure F :: M) H5 := g5
  refine g5.put (i := 0) rfl (show 30 < 32 by decide) fun H6 g6 => ?_
  have g6 : St H0 (trB tb c t.node t.num t.found 0 (.slice none 0 0) (.map none) 0 (.slice none 0 0) 0 t.wait x.T :: Prt.row 5 x.ip t.items.length x.ic (cel It.cells t.items) :: mp :: Prt.row 1 x.tp t.todo.length x.tc (t.todo.map (Value.int .i64)) :: Prt.pure F :: M) H6 := g6
  refine g6.put (i := 0) rfl (show 31 < 32 by decide) fun H7 g7 => ?_
  have g7 : St H0 (trB tb c t.node t.num t.found 0 (.slice none 0 0) (.map none) 0 (.slice none 0 0) 0 0 x.T :: Prt.row 5 x.ip t.items.length x.ic (cel It.cells t.items) :: mp :: Prt.row 1 x.tp t.todo.length x.tc (t.todo.map (Value.int .i64)) :: Prt.pure F :: M) H7 := g7
  have e1 := St.over (i := 1) (g7.row (H' := _) (Own.nil 5) ((Goes.refl Nothing _).less fun c hc => absurd hc blk_none)) rfl
  have e2 := St.over (i := 3) (e1.row (H' := _) (Own.nil 1) ((Goes.refl Nothing _).less fun c hc => absurd hc blk_none)) rfl
  have e3 := e2.void (i := 2) rfl
  exact hK { x with ip := none, ic := 0, tp := none, tc := 0 } H7 e3
theorem trFindsC (g : St H0 (trRaw tb c t x mv mp F ++ M) H) (hK : ∀ x' H', St H0 (trRaw tb c t.finds x' (.map none) .nil F ++ M) H' → K (.tuple #[]) H') : hcall PR f_trace_Trace_finds ⟨[.pointer (some ⟨tb, 0, none⟩)]⟩ H K := by
  apply den_trace_Trace_finds
  unfold B_trace_Trace_finds
  (try simp only [asI_mk', asB_mk, asP_mk, asA_mk, asM_mk, asSl_mk, asStr_mk, tup2_mk, tup3_mk, agg1_mk, agg2_mk, agg3_mk, agg4_mk, asAggm, unCons_mk, unNil_mk, asTup_mk, extractD0, extractD1, List.toList_toArray, nilP_mk, add_mk, Nat.zero_add, Nat.add_zero, condT, condF, Bool.not_true, Bool.not_false, Option.isNone_some, Option.isNone_none])
  refine ldI_of (g.cell (i := 0) rfl rfl) (g.put (i := 0) rfl (show 24 < 32 by decide) fun H1 g1 => ?_)
  have g1 : St H0 (trRaw tb c { t with found := IntKind.i64.wrap (t.found + 1) } x mv mp F ++ M) H1 := g1
  refine trOverC g1 fun x' H2 g2 => ?_
  (try simp only [asI_mk', asB_mk, asP_mk, asA_mk, asM_mk, asSl_mk, asStr_mk, tup2_mk, tup3_mk, agg1_mk, agg2_mk, agg3_mk, agg4_mk, asAggm, unCons_mk, unNil_mk, asTup_mk, extractD0, extractD1, List.toList_toArray, nilP_mk, add_mk, Nat.zero_add, Nat.add_zero, condT, condF, Bool.not_true, Bool.not_false, Option.isNone_some, Option.isNone_none])
  exact hK x' H2 g2
theorem trNextC (g : St H0 (trRaw tb c t x mv mp F ++ M) H) (hK : ∀ H', St H0 (trRaw tb c t.next x mv mp F ++ M) H' → K (.tuple #[]) H') : hcall PR f_trace_Trace_next ⟨[.pointer (some ⟨tb, 0, none⟩)]⟩ H K := by
  apply den_trace_Trace_next
  unfold B_trace_Trace_next
  (try simp only [asI_mk', asB_mk, asP_mk, asA_mk, asM_mk, asSl_mk, asStr_mk, tup2_mk, tup3_mk, agg1_mk, agg2_mk, agg3_mk, agg4_mk, asAggm, unCons_mk, unNil_mk, asTup_mk, extractD0, extractD1, List.toList_toArray, nilP_mk, add_mk, Nat.zero_add, Nat.add_zero, condT, condF, Bool.not_true, Bool.not_false, Option.isNone_some, Option.isNone_none])
  refine ldI_of (g.cell (i := 0) rfl rfl) ?_
  refine g.put (i := 0) rfl (show 28 < 32 by decide) fun H1 g1 => ?_
  have g1 : St H0 (trB tb c t.node t.num t.found t.st (.slice x.ip t.items.length x.ic) mv (IntKind.i64.wrap (t.opn + 1)) (.slice x.tp t.todo.length x.tc) t.sent t.wait x.T :: Prt.row 5 x.ip t.items.length x.ic (cel It.cells t.items) :: mp :: Prt.row 1 x.tp t.todo.length x.tc (t.todo.map (Value.int .i64)) :: Prt.pure F :: M) H1 := g1
  refine g1.put (i := 0) rfl (show 30 < 32 by decide) fun H2 g2 => ?_
  have g2 : St H0 (trB tb c t.node t.num t.found t.st (.slice x.ip t.items.length x.ic) mv (IntKind.i64.wrap (t.opn + 1)) (.slice x.tp t.todo.length x.tc) 0 t.wait x.T :: Prt.row 5 x.ip t.items.length x.ic (cel It.cells t.items) :: mp :: Prt.row 1 x.tp t.todo.length x.tc (t.todo.map (Value.int .i64)) :: Prt.pure F :: M) H2 := g2
  refine g2.put (i := 0) rfl (show 31 < 32 by decide) fun H3 g3 => ?_
  have g3 : St H0 (trB tb c t.node t.num t.found t.st (.slice x.ip t.items.length x.ic) mv (IntKind.i64.wrap (t.opn + 1)) (.slice x.tp t.todo.length x.tc) 0 0 x.T :: Prt.row 5 x.ip t.items.length x.ic (cel It.cells t.items) :: mp :: Prt.row 1 x.tp t.todo.length x.tc (t.todo.map (Value.int .i64)) :: Prt.pure F :: M) H3 := g3
  exact hK H3 g3
theorem pastC {a s n : Int} (hK : K (.bool (pastB a s n)) H) : hcall PR f_clock_Past ⟨[.int .u64 a, .int .u64 s, .int .u64 n]⟩ H K := by
  apply den_clock_Past
  unfold B_clock_Past
  unfold pastB at hK
  by_cases h : n ≥ a
  · refine bif_pos h ?_
    rw [decide_eq_true h, Bool.true_and] at hK
    exact hK
  · refine bif_neg h ?_
    rw [decide_eq_false h, Bool.false_and] at hK
    exact hK
theorem lWaitC {w a b : Int} (hK : K (.int .u64 (lWait w a b)) H) : hcall PR f_lease_Wait ⟨[.int .u64 w, .int .u64 a, .int .u64 b]⟩ H K := by
  apply den_lease_Wait
  unfold B_lease_Wait
  unfold lWait at hK
  by_cases h : w = 0
  · refine bif_eq h ?_
    rw [if_pos h] at hK
    exact hK
  · rw [if_neg h] at hK
    refine bif_ne h ⟨by decide, ?_⟩
    by_cases h2 : w > IntKind.u64.wrap (Int.tdiv b 2)
    · refine bif_pos h2 ?_
      rw [if_pos h2] at hK
      exact hK
    · refine bif_neg h2 ?_
      rw [if_neg h2] at hK
      exact hK
/-- An item is read. -/
theorem itRd (g : St H0 (trRaw tb c t x mv mp F ++ M) H) {j : Int} {Q : Addr → Prop} (h0 : 0 ≤ j) (h1 : j < t.items.length)
    (hQ : ∀ b o, x.ip = some ⟨b, o, none⟩ → (∀ N H', St H0 (N ++ (trRaw tb c t x mv mp F ++ M)) H' → ∀ q, q < 5 → hcell H' ⟨b, o + j.toNat * 5 + q, none⟩ = (It.cells (t.items.getD j.toNat noIt))[q]?) → Q ⟨b, o + j.toNat * 5, none⟩) : idxA x.ip t.items.length j 5 Q := by
  refine idxS It.len noIt (g.row_rd (i := 1) rfl) (by omega) h0 h1 fun b o hp hl _ => hQ b o hp fun N H' h' q hq => ?_
  have r : Rd H' 5 x.ip t.items.length (cel It.cells t.items) := (St.lesses (M := N) h').row_rd (i := 1) rfl
  have hp' := hp
  rw [hp] at r
  obtain ⟨r1, r2, r3⟩ := r
  have hlen := cel_len It.len (l := t.items)
  have h4 : j.toNat * 5 + q < t.items.length * 5 := by
    have : (j.toNat + 1) * 5 ≤ t.items.length * 5 := Nat.mul_le_mul_right _ hl
    omega
  have h5 := r3 (j.toNat * 5 + q) h4
  rw [cel_get It.len noIt hl hq, ← Nat.add_assoc] at h5
  exact h5
theorem tdRd (g : St H0 (trRaw tb c t x mv mp F ++ M) H) {Q : Addr → Prop} (h1 : t.todo ≠ []) (hl : t.todo.length ≤ 1000000)
    (hQ : ∀ a, (∀ N H', St H0 (N ++ (trRaw tb c t x mv mp F ++ M)) H' → hcell H' a = some (.int .i64 (t.todo.getD 0 0))) → Q a) : idxA x.tp t.todo.length 0 1 Q := by
  have hpos : 0 < t.todo.length := List.length_pos_iff.2 h1
  refine idx1 (d := (0 : Int)) (h := g.row_rd (i := 3) rfl) (by omega) (by omega) fun b o hp _ => hQ _ fun N H' h' => ?_
  have r : Rd H' 1 x.tp t.todo.length (t.todo.map (Value.int .i64)) := (St.lesses (M := N) h').row_rd (i := 3) rfl
  rw [hp] at r
  have := r.2.2 0 (by omega)
  rw [List.getElem?_map, List.getElem?_eq_getElem hpos] at this
  rw [List.getD_eq_getElem?_getD, List.getElem?_eq_getElem hpos]
  exact this
theorem smLook (g : St H0 L H) (hi : L[i]? = some (Prt.mp x.mb (ments (Value.int .i64) (Value.int .u64) t.sm))) (hn : mnod t.sm) {q : Int} {Q : Value → Prop} (hQ : Q (.int .u64 ((mlook t.sm q).getD 0))) : evR PR (Instr.lookup ty_map_int_uint64 (.map (some x.mb)) (.int .i64 q) false) H Q := by
  refine g.look hi smK smT (z := .int .u64 0) (by kernel_rfl) hn q false ?_
  simp only [Bool.false_eq_true, if_false]
  cases hl : mlook t.sm q with
  | none => rw [hl] at hQ; exact hQ
  | some v => rw [hl] at hQ; exact hQ
theorem trQuestionC (g : St H0 (trRaw tb c t x mv mp F ++ M) H) (ho : t.ok c.a0) (hst : t.st ≠ 0) (hmv : mv = .map (some x.mb)) (hmp : mp = Prt.mp x.mb (ments (Value.int .i64) (Value.int .u64) t.sm)) (hK : ∀ H', St H0 (trRaw tb c t x mv mp F ++ M) H' → K t.q.val H') :
    hcall PR f_trace_Trace_question ⟨[.pointer (some ⟨tb, 0, none⟩)]⟩ H K := by
  apply den_trace_Trace_question
  unfold B_trace_Trace_question
  have hos := ho.st
  intro b2 hb2
  have g1 := g.alloc (o := .cells #[.int .i64 0, .int .i64 0, .int .i64 0, .int .u64 0, .int .u64 0, .int .i64 0, .int .i64 0, .int .i64 0, .int .i64 0, .int .u64 0, .slice none 0 0, .int .u64 0, .int .i64 0, .int .u64 0, .int .i64 0, .int .u64 0, .int .i64 0, .int .u64 0, .slice none 0 0] ty_api_Msg) hb2
  (try simp only [asI_mk', asB_mk, asP_mk, asA_mk, asM_mk, asSl_mk, asStr_mk, tup2_mk, tup3_mk, agg1_mk, agg2_mk, agg3_mk, agg4_mk, asAggm, unCons_mk, unNil_mk, asTup_mk, extractD0, extractD1, List.toList_toArray, nilP_mk, add_mk, Nat.zero_add, Nat.add_zero, condT, condF, Bool.not_true, Bool.not_false, Option.isNone_some, Option.isNone_none])
  refine ldI_of (g1.cell (i := 1) rfl rfl) (ldI_of (g1.cell (i := 1) rfl rfl) (ldI_of (g1.cell (i := 1) rfl rfl) ?_))
  intro b10 hb10
  have g2 := g1.alloc (o := .cells #[.int .i64 0, .int .i64 0, .int .i64 0, .int .u64 0, .int .u64 0, .int .i64 0, .int .i64 0, .int .i64 0, .int .i64 0, .int .u64 0, .slice none 0 0, .int .u64 0, .int .i64 0, .int .u64 0, .int .i64 0, .int .u64 0, .int .i64 0, .int .u64 0, .slice none 0 0] ty_api_Msg) hb10
  refine ⟨ldI_of (g2.cell (i := 2) rfl rfl) rfl, ldI_of (g2.cell (i := 2) rfl rfl) rfl, ldI_of (g2.cell (i := 2) rfl rfl) rfl, ?_⟩
  refine St.sets (i := 0) (o := 0) (vs := [.int .i64 0, .int .i64 t.node, .int .i64 0, .int .u64 t.num, .int .u64 0, .int .i64 0, .int .i64 0, .int .i64 t.opn, .int .i64 0, .int .u64 0, .slice none 0 0, .int .u64 0, .int .i64 0, .int .u64 0, .int .i64 0, .int .u64 0, .int .i64 0, .int .u64 0, .slice none 0 0]) g2 rfl (by simp) fun H3 g3 => ?_
  rw [setsA_all (by rfl)] at g3
  have g3 : St H0 (Prt.one b10 (.cells #[.int .i64 0, .int .i64 t.node, .int .i64 0, .int .u64 t.num, .int .u64 0, .int .i64 0, .int .i64 0, .int .i64 t.opn, .int .i64 0, .int .u64 0, .slice none 0 0, .int .u64 0, .int .i64 0, .int .u64 0, .int .i64 0, .int .u64 0, .int .i64 0, .int .u64 0, .slice none 0 0] ty_api_Msg (0, 0)) :: Prt.one b2 (.cells #[.int .i64 0, .int .i64 0, .int .i64 0, .int .u64 0, .int .u64 0, .int .i64 0, .int .i64 0, .int .i64 0, .int .i64 0, .int .u64 0, .slice none 0 0, .int .u64 0, .int .i64 0, .int .u64 0, .int .i64 0, .int .u64 0, .int .i64 0, .int .u64 0, .slice none 0 0] ty_api_Msg (0, 0)) :: (trRaw tb c t x mv mp F ++ M)) H3 := g3
  intro R34 hR34
  have hR34 : ∀ (q : Qn) H', q = t.q → St H0 (Prt.one b10 (.cells q.cells.toArray ty_api_Msg (0, 0)) :: Prt.one b2 (.cells #[.int .i64 0, .int .i64 0, .int .i64 0, .int .u64 0, .int .u64 0, .int .i64 0, .int .i64 0, .int .i64 0, .int .i64 0, .int .u64 0, .slice none 0 0, .int .u64 0, .int .i64 0, .int .u64 0, .int .i64 0, .int .u64 0, .int .i64 0, .int .u64 0, .slice none 0 0] ty_api_Msg (0, 0)) :: (trRaw tb c t x mv mp F ++ M)) H' → R34 H' := fun q H' eq h1 => by
    refine hR34 H' ?_
    refine ldI_of (h1.cell (i := 0) rfl rfl) (ldI_of (h1.cell (i := 0) rfl rfl) (ldI_of (h1.cell (i := 0) rfl rfl) (ldI_of (h1.cell (i := 0) rfl rfl) (ldI_of (h1.cell (i := 0) rfl rfl) (ldI_of (h1.cell (i := 0) rfl rfl) (ldI_of (h1.cell (i := 0) rfl rfl) (ldI_of (h1.cell (i := 0) rfl rfl) (ldI_of (h1.cell (i := 0) rfl rfl) (ldI_of (h1.cell (i := 0) rfl rfl) (ldSl_of (h1.cell (i := 0) rfl rfl) (ldI_of (h1.cell (i := 0) rfl rfl) (ldI_of (h1.cell (i := 0) rfl rfl) (ldI_of (h1.cell (i := 0) rfl rfl) (ldI_of (h1.cell (i := 0) rfl rfl) (ldI_of (h1.cell (i := 0) rfl rfl) (ldI_of (h1.cell (i := 0) rfl rfl) (ldI_of (h1.cell (i := 0) rfl rfl) (ldSl_of (h1.cell (i := 0) rfl rfl) ( ?_ )))))))))))))))))))
    refine St.sets (i := 1) (o := 0) (vs := q.cells) h1 rfl (by simp [Qn.cells]) fun H2 h2 => ?_
    rw [setsA_all (by rfl)] at h2
    have h2 : St H0 (Prt.one b10 (.cells q.cells.toArray ty_api_Msg (0, 0)) :: Prt.one b2 (.cells q.cells.toArray ty_api_Msg (0, 0)) :: (trRaw tb c t x mv mp F ++ M)) H2 := h2
    refine ldI_of (h2.cell (i := 1) rfl rfl) (ldI_of (h2.cell (i := 1) rfl rfl) (ldI_of (h2.cell (i := 1) rfl rfl) (ldI_of (h2.cell (i := 1) rfl rfl) (ldI_of (h2.cell (i := 1) rfl rfl) (ldI_of (h2.cell (i := 1) rfl rfl) (ldI_of (h2.cell (i := 1) rfl rfl) (ldI_of (h2.cell (i := 1) rfl rfl) (ldI_of (h2.cell (i := 1) rfl rfl) (ldI_of (h2.cell (i := 1) rfl rfl) (ldSl_of (h2.cell (i := 1) rfl rfl) (ldI_of (h2.cell (i := 1) rfl rfl) (ldI_of (h2.cell (i := 1) rfl rfl) (ldI_of (h2.cell (i := 1) rfl rfl) (ldI_of (h2.cell (i := 1) rfl rfl) (ldI_of (h2.cell (i := 1) rfl rfl) (ldI_of (h2.cell (i := 1) rfl rfl) (ldI_of (h2.cell (i := 1) rfl rfl) (ldSl_of (h2.cell (i := 1) rfl rfl) ( ?_ )))))))))))))))))))
    have := hK H2 (St.lesses (M := [_, _]) h2)
    rw [← eq] at this
    exact this
  refine ldI_of (g3.cell (i := 2) rfl rfl) ?_
  by_cases h1 : t.st = 1
  · obtain ⟨o1, o2, o3⟩ := ho.one h1
    have hq : t.q = ⟨8, t.node, (t.items.getD t.opn.toNat noIt).node, t.num, if (t.items.getD t.opn.toNat noIt).inn then 1 else 2, t.opn, (t.items.getD t.opn.toNat noIt).id, 0⟩ := by unfold Tr.q; rw [if_pos h1]
    rw [hq] at hR34
    refine bif_eq h1 (ldSl_of (g3.cell (i := 2) rfl rfl) (ldI_of (g3.cell (i := 2) rfl rfl) (itRd (M := M) (St.lesses (M := [_, _]) g3) o1 o2 fun b o hp hc => ?_)))
    generalize t.items.getD t.opn.toNat noIt = y at *
    have cc := fun (N : List Prt) (H' : Hp) (h' : St H0 (N ++ (trRaw tb c t x mv mp F ++ M)) H') => hc N H' h'
    have r0 := cc [_, _] H3 g3
    (try simp only [asI_mk', asB_mk, asP_mk, asA_mk, asM_mk, asSl_mk, asStr_mk, tup2_mk, tup3_mk, agg1_mk, agg2_mk, agg3_mk, agg4_mk, asAggm, unCons_mk, unNil_mk, asTup_mk, extractD0, extractD1, List.toList_toArray, nilP_mk, add_mk, Nat.zero_add, Nat.add_zero, condT, condF, Bool.not_true, Bool.not_false, Option.isNone_some, Option.isNone_none])
    refine ldB_of (r0 0 (by omega)) (ldI_of (r0 1 (by omega)) (ldI_of (r0 2 (by omega)) (ldI_of (r0 3 (by omega)) (ldI_of (r0 4 (by omega)) ?_))))
    intro b115 hb115
    have g4 := g3.alloc (o := .cells #[.bool false, .int .i64 0, .int .i64 0, .int .u64 0, .int .i64 0] ty_trace_Item) hb115
    have r1 := cc [_, _, _] _ g4
    refine ⟨ldB_of (r1 0 (by omega)) (ldI_of (r1 1 (by omega)) (ldI_of (r1 2 (by omega)) (ldI_of (r1 3 (by omega)) (ldI_of (r1 4 (by omega)) rfl)))), ldI_of (g4.cell (i := 3) rfl rfl) rfl, ldSl_of (g4.cell (i := 3) rfl rfl) rfl, ?_⟩
    refine St.sets (i := 0) (o := 0) (vs := y.cells) g4 rfl (by simp [It.cells]) fun H5 g5 => ?_
    rw [setsA_all (by rfl)] at g5
    have g5 : St H0 (Prt.one b115 (.cells #[.bool y.inn, .int .i64 y.node, .int .i64 y.id.n, .int .u64 y.id.s, .int .i64 y.code] ty_trace_Item (0, 0)) :: Prt.one b10 (.cells #[.int .i64 0, .int .i64 t.node, .int .i64 0, .int .u64 t.num, .int .u64 0, .int .i64 0, .int .i64 0, .int .i64 t.opn, .int .i64 0, .int .u64 0, .slice none 0 0, .int .u64 0, .int .i64 0, .int .u64 0, .int .i64 0, .int .u64 0, .int .i64 0, .int .u64 0, .slice none 0 0] ty_api_Msg (0, 0)) :: Prt.one b2 (.cells #[.int .i64 0, .int .i64 0, .int .i64 0, .int .u64 0, .int .u64 0, .int .i64 0, .int .i64 0, .int .i64 0, .int .i64 0, .int .u64 0, .slice none 0 0, .int .u64 0, .int .i64 0, .int .u64 0, .int .i64 0, .int .u64 0, .int .i64 0, .int .u64 0, .slice none 0 0] ty_api_Msg (0, 0)) :: (trRaw tb c t x mv mp F ++ M)) H5 := g5
    refine ldI_of (g5.cell (i := 0) rfl rfl) (ldI_of (g5.cell (i := 0) rfl rfl) (ldI_of (g5.cell (i := 0) rfl rfl) ?_))
    refine g5.put (i := 1) rfl (by simp) fun H6 g6 => ⟨ldI_of (g6.cell (i := 0) rfl rfl) (ldI_of (g6.cell (i := 0) rfl rfl) rfl), ldI_of (g6.cell (i := 0) rfl rfl) rfl, ?_⟩
    refine g6.put (i := 1) rfl (by simp) fun H7 g7 => ⟨ldI_of (g7.cell (i := 0) rfl rfl) (ldI_of (g7.cell (i := 0) rfl rfl) rfl), ?_⟩
    refine g7.put (i := 1) rfl (by simp) fun H8 g8 => ⟨ldI_of (g8.cell (i := 0) rfl rfl) (ldI_of (g8.cell (i := 0) rfl rfl) rfl), ?_⟩
    refine g8.put (i := 1) rfl (by simp) fun H9 g9 => g9.put (i := 1) rfl (by simp) fun H10 g10 => ldB_of (g10.cell (i := 0) rfl rfl) ?_
    cases hin : y.inn
    · rw [hin] at hR34
      simp only [condF]
      exact hR34 _ H10 rfl g10.less
    · rw [hin] at hR34
      simp only [condT]
      refine g10.put (i := 1) rfl (by simp) fun H11 g11 => ?_
      exact hR34 _ H11 rfl g11.less
  refine bif_ne h1 ?_
  by_cases h2 : t.st = 2
  · obtain ⟨o1, o2⟩ := ho.two h2
    have hq : t.q = ⟨8, t.node, t.todo.getD 0 0, t.num, 3, t.opn, noId, 0⟩ := by unfold Tr.q; rw [if_neg h1, if_pos h2]
    rw [hq] at hR34
    refine bif_eq h2 (ldSl_of (g3.cell (i := 2) rfl rfl) (tdRd (M := M) (St.lesses (M := [_, _]) g3) o1 (by omega) fun a hc => ?_))
    refine ldI_of (hc [_, _] _ g3) (g3.put (i := 0) rfl (by simp) fun H4 g4 => ⟨ldI_of (hc [_, _] _ g4) rfl, ldSl_of (g4.cell (i := 2) rfl rfl) rfl, ?_⟩)
    refine g4.put (i := 0) rfl (by simp) fun H5 g5 => g5.put (i := 0) rfl (by simp) fun H6 g6 => ?_
    exact hR34 _ H6 rfl g6
  refine bif_ne h2 ?_
  have h3 : t.st = 3 := by omega
  obtain ⟨o1, o2, o3⟩ := ho.three h3
  have hpos : 0 < t.todo.length := List.length_pos_iff.2 o1
  have hm : t.todo.getD 0 0 ∈ t.todo := by rw [List.getD_eq_getElem?_getD, List.getElem?_eq_getElem hpos]; exact List.getElem_mem _
  have hj := o3 _ hm
  have hq : t.q = ⟨10, t.node, (t.items.getD (t.todo.getD 0 0).toNat noIt).node, t.num, 0, t.opn, (t.items.getD (t.todo.getD 0 0).toNat noIt).id, (mlook t.sm (t.items.getD (t.todo.getD 0 0).toNat noIt).node).getD 0⟩ := by unfold Tr.q; rw [if_neg h1, if_neg h2]
  rw [hq] at hR34
  refine bif_eq h3 (ldSl_of (g3.cell (i := 2) rfl rfl) (ldSl_of (g3.cell (i := 2) rfl rfl) (tdRd (M := M) (St.lesses (M := [_, _]) g3) o1 (by omega) fun a ha => ?_)))
  refine ldI_of (ha [_, _] _ g3) (itRd (M := M) (St.lesses (M := [_, _]) g3) hj.1 hj.2 fun b o hp hc => ?_)
  generalize t.items.getD (t.todo.getD 0 0).toNat noIt = y at *
  have cc := fun (N : List Prt) (H' : Hp) (h' : St H0 (N ++ (trRaw tb c t x mv mp F ++ M)) H') => hc N H' h'
  have r0 := cc [_, _] H3 g3
  (try simp only [asI_mk', asB_mk, asP_mk, asA_mk, asM_mk, asSl_mk, asStr_mk, tup2_mk, tup3_mk, agg1_mk, agg2_mk, agg3_mk, agg4_mk, asAggm, unCons_mk, unNil_mk, asTup_mk, extractD0, extractD1, List.toList_toArray, nilP_mk, add_mk, Nat.zero_add, Nat.add_zero, condT, condF, Bool.not_true, Bool.not_false, Option.isNone_some, Option.isNone_none])
  refine ldB_of (r0 0 (by omega)) (ldI_of (r0 1 (by omega)) (ldI_of (r0 2 (by omega)) (ldI_of (r0 3 (by omega)) (ldI_of (r0 4 (by omega)) ?_))))
  intro b177 hb177
  have g4 := g3.alloc (o := .cells #[.bool false, .int .i64 0, .int .i64 0, .int .u64 0, .int .i64 0] ty_trace_Item) hb177
  have r1 := cc [_, _, _] _ g4
  refine ⟨ldB_of (r1 0 (by omega)) (ldI_of (r1 1 (by omega)) (ldI_of (r1 2 (by omega)) (ldI_of (r1 3 (by omega)) (ldI_of (r1 4 (by omega)) rfl)))), ldI_of (ha [_, _, _] _ g4) rfl, ldSl_of (g4.cell (i := 3) rfl rfl) rfl, ldSl_of (g4.cell (i := 3) rfl rfl) rfl, ?_⟩
  refine St.sets (i := 0) (o := 0) (vs := y.cells) g4 rfl (by simp [It.cells]) fun H5 g5 => ?_
  rw [setsA_all (by rfl)] at g5
  have g5 : St H0 (Prt.one b177 (.cells #[.bool y.inn, .int .i64 y.node, .int .i64 y.id.n, .int .u64 y.id.s, .int .i64 y.code] ty_trace_Item (0, 0)) :: Prt.one b10 (.cells #[.int .i64 0, .int .i64 t.node, .int .i64 0, .int .u64 t.num, .int .u64 0, .int .i64 0, .int .i64 0, .int .i64 t.opn, .int .i64 0, .int .u64 0, .slice none 0 0, .int .u64 0, .int .i64 0, .int .u64 0, .int .i64 0, .int .u64 0, .int .i64 0, .int .u64 0, .slice none 0 0] ty_api_Msg (0, 0)) :: Prt.one b2 (.cells #[.int .i64 0, .int .i64 0, .int .i64 0, .int .u64 0, .int .u64 0, .int .i64 0, .int .i64 0, .int .i64 0, .int .i64 0, .int .u64 0, .slice none 0 0, .int .u64 0, .int .i64 0, .int .u64 0, .int .i64 0, .int .u64 0, .int .i64 0, .int .u64 0, .slice none 0 0] ty_api_Msg (0, 0)) :: (trRaw tb c t x mv mp F ++ M)) H5 := g5
  refine ldI_of (g5.cell (i := 0) rfl rfl) (ldI_of (g5.cell (i := 0) rfl rfl) (ldI_of (g5.cell (i := 0) rfl rfl) ?_))
  have mc : ∀ (A B C : Prt) H', St H0 (A :: B :: C :: (trRaw tb c t x mv mp F ++ M)) H' → hcell H' ⟨tb, 27, none⟩ = some (.map (some x.mb)) := fun A B C H' h' => by
    rw [← hmv]
    exact h'.cell (i := 3) rfl rfl
  refine ldM_of (mc _ _ _ _ g5) (ldI_of (g5.cell (i := 0) rfl rfl) ?_)
  refine smLook (i := 5) (L := _ :: _ :: _ :: (trRaw tb c t x mv mp F ++ M)) g5 (by rw [hmp]; rfl) ho.sm ?_
  (try simp only [asI_mk', asB_mk, asP_mk, asA_mk, asM_mk, asSl_mk, asStr_mk, tup2_mk, tup3_mk, agg1_mk, agg2_mk, agg3_mk, agg4_mk, asAggm, unCons_mk, unNil_mk, asTup_mk, extractD0, extractD1, List.toList_toArray, nilP_mk, add_mk, Nat.zero_add, Nat.add_zero, condT, condF, Bool.not_true, Bool.not_false, Option.isNone_some, Option.isNone_none])
  refine g5.put (i := 1) rfl (by simp) fun H6 g6 => ⟨smLook (i := 5) (L := _ :: _ :: _ :: (trRaw tb c t x mv mp F ++ M)) g6 (by rw [hmp]; rfl) ho.sm rfl, ldI_of (g6.cell (i := 0) rfl rfl) rfl, ldM_of (mc _ _ _ _ g6) rfl, ldI_of (g6.cell (i := 0) rfl rfl) (ldI_of (g6.cell (i := 0) rfl rfl) rfl), ldI_of (g6.cell (i := 0) rfl rfl) rfl, ?_⟩
  refine g6.put (i := 1) rfl (by simp) fun H7 g7 => ⟨smLook (i := 5) (L := _ :: _ :: _ :: (trRaw tb c t x mv mp F ++ M)) g7 (by rw [hmp]; rfl) ho.sm rfl, ldI_of (g7.cell (i := 0) rfl rfl) rfl, ldM_of (mc _ _ _ _ g7) rfl, ldI_of (g7.cell (i := 0) rfl rfl) (ldI_of (g7.cell (i := 0) rfl rfl) rfl), ?_⟩
  refine g7.put (i := 1) rfl (by simp) fun H8 g8 => g8.put (i := 1) rfl (by simp) fun H9 g9 => ⟨smLook (i := 5) (L := _ :: _ :: _ :: (trRaw tb c t x mv mp F ++ M)) g9 (by rw [hmp]; rfl) ho.sm rfl, ldI_of (g9.cell (i := 0) rfl rfl) rfl, ldM_of (mc _ _ _ _ g9) rfl, ?_⟩
  refine g9.put (i := 1) rfl (by simp) fun H10 g10 => ?_
  exact hR34 _ H10 rfl g10.less
end
end Go.Proofs.Ytknejebggegfjaa

namespace Go.Proofs.Ytknejebggegfjaa
set_option linter.unusedSimpArgs false
set_option linter.unusedVariables false
open Go
section
variable {H0 H : Hp} {L M : List Prt} {i k tb : Nat} {c : Cf} {t : Tr} {x : TrX} {mv : Value} {mp : Prt} {F : Prop} {K : Value → Hp → Prop}
theorem St.one_rd (h : St H0 L H) {b n k : Nat} {c : Array Value} {e : TypeId} (hi : L[i]? = some (Prt.one b (.cells c e (0, 0)))) (hs : c.size = n * k) : Rd H k (some ⟨b, 0, none⟩) n c.toList := by
  have hb := h.one hi
  exact (show Own H k (some ⟨b, 0, none⟩) n n c.toList from ⟨by simpa using hs, Nat.le_refl _, rfl, c, e, hb, by simp only [hs]; omega, fun i _ => by simp⟩).rd
theorem it_same {a b : It} : a.same b = true ↔ a.inn = b.inn ∧ a.node = b.node ∧ a.id = b.id := by
  unfold It.same
  rw [Bool.and_eq_true, Bool.and_eq_true, beq_iff_eq, decide_eq_true_iff, decide_eq_true_iff, and_assoc]
theorem more1C {z y : It} {b : Nat} (h : St H0 L H) (hi : L[i]? = some (Prt.one b (.cells #[.bool y.inn, .int .i64 y.node, .int .i64 y.id.n, .int .u64 y.id.s, .int .i64 y.code] ty_trace_Item (0, 0)))) (hK : ∀ H', St H0 L H' → K (.bool (z.same y)) H') :
    hcall PR f_trace_Trace_more_1 ⟨[.agg #[.bool z.inn, .int .i64 z.node, .int .i64 z.id.n, .int .u64 z.id.s, .int .i64 z.code], .pointer (some ⟨b, 0, none⟩)]⟩ H K := by
  apply den_trace_Trace_more_1
  unfold B_trace_Trace_more_1
  intro b7 hb7
  have h1 := h.alloc (o := .cells #[.bool z.inn, .int .i64 z.node, .int .i64 z.id.n, .int .u64 z.id.s, .int .i64 z.code] ty_trace_Item) hb7
  have hK := hK _ h1.less
  (try simp only [asI_mk', asB_mk, asP_mk, asA_mk, asM_mk, asSl_mk, asStr_mk, tup2_mk, tup3_mk, agg1_mk, agg2_mk, agg3_mk, agg4_mk, asAggm, unCons_mk, unNil_mk, asTup_mk, extractD0, extractD1, List.toList_toArray, nilP_mk, add_mk, Nat.zero_add, Nat.add_zero, condT, condF, Bool.not_true, Bool.not_false, Option.isNone_some, Option.isNone_none])
  have hi1 : (Prt.one b7 (.cells #[.bool z.inn, .int .i64 z.node, .int .i64 z.id.n, .int .u64 z.id.s, .int .i64 z.code] ty_trace_Item (0, 0)) :: L)[i + 1]? = _ := hi
  refine ldB_of (h1.cell (i := 0) rfl rfl) (ldB_of (h1.cell hi1 rfl) ?_)
  unfold It.same at hK
  by_cases e1 : z.inn = y.inn
  rotate_left
  · rw [show (z.inn == y.inn) = false by simpa using e1] at hK ⊢
    exact hK
  rw [show (z.inn == y.inn) = true by simpa using e1] at hK ⊢
  simp only [condT, Bool.true_and] at hK ⊢
  refine ldI_of (h1.cell (i := 0) rfl rfl) (ldI_of (h1.cell hi1 rfl) ?_)
  by_cases e2 : z.node = y.node
  rotate_left
  · rw [decide_eq_false e2, Bool.false_and] at hK
    exact bif_ne e2 hK
  rw [decide_eq_true e2, Bool.true_and] at hK
  refine bif_eq e2 (ldI_of (h1.cell (i := 0) rfl rfl) (ldI_of (h1.cell (i := 0) rfl rfl) (ldI_of (h1.cell hi1 rfl) (ldI_of (h1.cell hi1 rfl) (idEq ?_)))))
  (try simp only [asI_mk', asB_mk, asP_mk, asA_mk, asM_mk, asSl_mk, asStr_mk, tup2_mk, tup3_mk, agg1_mk, agg2_mk, agg3_mk, agg4_mk, asAggm, unCons_mk, unNil_mk, asTup_mk, extractD0, extractD1, List.toList_toArray, nilP_mk, add_mk, Nat.zero_add, Nat.add_zero, condT, condF, Bool.not_true, Bool.not_false, Option.isNone_some, Option.isNone_none])
  exact hK
theorem hasC {y : It} {b : Nat} {p : Option Addr} {n cap : Nat} {l : List It} (h : St H0 L H) (hi : L[i]? = some (Prt.one b (.cells #[.bool y.inn, .int .i64 y.node, .int .i64 y.id.n, .int .u64 y.id.s, .int .i64 y.code] ty_trace_Item (0, 0)))) (hl : n = l.length) (hn : n ≤ 1000000) (hrd : ∀ H', St H0 L H' → Rd H' 5 p n (cel It.cells l)) (hK : ∀ H', St H0 L H' → K (.bool (l.any fun z => z.same y)) H') :
    hcall PR f_slices_ContainsFunc_Strace_Item_trace_Item ⟨[.slice p n cap, .func (.func f_trace_Trace_more_1) #[] #[.pointer (some ⟨b, 0, none⟩)]]⟩ H K := by
  apply den_slices_ContainsFunc_Strace_Item_trace_Item
  unfold B_slices_ContainsFunc_Strace_Item_trace_Item
  apply den_slices_IndexFunc_Strace_Item_trace_Item
  unfold B_slices_IndexFunc_Strace_Item_trace_Item
  refine ⟨fun q H' => ∃ m : Nat, q = m ∧ m ≤ n ∧ (∀ j z, j < m → l[j]? = some z → z.same y = false) ∧ St H0 L H', fun q _ => ((n : Int) - q).toNat, ⟨0, rfl, by omega, fun j z hj => absurd hj (Nat.not_lt_zero _), h⟩, ?_⟩
  clear h
  rintro q H1 ⟨m, rfl, hm, hno, h1⟩
  by_cases hc : (m : Int) < (n : Int)
  · have hml : m < l.length := by omega
    have hme := List.getElem?_eq_getElem hml
    have hgd : l.getD (m : Int).toNat noIt = l[m] := by rw [Int.toNat_natCast, List.getD_eq_getElem?_getD, hme]; rfl
    refine bif_pos hc (idxS It.len noIt (hrd H1 h1) (by omega) (by omega) hc fun b' o' _ _ hcc => ?_)
    rw [hgd] at hcc
    (try simp only [asI_mk', asB_mk, asP_mk, asA_mk, asM_mk, asSl_mk, asStr_mk, tup2_mk, tup3_mk, agg1_mk, agg2_mk, agg3_mk, agg4_mk, asAggm, unCons_mk, unNil_mk, asTup_mk, extractD0, extractD1, List.toList_toArray, nilP_mk, add_mk, Nat.zero_add, Nat.add_zero, condT, condF, Bool.not_true, Bool.not_false, Option.isNone_some, Option.isNone_none])
    refine ldB_of (hcc 0 (by omega)) (ldI_of (hcc 1 (by omega)) (ldI_of (hcc 2 (by omega)) (ldI_of (hcc 3 (by omega)) (ldI_of (hcc 4 (by omega)) ?_))))
    refine more1C (z := l[m]) h1 hi fun H2 h2 => ?_
    (try simp only [asI_mk', asB_mk, asP_mk, asA_mk, asM_mk, asSl_mk, asStr_mk, tup2_mk, tup3_mk, agg1_mk, agg2_mk, agg3_mk, agg4_mk, asAggm, unCons_mk, unNil_mk, asTup_mk, extractD0, extractD1, List.toList_toArray, nilP_mk, add_mk, Nat.zero_add, Nat.add_zero, condT, condF, Bool.not_true, Bool.not_false, Option.isNone_some, Option.isNone_none])
    cases hs : l[m].same y
    · simp only [condF]
      rw [wrap_i64 (by omega) (by omega)]
      refine ⟨⟨m + 1, by omega, by omega, fun j z hj hz => ?_, h2⟩, by (try dsimp only); omega⟩
      rcases Nat.lt_succ_iff_lt_or_eq.1 hj with hj | rfl
      · exact hno j z hj hz
      · rw [hme] at hz; cases hz; exact hs
    · simp only [condT]
      (try simp only [asI_mk', asB_mk, asP_mk, asA_mk, asM_mk, asSl_mk, asStr_mk, tup2_mk, tup3_mk, agg1_mk, agg2_mk, agg3_mk, agg4_mk, asAggm, unCons_mk, unNil_mk, asTup_mk, extractD0, extractD1, List.toList_toArray, nilP_mk, add_mk, Nat.zero_add, Nat.add_zero, condT, condF, Bool.not_true, Bool.not_false, Option.isNone_some, Option.isNone_none])
      rw [show decide ((m : Int) ≥ 0) = true by simp]
      have e : (l.any fun z => z.same y) = true := List.any_eq_true.2 ⟨l[m], List.getElem_mem hml, hs⟩
      rw [e] at hK
      exact hK H2 h2
  · refine bif_neg hc ?_
    (try simp only [asI_mk', asB_mk, asP_mk, asA_mk, asM_mk, asSl_mk, asStr_mk, tup2_mk, tup3_mk, agg1_mk, agg2_mk, agg3_mk, agg4_mk, asAggm, unCons_mk, unNil_mk, asTup_mk, extractD0, extractD1, List.toList_toArray, nilP_mk, add_mk, Nat.zero_add, Nat.add_zero, condT, condF, Bool.not_true, Bool.not_false, Option.isNone_some, Option.isNone_none])
    have e : (l.any fun z => z.same y) = false := by
      rw [List.any_eq_false]
      intro z hz hs
      obtain ⟨j, hj, e⟩ := List.mem_iff_getElem.1 hz
      rw [hno j z (by omega) (by rw [List.getElem?_eq_getElem hj, e])] at hs
      cases hs
    rw [e] at hK
    exact hK H1 h1

theorem trMoreC {y0 : It} {lp : Option Addr} {ll lc : Nat} {r : List Int} (g : St H0 (trRaw tb c t x mv mp F ++ M) H) (hn : 1 ≤ c.a0 ∧ c.a0 ≤ 12) (hl : t.items.length ≤ 1000) (hll : ll = r.length) (hlb : ll ≤ 4611686018427387903) (hr0 : ∀ n ∈ r, 0 ≤ n ∧ n < 18446744073709551616) (hrd : ∀ N H', St H0 (N ++ M) H' → Rd H' 1 lp ll (r.map (Value.int .u64)))
    (hK : ∀ x' H', x'.mb = x.mb → St H0 (trRaw tb c { t with items := (moreL c.a0 y0 r t.items).2 } x' mv mp F ++ M) H' → K (.bool (moreL c.a0 y0 r t.items).1) H') :
    hcall PR f_trace_Trace_more ⟨[.pointer (some ⟨tb, 0, none⟩), .agg #[.bool y0.inn, .int .i64 y0.node, .int .i64 y0.id.n, .int .u64 y0.id.s, .int .i64 y0.code], .slice lp ll lc]⟩ H K := by
  apply den_trace_Trace_more
  unfold B_trace_Trace_more
  intro b10 hb10
  have g1 := g.alloc (o := .cells #[.bool y0.inn, .int .i64 y0.node, .int .i64 y0.id.n, .int .u64 y0.id.s, .int .i64 y0.code] ty_trace_Item) hb10
  have fin : ∀ (b : Bool) (l : List It) x' H', moreL c.a0 y0 r t.items = (b, l) → x'.mb = x.mb → St H0 (Prt.one b10 (.cells #[.bool y0.inn, .int .i64 y0.node, .int .i64 y0.id.n, .int .u64 y0.id.s, .int .i64 y0.code] ty_trace_Item (0, 0)) :: (trRaw tb c { t with items := l } x' mv mp F ++ M)) H' → K (.bool b) H' := fun b l x' H' e hm h' => by
    rw [e] at hK
    exact hK x' H' hm h'.less
  clear hK
  refine ⟨fun q H' => ∃ (y : Nat) (l : List It) (x' : TrX), q = y ∧ y ≤ ll ∧ moreL c.a0 y0 r t.items = moreL c.a0 y0 (r.drop y) l ∧ x'.mb = x.mb ∧ l.length ≤ 1000 ∧ St H0 (Prt.one b10 (.cells #[.bool y0.inn, .int .i64 y0.node, .int .i64 y0.id.n, .int .u64 y0.id.s, .int .i64 y0.code] ty_trace_Item (0, 0)) :: (trRaw tb c { t with items := l } x' mv mp F ++ M)) H', fun q _ => ((ll : Int) - q).toNat, ⟨0, t.items, x, rfl, by omega, rfl, rfl, hl, g1⟩, ?_⟩
  clear g1 g
  rintro q H2 ⟨y, l, x', rfl, hy, he, hmb, hl, g2⟩
  by_cases hc : (y : Int) < (ll : Int)
  rotate_left
  · refine bif_neg hc (fin true l x' H2 ?_ hmb g2)
    rw [he, List.drop_of_length_le (by omega)]
    rfl
  have hyl : y < r.length := by omega
  obtain ⟨v, hv⟩ : ∃ v, v = r.getD y 0 := ⟨_, rfl⟩
  have hdr : r.drop y = v :: r.drop (y + 1) := by
    rw [hv, List.getD_eq_getElem?_getD, List.getElem?_eq_getElem hyl]
    exact List.drop_eq_getElem_cons hyl
  have hv0 := hr0 v (by rw [hv, List.getD_eq_getElem?_getD, List.getElem?_eq_getElem hyl]; exact List.getElem_mem _)
  rw [hdr] at he
  refine bif_pos hc ?_
  intro R16 hR16
  have hR16 : ∀ (l : List It) (x' : TrX) H', moreL c.a0 y0 r t.items = moreL c.a0 y0 (r.drop (y + 1)) l → x'.mb = x.mb → l.length ≤ 1000 → St H0 (Prt.one b10 (.cells #[.bool y0.inn, .int .i64 y0.node, .int .i64 y0.id.n, .int .u64 y0.id.s, .int .i64 y0.code] ty_trace_Item (0, 0)) :: (trRaw tb c { t with items := l } x' mv mp F ++ M)) H' → R16 H' := fun l x' H' h1 h2 h3 h4 => by
    refine hR16 H' ?_
    rw [wrap_i64 (by omega) (by omega)]
    exact ⟨⟨y + 1, l, x', by omega, by omega, h1, h2, h3, h4⟩, by (try dsimp only); omega⟩
  refine idx1 (d := (0 : Int)) (hrd (_ :: _ :: _ :: _ :: _ :: _ :: []) H2 g2) (by omega) hc fun b o _ hcl => ldI_of hcl ?_
  rw [Int.toNat_natCast, ← hv]
  have no : moreIt c.a0 y0 v = none → K (.bool false) H2 := fun e => fin false l x' H2 (by rw [he]; unfold moreL; rw [e]) hmb g2
  by_cases n1 : v < 1
  · exact bif_pos n1 (no (by unfold moreIt; rw [if_pos n1]))
  refine bif_neg n1 ?_
  by_cases n2 : v > 72057594037927935
  · exact bif_pos n2 (no (by unfold moreIt; rw [if_neg n1, if_pos n2]))
  refine bif_neg n2 (ldI_of (g2.cell (i := 0) rfl rfl) (ldI_of (g2.cell (i := 0) rfl rfl) ?_))
  refine boxs (c := [.bool false, .int .i64 0, .int .i64 0, .int .u64 0, .int .i64 0]) (vs := [.bool true, .int .i64 y0.node, .int .i64 y0.node, .int .u64 v, .int .i64 0]) g2 rfl fun b22 H3 g3 => ?_
  intro R29 hR29
  have hR29 : ∀ (w : It) H', moreIt c.a0 y0 v = some w → St H0 (Prt.one b22 (.cells #[.bool w.inn, .int .i64 w.node, .int .i64 w.id.n, .int .u64 w.id.s, .int .i64 w.code] ty_trace_Item (0, 0)) :: Prt.one b10 (.cells #[.bool y0.inn, .int .i64 y0.node, .int .i64 y0.id.n, .int .u64 y0.id.s, .int .i64 y0.code] ty_trace_Item (0, 0)) :: (trRaw tb c { t with items := l } x' mv mp F ++ M)) H' → R29 H' := fun w H' hw h' => by
    refine hR29 H' ?_
    clear hR29
    (try simp only [asI_mk', asB_mk, asP_mk, asA_mk, asM_mk, asSl_mk, asStr_mk, tup2_mk, tup3_mk, agg1_mk, agg2_mk, agg3_mk, agg4_mk, asAggm, unCons_mk, unNil_mk, asTup_mk, extractD0, extractD1, List.toList_toArray, nilP_mk, add_mk, Nat.zero_add, Nat.add_zero, condT, condF, Bool.not_true, Bool.not_false, Option.isNone_some, Option.isNone_none])
    refine ldSl_of (h'.cell (i := 2) rfl rfl) (hasC (y := w) (n := l.length) h' (i := 0) rfl rfl (by omega) (fun H'' h'' => h''.row_rd (i := 3) rfl) fun H4 g4 => ?_)
    (try simp only [asI_mk', asB_mk, asP_mk, asA_mk, asM_mk, asSl_mk, asStr_mk, tup2_mk, tup3_mk, agg1_mk, agg2_mk, agg3_mk, agg4_mk, asAggm, unCons_mk, unNil_mk, asTup_mk, extractD0, extractD1, List.toList_toArray, nilP_mk, add_mk, Nat.zero_add, Nat.add_zero, condT, condF, Bool.not_true, Bool.not_false, Option.isNone_some, Option.isNone_none])
    have hm : moreL c.a0 y0 (v :: r.drop (y + 1)) l = if l.any (fun z => z.same w) then moreL c.a0 y0 (r.drop (y + 1)) l else if 1000 ≤ l.length then (false, l) else moreL c.a0 y0 (r.drop (y + 1)) (l ++ [w]) := by
      conv => lhs; unfold moreL
      rw [hw]
    rw [hm] at he
    cases ha : l.any (fun z => z.same w)
    rotate_left
    · rw [ha, if_pos rfl] at he
      simp only [condT]
      exact hR16 l x' H4 he hmb hl g4.less
    rw [ha, if_neg (by decide)] at he
    simp only [condF]
    refine ldSl_of (g4.cell (i := 2) rfl rfl) ?_
    by_cases hf : ((l.length : Nat) : Int) ≥ 1000
    · rw [if_pos (by omega)] at he
      exact bif_pos hf (fin false l x' H4 he hmb g4.less)
    rw [if_neg (by omega)] at he
    refine bif_neg hf (ldSl_of (g4.cell (i := 2) rfl rfl) (ldB_of (g4.cell (i := 0) rfl rfl) (ldI_of (g4.cell (i := 0) rfl rfl) (ldI_of (g4.cell (i := 0) rfl rfl) (ldI_of (g4.cell (i := 0) rfl rfl) (ldI_of (g4.cell (i := 0) rfl rfl) ?_))))))
    intro b51 hb51
    have g5 := g4.alloc (o := .cells #[.bool w.inn, .int .i64 w.node, .int .i64 w.id.n, .int .u64 w.id.s, .int .i64 w.code] ty_trace_Item) hb51
    refine ⟨ldSl_of (g5.cell (i := 3) rfl rfl) rfl, ?_⟩
    refine g5.app (i := 4) rfl tu_ty_Strace_Item tu_ty_Strace_Item ti_ty_trace_Item rfl (by decide) (g5.one_rd (i := 0) (n := 1) rfl rfl) (fun z hz => by simp at hz; rcases hz with rfl | rfl | rfl | rfl | rfl <;> rfl) (by (try dsimp only); omega) fun p' cap' H6 g6 => ?_
    (try simp only [asI_mk', asB_mk, asP_mk, asA_mk, asM_mk, asSl_mk, asStr_mk, tup2_mk, tup3_mk, agg1_mk, agg2_mk, agg3_mk, agg4_mk, asAggm, unCons_mk, unNil_mk, asTup_mk, extractD0, extractD1, List.toList_toArray, nilP_mk, add_mk, Nat.zero_add, Nat.add_zero, condT, condF, Bool.not_true, Bool.not_false, Option.isNone_some, Option.isNone_none])
    refine g6.put (i := 3) rfl (show 26 < 32 by decide) fun H7 g7 => ?_
    have e1 : cel It.cells l ++ (#[.bool w.inn, .int .i64 w.node, .int .i64 w.id.n, .int .u64 w.id.s, .int .i64 w.code] : Array Value).toList = cel It.cells (l ++ [w]) := by rw [cel_append]; rfl
    have e2 : l.length + 1 = (l ++ [w]).length := by simp
    rw [e1, e2] at g7
    refine hR16 (l ++ [w]) { x' with ip := p', ic := cap' } H7 he hmb (by simp; omega) ?_
    exact St.lesses (M := [_, _]) g7
  have g3 : St H0 (Prt.one b22 (.cells #[.bool true, .int .i64 y0.node, .int .i64 y0.node, .int .u64 v, .int .i64 0] ty_trace_Item (0, 0)) :: Prt.one b10 (.cells #[.bool y0.inn, .int .i64 y0.node, .int .i64 y0.id.n, .int .u64 y0.id.s, .int .i64 y0.code] ty_trace_Item (0, 0)) :: (trRaw tb c { t with items := l } x' mv mp F ++ M)) H3 := g3
  refine ldB_of (g3.cell (i := 1) rfl rfl) ?_
  cases hin : y0.inn
  · simp only [condF]
    exact hR29 ⟨true, y0.node, ⟨y0.node, v⟩, 0⟩ H3 (by unfold moreIt; rw [if_neg n1, if_neg n2, hin, if_neg (by decide)]) (by rw [hin]; rw [hin] at g3; exact g3)
  simp only [condT]
  (try simp only [asI_mk', asB_mk, asP_mk, asA_mk, asM_mk, asSl_mk, asStr_mk, tup2_mk, tup3_mk, agg1_mk, agg2_mk, agg3_mk, agg4_mk, asAggm, unCons_mk, unNil_mk, asTup_mk, extractD0, extractD1, List.toList_toArray, nilP_mk, add_mk, Nat.zero_add, Nat.add_zero, condT, condF, Bool.not_true, Bool.not_false, Option.isNone_some, Option.isNone_none])
  refine ldI_of (g3.cell (i := 2) rfl rfl) ?_
  rw [wrap_u64' (n := c.a0) (by omega) (by omega)]
  by_cases n3 : v > c.a0
  · exact bif_pos n3 (no (by unfold moreIt; rw [if_neg n1, if_neg n2, hin, if_pos rfl, if_pos n3]) |> fun h => fin false l x' H3 (by rw [he]; unfold moreL; rw [show moreIt c.a0 y0 v = none by unfold moreIt; rw [if_neg n1, if_neg n2, hin, if_pos rfl, if_pos n3]]) hmb g3.less)
  refine bif_neg n3 (ldI_of (g3.cell (i := 1) rfl rfl) ?_)
  have wv : IntKind.i64.wrap v = v := wrap_i64 (by omega) (by omega)
  rw [wv]
  by_cases n4 : v = y0.id.n
  · exact bif_eq n4 (fin false l x' H3 (by rw [he]; unfold moreL; rw [show moreIt c.a0 y0 v = none by unfold moreIt; rw [if_neg n1, if_neg n2, hin, if_pos rfl, if_neg n3, if_pos n4]]) hmb g3.less)
  refine bif_ne n4 (ldI_of (g3.cell (i := 1) rfl rfl) (ldI_of (g3.cell (i := 1) rfl rfl) ?_))
  refine St.sets (i := 0) (o := 0) (vs := [.bool false, .int .i64 v, .int .i64 y0.id.n, .int .u64 y0.id.s, .int .i64 0]) g3 rfl (by simp) fun H4 g4 => ?_
  rw [setsA_all (by rfl)] at g4
  exact hR29 ⟨false, v, y0.id, 0⟩ H4 (by unfold moreIt; rw [if_neg n1, if_neg n2, hin, if_pos rfl, if_neg n3, if_neg n4]) g4
end
end Go.Proofs.Ytknejebggegfjaa

namespace Go.Proofs.Ytknejebggegfjaa
set_option linter.unusedSimpArgs false
set_option linter.unusedVariables false
open Go
section
variable {H0 H : Hp} {L M : List Prt} {i k tb : Nat} {c : Cf} {t : Tr} {x : TrX} {m : Ms} {F : Prop} {K : Value → Hp → Prop}
theorem smV_on {t : Tr} {x : TrX} (h : t.st ≠ 0) : smV t x = .map (some x.mb) := by unfold smV; rw [if_neg h]
theorem smP_on {t : Tr} {x : TrX} (h : t.st ≠ 0) : smP t x = Prt.mp x.mb (ments (Value.int .i64) (Value.int .u64) t.sm) := by unfold smP; rw [if_neg h]
theorem smV_off {t : Tr} {x : TrX} (h : t.st = 0) : smV t x = .map none := by unfold smV; rw [if_pos h]
theorem smP_off {t : Tr} {x : TrX} (h : t.st = 0) : smP t x = Prt.nil := by unfold smP; rw [if_pos h]
/-- Behind an answer: the next question, or all were asked. -/
theorem trOnwardC {K : Hp → Prop} (hn : 1 ≤ c.a0 ∧ c.a0 ≤ 12) (ho : t.ok c.a0) (h1 : t.st = 1) (g : St H0 (trRaw tb c t x (.map (some x.mb)) (Prt.mp x.mb (ments (Value.int .i64) (Value.int .u64) t.sm)) F ++ M) H) (hK : ∀ x' H', St H0 (trRaw tb c t.onward x' (smV t.onward x') (smP t.onward x') F ++ M) H' → K H') :
    hcall PR f_trace_Trace_next ⟨[.pointer (some ⟨tb, 0, none⟩)]⟩ H fun v57 Hx58 =>
      nilP (some ⟨tb, 0, none⟩) fun ta59 =>
      ldI .i64 (ta59.add 28) Hx58 fun openx60 =>
      nilP (some ⟨tb, 0, none⟩) fun ta61 =>
      ldSl (ta61.add 26) Hx58 fun itemsP62 itemsL63 itemsC64 =>
      (bif (decide ((openx60 : Int) < (itemsL63 : Int))) then
      K Hx58
      else
      nilP (some ⟨tb, 0, none⟩) fun ta65 =>
      ldM (ta65.add 27) Hx58 fun stamps66 =>
      evW PR (Instr.range ty_map_int_uint64 (.map stamps66)) Hx58 fun v67 Hx68 =>
      asA v67 fun it69 =>
      ∃ (I70 : Hp → Prop) (m71 : Hp → Nat), I70 Hx68 ∧ ∀ Hx72 : Hp, I70 Hx72 →
      ∀ R73 : Bool → Hp → Prop, (∀ t75 : Bool, ∀ Hx74 : Hp, (
      (bif t75 then
      evW PR (Instr.entry (.pointer (some it69))) Hx74 fun en76 Hx77 =>
      extractD en76 0 fun v78 =>
      asI .i64 v78 fun t79 =>
      nilP (some ⟨tb, 0, none⟩) fun ta80 =>
      ldSl (ta80.add 29) Hx77 fun todoP81 todoL82 todoC83 =>
      newB (.cells #[(.int .i64 t79)] ty_int) Hx77 fun b84 Hx85 =>
      evW PR (Builtin.append_ #[ty_Sint, ty_Sint] ty_Sint #[(.slice todoP81 todoL82 todoC83), (.slice (some ⟨b84, 0, none⟩) 1 1)]) Hx85 fun v86 Hx87 =>
      asSl v86 fun tP88 tL89 tC90 =>
      nilP (some ⟨tb, 0, none⟩) fun ta91 =>
      st (ta91.add 29) (.slice tP88 tL89 tC90) Hx87 fun Hx92 =>
      I70 Hx92 ∧ m71 Hx92 < m71 Hx72
      else
      nilP (some ⟨tb, 0, none⟩) fun ta93 =>
      ldSl (ta93.add 29) Hx74 fun todoP94 todoL95 todoC96 =>
      hcall PR f_slices_Sort_Sint_int ⟨[(.slice todoP94 todoL95 todoC96)]⟩ Hx74 fun v97 Hx98 =>
      nilP (some ⟨tb, 0, none⟩) fun ta99 =>
      ldSl (ta99.add 29) Hx98 fun todoP100 todoL101 todoC102 =>
      (bif (((todoL101 : Int) : Int) == 0) then
      hcall PR f_trace_Trace_finds ⟨[(.pointer (some ⟨tb, 0, none⟩))]⟩ Hx98 fun v103 Hx104 =>
      K Hx104
      else
      nilP (some ⟨tb, 0, none⟩) fun ta105 =>
      st (ta105.add 25) (.int .i64 2) Hx98 fun Hx106 =>
      K Hx106))) → R73 t75 Hx74) →
      evW PR (Instr.next (.pointer (some it69)) false 0) Hx72 fun nx107 Hx108 =>
      nextC nx107 (
      R73 false Hx108) fun k109 x110 =>
      R73 true Hx108) := by
  obtain ⟨o1, o2, o3⟩ := ho.one h1
  have finOn : ∀ t' x' H', t.onward = t' → t'.st ≠ 0 → St H0 (trRaw tb c t' x' (.map (some x'.mb)) (Prt.mp x'.mb (ments (Value.int .i64) (Value.int .u64) t'.sm)) F ++ M) H' → K H' := fun t' x' H' e hs h' => by
    refine hK x' H' ?_
    rw [e, smV_on hs, smP_on hs]
    exact h'
  have finOff : ∀ t' x' H', t.onward = t' → t'.st = 0 → St H0 (trRaw tb c t' x' (.map none) .nil F ++ M) H' → K H' := fun t' x' H' e hs h' => by
    refine hK x' H' ?_
    rw [e, smV_off hs, smP_off hs]
    exact h'
  clear hK
  have hki := keys_few (k := c.a0.toNat) ho.sm fun e he => by have := ho.keys e he; omega
  refine trNextC g fun H2 g2 => ?_
  (try simp only [asI_mk', asB_mk, asP_mk, asA_mk, asM_mk, asSl_mk, asStr_mk, tup2_mk, tup3_mk, agg1_mk, agg2_mk, agg3_mk, agg4_mk, asAggm, unCons_mk, unNil_mk, asTup_mk, extractD0, extractD1, List.toList_toArray, nilP_mk, add_mk, Nat.zero_add, Nat.add_zero, condT, condF, Bool.not_true, Bool.not_false, Option.isNone_some, Option.isNone_none])
  refine ldI_of (g2.cell (i := 0) rfl rfl) (ldSl_of (g2.cell (i := 0) rfl rfl) ?_)
  by_cases hlt : t.next.opn < t.items.length
  · have e : t.onward = t.next := by unfold Tr.onward; rw [if_pos hlt]
    exact bif_pos hlt (finOn _ x H2 e (by show t.st ≠ 0; omega) g2)
  refine bif_neg hlt (ldM_of (g2.cell (i := 0) rfl rfl) (g2.mrange (i := 2) rfl smT fun it H3 g3 => ?_))
  (try simp only [asI_mk', asB_mk, asP_mk, asA_mk, asM_mk, asSl_mk, asStr_mk, tup2_mk, tup3_mk, agg1_mk, agg2_mk, agg3_mk, agg4_mk, asAggm, unCons_mk, unNil_mk, asTup_mk, extractD0, extractD1, List.toList_toArray, nilP_mk, add_mk, Nat.zero_add, Nat.add_zero, condT, condF, Bool.not_true, Bool.not_false, Option.isNone_some, Option.isNone_none])
  let es := ments (Value.int .i64) (Value.int .u64) t.sm
  refine ⟨fun H' => ∃ (vis rest : List (Int × Int)) (cur : Option (Value × Value)) (x' : TrX), t.sm.Perm (vis ++ rest) ∧ x'.mb = x.mb ∧ St H0 (trRaw tb c { t.next with todo := vis.map (·.1) } x' (.map (some x'.mb)) (Prt.mpit x'.mb it es (ments (Value.int .i64) (Value.int .u64) rest) cur) F ++ M) H', fun H' => leftOf H' x.mb it, ⟨[], t.sm, none, x, List.Perm.refl _, rfl, ?_⟩, ?_⟩
  · have e0 : ({ t.next with todo := [] } : Tr) = t.next := by
      have : t.next.todo = [] := o3
      cases ht : t.next
      rw [ht] at this
      simp only at this
      rw [this]
    show St H0 (trRaw tb c { t.next with todo := (([] : List (Int × Int)).map (·.1)) } x (.map (some x.mb)) (Prt.mpit x.mb it es es none) F ++ M) H3
    rw [show (([] : List (Int × Int)).map (·.1)) = [] from rfl, e0]
    exact g3
  clear g2 g3
  rintro H4 ⟨vis, rest, cur, x', hperm, hmb, g4⟩
  have hvl : vis.length ≤ t.sm.length := by rw [hperm.length_eq]; simp
  have hleft := g4.mleft (i := 2) rfl
  rw [hmb] at hleft
  intro R73 hR73
  refine g4.mnextT (i := 2) (f := Value.int .u64) rfl (fun e => ?_) fun q A B e H5 g5 => ?_
  · subst e
    rw [List.append_nil] at hperm
    refine nextC_over (hR73 false H4 ?_)
    clear hR73
    simp only [condF]
    have g5 := g4.mleave (i := 2) rfl
    have g5 : St H0 (trRaw tb c { t.next with todo := vis.map (·.1) } x' (.map (some x'.mb)) (Prt.mp x'.mb es) F ++ M) H4 := g5
    refine ldSl_of (g5.cell (i := 0) rfl rfl) (sortC g5 (i := 3) rfl (by simp only [List.length_map]; omega) fun H6 g6 => ?_)
    (try simp only [asI_mk', asB_mk, asP_mk, asA_mk, asM_mk, asSl_mk, asStr_mk, tup2_mk, tup3_mk, agg1_mk, agg2_mk, agg3_mk, agg4_mk, asAggm, unCons_mk, unNil_mk, asTup_mk, extractD0, extractD1, List.toList_toArray, nilP_mk, add_mk, Nat.zero_add, Nat.add_zero, condT, condF, Bool.not_true, Bool.not_false, Option.isNone_some, Option.isNone_none])
    have er : rise1 (vis.map (·.1)) = rise1 (t.sm.map (·.1)) := rise_is ((rise1_perm.trans (hperm.symm.map _))) rise1_rise
    have el : (vis.map (·.1)).length = t.sm.length := by rw [List.length_map, hperm.length_eq]
    refine ldSl_of (g6.cell (i := 0) rfl rfl) ?_
    have hsl : ((rise1 (t.sm.map (·.1))).length : Nat) = (vis.map (·.1)).length := by rw [rise1_perm.length_eq, el, List.length_map]
    rw [er] at g6
    by_cases hz : t.sm.length = 0
    · have e : t.onward = t.next.finds := by unfold Tr.onward; rw [if_neg hlt, if_pos hz]
      have g6 : St H0 (trRaw tb c { t.next with todo := rise1 (t.sm.map (·.1)) } x' (.map (some x'.mb)) (Prt.mp x'.mb (ments (Value.int .i64) (Value.int .u64) t.sm)) F ++ M) H6 := by
        unfold trRaw
        simp only [hsl]
        exact g6
      refine bif_eq (by simp only [List.length_map] at el ⊢; omega) (trFindsC g6 fun x'' H7 g7 => ?_)
      (try simp only [asI_mk', asB_mk, asP_mk, asA_mk, asM_mk, asSl_mk, asStr_mk, tup2_mk, tup3_mk, agg1_mk, agg2_mk, agg3_mk, agg4_mk, asAggm, unCons_mk, unNil_mk, asTup_mk, extractD0, extractD1, List.toList_toArray, nilP_mk, add_mk, Nat.zero_add, Nat.add_zero, condT, condF, Bool.not_true, Bool.not_false, Option.isNone_some, Option.isNone_none])
      exact finOff _ x'' H7 e rfl g7
    · have e : t.onward = { t.next with todo := rise1 (t.sm.map (·.1)), st := 2 } := by unfold Tr.onward; rw [if_neg hlt, if_neg hz]
      refine bif_ne (by simp only [List.length_map] at el ⊢; omega) (g6.put (i := 0) rfl (show 25 < 32 by decide) fun H7 g7 => finOn _ x' H7 e (by show (2 : Int) ≠ 0; decide) ?_)
      unfold trRaw
      simp only [hsl]
      exact g7
  · refine nextC_more (hR73 true H5 ?_)
    clear hR73
    simp only [condT]
    refine g5.mentry (i := 2) rfl ?_
    (try simp only [asI_mk', asB_mk, asP_mk, asA_mk, asM_mk, asSl_mk, asStr_mk, tup2_mk, tup3_mk, agg1_mk, agg2_mk, agg3_mk, agg4_mk, asAggm, unCons_mk, unNil_mk, asTup_mk, extractD0, extractD1, List.toList_toArray, nilP_mk, add_mk, Nat.zero_add, Nat.add_zero, condT, condF, Bool.not_true, Bool.not_false, Option.isNone_some, Option.isNone_none])
    have g5 : St H0 (trRaw tb c { t.next with todo := vis.map (·.1) } x' (.map (some x'.mb)) (Prt.mpit x'.mb it es (ments (Value.int .i64) (Value.int .u64) (A ++ B)) (some (Value.int .i64 q.1, Value.int .u64 q.2))) F ++ M) H5 := g5
    refine ldSl_of (g5.cell (i := 0) rfl rfl) ?_
    refine lit_ty_Sint (m := 1) (c := #[.int .i64 q.1]) (g5.row_own (i := 3) rfl) rfl (fun z hz => by simp at hz; rw [hz]; rfl) (by simp only [List.length_map]; omega) fun p' cap' H6 ho' hg' => ?_
    (try simp only [asI_mk', asB_mk, asP_mk, asA_mk, asM_mk, asSl_mk, asStr_mk, tup2_mk, tup3_mk, agg1_mk, agg2_mk, agg3_mk, agg4_mk, asAggm, unCons_mk, unNil_mk, asTup_mk, extractD0, extractD1, List.toList_toArray, nilP_mk, add_mk, Nat.zero_add, Nat.add_zero, condT, condF, Bool.not_true, Bool.not_false, Option.isNone_some, Option.isNone_none])
    have g6 := g5.row_to (i := 3) rfl ho' hg'
    refine g6.put (i := 0) rfl (show 29 < 32 by decide) fun H7 g7 => ?_
    have e1 : (vis.map (·.1)).map (Value.int .i64) ++ (#[Value.int .i64 q.1] : Array Value).toList = ((vis ++ [q]).map (·.1)).map (Value.int .i64) := by simp
    have e2 : (vis.map (·.1)).length + 1 = ((vis ++ [q]).map (·.1)).length := by simp
    rw [e1, e2] at g7
    have g7 : St H0 (trRaw tb c { t.next with todo := (vis ++ [q]).map (·.1) } { x' with tp := p', tc := cap' } (.map (some x'.mb)) (Prt.mpit x'.mb it es (ments (Value.int .i64) (Value.int .u64) (A ++ B)) (some (Value.int .i64 q.1, Value.int .u64 q.2))) F ++ M) H7 := g7
    have hperm' : t.sm.Perm ((vis ++ [q]) ++ (A ++ B)) := by
      rw [e] at hperm
      refine hperm.trans ?_
      rw [List.append_assoc]
      exact List.perm_middle.append_left vis |> fun h => h
    refine ⟨⟨vis ++ [q], A ++ B, _, { x' with tp := p', tc := cap' }, hperm', hmb, g7⟩, ?_⟩
    have h8 := g7.mleft (i := 2) rfl
    rw [hmb] at h8
    rw [h8, hleft, e]
    simp [ments]
end
end Go.Proofs.Ytknejebggegfjaa

namespace Go.Proofs.Ytknejebggegfjaa
set_option linter.unusedSimpArgs false
set_option linter.unusedVariables false
open Go
theorem cel_code {l : List It} {i : Nat} {v : Int} (hi : i < l.length) : (cel It.cells l).set (i * 5 + 4) (.int .i64 v) = cel It.cells (l.set i { l.getD i noIt with code := v }) := by
  have e0 : cel It.cells l = cel It.cells (l.set i (l.getD i noIt)) := by
    rw [List.getD_eq_getElem?_getD, List.getElem?_eq_getElem hi, Option.getD_some, List.set_getElem_self]
  rw [cel_set It.len noIt hi] at e0 ⊢
  have hl : ((cel It.cells l).take (i * 5)).length = i * 5 := by
    rw [List.length_take, cel_len It.len]
    have : i * 5 ≤ l.length * 5 := Nat.mul_le_mul_right _ (Nat.le_of_lt hi)
    omega
  conv => lhs; rw [e0]
  rw [List.append_assoc, List.set_append_right _ _ (by omega), hl, Nat.add_sub_cancel_left, List.append_assoc]
  rfl
theorem bury_app {x : It} : ∀ {l : List It} {k : Nat}, buryFrom k (l ++ [x]) = buryFrom k l ++ (if x.inn = true ∧ x.code = 2 then [((k + l.length : Nat) : Int)] else [])
  | [], k => by
    show buryFrom k [x] = _
    unfold buryFrom
    split <;> rfl
  | y :: l, k => by
    have ih := bury_app (x := x) (l := l) (k := k + 1)
    show buryFrom k (y :: (l ++ [x])) = _
    rw [buryFrom, buryFrom, ih, List.length_cons, show k + 1 + l.length = k + (l.length + 1) by omega]
    split <;> simp
section
variable {H0 H : Hp} {L M N : List Prt} {i k tb : Nat} {c : Cf} {t : Tr} {x : TrX} {m : Ms} {mv : Value} {mp : Prt} {F : Prop} {K : Value → Hp → Prop}
theorem St.rowDrop {q n cap l : Nat} {p : Option Addr} {xs : List Value} (h : St H0 L H) (hi : L[i]? = some (Prt.row q p n cap xs)) (hl : l ≤ n) : St H0 (L.set i (Prt.row q (slcP p cap l q) (n - l) (cap - l) (xs.drop (l * q)))) H :=
  h.row_to hi ((h.row_own hi).drop hl) ((Goes.refl (blk p) H).less fun c hc => slcP_blk.1 hc)
theorem itCode (g : St H0 (N ++ (trRaw tb c t x mv mp F ++ M)) H) {v : Int} {Q : Hp → Prop} (h0 : 0 ≤ t.opn) (h1 : t.opn < t.items.length) (hQ : ∀ H', St H0 (N ++ (trRaw tb c (t.code v) x mv mp F ++ M)) H' → Q H') :
    idxA x.ip t.items.length t.opn 5 fun el => st (el.add 4) (.int .i64 v) H fun H' => Q H' := by
  refine itRd (M := M) (St.lesses (M := N) g) h0 h1 fun b o hp _ => ?_
  rw [add_mk, Nat.add_assoc]
  have hlt : t.opn.toNat < t.items.length := by omega
  refine g.poke (i := N.length + 1) (by rw [List.getElem?_append_right (Nat.le_add_right _ _), Nat.add_sub_cancel_left]; rfl) hp (by have : (t.opn.toNat + 1) * 5 ≤ t.items.length * 5 := Nat.mul_le_mul_right _ hlt; omega) fun H' h' => hQ H' ?_
  rw [cel_code hlt, List.set_append_right _ _ (Nat.le_add_right _ _), Nat.add_sub_cancel_left] at h'
  have e : (t.code v).items.length = t.items.length := by simp [Tr.code]
  unfold trRaw
  rw [e]
  exact h'

theorem trAskedC {f4 f5 f6 f8 f9 f11 f13 f14 f15 f16 : Int} {rp lp : Option Addr} {rl rc ll lc : Nat} (hn : 1 ≤ c.a0 ∧ c.a0 ≤ 12) (ho : t.ok c.a0) (h1 : t.st = 1) (hll : ll = m.list.length) (hlb : ll ≤ 4611686018427387903) (hm0 : ∀ n ∈ m.list, 0 ≤ n ∧ n < 18446744073709551616)
    (g : St H0 (trRaw tb c t x (.map (some x.mb)) (Prt.mp x.mb (ments (Value.int .i64) (Value.int .u64) t.sm)) F ++ M) H) (hrd : ∀ N H', St H0 (N ++ M) H' → Rd H' 1 lp ll (m.list.map (Value.int .u64)))
    (hK : ∀ x' H', St H0 (trRaw tb c (t.asked c.a0 m.code m.stamp m.list) x' (smV (t.asked c.a0 m.code m.stamp m.list) x') (smP (t.asked c.a0 m.code m.stamp m.list) x') F ++ M) H' → K (.tuple #[]) H') :
    hcall PR f_trace_Trace_asked ⟨[.pointer (some ⟨tb, 0, none⟩), .agg #[.int .i64 m.kind, .int .i64 m.frm, .int .i64 m.to, .int .u64 m.call, .int .u64 f4, .int .i64 f5, .int .i64 f6, .int .i64 m.item, .int .i64 f8, .int .u64 f9, .slice rp rl rc, .int .u64 f11, .int .i64 m.code, .int .u64 f13, .int .i64 f14, .int .u64 f15, .int .i64 f16, .int .u64 m.stamp, .slice lp ll lc]]⟩ H K := by
  apply den_trace_Trace_asked
  unfold B_trace_Trace_asked
  obtain ⟨o1, o2, o3⟩ := ho.one h1
  intro b25 hb25
  have g1 := g.alloc (o := .cells #[.int .i64 m.kind, .int .i64 m.frm, .int .i64 m.to, .int .u64 m.call, .int .u64 f4, .int .i64 f5, .int .i64 f6, .int .i64 m.item, .int .i64 f8, .int .u64 f9, .slice rp rl rc, .int .u64 f11, .int .i64 m.code, .int .u64 f13, .int .i64 f14, .int .u64 f15, .int .i64 f16, .int .u64 m.stamp, .slice lp ll lc] ty_api_Msg) hb25
  have finOver : ∀ x' H', t.asked c.a0 m.code m.stamp m.list = t.over → St H0 (trRaw tb c t.over x' (.map none) .nil F ++ M) H' → K (.tuple #[]) H' := fun x' H' e h' => by
    refine hK x' H' ?_
    rw [e, smV_off rfl, smP_off rfl]
    exact h'
  (try simp only [asI_mk', asB_mk, asP_mk, asA_mk, asM_mk, asSl_mk, asStr_mk, tup2_mk, tup3_mk, agg1_mk, agg2_mk, agg3_mk, agg4_mk, asAggm, unCons_mk, unNil_mk, asTup_mk, extractD0, extractD1, List.toList_toArray, nilP_mk, add_mk, Nat.zero_add, Nat.add_zero, condT, condF, Bool.not_true, Bool.not_false, Option.isNone_some, Option.isNone_none])
  refine ldSl_of (g1.cell (i := 1) rfl rfl) (ldI_of (g1.cell (i := 1) rfl rfl) (itRd (M := M) (St.lesses (M := [_]) g1) o1 o2 fun b o hp hc => ?_))
  obtain ⟨y, hy⟩ : ∃ y, y = t.items.getD t.opn.toNat noIt := ⟨_, rfl⟩
  rw [← hy] at hc
  have cc := fun (N : List Prt) (H' : Hp) (h' : St H0 (N ++ (trRaw tb c t x (.map (some x.mb)) (Prt.mp x.mb (ments (Value.int .i64) (Value.int .u64) t.sm)) F ++ M)) H') => hc N H' h'
  have r0 := cc [_] _ g1
  (try simp only [asI_mk', asB_mk, asP_mk, asA_mk, asM_mk, asSl_mk, asStr_mk, tup2_mk, tup3_mk, agg1_mk, agg2_mk, agg3_mk, agg4_mk, asAggm, unCons_mk, unNil_mk, asTup_mk, extractD0, extractD1, List.toList_toArray, nilP_mk, add_mk, Nat.zero_add, Nat.add_zero, condT, condF, Bool.not_true, Bool.not_false, Option.isNone_some, Option.isNone_none])
  refine ldB_of (r0 0 (by omega)) (ldI_of (r0 1 (by omega)) (ldI_of (r0 2 (by omega)) (ldI_of (r0 3 (by omega)) (ldI_of (r0 4 (by omega)) ?_))))
  intro b39 hb39
  have g2 := g1.alloc (o := .cells #[.bool false, .int .i64 0, .int .i64 0, .int .u64 0, .int .i64 0] ty_trace_Item) hb39
  have r1 := cc [_, _] _ g2
  refine ⟨ldB_of (r1 0 (by omega)) (ldI_of (r1 1 (by omega)) (ldI_of (r1 2 (by omega)) (ldI_of (r1 3 (by omega)) (ldI_of (r1 4 (by omega)) rfl)))), ldI_of (g2.cell (i := 2) rfl rfl) rfl, ldSl_of (g2.cell (i := 2) rfl rfl) rfl, ?_⟩
  refine St.sets (i := 0) (o := 0) (vs := y.cells) g2 rfl (by simp [It.cells]) fun H3 g3 => ?_
  rw [setsA_all (by rfl)] at g3
  have g3 : St H0 (Prt.one b39 (.cells #[.bool y.inn, .int .i64 y.node, .int .i64 y.id.n, .int .u64 y.id.s, .int .i64 y.code] ty_trace_Item (0, 0)) :: Prt.one b25 (.cells #[.int .i64 m.kind, .int .i64 m.frm, .int .i64 m.to, .int .u64 m.call, .int .u64 f4, .int .i64 f5, .int .i64 f6, .int .i64 m.item, .int .i64 f8, .int .u64 f9, .slice rp rl rc, .int .u64 f11, .int .i64 m.code, .int .u64 f13, .int .i64 f14, .int .u64 f15, .int .i64 f16, .int .u64 m.stamp, .slice lp ll lc] ty_api_Msg (0, 0)) :: (trRaw tb c t x (.map (some x.mb)) (Prt.mp x.mb (ments (Value.int .i64) (Value.int .u64) t.sm)) F ++ M)) H3 := g3
  clear g1 g2 r0 r1 cc hc g
  intro R55 hR55
  have hR55 : ∀ t2 x2 H', t2.ok c.a0 → t2.st = 1 → t2.onward = t.asked c.a0 m.code m.stamp m.list → St H0 (Prt.one b39 (.cells #[.bool y.inn, .int .i64 y.node, .int .i64 y.id.n, .int .u64 y.id.s, .int .i64 y.code] ty_trace_Item (0, 0)) :: Prt.one b25 (.cells #[.int .i64 m.kind, .int .i64 m.frm, .int .i64 m.to, .int .u64 m.call, .int .u64 f4, .int .i64 f5, .int .i64 f6, .int .i64 m.item, .int .i64 f8, .int .u64 f9, .slice rp rl rc, .int .u64 f11, .int .i64 m.code, .int .u64 f13, .int .i64 f14, .int .u64 f15, .int .i64 f16, .int .u64 m.stamp, .slice lp ll lc] ty_api_Msg (0, 0)) :: (trRaw tb c t2 x2 (.map (some x2.mb)) (Prt.mp x2.mb (ments (Value.int .i64) (Value.int .u64) t2.sm)) F ++ M)) H' → R55 H' := fun t2 x2 H' ho2 hs2 he h' => by
    refine hR55 H' ?_
    refine trOnwardC (K := K (.tuple #[])) hn ho2 hs2 (St.lesses (M := [_, _]) h') fun x' H'' h'' => ?_
    refine hK x' H'' ?_
    rw [← he]
    exact h''
  refine ldI_of (g3.cell (i := 1) rfl rfl) ?_
  by_cases c0 : m.code = 0
  · refine bif_eq c0 (ldSl_of (g3.cell (i := 2) rfl rfl) (ldI_of (g3.cell (i := 2) rfl rfl) (itCode (N := [_, _]) (M := M) g3 o1 o2 fun H4 g4 => ?_)))
    exact hR55 (t.code 0) x H4 (Tr.code_ok ho h1) h1 (by unfold Tr.asked; rw [if_pos c0]) g4
  refine bif_ne c0 ?_
  by_cases c2 : m.code = 2
  rotate_left
  · refine bif_ne c2 (trOverC (M := M) (St.lesses (M := [_, _]) g3) fun x' H4 g4 => ?_)
    (try simp only [asI_mk', asB_mk, asP_mk, asA_mk, asM_mk, asSl_mk, asStr_mk, tup2_mk, tup3_mk, agg1_mk, agg2_mk, agg3_mk, agg4_mk, asAggm, unCons_mk, unNil_mk, asTup_mk, extractD0, extractD1, List.toList_toArray, nilP_mk, add_mk, Nat.zero_add, Nat.add_zero, condT, condF, Bool.not_true, Bool.not_false, Option.isNone_some, Option.isNone_none])
    exact finOver x' H4 (by unfold Tr.asked; rw [if_neg c0, if_neg c2]) g4
  refine bif_eq c2 (ldSl_of (g3.cell (i := 2) rfl rfl) (ldI_of (g3.cell (i := 2) rfl rfl) (itCode (N := [_, _]) (M := M) g3 o1 o2 fun H4 g4 => ?_)))
  have g4 : St H0 (Prt.one b39 (.cells #[.bool y.inn, .int .i64 y.node, .int .i64 y.id.n, .int .u64 y.id.s, .int .i64 y.code] ty_trace_Item (0, 0)) :: Prt.one b25 (.cells #[.int .i64 m.kind, .int .i64 m.frm, .int .i64 m.to, .int .u64 m.call, .int .u64 f4, .int .i64 f5, .int .i64 f6, .int .i64 m.item, .int .i64 f8, .int .u64 f9, .slice rp rl rc, .int .u64 f11, .int .i64 m.code, .int .u64 f13, .int .i64 f14, .int .u64 f15, .int .i64 f16, .int .u64 m.stamp, .slice lp ll lc] ty_api_Msg (0, 0)) :: (trRaw tb c (t.code 2) x (.map (some x.mb)) (Prt.mp x.mb (ments (Value.int .i64) (Value.int .u64) (t.code 2).sm)) F ++ M)) H4 := g4
  clear g3
  have hask : t.asked c.a0 m.code m.stamp m.list = if (mlook t.sm y.node).isSome ∧ (mlook t.sm y.node).getD 0 ≠ m.stamp then t.over
    else if (moreL c.a0 y m.list (t.code 2).items).1 = false then t.over
    else Tr.onward { t with items := (moreL c.a0 y m.list (t.code 2).items).2, sm := mput t.sm y.node m.stamp } := by
    unfold Tr.asked
    rw [if_neg c0, if_pos c2, ← hy]
  intro R128 hR128
  have hR128 : ¬ ((mlook t.sm y.node).isSome ∧ (mlook t.sm y.node).getD 0 ≠ m.stamp) → R128 H4 := fun hno => by
    rw [if_neg hno] at hask
    refine hR128 H4 ?_
    refine ldM_of (g4.cell (i := 2) rfl rfl) (ldI_of (g4.cell (i := 0) rfl rfl) (ldI_of (g4.cell (i := 1) rfl rfl) ?_))
    refine g4.mupd (i := 4) rfl smK smT ho.sm y.node m.stamp rfl fun H5 g5 => ?_
    (try simp only [asI_mk', asB_mk, asP_mk, asA_mk, asM_mk, asSl_mk, asStr_mk, tup2_mk, tup3_mk, agg1_mk, agg2_mk, agg3_mk, agg4_mk, asAggm, unCons_mk, unNil_mk, asTup_mk, extractD0, extractD1, List.toList_toArray, nilP_mk, add_mk, Nat.zero_add, Nat.add_zero, condT, condF, Bool.not_true, Bool.not_false, Option.isNone_some, Option.isNone_none])
    have g5 : St H0 (Prt.one b39 (.cells #[.bool y.inn, .int .i64 y.node, .int .i64 y.id.n, .int .u64 y.id.s, .int .i64 y.code] ty_trace_Item (0, 0)) :: Prt.one b25 (.cells #[.int .i64 m.kind, .int .i64 m.frm, .int .i64 m.to, .int .u64 m.call, .int .u64 f4, .int .i64 f5, .int .i64 f6, .int .i64 m.item, .int .i64 f8, .int .u64 f9, .slice rp rl rc, .int .u64 f11, .int .i64 m.code, .int .u64 f13, .int .i64 f14, .int .u64 f15, .int .i64 f16, .int .u64 m.stamp, .slice lp ll lc] ty_api_Msg (0, 0)) :: (trRaw tb c { t.code 2 with sm := mput t.sm y.node m.stamp } x (.map (some x.mb)) (Prt.mp x.mb (ments (Value.int .i64) (Value.int .u64) (mput t.sm y.node m.stamp))) F ++ M)) H5 := g5
    refine ldB_of (g5.cell (i := 0) rfl rfl) (ldI_of (g5.cell (i := 0) rfl rfl) (ldI_of (g5.cell (i := 0) rfl rfl) (ldI_of (g5.cell (i := 0) rfl rfl) (ldI_of (g5.cell (i := 0) rfl rfl) (ldSl_of (g5.cell (i := 1) rfl rfl) ?_)))))
    have hc2 := Tr.code_ok (c := 2) ho h1
    have hym : 1 ≤ y.node ∧ y.node ≤ c.a0 := by
      rw [hy]
      refine ho.nds _ ?_
      rw [List.getD_eq_getElem?_getD, List.getElem?_eq_getElem (by omega)]
      exact List.getElem_mem _
    have g6 : St H0 (trRaw tb c { t.code 2 with sm := mput t.sm y.node m.stamp } x (.map (some x.mb)) (Prt.mp x.mb (ments (Value.int .i64) (Value.int .u64) (mput t.sm y.node m.stamp))) F ++ (Prt.one b39 (.cells #[.bool y.inn, .int .i64 y.node, .int .i64 y.id.n, .int .u64 y.id.s, .int .i64 y.code] ty_trace_Item (0, 0)) :: Prt.one b25 (.cells #[.int .i64 m.kind, .int .i64 m.frm, .int .i64 m.to, .int .u64 m.call, .int .u64 f4, .int .i64 f5, .int .i64 f6, .int .i64 m.item, .int .i64 f8, .int .u64 f9, .slice rp rl rc, .int .u64 f11, .int .i64 m.code, .int .u64 f13, .int .i64 f14, .int .u64 f15, .int .i64 f16, .int .u64 m.stamp, .slice lp ll lc] ty_api_Msg (0, 0)) :: M)) H5 := g5.perm (by
      show List.Perm ([_, _] ++ (trRaw _ _ _ _ _ _ _ ++ M)) (trRaw _ _ _ _ _ _ _ ++ ([_, _] ++ M))
      rw [← List.append_assoc, ← List.append_assoc]
      exact List.perm_append_comm.append_right M)
    refine trMoreC (t := { t.code 2 with sm := mput t.sm y.node m.stamp }) g6 hn hc2.items hll hlb hm0 (fun N H' h' => hrd (N ++ [_, _]) H' (by rw [List.append_assoc]; exact h')) fun x' H6 hmb g7 => ?_
    (try simp only [asI_mk', asB_mk, asP_mk, asA_mk, asM_mk, asSl_mk, asStr_mk, tup2_mk, tup3_mk, agg1_mk, agg2_mk, agg3_mk, agg4_mk, asAggm, unCons_mk, unNil_mk, asTup_mk, extractD0, extractD1, List.toList_toArray, nilP_mk, add_mk, Nat.zero_add, Nat.add_zero, condT, condF, Bool.not_true, Bool.not_false, Option.isNone_some, Option.isNone_none])
    have g7 : St H0 (trRaw tb c { t with items := (moreL c.a0 y m.list (t.code 2).items).2, sm := mput t.sm y.node m.stamp } x' (.map (some x.mb)) (Prt.mp x.mb (ments (Value.int .i64) (Value.int .u64) (mput t.sm y.node m.stamp))) F ++ (Prt.one b39 (.cells #[.bool y.inn, .int .i64 y.node, .int .i64 y.id.n, .int .u64 y.id.s, .int .i64 y.code] ty_trace_Item (0, 0)) :: Prt.one b25 (.cells #[.int .i64 m.kind, .int .i64 m.frm, .int .i64 m.to, .int .u64 m.call, .int .u64 f4, .int .i64 f5, .int .i64 f6, .int .i64 m.item, .int .i64 f8, .int .u64 f9, .slice rp rl rc, .int .u64 f11, .int .i64 m.code, .int .u64 f13, .int .i64 f14, .int .u64 f15, .int .i64 f16, .int .u64 m.stamp, .slice lp ll lc] ty_api_Msg (0, 0)) :: M)) H6 := g7
    rw [← hmb] at g7
    cases hmo : (moreL c.a0 y m.list (t.code 2).items).1
    · simp only [Bool.not_false, condT]
      rw [if_pos hmo] at hask
      refine trOverC (t := { t with items := (moreL c.a0 y m.list (t.code 2).items).2, sm := mput t.sm y.node m.stamp }) g7 fun x'' H7 g8 => ?_
      (try simp only [asI_mk', asB_mk, asP_mk, asA_mk, asM_mk, asSl_mk, asStr_mk, tup2_mk, tup3_mk, agg1_mk, agg2_mk, agg3_mk, agg4_mk, asAggm, unCons_mk, unNil_mk, asTup_mk, extractD0, extractD1, List.toList_toArray, nilP_mk, add_mk, Nat.zero_add, Nat.add_zero, condT, condF, Bool.not_true, Bool.not_false, Option.isNone_some, Option.isNone_none])
      refine finOver x'' H7 hask ?_
      have g8 : St H0 (trRaw tb c t.over x'' (.map none) .nil F ++ ([_, _] ++ M)) H7 := g8
      rw [← List.append_assoc] at g8
      have g8 := g8.perm (List.perm_append_comm.append_right M)
      rw [List.append_assoc] at g8
      exact St.lesses (M := [_, _]) g8
    · simp only [Bool.not_true, condF]
      rw [if_neg (by rw [hmo]; decide)] at hask
      have hmo := more_ok hym (r := m.list) hc2.items hc2.nds
      have hcl : (t.code 2).items.length = t.items.length := by simp [Tr.code]
      refine hR55 { t with items := (moreL c.a0 y m.list (t.code 2).items).2, sm := mput t.sm y.node m.stamp } x' H6 ⟨ho.st, hmo.1, hmo.2.1, mput_nod ho.sm _ _, fun e he => ?_, fun _ => ⟨o1, by simp only; omega, o3⟩, fun h2 => absurd h2 (by show ¬ t.st = 2; omega), fun h3 => absurd h3 (by show ¬ t.st = 3; omega)⟩ h1 hask.symm ?_
      · rcases mput_in he with rfl | he
        · exact hym
        · exact ho.keys e he
      have g7 : St H0 (trRaw tb c { t with items := (moreL c.a0 y m.list (t.code 2).items).2, sm := mput t.sm y.node m.stamp } x' (.map (some x'.mb)) (Prt.mp x'.mb (ments (Value.int .i64) (Value.int .u64) (mput t.sm y.node m.stamp))) F ++ ([_, _] ++ M)) H6 := g7
      rw [← List.append_assoc] at g7
      have g7 := g7.perm (List.perm_append_comm.append_right M)
      rw [List.append_assoc] at g7
      exact g7
  refine ldM_of (g4.cell (i := 2) rfl rfl) (ldI_of (g4.cell (i := 0) rfl rfl) ?_)
  refine g4.look (i := 4) rfl smK smT (z := .int .u64 0) (by kernel_rfl) ho.sm y.node true ?_
  simp only [if_true]
  cases hlk : mlook t.sm y.node with
  | none =>
    rw [show (mlook (t.code 2).sm y.node) = none from hlk]
    (try simp only [asI_mk', asB_mk, asP_mk, asA_mk, asM_mk, asSl_mk, asStr_mk, tup2_mk, tup3_mk, agg1_mk, agg2_mk, agg3_mk, agg4_mk, asAggm, unCons_mk, unNil_mk, asTup_mk, extractD0, extractD1, List.toList_toArray, nilP_mk, add_mk, Nat.zero_add, Nat.add_zero, condT, condF, Bool.not_true, Bool.not_false, Option.isNone_some, Option.isNone_none])
    exact hR128 (by rw [hlk]; simp)
  | some v =>
    rw [show (mlook (t.code 2).sm y.node) = some v from hlk]
    (try simp only [asI_mk', asB_mk, asP_mk, asA_mk, asM_mk, asSl_mk, asStr_mk, tup2_mk, tup3_mk, agg1_mk, agg2_mk, agg3_mk, agg4_mk, asAggm, unCons_mk, unNil_mk, asTup_mk, extractD0, extractD1, List.toList_toArray, nilP_mk, add_mk, Nat.zero_add, Nat.add_zero, condT, condF, Bool.not_true, Bool.not_false, Option.isNone_some, Option.isNone_none])
    refine ldI_of (g4.cell (i := 1) rfl rfl) ?_
    by_cases hv : v = m.stamp
    · refine bif_neqf hv (hR128 (by rw [hlk]; simpa using hv))
    · refine bif_neq hv (trOverC (M := M) (St.lesses (M := [_, _]) g4) fun x' H5 g5 => ?_)
      (try simp only [asI_mk', asB_mk, asP_mk, asA_mk, asM_mk, asSl_mk, asStr_mk, tup2_mk, tup3_mk, agg1_mk, agg2_mk, agg3_mk, agg4_mk, asAggm, unCons_mk, unNil_mk, asTup_mk, extractD0, extractD1, List.toList_toArray, nilP_mk, add_mk, Nat.zero_add, Nat.add_zero, condT, condF, Bool.not_true, Bool.not_false, Option.isNone_some, Option.isNone_none])
      exact finOver x' H5 (by rw [hask, if_pos (by rw [hlk]; exact ⟨rfl, hv⟩)]) g5

theorem trCheckedC {f4 f5 f6 f8 f9 f11 f13 f14 f15 f16 : Int} {rp lp : Option Addr} {rl rc ll lc : Nat} (ho : t.ok c.a0) (h2 : t.st = 2) (g : St H0 (trRaw tb c t x (.map (some x.mb)) (Prt.mp x.mb (ments (Value.int .i64) (Value.int .u64) t.sm)) F ++ M) H)
    (hK : ∀ x' H', St H0 (trRaw tb c (t.checked m.stamp) x' (smV (t.checked m.stamp) x') (smP (t.checked m.stamp) x') F ++ M) H' → K (.tuple #[]) H') :
    hcall PR f_trace_Trace_checked ⟨[.pointer (some ⟨tb, 0, none⟩), .agg #[.int .i64 m.kind, .int .i64 m.frm, .int .i64 m.to, .int .u64 m.call, .int .u64 f4, .int .i64 f5, .int .i64 f6, .int .i64 m.item, .int .i64 f8, .int .u64 f9, .slice rp rl rc, .int .u64 f11, .int .i64 m.code, .int .u64 f13, .int .i64 f14, .int .u64 f15, .int .i64 f16, .int .u64 m.stamp, .slice lp ll lc]]⟩ H K := by
  apply den_trace_Trace_checked
  unfold B_trace_Trace_checked
  obtain ⟨o1, o2⟩ := ho.two h2
  have finOn : ∀ t' x' H', t.checked m.stamp = t' → t'.st ≠ 0 → St H0 (trRaw tb c t' x' (.map (some x'.mb)) (Prt.mp x'.mb (ments (Value.int .i64) (Value.int .u64) t'.sm)) F ++ M) H' → K (.tuple #[]) H' := fun t' x' H' e hs h' => by
    refine hK x' H' ?_
    rw [e, smV_on hs, smP_on hs]
    exact h'
  have finOff : ∀ t' x' H', t.checked m.stamp = t' → t'.st = 0 → St H0 (trRaw tb c t' x' (.map none) .nil F ++ M) H' → K (.tuple #[]) H' := fun t' x' H' e hs h' => by
    refine hK x' H' ?_
    rw [e, smV_off hs, smP_off hs]
    exact h'
  clear hK
  intro b25 hb25
  have g1 := g.alloc (o := .cells #[.int .i64 m.kind, .int .i64 m.frm, .int .i64 m.to, .int .u64 m.call, .int .u64 f4, .int .i64 f5, .int .i64 f6, .int .i64 m.item, .int .i64 f8, .int .u64 f9, .slice rp rl rc, .int .u64 f11, .int .i64 m.code, .int .u64 f13, .int .i64 f14, .int .u64 f15, .int .i64 f16, .int .u64 m.stamp, .slice lp ll lc] ty_api_Msg) hb25
  (try simp only [asI_mk', asB_mk, asP_mk, asA_mk, asM_mk, asSl_mk, asStr_mk, tup2_mk, tup3_mk, agg1_mk, agg2_mk, agg3_mk, agg4_mk, asAggm, unCons_mk, unNil_mk, asTup_mk, extractD0, extractD1, List.toList_toArray, nilP_mk, add_mk, Nat.zero_add, Nat.add_zero, condT, condF, Bool.not_true, Bool.not_false, Option.isNone_some, Option.isNone_none])
  refine ldI_of (g1.cell (i := 0) rfl rfl) (ldM_of (g1.cell (i := 1) rfl rfl) (ldSl_of (g1.cell (i := 1) rfl rfl) (tdRd (M := M) (St.lesses (M := [_]) g1) o1 (by omega) fun a ha => ldI_of (ha [_] _ g1) ?_)))
  refine smLook (i := 3) g1 rfl ho.sm ?_
  (try simp only [asI_mk', asB_mk, asP_mk, asA_mk, asM_mk, asSl_mk, asStr_mk, tup2_mk, tup3_mk, agg1_mk, agg2_mk, agg3_mk, agg4_mk, asAggm, unCons_mk, unNil_mk, asTup_mk, extractD0, extractD1, List.toList_toArray, nilP_mk, add_mk, Nat.zero_add, Nat.add_zero, condT, condF, Bool.not_true, Bool.not_false, Option.isNone_some, Option.isNone_none])
  by_cases hs : m.stamp = (mlook t.sm (t.todo.getD 0 0)).getD 0
  rotate_left
  · refine bif_neq hs (trOverC (M := M) (St.lesses (M := [_]) g1) fun x' H2 g2 => ?_)
    (try simp only [asI_mk', asB_mk, asP_mk, asA_mk, asM_mk, asSl_mk, asStr_mk, tup2_mk, tup3_mk, agg1_mk, agg2_mk, agg3_mk, agg4_mk, asAggm, unCons_mk, unNil_mk, asTup_mk, extractD0, extractD1, List.toList_toArray, nilP_mk, add_mk, Nat.zero_add, Nat.add_zero, condT, condF, Bool.not_true, Bool.not_false, Option.isNone_some, Option.isNone_none])
    exact finOff _ x' H2 (by unfold Tr.checked; rw [if_pos hs]) rfl g2
  refine bif_neqf hs (trNextC (M := M) (St.lesses (M := [_]) g1) fun H2 g2 => ?_)
  (try simp only [asI_mk', asB_mk, asP_mk, asA_mk, asM_mk, asSl_mk, asStr_mk, tup2_mk, tup3_mk, agg1_mk, agg2_mk, agg3_mk, agg4_mk, asAggm, unCons_mk, unNil_mk, asTup_mk, extractD0, extractD1, List.toList_toArray, nilP_mk, add_mk, Nat.zero_add, Nat.add_zero, condT, condF, Bool.not_true, Bool.not_false, Option.isNone_some, Option.isNone_none])
  have hpos : 0 < t.todo.length := List.length_pos_iff.2 o1
  refine ldSl_of (g2.cell (i := 0) rfl rfl) (slc_from (by omega) (by show ((1 : Nat) : Int) ≤ (t.todo.length : Int); omega) ?_)
  have g3 := g2.rowDrop (i := 3) (l := 1) rfl (by show 1 ≤ t.todo.length; omega)
  refine g3.put (i := 0) rfl (show 29 < 32 by decide) fun H3 g4 => ?_
  have e1 : (t.next.todo.map (Value.int .i64)).drop (1 * 1) = t.todo.tail.map (Value.int .i64) := by
    show (t.todo.map (Value.int .i64)).drop 1 = _
    rw [← List.map_drop, List.drop_one]
  have e2 : t.next.todo.length - 1 = t.todo.tail.length := by rw [List.length_tail]; rfl
  rw [e1, e2] at g4
  have g4 : St H0 (trRaw tb c { t.next with todo := t.todo.tail } { x with tp := slcP x.tp x.tc 1 1, tc := x.tc - 1 } (.map (some x.mb)) (Prt.mp x.mb (ments (Value.int .i64) (Value.int .u64) t.sm)) F ++ M) H3 := by
    unfold trRaw
    simp only [← e2]
    rw [← e2] at g4
    exact g4
  refine ldSl_of (g4.cell (i := 0) rfl rfl) ?_
  by_cases hl : 1 < t.todo.length
  · refine bif_pos (by show ((t.todo.tail.length : Nat) : Int) > 0; rw [List.length_tail]; omega) ?_
    exact finOn _ { x with tp := slcP x.tp x.tc 1 1, tc := x.tc - 1 } H3 (by unfold Tr.checked; rw [if_neg (fun h => h hs), if_pos hl]) (by show t.st ≠ 0; omega) g4
  refine bif_neg (by show ¬ ((t.todo.tail.length : Nat) : Int) > 0; rw [List.length_tail]; omega) (ldSl_of (g4.cell (i := 0) rfl rfl) ?_)
  have htl : t.todo.tail = [] := List.length_eq_zero_iff.1 (by rw [List.length_tail]; omega)
  rw [htl] at g4
  refine ⟨fun q H' => ∃ (j : Nat) (x' : TrX), q = j ∧ j ≤ t.items.length ∧ (x'.mb = x.mb ∧ x'.ip = x.ip) ∧ St H0 (trRaw tb c { t.next with todo := buryFrom 0 (t.items.take j) } x' (.map (some x'.mb)) (Prt.mp x'.mb (ments (Value.int .i64) (Value.int .u64) t.sm)) F ++ M) H', fun q _ => ((t.items.length : Int) - q).toNat, ⟨0, { x with tp := slcP x.tp x.tc 1 1, tc := x.tc - 1 }, rfl, by omega, ⟨rfl, rfl⟩, g4⟩, ?_⟩
  clear g1 g2 g3 g4 g
  rintro q H4 ⟨j, x', rfl, hj, hmb, g4⟩
  have hil := ho.items
  by_cases hc : (j : Int) < (t.items.length : Int)
  rotate_left
  · refine bif_neg hc (ldSl_of (g4.cell (i := 0) rfl rfl) ?_)
    rw [List.take_of_length_le (by omega)] at g4 ⊢
    by_cases hz : (buryFrom 0 t.items).length = 0
    · refine bif_eq (by show ((buryFrom 0 t.items).length : Int) = 0; omega) (trFindsC g4 fun x'' H5 g5 => ?_)
      (try simp only [asI_mk', asB_mk, asP_mk, asA_mk, asM_mk, asSl_mk, asStr_mk, tup2_mk, tup3_mk, agg1_mk, agg2_mk, agg3_mk, agg4_mk, asAggm, unCons_mk, unNil_mk, asTup_mk, extractD0, extractD1, List.toList_toArray, nilP_mk, add_mk, Nat.zero_add, Nat.add_zero, condT, condF, Bool.not_true, Bool.not_false, Option.isNone_some, Option.isNone_none])
      exact finOff t.next.finds x'' H5 (by unfold Tr.checked; rw [if_neg (fun h => h hs), if_neg hl, if_pos hz]) rfl g5
    · refine bif_ne (by show ¬ ((buryFrom 0 t.items).length : Int) = 0; omega) (g4.put (i := 0) rfl (show 25 < 32 by decide) fun H5 g5 => ?_)
      exact finOn { t.next with todo := buryFrom 0 t.items, st := 3 } x' H5 (by unfold Tr.checked; rw [if_neg (fun h => h hs), if_neg hl, if_neg hz]) (by show (3 : Int) ≠ 0; decide) g5
  have hjl : j < t.items.length := by omega
  obtain ⟨y, hy⟩ : ∃ y, y = t.items.getD j noIt := ⟨_, rfl⟩
  have htk : buryFrom 0 (t.items.take (j + 1)) = buryFrom 0 (t.items.take j) ++ (if y.inn = true ∧ y.code = 2 then [(j : Int)] else []) := by
    have : t.items.take (j + 1) = t.items.take j ++ [y] := by
      rw [hy, List.getD_eq_getElem?_getD, List.getElem?_eq_getElem hjl, List.take_succ_eq_append_getElem hjl]; rfl
    rw [this, bury_app, List.length_take, Nat.min_eq_left hj, Nat.zero_add]
  refine bif_pos hc ?_
  intro R63 hR63
  have hR63 : ∀ x2 H', (x2.mb = x.mb ∧ x2.ip = x.ip) → St H0 (trRaw tb c { t.next with todo := buryFrom 0 (t.items.take (j + 1)) } x2 (.map (some x2.mb)) (Prt.mp x2.mb (ments (Value.int .i64) (Value.int .u64) t.sm)) F ++ M) H' → R63 H' := fun x2 H' hm h' => by
    refine hR63 H' ?_
    rw [wrap_i64 (by omega) (by omega)]
    exact ⟨⟨j + 1, x2, by omega, by omega, hm, h'⟩, by (try dsimp only); omega⟩
  show idxA x.ip t.items.length j 5 _
  rw [← hmb.2]
  refine itRd (t := { t.next with todo := buryFrom 0 (t.items.take j) }) g4 (by omega) hc fun b o hp hcl => ?_
  have cc := fun (N : List Prt) (H' : Hp) (h' : St H0 (N ++ (trRaw tb c { t.next with todo := buryFrom 0 (t.items.take j) } x' (.map (some x'.mb)) (Prt.mp x'.mb (ments (Value.int .i64) (Value.int .u64) t.sm)) F ++ M)) H') => hcl N H' h'
  rw [Int.toNat_natCast] at cc
  have cc := fun (N : List Prt) (H' : Hp) h' => cc N H' h'
  rw [show ({ t.next with todo := buryFrom 0 (t.items.take j) } : Tr).items.getD j noIt = y from hy.symm] at cc
  have r0 := cc [] _ g4
  rw [Int.toNat_natCast]
  (try simp only [asI_mk', asB_mk, asP_mk, asA_mk, asM_mk, asSl_mk, asStr_mk, tup2_mk, tup3_mk, agg1_mk, agg2_mk, agg3_mk, agg4_mk, asAggm, unCons_mk, unNil_mk, asTup_mk, extractD0, extractD1, List.toList_toArray, nilP_mk, add_mk, Nat.zero_add, Nat.add_zero, condT, condF, Bool.not_true, Bool.not_false, Option.isNone_some, Option.isNone_none])
  refine ldB_of (r0 0 (by omega)) (ldI_of (r0 1 (by omega)) (ldI_of (r0 2 (by omega)) (ldI_of (r0 3 (by omega)) (ldI_of (r0 4 (by omega)) ?_))))
  refine boxs (c := [.bool false, .int .i64 0, .int .i64 0, .int .u64 0, .int .i64 0]) (vs := y.cells) g4 rfl fun b71 H5 g5 => ?_
  have g5 : St H0 (Prt.one b71 (.cells #[.bool y.inn, .int .i64 y.node, .int .i64 y.id.n, .int .u64 y.id.s, .int .i64 y.code] ty_trace_Item (0, 0)) :: (trRaw tb c { t.next with todo := buryFrom 0 (t.items.take j) } x' (.map (some x'.mb)) (Prt.mp x'.mb (ments (Value.int .i64) (Value.int .u64) t.sm)) F ++ M)) H5 := g5
  refine ldB_of (g5.cell (i := 0) rfl rfl) ?_
  cases hin : y.inn
  · simp only [condF]
    rw [if_neg (by rw [hin]; simp), List.append_nil] at htk
    exact hR63 x' H5 hmb (by rw [htk]; exact g5.less)
  simp only [condT]
  refine ldI_of (g5.cell (i := 0) rfl rfl) ?_
  by_cases hcd : y.code = 2
  rotate_left
  · rw [if_neg (fun h => hcd h.2), List.append_nil] at htk
    exact bif_ne hcd (hR63 x' H5 hmb (by rw [htk]; exact g5.less))
  rw [if_pos ⟨hin, hcd⟩] at htk
  have hbl := bury_len (l := t.items.take j) (k := 0)
  have hbl2 : (t.items.take j).length ≤ t.items.length := by rw [List.length_take]; omega
  refine bif_eq hcd (ldSl_of (g5.cell (i := 1) rfl rfl) ?_)
  refine lit_ty_Sint (m := 1) (c := #[.int .i64 (j : Int)]) (g5.row_own (i := 4) rfl) rfl (fun z hz => by simp at hz; rw [hz]; rfl) (by simp only; omega) fun p' cap' H6 ho' hg' => ?_
  (try simp only [asI_mk', asB_mk, asP_mk, asA_mk, asM_mk, asSl_mk, asStr_mk, tup2_mk, tup3_mk, agg1_mk, agg2_mk, agg3_mk, agg4_mk, asAggm, unCons_mk, unNil_mk, asTup_mk, extractD0, extractD1, List.toList_toArray, nilP_mk, add_mk, Nat.zero_add, Nat.add_zero, condT, condF, Bool.not_true, Bool.not_false, Option.isNone_some, Option.isNone_none])
  have g6 := g5.row_to (i := 4) rfl ho' hg'
  refine g6.put (i := 1) rfl (show 29 < 32 by decide) fun H7 g7 => ?_
  have e1 : (buryFrom 0 (t.items.take j)).map (Value.int .i64) ++ (#[Value.int .i64 (j : Int)] : Array Value).toList = (buryFrom 0 (t.items.take (j + 1))).map (Value.int .i64) := by rw [htk]; simp
  have e2 : (buryFrom 0 (t.items.take j)).length + 1 = (buryFrom 0 (t.items.take (j + 1))).length := by rw [htk]; simp
  simp only [e1, e2] at g7
  exact hR63 { x' with tp := p', tc := cap' } H7 hmb g7.less

theorem trBuriedC (ho : t.ok c.a0) (h3 : t.st = 3) (g : St H0 (trRaw tb c t x (.map (some x.mb)) (Prt.mp x.mb (ments (Value.int .i64) (Value.int .u64) t.sm)) F ++ M) H)
    (hK : ∀ x' H', St H0 (trRaw tb c (t.buried) x' (smV (t.buried) x') (smP (t.buried) x') F ++ M) H' → K (.tuple #[]) H') :
    hcall PR f_trace_Trace_wasBuried ⟨[.pointer (some ⟨tb, 0, none⟩)]⟩ H K := by
  apply den_trace_Trace_wasBuried
  unfold B_trace_Trace_wasBuried
  obtain ⟨o1, o2, o3⟩ := ho.three h3
  refine trNextC g fun H2 g2 => ?_
  (try simp only [asI_mk', asB_mk, asP_mk, asA_mk, asM_mk, asSl_mk, asStr_mk, tup2_mk, tup3_mk, agg1_mk, agg2_mk, agg3_mk, agg4_mk, asAggm, unCons_mk, unNil_mk, asTup_mk, extractD0, extractD1, List.toList_toArray, nilP_mk, add_mk, Nat.zero_add, Nat.add_zero, condT, condF, Bool.not_true, Bool.not_false, Option.isNone_some, Option.isNone_none])
  have hpos : 0 < t.todo.length := List.length_pos_iff.2 o1
  refine ldSl_of (g2.cell (i := 0) rfl rfl) (slc_from (by omega) (by show ((1 : Nat) : Int) ≤ (t.todo.length : Int); omega) ?_)
  have g3 := g2.rowDrop (i := 3) (l := 1) rfl (by show 1 ≤ t.todo.length; omega)
  refine g3.put (i := 0) rfl (show 29 < 32 by decide) fun H3 g4 => ?_
  have e1 : (t.next.todo.map (Value.int .i64)).drop (1 * 1) = t.todo.tail.map (Value.int .i64) := by
    show (t.todo.map (Value.int .i64)).drop 1 = _
    rw [← List.map_drop, List.drop_one]
  have e2 : t.next.todo.length - 1 = t.todo.tail.length := by rw [List.length_tail]; rfl
  rw [e1, e2] at g4
  have g4 : St H0 (trRaw tb c { t.next with todo := t.todo.tail } { x with tp := slcP x.tp x.tc 1 1, tc := x.tc - 1 } (.map (some x.mb)) (Prt.mp x.mb (ments (Value.int .i64) (Value.int .u64) t.sm)) F ++ M) H3 := by
    unfold trRaw
    simp only [← e2]
    rw [← e2] at g4
    exact g4
  refine ldSl_of (g4.cell (i := 0) rfl rfl) ?_
  by_cases hl : t.todo.length ≤ 1
  · have e : t.buried = t.next.finds := by unfold Tr.buried; rw [if_pos hl]
    refine bif_eq (by show ((t.todo.tail.length : Nat) : Int) = 0; rw [List.length_tail]; omega) (trFindsC g4 fun x'' H5 g5 => ?_)
    (try simp only [asI_mk', asB_mk, asP_mk, asA_mk, asM_mk, asSl_mk, asStr_mk, tup2_mk, tup3_mk, agg1_mk, agg2_mk, agg3_mk, agg4_mk, asAggm, unCons_mk, unNil_mk, asTup_mk, extractD0, extractD1, List.toList_toArray, nilP_mk, add_mk, Nat.zero_add, Nat.add_zero, condT, condF, Bool.not_true, Bool.not_false, Option.isNone_some, Option.isNone_none])
    refine hK x'' H5 ?_
    rw [e, smV_off rfl, smP_off rfl]
    exact g5
  · have e : t.buried = { t.next with todo := t.todo.tail } := by unfold Tr.buried; rw [if_neg hl]
    refine bif_ne (by show ¬ ((t.todo.tail.length : Nat) : Int) = 0; rw [List.length_tail]; omega) (hK { x with tp := slcP x.tp x.tc 1 1, tc := x.tc - 1 } H3 ?_)
    rw [e, smV_on (by show t.st ≠ 0; omega), smP_on (by show t.st ≠ 0; omega)]
    exact g4
end
end Go.Proofs.Ytknejebggegfjaa
