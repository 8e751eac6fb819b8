/- Merged by merge.py: DenSlices, DenCmp, DenMath, TrB, TrS, DenTrace, DenClock, DenLease, TrP, TrP2, TrP3, TrP4, TrP5, TrC, DenLaw23, TrD, TrW, TrW2, DenLaw23WebIns, DenLaw23WebHolders, DenLaw23WebAnswer, TrV, DenWitness, DenRef22, DenLaw22, Wit, Wit2, Srt, Srt3, Srt4, Srt5, Srt6, Srt7. No condition. -/
import Derived.Test.YtknejebggegfjaaZNum
import Derived.Test.YtknejebggegfjaaZHeap
import Derived.Test.YtknejebggegfjaaZBase
import Derived.Test.YtknejebggegfjaaZPaint

namespace Go.Proofs.Ytknejebggegfjaa
open Go
set_option linter.unusedVariables false
set_option maxRecDepth 100000
def B_slices_ContainsFunc_Sapi_Reach_api_Reach (sP1 : Option Addr) (sL2 : Nat) (sC3 : Nat) (f4 : Value) (H : Hp) (K : Value → Hp → Prop) : Prop :=
 hcall PR f_slices_IndexFunc_Sapi_Reach_api_Reach ⟨[(.slice sP1 sL2 sC3), f4]⟩ H fun v5 Hx6 =>
 asI .i64 v5 fun t7 =>
 K (.bool (decide ((t7 : Int) ≥ 0))) Hx6
theorem E_slices_ContainsFunc_Sapi_Reach_api_Reach (sP1 : Option Addr) (sL2 : Nat) (sC3 : Nat) (f4 : Value) (H : Hp) (K : Value → Hp → Prop) : B_slices_ContainsFunc_Sapi_Reach_api_Reach sP1 sL2 sC3 f4 H K = denF Try.prog Try.f52 .n [(.slice sP1 sL2 sC3), f4] H K := by kernel_rfl
theorem den_slices_ContainsFunc_Sapi_Reach_api_Reach {sP1 : Option Addr} {sL2 : Nat} {sC3 : Nat} {f4 : Value} {H : Hp} {K : Value → Hp → Prop} (h : B_slices_ContainsFunc_Sapi_Reach_api_Reach sP1 sL2 sC3 f4 H K) : hcall PR f_slices_ContainsFunc_Sapi_Reach_api_Reach ⟨[(.slice sP1 sL2 sC3), f4]⟩ H K := denF_call Try.func52 PR_mixed (Eq.mp (E_slices_ContainsFunc_Sapi_Reach_api_Reach sP1 sL2 sC3 f4 H K) h)

def B_slices_ContainsFunc_Sapi_Out_api_Out (sP1 : Option Addr) (sL2 : Nat) (sC3 : Nat) (f4 : Value) (H : Hp) (K : Value → Hp → Prop) : Prop :=
 hcall PR f_slices_IndexFunc_Sapi_Out_api_Out ⟨[(.slice sP1 sL2 sC3), f4]⟩ H fun v5 Hx6 =>
 asI .i64 v5 fun t7 =>
 K (.bool (decide ((t7 : Int) ≥ 0))) Hx6
theorem E_slices_ContainsFunc_Sapi_Out_api_Out (sP1 : Option Addr) (sL2 : Nat) (sC3 : Nat) (f4 : Value) (H : Hp) (K : Value → Hp → Prop) : B_slices_ContainsFunc_Sapi_Out_api_Out sP1 sL2 sC3 f4 H K = denF Try.prog Try.f55 .n [(.slice sP1 sL2 sC3), f4] H K := by kernel_rfl
theorem den_slices_ContainsFunc_Sapi_Out_api_Out {sP1 : Option Addr} {sL2 : Nat} {sC3 : Nat} {f4 : Value} {H : Hp} {K : Value → Hp → Prop} (h : B_slices_ContainsFunc_Sapi_Out_api_Out sP1 sL2 sC3 f4 H K) : hcall PR f_slices_ContainsFunc_Sapi_Out_api_Out ⟨[(.slice sP1 sL2 sC3), f4]⟩ H K := denF_call Try.func55 PR_mixed (Eq.mp (E_slices_ContainsFunc_Sapi_Out_api_Out sP1 sL2 sC3 f4 H K) h)

def B_slices_Contains_Sapi_ID_api_ID (sP1 : Option Addr) (sL2 : Nat) (sC3 : Nat) (vNode4 : Int) (vSerial5 : Int) (H : Hp) (K : Value → Hp → Prop) : Prop :=
 newB (.cells #[(.int .i64 vNode4), (.int .u64 vSerial5)] ty_api_ID) H fun b6 Hx7 =>
 ldI .i64 ⟨b6, 0, none⟩ Hx7 fun Node8 =>
 ldI .u64 ⟨b6, 1, none⟩ Hx7 fun Serial9 =>
 hcall PR f_slices_Index_Sapi_ID_api_ID ⟨[(.slice sP1 sL2 sC3), (.agg #[(.int .i64 Node8), (.int .u64 Serial9)])]⟩ Hx7 fun v10 Hx11 =>
 asI .i64 v10 fun t12 =>
 K (.bool (decide ((t12 : Int) ≥ 0))) Hx11
theorem E_slices_Contains_Sapi_ID_api_ID (sP1 : Option Addr) (sL2 : Nat) (sC3 : Nat) (vNode4 : Int) (vSerial5 : Int) (H : Hp) (K : Value → Hp → Prop) : B_slices_Contains_Sapi_ID_api_ID sP1 sL2 sC3 vNode4 vSerial5 H K = denF Try.prog Try.f57 .n [(.slice sP1 sL2 sC3), (.agg #[(.int .i64 vNode4), (.int .u64 vSerial5)])] H K := by kernel_rfl
theorem den_slices_Contains_Sapi_ID_api_ID {sP1 : Option Addr} {sL2 : Nat} {sC3 : Nat} {vNode4 : Int} {vSerial5 : Int} {H : Hp} {K : Value → Hp → Prop} (h : B_slices_Contains_Sapi_ID_api_ID sP1 sL2 sC3 vNode4 vSerial5 H K) : hcall PR f_slices_Contains_Sapi_ID_api_ID ⟨[(.slice sP1 sL2 sC3), (.agg #[(.int .i64 vNode4), (.int .u64 vSerial5)])]⟩ H K := denF_call Try.func57 PR_mixed (Eq.mp (E_slices_Contains_Sapi_ID_api_ID sP1 sL2 sC3 vNode4 vSerial5 H K) h)

def B_slices_Sort_Suint64_uint64 (xP1 : Option Addr) (xL2 : Nat) (xC3 : Nat) (H : Hp) (K : Value → Hp → Prop) : Prop :=
 hcall PR f_math_bits_Len ⟨[(.int .u64 (IntKind.u64.wrap (xL2 : Int)))]⟩ H fun v4 Hx5 =>
 asI .i64 v4 fun t6 =>
 hcall PR f_slices_pdqsortOrdered_uint64 ⟨[(.slice xP1 xL2 xC3), (.int .i64 0), (.int .i64 (xL2 : Int)), (.int .i64 t6)]⟩ Hx5 fun v7 Hx8 =>
 K (.tuple #[]) Hx8
theorem E_slices_Sort_Suint64_uint64 (xP1 : Option Addr) (xL2 : Nat) (xC3 : Nat) (H : Hp) (K : Value → Hp → Prop) : B_slices_Sort_Suint64_uint64 xP1 xL2 xC3 H K = denF Try.prog Try.f58 .n [(.slice xP1 xL2 xC3)] H K := by kernel_rfl
theorem den_slices_Sort_Suint64_uint64 {xP1 : Option Addr} {xL2 : Nat} {xC3 : Nat} {H : Hp} {K : Value → Hp → Prop} (h : B_slices_Sort_Suint64_uint64 xP1 xL2 xC3 H K) : hcall PR f_slices_Sort_Suint64_uint64 ⟨[(.slice xP1 xL2 xC3)]⟩ H K := denF_call Try.func58 PR_mixed (Eq.mp (E_slices_Sort_Suint64_uint64 xP1 xL2 xC3 H K) h)

def B_slices_Compact_Suint64_uint64 (sP1 : Option Addr) (sL2 : Nat) (sC3 : Nat) (H : Hp) (K : Value → Hp → Prop) : Prop :=
 (bif (decide (((sL2 : Int) : Int) < 2)) then
 K (.slice sP1 sL2 sC3) H
else
 ∃ (I4 : Int → Hp → Prop) (m5 : Int → Hp → Nat), I4 1 H ∧ ∀ k7 : Int, ∀ Hx6 : Hp, I4 k7 Hx6 →
 (bif (decide ((k7 : Int) < (sL2 : Int))) then
 idxA sP1 sL2 k7 1 fun el8 =>
 ldI .u64 el8 Hx6 fun t9 =>
 idxA sP1 sL2 (IntKind.i64.wrap (k7 - 1)) 1 fun el10 =>
 ldI .u64 el10 Hx6 fun t11 =>
 (bif ((t9 : Int) == t11) then
 slcD sP1 sL2 sC3 (some k7) none 1 fun sP12 sL13 sC14 =>
 ∃ (I15 : Int → Int → Hp → Prop) (m16 : Int → Int → Hp → Nat), I15 k7 1 Hx6 ∧ ∀ k18 : Int, ∀ k219 : Int, ∀ Hx17 : Hp, I15 k18 k219 Hx17 →
 (bif (decide ((k219 : Int) < (sL13 : Int))) then
 ∀ R20 : Int → Hp → Prop, (∀ k22 : Int, ∀ Hx21 : Hp, (
 I15 k22 (IntKind.i64.wrap (k219 + 1)) Hx21 ∧ m16 k22 (IntKind.i64.wrap (k219 + 1)) Hx21 < m16 k18 k219 Hx17) → R20 k22 Hx21) →
 idxA sP12 sL13 k219 1 fun el23 =>
 ldI .u64 el23 Hx17 fun t24 =>
 idxA sP12 sL13 (IntKind.i64.wrap (k219 - 1)) 1 fun el25 =>
 ldI .u64 el25 Hx17 fun t26 =>
 (bif ((t24 : Int) != t26) then
 idxA sP12 sL13 k219 1 fun el27 =>
 ldI .u64 el27 Hx17 fun t28 =>
 idxA sP1 sL2 k18 1 fun el29 =>
 st el29 (.int .u64 t28) Hx17 fun Hx30 =>
 R20 (IntKind.i64.wrap (k18 + 1)) Hx30
else
 R20 k18 Hx17)
else
 slcD sP1 sL2 sC3 (some k18) none 1 fun sP31 sL32 sC33 =>
 evW PR (Builtin.clear_ #[ty_Suint64] ty_ #[(.slice sP31 sL32 sC33)]) Hx17 fun v34 Hx35 =>
 slcD sP1 sL2 sC3 none (some k18) 1 fun sP36 sL37 sC38 =>
 K (.slice sP36 sL37 sC38) Hx35)
else
 I4 (IntKind.i64.wrap (k7 + 1)) Hx6 ∧ m5 (IntKind.i64.wrap (k7 + 1)) Hx6 < m5 k7 Hx6)
else
 K (.slice sP1 sL2 sC3) Hx6))
theorem E_slices_Compact_Suint64_uint64 (sP1 : Option Addr) (sL2 : Nat) (sC3 : Nat) (H : Hp) (K : Value → Hp → Prop) : B_slices_Compact_Suint64_uint64 sP1 sL2 sC3 H K = denF Try.prog Try.f59 (.seq none .n (.seq none .n (.seq none (.seq none .n (.sub (.loop ⟨[(3, .int .i64)], [0]⟩ (.seq none .n (.seq none (.sub (.seq none .n (.two (.seq none .n (.seq none (.seq none .n (.sub (.loop ⟨[(3, .int .i64), (5, .int .i64)], [0, 4]⟩ (.seq none .n (.seq (some ⟨[(3, .int .i64)], [0, 4, 5]⟩) .n .n))))) .n)) .n))) .n))))) .n))) [(.slice sP1 sL2 sC3)] H K := by kernel_rfl
theorem den_slices_Compact_Suint64_uint64 {sP1 : Option Addr} {sL2 : Nat} {sC3 : Nat} {H : Hp} {K : Value → Hp → Prop} (h : B_slices_Compact_Suint64_uint64 sP1 sL2 sC3 H K) : hcall PR f_slices_Compact_Suint64_uint64 ⟨[(.slice sP1 sL2 sC3)]⟩ H K := denF_call Try.func59 PR_mixed (Eq.mp (E_slices_Compact_Suint64_uint64 sP1 sL2 sC3 H K) h)

def B_slices_IndexFunc_Sapi_Reach_api_Reach (sP1 : Option Addr) (sL2 : Nat) (sC3 : Nat) (cap4 : Option Addr) (H : Hp) (K : Value → Hp → Prop) : Prop :=
 ∃ (I5 : Int → Hp → Prop) (m6 : Int → Hp → Nat), I5 0 H ∧ ∀ t8 : Int, ∀ Hx7 : Hp, I5 t8 Hx7 →
 (bif (decide ((t8 : Int) < (sL2 : Int))) then
 idxA sP1 sL2 t8 2 fun el9 =>
 ldI .u64 el9 Hx7 fun In10 =>
 ldSl (el9.add 1) Hx7 fun OutsP11 OutsL12 OutsC13 =>
 hcall PR f_witness_In_1 ⟨[(.agg #[(.int .u64 In10), (.slice OutsP11 OutsL12 OutsC13)]), (.pointer cap4)]⟩ Hx7 fun v14 Hx15 =>
 asB v14 fun t16 =>
 (bif t16 then
 K (.int .i64 t8) Hx15
else
 I5 (IntKind.i64.wrap (t8 + 1)) Hx15 ∧ m6 (IntKind.i64.wrap (t8 + 1)) Hx15 < m6 t8 Hx7)
else
 K (.int .i64 (-1)) Hx7)
theorem E_slices_IndexFunc_Sapi_Reach_api_Reach (sP1 : Option Addr) (sL2 : Nat) (sC3 : Nat) (cap4 : Option Addr) (H : Hp) (K : Value → Hp → Prop) : B_slices_IndexFunc_Sapi_Reach_api_Reach sP1 sL2 sC3 cap4 H K = denF Try.prog Try.f90 (.seq none .n (.seq none (.seq none .n (.sub (.loop ⟨[(8, .int .i64)], [0, 1, 7]⟩ .n))) .n)) [(.slice sP1 sL2 sC3), (.func (.func f_witness_In_1) #[] #[(.pointer cap4)])] H K := by kernel_rfl
theorem den_slices_IndexFunc_Sapi_Reach_api_Reach {sP1 : Option Addr} {sL2 : Nat} {sC3 : Nat} {cap4 : Option Addr} {H : Hp} {K : Value → Hp → Prop} (h : B_slices_IndexFunc_Sapi_Reach_api_Reach sP1 sL2 sC3 cap4 H K) : hcall PR f_slices_IndexFunc_Sapi_Reach_api_Reach ⟨[(.slice sP1 sL2 sC3), (.func (.func f_witness_In_1) #[] #[(.pointer cap4)])]⟩ H K := denF_call Try.func90 PR_mixed (Eq.mp (E_slices_IndexFunc_Sapi_Reach_api_Reach sP1 sL2 sC3 cap4 H K) h)

def B_slices_IndexFunc_Sapi_Out_api_Out (sP1 : Option Addr) (sL2 : Nat) (sC3 : Nat) (cap4 : Option Addr) (H : Hp) (K : Value → Hp → Prop) : Prop :=
 ∃ (I5 : Int → Hp → Prop) (m6 : Int → Hp → Nat), I5 0 H ∧ ∀ t8 : Int, ∀ Hx7 : Hp, I5 t8 Hx7 →
 (bif (decide ((t8 : Int) < (sL2 : Int))) then
 idxA sP1 sL2 t8 3 fun el9 =>
 ldI .i64 el9 Hx7 fun Node10 =>
 ldI .u64 (el9.add 1) Hx7 fun Serial11 =>
 ldI .i64 (el9.add 2) Hx7 fun Rank12 =>
 hcall PR f_witness_Out_1 ⟨[(.agg #[(.int .i64 Node10), (.int .u64 Serial11), (.int .i64 Rank12)]), (.pointer cap4)]⟩ Hx7 fun v13 Hx14 =>
 asB v13 fun t15 =>
 (bif t15 then
 K (.int .i64 t8) Hx14
else
 I5 (IntKind.i64.wrap (t8 + 1)) Hx14 ∧ m6 (IntKind.i64.wrap (t8 + 1)) Hx14 < m6 t8 Hx7)
else
 K (.int .i64 (-1)) Hx7)
theorem E_slices_IndexFunc_Sapi_Out_api_Out (sP1 : Option Addr) (sL2 : Nat) (sC3 : Nat) (cap4 : Option Addr) (H : Hp) (K : Value → Hp → Prop) : B_slices_IndexFunc_Sapi_Out_api_Out sP1 sL2 sC3 cap4 H K = denF Try.prog Try.f91 (.seq none .n (.seq none (.seq none .n (.sub (.loop ⟨[(8, .int .i64)], [0, 1, 7]⟩ .n))) .n)) [(.slice sP1 sL2 sC3), (.func (.func f_witness_Out_1) #[] #[(.pointer cap4)])] H K := by kernel_rfl
theorem den_slices_IndexFunc_Sapi_Out_api_Out {sP1 : Option Addr} {sL2 : Nat} {sC3 : Nat} {cap4 : Option Addr} {H : Hp} {K : Value → Hp → Prop} (h : B_slices_IndexFunc_Sapi_Out_api_Out sP1 sL2 sC3 cap4 H K) : hcall PR f_slices_IndexFunc_Sapi_Out_api_Out ⟨[(.slice sP1 sL2 sC3), (.func (.func f_witness_Out_1) #[] #[(.pointer cap4)])]⟩ H K := denF_call Try.func91 PR_mixed (Eq.mp (E_slices_IndexFunc_Sapi_Out_api_Out sP1 sL2 sC3 cap4 H K) h)

def B_slices_Index_Sapi_ID_api_ID (sP1 : Option Addr) (sL2 : Nat) (sC3 : Nat) (vNode4 : Int) (vSerial5 : Int) (H : Hp) (K : Value → Hp → Prop) : Prop :=
 newB (.cells #[(.int .i64 vNode4), (.int .u64 vSerial5)] ty_api_ID) H fun b6 Hx7 =>
 ∃ (I8 : Int → Hp → Prop) (m9 : Int → Hp → Nat), I8 0 Hx7 ∧ ∀ t11 : Int, ∀ Hx10 : Hp, I8 t11 Hx10 →
 (bif (decide ((t11 : Int) < (sL2 : Int))) then
 ldI .i64 ⟨b6, 0, none⟩ Hx10 fun Node12 =>
 ldI .u64 ⟨b6, 1, none⟩ Hx10 fun Serial13 =>
 idxA sP1 sL2 t11 2 fun el14 =>
 ldI .i64 el14 Hx10 fun Node15 =>
 ldI .u64 (el14.add 1) Hx10 fun Serial16 =>
 evR PR (aggEq .eql ty_api_ID #[(.int .i64 Node12), (.int .u64 Serial13)] #[(.int .i64 Node15), (.int .u64 Serial16)]) Hx10 fun v17 =>
 asB v17 fun eq18 =>
 (bif eq18 then
 K (.int .i64 t11) Hx10
else
 I8 (IntKind.i64.wrap (t11 + 1)) Hx10 ∧ m9 (IntKind.i64.wrap (t11 + 1)) Hx10 < m9 t11 Hx10)
else
 K (.int .i64 (-1)) Hx10)
theorem E_slices_Index_Sapi_ID_api_ID (sP1 : Option Addr) (sL2 : Nat) (sC3 : Nat) (vNode4 : Int) (vSerial5 : Int) (H : Hp) (K : Value → Hp → Prop) : B_slices_Index_Sapi_ID_api_ID sP1 sL2 sC3 vNode4 vSerial5 H K = denF Try.prog Try.f92 (.seq none .n (.seq none (.seq none .n (.sub (.loop ⟨[(8, .int .i64)], [0, 3, 7]⟩ .n))) .n)) [(.slice sP1 sL2 sC3), (.agg #[(.int .i64 vNode4), (.int .u64 vSerial5)])] H K := by kernel_rfl
theorem den_slices_Index_Sapi_ID_api_ID {sP1 : Option Addr} {sL2 : Nat} {sC3 : Nat} {vNode4 : Int} {vSerial5 : Int} {H : Hp} {K : Value → Hp → Prop} (h : B_slices_Index_Sapi_ID_api_ID sP1 sL2 sC3 vNode4 vSerial5 H K) : hcall PR f_slices_Index_Sapi_ID_api_ID ⟨[(.slice sP1 sL2 sC3), (.agg #[(.int .i64 vNode4), (.int .u64 vSerial5)])]⟩ H K := denF_call Try.func92 PR_mixed (Eq.mp (E_slices_Index_Sapi_ID_api_ID sP1 sL2 sC3 vNode4 vSerial5 H K) h)

def B_slices_pdqsortOrdered_uint64 (dataP1 : Option Addr) (dataL2 : Nat) (dataC3 : Nat) (a4 : Int) (b5 : Int) (limit6 : Int) (H : Hp) (K : Value → Hp → Prop) : Prop :=
 ∃ (I7 : Int → Int → Int → Bool → Bool → Hp → Prop) (m8 : Int → Int → Int → Bool → Bool → Hp → Nat), I7 a4 b5 limit6 true true H ∧ ∀ a10 : Int, ∀ b11 : Int, ∀ limit12 : Int, ∀ wasBalanced13 : Bool, ∀ wasPartitioned14 : Bool, ∀ Hx9 : Hp, I7 a10 b11 limit12 wasBalanced13 wasPartitioned14 Hx9 →
 (bif (decide (((IntKind.i64.wrap (b11 - a10)) : Int) ≤ 12)) then
 hcall PR f_slices_insertionSortOrdered_uint64 ⟨[(.slice dataP1 dataL2 dataC3), (.int .i64 a10), (.int .i64 b11)]⟩ Hx9 fun v15 Hx16 =>
 K (.tuple #[]) Hx16
else
 (bif ((limit12 : Int) == 0) then
 hcall PR f_slices_heapSortOrdered_uint64 ⟨[(.slice dataP1 dataL2 dataC3), (.int .i64 a10), (.int .i64 b11)]⟩ Hx9 fun v17 Hx18 =>
 K (.tuple #[]) Hx18
else
 ∀ R19 : Int → Hp → Prop, (∀ limit21 : Int, ∀ Hx20 : Hp, (
 hcall PR f_slices_choosePivotOrdered_uint64 ⟨[(.slice dataP1 dataL2 dataC3), (.int .i64 a10), (.int .i64 b11)]⟩ Hx20 fun v22 Hx23 =>
 tup2 v22 fun v24 v25 =>
 asI .i64 v24 fun t26 =>
 asI .i64 v25 fun t27 =>
 ∀ R28 : Int → Int → Hp → Prop, (∀ pivot30 : Int, ∀ hint31 : Int, ∀ Hx29 : Hp, (
 ∀ R32 : Hp → Prop, (∀ Hx33 : Hp, (
 ∀ R34 : Int → Hp → Prop, (∀ a36 : Int, ∀ Hx35 : Hp, (
 hcall PR f_slices_partitionOrdered_uint64 ⟨[(.slice dataP1 dataL2 dataC3), (.int .i64 a36), (.int .i64 b11), (.int .i64 pivot30)]⟩ Hx35 fun v37 Hx38 =>
 tup2 v37 fun v39 v40 =>
 asI .i64 v39 fun t41 =>
 asB v40 fun t42 =>
 (8 : Int) ≠ 0 ∧
 (bif (decide (((IntKind.i64.wrap (t41 - a36)) : Int) < (IntKind.i64.wrap (b11 - t41)))) then
 hcall PR f_slices_pdqsortOrdered_uint64 ⟨[(.slice dataP1 dataL2 dataC3), (.int .i64 a36), (.int .i64 t41), (.int .i64 limit21)]⟩ Hx38 fun v43 Hx44 =>
 I7 (IntKind.i64.wrap (t41 + 1)) b11 limit21 (decide (((IntKind.i64.wrap (t41 - a36)) : Int) ≥ (IntKind.i64.wrap (Int.tdiv (IntKind.i64.wrap (b11 - a10)) 8)))) t42 Hx44 ∧ m8 (IntKind.i64.wrap (t41 + 1)) b11 limit21 (decide (((IntKind.i64.wrap (t41 - a36)) : Int) ≥ (IntKind.i64.wrap (Int.tdiv (IntKind.i64.wrap (b11 - a10)) 8)))) t42 Hx44 < m8 a10 b11 limit12 wasBalanced13 wasPartitioned14 Hx9
else
 hcall PR f_slices_pdqsortOrdered_uint64 ⟨[(.slice dataP1 dataL2 dataC3), (.int .i64 (IntKind.i64.wrap (t41 + 1))), (.int .i64 b11), (.int .i64 limit21)]⟩ Hx38 fun v45 Hx46 =>
 I7 a36 t41 limit21 (decide (((IntKind.i64.wrap (b11 - t41)) : Int) ≥ (IntKind.i64.wrap (Int.tdiv (IntKind.i64.wrap (b11 - a10)) 8)))) t42 Hx46 ∧ m8 a36 t41 limit21 (decide (((IntKind.i64.wrap (b11 - t41)) : Int) ≥ (IntKind.i64.wrap (Int.tdiv (IntKind.i64.wrap (b11 - a10)) 8)))) t42 Hx46 < m8 a10 b11 limit12 wasBalanced13 wasPartitioned14 Hx9)) → R34 a36 Hx35) →
 (bif (decide ((a10 : Int) > 0)) then
 idxA dataP1 dataL2 (IntKind.i64.wrap (a10 - 1)) 1 fun el47 =>
 ldI .u64 el47 Hx33 fun t48 =>
 idxA dataP1 dataL2 pivot30 1 fun el49 =>
 ldI .u64 el49 Hx33 fun t50 =>
 hcall PR f_cmp_Less_uint64 ⟨[(.int .u64 t48), (.int .u64 t50)]⟩ Hx33 fun v51 Hx52 =>
 asB v51 fun t53 =>
 (bif (!t53) then
 hcall PR f_slices_partitionEqualOrdered_uint64 ⟨[(.slice dataP1 dataL2 dataC3), (.int .i64 a10), (.int .i64 b11), (.int .i64 pivot30)]⟩ Hx52 fun v54 Hx55 =>
 asI .i64 v54 fun t56 =>
 I7 t56 b11 limit21 wasBalanced13 wasPartitioned14 Hx55 ∧ m8 t56 b11 limit21 wasBalanced13 wasPartitioned14 Hx55 < m8 a10 b11 limit12 wasBalanced13 wasPartitioned14 Hx9
else
 R34 a10 Hx52)
else
 R34 a10 Hx33)) → R32 Hx33) →
 (bif wasBalanced13 then
 (bif wasPartitioned14 then
 (bif ((hint31 : Int) == 1) then
 hcall PR f_slices_partialInsertionSortOrdered_uint64 ⟨[(.slice dataP1 dataL2 dataC3), (.int .i64 a10), (.int .i64 b11)]⟩ Hx29 fun v57 Hx58 =>
 asB v57 fun t59 =>
 (bif t59 then
 K (.tuple #[]) Hx58
else
 R32 Hx58)
else
 R32 Hx29)
else
 R32 Hx29)
else
 R32 Hx29)) → R28 pivot30 hint31 Hx29) →
 (bif ((t27 : Int) == 2) then
 hcall PR f_slices_reverseRangeOrdered_uint64 ⟨[(.slice dataP1 dataL2 dataC3), (.int .i64 a10), (.int .i64 b11)]⟩ Hx23 fun v60 Hx61 =>
 R28 (IntKind.i64.wrap ((IntKind.i64.wrap (b11 - 1)) - (IntKind.i64.wrap (t26 - a10)))) 1 Hx61
else
 R28 t26 t27 Hx23)) → R19 limit21 Hx20) →
 (bif (!wasBalanced13) then
 hcall PR f_slices_breakPatternsOrdered_uint64 ⟨[(.slice dataP1 dataL2 dataC3), (.int .i64 a10), (.int .i64 b11)]⟩ Hx9 fun v62 Hx63 =>
 R19 (IntKind.i64.wrap (limit12 - 1)) Hx63
else
 R19 limit12 Hx9)))
theorem E_slices_pdqsortOrdered_uint64 (dataP1 : Option Addr) (dataL2 : Nat) (dataC3 : Nat) (a4 : Int) (b5 : Int) (limit6 : Int) (H : Hp) (K : Value → Hp → Prop) : B_slices_pdqsortOrdered_uint64 dataP1 dataL2 dataC3 a4 b5 limit6 H K = denF Try.prog Try.f93 (.seq none .n (.seq none .n (.sub (.loop ⟨[(1, .int .i64), (2, .int .i64), (3, .int .i64), (8, .bool), (9, .bool)], [0]⟩ (.sub (.seq none .n (.seq none .n (.seq none .n (.seq (some ⟨[(3, .int .i64)], [0, 1, 2, 8, 9, 10]⟩) .n (.seq none .n (.seq (some ⟨[(11, .int .i64), (12, .int .i64)], [0, 1, 2, 3, 8, 9, 10]⟩) .n (.seq (some ⟨[], [0, 1, 2, 3, 8, 9, 10, 11]⟩) .n (.seq (some ⟨[(1, .int .i64)], [0, 2, 3, 10, 11]⟩) .n .n))))))))))))) [(.slice dataP1 dataL2 dataC3), (.int .i64 a4), (.int .i64 b5), (.int .i64 limit6)] H K := by kernel_rfl
theorem den_slices_pdqsortOrdered_uint64 {dataP1 : Option Addr} {dataL2 : Nat} {dataC3 : Nat} {a4 : Int} {b5 : Int} {limit6 : Int} {H : Hp} {K : Value → Hp → Prop} (h : B_slices_pdqsortOrdered_uint64 dataP1 dataL2 dataC3 a4 b5 limit6 H K) : hcall PR f_slices_pdqsortOrdered_uint64 ⟨[(.slice dataP1 dataL2 dataC3), (.int .i64 a4), (.int .i64 b5), (.int .i64 limit6)]⟩ H K := denF_call Try.func93 PR_mixed (Eq.mp (E_slices_pdqsortOrdered_uint64 dataP1 dataL2 dataC3 a4 b5 limit6 H K) h)

def B_slices_insertionSortOrdered_uint64 (dataP1 : Option Addr) (dataL2 : Nat) (dataC3 : Nat) (a4 : Int) (b5 : Int) (H : Hp) (K : Value → Hp → Prop) : Prop :=
 ∃ (I6 : Int → Hp → Prop) (m7 : Int → Hp → Nat), I6 (IntKind.i64.wrap (a4 + 1)) H ∧ ∀ i9 : Int, ∀ Hx8 : Hp, I6 i9 Hx8 →
 (bif (decide ((i9 : Int) < b5)) then
 ∀ R10 : Hp → Prop, (∀ Hx11 : Hp, (
 I6 (IntKind.i64.wrap (i9 + 1)) Hx11 ∧ m7 (IntKind.i64.wrap (i9 + 1)) Hx11 < m7 i9 Hx8) → R10 Hx11) →
 ∃ (I12 : Int → Hp → Prop) (m13 : Int → Hp → Nat), I12 i9 Hx8 ∧ ∀ j15 : Int, ∀ Hx14 : Hp, I12 j15 Hx14 →
 (bif (decide ((j15 : Int) > a4)) then
 idxA dataP1 dataL2 j15 1 fun el16 =>
 ldI .u64 el16 Hx14 fun t17 =>
 idxA dataP1 dataL2 (IntKind.i64.wrap (j15 - 1)) 1 fun el18 =>
 ldI .u64 el18 Hx14 fun t19 =>
 hcall PR f_cmp_Less_uint64 ⟨[(.int .u64 t17), (.int .u64 t19)]⟩ Hx14 fun v20 Hx21 =>
 asB v20 fun t22 =>
 (bif t22 then
 idxA dataP1 dataL2 (IntKind.i64.wrap (j15 - 1)) 1 fun el23 =>
 ldI .u64 el23 Hx21 fun t24 =>
 idxA dataP1 dataL2 j15 1 fun el25 =>
 ldI .u64 el25 Hx21 fun t26 =>
 idxA dataP1 dataL2 j15 1 fun el27 =>
 st el27 (.int .u64 t24) Hx21 fun Hx28 =>
 idxA dataP1 dataL2 (IntKind.i64.wrap (j15 - 1)) 1 fun el29 =>
 st el29 (.int .u64 t26) Hx28 fun Hx30 =>
 I12 (IntKind.i64.wrap (j15 - 1)) Hx30 ∧ m13 (IntKind.i64.wrap (j15 - 1)) Hx30 < m13 j15 Hx14
else
 R10 Hx21)
else
 R10 Hx14)
else
 K (.tuple #[]) Hx8)
theorem E_slices_insertionSortOrdered_uint64 (dataP1 : Option Addr) (dataL2 : Nat) (dataC3 : Nat) (a4 : Int) (b5 : Int) (H : Hp) (K : Value → Hp → Prop) : B_slices_insertionSortOrdered_uint64 dataP1 dataL2 dataC3 a4 b5 H K = denF Try.prog Try.f102 (.seq none .n (.sub (.loop ⟨[(6, .int .i64)], [0, 1, 2]⟩ (.seq none .n (.seq (some ⟨[], [0, 1, 2, 6]⟩) (.sub (.seq none .n (.sub (.loop ⟨[(7, .int .i64)], [0, 1, 2, 6]⟩ .n)))) .n))))) [(.slice dataP1 dataL2 dataC3), (.int .i64 a4), (.int .i64 b5)] H K := by kernel_rfl
theorem den_slices_insertionSortOrdered_uint64 {dataP1 : Option Addr} {dataL2 : Nat} {dataC3 : Nat} {a4 : Int} {b5 : Int} {H : Hp} {K : Value → Hp → Prop} (h : B_slices_insertionSortOrdered_uint64 dataP1 dataL2 dataC3 a4 b5 H K) : hcall PR f_slices_insertionSortOrdered_uint64 ⟨[(.slice dataP1 dataL2 dataC3), (.int .i64 a4), (.int .i64 b5)]⟩ H K := denF_call Try.func102 PR_mixed (Eq.mp (E_slices_insertionSortOrdered_uint64 dataP1 dataL2 dataC3 a4 b5 H K) h)

def B_slices_heapSortOrdered_uint64 (dataP1 : Option Addr) (dataL2 : Nat) (dataC3 : Nat) (a4 : Int) (b5 : Int) (H : Hp) (K : Value → Hp → Prop) : Prop :=
 (2 : Int) ≠ 0 ∧
 ∃ (I6 : Int → Hp → Prop) (m7 : Int → Hp → Nat), I6 (IntKind.i64.wrap (Int.tdiv (IntKind.i64.wrap ((IntKind.i64.wrap (b5 - a4)) - 1)) 2)) H ∧ ∀ i9 : Int, ∀ Hx8 : Hp, I6 i9 Hx8 →
 (bif (decide ((i9 : Int) ≥ 0)) then
 hcall PR f_slices_siftDownOrdered_uint64 ⟨[(.slice dataP1 dataL2 dataC3), (.int .i64 i9), (.int .i64 (IntKind.i64.wrap (b5 - a4))), (.int .i64 a4)]⟩ Hx8 fun v10 Hx11 =>
 I6 (IntKind.i64.wrap (i9 - 1)) Hx11 ∧ m7 (IntKind.i64.wrap (i9 - 1)) Hx11 < m7 i9 Hx8
else
 ∃ (I12 : Int → Hp → Prop) (m13 : Int → Hp → Nat), I12 (IntKind.i64.wrap ((IntKind.i64.wrap (b5 - a4)) - 1)) Hx8 ∧ ∀ i15 : Int, ∀ Hx14 : Hp, I12 i15 Hx14 →
 (bif (decide ((i15 : Int) ≥ 0)) then
 idxA dataP1 dataL2 (IntKind.i64.wrap (a4 + i15)) 1 fun el16 =>
 ldI .u64 el16 Hx14 fun t17 =>
 idxA dataP1 dataL2 a4 1 fun el18 =>
 ldI .u64 el18 Hx14 fun t19 =>
 idxA dataP1 dataL2 a4 1 fun el20 =>
 st el20 (.int .u64 t17) Hx14 fun Hx21 =>
 idxA dataP1 dataL2 (IntKind.i64.wrap (a4 + i15)) 1 fun el22 =>
 st el22 (.int .u64 t19) Hx21 fun Hx23 =>
 hcall PR f_slices_siftDownOrdered_uint64 ⟨[(.slice dataP1 dataL2 dataC3), (.int .i64 0), (.int .i64 i15), (.int .i64 a4)]⟩ Hx23 fun v24 Hx25 =>
 I12 (IntKind.i64.wrap (i15 - 1)) Hx25 ∧ m13 (IntKind.i64.wrap (i15 - 1)) Hx25 < m13 i15 Hx14
else
 K (.tuple #[]) Hx14))
theorem E_slices_heapSortOrdered_uint64 (dataP1 : Option Addr) (dataL2 : Nat) (dataC3 : Nat) (a4 : Int) (b5 : Int) (H : Hp) (K : Value → Hp → Prop) : B_slices_heapSortOrdered_uint64 dataP1 dataL2 dataC3 a4 b5 H K = denF Try.prog Try.f103 (.seq none .n (.seq none .n (.seq none .n (.seq none (.seq none .n (.sub (.loop ⟨[(9, .int .i64)], [0, 6, 7, 8]⟩ .n))) (.seq none .n (.sub (.loop ⟨[(10, .int .i64)], [0, 6, 7]⟩ .n))))))) [(.slice dataP1 dataL2 dataC3), (.int .i64 a4), (.int .i64 b5)] H K := by kernel_rfl
theorem den_slices_heapSortOrdered_uint64 {dataP1 : Option Addr} {dataL2 : Nat} {dataC3 : Nat} {a4 : Int} {b5 : Int} {H : Hp} {K : Value → Hp → Prop} (h : B_slices_heapSortOrdered_uint64 dataP1 dataL2 dataC3 a4 b5 H K) : hcall PR f_slices_heapSortOrdered_uint64 ⟨[(.slice dataP1 dataL2 dataC3), (.int .i64 a4), (.int .i64 b5)]⟩ H K := denF_call Try.func103 PR_mixed (Eq.mp (E_slices_heapSortOrdered_uint64 dataP1 dataL2 dataC3 a4 b5 H K) h)

def B_slices_breakPatternsOrdered_uint64 (dataP1 : Option Addr) (dataL2 : Nat) (dataC3 : Nat) (a4 : Int) (b5 : Int) (H : Hp) (K : Value → Hp → Prop) : Prop :=
 (bif (decide (((IntKind.i64.wrap (b5 - a4)) : Int) ≥ 8)) then
 newB (.cells #[(.int .u64 0)] ty_slices_xorshift) H fun b6 Hx7 =>
 st ⟨b6, 0, none⟩ (.int .u64 (IntKind.u64.wrap (IntKind.i64.wrap (b5 - a4)))) Hx7 fun Hx8 =>
 hcall PR f_slices_nextPowerOfTwo ⟨[(.int .i64 (IntKind.i64.wrap (b5 - a4)))]⟩ Hx8 fun v9 Hx10 =>
 asI .u64 v9 fun t11 =>
 (4 : Int) ≠ 0 ∧
 ∃ (I12 : Int → Hp → Prop) (m13 : Int → Hp → Nat), I12 (IntKind.i64.wrap ((IntKind.i64.wrap (a4 + (IntKind.i64.wrap ((IntKind.i64.wrap (Int.tdiv (IntKind.i64.wrap (b5 - a4)) 4)) * 2)))) - 1)) Hx10 ∧ ∀ idx15 : Int, ∀ Hx14 : Hp, I12 idx15 Hx14 →
 (4 : Int) ≠ 0 ∧
 (bif (decide ((idx15 : Int) ≤ (IntKind.i64.wrap ((IntKind.i64.wrap (a4 + (IntKind.i64.wrap ((IntKind.i64.wrap (Int.tdiv (IntKind.i64.wrap (b5 - a4)) 4)) * 2)))) + 1)))) then
 hcall PR f_slices_xorshift_Next ⟨[(.pointer (some ⟨b6, 0, none⟩))]⟩ Hx14 fun v16 Hx17 =>
 asI .u64 v16 fun t18 =>
 ∀ R19 : Int → Hp → Prop, (∀ other21 : Int, ∀ Hx20 : Hp, (
 idxA dataP1 dataL2 (IntKind.i64.wrap (a4 + other21)) 1 fun el22 =>
 ldI .u64 el22 Hx20 fun t23 =>
 idxA dataP1 dataL2 idx15 1 fun el24 =>
 ldI .u64 el24 Hx20 fun t25 =>
 idxA dataP1 dataL2 idx15 1 fun el26 =>
 st el26 (.int .u64 t23) Hx20 fun Hx27 =>
 idxA dataP1 dataL2 (IntKind.i64.wrap (a4 + other21)) 1 fun el28 =>
 st el28 (.int .u64 t25) Hx27 fun Hx29 =>
 I12 (IntKind.i64.wrap (idx15 + 1)) Hx29 ∧ m13 (IntKind.i64.wrap (idx15 + 1)) Hx29 < m13 idx15 Hx14) → R19 other21 Hx20) →
 (bif (decide (((IntKind.i64.wrap (bitOp .and .u64 t18 (IntKind.u64.wrap (t11 - 1)))) : Int) ≥ (IntKind.i64.wrap (b5 - a4)))) then
 R19 (IntKind.i64.wrap ((IntKind.i64.wrap (bitOp .and .u64 t18 (IntKind.u64.wrap (t11 - 1)))) - (IntKind.i64.wrap (b5 - a4)))) Hx17
else
 R19 (IntKind.i64.wrap (bitOp .and .u64 t18 (IntKind.u64.wrap (t11 - 1)))) Hx17)
else
 K (.tuple #[]) Hx14)
else
 K (.tuple #[]) H)
theorem E_slices_breakPatternsOrdered_uint64 (dataP1 : Option Addr) (dataL2 : Nat) (dataC3 : Nat) (a4 : Int) (b5 : Int) (H : Hp) (K : Value → Hp → Prop) : B_slices_breakPatternsOrdered_uint64 dataP1 dataL2 dataC3 a4 b5 H K = denF Try.prog Try.f104 (.seq none .n (.seq none .n (.two (.seq none .n (.seq none .n (.seq none .n (.sub (.loop ⟨[(9, .int .i64)], [0, 1, 6, 7, 8]⟩ (.seq none .n (.seq none (.sub (.seq none .n (.seq (some ⟨[(10, .int .i64)], [0, 1, 6, 7, 8, 9]⟩) .n .n))) .n))))))) .n))) [(.slice dataP1 dataL2 dataC3), (.int .i64 a4), (.int .i64 b5)] H K := by kernel_rfl
theorem den_slices_breakPatternsOrdered_uint64 {dataP1 : Option Addr} {dataL2 : Nat} {dataC3 : Nat} {a4 : Int} {b5 : Int} {H : Hp} {K : Value → Hp → Prop} (h : B_slices_breakPatternsOrdered_uint64 dataP1 dataL2 dataC3 a4 b5 H K) : hcall PR f_slices_breakPatternsOrdered_uint64 ⟨[(.slice dataP1 dataL2 dataC3), (.int .i64 a4), (.int .i64 b5)]⟩ H K := denF_call Try.func104 PR_mixed (Eq.mp (E_slices_breakPatternsOrdered_uint64 dataP1 dataL2 dataC3 a4 b5 H K) h)

def B_slices_choosePivotOrdered_uint64 (dataP1 : Option Addr) (dataL2 : Nat) (dataC3 : Nat) (a4 : Int) (b5 : Int) (H : Hp) (K : Value → Hp → Prop) : Prop :=
 newB (.cells #[(.int .i64 0)] ty_int) H fun b6 Hx7 =>
 (4 : Int) ≠ 0 ∧
 (4 : Int) ≠ 0 ∧
 (4 : Int) ≠ 0 ∧
 ∀ R8 : Int → Hp → Prop, (∀ j10 : Int, ∀ Hx9 : Hp, (
 ldI .i64 ⟨b6, 0, none⟩ Hx9 fun t11 =>
 (bif ((t11 : Int) == 0) then
 K (.tuple #[(.int .i64 j10), (.int .i64 1)]) Hx9
else
 (bif ((t11 : Int) == 12) then
 K (.tuple #[(.int .i64 j10), (.int .i64 2)]) Hx9
else
 K (.tuple #[(.int .i64 j10), (.int .i64 0)]) Hx9))) → R8 j10 Hx9) →
 (bif (decide (((IntKind.i64.wrap (b5 - a4)) : Int) ≥ 8)) then
 ∀ R12 : Int → Int → Int → Hp → Prop, (∀ i14 : Int, ∀ j15 : Int, ∀ k16 : Int, ∀ Hx13 : Hp, (
 hcall PR f_slices_medianOrdered_uint64 ⟨[(.slice dataP1 dataL2 dataC3), (.int .i64 i14), (.int .i64 j15), (.int .i64 k16), (.pointer (some ⟨b6, 0, none⟩))]⟩ Hx13 fun v17 Hx18 =>
 asI .i64 v17 fun t19 =>
 R8 t19 Hx18) → R12 i14 j15 k16 Hx13) →
 (bif (decide (((IntKind.i64.wrap (b5 - a4)) : Int) ≥ 50)) then
 hcall PR f_slices_medianAdjacentOrdered_uint64 ⟨[(.slice dataP1 dataL2 dataC3), (.int .i64 (IntKind.i64.wrap (a4 + (IntKind.i64.wrap ((IntKind.i64.wrap (Int.tdiv (IntKind.i64.wrap (b5 - a4)) 4)) * 1))))), (.pointer (some ⟨b6, 0, none⟩))]⟩ Hx7 fun v20 Hx21 =>
 asI .i64 v20 fun t22 =>
 hcall PR f_slices_medianAdjacentOrdered_uint64 ⟨[(.slice dataP1 dataL2 dataC3), (.int .i64 (IntKind.i64.wrap (a4 + (IntKind.i64.wrap ((IntKind.i64.wrap (Int.tdiv (IntKind.i64.wrap (b5 - a4)) 4)) * 2))))), (.pointer (some ⟨b6, 0, none⟩))]⟩ Hx21 fun v23 Hx24 =>
 asI .i64 v23 fun t25 =>
 hcall PR f_slices_medianAdjacentOrdered_uint64 ⟨[(.slice dataP1 dataL2 dataC3), (.int .i64 (IntKind.i64.wrap (a4 + (IntKind.i64.wrap ((IntKind.i64.wrap (Int.tdiv (IntKind.i64.wrap (b5 - a4)) 4)) * 3))))), (.pointer (some ⟨b6, 0, none⟩))]⟩ Hx24 fun v26 Hx27 =>
 asI .i64 v26 fun t28 =>
 R12 t22 t25 t28 Hx27
else
 R12 (IntKind.i64.wrap (a4 + (IntKind.i64.wrap ((IntKind.i64.wrap (Int.tdiv (IntKind.i64.wrap (b5 - a4)) 4)) * 1)))) (IntKind.i64.wrap (a4 + (IntKind.i64.wrap ((IntKind.i64.wrap (Int.tdiv (IntKind.i64.wrap (b5 - a4)) 4)) * 2)))) (IntKind.i64.wrap (a4 + (IntKind.i64.wrap ((IntKind.i64.wrap (Int.tdiv (IntKind.i64.wrap (b5 - a4)) 4)) * 3)))) Hx7)
else
 R8 (IntKind.i64.wrap (a4 + (IntKind.i64.wrap ((IntKind.i64.wrap (Int.tdiv (IntKind.i64.wrap (b5 - a4)) 4)) * 2)))) Hx7)
theorem E_slices_choosePivotOrdered_uint64 (dataP1 : Option Addr) (dataL2 : Nat) (dataC3 : Nat) (a4 : Int) (b5 : Int) (H : Hp) (K : Value → Hp → Prop) : B_slices_choosePivotOrdered_uint64 dataP1 dataL2 dataC3 a4 b5 H K = denF Try.prog Try.f105 (.seq none .n (.seq none .n (.seq none .n (.seq none .n (.seq none .n (.seq none .n (.seq (some ⟨[(11, .int .i64)], [9]⟩) (.seq none .n (.two (.seq (some ⟨[(10, .int .i64), (11, .int .i64), (12, .int .i64)], [0, 9]⟩) .n .n) .n)) .n))))))) [(.slice dataP1 dataL2 dataC3), (.int .i64 a4), (.int .i64 b5)] H K := by kernel_rfl
theorem den_slices_choosePivotOrdered_uint64 {dataP1 : Option Addr} {dataL2 : Nat} {dataC3 : Nat} {a4 : Int} {b5 : Int} {H : Hp} {K : Value → Hp → Prop} (h : B_slices_choosePivotOrdered_uint64 dataP1 dataL2 dataC3 a4 b5 H K) : hcall PR f_slices_choosePivotOrdered_uint64 ⟨[(.slice dataP1 dataL2 dataC3), (.int .i64 a4), (.int .i64 b5)]⟩ H K := denF_call Try.func105 PR_mixed (Eq.mp (E_slices_choosePivotOrdered_uint64 dataP1 dataL2 dataC3 a4 b5 H K) h)

def B_slices_reverseRangeOrdered_uint64 (dataP1 : Option Addr) (dataL2 : Nat) (dataC3 : Nat) (a4 : Int) (b5 : Int) (H : Hp) (K : Value → Hp → Prop) : Prop :=
 ∃ (I6 : Int → Int → Hp → Prop) (m7 : Int → Int → Hp → Nat), I6 a4 (IntKind.i64.wrap (b5 - 1)) H ∧ ∀ i9 : Int, ∀ j10 : Int, ∀ Hx8 : Hp, I6 i9 j10 Hx8 →
 (bif (decide ((i9 : Int) < j10)) then
 idxA dataP1 dataL2 j10 1 fun el11 =>
 ldI .u64 el11 Hx8 fun t12 =>
 idxA dataP1 dataL2 i9 1 fun el13 =>
 ldI .u64 el13 Hx8 fun t14 =>
 idxA dataP1 dataL2 i9 1 fun el15 =>
 st el15 (.int .u64 t12) Hx8 fun Hx16 =>
 idxA dataP1 dataL2 j10 1 fun el17 =>
 st el17 (.int .u64 t14) Hx16 fun Hx18 =>
 I6 (IntKind.i64.wrap (i9 + 1)) (IntKind.i64.wrap (j10 - 1)) Hx18 ∧ m7 (IntKind.i64.wrap (i9 + 1)) (IntKind.i64.wrap (j10 - 1)) Hx18 < m7 i9 j10 Hx8
else
 K (.tuple #[]) Hx8)
theorem E_slices_reverseRangeOrdered_uint64 (dataP1 : Option Addr) (dataL2 : Nat) (dataC3 : Nat) (a4 : Int) (b5 : Int) (H : Hp) (K : Value → Hp → Prop) : B_slices_reverseRangeOrdered_uint64 dataP1 dataL2 dataC3 a4 b5 H K = denF Try.prog Try.f106 (.seq none .n (.seq none .n (.sub (.loop ⟨[(6, .int .i64), (7, .int .i64)], [0]⟩ .n)))) [(.slice dataP1 dataL2 dataC3), (.int .i64 a4), (.int .i64 b5)] H K := by kernel_rfl
theorem den_slices_reverseRangeOrdered_uint64 {dataP1 : Option Addr} {dataL2 : Nat} {dataC3 : Nat} {a4 : Int} {b5 : Int} {H : Hp} {K : Value → Hp → Prop} (h : B_slices_reverseRangeOrdered_uint64 dataP1 dataL2 dataC3 a4 b5 H K) : hcall PR f_slices_reverseRangeOrdered_uint64 ⟨[(.slice dataP1 dataL2 dataC3), (.int .i64 a4), (.int .i64 b5)]⟩ H K := denF_call Try.func106 PR_mixed (Eq.mp (E_slices_reverseRangeOrdered_uint64 dataP1 dataL2 dataC3 a4 b5 H K) h)

def B_slices_partialInsertionSortOrdered_uint64 (dataP1 : Option Addr) (dataL2 : Nat) (dataC3 : Nat) (a4 : Int) (b5 : Int) (H : Hp) (K : Value → Hp → Prop) : Prop :=
 ∃ (I6 : Int → Int → Hp → Prop) (m7 : Int → Int → Hp → Nat), I6 (IntKind.i64.wrap (a4 + 1)) 0 H ∧ ∀ i9 : Int, ∀ j10 : Int, ∀ Hx8 : Hp, I6 i9 j10 Hx8 →
 (bif (decide ((j10 : Int) < 5)) then
 ∀ R11 : Int → Hp → Prop, (∀ i13 : Int, ∀ Hx12 : Hp, (
 I6 i13 (IntKind.i64.wrap (j10 + 1)) Hx12 ∧ m7 i13 (IntKind.i64.wrap (j10 + 1)) Hx12 < m7 i9 j10 Hx8) → R11 i13 Hx12) →
 ∀ R14 : Int → Hp → Prop, (∀ i16 : Int, ∀ Hx15 : Hp, (
 (bif ((i16 : Int) == b5) then
 K (.bool true) Hx15
else
 (bif (decide (((IntKind.i64.wrap (b5 - a4)) : Int) < 50)) then
 K (.bool false) Hx15
else
 idxA dataP1 dataL2 (IntKind.i64.wrap (i16 - 1)) 1 fun el17 =>
 ldI .u64 el17 Hx15 fun t18 =>
 idxA dataP1 dataL2 i16 1 fun el19 =>
 ldI .u64 el19 Hx15 fun t20 =>
 idxA dataP1 dataL2 i16 1 fun el21 =>
 st el21 (.int .u64 t18) Hx15 fun Hx22 =>
 idxA dataP1 dataL2 (IntKind.i64.wrap (i16 - 1)) 1 fun el23 =>
 st el23 (.int .u64 t20) Hx22 fun Hx24 =>
 ∀ R25 : Hp → Prop, (∀ Hx26 : Hp, (
 (bif (decide (((IntKind.i64.wrap (b5 - i16)) : Int) ≥ 2)) then
 ∃ (I27 : Int → Hp → Prop) (m28 : Int → Hp → Nat), I27 (IntKind.i64.wrap (i16 + 1)) Hx26 ∧ ∀ j30 : Int, ∀ Hx29 : Hp, I27 j30 Hx29 →
 (bif (decide ((j30 : Int) < b5)) then
 idxA dataP1 dataL2 j30 1 fun el31 =>
 ldI .u64 el31 Hx29 fun t32 =>
 idxA dataP1 dataL2 (IntKind.i64.wrap (j30 - 1)) 1 fun el33 =>
 ldI .u64 el33 Hx29 fun t34 =>
 hcall PR f_cmp_Less_uint64 ⟨[(.int .u64 t32), (.int .u64 t34)]⟩ Hx29 fun v35 Hx36 =>
 asB v35 fun t37 =>
 (bif (!t37) then
 R11 i16 Hx36
else
 idxA dataP1 dataL2 (IntKind.i64.wrap (j30 - 1)) 1 fun el38 =>
 ldI .u64 el38 Hx36 fun t39 =>
 idxA dataP1 dataL2 j30 1 fun el40 =>
 ldI .u64 el40 Hx36 fun t41 =>
 idxA dataP1 dataL2 j30 1 fun el42 =>
 st el42 (.int .u64 t39) Hx36 fun Hx43 =>
 idxA dataP1 dataL2 (IntKind.i64.wrap (j30 - 1)) 1 fun el44 =>
 st el44 (.int .u64 t41) Hx43 fun Hx45 =>
 I27 (IntKind.i64.wrap (j30 + 1)) Hx45 ∧ m28 (IntKind.i64.wrap (j30 + 1)) Hx45 < m28 j30 Hx29)
else
 R11 i16 Hx29)
else
 R11 i16 Hx26)) → R25 Hx26) →
 (bif (decide (((IntKind.i64.wrap (i16 - a4)) : Int) ≥ 2)) then
 ∃ (I46 : Int → Hp → Prop) (m47 : Int → Hp → Nat), I46 (IntKind.i64.wrap (i16 - 1)) Hx24 ∧ ∀ j49 : Int, ∀ Hx48 : Hp, I46 j49 Hx48 →
 (bif (decide ((j49 : Int) ≥ 1)) then
 idxA dataP1 dataL2 j49 1 fun el50 =>
 ldI .u64 el50 Hx48 fun t51 =>
 idxA dataP1 dataL2 (IntKind.i64.wrap (j49 - 1)) 1 fun el52 =>
 ldI .u64 el52 Hx48 fun t53 =>
 hcall PR f_cmp_Less_uint64 ⟨[(.int .u64 t51), (.int .u64 t53)]⟩ Hx48 fun v54 Hx55 =>
 asB v54 fun t56 =>
 (bif (!t56) then
 R25 Hx55
else
 idxA dataP1 dataL2 (IntKind.i64.wrap (j49 - 1)) 1 fun el57 =>
 ldI .u64 el57 Hx55 fun t58 =>
 idxA dataP1 dataL2 j49 1 fun el59 =>
 ldI .u64 el59 Hx55 fun t60 =>
 idxA dataP1 dataL2 j49 1 fun el61 =>
 st el61 (.int .u64 t58) Hx55 fun Hx62 =>
 idxA dataP1 dataL2 (IntKind.i64.wrap (j49 - 1)) 1 fun el63 =>
 st el63 (.int .u64 t60) Hx62 fun Hx64 =>
 I46 (IntKind.i64.wrap (j49 - 1)) Hx64 ∧ m47 (IntKind.i64.wrap (j49 - 1)) Hx64 < m47 j49 Hx48)
else
 R25 Hx48)
else
 R25 Hx24)))) → R14 i16 Hx15) →
 ∃ (I65 : Int → Hp → Prop) (m66 : Int → Hp → Nat), I65 i9 Hx8 ∧ ∀ i68 : Int, ∀ Hx67 : Hp, I65 i68 Hx67 →
 (bif (decide ((i68 : Int) < b5)) then
 idxA dataP1 dataL2 i68 1 fun el69 =>
 ldI .u64 el69 Hx67 fun t70 =>
 idxA dataP1 dataL2 (IntKind.i64.wrap (i68 - 1)) 1 fun el71 =>
 ldI .u64 el71 Hx67 fun t72 =>
 hcall PR f_cmp_Less_uint64 ⟨[(.int .u64 t70), (.int .u64 t72)]⟩ Hx67 fun v73 Hx74 =>
 asB v73 fun t75 =>
 (bif (!t75) then
 I65 (IntKind.i64.wrap (i68 + 1)) Hx74 ∧ m66 (IntKind.i64.wrap (i68 + 1)) Hx74 < m66 i68 Hx67
else
 R14 i68 Hx74)
else
 R14 i68 Hx67)
else
 K (.bool false) Hx8)
theorem E_slices_partialInsertionSortOrdered_uint64 (dataP1 : Option Addr) (dataL2 : Nat) (dataC3 : Nat) (a4 : Int) (b5 : Int) (H : Hp) (K : Value → Hp → Prop) : B_slices_partialInsertionSortOrdered_uint64 dataP1 dataL2 dataC3 a4 b5 H K = denF Try.prog Try.f107 (.seq none .n (.seq none .n (.seq none (.seq none .n (.sub (.loop ⟨[(7, .int .i64), (8, .int .i64)], [0, 1, 2]⟩ (.seq none .n (.seq (some ⟨[(7, .int .i64)], [0, 1, 2, 8]⟩) (.sub (.seq (some ⟨[(7, .int .i64)], [0, 1, 2, 8]⟩) (.sub (.loop ⟨[(7, .int .i64)], [0, 1, 2, 8]⟩ .n)) (.seq none .n (.seq none .n (.seq none .n (.seq (some ⟨[], [0, 1, 2, 7, 8]⟩) (.seq none .n (.two (.seq none .n (.sub (.loop ⟨[(9, .int .i64)], [0, 1, 2, 7, 8]⟩ .n))) .n)) (.seq none .n (.two (.seq none .n (.sub (.loop ⟨[(10, .int .i64)], [0, 1, 2, 7, 8]⟩ .n))) .n)))))))) .n))))) .n))) [(.slice dataP1 dataL2 dataC3), (.int .i64 a4), (.int .i64 b5)] H K := by kernel_rfl
theorem den_slices_partialInsertionSortOrdered_uint64 {dataP1 : Option Addr} {dataL2 : Nat} {dataC3 : Nat} {a4 : Int} {b5 : Int} {H : Hp} {K : Value → Hp → Prop} (h : B_slices_partialInsertionSortOrdered_uint64 dataP1 dataL2 dataC3 a4 b5 H K) : hcall PR f_slices_partialInsertionSortOrdered_uint64 ⟨[(.slice dataP1 dataL2 dataC3), (.int .i64 a4), (.int .i64 b5)]⟩ H K := denF_call Try.func107 PR_mixed (Eq.mp (E_slices_partialInsertionSortOrdered_uint64 dataP1 dataL2 dataC3 a4 b5 H K) h)

def B_slices_partitionEqualOrdered_uint64 (dataP1 : Option Addr) (dataL2 : Nat) (dataC3 : Nat) (a4 : Int) (b5 : Int) (pivot6 : Int) (H : Hp) (K : Value → Hp → Prop) : Prop :=
 idxA dataP1 dataL2 pivot6 1 fun el7 =>
 ldI .u64 el7 H fun t8 =>
 idxA dataP1 dataL2 a4 1 fun el9 =>
 ldI .u64 el9 H fun t10 =>
 idxA dataP1 dataL2 a4 1 fun el11 =>
 st el11 (.int .u64 t8) H fun Hx12 =>
 idxA dataP1 dataL2 pivot6 1 fun el13 =>
 st el13 (.int .u64 t10) Hx12 fun Hx14 =>
 ∃ (I15 : Int → Int → Hp → Prop) (m16 : Int → Int → Hp → Nat), I15 (IntKind.i64.wrap (a4 + 1)) (IntKind.i64.wrap (b5 - 1)) Hx14 ∧ ∀ i18 : Int, ∀ j19 : Int, ∀ Hx17 : Hp, I15 i18 j19 Hx17 →
 ∀ R20 : Int → Hp → Prop, (∀ i22 : Int, ∀ Hx21 : Hp, (
 ∀ R23 : Int → Hp → Prop, (∀ j25 : Int, ∀ Hx24 : Hp, (
 (bif (decide ((i22 : Int) > j25)) then
 K (.int .i64 i22) Hx24
else
 idxA dataP1 dataL2 j25 1 fun el26 =>
 ldI .u64 el26 Hx24 fun t27 =>
 idxA dataP1 dataL2 i22 1 fun el28 =>
 ldI .u64 el28 Hx24 fun t29 =>
 idxA dataP1 dataL2 i22 1 fun el30 =>
 st el30 (.int .u64 t27) Hx24 fun Hx31 =>
 idxA dataP1 dataL2 j25 1 fun el32 =>
 st el32 (.int .u64 t29) Hx31 fun Hx33 =>
 I15 (IntKind.i64.wrap (i22 + 1)) (IntKind.i64.wrap (j25 - 1)) Hx33 ∧ m16 (IntKind.i64.wrap (i22 + 1)) (IntKind.i64.wrap (j25 - 1)) Hx33 < m16 i18 j19 Hx17)) → R23 j25 Hx24) →
 ∃ (I34 : Int → Hp → Prop) (m35 : Int → Hp → Nat), I34 j19 Hx21 ∧ ∀ j37 : Int, ∀ Hx36 : Hp, I34 j37 Hx36 →
 (bif (decide ((i22 : Int) ≤ j37)) then
 idxA dataP1 dataL2 a4 1 fun el38 =>
 ldI .u64 el38 Hx36 fun t39 =>
 idxA dataP1 dataL2 j37 1 fun el40 =>
 ldI .u64 el40 Hx36 fun t41 =>
 hcall PR f_cmp_Less_uint64 ⟨[(.int .u64 t39), (.int .u64 t41)]⟩ Hx36 fun v42 Hx43 =>
 asB v42 fun t44 =>
 (bif t44 then
 I34 (IntKind.i64.wrap (j37 - 1)) Hx43 ∧ m35 (IntKind.i64.wrap (j37 - 1)) Hx43 < m35 j37 Hx36
else
 R23 j37 Hx43)
else
 R23 j37 Hx36)) → R20 i22 Hx21) →
 ∃ (I45 : Int → Hp → Prop) (m46 : Int → Hp → Nat), I45 i18 Hx17 ∧ ∀ i48 : Int, ∀ Hx47 : Hp, I45 i48 Hx47 →
 (bif (decide ((i48 : Int) ≤ j19)) then
 idxA dataP1 dataL2 a4 1 fun el49 =>
 ldI .u64 el49 Hx47 fun t50 =>
 idxA dataP1 dataL2 i48 1 fun el51 =>
 ldI .u64 el51 Hx47 fun t52 =>
 hcall PR f_cmp_Less_uint64 ⟨[(.int .u64 t50), (.int .u64 t52)]⟩ Hx47 fun v53 Hx54 =>
 asB v53 fun t55 =>
 (bif (!t55) then
 I45 (IntKind.i64.wrap (i48 + 1)) Hx54 ∧ m46 (IntKind.i64.wrap (i48 + 1)) Hx54 < m46 i48 Hx47
else
 R20 i48 Hx54)
else
 R20 i48 Hx47)
theorem E_slices_partitionEqualOrdered_uint64 (dataP1 : Option Addr) (dataL2 : Nat) (dataC3 : Nat) (a4 : Int) (b5 : Int) (pivot6 : Int) (H : Hp) (K : Value → Hp → Prop) : B_slices_partitionEqualOrdered_uint64 dataP1 dataL2 dataC3 a4 b5 pivot6 H K = denF Try.prog Try.f109 (.seq none .n (.seq none .n (.seq none .n (.seq none (.sub (.loop ⟨[(9, .int .i64), (10, .int .i64)], [0, 1]⟩ (.sub (.seq (some ⟨[(9, .int .i64)], [0, 1, 10]⟩) (.sub (.loop ⟨[(9, .int .i64)], [0, 1, 10]⟩ .n)) (.seq (some ⟨[(10, .int .i64)], [0, 1, 9]⟩) (.sub (.loop ⟨[(10, .int .i64)], [0, 1, 9]⟩ .n)) .n))))) .n)))) [(.slice dataP1 dataL2 dataC3), (.int .i64 a4), (.int .i64 b5), (.int .i64 pivot6)] H K := by kernel_rfl
theorem den_slices_partitionEqualOrdered_uint64 {dataP1 : Option Addr} {dataL2 : Nat} {dataC3 : Nat} {a4 : Int} {b5 : Int} {pivot6 : Int} {H : Hp} {K : Value → Hp → Prop} (h : B_slices_partitionEqualOrdered_uint64 dataP1 dataL2 dataC3 a4 b5 pivot6 H K) : hcall PR f_slices_partitionEqualOrdered_uint64 ⟨[(.slice dataP1 dataL2 dataC3), (.int .i64 a4), (.int .i64 b5), (.int .i64 pivot6)]⟩ H K := denF_call Try.func109 PR_mixed (Eq.mp (E_slices_partitionEqualOrdered_uint64 dataP1 dataL2 dataC3 a4 b5 pivot6 H K) h)

def B_slices_partitionOrdered_uint64 (dataP1 : Option Addr) (dataL2 : Nat) (dataC3 : Nat) (a4 : Int) (b5 : Int) (pivot6 : Int) (H : Hp) (K : Value → Hp → Prop) : Prop :=
 idxA dataP1 dataL2 pivot6 1 fun el7 =>
 ldI .u64 el7 H fun t8 =>
 idxA dataP1 dataL2 a4 1 fun el9 =>
 ldI .u64 el9 H fun t10 =>
 idxA dataP1 dataL2 a4 1 fun el11 =>
 st el11 (.int .u64 t8) H fun Hx12 =>
 idxA dataP1 dataL2 pivot6 1 fun el13 =>
 st el13 (.int .u64 t10) Hx12 fun Hx14 =>
 ∀ R15 : Int → Hp → Prop, (∀ i17 : Int, ∀ Hx16 : Hp, (
 ∀ R18 : Int → Hp → Prop, (∀ j20 : Int, ∀ Hx19 : Hp, (
 (bif (decide ((i17 : Int) > j20)) then
 idxA dataP1 dataL2 a4 1 fun el21 =>
 ldI .u64 el21 Hx19 fun t22 =>
 idxA dataP1 dataL2 j20 1 fun el23 =>
 ldI .u64 el23 Hx19 fun t24 =>
 idxA dataP1 dataL2 j20 1 fun el25 =>
 st el25 (.int .u64 t22) Hx19 fun Hx26 =>
 idxA dataP1 dataL2 a4 1 fun el27 =>
 st el27 (.int .u64 t24) Hx26 fun Hx28 =>
 K (.tuple #[(.int .i64 j20), (.bool true)]) Hx28
else
 idxA dataP1 dataL2 j20 1 fun el29 =>
 ldI .u64 el29 Hx19 fun t30 =>
 idxA dataP1 dataL2 i17 1 fun el31 =>
 ldI .u64 el31 Hx19 fun t32 =>
 idxA dataP1 dataL2 i17 1 fun el33 =>
 st el33 (.int .u64 t30) Hx19 fun Hx34 =>
 idxA dataP1 dataL2 j20 1 fun el35 =>
 st el35 (.int .u64 t32) Hx34 fun Hx36 =>
 ∃ (I37 : Int → Int → Hp → Prop) (m38 : Int → Int → Hp → Nat), I37 (IntKind.i64.wrap (i17 + 1)) (IntKind.i64.wrap (j20 - 1)) Hx36 ∧ ∀ i40 : Int, ∀ j41 : Int, ∀ Hx39 : Hp, I37 i40 j41 Hx39 →
 ∀ R42 : Int → Hp → Prop, (∀ i44 : Int, ∀ Hx43 : Hp, (
 ∀ R45 : Int → Hp → Prop, (∀ j47 : Int, ∀ Hx46 : Hp, (
 (bif (decide ((i44 : Int) > j47)) then
 idxA dataP1 dataL2 a4 1 fun el48 =>
 ldI .u64 el48 Hx46 fun t49 =>
 idxA dataP1 dataL2 j47 1 fun el50 =>
 ldI .u64 el50 Hx46 fun t51 =>
 idxA dataP1 dataL2 j47 1 fun el52 =>
 st el52 (.int .u64 t49) Hx46 fun Hx53 =>
 idxA dataP1 dataL2 a4 1 fun el54 =>
 st el54 (.int .u64 t51) Hx53 fun Hx55 =>
 K (.tuple #[(.int .i64 j47), (.bool false)]) Hx55
else
 idxA dataP1 dataL2 j47 1 fun el56 =>
 ldI .u64 el56 Hx46 fun t57 =>
 idxA dataP1 dataL2 i44 1 fun el58 =>
 ldI .u64 el58 Hx46 fun t59 =>
 idxA dataP1 dataL2 i44 1 fun el60 =>
 st el60 (.int .u64 t57) Hx46 fun Hx61 =>
 idxA dataP1 dataL2 j47 1 fun el62 =>
 st el62 (.int .u64 t59) Hx61 fun Hx63 =>
 I37 (IntKind.i64.wrap (i44 + 1)) (IntKind.i64.wrap (j47 - 1)) Hx63 ∧ m38 (IntKind.i64.wrap (i44 + 1)) (IntKind.i64.wrap (j47 - 1)) Hx63 < m38 i40 j41 Hx39)) → R45 j47 Hx46) →
 ∃ (I64 : Int → Hp → Prop) (m65 : Int → Hp → Nat), I64 j41 Hx43 ∧ ∀ j67 : Int, ∀ Hx66 : Hp, I64 j67 Hx66 →
 (bif (decide ((i44 : Int) ≤ j67)) then
 idxA dataP1 dataL2 j67 1 fun el68 =>
 ldI .u64 el68 Hx66 fun t69 =>
 idxA dataP1 dataL2 a4 1 fun el70 =>
 ldI .u64 el70 Hx66 fun t71 =>
 hcall PR f_cmp_Less_uint64 ⟨[(.int .u64 t69), (.int .u64 t71)]⟩ Hx66 fun v72 Hx73 =>
 asB v72 fun t74 =>
 (bif (!t74) then
 I64 (IntKind.i64.wrap (j67 - 1)) Hx73 ∧ m65 (IntKind.i64.wrap (j67 - 1)) Hx73 < m65 j67 Hx66
else
 R45 j67 Hx73)
else
 R45 j67 Hx66)) → R42 i44 Hx43) →
 ∃ (I75 : Int → Hp → Prop) (m76 : Int → Hp → Nat), I75 i40 Hx39 ∧ ∀ i78 : Int, ∀ Hx77 : Hp, I75 i78 Hx77 →
 (bif (decide ((i78 : Int) ≤ j41)) then
 idxA dataP1 dataL2 i78 1 fun el79 =>
 ldI .u64 el79 Hx77 fun t80 =>
 idxA dataP1 dataL2 a4 1 fun el81 =>
 ldI .u64 el81 Hx77 fun t82 =>
 hcall PR f_cmp_Less_uint64 ⟨[(.int .u64 t80), (.int .u64 t82)]⟩ Hx77 fun v83 Hx84 =>
 asB v83 fun t85 =>
 (bif t85 then
 I75 (IntKind.i64.wrap (i78 + 1)) Hx84 ∧ m76 (IntKind.i64.wrap (i78 + 1)) Hx84 < m76 i78 Hx77
else
 R42 i78 Hx84)
else
 R42 i78 Hx77))) → R18 j20 Hx19) →
 ∃ (I86 : Int → Hp → Prop) (m87 : Int → Hp → Nat), I86 (IntKind.i64.wrap (b5 - 1)) Hx16 ∧ ∀ j89 : Int, ∀ Hx88 : Hp, I86 j89 Hx88 →
 (bif (decide ((i17 : Int) ≤ j89)) then
 idxA dataP1 dataL2 j89 1 fun el90 =>
 ldI .u64 el90 Hx88 fun t91 =>
 idxA dataP1 dataL2 a4 1 fun el92 =>
 ldI .u64 el92 Hx88 fun t93 =>
 hcall PR f_cmp_Less_uint64 ⟨[(.int .u64 t91), (.int .u64 t93)]⟩ Hx88 fun v94 Hx95 =>
 asB v94 fun t96 =>
 (bif (!t96) then
 I86 (IntKind.i64.wrap (j89 - 1)) Hx95 ∧ m87 (IntKind.i64.wrap (j89 - 1)) Hx95 < m87 j89 Hx88
else
 R18 j89 Hx95)
else
 R18 j89 Hx88)) → R15 i17 Hx16) →
 ∃ (I97 : Int → Hp → Prop) (m98 : Int → Hp → Nat), I97 (IntKind.i64.wrap (a4 + 1)) Hx14 ∧ ∀ i100 : Int, ∀ Hx99 : Hp, I97 i100 Hx99 →
 (bif (decide ((i100 : Int) ≤ (IntKind.i64.wrap (b5 - 1)))) then
 idxA dataP1 dataL2 i100 1 fun el101 =>
 ldI .u64 el101 Hx99 fun t102 =>
 idxA dataP1 dataL2 a4 1 fun el103 =>
 ldI .u64 el103 Hx99 fun t104 =>
 hcall PR f_cmp_Less_uint64 ⟨[(.int .u64 t102), (.int .u64 t104)]⟩ Hx99 fun v105 Hx106 =>
 asB v105 fun t107 =>
 (bif t107 then
 I97 (IntKind.i64.wrap (i100 + 1)) Hx106 ∧ m98 (IntKind.i64.wrap (i100 + 1)) Hx106 < m98 i100 Hx99
else
 R15 i100 Hx106)
else
 R15 i100 Hx99)
theorem E_slices_partitionOrdered_uint64 (dataP1 : Option Addr) (dataL2 : Nat) (dataC3 : Nat) (a4 : Int) (b5 : Int) (pivot6 : Int) (H : Hp) (K : Value → Hp → Prop) : B_slices_partitionOrdered_uint64 dataP1 dataL2 dataC3 a4 b5 pivot6 H K = denF Try.prog Try.f110 (.seq none .n (.seq none .n (.seq none .n (.seq (some ⟨[(10, .int .i64)], [0, 1, 11]⟩) (.sub (.loop ⟨[(10, .int .i64)], [0, 1, 11]⟩ .n)) (.seq (some ⟨[(11, .int .i64)], [0, 1, 10]⟩) (.sub (.loop ⟨[(11, .int .i64)], [0, 1, 10]⟩ .n)) (.seq none .n (.seq none .n (.seq none .n (.seq none .n (.seq none (.sub (.loop ⟨[(10, .int .i64), (11, .int .i64)], [0, 1]⟩ (.sub (.seq (some ⟨[(10, .int .i64)], [0, 1, 11]⟩) (.sub (.loop ⟨[(10, .int .i64)], [0, 1, 11]⟩ .n)) (.seq (some ⟨[(11, .int .i64)], [0, 1, 10]⟩) (.sub (.loop ⟨[(11, .int .i64)], [0, 1, 10]⟩ .n)) .n))))) .n)))))))))) [(.slice dataP1 dataL2 dataC3), (.int .i64 a4), (.int .i64 b5), (.int .i64 pivot6)] H K := by kernel_rfl
theorem den_slices_partitionOrdered_uint64 {dataP1 : Option Addr} {dataL2 : Nat} {dataC3 : Nat} {a4 : Int} {b5 : Int} {pivot6 : Int} {H : Hp} {K : Value → Hp → Prop} (h : B_slices_partitionOrdered_uint64 dataP1 dataL2 dataC3 a4 b5 pivot6 H K) : hcall PR f_slices_partitionOrdered_uint64 ⟨[(.slice dataP1 dataL2 dataC3), (.int .i64 a4), (.int .i64 b5), (.int .i64 pivot6)]⟩ H K := denF_call Try.func110 PR_mixed (Eq.mp (E_slices_partitionOrdered_uint64 dataP1 dataL2 dataC3 a4 b5 pivot6 H K) h)

def B_slices_siftDownOrdered_uint64 (dataP1 : Option Addr) (dataL2 : Nat) (dataC3 : Nat) (lo4 : Int) (hi5 : Int) (first6 : Int) (H : Hp) (K : Value → Hp → Prop) : Prop :=
 ∃ (I7 : Int → Hp → Prop) (m8 : Int → Hp → Nat), I7 lo4 H ∧ ∀ root10 : Int, ∀ Hx9 : Hp, I7 root10 Hx9 →
 (bif (decide (((IntKind.i64.wrap ((IntKind.i64.wrap (2 * root10)) + 1)) : Int) ≥ hi5)) then
 K (.tuple #[]) Hx9
else
 ∀ R11 : Int → Hp → Prop, (∀ child13 : Int, ∀ Hx12 : Hp, (
 idxA dataP1 dataL2 (IntKind.i64.wrap (first6 + root10)) 1 fun el14 =>
 ldI .u64 el14 Hx12 fun t15 =>
 idxA dataP1 dataL2 (IntKind.i64.wrap (first6 + child13)) 1 fun el16 =>
 ldI .u64 el16 Hx12 fun t17 =>
 hcall PR f_cmp_Less_uint64 ⟨[(.int .u64 t15), (.int .u64 t17)]⟩ Hx12 fun v18 Hx19 =>
 asB v18 fun t20 =>
 (bif (!t20) then
 K (.tuple #[]) Hx19
else
 idxA dataP1 dataL2 (IntKind.i64.wrap (first6 + child13)) 1 fun el21 =>
 ldI .u64 el21 Hx19 fun t22 =>
 idxA dataP1 dataL2 (IntKind.i64.wrap (first6 + root10)) 1 fun el23 =>
 ldI .u64 el23 Hx19 fun t24 =>
 idxA dataP1 dataL2 (IntKind.i64.wrap (first6 + root10)) 1 fun el25 =>
 st el25 (.int .u64 t22) Hx19 fun Hx26 =>
 idxA dataP1 dataL2 (IntKind.i64.wrap (first6 + child13)) 1 fun el27 =>
 st el27 (.int .u64 t24) Hx26 fun Hx28 =>
 I7 child13 Hx28 ∧ m8 child13 Hx28 < m8 root10 Hx9)) → R11 child13 Hx12) →
 (bif (decide (((IntKind.i64.wrap ((IntKind.i64.wrap ((IntKind.i64.wrap (2 * root10)) + 1)) + 1)) : Int) < hi5)) then
 idxA dataP1 dataL2 (IntKind.i64.wrap (first6 + (IntKind.i64.wrap ((IntKind.i64.wrap (2 * root10)) + 1)))) 1 fun el29 =>
 ldI .u64 el29 Hx9 fun t30 =>
 idxA dataP1 dataL2 (IntKind.i64.wrap ((IntKind.i64.wrap (first6 + (IntKind.i64.wrap ((IntKind.i64.wrap (2 * root10)) + 1)))) + 1)) 1 fun el31 =>
 ldI .u64 el31 Hx9 fun t32 =>
 hcall PR f_cmp_Less_uint64 ⟨[(.int .u64 t30), (.int .u64 t32)]⟩ Hx9 fun v33 Hx34 =>
 asB v33 fun t35 =>
 (bif t35 then
 R11 (IntKind.i64.wrap ((IntKind.i64.wrap ((IntKind.i64.wrap (2 * root10)) + 1)) + 1)) Hx34
else
 R11 (IntKind.i64.wrap ((IntKind.i64.wrap (2 * root10)) + 1)) Hx34)
else
 R11 (IntKind.i64.wrap ((IntKind.i64.wrap (2 * root10)) + 1)) Hx9))
theorem E_slices_siftDownOrdered_uint64 (dataP1 : Option Addr) (dataL2 : Nat) (dataC3 : Nat) (lo4 : Int) (hi5 : Int) (first6 : Int) (H : Hp) (K : Value → Hp → Prop) : B_slices_siftDownOrdered_uint64 dataP1 dataL2 dataC3 lo4 hi5 first6 H K = denF Try.prog Try.f116 (.seq none .n (.sub (.loop ⟨[(8, .int .i64)], [0, 2, 3]⟩ (.sub (.seq none .n (.seq none .n (.seq (some ⟨[(9, .int .i64)], [0, 2, 3, 8]⟩) .n .n))))))) [(.slice dataP1 dataL2 dataC3), (.int .i64 lo4), (.int .i64 hi5), (.int .i64 first6)] H K := by kernel_rfl
theorem den_slices_siftDownOrdered_uint64 {dataP1 : Option Addr} {dataL2 : Nat} {dataC3 : Nat} {lo4 : Int} {hi5 : Int} {first6 : Int} {H : Hp} {K : Value → Hp → Prop} (h : B_slices_siftDownOrdered_uint64 dataP1 dataL2 dataC3 lo4 hi5 first6 H K) : hcall PR f_slices_siftDownOrdered_uint64 ⟨[(.slice dataP1 dataL2 dataC3), (.int .i64 lo4), (.int .i64 hi5), (.int .i64 first6)]⟩ H K := denF_call Try.func116 PR_mixed (Eq.mp (E_slices_siftDownOrdered_uint64 dataP1 dataL2 dataC3 lo4 hi5 first6 H K) h)

def B_slices_nextPowerOfTwo (length1 : Int) (H : Hp) (K : Value → Hp → Prop) : Prop :=
 hcall PR f_math_bits_Len ⟨[(.int .u64 (IntKind.u64.wrap length1))]⟩ H fun v2 Hx3 =>
 asI .i64 v2 fun t4 =>
 (0 : Int) ≤ t4 ∧
 K (.int .u64 (shlI .u64 1 t4)) Hx3
theorem E_slices_nextPowerOfTwo (length1 : Int) (H : Hp) (K : Value → Hp → Prop) : B_slices_nextPowerOfTwo length1 H K = denF Try.prog Try.f117 .n [(.int .i64 length1)] H K := by kernel_rfl
theorem den_slices_nextPowerOfTwo {length1 : Int} {H : Hp} {K : Value → Hp → Prop} (h : B_slices_nextPowerOfTwo length1 H K) : hcall PR f_slices_nextPowerOfTwo ⟨[(.int .i64 length1)]⟩ H K := denF_call Try.func117 PR_mixed (Eq.mp (E_slices_nextPowerOfTwo length1 H K) h)

def B_slices_xorshift_Next (r1 : Option Addr) (H : Hp) (K : Value → Hp → Prop) : Prop :=
 nilP r1 fun ra2 =>
 ldI .u64 ra2 H fun t3 =>
 nilP r1 fun ra4 =>
 ldI .u64 ra4 H fun t5 =>
 (0 : Int) ≤ 13 ∧
 nilP r1 fun ra6 =>
 st ra6 (.int .u64 (bitOp .xor .u64 t3 (shlI .u64 t5 13))) H fun Hx7 =>
 nilP r1 fun ra8 =>
 ldI .u64 ra8 Hx7 fun t9 =>
 nilP r1 fun ra10 =>
 ldI .u64 ra10 Hx7 fun t11 =>
 (0 : Int) ≤ 7 ∧
 nilP r1 fun ra12 =>
 st ra12 (.int .u64 (bitOp .xor .u64 t9 (shrI .u64 t11 7))) Hx7 fun Hx13 =>
 nilP r1 fun ra14 =>
 ldI .u64 ra14 Hx13 fun t15 =>
 nilP r1 fun ra16 =>
 ldI .u64 ra16 Hx13 fun t17 =>
 (0 : Int) ≤ 17 ∧
 nilP r1 fun ra18 =>
 st ra18 (.int .u64 (bitOp .xor .u64 t15 (shlI .u64 t17 17))) Hx13 fun Hx19 =>
 nilP r1 fun ra20 =>
 ldI .u64 ra20 Hx19 fun t21 =>
 K (.int .u64 t21) Hx19
theorem E_slices_xorshift_Next (r1 : Option Addr) (H : Hp) (K : Value → Hp → Prop) : B_slices_xorshift_Next r1 H K = denF Try.prog Try.f118 .n [(.pointer r1)] H K := by kernel_rfl
theorem den_slices_xorshift_Next {r1 : Option Addr} {H : Hp} {K : Value → Hp → Prop} (h : B_slices_xorshift_Next r1 H K) : hcall PR f_slices_xorshift_Next ⟨[(.pointer r1)]⟩ H K := denF_call Try.func118 PR_mixed (Eq.mp (E_slices_xorshift_Next r1 H K) h)

def B_slices_medianAdjacentOrdered_uint64 (dataP1 : Option Addr) (dataL2 : Nat) (dataC3 : Nat) (a4 : Int) (swaps5 : Option Addr) (H : Hp) (K : Value → Hp → Prop) : Prop :=
 hcall PR f_slices_medianOrdered_uint64 ⟨[(.slice dataP1 dataL2 dataC3), (.int .i64 (IntKind.i64.wrap (a4 - 1))), (.int .i64 a4), (.int .i64 (IntKind.i64.wrap (a4 + 1))), (.pointer swaps5)]⟩ H fun v6 Hx7 =>
 asI .i64 v6 fun t8 =>
 K (.int .i64 t8) Hx7
theorem E_slices_medianAdjacentOrdered_uint64 (dataP1 : Option Addr) (dataL2 : Nat) (dataC3 : Nat) (a4 : Int) (swaps5 : Option Addr) (H : Hp) (K : Value → Hp → Prop) : B_slices_medianAdjacentOrdered_uint64 dataP1 dataL2 dataC3 a4 swaps5 H K = denF Try.prog Try.f119 .n [(.slice dataP1 dataL2 dataC3), (.int .i64 a4), (.pointer swaps5)] H K := by kernel_rfl
theorem den_slices_medianAdjacentOrdered_uint64 {dataP1 : Option Addr} {dataL2 : Nat} {dataC3 : Nat} {a4 : Int} {swaps5 : Option Addr} {H : Hp} {K : Value → Hp → Prop} (h : B_slices_medianAdjacentOrdered_uint64 dataP1 dataL2 dataC3 a4 swaps5 H K) : hcall PR f_slices_medianAdjacentOrdered_uint64 ⟨[(.slice dataP1 dataL2 dataC3), (.int .i64 a4), (.pointer swaps5)]⟩ H K := denF_call Try.func119 PR_mixed (Eq.mp (E_slices_medianAdjacentOrdered_uint64 dataP1 dataL2 dataC3 a4 swaps5 H K) h)

def B_slices_medianOrdered_uint64 (dataP1 : Option Addr) (dataL2 : Nat) (dataC3 : Nat) (a4 : Int) (b5 : Int) (c6 : Int) (swaps7 : Option Addr) (H : Hp) (K : Value → Hp → Prop) : Prop :=
 hcall PR f_slices_order2Ordered_uint64 ⟨[(.slice dataP1 dataL2 dataC3), (.int .i64 a4), (.int .i64 b5), (.pointer swaps7)]⟩ H fun v8 Hx9 =>
 tup2 v8 fun v10 v11 =>
 asI .i64 v10 fun t12 =>
 asI .i64 v11 fun t13 =>
 hcall PR f_slices_order2Ordered_uint64 ⟨[(.slice dataP1 dataL2 dataC3), (.int .i64 t13), (.int .i64 c6), (.pointer swaps7)]⟩ Hx9 fun v14 Hx15 =>
 tup2 v14 fun v16 v17 =>
 asI .i64 v16 fun t18 =>
 asI .i64 v17 fun t19 =>
 hcall PR f_slices_order2Ordered_uint64 ⟨[(.slice dataP1 dataL2 dataC3), (.int .i64 t12), (.int .i64 t18), (.pointer swaps7)]⟩ Hx15 fun v20 Hx21 =>
 tup2 v20 fun v22 v23 =>
 asI .i64 v22 fun t24 =>
 asI .i64 v23 fun t25 =>
 K (.int .i64 t25) Hx21
theorem E_slices_medianOrdered_uint64 (dataP1 : Option Addr) (dataL2 : Nat) (dataC3 : Nat) (a4 : Int) (b5 : Int) (c6 : Int) (swaps7 : Option Addr) (H : Hp) (K : Value → Hp → Prop) : B_slices_medianOrdered_uint64 dataP1 dataL2 dataC3 a4 b5 c6 swaps7 H K = denF Try.prog Try.f120 .n [(.slice dataP1 dataL2 dataC3), (.int .i64 a4), (.int .i64 b5), (.int .i64 c6), (.pointer swaps7)] H K := by kernel_rfl
theorem den_slices_medianOrdered_uint64 {dataP1 : Option Addr} {dataL2 : Nat} {dataC3 : Nat} {a4 : Int} {b5 : Int} {c6 : Int} {swaps7 : Option Addr} {H : Hp} {K : Value → Hp → Prop} (h : B_slices_medianOrdered_uint64 dataP1 dataL2 dataC3 a4 b5 c6 swaps7 H K) : hcall PR f_slices_medianOrdered_uint64 ⟨[(.slice dataP1 dataL2 dataC3), (.int .i64 a4), (.int .i64 b5), (.int .i64 c6), (.pointer swaps7)]⟩ H K := denF_call Try.func120 PR_mixed (Eq.mp (E_slices_medianOrdered_uint64 dataP1 dataL2 dataC3 a4 b5 c6 swaps7 H K) h)

def B_slices_order2Ordered_uint64 (dataP1 : Option Addr) (dataL2 : Nat) (dataC3 : Nat) (a4 : Int) (b5 : Int) (swaps6 : Option Addr) (H : Hp) (K : Value → Hp → Prop) : Prop :=
 idxA dataP1 dataL2 b5 1 fun el7 =>
 ldI .u64 el7 H fun t8 =>
 idxA dataP1 dataL2 a4 1 fun el9 =>
 ldI .u64 el9 H fun t10 =>
 hcall PR f_cmp_Less_uint64 ⟨[(.int .u64 t8), (.int .u64 t10)]⟩ H fun v11 Hx12 =>
 asB v11 fun t13 =>
 (bif t13 then
 nilP swaps6 fun swapsa14 =>
 ldI .i64 swapsa14 Hx12 fun t15 =>
 nilP swaps6 fun swapsa16 =>
 st swapsa16 (.int .i64 (IntKind.i64.wrap (t15 + 1))) Hx12 fun Hx17 =>
 K (.tuple #[(.int .i64 b5), (.int .i64 a4)]) Hx17
else
 K (.tuple #[(.int .i64 a4), (.int .i64 b5)]) Hx12)
theorem E_slices_order2Ordered_uint64 (dataP1 : Option Addr) (dataL2 : Nat) (dataC3 : Nat) (a4 : Int) (b5 : Int) (swaps6 : Option Addr) (H : Hp) (K : Value → Hp → Prop) : B_slices_order2Ordered_uint64 dataP1 dataL2 dataC3 a4 b5 swaps6 H K = denF Try.prog Try.f132 .n [(.slice dataP1 dataL2 dataC3), (.int .i64 a4), (.int .i64 b5), (.pointer swaps6)] H K := by kernel_rfl
theorem den_slices_order2Ordered_uint64 {dataP1 : Option Addr} {dataL2 : Nat} {dataC3 : Nat} {a4 : Int} {b5 : Int} {swaps6 : Option Addr} {H : Hp} {K : Value → Hp → Prop} (h : B_slices_order2Ordered_uint64 dataP1 dataL2 dataC3 a4 b5 swaps6 H K) : hcall PR f_slices_order2Ordered_uint64 ⟨[(.slice dataP1 dataL2 dataC3), (.int .i64 a4), (.int .i64 b5), (.pointer swaps6)]⟩ H K := denF_call Try.func132 PR_mixed (Eq.mp (E_slices_order2Ordered_uint64 dataP1 dataL2 dataC3 a4 b5 swaps6 H K) h)

end Go.Proofs.Ytknejebggegfjaa

namespace Go.Proofs.Ytknejebggegfjaa
open Go
set_option linter.unusedVariables false
set_option maxRecDepth 100000
def B_cmp_Less_uint64 (x1 : Int) (y2 : Int) (H : Hp) (K : Value → Hp → Prop) : Prop :=
 hcall PR f_cmp_isNaN_uint64 ⟨[(.int .u64 x1)]⟩ H fun v3 Hx4 =>
 asB v3 fun t5 =>
 (bif t5 then
 hcall PR f_cmp_isNaN_uint64 ⟨[(.int .u64 y2)]⟩ Hx4 fun v6 Hx7 =>
 asB v6 fun t8 =>
 (bif (!t8) then
 K (.bool true) Hx7
else
 K (.bool (decide ((x1 : Int) < y2))) Hx7)
else
 K (.bool (decide ((x1 : Int) < y2))) Hx4)
theorem E_cmp_Less_uint64 (x1 : Int) (y2 : Int) (H : Hp) (K : Value → Hp → Prop) : B_cmp_Less_uint64 x1 y2 H K = denF Try.prog Try.f108 .n [(.int .u64 x1), (.int .u64 y2)] H K := by kernel_rfl
theorem den_cmp_Less_uint64 {x1 : Int} {y2 : Int} {H : Hp} {K : Value → Hp → Prop} (h : B_cmp_Less_uint64 x1 y2 H K) : hcall PR f_cmp_Less_uint64 ⟨[(.int .u64 x1), (.int .u64 y2)]⟩ H K := denF_call Try.func108 PR_mixed (Eq.mp (E_cmp_Less_uint64 x1 y2 H K) h)

def B_cmp_isNaN_uint64 (x1 : Int) (H : Hp) (K : Value → Hp → Prop) : Prop :=
 K (.bool ((x1 : Int) != x1)) H
theorem E_cmp_isNaN_uint64 (x1 : Int) (H : Hp) (K : Value → Hp → Prop) : B_cmp_isNaN_uint64 x1 H K = denF Try.prog Try.f121 .n [(.int .u64 x1)] H K := by kernel_rfl
theorem den_cmp_isNaN_uint64 {x1 : Int} {H : Hp} {K : Value → Hp → Prop} (h : B_cmp_isNaN_uint64 x1 H K) : hcall PR f_cmp_isNaN_uint64 ⟨[(.int .u64 x1)]⟩ H K := denF_call Try.func121 PR_mixed (Eq.mp (E_cmp_isNaN_uint64 x1 H K) h)

end Go.Proofs.Ytknejebggegfjaa

namespace Go.Proofs.Ytknejebggegfjaa
open Go
set_option linter.unusedVariables false
set_option maxRecDepth 100000
def B_math_bits_Len (x1 : Int) (H : Hp) (K : Value → Hp → Prop) : Prop :=
 hcall PR f_math_bits_Len64 ⟨[(.int .u64 x1)]⟩ H fun v2 Hx3 =>
 asI .i64 v2 fun t4 =>
 K (.int .i64 t4) Hx3
theorem E_math_bits_Len (x1 : Int) (H : Hp) (K : Value → Hp → Prop) : B_math_bits_Len x1 H K = denF Try.prog Try.f94 .n [(.int .u64 x1)] H K := by kernel_rfl
theorem den_math_bits_Len {x1 : Int} {H : Hp} {K : Value → Hp → Prop} (h : B_math_bits_Len x1 H K) : hcall PR f_math_bits_Len ⟨[(.int .u64 x1)]⟩ H K := denF_call Try.func94 PR_mixed (Eq.mp (E_math_bits_Len x1 H K) h)

def B_math_bits_Len64 (x1 : Int) (H : Hp) (K : Value → Hp → Prop) : Prop :=
 ∀ R2 : Int → Int → Hp → Prop, (∀ x4 : Int, ∀ n5 : Int, ∀ Hx3 : Hp, (
 ∀ R6 : Int → Int → Hp → Prop, (∀ x8 : Int, ∀ n9 : Int, ∀ Hx7 : Hp, (
 ∀ R10 : Int → Int → Hp → Prop, (∀ x12 : Int, ∀ n13 : Int, ∀ Hx11 : Hp, (
 idxStr ⟨#[0, 1, 2, 2, 3, 3, 3, 3, 4, 4, 4, 4, 4, 4, 4, 4, 5, 5, 5, 5, 5, 5, 5, 5, 5, 5, 5, 5, 5, 5, 5, 5, 6, 6, 6, 6, 6, 6, 6, 6, 6, 6, 6, 6, 6, 6, 6, 6, 6, 6, 6, 6, 6, 6, 6, 6, 6, 6, 6, 6, 6, 6, 6, 6, 7, 7, 7, 7, 7, 7, 7, 7, 7, 7, 7, 7, 7, 7, 7, 7, 7, 7, 7, 7, 7, 7, 7, 7, 7, 7, 7, 7, 7, 7, 7, 7, 7, 7, 7, 7, 7, 7, 7, 7, 7, 7, 7, 7, 7, 7, 7, 7, 7, 7, 7, 7, 7, 7, 7, 7, 7, 7, 7, 7, 7, 7, 7, 7, 8, 8, 8, 8, 8, 8, 8, 8, 8, 8, 8, 8, 8, 8, 8, 8, 8, 8, 8, 8, 8, 8, 8, 8, 8, 8, 8, 8, 8, 8, 8, 8, 8, 8, 8, 8, 8, 8, 8, 8, 8, 8, 8, 8, 8, 8, 8, 8, 8, 8, 8, 8, 8, 8, 8, 8, 8, 8, 8, 8, 8, 8, 8, 8, 8, 8, 8, 8, 8, 8, 8, 8, 8, 8, 8, 8, 8, 8, 8, 8, 8, 8, 8, 8, 8, 8, 8, 8, 8, 8, 8, 8, 8, 8, 8, 8, 8, 8, 8, 8, 8, 8, 8, 8, 8, 8, 8, 8, 8, 8, 8, 8, 8, 8, 8, 8, 8, 8, 8, 8, 8, 8, 8, 8, 8, 8, 8, 8]⟩ (IntKind.u8.wrap x12) fun t14 =>
 K (.int .i64 (IntKind.i64.wrap (n13 + (IntKind.i64.wrap t14)))) Hx11) → R10 x12 n13 Hx11) →
 (bif (decide ((x8 : Int) ≥ 256)) then
 (0 : Int) ≤ 8 ∧
 R10 (shrI .u64 x8 8) (IntKind.i64.wrap (n9 + 8)) Hx7
else
 R10 x8 n9 Hx7)) → R6 x8 n9 Hx7) →
 (bif (decide ((x4 : Int) ≥ 65536)) then
 (0 : Int) ≤ 16 ∧
 R6 (shrI .u64 x4 16) (IntKind.i64.wrap (n5 + 16)) Hx3
else
 R6 x4 n5 Hx3)) → R2 x4 n5 Hx3) →
 (bif (decide ((x1 : Int) ≥ 4294967296)) then
 (0 : Int) ≤ 32 ∧
 R2 (shrI .u64 x1 32) 32 H
else
 R2 x1 0 H)
theorem E_math_bits_Len64 (x1 : Int) (H : Hp) (K : Value → Hp → Prop) : B_math_bits_Len64 x1 H K = denF Try.prog Try.f112 (.seq none .n (.seq (some ⟨[(0, .int .u64), (2, .int .i64)], []⟩) .n (.seq (some ⟨[(0, .int .u64), (2, .int .i64)], []⟩) .n (.seq (some ⟨[(0, .int .u64), (2, .int .i64)], []⟩) .n .n)))) [(.int .u64 x1)] H K := by kernel_rfl
theorem den_math_bits_Len64 {x1 : Int} {H : Hp} {K : Value → Hp → Prop} (h : B_math_bits_Len64 x1 H K) : hcall PR f_math_bits_Len64 ⟨[(.int .u64 x1)]⟩ H K := denF_call Try.func112 PR_mixed (Eq.mp (E_math_bits_Len64 x1 H K) h)

end Go.Proofs.Ytknejebggegfjaa

namespace Go.Proofs.Ytknejebggegfjaa
set_option linter.unusedSimpArgs false
set_option linter.unusedVariables false
open Go
/-- A reference. -/
structure Id where
  n : Int
  s : Int
instance : DecidableEq Id := fun a b => decidable_of_iff (a.n = b.n ∧ a.s = b.s) ⟨fun h => by cases a; cases b; simp_all, fun h => by rw [h]; exact ⟨rfl, rfl⟩⟩
abbrev noId : Id := ⟨0, 0⟩
def Id.cells (x : Id) : List Value := [.int .i64 x.n, .int .u64 x.s]
theorem Id.len (x : Id) : x.cells.length = 2 := rfl
theorem id_ints : intsOf PR ty_api_ID = some [.i64, .u64] := by kernel_rfl
theorem id_guard : PR.eqGuardType PR.depth ty_api_ID = false := by kernel_rfl
theorem idEq {H : Hp} {a b c d : Int} {Q : Value → Prop} (hQ : Q (.bool (decide ((⟨a, b⟩ : Id) = ⟨c, d⟩)))) : evR PR (aggEq .eql ty_api_ID #[.int .i64 a, .int .u64 b] #[.int .i64 c, .int .u64 d]) H Q := by
  refine aggEq_ints (ks := [.i64, .u64]) (ns := [a, b]) (ms := [c, d]) id_ints id_guard rfl rfl ?_
  rw [show decide ([a, b] = [c, d]) = decide ((⟨a, b⟩ : Id) = ⟨c, d⟩) by simp]
  exact hQ
theorem wrap_u64' {n : Int} (h0 : 0 ≤ n) (h1 : n < 18446744073709551616) : IntKind.u64.wrap n = n := by rw [wrap_u64]; omega
/-! ## Stores in a row -/
def sts (b o : Nat) : List Value → Hp → (Hp → Prop) → Prop
  | [], H, K => K H
  | v :: vs, H, K => st ⟨b, o, none⟩ v H fun H' => sts b (o + 1) vs H' K
def setsA (c : Array Value) : Nat → List Value → Array Value
  | _, [] => c
  | o, v :: vs => setsA (c.setIfInBounds o v) (o + 1) vs
theorem setsA_get : ∀ {vs : List Value} {c : Array Value} {o i : Nat}, o + vs.length ≤ c.size → (setsA c o vs)[i]? = if o ≤ i ∧ i < o + vs.length then vs[i - o]? else c[i]?
  | [], c, o, i, h => by simp [setsA]; omega
  | v :: vs, c, o, i, h => by
    unfold setsA
    simp only [List.length_cons] at h
    rw [setsA_get (by simp; omega)]
    simp only [List.length_cons]
    by_cases h1 : o + 1 ≤ i ∧ i < o + 1 + vs.length
    · rw [if_pos h1, if_pos (by omega), show i - o = (i - (o + 1)) + 1 by omega, List.getElem?_cons_succ]
    · rw [if_neg h1, Array.getElem?_setIfInBounds]
      by_cases h2 : o = i
      · subst h2
        rw [if_pos rfl, if_pos (by omega), if_pos (by omega), Nat.sub_self]
        rfl
      · rw [if_neg h2, if_neg (by omega)]
theorem setsA_all {vs : List Value} {c : Array Value} (h : vs.length = c.size) : setsA c 0 vs = vs.toArray := by
  apply Array.ext_getElem?
  intro i
  rw [setsA_get (by omega)]
  by_cases hi : i < vs.length
  · rw [if_pos (by omega)]; simp
  · rw [if_neg (by omega), Array.getElem?_eq_none (by omega), Array.getElem?_eq_none (by simp; omega)]

section
variable {H0 H : Hp} {L M : List Prt} {i : Nat}
theorem St.sets {b : Nat} {e : TypeId} {K : Hp → Prop} : ∀ {vs : List Value} {c : Array Value} {o : Nat} {H : Hp} {L : List Prt}, St H0 L H → L[i]? = some (Prt.one b (.cells c e (0, 0))) → o + vs.length ≤ c.size →
    (∀ H', St H0 (L.set i (Prt.one b (.cells (setsA c o vs) e (0, 0)))) H' → K H') → sts b o vs H K
  | [], c, o, H, L, h, hi, hl, hK => hK H (by unfold setsA; rw [List.set_self hi]; exact h)
  | v :: vs, c, o, H, L, h, hi, hl, hK => by
    unfold sts
    simp only [List.length_cons] at hl
    have hil := ltOfGet hi
    refine h.put hi (by omega) fun H1 h1 => St.sets (o := o + 1) h1 (by simp [hil]; rfl) (by simp; omega) fun H2 h2 => hK H2 ?_
    rw [List.set_set] at h2
    exact h2
/-- A new block, all of it stored. -/
theorem boxs {T : TypeId} {c vs : List Value} {K : Nat → Hp → Prop} (h : St H0 L H) (hl : vs.length = c.length) (hK : ∀ b H', St H0 (Prt.one b (.cells vs.toArray T (0, 0)) :: L) H' → K b H') :
    newB (.cells c.toArray T) H fun b H1 => sts b 0 vs H1 (K b) := by
  intro b hb
  have h1 := h.alloc (o := .cells c.toArray T) hb
  refine St.sets (i := 0) h1 rfl (by simp [hl]) fun H2 h2 => hK b H2 ?_
  rw [setsA_all (by simp [hl])] at h2
  exact h2
end
section
variable {H0 H : Hp} {L M : List Prt} {i j : Nat}
/-- A part is given up. -/
theorem St.void {A : Prt} (h : St H0 L H) (hi : L[i]? = some A) : St H0 (L.set i .nil) H := by
  obtain ⟨Fi, ha, up⟩ := h.at hi
  exact up .nil Nothing H (fun _ h => h) ((Goes.refl Fi H).less fun c h => h.elim)
/-- A new part takes an old one's place. -/
theorem St.over {A B : Prt} (h : St H0 (B :: L) H) (hi : L[i]? = some A) : St H0 (L.set i B) H := by
  have h1 := St.void (i := i + 1) h hi
  have h2 := St.shutAt (L := L.set i .nil) (i := i) h1 (set_nil_get hi)
  rwa [List.set_set] at h2
end
/-! ## Rising lists -/
def put1 (x : Int) : List Int → List Int
  | [] => [x]
  | y :: l => if x ≤ y then x :: y :: l else y :: put1 x l
def rise1 : List Int → List Int
  | [] => []
  | x :: l => put1 x (rise1 l)
theorem put1_perm {x : Int} : ∀ {l : List Int}, (put1 x l).Perm (x :: l)
  | [] => List.Perm.refl _
  | y :: l => by
    unfold put1
    split
    · exact List.Perm.refl _
    · exact ((put1_perm (l := l)).cons y).trans (List.Perm.swap x y l)
theorem rise1_perm : ∀ {l : List Int}, (rise1 l).Perm l
  | [] => List.Perm.refl _
  | x :: l => put1_perm.trans (rise1_perm.cons x)
theorem put1_rise {x : Int} : ∀ {l : List Int}, l.Pairwise (· ≤ ·) → (put1 x l).Pairwise (· ≤ ·)
  | [], _ => by simp [put1]
  | y :: l, h => by
    unfold put1
    rw [List.pairwise_cons] at h
    split
    · rename_i hxy
      refine List.pairwise_cons.2 ⟨fun z hz => ?_, List.pairwise_cons.2 h⟩
      rcases List.mem_cons.1 hz with rfl | hz
      · exact hxy
      · have := h.1 z hz; omega
    · rename_i hxy
      refine List.pairwise_cons.2 ⟨fun z hz => ?_, put1_rise h.2⟩
      rcases List.mem_cons.1 (put1_perm.mem_iff.1 hz) with rfl | hz
      · omega
      · exact h.1 z hz
theorem rise1_rise : ∀ {l : List Int}, (rise1 l).Pairwise (· ≤ ·)
  | [] => List.Pairwise.nil
  | x :: l => put1_rise rise1_rise
theorem rise_eq : ∀ {l m : List Int}, l.Perm m → l.Pairwise (· ≤ ·) → m.Pairwise (· ≤ ·) → l = m
  | [], m, hp, _, _ => (List.nil_perm.1 hp).symm
  | a :: l, [], hp, _, _ => by have := hp.length_eq; simp at this
  | a :: l, b :: m, hp, hl, hm => by
    rw [List.pairwise_cons] at hl hm
    have e : a = b := by
      have h1 : a ∈ b :: m := hp.mem_iff.1 (by simp)
      have h2 : b ∈ a :: l := hp.mem_iff.2 (by simp)
      rcases List.mem_cons.1 h1 with h1 | h1
      · exact h1
      · rcases List.mem_cons.1 h2 with h2 | h2
        · exact h2.symm
        · have := hl.1 b h2
          have := hm.1 a h1
          omega
    subst e
    rw [rise_eq ((List.perm_cons a).1 hp) hl.2 hm.2]
theorem rise_is {l m : List Int} (hp : m.Perm l) (hm : m.Pairwise (· ≤ ·)) : m = rise1 l := rise_eq (hp.trans rise1_perm.symm) hm rise1_rise

/-! ## slices.Sort of few ints -/
/-- Inserting goes on: all but the one at j stand in order. -/
structure Ins (l0 l : List Int) (i j : Nat) : Prop where
  perm : l.Perm l0
  hole : ∀ a b : Nat, a < b → b ≤ i → a ≠ j → b ≠ j → l.getD a 0 ≤ l.getD b 0
  above : ∀ b : Nat, j < b → b ≤ i → l.getD j 0 ≤ l.getD b 0
def Up (l : List Int) (i : Nat) : Prop := ∀ a b : Nat, a < b → b < i → l.getD a 0 ≤ l.getD b 0
theorem getD_set {l : List Int} {k a : Nat} {v : Int} (hk : k < l.length) : (l.set k v).getD a 0 = if a = k then v else l.getD a 0 := by
  rw [List.getD_eq_getElem?_getD, List.getElem?_set, List.getD_eq_getElem?_getD]
  by_cases e : k = a
  · subst e; rw [if_pos rfl, if_pos hk, if_pos rfl]; rfl
  · rw [if_neg e, if_neg (Ne.symm e)]
theorem swap_get {l : List Int} {j a : Nat} (hj : j + 1 < l.length) : ((l.set (j + 1) (l.getD j 0)).set j (l.getD (j + 1) 0)).getD a 0 = if a = j then l.getD (j + 1) 0 else if a = j + 1 then l.getD j 0 else l.getD a 0 := by
  rw [getD_set (by simp; omega), getD_set (by omega)]
theorem swap_perm {l : List Int} {j : Nat} (hj : j + 1 < l.length) : ((l.set (j + 1) (l.getD j 0)).set j (l.getD (j + 1) 0)).Perm l := by
  have e1 : l = l.take j ++ l.getD j 0 :: l.getD (j + 1) 0 :: l.drop (j + 2) := by
    have h1 : l.getD j 0 = l[j] := by rw [List.getD_eq_getElem?_getD, List.getElem?_eq_getElem (by omega)]; rfl
    have h2 : l.getD (j + 1) 0 = l[j + 1] := by rw [List.getD_eq_getElem?_getD, List.getElem?_eq_getElem hj]; rfl
    rw [h1, h2, List.getElem_cons_drop, List.getElem_cons_drop, List.take_append_drop]
  have hl : (l.take j).length = j := by rw [List.length_take]; omega
  generalize ha : l.getD j 0 = a at *
  generalize hb : l.getD (j + 1) 0 = b at *
  have e2 : (l.set (j + 1) a).set j b = l.take j ++ b :: a :: l.drop (j + 2) := by
    conv => lhs; rw [e1]
    rw [List.set_append_right (j + 1) a (by omega), hl, Nat.add_sub_cancel_left, List.set_append_right j b (by omega), hl, Nat.sub_self]
    rfl
  rw [e2]
  conv => rhs; rw [e1]
  exact List.Perm.append_left _ (List.Perm.swap a b _)

section
variable {H0 H : Hp} {L M : List Prt} {i : Nat}
set_option maxRecDepth 100000 in
theorem bitsLen_small {n : Nat} {K : Value → Hp → Prop} (hn : n ≤ 12) (hK : ∀ n : Int, K (.int .i64 n) H) : hcall PR f_math_bits_Len ⟨[.int .u64 (n : Int)]⟩ H K := by
  apply den_math_bits_Len
  unfold B_math_bits_Len
  apply den_math_bits_Len64
  unfold B_math_bits_Len64
  intro R2 hR2
  refine bif_neg (by omega) (hR2 _ _ _ ?_)
  intro R6 hR6
  refine bif_neg (by omega) (hR6 _ _ _ ?_)
  intro R10 hR10
  refine bif_neg (by omega) (hR10 _ _ _ ?_)
  have : n = 0 ∨ n = 1 ∨ n = 2 ∨ n = 3 ∨ n = 4 ∨ n = 5 ∨ n = 6 ∨ n = 7 ∨ n = 8 ∨ n = 9 ∨ n = 10 ∨ n = 11 ∨ n = 12 := by omega
  rcases this with rfl | rfl | rfl | rfl | rfl | rfl | rfl | rfl | rfl | rfl | rfl | rfl | rfl
  all_goals
    refine ⟨by decide, ?_⟩
    exact hK _
end
end Go.Proofs.Ytknejebggegfjaa

namespace Go.Proofs.Ytknejebggegfjaa
set_option linter.unusedSimpArgs false
set_option linter.unusedVariables false
open Go
/-- An item. -/
structure It where
  inn : Bool
  node : Int
  id : Id
  code : Int
instance : Inhabited It := ⟨⟨false, 0, noId, 0⟩⟩
abbrev noIt : It := ⟨false, 0, noId, 0⟩
def It.cells (x : It) : List Value := [.bool x.inn, .int .i64 x.node, .int .i64 x.id.n, .int .u64 x.id.s, .int .i64 x.code]
theorem It.len (x : It) : x.cells.length = 5 := rfl
/-- The same item, whatever was told of it. -/
def It.same (a b : It) : Bool := (a.inn == b.inn) && decide (a.node = b.node) && decide (a.id = b.id)
/-- A trace. -/
structure Tr where
  node : Int
  num : Int
  found : Int
  st : Int
  items : List It
  sm : List (Int × Int)
  opn : Int
  todo : List Int
  sent : Int
  wait : Int
/-- A question. -/
structure Qn where
  kind : Int
  frm : Int
  to : Int
  call : Int
  op : Int
  item : Int
  tgt : Id
  stamp : Int

def Tr.over (t : Tr) : Tr := { t with st := 0, items := [], sm := [], todo := [], opn := 0, sent := 0, wait := 0 }
def Tr.finds (t : Tr) : Tr := Tr.over { t with found := IntKind.i64.wrap (t.found + 1) }
def Tr.next (t : Tr) : Tr := { t with opn := IntKind.i64.wrap (t.opn + 1), sent := 0, wait := 0 }
def lWait (w a b : Int) : Int := if w = 0 then (if b < a then b else a) else if w > IntKind.u64.wrap (Int.tdiv b 2) then b else IntKind.u64.wrap (2 * w)
def pastB (a s n : Int) : Bool := decide (n ≥ a) && decide (IntKind.u64.wrap (n - a) ≥ s)
def Tr.q (t : Tr) : Qn :=
  if t.st = 1 then ⟨8, t.node, (t.items.getD t.opn.toNat noIt).node, t.num, if (t.items.getD t.opn.toNat noIt).inn then 1 else 2, t.opn, (t.items.getD t.opn.toNat noIt).id, 0⟩
  else if t.st = 2 then ⟨8, t.node, t.todo.getD 0 0, t.num, 3, t.opn, noId, 0⟩
  else ⟨10, t.node, (t.items.getD (t.todo.getD 0 0).toNat noIt).node, t.num, 0, t.opn, (t.items.getD (t.todo.getD 0 0).toNat noIt).id, (mlook t.sm (t.items.getD (t.todo.getD 0 0).toNat noIt).node).getD 0⟩
def Tr.told (t : Tr) (a b now : Int) : Tr := { t with sent := now, wait := lWait t.wait a b }
/-- What an answer leads to. -/
def moreIt (nodes : Int) (x : It) (n : Int) : Option It :=
  if n < 1 then none else if n > 72057594037927935 then none else if x.inn then (if n > nodes then none else if n = x.id.n then none else some ⟨false, n, x.id, 0⟩) else some ⟨true, x.node, ⟨x.node, n⟩, 0⟩
def moreL (nodes : Int) (x : It) : List Int → List It → Bool × List It
  | [], l => (true, l)
  | n :: r, l => match moreIt nodes x n with
    | none => (false, l)
    | some y => if l.any (fun z => z.same y) then moreL nodes x r l else if 1000 ≤ l.length then (false, l) else moreL nodes x r (l ++ [y])
def Tr.onward (t : Tr) : Tr :=
  if (t.next).opn < t.items.length then t.next
  else if t.sm.length = 0 then Tr.finds t.next else { t.next with todo := rise1 (t.sm.map (·.1)), st := 2 }
def Tr.code (t : Tr) (c : Int) : Tr := { t with items := t.items.set t.opn.toNat { t.items.getD t.opn.toNat noIt with code := c } }
def Tr.asked (nodes : Int) (t : Tr) (code stamp : Int) (l : List Int) : Tr :=
  if code = 0 then (t.code 0).onward
  else if code = 2 then
    if (mlook t.sm (t.items.getD t.opn.toNat noIt).node).isSome ∧ (mlook t.sm (t.items.getD t.opn.toNat noIt).node).getD 0 ≠ stamp then t.over
    else if (moreL nodes (t.items.getD t.opn.toNat noIt) l (t.code 2).items).1 = false then t.over
    else Tr.onward { t with items := (moreL nodes (t.items.getD t.opn.toNat noIt) l (t.code 2).items).2, sm := mput t.sm (t.items.getD t.opn.toNat noIt).node stamp }
  else t.over
/-- The items that are to be buried, by place. -/
def buryFrom : Nat → List It → List Int
  | _, [] => []
  | k, x :: l => if x.inn = true ∧ x.code = 2 then (k : Int) :: buryFrom (k + 1) l else buryFrom (k + 1) l
def Tr.checked (t : Tr) (stamp : Int) : Tr :=
  if stamp ≠ (mlook t.sm (t.todo.getD 0 0)).getD 0 then t.over
  else if 1 < t.todo.length then { t.next with todo := t.todo.tail }
  else if (buryFrom 0 t.items).length = 0 then Tr.finds t.next
  else { t.next with todo := buryFrom 0 t.items, st := 3 }
def Tr.buried (t : Tr) : Tr := if t.todo.length ≤ 1 then Tr.finds t.next else { t.next with todo := t.todo.tail }
/-- What is heard. -/
structure Ms where
  kind : Int
  frm : Int
  to : Int
  call : Int
  item : Int
  code : Int
  stamp : Int
  list : List Int
def Tr.heeds (t : Tr) (m : Ms) : Bool := !decide (t.st = 0) && (decide (m.kind = if t.st = 3 then 11 else 9) && (decide (m.call = t.q.call) && (decide (m.item = t.q.item) && (decide (m.frm = t.q.to) && decide (m.to = t.node)))))
def Tr.hear (nodes : Int) (t : Tr) (m : Ms) : Tr :=
  if t.heeds m = false then t else if t.st = 1 then t.asked nodes m.code m.stamp m.list else if t.st = 2 then t.checked m.stamp else t.buried

/-- What holds of a trace. -/
structure Tr.ok (nodes : Int) (t : Tr) : Prop where
  st : 0 ≤ t.st ∧ t.st ≤ 3
  items : t.items.length ≤ 1000
  nds : ∀ x ∈ t.items, 1 ≤ x.node ∧ x.node ≤ nodes
  sm : mnod t.sm
  keys : ∀ e ∈ t.sm, 1 ≤ e.1 ∧ e.1 ≤ nodes
  one : t.st = 1 → 0 ≤ t.opn ∧ t.opn < t.items.length ∧ t.todo = []
  two : t.st = 2 → t.todo ≠ [] ∧ t.todo.length ≤ 64
  three : t.st = 3 → t.todo ≠ [] ∧ t.todo.length ≤ 1000 ∧ ∀ i ∈ t.todo, 0 ≤ i ∧ i < t.items.length
section
variable {nodes : Int} {t : Tr}
theorem Tr.over_ok : t.over.ok nodes := ⟨by simp [Tr.over], by simp [Tr.over], fun x hx => (by cases hx), List.Pairwise.nil, fun e he => (by cases he), fun h => absurd h (by simp [Tr.over]), fun h => absurd h (by simp [Tr.over]), fun h => absurd h (by simp [Tr.over])⟩
theorem Tr.finds_ok : t.finds.ok nodes := Tr.over_ok
theorem mput_in {l : List (Int × Int)} {k v : Int} {e : Int × Int} (h : e ∈ mput l k v) : e = (k, v) ∨ e ∈ l := by
  unfold mput at h
  split at h
  · obtain ⟨a, ha, rfl⟩ := List.mem_map.1 h
    split
    · exact .inl rfl
    · exact .inr ha
  · rcases List.mem_append.1 h with h | h
    · exact .inr h
    · simp at h; exact .inl h
theorem keys_few {l : List (Int × Int)} {k : Nat} (hn : mnod l) (h : ∀ e ∈ l, 1 ≤ e.1 ∧ e.1 ≤ (k : Int)) : l.length ≤ k := by
  induction k generalizing l with
  | zero =>
    cases l with
    | nil => simp
    | cons a l => have := h a (by simp); omega
  | succ k ih =>
    have h1 := ih (l := l.filter fun e => decide (e.1 ≠ ((k + 1 : Nat) : Int))) (by
      unfold mnod at hn ⊢
      exact hn.sublist (List.filter_sublist.map _)) fun e he => by
      rw [List.mem_filter] at he
      have := h e he.1
      have : e.1 ≠ ((k + 1 : Nat) : Int) := by simpa using he.2
      omega
    have h2 : l.length ≤ (l.filter fun e => decide (e.1 ≠ ((k + 1 : Nat) : Int))).length + 1 := by
      clear h1 h ih
      induction l with
      | nil => simp
      | cons a l ih =>
        unfold mnod at hn ih
        rw [List.map_cons, List.nodup_cons] at hn
        by_cases e : a.1 = ((k + 1 : Nat) : Int)
        · rw [List.filter_cons_of_neg (by simpa using e)]
          have : l.filter (fun e => decide (e.1 ≠ ((k + 1 : Nat) : Int))) = l := List.filter_eq_self.2 fun b hb => by
            have : b.1 ≠ a.1 := fun e => hn.1 (e ▸ List.mem_map.2 ⟨b, hb, rfl⟩)
            rw [e] at this
            simpa using this
          rw [this]; simp
        · rw [List.filter_cons_of_pos (by simpa using e)]
          have := ih hn.2
          simp only [List.length_cons]
          omega
    omega
theorem bury_mem : ∀ {l : List It} {k : Nat} {i : Int}, i ∈ buryFrom k l → (k : Int) ≤ i ∧ i < (k : Int) + l.length
  | [], k, i, h => by cases h
  | x :: l, k, i, h => by
    unfold buryFrom at h
    simp only [List.length_cons]
    split at h
    · rcases List.mem_cons.1 h with rfl | h
      · omega
      · have := bury_mem h; omega
    · have := bury_mem h; omega
theorem bury_len : ∀ {l : List It} {k : Nat}, (buryFrom k l).length ≤ l.length
  | [], _ => Nat.le_refl _
  | x :: l, k => by
    unfold buryFrom
    have := bury_len (l := l) (k := k + 1)
    split <;> simp only [List.length_cons] <;> omega
theorem more_ok {x : It} (hx : 1 ≤ x.node ∧ x.node ≤ nodes) : ∀ {r : List Int} {l : List It}, l.length ≤ 1000 → (∀ y ∈ l, 1 ≤ y.node ∧ y.node ≤ nodes) → (moreL nodes x r l).2.length ≤ 1000 ∧ (∀ y ∈ (moreL nodes x r l).2, 1 ≤ y.node ∧ y.node ≤ nodes) ∧ l.length ≤ (moreL nodes x r l).2.length
  | [], l, h1, h2 => ⟨h1, h2, Nat.le_refl _⟩
  | n :: r, l, h1, h2 => by
    unfold moreL
    split
    · exact ⟨h1, h2, Nat.le_refl _⟩
    · rename_i y hy
      split
      · exact more_ok hx h1 h2
      · split
        · exact ⟨h1, h2, Nat.le_refl _⟩
        · have hyn : 1 ≤ y.node ∧ y.node ≤ nodes := by
            unfold moreIt at hy
            split at hy
            · cases hy
            · split at hy
              · cases hy
              · split at hy
                · split at hy
                  · cases hy
                  · split at hy
                    · cases hy
                    · cases hy; exact ⟨by simp only; omega, by simp only; omega⟩
                · cases hy; exact hx
          have := more_ok hx (r := r) (l := l ++ [y]) (by simp; omega) fun z hz => by
            rcases List.mem_append.1 hz with hz | hz
            · exact h2 z hz
            · simp at hz; rw [hz]; exact hyn
          refine ⟨this.1, this.2.1, ?_⟩
          have := this.2.2
          simp at this
          omega
theorem Tr.ok.onward (hn : 1 ≤ nodes ∧ nodes ≤ 12) (h : t.ok nodes) (h1 : t.st = 1) : t.onward.ok nodes := by
  obtain ⟨o1, o2, o3⟩ := h.one h1
  have hi := h.items
  have hw : t.next.opn = t.opn + 1 := by unfold Tr.next; exact wrap_i64 (by omega) (by omega)
  unfold Tr.onward
  split
  · rename_i hlt
    exact ⟨h.st, h.items, h.nds, h.sm, h.keys, fun _ => ⟨by rw [hw]; omega, hlt, o3⟩, fun h2 => absurd h2 (by show ¬ t.st = 2; omega), fun h3 => absurd h3 (by show ¬ t.st = 3; omega)⟩
  · split
    · exact Tr.finds_ok
    · rename_i hs
      have hk := keys_few (k := nodes.toNat) h.sm fun e he => by have := h.keys e he; omega
      have hp := rise1_perm (l := t.sm.map (·.1))
      have hpl := hp.length_eq
      rw [List.length_map] at hpl
      refine ⟨by simp, h.items, h.nds, h.sm, h.keys, fun h2 => absurd h2 (by simp), fun _ => ⟨fun e => ?_, by simp only; omega⟩, fun h3 => absurd h3 (by simp)⟩
      simp only at e
      rw [e] at hpl
      simp at hpl
      omega
theorem Tr.code_ok {c : Int} (h : t.ok nodes) (h1 : t.st = 1) : (t.code c).ok nodes := by
  obtain ⟨o1, o2, o3⟩ := h.one h1
  refine ⟨h.st, by simp [Tr.code]; exact h.items, fun x hx => ?_, h.sm, h.keys, fun _ => ⟨o1, by simp [Tr.code]; omega, o3⟩, fun h2 => absurd h2 (by show ¬ t.st = 2; omega), fun h3 => absurd h3 (by show ¬ t.st = 3; omega)⟩
  unfold Tr.code at hx
  rcases List.mem_or_eq_of_mem_set hx with hx | rfl
  · exact h.nds x hx
  · simp only
    have hm : t.items.getD t.opn.toNat noIt ∈ t.items := by
      rw [List.getD_eq_getElem?_getD, List.getElem?_eq_getElem (by omega)]
      exact List.getElem_mem _
    exact h.nds _ hm
theorem Tr.ok.asked (hn : 1 ≤ nodes ∧ nodes ≤ 12) (h : t.ok nodes) (h1 : t.st = 1) {code stamp : Int} {l : List Int} : (t.asked nodes code stamp l).ok nodes := by
  obtain ⟨o1, o2, o3⟩ := h.one h1
  have hm : t.items.getD t.opn.toNat noIt ∈ t.items := by
    rw [List.getD_eq_getElem?_getD, List.getElem?_eq_getElem (by omega)]
    exact List.getElem_mem _
  have hx := h.nds _ hm
  unfold Tr.asked
  split
  · exact (Tr.code_ok h h1).onward hn h1
  · split
    · split
      · exact Tr.over_ok
      · split
        · exact Tr.over_ok
        · have hc := Tr.code_ok (c := 2) h h1
          have hmo := more_ok hx (r := l) hc.items hc.nds
          have hcl : (t.code 2).items.length = t.items.length := by simp [Tr.code]
          refine Tr.ok.onward hn ⟨h.st, hmo.1, hmo.2.1, mput_nod h.sm _ _, fun e he => ?_, fun _ => ⟨o1, by simp only; omega, o3⟩, fun h2 => absurd h2 (by show ¬ t.st = 2; omega), fun h3 => absurd h3 (by show ¬ t.st = 3; omega)⟩ h1
          rcases mput_in he with rfl | he
          · exact hx
          · exact h.keys e he
    · exact Tr.over_ok
theorem Tr.ok.checked (h : t.ok nodes) (h2 : t.st = 2) {stamp : Int} : (t.checked stamp).ok nodes := by
  obtain ⟨o1, o2⟩ := h.two h2
  unfold Tr.checked
  split
  · exact Tr.over_ok
  · split
    · rename_i hl
      refine ⟨h.st, h.items, h.nds, h.sm, h.keys, fun h3 => absurd h3 (by show ¬ t.st = 1; omega), fun _ => ⟨fun e => ?_, by simp only [List.length_tail]; omega⟩, fun h3 => absurd h3 (by show ¬ t.st = 3; omega)⟩
      have := congrArg List.length e
      simp at this
      omega
    · split
      · exact Tr.finds_ok
      · rename_i hb
        have := bury_len (l := t.items) (k := 0)
        have hi := h.items
        refine ⟨by simp, h.items, h.nds, h.sm, h.keys, fun h3 => absurd h3 (by simp), fun h3 => absurd h3 (by simp), fun _ => ⟨fun e => hb (by rw [show buryFrom 0 t.items = [] from e]; rfl), by simp only; omega, fun i hi => ?_⟩⟩
        have := bury_mem hi
        show 0 ≤ i ∧ i < (t.items.length : Int)
        omega
theorem Tr.ok.buried (h : t.ok nodes) (h3 : t.st = 3) : t.buried.ok nodes := by
  obtain ⟨o1, o2, o3⟩ := h.three h3
  unfold Tr.buried
  split
  · exact Tr.finds_ok
  · rename_i hl
    refine ⟨h.st, h.items, h.nds, h.sm, h.keys, fun h2 => absurd h2 (by show ¬ t.st = 1; omega), fun h2 => absurd h2 (by show ¬ t.st = 2; omega), fun _ => ⟨fun e => ?_, by simp only [List.length_tail]; omega, fun i hi => o3 i (List.mem_of_mem_tail hi)⟩⟩
    have := congrArg List.length e
    simp at this
    omega
theorem Tr.ok.hear (hn : 1 ≤ nodes ∧ nodes ≤ 12) (h : t.ok nodes) {m : Ms} : (t.hear nodes m).ok nodes := by
  unfold Tr.hear
  split
  · exact h
  · rename_i hh
    split
    · rename_i h1; exact h.asked hn h1
    · split
      · rename_i h2; exact h.checked h2
      · rename_i h1 h2
        have h0 : t.st ≠ 0 := fun e => hh (by unfold Tr.heeds; rw [e]; rfl)
        have := h.st
        exact h.buried (by omega)
theorem Tr.ok.told (h : t.ok nodes) {a b now : Int} : (t.told a b now).ok nodes := ⟨h.st, h.items, h.nds, h.sm, h.keys, h.one, h.two, h.three⟩
end
end Go.Proofs.Ytknejebggegfjaa

namespace Go.Proofs.Ytknejebggegfjaa
open Go
set_option linter.unusedVariables false
set_option maxRecDepth 100000
end Go.Proofs.Ytknejebggegfjaa

namespace Go.Proofs.Ytknejebggegfjaa
open Go
set_option linter.unusedVariables false
set_option maxRecDepth 100000
end Go.Proofs.Ytknejebggegfjaa

namespace Go.Proofs.Ytknejebggegfjaa
open Go
set_option linter.unusedVariables false
set_option maxRecDepth 100000
end Go.Proofs.Ytknejebggegfjaa

namespace Go.Proofs.Ytknejebggegfjaa
set_option linter.unusedSimpArgs false
set_option linter.unusedVariables false
open Go
/-- A config. -/
structure Cf where
  a0 : Int
  a1 : Int
  a2 : Int
  a3 : Int
  a4 : Int
  a5 : Int
  a6 : Int
  a7 : Int
  a8 : Int
  a9 : Int
  a10 : Int
  a11 : Int
  a12 : Int
  a13 : Int
  a14 : Int
  a15 : Int
  a16 : Int
  a17 : Int
  a18 : Int
  a19 : Int
  a20 : Int
  a21 : Int
def Cf.val (c : Cf) : Value := .agg #[.int .i64 c.a0, .int .i64 c.a1, .int .i64 c.a2, .int .i64 c.a3, .int .i64 c.a4, .int .i64 c.a5, .int .i64 c.a6, .int .i64 c.a7, .int .i64 c.a8, .int .i64 c.a9, .int .i64 c.a10, .int .u64 c.a11, .int .u64 c.a12, .int .u64 c.a13, .int .u64 c.a14, .int .u64 c.a15, .int .u64 c.a16, .int .i64 c.a17, .int .i64 c.a18, .int .i64 c.a19, .int .u64 c.a20, .int .u64 c.a21]
structure TrX where
  ip : Option Addr
  ic : Nat
  mb : Nat
  tp : Option Addr
  tc : Nat
  T : Nat
def Qn.val (q : Qn) : Value := .agg #[.int .i64 q.kind, .int .i64 q.frm, .int .i64 q.to, .int .u64 q.call, .int .u64 0, .int .i64 q.op, .int .i64 0, .int .i64 q.item, .int .i64 q.tgt.n, .int .u64 q.tgt.s, .slice none 0 0, .int .u64 0, .int .i64 0, .int .u64 0, .int .i64 0, .int .u64 0, .int .i64 0, .int .u64 q.stamp, .slice none 0 0]
def Qn.cells (q : Qn) : List Value := [.int .i64 q.kind, .int .i64 q.frm, .int .i64 q.to, .int .u64 q.call, .int .u64 0, .int .i64 q.op, .int .i64 0, .int .i64 q.item, .int .i64 q.tgt.n, .int .u64 q.tgt.s, .slice none 0 0, .int .u64 0, .int .i64 0, .int .u64 0, .int .i64 0, .int .u64 0, .int .i64 0, .int .u64 q.stamp, .slice none 0 0]

section
variable {H0 H : Hp} {L M : List Prt} {i k tb : Nat} {c : Cf} {t : Tr} {x : TrX} {mv : Value} {mp : Prt} {F : Prop} {K : Value → Hp → Prop}
end
end Go.Proofs.Ytknejebggegfjaa

namespace Go.Proofs.Ytknejebggegfjaa
set_option linter.unusedSimpArgs false
set_option linter.unusedVariables false
open Go
section
variable {H0 H : Hp} {L M : List Prt} {i k tb : Nat} {c : Cf} {t : Tr} {x : TrX} {mv : Value} {mp : Prt} {F : Prop} {K : Value → Hp → Prop}
theorem St.one_rd (h : St H0 L H) {b n k : Nat} {c : Array Value} {e : TypeId} (hi : L[i]? = some (Prt.one b (.cells c e (0, 0)))) (hs : c.size = n * k) : Rd H k (some ⟨b, 0, none⟩) n c.toList := by
  have hb := h.one hi
  exact (show Own H k (some ⟨b, 0, none⟩) n n c.toList from ⟨by simpa using hs, Nat.le_refl _, rfl, c, e, hb, by simp only [hs]; omega, fun i _ => by simp⟩).rd
theorem it_same {a b : It} : a.same b = true ↔ a.inn = b.inn ∧ a.node = b.node ∧ a.id = b.id := by
  unfold It.same
  rw [Bool.and_eq_true, Bool.and_eq_true, beq_iff_eq, decide_eq_true_iff, decide_eq_true_iff, and_assoc]
end
end Go.Proofs.Ytknejebggegfjaa

namespace Go.Proofs.Ytknejebggegfjaa
set_option linter.unusedSimpArgs false
set_option linter.unusedVariables false
open Go
section
variable {H0 H : Hp} {L M : List Prt} {i k tb : Nat} {c : Cf} {t : Tr} {x : TrX} {m : Ms} {F : Prop} {K : Value → Hp → Prop}
end
end Go.Proofs.Ytknejebggegfjaa

namespace Go.Proofs.Ytknejebggegfjaa
set_option linter.unusedSimpArgs false
set_option linter.unusedVariables false
open Go
section
variable {H0 H : Hp} {L M N : List Prt} {i k tb : Nat} {c : Cf} {t : Tr} {x : TrX} {m : Ms} {mv : Value} {mp : Prt} {F : Prop} {K : Value → Hp → Prop}
end
end Go.Proofs.Ytknejebggegfjaa

namespace Go.Proofs.Ytknejebggegfjaa
set_option linter.unusedSimpArgs false
set_option linter.unusedVariables false
open Go
def Tr.asks (t : Tr) (now : Int) : Bool := !decide (t.st = 0) && pastB t.sent t.wait now
def Tr.begun (t : Tr) (n s now : Int) : Tr := { t with num := IntKind.u64.wrap (t.num + 1), st := 1, items := [⟨false, t.node, ⟨n, s⟩, 0⟩], sm := [], opn := 0, todo := [], sent := now, wait := 0 }
def newTr (node last : Int) : Tr := ⟨node, last, 0, 0, [], [], 0, [], 0, 0⟩
theorem Tr.begun_ok {nodes : Int} {t : Tr} {n s now : Int} (h : 1 ≤ t.node ∧ t.node ≤ nodes) : (t.begun n s now).ok nodes :=
  ⟨by simp [Tr.begun], by simp [Tr.begun], fun x hx => (by simp [Tr.begun] at hx; rw [hx]; exact h), List.Pairwise.nil, fun e he => (by cases he), fun _ => ⟨by simp [Tr.begun], by simp [Tr.begun], rfl⟩, fun h => absurd h (by simp [Tr.begun]), fun h => absurd h (by simp [Tr.begun])⟩

section
variable {H0 H : Hp} {L M N : List Prt} {i k tb : Nat} {c : Cf} {t : Tr} {m : Ms} {K : Value → Hp → Prop}
end
end Go.Proofs.Ytknejebggegfjaa

namespace Go.Proofs.Ytknejebggegfjaa
set_option linter.unusedSimpArgs false
set_option linter.unusedVariables false
set_option maxRecDepth 20000
open Go
section
variable {H0 H : Hp} {L M N : List Prt} {i k tb : Nat} {r c : Cf} {K : Value → Hp → Prop}
end
end Go.Proofs.Ytknejebggegfjaa

namespace Go.Proofs.Ytknejebggegfjaa
open Go
set_option linter.unusedVariables false
set_option maxRecDepth 100000
end Go.Proofs.Ytknejebggegfjaa

namespace Go.Proofs.Ytknejebggegfjaa
set_option linter.unusedSimpArgs false
set_option linter.unusedVariables false
set_option maxRecDepth 20000
open Go
section
variable {H0 H : Hp} {L M N : List Prt} {i k tb : Nat} {c : Cf} {t : Tr} {K : Value → Hp → Prop}
/-- Cells written one behind the other, and no more than that. -/
def stz (b : Nat) : Nat → List Value → Hp → (Hp → Prop) → Prop
  | _, [], H, K => K H
  | o, [v], H, K => st ⟨b, o, none⟩ v H K
  | o, v :: w :: r, H, K => st ⟨b, o, none⟩ v H fun H' => stz b (o + 1) (w :: r) H' K
theorem stz_of {b : Nat} : ∀ {vs : List Value} {o : Nat} {H : Hp} {K : Hp → Prop}, sts b o vs H K → stz b o vs H K
  | [], _, _, _, h => h
  | [v], o, H, K, h => h
  | v :: w :: r, o, H, K, h => by
    have h : st ⟨b, o, none⟩ v H fun H' => sts b (o + 1) (w :: r) H' K := h
    show st ⟨b, o, none⟩ v H fun H' => stz b (o + 1) (w :: r) H' K
    unfold st at h ⊢
    split at h
    · exact ⟨h.1, h.2.1, h.2.2.1, stz_of h.2.2.2⟩
    · exact h
theorem boxz {T : TypeId} {c vs : List Value} {K : Nat → Hp → Prop} (h : St H0 L H) (hl : vs.length = c.length) (hK : ∀ b H', St H0 (Prt.one b (.cells vs.toArray T (0, 0)) :: L) H' → K b H') :
    newB (.cells c.toArray T) H fun b H1 => stz b 0 vs H1 (K b) := by
  intro b hb
  exact stz_of (boxs (T := T) (c := c) (vs := vs) (K := K) h hl hK b hb)
theorem numbersC {p p' : Option Addr} {n a n' b : Nat} {l l' : List Int} (h1 : Rd H 1 p n (l.map (Value.int .u64))) (h2 : Rd H 1 p' n' (l'.map (Value.int .u64))) (hn : n ≤ 9223372036854775807) (hn' : n' ≤ 9223372036854775807) (h : K (.bool (decide (l = l'))) H) : hcall PR f_ref2_Numbers ⟨[.slice p n a, .slice p' n' b]⟩ H K := by
  apply den_ref2_Numbers
  unfold B_ref2_Numbers
  have e1 : l.length = n := by simpa using h1.1
  have e2 : l'.length = n' := by simpa using h2.1
  by_cases hc : (n : Int) = n'
  rotate_left
  · rw [decide_eq_false (by rintro rfl; omega)] at h
    exact bif_neq hc h
  have hc : n = n' := by omega
  subst hc
  refine bif_neqf rfl ⟨fun q H' => H' = H ∧ ∃ m : Nat, q = m ∧ m ≤ n ∧ l.take m = l'.take m, fun q _ => ((n : Int) - q).toNat, ⟨rfl, 0, rfl, by omega, rfl⟩, ?_⟩
  rintro q H' ⟨rfl, m, rfl, hm, ht⟩
  by_cases hml : (m : Int) < (n : Int)
  · refine bif_pos hml (idx1 (d := (0 : Int)) h1 (by omega) hml fun b o _ c1 => ldI_of c1 (idx1 (d := (0 : Int)) h2 (by omega) hml fun b' o' _ c2 => ldI_of c2 ?_))
    rw [Int.toNat_natCast]
    have ha : m < l.length := by omega
    have hb : m < l'.length := by omega
    have ga : l.getD m 0 = l[m] := by rw [List.getD_eq_getElem?_getD, List.getElem?_eq_getElem ha]; rfl
    have gb : l'.getD m 0 = l'[m] := by rw [List.getD_eq_getElem?_getD, List.getElem?_eq_getElem hb]; rfl
    by_cases hv : l.getD m 0 = l'.getD m 0
    · refine bif_neqf hv ?_
      rw [wrap_i64 (by omega) (by omega)]
      refine ⟨⟨rfl, m + 1, by omega, by omega, ?_⟩, by (try dsimp only); omega⟩
      rw [List.take_succ_eq_append_getElem ha, List.take_succ_eq_append_getElem hb, ht, ← ga, ← gb, hv]
    · rw [decide_eq_false (by rintro rfl; exact hv rfl)] at h
      exact bif_neq hv h
  · refine bif_neg hml ?_
    rw [List.take_of_length_le (by omega), List.take_of_length_le (by omega)] at ht
    rw [decide_eq_true ht] at h
    exact h
end
end Go.Proofs.Ytknejebggegfjaa

namespace Go.Proofs.Ytknejebggegfjaa
set_option linter.unusedSimpArgs false
set_option linter.unusedVariables false
open Go
/-- A web. -/
structure Web where
  ins : List (List Int)
  outs : List (List Int)
  live : List Int
  gone : List Int
def insW (w : Web) (node : Int) (x : Id) : List Int :=
  if w.ins.length = 0 then [] else [1, 2, 3, 4].filter fun s => ((w.ins.getD (Int.tmod (7 * node + x.s) w.ins.length).toNat []).take 3).any fun v => decide (1 + Int.tmod v 4 = s)
def upto4 (nodes : Int) : List Int := [1, 2, 3, 4].filter fun n => decide (n ≤ nodes)
def holdW (w : Web) (nodes : Int) (x : Id) : List Int :=
  if w.outs.length = 0 then [] else (upto4 nodes).filter fun n => decide (n ≠ x.n) && ((w.outs.getD (Int.tmod (5 * x.n + x.s) w.outs.length).toNat []).take 3).any fun v => decide (1 + Int.tmod v nodes = n)
def amongW (l : List Int) (n : Int) : Bool := l.any fun v => decide (pick v 60 = n)
def numW (inn : Bool) (node : Int) (x : Id) : Int := Int.tmod (12 * node + 4 * x.n + x.s + if inn then 1 else 0) 60
def ansW (w : Web) (nodes : Int) (q : Qn) : Ms :=
  if q.kind = 10 then ⟨11, q.to, q.frm, q.call, q.item, 0, 0, []⟩
  else if q.op = 3 then ⟨9, q.to, q.frm, q.call, q.item, 2, 10 + q.to, []⟩
  else if amongW w.live (numW (q.op == 1) q.to q.tgt) then ⟨9, q.to, q.frm, q.call, q.item, 1, 10 + q.to, []⟩
  else if amongW w.gone (numW (q.op == 1) q.to q.tgt) then ⟨9, q.to, q.frm, q.call, q.item, 0, 10 + q.to, []⟩
  else if q.op = 1 then ⟨9, q.to, q.frm, q.call, q.item, 2, 10 + q.to, holdW w nodes q.tgt⟩
  else ⟨9, q.to, q.frm, q.call, q.item, 2, 10 + q.to, insW w q.to q.tgt⟩

/-- What can be asked about. -/
def inU (nodes : Int) (x : It) : Prop :=
  (x.inn = true ∧ x.node = x.id.n ∧ (1 ≤ x.node ∧ x.node ≤ nodes) ∧ (1 ≤ x.id.s ∧ x.id.s ≤ 4)) ∨
  (x.inn = false ∧ (1 ≤ x.node ∧ x.node ≤ nodes) ∧ x.node ≠ x.id.n ∧ (1 ≤ x.id.n ∧ x.id.n ≤ nodes) ∧ ((1 ≤ x.id.s ∧ x.id.s ≤ 4) ∨ (x.node = 1 ∧ x.id.n = 2 ∧ x.id.s = 7)))
def apart (l : List It) : Prop := l.Pairwise fun a b => a.same b = false
def itNo (x : It) : Int := if x.inn then (x.node - 1) * 4 + (x.id.s - 1) else 16 + ((x.node - 1) * 4 + (x.id.n - 1)) * 8 + (x.id.s - 1)
section
variable {nodes : Int} {w : Web} {t : Tr} {m : Ms} {i : Nat}
theorem id_ext {a b : Id} (h1 : a.n = b.n) (h2 : a.s = b.s) : a = b := by
  cases a; cases b; simp only at h1 h2; rw [h1, h2]
theorem itNo_inj (hn : nodes ≤ 4) {a b : It} (ha : inU nodes a) (hb : inU nodes b) (h : itNo a = itNo b) : a.same b = true := by
  rw [it_same]
  unfold itNo at h
  unfold inU at ha hb
  cases h1 : a.inn <;> cases h2 : b.inn <;> simp only [h1, h2, if_true, if_false, Bool.false_eq_true] at h ha hb <;> simp only [true_and, false_and, or_false, false_or, reduceCtorEq] at ha hb ⊢
  · obtain ⟨a1, a2, a3, a4⟩ := ha
    obtain ⟨b1, b2, b3, b4⟩ := hb
    have : a.node = b.node ∧ a.id.n = b.id.n ∧ a.id.s = b.id.s := by
      rcases a4 with a4 | a4 <;> rcases b4 with b4 | b4 <;> omega
    exact ⟨this.1, id_ext this.2.1 this.2.2⟩
  · obtain ⟨a1, a2, a3, a4⟩ := ha
    omega
  · obtain ⟨b1, b2, b3, b4⟩ := hb
    omega
  · have : a.node = b.node ∧ a.id.n = b.id.n ∧ a.id.s = b.id.s := by omega
    exact ⟨this.1, id_ext this.2.1 this.2.2⟩
theorem itNo_lt (hn : nodes ≤ 4) {a : It} (ha : inU nodes a) : 0 ≤ itNo a ∧ itNo a < 144 := by
  unfold itNo
  rcases ha with ⟨h1, h2, h3, h4⟩ | ⟨h1, h2, h3, h4, h5⟩
  · rw [h1, if_pos rfl]; omega
  · rw [h1, if_neg (by decide)]; omega
theorem few_items (hn : nodes ≤ 4) {l : List It} (hu : ∀ x ∈ l, inU nodes x) (ha : apart l) : l.length ≤ 144 := by
  have h := keys_few (k := 144) (l := l.map fun x => (itNo x + 1, (0 : Int))) (by
    unfold mnod
    rw [List.map_map]
    unfold List.Nodup
    rw [List.pairwise_map]
    refine List.Pairwise.imp_of_mem (fun {a b} ha hb h e => ?_) ha
    have e : itNo a + 1 = itNo b + 1 := e
    rw [itNo_inj hn (hu a ha) (hu b hb) (by omega)] at h
    cases h) fun e he => by
      obtain ⟨x, hx, rfl⟩ := List.mem_map.1 he
      have := itNo_lt hn (hu x hx)
      show 1 ≤ itNo x + 1 ∧ itNo x + 1 ≤ _
      omega
  simpa using h

/-- What is told of an item, as items; all of a list, added. -/
def tells (nodes : Int) (w : Web) (x : It) : List It :=
  if x.inn then (holdW w nodes x.id).map fun n => ⟨false, n, x.id, 0⟩ else (insW w x.node x.id).map fun s => ⟨true, x.node, ⟨x.node, s⟩, 0⟩
def addAll : List It → List It → List It
  | l, [] => l
  | l, y :: r => addAll (if l.any (fun z => z.same y) then l else l ++ [y]) r
theorem ins_in {node : Int} {x : Id} {s : Int} (h : s ∈ insW w node x) : 1 ≤ s ∧ s ≤ 4 := by
  unfold insW at h
  split at h
  · cases h
  · have := (List.mem_filter.1 h).1
    simp at this
    omega
theorem hold_in {x : Id} {n : Int} (h : n ∈ holdW w nodes x) : (1 ≤ n ∧ n ≤ 4) ∧ n ≤ nodes ∧ n ≠ x.n := by
  unfold holdW at h
  split at h
  · cases h
  · obtain ⟨h1, h2⟩ := List.mem_filter.1 h
    unfold upto4 at h1
    obtain ⟨h3, h4⟩ := List.mem_filter.1 h1
    rw [Bool.and_eq_true] at h2
    have h2 := of_decide_eq_true h2.1
    have h4 := of_decide_eq_true h4
    simp at h3
    exact ⟨by omega, h4, h2⟩
theorem tells_in {x y : It} (hx : inU nodes x) (h : y ∈ tells nodes w x) : inU nodes y ∧ y.code = 0 := by
  unfold tells at h
  rcases hx with ⟨h1, h2, h3, h4⟩ | ⟨h1, h2, h3, h4, h5⟩
  · rw [h1, if_pos rfl] at h
    obtain ⟨n, hn, rfl⟩ := List.mem_map.1 h
    obtain ⟨n1, n2, n3⟩ := hold_in hn
    exact ⟨.inr ⟨rfl, ⟨n1.1, n2⟩, n3, by simp only; omega, .inl h4⟩, rfl⟩
  · rw [h1, if_neg (by decide)] at h
    obtain ⟨s, hs, rfl⟩ := List.mem_map.1 h
    have := ins_in hs
    exact ⟨.inl ⟨rfl, rfl, h2, this⟩, rfl⟩
theorem add_in : ∀ {r l : List It}, (∀ x ∈ l, inU nodes x) → apart l → (∀ y ∈ r, inU nodes y) → (∀ x ∈ addAll l r, inU nodes x) ∧ apart (addAll l r)
  | [], l, h1, h2, h3 => ⟨h1, h2⟩
  | y :: r, l, h1, h2, h3 => by
    unfold addAll
    split
    · exact add_in h1 h2 fun z hz => h3 z (by simp [hz])
    · rename_i hno
      refine add_in (fun x hx => ?_) ?_ fun z hz => h3 z (by simp [hz])
      · rcases List.mem_append.1 hx with hx | hx
        · exact h1 x hx
        · simp at hx; rw [hx]; exact h3 y (by simp)
      · unfold apart
        rw [List.pairwise_append]
        refine ⟨h2, by simp, fun a ha b hb => ?_⟩
        simp at hb
        rw [hb]
        cases hs : a.same y
        · rfl
        · exact absurd (List.any_eq_true.2 ⟨a, ha, hs⟩) hno
theorem add_grow : ∀ {r l : List It}, ∃ r', addAll l r = l ++ r'
  | [], l => ⟨[], by simp [addAll]⟩
  | y :: r, l => by
    unfold addAll
    split
    · exact add_grow
    · obtain ⟨r', h⟩ := add_grow (r := r) (l := l ++ [y])
      exact ⟨y :: r', by rw [h]; simp⟩
theorem more_tells (hn : nodes ≤ 4) {x : It} (hx : inU nodes x) {f : Int → It} : ∀ {r : List Int} {l : List It}, (∀ n ∈ r, moreIt nodes x n = some (f n) ∧ inU nodes (f n)) → (∀ x ∈ l, inU nodes x) → apart l → moreL nodes x r l = (true, addAll l (r.map f))
  | [], l, h, h1, h2 => rfl
  | n :: r, l, h, h1, h2 => by
    obtain ⟨h3, h4⟩ := h n (by simp)
    unfold moreL
    rw [h3, List.map_cons]
    unfold addAll
    have hl := few_items hn h1 h2
    simp only
    by_cases ha : l.any (fun z => z.same (f n)) = true
    · rw [if_pos ha, if_pos ha]
      exact more_tells hn hx (fun n hn => h n (by simp [hn])) h1 h2
    · rw [if_neg ha, if_neg ha, if_neg (by omega)]
      have := add_in (r := [f n]) h1 h2 (by simpa using h4)
      unfold addAll at this
      rw [if_neg ha] at this
      unfold addAll at this
      exact more_tells hn hx (fun n hn => h n (by simp [hn])) this.1 this.2
theorem more_web (hn : 2 ≤ nodes ∧ nodes ≤ 4) {x : It} (hx : inU nodes x) {l : List It} (h1 : ∀ x ∈ l, inU nodes x) (h2 : apart l) :
    moreL nodes x (if x.inn then holdW w nodes x.id else insW w x.node x.id) l = (true, addAll l (tells nodes w x)) := by
  unfold tells
  cases hi : x.inn
  · rw [if_neg (by decide), if_neg (by decide)]
    refine more_tells hn.2 hx (fun s hs => ?_) h1 h2
    have hs' := ins_in hs
    have hu : inU nodes (⟨true, x.node, ⟨x.node, s⟩, 0⟩ : It) := (tells_in (w := w) hx (y := ⟨true, x.node, ⟨x.node, s⟩, 0⟩) (by unfold tells; rw [hi, if_neg (by decide)]; exact List.mem_map.2 ⟨s, hs, rfl⟩)).1
    refine ⟨?_, hu⟩
    unfold moreIt
    rw [if_neg (by omega), if_neg (by omega), hi, if_neg (by decide)]
  · rw [if_pos rfl, if_pos rfl]
    refine more_tells hn.2 hx (fun n hn' => ?_) h1 h2
    obtain ⟨n1, n2, n3⟩ := hold_in hn'
    have hu : inU nodes (⟨false, n, x.id, 0⟩ : It) := (tells_in (w := w) hx (y := ⟨false, n, x.id, 0⟩) (by unfold tells; rw [hi, if_pos rfl]; exact List.mem_map.2 ⟨n, hn', rfl⟩)).1
    refine ⟨?_, hu⟩
    unfold moreIt
    rw [if_neg (by omega), if_neg (by omega), hi, if_pos rfl, if_neg (by omega), if_neg n3]
end
end Go.Proofs.Ytknejebggegfjaa

namespace Go.Proofs.Ytknejebggegfjaa
set_option linter.unusedSimpArgs false
set_option linter.unusedVariables false
open Go
/-- At the i-th question. -/
structure Wi (nodes : Int) (w : Web) (i : Nat) (t : Tr) : Prop where
  ok : t.ok nodes
  node : t.node = 1
  num : t.num = 1
  sw : t.st ≠ 0 → t.sent = 0 ∧ t.wait = 0
  opn : t.st ≠ 0 → t.opn = i
  us : ∀ x ∈ t.items, inU nodes x
  ap : apart t.items
  sm : ∀ e ∈ t.sm, e.2 = 10 + e.1
  two : t.st = 2 → (∀ n ∈ t.todo, mlook t.sm n = some (10 + n)) ∧ i + t.todo.length ≤ t.items.length + 4
  three : t.st = 3 → i + t.todo.length ≤ 2 * t.items.length + 4
def isLive (w : Web) (x : It) : Bool := amongW w.live (numW x.inn x.node x.id)
def isGone (w : Web) (x : It) : Bool := amongW w.gone (numW x.inn x.node x.id)
section
variable {nodes : Int} {w : Web} {t : Tr} {m : Ms} {i : Nat}
theorem Wi.lt (hn : nodes ≤ 4) (h : Wi nodes w i t) (h0 : t.st ≠ 0) : i < 292 := by
  have hf := few_items hn h.us h.ap
  have hs := h.ok.st
  by_cases h1 : t.st = 1
  · have := h.ok.one h1
    have := h.opn h0
    omega
  by_cases h2 : t.st = 2
  · have h3 := h.two h2
    have := List.length_pos_iff.2 (h.ok.two h2).1
    omega
  · have h3 := h.three (by omega)
    have := List.length_pos_iff.2 (h.ok.three (by omega)).1
    omega
theorem Wi.asks (h : Wi nodes w i t) (h0 : t.st ≠ 0) : t.asks 1099511627776 = true := by
  obtain ⟨h1, h2⟩ := h.sw h0
  unfold Tr.asks pastB
  rw [decide_eq_false h0, h1, h2]
  decide
theorem Wi.over (h : Wi nodes w i t) : Wi nodes w (i + 1) t.over :=
  ⟨Tr.over_ok, h.node, h.num, fun h => absurd rfl h, fun h => absurd rfl h, fun x hx => (by cases hx), List.Pairwise.nil, fun e he => (by cases he), fun h => absurd h (by simp [Tr.over]), fun h => absurd h (by simp [Tr.over])⟩
theorem Wi.finds' (h1 : t.node = 1) (h2 : t.num = 1) : Wi nodes w (i + 1) t.finds :=
  ⟨Tr.finds_ok, h1, h2, fun h => absurd rfl h, fun h => absurd rfl h, fun x hx => (by cases hx), List.Pairwise.nil, fun e he => (by cases he), fun h => absurd h (by simp [Tr.finds, Tr.over]), fun h => absurd h (by simp [Tr.finds, Tr.over])⟩
theorem next_opn (ho : t.opn = i) (hi : i < 100000) : t.next.opn = ((i + 1 : Nat) : Int) := by
  unfold Tr.next
  simp only
  rw [ho, wrap_i64 (by omega) (by omega)]
  omega
theorem apart_set {l : List It} {j : Nat} {c : Int} (h : apart l) : apart (l.set j { l.getD j noIt with code := c }) := by
  obtain ⟨y, hy⟩ : ∃ y, y = l.getD j noIt := ⟨_, rfl⟩
  rw [← hy]
  unfold apart at h ⊢
  rw [List.pairwise_iff_getElem] at h ⊢
  intro a b ha hb hab
  simp only [List.length_set] at ha hb
  have := h a b ha hb hab
  rw [List.getElem_set, List.getElem_set]
  have gd : ∀ (hj : j < l.length), y = l[j] := fun hj => by rw [hy, List.getD_eq_getElem?_getD, List.getElem?_eq_getElem hj]; rfl
  by_cases e1 : j = a
  · rw [if_pos e1, if_neg (by omega)]
    show y.same l[b] = false
    have e : y = l[a] := by subst e1; exact gd ha
    rw [e]
    exact this
  · rw [if_neg e1]
    by_cases e2 : j = b
    · rw [if_pos e2]
      show l[a].same y = false
      have e : y = l[b] := by subst e2; exact gd hb
      rw [e]
      exact this
    · rw [if_neg e2]
      exact this
theorem inU_code {x : It} {c : Int} (h : inU nodes x) : inU nodes { x with code := c } := h
theorem inU_set {l : List It} {j : Nat} {c : Int} (hj : j < l.length) (h : ∀ x ∈ l, inU nodes x) : ∀ x ∈ l.set j { l.getD j noIt with code := c }, inU nodes x := fun x hx => by
  rcases List.mem_or_eq_of_mem_set hx with hx | rfl
  · exact h x hx
  · have : l.getD j noIt ∈ l := by
      rw [List.getD_eq_getElem?_getD, List.getElem?_eq_getElem hj]
      exact List.getElem_mem _
    exact inU_code (h _ this)
/-- Onward, at the i-th. -/
theorem Wi.onward (hn : 2 ≤ nodes ∧ nodes ≤ 4) (ho : t.ok nodes) (h1 : t.st = 1) (hnd : t.node = 1) (hnm : t.num = 1) (hop : t.opn = i) (us : ∀ x ∈ t.items, inU nodes x) (ap : apart t.items) (sm : ∀ e ∈ t.sm, e.2 = 10 + e.1) : Wi nodes w (i + 1) t.onward := by
  have hf := few_items hn.2 us ap
  obtain ⟨o1, o2, o3⟩ := ho.one h1
  have hno := next_opn hop (by omega)
  have hok := ho.onward (by omega) h1
  unfold Tr.onward at hok ⊢
  by_cases hlt : t.next.opn < t.items.length
  · rw [if_pos hlt] at hok ⊢
    exact ⟨hok, hnd, hnm, fun _ => ⟨rfl, rfl⟩, fun _ => hno, us, ap, sm, fun h => absurd h (by show ¬ t.st = 2; omega), fun h => absurd h (by show ¬ t.st = 3; omega)⟩
  rw [if_neg hlt] at hok ⊢
  by_cases hz : t.sm.length = 0
  · rw [if_pos hz]
    exact Wi.finds' hnd hnm
  rw [if_neg hz] at hok ⊢
  have hk := keys_few (k := nodes.toNat) ho.sm fun e he => by have := ho.keys e he; omega
  have hl : (rise1 (t.sm.map (·.1))).length = t.sm.length := by rw [rise1_perm.length_eq, List.length_map]
  refine ⟨hok, hnd, hnm, fun _ => ⟨rfl, rfl⟩, fun _ => hno, us, ap, sm, fun _ => ⟨fun n hn' => ?_, ?_⟩, fun h => absurd h (by show ¬ (2 : Int) = 3; decide)⟩
  · have hm : n ∈ t.sm.map (·.1) := rise1_perm.mem_iff.1 hn'
    obtain ⟨e, he, rfl⟩ := List.mem_map.1 hm
    have := sm e he
    exact mlook_of ho.sm (by rw [← this]; exact he)
  · show i + 1 + (rise1 (t.sm.map (·.1))).length ≤ t.items.length + 4
    rw [hl]
    omega
/-- The question, and what is answered, while it asks. -/
theorem Wi.q1 (h : Wi nodes w i t) (h1 : t.st = 1) : t.q = ⟨8, 1, (t.items.getD i noIt).node, 1, if (t.items.getD i noIt).inn then 1 else 2, i, (t.items.getD i noIt).id, 0⟩ := by
  have ho := h.opn (by omega)
  unfold Tr.q
  rw [if_pos h1, h.node, h.num, ho, Int.toNat_natCast]
theorem ans1 {x : It} : ansW w nodes ⟨8, 1, x.node, 1, if x.inn then 1 else 2, i, x.id, 0⟩ =
    if isLive w x then ⟨9, x.node, 1, 1, i, 1, 10 + x.node, []⟩ else if isGone w x then ⟨9, x.node, 1, 1, i, 0, 10 + x.node, []⟩
    else ⟨9, x.node, 1, 1, i, 2, 10 + x.node, if x.inn then holdW w nodes x.id else insW w x.node x.id⟩ := by
  unfold ansW isLive isGone
  cases hx : x.inn <;> rfl
theorem Wi.mem (h : Wi nodes w i t) (h1 : t.st = 1) : i < t.items.length ∧ t.items.getD i noIt ∈ t.items := by
  have ho := h.opn (by omega)
  obtain ⟨o1, o2, o3⟩ := h.ok.one h1
  have hi : i < t.items.length := by omega
  refine ⟨hi, ?_⟩
  rw [List.getD_eq_getElem?_getD, List.getElem?_eq_getElem hi]
  exact List.getElem_mem _
theorem Wi.heeds1 (h : Wi nodes w i t) (h1 : t.st = 1) {c s : Int} {l : List Int} : t.heeds ⟨9, (t.items.getD i noIt).node, 1, 1, i, c, s, l⟩ = true := by
  unfold Tr.heeds
  rw [h.q1 h1, h1, h.node]
  simp
theorem Wi.hear1 (h : Wi nodes w i t) (h1 : t.st = 1) {c s : Int} {l : List Int} : t.hear nodes ⟨9, (t.items.getD i noIt).node, 1, 1, i, c, s, l⟩ = t.asked nodes c s l := by
  unfold Tr.hear
  rw [if_neg (by rw [h.heeds1 h1]; decide), if_pos h1]
/-- What comes of it. -/
def Tr.more1 (nodes : Int) (w : Web) (i : Nat) (t : Tr) : Tr :=
  { t with items := addAll (t.code 2).items (tells nodes w (t.items.getD i noIt)), sm := mput t.sm (t.items.getD i noIt).node (10 + (t.items.getD i noIt).node) }
theorem Wi.step1 (hn : 2 ≤ nodes ∧ nodes ≤ 4) (h : Wi nodes w i t) (h1 : t.st = 1) : t.heeds (ansW w nodes t.q) = true ∧
    t.hear nodes (ansW w nodes t.q) = if isLive w (t.items.getD i noIt) then t.over else if isGone w (t.items.getD i noIt) then (t.code 0).onward else (t.more1 nodes w i).onward := by
  obtain ⟨hi, hm⟩ := h.mem h1
  have ho := h.opn (by omega)
  have hx := h.us _ hm
  rw [h.q1 h1, ans1]
  by_cases hl : isLive w (t.items.getD i noIt) = true
  · rw [if_pos hl, if_pos hl, h.hear1 h1]
    exact ⟨h.heeds1 h1, by unfold Tr.asked; rw [if_neg (by decide), if_neg (by decide)]⟩
  rw [if_neg hl, if_neg hl]
  by_cases hg : isGone w (t.items.getD i noIt) = true
  · rw [if_pos hg, if_pos hg, h.hear1 h1]
    exact ⟨h.heeds1 h1, by unfold Tr.asked; rw [if_pos rfl]⟩
  rw [if_neg hg, if_neg hg, h.hear1 h1]
  refine ⟨h.heeds1 h1, ?_⟩
  have hto : t.opn.toNat = i := by omega
  unfold Tr.asked
  rw [if_neg (by decide), if_pos rfl, hto]
  have hsm : ¬ ((mlook t.sm (t.items.getD i noIt).node).isSome ∧ (mlook t.sm (t.items.getD i noIt).node).getD 0 ≠ 10 + (t.items.getD i noIt).node) := by
    rintro ⟨a, b⟩
    obtain ⟨v, hv⟩ := Option.isSome_iff_exists.1 a
    have := h.sm _ (mlook_mem hv)
    rw [hv] at b
    exact b this
  rw [if_neg hsm]
  have ec : (t.code 2).items = t.items.set i { t.items.getD i noIt with code := 2 } := by unfold Tr.code; rw [ho, Int.toNat_natCast]
  have hmo := more_web (w := w) hn hx (l := (t.code 2).items) (by rw [ec]; exact inU_set hi h.us) (by rw [ec]; exact apart_set h.ap)
  rw [hmo, if_neg (by simp)]
  rfl
theorem Wi.code (hn : 2 ≤ nodes ∧ nodes ≤ 4) (h : Wi nodes w i t) (h1 : t.st = 1) {c : Int} : Wi nodes w (i + 1) (t.code c).onward := by
  obtain ⟨hi, hm⟩ := h.mem h1
  have ho := h.opn (by omega)
  have ec : (t.code c).items = t.items.set i { t.items.getD i noIt with code := c } := by unfold Tr.code; rw [ho, Int.toNat_natCast]
  exact Wi.onward hn (Tr.code_ok h.ok h1) h1 h.node h.num ho (by rw [ec]; exact inU_set hi h.us) (by rw [ec]; exact apart_set h.ap) h.sm
theorem Wi.more1 (hn : 2 ≤ nodes ∧ nodes ≤ 4) (h : Wi nodes w i t) (h1 : t.st = 1) : (t.more1 nodes w i).ok nodes ∧ Wi nodes w (i + 1) (t.more1 nodes w i).onward := by
  obtain ⟨hi, hm⟩ := h.mem h1
  have ho := h.opn (by omega)
  have hx := h.us _ hm
  have ec : (t.code 2).items = t.items.set i { t.items.getD i noIt with code := 2 } := by unfold Tr.code; rw [ho, Int.toNat_natCast]
  have hadd := add_in (r := tells nodes w (t.items.getD i noIt)) (l := (t.code 2).items) (by rw [ec]; exact inU_set hi h.us) (by rw [ec]; exact apart_set h.ap) fun y hy => (tells_in hx hy).1
  have hf := few_items hn.2 hadd.1 hadd.2
  obtain ⟨r', hr'⟩ := add_grow (r := tells nodes w (t.items.getD i noIt)) (l := (t.code 2).items)
  obtain ⟨o1, o2, o3⟩ := h.ok.one h1
  have hxn : 1 ≤ (t.items.getD i noIt).node ∧ (t.items.getD i noIt).node ≤ nodes := h.ok.nds _ hm
  have hok : (t.more1 nodes w i).ok nodes := by
    refine ⟨h.ok.st, by show (addAll _ _).length ≤ 1000; omega, fun x hx' => ?_, mput_nod h.ok.sm _ _, fun e he => ?_, fun _ => ⟨o1, ?_, o3⟩, fun h2 => absurd h2 (by show ¬ t.st = 2; omega), fun h3 => absurd h3 (by show ¬ t.st = 3; omega)⟩
    · rcases hadd.1 x hx' with ⟨_, _, h3, _⟩ | ⟨_, h3, _⟩ <;> exact h3
    · rcases mput_in he with rfl | he
      · exact hxn
      · exact h.ok.keys e he
    · show t.opn < ((addAll _ _).length : Int)
      rw [hr', List.length_append, ec, List.length_set]
      omega
  refine ⟨hok, Wi.onward hn hok h1 h.node h.num ho hadd.1 hadd.2 fun e he => ?_⟩
  rcases mput_in he with rfl | he
  · rfl
  · exact h.sm e he
/-- While it checks. -/
theorem Wi.q2 (h : Wi nodes w i t) (h2 : t.st = 2) : t.q = ⟨8, 1, t.todo.getD 0 0, 1, 3, i, noId, 0⟩ := by
  have ho := h.opn (by omega)
  unfold Tr.q
  rw [if_neg (by omega), if_pos h2, h.node, h.num, ho]
theorem Wi.step2 (h : Wi nodes w i t) (h2 : t.st = 2) {l : List Int} {s : Int} : t.heeds ⟨9, t.todo.getD 0 0, 1, 1, i, 2, s, l⟩ = true ∧
    t.hear nodes ⟨9, t.todo.getD 0 0, 1, 1, i, 2, s, l⟩ = if s ≠ 10 + t.todo.getD 0 0 then t.over else if 1 < t.todo.length then { t.next with todo := t.todo.tail }
      else if (buryFrom 0 t.items).length = 0 then Tr.finds t.next else { t.next with todo := buryFrom 0 t.items, st := 3 } := by
  have hh : t.heeds ⟨9, t.todo.getD 0 0, 1, 1, i, 2, s, l⟩ = true := by
    unfold Tr.heeds
    rw [h.q2 h2, h2, h.node]
    simp
  refine ⟨hh, ?_⟩
  unfold Tr.hear
  rw [if_neg (by rw [hh]; decide), if_neg (by omega), if_pos h2]
  unfold Tr.checked
  have hpos := List.length_pos_iff.2 (h.ok.two h2).1
  have hmem : t.todo.getD 0 0 ∈ t.todo := by
    rw [List.getD_eq_getElem?_getD, List.getElem?_eq_getElem hpos]
    exact List.getElem_mem _
  rw [(h.two h2).1 _ hmem]
  rfl
theorem ans2 {n : Int} : ansW w nodes ⟨8, 1, n, 1, 3, i, noId, 0⟩ = ⟨9, n, 1, 1, i, 2, 10 + n, []⟩ := by
  unfold ansW
  rw [if_neg (show ¬ (8 : Int) = 10 by decide), if_pos (show (3 : Int) = 3 from rfl)]
theorem Wi.two1 (hn : nodes ≤ 4) (h : Wi nodes w i t) (h2 : t.st = 2) (hl : 1 < t.todo.length) : Wi nodes w (i + 1) { t.next with todo := t.todo.tail } := by
  have hi := h.lt hn (by omega)
  have hno := next_opn (h.opn (by omega)) (i := i) (by omega)
  have hok : Tr.ok nodes { t.next with todo := t.todo.tail } := by
    refine ⟨h.ok.st, h.ok.items, h.ok.nds, h.ok.sm, h.ok.keys, fun h3 => absurd h3 (by show ¬ t.st = 1; omega), fun _ => ⟨fun e => ?_, ?_⟩, fun h3 => absurd h3 (by show ¬ t.st = 3; omega)⟩
    · have := congrArg List.length e
      simp at this
      omega
    · have := (h.ok.two h2).2
      simp only [List.length_tail]
      omega
  have h3 := (h.two h2).2
  refine ⟨hok, h.node, h.num, fun _ => ⟨rfl, rfl⟩, fun _ => hno, h.us, h.ap, h.sm, fun _ => ⟨fun n hn' => (h.two h2).1 n (List.mem_of_mem_tail hn'), ?_⟩, fun h3 => absurd h3 (by show ¬ t.st = 3; omega)⟩
  show i + 1 + t.todo.tail.length ≤ t.items.length + 4
  rw [List.length_tail]
  omega
theorem Wi.two2 (hn : nodes ≤ 4) (h : Wi nodes w i t) (h2 : t.st = 2) (hl : ¬ 1 < t.todo.length) (hb : ¬ (buryFrom 0 t.items).length = 0) : Wi nodes w (i + 1) { t.next with todo := buryFrom 0 t.items, st := 3 } := by
  have hi := h.lt hn (by omega)
  have hno := next_opn (h.opn (by omega)) (i := i) (by omega)
  have hbl := bury_len (l := t.items) (k := 0)
  have hit := h.ok.items
  have hpos := List.length_pos_iff.2 (h.ok.two h2).1
  have h3 := (h.two h2).2
  have hok : Tr.ok nodes { t.next with todo := buryFrom 0 t.items, st := 3 } := by
    refine ⟨by simp, h.ok.items, h.ok.nds, h.ok.sm, h.ok.keys, fun h3 => absurd h3 (by simp), fun h3 => absurd h3 (by simp), fun _ => ⟨fun e => hb (by rw [show buryFrom 0 t.items = [] from e]; rfl), by simp only; omega, fun i hi => ?_⟩⟩
    have := bury_mem hi
    show 0 ≤ i ∧ i < (t.items.length : Int)
    omega
  refine ⟨hok, h.node, h.num, fun _ => ⟨rfl, rfl⟩, fun _ => hno, h.us, h.ap, h.sm, fun h3 => absurd h3 (by show ¬ (3 : Int) = 2; decide), fun _ => ?_⟩
  show i + 1 + (buryFrom 0 t.items).length ≤ 2 * t.items.length + 4
  omega
/-- While it buries. -/
theorem Wi.q3 (h : Wi nodes w i t) (h3 : t.st = 3) : t.q = ⟨10, 1, (t.items.getD (t.todo.getD 0 0).toNat noIt).node, 1, 0, i, (t.items.getD (t.todo.getD 0 0).toNat noIt).id, (mlook t.sm (t.items.getD (t.todo.getD 0 0).toNat noIt).node).getD 0⟩ := by
  have ho := h.opn (by omega)
  unfold Tr.q
  rw [if_neg (by omega), if_neg (by omega), h.node, h.num, ho]
theorem ans3 {n s : Int} {x : Id} : ansW w nodes ⟨10, 1, n, 1, 0, i, x, s⟩ = ⟨11, n, 1, 1, i, 0, 0, []⟩ := by
  unfold ansW
  rw [if_pos (show (10 : Int) = 10 from rfl)]
theorem Wi.step3 (h : Wi nodes w i t) (h3 : t.st = 3) : t.heeds (ansW w nodes t.q) = true ∧ t.hear nodes (ansW w nodes t.q) = t.buried := by
  rw [h.q3 h3, ans3]
  have hh : t.heeds ⟨11, (t.items.getD (t.todo.getD 0 0).toNat noIt).node, 1, 1, i, 0, 0, []⟩ = true := by
    unfold Tr.heeds
    rw [h.q3 h3, h3, h.node]
    simp
  refine ⟨hh, ?_⟩
  unfold Tr.hear
  rw [if_neg (by rw [hh]; decide), if_neg (by omega), if_neg (by omega)]
theorem Wi.three1 (hn : nodes ≤ 4) (h : Wi nodes w i t) (h3 : t.st = 3) : Wi nodes w (i + 1) t.buried := by
  have hi := h.lt hn (by omega)
  have hno := next_opn (h.opn (by omega)) (i := i) (by omega)
  have hok := h.ok.buried h3
  unfold Tr.buried at hok ⊢
  split
  · exact Wi.finds' h.node h.num
  · rename_i hl
    rw [if_neg hl] at hok
    have h4 := h.three h3
    refine ⟨hok, h.node, h.num, fun _ => ⟨rfl, rfl⟩, fun _ => hno, h.us, h.ap, h.sm, fun h2 => absurd h2 (by show ¬ t.st = 2; omega), fun _ => ?_⟩
    show i + 1 + t.todo.tail.length ≤ 2 * t.items.length + 4
    rw [List.length_tail]
    omega
/-- Whatever it asks, the web's answer is heard, and it goes on. -/
theorem Wi.step (hn : 2 ≤ nodes ∧ nodes ≤ 4) (h : Wi nodes w i t) (h0 : t.st ≠ 0) : t.heeds (ansW w nodes t.q) = true ∧ Wi nodes w (i + 1) (t.hear nodes (ansW w nodes t.q)) := by
  have hs := h.ok.st
  by_cases h1 : t.st = 1
  · obtain ⟨a, b⟩ := h.step1 hn h1
    refine ⟨a, ?_⟩
    rw [b]
    split
    · exact h.over
    · split
      · exact h.code hn h1
      · exact (h.more1 hn h1).2
  by_cases h2 : t.st = 2
  · rw [h.q2 h2, ans2]
    obtain ⟨a, b⟩ := h.step2 h2 (s := 10 + t.todo.getD 0 0) (l := [])
    refine ⟨a, ?_⟩
    rw [b, if_neg (fun h => h rfl)]
    split
    · rename_i hl; exact h.two1 hn.2 h2 hl
    · split
      · exact Wi.finds' h.node h.num
      · rename_i hl hb; exact h.two2 hn.2 h2 hl hb
  · have h3 : t.st = 3 := by omega
    obtain ⟨a, b⟩ := h.step3 h3
    refine ⟨a, ?_⟩
    rw [b]
    exact h.three1 hn.2 h3
theorem Wi.start (hn : 2 ≤ nodes ∧ nodes ≤ 4) : Wi nodes w 0 ((newTr 1 0).begun 2 7 0) := by
  refine ⟨Tr.begun_ok (by simp only [newTr]; omega), rfl, by rfl, fun _ => ⟨rfl, rfl⟩, fun _ => rfl, fun x hx => ?_, ?_, fun e he => (by cases he), fun h => absurd h (by simp [Tr.begun]), fun h => absurd h (by simp [Tr.begun])⟩
  · simp [Tr.begun, newTr] at hx
    rw [hx]
    refine .inr ⟨rfl, ⟨by decide, by simp only; omega⟩, by decide, ⟨by decide, hn.1⟩, .inr ⟨rfl, rfl, rfl⟩⟩
  · unfold apart
    simp [Tr.begun]
end
end Go.Proofs.Ytknejebggegfjaa

namespace Go.Proofs.Ytknejebggegfjaa
open Go
set_option linter.unusedVariables false
set_option maxRecDepth 100000
end Go.Proofs.Ytknejebggegfjaa

namespace Go.Proofs.Ytknejebggegfjaa
open Go
set_option linter.unusedVariables false
set_option maxRecDepth 100000
end Go.Proofs.Ytknejebggegfjaa

namespace Go.Proofs.Ytknejebggegfjaa
open Go
set_option linter.unusedVariables false
set_option maxRecDepth 100000
end Go.Proofs.Ytknejebggegfjaa

namespace Go.Proofs.Ytknejebggegfjaa
set_option linter.unusedSimpArgs false
set_option linter.unusedVariables false
set_option maxRecDepth 20000
open Go
/-- A message, whole. -/
structure Mg where
  m : Ms
  f4 : Int
  f5 : Int
  f6 : Int
  f8 : Int
  f9 : Int
  f11 : Int
  f13 : Int
  f14 : Int
  f15 : Int
  f16 : Int
  rp : Option Addr
  rl : Nat
  rc : Nat
  lp : Option Addr
  ll : Nat
  lc : Nat
def Mg.cells (g : Mg) : List Value := [.int .i64 g.m.kind, .int .i64 g.m.frm, .int .i64 g.m.to, .int .u64 g.m.call, .int .u64 g.f4, .int .i64 g.f5, .int .i64 g.f6, .int .i64 g.m.item, .int .i64 g.f8, .int .u64 g.f9, .slice g.rp g.rl g.rc, .int .u64 g.f11, .int .i64 g.m.code, .int .u64 g.f13, .int .i64 g.f14, .int .u64 g.f15, .int .i64 g.f16, .int .u64 g.m.stamp, .slice g.lp g.ll g.lc]
def Mg.val (g : Mg) : Value := .agg #[.int .i64 g.m.kind, .int .i64 g.m.frm, .int .i64 g.m.to, .int .u64 g.m.call, .int .u64 g.f4, .int .i64 g.f5, .int .i64 g.f6, .int .i64 g.m.item, .int .i64 g.f8, .int .u64 g.f9, .slice g.rp g.rl g.rc, .int .u64 g.f11, .int .i64 g.m.code, .int .u64 g.f13, .int .i64 g.f14, .int .u64 g.f15, .int .i64 g.f16, .int .u64 g.m.stamp, .slice g.lp g.ll g.lc]
abbrev SlT := Option Addr × Nat × Nat
def slW (t : SlT) : Value := .slice t.1 t.2.1 t.2.2
section
variable {H0 H : Hp} {L M N : List Prt} {i k tb : Nat} {c : Cf} {t : Tr} {w : Web} {K : Value → Hp → Prop} {ip op lp gp : Option Addr} {il ic ol oc ll lc gl gc : Nat}
theorem St.keep1 {A : Prt} (h : St H0 (A :: (N ++ L)) H) : St H0 (A :: L) H := St.lesses (M := N) (h.perm List.perm_middle.symm)
end
end Go.Proofs.Ytknejebggegfjaa

namespace Go.Proofs.Ytknejebggegfjaa
open Go
set_option linter.unusedVariables false
set_option maxRecDepth 100000
def B_witness_In (sStir1 : Int) (sRowsP2 : Option Addr) (sRowsL3 : Nat) (sRowsC4 : Nat) (sOutsP5 : Option Addr) (sOutsL6 : Nat) (sOutsC7 : Nat) (sOk8 : Bool) (stir9 : Int) (serial10 : Int) (holdersP11 : Option Addr) (holdersL12 : Nat) (holdersC13 : Nat) (pinned14 : Bool) (H : Hp) (K : Value → Hp → Prop) : Prop :=
 newB (.cells #[(.int .u64 sStir1), (.slice sRowsP2 sRowsL3 sRowsC4), (.slice sOutsP5 sOutsL6 sOutsC7), (.bool sOk8)] ty_cycle_Summary) H fun b15 Hx16 =>
 newB (.cells #[(.int .u64 serial10)] ty_uint64) Hx16 fun b17 Hx18 =>
 newB (.cells #[(.int .i64 0), (.slice none 0 0)] ty_witness_Said) Hx18 fun b19 Hx20 =>
 ldSl ⟨b15, 1, none⟩ Hx20 fun RowsP21 RowsL22 RowsC23 =>
 hcall PR f_slices_ContainsFunc_Sapi_Reach_api_Reach ⟨[(.slice RowsP21 RowsL22 RowsC23), (.func (.func f_witness_In_1) #[] #[(.pointer (some ⟨b17, 0, none⟩))])]⟩ Hx20 fun v24 Hx25 =>
 asB v24 fun t26 =>
 ldB ⟨b15, 3, none⟩ Hx25 fun Ok27 =>
 (bif (!Ok27) then
 st ⟨b19, 0, none⟩ (.int .i64 1) Hx25 fun Hx28 =>
 st ⟨b19, 1, none⟩ (.slice none 0 0) Hx28 fun Hx29 =>
 ldI .i64 ⟨b19, 0, none⟩ Hx29 fun Code30 =>
 ldSl ⟨b19, 1, none⟩ Hx29 fun ListP31 ListL32 ListC33 =>
 K (.agg #[(.int .i64 Code30), (.slice ListP31 ListL32 ListC33)]) Hx29
else
 ldI .u64 ⟨b15, 0, none⟩ Hx25 fun Stir34 =>
 (bif ((Stir34 : Int) != stir9) then
 st ⟨b19, 0, none⟩ (.int .i64 1) Hx25 fun Hx35 =>
 st ⟨b19, 1, none⟩ (.slice none 0 0) Hx35 fun Hx36 =>
 ldI .i64 ⟨b19, 0, none⟩ Hx36 fun Code37 =>
 ldSl ⟨b19, 1, none⟩ Hx36 fun ListP38 ListL39 ListC40 =>
 K (.agg #[(.int .i64 Code37), (.slice ListP38 ListL39 ListC40)]) Hx36
else
 (bif pinned14 then
 st ⟨b19, 0, none⟩ (.int .i64 1) Hx25 fun Hx41 =>
 st ⟨b19, 1, none⟩ (.slice none 0 0) Hx41 fun Hx42 =>
 ldI .i64 ⟨b19, 0, none⟩ Hx42 fun Code43 =>
 ldSl ⟨b19, 1, none⟩ Hx42 fun ListP44 ListL45 ListC46 =>
 K (.agg #[(.int .i64 Code43), (.slice ListP44 ListL45 ListC46)]) Hx42
else
 (bif (((holdersL12 : Int) : Int) == 0) then
 st ⟨b19, 0, none⟩ (.int .i64 0) Hx25 fun Hx47 =>
 st ⟨b19, 1, none⟩ (.slice none 0 0) Hx47 fun Hx48 =>
 ldI .i64 ⟨b19, 0, none⟩ Hx48 fun Code49 =>
 ldSl ⟨b19, 1, none⟩ Hx48 fun ListP50 ListL51 ListC52 =>
 K (.agg #[(.int .i64 Code49), (.slice ListP50 ListL51 ListC52)]) Hx48
else
 (bif (!t26) then
 st ⟨b19, 0, none⟩ (.int .i64 1) Hx25 fun Hx53 =>
 st ⟨b19, 1, none⟩ (.slice none 0 0) Hx53 fun Hx54 =>
 ldI .i64 ⟨b19, 0, none⟩ Hx54 fun Code55 =>
 ldSl ⟨b19, 1, none⟩ Hx54 fun ListP56 ListL57 ListC58 =>
 K (.agg #[(.int .i64 Code55), (.slice ListP56 ListL57 ListC58)]) Hx54
else
 newB (.cells #[] ty_uint64) Hx25 fun b59 Hx60 =>
 evW PR (Builtin.append_ #[ty_Suint64, ty_Suint64] ty_Suint64 #[(.slice (some ⟨b59, 0, none⟩) 0 0), (.slice holdersP11 holdersL12 holdersC13)]) Hx60 fun v61 Hx62 =>
 asSl v61 fun tP63 tL64 tC65 =>
 hcall PR f_witness_said ⟨[(.slice tP63 tL64 tC65)]⟩ Hx62 fun v66 Hx67 =>
 agg2 v66 fun v68 v69 =>
 asI .i64 v68 fun Code70 =>
 asSl v69 fun ListP71 ListL72 ListC73 =>
 st ⟨b19, 0, none⟩ (.int .i64 Code70) Hx67 fun Hx74 =>
 st ⟨b19, 1, none⟩ (.slice ListP71 ListL72 ListC73) Hx74 fun Hx75 =>
 ldI .i64 ⟨b19, 0, none⟩ Hx75 fun Code76 =>
 ldSl ⟨b19, 1, none⟩ Hx75 fun ListP77 ListL78 ListC79 =>
 K (.agg #[(.int .i64 Code76), (.slice ListP77 ListL78 ListC79)]) Hx75)))))
theorem E_witness_In (sStir1 : Int) (sRowsP2 : Option Addr) (sRowsL3 : Nat) (sRowsC4 : Nat) (sOutsP5 : Option Addr) (sOutsL6 : Nat) (sOutsC7 : Nat) (sOk8 : Bool) (stir9 : Int) (serial10 : Int) (holdersP11 : Option Addr) (holdersL12 : Nat) (holdersC13 : Nat) (pinned14 : Bool) (H : Hp) (K : Value → Hp → Prop) : B_witness_In sStir1 sRowsP2 sRowsL3 sRowsC4 sOutsP5 sOutsL6 sOutsC7 sOk8 stir9 serial10 holdersP11 holdersL12 holdersC13 pinned14 H K = denF Try.prog Try.f21 .n [(.agg #[(.int .u64 sStir1), (.slice sRowsP2 sRowsL3 sRowsC4), (.slice sOutsP5 sOutsL6 sOutsC7), (.bool sOk8)]), (.int .u64 stir9), (.int .u64 serial10), (.slice holdersP11 holdersL12 holdersC13), (.bool pinned14)] H K := by kernel_rfl
theorem den_witness_In {sStir1 : Int} {sRowsP2 : Option Addr} {sRowsL3 : Nat} {sRowsC4 : Nat} {sOutsP5 : Option Addr} {sOutsL6 : Nat} {sOutsC7 : Nat} {sOk8 : Bool} {stir9 : Int} {serial10 : Int} {holdersP11 : Option Addr} {holdersL12 : Nat} {holdersC13 : Nat} {pinned14 : Bool} {H : Hp} {K : Value → Hp → Prop} (h : B_witness_In sStir1 sRowsP2 sRowsL3 sRowsC4 sOutsP5 sOutsL6 sOutsC7 sOk8 stir9 serial10 holdersP11 holdersL12 holdersC13 pinned14 H K) : hcall PR f_witness_In ⟨[(.agg #[(.int .u64 sStir1), (.slice sRowsP2 sRowsL3 sRowsC4), (.slice sOutsP5 sOutsL6 sOutsC7), (.bool sOk8)]), (.int .u64 stir9), (.int .u64 serial10), (.slice holdersP11 holdersL12 holdersC13), (.bool pinned14)]⟩ H K := denF_call Try.func21 PR_mixed (Eq.mp (E_witness_In sStir1 sRowsP2 sRowsL3 sRowsC4 sOutsP5 sOutsL6 sOutsC7 sOk8 stir9 serial10 holdersP11 holdersL12 holdersC13 pinned14 H K) h)

def B_witness_Out (sStir1 : Int) (sRowsP2 : Option Addr) (sRowsL3 : Nat) (sRowsC4 : Nat) (sOutsP5 : Option Addr) (sOutsL6 : Nat) (sOutsC7 : Nat) (sOk8 : Bool) (stir9 : Int) (xNode10 : Int) (xSerial11 : Int) (state12 : Int) (pinned13 : Bool) (H : Hp) (K : Value → Hp → Prop) : Prop :=
 newB (.cells #[(.int .u64 sStir1), (.slice sRowsP2 sRowsL3 sRowsC4), (.slice sOutsP5 sOutsL6 sOutsC7), (.bool sOk8)] ty_cycle_Summary) H fun b14 Hx15 =>
 newB (.cells #[(.int .i64 xNode10), (.int .u64 xSerial11)] ty_api_ID) Hx15 fun b16 Hx17 =>
 newB (.cells #[(.int .i64 0), (.slice none 0 0)] ty_witness_Said) Hx17 fun b18 Hx19 =>
 ldSl ⟨b14, 2, none⟩ Hx19 fun OutsP20 OutsL21 OutsC22 =>
 hcall PR f_slices_ContainsFunc_Sapi_Out_api_Out ⟨[(.slice OutsP20 OutsL21 OutsC22), (.func (.func f_witness_Out_1) #[] #[(.pointer (some ⟨b16, 0, none⟩))])]⟩ Hx19 fun v23 Hx24 =>
 asB v23 fun t25 =>
 ldB ⟨b14, 3, none⟩ Hx24 fun Ok26 =>
 (bif (!Ok26) then
 st ⟨b18, 0, none⟩ (.int .i64 1) Hx24 fun Hx27 =>
 st ⟨b18, 1, none⟩ (.slice none 0 0) Hx27 fun Hx28 =>
 ldI .i64 ⟨b18, 0, none⟩ Hx28 fun Code29 =>
 ldSl ⟨b18, 1, none⟩ Hx28 fun ListP30 ListL31 ListC32 =>
 K (.agg #[(.int .i64 Code29), (.slice ListP30 ListL31 ListC32)]) Hx28
else
 ldI .u64 ⟨b14, 0, none⟩ Hx24 fun Stir33 =>
 (bif ((Stir33 : Int) != stir9) then
 st ⟨b18, 0, none⟩ (.int .i64 1) Hx24 fun Hx34 =>
 st ⟨b18, 1, none⟩ (.slice none 0 0) Hx34 fun Hx35 =>
 ldI .i64 ⟨b18, 0, none⟩ Hx35 fun Code36 =>
 ldSl ⟨b18, 1, none⟩ Hx35 fun ListP37 ListL38 ListC39 =>
 K (.agg #[(.int .i64 Code36), (.slice ListP37 ListL38 ListC39)]) Hx35
else
 (bif pinned13 then
 st ⟨b18, 0, none⟩ (.int .i64 1) Hx24 fun Hx40 =>
 st ⟨b18, 1, none⟩ (.slice none 0 0) Hx40 fun Hx41 =>
 ldI .i64 ⟨b18, 0, none⟩ Hx41 fun Code42 =>
 ldSl ⟨b18, 1, none⟩ Hx41 fun ListP43 ListL44 ListC45 =>
 K (.agg #[(.int .i64 Code42), (.slice ListP43 ListL44 ListC45)]) Hx41
else
 (bif ((state12 : Int) == 1) then
 st ⟨b18, 0, none⟩ (.int .i64 1) Hx24 fun Hx46 =>
 st ⟨b18, 1, none⟩ (.slice none 0 0) Hx46 fun Hx47 =>
 ldI .i64 ⟨b18, 0, none⟩ Hx47 fun Code48 =>
 ldSl ⟨b18, 1, none⟩ Hx47 fun ListP49 ListL50 ListC51 =>
 K (.agg #[(.int .i64 Code48), (.slice ListP49 ListL50 ListC51)]) Hx47
else
 (bif ((state12 : Int) != 2) then
 st ⟨b18, 0, none⟩ (.int .i64 0) Hx24 fun Hx52 =>
 st ⟨b18, 1, none⟩ (.slice none 0 0) Hx52 fun Hx53 =>
 ldI .i64 ⟨b18, 0, none⟩ Hx53 fun Code54 =>
 ldSl ⟨b18, 1, none⟩ Hx53 fun ListP55 ListL56 ListC57 =>
 K (.agg #[(.int .i64 Code54), (.slice ListP55 ListL56 ListC57)]) Hx53
else
 (bif (!t25) then
 st ⟨b18, 0, none⟩ (.int .i64 1) Hx24 fun Hx58 =>
 st ⟨b18, 1, none⟩ (.slice none 0 0) Hx58 fun Hx59 =>
 ldI .i64 ⟨b18, 0, none⟩ Hx59 fun Code60 =>
 ldSl ⟨b18, 1, none⟩ Hx59 fun ListP61 ListL62 ListC63 =>
 K (.agg #[(.int .i64 Code60), (.slice ListP61 ListL62 ListC63)]) Hx59
else
 ldSl ⟨b14, 1, none⟩ Hx24 fun RowsP64 RowsL65 RowsC66 =>
 ∃ (I67 : Option Addr → Nat → Nat → Int → Hp → Prop) (m68 : Option Addr → Nat → Nat → Int → Hp → Nat), I67 none 0 0 0 Hx24 ∧ ∀ insP70 : Option Addr, ∀ insL71 : Nat, ∀ insC72 : Nat, ∀ t73 : Int, ∀ Hx69 : Hp, I67 insP70 insL71 insC72 t73 Hx69 →
 (bif (decide ((t73 : Int) < (RowsL65 : Int))) then
 ∀ R74 : Option Addr → Nat → Nat → Hp → Prop, (∀ insP76 : Option Addr, ∀ insL77 : Nat, ∀ insC78 : Nat, ∀ Hx75 : Hp, (
 I67 insP76 insL77 insC78 (IntKind.i64.wrap (t73 + 1)) Hx75 ∧ m68 insP76 insL77 insC78 (IntKind.i64.wrap (t73 + 1)) Hx75 < m68 insP70 insL71 insC72 t73 Hx69) → R74 insP76 insL77 insC78 Hx75) →
 idxA RowsP64 RowsL65 t73 2 fun el79 =>
 ldI .u64 el79 Hx69 fun In80 =>
 ldSl (el79.add 1) Hx69 fun OutsP81 OutsL82 OutsC83 =>
 newB (.cells #[(.int .u64 0), (.slice none 0 0)] ty_api_Reach) Hx69 fun b84 Hx85 =>
 st ⟨b84, 0, none⟩ (.int .u64 In80) Hx85 fun Hx86 =>
 st ⟨b84, 1, none⟩ (.slice OutsP81 OutsL82 OutsC83) Hx86 fun Hx87 =>
 ldSl ⟨b84, 1, none⟩ Hx87 fun OutsP88 OutsL89 OutsC90 =>
 ldI .i64 ⟨b16, 0, none⟩ Hx87 fun Node91 =>
 ldI .u64 ⟨b16, 1, none⟩ Hx87 fun Serial92 =>
 hcall PR f_slices_Contains_Sapi_ID_api_ID ⟨[(.slice OutsP88 OutsL89 OutsC90), (.agg #[(.int .i64 Node91), (.int .u64 Serial92)])]⟩ Hx87 fun v93 Hx94 =>
 asB v93 fun t95 =>
 (bif t95 then
 ldI .u64 ⟨b84, 0, none⟩ Hx94 fun In96 =>
 newB (.cells #[(.int .u64 In96)] ty_uint64) Hx94 fun b97 Hx98 =>
 evW PR (Builtin.append_ #[ty_Suint64, ty_Suint64] ty_Suint64 #[(.slice insP70 insL71 insC72), (.slice (some ⟨b97, 0, none⟩) 1 1)]) Hx98 fun v99 Hx100 =>
 asSl v99 fun tP101 tL102 tC103 =>
 R74 tP101 tL102 tC103 Hx100
else
 R74 insP70 insL71 insC72 Hx94)
else
 hcall PR f_slices_Sort_Suint64_uint64 ⟨[(.slice insP70 insL71 insC72)]⟩ Hx69 fun v104 Hx105 =>
 hcall PR f_slices_Compact_Suint64_uint64 ⟨[(.slice insP70 insL71 insC72)]⟩ Hx105 fun v106 Hx107 =>
 asSl v106 fun tP108 tL109 tC110 =>
 hcall PR f_witness_said ⟨[(.slice tP108 tL109 tC110)]⟩ Hx107 fun v111 Hx112 =>
 agg2 v111 fun v113 v114 =>
 asI .i64 v113 fun Code115 =>
 asSl v114 fun ListP116 ListL117 ListC118 =>
 st ⟨b18, 0, none⟩ (.int .i64 Code115) Hx112 fun Hx119 =>
 st ⟨b18, 1, none⟩ (.slice ListP116 ListL117 ListC118) Hx119 fun Hx120 =>
 ldI .i64 ⟨b18, 0, none⟩ Hx120 fun Code121 =>
 ldSl ⟨b18, 1, none⟩ Hx120 fun ListP122 ListL123 ListC124 =>
 K (.agg #[(.int .i64 Code121), (.slice ListP122 ListL123 ListC124)]) Hx120)))))))
theorem E_witness_Out (sStir1 : Int) (sRowsP2 : Option Addr) (sRowsL3 : Nat) (sRowsC4 : Nat) (sOutsP5 : Option Addr) (sOutsL6 : Nat) (sOutsC7 : Nat) (sOk8 : Bool) (stir9 : Int) (xNode10 : Int) (xSerial11 : Int) (state12 : Int) (pinned13 : Bool) (H : Hp) (K : Value → Hp → Prop) : B_witness_Out sStir1 sRowsP2 sRowsL3 sRowsC4 sOutsP5 sOutsL6 sOutsC7 sOk8 stir9 xNode10 xSerial11 state12 pinned13 H K = denF Try.prog Try.f22 (.seq none .n (.seq none .n (.seq none .n (.seq none .n (.seq none (.seq none .n (.sub (.loop ⟨[(12, .sl), (48, .int .i64)], [7, 10, 46, 47]⟩ (.seq none .n (.seq none .n (.seq (some ⟨[(12, .sl)], [7, 10, 46, 47, 48]⟩) .n .n)))))) .n))))) [(.agg #[(.int .u64 sStir1), (.slice sRowsP2 sRowsL3 sRowsC4), (.slice sOutsP5 sOutsL6 sOutsC7), (.bool sOk8)]), (.int .u64 stir9), (.agg #[(.int .i64 xNode10), (.int .u64 xSerial11)]), (.int .i64 state12), (.bool pinned13)] H K := by kernel_rfl
theorem den_witness_Out {sStir1 : Int} {sRowsP2 : Option Addr} {sRowsL3 : Nat} {sRowsC4 : Nat} {sOutsP5 : Option Addr} {sOutsL6 : Nat} {sOutsC7 : Nat} {sOk8 : Bool} {stir9 : Int} {xNode10 : Int} {xSerial11 : Int} {state12 : Int} {pinned13 : Bool} {H : Hp} {K : Value → Hp → Prop} (h : B_witness_Out sStir1 sRowsP2 sRowsL3 sRowsC4 sOutsP5 sOutsL6 sOutsC7 sOk8 stir9 xNode10 xSerial11 state12 pinned13 H K) : hcall PR f_witness_Out ⟨[(.agg #[(.int .u64 sStir1), (.slice sRowsP2 sRowsL3 sRowsC4), (.slice sOutsP5 sOutsL6 sOutsC7), (.bool sOk8)]), (.int .u64 stir9), (.agg #[(.int .i64 xNode10), (.int .u64 xSerial11)]), (.int .i64 state12), (.bool pinned13)]⟩ H K := denF_call Try.func22 PR_mixed (Eq.mp (E_witness_Out sStir1 sRowsP2 sRowsL3 sRowsC4 sOutsP5 sOutsL6 sOutsC7 sOk8 stir9 xNode10 xSerial11 state12 pinned13 H K) h)

def B_witness_In_1 (rIn1 : Int) (rOutsP2 : Option Addr) (rOutsL3 : Nat) (rOutsC4 : Nat) (cap5 : Option Addr) (H : Hp) (K : Value → Hp → Prop) : Prop :=
 newB (.cells #[(.int .u64 rIn1), (.slice rOutsP2 rOutsL3 rOutsC4)] ty_api_Reach) H fun b6 Hx7 =>
 ldI .u64 ⟨b6, 0, none⟩ Hx7 fun In8 =>
 asA (.pointer cap5) fun capa9 =>
 ldI .u64 capa9 Hx7 fun t10 =>
 K (.bool ((In8 : Int) == t10)) Hx7
theorem E_witness_In_1 (rIn1 : Int) (rOutsP2 : Option Addr) (rOutsL3 : Nat) (rOutsC4 : Nat) (cap5 : Option Addr) (H : Hp) (K : Value → Hp → Prop) : B_witness_In_1 rIn1 rOutsP2 rOutsL3 rOutsC4 cap5 H K = denF Try.prog Try.f53 .n [(.agg #[(.int .u64 rIn1), (.slice rOutsP2 rOutsL3 rOutsC4)]), (.pointer cap5)] H K := by kernel_rfl
theorem den_witness_In_1 {rIn1 : Int} {rOutsP2 : Option Addr} {rOutsL3 : Nat} {rOutsC4 : Nat} {cap5 : Option Addr} {H : Hp} {K : Value → Hp → Prop} (h : B_witness_In_1 rIn1 rOutsP2 rOutsL3 rOutsC4 cap5 H K) : hcall PR f_witness_In_1 ⟨[(.agg #[(.int .u64 rIn1), (.slice rOutsP2 rOutsL3 rOutsC4)]), (.pointer cap5)]⟩ H K := denF_call Try.func53 PR_mixed (Eq.mp (E_witness_In_1 rIn1 rOutsP2 rOutsL3 rOutsC4 cap5 H K) h)

def B_witness_said (listP1 : Option Addr) (listL2 : Nat) (listC3 : Nat) (H : Hp) (K : Value → Hp → Prop) : Prop :=
 newB (.cells #[(.int .i64 0), (.slice none 0 0)] ty_witness_Said) H fun b4 Hx5 =>
 (bif (decide (((listL2 : Int) : Int) > 64)) then
 st ⟨b4, 0, none⟩ (.int .i64 1) Hx5 fun Hx6 =>
 st ⟨b4, 1, none⟩ (.slice none 0 0) Hx6 fun Hx7 =>
 ldI .i64 ⟨b4, 0, none⟩ Hx7 fun Code8 =>
 ldSl ⟨b4, 1, none⟩ Hx7 fun ListP9 ListL10 ListC11 =>
 K (.agg #[(.int .i64 Code8), (.slice ListP9 ListL10 ListC11)]) Hx7
else
 st ⟨b4, 0, none⟩ (.int .i64 2) Hx5 fun Hx12 =>
 st ⟨b4, 1, none⟩ (.slice listP1 listL2 listC3) Hx12 fun Hx13 =>
 ldI .i64 ⟨b4, 0, none⟩ Hx13 fun Code14 =>
 ldSl ⟨b4, 1, none⟩ Hx13 fun ListP15 ListL16 ListC17 =>
 K (.agg #[(.int .i64 Code14), (.slice ListP15 ListL16 ListC17)]) Hx13)
theorem E_witness_said (listP1 : Option Addr) (listL2 : Nat) (listC3 : Nat) (H : Hp) (K : Value → Hp → Prop) : B_witness_said listP1 listL2 listC3 H K = denF Try.prog Try.f54 .n [(.slice listP1 listL2 listC3)] H K := by kernel_rfl
theorem den_witness_said {listP1 : Option Addr} {listL2 : Nat} {listC3 : Nat} {H : Hp} {K : Value → Hp → Prop} (h : B_witness_said listP1 listL2 listC3 H K) : hcall PR f_witness_said ⟨[(.slice listP1 listL2 listC3)]⟩ H K := denF_call Try.func54 PR_mixed (Eq.mp (E_witness_said listP1 listL2 listC3 H K) h)

def B_witness_Out_1 (oNode1 : Int) (oSerial2 : Int) (oRank3 : Int) (cap4 : Option Addr) (H : Hp) (K : Value → Hp → Prop) : Prop :=
 newB (.cells #[(.int .i64 oNode1), (.int .u64 oSerial2), (.int .i64 oRank3)] ty_api_Out) H fun b5 Hx6 =>
 ldI .i64 ⟨b5, 0, none⟩ Hx6 fun Node7 =>
 ldI .u64 ⟨b5, 1, none⟩ Hx6 fun Serial8 =>
 asA (.pointer cap4) fun capa9 =>
 ldI .i64 capa9 Hx6 fun Node10 =>
 ldI .u64 (capa9.add 1) Hx6 fun Serial11 =>
 evR PR (aggEq .eql ty_api_ID #[(.int .i64 Node7), (.int .u64 Serial8)] #[(.int .i64 Node10), (.int .u64 Serial11)]) Hx6 fun v12 =>
 asB v12 fun eq13 =>
 K (.bool eq13) Hx6
theorem E_witness_Out_1 (oNode1 : Int) (oSerial2 : Int) (oRank3 : Int) (cap4 : Option Addr) (H : Hp) (K : Value → Hp → Prop) : B_witness_Out_1 oNode1 oSerial2 oRank3 cap4 H K = denF Try.prog Try.f56 .n [(.agg #[(.int .i64 oNode1), (.int .u64 oSerial2), (.int .i64 oRank3)]), (.pointer cap4)] H K := by kernel_rfl
theorem den_witness_Out_1 {oNode1 : Int} {oSerial2 : Int} {oRank3 : Int} {cap4 : Option Addr} {H : Hp} {K : Value → Hp → Prop} (h : B_witness_Out_1 oNode1 oSerial2 oRank3 cap4 H K) : hcall PR f_witness_Out_1 ⟨[(.agg #[(.int .i64 oNode1), (.int .u64 oSerial2), (.int .i64 oRank3)]), (.pointer cap4)]⟩ H K := denF_call Try.func56 PR_mixed (Eq.mp (E_witness_Out_1 oNode1 oSerial2 oRank3 cap4 H K) h)

end Go.Proofs.Ytknejebggegfjaa

namespace Go.Proofs.Ytknejebggegfjaa
open Go
set_option linter.unusedVariables false
set_option maxRecDepth 100000
end Go.Proofs.Ytknejebggegfjaa

namespace Go.Proofs.Ytknejebggegfjaa
open Go
set_option linter.unusedVariables false
set_option maxRecDepth 100000
def B_law22_known  (H : Hp) (K : Value → Hp → Prop) : Prop :=
 newB (.cells #[(.int .i64 0), (.int .u64 0)] ty_api_ID) H fun b1 Hx2 =>
 st ⟨b1, 0, none⟩ (.int .i64 2) Hx2 fun Hx3 =>
 st ⟨b1, 1, none⟩ (.int .u64 7) Hx3 fun Hx4 =>
 ldI .i64 ⟨b1, 0, none⟩ Hx4 fun Node5 =>
 ldI .u64 ⟨b1, 1, none⟩ Hx4 fun Serial6 =>
 newB (.cells #[(.int .i64 Node5), (.int .u64 Serial6)] ty_api_ID) Hx4 fun b7 Hx8 =>
 newB (.cells #[(.int .u64 5), (.slice (some ⟨b7, 0, none⟩) 1 1)] ty_api_Reach) Hx8 fun b9 Hx10 =>
 ldI .i64 ⟨b1, 0, none⟩ Hx10 fun Node11 =>
 ldI .u64 ⟨b1, 1, none⟩ Hx10 fun Serial12 =>
 newB (.cells #[(.int .i64 Node11), (.int .u64 Serial12), (.int .i64 9)] ty_api_Out) Hx10 fun b13 Hx14 =>
 newB (.cells #[(.int .u64 0), (.slice none 0 0), (.slice none 0 0), (.bool false)] ty_cycle_Summary) Hx14 fun b15 Hx16 =>
 st ⟨b15, 0, none⟩ (.int .u64 3) Hx16 fun Hx17 =>
 st ⟨b15, 1, none⟩ (.slice (some ⟨b9, 0, none⟩) 1 1) Hx17 fun Hx18 =>
 st ⟨b15, 2, none⟩ (.slice (some ⟨b13, 0, none⟩) 1 1) Hx18 fun Hx19 =>
 st ⟨b15, 3, none⟩ (.bool true) Hx19 fun Hx20 =>
 ldI .u64 ⟨b15, 0, none⟩ Hx20 fun Stir21 =>
 ldSl ⟨b15, 1, none⟩ Hx20 fun RowsP22 RowsL23 RowsC24 =>
 ldSl ⟨b15, 2, none⟩ Hx20 fun OutsP25 OutsL26 OutsC27 =>
 ldB ⟨b15, 3, none⟩ Hx20 fun Ok28 =>
 newB (.cells #[(.int .u64 2), (.int .u64 4)] ty_uint64) Hx20 fun b29 Hx30 =>
 hcall PR f_witness_In ⟨[(.agg #[(.int .u64 Stir21), (.slice RowsP22 RowsL23 RowsC24), (.slice OutsP25 OutsL26 OutsC27), (.bool Ok28)]), (.int .u64 3), (.int .u64 5), (.slice (some ⟨b29, 0, none⟩) 2 2), (.bool false)]⟩ Hx30 fun v31 Hx32 =>
 agg2 v31 fun v33 v34 =>
 asI .i64 v33 fun Code35 =>
 asSl v34 fun ListP36 ListL37 ListC38 =>
 newB (.cells #[(.int .i64 0), (.slice none 0 0)] ty_witness_Said) Hx32 fun b39 Hx40 =>
 st ⟨b39, 0, none⟩ (.int .i64 Code35) Hx40 fun Hx41 =>
 st ⟨b39, 1, none⟩ (.slice ListP36 ListL37 ListC38) Hx41 fun Hx42 =>
 ldI .u64 ⟨b15, 0, none⟩ Hx42 fun Stir43 =>
 ldSl ⟨b15, 1, none⟩ Hx42 fun RowsP44 RowsL45 RowsC46 =>
 ldSl ⟨b15, 2, none⟩ Hx42 fun OutsP47 OutsL48 OutsC49 =>
 ldB ⟨b15, 3, none⟩ Hx42 fun Ok50 =>
 newB (.cells #[(.int .u64 2), (.int .u64 4)] ty_uint64) Hx42 fun b51 Hx52 =>
 hcall PR f_witness_In ⟨[(.agg #[(.int .u64 Stir43), (.slice RowsP44 RowsL45 RowsC46), (.slice OutsP47 OutsL48 OutsC49), (.bool Ok50)]), (.int .u64 4), (.int .u64 5), (.slice (some ⟨b51, 0, none⟩) 2 2), (.bool false)]⟩ Hx52 fun v53 Hx54 =>
 agg2 v53 fun v55 v56 =>
 asI .i64 v55 fun Code57 =>
 asSl v56 fun ListP58 ListL59 ListC60 =>
 newB (.cells #[(.int .i64 0), (.slice none 0 0)] ty_witness_Said) Hx54 fun b61 Hx62 =>
 st ⟨b61, 0, none⟩ (.int .i64 Code57) Hx62 fun Hx63 =>
 st ⟨b61, 1, none⟩ (.slice ListP58 ListL59 ListC60) Hx63 fun Hx64 =>
 ldI .u64 ⟨b15, 0, none⟩ Hx64 fun Stir65 =>
 ldSl ⟨b15, 1, none⟩ Hx64 fun RowsP66 RowsL67 RowsC68 =>
 ldSl ⟨b15, 2, none⟩ Hx64 fun OutsP69 OutsL70 OutsC71 =>
 ldB ⟨b15, 3, none⟩ Hx64 fun Ok72 =>
 ldI .i64 ⟨b1, 0, none⟩ Hx64 fun Node73 =>
 ldI .u64 ⟨b1, 1, none⟩ Hx64 fun Serial74 =>
 hcall PR f_witness_Out ⟨[(.agg #[(.int .u64 Stir65), (.slice RowsP66 RowsL67 RowsC68), (.slice OutsP69 OutsL70 OutsC71), (.bool Ok72)]), (.int .u64 3), (.agg #[(.int .i64 Node73), (.int .u64 Serial74)]), (.int .i64 2), (.bool false)]⟩ Hx64 fun v75 Hx76 =>
 agg2 v75 fun v77 v78 =>
 asI .i64 v77 fun Code79 =>
 asSl v78 fun ListP80 ListL81 ListC82 =>
 newB (.cells #[(.int .i64 0), (.slice none 0 0)] ty_witness_Said) Hx76 fun b83 Hx84 =>
 st ⟨b83, 0, none⟩ (.int .i64 Code79) Hx84 fun Hx85 =>
 st ⟨b83, 1, none⟩ (.slice ListP80 ListL81 ListC82) Hx85 fun Hx86 =>
 ldI .u64 ⟨b15, 0, none⟩ Hx86 fun Stir87 =>
 ldSl ⟨b15, 1, none⟩ Hx86 fun RowsP88 RowsL89 RowsC90 =>
 ldSl ⟨b15, 2, none⟩ Hx86 fun OutsP91 OutsL92 OutsC93 =>
 ldB ⟨b15, 3, none⟩ Hx86 fun Ok94 =>
 ldI .i64 ⟨b1, 0, none⟩ Hx86 fun Node95 =>
 ldI .u64 ⟨b1, 1, none⟩ Hx86 fun Serial96 =>
 hcall PR f_witness_Out ⟨[(.agg #[(.int .u64 Stir87), (.slice RowsP88 RowsL89 RowsC90), (.slice OutsP91 OutsL92 OutsC93), (.bool Ok94)]), (.int .u64 3), (.agg #[(.int .i64 Node95), (.int .u64 Serial96)]), (.int .i64 0), (.bool false)]⟩ Hx86 fun v97 Hx98 =>
 agg2 v97 fun v99 v100 =>
 asI .i64 v99 fun Code101 =>
 asSl v100 fun ListP102 ListL103 ListC104 =>
 newB (.cells #[(.int .i64 0), (.slice none 0 0)] ty_witness_Said) Hx98 fun b105 Hx106 =>
 st ⟨b105, 0, none⟩ (.int .i64 Code101) Hx106 fun Hx107 =>
 st ⟨b105, 1, none⟩ (.slice ListP102 ListL103 ListC104) Hx107 fun Hx108 =>
 ldI .i64 ⟨b39, 0, none⟩ Hx108 fun Code109 =>
 (bif ((Code109 : Int) == 2) then
 ldSl ⟨b39, 1, none⟩ Hx108 fun ListP110 ListL111 ListC112 =>
 newB (.cells #[(.int .u64 2), (.int .u64 4)] ty_uint64) Hx108 fun b113 Hx114 =>
 hcall PR f_ref2_Numbers ⟨[(.slice ListP110 ListL111 ListC112), (.slice (some ⟨b113, 0, none⟩) 2 2)]⟩ Hx114 fun v115 Hx116 =>
 asB v115 fun t117 =>
 (bif t117 then
 ldI .i64 ⟨b61, 0, none⟩ Hx116 fun Code118 =>
 (bif ((Code118 : Int) == 1) then
 ldSl ⟨b61, 1, none⟩ Hx116 fun ListP119 ListL120 ListC121 =>
 (bif (((ListL120 : Int) : Int) == 0) then
 ldI .i64 ⟨b83, 0, none⟩ Hx116 fun Code122 =>
 (bif ((Code122 : Int) == 2) then
 ldSl ⟨b83, 1, none⟩ Hx116 fun ListP123 ListL124 ListC125 =>
 newB (.cells #[(.int .u64 5)] ty_uint64) Hx116 fun b126 Hx127 =>
 hcall PR f_ref2_Numbers ⟨[(.slice ListP123 ListL124 ListC125), (.slice (some ⟨b126, 0, none⟩) 1 1)]⟩ Hx127 fun v128 Hx129 =>
 asB v128 fun t130 =>
 (bif t130 then
 ldI .i64 ⟨b105, 0, none⟩ Hx129 fun Code131 =>
 K (.bool ((Code131 : Int) == 0)) Hx129
else
 K (.bool false) Hx129)
else
 K (.bool false) Hx116)
else
 K (.bool false) Hx116)
else
 K (.bool false) Hx116)
else
 K (.bool false) Hx116)
else
 K (.bool false) Hx108)
theorem E_law22_known  (H : Hp) (K : Value → Hp → Prop) : B_law22_known  H K = denF Try.prog Try.f20 .n [] H K := by kernel_rfl
theorem den_law22_known  {H : Hp} {K : Value → Hp → Prop} (h : B_law22_known  H K) : hcall PR f_law22_known ⟨[]⟩ H K := denF_call Try.func20 PR_mixed (Eq.mp (E_law22_known  H K) h)

end Go.Proofs.Ytknejebggegfjaa

namespace Go.Proofs.Ytknejebggegfjaa
set_option linter.unusedSimpArgs false
set_option linter.unusedVariables false
set_option maxRecDepth 20000
open Go
/-- A row of a summary: its number, and where its references lie. -/
abbrev RwT := Int × SlT
def rwC (r : RwT) : List Value := [.int .u64 r.1, slW r.2]
theorem rwC_len (r : RwT) : (rwC r).length = 2 := rfl
def wId (x : Id) : List Value := [.int .i64 x.n, .int .u64 x.s]
theorem wId_len (x : Id) : (wId x).length = 2 := rfl
def ouC (x : Id × Int) : List Value := [.int .i64 x.1.n, .int .u64 x.1.s, .int .i64 x.2]
theorem ouC_len (x : Id × Int) : (ouC x).length = 3 := rfl
/-- What is said of an object. -/
def inS (ok : Bool) (s stir serial : Int) (ins : List Int) (holders : List Int) (pinned : Bool) : Int × List Int :=
  if ok = false then (1, []) else if s ≠ stir then (1, []) else if pinned then (1, []) else if holders.length = 0 then (0, [])
  else if ins.any (fun n => decide (n = serial)) = false then (1, []) else if holders.length > 64 then (1, []) else (2, holders)
section
variable {H0 H : Hp} {L M N : List Prt} {i k : Nat} {K : Value → Hp → Prop}
theorem u_one {l : List Int} : ∀ z ∈ l.map (Value.int .u64), one z = true := fun z hz => by
  obtain ⟨x, _, rfl⟩ := List.mem_map.1 hz
  rfl
theorem hasRowC {v : Int} {b : Nat} {p : Option Addr} {n cap : Nat} {l : List RwT} (h : St H0 L H) (hi : L[i]? = some (Prt.one b (.cells #[.int .u64 v] ty_uint64 (0, 0)))) (hn : n ≤ 9223372036854775807) (hrd : ∀ H', St H0 L H' → Rd H' 2 p n (cel rwC l)) (hK : ∀ H', St H0 L H' → K (.bool ((l.map (·.1)).any fun z => decide (z = v))) H') :
    hcall PR f_slices_ContainsFunc_Sapi_Reach_api_Reach ⟨[.slice p n cap, .func (.func f_witness_In_1) #[] #[.pointer (some ⟨b, 0, none⟩)]]⟩ H K := by
  apply den_slices_ContainsFunc_Sapi_Reach_api_Reach
  unfold B_slices_ContainsFunc_Sapi_Reach_api_Reach
  apply den_slices_IndexFunc_Sapi_Reach_api_Reach
  unfold B_slices_IndexFunc_Sapi_Reach_api_Reach
  have hl : n = l.length := by
    have := (hrd H h).1
    rw [cel_len rwC_len] at this
    omega
  refine ⟨fun q H' => ∃ m : Nat, q = m ∧ m ≤ n ∧ (∀ j z, j < m → l[j]? = some z → z.1 ≠ v) ∧ St H0 L H', fun q _ => ((n : Int) - q).toNat, ⟨0, rfl, by omega, fun j z hj => absurd hj (Nat.not_lt_zero _), h⟩, ?_⟩
  clear h
  rintro q H1 ⟨m, rfl, hm, hno, h1⟩
  by_cases hc : (m : Int) < (n : Int)
  · have hml : m < l.length := by omega
    have hme := List.getElem?_eq_getElem hml
    have hgd : l.getD (m : Int).toNat (0, (none, 0, 0)) = l[m] := by rw [Int.toNat_natCast, List.getD_eq_getElem?_getD, hme]; rfl
    refine bif_pos hc (idxS rwC_len (0, (none, 0, 0)) (hrd H1 h1) (by omega) (by omega) hc fun b' o' _ _ hcc => ?_)
    rw [hgd] at hcc
    (try simp only [asI_mk', asB_mk, asP_mk, asA_mk, asM_mk, asSl_mk, asStr_mk, tup2_mk, tup3_mk, agg1_mk, agg2_mk, agg3_mk, agg4_mk, asAggm, unCons_mk, unNil_mk, asTup_mk, extractD0, extractD1, List.toList_toArray, nilP_mk, add_mk, Nat.zero_add, Nat.add_zero, condT, condF, Bool.not_true, Bool.not_false, Option.isNone_some, Option.isNone_none])
    refine ldI_of (hcc 0 (by omega)) (ldSl_of (hcc 1 (by omega)) ?_)
    apply den_witness_In_1
    unfold B_witness_In_1
    intro b6 hb6
    have h2 := h1.alloc (o := .cells #[.int .u64 l[m].1, .slice l[m].2.1 l[m].2.2.1 l[m].2.2.2] ty_api_Reach) hb6
    (try simp only [asI_mk', asB_mk, asP_mk, asA_mk, asM_mk, asSl_mk, asStr_mk, tup2_mk, tup3_mk, agg1_mk, agg2_mk, agg3_mk, agg4_mk, asAggm, unCons_mk, unNil_mk, asTup_mk, extractD0, extractD1, List.toList_toArray, nilP_mk, add_mk, Nat.zero_add, Nat.add_zero, condT, condF, Bool.not_true, Bool.not_false, Option.isNone_some, Option.isNone_none])
    have hi2 : (Prt.one b6 (.cells #[.int .u64 l[m].1, .slice l[m].2.1 l[m].2.2.1 l[m].2.2.2] ty_api_Reach (0, 0)) :: L)[i + 1]? = _ := hi
    refine ldI_of (h2.cell (i := 0) rfl rfl) (ldI_of (h2.cell hi2 rfl) ?_)
    by_cases hs : l[m].1 = v
    · refine bif_eq hs ?_
      (try simp only [asI_mk', asB_mk, asP_mk, asA_mk, asM_mk, asSl_mk, asStr_mk, tup2_mk, tup3_mk, agg1_mk, agg2_mk, agg3_mk, agg4_mk, asAggm, unCons_mk, unNil_mk, asTup_mk, extractD0, extractD1, List.toList_toArray, nilP_mk, add_mk, Nat.zero_add, Nat.add_zero, condT, condF, Bool.not_true, Bool.not_false, Option.isNone_some, Option.isNone_none])
      rw [show decide ((m : Int) ≥ 0) = true by simp]
      have e : ((l.map (·.1)).any fun z => decide (z = v)) = true := List.any_eq_true.2 ⟨l[m].1, List.mem_map.2 ⟨l[m], List.getElem_mem hml, rfl⟩, decide_eq_true hs⟩
      rw [e] at hK
      exact hK _ h2.less
    · refine bif_ne hs ?_
      rw [wrap_i64 (by omega) (by omega)]
      refine ⟨⟨m + 1, by omega, by omega, fun j z hj hz => ?_, h2.less⟩, by (try dsimp only); omega⟩
      rcases Nat.lt_succ_iff_lt_or_eq.1 hj with hj | rfl
      · exact hno j z hj hz
      · rw [hme] at hz; cases hz; exact hs
  · refine bif_neg hc ?_
    (try simp only [asI_mk', asB_mk, asP_mk, asA_mk, asM_mk, asSl_mk, asStr_mk, tup2_mk, tup3_mk, agg1_mk, agg2_mk, agg3_mk, agg4_mk, asAggm, unCons_mk, unNil_mk, asTup_mk, extractD0, extractD1, List.toList_toArray, nilP_mk, add_mk, Nat.zero_add, Nat.add_zero, condT, condF, Bool.not_true, Bool.not_false, Option.isNone_some, Option.isNone_none])
    have e : ((l.map (·.1)).any fun z => decide (z = v)) = false := by
      rw [List.any_eq_false]
      intro z hz hs
      obtain ⟨r, hr, rfl⟩ := List.mem_map.1 hz
      obtain ⟨j, hj, e⟩ := List.mem_iff_getElem.1 hr
      exact hno j r (by omega) (by rw [List.getElem?_eq_getElem hj, e]) (of_decide_eq_true hs)
    rw [e] at hK
    exact hK H1 h1
/-- An answer of the program's. -/
theorem saidC {p : Option Addr} {n cap : Nat} (h : St H0 L H) (hK : ∀ H', St H0 L H' → K (if n > 64 then .agg #[.int .i64 1, .slice none 0 0] else .agg #[.int .i64 2, .slice p n cap]) H') : hcall PR f_witness_said ⟨[.slice p n cap]⟩ H K := by
  apply den_witness_said
  unfold B_witness_said
  intro b4 hb4
  have g1 := h.alloc (o := .cells #[.int .i64 0, .slice none 0 0] ty_witness_Said) hb4
  by_cases hn : n > 64
  · rw [if_pos hn] at hK
    refine bif_pos (by omega) (St.sets (i := 0) (o := 0) (vs := [.int .i64 1, .slice none 0 0]) g1 rfl (by simp) fun H2 g2 => ?_)
    rw [setsA_all (by rfl)] at g2
    exact ldI_of (g2.cell (i := 0) rfl rfl) (ldSl_of (g2.cell (i := 0) rfl rfl) (hK H2 g2.less))
  · rw [if_neg hn] at hK
    refine bif_neg (by omega) (St.sets (i := 0) (o := 0) (vs := [.int .i64 2, .slice p n cap]) g1 rfl (by simp) fun H2 g2 => ?_)
    rw [setsA_all (by rfl)] at g2
    exact ldI_of (g2.cell (i := 0) rfl rfl) (ldSl_of (g2.cell (i := 0) rfl rfl) (hK H2 g2.less))
theorem sa2 {b : Nat} {v1 v2 : Value} {Q : Hp → Prop} (g : St H0 (Prt.one b (.cells #[.int .i64 0, .slice none 0 0] ty_witness_Said (0, 0)) :: L) H) (hQ : ∀ H', St H0 (Prt.one b (.cells #[v1, v2] ty_witness_Said (0, 0)) :: L) H' → Q H') :
    st ⟨b, 0, none⟩ v1 H fun H1 => st ⟨b, 1, none⟩ v2 H1 Q := by
  refine St.sets (i := 0) (o := 0) (vs := [v1, v2]) g rfl (by simp) fun H2 g2 => ?_
  rw [setsA_all (by rfl)] at g2
  exact hQ H2 g2
theorem witInC {rp op hp : Option Addr} {rl rc ol oc hl hc : Nat} {s stir serial : Int} {ok pinned : Bool} {ts : List RwT} {holders : List Int} (h : St H0 L H) (hrl : rl ≤ 9223372036854775807) (hrr : ∀ N H', St H0 (N ++ L) H' → Rd H' 2 rp rl (cel rwC ts))
    (hhr : ∀ N H', St H0 (N ++ L) H' → Rd H' 1 hp hl (holders.map (Value.int .u64))) (hhl : hl * 8 ≤ 140737488351232)
    (hK : ∀ p n cap H', St H0 (Prt.row 1 p n cap ((inS ok s stir serial (ts.map (·.1)) holders pinned).2.map (Value.int .u64)) :: L) H' → K (.agg #[.int .i64 (inS ok s stir serial (ts.map (·.1)) holders pinned).1, .slice p n cap]) H') :
    hcall PR f_witness_In ⟨[.agg #[.int .u64 s, .slice rp rl rc, .slice op ol oc, .bool ok], .int .u64 stir, .int .u64 serial, .slice hp hl hc, .bool pinned]⟩ H K := by
  apply den_witness_In
  unfold B_witness_In
  have hll : holders.length = hl := by simpa using (hhr [] H h).1
  intro b15 hb15
  have g1 := h.alloc (o := .cells #[.int .u64 s, .slice rp rl rc, .slice op ol oc, .bool ok] ty_cycle_Summary) hb15
  intro b17 hb17
  have g2 := g1.alloc (o := .cells #[.int .u64 serial] ty_uint64) hb17
  intro b19 hb19
  have g3 := g2.alloc (o := .cells #[.int .i64 0, .slice none 0 0] ty_witness_Said) hb19
  have g3 : St H0 (Prt.one b19 (.cells #[.int .i64 0, .slice none 0 0] ty_witness_Said (0, 0)) :: Prt.one b17 (.cells #[.int .u64 serial] ty_uint64 (0, 0)) :: Prt.one b15 (.cells #[.int .u64 s, .slice rp rl rc, .slice op ol oc, .bool ok] ty_cycle_Summary (0, 0)) :: L) _ := g3
  clear g1 g2
  refine ldSl_of (g3.cell (i := 2) rfl rfl) (hasRowC g3 (i := 1) rfl hrl (fun H' h' => hrr [_, _, _] H' h') fun H4 g4 => ?_)
  (try simp only [asI_mk', asB_mk, asP_mk, asA_mk, asM_mk, asSl_mk, asStr_mk, tup2_mk, tup3_mk, agg1_mk, agg2_mk, agg3_mk, agg4_mk, asAggm, unCons_mk, unNil_mk, asTup_mk, extractD0, extractD1, List.toList_toArray, nilP_mk, add_mk, Nat.zero_add, Nat.add_zero, condT, condF, Bool.not_true, Bool.not_false, Option.isNone_some, Option.isNone_none])
  have nil : ∀ c : Int, inS ok s stir serial (ts.map (·.1)) holders pinned = (c, []) → (st ⟨b19, 0, none⟩ (.int .i64 c) H4 fun H5 => st ⟨b19, 1, none⟩ (.slice none 0 0) H5 fun H6 => ldI .i64 ⟨b19, 0, none⟩ H6 fun c' => ldSl ⟨b19, 1, none⟩ H6 fun p n cap => K (.agg #[.int .i64 c', .slice p n cap]) H6) := fun c e => by
    refine sa2 g4 fun H5 g5 => ?_
    refine ldI_of (g5.cell (i := 0) rfl rfl) (ldSl_of (g5.cell (i := 0) rfl rfl) ?_)
    have := hK none 0 0 H5
    rw [e] at this
    exact this ((St.lesses (M := [_, _, _]) g5).row (H' := _) (Own.nil 1) ((Goes.refl Nothing _).less fun c hc => absurd hc blk_none))
  refine ldB_of (g4.cell (i := 2) rfl rfl) ?_
  cases ok
  · simp only [Bool.not_false, condT]
    exact nil 1 rfl
  simp only [Bool.not_true, condF]
  refine ldI_of (g4.cell (i := 2) rfl rfl) ?_
  have e0 : inS true s stir serial (ts.map (·.1)) holders pinned = if s ≠ stir then (1, []) else if pinned then (1, []) else if holders.length = 0 then (0, []) else if (ts.map (·.1)).any (fun n => decide (n = serial)) = false then (1, []) else if holders.length > 64 then (1, []) else (2, holders) := rfl
  by_cases hs : s = stir
  rotate_left
  · exact bif_neq hs (nil 1 (by rw [e0, if_pos hs]))
  refine bif_neqf hs ?_
  rw [if_neg (fun h => h hs)] at e0
  cases pinned
  rotate_left
  · simp only [condT]
    exact nil 1 (by rw [e0, if_pos rfl])
  simp only [condF]
  rw [if_neg (by decide)] at e0
  by_cases h0 : (hl : Int) = 0
  · exact bif_eq h0 (nil 0 (by rw [e0, if_pos (by omega)]))
  refine bif_ne h0 ?_
  rw [if_neg (by omega)] at e0
  cases hh : (ts.map (·.1)).any fun z => decide (z = serial)
  · simp only [Bool.not_false, condT]
    exact nil 1 (by rw [e0, if_pos hh])
  simp only [Bool.not_true, condF]
  rw [if_neg (by rw [hh]; decide)] at e0
  intro b59 hb59
  have g5 := g4.alloc (o := .cells #[] ty_uint64) hb59
  refine g5.copyAll (i := 0) rfl tu_ty_Suint64 tu_ty_Suint64 ti_ty_uint64 rfl (by decide) (by decide) (hhr [_, _, _, _] _ g5) u_one (by omega) fun p' cap' H6 g6 => ?_
  (try simp only [asI_mk', asB_mk, asP_mk, asA_mk, asM_mk, asSl_mk, asStr_mk, tup2_mk, tup3_mk, agg1_mk, agg2_mk, agg3_mk, agg4_mk, asAggm, unCons_mk, unNil_mk, asTup_mk, extractD0, extractD1, List.toList_toArray, nilP_mk, add_mk, Nat.zero_add, Nat.add_zero, condT, condF, Bool.not_true, Bool.not_false, Option.isNone_some, Option.isNone_none])
  refine saidC g6 fun H7 g7 => ?_
  have g7 : St H0 (Prt.row 1 p' hl cap' (holders.map (Value.int .u64)) :: Prt.one b19 (.cells #[.int .i64 0, .slice none 0 0] ty_witness_Said (0, 0)) :: Prt.one b17 (.cells #[.int .u64 serial] ty_uint64 (0, 0)) :: Prt.one b15 (.cells #[.int .u64 s, .slice rp rl rc, .slice op ol oc, .bool true] ty_cycle_Summary (0, 0)) :: L) H7 := g7
  by_cases h64 : hl > 64
  · rw [if_pos (by omega)] at e0
    rw [if_pos h64]
    (try simp only [asI_mk', asB_mk, asP_mk, asA_mk, asM_mk, asSl_mk, asStr_mk, tup2_mk, tup3_mk, agg1_mk, agg2_mk, agg3_mk, agg4_mk, asAggm, unCons_mk, unNil_mk, asTup_mk, extractD0, extractD1, List.toList_toArray, nilP_mk, add_mk, Nat.zero_add, Nat.add_zero, condT, condF, Bool.not_true, Bool.not_false, Option.isNone_some, Option.isNone_none])
    refine sa2 g7.less fun H8 g8 => ?_
    refine ldI_of (g8.cell (i := 0) rfl rfl) (ldSl_of (g8.cell (i := 0) rfl rfl) ?_)
    have := hK none 0 0 H8
    rw [e0] at this
    exact this ((St.lesses (M := [_, _, _]) g8).row (H' := _) (Own.nil 1) ((Goes.refl Nothing _).less fun c hc => absurd hc blk_none))
  · rw [if_neg (by omega)] at e0
    rw [if_neg h64]
    (try simp only [asI_mk', asB_mk, asP_mk, asA_mk, asM_mk, asSl_mk, asStr_mk, tup2_mk, tup3_mk, agg1_mk, agg2_mk, agg3_mk, agg4_mk, asAggm, unCons_mk, unNil_mk, asTup_mk, extractD0, extractD1, List.toList_toArray, nilP_mk, add_mk, Nat.zero_add, Nat.add_zero, condT, condF, Bool.not_true, Bool.not_false, Option.isNone_some, Option.isNone_none])
    refine St.sets (i := 1) (o := 0) (vs := [.int .i64 2, .slice p' hl cap']) g7 rfl (by simp) fun H8 g8 => ?_
    rw [setsA_all (by rfl)] at g8
    refine ldI_of (g8.cell (i := 1) rfl rfl) (ldSl_of (g8.cell (i := 1) rfl rfl) ?_)
    have := hK p' hl cap' H8
    rw [e0] at this
    exact this (St.keep1 (N := [_, _, _]) g8)
/-- A summary as it is handed in. -/
structure SumA (H : Hp) (rp : Option Addr) (rl : Nat) (op : Option Addr) (ol : Nat) (ts : List RwT) (ls : List (List Id)) (os : List (Id × Int)) : Prop where
  rows : Rd H 2 rp rl (cel rwC ts)
  rlen : rl * 32 ≤ 140737488351232
  lens : ts.length = ls.length
  each : ∀ (j : Nat) (r : RwT) (l : List Id), ts[j]? = some r → ls[j]? = some l → Rd H 2 r.2.1 r.2.2.1 (cel wId l) ∧ r.2.2.1 * 16 ≤ 140737488351232
  outs : Rd H 3 op ol (cel ouC os)
  olen : ol * 24 ≤ 140737488351232
end
end Go.Proofs.Ytknejebggegfjaa

namespace Go.Proofs.Ytknejebggegfjaa
set_option linter.unusedSimpArgs false
set_option linter.unusedVariables false
set_option maxRecDepth 20000
open Go
section
variable {H0 H : Hp} {L M : List Prt} {i : Nat}
theorem lessU {x y : Int} {K : Value → Hp → Prop} (hK : K (.bool (decide (x < y))) H) : hcall PR f_cmp_Less_uint64 ⟨[.int .u64 x, .int .u64 y]⟩ H K := by
  apply den_cmp_Less_uint64
  unfold B_cmp_Less_uint64
  apply den_cmp_isNaN_uint64
  unfold B_cmp_isNaN_uint64
  (try simp only [asI_mk', asB_mk, asP_mk, asA_mk, asM_mk, asSl_mk, asStr_mk, tup2_mk, tup3_mk, agg1_mk, agg2_mk, agg3_mk, agg4_mk, asAggm, unCons_mk, unNil_mk, asTup_mk, extractD0, extractD1, List.toList_toArray, nilP_mk, add_mk, Nat.zero_add, Nat.add_zero, condT, condF, Bool.not_true, Bool.not_false, Option.isNone_some, Option.isNone_none])
  rw [show (x != x) = false by simp]
  (try simp only [asI_mk', asB_mk, asP_mk, asA_mk, asM_mk, asSl_mk, asStr_mk, tup2_mk, tup3_mk, agg1_mk, agg2_mk, agg3_mk, agg4_mk, asAggm, unCons_mk, unNil_mk, asTup_mk, extractD0, extractD1, List.toList_toArray, nilP_mk, add_mk, Nat.zero_add, Nat.add_zero, condT, condF, Bool.not_true, Bool.not_false, Option.isNone_some, Option.isNone_none])
  exact hK
theorem insU {p : Option Addr} {n cap : Nat} {l : List Int} {K : Value → Hp → Prop} (h : St H0 L H) (hi : L[i]? = some (Prt.row 1 p n cap (l.map (Value.int .u64)))) (hn : n < 4611686018427387904)
    (hK : ∀ H', St H0 (L.set i (Prt.row 1 p n cap ((rise1 l).map (Value.int .u64)))) H' → K (.tuple #[]) H') : hcall PR f_slices_insertionSortOrdered_uint64 ⟨[.slice p n cap, .int .i64 0, .int .i64 n]⟩ H K := by
  have hln : l.length = n := by have := (h.row_own hi).len1; simpa using this
  have hil := ltOfGet hi
  apply den_slices_insertionSortOrdered_uint64
  unfold B_slices_insertionSortOrdered_uint64
  refine ⟨fun t H' => ∃ (y : Nat) (m : List Int), t = ((y + 1 : Nat) : Int) ∧ (y ≤ n) ∧ m.Perm l ∧ Up m (y + 1) ∧ St H0 (L.set i (Prt.row 1 p n cap (m.map (Value.int .u64)))) H', fun t _ => ((n : Int) - t + 1).toNat, ⟨0, l, rfl, by omega, List.Perm.refl _, fun a b h1 h2 => by omega, by rw [List.set_self hi]; exact h⟩, ?_⟩
  rintro t H1 ⟨y, m, rfl, hy, hp, hup, h1⟩
  by_cases hc : ((y + 1 : Nat) : Int) < (n : Int)
  rotate_left
  · refine bif_neg hc (hK H1 ?_)
    have hm : m = rise1 l := by
      refine rise_is hp ?_
      rw [List.pairwise_iff_getElem]
      intro a b ha hb hab
      have hlm := hp.length_eq
      have := hup a b hab (by omega)
      rw [List.getD_eq_getElem?_getD, List.getD_eq_getElem?_getD, List.getElem?_eq_getElem ha, List.getElem?_eq_getElem hb] at this
      exact this
    rw [← hm]
    exact h1
  refine bif_pos hc ?_
  intro R10 hR10
  have hR10 : ∀ (m : List Int) H', m.Perm l → Up m (y + 2) → St H0 (L.set i (Prt.row 1 p n cap (m.map (Value.int .u64)))) H' → R10 H' := fun m H' h1 h2 h3 => by
    refine hR10 H' ?_
    rw [wrap_i64 (by omega) (by omega)]
    exact ⟨⟨y + 1, m, by omega, by omega, h1, h2, h3⟩, by (try dsimp only); omega⟩
  refine ⟨fun t H' => ∃ (j : Nat) (m : List Int), t = j ∧ j ≤ y + 1 ∧ Ins l m (y + 1) j ∧ St H0 (L.set i (Prt.row 1 p n cap (m.map (Value.int .u64)))) H', fun t _ => t.toNat, ⟨y + 1, m, rfl, by omega, ⟨hp, fun a b h1 h2 h3 h4 => hup a b h1 (by omega), fun b h1 h2 => by omega⟩, h1⟩, ?_⟩
  clear h1 hup hp
  clear m
  rintro t H2 ⟨j, m, rfl, hj, hins, h2⟩
  have hlm := hins.perm.length_eq
  by_cases hcj : (j : Int) > 0
  rotate_left
  · refine bif_neg hcj (hR10 m H2 hins.perm (fun a b h1 h2 => ?_) h2)
    by_cases ea : a = j
    · subst ea; exact hins.above b h1 (by omega)
    · exact hins.hole a b h1 (by omega) ea (by omega)
  obtain ⟨j, rfl⟩ : ∃ j', j = j' + 1 := ⟨j - 1, by omega⟩
  have hset : (L.set i (Prt.row 1 p n cap (m.map (Value.int .u64))))[i]? = some (Prt.row 1 p n cap (m.map (Value.int .u64))) := by simp [hil]
  have wj : IntKind.i64.wrap (((j + 1 : Nat) : Int) - 1) = (j : Int) := by rw [wrap_i64 (by omega) (by omega)]; omega
  have rd : ∀ (k : Nat) (Q : Addr → Prop), k < n → (∀ a, hcell H2 a = some (.int .u64 (m.getD k 0)) → Q a) → idxA p n (k : Int) 1 Q := fun k Q hk hQ => by
    refine idx1 (d := (0 : Int)) (h2.row_rd hset) (by omega) (by omega) fun b o _ hcl => hQ _ ?_
    rw [hcl, Int.toNat_natCast]
  refine bif_pos hcj ?_
  rw [wj]
  refine rd (j + 1) _ (by omega) fun a1 c1 => ldI_of c1 (rd j _ (by omega) fun a2 c2 => ldI_of c2 (lessU ?_))
  (try simp only [asI_mk', asB_mk, asP_mk, asA_mk, asM_mk, asSl_mk, asStr_mk, tup2_mk, tup3_mk, agg1_mk, agg2_mk, agg3_mk, agg4_mk, asAggm, unCons_mk, unNil_mk, asTup_mk, extractD0, extractD1, List.toList_toArray, nilP_mk, add_mk, Nat.zero_add, Nat.add_zero, condT, condF, Bool.not_true, Bool.not_false, Option.isNone_some, Option.isNone_none])
  by_cases hlt : m.getD (j + 1) 0 < m.getD j 0
  rotate_left
  · refine bif_neg hlt (hR10 m H2 hins.perm (fun a b h1 h2' => ?_) h2)
    by_cases ea : a = j + 1
    · subst ea; exact hins.above b h1 (by omega)
    · by_cases eb : b = j + 1
      · subst eb
        by_cases ej : a = j
        · subst ej; omega
        · have := hins.hole a j (by omega) (by omega) ea (by omega)
          omega
      · exact hins.hole a b h1 (by omega) ea eb
  refine bif_pos hlt (rd j _ (by omega) fun a3 c3 => ldI_of c3 (rd (j + 1) _ (by omega) fun a4 c4 => ldI_of c4 ?_))
  refine idxA_of (h2.row_rd hset) (by omega) (by omega) fun b o hpp _ => ?_
  simp only [Int.toNat_natCast]
  refine h2.poke (j := (j + 1) * 1) hset hpp (by omega) fun H3 h3 => ?_
  rw [List.set_set] at h3
  have hset3 : (L.set i (Prt.row 1 p n cap ((m.map (Value.int .u64)).set ((j + 1) * 1) (.int .u64 (m.getD j 0)))))[i]? = some (Prt.row 1 p n cap ((m.map (Value.int .u64)).set ((j + 1) * 1) (.int .u64 (m.getD j 0)))) := by simp [hil]
  refine idxA_of (h3.row_rd hset3) (by omega) (by omega) fun b' o' hpp' _ => ?_
  obtain ⟨rfl, rfl⟩ : b = b' ∧ o = o' := by rw [hpp] at hpp'; simpa using hpp'
  simp only [Int.toNat_natCast]
  refine h3.poke (j := j * 1) hset3 hpp (by omega) fun H4 h4 => ?_
  rw [List.set_set, Nat.mul_one, Nat.mul_one, ← List.map_set, ← List.map_set] at h4
  refine ⟨⟨j, (m.set (j + 1) (m.getD j 0)).set j (m.getD (j + 1) 0), rfl, by omega, ⟨(swap_perm (by omega)).trans hins.perm, fun a b h1 h2' h3' h4' => ?_, fun b h1 h2' => ?_⟩, h4⟩, by (try dsimp only); omega⟩
  · rw [swap_get (a := a) (by omega), swap_get (a := b) (by omega), if_neg h3', if_neg h4']
    by_cases ea : a = j + 1
    · rw [if_pos ea, if_neg (by omega)]
      exact hins.hole j b (by omega) h2' (by omega) (by omega)
    · rw [if_neg ea]
      by_cases eb : b = j + 1
      · rw [if_pos eb]
        exact hins.hole a j (by omega) (by omega) ea (by omega)
      · rw [if_neg eb]
        exact hins.hole a b h1 h2' ea eb
  · rw [swap_get (a := j) (by omega), swap_get (a := b) (by omega), if_pos rfl, if_neg (by omega)]
    by_cases eb : b = j + 1
    · rw [if_pos eb]; omega
    · rw [if_neg eb]
      exact hins.above b (by omega) h2'
theorem sortU {p : Option Addr} {n cap : Nat} {l : List Int} {K : Value → Hp → Prop} (h : St H0 L H) (hi : L[i]? = some (Prt.row 1 p n cap (l.map (Value.int .u64)))) (hn : n ≤ 12)
    (hK : ∀ H', St H0 (L.set i (Prt.row 1 p n cap ((rise1 l).map (Value.int .u64)))) H' → K (.tuple #[]) H') : hcall PR f_slices_Sort_Suint64_uint64 ⟨[.slice p n cap]⟩ H K := by
  apply den_slices_Sort_Suint64_uint64
  unfold B_slices_Sort_Suint64_uint64
  rw [wrap_u64' (by omega) (by omega)]
  refine bitsLen_small (by omega) fun z => ?_
  (try simp only [asI_mk', asB_mk, asP_mk, asA_mk, asM_mk, asSl_mk, asStr_mk, tup2_mk, tup3_mk, agg1_mk, agg2_mk, agg3_mk, agg4_mk, asAggm, unCons_mk, unNil_mk, asTup_mk, extractD0, extractD1, List.toList_toArray, nilP_mk, add_mk, Nat.zero_add, Nat.add_zero, condT, condF, Bool.not_true, Bool.not_false, Option.isNone_some, Option.isNone_none])
  apply den_slices_pdqsortOrdered_uint64
  unfold B_slices_pdqsortOrdered_uint64
  refine ⟨fun a b _ _ _ H' => a = 0 ∧ b = n ∧ H' = H, fun _ _ _ _ _ _ => 0, ⟨rfl, rfl, rfl⟩, ?_⟩
  rintro a b lim wb wp H1 ⟨rfl, rfl, rfl⟩
  rw [wrap_i64 (by omega) (by omega)]
  refine bif_pos (by omega) (insU h hi (by omega) fun H2 h2 => ?_)
  (try simp only [asI_mk', asB_mk, asP_mk, asA_mk, asM_mk, asSl_mk, asStr_mk, tup2_mk, tup3_mk, agg1_mk, agg2_mk, agg3_mk, agg4_mk, asAggm, unCons_mk, unNil_mk, asTup_mk, extractD0, extractD1, List.toList_toArray, nilP_mk, add_mk, Nat.zero_add, Nat.add_zero, condT, condF, Bool.not_true, Bool.not_false, Option.isNone_some, Option.isNone_none])
  exact hK H2 h2
end
/-- Each once, where the same stand side by side. -/
def cpt : List Int → List Int
  | [] => []
  | [a] => [a]
  | a :: b :: l => if a = b then cpt (b :: l) else a :: cpt (b :: l)
/-- What is said of a stub. -/
def outS (ok : Bool) (s stir : Int) (os : List Id) (ins : List Int) (x : Id) (state : Int) (pinned : Bool) : Int × List Int :=
  if ok = false then (1, []) else if s ≠ stir then (1, []) else if pinned then (1, []) else if state = 1 then (1, []) else if state ≠ 2 then (0, [])
  else if os.any (fun y => decide (y = x)) = false then (1, []) else if (cpt (rise1 ins)).length > 64 then (1, []) else (2, cpt (rise1 ins))
def insOf (rs : List (Int × List Id)) (x : Id) : List Int := (rs.filter fun r => r.2.any fun y => decide (y = x)).map (·.1)
section
variable {H0 H : Hp} {L M N : List Prt} {i k : Nat} {K : Value → Hp → Prop}
theorem containsC {p : Option Addr} {n cap : Nat} {l : List Id} {x : Id} (h : St H0 L H) (hn : n ≤ 9223372036854775807) (hrd : ∀ N H', St H0 (N ++ L) H' → Rd H' 2 p n (cel wId l)) (hK : ∀ H', St H0 L H' → K (.bool (l.any fun y => decide (y = x))) H') :
    hcall PR f_slices_Contains_Sapi_ID_api_ID ⟨[.slice p n cap, .agg #[.int .i64 x.n, .int .u64 x.s]]⟩ H K := by
  apply den_slices_Contains_Sapi_ID_api_ID
  unfold B_slices_Contains_Sapi_ID_api_ID
  have hl : n = l.length := by
    have := (hrd [] H h).1
    rw [cel_len wId_len] at this
    omega
  intro b6 hb6
  have g1 := h.alloc (o := .cells #[.int .i64 x.n, .int .u64 x.s] ty_api_ID) hb6
  refine ldI_of (g1.cell (i := 0) rfl rfl) (ldI_of (g1.cell (i := 0) rfl rfl) ?_)
  apply den_slices_Index_Sapi_ID_api_ID
  unfold B_slices_Index_Sapi_ID_api_ID
  intro b7 hb7
  have g2 := g1.alloc (o := .cells #[.int .i64 x.n, .int .u64 x.s] ty_api_ID) hb7
  have g2 : St H0 (Prt.one b7 (.cells #[.int .i64 x.n, .int .u64 x.s] ty_api_ID (0, 0)) :: Prt.one b6 (.cells #[.int .i64 x.n, .int .u64 x.s] ty_api_ID (0, 0)) :: L) _ := g2
  refine ⟨fun q H' => ∃ m : Nat, q = m ∧ m ≤ n ∧ (∀ j z, j < m → l[j]? = some z → z ≠ x) ∧ St H0 (Prt.one b7 (.cells #[.int .i64 x.n, .int .u64 x.s] ty_api_ID (0, 0)) :: Prt.one b6 (.cells #[.int .i64 x.n, .int .u64 x.s] ty_api_ID (0, 0)) :: L) H', fun q _ => ((n : Int) - q).toNat, ⟨0, rfl, by omega, fun j z hj => absurd hj (Nat.not_lt_zero _), g2⟩, ?_⟩
  clear h g1 g2
  rintro q H1 ⟨m, rfl, hm, hno, h1⟩
  by_cases hc : (m : Int) < (n : Int)
  · have hml : m < l.length := by omega
    have hme := List.getElem?_eq_getElem hml
    have hgd : l.getD (m : Int).toNat noId = l[m] := by rw [Int.toNat_natCast, List.getD_eq_getElem?_getD, hme]; rfl
    refine bif_pos hc (ldI_of (h1.cell (i := 0) rfl rfl) (ldI_of (h1.cell (i := 0) rfl rfl) (idxS wId_len noId (hrd [_, _] H1 h1) (by omega) (by omega) hc fun b' o' _ _ hcc => ?_)))
    rw [hgd] at hcc
    (try simp only [asI_mk', asB_mk, asP_mk, asA_mk, asM_mk, asSl_mk, asStr_mk, tup2_mk, tup3_mk, agg1_mk, agg2_mk, agg3_mk, agg4_mk, asAggm, unCons_mk, unNil_mk, asTup_mk, extractD0, extractD1, List.toList_toArray, nilP_mk, add_mk, Nat.zero_add, Nat.add_zero, condT, condF, Bool.not_true, Bool.not_false, Option.isNone_some, Option.isNone_none])
    refine ldI_of (hcc 0 (by omega)) (ldI_of (hcc 1 (by omega)) (idEq ?_))
    (try simp only [asI_mk', asB_mk, asP_mk, asA_mk, asM_mk, asSl_mk, asStr_mk, tup2_mk, tup3_mk, agg1_mk, agg2_mk, agg3_mk, agg4_mk, asAggm, unCons_mk, unNil_mk, asTup_mk, extractD0, extractD1, List.toList_toArray, nilP_mk, add_mk, Nat.zero_add, Nat.add_zero, condT, condF, Bool.not_true, Bool.not_false, Option.isNone_some, Option.isNone_none])
    by_cases hs : x = l[m]
    · rw [decide_eq_true (show (⟨x.n, x.s⟩ : Id) = ⟨l[m].n, l[m].s⟩ from hs)]
      simp only [condT]
      (try simp only [asI_mk', asB_mk, asP_mk, asA_mk, asM_mk, asSl_mk, asStr_mk, tup2_mk, tup3_mk, agg1_mk, agg2_mk, agg3_mk, agg4_mk, asAggm, unCons_mk, unNil_mk, asTup_mk, extractD0, extractD1, List.toList_toArray, nilP_mk, add_mk, Nat.zero_add, Nat.add_zero, condT, condF, Bool.not_true, Bool.not_false, Option.isNone_some, Option.isNone_none])
      rw [show decide ((m : Int) ≥ 0) = true by simp]
      have e : (l.any fun z => decide (z = x)) = true := List.any_eq_true.2 ⟨l[m], List.getElem_mem hml, decide_eq_true hs.symm⟩
      rw [e] at hK
      exact hK _ h1.less.less
    · rw [decide_eq_false (show ¬ (⟨x.n, x.s⟩ : Id) = ⟨l[m].n, l[m].s⟩ from hs)]
      simp only [condF]
      rw [wrap_i64 (by omega) (by omega)]
      refine ⟨⟨m + 1, by omega, by omega, fun j z hj hz => ?_, h1⟩, by (try dsimp only); omega⟩
      rcases Nat.lt_succ_iff_lt_or_eq.1 hj with hj | rfl
      · exact hno j z hj hz
      · rw [hme] at hz; cases hz; exact fun h => hs h.symm
  · refine bif_neg hc ?_
    (try simp only [asI_mk', asB_mk, asP_mk, asA_mk, asM_mk, asSl_mk, asStr_mk, tup2_mk, tup3_mk, agg1_mk, agg2_mk, agg3_mk, agg4_mk, asAggm, unCons_mk, unNil_mk, asTup_mk, extractD0, extractD1, List.toList_toArray, nilP_mk, add_mk, Nat.zero_add, Nat.add_zero, condT, condF, Bool.not_true, Bool.not_false, Option.isNone_some, Option.isNone_none])
    have e : (l.any fun z => decide (z = x)) = false := by
      rw [List.any_eq_false]
      intro r hr hs
      obtain ⟨j, hj, e⟩ := List.mem_iff_getElem.1 hr
      exact hno j r (by omega) (by rw [List.getElem?_eq_getElem hj, e]) (of_decide_eq_true hs)
    rw [e] at hK
    exact hK H1 h1.less.less
theorem hasOutC {x : Id} {b : Nat} {p : Option Addr} {n cap : Nat} {l : List (Id × Int)} (h : St H0 L H) (hi : L[i]? = some (Prt.one b (.cells #[.int .i64 x.n, .int .u64 x.s] ty_api_ID (0, 0)))) (hn : n ≤ 9223372036854775807) (hrd : ∀ H', St H0 L H' → Rd H' 3 p n (cel ouC l)) (hK : ∀ H', St H0 L H' → K (.bool ((l.map (·.1)).any fun z => decide (z = x))) H') :
    hcall PR f_slices_ContainsFunc_Sapi_Out_api_Out ⟨[.slice p n cap, .func (.func f_witness_Out_1) #[] #[.pointer (some ⟨b, 0, none⟩)]]⟩ H K := by
  apply den_slices_ContainsFunc_Sapi_Out_api_Out
  unfold B_slices_ContainsFunc_Sapi_Out_api_Out
  apply den_slices_IndexFunc_Sapi_Out_api_Out
  unfold B_slices_IndexFunc_Sapi_Out_api_Out
  have hl : n = l.length := by
    have := (hrd H h).1
    rw [cel_len ouC_len] at this
    omega
  refine ⟨fun q H' => ∃ m : Nat, q = m ∧ m ≤ n ∧ (∀ j z, j < m → l[j]? = some z → z.1 ≠ x) ∧ St H0 L H', fun q _ => ((n : Int) - q).toNat, ⟨0, rfl, by omega, fun j z hj => absurd hj (Nat.not_lt_zero _), h⟩, ?_⟩
  clear h
  rintro q H1 ⟨m, rfl, hm, hno, h1⟩
  by_cases hc : (m : Int) < (n : Int)
  · have hml : m < l.length := by omega
    have hme := List.getElem?_eq_getElem hml
    have hgd : l.getD (m : Int).toNat (noId, 0) = l[m] := by rw [Int.toNat_natCast, List.getD_eq_getElem?_getD, hme]; rfl
    refine bif_pos hc (idxS ouC_len (noId, 0) (hrd H1 h1) (by omega) (by omega) hc fun b' o' _ _ hcc => ?_)
    rw [hgd] at hcc
    (try simp only [asI_mk', asB_mk, asP_mk, asA_mk, asM_mk, asSl_mk, asStr_mk, tup2_mk, tup3_mk, agg1_mk, agg2_mk, agg3_mk, agg4_mk, asAggm, unCons_mk, unNil_mk, asTup_mk, extractD0, extractD1, List.toList_toArray, nilP_mk, add_mk, Nat.zero_add, Nat.add_zero, condT, condF, Bool.not_true, Bool.not_false, Option.isNone_some, Option.isNone_none])
    refine ldI_of (hcc 0 (by omega)) (ldI_of (hcc 1 (by omega)) (ldI_of (hcc 2 (by omega)) ?_))
    apply den_witness_Out_1
    unfold B_witness_Out_1
    intro b6 hb6
    have h2 := h1.alloc (o := .cells #[.int .i64 l[m].1.n, .int .u64 l[m].1.s, .int .i64 l[m].2] ty_api_Out) hb6
    (try simp only [asI_mk', asB_mk, asP_mk, asA_mk, asM_mk, asSl_mk, asStr_mk, tup2_mk, tup3_mk, agg1_mk, agg2_mk, agg3_mk, agg4_mk, asAggm, unCons_mk, unNil_mk, asTup_mk, extractD0, extractD1, List.toList_toArray, nilP_mk, add_mk, Nat.zero_add, Nat.add_zero, condT, condF, Bool.not_true, Bool.not_false, Option.isNone_some, Option.isNone_none])
    have hi2 : (Prt.one b6 (.cells #[.int .i64 l[m].1.n, .int .u64 l[m].1.s, .int .i64 l[m].2] ty_api_Out (0, 0)) :: L)[i + 1]? = _ := hi
    refine ldI_of (h2.cell (i := 0) rfl rfl) (ldI_of (h2.cell (i := 0) rfl rfl) (ldI_of (h2.cell hi2 rfl) (ldI_of (h2.cell hi2 rfl) (idEq ?_))))
    (try simp only [asI_mk', asB_mk, asP_mk, asA_mk, asM_mk, asSl_mk, asStr_mk, tup2_mk, tup3_mk, agg1_mk, agg2_mk, agg3_mk, agg4_mk, asAggm, unCons_mk, unNil_mk, asTup_mk, extractD0, extractD1, List.toList_toArray, nilP_mk, add_mk, Nat.zero_add, Nat.add_zero, condT, condF, Bool.not_true, Bool.not_false, Option.isNone_some, Option.isNone_none])
    by_cases hs : l[m].1 = x
    · rw [decide_eq_true (show (⟨l[m].1.n, l[m].1.s⟩ : Id) = ⟨x.n, x.s⟩ from hs)]
      simp only [condT]
      (try simp only [asI_mk', asB_mk, asP_mk, asA_mk, asM_mk, asSl_mk, asStr_mk, tup2_mk, tup3_mk, agg1_mk, agg2_mk, agg3_mk, agg4_mk, asAggm, unCons_mk, unNil_mk, asTup_mk, extractD0, extractD1, List.toList_toArray, nilP_mk, add_mk, Nat.zero_add, Nat.add_zero, condT, condF, Bool.not_true, Bool.not_false, Option.isNone_some, Option.isNone_none])
      rw [show decide ((m : Int) ≥ 0) = true by simp]
      have e : ((l.map (·.1)).any fun z => decide (z = x)) = true := List.any_eq_true.2 ⟨l[m].1, List.mem_map.2 ⟨l[m], List.getElem_mem hml, rfl⟩, decide_eq_true hs⟩
      rw [e] at hK
      exact hK _ h2.less
    · rw [decide_eq_false (show ¬ (⟨l[m].1.n, l[m].1.s⟩ : Id) = ⟨x.n, x.s⟩ from hs)]
      simp only [condF]
      rw [wrap_i64 (by omega) (by omega)]
      refine ⟨⟨m + 1, by omega, by omega, fun j z hj hz => ?_, h2.less⟩, by (try dsimp only); omega⟩
      rcases Nat.lt_succ_iff_lt_or_eq.1 hj with hj | rfl
      · exact hno j z hj hz
      · rw [hme] at hz; cases hz; exact hs
  · refine bif_neg hc ?_
    (try simp only [asI_mk', asB_mk, asP_mk, asA_mk, asM_mk, asSl_mk, asStr_mk, tup2_mk, tup3_mk, agg1_mk, agg2_mk, agg3_mk, agg4_mk, asAggm, unCons_mk, unNil_mk, asTup_mk, extractD0, extractD1, List.toList_toArray, nilP_mk, add_mk, Nat.zero_add, Nat.add_zero, condT, condF, Bool.not_true, Bool.not_false, Option.isNone_some, Option.isNone_none])
    have e : ((l.map (·.1)).any fun z => decide (z = x)) = false := by
      rw [List.any_eq_false]
      intro z hz hs
      obtain ⟨r, hr, rfl⟩ := List.mem_map.1 hz
      obtain ⟨j, hj, e⟩ := List.mem_iff_getElem.1 hr
      exact hno j r (by omega) (by rw [List.getElem?_eq_getElem hj, e]) (of_decide_eq_true hs)
    rw [e] at hK
    exact hK H1 h1
/-- Sorted, and each once. -/
def SortOk (H0 : Hp) (m : Nat) : Prop := ∀ (l : List Int) (p : Option Addr) (n cap : Nat) (L : List Prt) (H : Hp) (K : Value → Hp → Prop), l.length ≤ m → St H0 (Prt.row 1 p n cap (l.map (Value.int .u64)) :: L) H →
  (∀ p' n' cap' H', St H0 (Prt.row 1 p' n' cap' ((cpt (rise1 l)).map (Value.int .u64)) :: L) H' → K (.slice p' n' cap') H') →
  hcall PR f_slices_Sort_Suint64_uint64 ⟨[.slice p n cap]⟩ H fun v Hx => hcall PR f_slices_Compact_Suint64_uint64 ⟨[.slice p n cap]⟩ Hx K
theorem sortOk1 : SortOk H0 1 := fun l p n cap L H K hl h hK => by
  have hln : l.length = n := by have := (h.row_own (i := 0) rfl).len1; simpa using this
  refine sortU h (i := 0) rfl (by omega) fun H2 h2 => ?_
  apply den_slices_Compact_Suint64_uint64
  unfold B_slices_Compact_Suint64_uint64
  refine bif_pos (by omega) (hK p n cap H2 ?_)
  have : cpt (rise1 l) = rise1 l := by
    match l, hl with
    | [], _ => rfl
    | [a], _ => rfl
    | a :: b :: l, h => simp at h
  rw [this]
  exact h2
theorem insOf_take {rs : List (Int × List Id)} {x : Id} {m : Nat} (hm : m < rs.length) : insOf (rs.take (m + 1)) x = insOf (rs.take m) x ++ (if rs[m].2.any (fun y => decide (y = x)) then [rs[m].1] else []) := by
  unfold insOf
  rw [List.take_succ_eq_append_getElem hm, List.filter_append, List.map_append]
  congr 1
  by_cases h : (rs[m].2.any fun y => decide (y = x)) = true
  · rw [if_pos h, List.filter_cons_of_pos (p := fun r : Int × List Id => r.2.any fun y => decide (y = x)) h]; rfl
  · rw [if_neg h, List.filter_cons_of_neg (p := fun r : Int × List Id => r.2.any fun y => decide (y = x)) h]; rfl
theorem witOutC {rp op : Option Addr} {rl rc ol oc : Nat} {s stir state : Int} {ok pinned : Bool} {x : Id} {ts : List RwT} {ls : List (List Id)} {os : List (Id × Int)} (h : St H0 L H) (hrl : rl * 32 ≤ 140737488351232) (hol : ol ≤ 9223372036854775807)
    (hrr : ∀ N H', St H0 (N ++ L) H' → Rd H' 2 rp rl (cel rwC ts)) (hlen : ts.length = ls.length) (hel : ∀ (j : Nat) (r : RwT) (l : List Id), ts[j]? = some r → ls[j]? = some l → r.2.2.1 ≤ 9223372036854775807 ∧ ∀ N H', St H0 (N ++ L) H' → Rd H' 2 r.2.1 r.2.2.1 (cel wId l))
    (hor : ∀ N H', St H0 (N ++ L) H' → Rd H' 3 op ol (cel ouC os)) (hsort : SortOk H0 rl)
    (hK : ∀ p n cap H', St H0 (Prt.row 1 p n cap ((outS ok s stir (os.map (·.1)) (insOf ((ts.map (·.1)).zip ls) x) x state pinned).2.map (Value.int .u64)) :: L) H' → K (.agg #[.int .i64 (outS ok s stir (os.map (·.1)) (insOf ((ts.map (·.1)).zip ls) x) x state pinned).1, .slice p n cap]) H') :
    hcall PR f_witness_Out ⟨[.agg #[.int .u64 s, .slice rp rl rc, .slice op ol oc, .bool ok], .int .u64 stir, .agg #[.int .i64 x.n, .int .u64 x.s], .int .i64 state, .bool pinned]⟩ H K := by
  apply den_witness_Out
  unfold B_witness_Out
  have htl : ts.length = rl := by
    have := (hrr [] H h).1
    rw [cel_len rwC_len] at this
    omega
  obtain ⟨rs, hrs⟩ : ∃ rs, rs = (ts.map (·.1)).zip ls := ⟨_, rfl⟩
  rw [← hrs] at hK
  have hrsl : rs.length = rl := by rw [hrs, List.length_zip, List.length_map, ← hlen]; omega
  intro b14 hb14
  have g1 := h.alloc (o := .cells #[.int .u64 s, .slice rp rl rc, .slice op ol oc, .bool ok] ty_cycle_Summary) hb14
  intro b16 hb16
  have g2 := g1.alloc (o := .cells #[.int .i64 x.n, .int .u64 x.s] ty_api_ID) hb16
  intro b18 hb18
  have g3 := g2.alloc (o := .cells #[.int .i64 0, .slice none 0 0] ty_witness_Said) hb18
  have g3 : St H0 (Prt.one b18 (.cells #[.int .i64 0, .slice none 0 0] ty_witness_Said (0, 0)) :: Prt.one b16 (.cells #[.int .i64 x.n, .int .u64 x.s] ty_api_ID (0, 0)) :: Prt.one b14 (.cells #[.int .u64 s, .slice rp rl rc, .slice op ol oc, .bool ok] ty_cycle_Summary (0, 0)) :: L) _ := g3
  clear g1 g2
  refine ldSl_of (g3.cell (i := 2) rfl rfl) (hasOutC g3 (i := 1) rfl hol (fun H' h' => hor [_, _, _] H' h') fun H4 g4 => ?_)
  (try simp only [asI_mk', asB_mk, asP_mk, asA_mk, asM_mk, asSl_mk, asStr_mk, tup2_mk, tup3_mk, agg1_mk, agg2_mk, agg3_mk, agg4_mk, asAggm, unCons_mk, unNil_mk, asTup_mk, extractD0, extractD1, List.toList_toArray, nilP_mk, add_mk, Nat.zero_add, Nat.add_zero, condT, condF, Bool.not_true, Bool.not_false, Option.isNone_some, Option.isNone_none])
  have nil : ∀ c : Int, outS ok s stir (os.map (·.1)) (insOf rs x) x state pinned = (c, []) → (st ⟨b18, 0, none⟩ (.int .i64 c) H4 fun H5 => st ⟨b18, 1, none⟩ (.slice none 0 0) H5 fun H6 => ldI .i64 ⟨b18, 0, none⟩ H6 fun c' => ldSl ⟨b18, 1, none⟩ H6 fun p n cap => K (.agg #[.int .i64 c', .slice p n cap]) H6) := fun c e => by
    refine sa2 g4 fun H5 g5 => ?_
    refine ldI_of (g5.cell (i := 0) rfl rfl) (ldSl_of (g5.cell (i := 0) rfl rfl) ?_)
    have := hK none 0 0 H5
    rw [e] at this
    exact this ((St.lesses (M := [_, _, _]) g5).row (H' := _) (Own.nil 1) ((Goes.refl Nothing _).less fun c hc => absurd hc blk_none))
  refine ldB_of (g4.cell (i := 2) rfl rfl) ?_
  cases ok
  · simp only [Bool.not_false, condT]
    exact nil 1 rfl
  simp only [Bool.not_true, condF]
  refine ldI_of (g4.cell (i := 2) rfl rfl) ?_
  have e0 : outS true s stir (os.map (·.1)) (insOf rs x) x state pinned = if s ≠ stir then (1, []) else if pinned then (1, []) else if state = 1 then (1, []) else if state ≠ 2 then (0, []) else if (os.map (·.1)).any (fun y => decide (y = x)) = false then (1, []) else if (cpt (rise1 (insOf rs x))).length > 64 then (1, []) else (2, cpt (rise1 (insOf rs x))) := rfl
  by_cases hs : s = stir
  rotate_left
  · exact bif_neq hs (nil 1 (by rw [e0, if_pos hs]))
  refine bif_neqf hs ?_
  rw [if_neg (fun h => h hs)] at e0
  cases pinned
  rotate_left
  · simp only [condT]
    exact nil 1 (by rw [e0, if_pos rfl])
  simp only [condF]
  rw [if_neg (by decide)] at e0
  by_cases h1 : state = 1
  · exact bif_eq h1 (nil 1 (by rw [e0, if_pos h1]))
  refine bif_ne h1 ?_
  rw [if_neg h1] at e0
  by_cases h2 : state = 2
  rotate_left
  · exact bif_neq h2 (nil 0 (by rw [e0, if_pos h2]))
  refine bif_neqf h2 ?_
  rw [if_neg (fun h => h h2)] at e0
  cases hh : (os.map (·.1)).any fun y => decide (y = x)
  · simp only [Bool.not_false, condT]
    exact nil 1 (by rw [e0, if_pos hh])
  simp only [Bool.not_true, condF]
  rw [if_neg (by rw [hh]; decide)] at e0
  clear nil
  refine ldSl_of (g4.cell (i := 2) rfl rfl) ?_
  have B : Prop := True
  refine ⟨fun p n cap q H' => ∃ m : Nat, q = m ∧ m ≤ rl ∧ n ≤ m ∧ n = (insOf (rs.take m) x).length ∧ St H0 (Prt.row 1 p n cap ((insOf (rs.take m) x).map (Value.int .u64)) :: Prt.one b18 (.cells #[.int .i64 0, .slice none 0 0] ty_witness_Said (0, 0)) :: Prt.one b16 (.cells #[.int .i64 x.n, .int .u64 x.s] ty_api_ID (0, 0)) :: Prt.one b14 (.cells #[.int .u64 s, .slice rp rl rc, .slice op ol oc, .bool true] ty_cycle_Summary (0, 0)) :: L) H', fun _ _ _ q _ => ((rl : Int) - q).toNat, ⟨0, rfl, by omega, by omega, rfl, g4.row (H' := _) (Own.nil 1) ((Goes.refl Nothing _).less fun c hc => absurd hc blk_none)⟩, ?_⟩
  clear g3 g4 h
  rintro p n cap q H5 ⟨m, rfl, hm, hnm, hn, g5⟩
  by_cases hc : (m : Int) < (rl : Int)
  · have hml : m < ts.length := by omega
    have hme := List.getElem?_eq_getElem hml
    have hll : m < ls.length := by rw [← hlen]; exact hml
    have hmr : m < rs.length := by omega
    obtain ⟨hsz, hrd⟩ := hel m ts[m] ls[m] hme (List.getElem?_eq_getElem hll)
    have hrm : rs[m] = (ts[m].1, ls[m]) := by
      have : rs[m]? = some (ts[m].1, ls[m]) := by
        rw [hrs, List.getElem?_zip_eq_some]
        exact ⟨by rw [List.getElem?_map, hme]; rfl, List.getElem?_eq_getElem hll⟩
      rw [List.getElem?_eq_getElem hmr] at this
      exact Option.some.inj this
    have htk := insOf_take (x := x) hmr
    rw [hrm] at htk
    refine bif_pos hc ?_
    intro R74 hR74
    have hQ74 : ∀ p' n' cap' H', n' = (insOf (rs.take (m + 1)) x).length → n' ≤ m + 1 → St H0 (Prt.row 1 p' n' cap' ((insOf (rs.take (m + 1)) x).map (Value.int .u64)) :: Prt.one b18 (.cells #[.int .i64 0, .slice none 0 0] ty_witness_Said (0, 0)) :: Prt.one b16 (.cells #[.int .i64 x.n, .int .u64 x.s] ty_api_ID (0, 0)) :: Prt.one b14 (.cells #[.int .u64 s, .slice rp rl rc, .slice op ol oc, .bool true] ty_cycle_Summary (0, 0)) :: L) H' → R74 p' n' cap' H' := fun p' n' cap' H' e1 e2 g => by
      refine hR74 p' n' cap' H' ?_
      rw [wrap_i64 (by omega) (by omega)]
      exact ⟨⟨m + 1, by omega, by omega, e2, e1, g⟩, by (try dsimp only); omega⟩
    clear hR74
    have hgd : ts.getD (m : Int).toNat (0, (none, 0, 0)) = ts[m] := by rw [Int.toNat_natCast, List.getD_eq_getElem?_getD, hme]; rfl
    refine idxS rwC_len (0, (none, 0, 0)) (hrr [_, _, _, _] H5 g5) (by omega) (by omega) hc fun b' o' _ _ hcc => ?_
    rw [hgd] at hcc
    (try simp only [asI_mk', asB_mk, asP_mk, asA_mk, asM_mk, asSl_mk, asStr_mk, tup2_mk, tup3_mk, agg1_mk, agg2_mk, agg3_mk, agg4_mk, asAggm, unCons_mk, unNil_mk, asTup_mk, extractD0, extractD1, List.toList_toArray, nilP_mk, add_mk, Nat.zero_add, Nat.add_zero, condT, condF, Bool.not_true, Bool.not_false, Option.isNone_some, Option.isNone_none])
    refine ldI_of (hcc 0 (by omega)) (ldSl_of (hcc 1 (by omega)) ?_)
    refine boxs (c := [.int .u64 0, .slice none 0 0]) (vs := [.int .u64 ts[m].1, .slice ts[m].2.1 ts[m].2.2.1 ts[m].2.2.2]) g5 rfl fun b84 H6 g6 => ?_
    refine ldSl_of (g6.cell (i := 0) rfl rfl) (ldI_of (g6.cell (i := 3) rfl rfl) (ldI_of (g6.cell (i := 3) rfl rfl) (containsC (x := x) g6 hsz (fun N H' h' => hrd (N ++ [_, _, _, _, _]) H' (by rw [List.append_assoc]; exact h')) fun H7 g7 => ?_)))
    (try simp only [asI_mk', asB_mk, asP_mk, asA_mk, asM_mk, asSl_mk, asStr_mk, tup2_mk, tup3_mk, agg1_mk, agg2_mk, agg3_mk, agg4_mk, asAggm, unCons_mk, unNil_mk, asTup_mk, extractD0, extractD1, List.toList_toArray, nilP_mk, add_mk, Nat.zero_add, Nat.add_zero, condT, condF, Bool.not_true, Bool.not_false, Option.isNone_some, Option.isNone_none])
    cases hct : ls[m].any fun y => decide (y = x)
    · simp only [condF]
      rw [hct, if_neg (by decide), List.append_nil] at htk
      refine hQ74 p n cap H7 (by rw [htk]; exact hn) (by omega) ?_
      rw [htk]
      exact g7.less
    · simp only [condT]
      rw [hct, if_pos rfl] at htk
      refine ldI_of (g7.cell (i := 0) rfl rfl) ?_
      intro b97 hb97
      have g8 := g7.alloc (o := .cells #[.int .u64 ts[m].1] ty_uint64) hb97
      refine g8.app (i := 2) rfl tu_ty_Suint64 tu_ty_Suint64 ti_ty_uint64 rfl (by decide) (g8.one_rd (i := 0) (n := 1) rfl rfl) (fun z hz => by simp at hz; rw [hz]; rfl) (by omega) fun p' cap' H9 g9 => ?_
      (try simp only [asI_mk', asB_mk, asP_mk, asA_mk, asM_mk, asSl_mk, asStr_mk, tup2_mk, tup3_mk, agg1_mk, agg2_mk, agg3_mk, agg4_mk, asAggm, unCons_mk, unNil_mk, asTup_mk, extractD0, extractD1, List.toList_toArray, nilP_mk, add_mk, Nat.zero_add, Nat.add_zero, condT, condF, Bool.not_true, Bool.not_false, Option.isNone_some, Option.isNone_none])
      have e1 : (insOf (rs.take m) x).map (Value.int .u64) ++ (#[Value.int .u64 ts[m].1] : Array Value).toList = (insOf (rs.take (m + 1)) x).map (Value.int .u64) := by rw [htk]; simp
      rw [e1] at g9
      refine hQ74 p' (n + 1) cap' H9 (by rw [htk, List.length_append, List.length_singleton, ← hn]) (by omega) ?_
      exact St.lesses (M := [_, _]) g9
  · refine bif_neg hc ?_
    have hmr : m = rl := by omega
    rw [List.take_of_length_le (by omega)] at g5 hn
    refine hsort (insOf rs x) p n cap _ H5 _ (by rw [← hn]; omega) g5 fun p' n' cap' H6 g6 => ?_
    (try simp only [asI_mk', asB_mk, asP_mk, asA_mk, asM_mk, asSl_mk, asStr_mk, tup2_mk, tup3_mk, agg1_mk, agg2_mk, agg3_mk, agg4_mk, asAggm, unCons_mk, unNil_mk, asTup_mk, extractD0, extractD1, List.toList_toArray, nilP_mk, add_mk, Nat.zero_add, Nat.add_zero, condT, condF, Bool.not_true, Bool.not_false, Option.isNone_some, Option.isNone_none])
    have hn' : (cpt (rise1 (insOf rs x))).length = n' := by have := (g6.row_own (i := 0) rfl).len1; simpa using this
    refine saidC g6 fun H7 g7 => ?_
    by_cases h64 : n' > 64
    · rw [if_pos (by omega)] at e0
      rw [if_pos h64]
      (try simp only [asI_mk', asB_mk, asP_mk, asA_mk, asM_mk, asSl_mk, asStr_mk, tup2_mk, tup3_mk, agg1_mk, agg2_mk, agg3_mk, agg4_mk, asAggm, unCons_mk, unNil_mk, asTup_mk, extractD0, extractD1, List.toList_toArray, nilP_mk, add_mk, Nat.zero_add, Nat.add_zero, condT, condF, Bool.not_true, Bool.not_false, Option.isNone_some, Option.isNone_none])
      refine sa2 g7.less fun H8 g8 => ?_
      refine ldI_of (g8.cell (i := 0) rfl rfl) (ldSl_of (g8.cell (i := 0) rfl rfl) ?_)
      have := hK none 0 0 H8
      rw [e0] at this
      exact this ((St.lesses (M := [_, _, _]) g8).row (H' := _) (Own.nil 1) ((Goes.refl Nothing _).less fun c hc => absurd hc blk_none))
    · rw [if_neg (by omega)] at e0
      rw [if_neg h64]
      (try simp only [asI_mk', asB_mk, asP_mk, asA_mk, asM_mk, asSl_mk, asStr_mk, tup2_mk, tup3_mk, agg1_mk, agg2_mk, agg3_mk, agg4_mk, asAggm, unCons_mk, unNil_mk, asTup_mk, extractD0, extractD1, List.toList_toArray, nilP_mk, add_mk, Nat.zero_add, Nat.add_zero, condT, condF, Bool.not_true, Bool.not_false, Option.isNone_some, Option.isNone_none])
      refine St.sets (i := 1) (o := 0) (vs := [.int .i64 2, .slice p' n' cap']) g7 rfl (by simp) fun H8 g8 => ?_
      rw [setsA_all (by rfl)] at g8
      refine ldI_of (g8.cell (i := 1) rfl rfl) (ldSl_of (g8.cell (i := 1) rfl rfl) ?_)
      have := hK p' n' cap' H8
      rw [e0] at this
      exact this (St.keep1 (N := [_, _, _]) g8)
end
end Go.Proofs.Ytknejebggegfjaa

namespace Go.Proofs.Ytknejebggegfjaa
set_option linter.unusedSimpArgs false
set_option linter.unusedVariables false
open Go
/-- Two swapped. -/
def swp (m : List Int) (x y : Nat) : List Int := (m.set x (m.getD y 0)).set y (m.getD x 0)
theorem swp_len {m : List Int} {x y : Nat} : (swp m x y).length = m.length := by simp [swp]
theorem swp_get {m : List Int} {x y k : Nat} (hx : x < m.length) (hy : y < m.length) : (swp m x y).getD k 0 = if k = y then m.getD x 0 else if k = x then m.getD y 0 else m.getD k 0 := by
  unfold swp
  simp only [List.getD_eq_getElem?_getD, List.getElem?_set, List.length_set]
  by_cases h1 : y = k
  · subst h1; simp [hy]
  · by_cases h2 : x = k
    · subst h2
      simp only [if_neg h1, if_neg (Ne.symm h1), if_pos, hx, Option.getD_some]
    · simp only [if_neg h1, if_neg (Ne.symm h1), if_neg h2, if_neg (Ne.symm h2)]
theorem swp_perm {m : List Int} {x y : Nat} (hx : x < m.length) (hy : y < m.length) : (swp m x y).Perm m := by
  rw [List.perm_iff_count]
  intro a
  unfold swp
  have e1 : m.getD y 0 = m[y] := by rw [List.getD_eq_getElem?_getD, List.getElem?_eq_getElem hy]; rfl
  have e2 : m.getD x 0 = m[x] := by rw [List.getD_eq_getElem?_getD, List.getElem?_eq_getElem hx]; rfl
  rw [e1, e2, List.count_set (by simpa using hy), List.count_set hx, List.getElem_set]
  by_cases hxy : x = y
  · subst hxy
    rw [if_pos rfl]
    have : a = m[x] → 0 < m.count a := fun h => by rw [h]; exact List.count_pos_iff.2 (List.getElem_mem hx)
    by_cases h : m[x] = a
    · have := this h.symm
      simp [h]; omega
    · simp [h]
  · rw [if_neg hxy]
    have h1 : m[x] = a → 0 < m.count a := fun h => by rw [← h]; exact List.count_pos_iff.2 (List.getElem_mem hx)
    have h2 : m[y] = a → 0 < m.count a := fun h => by rw [← h]; exact List.count_pos_iff.2 (List.getElem_mem hy)
    by_cases c1 : m[x] = a
    · by_cases c2 : m[y] = a
      · have := h1 c1
        simp [c1, c2]; omega
      · have := h1 c1
        simp [c1, c2]; omega
    · by_cases c2 : m[y] = a
      · simp [c1, c2]
      · simp [c1, c2]

/-- What swaps within a range make of a list. -/
inductive Reg (a b : Nat) (m : List Int) : List Int → Prop
  | refl : Reg a b m m
  | swap {m' : List Int} {x y : Nat} : Reg a b m m' → a ≤ x → x < b → a ≤ y → y < b → x < m'.length → y < m'.length → Reg a b m (swp m' x y)
variable {a b : Nat} {m m' : List Int}
theorem Reg.len (h : Reg a b m m') : m'.length = m.length := by
  induction h with
  | refl => rfl
  | swap _ _ _ _ _ _ _ ih => rw [swp_len, ih]
theorem Reg.sw {x y : Nat} (h : Reg a b m m') (h1 : a ≤ x) (h2 : x < b) (h3 : a ≤ y) (h4 : y < b) (h5 : b ≤ m.length) : Reg a b m (swp m' x y) := .swap h h1 h2 h3 h4 (by rw [h.len]; omega) (by rw [h.len]; omega)
theorem Reg.perm (h : Reg a b m m') : m'.Perm m := by
  induction h with
  | refl => exact List.Perm.refl _
  | swap _ _ _ _ _ h1 h2 ih => exact (swp_perm h1 h2).trans ih
theorem Reg.out (h : Reg a b m m') {k : Nat} (hk : k < a ∨ b ≤ k) : m'.getD k 0 = m.getD k 0 := by
  induction h with
  | refl => rfl
  | swap _ _ _ _ _ h1 h2 ih => rw [swp_get h1 h2, if_neg (by omega), if_neg (by omega), ih]
theorem Reg.all {p : Int → Prop} (h : Reg a b m m') (hp : ∀ k, a ≤ k → k < b → p (m.getD k 0)) {k : Nat} (h1 : a ≤ k) (h2 : k < b) : p (m'.getD k 0) := by
  induction h generalizing k with
  | refl => exact hp k h1 h2
  | swap _ g1 g2 g3 g4 g5 g6 ih =>
    rw [swp_get g5 g6]
    split
    · exact ih g1 g2
    · split
      · exact ih g3 g4
      · exact ih h1 h2
theorem Reg.wide {a' b' : Nat} (h : Reg a b m m') (h1 : a' ≤ a) (h2 : b ≤ b') : Reg a' b' m m' := by
  induction h with
  | refl => exact .refl
  | swap _ g1 g2 g3 g4 g5 g6 ih => exact .swap ih (by omega) (by omega) (by omega) (by omega) g5 g6
theorem Reg.trans {m'' : List Int} (h : Reg a b m m') (g : Reg a b m' m'') : Reg a b m m'' := by
  induction g with
  | refl => exact h
  | swap _ g1 g2 g3 g4 g5 g6 ih => exact .swap ih g1 g2 g3 g4 g5 g6

/-- In order, within a range. -/
def Up2 (m : List Int) (a b : Nat) : Prop := ∀ x y, a ≤ x → x < y → y < b → m.getD x 0 ≤ m.getD y 0
/-- In order but for a range that lies within. -/
def Btw (m : List Int) (a0 b0 a b : Nat) : Prop := ∀ x y, a0 ≤ x → x < y → y < b0 → x < a ∨ b ≤ y → m.getD x 0 ≤ m.getD y 0
theorem Btw.reg {a0 b0 : Nat} (h : Btw m a0 b0 a b) (g : Reg a b m m') (h1 : a0 ≤ a) (h2 : b ≤ b0) : Btw m' a0 b0 a b := fun x y hx hxy hy hc => by
  rcases hc with hc | hc
  · rw [g.out (k := x) (.inl hc)]
    by_cases hy1 : y < a ∨ b ≤ y
    · rw [g.out hy1]; exact h x y hx hxy hy (.inl hc)
    · exact g.all (p := fun v => m.getD x 0 ≤ v) (fun k k1 k2 => h x k hx (by omega) (by omega) (.inl hc)) (by omega) (by omega)
  · rw [g.out (k := y) (.inr hc)]
    by_cases hx1 : x < a ∨ b ≤ x
    · rw [g.out hx1]; exact h x y hx hxy hy (.inr hc)
    · exact g.all (p := fun v => v ≤ m.getD y 0) (fun k k1 k2 => h k y (by omega) (by omega) hy (.inr hc)) (by omega) (by omega)
theorem Btw.done {a0 b0 : Nat} (h : Btw m a0 b0 a b) (g : Up2 m a b) : Up2 m a0 b0 := fun x y hx hxy hy => by
  by_cases hc : x < a ∨ b ≤ y
  · exact h x y hx hxy hy hc
  · exact g x y (by omega) hxy (by omega)
theorem Btw.start : Btw m a b a b := fun x y hx hxy hy hc => by omega
/-- What stands ahead of a range is not above it. -/
def Lo (m : List Int) (a b : Nat) : Prop := 0 < a → ∀ k, a ≤ k → k < b → m.getD (a - 1) 0 ≤ m.getD k 0
theorem Lo.reg (h : Lo m a b) (g : Reg a b m m') : Lo m' a b := fun ha k h1 h2 => by
  rw [g.out (k := a - 1) (.inl (by omega))]
  exact g.all (p := fun v => m.getD (a - 1) 0 ≤ v) (fun k k1 k2 => h ha k k1 k2) h1 h2

/-- A heap, from a node on. -/
def Hea (m : List Int) (first lo hi : Nat) : Prop := ∀ k c, lo ≤ k → (c = 2 * k + 1 ∨ c = 2 * k + 2) → c < hi → m.getD (first + c) 0 ≤ m.getD (first + k) 0
theorem Hea.top {first hi : Nat} (h : Hea m first 0 hi) : ∀ k, k < hi → m.getD (first + k) 0 ≤ m.getD first 0 := fun k => by
  induction k using Nat.strongRecOn with
  | ind k ih =>
    intro hk
    rcases Nat.eq_zero_or_pos k with rfl | h0
    · exact Int.le_refl _
    · have h1 := h ((k - 1) / 2) k (by omega) (by omega) hk
      exact Int.le_trans h1 (ih _ (by omega) (by omega))
end Go.Proofs.Ytknejebggegfjaa

namespace Go.Proofs.Ytknejebggegfjaa
set_option linter.unusedSimpArgs false
set_option linter.unusedVariables false
set_option maxRecDepth 20000
open Go
/-- The list stands in the row. -/
structure Sr (H0 : Hp) (L : List Prt) (i : Nat) (p : Option Addr) (n cap : Nat) (m : List Int) (H : Hp) : Prop where
  st : St H0 (L.set i (Prt.row 1 p n cap (m.map (Value.int .u64)))) H
  lt : i < L.length
  big : n < 2305843009213693952
section
variable {H0 H : Hp} {L : List Prt} {i n cap : Nat} {p : Option Addr} {m : List Int} {K : Value → Hp → Prop}
theorem Sr.get (h : Sr H0 L i p n cap m H) {r : Prt} : (L.set i r)[i]? = some r := by simp [h.lt]
theorem Sr.len (h : Sr H0 L i p n cap m H) : m.length = n := by have := (h.st.row_own h.get).len1; simpa using this
theorem Sr.at {t : Int} {k : Nat} {Q : Int → Prop} (h : Sr H0 L i p n cap m H) (ht : t = k) (hk : k < n) (hQ : Q (m.getD k 0)) : idxA p n t 1 fun a => ldI .u64 a H Q := by
  subst ht
  refine idx1 (d := (0 : Int)) (h.st.row_rd h.get) (by omega) (by omega) fun b o _ hcl => ?_
  rw [Int.toNat_natCast] at hcl ⊢
  exact ldI_of hcl hQ
theorem Sr.cmpT {t1 t2 : Int} {k1 k2 : Nat} {A B : Hp → Prop} (h : Sr H0 L i p n cap m H) (h1 : t1 = k1) (g1 : k1 < n) (h2 : t2 = k2) (g2 : k2 < n) (hT : m.getD k1 0 < m.getD k2 0 → A H) (hF : m.getD k2 0 ≤ m.getD k1 0 → B H) :
    idxA p n t1 1 fun a1 => ldI .u64 a1 H fun v1 => idxA p n t2 1 fun a2 => ldI .u64 a2 H fun v2 => hcall PR f_cmp_Less_uint64 ⟨[.int .u64 v1, .int .u64 v2]⟩ H fun v Hx => asB v fun t => bif t then A Hx else B Hx := by
  refine h.at h1 g1 (h.at h2 g2 (lessU ?_))
  show cond (decide (m.getD k1 0 < m.getD k2 0)) (A H) (B H)
  by_cases hc : m.getD k1 0 < m.getD k2 0
  · exact bif_pos hc (hT hc)
  · exact bif_neg hc (hF (by omega))
theorem Sr.cmpN {t1 t2 : Int} {k1 k2 : Nat} {A B : Hp → Prop} (h : Sr H0 L i p n cap m H) (h1 : t1 = k1) (g1 : k1 < n) (h2 : t2 = k2) (g2 : k2 < n) (hT : m.getD k2 0 ≤ m.getD k1 0 → A H) (hF : m.getD k1 0 < m.getD k2 0 → B H) :
    idxA p n t1 1 fun a1 => ldI .u64 a1 H fun v1 => idxA p n t2 1 fun a2 => ldI .u64 a2 H fun v2 => hcall PR f_cmp_Less_uint64 ⟨[.int .u64 v1, .int .u64 v2]⟩ H fun v Hx => asB v fun t => bif (!t) then A Hx else B Hx := by
  refine h.at h1 g1 (h.at h2 g2 (lessU ?_))
  show cond (!decide (m.getD k1 0 < m.getD k2 0)) (A H) (B H)
  by_cases hc : m.getD k1 0 < m.getD k2 0
  · rw [decide_eq_true hc]; exact hF hc
  · rw [decide_eq_false hc]; exact hT (by omega)
theorem Sr.swap {ty tx : Int} {x y : Nat} {Q : Hp → Prop} (h : Sr H0 L i p n cap m H) (hy : ty = y) (gy : y < n) (hx : tx = x) (gx : x < n) (hQ : ∀ H', Sr H0 L i p n cap (swp m x y) H' → Q H') :
    idxA p n ty 1 fun a1 => ldI .u64 a1 H fun v1 => idxA p n tx 1 fun a2 => ldI .u64 a2 H fun v2 => idxA p n tx 1 fun a3 => Go.Proofs.Ytknejebggegfjaa.st a3 (.int .u64 v1) H fun H1 => idxA p n ty 1 fun a4 => Go.Proofs.Ytknejebggegfjaa.st a4 (.int .u64 v2) H1 Q := by
  refine h.at hy gy (h.at hx gx ?_)
  subst hy hx
  refine idxA_of (h.st.row_rd h.get) (by omega) (by omega) fun b o hpp _ => ?_
  simp only [Int.toNat_natCast]
  refine h.st.poke (j := x * 1) h.get hpp (by omega) fun H3 h3 => ?_
  rw [List.set_set] at h3
  refine idxA_of (h3.row_rd h.get) (by omega) (by omega) fun b' o' hpp' _ => ?_
  obtain ⟨rfl, rfl⟩ : b = b' ∧ o = o' := by rw [hpp] at hpp'; simpa using hpp'
  simp only [Int.toNat_natCast]
  refine h3.poke (j := y * 1) h.get hpp (by omega) fun H4 h4 => hQ H4 ⟨?_, h.lt, h.big⟩
  rw [List.set_set, Nat.mul_one, Nat.mul_one, ← List.map_set, ← List.map_set] at h4
  exact h4
theorem Sr.alloc {b : Nat} {o : Obj} (h : Sr H0 L i p n cap m H) (hb : H b = none) : Sr H0 (Prt.one b o :: L) (i + 1) p n cap m (upd H b o) := ⟨h.st.alloc hb, by simpa using h.lt, h.big⟩
theorem Sr.less {P : Prt} (h : Sr H0 (P :: L) (i + 1) p n cap m H) : Sr H0 L i p n cap m H := ⟨St.less (A := P) h.st, by simpa using h.lt, h.big⟩

theorem revC {a b : Nat} (h : Sr H0 L i p n cap m H) (hab : a < b) (hb : b ≤ n) (hK : ∀ m' H', Reg a b m m' → Sr H0 L i p n cap m' H' → K (.tuple #[]) H') :
    hcall PR f_slices_reverseRangeOrdered_uint64 ⟨[.slice p n cap, .int .i64 a, .int .i64 b]⟩ H K := by
  apply den_slices_reverseRangeOrdered_uint64
  unfold B_slices_reverseRangeOrdered_uint64
  have hbig := h.big
  have hln := h.len
  refine ⟨fun s t H' => ∃ (u v : Nat) (m' : List Int), s = u ∧ t = v ∧ a ≤ u ∧ v < b ∧ Reg a b m m' ∧ Sr H0 L i p n cap m' H', fun s t _ => (t - s).toNat, ⟨a, b - 1, m, rfl, by rw [wrap_i64 (by omega) (by omega)]; omega, by omega, by omega, .refl, h⟩, ?_⟩
  rintro s t H1 ⟨u, v, m', rfl, rfl, hu, hv, hr, h1⟩
  by_cases hc : (u : Int) < (v : Int)
  · refine bif_pos hc (h1.swap rfl (by omega) rfl (by omega) fun H2 h2 => ?_)
    rw [wrap_i64 (by omega) (by omega), wrap_i64 (by omega) (by omega)]
    exact ⟨⟨u + 1, v - 1, _, by omega, by omega, by omega, by omega, hr.sw (by omega) (by omega) (by omega) (by omega) (by omega), h2⟩, by (try dsimp only); omega⟩
  · exact bif_neg hc (hK m' H1 hr h1)
end
/-- A range with one on its way down. -/
structure Hol (m : List Int) (a j e : Nat) : Prop where
  hole : ∀ u v, a ≤ u → u < v → v < e → u ≠ j → v ≠ j → m.getD u 0 ≤ m.getD v 0
  above : ∀ v, j < v → v < e → m.getD j 0 ≤ m.getD v 0
theorem Hol.start {m : List Int} {a y : Nat} (h : Up2 m a y) : Hol m a y (y + 1) := ⟨fun u v h1 h2 h3 h4 h5 => h u v h1 h2 (by omega), fun v h1 h2 => by omega⟩
theorem Hol.done {m : List Int} {a j e : Nat} (h : Hol m a j e) (hj : j = a ∨ (a < j ∧ m.getD (j - 1) 0 ≤ m.getD j 0)) : Up2 m a e := fun u v h1 h2 h3 => by
  by_cases eu : u = j
  · subst eu; exact h.above v h2 h3
  · by_cases ev : v = j
    · subst ev
      rcases hj with rfl | ⟨h4, h5⟩
      · omega
      · by_cases e : u = v - 1
        · subst e; exact h5
        · exact Int.le_trans (h.hole u (v - 1) h1 (by omega) (by omega) (by omega) (by omega)) h5
    · exact h.hole u v h1 h2 h3 eu ev
theorem Hol.step {m : List Int} {a j e : Nat} (h : Hol m a j e) (hj : a < j) (hje : j < e) (he : e ≤ m.length) (hc : m.getD j 0 < m.getD (j - 1) 0) : Hol (swp m j (j - 1)) a (j - 1) e := by
  refine ⟨fun u v h1 h2 h3 h4 h5 => ?_, fun v h1 h2 => ?_⟩
  · rw [swp_get (by omega) (by omega), swp_get (by omega) (by omega), if_neg h4, if_neg h5]
    by_cases eu : u = j
    · rw [if_pos eu, if_neg (by omega)]
      exact h.hole (j - 1) v (by omega) (by omega) h3 (by omega) (by omega)
    · rw [if_neg eu]
      by_cases ev : v = j
      · rw [if_pos ev]
        exact h.hole u (j - 1) h1 (by omega) (by omega) eu (by omega)
      · rw [if_neg ev]
        exact h.hole u v h1 h2 h3 eu ev
  · rw [swp_get (by omega) (by omega), swp_get (by omega) (by omega), if_pos rfl, if_neg (by omega)]
    by_cases ev : v = j
    · rw [if_pos ev]; omega
    · rw [if_neg ev]
      exact h.above v (by omega) h2
section
variable {H0 H : Hp} {L : List Prt} {i n cap : Nat} {p : Option Addr} {m : List Int} {K : Value → Hp → Prop}
theorem insR {a b : Nat} (h : Sr H0 L i p n cap m H) (hab : a ≤ b) (hb : b ≤ n) (hK : ∀ m' H', Reg a b m m' → Up2 m' a b → Sr H0 L i p n cap m' H' → K (.tuple #[]) H') :
    hcall PR f_slices_insertionSortOrdered_uint64 ⟨[.slice p n cap, .int .i64 a, .int .i64 b]⟩ H K := by
  apply den_slices_insertionSortOrdered_uint64
  unfold B_slices_insertionSortOrdered_uint64
  have hbig := h.big
  have hln := h.len
  refine ⟨fun t H' => ∃ (y : Nat) (m' : List Int), t = y ∧ a < y ∧ y ≤ b + 1 ∧ Up2 m' a y ∧ Reg a b m m' ∧ Sr H0 L i p n cap m' H', fun t _ => ((b : Int) - t + 1).toNat, ⟨a + 1, m, by rw [wrap_i64 (by omega) (by omega)]; omega, by omega, by omega, fun u v h1 h2 h3 => by omega, .refl, h⟩, ?_⟩
  rintro t H1 ⟨y, m1, rfl, hy, hyb, hup, hr, h1⟩
  by_cases hc : (y : Int) < (b : Int)
  rotate_left
  · exact bif_neg hc (hK m1 H1 hr (fun u v g1 g2 g3 => hup u v g1 g2 (by omega)) h1)
  refine bif_pos hc ?_
  intro R10 hR10
  have hQ10 : ∀ (m' : List Int) H', Reg a b m m' → Up2 m' a (y + 1) → Sr H0 L i p n cap m' H' → R10 H' := fun m' H' g1 g2 g3 => by
    refine hR10 H' ?_
    rw [wrap_i64 (by omega) (by omega)]
    exact ⟨⟨y + 1, m', by omega, by omega, by omega, g2, g1, g3⟩, by (try dsimp only); omega⟩
  clear hR10
  refine ⟨fun t H' => ∃ (j : Nat) (m' : List Int), t = j ∧ a ≤ j ∧ j ≤ y ∧ Hol m' a j (y + 1) ∧ Reg a b m m' ∧ Sr H0 L i p n cap m' H', fun t _ => t.toNat, ⟨y, m1, rfl, by omega, by omega, .start hup, hr, h1⟩, ?_⟩
  clear h1 hup hr
  rintro t H2 ⟨j, m2, rfl, hj, hjy, ho, hr, h2⟩
  have hl2 := hr.len
  by_cases hcj : (j : Int) > (a : Int)
  rotate_left
  · exact bif_neg hcj (hQ10 m2 H2 hr (ho.done (.inl (by omega))) h2)
  refine bif_pos hcj ?_
  have wj : IntKind.i64.wrap ((j : Int) - 1) = ((j - 1 : Nat) : Int) := by rw [wrap_i64 (by omega) (by omega)]; omega
  rw [wj]
  refine h2.cmpT rfl (by omega) rfl (by omega) (fun hlt => ?_) (fun hle => hQ10 m2 H2 hr (ho.done (.inr ⟨by omega, hle⟩)) h2)
  refine h2.swap rfl (by omega) rfl (by omega) fun H3 h3 => ?_
  exact ⟨⟨j - 1, _, rfl, by omega, by omega, ho.step (by omega) (by omega) (by omega) hlt, hr.sw (by omega) (by omega) (by omega) (by omega) (by omega), h3⟩, by (try dsimp only); omega⟩
end
end Go.Proofs.Ytknejebggegfjaa

namespace Go.Proofs.Ytknejebggegfjaa
set_option linter.unusedSimpArgs false
set_option linter.unusedVariables false
set_option maxRecDepth 20000
open Go
section
variable {H0 H : Hp} {L : List Prt} {i n cap : Nat} {p : Option Addr} {m : List Int} {K : Value → Hp → Prop}
theorem siftC {lo hi first : Nat} (h : Sr H0 L i p n cap m H) (hlo : lo ≤ hi) (hf : first + hi ≤ n) (hh : Hea m first (lo + 1) hi) (hK : ∀ m' H', Reg (first + lo) (first + hi) m m' → Hea m' first lo hi → Sr H0 L i p n cap m' H' → K (.tuple #[]) H') :
    hcall PR f_slices_siftDownOrdered_uint64 ⟨[.slice p n cap, .int .i64 lo, .int .i64 hi, .int .i64 first]⟩ H K := by
  apply den_slices_siftDownOrdered_uint64
  unfold B_slices_siftDownOrdered_uint64
  have hbig := h.big
  have hln := h.len
  refine ⟨fun t H' => ∃ (r : Nat) (m1 : List Int), t = r ∧ lo ≤ r ∧ r ≤ hi ∧ (∀ k c, lo ≤ k → k ≠ r → (c = 2 * k + 1 ∨ c = 2 * k + 2) → c < hi → m1.getD (first + c) 0 ≤ m1.getD (first + k) 0) ∧ (∀ k c, lo ≤ k → (r = 2 * k + 1 ∨ r = 2 * k + 2) → (c = 2 * r + 1 ∨ c = 2 * r + 2) → c < hi → m1.getD (first + c) 0 ≤ m1.getD (first + k) 0) ∧ Reg (first + lo) (first + hi) m m1 ∧ Sr H0 L i p n cap m1 H', fun t _ => ((hi : Int) - t).toNat, ⟨lo, m, rfl, by omega, hlo, fun k c h1 h2 h3 h4 => hh k c (by omega) h3 h4, fun k c h1 h2 h3 h4 => by omega, .refl, h⟩, ?_⟩
  rintro t H1 ⟨r, m1, rfl, hr, hrh, hq, hp, hg, h1⟩
  have hl1 := hg.len
  have w1 : IntKind.i64.wrap (2 * (r : Int)) = ((2 * r : Nat) : Int) := by rw [wrap_i64 (by omega) (by omega)]; omega
  have w2 : IntKind.i64.wrap (((2 * r : Nat) : Int) + 1) = ((2 * r + 1 : Nat) : Int) := by rw [wrap_i64 (by omega) (by omega)]; omega
  have w3 : IntKind.i64.wrap (((2 * r + 1 : Nat) : Int) + 1) = ((2 * r + 2 : Nat) : Int) := by rw [wrap_i64 (by omega) (by omega)]; omega
  rw [w1, w2, w3]
  by_cases hc : ((2 * r + 1 : Nat) : Int) ≥ (hi : Int)
  · exact bif_pos hc (hK m1 H1 hg (fun k c g1 g2 g3 => by
      by_cases e : k = r
      · omega
      · exact hq k c g1 e g2 g3) h1)
  refine bif_neg hc ?_
  have hr1 : 2 * r + 1 < hi := by omega
  intro R11 hR11
  have hQ11 : ∀ c : Nat, (c = 2 * r + 1 ∨ c = 2 * r + 2) → c < hi → (∀ c', (c' = 2 * r + 1 ∨ c' = 2 * r + 2) → c' < hi → m1.getD (first + c') 0 ≤ m1.getD (first + c) 0) → R11 (c : Int) H1 := fun c hcr hch hmx => by
    refine hR11 _ H1 ?_
    have w4 : IntKind.i64.wrap ((first : Int) + (r : Int)) = ((first + r : Nat) : Int) := by rw [wrap_i64 (by omega) (by omega)]; omega
    have w5 : IntKind.i64.wrap ((first : Int) + (c : Int)) = ((first + c : Nat) : Int) := by rw [wrap_i64 (by omega) (by omega)]; omega
    rw [w4, w5]
    refine h1.cmpN rfl (by omega) rfl (by omega) (fun hle => ?_) (fun hlt => ?_)
    · refine hK m1 H1 hg (fun k c' g1 g2 g3 => ?_) h1
      by_cases e : k = r
      · subst e; exact Int.le_trans (hmx c' g2 g3) hle
      · exact hq k c' g1 e g2 g3
    · refine h1.swap rfl (by omega) rfl (by omega) fun H2 h2 => ?_
      refine ⟨⟨c, _, rfl, by omega, by omega, fun k c' g1 g2 g3 g4 => ?_, fun k c' g1 g2 g3 g4 => ?_, hg.sw (by omega) (by omega) (by omega) (by omega) (by omega), h2⟩, by (try dsimp only); omega⟩
      · rw [swp_get (by omega) (by omega), swp_get (by omega) (by omega), if_neg (show ¬ first + k = first + c by omega)]
        by_cases e : k = r
        · subst e
          rw [if_pos rfl]
          by_cases e2 : c' = c
          · subst e2; rw [if_pos rfl]; omega
          · rw [if_neg (by omega), if_neg (by omega)]
            exact hmx c' g3 g4
        · rw [if_neg (show ¬ first + k = first + r by omega), if_neg (show ¬ first + c' = first + c by omega)]
          by_cases e2 : c' = r
          · subst e2
            rw [if_pos rfl]
            exact hp k c g1 g3 hcr hch
          · rw [if_neg (by omega)]
            exact hq k c' g1 e g3 g4
      · obtain rfl : k = r := by omega
        rw [swp_get (by omega) (by omega), swp_get (by omega) (by omega), if_neg (by omega), if_neg (by omega), if_neg (by omega), if_pos rfl]
        exact hq c c' (by omega) (by omega) g3 g4
  clear hR11
  by_cases hc2 : ((2 * r + 2 : Nat) : Int) < (hi : Int)
  · refine bif_pos hc2 ?_
    have w5 : IntKind.i64.wrap ((first : Int) + ((2 * r + 1 : Nat) : Int)) = ((first + (2 * r + 1) : Nat) : Int) := by rw [wrap_i64 (by omega) (by omega)]; omega
    have w6 : IntKind.i64.wrap (((first + (2 * r + 1) : Nat) : Int) + 1) = ((first + (2 * r + 2) : Nat) : Int) := by rw [wrap_i64 (by omega) (by omega)]; omega
    rw [w5, w6]
    refine h1.cmpT rfl (by omega) rfl (by omega) (fun hlt => ?_) (fun hle => ?_)
    · refine hQ11 _ (.inr rfl) (by omega) fun c' g1 g2 => ?_
      rcases g1 with rfl | rfl
      · omega
      · exact Int.le_refl _
    · refine hQ11 _ (.inl rfl) (by omega) fun c' g1 g2 => ?_
      rcases g1 with rfl | rfl
      · exact Int.le_refl _
      · exact hle
  · refine bif_neg hc2 (hQ11 _ (.inl rfl) (by omega) fun c' g1 g2 => ?_)
    rcases g1 with rfl | rfl
    · exact Int.le_refl _
    · omega
theorem heapC {a b : Nat} (h : Sr H0 L i p n cap m H) (hab : a < b) (hb : b ≤ n) (hK : ∀ m' H', Reg a b m m' → Up2 m' a b → Sr H0 L i p n cap m' H' → K (.tuple #[]) H') :
    hcall PR f_slices_heapSortOrdered_uint64 ⟨[.slice p n cap, .int .i64 a, .int .i64 b]⟩ H K := by
  apply den_slices_heapSortOrdered_uint64
  unfold B_slices_heapSortOrdered_uint64
  have hbig := h.big
  have hln := h.len
  obtain ⟨hi, rfl⟩ : ∃ hi, b = a + hi := ⟨b - a, by omega⟩
  have w1 : IntKind.i64.wrap (((a + hi : Nat) : Int) - (a : Int)) = (hi : Int) := by rw [wrap_i64 (by omega) (by omega)]; omega
  have w2 : IntKind.i64.wrap ((hi : Int) - 1) = ((hi - 1 : Nat) : Int) := by rw [wrap_i64 (by omega) (by omega)]; omega
  have w3 : IntKind.i64.wrap (Int.tdiv ((hi - 1 : Nat) : Int) 2) = (((hi - 1) / 2 : Nat) : Int) := by
    rw [Int.tdiv_eq_ediv_of_nonneg (by omega), wrap_i64 (by omega) (by omega)]; omega
  rw [w1, w2, w3]
  refine ⟨by decide, fun t H' => ∃ (u : Nat) (m1 : List Int), t = (u : Int) - 1 ∧ u ≤ hi ∧ Hea m1 a u hi ∧ Reg a (a + hi) m m1 ∧ Sr H0 L i p n cap m1 H', fun t _ => (t + 1).toNat, ⟨(hi - 1) / 2 + 1, m, by omega, by omega, fun k c h1 h2 h3 => by omega, .refl, h⟩, ?_⟩
  rintro t H1 ⟨u, m1, rfl, hu, hh, hg, h1⟩
  by_cases hc : ((u : Int) - 1) ≥ 0
  · refine bif_pos hc ?_
    obtain ⟨w, rfl⟩ : ∃ w, u = w + 1 := ⟨u - 1, by omega⟩
    rw [show (((w + 1 : Nat) : Int) - 1) = (w : Int) by omega]
    refine siftC h1 (by omega) (by omega) hh fun m2 H2 hg2 hh2 h2 => ?_
    show _ ∧ _
    rw [wrap_i64 (by omega) (by omega)]
    exact ⟨⟨w, m2, rfl, by omega, hh2, hg.trans (hg2.wide (by omega) (by omega)), h2⟩, by (try dsimp only); omega⟩
  refine bif_neg hc ?_
  obtain rfl : u = 0 := by omega
  refine ⟨fun t H' => ∃ (u : Nat) (m1 : List Int), t = (u : Int) - 1 ∧ u ≤ hi ∧ Hea m1 a 0 u ∧ (∀ x y, x < y → u ≤ y → y < hi → m1.getD (a + x) 0 ≤ m1.getD (a + y) 0) ∧ Reg a (a + hi) m m1 ∧ Sr H0 L i p n cap m1 H', fun t _ => (t + 1).toNat, ⟨hi, m1, by omega, by omega, hh, fun x y h1 h2 h3 => by omega, hg, h1⟩, ?_⟩
  clear hh hg h1 hc hu
  clear m1
  rintro t H1 ⟨u, m1, rfl, hu, hh, ho, hg, h1⟩
  have hl1 := hg.len
  by_cases hc : ((u : Int) - 1) ≥ 0
  rotate_left
  · refine bif_neg hc (hK m1 H1 hg (fun x y g1 g2 g3 => ?_) h1)
    have := ho (x - a) (y - a) (by omega) (by omega) (by omega)
    rw [show a + (x - a) = x by omega, show a + (y - a) = y by omega] at this
    exact this
  refine bif_pos hc ?_
  obtain ⟨w, rfl⟩ : ∃ w, u = w + 1 := ⟨u - 1, by omega⟩
  rw [show (((w + 1 : Nat) : Int) - 1) = (w : Int) by omega]
  have w4 : IntKind.i64.wrap ((a : Int) + (w : Int)) = ((a + w : Nat) : Int) := by rw [wrap_i64 (by omega) (by omega)]; omega
  rw [w4]
  have htop := hh.top
  refine h1.swap rfl (by omega) rfl (by omega) fun H2 h2 => ?_
  have hs : ∀ k, (swp m1 a (a + w)).getD k 0 = if k = a + w then m1.getD a 0 else if k = a then m1.getD (a + w) 0 else m1.getD k 0 := fun k => swp_get (by omega) (by omega)
  refine siftC (lo := 0) h2 (by omega) (by omega) (fun k c g1 g2 g3 => ?_) fun m3 H3 hg3 hh3 h3 => ?_
  · rw [hs, hs, if_neg (by omega), if_neg (by omega), if_neg (by omega), if_neg (by omega)]
    exact hh k c (by omega) g2 (by omega)
  show _ ∧ _
  rw [wrap_i64 (by omega) (by omega)]
  refine ⟨⟨w, m3, rfl, by omega, hh3, fun x y g1 g2 g3 => ?_, (hg.sw (by omega) (by omega) (by omega) (by omega) (by omega)).trans (hg3.wide (by omega) (by omega)), h3⟩, by (try dsimp only); omega⟩
  rw [hg3.out (k := a + y) (.inr (by omega)), hs (a + y)]
  by_cases ey : y = w
  · rw [if_pos (by omega)]
    refine hg3.all (p := fun v => v ≤ m1.getD a 0) (fun k k1 k2 => ?_) (by omega) (by omega)
    rw [hs, if_neg (by omega)]
    split
    · exact htop w (by omega)
    · have := htop (k - a) (by omega)
      rw [show a + (k - a) = k by omega] at this
      exact this
  · rw [if_neg (by omega), if_neg (by omega)]
    by_cases ex : x < w
    · refine hg3.all (p := fun v => v ≤ m1.getD (a + y) 0) (fun k k1 k2 => ?_) (by omega) (by omega)
      rw [hs, if_neg (by omega)]
      split
      · exact ho w y (by omega) (by omega) g3
      · have := ho (k - a) y (by omega) (by omega) g3
        rw [show a + (k - a) = k by omega] at this
        exact this
    · rw [hg3.out (k := a + x) (.inr (by omega)), hs]
      split
      · exact ho 0 y (by omega) (by omega) g3
      · rw [if_neg (by omega)]
        exact ho x y g1 (by omega) g3
end
end Go.Proofs.Ytknejebggegfjaa

namespace Go.Proofs.Ytknejebggegfjaa
set_option linter.unusedSimpArgs false
set_option linter.unusedVariables false
set_option maxRecDepth 20000
open Go
theorem shr64 {t k : Nat} (hk : k < 64) : shrI .u64 (t : Int) (k : Int) = ((t / 2 ^ k : Nat) : Int) := by
  unfold shrI
  rw [Int.toNat_natCast, show IntKind.u64.bits = 64 by rfl, Nat.min_eq_left (by omega)]
  rw [Int.fdiv_eq_ediv_of_nonneg _ (by exact_mod_cast Nat.zero_le _)]
  norm_cast
theorem shl64 {k : Nat} (hk : k < 64) : shlI .u64 1 (k : Int) = ((2 ^ k : Nat) : Int) := by
  unfold shlI
  rw [Int.toNat_natCast, show IntKind.u64.bits = 64 by rfl, Nat.min_eq_left (by omega), Int.one_mul]
  have h2 : 2 ^ k < 18446744073709551616 := Nat.pow_lt_pow_right (by omega) (show k < 64 by omega)
  have e : ((2 : Int) ^ k) = ((2 ^ k : Nat) : Int) := by norm_cast
  rw [e]
  exact wrap_u64' (Int.natCast_nonneg _) (Int.ofNat_lt.2 h2)
theorem and64_le {x : Int} {k : Nat} (hk : k < 18446744073709551616) : ∃ r : Nat, bitOp .and .u64 x (k : Int) = (r : Int) ∧ r ≤ k := by
  have h : (BitVec.ofInt 64 x &&& BitVec.ofInt 64 (k : Int)).toNat ≤ k := by
    rw [BitVec.toNat_and]
    refine Nat.le_trans Nat.and_le_right ?_
    simp only [BitVec.ofInt_natCast, BitVec.toNat_ofNat]
    exact Nat.mod_le _ _
  refine ⟨_, ?_, h⟩
  show IntKind.u64.wrap ((BitVec.ofInt 64 x &&& BitVec.ofInt 64 (k : Int)).toNat : Int) = _
  exact wrap_u64' (by omega) (by omega)
theorem wrap_u8' {n : Nat} (h : n < 256) : IntKind.u8.wrap (n : Int) = n := by
  have e1 : (2 : Int) ^ IntKind.u8.bits = 256 := by decide
  unfold IntKind.wrap
  simp [e1, show IntKind.u8.signed = false from rfl]
  omega
def tabOk (s : ByteArray) : Bool := (List.range 256).all fun y => match s[y]? with
  | some b => decide (b.toNat ≤ 8 ∧ (y = 0 ∨ 2 ^ b.toNat ≤ 2 * y))
  | none => false
theorem idxStr_tab {s : ByteArray} {y : Nat} {Q : Int → Prop} (hs : tabOk s = true) (hy : y < 256) (hQ : ∀ t : Nat, t ≤ 8 → (1 ≤ y → 2 ^ t ≤ 2 * y) → Q t) : idxStr s (y : Int) Q := by
  unfold tabOk at hs
  have h := List.all_eq_true.1 hs y (List.mem_range.2 hy)
  unfold idxStr
  refine ⟨by omega, ?_⟩
  rw [Int.toNat_natCast]
  cases hb : s[y]? with
  | none => rw [hb] at h; simp at h
  | some b =>
    rw [hb] at h
    have h := of_decide_eq_true h
    exact hQ b.toNat h.1 fun h1 => by rcases h.2 with h | h <;> omega
section
variable {H0 H : Hp} {L : List Prt} {i n cap : Nat} {p : Option Addr} {m : List Int} {K : Value → Hp → Prop}
theorem lenC {x : Nat} (hx : x < 4611686018427387904) (hK : ∀ z : Nat, z ≤ 64 → (1 ≤ x → 2 ^ z ≤ 2 * x) → K (.int .i64 z) H) : hcall PR f_math_bits_Len ⟨[.int .u64 (x : Int)]⟩ H K := by
  apply den_math_bits_Len
  unfold B_math_bits_Len
  apply den_math_bits_Len64
  unfold B_math_bits_Len64
  intro R2 hR2
  have h2 : ∀ (y k : Nat) (kk : Int), kk = k → k ≤ 32 → y < 4294967296 → (1 ≤ x → 1 ≤ y ∧ y * 2 ^ k ≤ x) → R2 (y : Int) kk H := fun y k kk hkk hk hy hxy => by
    subst hkk
    refine hR2 _ _ _ ?_
    clear hR2
    intro R6 hR6
    have h6 : ∀ (y k : Nat) (kk : Int), kk = k → k ≤ 48 → y < 65536 → (1 ≤ x → 1 ≤ y ∧ y * 2 ^ k ≤ x) → R6 (y : Int) kk H := fun y k kk hkk hk hy hxy => by
      subst hkk
      refine hR6 _ _ _ ?_
      clear hR6
      intro R10 hR10
      have h10 : ∀ (y k : Nat) (kk : Int), kk = k → k ≤ 56 → y < 256 → (1 ≤ x → 1 ≤ y ∧ y * 2 ^ k ≤ x) → R10 (y : Int) kk H := fun y k kk hkk hk hy hxy => by
        subst hkk
        refine hR10 _ _ _ ?_
        rw [wrap_u8' hy]
        refine idxStr_tab (by kernel_rfl) hy fun t ht h1 => ?_
        rw [wrap_i64 (n := (t : Int)) (by omega) (by omega), wrap_i64 (by omega) (by omega)]
        rw [show ((k : Int) + (t : Int)) = ((k + t : Nat) : Int) by omega]
        refine hK (k + t) (by omega) fun hx1 => ?_
        obtain ⟨g1, g2⟩ := hxy hx1
        have g3 := h1 g1
        rw [Nat.pow_add, Nat.mul_comm]
        calc 2 ^ t * 2 ^ k ≤ 2 * y * 2 ^ k := Nat.mul_le_mul_right _ g3
          _ = 2 * (y * 2 ^ k) := Nat.mul_assoc _ _ _
          _ ≤ 2 * x := Nat.mul_le_mul_left _ g2
      by_cases hc : (y : Int) ≥ 256
      · refine bif_pos hc ⟨by decide, ?_⟩
        rw [show (8 : Int) = ((8 : Nat) : Int) from rfl, shr64 (by omega), wrap_i64 (by omega) (by omega)]
        refine h10 _ (k + 8) _ (by omega) (by omega) (by omega) fun hx1 => ⟨by omega, ?_⟩
        have := (hxy hx1).2
        refine Nat.le_trans ?_ this
        rw [Nat.pow_add, Nat.mul_comm (2 ^ k), ← Nat.mul_assoc]
        exact Nat.mul_le_mul_right _ (Nat.div_mul_le_self _ _)
      · exact bif_neg hc (h10 _ k _ rfl (by omega) (by omega) hxy)
    by_cases hc : (y : Int) ≥ 65536
    · refine bif_pos hc ⟨by decide, ?_⟩
      rw [show (16 : Int) = ((16 : Nat) : Int) from rfl, shr64 (by omega), wrap_i64 (by omega) (by omega)]
      refine h6 _ (k + 16) _ (by omega) (by omega) (by omega) fun hx1 => ⟨by omega, ?_⟩
      have := (hxy hx1).2
      refine Nat.le_trans ?_ this
      rw [Nat.pow_add, Nat.mul_comm (2 ^ k), ← Nat.mul_assoc]
      exact Nat.mul_le_mul_right _ (Nat.div_mul_le_self _ _)
    · exact bif_neg hc (h6 _ k _ rfl (by omega) (by omega) hxy)
  by_cases hc : (x : Int) ≥ 4294967296
  · refine bif_pos hc ⟨by decide, ?_⟩
    rw [show (32 : Int) = ((32 : Nat) : Int) from rfl, shr64 (by omega)]
    exact h2 _ 32 _ rfl (by omega) (by omega) fun hx1 => ⟨by omega, Nat.div_mul_le_self _ _⟩
  · exact bif_neg hc (h2 _ 0 _ rfl (by omega) (by omega) fun hx1 => ⟨hx1, by omega⟩)
theorem nextPowC {x : Nat} (h1 : 1 ≤ x) (hx : x < 2305843009213693952) (hK : ∀ z : Nat, 1 ≤ z → z ≤ 2 * x → K (.int .u64 z) H) : hcall PR f_slices_nextPowerOfTwo ⟨[.int .i64 (x : Int)]⟩ H K := by
  apply den_slices_nextPowerOfTwo
  unfold B_slices_nextPowerOfTwo
  rw [wrap_u64' (by omega) (by omega)]
  refine lenC (by omega) fun z hz h2 => ?_
  have h2 := h2 h1
  have h64 : z < 64 := by
    refine Nat.lt_of_not_le fun h => ?_
    have : 2 ^ 64 ≤ 2 ^ z := Nat.pow_le_pow_right (by omega) h
    omega
  show (0 : Int) ≤ (z : Int) ∧ K _ H
  rw [shl64 h64]
  exact ⟨by omega, hK _ Nat.one_le_two_pow h2⟩
theorem xnextC {b0 : Nat} {z : Int} (h : Sr H0 (Prt.one b0 (.cells #[.int .u64 z] ty_slices_xorshift (0, 0)) :: L) (i + 1) p n cap m H) (hK : ∀ r z' H', Sr H0 (Prt.one b0 (.cells #[.int .u64 z'] ty_slices_xorshift (0, 0)) :: L) (i + 1) p n cap m H' → K (.int .u64 r) H') :
    hcall PR f_slices_xorshift_Next ⟨[.pointer (some ⟨b0, 0, none⟩)]⟩ H K := by
  apply den_slices_xorshift_Next
  unfold B_slices_xorshift_Next
  have hl := h.lt
  have hb := h.big
  have g := h.st
  refine ldI_of (g.cell (i := 0) rfl rfl) (ldI_of (g.cell (i := 0) rfl rfl) ⟨by decide, ?_⟩)
  (try simp only [asI_mk', asB_mk, asP_mk, asA_mk, asM_mk, asSl_mk, asStr_mk, tup2_mk, tup3_mk, agg1_mk, agg2_mk, agg3_mk, agg4_mk, asAggm, unCons_mk, unNil_mk, asTup_mk, extractD0, extractD1, List.toList_toArray, nilP_mk, add_mk, Nat.zero_add, Nat.add_zero, condT, condF, Bool.not_true, Bool.not_false, Option.isNone_some, Option.isNone_none])
  refine g.put (i := 0) rfl (show 0 < 1 by decide) fun H1 g1 => ?_
  refine ldI_of (g1.cell (i := 0) rfl rfl) (ldI_of (g1.cell (i := 0) rfl rfl) ⟨by decide, ?_⟩)
  (try simp only [asI_mk', asB_mk, asP_mk, asA_mk, asM_mk, asSl_mk, asStr_mk, tup2_mk, tup3_mk, agg1_mk, agg2_mk, agg3_mk, agg4_mk, asAggm, unCons_mk, unNil_mk, asTup_mk, extractD0, extractD1, List.toList_toArray, nilP_mk, add_mk, Nat.zero_add, Nat.add_zero, condT, condF, Bool.not_true, Bool.not_false, Option.isNone_some, Option.isNone_none])
  refine g1.put (i := 0) rfl (show 0 < 1 by decide) fun H2 g2 => ?_
  refine ldI_of (g2.cell (i := 0) rfl rfl) (ldI_of (g2.cell (i := 0) rfl rfl) ⟨by decide, ?_⟩)
  (try simp only [asI_mk', asB_mk, asP_mk, asA_mk, asM_mk, asSl_mk, asStr_mk, tup2_mk, tup3_mk, agg1_mk, agg2_mk, agg3_mk, agg4_mk, asAggm, unCons_mk, unNil_mk, asTup_mk, extractD0, extractD1, List.toList_toArray, nilP_mk, add_mk, Nat.zero_add, Nat.add_zero, condT, condF, Bool.not_true, Bool.not_false, Option.isNone_some, Option.isNone_none])
  refine g2.put (i := 0) rfl (show 0 < 1 by decide) fun H3 g3 => ?_
  refine ldI_of (g3.cell (i := 0) rfl rfl) ?_
  exact hK _ _ H3 ⟨g3, hl, hb⟩
theorem brkC {a b : Nat} (h : Sr H0 L i p n cap m H) (hab : a + 8 ≤ b) (hb : b ≤ n) (hK : ∀ m' H', Reg a b m m' → Sr H0 L i p n cap m' H' → K (.tuple #[]) H') :
    hcall PR f_slices_breakPatternsOrdered_uint64 ⟨[.slice p n cap, .int .i64 a, .int .i64 b]⟩ H K := by
  apply den_slices_breakPatternsOrdered_uint64
  unfold B_slices_breakPatternsOrdered_uint64
  have hbig := h.big
  have hln := h.len
  obtain ⟨l, rfl⟩ : ∃ l, b = a + l := ⟨b - a, by omega⟩
  have w1 : IntKind.i64.wrap (((a + l : Nat) : Int) - (a : Int)) = (l : Int) := by rw [wrap_i64 (by omega) (by omega)]; omega
  have w2 : IntKind.i64.wrap (Int.tdiv (l : Int) 4) = ((l / 4 : Nat) : Int) := by
    rw [Int.tdiv_eq_ediv_of_nonneg (by omega), wrap_i64 (by omega) (by omega)]; omega
  have w3 : IntKind.i64.wrap (((l / 4 : Nat) : Int) * 2) = ((l / 4 * 2 : Nat) : Int) := by rw [wrap_i64 (by omega) (by omega)]; omega
  have w4 : IntKind.i64.wrap ((a : Int) + ((l / 4 * 2 : Nat) : Int)) = ((a + l / 4 * 2 : Nat) : Int) := by rw [wrap_i64 (by omega) (by omega)]; omega
  have w5 : IntKind.i64.wrap (((a + l / 4 * 2 : Nat) : Int) - 1) = ((a + l / 4 * 2 - 1 : Nat) : Int) := by rw [wrap_i64 (by omega) (by omega)]; omega
  have w6 : IntKind.i64.wrap (((a + l / 4 * 2 : Nat) : Int) + 1) = ((a + l / 4 * 2 + 1 : Nat) : Int) := by rw [wrap_i64 (by omega) (by omega)]; omega
  rw [w1, w2, w3, w4, w5, w6]
  refine bif_pos (by omega) ?_
  intro b6 hb6
  have g1 := h.alloc (o := .cells #[.int .u64 0] ty_slices_xorshift) hb6
  refine g1.st.put (i := 0) rfl (show 0 < 1 by decide) fun H2 g2 => ?_
  have g2 : Sr H0 (Prt.one b6 (.cells #[.int .u64 (IntKind.u64.wrap (l : Int))] ty_slices_xorshift (0, 0)) :: L) (i + 1) p n cap m H2 := ⟨g2, g1.lt, hbig⟩
  refine nextPowC (by omega) (by omega) fun md hm1 hm2 => ?_
  have w7 : IntKind.u64.wrap ((md : Int) - 1) = ((md - 1 : Nat) : Int) := by rw [wrap_u64' (by omega) (by omega)]; omega
  show (4 : Int) ≠ 0 ∧ _
  rw [w7]
  refine ⟨by decide, fun t H' => ∃ (v : Nat) (z : Int) (m' : List Int), t = v ∧ a ≤ v ∧ v ≤ a + l / 4 * 2 + 2 ∧ Reg a (a + l) m m' ∧ Sr H0 (Prt.one b6 (.cells #[.int .u64 z] ty_slices_xorshift (0, 0)) :: L) (i + 1) p n cap m' H', fun t _ => (((a + l / 4 * 2 + 2 : Nat) : Int) - t).toNat, ⟨a + l / 4 * 2 - 1, _, m, rfl, by omega, by omega, .refl, g2⟩, ?_⟩
  clear g1 g2 h
  rintro t H1 ⟨v, z, m1, rfl, hv, hv2, hr, h1⟩
  refine ⟨by decide, ?_⟩
  by_cases hc : (v : Int) ≤ ((a + l / 4 * 2 + 1 : Nat) : Int)
  rotate_left
  · exact bif_neg hc (hK m1 H1 hr h1.less)
  refine bif_pos hc (xnextC h1 fun r z' H2 h2 => ?_)
  have hl1 := hr.len
  obtain ⟨o, ho, hom⟩ := and64_le (x := r) (k := md - 1) (by omega)
  show ∀ R19 : Int → Hp → Prop, _
  rw [ho, wrap_i64 (n := (o : Int)) (by omega) (by omega)]
  intro R19 hR19
  have hQ19 : ∀ u : Nat, u < l → R19 (u : Int) H2 := fun u hu => by
    refine hR19 _ H2 ?_
    have w8 : IntKind.i64.wrap ((a : Int) + (u : Int)) = ((a + u : Nat) : Int) := by rw [wrap_i64 (by omega) (by omega)]; omega
    rw [w8]
    refine h2.swap rfl (by omega) rfl (by omega) fun H3 h3 => ?_
    rw [wrap_i64 (by omega) (by omega)]
    exact ⟨⟨v + 1, z', _, by omega, by omega, by omega, hr.sw (by omega) (by omega) (by omega) (by omega) (by omega), h3⟩, by (try dsimp only); omega⟩
  clear hR19
  by_cases hc2 : (o : Int) ≥ (l : Int)
  · refine bif_pos hc2 ?_
    rw [wrap_i64 (by omega) (by omega), show ((o : Int) - (l : Int)) = ((o - l : Nat) : Int) by omega]
    exact hQ19 _ (by omega)
  · exact bif_neg hc2 (hQ19 _ (by omega))
theorem ord2C {b0 x y : Nat} {z : Int} (h : Sr H0 (Prt.one b0 (.cells #[.int .i64 z] ty_int (0, 0)) :: L) (i + 1) p n cap m H) (hx : x < n) (hy : y < n) (hK : ∀ (u v : Nat) z' H', ((u = x ∧ v = y) ∨ (u = y ∧ v = x)) → Sr H0 (Prt.one b0 (.cells #[.int .i64 z'] ty_int (0, 0)) :: L) (i + 1) p n cap m H' → K (.tuple #[.int .i64 u, .int .i64 v]) H') :
    hcall PR f_slices_order2Ordered_uint64 ⟨[.slice p n cap, .int .i64 x, .int .i64 y, .pointer (some ⟨b0, 0, none⟩)]⟩ H K := by
  apply den_slices_order2Ordered_uint64
  unfold B_slices_order2Ordered_uint64
  refine h.cmpT rfl hy rfl hx (fun _ => ?_) (fun _ => hK x y z H (.inl ⟨rfl, rfl⟩) h)
  refine ldI_of (h.st.cell (i := 0) rfl rfl) ?_
  (try simp only [asI_mk', asB_mk, asP_mk, asA_mk, asM_mk, asSl_mk, asStr_mk, tup2_mk, tup3_mk, agg1_mk, agg2_mk, agg3_mk, agg4_mk, asAggm, unCons_mk, unNil_mk, asTup_mk, extractD0, extractD1, List.toList_toArray, nilP_mk, add_mk, Nat.zero_add, Nat.add_zero, condT, condF, Bool.not_true, Bool.not_false, Option.isNone_some, Option.isNone_none])
  refine h.st.put (i := 0) rfl (show 0 < 1 by decide) fun H1 g1 => ?_
  exact hK y x _ H1 (.inr ⟨rfl, rfl⟩) ⟨g1, h.lt, h.big⟩
theorem medC {b0 x y w : Nat} {z : Int} (h : Sr H0 (Prt.one b0 (.cells #[.int .i64 z] ty_int (0, 0)) :: L) (i + 1) p n cap m H) (hx : x < n) (hy : y < n) (hw : w < n) (hK : ∀ (u : Nat) z' H', (u = x ∨ u = y ∨ u = w) → Sr H0 (Prt.one b0 (.cells #[.int .i64 z'] ty_int (0, 0)) :: L) (i + 1) p n cap m H' → K (.int .i64 u) H') :
    hcall PR f_slices_medianOrdered_uint64 ⟨[.slice p n cap, .int .i64 x, .int .i64 y, .int .i64 w, .pointer (some ⟨b0, 0, none⟩)]⟩ H K := by
  apply den_slices_medianOrdered_uint64
  unfold B_slices_medianOrdered_uint64
  refine ord2C h hx hy fun a1 b1 z1 H1 e1 h1 => ?_
  (try simp only [asI_mk', asB_mk, asP_mk, asA_mk, asM_mk, asSl_mk, asStr_mk, tup2_mk, tup3_mk, agg1_mk, agg2_mk, agg3_mk, agg4_mk, asAggm, unCons_mk, unNil_mk, asTup_mk, extractD0, extractD1, List.toList_toArray, nilP_mk, add_mk, Nat.zero_add, Nat.add_zero, condT, condF, Bool.not_true, Bool.not_false, Option.isNone_some, Option.isNone_none])
  refine ord2C h1 (by omega) hw fun b2 c2 z2 H2 e2 h2 => ?_
  (try simp only [asI_mk', asB_mk, asP_mk, asA_mk, asM_mk, asSl_mk, asStr_mk, tup2_mk, tup3_mk, agg1_mk, agg2_mk, agg3_mk, agg4_mk, asAggm, unCons_mk, unNil_mk, asTup_mk, extractD0, extractD1, List.toList_toArray, nilP_mk, add_mk, Nat.zero_add, Nat.add_zero, condT, condF, Bool.not_true, Bool.not_false, Option.isNone_some, Option.isNone_none])
  refine ord2C h2 (by omega) (by omega) fun a3 b3 z3 H3 e3 h3 => ?_
  exact hK b3 z3 H3 (by omega) h3
theorem madC {b0 x : Nat} {z : Int} (h : Sr H0 (Prt.one b0 (.cells #[.int .i64 z] ty_int (0, 0)) :: L) (i + 1) p n cap m H) (h0 : 1 ≤ x) (hx : x + 1 < n) (hK : ∀ (u : Nat) z' H', x ≤ u + 1 → u ≤ x + 1 → Sr H0 (Prt.one b0 (.cells #[.int .i64 z'] ty_int (0, 0)) :: L) (i + 1) p n cap m H' → K (.int .i64 u) H') :
    hcall PR f_slices_medianAdjacentOrdered_uint64 ⟨[.slice p n cap, .int .i64 x, .pointer (some ⟨b0, 0, none⟩)]⟩ H K := by
  apply den_slices_medianAdjacentOrdered_uint64
  unfold B_slices_medianAdjacentOrdered_uint64
  have hbig := h.big
  have w1 : IntKind.i64.wrap ((x : Int) - 1) = ((x - 1 : Nat) : Int) := by rw [wrap_i64 (by omega) (by omega)]; omega
  have w2 : IntKind.i64.wrap ((x : Int) + 1) = ((x + 1 : Nat) : Int) := by rw [wrap_i64 (by omega) (by omega)]; omega
  rw [w1, w2]
  refine medC h (by omega) (by omega) (by omega) fun u z' H' e h' => ?_
  exact hK u z' H' (by omega) (by omega) h'
theorem pivC {a b : Nat} (h : Sr H0 L i p n cap m H) (hab : a + 8 ≤ b) (hb : b ≤ n) (hK : ∀ (u : Nat) (v : Int) H', a ≤ u → u < b → Sr H0 L i p n cap m H' → K (.tuple #[.int .i64 u, .int .i64 v]) H') :
    hcall PR f_slices_choosePivotOrdered_uint64 ⟨[.slice p n cap, .int .i64 a, .int .i64 b]⟩ H K := by
  apply den_slices_choosePivotOrdered_uint64
  unfold B_slices_choosePivotOrdered_uint64
  have hbig := h.big
  have hln := h.len
  obtain ⟨l, rfl⟩ : ∃ l, b = a + l := ⟨b - a, by omega⟩
  have w1 : IntKind.i64.wrap (((a + l : Nat) : Int) - (a : Int)) = (l : Int) := by rw [wrap_i64 (by omega) (by omega)]; omega
  have w2 : IntKind.i64.wrap (Int.tdiv (l : Int) 4) = ((l / 4 : Nat) : Int) := by
    rw [Int.tdiv_eq_ediv_of_nonneg (by omega), wrap_i64 (by omega) (by omega)]; omega
  have w3 : IntKind.i64.wrap (((l / 4 : Nat) : Int) * 1) = ((l / 4 * 1 : Nat) : Int) := by rw [wrap_i64 (by omega) (by omega)]; omega
  have w4 : IntKind.i64.wrap (((l / 4 : Nat) : Int) * 2) = ((l / 4 * 2 : Nat) : Int) := by rw [wrap_i64 (by omega) (by omega)]; omega
  have w5 : IntKind.i64.wrap (((l / 4 : Nat) : Int) * 3) = ((l / 4 * 3 : Nat) : Int) := by rw [wrap_i64 (by omega) (by omega)]; omega
  have w6 : IntKind.i64.wrap ((a : Int) + ((l / 4 * 1 : Nat) : Int)) = ((a + l / 4 * 1 : Nat) : Int) := by rw [wrap_i64 (by omega) (by omega)]; omega
  have w7 : IntKind.i64.wrap ((a : Int) + ((l / 4 * 2 : Nat) : Int)) = ((a + l / 4 * 2 : Nat) : Int) := by rw [wrap_i64 (by omega) (by omega)]; omega
  have w8 : IntKind.i64.wrap ((a : Int) + ((l / 4 * 3 : Nat) : Int)) = ((a + l / 4 * 3 : Nat) : Int) := by rw [wrap_i64 (by omega) (by omega)]; omega
  rw [w1, w2, w3, w4, w5, w6, w7, w8]
  intro b6 hb6
  have g1 := h.alloc (o := .cells #[.int .i64 0] ty_int) hb6
  have g1 : Sr H0 (Prt.one b6 (.cells #[.int .i64 0] ty_int (0, 0)) :: L) (i + 1) p n cap m _ := g1
  refine ⟨by decide, by decide, by decide, ?_⟩
  intro R8 hR8
  have hQ8 : ∀ (u : Nat) (z : Int) H', a ≤ u → u < a + l → Sr H0 (Prt.one b6 (.cells #[.int .i64 z] ty_int (0, 0)) :: L) (i + 1) p n cap m H' → R8 (u : Int) H' := fun u z H' h1 h2 h3 => by
    refine hR8 _ H' (ldI_of (h3.st.cell (i := 0) rfl rfl) ?_)
    by_cases e0 : z = 0
    · exact bif_eq e0 (hK u _ H' h1 h2 h3.less)
    · refine bif_ne e0 ?_
      by_cases e1 : z = 12
      · exact bif_eq e1 (hK u _ H' h1 h2 h3.less)
      · exact bif_ne e1 (hK u _ H' h1 h2 h3.less)
  clear hR8
  refine bif_pos (by omega) ?_
  intro R12 hR12
  have hQ12 : ∀ (u v w : Nat) (z : Int) H', a ≤ u → u < a + l → a ≤ v → v < a + l → a ≤ w → w < a + l → Sr H0 (Prt.one b6 (.cells #[.int .i64 z] ty_int (0, 0)) :: L) (i + 1) p n cap m H' → R12 (u : Int) (v : Int) (w : Int) H' := fun u v w z H' u1 u2 v1 v2 w1 w2 h3 => by
    refine hR12 _ _ _ H' (medC h3 (by omega) (by omega) (by omega) fun t z' H2 e h4 => ?_)
    exact hQ8 t z' H2 (by omega) (by omega) h4
  clear hR12
  by_cases hc : (l : Int) ≥ 50
  · refine bif_pos hc (madC g1 (by omega) (by omega) fun t1 z1 H1 a1 c1 h1 => ?_)
    (try simp only [asI_mk', asB_mk, asP_mk, asA_mk, asM_mk, asSl_mk, asStr_mk, tup2_mk, tup3_mk, agg1_mk, agg2_mk, agg3_mk, agg4_mk, asAggm, unCons_mk, unNil_mk, asTup_mk, extractD0, extractD1, List.toList_toArray, nilP_mk, add_mk, Nat.zero_add, Nat.add_zero, condT, condF, Bool.not_true, Bool.not_false, Option.isNone_some, Option.isNone_none])
    refine madC h1 (by omega) (by omega) fun t2 z2 H2 a2 c2 h2 => ?_
    (try simp only [asI_mk', asB_mk, asP_mk, asA_mk, asM_mk, asSl_mk, asStr_mk, tup2_mk, tup3_mk, agg1_mk, agg2_mk, agg3_mk, agg4_mk, asAggm, unCons_mk, unNil_mk, asTup_mk, extractD0, extractD1, List.toList_toArray, nilP_mk, add_mk, Nat.zero_add, Nat.add_zero, condT, condF, Bool.not_true, Bool.not_false, Option.isNone_some, Option.isNone_none])
    refine madC h2 (by omega) (by omega) fun t3 z3 H3 a3 c3 h3 => ?_
    exact hQ12 t1 t2 t3 z3 H3 (by omega) (by omega) (by omega) (by omega) (by omega) (by omega) h3
  · exact bif_neg hc (hQ12 _ _ _ _ _ (by omega) (by omega) (by omega) (by omega) (by omega) (by omega) g1)
end
end Go.Proofs.Ytknejebggegfjaa

namespace Go.Proofs.Ytknejebggegfjaa
set_option linter.unusedSimpArgs false
set_option linter.unusedVariables false
set_option maxRecDepth 20000
open Go
theorem Up2.snoc {m : List Int} {a y : Nat} (h : Up2 m a y) (hy : a < y) (hc : m.getD (y - 1) 0 ≤ m.getD y 0) : Up2 m a (y + 1) := fun u v h1 h2 h3 => by
  by_cases e : v = y
  · subst e
    by_cases e2 : u = v - 1
    · subst e2; exact hc
    · exact Int.le_trans (h u (v - 1) h1 (by omega) (by omega)) hc
  · exact h u v h1 h2 (by omega)
theorem Up2.swp {m : List Int} {a e x y : Nat} (h : Up2 m a e) (hx : e ≤ x) (hy : e ≤ y) (gx : x < m.length) (gy : y < m.length) : Up2 (swp m x y) a e := fun u v h1 h2 h3 => by
  rw [swp_get gx gy, swp_get gx gy, if_neg (by omega), if_neg (by omega), if_neg (by omega), if_neg (by omega)]
  exact h u v h1 h2 h3
section
variable {H0 H : Hp} {L : List Prt} {i n cap : Nat} {p : Option Addr} {m : List Int} {K : Value → Hp → Prop}
theorem pisC {a b : Nat} (h : Sr H0 L i p n cap m H) (hab : a < b) (hb : b ≤ n) (hlo : Lo m a b) (hK : ∀ (r : Bool) m' H', Reg a b m m' → (r = true → Up2 m' a b) → Sr H0 L i p n cap m' H' → K (.bool r) H') :
    hcall PR f_slices_partialInsertionSortOrdered_uint64 ⟨[.slice p n cap, .int .i64 a, .int .i64 b]⟩ H K := by
  apply den_slices_partialInsertionSortOrdered_uint64
  unfold B_slices_partialInsertionSortOrdered_uint64
  have hbig := h.big
  have hln := h.len
  refine ⟨fun t c H' => ∃ (y : Nat) (m1 : List Int), t = y ∧ 0 ≤ c ∧ c ≤ 5 ∧ a < y ∧ y ≤ b ∧ Up2 m1 a y ∧ Reg a b m m1 ∧ Sr H0 L i p n cap m1 H', fun t c _ => (5 - c).toNat, ⟨a + 1, m, by rw [wrap_i64 (by omega) (by omega)]; omega, by omega, by omega, by omega, by omega, fun u v h1 h2 h3 => by omega, .refl, h⟩, ?_⟩
  rintro t c H1 ⟨y, m1, rfl, hc0, hc5, hy, hyb, hup, hg, h1⟩
  by_cases hc : c < 5
  rotate_left
  · exact bif_neg hc (hK false m1 H1 hg (fun e => by cases e) h1)
  refine bif_pos hc ?_
  intro R11 hR11
  have hQ11 : ∀ (y' : Nat) (m' : List Int) H', a < y' → y' ≤ b → Up2 m' a y' → Reg a b m m' → Sr H0 L i p n cap m' H' → R11 (y' : Int) H' := fun y' m' H' g1 g2 g3 g4 g5 => by
    refine hR11 _ H' ?_
    rw [wrap_i64 (by omega) (by omega)]
    exact ⟨⟨y', m', rfl, by omega, by omega, g1, g2, g3, g4, g5⟩, by (try dsimp only); omega⟩
  clear hR11
  intro R14 hR14
  have hl1 := hg.len
  have hQ14 : ∀ (y' : Nat), a < y' → y' ≤ b → Up2 m1 a y' → R14 (y' : Int) H1 := fun y' g1 g2 g3 => by
    refine hR14 _ H1 ?_
    by_cases e : (y' : Int) = (b : Int)
    · refine bif_eq e (hK true m1 H1 hg (fun _ => ?_) h1)
      obtain rfl : y' = b := by omega
      exact g3
    refine bif_ne e ?_
    by_cases e5 : IntKind.i64.wrap ((b : Int) - (a : Int)) < 50
    · exact bif_pos e5 (hK false m1 H1 hg (fun e => by cases e) h1)
    refine bif_neg e5 ?_
    clear e5
    have w1 : IntKind.i64.wrap ((y' : Int) - 1) = ((y' - 1 : Nat) : Int) := by rw [wrap_i64 (by omega) (by omega)]; omega
    rw [w1]
    refine h1.swap rfl (by omega) rfl (by omega) fun H2 h2 => ?_
    have hg2 : Reg a b m (Go.Proofs.Ytknejebggegfjaa.swp m1 y' (y' - 1)) := hg.sw (by omega) (by omega) (by omega) (by omega) (by omega)
    intro R25 hR25
    have hQ25 : ∀ (m' : List Int) H', Up2 m' a y' → Reg a b m m' → Sr H0 L i p n cap m' H' → R25 H' := fun m' H' k1 k2 k3 => by
      refine hR25 H' ?_
      have w2 : IntKind.i64.wrap ((b : Int) - (y' : Int)) = ((b - y' : Nat) : Int) := by rw [wrap_i64 (by omega) (by omega)]; omega
      have w3 : IntKind.i64.wrap ((y' : Int) + 1) = ((y' + 1 : Nat) : Int) := by rw [wrap_i64 (by omega) (by omega)]; omega
      rw [w2, w3]
      by_cases e2 : ((b - y' : Nat) : Int) ≥ 2
      rotate_left
      · exact bif_neg e2 (hQ11 y' m' H' g1 g2 k1 k2 k3)
      refine bif_pos e2 ?_
      refine ⟨fun t H' => ∃ (w : Nat) (m' : List Int), t = w ∧ y' < w ∧ w ≤ b ∧ Up2 m' a y' ∧ Reg a b m m' ∧ Sr H0 L i p n cap m' H', fun t _ => ((b : Int) - t).toNat, ⟨y' + 1, m', rfl, by omega, by omega, k1, k2, k3⟩, ?_⟩
      clear k1 k2 k3
      clear m'
      rintro t H3 ⟨w, m', rfl, hw, hwb, k1, k2, k3⟩
      have hl3 := k2.len
      by_cases ew : (w : Int) < (b : Int)
      rotate_left
      · exact bif_neg ew (hQ11 y' m' H3 g1 g2 k1 k2 k3)
      refine bif_pos ew ?_
      have w4 : IntKind.i64.wrap ((w : Int) - 1) = ((w - 1 : Nat) : Int) := by rw [wrap_i64 (by omega) (by omega)]; omega
      rw [w4]
      refine k3.cmpN rfl (by omega) rfl (by omega) (fun _ => hQ11 y' m' H3 g1 g2 k1 k2 k3) fun _ => ?_
      refine k3.swap rfl (by omega) rfl (by omega) fun H4 h4 => ?_
      rw [wrap_i64 (by omega) (by omega)]
      exact ⟨⟨w + 1, _, by omega, by omega, by omega, k1.swp (by omega) (by omega) (by omega) (by omega), k2.sw (by omega) (by omega) (by omega) (by omega) (by omega), h4⟩, by (try dsimp only); omega⟩
    clear hR25
    have w2 : IntKind.i64.wrap ((y' : Int) - (a : Int)) = ((y' - a : Nat) : Int) := by rw [wrap_i64 (by omega) (by omega)]; omega
    rw [w2]
    by_cases e2 : ((y' - a : Nat) : Int) ≥ 2
    rotate_left
    · exact bif_neg e2 (hQ25 _ H2 (fun u v k1 k2 k3 => by omega) hg2 h2)
    refine bif_pos e2 ?_
    refine ⟨fun t H' => ∃ (w : Nat) (m' : List Int), t = w ∧ a ≤ w ∧ w < y' ∧ Hol m' a w y' ∧ Reg a b m m' ∧ Sr H0 L i p n cap m' H', fun t _ => t.toNat, ⟨y' - 1, _, rfl, by omega, by omega, ?_, hg2, h2⟩, ?_⟩
    · have := Hol.start (Up2.swp (m := m1) (a := a) (e := y' - 1) (x := y') (y := y' - 1) (fun u v k1 k2 k3 => g3 u v k1 k2 (by omega)) (by omega) (by omega) (by omega) (by omega))
      rw [show y' - 1 + 1 = y' by omega] at this
      exact this
    clear hg2 h2
    rintro t H3 ⟨w, m', rfl, hw, hwy, ho, k2, k3⟩
    have hl3 := k2.len
    by_cases ew : (w : Int) ≥ 1
    rotate_left
    · exact bif_neg ew (hQ25 m' H3 (ho.done (.inl (by omega))) k2 k3)
    refine bif_pos ew ?_
    have w4 : IntKind.i64.wrap ((w : Int) - 1) = ((w - 1 : Nat) : Int) := by rw [wrap_i64 (by omega) (by omega)]; omega
    rw [w4]
    refine k3.cmpN rfl (by omega) rfl (by omega) (fun hle => ?_) fun hlt => ?_
    · refine hQ25 m' H3 (ho.done ?_) k2 k3
      by_cases e : w = a
      · exact .inl e
      · exact .inr ⟨by omega, hle⟩
    have haw : a < w := by
      refine Nat.lt_of_le_of_ne hw fun e => ?_
      subst e
      have := hlo.reg k2 (by omega) a (by omega) hab
      omega
    refine k3.swap rfl (by omega) rfl (by omega) fun H4 h4 => ?_
    exact ⟨⟨w - 1, _, rfl, by omega, by omega, ho.step haw hwy (by omega) hlt, k2.sw (by omega) (by omega) (by omega) (by omega) (by omega), h4⟩, by (try dsimp only); omega⟩
  clear hR14
  refine ⟨fun t H' => ∃ (y' : Nat), t = y' ∧ a < y' ∧ y' ≤ b ∧ Up2 m1 a y' ∧ H' = H1, fun t _ => ((b : Int) - t).toNat, ⟨y, rfl, hy, hyb, hup, rfl⟩, ?_⟩
  rintro t H2 ⟨y', rfl, g1, g2, g3, rfl⟩
  by_cases ew : (y' : Int) < (b : Int)
  rotate_left
  · exact bif_neg ew (hQ14 y' g1 g2 g3)
  refine bif_pos ew ?_
  have w1 : IntKind.i64.wrap ((y' : Int) - 1) = ((y' - 1 : Nat) : Int) := by rw [wrap_i64 (by omega) (by omega)]; omega
  rw [w1]
  refine h1.cmpN rfl (by omega) rfl (by omega) (fun hle => ?_) fun _ => hQ14 y' g1 g2 g3
  rw [wrap_i64 (by omega) (by omega)]
  exact ⟨⟨y' + 1, by omega, by omega, by omega, g3.snoc g1 hle, rfl⟩, by (try dsimp only); omega⟩
end
/-- A range that is being parted. -/
structure Par (P Q : Int → Prop) (v : Int) (m : List Int) (a b i j : Nat) : Prop where
  piv : m.getD a 0 = v
  left : ∀ k, a < k → k < i → P (m.getD k 0)
  right : ∀ k, j < k → k < b → Q (m.getD k 0)
  lo : a < i
  hi : j < b
  ij : i ≤ j + 1
theorem Par.sw {P Q : Int → Prop} {v : Int} {m : List Int} {a b i j : Nat} (h : Par P Q v m a b i j) (hij : i < j) (hb : b ≤ m.length) (hp : P (m.getD j 0)) (hq : Q (m.getD i 0)) : Par P Q v (swp m i j) a b (i + 1) (j - 1) := by
  obtain ⟨h1, h2, h3, h4, h5, h6⟩ := h
  have hs : ∀ k, (swp m i j).getD k 0 = if k = j then m.getD i 0 else if k = i then m.getD j 0 else m.getD k 0 := fun k => swp_get (by omega) (by omega)
  refine ⟨by rw [hs, if_neg (by omega), if_neg (by omega), h1], fun k g1 g2 => ?_, fun k g1 g2 => ?_, by omega, by omega, by omega⟩
  · rw [hs, if_neg (by omega)]
    split
    · exact hp
    · exact h2 k g1 (by omega)
  · rw [hs]
    split
    · exact hq
    · rw [if_neg (by omega)]
      exact h3 k (by omega) g2
theorem Par.up {P Q : Int → Prop} {v : Int} {m : List Int} {a b i j : Nat} (h : Par P Q v m a b i j) (hij : i ≤ j) (hp : P (m.getD i 0)) : Par P Q v m a b (i + 1) j := by
  obtain ⟨h1, h2, h3, h4, h5, h6⟩ := h
  refine ⟨h1, fun k g1 g2 => ?_, h3, by omega, h5, by omega⟩
  by_cases e : k = i
  · subst e; exact hp
  · exact h2 k g1 (by omega)
theorem Par.down {P Q : Int → Prop} {v : Int} {m : List Int} {a b i j : Nat} (h : Par P Q v m a b i j) (hij : i ≤ j) (hq : Q (m.getD j 0)) : Par P Q v m a b i (j - 1) := by
  obtain ⟨h1, h2, h3, h4, h5, h6⟩ := h
  refine ⟨h1, h2, fun k g1 g2 => ?_, h4, by omega, by omega⟩
  by_cases e : k = j
  · subst e; exact hq
  · exact h3 k (by omega) g2
section
variable {H0 H : Hp} {L : List Prt} {x n cap : Nat} {p : Option Addr} {m : List Int} {K : Value → Hp → Prop} {v : Int} {a b i j : Nat} {R : Int → Hp → Prop}
/-- Up, as long as it is less. -/
theorem upI (h : Sr H0 L x p n cap m H) (hb : b ≤ n) (hp : Par (· < v) (v ≤ ·) v m a b i j) (hR : ∀ i' : Nat, i ≤ i' → Par (· < v) (v ≤ ·) v m a b i' j → (i' ≤ j → v ≤ m.getD i' 0) → R (i' : Int) H) :
    ∃ (I : Int → Hp → Prop) (mm : Int → Hp → Nat), I (i : Int) H ∧ ∀ t : Int, ∀ Hx : Hp, I t Hx →
      (bif (decide ((t : Int) ≤ (j : Int))) then
        idxA p n t 1 fun el1 => ldI .u64 el1 Hx fun t1 => idxA p n (a : Int) 1 fun el2 => ldI .u64 el2 Hx fun t2 =>
        hcall PR f_cmp_Less_uint64 ⟨[(.int .u64 t1), (.int .u64 t2)]⟩ Hx fun v3 Hx3 => asB v3 fun t3 =>
        (bif t3 then I (IntKind.i64.wrap (t + 1)) Hx3 ∧ mm (IntKind.i64.wrap (t + 1)) Hx3 < mm t Hx else R t Hx3)
      else R t Hx) := by
  have hbig := h.big
  refine ⟨fun t H' => ∃ i' : Nat, t = i' ∧ i ≤ i' ∧ Par (· < v) (v ≤ ·) v m a b i' j ∧ H' = H, fun t _ => ((j : Int) + 1 - t).toNat, ⟨i, rfl, Nat.le_refl _, hp, rfl⟩, ?_⟩
  rintro t H' ⟨i', rfl, hi, hq, rfl⟩
  have g1 := hq.lo; have g2 := hq.hi; have g3 := hq.piv
  by_cases hc : (i' : Int) ≤ (j : Int)
  · refine bif_pos hc (h.cmpT rfl (by omega) rfl (by omega) (fun hlt => ?_) fun hle => hR i' hi hq fun _ => by omega)
    rw [wrap_i64 (by omega) (by omega)]
    exact ⟨⟨i' + 1, by omega, by omega, hq.up (by omega) (by show _ < v; omega), rfl⟩, by (try dsimp only); omega⟩
  · exact bif_neg hc (hR i' hi hq fun _ => by omega)
theorem dnI (h : Sr H0 L x p n cap m H) (hb : b ≤ n) (hp : Par (· < v) (v ≤ ·) v m a b i j) (hR : ∀ j' : Nat, j' ≤ j → Par (· < v) (v ≤ ·) v m a b i j' → (i ≤ j' → m.getD j' 0 < v) → R (j' : Int) H) :
    ∃ (I : Int → Hp → Prop) (mm : Int → Hp → Nat), I (j : Int) H ∧ ∀ t : Int, ∀ Hx : Hp, I t Hx →
      (bif (decide ((i : Int) ≤ t)) then
        idxA p n t 1 fun el1 => ldI .u64 el1 Hx fun t1 => idxA p n (a : Int) 1 fun el2 => ldI .u64 el2 Hx fun t2 =>
        hcall PR f_cmp_Less_uint64 ⟨[(.int .u64 t1), (.int .u64 t2)]⟩ Hx fun v3 Hx3 => asB v3 fun t3 =>
        (bif (!t3) then I (IntKind.i64.wrap (t - 1)) Hx3 ∧ mm (IntKind.i64.wrap (t - 1)) Hx3 < mm t Hx else R t Hx3)
      else R t Hx) := by
  have hbig := h.big
  refine ⟨fun t H' => ∃ j' : Nat, t = j' ∧ j' ≤ j ∧ Par (· < v) (v ≤ ·) v m a b i j' ∧ H' = H, fun t _ => t.toNat, ⟨j, rfl, Nat.le_refl _, hp, rfl⟩, ?_⟩
  rintro t H' ⟨j', rfl, hi, hq, rfl⟩
  have g1 := hq.lo; have g2 := hq.hi; have g3 := hq.piv
  by_cases hc : (i : Int) ≤ (j' : Int)
  · refine bif_pos hc (h.cmpN rfl (by omega) rfl (by omega) (fun hle => ?_) fun hlt => hR j' hi hq fun _ => by omega)
    rw [wrap_i64 (by omega) (by omega)]
    exact ⟨⟨j' - 1, by omega, by omega, hq.down (by omega) (by show v ≤ _; omega), rfl⟩, by (try dsimp only); omega⟩
  · exact bif_neg hc (hR j' hi hq fun _ => by omega)
theorem upE (h : Sr H0 L x p n cap m H) (hb : b ≤ n) (hp : Par (· ≤ v) (v < ·) v m a b i j) (hR : ∀ i' : Nat, i ≤ i' → Par (· ≤ v) (v < ·) v m a b i' j → (i' ≤ j → v < m.getD i' 0) → R (i' : Int) H) :
    ∃ (I : Int → Hp → Prop) (mm : Int → Hp → Nat), I (i : Int) H ∧ ∀ t : Int, ∀ Hx : Hp, I t Hx →
      (bif (decide ((t : Int) ≤ (j : Int))) then
        idxA p n (a : Int) 1 fun el1 => ldI .u64 el1 Hx fun t1 => idxA p n t 1 fun el2 => ldI .u64 el2 Hx fun t2 =>
        hcall PR f_cmp_Less_uint64 ⟨[(.int .u64 t1), (.int .u64 t2)]⟩ Hx fun v3 Hx3 => asB v3 fun t3 =>
        (bif (!t3) then I (IntKind.i64.wrap (t + 1)) Hx3 ∧ mm (IntKind.i64.wrap (t + 1)) Hx3 < mm t Hx else R t Hx3)
      else R t Hx) := by
  have hbig := h.big
  refine ⟨fun t H' => ∃ i' : Nat, t = i' ∧ i ≤ i' ∧ Par (· ≤ v) (v < ·) v m a b i' j ∧ H' = H, fun t _ => ((j : Int) + 1 - t).toNat, ⟨i, rfl, Nat.le_refl _, hp, rfl⟩, ?_⟩
  rintro t H' ⟨i', rfl, hi, hq, rfl⟩
  have g1 := hq.lo; have g2 := hq.hi; have g3 := hq.piv
  by_cases hc : (i' : Int) ≤ (j : Int)
  · refine bif_pos hc (h.cmpN rfl (by omega) rfl (by omega) (fun hle => ?_) fun hlt => hR i' hi hq fun _ => by omega)
    rw [wrap_i64 (by omega) (by omega)]
    exact ⟨⟨i' + 1, by omega, by omega, hq.up (by omega) (by show _ ≤ v; omega), rfl⟩, by (try dsimp only); omega⟩
  · exact bif_neg hc (hR i' hi hq fun _ => by omega)
theorem dnE (h : Sr H0 L x p n cap m H) (hb : b ≤ n) (hp : Par (· ≤ v) (v < ·) v m a b i j) (hR : ∀ j' : Nat, j' ≤ j → Par (· ≤ v) (v < ·) v m a b i j' → (i ≤ j' → m.getD j' 0 ≤ v) → R (j' : Int) H) :
    ∃ (I : Int → Hp → Prop) (mm : Int → Hp → Nat), I (j : Int) H ∧ ∀ t : Int, ∀ Hx : Hp, I t Hx →
      (bif (decide ((i : Int) ≤ t)) then
        idxA p n (a : Int) 1 fun el1 => ldI .u64 el1 Hx fun t1 => idxA p n t 1 fun el2 => ldI .u64 el2 Hx fun t2 =>
        hcall PR f_cmp_Less_uint64 ⟨[(.int .u64 t1), (.int .u64 t2)]⟩ Hx fun v3 Hx3 => asB v3 fun t3 =>
        (bif t3 then I (IntKind.i64.wrap (t - 1)) Hx3 ∧ mm (IntKind.i64.wrap (t - 1)) Hx3 < mm t Hx else R t Hx3)
      else R t Hx) := by
  have hbig := h.big
  refine ⟨fun t H' => ∃ j' : Nat, t = j' ∧ j' ≤ j ∧ Par (· ≤ v) (v < ·) v m a b i j' ∧ H' = H, fun t _ => t.toNat, ⟨j, rfl, Nat.le_refl _, hp, rfl⟩, ?_⟩
  rintro t H' ⟨j', rfl, hi, hq, rfl⟩
  have g1 := hq.lo; have g2 := hq.hi; have g3 := hq.piv
  by_cases hc : (i : Int) ≤ (j' : Int)
  · refine bif_pos hc (h.cmpT rfl (by omega) rfl (by omega) (fun hlt => ?_) fun hle => hR j' hi hq fun _ => by omega)
    rw [wrap_i64 (by omega) (by omega)]
    exact ⟨⟨j' - 1, by omega, by omega, hq.down (by omega) (by show v < _; omega), rfl⟩, by (try dsimp only); omega⟩
  · exact bif_neg hc (hR j' hi hq fun _ => by omega)

theorem parEC {pv : Nat} (h : Sr H0 L x p n cap m H) (hab : a + 1 < b) (hb : b ≤ n) (hpa : a ≤ pv) (hpb : pv < b) (hK : ∀ (md : Nat) m' H', a < md → md ≤ b → Reg a b m m' → (∀ k, a ≤ k → k < md → m'.getD k 0 ≤ m.getD pv 0) → (∀ k, md ≤ k → k < b → m.getD pv 0 < m'.getD k 0) → Sr H0 L x p n cap m' H' → K (.int .i64 md) H') :
    hcall PR f_slices_partitionEqualOrdered_uint64 ⟨[.slice p n cap, .int .i64 a, .int .i64 b, .int .i64 pv]⟩ H K := by
  apply den_slices_partitionEqualOrdered_uint64
  unfold B_slices_partitionEqualOrdered_uint64
  have hbig := h.big
  have hln := h.len
  have w1 : IntKind.i64.wrap ((b : Int) - 1) = ((b - 1 : Nat) : Int) := by rw [wrap_i64 (by omega) (by omega)]; omega
  have w2 : IntKind.i64.wrap ((a : Int) + 1) = ((a + 1 : Nat) : Int) := by rw [wrap_i64 (by omega) (by omega)]; omega
  rw [w1, w2]
  refine h.swap rfl (by omega) rfl (by omega) fun H1 h1 => ?_
  obtain ⟨v, hv⟩ : ∃ v, v = m.getD pv 0 := ⟨_, rfl⟩
  rw [← hv] at hK
  have hg1 : Reg a b m (swp m a pv) := Reg.refl.sw (by omega) (by omega) (by omega) (by omega) (by omega)
  have hp1 : Par (· ≤ v) (v < ·) v (swp m a pv) a b (a + 1) (b - 1) := ⟨by
    rw [swp_get (by omega) (by omega)]
    split
    next e => rw [hv, ← e]
    · rw [if_pos rfl, hv], fun k g1 g2 => by omega, fun k g1 g2 => by omega, by omega, by omega, by omega⟩
  refine ⟨fun s t H' => ∃ (i j : Nat) (m1 : List Int), s = i ∧ t = j ∧ Par (· ≤ v) (v < ·) v m1 a b i j ∧ Reg a b m m1 ∧ Sr H0 L x p n cap m1 H', fun s t _ => (t + 1 - s).toNat, ⟨a + 1, b - 1, _, rfl, rfl, hp1, hg1, h1⟩, ?_⟩
  clear h1 hg1 hp1
  rintro s t H2 ⟨i, j, m1, rfl, rfl, hp, hg, h2⟩
  have hl1 := hg.len
  have ij := hp.ij; have plo := hp.lo; have phi := hp.hi
  intro R20 hR20
  refine upE h2 hb hp fun i' hi' hp' hq' => hR20 _ _ ?_
  intro R23 hR23
  refine dnE h2 hb hp' fun j' hj' hp'' hq'' => hR23 _ _ ?_
  have ij' := hp''.ij; have plo' := hp''.lo; have phi' := hp''.hi
  by_cases hc : (i' : Int) > (j' : Int)
  · refine bif_pos hc (hK i' m1 H2 (by omega) (by omega) hg (fun k g1 g2 => ?_) (fun k g1 g2 => hp''.right k (by omega) g2) h2)
    by_cases e : k = a
    · subst e; rw [hp''.piv]; exact Int.le_refl _
    · exact hp''.left k (by omega) g2
  · have q1 := hq' (by omega)
    have q2 := hq'' (by omega)
    have hne : i' ≠ j' := fun e => by subst e; omega
    refine bif_neg hc (h2.swap rfl (by omega) rfl (by omega) fun H3 h3 => ?_)
    rw [wrap_i64 (by omega) (by omega), wrap_i64 (by omega) (by omega)]
    exact ⟨⟨i' + 1, j' - 1, _, by omega, by omega, hp''.sw (by omega) (by omega) q2 q1, hg.sw (by omega) (by omega) (by omega) (by omega) (by omega), h3⟩, by (try dsimp only); omega⟩
theorem parC {pv : Nat} (h : Sr H0 L x p n cap m H) (hab : a + 1 < b) (hb : b ≤ n) (hpa : a ≤ pv) (hpb : pv < b) (hK : ∀ (md : Nat) (r : Bool) m' H', a ≤ md → md < b → Reg a b m m' → (∀ k, a ≤ k → k < md → m'.getD k 0 ≤ m'.getD md 0) → (∀ k, md < k → k < b → m'.getD md 0 ≤ m'.getD k 0) → Sr H0 L x p n cap m' H' → K (.tuple #[.int .i64 md, .bool r]) H') :
    hcall PR f_slices_partitionOrdered_uint64 ⟨[.slice p n cap, .int .i64 a, .int .i64 b, .int .i64 pv]⟩ H K := by
  apply den_slices_partitionOrdered_uint64
  unfold B_slices_partitionOrdered_uint64
  have hbig := h.big
  have hln := h.len
  have w1 : IntKind.i64.wrap ((b : Int) - 1) = ((b - 1 : Nat) : Int) := by rw [wrap_i64 (by omega) (by omega)]; omega
  have w2 : IntKind.i64.wrap ((a : Int) + 1) = ((a + 1 : Nat) : Int) := by rw [wrap_i64 (by omega) (by omega)]; omega
  rw [w1, w2]
  refine h.swap rfl (by omega) rfl (by omega) fun H1 h1 => ?_
  obtain ⟨v, hv⟩ : ∃ v, v = m.getD pv 0 := ⟨_, rfl⟩
  have hg1 : Reg a b m (swp m a pv) := Reg.refl.sw (by omega) (by omega) (by omega) (by omega) (by omega)
  have hp1 : Par (· < v) (v ≤ ·) v (swp m a pv) a b (a + 1) (b - 1) := ⟨by
    rw [swp_get (by omega) (by omega)]
    split
    next e => rw [hv, ← e]
    · rw [if_pos rfl, hv], fun k g1 g2 => by omega, fun k g1 g2 => by omega, by omega, by omega, by omega⟩
  have fin : ∀ (r : Bool) (i j : Nat) (m1 : List Int) H2, Par (· < v) (v ≤ ·) v m1 a b i j → Reg a b m m1 → j < i → Sr H0 L x p n cap (swp m1 j a) H2 → K (.tuple #[.int .i64 j, .bool r]) H2 := fun r i j m1 H2 hp hg hji h2 => by
    have hl1 := hg.len
    have ij := hp.ij; have plo := hp.lo; have phi := hp.hi; have piv := hp.piv
    have hs : ∀ k, (swp m1 j a).getD k 0 = if k = a then m1.getD j 0 else if k = j then m1.getD a 0 else m1.getD k 0 := fun k => swp_get (by omega) (by omega)
    have hj : (swp m1 j a).getD j 0 = v := by
      rw [hs]
      split
      next e => rw [e, piv]
      · rw [if_pos rfl, piv]
    refine hK j r _ H2 (by omega) phi (hg.sw (by omega) (by omega) (by omega) (by omega) (by omega)) (fun k g1 g2 => ?_) (fun k g1 g2 => ?_) h2
    · rw [hj, hs]
      split
      · exact Int.le_of_lt (hp.left j (by omega) (by omega))
      · rw [if_neg (by omega)]
        exact Int.le_of_lt (hp.left k (by omega) (by omega))
    · rw [hj, hs, if_neg (by omega), if_neg (by omega)]
      exact hp.right k g1 g2
  intro R15 hR15
  refine upI h1 hb hp1 fun i' hi' hp' hq' => hR15 _ _ ?_
  intro R18 hR18
  refine dnI h1 hb hp' fun j' hj' hp'' hq'' => hR18 _ _ ?_
  have ij' := hp''.ij; have plo' := hp''.lo; have phi' := hp''.hi
  have hl1 := hg1.len
  by_cases hc : (i' : Int) > (j' : Int)
  · refine bif_pos hc (h1.swap rfl (by omega) rfl (by omega) fun H3 h3 => ?_)
    exact fin true i' j' _ H3 hp'' hg1 (by omega) h3
  have q1 := hq' (by omega)
  have q2 := hq'' (by omega)
  have hne : i' ≠ j' := fun e => by subst e; omega
  refine bif_neg hc (h1.swap rfl (by omega) rfl (by omega) fun H3 h3 => ?_)
  rw [wrap_i64 (by omega) (by omega), wrap_i64 (by omega) (by omega)]
  refine ⟨fun s t H' => ∃ (i j : Nat) (m1 : List Int), s = i ∧ t = j ∧ Par (· < v) (v ≤ ·) v m1 a b i j ∧ Reg a b m m1 ∧ Sr H0 L x p n cap m1 H', fun s t _ => (t + 1 - s).toNat, ⟨i' + 1, j' - 1, _, by omega, by omega, hp''.sw (by omega) (by omega) q2 q1, hg1.sw (by omega) (by omega) (by omega) (by omega) (by omega), h3⟩, ?_⟩
  clear h1 hp1 hp' hq' hp'' hq'' hR15 hR18 q1 q2 hne h3 hc ij' plo' phi' hl1 hg1
  clear i' j' hi' hj'
  rintro s t H2 ⟨i, j, m1, rfl, rfl, hp, hg, h2⟩
  have hl1 := hg.len
  have ij := hp.ij; have plo := hp.lo; have phi := hp.hi
  intro R42 hR42
  refine upI h2 hb hp fun i' hi' hp' hq' => hR42 _ _ ?_
  intro R45 hR45
  refine dnI h2 hb hp' fun j' hj' hp'' hq'' => hR45 _ _ ?_
  have ij' := hp''.ij; have plo' := hp''.lo; have phi' := hp''.hi
  by_cases hc : (i' : Int) > (j' : Int)
  · refine bif_pos hc (h2.swap rfl (by omega) rfl (by omega) fun H3 h3 => ?_)
    exact fin false i' j' _ H3 hp'' hg (by omega) h3
  · have q1 := hq' (by omega)
    have q2 := hq'' (by omega)
    have hne : i' ≠ j' := fun e => by subst e; omega
    refine bif_neg hc (h2.swap rfl (by omega) rfl (by omega) fun H3 h3 => ?_)
    rw [wrap_i64 (by omega) (by omega), wrap_i64 (by omega) (by omega)]
    exact ⟨⟨i' + 1, j' - 1, _, by omega, by omega, hp''.sw (by omega) (by omega) q2 q1, hg.sw (by omega) (by omega) (by omega) (by omega) (by omega), h3⟩, by (try dsimp only); omega⟩
end
end Go.Proofs.Ytknejebggegfjaa

namespace Go.Proofs.Ytknejebggegfjaa
set_option linter.unusedSimpArgs false
set_option linter.unusedVariables false
set_option maxRecDepth 20000
open Go
theorem tup2I {a b : Value} {K : Value → Value → Prop} (h : K a b) : tup2 (.tuple #[a, b]) K := h
theorem Btw.left {m : List Int} {a0 b0 a b md : Nat} (h : Btw m a0 b0 a b) (h1 : a ≤ md) (h2 : md < b) (hl : ∀ k, a ≤ k → k < md → m.getD k 0 ≤ m.getD md 0) (hr : ∀ k, md < k → k < b → m.getD md 0 ≤ m.getD k 0) (hu : Up2 m a md) : Btw m a0 b0 (md + 1) b := fun x y g1 g2 g3 g4 => by
  by_cases hc : x < a ∨ b ≤ y
  · exact h x y g1 g2 g3 hc
  · by_cases e : x = md
    · subst e; exact hr y g2 (by omega)
    · by_cases e2 : y = md
      · subst e2; exact hl x (by omega) g2
      · by_cases e3 : y < md
        · exact hu x y (by omega) g2 e3
        · exact Int.le_trans (hl x (by omega) (by omega)) (hr y (by omega) (by omega))
theorem Btw.right {m : List Int} {a0 b0 a b md : Nat} (h : Btw m a0 b0 a b) (h1 : a ≤ md) (h2 : md < b) (hl : ∀ k, a ≤ k → k < md → m.getD k 0 ≤ m.getD md 0) (hr : ∀ k, md < k → k < b → m.getD md 0 ≤ m.getD k 0) (hu : Up2 m (md + 1) b) : Btw m a0 b0 a md := fun x y g1 g2 g3 g4 => by
  by_cases hc : x < a ∨ b ≤ y
  · exact h x y g1 g2 g3 hc
  · by_cases e : x = md
    · subst e; exact hr y g2 (by omega)
    · by_cases e2 : y = md
      · subst e2; exact hl x (by omega) g2
      · by_cases e3 : md < x
        · exact hu x y (by omega) g2 (by omega)
        · exact Int.le_trans (hl x (by omega) (by omega)) (hr y (by omega) (by omega))
section
variable {H0 : Hp} {L : List Prt} {i n cap : Nat} {p : Option Addr}
theorem pdqC (d : Nat) : ∀ {a b : Nat} {lim : Int} {m : List Int} {H : Hp} {K : Value → Hp → Prop}, b - a ≤ d → a ≤ b → b ≤ n → Lo m a b → Sr H0 L i p n cap m H → (∀ m' H', Reg a b m m' → Up2 m' a b → Sr H0 L i p n cap m' H' → K (.tuple #[]) H') →
    hcall PR f_slices_pdqsortOrdered_uint64 ⟨[.slice p n cap, .int .i64 a, .int .i64 b, .int .i64 lim]⟩ H K := by
  induction d using Nat.strongRecOn with
  | ind d ih =>
  intro a b lim m H K hd hab hbn hlo h hK
  apply den_slices_pdqsortOrdered_uint64
  unfold B_slices_pdqsortOrdered_uint64
  have hbig := h.big
  have hln := h.len
  refine ⟨fun s t lm wb wp H' => ∃ (x y : Nat) (m1 : List Int), s = x ∧ t = y ∧ a ≤ x ∧ x ≤ y ∧ y ≤ b ∧ Lo m1 x y ∧ Btw m1 a b x y ∧ Reg a b m m1 ∧ Sr H0 L i p n cap m1 H', fun s t _ _ _ _ => (t - s).toNat, ⟨a, b, m, rfl, rfl, by omega, hab, by omega, hlo, .start, .refl, h⟩, ?_⟩
  clear h
  rintro s t lm wb wp H1 ⟨x, y, m1, rfl, rfl, hx, hxy, hy, hl, hb, hg, h1⟩
  have w1 : IntKind.i64.wrap ((y : Int) - (x : Int)) = ((y - x : Nat) : Int) := by rw [wrap_i64 (by omega) (by omega)]; omega
  rw [w1]
  have fin : ∀ m2 H2, Reg x y m1 m2 → Up2 m2 x y → Sr H0 L i p n cap m2 H2 → K (.tuple #[]) H2 := fun m2 H2 g2 u2 h2 => hK m2 H2 (hg.trans (g2.wide hx hy)) ((hb.reg g2 hx hy).done u2) h2
  by_cases hc : ((y - x : Nat) : Int) ≤ 12
  · exact bif_pos hc (insR h1 hxy (by omega) fun m2 H2 g2 u2 h2 => fin m2 H2 g2 u2 h2)
  refine bif_neg hc ?_
  by_cases hl0 : lm = 0
  · exact bif_eq hl0 (heapC h1 (by omega) (by omega) fun m2 H2 g2 u2 h2 => fin m2 H2 g2 u2 h2)
  refine bif_ne hl0 ?_
  intro R19 hR19
  have hQ19 : ∀ (lm' : Int) (m2 : List Int) (H2 : Hp), Reg x y m1 m2 → Sr H0 L i p n cap m2 H2 → R19 lm' H2 := fun lm' m2 H2 g2 h2 => by
    refine hR19 _ H2 ?_
    refine pivC h2 (by omega) (by omega) fun pv hint H3 p1 p2 h3 => ?_
    refine tup2I (asI_mk (asI_mk ?_))
    intro R28 hR28
    have hQ28 : ∀ (pv' : Nat) (hint' : Int) (m3 : List Int) (H3 : Hp), x ≤ pv' → pv' < y → Reg x y m1 m3 → Sr H0 L i p n cap m3 H3 → R28 (pv' : Int) hint' H3 := fun pv' hint' m3 H3 q1 q2 g3 h3 => by
      refine hR28 _ _ H3 ?_
      intro R32 hR32
      have hQ32 : ∀ (m4 : List Int) (H4 : Hp), Reg x y m1 m4 → Sr H0 L i p n cap m4 H4 → R32 H4 := fun m4 H4 g4 h4 => by
        refine hR32 H4 ?_
        intro R34 hR34
        have hl4 := hl.reg g4
        have hb4 := hb.reg g4 hx hy
        have hgg4 := hg.trans (g4.wide hx hy)
        have hln4 := h4.len
        have hQ34 : R34 (x : Int) H4 := by
          refine hR34 _ H4 ?_
          refine parC h4 (by omega) (by omega) q1 q2 fun md r m5 H5 d1 d2 g5 l5 r5 h5 => ?_
          refine tup2I (asI_mk ?_)
          show (8 : Int) ≠ 0 ∧ _
          refine ⟨by decide, ?_⟩
          have hl5 := hl4.reg g5
          have hb5 := hb4.reg g5 hx hy
          have hgg5 := hgg4.trans (g5.wide hx hy)
          have w2 : IntKind.i64.wrap ((md : Int) + 1) = ((md + 1 : Nat) : Int) := by rw [wrap_i64 (by omega) (by omega)]; omega
          rw [w2]
          by_cases hs : IntKind.i64.wrap ((md : Int) - (x : Int)) < IntKind.i64.wrap ((y : Int) - (md : Int))
          · refine bif_pos hs (ih (md - x) (by omega) (Nat.le_refl _) d1 (by omega) (fun h0 k k1 k2 => hl5 h0 k k1 (by omega)) h5 fun m6 H6 g6 u6 h6 => ?_)
            have l6 : ∀ k, x ≤ k → k < md → m6.getD k 0 ≤ m6.getD md 0 := fun k k1 k2 => by
              rw [g6.out (k := md) (.inr (Nat.le_refl _))]
              exact g6.all (p := fun v => v ≤ m5.getD md 0) l5 k1 k2
            have r6 : ∀ k, md < k → k < y → m6.getD md 0 ≤ m6.getD k 0 := fun k k1 k2 => by
              rw [g6.out (k := md) (.inr (Nat.le_refl _)), g6.out (k := k) (.inr (by omega))]
              exact r5 k k1 k2
            exact ⟨⟨md + 1, y, m6, rfl, rfl, by omega, by omega, hy, fun _ k k1 k2 => by rw [Nat.add_sub_cancel]; exact r6 k (by omega) k2, (hb5.reg (g6.wide (Nat.le_refl _) (by omega)) hx hy).left d1 d2 l6 r6 u6, hgg5.trans (g6.wide hx (by omega)), h6⟩, by (try dsimp only); omega⟩
          · refine bif_neg hs (ih (y - (md + 1)) (by omega) (Nat.le_refl _) (by omega) (by omega) (fun _ k k1 k2 => by rw [Nat.add_sub_cancel]; exact r5 k (by omega) k2) h5 fun m6 H6 g6 u6 h6 => ?_)
            have l6 : ∀ k, x ≤ k → k < md → m6.getD k 0 ≤ m6.getD md 0 := fun k k1 k2 => by
              rw [g6.out (k := md) (.inl (by omega)), g6.out (k := k) (.inl (by omega))]
              exact l5 k k1 k2
            have r6 : ∀ k, md < k → k < y → m6.getD md 0 ≤ m6.getD k 0 := fun k k1 k2 => by
              rw [g6.out (k := md) (.inl (by omega))]
              exact g6.all (p := fun v => m5.getD md 0 ≤ v) (fun k k1 k2 => r5 k (by omega) k2) (by omega) k2
            have gw := g6.wide (a' := x) (b' := y) (by omega) (Nat.le_refl _)
            exact ⟨⟨x, md, m6, rfl, rfl, by omega, by omega, by omega, fun h0 k k1 k2 => hl5.reg gw h0 k k1 (by omega), (hb5.reg gw hx hy).right d1 d2 l6 r6 u6, hgg5.trans (gw.wide hx hy), h6⟩, by (try dsimp only); omega⟩
        clear hR34
        by_cases hx0 : (x : Int) > 0
        rotate_left
        · exact bif_neg hx0 hQ34
        refine bif_pos hx0 ?_
        have w2 : IntKind.i64.wrap ((x : Int) - 1) = ((x - 1 : Nat) : Int) := by rw [wrap_i64 (by omega) (by omega)]; omega
        rw [w2]
        refine h4.cmpN rfl (by omega) rfl (by omega) (fun hle => ?_) fun _ => hQ34
        refine parEC h4 (by omega) (by omega) q1 q2 fun md m5 H5 d1 d2 g5 l5 r5 h5 => ?_
        refine asI_mk ?_
        have hl5 := hl4.reg g5
        have hb5 := hb4.reg g5 hx hy
        have e5 : m5.getD (x - 1) 0 = m4.getD (x - 1) 0 := g5.out (.inl (by omega))
        refine ⟨⟨md, y, m5, rfl, rfl, by omega, d2, hy, fun _ k k1 k2 => ?_, fun u w k1 k2 k3 k4 => ?_, hgg4.trans (g5.wide hx hy), h5⟩, by (try dsimp only); omega⟩
        · exact Int.le_trans (l5 (md - 1) (by omega) (by omega)) (Int.le_of_lt (r5 k k1 k2))
        · by_cases hc : u < x ∨ y ≤ w
          · exact hb5 u w k1 k2 k3 hc
          · have h6 := l5 u (by omega) (by omega)
            by_cases hw : w < md
            · have := hl5 (by omega) w (by omega) (by omega)
              omega
            · have := r5 w (by omega) (by omega)
              omega
      clear hR32
      cases wb with
      | false => exact hQ32 m3 H3 g3 h3
      | true =>
        cases wp with
        | false => exact hQ32 m3 H3 g3 h3
        | true =>
          show cond (hint' == 1) _ _
          by_cases e1 : hint' = 1
          · refine bif_eq e1 (pisC h3 (by omega) (by omega) (hl.reg g3) fun r m4 H4 g4 u4 h4 => ?_)
            cases r with
            | false => exact hQ32 m4 H4 (g3.trans g4) h4
            | true => exact fin m4 H4 (g3.trans g4) (u4 rfl) h4
          · exact bif_ne e1 (hQ32 m3 H3 g3 h3)
    clear hR28
    by_cases e2 : hint = 2
    · refine bif_eq e2 (revC h3 (by omega) (by omega) fun m4 H4 g4 h4 => ?_)
      have w2 : IntKind.i64.wrap ((y : Int) - 1) = ((y - 1 : Nat) : Int) := by rw [wrap_i64 (by omega) (by omega)]; omega
      have w3 : IntKind.i64.wrap ((pv : Int) - (x : Int)) = ((pv - x : Nat) : Int) := by rw [wrap_i64 (by omega) (by omega)]; omega
      have w4 : IntKind.i64.wrap (((y - 1 : Nat) : Int) - ((pv - x : Nat) : Int)) = ((y - 1 - (pv - x) : Nat) : Int) := by rw [wrap_i64 (by omega) (by omega)]; omega
      show R28 _ 1 H4
      rw [w2, w3, w4]
      exact hQ28 _ 1 m4 H4 (by omega) (by omega) (g2.trans g4) h4
    · exact bif_ne e2 (hQ28 pv hint m2 H3 p1 p2 g2 h3)
  clear hR19
  cases wb with
  | false => exact brkC h1 (by omega) (by omega) fun m2 H2 g2 h2 => hQ19 _ m2 H2 g2 h2
  | true => exact hQ19 lm m1 H1 .refl h1
theorem sortR {l : List Int} {H : Hp} {K : Value → Hp → Prop} (h : Sr H0 L i p n cap l H) (hK : ∀ H', Sr H0 L i p n cap (rise1 l) H' → K (.tuple #[]) H') : hcall PR f_slices_Sort_Suint64_uint64 ⟨[.slice p n cap]⟩ H K := by
  apply den_slices_Sort_Suint64_uint64
  unfold B_slices_Sort_Suint64_uint64
  have hbig := h.big
  have hln := h.len
  rw [wrap_u64' (by omega) (by omega)]
  refine lenC (by omega) fun z _ _ => asI_mk ?_
  refine pdqC n (a := 0) (b := n) (by omega) (by omega) (Nat.le_refl _) (fun h0 => absurd h0 (by omega)) h fun m' H' g u h' => ?_
  refine hK H' ?_
  have hp := g.perm
  have : m' = rise1 l := by
    refine rise_is hp ?_
    rw [List.pairwise_iff_getElem]
    intro a b ha hb hab
    have := u a b (by omega) hab (by rw [← hln, ← g.len]; exact hb)
    rw [List.getD_eq_getElem?_getD, List.getD_eq_getElem?_getD, List.getElem?_eq_getElem ha, List.getElem?_eq_getElem hb] at this
    exact this
  rw [← this]
  exact h'
end
end Go.Proofs.Ytknejebggegfjaa
