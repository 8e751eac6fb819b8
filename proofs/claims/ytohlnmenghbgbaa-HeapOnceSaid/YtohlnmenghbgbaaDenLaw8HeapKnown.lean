/- PRINTED by gen.py: functions as plain propositions, held against the program by the kernel. No condition. -/
import Derived.Test.YtohlnmenghbgbaaDenN
namespace Go.Proofs.Ytohlnmenghbgbaa
open Go
set_option linter.unusedVariables false
set_option maxRecDepth 100000

def B_law8_HeapKnown  (H : Hp) (K : Value → Hp → Prop) : Prop :=
hcall PR f_heap_New ⟨[(.int .i64 0), (.int .i64 16), (.int .i64 1), (.int .u64 0)]⟩ H fun v1 Hx2 =>
tup2 v1 fun v3 v4 =>
asP v3 fun t5 =>
asI .i64 v4 fun t6 =>
hcall PR f_heap_New ⟨[(.int .i64 1), (.int .i64 17), (.int .i64 1), (.int .u64 0)]⟩ Hx2 fun v7 Hx8 =>
tup2 v7 fun v9 v10 =>
asP v9 fun t11 =>
asI .i64 v10 fun t12 =>
hcall PR f_heap_New ⟨[(.int .i64 1), (.int .i64 16), (.int .i64 65), (.int .u64 0)]⟩ Hx8 fun v13 Hx14 =>
tup2 v13 fun v15 v16 =>
asP v15 fun t17 =>
asI .i64 v16 fun t18 =>
hcall PR f_heap_New ⟨[(.int .i64 1), (.int .i64 16), (.int .i64 1), (.int .u64 72057594037927936)]⟩ Hx14 fun v19 Hx20 =>
tup2 v19 fun v21 v22 =>
asP v21 fun t23 =>
asI .i64 v22 fun t24 =>
hcall PR f_heap_New ⟨[(.int .i64 1), (.int .i64 16), (.int .i64 2), (.int .u64 5)]⟩ Hx20 fun v25 Hx26 =>
tup2 v25 fun v27 v28 =>
asP v27 fun t29 =>
asI .i64 v28 fun t30 =>
hcall PR f_heap_New ⟨[(.int .i64 1), (.int .i64 16), (.int .i64 1), (.int .u64 72057594037927935)]⟩ Hx26 fun v31 Hx32 =>
tup2 v31 fun v33 v34 =>
asP v33 fun t35 =>
asI .i64 v34 fun t36 =>
hcall PR f_law8_known ⟨[]⟩ Hx32 fun v37 Hx38 =>
asB v37 fun t39 =>
(bif (!t39) then
K (.bool false) Hx38
else
(bif ((t6 : Int) != 1) then
K (.bool false) Hx38
else
(bif ((t12 : Int) != 1) then
K (.bool false) Hx38
else
(bif ((t18 : Int) != 1) then
K (.bool false) Hx38
else
(bif ((t24 : Int) != 1) then
K (.bool false) Hx38
else
(bif ((t30 : Int) != 0) then
K (.bool false) Hx38
else
(bif ((t36 : Int) != 0) then
K (.bool false) Hx38
else
(bif (Option.isNone (α := Addr) t29) then
K (.bool false) Hx38
else
(bif (Option.isNone (α := Addr) t35) then
K (.bool false) Hx38
else
hcall PR f_heap_Heap_Make ⟨[(.pointer t35), (.int .i64 0), (.int .i64 0)]⟩ Hx38 fun v40 Hx41 =>
tup2 v40 fun v42 v43 =>
asI .u64 v42 fun t44 =>
asI .i64 v43 fun t45 =>
hcall PR f_heap_Heap_Make ⟨[(.pointer t29), (.int .i64 1), (.int .i64 1)]⟩ Hx41 fun v46 Hx47 =>
tup2 v46 fun v48 v49 =>
asI .u64 v48 fun t50 =>
asI .i64 v49 fun t51 =>
hcall PR f_heap_Heap_Make ⟨[(.pointer t29), (.int .i64 8), (.int .i64 0)]⟩ Hx47 fun v52 Hx53 =>
tup2 v52 fun v54 v55 =>
asI .u64 v54 fun t56 =>
asI .i64 v55 fun t57 =>
hcall PR f_heap_Heap_Make ⟨[(.pointer t29), (.int .i64 0), (.int .i64 0)]⟩ Hx53 fun v58 Hx59 =>
tup2 v58 fun v60 v61 =>
asI .u64 v60 fun t62 =>
asI .i64 v61 fun t63 =>
hcall PR f_heap_Heap_Ref ⟨[(.pointer t29), (.int .u64 6), (.int .i64 1)]⟩ Hx59 fun v64 Hx65 =>
tup2 v64 fun v66 v67 =>
agg2 v66 fun v68 v69 =>
asI .i64 v68 fun Node70 =>
asI .u64 v69 fun Serial71 =>
asI .i64 v67 fun t72 =>
newB (.cells #[(.int .i64 0), (.int .u64 0)] ty_api_ID) Hx65 fun b73 Hx74 =>
st ⟨b73, 0, none⟩ (.int .i64 Node70) Hx74 fun Hx75 =>
st ⟨b73, 1, none⟩ (.int .u64 Serial71) Hx75 fun Hx76 =>
(bif ((t45 : Int) == 7) then
(bif ((t57 : Int) == 1) then
(bif ((t63 : Int) == 2) then
(bif ((t72 : Int) == 5) then
hcall PR f_heap_Heap_Len ⟨[(.pointer t29)]⟩ Hx76 fun v77 Hx78 =>
asI .i64 v77 fun t79 =>
(bif ((t79 : Int) == 1) then
hcall PR f_heap_Heap_Last ⟨[(.pointer t29)]⟩ Hx78 fun v80 Hx81 =>
asI .u64 v80 fun t82 =>
(bif ((t82 : Int) == 6) then
hcall PR f_heap_Heap_Node ⟨[(.pointer t29)]⟩ Hx81 fun v83 Hx84 =>
asI .i64 v83 fun t85 =>
(bif ((t85 : Int) == 1) then
hcall PR f_heap_Heap_Used ⟨[(.pointer t29)]⟩ Hx84 fun v86 Hx87 =>
asI .i64 v86 fun t88 =>
K (.bool ((t88 : Int) == 4)) Hx87
else
K (.bool false) Hx84)
else
K (.bool false) Hx81)
else
K (.bool false) Hx78)
else
K (.bool false) Hx76)
else
K (.bool false) Hx76)
else
K (.bool false) Hx76)
else
K (.bool false) Hx76))))))))))
theorem E_law8_HeapKnown  (H : Hp) (K : Value → Hp → Prop) : B_law8_HeapKnown  H K = denF Try.prog Try.f3 .n [] H K := by kernel_rfl
theorem den_law8_HeapKnown  {H : Hp} {K : Value → Hp → Prop} (h : B_law8_HeapKnown  H K) : hcall PR f_law8_HeapKnown ⟨[]⟩ H K := denF_call Try.func3 PR_mixed (Eq.mp (E_law8_HeapKnown  H K) h)

end Go.Proofs.Ytohlnmenghbgbaa
