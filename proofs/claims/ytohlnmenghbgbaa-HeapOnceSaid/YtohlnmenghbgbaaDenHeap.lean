/- PRINTED by gen.py: functions as plain propositions, held against the program by the kernel. No condition. -/
import Derived.Test.YtohlnmenghbgbaaDenN
namespace Go.Proofs.Ytohlnmenghbgbaa
open Go
set_option linter.unusedVariables false
set_option maxRecDepth 100000

def B_heap_New (node1 : Int) (cells2 : Int) (objects3 : Int) (last4 : Int) (H : Hp) (K : Value → Hp → Prop) : Prop :=
(bif (decide ((node1 : Int) < 1)) then
K (.tuple #[(.pointer none), (.int .i64 1)]) H
else
(bif (decide ((node1 : Int) > 64)) then
K (.tuple #[(.pointer none), (.int .i64 1)]) H
else
(bif (decide ((objects3 : Int) < 1)) then
K (.tuple #[(.pointer none), (.int .i64 1)]) H
else
(bif (decide ((objects3 : Int) > 64)) then
K (.tuple #[(.pointer none), (.int .i64 1)]) H
else
(bif (decide ((last4 : Int) > 72057594037927935)) then
K (.tuple #[(.pointer none), (.int .i64 1)]) H
else
hcall PR f_arena_New ⟨[(.int .i64 cells2)]⟩ H fun v5 Hx6 =>
tup2 v5 fun v7 v8 =>
asP v7 fun t9 =>
asI .i64 v8 fun t10 =>
(bif ((t10 : Int) != 0) then
K (.tuple #[(.pointer none), (.int .i64 1)]) Hx6
else
newB (.map #[] 0) Hx6 fun b11 Hx12 =>
newB (.cells #[(.int .i64 node1), (.int .i64 objects3), (.int .u64 last4), (.pointer t9), (.map (some b11))] ty_heap_Heap) Hx12 fun b13 Hx14 =>
K (.tuple #[(.pointer (some ⟨b13, 0, none⟩)), (.int .i64 0)]) Hx14))))))
theorem E_heap_New (node1 : Int) (cells2 : Int) (objects3 : Int) (last4 : Int) (H : Hp) (K : Value → Hp → Prop) : B_heap_New node1 cells2 objects3 last4 H K = denF Try.prog Try.f26 .n [(.int .i64 node1), (.int .i64 cells2), (.int .i64 objects3), (.int .u64 last4)] H K := by kernel_rfl
theorem den_heap_New {node1 : Int} {cells2 : Int} {objects3 : Int} {last4 : Int} {H : Hp} {K : Value → Hp → Prop} (h : B_heap_New node1 cells2 objects3 last4 H K) : hcall PR f_heap_New ⟨[(.int .i64 node1), (.int .i64 cells2), (.int .i64 objects3), (.int .u64 last4)]⟩ H K := denF_call Try.func26 PR_mixed (Eq.mp (E_heap_New node1 cells2 objects3 last4 H K) h)

def B_heap_Heap_Make (h1 : Option Addr) (refs2 : Int) (vals3 : Int) (H : Hp) (K : Value → Hp → Prop) : Prop :=
hcall PR f_heap_fields ⟨[(.int .i64 refs2)]⟩ H fun v4 Hx5 =>
asB v4 fun t6 =>
(bif (!t6) then
K (.tuple #[(.int .u64 0), (.int .i64 1)]) Hx5
else
hcall PR f_heap_fields ⟨[(.int .i64 vals3)]⟩ Hx5 fun v7 Hx8 =>
asB v7 fun t9 =>
(bif (!t9) then
K (.tuple #[(.int .u64 0), (.int .i64 1)]) Hx8
else
nilP h1 fun ha10 =>
ldM (ha10.add 4) Hx8 fun all11 =>
evR PR (Builtin.len_ #[ty_map_uint64_pheap_thing] 3 #[(.map all11)]) Hx8 fun v12 =>
asI .i64 v12 fun len13 =>
nilP h1 fun ha14 =>
ldI .i64 (ha14.add 1) Hx8 fun most15 =>
(bif (decide ((len13 : Int) ≥ most15)) then
K (.tuple #[(.int .u64 0), (.int .i64 6)]) Hx8
else
nilP h1 fun ha16 =>
ldI .u64 (ha16.add 2) Hx8 fun last17 =>
(bif ((last17 : Int) == 72057594037927935) then
K (.tuple #[(.int .u64 0), (.int .i64 7)]) Hx8
else
nilP h1 fun ha18 =>
ldP (ha18.add 3) Hx8 fun cells19 =>
hcall PR f_arena_Arena_Alloc ⟨[(.pointer cells19), (.int .i64 (IntKind.i64.wrap ((IntKind.i64.wrap (1 + refs2)) + vals3)))]⟩ Hx8 fun v20 Hx21 =>
tup2 v20 fun v22 v23 =>
asI .i64 v22 fun t24 =>
asI .i64 v23 fun t25 =>
(bif ((t25 : Int) != 0) then
K (.tuple #[(.int .u64 0), (.int .i64 t25)]) Hx21
else
nilP h1 fun ha26 =>
ldI .u64 (ha26.add 2) Hx21 fun last27 =>
nilP h1 fun ha28 =>
st (ha28.add 2) (.int .u64 (IntKind.u64.wrap (last27 + 1))) Hx21 fun Hx29 =>
∀ R30 : Hp → Prop, (∀ Hx31 : Hp, (
nilP h1 fun ha32 =>
ldI .u64 (ha32.add 2) Hx31 fun last33 =>
K (.tuple #[(.int .u64 last33), (.int .i64 0)]) Hx31) → R30 Hx31) →
nilP h1 fun ha34 =>
ldM (ha34.add 4) Hx29 fun all35 =>
nilP h1 fun ha36 =>
ldI .u64 (ha36.add 2) Hx29 fun last37 =>
(evW PR (Instr.makeSlice ty_Sapi_ID (.int .i64 refs2) (.int .i64 refs2)) Hx29 fun v38 Hx39 =>
asSl v38 fun mkP40 mkL41 mkC42 =>
(ldI .u64 (ha36.add 2) Hx39 fun last43 =>
((.int .u64 last43) : Value) = (.int .u64 last37)) ∧
(ldM (ha34.add 4) Hx39 fun all44 =>
((.map all44) : Value) = (.map all35)) ∧
evW PR (Instr.makeSlice ty_Suint64 (.int .i64 vals3) (.int .i64 vals3)) Hx39 fun v45 Hx46 =>
asSl v45 fun mkP47 mkL48 mkC49 =>
(ldI .u64 (ha36.add 2) Hx46 fun last50 =>
((.int .u64 last50) : Value) = (.int .u64 last37)) ∧
(ldM (ha34.add 4) Hx46 fun all51 =>
((.map all51) : Value) = (.map all35)) ∧
newB (.cells #[(.int .i64 t24), (.slice mkP40 mkL41 mkC42), (.slice mkP47 mkL48 mkC49), (.int .i64 0)] ty_heap_thing) Hx46 fun b52 Hx53 =>
(ldI .u64 (ha36.add 2) Hx53 fun last54 =>
((.int .u64 last54) : Value) = (.int .u64 last37)) ∧
(ldM (ha34.add 4) Hx53 fun all55 =>
((.map all55) : Value) = (.map all35)) ∧
evW PR (Instr.mapUpdate ty_map_uint64_pheap_thing (.map all35) (.int .u64 last37) (.pointer (some ⟨b52, 0, none⟩))) Hx53 fun v56 Hx57 =>
R30 Hx57) ∧
(evW PR (Instr.makeSlice ty_Suint64 (.int .i64 vals3) (.int .i64 vals3)) Hx29 fun v58 Hx59 =>
asSl v58 fun mkP60 mkL61 mkC62 =>
(ldI .u64 (ha36.add 2) Hx59 fun last63 =>
((.int .u64 last63) : Value) = (.int .u64 last37)) ∧
(ldM (ha34.add 4) Hx59 fun all64 =>
((.map all64) : Value) = (.map all35)) ∧
evW PR (Instr.makeSlice ty_Sapi_ID (.int .i64 refs2) (.int .i64 refs2)) Hx59 fun v65 Hx66 =>
asSl v65 fun mkP67 mkL68 mkC69 =>
(ldI .u64 (ha36.add 2) Hx66 fun last70 =>
((.int .u64 last70) : Value) = (.int .u64 last37)) ∧
(ldM (ha34.add 4) Hx66 fun all71 =>
((.map all71) : Value) = (.map all35)) ∧
newB (.cells #[(.int .i64 t24), (.slice mkP67 mkL68 mkC69), (.slice mkP60 mkL61 mkC62), (.int .i64 0)] ty_heap_thing) Hx66 fun b72 Hx73 =>
(ldI .u64 (ha36.add 2) Hx73 fun last74 =>
((.int .u64 last74) : Value) = (.int .u64 last37)) ∧
(ldM (ha34.add 4) Hx73 fun all75 =>
((.map all75) : Value) = (.map all35)) ∧
evW PR (Instr.mapUpdate ty_map_uint64_pheap_thing (.map all35) (.int .u64 last37) (.pointer (some ⟨b72, 0, none⟩))) Hx73 fun v76 Hx77 =>
R30 Hx77))))))
theorem E_heap_Heap_Make (h1 : Option Addr) (refs2 : Int) (vals3 : Int) (H : Hp) (K : Value → Hp → Prop) : B_heap_Heap_Make h1 refs2 vals3 H K = denF Try.prog Try.f28 (.seq none .n (.seq none .n (.seq none .n (.seq none .n (.seq none .n (.seq (some ⟨[], [0]⟩) .n .n)))))) [(.pointer h1), (.int .i64 refs2), (.int .i64 vals3)] H K := by kernel_rfl
theorem den_heap_Heap_Make {h1 : Option Addr} {refs2 : Int} {vals3 : Int} {H : Hp} {K : Value → Hp → Prop} (h : B_heap_Heap_Make h1 refs2 vals3 H K) : hcall PR f_heap_Heap_Make ⟨[(.pointer h1), (.int .i64 refs2), (.int .i64 vals3)]⟩ H K := denF_call Try.func28 PR_mixed (Eq.mp (E_heap_Heap_Make h1 refs2 vals3 H K) h)

def B_heap_Heap_Ref (h1 : Option Addr) (serial2 : Int) (field3 : Int) (H : Hp) (K : Value → Hp → Prop) : Prop :=
newB (.cells #[(.int .i64 0), (.int .u64 0)] ty_api_ID) H fun b4 Hx5 =>
nilP h1 fun ha6 =>
ldM (ha6.add 4) Hx5 fun all7 =>
evR PR (Instr.lookup ty_map_uint64_pheap_thing (.map all7) (.int .u64 serial2) false) Hx5 fun v8 =>
asP v8 fun t9 =>
(bif (Option.isNone (α := Addr) t9) then
st ⟨b4, 0, none⟩ (.int .i64 0) Hx5 fun Hx10 =>
st ⟨b4, 1, none⟩ (.int .u64 0) Hx10 fun Hx11 =>
ldI .i64 ⟨b4, 0, none⟩ Hx11 fun Node12 =>
ldI .u64 ⟨b4, 1, none⟩ Hx11 fun Serial13 =>
K (.tuple #[(.agg #[(.int .i64 Node12), (.int .u64 Serial13)]), (.int .i64 5)]) Hx11
else
nilP t9 fun ta14 =>
ldSl (ta14.add 1) Hx5 fun refsP15 refsL16 refsC17 =>
hcall PR f_heap_in ⟨[(.int .i64 field3), (.int .i64 (refsL16 : Int))]⟩ Hx5 fun v18 Hx19 =>
asB v18 fun t20 =>
(bif (!t20) then
st ⟨b4, 0, none⟩ (.int .i64 0) Hx19 fun Hx21 =>
st ⟨b4, 1, none⟩ (.int .u64 0) Hx21 fun Hx22 =>
ldI .i64 ⟨b4, 0, none⟩ Hx22 fun Node23 =>
ldI .u64 ⟨b4, 1, none⟩ Hx22 fun Serial24 =>
K (.tuple #[(.agg #[(.int .i64 Node23), (.int .u64 Serial24)]), (.int .i64 5)]) Hx22
else
nilP t9 fun ta25 =>
ldSl (ta25.add 1) Hx19 fun refsP26 refsL27 refsC28 =>
idxA refsP26 refsL27 field3 2 fun el29 =>
ldI .i64 el29 Hx19 fun Node30 =>
ldI .u64 (el29.add 1) Hx19 fun Serial31 =>
st ⟨b4, 0, none⟩ (.int .i64 Node30) Hx19 fun Hx32 =>
st ⟨b4, 1, none⟩ (.int .u64 Serial31) Hx32 fun Hx33 =>
ldI .i64 ⟨b4, 0, none⟩ Hx33 fun Node34 =>
ldI .u64 ⟨b4, 1, none⟩ Hx33 fun Serial35 =>
K (.tuple #[(.agg #[(.int .i64 Node34), (.int .u64 Serial35)]), (.int .i64 0)]) Hx33))
theorem E_heap_Heap_Ref (h1 : Option Addr) (serial2 : Int) (field3 : Int) (H : Hp) (K : Value → Hp → Prop) : B_heap_Heap_Ref h1 serial2 field3 H K = denF Try.prog Try.f29 .n [(.pointer h1), (.int .u64 serial2), (.int .i64 field3)] H K := by kernel_rfl
theorem den_heap_Heap_Ref {h1 : Option Addr} {serial2 : Int} {field3 : Int} {H : Hp} {K : Value → Hp → Prop} (h : B_heap_Heap_Ref h1 serial2 field3 H K) : hcall PR f_heap_Heap_Ref ⟨[(.pointer h1), (.int .u64 serial2), (.int .i64 field3)]⟩ H K := denF_call Try.func29 PR_mixed (Eq.mp (E_heap_Heap_Ref h1 serial2 field3 H K) h)

def B_heap_Heap_Len (h1 : Option Addr) (H : Hp) (K : Value → Hp → Prop) : Prop :=
nilP h1 fun ha2 =>
ldM (ha2.add 4) H fun all3 =>
evR PR (Builtin.len_ #[ty_map_uint64_pheap_thing] 3 #[(.map all3)]) H fun v4 =>
asI .i64 v4 fun len5 =>
K (.int .i64 len5) H
theorem E_heap_Heap_Len (h1 : Option Addr) (H : Hp) (K : Value → Hp → Prop) : B_heap_Heap_Len h1 H K = denF Try.prog Try.f30 .n [(.pointer h1)] H K := by kernel_rfl
theorem den_heap_Heap_Len {h1 : Option Addr} {H : Hp} {K : Value → Hp → Prop} (h : B_heap_Heap_Len h1 H K) : hcall PR f_heap_Heap_Len ⟨[(.pointer h1)]⟩ H K := denF_call Try.func30 PR_mixed (Eq.mp (E_heap_Heap_Len h1 H K) h)

def B_heap_Heap_Last (h1 : Option Addr) (H : Hp) (K : Value → Hp → Prop) : Prop :=
nilP h1 fun ha2 =>
ldI .u64 (ha2.add 2) H fun last3 =>
K (.int .u64 last3) H
theorem E_heap_Heap_Last (h1 : Option Addr) (H : Hp) (K : Value → Hp → Prop) : B_heap_Heap_Last h1 H K = denF Try.prog Try.f31 .n [(.pointer h1)] H K := by kernel_rfl
theorem den_heap_Heap_Last {h1 : Option Addr} {H : Hp} {K : Value → Hp → Prop} (h : B_heap_Heap_Last h1 H K) : hcall PR f_heap_Heap_Last ⟨[(.pointer h1)]⟩ H K := denF_call Try.func31 PR_mixed (Eq.mp (E_heap_Heap_Last h1 H K) h)

def B_heap_Heap_Node (h1 : Option Addr) (H : Hp) (K : Value → Hp → Prop) : Prop :=
nilP h1 fun ha2 =>
ldI .i64 ha2 H fun node3 =>
K (.int .i64 node3) H
theorem E_heap_Heap_Node (h1 : Option Addr) (H : Hp) (K : Value → Hp → Prop) : B_heap_Heap_Node h1 H K = denF Try.prog Try.f32 .n [(.pointer h1)] H K := by kernel_rfl
theorem den_heap_Heap_Node {h1 : Option Addr} {H : Hp} {K : Value → Hp → Prop} (h : B_heap_Heap_Node h1 H K) : hcall PR f_heap_Heap_Node ⟨[(.pointer h1)]⟩ H K := denF_call Try.func32 PR_mixed (Eq.mp (E_heap_Heap_Node h1 H K) h)

def B_heap_Heap_Used (h1 : Option Addr) (H : Hp) (K : Value → Hp → Prop) : Prop :=
nilP h1 fun ha2 =>
ldP (ha2.add 3) H fun cells3 =>
hcall PR f_arena_Arena_Used ⟨[(.pointer cells3)]⟩ H fun v4 Hx5 =>
asI .i64 v4 fun t6 =>
K (.int .i64 t6) Hx5
theorem E_heap_Heap_Used (h1 : Option Addr) (H : Hp) (K : Value → Hp → Prop) : B_heap_Heap_Used h1 H K = denF Try.prog Try.f33 .n [(.pointer h1)] H K := by kernel_rfl
theorem den_heap_Heap_Used {h1 : Option Addr} {H : Hp} {K : Value → Hp → Prop} (h : B_heap_Heap_Used h1 H K) : hcall PR f_heap_Heap_Used ⟨[(.pointer h1)]⟩ H K := denF_call Try.func33 PR_mixed (Eq.mp (E_heap_Heap_Used h1 H K) h)

def B_heap_Heap_SetVal (h1 : Option Addr) (serial2 : Int) (field3 : Int) (v4 : Int) (H : Hp) (K : Value → Hp → Prop) : Prop :=
hcall PR f_heap_Heap_Val ⟨[(.pointer h1), (.int .u64 serial2), (.int .i64 field3)]⟩ H fun v5 Hx6 =>
tup2 v5 fun v7 v8 =>
asI .u64 v7 fun t9 =>
asI .i64 v8 fun t10 =>
(bif ((t10 : Int) == 0) then
nilP h1 fun ha11 =>
ldM (ha11.add 4) Hx6 fun all12 =>
evR PR (Instr.lookup ty_map_uint64_pheap_thing (.map all12) (.int .u64 serial2) false) Hx6 fun v13 =>
asP v13 fun t14 =>
nilP t14 fun ta15 =>
ldSl (ta15.add 2) Hx6 fun valsP16 valsL17 valsC18 =>
idxA valsP16 valsL17 field3 1 fun el19 =>
st el19 (.int .u64 v4) Hx6 fun Hx20 =>
K (.int .i64 t10) Hx20
else
K (.int .i64 t10) Hx6)
theorem E_heap_Heap_SetVal (h1 : Option Addr) (serial2 : Int) (field3 : Int) (v4 : Int) (H : Hp) (K : Value → Hp → Prop) : B_heap_Heap_SetVal h1 serial2 field3 v4 H K = denF Try.prog Try.f35 .n [(.pointer h1), (.int .u64 serial2), (.int .i64 field3), (.int .u64 v4)] H K := by kernel_rfl
theorem den_heap_Heap_SetVal {h1 : Option Addr} {serial2 : Int} {field3 : Int} {v4 : Int} {H : Hp} {K : Value → Hp → Prop} (h : B_heap_Heap_SetVal h1 serial2 field3 v4 H K) : hcall PR f_heap_Heap_SetVal ⟨[(.pointer h1), (.int .u64 serial2), (.int .i64 field3), (.int .u64 v4)]⟩ H K := denF_call Try.func35 PR_mixed (Eq.mp (E_heap_Heap_SetVal h1 serial2 field3 v4 H K) h)

def B_heap_Heap_Object (h1 : Option Addr) (serial2 : Int) (H : Hp) (K : Value → Hp → Prop) : Prop :=
newB (.cells #[(.int .u64 0), (.int .i64 0), (.slice none 0 0), (.slice none 0 0), (.int .i64 0)] ty_api_Object) H fun b3 Hx4 =>
nilP h1 fun ha5 =>
ldM (ha5.add 4) Hx4 fun all6 =>
evR PR (Instr.lookup ty_map_uint64_pheap_thing (.map all6) (.int .u64 serial2) false) Hx4 fun v7 =>
asP v7 fun t8 =>
(bif (Option.isNone (α := Addr) t8) then
st ⟨b3, 0, none⟩ (.int .u64 0) Hx4 fun Hx9 =>
st ⟨b3, 1, none⟩ (.int .i64 0) Hx9 fun Hx10 =>
st ⟨b3, 2, none⟩ (.slice none 0 0) Hx10 fun Hx11 =>
st ⟨b3, 3, none⟩ (.slice none 0 0) Hx11 fun Hx12 =>
st ⟨b3, 4, none⟩ (.int .i64 0) Hx12 fun Hx13 =>
ldI .u64 ⟨b3, 0, none⟩ Hx13 fun Serial14 =>
ldI .i64 ⟨b3, 1, none⟩ Hx13 fun Cell15 =>
ldSl ⟨b3, 2, none⟩ Hx13 fun RefsP16 RefsL17 RefsC18 =>
ldSl ⟨b3, 3, none⟩ Hx13 fun ValsP19 ValsL20 ValsC21 =>
ldI .i64 ⟨b3, 4, none⟩ Hx13 fun In22 =>
K (.tuple #[(.agg #[(.int .u64 Serial14), (.int .i64 Cell15), (.slice RefsP16 RefsL17 RefsC18), (.slice ValsP19 ValsL20 ValsC21), (.int .i64 In22)]), (.bool false)]) Hx13
else
nilP t8 fun ta23 =>
ldI .i64 ta23 Hx4 fun cell24 =>
nilP t8 fun ta25 =>
ldSl (ta25.add 1) Hx4 fun refsP26 refsL27 refsC28 =>
nilP t8 fun ta29 =>
ldSl (ta29.add 2) Hx4 fun valsP30 valsL31 valsC32 =>
nilP t8 fun ta33 =>
ldI .i64 (ta33.add 3) Hx4 fun inx34 =>
(newB (.cells #[] ty_api_ID) Hx4 fun b35 Hx36 =>
(ldI .i64 (ta33.add 3) Hx36 fun inx37 =>
((.int .i64 inx37) : Value) = (.int .i64 inx34)) ∧
(ldSl (ta29.add 2) Hx36 fun valsP38 valsL39 valsC40 =>
((.slice valsP38 valsL39 valsC40) : Value) = (.slice valsP30 valsL31 valsC32)) ∧
(ldSl (ta25.add 1) Hx36 fun refsP41 refsL42 refsC43 =>
((.slice refsP41 refsL42 refsC43) : Value) = (.slice refsP26 refsL27 refsC28)) ∧
(ldI .i64 ta23 Hx36 fun cell44 =>
((.int .i64 cell44) : Value) = (.int .i64 cell24)) ∧
(evW PR (Builtin.append_ #[ty_Sapi_ID, ty_Sapi_ID] ty_Sapi_ID #[(.slice (some ⟨b35, 0, none⟩) 0 0), (.slice refsP26 refsL27 refsC28)]) Hx36 fun v45 Hx46 =>
asSl v45 fun tP47 tL48 tC49 =>
(ldI .i64 (ta33.add 3) Hx46 fun inx50 =>
((.int .i64 inx50) : Value) = (.int .i64 inx34)) ∧
(ldSl (ta29.add 2) Hx46 fun valsP51 valsL52 valsC53 =>
((.slice valsP51 valsL52 valsC53) : Value) = (.slice valsP30 valsL31 valsC32)) ∧
(ldI .i64 ta23 Hx46 fun cell54 =>
((.int .i64 cell54) : Value) = (.int .i64 cell24)) ∧
newB (.cells #[] ty_uint64) Hx46 fun b55 Hx56 =>
(ldI .i64 (ta33.add 3) Hx56 fun inx57 =>
((.int .i64 inx57) : Value) = (.int .i64 inx34)) ∧
(ldSl (ta29.add 2) Hx56 fun valsP58 valsL59 valsC60 =>
((.slice valsP58 valsL59 valsC60) : Value) = (.slice valsP30 valsL31 valsC32)) ∧
(ldI .i64 ta23 Hx56 fun cell61 =>
((.int .i64 cell61) : Value) = (.int .i64 cell24)) ∧
evW PR (Builtin.append_ #[ty_Suint64, ty_Suint64] ty_Suint64 #[(.slice (some ⟨b55, 0, none⟩) 0 0), (.slice valsP30 valsL31 valsC32)]) Hx56 fun v62 Hx63 =>
asSl v62 fun tP64 tL65 tC66 =>
(ldI .i64 (ta33.add 3) Hx63 fun inx67 =>
((.int .i64 inx67) : Value) = (.int .i64 inx34)) ∧
(ldI .i64 ta23 Hx63 fun cell68 =>
((.int .i64 cell68) : Value) = (.int .i64 cell24)) ∧
st ⟨b3, 0, none⟩ (.int .u64 serial2) Hx63 fun Hx69 =>
st ⟨b3, 1, none⟩ (.int .i64 cell24) Hx69 fun Hx70 =>
st ⟨b3, 2, none⟩ (.slice tP47 tL48 tC49) Hx70 fun Hx71 =>
st ⟨b3, 3, none⟩ (.slice tP64 tL65 tC66) Hx71 fun Hx72 =>
st ⟨b3, 4, none⟩ (.int .i64 inx34) Hx72 fun Hx73 =>
ldI .u64 ⟨b3, 0, none⟩ Hx73 fun Serial74 =>
ldI .i64 ⟨b3, 1, none⟩ Hx73 fun Cell75 =>
ldSl ⟨b3, 2, none⟩ Hx73 fun RefsP76 RefsL77 RefsC78 =>
ldSl ⟨b3, 3, none⟩ Hx73 fun ValsP79 ValsL80 ValsC81 =>
ldI .i64 ⟨b3, 4, none⟩ Hx73 fun In82 =>
K (.tuple #[(.agg #[(.int .u64 Serial74), (.int .i64 Cell75), (.slice RefsP76 RefsL77 RefsC78), (.slice ValsP79 ValsL80 ValsC81), (.int .i64 In82)]), (.bool true)]) Hx73) ∧
(newB (.cells #[] ty_uint64) Hx36 fun b83 Hx84 =>
(ldI .i64 (ta33.add 3) Hx84 fun inx85 =>
((.int .i64 inx85) : Value) = (.int .i64 inx34)) ∧
(ldSl (ta29.add 2) Hx84 fun valsP86 valsL87 valsC88 =>
((.slice valsP86 valsL87 valsC88) : Value) = (.slice valsP30 valsL31 valsC32)) ∧
(ldSl (ta25.add 1) Hx84 fun refsP89 refsL90 refsC91 =>
((.slice refsP89 refsL90 refsC91) : Value) = (.slice refsP26 refsL27 refsC28)) ∧
(ldI .i64 ta23 Hx84 fun cell92 =>
((.int .i64 cell92) : Value) = (.int .i64 cell24)) ∧
evW PR (Builtin.append_ #[ty_Sapi_ID, ty_Sapi_ID] ty_Sapi_ID #[(.slice (some ⟨b35, 0, none⟩) 0 0), (.slice refsP26 refsL27 refsC28)]) Hx84 fun v93 Hx94 =>
asSl v93 fun tP95 tL96 tC97 =>
(ldI .i64 (ta33.add 3) Hx94 fun inx98 =>
((.int .i64 inx98) : Value) = (.int .i64 inx34)) ∧
(ldSl (ta29.add 2) Hx94 fun valsP99 valsL100 valsC101 =>
((.slice valsP99 valsL100 valsC101) : Value) = (.slice valsP30 valsL31 valsC32)) ∧
(ldI .i64 ta23 Hx94 fun cell102 =>
((.int .i64 cell102) : Value) = (.int .i64 cell24)) ∧
evW PR (Builtin.append_ #[ty_Suint64, ty_Suint64] ty_Suint64 #[(.slice (some ⟨b83, 0, none⟩) 0 0), (.slice valsP30 valsL31 valsC32)]) Hx94 fun v103 Hx104 =>
asSl v103 fun tP105 tL106 tC107 =>
(ldI .i64 (ta33.add 3) Hx104 fun inx108 =>
((.int .i64 inx108) : Value) = (.int .i64 inx34)) ∧
(ldI .i64 ta23 Hx104 fun cell109 =>
((.int .i64 cell109) : Value) = (.int .i64 cell24)) ∧
st ⟨b3, 0, none⟩ (.int .u64 serial2) Hx104 fun Hx110 =>
st ⟨b3, 1, none⟩ (.int .i64 cell24) Hx110 fun Hx111 =>
st ⟨b3, 2, none⟩ (.slice tP95 tL96 tC97) Hx111 fun Hx112 =>
st ⟨b3, 3, none⟩ (.slice tP105 tL106 tC107) Hx112 fun Hx113 =>
st ⟨b3, 4, none⟩ (.int .i64 inx34) Hx113 fun Hx114 =>
ldI .u64 ⟨b3, 0, none⟩ Hx114 fun Serial115 =>
ldI .i64 ⟨b3, 1, none⟩ Hx114 fun Cell116 =>
ldSl ⟨b3, 2, none⟩ Hx114 fun RefsP117 RefsL118 RefsC119 =>
ldSl ⟨b3, 3, none⟩ Hx114 fun ValsP120 ValsL121 ValsC122 =>
ldI .i64 ⟨b3, 4, none⟩ Hx114 fun In123 =>
K (.tuple #[(.agg #[(.int .u64 Serial115), (.int .i64 Cell116), (.slice RefsP117 RefsL118 RefsC119), (.slice ValsP120 ValsL121 ValsC122), (.int .i64 In123)]), (.bool true)]) Hx114)) ∧
(newB (.cells #[] ty_uint64) Hx4 fun b124 Hx125 =>
(ldI .i64 (ta33.add 3) Hx125 fun inx126 =>
((.int .i64 inx126) : Value) = (.int .i64 inx34)) ∧
(ldSl (ta29.add 2) Hx125 fun valsP127 valsL128 valsC129 =>
((.slice valsP127 valsL128 valsC129) : Value) = (.slice valsP30 valsL31 valsC32)) ∧
(ldSl (ta25.add 1) Hx125 fun refsP130 refsL131 refsC132 =>
((.slice refsP130 refsL131 refsC132) : Value) = (.slice refsP26 refsL27 refsC28)) ∧
(ldI .i64 ta23 Hx125 fun cell133 =>
((.int .i64 cell133) : Value) = (.int .i64 cell24)) ∧
newB (.cells #[] ty_api_ID) Hx125 fun b134 Hx135 =>
(ldI .i64 (ta33.add 3) Hx135 fun inx136 =>
((.int .i64 inx136) : Value) = (.int .i64 inx34)) ∧
(ldSl (ta29.add 2) Hx135 fun valsP137 valsL138 valsC139 =>
((.slice valsP137 valsL138 valsC139) : Value) = (.slice valsP30 valsL31 valsC32)) ∧
(ldSl (ta25.add 1) Hx135 fun refsP140 refsL141 refsC142 =>
((.slice refsP140 refsL141 refsC142) : Value) = (.slice refsP26 refsL27 refsC28)) ∧
(ldI .i64 ta23 Hx135 fun cell143 =>
((.int .i64 cell143) : Value) = (.int .i64 cell24)) ∧
evW PR (Builtin.append_ #[ty_Sapi_ID, ty_Sapi_ID] ty_Sapi_ID #[(.slice (some ⟨b134, 0, none⟩) 0 0), (.slice refsP26 refsL27 refsC28)]) Hx135 fun v144 Hx145 =>
asSl v144 fun tP146 tL147 tC148 =>
(ldI .i64 (ta33.add 3) Hx145 fun inx149 =>
((.int .i64 inx149) : Value) = (.int .i64 inx34)) ∧
(ldSl (ta29.add 2) Hx145 fun valsP150 valsL151 valsC152 =>
((.slice valsP150 valsL151 valsC152) : Value) = (.slice valsP30 valsL31 valsC32)) ∧
(ldI .i64 ta23 Hx145 fun cell153 =>
((.int .i64 cell153) : Value) = (.int .i64 cell24)) ∧
evW PR (Builtin.append_ #[ty_Suint64, ty_Suint64] ty_Suint64 #[(.slice (some ⟨b124, 0, none⟩) 0 0), (.slice valsP30 valsL31 valsC32)]) Hx145 fun v154 Hx155 =>
asSl v154 fun tP156 tL157 tC158 =>
(ldI .i64 (ta33.add 3) Hx155 fun inx159 =>
((.int .i64 inx159) : Value) = (.int .i64 inx34)) ∧
(ldI .i64 ta23 Hx155 fun cell160 =>
((.int .i64 cell160) : Value) = (.int .i64 cell24)) ∧
st ⟨b3, 0, none⟩ (.int .u64 serial2) Hx155 fun Hx161 =>
st ⟨b3, 1, none⟩ (.int .i64 cell24) Hx161 fun Hx162 =>
st ⟨b3, 2, none⟩ (.slice tP146 tL147 tC148) Hx162 fun Hx163 =>
st ⟨b3, 3, none⟩ (.slice tP156 tL157 tC158) Hx163 fun Hx164 =>
st ⟨b3, 4, none⟩ (.int .i64 inx34) Hx164 fun Hx165 =>
ldI .u64 ⟨b3, 0, none⟩ Hx165 fun Serial166 =>
ldI .i64 ⟨b3, 1, none⟩ Hx165 fun Cell167 =>
ldSl ⟨b3, 2, none⟩ Hx165 fun RefsP168 RefsL169 RefsC170 =>
ldSl ⟨b3, 3, none⟩ Hx165 fun ValsP171 ValsL172 ValsC173 =>
ldI .i64 ⟨b3, 4, none⟩ Hx165 fun In174 =>
K (.tuple #[(.agg #[(.int .u64 Serial166), (.int .i64 Cell167), (.slice RefsP168 RefsL169 RefsC170), (.slice ValsP171 ValsL172 ValsC173), (.int .i64 In174)]), (.bool true)]) Hx165))
theorem E_heap_Heap_Object (h1 : Option Addr) (serial2 : Int) (H : Hp) (K : Value → Hp → Prop) : B_heap_Heap_Object h1 serial2 H K = denF Try.prog Try.f36 .n [(.pointer h1), (.int .u64 serial2)] H K := by kernel_rfl
theorem den_heap_Heap_Object {h1 : Option Addr} {serial2 : Int} {H : Hp} {K : Value → Hp → Prop} (h : B_heap_Heap_Object h1 serial2 H K) : hcall PR f_heap_Heap_Object ⟨[(.pointer h1), (.int .u64 serial2)]⟩ H K := denF_call Try.func36 PR_mixed (Eq.mp (E_heap_Heap_Object h1 serial2 H K) h)

def B_heap_Heap_SetRef (h1 : Option Addr) (serial2 : Int) (field3 : Int) (xNode4 : Int) (xSerial5 : Int) (H : Hp) (K : Value → Hp → Prop) : Prop :=
newB (.cells #[(.int .i64 xNode4), (.int .u64 xSerial5)] ty_api_ID) H fun b6 Hx7 =>
newB (.cells #[(.int .i64 0), (.int .u64 0)] ty_api_ID) Hx7 fun b8 Hx9 =>
ldI .i64 ⟨b6, 0, none⟩ Hx9 fun Node10 =>
ldI .u64 ⟨b6, 1, none⟩ Hx9 fun Serial11 =>
hcall PR f_heap_right ⟨[(.agg #[(.int .i64 Node10), (.int .u64 Serial11)])]⟩ Hx9 fun v12 Hx13 =>
asB v12 fun t14 =>
(bif (!t14) then
st ⟨b8, 0, none⟩ (.int .i64 0) Hx13 fun Hx15 =>
st ⟨b8, 1, none⟩ (.int .u64 0) Hx15 fun Hx16 =>
ldI .i64 ⟨b8, 0, none⟩ Hx16 fun Node17 =>
ldI .u64 ⟨b8, 1, none⟩ Hx16 fun Serial18 =>
K (.tuple #[(.agg #[(.int .i64 Node17), (.int .u64 Serial18)]), (.int .i64 1)]) Hx16
else
hcall PR f_heap_Heap_Ref ⟨[(.pointer h1), (.int .u64 serial2), (.int .i64 field3)]⟩ Hx13 fun v19 Hx20 =>
tup2 v19 fun v21 v22 =>
agg2 v21 fun v23 v24 =>
asI .i64 v23 fun Node25 =>
asI .u64 v24 fun Serial26 =>
asI .i64 v22 fun t27 =>
newB (.cells #[(.int .i64 0), (.int .u64 0)] ty_api_ID) Hx20 fun b28 Hx29 =>
st ⟨b28, 0, none⟩ (.int .i64 Node25) Hx29 fun Hx30 =>
st ⟨b28, 1, none⟩ (.int .u64 Serial26) Hx30 fun Hx31 =>
∀ R32 : Hp → Prop, (∀ Hx33 : Hp, (
ldI .i64 ⟨b28, 0, none⟩ Hx33 fun Node34 =>
ldI .u64 ⟨b28, 1, none⟩ Hx33 fun Serial35 =>
st ⟨b8, 0, none⟩ (.int .i64 Node34) Hx33 fun Hx36 =>
st ⟨b8, 1, none⟩ (.int .u64 Serial35) Hx36 fun Hx37 =>
ldI .i64 ⟨b8, 0, none⟩ Hx37 fun Node38 =>
ldI .u64 ⟨b8, 1, none⟩ Hx37 fun Serial39 =>
K (.tuple #[(.agg #[(.int .i64 Node38), (.int .u64 Serial39)]), (.int .i64 t27)]) Hx37) → R32 Hx33) →
(bif ((t27 : Int) == 0) then
nilP h1 fun ha40 =>
ldM (ha40.add 4) Hx31 fun all41 =>
evR PR (Instr.lookup ty_map_uint64_pheap_thing (.map all41) (.int .u64 serial2) false) Hx31 fun v42 =>
asP v42 fun t43 =>
nilP t43 fun ta44 =>
ldSl (ta44.add 1) Hx31 fun refsP45 refsL46 refsC47 =>
ldI .i64 ⟨b6, 0, none⟩ Hx31 fun Node48 =>
ldI .u64 ⟨b6, 1, none⟩ Hx31 fun Serial49 =>
idxA refsP45 refsL46 field3 2 fun el50 =>
st el50 (.int .i64 Node48) Hx31 fun Hx51 =>
st (el50.add 1) (.int .u64 Serial49) Hx51 fun Hx52 =>
R32 Hx52
else
R32 Hx31))
theorem E_heap_Heap_SetRef (h1 : Option Addr) (serial2 : Int) (field3 : Int) (xNode4 : Int) (xSerial5 : Int) (H : Hp) (K : Value → Hp → Prop) : B_heap_Heap_SetRef h1 serial2 field3 xNode4 xSerial5 H K = denF Try.prog Try.f37 (.seq none .n (.seq none .n (.seq none .n (.seq (some ⟨[], [8, 10, 11]⟩) .n .n)))) [(.pointer h1), (.int .u64 serial2), (.int .i64 field3), (.agg #[(.int .i64 xNode4), (.int .u64 xSerial5)])] H K := by kernel_rfl
theorem den_heap_Heap_SetRef {h1 : Option Addr} {serial2 : Int} {field3 : Int} {xNode4 : Int} {xSerial5 : Int} {H : Hp} {K : Value → Hp → Prop} (h : B_heap_Heap_SetRef h1 serial2 field3 xNode4 xSerial5 H K) : hcall PR f_heap_Heap_SetRef ⟨[(.pointer h1), (.int .u64 serial2), (.int .i64 field3), (.agg #[(.int .i64 xNode4), (.int .u64 xSerial5)])]⟩ H K := denF_call Try.func37 PR_mixed (Eq.mp (E_heap_Heap_SetRef h1 serial2 field3 xNode4 xSerial5 H K) h)

def B_heap_Heap_Free (h1 : Option Addr) (serial2 : Int) (H : Hp) (K : Value → Hp → Prop) : Prop :=
nilP h1 fun ha3 =>
ldM (ha3.add 4) H fun all4 =>
evR PR (Instr.lookup ty_map_uint64_pheap_thing (.map all4) (.int .u64 serial2) false) H fun v5 =>
asP v5 fun t6 =>
(bif (Option.isNone (α := Addr) t6) then
K (.int .i64 5) H
else
nilP h1 fun ha7 =>
ldP (ha7.add 3) H fun cells8 =>
nilP t6 fun ta9 =>
ldI .i64 ta9 H fun cell10 =>
hcall PR f_arena_Arena_Free ⟨[(.pointer cells8), (.int .i64 cell10)]⟩ H fun v11 Hx12 =>
asI .i64 v11 fun t13 =>
nilP h1 fun ha14 =>
ldM (ha14.add 4) Hx12 fun all15 =>
evW PR (Builtin.delete_ #[ty_map_uint64_pheap_thing, ty_uint64] ty_ #[(.map all15), (.int .u64 serial2)]) Hx12 fun v16 Hx17 =>
K (.int .i64 0) Hx17)
theorem E_heap_Heap_Free (h1 : Option Addr) (serial2 : Int) (H : Hp) (K : Value → Hp → Prop) : B_heap_Heap_Free h1 serial2 H K = denF Try.prog Try.f38 .n [(.pointer h1), (.int .u64 serial2)] H K := by kernel_rfl
theorem den_heap_Heap_Free {h1 : Option Addr} {serial2 : Int} {H : Hp} {K : Value → Hp → Prop} (h : B_heap_Heap_Free h1 serial2 H K) : hcall PR f_heap_Heap_Free ⟨[(.pointer h1), (.int .u64 serial2)]⟩ H K := denF_call Try.func38 PR_mixed (Eq.mp (E_heap_Heap_Free h1 serial2 H K) h)

def B_heap_Heap_Next (h1 : Option Addr) (serial2 : Int) (H : Hp) (K : Value → Hp → Prop) : Prop :=
nilP h1 fun ha3 =>
ldM (ha3.add 4) H fun all4 =>
evW PR (Instr.range ty_map_uint64_pheap_thing (.map all4)) H fun v5 Hx6 =>
asA v5 fun it7 =>
∃ (I8 : Int → Bool → Hp → Prop) (m9 : Int → Bool → Hp → Nat), I8 0 false Hx6 ∧ ∀ least11 : Int, ∀ ok12 : Bool, ∀ Hx10 : Hp, I8 least11 ok12 Hx10 →
∀ R13 : Bool → Hp → Prop, (∀ t15 : Bool, ∀ Hx14 : Hp, (
(bif t15 then
evW PR (Instr.entry (.pointer (some it7))) Hx14 fun en16 Hx17 =>
extractD en16 0 fun v18 =>
asI .u64 v18 fun t19 =>
(bif (decide ((t19 : Int) > serial2)) then
(bif (!ok12) then
I8 t19 true Hx17 ∧ m9 t19 true Hx17 < m9 least11 ok12 Hx10
else
(bif (decide ((t19 : Int) < least11)) then
I8 t19 true Hx17 ∧ m9 t19 true Hx17 < m9 least11 ok12 Hx10
else
I8 least11 ok12 Hx17 ∧ m9 least11 ok12 Hx17 < m9 least11 ok12 Hx10))
else
I8 least11 ok12 Hx17 ∧ m9 least11 ok12 Hx17 < m9 least11 ok12 Hx10)
else
K (.tuple #[(.int .u64 least11), (.bool ok12)]) Hx14)) → R13 t15 Hx14) →
evW PR (Instr.next (.pointer (some it7)) false 0) Hx10 fun nx20 Hx21 =>
nextC nx20 (
R13 false Hx21) fun k22 x23 =>
R13 true Hx21
theorem E_heap_Heap_Next (h1 : Option Addr) (serial2 : Int) (H : Hp) (K : Value → Hp → Prop) : B_heap_Heap_Next h1 serial2 H K = denF Try.prog Try.f39 (.seq none .n (.seq none .n (.seq none (.seq none .n (.sub (.loop ⟨[(6, .int .u64), (7, .bool)], [1, 13]⟩ (.seq (some ⟨[(15, .bool)], [1, 6, 7, 13]⟩) .n .n)))) .n))) [(.pointer h1), (.int .u64 serial2)] H K := by kernel_rfl
theorem den_heap_Heap_Next {h1 : Option Addr} {serial2 : Int} {H : Hp} {K : Value → Hp → Prop} (h : B_heap_Heap_Next h1 serial2 H K) : hcall PR f_heap_Heap_Next ⟨[(.pointer h1), (.int .u64 serial2)]⟩ H K := denF_call Try.func39 PR_mixed (Eq.mp (E_heap_Heap_Next h1 serial2 H K) h)

def B_heap_Heap_SetIn (h1 : Option Addr) (serial2 : Int) (dist3 : Int) (H : Hp) (K : Value → Hp → Prop) : Prop :=
(bif (decide ((dist3 : Int) < 0)) then
K (.int .i64 1) H
else
(bif (decide ((dist3 : Int) > 40)) then
K (.int .i64 1) H
else
nilP h1 fun ha4 =>
ldM (ha4.add 4) H fun all5 =>
evR PR (Instr.lookup ty_map_uint64_pheap_thing (.map all5) (.int .u64 serial2) false) H fun v6 =>
asP v6 fun t7 =>
(bif (Option.isNone (α := Addr) t7) then
K (.int .i64 5) H
else
nilP t7 fun ta8 =>
st (ta8.add 3) (.int .i64 dist3) H fun Hx9 =>
K (.int .i64 0) Hx9)))
theorem E_heap_Heap_SetIn (h1 : Option Addr) (serial2 : Int) (dist3 : Int) (H : Hp) (K : Value → Hp → Prop) : B_heap_Heap_SetIn h1 serial2 dist3 H K = denF Try.prog Try.f73 .n [(.pointer h1), (.int .u64 serial2), (.int .i64 dist3)] H K := by kernel_rfl
theorem den_heap_Heap_SetIn {h1 : Option Addr} {serial2 : Int} {dist3 : Int} {H : Hp} {K : Value → Hp → Prop} (h : B_heap_Heap_SetIn h1 serial2 dist3 H K) : hcall PR f_heap_Heap_SetIn ⟨[(.pointer h1), (.int .u64 serial2), (.int .i64 dist3)]⟩ H K := denF_call Try.func73 PR_mixed (Eq.mp (E_heap_Heap_SetIn h1 serial2 dist3 H K) h)

def B_heap_fields (n1 : Int) (H : Hp) (K : Value → Hp → Prop) : Prop :=
(bif (decide ((n1 : Int) ≥ 0)) then
K (.bool (decide ((n1 : Int) ≤ 7))) H
else
K (.bool false) H)
theorem E_heap_fields (n1 : Int) (H : Hp) (K : Value → Hp → Prop) : B_heap_fields n1 H K = denF Try.prog Try.f91 .n [(.int .i64 n1)] H K := by kernel_rfl
theorem den_heap_fields {n1 : Int} {H : Hp} {K : Value → Hp → Prop} (h : B_heap_fields n1 H K) : hcall PR f_heap_fields ⟨[(.int .i64 n1)]⟩ H K := denF_call Try.func91 PR_mixed (Eq.mp (E_heap_fields n1 H K) h)

def B_heap_in (k1 : Int) (n2 : Int) (H : Hp) (K : Value → Hp → Prop) : Prop :=
(bif (decide ((k1 : Int) ≥ 0)) then
K (.bool (decide ((k1 : Int) < n2))) H
else
K (.bool false) H)
theorem E_heap_in (k1 : Int) (n2 : Int) (H : Hp) (K : Value → Hp → Prop) : B_heap_in k1 n2 H K = denF Try.prog Try.f93 .n [(.int .i64 k1), (.int .i64 n2)] H K := by kernel_rfl
theorem den_heap_in {k1 : Int} {n2 : Int} {H : Hp} {K : Value → Hp → Prop} (h : B_heap_in k1 n2 H K) : hcall PR f_heap_in ⟨[(.int .i64 k1), (.int .i64 n2)]⟩ H K := denF_call Try.func93 PR_mixed (Eq.mp (E_heap_in k1 n2 H K) h)

def B_heap_Heap_Val (h1 : Option Addr) (serial2 : Int) (field3 : Int) (H : Hp) (K : Value → Hp → Prop) : Prop :=
nilP h1 fun ha4 =>
ldM (ha4.add 4) H fun all5 =>
evR PR (Instr.lookup ty_map_uint64_pheap_thing (.map all5) (.int .u64 serial2) false) H fun v6 =>
asP v6 fun t7 =>
(bif (Option.isNone (α := Addr) t7) then
K (.tuple #[(.int .u64 0), (.int .i64 5)]) H
else
nilP t7 fun ta8 =>
ldSl (ta8.add 2) H fun valsP9 valsL10 valsC11 =>
hcall PR f_heap_in ⟨[(.int .i64 field3), (.int .i64 (valsL10 : Int))]⟩ H fun v12 Hx13 =>
asB v12 fun t14 =>
(bif (!t14) then
K (.tuple #[(.int .u64 0), (.int .i64 5)]) Hx13
else
nilP t7 fun ta15 =>
ldSl (ta15.add 2) Hx13 fun valsP16 valsL17 valsC18 =>
idxA valsP16 valsL17 field3 1 fun el19 =>
ldI .u64 el19 Hx13 fun t20 =>
K (.tuple #[(.int .u64 t20), (.int .i64 0)]) Hx13))
theorem E_heap_Heap_Val (h1 : Option Addr) (serial2 : Int) (field3 : Int) (H : Hp) (K : Value → Hp → Prop) : B_heap_Heap_Val h1 serial2 field3 H K = denF Try.prog Try.f95 .n [(.pointer h1), (.int .u64 serial2), (.int .i64 field3)] H K := by kernel_rfl
theorem den_heap_Heap_Val {h1 : Option Addr} {serial2 : Int} {field3 : Int} {H : Hp} {K : Value → Hp → Prop} (h : B_heap_Heap_Val h1 serial2 field3 H K) : hcall PR f_heap_Heap_Val ⟨[(.pointer h1), (.int .u64 serial2), (.int .i64 field3)]⟩ H K := denF_call Try.func95 PR_mixed (Eq.mp (E_heap_Heap_Val h1 serial2 field3 H K) h)

def B_heap_right (xNode1 : Int) (xSerial2 : Int) (H : Hp) (K : Value → Hp → Prop) : Prop :=
newB (.cells #[(.int .i64 xNode1), (.int .u64 xSerial2)] ty_api_ID) H fun b3 Hx4 =>
ldI .i64 ⟨b3, 0, none⟩ Hx4 fun Node5 =>
ldI .u64 ⟨b3, 1, none⟩ Hx4 fun Serial6 =>
evR PR (aggEq .eql ty_api_ID #[(.int .i64 Node5), (.int .u64 Serial6)] #[(.int .i64 0), (.int .u64 0)]) Hx4 fun v7 =>
asB v7 fun eq8 =>
(bif eq8 then
K (.bool true) Hx4
else
ldI .i64 ⟨b3, 0, none⟩ Hx4 fun Node9 =>
(bif (decide ((Node9 : Int) ≥ 1)) then
ldI .i64 ⟨b3, 0, none⟩ Hx4 fun Node10 =>
(bif (decide ((Node10 : Int) ≤ 64)) then
ldI .u64 ⟨b3, 1, none⟩ Hx4 fun Serial11 =>
(bif (decide ((Serial11 : Int) ≥ 1)) then
ldI .u64 ⟨b3, 1, none⟩ Hx4 fun Serial12 =>
K (.bool (decide ((Serial12 : Int) ≤ 72057594037927935))) Hx4
else
K (.bool false) Hx4)
else
K (.bool false) Hx4)
else
K (.bool false) Hx4))
theorem E_heap_right (xNode1 : Int) (xSerial2 : Int) (H : Hp) (K : Value → Hp → Prop) : B_heap_right xNode1 xSerial2 H K = denF Try.prog Try.f96 .n [(.agg #[(.int .i64 xNode1), (.int .u64 xSerial2)])] H K := by kernel_rfl
theorem den_heap_right {xNode1 : Int} {xSerial2 : Int} {H : Hp} {K : Value → Hp → Prop} (h : B_heap_right xNode1 xSerial2 H K) : hcall PR f_heap_right ⟨[(.agg #[(.int .i64 xNode1), (.int .u64 xSerial2)])]⟩ H K := denF_call Try.func96 PR_mixed (Eq.mp (E_heap_right xNode1 xSerial2 H K) h)

end Go.Proofs.Ytohlnmenghbgbaa
