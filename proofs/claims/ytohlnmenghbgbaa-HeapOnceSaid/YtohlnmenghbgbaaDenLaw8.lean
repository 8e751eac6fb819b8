/- PRINTED by gen.py: functions as plain propositions, held against the program by the kernel. No condition. -/
import Derived.Test.YtohlnmenghbgbaaDenN
namespace Go.Proofs.Ytohlnmenghbgbaa
open Go
set_option linter.unusedVariables false
set_option maxRecDepth 100000

def B_law8_known  (H : Hp) (K : Value → Hp → Prop) : Prop :=
hcall PR f_heap_New ⟨[(.int .i64 1), (.int .i64 16), (.int .i64 2), (.int .u64 5)]⟩ H fun v1 Hx2 =>
tup2 v1 fun v3 v4 =>
asP v3 fun t5 =>
asI .i64 v4 fun t6 =>
(bif ((t6 : Int) != 0) then
K (.bool false) Hx2
else
(bif (Option.isNone (α := Addr) t5) then
K (.bool false) Hx2
else
hcall PR f_heap_Heap_Make ⟨[(.pointer t5), (.int .i64 1), (.int .i64 1)]⟩ Hx2 fun v7 Hx8 =>
tup2 v7 fun v9 v10 =>
asI .u64 v9 fun t11 =>
asI .i64 v10 fun t12 =>
hcall PR f_heap_Heap_Ref ⟨[(.pointer t5), (.int .u64 6), (.int .i64 0)]⟩ Hx8 fun v13 Hx14 =>
tup2 v13 fun v15 v16 =>
agg2 v15 fun v17 v18 =>
asI .i64 v17 fun Node19 =>
asI .u64 v18 fun Serial20 =>
asI .i64 v16 fun t21 =>
newB (.cells #[(.int .i64 0), (.int .u64 0)] ty_api_ID) Hx14 fun b22 Hx23 =>
st ⟨b22, 0, none⟩ (.int .i64 Node19) Hx23 fun Hx24 =>
st ⟨b22, 1, none⟩ (.int .u64 Serial20) Hx24 fun Hx25 =>
hcall PR f_heap_Heap_SetRef ⟨[(.pointer t5), (.int .u64 6), (.int .i64 0), (.agg #[(.int .i64 2), (.int .u64 9)])]⟩ Hx25 fun v26 Hx27 =>
tup2 v26 fun v28 v29 =>
agg2 v28 fun v30 v31 =>
asI .i64 v30 fun Node32 =>
asI .u64 v31 fun Serial33 =>
asI .i64 v29 fun t34 =>
newB (.cells #[(.int .i64 0), (.int .u64 0)] ty_api_ID) Hx27 fun b35 Hx36 =>
st ⟨b35, 0, none⟩ (.int .i64 Node32) Hx36 fun Hx37 =>
st ⟨b35, 1, none⟩ (.int .u64 Serial33) Hx37 fun Hx38 =>
hcall PR f_heap_Heap_Ref ⟨[(.pointer t5), (.int .u64 6), (.int .i64 0)]⟩ Hx38 fun v39 Hx40 =>
tup2 v39 fun v41 v42 =>
agg2 v41 fun v43 v44 =>
asI .i64 v43 fun Node45 =>
asI .u64 v44 fun Serial46 =>
asI .i64 v42 fun t47 =>
newB (.cells #[(.int .i64 0), (.int .u64 0)] ty_api_ID) Hx40 fun b48 Hx49 =>
st ⟨b48, 0, none⟩ (.int .i64 Node45) Hx49 fun Hx50 =>
st ⟨b48, 1, none⟩ (.int .u64 Serial46) Hx50 fun Hx51 =>
(bif ((t11 : Int) == 6) then
(bif ((t12 : Int) == 0) then
ldI .i64 ⟨b22, 0, none⟩ Hx51 fun Node52 =>
ldI .u64 ⟨b22, 1, none⟩ Hx51 fun Serial53 =>
evR PR (aggEq .eql ty_api_ID #[(.int .i64 Node52), (.int .u64 Serial53)] #[(.int .i64 0), (.int .u64 0)]) Hx51 fun v54 =>
asB v54 fun eq55 =>
(bif eq55 then
(bif ((t21 : Int) == 0) then
(bif ((t34 : Int) == 0) then
ldI .i64 ⟨b48, 0, none⟩ Hx51 fun Node56 =>
ldI .u64 ⟨b48, 1, none⟩ Hx51 fun Serial57 =>
evR PR (aggEq .eql ty_api_ID #[(.int .i64 Node56), (.int .u64 Serial57)] #[(.int .i64 2), (.int .u64 9)]) Hx51 fun v58 =>
asB v58 fun eq59 =>
K (.bool eq59) Hx51
else
K (.bool false) Hx51)
else
K (.bool false) Hx51)
else
K (.bool false) Hx51)
else
K (.bool false) Hx51)
else
K (.bool false) Hx51)))
theorem E_law8_known  (H : Hp) (K : Value → Hp → Prop) : B_law8_known  H K = denF Try.prog Try.f27 .n [] H K := by kernel_rfl
theorem den_law8_known  {H : Hp} {K : Value → Hp → Prop} (h : B_law8_known  H K) : hcall PR f_law8_known ⟨[]⟩ H K := denF_call Try.func27 PR_mixed (Eq.mp (E_law8_known  H K) h)

def B_law8_fill (h1 : Option Addr) (r2 : Option Addr) (xWhat3 : Int) (xA4 : Int) (xB5 : Int) (xSerial6 : Int) (xV7 : Int) (xNode8 : Int) (xSerial9 : Int) (xNear10 : Bool) (H : Hp) (K : Value → Hp → Prop) : Prop :=
newB (.cells #[(.int .i64 xWhat3), (.int .i64 xA4), (.int .i64 xB5), (.int .u64 xSerial6), (.int .u64 xV7), (.int .i64 xNode8), (.int .u64 xSerial9), (.bool xNear10)] ty_law8_Step) H fun b11 Hx12 =>
ldI .u64 ⟨b11, 3, none⟩ Hx12 fun Serial13 =>
∀ R14 : Int → Hp → Prop, (∀ s16 : Int, ∀ Hx15 : Hp, (
ldI .i64 ⟨b11, 0, none⟩ Hx15 fun What17 =>
hcall PR f_hand_Pick ⟨[(.int .i64 What17), (.int .i64 9)]⟩ Hx15 fun v18 Hx19 =>
asI .i64 v18 fun t20 =>
(bif ((t20 : Int) == 2) then
ldI .i64 ⟨b11, 1, none⟩ Hx19 fun A21 =>
ldI .i64 ⟨b11, 5, none⟩ Hx19 fun Node22 =>
ldI .u64 ⟨b11, 6, none⟩ Hx19 fun Serial23 =>
hcall PR f_heap_Heap_SetRef ⟨[(.pointer h1), (.int .u64 s16), (.int .i64 A21), (.agg #[(.int .i64 Node22), (.int .u64 Serial23)])]⟩ Hx19 fun v24 Hx25 =>
tup2 v24 fun v26 v27 =>
agg2 v26 fun v28 v29 =>
asI .i64 v28 fun Node30 =>
asI .u64 v29 fun Serial31 =>
asI .i64 v27 fun t32 =>
newB (.cells #[(.int .i64 0), (.int .u64 0)] ty_api_ID) Hx25 fun b33 Hx34 =>
st ⟨b33, 0, none⟩ (.int .i64 Node30) Hx34 fun Hx35 =>
st ⟨b33, 1, none⟩ (.int .u64 Serial31) Hx35 fun Hx36 =>
ldI .i64 ⟨b11, 1, none⟩ Hx36 fun A37 =>
ldI .i64 ⟨b11, 5, none⟩ Hx36 fun Node38 =>
ldI .u64 ⟨b11, 6, none⟩ Hx36 fun Serial39 =>
hcall PR f_ref8_Heap_SetRef ⟨[(.pointer r2), (.int .u64 s16), (.int .i64 A37), (.agg #[(.int .i64 Node38), (.int .u64 Serial39)])]⟩ Hx36 fun v40 Hx41 =>
tup2 v40 fun v42 v43 =>
agg2 v42 fun v44 v45 =>
asI .i64 v44 fun Node46 =>
asI .u64 v45 fun Serial47 =>
asI .i64 v43 fun t48 =>
newB (.cells #[(.int .i64 0), (.int .u64 0)] ty_api_ID) Hx41 fun b49 Hx50 =>
st ⟨b49, 0, none⟩ (.int .i64 Node46) Hx50 fun Hx51 =>
st ⟨b49, 1, none⟩ (.int .u64 Serial47) Hx51 fun Hx52 =>
ldI .i64 ⟨b33, 0, none⟩ Hx52 fun Node53 =>
ldI .u64 ⟨b33, 1, none⟩ Hx52 fun Serial54 =>
ldI .i64 ⟨b49, 0, none⟩ Hx52 fun Node55 =>
ldI .u64 ⟨b49, 1, none⟩ Hx52 fun Serial56 =>
evR PR (aggEq .eql ty_api_ID #[(.int .i64 Node53), (.int .u64 Serial54)] #[(.int .i64 Node55), (.int .u64 Serial56)]) Hx52 fun v57 =>
asB v57 fun eq58 =>
(bif eq58 then
K (.bool ((t32 : Int) == t48)) Hx52
else
K (.bool false) Hx52)
else
(bif ((t20 : Int) == 3) then
ldI .i64 ⟨b11, 1, none⟩ Hx19 fun A59 =>
ldI .u64 ⟨b11, 4, none⟩ Hx19 fun V60 =>
ldI .i64 ⟨b11, 1, none⟩ Hx19 fun A61 =>
ldI .u64 ⟨b11, 4, none⟩ Hx19 fun V62 =>
hcall PR f_heap_Heap_SetVal ⟨[(.pointer h1), (.int .u64 s16), (.int .i64 A59), (.int .u64 V60)]⟩ Hx19 fun v63 Hx64 =>
asI .i64 v63 fun t65 =>
(ldI .u64 ⟨b11, 4, none⟩ Hx64 fun V66 =>
((.int .u64 V66) : Value) = (.int .u64 V62)) ∧
(ldI .i64 ⟨b11, 1, none⟩ Hx64 fun A67 =>
((.int .i64 A67) : Value) = (.int .i64 A61)) ∧
hcall PR f_ref8_Heap_SetVal ⟨[(.pointer r2), (.int .u64 s16), (.int .i64 A61), (.int .u64 V62)]⟩ Hx64 fun v68 Hx69 =>
asI .i64 v68 fun t70 =>
K (.bool ((t65 : Int) == t70)) Hx69
else
(bif ((t20 : Int) == 4) then
ldI .i64 ⟨b11, 1, none⟩ Hx19 fun A71 =>
ldI .i64 ⟨b11, 1, none⟩ Hx19 fun A72 =>
hcall PR f_heap_Heap_SetIn ⟨[(.pointer h1), (.int .u64 s16), (.int .i64 A71)]⟩ Hx19 fun v73 Hx74 =>
asI .i64 v73 fun t75 =>
(ldI .i64 ⟨b11, 1, none⟩ Hx74 fun A76 =>
((.int .i64 A76) : Value) = (.int .i64 A72)) ∧
hcall PR f_ref8_Heap_SetIn ⟨[(.pointer r2), (.int .u64 s16), (.int .i64 A72)]⟩ Hx74 fun v77 Hx78 =>
asI .i64 v77 fun t79 =>
K (.bool ((t75 : Int) == t79)) Hx78
else
(bif ((t20 : Int) == 5) then
hcall PR f_heap_Heap_Free ⟨[(.pointer h1), (.int .u64 s16)]⟩ Hx19 fun v80 Hx81 =>
asI .i64 v80 fun t82 =>
hcall PR f_ref8_Heap_Free ⟨[(.pointer r2), (.int .u64 s16)]⟩ Hx81 fun v83 Hx84 =>
asI .i64 v83 fun t85 =>
K (.bool ((t82 : Int) == t85)) Hx84
else
(bif ((t20 : Int) == 6) then
ldI .i64 ⟨b11, 1, none⟩ Hx19 fun A86 =>
hcall PR f_heap_Heap_Ref ⟨[(.pointer h1), (.int .u64 s16), (.int .i64 A86)]⟩ Hx19 fun v87 Hx88 =>
tup2 v87 fun v89 v90 =>
agg2 v89 fun v91 v92 =>
asI .i64 v91 fun Node93 =>
asI .u64 v92 fun Serial94 =>
asI .i64 v90 fun t95 =>
newB (.cells #[(.int .i64 0), (.int .u64 0)] ty_api_ID) Hx88 fun b96 Hx97 =>
st ⟨b96, 0, none⟩ (.int .i64 Node93) Hx97 fun Hx98 =>
st ⟨b96, 1, none⟩ (.int .u64 Serial94) Hx98 fun Hx99 =>
ldI .i64 ⟨b11, 1, none⟩ Hx99 fun A100 =>
hcall PR f_ref8_Heap_Ref ⟨[(.pointer r2), (.int .u64 s16), (.int .i64 A100)]⟩ Hx99 fun v101 Hx102 =>
tup2 v101 fun v103 v104 =>
agg2 v103 fun v105 v106 =>
asI .i64 v105 fun Node107 =>
asI .u64 v106 fun Serial108 =>
asI .i64 v104 fun t109 =>
newB (.cells #[(.int .i64 0), (.int .u64 0)] ty_api_ID) Hx102 fun b110 Hx111 =>
st ⟨b110, 0, none⟩ (.int .i64 Node107) Hx111 fun Hx112 =>
st ⟨b110, 1, none⟩ (.int .u64 Serial108) Hx112 fun Hx113 =>
ldI .i64 ⟨b96, 0, none⟩ Hx113 fun Node114 =>
ldI .u64 ⟨b96, 1, none⟩ Hx113 fun Serial115 =>
ldI .i64 ⟨b110, 0, none⟩ Hx113 fun Node116 =>
ldI .u64 ⟨b110, 1, none⟩ Hx113 fun Serial117 =>
evR PR (aggEq .eql ty_api_ID #[(.int .i64 Node114), (.int .u64 Serial115)] #[(.int .i64 Node116), (.int .u64 Serial117)]) Hx113 fun v118 =>
asB v118 fun eq119 =>
(bif eq119 then
K (.bool ((t95 : Int) == t109)) Hx113
else
K (.bool false) Hx113)
else
(bif ((t20 : Int) == 7) then
ldI .i64 ⟨b11, 1, none⟩ Hx19 fun A120 =>
hcall PR f_heap_Heap_Val ⟨[(.pointer h1), (.int .u64 s16), (.int .i64 A120)]⟩ Hx19 fun v121 Hx122 =>
tup2 v121 fun v123 v124 =>
asI .u64 v123 fun t125 =>
asI .i64 v124 fun t126 =>
ldI .i64 ⟨b11, 1, none⟩ Hx122 fun A127 =>
hcall PR f_ref8_Heap_Val ⟨[(.pointer r2), (.int .u64 s16), (.int .i64 A127)]⟩ Hx122 fun v128 Hx129 =>
tup2 v128 fun v130 v131 =>
asI .u64 v130 fun t132 =>
asI .i64 v131 fun t133 =>
(bif ((t125 : Int) == t132) then
K (.bool ((t126 : Int) == t133)) Hx129
else
K (.bool false) Hx129)
else
(bif ((t20 : Int) == 8) then
hcall PR f_heap_Heap_Next ⟨[(.pointer h1), (.int .u64 s16)]⟩ Hx19 fun v134 Hx135 =>
tup2 v134 fun v136 v137 =>
asI .u64 v136 fun t138 =>
asB v137 fun t139 =>
hcall PR f_ref8_Heap_Next ⟨[(.pointer r2), (.int .u64 s16)]⟩ Hx135 fun v140 Hx141 =>
tup2 v140 fun v142 v143 =>
asI .u64 v142 fun t144 =>
asB v143 fun t145 =>
(bif ((t138 : Int) == t144) then
K (.bool (t139 == t145)) Hx141
else
K (.bool false) Hx141)
else
ldI .i64 ⟨b11, 1, none⟩ Hx19 fun A146 =>
ldI .i64 ⟨b11, 2, none⟩ Hx19 fun B147 =>
hcall PR f_heap_Heap_Make ⟨[(.pointer h1), (.int .i64 A146), (.int .i64 B147)]⟩ Hx19 fun v148 Hx149 =>
tup2 v148 fun v150 v151 =>
asI .u64 v150 fun t152 =>
asI .i64 v151 fun t153 =>
ldI .i64 ⟨b11, 1, none⟩ Hx149 fun A154 =>
ldI .i64 ⟨b11, 2, none⟩ Hx149 fun B155 =>
hcall PR f_ref8_Heap_Make ⟨[(.pointer r2), (.int .i64 A154), (.int .i64 B155)]⟩ Hx149 fun v156 Hx157 =>
tup2 v156 fun v158 v159 =>
asI .u64 v158 fun t160 =>
asI .i64 v159 fun t161 =>
(bif ((t152 : Int) == t160) then
K (.bool ((t153 : Int) == t161)) Hx157
else
K (.bool false) Hx157))))))))) → R14 s16 Hx15) →
ldB ⟨b11, 7, none⟩ Hx12 fun Near162 =>
(bif Near162 then
ldI .i64 ⟨b11, 1, none⟩ Hx12 fun A163 =>
hcall PR f_hand_Pick ⟨[(.int .i64 A163), (.int .i64 9)]⟩ Hx12 fun v164 Hx165 =>
asI .i64 v164 fun t166 =>
st ⟨b11, 1, none⟩ (.int .i64 (IntKind.i64.wrap (t166 - 1))) Hx165 fun Hx167 =>
ldI .i64 ⟨b11, 2, none⟩ Hx167 fun B168 =>
hcall PR f_hand_Pick ⟨[(.int .i64 B168), (.int .i64 9)]⟩ Hx167 fun v169 Hx170 =>
asI .i64 v169 fun t171 =>
st ⟨b11, 2, none⟩ (.int .i64 (IntKind.i64.wrap (t171 - 1))) Hx170 fun Hx172 =>
nilP r2 fun ra173 =>
ldI .u64 (ra173.add 2) Hx172 fun Last174 =>
(5 : Int) ≠ 0 ∧
R14 (IntKind.u64.wrap (Last174 - (Int.tmod Serial13 5))) Hx172
else
R14 Serial13 Hx12)
theorem E_law8_fill (h1 : Option Addr) (r2 : Option Addr) (xWhat3 : Int) (xA4 : Int) (xB5 : Int) (xSerial6 : Int) (xV7 : Int) (xNode8 : Int) (xSerial9 : Int) (xNear10 : Bool) (H : Hp) (K : Value → Hp → Prop) : B_law8_fill h1 r2 xWhat3 xA4 xB5 xSerial6 xV7 xNode8 xSerial9 xNear10 H K = denF Try.prog Try.f41 (.seq none .n (.seq none .n (.seq (some ⟨[(7, .int .u64)], [0, 1, 5]⟩) .n .n))) [(.pointer h1), (.pointer r2), (.agg #[(.int .i64 xWhat3), (.int .i64 xA4), (.int .i64 xB5), (.int .u64 xSerial6), (.int .u64 xV7), (.int .i64 xNode8), (.int .u64 xSerial9), (.bool xNear10)])] H K := by kernel_rfl
theorem den_law8_fill {h1 : Option Addr} {r2 : Option Addr} {xWhat3 : Int} {xA4 : Int} {xB5 : Int} {xSerial6 : Int} {xV7 : Int} {xNode8 : Int} {xSerial9 : Int} {xNear10 : Bool} {H : Hp} {K : Value → Hp → Prop} (h : B_law8_fill h1 r2 xWhat3 xA4 xB5 xSerial6 xV7 xNode8 xSerial9 xNear10 H K) : hcall PR f_law8_fill ⟨[(.pointer h1), (.pointer r2), (.agg #[(.int .i64 xWhat3), (.int .i64 xA4), (.int .i64 xB5), (.int .u64 xSerial6), (.int .u64 xV7), (.int .i64 xNode8), (.int .u64 xSerial9), (.bool xNear10)])]⟩ H K := denF_call Try.func41 PR_mixed (Eq.mp (E_law8_fill h1 r2 xWhat3 xA4 xB5 xSerial6 xV7 xNode8 xSerial9 xNear10 H K) h)

def B_law8_whole (h1 : Option Addr) (r2 : Option Addr) (H : Hp) (K : Value → Hp → Prop) : Prop :=
∃ (I3 : Int → Int → Hp → Prop) (m4 : Int → Int → Hp → Nat), I3 0 0 H ∧ ∀ atx6 : Int, ∀ i7 : Int, ∀ Hx5 : Hp, I3 atx6 i7 Hx5 →
nilP r2 fun ra8 =>
ldSl (ra8.add 4) Hx5 fun LP9 LL10 LC11 =>
(bif (decide ((i7 : Int) < (LL10 : Int))) then
hcall PR f_heap_Heap_Next ⟨[(.pointer h1), (.int .u64 atx6)]⟩ Hx5 fun v12 Hx13 =>
tup2 v12 fun v14 v15 =>
asI .u64 v14 fun t16 =>
asB v15 fun t17 =>
(bif (!t17) then
K (.bool false) Hx13
else
nilP r2 fun ra18 =>
ldSl (ra18.add 4) Hx13 fun LP19 LL20 LC21 =>
idxA LP19 LL20 i7 1 fun el22 =>
ldP el22 Hx13 fun t23 =>
nilP t23 fun ta24 =>
ldI .u64 ta24 Hx13 fun Serial25 =>
(bif ((t16 : Int) != Serial25) then
K (.bool false) Hx13
else
hcall PR f_heap_Heap_Object ⟨[(.pointer h1), (.int .u64 t16)]⟩ Hx13 fun v26 Hx27 =>
tup2 v26 fun v28 v29 =>
asAgg' v28 fun cs30 =>
unCons cs30.toList fun v31 r32 =>
unCons r32 fun v33 r34 =>
unCons r34 fun v35 r36 =>
unCons r36 fun v37 r38 =>
unCons r38 fun v39 r40 =>
unNil r40 <|
asI .u64 v31 fun Serial41 =>
asI .i64 v33 fun Cell42 =>
asSl v35 fun RefsP43 RefsL44 RefsC45 =>
asSl v37 fun ValsP46 ValsL47 ValsC48 =>
asI .i64 v39 fun In49 =>
asB v29 fun t50 =>
newB (.cells #[(.int .u64 0), (.int .i64 0), (.slice none 0 0), (.slice none 0 0), (.int .i64 0)] ty_api_Object) Hx27 fun b51 Hx52 =>
st ⟨b51, 0, none⟩ (.int .u64 Serial41) Hx52 fun Hx53 =>
st ⟨b51, 1, none⟩ (.int .i64 Cell42) Hx53 fun Hx54 =>
st ⟨b51, 2, none⟩ (.slice RefsP43 RefsL44 RefsC45) Hx54 fun Hx55 =>
st ⟨b51, 3, none⟩ (.slice ValsP46 ValsL47 ValsC48) Hx55 fun Hx56 =>
st ⟨b51, 4, none⟩ (.int .i64 In49) Hx56 fun Hx57 =>
(bif (!t50) then
K (.bool false) Hx57
else
ldI .u64 ⟨b51, 0, none⟩ Hx57 fun Serial58 =>
ldI .i64 ⟨b51, 1, none⟩ Hx57 fun Cell59 =>
ldSl ⟨b51, 2, none⟩ Hx57 fun RefsP60 RefsL61 RefsC62 =>
ldSl ⟨b51, 3, none⟩ Hx57 fun ValsP63 ValsL64 ValsC65 =>
ldI .i64 ⟨b51, 4, none⟩ Hx57 fun In66 =>
nilP r2 fun ra67 =>
ldSl (ra67.add 4) Hx57 fun LP68 LL69 LC70 =>
idxA LP68 LL69 i7 1 fun el71 =>
ldP el71 Hx57 fun t72 =>
nilP t72 fun ta73 =>
ldI .u64 ta73 Hx57 fun Serial74 =>
ldI .i64 (ta73.add 1) Hx57 fun Cell75 =>
ldSl (ta73.add 2) Hx57 fun RefsP76 RefsL77 RefsC78 =>
ldSl (ta73.add 3) Hx57 fun ValsP79 ValsL80 ValsC81 =>
ldI .i64 (ta73.add 4) Hx57 fun In82 =>
hcall PR f_ref8_Same ⟨[(.agg #[(.int .u64 Serial58), (.int .i64 Cell59), (.slice RefsP60 RefsL61 RefsC62), (.slice ValsP63 ValsL64 ValsC65), (.int .i64 In66)]), (.agg #[(.int .u64 Serial74), (.int .i64 Cell75), (.slice RefsP76 RefsL77 RefsC78), (.slice ValsP79 ValsL80 ValsC81), (.int .i64 In82)])]⟩ Hx57 fun v83 Hx84 =>
asB v83 fun t85 =>
(bif (!t85) then
K (.bool false) Hx84
else
I3 t16 (IntKind.i64.wrap (i7 + 1)) Hx84 ∧ m4 t16 (IntKind.i64.wrap (i7 + 1)) Hx84 < m4 atx6 i7 Hx5))))
else
hcall PR f_heap_Heap_Next ⟨[(.pointer h1), (.int .u64 atx6)]⟩ Hx5 fun v86 Hx87 =>
tup2 v86 fun v88 v89 =>
asI .u64 v88 fun t90 =>
asB v89 fun t91 =>
nilP r2 fun ra92 =>
ldI .u64 (ra92.add 2) Hx87 fun Last93 =>
hcall PR f_heap_Heap_Object ⟨[(.pointer h1), (.int .u64 (IntKind.u64.wrap (Last93 + 1)))]⟩ Hx87 fun v94 Hx95 =>
tup2 v94 fun v96 v97 =>
asAgg' v96 fun cs98 =>
unCons cs98.toList fun v99 r100 =>
unCons r100 fun v101 r102 =>
unCons r102 fun v103 r104 =>
unCons r104 fun v105 r106 =>
unCons r106 fun v107 r108 =>
unNil r108 <|
asI .u64 v99 fun Serial109 =>
asI .i64 v101 fun Cell110 =>
asSl v103 fun RefsP111 RefsL112 RefsC113 =>
asSl v105 fun ValsP114 ValsL115 ValsC116 =>
asI .i64 v107 fun In117 =>
asB v97 fun t118 =>
newB (.cells #[(.int .u64 0), (.int .i64 0), (.slice none 0 0), (.slice none 0 0), (.int .i64 0)] ty_api_Object) Hx95 fun b119 Hx120 =>
st ⟨b119, 0, none⟩ (.int .u64 Serial109) Hx120 fun Hx121 =>
st ⟨b119, 1, none⟩ (.int .i64 Cell110) Hx121 fun Hx122 =>
st ⟨b119, 2, none⟩ (.slice RefsP111 RefsL112 RefsC113) Hx122 fun Hx123 =>
st ⟨b119, 3, none⟩ (.slice ValsP114 ValsL115 ValsC116) Hx123 fun Hx124 =>
st ⟨b119, 4, none⟩ (.int .i64 In117) Hx124 fun Hx125 =>
(bif (!t91) then
(bif (!t118) then
nilP r2 fun ra126 =>
ldSl (ra126.add 4) Hx125 fun LP127 LL128 LC129 =>
hcall PR f_heap_Heap_Len ⟨[(.pointer h1)]⟩ Hx125 fun v130 Hx131 =>
asI .i64 v130 fun t132 =>
(ldSl (ra126.add 4) Hx131 fun LP133 LL134 LC135 =>
((.slice LP133 LL134 LC135) : Value) = (.slice LP127 LL128 LC129)) ∧
(bif ((t132 : Int) == (LL128 : Int)) then
nilP r2 fun ra136 =>
ldI .u64 (ra136.add 2) Hx131 fun Last137 =>
hcall PR f_heap_Heap_Last ⟨[(.pointer h1)]⟩ Hx131 fun v138 Hx139 =>
asI .u64 v138 fun t140 =>
(ldI .u64 (ra136.add 2) Hx139 fun Last141 =>
((.int .u64 Last141) : Value) = (.int .u64 Last137)) ∧
(bif ((t140 : Int) == Last137) then
nilP r2 fun ra142 =>
ldI .i64 ra142 Hx139 fun Node143 =>
hcall PR f_heap_Heap_Node ⟨[(.pointer h1)]⟩ Hx139 fun v144 Hx145 =>
asI .i64 v144 fun t146 =>
(ldI .i64 ra142 Hx145 fun Node147 =>
((.int .i64 Node147) : Value) = (.int .i64 Node143)) ∧
(bif ((t146 : Int) == Node143) then
nilP r2 fun ra148 =>
ldP (ra148.add 3) Hx145 fun Arena149 =>
hcall PR f_heap_Heap_Used ⟨[(.pointer h1)]⟩ Hx145 fun v150 Hx151 =>
asI .i64 v150 fun t152 =>
(ldP (ra148.add 3) Hx151 fun Arena153 =>
((.pointer Arena153) : Value) = (.pointer Arena149)) ∧
hcall PR f_ref7_Arena_Used ⟨[(.pointer Arena149)]⟩ Hx151 fun v154 Hx155 =>
asI .i64 v154 fun t156 =>
K (.bool ((t152 : Int) == t156)) Hx155
else
K (.bool false) Hx145)
else
K (.bool false) Hx139)
else
K (.bool false) Hx131)
else
K (.bool false) Hx125)
else
K (.bool false) Hx125))
theorem E_law8_whole (h1 : Option Addr) (r2 : Option Addr) (H : Hp) (K : Value → Hp → Prop) : B_law8_whole h1 r2 H K = denF Try.prog Try.f42 (.seq none .n (.seq none .n (.seq none (.seq none .n (.sub (.loop ⟨[(5, .int .u64), (6, .int .i64)], [0, 1]⟩ .n))) .n))) [(.pointer h1), (.pointer r2)] H K := by kernel_rfl
theorem den_law8_whole {h1 : Option Addr} {r2 : Option Addr} {H : Hp} {K : Value → Hp → Prop} (h : B_law8_whole h1 r2 H K) : hcall PR f_law8_whole ⟨[(.pointer h1), (.pointer r2)]⟩ H K := denF_call Try.func42 PR_mixed (Eq.mp (E_law8_whole h1 r2 H K) h)

end Go.Proofs.Ytohlnmenghbgbaa
