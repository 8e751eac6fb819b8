/- PRINTED by gen.py: functions as plain propositions, held against the program by the kernel. No condition. -/
import Derived.Test.YtohlnmenghbgbaaDenN
namespace Go.Proofs.Ytohlnmenghbgbaa
open Go
set_option linter.unusedVariables false
set_option maxRecDepth 100000

def B_law8_HeapOwn (refs1 : Int) (vals2 : Int) (v3 : Int) (H : Hp) (K : Value → Hp → Prop) : Prop :=
hcall PR f_heap_New ⟨[(.int .i64 3), (.int .i64 64), (.int .i64 4), (.int .u64 0)]⟩ H fun v4 Hx5 =>
tup2 v4 fun v6 v7 =>
asP v6 fun t8 =>
asI .i64 v7 fun t9 =>
hcall PR f_law8_known ⟨[]⟩ Hx5 fun v10 Hx11 =>
asB v10 fun t12 =>
(bif (!t12) then
K (.bool false) Hx11
else
(bif ((t9 : Int) != 0) then
K (.bool false) Hx11
else
(bif (Option.isNone (α := Addr) t8) then
K (.bool false) Hx11
else
hcall PR f_hand_Pick ⟨[(.int .i64 refs1), (.int .i64 8)]⟩ Hx11 fun v13 Hx14 =>
asI .i64 v13 fun t15 =>
hcall PR f_hand_Pick ⟨[(.int .i64 vals2), (.int .i64 8)]⟩ Hx14 fun v16 Hx17 =>
asI .i64 v16 fun t18 =>
hcall PR f_heap_Heap_Make ⟨[(.pointer t8), (.int .i64 t15), (.int .i64 t18)]⟩ Hx17 fun v19 Hx20 =>
tup2 v19 fun v21 v22 =>
asI .u64 v21 fun t23 =>
asI .i64 v22 fun t24 =>
(bif ((t24 : Int) != 0) then
K (.bool false) Hx20
else
∃ (I25 : Int → Hp → Prop) (m26 : Int → Hp → Nat), I25 0 Hx20 ∧ ∀ i28 : Int, ∀ Hx27 : Hp, I25 i28 Hx27 →
(bif (decide ((i28 : Int) < t18)) then
hcall PR f_heap_Heap_SetVal ⟨[(.pointer t8), (.int .u64 t23), (.int .i64 i28), (.int .u64 (IntKind.u64.wrap (v3 + (IntKind.u64.wrap i28))))]⟩ Hx27 fun v29 Hx30 =>
asI .i64 v29 fun t31 =>
I25 (IntKind.i64.wrap (i28 + 1)) Hx30 ∧ m26 (IntKind.i64.wrap (i28 + 1)) Hx30 < m26 i28 Hx27
else
hcall PR f_heap_Heap_Object ⟨[(.pointer t8), (.int .u64 t23)]⟩ Hx27 fun v32 Hx33 =>
tup2 v32 fun v34 v35 =>
asAgg' v34 fun cs36 =>
unCons cs36.toList fun v37 r38 =>
unCons r38 fun v39 r40 =>
unCons r40 fun v41 r42 =>
unCons r42 fun v43 r44 =>
unCons r44 fun v45 r46 =>
unNil r46 <|
asI .u64 v37 fun Serial47 =>
asI .i64 v39 fun Cell48 =>
asSl v41 fun RefsP49 RefsL50 RefsC51 =>
asSl v43 fun ValsP52 ValsL53 ValsC54 =>
asI .i64 v45 fun In55 =>
asB v35 fun t56 =>
newB (.cells #[(.int .u64 0), (.int .i64 0), (.slice none 0 0), (.slice none 0 0), (.int .i64 0)] ty_api_Object) Hx33 fun b57 Hx58 =>
st ⟨b57, 0, none⟩ (.int .u64 Serial47) Hx58 fun Hx59 =>
st ⟨b57, 1, none⟩ (.int .i64 Cell48) Hx59 fun Hx60 =>
st ⟨b57, 2, none⟩ (.slice RefsP49 RefsL50 RefsC51) Hx60 fun Hx61 =>
st ⟨b57, 3, none⟩ (.slice ValsP52 ValsL53 ValsC54) Hx61 fun Hx62 =>
st ⟨b57, 4, none⟩ (.int .i64 In55) Hx62 fun Hx63 =>
∃ (I64 : Int → Hp → Prop) (m65 : Int → Hp → Nat), I64 0 Hx63 ∧ ∀ i67 : Int, ∀ Hx66 : Hp, I64 i67 Hx66 →
ldSl ⟨b57, 2, none⟩ Hx66 fun RefsP68 RefsL69 RefsC70 =>
(bif (decide ((i67 : Int) < (RefsL69 : Int))) then
ldSl ⟨b57, 2, none⟩ Hx66 fun RefsP71 RefsL72 RefsC73 =>
idxA RefsP71 RefsL72 i67 2 fun el74 =>
st el74 (.int .i64 9) Hx66 fun Hx75 =>
st (el74.add 1) (.int .u64 9) Hx75 fun Hx76 =>
I64 (IntKind.i64.wrap (i67 + 1)) Hx76 ∧ m65 (IntKind.i64.wrap (i67 + 1)) Hx76 < m65 i67 Hx66
else
∃ (I77 : Int → Hp → Prop) (m78 : Int → Hp → Nat), I77 0 Hx66 ∧ ∀ i80 : Int, ∀ Hx79 : Hp, I77 i80 Hx79 →
ldSl ⟨b57, 3, none⟩ Hx79 fun ValsP81 ValsL82 ValsC83 =>
(bif (decide ((i80 : Int) < (ValsL82 : Int))) then
ldSl ⟨b57, 3, none⟩ Hx79 fun ValsP84 ValsL85 ValsC86 =>
idxA ValsP84 ValsL85 i80 1 fun el87 =>
st el87 (.int .u64 7) Hx79 fun Hx88 =>
I77 (IntKind.i64.wrap (i80 + 1)) Hx88 ∧ m78 (IntKind.i64.wrap (i80 + 1)) Hx88 < m78 i80 Hx79
else
hcall PR f_heap_Heap_Object ⟨[(.pointer t8), (.int .u64 t23)]⟩ Hx79 fun v89 Hx90 =>
tup2 v89 fun v91 v92 =>
asAgg' v91 fun cs93 =>
unCons cs93.toList fun v94 r95 =>
unCons r95 fun v96 r97 =>
unCons r97 fun v98 r99 =>
unCons r99 fun v100 r101 =>
unCons r101 fun v102 r103 =>
unNil r103 <|
asI .u64 v94 fun Serial104 =>
asI .i64 v96 fun Cell105 =>
asSl v98 fun RefsP106 RefsL107 RefsC108 =>
asSl v100 fun ValsP109 ValsL110 ValsC111 =>
asI .i64 v102 fun In112 =>
asB v92 fun t113 =>
newB (.cells #[(.int .u64 0), (.int .i64 0), (.slice none 0 0), (.slice none 0 0), (.int .i64 0)] ty_api_Object) Hx90 fun b114 Hx115 =>
st ⟨b114, 0, none⟩ (.int .u64 Serial104) Hx115 fun Hx116 =>
st ⟨b114, 1, none⟩ (.int .i64 Cell105) Hx116 fun Hx117 =>
st ⟨b114, 2, none⟩ (.slice RefsP106 RefsL107 RefsC108) Hx117 fun Hx118 =>
st ⟨b114, 3, none⟩ (.slice ValsP109 ValsL110 ValsC111) Hx118 fun Hx119 =>
st ⟨b114, 4, none⟩ (.int .i64 In112) Hx119 fun Hx120 =>
(bif (!t113) then
K (.bool false) Hx120
else
ldSl ⟨b114, 2, none⟩ Hx120 fun RefsP121 RefsL122 RefsC123 =>
(bif (((RefsL122 : Int) : Int) != t15) then
K (.bool false) Hx120
else
ldSl ⟨b114, 3, none⟩ Hx120 fun ValsP124 ValsL125 ValsC126 =>
(bif (((ValsL125 : Int) : Int) != t18) then
K (.bool false) Hx120
else
∃ (I127 : Int → Hp → Prop) (m128 : Int → Hp → Nat), I127 0 Hx120 ∧ ∀ i130 : Int, ∀ Hx129 : Hp, I127 i130 Hx129 →
(bif (decide ((i130 : Int) < t15)) then
ldSl ⟨b114, 2, none⟩ Hx129 fun RefsP131 RefsL132 RefsC133 =>
idxA RefsP131 RefsL132 i130 2 fun el134 =>
ldI .i64 el134 Hx129 fun Node135 =>
ldI .u64 (el134.add 1) Hx129 fun Serial136 =>
evR PR (aggEq .neq ty_api_ID #[(.int .i64 Node135), (.int .u64 Serial136)] #[(.int .i64 0), (.int .u64 0)]) Hx129 fun v137 =>
asB v137 fun eq138 =>
(bif eq138 then
K (.bool false) Hx129
else
I127 (IntKind.i64.wrap (i130 + 1)) Hx129 ∧ m128 (IntKind.i64.wrap (i130 + 1)) Hx129 < m128 i130 Hx129)
else
∃ (I139 : Int → Hp → Prop) (m140 : Int → Hp → Nat), I139 0 Hx129 ∧ ∀ i142 : Int, ∀ Hx141 : Hp, I139 i142 Hx141 →
(bif (decide ((i142 : Int) < t18)) then
ldSl ⟨b114, 3, none⟩ Hx141 fun ValsP143 ValsL144 ValsC145 =>
idxA ValsP143 ValsL144 i142 1 fun el146 =>
ldI .u64 el146 Hx141 fun t147 =>
(bif ((t147 : Int) != (IntKind.u64.wrap (v3 + (IntKind.u64.wrap i142)))) then
K (.bool false) Hx141
else
I139 (IntKind.i64.wrap (i142 + 1)) Hx141 ∧ m140 (IntKind.i64.wrap (i142 + 1)) Hx141 < m140 i142 Hx141)
else
K (.bool true) Hx141))))))))))))
theorem E_law8_HeapOwn (refs1 : Int) (vals2 : Int) (v3 : Int) (H : Hp) (K : Value → Hp → Prop) : B_law8_HeapOwn refs1 vals2 v3 H K = denF Try.prog Try.f4 (.seq none .n (.seq none .n (.seq none .n (.seq none .n (.seq none .n (.seq none .n (.seq none .n (.seq none (.seq none .n (.sub (.loop ⟨[(11, .int .i64)], [0, 1, 2, 7, 9]⟩ .n))) (.seq none .n (.seq none (.seq none .n (.sub (.loop ⟨[(14, .int .i64)], [0, 1, 2, 7, 9, 12]⟩ .n))) (.seq none (.seq none .n (.sub (.loop ⟨[(15, .int .i64)], [0, 1, 2, 7, 9, 12]⟩ .n))) (.seq none .n (.seq none .n (.seq none (.seq none .n (.sub (.loop ⟨[(18, .int .i64)], [0, 1, 2, 16]⟩ .n))) (.seq none (.seq none .n (.sub (.loop ⟨[(19, .int .i64)], [1, 2, 16]⟩ .n))) .n))))))))))))))) [(.int .i64 refs1), (.int .i64 vals2), (.int .u64 v3)] H K := by kernel_rfl
theorem den_law8_HeapOwn {refs1 : Int} {vals2 : Int} {v3 : Int} {H : Hp} {K : Value → Hp → Prop} (h : B_law8_HeapOwn refs1 vals2 v3 H K) : hcall PR f_law8_HeapOwn ⟨[(.int .i64 refs1), (.int .i64 vals2), (.int .u64 v3)]⟩ H K := denF_call Try.func4 PR_mixed (Eq.mp (E_law8_HeapOwn refs1 vals2 v3 H K) h)

end Go.Proofs.Ytohlnmenghbgbaa
