/- Merged by merge.py: DenLaw8, DenLaw8HeapEnds, DenLaw8HeapKnown, DenLaw8HeapOnce, DenLaw8HeapOwn, Law8k, Law8. No condition. -/
import Derived.Test.YtohlnmenghbgbaaZNum
import Derived.Test.YtohlnmenghbgbaaZHeap

/- PRINTED by gen.py: functions as plain propositions, held against the program by the kernel. No condition. -/
namespace Go.Proofs.Ytohlnmenghbgbaa
open Go
set_option linter.unusedVariables false
set_option maxRecDepth 100000

def B_law8_known  (H : Hp) (K : Value → Hp → Prop) : Prop :=
 hcall PR f_heap_New ⟨[(.int .i64 1), (.int .i64 16), (.int .i64 2), (.int .u64 5)]⟩ H fun v1 Hx2 =>
 tup2 v1 fun v3 v4 =>
 asP v3 fun t5 =>
 asI .i64 v4 fun t6 =>
 (bif ((t6 : Int) != 0) then
 K (.bool false) Hx2
else
 (bif (Option.isNone (α := Addr) t5) then
 K (.bool false) Hx2
else
 hcall PR f_heap_Heap_Make ⟨[(.pointer t5), (.int .i64 1), (.int .i64 1)]⟩ Hx2 fun v7 Hx8 =>
 tup2 v7 fun v9 v10 =>
 asI .u64 v9 fun t11 =>
 asI .i64 v10 fun t12 =>
 hcall PR f_heap_Heap_Ref ⟨[(.pointer t5), (.int .u64 6), (.int .i64 0)]⟩ Hx8 fun v13 Hx14 =>
 tup2 v13 fun v15 v16 =>
 agg2 v15 fun v17 v18 =>
 asI .i64 v17 fun Node19 =>
 asI .u64 v18 fun Serial20 =>
 asI .i64 v16 fun t21 =>
 newB (.cells #[(.int .i64 0), (.int .u64 0)] ty_api_ID) Hx14 fun b22 Hx23 =>
 st ⟨b22, 0, none⟩ (.int .i64 Node19) Hx23 fun Hx24 =>
 st ⟨b22, 1, none⟩ (.int .u64 Serial20) Hx24 fun Hx25 =>
 hcall PR f_heap_Heap_SetRef ⟨[(.pointer t5), (.int .u64 6), (.int .i64 0), (.agg #[(.int .i64 2), (.int .u64 9)])]⟩ Hx25 fun v26 Hx27 =>
 tup2 v26 fun v28 v29 =>
 agg2 v28 fun v30 v31 =>
 asI .i64 v30 fun Node32 =>
 asI .u64 v31 fun Serial33 =>
 asI .i64 v29 fun t34 =>
 newB (.cells #[(.int .i64 0), (.int .u64 0)] ty_api_ID) Hx27 fun b35 Hx36 =>
 st ⟨b35, 0, none⟩ (.int .i64 Node32) Hx36 fun Hx37 =>
 st ⟨b35, 1, none⟩ (.int .u64 Serial33) Hx37 fun Hx38 =>
 hcall PR f_heap_Heap_Ref ⟨[(.pointer t5), (.int .u64 6), (.int .i64 0)]⟩ Hx38 fun v39 Hx40 =>
 tup2 v39 fun v41 v42 =>
 agg2 v41 fun v43 v44 =>
 asI .i64 v43 fun Node45 =>
 asI .u64 v44 fun Serial46 =>
 asI .i64 v42 fun t47 =>
 newB (.cells #[(.int .i64 0), (.int .u64 0)] ty_api_ID) Hx40 fun b48 Hx49 =>
 st ⟨b48, 0, none⟩ (.int .i64 Node45) Hx49 fun Hx50 =>
 st ⟨b48, 1, none⟩ (.int .u64 Serial46) Hx50 fun Hx51 =>
 (bif ((t11 : Int) == 6) then
 (bif ((t12 : Int) == 0) then
 ldI .i64 ⟨b22, 0, none⟩ Hx51 fun Node52 =>
 ldI .u64 ⟨b22, 1, none⟩ Hx51 fun Serial53 =>
 evR PR (aggEq .eql ty_api_ID #[(.int .i64 Node52), (.int .u64 Serial53)] #[(.int .i64 0), (.int .u64 0)]) Hx51 fun v54 =>
 asB v54 fun eq55 =>
 (bif eq55 then
 (bif ((t21 : Int) == 0) then
 (bif ((t34 : Int) == 0) then
 ldI .i64 ⟨b48, 0, none⟩ Hx51 fun Node56 =>
 ldI .u64 ⟨b48, 1, none⟩ Hx51 fun Serial57 =>
 evR PR (aggEq .eql ty_api_ID #[(.int .i64 Node56), (.int .u64 Serial57)] #[(.int .i64 2), (.int .u64 9)]) Hx51 fun v58 =>
 asB v58 fun eq59 =>
 K (.bool eq59) Hx51
else
 K (.bool false) Hx51)
else
 K (.bool false) Hx51)
else
 K (.bool false) Hx51)
else
 K (.bool false) Hx51)
else
 K (.bool false) Hx51)))
theorem E_law8_known  (H : Hp) (K : Value → Hp → Prop) : B_law8_known  H K = denF Try.prog Try.f27 .n [] H K := by kernel_rfl
theorem den_law8_known  {H : Hp} {K : Value → Hp → Prop} (h : B_law8_known  H K) : hcall PR f_law8_known ⟨[]⟩ H K := denF_call Try.func27 PR_mixed (Eq.mp (E_law8_known  H K) h)

def B_law8_fill (h1 : Option Addr) (r2 : Option Addr) (xWhat3 : Int) (xA4 : Int) (xB5 : Int) (xSerial6 : Int) (xV7 : Int) (xNode8 : Int) (xSerial9 : Int) (xNear10 : Bool) (H : Hp) (K : Value → Hp → Prop) : Prop :=
 newB (.cells #[(.int .i64 xWhat3), (.int .i64 xA4), (.int .i64 xB5), (.int .u64 xSerial6), (.int .u64 xV7), (.int .i64 xNode8), (.int .u64 xSerial9), (.bool xNear10)] ty_law8_Step) H fun b11 Hx12 =>
 ldI .u64 ⟨b11, 3, none⟩ Hx12 fun Serial13 =>
 ∀ R14 : Int → Hp → Prop, (∀ s16 : Int, ∀ Hx15 : Hp, (
 ldI .i64 ⟨b11, 0, none⟩ Hx15 fun What17 =>
 hcall PR f_hand_Pick ⟨[(.int .i64 What17), (.int .i64 9)]⟩ Hx15 fun v18 Hx19 =>
 asI .i64 v18 fun t20 =>
 (bif ((t20 : Int) == 2) then
 ldI .i64 ⟨b11, 1, none⟩ Hx19 fun A21 =>
 ldI .i64 ⟨b11, 5, none⟩ Hx19 fun Node22 =>
 ldI .u64 ⟨b11, 6, none⟩ Hx19 fun Serial23 =>
 hcall PR f_heap_Heap_SetRef ⟨[(.pointer h1), (.int .u64 s16), (.int .i64 A21), (.agg #[(.int .i64 Node22), (.int .u64 Serial23)])]⟩ Hx19 fun v24 Hx25 =>
 tup2 v24 fun v26 v27 =>
 agg2 v26 fun v28 v29 =>
 asI .i64 v28 fun Node30 =>
 asI .u64 v29 fun Serial31 =>
 asI .i64 v27 fun t32 =>
 newB (.cells #[(.int .i64 0), (.int .u64 0)] ty_api_ID) Hx25 fun b33 Hx34 =>
 st ⟨b33, 0, none⟩ (.int .i64 Node30) Hx34 fun Hx35 =>
 st ⟨b33, 1, none⟩ (.int .u64 Serial31) Hx35 fun Hx36 =>
 ldI .i64 ⟨b11, 1, none⟩ Hx36 fun A37 =>
 ldI .i64 ⟨b11, 5, none⟩ Hx36 fun Node38 =>
 ldI .u64 ⟨b11, 6, none⟩ Hx36 fun Serial39 =>
 hcall PR f_ref8_Heap_SetRef ⟨[(.pointer r2), (.int .u64 s16), (.int .i64 A37), (.agg #[(.int .i64 Node38), (.int .u64 Serial39)])]⟩ Hx36 fun v40 Hx41 =>
 tup2 v40 fun v42 v43 =>
 agg2 v42 fun v44 v45 =>
 asI .i64 v44 fun Node46 =>
 asI .u64 v45 fun Serial47 =>
 asI .i64 v43 fun t48 =>
 newB (.cells #[(.int .i64 0), (.int .u64 0)] ty_api_ID) Hx41 fun b49 Hx50 =>
 st ⟨b49, 0, none⟩ (.int .i64 Node46) Hx50 fun Hx51 =>
 st ⟨b49, 1, none⟩ (.int .u64 Serial47) Hx51 fun Hx52 =>
 ldI .i64 ⟨b33, 0, none⟩ Hx52 fun Node53 =>
 ldI .u64 ⟨b33, 1, none⟩ Hx52 fun Serial54 =>
 ldI .i64 ⟨b49, 0, none⟩ Hx52 fun Node55 =>
 ldI .u64 ⟨b49, 1, none⟩ Hx52 fun Serial56 =>
 evR PR (aggEq .eql ty_api_ID #[(.int .i64 Node53), (.int .u64 Serial54)] #[(.int .i64 Node55), (.int .u64 Serial56)]) Hx52 fun v57 =>
 asB v57 fun eq58 =>
 (bif eq58 then
 K (.bool ((t32 : Int) == t48)) Hx52
else
 K (.bool false) Hx52)
else
 (bif ((t20 : Int) == 3) then
 ldI .i64 ⟨b11, 1, none⟩ Hx19 fun A59 =>
 ldI .u64 ⟨b11, 4, none⟩ Hx19 fun V60 =>
 ldI .i64 ⟨b11, 1, none⟩ Hx19 fun A61 =>
 ldI .u64 ⟨b11, 4, none⟩ Hx19 fun V62 =>
 hcall PR f_heap_Heap_SetVal ⟨[(.pointer h1), (.int .u64 s16), (.int .i64 A59), (.int .u64 V60)]⟩ Hx19 fun v63 Hx64 =>
 asI .i64 v63 fun t65 =>
 (ldI .u64 ⟨b11, 4, none⟩ Hx64 fun V66 =>
 ((.int .u64 V66) : Value) = (.int .u64 V62)) ∧
 (ldI .i64 ⟨b11, 1, none⟩ Hx64 fun A67 =>
 ((.int .i64 A67) : Value) = (.int .i64 A61)) ∧
 hcall PR f_ref8_Heap_SetVal ⟨[(.pointer r2), (.int .u64 s16), (.int .i64 A61), (.int .u64 V62)]⟩ Hx64 fun v68 Hx69 =>
 asI .i64 v68 fun t70 =>
 K (.bool ((t65 : Int) == t70)) Hx69
else
 (bif ((t20 : Int) == 4) then
 ldI .i64 ⟨b11, 1, none⟩ Hx19 fun A71 =>
 ldI .i64 ⟨b11, 1, none⟩ Hx19 fun A72 =>
 hcall PR f_heap_Heap_SetIn ⟨[(.pointer h1), (.int .u64 s16), (.int .i64 A71)]⟩ Hx19 fun v73 Hx74 =>
 asI .i64 v73 fun t75 =>
 (ldI .i64 ⟨b11, 1, none⟩ Hx74 fun A76 =>
 ((.int .i64 A76) : Value) = (.int .i64 A72)) ∧
 hcall PR f_ref8_Heap_SetIn ⟨[(.pointer r2), (.int .u64 s16), (.int .i64 A72)]⟩ Hx74 fun v77 Hx78 =>
 asI .i64 v77 fun t79 =>
 K (.bool ((t75 : Int) == t79)) Hx78
else
 (bif ((t20 : Int) == 5) then
 hcall PR f_heap_Heap_Free ⟨[(.pointer h1), (.int .u64 s16)]⟩ Hx19 fun v80 Hx81 =>
 asI .i64 v80 fun t82 =>
 hcall PR f_ref8_Heap_Free ⟨[(.pointer r2), (.int .u64 s16)]⟩ Hx81 fun v83 Hx84 =>
 asI .i64 v83 fun t85 =>
 K (.bool ((t82 : Int) == t85)) Hx84
else
 (bif ((t20 : Int) == 6) then
 ldI .i64 ⟨b11, 1, none⟩ Hx19 fun A86 =>
 hcall PR f_heap_Heap_Ref ⟨[(.pointer h1), (.int .u64 s16), (.int .i64 A86)]⟩ Hx19 fun v87 Hx88 =>
 tup2 v87 fun v89 v90 =>
 agg2 v89 fun v91 v92 =>
 asI .i64 v91 fun Node93 =>
 asI .u64 v92 fun Serial94 =>
 asI .i64 v90 fun t95 =>
 newB (.cells #[(.int .i64 0), (.int .u64 0)] ty_api_ID) Hx88 fun b96 Hx97 =>
 st ⟨b96, 0, none⟩ (.int .i64 Node93) Hx97 fun Hx98 =>
 st ⟨b96, 1, none⟩ (.int .u64 Serial94) Hx98 fun Hx99 =>
 ldI .i64 ⟨b11, 1, none⟩ Hx99 fun A100 =>
 hcall PR f_ref8_Heap_Ref ⟨[(.pointer r2), (.int .u64 s16), (.int .i64 A100)]⟩ Hx99 fun v101 Hx102 =>
 tup2 v101 fun v103 v104 =>
 agg2 v103 fun v105 v106 =>
 asI .i64 v105 fun Node107 =>
 asI .u64 v106 fun Serial108 =>
 asI .i64 v104 fun t109 =>
 newB (.cells #[(.int .i64 0), (.int .u64 0)] ty_api_ID) Hx102 fun b110 Hx111 =>
 st ⟨b110, 0, none⟩ (.int .i64 Node107) Hx111 fun Hx112 =>
 st ⟨b110, 1, none⟩ (.int .u64 Serial108) Hx112 fun Hx113 =>
 ldI .i64 ⟨b96, 0, none⟩ Hx113 fun Node114 =>
 ldI .u64 ⟨b96, 1, none⟩ Hx113 fun Serial115 =>
 ldI .i64 ⟨b110, 0, none⟩ Hx113 fun Node116 =>
 ldI .u64 ⟨b110, 1, none⟩ Hx113 fun Serial117 =>
 evR PR (aggEq .eql ty_api_ID #[(.int .i64 Node114), (.int .u64 Serial115)] #[(.int .i64 Node116), (.int .u64 Serial117)]) Hx113 fun v118 =>
 asB v118 fun eq119 =>
 (bif eq119 then
 K (.bool ((t95 : Int) == t109)) Hx113
else
 K (.bool false) Hx113)
else
 (bif ((t20 : Int) == 7) then
 ldI .i64 ⟨b11, 1, none⟩ Hx19 fun A120 =>
 hcall PR f_heap_Heap_Val ⟨[(.pointer h1), (.int .u64 s16), (.int .i64 A120)]⟩ Hx19 fun v121 Hx122 =>
 tup2 v121 fun v123 v124 =>
 asI .u64 v123 fun t125 =>
 asI .i64 v124 fun t126 =>
 ldI .i64 ⟨b11, 1, none⟩ Hx122 fun A127 =>
 hcall PR f_ref8_Heap_Val ⟨[(.pointer r2), (.int .u64 s16), (.int .i64 A127)]⟩ Hx122 fun v128 Hx129 =>
 tup2 v128 fun v130 v131 =>
 asI .u64 v130 fun t132 =>
 asI .i64 v131 fun t133 =>
 (bif ((t125 : Int) == t132) then
 K (.bool ((t126 : Int) == t133)) Hx129
else
 K (.bool false) Hx129)
else
 (bif ((t20 : Int) == 8) then
 hcall PR f_heap_Heap_Next ⟨[(.pointer h1), (.int .u64 s16)]⟩ Hx19 fun v134 Hx135 =>
 tup2 v134 fun v136 v137 =>
 asI .u64 v136 fun t138 =>
 asB v137 fun t139 =>
 hcall PR f_ref8_Heap_Next ⟨[(.pointer r2), (.int .u64 s16)]⟩ Hx135 fun v140 Hx141 =>
 tup2 v140 fun v142 v143 =>
 asI .u64 v142 fun t144 =>
 asB v143 fun t145 =>
 (bif ((t138 : Int) == t144) then
 K (.bool (t139 == t145)) Hx141
else
 K (.bool false) Hx141)
else
 ldI .i64 ⟨b11, 1, none⟩ Hx19 fun A146 =>
 ldI .i64 ⟨b11, 2, none⟩ Hx19 fun B147 =>
 hcall PR f_heap_Heap_Make ⟨[(.pointer h1), (.int .i64 A146), (.int .i64 B147)]⟩ Hx19 fun v148 Hx149 =>
 tup2 v148 fun v150 v151 =>
 asI .u64 v150 fun t152 =>
 asI .i64 v151 fun t153 =>
 ldI .i64 ⟨b11, 1, none⟩ Hx149 fun A154 =>
 ldI .i64 ⟨b11, 2, none⟩ Hx149 fun B155 =>
 hcall PR f_ref8_Heap_Make ⟨[(.pointer r2), (.int .i64 A154), (.int .i64 B155)]⟩ Hx149 fun v156 Hx157 =>
 tup2 v156 fun v158 v159 =>
 asI .u64 v158 fun t160 =>
 asI .i64 v159 fun t161 =>
 (bif ((t152 : Int) == t160) then
 K (.bool ((t153 : Int) == t161)) Hx157
else
 K (.bool false) Hx157))))))))) → R14 s16 Hx15) →
 ldB ⟨b11, 7, none⟩ Hx12 fun Near162 =>
 (bif Near162 then
 ldI .i64 ⟨b11, 1, none⟩ Hx12 fun A163 =>
 hcall PR f_hand_Pick ⟨[(.int .i64 A163), (.int .i64 9)]⟩ Hx12 fun v164 Hx165 =>
 asI .i64 v164 fun t166 =>
 st ⟨b11, 1, none⟩ (.int .i64 (IntKind.i64.wrap (t166 - 1))) Hx165 fun Hx167 =>
 ldI .i64 ⟨b11, 2, none⟩ Hx167 fun B168 =>
 hcall PR f_hand_Pick ⟨[(.int .i64 B168), (.int .i64 9)]⟩ Hx167 fun v169 Hx170 =>
 asI .i64 v169 fun t171 =>
 st ⟨b11, 2, none⟩ (.int .i64 (IntKind.i64.wrap (t171 - 1))) Hx170 fun Hx172 =>
 nilP r2 fun ra173 =>
 ldI .u64 (ra173.add 2) Hx172 fun Last174 =>
 (5 : Int) ≠ 0 ∧
 R14 (IntKind.u64.wrap (Last174 - (Int.tmod Serial13 5))) Hx172
else
 R14 Serial13 Hx12)
theorem E_law8_fill (h1 : Option Addr) (r2 : Option Addr) (xWhat3 : Int) (xA4 : Int) (xB5 : Int) (xSerial6 : Int) (xV7 : Int) (xNode8 : Int) (xSerial9 : Int) (xNear10 : Bool) (H : Hp) (K : Value → Hp → Prop) : B_law8_fill h1 r2 xWhat3 xA4 xB5 xSerial6 xV7 xNode8 xSerial9 xNear10 H K = denF Try.prog Try.f41 (.seq none .n (.seq none .n (.seq (some ⟨[(7, .int .u64)], [0, 1, 5]⟩) .n .n))) [(.pointer h1), (.pointer r2), (.agg #[(.int .i64 xWhat3), (.int .i64 xA4), (.int .i64 xB5), (.int .u64 xSerial6), (.int .u64 xV7), (.int .i64 xNode8), (.int .u64 xSerial9), (.bool xNear10)])] H K := by kernel_rfl
theorem den_law8_fill {h1 : Option Addr} {r2 : Option Addr} {xWhat3 : Int} {xA4 : Int} {xB5 : Int} {xSerial6 : Int} {xV7 : Int} {xNode8 : Int} {xSerial9 : Int} {xNear10 : Bool} {H : Hp} {K : Value → Hp → Prop} (h : B_law8_fill h1 r2 xWhat3 xA4 xB5 xSerial6 xV7 xNode8 xSerial9 xNear10 H K) : hcall PR f_law8_fill ⟨[(.pointer h1), (.pointer r2), (.agg #[(.int .i64 xWhat3), (.int .i64 xA4), (.int .i64 xB5), (.int .u64 xSerial6), (.int .u64 xV7), (.int .i64 xNode8), (.int .u64 xSerial9), (.bool xNear10)])]⟩ H K := denF_call Try.func41 PR_mixed (Eq.mp (E_law8_fill h1 r2 xWhat3 xA4 xB5 xSerial6 xV7 xNode8 xSerial9 xNear10 H K) h)

def B_law8_whole (h1 : Option Addr) (r2 : Option Addr) (H : Hp) (K : Value → Hp → Prop) : Prop :=
 ∃ (I3 : Int → Int → Hp → Prop) (m4 : Int → Int → Hp → Nat), I3 0 0 H ∧ ∀ atx6 : Int, ∀ i7 : Int, ∀ Hx5 : Hp, I3 atx6 i7 Hx5 →
 nilP r2 fun ra8 =>
 ldSl (ra8.add 4) Hx5 fun LP9 LL10 LC11 =>
 (bif (decide ((i7 : Int) < (LL10 : Int))) then
 hcall PR f_heap_Heap_Next ⟨[(.pointer h1), (.int .u64 atx6)]⟩ Hx5 fun v12 Hx13 =>
 tup2 v12 fun v14 v15 =>
 asI .u64 v14 fun t16 =>
 asB v15 fun t17 =>
 (bif (!t17) then
 K (.bool false) Hx13
else
 nilP r2 fun ra18 =>
 ldSl (ra18.add 4) Hx13 fun LP19 LL20 LC21 =>
 idxA LP19 LL20 i7 1 fun el22 =>
 ldP el22 Hx13 fun t23 =>
 nilP t23 fun ta24 =>
 ldI .u64 ta24 Hx13 fun Serial25 =>
 (bif ((t16 : Int) != Serial25) then
 K (.bool false) Hx13
else
 hcall PR f_heap_Heap_Object ⟨[(.pointer h1), (.int .u64 t16)]⟩ Hx13 fun v26 Hx27 =>
 tup2 v26 fun v28 v29 =>
 asAgg' v28 fun cs30 =>
 unCons cs30.toList fun v31 r32 =>
 unCons r32 fun v33 r34 =>
 unCons r34 fun v35 r36 =>
 unCons r36 fun v37 r38 =>
 unCons r38 fun v39 r40 =>
 unNil r40 <|
 asI .u64 v31 fun Serial41 =>
 asI .i64 v33 fun Cell42 =>
 asSl v35 fun RefsP43 RefsL44 RefsC45 =>
 asSl v37 fun ValsP46 ValsL47 ValsC48 =>
 asI .i64 v39 fun In49 =>
 asB v29 fun t50 =>
 newB (.cells #[(.int .u64 0), (.int .i64 0), (.slice none 0 0), (.slice none 0 0), (.int .i64 0)] ty_api_Object) Hx27 fun b51 Hx52 =>
 st ⟨b51, 0, none⟩ (.int .u64 Serial41) Hx52 fun Hx53 =>
 st ⟨b51, 1, none⟩ (.int .i64 Cell42) Hx53 fun Hx54 =>
 st ⟨b51, 2, none⟩ (.slice RefsP43 RefsL44 RefsC45) Hx54 fun Hx55 =>
 st ⟨b51, 3, none⟩ (.slice ValsP46 ValsL47 ValsC48) Hx55 fun Hx56 =>
 st ⟨b51, 4, none⟩ (.int .i64 In49) Hx56 fun Hx57 =>
 (bif (!t50) then
 K (.bool false) Hx57
else
 ldI .u64 ⟨b51, 0, none⟩ Hx57 fun Serial58 =>
 ldI .i64 ⟨b51, 1, none⟩ Hx57 fun Cell59 =>
 ldSl ⟨b51, 2, none⟩ Hx57 fun RefsP60 RefsL61 RefsC62 =>
 ldSl ⟨b51, 3, none⟩ Hx57 fun ValsP63 ValsL64 ValsC65 =>
 ldI .i64 ⟨b51, 4, none⟩ Hx57 fun In66 =>
 nilP r2 fun ra67 =>
 ldSl (ra67.add 4) Hx57 fun LP68 LL69 LC70 =>
 idxA LP68 LL69 i7 1 fun el71 =>
 ldP el71 Hx57 fun t72 =>
 nilP t72 fun ta73 =>
 ldI .u64 ta73 Hx57 fun Serial74 =>
 ldI .i64 (ta73.add 1) Hx57 fun Cell75 =>
 ldSl (ta73.add 2) Hx57 fun RefsP76 RefsL77 RefsC78 =>
 ldSl (ta73.add 3) Hx57 fun ValsP79 ValsL80 ValsC81 =>
 ldI .i64 (ta73.add 4) Hx57 fun In82 =>
 hcall PR f_ref8_Same ⟨[(.agg #[(.int .u64 Serial58), (.int .i64 Cell59), (.slice RefsP60 RefsL61 RefsC62), (.slice ValsP63 ValsL64 ValsC65), (.int .i64 In66)]), (.agg #[(.int .u64 Serial74), (.int .i64 Cell75), (.slice RefsP76 RefsL77 RefsC78), (.slice ValsP79 ValsL80 ValsC81), (.int .i64 In82)])]⟩ Hx57 fun v83 Hx84 =>
 asB v83 fun t85 =>
 (bif (!t85) then
 K (.bool false) Hx84
else
 I3 t16 (IntKind.i64.wrap (i7 + 1)) Hx84 ∧ m4 t16 (IntKind.i64.wrap (i7 + 1)) Hx84 < m4 atx6 i7 Hx5))))
else
 hcall PR f_heap_Heap_Next ⟨[(.pointer h1), (.int .u64 atx6)]⟩ Hx5 fun v86 Hx87 =>
 tup2 v86 fun v88 v89 =>
 asI .u64 v88 fun t90 =>
 asB v89 fun t91 =>
 nilP r2 fun ra92 =>
 ldI .u64 (ra92.add 2) Hx87 fun Last93 =>
 hcall PR f_heap_Heap_Object ⟨[(.pointer h1), (.int .u64 (IntKind.u64.wrap (Last93 + 1)))]⟩ Hx87 fun v94 Hx95 =>
 tup2 v94 fun v96 v97 =>
 asAgg' v96 fun cs98 =>
 unCons cs98.toList fun v99 r100 =>
 unCons r100 fun v101 r102 =>
 unCons r102 fun v103 r104 =>
 unCons r104 fun v105 r106 =>
 unCons r106 fun v107 r108 =>
 unNil r108 <|
 asI .u64 v99 fun Serial109 =>
 asI .i64 v101 fun Cell110 =>
 asSl v103 fun RefsP111 RefsL112 RefsC113 =>
 asSl v105 fun ValsP114 ValsL115 ValsC116 =>
 asI .i64 v107 fun In117 =>
 asB v97 fun t118 =>
 newB (.cells #[(.int .u64 0), (.int .i64 0), (.slice none 0 0), (.slice none 0 0), (.int .i64 0)] ty_api_Object) Hx95 fun b119 Hx120 =>
 st ⟨b119, 0, none⟩ (.int .u64 Serial109) Hx120 fun Hx121 =>
 st ⟨b119, 1, none⟩ (.int .i64 Cell110) Hx121 fun Hx122 =>
 st ⟨b119, 2, none⟩ (.slice RefsP111 RefsL112 RefsC113) Hx122 fun Hx123 =>
 st ⟨b119, 3, none⟩ (.slice ValsP114 ValsL115 ValsC116) Hx123 fun Hx124 =>
 st ⟨b119, 4, none⟩ (.int .i64 In117) Hx124 fun Hx125 =>
 (bif (!t91) then
 (bif (!t118) then
 nilP r2 fun ra126 =>
 ldSl (ra126.add 4) Hx125 fun LP127 LL128 LC129 =>
 hcall PR f_heap_Heap_Len ⟨[(.pointer h1)]⟩ Hx125 fun v130 Hx131 =>
 asI .i64 v130 fun t132 =>
 (ldSl (ra126.add 4) Hx131 fun LP133 LL134 LC135 =>
 ((.slice LP133 LL134 LC135) : Value) = (.slice LP127 LL128 LC129)) ∧
 (bif ((t132 : Int) == (LL128 : Int)) then
 nilP r2 fun ra136 =>
 ldI .u64 (ra136.add 2) Hx131 fun Last137 =>
 hcall PR f_heap_Heap_Last ⟨[(.pointer h1)]⟩ Hx131 fun v138 Hx139 =>
 asI .u64 v138 fun t140 =>
 (ldI .u64 (ra136.add 2) Hx139 fun Last141 =>
 ((.int .u64 Last141) : Value) = (.int .u64 Last137)) ∧
 (bif ((t140 : Int) == Last137) then
 nilP r2 fun ra142 =>
 ldI .i64 ra142 Hx139 fun Node143 =>
 hcall PR f_heap_Heap_Node ⟨[(.pointer h1)]⟩ Hx139 fun v144 Hx145 =>
 asI .i64 v144 fun t146 =>
 (ldI .i64 ra142 Hx145 fun Node147 =>
 ((.int .i64 Node147) : Value) = (.int .i64 Node143)) ∧
 (bif ((t146 : Int) == Node143) then
 nilP r2 fun ra148 =>
 ldP (ra148.add 3) Hx145 fun Arena149 =>
 hcall PR f_heap_Heap_Used ⟨[(.pointer h1)]⟩ Hx145 fun v150 Hx151 =>
 asI .i64 v150 fun t152 =>
 (ldP (ra148.add 3) Hx151 fun Arena153 =>
 ((.pointer Arena153) : Value) = (.pointer Arena149)) ∧
 hcall PR f_ref7_Arena_Used ⟨[(.pointer Arena149)]⟩ Hx151 fun v154 Hx155 =>
 asI .i64 v154 fun t156 =>
 K (.bool ((t152 : Int) == t156)) Hx155
else
 K (.bool false) Hx145)
else
 K (.bool false) Hx139)
else
 K (.bool false) Hx131)
else
 K (.bool false) Hx125)
else
 K (.bool false) Hx125))
theorem E_law8_whole (h1 : Option Addr) (r2 : Option Addr) (H : Hp) (K : Value → Hp → Prop) : B_law8_whole h1 r2 H K = denF Try.prog Try.f42 (.seq none .n (.seq none .n (.seq none (.seq none .n (.sub (.loop ⟨[(5, .int .u64), (6, .int .i64)], [0, 1]⟩ .n))) .n))) [(.pointer h1), (.pointer r2)] H K := by kernel_rfl
theorem den_law8_whole {h1 : Option Addr} {r2 : Option Addr} {H : Hp} {K : Value → Hp → Prop} (h : B_law8_whole h1 r2 H K) : hcall PR f_law8_whole ⟨[(.pointer h1), (.pointer r2)]⟩ H K := denF_call Try.func42 PR_mixed (Eq.mp (E_law8_whole h1 r2 H K) h)

end Go.Proofs.Ytohlnmenghbgbaa

/- PRINTED by gen.py: functions as plain propositions, held against the program by the kernel. No condition. -/
namespace Go.Proofs.Ytohlnmenghbgbaa
open Go
set_option linter.unusedVariables false
set_option maxRecDepth 100000

def B_law8_HeapEnds (back1 : Int) (H : Hp) (K : Value → Hp → Prop) : Prop :=
 hcall PR f_hand_Pick ⟨[(.int .i64 back1), (.int .i64 6)]⟩ H fun v2 Hx3 =>
 asI .i64 v2 fun t4 =>
 hcall PR f_heap_New ⟨[(.int .i64 1), (.int .i64 256), (.int .i64 10), (.int .u64 (IntKind.u64.wrap (72057594037927935 - (IntKind.u64.wrap t4))))]⟩ Hx3 fun v5 Hx6 =>
 tup2 v5 fun v7 v8 =>
 asP v7 fun t9 =>
 asI .i64 v8 fun t10 =>
 hcall PR f_law8_known ⟨[]⟩ Hx6 fun v11 Hx12 =>
 asB v11 fun t13 =>
 (bif (!t13) then
 K (.bool false) Hx12
else
 (bif ((t10 : Int) != 0) then
 K (.bool false) Hx12
else
 (bif (Option.isNone (α := Addr) t9) then
 K (.bool false) Hx12
else
 ∃ (I14 : Int → Hp → Prop) (m15 : Int → Hp → Nat), I14 0 Hx12 ∧ ∀ i17 : Int, ∀ Hx16 : Hp, I14 i17 Hx16 →
 (bif (decide ((i17 : Int) < t4)) then
 hcall PR f_heap_Heap_Make ⟨[(.pointer t9), (.int .i64 1), (.int .i64 0)]⟩ Hx16 fun v18 Hx19 =>
 tup2 v18 fun v20 v21 =>
 asI .u64 v20 fun t22 =>
 asI .i64 v21 fun t23 =>
 (bif ((t23 : Int) != 0) then
 K (.bool false) Hx19
else
 I14 (IntKind.i64.wrap (i17 + 1)) Hx19 ∧ m15 (IntKind.i64.wrap (i17 + 1)) Hx19 < m15 i17 Hx16)
else
 hcall PR f_heap_Heap_Make ⟨[(.pointer t9), (.int .i64 1), (.int .i64 0)]⟩ Hx16 fun v24 Hx25 =>
 tup2 v24 fun v26 v27 =>
 asI .u64 v26 fun t28 =>
 asI .i64 v27 fun t29 =>
 hcall PR f_heap_Heap_Free ⟨[(.pointer t9), (.int .u64 72057594037927935)]⟩ Hx25 fun v30 Hx31 =>
 asI .i64 v30 fun t32 =>
 hcall PR f_heap_Heap_Make ⟨[(.pointer t9), (.int .i64 1), (.int .i64 0)]⟩ Hx31 fun v33 Hx34 =>
 tup2 v33 fun v35 v36 =>
 asI .u64 v35 fun t37 =>
 asI .i64 v36 fun t38 =>
 (bif ((t29 : Int) == 7) then
 (bif ((t38 : Int) == 7) then
 hcall PR f_heap_Heap_Last ⟨[(.pointer t9)]⟩ Hx34 fun v39 Hx40 =>
 asI .u64 v39 fun t41 =>
 K (.bool ((t41 : Int) == 72057594037927935)) Hx40
else
 K (.bool false) Hx34)
else
 K (.bool false) Hx34)))))
theorem E_law8_HeapEnds (back1 : Int) (H : Hp) (K : Value → Hp → Prop) : B_law8_HeapEnds back1 H K = denF Try.prog Try.f6 (.seq none .n (.seq none .n (.seq none .n (.seq none .n (.seq none (.seq none .n (.sub (.loop ⟨[(5, .int .i64)], [0, 3]⟩ .n))) .n))))) [(.int .i64 back1)] H K := by kernel_rfl
theorem den_law8_HeapEnds {back1 : Int} {H : Hp} {K : Value → Hp → Prop} (h : B_law8_HeapEnds back1 H K) : hcall PR f_law8_HeapEnds ⟨[(.int .i64 back1)]⟩ H K := denF_call Try.func6 PR_mixed (Eq.mp (E_law8_HeapEnds back1 H K) h)

end Go.Proofs.Ytohlnmenghbgbaa

/- PRINTED by gen.py: functions as plain propositions, held against the program by the kernel. No condition. -/
namespace Go.Proofs.Ytohlnmenghbgbaa
open Go
set_option linter.unusedVariables false
set_option maxRecDepth 100000

def B_law8_HeapKnown  (H : Hp) (K : Value → Hp → Prop) : Prop :=
 hcall PR f_heap_New ⟨[(.int .i64 0), (.int .i64 16), (.int .i64 1), (.int .u64 0)]⟩ H fun v1 Hx2 =>
 tup2 v1 fun v3 v4 =>
 asP v3 fun t5 =>
 asI .i64 v4 fun t6 =>
 hcall PR f_heap_New ⟨[(.int .i64 1), (.int .i64 17), (.int .i64 1), (.int .u64 0)]⟩ Hx2 fun v7 Hx8 =>
 tup2 v7 fun v9 v10 =>
 asP v9 fun t11 =>
 asI .i64 v10 fun t12 =>
 hcall PR f_heap_New ⟨[(.int .i64 1), (.int .i64 16), (.int .i64 65), (.int .u64 0)]⟩ Hx8 fun v13 Hx14 =>
 tup2 v13 fun v15 v16 =>
 asP v15 fun t17 =>
 asI .i64 v16 fun t18 =>
 hcall PR f_heap_New ⟨[(.int .i64 1), (.int .i64 16), (.int .i64 1), (.int .u64 72057594037927936)]⟩ Hx14 fun v19 Hx20 =>
 tup2 v19 fun v21 v22 =>
 asP v21 fun t23 =>
 asI .i64 v22 fun t24 =>
 hcall PR f_heap_New ⟨[(.int .i64 1), (.int .i64 16), (.int .i64 2), (.int .u64 5)]⟩ Hx20 fun v25 Hx26 =>
 tup2 v25 fun v27 v28 =>
 asP v27 fun t29 =>
 asI .i64 v28 fun t30 =>
 hcall PR f_heap_New ⟨[(.int .i64 1), (.int .i64 16), (.int .i64 1), (.int .u64 72057594037927935)]⟩ Hx26 fun v31 Hx32 =>
 tup2 v31 fun v33 v34 =>
 asP v33 fun t35 =>
 asI .i64 v34 fun t36 =>
 hcall PR f_law8_known ⟨[]⟩ Hx32 fun v37 Hx38 =>
 asB v37 fun t39 =>
 (bif (!t39) then
 K (.bool false) Hx38
else
 (bif ((t6 : Int) != 1) then
 K (.bool false) Hx38
else
 (bif ((t12 : Int) != 1) then
 K (.bool false) Hx38
else
 (bif ((t18 : Int) != 1) then
 K (.bool false) Hx38
else
 (bif ((t24 : Int) != 1) then
 K (.bool false) Hx38
else
 (bif ((t30 : Int) != 0) then
 K (.bool false) Hx38
else
 (bif ((t36 : Int) != 0) then
 K (.bool false) Hx38
else
 (bif (Option.isNone (α := Addr) t29) then
 K (.bool false) Hx38
else
 (bif (Option.isNone (α := Addr) t35) then
 K (.bool false) Hx38
else
 hcall PR f_heap_Heap_Make ⟨[(.pointer t35), (.int .i64 0), (.int .i64 0)]⟩ Hx38 fun v40 Hx41 =>
 tup2 v40 fun v42 v43 =>
 asI .u64 v42 fun t44 =>
 asI .i64 v43 fun t45 =>
 hcall PR f_heap_Heap_Make ⟨[(.pointer t29), (.int .i64 1), (.int .i64 1)]⟩ Hx41 fun v46 Hx47 =>
 tup2 v46 fun v48 v49 =>
 asI .u64 v48 fun t50 =>
 asI .i64 v49 fun t51 =>
 hcall PR f_heap_Heap_Make ⟨[(.pointer t29), (.int .i64 8), (.int .i64 0)]⟩ Hx47 fun v52 Hx53 =>
 tup2 v52 fun v54 v55 =>
 asI .u64 v54 fun t56 =>
 asI .i64 v55 fun t57 =>
 hcall PR f_heap_Heap_Make ⟨[(.pointer t29), (.int .i64 0), (.int .i64 0)]⟩ Hx53 fun v58 Hx59 =>
 tup2 v58 fun v60 v61 =>
 asI .u64 v60 fun t62 =>
 asI .i64 v61 fun t63 =>
 hcall PR f_heap_Heap_Ref ⟨[(.pointer t29), (.int .u64 6), (.int .i64 1)]⟩ Hx59 fun v64 Hx65 =>
 tup2 v64 fun v66 v67 =>
 agg2 v66 fun v68 v69 =>
 asI .i64 v68 fun Node70 =>
 asI .u64 v69 fun Serial71 =>
 asI .i64 v67 fun t72 =>
 newB (.cells #[(.int .i64 0), (.int .u64 0)] ty_api_ID) Hx65 fun b73 Hx74 =>
 st ⟨b73, 0, none⟩ (.int .i64 Node70) Hx74 fun Hx75 =>
 st ⟨b73, 1, none⟩ (.int .u64 Serial71) Hx75 fun Hx76 =>
 (bif ((t45 : Int) == 7) then
 (bif ((t57 : Int) == 1) then
 (bif ((t63 : Int) == 2) then
 (bif ((t72 : Int) == 5) then
 hcall PR f_heap_Heap_Len ⟨[(.pointer t29)]⟩ Hx76 fun v77 Hx78 =>
 asI .i64 v77 fun t79 =>
 (bif ((t79 : Int) == 1) then
 hcall PR f_heap_Heap_Last ⟨[(.pointer t29)]⟩ Hx78 fun v80 Hx81 =>
 asI .u64 v80 fun t82 =>
 (bif ((t82 : Int) == 6) then
 hcall PR f_heap_Heap_Node ⟨[(.pointer t29)]⟩ Hx81 fun v83 Hx84 =>
 asI .i64 v83 fun t85 =>
 (bif ((t85 : Int) == 1) then
 hcall PR f_heap_Heap_Used ⟨[(.pointer t29)]⟩ Hx84 fun v86 Hx87 =>
 asI .i64 v86 fun t88 =>
 K (.bool ((t88 : Int) == 4)) Hx87
else
 K (.bool false) Hx84)
else
 K (.bool false) Hx81)
else
 K (.bool false) Hx78)
else
 K (.bool false) Hx76)
else
 K (.bool false) Hx76)
else
 K (.bool false) Hx76)
else
 K (.bool false) Hx76))))))))))
theorem E_law8_HeapKnown  (H : Hp) (K : Value → Hp → Prop) : B_law8_HeapKnown  H K = denF Try.prog Try.f3 .n [] H K := by kernel_rfl
theorem den_law8_HeapKnown  {H : Hp} {K : Value → Hp → Prop} (h : B_law8_HeapKnown  H K) : hcall PR f_law8_HeapKnown ⟨[]⟩ H K := denF_call Try.func3 PR_mixed (Eq.mp (E_law8_HeapKnown  H K) h)

end Go.Proofs.Ytohlnmenghbgbaa

/- PRINTED by gen.py: functions as plain propositions, held against the program by the kernel. No condition. -/
namespace Go.Proofs.Ytohlnmenghbgbaa
open Go
set_option linter.unusedVariables false
set_option maxRecDepth 100000

def B_law8_HeapOnce (last1 : Int) (lP2 : Option Addr) (lL3 : Nat) (lC4 : Nat) (H : Hp) (K : Value → Hp → Prop) : Prop :=
 (72057594037927935 : Int) ≠ 0 ∧
 hcall PR f_heap_New ⟨[(.int .i64 1), (.int .i64 256), (.int .i64 8), (.int .u64 (Int.tmod last1 72057594037927935))]⟩ H fun v5 Hx6 =>
 tup2 v5 fun v7 v8 =>
 asP v7 fun t9 =>
 asI .i64 v8 fun t10 =>
 hcall PR f_law8_known ⟨[]⟩ Hx6 fun v11 Hx12 =>
 asB v11 fun t13 =>
 (bif (!t13) then
 K (.bool false) Hx12
else
 (bif ((t10 : Int) != 0) then
 K (.bool false) Hx12
else
 (bif (Option.isNone (α := Addr) t9) then
 K (.bool false) Hx12
else
 ∃ (I14 : Int → Int → Hp → Prop) (m15 : Int → Int → Hp → Nat), I14 (Int.tmod last1 72057594037927935) 0 Hx12 ∧ ∀ atx17 : Int, ∀ i18 : Int, ∀ Hx16 : Hp, I14 atx17 i18 Hx16 →
 (bif (decide ((i18 : Int) < (lL3 : Int))) then
 (bif (decide ((i18 : Int) < 300)) then
 ∀ R19 : Int → Hp → Prop, (∀ atx21 : Int, ∀ Hx20 : Hp, (
 hcall PR f_heap_Heap_Last ⟨[(.pointer t9)]⟩ Hx20 fun v22 Hx23 =>
 asI .u64 v22 fun t24 =>
 (bif ((t24 : Int) != atx21) then
 K (.bool false) Hx23
else
 I14 atx21 (IntKind.i64.wrap (i18 + 1)) Hx23 ∧ m15 atx21 (IntKind.i64.wrap (i18 + 1)) Hx23 < m15 atx17 i18 Hx16)) → R19 atx21 Hx20) →
 idxA lP2 lL3 i18 8 fun el25 =>
 ldI .i64 el25 Hx16 fun What26 =>
 (2 : Int) ≠ 0 ∧
 (bif (((Int.tmod What26 2) : Int) == 0) then
 idxA lP2 lL3 i18 8 fun el27 =>
 ldI .i64 (el27.add 1) Hx16 fun A28 =>
 idxA lP2 lL3 i18 8 fun el29 =>
 ldI .i64 (el29.add 2) Hx16 fun B30 =>
 hcall PR f_hand_Pick ⟨[(.int .i64 A28), (.int .i64 3)]⟩ Hx16 fun v31 Hx32 =>
 asI .i64 v31 fun t33 =>
 (ldI .i64 (el29.add 2) Hx32 fun B34 =>
 ((.int .i64 B34) : Value) = (.int .i64 B30)) ∧
 hcall PR f_hand_Pick ⟨[(.int .i64 B30), (.int .i64 3)]⟩ Hx32 fun v35 Hx36 =>
 asI .i64 v35 fun t37 =>
 hcall PR f_heap_Heap_Make ⟨[(.pointer t9), (.int .i64 t33), (.int .i64 t37)]⟩ Hx36 fun v38 Hx39 =>
 tup2 v38 fun v40 v41 =>
 asI .u64 v40 fun t42 =>
 asI .i64 v41 fun t43 =>
 ∀ R44 : Hp → Prop, (∀ Hx45 : Hp, (
 (bif ((t43 : Int) == 0) then
 R19 t42 Hx45
else
 R19 atx17 Hx45)) → R44 Hx45) →
 (bif ((t43 : Int) == 0) then
 (bif ((t42 : Int) != (IntKind.u64.wrap (atx17 + 1))) then
 K (.bool false) Hx39
else
 (bif ((t43 : Int) != 0) then
 (bif ((t42 : Int) != 0) then
 K (.bool false) Hx39
else
 R44 Hx39)
else
 R44 Hx39))
else
 (bif ((t43 : Int) != 0) then
 (bif ((t42 : Int) != 0) then
 K (.bool false) Hx39
else
 R44 Hx39)
else
 R44 Hx39))
else
 idxA lP2 lL3 i18 8 fun el46 =>
 ldI .u64 (el46.add 3) Hx16 fun Serial47 =>
 ((IntKind.u64.wrap (IntKind.i64.wrap (i18 + 1))) : Int) ≠ 0 ∧
 hcall PR f_heap_Heap_Next ⟨[(.pointer t9), (.int .u64 (IntKind.u64.wrap ((Int.tmod last1 72057594037927935) + (Int.tmod Serial47 (IntKind.u64.wrap (IntKind.i64.wrap (i18 + 1)))))))]⟩ Hx16 fun v48 Hx49 =>
 tup2 v48 fun v50 v51 =>
 asI .u64 v50 fun t52 =>
 asB v51 fun t53 =>
 (bif t53 then
 hcall PR f_heap_Heap_Free ⟨[(.pointer t9), (.int .u64 t52)]⟩ Hx49 fun v54 Hx55 =>
 asI .i64 v54 fun t56 =>
 (bif ((t56 : Int) != 0) then
 K (.bool false) Hx55
else
 R19 atx17 Hx55)
else
 R19 atx17 Hx49))
else
 K (.bool true) Hx16)
else
 K (.bool true) Hx16))))
theorem E_law8_HeapOnce (last1 : Int) (lP2 : Option Addr) (lL3 : Nat) (lC4 : Nat) (H : Hp) (K : Value → Hp → Prop) : B_law8_HeapOnce last1 lP2 lL3 lC4 H K = denF Try.prog Try.f7 (.seq none .n (.seq none .n (.seq none .n (.seq none .n (.seq none .n (.seq none (.seq none .n (.sub (.loop ⟨[(7, .int .u64), (8, .int .i64)], [0, 1, 5]⟩ (.seq none .n (.seq none (.sub (.seq (some ⟨[(7, .int .u64)], [0, 1, 5, 8]⟩) (.seq none .n (.two (.seq none .n (.seq (some ⟨[], [0, 1, 5, 7, 8, 9, 10]⟩) .n .n)) .n)) .n)) .n))))) .n)))))) [(.int .u64 last1), (.slice lP2 lL3 lC4)] H K := by kernel_rfl
theorem den_law8_HeapOnce {last1 : Int} {lP2 : Option Addr} {lL3 : Nat} {lC4 : Nat} {H : Hp} {K : Value → Hp → Prop} (h : B_law8_HeapOnce last1 lP2 lL3 lC4 H K) : hcall PR f_law8_HeapOnce ⟨[(.int .u64 last1), (.slice lP2 lL3 lC4)]⟩ H K := denF_call Try.func7 PR_mixed (Eq.mp (E_law8_HeapOnce last1 lP2 lL3 lC4 H K) h)

end Go.Proofs.Ytohlnmenghbgbaa

/- PRINTED by gen.py: functions as plain propositions, held against the program by the kernel. No condition. -/
namespace Go.Proofs.Ytohlnmenghbgbaa
open Go
set_option linter.unusedVariables false
set_option maxRecDepth 100000

def B_law8_HeapOwn (refs1 : Int) (vals2 : Int) (v3 : Int) (H : Hp) (K : Value → Hp → Prop) : Prop :=
 hcall PR f_heap_New ⟨[(.int .i64 3), (.int .i64 64), (.int .i64 4), (.int .u64 0)]⟩ H fun v4 Hx5 =>
 tup2 v4 fun v6 v7 =>
 asP v6 fun t8 =>
 asI .i64 v7 fun t9 =>
 hcall PR f_law8_known ⟨[]⟩ Hx5 fun v10 Hx11 =>
 asB v10 fun t12 =>
 (bif (!t12) then
 K (.bool false) Hx11
else
 (bif ((t9 : Int) != 0) then
 K (.bool false) Hx11
else
 (bif (Option.isNone (α := Addr) t8) then
 K (.bool false) Hx11
else
 hcall PR f_hand_Pick ⟨[(.int .i64 refs1), (.int .i64 8)]⟩ Hx11 fun v13 Hx14 =>
 asI .i64 v13 fun t15 =>
 hcall PR f_hand_Pick ⟨[(.int .i64 vals2), (.int .i64 8)]⟩ Hx14 fun v16 Hx17 =>
 asI .i64 v16 fun t18 =>
 hcall PR f_heap_Heap_Make ⟨[(.pointer t8), (.int .i64 t15), (.int .i64 t18)]⟩ Hx17 fun v19 Hx20 =>
 tup2 v19 fun v21 v22 =>
 asI .u64 v21 fun t23 =>
 asI .i64 v22 fun t24 =>
 (bif ((t24 : Int) != 0) then
 K (.bool false) Hx20
else
 ∃ (I25 : Int → Hp → Prop) (m26 : Int → Hp → Nat), I25 0 Hx20 ∧ ∀ i28 : Int, ∀ Hx27 : Hp, I25 i28 Hx27 →
 (bif (decide ((i28 : Int) < t18)) then
 hcall PR f_heap_Heap_SetVal ⟨[(.pointer t8), (.int .u64 t23), (.int .i64 i28), (.int .u64 (IntKind.u64.wrap (v3 + (IntKind.u64.wrap i28))))]⟩ Hx27 fun v29 Hx30 =>
 asI .i64 v29 fun t31 =>
 I25 (IntKind.i64.wrap (i28 + 1)) Hx30 ∧ m26 (IntKind.i64.wrap (i28 + 1)) Hx30 < m26 i28 Hx27
else
 hcall PR f_heap_Heap_Object ⟨[(.pointer t8), (.int .u64 t23)]⟩ Hx27 fun v32 Hx33 =>
 tup2 v32 fun v34 v35 =>
 asAgg' v34 fun cs36 =>
 unCons cs36.toList fun v37 r38 =>
 unCons r38 fun v39 r40 =>
 unCons r40 fun v41 r42 =>
 unCons r42 fun v43 r44 =>
 unCons r44 fun v45 r46 =>
 unNil r46 <|
 asI .u64 v37 fun Serial47 =>
 asI .i64 v39 fun Cell48 =>
 asSl v41 fun RefsP49 RefsL50 RefsC51 =>
 asSl v43 fun ValsP52 ValsL53 ValsC54 =>
 asI .i64 v45 fun In55 =>
 asB v35 fun t56 =>
 newB (.cells #[(.int .u64 0), (.int .i64 0), (.slice none 0 0), (.slice none 0 0), (.int .i64 0)] ty_api_Object) Hx33 fun b57 Hx58 =>
 st ⟨b57, 0, none⟩ (.int .u64 Serial47) Hx58 fun Hx59 =>
 st ⟨b57, 1, none⟩ (.int .i64 Cell48) Hx59 fun Hx60 =>
 st ⟨b57, 2, none⟩ (.slice RefsP49 RefsL50 RefsC51) Hx60 fun Hx61 =>
 st ⟨b57, 3, none⟩ (.slice ValsP52 ValsL53 ValsC54) Hx61 fun Hx62 =>
 st ⟨b57, 4, none⟩ (.int .i64 In55) Hx62 fun Hx63 =>
 ∃ (I64 : Int → Hp → Prop) (m65 : Int → Hp → Nat), I64 0 Hx63 ∧ ∀ i67 : Int, ∀ Hx66 : Hp, I64 i67 Hx66 →
 ldSl ⟨b57, 2, none⟩ Hx66 fun RefsP68 RefsL69 RefsC70 =>
 (bif (decide ((i67 : Int) < (RefsL69 : Int))) then
 ldSl ⟨b57, 2, none⟩ Hx66 fun RefsP71 RefsL72 RefsC73 =>
 idxA RefsP71 RefsL72 i67 2 fun el74 =>
 st el74 (.int .i64 9) Hx66 fun Hx75 =>
 st (el74.add 1) (.int .u64 9) Hx75 fun Hx76 =>
 I64 (IntKind.i64.wrap (i67 + 1)) Hx76 ∧ m65 (IntKind.i64.wrap (i67 + 1)) Hx76 < m65 i67 Hx66
else
 ∃ (I77 : Int → Hp → Prop) (m78 : Int → Hp → Nat), I77 0 Hx66 ∧ ∀ i80 : Int, ∀ Hx79 : Hp, I77 i80 Hx79 →
 ldSl ⟨b57, 3, none⟩ Hx79 fun ValsP81 ValsL82 ValsC83 =>
 (bif (decide ((i80 : Int) < (ValsL82 : Int))) then
 ldSl ⟨b57, 3, none⟩ Hx79 fun ValsP84 ValsL85 ValsC86 =>
 idxA ValsP84 ValsL85 i80 1 fun el87 =>
 st el87 (.int .u64 7) Hx79 fun Hx88 =>
 I77 (IntKind.i64.wrap (i80 + 1)) Hx88 ∧ m78 (IntKind.i64.wrap (i80 + 1)) Hx88 < m78 i80 Hx79
else
 hcall PR f_heap_Heap_Object ⟨[(.pointer t8), (.int .u64 t23)]⟩ Hx79 fun v89 Hx90 =>
 tup2 v89 fun v91 v92 =>
 asAgg' v91 fun cs93 =>
 unCons cs93.toList fun v94 r95 =>
 unCons r95 fun v96 r97 =>
 unCons r97 fun v98 r99 =>
 unCons r99 fun v100 r101 =>
 unCons r101 fun v102 r103 =>
 unNil r103 <|
 asI .u64 v94 fun Serial104 =>
 asI .i64 v96 fun Cell105 =>
 asSl v98 fun RefsP106 RefsL107 RefsC108 =>
 asSl v100 fun ValsP109 ValsL110 ValsC111 =>
 asI .i64 v102 fun In112 =>
 asB v92 fun t113 =>
 newB (.cells #[(.int .u64 0), (.int .i64 0), (.slice none 0 0), (.slice none 0 0), (.int .i64 0)] ty_api_Object) Hx90 fun b114 Hx115 =>
 st ⟨b114, 0, none⟩ (.int .u64 Serial104) Hx115 fun Hx116 =>
 st ⟨b114, 1, none⟩ (.int .i64 Cell105) Hx116 fun Hx117 =>
 st ⟨b114, 2, none⟩ (.slice RefsP106 RefsL107 RefsC108) Hx117 fun Hx118 =>
 st ⟨b114, 3, none⟩ (.slice ValsP109 ValsL110 ValsC111) Hx118 fun Hx119 =>
 st ⟨b114, 4, none⟩ (.int .i64 In112) Hx119 fun Hx120 =>
 (bif (!t113) then
 K (.bool false) Hx120
else
 ldSl ⟨b114, 2, none⟩ Hx120 fun RefsP121 RefsL122 RefsC123 =>
 (bif (((RefsL122 : Int) : Int) != t15) then
 K (.bool false) Hx120
else
 ldSl ⟨b114, 3, none⟩ Hx120 fun ValsP124 ValsL125 ValsC126 =>
 (bif (((ValsL125 : Int) : Int) != t18) then
 K (.bool false) Hx120
else
 ∃ (I127 : Int → Hp → Prop) (m128 : Int → Hp → Nat), I127 0 Hx120 ∧ ∀ i130 : Int, ∀ Hx129 : Hp, I127 i130 Hx129 →
 (bif (decide ((i130 : Int) < t15)) then
 ldSl ⟨b114, 2, none⟩ Hx129 fun RefsP131 RefsL132 RefsC133 =>
 idxA RefsP131 RefsL132 i130 2 fun el134 =>
 ldI .i64 el134 Hx129 fun Node135 =>
 ldI .u64 (el134.add 1) Hx129 fun Serial136 =>
 evR PR (aggEq .neq ty_api_ID #[(.int .i64 Node135), (.int .u64 Serial136)] #[(.int .i64 0), (.int .u64 0)]) Hx129 fun v137 =>
 asB v137 fun eq138 =>
 (bif eq138 then
 K (.bool false) Hx129
else
 I127 (IntKind.i64.wrap (i130 + 1)) Hx129 ∧ m128 (IntKind.i64.wrap (i130 + 1)) Hx129 < m128 i130 Hx129)
else
 ∃ (I139 : Int → Hp → Prop) (m140 : Int → Hp → Nat), I139 0 Hx129 ∧ ∀ i142 : Int, ∀ Hx141 : Hp, I139 i142 Hx141 →
 (bif (decide ((i142 : Int) < t18)) then
 ldSl ⟨b114, 3, none⟩ Hx141 fun ValsP143 ValsL144 ValsC145 =>
 idxA ValsP143 ValsL144 i142 1 fun el146 =>
 ldI .u64 el146 Hx141 fun t147 =>
 (bif ((t147 : Int) != (IntKind.u64.wrap (v3 + (IntKind.u64.wrap i142)))) then
 K (.bool false) Hx141
else
 I139 (IntKind.i64.wrap (i142 + 1)) Hx141 ∧ m140 (IntKind.i64.wrap (i142 + 1)) Hx141 < m140 i142 Hx141)
else
 K (.bool true) Hx141))))))))))))
theorem E_law8_HeapOwn (refs1 : Int) (vals2 : Int) (v3 : Int) (H : Hp) (K : Value → Hp → Prop) : B_law8_HeapOwn refs1 vals2 v3 H K = denF Try.prog Try.f4 (.seq none .n (.seq none .n (.seq none .n (.seq none .n (.seq none .n (.seq none .n (.seq none .n (.seq none (.seq none .n (.sub (.loop ⟨[(11, .int .i64)], [0, 1, 2, 7, 9]⟩ .n))) (.seq none .n (.seq none (.seq none .n (.sub (.loop ⟨[(14, .int .i64)], [0, 1, 2, 7, 9, 12]⟩ .n))) (.seq none (.seq none .n (.sub (.loop ⟨[(15, .int .i64)], [0, 1, 2, 7, 9, 12]⟩ .n))) (.seq none .n (.seq none .n (.seq none (.seq none .n (.sub (.loop ⟨[(18, .int .i64)], [0, 1, 2, 16]⟩ .n))) (.seq none (.seq none .n (.sub (.loop ⟨[(19, .int .i64)], [1, 2, 16]⟩ .n))) .n))))))))))))))) [(.int .i64 refs1), (.int .i64 vals2), (.int .u64 v3)] H K := by kernel_rfl
theorem den_law8_HeapOwn {refs1 : Int} {vals2 : Int} {v3 : Int} {H : Hp} {K : Value → Hp → Prop} (h : B_law8_HeapOwn refs1 vals2 v3 H K) : hcall PR f_law8_HeapOwn ⟨[(.int .i64 refs1), (.int .i64 vals2), (.int .u64 v3)]⟩ H K := denF_call Try.func4 PR_mixed (Eq.mp (E_law8_HeapOwn refs1 vals2 v3 H K) h)

end Go.Proofs.Ytohlnmenghbgbaa

/- Chapter 8's example, run. No condition. -/
namespace Go.Proofs.Ytohlnmenghbgbaa
set_option linter.unusedSimpArgs false
set_option linter.unusedVariables false
open Go

theorem hMake_fit {s : Hs} {r v : Int} {i k : Nat} (hr : 0 ≤ r ∧ r ≤ 7) (hv : 0 ≤ v ∧ v ≤ 7) (hl : (s.obs.length : Int) < s.most) (hs : s.last ≠ 72057594037927935) (hc : clsOf (1 + r + v) ≠ 0) (hf : ArFits s.ar (clsOf (1 + r + v)) i k) :
    hMake s r v = (s.last + 1, 0, { s with last := s.last + 1, ar := tookAt s.ar (clsOf (1 + r + v)) i k, obs := s.obs ++ [⟨s.last + 1, ((16 * i + k * clsOf (1 + r + v) : Nat) : Int), List.replicate r.toNat noId, List.replicate v.toNat 0, 0⟩] }) := by
  unfold hMake
  rw [if_neg (by omega), if_neg (by omega), if_neg hs, arAlloc_fit hc hf, if_neg (by simp)]

/-- The example's heap, with its one object. -/
def ex8 : Hs := ⟨1, 2, 6, [⟨4, 1⟩], [⟨6, 0, [noId], [0], 0⟩]⟩
theorem ex8_made : hMake (newHs 1 2 5 1) 1 1 = (6, 0, ex8) := by
  rw [hMake_fit (s := newHs 1 2 5 1) (i := 0) (k := 0) (by omega) (by omega) (by decide) (by decide) (by decide) (by unfold ArFits First; decide)]
  rfl

theorem known8_ok {H0 H : Hp} {L : List Prt} {K : Value → Hp → Prop} (h : St H0 L H) (hK : ∀ H', St H0 L H' → K (.bool true) H') : hcall PR f_law8_known ⟨[]⟩ H K := by
  apply den_law8_known
  unfold B_law8_known
  refine hNewOk (m := 1) (by decide) (by decide) (by decide) (by decide) (by decide) h fun hb H1 h1 => ?_
  simp only [asI_mk', asB_mk, asP_mk, asA_mk, asM_mk, asSl_mk, asStr_mk, tup2_mk, tup3_mk, agg1_mk, agg2_mk, agg3_mk, agg4_mk, asAggm, unCons_mk, unNil_mk, asTup_mk, extractD0, extractD1, List.toList_toArray, nilP_mk, add_mk, Nat.zero_add, Nat.add_zero, condT, condF, Bool.not_true, Bool.not_false, Option.isNone_some, Option.isNone_none]
  refine bif_neqf rfl ?_
  refine hMakeC h1 (i := 0) rfl (by decide) (by decide) fun H2 h2 => ?_
  rw [ex8_made] at h2 ⊢
  simp only [asI_mk', asB_mk, asP_mk, asA_mk, asM_mk, asSl_mk, asStr_mk, tup2_mk, tup3_mk, agg1_mk, agg2_mk, agg3_mk, agg4_mk, asAggm, unCons_mk, unNil_mk, asTup_mk, extractD0, extractD1, List.toList_toArray, nilP_mk, add_mk, Nat.zero_add, Nat.add_zero, condT, condF, Bool.not_true, Bool.not_false, Option.isNone_some, Option.isNone_none]
  refine hRefC h2 (i := 0) rfl fun H3 h3 => ?_
  rw [show hRef ex8 6 0 = (noId, 0) by rfl]
  simp only [asI_mk', asB_mk, asP_mk, asA_mk, asM_mk, asSl_mk, asStr_mk, tup2_mk, tup3_mk, agg1_mk, agg2_mk, agg3_mk, agg4_mk, asAggm, unCons_mk, unNil_mk, asTup_mk, extractD0, extractD1, List.toList_toArray, nilP_mk, add_mk, Nat.zero_add, Nat.add_zero, condT, condF, Bool.not_true, Bool.not_false, Option.isNone_some, Option.isNone_none]
  refine box2 h3 fun b22 H4 h4 => ?_
  have e2 : hSetRef ex8 6 0 ⟨2, 9⟩ = (noId, 0, ⟨1, 2, 6, [⟨4, 1⟩], [⟨6, 0, [⟨2, 9⟩], [0], 0⟩]⟩) := by rfl
  refine hSetRefC (y := ⟨2, 9⟩) h4 (i := 1) rfl fun H5 h5 => ?_
  rw [e2] at h5 ⊢
  simp only [asI_mk', asB_mk, asP_mk, asA_mk, asM_mk, asSl_mk, asStr_mk, tup2_mk, tup3_mk, agg1_mk, agg2_mk, agg3_mk, agg4_mk, asAggm, unCons_mk, unNil_mk, asTup_mk, extractD0, extractD1, List.toList_toArray, nilP_mk, add_mk, Nat.zero_add, Nat.add_zero, condT, condF, Bool.not_true, Bool.not_false, Option.isNone_some, Option.isNone_none]
  refine box2 h5 fun b35 H6 h6 => ?_
  refine hRefC h6 (i := 2) rfl fun H7 h7 => ?_
  rw [show hRef ⟨1, 2, 6, [⟨4, 1⟩], [⟨6, 0, [⟨2, 9⟩], [0], 0⟩]⟩ 6 0 = (⟨2, 9⟩, 0) by rfl]
  simp only [asI_mk', asB_mk, asP_mk, asA_mk, asM_mk, asSl_mk, asStr_mk, tup2_mk, tup3_mk, agg1_mk, agg2_mk, agg3_mk, agg4_mk, asAggm, unCons_mk, unNil_mk, asTup_mk, extractD0, extractD1, List.toList_toArray, nilP_mk, add_mk, Nat.zero_add, Nat.add_zero, condT, condF, Bool.not_true, Bool.not_false, Option.isNone_some, Option.isNone_none]
  refine box2 h7 fun b48 H8 h8 => ?_
  refine bif_eq rfl (bif_eq rfl (ldI_of (h8.cell (i := 2) (o := 0) rfl rfl) (ldI_of (h8.cell (i := 2) (o := 1) rfl rfl) (idEq ?_))))
  simp only [decide_true]
  simp only [asI_mk', asB_mk, asP_mk, asA_mk, asM_mk, asSl_mk, asStr_mk, tup2_mk, tup3_mk, agg1_mk, agg2_mk, agg3_mk, agg4_mk, asAggm, unCons_mk, unNil_mk, asTup_mk, extractD0, extractD1, List.toList_toArray, nilP_mk, add_mk, Nat.zero_add, Nat.add_zero, condT, condF, Bool.not_true, Bool.not_false, Option.isNone_some, Option.isNone_none]
  refine bif_eq rfl (bif_eq rfl (ldI_of (h8.cell (i := 0) (o := 0) rfl rfl) (ldI_of (h8.cell (i := 0) (o := 1) rfl rfl) (idEq ?_))))
  simp only [decide_true]
  simp only [asI_mk', asB_mk, asP_mk, asA_mk, asM_mk, asSl_mk, asStr_mk, tup2_mk, tup3_mk, agg1_mk, agg2_mk, agg3_mk, agg4_mk, asAggm, unCons_mk, unNil_mk, asTup_mk, extractD0, extractD1, List.toList_toArray, nilP_mk, add_mk, Nat.zero_add, Nat.add_zero, condT, condF, Bool.not_true, Bool.not_false, Option.isNone_some, Option.isNone_none]
  exact hK H8 (h8.lesses (M := [_, _, _, _]))

end Go.Proofs.Ytohlnmenghbgbaa

/- Chapter 8's statements, run: HeapKnown, HeapEnds, HeapOnce, HeapOwn. No condition. -/
namespace Go.Proofs.Ytohlnmenghbgbaa
set_option linter.unusedSimpArgs false
set_option linter.unusedVariables false
open Go

theorem HeapKnown_ok {H : Hp} {K : Value → Hp → Prop} (hK : ∀ H', Keep Nothing H H' → K (.bool true) H') : hcall PR f_law8_HeapKnown ⟨[]⟩ H K := by
  apply den_law8_HeapKnown
  unfold B_law8_HeapKnown
  refine hNewBad (by unfold newBad; decide) (St.start H) fun H1 h1 => ?_
  simp only [asI_mk', asB_mk, asP_mk, asA_mk, asM_mk, asSl_mk, asStr_mk, tup2_mk, tup3_mk, agg1_mk, agg2_mk, agg3_mk, agg4_mk, asAggm, unCons_mk, unNil_mk, asTup_mk, extractD0, extractD1, List.toList_toArray, nilP_mk, add_mk, Nat.zero_add, Nat.add_zero, condT, condF, Bool.not_true, Bool.not_false, Option.isNone_some, Option.isNone_none]
  refine hNewBad (by unfold newBad; decide) h1 fun H2 h2 => ?_
  simp only [asI_mk', asB_mk, asP_mk, asA_mk, asM_mk, asSl_mk, asStr_mk, tup2_mk, tup3_mk, agg1_mk, agg2_mk, agg3_mk, agg4_mk, asAggm, unCons_mk, unNil_mk, asTup_mk, extractD0, extractD1, List.toList_toArray, nilP_mk, add_mk, Nat.zero_add, Nat.add_zero, condT, condF, Bool.not_true, Bool.not_false, Option.isNone_some, Option.isNone_none]
  refine hNewBad (by unfold newBad; decide) h2 fun H3 h3 => ?_
  simp only [asI_mk', asB_mk, asP_mk, asA_mk, asM_mk, asSl_mk, asStr_mk, tup2_mk, tup3_mk, agg1_mk, agg2_mk, agg3_mk, agg4_mk, asAggm, unCons_mk, unNil_mk, asTup_mk, extractD0, extractD1, List.toList_toArray, nilP_mk, add_mk, Nat.zero_add, Nat.add_zero, condT, condF, Bool.not_true, Bool.not_false, Option.isNone_some, Option.isNone_none]
  refine hNewBad (by unfold newBad; decide) h3 fun H4 h4 => ?_
  simp only [asI_mk', asB_mk, asP_mk, asA_mk, asM_mk, asSl_mk, asStr_mk, tup2_mk, tup3_mk, agg1_mk, agg2_mk, agg3_mk, agg4_mk, asAggm, unCons_mk, unNil_mk, asTup_mk, extractD0, extractD1, List.toList_toArray, nilP_mk, add_mk, Nat.zero_add, Nat.add_zero, condT, condF, Bool.not_true, Bool.not_false, Option.isNone_some, Option.isNone_none]
  refine hNewOk (m := 1) (by decide) (by decide) (by decide) (by decide) (by decide) h4 fun hb H5 h5 => ?_
  simp only [asI_mk', asB_mk, asP_mk, asA_mk, asM_mk, asSl_mk, asStr_mk, tup2_mk, tup3_mk, agg1_mk, agg2_mk, agg3_mk, agg4_mk, asAggm, unCons_mk, unNil_mk, asTup_mk, extractD0, extractD1, List.toList_toArray, nilP_mk, add_mk, Nat.zero_add, Nat.add_zero, condT, condF, Bool.not_true, Bool.not_false, Option.isNone_some, Option.isNone_none]
  refine hNewOk (m := 1) (by decide) (by decide) (by decide) (by decide) (by decide) h5 fun gb H6 h6 => ?_
  simp only [asI_mk', asB_mk, asP_mk, asA_mk, asM_mk, asSl_mk, asStr_mk, tup2_mk, tup3_mk, agg1_mk, agg2_mk, agg3_mk, agg4_mk, asAggm, unCons_mk, unNil_mk, asTup_mk, extractD0, extractD1, List.toList_toArray, nilP_mk, add_mk, Nat.zero_add, Nat.add_zero, condT, condF, Bool.not_true, Bool.not_false, Option.isNone_some, Option.isNone_none]
  refine known8_ok h6 fun H7 h7 => ?_
  simp only [asI_mk', asB_mk, asP_mk, asA_mk, asM_mk, asSl_mk, asStr_mk, tup2_mk, tup3_mk, agg1_mk, agg2_mk, agg3_mk, agg4_mk, asAggm, unCons_mk, unNil_mk, asTup_mk, extractD0, extractD1, List.toList_toArray, nilP_mk, add_mk, Nat.zero_add, Nat.add_zero, condT, condF, Bool.not_true, Bool.not_false, Option.isNone_some, Option.isNone_none]
  refine bif_neqf rfl (bif_neqf rfl (bif_neqf rfl (bif_neqf rfl (bif_neqf rfl (bif_neqf rfl ?_)))))
  refine hMakeC h7 (i := 0) rfl (by decide) (by decide) fun H8 h8 => ?_
  have e1 : hMake (newHs 1 1 72057594037927935 1) 0 0 = (0, 7, newHs 1 1 72057594037927935 1) := by
    exact hMake_top (by omega) (by omega) (by decide) rfl
  rw [e1] at h8 ⊢
  simp only [asI_mk', asB_mk, asP_mk, asA_mk, asM_mk, asSl_mk, asStr_mk, tup2_mk, tup3_mk, agg1_mk, agg2_mk, agg3_mk, agg4_mk, asAggm, unCons_mk, unNil_mk, asTup_mk, extractD0, extractD1, List.toList_toArray, nilP_mk, add_mk, Nat.zero_add, Nat.add_zero, condT, condF, Bool.not_true, Bool.not_false, Option.isNone_some, Option.isNone_none]
  refine hMakeC h8 (i := 1) rfl (by decide) (by decide) fun H9 h9 => ?_
  rw [ex8_made] at h9 ⊢
  simp only [asI_mk', asB_mk, asP_mk, asA_mk, asM_mk, asSl_mk, asStr_mk, tup2_mk, tup3_mk, agg1_mk, agg2_mk, agg3_mk, agg4_mk, asAggm, unCons_mk, unNil_mk, asTup_mk, extractD0, extractD1, List.toList_toArray, nilP_mk, add_mk, Nat.zero_add, Nat.add_zero, condT, condF, Bool.not_true, Bool.not_false, Option.isNone_some, Option.isNone_none]
  refine hMakeC h9 (i := 1) rfl (by decide) (by decide) fun H10 h10 => ?_
  rw [show hMake ex8 8 0 = (0, 1, ex8) by unfold hMake; rw [if_pos (by decide)]] at h10 ⊢
  simp only [asI_mk', asB_mk, asP_mk, asA_mk, asM_mk, asSl_mk, asStr_mk, tup2_mk, tup3_mk, agg1_mk, agg2_mk, agg3_mk, agg4_mk, asAggm, unCons_mk, unNil_mk, asTup_mk, extractD0, extractD1, List.toList_toArray, nilP_mk, add_mk, Nat.zero_add, Nat.add_zero, condT, condF, Bool.not_true, Bool.not_false, Option.isNone_some, Option.isNone_none]
  refine hMakeC h10 (i := 1) rfl (by decide) (by decide) fun H11 h11 => ?_
  have e3 : hMake ex8 0 0 = (0, 2, ex8) := by
    have hno : ArNoFit ex8.ar (clsOf (1 + 0 + 0)) := by unfold ArNoFit; decide
    have : arAlloc ex8.ar (1 + 0 + 0) = (0, 2, ex8.ar) := by
      unfold arAlloc
      rw [if_neg (by decide), arFind_no hno]
    unfold hMake
    rw [if_neg (by decide), if_neg (by decide), if_neg (by decide), this, if_pos (by decide)]
  rw [e3] at h11 ⊢
  simp only [asI_mk', asB_mk, asP_mk, asA_mk, asM_mk, asSl_mk, asStr_mk, tup2_mk, tup3_mk, agg1_mk, agg2_mk, agg3_mk, agg4_mk, asAggm, unCons_mk, unNil_mk, asTup_mk, extractD0, extractD1, List.toList_toArray, nilP_mk, add_mk, Nat.zero_add, Nat.add_zero, condT, condF, Bool.not_true, Bool.not_false, Option.isNone_some, Option.isNone_none]
  refine hRefC h11 (i := 1) rfl fun H12 h12 => ?_
  rw [show hRef ex8 6 1 = (noId, 5) by rfl]
  simp only [asI_mk', asB_mk, asP_mk, asA_mk, asM_mk, asSl_mk, asStr_mk, tup2_mk, tup3_mk, agg1_mk, agg2_mk, agg3_mk, agg4_mk, asAggm, unCons_mk, unNil_mk, asTup_mk, extractD0, extractD1, List.toList_toArray, nilP_mk, add_mk, Nat.zero_add, Nat.add_zero, condT, condF, Bool.not_true, Bool.not_false, Option.isNone_some, Option.isNone_none]
  refine box2 h12 fun b73 H13 h13 => ?_
  refine bif_eq rfl (bif_eq rfl (bif_eq rfl (bif_eq rfl (hLen h13 (i := 2) rfl ?_))))
  simp only [asI_mk', asB_mk, asP_mk, asA_mk, asM_mk, asSl_mk, asStr_mk, tup2_mk, tup3_mk, agg1_mk, agg2_mk, agg3_mk, agg4_mk, asAggm, unCons_mk, unNil_mk, asTup_mk, extractD0, extractD1, List.toList_toArray, nilP_mk, add_mk, Nat.zero_add, Nat.add_zero, condT, condF, Bool.not_true, Bool.not_false, Option.isNone_some, Option.isNone_none]
  refine bif_eq rfl (hLast h13 (i := 2) rfl ?_)
  simp only [asI_mk', asB_mk, asP_mk, asA_mk, asM_mk, asSl_mk, asStr_mk, tup2_mk, tup3_mk, agg1_mk, agg2_mk, agg3_mk, agg4_mk, asAggm, unCons_mk, unNil_mk, asTup_mk, extractD0, extractD1, List.toList_toArray, nilP_mk, add_mk, Nat.zero_add, Nat.add_zero, condT, condF, Bool.not_true, Bool.not_false, Option.isNone_some, Option.isNone_none]
  refine bif_eq rfl (hNode h13 (i := 2) rfl ?_)
  simp only [asI_mk', asB_mk, asP_mk, asA_mk, asM_mk, asSl_mk, asStr_mk, tup2_mk, tup3_mk, agg1_mk, agg2_mk, agg3_mk, agg4_mk, asAggm, unCons_mk, unNil_mk, asTup_mk, extractD0, extractD1, List.toList_toArray, nilP_mk, add_mk, Nat.zero_add, Nat.add_zero, condT, condF, Bool.not_true, Bool.not_false, Option.isNone_some, Option.isNone_none]
  refine bif_eq rfl (hUsed h13 (i := 2) rfl ?_)
  simp only [asI_mk', asB_mk, asP_mk, asA_mk, asM_mk, asSl_mk, asStr_mk, tup2_mk, tup3_mk, agg1_mk, agg2_mk, agg3_mk, agg4_mk, asAggm, unCons_mk, unNil_mk, asTup_mk, extractD0, extractD1, List.toList_toArray, nilP_mk, add_mk, Nat.zero_add, Nat.add_zero, condT, condF, Bool.not_true, Bool.not_false, Option.isNone_some, Option.isNone_none]
  exact hK H13 h13.keep

theorem HeapEnds_ok {back : Int} {H : Hp} {K : Value → Hp → Prop} (hb : IntKind.min .i64 ≤ back ∧ back ≤ IntKind.max .i64) (hK : ∀ H', Keep Nothing H H' → K (.bool true) H') : hcall PR f_law8_HeapEnds ⟨[.int .i64 back]⟩ H K := by
  apply den_law8_HeapEnds
  unfold B_law8_HeapEnds
  refine Pick_ok (by omega) (by omega) ?_
  have hp := pick_lt (n := back) (m := 6) (by omega)
  simp only [asI_mk', asB_mk, asP_mk, asA_mk, asM_mk, asSl_mk, asStr_mk, tup2_mk, tup3_mk, agg1_mk, agg2_mk, agg3_mk, agg4_mk, asAggm, unCons_mk, unNil_mk, asTup_mk, extractD0, extractD1, List.toList_toArray, nilP_mk, add_mk, Nat.zero_add, Nat.add_zero, condT, condF, Bool.not_true, Bool.not_false, Option.isNone_some, Option.isNone_none]
  generalize pick back 6 = n at *
  obtain ⟨n, rfl⟩ : ∃ m : Nat, n = m := ⟨n.toNat, by omega⟩
  have w1 : IntKind.u64.wrap (n : Int) = n := wrap_u64' (by omega) (by omega)
  have w2 : IntKind.u64.wrap (72057594037927935 - (n : Int)) = 72057594037927935 - n := wrap_u64' (by omega) (by omega)
  rw [w1, w2]
  refine hNewOk (m := 16) (by decide) (by decide) (by omega) (by decide) (by decide) (St.start H) fun b H1 h1 => ?_
  simp only [asI_mk', asB_mk, asP_mk, asA_mk, asM_mk, asSl_mk, asStr_mk, tup2_mk, tup3_mk, agg1_mk, agg2_mk, agg3_mk, agg4_mk, asAggm, unCons_mk, unNil_mk, asTup_mk, extractD0, extractD1, List.toList_toArray, nilP_mk, add_mk, Nat.zero_add, Nat.add_zero, condT, condF, Bool.not_true, Bool.not_false, Option.isNone_some, Option.isNone_none]
  refine known8_ok h1 fun H2 h2 => ?_
  simp only [asI_mk', asB_mk, asP_mk, asA_mk, asM_mk, asSl_mk, asStr_mk, tup2_mk, tup3_mk, agg1_mk, agg2_mk, agg3_mk, agg4_mk, asAggm, unCons_mk, unNil_mk, asTup_mk, extractD0, extractD1, List.toList_toArray, nilP_mk, add_mk, Nat.zero_add, Nat.add_zero, condT, condF, Bool.not_true, Bool.not_false, Option.isNone_some, Option.isNone_none]
  refine bif_neqf rfl ?_
  refine ⟨fun i H' => ∃ (j : Nat) (s : Hs), i = j ∧ j ≤ n ∧ s.last = 72057594037927935 - n + j ∧ s.obs.length = j ∧ s.most = 10 ∧ 16 ≤ frees s.ar + j ∧ s.ok ∧ St H [HeapP b s] H', fun i _ => (n - i).toNat,
    ⟨0, _, rfl, by omega, by simp [newHs], rfl, rfl, by show 16 ≤ frees (List.replicate 16 noBlk) + 0; rw [frees_new]; omega, heap_ok h2 (i := 0) rfl, h2⟩, ?_⟩
  rintro i H3 ⟨j, s, rfl, hj, hl, ho, hm, hf, hok, h3⟩
  by_cases hlt : (j : Int) < n
  · refine bif_pos hlt (hMakeC h3 (i := 0) rfl (by decide) (by decide) fun H4 h4 => ?_)
    obtain ⟨s', c, e0, e1, e2, e3, e4, e5, e6⟩ := hMake_good' (r := 1) (v := 0) hok (by omega) (by omega) (by omega) (by omega) (by omega)
    rw [e0] at h4 ⊢
    simp only [asI_mk', asB_mk, asP_mk, asA_mk, asM_mk, asSl_mk, asStr_mk, tup2_mk, tup3_mk, agg1_mk, agg2_mk, agg3_mk, agg4_mk, asAggm, unCons_mk, unNil_mk, asTup_mk, extractD0, extractD1, List.toList_toArray, nilP_mk, add_mk, Nat.zero_add, Nat.add_zero, condT, condF, Bool.not_true, Bool.not_false, Option.isNone_some, Option.isNone_none]
    refine bif_neqf rfl ?_
    rw [wrap_i64 (by omega) (by omega)]
    exact ⟨⟨j + 1, s', by omega, by omega, by omega, by rw [e4]; simp [ho], by rw [e2, hm], by omega, e6, h4⟩, by (try dsimp only); omega⟩
  · refine bif_neg hlt (hMakeC h3 (i := 0) rfl (by decide) (by decide) fun H4 h4 => ?_)
    obtain rfl : j = n := by omega
    have full : ∀ s : Hs, s.last = 72057594037927935 → (s.obs.length : Int) < s.most → hMake s 1 0 = (0, 7, s) := fun s h1 h2 => by
      unfold hMake
      rw [if_neg (by decide), if_neg (by omega), if_pos h1]
    rw [full s (by omega) (by omega)] at h4 ⊢
    have h4 : St H [HeapP b s] H4 := h4
    simp only [asI_mk', asB_mk, asP_mk, asA_mk, asM_mk, asSl_mk, asStr_mk, tup2_mk, tup3_mk, agg1_mk, agg2_mk, agg3_mk, agg4_mk, asAggm, unCons_mk, unNil_mk, asTup_mk, extractD0, extractD1, List.toList_toArray, nilP_mk, add_mk, Nat.zero_add, Nat.add_zero, condT, condF, Bool.not_true, Bool.not_false, Option.isNone_some, Option.isNone_none]
    refine hFreeC h4 (i := 0) rfl fun H5 h5 => ?_
    simp only [asI_mk', asB_mk, asP_mk, asA_mk, asM_mk, asSl_mk, asStr_mk, tup2_mk, tup3_mk, agg1_mk, agg2_mk, agg3_mk, agg4_mk, asAggm, unCons_mk, unNil_mk, asTup_mk, extractD0, extractD1, List.toList_toArray, nilP_mk, add_mk, Nat.zero_add, Nat.add_zero, condT, condF, Bool.not_true, Bool.not_false, Option.isNone_some, Option.isNone_none]
    have e1 : (hFree s 72057594037927935).2.last = s.last ∧ (hFree s 72057594037927935).2.most = s.most ∧ (hFree s 72057594037927935).2.obs.length ≤ s.obs.length := by
      unfold hFree
      cases hGet s 72057594037927935 with
      | none => exact ⟨rfl, rfl, Nat.le_refl _⟩
      | some o => exact ⟨rfl, rfl, List.length_filter_le _ _⟩
    refine hMakeC h5 (i := 0) rfl (by decide) (by decide) fun H6 h6 => ?_
    rw [full _ (by omega) (by omega)] at h6 ⊢
    simp only [asI_mk', asB_mk, asP_mk, asA_mk, asM_mk, asSl_mk, asStr_mk, tup2_mk, tup3_mk, agg1_mk, agg2_mk, agg3_mk, agg4_mk, asAggm, unCons_mk, unNil_mk, asTup_mk, extractD0, extractD1, List.toList_toArray, nilP_mk, add_mk, Nat.zero_add, Nat.add_zero, condT, condF, Bool.not_true, Bool.not_false, Option.isNone_some, Option.isNone_none]
    refine bif_eq rfl (bif_eq rfl (hLast h6 (i := 0) rfl ?_))
    simp only [asI_mk', asB_mk, asP_mk, asA_mk, asM_mk, asSl_mk, asStr_mk, tup2_mk, tup3_mk, agg1_mk, agg2_mk, agg3_mk, agg4_mk, asAggm, unCons_mk, unNil_mk, asTup_mk, extractD0, extractD1, List.toList_toArray, nilP_mk, add_mk, Nat.zero_add, Nat.add_zero, condT, condF, Bool.not_true, Bool.not_false, Option.isNone_some, Option.isNone_none]
    rw [show ((hFree s 72057594037927935).2.last == 72057594037927935) = true by simp; omega]
    exact hK H6 h6.keep

theorem hNext_free {s : Hs} {k : Int} (ho : s.ok) (h : (hNext s k).2 = true) : (hFree s (hNext s k).1).1 = 0 := by
  unfold hNext at h ⊢
  cases hf : s.obs.find? (fun o => decide (k < o.ser)) with
  | none => rw [hf] at h; cases h
  | some o =>
    simp only
    obtain ⟨j, hj, rfl⟩ := List.mem_iff_getElem.1 (List.mem_of_find?_eq_some hf)
    have := hGet_at ho (List.getElem?_eq_getElem hj)
    unfold hFree
    rw [this]

set_option maxRecDepth 20000 in
theorem HeapOnce_ok {last : Int} {lP : Option Addr} {lL lC : Nat} {l : List E_law8_Step} {H : Hp} {K : Value → Hp → Prop} (hlast : IntKind.min .u64 ≤ last ∧ last ≤ IntKind.max .u64) (hr : Rd H 8 lP lL (cel E_law8_Step.cells l)) (hl : lL ≤ 9223372036854775807) (hok : ∀ x ∈ l, x.ok)
    (hK : ∀ H', Keep Nothing H H' → K (.bool true) H') : hcall PR f_law8_HeapOnce ⟨[.int .u64 last, .slice lP lL lC]⟩ H K := by
  apply den_law8_HeapOnce
  unfold B_law8_HeapOnce
  refine ⟨by decide, ?_⟩
  have m0 : IntKind.min .u64 = 0 := by decide
  have m1 : IntKind.max .u64 = 18446744073709551615 := by decide
  have hmod : Int.tmod last 72057594037927935 = last % 72057594037927935 := by rw [Int.tmod_eq_emod_of_nonneg (by omega)]
  rw [hmod]
  have hlm : 0 ≤ last % 72057594037927935 ∧ last % 72057594037927935 < 72057594037927935 := by omega
  generalize last % 72057594037927935 = la at *
  refine hNewOk (m := 16) (by decide) (by decide) (by omega) (by decide) (by decide) (St.start H) fun b H1 h1 => ?_
  simp only [asI_mk', asB_mk, asP_mk, asA_mk, asM_mk, asSl_mk, asStr_mk, tup2_mk, tup3_mk, agg1_mk, agg2_mk, agg3_mk, agg4_mk, asAggm, unCons_mk, unNil_mk, asTup_mk, extractD0, extractD1, List.toList_toArray, nilP_mk, add_mk, Nat.zero_add, Nat.add_zero, condT, condF, Bool.not_true, Bool.not_false, Option.isNone_some, Option.isNone_none]
  refine known8_ok h1 fun H2 h2 => ?_
  simp only [asI_mk', asB_mk, asP_mk, asA_mk, asM_mk, asSl_mk, asStr_mk, tup2_mk, tup3_mk, agg1_mk, agg2_mk, agg3_mk, agg4_mk, asAggm, unCons_mk, unNil_mk, asTup_mk, extractD0, extractD1, List.toList_toArray, nilP_mk, add_mk, Nat.zero_add, Nat.add_zero, condT, condF, Bool.not_true, Bool.not_false, Option.isNone_some, Option.isNone_none]
  refine bif_neqf rfl ?_
  refine ⟨fun at_ i H' => ∃ (j : Nat) (s : Hs), i = j ∧ j ≤ lL ∧ s.last = at_ ∧ St H [HeapP b s] H', fun _ i _ => (lL - i).toNat, ⟨0, _, rfl, by omega, rfl, h2⟩, ?_⟩
  rintro at_ i H3 ⟨j, s, rfl, hj, rfl, h3⟩
  have ho := heap_ok h3 (i := 0) rfl
  have hsl := ho.last
  by_cases hlt : (j : Int) < lL
  rotate_left
  · exact bif_neg hlt (hK H3 h3.keep)
  refine bif_pos hlt ?_
  by_cases h300 : (j : Int) < 300
  rotate_left
  · exact bif_neg h300 (hK H3 h3.keep)
  refine bif_pos h300 ?_
  intro R19 hR19
  have hR19 : ∀ (a : Int) (s' : Hs) (H' : Hp), s'.last = a → St H [HeapP b s'] H' → R19 a H' := fun a s' H' e h' => by
    refine hR19 a H' (hLast h' (i := 0) rfl ?_)
    simp only [asI_mk', asB_mk, asP_mk, asA_mk, asM_mk, asSl_mk, asStr_mk, tup2_mk, tup3_mk, agg1_mk, agg2_mk, agg3_mk, agg4_mk, asAggm, unCons_mk, unNil_mk, asTup_mk, extractD0, extractD1, List.toList_toArray, nilP_mk, add_mk, Nat.zero_add, Nat.add_zero, condT, condF, Bool.not_true, Bool.not_false, Option.isNone_some, Option.isNone_none]
    refine bif_neqf e ?_
    rw [wrap_i64 (by omega) (by omega)]
    exact ⟨⟨j + 1, s', by omega, by omega, e, h'⟩, by (try dsimp only); omega⟩
  have rr := h3.rd hr
  refine idxS E_law8_Step.len ⟨0, 0, 0, 0, 0, 0, 0, false⟩ rr (by omega) (by omega) hlt fun b1 o1 hp hjl hcs => ?_
  have hx := hok _ (List.getElem_mem hjl)
  have hgd : l.getD (j : Int).toNat ⟨0, 0, 0, 0, 0, 0, 0, false⟩ = l[(j : Int).toNat] := by rw [List.getD_eq_getElem?_getD, List.getElem?_eq_getElem hjl]; rfl
  rw [← hgd] at hx
  generalize l.getD (j : Int).toNat ⟨0, 0, 0, 0, 0, 0, 0, false⟩ = x at hx hcs
  have c0 := hcs 0 (by omega)
  have c1 := hcs 1 (by omega)
  have c2 := hcs 2 (by omega)
  have c3 := hcs 3 (by omega)
  refine ldI_of c0 ⟨by decide, ?_⟩
  by_cases hw : Int.tmod x.What 2 = 0
  · refine bif_eq hw (idxA_of rr (by omega) hlt fun b' o' hp' _ => ?_)
    obtain ⟨rfl, rfl⟩ : b1 = b' ∧ o1 = o' := by rw [hp] at hp'; simpa using hp'
    simp only [asI_mk', asB_mk, asP_mk, asA_mk, asM_mk, asSl_mk, asStr_mk, tup2_mk, tup3_mk, agg1_mk, agg2_mk, agg3_mk, agg4_mk, asAggm, unCons_mk, unNil_mk, asTup_mk, extractD0, extractD1, List.toList_toArray, nilP_mk, add_mk, Nat.zero_add, Nat.add_zero, condT, condF, Bool.not_true, Bool.not_false, Option.isNone_some, Option.isNone_none]
    refine ldI_of c1 (idxA_of rr (by omega) hlt fun b' o' hp' _ => ?_)
    obtain ⟨rfl, rfl⟩ : b1 = b' ∧ o1 = o' := by rw [hp] at hp'; simpa using hp'
    simp only [asI_mk', asB_mk, asP_mk, asA_mk, asM_mk, asSl_mk, asStr_mk, tup2_mk, tup3_mk, agg1_mk, agg2_mk, agg3_mk, agg4_mk, asAggm, unCons_mk, unNil_mk, asTup_mk, extractD0, extractD1, List.toList_toArray, nilP_mk, add_mk, Nat.zero_add, Nat.add_zero, condT, condF, Bool.not_true, Bool.not_false, Option.isNone_some, Option.isNone_none]
    refine ldI_of c2 (Pick_ok (by omega) (by omega) ?_)
    have p1 := pick_lt (n := x.A) (m := 3) (by omega)
    have p2 := pick_lt (n := x.B) (m := 3) (by omega)
    simp only [asI_mk', asB_mk, asP_mk, asA_mk, asM_mk, asSl_mk, asStr_mk, tup2_mk, tup3_mk, agg1_mk, agg2_mk, agg3_mk, agg4_mk, asAggm, unCons_mk, unNil_mk, asTup_mk, extractD0, extractD1, List.toList_toArray, nilP_mk, add_mk, Nat.zero_add, Nat.add_zero, condT, condF, Bool.not_true, Bool.not_false, Option.isNone_some, Option.isNone_none]
    refine ⟨ldI_of c2 rfl, Pick_ok (by omega) (by omega) ?_⟩
    simp only [asI_mk', asB_mk, asP_mk, asA_mk, asM_mk, asSl_mk, asStr_mk, tup2_mk, tup3_mk, agg1_mk, agg2_mk, agg3_mk, agg4_mk, asAggm, unCons_mk, unNil_mk, asTup_mk, extractD0, extractD1, List.toList_toArray, nilP_mk, add_mk, Nat.zero_add, Nat.add_zero, condT, condF, Bool.not_true, Bool.not_false, Option.isNone_some, Option.isNone_none]
    have e0 : IntKind.min .i64 = -9223372036854775808 := by decide
    have e1 : IntKind.max .i64 = 9223372036854775807 := by decide
    refine hMakeC h3 (i := 0) rfl (by omega) (by omega) fun H4 h4 => ?_
    simp only [asI_mk', asB_mk, asP_mk, asA_mk, asM_mk, asSl_mk, asStr_mk, tup2_mk, tup3_mk, agg1_mk, agg2_mk, agg3_mk, agg4_mk, asAggm, unCons_mk, unNil_mk, asTup_mk, extractD0, extractD1, List.toList_toArray, nilP_mk, add_mk, Nat.zero_add, Nat.add_zero, condT, condF, Bool.not_true, Bool.not_false, Option.isNone_some, Option.isNone_none]
    have hw3 : IntKind.u64.wrap (s.last + 1) = s.last + 1 := wrap_u64' (by omega) (by omega)
    rw [hw3]
    intro R44 hR44
    rcases hMake_cases s (pick x.A 3) (pick x.B 3) with ⟨a1, a2, a3⟩ | ⟨a1, a2, a3⟩
    · have hR44 : R44 H4 := hR44 H4 (bif_eq a1 (hR19 _ _ H4 (by rw [a3, a2]) h4))
      exact bif_eq a1 (bif_neqf a2 (bif_neqf a1 hR44))
    · have hR44 : R44 H4 := hR44 H4 (bif_ne a1 (hR19 _ _ H4 (by rw [a3]) h4))
      exact bif_ne a1 (bif_neq a1 (bif_neqf a2 hR44))
  · refine bif_ne hw (idxA_of rr (by omega) hlt fun b' o' hp' _ => ?_)
    obtain ⟨rfl, rfl⟩ : b1 = b' ∧ o1 = o' := by rw [hp] at hp'; simpa using hp'
    simp only [asI_mk', asB_mk, asP_mk, asA_mk, asM_mk, asSl_mk, asStr_mk, tup2_mk, tup3_mk, agg1_mk, agg2_mk, agg3_mk, agg4_mk, asAggm, unCons_mk, unNil_mk, asTup_mk, extractD0, extractD1, List.toList_toArray, nilP_mk, add_mk, Nat.zero_add, Nat.add_zero, condT, condF, Bool.not_true, Bool.not_false, Option.isNone_some, Option.isNone_none]
    refine ldI_of c3 ?_
    have w1 : IntKind.i64.wrap ((j : Int) + 1) = j + 1 := wrap_i64 (by omega) (by omega)
    have w2 : IntKind.u64.wrap ((j : Int) + 1) = j + 1 := wrap_u64' (by omega) (by omega)
    rw [w1, w2]
    refine ⟨by omega, hNextC h3 (i := 0) rfl fun H4 h4 => ?_⟩
    simp only [asI_mk', asB_mk, asP_mk, asA_mk, asM_mk, asSl_mk, asStr_mk, tup2_mk, tup3_mk, agg1_mk, agg2_mk, agg3_mk, agg4_mk, asAggm, unCons_mk, unNil_mk, asTup_mk, extractD0, extractD1, List.toList_toArray, nilP_mk, add_mk, Nat.zero_add, Nat.add_zero, condT, condF, Bool.not_true, Bool.not_false, Option.isNone_some, Option.isNone_none]
    cases hb : (hNext s (IntKind.u64.wrap (la + Int.tmod x.Serial ((j : Int) + 1)))).2
    · simp only [asI_mk', asB_mk, asP_mk, asA_mk, asM_mk, asSl_mk, asStr_mk, tup2_mk, tup3_mk, agg1_mk, agg2_mk, agg3_mk, agg4_mk, asAggm, unCons_mk, unNil_mk, asTup_mk, extractD0, extractD1, List.toList_toArray, nilP_mk, add_mk, Nat.zero_add, Nat.add_zero, condT, condF, Bool.not_true, Bool.not_false, Option.isNone_some, Option.isNone_none]
      exact hR19 _ s H4 rfl h4
    · simp only [asI_mk', asB_mk, asP_mk, asA_mk, asM_mk, asSl_mk, asStr_mk, tup2_mk, tup3_mk, agg1_mk, agg2_mk, agg3_mk, agg4_mk, asAggm, unCons_mk, unNil_mk, asTup_mk, extractD0, extractD1, List.toList_toArray, nilP_mk, add_mk, Nat.zero_add, Nat.add_zero, condT, condF, Bool.not_true, Bool.not_false, Option.isNone_some, Option.isNone_none]
      refine hFreeC h4 (i := 0) rfl fun H5 h5 => ?_
      simp only [asI_mk', asB_mk, asP_mk, asA_mk, asM_mk, asSl_mk, asStr_mk, tup2_mk, tup3_mk, agg1_mk, agg2_mk, agg3_mk, agg4_mk, asAggm, unCons_mk, unNil_mk, asTup_mk, extractD0, extractD1, List.toList_toArray, nilP_mk, add_mk, Nat.zero_add, Nat.add_zero, condT, condF, Bool.not_true, Bool.not_false, Option.isNone_some, Option.isNone_none]
      refine bif_neqf (hNext_free ho hb) (hR19 _ _ H5 ?_ h5)
      unfold hFree
      split <;> rfl

/-- The numbers of an object of which the first j are written. -/
def valsTo (v : Int) (n j : Nat) : List Int := (List.range n).map fun i => if i < j then IntKind.u64.wrap (v + IntKind.u64.wrap (i : Int)) else 0
theorem valsTo_len {v : Int} {n j : Nat} : (valsTo v n j).length = n := by simp [valsTo]
theorem valsTo_get {v : Int} {n j i : Nat} (hi : i < n) : (valsTo v n j).getD i 0 = if i < j then IntKind.u64.wrap (v + IntKind.u64.wrap (i : Int)) else 0 := by
  simp [valsTo, List.getD_eq_getElem?_getD, hi]
theorem valsTo_zero {v : Int} {n : Nat} : valsTo v n 0 = List.replicate n 0 := by
  apply List.ext_getElem?
  intro i
  by_cases hi : i < n <;> simp [valsTo, hi]
theorem valsTo_set {v : Int} {n j : Nat} (hj : j < n) : (valsTo v n j).set j (IntKind.u64.wrap (v + IntKind.u64.wrap (j : Int))) = valsTo v n (j + 1) := by
  apply List.ext_getElem?
  intro i
  rw [List.getElem?_set]
  by_cases hi : i < n
  · by_cases e : j = i
    · subst e
      simp [valsTo, hi]
    · simp [valsTo, hi, e]
      by_cases h : i < j
      · rw [if_pos h, if_pos (by omega)]
      · rw [if_neg h, if_neg (by omega)]
  · simp [valsTo, hi]
    intro e
    omega

set_option maxRecDepth 20000 in
theorem HeapOwn_ok {refs vals v : Int} {H : Hp} {K : Value → Hp → Prop} (hr : IntKind.min .i64 ≤ refs ∧ refs ≤ IntKind.max .i64) (hv : IntKind.min .i64 ≤ vals ∧ vals ≤ IntKind.max .i64) (hw : IntKind.min .u64 ≤ v ∧ v ≤ IntKind.max .u64)
    (hK : ∀ H', Keep Nothing H H' → K (.bool true) H') : hcall PR f_law8_HeapOwn ⟨[.int .i64 refs, .int .i64 vals, .int .u64 v]⟩ H K := by
  apply den_law8_HeapOwn
  unfold B_law8_HeapOwn
  refine hNewOk (m := 4) (by decide) (by decide) (by decide) (by decide) (by decide) (St.start H) fun b H1 h1 => ?_
  simp only [asI_mk', asB_mk, asP_mk, asA_mk, asM_mk, asSl_mk, asStr_mk, tup2_mk, tup3_mk, agg1_mk, agg2_mk, agg3_mk, agg4_mk, asAggm, unCons_mk, unNil_mk, asTup_mk, extractD0, extractD1, List.toList_toArray, nilP_mk, add_mk, Nat.zero_add, Nat.add_zero, condT, condF, Bool.not_true, Bool.not_false, Option.isNone_some, Option.isNone_none]
  refine known8_ok h1 fun H2 h2 => ?_
  simp only [asI_mk', asB_mk, asP_mk, asA_mk, asM_mk, asSl_mk, asStr_mk, tup2_mk, tup3_mk, agg1_mk, agg2_mk, agg3_mk, agg4_mk, asAggm, unCons_mk, unNil_mk, asTup_mk, extractD0, extractD1, List.toList_toArray, nilP_mk, add_mk, Nat.zero_add, Nat.add_zero, condT, condF, Bool.not_true, Bool.not_false, Option.isNone_some, Option.isNone_none]
  refine bif_neqf rfl (Pick_ok (by omega) (by omega) ?_)
  simp only [asI_mk', asB_mk, asP_mk, asA_mk, asM_mk, asSl_mk, asStr_mk, tup2_mk, tup3_mk, agg1_mk, agg2_mk, agg3_mk, agg4_mk, asAggm, unCons_mk, unNil_mk, asTup_mk, extractD0, extractD1, List.toList_toArray, nilP_mk, add_mk, Nat.zero_add, Nat.add_zero, condT, condF, Bool.not_true, Bool.not_false, Option.isNone_some, Option.isNone_none]
  refine Pick_ok (by omega) (by omega) ?_
  simp only [asI_mk', asB_mk, asP_mk, asA_mk, asM_mk, asSl_mk, asStr_mk, tup2_mk, tup3_mk, agg1_mk, agg2_mk, agg3_mk, agg4_mk, asAggm, unCons_mk, unNil_mk, asTup_mk, extractD0, extractD1, List.toList_toArray, nilP_mk, add_mk, Nat.zero_add, Nat.add_zero, condT, condF, Bool.not_true, Bool.not_false, Option.isNone_some, Option.isNone_none]
  have p1 := pick_lt (n := refs) (m := 8) (by omega)
  have p2 := pick_lt (n := vals) (m := 8) (by omega)
  generalize pick refs 8 = n at *
  generalize pick vals 8 = m at *
  obtain ⟨n, rfl⟩ : ∃ k : Nat, n = k := ⟨n.toNat, by omega⟩
  obtain ⟨m, rfl⟩ : ∃ k : Nat, m = k := ⟨m.toNat, by omega⟩
  have e0 : IntKind.min .i64 = -9223372036854775808 := by decide
  have e1 : IntKind.max .i64 = 9223372036854775807 := by decide
  have hok2 := heap_ok h2 (i := 0) rfl
  refine hMakeC h2 (i := 0) rfl (by omega) (by omega) fun H3 h3 => ?_
  obtain ⟨s, c, g0, g1, g2, g3, g4, g5, g6⟩ := hMake_good' (s := newHs 3 4 0 4) (r := n) (v := m) hok2 (by omega) (by omega) (by decide) (by decide) (by show 0 < frees (List.replicate 4 noBlk); rw [frees_new]; omega)
  rw [g0] at h3 ⊢
  have h3 : St H [HeapP b s] H3 := h3
  simp only [asI_mk', asB_mk, asP_mk, asA_mk, asM_mk, asSl_mk, asStr_mk, tup2_mk, tup3_mk, agg1_mk, agg2_mk, agg3_mk, agg4_mk, asAggm, unCons_mk, unNil_mk, asTup_mk, extractD0, extractD1, List.toList_toArray, nilP_mk, add_mk, Nat.zero_add, Nat.add_zero, condT, condF, Bool.not_true, Bool.not_false, Option.isNone_some, Option.isNone_none]
  refine bif_neqf rfl ?_
  have g1 : s.last = 1 := g1
  have g4 : s.obs = [⟨1, c, List.replicate n noId, valsTo v m 0, 0⟩] := by rw [g4, valsTo_zero]; rfl
  rw [show (newHs 3 4 0 4).last + 1 = 1 by rfl]
  refine ⟨fun i H' => ∃ (j : Nat) (s : Hs), i = j ∧ j ≤ m ∧ s.obs = [⟨1, c, List.replicate n noId, valsTo v m j, 0⟩] ∧ St H [HeapP b s] H', fun i _ => (m - i).toNat, ⟨0, s, rfl, by omega, g4, h3⟩, ?_⟩
  clear h3 g0 g1 g2 g3 g4 g5 g6 hok2
  rintro i H4 ⟨j, s, rfl, hj, hs, h4⟩
  by_cases hlt : (j : Int) < m
  · refine bif_pos hlt (hSetValC h4 (i := 0) rfl fun H5 h5 => ?_)
    simp only [asI_mk', asB_mk, asP_mk, asA_mk, asM_mk, asSl_mk, asStr_mk, tup2_mk, tup3_mk, agg1_mk, agg2_mk, agg3_mk, agg4_mk, asAggm, unCons_mk, unNil_mk, asTup_mk, extractD0, extractD1, List.toList_toArray, nilP_mk, add_mk, Nat.zero_add, Nat.add_zero, condT, condF, Bool.not_true, Bool.not_false, Option.isNone_some, Option.isNone_none]
    rw [wrap_i64 (by omega) (by omega)]
    have hv : (hVal s 1 j).2 = 0 := by simp [hVal, hGet, hs, valsTo_len, hlt]
    have he : (hSetVal s 1 (j : Int) (IntKind.u64.wrap (v + IntKind.u64.wrap (j : Int)))).2.obs = [⟨1, c, List.replicate n noId, valsTo v m (j + 1), 0⟩] := by
      simp only [hSetVal, hv, if_true, hPut, hs, List.map_cons, List.map_nil, Int.toNat_natCast]
      rw [valsTo_set (by omega)]
    exact ⟨⟨j + 1, _, by omega, by omega, he, h5⟩, by (try dsimp only); omega⟩
  refine bif_neg hlt ?_
  obtain rfl : j = m := by omega
  clear hlt hj
  have hg : hGet s 1 = some ⟨1, c, List.replicate n noId, valsTo v j j, 0⟩ := by simp [hGet, hs]
  refine hObjC h4 (i := 0) rfl (fun e => by rw [hg] at e; cases e) fun o ho p cp q cq H5 h5 => ?_
  rw [hg] at ho
  cases ho
  simp only [asI_mk', asB_mk, asP_mk, asA_mk, asM_mk, asSl_mk, asStr_mk, tup2_mk, tup3_mk, agg1_mk, agg2_mk, agg3_mk, agg4_mk, asAggm, unCons_mk, unNil_mk, asTup_mk, extractD0, extractD1, List.toList_toArray, nilP_mk, add_mk, Nat.zero_add, Nat.add_zero, condT, condF, Bool.not_true, Bool.not_false, Option.isNone_some, Option.isNone_none]
  refine box5 h5 fun b57 H6 h6 => ?_
  refine ⟨fun i H' => ∃ (k : Nat) (xs : List Value), i = k ∧ k ≤ n ∧ St H [Prt.one b57 (.cells #[.int .u64 1, .int .i64 c, .slice p (List.replicate n noId).length cp, .slice q (valsTo v j j).length cq, .int .i64 0] ty_api_Object (0, 0)), Prt.row 2 p (List.replicate n noId).length cp xs, Prt.row 1 q (valsTo v j j).length cq ((valsTo v j j).map (Value.int .u64)), HeapP b s] H', fun i _ => (n - i).toNat, ⟨0, _, rfl, by omega, h6⟩, ?_⟩
  rintro i H7 ⟨k, xs, rfl, hk, h7⟩
  refine ldSl_of (h7.cell (i := 0) (o := 2) rfl rfl) ?_
  have hlen1 : (List.replicate n noId).length = n := by simp
  have hlen2 : (valsTo v j j).length = j := valsTo_len
  by_cases hlt : (k : Int) < ((List.replicate n noId).length : Int)
  · refine bif_pos hlt (ldSl_of (h7.cell (i := 0) (o := 2) rfl rfl) (idxA_of (h7.row_rd (i := 1) rfl) (by omega) hlt fun b' o' hp _ => ?_))
    refine h7.poke (i := 1) rfl hp (by simp; omega) fun H8 h8 => ?_
    simp only [asI_mk', asB_mk, asP_mk, asA_mk, asM_mk, asSl_mk, asStr_mk, tup2_mk, tup3_mk, agg1_mk, agg2_mk, agg3_mk, agg4_mk, asAggm, unCons_mk, unNil_mk, asTup_mk, extractD0, extractD1, List.toList_toArray, nilP_mk, add_mk, Nat.zero_add, Nat.add_zero, condT, condF, Bool.not_true, Bool.not_false, Option.isNone_some, Option.isNone_none]
    rw [Nat.add_assoc]
    refine h8.poke (i := 1) rfl hp (by simp; omega) fun H9 h9 => ?_
    rw [wrap_i64 (by omega) (by omega)]
    exact ⟨⟨k + 1, _, by omega, by omega, h9⟩, by (try dsimp only); omega⟩
  refine bif_neg hlt ?_
  refine ⟨fun i H' => ∃ (k : Nat) (ys : List Value), i = k ∧ k ≤ j ∧ St H [Prt.one b57 (.cells #[.int .u64 1, .int .i64 c, .slice p (List.replicate n noId).length cp, .slice q (valsTo v j j).length cq, .int .i64 0] ty_api_Object (0, 0)), Prt.row 2 p (List.replicate n noId).length cp xs, Prt.row 1 q (valsTo v j j).length cq ys, HeapP b s] H', fun i _ => (j - i).toNat, ⟨0, _, rfl, by omega, h7⟩, ?_⟩
  clear h7 hlt hk k
  rintro i H8 ⟨k, ys, rfl, hk, h8⟩
  refine ldSl_of (h8.cell (i := 0) (o := 3) rfl rfl) ?_
  by_cases hlt : (k : Int) < ((valsTo v j j).length : Int)
  · refine bif_pos hlt (ldSl_of (h8.cell (i := 0) (o := 3) rfl rfl) (idxA_of (h8.row_rd (i := 2) rfl) (by omega) hlt fun b' o' hp _ => ?_))
    refine h8.poke (i := 2) rfl hp (by omega) fun H9 h9 => ?_
    rw [wrap_i64 (by omega) (by omega)]
    exact ⟨⟨k + 1, _, by omega, by omega, h9⟩, by (try dsimp only); omega⟩
  refine bif_neg hlt ?_
  refine hObjC h8 (i := 3) rfl (fun e => by rw [hg] at e; cases e) fun o ho p2 cp2 q2 cq2 H9 h9 => ?_
  rw [hg] at ho
  cases ho
  simp only [asI_mk', asB_mk, asP_mk, asA_mk, asM_mk, asSl_mk, asStr_mk, tup2_mk, tup3_mk, agg1_mk, agg2_mk, agg3_mk, agg4_mk, asAggm, unCons_mk, unNil_mk, asTup_mk, extractD0, extractD1, List.toList_toArray, nilP_mk, add_mk, Nat.zero_add, Nat.add_zero, condT, condF, Bool.not_true, Bool.not_false, Option.isNone_some, Option.isNone_none]
  refine box5 h9 fun b114 H10 h10 => ?_
  refine ldSl_of (h10.cell (i := 0) (o := 2) rfl rfl) (bif_neqf (by omega) (ldSl_of (h10.cell (i := 0) (o := 3) rfl rfl) (bif_neqf (by omega) ?_)))
  have r1 := h10.row_rd (i := 1) rfl
  have r2 := h10.row_rd (i := 2) rfl
  refine ⟨fun i H' => H' = H10 ∧ ∃ k : Nat, i = k ∧ k ≤ n, fun i _ => (n - i).toNat, ⟨rfl, 0, rfl, by omega⟩, ?_⟩
  rintro i H' ⟨hH, k, rfl, hk⟩
  subst hH
  by_cases hlt : (k : Int) < n
  · refine bif_pos hlt (ldSl_of (h10.cell (i := 0) (o := 2) rfl rfl) (idxS Id.len noId r1 (by omega) (by omega) (by omega) fun b' o' _ hl hcc => ?_))
    have c0 := hcc 0 (by omega)
    have c1 := hcc 1 (by omega)
    have : (List.replicate n noId).getD (k : Int).toNat noId = noId := by rw [List.getD_eq_getElem?_getD, List.getElem?_replicate]; split <;> rfl
    rw [this] at c0 c1
    simp only [asI_mk', asB_mk, asP_mk, asA_mk, asM_mk, asSl_mk, asStr_mk, tup2_mk, tup3_mk, agg1_mk, agg2_mk, agg3_mk, agg4_mk, asAggm, unCons_mk, unNil_mk, asTup_mk, extractD0, extractD1, List.toList_toArray, nilP_mk, add_mk, Nat.zero_add, Nat.add_zero, condT, condF, Bool.not_true, Bool.not_false, Option.isNone_some, Option.isNone_none]
    refine ldI_of c0 (ldI_of c1 (idNe ?_))
    simp only [decide_true]
    simp only [asI_mk', asB_mk, asP_mk, asA_mk, asM_mk, asSl_mk, asStr_mk, tup2_mk, tup3_mk, agg1_mk, agg2_mk, agg3_mk, agg4_mk, asAggm, unCons_mk, unNil_mk, asTup_mk, extractD0, extractD1, List.toList_toArray, nilP_mk, add_mk, Nat.zero_add, Nat.add_zero, condT, condF, Bool.not_true, Bool.not_false, Option.isNone_some, Option.isNone_none]
    rw [wrap_i64 (by omega) (by omega)]
    exact ⟨⟨by trivial, k + 1, by omega, by omega⟩, by (try dsimp only); omega⟩
  refine bif_neg hlt ?_
  refine ⟨fun i H'' => H'' = H' ∧ ∃ k : Nat, i = k ∧ k ≤ j, fun i _ => (j - i).toNat, ⟨rfl, 0, rfl, by omega⟩, ?_⟩
  rintro i H'' ⟨hH, k, rfl, hk⟩
  subst hH
  by_cases hlt : (k : Int) < j
  · refine bif_pos hlt (ldSl_of (h10.cell (i := 0) (o := 3) rfl rfl) (idx1 (d := 0) r2 (by omega) (by omega) fun b' o' _ hcc => ldI_of hcc ?_))
    rw [Int.toNat_natCast, valsTo_get (by omega), if_pos (by omega)]
    refine bif_neqf rfl ?_
    rw [wrap_i64 (by omega) (by omega)]
    exact ⟨⟨by trivial, k + 1, by omega, by omega⟩, by (try dsimp only); omega⟩
  exact bif_neg hlt (hK _ h10.keep)

end Go.Proofs.Ytohlnmenghbgbaa
