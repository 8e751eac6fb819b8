/- Merged by merge.py: DenLaw8, DenLaw8HeapPlays, DenLaw8HeapSmall, Law8k, Law8p, Law8s. No condition. -/
import Derived.Test.YtohlnmenghbgbaaZNum
import Derived.Test.YtohlnmenghbgbaaZHeap
import Derived.Test.YtohlnmenghbgbaaZGraph
import Derived.Test.YtohlnmenghbgbaaZBase

/- PRINTED by gen.py: functions as plain propositions, held against the program by the kernel. No condition. -/
namespace Go.Proofs.Ytohlnmenghbgbaa
open Go
set_option linter.unusedVariables false
set_option maxRecDepth 100000

def B_law8_known  (H : Hp) (K : Value → Hp → Prop) : Prop :=
 hcall PR f_heap_New ⟨[(.int .i64 1), (.int .i64 16), (.int .i64 2), (.int .u64 5)]⟩ H fun v1 Hx2 =>
 tup2 v1 fun v3 v4 =>
 asP v3 fun t5 =>
 asI .i64 v4 fun t6 =>
 (bif ((t6 : Int) != 0) then
 K (.bool false) Hx2
else
 (bif (Option.isNone (α := Addr) t5) then
 K (.bool false) Hx2
else
 hcall PR f_heap_Heap_Make ⟨[(.pointer t5), (.int .i64 1), (.int .i64 1)]⟩ Hx2 fun v7 Hx8 =>
 tup2 v7 fun v9 v10 =>
 asI .u64 v9 fun t11 =>
 asI .i64 v10 fun t12 =>
 hcall PR f_heap_Heap_Ref ⟨[(.pointer t5), (.int .u64 6), (.int .i64 0)]⟩ Hx8 fun v13 Hx14 =>
 tup2 v13 fun v15 v16 =>
 agg2 v15 fun v17 v18 =>
 asI .i64 v17 fun Node19 =>
 asI .u64 v18 fun Serial20 =>
 asI .i64 v16 fun t21 =>
 newB (.cells #[(.int .i64 0), (.int .u64 0)] ty_api_ID) Hx14 fun b22 Hx23 =>
 st ⟨b22, 0, none⟩ (.int .i64 Node19) Hx23 fun Hx24 =>
 st ⟨b22, 1, none⟩ (.int .u64 Serial20) Hx24 fun Hx25 =>
 hcall PR f_heap_Heap_SetRef ⟨[(.pointer t5), (.int .u64 6), (.int .i64 0), (.agg #[(.int .i64 2), (.int .u64 9)])]⟩ Hx25 fun v26 Hx27 =>
 tup2 v26 fun v28 v29 =>
 agg2 v28 fun v30 v31 =>
 asI .i64 v30 fun Node32 =>
 asI .u64 v31 fun Serial33 =>
 asI .i64 v29 fun t34 =>
 newB (.cells #[(.int .i64 0), (.int .u64 0)] ty_api_ID) Hx27 fun b35 Hx36 =>
 st ⟨b35, 0, none⟩ (.int .i64 Node32) Hx36 fun Hx37 =>
 st ⟨b35, 1, none⟩ (.int .u64 Serial33) Hx37 fun Hx38 =>
 hcall PR f_heap_Heap_Ref ⟨[(.pointer t5), (.int .u64 6), (.int .i64 0)]⟩ Hx38 fun v39 Hx40 =>
 tup2 v39 fun v41 v42 =>
 agg2 v41 fun v43 v44 =>
 asI .i64 v43 fun Node45 =>
 asI .u64 v44 fun Serial46 =>
 asI .i64 v42 fun t47 =>
 newB (.cells #[(.int .i64 0), (.int .u64 0)] ty_api_ID) Hx40 fun b48 Hx49 =>
 st ⟨b48, 0, none⟩ (.int .i64 Node45) Hx49 fun Hx50 =>
 st ⟨b48, 1, none⟩ (.int .u64 Serial46) Hx50 fun Hx51 =>
 (bif ((t11 : Int) == 6) then
 (bif ((t12 : Int) == 0) then
 ldI .i64 ⟨b22, 0, none⟩ Hx51 fun Node52 =>
 ldI .u64 ⟨b22, 1, none⟩ Hx51 fun Serial53 =>
 evR PR (aggEq .eql ty_api_ID #[(.int .i64 Node52), (.int .u64 Serial53)] #[(.int .i64 0), (.int .u64 0)]) Hx51 fun v54 =>
 asB v54 fun eq55 =>
 (bif eq55 then
 (bif ((t21 : Int) == 0) then
 (bif ((t34 : Int) == 0) then
 ldI .i64 ⟨b48, 0, none⟩ Hx51 fun Node56 =>
 ldI .u64 ⟨b48, 1, none⟩ Hx51 fun Serial57 =>
 evR PR (aggEq .eql ty_api_ID #[(.int .i64 Node56), (.int .u64 Serial57)] #[(.int .i64 2), (.int .u64 9)]) Hx51 fun v58 =>
 asB v58 fun eq59 =>
 K (.bool eq59) Hx51
else
 K (.bool false) Hx51)
else
 K (.bool false) Hx51)
else
 K (.bool false) Hx51)
else
 K (.bool false) Hx51)
else
 K (.bool false) Hx51)))
theorem E_law8_known  (H : Hp) (K : Value → Hp → Prop) : B_law8_known  H K = denF Try.prog Try.f27 .n [] H K := by kernel_rfl
theorem den_law8_known  {H : Hp} {K : Value → Hp → Prop} (h : B_law8_known  H K) : hcall PR f_law8_known ⟨[]⟩ H K := denF_call Try.func27 PR_mixed (Eq.mp (E_law8_known  H K) h)

def B_law8_fill (h1 : Option Addr) (r2 : Option Addr) (xWhat3 : Int) (xA4 : Int) (xB5 : Int) (xSerial6 : Int) (xV7 : Int) (xNode8 : Int) (xSerial9 : Int) (xNear10 : Bool) (H : Hp) (K : Value → Hp → Prop) : Prop :=
 newB (.cells #[(.int .i64 xWhat3), (.int .i64 xA4), (.int .i64 xB5), (.int .u64 xSerial6), (.int .u64 xV7), (.int .i64 xNode8), (.int .u64 xSerial9), (.bool xNear10)] ty_law8_Step) H fun b11 Hx12 =>
 ldI .u64 ⟨b11, 3, none⟩ Hx12 fun Serial13 =>
 ∀ R14 : Int → Hp → Prop, (∀ s16 : Int, ∀ Hx15 : Hp, (
 ldI .i64 ⟨b11, 0, none⟩ Hx15 fun What17 =>
 hcall PR f_hand_Pick ⟨[(.int .i64 What17), (.int .i64 9)]⟩ Hx15 fun v18 Hx19 =>
 asI .i64 v18 fun t20 =>
 (bif ((t20 : Int) == 2) then
 ldI .i64 ⟨b11, 1, none⟩ Hx19 fun A21 =>
 ldI .i64 ⟨b11, 5, none⟩ Hx19 fun Node22 =>
 ldI .u64 ⟨b11, 6, none⟩ Hx19 fun Serial23 =>
 hcall PR f_heap_Heap_SetRef ⟨[(.pointer h1), (.int .u64 s16), (.int .i64 A21), (.agg #[(.int .i64 Node22), (.int .u64 Serial23)])]⟩ Hx19 fun v24 Hx25 =>
 tup2 v24 fun v26 v27 =>
 agg2 v26 fun v28 v29 =>
 asI .i64 v28 fun Node30 =>
 asI .u64 v29 fun Serial31 =>
 asI .i64 v27 fun t32 =>
 newB (.cells #[(.int .i64 0), (.int .u64 0)] ty_api_ID) Hx25 fun b33 Hx34 =>
 st ⟨b33, 0, none⟩ (.int .i64 Node30) Hx34 fun Hx35 =>
 st ⟨b33, 1, none⟩ (.int .u64 Serial31) Hx35 fun Hx36 =>
 ldI .i64 ⟨b11, 1, none⟩ Hx36 fun A37 =>
 ldI .i64 ⟨b11, 5, none⟩ Hx36 fun Node38 =>
 ldI .u64 ⟨b11, 6, none⟩ Hx36 fun Serial39 =>
 hcall PR f_ref8_Heap_SetRef ⟨[(.pointer r2), (.int .u64 s16), (.int .i64 A37), (.agg #[(.int .i64 Node38), (.int .u64 Serial39)])]⟩ Hx36 fun v40 Hx41 =>
 tup2 v40 fun v42 v43 =>
 agg2 v42 fun v44 v45 =>
 asI .i64 v44 fun Node46 =>
 asI .u64 v45 fun Serial47 =>
 asI .i64 v43 fun t48 =>
 newB (.cells #[(.int .i64 0), (.int .u64 0)] ty_api_ID) Hx41 fun b49 Hx50 =>
 st ⟨b49, 0, none⟩ (.int .i64 Node46) Hx50 fun Hx51 =>
 st ⟨b49, 1, none⟩ (.int .u64 Serial47) Hx51 fun Hx52 =>
 ldI .i64 ⟨b33, 0, none⟩ Hx52 fun Node53 =>
 ldI .u64 ⟨b33, 1, none⟩ Hx52 fun Serial54 =>
 ldI .i64 ⟨b49, 0, none⟩ Hx52 fun Node55 =>
 ldI .u64 ⟨b49, 1, none⟩ Hx52 fun Serial56 =>
 evR PR (aggEq .eql ty_api_ID #[(.int .i64 Node53), (.int .u64 Serial54)] #[(.int .i64 Node55), (.int .u64 Serial56)]) Hx52 fun v57 =>
 asB v57 fun eq58 =>
 (bif eq58 then
 K (.bool ((t32 : Int) == t48)) Hx52
else
 K (.bool false) Hx52)
else
 (bif ((t20 : Int) == 3) then
 ldI .i64 ⟨b11, 1, none⟩ Hx19 fun A59 =>
 ldI .u64 ⟨b11, 4, none⟩ Hx19 fun V60 =>
 ldI .i64 ⟨b11, 1, none⟩ Hx19 fun A61 =>
 ldI .u64 ⟨b11, 4, none⟩ Hx19 fun V62 =>
 hcall PR f_heap_Heap_SetVal ⟨[(.pointer h1), (.int .u64 s16), (.int .i64 A59), (.int .u64 V60)]⟩ Hx19 fun v63 Hx64 =>
 asI .i64 v63 fun t65 =>
 (ldI .u64 ⟨b11, 4, none⟩ Hx64 fun V66 =>
 ((.int .u64 V66) : Value) = (.int .u64 V62)) ∧
 (ldI .i64 ⟨b11, 1, none⟩ Hx64 fun A67 =>
 ((.int .i64 A67) : Value) = (.int .i64 A61)) ∧
 hcall PR f_ref8_Heap_SetVal ⟨[(.pointer r2), (.int .u64 s16), (.int .i64 A61), (.int .u64 V62)]⟩ Hx64 fun v68 Hx69 =>
 asI .i64 v68 fun t70 =>
 K (.bool ((t65 : Int) == t70)) Hx69
else
 (bif ((t20 : Int) == 4) then
 ldI .i64 ⟨b11, 1, none⟩ Hx19 fun A71 =>
 ldI .i64 ⟨b11, 1, none⟩ Hx19 fun A72 =>
 hcall PR f_heap_Heap_SetIn ⟨[(.pointer h1), (.int .u64 s16), (.int .i64 A71)]⟩ Hx19 fun v73 Hx74 =>
 asI .i64 v73 fun t75 =>
 (ldI .i64 ⟨b11, 1, none⟩ Hx74 fun A76 =>
 ((.int .i64 A76) : Value) = (.int .i64 A72)) ∧
 hcall PR f_ref8_Heap_SetIn ⟨[(.pointer r2), (.int .u64 s16), (.int .i64 A72)]⟩ Hx74 fun v77 Hx78 =>
 asI .i64 v77 fun t79 =>
 K (.bool ((t75 : Int) == t79)) Hx78
else
 (bif ((t20 : Int) == 5) then
 hcall PR f_heap_Heap_Free ⟨[(.pointer h1), (.int .u64 s16)]⟩ Hx19 fun v80 Hx81 =>
 asI .i64 v80 fun t82 =>
 hcall PR f_ref8_Heap_Free ⟨[(.pointer r2), (.int .u64 s16)]⟩ Hx81 fun v83 Hx84 =>
 asI .i64 v83 fun t85 =>
 K (.bool ((t82 : Int) == t85)) Hx84
else
 (bif ((t20 : Int) == 6) then
 ldI .i64 ⟨b11, 1, none⟩ Hx19 fun A86 =>
 hcall PR f_heap_Heap_Ref ⟨[(.pointer h1), (.int .u64 s16), (.int .i64 A86)]⟩ Hx19 fun v87 Hx88 =>
 tup2 v87 fun v89 v90 =>
 agg2 v89 fun v91 v92 =>
 asI .i64 v91 fun Node93 =>
 asI .u64 v92 fun Serial94 =>
 asI .i64 v90 fun t95 =>
 newB (.cells #[(.int .i64 0), (.int .u64 0)] ty_api_ID) Hx88 fun b96 Hx97 =>
 st ⟨b96, 0, none⟩ (.int .i64 Node93) Hx97 fun Hx98 =>
 st ⟨b96, 1, none⟩ (.int .u64 Serial94) Hx98 fun Hx99 =>
 ldI .i64 ⟨b11, 1, none⟩ Hx99 fun A100 =>
 hcall PR f_ref8_Heap_Ref ⟨[(.pointer r2), (.int .u64 s16), (.int .i64 A100)]⟩ Hx99 fun v101 Hx102 =>
 tup2 v101 fun v103 v104 =>
 agg2 v103 fun v105 v106 =>
 asI .i64 v105 fun Node107 =>
 asI .u64 v106 fun Serial108 =>
 asI .i64 v104 fun t109 =>
 newB (.cells #[(.int .i64 0), (.int .u64 0)] ty_api_ID) Hx102 fun b110 Hx111 =>
 st ⟨b110, 0, none⟩ (.int .i64 Node107) Hx111 fun Hx112 =>
 st ⟨b110, 1, none⟩ (.int .u64 Serial108) Hx112 fun Hx113 =>
 ldI .i64 ⟨b96, 0, none⟩ Hx113 fun Node114 =>
 ldI .u64 ⟨b96, 1, none⟩ Hx113 fun Serial115 =>
 ldI .i64 ⟨b110, 0, none⟩ Hx113 fun Node116 =>
 ldI .u64 ⟨b110, 1, none⟩ Hx113 fun Serial117 =>
 evR PR (aggEq .eql ty_api_ID #[(.int .i64 Node114), (.int .u64 Serial115)] #[(.int .i64 Node116), (.int .u64 Serial117)]) Hx113 fun v118 =>
 asB v118 fun eq119 =>
 (bif eq119 then
 K (.bool ((t95 : Int) == t109)) Hx113
else
 K (.bool false) Hx113)
else
 (bif ((t20 : Int) == 7) then
 ldI .i64 ⟨b11, 1, none⟩ Hx19 fun A120 =>
 hcall PR f_heap_Heap_Val ⟨[(.pointer h1), (.int .u64 s16), (.int .i64 A120)]⟩ Hx19 fun v121 Hx122 =>
 tup2 v121 fun v123 v124 =>
 asI .u64 v123 fun t125 =>
 asI .i64 v124 fun t126 =>
 ldI .i64 ⟨b11, 1, none⟩ Hx122 fun A127 =>
 hcall PR f_ref8_Heap_Val ⟨[(.pointer r2), (.int .u64 s16), (.int .i64 A127)]⟩ Hx122 fun v128 Hx129 =>
 tup2 v128 fun v130 v131 =>
 asI .u64 v130 fun t132 =>
 asI .i64 v131 fun t133 =>
 (bif ((t125 : Int) == t132) then
 K (.bool ((t126 : Int) == t133)) Hx129
else
 K (.bool false) Hx129)
else
 (bif ((t20 : Int) == 8) then
 hcall PR f_heap_Heap_Next ⟨[(.pointer h1), (.int .u64 s16)]⟩ Hx19 fun v134 Hx135 =>
 tup2 v134 fun v136 v137 =>
 asI .u64 v136 fun t138 =>
 asB v137 fun t139 =>
 hcall PR f_ref8_Heap_Next ⟨[(.pointer r2), (.int .u64 s16)]⟩ Hx135 fun v140 Hx141 =>
 tup2 v140 fun v142 v143 =>
 asI .u64 v142 fun t144 =>
 asB v143 fun t145 =>
 (bif ((t138 : Int) == t144) then
 K (.bool (t139 == t145)) Hx141
else
 K (.bool false) Hx141)
else
 ldI .i64 ⟨b11, 1, none⟩ Hx19 fun A146 =>
 ldI .i64 ⟨b11, 2, none⟩ Hx19 fun B147 =>
 hcall PR f_heap_Heap_Make ⟨[(.pointer h1), (.int .i64 A146), (.int .i64 B147)]⟩ Hx19 fun v148 Hx149 =>
 tup2 v148 fun v150 v151 =>
 asI .u64 v150 fun t152 =>
 asI .i64 v151 fun t153 =>
 ldI .i64 ⟨b11, 1, none⟩ Hx149 fun A154 =>
 ldI .i64 ⟨b11, 2, none⟩ Hx149 fun B155 =>
 hcall PR f_ref8_Heap_Make ⟨[(.pointer r2), (.int .i64 A154), (.int .i64 B155)]⟩ Hx149 fun v156 Hx157 =>
 tup2 v156 fun v158 v159 =>
 asI .u64 v158 fun t160 =>
 asI .i64 v159 fun t161 =>
 (bif ((t152 : Int) == t160) then
 K (.bool ((t153 : Int) == t161)) Hx157
else
 K (.bool false) Hx157))))))))) → R14 s16 Hx15) →
 ldB ⟨b11, 7, none⟩ Hx12 fun Near162 =>
 (bif Near162 then
 ldI .i64 ⟨b11, 1, none⟩ Hx12 fun A163 =>
 hcall PR f_hand_Pick ⟨[(.int .i64 A163), (.int .i64 9)]⟩ Hx12 fun v164 Hx165 =>
 asI .i64 v164 fun t166 =>
 st ⟨b11, 1, none⟩ (.int .i64 (IntKind.i64.wrap (t166 - 1))) Hx165 fun Hx167 =>
 ldI .i64 ⟨b11, 2, none⟩ Hx167 fun B168 =>
 hcall PR f_hand_Pick ⟨[(.int .i64 B168), (.int .i64 9)]⟩ Hx167 fun v169 Hx170 =>
 asI .i64 v169 fun t171 =>
 st ⟨b11, 2, none⟩ (.int .i64 (IntKind.i64.wrap (t171 - 1))) Hx170 fun Hx172 =>
 nilP r2 fun ra173 =>
 ldI .u64 (ra173.add 2) Hx172 fun Last174 =>
 (5 : Int) ≠ 0 ∧
 R14 (IntKind.u64.wrap (Last174 - (Int.tmod Serial13 5))) Hx172
else
 R14 Serial13 Hx12)
theorem E_law8_fill (h1 : Option Addr) (r2 : Option Addr) (xWhat3 : Int) (xA4 : Int) (xB5 : Int) (xSerial6 : Int) (xV7 : Int) (xNode8 : Int) (xSerial9 : Int) (xNear10 : Bool) (H : Hp) (K : Value → Hp → Prop) : B_law8_fill h1 r2 xWhat3 xA4 xB5 xSerial6 xV7 xNode8 xSerial9 xNear10 H K = denF Try.prog Try.f41 (.seq none .n (.seq none .n (.seq (some ⟨[(7, .int .u64)], [0, 1, 5]⟩) .n .n))) [(.pointer h1), (.pointer r2), (.agg #[(.int .i64 xWhat3), (.int .i64 xA4), (.int .i64 xB5), (.int .u64 xSerial6), (.int .u64 xV7), (.int .i64 xNode8), (.int .u64 xSerial9), (.bool xNear10)])] H K := by kernel_rfl
theorem den_law8_fill {h1 : Option Addr} {r2 : Option Addr} {xWhat3 : Int} {xA4 : Int} {xB5 : Int} {xSerial6 : Int} {xV7 : Int} {xNode8 : Int} {xSerial9 : Int} {xNear10 : Bool} {H : Hp} {K : Value → Hp → Prop} (h : B_law8_fill h1 r2 xWhat3 xA4 xB5 xSerial6 xV7 xNode8 xSerial9 xNear10 H K) : hcall PR f_law8_fill ⟨[(.pointer h1), (.pointer r2), (.agg #[(.int .i64 xWhat3), (.int .i64 xA4), (.int .i64 xB5), (.int .u64 xSerial6), (.int .u64 xV7), (.int .i64 xNode8), (.int .u64 xSerial9), (.bool xNear10)])]⟩ H K := denF_call Try.func41 PR_mixed (Eq.mp (E_law8_fill h1 r2 xWhat3 xA4 xB5 xSerial6 xV7 xNode8 xSerial9 xNear10 H K) h)

def B_law8_whole (h1 : Option Addr) (r2 : Option Addr) (H : Hp) (K : Value → Hp → Prop) : Prop :=
 ∃ (I3 : Int → Int → Hp → Prop) (m4 : Int → Int → Hp → Nat), I3 0 0 H ∧ ∀ atx6 : Int, ∀ i7 : Int, ∀ Hx5 : Hp, I3 atx6 i7 Hx5 →
 nilP r2 fun ra8 =>
 ldSl (ra8.add 4) Hx5 fun LP9 LL10 LC11 =>
 (bif (decide ((i7 : Int) < (LL10 : Int))) then
 hcall PR f_heap_Heap_Next ⟨[(.pointer h1), (.int .u64 atx6)]⟩ Hx5 fun v12 Hx13 =>
 tup2 v12 fun v14 v15 =>
 asI .u64 v14 fun t16 =>
 asB v15 fun t17 =>
 (bif (!t17) then
 K (.bool false) Hx13
else
 nilP r2 fun ra18 =>
 ldSl (ra18.add 4) Hx13 fun LP19 LL20 LC21 =>
 idxA LP19 LL20 i7 1 fun el22 =>
 ldP el22 Hx13 fun t23 =>
 nilP t23 fun ta24 =>
 ldI .u64 ta24 Hx13 fun Serial25 =>
 (bif ((t16 : Int) != Serial25) then
 K (.bool false) Hx13
else
 hcall PR f_heap_Heap_Object ⟨[(.pointer h1), (.int .u64 t16)]⟩ Hx13 fun v26 Hx27 =>
 tup2 v26 fun v28 v29 =>
 asAgg' v28 fun cs30 =>
 unCons cs30.toList fun v31 r32 =>
 unCons r32 fun v33 r34 =>
 unCons r34 fun v35 r36 =>
 unCons r36 fun v37 r38 =>
 unCons r38 fun v39 r40 =>
 unNil r40 <|
 asI .u64 v31 fun Serial41 =>
 asI .i64 v33 fun Cell42 =>
 asSl v35 fun RefsP43 RefsL44 RefsC45 =>
 asSl v37 fun ValsP46 ValsL47 ValsC48 =>
 asI .i64 v39 fun In49 =>
 asB v29 fun t50 =>
 newB (.cells #[(.int .u64 0), (.int .i64 0), (.slice none 0 0), (.slice none 0 0), (.int .i64 0)] ty_api_Object) Hx27 fun b51 Hx52 =>
 st ⟨b51, 0, none⟩ (.int .u64 Serial41) Hx52 fun Hx53 =>
 st ⟨b51, 1, none⟩ (.int .i64 Cell42) Hx53 fun Hx54 =>
 st ⟨b51, 2, none⟩ (.slice RefsP43 RefsL44 RefsC45) Hx54 fun Hx55 =>
 st ⟨b51, 3, none⟩ (.slice ValsP46 ValsL47 ValsC48) Hx55 fun Hx56 =>
 st ⟨b51, 4, none⟩ (.int .i64 In49) Hx56 fun Hx57 =>
 (bif (!t50) then
 K (.bool false) Hx57
else
 ldI .u64 ⟨b51, 0, none⟩ Hx57 fun Serial58 =>
 ldI .i64 ⟨b51, 1, none⟩ Hx57 fun Cell59 =>
 ldSl ⟨b51, 2, none⟩ Hx57 fun RefsP60 RefsL61 RefsC62 =>
 ldSl ⟨b51, 3, none⟩ Hx57 fun ValsP63 ValsL64 ValsC65 =>
 ldI .i64 ⟨b51, 4, none⟩ Hx57 fun In66 =>
 nilP r2 fun ra67 =>
 ldSl (ra67.add 4) Hx57 fun LP68 LL69 LC70 =>
 idxA LP68 LL69 i7 1 fun el71 =>
 ldP el71 Hx57 fun t72 =>
 nilP t72 fun ta73 =>
 ldI .u64 ta73 Hx57 fun Serial74 =>
 ldI .i64 (ta73.add 1) Hx57 fun Cell75 =>
 ldSl (ta73.add 2) Hx57 fun RefsP76 RefsL77 RefsC78 =>
 ldSl (ta73.add 3) Hx57 fun ValsP79 ValsL80 ValsC81 =>
 ldI .i64 (ta73.add 4) Hx57 fun In82 =>
 hcall PR f_ref8_Same ⟨[(.agg #[(.int .u64 Serial58), (.int .i64 Cell59), (.slice RefsP60 RefsL61 RefsC62), (.slice ValsP63 ValsL64 ValsC65), (.int .i64 In66)]), (.agg #[(.int .u64 Serial74), (.int .i64 Cell75), (.slice RefsP76 RefsL77 RefsC78), (.slice ValsP79 ValsL80 ValsC81), (.int .i64 In82)])]⟩ Hx57 fun v83 Hx84 =>
 asB v83 fun t85 =>
 (bif (!t85) then
 K (.bool false) Hx84
else
 I3 t16 (IntKind.i64.wrap (i7 + 1)) Hx84 ∧ m4 t16 (IntKind.i64.wrap (i7 + 1)) Hx84 < m4 atx6 i7 Hx5))))
else
 hcall PR f_heap_Heap_Next ⟨[(.pointer h1), (.int .u64 atx6)]⟩ Hx5 fun v86 Hx87 =>
 tup2 v86 fun v88 v89 =>
 asI .u64 v88 fun t90 =>
 asB v89 fun t91 =>
 nilP r2 fun ra92 =>
 ldI .u64 (ra92.add 2) Hx87 fun Last93 =>
 hcall PR f_heap_Heap_Object ⟨[(.pointer h1), (.int .u64 (IntKind.u64.wrap (Last93 + 1)))]⟩ Hx87 fun v94 Hx95 =>
 tup2 v94 fun v96 v97 =>
 asAgg' v96 fun cs98 =>
 unCons cs98.toList fun v99 r100 =>
 unCons r100 fun v101 r102 =>
 unCons r102 fun v103 r104 =>
 unCons r104 fun v105 r106 =>
 unCons r106 fun v107 r108 =>
 unNil r108 <|
 asI .u64 v99 fun Serial109 =>
 asI .i64 v101 fun Cell110 =>
 asSl v103 fun RefsP111 RefsL112 RefsC113 =>
 asSl v105 fun ValsP114 ValsL115 ValsC116 =>
 asI .i64 v107 fun In117 =>
 asB v97 fun t118 =>
 newB (.cells #[(.int .u64 0), (.int .i64 0), (.slice none 0 0), (.slice none 0 0), (.int .i64 0)] ty_api_Object) Hx95 fun b119 Hx120 =>
 st ⟨b119, 0, none⟩ (.int .u64 Serial109) Hx120 fun Hx121 =>
 st ⟨b119, 1, none⟩ (.int .i64 Cell110) Hx121 fun Hx122 =>
 st ⟨b119, 2, none⟩ (.slice RefsP111 RefsL112 RefsC113) Hx122 fun Hx123 =>
 st ⟨b119, 3, none⟩ (.slice ValsP114 ValsL115 ValsC116) Hx123 fun Hx124 =>
 st ⟨b119, 4, none⟩ (.int .i64 In117) Hx124 fun Hx125 =>
 (bif (!t91) then
 (bif (!t118) then
 nilP r2 fun ra126 =>
 ldSl (ra126.add 4) Hx125 fun LP127 LL128 LC129 =>
 hcall PR f_heap_Heap_Len ⟨[(.pointer h1)]⟩ Hx125 fun v130 Hx131 =>
 asI .i64 v130 fun t132 =>
 (ldSl (ra126.add 4) Hx131 fun LP133 LL134 LC135 =>
 ((.slice LP133 LL134 LC135) : Value) = (.slice LP127 LL128 LC129)) ∧
 (bif ((t132 : Int) == (LL128 : Int)) then
 nilP r2 fun ra136 =>
 ldI .u64 (ra136.add 2) Hx131 fun Last137 =>
 hcall PR f_heap_Heap_Last ⟨[(.pointer h1)]⟩ Hx131 fun v138 Hx139 =>
 asI .u64 v138 fun t140 =>
 (ldI .u64 (ra136.add 2) Hx139 fun Last141 =>
 ((.int .u64 Last141) : Value) = (.int .u64 Last137)) ∧
 (bif ((t140 : Int) == Last137) then
 nilP r2 fun ra142 =>
 ldI .i64 ra142 Hx139 fun Node143 =>
 hcall PR f_heap_Heap_Node ⟨[(.pointer h1)]⟩ Hx139 fun v144 Hx145 =>
 asI .i64 v144 fun t146 =>
 (ldI .i64 ra142 Hx145 fun Node147 =>
 ((.int .i64 Node147) : Value) = (.int .i64 Node143)) ∧
 (bif ((t146 : Int) == Node143) then
 nilP r2 fun ra148 =>
 ldP (ra148.add 3) Hx145 fun Arena149 =>
 hcall PR f_heap_Heap_Used ⟨[(.pointer h1)]⟩ Hx145 fun v150 Hx151 =>
 asI .i64 v150 fun t152 =>
 (ldP (ra148.add 3) Hx151 fun Arena153 =>
 ((.pointer Arena153) : Value) = (.pointer Arena149)) ∧
 hcall PR f_ref7_Arena_Used ⟨[(.pointer Arena149)]⟩ Hx151 fun v154 Hx155 =>
 asI .i64 v154 fun t156 =>
 K (.bool ((t152 : Int) == t156)) Hx155
else
 K (.bool false) Hx145)
else
 K (.bool false) Hx139)
else
 K (.bool false) Hx131)
else
 K (.bool false) Hx125)
else
 K (.bool false) Hx125))
theorem E_law8_whole (h1 : Option Addr) (r2 : Option Addr) (H : Hp) (K : Value → Hp → Prop) : B_law8_whole h1 r2 H K = denF Try.prog Try.f42 (.seq none .n (.seq none .n (.seq none (.seq none .n (.sub (.loop ⟨[(5, .int .u64), (6, .int .i64)], [0, 1]⟩ .n))) .n))) [(.pointer h1), (.pointer r2)] H K := by kernel_rfl
theorem den_law8_whole {h1 : Option Addr} {r2 : Option Addr} {H : Hp} {K : Value → Hp → Prop} (h : B_law8_whole h1 r2 H K) : hcall PR f_law8_whole ⟨[(.pointer h1), (.pointer r2)]⟩ H K := denF_call Try.func42 PR_mixed (Eq.mp (E_law8_whole h1 r2 H K) h)

end Go.Proofs.Ytohlnmenghbgbaa

/- PRINTED by gen.py: functions as plain propositions, held against the program by the kernel. No condition. -/
namespace Go.Proofs.Ytohlnmenghbgbaa
open Go
set_option linter.unusedVariables false
set_option maxRecDepth 100000

def B_law8_HeapPlays (node1 : Int) (cells2 : Int) (objects3 : Int) (last4 : Int) (lP5 : Option Addr) (lL6 : Nat) (lC7 : Nat) (H : Hp) (K : Value → Hp → Prop) : Prop :=
 hcall PR f_heap_New ⟨[(.int .i64 node1), (.int .i64 cells2), (.int .i64 objects3), (.int .u64 last4)]⟩ H fun v8 Hx9 =>
 tup2 v8 fun v10 v11 =>
 asP v10 fun t12 =>
 asI .i64 v11 fun t13 =>
 hcall PR f_ref8_New ⟨[(.int .i64 node1), (.int .i64 cells2), (.int .i64 objects3), (.int .u64 last4)]⟩ Hx9 fun v14 Hx15 =>
 asP v14 fun t16 =>
 hcall PR f_law8_known ⟨[]⟩ Hx15 fun v17 Hx18 =>
 asB v17 fun t19 =>
 (bif (!t19) then
 K (.bool false) Hx18
else
 (bif (Option.isNone (α := Addr) t16) then
 (bif ((t13 : Int) == 1) then
 K (.bool (Option.isNone (α := Addr) t12)) Hx18
else
 K (.bool false) Hx18)
else
 (bif ((t13 : Int) != 0) then
 K (.bool false) Hx18
else
 (bif (Option.isNone (α := Addr) t12) then
 K (.bool false) Hx18
else
 ∀ R20 : Hp → Prop, (∀ Hx21 : Hp, (
 hcall PR f_law8_whole ⟨[(.pointer t12), (.pointer t16)]⟩ Hx21 fun v22 Hx23 =>
 asB v22 fun t24 =>
 K (.bool t24) Hx23) → R20 Hx21) →
 ∃ (I25 : Int → Hp → Prop) (m26 : Int → Hp → Nat), I25 0 Hx18 ∧ ∀ i28 : Int, ∀ Hx27 : Hp, I25 i28 Hx27 →
 (bif (decide ((i28 : Int) < (lL6 : Int))) then
 (bif (decide ((i28 : Int) < 400)) then
 idxA lP5 lL6 i28 8 fun el29 =>
 ldI .i64 el29 Hx27 fun What30 =>
 ldI .i64 (el29.add 1) Hx27 fun A31 =>
 ldI .i64 (el29.add 2) Hx27 fun B32 =>
 ldI .u64 (el29.add 3) Hx27 fun Serial33 =>
 ldI .u64 (el29.add 4) Hx27 fun V34 =>
 ldI .i64 (el29.add 5) Hx27 fun Node35 =>
 ldI .u64 (el29.add 6) Hx27 fun Serial36 =>
 ldB (el29.add 7) Hx27 fun Near37 =>
 hcall PR f_law8_fill ⟨[(.pointer t12), (.pointer t16), (.agg #[(.int .i64 What30), (.int .i64 A31), (.int .i64 B32), (.int .u64 Serial33), (.int .u64 V34), (.int .i64 Node35), (.int .u64 Serial36), (.bool Near37)])]⟩ Hx27 fun v38 Hx39 =>
 asB v38 fun t40 =>
 (bif (!t40) then
 K (.bool false) Hx39
else
 I25 (IntKind.i64.wrap (i28 + 1)) Hx39 ∧ m26 (IntKind.i64.wrap (i28 + 1)) Hx39 < m26 i28 Hx27)
else
 R20 Hx27)
else
 R20 Hx27)))))
theorem E_law8_HeapPlays (node1 : Int) (cells2 : Int) (objects3 : Int) (last4 : Int) (lP5 : Option Addr) (lL6 : Nat) (lC7 : Nat) (H : Hp) (K : Value → Hp → Prop) : B_law8_HeapPlays node1 cells2 objects3 last4 lP5 lL6 lC7 H K = denF Try.prog Try.f8 (.seq none .n (.seq none .n (.seq none .n (.seq none .n (.seq none .n (.seq none .n (.seq (some ⟨[], [11, 13]⟩) (.seq none .n (.sub (.loop ⟨[(14, .int .i64)], [4, 11, 13]⟩ .n))) .n))))))) [(.int .i64 node1), (.int .i64 cells2), (.int .i64 objects3), (.int .u64 last4), (.slice lP5 lL6 lC7)] H K := by kernel_rfl
theorem den_law8_HeapPlays {node1 : Int} {cells2 : Int} {objects3 : Int} {last4 : Int} {lP5 : Option Addr} {lL6 : Nat} {lC7 : Nat} {H : Hp} {K : Value → Hp → Prop} (h : B_law8_HeapPlays node1 cells2 objects3 last4 lP5 lL6 lC7 H K) : hcall PR f_law8_HeapPlays ⟨[(.int .i64 node1), (.int .i64 cells2), (.int .i64 objects3), (.int .u64 last4), (.slice lP5 lL6 lC7)]⟩ H K := denF_call Try.func8 PR_mixed (Eq.mp (E_law8_HeapPlays node1 cells2 objects3 last4 lP5 lL6 lC7 H K) h)

end Go.Proofs.Ytohlnmenghbgbaa

/- PRINTED by gen.py: functions as plain propositions, held against the program by the kernel. No condition. -/
namespace Go.Proofs.Ytohlnmenghbgbaa
open Go
set_option linter.unusedVariables false
set_option maxRecDepth 100000

def B_law8_HeapSmall (blocks1 : Int) (objects2 : Int) (lP3 : Option Addr) (lL4 : Nat) (lC5 : Nat) (H : Hp) (K : Value → Hp → Prop) : Prop :=
 newB (.cells #[] ty_law8_Step) H fun b6 Hx7 =>
 evW PR (Builtin.append_ #[ty_Smooringlaw8_Step, ty_Smooringlaw8_Step] ty_Smooringlaw8_Step #[(.slice (some ⟨b6, 0, none⟩) 0 0), (.slice lP3 lL4 lC5)]) Hx7 fun v8 Hx9 =>
 asSl v8 fun tP10 tL11 tC12 =>
 ∃ (I13 : Int → Hp → Prop) (m14 : Int → Hp → Nat), I13 0 Hx9 ∧ ∀ i16 : Int, ∀ Hx15 : Hp, I13 i16 Hx15 →
 (bif (decide ((i16 : Int) < (tL11 : Int))) then
 idxA tP10 tL11 i16 8 fun el17 =>
 st (el17.add 7) (.bool true) Hx15 fun Hx18 =>
 I13 (IntKind.i64.wrap (i16 + 1)) Hx18 ∧ m14 (IntKind.i64.wrap (i16 + 1)) Hx18 < m14 i16 Hx15
else
 hcall PR f_hand_Pick ⟨[(.int .i64 blocks1), (.int .i64 6)]⟩ Hx15 fun v19 Hx20 =>
 asI .i64 v19 fun t21 =>
 hcall PR f_hand_Pick ⟨[(.int .i64 objects2), (.int .i64 12)]⟩ Hx20 fun v22 Hx23 =>
 asI .i64 v22 fun t24 =>
 hcall PR f_law8_HeapPlays ⟨[(.int .i64 1), (.int .i64 (IntKind.i64.wrap (16 * (IntKind.i64.wrap (1 + t21))))), (.int .i64 (IntKind.i64.wrap (1 + t24))), (.int .u64 0), (.slice tP10 tL11 tC12)]⟩ Hx23 fun v25 Hx26 =>
 asB v25 fun t27 =>
 K (.bool t27) Hx26)
theorem E_law8_HeapSmall (blocks1 : Int) (objects2 : Int) (lP3 : Option Addr) (lL4 : Nat) (lC5 : Nat) (H : Hp) (K : Value → Hp → Prop) : B_law8_HeapSmall blocks1 objects2 lP3 lL4 lC5 H K = denF Try.prog Try.f9 (.seq none .n (.seq none .n (.seq none (.seq none .n (.sub (.loop ⟨[(8, .int .i64)], [0, 1, 7]⟩ .n))) .n))) [(.int .i64 blocks1), (.int .i64 objects2), (.slice lP3 lL4 lC5)] H K := by kernel_rfl
theorem den_law8_HeapSmall {blocks1 : Int} {objects2 : Int} {lP3 : Option Addr} {lL4 : Nat} {lC5 : Nat} {H : Hp} {K : Value → Hp → Prop} (h : B_law8_HeapSmall blocks1 objects2 lP3 lL4 lC5 H K) : hcall PR f_law8_HeapSmall ⟨[(.int .i64 blocks1), (.int .i64 objects2), (.slice lP3 lL4 lC5)]⟩ H K := denF_call Try.func9 PR_mixed (Eq.mp (E_law8_HeapSmall blocks1 objects2 lP3 lL4 lC5 H K) h)

end Go.Proofs.Ytohlnmenghbgbaa

/- Chapter 8's example, run. No condition. -/
namespace Go.Proofs.Ytohlnmenghbgbaa
set_option linter.unusedSimpArgs false
set_option linter.unusedVariables false
open Go

theorem hMake_fit {s : Hs} {r v : Int} {i k : Nat} (hr : 0 ≤ r ∧ r ≤ 7) (hv : 0 ≤ v ∧ v ≤ 7) (hl : (s.obs.length : Int) < s.most) (hs : s.last ≠ 72057594037927935) (hc : clsOf (1 + r + v) ≠ 0) (hf : ArFits s.ar (clsOf (1 + r + v)) i k) :
    hMake s r v = (s.last + 1, 0, { s with last := s.last + 1, ar := tookAt s.ar (clsOf (1 + r + v)) i k, obs := s.obs ++ [⟨s.last + 1, ((16 * i + k * clsOf (1 + r + v) : Nat) : Int), List.replicate r.toNat noId, List.replicate v.toNat 0, 0⟩] }) := by
  unfold hMake
  rw [if_neg (by omega), if_neg (by omega), if_neg hs, arAlloc_fit hc hf, if_neg (by simp)]

/-- The example's heap, with its one object. -/
def ex8 : Hs := ⟨1, 2, 6, [⟨4, 1⟩], [⟨6, 0, [noId], [0], 0⟩]⟩
theorem ex8_made : hMake (newHs 1 2 5 1) 1 1 = (6, 0, ex8) := by
  rw [hMake_fit (s := newHs 1 2 5 1) (i := 0) (k := 0) (by omega) (by omega) (by decide) (by decide) (by decide) (by unfold ArFits First; decide)]
  rfl

theorem known8_ok {H0 H : Hp} {L : List Prt} {K : Value → Hp → Prop} (h : St H0 L H) (hK : ∀ H', St H0 L H' → K (.bool true) H') : hcall PR f_law8_known ⟨[]⟩ H K := by
  apply den_law8_known
  unfold B_law8_known
  refine hNewOk (m := 1) (by decide) (by decide) (by decide) (by decide) (by decide) h fun hb H1 h1 => ?_
  simp only [asI_mk', asB_mk, asP_mk, asA_mk, asM_mk, asSl_mk, asStr_mk, tup2_mk, tup3_mk, agg1_mk, agg2_mk, agg3_mk, agg4_mk, asAggm, unCons_mk, unNil_mk, asTup_mk, extractD0, extractD1, List.toList_toArray, nilP_mk, add_mk, Nat.zero_add, Nat.add_zero, condT, condF, Bool.not_true, Bool.not_false, Option.isNone_some, Option.isNone_none]
  refine bif_neqf rfl ?_
  refine hMakeC h1 (i := 0) rfl (by decide) (by decide) fun H2 h2 => ?_
  rw [ex8_made] at h2 ⊢
  simp only [asI_mk', asB_mk, asP_mk, asA_mk, asM_mk, asSl_mk, asStr_mk, tup2_mk, tup3_mk, agg1_mk, agg2_mk, agg3_mk, agg4_mk, asAggm, unCons_mk, unNil_mk, asTup_mk, extractD0, extractD1, List.toList_toArray, nilP_mk, add_mk, Nat.zero_add, Nat.add_zero, condT, condF, Bool.not_true, Bool.not_false, Option.isNone_some, Option.isNone_none]
  refine hRefC h2 (i := 0) rfl fun H3 h3 => ?_
  rw [show hRef ex8 6 0 = (noId, 0) by rfl]
  simp only [asI_mk', asB_mk, asP_mk, asA_mk, asM_mk, asSl_mk, asStr_mk, tup2_mk, tup3_mk, agg1_mk, agg2_mk, agg3_mk, agg4_mk, asAggm, unCons_mk, unNil_mk, asTup_mk, extractD0, extractD1, List.toList_toArray, nilP_mk, add_mk, Nat.zero_add, Nat.add_zero, condT, condF, Bool.not_true, Bool.not_false, Option.isNone_some, Option.isNone_none]
  refine box2 h3 fun b22 H4 h4 => ?_
  have e2 : hSetRef ex8 6 0 ⟨2, 9⟩ = (noId, 0, ⟨1, 2, 6, [⟨4, 1⟩], [⟨6, 0, [⟨2, 9⟩], [0], 0⟩]⟩) := by rfl
  refine hSetRefC (y := ⟨2, 9⟩) h4 (i := 1) rfl fun H5 h5 => ?_
  rw [e2] at h5 ⊢
  simp only [asI_mk', asB_mk, asP_mk, asA_mk, asM_mk, asSl_mk, asStr_mk, tup2_mk, tup3_mk, agg1_mk, agg2_mk, agg3_mk, agg4_mk, asAggm, unCons_mk, unNil_mk, asTup_mk, extractD0, extractD1, List.toList_toArray, nilP_mk, add_mk, Nat.zero_add, Nat.add_zero, condT, condF, Bool.not_true, Bool.not_false, Option.isNone_some, Option.isNone_none]
  refine box2 h5 fun b35 H6 h6 => ?_
  refine hRefC h6 (i := 2) rfl fun H7 h7 => ?_
  rw [show hRef ⟨1, 2, 6, [⟨4, 1⟩], [⟨6, 0, [⟨2, 9⟩], [0], 0⟩]⟩ 6 0 = (⟨2, 9⟩, 0) by rfl]
  simp only [asI_mk', asB_mk, asP_mk, asA_mk, asM_mk, asSl_mk, asStr_mk, tup2_mk, tup3_mk, agg1_mk, agg2_mk, agg3_mk, agg4_mk, asAggm, unCons_mk, unNil_mk, asTup_mk, extractD0, extractD1, List.toList_toArray, nilP_mk, add_mk, Nat.zero_add, Nat.add_zero, condT, condF, Bool.not_true, Bool.not_false, Option.isNone_some, Option.isNone_none]
  refine box2 h7 fun b48 H8 h8 => ?_
  refine bif_eq rfl (bif_eq rfl (ldI_of (h8.cell (i := 2) (o := 0) rfl rfl) (ldI_of (h8.cell (i := 2) (o := 1) rfl rfl) (idEq ?_))))
  simp only [decide_true]
  simp only [asI_mk', asB_mk, asP_mk, asA_mk, asM_mk, asSl_mk, asStr_mk, tup2_mk, tup3_mk, agg1_mk, agg2_mk, agg3_mk, agg4_mk, asAggm, unCons_mk, unNil_mk, asTup_mk, extractD0, extractD1, List.toList_toArray, nilP_mk, add_mk, Nat.zero_add, Nat.add_zero, condT, condF, Bool.not_true, Bool.not_false, Option.isNone_some, Option.isNone_none]
  refine bif_eq rfl (bif_eq rfl (ldI_of (h8.cell (i := 0) (o := 0) rfl rfl) (ldI_of (h8.cell (i := 0) (o := 1) rfl rfl) (idEq ?_))))
  simp only [decide_true]
  simp only [asI_mk', asB_mk, asP_mk, asA_mk, asM_mk, asSl_mk, asStr_mk, tup2_mk, tup3_mk, agg1_mk, agg2_mk, agg3_mk, agg4_mk, asAggm, unCons_mk, unNil_mk, asTup_mk, extractD0, extractD1, List.toList_toArray, nilP_mk, add_mk, Nat.zero_add, Nat.add_zero, condT, condF, Bool.not_true, Bool.not_false, Option.isNone_some, Option.isNone_none]
  exact hK H8 (h8.lesses (M := [_, _, _, _]))

end Go.Proofs.Ytohlnmenghbgbaa

/- Chapter 8's statements, run: HeapPlays, HeapSmall. No condition. -/
namespace Go.Proofs.Ytohlnmenghbgbaa
set_option linter.unusedSimpArgs false
set_option linter.unusedVariables false
open Go

section
variable {H0 H : Hp} {L M : List Prt} {i hb rb : Nat} {s : Hs} {K : Value → Hp → Prop}

theorem same8_ok {a b e : Int} {p p' q q' : Option Addr} {n m c c' d d' : Nat} {rs : List Id} {vs : List Int} (h : St H0 L H) (hr : Rd H 2 p n (cel Id.cells rs)) (hr' : Rd H 2 p' n (cel Id.cells rs)) (hv : Rd H 1 q m (vs.map (Value.int .u64))) (hv' : Rd H 1 q' m (vs.map (Value.int .u64)))
    (hn : n < 4611686018427387904) (hm : m < 4611686018427387904) (hK : ∀ H', St H0 L H' → K (.bool true) H') :
    hcall PR f_ref8_Same ⟨[.agg #[.int .u64 a, .int .i64 b, .slice p n c, .slice q m d, .int .i64 e], .agg #[.int .u64 a, .int .i64 b, .slice p' n c', .slice q' m d', .int .i64 e]]⟩ H K := by
  apply den_ref8_Same
  unfold B_ref8_Same
  intro b1 hb1
  have g1 := (St.start H).alloc (o := .cells #[.int .u64 a, .int .i64 b, .slice p n c, .slice q m d, .int .i64 e] ty_api_Object) hb1
  intro b2 hb2
  have g2 := g1.alloc (o := .cells #[.int .u64 a, .int .i64 b, .slice p' n c', .slice q' m d', .int .i64 e] ty_api_Object) hb2
  refine ldI_of (g2.cell (i := 1) (o := 0) rfl rfl) (ldI_of (g2.cell (i := 0) (o := 0) rfl rfl) (bif_eq rfl ?_))
  refine ldI_of (g2.cell (i := 1) (o := 1) rfl rfl) (ldI_of (g2.cell (i := 0) (o := 1) rfl rfl) (bif_eq rfl ?_))
  refine ldI_of (g2.cell (i := 1) (o := 4) rfl rfl) (ldI_of (g2.cell (i := 0) (o := 4) rfl rfl) (bif_eq rfl ?_))
  refine ldSl_of (g2.cell (i := 1) (o := 2) rfl rfl) (ldSl_of (g2.cell (i := 0) (o := 2) rfl rfl) (ids_same (g2.rd hr) (g2.rd hr') hn ?_))
  simp only [asI_mk', asB_mk, asP_mk, asA_mk, asM_mk, asSl_mk, asStr_mk, tup2_mk, tup3_mk, agg1_mk, agg2_mk, agg3_mk, agg4_mk, asAggm, unCons_mk, unNil_mk, asTup_mk, extractD0, extractD1, List.toList_toArray, nilP_mk, add_mk, Nat.zero_add, Nat.add_zero, condT, condF, Bool.not_true, Bool.not_false, Option.isNone_some, Option.isNone_none]
  refine ldSl_of (g2.cell (i := 1) (o := 3) rfl rfl) (ldSl_of (g2.cell (i := 0) (o := 3) rfl rfl) (nums_same (g2.rd hv) (g2.rd hv') hm ?_))
  simp only [asI_mk', asB_mk, asP_mk, asA_mk, asM_mk, asSl_mk, asStr_mk, tup2_mk, tup3_mk, agg1_mk, agg2_mk, agg3_mk, agg4_mk, asAggm, unCons_mk, unNil_mk, asTup_mk, extractD0, extractD1, List.toList_toArray, nilP_mk, add_mk, Nat.zero_add, Nat.add_zero, condT, condF, Bool.not_true, Bool.not_false, Option.isNone_some, Option.isNone_none]
  exact hK _ ((h.join g2).lesses (M := [_, _]))

theorem whole_ok (h : St H0 (HeapP hb s :: RHeap rb s :: M) H) (hK : ∀ H', St H0 (HeapP hb s :: RHeap rb s :: M) H' → K (.bool true) H') :
    hcall PR f_law8_whole ⟨[.pointer (some ⟨hb, 0, none⟩), .pointer (some ⟨rb, 0, none⟩)]⟩ H K := by
  apply den_law8_whole
  unfold B_law8_whole
  have ho := heap_ok h (i := 0) rfl
  have hmost := ho.most
  have hlen := ho.len
  have hlast := ho.last
  refine ⟨fun at_ i H' => St H0 (HeapP hb s :: RHeap rb s :: M) H' ∧ ∃ j : Nat, i = j ∧ j ≤ s.obs.length ∧ at_ = aheadOf s j, fun _ i _ => (s.obs.length - i).toNat, ⟨h, 0, rfl, by omega, rfl⟩, ?_⟩
  rintro at_ i H1 ⟨h1, j, rfl, hj, rfl⟩
  obtain ⟨x, M1, g1, hp, _, _⟩ := rheapTake (i := 1) h1 rfl
  have v1 := rheapV g1
  have hxl : x.ps.length = s.obs.length := by rw [← hp, List.length_map]
  simp only [asI_mk', asB_mk, asP_mk, asA_mk, asM_mk, asSl_mk, asStr_mk, tup2_mk, tup3_mk, agg1_mk, agg2_mk, agg3_mk, agg4_mk, asAggm, unCons_mk, unNil_mk, asTup_mk, extractD0, extractD1, List.toList_toArray, nilP_mk, add_mk, Nat.zero_add, Nat.add_zero, condT, condF, Bool.not_true, Bool.not_false, Option.isNone_some, Option.isNone_none]
  refine ldSl_of v1.sl ?_
  by_cases hlt : (j : Int) < (x.ps.length : Int)
  · have hjl : j < s.obs.length := by omega
    have hjo := List.getElem?_eq_getElem hjl
    generalize s.obs[j] = o at hjo
    refine bif_pos hlt (hNextC h1 (i := 0) rfl fun H2 h2 => ?_)
    rw [hNext_i ho hjo]
    simp only [asI_mk', asB_mk, asP_mk, asA_mk, asM_mk, asSl_mk, asStr_mk, tup2_mk, tup3_mk, agg1_mk, agg2_mk, agg3_mk, agg4_mk, asAggm, unCons_mk, unNil_mk, asTup_mk, extractD0, extractD1, List.toList_toArray, nilP_mk, add_mk, Nat.zero_add, Nat.add_zero, condT, condF, Bool.not_true, Bool.not_false, Option.isNone_some, Option.isNone_none]
    obtain ⟨x2, M2, g2, hp2, _, _⟩ := rheapTake (i := 1) h2 rfl
    have v2 := rheapV g2
    have hxl2 : x2.ps.length = s.obs.length := by rw [← hp2, List.length_map]
    refine ldSl_of v2.sl (rAtJ v2 (by omega) fun o2 b2 hg2 bb oo hc => ldP_of hc ?_)
    have hjo2 : s.obs[j]? = some o2 := by rw [← hp2, List.getElem?_map, hg2]; rfl
    rw [hjo] at hjo2
    cases hjo2
    obtain ⟨p, c, q, d, tv⟩ := rthingV g2 hg2
    simp only [asI_mk', asB_mk, asP_mk, asA_mk, asM_mk, asSl_mk, asStr_mk, tup2_mk, tup3_mk, agg1_mk, agg2_mk, agg3_mk, agg4_mk, asAggm, unCons_mk, unNil_mk, asTup_mk, extractD0, extractD1, List.toList_toArray, nilP_mk, add_mk, Nat.zero_add, Nat.add_zero, condT, condF, Bool.not_true, Bool.not_false, Option.isNone_some, Option.isNone_none]
    refine ldI_of tv.ser (bif_neqf rfl ?_)
    have hgo := hGet_at ho hjo
    have hob := ho.obs o (List.mem_of_getElem? hjo)
    have hr7 := hob.refs
    have hv7 := hob.vals
    refine hObjC h2 (i := 0) rfl (fun e => by rw [hgo] at e; cases e) fun o' hg' p' c' q' d' H3 h3 => ?_
    rw [hgo] at hg'
    cases hg'
    simp only [asI_mk', asB_mk, asP_mk, asA_mk, asM_mk, asSl_mk, asStr_mk, tup2_mk, tup3_mk, agg1_mk, agg2_mk, agg3_mk, agg4_mk, asAggm, unCons_mk, unNil_mk, asTup_mk, extractD0, extractD1, List.toList_toArray, nilP_mk, add_mk, Nat.zero_add, Nat.add_zero, condT, condF, Bool.not_true, Bool.not_false, Option.isNone_some, Option.isNone_none]
    refine box5 h3 fun b51 H4 h4 => ?_
    refine ldI_of (h4.cell (i := 0) (o := 0) rfl rfl) (ldI_of (h4.cell (i := 0) (o := 1) rfl rfl) (ldSl_of (h4.cell (i := 0) (o := 2) rfl rfl) (ldSl_of (h4.cell (i := 0) (o := 3) rfl rfl) (ldI_of (h4.cell (i := 0) (o := 4) rfl rfl) ?_))))
    obtain ⟨x4, M4, g4, hp4, _, _⟩ := rheapTake (i := 4) h4 rfl
    have v4 := rheapV g4
    have hxl4 : x4.ps.length = s.obs.length := by rw [← hp4, List.length_map]
    refine ldSl_of v4.sl (rAtJ v4 (by omega) fun o4 b4 hg4 bb oo hc => ldP_of hc ?_)
    have hjo4 : s.obs[j]? = some o4 := by rw [← hp4, List.getElem?_map, hg4]; rfl
    rw [hjo] at hjo4
    cases hjo4
    obtain ⟨p4, c4, q4, d4, tv4⟩ := rthingV g4 hg4
    simp only [asI_mk', asB_mk, asP_mk, asA_mk, asM_mk, asSl_mk, asStr_mk, tup2_mk, tup3_mk, agg1_mk, agg2_mk, agg3_mk, agg4_mk, asAggm, unCons_mk, unNil_mk, asTup_mk, extractD0, extractD1, List.toList_toArray, nilP_mk, add_mk, Nat.zero_add, Nat.add_zero, condT, condF, Bool.not_true, Bool.not_false, Option.isNone_some, Option.isNone_none]
    refine ldI_of tv4.ser (ldI_of tv4.cell (ldSl_of tv4.refs (ldSl_of tv4.vals (ldI_of tv4.din ?_))))
    refine same8_ok h4 (h4.row_rd (i := 1) rfl) tv4.rrow (h4.row_rd (i := 2) rfl) tv4.vrow (by omega) (by omega) fun H5 h5 => ?_
    simp only [asI_mk', asB_mk, asP_mk, asA_mk, asM_mk, asSl_mk, asStr_mk, tup2_mk, tup3_mk, agg1_mk, agg2_mk, agg3_mk, agg4_mk, asAggm, unCons_mk, unNil_mk, asTup_mk, extractD0, extractD1, List.toList_toArray, nilP_mk, add_mk, Nat.zero_add, Nat.add_zero, condT, condF, Bool.not_true, Bool.not_false, Option.isNone_some, Option.isNone_none]
    rw [wrap_i64 (by omega) (by omega)]
    refine ⟨⟨h5.less.less.less, j + 1, by omega, by omega, ?_⟩, by (try dsimp only); omega⟩
    simp [aheadOf, hjo]
  · obtain rfl : j = s.obs.length := by omega
    refine bif_neg hlt (hNextC h1 (i := 0) rfl fun H2 h2 => ?_)
    rw [hNext_all ho]
    simp only [asI_mk', asB_mk, asP_mk, asA_mk, asM_mk, asSl_mk, asStr_mk, tup2_mk, tup3_mk, agg1_mk, agg2_mk, agg3_mk, agg4_mk, asAggm, unCons_mk, unNil_mk, asTup_mk, extractD0, extractD1, List.toList_toArray, nilP_mk, add_mk, Nat.zero_add, Nat.add_zero, condT, condF, Bool.not_true, Bool.not_false, Option.isNone_some, Option.isNone_none]
    obtain ⟨x2, M2, g2, hp2, _, _⟩ := rheapTake (i := 1) h2 rfl
    have v2 := rheapV g2
    refine ldI_of v2.last ?_
    rw [wrap_u64' (by omega) (by omega)]
    have hno : hGet s (s.last + 1) = none := hGet_none.2 fun o hm => by have := (ho.ser o hm).2; omega
    refine hObjC h2 (i := 0) rfl (fun _ H3 h3 => ?_) fun o e => by rw [hno] at e; cases e
    simp only [asI_mk', asB_mk, asP_mk, asA_mk, asM_mk, asSl_mk, asStr_mk, tup2_mk, tup3_mk, agg1_mk, agg2_mk, agg3_mk, agg4_mk, asAggm, unCons_mk, unNil_mk, asTup_mk, extractD0, extractD1, List.toList_toArray, nilP_mk, add_mk, Nat.zero_add, Nat.add_zero, condT, condF, Bool.not_true, Bool.not_false, Option.isNone_some, Option.isNone_none]
    refine box5 h3 fun b119 H4 h4 => ?_
    obtain ⟨x4, M4, g4, hp4, _, _⟩ := rheapTake (i := 2) h4 rfl
    have v4 := rheapV g4
    have hxl4 : x4.ps.length = s.obs.length := by rw [← hp4, List.length_map]
    refine ldSl_of v4.sl (hLen h4 (i := 1) rfl ?_)
    simp only [asI_mk', asB_mk, asP_mk, asA_mk, asM_mk, asSl_mk, asStr_mk, tup2_mk, tup3_mk, agg1_mk, agg2_mk, agg3_mk, agg4_mk, asAggm, unCons_mk, unNil_mk, asTup_mk, extractD0, extractD1, List.toList_toArray, nilP_mk, add_mk, Nat.zero_add, Nat.add_zero, condT, condF, Bool.not_true, Bool.not_false, Option.isNone_some, Option.isNone_none]
    refine ⟨ldSl_of v4.sl rfl, bif_eq (by omega) (ldI_of v4.last (hLast h4 (i := 1) rfl ?_))⟩
    simp only [asI_mk', asB_mk, asP_mk, asA_mk, asM_mk, asSl_mk, asStr_mk, tup2_mk, tup3_mk, agg1_mk, agg2_mk, agg3_mk, agg4_mk, asAggm, unCons_mk, unNil_mk, asTup_mk, extractD0, extractD1, List.toList_toArray, nilP_mk, add_mk, Nat.zero_add, Nat.add_zero, condT, condF, Bool.not_true, Bool.not_false, Option.isNone_some, Option.isNone_none]
    refine ⟨ldI_of v4.last rfl, bif_eq rfl (ldI_of v4.node (hNode h4 (i := 1) rfl ?_))⟩
    simp only [asI_mk', asB_mk, asP_mk, asA_mk, asM_mk, asSl_mk, asStr_mk, tup2_mk, tup3_mk, agg1_mk, agg2_mk, agg3_mk, agg4_mk, asAggm, unCons_mk, unNil_mk, asTup_mk, extractD0, extractD1, List.toList_toArray, nilP_mk, add_mk, Nat.zero_add, Nat.add_zero, condT, condF, Bool.not_true, Bool.not_false, Option.isNone_some, Option.isNone_none]
    refine ⟨ldI_of v4.node rfl, bif_eq rfl (ldP_of v4.ar (hUsed h4 (i := 1) rfl ?_))⟩
    simp only [asI_mk', asB_mk, asP_mk, asA_mk, asM_mk, asSl_mk, asStr_mk, tup2_mk, tup3_mk, agg1_mk, agg2_mk, agg3_mk, agg4_mk, asAggm, unCons_mk, unNil_mk, asTup_mk, extractD0, extractD1, List.toList_toArray, nilP_mk, add_mk, Nat.zero_add, Nat.add_zero, condT, condF, Bool.not_true, Bool.not_false, Option.isNone_some, Option.isNone_none]
    refine ⟨ldP_of v4.ar rfl, sRUsed g4 (i := 1) rfl ho.ar ?_⟩
    simp only [asI_mk', asB_mk, asP_mk, asA_mk, asM_mk, asSl_mk, asStr_mk, tup2_mk, tup3_mk, agg1_mk, agg2_mk, agg3_mk, agg4_mk, asAggm, unCons_mk, unNil_mk, asTup_mk, extractD0, extractD1, List.toList_toArray, nilP_mk, add_mk, Nat.zero_add, Nat.add_zero, condT, condF, Bool.not_true, Bool.not_false, Option.isNone_some, Option.isNone_none]
    rw [beq_self_eq_true]
    exact hK H4 h4.less

theorem fill_ok {x : E_law8_Step} (hx : x.ok) (h : St H0 (HeapP hb s :: RHeap rb s :: M) H) (hK : ∀ s' H', St H0 (HeapP hb s' :: RHeap rb s' :: M) H' → K (.bool true) H') :
    hcall PR f_law8_fill ⟨[.pointer (some ⟨hb, 0, none⟩), .pointer (some ⟨rb, 0, none⟩), .agg #[.int .i64 x.What, .int .i64 x.A, .int .i64 x.B, .int .u64 x.Serial, .int .u64 x.V, .int .i64 x.X_Node, .int .u64 x.X_Serial, .bool x.Near]]⟩ H K := by
  apply den_law8_fill
  unfold B_law8_fill
  intro b11 hb11
  have h1 := h.alloc (o := .cells #[.int .i64 x.What, .int .i64 x.A, .int .i64 x.B, .int .u64 x.Serial, .int .u64 x.V, .int .i64 x.X_Node, .int .u64 x.X_Serial, .bool x.Near] ty_law8_Step) hb11
  refine ldI_of (h1.cell (i := 0) (o := 3) rfl rfl) ?_
  intro R14 hR14
  have m0 : IntKind.min .i64 = -9223372036854775808 := by decide
  have m1 : IntKind.max .i64 = 9223372036854775807 := by decide
  have hxA := hx.A
  have hxB := hx.B
  have hR14 : ∀ (k A B : Int) H', (IntKind.min .i64 ≤ A ∧ A ≤ IntKind.max .i64) → (IntKind.min .i64 ≤ B ∧ B ≤ IntKind.max .i64) →
      St H0 (Prt.one b11 (.cells #[.int .i64 x.What, .int .i64 A, .int .i64 B, .int .u64 x.Serial, .int .u64 x.V, .int .i64 x.X_Node, .int .u64 x.X_Serial, .bool x.Near] ty_law8_Step (0, 0)) :: HeapP hb s :: RHeap rb s :: M) H' → R14 k H' := fun k A B H2 hA hB h2 => by
    refine hR14 k H2 (ldI_of (h2.cell (i := 0) (o := 0) rfl rfl) (Pick_ok (by omega) (by omega) ?_))
    clear hR14
    simp only [asI_mk', asB_mk, asP_mk, asA_mk, asM_mk, asSl_mk, asStr_mk, tup2_mk, tup3_mk, agg1_mk, agg2_mk, agg3_mk, agg4_mk, asAggm, unCons_mk, unNil_mk, asTup_mk, extractD0, extractD1, List.toList_toArray, nilP_mk, add_mk, Nat.zero_add, Nat.add_zero, condT, condF, Bool.not_true, Bool.not_false, Option.isNone_some, Option.isNone_none]
    have cA := h2.cell (i := 0) (o := 1) rfl rfl
    have cB := h2.cell (i := 0) (o := 2) rfl rfl
    have cV := h2.cell (i := 0) (o := 4) rfl rfl
    have cN := h2.cell (i := 0) (o := 5) rfl rfl
    have cS := h2.cell (i := 0) (o := 6) rfl rfl
    by_cases w2 : pick x.What 9 = 2
    · refine bif_eq w2 (ldI_of cA (ldI_of cN (ldI_of cS (hSetRefC (y := ⟨x.X_Node, x.X_Serial⟩) h2 (i := 1) rfl fun H3 h3 => ?_))))
      simp only [asI_mk', asB_mk, asP_mk, asA_mk, asM_mk, asSl_mk, asStr_mk, tup2_mk, tup3_mk, agg1_mk, agg2_mk, agg3_mk, agg4_mk, asAggm, unCons_mk, unNil_mk, asTup_mk, extractD0, extractD1, List.toList_toArray, nilP_mk, add_mk, Nat.zero_add, Nat.add_zero, condT, condF, Bool.not_true, Bool.not_false, Option.isNone_some, Option.isNone_none]
      refine box2 h3 fun b33 H4 h4 => ?_
      refine ldI_of (h4.cell (i := 1) (o := 1) rfl rfl) (ldI_of (h4.cell (i := 1) (o := 5) rfl rfl) (ldI_of (h4.cell (i := 1) (o := 6) rfl rfl) (rSetRefC (y := ⟨x.X_Node, x.X_Serial⟩) h4 (i := 3) rfl fun H5 h5 => ?_)))
      simp only [asI_mk', asB_mk, asP_mk, asA_mk, asM_mk, asSl_mk, asStr_mk, tup2_mk, tup3_mk, agg1_mk, agg2_mk, agg3_mk, agg4_mk, asAggm, unCons_mk, unNil_mk, asTup_mk, extractD0, extractD1, List.toList_toArray, nilP_mk, add_mk, Nat.zero_add, Nat.add_zero, condT, condF, Bool.not_true, Bool.not_false, Option.isNone_some, Option.isNone_none]
      refine box2 h5 fun b49 H6 h6 => ?_
      refine ldI_of (h6.cell (i := 1) (o := 0) rfl rfl) (ldI_of (h6.cell (i := 1) (o := 1) rfl rfl) (ldI_of (h6.cell (i := 0) (o := 0) rfl rfl) (ldI_of (h6.cell (i := 0) (o := 1) rfl rfl) (idEq ?_))))
      simp only [decide_true]
      simp only [asI_mk', asB_mk, asP_mk, asA_mk, asM_mk, asSl_mk, asStr_mk, tup2_mk, tup3_mk, agg1_mk, agg2_mk, agg3_mk, agg4_mk, asAggm, unCons_mk, unNil_mk, asTup_mk, extractD0, extractD1, List.toList_toArray, nilP_mk, add_mk, Nat.zero_add, Nat.add_zero, condT, condF, Bool.not_true, Bool.not_false, Option.isNone_some, Option.isNone_none]
      rw [beq_self_eq_true]
      exact hK _ H6 (h6.lesses (M := [_, _, _]))
    refine bif_ne w2 ?_
    by_cases w3 : pick x.What 9 = 3
    · refine bif_eq w3 (ldI_of cA (ldI_of cV (ldI_of cA (ldI_of cV (hSetValC h2 (i := 1) rfl fun H3 h3 => ?_)))))
      simp only [asI_mk', asB_mk, asP_mk, asA_mk, asM_mk, asSl_mk, asStr_mk, tup2_mk, tup3_mk, agg1_mk, agg2_mk, agg3_mk, agg4_mk, asAggm, unCons_mk, unNil_mk, asTup_mk, extractD0, extractD1, List.toList_toArray, nilP_mk, add_mk, Nat.zero_add, Nat.add_zero, condT, condF, Bool.not_true, Bool.not_false, Option.isNone_some, Option.isNone_none]
      refine ⟨ldI_of (h3.cell (i := 0) (o := 4) rfl rfl) rfl, ldI_of (h3.cell (i := 0) (o := 1) rfl rfl) rfl, rSetValC h3 (i := 2) rfl fun H4 h4 => ?_⟩
      simp only [asI_mk', asB_mk, asP_mk, asA_mk, asM_mk, asSl_mk, asStr_mk, tup2_mk, tup3_mk, agg1_mk, agg2_mk, agg3_mk, agg4_mk, asAggm, unCons_mk, unNil_mk, asTup_mk, extractD0, extractD1, List.toList_toArray, nilP_mk, add_mk, Nat.zero_add, Nat.add_zero, condT, condF, Bool.not_true, Bool.not_false, Option.isNone_some, Option.isNone_none]
      rw [beq_self_eq_true]
      exact hK _ H4 (h4.lesses (M := [_]))
    refine bif_ne w3 ?_
    by_cases w4 : pick x.What 9 = 4
    · refine bif_eq w4 (ldI_of cA (ldI_of cA (hSetInC h2 (i := 1) rfl fun H3 h3 => ?_)))
      simp only [asI_mk', asB_mk, asP_mk, asA_mk, asM_mk, asSl_mk, asStr_mk, tup2_mk, tup3_mk, agg1_mk, agg2_mk, agg3_mk, agg4_mk, asAggm, unCons_mk, unNil_mk, asTup_mk, extractD0, extractD1, List.toList_toArray, nilP_mk, add_mk, Nat.zero_add, Nat.add_zero, condT, condF, Bool.not_true, Bool.not_false, Option.isNone_some, Option.isNone_none]
      refine ⟨ldI_of (h3.cell (i := 0) (o := 1) rfl rfl) rfl, rSetInC h3 (i := 2) rfl fun H4 h4 => ?_⟩
      simp only [asI_mk', asB_mk, asP_mk, asA_mk, asM_mk, asSl_mk, asStr_mk, tup2_mk, tup3_mk, agg1_mk, agg2_mk, agg3_mk, agg4_mk, asAggm, unCons_mk, unNil_mk, asTup_mk, extractD0, extractD1, List.toList_toArray, nilP_mk, add_mk, Nat.zero_add, Nat.add_zero, condT, condF, Bool.not_true, Bool.not_false, Option.isNone_some, Option.isNone_none]
      rw [beq_self_eq_true]
      exact hK _ H4 (h4.lesses (M := [_]))
    refine bif_ne w4 ?_
    by_cases w5 : pick x.What 9 = 5
    · refine bif_eq w5 (hFreeC h2 (i := 1) rfl fun H3 h3 => ?_)
      simp only [asI_mk', asB_mk, asP_mk, asA_mk, asM_mk, asSl_mk, asStr_mk, tup2_mk, tup3_mk, agg1_mk, agg2_mk, agg3_mk, agg4_mk, asAggm, unCons_mk, unNil_mk, asTup_mk, extractD0, extractD1, List.toList_toArray, nilP_mk, add_mk, Nat.zero_add, Nat.add_zero, condT, condF, Bool.not_true, Bool.not_false, Option.isNone_some, Option.isNone_none]
      refine rFreeC h3 (i := 2) rfl fun H4 h4 => ?_
      simp only [asI_mk', asB_mk, asP_mk, asA_mk, asM_mk, asSl_mk, asStr_mk, tup2_mk, tup3_mk, agg1_mk, agg2_mk, agg3_mk, agg4_mk, asAggm, unCons_mk, unNil_mk, asTup_mk, extractD0, extractD1, List.toList_toArray, nilP_mk, add_mk, Nat.zero_add, Nat.add_zero, condT, condF, Bool.not_true, Bool.not_false, Option.isNone_some, Option.isNone_none]
      rw [beq_self_eq_true]
      exact hK _ H4 (h4.lesses (M := [_]))
    refine bif_ne w5 ?_
    by_cases w6 : pick x.What 9 = 6
    · refine bif_eq w6 (ldI_of cA (hRefC h2 (i := 1) rfl fun H3 h3 => ?_))
      simp only [asI_mk', asB_mk, asP_mk, asA_mk, asM_mk, asSl_mk, asStr_mk, tup2_mk, tup3_mk, agg1_mk, agg2_mk, agg3_mk, agg4_mk, asAggm, unCons_mk, unNil_mk, asTup_mk, extractD0, extractD1, List.toList_toArray, nilP_mk, add_mk, Nat.zero_add, Nat.add_zero, condT, condF, Bool.not_true, Bool.not_false, Option.isNone_some, Option.isNone_none]
      refine box2 h3 fun b96 H4 h4 => ?_
      refine ldI_of (h4.cell (i := 1) (o := 1) rfl rfl) (rRefC h4 (i := 3) rfl fun H5 h5 => ?_)
      simp only [asI_mk', asB_mk, asP_mk, asA_mk, asM_mk, asSl_mk, asStr_mk, tup2_mk, tup3_mk, agg1_mk, agg2_mk, agg3_mk, agg4_mk, asAggm, unCons_mk, unNil_mk, asTup_mk, extractD0, extractD1, List.toList_toArray, nilP_mk, add_mk, Nat.zero_add, Nat.add_zero, condT, condF, Bool.not_true, Bool.not_false, Option.isNone_some, Option.isNone_none]
      refine box2 h5 fun b110 H6 h6 => ?_
      refine ldI_of (h6.cell (i := 1) (o := 0) rfl rfl) (ldI_of (h6.cell (i := 1) (o := 1) rfl rfl) (ldI_of (h6.cell (i := 0) (o := 0) rfl rfl) (ldI_of (h6.cell (i := 0) (o := 1) rfl rfl) (idEq ?_))))
      simp only [decide_true]
      simp only [asI_mk', asB_mk, asP_mk, asA_mk, asM_mk, asSl_mk, asStr_mk, tup2_mk, tup3_mk, agg1_mk, agg2_mk, agg3_mk, agg4_mk, asAggm, unCons_mk, unNil_mk, asTup_mk, extractD0, extractD1, List.toList_toArray, nilP_mk, add_mk, Nat.zero_add, Nat.add_zero, condT, condF, Bool.not_true, Bool.not_false, Option.isNone_some, Option.isNone_none]
      rw [beq_self_eq_true]
      exact hK _ H6 (h6.lesses (M := [_, _, _]))
    refine bif_ne w6 ?_
    by_cases w7 : pick x.What 9 = 7
    · refine bif_eq w7 (ldI_of cA (hValC h2 (i := 1) rfl ?_))
      simp only [asI_mk', asB_mk, asP_mk, asA_mk, asM_mk, asSl_mk, asStr_mk, tup2_mk, tup3_mk, agg1_mk, agg2_mk, agg3_mk, agg4_mk, asAggm, unCons_mk, unNil_mk, asTup_mk, extractD0, extractD1, List.toList_toArray, nilP_mk, add_mk, Nat.zero_add, Nat.add_zero, condT, condF, Bool.not_true, Bool.not_false, Option.isNone_some, Option.isNone_none]
      refine ldI_of cA (rValC h2 (i := 2) rfl ?_)
      simp only [asI_mk', asB_mk, asP_mk, asA_mk, asM_mk, asSl_mk, asStr_mk, tup2_mk, tup3_mk, agg1_mk, agg2_mk, agg3_mk, agg4_mk, asAggm, unCons_mk, unNil_mk, asTup_mk, extractD0, extractD1, List.toList_toArray, nilP_mk, add_mk, Nat.zero_add, Nat.add_zero, condT, condF, Bool.not_true, Bool.not_false, Option.isNone_some, Option.isNone_none]
      refine bif_eq rfl ?_
      rw [beq_self_eq_true]
      exact hK _ H2 (h2.lesses (M := [_]))
    refine bif_ne w7 ?_
    by_cases w8 : pick x.What 9 = 8
    · refine bif_eq w8 (hNextC h2 (i := 1) rfl fun H3 h3 => ?_)
      simp only [asI_mk', asB_mk, asP_mk, asA_mk, asM_mk, asSl_mk, asStr_mk, tup2_mk, tup3_mk, agg1_mk, agg2_mk, agg3_mk, agg4_mk, asAggm, unCons_mk, unNil_mk, asTup_mk, extractD0, extractD1, List.toList_toArray, nilP_mk, add_mk, Nat.zero_add, Nat.add_zero, condT, condF, Bool.not_true, Bool.not_false, Option.isNone_some, Option.isNone_none]
      refine rNextC h3 (i := 2) rfl ?_
      simp only [asI_mk', asB_mk, asP_mk, asA_mk, asM_mk, asSl_mk, asStr_mk, tup2_mk, tup3_mk, agg1_mk, agg2_mk, agg3_mk, agg4_mk, asAggm, unCons_mk, unNil_mk, asTup_mk, extractD0, extractD1, List.toList_toArray, nilP_mk, add_mk, Nat.zero_add, Nat.add_zero, condT, condF, Bool.not_true, Bool.not_false, Option.isNone_some, Option.isNone_none]
      refine bif_eq rfl ?_
      rw [beq_self_eq_true]
      exact hK _ H3 (h3.lesses (M := [_]))
    refine bif_ne w8 (ldI_of cA (ldI_of cB (hMakeC h2 (i := 1) rfl hA hB fun H3 h3 => ?_)))
    simp only [asI_mk', asB_mk, asP_mk, asA_mk, asM_mk, asSl_mk, asStr_mk, tup2_mk, tup3_mk, agg1_mk, agg2_mk, agg3_mk, agg4_mk, asAggm, unCons_mk, unNil_mk, asTup_mk, extractD0, extractD1, List.toList_toArray, nilP_mk, add_mk, Nat.zero_add, Nat.add_zero, condT, condF, Bool.not_true, Bool.not_false, Option.isNone_some, Option.isNone_none]
    refine ldI_of (h3.cell (i := 0) (o := 1) rfl rfl) (ldI_of (h3.cell (i := 0) (o := 2) rfl rfl) (rMakeC h3 (i := 2) rfl hA hB fun H4 h4 => ?_))
    simp only [asI_mk', asB_mk, asP_mk, asA_mk, asM_mk, asSl_mk, asStr_mk, tup2_mk, tup3_mk, agg1_mk, agg2_mk, agg3_mk, agg4_mk, asAggm, unCons_mk, unNil_mk, asTup_mk, extractD0, extractD1, List.toList_toArray, nilP_mk, add_mk, Nat.zero_add, Nat.add_zero, condT, condF, Bool.not_true, Bool.not_false, Option.isNone_some, Option.isNone_none]
    refine bif_eq rfl ?_
    rw [beq_self_eq_true]
    exact hK _ H4 (h4.lesses (M := [_]))
  refine ldB_of (h1.cell (i := 0) (o := 7) rfl rfl) ?_
  cases hnear : x.Near
  · simp only [asI_mk', asB_mk, asP_mk, asA_mk, asM_mk, asSl_mk, asStr_mk, tup2_mk, tup3_mk, agg1_mk, agg2_mk, agg3_mk, agg4_mk, asAggm, unCons_mk, unNil_mk, asTup_mk, extractD0, extractD1, List.toList_toArray, nilP_mk, add_mk, Nat.zero_add, Nat.add_zero, condT, condF, Bool.not_true, Bool.not_false, Option.isNone_some, Option.isNone_none]
    rw [hnear] at h1
    exact hR14 _ _ _ _ hxA hxB (by rw [hnear]; exact h1)
  · simp only [asI_mk', asB_mk, asP_mk, asA_mk, asM_mk, asSl_mk, asStr_mk, tup2_mk, tup3_mk, agg1_mk, agg2_mk, agg3_mk, agg4_mk, asAggm, unCons_mk, unNil_mk, asTup_mk, extractD0, extractD1, List.toList_toArray, nilP_mk, add_mk, Nat.zero_add, Nat.add_zero, condT, condF, Bool.not_true, Bool.not_false, Option.isNone_some, Option.isNone_none]
    rw [hnear] at hR14
    rw [hnear] at h1
    refine ldI_of (h1.cell (i := 0) (o := 1) rfl rfl) (Pick_ok (by omega) (by omega) ?_)
    have p1 := pick_lt (n := x.A) (m := 9) (by omega)
    have p2 := pick_lt (n := x.B) (m := 9) (by omega)
    simp only [asI_mk', asB_mk, asP_mk, asA_mk, asM_mk, asSl_mk, asStr_mk, tup2_mk, tup3_mk, agg1_mk, agg2_mk, agg3_mk, agg4_mk, asAggm, unCons_mk, unNil_mk, asTup_mk, extractD0, extractD1, List.toList_toArray, nilP_mk, add_mk, Nat.zero_add, Nat.add_zero, condT, condF, Bool.not_true, Bool.not_false, Option.isNone_some, Option.isNone_none]
    refine h1.put (i := 0) rfl (by simp) fun H3 h3 => ?_
    refine ldI_of (h3.cell (i := 0) (o := 2) rfl rfl) (Pick_ok (by omega) (by omega) ?_)
    simp only [asI_mk', asB_mk, asP_mk, asA_mk, asM_mk, asSl_mk, asStr_mk, tup2_mk, tup3_mk, agg1_mk, agg2_mk, agg3_mk, agg4_mk, asAggm, unCons_mk, unNil_mk, asTup_mk, extractD0, extractD1, List.toList_toArray, nilP_mk, add_mk, Nat.zero_add, Nat.add_zero, condT, condF, Bool.not_true, Bool.not_false, Option.isNone_some, Option.isNone_none]
    refine h3.put (i := 0) rfl (by simp) fun H4 h4 => ?_
    obtain ⟨xr, M4, g4, hp4, _, _⟩ := rheapTake (i := 2) h4 rfl
    refine ldI_of (rheapV g4).last ⟨by decide, ?_⟩
    have e1 : IntKind.i64.wrap (pick x.A 9 - 1) = pick x.A 9 - 1 := wrap_i64 (by omega) (by omega)
    have e2 : IntKind.i64.wrap (pick x.B 9 - 1) = pick x.B 9 - 1 := wrap_i64 (by omega) (by omega)
    rw [e1, e2] at h4
    exact hR14 _ (pick x.A 9 - 1) (pick x.B 9 - 1) H4 (by omega) (by omega) h4
end

set_option maxRecDepth 20000 in
theorem HeapPlays_ok {node cells objects last : Int} {lP : Option Addr} {lL lC : Nat} {l : List E_law8_Step} {H : Hp} {K : Value → Hp → Prop} (hn : IntKind.min .i64 ≤ node ∧ node ≤ IntKind.max .i64) (hc : IntKind.min .i64 ≤ cells ∧ cells ≤ IntKind.max .i64)
    (hob : IntKind.min .i64 ≤ objects ∧ objects ≤ IntKind.max .i64) (hlast : IntKind.min .u64 ≤ last ∧ last ≤ IntKind.max .u64) (hr : Rd H 8 lP lL (cel E_law8_Step.cells l)) (hl : lL ≤ 9223372036854775807) (hok : ∀ x ∈ l, x.ok)
    (hK : ∀ H', Keep Nothing H H' → K (.bool true) H') : hcall PR f_law8_HeapPlays ⟨[.int .i64 node, .int .i64 cells, .int .i64 objects, .int .u64 last, .slice lP lL lC]⟩ H K := by
  apply den_law8_HeapPlays
  unfold B_law8_HeapPlays
  have m0 : IntKind.min .u64 = 0 := by decide
  by_cases hbad : newBad node cells objects last
  · refine hNewBad hbad (St.start H) fun H1 h1 => ?_
    simp only [asI_mk', asB_mk, asP_mk, asA_mk, asM_mk, asSl_mk, asStr_mk, tup2_mk, tup3_mk, agg1_mk, agg2_mk, agg3_mk, agg4_mk, asAggm, unCons_mk, unNil_mk, asTup_mk, extractD0, extractD1, List.toList_toArray, nilP_mk, add_mk, Nat.zero_add, Nat.add_zero, condT, condF, Bool.not_true, Bool.not_false, Option.isNone_some, Option.isNone_none]
    refine rNewBad hbad ?_
    simp only [asI_mk', asB_mk, asP_mk, asA_mk, asM_mk, asSl_mk, asStr_mk, tup2_mk, tup3_mk, agg1_mk, agg2_mk, agg3_mk, agg4_mk, asAggm, unCons_mk, unNil_mk, asTup_mk, extractD0, extractD1, List.toList_toArray, nilP_mk, add_mk, Nat.zero_add, Nat.add_zero, condT, condF, Bool.not_true, Bool.not_false, Option.isNone_some, Option.isNone_none]
    refine known8_ok h1 fun H2 h2 => ?_
    simp only [asI_mk', asB_mk, asP_mk, asA_mk, asM_mk, asSl_mk, asStr_mk, tup2_mk, tup3_mk, agg1_mk, agg2_mk, agg3_mk, agg4_mk, asAggm, unCons_mk, unNil_mk, asTup_mk, extractD0, extractD1, List.toList_toArray, nilP_mk, add_mk, Nat.zero_add, Nat.add_zero, condT, condF, Bool.not_true, Bool.not_false, Option.isNone_some, Option.isNone_none]
    exact bif_eq rfl (hK H2 h2.keep)
  · obtain ⟨m, rfl, hm1, hm2⟩ := cells_mul (cells := cells) (fun h => hbad (by unfold newBad; omega))
    unfold newBad at hbad
    refine hNewOk (by omega) (by omega) (by omega) hm1 hm2 (St.start H) fun b H1 h1 => ?_
    simp only [asI_mk', asB_mk, asP_mk, asA_mk, asM_mk, asSl_mk, asStr_mk, tup2_mk, tup3_mk, agg1_mk, agg2_mk, agg3_mk, agg4_mk, asAggm, unCons_mk, unNil_mk, asTup_mk, extractD0, extractD1, List.toList_toArray, nilP_mk, add_mk, Nat.zero_add, Nat.add_zero, condT, condF, Bool.not_true, Bool.not_false, Option.isNone_some, Option.isNone_none]
    refine rNewOk (by omega) (by omega) (by omega) hm1 hm2 h1 fun r H2 h2 => ?_
    simp only [asI_mk', asB_mk, asP_mk, asA_mk, asM_mk, asSl_mk, asStr_mk, tup2_mk, tup3_mk, agg1_mk, agg2_mk, agg3_mk, agg4_mk, asAggm, unCons_mk, unNil_mk, asTup_mk, extractD0, extractD1, List.toList_toArray, nilP_mk, add_mk, Nat.zero_add, Nat.add_zero, condT, condF, Bool.not_true, Bool.not_false, Option.isNone_some, Option.isNone_none]
    refine known8_ok h2 fun H3 h3 => ?_
    simp only [asI_mk', asB_mk, asP_mk, asA_mk, asM_mk, asSl_mk, asStr_mk, tup2_mk, tup3_mk, agg1_mk, agg2_mk, agg3_mk, agg4_mk, asAggm, unCons_mk, unNil_mk, asTup_mk, extractD0, extractD1, List.toList_toArray, nilP_mk, add_mk, Nat.zero_add, Nat.add_zero, condT, condF, Bool.not_true, Bool.not_false, Option.isNone_some, Option.isNone_none]
    refine bif_neqf rfl ?_
    have h3 := h3.flip
    intro R20 hR20
    have hR20 : ∀ s H', St H [HeapP b s, RHeap r s] H' → R20 H' := fun s H' h' => by
      refine hR20 H' (whole_ok h' fun H4 h4 => ?_)
      simp only [asI_mk', asB_mk, asP_mk, asA_mk, asM_mk, asSl_mk, asStr_mk, tup2_mk, tup3_mk, agg1_mk, agg2_mk, agg3_mk, agg4_mk, asAggm, unCons_mk, unNil_mk, asTup_mk, extractD0, extractD1, List.toList_toArray, nilP_mk, add_mk, Nat.zero_add, Nat.add_zero, condT, condF, Bool.not_true, Bool.not_false, Option.isNone_some, Option.isNone_none]
      exact hK H4 h4.keep
    refine ⟨fun i H' => (∃ s, St H [HeapP b s, RHeap r s] H') ∧ ∃ j : Nat, i = j ∧ j ≤ lL, fun i _ => (lL - i).toNat, ⟨⟨_, h3⟩, 0, rfl, by omega⟩, ?_⟩
    rintro i H4 ⟨⟨s, h4⟩, j, rfl, hj⟩
    by_cases hlt : (j : Int) < lL
    rotate_left
    · exact bif_neg hlt (hR20 s H4 h4)
    refine bif_pos hlt ?_
    by_cases h400 : (j : Int) < 400
    rotate_left
    · exact bif_neg h400 (hR20 s H4 h4)
    refine bif_pos h400 (idxS E_law8_Step.len ⟨0, 0, 0, 0, 0, 0, 0, false⟩ (h4.rd hr) (by omega) (by omega) hlt fun b1 o1 hp hjl hcs => ?_)
    have hx := hok _ (List.getElem_mem hjl)
    have hgd : l.getD (j : Int).toNat ⟨0, 0, 0, 0, 0, 0, 0, false⟩ = l[(j : Int).toNat] := by rw [List.getD_eq_getElem?_getD, List.getElem?_eq_getElem hjl]; rfl
    rw [← hgd] at hx
    generalize l.getD (j : Int).toNat ⟨0, 0, 0, 0, 0, 0, 0, false⟩ = x at hx hcs
    have c0 := hcs 0 (by omega)
    have c1 := hcs 1 (by omega)
    have c2 := hcs 2 (by omega)
    have c3 := hcs 3 (by omega)
    have c4 := hcs 4 (by omega)
    have c5 := hcs 5 (by omega)
    have c6 := hcs 6 (by omega)
    have c7 := hcs 7 (by omega)
    simp only [asI_mk', asB_mk, asP_mk, asA_mk, asM_mk, asSl_mk, asStr_mk, tup2_mk, tup3_mk, agg1_mk, agg2_mk, agg3_mk, agg4_mk, asAggm, unCons_mk, unNil_mk, asTup_mk, extractD0, extractD1, List.toList_toArray, nilP_mk, add_mk, Nat.zero_add, Nat.add_zero, condT, condF, Bool.not_true, Bool.not_false, Option.isNone_some, Option.isNone_none]
    refine ldI_of c0 (ldI_of c1 (ldI_of c2 (ldI_of c3 (ldI_of c4 (ldI_of c5 (ldI_of c6 (ldB_of c7 (fill_ok hx h4 fun s' H5 h5 => ?_))))))))
    simp only [asI_mk', asB_mk, asP_mk, asA_mk, asM_mk, asSl_mk, asStr_mk, tup2_mk, tup3_mk, agg1_mk, agg2_mk, agg3_mk, agg4_mk, asAggm, unCons_mk, unNil_mk, asTup_mk, extractD0, extractD1, List.toList_toArray, nilP_mk, add_mk, Nat.zero_add, Nat.add_zero, condT, condF, Bool.not_true, Bool.not_false, Option.isNone_some, Option.isNone_none]
    rw [wrap_i64 (by omega) (by omega)]
    exact ⟨⟨⟨s', h5⟩, j + 1, by omega, by omega⟩, by (try dsimp only); omega⟩

theorem one_steps8 {l : List E_law8_Step} : ∀ y ∈ cel E_law8_Step.cells l, one y = true := by
  intro y hy
  unfold cel at hy
  rw [List.mem_flatten] at hy
  obtain ⟨xs, hx, hy⟩ := hy
  obtain ⟨z, _, rfl⟩ := List.mem_map.1 hx
  simp [E_law8_Step.cells] at hy
  rcases hy with rfl | rfl | rfl | rfl | rfl | rfl | rfl | rfl <;> rfl

end Go.Proofs.Ytohlnmenghbgbaa

/- Chapter 8's statement of small heaps, run. No condition. -/
namespace Go.Proofs.Ytohlnmenghbgbaa
set_option linter.unusedSimpArgs false
set_option linter.unusedVariables false
open Go

set_option maxRecDepth 20000 in
theorem HeapSmall_ok {blocks objects : Int} {lP : Option Addr} {lL lC : Nat} {l : List E_law8_Step} {H : Hp} {K : Value → Hp → Prop} (hbl : IntKind.min .i64 ≤ blocks ∧ blocks ≤ IntKind.max .i64)
    (hob : IntKind.min .i64 ≤ objects ∧ objects ≤ IntKind.max .i64) (hr : Rd H 8 lP lL (cel E_law8_Step.cells l)) (hl : lL * 64 ≤ 140737488351232) (hok : ∀ x ∈ l, x.ok)
    (hK : ∀ H', Keep Nothing H H' → K (.bool true) H') : hcall PR f_law8_HeapSmall ⟨[.int .i64 blocks, .int .i64 objects, .slice lP lL lC]⟩ H K := by
  apply den_law8_HeapSmall
  unfold B_law8_HeapSmall
  have hll : lL = l.length := by
    have h1 := hr.1
    rw [cel_len E_law8_Step.len] at h1
    omega
  intro b6 hb6
  have h1 := (St.start H).alloc (o := .cells #[] ty_law8_Step) hb6
  refine h1.copyAll (i := 0) rfl tu_ty_Smooringlaw8_Step tu_ty_Smooringlaw8_Step ti_ty_law8_Step rfl (by decide) (by decide) (h1.rd hr) one_steps8 (by omega) fun p c H2 h2 => ?_
  simp only [asI_mk', asB_mk, asP_mk, asA_mk, asM_mk, asSl_mk, asStr_mk, tup2_mk, tup3_mk, agg1_mk, agg2_mk, agg3_mk, agg4_mk, asAggm, unCons_mk, unNil_mk, asTup_mk, extractD0, extractD1, List.toList_toArray, nilP_mk, add_mk, Nat.zero_add, Nat.add_zero, condT, condF, Bool.not_true, Bool.not_false, Option.isNone_some, Option.isNone_none]
  refine ⟨fun i H' => ∃ (j : Nat) (l' : List E_law8_Step), i = j ∧ j ≤ lL ∧ l'.length = lL ∧ (∀ x ∈ l', x.ok) ∧ St H [Prt.row 8 p lL c (cel E_law8_Step.cells l')] H', fun i _ => (lL - i).toNat, ⟨0, l, rfl, by omega, hll.symm, hok, h2⟩, ?_⟩
  rintro i H3 ⟨j, l', rfl, hj, hl', hok', h3⟩
  by_cases hlt : (j : Int) < lL
  · refine bif_pos hlt (idxA_of (h3.row_rd (i := 0) rfl) (by omega) hlt fun b1 o1 hp _ => ?_)
    have e0 : (Int.toNat (j : Int)) = j := by omega
    rw [e0]
    simp only [asI_mk', asB_mk, asP_mk, asA_mk, asM_mk, asSl_mk, asStr_mk, tup2_mk, tup3_mk, agg1_mk, agg2_mk, agg3_mk, agg4_mk, asAggm, unCons_mk, unNil_mk, asTup_mk, extractD0, extractD1, List.toList_toArray, nilP_mk, add_mk, Nat.zero_add, Nat.add_zero, condT, condF, Bool.not_true, Bool.not_false, Option.isNone_some, Option.isNone_none]
    rw [Nat.add_assoc]
    refine h3.poke (i := 0) rfl hp (by omega) fun H4 h4 => ?_
    simp only [List.set_cons_zero] at h4
    rw [cel_set1 (y := { l'.getD j ⟨0, 0, 0, 0, 0, 0, 0, false⟩ with Near := true }) E_law8_Step.len ⟨0, 0, 0, 0, 0, 0, 0, false⟩ (by omega) (by omega) rfl] at h4
    rw [wrap_i64 (by omega) (by omega)]
    refine ⟨⟨j + 1, _, by omega, by omega, by rw [List.length_set]; exact hl', fun x hx => ?_, h4⟩, by (try dsimp only); omega⟩
    rcases List.mem_or_eq_of_mem_set hx with hx | rfl
    · exact hok' x hx
    · have hx : (l'.getD j ⟨0, 0, 0, 0, 0, 0, 0, false⟩).ok := by
        rw [List.getD_eq_getElem?_getD, List.getElem?_eq_getElem (by omega)]
        exact hok' _ (List.getElem_mem _)
      exact ⟨hx.What, hx.A, hx.B, hx.Serial, hx.V, hx.X_Node, hx.X_Serial⟩
  refine bif_neg hlt (Pick_ok (by omega) (by omega) ?_)
  simp only [asI_mk', asB_mk, asP_mk, asA_mk, asM_mk, asSl_mk, asStr_mk, tup2_mk, tup3_mk, agg1_mk, agg2_mk, agg3_mk, agg4_mk, asAggm, unCons_mk, unNil_mk, asTup_mk, extractD0, extractD1, List.toList_toArray, nilP_mk, add_mk, Nat.zero_add, Nat.add_zero, condT, condF, Bool.not_true, Bool.not_false, Option.isNone_some, Option.isNone_none]
  refine Pick_ok (by omega) (by omega) ?_
  simp only [asI_mk', asB_mk, asP_mk, asA_mk, asM_mk, asSl_mk, asStr_mk, tup2_mk, tup3_mk, agg1_mk, agg2_mk, agg3_mk, agg4_mk, asAggm, unCons_mk, unNil_mk, asTup_mk, extractD0, extractD1, List.toList_toArray, nilP_mk, add_mk, Nat.zero_add, Nat.add_zero, condT, condF, Bool.not_true, Bool.not_false, Option.isNone_some, Option.isNone_none]
  have p1 := pick_lt (n := blocks) (m := 6) (by omega)
  have p2 := pick_lt (n := objects) (m := 12) (by omega)
  have m0 : IntKind.min .i64 = -9223372036854775808 := by decide
  have m1 : IntKind.max .i64 = 9223372036854775807 := by decide
  have w1 : IntKind.i64.wrap (1 + pick blocks 6) = 1 + pick blocks 6 := wrap_i64 (by omega) (by omega)
  have w2 : IntKind.i64.wrap (16 * (1 + pick blocks 6)) = 16 * (1 + pick blocks 6) := wrap_i64 (by omega) (by omega)
  have w3 : IntKind.i64.wrap (1 + pick objects 12) = 1 + pick objects 12 := wrap_i64 (by omega) (by omega)
  rw [w1, w2, w3]
  refine HeapPlays_ok (by omega) (by omega) (by omega) (by decide) (h3.row_rd (i := 0) rfl) (by omega) hok' fun H4 k4 => ?_
  simp only [asI_mk', asB_mk, asP_mk, asA_mk, asM_mk, asSl_mk, asStr_mk, tup2_mk, tup3_mk, agg1_mk, agg2_mk, agg3_mk, agg4_mk, asAggm, unCons_mk, unNil_mk, asTup_mk, extractD0, extractD1, List.toList_toArray, nilP_mk, add_mk, Nat.zero_add, Nat.add_zero, condT, condF, Bool.not_true, Bool.not_false, Option.isNone_some, Option.isNone_none]
  exact hK H4 (h3.keep.trans k4 fun _ h => .inl h)

end Go.Proofs.Ytohlnmenghbgbaa
