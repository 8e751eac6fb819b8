/- PRINTED by gen.py: functions as plain propositions, held against the program by the kernel. No condition. -/
import Derived.Test.YtohlnmenghbgbaaDenN
namespace Go.Proofs.Ytohlnmenghbgbaa
open Go
set_option linter.unusedVariables false
set_option maxRecDepth 100000

def B_law8_HeapApart (n1 : Int) (lP2 : Option Addr) (lL3 : Nat) (lC4 : Nat) (H : Hp) (K : Value → Hp → Prop) : Prop :=
hcall PR f_heap_New ⟨[(.int .i64 1), (.int .i64 512), (.int .i64 16), (.int .u64 0)]⟩ H fun v5 Hx6 =>
tup2 v5 fun v7 v8 =>
asP v7 fun t9 =>
asI .i64 v8 fun t10 =>
hcall PR f_law8_known ⟨[]⟩ Hx6 fun v11 Hx12 =>
asB v11 fun t13 =>
(bif (!t13) then
K (.bool false) Hx12
else
(bif ((t10 : Int) != 0) then
K (.bool false) Hx12
else
(bif (Option.isNone (α := Addr) t9) then
K (.bool false) Hx12
else
hcall PR f_hand_Pick ⟨[(.int .i64 n1), (.int .i64 10)]⟩ Hx12 fun v14 Hx15 =>
asI .i64 v14 fun t16 =>
∃ (I17 : Int → Hp → Prop) (m18 : Int → Hp → Nat), I17 0 Hx15 ∧ ∀ i20 : Int, ∀ Hx19 : Hp, I17 i20 Hx19 →
(bif (decide ((i20 : Int) < (IntKind.i64.wrap (2 + t16)))) then
hcall PR f_heap_Heap_Make ⟨[(.pointer t9), (.int .i64 2), (.int .i64 2)]⟩ Hx19 fun v21 Hx22 =>
tup2 v21 fun v23 v24 =>
asI .u64 v23 fun t25 =>
asI .i64 v24 fun t26 =>
(bif ((t26 : Int) != 0) then
K (.bool false) Hx22
else
I17 (IntKind.i64.wrap (i20 + 1)) Hx22 ∧ m18 (IntKind.i64.wrap (i20 + 1)) Hx22 < m18 i20 Hx19)
else
evW PR (Instr.makeSlice ty_S_2_api_ID (.int .i64 (IntKind.i64.wrap ((IntKind.i64.wrap (2 + t16)) + 1))) (.int .i64 (IntKind.i64.wrap ((IntKind.i64.wrap (2 + t16)) + 1)))) Hx19 fun v27 Hx28 =>
asSl v27 fun mkP29 mkL30 mkC31 =>
evW PR (Instr.makeSlice ty_S_2_uint64 (.int .i64 (IntKind.i64.wrap ((IntKind.i64.wrap (2 + t16)) + 1))) (.int .i64 (IntKind.i64.wrap ((IntKind.i64.wrap (2 + t16)) + 1)))) Hx28 fun v32 Hx33 =>
asSl v32 fun mkP34 mkL35 mkC36 =>
∀ R37 : Hp → Prop, (∀ Hx38 : Hp, (
∃ (I39 : Int → Hp → Prop) (m40 : Int → Hp → Nat), I39 1 Hx38 ∧ ∀ k42 : Int, ∀ Hx41 : Hp, I39 k42 Hx41 →
(bif (decide ((k42 : Int) ≤ (IntKind.i64.wrap (2 + t16)))) then
hcall PR f_heap_Heap_Object ⟨[(.pointer t9), (.int .u64 (IntKind.u64.wrap k42))]⟩ Hx41 fun v43 Hx44 =>
tup2 v43 fun v45 v46 =>
asAgg' v45 fun cs47 =>
unCons cs47.toList fun v48 r49 =>
unCons r49 fun v50 r51 =>
unCons r51 fun v52 r53 =>
unCons r53 fun v54 r55 =>
unCons r55 fun v56 r57 =>
unNil r57 <|
asI .u64 v48 fun Serial58 =>
asI .i64 v50 fun Cell59 =>
asSl v52 fun RefsP60 RefsL61 RefsC62 =>
asSl v54 fun ValsP63 ValsL64 ValsC65 =>
asI .i64 v56 fun In66 =>
asB v46 fun t67 =>
newB (.cells #[(.int .u64 0), (.int .i64 0), (.slice none 0 0), (.slice none 0 0), (.int .i64 0)] ty_api_Object) Hx44 fun b68 Hx69 =>
st ⟨b68, 0, none⟩ (.int .u64 Serial58) Hx69 fun Hx70 =>
st ⟨b68, 1, none⟩ (.int .i64 Cell59) Hx70 fun Hx71 =>
st ⟨b68, 2, none⟩ (.slice RefsP60 RefsL61 RefsC62) Hx71 fun Hx72 =>
st ⟨b68, 3, none⟩ (.slice ValsP63 ValsL64 ValsC65) Hx72 fun Hx73 =>
st ⟨b68, 4, none⟩ (.int .i64 In66) Hx73 fun Hx74 =>
(bif (!t67) then
K (.bool false) Hx74
else
ldSl ⟨b68, 2, none⟩ Hx74 fun RefsP75 RefsL76 RefsC77 =>
(bif (((RefsL76 : Int) : Int) != 2) then
K (.bool false) Hx74
else
ldSl ⟨b68, 3, none⟩ Hx74 fun ValsP78 ValsL79 ValsC80 =>
(bif (((ValsL79 : Int) : Int) != 2) then
K (.bool false) Hx74
else
ldSl ⟨b68, 2, none⟩ Hx74 fun RefsP81 RefsL82 RefsC83 =>
idxA RefsP81 RefsL82 0 2 fun el84 =>
ldI .i64 el84 Hx74 fun Node85 =>
ldI .u64 (el84.add 1) Hx74 fun Serial86 =>
idxA mkP29 mkL30 k42 4 fun el87 =>
idxA (some el87) 2 0 2 fun el88 =>
ldI .i64 el88 Hx74 fun Node89 =>
ldI .u64 (el88.add 1) Hx74 fun Serial90 =>
evR PR (aggEq .neq ty_api_ID #[(.int .i64 Node85), (.int .u64 Serial86)] #[(.int .i64 Node89), (.int .u64 Serial90)]) Hx74 fun v91 =>
asB v91 fun eq92 =>
(bif eq92 then
K (.bool false) Hx74
else
ldSl ⟨b68, 2, none⟩ Hx74 fun RefsP93 RefsL94 RefsC95 =>
idxA RefsP93 RefsL94 1 2 fun el96 =>
ldI .i64 el96 Hx74 fun Node97 =>
ldI .u64 (el96.add 1) Hx74 fun Serial98 =>
idxA mkP29 mkL30 k42 4 fun el99 =>
idxA (some el99) 2 1 2 fun el100 =>
ldI .i64 el100 Hx74 fun Node101 =>
ldI .u64 (el100.add 1) Hx74 fun Serial102 =>
evR PR (aggEq .neq ty_api_ID #[(.int .i64 Node97), (.int .u64 Serial98)] #[(.int .i64 Node101), (.int .u64 Serial102)]) Hx74 fun v103 =>
asB v103 fun eq104 =>
(bif eq104 then
K (.bool false) Hx74
else
ldSl ⟨b68, 3, none⟩ Hx74 fun ValsP105 ValsL106 ValsC107 =>
idxA ValsP105 ValsL106 0 1 fun el108 =>
ldI .u64 el108 Hx74 fun t109 =>
idxA mkP34 mkL35 k42 2 fun el110 =>
idxA (some el110) 2 0 1 fun el111 =>
ldI .u64 el111 Hx74 fun t112 =>
(bif ((t109 : Int) != t112) then
K (.bool false) Hx74
else
ldSl ⟨b68, 3, none⟩ Hx74 fun ValsP113 ValsL114 ValsC115 =>
idxA ValsP113 ValsL114 1 1 fun el116 =>
ldI .u64 el116 Hx74 fun t117 =>
idxA mkP34 mkL35 k42 2 fun el118 =>
idxA (some el118) 2 1 1 fun el119 =>
ldI .u64 el119 Hx74 fun t120 =>
(bif ((t117 : Int) != t120) then
K (.bool false) Hx74
else
ldI .i64 ⟨b68, 4, none⟩ Hx74 fun In121 =>
(bif ((In121 : Int) != 0) then
K (.bool false) Hx74
else
I39 (IntKind.i64.wrap (k42 + 1)) Hx74 ∧ m40 (IntKind.i64.wrap (k42 + 1)) Hx74 < m40 k42 Hx41))))))))
else
K (.bool true) Hx41)) → R37 Hx38) →
∃ (I122 : Int → Hp → Prop) (m123 : Int → Hp → Nat), I122 0 Hx33 ∧ ∀ i125 : Int, ∀ Hx124 : Hp, I122 i125 Hx124 →
(bif (decide ((i125 : Int) < (lL3 : Int))) then
(bif (decide ((i125 : Int) < 200)) then
∀ R126 : Hp → Prop, (∀ Hx127 : Hp, (
I122 (IntKind.i64.wrap (i125 + 1)) Hx127 ∧ m123 (IntKind.i64.wrap (i125 + 1)) Hx127 < m123 i125 Hx124) → R126 Hx127) →
idxA lP2 lL3 i125 8 fun el128 =>
ldI .i64 (el128.add 1) Hx124 fun A129 =>
hcall PR f_hand_Pick ⟨[(.int .i64 A129), (.int .i64 (IntKind.i64.wrap (2 + t16)))]⟩ Hx124 fun v130 Hx131 =>
asI .i64 v130 fun t132 =>
idxA lP2 lL3 i125 8 fun el133 =>
ldI .i64 (el133.add 2) Hx131 fun B134 =>
hcall PR f_hand_Pick ⟨[(.int .i64 B134), (.int .i64 2)]⟩ Hx131 fun v135 Hx136 =>
asI .i64 v135 fun t137 =>
∀ R138 : Option Addr → Hp → Prop, (∀ x140 : Option Addr, ∀ Hx139 : Hp, (
idxA lP2 lL3 i125 8 fun el141 =>
ldB (el141.add 7) Hx139 fun Near142 =>
(bif Near142 then
asA (.pointer x140) fun xa143 =>
ldI .i64 xa143 Hx139 fun Node144 =>
ldI .u64 (xa143.add 1) Hx139 fun Serial145 =>
hcall PR f_heap_Heap_SetRef ⟨[(.pointer t9), (.int .u64 (IntKind.u64.wrap (IntKind.i64.wrap (1 + t132)))), (.int .i64 t137), (.agg #[(.int .i64 Node144), (.int .u64 Serial145)])]⟩ Hx139 fun v146 Hx147 =>
tup2 v146 fun v148 v149 =>
agg2 v148 fun v150 v151 =>
asI .i64 v150 fun Node152 =>
asI .u64 v151 fun Serial153 =>
asI .i64 v149 fun t154 =>
asA (.pointer x140) fun xa155 =>
ldI .i64 xa155 Hx147 fun Node156 =>
ldI .u64 (xa155.add 1) Hx147 fun Serial157 =>
idxA mkP29 mkL30 (IntKind.i64.wrap (1 + t132)) 4 fun el158 =>
idxA (some el158) 2 t137 2 fun el159 =>
st el159 (.int .i64 Node156) Hx147 fun Hx160 =>
st (el159.add 1) (.int .u64 Serial157) Hx160 fun Hx161 =>
R126 Hx161
else
idxA lP2 lL3 i125 8 fun el162 =>
ldI .u64 (el162.add 4) Hx139 fun V163 =>
hcall PR f_heap_Heap_SetVal ⟨[(.pointer t9), (.int .u64 (IntKind.u64.wrap (IntKind.i64.wrap (1 + t132)))), (.int .i64 t137), (.int .u64 V163)]⟩ Hx139 fun v164 Hx165 =>
asI .i64 v164 fun t166 =>
idxA lP2 lL3 i125 8 fun el167 =>
ldI .u64 (el167.add 4) Hx165 fun V168 =>
idxA mkP34 mkL35 (IntKind.i64.wrap (1 + t132)) 2 fun el169 =>
idxA (some el169) 2 t137 1 fun el170 =>
st el170 (.int .u64 V168) Hx165 fun Hx171 =>
R126 Hx171)) → R138 x140 Hx139) →
idxA lP2 lL3 i125 8 fun el172 =>
ldI .i64 el172 Hx136 fun What173 =>
idxA lP2 lL3 i125 8 fun el174 =>
ldI .u64 (el174.add 3) Hx136 fun Serial175 =>
(9 : Int) ≠ 0 ∧
(hcall PR f_hand_Pick ⟨[(.int .i64 What173), (.int .i64 5)]⟩ Hx136 fun v176 Hx177 =>
asI .i64 v176 fun t178 =>
(ldI .u64 (el174.add 3) Hx177 fun Serial179 =>
((.int .u64 Serial179) : Value) = (.int .u64 Serial175)) ∧
newB (.cells #[(.int .i64 0), (.int .u64 0)] ty_api_ID) Hx177 fun b180 Hx181 =>
(ldI .u64 (el174.add 3) Hx181 fun Serial182 =>
((.int .u64 Serial182) : Value) = (.int .u64 Serial175)) ∧
st ⟨b180, 0, none⟩ (.int .i64 (IntKind.i64.wrap (1 + t178))) Hx181 fun Hx183 =>
st ⟨b180, 1, none⟩ (.int .u64 (IntKind.u64.wrap (1 + (Int.tmod Serial175 9)))) Hx183 fun Hx184 =>
R138 (some ⟨b180, 0, none⟩) Hx184) ∧
(newB (.cells #[(.int .i64 0), (.int .u64 0)] ty_api_ID) Hx136 fun b185 Hx186 =>
(ldI .u64 (el174.add 3) Hx186 fun Serial187 =>
((.int .u64 Serial187) : Value) = (.int .u64 Serial175)) ∧
(ldI .i64 el172 Hx186 fun What188 =>
((.int .i64 What188) : Value) = (.int .i64 What173)) ∧
hcall PR f_hand_Pick ⟨[(.int .i64 What173), (.int .i64 5)]⟩ Hx186 fun v189 Hx190 =>
asI .i64 v189 fun t191 =>
(ldI .u64 (el174.add 3) Hx190 fun Serial192 =>
((.int .u64 Serial192) : Value) = (.int .u64 Serial175)) ∧
st ⟨b185, 0, none⟩ (.int .i64 (IntKind.i64.wrap (1 + t191))) Hx190 fun Hx193 =>
st ⟨b185, 1, none⟩ (.int .u64 (IntKind.u64.wrap (1 + (Int.tmod Serial175 9)))) Hx193 fun Hx194 =>
R138 (some ⟨b185, 0, none⟩) Hx194)
else
R37 Hx124)
else
R37 Hx124)))))
theorem E_law8_HeapApart (n1 : Int) (lP2 : Option Addr) (lL3 : Nat) (lC4 : Nat) (H : Hp) (K : Value → Hp → Prop) : B_law8_HeapApart n1 lP2 lL3 lC4 H K = denF Try.prog Try.f5 (.seq none .n (.seq none .n (.seq none .n (.seq none .n (.seq none (.seq none .n (.sub (.loop ⟨[(7, .int .i64)], [0, 1, 5]⟩ .n))) (.seq none .n (.seq none .n (.seq (some ⟨[], [0, 5, 10, 11]⟩) (.seq none .n (.sub (.loop ⟨[(12, .int .i64)], [0, 1, 5, 10, 11]⟩ (.seq none .n (.seq (some ⟨[], [0, 1, 5, 10, 11, 12]⟩) (.sub (.seq none .n (.seq none .n (.seq (some ⟨[(15, .ptr)], [0, 1, 5, 10, 11, 12, 13, 14]⟩) .n .n)))) .n))))) (.seq none (.seq none .n (.sub (.loop ⟨[(16, .int .i64)], [0, 5, 10, 11]⟩ .n))) .n))))))))) [(.int .i64 n1), (.slice lP2 lL3 lC4)] H K := by kernel_rfl
theorem den_law8_HeapApart {n1 : Int} {lP2 : Option Addr} {lL3 : Nat} {lC4 : Nat} {H : Hp} {K : Value → Hp → Prop} (h : B_law8_HeapApart n1 lP2 lL3 lC4 H K) : hcall PR f_law8_HeapApart ⟨[(.int .i64 n1), (.slice lP2 lL3 lC4)]⟩ H K := denF_call Try.func5 PR_mixed (Eq.mp (E_law8_HeapApart n1 lP2 lL3 lC4 H K) h)

end Go.Proofs.Ytohlnmenghbgbaa
