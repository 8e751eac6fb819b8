/- Merged by merge.py: DenLaw23TraceKnown, DenLaw23TraceWaits, Law23k. No condition. -/
import Derived.Test.YtknejebggegfjaaZNum
import Derived.Test.YtknejebggegfjaaZTraceb

namespace Go.Proofs.Ytknejebggegfjaa
open Go
set_option linter.unusedVariables false
set_option maxRecDepth 100000
def B_law23_TraceKnown  (H : Hp) (K : Value → Hp → Prop) : Prop :=
 hcall PR f_hand_Config ⟨[(.agg #[(.int .i64 0), (.int .i64 0), (.int .i64 0), (.int .i64 0), (.int .i64 0), (.int .i64 0), (.int .i64 0), (.int .i64 0), (.int .i64 0), (.int .i64 0), (.int .i64 0), (.int .i64 0), (.int .i64 0), (.int .i64 0), (.int .i64 0), (.int .i64 0), (.int .i64 0), (.int .i64 0), (.int .i64 0), (.int .i64 0), (.int .u64 0), (.int .u64 0)])]⟩ H fun v1 Hx2 =>
 asAgg' v1 fun cs3 =>
 unCons cs3.toList fun v4 r5 =>
 unCons r5 fun v6 r7 =>
 unCons r7 fun v8 r9 =>
 unCons r9 fun v10 r11 =>
 unCons r11 fun v12 r13 =>
 unCons r13 fun v14 r15 =>
 unCons r15 fun v16 r17 =>
 unCons r17 fun v18 r19 =>
 unCons r19 fun v20 r21 =>
 unCons r21 fun v22 r23 =>
 unCons r23 fun v24 r25 =>
 unCons r25 fun v26 r27 =>
 unCons r27 fun v28 r29 =>
 unCons r29 fun v30 r31 =>
 unCons r31 fun v32 r33 =>
 unCons r33 fun v34 r35 =>
 unCons r35 fun v36 r37 =>
 unCons r37 fun v38 r39 =>
 unCons r39 fun v40 r41 =>
 unCons r41 fun v42 r43 =>
 unCons r43 fun v44 r45 =>
 unCons r45 fun v46 r47 =>
 unNil r47 <|
 asI .i64 v4 fun Nodes48 =>
 asI .i64 v6 fun Mutators49 =>
 asI .i64 v8 fun Slots50 =>
 asI .i64 v10 fun Cells51 =>
 asI .i64 v12 fun Objects52 =>
 asI .i64 v14 fun Stubs53 =>
 asI .i64 v16 fun Calls54 =>
 asI .i64 v18 fun Window55 =>
 asI .i64 v20 fun Grey56 =>
 asI .i64 v22 fun Bag57 =>
 asI .i64 v24 fun Inbox58 =>
 asI .u64 v26 fun Unit59 =>
 asI .u64 v28 fun Drift60 =>
 asI .u64 v30 fun Lease61 =>
 asI .u64 v32 fun Wait62 =>
 asI .u64 v34 fun Most63 =>
 asI .u64 v36 fun Patience64 =>
 asI .i64 v38 fun Suspect65 =>
 asI .i64 v40 fun Trace66 =>
 asI .i64 v42 fun Work67 =>
 asI .u64 v44 fun Start68 =>
 asI .u64 v46 fun Last69 =>
 newB (.cells #[(.int .i64 0), (.int .i64 0), (.int .i64 0), (.int .i64 0), (.int .i64 0), (.int .i64 0), (.int .i64 0), (.int .i64 0), (.int .i64 0), (.int .i64 0), (.int .i64 0), (.int .u64 0), (.int .u64 0), (.int .u64 0), (.int .u64 0), (.int .u64 0), (.int .u64 0), (.int .i64 0), (.int .i64 0), (.int .i64 0), (.int .u64 0), (.int .u64 0)] ty_api_Config) Hx2 fun b70 Hx71 =>
 st ⟨b70, 0, none⟩ (.int .i64 Nodes48) Hx71 fun Hx72 =>
 st ⟨b70, 1, none⟩ (.int .i64 Mutators49) Hx72 fun Hx73 =>
 st ⟨b70, 2, none⟩ (.int .i64 Slots50) Hx73 fun Hx74 =>
 st ⟨b70, 3, none⟩ (.int .i64 Cells51) Hx74 fun Hx75 =>
 st ⟨b70, 4, none⟩ (.int .i64 Objects52) Hx75 fun Hx76 =>
 st ⟨b70, 5, none⟩ (.int .i64 Stubs53) Hx76 fun Hx77 =>
 st ⟨b70, 6, none⟩ (.int .i64 Calls54) Hx77 fun Hx78 =>
 st ⟨b70, 7, none⟩ (.int .i64 Window55) Hx78 fun Hx79 =>
 st ⟨b70, 8, none⟩ (.int .i64 Grey56) Hx79 fun Hx80 =>
 st ⟨b70, 9, none⟩ (.int .i64 Bag57) Hx80 fun Hx81 =>
 st ⟨b70, 10, none⟩ (.int .i64 Inbox58) Hx81 fun Hx82 =>
 st ⟨b70, 11, none⟩ (.int .u64 Unit59) Hx82 fun Hx83 =>
 st ⟨b70, 12, none⟩ (.int .u64 Drift60) Hx83 fun Hx84 =>
 st ⟨b70, 13, none⟩ (.int .u64 Lease61) Hx84 fun Hx85 =>
 st ⟨b70, 14, none⟩ (.int .u64 Wait62) Hx85 fun Hx86 =>
 st ⟨b70, 15, none⟩ (.int .u64 Most63) Hx86 fun Hx87 =>
 st ⟨b70, 16, none⟩ (.int .u64 Patience64) Hx87 fun Hx88 =>
 st ⟨b70, 17, none⟩ (.int .i64 Suspect65) Hx88 fun Hx89 =>
 st ⟨b70, 18, none⟩ (.int .i64 Trace66) Hx89 fun Hx90 =>
 st ⟨b70, 19, none⟩ (.int .i64 Work67) Hx90 fun Hx91 =>
 st ⟨b70, 20, none⟩ (.int .u64 Start68) Hx91 fun Hx92 =>
 st ⟨b70, 21, none⟩ (.int .u64 Last69) Hx92 fun Hx93 =>
 hcall PR f_trace_New ⟨[(.agg #[(.int .i64 0), (.int .i64 0), (.int .i64 0), (.int .i64 0), (.int .i64 0), (.int .i64 0), (.int .i64 0), (.int .i64 0), (.int .i64 0), (.int .i64 0), (.int .i64 0), (.int .u64 0), (.int .u64 0), (.int .u64 0), (.int .u64 0), (.int .u64 0), (.int .u64 0), (.int .i64 0), (.int .i64 0), (.int .i64 0), (.int .u64 0), (.int .u64 0)]), (.int .i64 1), (.int .u64 0)]⟩ Hx93 fun v94 Hx95 =>
 tup2 v94 fun v96 v97 =>
 asP v96 fun t98 =>
 asI .i64 v97 fun t99 =>
 ldI .i64 ⟨b70, 0, none⟩ Hx95 fun Nodes100 =>
 ldI .i64 ⟨b70, 1, none⟩ Hx95 fun Mutators101 =>
 ldI .i64 ⟨b70, 2, none⟩ Hx95 fun Slots102 =>
 ldI .i64 ⟨b70, 3, none⟩ Hx95 fun Cells103 =>
 ldI .i64 ⟨b70, 4, none⟩ Hx95 fun Objects104 =>
 ldI .i64 ⟨b70, 5, none⟩ Hx95 fun Stubs105 =>
 ldI .i64 ⟨b70, 6, none⟩ Hx95 fun Calls106 =>
 ldI .i64 ⟨b70, 7, none⟩ Hx95 fun Window107 =>
 ldI .i64 ⟨b70, 8, none⟩ Hx95 fun Grey108 =>
 ldI .i64 ⟨b70, 9, none⟩ Hx95 fun Bag109 =>
 ldI .i64 ⟨b70, 10, none⟩ Hx95 fun Inbox110 =>
 ldI .u64 ⟨b70, 11, none⟩ Hx95 fun Unit111 =>
 ldI .u64 ⟨b70, 12, none⟩ Hx95 fun Drift112 =>
 ldI .u64 ⟨b70, 13, none⟩ Hx95 fun Lease113 =>
 ldI .u64 ⟨b70, 14, none⟩ Hx95 fun Wait114 =>
 ldI .u64 ⟨b70, 15, none⟩ Hx95 fun Most115 =>
 ldI .u64 ⟨b70, 16, none⟩ Hx95 fun Patience116 =>
 ldI .i64 ⟨b70, 17, none⟩ Hx95 fun Suspect117 =>
 ldI .i64 ⟨b70, 18, none⟩ Hx95 fun Trace118 =>
 ldI .i64 ⟨b70, 19, none⟩ Hx95 fun Work119 =>
 ldI .u64 ⟨b70, 20, none⟩ Hx95 fun Start120 =>
 ldI .u64 ⟨b70, 21, none⟩ Hx95 fun Last121 =>
 hcall PR f_trace_New ⟨[(.agg #[(.int .i64 Nodes100), (.int .i64 Mutators101), (.int .i64 Slots102), (.int .i64 Cells103), (.int .i64 Objects104), (.int .i64 Stubs105), (.int .i64 Calls106), (.int .i64 Window107), (.int .i64 Grey108), (.int .i64 Bag109), (.int .i64 Inbox110), (.int .u64 Unit111), (.int .u64 Drift112), (.int .u64 Lease113), (.int .u64 Wait114), (.int .u64 Most115), (.int .u64 Patience116), (.int .i64 Suspect117), (.int .i64 Trace118), (.int .i64 Work119), (.int .u64 Start120), (.int .u64 Last121)]), (.int .i64 0), (.int .u64 0)]⟩ Hx95 fun v122 Hx123 =>
 tup2 v122 fun v124 v125 =>
 asP v124 fun t126 =>
 asI .i64 v125 fun t127 =>
 ldI .i64 ⟨b70, 0, none⟩ Hx123 fun Nodes128 =>
 ldI .i64 ⟨b70, 1, none⟩ Hx123 fun Mutators129 =>
 ldI .i64 ⟨b70, 2, none⟩ Hx123 fun Slots130 =>
 ldI .i64 ⟨b70, 3, none⟩ Hx123 fun Cells131 =>
 ldI .i64 ⟨b70, 4, none⟩ Hx123 fun Objects132 =>
 ldI .i64 ⟨b70, 5, none⟩ Hx123 fun Stubs133 =>
 ldI .i64 ⟨b70, 6, none⟩ Hx123 fun Calls134 =>
 ldI .i64 ⟨b70, 7, none⟩ Hx123 fun Window135 =>
 ldI .i64 ⟨b70, 8, none⟩ Hx123 fun Grey136 =>
 ldI .i64 ⟨b70, 9, none⟩ Hx123 fun Bag137 =>
 ldI .i64 ⟨b70, 10, none⟩ Hx123 fun Inbox138 =>
 ldI .u64 ⟨b70, 11, none⟩ Hx123 fun Unit139 =>
 ldI .u64 ⟨b70, 12, none⟩ Hx123 fun Drift140 =>
 ldI .u64 ⟨b70, 13, none⟩ Hx123 fun Lease141 =>
 ldI .u64 ⟨b70, 14, none⟩ Hx123 fun Wait142 =>
 ldI .u64 ⟨b70, 15, none⟩ Hx123 fun Most143 =>
 ldI .u64 ⟨b70, 16, none⟩ Hx123 fun Patience144 =>
 ldI .i64 ⟨b70, 17, none⟩ Hx123 fun Suspect145 =>
 ldI .i64 ⟨b70, 18, none⟩ Hx123 fun Trace146 =>
 ldI .i64 ⟨b70, 19, none⟩ Hx123 fun Work147 =>
 ldI .u64 ⟨b70, 20, none⟩ Hx123 fun Start148 =>
 ldI .u64 ⟨b70, 21, none⟩ Hx123 fun Last149 =>
 hcall PR f_trace_New ⟨[(.agg #[(.int .i64 Nodes128), (.int .i64 Mutators129), (.int .i64 Slots130), (.int .i64 Cells131), (.int .i64 Objects132), (.int .i64 Stubs133), (.int .i64 Calls134), (.int .i64 Window135), (.int .i64 Grey136), (.int .i64 Bag137), (.int .i64 Inbox138), (.int .u64 Unit139), (.int .u64 Drift140), (.int .u64 Lease141), (.int .u64 Wait142), (.int .u64 Most143), (.int .u64 Patience144), (.int .i64 Suspect145), (.int .i64 Trace146), (.int .i64 Work147), (.int .u64 Start148), (.int .u64 Last149)]), (.int .i64 1), (.int .u64 72057594037927936)]⟩ Hx123 fun v150 Hx151 =>
 tup2 v150 fun v152 v153 =>
 asP v152 fun t154 =>
 asI .i64 v153 fun t155 =>
 ldI .i64 ⟨b70, 0, none⟩ Hx151 fun Nodes156 =>
 ldI .i64 ⟨b70, 1, none⟩ Hx151 fun Mutators157 =>
 ldI .i64 ⟨b70, 2, none⟩ Hx151 fun Slots158 =>
 ldI .i64 ⟨b70, 3, none⟩ Hx151 fun Cells159 =>
 ldI .i64 ⟨b70, 4, none⟩ Hx151 fun Objects160 =>
 ldI .i64 ⟨b70, 5, none⟩ Hx151 fun Stubs161 =>
 ldI .i64 ⟨b70, 6, none⟩ Hx151 fun Calls162 =>
 ldI .i64 ⟨b70, 7, none⟩ Hx151 fun Window163 =>
 ldI .i64 ⟨b70, 8, none⟩ Hx151 fun Grey164 =>
 ldI .i64 ⟨b70, 9, none⟩ Hx151 fun Bag165 =>
 ldI .i64 ⟨b70, 10, none⟩ Hx151 fun Inbox166 =>
 ldI .u64 ⟨b70, 11, none⟩ Hx151 fun Unit167 =>
 ldI .u64 ⟨b70, 12, none⟩ Hx151 fun Drift168 =>
 ldI .u64 ⟨b70, 13, none⟩ Hx151 fun Lease169 =>
 ldI .u64 ⟨b70, 14, none⟩ Hx151 fun Wait170 =>
 ldI .u64 ⟨b70, 15, none⟩ Hx151 fun Most171 =>
 ldI .u64 ⟨b70, 16, none⟩ Hx151 fun Patience172 =>
 ldI .i64 ⟨b70, 17, none⟩ Hx151 fun Suspect173 =>
 ldI .i64 ⟨b70, 18, none⟩ Hx151 fun Trace174 =>
 ldI .i64 ⟨b70, 19, none⟩ Hx151 fun Work175 =>
 ldI .u64 ⟨b70, 20, none⟩ Hx151 fun Start176 =>
 ldI .u64 ⟨b70, 21, none⟩ Hx151 fun Last177 =>
 hcall PR f_trace_New ⟨[(.agg #[(.int .i64 Nodes156), (.int .i64 Mutators157), (.int .i64 Slots158), (.int .i64 Cells159), (.int .i64 Objects160), (.int .i64 Stubs161), (.int .i64 Calls162), (.int .i64 Window163), (.int .i64 Grey164), (.int .i64 Bag165), (.int .i64 Inbox166), (.int .u64 Unit167), (.int .u64 Drift168), (.int .u64 Lease169), (.int .u64 Wait170), (.int .u64 Most171), (.int .u64 Patience172), (.int .i64 Suspect173), (.int .i64 Trace174), (.int .i64 Work175), (.int .u64 Start176), (.int .u64 Last177)]), (.int .i64 1), (.int .u64 72057594037927934)]⟩ Hx151 fun v178 Hx179 =>
 tup2 v178 fun v180 v181 =>
 asP v180 fun t182 =>
 asI .i64 v181 fun t183 =>
 hcall PR f_law23_known ⟨[]⟩ Hx179 fun v184 Hx185 =>
 asB v184 fun t186 =>
 (bif (!t186) then
 K (.bool false) Hx185
else
 (bif ((t99 : Int) != 1) then
 K (.bool false) Hx185
else
 (bif ((t127 : Int) != 1) then
 K (.bool false) Hx185
else
 (bif ((t155 : Int) != 1) then
 K (.bool false) Hx185
else
 (bif ((t183 : Int) != 0) then
 K (.bool false) Hx185
else
 (bif (Option.isNone (α := Addr) t182) then
 K (.bool false) Hx185
else
 hcall PR f_trace_Trace_Begin ⟨[(.pointer t182), (.agg #[(.int .i64 0), (.int .u64 0)]), (.int .u64 0)]⟩ Hx185 fun v187 Hx188 =>
 asI .i64 v187 fun t189 =>
 hcall PR f_trace_Trace_Begin ⟨[(.pointer t182), (.agg #[(.int .i64 1), (.int .u64 3)]), (.int .u64 0)]⟩ Hx188 fun v190 Hx191 =>
 asI .i64 v190 fun t192 =>
 hcall PR f_law23_stub ⟨[]⟩ Hx191 fun v193 Hx194 =>
 agg2 v193 fun v195 v196 =>
 asI .i64 v195 fun Node197 =>
 asI .u64 v196 fun Serial198 =>
 hcall PR f_trace_Trace_Begin ⟨[(.pointer t182), (.agg #[(.int .i64 Node197), (.int .u64 Serial198)]), (.int .u64 0)]⟩ Hx194 fun v199 Hx200 =>
 asI .i64 v199 fun t201 =>
 hcall PR f_law23_stub ⟨[]⟩ Hx200 fun v202 Hx203 =>
 agg2 v202 fun v204 v205 =>
 asI .i64 v204 fun Node206 =>
 asI .u64 v205 fun Serial207 =>
 hcall PR f_trace_Trace_Begin ⟨[(.pointer t182), (.agg #[(.int .i64 Node206), (.int .u64 Serial207)]), (.int .u64 0)]⟩ Hx203 fun v208 Hx209 =>
 asI .i64 v208 fun t210 =>
 hcall PR f_trace_Trace_Items ⟨[(.pointer t182)]⟩ Hx209 fun v211 Hx212 =>
 asSl v211 fun tP213 tL214 tC215 =>
 hcall PR f_trace_Trace_Hear ⟨[(.pointer t182), (.agg #[(.int .i64 9), (.int .i64 1), (.int .i64 1), (.int .u64 72057594037927935), (.int .u64 0), (.int .i64 0), (.int .i64 0), (.int .i64 0), (.int .i64 0), (.int .u64 0), (.slice none 0 0), (.int .u64 0), (.int .i64 1), (.int .u64 0), (.int .i64 0), (.int .u64 0), (.int .i64 0), (.int .u64 0), (.slice none 0 0)])]⟩ Hx212 fun v216 Hx217 =>
 asB v216 fun t218 =>
 hcall PR f_law23_stub ⟨[]⟩ Hx217 fun v219 Hx220 =>
 agg2 v219 fun v221 v222 =>
 asI .i64 v221 fun Node223 =>
 asI .u64 v222 fun Serial224 =>
 hcall PR f_trace_Trace_Begin ⟨[(.pointer t182), (.agg #[(.int .i64 Node223), (.int .u64 Serial224)]), (.int .u64 0)]⟩ Hx220 fun v225 Hx226 =>
 asI .i64 v225 fun t227 =>
 (bif ((t189 : Int) == 1) then
 (bif ((t192 : Int) == 1) then
 (bif ((t201 : Int) == 0) then
 (bif ((t210 : Int) == 10) then
 (bif (((tL214 : Int) : Int) == 1) then
 idxA tP213 tL214 0 5 fun el228 =>
 ldB el228 Hx226 fun In229 =>
 (bif (!In229) then
 idxA tP213 tL214 0 5 fun el230 =>
 ldI .i64 (el230.add 1) Hx226 fun Node231 =>
 (bif ((Node231 : Int) == 1) then
 idxA tP213 tL214 0 5 fun el232 =>
 ldI .i64 (el232.add 2) Hx226 fun Node233 =>
 ldI .u64 ((el232.add 2).add 1) Hx226 fun Serial234 =>
 hcall PR f_law23_stub ⟨[]⟩ Hx226 fun v235 Hx236 =>
 agg2 v235 fun v237 v238 =>
 asI .i64 v237 fun Node239 =>
 asI .u64 v238 fun Serial240 =>
 (ldI .i64 (el232.add 2) Hx236 fun Node241 =>
 ldI .u64 ((el232.add 2).add 1) Hx236 fun Serial242 =>
 ((.agg #[(.int .i64 Node241), (.int .u64 Serial242)]) : Value) = (.agg #[(.int .i64 Node233), (.int .u64 Serial234)])) ∧
 evR PR (aggEq .eql ty_api_ID #[(.int .i64 Node233), (.int .u64 Serial234)] #[(.int .i64 Node239), (.int .u64 Serial240)]) Hx236 fun v243 =>
 asB v243 fun eq244 =>
 (bif eq244 then
 (bif ((t227 : Int) == 7) then
 hcall PR f_trace_Trace_Items ⟨[(.pointer t182)]⟩ Hx236 fun v245 Hx246 =>
 asSl v245 fun tP247 tL248 tC249 =>
 (bif (((tL248 : Int) : Int) == 0) then
 K (.bool true) Hx246
else
 K (.bool false) Hx246)
else
 K (.bool false) Hx236)
else
 K (.bool false) Hx236)
else
 K (.bool false) Hx226)
else
 K (.bool false) Hx226)
else
 K (.bool false) Hx226)
else
 K (.bool false) Hx226)
else
 K (.bool false) Hx226)
else
 K (.bool false) Hx226)
else
 K (.bool false) Hx226)))))))
theorem E_law23_TraceKnown  (H : Hp) (K : Value → Hp → Prop) : B_law23_TraceKnown  H K = denF Try.prog Try.f11 .n [] H K := by kernel_rfl
theorem den_law23_TraceKnown  {H : Hp} {K : Value → Hp → Prop} (h : B_law23_TraceKnown  H K) : hcall PR f_law23_TraceKnown ⟨[]⟩ H K := denF_call Try.func11 PR_mixed (Eq.mp (E_law23_TraceKnown  H K) h)

end Go.Proofs.Ytknejebggegfjaa

namespace Go.Proofs.Ytknejebggegfjaa
open Go
set_option linter.unusedVariables false
set_option maxRecDepth 100000
end Go.Proofs.Ytknejebggegfjaa

namespace Go.Proofs.Ytknejebggegfjaa
set_option linter.unusedSimpArgs false
set_option linter.unusedVariables false
set_option maxRecDepth 20000
open Go
def kw0 : Tr := newTr 1 72057594037927934
def kw1 : Tr := kw0.begun 2 7 0
def kw2 : Tr := kw1.over
theorem TraceKnown_ok {H : Hp} {K : Value → Hp → Prop} (hK : ∀ H', Keep Nothing H H' → K (.bool true) H') : hcall PR f_law23_TraceKnown ⟨[]⟩ H K := by
  apply den_law23_TraceKnown
  unfold B_law23_TraceKnown
  have hg : (confOf zeroRaw).good := conf_good (by decide) (by decide)
  have h0 := zero_a0
  refine configC (r := zeroRaw) (St.start H) fun H1 g1 => ?_
  generalize confOf zeroRaw = c at *
  unfold Cf.val
  (try simp only [asI_mk', asB_mk, asP_mk, asA_mk, asM_mk, asSl_mk, asStr_mk, tup2_mk, tup3_mk, agg1_mk, agg2_mk, agg3_mk, agg4_mk, asAggm, unCons_mk, unNil_mk, asTup_mk, extractD0, extractD1, List.toList_toArray, nilP_mk, add_mk, Nat.zero_add, Nat.add_zero, condT, condF, Bool.not_true, Bool.not_false, Option.isNone_some, Option.isNone_none])
  refine boxz (c := [.int .i64 0, .int .i64 0, .int .i64 0, .int .i64 0, .int .i64 0, .int .i64 0, .int .i64 0, .int .i64 0, .int .i64 0, .int .i64 0, .int .i64 0, .int .u64 0, .int .u64 0, .int .u64 0, .int .u64 0, .int .u64 0, .int .u64 0, .int .i64 0, .int .i64 0, .int .i64 0, .int .u64 0, .int .u64 0]) (vs := [.int .i64 c.a0, .int .i64 c.a1, .int .i64 c.a2, .int .i64 c.a3, .int .i64 c.a4, .int .i64 c.a5, .int .i64 c.a6, .int .i64 c.a7, .int .i64 c.a8, .int .i64 c.a9, .int .i64 c.a10, .int .u64 c.a11, .int .u64 c.a12, .int .u64 c.a13, .int .u64 c.a14, .int .u64 c.a15, .int .u64 c.a16, .int .i64 c.a17, .int .i64 c.a18, .int .i64 c.a19, .int .u64 c.a20, .int .u64 c.a21]) g1 rfl fun bc H2 g2 => ?_
  refine newNo g2 fun H3 g3 => ?_
  have g3 : St H [Prt.one bc (.cells #[.int .i64 c.a0, .int .i64 c.a1, .int .i64 c.a2, .int .i64 c.a3, .int .i64 c.a4, .int .i64 c.a5, .int .i64 c.a6, .int .i64 c.a7, .int .i64 c.a8, .int .i64 c.a9, .int .i64 c.a10, .int .u64 c.a11, .int .u64 c.a12, .int .u64 c.a13, .int .u64 c.a14, .int .u64 c.a15, .int .u64 c.a16, .int .i64 c.a17, .int .i64 c.a18, .int .i64 c.a19, .int .u64 c.a20, .int .u64 c.a21] ty_api_Config (0, 0))] H3 := g3
  (try simp only [asI_mk', asB_mk, asP_mk, asA_mk, asM_mk, asSl_mk, asStr_mk, tup2_mk, tup3_mk, agg1_mk, agg2_mk, agg3_mk, agg4_mk, asAggm, unCons_mk, unNil_mk, asTup_mk, extractD0, extractD1, List.toList_toArray, nilP_mk, add_mk, Nat.zero_add, Nat.add_zero, condT, condF, Bool.not_true, Bool.not_false, Option.isNone_some, Option.isNone_none])
  refine ldI_of (g3.cell (i := 0) rfl rfl) (ldI_of (g3.cell (i := 0) rfl rfl) (ldI_of (g3.cell (i := 0) rfl rfl) (ldI_of (g3.cell (i := 0) rfl rfl) (ldI_of (g3.cell (i := 0) rfl rfl) (ldI_of (g3.cell (i := 0) rfl rfl) (ldI_of (g3.cell (i := 0) rfl rfl) (ldI_of (g3.cell (i := 0) rfl rfl) (ldI_of (g3.cell (i := 0) rfl rfl) (ldI_of (g3.cell (i := 0) rfl rfl) (ldI_of (g3.cell (i := 0) rfl rfl) (ldI_of (g3.cell (i := 0) rfl rfl) (ldI_of (g3.cell (i := 0) rfl rfl) (ldI_of (g3.cell (i := 0) rfl rfl) (ldI_of (g3.cell (i := 0) rfl rfl) (ldI_of (g3.cell (i := 0) rfl rfl) (ldI_of (g3.cell (i := 0) rfl rfl) (ldI_of (g3.cell (i := 0) rfl rfl) (ldI_of (g3.cell (i := 0) rfl rfl) (ldI_of (g3.cell (i := 0) rfl rfl) (ldI_of (g3.cell (i := 0) rfl rfl) (ldI_of (g3.cell (i := 0) rfl rfl) (?_))))))))))))))))))))))
  refine newC (c := c) hg g3 (fun _ H4 g4 => ?_) (fun h => absurd h.1 (by omega))
  (try simp only [asI_mk', asB_mk, asP_mk, asA_mk, asM_mk, asSl_mk, asStr_mk, tup2_mk, tup3_mk, agg1_mk, agg2_mk, agg3_mk, agg4_mk, asAggm, unCons_mk, unNil_mk, asTup_mk, extractD0, extractD1, List.toList_toArray, nilP_mk, add_mk, Nat.zero_add, Nat.add_zero, condT, condF, Bool.not_true, Bool.not_false, Option.isNone_some, Option.isNone_none])
  refine ldI_of (g4.cell (i := 0) rfl rfl) (ldI_of (g4.cell (i := 0) rfl rfl) (ldI_of (g4.cell (i := 0) rfl rfl) (ldI_of (g4.cell (i := 0) rfl rfl) (ldI_of (g4.cell (i := 0) rfl rfl) (ldI_of (g4.cell (i := 0) rfl rfl) (ldI_of (g4.cell (i := 0) rfl rfl) (ldI_of (g4.cell (i := 0) rfl rfl) (ldI_of (g4.cell (i := 0) rfl rfl) (ldI_of (g4.cell (i := 0) rfl rfl) (ldI_of (g4.cell (i := 0) rfl rfl) (ldI_of (g4.cell (i := 0) rfl rfl) (ldI_of (g4.cell (i := 0) rfl rfl) (ldI_of (g4.cell (i := 0) rfl rfl) (ldI_of (g4.cell (i := 0) rfl rfl) (ldI_of (g4.cell (i := 0) rfl rfl) (ldI_of (g4.cell (i := 0) rfl rfl) (ldI_of (g4.cell (i := 0) rfl rfl) (ldI_of (g4.cell (i := 0) rfl rfl) (ldI_of (g4.cell (i := 0) rfl rfl) (ldI_of (g4.cell (i := 0) rfl rfl) (ldI_of (g4.cell (i := 0) rfl rfl) (?_))))))))))))))))))))))
  refine newC (c := c) hg g4 (fun _ H5 g5 => ?_) (fun _ h => absurd h (by omega))
  (try simp only [asI_mk', asB_mk, asP_mk, asA_mk, asM_mk, asSl_mk, asStr_mk, tup2_mk, tup3_mk, agg1_mk, agg2_mk, agg3_mk, agg4_mk, asAggm, unCons_mk, unNil_mk, asTup_mk, extractD0, extractD1, List.toList_toArray, nilP_mk, add_mk, Nat.zero_add, Nat.add_zero, condT, condF, Bool.not_true, Bool.not_false, Option.isNone_some, Option.isNone_none])
  refine ldI_of (g5.cell (i := 0) rfl rfl) (ldI_of (g5.cell (i := 0) rfl rfl) (ldI_of (g5.cell (i := 0) rfl rfl) (ldI_of (g5.cell (i := 0) rfl rfl) (ldI_of (g5.cell (i := 0) rfl rfl) (ldI_of (g5.cell (i := 0) rfl rfl) (ldI_of (g5.cell (i := 0) rfl rfl) (ldI_of (g5.cell (i := 0) rfl rfl) (ldI_of (g5.cell (i := 0) rfl rfl) (ldI_of (g5.cell (i := 0) rfl rfl) (ldI_of (g5.cell (i := 0) rfl rfl) (ldI_of (g5.cell (i := 0) rfl rfl) (ldI_of (g5.cell (i := 0) rfl rfl) (ldI_of (g5.cell (i := 0) rfl rfl) (ldI_of (g5.cell (i := 0) rfl rfl) (ldI_of (g5.cell (i := 0) rfl rfl) (ldI_of (g5.cell (i := 0) rfl rfl) (ldI_of (g5.cell (i := 0) rfl rfl) (ldI_of (g5.cell (i := 0) rfl rfl) (ldI_of (g5.cell (i := 0) rfl rfl) (ldI_of (g5.cell (i := 0) rfl rfl) (ldI_of (g5.cell (i := 0) rfl rfl) (?_))))))))))))))))))))))
  refine newC (c := c) hg g5 (fun h => absurd h (by omega)) fun _ _ tb H6 g6 => ?_
  (try simp only [asI_mk', asB_mk, asP_mk, asA_mk, asM_mk, asSl_mk, asStr_mk, tup2_mk, tup3_mk, agg1_mk, agg2_mk, agg3_mk, agg4_mk, asAggm, unCons_mk, unNil_mk, asTup_mk, extractD0, extractD1, List.toList_toArray, nilP_mk, add_mk, Nat.zero_add, Nat.add_zero, condT, condF, Bool.not_true, Bool.not_false, Option.isNone_some, Option.isNone_none])
  refine knownC g6 fun H7 g7 => ?_
  (try simp only [asI_mk', asB_mk, asP_mk, asA_mk, asM_mk, asSl_mk, asStr_mk, tup2_mk, tup3_mk, agg1_mk, agg2_mk, agg3_mk, agg4_mk, asAggm, unCons_mk, unNil_mk, asTup_mk, extractD0, extractD1, List.toList_toArray, nilP_mk, add_mk, Nat.zero_add, Nat.add_zero, condT, condF, Bool.not_true, Bool.not_false, Option.isNone_some, Option.isNone_none])
  refine bif_neqf rfl (bif_neqf rfl (bif_neqf rfl (bif_neqf rfl ?_)))
  (try simp only [Option.isNone, condF])
  have e1 : kw0.beginE c.a0 0 0 = 1 := by rw [h0]; rfl
  refine trBeginC g7 (k := 0) rfl (by simp only [newTr]; omega) (fun _ H8 g8 => ?_) (fun h => absurd (e1 ▸ h : (1 : Int) = 0) (by decide))
  have e1' : (newTr 1 72057594037927934).beginE c.a0 0 0 = 1 := e1
  rw [e1']
  (try simp only [asI_mk', asB_mk, asP_mk, asA_mk, asM_mk, asSl_mk, asStr_mk, tup2_mk, tup3_mk, agg1_mk, agg2_mk, agg3_mk, agg4_mk, asAggm, unCons_mk, unNil_mk, asTup_mk, extractD0, extractD1, List.toList_toArray, nilP_mk, add_mk, Nat.zero_add, Nat.add_zero, condT, condF, Bool.not_true, Bool.not_false, Option.isNone_some, Option.isNone_none])
  have e2 : (newTr 1 72057594037927934).beginE c.a0 1 3 = 1 := by rw [h0]; rfl
  refine trBeginC g8 (k := 0) rfl (by simp only [newTr]; omega) (fun _ H9 g9 => ?_) (fun h => absurd (e2 ▸ h : (1 : Int) = 0) (by decide))
  rw [e2]
  (try simp only [asI_mk', asB_mk, asP_mk, asA_mk, asM_mk, asSl_mk, asStr_mk, tup2_mk, tup3_mk, agg1_mk, agg2_mk, agg3_mk, agg4_mk, asAggm, unCons_mk, unNil_mk, asTup_mk, extractD0, extractD1, List.toList_toArray, nilP_mk, add_mk, Nat.zero_add, Nat.add_zero, condT, condF, Bool.not_true, Bool.not_false, Option.isNone_some, Option.isNone_none])
  refine stubC g9 fun H10 g10 => ?_
  (try simp only [asI_mk', asB_mk, asP_mk, asA_mk, asM_mk, asSl_mk, asStr_mk, tup2_mk, tup3_mk, agg1_mk, agg2_mk, agg3_mk, agg4_mk, asAggm, unCons_mk, unNil_mk, asTup_mk, extractD0, extractD1, List.toList_toArray, nilP_mk, add_mk, Nat.zero_add, Nat.add_zero, condT, condF, Bool.not_true, Bool.not_false, Option.isNone_some, Option.isNone_none])
  have e3 : (newTr 1 72057594037927934).beginE c.a0 2 7 = 0 := by rw [h0]; rfl
  refine trBeginC g10 (k := 0) rfl (by simp only [newTr]; omega) (fun h => absurd e3 h) fun _ H11 g11 => ?_
  have g11 : St H [TrP tb c kw1, Prt.one bc (.cells #[.int .i64 c.a0, .int .i64 c.a1, .int .i64 c.a2, .int .i64 c.a3, .int .i64 c.a4, .int .i64 c.a5, .int .i64 c.a6, .int .i64 c.a7, .int .i64 c.a8, .int .i64 c.a9, .int .i64 c.a10, .int .u64 c.a11, .int .u64 c.a12, .int .u64 c.a13, .int .u64 c.a14, .int .u64 c.a15, .int .u64 c.a16, .int .i64 c.a17, .int .i64 c.a18, .int .i64 c.a19, .int .u64 c.a20, .int .u64 c.a21] ty_api_Config (0, 0))] H11 := g11
  (try simp only [asI_mk', asB_mk, asP_mk, asA_mk, asM_mk, asSl_mk, asStr_mk, tup2_mk, tup3_mk, agg1_mk, agg2_mk, agg3_mk, agg4_mk, asAggm, unCons_mk, unNil_mk, asTup_mk, extractD0, extractD1, List.toList_toArray, nilP_mk, add_mk, Nat.zero_add, Nat.add_zero, condT, condF, Bool.not_true, Bool.not_false, Option.isNone_some, Option.isNone_none])
  refine stubC g11 fun H12 g12 => ?_
  (try simp only [asI_mk', asB_mk, asP_mk, asA_mk, asM_mk, asSl_mk, asStr_mk, tup2_mk, tup3_mk, agg1_mk, agg2_mk, agg3_mk, agg4_mk, asAggm, unCons_mk, unNil_mk, asTup_mk, extractD0, extractD1, List.toList_toArray, nilP_mk, add_mk, Nat.zero_add, Nat.add_zero, condT, condF, Bool.not_true, Bool.not_false, Option.isNone_some, Option.isNone_none])
  have hn1 : 1 ≤ kw1.node ∧ kw1.node ≤ c.a0 := by
    show (1 : Int) ≤ 1 ∧ (1 : Int) ≤ c.a0
    omega
  have e4 : kw1.beginE c.a0 2 7 = 10 := by rw [h0]; rfl
  refine trBeginC g12 (k := 0) rfl hn1 (fun _ H13 g13 => ?_) (fun h => absurd (e4 ▸ h : (10 : Int) = 0) (by decide))
  rw [e4]
  (try simp only [asI_mk', asB_mk, asP_mk, asA_mk, asM_mk, asSl_mk, asStr_mk, tup2_mk, tup3_mk, agg1_mk, agg2_mk, agg3_mk, agg4_mk, asAggm, unCons_mk, unNil_mk, asTup_mk, extractD0, extractD1, List.toList_toArray, nilP_mk, add_mk, Nat.zero_add, Nat.add_zero, condT, condF, Bool.not_true, Bool.not_false, Option.isNone_some, Option.isNone_none])
  refine trItemsC g13 (k := 0) rfl fun p cap H14 g14 => ?_
  (try simp only [asI_mk', asB_mk, asP_mk, asA_mk, asM_mk, asSl_mk, asStr_mk, tup2_mk, tup3_mk, agg1_mk, agg2_mk, agg3_mk, agg4_mk, asAggm, unCons_mk, unNil_mk, asTup_mk, extractD0, extractD1, List.toList_toArray, nilP_mk, add_mk, Nat.zero_add, Nat.add_zero, condT, condF, Bool.not_true, Bool.not_false, Option.isNone_some, Option.isNone_none])
  refine trHearC (m := ⟨9, 1, 1, 72057594037927935, 0, 1, 0, []⟩) (k := 1) g14 rfl (by omega) rfl (by decide) (fun n hn => by cases hn) (fun N M H' hot h' => rdNil) fun H15 g15 => ?_
  have e5 : kw1.hear c.a0 ⟨9, 1, 1, 72057594037927935, 0, 1, 0, []⟩ = kw2 := by rw [h0]; rfl
  rw [e5] at g15
  have g15 : St H [Prt.row 5 p 1 cap (cel It.cells [⟨false, 1, ⟨2, 7⟩, 0⟩]), TrP tb c kw2, Prt.one bc (.cells #[.int .i64 c.a0, .int .i64 c.a1, .int .i64 c.a2, .int .i64 c.a3, .int .i64 c.a4, .int .i64 c.a5, .int .i64 c.a6, .int .i64 c.a7, .int .i64 c.a8, .int .i64 c.a9, .int .i64 c.a10, .int .u64 c.a11, .int .u64 c.a12, .int .u64 c.a13, .int .u64 c.a14, .int .u64 c.a15, .int .u64 c.a16, .int .i64 c.a17, .int .i64 c.a18, .int .i64 c.a19, .int .u64 c.a20, .int .u64 c.a21] ty_api_Config (0, 0))] H15 := g15
  (try simp only [asI_mk', asB_mk, asP_mk, asA_mk, asM_mk, asSl_mk, asStr_mk, tup2_mk, tup3_mk, agg1_mk, agg2_mk, agg3_mk, agg4_mk, asAggm, unCons_mk, unNil_mk, asTup_mk, extractD0, extractD1, List.toList_toArray, nilP_mk, add_mk, Nat.zero_add, Nat.add_zero, condT, condF, Bool.not_true, Bool.not_false, Option.isNone_some, Option.isNone_none])
  refine stubC g15 fun H16 g16 => ?_
  (try simp only [asI_mk', asB_mk, asP_mk, asA_mk, asM_mk, asSl_mk, asStr_mk, tup2_mk, tup3_mk, agg1_mk, agg2_mk, agg3_mk, agg4_mk, asAggm, unCons_mk, unNil_mk, asTup_mk, extractD0, extractD1, List.toList_toArray, nilP_mk, add_mk, Nat.zero_add, Nat.add_zero, condT, condF, Bool.not_true, Bool.not_false, Option.isNone_some, Option.isNone_none])
  have hn2 : 1 ≤ kw2.node ∧ kw2.node ≤ c.a0 := by
    show (1 : Int) ≤ 1 ∧ (1 : Int) ≤ c.a0
    omega
  have e6 : kw2.beginE c.a0 2 7 = 7 := by rw [h0]; rfl
  refine trBeginC g16 (k := 1) rfl hn2 (fun _ H17 g17 => ?_) (fun h => absurd (e6 ▸ h : (7 : Int) = 0) (by decide))
  rw [e6]
  (try simp only [asI_mk', asB_mk, asP_mk, asA_mk, asM_mk, asSl_mk, asStr_mk, tup2_mk, tup3_mk, agg1_mk, agg2_mk, agg3_mk, agg4_mk, asAggm, unCons_mk, unNil_mk, asTup_mk, extractD0, extractD1, List.toList_toArray, nilP_mk, add_mk, Nat.zero_add, Nat.add_zero, condT, condF, Bool.not_true, Bool.not_false, Option.isNone_some, Option.isNone_none])
  have hrd : ∀ H', St H [Prt.row 5 p 1 cap (cel It.cells [⟨false, 1, ⟨2, 7⟩, 0⟩]), TrP tb c kw2, Prt.one bc (.cells #[.int .i64 c.a0, .int .i64 c.a1, .int .i64 c.a2, .int .i64 c.a3, .int .i64 c.a4, .int .i64 c.a5, .int .i64 c.a6, .int .i64 c.a7, .int .i64 c.a8, .int .i64 c.a9, .int .i64 c.a10, .int .u64 c.a11, .int .u64 c.a12, .int .u64 c.a13, .int .u64 c.a14, .int .u64 c.a15, .int .u64 c.a16, .int .i64 c.a17, .int .i64 c.a18, .int .i64 c.a19, .int .u64 c.a20, .int .u64 c.a21] ty_api_Config (0, 0))] H' → ∀ {Q : Addr → Prop}, (∀ b o, p = some ⟨b, o, none⟩ → (∀ j, j < 5 → hcell H' ⟨b, o + j, none⟩ = (It.cells ⟨false, 1, ⟨2, 7⟩, 0⟩)[j]?) → Q ⟨b, o, none⟩) → idxA p 1 0 5 Q := fun H' g' Q hQ => by
    refine idxS It.len noIt (g'.row_rd (i := 0) rfl) (by omega) (by omega) (by omega) fun b o hp _ hc => ?_
    exact hQ b o hp hc
  have hlen : (kw1.items.length : Int) = 1 := rfl
  refine bif_eq rfl (bif_eq rfl (bif_eq rfl (bif_eq rfl (bif_eq hlen ?_))))
  refine hrd H17 g17 fun b o hp hc => ?_
  refine ldB_of (hc 0 (by omega)) ?_
  (try simp only [asI_mk', asB_mk, asP_mk, asA_mk, asM_mk, asSl_mk, asStr_mk, tup2_mk, tup3_mk, agg1_mk, agg2_mk, agg3_mk, agg4_mk, asAggm, unCons_mk, unNil_mk, asTup_mk, extractD0, extractD1, List.toList_toArray, nilP_mk, add_mk, Nat.zero_add, Nat.add_zero, condT, condF, Bool.not_true, Bool.not_false, Option.isNone_some, Option.isNone_none])
  refine hrd H17 g17 fun b o hp hc => ldI_of (hc 1 (by omega)) ?_
  refine bif_eq rfl ?_
  refine hrd H17 g17 fun b o hp hc => ?_
  refine ldI_of (hc 2 (by omega)) (ldI_of (hc 3 (by omega)) (stubC g17 fun H18 g18 => ?_))
  (try simp only [asI_mk', asB_mk, asP_mk, asA_mk, asM_mk, asSl_mk, asStr_mk, tup2_mk, tup3_mk, agg1_mk, agg2_mk, agg3_mk, agg4_mk, asAggm, unCons_mk, unNil_mk, asTup_mk, extractD0, extractD1, List.toList_toArray, nilP_mk, add_mk, Nat.zero_add, Nat.add_zero, condT, condF, Bool.not_true, Bool.not_false, Option.isNone_some, Option.isNone_none])
  have hc2 : ∀ j, j < 5 → hcell H18 ⟨b, o + j, none⟩ = (It.cells ⟨false, 1, ⟨2, 7⟩, 0⟩)[j]? := by
    have := hrd H18 g18 (Q := fun a => ∀ j, j < 5 → hcell H18 (a.add j) = (It.cells ⟨false, 1, ⟨2, 7⟩, 0⟩)[j]?) fun b' o' hp' hc' j hj => by rw [add_mk]; exact hc' j hj
    rw [hp] at this
    intro j hj
    have := (by simpa [idxA] using this : ∀ j, j < 5 → hcell H18 ((⟨b, o, none⟩ : Addr).add j) = (It.cells ⟨false, 1, ⟨2, 7⟩, 0⟩)[j]?) j hj
    rw [add_mk] at this
    exact this
  refine ⟨ldI_of (hc2 2 (by omega)) (ldI_of (hc2 3 (by omega)) rfl), idEq ?_⟩
  rw [decide_eq_true rfl]
  (try simp only [asI_mk', asB_mk, asP_mk, asA_mk, asM_mk, asSl_mk, asStr_mk, tup2_mk, tup3_mk, agg1_mk, agg2_mk, agg3_mk, agg4_mk, asAggm, unCons_mk, unNil_mk, asTup_mk, extractD0, extractD1, List.toList_toArray, nilP_mk, add_mk, Nat.zero_add, Nat.add_zero, condT, condF, Bool.not_true, Bool.not_false, Option.isNone_some, Option.isNone_none])
  refine bif_eq rfl ?_
  refine trItemsC g18 (k := 1) rfl fun p' cap' H19 g19 => ?_
  (try simp only [asI_mk', asB_mk, asP_mk, asA_mk, asM_mk, asSl_mk, asStr_mk, tup2_mk, tup3_mk, agg1_mk, agg2_mk, agg3_mk, agg4_mk, asAggm, unCons_mk, unNil_mk, asTup_mk, extractD0, extractD1, List.toList_toArray, nilP_mk, add_mk, Nat.zero_add, Nat.add_zero, condT, condF, Bool.not_true, Bool.not_false, Option.isNone_some, Option.isNone_none])
  exact hK H19 g19.keep

end Go.Proofs.Ytknejebggegfjaa
