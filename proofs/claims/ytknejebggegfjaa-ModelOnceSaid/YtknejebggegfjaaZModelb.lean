/- Merged by merge.py: DenLaw26, Md7. No condition. -/
import Derived.Test.YtknejebggegfjaaZNum
import Derived.Test.YtknejebggegfjaaZModel

namespace Go.Proofs.Ytknejebggegfjaa
open Go
set_option linter.unusedVariables false
set_option maxRecDepth 100000
def B_law26_known  (H : Hp) (K : Value → Hp → Prop) : Prop :=
 hcall PR f_hand_Config ⟨[(.agg #[(.int .i64 0), (.int .i64 0), (.int .i64 0), (.int .i64 0), (.int .i64 0), (.int .i64 0), (.int .i64 0), (.int .i64 0), (.int .i64 0), (.int .i64 0), (.int .i64 0), (.int .i64 0), (.int .i64 0), (.int .i64 0), (.int .i64 0), (.int .i64 0), (.int .i64 0), (.int .i64 0), (.int .i64 0), (.int .i64 0), (.int .u64 0), (.int .u64 0)])]⟩ H fun v1 Hx2 =>
 asAgg' v1 fun cs3 =>
 unCons cs3.toList fun v4 r5 =>
 unCons r5 fun v6 r7 =>
 unCons r7 fun v8 r9 =>
 unCons r9 fun v10 r11 =>
 unCons r11 fun v12 r13 =>
 unCons r13 fun v14 r15 =>
 unCons r15 fun v16 r17 =>
 unCons r17 fun v18 r19 =>
 unCons r19 fun v20 r21 =>
 unCons r21 fun v22 r23 =>
 unCons r23 fun v24 r25 =>
 unCons r25 fun v26 r27 =>
 unCons r27 fun v28 r29 =>
 unCons r29 fun v30 r31 =>
 unCons r31 fun v32 r33 =>
 unCons r33 fun v34 r35 =>
 unCons r35 fun v36 r37 =>
 unCons r37 fun v38 r39 =>
 unCons r39 fun v40 r41 =>
 unCons r41 fun v42 r43 =>
 unCons r43 fun v44 r45 =>
 unCons r45 fun v46 r47 =>
 unNil r47 <|
 asI .i64 v4 fun Nodes48 =>
 asI .i64 v6 fun Mutators49 =>
 asI .i64 v8 fun Slots50 =>
 asI .i64 v10 fun Cells51 =>
 asI .i64 v12 fun Objects52 =>
 asI .i64 v14 fun Stubs53 =>
 asI .i64 v16 fun Calls54 =>
 asI .i64 v18 fun Window55 =>
 asI .i64 v20 fun Grey56 =>
 asI .i64 v22 fun Bag57 =>
 asI .i64 v24 fun Inbox58 =>
 asI .u64 v26 fun Unit59 =>
 asI .u64 v28 fun Drift60 =>
 asI .u64 v30 fun Lease61 =>
 asI .u64 v32 fun Wait62 =>
 asI .u64 v34 fun Most63 =>
 asI .u64 v36 fun Patience64 =>
 asI .i64 v38 fun Suspect65 =>
 asI .i64 v40 fun Trace66 =>
 asI .i64 v42 fun Work67 =>
 asI .u64 v44 fun Start68 =>
 asI .u64 v46 fun Last69 =>
 hcall PR f_model_New ⟨[(.agg #[(.int .i64 Nodes48), (.int .i64 Mutators49), (.int .i64 Slots50), (.int .i64 Cells51), (.int .i64 Objects52), (.int .i64 Stubs53), (.int .i64 Calls54), (.int .i64 Window55), (.int .i64 Grey56), (.int .i64 Bag57), (.int .i64 Inbox58), (.int .u64 Unit59), (.int .u64 Drift60), (.int .u64 Lease61), (.int .u64 Wait62), (.int .u64 Most63), (.int .u64 Patience64), (.int .i64 Suspect65), (.int .i64 Trace66), (.int .i64 Work67), (.int .u64 Start68), (.int .u64 Last69)])]⟩ Hx2 fun v70 Hx71 =>
 tup2 v70 fun v72 v73 =>
 asP v72 fun t74 =>
 asI .i64 v73 fun t75 =>
 (bif ((t75 : Int) != 0) then
 K (.bool false) Hx71
else
 (bif (Option.isNone (α := Addr) t74) then
 K (.bool false) Hx71
else
 hcall PR f_law26_made ⟨[]⟩ Hx71 fun v76 Hx77 =>
 tup2 v76 fun v78 v79 =>
 asAgg' v78 fun cs80 =>
 unCons cs80.toList fun v81 r82 =>
 unCons r82 fun v83 r84 =>
 unCons r84 fun v85 r86 =>
 unCons r86 fun v87 r88 =>
 unCons r88 fun v89 r90 =>
 unCons r90 fun v91 r92 =>
 unCons r92 fun v93 r94 =>
 unCons r94 fun v95 r96 =>
 unCons r96 fun v97 r98 =>
 unCons r98 fun v99 r100 =>
 unCons r100 fun v101 r102 =>
 unCons r102 fun v103 r104 =>
 unCons r104 fun v105 r106 =>
 unCons r106 fun v107 r108 =>
 unCons r108 fun v109 r110 =>
 unNil r110 <|
 asI .i64 v81 fun Kind111 =>
 asI .i64 v83 fun Node112 =>
 asI .i64 v85 fun M113 =>
 asI .i64 v87 fun Kx114 =>
 asI .i64 v89 fun Kind115 =>
 asI .i64 v91 fun A116 =>
 asI .i64 v93 fun B117 =>
 asI .i64 v95 fun Field118 =>
 asI .i64 v97 fun Refs119 =>
 asI .i64 v99 fun Vals120 =>
 asI .i64 v101 fun To121 =>
 asI .u64 v103 fun Value122 =>
 asI .u64 v105 fun Num123 =>
 asSl v107 fun ByP124 ByL125 ByC126 =>
 asSl v109 fun BytesP127 BytesL128 BytesC129 =>
 asAgg' v79 fun cs130 =>
 unCons cs130.toList fun v131 r132 =>
 unCons r132 fun v133 r134 =>
 unCons r134 fun v135 r136 =>
 unCons r136 fun v137 r138 =>
 unCons r138 fun v139 r140 =>
 unCons r140 fun v141 r142 =>
 unCons r142 fun v143 r144 =>
 unCons r144 fun v145 r146 =>
 unCons r146 fun v147 r148 =>
 unCons r148 fun v149 r150 =>
 unCons r150 fun v151 r152 =>
 unCons r152 fun v153 r154 =>
 unNil r154 <|
 asI .i64 v131 fun Why155 =>
 asI .i64 v133 fun Why156 =>
 asI .i64 v135 fun Node157 =>
 asI .u64 v137 fun Serial158 =>
 asI .u64 v139 fun Value159 =>
 asI .i64 v141 fun To160 =>
 asI .u64 v143 fun Num161 =>
 asSl v145 fun FreedP162 FreedL163 FreedC164 =>
 asSl v147 fun DoneP165 DoneL166 DoneC167 =>
 asI .i64 v149 fun Sent168 =>
 asI .i64 v151 fun Lost169 =>
 asB v153 fun Ok170 =>
 newB (.cells #[(.int .i64 0), (.int .i64 0), (.int .i64 0), (.int .i64 0), (.int .i64 0), (.int .i64 0), (.int .i64 0), (.int .i64 0), (.int .i64 0), (.int .i64 0), (.int .i64 0), (.int .u64 0), (.int .u64 0), (.slice none 0 0), (.slice none 0 0)] ty_world_Event) Hx77 fun b171 Hx172 =>
 newB (.cells #[(.int .i64 0), (.int .i64 0), (.int .i64 0), (.int .u64 0), (.int .u64 0), (.int .i64 0), (.int .u64 0), (.slice none 0 0), (.slice none 0 0), (.int .i64 0), (.int .i64 0), (.bool false)] ty_world_Row) Hx172 fun b173 Hx174 =>
 st ⟨b171, 0, none⟩ (.int .i64 Kind111) Hx174 fun Hx175 =>
 st ⟨b171, 1, none⟩ (.int .i64 Node112) Hx175 fun Hx176 =>
 st ⟨b171, 2, none⟩ (.int .i64 M113) Hx176 fun Hx177 =>
 st ⟨b171, 3, none⟩ (.int .i64 Kx114) Hx177 fun Hx178 =>
 st ⟨b171, 4, none⟩ (.int .i64 Kind115) Hx178 fun Hx179 =>
 st ⟨b171, 5, none⟩ (.int .i64 A116) Hx179 fun Hx180 =>
 st ⟨b171, 6, none⟩ (.int .i64 B117) Hx180 fun Hx181 =>
 st ⟨b171, 7, none⟩ (.int .i64 Field118) Hx181 fun Hx182 =>
 st ⟨b171, 8, none⟩ (.int .i64 Refs119) Hx182 fun Hx183 =>
 st ⟨b171, 9, none⟩ (.int .i64 Vals120) Hx183 fun Hx184 =>
 st ⟨b171, 10, none⟩ (.int .i64 To121) Hx184 fun Hx185 =>
 st ⟨b171, 11, none⟩ (.int .u64 Value122) Hx185 fun Hx186 =>
 st ⟨b171, 12, none⟩ (.int .u64 Num123) Hx186 fun Hx187 =>
 st ⟨b171, 13, none⟩ (.slice ByP124 ByL125 ByC126) Hx187 fun Hx188 =>
 st ⟨b171, 14, none⟩ (.slice BytesP127 BytesL128 BytesC129) Hx188 fun Hx189 =>
 st ⟨b173, 0, none⟩ (.int .i64 Why155) Hx189 fun Hx190 =>
 st ⟨b173, 1, none⟩ (.int .i64 Why156) Hx190 fun Hx191 =>
 st ⟨b173, 2, none⟩ (.int .i64 Node157) Hx191 fun Hx192 =>
 st ⟨b173, 3, none⟩ (.int .u64 Serial158) Hx192 fun Hx193 =>
 st ⟨b173, 4, none⟩ (.int .u64 Value159) Hx193 fun Hx194 =>
 st ⟨b173, 5, none⟩ (.int .i64 To160) Hx194 fun Hx195 =>
 st ⟨b173, 6, none⟩ (.int .u64 Num161) Hx195 fun Hx196 =>
 st ⟨b173, 7, none⟩ (.slice FreedP162 FreedL163 FreedC164) Hx196 fun Hx197 =>
 st ⟨b173, 8, none⟩ (.slice DoneP165 DoneL166 DoneC167) Hx197 fun Hx198 =>
 st ⟨b173, 9, none⟩ (.int .i64 Sent168) Hx198 fun Hx199 =>
 st ⟨b173, 10, none⟩ (.int .i64 Lost169) Hx199 fun Hx200 =>
 st ⟨b173, 11, none⟩ (.bool Ok170) Hx200 fun Hx201 =>
 ldI .i64 ⟨b171, 0, none⟩ Hx201 fun Kind202 =>
 ldI .i64 ⟨b171, 1, none⟩ Hx201 fun Node203 =>
 ldI .i64 ⟨b171, 2, none⟩ Hx201 fun M204 =>
 ldI .i64 ⟨b171, 3, none⟩ Hx201 fun Kx205 =>
 ldI .i64 ⟨b171, 4, none⟩ Hx201 fun Kind206 =>
 ldI .i64 ⟨b171, 5, none⟩ Hx201 fun A207 =>
 ldI .i64 ⟨b171, 6, none⟩ Hx201 fun B208 =>
 ldI .i64 ⟨b171, 7, none⟩ Hx201 fun Field209 =>
 ldI .i64 ⟨b171, 8, none⟩ Hx201 fun Refs210 =>
 ldI .i64 ⟨b171, 9, none⟩ Hx201 fun Vals211 =>
 ldI .i64 ⟨b171, 10, none⟩ Hx201 fun To212 =>
 ldI .u64 ⟨b171, 11, none⟩ Hx201 fun Value213 =>
 ldI .u64 ⟨b171, 12, none⟩ Hx201 fun Num214 =>
 ldSl ⟨b171, 13, none⟩ Hx201 fun ByP215 ByL216 ByC217 =>
 ldSl ⟨b171, 14, none⟩ Hx201 fun BytesP218 BytesL219 BytesC220 =>
 ldI .i64 ⟨b173, 0, none⟩ Hx201 fun Why221 =>
 ldI .i64 ⟨b173, 1, none⟩ Hx201 fun Why222 =>
 ldI .i64 ⟨b173, 2, none⟩ Hx201 fun Node223 =>
 ldI .u64 ⟨b173, 3, none⟩ Hx201 fun Serial224 =>
 ldI .u64 ⟨b173, 4, none⟩ Hx201 fun Value225 =>
 ldI .i64 ⟨b173, 5, none⟩ Hx201 fun To226 =>
 ldI .u64 ⟨b173, 6, none⟩ Hx201 fun Num227 =>
 ldSl ⟨b173, 7, none⟩ Hx201 fun FreedP228 FreedL229 FreedC230 =>
 ldSl ⟨b173, 8, none⟩ Hx201 fun DoneP231 DoneL232 DoneC233 =>
 ldI .i64 ⟨b173, 9, none⟩ Hx201 fun Sent234 =>
 ldI .i64 ⟨b173, 10, none⟩ Hx201 fun Lost235 =>
 ldB ⟨b173, 11, none⟩ Hx201 fun Ok236 =>
 hcall PR f_model_Model_See ⟨[(.pointer t74), (.agg #[(.int .i64 Kind202), (.int .i64 Node203), (.int .i64 M204), (.int .i64 Kx205), (.int .i64 Kind206), (.int .i64 A207), (.int .i64 B208), (.int .i64 Field209), (.int .i64 Refs210), (.int .i64 Vals211), (.int .i64 To212), (.int .u64 Value213), (.int .u64 Num214), (.slice ByP215 ByL216 ByC217), (.slice BytesP218 BytesL219 BytesC220)]), (.agg #[(.int .i64 Why221), (.int .i64 Why222), (.int .i64 Node223), (.int .u64 Serial224), (.int .u64 Value225), (.int .i64 To226), (.int .u64 Num227), (.slice FreedP228 FreedL229 FreedC230), (.slice DoneP231 DoneL232 DoneC233), (.int .i64 Sent234), (.int .i64 Lost235), (.bool Ok236)])]⟩ Hx201 fun v237 Hx238 =>
 asB v237 fun t239 =>
 hcall PR f_model_Model_Object ⟨[(.pointer t74), (.agg #[(.int .i64 1), (.int .u64 1)])]⟩ Hx238 fun v240 Hx241 =>
 tup2 v240 fun v242 v243 =>
 asAgg' v242 fun cs244 =>
 unCons cs244.toList fun v245 r246 =>
 unCons r246 fun v247 r248 =>
 unCons r248 fun v249 r250 =>
 unCons r250 fun v251 r252 =>
 unCons r252 fun v253 r254 =>
 unNil r254 <|
 asI .u64 v245 fun Serial255 =>
 asI .i64 v247 fun Cell256 =>
 asSl v249 fun RefsP257 RefsL258 RefsC259 =>
 asSl v251 fun ValsP260 ValsL261 ValsC262 =>
 asI .i64 v253 fun In263 =>
 asB v243 fun t264 =>
 newB (.cells #[(.int .u64 0), (.int .i64 0), (.slice none 0 0), (.slice none 0 0), (.int .i64 0)] ty_api_Object) Hx241 fun b265 Hx266 =>
 st ⟨b265, 0, none⟩ (.int .u64 Serial255) Hx266 fun Hx267 =>
 st ⟨b265, 1, none⟩ (.int .i64 Cell256) Hx267 fun Hx268 =>
 st ⟨b265, 2, none⟩ (.slice RefsP257 RefsL258 RefsC259) Hx268 fun Hx269 =>
 st ⟨b265, 3, none⟩ (.slice ValsP260 ValsL261 ValsC262) Hx269 fun Hx270 =>
 st ⟨b265, 4, none⟩ (.int .i64 In263) Hx270 fun Hx271 =>
 hcall PR f_model_Model_See ⟨[(.pointer t74), (.agg #[(.int .i64 1), (.int .i64 1), (.int .i64 0), (.int .i64 0), (.int .i64 8), (.int .i64 0), (.int .i64 1), (.int .i64 0), (.int .i64 0), (.int .i64 0), (.int .i64 0), (.int .u64 0), (.int .u64 0), (.slice none 0 0), (.slice none 0 0)]), (.agg #[(.int .i64 0), (.int .i64 0), (.int .i64 0), (.int .u64 0), (.int .u64 1), (.int .i64 0), (.int .u64 0), (.slice none 0 0), (.slice none 0 0), (.int .i64 0), (.int .i64 0), (.bool false)])]⟩ Hx271 fun v272 Hx273 =>
 asB v272 fun t274 =>
 (bif t239 then
 (bif t264 then
 ldSl ⟨b265, 2, none⟩ Hx273 fun RefsP275 RefsL276 RefsC277 =>
 (bif (((RefsL276 : Int) : Int) == 1) then
 ldSl ⟨b265, 3, none⟩ Hx273 fun ValsP278 ValsL279 ValsC280 =>
 (bif (((ValsL279 : Int) : Int) == 0) then
 K (.bool (!t274)) Hx273
else
 K (.bool false) Hx273)
else
 K (.bool false) Hx273)
else
 K (.bool false) Hx273)
else
 K (.bool false) Hx273)))
theorem E_law26_known  (H : Hp) (K : Value → Hp → Prop) : B_law26_known  H K = denF Try.prog Try.f16 .n [] H K := by kernel_rfl
theorem den_law26_known  {H : Hp} {K : Value → Hp → Prop} (h : B_law26_known  H K) : hcall PR f_law26_known ⟨[]⟩ H K := denF_call Try.func16 PR_mixed (Eq.mp (E_law26_known  H K) h)

def B_law26_made  (H : Hp) (K : Value → Hp → Prop) : Prop :=
 newB (.cells #[(.int .i64 0), (.int .i64 0), (.int .i64 0), (.int .i64 0), (.int .i64 0), (.int .i64 0), (.int .i64 0), (.int .i64 0), (.int .i64 0), (.int .i64 0), (.int .i64 0), (.int .u64 0), (.int .u64 0), (.slice none 0 0), (.slice none 0 0)] ty_world_Event) H fun b1 Hx2 =>
 newB (.cells #[(.int .i64 0), (.int .i64 0), (.int .i64 0), (.int .u64 0), (.int .u64 0), (.int .i64 0), (.int .u64 0), (.slice none 0 0), (.slice none 0 0), (.int .i64 0), (.int .i64 0), (.bool false)] ty_world_Row) Hx2 fun b3 Hx4 =>
 st ⟨b1, 0, none⟩ (.int .i64 1) Hx4 fun Hx5 =>
 st ⟨b1, 1, none⟩ (.int .i64 1) Hx5 fun Hx6 =>
 st ⟨b1, 2, none⟩ (.int .i64 0) Hx6 fun Hx7 =>
 st ⟨b1, 3, none⟩ (.int .i64 0) Hx7 fun Hx8 =>
 st ⟨b1, 4, none⟩ (.int .i64 1) Hx8 fun Hx9 =>
 st ⟨b1, 5, none⟩ (.int .i64 0) Hx9 fun Hx10 =>
 st ⟨b1, 6, none⟩ (.int .i64 0) Hx10 fun Hx11 =>
 st ⟨b1, 7, none⟩ (.int .i64 0) Hx11 fun Hx12 =>
 st ⟨b1, 8, none⟩ (.int .i64 1) Hx12 fun Hx13 =>
 st ⟨b1, 9, none⟩ (.int .i64 0) Hx13 fun Hx14 =>
 st ⟨b1, 10, none⟩ (.int .i64 0) Hx14 fun Hx15 =>
 st ⟨b1, 11, none⟩ (.int .u64 0) Hx15 fun Hx16 =>
 st ⟨b1, 12, none⟩ (.int .u64 0) Hx16 fun Hx17 =>
 st ⟨b1, 13, none⟩ (.slice none 0 0) Hx17 fun Hx18 =>
 st ⟨b1, 14, none⟩ (.slice none 0 0) Hx18 fun Hx19 =>
 st ⟨b3, 0, none⟩ (.int .i64 0) Hx19 fun Hx20 =>
 st ⟨b3, 1, none⟩ (.int .i64 0) Hx20 fun Hx21 =>
 st ⟨b3, 2, none⟩ (.int .i64 1) Hx21 fun Hx22 =>
 st ⟨b3, 3, none⟩ (.int .u64 1) Hx22 fun Hx23 =>
 st ⟨b3, 4, none⟩ (.int .u64 0) Hx23 fun Hx24 =>
 st ⟨b3, 5, none⟩ (.int .i64 0) Hx24 fun Hx25 =>
 st ⟨b3, 6, none⟩ (.int .u64 0) Hx25 fun Hx26 =>
 st ⟨b3, 7, none⟩ (.slice none 0 0) Hx26 fun Hx27 =>
 st ⟨b3, 8, none⟩ (.slice none 0 0) Hx27 fun Hx28 =>
 st ⟨b3, 9, none⟩ (.int .i64 0) Hx28 fun Hx29 =>
 st ⟨b3, 10, none⟩ (.int .i64 0) Hx29 fun Hx30 =>
 st ⟨b3, 11, none⟩ (.bool false) Hx30 fun Hx31 =>
 ldI .i64 ⟨b1, 0, none⟩ Hx31 fun Kind32 =>
 ldI .i64 ⟨b1, 1, none⟩ Hx31 fun Node33 =>
 ldI .i64 ⟨b1, 2, none⟩ Hx31 fun M34 =>
 ldI .i64 ⟨b1, 3, none⟩ Hx31 fun Kx35 =>
 ldI .i64 ⟨b1, 4, none⟩ Hx31 fun Kind36 =>
 ldI .i64 ⟨b1, 5, none⟩ Hx31 fun A37 =>
 ldI .i64 ⟨b1, 6, none⟩ Hx31 fun B38 =>
 ldI .i64 ⟨b1, 7, none⟩ Hx31 fun Field39 =>
 ldI .i64 ⟨b1, 8, none⟩ Hx31 fun Refs40 =>
 ldI .i64 ⟨b1, 9, none⟩ Hx31 fun Vals41 =>
 ldI .i64 ⟨b1, 10, none⟩ Hx31 fun To42 =>
 ldI .u64 ⟨b1, 11, none⟩ Hx31 fun Value43 =>
 ldI .u64 ⟨b1, 12, none⟩ Hx31 fun Num44 =>
 ldSl ⟨b1, 13, none⟩ Hx31 fun ByP45 ByL46 ByC47 =>
 ldSl ⟨b1, 14, none⟩ Hx31 fun BytesP48 BytesL49 BytesC50 =>
 ldI .i64 ⟨b3, 0, none⟩ Hx31 fun Why51 =>
 ldI .i64 ⟨b3, 1, none⟩ Hx31 fun Why52 =>
 ldI .i64 ⟨b3, 2, none⟩ Hx31 fun Node53 =>
 ldI .u64 ⟨b3, 3, none⟩ Hx31 fun Serial54 =>
 ldI .u64 ⟨b3, 4, none⟩ Hx31 fun Value55 =>
 ldI .i64 ⟨b3, 5, none⟩ Hx31 fun To56 =>
 ldI .u64 ⟨b3, 6, none⟩ Hx31 fun Num57 =>
 ldSl ⟨b3, 7, none⟩ Hx31 fun FreedP58 FreedL59 FreedC60 =>
 ldSl ⟨b3, 8, none⟩ Hx31 fun DoneP61 DoneL62 DoneC63 =>
 ldI .i64 ⟨b3, 9, none⟩ Hx31 fun Sent64 =>
 ldI .i64 ⟨b3, 10, none⟩ Hx31 fun Lost65 =>
 ldB ⟨b3, 11, none⟩ Hx31 fun Ok66 =>
 K (.tuple #[(.agg #[(.int .i64 Kind32), (.int .i64 Node33), (.int .i64 M34), (.int .i64 Kx35), (.int .i64 Kind36), (.int .i64 A37), (.int .i64 B38), (.int .i64 Field39), (.int .i64 Refs40), (.int .i64 Vals41), (.int .i64 To42), (.int .u64 Value43), (.int .u64 Num44), (.slice ByP45 ByL46 ByC47), (.slice BytesP48 BytesL49 BytesC50)]), (.agg #[(.int .i64 Why51), (.int .i64 Why52), (.int .i64 Node53), (.int .u64 Serial54), (.int .u64 Value55), (.int .i64 To56), (.int .u64 Num57), (.slice FreedP58 FreedL59 FreedC60), (.slice DoneP61 DoneL62 DoneC63), (.int .i64 Sent64), (.int .i64 Lost65), (.bool Ok66)])]) Hx31
theorem E_law26_made  (H : Hp) (K : Value → Hp → Prop) : B_law26_made  H K = denF Try.prog Try.f48 .n [] H K := by kernel_rfl
theorem den_law26_made  {H : Hp} {K : Value → Hp → Prop} (h : B_law26_made  H K) : hcall PR f_law26_made ⟨[]⟩ H K := denF_call Try.func48 PR_mixed (Eq.mp (E_law26_made  H K) h)

end Go.Proofs.Ytknejebggegfjaa

namespace Go.Proofs.Ytknejebggegfjaa
set_option linter.unusedSimpArgs false
set_option linter.unusedVariables false
set_option maxRecDepth 20000
open Go
theorem slotOf_set {m : Md} {v : Nat} {z : Id} {s : Nat} (hv : v < m.sl.length) (hm : 0 < m.sl[v].2.length) (hr : 0 < m.sl[v].2[0].2.length) : slotOf { m with sl := setSl m.sl v z } v s = if s = 0 then z else slotOf m v s := by
  have f1 : m.sl.getD v noN = m.sl[v] := by rw [List.getD_eq_getElem?_getD, List.getElem?_eq_getElem hv]; rfl
  have f2 : m.sl[v].2.getD 0 noR = m.sl[v].2[0] := by rw [List.getD_eq_getElem?_getD, List.getElem?_eq_getElem hm]; rfl
  unfold slotOf setSl
  simp only [f1, f2]
  rw [List.getD_eq_getElem?_getD (l := m.sl.set _ _), List.getElem?_set_self hv, Option.getD_some]
  simp only
  rw [List.getD_eq_getElem?_getD (l := m.sl[v].2.set _ _), List.getElem?_set_self hm, Option.getD_some]
  simp only
  rw [List.getD_eq_getElem?_getD, List.getElem?_set]
  by_cases e : s = 0
  · subst e
    rw [if_pos rfl, if_pos rfl, if_pos hr]
    rfl
  · rw [if_neg (fun h => e h.symm), if_neg e, List.getD_eq_getElem?_getD]
theorem setSl_ok {c : Cf} {m : Md} {v : Nat} {z : Id} {al : List (Id × Nat)} {la : List Int} (h : m.ok c) (hv : v < m.sl.length) (hm : 0 < m.sl[v].2.length) (hl : la.length = m.la.length) : Md.ok c { m with al := al, la := la, sl := setSl m.sl v z } := by
  have f1 : m.sl.getD v noN = m.sl[v] := by rw [List.getD_eq_getElem?_getD, List.getElem?_eq_getElem hv]; rfl
  have f2 : m.sl[v].2.getD 0 noR = m.sl[v].2[0] := by rw [List.getD_eq_getElem?_getD, List.getElem?_eq_getElem hm]; rfl
  refine ⟨by rw [← h.la]; simp only [hl], by rw [← h.sl]; simp only [setSl_len], fun t ht => ?_, fun t ht r hr => ?_⟩
  · rcases List.mem_or_eq_of_mem_set ht with ht | ht
    · exact h.mu t ht
    · rw [ht, f1]
      simp only [List.length_set]
      exact h.mu _ (List.getElem_mem hv)
  · rcases List.mem_or_eq_of_mem_set ht with ht | ht
    · exact h.ro t ht r hr
    · rw [ht, f1] at hr
      simp only at hr
      rcases List.mem_or_eq_of_mem_set hr with hr | hr
      · exact h.ro _ (List.getElem_mem hv) r hr
      · rw [hr, f2]
        simp only [List.length_set]
        exact h.ro _ (List.getElem_mem hv) _ (List.getElem_mem hm)
def raw26 (x : E_hand_Raw) : Cf := ⟨x.Nodes, x.Mutators, x.Slots, x.Cells, x.Objects, x.Stubs, x.Calls, x.Window, x.Grey, x.Bag, x.Inbox, x.Unit, x.Drift, x.Lease, x.Wait, x.Most, x.Patience, x.Suspect, x.Trace, x.Work, x.Start, x.Last⟩
section
variable {H0 H : Hp} {L M N A : List Prt} {i : Nat} {K : Value → Hp → Prop} {c : Cf} {x : MdX} {m : Md}
set_option maxHeartbeats 1000000 in
theorem madeC (h : St H0 L H) (hK : ∀ H', St H0 L H' → K (.tuple #[.agg #[.int .i64 1, .int .i64 1, .int .i64 0, .int .i64 0, .int .i64 1, .int .i64 0, .int .i64 0, .int .i64 0, .int .i64 1, .int .i64 0, .int .i64 0, .int .u64 0, .int .u64 0, .slice none 0 0, .slice none 0 0], .agg #[.int .i64 0, .int .i64 0, .int .i64 1, .int .u64 1, .int .u64 0, .int .i64 0, .int .u64 0, .slice none 0 0, .slice none 0 0, .int .i64 0, .int .i64 0, .bool false]]) H') : hcall PR f_law26_made ⟨[]⟩ H K := by
  apply den_law26_made
  unfold B_law26_made
  intro b1 hb1
  have g1 := h.alloc (o := .cells #[.int .i64 0, .int .i64 0, .int .i64 0, .int .i64 0, .int .i64 0, .int .i64 0, .int .i64 0, .int .i64 0, .int .i64 0, .int .i64 0, .int .i64 0, .int .u64 0, .int .u64 0, .slice none 0 0, .slice none 0 0] ty_world_Event) hb1
  intro b3 hb3
  have g2 := g1.alloc (o := .cells #[.int .i64 0, .int .i64 0, .int .i64 0, .int .u64 0, .int .u64 0, .int .i64 0, .int .u64 0, .slice none 0 0, .slice none 0 0, .int .i64 0, .int .i64 0, .bool false] ty_world_Row) hb3
  refine St.sets (i := 1) (o := 0) (vs := [.int .i64 1, .int .i64 1, .int .i64 0, .int .i64 0, .int .i64 1, .int .i64 0, .int .i64 0, .int .i64 0, .int .i64 1, .int .i64 0, .int .i64 0, .int .u64 0, .int .u64 0, .slice none 0 0, .slice none 0 0]) g2 rfl (by simp) fun H3 g3 => ?_
  rw [setsA_all (by rfl)] at g3
  refine St.sets (i := 0) (o := 0) (vs := [.int .i64 0, .int .i64 0, .int .i64 1, .int .u64 1, .int .u64 0, .int .i64 0, .int .u64 0, .slice none 0 0, .slice none 0 0, .int .i64 0, .int .i64 0, .bool false]) g3 rfl (by simp) fun H4 g4 => ?_
  rw [setsA_all (by rfl)] at g4
  (repeat first | refine ldI_of (g4.cell (i := 1) rfl rfl) ?_ | refine ldSl_of (g4.cell (i := 1) rfl rfl) ?_ | refine ldP_of (g4.cell (i := 1) rfl rfl) ?_ | refine ldB_of (g4.cell (i := 1) rfl rfl) ?_ | refine ldM_of (g4.cell (i := 1) rfl rfl) ?_ | refine ldI_of (g4.cell (i := 0) rfl rfl) ?_ | refine ldSl_of (g4.cell (i := 0) rfl rfl) ?_ | refine ldP_of (g4.cell (i := 0) rfl rfl) ?_ | refine ldB_of (g4.cell (i := 0) rfl rfl) ?_ | refine ldM_of (g4.cell (i := 0) rfl rfl) ?_)
  exact hK H4 (St.lesses (M := [_, _]) g4)
set_option maxHeartbeats 4000000 in
theorem known26C (h : St H0 L H) (hK : ∀ H', St H0 L H' → K (.bool true) H') : hcall PR f_law26_known ⟨[]⟩ H K := by
  apply den_law26_known
  unfold B_law26_known
  refine configC (r := zeroRaw) h fun H1 g1 => ?_
  have hg : (confOf zeroRaw).good := conf_good (by decide) (by decide)
  have hs2 : (confOf zeroRaw).a2 = 2 := by rfl
  have hl2 : (confOf zeroRaw).a21 = 0 := by rfl
  obtain ⟨c, hc⟩ : ∃ c, c = confOf zeroRaw := ⟨_, rfl⟩
  rw [← hc] at hg hs2 hl2 ⊢
  unfold Cf.val
  (try simp (config := { maxSteps := 3000000 }) only [asI_mk', asB_mk, asP_mk, asA_mk, asM_mk, asSl_mk, asStr_mk, tup2_mk, tup3_mk, agg1_mk, agg2_mk, agg3_mk, agg4_mk, asAggm, unCons_mk, unNil_mk, asTup_mk, extractD0, extractD1, List.toList_toArray, nilP_mk, add_mk, Nat.zero_add, Nat.add_zero, condT, condF, Bool.not_true, Bool.not_false, Option.isNone_some, Option.isNone_none])
  have h0 := hg.a0; have h1 := hg.a1
  refine mNewC hg g1 fun x m H2 hf hn g2 => ?_
  have hm := hf.ok hg hn
  have hd := hf.nod
  refine tup2J (asPI (asI_mk (bif_neqf rfl (bif_off rfl ?_))))
  refine madeC g2 fun H3 g3 => ?_
  (try simp (config := { maxSteps := 3000000 }) only [asI_mk', asB_mk, asP_mk, asA_mk, asM_mk, asSl_mk, asStr_mk, tup2_mk, tup3_mk, agg1_mk, agg2_mk, agg3_mk, agg4_mk, asAggm, unCons_mk, unNil_mk, asTup_mk, extractD0, extractD1, List.toList_toArray, nilP_mk, add_mk, Nat.zero_add, Nat.add_zero, condT, condF, Bool.not_true, Bool.not_false, Option.isNone_some, Option.isNone_none])
  intro b171 hb171
  have g4 := g3.alloc (o := .cells #[.int .i64 0, .int .i64 0, .int .i64 0, .int .i64 0, .int .i64 0, .int .i64 0, .int .i64 0, .int .i64 0, .int .i64 0, .int .i64 0, .int .i64 0, .int .u64 0, .int .u64 0, .slice none 0 0, .slice none 0 0] ty_world_Event) hb171
  intro b173 hb173
  have g5 := g4.alloc (o := .cells #[.int .i64 0, .int .i64 0, .int .i64 0, .int .u64 0, .int .u64 0, .int .i64 0, .int .u64 0, .slice none 0 0, .slice none 0 0, .int .i64 0, .int .i64 0, .bool false] ty_world_Row) hb173
  refine St.sets (i := 1) (o := 0) (vs := [.int .i64 1, .int .i64 1, .int .i64 0, .int .i64 0, .int .i64 1, .int .i64 0, .int .i64 0, .int .i64 0, .int .i64 1, .int .i64 0, .int .i64 0, .int .u64 0, .int .u64 0, .slice none 0 0, .slice none 0 0]) g5 rfl (by simp) fun H6 g6 => ?_
  rw [setsA_all (by rfl)] at g6
  refine St.sets (i := 0) (o := 0) (vs := [.int .i64 0, .int .i64 0, .int .i64 1, .int .u64 1, .int .u64 0, .int .i64 0, .int .u64 0, .slice none 0 0, .slice none 0 0, .int .i64 0, .int .i64 0, .bool false]) g6 rfl (by simp) fun H7 g7 => ?_
  rw [setsA_all (by rfl)] at g7
  (repeat first | refine ldI_of (g7.cell (i := 1) rfl rfl) ?_ | refine ldSl_of (g7.cell (i := 1) rfl rfl) ?_ | refine ldP_of (g7.cell (i := 1) rfl rfl) ?_ | refine ldB_of (g7.cell (i := 1) rfl rfl) ?_ | refine ldM_of (g7.cell (i := 1) rfl rfl) ?_ | refine ldI_of (g7.cell (i := 0) rfl rfl) ?_ | refine ldSl_of (g7.cell (i := 0) rfl rfl) ?_ | refine ldP_of (g7.cell (i := 0) rfl rfl) ?_ | refine ldB_of (g7.cell (i := 0) rfl rfl) ?_ | refine ldM_of (g7.cell (i := 0) rfl rfl) ?_)
  have g7 : St H0 ([Prt.one b173 (.cells #[.int .i64 0, .int .i64 0, .int .i64 1, .int .u64 1, .int .u64 0, .int .i64 0, .int .u64 0, .slice none 0 0, .slice none 0 0, .int .i64 0, .int .i64 0, .bool false] ty_world_Row (0, 0)), Prt.one b171 (.cells #[.int .i64 1, .int .i64 1, .int .i64 0, .int .i64 0, .int .i64 1, .int .i64 0, .int .i64 0, .int .i64 0, .int .i64 1, .int .i64 0, .int .i64 0, .int .u64 0, .int .u64 0, .slice none 0 0, .slice none 0 0] ty_world_Event (0, 0))] ++ (mdL c x m ++ L)) H7 := g7
  have hla0 : m.la.getD (1 - 1 : Int).toNat 0 = 0 := by
    rw [hf.la, hl2, List.getD_eq_getElem?_getD, List.getElem?_replicate]
    split <;> rfl
  refine seeDoC (n := 1) (k2 := 1) (b := 0) (r := 1) (t := 0) (a1 := 1) (a2 := 1) (a3 := 0) (a4 := 0) (a5 := 0) hg (by omega) (St.swapL g7) fun N1 H8 hN1 g8 => ?_
  refine doesNewC (q := ⟨1, 1⟩) (rr := 1) hm hd hg (by show (1 : Int) ≤ 1 ∧ (1 : Int) ≤ c.a0; omega) (by show m.la.getD (1 - 1 : Int).toNat 0 < (1 : Int); omega) (by decide) (by omega) g8 fun tb rp vp H9 g9 => ?_
  refine asBI ?_
  refine asBI ?_
  have hv0 : 0 < m.sl.length := by omega
  have hmu := hm.mu _ (List.getElem_mem hv0)
  have hmu0 : 0 < m.sl[0].2.length := by omega
  have hro := (hf.mu _ (List.getElem_mem hv0)).2 _ (List.getElem_mem hmu0)
  obtain ⟨m', hm'⟩ : ∃ m' : Md, m' = { m with al := mput m.al ⟨1, 1⟩ tb, la := m.la.set ((1 : Int) - 1).toNat 1, sl := setSl m.sl ((1 : Int) - 1).toNat ⟨1, 1⟩ } := ⟨_, rfl⟩
  have g9 : St H0 ([Prt.one tb (.cells #[.slice rp 1 1, .slice vp 0 0] ty_model_thing (0, 0)), Prt.row 1 vp 0 0 (List.replicate 0 (.int .u64 0)), Prt.row 2 rp 1 1 (cel wId (List.replicate 1 noId))] ++ (mdL c x m' ++ (N1 ++ ([Prt.one b173 (.cells #[.int .i64 0, .int .i64 0, .int .i64 1, .int .u64 1, .int .u64 0, .int .i64 0, .int .u64 0, .slice none 0 0, .slice none 0 0, .int .i64 0, .int .i64 0, .bool false] ty_world_Row (0, 0)), Prt.one b171 (.cells #[.int .i64 1, .int .i64 1, .int .i64 0, .int .i64 0, .int .i64 1, .int .i64 0, .int .i64 0, .int .i64 0, .int .i64 1, .int .i64 0, .int .i64 0, .int .u64 0, .int .u64 0, .slice none 0 0, .slice none 0 0] ty_world_Event (0, 0))] ++ L)))) H9 := by
    rw [hm', ← List.append_assoc]
    exact g9
  have hmo : m'.ok c := by
    rw [hm']
    exact setSl_ok (v := 0) (z := ⟨1, 1⟩) hm hv0 hmu0 (by rw [List.length_set])
  have hmd : m'.nod := by
    rw [hm']
    exact ⟨mput_nod hd.al _ _, hd.ca, hd.nu⟩
  have hal : mlook m'.al ⟨1, 1⟩ = some tb := by
    rw [hm']
    show mlook (mput m.al ⟨1, 1⟩ tb) ⟨1, 1⟩ = some tb
    rw [mlook_mput, if_pos rfl]
  have hsl : ∀ s, slotOf m' 0 s = if s = 0 then ⟨1, 1⟩ else slotOf m 0 s := fun s => by
    rw [hm']
    exact slotOf_set (m := { m with al := mput m.al ⟨1, 1⟩ tb, la := m.la.set ((1 : Int) - 1).toNat 1 }) (v := 0) hv0 hmu0 (by rw [hro, List.length_replicate, hs2]; decide)
  have hs1 : slotOf m 0 1 = noId := by
    unfold slotOf
    have f1 : m.sl.getD 0 noN = m.sl[0] := by rw [List.getD_eq_getElem?_getD, List.getElem?_eq_getElem hv0]; rfl
    have f2 : m.sl[0].2.getD 0 noR = m.sl[0].2[0] := by rw [List.getD_eq_getElem?_getD, List.getElem?_eq_getElem hmu0]; rfl
    rw [f1, f2, hro, hs2]
    rfl
  refine ObjectC (y := ⟨1, 1⟩) (tb := tb) (r := 1) (v := 0) (rp := rp) (vp := vp) hmd hal (by omega) (by omega) g9 fun p1 c1 p2 c2 H10 g10 => ?_
  (try simp (config := { maxSteps := 3000000 }) only [asI_mk', asB_mk, asP_mk, asA_mk, asM_mk, asSl_mk, asStr_mk, tup2_mk, tup3_mk, agg1_mk, agg2_mk, agg3_mk, agg4_mk, asAggm, unCons_mk, unNil_mk, asTup_mk, extractD0, extractD1, List.toList_toArray, nilP_mk, add_mk, Nat.zero_add, Nat.add_zero, condT, condF, Bool.not_true, Bool.not_false, Option.isNone_some, Option.isNone_none])
  refine boxz (c := [.int .u64 0, .int .i64 0, .slice none 0 0, .slice none 0 0, .int .i64 0]) (vs := [.int .u64 1, .int .i64 0, .slice p1 1 c1, .slice p2 0 c2, .int .i64 0]) g10 rfl fun b265 H11 g11 => ?_
  have g11 : St H0 ([Prt.one b265 (.cells #[.int .u64 1, .int .i64 0, .slice p1 1 c1, .slice p2 0 c2, .int .i64 0] ty_api_Object (0, 0)), Prt.one tb (.cells #[.slice rp 1 1, .slice vp 0 0] ty_model_thing (0, 0)), Prt.row 1 vp 0 0 (List.replicate 0 (.int .u64 0)), Prt.row 2 rp 1 1 (cel wId (List.replicate 1 noId))] ++ (mdL c x m' ++ (N1 ++ ([Prt.one b173 (.cells #[.int .i64 0, .int .i64 0, .int .i64 1, .int .u64 1, .int .u64 0, .int .i64 0, .int .u64 0, .slice none 0 0, .slice none 0 0, .int .i64 0, .int .i64 0, .bool false] ty_world_Row (0, 0)), Prt.one b171 (.cells #[.int .i64 1, .int .i64 1, .int .i64 0, .int .i64 0, .int .i64 1, .int .i64 0, .int .i64 0, .int .i64 0, .int .i64 1, .int .i64 0, .int .i64 0, .int .u64 0, .int .u64 0, .slice none 0 0, .slice none 0 0] ty_world_Event (0, 0))] ++ L)))) H11 := g11
  refine seeDoC (n := 1) (k2 := 8) (b := 1) (r := 0) (t := 0) (a1 := 0) (a2 := 0) (a3 := 1) (a4 := 0) (a5 := 0) hg (by omega) (St.swapL g11) fun N2 H12 hN2 g12 => ?_
  refine doesSameC (n := 1) (b := 1) hmo hmd hg (by omega) (by rw [hs2]; decide) (by
    show slotOf m' 0 0 ≠ slotOf m' 0 1
    rw [hsl, hsl, hs1, if_pos rfl, if_neg (by decide)]
    decide) g12 fun H13 g13 => ?_
  refine asBI (asBI ?_)
  have g14 := St.lesses (M := N2) (St.swapL g13)
  have g14 : St H0 ([Prt.one b265 (.cells #[.int .u64 1, .int .i64 0, .slice p1 1 c1, .slice p2 0 c2, .int .i64 0] ty_api_Object (0, 0)), Prt.one tb (.cells #[.slice rp 1 1, .slice vp 0 0] ty_model_thing (0, 0)), Prt.row 1 vp 0 0 (List.replicate 0 (.int .u64 0)), Prt.row 2 rp 1 1 (cel wId (List.replicate 1 noId))] ++ (mdL c x m' ++ (N1 ++ ([Prt.one b173 (.cells #[.int .i64 0, .int .i64 0, .int .i64 1, .int .u64 1, .int .u64 0, .int .i64 0, .int .u64 0, .slice none 0 0, .slice none 0 0, .int .i64 0, .int .i64 0, .bool false] ty_world_Row (0, 0)), Prt.one b171 (.cells #[.int .i64 1, .int .i64 1, .int .i64 0, .int .i64 0, .int .i64 1, .int .i64 0, .int .i64 0, .int .i64 0, .int .i64 1, .int .i64 0, .int .i64 0, .int .u64 0, .int .u64 0, .slice none 0 0, .slice none 0 0] ty_world_Event (0, 0))] ++ L)))) H13 := St.swapL g14
  refine ldSl_of (g14.cell (i := 0) rfl rfl) (bif_eq rfl (ldSl_of (g14.cell (i := 0) rfl rfl) (bif_eq rfl ?_)))
  exact hK H13 (St.lesses (M := [_, _]) (St.lesses (M := N1) (St.lesses (M := mdL c x m') (St.lesses (M := [_, _, _, _]) g14))))
end
end Go.Proofs.Ytknejebggegfjaa
