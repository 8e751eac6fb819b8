/- Merged by merge.py: DenLaw23TraceKnown, DenLaw23TraceWaits, Law23k. No condition. -/
import Derived.Test.YtknejebggegfjaaZNum
import Derived.Test.YtknejebggegfjaaZTraceb

namespace Go.Proofs.Ytknejebggegfjaa
open Go
set_option linter.unusedVariables false
set_option maxRecDepth 100000
end Go.Proofs.Ytknejebggegfjaa

namespace Go.Proofs.Ytknejebggegfjaa
open Go
set_option linter.unusedVariables false
set_option maxRecDepth 100000
def B_law23_TraceWaits (rawNodes1 : Int) (rawMutators2 : Int) (rawSlots3 : Int) (rawCells4 : Int) (rawObjects5 : Int) (rawStubs6 : Int) (rawCalls7 : Int) (rawWindow8 : Int) (rawGrey9 : Int) (rawBag10 : Int) (rawInbox11 : Int) (rawUnit12 : Int) (rawDrift13 : Int) (rawLease14 : Int) (rawWait15 : Int) (rawMost16 : Int) (rawPatience17 : Int) (rawSuspect18 : Int) (rawTrace19 : Int) (rawWork20 : Int) (rawStart21 : Int) (rawLast22 : Int) (now23 : Int) (times24 : Int) (H : Hp) (K : Value → Hp → Prop) : Prop :=
 newB (.cells #[(.int .i64 rawNodes1), (.int .i64 rawMutators2), (.int .i64 rawSlots3), (.int .i64 rawCells4), (.int .i64 rawObjects5), (.int .i64 rawStubs6), (.int .i64 rawCalls7), (.int .i64 rawWindow8), (.int .i64 rawGrey9), (.int .i64 rawBag10), (.int .i64 rawInbox11), (.int .i64 rawUnit12), (.int .i64 rawDrift13), (.int .i64 rawLease14), (.int .i64 rawWait15), (.int .i64 rawMost16), (.int .i64 rawPatience17), (.int .i64 rawSuspect18), (.int .i64 rawTrace19), (.int .i64 rawWork20), (.int .u64 rawStart21), (.int .u64 rawLast22)] ty_hand_Raw) H fun b25 Hx26 =>
 ldI .i64 ⟨b25, 0, none⟩ Hx26 fun Nodes27 =>
 ldI .i64 ⟨b25, 1, none⟩ Hx26 fun Mutators28 =>
 ldI .i64 ⟨b25, 2, none⟩ Hx26 fun Slots29 =>
 ldI .i64 ⟨b25, 3, none⟩ Hx26 fun Cells30 =>
 ldI .i64 ⟨b25, 4, none⟩ Hx26 fun Objects31 =>
 ldI .i64 ⟨b25, 5, none⟩ Hx26 fun Stubs32 =>
 ldI .i64 ⟨b25, 6, none⟩ Hx26 fun Calls33 =>
 ldI .i64 ⟨b25, 7, none⟩ Hx26 fun Window34 =>
 ldI .i64 ⟨b25, 8, none⟩ Hx26 fun Grey35 =>
 ldI .i64 ⟨b25, 9, none⟩ Hx26 fun Bag36 =>
 ldI .i64 ⟨b25, 10, none⟩ Hx26 fun Inbox37 =>
 ldI .i64 ⟨b25, 11, none⟩ Hx26 fun Unit38 =>
 ldI .i64 ⟨b25, 12, none⟩ Hx26 fun Drift39 =>
 ldI .i64 ⟨b25, 13, none⟩ Hx26 fun Lease40 =>
 ldI .i64 ⟨b25, 14, none⟩ Hx26 fun Wait41 =>
 ldI .i64 ⟨b25, 15, none⟩ Hx26 fun Most42 =>
 ldI .i64 ⟨b25, 16, none⟩ Hx26 fun Patience43 =>
 ldI .i64 ⟨b25, 17, none⟩ Hx26 fun Suspect44 =>
 ldI .i64 ⟨b25, 18, none⟩ Hx26 fun Trace45 =>
 ldI .i64 ⟨b25, 19, none⟩ Hx26 fun Work46 =>
 ldI .u64 ⟨b25, 20, none⟩ Hx26 fun Start47 =>
 ldI .u64 ⟨b25, 21, none⟩ Hx26 fun Last48 =>
 hcall PR f_hand_Config ⟨[(.agg #[(.int .i64 Nodes27), (.int .i64 Mutators28), (.int .i64 Slots29), (.int .i64 Cells30), (.int .i64 Objects31), (.int .i64 Stubs32), (.int .i64 Calls33), (.int .i64 Window34), (.int .i64 Grey35), (.int .i64 Bag36), (.int .i64 Inbox37), (.int .i64 Unit38), (.int .i64 Drift39), (.int .i64 Lease40), (.int .i64 Wait41), (.int .i64 Most42), (.int .i64 Patience43), (.int .i64 Suspect44), (.int .i64 Trace45), (.int .i64 Work46), (.int .u64 Start47), (.int .u64 Last48)])]⟩ Hx26 fun v49 Hx50 =>
 asAgg' v49 fun cs51 =>
 unCons cs51.toList fun v52 r53 =>
 unCons r53 fun v54 r55 =>
 unCons r55 fun v56 r57 =>
 unCons r57 fun v58 r59 =>
 unCons r59 fun v60 r61 =>
 unCons r61 fun v62 r63 =>
 unCons r63 fun v64 r65 =>
 unCons r65 fun v66 r67 =>
 unCons r67 fun v68 r69 =>
 unCons r69 fun v70 r71 =>
 unCons r71 fun v72 r73 =>
 unCons r73 fun v74 r75 =>
 unCons r75 fun v76 r77 =>
 unCons r77 fun v78 r79 =>
 unCons r79 fun v80 r81 =>
 unCons r81 fun v82 r83 =>
 unCons r83 fun v84 r85 =>
 unCons r85 fun v86 r87 =>
 unCons r87 fun v88 r89 =>
 unCons r89 fun v90 r91 =>
 unCons r91 fun v92 r93 =>
 unCons r93 fun v94 r95 =>
 unNil r95 <|
 asI .i64 v52 fun Nodes96 =>
 asI .i64 v54 fun Mutators97 =>
 asI .i64 v56 fun Slots98 =>
 asI .i64 v58 fun Cells99 =>
 asI .i64 v60 fun Objects100 =>
 asI .i64 v62 fun Stubs101 =>
 asI .i64 v64 fun Calls102 =>
 asI .i64 v66 fun Window103 =>
 asI .i64 v68 fun Grey104 =>
 asI .i64 v70 fun Bag105 =>
 asI .i64 v72 fun Inbox106 =>
 asI .u64 v74 fun Unit107 =>
 asI .u64 v76 fun Drift108 =>
 asI .u64 v78 fun Lease109 =>
 asI .u64 v80 fun Wait110 =>
 asI .u64 v82 fun Most111 =>
 asI .u64 v84 fun Patience112 =>
 asI .i64 v86 fun Suspect113 =>
 asI .i64 v88 fun Trace114 =>
 asI .i64 v90 fun Work115 =>
 asI .u64 v92 fun Start116 =>
 asI .u64 v94 fun Last117 =>
 newB (.cells #[(.int .i64 0), (.int .i64 0), (.int .i64 0), (.int .i64 0), (.int .i64 0), (.int .i64 0), (.int .i64 0), (.int .i64 0), (.int .i64 0), (.int .i64 0), (.int .i64 0), (.int .u64 0), (.int .u64 0), (.int .u64 0), (.int .u64 0), (.int .u64 0), (.int .u64 0), (.int .i64 0), (.int .i64 0), (.int .i64 0), (.int .u64 0), (.int .u64 0)] ty_api_Config) Hx50 fun b118 Hx119 =>
 st ⟨b118, 0, none⟩ (.int .i64 Nodes96) Hx119 fun Hx120 =>
 st ⟨b118, 1, none⟩ (.int .i64 Mutators97) Hx120 fun Hx121 =>
 st ⟨b118, 2, none⟩ (.int .i64 Slots98) Hx121 fun Hx122 =>
 st ⟨b118, 3, none⟩ (.int .i64 Cells99) Hx122 fun Hx123 =>
 st ⟨b118, 4, none⟩ (.int .i64 Objects100) Hx123 fun Hx124 =>
 st ⟨b118, 5, none⟩ (.int .i64 Stubs101) Hx124 fun Hx125 =>
 st ⟨b118, 6, none⟩ (.int .i64 Calls102) Hx125 fun Hx126 =>
 st ⟨b118, 7, none⟩ (.int .i64 Window103) Hx126 fun Hx127 =>
 st ⟨b118, 8, none⟩ (.int .i64 Grey104) Hx127 fun Hx128 =>
 st ⟨b118, 9, none⟩ (.int .i64 Bag105) Hx128 fun Hx129 =>
 st ⟨b118, 10, none⟩ (.int .i64 Inbox106) Hx129 fun Hx130 =>
 st ⟨b118, 11, none⟩ (.int .u64 Unit107) Hx130 fun Hx131 =>
 st ⟨b118, 12, none⟩ (.int .u64 Drift108) Hx131 fun Hx132 =>
 st ⟨b118, 13, none⟩ (.int .u64 Lease109) Hx132 fun Hx133 =>
 st ⟨b118, 14, none⟩ (.int .u64 Wait110) Hx133 fun Hx134 =>
 st ⟨b118, 15, none⟩ (.int .u64 Most111) Hx134 fun Hx135 =>
 st ⟨b118, 16, none⟩ (.int .u64 Patience112) Hx135 fun Hx136 =>
 st ⟨b118, 17, none⟩ (.int .i64 Suspect113) Hx136 fun Hx137 =>
 st ⟨b118, 18, none⟩ (.int .i64 Trace114) Hx137 fun Hx138 =>
 st ⟨b118, 19, none⟩ (.int .i64 Work115) Hx138 fun Hx139 =>
 st ⟨b118, 20, none⟩ (.int .u64 Start116) Hx139 fun Hx140 =>
 st ⟨b118, 21, none⟩ (.int .u64 Last117) Hx140 fun Hx141 =>
 ldI .i64 ⟨b118, 0, none⟩ Hx141 fun Nodes142 =>
 ldI .i64 ⟨b118, 1, none⟩ Hx141 fun Mutators143 =>
 ldI .i64 ⟨b118, 2, none⟩ Hx141 fun Slots144 =>
 ldI .i64 ⟨b118, 3, none⟩ Hx141 fun Cells145 =>
 ldI .i64 ⟨b118, 4, none⟩ Hx141 fun Objects146 =>
 ldI .i64 ⟨b118, 5, none⟩ Hx141 fun Stubs147 =>
 ldI .i64 ⟨b118, 6, none⟩ Hx141 fun Calls148 =>
 ldI .i64 ⟨b118, 7, none⟩ Hx141 fun Window149 =>
 ldI .i64 ⟨b118, 8, none⟩ Hx141 fun Grey150 =>
 ldI .i64 ⟨b118, 9, none⟩ Hx141 fun Bag151 =>
 ldI .i64 ⟨b118, 10, none⟩ Hx141 fun Inbox152 =>
 ldI .u64 ⟨b118, 11, none⟩ Hx141 fun Unit153 =>
 ldI .u64 ⟨b118, 12, none⟩ Hx141 fun Drift154 =>
 ldI .u64 ⟨b118, 13, none⟩ Hx141 fun Lease155 =>
 ldI .u64 ⟨b118, 14, none⟩ Hx141 fun Wait156 =>
 ldI .u64 ⟨b118, 15, none⟩ Hx141 fun Most157 =>
 ldI .u64 ⟨b118, 16, none⟩ Hx141 fun Patience158 =>
 ldI .i64 ⟨b118, 17, none⟩ Hx141 fun Suspect159 =>
 ldI .i64 ⟨b118, 18, none⟩ Hx141 fun Trace160 =>
 ldI .i64 ⟨b118, 19, none⟩ Hx141 fun Work161 =>
 ldI .u64 ⟨b118, 20, none⟩ Hx141 fun Start162 =>
 ldI .u64 ⟨b118, 21, none⟩ Hx141 fun Last163 =>
 hcall PR f_trace_New ⟨[(.agg #[(.int .i64 Nodes142), (.int .i64 Mutators143), (.int .i64 Slots144), (.int .i64 Cells145), (.int .i64 Objects146), (.int .i64 Stubs147), (.int .i64 Calls148), (.int .i64 Window149), (.int .i64 Grey150), (.int .i64 Bag151), (.int .i64 Inbox152), (.int .u64 Unit153), (.int .u64 Drift154), (.int .u64 Lease155), (.int .u64 Wait156), (.int .u64 Most157), (.int .u64 Patience158), (.int .i64 Suspect159), (.int .i64 Trace160), (.int .i64 Work161), (.int .u64 Start162), (.int .u64 Last163)]), (.int .i64 1), (.int .u64 0)]⟩ Hx141 fun v164 Hx165 =>
 tup2 v164 fun v166 v167 =>
 asP v166 fun t168 =>
 asI .i64 v167 fun t169 =>
 (1000000 : Int) ≠ 0 ∧
 hcall PR f_law23_known ⟨[]⟩ Hx165 fun v170 Hx171 =>
 asB v170 fun t172 =>
 (bif (!t172) then
 K (.bool false) Hx171
else
 (bif ((t169 : Int) != 0) then
 K (.bool false) Hx171
else
 (bif (Option.isNone (α := Addr) t168) then
 K (.bool false) Hx171
else
 hcall PR f_law23_stub ⟨[]⟩ Hx171 fun v173 Hx174 =>
 agg2 v173 fun v175 v176 =>
 asI .i64 v175 fun Node177 =>
 asI .u64 v176 fun Serial178 =>
 hcall PR f_trace_Trace_Begin ⟨[(.pointer t168), (.agg #[(.int .i64 Node177), (.int .u64 Serial178)]), (.int .u64 (Int.tmod now23 1000000))]⟩ Hx174 fun v179 Hx180 =>
 asI .i64 v179 fun t181 =>
 (bif ((t181 : Int) != 0) then
 K (.bool false) Hx180
else
 hcall PR f_trace_Trace_Step ⟨[(.pointer t168), (.int .u64 (Int.tmod now23 1000000))]⟩ Hx180 fun v182 Hx183 =>
 tup2 v182 fun v184 v185 =>
 asAgg' v184 fun cs186 =>
 unCons cs186.toList fun v187 r188 =>
 unCons r188 fun v189 r190 =>
 unCons r190 fun v191 r192 =>
 unCons r192 fun v193 r194 =>
 unCons r194 fun v195 r196 =>
 unCons r196 fun v197 r198 =>
 unCons r198 fun v199 r200 =>
 unCons r200 fun v201 r202 =>
 unCons r202 fun v203 r204 =>
 unCons r204 fun v205 r206 =>
 unCons r206 fun v207 r208 =>
 unCons r208 fun v209 r210 =>
 unCons r210 fun v211 r212 =>
 unCons r212 fun v213 r214 =>
 unCons r214 fun v215 r216 =>
 unCons r216 fun v217 r218 =>
 unCons r218 fun v219 r220 =>
 unCons r220 fun v221 r222 =>
 unCons r222 fun v223 r224 =>
 unNil r224 <|
 asI .i64 v187 fun Kind225 =>
 asI .i64 v189 fun From226 =>
 asI .i64 v191 fun To227 =>
 asI .u64 v193 fun Call228 =>
 asI .u64 v195 fun Floor229 =>
 asI .i64 v197 fun Op230 =>
 asI .i64 v199 fun Field231 =>
 asI .i64 v201 fun Item232 =>
 asI .i64 v203 fun Node233 =>
 asI .u64 v205 fun Serial234 =>
 asSl v207 fun RefsP235 RefsL236 RefsC237 =>
 asI .u64 v209 fun Value238 =>
 asI .i64 v211 fun Code239 =>
 asI .u64 v213 fun Seq240 =>
 asI .i64 v215 fun Voucher241 =>
 asI .u64 v217 fun At242 =>
 asI .i64 v219 fun Dist243 =>
 asI .u64 v221 fun Stamp244 =>
 asSl v223 fun ListP245 ListL246 ListC247 =>
 asB v185 fun t248 =>
 newB (.cells #[(.int .i64 0), (.int .i64 0), (.int .i64 0), (.int .u64 0), (.int .u64 0), (.int .i64 0), (.int .i64 0), (.int .i64 0), (.int .i64 0), (.int .u64 0), (.slice none 0 0), (.int .u64 0), (.int .i64 0), (.int .u64 0), (.int .i64 0), (.int .u64 0), (.int .i64 0), (.int .u64 0), (.slice none 0 0)] ty_api_Msg) Hx183 fun b249 Hx250 =>
 st ⟨b249, 0, none⟩ (.int .i64 Kind225) Hx250 fun Hx251 =>
 st ⟨b249, 1, none⟩ (.int .i64 From226) Hx251 fun Hx252 =>
 st ⟨b249, 2, none⟩ (.int .i64 To227) Hx252 fun Hx253 =>
 st ⟨b249, 3, none⟩ (.int .u64 Call228) Hx253 fun Hx254 =>
 st ⟨b249, 4, none⟩ (.int .u64 Floor229) Hx254 fun Hx255 =>
 st ⟨b249, 5, none⟩ (.int .i64 Op230) Hx255 fun Hx256 =>
 st ⟨b249, 6, none⟩ (.int .i64 Field231) Hx256 fun Hx257 =>
 st ⟨b249, 7, none⟩ (.int .i64 Item232) Hx257 fun Hx258 =>
 st ⟨b249, 8, none⟩ (.int .i64 Node233) Hx258 fun Hx259 =>
 st ⟨b249, 9, none⟩ (.int .u64 Serial234) Hx259 fun Hx260 =>
 st ⟨b249, 10, none⟩ (.slice RefsP235 RefsL236 RefsC237) Hx260 fun Hx261 =>
 st ⟨b249, 11, none⟩ (.int .u64 Value238) Hx261 fun Hx262 =>
 st ⟨b249, 12, none⟩ (.int .i64 Code239) Hx262 fun Hx263 =>
 st ⟨b249, 13, none⟩ (.int .u64 Seq240) Hx263 fun Hx264 =>
 st ⟨b249, 14, none⟩ (.int .i64 Voucher241) Hx264 fun Hx265 =>
 st ⟨b249, 15, none⟩ (.int .u64 At242) Hx265 fun Hx266 =>
 st ⟨b249, 16, none⟩ (.int .i64 Dist243) Hx266 fun Hx267 =>
 st ⟨b249, 17, none⟩ (.int .u64 Stamp244) Hx267 fun Hx268 =>
 st ⟨b249, 18, none⟩ (.slice ListP245 ListL246 ListC247) Hx268 fun Hx269 =>
 (bif (!t248) then
 K (.bool false) Hx269
else
 ldI .u64 ⟨b118, 14, none⟩ Hx269 fun Wait270 =>
 ∃ (I271 : Int → Int → Int → Hp → Prop) (m272 : Int → Int → Int → Hp → Nat), I271 (Int.tmod now23 1000000) Wait270 0 Hx269 ∧ ∀ now274 : Int, ∀ wait275 : Int, ∀ i276 : Int, ∀ Hx273 : Hp, I271 now274 wait275 i276 Hx273 →
 hcall PR f_hand_Pick ⟨[(.int .i64 times24), (.int .i64 8)]⟩ Hx273 fun v277 Hx278 =>
 asI .i64 v277 fun t279 =>
 (bif (decide ((i276 : Int) < t279)) then
 hcall PR f_trace_Trace_Step ⟨[(.pointer t168), (.int .u64 (IntKind.u64.wrap ((IntKind.u64.wrap (now274 + wait275)) - 1)))]⟩ Hx278 fun v280 Hx281 =>
 tup2 v280 fun v282 v283 =>
 asAgg' v282 fun cs284 =>
 unCons cs284.toList fun v285 r286 =>
 unCons r286 fun v287 r288 =>
 unCons r288 fun v289 r290 =>
 unCons r290 fun v291 r292 =>
 unCons r292 fun v293 r294 =>
 unCons r294 fun v295 r296 =>
 unCons r296 fun v297 r298 =>
 unCons r298 fun v299 r300 =>
 unCons r300 fun v301 r302 =>
 unCons r302 fun v303 r304 =>
 unCons r304 fun v305 r306 =>
 unCons r306 fun v307 r308 =>
 unCons r308 fun v309 r310 =>
 unCons r310 fun v311 r312 =>
 unCons r312 fun v313 r314 =>
 unCons r314 fun v315 r316 =>
 unCons r316 fun v317 r318 =>
 unCons r318 fun v319 r320 =>
 unCons r320 fun v321 r322 =>
 unNil r322 <|
 asI .i64 v285 fun Kind323 =>
 asI .i64 v287 fun From324 =>
 asI .i64 v289 fun To325 =>
 asI .u64 v291 fun Call326 =>
 asI .u64 v293 fun Floor327 =>
 asI .i64 v295 fun Op328 =>
 asI .i64 v297 fun Field329 =>
 asI .i64 v299 fun Item330 =>
 asI .i64 v301 fun Node331 =>
 asI .u64 v303 fun Serial332 =>
 asSl v305 fun RefsP333 RefsL334 RefsC335 =>
 asI .u64 v307 fun Value336 =>
 asI .i64 v309 fun Code337 =>
 asI .u64 v311 fun Seq338 =>
 asI .i64 v313 fun Voucher339 =>
 asI .u64 v315 fun At340 =>
 asI .i64 v317 fun Dist341 =>
 asI .u64 v319 fun Stamp342 =>
 asSl v321 fun ListP343 ListL344 ListC345 =>
 asB v283 fun t346 =>
 newB (.cells #[(.int .i64 0), (.int .i64 0), (.int .i64 0), (.int .u64 0), (.int .u64 0), (.int .i64 0), (.int .i64 0), (.int .i64 0), (.int .i64 0), (.int .u64 0), (.slice none 0 0), (.int .u64 0), (.int .i64 0), (.int .u64 0), (.int .i64 0), (.int .u64 0), (.int .i64 0), (.int .u64 0), (.slice none 0 0)] ty_api_Msg) Hx281 fun b347 Hx348 =>
 st ⟨b347, 0, none⟩ (.int .i64 Kind323) Hx348 fun Hx349 =>
 st ⟨b347, 1, none⟩ (.int .i64 From324) Hx349 fun Hx350 =>
 st ⟨b347, 2, none⟩ (.int .i64 To325) Hx350 fun Hx351 =>
 st ⟨b347, 3, none⟩ (.int .u64 Call326) Hx351 fun Hx352 =>
 st ⟨b347, 4, none⟩ (.int .u64 Floor327) Hx352 fun Hx353 =>
 st ⟨b347, 5, none⟩ (.int .i64 Op328) Hx353 fun Hx354 =>
 st ⟨b347, 6, none⟩ (.int .i64 Field329) Hx354 fun Hx355 =>
 st ⟨b347, 7, none⟩ (.int .i64 Item330) Hx355 fun Hx356 =>
 st ⟨b347, 8, none⟩ (.int .i64 Node331) Hx356 fun Hx357 =>
 st ⟨b347, 9, none⟩ (.int .u64 Serial332) Hx357 fun Hx358 =>
 st ⟨b347, 10, none⟩ (.slice RefsP333 RefsL334 RefsC335) Hx358 fun Hx359 =>
 st ⟨b347, 11, none⟩ (.int .u64 Value336) Hx359 fun Hx360 =>
 st ⟨b347, 12, none⟩ (.int .i64 Code337) Hx360 fun Hx361 =>
 st ⟨b347, 13, none⟩ (.int .u64 Seq338) Hx361 fun Hx362 =>
 st ⟨b347, 14, none⟩ (.int .i64 Voucher339) Hx362 fun Hx363 =>
 st ⟨b347, 15, none⟩ (.int .u64 At340) Hx363 fun Hx364 =>
 st ⟨b347, 16, none⟩ (.int .i64 Dist341) Hx364 fun Hx365 =>
 st ⟨b347, 17, none⟩ (.int .u64 Stamp342) Hx365 fun Hx366 =>
 st ⟨b347, 18, none⟩ (.slice ListP343 ListL344 ListC345) Hx366 fun Hx367 =>
 hcall PR f_trace_Trace_Step ⟨[(.pointer t168), (.int .u64 (IntKind.u64.wrap (now274 + wait275)))]⟩ Hx367 fun v368 Hx369 =>
 tup2 v368 fun v370 v371 =>
 asAgg' v370 fun cs372 =>
 unCons cs372.toList fun v373 r374 =>
 unCons r374 fun v375 r376 =>
 unCons r376 fun v377 r378 =>
 unCons r378 fun v379 r380 =>
 unCons r380 fun v381 r382 =>
 unCons r382 fun v383 r384 =>
 unCons r384 fun v385 r386 =>
 unCons r386 fun v387 r388 =>
 unCons r388 fun v389 r390 =>
 unCons r390 fun v391 r392 =>
 unCons r392 fun v393 r394 =>
 unCons r394 fun v395 r396 =>
 unCons r396 fun v397 r398 =>
 unCons r398 fun v399 r400 =>
 unCons r400 fun v401 r402 =>
 unCons r402 fun v403 r404 =>
 unCons r404 fun v405 r406 =>
 unCons r406 fun v407 r408 =>
 unCons r408 fun v409 r410 =>
 unNil r410 <|
 asI .i64 v373 fun Kind411 =>
 asI .i64 v375 fun From412 =>
 asI .i64 v377 fun To413 =>
 asI .u64 v379 fun Call414 =>
 asI .u64 v381 fun Floor415 =>
 asI .i64 v383 fun Op416 =>
 asI .i64 v385 fun Field417 =>
 asI .i64 v387 fun Item418 =>
 asI .i64 v389 fun Node419 =>
 asI .u64 v391 fun Serial420 =>
 asSl v393 fun RefsP421 RefsL422 RefsC423 =>
 asI .u64 v395 fun Value424 =>
 asI .i64 v397 fun Code425 =>
 asI .u64 v399 fun Seq426 =>
 asI .i64 v401 fun Voucher427 =>
 asI .u64 v403 fun At428 =>
 asI .i64 v405 fun Dist429 =>
 asI .u64 v407 fun Stamp430 =>
 asSl v409 fun ListP431 ListL432 ListC433 =>
 asB v371 fun t434 =>
 newB (.cells #[(.int .i64 0), (.int .i64 0), (.int .i64 0), (.int .u64 0), (.int .u64 0), (.int .i64 0), (.int .i64 0), (.int .i64 0), (.int .i64 0), (.int .u64 0), (.slice none 0 0), (.int .u64 0), (.int .i64 0), (.int .u64 0), (.int .i64 0), (.int .u64 0), (.int .i64 0), (.int .u64 0), (.slice none 0 0)] ty_api_Msg) Hx369 fun b435 Hx436 =>
 st ⟨b435, 0, none⟩ (.int .i64 Kind411) Hx436 fun Hx437 =>
 st ⟨b435, 1, none⟩ (.int .i64 From412) Hx437 fun Hx438 =>
 st ⟨b435, 2, none⟩ (.int .i64 To413) Hx438 fun Hx439 =>
 st ⟨b435, 3, none⟩ (.int .u64 Call414) Hx439 fun Hx440 =>
 st ⟨b435, 4, none⟩ (.int .u64 Floor415) Hx440 fun Hx441 =>
 st ⟨b435, 5, none⟩ (.int .i64 Op416) Hx441 fun Hx442 =>
 st ⟨b435, 6, none⟩ (.int .i64 Field417) Hx442 fun Hx443 =>
 st ⟨b435, 7, none⟩ (.int .i64 Item418) Hx443 fun Hx444 =>
 st ⟨b435, 8, none⟩ (.int .i64 Node419) Hx444 fun Hx445 =>
 st ⟨b435, 9, none⟩ (.int .u64 Serial420) Hx445 fun Hx446 =>
 st ⟨b435, 10, none⟩ (.slice RefsP421 RefsL422 RefsC423) Hx446 fun Hx447 =>
 st ⟨b435, 11, none⟩ (.int .u64 Value424) Hx447 fun Hx448 =>
 st ⟨b435, 12, none⟩ (.int .i64 Code425) Hx448 fun Hx449 =>
 st ⟨b435, 13, none⟩ (.int .u64 Seq426) Hx449 fun Hx450 =>
 st ⟨b435, 14, none⟩ (.int .i64 Voucher427) Hx450 fun Hx451 =>
 st ⟨b435, 15, none⟩ (.int .u64 At428) Hx451 fun Hx452 =>
 st ⟨b435, 16, none⟩ (.int .i64 Dist429) Hx452 fun Hx453 =>
 st ⟨b435, 17, none⟩ (.int .u64 Stamp430) Hx453 fun Hx454 =>
 st ⟨b435, 18, none⟩ (.slice ListP431 ListL432 ListC433) Hx454 fun Hx455 =>
 (bif t346 then
 K (.bool false) Hx455
else
 (bif (!t434) then
 K (.bool false) Hx455
else
 ldI .i64 ⟨b435, 0, none⟩ Hx455 fun Kind456 =>
 ldI .i64 ⟨b435, 1, none⟩ Hx455 fun From457 =>
 ldI .i64 ⟨b435, 2, none⟩ Hx455 fun To458 =>
 ldI .u64 ⟨b435, 3, none⟩ Hx455 fun Call459 =>
 ldI .u64 ⟨b435, 4, none⟩ Hx455 fun Floor460 =>
 ldI .i64 ⟨b435, 5, none⟩ Hx455 fun Op461 =>
 ldI .i64 ⟨b435, 6, none⟩ Hx455 fun Field462 =>
 ldI .i64 ⟨b435, 7, none⟩ Hx455 fun Item463 =>
 ldI .i64 ⟨b435, 8, none⟩ Hx455 fun Node464 =>
 ldI .u64 ⟨b435, 9, none⟩ Hx455 fun Serial465 =>
 ldSl ⟨b435, 10, none⟩ Hx455 fun RefsP466 RefsL467 RefsC468 =>
 ldI .u64 ⟨b435, 11, none⟩ Hx455 fun Value469 =>
 ldI .i64 ⟨b435, 12, none⟩ Hx455 fun Code470 =>
 ldI .u64 ⟨b435, 13, none⟩ Hx455 fun Seq471 =>
 ldI .i64 ⟨b435, 14, none⟩ Hx455 fun Voucher472 =>
 ldI .u64 ⟨b435, 15, none⟩ Hx455 fun At473 =>
 ldI .i64 ⟨b435, 16, none⟩ Hx455 fun Dist474 =>
 ldI .u64 ⟨b435, 17, none⟩ Hx455 fun Stamp475 =>
 ldSl ⟨b435, 18, none⟩ Hx455 fun ListP476 ListL477 ListC478 =>
 ldI .i64 ⟨b249, 0, none⟩ Hx455 fun Kind479 =>
 ldI .i64 ⟨b249, 1, none⟩ Hx455 fun From480 =>
 ldI .i64 ⟨b249, 2, none⟩ Hx455 fun To481 =>
 ldI .u64 ⟨b249, 3, none⟩ Hx455 fun Call482 =>
 ldI .u64 ⟨b249, 4, none⟩ Hx455 fun Floor483 =>
 ldI .i64 ⟨b249, 5, none⟩ Hx455 fun Op484 =>
 ldI .i64 ⟨b249, 6, none⟩ Hx455 fun Field485 =>
 ldI .i64 ⟨b249, 7, none⟩ Hx455 fun Item486 =>
 ldI .i64 ⟨b249, 8, none⟩ Hx455 fun Node487 =>
 ldI .u64 ⟨b249, 9, none⟩ Hx455 fun Serial488 =>
 ldSl ⟨b249, 10, none⟩ Hx455 fun RefsP489 RefsL490 RefsC491 =>
 ldI .u64 ⟨b249, 11, none⟩ Hx455 fun Value492 =>
 ldI .i64 ⟨b249, 12, none⟩ Hx455 fun Code493 =>
 ldI .u64 ⟨b249, 13, none⟩ Hx455 fun Seq494 =>
 ldI .i64 ⟨b249, 14, none⟩ Hx455 fun Voucher495 =>
 ldI .u64 ⟨b249, 15, none⟩ Hx455 fun At496 =>
 ldI .i64 ⟨b249, 16, none⟩ Hx455 fun Dist497 =>
 ldI .u64 ⟨b249, 17, none⟩ Hx455 fun Stamp498 =>
 ldSl ⟨b249, 18, none⟩ Hx455 fun ListP499 ListL500 ListC501 =>
 hcall PR f_ref2_Same ⟨[(.agg #[(.int .i64 Kind456), (.int .i64 From457), (.int .i64 To458), (.int .u64 Call459), (.int .u64 Floor460), (.int .i64 Op461), (.int .i64 Field462), (.int .i64 Item463), (.int .i64 Node464), (.int .u64 Serial465), (.slice RefsP466 RefsL467 RefsC468), (.int .u64 Value469), (.int .i64 Code470), (.int .u64 Seq471), (.int .i64 Voucher472), (.int .u64 At473), (.int .i64 Dist474), (.int .u64 Stamp475), (.slice ListP476 ListL477 ListC478)]), (.agg #[(.int .i64 Kind479), (.int .i64 From480), (.int .i64 To481), (.int .u64 Call482), (.int .u64 Floor483), (.int .i64 Op484), (.int .i64 Field485), (.int .i64 Item486), (.int .i64 Node487), (.int .u64 Serial488), (.slice RefsP489 RefsL490 RefsC491), (.int .u64 Value492), (.int .i64 Code493), (.int .u64 Seq494), (.int .i64 Voucher495), (.int .u64 At496), (.int .i64 Dist497), (.int .u64 Stamp498), (.slice ListP499 ListL500 ListC501)])]⟩ Hx455 fun v502 Hx503 =>
 asB v502 fun t504 =>
 (bif (!t504) then
 K (.bool false) Hx503
else
 ldI .u64 ⟨b118, 15, none⟩ Hx503 fun Most505 =>
 I271 (IntKind.u64.wrap (now274 + wait275)) (if Most505 < (IntKind.u64.wrap (2 * wait275)) then Most505 else (IntKind.u64.wrap (2 * wait275))) (IntKind.i64.wrap (i276 + 1)) Hx503 ∧ m272 (IntKind.u64.wrap (now274 + wait275)) (if Most505 < (IntKind.u64.wrap (2 * wait275)) then Most505 else (IntKind.u64.wrap (2 * wait275))) (IntKind.i64.wrap (i276 + 1)) Hx503 < m272 now274 wait275 i276 Hx273)))
else
 hcall PR f_trace_Trace_Hear ⟨[(.pointer t168), (.agg #[(.int .i64 9), (.int .i64 1), (.int .i64 1), (.int .u64 1), (.int .u64 0), (.int .i64 0), (.int .i64 0), (.int .i64 0), (.int .i64 0), (.int .u64 0), (.slice none 0 0), (.int .u64 0), (.int .i64 1), (.int .u64 0), (.int .i64 0), (.int .u64 0), (.int .i64 0), (.int .u64 0), (.slice none 0 0)])]⟩ Hx278 fun v506 Hx507 =>
 asB v506 fun t508 =>
 (bif t508 then
 hcall PR f_trace_Trace_State ⟨[(.pointer t168)]⟩ Hx507 fun v509 Hx510 =>
 asI .i64 v509 fun t511 =>
 K (.bool ((t511 : Int) == 0)) Hx510
else
 K (.bool false) Hx507)))))))
theorem E_law23_TraceWaits (rawNodes1 : Int) (rawMutators2 : Int) (rawSlots3 : Int) (rawCells4 : Int) (rawObjects5 : Int) (rawStubs6 : Int) (rawCalls7 : Int) (rawWindow8 : Int) (rawGrey9 : Int) (rawBag10 : Int) (rawInbox11 : Int) (rawUnit12 : Int) (rawDrift13 : Int) (rawLease14 : Int) (rawWait15 : Int) (rawMost16 : Int) (rawPatience17 : Int) (rawSuspect18 : Int) (rawTrace19 : Int) (rawWork20 : Int) (rawStart21 : Int) (rawLast22 : Int) (now23 : Int) (times24 : Int) (H : Hp) (K : Value → Hp → Prop) : B_law23_TraceWaits rawNodes1 rawMutators2 rawSlots3 rawCells4 rawObjects5 rawStubs6 rawCalls7 rawWindow8 rawGrey9 rawBag10 rawInbox11 rawUnit12 rawDrift13 rawLease14 rawWait15 rawMost16 rawPatience17 rawSuspect18 rawTrace19 rawWork20 rawStart21 rawLast22 now23 times24 H K = denF Try.prog Try.f10 (.seq none .n (.seq none .n (.seq none .n (.seq none .n (.seq none .n (.seq none .n (.seq none .n (.seq none .n (.seq none (.seq none .n (.sub (.loop ⟨[(1, .int .u64), (12, .int .u64), (13, .int .i64)], [2, 7, 8, 10]⟩ .n))) .n))))))))) [(.agg #[(.int .i64 rawNodes1), (.int .i64 rawMutators2), (.int .i64 rawSlots3), (.int .i64 rawCells4), (.int .i64 rawObjects5), (.int .i64 rawStubs6), (.int .i64 rawCalls7), (.int .i64 rawWindow8), (.int .i64 rawGrey9), (.int .i64 rawBag10), (.int .i64 rawInbox11), (.int .i64 rawUnit12), (.int .i64 rawDrift13), (.int .i64 rawLease14), (.int .i64 rawWait15), (.int .i64 rawMost16), (.int .i64 rawPatience17), (.int .i64 rawSuspect18), (.int .i64 rawTrace19), (.int .i64 rawWork20), (.int .u64 rawStart21), (.int .u64 rawLast22)]), (.int .u64 now23), (.int .i64 times24)] H K := by kernel_rfl
theorem den_law23_TraceWaits {rawNodes1 : Int} {rawMutators2 : Int} {rawSlots3 : Int} {rawCells4 : Int} {rawObjects5 : Int} {rawStubs6 : Int} {rawCalls7 : Int} {rawWindow8 : Int} {rawGrey9 : Int} {rawBag10 : Int} {rawInbox11 : Int} {rawUnit12 : Int} {rawDrift13 : Int} {rawLease14 : Int} {rawWait15 : Int} {rawMost16 : Int} {rawPatience17 : Int} {rawSuspect18 : Int} {rawTrace19 : Int} {rawWork20 : Int} {rawStart21 : Int} {rawLast22 : Int} {now23 : Int} {times24 : Int} {H : Hp} {K : Value → Hp → Prop} (h : B_law23_TraceWaits rawNodes1 rawMutators2 rawSlots3 rawCells4 rawObjects5 rawStubs6 rawCalls7 rawWindow8 rawGrey9 rawBag10 rawInbox11 rawUnit12 rawDrift13 rawLease14 rawWait15 rawMost16 rawPatience17 rawSuspect18 rawTrace19 rawWork20 rawStart21 rawLast22 now23 times24 H K) : hcall PR f_law23_TraceWaits ⟨[(.agg #[(.int .i64 rawNodes1), (.int .i64 rawMutators2), (.int .i64 rawSlots3), (.int .i64 rawCells4), (.int .i64 rawObjects5), (.int .i64 rawStubs6), (.int .i64 rawCalls7), (.int .i64 rawWindow8), (.int .i64 rawGrey9), (.int .i64 rawBag10), (.int .i64 rawInbox11), (.int .i64 rawUnit12), (.int .i64 rawDrift13), (.int .i64 rawLease14), (.int .i64 rawWait15), (.int .i64 rawMost16), (.int .i64 rawPatience17), (.int .i64 rawSuspect18), (.int .i64 rawTrace19), (.int .i64 rawWork20), (.int .u64 rawStart21), (.int .u64 rawLast22)]), (.int .u64 now23), (.int .i64 times24)]⟩ H K := denF_call Try.func10 PR_mixed (Eq.mp (E_law23_TraceWaits rawNodes1 rawMutators2 rawSlots3 rawCells4 rawObjects5 rawStubs6 rawCalls7 rawWindow8 rawGrey9 rawBag10 rawInbox11 rawUnit12 rawDrift13 rawLease14 rawWait15 rawMost16 rawPatience17 rawSuspect18 rawTrace19 rawWork20 rawStart21 rawLast22 now23 times24 H K) h)

end Go.Proofs.Ytknejebggegfjaa

namespace Go.Proofs.Ytknejebggegfjaa
set_option linter.unusedSimpArgs false
set_option linter.unusedVariables false
set_option maxRecDepth 20000
open Go
def rawOf (x : E_hand_Raw) : Cf := ⟨x.Nodes, x.Mutators, x.Slots, x.Cells, x.Objects, x.Stubs, x.Calls, x.Window, x.Grey, x.Bag, x.Inbox, x.Unit, x.Drift, x.Lease, x.Wait, x.Most, x.Patience, x.Suspect, x.Trace, x.Work, x.Start, x.Last⟩
def wq : Qn := ⟨8, 1, 1, 1, 2, 0, ⟨2, 7⟩, 0⟩
def wt (s w : Int) : Tr := ⟨1, 1, 0, 1, [⟨false, 1, ⟨2, 7⟩, 0⟩], [], 0, [], s, w⟩
theorem wt_q {s w : Int} : (wt s w).q = wq := rfl
theorem wt_told {s w a b n : Int} : (wt s w).told a b n = wt n (lWait w a b) := rfl
theorem lWait_is {w a b : Int} (h1 : 1 ≤ w) (h2 : w ≤ b) (h3 : b ≤ 1000) : lWait w a b = if b < IntKind.u64.wrap (2 * w) then b else IntKind.u64.wrap (2 * w) := by
  unfold lWait
  rw [if_neg (by omega), Int.tdiv_eq_ediv_of_nonneg (by omega), wrap_u64' (n := b / 2) (by omega) (by omega), wrap_u64' (n := 2 * w) (by omega) (by omega)]
  by_cases h : w > b / 2
  · rw [if_pos h, if_pos (by omega)]
  · rw [if_neg h, if_neg (by omega)]
theorem TraceWaits_r {r : Cf} {now times : Int} {H : Hp} {K : Value → Hp → Prop} (h20 : 0 ≤ r.a20) (h21 : 0 ≤ r.a21) (hnow : IntKind.min .u64 ≤ now ∧ now ≤ IntKind.max .u64) (htm : IntKind.min .i64 ≤ times ∧ times ≤ IntKind.max .i64)
    (hK : ∀ H', Keep Nothing H H' → K (.bool true) H') : hcall PR f_law23_TraceWaits ⟨[r.raw, .int .u64 now, .int .i64 times]⟩ H K := by
  apply den_law23_TraceWaits
  unfold B_law23_TraceWaits
  intro br hbr
  have g1 := (St.start H).alloc (o := .cells #[.int .i64 r.a0, .int .i64 r.a1, .int .i64 r.a2, .int .i64 r.a3, .int .i64 r.a4, .int .i64 r.a5, .int .i64 r.a6, .int .i64 r.a7, .int .i64 r.a8, .int .i64 r.a9, .int .i64 r.a10, .int .i64 r.a11, .int .i64 r.a12, .int .i64 r.a13, .int .i64 r.a14, .int .i64 r.a15, .int .i64 r.a16, .int .i64 r.a17, .int .i64 r.a18, .int .i64 r.a19, .int .u64 r.a20, .int .u64 r.a21] ty_hand_Raw) hbr
  refine ldI_of (g1.cell (i := 0) rfl rfl) (ldI_of (g1.cell (i := 0) rfl rfl) (ldI_of (g1.cell (i := 0) rfl rfl) (ldI_of (g1.cell (i := 0) rfl rfl) (ldI_of (g1.cell (i := 0) rfl rfl) (ldI_of (g1.cell (i := 0) rfl rfl) (ldI_of (g1.cell (i := 0) rfl rfl) (ldI_of (g1.cell (i := 0) rfl rfl) (ldI_of (g1.cell (i := 0) rfl rfl) (ldI_of (g1.cell (i := 0) rfl rfl) (ldI_of (g1.cell (i := 0) rfl rfl) (ldI_of (g1.cell (i := 0) rfl rfl) (ldI_of (g1.cell (i := 0) rfl rfl) (ldI_of (g1.cell (i := 0) rfl rfl) (ldI_of (g1.cell (i := 0) rfl rfl) (ldI_of (g1.cell (i := 0) rfl rfl) (ldI_of (g1.cell (i := 0) rfl rfl) (ldI_of (g1.cell (i := 0) rfl rfl) (ldI_of (g1.cell (i := 0) rfl rfl) (ldI_of (g1.cell (i := 0) rfl rfl) (ldI_of (g1.cell (i := 0) rfl rfl) (ldI_of (g1.cell (i := 0) rfl rfl) (?_))))))))))))))))))))))
  have hg : (confOf r).good := conf_good h20 h21
  refine configC (r := r) g1 fun H2 g2 => ?_
  obtain ⟨c, hc⟩ : ∃ c, c = confOf r := ⟨_, rfl⟩
  rw [← hc] at hg ⊢
  unfold Cf.val
  (try simp only [asI_mk', asB_mk, asP_mk, asA_mk, asM_mk, asSl_mk, asStr_mk, tup2_mk, tup3_mk, agg1_mk, agg2_mk, agg3_mk, agg4_mk, asAggm, unCons_mk, unNil_mk, asTup_mk, extractD0, extractD1, List.toList_toArray, nilP_mk, add_mk, Nat.zero_add, Nat.add_zero, condT, condF, Bool.not_true, Bool.not_false, Option.isNone_some, Option.isNone_none])
  refine boxz (c := [.int .i64 0, .int .i64 0, .int .i64 0, .int .i64 0, .int .i64 0, .int .i64 0, .int .i64 0, .int .i64 0, .int .i64 0, .int .i64 0, .int .i64 0, .int .u64 0, .int .u64 0, .int .u64 0, .int .u64 0, .int .u64 0, .int .u64 0, .int .i64 0, .int .i64 0, .int .i64 0, .int .u64 0, .int .u64 0]) (vs := [.int .i64 c.a0, .int .i64 c.a1, .int .i64 c.a2, .int .i64 c.a3, .int .i64 c.a4, .int .i64 c.a5, .int .i64 c.a6, .int .i64 c.a7, .int .i64 c.a8, .int .i64 c.a9, .int .i64 c.a10, .int .u64 c.a11, .int .u64 c.a12, .int .u64 c.a13, .int .u64 c.a14, .int .u64 c.a15, .int .u64 c.a16, .int .i64 c.a17, .int .i64 c.a18, .int .i64 c.a19, .int .u64 c.a20, .int .u64 c.a21]) g2 rfl fun bc H3 g3 => ?_
  have g3 : St H [Prt.one bc (.cells #[.int .i64 c.a0, .int .i64 c.a1, .int .i64 c.a2, .int .i64 c.a3, .int .i64 c.a4, .int .i64 c.a5, .int .i64 c.a6, .int .i64 c.a7, .int .i64 c.a8, .int .i64 c.a9, .int .i64 c.a10, .int .u64 c.a11, .int .u64 c.a12, .int .u64 c.a13, .int .u64 c.a14, .int .u64 c.a15, .int .u64 c.a16, .int .i64 c.a17, .int .i64 c.a18, .int .i64 c.a19, .int .u64 c.a20, .int .u64 c.a21] ty_api_Config (0, 0)), Prt.one br (.cells #[.int .i64 r.a0, .int .i64 r.a1, .int .i64 r.a2, .int .i64 r.a3, .int .i64 r.a4, .int .i64 r.a5, .int .i64 r.a6, .int .i64 r.a7, .int .i64 r.a8, .int .i64 r.a9, .int .i64 r.a10, .int .i64 r.a11, .int .i64 r.a12, .int .i64 r.a13, .int .i64 r.a14, .int .i64 r.a15, .int .i64 r.a16, .int .i64 r.a17, .int .i64 r.a18, .int .i64 r.a19, .int .u64 r.a20, .int .u64 r.a21] ty_hand_Raw (0, 0))] H3 := g3
  refine ldI_of (g3.cell (i := 0) rfl rfl) (ldI_of (g3.cell (i := 0) rfl rfl) (ldI_of (g3.cell (i := 0) rfl rfl) (ldI_of (g3.cell (i := 0) rfl rfl) (ldI_of (g3.cell (i := 0) rfl rfl) (ldI_of (g3.cell (i := 0) rfl rfl) (ldI_of (g3.cell (i := 0) rfl rfl) (ldI_of (g3.cell (i := 0) rfl rfl) (ldI_of (g3.cell (i := 0) rfl rfl) (ldI_of (g3.cell (i := 0) rfl rfl) (ldI_of (g3.cell (i := 0) rfl rfl) (ldI_of (g3.cell (i := 0) rfl rfl) (ldI_of (g3.cell (i := 0) rfl rfl) (ldI_of (g3.cell (i := 0) rfl rfl) (ldI_of (g3.cell (i := 0) rfl rfl) (ldI_of (g3.cell (i := 0) rfl rfl) (ldI_of (g3.cell (i := 0) rfl rfl) (ldI_of (g3.cell (i := 0) rfl rfl) (ldI_of (g3.cell (i := 0) rfl rfl) (ldI_of (g3.cell (i := 0) rfl rfl) (ldI_of (g3.cell (i := 0) rfl rfl) (ldI_of (g3.cell (i := 0) rfl rfl) (?_))))))))))))))))))))))
  have ha0 := hg.a0
  have hw14 := hg.a14
  have hw15 := hg.a15
  refine newC (c := c) hg g3 (fun h => absurd h (by omega)) fun _ _ tb H6 g6 => ?_
  (try simp only [asI_mk', asB_mk, asP_mk, asA_mk, asM_mk, asSl_mk, asStr_mk, tup2_mk, tup3_mk, agg1_mk, agg2_mk, agg3_mk, agg4_mk, asAggm, unCons_mk, unNil_mk, asTup_mk, extractD0, extractD1, List.toList_toArray, nilP_mk, add_mk, Nat.zero_add, Nat.add_zero, condT, condF, Bool.not_true, Bool.not_false, Option.isNone_some, Option.isNone_none])
  refine ⟨by decide, knownC g6 fun H7 g7 => ?_⟩
  (try simp only [asI_mk', asB_mk, asP_mk, asA_mk, asM_mk, asSl_mk, asStr_mk, tup2_mk, tup3_mk, agg1_mk, agg2_mk, agg3_mk, agg4_mk, asAggm, unCons_mk, unNil_mk, asTup_mk, extractD0, extractD1, List.toList_toArray, nilP_mk, add_mk, Nat.zero_add, Nat.add_zero, condT, condF, Bool.not_true, Bool.not_false, Option.isNone_some, Option.isNone_none])
  refine bif_neqf rfl ?_
  (try simp only [Option.isNone, condF])
  refine stubC g7 fun H8 g8 => ?_
  (try simp only [asI_mk', asB_mk, asP_mk, asA_mk, asM_mk, asSl_mk, asStr_mk, tup2_mk, tup3_mk, agg1_mk, agg2_mk, agg3_mk, agg4_mk, asAggm, unCons_mk, unNil_mk, asTup_mk, extractD0, extractD1, List.toList_toArray, nilP_mk, add_mk, Nat.zero_add, Nat.add_zero, condT, condF, Bool.not_true, Bool.not_false, Option.isNone_some, Option.isNone_none])
  have hn0 : 0 ≤ now := hnow.1
  obtain ⟨n0, hn⟩ : ∃ n, n = Int.tmod now 1000000 := ⟨_, rfl⟩
  rw [← hn]
  have hnb : 0 ≤ n0 ∧ n0 < 1000000 := by
    rw [hn, Int.tmod_eq_emod_of_nonneg hn0]
    omega
  have hb0 : (newTr 1 0).beginE c.a0 2 7 = 0 := by
    unfold Tr.beginE
    rw [if_neg (by simp [newTr]), if_neg (by decide), if_neg (by omega), if_neg (by simp [newTr]), if_neg (by decide), if_neg (by decide), if_neg (by simp [newTr])]
  refine trBeginC g8 (k := 0) rfl (by simp only [newTr]; omega) (fun h => absurd hb0 h) fun _ H9 g9 => ?_
  have g9 : St H [TrP tb c (wt n0 0), Prt.one bc (.cells #[.int .i64 c.a0, .int .i64 c.a1, .int .i64 c.a2, .int .i64 c.a3, .int .i64 c.a4, .int .i64 c.a5, .int .i64 c.a6, .int .i64 c.a7, .int .i64 c.a8, .int .i64 c.a9, .int .i64 c.a10, .int .u64 c.a11, .int .u64 c.a12, .int .u64 c.a13, .int .u64 c.a14, .int .u64 c.a15, .int .u64 c.a16, .int .i64 c.a17, .int .i64 c.a18, .int .i64 c.a19, .int .u64 c.a20, .int .u64 c.a21] ty_api_Config (0, 0)), Prt.one br (.cells #[.int .i64 r.a0, .int .i64 r.a1, .int .i64 r.a2, .int .i64 r.a3, .int .i64 r.a4, .int .i64 r.a5, .int .i64 r.a6, .int .i64 r.a7, .int .i64 r.a8, .int .i64 r.a9, .int .i64 r.a10, .int .i64 r.a11, .int .i64 r.a12, .int .i64 r.a13, .int .i64 r.a14, .int .i64 r.a15, .int .i64 r.a16, .int .i64 r.a17, .int .i64 r.a18, .int .i64 r.a19, .int .u64 r.a20, .int .u64 r.a21] ty_hand_Raw (0, 0))] H9 := g9
  (try simp only [asI_mk', asB_mk, asP_mk, asA_mk, asM_mk, asSl_mk, asStr_mk, tup2_mk, tup3_mk, agg1_mk, agg2_mk, agg3_mk, agg4_mk, asAggm, unCons_mk, unNil_mk, asTup_mk, extractD0, extractD1, List.toList_toArray, nilP_mk, add_mk, Nat.zero_add, Nat.add_zero, condT, condF, Bool.not_true, Bool.not_false, Option.isNone_some, Option.isNone_none])
  refine bif_neqf rfl ?_
  have past0 : ∀ a s n : Int, 0 ≤ a → a ≤ n → n < 4611686018427387904 → pastB a s n = decide (n - a ≥ s) := fun a s n h1 h2 h3 => by
    unfold pastB
    rw [decide_eq_true (show n ≥ a from h2), Bool.true_and, wrap_u64' (by omega) (by omega)]
  have asks0 : ∀ a s n : Int, 0 ≤ a → a ≤ n → n < 4611686018427387904 → (wt a s).asks n = decide (n - a ≥ s) := fun a s n h1 h2 h3 => past0 a s n h1 h2 h3
  refine trStepC g9 (k := 0) rfl (fun h => absurd h (by rw [asks0 _ _ _ hnb.1 (by omega) (by omega)]; simp)) fun _ H10 g10 => ?_
  rw [wt_q]
  have hw0 : lWait 0 c.a14 c.a15 = c.a14 := by
    unfold lWait
    rw [if_pos rfl, if_neg (by omega)]
  rw [wt_told, hw0] at g10
  have g10 : St H [TrP tb c (wt n0 c.a14), Prt.one bc (.cells #[.int .i64 c.a0, .int .i64 c.a1, .int .i64 c.a2, .int .i64 c.a3, .int .i64 c.a4, .int .i64 c.a5, .int .i64 c.a6, .int .i64 c.a7, .int .i64 c.a8, .int .i64 c.a9, .int .i64 c.a10, .int .u64 c.a11, .int .u64 c.a12, .int .u64 c.a13, .int .u64 c.a14, .int .u64 c.a15, .int .u64 c.a16, .int .i64 c.a17, .int .i64 c.a18, .int .i64 c.a19, .int .u64 c.a20, .int .u64 c.a21] ty_api_Config (0, 0)), Prt.one br (.cells #[.int .i64 r.a0, .int .i64 r.a1, .int .i64 r.a2, .int .i64 r.a3, .int .i64 r.a4, .int .i64 r.a5, .int .i64 r.a6, .int .i64 r.a7, .int .i64 r.a8, .int .i64 r.a9, .int .i64 r.a10, .int .i64 r.a11, .int .i64 r.a12, .int .i64 r.a13, .int .i64 r.a14, .int .i64 r.a15, .int .i64 r.a16, .int .i64 r.a17, .int .i64 r.a18, .int .i64 r.a19, .int .u64 r.a20, .int .u64 r.a21] ty_hand_Raw (0, 0))] H10 := g10
  unfold Qn.val
  (try simp only [asI_mk', asB_mk, asP_mk, asA_mk, asM_mk, asSl_mk, asStr_mk, tup2_mk, tup3_mk, agg1_mk, agg2_mk, agg3_mk, agg4_mk, asAggm, unCons_mk, unNil_mk, asTup_mk, extractD0, extractD1, List.toList_toArray, nilP_mk, add_mk, Nat.zero_add, Nat.add_zero, condT, condF, Bool.not_true, Bool.not_false, Option.isNone_some, Option.isNone_none])
  refine boxz (c := [.int .i64 0, .int .i64 0, .int .i64 0, .int .u64 0, .int .u64 0, .int .i64 0, .int .i64 0, .int .i64 0, .int .i64 0, .int .u64 0, .slice none 0 0, .int .u64 0, .int .i64 0, .int .u64 0, .int .i64 0, .int .u64 0, .int .i64 0, .int .u64 0, .slice none 0 0]) (vs := Qn.cells wq) g10 rfl fun bq H11 g11 => ?_
  have g11 : St H [Prt.one bq (.cells (Qn.cells wq).toArray ty_api_Msg (0, 0)), TrP tb c (wt n0 c.a14), Prt.one bc (.cells #[.int .i64 c.a0, .int .i64 c.a1, .int .i64 c.a2, .int .i64 c.a3, .int .i64 c.a4, .int .i64 c.a5, .int .i64 c.a6, .int .i64 c.a7, .int .i64 c.a8, .int .i64 c.a9, .int .i64 c.a10, .int .u64 c.a11, .int .u64 c.a12, .int .u64 c.a13, .int .u64 c.a14, .int .u64 c.a15, .int .u64 c.a16, .int .i64 c.a17, .int .i64 c.a18, .int .i64 c.a19, .int .u64 c.a20, .int .u64 c.a21] ty_api_Config (0, 0)), Prt.one br (.cells #[.int .i64 r.a0, .int .i64 r.a1, .int .i64 r.a2, .int .i64 r.a3, .int .i64 r.a4, .int .i64 r.a5, .int .i64 r.a6, .int .i64 r.a7, .int .i64 r.a8, .int .i64 r.a9, .int .i64 r.a10, .int .i64 r.a11, .int .i64 r.a12, .int .i64 r.a13, .int .i64 r.a14, .int .i64 r.a15, .int .i64 r.a16, .int .i64 r.a17, .int .i64 r.a18, .int .i64 r.a19, .int .u64 r.a20, .int .u64 r.a21] ty_hand_Raw (0, 0))] H11 := g11
  refine ldI_of (g11.cell (i := 2) rfl rfl) ?_
  have hpk := @pick_lt times 8 (by decide)
  refine ⟨fun n w i H' => ∃ j : Nat, i = j ∧ j ≤ 8 ∧ (n0 ≤ n ∧ n ≤ 1000000 + 1000 * i) ∧ (1 ≤ w ∧ w ≤ c.a15) ∧ St H [Prt.one bq (.cells (Qn.cells wq).toArray ty_api_Msg (0, 0)), TrP tb c (wt n w), Prt.one bc (.cells #[.int .i64 c.a0, .int .i64 c.a1, .int .i64 c.a2, .int .i64 c.a3, .int .i64 c.a4, .int .i64 c.a5, .int .i64 c.a6, .int .i64 c.a7, .int .i64 c.a8, .int .i64 c.a9, .int .i64 c.a10, .int .u64 c.a11, .int .u64 c.a12, .int .u64 c.a13, .int .u64 c.a14, .int .u64 c.a15, .int .u64 c.a16, .int .i64 c.a17, .int .i64 c.a18, .int .i64 c.a19, .int .u64 c.a20, .int .u64 c.a21] ty_api_Config (0, 0)), Prt.one br (.cells #[.int .i64 r.a0, .int .i64 r.a1, .int .i64 r.a2, .int .i64 r.a3, .int .i64 r.a4, .int .i64 r.a5, .int .i64 r.a6, .int .i64 r.a7, .int .i64 r.a8, .int .i64 r.a9, .int .i64 r.a10, .int .i64 r.a11, .int .i64 r.a12, .int .i64 r.a13, .int .i64 r.a14, .int .i64 r.a15, .int .i64 r.a16, .int .i64 r.a17, .int .i64 r.a18, .int .i64 r.a19, .int .u64 r.a20, .int .u64 r.a21] ty_hand_Raw (0, 0))] H', fun n w i _ => (9 - i).toNat, ⟨0, rfl, by omega, by omega, by omega, g11⟩, ?_⟩
  clear g1 g2 g3 g6 g7 g8 g9 g10 g11
  rintro n w i H12 ⟨j, rfl, hj, hnn, hww, g12⟩
  refine Pick_ok (by decide) (by decide) ?_
  (try simp only [asI_mk', asB_mk, asP_mk, asA_mk, asM_mk, asSl_mk, asStr_mk, tup2_mk, tup3_mk, agg1_mk, agg2_mk, agg3_mk, agg4_mk, asAggm, unCons_mk, unNil_mk, asTup_mk, extractD0, extractD1, List.toList_toArray, nilP_mk, add_mk, Nat.zero_add, Nat.add_zero, condT, condF, Bool.not_true, Bool.not_false, Option.isNone_some, Option.isNone_none])
  by_cases hlt : (j : Int) < pick times 8
  · refine bif_pos hlt ?_
    rw [wrap_u64' (n := n + w) (by omega) (by omega), wrap_u64' (n := n + w - 1) (by omega) (by omega)]
    refine trStepC g12 (k := 1) rfl (fun _ H13 g13 => ?_) (fun h => absurd h (by rw [asks0 _ _ _ (by omega) (by omega) (by omega), decide_eq_false (by omega)]; decide))
    (try simp only [asI_mk', asB_mk, asP_mk, asA_mk, asM_mk, asSl_mk, asStr_mk, tup2_mk, tup3_mk, agg1_mk, agg2_mk, agg3_mk, agg4_mk, asAggm, unCons_mk, unNil_mk, asTup_mk, extractD0, extractD1, List.toList_toArray, nilP_mk, add_mk, Nat.zero_add, Nat.add_zero, condT, condF, Bool.not_true, Bool.not_false, Option.isNone_some, Option.isNone_none])
    refine boxz (c := [.int .i64 0, .int .i64 0, .int .i64 0, .int .u64 0, .int .u64 0, .int .i64 0, .int .i64 0, .int .i64 0, .int .i64 0, .int .u64 0, .slice none 0 0, .int .u64 0, .int .i64 0, .int .u64 0, .int .i64 0, .int .u64 0, .int .i64 0, .int .u64 0, .slice none 0 0]) (vs := [.int .i64 0, .int .i64 0, .int .i64 0, .int .u64 0, .int .u64 0, .int .i64 0, .int .i64 0, .int .i64 0, .int .i64 0, .int .u64 0, .slice none 0 0, .int .u64 0, .int .i64 0, .int .u64 0, .int .i64 0, .int .u64 0, .int .i64 0, .int .u64 0, .slice none 0 0]) g13 rfl fun bz H14 g14 => ?_
    have g14 := g14.less
    refine trStepC g14 (k := 1) rfl (fun h => absurd h (by rw [asks0 _ _ _ (by omega) (by omega) (by omega), decide_eq_true (by omega)]; decide)) fun _ H15 g15 => ?_
    rw [wt_q]
    unfold Qn.val
    (try simp only [asI_mk', asB_mk, asP_mk, asA_mk, asM_mk, asSl_mk, asStr_mk, tup2_mk, tup3_mk, agg1_mk, agg2_mk, agg3_mk, agg4_mk, asAggm, unCons_mk, unNil_mk, asTup_mk, extractD0, extractD1, List.toList_toArray, nilP_mk, add_mk, Nat.zero_add, Nat.add_zero, condT, condF, Bool.not_true, Bool.not_false, Option.isNone_some, Option.isNone_none])
    refine boxz (c := [.int .i64 0, .int .i64 0, .int .i64 0, .int .u64 0, .int .u64 0, .int .i64 0, .int .i64 0, .int .i64 0, .int .i64 0, .int .u64 0, .slice none 0 0, .int .u64 0, .int .i64 0, .int .u64 0, .int .i64 0, .int .u64 0, .int .i64 0, .int .u64 0, .slice none 0 0]) (vs := Qn.cells wq) g15 rfl fun bz2 H16 g16 => ?_
    have g16 : St H [Prt.one bz2 (.cells (Qn.cells wq).toArray ty_api_Msg (0, 0)), Prt.one bq (.cells (Qn.cells wq).toArray ty_api_Msg (0, 0)), TrP tb c (wt (n + w) (lWait w c.a14 c.a15)), Prt.one bc (.cells #[.int .i64 c.a0, .int .i64 c.a1, .int .i64 c.a2, .int .i64 c.a3, .int .i64 c.a4, .int .i64 c.a5, .int .i64 c.a6, .int .i64 c.a7, .int .i64 c.a8, .int .i64 c.a9, .int .i64 c.a10, .int .u64 c.a11, .int .u64 c.a12, .int .u64 c.a13, .int .u64 c.a14, .int .u64 c.a15, .int .u64 c.a16, .int .i64 c.a17, .int .i64 c.a18, .int .i64 c.a19, .int .u64 c.a20, .int .u64 c.a21] ty_api_Config (0, 0)), Prt.one br (.cells #[.int .i64 r.a0, .int .i64 r.a1, .int .i64 r.a2, .int .i64 r.a3, .int .i64 r.a4, .int .i64 r.a5, .int .i64 r.a6, .int .i64 r.a7, .int .i64 r.a8, .int .i64 r.a9, .int .i64 r.a10, .int .i64 r.a11, .int .i64 r.a12, .int .i64 r.a13, .int .i64 r.a14, .int .i64 r.a15, .int .i64 r.a16, .int .i64 r.a17, .int .i64 r.a18, .int .i64 r.a19, .int .u64 r.a20, .int .u64 r.a21] ty_hand_Raw (0, 0))] H16 := g16
    refine ldI_of (g16.cell (i := 0) rfl rfl) (ldI_of (g16.cell (i := 0) rfl rfl) (ldI_of (g16.cell (i := 0) rfl rfl) (ldI_of (g16.cell (i := 0) rfl rfl) (ldI_of (g16.cell (i := 0) rfl rfl) (ldI_of (g16.cell (i := 0) rfl rfl) (ldI_of (g16.cell (i := 0) rfl rfl) (ldI_of (g16.cell (i := 0) rfl rfl) (ldI_of (g16.cell (i := 0) rfl rfl) (ldI_of (g16.cell (i := 0) rfl rfl) (ldSl_of (g16.cell (i := 0) rfl rfl) (ldI_of (g16.cell (i := 0) rfl rfl) (ldI_of (g16.cell (i := 0) rfl rfl) (ldI_of (g16.cell (i := 0) rfl rfl) (ldI_of (g16.cell (i := 0) rfl rfl) (ldI_of (g16.cell (i := 0) rfl rfl) (ldI_of (g16.cell (i := 0) rfl rfl) (ldI_of (g16.cell (i := 0) rfl rfl) (ldSl_of (g16.cell (i := 0) rfl rfl) (?_)))))))))))))))))))
    refine ldI_of (g16.cell (i := 1) rfl rfl) (ldI_of (g16.cell (i := 1) rfl rfl) (ldI_of (g16.cell (i := 1) rfl rfl) (ldI_of (g16.cell (i := 1) rfl rfl) (ldI_of (g16.cell (i := 1) rfl rfl) (ldI_of (g16.cell (i := 1) rfl rfl) (ldI_of (g16.cell (i := 1) rfl rfl) (ldI_of (g16.cell (i := 1) rfl rfl) (ldI_of (g16.cell (i := 1) rfl rfl) (ldI_of (g16.cell (i := 1) rfl rfl) (ldSl_of (g16.cell (i := 1) rfl rfl) (ldI_of (g16.cell (i := 1) rfl rfl) (ldI_of (g16.cell (i := 1) rfl rfl) (ldI_of (g16.cell (i := 1) rfl rfl) (ldI_of (g16.cell (i := 1) rfl rfl) (ldI_of (g16.cell (i := 1) rfl rfl) (ldI_of (g16.cell (i := 1) rfl rfl) (ldI_of (g16.cell (i := 1) rfl rfl) (ldSl_of (g16.cell (i := 1) rfl rfl) (?_)))))))))))))))))))
    refine sameC (q := wq) g16 fun H17 g17 => ?_
    (try simp only [asI_mk', asB_mk, asP_mk, asA_mk, asM_mk, asSl_mk, asStr_mk, tup2_mk, tup3_mk, agg1_mk, agg2_mk, agg3_mk, agg4_mk, asAggm, unCons_mk, unNil_mk, asTup_mk, extractD0, extractD1, List.toList_toArray, nilP_mk, add_mk, Nat.zero_add, Nat.add_zero, condT, condF, Bool.not_true, Bool.not_false, Option.isNone_some, Option.isNone_none])
    refine ldI_of (g17.cell (i := 3) rfl rfl) ?_
    rw [lWait_is hww.1 hww.2 (by omega)] at g17
    rw [wrap_i64 (by omega) (by omega)]
    have hmw : 1 ≤ (if c.a15 < IntKind.u64.wrap (2 * w) then c.a15 else IntKind.u64.wrap (2 * w)) ∧ (if c.a15 < IntKind.u64.wrap (2 * w) then c.a15 else IntKind.u64.wrap (2 * w)) ≤ c.a15 := by
      rw [wrap_u64' (n := 2 * w) (by omega) (by omega)]
      split <;> omega
    refine ⟨⟨j + 1, by omega, by omega, by omega, hmw, g17.less⟩, by (try dsimp only); omega⟩
  · refine bif_neg hlt ?_
    refine trHearC (m := ⟨9, 1, 1, 1, 0, 1, 0, []⟩) (k := 1) g12 rfl (by omega) rfl (by decide) (fun n hn => by cases hn) (fun N M H' hot h' => rdNil) fun H13 g13 => ?_
    have e7 : (wt n w).heeds ⟨9, 1, 1, 1, 0, 1, 0, []⟩ = true := rfl
    have e8 : (wt n w).hear c.a0 ⟨9, 1, 1, 1, 0, 1, 0, []⟩ = (wt n w).over := by
      unfold Tr.hear
      rw [if_neg (by rw [e7]; decide), if_pos (show (wt n w).st = 1 from rfl)]
      rfl
    rw [e7]
    rw [e8] at g13
    (try simp only [asI_mk', asB_mk, asP_mk, asA_mk, asM_mk, asSl_mk, asStr_mk, tup2_mk, tup3_mk, agg1_mk, agg2_mk, agg3_mk, agg4_mk, asAggm, unCons_mk, unNil_mk, asTup_mk, extractD0, extractD1, List.toList_toArray, nilP_mk, add_mk, Nat.zero_add, Nat.add_zero, condT, condF, Bool.not_true, Bool.not_false, Option.isNone_some, Option.isNone_none])
    refine trStateC g13 (k := 1) rfl ?_
    (try simp only [asI_mk', asB_mk, asP_mk, asA_mk, asM_mk, asSl_mk, asStr_mk, tup2_mk, tup3_mk, agg1_mk, agg2_mk, agg3_mk, agg4_mk, asAggm, unCons_mk, unNil_mk, asTup_mk, extractD0, extractD1, List.toList_toArray, nilP_mk, add_mk, Nat.zero_add, Nat.add_zero, condT, condF, Bool.not_true, Bool.not_false, Option.isNone_some, Option.isNone_none])
    exact hK H13 g13.keep
theorem TraceWaits_ok {x : E_hand_Raw} {now times : Int} {H : Hp} {K : Value → Hp → Prop} (hx : x.ok) (hnow : IntKind.min .u64 ≤ now ∧ now ≤ IntKind.max .u64) (htm : IntKind.min .i64 ≤ times ∧ times ≤ IntKind.max .i64)
    (hK : ∀ H', Keep Nothing H H' → K (.bool true) H') : hcall PR f_law23_TraceWaits ⟨[.agg x.cells.toArray, .int .u64 now, .int .i64 times]⟩ H K :=
  TraceWaits_r (r := rawOf x) hx.Start.1 hx.Last.1 hnow htm hK

end Go.Proofs.Ytknejebggegfjaa
