/- Merged by merge.py: DenLaw26ModelOnce, Law26o. No condition. -/
import Derived.Test.YtknejebggegfjaaZNum
import Derived.Test.YtknejebggegfjaaZModelb

namespace Go.Proofs.Ytknejebggegfjaa
open Go
set_option linter.unusedVariables false
set_option maxRecDepth 100000
def B_law26_ModelOnce (rawNodes1 : Int) (rawMutators2 : Int) (rawSlots3 : Int) (rawCells4 : Int) (rawObjects5 : Int) (rawStubs6 : Int) (rawCalls7 : Int) (rawWindow8 : Int) (rawGrey9 : Int) (rawBag10 : Int) (rawInbox11 : Int) (rawUnit12 : Int) (rawDrift13 : Int) (rawLease14 : Int) (rawWait15 : Int) (rawMost16 : Int) (rawPatience17 : Int) (rawSuspect18 : Int) (rawTrace19 : Int) (rawWork20 : Int) (rawStart21 : Int) (rawLast22 : Int) (fromx23 : Int) (to24 : Int) (field25 : Int) (H : Hp) (K : Value → Hp → Prop) : Prop :=
 newB (.cells #[(.int .i64 rawNodes1), (.int .i64 rawMutators2), (.int .i64 rawSlots3), (.int .i64 rawCells4), (.int .i64 rawObjects5), (.int .i64 rawStubs6), (.int .i64 rawCalls7), (.int .i64 rawWindow8), (.int .i64 rawGrey9), (.int .i64 rawBag10), (.int .i64 rawInbox11), (.int .i64 rawUnit12), (.int .i64 rawDrift13), (.int .i64 rawLease14), (.int .i64 rawWait15), (.int .i64 rawMost16), (.int .i64 rawPatience17), (.int .i64 rawSuspect18), (.int .i64 rawTrace19), (.int .i64 rawWork20), (.int .u64 rawStart21), (.int .u64 rawLast22)] ty_hand_Raw) H fun b26 Hx27 =>
 ldI .i64 ⟨b26, 0, none⟩ Hx27 fun Nodes28 =>
 ldI .i64 ⟨b26, 1, none⟩ Hx27 fun Mutators29 =>
 ldI .i64 ⟨b26, 2, none⟩ Hx27 fun Slots30 =>
 ldI .i64 ⟨b26, 3, none⟩ Hx27 fun Cells31 =>
 ldI .i64 ⟨b26, 4, none⟩ Hx27 fun Objects32 =>
 ldI .i64 ⟨b26, 5, none⟩ Hx27 fun Stubs33 =>
 ldI .i64 ⟨b26, 6, none⟩ Hx27 fun Calls34 =>
 ldI .i64 ⟨b26, 7, none⟩ Hx27 fun Window35 =>
 ldI .i64 ⟨b26, 8, none⟩ Hx27 fun Grey36 =>
 ldI .i64 ⟨b26, 9, none⟩ Hx27 fun Bag37 =>
 ldI .i64 ⟨b26, 10, none⟩ Hx27 fun Inbox38 =>
 ldI .i64 ⟨b26, 11, none⟩ Hx27 fun Unit39 =>
 ldI .i64 ⟨b26, 12, none⟩ Hx27 fun Drift40 =>
 ldI .i64 ⟨b26, 13, none⟩ Hx27 fun Lease41 =>
 ldI .i64 ⟨b26, 14, none⟩ Hx27 fun Wait42 =>
 ldI .i64 ⟨b26, 15, none⟩ Hx27 fun Most43 =>
 ldI .i64 ⟨b26, 16, none⟩ Hx27 fun Patience44 =>
 ldI .i64 ⟨b26, 17, none⟩ Hx27 fun Suspect45 =>
 ldI .i64 ⟨b26, 18, none⟩ Hx27 fun Trace46 =>
 ldI .i64 ⟨b26, 19, none⟩ Hx27 fun Work47 =>
 ldI .u64 ⟨b26, 20, none⟩ Hx27 fun Start48 =>
 ldI .u64 ⟨b26, 21, none⟩ Hx27 fun Last49 =>
 hcall PR f_hand_Config ⟨[(.agg #[(.int .i64 Nodes28), (.int .i64 Mutators29), (.int .i64 Slots30), (.int .i64 Cells31), (.int .i64 Objects32), (.int .i64 Stubs33), (.int .i64 Calls34), (.int .i64 Window35), (.int .i64 Grey36), (.int .i64 Bag37), (.int .i64 Inbox38), (.int .i64 Unit39), (.int .i64 Drift40), (.int .i64 Lease41), (.int .i64 Wait42), (.int .i64 Most43), (.int .i64 Patience44), (.int .i64 Suspect45), (.int .i64 Trace46), (.int .i64 Work47), (.int .u64 Start48), (.int .u64 Last49)])]⟩ Hx27 fun v50 Hx51 =>
 asAgg' v50 fun cs52 =>
 unCons cs52.toList fun v53 r54 =>
 unCons r54 fun v55 r56 =>
 unCons r56 fun v57 r58 =>
 unCons r58 fun v59 r60 =>
 unCons r60 fun v61 r62 =>
 unCons r62 fun v63 r64 =>
 unCons r64 fun v65 r66 =>
 unCons r66 fun v67 r68 =>
 unCons r68 fun v69 r70 =>
 unCons r70 fun v71 r72 =>
 unCons r72 fun v73 r74 =>
 unCons r74 fun v75 r76 =>
 unCons r76 fun v77 r78 =>
 unCons r78 fun v79 r80 =>
 unCons r80 fun v81 r82 =>
 unCons r82 fun v83 r84 =>
 unCons r84 fun v85 r86 =>
 unCons r86 fun v87 r88 =>
 unCons r88 fun v89 r90 =>
 unCons r90 fun v91 r92 =>
 unCons r92 fun v93 r94 =>
 unCons r94 fun v95 r96 =>
 unNil r96 <|
 asI .i64 v53 fun Nodes97 =>
 asI .i64 v55 fun Mutators98 =>
 asI .i64 v57 fun Slots99 =>
 asI .i64 v59 fun Cells100 =>
 asI .i64 v61 fun Objects101 =>
 asI .i64 v63 fun Stubs102 =>
 asI .i64 v65 fun Calls103 =>
 asI .i64 v67 fun Window104 =>
 asI .i64 v69 fun Grey105 =>
 asI .i64 v71 fun Bag106 =>
 asI .i64 v73 fun Inbox107 =>
 asI .u64 v75 fun Unit108 =>
 asI .u64 v77 fun Drift109 =>
 asI .u64 v79 fun Lease110 =>
 asI .u64 v81 fun Wait111 =>
 asI .u64 v83 fun Most112 =>
 asI .u64 v85 fun Patience113 =>
 asI .i64 v87 fun Suspect114 =>
 asI .i64 v89 fun Trace115 =>
 asI .i64 v91 fun Work116 =>
 asI .u64 v93 fun Start117 =>
 asI .u64 v95 fun Last118 =>
 newB (.cells #[(.int .i64 0), (.int .i64 0), (.int .i64 0), (.int .i64 0), (.int .i64 0), (.int .i64 0), (.int .i64 0), (.int .i64 0), (.int .i64 0), (.int .i64 0), (.int .i64 0), (.int .u64 0), (.int .u64 0), (.int .u64 0), (.int .u64 0), (.int .u64 0), (.int .u64 0), (.int .i64 0), (.int .i64 0), (.int .i64 0), (.int .u64 0), (.int .u64 0)] ty_api_Config) Hx51 fun b119 Hx120 =>
 st ⟨b119, 0, none⟩ (.int .i64 Nodes97) Hx120 fun Hx121 =>
 st ⟨b119, 1, none⟩ (.int .i64 Mutators98) Hx121 fun Hx122 =>
 st ⟨b119, 2, none⟩ (.int .i64 Slots99) Hx122 fun Hx123 =>
 st ⟨b119, 3, none⟩ (.int .i64 Cells100) Hx123 fun Hx124 =>
 st ⟨b119, 4, none⟩ (.int .i64 Objects101) Hx124 fun Hx125 =>
 st ⟨b119, 5, none⟩ (.int .i64 Stubs102) Hx125 fun Hx126 =>
 st ⟨b119, 6, none⟩ (.int .i64 Calls103) Hx126 fun Hx127 =>
 st ⟨b119, 7, none⟩ (.int .i64 Window104) Hx127 fun Hx128 =>
 st ⟨b119, 8, none⟩ (.int .i64 Grey105) Hx128 fun Hx129 =>
 st ⟨b119, 9, none⟩ (.int .i64 Bag106) Hx129 fun Hx130 =>
 st ⟨b119, 10, none⟩ (.int .i64 Inbox107) Hx130 fun Hx131 =>
 st ⟨b119, 11, none⟩ (.int .u64 Unit108) Hx131 fun Hx132 =>
 st ⟨b119, 12, none⟩ (.int .u64 Drift109) Hx132 fun Hx133 =>
 st ⟨b119, 13, none⟩ (.int .u64 Lease110) Hx133 fun Hx134 =>
 st ⟨b119, 14, none⟩ (.int .u64 Wait111) Hx134 fun Hx135 =>
 st ⟨b119, 15, none⟩ (.int .u64 Most112) Hx135 fun Hx136 =>
 st ⟨b119, 16, none⟩ (.int .u64 Patience113) Hx136 fun Hx137 =>
 st ⟨b119, 17, none⟩ (.int .i64 Suspect114) Hx137 fun Hx138 =>
 st ⟨b119, 18, none⟩ (.int .i64 Trace115) Hx138 fun Hx139 =>
 st ⟨b119, 19, none⟩ (.int .i64 Work116) Hx139 fun Hx140 =>
 st ⟨b119, 20, none⟩ (.int .u64 Start117) Hx140 fun Hx141 =>
 st ⟨b119, 21, none⟩ (.int .u64 Last118) Hx141 fun Hx142 =>
 ldI .i64 ⟨b119, 0, none⟩ Hx142 fun Nodes143 =>
 ldI .i64 ⟨b119, 1, none⟩ Hx142 fun Mutators144 =>
 ldI .i64 ⟨b119, 2, none⟩ Hx142 fun Slots145 =>
 ldI .i64 ⟨b119, 3, none⟩ Hx142 fun Cells146 =>
 ldI .i64 ⟨b119, 4, none⟩ Hx142 fun Objects147 =>
 ldI .i64 ⟨b119, 5, none⟩ Hx142 fun Stubs148 =>
 ldI .i64 ⟨b119, 6, none⟩ Hx142 fun Calls149 =>
 ldI .i64 ⟨b119, 7, none⟩ Hx142 fun Window150 =>
 ldI .i64 ⟨b119, 8, none⟩ Hx142 fun Grey151 =>
 ldI .i64 ⟨b119, 9, none⟩ Hx142 fun Bag152 =>
 ldI .i64 ⟨b119, 10, none⟩ Hx142 fun Inbox153 =>
 ldI .u64 ⟨b119, 11, none⟩ Hx142 fun Unit154 =>
 ldI .u64 ⟨b119, 12, none⟩ Hx142 fun Drift155 =>
 ldI .u64 ⟨b119, 13, none⟩ Hx142 fun Lease156 =>
 ldI .u64 ⟨b119, 14, none⟩ Hx142 fun Wait157 =>
 ldI .u64 ⟨b119, 15, none⟩ Hx142 fun Most158 =>
 ldI .u64 ⟨b119, 16, none⟩ Hx142 fun Patience159 =>
 ldI .i64 ⟨b119, 17, none⟩ Hx142 fun Suspect160 =>
 ldI .i64 ⟨b119, 18, none⟩ Hx142 fun Trace161 =>
 ldI .i64 ⟨b119, 19, none⟩ Hx142 fun Work162 =>
 ldI .u64 ⟨b119, 20, none⟩ Hx142 fun Start163 =>
 ldI .u64 ⟨b119, 21, none⟩ Hx142 fun Last164 =>
 hcall PR f_model_New ⟨[(.agg #[(.int .i64 Nodes143), (.int .i64 Mutators144), (.int .i64 Slots145), (.int .i64 Cells146), (.int .i64 Objects147), (.int .i64 Stubs148), (.int .i64 Calls149), (.int .i64 Window150), (.int .i64 Grey151), (.int .i64 Bag152), (.int .i64 Inbox153), (.int .u64 Unit154), (.int .u64 Drift155), (.int .u64 Lease156), (.int .u64 Wait157), (.int .u64 Most158), (.int .u64 Patience159), (.int .i64 Suspect160), (.int .i64 Trace161), (.int .i64 Work162), (.int .u64 Start163), (.int .u64 Last164)])]⟩ Hx142 fun v165 Hx166 =>
 tup2 v165 fun v167 v168 =>
 asP v167 fun t169 =>
 asI .i64 v168 fun t170 =>
 hcall PR f_law26_known ⟨[]⟩ Hx166 fun v171 Hx172 =>
 asB v171 fun t173 =>
 (bif (!t173) then
 K (.bool false) Hx172
else
 (bif ((t170 : Int) != 0) then
 K (.bool false) Hx172
else
 (bif (Option.isNone (α := Addr) t169) then
 K (.bool false) Hx172
else
 ldI .i64 ⟨b119, 0, none⟩ Hx172 fun Nodes174 =>
 hcall PR f_hand_Pick ⟨[(.int .i64 fromx23), (.int .i64 Nodes174)]⟩ Hx172 fun v175 Hx176 =>
 asI .i64 v175 fun t177 =>
 ldI .i64 ⟨b119, 0, none⟩ Hx176 fun Nodes178 =>
 hcall PR f_hand_Pick ⟨[(.int .i64 to24), (.int .i64 Nodes178)]⟩ Hx176 fun v179 Hx180 =>
 asI .i64 v179 fun t181 =>
 ∀ R182 : Int → Hp → Prop, (∀ to184 : Int, ∀ Hx183 : Hp, (
 hcall PR f_hand_Pick ⟨[(.int .i64 field25), (.int .i64 8)]⟩ Hx183 fun v185 Hx186 =>
 asI .i64 v185 fun t187 =>
 ldI .u64 ⟨b119, 21, none⟩ Hx186 fun Last188 =>
 ldI .u64 ⟨b119, 21, none⟩ Hx186 fun Last189 =>
 newB (.cells #[(.int .i64 to184), (.int .u64 (IntKind.u64.wrap (Last189 + 1)))] ty_api_ID) Hx186 fun b190 Hx191 =>
 newB (.cells #[(.int .i64 0), (.int .u64 0), (.int .i64 0), (.int .i64 0), (.int .i64 0), (.int .u64 0), (.slice none 0 0), (.int .u64 0), (.int .i64 0), (.int .i64 0), (.slice none 0 0), (.int .u64 0), (.int .u64 0), (.int .u64 0)] ty_api_Served) Hx191 fun b192 Hx193 =>
 st ⟨b192, 0, none⟩ (.int .i64 (IntKind.i64.wrap (1 + t177))) Hx193 fun Hx194 =>
 st ⟨b192, 1, none⟩ (.int .u64 (IntKind.u64.wrap (Last188 + 1))) Hx194 fun Hx195 =>
 st ⟨b192, 2, none⟩ (.int .i64 1) Hx195 fun Hx196 =>
 st ⟨b192, 3, none⟩ (.int .i64 t187) Hx196 fun Hx197 =>
 st ⟨b192, 4, none⟩ (.int .i64 0) Hx197 fun Hx198 =>
 st ⟨b192, 5, none⟩ (.int .u64 0) Hx198 fun Hx199 =>
 st ⟨b192, 6, none⟩ (.slice none 0 0) Hx199 fun Hx200 =>
 st ⟨b192, 7, none⟩ (.int .u64 0) Hx200 fun Hx201 =>
 st ⟨b192, 8, none⟩ (.int .i64 2) Hx201 fun Hx202 =>
 st ⟨b192, 9, none⟩ (.int .i64 0) Hx202 fun Hx203 =>
 st ⟨b192, 10, none⟩ (.slice (some ⟨b190, 0, none⟩) 1 1) Hx203 fun Hx204 =>
 st ⟨b192, 11, none⟩ (.int .u64 0) Hx204 fun Hx205 =>
 st ⟨b192, 12, none⟩ (.int .u64 0) Hx205 fun Hx206 =>
 st ⟨b192, 13, none⟩ (.int .u64 0) Hx206 fun Hx207 =>
 newB (.cells #[(.int .i64 0), (.int .i64 0), (.int .i64 0), (.int .i64 0), (.int .i64 0), (.int .i64 0), (.int .i64 0), (.int .i64 0), (.int .i64 0), (.int .i64 0), (.int .i64 0), (.int .u64 0), (.int .u64 0), (.slice none 0 0), (.slice none 0 0)] ty_world_Event) Hx207 fun b208 Hx209 =>
 st ⟨b208, 0, none⟩ (.int .i64 7) Hx209 fun Hx210 =>
 st ⟨b208, 1, none⟩ (.int .i64 to184) Hx210 fun Hx211 =>
 st ⟨b208, 2, none⟩ (.int .i64 0) Hx211 fun Hx212 =>
 st ⟨b208, 3, none⟩ (.int .i64 0) Hx212 fun Hx213 =>
 st ⟨b208, 4, none⟩ (.int .i64 0) Hx213 fun Hx214 =>
 st ⟨b208, 5, none⟩ (.int .i64 0) Hx214 fun Hx215 =>
 st ⟨b208, 6, none⟩ (.int .i64 0) Hx215 fun Hx216 =>
 st ⟨b208, 7, none⟩ (.int .i64 0) Hx216 fun Hx217 =>
 st ⟨b208, 8, none⟩ (.int .i64 0) Hx217 fun Hx218 =>
 st ⟨b208, 9, none⟩ (.int .i64 0) Hx218 fun Hx219 =>
 st ⟨b208, 10, none⟩ (.int .i64 0) Hx219 fun Hx220 =>
 st ⟨b208, 11, none⟩ (.int .u64 0) Hx220 fun Hx221 =>
 st ⟨b208, 12, none⟩ (.int .u64 0) Hx221 fun Hx222 =>
 st ⟨b208, 13, none⟩ (.slice none 0 0) Hx222 fun Hx223 =>
 st ⟨b208, 14, none⟩ (.slice none 0 0) Hx223 fun Hx224 =>
 ldI .i64 ⟨b119, 0, none⟩ Hx224 fun Nodes225 =>
 ldI .i64 ⟨b119, 1, none⟩ Hx224 fun Mutators226 =>
 ldI .i64 ⟨b119, 2, none⟩ Hx224 fun Slots227 =>
 ldI .i64 ⟨b119, 3, none⟩ Hx224 fun Cells228 =>
 ldI .i64 ⟨b119, 4, none⟩ Hx224 fun Objects229 =>
 ldI .i64 ⟨b119, 5, none⟩ Hx224 fun Stubs230 =>
 ldI .i64 ⟨b119, 6, none⟩ Hx224 fun Calls231 =>
 ldI .i64 ⟨b119, 7, none⟩ Hx224 fun Window232 =>
 ldI .i64 ⟨b119, 8, none⟩ Hx224 fun Grey233 =>
 ldI .i64 ⟨b119, 9, none⟩ Hx224 fun Bag234 =>
 ldI .i64 ⟨b119, 10, none⟩ Hx224 fun Inbox235 =>
 ldI .u64 ⟨b119, 11, none⟩ Hx224 fun Unit236 =>
 ldI .u64 ⟨b119, 12, none⟩ Hx224 fun Drift237 =>
 ldI .u64 ⟨b119, 13, none⟩ Hx224 fun Lease238 =>
 ldI .u64 ⟨b119, 14, none⟩ Hx224 fun Wait239 =>
 ldI .u64 ⟨b119, 15, none⟩ Hx224 fun Most240 =>
 ldI .u64 ⟨b119, 16, none⟩ Hx224 fun Patience241 =>
 ldI .i64 ⟨b119, 17, none⟩ Hx224 fun Suspect242 =>
 ldI .i64 ⟨b119, 18, none⟩ Hx224 fun Trace243 =>
 ldI .i64 ⟨b119, 19, none⟩ Hx224 fun Work244 =>
 ldI .u64 ⟨b119, 20, none⟩ Hx224 fun Start245 =>
 ldI .u64 ⟨b119, 21, none⟩ Hx224 fun Last246 =>
 hcall PR f_model_New ⟨[(.agg #[(.int .i64 Nodes225), (.int .i64 Mutators226), (.int .i64 Slots227), (.int .i64 Cells228), (.int .i64 Objects229), (.int .i64 Stubs230), (.int .i64 Calls231), (.int .i64 Window232), (.int .i64 Grey233), (.int .i64 Bag234), (.int .i64 Inbox235), (.int .u64 Unit236), (.int .u64 Drift237), (.int .u64 Lease238), (.int .u64 Wait239), (.int .u64 Most240), (.int .u64 Patience241), (.int .i64 Suspect242), (.int .i64 Trace243), (.int .i64 Work244), (.int .u64 Start245), (.int .u64 Last246)])]⟩ Hx224 fun v247 Hx248 =>
 tup2 v247 fun v249 v250 =>
 asP v249 fun t251 =>
 asI .i64 v250 fun t252 =>
 (bif ((t252 : Int) != 0) then
 K (.bool false) Hx248
else
 (bif (Option.isNone (α := Addr) t251) then
 K (.bool false) Hx248
else
 ldI .i64 ⟨b208, 0, none⟩ Hx248 fun Kind253 =>
 ldI .i64 ⟨b208, 1, none⟩ Hx248 fun Node254 =>
 ldI .i64 ⟨b208, 2, none⟩ Hx248 fun M255 =>
 ldI .i64 ⟨b208, 3, none⟩ Hx248 fun Kx256 =>
 ldI .i64 ⟨b208, 4, none⟩ Hx248 fun Kind257 =>
 ldI .i64 ⟨b208, 5, none⟩ Hx248 fun A258 =>
 ldI .i64 ⟨b208, 6, none⟩ Hx248 fun B259 =>
 ldI .i64 ⟨b208, 7, none⟩ Hx248 fun Field260 =>
 ldI .i64 ⟨b208, 8, none⟩ Hx248 fun Refs261 =>
 ldI .i64 ⟨b208, 9, none⟩ Hx248 fun Vals262 =>
 ldI .i64 ⟨b208, 10, none⟩ Hx248 fun To263 =>
 ldI .u64 ⟨b208, 11, none⟩ Hx248 fun Value264 =>
 ldI .u64 ⟨b208, 12, none⟩ Hx248 fun Num265 =>
 ldSl ⟨b208, 13, none⟩ Hx248 fun ByP266 ByL267 ByC268 =>
 ldSl ⟨b208, 14, none⟩ Hx248 fun BytesP269 BytesL270 BytesC271 =>
 ldI .i64 ⟨b192, 0, none⟩ Hx248 fun From272 =>
 ldI .u64 ⟨b192, 1, none⟩ Hx248 fun Num273 =>
 ldI .i64 ⟨b192, 2, none⟩ Hx248 fun Op274 =>
 ldI .i64 ⟨b192, 3, none⟩ Hx248 fun Field275 =>
 ldI .i64 ⟨b192, 4, none⟩ Hx248 fun Node276 =>
 ldI .u64 ⟨b192, 5, none⟩ Hx248 fun Serial277 =>
 ldSl ⟨b192, 6, none⟩ Hx248 fun RefsP278 RefsL279 RefsC280 =>
 ldI .u64 ⟨b192, 7, none⟩ Hx248 fun Value281 =>
 ldI .i64 ⟨b192, 8, none⟩ Hx248 fun State282 =>
 ldI .i64 ⟨b192, 9, none⟩ Hx248 fun Code283 =>
 ldSl ⟨b192, 10, none⟩ Hx248 fun ResultP284 ResultL285 ResultC286 =>
 ldI .u64 ⟨b192, 11, none⟩ Hx248 fun Back287 =>
 ldI .u64 ⟨b192, 12, none⟩ Hx248 fun Sent288 =>
 ldI .u64 ⟨b192, 13, none⟩ Hx248 fun Wait289 =>
 newB (.cells #[(.int .i64 From272), (.int .u64 Num273), (.int .i64 Op274), (.int .i64 Field275), (.int .i64 Node276), (.int .u64 Serial277), (.slice RefsP278 RefsL279 RefsC280), (.int .u64 Value281), (.int .i64 State282), (.int .i64 Code283), (.slice ResultP284 ResultL285 ResultC286), (.int .u64 Back287), (.int .u64 Sent288), (.int .u64 Wait289)] ty_api_Served) Hx248 fun b290 Hx291 =>
 hcall PR f_model_Model_See ⟨[(.pointer t251), (.agg #[(.int .i64 Kind253), (.int .i64 Node254), (.int .i64 M255), (.int .i64 Kx256), (.int .i64 Kind257), (.int .i64 A258), (.int .i64 B259), (.int .i64 Field260), (.int .i64 Refs261), (.int .i64 Vals262), (.int .i64 To263), (.int .u64 Value264), (.int .u64 Num265), (.slice ByP266 ByL267 ByC268), (.slice BytesP269 BytesL270 BytesC271)]), (.agg #[(.int .i64 0), (.int .i64 0), (.int .i64 0), (.int .u64 0), (.int .u64 0), (.int .i64 0), (.int .u64 0), (.slice none 0 0), (.slice (some ⟨b290, 0, none⟩) 1 1), (.int .i64 0), (.int .i64 0), (.bool false)])]⟩ Hx291 fun v292 Hx293 =>
 asB v292 fun t294 =>
 (bif t294 then
 K (.bool false) Hx293
else
 hcall PR f_model_Model_See ⟨[(.pointer t169), (.agg #[(.int .i64 1), (.int .i64 (IntKind.i64.wrap (1 + t177))), (.int .i64 0), (.int .i64 0), (.int .i64 9), (.int .i64 0), (.int .i64 0), (.int .i64 0), (.int .i64 t187), (.int .i64 0), (.int .i64 to184), (.int .u64 0), (.int .u64 0), (.slice none 0 0), (.slice none 0 0)]), (.agg #[(.int .i64 0), (.int .i64 0), (.int .i64 0), (.int .u64 0), (.int .u64 0), (.int .i64 to184), (.int .u64 (IntKind.u64.wrap (Last188 + 1))), (.slice none 0 0), (.slice none 0 0), (.int .i64 0), (.int .i64 0), (.bool false)])]⟩ Hx293 fun v295 Hx296 =>
 asB v295 fun t297 =>
 (bif (!t297) then
 K (.bool false) Hx296
else
 ldI .i64 ⟨b208, 0, none⟩ Hx296 fun Kind298 =>
 ldI .i64 ⟨b208, 1, none⟩ Hx296 fun Node299 =>
 ldI .i64 ⟨b208, 2, none⟩ Hx296 fun M300 =>
 ldI .i64 ⟨b208, 3, none⟩ Hx296 fun Kx301 =>
 ldI .i64 ⟨b208, 4, none⟩ Hx296 fun Kind302 =>
 ldI .i64 ⟨b208, 5, none⟩ Hx296 fun A303 =>
 ldI .i64 ⟨b208, 6, none⟩ Hx296 fun B304 =>
 ldI .i64 ⟨b208, 7, none⟩ Hx296 fun Field305 =>
 ldI .i64 ⟨b208, 8, none⟩ Hx296 fun Refs306 =>
 ldI .i64 ⟨b208, 9, none⟩ Hx296 fun Vals307 =>
 ldI .i64 ⟨b208, 10, none⟩ Hx296 fun To308 =>
 ldI .u64 ⟨b208, 11, none⟩ Hx296 fun Value309 =>
 ldI .u64 ⟨b208, 12, none⟩ Hx296 fun Num310 =>
 ldSl ⟨b208, 13, none⟩ Hx296 fun ByP311 ByL312 ByC313 =>
 ldSl ⟨b208, 14, none⟩ Hx296 fun BytesP314 BytesL315 BytesC316 =>
 ldI .i64 ⟨b192, 0, none⟩ Hx296 fun From317 =>
 ldI .u64 ⟨b192, 1, none⟩ Hx296 fun Num318 =>
 ldI .i64 ⟨b192, 2, none⟩ Hx296 fun Op319 =>
 ldI .i64 ⟨b192, 3, none⟩ Hx296 fun Field320 =>
 ldI .i64 ⟨b192, 4, none⟩ Hx296 fun Node321 =>
 ldI .u64 ⟨b192, 5, none⟩ Hx296 fun Serial322 =>
 ldSl ⟨b192, 6, none⟩ Hx296 fun RefsP323 RefsL324 RefsC325 =>
 ldI .u64 ⟨b192, 7, none⟩ Hx296 fun Value326 =>
 ldI .i64 ⟨b192, 8, none⟩ Hx296 fun State327 =>
 ldI .i64 ⟨b192, 9, none⟩ Hx296 fun Code328 =>
 ldSl ⟨b192, 10, none⟩ Hx296 fun ResultP329 ResultL330 ResultC331 =>
 ldI .u64 ⟨b192, 11, none⟩ Hx296 fun Back332 =>
 ldI .u64 ⟨b192, 12, none⟩ Hx296 fun Sent333 =>
 ldI .u64 ⟨b192, 13, none⟩ Hx296 fun Wait334 =>
 newB (.cells #[(.int .i64 From317), (.int .u64 Num318), (.int .i64 Op319), (.int .i64 Field320), (.int .i64 Node321), (.int .u64 Serial322), (.slice RefsP323 RefsL324 RefsC325), (.int .u64 Value326), (.int .i64 State327), (.int .i64 Code328), (.slice ResultP329 ResultL330 ResultC331), (.int .u64 Back332), (.int .u64 Sent333), (.int .u64 Wait334)] ty_api_Served) Hx296 fun b335 Hx336 =>
 hcall PR f_model_Model_See ⟨[(.pointer t169), (.agg #[(.int .i64 Kind298), (.int .i64 Node299), (.int .i64 M300), (.int .i64 Kx301), (.int .i64 Kind302), (.int .i64 A303), (.int .i64 B304), (.int .i64 Field305), (.int .i64 Refs306), (.int .i64 Vals307), (.int .i64 To308), (.int .u64 Value309), (.int .u64 Num310), (.slice ByP311 ByL312 ByC313), (.slice BytesP314 BytesL315 BytesC316)]), (.agg #[(.int .i64 0), (.int .i64 0), (.int .i64 0), (.int .u64 0), (.int .u64 0), (.int .i64 0), (.int .u64 0), (.slice none 0 0), (.slice (some ⟨b335, 0, none⟩) 1 1), (.int .i64 0), (.int .i64 0), (.bool false)])]⟩ Hx336 fun v337 Hx338 =>
 asB v337 fun t339 =>
 (bif (!t339) then
 K (.bool false) Hx338
else
 ldI .u64 ⟨b119, 21, none⟩ Hx338 fun Last340 =>
 hcall PR f_model_Model_Object ⟨[(.pointer t169), (.agg #[(.int .i64 to184), (.int .u64 (IntKind.u64.wrap (Last340 + 1)))])]⟩ Hx338 fun v341 Hx342 =>
 tup2 v341 fun v343 v344 =>
 asAgg' v343 fun cs345 =>
 unCons cs345.toList fun v346 r347 =>
 unCons r347 fun v348 r349 =>
 unCons r349 fun v350 r351 =>
 unCons r351 fun v352 r353 =>
 unCons r353 fun v354 r355 =>
 unNil r355 <|
 asI .u64 v346 fun Serial356 =>
 asI .i64 v348 fun Cell357 =>
 asSl v350 fun RefsP358 RefsL359 RefsC360 =>
 asSl v352 fun ValsP361 ValsL362 ValsC363 =>
 asI .i64 v354 fun In364 =>
 asB v344 fun t365 =>
 newB (.cells #[(.int .u64 0), (.int .i64 0), (.slice none 0 0), (.slice none 0 0), (.int .i64 0)] ty_api_Object) Hx342 fun b366 Hx367 =>
 st ⟨b366, 0, none⟩ (.int .u64 Serial356) Hx367 fun Hx368 =>
 st ⟨b366, 1, none⟩ (.int .i64 Cell357) Hx368 fun Hx369 =>
 st ⟨b366, 2, none⟩ (.slice RefsP358 RefsL359 RefsC360) Hx369 fun Hx370 =>
 st ⟨b366, 3, none⟩ (.slice ValsP361 ValsL362 ValsC363) Hx370 fun Hx371 =>
 st ⟨b366, 4, none⟩ (.int .i64 In364) Hx371 fun Hx372 =>
 ldSl ⟨b192, 10, none⟩ Hx372 fun ResultP373 ResultL374 ResultC375 =>
 idxA ResultP373 ResultL374 0 2 fun el376 =>
 ldI .u64 (el376.add 1) Hx372 fun Serial377 =>
 idxA ResultP373 ResultL374 0 2 fun el378 =>
 st (el378.add 1) (.int .u64 (IntKind.u64.wrap (Serial377 + 1))) Hx372 fun Hx379 =>
 (bif t365 then
 ldSl ⟨b366, 2, none⟩ Hx379 fun RefsP380 RefsL381 RefsC382 =>
 (bif (((RefsL381 : Int) : Int) == t187) then
 ldI .i64 ⟨b208, 0, none⟩ Hx379 fun Kind383 =>
 ldI .i64 ⟨b208, 1, none⟩ Hx379 fun Node384 =>
 ldI .i64 ⟨b208, 2, none⟩ Hx379 fun M385 =>
 ldI .i64 ⟨b208, 3, none⟩ Hx379 fun Kx386 =>
 ldI .i64 ⟨b208, 4, none⟩ Hx379 fun Kind387 =>
 ldI .i64 ⟨b208, 5, none⟩ Hx379 fun A388 =>
 ldI .i64 ⟨b208, 6, none⟩ Hx379 fun B389 =>
 ldI .i64 ⟨b208, 7, none⟩ Hx379 fun Field390 =>
 ldI .i64 ⟨b208, 8, none⟩ Hx379 fun Refs391 =>
 ldI .i64 ⟨b208, 9, none⟩ Hx379 fun Vals392 =>
 ldI .i64 ⟨b208, 10, none⟩ Hx379 fun To393 =>
 ldI .u64 ⟨b208, 11, none⟩ Hx379 fun Value394 =>
 ldI .u64 ⟨b208, 12, none⟩ Hx379 fun Num395 =>
 ldSl ⟨b208, 13, none⟩ Hx379 fun ByP396 ByL397 ByC398 =>
 ldSl ⟨b208, 14, none⟩ Hx379 fun BytesP399 BytesL400 BytesC401 =>
 ldI .i64 ⟨b192, 0, none⟩ Hx379 fun From402 =>
 ldI .u64 ⟨b192, 1, none⟩ Hx379 fun Num403 =>
 ldI .i64 ⟨b192, 2, none⟩ Hx379 fun Op404 =>
 ldI .i64 ⟨b192, 3, none⟩ Hx379 fun Field405 =>
 ldI .i64 ⟨b192, 4, none⟩ Hx379 fun Node406 =>
 ldI .u64 ⟨b192, 5, none⟩ Hx379 fun Serial407 =>
 ldSl ⟨b192, 6, none⟩ Hx379 fun RefsP408 RefsL409 RefsC410 =>
 ldI .u64 ⟨b192, 7, none⟩ Hx379 fun Value411 =>
 ldI .i64 ⟨b192, 8, none⟩ Hx379 fun State412 =>
 ldI .i64 ⟨b192, 9, none⟩ Hx379 fun Code413 =>
 ldSl ⟨b192, 10, none⟩ Hx379 fun ResultP414 ResultL415 ResultC416 =>
 ldI .u64 ⟨b192, 11, none⟩ Hx379 fun Back417 =>
 ldI .u64 ⟨b192, 12, none⟩ Hx379 fun Sent418 =>
 ldI .u64 ⟨b192, 13, none⟩ Hx379 fun Wait419 =>
 newB (.cells #[(.int .i64 From402), (.int .u64 Num403), (.int .i64 Op404), (.int .i64 Field405), (.int .i64 Node406), (.int .u64 Serial407), (.slice RefsP408 RefsL409 RefsC410), (.int .u64 Value411), (.int .i64 State412), (.int .i64 Code413), (.slice ResultP414 ResultL415 ResultC416), (.int .u64 Back417), (.int .u64 Sent418), (.int .u64 Wait419)] ty_api_Served) Hx379 fun b420 Hx421 =>
 hcall PR f_model_Model_See ⟨[(.pointer t169), (.agg #[(.int .i64 Kind383), (.int .i64 Node384), (.int .i64 M385), (.int .i64 Kx386), (.int .i64 Kind387), (.int .i64 A388), (.int .i64 B389), (.int .i64 Field390), (.int .i64 Refs391), (.int .i64 Vals392), (.int .i64 To393), (.int .u64 Value394), (.int .u64 Num395), (.slice ByP396 ByL397 ByC398), (.slice BytesP399 BytesL400 BytesC401)]), (.agg #[(.int .i64 0), (.int .i64 0), (.int .i64 0), (.int .u64 0), (.int .u64 0), (.int .i64 0), (.int .u64 0), (.slice none 0 0), (.slice (some ⟨b420, 0, none⟩) 1 1), (.int .i64 0), (.int .i64 0), (.bool false)])]⟩ Hx421 fun v422 Hx423 =>
 asB v422 fun t424 =>
 K (.bool (!t424)) Hx423
else
 K (.bool false) Hx379)
else
 K (.bool false) Hx379))))))) → R182 to184 Hx183) →
 (bif (((IntKind.i64.wrap (1 + t177)) : Int) == (IntKind.i64.wrap (1 + t181))) then
 ldI .i64 ⟨b119, 0, none⟩ Hx180 fun Nodes425 =>
 (Nodes425 : Int) ≠ 0 ∧
 R182 (IntKind.i64.wrap (1 + (Int.tmod (IntKind.i64.wrap (1 + t177)) Nodes425))) Hx180
else
 R182 (IntKind.i64.wrap (1 + t181)) Hx180))))
theorem E_law26_ModelOnce (rawNodes1 : Int) (rawMutators2 : Int) (rawSlots3 : Int) (rawCells4 : Int) (rawObjects5 : Int) (rawStubs6 : Int) (rawCalls7 : Int) (rawWindow8 : Int) (rawGrey9 : Int) (rawBag10 : Int) (rawInbox11 : Int) (rawUnit12 : Int) (rawDrift13 : Int) (rawLease14 : Int) (rawWait15 : Int) (rawMost16 : Int) (rawPatience17 : Int) (rawSuspect18 : Int) (rawTrace19 : Int) (rawWork20 : Int) (rawStart21 : Int) (rawLast22 : Int) (fromx23 : Int) (to24 : Int) (field25 : Int) (H : Hp) (K : Value → Hp → Prop) : B_law26_ModelOnce rawNodes1 rawMutators2 rawSlots3 rawCells4 rawObjects5 rawStubs6 rawCalls7 rawWindow8 rawGrey9 rawBag10 rawInbox11 rawUnit12 rawDrift13 rawLease14 rawWait15 rawMost16 rawPatience17 rawSuspect18 rawTrace19 rawWork20 rawStart21 rawLast22 fromx23 to24 field25 H K = denF Try.prog Try.f3 (.seq none .n (.seq none .n (.seq none .n (.seq none .n (.seq none .n (.seq none .n (.seq (some ⟨[(2, .int .i64)], [1, 3, 9, 10]⟩) .n .n))))))) [(.agg #[(.int .i64 rawNodes1), (.int .i64 rawMutators2), (.int .i64 rawSlots3), (.int .i64 rawCells4), (.int .i64 rawObjects5), (.int .i64 rawStubs6), (.int .i64 rawCalls7), (.int .i64 rawWindow8), (.int .i64 rawGrey9), (.int .i64 rawBag10), (.int .i64 rawInbox11), (.int .i64 rawUnit12), (.int .i64 rawDrift13), (.int .i64 rawLease14), (.int .i64 rawWait15), (.int .i64 rawMost16), (.int .i64 rawPatience17), (.int .i64 rawSuspect18), (.int .i64 rawTrace19), (.int .i64 rawWork20), (.int .u64 rawStart21), (.int .u64 rawLast22)]), (.int .i64 fromx23), (.int .i64 to24), (.int .i64 field25)] H K := by kernel_rfl
theorem den_law26_ModelOnce {rawNodes1 : Int} {rawMutators2 : Int} {rawSlots3 : Int} {rawCells4 : Int} {rawObjects5 : Int} {rawStubs6 : Int} {rawCalls7 : Int} {rawWindow8 : Int} {rawGrey9 : Int} {rawBag10 : Int} {rawInbox11 : Int} {rawUnit12 : Int} {rawDrift13 : Int} {rawLease14 : Int} {rawWait15 : Int} {rawMost16 : Int} {rawPatience17 : Int} {rawSuspect18 : Int} {rawTrace19 : Int} {rawWork20 : Int} {rawStart21 : Int} {rawLast22 : Int} {fromx23 : Int} {to24 : Int} {field25 : Int} {H : Hp} {K : Value → Hp → Prop} (h : B_law26_ModelOnce rawNodes1 rawMutators2 rawSlots3 rawCells4 rawObjects5 rawStubs6 rawCalls7 rawWindow8 rawGrey9 rawBag10 rawInbox11 rawUnit12 rawDrift13 rawLease14 rawWait15 rawMost16 rawPatience17 rawSuspect18 rawTrace19 rawWork20 rawStart21 rawLast22 fromx23 to24 field25 H K) : hcall PR f_law26_ModelOnce ⟨[(.agg #[(.int .i64 rawNodes1), (.int .i64 rawMutators2), (.int .i64 rawSlots3), (.int .i64 rawCells4), (.int .i64 rawObjects5), (.int .i64 rawStubs6), (.int .i64 rawCalls7), (.int .i64 rawWindow8), (.int .i64 rawGrey9), (.int .i64 rawBag10), (.int .i64 rawInbox11), (.int .i64 rawUnit12), (.int .i64 rawDrift13), (.int .i64 rawLease14), (.int .i64 rawWait15), (.int .i64 rawMost16), (.int .i64 rawPatience17), (.int .i64 rawSuspect18), (.int .i64 rawTrace19), (.int .i64 rawWork20), (.int .u64 rawStart21), (.int .u64 rawLast22)]), (.int .i64 fromx23), (.int .i64 to24), (.int .i64 field25)]⟩ H K := denF_call Try.func3 PR_mixed (Eq.mp (E_law26_ModelOnce rawNodes1 rawMutators2 rawSlots3 rawCells4 rawObjects5 rawStubs6 rawCalls7 rawWindow8 rawGrey9 rawBag10 rawInbox11 rawUnit12 rawDrift13 rawLease14 rawWait15 rawMost16 rawPatience17 rawSuspect18 rawTrace19 rawWork20 rawStart21 rawLast22 fromx23 to24 field25 H K) h)

end Go.Proofs.Ytknejebggegfjaa

namespace Go.Proofs.Ytknejebggegfjaa
set_option linter.unusedSimpArgs false
set_option linter.unusedVariables false
set_option maxRecDepth 20000
open Go
set_option maxHeartbeats 8000000 in
theorem ModelOnce_r {r : Cf} {fx tx vx : Int} {H : Hp} {K : Value → Hp → Prop} (h20 : 0 ≤ r.a20) (h21 : 0 ≤ r.a21) (hK : ∀ H', Keep Nothing H H' → K (.bool true) H') : hcall PR f_law26_ModelOnce ⟨[r.raw, .int .i64 fx, .int .i64 tx, .int .i64 vx]⟩ H K := by
  apply den_law26_ModelOnce
  unfold B_law26_ModelOnce
  intro b26 hb26
  have g1 := (St.start H).alloc (o := .cells #[.int .i64 r.a0, .int .i64 r.a1, .int .i64 r.a2, .int .i64 r.a3, .int .i64 r.a4, .int .i64 r.a5, .int .i64 r.a6, .int .i64 r.a7, .int .i64 r.a8, .int .i64 r.a9, .int .i64 r.a10, .int .i64 r.a11, .int .i64 r.a12, .int .i64 r.a13, .int .i64 r.a14, .int .i64 r.a15, .int .i64 r.a16, .int .i64 r.a17, .int .i64 r.a18, .int .i64 r.a19, .int .u64 r.a20, .int .u64 r.a21] ty_hand_Raw) hb26
  (repeat first | refine ldI_of (g1.cell (i := 0) rfl rfl) ?_ | refine ldSl_of (g1.cell (i := 0) rfl rfl) ?_ | refine ldP_of (g1.cell (i := 0) rfl rfl) ?_ | refine ldB_of (g1.cell (i := 0) rfl rfl) ?_ | refine ldM_of (g1.cell (i := 0) rfl rfl) ?_)
  have hg : (confOf r).good := conf_good h20 h21
  refine configC (r := r) g1 fun H2 g2 => ?_
  obtain ⟨c, hc⟩ : ∃ c, c = confOf r := ⟨_, rfl⟩
  rw [← hc] at hg ⊢
  unfold Cf.val
  (try simp (config := { maxSteps := 3000000 }) only [asI_mk', asB_mk, asP_mk, asA_mk, asM_mk, asSl_mk, asStr_mk, tup2_mk, tup3_mk, agg1_mk, agg2_mk, agg3_mk, agg4_mk, asAggm, unCons_mk, unNil_mk, asTup_mk, extractD0, extractD1, List.toList_toArray, nilP_mk, add_mk, Nat.zero_add, Nat.add_zero, condT, condF, Bool.not_true, Bool.not_false, Option.isNone_some, Option.isNone_none])
  have h0 := hg.a0; have h1 := hg.a1; have hla := hg.a21
  have ew : IntKind.u64.wrap (c.a21 + 1) = c.a21 + 1 := wrap_u64' (by omega) (by omega)
  refine boxz (c := [.int .i64 0, .int .i64 0, .int .i64 0, .int .i64 0, .int .i64 0, .int .i64 0, .int .i64 0, .int .i64 0, .int .i64 0, .int .i64 0, .int .i64 0, .int .u64 0, .int .u64 0, .int .u64 0, .int .u64 0, .int .u64 0, .int .u64 0, .int .i64 0, .int .i64 0, .int .i64 0, .int .u64 0, .int .u64 0]) (vs := [.int .i64 c.a0, .int .i64 c.a1, .int .i64 c.a2, .int .i64 c.a3, .int .i64 c.a4, .int .i64 c.a5, .int .i64 c.a6, .int .i64 c.a7, .int .i64 c.a8, .int .i64 c.a9, .int .i64 c.a10, .int .u64 c.a11, .int .u64 c.a12, .int .u64 c.a13, .int .u64 c.a14, .int .u64 c.a15, .int .u64 c.a16, .int .i64 c.a17, .int .i64 c.a18, .int .i64 c.a19, .int .u64 c.a20, .int .u64 c.a21]) g2 rfl fun b119 H3 g3 => ?_
  (repeat first | refine ldI_of (g3.cell (i := 0) rfl rfl) ?_ | refine ldSl_of (g3.cell (i := 0) rfl rfl) ?_ | refine ldP_of (g3.cell (i := 0) rfl rfl) ?_ | refine ldB_of (g3.cell (i := 0) rfl rfl) ?_ | refine ldM_of (g3.cell (i := 0) rfl rfl) ?_)
  refine mNewC hg g3 fun x1 m1 H4 hf1 hn1 g4 => ?_
  have g4 : St H (mdL c x1 m1 ++ [Prt.one b119 (.cells #[.int .i64 c.a0, .int .i64 c.a1, .int .i64 c.a2, .int .i64 c.a3, .int .i64 c.a4, .int .i64 c.a5, .int .i64 c.a6, .int .i64 c.a7, .int .i64 c.a8, .int .i64 c.a9, .int .i64 c.a10, .int .u64 c.a11, .int .u64 c.a12, .int .u64 c.a13, .int .u64 c.a14, .int .u64 c.a15, .int .u64 c.a16, .int .i64 c.a17, .int .i64 c.a18, .int .i64 c.a19, .int .u64 c.a20, .int .u64 c.a21] ty_api_Config (0, 0)), Prt.one b26 (.cells #[.int .i64 r.a0, .int .i64 r.a1, .int .i64 r.a2, .int .i64 r.a3, .int .i64 r.a4, .int .i64 r.a5, .int .i64 r.a6, .int .i64 r.a7, .int .i64 r.a8, .int .i64 r.a9, .int .i64 r.a10, .int .i64 r.a11, .int .i64 r.a12, .int .i64 r.a13, .int .i64 r.a14, .int .i64 r.a15, .int .i64 r.a16, .int .i64 r.a17, .int .i64 r.a18, .int .i64 r.a19, .int .u64 r.a20, .int .u64 r.a21] ty_hand_Raw (0, 0))]) H4 := g4
  refine tup2J (asPI (asI_mk ?_))
  refine known26C g4 fun H5 g5 => ?_
  refine asBI ?_
  clear g1 g2 g3 g4
  refine ldI_of (g5.cell (i := 7) rfl rfl) (Pick_ok (by omega) (by omega) (asI_mk ?_))
  refine ldI_of (g5.cell (i := 7) rfl rfl) (Pick_ok (by omega) (by omega) (asI_mk ?_))
  have hp1 := @pick_lt fx c.a0 (by omega)
  have hp2 := @pick_lt tx c.a0 (by omega)
  intro R182 hR182
  obtain ⟨fr, hfr⟩ : ∃ fr, fr = IntKind.i64.wrap (1 + pick fx c.a0) := ⟨_, rfl⟩
  obtain ⟨to, hto⟩ : ∃ to, to = IntKind.i64.wrap (1 + pick tx c.a0) := ⟨_, rfl⟩
  rw [← hfr] at hR182
  rw [← hfr, ← hto]
  rw [wrap_i64 (by omega) (by omega)] at hfr hto
  have hm1 := hf1.ok hg hn1
  have hd1 := hf1.nod
  have hQ182 : ∀ t : Int, 1 ≤ t ∧ t ≤ c.a0 → t ≠ fr → R182 t H5 := fun t ht htf => by
    refine hR182 t H5 ?_
    clear hR182
    refine Pick_ok (by decide) (by decide) (asI_mk ?_)
    have hp3 := @pick_lt vx 8 (by decide)
    obtain ⟨rr, hrr, hrl⟩ : ∃ rr : Nat, pick vx 8 = (rr : Int) ∧ rr < 8 := ⟨(pick vx 8).toNat, by omega, by omega⟩
    rw [hrr]
    refine ldI_of (g5.cell (i := 7) rfl rfl) (ldI_of (g5.cell (i := 7) rfl rfl) ?_)
    rw [ew]
    intro b190 hb190
    have g6 := St.alloc (o := .cells #[.int .i64 t, .int .u64 (c.a21 + 1)] ty_api_ID) g5 hb190
    refine boxz (c := [.int .i64 0, .int .u64 0, .int .i64 0, .int .i64 0, .int .i64 0, .int .u64 0, .slice none 0 0, .int .u64 0, .int .i64 0, .int .i64 0, .slice none 0 0, .int .u64 0, .int .u64 0, .int .u64 0]) (vs := [.int .i64 fr, .int .u64 (c.a21 + 1), .int .i64 1, .int .i64 (rr : Int), .int .i64 0, .int .u64 0, .slice none 0 0, .int .u64 0, .int .i64 2, .int .i64 0, .slice (some ⟨b190, 0, none⟩) 1 1, .int .u64 0, .int .u64 0, .int .u64 0]) g6 rfl fun b192 H7 g7 => ?_
    refine boxz (c := [.int .i64 0, .int .i64 0, .int .i64 0, .int .i64 0, .int .i64 0, .int .i64 0, .int .i64 0, .int .i64 0, .int .i64 0, .int .i64 0, .int .i64 0, .int .u64 0, .int .u64 0, .slice none 0 0, .slice none 0 0]) (vs := [.int .i64 7, .int .i64 t, .int .i64 0, .int .i64 0, .int .i64 0, .int .i64 0, .int .i64 0, .int .i64 0, .int .i64 0, .int .i64 0, .int .i64 0, .int .u64 0, .int .u64 0, .slice none 0 0, .slice none 0 0]) g7 rfl fun b208 H8 g8 => ?_
    have g8 : St H ([Prt.one b208 (.cells #[.int .i64 7, .int .i64 t, .int .i64 0, .int .i64 0, .int .i64 0, .int .i64 0, .int .i64 0, .int .i64 0, .int .i64 0, .int .i64 0, .int .i64 0, .int .u64 0, .int .u64 0, .slice none 0 0, .slice none 0 0] ty_world_Event (0, 0)), Prt.one b192 (.cells #[.int .i64 fr, .int .u64 (c.a21 + 1), .int .i64 1, .int .i64 (rr : Int), .int .i64 0, .int .u64 0, .slice none 0 0, .int .u64 0, .int .i64 2, .int .i64 0, .slice (some ⟨b190, 0, none⟩) 1 1, .int .u64 0, .int .u64 0, .int .u64 0] ty_api_Served (0, 0)), Prt.one b190 (.cells #[.int .i64 t, .int .u64 (c.a21 + 1)] ty_api_ID (0, 0))] ++ (mdL c x1 m1 ++ [Prt.one b119 (.cells #[.int .i64 c.a0, .int .i64 c.a1, .int .i64 c.a2, .int .i64 c.a3, .int .i64 c.a4, .int .i64 c.a5, .int .i64 c.a6, .int .i64 c.a7, .int .i64 c.a8, .int .i64 c.a9, .int .i64 c.a10, .int .u64 c.a11, .int .u64 c.a12, .int .u64 c.a13, .int .u64 c.a14, .int .u64 c.a15, .int .u64 c.a16, .int .i64 c.a17, .int .i64 c.a18, .int .i64 c.a19, .int .u64 c.a20, .int .u64 c.a21] ty_api_Config (0, 0)), Prt.one b26 (.cells #[.int .i64 r.a0, .int .i64 r.a1, .int .i64 r.a2, .int .i64 r.a3, .int .i64 r.a4, .int .i64 r.a5, .int .i64 r.a6, .int .i64 r.a7, .int .i64 r.a8, .int .i64 r.a9, .int .i64 r.a10, .int .i64 r.a11, .int .i64 r.a12, .int .i64 r.a13, .int .i64 r.a14, .int .i64 r.a15, .int .i64 r.a16, .int .i64 r.a17, .int .i64 r.a18, .int .i64 r.a19, .int .u64 r.a20, .int .u64 r.a21] ty_hand_Raw (0, 0))])) H8 := g8
    clear g5 g6 g7
    (repeat first | refine ldI_of (g8.cell (i := 10) rfl rfl) ?_ | refine ldSl_of (g8.cell (i := 10) rfl rfl) ?_ | refine ldP_of (g8.cell (i := 10) rfl rfl) ?_ | refine ldB_of (g8.cell (i := 10) rfl rfl) ?_ | refine ldM_of (g8.cell (i := 10) rfl rfl) ?_ | refine ldI_of (g8.cell (i := 11) rfl rfl) ?_ | refine ldSl_of (g8.cell (i := 11) rfl rfl) ?_ | refine ldP_of (g8.cell (i := 11) rfl rfl) ?_ | refine ldB_of (g8.cell (i := 11) rfl rfl) ?_ | refine ldM_of (g8.cell (i := 11) rfl rfl) ?_)
    refine mNewC hg g8 fun x2 m2 H9 hf2 hn2 g9 => ?_
    refine tup2J (asPI (asI_mk ?_))
    (repeat first | refine ldI_of (g9.cell (i := 7) rfl rfl) ?_ | refine ldSl_of (g9.cell (i := 7) rfl rfl) ?_ | refine ldP_of (g9.cell (i := 7) rfl rfl) ?_ | refine ldB_of (g9.cell (i := 7) rfl rfl) ?_ | refine ldM_of (g9.cell (i := 7) rfl rfl) ?_ | refine ldI_of (g9.cell (i := 8) rfl rfl) ?_ | refine ldSl_of (g9.cell (i := 8) rfl rfl) ?_ | refine ldP_of (g9.cell (i := 8) rfl rfl) ?_ | refine ldB_of (g9.cell (i := 8) rfl rfl) ?_ | refine ldM_of (g9.cell (i := 8) rfl rfl) ?_)
    intro b290 hb290
    have g10 := St.alloc (o := .cells #[.int .i64 fr, .int .u64 (c.a21 + 1), .int .i64 1, .int .i64 (rr : Int), .int .i64 0, .int .u64 0, .slice none 0 0, .int .u64 0, .int .i64 2, .int .i64 0, .slice (some ⟨b190, 0, none⟩) 1 1, .int .u64 0, .int .u64 0, .int .u64 0] ty_api_Served) g9 hb290
    have g10 : St H ([Prt.one b290 (.cells #[.int .i64 fr, .int .u64 (c.a21 + 1), .int .i64 1, .int .i64 (rr : Int), .int .i64 0, .int .u64 0, .slice none 0 0, .int .u64 0, .int .i64 2, .int .i64 0, .slice (some ⟨b190, 0, none⟩) 1 1, .int .u64 0, .int .u64 0, .int .u64 0] ty_api_Served (0, 0))] ++ (mdL c x2 m2 ++ ([Prt.one b208 (.cells #[.int .i64 7, .int .i64 t, .int .i64 0, .int .i64 0, .int .i64 0, .int .i64 0, .int .i64 0, .int .i64 0, .int .i64 0, .int .i64 0, .int .i64 0, .int .u64 0, .int .u64 0, .slice none 0 0, .slice none 0 0] ty_world_Event (0, 0)), Prt.one b192 (.cells #[.int .i64 fr, .int .u64 (c.a21 + 1), .int .i64 1, .int .i64 (rr : Int), .int .i64 0, .int .u64 0, .slice none 0 0, .int .u64 0, .int .i64 2, .int .i64 0, .slice (some ⟨b190, 0, none⟩) 1 1, .int .u64 0, .int .u64 0, .int .u64 0] ty_api_Served (0, 0)), Prt.one b190 (.cells #[.int .i64 t, .int .u64 (c.a21 + 1)] ty_api_ID (0, 0))] ++ (mdL c x1 m1 ++ [Prt.one b119 (.cells #[.int .i64 c.a0, .int .i64 c.a1, .int .i64 c.a2, .int .i64 c.a3, .int .i64 c.a4, .int .i64 c.a5, .int .i64 c.a6, .int .i64 c.a7, .int .i64 c.a8, .int .i64 c.a9, .int .i64 c.a10, .int .u64 c.a11, .int .u64 c.a12, .int .u64 c.a13, .int .u64 c.a14, .int .u64 c.a15, .int .u64 c.a16, .int .i64 c.a17, .int .i64 c.a18, .int .i64 c.a19, .int .u64 c.a20, .int .u64 c.a21] ty_api_Config (0, 0)), Prt.one b26 (.cells #[.int .i64 r.a0, .int .i64 r.a1, .int .i64 r.a2, .int .i64 r.a3, .int .i64 r.a4, .int .i64 r.a5, .int .i64 r.a6, .int .i64 r.a7, .int .i64 r.a8, .int .i64 r.a9, .int .i64 r.a10, .int .i64 r.a11, .int .i64 r.a12, .int .i64 r.a13, .int .i64 r.a14, .int .i64 r.a15, .int .i64 r.a16, .int .i64 r.a17, .int .i64 r.a18, .int .i64 r.a19, .int .u64 r.a20, .int .u64 r.a21] ty_hand_Raw (0, 0))])))) _ := g10
    refine seeServeC (n := t) (f := fr) (u := c.a21 + 1) (r := (rr : Int)) (db := b290) (rp := some ⟨b190, 0, none⟩) (j := 0) hg ht (St.swapL g10) rfl fun N1 H11 hN1 g11 => ?_
    refine servedNone (f := fr) (u := c.a21 + 1) hf2.nod (by rw [hf2.ca]; rfl) g11 fun H12 g12 => asBI ?_
    refine asBI ?_
    have g13 := St.lesses (M := [_]) (St.lesses (M := N1) (St.lesses (M := mdL c x2 m2) g12))
    have g13 : St H (mdL c x1 m1 ++ ([Prt.one b208 (.cells #[.int .i64 7, .int .i64 t, .int .i64 0, .int .i64 0, .int .i64 0, .int .i64 0, .int .i64 0, .int .i64 0, .int .i64 0, .int .i64 0, .int .i64 0, .int .u64 0, .int .u64 0, .slice none 0 0, .slice none 0 0] ty_world_Event (0, 0)), Prt.one b192 (.cells #[.int .i64 fr, .int .u64 (c.a21 + 1), .int .i64 1, .int .i64 (rr : Int), .int .i64 0, .int .u64 0, .slice none 0 0, .int .u64 0, .int .i64 2, .int .i64 0, .slice (some ⟨b190, 0, none⟩) 1 1, .int .u64 0, .int .u64 0, .int .u64 0] ty_api_Served (0, 0)), Prt.one b190 (.cells #[.int .i64 t, .int .u64 (c.a21 + 1)] ty_api_ID (0, 0))] ++ [Prt.one b119 (.cells #[.int .i64 c.a0, .int .i64 c.a1, .int .i64 c.a2, .int .i64 c.a3, .int .i64 c.a4, .int .i64 c.a5, .int .i64 c.a6, .int .i64 c.a7, .int .i64 c.a8, .int .i64 c.a9, .int .i64 c.a10, .int .u64 c.a11, .int .u64 c.a12, .int .u64 c.a13, .int .u64 c.a14, .int .u64 c.a15, .int .u64 c.a16, .int .i64 c.a17, .int .i64 c.a18, .int .i64 c.a19, .int .u64 c.a20, .int .u64 c.a21] ty_api_Config (0, 0)), Prt.one b26 (.cells #[.int .i64 r.a0, .int .i64 r.a1, .int .i64 r.a2, .int .i64 r.a3, .int .i64 r.a4, .int .i64 r.a5, .int .i64 r.a6, .int .i64 r.a7, .int .i64 r.a8, .int .i64 r.a9, .int .i64 r.a10, .int .i64 r.a11, .int .i64 r.a12, .int .i64 r.a13, .int .i64 r.a14, .int .i64 r.a15, .int .i64 r.a16, .int .i64 r.a17, .int .i64 r.a18, .int .i64 r.a19, .int .u64 r.a20, .int .u64 r.a21] ty_hand_Raw (0, 0))])) H12 := St.swapL g13
    clear g8 g9 g10 g11 g12
    refine bif_off rfl ?_
    refine seeDoC (n := fr) (k2 := 9) (b := 0) (r := (rr : Int)) (t := t) (a1 := 0) (a2 := 0) (a3 := 0) (a4 := t) (a5 := c.a21 + 1) hg (by omega) g13 fun N2 H14 hN2 g14 => ?_
    refine doesCallC (n := fr) (r := (rr : Int)) (t := t) hm1 hd1 hg (by omega) (by omega) ht htf (by rw [hf1.nu]; rfl) hla g14 fun cb H15 g15 => asBI (asBI ?_)
    obtain ⟨m3, hm3⟩ : ∃ m3 : Md, m3 = { m1 with nu := mput m1.nu (fr, t) (c.a21 + 1), ca := mput m1.ca ⟨fr, t, c.a21 + 1⟩ cb } := ⟨_, rfl⟩
    rw [← hm3] at g15
    have hmo3 : m3.ok c := by rw [hm3]; exact ⟨hm1.la, hm1.sl, hm1.mu, hm1.ro⟩
    have hmd3 : m3.nod := by rw [hm3]; exact ⟨hd1.al, mput_nod hd1.ca _ _, mput_nod hd1.nu _ _⟩
    have hca3 : mlook m3.ca ⟨fr, t, c.a21 + 1⟩ = some cb := by rw [hm3]; show mlook (mput m1.ca ⟨fr, t, c.a21 + 1⟩ cb) ⟨fr, t, c.a21 + 1⟩ = some cb; rw [mlook_mput, if_pos rfl]
    have hla3 : m3.la.getD (t - 1).toNat 0 < c.a21 + 1 := by
      rw [hm3]
      show m1.la.getD (t - 1).toNat 0 < c.a21 + 1
      rw [hf1.la, List.getD_eq_getElem?_getD, List.getElem?_replicate, if_pos (by omega)]
      show c.a21 < c.a21 + 1
      omega
    have g16 := St.lesses (M := N2) (St.swapL g15)
    have g16 : St H ([Prt.one cb (.cells #[.int .i64 1, .int .i64 (rr : Int), .int .i64 0, .int .u64 0, .slice none 0 0, .int .u64 0, .bool false, .bool false, .int .i64 0, .int .u64 0, .slice none 0 0] ty_model_call (0, 0))] ++ (mdL c x1 m3 ++ ([Prt.one b208 (.cells #[.int .i64 7, .int .i64 t, .int .i64 0, .int .i64 0, .int .i64 0, .int .i64 0, .int .i64 0, .int .i64 0, .int .i64 0, .int .i64 0, .int .i64 0, .int .u64 0, .int .u64 0, .slice none 0 0, .slice none 0 0] ty_world_Event (0, 0)), Prt.one b192 (.cells #[.int .i64 fr, .int .u64 (c.a21 + 1), .int .i64 1, .int .i64 (rr : Int), .int .i64 0, .int .u64 0, .slice none 0 0, .int .u64 0, .int .i64 2, .int .i64 0, .slice (some ⟨b190, 0, none⟩) 1 1, .int .u64 0, .int .u64 0, .int .u64 0] ty_api_Served (0, 0)), Prt.one b190 (.cells #[.int .i64 t, .int .u64 (c.a21 + 1)] ty_api_ID (0, 0))] ++ [Prt.one b119 (.cells #[.int .i64 c.a0, .int .i64 c.a1, .int .i64 c.a2, .int .i64 c.a3, .int .i64 c.a4, .int .i64 c.a5, .int .i64 c.a6, .int .i64 c.a7, .int .i64 c.a8, .int .i64 c.a9, .int .i64 c.a10, .int .u64 c.a11, .int .u64 c.a12, .int .u64 c.a13, .int .u64 c.a14, .int .u64 c.a15, .int .u64 c.a16, .int .i64 c.a17, .int .i64 c.a18, .int .i64 c.a19, .int .u64 c.a20, .int .u64 c.a21] ty_api_Config (0, 0)), Prt.one b26 (.cells #[.int .i64 r.a0, .int .i64 r.a1, .int .i64 r.a2, .int .i64 r.a3, .int .i64 r.a4, .int .i64 r.a5, .int .i64 r.a6, .int .i64 r.a7, .int .i64 r.a8, .int .i64 r.a9, .int .i64 r.a10, .int .i64 r.a11, .int .i64 r.a12, .int .i64 r.a13, .int .i64 r.a14, .int .i64 r.a15, .int .i64 r.a16, .int .i64 r.a17, .int .i64 r.a18, .int .i64 r.a19, .int .u64 r.a20, .int .u64 r.a21] ty_hand_Raw (0, 0))]))) H15 := g16
    clear g13 g14 g15
    (repeat first | refine ldI_of (g16.cell (i := 8) rfl rfl) ?_ | refine ldSl_of (g16.cell (i := 8) rfl rfl) ?_ | refine ldP_of (g16.cell (i := 8) rfl rfl) ?_ | refine ldB_of (g16.cell (i := 8) rfl rfl) ?_ | refine ldM_of (g16.cell (i := 8) rfl rfl) ?_ | refine ldI_of (g16.cell (i := 9) rfl rfl) ?_ | refine ldSl_of (g16.cell (i := 9) rfl rfl) ?_ | refine ldP_of (g16.cell (i := 9) rfl rfl) ?_ | refine ldB_of (g16.cell (i := 9) rfl rfl) ?_ | refine ldM_of (g16.cell (i := 9) rfl rfl) ?_)
    intro b335 hb335
    have g17 := St.alloc (o := .cells #[.int .i64 fr, .int .u64 (c.a21 + 1), .int .i64 1, .int .i64 (rr : Int), .int .i64 0, .int .u64 0, .slice none 0 0, .int .u64 0, .int .i64 2, .int .i64 0, .slice (some ⟨b190, 0, none⟩) 1 1, .int .u64 0, .int .u64 0, .int .u64 0] ty_api_Served) g16 hb335
    have g17 : St H ([Prt.one b335 (.cells #[.int .i64 fr, .int .u64 (c.a21 + 1), .int .i64 1, .int .i64 (rr : Int), .int .i64 0, .int .u64 0, .slice none 0 0, .int .u64 0, .int .i64 2, .int .i64 0, .slice (some ⟨b190, 0, none⟩) 1 1, .int .u64 0, .int .u64 0, .int .u64 0] ty_api_Served (0, 0)), Prt.one cb (.cells #[.int .i64 1, .int .i64 (rr : Int), .int .i64 0, .int .u64 0, .slice none 0 0, .int .u64 0, .bool false, .bool false, .int .i64 0, .int .u64 0, .slice none 0 0] ty_model_call (0, 0))] ++ (mdL c x1 m3 ++ ([Prt.one b208 (.cells #[.int .i64 7, .int .i64 t, .int .i64 0, .int .i64 0, .int .i64 0, .int .i64 0, .int .i64 0, .int .i64 0, .int .i64 0, .int .i64 0, .int .i64 0, .int .u64 0, .int .u64 0, .slice none 0 0, .slice none 0 0] ty_world_Event (0, 0)), Prt.one b192 (.cells #[.int .i64 fr, .int .u64 (c.a21 + 1), .int .i64 1, .int .i64 (rr : Int), .int .i64 0, .int .u64 0, .slice none 0 0, .int .u64 0, .int .i64 2, .int .i64 0, .slice (some ⟨b190, 0, none⟩) 1 1, .int .u64 0, .int .u64 0, .int .u64 0] ty_api_Served (0, 0)), Prt.one b190 (.cells #[.int .i64 t, .int .u64 (c.a21 + 1)] ty_api_ID (0, 0))] ++ [Prt.one b119 (.cells #[.int .i64 c.a0, .int .i64 c.a1, .int .i64 c.a2, .int .i64 c.a3, .int .i64 c.a4, .int .i64 c.a5, .int .i64 c.a6, .int .i64 c.a7, .int .i64 c.a8, .int .i64 c.a9, .int .i64 c.a10, .int .u64 c.a11, .int .u64 c.a12, .int .u64 c.a13, .int .u64 c.a14, .int .u64 c.a15, .int .u64 c.a16, .int .i64 c.a17, .int .i64 c.a18, .int .i64 c.a19, .int .u64 c.a20, .int .u64 c.a21] ty_api_Config (0, 0)), Prt.one b26 (.cells #[.int .i64 r.a0, .int .i64 r.a1, .int .i64 r.a2, .int .i64 r.a3, .int .i64 r.a4, .int .i64 r.a5, .int .i64 r.a6, .int .i64 r.a7, .int .i64 r.a8, .int .i64 r.a9, .int .i64 r.a10, .int .i64 r.a11, .int .i64 r.a12, .int .i64 r.a13, .int .i64 r.a14, .int .i64 r.a15, .int .i64 r.a16, .int .i64 r.a17, .int .i64 r.a18, .int .i64 r.a19, .int .u64 r.a20, .int .u64 r.a21] ty_hand_Raw (0, 0))]))) _ := g17
    refine seeServeC (n := t) (f := fr) (u := c.a21 + 1) (r := (rr : Int)) (db := b335) (rp := some ⟨b190, 0, none⟩) (j := 0) hg ht (St.swapL g17) rfl fun N3 H18 hN3 g18 => ?_
    have g19 := St.lesses (M := N3) (St.swapL g18)
    have g19 := St.swapL (N := mdL c x1 m3) (A := [Prt.one b335 (.cells #[.int .i64 fr, .int .u64 (c.a21 + 1), .int .i64 1, .int .i64 (rr : Int), .int .i64 0, .int .u64 0, .slice none 0 0, .int .u64 0, .int .i64 2, .int .i64 0, .slice (some ⟨b190, 0, none⟩) 1 1, .int .u64 0, .int .u64 0, .int .u64 0] ty_api_Served (0, 0)), Prt.one cb (.cells #[.int .i64 1, .int .i64 (rr : Int), .int .i64 0, .int .u64 0, .slice none 0 0, .int .u64 0, .bool false, .bool false, .int .i64 0, .int .u64 0, .slice none 0 0] ty_model_call (0, 0))]) (M := ([Prt.one b208 (.cells #[.int .i64 7, .int .i64 t, .int .i64 0, .int .i64 0, .int .i64 0, .int .i64 0, .int .i64 0, .int .i64 0, .int .i64 0, .int .i64 0, .int .i64 0, .int .u64 0, .int .u64 0, .slice none 0 0, .slice none 0 0] ty_world_Event (0, 0)), Prt.one b192 (.cells #[.int .i64 fr, .int .u64 (c.a21 + 1), .int .i64 1, .int .i64 (rr : Int), .int .i64 0, .int .u64 0, .slice none 0 0, .int .u64 0, .int .i64 2, .int .i64 0, .slice (some ⟨b190, 0, none⟩) 1 1, .int .u64 0, .int .u64 0, .int .u64 0] ty_api_Served (0, 0)), Prt.one b190 (.cells #[.int .i64 t, .int .u64 (c.a21 + 1)] ty_api_ID (0, 0))] ++ [Prt.one b119 (.cells #[.int .i64 c.a0, .int .i64 c.a1, .int .i64 c.a2, .int .i64 c.a3, .int .i64 c.a4, .int .i64 c.a5, .int .i64 c.a6, .int .i64 c.a7, .int .i64 c.a8, .int .i64 c.a9, .int .i64 c.a10, .int .u64 c.a11, .int .u64 c.a12, .int .u64 c.a13, .int .u64 c.a14, .int .u64 c.a15, .int .u64 c.a16, .int .i64 c.a17, .int .i64 c.a18, .int .i64 c.a19, .int .u64 c.a20, .int .u64 c.a21] ty_api_Config (0, 0)), Prt.one b26 (.cells #[.int .i64 r.a0, .int .i64 r.a1, .int .i64 r.a2, .int .i64 r.a3, .int .i64 r.a4, .int .i64 r.a5, .int .i64 r.a6, .int .i64 r.a7, .int .i64 r.a8, .int .i64 r.a9, .int .i64 r.a10, .int .i64 r.a11, .int .i64 r.a12, .int .i64 r.a13, .int .i64 r.a14, .int .i64 r.a15, .int .i64 r.a16, .int .i64 r.a17, .int .i64 r.a18, .int .i64 r.a19, .int .u64 r.a20, .int .u64 r.a21] ty_hand_Raw (0, 0))])) g19
    have g19 : St H ([Prt.one cb (.cells #[.int .i64 1, .int .i64 (rr : Int), .int .i64 0, .int .u64 0, .slice none 0 0, .int .u64 0, .bool false, .bool false, .int .i64 0, .int .u64 0, .slice none 0 0] ty_model_call (0, 0))] ++ (mdL c x1 m3 ++ ([Prt.one b208 (.cells #[.int .i64 7, .int .i64 t, .int .i64 0, .int .i64 0, .int .i64 0, .int .i64 0, .int .i64 0, .int .i64 0, .int .i64 0, .int .i64 0, .int .i64 0, .int .u64 0, .int .u64 0, .slice none 0 0, .slice none 0 0] ty_world_Event (0, 0)), Prt.one b192 (.cells #[.int .i64 fr, .int .u64 (c.a21 + 1), .int .i64 1, .int .i64 (rr : Int), .int .i64 0, .int .u64 0, .slice none 0 0, .int .u64 0, .int .i64 2, .int .i64 0, .slice (some ⟨b190, 0, none⟩) 1 1, .int .u64 0, .int .u64 0, .int .u64 0] ty_api_Served (0, 0)), Prt.one b190 (.cells #[.int .i64 t, .int .u64 (c.a21 + 1)] ty_api_ID (0, 0))] ++ [Prt.one b119 (.cells #[.int .i64 c.a0, .int .i64 c.a1, .int .i64 c.a2, .int .i64 c.a3, .int .i64 c.a4, .int .i64 c.a5, .int .i64 c.a6, .int .i64 c.a7, .int .i64 c.a8, .int .i64 c.a9, .int .i64 c.a10, .int .u64 c.a11, .int .u64 c.a12, .int .u64 c.a13, .int .u64 c.a14, .int .u64 c.a15, .int .u64 c.a16, .int .i64 c.a17, .int .i64 c.a18, .int .i64 c.a19, .int .u64 c.a20, .int .u64 c.a21] ty_api_Config (0, 0)), Prt.one b26 (.cells #[.int .i64 r.a0, .int .i64 r.a1, .int .i64 r.a2, .int .i64 r.a3, .int .i64 r.a4, .int .i64 r.a5, .int .i64 r.a6, .int .i64 r.a7, .int .i64 r.a8, .int .i64 r.a9, .int .i64 r.a10, .int .i64 r.a11, .int .i64 r.a12, .int .i64 r.a13, .int .i64 r.a14, .int .i64 r.a15, .int .i64 r.a16, .int .i64 r.a17, .int .i64 r.a18, .int .i64 r.a19, .int .u64 r.a20, .int .u64 r.a21] ty_hand_Raw (0, 0))]))) H18 := St.less g19
    clear g16 g17 g18
    refine servedOnce (y := ⟨t, c.a21 + 1⟩) (f := fr) (u := c.a21 + 1) (r := rr) (cb := cb) (rp := some ⟨b190, 0, none⟩) hmo3 hmd3 hg ht hla3 (by show c.a21 + 1 ≤ 72057594037927935; omega) hrl hca3 g19 (fun P H' h' => (St.lesses (M := P) h').one_rd (i := 2) (n := 1) (k := 2) rfl rfl) fun ob tb t1 t2 H20 g20 => asBI (asBI ?_)
    obtain ⟨m4, hm4⟩ : ∃ m4 : Md, m4 = { m3 with al := mput m3.al ⟨t, c.a21 + 1⟩ tb, la := m3.la.set (t - 1).toNat (c.a21 + 1) } := ⟨_, rfl⟩
    have g20 : St H ([Prt.one tb (.cells #[.slice t1 rr rr, .slice t2 0 0] ty_model_thing (0, 0)), Prt.row 1 t2 0 0 (List.replicate 0 (.int .u64 0)), Prt.row 2 t1 rr rr (cel wId (List.replicate rr noId))] ++ (mdL c x1 m4 ++ ([Prt.one cb (.cells #[.int .i64 1, .int .i64 (rr : Int), .int .i64 0, .int .u64 0, .slice none 0 0, .int .u64 0, .bool true, .bool false, .int .i64 0, .int .u64 0, .slice (some ⟨ob, 0, none⟩) 1 1] ty_model_call (0, 0))] ++ ([Prt.one b208 (.cells #[.int .i64 7, .int .i64 t, .int .i64 0, .int .i64 0, .int .i64 0, .int .i64 0, .int .i64 0, .int .i64 0, .int .i64 0, .int .i64 0, .int .i64 0, .int .u64 0, .int .u64 0, .slice none 0 0, .slice none 0 0] ty_world_Event (0, 0)), Prt.one b192 (.cells #[.int .i64 fr, .int .u64 (c.a21 + 1), .int .i64 1, .int .i64 (rr : Int), .int .i64 0, .int .u64 0, .slice none 0 0, .int .u64 0, .int .i64 2, .int .i64 0, .slice (some ⟨b190, 0, none⟩) 1 1, .int .u64 0, .int .u64 0, .int .u64 0] ty_api_Served (0, 0)), Prt.one b190 (.cells #[.int .i64 t, .int .u64 (c.a21 + 1)] ty_api_ID (0, 0))] ++ [Prt.one b119 (.cells #[.int .i64 c.a0, .int .i64 c.a1, .int .i64 c.a2, .int .i64 c.a3, .int .i64 c.a4, .int .i64 c.a5, .int .i64 c.a6, .int .i64 c.a7, .int .i64 c.a8, .int .i64 c.a9, .int .i64 c.a10, .int .u64 c.a11, .int .u64 c.a12, .int .u64 c.a13, .int .u64 c.a14, .int .u64 c.a15, .int .u64 c.a16, .int .i64 c.a17, .int .i64 c.a18, .int .i64 c.a19, .int .u64 c.a20, .int .u64 c.a21] ty_api_Config (0, 0)), Prt.one b26 (.cells #[.int .i64 r.a0, .int .i64 r.a1, .int .i64 r.a2, .int .i64 r.a3, .int .i64 r.a4, .int .i64 r.a5, .int .i64 r.a6, .int .i64 r.a7, .int .i64 r.a8, .int .i64 r.a9, .int .i64 r.a10, .int .i64 r.a11, .int .i64 r.a12, .int .i64 r.a13, .int .i64 r.a14, .int .i64 r.a15, .int .i64 r.a16, .int .i64 r.a17, .int .i64 r.a18, .int .i64 r.a19, .int .u64 r.a20, .int .u64 r.a21] ty_hand_Raw (0, 0))])))) H20 := by rw [hm4]; exact g20
    have hmd4 : m4.nod := by rw [hm4]; exact ⟨mput_nod hmd3.al _ _, hmd3.ca, hmd3.nu⟩
    have hal4 : mlook m4.al ⟨t, c.a21 + 1⟩ = some tb := by rw [hm4]; show mlook (mput m3.al ⟨t, c.a21 + 1⟩ tb) ⟨t, c.a21 + 1⟩ = some tb; rw [mlook_mput, if_pos rfl]
    have hca4 : mlook m4.ca ⟨fr, t, c.a21 + 1⟩ = some cb := by rw [hm4]; exact hca3
    clear g19
    refine ldI_of (g20.cell (i := 14) rfl rfl) ?_
    rw [ew]
    refine ObjectC (y := ⟨t, c.a21 + 1⟩) (tb := tb) (r := rr) (v := 0) hmd4 hal4 hrl (by omega) g20 fun p1 c1 p2 c2 H21 g21 => ?_
    (try simp (config := { maxSteps := 3000000 }) only [asI_mk', asB_mk, asP_mk, asA_mk, asM_mk, asSl_mk, asStr_mk, tup2_mk, tup3_mk, agg1_mk, agg2_mk, agg3_mk, agg4_mk, asAggm, unCons_mk, unNil_mk, asTup_mk, extractD0, extractD1, List.toList_toArray, nilP_mk, add_mk, Nat.zero_add, Nat.add_zero, condT, condF, Bool.not_true, Bool.not_false, Option.isNone_some, Option.isNone_none])
    refine boxz (c := [.int .u64 0, .int .i64 0, .slice none 0 0, .slice none 0 0, .int .i64 0]) (vs := [.int .u64 (c.a21 + 1), .int .i64 0, .slice p1 rr c1, .slice p2 0 c2, .int .i64 0]) g21 rfl fun b366 H22 g22 => ?_
    have g22 : St H ([Prt.one b366 (.cells #[.int .u64 (c.a21 + 1), .int .i64 0, .slice p1 rr c1, .slice p2 0 c2, .int .i64 0] ty_api_Object (0, 0)), Prt.one tb (.cells #[.slice t1 rr rr, .slice t2 0 0] ty_model_thing (0, 0)), Prt.row 1 t2 0 0 (List.replicate 0 (.int .u64 0)), Prt.row 2 t1 rr rr (cel wId (List.replicate rr noId))] ++ (mdL c x1 m4 ++ ([Prt.one cb (.cells #[.int .i64 1, .int .i64 (rr : Int), .int .i64 0, .int .u64 0, .slice none 0 0, .int .u64 0, .bool true, .bool false, .int .i64 0, .int .u64 0, .slice (some ⟨ob, 0, none⟩) 1 1] ty_model_call (0, 0))] ++ ([Prt.one b208 (.cells #[.int .i64 7, .int .i64 t, .int .i64 0, .int .i64 0, .int .i64 0, .int .i64 0, .int .i64 0, .int .i64 0, .int .i64 0, .int .i64 0, .int .i64 0, .int .u64 0, .int .u64 0, .slice none 0 0, .slice none 0 0] ty_world_Event (0, 0)), Prt.one b192 (.cells #[.int .i64 fr, .int .u64 (c.a21 + 1), .int .i64 1, .int .i64 (rr : Int), .int .i64 0, .int .u64 0, .slice none 0 0, .int .u64 0, .int .i64 2, .int .i64 0, .slice (some ⟨b190, 0, none⟩) 1 1, .int .u64 0, .int .u64 0, .int .u64 0] ty_api_Served (0, 0)), Prt.one b190 (.cells #[.int .i64 t, .int .u64 (c.a21 + 1)] ty_api_ID (0, 0))] ++ [Prt.one b119 (.cells #[.int .i64 c.a0, .int .i64 c.a1, .int .i64 c.a2, .int .i64 c.a3, .int .i64 c.a4, .int .i64 c.a5, .int .i64 c.a6, .int .i64 c.a7, .int .i64 c.a8, .int .i64 c.a9, .int .i64 c.a10, .int .u64 c.a11, .int .u64 c.a12, .int .u64 c.a13, .int .u64 c.a14, .int .u64 c.a15, .int .u64 c.a16, .int .i64 c.a17, .int .i64 c.a18, .int .i64 c.a19, .int .u64 c.a20, .int .u64 c.a21] ty_api_Config (0, 0)), Prt.one b26 (.cells #[.int .i64 r.a0, .int .i64 r.a1, .int .i64 r.a2, .int .i64 r.a3, .int .i64 r.a4, .int .i64 r.a5, .int .i64 r.a6, .int .i64 r.a7, .int .i64 r.a8, .int .i64 r.a9, .int .i64 r.a10, .int .i64 r.a11, .int .i64 r.a12, .int .i64 r.a13, .int .i64 r.a14, .int .i64 r.a15, .int .i64 r.a16, .int .i64 r.a17, .int .i64 r.a18, .int .i64 r.a19, .int .u64 r.a20, .int .u64 r.a21] ty_hand_Raw (0, 0))])))) H22 := g22
    clear g20 g21
    refine ldSl_of (g22.cell (i := 13) rfl rfl) ?_
    refine idxA_of (g22.one_rd (i := 14) (n := 1) (k := 2) rfl rfl) (by decide) (by decide) fun b o hpp hcc => ?_
    cases hpp
    refine ldI_of (g22.cell (i := 14) rfl rfl) ?_
    refine idxA_of (g22.one_rd (i := 14) (n := 1) (k := 2) rfl rfl) (by decide) (by decide) fun b o hpp hcc => ?_
    cases hpp
    simp only [Int.toNat_zero, Nat.zero_mul, Nat.add_zero, add_mk, Nat.zero_add]
    refine g22.put (i := 14) rfl (show 1 < 2 by decide) fun H23 g23 => ?_
    refine ldSl_of (g23.cell (i := 0) rfl rfl) (bif_eq rfl ?_)
    (repeat first | refine ldI_of (g23.cell (i := 12) rfl rfl) ?_ | refine ldSl_of (g23.cell (i := 12) rfl rfl) ?_ | refine ldP_of (g23.cell (i := 12) rfl rfl) ?_ | refine ldB_of (g23.cell (i := 12) rfl rfl) ?_ | refine ldM_of (g23.cell (i := 12) rfl rfl) ?_ | refine ldI_of (g23.cell (i := 13) rfl rfl) ?_ | refine ldSl_of (g23.cell (i := 13) rfl rfl) ?_ | refine ldP_of (g23.cell (i := 13) rfl rfl) ?_ | refine ldB_of (g23.cell (i := 13) rfl rfl) ?_ | refine ldM_of (g23.cell (i := 13) rfl rfl) ?_)
    intro b420 hb420
    have g24 := St.alloc (o := .cells #[.int .i64 fr, .int .u64 (c.a21 + 1), .int .i64 1, .int .i64 (rr : Int), .int .i64 0, .int .u64 0, .slice none 0 0, .int .u64 0, .int .i64 2, .int .i64 0, .slice (some ⟨b190, 0, none⟩) 1 1, .int .u64 0, .int .u64 0, .int .u64 0] ty_api_Served) g23 hb420
    have g24 : St H ([Prt.one b420 (.cells #[.int .i64 fr, .int .u64 (c.a21 + 1), .int .i64 1, .int .i64 (rr : Int), .int .i64 0, .int .u64 0, .slice none 0 0, .int .u64 0, .int .i64 2, .int .i64 0, .slice (some ⟨b190, 0, none⟩) 1 1, .int .u64 0, .int .u64 0, .int .u64 0] ty_api_Served (0, 0)), Prt.one b366 (.cells #[.int .u64 (c.a21 + 1), .int .i64 0, .slice p1 rr c1, .slice p2 0 c2, .int .i64 0] ty_api_Object (0, 0)), Prt.one tb (.cells #[.slice t1 rr rr, .slice t2 0 0] ty_model_thing (0, 0)), Prt.row 1 t2 0 0 (List.replicate 0 (.int .u64 0)), Prt.row 2 t1 rr rr (cel wId (List.replicate rr noId))] ++ (mdL c x1 m4 ++ ([Prt.one cb (.cells #[.int .i64 1, .int .i64 (rr : Int), .int .i64 0, .int .u64 0, .slice none 0 0, .int .u64 0, .bool true, .bool false, .int .i64 0, .int .u64 0, .slice (some ⟨ob, 0, none⟩) 1 1] ty_model_call (0, 0))] ++ ([Prt.one b208 (.cells #[.int .i64 7, .int .i64 t, .int .i64 0, .int .i64 0, .int .i64 0, .int .i64 0, .int .i64 0, .int .i64 0, .int .i64 0, .int .i64 0, .int .i64 0, .int .u64 0, .int .u64 0, .slice none 0 0, .slice none 0 0] ty_world_Event (0, 0)), Prt.one b192 (.cells #[.int .i64 fr, .int .u64 (c.a21 + 1), .int .i64 1, .int .i64 (rr : Int), .int .i64 0, .int .u64 0, .slice none 0 0, .int .u64 0, .int .i64 2, .int .i64 0, .slice (some ⟨b190, 0, none⟩) 1 1, .int .u64 0, .int .u64 0, .int .u64 0] ty_api_Served (0, 0)), Prt.one b190 (.cells #[.int .i64 t, .int .u64 (IntKind.u64.wrap (c.a21 + 1 + 1))] ty_api_ID (0, 0))] ++ [Prt.one b119 (.cells #[.int .i64 c.a0, .int .i64 c.a1, .int .i64 c.a2, .int .i64 c.a3, .int .i64 c.a4, .int .i64 c.a5, .int .i64 c.a6, .int .i64 c.a7, .int .i64 c.a8, .int .i64 c.a9, .int .i64 c.a10, .int .u64 c.a11, .int .u64 c.a12, .int .u64 c.a13, .int .u64 c.a14, .int .u64 c.a15, .int .u64 c.a16, .int .i64 c.a17, .int .i64 c.a18, .int .i64 c.a19, .int .u64 c.a20, .int .u64 c.a21] ty_api_Config (0, 0)), Prt.one b26 (.cells #[.int .i64 r.a0, .int .i64 r.a1, .int .i64 r.a2, .int .i64 r.a3, .int .i64 r.a4, .int .i64 r.a5, .int .i64 r.a6, .int .i64 r.a7, .int .i64 r.a8, .int .i64 r.a9, .int .i64 r.a10, .int .i64 r.a11, .int .i64 r.a12, .int .i64 r.a13, .int .i64 r.a14, .int .i64 r.a15, .int .i64 r.a16, .int .i64 r.a17, .int .i64 r.a18, .int .i64 r.a19, .int .u64 r.a20, .int .u64 r.a21] ty_hand_Raw (0, 0))])))) _ := g24
    refine seeServeC (n := t) (f := fr) (u := c.a21 + 1) (r := (rr : Int)) (db := b420) (rp := some ⟨b190, 0, none⟩) (j := 0) hg ht (St.swapL g24) rfl fun N4 H25 hN4 g25 => ?_
    have g26 := St.lesses (M := N4) (St.swapL g25)
    have g26 := St.swapL (N := mdL c x1 m4) (A := [Prt.one b420 (.cells #[.int .i64 fr, .int .u64 (c.a21 + 1), .int .i64 1, .int .i64 (rr : Int), .int .i64 0, .int .u64 0, .slice none 0 0, .int .u64 0, .int .i64 2, .int .i64 0, .slice (some ⟨b190, 0, none⟩) 1 1, .int .u64 0, .int .u64 0, .int .u64 0] ty_api_Served (0, 0)), Prt.one b366 (.cells #[.int .u64 (c.a21 + 1), .int .i64 0, .slice p1 rr c1, .slice p2 0 c2, .int .i64 0] ty_api_Object (0, 0)), Prt.one tb (.cells #[.slice t1 rr rr, .slice t2 0 0] ty_model_thing (0, 0)), Prt.row 1 t2 0 0 (List.replicate 0 (.int .u64 0)), Prt.row 2 t1 rr rr (cel wId (List.replicate rr noId)), Prt.one cb (.cells #[.int .i64 1, .int .i64 (rr : Int), .int .i64 0, .int .u64 0, .slice none 0 0, .int .u64 0, .bool true, .bool false, .int .i64 0, .int .u64 0, .slice (some ⟨ob, 0, none⟩) 1 1] ty_model_call (0, 0))]) (M := [Prt.one b208 (.cells #[.int .i64 7, .int .i64 t, .int .i64 0, .int .i64 0, .int .i64 0, .int .i64 0, .int .i64 0, .int .i64 0, .int .i64 0, .int .i64 0, .int .i64 0, .int .u64 0, .int .u64 0, .slice none 0 0, .slice none 0 0] ty_world_Event (0, 0)), Prt.one b192 (.cells #[.int .i64 fr, .int .u64 (c.a21 + 1), .int .i64 1, .int .i64 (rr : Int), .int .i64 0, .int .u64 0, .slice none 0 0, .int .u64 0, .int .i64 2, .int .i64 0, .slice (some ⟨b190, 0, none⟩) 1 1, .int .u64 0, .int .u64 0, .int .u64 0] ty_api_Served (0, 0)), Prt.one b190 (.cells #[.int .i64 t, .int .u64 (IntKind.u64.wrap (c.a21 + 1 + 1))] ty_api_ID (0, 0))] ++ [Prt.one b119 (.cells #[.int .i64 c.a0, .int .i64 c.a1, .int .i64 c.a2, .int .i64 c.a3, .int .i64 c.a4, .int .i64 c.a5, .int .i64 c.a6, .int .i64 c.a7, .int .i64 c.a8, .int .i64 c.a9, .int .i64 c.a10, .int .u64 c.a11, .int .u64 c.a12, .int .u64 c.a13, .int .u64 c.a14, .int .u64 c.a15, .int .u64 c.a16, .int .i64 c.a17, .int .i64 c.a18, .int .i64 c.a19, .int .u64 c.a20, .int .u64 c.a21] ty_api_Config (0, 0)), Prt.one b26 (.cells #[.int .i64 r.a0, .int .i64 r.a1, .int .i64 r.a2, .int .i64 r.a3, .int .i64 r.a4, .int .i64 r.a5, .int .i64 r.a6, .int .i64 r.a7, .int .i64 r.a8, .int .i64 r.a9, .int .i64 r.a10, .int .i64 r.a11, .int .i64 r.a12, .int .i64 r.a13, .int .i64 r.a14, .int .i64 r.a15, .int .i64 r.a16, .int .i64 r.a17, .int .i64 r.a18, .int .i64 r.a19, .int .u64 r.a20, .int .u64 r.a21] ty_hand_Raw (0, 0))]) g26
    have g27 : St H ([Prt.one cb (.cells #[.int .i64 1, .int .i64 (rr : Int), .int .i64 0, .int .u64 0, .slice none 0 0, .int .u64 0, .bool true, .bool false, .int .i64 0, .int .u64 0, .slice (some ⟨ob, 0, none⟩) 1 1] ty_model_call (0, 0))] ++ (mdL c x1 m4 ++ ([Prt.one b208 (.cells #[.int .i64 7, .int .i64 t, .int .i64 0, .int .i64 0, .int .i64 0, .int .i64 0, .int .i64 0, .int .i64 0, .int .i64 0, .int .i64 0, .int .i64 0, .int .u64 0, .int .u64 0, .slice none 0 0, .slice none 0 0] ty_world_Event (0, 0)), Prt.one b192 (.cells #[.int .i64 fr, .int .u64 (c.a21 + 1), .int .i64 1, .int .i64 (rr : Int), .int .i64 0, .int .u64 0, .slice none 0 0, .int .u64 0, .int .i64 2, .int .i64 0, .slice (some ⟨b190, 0, none⟩) 1 1, .int .u64 0, .int .u64 0, .int .u64 0] ty_api_Served (0, 0)), Prt.one b190 (.cells #[.int .i64 t, .int .u64 (IntKind.u64.wrap (c.a21 + 1 + 1))] ty_api_ID (0, 0))] ++ [Prt.one b119 (.cells #[.int .i64 c.a0, .int .i64 c.a1, .int .i64 c.a2, .int .i64 c.a3, .int .i64 c.a4, .int .i64 c.a5, .int .i64 c.a6, .int .i64 c.a7, .int .i64 c.a8, .int .i64 c.a9, .int .i64 c.a10, .int .u64 c.a11, .int .u64 c.a12, .int .u64 c.a13, .int .u64 c.a14, .int .u64 c.a15, .int .u64 c.a16, .int .i64 c.a17, .int .i64 c.a18, .int .i64 c.a19, .int .u64 c.a20, .int .u64 c.a21] ty_api_Config (0, 0)), Prt.one b26 (.cells #[.int .i64 r.a0, .int .i64 r.a1, .int .i64 r.a2, .int .i64 r.a3, .int .i64 r.a4, .int .i64 r.a5, .int .i64 r.a6, .int .i64 r.a7, .int .i64 r.a8, .int .i64 r.a9, .int .i64 r.a10, .int .i64 r.a11, .int .i64 r.a12, .int .i64 r.a13, .int .i64 r.a14, .int .i64 r.a15, .int .i64 r.a16, .int .i64 r.a17, .int .i64 r.a18, .int .i64 r.a19, .int .u64 r.a20, .int .u64 r.a21] ty_hand_Raw (0, 0))]))) H25 := St.lesses (M := [_, _, _, _, _]) g26
    refine servedAgain (f := fr) (u := c.a21 + 1) (r := (rr : Int)) (cb := cb) hmd4 hca4 g27 fun H28 hk => asBI (asBI ?_)
    exact hK H28 hk
  clear hR182
  by_cases he : fr = to
  · refine bif_eq he (ldI_of (g5.cell (i := 7) rfl rfl) ⟨by omega, ?_⟩)
    have hmod : Int.tmod fr c.a0 = fr % c.a0 := Int.tmod_eq_emod_of_nonneg (by omega)
    have hr1 := Int.emod_nonneg fr (show c.a0 ≠ 0 by omega)
    have hr2 := Int.emod_lt_of_pos fr (show 0 < c.a0 by omega)
    rw [hmod, wrap_i64 (by omega) (by omega)]
    refine hQ182 _ (by omega) fun h => ?_
    by_cases h2 : fr = c.a0
    · rw [h2, Int.emod_self] at h
      omega
    · rw [Int.emod_eq_of_lt (by omega) (by omega)] at h
      omega
  · exact bif_ne he (hQ182 to (by omega) fun h => he h.symm)
theorem ModelOnce_ok {x : E_hand_Raw} {fx tx vx : Int} {H : Hp} {K : Value → Hp → Prop} (hx : x.ok) (hf : IntKind.min .i64 ≤ fx ∧ fx ≤ IntKind.max .i64) (ht : IntKind.min .i64 ≤ tx ∧ tx ≤ IntKind.max .i64) (hv : IntKind.min .i64 ≤ vx ∧ vx ≤ IntKind.max .i64)
    (hK : ∀ H', Keep Nothing H H' → K (.bool true) H') : hcall PR f_law26_ModelOnce ⟨[.agg x.cells.toArray, .int .i64 fx, .int .i64 tx, .int .i64 vx]⟩ H K :=
  ModelOnce_r (r := raw26 x) hx.Start.1 hx.Last.1 hK
end Go.Proofs.Ytknejebggegfjaa
