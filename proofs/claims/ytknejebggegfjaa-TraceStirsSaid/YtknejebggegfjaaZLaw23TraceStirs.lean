/- Merged by merge.py: DenLaw23TraceKnown, DenLaw23TraceWaits, Law23k, DenLaw23TraceStale, DenLaw23TraceStirs, Law23s. No condition. -/
import Derived.Test.YtknejebggegfjaaZNum
import Derived.Test.YtknejebggegfjaaZTraceb

namespace Go.Proofs.Ytknejebggegfjaa
open Go
set_option linter.unusedVariables false
set_option maxRecDepth 100000
end Go.Proofs.Ytknejebggegfjaa

namespace Go.Proofs.Ytknejebggegfjaa
open Go
set_option linter.unusedVariables false
set_option maxRecDepth 100000
end Go.Proofs.Ytknejebggegfjaa

namespace Go.Proofs.Ytknejebggegfjaa
set_option linter.unusedSimpArgs false
set_option linter.unusedVariables false
set_option maxRecDepth 20000
open Go
def rawOf (x : E_hand_Raw) : Cf := ⟨x.Nodes, x.Mutators, x.Slots, x.Cells, x.Objects, x.Stubs, x.Calls, x.Window, x.Grey, x.Bag, x.Inbox, x.Unit, x.Drift, x.Lease, x.Wait, x.Most, x.Patience, x.Suspect, x.Trace, x.Work, x.Start, x.Last⟩
end Go.Proofs.Ytknejebggegfjaa

namespace Go.Proofs.Ytknejebggegfjaa
open Go
set_option linter.unusedVariables false
set_option maxRecDepth 100000
end Go.Proofs.Ytknejebggegfjaa

namespace Go.Proofs.Ytknejebggegfjaa
open Go
set_option linter.unusedVariables false
set_option maxRecDepth 100000
def B_law23_TraceStirs (rawNodes1 : Int) (rawMutators2 : Int) (rawSlots3 : Int) (rawCells4 : Int) (rawObjects5 : Int) (rawStubs6 : Int) (rawCalls7 : Int) (rawWindow8 : Int) (rawGrey9 : Int) (rawBag10 : Int) (rawInbox11 : Int) (rawUnit12 : Int) (rawDrift13 : Int) (rawLease14 : Int) (rawWait15 : Int) (rawMost16 : Int) (rawPatience17 : Int) (rawSuspect18 : Int) (rawTrace19 : Int) (rawWork20 : Int) (rawStart21 : Int) (rawLast22 : Int) (wInsP23 : Option Addr) (wInsL24 : Nat) (wInsC25 : Nat) (wOutsP26 : Option Addr) (wOutsL27 : Nat) (wOutsC28 : Nat) (wLiveP29 : Option Addr) (wLiveL30 : Nat) (wLiveC31 : Nat) (wGoneP32 : Option Addr) (wGoneL33 : Nat) (wGoneC34 : Nat) (which35 : Int) (H : Hp) (K : Value → Hp → Prop) : Prop :=
 newB (.cells #[(.int .i64 rawNodes1), (.int .i64 rawMutators2), (.int .i64 rawSlots3), (.int .i64 rawCells4), (.int .i64 rawObjects5), (.int .i64 rawStubs6), (.int .i64 rawCalls7), (.int .i64 rawWindow8), (.int .i64 rawGrey9), (.int .i64 rawBag10), (.int .i64 rawInbox11), (.int .i64 rawUnit12), (.int .i64 rawDrift13), (.int .i64 rawLease14), (.int .i64 rawWait15), (.int .i64 rawMost16), (.int .i64 rawPatience17), (.int .i64 rawSuspect18), (.int .i64 rawTrace19), (.int .i64 rawWork20), (.int .u64 rawStart21), (.int .u64 rawLast22)] ty_hand_Raw) H fun b36 Hx37 =>
 newB (.cells #[(.slice wInsP23 wInsL24 wInsC25), (.slice wOutsP26 wOutsL27 wOutsC28), (.slice wLiveP29 wLiveL30 wLiveC31), (.slice wGoneP32 wGoneL33 wGoneC34)] ty_law23_Web) Hx37 fun b38 Hx39 =>
 ldI .i64 ⟨b36, 0, none⟩ Hx39 fun Nodes40 =>
 ldI .i64 ⟨b36, 1, none⟩ Hx39 fun Mutators41 =>
 ldI .i64 ⟨b36, 2, none⟩ Hx39 fun Slots42 =>
 ldI .i64 ⟨b36, 3, none⟩ Hx39 fun Cells43 =>
 ldI .i64 ⟨b36, 4, none⟩ Hx39 fun Objects44 =>
 ldI .i64 ⟨b36, 5, none⟩ Hx39 fun Stubs45 =>
 ldI .i64 ⟨b36, 6, none⟩ Hx39 fun Calls46 =>
 ldI .i64 ⟨b36, 7, none⟩ Hx39 fun Window47 =>
 ldI .i64 ⟨b36, 8, none⟩ Hx39 fun Grey48 =>
 ldI .i64 ⟨b36, 9, none⟩ Hx39 fun Bag49 =>
 ldI .i64 ⟨b36, 10, none⟩ Hx39 fun Inbox50 =>
 ldI .i64 ⟨b36, 11, none⟩ Hx39 fun Unit51 =>
 ldI .i64 ⟨b36, 12, none⟩ Hx39 fun Drift52 =>
 ldI .i64 ⟨b36, 13, none⟩ Hx39 fun Lease53 =>
 ldI .i64 ⟨b36, 14, none⟩ Hx39 fun Wait54 =>
 ldI .i64 ⟨b36, 15, none⟩ Hx39 fun Most55 =>
 ldI .i64 ⟨b36, 16, none⟩ Hx39 fun Patience56 =>
 ldI .i64 ⟨b36, 17, none⟩ Hx39 fun Suspect57 =>
 ldI .i64 ⟨b36, 18, none⟩ Hx39 fun Trace58 =>
 ldI .i64 ⟨b36, 19, none⟩ Hx39 fun Work59 =>
 ldI .u64 ⟨b36, 20, none⟩ Hx39 fun Start60 =>
 ldI .u64 ⟨b36, 21, none⟩ Hx39 fun Last61 =>
 hcall PR f_hand_Config ⟨[(.agg #[(.int .i64 Nodes40), (.int .i64 Mutators41), (.int .i64 Slots42), (.int .i64 Cells43), (.int .i64 Objects44), (.int .i64 Stubs45), (.int .i64 Calls46), (.int .i64 Window47), (.int .i64 Grey48), (.int .i64 Bag49), (.int .i64 Inbox50), (.int .i64 Unit51), (.int .i64 Drift52), (.int .i64 Lease53), (.int .i64 Wait54), (.int .i64 Most55), (.int .i64 Patience56), (.int .i64 Suspect57), (.int .i64 Trace58), (.int .i64 Work59), (.int .u64 Start60), (.int .u64 Last61)])]⟩ Hx39 fun v62 Hx63 =>
 asAgg' v62 fun cs64 =>
 unCons cs64.toList fun v65 r66 =>
 unCons r66 fun v67 r68 =>
 unCons r68 fun v69 r70 =>
 unCons r70 fun v71 r72 =>
 unCons r72 fun v73 r74 =>
 unCons r74 fun v75 r76 =>
 unCons r76 fun v77 r78 =>
 unCons r78 fun v79 r80 =>
 unCons r80 fun v81 r82 =>
 unCons r82 fun v83 r84 =>
 unCons r84 fun v85 r86 =>
 unCons r86 fun v87 r88 =>
 unCons r88 fun v89 r90 =>
 unCons r90 fun v91 r92 =>
 unCons r92 fun v93 r94 =>
 unCons r94 fun v95 r96 =>
 unCons r96 fun v97 r98 =>
 unCons r98 fun v99 r100 =>
 unCons r100 fun v101 r102 =>
 unCons r102 fun v103 r104 =>
 unCons r104 fun v105 r106 =>
 unCons r106 fun v107 r108 =>
 unNil r108 <|
 asI .i64 v65 fun Nodes109 =>
 asI .i64 v67 fun Mutators110 =>
 asI .i64 v69 fun Slots111 =>
 asI .i64 v71 fun Cells112 =>
 asI .i64 v73 fun Objects113 =>
 asI .i64 v75 fun Stubs114 =>
 asI .i64 v77 fun Calls115 =>
 asI .i64 v79 fun Window116 =>
 asI .i64 v81 fun Grey117 =>
 asI .i64 v83 fun Bag118 =>
 asI .i64 v85 fun Inbox119 =>
 asI .u64 v87 fun Unit120 =>
 asI .u64 v89 fun Drift121 =>
 asI .u64 v91 fun Lease122 =>
 asI .u64 v93 fun Wait123 =>
 asI .u64 v95 fun Most124 =>
 asI .u64 v97 fun Patience125 =>
 asI .i64 v99 fun Suspect126 =>
 asI .i64 v101 fun Trace127 =>
 asI .i64 v103 fun Work128 =>
 asI .u64 v105 fun Start129 =>
 asI .u64 v107 fun Last130 =>
 newB (.cells #[(.int .i64 0), (.int .i64 0), (.int .i64 0), (.int .i64 0), (.int .i64 0), (.int .i64 0), (.int .i64 0), (.int .i64 0), (.int .i64 0), (.int .i64 0), (.int .i64 0), (.int .u64 0), (.int .u64 0), (.int .u64 0), (.int .u64 0), (.int .u64 0), (.int .u64 0), (.int .i64 0), (.int .i64 0), (.int .i64 0), (.int .u64 0), (.int .u64 0)] ty_api_Config) Hx63 fun b131 Hx132 =>
 st ⟨b131, 0, none⟩ (.int .i64 Nodes109) Hx132 fun Hx133 =>
 st ⟨b131, 1, none⟩ (.int .i64 Mutators110) Hx133 fun Hx134 =>
 st ⟨b131, 2, none⟩ (.int .i64 Slots111) Hx134 fun Hx135 =>
 st ⟨b131, 3, none⟩ (.int .i64 Cells112) Hx135 fun Hx136 =>
 st ⟨b131, 4, none⟩ (.int .i64 Objects113) Hx136 fun Hx137 =>
 st ⟨b131, 5, none⟩ (.int .i64 Stubs114) Hx137 fun Hx138 =>
 st ⟨b131, 6, none⟩ (.int .i64 Calls115) Hx138 fun Hx139 =>
 st ⟨b131, 7, none⟩ (.int .i64 Window116) Hx139 fun Hx140 =>
 st ⟨b131, 8, none⟩ (.int .i64 Grey117) Hx140 fun Hx141 =>
 st ⟨b131, 9, none⟩ (.int .i64 Bag118) Hx141 fun Hx142 =>
 st ⟨b131, 10, none⟩ (.int .i64 Inbox119) Hx142 fun Hx143 =>
 st ⟨b131, 11, none⟩ (.int .u64 Unit120) Hx143 fun Hx144 =>
 st ⟨b131, 12, none⟩ (.int .u64 Drift121) Hx144 fun Hx145 =>
 st ⟨b131, 13, none⟩ (.int .u64 Lease122) Hx145 fun Hx146 =>
 st ⟨b131, 14, none⟩ (.int .u64 Wait123) Hx146 fun Hx147 =>
 st ⟨b131, 15, none⟩ (.int .u64 Most124) Hx147 fun Hx148 =>
 st ⟨b131, 16, none⟩ (.int .u64 Patience125) Hx148 fun Hx149 =>
 st ⟨b131, 17, none⟩ (.int .i64 Suspect126) Hx149 fun Hx150 =>
 st ⟨b131, 18, none⟩ (.int .i64 Trace127) Hx150 fun Hx151 =>
 st ⟨b131, 19, none⟩ (.int .i64 Work128) Hx151 fun Hx152 =>
 st ⟨b131, 20, none⟩ (.int .u64 Start129) Hx152 fun Hx153 =>
 st ⟨b131, 21, none⟩ (.int .u64 Last130) Hx153 fun Hx154 =>
 ldI .i64 ⟨b131, 0, none⟩ Hx154 fun Nodes155 =>
 ldI .i64 ⟨b131, 1, none⟩ Hx154 fun Mutators156 =>
 ldI .i64 ⟨b131, 2, none⟩ Hx154 fun Slots157 =>
 ldI .i64 ⟨b131, 3, none⟩ Hx154 fun Cells158 =>
 ldI .i64 ⟨b131, 4, none⟩ Hx154 fun Objects159 =>
 ldI .i64 ⟨b131, 5, none⟩ Hx154 fun Stubs160 =>
 ldI .i64 ⟨b131, 6, none⟩ Hx154 fun Calls161 =>
 ldI .i64 ⟨b131, 7, none⟩ Hx154 fun Window162 =>
 ldI .i64 ⟨b131, 8, none⟩ Hx154 fun Grey163 =>
 ldI .i64 ⟨b131, 9, none⟩ Hx154 fun Bag164 =>
 ldI .i64 ⟨b131, 10, none⟩ Hx154 fun Inbox165 =>
 ldI .u64 ⟨b131, 11, none⟩ Hx154 fun Unit166 =>
 ldI .u64 ⟨b131, 12, none⟩ Hx154 fun Drift167 =>
 ldI .u64 ⟨b131, 13, none⟩ Hx154 fun Lease168 =>
 ldI .u64 ⟨b131, 14, none⟩ Hx154 fun Wait169 =>
 ldI .u64 ⟨b131, 15, none⟩ Hx154 fun Most170 =>
 ldI .u64 ⟨b131, 16, none⟩ Hx154 fun Patience171 =>
 ldI .i64 ⟨b131, 17, none⟩ Hx154 fun Suspect172 =>
 ldI .i64 ⟨b131, 18, none⟩ Hx154 fun Trace173 =>
 ldI .i64 ⟨b131, 19, none⟩ Hx154 fun Work174 =>
 ldI .u64 ⟨b131, 20, none⟩ Hx154 fun Start175 =>
 ldI .u64 ⟨b131, 21, none⟩ Hx154 fun Last176 =>
 hcall PR f_trace_New ⟨[(.agg #[(.int .i64 Nodes155), (.int .i64 Mutators156), (.int .i64 Slots157), (.int .i64 Cells158), (.int .i64 Objects159), (.int .i64 Stubs160), (.int .i64 Calls161), (.int .i64 Window162), (.int .i64 Grey163), (.int .i64 Bag164), (.int .i64 Inbox165), (.int .u64 Unit166), (.int .u64 Drift167), (.int .u64 Lease168), (.int .u64 Wait169), (.int .u64 Most170), (.int .u64 Patience171), (.int .i64 Suspect172), (.int .i64 Trace173), (.int .i64 Work174), (.int .u64 Start175), (.int .u64 Last176)]), (.int .i64 1), (.int .u64 0)]⟩ Hx154 fun v177 Hx178 =>
 tup2 v177 fun v179 v180 =>
 asP v179 fun t181 =>
 asI .i64 v180 fun t182 =>
 hcall PR f_law23_known ⟨[]⟩ Hx178 fun v183 Hx184 =>
 asB v183 fun t185 =>
 (bif (!t185) then
 K (.bool false) Hx184
else
 (bif ((t182 : Int) != 0) then
 K (.bool false) Hx184
else
 (bif (Option.isNone (α := Addr) t181) then
 K (.bool false) Hx184
else
 hcall PR f_law23_stub ⟨[]⟩ Hx184 fun v186 Hx187 =>
 agg2 v186 fun v188 v189 =>
 asI .i64 v188 fun Node190 =>
 asI .u64 v189 fun Serial191 =>
 hcall PR f_trace_Trace_Begin ⟨[(.pointer t181), (.agg #[(.int .i64 Node190), (.int .u64 Serial191)]), (.int .u64 0)]⟩ Hx187 fun v192 Hx193 =>
 asI .i64 v192 fun t194 =>
 (bif ((t194 : Int) != 0) then
 K (.bool false) Hx193
else
 st ⟨b38, 2, none⟩ (.slice none 0 0) Hx193 fun Hx195 =>
 ldI .i64 ⟨b131, 0, none⟩ Hx195 fun Nodes196 =>
 hcall PR f_hand_Pick ⟨[(.int .i64 which35), (.int .i64 Nodes196)]⟩ Hx195 fun v197 Hx198 =>
 asI .i64 v197 fun t199 =>
 ∀ R200 : Bool → Hp → Prop, (∀ hit202 : Bool, ∀ Hx201 : Hp, (
 hcall PR f_trace_Trace_Count ⟨[(.pointer t181)]⟩ Hx201 fun v203 Hx204 =>
 tup2 v203 fun v205 v206 =>
 asI .u64 v205 fun t207 =>
 asI .i64 v206 fun t208 =>
 hcall PR f_trace_Trace_State ⟨[(.pointer t181)]⟩ Hx204 fun v209 Hx210 =>
 asI .i64 v209 fun t211 =>
 (bif ((t211 : Int) == 0) then
 K (.bool (((t208 : Int) == 1) == (!hit202))) Hx210
else
 K (.bool false) Hx210)) → R200 hit202 Hx201) →
 ∃ (I212 : Bool → Int → Hp → Prop) (m213 : Bool → Int → Hp → Nat), I212 false 0 Hx198 ∧ ∀ hit215 : Bool, ∀ i216 : Int, ∀ Hx214 : Hp, I212 hit215 i216 Hx214 →
 (bif (decide ((i216 : Int) < 2000)) then
 hcall PR f_trace_Trace_State ⟨[(.pointer t181)]⟩ Hx214 fun v217 Hx218 =>
 asI .i64 v217 fun t219 =>
 (bif ((t219 : Int) != 0) then
 hcall PR f_trace_Trace_Step ⟨[(.pointer t181), (.int .u64 1099511627776)]⟩ Hx218 fun v220 Hx221 =>
 tup2 v220 fun v222 v223 =>
 asAgg' v222 fun cs224 =>
 unCons cs224.toList fun v225 r226 =>
 unCons r226 fun v227 r228 =>
 unCons r228 fun v229 r230 =>
 unCons r230 fun v231 r232 =>
 unCons r232 fun v233 r234 =>
 unCons r234 fun v235 r236 =>
 unCons r236 fun v237 r238 =>
 unCons r238 fun v239 r240 =>
 unCons r240 fun v241 r242 =>
 unCons r242 fun v243 r244 =>
 unCons r244 fun v245 r246 =>
 unCons r246 fun v247 r248 =>
 unCons r248 fun v249 r250 =>
 unCons r250 fun v251 r252 =>
 unCons r252 fun v253 r254 =>
 unCons r254 fun v255 r256 =>
 unCons r256 fun v257 r258 =>
 unCons r258 fun v259 r260 =>
 unCons r260 fun v261 r262 =>
 unNil r262 <|
 asI .i64 v225 fun Kind263 =>
 asI .i64 v227 fun From264 =>
 asI .i64 v229 fun To265 =>
 asI .u64 v231 fun Call266 =>
 asI .u64 v233 fun Floor267 =>
 asI .i64 v235 fun Op268 =>
 asI .i64 v237 fun Field269 =>
 asI .i64 v239 fun Item270 =>
 asI .i64 v241 fun Node271 =>
 asI .u64 v243 fun Serial272 =>
 asSl v245 fun RefsP273 RefsL274 RefsC275 =>
 asI .u64 v247 fun Value276 =>
 asI .i64 v249 fun Code277 =>
 asI .u64 v251 fun Seq278 =>
 asI .i64 v253 fun Voucher279 =>
 asI .u64 v255 fun At280 =>
 asI .i64 v257 fun Dist281 =>
 asI .u64 v259 fun Stamp282 =>
 asSl v261 fun ListP283 ListL284 ListC285 =>
 asB v223 fun t286 =>
 newB (.cells #[(.int .i64 0), (.int .i64 0), (.int .i64 0), (.int .u64 0), (.int .u64 0), (.int .i64 0), (.int .i64 0), (.int .i64 0), (.int .i64 0), (.int .u64 0), (.slice none 0 0), (.int .u64 0), (.int .i64 0), (.int .u64 0), (.int .i64 0), (.int .u64 0), (.int .i64 0), (.int .u64 0), (.slice none 0 0)] ty_api_Msg) Hx221 fun b287 Hx288 =>
 st ⟨b287, 0, none⟩ (.int .i64 Kind263) Hx288 fun Hx289 =>
 st ⟨b287, 1, none⟩ (.int .i64 From264) Hx289 fun Hx290 =>
 st ⟨b287, 2, none⟩ (.int .i64 To265) Hx290 fun Hx291 =>
 st ⟨b287, 3, none⟩ (.int .u64 Call266) Hx291 fun Hx292 =>
 st ⟨b287, 4, none⟩ (.int .u64 Floor267) Hx292 fun Hx293 =>
 st ⟨b287, 5, none⟩ (.int .i64 Op268) Hx293 fun Hx294 =>
 st ⟨b287, 6, none⟩ (.int .i64 Field269) Hx294 fun Hx295 =>
 st ⟨b287, 7, none⟩ (.int .i64 Item270) Hx295 fun Hx296 =>
 st ⟨b287, 8, none⟩ (.int .i64 Node271) Hx296 fun Hx297 =>
 st ⟨b287, 9, none⟩ (.int .u64 Serial272) Hx297 fun Hx298 =>
 st ⟨b287, 10, none⟩ (.slice RefsP273 RefsL274 RefsC275) Hx298 fun Hx299 =>
 st ⟨b287, 11, none⟩ (.int .u64 Value276) Hx299 fun Hx300 =>
 st ⟨b287, 12, none⟩ (.int .i64 Code277) Hx300 fun Hx301 =>
 st ⟨b287, 13, none⟩ (.int .u64 Seq278) Hx301 fun Hx302 =>
 st ⟨b287, 14, none⟩ (.int .i64 Voucher279) Hx302 fun Hx303 =>
 st ⟨b287, 15, none⟩ (.int .u64 At280) Hx303 fun Hx304 =>
 st ⟨b287, 16, none⟩ (.int .i64 Dist281) Hx304 fun Hx305 =>
 st ⟨b287, 17, none⟩ (.int .u64 Stamp282) Hx305 fun Hx306 =>
 st ⟨b287, 18, none⟩ (.slice ListP283 ListL284 ListC285) Hx306 fun Hx307 =>
 ∀ R308 : Hp → Prop, (∀ Hx309 : Hp, (
 ldSl ⟨b38, 0, none⟩ Hx309 fun InsP310 InsL311 InsC312 =>
 ldSl ⟨b38, 1, none⟩ Hx309 fun OutsP313 OutsL314 OutsC315 =>
 ldSl ⟨b38, 2, none⟩ Hx309 fun LiveP316 LiveL317 LiveC318 =>
 ldSl ⟨b38, 3, none⟩ Hx309 fun GoneP319 GoneL320 GoneC321 =>
 ldI .i64 ⟨b131, 0, none⟩ Hx309 fun Nodes322 =>
 ldI .i64 ⟨b131, 1, none⟩ Hx309 fun Mutators323 =>
 ldI .i64 ⟨b131, 2, none⟩ Hx309 fun Slots324 =>
 ldI .i64 ⟨b131, 3, none⟩ Hx309 fun Cells325 =>
 ldI .i64 ⟨b131, 4, none⟩ Hx309 fun Objects326 =>
 ldI .i64 ⟨b131, 5, none⟩ Hx309 fun Stubs327 =>
 ldI .i64 ⟨b131, 6, none⟩ Hx309 fun Calls328 =>
 ldI .i64 ⟨b131, 7, none⟩ Hx309 fun Window329 =>
 ldI .i64 ⟨b131, 8, none⟩ Hx309 fun Grey330 =>
 ldI .i64 ⟨b131, 9, none⟩ Hx309 fun Bag331 =>
 ldI .i64 ⟨b131, 10, none⟩ Hx309 fun Inbox332 =>
 ldI .u64 ⟨b131, 11, none⟩ Hx309 fun Unit333 =>
 ldI .u64 ⟨b131, 12, none⟩ Hx309 fun Drift334 =>
 ldI .u64 ⟨b131, 13, none⟩ Hx309 fun Lease335 =>
 ldI .u64 ⟨b131, 14, none⟩ Hx309 fun Wait336 =>
 ldI .u64 ⟨b131, 15, none⟩ Hx309 fun Most337 =>
 ldI .u64 ⟨b131, 16, none⟩ Hx309 fun Patience338 =>
 ldI .i64 ⟨b131, 17, none⟩ Hx309 fun Suspect339 =>
 ldI .i64 ⟨b131, 18, none⟩ Hx309 fun Trace340 =>
 ldI .i64 ⟨b131, 19, none⟩ Hx309 fun Work341 =>
 ldI .u64 ⟨b131, 20, none⟩ Hx309 fun Start342 =>
 ldI .u64 ⟨b131, 21, none⟩ Hx309 fun Last343 =>
 ldI .i64 ⟨b287, 0, none⟩ Hx309 fun Kind344 =>
 ldI .i64 ⟨b287, 1, none⟩ Hx309 fun From345 =>
 ldI .i64 ⟨b287, 2, none⟩ Hx309 fun To346 =>
 ldI .u64 ⟨b287, 3, none⟩ Hx309 fun Call347 =>
 ldI .u64 ⟨b287, 4, none⟩ Hx309 fun Floor348 =>
 ldI .i64 ⟨b287, 5, none⟩ Hx309 fun Op349 =>
 ldI .i64 ⟨b287, 6, none⟩ Hx309 fun Field350 =>
 ldI .i64 ⟨b287, 7, none⟩ Hx309 fun Item351 =>
 ldI .i64 ⟨b287, 8, none⟩ Hx309 fun Node352 =>
 ldI .u64 ⟨b287, 9, none⟩ Hx309 fun Serial353 =>
 ldSl ⟨b287, 10, none⟩ Hx309 fun RefsP354 RefsL355 RefsC356 =>
 ldI .u64 ⟨b287, 11, none⟩ Hx309 fun Value357 =>
 ldI .i64 ⟨b287, 12, none⟩ Hx309 fun Code358 =>
 ldI .u64 ⟨b287, 13, none⟩ Hx309 fun Seq359 =>
 ldI .i64 ⟨b287, 14, none⟩ Hx309 fun Voucher360 =>
 ldI .u64 ⟨b287, 15, none⟩ Hx309 fun At361 =>
 ldI .i64 ⟨b287, 16, none⟩ Hx309 fun Dist362 =>
 ldI .u64 ⟨b287, 17, none⟩ Hx309 fun Stamp363 =>
 ldSl ⟨b287, 18, none⟩ Hx309 fun ListP364 ListL365 ListC366 =>
 hcall PR f_law23_Web_answer ⟨[(.agg #[(.slice InsP310 InsL311 InsC312), (.slice OutsP313 OutsL314 OutsC315), (.slice LiveP316 LiveL317 LiveC318), (.slice GoneP319 GoneL320 GoneC321)]), (.agg #[(.int .i64 Nodes322), (.int .i64 Mutators323), (.int .i64 Slots324), (.int .i64 Cells325), (.int .i64 Objects326), (.int .i64 Stubs327), (.int .i64 Calls328), (.int .i64 Window329), (.int .i64 Grey330), (.int .i64 Bag331), (.int .i64 Inbox332), (.int .u64 Unit333), (.int .u64 Drift334), (.int .u64 Lease335), (.int .u64 Wait336), (.int .u64 Most337), (.int .u64 Patience338), (.int .i64 Suspect339), (.int .i64 Trace340), (.int .i64 Work341), (.int .u64 Start342), (.int .u64 Last343)]), (.agg #[(.int .i64 Kind344), (.int .i64 From345), (.int .i64 To346), (.int .u64 Call347), (.int .u64 Floor348), (.int .i64 Op349), (.int .i64 Field350), (.int .i64 Item351), (.int .i64 Node352), (.int .u64 Serial353), (.slice RefsP354 RefsL355 RefsC356), (.int .u64 Value357), (.int .i64 Code358), (.int .u64 Seq359), (.int .i64 Voucher360), (.int .u64 At361), (.int .i64 Dist362), (.int .u64 Stamp363), (.slice ListP364 ListL365 ListC366)])]⟩ Hx309 fun v367 Hx368 =>
 asAgg' v367 fun cs369 =>
 unCons cs369.toList fun v370 r371 =>
 unCons r371 fun v372 r373 =>
 unCons r373 fun v374 r375 =>
 unCons r375 fun v376 r377 =>
 unCons r377 fun v378 r379 =>
 unCons r379 fun v380 r381 =>
 unCons r381 fun v382 r383 =>
 unCons r383 fun v384 r385 =>
 unCons r385 fun v386 r387 =>
 unCons r387 fun v388 r389 =>
 unCons r389 fun v390 r391 =>
 unCons r391 fun v392 r393 =>
 unCons r393 fun v394 r395 =>
 unCons r395 fun v396 r397 =>
 unCons r397 fun v398 r399 =>
 unCons r399 fun v400 r401 =>
 unCons r401 fun v402 r403 =>
 unCons r403 fun v404 r405 =>
 unCons r405 fun v406 r407 =>
 unNil r407 <|
 asI .i64 v370 fun Kind408 =>
 asI .i64 v372 fun From409 =>
 asI .i64 v374 fun To410 =>
 asI .u64 v376 fun Call411 =>
 asI .u64 v378 fun Floor412 =>
 asI .i64 v380 fun Op413 =>
 asI .i64 v382 fun Field414 =>
 asI .i64 v384 fun Item415 =>
 asI .i64 v386 fun Node416 =>
 asI .u64 v388 fun Serial417 =>
 asSl v390 fun RefsP418 RefsL419 RefsC420 =>
 asI .u64 v392 fun Value421 =>
 asI .i64 v394 fun Code422 =>
 asI .u64 v396 fun Seq423 =>
 asI .i64 v398 fun Voucher424 =>
 asI .u64 v400 fun At425 =>
 asI .i64 v402 fun Dist426 =>
 asI .u64 v404 fun Stamp427 =>
 asSl v406 fun ListP428 ListL429 ListC430 =>
 newB (.cells #[(.int .i64 0), (.int .i64 0), (.int .i64 0), (.int .u64 0), (.int .u64 0), (.int .i64 0), (.int .i64 0), (.int .i64 0), (.int .i64 0), (.int .u64 0), (.slice none 0 0), (.int .u64 0), (.int .i64 0), (.int .u64 0), (.int .i64 0), (.int .u64 0), (.int .i64 0), (.int .u64 0), (.slice none 0 0)] ty_api_Msg) Hx368 fun b431 Hx432 =>
 st ⟨b431, 0, none⟩ (.int .i64 Kind408) Hx432 fun Hx433 =>
 st ⟨b431, 1, none⟩ (.int .i64 From409) Hx433 fun Hx434 =>
 st ⟨b431, 2, none⟩ (.int .i64 To410) Hx434 fun Hx435 =>
 st ⟨b431, 3, none⟩ (.int .u64 Call411) Hx435 fun Hx436 =>
 st ⟨b431, 4, none⟩ (.int .u64 Floor412) Hx436 fun Hx437 =>
 st ⟨b431, 5, none⟩ (.int .i64 Op413) Hx437 fun Hx438 =>
 st ⟨b431, 6, none⟩ (.int .i64 Field414) Hx438 fun Hx439 =>
 st ⟨b431, 7, none⟩ (.int .i64 Item415) Hx439 fun Hx440 =>
 st ⟨b431, 8, none⟩ (.int .i64 Node416) Hx440 fun Hx441 =>
 st ⟨b431, 9, none⟩ (.int .u64 Serial417) Hx441 fun Hx442 =>
 st ⟨b431, 10, none⟩ (.slice RefsP418 RefsL419 RefsC420) Hx442 fun Hx443 =>
 st ⟨b431, 11, none⟩ (.int .u64 Value421) Hx443 fun Hx444 =>
 st ⟨b431, 12, none⟩ (.int .i64 Code422) Hx444 fun Hx445 =>
 st ⟨b431, 13, none⟩ (.int .u64 Seq423) Hx445 fun Hx446 =>
 st ⟨b431, 14, none⟩ (.int .i64 Voucher424) Hx446 fun Hx447 =>
 st ⟨b431, 15, none⟩ (.int .u64 At425) Hx447 fun Hx448 =>
 st ⟨b431, 16, none⟩ (.int .i64 Dist426) Hx448 fun Hx449 =>
 st ⟨b431, 17, none⟩ (.int .u64 Stamp427) Hx449 fun Hx450 =>
 st ⟨b431, 18, none⟩ (.slice ListP428 ListL429 ListC430) Hx450 fun Hx451 =>
 ∀ R452 : Bool → Hp → Prop, (∀ hit454 : Bool, ∀ Hx453 : Hp, (
 ldI .i64 ⟨b431, 0, none⟩ Hx453 fun Kind455 =>
 ldI .i64 ⟨b431, 1, none⟩ Hx453 fun From456 =>
 ldI .i64 ⟨b431, 2, none⟩ Hx453 fun To457 =>
 ldI .u64 ⟨b431, 3, none⟩ Hx453 fun Call458 =>
 ldI .u64 ⟨b431, 4, none⟩ Hx453 fun Floor459 =>
 ldI .i64 ⟨b431, 5, none⟩ Hx453 fun Op460 =>
 ldI .i64 ⟨b431, 6, none⟩ Hx453 fun Field461 =>
 ldI .i64 ⟨b431, 7, none⟩ Hx453 fun Item462 =>
 ldI .i64 ⟨b431, 8, none⟩ Hx453 fun Node463 =>
 ldI .u64 ⟨b431, 9, none⟩ Hx453 fun Serial464 =>
 ldSl ⟨b431, 10, none⟩ Hx453 fun RefsP465 RefsL466 RefsC467 =>
 ldI .u64 ⟨b431, 11, none⟩ Hx453 fun Value468 =>
 ldI .i64 ⟨b431, 12, none⟩ Hx453 fun Code469 =>
 ldI .u64 ⟨b431, 13, none⟩ Hx453 fun Seq470 =>
 ldI .i64 ⟨b431, 14, none⟩ Hx453 fun Voucher471 =>
 ldI .u64 ⟨b431, 15, none⟩ Hx453 fun At472 =>
 ldI .i64 ⟨b431, 16, none⟩ Hx453 fun Dist473 =>
 ldI .u64 ⟨b431, 17, none⟩ Hx453 fun Stamp474 =>
 ldSl ⟨b431, 18, none⟩ Hx453 fun ListP475 ListL476 ListC477 =>
 hcall PR f_trace_Trace_Hear ⟨[(.pointer t181), (.agg #[(.int .i64 Kind455), (.int .i64 From456), (.int .i64 To457), (.int .u64 Call458), (.int .u64 Floor459), (.int .i64 Op460), (.int .i64 Field461), (.int .i64 Item462), (.int .i64 Node463), (.int .u64 Serial464), (.slice RefsP465 RefsL466 RefsC467), (.int .u64 Value468), (.int .i64 Code469), (.int .u64 Seq470), (.int .i64 Voucher471), (.int .u64 At472), (.int .i64 Dist473), (.int .u64 Stamp474), (.slice ListP475 ListL476 ListC477)])]⟩ Hx453 fun v478 Hx479 =>
 asB v478 fun t480 =>
 I212 hit454 (IntKind.i64.wrap (i216 + 1)) Hx479 ∧ m213 hit454 (IntKind.i64.wrap (i216 + 1)) Hx479 < m213 hit215 i216 Hx214) → R452 hit454 Hx453) →
 ldI .i64 ⟨b287, 5, none⟩ Hx451 fun Op481 =>
 (bif ((Op481 : Int) == 3) then
 ldI .i64 ⟨b287, 2, none⟩ Hx451 fun To482 =>
 (bif ((To482 : Int) == (IntKind.i64.wrap (1 + t199))) then
 st ⟨b431, 17, none⟩ (.int .u64 99) Hx451 fun Hx483 =>
 R452 true Hx483
else
 R452 hit215 Hx451)
else
 R452 hit215 Hx451)) → R308 Hx309) →
 (bif (!t286) then
 K (.bool false) Hx307
else
 ldI .i64 ⟨b287, 0, none⟩ Hx307 fun Kind484 =>
 (bif ((Kind484 : Int) == 10) then
 (bif hit215 then
 K (.bool false) Hx307
else
 R308 Hx307)
else
 R308 Hx307))
else
 R200 hit215 Hx218)
else
 R200 hit215 Hx214)))))
theorem E_law23_TraceStirs (rawNodes1 : Int) (rawMutators2 : Int) (rawSlots3 : Int) (rawCells4 : Int) (rawObjects5 : Int) (rawStubs6 : Int) (rawCalls7 : Int) (rawWindow8 : Int) (rawGrey9 : Int) (rawBag10 : Int) (rawInbox11 : Int) (rawUnit12 : Int) (rawDrift13 : Int) (rawLease14 : Int) (rawWait15 : Int) (rawMost16 : Int) (rawPatience17 : Int) (rawSuspect18 : Int) (rawTrace19 : Int) (rawWork20 : Int) (rawStart21 : Int) (rawLast22 : Int) (wInsP23 : Option Addr) (wInsL24 : Nat) (wInsC25 : Nat) (wOutsP26 : Option Addr) (wOutsL27 : Nat) (wOutsC28 : Nat) (wLiveP29 : Option Addr) (wLiveL30 : Nat) (wLiveC31 : Nat) (wGoneP32 : Option Addr) (wGoneL33 : Nat) (wGoneC34 : Nat) (which35 : Int) (H : Hp) (K : Value → Hp → Prop) : B_law23_TraceStirs rawNodes1 rawMutators2 rawSlots3 rawCells4 rawObjects5 rawStubs6 rawCalls7 rawWindow8 rawGrey9 rawBag10 rawInbox11 rawUnit12 rawDrift13 rawLease14 rawWait15 rawMost16 rawPatience17 rawSuspect18 rawTrace19 rawWork20 rawStart21 rawLast22 wInsP23 wInsL24 wInsC25 wOutsP26 wOutsL27 wOutsC28 wLiveP29 wLiveL30 wLiveC31 wGoneP32 wGoneL33 wGoneC34 which35 H K = denF Try.prog Try.f9 (.seq none .n (.seq none .n (.seq none .n (.seq none .n (.seq none .n (.seq none .n (.seq none .n (.seq (some ⟨[(11, .bool)], [8]⟩) (.seq none .n (.sub (.loop ⟨[(11, .bool), (12, .int .i64)], [4, 7, 8, 10]⟩ (.seq none .n (.seq none (.sub (.seq none .n (.seq (some ⟨[], [4, 7, 8, 10, 11, 12, 13]⟩) .n (.seq none .n (.seq (some ⟨[(11, .bool)], [4, 7, 8, 10, 12, 15]⟩) .n .n))))) .n))))) .n)))))))) [(.agg #[(.int .i64 rawNodes1), (.int .i64 rawMutators2), (.int .i64 rawSlots3), (.int .i64 rawCells4), (.int .i64 rawObjects5), (.int .i64 rawStubs6), (.int .i64 rawCalls7), (.int .i64 rawWindow8), (.int .i64 rawGrey9), (.int .i64 rawBag10), (.int .i64 rawInbox11), (.int .i64 rawUnit12), (.int .i64 rawDrift13), (.int .i64 rawLease14), (.int .i64 rawWait15), (.int .i64 rawMost16), (.int .i64 rawPatience17), (.int .i64 rawSuspect18), (.int .i64 rawTrace19), (.int .i64 rawWork20), (.int .u64 rawStart21), (.int .u64 rawLast22)]), (.agg #[(.slice wInsP23 wInsL24 wInsC25), (.slice wOutsP26 wOutsL27 wOutsC28), (.slice wLiveP29 wLiveL30 wLiveC31), (.slice wGoneP32 wGoneL33 wGoneC34)]), (.int .i64 which35)] H K := by kernel_rfl
theorem den_law23_TraceStirs {rawNodes1 : Int} {rawMutators2 : Int} {rawSlots3 : Int} {rawCells4 : Int} {rawObjects5 : Int} {rawStubs6 : Int} {rawCalls7 : Int} {rawWindow8 : Int} {rawGrey9 : Int} {rawBag10 : Int} {rawInbox11 : Int} {rawUnit12 : Int} {rawDrift13 : Int} {rawLease14 : Int} {rawWait15 : Int} {rawMost16 : Int} {rawPatience17 : Int} {rawSuspect18 : Int} {rawTrace19 : Int} {rawWork20 : Int} {rawStart21 : Int} {rawLast22 : Int} {wInsP23 : Option Addr} {wInsL24 : Nat} {wInsC25 : Nat} {wOutsP26 : Option Addr} {wOutsL27 : Nat} {wOutsC28 : Nat} {wLiveP29 : Option Addr} {wLiveL30 : Nat} {wLiveC31 : Nat} {wGoneP32 : Option Addr} {wGoneL33 : Nat} {wGoneC34 : Nat} {which35 : Int} {H : Hp} {K : Value → Hp → Prop} (h : B_law23_TraceStirs rawNodes1 rawMutators2 rawSlots3 rawCells4 rawObjects5 rawStubs6 rawCalls7 rawWindow8 rawGrey9 rawBag10 rawInbox11 rawUnit12 rawDrift13 rawLease14 rawWait15 rawMost16 rawPatience17 rawSuspect18 rawTrace19 rawWork20 rawStart21 rawLast22 wInsP23 wInsL24 wInsC25 wOutsP26 wOutsL27 wOutsC28 wLiveP29 wLiveL30 wLiveC31 wGoneP32 wGoneL33 wGoneC34 which35 H K) : hcall PR f_law23_TraceStirs ⟨[(.agg #[(.int .i64 rawNodes1), (.int .i64 rawMutators2), (.int .i64 rawSlots3), (.int .i64 rawCells4), (.int .i64 rawObjects5), (.int .i64 rawStubs6), (.int .i64 rawCalls7), (.int .i64 rawWindow8), (.int .i64 rawGrey9), (.int .i64 rawBag10), (.int .i64 rawInbox11), (.int .i64 rawUnit12), (.int .i64 rawDrift13), (.int .i64 rawLease14), (.int .i64 rawWait15), (.int .i64 rawMost16), (.int .i64 rawPatience17), (.int .i64 rawSuspect18), (.int .i64 rawTrace19), (.int .i64 rawWork20), (.int .u64 rawStart21), (.int .u64 rawLast22)]), (.agg #[(.slice wInsP23 wInsL24 wInsC25), (.slice wOutsP26 wOutsL27 wOutsC28), (.slice wLiveP29 wLiveL30 wLiveC31), (.slice wGoneP32 wGoneL33 wGoneC34)]), (.int .i64 which35)]⟩ H K := denF_call Try.func9 PR_mixed (Eq.mp (E_law23_TraceStirs rawNodes1 rawMutators2 rawSlots3 rawCells4 rawObjects5 rawStubs6 rawCalls7 rawWindow8 rawGrey9 rawBag10 rawInbox11 rawUnit12 rawDrift13 rawLease14 rawWait15 rawMost16 rawPatience17 rawSuspect18 rawTrace19 rawWork20 rawStart21 rawLast22 wInsP23 wInsL24 wInsC25 wOutsP26 wOutsL27 wOutsC28 wLiveP29 wLiveL30 wLiveC31 wGoneP32 wGoneL33 wGoneC34 which35 H K) h)

end Go.Proofs.Ytknejebggegfjaa

namespace Go.Proofs.Ytknejebggegfjaa
set_option linter.unusedSimpArgs false
set_option linter.unusedVariables false
set_option maxRecDepth 20000
open Go
section
variable {H0 H : Hp} {L M N : List Prt} {i k tb : Nat} {nodes : Int} {c : Cf} {t : Tr} {w : Web} {K : Value → Hp → Prop} {ip op lp gp : Option Addr} {il ic ol oc ll lc gl gc : Nat}
/-- Whom it asks, and what of. -/
theorem Wi.tob (hn : 2 ≤ nodes ∧ nodes ≤ 4) (h : Wi nodes w i t) (h0 : t.st ≠ 0) : (0 ≤ t.q.to ∧ t.q.to ≤ 8) ∧ (t.q.kind ≠ 10 → t.q.op ≠ 3 → (0 ≤ t.q.tgt.n ∧ t.q.tgt.n ≤ 8) ∧ (0 ≤ t.q.tgt.s ∧ t.q.tgt.s ≤ 8)) ∧ (0 ≤ t.q.frm ∧ t.q.frm = 1) ∧ 1 ≤ t.q.to ∧ t.q.to ≤ nodes := by
  have hs := h.ok.st
  by_cases h1 : t.st = 1
  · obtain ⟨hi, hm⟩ := h.mem h1
    have hx := h.us _ hm
    rw [h.q1 h1]
    simp only
    rcases hx with ⟨a, b, c, d⟩ | ⟨a, b, c, d, e⟩
    · exact ⟨by omega, fun _ _ => by omega, by simp, by omega⟩
    · exact ⟨by omega, fun _ _ => ⟨by omega, by rcases e with e | e <;> omega⟩, by simp, by omega⟩
  by_cases h2 : t.st = 2
  · rw [h.q2 h2]
    simp only
    have hpos := List.length_pos_iff.2 (h.ok.two h2).1
    have hmem : t.todo.getD 0 0 ∈ t.todo := by
      rw [List.getD_eq_getElem?_getD, List.getElem?_eq_getElem hpos]
      exact List.getElem_mem _
    have := h.ok.keys _ (mlook_mem ((h.two h2).1 _ hmem))
    simp only at this
    exact ⟨by omega, fun _ h => absurd rfl h, by simp, by omega⟩
  · have h3 : t.st = 3 := by omega
    rw [h.q3 h3]
    simp only
    obtain ⟨o1, o2, o3⟩ := h.ok.three h3
    have hpos := List.length_pos_iff.2 o1
    have hmem : t.todo.getD 0 0 ∈ t.todo := by
      rw [List.getD_eq_getElem?_getD, List.getElem?_eq_getElem hpos]
      exact List.getElem_mem _
    have hb := o3 _ hmem
    have hm : t.items.getD (t.todo.getD 0 0).toNat noIt ∈ t.items := by
      rw [List.getD_eq_getElem?_getD, List.getElem?_eq_getElem (by omega)]
      exact List.getElem_mem _
    have := h.ok.nds _ hm
    exact ⟨by omega, fun h => absurd rfl h, by simp, by omega⟩
theorem Wi.item (h : Wi nodes w i t) (h0 : t.st ≠ 0) : t.q.item = i ∧ t.q.call = 1 := by
  have hs := h.ok.st
  by_cases h1 : t.st = 1
  · rw [h.q1 h1]; exact ⟨rfl, rfl⟩
  by_cases h2 : t.st = 2
  · rw [h.q2 h2]; exact ⟨rfl, rfl⟩
  · rw [h.q3 (by omega)]; exact ⟨rfl, rfl⟩
theorem ans_list {q : Qn} : ∀ n ∈ (ansW w nodes q).list, 0 ≤ n ∧ n < 18446744073709551616 := fun n hn => by
  have key : n ∈ insW w q.to q.tgt ∨ n ∈ holdW w nodes q.tgt := by
    unfold ansW at hn
    split at hn
    · cases hn
    split at hn
    · cases hn
    split at hn
    · cases hn
    split at hn
    · cases hn
    split at hn
    · exact .inr hn
    · exact .inl hn
  rcases key with h | h
  · have := ins_in h; omega
  · have := (hold_in h).1; omega
theorem ans_few {q : Qn} : (ansW w nodes q).list.length ≤ 4 := by
  have h1 : (insW w q.to q.tgt).length ≤ 4 := by
    unfold insW
    split
    · exact Nat.zero_le _
    · exact List.length_filter_le _ [1, 2, 3, 4]
  have h2 : (holdW w nodes q.tgt).length ≤ 4 := by
    unfold holdW
    split
    · exact Nat.zero_le _
    · refine Nat.le_trans (List.length_filter_le _ _) ?_
      unfold upto4
      exact List.length_filter_le _ [1, 2, 3, 4]
  unfold ansW
  split
  · exact Nat.zero_le _
  split
  · exact Nat.zero_le _
  split
  · exact Nat.zero_le _
  split
  · exact Nat.zero_le _
  split
  · exact h2
  · exact h1
theorem told_hear {a b n : Int} {m : Ms} (h : t.heeds m = true) : (t.told a b n).hear nodes m = t.hear nodes m := by
  unfold Tr.hear
  rw [if_neg (show ¬ (t.told a b n).heeds m = false by rw [show (t.told a b n).heeds m = t.heeds m from rfl, h]; decide), if_neg (show ¬ t.heeds m = false by rw [h]; decide)]
  rfl
end
theorem live0 {w : Web} {x : It} : isLive { w with live := [] } x = false := rfl
theorem Wi.found {nodes : Int} {w : Web} {i : Nat} {t : Tr} (hn : 2 ≤ nodes ∧ nodes ≤ 4) (h : Wi nodes { w with live := [] } i t) (h0 : t.st ≠ 0) (hf : t.found = 0) :
    ((t.hear nodes (ansW { w with live := [] } nodes t.q)).st = 0 → (t.hear nodes (ansW { w with live := [] } nodes t.q)).found = 1) ∧ ((t.hear nodes (ansW { w with live := [] } nodes t.q)).st ≠ 0 → (t.hear nodes (ansW { w with live := [] } nodes t.q)).found = 0) := by
  have fin1 : ∀ t : Tr, t.found = 0 → (t.finds.st = 0 → t.finds.found = 1) ∧ (t.finds.st ≠ 0 → t.finds.found = 0) := fun t hf => by
    refine ⟨fun _ => ?_, fun h => absurd rfl h⟩
    show IntKind.i64.wrap (t.found + 1) = 1
    rw [hf]; rfl
  have onw : ∀ t : Tr, t.found = 0 → t.st = 1 → (t.onward.st = 0 → t.onward.found = 1) ∧ (t.onward.st ≠ 0 → t.onward.found = 0) := fun t hf h1 => by
    unfold Tr.onward
    split
    · exact ⟨fun h => absurd h (by show ¬ t.st = 0; omega), fun _ => hf⟩
    · split
      · exact fin1 t.next hf
      · exact ⟨fun h => absurd h (by show ¬ (2 : Int) = 0; decide), fun _ => hf⟩
  have hs := h.ok.st
  by_cases h1 : t.st = 1
  · rw [(h.step1 hn h1).2, live0, if_neg (by decide)]
    split
    · exact onw (t.code 0) hf h1
    · exact onw (t.more1 nodes _ i) hf h1
  by_cases h2 : t.st = 2
  · rw [h.q2 h2, ans2, (h.step2 h2).2, if_neg (fun h => h rfl)]
    split
    · exact ⟨fun h => absurd h (by show ¬ t.st = 0; omega), fun _ => hf⟩
    · split
      · exact fin1 t.next hf
      · exact ⟨fun h => absurd h (by show ¬ (3 : Int) = 0; decide), fun _ => hf⟩
  · have h3 : t.st = 3 := by omega
    rw [(h.step3 h3).2]
    unfold Tr.buried
    split
    · exact fin1 t.next hf
    · exact ⟨fun h => absurd h (by show ¬ t.st = 0; omega), fun _ => hf⟩
theorem TraceStirs_r {r : Cf} {w : Web} {which : Int} {ip op lp gp : Option Addr} {il ic ol oc ll lc gl gc : Nat} {H : Hp} {K : Value → Hp → Prop} (h20 : 0 ≤ r.a20) (h21 : 0 ≤ r.a21) (hw : WebA H ip il op ol lp ll gp gl w) (hwh : IntKind.min .i64 ≤ which ∧ which ≤ IntKind.max .i64)
    (hK : ∀ H', Keep Nothing H H' → K (.bool true) H') : hcall PR f_law23_TraceStirs ⟨[r.raw, .agg #[.slice ip il ic, .slice op ol oc, .slice lp ll lc, .slice gp gl gc], .int .i64 which]⟩ H K := by
  apply den_law23_TraceStirs
  unfold B_law23_TraceStirs
  intro br hbr
  have g1 := (St.start H).alloc (o := .cells #[.int .i64 r.a0, .int .i64 r.a1, .int .i64 r.a2, .int .i64 r.a3, .int .i64 r.a4, .int .i64 r.a5, .int .i64 r.a6, .int .i64 r.a7, .int .i64 r.a8, .int .i64 r.a9, .int .i64 r.a10, .int .i64 r.a11, .int .i64 r.a12, .int .i64 r.a13, .int .i64 r.a14, .int .i64 r.a15, .int .i64 r.a16, .int .i64 r.a17, .int .i64 r.a18, .int .i64 r.a19, .int .u64 r.a20, .int .u64 r.a21] ty_hand_Raw) hbr
  intro bw hbw
  have g1 := g1.alloc (o := .cells #[.slice ip il ic, .slice op ol oc, .slice lp ll lc, .slice gp gl gc] ty_law23_Web) hbw
  have g1 : St H [Prt.one bw (.cells #[.slice ip il ic, .slice op ol oc, .slice lp ll lc, .slice gp gl gc] ty_law23_Web (0, 0)), Prt.one br (.cells #[.int .i64 r.a0, .int .i64 r.a1, .int .i64 r.a2, .int .i64 r.a3, .int .i64 r.a4, .int .i64 r.a5, .int .i64 r.a6, .int .i64 r.a7, .int .i64 r.a8, .int .i64 r.a9, .int .i64 r.a10, .int .i64 r.a11, .int .i64 r.a12, .int .i64 r.a13, .int .i64 r.a14, .int .i64 r.a15, .int .i64 r.a16, .int .i64 r.a17, .int .i64 r.a18, .int .i64 r.a19, .int .u64 r.a20, .int .u64 r.a21] ty_hand_Raw (0, 0))] _ := g1
  refine ldI_of (g1.cell (i := 1) rfl rfl) (ldI_of (g1.cell (i := 1) rfl rfl) (ldI_of (g1.cell (i := 1) rfl rfl) (ldI_of (g1.cell (i := 1) rfl rfl) (ldI_of (g1.cell (i := 1) rfl rfl) (ldI_of (g1.cell (i := 1) rfl rfl) (ldI_of (g1.cell (i := 1) rfl rfl) (ldI_of (g1.cell (i := 1) rfl rfl) (ldI_of (g1.cell (i := 1) rfl rfl) (ldI_of (g1.cell (i := 1) rfl rfl) (ldI_of (g1.cell (i := 1) rfl rfl) (ldI_of (g1.cell (i := 1) rfl rfl) (ldI_of (g1.cell (i := 1) rfl rfl) (ldI_of (g1.cell (i := 1) rfl rfl) (ldI_of (g1.cell (i := 1) rfl rfl) (ldI_of (g1.cell (i := 1) rfl rfl) (ldI_of (g1.cell (i := 1) rfl rfl) (ldI_of (g1.cell (i := 1) rfl rfl) (ldI_of (g1.cell (i := 1) rfl rfl) (ldI_of (g1.cell (i := 1) rfl rfl) (ldI_of (g1.cell (i := 1) rfl rfl) (ldI_of (g1.cell (i := 1) rfl rfl) (?_))))))))))))))))))))))
  have hg : (confOf r).good := conf_good h20 h21
  refine configC (r := r) g1 fun H2 g2 => ?_
  obtain ⟨c, hc⟩ : ∃ c, c = confOf r := ⟨_, rfl⟩
  rw [← hc] at hg ⊢
  unfold Cf.val
  (try simp only [asI_mk', asB_mk, asP_mk, asA_mk, asM_mk, asSl_mk, asStr_mk, tup2_mk, tup3_mk, agg1_mk, agg2_mk, agg3_mk, agg4_mk, asAggm, unCons_mk, unNil_mk, asTup_mk, extractD0, extractD1, List.toList_toArray, nilP_mk, add_mk, Nat.zero_add, Nat.add_zero, condT, condF, Bool.not_true, Bool.not_false, Option.isNone_some, Option.isNone_none])
  refine boxz (c := [.int .i64 0, .int .i64 0, .int .i64 0, .int .i64 0, .int .i64 0, .int .i64 0, .int .i64 0, .int .i64 0, .int .i64 0, .int .i64 0, .int .i64 0, .int .u64 0, .int .u64 0, .int .u64 0, .int .u64 0, .int .u64 0, .int .u64 0, .int .i64 0, .int .i64 0, .int .i64 0, .int .u64 0, .int .u64 0]) (vs := [.int .i64 c.a0, .int .i64 c.a1, .int .i64 c.a2, .int .i64 c.a3, .int .i64 c.a4, .int .i64 c.a5, .int .i64 c.a6, .int .i64 c.a7, .int .i64 c.a8, .int .i64 c.a9, .int .i64 c.a10, .int .u64 c.a11, .int .u64 c.a12, .int .u64 c.a13, .int .u64 c.a14, .int .u64 c.a15, .int .u64 c.a16, .int .i64 c.a17, .int .i64 c.a18, .int .i64 c.a19, .int .u64 c.a20, .int .u64 c.a21]) g2 rfl fun bc H3 g3 => ?_
  have g3 : St H [Prt.one bc (.cells #[.int .i64 c.a0, .int .i64 c.a1, .int .i64 c.a2, .int .i64 c.a3, .int .i64 c.a4, .int .i64 c.a5, .int .i64 c.a6, .int .i64 c.a7, .int .i64 c.a8, .int .i64 c.a9, .int .i64 c.a10, .int .u64 c.a11, .int .u64 c.a12, .int .u64 c.a13, .int .u64 c.a14, .int .u64 c.a15, .int .u64 c.a16, .int .i64 c.a17, .int .i64 c.a18, .int .i64 c.a19, .int .u64 c.a20, .int .u64 c.a21] ty_api_Config (0, 0)), Prt.one bw (.cells #[.slice ip il ic, .slice op ol oc, .slice lp ll lc, .slice gp gl gc] ty_law23_Web (0, 0)), Prt.one br (.cells #[.int .i64 r.a0, .int .i64 r.a1, .int .i64 r.a2, .int .i64 r.a3, .int .i64 r.a4, .int .i64 r.a5, .int .i64 r.a6, .int .i64 r.a7, .int .i64 r.a8, .int .i64 r.a9, .int .i64 r.a10, .int .i64 r.a11, .int .i64 r.a12, .int .i64 r.a13, .int .i64 r.a14, .int .i64 r.a15, .int .i64 r.a16, .int .i64 r.a17, .int .i64 r.a18, .int .i64 r.a19, .int .u64 r.a20, .int .u64 r.a21] ty_hand_Raw (0, 0))] H3 := g3
  refine ldI_of (g3.cell (i := 0) rfl rfl) (ldI_of (g3.cell (i := 0) rfl rfl) (ldI_of (g3.cell (i := 0) rfl rfl) (ldI_of (g3.cell (i := 0) rfl rfl) (ldI_of (g3.cell (i := 0) rfl rfl) (ldI_of (g3.cell (i := 0) rfl rfl) (ldI_of (g3.cell (i := 0) rfl rfl) (ldI_of (g3.cell (i := 0) rfl rfl) (ldI_of (g3.cell (i := 0) rfl rfl) (ldI_of (g3.cell (i := 0) rfl rfl) (ldI_of (g3.cell (i := 0) rfl rfl) (ldI_of (g3.cell (i := 0) rfl rfl) (ldI_of (g3.cell (i := 0) rfl rfl) (ldI_of (g3.cell (i := 0) rfl rfl) (ldI_of (g3.cell (i := 0) rfl rfl) (ldI_of (g3.cell (i := 0) rfl rfl) (ldI_of (g3.cell (i := 0) rfl rfl) (ldI_of (g3.cell (i := 0) rfl rfl) (ldI_of (g3.cell (i := 0) rfl rfl) (ldI_of (g3.cell (i := 0) rfl rfl) (ldI_of (g3.cell (i := 0) rfl rfl) (ldI_of (g3.cell (i := 0) rfl rfl) (?_))))))))))))))))))))))
  have ha0 := hg.a0
  have hn12 : 1 ≤ c.a0 ∧ c.a0 ≤ 12 := by omega
  refine newC (c := c) hg g3 (fun h => absurd h (by omega)) fun _ _ tb H6 g6 => ?_
  (try simp only [asI_mk', asB_mk, asP_mk, asA_mk, asM_mk, asSl_mk, asStr_mk, tup2_mk, tup3_mk, agg1_mk, agg2_mk, agg3_mk, agg4_mk, asAggm, unCons_mk, unNil_mk, asTup_mk, extractD0, extractD1, List.toList_toArray, nilP_mk, add_mk, Nat.zero_add, Nat.add_zero, condT, condF, Bool.not_true, Bool.not_false, Option.isNone_some, Option.isNone_none])
  refine knownC g6 fun H7 g7 => ?_
  (try simp only [asI_mk', asB_mk, asP_mk, asA_mk, asM_mk, asSl_mk, asStr_mk, tup2_mk, tup3_mk, agg1_mk, agg2_mk, agg3_mk, agg4_mk, asAggm, unCons_mk, unNil_mk, asTup_mk, extractD0, extractD1, List.toList_toArray, nilP_mk, add_mk, Nat.zero_add, Nat.add_zero, condT, condF, Bool.not_true, Bool.not_false, Option.isNone_some, Option.isNone_none])
  refine bif_neqf rfl ?_
  (try simp only [Option.isNone, condF])
  refine stubC g7 fun H8 g8 => ?_
  (try simp only [asI_mk', asB_mk, asP_mk, asA_mk, asM_mk, asSl_mk, asStr_mk, tup2_mk, tup3_mk, agg1_mk, agg2_mk, agg3_mk, agg4_mk, asAggm, unCons_mk, unNil_mk, asTup_mk, extractD0, extractD1, List.toList_toArray, nilP_mk, add_mk, Nat.zero_add, Nat.add_zero, condT, condF, Bool.not_true, Bool.not_false, Option.isNone_some, Option.isNone_none])
  have hb0 : (newTr 1 0).beginE c.a0 2 7 = 0 := by
    unfold Tr.beginE
    rw [if_neg (by simp [newTr]), if_neg (by decide), if_neg (by omega), if_neg (by simp [newTr]), if_neg (by decide), if_neg (by decide), if_neg (by simp [newTr])]
  refine trBeginC g8 (k := 0) rfl (by simp only [newTr]; omega) (fun h => absurd hb0 h) fun _ H9 g9 => ?_
  have g9 : St H [TrP tb c ((newTr 1 0).begun 2 7 0), Prt.one bc (.cells #[.int .i64 c.a0, .int .i64 c.a1, .int .i64 c.a2, .int .i64 c.a3, .int .i64 c.a4, .int .i64 c.a5, .int .i64 c.a6, .int .i64 c.a7, .int .i64 c.a8, .int .i64 c.a9, .int .i64 c.a10, .int .u64 c.a11, .int .u64 c.a12, .int .u64 c.a13, .int .u64 c.a14, .int .u64 c.a15, .int .u64 c.a16, .int .i64 c.a17, .int .i64 c.a18, .int .i64 c.a19, .int .u64 c.a20, .int .u64 c.a21] ty_api_Config (0, 0)), Prt.one bw (.cells #[.slice ip il ic, .slice op ol oc, .slice lp ll lc, .slice gp gl gc] ty_law23_Web (0, 0)), Prt.one br (.cells #[.int .i64 r.a0, .int .i64 r.a1, .int .i64 r.a2, .int .i64 r.a3, .int .i64 r.a4, .int .i64 r.a5, .int .i64 r.a6, .int .i64 r.a7, .int .i64 r.a8, .int .i64 r.a9, .int .i64 r.a10, .int .i64 r.a11, .int .i64 r.a12, .int .i64 r.a13, .int .i64 r.a14, .int .i64 r.a15, .int .i64 r.a16, .int .i64 r.a17, .int .i64 r.a18, .int .i64 r.a19, .int .u64 r.a20, .int .u64 r.a21] ty_hand_Raw (0, 0))] H9 := g9
  clear g8 g7 g6 g3 g2 g1
  (try simp only [asI_mk', asB_mk, asP_mk, asA_mk, asM_mk, asSl_mk, asStr_mk, tup2_mk, tup3_mk, agg1_mk, agg2_mk, agg3_mk, agg4_mk, asAggm, unCons_mk, unNil_mk, asTup_mk, extractD0, extractD1, List.toList_toArray, nilP_mk, add_mk, Nat.zero_add, Nat.add_zero, condT, condF, Bool.not_true, Bool.not_false, Option.isNone_some, Option.isNone_none])
  refine bif_neqf rfl ?_
  refine g9.put (i := 2) rfl (show 2 < 4 by decide) fun H10 g10 => ?_
  have g10 : St H [TrP tb c ((newTr 1 0).begun 2 7 0), Prt.one bc (.cells #[.int .i64 c.a0, .int .i64 c.a1, .int .i64 c.a2, .int .i64 c.a3, .int .i64 c.a4, .int .i64 c.a5, .int .i64 c.a6, .int .i64 c.a7, .int .i64 c.a8, .int .i64 c.a9, .int .i64 c.a10, .int .u64 c.a11, .int .u64 c.a12, .int .u64 c.a13, .int .u64 c.a14, .int .u64 c.a15, .int .u64 c.a16, .int .i64 c.a17, .int .i64 c.a18, .int .i64 c.a19, .int .u64 c.a20, .int .u64 c.a21] ty_api_Config (0, 0)), Prt.one bw (.cells #[.slice ip il ic, .slice op ol oc, .slice none 0 0, .slice gp gl gc] ty_law23_Web (0, 0)), Prt.one br (.cells #[.int .i64 r.a0, .int .i64 r.a1, .int .i64 r.a2, .int .i64 r.a3, .int .i64 r.a4, .int .i64 r.a5, .int .i64 r.a6, .int .i64 r.a7, .int .i64 r.a8, .int .i64 r.a9, .int .i64 r.a10, .int .i64 r.a11, .int .i64 r.a12, .int .i64 r.a13, .int .i64 r.a14, .int .i64 r.a15, .int .i64 r.a16, .int .i64 r.a17, .int .i64 r.a18, .int .i64 r.a19, .int .u64 r.a20, .int .u64 r.a21] ty_hand_Raw (0, 0))] H10 := g10
  have hw0 : WebA H ip il op ol none 0 gp gl { w with live := [] } := ⟨hw.ins, hw.outs, ⟨⟨rfl, rfl⟩, by omega⟩, hw.gone⟩
  have hs0 : Wi c.a0 { w with live := [] } 0 ((newTr 1 0).begun 2 7 0) := Wi.start (by omega)
  refine ldI_of (g10.cell (i := 1) rfl rfl) (Pick_ok (by omega) (by omega) ?_)
  (try simp only [asI_mk', asB_mk, asP_mk, asA_mk, asM_mk, asSl_mk, asStr_mk, tup2_mk, tup3_mk, agg1_mk, agg2_mk, agg3_mk, agg4_mk, asAggm, unCons_mk, unNil_mk, asTup_mk, extractD0, extractD1, List.toList_toArray, nilP_mk, add_mk, Nat.zero_add, Nat.add_zero, condT, condF, Bool.not_true, Bool.not_false, Option.isNone_some, Option.isNone_none])
  have hpk := @pick_lt which c.a0 (by omega)
  obtain ⟨who, hwho⟩ : ∃ v, v = 1 + pick which c.a0 := ⟨_, rfl⟩
  rw [wrap_i64 (n := 1 + pick which c.a0) (by omega) (by omega), ← hwho]
  intro R200 hR200
  have hQ200 : ∀ (hit : Bool) t H', t.ok c.a0 → t.st = 0 → ((t.found = 1) ↔ hit = false) → St H [TrP tb c t, Prt.one bc (.cells #[.int .i64 c.a0, .int .i64 c.a1, .int .i64 c.a2, .int .i64 c.a3, .int .i64 c.a4, .int .i64 c.a5, .int .i64 c.a6, .int .i64 c.a7, .int .i64 c.a8, .int .i64 c.a9, .int .i64 c.a10, .int .u64 c.a11, .int .u64 c.a12, .int .u64 c.a13, .int .u64 c.a14, .int .u64 c.a15, .int .u64 c.a16, .int .i64 c.a17, .int .i64 c.a18, .int .i64 c.a19, .int .u64 c.a20, .int .u64 c.a21] ty_api_Config (0, 0)), Prt.one bw (.cells #[.slice ip il ic, .slice op ol oc, .slice none 0 0, .slice gp gl gc] ty_law23_Web (0, 0)), Prt.one br (.cells #[.int .i64 r.a0, .int .i64 r.a1, .int .i64 r.a2, .int .i64 r.a3, .int .i64 r.a4, .int .i64 r.a5, .int .i64 r.a6, .int .i64 r.a7, .int .i64 r.a8, .int .i64 r.a9, .int .i64 r.a10, .int .i64 r.a11, .int .i64 r.a12, .int .i64 r.a13, .int .i64 r.a14, .int .i64 r.a15, .int .i64 r.a16, .int .i64 r.a17, .int .i64 r.a18, .int .i64 r.a19, .int .u64 r.a20, .int .u64 r.a21] ty_hand_Raw (0, 0))] H' → R200 hit H' := fun hit t H' hok h0 hf g => by
    refine hR200 hit H' ?_
    refine trCountC g (k := 0) rfl ?_
    (try simp only [asI_mk', asB_mk, asP_mk, asA_mk, asM_mk, asSl_mk, asStr_mk, tup2_mk, tup3_mk, agg1_mk, agg2_mk, agg3_mk, agg4_mk, asAggm, unCons_mk, unNil_mk, asTup_mk, extractD0, extractD1, List.toList_toArray, nilP_mk, add_mk, Nat.zero_add, Nat.add_zero, condT, condF, Bool.not_true, Bool.not_false, Option.isNone_some, Option.isNone_none])
    refine trStateC g (k := 0) rfl ?_
    (try simp only [asI_mk', asB_mk, asP_mk, asA_mk, asM_mk, asSl_mk, asStr_mk, tup2_mk, tup3_mk, agg1_mk, agg2_mk, agg3_mk, agg4_mk, asAggm, unCons_mk, unNil_mk, asTup_mk, extractD0, extractD1, List.toList_toArray, nilP_mk, add_mk, Nat.zero_add, Nat.add_zero, condT, condF, Bool.not_true, Bool.not_false, Option.isNone_some, Option.isNone_none])
    refine bif_eq h0 ?_
    have e : (((t.found : Int) == 1) == (!hit)) = true := by
      cases hit
      · rw [show ((t.found : Int) == 1) = true from beq_iff_eq.2 (hf.2 rfl)]; rfl
      · have hne : t.found ≠ 1 := fun h => by have := hf.1 h; cases this
        rw [show ((t.found : Int) == 1) = false from beq_eq_false_iff_ne.2 hne]; rfl
    rw [e]
    exact hK H' g.keep
  clear hR200
  refine ⟨fun hit i H' => ∃ (j : Nat) (t : Tr), i = j ∧ Wi c.a0 { w with live := [] } j t ∧ (hit = true → t.st = 0 ∧ t.found = 0) ∧ (hit = false → (t.st = 0 → t.found = 1) ∧ (t.st ≠ 0 → t.found = 0)) ∧ St H [TrP tb c t, Prt.one bc (.cells #[.int .i64 c.a0, .int .i64 c.a1, .int .i64 c.a2, .int .i64 c.a3, .int .i64 c.a4, .int .i64 c.a5, .int .i64 c.a6, .int .i64 c.a7, .int .i64 c.a8, .int .i64 c.a9, .int .i64 c.a10, .int .u64 c.a11, .int .u64 c.a12, .int .u64 c.a13, .int .u64 c.a14, .int .u64 c.a15, .int .u64 c.a16, .int .i64 c.a17, .int .i64 c.a18, .int .i64 c.a19, .int .u64 c.a20, .int .u64 c.a21] ty_api_Config (0, 0)), Prt.one bw (.cells #[.slice ip il ic, .slice op ol oc, .slice none 0 0, .slice gp gl gc] ty_law23_Web (0, 0)), Prt.one br (.cells #[.int .i64 r.a0, .int .i64 r.a1, .int .i64 r.a2, .int .i64 r.a3, .int .i64 r.a4, .int .i64 r.a5, .int .i64 r.a6, .int .i64 r.a7, .int .i64 r.a8, .int .i64 r.a9, .int .i64 r.a10, .int .i64 r.a11, .int .i64 r.a12, .int .i64 r.a13, .int .i64 r.a14, .int .i64 r.a15, .int .i64 r.a16, .int .i64 r.a17, .int .i64 r.a18, .int .i64 r.a19, .int .u64 r.a20, .int .u64 r.a21] ty_hand_Raw (0, 0))] H', fun _ i _ => (3000 - i).toNat, ⟨0, _, rfl, hs0, (fun h => by cases h), (fun _ => ⟨fun h => absurd h (by show ¬ (1 : Int) = 0; decide), fun _ => rfl⟩), g10⟩, ?_⟩
  clear g9 g10 hs0
  rintro hit i H12 ⟨j, t, rfl, h1, hh1, hh2, g12⟩
  have out0 : t.st = 0 → R200 hit H12 := fun h0 => by
    refine hQ200 hit t H12 h1.ok h0 ⟨fun h => ?_, fun h => (hh2 h).1 h0⟩ g12
    cases hit
    · rfl
    · have := (hh1 rfl).2; omega
  by_cases hj : (j : Int) < 2000
  rotate_left
  · refine bif_neg hj (out0 (Classical.byContradiction fun h0 => ?_))
    have := h1.lt (by omega) h0
    omega
  refine bif_pos hj (trStateC g12 (k := 0) rfl ?_)
  (try simp only [asI_mk', asB_mk, asP_mk, asA_mk, asM_mk, asSl_mk, asStr_mk, tup2_mk, tup3_mk, agg1_mk, agg2_mk, agg3_mk, agg4_mk, asAggm, unCons_mk, unNil_mk, asTup_mk, extractD0, extractD1, List.toList_toArray, nilP_mk, add_mk, Nat.zero_add, Nat.add_zero, condT, condF, Bool.not_true, Bool.not_false, Option.isNone_some, Option.isNone_none])
  by_cases h0 : t.st = 0
  · exact bif_neqf h0 (out0 h0)
  refine bif_neq h0 ?_
  clear out0 hQ200
  have hhit : hit = false := by
    cases hit
    · rfl
    · exact absurd (hh1 rfl).1 h0
  subst hhit
  have hf0 := (hh2 rfl).2 h0
  clear hh1 hh2
  have hst := h1.ok.st
  obtain ⟨q1, q2, q3, q4⟩ := h1.tob (by omega) h0
  obtain ⟨n1, n2⟩ := h1.step (by omega) h0
  have hfo := h1.found (by omega) h0 hf0
  refine trStepC g12 (k := 0) rfl (fun h => absurd h (by rw [h1.asks h0]; decide)) fun _ H13 g13 => ?_
  have g13 : St H [TrP tb c (t.told c.a14 c.a15 1099511627776), Prt.one bc (.cells #[.int .i64 c.a0, .int .i64 c.a1, .int .i64 c.a2, .int .i64 c.a3, .int .i64 c.a4, .int .i64 c.a5, .int .i64 c.a6, .int .i64 c.a7, .int .i64 c.a8, .int .i64 c.a9, .int .i64 c.a10, .int .u64 c.a11, .int .u64 c.a12, .int .u64 c.a13, .int .u64 c.a14, .int .u64 c.a15, .int .u64 c.a16, .int .i64 c.a17, .int .i64 c.a18, .int .i64 c.a19, .int .u64 c.a20, .int .u64 c.a21] ty_api_Config (0, 0)), Prt.one bw (.cells #[.slice ip il ic, .slice op ol oc, .slice none 0 0, .slice gp gl gc] ty_law23_Web (0, 0)), Prt.one br (.cells #[.int .i64 r.a0, .int .i64 r.a1, .int .i64 r.a2, .int .i64 r.a3, .int .i64 r.a4, .int .i64 r.a5, .int .i64 r.a6, .int .i64 r.a7, .int .i64 r.a8, .int .i64 r.a9, .int .i64 r.a10, .int .i64 r.a11, .int .i64 r.a12, .int .i64 r.a13, .int .i64 r.a14, .int .i64 r.a15, .int .i64 r.a16, .int .i64 r.a17, .int .i64 r.a18, .int .i64 r.a19, .int .u64 r.a20, .int .u64 r.a21] ty_hand_Raw (0, 0))] H13 := g13
  obtain ⟨q, hq⟩ : ∃ q, q = t.q := ⟨_, rfl⟩
  rw [← hq] at q1 q2 q3 q4 n1 n2 hfo ⊢
  unfold Qn.val
  (try simp only [asI_mk', asB_mk, asP_mk, asA_mk, asM_mk, asSl_mk, asStr_mk, tup2_mk, tup3_mk, agg1_mk, agg2_mk, agg3_mk, agg4_mk, asAggm, unCons_mk, unNil_mk, asTup_mk, extractD0, extractD1, List.toList_toArray, nilP_mk, add_mk, Nat.zero_add, Nat.add_zero, condT, condF, Bool.not_true, Bool.not_false, Option.isNone_some, Option.isNone_none])
  refine boxz (c := [.int .i64 0, .int .i64 0, .int .i64 0, .int .u64 0, .int .u64 0, .int .i64 0, .int .i64 0, .int .i64 0, .int .i64 0, .int .u64 0, .slice none 0 0, .int .u64 0, .int .i64 0, .int .u64 0, .int .i64 0, .int .u64 0, .int .i64 0, .int .u64 0, .slice none 0 0]) (vs := q.cells) g13 rfl fun bq H14 g14 => ?_
  have g14 : St H [Prt.one bq (.cells q.cells.toArray ty_api_Msg (0, 0)), TrP tb c (t.told c.a14 c.a15 1099511627776), Prt.one bc (.cells #[.int .i64 c.a0, .int .i64 c.a1, .int .i64 c.a2, .int .i64 c.a3, .int .i64 c.a4, .int .i64 c.a5, .int .i64 c.a6, .int .i64 c.a7, .int .i64 c.a8, .int .i64 c.a9, .int .i64 c.a10, .int .u64 c.a11, .int .u64 c.a12, .int .u64 c.a13, .int .u64 c.a14, .int .u64 c.a15, .int .u64 c.a16, .int .i64 c.a17, .int .i64 c.a18, .int .i64 c.a19, .int .u64 c.a20, .int .u64 c.a21] ty_api_Config (0, 0)), Prt.one bw (.cells #[.slice ip il ic, .slice op ol oc, .slice none 0 0, .slice gp gl gc] ty_law23_Web (0, 0)), Prt.one br (.cells #[.int .i64 r.a0, .int .i64 r.a1, .int .i64 r.a2, .int .i64 r.a3, .int .i64 r.a4, .int .i64 r.a5, .int .i64 r.a6, .int .i64 r.a7, .int .i64 r.a8, .int .i64 r.a9, .int .i64 r.a10, .int .i64 r.a11, .int .i64 r.a12, .int .i64 r.a13, .int .i64 r.a14, .int .i64 r.a15, .int .i64 r.a16, .int .i64 r.a17, .int .i64 r.a18, .int .i64 r.a19, .int .u64 r.a20, .int .u64 r.a21] ty_hand_Raw (0, 0))] H14 := g14
  clear g13 g12
  intro R308 hR308
  have hQ308 : R308 H14 := by
    refine hR308 H14 ?_
    refine ldSl_of (g14.cell (i := 3) rfl rfl) (ldSl_of (g14.cell (i := 3) rfl rfl) (ldSl_of (g14.cell (i := 3) rfl rfl) (ldSl_of (g14.cell (i := 3) rfl rfl) ?_)))
    refine ldI_of (g14.cell (i := 2) rfl rfl) (ldI_of (g14.cell (i := 2) rfl rfl) (ldI_of (g14.cell (i := 2) rfl rfl) (ldI_of (g14.cell (i := 2) rfl rfl) (ldI_of (g14.cell (i := 2) rfl rfl) (ldI_of (g14.cell (i := 2) rfl rfl) (ldI_of (g14.cell (i := 2) rfl rfl) (ldI_of (g14.cell (i := 2) rfl rfl) (ldI_of (g14.cell (i := 2) rfl rfl) (ldI_of (g14.cell (i := 2) rfl rfl) (ldI_of (g14.cell (i := 2) rfl rfl) (ldI_of (g14.cell (i := 2) rfl rfl) (ldI_of (g14.cell (i := 2) rfl rfl) (ldI_of (g14.cell (i := 2) rfl rfl) (ldI_of (g14.cell (i := 2) rfl rfl) (ldI_of (g14.cell (i := 2) rfl rfl) (ldI_of (g14.cell (i := 2) rfl rfl) (ldI_of (g14.cell (i := 2) rfl rfl) (ldI_of (g14.cell (i := 2) rfl rfl) (ldI_of (g14.cell (i := 2) rfl rfl) (ldI_of (g14.cell (i := 2) rfl rfl) (ldI_of (g14.cell (i := 2) rfl rfl) (?_))))))))))))))))))))))
    refine ldI_of (g14.cell (i := 0) rfl rfl) (ldI_of (g14.cell (i := 0) rfl rfl) (ldI_of (g14.cell (i := 0) rfl rfl) (ldI_of (g14.cell (i := 0) rfl rfl) (ldI_of (g14.cell (i := 0) rfl rfl) (ldI_of (g14.cell (i := 0) rfl rfl) (ldI_of (g14.cell (i := 0) rfl rfl) (ldI_of (g14.cell (i := 0) rfl rfl) (ldI_of (g14.cell (i := 0) rfl rfl) (ldI_of (g14.cell (i := 0) rfl rfl) (ldSl_of (g14.cell (i := 0) rfl rfl) (ldI_of (g14.cell (i := 0) rfl rfl) (ldI_of (g14.cell (i := 0) rfl rfl) (ldI_of (g14.cell (i := 0) rfl rfl) (ldI_of (g14.cell (i := 0) rfl rfl) (ldI_of (g14.cell (i := 0) rfl rfl) (ldI_of (g14.cell (i := 0) rfl rfl) (ldI_of (g14.cell (i := 0) rfl rfl) (ldSl_of (g14.cell (i := 0) rfl rfl) (?_)))))))))))))))))))
    refine answerC (q := q) hw0 hg q1 q2 g14 fun lp' ln' lc' H15 g15 => ?_
    obtain ⟨a, hae⟩ : ∃ a, a = mgOf (ansW { w with live := [] } c.a0 q) lp' ln' lc' := ⟨_, rfl⟩
    have ham : a.m = ansW { w with live := [] } c.a0 q := by rw [hae]; rfl
    have hal : a.lp = lp' ∧ a.ll = ln' := by rw [hae]; exact ⟨rfl, rfl⟩
    rw [← hae]
    unfold Mg.val
    (try simp only [asI_mk', asB_mk, asP_mk, asA_mk, asM_mk, asSl_mk, asStr_mk, tup2_mk, tup3_mk, agg1_mk, agg2_mk, agg3_mk, agg4_mk, asAggm, unCons_mk, unNil_mk, asTup_mk, extractD0, extractD1, List.toList_toArray, nilP_mk, add_mk, Nat.zero_add, Nat.add_zero, condT, condF, Bool.not_true, Bool.not_false, Option.isNone_some, Option.isNone_none])
    refine boxz (c := [.int .i64 0, .int .i64 0, .int .i64 0, .int .u64 0, .int .u64 0, .int .i64 0, .int .i64 0, .int .i64 0, .int .i64 0, .int .u64 0, .slice none 0 0, .int .u64 0, .int .i64 0, .int .u64 0, .int .i64 0, .int .u64 0, .int .i64 0, .int .u64 0, .slice none 0 0]) (vs := a.cells) g15 rfl fun ba H16 g16 => ?_
    have g16 : St H [Prt.one ba (.cells a.cells.toArray ty_api_Msg (0, 0)), Prt.row 1 lp' ln' lc' ((ansW { w with live := [] } c.a0 q).list.map (Value.int .u64)), Prt.one bq (.cells q.cells.toArray ty_api_Msg (0, 0)), TrP tb c (t.told c.a14 c.a15 1099511627776), Prt.one bc (.cells #[.int .i64 c.a0, .int .i64 c.a1, .int .i64 c.a2, .int .i64 c.a3, .int .i64 c.a4, .int .i64 c.a5, .int .i64 c.a6, .int .i64 c.a7, .int .i64 c.a8, .int .i64 c.a9, .int .i64 c.a10, .int .u64 c.a11, .int .u64 c.a12, .int .u64 c.a13, .int .u64 c.a14, .int .u64 c.a15, .int .u64 c.a16, .int .i64 c.a17, .int .i64 c.a18, .int .i64 c.a19, .int .u64 c.a20, .int .u64 c.a21] ty_api_Config (0, 0)), Prt.one bw (.cells #[.slice ip il ic, .slice op ol oc, .slice none 0 0, .slice gp gl gc] ty_law23_Web (0, 0)), Prt.one br (.cells #[.int .i64 r.a0, .int .i64 r.a1, .int .i64 r.a2, .int .i64 r.a3, .int .i64 r.a4, .int .i64 r.a5, .int .i64 r.a6, .int .i64 r.a7, .int .i64 r.a8, .int .i64 r.a9, .int .i64 r.a10, .int .i64 r.a11, .int .i64 r.a12, .int .i64 r.a13, .int .i64 r.a14, .int .i64 r.a15, .int .i64 r.a16, .int .i64 r.a17, .int .i64 r.a18, .int .i64 r.a19, .int .u64 r.a20, .int .u64 r.a21] ty_hand_Raw (0, 0))] H16 := g16
    clear g15 g14
    intro R452 hR452
    have hrow : ∀ H', Rd H' 1 lp' ln' ((ansW { w with live := [] } c.a0 q).list.map (Value.int .u64)) → ln' = (ansW { w with live := [] } c.a0 q).list.length := fun H' h => by simpa using h.1.symm
    have hln := hrow H16 (g16.row_rd (i := 1) rfl)
    have hll : (ansW { w with live := [] } c.a0 q).list.length ≤ 4 := ans_few
    have hQ452 : ∀ (hit : Bool) (b : Mg) H', t.heeds b.m = true → b.m.list = a.m.list → b.lp = a.lp → b.ll = a.ll → Wi c.a0 { w with live := [] } (j + 1) (t.hear c.a0 b.m) → (hit = true → (t.hear c.a0 b.m).st = 0 ∧ (t.hear c.a0 b.m).found = 0) → (hit = false → ((t.hear c.a0 b.m).st = 0 → (t.hear c.a0 b.m).found = 1) ∧ ((t.hear c.a0 b.m).st ≠ 0 → (t.hear c.a0 b.m).found = 0)) →
        St H [Prt.one ba (.cells b.cells.toArray ty_api_Msg (0, 0)), Prt.row 1 lp' ln' lc' ((ansW { w with live := [] } c.a0 q).list.map (Value.int .u64)), Prt.one bq (.cells q.cells.toArray ty_api_Msg (0, 0)), TrP tb c (t.told c.a14 c.a15 1099511627776), Prt.one bc (.cells #[.int .i64 c.a0, .int .i64 c.a1, .int .i64 c.a2, .int .i64 c.a3, .int .i64 c.a4, .int .i64 c.a5, .int .i64 c.a6, .int .i64 c.a7, .int .i64 c.a8, .int .i64 c.a9, .int .i64 c.a10, .int .u64 c.a11, .int .u64 c.a12, .int .u64 c.a13, .int .u64 c.a14, .int .u64 c.a15, .int .u64 c.a16, .int .i64 c.a17, .int .i64 c.a18, .int .i64 c.a19, .int .u64 c.a20, .int .u64 c.a21] ty_api_Config (0, 0)), Prt.one bw (.cells #[.slice ip il ic, .slice op ol oc, .slice none 0 0, .slice gp gl gc] ty_law23_Web (0, 0)), Prt.one br (.cells #[.int .i64 r.a0, .int .i64 r.a1, .int .i64 r.a2, .int .i64 r.a3, .int .i64 r.a4, .int .i64 r.a5, .int .i64 r.a6, .int .i64 r.a7, .int .i64 r.a8, .int .i64 r.a9, .int .i64 r.a10, .int .i64 r.a11, .int .i64 r.a12, .int .i64 r.a13, .int .i64 r.a14, .int .i64 r.a15, .int .i64 r.a16, .int .i64 r.a17, .int .i64 r.a18, .int .i64 r.a19, .int .u64 r.a20, .int .u64 r.a21] ty_hand_Raw (0, 0))] H' → R452 hit H' := fun hit b H' hb1 hb2 hb3 hb4 hb5 hb6 hb7 g => by
      refine hR452 hit H' ?_
      clear hR452 g16
      refine ldI_of (g.cell (i := 0) rfl rfl) (ldI_of (g.cell (i := 0) rfl rfl) (ldI_of (g.cell (i := 0) rfl rfl) (ldI_of (g.cell (i := 0) rfl rfl) (ldI_of (g.cell (i := 0) rfl rfl) (ldI_of (g.cell (i := 0) rfl rfl) (ldI_of (g.cell (i := 0) rfl rfl) (ldI_of (g.cell (i := 0) rfl rfl) (ldI_of (g.cell (i := 0) rfl rfl) (ldI_of (g.cell (i := 0) rfl rfl) (ldSl_of (g.cell (i := 0) rfl rfl) (ldI_of (g.cell (i := 0) rfl rfl) (ldI_of (g.cell (i := 0) rfl rfl) (ldI_of (g.cell (i := 0) rfl rfl) (ldI_of (g.cell (i := 0) rfl rfl) (ldI_of (g.cell (i := 0) rfl rfl) (ldI_of (g.cell (i := 0) rfl rfl) (ldI_of (g.cell (i := 0) rfl rfl) (ldSl_of (g.cell (i := 0) rfl rfl) (?_)))))))))))))))))))
      refine trHearG (m := b.m) (t := t.told c.a14 c.a15 1099511627776) g (k := 3) rfl hn12 (fun _ _ => ⟨?_, ?_, ?_, fun N M H' hot h' => ?_⟩) fun H5 g5 => ?_
      · rw [hb2, hb4, hal.2, ham]; exact hln
      · rw [hb4, hal.2, hln]; omega
      · rw [hb2, ham]; exact ans_list
      · rw [hb2, hb3, hb4, hal.1, hal.2, ham]
        exact (St.lesses (M := N) h').row_rd (hot 1 _ rfl (by decide))
      rw [told_hear hb1] at g5
      (try simp only [asI_mk', asB_mk, asP_mk, asA_mk, asM_mk, asSl_mk, asStr_mk, tup2_mk, tup3_mk, agg1_mk, agg2_mk, agg3_mk, agg4_mk, asAggm, unCons_mk, unNil_mk, asTup_mk, extractD0, extractD1, List.toList_toArray, nilP_mk, add_mk, Nat.zero_add, Nat.add_zero, condT, condF, Bool.not_true, Bool.not_false, Option.isNone_some, Option.isNone_none])
      have g5 : St H [Prt.one ba (.cells b.cells.toArray ty_api_Msg (0, 0)), Prt.row 1 lp' ln' lc' ((ansW { w with live := [] } c.a0 q).list.map (Value.int .u64)), Prt.one bq (.cells q.cells.toArray ty_api_Msg (0, 0)), TrP tb c (t.hear c.a0 b.m), Prt.one bc (.cells #[.int .i64 c.a0, .int .i64 c.a1, .int .i64 c.a2, .int .i64 c.a3, .int .i64 c.a4, .int .i64 c.a5, .int .i64 c.a6, .int .i64 c.a7, .int .i64 c.a8, .int .i64 c.a9, .int .i64 c.a10, .int .u64 c.a11, .int .u64 c.a12, .int .u64 c.a13, .int .u64 c.a14, .int .u64 c.a15, .int .u64 c.a16, .int .i64 c.a17, .int .i64 c.a18, .int .i64 c.a19, .int .u64 c.a20, .int .u64 c.a21] ty_api_Config (0, 0)), Prt.one bw (.cells #[.slice ip il ic, .slice op ol oc, .slice none 0 0, .slice gp gl gc] ty_law23_Web (0, 0)), Prt.one br (.cells #[.int .i64 r.a0, .int .i64 r.a1, .int .i64 r.a2, .int .i64 r.a3, .int .i64 r.a4, .int .i64 r.a5, .int .i64 r.a6, .int .i64 r.a7, .int .i64 r.a8, .int .i64 r.a9, .int .i64 r.a10, .int .i64 r.a11, .int .i64 r.a12, .int .i64 r.a13, .int .i64 r.a14, .int .i64 r.a15, .int .i64 r.a16, .int .i64 r.a17, .int .i64 r.a18, .int .i64 r.a19, .int .u64 r.a20, .int .u64 r.a21] ty_hand_Raw (0, 0))] H5 := g5
      have g6 := St.lesses (M := [_, _, _]) g5
      rw [wrap_i64 (by omega) (by omega)]
      exact ⟨⟨j + 1, _, by omega, hb5, hb6, hb7, g6⟩, by (try dsimp only); omega⟩
    clear hR452
    refine ldI_of (g16.cell (i := 2) rfl rfl) ?_
    have same : R452 false H16 := hQ452 false a H16 (by rw [ham]; exact n1) rfl rfl rfl (by rw [ham]; exact n2) (fun h => by cases h) (fun _ => by rw [ham]; exact hfo) g16
    by_cases k3 : q.op = 3
    rotate_left
    · exact bif_ne k3 same
    refine bif_eq k3 (ldI_of (g16.cell (i := 2) rfl rfl) ?_)
    by_cases k4 : q.to = who
    rotate_left
    · exact bif_ne k4 same
    refine bif_eq k4 (g16.put (i := 0) rfl (show 17 < 19 by decide) fun H17 g17 => ?_)
    have h2 : t.st = 2 := by
      by_cases a1 : t.st = 1
      · rw [hq, h1.q1 a1] at k3
        simp only at k3
        split at k3 <;> omega
      by_cases a3 : t.st = 3
      · rw [hq, h1.q3 a3] at k3
        simp only at k3
        omega
      omega
    have ha : a.m = ⟨9, t.todo.getD 0 0, 1, 1, j, 2, 10 + t.todo.getD 0 0, []⟩ := by rw [ham, hq, h1.q2 h2, ans2]
    have hst2 := h1.step2 h2 (s := 99) (l := [])
    have hne : (99 : Int) ≠ 10 + t.todo.getD 0 0 := by
      have : q.to = t.todo.getD 0 0 := by rw [hq, h1.q2 h2]
      omega
    rw [if_pos hne] at hst2
    refine hQ452 true { a with m := { a.m with stamp := 99 } } H17 ?_ rfl rfl rfl ?_ (fun _ => ?_) (fun h => by cases h) g17
    · rw [ha]; exact hst2.1
    · rw [ha]
      show Wi c.a0 _ (j + 1) (t.hear c.a0 ⟨9, t.todo.getD 0 0, 1, 1, j, 2, 99, []⟩)
      rw [hst2.2]
      exact h1.over
    · rw [ha]
      show (t.hear c.a0 ⟨9, t.todo.getD 0 0, 1, 1, j, 2, 99, []⟩).st = 0 ∧ (t.hear c.a0 ⟨9, t.todo.getD 0 0, 1, 1, j, 2, 99, []⟩).found = 0
      rw [hst2.2]
      exact ⟨rfl, hf0⟩
  clear hR308
  refine ldI_of (g14.cell (i := 0) rfl rfl) ?_
  by_cases k1 : q.kind = 10
  · exact bif_eq k1 hQ308
  · exact bif_ne k1 hQ308
theorem TraceStirs_ok {x : E_hand_Raw} {w : Web} {which : Int} {ip op lp gp : Option Addr} {il ic ol oc ll lc gl gc : Nat} {H : Hp} {K : Value → Hp → Prop} (hx : x.ok) (hw : WebA H ip il op ol lp ll gp gl w) (hwh : IntKind.min .i64 ≤ which ∧ which ≤ IntKind.max .i64)
    (hK : ∀ H', Keep Nothing H H' → K (.bool true) H') : hcall PR f_law23_TraceStirs ⟨[.agg x.cells.toArray, .agg #[.slice ip il ic, .slice op ol oc, .slice lp ll lc, .slice gp gl gc], .int .i64 which]⟩ H K :=
  TraceStirs_r (r := rawOf x) hx.Start.1 hx.Last.1 hw hwh hK
end Go.Proofs.Ytknejebggegfjaa
