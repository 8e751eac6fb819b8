/- Merged by merge.py: DenLaw23TraceKnown, DenLaw23TraceWaits, Law23k, DenLaw23TraceStale, DenLaw23TraceStirs, Law23s. No condition. -/
import Derived.Test.YtknejebggegfjaaZNum
import Derived.Test.YtknejebggegfjaaZTraceb

namespace Go.Proofs.Ytknejebggegfjaa
open Go
set_option linter.unusedVariables false
set_option maxRecDepth 100000
end Go.Proofs.Ytknejebggegfjaa

namespace Go.Proofs.Ytknejebggegfjaa
open Go
set_option linter.unusedVariables false
set_option maxRecDepth 100000
end Go.Proofs.Ytknejebggegfjaa

namespace Go.Proofs.Ytknejebggegfjaa
set_option linter.unusedSimpArgs false
set_option linter.unusedVariables false
set_option maxRecDepth 20000
open Go
def rawOf (x : E_hand_Raw) : Cf := ⟨x.Nodes, x.Mutators, x.Slots, x.Cells, x.Objects, x.Stubs, x.Calls, x.Window, x.Grey, x.Bag, x.Inbox, x.Unit, x.Drift, x.Lease, x.Wait, x.Most, x.Patience, x.Suspect, x.Trace, x.Work, x.Start, x.Last⟩
end Go.Proofs.Ytknejebggegfjaa

namespace Go.Proofs.Ytknejebggegfjaa
open Go
set_option linter.unusedVariables false
set_option maxRecDepth 100000
def B_law23_TraceStale (rawNodes1 : Int) (rawMutators2 : Int) (rawSlots3 : Int) (rawCells4 : Int) (rawObjects5 : Int) (rawStubs6 : Int) (rawCalls7 : Int) (rawWindow8 : Int) (rawGrey9 : Int) (rawBag10 : Int) (rawInbox11 : Int) (rawUnit12 : Int) (rawDrift13 : Int) (rawLease14 : Int) (rawWait15 : Int) (rawMost16 : Int) (rawPatience17 : Int) (rawSuspect18 : Int) (rawTrace19 : Int) (rawWork20 : Int) (rawStart21 : Int) (rawLast22 : Int) (wInsP23 : Option Addr) (wInsL24 : Nat) (wInsC25 : Nat) (wOutsP26 : Option Addr) (wOutsL27 : Nat) (wOutsC28 : Nat) (wLiveP29 : Option Addr) (wLiveL30 : Nat) (wLiveC31 : Nat) (wGoneP32 : Option Addr) (wGoneL33 : Nat) (wGoneC34 : Nat) (off35 : Int) (H : Hp) (K : Value → Hp → Prop) : Prop :=
 newB (.cells #[(.int .i64 rawNodes1), (.int .i64 rawMutators2), (.int .i64 rawSlots3), (.int .i64 rawCells4), (.int .i64 rawObjects5), (.int .i64 rawStubs6), (.int .i64 rawCalls7), (.int .i64 rawWindow8), (.int .i64 rawGrey9), (.int .i64 rawBag10), (.int .i64 rawInbox11), (.int .i64 rawUnit12), (.int .i64 rawDrift13), (.int .i64 rawLease14), (.int .i64 rawWait15), (.int .i64 rawMost16), (.int .i64 rawPatience17), (.int .i64 rawSuspect18), (.int .i64 rawTrace19), (.int .i64 rawWork20), (.int .u64 rawStart21), (.int .u64 rawLast22)] ty_hand_Raw) H fun b36 Hx37 =>
 newB (.cells #[(.slice wInsP23 wInsL24 wInsC25), (.slice wOutsP26 wOutsL27 wOutsC28), (.slice wLiveP29 wLiveL30 wLiveC31), (.slice wGoneP32 wGoneL33 wGoneC34)] ty_law23_Web) Hx37 fun b38 Hx39 =>
 ldI .i64 ⟨b36, 0, none⟩ Hx39 fun Nodes40 =>
 ldI .i64 ⟨b36, 1, none⟩ Hx39 fun Mutators41 =>
 ldI .i64 ⟨b36, 2, none⟩ Hx39 fun Slots42 =>
 ldI .i64 ⟨b36, 3, none⟩ Hx39 fun Cells43 =>
 ldI .i64 ⟨b36, 4, none⟩ Hx39 fun Objects44 =>
 ldI .i64 ⟨b36, 5, none⟩ Hx39 fun Stubs45 =>
 ldI .i64 ⟨b36, 6, none⟩ Hx39 fun Calls46 =>
 ldI .i64 ⟨b36, 7, none⟩ Hx39 fun Window47 =>
 ldI .i64 ⟨b36, 8, none⟩ Hx39 fun Grey48 =>
 ldI .i64 ⟨b36, 9, none⟩ Hx39 fun Bag49 =>
 ldI .i64 ⟨b36, 10, none⟩ Hx39 fun Inbox50 =>
 ldI .i64 ⟨b36, 11, none⟩ Hx39 fun Unit51 =>
 ldI .i64 ⟨b36, 12, none⟩ Hx39 fun Drift52 =>
 ldI .i64 ⟨b36, 13, none⟩ Hx39 fun Lease53 =>
 ldI .i64 ⟨b36, 14, none⟩ Hx39 fun Wait54 =>
 ldI .i64 ⟨b36, 15, none⟩ Hx39 fun Most55 =>
 ldI .i64 ⟨b36, 16, none⟩ Hx39 fun Patience56 =>
 ldI .i64 ⟨b36, 17, none⟩ Hx39 fun Suspect57 =>
 ldI .i64 ⟨b36, 18, none⟩ Hx39 fun Trace58 =>
 ldI .i64 ⟨b36, 19, none⟩ Hx39 fun Work59 =>
 ldI .u64 ⟨b36, 20, none⟩ Hx39 fun Start60 =>
 ldI .u64 ⟨b36, 21, none⟩ Hx39 fun Last61 =>
 hcall PR f_hand_Config ⟨[(.agg #[(.int .i64 Nodes40), (.int .i64 Mutators41), (.int .i64 Slots42), (.int .i64 Cells43), (.int .i64 Objects44), (.int .i64 Stubs45), (.int .i64 Calls46), (.int .i64 Window47), (.int .i64 Grey48), (.int .i64 Bag49), (.int .i64 Inbox50), (.int .i64 Unit51), (.int .i64 Drift52), (.int .i64 Lease53), (.int .i64 Wait54), (.int .i64 Most55), (.int .i64 Patience56), (.int .i64 Suspect57), (.int .i64 Trace58), (.int .i64 Work59), (.int .u64 Start60), (.int .u64 Last61)])]⟩ Hx39 fun v62 Hx63 =>
 asAgg' v62 fun cs64 =>
 unCons cs64.toList fun v65 r66 =>
 unCons r66 fun v67 r68 =>
 unCons r68 fun v69 r70 =>
 unCons r70 fun v71 r72 =>
 unCons r72 fun v73 r74 =>
 unCons r74 fun v75 r76 =>
 unCons r76 fun v77 r78 =>
 unCons r78 fun v79 r80 =>
 unCons r80 fun v81 r82 =>
 unCons r82 fun v83 r84 =>
 unCons r84 fun v85 r86 =>
 unCons r86 fun v87 r88 =>
 unCons r88 fun v89 r90 =>
 unCons r90 fun v91 r92 =>
 unCons r92 fun v93 r94 =>
 unCons r94 fun v95 r96 =>
 unCons r96 fun v97 r98 =>
 unCons r98 fun v99 r100 =>
 unCons r100 fun v101 r102 =>
 unCons r102 fun v103 r104 =>
 unCons r104 fun v105 r106 =>
 unCons r106 fun v107 r108 =>
 unNil r108 <|
 asI .i64 v65 fun Nodes109 =>
 asI .i64 v67 fun Mutators110 =>
 asI .i64 v69 fun Slots111 =>
 asI .i64 v71 fun Cells112 =>
 asI .i64 v73 fun Objects113 =>
 asI .i64 v75 fun Stubs114 =>
 asI .i64 v77 fun Calls115 =>
 asI .i64 v79 fun Window116 =>
 asI .i64 v81 fun Grey117 =>
 asI .i64 v83 fun Bag118 =>
 asI .i64 v85 fun Inbox119 =>
 asI .u64 v87 fun Unit120 =>
 asI .u64 v89 fun Drift121 =>
 asI .u64 v91 fun Lease122 =>
 asI .u64 v93 fun Wait123 =>
 asI .u64 v95 fun Most124 =>
 asI .u64 v97 fun Patience125 =>
 asI .i64 v99 fun Suspect126 =>
 asI .i64 v101 fun Trace127 =>
 asI .i64 v103 fun Work128 =>
 asI .u64 v105 fun Start129 =>
 asI .u64 v107 fun Last130 =>
 newB (.cells #[(.int .i64 0), (.int .i64 0), (.int .i64 0), (.int .i64 0), (.int .i64 0), (.int .i64 0), (.int .i64 0), (.int .i64 0), (.int .i64 0), (.int .i64 0), (.int .i64 0), (.int .u64 0), (.int .u64 0), (.int .u64 0), (.int .u64 0), (.int .u64 0), (.int .u64 0), (.int .i64 0), (.int .i64 0), (.int .i64 0), (.int .u64 0), (.int .u64 0)] ty_api_Config) Hx63 fun b131 Hx132 =>
 st ⟨b131, 0, none⟩ (.int .i64 Nodes109) Hx132 fun Hx133 =>
 st ⟨b131, 1, none⟩ (.int .i64 Mutators110) Hx133 fun Hx134 =>
 st ⟨b131, 2, none⟩ (.int .i64 Slots111) Hx134 fun Hx135 =>
 st ⟨b131, 3, none⟩ (.int .i64 Cells112) Hx135 fun Hx136 =>
 st ⟨b131, 4, none⟩ (.int .i64 Objects113) Hx136 fun Hx137 =>
 st ⟨b131, 5, none⟩ (.int .i64 Stubs114) Hx137 fun Hx138 =>
 st ⟨b131, 6, none⟩ (.int .i64 Calls115) Hx138 fun Hx139 =>
 st ⟨b131, 7, none⟩ (.int .i64 Window116) Hx139 fun Hx140 =>
 st ⟨b131, 8, none⟩ (.int .i64 Grey117) Hx140 fun Hx141 =>
 st ⟨b131, 9, none⟩ (.int .i64 Bag118) Hx141 fun Hx142 =>
 st ⟨b131, 10, none⟩ (.int .i64 Inbox119) Hx142 fun Hx143 =>
 st ⟨b131, 11, none⟩ (.int .u64 Unit120) Hx143 fun Hx144 =>
 st ⟨b131, 12, none⟩ (.int .u64 Drift121) Hx144 fun Hx145 =>
 st ⟨b131, 13, none⟩ (.int .u64 Lease122) Hx145 fun Hx146 =>
 st ⟨b131, 14, none⟩ (.int .u64 Wait123) Hx146 fun Hx147 =>
 st ⟨b131, 15, none⟩ (.int .u64 Most124) Hx147 fun Hx148 =>
 st ⟨b131, 16, none⟩ (.int .u64 Patience125) Hx148 fun Hx149 =>
 st ⟨b131, 17, none⟩ (.int .i64 Suspect126) Hx149 fun Hx150 =>
 st ⟨b131, 18, none⟩ (.int .i64 Trace127) Hx150 fun Hx151 =>
 st ⟨b131, 19, none⟩ (.int .i64 Work128) Hx151 fun Hx152 =>
 st ⟨b131, 20, none⟩ (.int .u64 Start129) Hx152 fun Hx153 =>
 st ⟨b131, 21, none⟩ (.int .u64 Last130) Hx153 fun Hx154 =>
 ldI .i64 ⟨b131, 0, none⟩ Hx154 fun Nodes155 =>
 ldI .i64 ⟨b131, 1, none⟩ Hx154 fun Mutators156 =>
 ldI .i64 ⟨b131, 2, none⟩ Hx154 fun Slots157 =>
 ldI .i64 ⟨b131, 3, none⟩ Hx154 fun Cells158 =>
 ldI .i64 ⟨b131, 4, none⟩ Hx154 fun Objects159 =>
 ldI .i64 ⟨b131, 5, none⟩ Hx154 fun Stubs160 =>
 ldI .i64 ⟨b131, 6, none⟩ Hx154 fun Calls161 =>
 ldI .i64 ⟨b131, 7, none⟩ Hx154 fun Window162 =>
 ldI .i64 ⟨b131, 8, none⟩ Hx154 fun Grey163 =>
 ldI .i64 ⟨b131, 9, none⟩ Hx154 fun Bag164 =>
 ldI .i64 ⟨b131, 10, none⟩ Hx154 fun Inbox165 =>
 ldI .u64 ⟨b131, 11, none⟩ Hx154 fun Unit166 =>
 ldI .u64 ⟨b131, 12, none⟩ Hx154 fun Drift167 =>
 ldI .u64 ⟨b131, 13, none⟩ Hx154 fun Lease168 =>
 ldI .u64 ⟨b131, 14, none⟩ Hx154 fun Wait169 =>
 ldI .u64 ⟨b131, 15, none⟩ Hx154 fun Most170 =>
 ldI .u64 ⟨b131, 16, none⟩ Hx154 fun Patience171 =>
 ldI .i64 ⟨b131, 17, none⟩ Hx154 fun Suspect172 =>
 ldI .i64 ⟨b131, 18, none⟩ Hx154 fun Trace173 =>
 ldI .i64 ⟨b131, 19, none⟩ Hx154 fun Work174 =>
 ldI .u64 ⟨b131, 20, none⟩ Hx154 fun Start175 =>
 ldI .u64 ⟨b131, 21, none⟩ Hx154 fun Last176 =>
 hcall PR f_trace_New ⟨[(.agg #[(.int .i64 Nodes155), (.int .i64 Mutators156), (.int .i64 Slots157), (.int .i64 Cells158), (.int .i64 Objects159), (.int .i64 Stubs160), (.int .i64 Calls161), (.int .i64 Window162), (.int .i64 Grey163), (.int .i64 Bag164), (.int .i64 Inbox165), (.int .u64 Unit166), (.int .u64 Drift167), (.int .u64 Lease168), (.int .u64 Wait169), (.int .u64 Most170), (.int .u64 Patience171), (.int .i64 Suspect172), (.int .i64 Trace173), (.int .i64 Work174), (.int .u64 Start175), (.int .u64 Last176)]), (.int .i64 1), (.int .u64 0)]⟩ Hx154 fun v177 Hx178 =>
 tup2 v177 fun v179 v180 =>
 asP v179 fun t181 =>
 asI .i64 v180 fun t182 =>
 hcall PR f_law23_known ⟨[]⟩ Hx178 fun v183 Hx184 =>
 asB v183 fun t185 =>
 (bif (!t185) then
 K (.bool false) Hx184
else
 (bif ((t182 : Int) != 0) then
 K (.bool false) Hx184
else
 (bif (Option.isNone (α := Addr) t181) then
 K (.bool false) Hx184
else
 hcall PR f_law23_stub ⟨[]⟩ Hx184 fun v186 Hx187 =>
 agg2 v186 fun v188 v189 =>
 asI .i64 v188 fun Node190 =>
 asI .u64 v189 fun Serial191 =>
 hcall PR f_trace_Trace_Begin ⟨[(.pointer t181), (.agg #[(.int .i64 Node190), (.int .u64 Serial191)]), (.int .u64 0)]⟩ Hx187 fun v192 Hx193 =>
 asI .i64 v192 fun t194 =>
 (bif ((t194 : Int) != 0) then
 K (.bool false) Hx193
else
 newB (.cells #[(.int .i64 0), (.int .i64 0), (.int .i64 0), (.int .u64 0), (.int .u64 0), (.int .i64 0), (.int .i64 0), (.int .i64 0), (.int .i64 0), (.int .u64 0), (.slice none 0 0), (.int .u64 0), (.int .i64 0), (.int .u64 0), (.int .i64 0), (.int .u64 0), (.int .i64 0), (.int .u64 0), (.slice none 0 0)] ty_api_Msg) Hx193 fun b195 Hx196 =>
 ∀ R197 : Hp → Prop, (∀ Hx198 : Hp, (
 hcall PR f_trace_Trace_State ⟨[(.pointer t181)]⟩ Hx198 fun v199 Hx200 =>
 asI .i64 v199 fun t201 =>
 (bif ((t201 : Int) == 0) then
 ldI .i64 ⟨b195, 0, none⟩ Hx200 fun Kind202 =>
 ldI .i64 ⟨b195, 1, none⟩ Hx200 fun From203 =>
 ldI .i64 ⟨b195, 2, none⟩ Hx200 fun To204 =>
 ldI .u64 ⟨b195, 3, none⟩ Hx200 fun Call205 =>
 ldI .u64 ⟨b195, 4, none⟩ Hx200 fun Floor206 =>
 ldI .i64 ⟨b195, 5, none⟩ Hx200 fun Op207 =>
 ldI .i64 ⟨b195, 6, none⟩ Hx200 fun Field208 =>
 ldI .i64 ⟨b195, 7, none⟩ Hx200 fun Item209 =>
 ldI .i64 ⟨b195, 8, none⟩ Hx200 fun Node210 =>
 ldI .u64 ⟨b195, 9, none⟩ Hx200 fun Serial211 =>
 ldSl ⟨b195, 10, none⟩ Hx200 fun RefsP212 RefsL213 RefsC214 =>
 ldI .u64 ⟨b195, 11, none⟩ Hx200 fun Value215 =>
 ldI .i64 ⟨b195, 12, none⟩ Hx200 fun Code216 =>
 ldI .u64 ⟨b195, 13, none⟩ Hx200 fun Seq217 =>
 ldI .i64 ⟨b195, 14, none⟩ Hx200 fun Voucher218 =>
 ldI .u64 ⟨b195, 15, none⟩ Hx200 fun At219 =>
 ldI .i64 ⟨b195, 16, none⟩ Hx200 fun Dist220 =>
 ldI .u64 ⟨b195, 17, none⟩ Hx200 fun Stamp221 =>
 ldSl ⟨b195, 18, none⟩ Hx200 fun ListP222 ListL223 ListC224 =>
 hcall PR f_trace_Trace_Hear ⟨[(.pointer t181), (.agg #[(.int .i64 Kind202), (.int .i64 From203), (.int .i64 To204), (.int .u64 Call205), (.int .u64 Floor206), (.int .i64 Op207), (.int .i64 Field208), (.int .i64 Item209), (.int .i64 Node210), (.int .u64 Serial211), (.slice RefsP212 RefsL213 RefsC214), (.int .u64 Value215), (.int .i64 Code216), (.int .u64 Seq217), (.int .i64 Voucher218), (.int .u64 At219), (.int .i64 Dist220), (.int .u64 Stamp221), (.slice ListP222 ListL223 ListC224)])]⟩ Hx200 fun v225 Hx226 =>
 asB v225 fun t227 =>
 K (.bool (!t227)) Hx226
else
 K (.bool false) Hx200)) → R197 Hx198) →
 ∃ (I228 : Int → Hp → Prop) (m229 : Int → Hp → Nat), I228 0 Hx196 ∧ ∀ i231 : Int, ∀ Hx230 : Hp, I228 i231 Hx230 →
 (bif (decide ((i231 : Int) < 300)) then
 hcall PR f_trace_Trace_State ⟨[(.pointer t181)]⟩ Hx230 fun v232 Hx233 =>
 asI .i64 v232 fun t234 =>
 (bif ((t234 : Int) != 0) then
 hcall PR f_trace_Trace_Step ⟨[(.pointer t181), (.int .u64 1099511627776)]⟩ Hx233 fun v235 Hx236 =>
 tup2 v235 fun v237 v238 =>
 asAgg' v237 fun cs239 =>
 unCons cs239.toList fun v240 r241 =>
 unCons r241 fun v242 r243 =>
 unCons r243 fun v244 r245 =>
 unCons r245 fun v246 r247 =>
 unCons r247 fun v248 r249 =>
 unCons r249 fun v250 r251 =>
 unCons r251 fun v252 r253 =>
 unCons r253 fun v254 r255 =>
 unCons r255 fun v256 r257 =>
 unCons r257 fun v258 r259 =>
 unCons r259 fun v260 r261 =>
 unCons r261 fun v262 r263 =>
 unCons r263 fun v264 r265 =>
 unCons r265 fun v266 r267 =>
 unCons r267 fun v268 r269 =>
 unCons r269 fun v270 r271 =>
 unCons r271 fun v272 r273 =>
 unCons r273 fun v274 r275 =>
 unCons r275 fun v276 r277 =>
 unNil r277 <|
 asI .i64 v240 fun Kind278 =>
 asI .i64 v242 fun From279 =>
 asI .i64 v244 fun To280 =>
 asI .u64 v246 fun Call281 =>
 asI .u64 v248 fun Floor282 =>
 asI .i64 v250 fun Op283 =>
 asI .i64 v252 fun Field284 =>
 asI .i64 v254 fun Item285 =>
 asI .i64 v256 fun Node286 =>
 asI .u64 v258 fun Serial287 =>
 asSl v260 fun RefsP288 RefsL289 RefsC290 =>
 asI .u64 v262 fun Value291 =>
 asI .i64 v264 fun Code292 =>
 asI .u64 v266 fun Seq293 =>
 asI .i64 v268 fun Voucher294 =>
 asI .u64 v270 fun At295 =>
 asI .i64 v272 fun Dist296 =>
 asI .u64 v274 fun Stamp297 =>
 asSl v276 fun ListP298 ListL299 ListC300 =>
 asB v238 fun t301 =>
 newB (.cells #[(.int .i64 0), (.int .i64 0), (.int .i64 0), (.int .u64 0), (.int .u64 0), (.int .i64 0), (.int .i64 0), (.int .i64 0), (.int .i64 0), (.int .u64 0), (.slice none 0 0), (.int .u64 0), (.int .i64 0), (.int .u64 0), (.int .i64 0), (.int .u64 0), (.int .i64 0), (.int .u64 0), (.slice none 0 0)] ty_api_Msg) Hx236 fun b302 Hx303 =>
 st ⟨b302, 0, none⟩ (.int .i64 Kind278) Hx303 fun Hx304 =>
 st ⟨b302, 1, none⟩ (.int .i64 From279) Hx304 fun Hx305 =>
 st ⟨b302, 2, none⟩ (.int .i64 To280) Hx305 fun Hx306 =>
 st ⟨b302, 3, none⟩ (.int .u64 Call281) Hx306 fun Hx307 =>
 st ⟨b302, 4, none⟩ (.int .u64 Floor282) Hx307 fun Hx308 =>
 st ⟨b302, 5, none⟩ (.int .i64 Op283) Hx308 fun Hx309 =>
 st ⟨b302, 6, none⟩ (.int .i64 Field284) Hx309 fun Hx310 =>
 st ⟨b302, 7, none⟩ (.int .i64 Item285) Hx310 fun Hx311 =>
 st ⟨b302, 8, none⟩ (.int .i64 Node286) Hx311 fun Hx312 =>
 st ⟨b302, 9, none⟩ (.int .u64 Serial287) Hx312 fun Hx313 =>
 st ⟨b302, 10, none⟩ (.slice RefsP288 RefsL289 RefsC290) Hx313 fun Hx314 =>
 st ⟨b302, 11, none⟩ (.int .u64 Value291) Hx314 fun Hx315 =>
 st ⟨b302, 12, none⟩ (.int .i64 Code292) Hx315 fun Hx316 =>
 st ⟨b302, 13, none⟩ (.int .u64 Seq293) Hx316 fun Hx317 =>
 st ⟨b302, 14, none⟩ (.int .i64 Voucher294) Hx317 fun Hx318 =>
 st ⟨b302, 15, none⟩ (.int .u64 At295) Hx318 fun Hx319 =>
 st ⟨b302, 16, none⟩ (.int .i64 Dist296) Hx319 fun Hx320 =>
 st ⟨b302, 17, none⟩ (.int .u64 Stamp297) Hx320 fun Hx321 =>
 st ⟨b302, 18, none⟩ (.slice ListP298 ListL299 ListC300) Hx321 fun Hx322 =>
 (bif (!t301) then
 K (.bool false) Hx322
else
 ldSl ⟨b38, 0, none⟩ Hx322 fun InsP323 InsL324 InsC325 =>
 ldSl ⟨b38, 1, none⟩ Hx322 fun OutsP326 OutsL327 OutsC328 =>
 ldSl ⟨b38, 2, none⟩ Hx322 fun LiveP329 LiveL330 LiveC331 =>
 ldSl ⟨b38, 3, none⟩ Hx322 fun GoneP332 GoneL333 GoneC334 =>
 ldI .i64 ⟨b131, 0, none⟩ Hx322 fun Nodes335 =>
 ldI .i64 ⟨b131, 1, none⟩ Hx322 fun Mutators336 =>
 ldI .i64 ⟨b131, 2, none⟩ Hx322 fun Slots337 =>
 ldI .i64 ⟨b131, 3, none⟩ Hx322 fun Cells338 =>
 ldI .i64 ⟨b131, 4, none⟩ Hx322 fun Objects339 =>
 ldI .i64 ⟨b131, 5, none⟩ Hx322 fun Stubs340 =>
 ldI .i64 ⟨b131, 6, none⟩ Hx322 fun Calls341 =>
 ldI .i64 ⟨b131, 7, none⟩ Hx322 fun Window342 =>
 ldI .i64 ⟨b131, 8, none⟩ Hx322 fun Grey343 =>
 ldI .i64 ⟨b131, 9, none⟩ Hx322 fun Bag344 =>
 ldI .i64 ⟨b131, 10, none⟩ Hx322 fun Inbox345 =>
 ldI .u64 ⟨b131, 11, none⟩ Hx322 fun Unit346 =>
 ldI .u64 ⟨b131, 12, none⟩ Hx322 fun Drift347 =>
 ldI .u64 ⟨b131, 13, none⟩ Hx322 fun Lease348 =>
 ldI .u64 ⟨b131, 14, none⟩ Hx322 fun Wait349 =>
 ldI .u64 ⟨b131, 15, none⟩ Hx322 fun Most350 =>
 ldI .u64 ⟨b131, 16, none⟩ Hx322 fun Patience351 =>
 ldI .i64 ⟨b131, 17, none⟩ Hx322 fun Suspect352 =>
 ldI .i64 ⟨b131, 18, none⟩ Hx322 fun Trace353 =>
 ldI .i64 ⟨b131, 19, none⟩ Hx322 fun Work354 =>
 ldI .u64 ⟨b131, 20, none⟩ Hx322 fun Start355 =>
 ldI .u64 ⟨b131, 21, none⟩ Hx322 fun Last356 =>
 ldI .i64 ⟨b302, 0, none⟩ Hx322 fun Kind357 =>
 ldI .i64 ⟨b302, 1, none⟩ Hx322 fun From358 =>
 ldI .i64 ⟨b302, 2, none⟩ Hx322 fun To359 =>
 ldI .u64 ⟨b302, 3, none⟩ Hx322 fun Call360 =>
 ldI .u64 ⟨b302, 4, none⟩ Hx322 fun Floor361 =>
 ldI .i64 ⟨b302, 5, none⟩ Hx322 fun Op362 =>
 ldI .i64 ⟨b302, 6, none⟩ Hx322 fun Field363 =>
 ldI .i64 ⟨b302, 7, none⟩ Hx322 fun Item364 =>
 ldI .i64 ⟨b302, 8, none⟩ Hx322 fun Node365 =>
 ldI .u64 ⟨b302, 9, none⟩ Hx322 fun Serial366 =>
 ldSl ⟨b302, 10, none⟩ Hx322 fun RefsP367 RefsL368 RefsC369 =>
 ldI .u64 ⟨b302, 11, none⟩ Hx322 fun Value370 =>
 ldI .i64 ⟨b302, 12, none⟩ Hx322 fun Code371 =>
 ldI .u64 ⟨b302, 13, none⟩ Hx322 fun Seq372 =>
 ldI .i64 ⟨b302, 14, none⟩ Hx322 fun Voucher373 =>
 ldI .u64 ⟨b302, 15, none⟩ Hx322 fun At374 =>
 ldI .i64 ⟨b302, 16, none⟩ Hx322 fun Dist375 =>
 ldI .u64 ⟨b302, 17, none⟩ Hx322 fun Stamp376 =>
 ldSl ⟨b302, 18, none⟩ Hx322 fun ListP377 ListL378 ListC379 =>
 hcall PR f_law23_Web_answer ⟨[(.agg #[(.slice InsP323 InsL324 InsC325), (.slice OutsP326 OutsL327 OutsC328), (.slice LiveP329 LiveL330 LiveC331), (.slice GoneP332 GoneL333 GoneC334)]), (.agg #[(.int .i64 Nodes335), (.int .i64 Mutators336), (.int .i64 Slots337), (.int .i64 Cells338), (.int .i64 Objects339), (.int .i64 Stubs340), (.int .i64 Calls341), (.int .i64 Window342), (.int .i64 Grey343), (.int .i64 Bag344), (.int .i64 Inbox345), (.int .u64 Unit346), (.int .u64 Drift347), (.int .u64 Lease348), (.int .u64 Wait349), (.int .u64 Most350), (.int .u64 Patience351), (.int .i64 Suspect352), (.int .i64 Trace353), (.int .i64 Work354), (.int .u64 Start355), (.int .u64 Last356)]), (.agg #[(.int .i64 Kind357), (.int .i64 From358), (.int .i64 To359), (.int .u64 Call360), (.int .u64 Floor361), (.int .i64 Op362), (.int .i64 Field363), (.int .i64 Item364), (.int .i64 Node365), (.int .u64 Serial366), (.slice RefsP367 RefsL368 RefsC369), (.int .u64 Value370), (.int .i64 Code371), (.int .u64 Seq372), (.int .i64 Voucher373), (.int .u64 At374), (.int .i64 Dist375), (.int .u64 Stamp376), (.slice ListP377 ListL378 ListC379)])]⟩ Hx322 fun v380 Hx381 =>
 asAgg' v380 fun cs382 =>
 unCons cs382.toList fun v383 r384 =>
 unCons r384 fun v385 r386 =>
 unCons r386 fun v387 r388 =>
 unCons r388 fun v389 r390 =>
 unCons r390 fun v391 r392 =>
 unCons r392 fun v393 r394 =>
 unCons r394 fun v395 r396 =>
 unCons r396 fun v397 r398 =>
 unCons r398 fun v399 r400 =>
 unCons r400 fun v401 r402 =>
 unCons r402 fun v403 r404 =>
 unCons r404 fun v405 r406 =>
 unCons r406 fun v407 r408 =>
 unCons r408 fun v409 r410 =>
 unCons r410 fun v411 r412 =>
 unCons r412 fun v413 r414 =>
 unCons r414 fun v415 r416 =>
 unCons r416 fun v417 r418 =>
 unCons r418 fun v419 r420 =>
 unNil r420 <|
 asI .i64 v383 fun Kind421 =>
 asI .i64 v385 fun From422 =>
 asI .i64 v387 fun To423 =>
 asI .u64 v389 fun Call424 =>
 asI .u64 v391 fun Floor425 =>
 asI .i64 v393 fun Op426 =>
 asI .i64 v395 fun Field427 =>
 asI .i64 v397 fun Item428 =>
 asI .i64 v399 fun Node429 =>
 asI .u64 v401 fun Serial430 =>
 asSl v403 fun RefsP431 RefsL432 RefsC433 =>
 asI .u64 v405 fun Value434 =>
 asI .i64 v407 fun Code435 =>
 asI .u64 v409 fun Seq436 =>
 asI .i64 v411 fun Voucher437 =>
 asI .u64 v413 fun At438 =>
 asI .i64 v415 fun Dist439 =>
 asI .u64 v417 fun Stamp440 =>
 asSl v419 fun ListP441 ListL442 ListC443 =>
 newB (.cells #[(.int .i64 0), (.int .i64 0), (.int .i64 0), (.int .u64 0), (.int .u64 0), (.int .i64 0), (.int .i64 0), (.int .i64 0), (.int .i64 0), (.int .u64 0), (.slice none 0 0), (.int .u64 0), (.int .i64 0), (.int .u64 0), (.int .i64 0), (.int .u64 0), (.int .i64 0), (.int .u64 0), (.slice none 0 0)] ty_api_Msg) Hx381 fun b444 Hx445 =>
 st ⟨b444, 0, none⟩ (.int .i64 Kind421) Hx445 fun Hx446 =>
 st ⟨b444, 1, none⟩ (.int .i64 From422) Hx446 fun Hx447 =>
 st ⟨b444, 2, none⟩ (.int .i64 To423) Hx447 fun Hx448 =>
 st ⟨b444, 3, none⟩ (.int .u64 Call424) Hx448 fun Hx449 =>
 st ⟨b444, 4, none⟩ (.int .u64 Floor425) Hx449 fun Hx450 =>
 st ⟨b444, 5, none⟩ (.int .i64 Op426) Hx450 fun Hx451 =>
 st ⟨b444, 6, none⟩ (.int .i64 Field427) Hx451 fun Hx452 =>
 st ⟨b444, 7, none⟩ (.int .i64 Item428) Hx452 fun Hx453 =>
 st ⟨b444, 8, none⟩ (.int .i64 Node429) Hx453 fun Hx454 =>
 st ⟨b444, 9, none⟩ (.int .u64 Serial430) Hx454 fun Hx455 =>
 st ⟨b444, 10, none⟩ (.slice RefsP431 RefsL432 RefsC433) Hx455 fun Hx456 =>
 st ⟨b444, 11, none⟩ (.int .u64 Value434) Hx456 fun Hx457 =>
 st ⟨b444, 12, none⟩ (.int .i64 Code435) Hx457 fun Hx458 =>
 st ⟨b444, 13, none⟩ (.int .u64 Seq436) Hx458 fun Hx459 =>
 st ⟨b444, 14, none⟩ (.int .i64 Voucher437) Hx459 fun Hx460 =>
 st ⟨b444, 15, none⟩ (.int .u64 At438) Hx460 fun Hx461 =>
 st ⟨b444, 16, none⟩ (.int .i64 Dist439) Hx461 fun Hx462 =>
 st ⟨b444, 17, none⟩ (.int .u64 Stamp440) Hx462 fun Hx463 =>
 st ⟨b444, 18, none⟩ (.slice ListP441 ListL442 ListC443) Hx463 fun Hx464 =>
 ldI .i64 ⟨b444, 0, none⟩ Hx464 fun Kind465 =>
 ldI .i64 ⟨b444, 1, none⟩ Hx464 fun From466 =>
 ldI .i64 ⟨b444, 2, none⟩ Hx464 fun To467 =>
 ldI .u64 ⟨b444, 3, none⟩ Hx464 fun Call468 =>
 ldI .u64 ⟨b444, 4, none⟩ Hx464 fun Floor469 =>
 ldI .i64 ⟨b444, 5, none⟩ Hx464 fun Op470 =>
 ldI .i64 ⟨b444, 6, none⟩ Hx464 fun Field471 =>
 ldI .i64 ⟨b444, 7, none⟩ Hx464 fun Item472 =>
 ldI .i64 ⟨b444, 8, none⟩ Hx464 fun Node473 =>
 ldI .u64 ⟨b444, 9, none⟩ Hx464 fun Serial474 =>
 ldSl ⟨b444, 10, none⟩ Hx464 fun RefsP475 RefsL476 RefsC477 =>
 ldI .u64 ⟨b444, 11, none⟩ Hx464 fun Value478 =>
 ldI .i64 ⟨b444, 12, none⟩ Hx464 fun Code479 =>
 ldI .u64 ⟨b444, 13, none⟩ Hx464 fun Seq480 =>
 ldI .i64 ⟨b444, 14, none⟩ Hx464 fun Voucher481 =>
 ldI .u64 ⟨b444, 15, none⟩ Hx464 fun At482 =>
 ldI .i64 ⟨b444, 16, none⟩ Hx464 fun Dist483 =>
 ldI .u64 ⟨b444, 17, none⟩ Hx464 fun Stamp484 =>
 ldSl ⟨b444, 18, none⟩ Hx464 fun ListP485 ListL486 ListC487 =>
 newB (.cells #[(.int .i64 0), (.int .i64 0), (.int .i64 0), (.int .u64 0), (.int .u64 0), (.int .i64 0), (.int .i64 0), (.int .i64 0), (.int .i64 0), (.int .u64 0), (.slice none 0 0), (.int .u64 0), (.int .i64 0), (.int .u64 0), (.int .i64 0), (.int .u64 0), (.int .i64 0), (.int .u64 0), (.slice none 0 0)] ty_api_Msg) Hx464 fun b488 Hx489 =>
 st ⟨b488, 0, none⟩ (.int .i64 Kind465) Hx489 fun Hx490 =>
 st ⟨b488, 1, none⟩ (.int .i64 From466) Hx490 fun Hx491 =>
 st ⟨b488, 2, none⟩ (.int .i64 To467) Hx491 fun Hx492 =>
 st ⟨b488, 3, none⟩ (.int .u64 Call468) Hx492 fun Hx493 =>
 st ⟨b488, 4, none⟩ (.int .u64 Floor469) Hx493 fun Hx494 =>
 st ⟨b488, 5, none⟩ (.int .i64 Op470) Hx494 fun Hx495 =>
 st ⟨b488, 6, none⟩ (.int .i64 Field471) Hx495 fun Hx496 =>
 st ⟨b488, 7, none⟩ (.int .i64 Item472) Hx496 fun Hx497 =>
 st ⟨b488, 8, none⟩ (.int .i64 Node473) Hx497 fun Hx498 =>
 st ⟨b488, 9, none⟩ (.int .u64 Serial474) Hx498 fun Hx499 =>
 st ⟨b488, 10, none⟩ (.slice RefsP475 RefsL476 RefsC477) Hx499 fun Hx500 =>
 st ⟨b488, 11, none⟩ (.int .u64 Value478) Hx500 fun Hx501 =>
 st ⟨b488, 12, none⟩ (.int .i64 Code479) Hx501 fun Hx502 =>
 st ⟨b488, 13, none⟩ (.int .u64 Seq480) Hx502 fun Hx503 =>
 st ⟨b488, 14, none⟩ (.int .i64 Voucher481) Hx503 fun Hx504 =>
 st ⟨b488, 15, none⟩ (.int .u64 At482) Hx504 fun Hx505 =>
 st ⟨b488, 16, none⟩ (.int .i64 Dist483) Hx505 fun Hx506 =>
 st ⟨b488, 17, none⟩ (.int .u64 Stamp484) Hx506 fun Hx507 =>
 st ⟨b488, 18, none⟩ (.slice ListP485 ListL486 ListC487) Hx507 fun Hx508 =>
 ∀ R509 : Hp → Prop, (∀ Hx510 : Hp, (
 hcall PR f_trace_Trace_Items ⟨[(.pointer t181)]⟩ Hx510 fun v511 Hx512 =>
 asSl v511 fun tP513 tL514 tC515 =>
 ldI .i64 ⟨b488, 0, none⟩ Hx512 fun Kind516 =>
 ldI .i64 ⟨b488, 1, none⟩ Hx512 fun From517 =>
 ldI .i64 ⟨b488, 2, none⟩ Hx512 fun To518 =>
 ldI .u64 ⟨b488, 3, none⟩ Hx512 fun Call519 =>
 ldI .u64 ⟨b488, 4, none⟩ Hx512 fun Floor520 =>
 ldI .i64 ⟨b488, 5, none⟩ Hx512 fun Op521 =>
 ldI .i64 ⟨b488, 6, none⟩ Hx512 fun Field522 =>
 ldI .i64 ⟨b488, 7, none⟩ Hx512 fun Item523 =>
 ldI .i64 ⟨b488, 8, none⟩ Hx512 fun Node524 =>
 ldI .u64 ⟨b488, 9, none⟩ Hx512 fun Serial525 =>
 ldSl ⟨b488, 10, none⟩ Hx512 fun RefsP526 RefsL527 RefsC528 =>
 ldI .u64 ⟨b488, 11, none⟩ Hx512 fun Value529 =>
 ldI .i64 ⟨b488, 12, none⟩ Hx512 fun Code530 =>
 ldI .u64 ⟨b488, 13, none⟩ Hx512 fun Seq531 =>
 ldI .i64 ⟨b488, 14, none⟩ Hx512 fun Voucher532 =>
 ldI .u64 ⟨b488, 15, none⟩ Hx512 fun At533 =>
 ldI .i64 ⟨b488, 16, none⟩ Hx512 fun Dist534 =>
 ldI .u64 ⟨b488, 17, none⟩ Hx512 fun Stamp535 =>
 ldSl ⟨b488, 18, none⟩ Hx512 fun ListP536 ListL537 ListC538 =>
 hcall PR f_trace_Trace_Hear ⟨[(.pointer t181), (.agg #[(.int .i64 Kind516), (.int .i64 From517), (.int .i64 To518), (.int .u64 Call519), (.int .u64 Floor520), (.int .i64 Op521), (.int .i64 Field522), (.int .i64 Item523), (.int .i64 Node524), (.int .u64 Serial525), (.slice RefsP526 RefsL527 RefsC528), (.int .u64 Value529), (.int .i64 Code530), (.int .u64 Seq531), (.int .i64 Voucher532), (.int .u64 At533), (.int .i64 Dist534), (.int .u64 Stamp535), (.slice ListP536 ListL537 ListC538)])]⟩ Hx512 fun v539 Hx540 =>
 asB v539 fun t541 =>
 (bif t541 then
 K (.bool false) Hx540
else
 hcall PR f_trace_Trace_Items ⟨[(.pointer t181)]⟩ Hx540 fun v542 Hx543 =>
 asSl v542 fun tP544 tL545 tC546 =>
 hcall PR f_law23_items ⟨[(.slice tP544 tL545 tC546), (.slice tP513 tL514 tC515)]⟩ Hx543 fun v547 Hx548 =>
 asB v547 fun t549 =>
 (bif (!t549) then
 K (.bool false) Hx548
else
 hcall PR f_trace_Trace_State ⟨[(.pointer t181)]⟩ Hx548 fun v550 Hx551 =>
 asI .i64 v550 fun t552 =>
 (bif ((t552 : Int) == 0) then
 K (.bool false) Hx551
else
 ldI .i64 ⟨b444, 0, none⟩ Hx551 fun Kind553 =>
 ldI .i64 ⟨b444, 1, none⟩ Hx551 fun From554 =>
 ldI .i64 ⟨b444, 2, none⟩ Hx551 fun To555 =>
 ldI .u64 ⟨b444, 3, none⟩ Hx551 fun Call556 =>
 ldI .u64 ⟨b444, 4, none⟩ Hx551 fun Floor557 =>
 ldI .i64 ⟨b444, 5, none⟩ Hx551 fun Op558 =>
 ldI .i64 ⟨b444, 6, none⟩ Hx551 fun Field559 =>
 ldI .i64 ⟨b444, 7, none⟩ Hx551 fun Item560 =>
 ldI .i64 ⟨b444, 8, none⟩ Hx551 fun Node561 =>
 ldI .u64 ⟨b444, 9, none⟩ Hx551 fun Serial562 =>
 ldSl ⟨b444, 10, none⟩ Hx551 fun RefsP563 RefsL564 RefsC565 =>
 ldI .u64 ⟨b444, 11, none⟩ Hx551 fun Value566 =>
 ldI .i64 ⟨b444, 12, none⟩ Hx551 fun Code567 =>
 ldI .u64 ⟨b444, 13, none⟩ Hx551 fun Seq568 =>
 ldI .i64 ⟨b444, 14, none⟩ Hx551 fun Voucher569 =>
 ldI .u64 ⟨b444, 15, none⟩ Hx551 fun At570 =>
 ldI .i64 ⟨b444, 16, none⟩ Hx551 fun Dist571 =>
 ldI .u64 ⟨b444, 17, none⟩ Hx551 fun Stamp572 =>
 ldSl ⟨b444, 18, none⟩ Hx551 fun ListP573 ListL574 ListC575 =>
 hcall PR f_trace_Trace_Hear ⟨[(.pointer t181), (.agg #[(.int .i64 Kind553), (.int .i64 From554), (.int .i64 To555), (.int .u64 Call556), (.int .u64 Floor557), (.int .i64 Op558), (.int .i64 Field559), (.int .i64 Item560), (.int .i64 Node561), (.int .u64 Serial562), (.slice RefsP563 RefsL564 RefsC565), (.int .u64 Value566), (.int .i64 Code567), (.int .u64 Seq568), (.int .i64 Voucher569), (.int .u64 At570), (.int .i64 Dist571), (.int .u64 Stamp572), (.slice ListP573 ListL574 ListC575)])]⟩ Hx551 fun v576 Hx577 =>
 asB v576 fun t578 =>
 (bif (!t578) then
 K (.bool false) Hx577
else
 ldI .i64 ⟨b444, 0, none⟩ Hx577 fun Kind579 =>
 ldI .i64 ⟨b444, 1, none⟩ Hx577 fun From580 =>
 ldI .i64 ⟨b444, 2, none⟩ Hx577 fun To581 =>
 ldI .u64 ⟨b444, 3, none⟩ Hx577 fun Call582 =>
 ldI .u64 ⟨b444, 4, none⟩ Hx577 fun Floor583 =>
 ldI .i64 ⟨b444, 5, none⟩ Hx577 fun Op584 =>
 ldI .i64 ⟨b444, 6, none⟩ Hx577 fun Field585 =>
 ldI .i64 ⟨b444, 7, none⟩ Hx577 fun Item586 =>
 ldI .i64 ⟨b444, 8, none⟩ Hx577 fun Node587 =>
 ldI .u64 ⟨b444, 9, none⟩ Hx577 fun Serial588 =>
 ldSl ⟨b444, 10, none⟩ Hx577 fun RefsP589 RefsL590 RefsC591 =>
 ldI .u64 ⟨b444, 11, none⟩ Hx577 fun Value592 =>
 ldI .i64 ⟨b444, 12, none⟩ Hx577 fun Code593 =>
 ldI .u64 ⟨b444, 13, none⟩ Hx577 fun Seq594 =>
 ldI .i64 ⟨b444, 14, none⟩ Hx577 fun Voucher595 =>
 ldI .u64 ⟨b444, 15, none⟩ Hx577 fun At596 =>
 ldI .i64 ⟨b444, 16, none⟩ Hx577 fun Dist597 =>
 ldI .u64 ⟨b444, 17, none⟩ Hx577 fun Stamp598 =>
 ldSl ⟨b444, 18, none⟩ Hx577 fun ListP599 ListL600 ListC601 =>
 st ⟨b195, 0, none⟩ (.int .i64 Kind579) Hx577 fun Hx602 =>
 st ⟨b195, 1, none⟩ (.int .i64 From580) Hx602 fun Hx603 =>
 st ⟨b195, 2, none⟩ (.int .i64 To581) Hx603 fun Hx604 =>
 st ⟨b195, 3, none⟩ (.int .u64 Call582) Hx604 fun Hx605 =>
 st ⟨b195, 4, none⟩ (.int .u64 Floor583) Hx605 fun Hx606 =>
 st ⟨b195, 5, none⟩ (.int .i64 Op584) Hx606 fun Hx607 =>
 st ⟨b195, 6, none⟩ (.int .i64 Field585) Hx607 fun Hx608 =>
 st ⟨b195, 7, none⟩ (.int .i64 Item586) Hx608 fun Hx609 =>
 st ⟨b195, 8, none⟩ (.int .i64 Node587) Hx609 fun Hx610 =>
 st ⟨b195, 9, none⟩ (.int .u64 Serial588) Hx610 fun Hx611 =>
 st ⟨b195, 10, none⟩ (.slice RefsP589 RefsL590 RefsC591) Hx611 fun Hx612 =>
 st ⟨b195, 11, none⟩ (.int .u64 Value592) Hx612 fun Hx613 =>
 st ⟨b195, 12, none⟩ (.int .i64 Code593) Hx613 fun Hx614 =>
 st ⟨b195, 13, none⟩ (.int .u64 Seq594) Hx614 fun Hx615 =>
 st ⟨b195, 14, none⟩ (.int .i64 Voucher595) Hx615 fun Hx616 =>
 st ⟨b195, 15, none⟩ (.int .u64 At596) Hx616 fun Hx617 =>
 st ⟨b195, 16, none⟩ (.int .i64 Dist597) Hx617 fun Hx618 =>
 st ⟨b195, 17, none⟩ (.int .u64 Stamp598) Hx618 fun Hx619 =>
 st ⟨b195, 18, none⟩ (.slice ListP599 ListL600 ListC601) Hx619 fun Hx620 =>
 I228 (IntKind.i64.wrap (i231 + 1)) Hx620 ∧ m229 (IntKind.i64.wrap (i231 + 1)) Hx620 < m229 i231 Hx230))))) → R509 Hx510) →
 hcall PR f_hand_Pick ⟨[(.int .i64 off35), (.int .i64 4)]⟩ Hx508 fun v621 Hx622 =>
 asI .i64 v621 fun t623 =>
 (bif ((t623 : Int) == 0) then
 ldI .i64 ⟨b195, 0, none⟩ Hx622 fun Kind624 =>
 ldI .i64 ⟨b195, 1, none⟩ Hx622 fun From625 =>
 ldI .i64 ⟨b195, 2, none⟩ Hx622 fun To626 =>
 ldI .u64 ⟨b195, 3, none⟩ Hx622 fun Call627 =>
 ldI .u64 ⟨b195, 4, none⟩ Hx622 fun Floor628 =>
 ldI .i64 ⟨b195, 5, none⟩ Hx622 fun Op629 =>
 ldI .i64 ⟨b195, 6, none⟩ Hx622 fun Field630 =>
 ldI .i64 ⟨b195, 7, none⟩ Hx622 fun Item631 =>
 ldI .i64 ⟨b195, 8, none⟩ Hx622 fun Node632 =>
 ldI .u64 ⟨b195, 9, none⟩ Hx622 fun Serial633 =>
 ldSl ⟨b195, 10, none⟩ Hx622 fun RefsP634 RefsL635 RefsC636 =>
 ldI .u64 ⟨b195, 11, none⟩ Hx622 fun Value637 =>
 ldI .i64 ⟨b195, 12, none⟩ Hx622 fun Code638 =>
 ldI .u64 ⟨b195, 13, none⟩ Hx622 fun Seq639 =>
 ldI .i64 ⟨b195, 14, none⟩ Hx622 fun Voucher640 =>
 ldI .u64 ⟨b195, 15, none⟩ Hx622 fun At641 =>
 ldI .i64 ⟨b195, 16, none⟩ Hx622 fun Dist642 =>
 ldI .u64 ⟨b195, 17, none⟩ Hx622 fun Stamp643 =>
 ldSl ⟨b195, 18, none⟩ Hx622 fun ListP644 ListL645 ListC646 =>
 st ⟨b488, 0, none⟩ (.int .i64 Kind624) Hx622 fun Hx647 =>
 st ⟨b488, 1, none⟩ (.int .i64 From625) Hx647 fun Hx648 =>
 st ⟨b488, 2, none⟩ (.int .i64 To626) Hx648 fun Hx649 =>
 st ⟨b488, 3, none⟩ (.int .u64 Call627) Hx649 fun Hx650 =>
 st ⟨b488, 4, none⟩ (.int .u64 Floor628) Hx650 fun Hx651 =>
 st ⟨b488, 5, none⟩ (.int .i64 Op629) Hx651 fun Hx652 =>
 st ⟨b488, 6, none⟩ (.int .i64 Field630) Hx652 fun Hx653 =>
 st ⟨b488, 7, none⟩ (.int .i64 Item631) Hx653 fun Hx654 =>
 st ⟨b488, 8, none⟩ (.int .i64 Node632) Hx654 fun Hx655 =>
 st ⟨b488, 9, none⟩ (.int .u64 Serial633) Hx655 fun Hx656 =>
 st ⟨b488, 10, none⟩ (.slice RefsP634 RefsL635 RefsC636) Hx656 fun Hx657 =>
 st ⟨b488, 11, none⟩ (.int .u64 Value637) Hx657 fun Hx658 =>
 st ⟨b488, 12, none⟩ (.int .i64 Code638) Hx658 fun Hx659 =>
 st ⟨b488, 13, none⟩ (.int .u64 Seq639) Hx659 fun Hx660 =>
 st ⟨b488, 14, none⟩ (.int .i64 Voucher640) Hx660 fun Hx661 =>
 st ⟨b488, 15, none⟩ (.int .u64 At641) Hx661 fun Hx662 =>
 st ⟨b488, 16, none⟩ (.int .i64 Dist642) Hx662 fun Hx663 =>
 st ⟨b488, 17, none⟩ (.int .u64 Stamp643) Hx663 fun Hx664 =>
 st ⟨b488, 18, none⟩ (.slice ListP644 ListL645 ListC646) Hx664 fun Hx665 =>
 R509 Hx665
else
 (bif ((t623 : Int) == 1) then
 ldI .u64 ⟨b488, 3, none⟩ Hx622 fun Call666 =>
 st ⟨b488, 3, none⟩ (.int .u64 (IntKind.u64.wrap (Call666 + 1))) Hx622 fun Hx667 =>
 R509 Hx667
else
 (bif ((t623 : Int) == 2) then
 ldI .i64 ⟨b488, 7, none⟩ Hx622 fun Item668 =>
 st ⟨b488, 7, none⟩ (.int .i64 (IntKind.i64.wrap (Item668 + 1))) Hx622 fun Hx669 =>
 R509 Hx669
else
 ldI .i64 ⟨b488, 1, none⟩ Hx622 fun From670 =>
 ldI .i64 ⟨b131, 0, none⟩ Hx622 fun Nodes671 =>
 (Nodes671 : Int) ≠ 0 ∧
 st ⟨b488, 1, none⟩ (.int .i64 (IntKind.i64.wrap (1 + (Int.tmod From670 Nodes671)))) Hx622 fun Hx672 =>
 R509 Hx672))))
else
 R197 Hx233)
else
 R197 Hx230)))))
theorem E_law23_TraceStale (rawNodes1 : Int) (rawMutators2 : Int) (rawSlots3 : Int) (rawCells4 : Int) (rawObjects5 : Int) (rawStubs6 : Int) (rawCalls7 : Int) (rawWindow8 : Int) (rawGrey9 : Int) (rawBag10 : Int) (rawInbox11 : Int) (rawUnit12 : Int) (rawDrift13 : Int) (rawLease14 : Int) (rawWait15 : Int) (rawMost16 : Int) (rawPatience17 : Int) (rawSuspect18 : Int) (rawTrace19 : Int) (rawWork20 : Int) (rawStart21 : Int) (rawLast22 : Int) (wInsP23 : Option Addr) (wInsL24 : Nat) (wInsC25 : Nat) (wOutsP26 : Option Addr) (wOutsL27 : Nat) (wOutsC28 : Nat) (wLiveP29 : Option Addr) (wLiveL30 : Nat) (wLiveC31 : Nat) (wGoneP32 : Option Addr) (wGoneL33 : Nat) (wGoneC34 : Nat) (off35 : Int) (H : Hp) (K : Value → Hp → Prop) : B_law23_TraceStale rawNodes1 rawMutators2 rawSlots3 rawCells4 rawObjects5 rawStubs6 rawCalls7 rawWindow8 rawGrey9 rawBag10 rawInbox11 rawUnit12 rawDrift13 rawLease14 rawWait15 rawMost16 rawPatience17 rawSuspect18 rawTrace19 rawWork20 rawStart21 rawLast22 wInsP23 wInsL24 wInsC25 wOutsP26 wOutsL27 wOutsC28 wLiveP29 wLiveL30 wLiveC31 wGoneP32 wGoneL33 wGoneC34 off35 H K = denF Try.prog Try.f13 (.seq none .n (.seq none .n (.seq none .n (.seq none .n (.seq none .n (.seq (some ⟨[], [8, 10]⟩) (.seq none .n (.sub (.loop ⟨[(11, .int .i64)], [2, 4, 7, 8, 10]⟩ (.seq none .n (.seq none (.sub (.seq none .n (.seq none .n (.seq none .n (.seq none .n (.seq (some ⟨[], [2, 4, 7, 8, 10, 11, 14, 15]⟩) .n .n)))))) .n))))) .n)))))) [(.agg #[(.int .i64 rawNodes1), (.int .i64 rawMutators2), (.int .i64 rawSlots3), (.int .i64 rawCells4), (.int .i64 rawObjects5), (.int .i64 rawStubs6), (.int .i64 rawCalls7), (.int .i64 rawWindow8), (.int .i64 rawGrey9), (.int .i64 rawBag10), (.int .i64 rawInbox11), (.int .i64 rawUnit12), (.int .i64 rawDrift13), (.int .i64 rawLease14), (.int .i64 rawWait15), (.int .i64 rawMost16), (.int .i64 rawPatience17), (.int .i64 rawSuspect18), (.int .i64 rawTrace19), (.int .i64 rawWork20), (.int .u64 rawStart21), (.int .u64 rawLast22)]), (.agg #[(.slice wInsP23 wInsL24 wInsC25), (.slice wOutsP26 wOutsL27 wOutsC28), (.slice wLiveP29 wLiveL30 wLiveC31), (.slice wGoneP32 wGoneL33 wGoneC34)]), (.int .i64 off35)] H K := by kernel_rfl
theorem den_law23_TraceStale {rawNodes1 : Int} {rawMutators2 : Int} {rawSlots3 : Int} {rawCells4 : Int} {rawObjects5 : Int} {rawStubs6 : Int} {rawCalls7 : Int} {rawWindow8 : Int} {rawGrey9 : Int} {rawBag10 : Int} {rawInbox11 : Int} {rawUnit12 : Int} {rawDrift13 : Int} {rawLease14 : Int} {rawWait15 : Int} {rawMost16 : Int} {rawPatience17 : Int} {rawSuspect18 : Int} {rawTrace19 : Int} {rawWork20 : Int} {rawStart21 : Int} {rawLast22 : Int} {wInsP23 : Option Addr} {wInsL24 : Nat} {wInsC25 : Nat} {wOutsP26 : Option Addr} {wOutsL27 : Nat} {wOutsC28 : Nat} {wLiveP29 : Option Addr} {wLiveL30 : Nat} {wLiveC31 : Nat} {wGoneP32 : Option Addr} {wGoneL33 : Nat} {wGoneC34 : Nat} {off35 : Int} {H : Hp} {K : Value → Hp → Prop} (h : B_law23_TraceStale rawNodes1 rawMutators2 rawSlots3 rawCells4 rawObjects5 rawStubs6 rawCalls7 rawWindow8 rawGrey9 rawBag10 rawInbox11 rawUnit12 rawDrift13 rawLease14 rawWait15 rawMost16 rawPatience17 rawSuspect18 rawTrace19 rawWork20 rawStart21 rawLast22 wInsP23 wInsL24 wInsC25 wOutsP26 wOutsL27 wOutsC28 wLiveP29 wLiveL30 wLiveC31 wGoneP32 wGoneL33 wGoneC34 off35 H K) : hcall PR f_law23_TraceStale ⟨[(.agg #[(.int .i64 rawNodes1), (.int .i64 rawMutators2), (.int .i64 rawSlots3), (.int .i64 rawCells4), (.int .i64 rawObjects5), (.int .i64 rawStubs6), (.int .i64 rawCalls7), (.int .i64 rawWindow8), (.int .i64 rawGrey9), (.int .i64 rawBag10), (.int .i64 rawInbox11), (.int .i64 rawUnit12), (.int .i64 rawDrift13), (.int .i64 rawLease14), (.int .i64 rawWait15), (.int .i64 rawMost16), (.int .i64 rawPatience17), (.int .i64 rawSuspect18), (.int .i64 rawTrace19), (.int .i64 rawWork20), (.int .u64 rawStart21), (.int .u64 rawLast22)]), (.agg #[(.slice wInsP23 wInsL24 wInsC25), (.slice wOutsP26 wOutsL27 wOutsC28), (.slice wLiveP29 wLiveL30 wLiveC31), (.slice wGoneP32 wGoneL33 wGoneC34)]), (.int .i64 off35)]⟩ H K := denF_call Try.func13 PR_mixed (Eq.mp (E_law23_TraceStale rawNodes1 rawMutators2 rawSlots3 rawCells4 rawObjects5 rawStubs6 rawCalls7 rawWindow8 rawGrey9 rawBag10 rawInbox11 rawUnit12 rawDrift13 rawLease14 rawWait15 rawMost16 rawPatience17 rawSuspect18 rawTrace19 rawWork20 rawStart21 rawLast22 wInsP23 wInsL24 wInsC25 wOutsP26 wOutsL27 wOutsC28 wLiveP29 wLiveL30 wLiveC31 wGoneP32 wGoneL33 wGoneC34 off35 H K) h)

end Go.Proofs.Ytknejebggegfjaa

namespace Go.Proofs.Ytknejebggegfjaa
open Go
set_option linter.unusedVariables false
set_option maxRecDepth 100000
end Go.Proofs.Ytknejebggegfjaa

namespace Go.Proofs.Ytknejebggegfjaa
set_option linter.unusedSimpArgs false
set_option linter.unusedVariables false
set_option maxRecDepth 20000
open Go
section
variable {H0 H : Hp} {L M N : List Prt} {i k tb : Nat} {nodes : Int} {c : Cf} {t : Tr} {w : Web} {K : Value → Hp → Prop} {ip op lp gp : Option Addr} {il ic ol oc ll lc gl gc : Nat}
theorem itemsC {p p' : Option Addr} {n a n' b : Nat} {l : List It} (h1 : Rd H 5 p n (cel It.cells l)) (h2 : Rd H 5 p' n' (cel It.cells l)) (hn : n = l.length) (hn' : n' = l.length) (hl : l.length ≤ 1000) (h : K (.bool true) H) : hcall PR f_law23_items ⟨[.slice p n a, .slice p' n' b]⟩ H K := by
  apply den_law23_items
  unfold B_law23_items
  subst hn hn'
  refine bif_neqf rfl ⟨fun q H' => H' = H ∧ ∃ m : Nat, q = m ∧ m ≤ l.length, fun q _ => ((l.length : Int) - q).toNat, ⟨rfl, 0, rfl, by omega⟩, ?_⟩
  rintro q H' ⟨rfl, m, rfl, hm⟩
  by_cases hml : (m : Int) < (l.length : Int)
  rotate_left
  · exact bif_neg hml h
  have r1 : ∀ {Q : Addr → Prop}, (∀ b o, (∀ j, j < 5 → hcell H' ⟨b, o + j, none⟩ = (It.cells (l.getD m noIt))[j]?) → Q ⟨b, o, none⟩) → idxA p l.length m 5 Q := fun hQ => idxS It.len noIt h1 (by omega) (by omega) hml fun b o _ _ hc => hQ b _ (by rw [Int.toNat_natCast] at hc ⊢; exact hc)
  have r2 : ∀ {Q : Addr → Prop}, (∀ b o, (∀ j, j < 5 → hcell H' ⟨b, o + j, none⟩ = (It.cells (l.getD m noIt))[j]?) → Q ⟨b, o, none⟩) → idxA p' l.length m 5 Q := fun hQ => idxS It.len noIt h2 (by omega) (by omega) hml fun b o _ _ hc => hQ b _ (by rw [Int.toNat_natCast] at hc ⊢; exact hc)
  refine bif_pos hml (r1 fun b o hc => ldB_of (hc 0 (by omega)) (r2 fun b' o' hc' => ldB_of (hc' 0 (by omega)) ?_))
  rw [show ((l.getD m noIt).inn == (l.getD m noIt).inn) = true by simp]
  simp only [Bool.not_true, condF]
  refine r1 fun b o hc => ldI_of (hc 1 (by omega)) (r2 fun b' o' hc' => ldI_of (hc' 1 (by omega)) (bif_neqf rfl ?_))
  refine r1 fun b o hc => ldI_of (hc 2 (by omega)) (ldI_of (hc 3 (by omega)) (r2 fun b' o' hc' => ldI_of (hc' 2 (by omega)) (ldI_of (hc' 3 (by omega)) (idNe ?_))))
  rw [decide_eq_true rfl]
  (try simp only [asI_mk', asB_mk, asP_mk, asA_mk, asM_mk, asSl_mk, asStr_mk, tup2_mk, tup3_mk, agg1_mk, agg2_mk, agg3_mk, agg4_mk, asAggm, unCons_mk, unNil_mk, asTup_mk, extractD0, extractD1, List.toList_toArray, nilP_mk, add_mk, Nat.zero_add, Nat.add_zero, condT, condF, Bool.not_true, Bool.not_false, Option.isNone_some, Option.isNone_none])
  refine r1 fun b o hc => ldI_of (hc 4 (by omega)) (r2 fun b' o' hc' => ldI_of (hc' 4 (by omega)) (bif_neqf rfl ?_))
  rw [wrap_i64 (by omega) (by omega)]
  exact ⟨⟨by trivial, m + 1, by omega, by omega⟩, by (try dsimp only); omega⟩
/-- Whom it asks, and what of. -/
theorem Wi.tob (hn : 2 ≤ nodes ∧ nodes ≤ 4) (h : Wi nodes w i t) (h0 : t.st ≠ 0) : (0 ≤ t.q.to ∧ t.q.to ≤ 8) ∧ (t.q.kind ≠ 10 → t.q.op ≠ 3 → (0 ≤ t.q.tgt.n ∧ t.q.tgt.n ≤ 8) ∧ (0 ≤ t.q.tgt.s ∧ t.q.tgt.s ≤ 8)) ∧ (0 ≤ t.q.frm ∧ t.q.frm = 1) ∧ 1 ≤ t.q.to ∧ t.q.to ≤ nodes := by
  have hs := h.ok.st
  by_cases h1 : t.st = 1
  · obtain ⟨hi, hm⟩ := h.mem h1
    have hx := h.us _ hm
    rw [h.q1 h1]
    simp only
    rcases hx with ⟨a, b, c, d⟩ | ⟨a, b, c, d, e⟩
    · exact ⟨by omega, fun _ _ => by omega, by simp, by omega⟩
    · exact ⟨by omega, fun _ _ => ⟨by omega, by rcases e with e | e <;> omega⟩, by simp, by omega⟩
  by_cases h2 : t.st = 2
  · rw [h.q2 h2]
    simp only
    have hpos := List.length_pos_iff.2 (h.ok.two h2).1
    have hmem : t.todo.getD 0 0 ∈ t.todo := by
      rw [List.getD_eq_getElem?_getD, List.getElem?_eq_getElem hpos]
      exact List.getElem_mem _
    have := h.ok.keys _ (mlook_mem ((h.two h2).1 _ hmem))
    simp only at this
    exact ⟨by omega, fun _ h => absurd rfl h, by simp, by omega⟩
  · have h3 : t.st = 3 := by omega
    rw [h.q3 h3]
    simp only
    obtain ⟨o1, o2, o3⟩ := h.ok.three h3
    have hpos := List.length_pos_iff.2 o1
    have hmem : t.todo.getD 0 0 ∈ t.todo := by
      rw [List.getD_eq_getElem?_getD, List.getElem?_eq_getElem hpos]
      exact List.getElem_mem _
    have hb := o3 _ hmem
    have hm : t.items.getD (t.todo.getD 0 0).toNat noIt ∈ t.items := by
      rw [List.getD_eq_getElem?_getD, List.getElem?_eq_getElem (by omega)]
      exact List.getElem_mem _
    have := h.ok.nds _ hm
    exact ⟨by omega, fun h => absurd rfl h, by simp, by omega⟩
theorem Wi.item (h : Wi nodes w i t) (h0 : t.st ≠ 0) : t.q.item = i ∧ t.q.call = 1 := by
  have hs := h.ok.st
  by_cases h1 : t.st = 1
  · rw [h.q1 h1]; exact ⟨rfl, rfl⟩
  by_cases h2 : t.st = 2
  · rw [h.q2 h2]; exact ⟨rfl, rfl⟩
  · rw [h.q3 (by omega)]; exact ⟨rfl, rfl⟩
theorem ans_is {q : Qn} : (ansW w nodes q).frm = q.to ∧ (ansW w nodes q).to = q.frm ∧ (ansW w nodes q).call = q.call ∧ (ansW w nodes q).item = q.item := by
  unfold ansW
  split
  · exact ⟨rfl, rfl, rfl, rfl⟩
  split
  · exact ⟨rfl, rfl, rfl, rfl⟩
  split
  · exact ⟨rfl, rfl, rfl, rfl⟩
  split
  · exact ⟨rfl, rfl, rfl, rfl⟩
  split <;> exact ⟨rfl, rfl, rfl, rfl⟩
theorem ans_list {q : Qn} : ∀ n ∈ (ansW w nodes q).list, 0 ≤ n ∧ n < 18446744073709551616 := fun n hn => by
  have key : n ∈ insW w q.to q.tgt ∨ n ∈ holdW w nodes q.tgt := by
    unfold ansW at hn
    split at hn
    · cases hn
    split at hn
    · cases hn
    split at hn
    · cases hn
    split at hn
    · cases hn
    split at hn
    · exact .inr hn
    · exact .inl hn
  rcases key with h | h
  · have := ins_in h; omega
  · have := (hold_in h).1; omega
theorem ans_few {q : Qn} : (ansW w nodes q).list.length ≤ 4 := by
  have h1 : (insW w q.to q.tgt).length ≤ 4 := by
    unfold insW
    split
    · exact Nat.zero_le _
    · exact List.length_filter_le _ [1, 2, 3, 4]
  have h2 : (holdW w nodes q.tgt).length ≤ 4 := by
    unfold holdW
    split
    · exact Nat.zero_le _
    · refine Nat.le_trans (List.length_filter_le _ _) ?_
      unfold upto4
      exact List.length_filter_le _ [1, 2, 3, 4]
  unfold ansW
  split
  · exact Nat.zero_le _
  split
  · exact Nat.zero_le _
  split
  · exact Nat.zero_le _
  split
  · exact Nat.zero_le _
  split
  · exact h2
  · exact h1
theorem told_hear {a b n : Int} {m : Ms} (h : t.heeds m = true) : (t.told a b n).hear nodes m = t.hear nodes m := by
  unfold Tr.hear
  rw [if_neg (show ¬ (t.told a b n).heeds m = false by rw [show (t.told a b n).heeds m = t.heeds m from rfl, h]; decide), if_neg (show ¬ t.heeds m = false by rw [h]; decide)]
  rfl
end
theorem TraceStale_r {r : Cf} {w : Web} {off : Int} {ip op lp gp : Option Addr} {il ic ol oc ll lc gl gc : Nat} {H : Hp} {K : Value → Hp → Prop} (h20 : 0 ≤ r.a20) (h21 : 0 ≤ r.a21) (hw : WebA H ip il op ol lp ll gp gl w) (hoff : IntKind.min .i64 ≤ off ∧ off ≤ IntKind.max .i64)
    (hK : ∀ H', Keep Nothing H H' → K (.bool true) H') : hcall PR f_law23_TraceStale ⟨[r.raw, .agg #[.slice ip il ic, .slice op ol oc, .slice lp ll lc, .slice gp gl gc], .int .i64 off]⟩ H K := by
  apply den_law23_TraceStale
  unfold B_law23_TraceStale
  intro br hbr
  have g1 := (St.start H).alloc (o := .cells #[.int .i64 r.a0, .int .i64 r.a1, .int .i64 r.a2, .int .i64 r.a3, .int .i64 r.a4, .int .i64 r.a5, .int .i64 r.a6, .int .i64 r.a7, .int .i64 r.a8, .int .i64 r.a9, .int .i64 r.a10, .int .i64 r.a11, .int .i64 r.a12, .int .i64 r.a13, .int .i64 r.a14, .int .i64 r.a15, .int .i64 r.a16, .int .i64 r.a17, .int .i64 r.a18, .int .i64 r.a19, .int .u64 r.a20, .int .u64 r.a21] ty_hand_Raw) hbr
  intro bw hbw
  have g1 := g1.alloc (o := .cells #[.slice ip il ic, .slice op ol oc, .slice lp ll lc, .slice gp gl gc] ty_law23_Web) hbw
  have g1 : St H [Prt.one bw (.cells #[.slice ip il ic, .slice op ol oc, .slice lp ll lc, .slice gp gl gc] ty_law23_Web (0, 0)), Prt.one br (.cells #[.int .i64 r.a0, .int .i64 r.a1, .int .i64 r.a2, .int .i64 r.a3, .int .i64 r.a4, .int .i64 r.a5, .int .i64 r.a6, .int .i64 r.a7, .int .i64 r.a8, .int .i64 r.a9, .int .i64 r.a10, .int .i64 r.a11, .int .i64 r.a12, .int .i64 r.a13, .int .i64 r.a14, .int .i64 r.a15, .int .i64 r.a16, .int .i64 r.a17, .int .i64 r.a18, .int .i64 r.a19, .int .u64 r.a20, .int .u64 r.a21] ty_hand_Raw (0, 0))] _ := g1
  refine ldI_of (g1.cell (i := 1) rfl rfl) (ldI_of (g1.cell (i := 1) rfl rfl) (ldI_of (g1.cell (i := 1) rfl rfl) (ldI_of (g1.cell (i := 1) rfl rfl) (ldI_of (g1.cell (i := 1) rfl rfl) (ldI_of (g1.cell (i := 1) rfl rfl) (ldI_of (g1.cell (i := 1) rfl rfl) (ldI_of (g1.cell (i := 1) rfl rfl) (ldI_of (g1.cell (i := 1) rfl rfl) (ldI_of (g1.cell (i := 1) rfl rfl) (ldI_of (g1.cell (i := 1) rfl rfl) (ldI_of (g1.cell (i := 1) rfl rfl) (ldI_of (g1.cell (i := 1) rfl rfl) (ldI_of (g1.cell (i := 1) rfl rfl) (ldI_of (g1.cell (i := 1) rfl rfl) (ldI_of (g1.cell (i := 1) rfl rfl) (ldI_of (g1.cell (i := 1) rfl rfl) (ldI_of (g1.cell (i := 1) rfl rfl) (ldI_of (g1.cell (i := 1) rfl rfl) (ldI_of (g1.cell (i := 1) rfl rfl) (ldI_of (g1.cell (i := 1) rfl rfl) (ldI_of (g1.cell (i := 1) rfl rfl) (?_))))))))))))))))))))))
  have hg : (confOf r).good := conf_good h20 h21
  refine configC (r := r) g1 fun H2 g2 => ?_
  obtain ⟨c, hc⟩ : ∃ c, c = confOf r := ⟨_, rfl⟩
  rw [← hc] at hg ⊢
  unfold Cf.val
  (try simp only [asI_mk', asB_mk, asP_mk, asA_mk, asM_mk, asSl_mk, asStr_mk, tup2_mk, tup3_mk, agg1_mk, agg2_mk, agg3_mk, agg4_mk, asAggm, unCons_mk, unNil_mk, asTup_mk, extractD0, extractD1, List.toList_toArray, nilP_mk, add_mk, Nat.zero_add, Nat.add_zero, condT, condF, Bool.not_true, Bool.not_false, Option.isNone_some, Option.isNone_none])
  refine boxz (c := [.int .i64 0, .int .i64 0, .int .i64 0, .int .i64 0, .int .i64 0, .int .i64 0, .int .i64 0, .int .i64 0, .int .i64 0, .int .i64 0, .int .i64 0, .int .u64 0, .int .u64 0, .int .u64 0, .int .u64 0, .int .u64 0, .int .u64 0, .int .i64 0, .int .i64 0, .int .i64 0, .int .u64 0, .int .u64 0]) (vs := [.int .i64 c.a0, .int .i64 c.a1, .int .i64 c.a2, .int .i64 c.a3, .int .i64 c.a4, .int .i64 c.a5, .int .i64 c.a6, .int .i64 c.a7, .int .i64 c.a8, .int .i64 c.a9, .int .i64 c.a10, .int .u64 c.a11, .int .u64 c.a12, .int .u64 c.a13, .int .u64 c.a14, .int .u64 c.a15, .int .u64 c.a16, .int .i64 c.a17, .int .i64 c.a18, .int .i64 c.a19, .int .u64 c.a20, .int .u64 c.a21]) g2 rfl fun bc H3 g3 => ?_
  have g3 : St H [Prt.one bc (.cells #[.int .i64 c.a0, .int .i64 c.a1, .int .i64 c.a2, .int .i64 c.a3, .int .i64 c.a4, .int .i64 c.a5, .int .i64 c.a6, .int .i64 c.a7, .int .i64 c.a8, .int .i64 c.a9, .int .i64 c.a10, .int .u64 c.a11, .int .u64 c.a12, .int .u64 c.a13, .int .u64 c.a14, .int .u64 c.a15, .int .u64 c.a16, .int .i64 c.a17, .int .i64 c.a18, .int .i64 c.a19, .int .u64 c.a20, .int .u64 c.a21] ty_api_Config (0, 0)), Prt.one bw (.cells #[.slice ip il ic, .slice op ol oc, .slice lp ll lc, .slice gp gl gc] ty_law23_Web (0, 0)), Prt.one br (.cells #[.int .i64 r.a0, .int .i64 r.a1, .int .i64 r.a2, .int .i64 r.a3, .int .i64 r.a4, .int .i64 r.a5, .int .i64 r.a6, .int .i64 r.a7, .int .i64 r.a8, .int .i64 r.a9, .int .i64 r.a10, .int .i64 r.a11, .int .i64 r.a12, .int .i64 r.a13, .int .i64 r.a14, .int .i64 r.a15, .int .i64 r.a16, .int .i64 r.a17, .int .i64 r.a18, .int .i64 r.a19, .int .u64 r.a20, .int .u64 r.a21] ty_hand_Raw (0, 0))] H3 := g3
  refine ldI_of (g3.cell (i := 0) rfl rfl) (ldI_of (g3.cell (i := 0) rfl rfl) (ldI_of (g3.cell (i := 0) rfl rfl) (ldI_of (g3.cell (i := 0) rfl rfl) (ldI_of (g3.cell (i := 0) rfl rfl) (ldI_of (g3.cell (i := 0) rfl rfl) (ldI_of (g3.cell (i := 0) rfl rfl) (ldI_of (g3.cell (i := 0) rfl rfl) (ldI_of (g3.cell (i := 0) rfl rfl) (ldI_of (g3.cell (i := 0) rfl rfl) (ldI_of (g3.cell (i := 0) rfl rfl) (ldI_of (g3.cell (i := 0) rfl rfl) (ldI_of (g3.cell (i := 0) rfl rfl) (ldI_of (g3.cell (i := 0) rfl rfl) (ldI_of (g3.cell (i := 0) rfl rfl) (ldI_of (g3.cell (i := 0) rfl rfl) (ldI_of (g3.cell (i := 0) rfl rfl) (ldI_of (g3.cell (i := 0) rfl rfl) (ldI_of (g3.cell (i := 0) rfl rfl) (ldI_of (g3.cell (i := 0) rfl rfl) (ldI_of (g3.cell (i := 0) rfl rfl) (ldI_of (g3.cell (i := 0) rfl rfl) (?_))))))))))))))))))))))
  have ha0 := hg.a0
  have hn12 : 1 ≤ c.a0 ∧ c.a0 ≤ 12 := by omega
  refine newC (c := c) hg g3 (fun h => absurd h (by omega)) fun _ _ tb H6 g6 => ?_
  (try simp only [asI_mk', asB_mk, asP_mk, asA_mk, asM_mk, asSl_mk, asStr_mk, tup2_mk, tup3_mk, agg1_mk, agg2_mk, agg3_mk, agg4_mk, asAggm, unCons_mk, unNil_mk, asTup_mk, extractD0, extractD1, List.toList_toArray, nilP_mk, add_mk, Nat.zero_add, Nat.add_zero, condT, condF, Bool.not_true, Bool.not_false, Option.isNone_some, Option.isNone_none])
  refine knownC g6 fun H7 g7 => ?_
  (try simp only [asI_mk', asB_mk, asP_mk, asA_mk, asM_mk, asSl_mk, asStr_mk, tup2_mk, tup3_mk, agg1_mk, agg2_mk, agg3_mk, agg4_mk, asAggm, unCons_mk, unNil_mk, asTup_mk, extractD0, extractD1, List.toList_toArray, nilP_mk, add_mk, Nat.zero_add, Nat.add_zero, condT, condF, Bool.not_true, Bool.not_false, Option.isNone_some, Option.isNone_none])
  refine bif_neqf rfl ?_
  (try simp only [Option.isNone, condF])
  refine stubC g7 fun H8 g8 => ?_
  (try simp only [asI_mk', asB_mk, asP_mk, asA_mk, asM_mk, asSl_mk, asStr_mk, tup2_mk, tup3_mk, agg1_mk, agg2_mk, agg3_mk, agg4_mk, asAggm, unCons_mk, unNil_mk, asTup_mk, extractD0, extractD1, List.toList_toArray, nilP_mk, add_mk, Nat.zero_add, Nat.add_zero, condT, condF, Bool.not_true, Bool.not_false, Option.isNone_some, Option.isNone_none])
  have hb0 : (newTr 1 0).beginE c.a0 2 7 = 0 := by
    unfold Tr.beginE
    rw [if_neg (by simp [newTr]), if_neg (by decide), if_neg (by omega), if_neg (by simp [newTr]), if_neg (by decide), if_neg (by decide), if_neg (by simp [newTr])]
  refine trBeginC g8 (k := 0) rfl (by simp only [newTr]; omega) (fun h => absurd hb0 h) fun _ H9 g9 => ?_
  have g9 : St H [TrP tb c ((newTr 1 0).begun 2 7 0), Prt.one bc (.cells #[.int .i64 c.a0, .int .i64 c.a1, .int .i64 c.a2, .int .i64 c.a3, .int .i64 c.a4, .int .i64 c.a5, .int .i64 c.a6, .int .i64 c.a7, .int .i64 c.a8, .int .i64 c.a9, .int .i64 c.a10, .int .u64 c.a11, .int .u64 c.a12, .int .u64 c.a13, .int .u64 c.a14, .int .u64 c.a15, .int .u64 c.a16, .int .i64 c.a17, .int .i64 c.a18, .int .i64 c.a19, .int .u64 c.a20, .int .u64 c.a21] ty_api_Config (0, 0)), Prt.one bw (.cells #[.slice ip il ic, .slice op ol oc, .slice lp ll lc, .slice gp gl gc] ty_law23_Web (0, 0)), Prt.one br (.cells #[.int .i64 r.a0, .int .i64 r.a1, .int .i64 r.a2, .int .i64 r.a3, .int .i64 r.a4, .int .i64 r.a5, .int .i64 r.a6, .int .i64 r.a7, .int .i64 r.a8, .int .i64 r.a9, .int .i64 r.a10, .int .i64 r.a11, .int .i64 r.a12, .int .i64 r.a13, .int .i64 r.a14, .int .i64 r.a15, .int .i64 r.a16, .int .i64 r.a17, .int .i64 r.a18, .int .i64 r.a19, .int .u64 r.a20, .int .u64 r.a21] ty_hand_Raw (0, 0))] H9 := g9
  clear g8 g7 g6 g3 g2 g1
  (try simp only [asI_mk', asB_mk, asP_mk, asA_mk, asM_mk, asSl_mk, asStr_mk, tup2_mk, tup3_mk, agg1_mk, agg2_mk, agg3_mk, agg4_mk, asAggm, unCons_mk, unNil_mk, asTup_mk, extractD0, extractD1, List.toList_toArray, nilP_mk, add_mk, Nat.zero_add, Nat.add_zero, condT, condF, Bool.not_true, Bool.not_false, Option.isNone_some, Option.isNone_none])
  refine bif_neqf rfl ?_
  intro bl hbl
  have g10 := g9.alloc (o := .cells #[.int .i64 0, .int .i64 0, .int .i64 0, .int .u64 0, .int .u64 0, .int .i64 0, .int .i64 0, .int .i64 0, .int .i64 0, .int .u64 0, .slice none 0 0, .int .u64 0, .int .i64 0, .int .u64 0, .int .i64 0, .int .u64 0, .int .i64 0, .int .u64 0, .slice none 0 0] ty_api_Msg) hbl
  have g10 : St H [Prt.one bl (.cells mg0.cells.toArray ty_api_Msg (0, 0)), TrP tb c ((newTr 1 0).begun 2 7 0), Prt.one bc (.cells #[.int .i64 c.a0, .int .i64 c.a1, .int .i64 c.a2, .int .i64 c.a3, .int .i64 c.a4, .int .i64 c.a5, .int .i64 c.a6, .int .i64 c.a7, .int .i64 c.a8, .int .i64 c.a9, .int .i64 c.a10, .int .u64 c.a11, .int .u64 c.a12, .int .u64 c.a13, .int .u64 c.a14, .int .u64 c.a15, .int .u64 c.a16, .int .i64 c.a17, .int .i64 c.a18, .int .i64 c.a19, .int .u64 c.a20, .int .u64 c.a21] ty_api_Config (0, 0)), Prt.one bw (.cells #[.slice ip il ic, .slice op ol oc, .slice lp ll lc, .slice gp gl gc] ty_law23_Web (0, 0)), Prt.one br (.cells #[.int .i64 r.a0, .int .i64 r.a1, .int .i64 r.a2, .int .i64 r.a3, .int .i64 r.a4, .int .i64 r.a5, .int .i64 r.a6, .int .i64 r.a7, .int .i64 r.a8, .int .i64 r.a9, .int .i64 r.a10, .int .i64 r.a11, .int .i64 r.a12, .int .i64 r.a13, .int .i64 r.a14, .int .i64 r.a15, .int .i64 r.a16, .int .i64 r.a17, .int .i64 r.a18, .int .i64 r.a19, .int .u64 r.a20, .int .u64 r.a21] ty_hand_Raw (0, 0))] _ := g10
  intro R197 hR197
  have hQ197 : ∀ (last : Mg) t H', t.ok c.a0 → t.st = 0 → St H [Prt.one bl (.cells last.cells.toArray ty_api_Msg (0, 0)), TrP tb c t, Prt.one bc (.cells #[.int .i64 c.a0, .int .i64 c.a1, .int .i64 c.a2, .int .i64 c.a3, .int .i64 c.a4, .int .i64 c.a5, .int .i64 c.a6, .int .i64 c.a7, .int .i64 c.a8, .int .i64 c.a9, .int .i64 c.a10, .int .u64 c.a11, .int .u64 c.a12, .int .u64 c.a13, .int .u64 c.a14, .int .u64 c.a15, .int .u64 c.a16, .int .i64 c.a17, .int .i64 c.a18, .int .i64 c.a19, .int .u64 c.a20, .int .u64 c.a21] ty_api_Config (0, 0)), Prt.one bw (.cells #[.slice ip il ic, .slice op ol oc, .slice lp ll lc, .slice gp gl gc] ty_law23_Web (0, 0)), Prt.one br (.cells #[.int .i64 r.a0, .int .i64 r.a1, .int .i64 r.a2, .int .i64 r.a3, .int .i64 r.a4, .int .i64 r.a5, .int .i64 r.a6, .int .i64 r.a7, .int .i64 r.a8, .int .i64 r.a9, .int .i64 r.a10, .int .i64 r.a11, .int .i64 r.a12, .int .i64 r.a13, .int .i64 r.a14, .int .i64 r.a15, .int .i64 r.a16, .int .i64 r.a17, .int .i64 r.a18, .int .i64 r.a19, .int .u64 r.a20, .int .u64 r.a21] ty_hand_Raw (0, 0))] H' → R197 H' := fun last t H' hok h0 g => by
    refine hR197 H' ?_
    refine trStateC g (k := 1) rfl ?_
    (try simp only [asI_mk', asB_mk, asP_mk, asA_mk, asM_mk, asSl_mk, asStr_mk, tup2_mk, tup3_mk, agg1_mk, agg2_mk, agg3_mk, agg4_mk, asAggm, unCons_mk, unNil_mk, asTup_mk, extractD0, extractD1, List.toList_toArray, nilP_mk, add_mk, Nat.zero_add, Nat.add_zero, condT, condF, Bool.not_true, Bool.not_false, Option.isNone_some, Option.isNone_none])
    refine bif_eq h0 ?_
    refine ldI_of (g.cell (i := 0) rfl rfl) (ldI_of (g.cell (i := 0) rfl rfl) (ldI_of (g.cell (i := 0) rfl rfl) (ldI_of (g.cell (i := 0) rfl rfl) (ldI_of (g.cell (i := 0) rfl rfl) (ldI_of (g.cell (i := 0) rfl rfl) (ldI_of (g.cell (i := 0) rfl rfl) (ldI_of (g.cell (i := 0) rfl rfl) (ldI_of (g.cell (i := 0) rfl rfl) (ldI_of (g.cell (i := 0) rfl rfl) (ldSl_of (g.cell (i := 0) rfl rfl) (ldI_of (g.cell (i := 0) rfl rfl) (ldI_of (g.cell (i := 0) rfl rfl) (ldI_of (g.cell (i := 0) rfl rfl) (ldI_of (g.cell (i := 0) rfl rfl) (ldI_of (g.cell (i := 0) rfl rfl) (ldI_of (g.cell (i := 0) rfl rfl) (ldI_of (g.cell (i := 0) rfl rfl) (ldSl_of (g.cell (i := 0) rfl rfl) (?_)))))))))))))))))))
    refine trDeafC (m := last.m) g (k := 1) rfl hn12 (by unfold Tr.heeds; rw [decide_eq_true h0]; rfl) fun H2 g2 => ?_
    (try simp only [asI_mk', asB_mk, asP_mk, asA_mk, asM_mk, asSl_mk, asStr_mk, tup2_mk, tup3_mk, agg1_mk, agg2_mk, agg3_mk, agg4_mk, asAggm, unCons_mk, unNil_mk, asTup_mk, extractD0, extractD1, List.toList_toArray, nilP_mk, add_mk, Nat.zero_add, Nat.add_zero, condT, condF, Bool.not_true, Bool.not_false, Option.isNone_some, Option.isNone_none])
    exact hK H2 g2.keep
  clear hR197
  refine ⟨fun i H' => ∃ (j : Nat) (t : Tr) (last : Mg), i = j ∧ Wi c.a0 w j t ∧ (last.m.kind = 0 ∨ last.m.item ≠ (j : Int)) ∧ St H [Prt.one bl (.cells last.cells.toArray ty_api_Msg (0, 0)), TrP tb c t, Prt.one bc (.cells #[.int .i64 c.a0, .int .i64 c.a1, .int .i64 c.a2, .int .i64 c.a3, .int .i64 c.a4, .int .i64 c.a5, .int .i64 c.a6, .int .i64 c.a7, .int .i64 c.a8, .int .i64 c.a9, .int .i64 c.a10, .int .u64 c.a11, .int .u64 c.a12, .int .u64 c.a13, .int .u64 c.a14, .int .u64 c.a15, .int .u64 c.a16, .int .i64 c.a17, .int .i64 c.a18, .int .i64 c.a19, .int .u64 c.a20, .int .u64 c.a21] ty_api_Config (0, 0)), Prt.one bw (.cells #[.slice ip il ic, .slice op ol oc, .slice lp ll lc, .slice gp gl gc] ty_law23_Web (0, 0)), Prt.one br (.cells #[.int .i64 r.a0, .int .i64 r.a1, .int .i64 r.a2, .int .i64 r.a3, .int .i64 r.a4, .int .i64 r.a5, .int .i64 r.a6, .int .i64 r.a7, .int .i64 r.a8, .int .i64 r.a9, .int .i64 r.a10, .int .i64 r.a11, .int .i64 r.a12, .int .i64 r.a13, .int .i64 r.a14, .int .i64 r.a15, .int .i64 r.a16, .int .i64 r.a17, .int .i64 r.a18, .int .i64 r.a19, .int .u64 r.a20, .int .u64 r.a21] ty_hand_Raw (0, 0))] H', fun i _ => (1000 - i).toNat, ⟨0, _, mg0, rfl, Wi.start (by omega), .inl rfl, g10⟩, ?_⟩
  clear g9 g10
  rintro i H12 ⟨j, t, last, rfl, h1, hlast, g12⟩
  by_cases hj : (j : Int) < 300
  rotate_left
  · refine bif_neg hj (hQ197 last t H12 h1.ok (Classical.byContradiction fun h0 => ?_) g12)
    have := h1.lt (by omega) h0
    omega
  refine bif_pos hj (trStateC g12 (k := 1) rfl ?_)
  (try simp only [asI_mk', asB_mk, asP_mk, asA_mk, asM_mk, asSl_mk, asStr_mk, tup2_mk, tup3_mk, agg1_mk, agg2_mk, agg3_mk, agg4_mk, asAggm, unCons_mk, unNil_mk, asTup_mk, extractD0, extractD1, List.toList_toArray, nilP_mk, add_mk, Nat.zero_add, Nat.add_zero, condT, condF, Bool.not_true, Bool.not_false, Option.isNone_some, Option.isNone_none])
  by_cases h0 : t.st = 0
  · exact bif_neqf h0 (hQ197 last t H12 h1.ok h0 g12)
  refine bif_neq h0 ?_
  clear hQ197
  have hst := h1.ok.st
  obtain ⟨q1, q2, q3, q4⟩ := h1.tob (by omega) h0
  obtain ⟨n1, n2⟩ := h1.step (by omega) h0
  refine trStepC g12 (k := 1) rfl (fun h => absurd h (by rw [h1.asks h0]; decide)) fun _ H13 g13 => ?_
  have g13 : St H [Prt.one bl (.cells last.cells.toArray ty_api_Msg (0, 0)), TrP tb c (t.told c.a14 c.a15 1099511627776), Prt.one bc (.cells #[.int .i64 c.a0, .int .i64 c.a1, .int .i64 c.a2, .int .i64 c.a3, .int .i64 c.a4, .int .i64 c.a5, .int .i64 c.a6, .int .i64 c.a7, .int .i64 c.a8, .int .i64 c.a9, .int .i64 c.a10, .int .u64 c.a11, .int .u64 c.a12, .int .u64 c.a13, .int .u64 c.a14, .int .u64 c.a15, .int .u64 c.a16, .int .i64 c.a17, .int .i64 c.a18, .int .i64 c.a19, .int .u64 c.a20, .int .u64 c.a21] ty_api_Config (0, 0)), Prt.one bw (.cells #[.slice ip il ic, .slice op ol oc, .slice lp ll lc, .slice gp gl gc] ty_law23_Web (0, 0)), Prt.one br (.cells #[.int .i64 r.a0, .int .i64 r.a1, .int .i64 r.a2, .int .i64 r.a3, .int .i64 r.a4, .int .i64 r.a5, .int .i64 r.a6, .int .i64 r.a7, .int .i64 r.a8, .int .i64 r.a9, .int .i64 r.a10, .int .i64 r.a11, .int .i64 r.a12, .int .i64 r.a13, .int .i64 r.a14, .int .i64 r.a15, .int .i64 r.a16, .int .i64 r.a17, .int .i64 r.a18, .int .i64 r.a19, .int .u64 r.a20, .int .u64 r.a21] ty_hand_Raw (0, 0))] H13 := g13
  obtain ⟨q, hq⟩ : ∃ q, q = t.q := ⟨_, rfl⟩
  rw [← hq] at q1 q2 q3 q4 n1 n2 ⊢
  unfold Qn.val
  (try simp only [asI_mk', asB_mk, asP_mk, asA_mk, asM_mk, asSl_mk, asStr_mk, tup2_mk, tup3_mk, agg1_mk, agg2_mk, agg3_mk, agg4_mk, asAggm, unCons_mk, unNil_mk, asTup_mk, extractD0, extractD1, List.toList_toArray, nilP_mk, add_mk, Nat.zero_add, Nat.add_zero, condT, condF, Bool.not_true, Bool.not_false, Option.isNone_some, Option.isNone_none])
  refine boxz (c := [.int .i64 0, .int .i64 0, .int .i64 0, .int .u64 0, .int .u64 0, .int .i64 0, .int .i64 0, .int .i64 0, .int .i64 0, .int .u64 0, .slice none 0 0, .int .u64 0, .int .i64 0, .int .u64 0, .int .i64 0, .int .u64 0, .int .i64 0, .int .u64 0, .slice none 0 0]) (vs := q.cells) g13 rfl fun bq H14 g14 => ?_
  have g14 : St H [Prt.one bq (.cells q.cells.toArray ty_api_Msg (0, 0)), Prt.one bl (.cells last.cells.toArray ty_api_Msg (0, 0)), TrP tb c (t.told c.a14 c.a15 1099511627776), Prt.one bc (.cells #[.int .i64 c.a0, .int .i64 c.a1, .int .i64 c.a2, .int .i64 c.a3, .int .i64 c.a4, .int .i64 c.a5, .int .i64 c.a6, .int .i64 c.a7, .int .i64 c.a8, .int .i64 c.a9, .int .i64 c.a10, .int .u64 c.a11, .int .u64 c.a12, .int .u64 c.a13, .int .u64 c.a14, .int .u64 c.a15, .int .u64 c.a16, .int .i64 c.a17, .int .i64 c.a18, .int .i64 c.a19, .int .u64 c.a20, .int .u64 c.a21] ty_api_Config (0, 0)), Prt.one bw (.cells #[.slice ip il ic, .slice op ol oc, .slice lp ll lc, .slice gp gl gc] ty_law23_Web (0, 0)), Prt.one br (.cells #[.int .i64 r.a0, .int .i64 r.a1, .int .i64 r.a2, .int .i64 r.a3, .int .i64 r.a4, .int .i64 r.a5, .int .i64 r.a6, .int .i64 r.a7, .int .i64 r.a8, .int .i64 r.a9, .int .i64 r.a10, .int .i64 r.a11, .int .i64 r.a12, .int .i64 r.a13, .int .i64 r.a14, .int .i64 r.a15, .int .i64 r.a16, .int .i64 r.a17, .int .i64 r.a18, .int .i64 r.a19, .int .u64 r.a20, .int .u64 r.a21] ty_hand_Raw (0, 0))] H14 := g14
  refine ldSl_of (g14.cell (i := 4) rfl rfl) (ldSl_of (g14.cell (i := 4) rfl rfl) (ldSl_of (g14.cell (i := 4) rfl rfl) (ldSl_of (g14.cell (i := 4) rfl rfl) ?_)))
  refine ldI_of (g14.cell (i := 3) rfl rfl) (ldI_of (g14.cell (i := 3) rfl rfl) (ldI_of (g14.cell (i := 3) rfl rfl) (ldI_of (g14.cell (i := 3) rfl rfl) (ldI_of (g14.cell (i := 3) rfl rfl) (ldI_of (g14.cell (i := 3) rfl rfl) (ldI_of (g14.cell (i := 3) rfl rfl) (ldI_of (g14.cell (i := 3) rfl rfl) (ldI_of (g14.cell (i := 3) rfl rfl) (ldI_of (g14.cell (i := 3) rfl rfl) (ldI_of (g14.cell (i := 3) rfl rfl) (ldI_of (g14.cell (i := 3) rfl rfl) (ldI_of (g14.cell (i := 3) rfl rfl) (ldI_of (g14.cell (i := 3) rfl rfl) (ldI_of (g14.cell (i := 3) rfl rfl) (ldI_of (g14.cell (i := 3) rfl rfl) (ldI_of (g14.cell (i := 3) rfl rfl) (ldI_of (g14.cell (i := 3) rfl rfl) (ldI_of (g14.cell (i := 3) rfl rfl) (ldI_of (g14.cell (i := 3) rfl rfl) (ldI_of (g14.cell (i := 3) rfl rfl) (ldI_of (g14.cell (i := 3) rfl rfl) (?_))))))))))))))))))))))
  refine ldI_of (g14.cell (i := 0) rfl rfl) (ldI_of (g14.cell (i := 0) rfl rfl) (ldI_of (g14.cell (i := 0) rfl rfl) (ldI_of (g14.cell (i := 0) rfl rfl) (ldI_of (g14.cell (i := 0) rfl rfl) (ldI_of (g14.cell (i := 0) rfl rfl) (ldI_of (g14.cell (i := 0) rfl rfl) (ldI_of (g14.cell (i := 0) rfl rfl) (ldI_of (g14.cell (i := 0) rfl rfl) (ldI_of (g14.cell (i := 0) rfl rfl) (ldSl_of (g14.cell (i := 0) rfl rfl) (ldI_of (g14.cell (i := 0) rfl rfl) (ldI_of (g14.cell (i := 0) rfl rfl) (ldI_of (g14.cell (i := 0) rfl rfl) (ldI_of (g14.cell (i := 0) rfl rfl) (ldI_of (g14.cell (i := 0) rfl rfl) (ldI_of (g14.cell (i := 0) rfl rfl) (ldI_of (g14.cell (i := 0) rfl rfl) (ldSl_of (g14.cell (i := 0) rfl rfl) (?_)))))))))))))))))))
  refine answerC (q := q) hw hg q1 q2 g14 fun lp' ln' lc' H15 g15 => ?_
  obtain ⟨a, hae⟩ : ∃ a, a = mgOf (ansW w c.a0 q) lp' ln' lc' := ⟨_, rfl⟩
  have ham : a.m = ansW w c.a0 q := by rw [hae]; rfl
  have hal : a.lp = lp' ∧ a.ll = ln' := by rw [hae]; exact ⟨rfl, rfl⟩
  rw [← hae]
  unfold Mg.val
  (try simp only [asI_mk', asB_mk, asP_mk, asA_mk, asM_mk, asSl_mk, asStr_mk, tup2_mk, tup3_mk, agg1_mk, agg2_mk, agg3_mk, agg4_mk, asAggm, unCons_mk, unNil_mk, asTup_mk, extractD0, extractD1, List.toList_toArray, nilP_mk, add_mk, Nat.zero_add, Nat.add_zero, condT, condF, Bool.not_true, Bool.not_false, Option.isNone_some, Option.isNone_none])
  refine boxz (c := [.int .i64 0, .int .i64 0, .int .i64 0, .int .u64 0, .int .u64 0, .int .i64 0, .int .i64 0, .int .i64 0, .int .i64 0, .int .u64 0, .slice none 0 0, .int .u64 0, .int .i64 0, .int .u64 0, .int .i64 0, .int .u64 0, .int .i64 0, .int .u64 0, .slice none 0 0]) (vs := a.cells) g15 rfl fun ba H16 g16 => ?_
  have g16 : St H [Prt.one ba (.cells a.cells.toArray ty_api_Msg (0, 0)), Prt.row 1 lp' ln' lc' ((ansW w c.a0 q).list.map (Value.int .u64)), Prt.one bq (.cells q.cells.toArray ty_api_Msg (0, 0)), Prt.one bl (.cells last.cells.toArray ty_api_Msg (0, 0)), TrP tb c (t.told c.a14 c.a15 1099511627776), Prt.one bc (.cells #[.int .i64 c.a0, .int .i64 c.a1, .int .i64 c.a2, .int .i64 c.a3, .int .i64 c.a4, .int .i64 c.a5, .int .i64 c.a6, .int .i64 c.a7, .int .i64 c.a8, .int .i64 c.a9, .int .i64 c.a10, .int .u64 c.a11, .int .u64 c.a12, .int .u64 c.a13, .int .u64 c.a14, .int .u64 c.a15, .int .u64 c.a16, .int .i64 c.a17, .int .i64 c.a18, .int .i64 c.a19, .int .u64 c.a20, .int .u64 c.a21] ty_api_Config (0, 0)), Prt.one bw (.cells #[.slice ip il ic, .slice op ol oc, .slice lp ll lc, .slice gp gl gc] ty_law23_Web (0, 0)), Prt.one br (.cells #[.int .i64 r.a0, .int .i64 r.a1, .int .i64 r.a2, .int .i64 r.a3, .int .i64 r.a4, .int .i64 r.a5, .int .i64 r.a6, .int .i64 r.a7, .int .i64 r.a8, .int .i64 r.a9, .int .i64 r.a10, .int .i64 r.a11, .int .i64 r.a12, .int .i64 r.a13, .int .i64 r.a14, .int .i64 r.a15, .int .i64 r.a16, .int .i64 r.a17, .int .i64 r.a18, .int .i64 r.a19, .int .u64 r.a20, .int .u64 r.a21] ty_hand_Raw (0, 0))] H16 := g16
  refine ldI_of (g16.cell (i := 0) rfl rfl) (ldI_of (g16.cell (i := 0) rfl rfl) (ldI_of (g16.cell (i := 0) rfl rfl) (ldI_of (g16.cell (i := 0) rfl rfl) (ldI_of (g16.cell (i := 0) rfl rfl) (ldI_of (g16.cell (i := 0) rfl rfl) (ldI_of (g16.cell (i := 0) rfl rfl) (ldI_of (g16.cell (i := 0) rfl rfl) (ldI_of (g16.cell (i := 0) rfl rfl) (ldI_of (g16.cell (i := 0) rfl rfl) (ldSl_of (g16.cell (i := 0) rfl rfl) (ldI_of (g16.cell (i := 0) rfl rfl) (ldI_of (g16.cell (i := 0) rfl rfl) (ldI_of (g16.cell (i := 0) rfl rfl) (ldI_of (g16.cell (i := 0) rfl rfl) (ldI_of (g16.cell (i := 0) rfl rfl) (ldI_of (g16.cell (i := 0) rfl rfl) (ldI_of (g16.cell (i := 0) rfl rfl) (ldSl_of (g16.cell (i := 0) rfl rfl) (?_)))))))))))))))))))
  refine boxz (c := [.int .i64 0, .int .i64 0, .int .i64 0, .int .u64 0, .int .u64 0, .int .i64 0, .int .i64 0, .int .i64 0, .int .i64 0, .int .u64 0, .slice none 0 0, .int .u64 0, .int .i64 0, .int .u64 0, .int .i64 0, .int .u64 0, .int .i64 0, .int .u64 0, .slice none 0 0]) (vs := a.cells) g16 rfl fun bb H17 g17 => ?_
  have g17 : St H [Prt.one bb (.cells a.cells.toArray ty_api_Msg (0, 0)), Prt.one ba (.cells a.cells.toArray ty_api_Msg (0, 0)), Prt.row 1 lp' ln' lc' ((ansW w c.a0 q).list.map (Value.int .u64)), Prt.one bq (.cells q.cells.toArray ty_api_Msg (0, 0)), Prt.one bl (.cells last.cells.toArray ty_api_Msg (0, 0)), TrP tb c (t.told c.a14 c.a15 1099511627776), Prt.one bc (.cells #[.int .i64 c.a0, .int .i64 c.a1, .int .i64 c.a2, .int .i64 c.a3, .int .i64 c.a4, .int .i64 c.a5, .int .i64 c.a6, .int .i64 c.a7, .int .i64 c.a8, .int .i64 c.a9, .int .i64 c.a10, .int .u64 c.a11, .int .u64 c.a12, .int .u64 c.a13, .int .u64 c.a14, .int .u64 c.a15, .int .u64 c.a16, .int .i64 c.a17, .int .i64 c.a18, .int .i64 c.a19, .int .u64 c.a20, .int .u64 c.a21] ty_api_Config (0, 0)), Prt.one bw (.cells #[.slice ip il ic, .slice op ol oc, .slice lp ll lc, .slice gp gl gc] ty_law23_Web (0, 0)), Prt.one br (.cells #[.int .i64 r.a0, .int .i64 r.a1, .int .i64 r.a2, .int .i64 r.a3, .int .i64 r.a4, .int .i64 r.a5, .int .i64 r.a6, .int .i64 r.a7, .int .i64 r.a8, .int .i64 r.a9, .int .i64 r.a10, .int .i64 r.a11, .int .i64 r.a12, .int .i64 r.a13, .int .i64 r.a14, .int .i64 r.a15, .int .i64 r.a16, .int .i64 r.a17, .int .i64 r.a18, .int .i64 r.a19, .int .u64 r.a20, .int .u64 r.a21] ty_hand_Raw (0, 0))] H17 := g17
  clear g16 g15 g14 g13 g12
  intro R509 hR509
  have hQ509 : ∀ (bad : Mg) H', t.heeds bad.m = false → St H [Prt.one bb (.cells bad.cells.toArray ty_api_Msg (0, 0)), Prt.one ba (.cells a.cells.toArray ty_api_Msg (0, 0)), Prt.row 1 lp' ln' lc' ((ansW w c.a0 q).list.map (Value.int .u64)), Prt.one bq (.cells q.cells.toArray ty_api_Msg (0, 0)), Prt.one bl (.cells last.cells.toArray ty_api_Msg (0, 0)), TrP tb c (t.told c.a14 c.a15 1099511627776), Prt.one bc (.cells #[.int .i64 c.a0, .int .i64 c.a1, .int .i64 c.a2, .int .i64 c.a3, .int .i64 c.a4, .int .i64 c.a5, .int .i64 c.a6, .int .i64 c.a7, .int .i64 c.a8, .int .i64 c.a9, .int .i64 c.a10, .int .u64 c.a11, .int .u64 c.a12, .int .u64 c.a13, .int .u64 c.a14, .int .u64 c.a15, .int .u64 c.a16, .int .i64 c.a17, .int .i64 c.a18, .int .i64 c.a19, .int .u64 c.a20, .int .u64 c.a21] ty_api_Config (0, 0)), Prt.one bw (.cells #[.slice ip il ic, .slice op ol oc, .slice lp ll lc, .slice gp gl gc] ty_law23_Web (0, 0)), Prt.one br (.cells #[.int .i64 r.a0, .int .i64 r.a1, .int .i64 r.a2, .int .i64 r.a3, .int .i64 r.a4, .int .i64 r.a5, .int .i64 r.a6, .int .i64 r.a7, .int .i64 r.a8, .int .i64 r.a9, .int .i64 r.a10, .int .i64 r.a11, .int .i64 r.a12, .int .i64 r.a13, .int .i64 r.a14, .int .i64 r.a15, .int .i64 r.a16, .int .i64 r.a17, .int .i64 r.a18, .int .i64 r.a19, .int .u64 r.a20, .int .u64 r.a21] ty_hand_Raw (0, 0))] H' → R509 H' := fun bad H' hbad g => by
    refine hR509 H' ?_
    clear hR509 g17
    refine trItemsC g (k := 5) rfl fun p1 c1 H2 g2 => ?_
    (try simp only [asI_mk', asB_mk, asP_mk, asA_mk, asM_mk, asSl_mk, asStr_mk, tup2_mk, tup3_mk, agg1_mk, agg2_mk, agg3_mk, agg4_mk, asAggm, unCons_mk, unNil_mk, asTup_mk, extractD0, extractD1, List.toList_toArray, nilP_mk, add_mk, Nat.zero_add, Nat.add_zero, condT, condF, Bool.not_true, Bool.not_false, Option.isNone_some, Option.isNone_none])
    refine ldI_of (g2.cell (i := 1) rfl rfl) (ldI_of (g2.cell (i := 1) rfl rfl) (ldI_of (g2.cell (i := 1) rfl rfl) (ldI_of (g2.cell (i := 1) rfl rfl) (ldI_of (g2.cell (i := 1) rfl rfl) (ldI_of (g2.cell (i := 1) rfl rfl) (ldI_of (g2.cell (i := 1) rfl rfl) (ldI_of (g2.cell (i := 1) rfl rfl) (ldI_of (g2.cell (i := 1) rfl rfl) (ldI_of (g2.cell (i := 1) rfl rfl) (ldSl_of (g2.cell (i := 1) rfl rfl) (ldI_of (g2.cell (i := 1) rfl rfl) (ldI_of (g2.cell (i := 1) rfl rfl) (ldI_of (g2.cell (i := 1) rfl rfl) (ldI_of (g2.cell (i := 1) rfl rfl) (ldI_of (g2.cell (i := 1) rfl rfl) (ldI_of (g2.cell (i := 1) rfl rfl) (ldI_of (g2.cell (i := 1) rfl rfl) (ldSl_of (g2.cell (i := 1) rfl rfl) (?_)))))))))))))))))))
    refine trDeafC (m := bad.m) (t := t.told c.a14 c.a15 1099511627776) g2 (k := 6) rfl hn12 hbad fun H3 g3 => ?_
    (try simp only [asI_mk', asB_mk, asP_mk, asA_mk, asM_mk, asSl_mk, asStr_mk, tup2_mk, tup3_mk, agg1_mk, agg2_mk, agg3_mk, agg4_mk, asAggm, unCons_mk, unNil_mk, asTup_mk, extractD0, extractD1, List.toList_toArray, nilP_mk, add_mk, Nat.zero_add, Nat.add_zero, condT, condF, Bool.not_true, Bool.not_false, Option.isNone_some, Option.isNone_none])
    refine trItemsC g3 (k := 6) rfl fun p2 c2 H4 g4 => ?_
    (try simp only [asI_mk', asB_mk, asP_mk, asA_mk, asM_mk, asSl_mk, asStr_mk, tup2_mk, tup3_mk, agg1_mk, agg2_mk, agg3_mk, agg4_mk, asAggm, unCons_mk, unNil_mk, asTup_mk, extractD0, extractD1, List.toList_toArray, nilP_mk, add_mk, Nat.zero_add, Nat.add_zero, condT, condF, Bool.not_true, Bool.not_false, Option.isNone_some, Option.isNone_none])
    refine itemsC (g4.row_rd (i := 0) rfl) (g4.row_rd (i := 1) rfl) rfl rfl h1.ok.items ?_
    (try simp only [asI_mk', asB_mk, asP_mk, asA_mk, asM_mk, asSl_mk, asStr_mk, tup2_mk, tup3_mk, agg1_mk, agg2_mk, agg3_mk, agg4_mk, asAggm, unCons_mk, unNil_mk, asTup_mk, extractD0, extractD1, List.toList_toArray, nilP_mk, add_mk, Nat.zero_add, Nat.add_zero, condT, condF, Bool.not_true, Bool.not_false, Option.isNone_some, Option.isNone_none])
    refine trStateC g4 (k := 7) rfl ?_
    (try simp only [asI_mk', asB_mk, asP_mk, asA_mk, asM_mk, asSl_mk, asStr_mk, tup2_mk, tup3_mk, agg1_mk, agg2_mk, agg3_mk, agg4_mk, asAggm, unCons_mk, unNil_mk, asTup_mk, extractD0, extractD1, List.toList_toArray, nilP_mk, add_mk, Nat.zero_add, Nat.add_zero, condT, condF, Bool.not_true, Bool.not_false, Option.isNone_some, Option.isNone_none])
    refine bif_ne h0 ?_
    refine ldI_of (g4.cell (i := 3) rfl rfl) (ldI_of (g4.cell (i := 3) rfl rfl) (ldI_of (g4.cell (i := 3) rfl rfl) (ldI_of (g4.cell (i := 3) rfl rfl) (ldI_of (g4.cell (i := 3) rfl rfl) (ldI_of (g4.cell (i := 3) rfl rfl) (ldI_of (g4.cell (i := 3) rfl rfl) (ldI_of (g4.cell (i := 3) rfl rfl) (ldI_of (g4.cell (i := 3) rfl rfl) (ldI_of (g4.cell (i := 3) rfl rfl) (ldSl_of (g4.cell (i := 3) rfl rfl) (ldI_of (g4.cell (i := 3) rfl rfl) (ldI_of (g4.cell (i := 3) rfl rfl) (ldI_of (g4.cell (i := 3) rfl rfl) (ldI_of (g4.cell (i := 3) rfl rfl) (ldI_of (g4.cell (i := 3) rfl rfl) (ldI_of (g4.cell (i := 3) rfl rfl) (ldI_of (g4.cell (i := 3) rfl rfl) (ldSl_of (g4.cell (i := 3) rfl rfl) (?_)))))))))))))))))))
    have hrow : ∀ H', Rd H' 1 lp' ln' ((ansW w c.a0 q).list.map (Value.int .u64)) → ln' = (ansW w c.a0 q).list.length := fun H' h => by simpa using h.1.symm
    have hln := hrow H4 (g4.row_rd (i := 4) rfl)
    have hll : (ansW w c.a0 q).list.length ≤ 4 := by
      rw [hq]
      exact ans_few
    refine trHearG (m := a.m) (t := t.told c.a14 c.a15 1099511627776) g4 (k := 7) rfl hn12 (fun _ _ => ⟨?_, ?_, ?_, fun N M H' hot h' => ?_⟩) fun H5 g5 => ?_
    · rw [hal.2, ham]; exact hln
    · rw [hal.2, hln]; omega
    · rw [ham]; exact ans_list
    · rw [hal.1, hal.2, ham]
      exact (St.lesses (M := N) h').row_rd (hot 4 _ rfl (by decide))
    have e2 : (t.told c.a14 c.a15 1099511627776).heeds a.m = true := by rw [ham]; exact n1
    rw [ham, told_hear n1] at g5
    rw [e2]
    (try simp only [asI_mk', asB_mk, asP_mk, asA_mk, asM_mk, asSl_mk, asStr_mk, tup2_mk, tup3_mk, agg1_mk, agg2_mk, agg3_mk, agg4_mk, asAggm, unCons_mk, unNil_mk, asTup_mk, extractD0, extractD1, List.toList_toArray, nilP_mk, add_mk, Nat.zero_add, Nat.add_zero, condT, condF, Bool.not_true, Bool.not_false, Option.isNone_some, Option.isNone_none])
    have g5 : St H [Prt.row 5 p2 t.items.length c2 (cel It.cells t.items), Prt.row 5 p1 t.items.length c1 (cel It.cells t.items), Prt.one bb (.cells bad.cells.toArray ty_api_Msg (0, 0)), Prt.one ba (.cells a.cells.toArray ty_api_Msg (0, 0)), Prt.row 1 lp' ln' lc' ((ansW w c.a0 q).list.map (Value.int .u64)), Prt.one bq (.cells q.cells.toArray ty_api_Msg (0, 0)), Prt.one bl (.cells last.cells.toArray ty_api_Msg (0, 0)), TrP tb c (t.hear c.a0 (ansW w c.a0 q)), Prt.one bc (.cells #[.int .i64 c.a0, .int .i64 c.a1, .int .i64 c.a2, .int .i64 c.a3, .int .i64 c.a4, .int .i64 c.a5, .int .i64 c.a6, .int .i64 c.a7, .int .i64 c.a8, .int .i64 c.a9, .int .i64 c.a10, .int .u64 c.a11, .int .u64 c.a12, .int .u64 c.a13, .int .u64 c.a14, .int .u64 c.a15, .int .u64 c.a16, .int .i64 c.a17, .int .i64 c.a18, .int .i64 c.a19, .int .u64 c.a20, .int .u64 c.a21] ty_api_Config (0, 0)), Prt.one bw (.cells #[.slice ip il ic, .slice op ol oc, .slice lp ll lc, .slice gp gl gc] ty_law23_Web (0, 0)), Prt.one br (.cells #[.int .i64 r.a0, .int .i64 r.a1, .int .i64 r.a2, .int .i64 r.a3, .int .i64 r.a4, .int .i64 r.a5, .int .i64 r.a6, .int .i64 r.a7, .int .i64 r.a8, .int .i64 r.a9, .int .i64 r.a10, .int .i64 r.a11, .int .i64 r.a12, .int .i64 r.a13, .int .i64 r.a14, .int .i64 r.a15, .int .i64 r.a16, .int .i64 r.a17, .int .i64 r.a18, .int .i64 r.a19, .int .u64 r.a20, .int .u64 r.a21] ty_hand_Raw (0, 0))] H5 := g5
    refine ldI_of (g5.cell (i := 3) rfl rfl) (ldI_of (g5.cell (i := 3) rfl rfl) (ldI_of (g5.cell (i := 3) rfl rfl) (ldI_of (g5.cell (i := 3) rfl rfl) (ldI_of (g5.cell (i := 3) rfl rfl) (ldI_of (g5.cell (i := 3) rfl rfl) (ldI_of (g5.cell (i := 3) rfl rfl) (ldI_of (g5.cell (i := 3) rfl rfl) (ldI_of (g5.cell (i := 3) rfl rfl) (ldI_of (g5.cell (i := 3) rfl rfl) (ldSl_of (g5.cell (i := 3) rfl rfl) (ldI_of (g5.cell (i := 3) rfl rfl) (ldI_of (g5.cell (i := 3) rfl rfl) (ldI_of (g5.cell (i := 3) rfl rfl) (ldI_of (g5.cell (i := 3) rfl rfl) (ldI_of (g5.cell (i := 3) rfl rfl) (ldI_of (g5.cell (i := 3) rfl rfl) (ldI_of (g5.cell (i := 3) rfl rfl) (ldSl_of (g5.cell (i := 3) rfl rfl) (?_)))))))))))))))))))
    refine St.sets (i := 6) (o := 0) (vs := a.cells) g5 rfl (by simp [Mg.cells]) fun H6 g6 => ?_
    rw [setsA_all (by rfl)] at g6
    have g6 := St.lesses (M := [_, _, _, _, _, _]) g6
    rw [wrap_i64 (by omega) (by omega)]
    refine ⟨⟨j + 1, _, a, by omega, n2, .inr ?_, g6⟩, by (try dsimp only); omega⟩
    rw [ham, ans_is.2.2.2, hq, (h1.item h0).1]
    omega
  clear hR509
  have hai : a.m.item = j ∧ a.m.call = 1 ∧ a.m.frm = q.to := by
    rw [ham, ans_is.2.2.2, ans_is.2.2.1, ans_is.1, hq, (h1.item h0).1, (h1.item h0).2]
    exact ⟨rfl, rfl, rfl⟩
  have hh : ∀ m : Ms, m.kind ≠ 9 ∧ m.kind ≠ 11 ∨ m.call ≠ 1 ∨ m.item ≠ j ∨ m.frm ≠ q.to → t.heeds m = false := fun m hm => by
    unfold Tr.heeds
    rw [← hq, show q.call = 1 by rw [hq]; exact (h1.item h0).2, show q.item = j by rw [hq]; exact (h1.item h0).1]
    rcases hm with hm | hm | hm | hm
    · rw [decide_eq_false (show ¬ (m.kind = if t.st = 3 then 11 else 9) from fun h => by split at h <;> omega), Bool.false_and, Bool.and_false]
    · rw [decide_eq_false hm, Bool.false_and, Bool.and_false, Bool.and_false]
    · rw [decide_eq_false hm, Bool.false_and, Bool.and_false, Bool.and_false, Bool.and_false]
    · rw [decide_eq_false hm, Bool.false_and, Bool.and_false, Bool.and_false, Bool.and_false, Bool.and_false]
  refine Pick_ok (by decide) (by decide) ?_
  (try simp only [asI_mk', asB_mk, asP_mk, asA_mk, asM_mk, asSl_mk, asStr_mk, tup2_mk, tup3_mk, agg1_mk, agg2_mk, agg3_mk, agg4_mk, asAggm, unCons_mk, unNil_mk, asTup_mk, extractD0, extractD1, List.toList_toArray, nilP_mk, add_mk, Nat.zero_add, Nat.add_zero, condT, condF, Bool.not_true, Bool.not_false, Option.isNone_some, Option.isNone_none])
  by_cases f0 : pick off 4 = 0
  · refine bif_eq f0 ?_
    refine ldI_of (g17.cell (i := 4) rfl rfl) (ldI_of (g17.cell (i := 4) rfl rfl) (ldI_of (g17.cell (i := 4) rfl rfl) (ldI_of (g17.cell (i := 4) rfl rfl) (ldI_of (g17.cell (i := 4) rfl rfl) (ldI_of (g17.cell (i := 4) rfl rfl) (ldI_of (g17.cell (i := 4) rfl rfl) (ldI_of (g17.cell (i := 4) rfl rfl) (ldI_of (g17.cell (i := 4) rfl rfl) (ldI_of (g17.cell (i := 4) rfl rfl) (ldSl_of (g17.cell (i := 4) rfl rfl) (ldI_of (g17.cell (i := 4) rfl rfl) (ldI_of (g17.cell (i := 4) rfl rfl) (ldI_of (g17.cell (i := 4) rfl rfl) (ldI_of (g17.cell (i := 4) rfl rfl) (ldI_of (g17.cell (i := 4) rfl rfl) (ldI_of (g17.cell (i := 4) rfl rfl) (ldI_of (g17.cell (i := 4) rfl rfl) (ldSl_of (g17.cell (i := 4) rfl rfl) (?_)))))))))))))))))))
    refine St.sets (i := 0) (o := 0) (vs := last.cells) g17 rfl (by simp [Mg.cells]) fun H18 g18 => ?_
    rw [setsA_all (by rfl)] at g18
    exact hQ509 last H18 (hh _ (by rcases hlast with h | h <;> omega)) g18
  refine bif_ne f0 ?_
  by_cases f1 : pick off 4 = 1
  · refine bif_eq f1 (ldI_of (g17.cell (i := 0) rfl rfl) (g17.put (i := 0) rfl (show 3 < 19 by decide) fun H18 g18 => ?_))
    refine hQ509 { a with m := { a.m with call := IntKind.u64.wrap (a.m.call + 1) } } H18 (hh _ (.inr (.inl ?_))) g18
    simp only
    rw [hai.2.1, wrap_u64' (by omega) (by omega)]
    decide
  refine bif_ne f1 ?_
  by_cases f2 : pick off 4 = 2
  · refine bif_eq f2 (ldI_of (g17.cell (i := 0) rfl rfl) (g17.put (i := 0) rfl (show 7 < 19 by decide) fun H18 g18 => ?_))
    refine hQ509 { a with m := { a.m with item := IntKind.i64.wrap (a.m.item + 1) } } H18 (hh _ (.inr (.inr (.inl ?_)))) g18
    simp only
    rw [hai.1, wrap_i64 (by omega) (by omega)]
    omega
  refine bif_ne f2 (ldI_of (g17.cell (i := 0) rfl rfl) (ldI_of (g17.cell (i := 6) rfl rfl) ⟨by omega, g17.put (i := 0) rfl (show 1 < 19 by decide) fun H18 g18 => ?_⟩))
  refine hQ509 { a with m := { a.m with frm := IntKind.i64.wrap (1 + Int.tmod a.m.frm c.a0) } } H18 (hh _ (.inr (.inr (.inr ?_)))) g18
  simp only
  have hto : 1 ≤ q.to ∧ q.to ≤ c.a0 := q4
  rw [hai.2.2, Int.tmod_eq_emod_of_nonneg (by omega)]
  rcases Int.lt_or_eq_of_le hto.2 with h | h
  · rw [Int.emod_eq_of_lt (by omega) h, wrap_i64 (by omega) (by omega)]
    omega
  · rw [h, Int.emod_self, wrap_i64 (by omega) (by omega)]
    omega
theorem TraceStale_ok {x : E_hand_Raw} {w : Web} {off : Int} {ip op lp gp : Option Addr} {il ic ol oc ll lc gl gc : Nat} {H : Hp} {K : Value → Hp → Prop} (hx : x.ok) (hw : WebA H ip il op ol lp ll gp gl w) (hoff : IntKind.min .i64 ≤ off ∧ off ≤ IntKind.max .i64)
    (hK : ∀ H', Keep Nothing H H' → K (.bool true) H') : hcall PR f_law23_TraceStale ⟨[.agg x.cells.toArray, .agg #[.slice ip il ic, .slice op ol oc, .slice lp ll lc, .slice gp gl gc], .int .i64 off]⟩ H K :=
  TraceStale_r (r := rawOf x) hx.Start.1 hx.Last.1 hw hoff hK

end Go.Proofs.Ytknejebggegfjaa
