/- Merged by merge.py: DenHand, Hand, DenRef2. No condition. -/
import Derived.Test.YtknejebggegfjaaZNum

namespace Go.Proofs.Ytknejebggegfjaa
open Go
set_option linter.unusedVariables false
set_option maxRecDepth 100000
def B_hand_Config (rNodes1 : Int) (rMutators2 : Int) (rSlots3 : Int) (rCells4 : Int) (rObjects5 : Int) (rStubs6 : Int) (rCalls7 : Int) (rWindow8 : Int) (rGrey9 : Int) (rBag10 : Int) (rInbox11 : Int) (rUnit12 : Int) (rDrift13 : Int) (rLease14 : Int) (rWait15 : Int) (rMost16 : Int) (rPatience17 : Int) (rSuspect18 : Int) (rTrace19 : Int) (rWork20 : Int) (rStart21 : Int) (rLast22 : Int) (H : Hp) (K : Value → Hp → Prop) : Prop :=
 newB (.cells #[(.int .i64 rNodes1), (.int .i64 rMutators2), (.int .i64 rSlots3), (.int .i64 rCells4), (.int .i64 rObjects5), (.int .i64 rStubs6), (.int .i64 rCalls7), (.int .i64 rWindow8), (.int .i64 rGrey9), (.int .i64 rBag10), (.int .i64 rInbox11), (.int .i64 rUnit12), (.int .i64 rDrift13), (.int .i64 rLease14), (.int .i64 rWait15), (.int .i64 rMost16), (.int .i64 rPatience17), (.int .i64 rSuspect18), (.int .i64 rTrace19), (.int .i64 rWork20), (.int .u64 rStart21), (.int .u64 rLast22)] ty_hand_Raw) H fun b23 Hx24 =>
 newB (.cells #[(.int .i64 0), (.int .i64 0), (.int .i64 0), (.int .i64 0), (.int .i64 0), (.int .i64 0), (.int .i64 0), (.int .i64 0), (.int .i64 0), (.int .i64 0), (.int .i64 0), (.int .u64 0), (.int .u64 0), (.int .u64 0), (.int .u64 0), (.int .u64 0), (.int .u64 0), (.int .i64 0), (.int .i64 0), (.int .i64 0), (.int .u64 0), (.int .u64 0)] ty_api_Config) Hx24 fun b25 Hx26 =>
 ∀ R27 : Option Addr → Hp → Prop, (∀ c29 : Option Addr, ∀ Hx28 : Hp, (
 ldI .i64 ⟨b23, 4, none⟩ Hx28 fun Objects30 =>
 hcall PR f_hand_Pick ⟨[(.int .i64 Objects30), (.int .i64 14)]⟩ Hx28 fun v31 Hx32 =>
 asI .i64 v31 fun t33 =>
 asA (.pointer c29) fun ca34 =>
 st (ca34.add 4) (.int .i64 (IntKind.i64.wrap (2 + t33))) Hx32 fun Hx35 =>
 ldI .i64 ⟨b23, 5, none⟩ Hx35 fun Stubs36 =>
 hcall PR f_hand_Pick ⟨[(.int .i64 Stubs36), (.int .i64 10)]⟩ Hx35 fun v37 Hx38 =>
 asI .i64 v37 fun t39 =>
 asA (.pointer c29) fun ca40 =>
 st (ca40.add 5) (.int .i64 (IntKind.i64.wrap (2 + t39))) Hx38 fun Hx41 =>
 ldI .i64 ⟨b23, 6, none⟩ Hx41 fun Calls42 =>
 hcall PR f_hand_Pick ⟨[(.int .i64 Calls42), (.int .i64 6)]⟩ Hx41 fun v43 Hx44 =>
 asI .i64 v43 fun t45 =>
 asA (.pointer c29) fun ca46 =>
 st (ca46.add 6) (.int .i64 (IntKind.i64.wrap (1 + t45))) Hx44 fun Hx47 =>
 ldI .i64 ⟨b23, 7, none⟩ Hx47 fun Window48 =>
 hcall PR f_hand_Pick ⟨[(.int .i64 Window48), (.int .i64 4)]⟩ Hx47 fun v49 Hx50 =>
 asI .i64 v49 fun t51 =>
 asA (.pointer c29) fun ca52 =>
 st (ca52.add 7) (.int .i64 (IntKind.i64.wrap (1 + t51))) Hx50 fun Hx53 =>
 ldI .i64 ⟨b23, 8, none⟩ Hx53 fun Grey54 =>
 hcall PR f_hand_Pick ⟨[(.int .i64 Grey54), (.int .i64 8)]⟩ Hx53 fun v55 Hx56 =>
 asI .i64 v55 fun t57 =>
 asA (.pointer c29) fun ca58 =>
 st (ca58.add 8) (.int .i64 (IntKind.i64.wrap (1 + t57))) Hx56 fun Hx59 =>
 ldI .i64 ⟨b23, 9, none⟩ Hx59 fun Bag60 =>
 hcall PR f_hand_Pick ⟨[(.int .i64 Bag60), (.int .i64 60)]⟩ Hx59 fun v61 Hx62 =>
 asI .i64 v61 fun t63 =>
 asA (.pointer c29) fun ca64 =>
 st (ca64.add 9) (.int .i64 (IntKind.i64.wrap (4 + t63))) Hx62 fun Hx65 =>
 ldI .i64 ⟨b23, 10, none⟩ Hx65 fun Inbox66 =>
 hcall PR f_hand_Pick ⟨[(.int .i64 Inbox66), (.int .i64 4)]⟩ Hx65 fun v67 Hx68 =>
 asI .i64 v67 fun t69 =>
 asA (.pointer c29) fun ca70 =>
 st (ca70.add 10) (.int .i64 (IntKind.i64.wrap (1 + t69))) Hx68 fun Hx71 =>
 ldI .i64 ⟨b23, 11, none⟩ Hx71 fun Unit72 =>
 hcall PR f_hand_Pick ⟨[(.int .i64 Unit72), (.int .i64 20)]⟩ Hx71 fun v73 Hx74 =>
 asI .i64 v73 fun t75 =>
 asA (.pointer c29) fun ca76 =>
 st (ca76.add 11) (.int .u64 (IntKind.u64.wrap (IntKind.i64.wrap (4 + t75)))) Hx74 fun Hx77 =>
 ldI .i64 ⟨b23, 12, none⟩ Hx77 fun Drift78 =>
 asA (.pointer c29) fun ca79 =>
 ldI .u64 (ca79.add 11) Hx77 fun Unit80 =>
 (2 : Int) ≠ 0 ∧
 hcall PR f_hand_Pick ⟨[(.int .i64 Drift78), (.int .i64 (IntKind.i64.wrap (Int.tdiv (IntKind.i64.wrap Unit80) 2)))]⟩ Hx77 fun v81 Hx82 =>
 asI .i64 v81 fun t83 =>
 asA (.pointer c29) fun ca84 =>
 st (ca84.add 12) (.int .u64 (IntKind.u64.wrap t83)) Hx82 fun Hx85 =>
 asA (.pointer c29) fun ca86 =>
 ldI .u64 (ca86.add 11) Hx85 fun Unit87 =>
 ldI .i64 ⟨b23, 13, none⟩ Hx85 fun Lease88 =>
 hcall PR f_hand_Pick ⟨[(.int .i64 Lease88), (.int .i64 200)]⟩ Hx85 fun v89 Hx90 =>
 asI .i64 v89 fun t91 =>
 (ldI .u64 (ca86.add 11) Hx90 fun Unit92 =>
 ((.int .u64 Unit92) : Value) = (.int .u64 Unit87)) ∧
 asA (.pointer c29) fun ca93 =>
 st (ca93.add 13) (.int .u64 (IntKind.u64.wrap (Unit87 * (IntKind.u64.wrap (IntKind.i64.wrap (40 + t91)))))) Hx90 fun Hx94 =>
 ldI .i64 ⟨b23, 14, none⟩ Hx94 fun Wait95 =>
 hcall PR f_hand_Pick ⟨[(.int .i64 Wait95), (.int .i64 30)]⟩ Hx94 fun v96 Hx97 =>
 asI .i64 v96 fun t98 =>
 asA (.pointer c29) fun ca99 =>
 st (ca99.add 14) (.int .u64 (IntKind.u64.wrap (IntKind.i64.wrap (1 + t98)))) Hx97 fun Hx100 =>
 asA (.pointer c29) fun ca101 =>
 ldI .u64 (ca101.add 14) Hx100 fun Wait102 =>
 ldI .i64 ⟨b23, 15, none⟩ Hx100 fun Most103 =>
 hcall PR f_hand_Pick ⟨[(.int .i64 Most103), (.int .i64 60)]⟩ Hx100 fun v104 Hx105 =>
 asI .i64 v104 fun t106 =>
 (ldI .u64 (ca101.add 14) Hx105 fun Wait107 =>
 ((.int .u64 Wait107) : Value) = (.int .u64 Wait102)) ∧
 asA (.pointer c29) fun ca108 =>
 st (ca108.add 15) (.int .u64 (IntKind.u64.wrap (Wait102 + (IntKind.u64.wrap t106)))) Hx105 fun Hx109 =>
 asA (.pointer c29) fun ca110 =>
 ldI .u64 (ca110.add 11) Hx109 fun Unit111 =>
 ldI .i64 ⟨b23, 16, none⟩ Hx109 fun Patience112 =>
 hcall PR f_hand_Pick ⟨[(.int .i64 Patience112), (.int .i64 60)]⟩ Hx109 fun v113 Hx114 =>
 asI .i64 v113 fun t115 =>
 (ldI .u64 (ca110.add 11) Hx114 fun Unit116 =>
 ((.int .u64 Unit116) : Value) = (.int .u64 Unit111)) ∧
 asA (.pointer c29) fun ca117 =>
 st (ca117.add 16) (.int .u64 (IntKind.u64.wrap (Unit111 * (IntKind.u64.wrap (IntKind.i64.wrap (1 + t115)))))) Hx114 fun Hx118 =>
 ldI .i64 ⟨b23, 17, none⟩ Hx118 fun Suspect119 =>
 hcall PR f_hand_Pick ⟨[(.int .i64 Suspect119), (.int .i64 4)]⟩ Hx118 fun v120 Hx121 =>
 asI .i64 v120 fun t122 =>
 asA (.pointer c29) fun ca123 =>
 st (ca123.add 17) (.int .i64 (IntKind.i64.wrap (1 + t122))) Hx121 fun Hx124 =>
 asA (.pointer c29) fun ca125 =>
 ldI .i64 (ca125.add 17) Hx124 fun Suspect126 =>
 ldI .i64 ⟨b23, 18, none⟩ Hx124 fun Trace127 =>
 hcall PR f_hand_Pick ⟨[(.int .i64 Trace127), (.int .i64 4)]⟩ Hx124 fun v128 Hx129 =>
 asI .i64 v128 fun t130 =>
 (ldI .i64 (ca125.add 17) Hx129 fun Suspect131 =>
 ((.int .i64 Suspect131) : Value) = (.int .i64 Suspect126)) ∧
 asA (.pointer c29) fun ca132 =>
 st (ca132.add 18) (.int .i64 (IntKind.i64.wrap ((IntKind.i64.wrap (Suspect126 + 1)) + t130))) Hx129 fun Hx133 =>
 ldI .i64 ⟨b23, 19, none⟩ Hx133 fun Work134 =>
 hcall PR f_hand_Pick ⟨[(.int .i64 Work134), (.int .i64 12)]⟩ Hx133 fun v135 Hx136 =>
 asI .i64 v135 fun t137 =>
 asA (.pointer c29) fun ca138 =>
 st (ca138.add 19) (.int .i64 (IntKind.i64.wrap (1 + t137))) Hx136 fun Hx139 =>
 ldI .u64 ⟨b23, 20, none⟩ Hx139 fun Start140 =>
 (1000 : Int) ≠ 0 ∧
 asA (.pointer c29) fun ca141 =>
 st (ca141.add 20) (.int .u64 (Int.tmod Start140 1000)) Hx139 fun Hx142 =>
 ldI .u64 ⟨b23, 21, none⟩ Hx142 fun Last143 =>
 (1000 : Int) ≠ 0 ∧
 asA (.pointer c29) fun ca144 =>
 st (ca144.add 21) (.int .u64 (Int.tmod Last143 1000)) Hx142 fun Hx145 =>
 asA (.pointer c29) fun ca146 =>
 ldI .i64 ca146 Hx145 fun Nodes147 =>
 ldI .i64 (ca146.add 1) Hx145 fun Mutators148 =>
 ldI .i64 (ca146.add 2) Hx145 fun Slots149 =>
 ldI .i64 (ca146.add 3) Hx145 fun Cells150 =>
 ldI .i64 (ca146.add 4) Hx145 fun Objects151 =>
 ldI .i64 (ca146.add 5) Hx145 fun Stubs152 =>
 ldI .i64 (ca146.add 6) Hx145 fun Calls153 =>
 ldI .i64 (ca146.add 7) Hx145 fun Window154 =>
 ldI .i64 (ca146.add 8) Hx145 fun Grey155 =>
 ldI .i64 (ca146.add 9) Hx145 fun Bag156 =>
 ldI .i64 (ca146.add 10) Hx145 fun Inbox157 =>
 ldI .u64 (ca146.add 11) Hx145 fun Unit158 =>
 ldI .u64 (ca146.add 12) Hx145 fun Drift159 =>
 ldI .u64 (ca146.add 13) Hx145 fun Lease160 =>
 ldI .u64 (ca146.add 14) Hx145 fun Wait161 =>
 ldI .u64 (ca146.add 15) Hx145 fun Most162 =>
 ldI .u64 (ca146.add 16) Hx145 fun Patience163 =>
 ldI .i64 (ca146.add 17) Hx145 fun Suspect164 =>
 ldI .i64 (ca146.add 18) Hx145 fun Trace165 =>
 ldI .i64 (ca146.add 19) Hx145 fun Work166 =>
 ldI .u64 (ca146.add 20) Hx145 fun Start167 =>
 ldI .u64 (ca146.add 21) Hx145 fun Last168 =>
 st ⟨b25, 0, none⟩ (.int .i64 Nodes147) Hx145 fun Hx169 =>
 st ⟨b25, 1, none⟩ (.int .i64 Mutators148) Hx169 fun Hx170 =>
 st ⟨b25, 2, none⟩ (.int .i64 Slots149) Hx170 fun Hx171 =>
 st ⟨b25, 3, none⟩ (.int .i64 Cells150) Hx171 fun Hx172 =>
 st ⟨b25, 4, none⟩ (.int .i64 Objects151) Hx172 fun Hx173 =>
 st ⟨b25, 5, none⟩ (.int .i64 Stubs152) Hx173 fun Hx174 =>
 st ⟨b25, 6, none⟩ (.int .i64 Calls153) Hx174 fun Hx175 =>
 st ⟨b25, 7, none⟩ (.int .i64 Window154) Hx175 fun Hx176 =>
 st ⟨b25, 8, none⟩ (.int .i64 Grey155) Hx176 fun Hx177 =>
 st ⟨b25, 9, none⟩ (.int .i64 Bag156) Hx177 fun Hx178 =>
 st ⟨b25, 10, none⟩ (.int .i64 Inbox157) Hx178 fun Hx179 =>
 st ⟨b25, 11, none⟩ (.int .u64 Unit158) Hx179 fun Hx180 =>
 st ⟨b25, 12, none⟩ (.int .u64 Drift159) Hx180 fun Hx181 =>
 st ⟨b25, 13, none⟩ (.int .u64 Lease160) Hx181 fun Hx182 =>
 st ⟨b25, 14, none⟩ (.int .u64 Wait161) Hx182 fun Hx183 =>
 st ⟨b25, 15, none⟩ (.int .u64 Most162) Hx183 fun Hx184 =>
 st ⟨b25, 16, none⟩ (.int .u64 Patience163) Hx184 fun Hx185 =>
 st ⟨b25, 17, none⟩ (.int .i64 Suspect164) Hx185 fun Hx186 =>
 st ⟨b25, 18, none⟩ (.int .i64 Trace165) Hx186 fun Hx187 =>
 st ⟨b25, 19, none⟩ (.int .i64 Work166) Hx187 fun Hx188 =>
 st ⟨b25, 20, none⟩ (.int .u64 Start167) Hx188 fun Hx189 =>
 st ⟨b25, 21, none⟩ (.int .u64 Last168) Hx189 fun Hx190 =>
 ldI .i64 ⟨b25, 0, none⟩ Hx190 fun Nodes191 =>
 ldI .i64 ⟨b25, 1, none⟩ Hx190 fun Mutators192 =>
 ldI .i64 ⟨b25, 2, none⟩ Hx190 fun Slots193 =>
 ldI .i64 ⟨b25, 3, none⟩ Hx190 fun Cells194 =>
 ldI .i64 ⟨b25, 4, none⟩ Hx190 fun Objects195 =>
 ldI .i64 ⟨b25, 5, none⟩ Hx190 fun Stubs196 =>
 ldI .i64 ⟨b25, 6, none⟩ Hx190 fun Calls197 =>
 ldI .i64 ⟨b25, 7, none⟩ Hx190 fun Window198 =>
 ldI .i64 ⟨b25, 8, none⟩ Hx190 fun Grey199 =>
 ldI .i64 ⟨b25, 9, none⟩ Hx190 fun Bag200 =>
 ldI .i64 ⟨b25, 10, none⟩ Hx190 fun Inbox201 =>
 ldI .u64 ⟨b25, 11, none⟩ Hx190 fun Unit202 =>
 ldI .u64 ⟨b25, 12, none⟩ Hx190 fun Drift203 =>
 ldI .u64 ⟨b25, 13, none⟩ Hx190 fun Lease204 =>
 ldI .u64 ⟨b25, 14, none⟩ Hx190 fun Wait205 =>
 ldI .u64 ⟨b25, 15, none⟩ Hx190 fun Most206 =>
 ldI .u64 ⟨b25, 16, none⟩ Hx190 fun Patience207 =>
 ldI .i64 ⟨b25, 17, none⟩ Hx190 fun Suspect208 =>
 ldI .i64 ⟨b25, 18, none⟩ Hx190 fun Trace209 =>
 ldI .i64 ⟨b25, 19, none⟩ Hx190 fun Work210 =>
 ldI .u64 ⟨b25, 20, none⟩ Hx190 fun Start211 =>
 ldI .u64 ⟨b25, 21, none⟩ Hx190 fun Last212 =>
 K (.agg #[(.int .i64 Nodes191), (.int .i64 Mutators192), (.int .i64 Slots193), (.int .i64 Cells194), (.int .i64 Objects195), (.int .i64 Stubs196), (.int .i64 Calls197), (.int .i64 Window198), (.int .i64 Grey199), (.int .i64 Bag200), (.int .i64 Inbox201), (.int .u64 Unit202), (.int .u64 Drift203), (.int .u64 Lease204), (.int .u64 Wait205), (.int .u64 Most206), (.int .u64 Patience207), (.int .i64 Suspect208), (.int .i64 Trace209), (.int .i64 Work210), (.int .u64 Start211), (.int .u64 Last212)]) Hx190) → R27 c29 Hx28) →
 ldI .i64 ⟨b23, 0, none⟩ Hx26 fun Nodes213 =>
 ldI .i64 ⟨b23, 1, none⟩ Hx26 fun Mutators214 =>
 ldI .i64 ⟨b23, 2, none⟩ Hx26 fun Slots215 =>
 ldI .i64 ⟨b23, 3, none⟩ Hx26 fun Cells216 =>
 (hcall PR f_hand_Pick ⟨[(.int .i64 Nodes213), (.int .i64 3)]⟩ Hx26 fun v217 Hx218 =>
 asI .i64 v217 fun t219 =>
 (ldI .i64 ⟨b23, 3, none⟩ Hx218 fun Cells220 =>
 ((.int .i64 Cells220) : Value) = (.int .i64 Cells216)) ∧
 (ldI .i64 ⟨b23, 2, none⟩ Hx218 fun Slots221 =>
 ((.int .i64 Slots221) : Value) = (.int .i64 Slots215)) ∧
 (ldI .i64 ⟨b23, 1, none⟩ Hx218 fun Mutators222 =>
 ((.int .i64 Mutators222) : Value) = (.int .i64 Mutators214)) ∧
 (hcall PR f_hand_Pick ⟨[(.int .i64 Mutators214), (.int .i64 3)]⟩ Hx218 fun v223 Hx224 =>
 asI .i64 v223 fun t225 =>
 (ldI .i64 ⟨b23, 3, none⟩ Hx224 fun Cells226 =>
 ((.int .i64 Cells226) : Value) = (.int .i64 Cells216)) ∧
 (ldI .i64 ⟨b23, 2, none⟩ Hx224 fun Slots227 =>
 ((.int .i64 Slots227) : Value) = (.int .i64 Slots215)) ∧
 (hcall PR f_hand_Pick ⟨[(.int .i64 Slots215), (.int .i64 4)]⟩ Hx224 fun v228 Hx229 =>
 asI .i64 v228 fun t230 =>
 (ldI .i64 ⟨b23, 3, none⟩ Hx229 fun Cells231 =>
 ((.int .i64 Cells231) : Value) = (.int .i64 Cells216)) ∧
 (hcall PR f_hand_Pick ⟨[(.int .i64 Cells216), (.int .i64 8)]⟩ Hx229 fun v232 Hx233 =>
 asI .i64 v232 fun t234 =>
 newB (.cells #[(.int .i64 0), (.int .i64 0), (.int .i64 0), (.int .i64 0), (.int .i64 0), (.int .i64 0), (.int .i64 0), (.int .i64 0), (.int .i64 0), (.int .i64 0), (.int .i64 0), (.int .u64 0), (.int .u64 0), (.int .u64 0), (.int .u64 0), (.int .u64 0), (.int .u64 0), (.int .i64 0), (.int .i64 0), (.int .i64 0), (.int .u64 0), (.int .u64 0)] ty_api_Config) Hx233 fun b235 Hx236 =>
 st ⟨b235, 0, none⟩ (.int .i64 (IntKind.i64.wrap (2 + t219))) Hx236 fun Hx237 =>
 st ⟨b235, 1, none⟩ (.int .i64 (IntKind.i64.wrap (1 + t225))) Hx237 fun Hx238 =>
 st ⟨b235, 2, none⟩ (.int .i64 (IntKind.i64.wrap (2 + t230))) Hx238 fun Hx239 =>
 st ⟨b235, 3, none⟩ (.int .i64 (IntKind.i64.wrap (16 * (IntKind.i64.wrap (1 + t234))))) Hx239 fun Hx240 =>
 st ⟨b235, 4, none⟩ (.int .i64 0) Hx240 fun Hx241 =>
 st ⟨b235, 5, none⟩ (.int .i64 0) Hx241 fun Hx242 =>
 st ⟨b235, 6, none⟩ (.int .i64 0) Hx242 fun Hx243 =>
 st ⟨b235, 7, none⟩ (.int .i64 0) Hx243 fun Hx244 =>
 st ⟨b235, 8, none⟩ (.int .i64 0) Hx244 fun Hx245 =>
 st ⟨b235, 9, none⟩ (.int .i64 0) Hx245 fun Hx246 =>
 st ⟨b235, 10, none⟩ (.int .i64 0) Hx246 fun Hx247 =>
 st ⟨b235, 11, none⟩ (.int .u64 0) Hx247 fun Hx248 =>
 st ⟨b235, 12, none⟩ (.int .u64 0) Hx248 fun Hx249 =>
 st ⟨b235, 13, none⟩ (.int .u64 0) Hx249 fun Hx250 =>
 st ⟨b235, 14, none⟩ (.int .u64 0) Hx250 fun Hx251 =>
 st ⟨b235, 15, none⟩ (.int .u64 0) Hx251 fun Hx252 =>
 st ⟨b235, 16, none⟩ (.int .u64 0) Hx252 fun Hx253 =>
 st ⟨b235, 17, none⟩ (.int .i64 0) Hx253 fun Hx254 =>
 st ⟨b235, 18, none⟩ (.int .i64 0) Hx254 fun Hx255 =>
 st ⟨b235, 19, none⟩ (.int .i64 0) Hx255 fun Hx256 =>
 st ⟨b235, 20, none⟩ (.int .u64 0) Hx256 fun Hx257 =>
 st ⟨b235, 21, none⟩ (.int .u64 0) Hx257 fun Hx258 =>
 R27 (some ⟨b235, 0, none⟩) Hx258) ∧
 (newB (.cells #[(.int .i64 0), (.int .i64 0), (.int .i64 0), (.int .i64 0), (.int .i64 0), (.int .i64 0), (.int .i64 0), (.int .i64 0), (.int .i64 0), (.int .i64 0), (.int .i64 0), (.int .u64 0), (.int .u64 0), (.int .u64 0), (.int .u64 0), (.int .u64 0), (.int .u64 0), (.int .i64 0), (.int .i64 0), (.int .i64 0), (.int .u64 0), (.int .u64 0)] ty_api_Config) Hx229 fun b259 Hx260 =>
 (ldI .i64 ⟨b23, 3, none⟩ Hx260 fun Cells261 =>
 ((.int .i64 Cells261) : Value) = (.int .i64 Cells216)) ∧
 hcall PR f_hand_Pick ⟨[(.int .i64 Cells216), (.int .i64 8)]⟩ Hx260 fun v262 Hx263 =>
 asI .i64 v262 fun t264 =>
 st ⟨b259, 0, none⟩ (.int .i64 (IntKind.i64.wrap (2 + t219))) Hx263 fun Hx265 =>
 st ⟨b259, 1, none⟩ (.int .i64 (IntKind.i64.wrap (1 + t225))) Hx265 fun Hx266 =>
 st ⟨b259, 2, none⟩ (.int .i64 (IntKind.i64.wrap (2 + t230))) Hx266 fun Hx267 =>
 st ⟨b259, 3, none⟩ (.int .i64 (IntKind.i64.wrap (16 * (IntKind.i64.wrap (1 + t264))))) Hx267 fun Hx268 =>
 st ⟨b259, 4, none⟩ (.int .i64 0) Hx268 fun Hx269 =>
 st ⟨b259, 5, none⟩ (.int .i64 0) Hx269 fun Hx270 =>
 st ⟨b259, 6, none⟩ (.int .i64 0) Hx270 fun Hx271 =>
 st ⟨b259, 7, none⟩ (.int .i64 0) Hx271 fun Hx272 =>
 st ⟨b259, 8, none⟩ (.int .i64 0) Hx272 fun Hx273 =>
 st ⟨b259, 9, none⟩ (.int .i64 0) Hx273 fun Hx274 =>
 st ⟨b259, 10, none⟩ (.int .i64 0) Hx274 fun Hx275 =>
 st ⟨b259, 11, none⟩ (.int .u64 0) Hx275 fun Hx276 =>
 st ⟨b259, 12, none⟩ (.int .u64 0) Hx276 fun Hx277 =>
 st ⟨b259, 13, none⟩ (.int .u64 0) Hx277 fun Hx278 =>
 st ⟨b259, 14, none⟩ (.int .u64 0) Hx278 fun Hx279 =>
 st ⟨b259, 15, none⟩ (.int .u64 0) Hx279 fun Hx280 =>
 st ⟨b259, 16, none⟩ (.int .u64 0) Hx280 fun Hx281 =>
 st ⟨b259, 17, none⟩ (.int .i64 0) Hx281 fun Hx282 =>
 st ⟨b259, 18, none⟩ (.int .i64 0) Hx282 fun Hx283 =>
 st ⟨b259, 19, none⟩ (.int .i64 0) Hx283 fun Hx284 =>
 st ⟨b259, 20, none⟩ (.int .u64 0) Hx284 fun Hx285 =>
 st ⟨b259, 21, none⟩ (.int .u64 0) Hx285 fun Hx286 =>
 R27 (some ⟨b259, 0, none⟩) Hx286)) ∧
 (newB (.cells #[(.int .i64 0), (.int .i64 0), (.int .i64 0), (.int .i64 0), (.int .i64 0), (.int .i64 0), (.int .i64 0), (.int .i64 0), (.int .i64 0), (.int .i64 0), (.int .i64 0), (.int .u64 0), (.int .u64 0), (.int .u64 0), (.int .u64 0), (.int .u64 0), (.int .u64 0), (.int .i64 0), (.int .i64 0), (.int .i64 0), (.int .u64 0), (.int .u64 0)] ty_api_Config) Hx224 fun b287 Hx288 =>
 (ldI .i64 ⟨b23, 3, none⟩ Hx288 fun Cells289 =>
 ((.int .i64 Cells289) : Value) = (.int .i64 Cells216)) ∧
 (ldI .i64 ⟨b23, 2, none⟩ Hx288 fun Slots290 =>
 ((.int .i64 Slots290) : Value) = (.int .i64 Slots215)) ∧
 hcall PR f_hand_Pick ⟨[(.int .i64 Slots215), (.int .i64 4)]⟩ Hx288 fun v291 Hx292 =>
 asI .i64 v291 fun t293 =>
 (ldI .i64 ⟨b23, 3, none⟩ Hx292 fun Cells294 =>
 ((.int .i64 Cells294) : Value) = (.int .i64 Cells216)) ∧
 hcall PR f_hand_Pick ⟨[(.int .i64 Cells216), (.int .i64 8)]⟩ Hx292 fun v295 Hx296 =>
 asI .i64 v295 fun t297 =>
 st ⟨b287, 0, none⟩ (.int .i64 (IntKind.i64.wrap (2 + t219))) Hx296 fun Hx298 =>
 st ⟨b287, 1, none⟩ (.int .i64 (IntKind.i64.wrap (1 + t225))) Hx298 fun Hx299 =>
 st ⟨b287, 2, none⟩ (.int .i64 (IntKind.i64.wrap (2 + t293))) Hx299 fun Hx300 =>
 st ⟨b287, 3, none⟩ (.int .i64 (IntKind.i64.wrap (16 * (IntKind.i64.wrap (1 + t297))))) Hx300 fun Hx301 =>
 st ⟨b287, 4, none⟩ (.int .i64 0) Hx301 fun Hx302 =>
 st ⟨b287, 5, none⟩ (.int .i64 0) Hx302 fun Hx303 =>
 st ⟨b287, 6, none⟩ (.int .i64 0) Hx303 fun Hx304 =>
 st ⟨b287, 7, none⟩ (.int .i64 0) Hx304 fun Hx305 =>
 st ⟨b287, 8, none⟩ (.int .i64 0) Hx305 fun Hx306 =>
 st ⟨b287, 9, none⟩ (.int .i64 0) Hx306 fun Hx307 =>
 st ⟨b287, 10, none⟩ (.int .i64 0) Hx307 fun Hx308 =>
 st ⟨b287, 11, none⟩ (.int .u64 0) Hx308 fun Hx309 =>
 st ⟨b287, 12, none⟩ (.int .u64 0) Hx309 fun Hx310 =>
 st ⟨b287, 13, none⟩ (.int .u64 0) Hx310 fun Hx311 =>
 st ⟨b287, 14, none⟩ (.int .u64 0) Hx311 fun Hx312 =>
 st ⟨b287, 15, none⟩ (.int .u64 0) Hx312 fun Hx313 =>
 st ⟨b287, 16, none⟩ (.int .u64 0) Hx313 fun Hx314 =>
 st ⟨b287, 17, none⟩ (.int .i64 0) Hx314 fun Hx315 =>
 st ⟨b287, 18, none⟩ (.int .i64 0) Hx315 fun Hx316 =>
 st ⟨b287, 19, none⟩ (.int .i64 0) Hx316 fun Hx317 =>
 st ⟨b287, 20, none⟩ (.int .u64 0) Hx317 fun Hx318 =>
 st ⟨b287, 21, none⟩ (.int .u64 0) Hx318 fun Hx319 =>
 R27 (some ⟨b287, 0, none⟩) Hx319)) ∧
 (newB (.cells #[(.int .i64 0), (.int .i64 0), (.int .i64 0), (.int .i64 0), (.int .i64 0), (.int .i64 0), (.int .i64 0), (.int .i64 0), (.int .i64 0), (.int .i64 0), (.int .i64 0), (.int .u64 0), (.int .u64 0), (.int .u64 0), (.int .u64 0), (.int .u64 0), (.int .u64 0), (.int .i64 0), (.int .i64 0), (.int .i64 0), (.int .u64 0), (.int .u64 0)] ty_api_Config) Hx218 fun b320 Hx321 =>
 (ldI .i64 ⟨b23, 3, none⟩ Hx321 fun Cells322 =>
 ((.int .i64 Cells322) : Value) = (.int .i64 Cells216)) ∧
 (ldI .i64 ⟨b23, 2, none⟩ Hx321 fun Slots323 =>
 ((.int .i64 Slots323) : Value) = (.int .i64 Slots215)) ∧
 (ldI .i64 ⟨b23, 1, none⟩ Hx321 fun Mutators324 =>
 ((.int .i64 Mutators324) : Value) = (.int .i64 Mutators214)) ∧
 hcall PR f_hand_Pick ⟨[(.int .i64 Mutators214), (.int .i64 3)]⟩ Hx321 fun v325 Hx326 =>
 asI .i64 v325 fun t327 =>
 (ldI .i64 ⟨b23, 3, none⟩ Hx326 fun Cells328 =>
 ((.int .i64 Cells328) : Value) = (.int .i64 Cells216)) ∧
 (ldI .i64 ⟨b23, 2, none⟩ Hx326 fun Slots329 =>
 ((.int .i64 Slots329) : Value) = (.int .i64 Slots215)) ∧
 hcall PR f_hand_Pick ⟨[(.int .i64 Slots215), (.int .i64 4)]⟩ Hx326 fun v330 Hx331 =>
 asI .i64 v330 fun t332 =>
 (ldI .i64 ⟨b23, 3, none⟩ Hx331 fun Cells333 =>
 ((.int .i64 Cells333) : Value) = (.int .i64 Cells216)) ∧
 hcall PR f_hand_Pick ⟨[(.int .i64 Cells216), (.int .i64 8)]⟩ Hx331 fun v334 Hx335 =>
 asI .i64 v334 fun t336 =>
 st ⟨b320, 0, none⟩ (.int .i64 (IntKind.i64.wrap (2 + t219))) Hx335 fun Hx337 =>
 st ⟨b320, 1, none⟩ (.int .i64 (IntKind.i64.wrap (1 + t327))) Hx337 fun Hx338 =>
 st ⟨b320, 2, none⟩ (.int .i64 (IntKind.i64.wrap (2 + t332))) Hx338 fun Hx339 =>
 st ⟨b320, 3, none⟩ (.int .i64 (IntKind.i64.wrap (16 * (IntKind.i64.wrap (1 + t336))))) Hx339 fun Hx340 =>
 st ⟨b320, 4, none⟩ (.int .i64 0) Hx340 fun Hx341 =>
 st ⟨b320, 5, none⟩ (.int .i64 0) Hx341 fun Hx342 =>
 st ⟨b320, 6, none⟩ (.int .i64 0) Hx342 fun Hx343 =>
 st ⟨b320, 7, none⟩ (.int .i64 0) Hx343 fun Hx344 =>
 st ⟨b320, 8, none⟩ (.int .i64 0) Hx344 fun Hx345 =>
 st ⟨b320, 9, none⟩ (.int .i64 0) Hx345 fun Hx346 =>
 st ⟨b320, 10, none⟩ (.int .i64 0) Hx346 fun Hx347 =>
 st ⟨b320, 11, none⟩ (.int .u64 0) Hx347 fun Hx348 =>
 st ⟨b320, 12, none⟩ (.int .u64 0) Hx348 fun Hx349 =>
 st ⟨b320, 13, none⟩ (.int .u64 0) Hx349 fun Hx350 =>
 st ⟨b320, 14, none⟩ (.int .u64 0) Hx350 fun Hx351 =>
 st ⟨b320, 15, none⟩ (.int .u64 0) Hx351 fun Hx352 =>
 st ⟨b320, 16, none⟩ (.int .u64 0) Hx352 fun Hx353 =>
 st ⟨b320, 17, none⟩ (.int .i64 0) Hx353 fun Hx354 =>
 st ⟨b320, 18, none⟩ (.int .i64 0) Hx354 fun Hx355 =>
 st ⟨b320, 19, none⟩ (.int .i64 0) Hx355 fun Hx356 =>
 st ⟨b320, 20, none⟩ (.int .u64 0) Hx356 fun Hx357 =>
 st ⟨b320, 21, none⟩ (.int .u64 0) Hx357 fun Hx358 =>
 R27 (some ⟨b320, 0, none⟩) Hx358)) ∧
 (newB (.cells #[(.int .i64 0), (.int .i64 0), (.int .i64 0), (.int .i64 0), (.int .i64 0), (.int .i64 0), (.int .i64 0), (.int .i64 0), (.int .i64 0), (.int .i64 0), (.int .i64 0), (.int .u64 0), (.int .u64 0), (.int .u64 0), (.int .u64 0), (.int .u64 0), (.int .u64 0), (.int .i64 0), (.int .i64 0), (.int .i64 0), (.int .u64 0), (.int .u64 0)] ty_api_Config) Hx26 fun b359 Hx360 =>
 (ldI .i64 ⟨b23, 3, none⟩ Hx360 fun Cells361 =>
 ((.int .i64 Cells361) : Value) = (.int .i64 Cells216)) ∧
 (ldI .i64 ⟨b23, 2, none⟩ Hx360 fun Slots362 =>
 ((.int .i64 Slots362) : Value) = (.int .i64 Slots215)) ∧
 (ldI .i64 ⟨b23, 1, none⟩ Hx360 fun Mutators363 =>
 ((.int .i64 Mutators363) : Value) = (.int .i64 Mutators214)) ∧
 (ldI .i64 ⟨b23, 0, none⟩ Hx360 fun Nodes364 =>
 ((.int .i64 Nodes364) : Value) = (.int .i64 Nodes213)) ∧
 hcall PR f_hand_Pick ⟨[(.int .i64 Nodes213), (.int .i64 3)]⟩ Hx360 fun v365 Hx366 =>
 asI .i64 v365 fun t367 =>
 (ldI .i64 ⟨b23, 3, none⟩ Hx366 fun Cells368 =>
 ((.int .i64 Cells368) : Value) = (.int .i64 Cells216)) ∧
 (ldI .i64 ⟨b23, 2, none⟩ Hx366 fun Slots369 =>
 ((.int .i64 Slots369) : Value) = (.int .i64 Slots215)) ∧
 (ldI .i64 ⟨b23, 1, none⟩ Hx366 fun Mutators370 =>
 ((.int .i64 Mutators370) : Value) = (.int .i64 Mutators214)) ∧
 hcall PR f_hand_Pick ⟨[(.int .i64 Mutators214), (.int .i64 3)]⟩ Hx366 fun v371 Hx372 =>
 asI .i64 v371 fun t373 =>
 (ldI .i64 ⟨b23, 3, none⟩ Hx372 fun Cells374 =>
 ((.int .i64 Cells374) : Value) = (.int .i64 Cells216)) ∧
 (ldI .i64 ⟨b23, 2, none⟩ Hx372 fun Slots375 =>
 ((.int .i64 Slots375) : Value) = (.int .i64 Slots215)) ∧
 hcall PR f_hand_Pick ⟨[(.int .i64 Slots215), (.int .i64 4)]⟩ Hx372 fun v376 Hx377 =>
 asI .i64 v376 fun t378 =>
 (ldI .i64 ⟨b23, 3, none⟩ Hx377 fun Cells379 =>
 ((.int .i64 Cells379) : Value) = (.int .i64 Cells216)) ∧
 hcall PR f_hand_Pick ⟨[(.int .i64 Cells216), (.int .i64 8)]⟩ Hx377 fun v380 Hx381 =>
 asI .i64 v380 fun t382 =>
 st ⟨b359, 0, none⟩ (.int .i64 (IntKind.i64.wrap (2 + t367))) Hx381 fun Hx383 =>
 st ⟨b359, 1, none⟩ (.int .i64 (IntKind.i64.wrap (1 + t373))) Hx383 fun Hx384 =>
 st ⟨b359, 2, none⟩ (.int .i64 (IntKind.i64.wrap (2 + t378))) Hx384 fun Hx385 =>
 st ⟨b359, 3, none⟩ (.int .i64 (IntKind.i64.wrap (16 * (IntKind.i64.wrap (1 + t382))))) Hx385 fun Hx386 =>
 st ⟨b359, 4, none⟩ (.int .i64 0) Hx386 fun Hx387 =>
 st ⟨b359, 5, none⟩ (.int .i64 0) Hx387 fun Hx388 =>
 st ⟨b359, 6, none⟩ (.int .i64 0) Hx388 fun Hx389 =>
 st ⟨b359, 7, none⟩ (.int .i64 0) Hx389 fun Hx390 =>
 st ⟨b359, 8, none⟩ (.int .i64 0) Hx390 fun Hx391 =>
 st ⟨b359, 9, none⟩ (.int .i64 0) Hx391 fun Hx392 =>
 st ⟨b359, 10, none⟩ (.int .i64 0) Hx392 fun Hx393 =>
 st ⟨b359, 11, none⟩ (.int .u64 0) Hx393 fun Hx394 =>
 st ⟨b359, 12, none⟩ (.int .u64 0) Hx394 fun Hx395 =>
 st ⟨b359, 13, none⟩ (.int .u64 0) Hx395 fun Hx396 =>
 st ⟨b359, 14, none⟩ (.int .u64 0) Hx396 fun Hx397 =>
 st ⟨b359, 15, none⟩ (.int .u64 0) Hx397 fun Hx398 =>
 st ⟨b359, 16, none⟩ (.int .u64 0) Hx398 fun Hx399 =>
 st ⟨b359, 17, none⟩ (.int .i64 0) Hx399 fun Hx400 =>
 st ⟨b359, 18, none⟩ (.int .i64 0) Hx400 fun Hx401 =>
 st ⟨b359, 19, none⟩ (.int .i64 0) Hx401 fun Hx402 =>
 st ⟨b359, 20, none⟩ (.int .u64 0) Hx402 fun Hx403 =>
 st ⟨b359, 21, none⟩ (.int .u64 0) Hx403 fun Hx404 =>
 R27 (some ⟨b359, 0, none⟩) Hx404)
theorem E_hand_Config (rNodes1 : Int) (rMutators2 : Int) (rSlots3 : Int) (rCells4 : Int) (rObjects5 : Int) (rStubs6 : Int) (rCalls7 : Int) (rWindow8 : Int) (rGrey9 : Int) (rBag10 : Int) (rInbox11 : Int) (rUnit12 : Int) (rDrift13 : Int) (rLease14 : Int) (rWait15 : Int) (rMost16 : Int) (rPatience17 : Int) (rSuspect18 : Int) (rTrace19 : Int) (rWork20 : Int) (rStart21 : Int) (rLast22 : Int) (H : Hp) (K : Value → Hp → Prop) : B_hand_Config rNodes1 rMutators2 rSlots3 rCells4 rObjects5 rStubs6 rCalls7 rWindow8 rGrey9 rBag10 rInbox11 rUnit12 rDrift13 rLease14 rWait15 rMost16 rPatience17 rSuspect18 rTrace19 rWork20 rStart21 rLast22 H K = denF Try.prog Try.f14 (.seq none .n (.seq (some ⟨[(3, .ptr)], [1, 2]⟩) .n .n)) [(.agg #[(.int .i64 rNodes1), (.int .i64 rMutators2), (.int .i64 rSlots3), (.int .i64 rCells4), (.int .i64 rObjects5), (.int .i64 rStubs6), (.int .i64 rCalls7), (.int .i64 rWindow8), (.int .i64 rGrey9), (.int .i64 rBag10), (.int .i64 rInbox11), (.int .i64 rUnit12), (.int .i64 rDrift13), (.int .i64 rLease14), (.int .i64 rWait15), (.int .i64 rMost16), (.int .i64 rPatience17), (.int .i64 rSuspect18), (.int .i64 rTrace19), (.int .i64 rWork20), (.int .u64 rStart21), (.int .u64 rLast22)])] H K := by kernel_rfl
theorem den_hand_Config {rNodes1 : Int} {rMutators2 : Int} {rSlots3 : Int} {rCells4 : Int} {rObjects5 : Int} {rStubs6 : Int} {rCalls7 : Int} {rWindow8 : Int} {rGrey9 : Int} {rBag10 : Int} {rInbox11 : Int} {rUnit12 : Int} {rDrift13 : Int} {rLease14 : Int} {rWait15 : Int} {rMost16 : Int} {rPatience17 : Int} {rSuspect18 : Int} {rTrace19 : Int} {rWork20 : Int} {rStart21 : Int} {rLast22 : Int} {H : Hp} {K : Value → Hp → Prop} (h : B_hand_Config rNodes1 rMutators2 rSlots3 rCells4 rObjects5 rStubs6 rCalls7 rWindow8 rGrey9 rBag10 rInbox11 rUnit12 rDrift13 rLease14 rWait15 rMost16 rPatience17 rSuspect18 rTrace19 rWork20 rStart21 rLast22 H K) : hcall PR f_hand_Config ⟨[(.agg #[(.int .i64 rNodes1), (.int .i64 rMutators2), (.int .i64 rSlots3), (.int .i64 rCells4), (.int .i64 rObjects5), (.int .i64 rStubs6), (.int .i64 rCalls7), (.int .i64 rWindow8), (.int .i64 rGrey9), (.int .i64 rBag10), (.int .i64 rInbox11), (.int .i64 rUnit12), (.int .i64 rDrift13), (.int .i64 rLease14), (.int .i64 rWait15), (.int .i64 rMost16), (.int .i64 rPatience17), (.int .i64 rSuspect18), (.int .i64 rTrace19), (.int .i64 rWork20), (.int .u64 rStart21), (.int .u64 rLast22)])]⟩ H K := denF_call Try.func14 PR_mixed (Eq.mp (E_hand_Config rNodes1 rMutators2 rSlots3 rCells4 rObjects5 rStubs6 rCalls7 rWindow8 rGrey9 rBag10 rInbox11 rUnit12 rDrift13 rLease14 rWait15 rMost16 rPatience17 rSuspect18 rTrace19 rWork20 rStart21 rLast22 H K) h)

def B_hand_Pick (n1 : Int) (m2 : Int) (H : Hp) (K : Value → Hp → Prop) : Prop :=
 (m2 : Int) ≠ 0 ∧
 (bif (decide (((Int.tmod n1 m2) : Int) < 0)) then
 K (.int .i64 (IntKind.i64.wrap ((Int.tmod n1 m2) + m2))) H
else
 K (.int .i64 (Int.tmod n1 m2)) H)
theorem E_hand_Pick (n1 : Int) (m2 : Int) (H : Hp) (K : Value → Hp → Prop) : B_hand_Pick n1 m2 H K = denF Try.prog Try.f17 .n [(.int .i64 n1), (.int .i64 m2)] H K := by kernel_rfl
theorem den_hand_Pick {n1 : Int} {m2 : Int} {H : Hp} {K : Value → Hp → Prop} (h : B_hand_Pick n1 m2 H K) : hcall PR f_hand_Pick ⟨[(.int .i64 n1), (.int .i64 m2)]⟩ H K := denF_call Try.func17 PR_mixed (Eq.mp (E_hand_Pick n1 m2 H K) h)

end Go.Proofs.Ytknejebggegfjaa

namespace Go.Proofs.Ytknejebggegfjaa
set_option linter.unusedSimpArgs false
set_option linter.unusedVariables false
open Go
/-- Any number as one of 0 to m - 1. -/
def pick (n m : Int) : Int := n % m

theorem pick_lt {n m : Int} (h : 0 < m) : 0 ≤ pick n m ∧ pick n m < m := ⟨Int.emod_nonneg _ (by omega), Int.emod_lt_of_pos _ h⟩

theorem Pick_ok {n m : Int} {H : Hp} {K : Value → Hp → Prop} (h0 : 0 < m) (h1 : m < 4611686018427387904) (hK : K (.int .i64 (pick n m)) H) : hcall PR f_hand_Pick ⟨[.int .i64 n, .int .i64 m]⟩ H K := by
  apply den_hand_Pick
  unfold B_hand_Pick
  have hm : m ≠ 0 := by omega
  refine ⟨hm, ?_⟩
  have ht := @Int.tmod_eq_emod n m
  have e1 := Int.emod_nonneg n hm
  have e2 := Int.emod_lt_of_pos n h0
  unfold pick at hK
  by_cases hc : 0 ≤ n ∨ m ∣ n
  · rw [if_pos hc, Int.natCast_zero, Int.sub_zero] at ht
    rw [ht]
    exact bif_neg (by omega) hK
  · rw [if_neg hc] at ht
    have hab : ((m.natAbs : Nat) : Int) = m := by omega
    rw [hab] at ht
    rw [ht]
    refine bif_pos (by omega) ?_
    have e : n % m - m + m = n % m := by omega
    rw [e, wrap_i64 (by omega) (by omega)]
    exact hK

end Go.Proofs.Ytknejebggegfjaa

namespace Go.Proofs.Ytknejebggegfjaa
open Go
set_option linter.unusedVariables false
set_option maxRecDepth 100000
end Go.Proofs.Ytknejebggegfjaa
