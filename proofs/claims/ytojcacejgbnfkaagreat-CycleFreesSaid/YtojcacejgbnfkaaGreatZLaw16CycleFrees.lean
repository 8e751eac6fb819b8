/- Merged by merge.py: DenLaw16, YdP, DenLaw16CycleKnown, Law16, DenLaw16CycleWaits, DenLaw16CycleIdle, Law16w, YdM, YdN, YdR, YdT, DenLaw16CycleFrees, Law16g. No condition. -/
import Derived.Test.YtojcacejgbnfkaaGreatZNum
import Derived.Test.YtojcacejgbnfkaaGreatZCycle
import Derived.Test.YtojcacejgbnfkaaGreatZMark
import Derived.Test.YtojcacejgbnfkaaGreatZReach

namespace Go.Proofs.YtojcacejgbnfkaaGreat
open Go
set_option linter.unusedVariables false
set_option maxRecDepth 100000
def B_law16_known  (H : Hp) (K : Value → Hp → Prop) : Prop :=
 hcall PR f_heap_New ⟨[(.int .i64 1), (.int .i64 64), (.int .i64 4), (.int .u64 0)]⟩ H fun v1 Hx2 =>
 tup2 v1 fun v3 v4 =>
 asP v3 fun t5 =>
 asI .i64 v4 fun t6 =>
 (bif ((t6 : Int) != 0) then
 K (.bool false) Hx2
else
 (bif (Option.isNone (α := Addr) t5) then
 K (.bool false) Hx2
else
 hcall PR f_heap_Heap_Make ⟨[(.pointer t5), (.int .i64 1), (.int .i64 0)]⟩ Hx2 fun v7 Hx8 =>
 tup2 v7 fun v9 v10 =>
 asI .u64 v9 fun t11 =>
 asI .i64 v10 fun t12 =>
 hcall PR f_cycle_New ⟨[(.pointer t5), (.int .i64 1), (.int .i64 4), (.int .i64 3), (.int .i64 8)]⟩ Hx8 fun v13 Hx14 =>
 tup2 v13 fun v15 v16 =>
 asP v15 fun t17 =>
 asI .i64 v16 fun t18 =>
 (bif ((t18 : Int) != 0) then
 K (.bool false) Hx14
else
 (bif (Option.isNone (α := Addr) t17) then
 K (.bool false) Hx14
else
 hcall PR f_cycle_Cycle_Step ⟨[(.pointer t17), (.int .u64 0)]⟩ Hx14 fun v19 Hx20 =>
 tup2 v19 fun v21 v22 =>
 asSl v21 fun tP23 tL24 tC25 =>
 asB v22 fun t26 =>
 hcall PR f_cycle_Cycle_State ⟨[(.pointer t17)]⟩ Hx20 fun v27 Hx28 =>
 asI .i64 v27 fun t29 =>
 ∀ R30 : Bool → Hp → Prop, (∀ b32 : Bool, ∀ Hx31 : Hp, (
 hcall PR f_cycle_Cycle_State ⟨[(.pointer t17)]⟩ Hx31 fun v33 Hx34 =>
 asI .i64 v33 fun t35 =>
 hcall PR f_cycle_Cycle_Step ⟨[(.pointer t17), (.int .u64 0)]⟩ Hx34 fun v36 Hx37 =>
 tup2 v36 fun v38 v39 =>
 asSl v38 fun tP40 tL41 tC42 =>
 asB v39 fun t43 =>
 (bif (((tL24 : Int) : Int) == 0) then
 (bif (!t26) then
 (bif ((t29 : Int) == 1) then
 (bif b32 then
 (bif ((t35 : Int) == 2) then
 (bif (((tL41 : Int) : Int) == 1) then
 idxA tP40 tL41 0 1 fun el44 =>
 ldI .u64 el44 Hx37 fun t45 =>
 (bif ((t45 : Int) == 1) then
 (bif t43 then
 hcall PR f_cycle_Cycle_State ⟨[(.pointer t17)]⟩ Hx37 fun v46 Hx47 =>
 asI .i64 v46 fun t48 =>
 (bif ((t48 : Int) == 0) then
 hcall PR f_heap_Heap_Len ⟨[(.pointer t5)]⟩ Hx47 fun v49 Hx50 =>
 asI .i64 v49 fun t51 =>
 K (.bool ((t51 : Int) == 0)) Hx50
else
 K (.bool false) Hx47)
else
 K (.bool false) Hx37)
else
 K (.bool false) Hx37)
else
 K (.bool false) Hx37)
else
 K (.bool false) Hx37)
else
 K (.bool false) Hx37)
else
 K (.bool false) Hx37)
else
 K (.bool false) Hx37)
else
 K (.bool false) Hx37)) → R30 b32 Hx31) →
 hcall PR f_cycle_Cycle_Shake ⟨[(.pointer t17), (.int .i64 0), (.slice none 0 0)]⟩ Hx28 fun v52 Hx53 =>
 asB v52 fun t54 =>
 (bif t54 then
 hcall PR f_cycle_Cycle_Shake ⟨[(.pointer t17), (.int .i64 0), (.slice none 0 0)]⟩ Hx53 fun v55 Hx56 =>
 asB v55 fun t57 =>
 (bif t57 then
 hcall PR f_cycle_Cycle_Shake ⟨[(.pointer t17), (.int .i64 1), (.slice none 0 0)]⟩ Hx56 fun v58 Hx59 =>
 asB v58 fun t60 =>
 (bif t60 then
 hcall PR f_cycle_Cycle_Shake ⟨[(.pointer t17), (.int .i64 1), (.slice none 0 0)]⟩ Hx59 fun v61 Hx62 =>
 asB v61 fun t63 =>
 R30 (!t63) Hx62
else
 R30 false Hx59)
else
 R30 false Hx56)
else
 R30 false Hx53)))))
theorem E_law16_known  (H : Hp) (K : Value → Hp → Prop) : B_law16_known  H K = denF Tryz.prog Tryz.f15 (.seq none .n (.seq none .n (.seq none .n (.seq none .n (.seq none .n (.seq none .n (.seq none .n (.seq none .n (.seq (some ⟨[(8, .bool)], [1, 3, 5, 6, 7]⟩) .n .n))))))))) [] H K := by kernel_rfl
theorem den_law16_known  {H : Hp} {K : Value → Hp → Prop} (h : B_law16_known  H K) : hcall PR f_law16_known ⟨[]⟩ H K := denF_call Tryz.func15 PR_mixed (Eq.mp (E_law16_known  H K) h)

def B_law16_id (s1 : Int) (H : Hp) (K : Value → Hp → Prop) : Prop :=
 newB (.cells #[(.int .i64 0), (.int .u64 0)] ty_api_ID) H fun b2 Hx3 =>
 st ⟨b2, 0, none⟩ (.int .i64 1) Hx3 fun Hx4 =>
 st ⟨b2, 1, none⟩ (.int .u64 s1) Hx4 fun Hx5 =>
 ldI .i64 ⟨b2, 0, none⟩ Hx5 fun Node6 =>
 ldI .u64 ⟨b2, 1, none⟩ Hx5 fun Serial7 =>
 K (.agg #[(.int .i64 Node6), (.int .u64 Serial7)]) Hx5
theorem E_law16_id (s1 : Int) (H : Hp) (K : Value → Hp → Prop) : B_law16_id s1 H K = denF Tryz.prog Tryz.f19 .n [(.int .u64 s1)] H K := by kernel_rfl
theorem den_law16_id {s1 : Int} {H : Hp} {K : Value → Hp → Prop} (h : B_law16_id s1 H K) : hcall PR f_law16_id ⟨[(.int .u64 s1)]⟩ H K := denF_call Tryz.func19 PR_mixed (Eq.mp (E_law16_id s1 H K) h)

def B_law16_newYard (mutators1 : Int) (grey2 : Int) (work3 : Int) (objects4 : Int) (H : Hp) (K : Value → Hp → Prop) : Prop :=
 hcall PR f_hand_Pick ⟨[(.int .i64 mutators1), (.int .i64 3)]⟩ H fun v5 Hx6 =>
 asI .i64 v5 fun t7 =>
 newB (.cells #[(.pointer none), (.pointer none), (.int .i64 (IntKind.i64.wrap (1 + t7))), (.slice none 0 0), (.bool false)] ty_law16_yard) Hx6 fun b8 Hx9 =>
 hcall PR f_hand_Pick ⟨[(.int .i64 objects4), (.int .i64 24)]⟩ Hx9 fun v10 Hx11 =>
 asI .i64 v10 fun t12 =>
 hcall PR f_heap_New ⟨[(.int .i64 1), (.int .i64 512), (.int .i64 (IntKind.i64.wrap (4 + t12))), (.int .u64 0)]⟩ Hx11 fun v13 Hx14 =>
 tup2 v13 fun v15 v16 =>
 asP v15 fun t17 =>
 asI .i64 v16 fun t18 =>
 (bif ((t18 : Int) != 0) then
 K (.pointer none) Hx14
else
 (bif (Option.isNone (α := Addr) t17) then
 K (.pointer none) Hx14
else
 ldI .i64 ⟨b8, 2, none⟩ Hx14 fun n19 =>
 hcall PR f_hand_Pick ⟨[(.int .i64 grey2), (.int .i64 6)]⟩ Hx14 fun v20 Hx21 =>
 asI .i64 v20 fun t22 =>
 (ldI .i64 ⟨b8, 2, none⟩ Hx21 fun n23 =>
 ((.int .i64 n23) : Value) = (.int .i64 n19)) ∧
 hcall PR f_hand_Pick ⟨[(.int .i64 work3), (.int .i64 9)]⟩ Hx21 fun v24 Hx25 =>
 asI .i64 v24 fun t26 =>
 (ldI .i64 ⟨b8, 2, none⟩ Hx25 fun n27 =>
 ((.int .i64 n27) : Value) = (.int .i64 n19)) ∧
 hcall PR f_cycle_New ⟨[(.pointer t17), (.int .i64 n19), (.int .i64 (IntKind.i64.wrap (1 + t22))), (.int .i64 3), (.int .i64 (IntKind.i64.wrap (1 + t26)))]⟩ Hx25 fun v28 Hx29 =>
 tup2 v28 fun v30 v31 =>
 asP v30 fun t32 =>
 asI .i64 v31 fun t33 =>
 (bif ((t33 : Int) != 0) then
 K (.pointer none) Hx29
else
 (bif (Option.isNone (α := Addr) t32) then
 K (.pointer none) Hx29
else
 st ⟨b8, 0, none⟩ (.pointer t17) Hx29 fun Hx34 =>
 st ⟨b8, 1, none⟩ (.pointer t32) Hx34 fun Hx35 =>
 ∃ (I36 : Int → Hp → Prop) (m37 : Int → Hp → Nat), I36 0 Hx35 ∧ ∀ m39 : Int, ∀ Hx38 : Hp, I36 m39 Hx38 →
 ldI .i64 ⟨b8, 2, none⟩ Hx38 fun n40 =>
 (bif (decide ((m39 : Int) < n40)) then
 ldSl ⟨b8, 3, none⟩ Hx38 fun slotsP41 slotsL42 slotsC43 =>
 evW PR (Instr.makeSlice ty_Sapi_ID (.int .i64 3) (.int .i64 3)) Hx38 fun v44 Hx45 =>
 asSl v44 fun mkP46 mkL47 mkC48 =>
 (ldSl ⟨b8, 3, none⟩ Hx45 fun slotsP49 slotsL50 slotsC51 =>
 ((.slice slotsP49 slotsL50 slotsC51) : Value) = (.slice slotsP41 slotsL42 slotsC43)) ∧
 newB (.cells #[(.slice mkP46 mkL47 mkC48)] ty_Sapi_ID) Hx45 fun b52 Hx53 =>
 (ldSl ⟨b8, 3, none⟩ Hx53 fun slotsP54 slotsL55 slotsC56 =>
 ((.slice slotsP54 slotsL55 slotsC56) : Value) = (.slice slotsP41 slotsL42 slotsC43)) ∧
 evW PR (Builtin.append_ #[ty_SSapi_ID, ty_SSapi_ID] ty_SSapi_ID #[(.slice slotsP41 slotsL42 slotsC43), (.slice (some ⟨b52, 0, none⟩) 1 1)]) Hx53 fun v57 Hx58 =>
 asSl v57 fun tP59 tL60 tC61 =>
 st ⟨b8, 3, none⟩ (.slice tP59 tL60 tC61) Hx58 fun Hx62 =>
 I36 (IntKind.i64.wrap (m39 + 1)) Hx62 ∧ m37 (IntKind.i64.wrap (m39 + 1)) Hx62 < m37 m39 Hx38
else
 K (.pointer (some ⟨b8, 0, none⟩)) Hx38)))))
theorem E_law16_newYard (mutators1 : Int) (grey2 : Int) (work3 : Int) (objects4 : Int) (H : Hp) (K : Value → Hp → Prop) : B_law16_newYard mutators1 grey2 work3 objects4 H K = denF Tryz.prog Tryz.f76 (.seq none .n (.seq none .n (.seq none .n (.seq none .n (.seq none .n (.seq none .n (.seq none .n (.seq none .n (.seq none (.seq none .n (.sub (.loop ⟨[(14, .int .i64)], [9]⟩ .n))) .n))))))))) [(.int .i64 mutators1), (.int .i64 grey2), (.int .i64 work3), (.int .i64 objects4)] H K := by kernel_rfl
theorem den_law16_newYard {mutators1 : Int} {grey2 : Int} {work3 : Int} {objects4 : Int} {H : Hp} {K : Value → Hp → Prop} (h : B_law16_newYard mutators1 grey2 work3 objects4 H K) : hcall PR f_law16_newYard ⟨[(.int .i64 mutators1), (.int .i64 grey2), (.int .i64 work3), (.int .i64 objects4)]⟩ H K := denF_call Tryz.func76 PR_mixed (Eq.mp (E_law16_newYard mutators1 grey2 work3 objects4 H K) h)

def B_law16_yard_move (y1 : Option Addr) (xWhat2 : Int) (xM3 : Int) (xA4 : Int) (xB5 : Int) (xF6 : Int) (H : Hp) (K : Value → Hp → Prop) : Prop :=
 newB (.cells #[(.int .i64 xWhat2), (.int .i64 xM3), (.int .i64 xA4), (.int .i64 xB5), (.int .i64 xF6)] ty_law16_Move) H fun b7 Hx8 =>
 ldI .i64 ⟨b7, 1, none⟩ Hx8 fun M9 =>
 nilP y1 fun ya10 =>
 ldI .i64 (ya10.add 2) Hx8 fun n11 =>
 hcall PR f_hand_Pick ⟨[(.int .i64 M9), (.int .i64 n11)]⟩ Hx8 fun v12 Hx13 =>
 asI .i64 v12 fun t14 =>
 ldI .i64 ⟨b7, 2, none⟩ Hx13 fun A15 =>
 hcall PR f_hand_Pick ⟨[(.int .i64 A15), (.int .i64 3)]⟩ Hx13 fun v16 Hx17 =>
 asI .i64 v16 fun t18 =>
 ldI .i64 ⟨b7, 3, none⟩ Hx17 fun B19 =>
 hcall PR f_hand_Pick ⟨[(.int .i64 B19), (.int .i64 3)]⟩ Hx17 fun v20 Hx21 =>
 asI .i64 v20 fun t22 =>
 ldI .i64 ⟨b7, 4, none⟩ Hx21 fun F23 =>
 hcall PR f_hand_Pick ⟨[(.int .i64 F23), (.int .i64 2)]⟩ Hx21 fun v24 Hx25 =>
 asI .i64 v24 fun t26 =>
 ldI .i64 ⟨b7, 0, none⟩ Hx25 fun What27 =>
 hcall PR f_hand_Pick ⟨[(.int .i64 What27), (.int .i64 8)]⟩ Hx25 fun v28 Hx29 =>
 asI .i64 v28 fun t30 =>
 (bif ((t30 : Int) == 0) then
 nilP y1 fun ya31 =>
 ldP (ya31.add 1) Hx29 fun c32 =>
 hcall PR f_cycle_Cycle_Step ⟨[(.pointer c32), (.int .u64 0)]⟩ Hx29 fun v33 Hx34 =>
 tup2 v33 fun v35 v36 =>
 asSl v35 fun tP37 tL38 tC39 =>
 asB v36 fun t40 =>
 K (.bool true) Hx34
else
 (bif ((t30 : Int) == 1) then
 ldI .i64 ⟨b7, 1, none⟩ Hx29 fun M41 =>
 nilP y1 fun ya42 =>
 ldI .i64 (ya42.add 2) Hx29 fun n43 =>
 hcall PR f_hand_Pick ⟨[(.int .i64 M41), (.int .i64 (IntKind.i64.wrap (n43 + 1)))]⟩ Hx29 fun v44 Hx45 =>
 asI .i64 v44 fun t46 =>
 nilP y1 fun ya47 =>
 ldI .i64 (ya47.add 2) Hx45 fun n48 =>
 (bif ((t46 : Int) == n48) then
 nilP y1 fun ya49 =>
 ldP (ya49.add 1) Hx45 fun c50 =>
 hcall PR f_cycle_Cycle_Shake ⟨[(.pointer c50), (.int .i64 t46), (.slice none 0 0)]⟩ Hx45 fun v51 Hx52 =>
 asB v51 fun t53 =>
 K (.bool true) Hx52
else
 nilP y1 fun ya54 =>
 ldP (ya54.add 1) Hx45 fun c55 =>
 nilP y1 fun ya56 =>
 ldSl (ya56.add 3) Hx45 fun slotsP57 slotsL58 slotsC59 =>
 idxA slotsP57 slotsL58 t46 1 fun el60 =>
 ldSl el60 Hx45 fun tP61 tL62 tC63 =>
 hcall PR f_cycle_Cycle_Shake ⟨[(.pointer c55), (.int .i64 t46), (.slice tP61 tL62 tC63)]⟩ Hx45 fun v64 Hx65 =>
 asB v64 fun t66 =>
 K (.bool true) Hx65)
else
 (bif ((t30 : Int) == 2) then
 nilP y1 fun ya67 =>
 ldP ya67 Hx29 fun h68 =>
 hcall PR f_heap_Heap_Make ⟨[(.pointer h68), (.int .i64 2), (.int .i64 0)]⟩ Hx29 fun v69 Hx70 =>
 tup2 v69 fun v71 v72 =>
 asI .u64 v71 fun t73 =>
 asI .i64 v72 fun t74 =>
 (bif ((t74 : Int) == 0) then
 nilP y1 fun ya75 =>
 ldP (ya75.add 1) Hx70 fun c76 =>
 hcall PR f_cycle_Cycle_Born ⟨[(.pointer c76), (.int .i64 t14), (.int .u64 t73)]⟩ Hx70 fun v77 Hx78 =>
 nilP y1 fun ya79 =>
 ldSl (ya79.add 3) Hx78 fun slotsP80 slotsL81 slotsC82 =>
 idxA slotsP80 slotsL81 t14 1 fun el83 =>
 ldSl el83 Hx78 fun tP84 tL85 tC86 =>
 hcall PR f_law16_id ⟨[(.int .u64 t73)]⟩ Hx78 fun v87 Hx88 =>
 agg2 v87 fun v89 v90 =>
 asI .i64 v89 fun Node91 =>
 asI .u64 v90 fun Serial92 =>
 (ldSl el83 Hx88 fun tP93 tL94 tC95 =>
 ((.slice tP93 tL94 tC95) : Value) = (.slice tP84 tL85 tC86)) ∧
 (ldSl (ya79.add 3) Hx88 fun slotsP96 slotsL97 slotsC98 =>
 ((.slice slotsP96 slotsL97 slotsC98) : Value) = (.slice slotsP80 slotsL81 slotsC82)) ∧
 idxA tP84 tL85 t18 2 fun el99 =>
 st el99 (.int .i64 Node91) Hx88 fun Hx100 =>
 st (el99.add 1) (.int .u64 Serial92) Hx100 fun Hx101 =>
 K (.bool true) Hx101
else
 K (.bool true) Hx70)
else
 (bif ((t30 : Int) == 3) then
 nilP y1 fun ya102 =>
 ldSl (ya102.add 3) Hx29 fun slotsP103 slotsL104 slotsC105 =>
 idxA slotsP103 slotsL104 t14 1 fun el106 =>
 ldSl el106 Hx29 fun tP107 tL108 tC109 =>
 nilP y1 fun ya110 =>
 ldSl (ya110.add 3) Hx29 fun slotsP111 slotsL112 slotsC113 =>
 idxA slotsP111 slotsL112 t14 1 fun el114 =>
 ldSl el114 Hx29 fun tP115 tL116 tC117 =>
 idxA tP115 tL116 t22 2 fun el118 =>
 ldI .i64 el118 Hx29 fun Node119 =>
 ldI .u64 (el118.add 1) Hx29 fun Serial120 =>
 idxA tP107 tL108 t18 2 fun el121 =>
 st el121 (.int .i64 Node119) Hx29 fun Hx122 =>
 st (el121.add 1) (.int .u64 Serial120) Hx122 fun Hx123 =>
 K (.bool true) Hx123
else
 (bif ((t30 : Int) == 4) then
 nilP y1 fun ya124 =>
 ldSl (ya124.add 3) Hx29 fun slotsP125 slotsL126 slotsC127 =>
 idxA slotsP125 slotsL126 t14 1 fun el128 =>
 ldSl el128 Hx29 fun tP129 tL130 tC131 =>
 idxA tP129 tL130 t18 2 fun el132 =>
 st el132 (.int .i64 0) Hx29 fun Hx133 =>
 st (el132.add 1) (.int .u64 0) Hx133 fun Hx134 =>
 K (.bool true) Hx134
else
 (bif ((t30 : Int) == 5) then
 nilP y1 fun ya135 =>
 ldSl (ya135.add 3) Hx29 fun slotsP136 slotsL137 slotsC138 =>
 idxA slotsP136 slotsL137 t14 1 fun el139 =>
 ldSl el139 Hx29 fun tP140 tL141 tC142 =>
 idxA tP140 tL141 t22 2 fun el143 =>
 ldI .i64 el143 Hx29 fun Node144 =>
 ldI .u64 (el143.add 1) Hx29 fun Serial145 =>
 newB (.cells #[(.int .i64 0), (.int .u64 0)] ty_api_ID) Hx29 fun b146 Hx147 =>
 st ⟨b146, 0, none⟩ (.int .i64 Node144) Hx147 fun Hx148 =>
 st ⟨b146, 1, none⟩ (.int .u64 Serial145) Hx148 fun Hx149 =>
 ldI .i64 ⟨b146, 0, none⟩ Hx149 fun Node150 =>
 (bif ((Node150 : Int) == 1) then
 ∀ R151 : Option Addr → Int → Hp → Prop, (∀ r153 : Option Addr, ∀ e154 : Int, ∀ Hx152 : Hp, (
 (bif ((e154 : Int) != 0) then
 K (.bool false) Hx152
else
 nilP y1 fun ya155 =>
 ldSl (ya155.add 3) Hx152 fun slotsP156 slotsL157 slotsC158 =>
 idxA slotsP156 slotsL157 t14 1 fun el159 =>
 ldSl el159 Hx152 fun tP160 tL161 tC162 =>
 asA (.pointer r153) fun ra163 =>
 ldI .i64 ra163 Hx152 fun Node164 =>
 ldI .u64 (ra163.add 1) Hx152 fun Serial165 =>
 idxA tP160 tL161 t18 2 fun el166 =>
 st el166 (.int .i64 Node164) Hx152 fun Hx167 =>
 st (el166.add 1) (.int .u64 Serial165) Hx167 fun Hx168 =>
 K (.bool true) Hx168)) → R151 r153 e154 Hx152) →
 nilP y1 fun ya169 =>
 ldP ya169 Hx149 fun h170 =>
 ldI .u64 ⟨b146, 1, none⟩ Hx149 fun Serial171 =>
 (hcall PR f_heap_Heap_Ref ⟨[(.pointer h170), (.int .u64 Serial171), (.int .i64 t26)]⟩ Hx149 fun v172 Hx173 =>
 tup2 v172 fun v174 v175 =>
 agg2 v174 fun v176 v177 =>
 asI .i64 v176 fun Node178 =>
 asI .u64 v177 fun Serial179 =>
 asI .i64 v175 fun t180 =>
 newB (.cells #[(.int .i64 0), (.int .u64 0)] ty_api_ID) Hx173 fun b181 Hx182 =>
 st ⟨b181, 0, none⟩ (.int .i64 Node178) Hx182 fun Hx183 =>
 st ⟨b181, 1, none⟩ (.int .u64 Serial179) Hx183 fun Hx184 =>
 R151 (some ⟨b181, 0, none⟩) t180 Hx184) ∧
 (newB (.cells #[(.int .i64 0), (.int .u64 0)] ty_api_ID) Hx149 fun b185 Hx186 =>
 (ldI .u64 ⟨b146, 1, none⟩ Hx186 fun Serial187 =>
 ((.int .u64 Serial187) : Value) = (.int .u64 Serial171)) ∧
 (ldP ya169 Hx186 fun h188 =>
 ((.pointer h188) : Value) = (.pointer h170)) ∧
 hcall PR f_heap_Heap_Ref ⟨[(.pointer h170), (.int .u64 Serial171), (.int .i64 t26)]⟩ Hx186 fun v189 Hx190 =>
 tup2 v189 fun v191 v192 =>
 agg2 v191 fun v193 v194 =>
 asI .i64 v193 fun Node195 =>
 asI .u64 v194 fun Serial196 =>
 asI .i64 v192 fun t197 =>
 st ⟨b185, 0, none⟩ (.int .i64 Node195) Hx190 fun Hx198 =>
 st ⟨b185, 1, none⟩ (.int .u64 Serial196) Hx198 fun Hx199 =>
 R151 (some ⟨b185, 0, none⟩) t197 Hx199)
else
 K (.bool true) Hx149)
else
 (bif ((t30 : Int) == 6) then
 nilP y1 fun ya200 =>
 ldSl (ya200.add 3) Hx29 fun slotsP201 slotsL202 slotsC203 =>
 idxA slotsP201 slotsL202 t14 1 fun el204 =>
 ldSl el204 Hx29 fun tP205 tL206 tC207 =>
 idxA tP205 tL206 t18 2 fun el208 =>
 ldI .i64 el208 Hx29 fun Node209 =>
 ldI .u64 (el208.add 1) Hx29 fun Serial210 =>
 newB (.cells #[(.int .i64 0), (.int .u64 0)] ty_api_ID) Hx29 fun b211 Hx212 =>
 st ⟨b211, 0, none⟩ (.int .i64 Node209) Hx212 fun Hx213 =>
 st ⟨b211, 1, none⟩ (.int .u64 Serial210) Hx213 fun Hx214 =>
 ldI .i64 ⟨b211, 0, none⟩ Hx214 fun Node215 =>
 (bif ((Node215 : Int) == 1) then
 nilP y1 fun ya216 =>
 ldSl (ya216.add 3) Hx214 fun slotsP217 slotsL218 slotsC219 =>
 idxA slotsP217 slotsL218 t14 1 fun el220 =>
 ldSl el220 Hx214 fun tP221 tL222 tC223 =>
 idxA tP221 tL222 t22 2 fun el224 =>
 ldI .i64 el224 Hx214 fun Node225 =>
 ldI .u64 (el224.add 1) Hx214 fun Serial226 =>
 newB (.cells #[(.int .i64 0), (.int .u64 0)] ty_api_ID) Hx214 fun b227 Hx228 =>
 st ⟨b227, 0, none⟩ (.int .i64 Node225) Hx228 fun Hx229 =>
 st ⟨b227, 1, none⟩ (.int .u64 Serial226) Hx229 fun Hx230 =>
 ∀ R231 : Hp → Prop, (∀ Hx232 : Hp, (
 ∀ R233 : Option Addr → Int → Hp → Prop, (∀ old235 : Option Addr, ∀ e236 : Int, ∀ Hx234 : Hp, (
 (bif ((e236 : Int) != 0) then
 K (.bool false) Hx234
else
 nilP y1 fun ya237 =>
 ldP (ya237.add 1) Hx234 fun c238 =>
 asA (.pointer old235) fun olda239 =>
 ldI .i64 olda239 Hx234 fun Node240 =>
 ldI .u64 (olda239.add 1) Hx234 fun Serial241 =>
 ldI .i64 ⟨b227, 0, none⟩ Hx234 fun Node242 =>
 ldI .u64 ⟨b227, 1, none⟩ Hx234 fun Serial243 =>
 hcall PR f_cycle_Cycle_Store ⟨[(.pointer c238), (.int .i64 t14), (.agg #[(.int .i64 Node240), (.int .u64 Serial241)]), (.agg #[(.int .i64 Node242), (.int .u64 Serial243)])]⟩ Hx234 fun v244 Hx245 =>
 K (.bool true) Hx245)) → R233 old235 e236 Hx234) →
 nilP y1 fun ya246 =>
 ldP ya246 Hx232 fun h247 =>
 ldI .u64 ⟨b211, 1, none⟩ Hx232 fun Serial248 =>
 ldI .i64 ⟨b227, 0, none⟩ Hx232 fun Node249 =>
 ldI .u64 ⟨b227, 1, none⟩ Hx232 fun Serial250 =>
 (hcall PR f_heap_Heap_SetRef ⟨[(.pointer h247), (.int .u64 Serial248), (.int .i64 t26), (.agg #[(.int .i64 Node249), (.int .u64 Serial250)])]⟩ Hx232 fun v251 Hx252 =>
 tup2 v251 fun v253 v254 =>
 agg2 v253 fun v255 v256 =>
 asI .i64 v255 fun Node257 =>
 asI .u64 v256 fun Serial258 =>
 asI .i64 v254 fun t259 =>
 newB (.cells #[(.int .i64 0), (.int .u64 0)] ty_api_ID) Hx252 fun b260 Hx261 =>
 st ⟨b260, 0, none⟩ (.int .i64 Node257) Hx261 fun Hx262 =>
 st ⟨b260, 1, none⟩ (.int .u64 Serial258) Hx262 fun Hx263 =>
 R233 (some ⟨b260, 0, none⟩) t259 Hx263) ∧
 (newB (.cells #[(.int .i64 0), (.int .u64 0)] ty_api_ID) Hx232 fun b264 Hx265 =>
 (ldI .i64 ⟨b227, 0, none⟩ Hx265 fun Node266 =>
 ldI .u64 ⟨b227, 1, none⟩ Hx265 fun Serial267 =>
 ((.agg #[(.int .i64 Node266), (.int .u64 Serial267)]) : Value) = (.agg #[(.int .i64 Node249), (.int .u64 Serial250)])) ∧
 (ldI .u64 ⟨b211, 1, none⟩ Hx265 fun Serial268 =>
 ((.int .u64 Serial268) : Value) = (.int .u64 Serial248)) ∧
 (ldP ya246 Hx265 fun h269 =>
 ((.pointer h269) : Value) = (.pointer h247)) ∧
 hcall PR f_heap_Heap_SetRef ⟨[(.pointer h247), (.int .u64 Serial248), (.int .i64 t26), (.agg #[(.int .i64 Node249), (.int .u64 Serial250)])]⟩ Hx265 fun v270 Hx271 =>
 tup2 v270 fun v272 v273 =>
 agg2 v272 fun v274 v275 =>
 asI .i64 v274 fun Node276 =>
 asI .u64 v275 fun Serial277 =>
 asI .i64 v273 fun t278 =>
 st ⟨b264, 0, none⟩ (.int .i64 Node276) Hx271 fun Hx279 =>
 st ⟨b264, 1, none⟩ (.int .u64 Serial277) Hx279 fun Hx280 =>
 R233 (some ⟨b264, 0, none⟩) t278 Hx280)) → R231 Hx232) →
 ldI .i64 ⟨b7, 4, none⟩ Hx230 fun F281 =>
 (3 : Int) ≠ 0 ∧
 (bif (((Int.tmod F281 3) : Int) == 0) then
 st ⟨b227, 0, none⟩ (.int .i64 0) Hx230 fun Hx282 =>
 st ⟨b227, 1, none⟩ (.int .u64 0) Hx282 fun Hx283 =>
 R231 Hx283
else
 R231 Hx230)
else
 K (.bool true) Hx214)
else
 ldI .i64 ⟨b7, 0, none⟩ Hx29 fun What284 =>
 ldI .i64 ⟨b7, 1, none⟩ Hx29 fun M285 =>
 ldI .i64 ⟨b7, 2, none⟩ Hx29 fun A286 =>
 ldI .i64 ⟨b7, 3, none⟩ Hx29 fun B287 =>
 ldI .i64 ⟨b7, 4, none⟩ Hx29 fun F288 =>
 hcall PR f_law16_yard_port ⟨[(.pointer y1), (.agg #[(.int .i64 What284), (.int .i64 M285), (.int .i64 A286), (.int .i64 B287), (.int .i64 F288)])]⟩ Hx29 fun v289 Hx290 =>
 asB v289 fun t291 =>
 K (.bool t291) Hx290)))))))
theorem E_law16_yard_move (y1 : Option Addr) (xWhat2 : Int) (xM3 : Int) (xA4 : Int) (xB5 : Int) (xF6 : Int) (H : Hp) (K : Value → Hp → Prop) : B_law16_yard_move y1 xWhat2 xM3 xA4 xB5 xF6 H K = denF Tryz.prog Tryz.f77 (.seq none .n (.seq none .n (.seq none .n (.seq none .n (.seq none .n (.seq none (.seq none .n (.sub (.seq none .n (.two .n (.seq none .n (.two .n (.seq none .n (.two .n (.seq none .n (.two .n (.seq none .n (.two .n (.seq none .n (.two (.seq none .n (.seq none .n (.two (.seq (some ⟨[(13, .ptr), (14, .int .i64)], [0, 5, 6]⟩) .n .n) .n))) (.seq none .n (.two (.seq none .n (.seq none .n (.two (.seq none .n (.seq (some ⟨[], [0, 5, 8, 15, 16]⟩) .n (.seq (some ⟨[(17, .ptr), (18, .int .i64)], [0, 5, 16]⟩) .n .n))) .n))) .n)))))))))))))))) .n)))))) [(.pointer y1), (.agg #[(.int .i64 xWhat2), (.int .i64 xM3), (.int .i64 xA4), (.int .i64 xB5), (.int .i64 xF6)])] H K := by kernel_rfl
theorem den_law16_yard_move {y1 : Option Addr} {xWhat2 : Int} {xM3 : Int} {xA4 : Int} {xB5 : Int} {xF6 : Int} {H : Hp} {K : Value → Hp → Prop} (h : B_law16_yard_move y1 xWhat2 xM3 xA4 xB5 xF6 H K) : hcall PR f_law16_yard_move ⟨[(.pointer y1), (.agg #[(.int .i64 xWhat2), (.int .i64 xM3), (.int .i64 xA4), (.int .i64 xB5), (.int .i64 xF6)])]⟩ H K := denF_call Tryz.func77 PR_mixed (Eq.mp (E_law16_yard_move y1 xWhat2 xM3 xA4 xB5 xF6 H K) h)

def B_law16_yard_reached (y1 : Option Addr) (H : Hp) (K : Value → Hp → Prop) : Prop :=
 newB (.cells #[(.slice none 0 0)] ty_Suint64) H fun b2 Hx3 =>
 ∃ (I4 : Int → Hp → Prop) (m5 : Int → Hp → Nat), I4 0 Hx3 ∧ ∀ m7 : Int, ∀ Hx6 : Hp, I4 m7 Hx6 →
 nilP y1 fun ya8 =>
 ldSl (ya8.add 3) Hx6 fun slotsP9 slotsL10 slotsC11 =>
 (bif (decide ((m7 : Int) < (slotsL10 : Int))) then
 ∃ (I12 : Int → Hp → Prop) (m13 : Int → Hp → Nat), I12 0 Hx6 ∧ ∀ k15 : Int, ∀ Hx14 : Hp, I12 k15 Hx14 →
 nilP y1 fun ya16 =>
 ldSl (ya16.add 3) Hx14 fun slotsP17 slotsL18 slotsC19 =>
 idxA slotsP17 slotsL18 m7 1 fun el20 =>
 ldSl el20 Hx14 fun tP21 tL22 tC23 =>
 (bif (decide ((k15 : Int) < (tL22 : Int))) then
 nilP y1 fun ya24 =>
 ldSl (ya24.add 3) Hx14 fun slotsP25 slotsL26 slotsC27 =>
 idxA slotsP25 slotsL26 m7 1 fun el28 =>
 ldSl el28 Hx14 fun tP29 tL30 tC31 =>
 idxA tP29 tL30 k15 2 fun el32 =>
 ldI .i64 el32 Hx14 fun Node33 =>
 ldI .u64 (el32.add 1) Hx14 fun Serial34 =>
 hcall PR f_law16_yard_reached_1 ⟨[(.agg #[(.int .i64 Node33), (.int .u64 Serial34)]), (.pointer (some ⟨b2, 0, none⟩))]⟩ Hx14 fun v35 Hx36 =>
 I12 (IntKind.i64.wrap (k15 + 1)) Hx36 ∧ m13 (IntKind.i64.wrap (k15 + 1)) Hx36 < m13 k15 Hx14
else
 I4 (IntKind.i64.wrap (m7 + 1)) Hx14 ∧ m5 (IntKind.i64.wrap (m7 + 1)) Hx14 < m5 m7 Hx6)
else
 nilP y1 fun ya37 =>
 ldP ya37 Hx6 fun h38 =>
 hcall PR f_heap_Heap_Next ⟨[(.pointer h38), (.int .u64 0)]⟩ Hx6 fun v39 Hx40 =>
 tup2 v39 fun v41 v42 =>
 asI .u64 v41 fun t43 =>
 asB v42 fun t44 =>
 ∃ (I45 : Int → Bool → Hp → Prop) (m46 : Int → Bool → Hp → Nat), I45 t43 t44 Hx40 ∧ ∀ s48 : Int, ∀ ok49 : Bool, ∀ Hx47 : Hp, I45 s48 ok49 Hx47 →
 (bif ok49 then
 nilP y1 fun ya50 =>
 ldP ya50 Hx47 fun h51 =>
 hcall PR f_heap_Heap_Object ⟨[(.pointer h51), (.int .u64 s48)]⟩ Hx47 fun v52 Hx53 =>
 tup2 v52 fun v54 v55 =>
 asAgg' v54 fun cs56 =>
 unCons cs56.toList fun v57 r58 =>
 unCons r58 fun v59 r60 =>
 unCons r60 fun v61 r62 =>
 unCons r62 fun v63 r64 =>
 unCons r64 fun v65 r66 =>
 unNil r66 <|
 asI .u64 v57 fun Serial67 =>
 asI .i64 v59 fun Cell68 =>
 asSl v61 fun RefsP69 RefsL70 RefsC71 =>
 asSl v63 fun ValsP72 ValsL73 ValsC74 =>
 asI .i64 v65 fun In75 =>
 asB v55 fun t76 =>
 newB (.cells #[(.int .u64 0), (.int .i64 0), (.slice none 0 0), (.slice none 0 0), (.int .i64 0)] ty_api_Object) Hx53 fun b77 Hx78 =>
 st ⟨b77, 0, none⟩ (.int .u64 Serial67) Hx78 fun Hx79 =>
 st ⟨b77, 1, none⟩ (.int .i64 Cell68) Hx79 fun Hx80 =>
 st ⟨b77, 2, none⟩ (.slice RefsP69 RefsL70 RefsC71) Hx80 fun Hx81 =>
 st ⟨b77, 3, none⟩ (.slice ValsP72 ValsL73 ValsC74) Hx81 fun Hx82 =>
 st ⟨b77, 4, none⟩ (.int .i64 In75) Hx82 fun Hx83 =>
 ∀ R84 : Hp → Prop, (∀ Hx85 : Hp, (
 nilP y1 fun ya86 =>
 ldP ya86 Hx85 fun h87 =>
 hcall PR f_heap_Heap_Next ⟨[(.pointer h87), (.int .u64 s48)]⟩ Hx85 fun v88 Hx89 =>
 tup2 v88 fun v90 v91 =>
 asI .u64 v90 fun t92 =>
 asB v91 fun t93 =>
 I45 t92 t93 Hx89 ∧ m46 t92 t93 Hx89 < m46 s48 ok49 Hx47) → R84 Hx85) →
 ldI .i64 ⟨b77, 4, none⟩ Hx83 fun In94 =>
 (bif (decide ((In94 : Int) > 0)) then
 hcall PR f_law16_id ⟨[(.int .u64 s48)]⟩ Hx83 fun v95 Hx96 =>
 agg2 v95 fun v97 v98 =>
 asI .i64 v97 fun Node99 =>
 asI .u64 v98 fun Serial100 =>
 hcall PR f_law16_yard_reached_1 ⟨[(.agg #[(.int .i64 Node99), (.int .u64 Serial100)]), (.pointer (some ⟨b2, 0, none⟩))]⟩ Hx96 fun v101 Hx102 =>
 R84 Hx102
else
 R84 Hx83)
else
 ∃ (I103 : Int → Hp → Prop) (m104 : Int → Hp → Nat), I103 0 Hx47 ∧ ∀ i106 : Int, ∀ Hx105 : Hp, I103 i106 Hx105 →
 ldSl ⟨b2, 0, none⟩ Hx105 fun tP107 tL108 tC109 =>
 (bif (decide ((i106 : Int) < (tL108 : Int))) then
 ∀ R110 : Option Addr → Bool → Hp → Prop, (∀ o112 : Option Addr, ∀ is113 : Bool, ∀ Hx111 : Hp, (
 (bif (!is113) then
 K (.tuple #[(.slice none 0 0), (.bool false)]) Hx111
else
 ∃ (I114 : Int → Hp → Prop) (m115 : Int → Hp → Nat), I114 0 Hx111 ∧ ∀ k117 : Int, ∀ Hx116 : Hp, I114 k117 Hx116 →
 asA (.pointer o112) fun oa118 =>
 ldSl (oa118.add 2) Hx116 fun RefsP119 RefsL120 RefsC121 =>
 (bif (decide ((k117 : Int) < (RefsL120 : Int))) then
 asA (.pointer o112) fun oa122 =>
 ldSl (oa122.add 2) Hx116 fun RefsP123 RefsL124 RefsC125 =>
 idxA RefsP123 RefsL124 k117 2 fun el126 =>
 ldI .i64 el126 Hx116 fun Node127 =>
 ldI .u64 (el126.add 1) Hx116 fun Serial128 =>
 hcall PR f_law16_yard_reached_1 ⟨[(.agg #[(.int .i64 Node127), (.int .u64 Serial128)]), (.pointer (some ⟨b2, 0, none⟩))]⟩ Hx116 fun v129 Hx130 =>
 I114 (IntKind.i64.wrap (k117 + 1)) Hx130 ∧ m115 (IntKind.i64.wrap (k117 + 1)) Hx130 < m115 k117 Hx116
else
 I103 (IntKind.i64.wrap (i106 + 1)) Hx116 ∧ m104 (IntKind.i64.wrap (i106 + 1)) Hx116 < m104 i106 Hx105))) → R110 o112 is113 Hx111) →
 nilP y1 fun ya131 =>
 ldP ya131 Hx105 fun h132 =>
 ldSl ⟨b2, 0, none⟩ Hx105 fun tP133 tL134 tC135 =>
 idxA tP133 tL134 i106 1 fun el136 =>
 ldI .u64 el136 Hx105 fun t137 =>
 (hcall PR f_heap_Heap_Object ⟨[(.pointer h132), (.int .u64 t137)]⟩ Hx105 fun v138 Hx139 =>
 tup2 v138 fun v140 v141 =>
 asAgg' v140 fun cs142 =>
 unCons cs142.toList fun v143 r144 =>
 unCons r144 fun v145 r146 =>
 unCons r146 fun v147 r148 =>
 unCons r148 fun v149 r150 =>
 unCons r150 fun v151 r152 =>
 unNil r152 <|
 asI .u64 v143 fun Serial153 =>
 asI .i64 v145 fun Cell154 =>
 asSl v147 fun RefsP155 RefsL156 RefsC157 =>
 asSl v149 fun ValsP158 ValsL159 ValsC160 =>
 asI .i64 v151 fun In161 =>
 asB v141 fun t162 =>
 newB (.cells #[(.int .u64 0), (.int .i64 0), (.slice none 0 0), (.slice none 0 0), (.int .i64 0)] ty_api_Object) Hx139 fun b163 Hx164 =>
 st ⟨b163, 0, none⟩ (.int .u64 Serial153) Hx164 fun Hx165 =>
 st ⟨b163, 1, none⟩ (.int .i64 Cell154) Hx165 fun Hx166 =>
 st ⟨b163, 2, none⟩ (.slice RefsP155 RefsL156 RefsC157) Hx166 fun Hx167 =>
 st ⟨b163, 3, none⟩ (.slice ValsP158 ValsL159 ValsC160) Hx167 fun Hx168 =>
 st ⟨b163, 4, none⟩ (.int .i64 In161) Hx168 fun Hx169 =>
 R110 (some ⟨b163, 0, none⟩) t162 Hx169) ∧
 (newB (.cells #[(.int .u64 0), (.int .i64 0), (.slice none 0 0), (.slice none 0 0), (.int .i64 0)] ty_api_Object) Hx105 fun b170 Hx171 =>
 (ldI .u64 el136 Hx171 fun t172 =>
 ((.int .u64 t172) : Value) = (.int .u64 t137)) ∧
 (ldSl ⟨b2, 0, none⟩ Hx171 fun tP173 tL174 tC175 =>
 ((.slice tP173 tL174 tC175) : Value) = (.slice tP133 tL134 tC135)) ∧
 (ldP ya131 Hx171 fun h176 =>
 ((.pointer h176) : Value) = (.pointer h132)) ∧
 hcall PR f_heap_Heap_Object ⟨[(.pointer h132), (.int .u64 t137)]⟩ Hx171 fun v177 Hx178 =>
 tup2 v177 fun v179 v180 =>
 asAgg' v179 fun cs181 =>
 unCons cs181.toList fun v182 r183 =>
 unCons r183 fun v184 r185 =>
 unCons r185 fun v186 r187 =>
 unCons r187 fun v188 r189 =>
 unCons r189 fun v190 r191 =>
 unNil r191 <|
 asI .u64 v182 fun Serial192 =>
 asI .i64 v184 fun Cell193 =>
 asSl v186 fun RefsP194 RefsL195 RefsC196 =>
 asSl v188 fun ValsP197 ValsL198 ValsC199 =>
 asI .i64 v190 fun In200 =>
 asB v180 fun t201 =>
 st ⟨b170, 0, none⟩ (.int .u64 Serial192) Hx178 fun Hx202 =>
 st ⟨b170, 1, none⟩ (.int .i64 Cell193) Hx202 fun Hx203 =>
 st ⟨b170, 2, none⟩ (.slice RefsP194 RefsL195 RefsC196) Hx203 fun Hx204 =>
 st ⟨b170, 3, none⟩ (.slice ValsP197 ValsL198 ValsC199) Hx204 fun Hx205 =>
 st ⟨b170, 4, none⟩ (.int .i64 In200) Hx205 fun Hx206 =>
 R110 (some ⟨b170, 0, none⟩) t201 Hx206)
else
 ldSl ⟨b2, 0, none⟩ Hx105 fun tP207 tL208 tC209 =>
 K (.tuple #[(.slice tP207 tL208 tC209), (.bool true)]) Hx105)))
theorem E_law16_yard_reached (y1 : Option Addr) (H : Hp) (K : Value → Hp → Prop) : B_law16_yard_reached y1 H K = denF Tryz.prog Tryz.f78 (.seq none .n (.seq none .n (.seq none .n (.seq none (.seq none .n (.sub (.loop ⟨[(6, .int .i64)], [0, 4, 5]⟩ (.seq none .n (.seq none (.sub (.seq none .n (.sub (.loop ⟨[(7, .int .i64)], [0, 4, 5, 6]⟩ .n)))) .n))))) (.seq none .n (.seq none (.sub (.loop ⟨[(8, .int .u64), (9, .bool)], [0, 4, 5]⟩ (.seq none .n (.sub (.seq none .n (.seq (some ⟨[], [0, 4, 5, 8]⟩) .n .n)))))) (.seq none (.seq none .n (.sub (.loop ⟨[(12, .int .i64)], [0, 4, 5]⟩ (.seq none .n (.seq none (.sub (.seq (some ⟨[(13, .ptr), (14, .bool)], [0, 4, 5, 12]⟩) .n (.seq none .n (.seq none .n (.sub (.loop ⟨[(15, .int .i64)], [0, 4, 5, 12, 13]⟩ .n)))))) .n))))) .n))))))) [(.pointer y1)] H K := by kernel_rfl
theorem den_law16_yard_reached {y1 : Option Addr} {H : Hp} {K : Value → Hp → Prop} (h : B_law16_yard_reached y1 H K) : hcall PR f_law16_yard_reached ⟨[(.pointer y1)]⟩ H K := denF_call Tryz.func78 PR_mixed (Eq.mp (E_law16_yard_reached y1 H K) h)

def B_law16_yard_cycles (y1 : Option Addr) (n2 : Int) (H : Hp) (K : Value → Hp → Prop) : Prop :=
 ∀ R3 : Int → Hp → Prop, (∀ n5 : Int, ∀ Hx4 : Hp, (
 K (.bool ((n5 : Int) == 0)) Hx4) → R3 n5 Hx4) →
 ∃ (I6 : Int → Int → Hp → Prop) (m7 : Int → Int → Hp → Nat), I6 n2 0 H ∧ ∀ n9 : Int, ∀ i10 : Int, ∀ Hx8 : Hp, I6 n9 i10 Hx8 →
 (bif (decide ((i10 : Int) < 40000)) then
 (bif (decide ((n9 : Int) > 0)) then
 ∀ R11 : Int → Hp → Prop, (∀ n13 : Int, ∀ Hx12 : Hp, (
 I6 n13 (IntKind.i64.wrap (i10 + 1)) Hx12 ∧ m7 n13 (IntKind.i64.wrap (i10 + 1)) Hx12 < m7 n9 i10 Hx8) → R11 n13 Hx12) →
 ∃ (I14 : Int → Hp → Prop) (m15 : Int → Hp → Nat), I14 0 Hx8 ∧ ∀ m17 : Int, ∀ Hx16 : Hp, I14 m17 Hx16 →
 nilP y1 fun ya18 =>
 ldI .i64 (ya18.add 2) Hx16 fun n19 =>
 (bif (decide ((m17 : Int) ≤ n19)) then
 ∀ R20 : Hp → Prop, (∀ Hx21 : Hp, (
 I14 (IntKind.i64.wrap (m17 + 1)) Hx21 ∧ m15 (IntKind.i64.wrap (m17 + 1)) Hx21 < m15 m17 Hx16) → R20 Hx21) →
 nilP y1 fun ya22 =>
 ldI .i64 (ya22.add 2) Hx16 fun n23 =>
 (bif ((m17 : Int) == n23) then
 nilP y1 fun ya24 =>
 ldP (ya24.add 1) Hx16 fun c25 =>
 hcall PR f_cycle_Cycle_Shake ⟨[(.pointer c25), (.int .i64 m17), (.slice none 0 0)]⟩ Hx16 fun v26 Hx27 =>
 asB v26 fun t28 =>
 R20 Hx27
else
 nilP y1 fun ya29 =>
 ldP (ya29.add 1) Hx16 fun c30 =>
 nilP y1 fun ya31 =>
 ldSl (ya31.add 3) Hx16 fun slotsP32 slotsL33 slotsC34 =>
 idxA slotsP32 slotsL33 m17 1 fun el35 =>
 ldSl el35 Hx16 fun tP36 tL37 tC38 =>
 hcall PR f_cycle_Cycle_Shake ⟨[(.pointer c30), (.int .i64 m17), (.slice tP36 tL37 tC38)]⟩ Hx16 fun v39 Hx40 =>
 asB v39 fun t41 =>
 R20 Hx40)
else
 nilP y1 fun ya42 =>
 ldP (ya42.add 1) Hx16 fun c43 =>
 hcall PR f_cycle_Cycle_Step ⟨[(.pointer c43), (.int .u64 0)]⟩ Hx16 fun v44 Hx45 =>
 tup2 v44 fun v46 v47 =>
 asSl v46 fun tP48 tL49 tC50 =>
 asB v47 fun t51 =>
 (bif t51 then
 R11 (IntKind.i64.wrap (n9 - 1)) Hx45
else
 R11 n9 Hx45))
else
 R3 n9 Hx8)
else
 R3 n9 Hx8)
theorem E_law16_yard_cycles (y1 : Option Addr) (n2 : Int) (H : Hp) (K : Value → Hp → Prop) : B_law16_yard_cycles y1 n2 H K = denF Tryz.prog Tryz.f79 (.seq none .n (.seq (some ⟨[(1, .int .i64)], []⟩) (.seq none .n (.sub (.loop ⟨[(1, .int .i64), (5, .int .i64)], [0]⟩ (.seq none .n (.seq (some ⟨[(1, .int .i64)], [0, 5]⟩) (.sub (.seq none (.seq none .n (.sub (.loop ⟨[(6, .int .i64)], [0, 1, 5]⟩ (.seq none .n (.seq (some ⟨[], [0, 1, 5, 6]⟩) .n .n))))) .n)) .n))))) .n)) [(.pointer y1), (.int .i64 n2)] H K := by kernel_rfl
theorem den_law16_yard_cycles {y1 : Option Addr} {n2 : Int} {H : Hp} {K : Value → Hp → Prop} (h : B_law16_yard_cycles y1 n2 H K) : hcall PR f_law16_yard_cycles ⟨[(.pointer y1), (.int .i64 n2)]⟩ H K := denF_call Tryz.func79 PR_mixed (Eq.mp (E_law16_yard_cycles y1 n2 H K) h)

def B_law16_yard_port (y1 : Option Addr) (xWhat2 : Int) (xM3 : Int) (xA4 : Int) (xB5 : Int) (xF6 : Int) (H : Hp) (K : Value → Hp → Prop) : Prop :=
 newB (.cells #[(.int .i64 xWhat2), (.int .i64 xM3), (.int .i64 xA4), (.int .i64 xB5), (.int .i64 xF6)] ty_law16_Move) H fun b7 Hx8 =>
 ∀ R9 : Option Addr → Hp → Prop, (∀ z11 : Option Addr, ∀ Hx10 : Hp, (
 asA (.pointer z11) fun za12 =>
 ldI .i64 za12 Hx10 fun Node13 =>
 (bif ((Node13 : Int) != 1) then
 K (.bool true) Hx10
else
 ldI .i64 ⟨b7, 3, none⟩ Hx10 fun B14 =>
 (3 : Int) ≠ 0 ∧
 (bif (((Int.tmod B14 3) : Int) == 0) then
 nilP y1 fun ya15 =>
 ldP ya15 Hx10 fun h16 =>
 asA (.pointer z11) fun za17 =>
 ldI .u64 (za17.add 1) Hx10 fun Serial18 =>
 hcall PR f_heap_Heap_SetIn ⟨[(.pointer h16), (.int .u64 Serial18), (.int .i64 0)]⟩ Hx10 fun v19 Hx20 =>
 asI .i64 v19 fun t21 =>
 K (.bool ((t21 : Int) == 0)) Hx20
else
 nilP y1 fun ya22 =>
 ldP (ya22.add 1) Hx10 fun c23 =>
 asA (.pointer z11) fun za24 =>
 ldI .i64 za24 Hx10 fun Node25 =>
 ldI .u64 (za24.add 1) Hx10 fun Serial26 =>
 hcall PR f_cycle_Cycle_Touch ⟨[(.pointer c23), (.agg #[(.int .i64 Node25), (.int .u64 Serial26)])]⟩ Hx10 fun v27 Hx28 =>
 nilP y1 fun ya29 =>
 ldP ya29 Hx28 fun h30 =>
 asA (.pointer z11) fun za31 =>
 ldI .u64 (za31.add 1) Hx28 fun Serial32 =>
 ldI .i64 ⟨b7, 3, none⟩ Hx28 fun B33 =>
 hcall PR f_hand_Pick ⟨[(.int .i64 B33), (.int .i64 9)]⟩ Hx28 fun v34 Hx35 =>
 asI .i64 v34 fun t36 =>
 (ldI .u64 (za31.add 1) Hx35 fun Serial37 =>
 ((.int .u64 Serial37) : Value) = (.int .u64 Serial32)) ∧
 (ldP ya29 Hx35 fun h38 =>
 ((.pointer h38) : Value) = (.pointer h30)) ∧
 hcall PR f_heap_Heap_SetIn ⟨[(.pointer h30), (.int .u64 Serial32), (.int .i64 (IntKind.i64.wrap (1 + t36)))]⟩ Hx35 fun v39 Hx40 =>
 asI .i64 v39 fun t41 =>
 K (.bool ((t41 : Int) == 0)) Hx40))) → R9 z11 Hx10) →
 nilP y1 fun ya42 =>
 ldSl (ya42.add 3) Hx8 fun slotsP43 slotsL44 slotsC45 =>
 ldI .i64 ⟨b7, 1, none⟩ Hx8 fun M46 =>
 nilP y1 fun ya47 =>
 ldI .i64 (ya47.add 2) Hx8 fun n48 =>
 ldI .i64 ⟨b7, 2, none⟩ Hx8 fun A49 =>
 (hcall PR f_hand_Pick ⟨[(.int .i64 M46), (.int .i64 n48)]⟩ Hx8 fun v50 Hx51 =>
 asI .i64 v50 fun t52 =>
 (ldI .i64 ⟨b7, 2, none⟩ Hx51 fun A53 =>
 ((.int .i64 A53) : Value) = (.int .i64 A49)) ∧
 (ldSl (ya42.add 3) Hx51 fun slotsP54 slotsL55 slotsC56 =>
 ((.slice slotsP54 slotsL55 slotsC56) : Value) = (.slice slotsP43 slotsL44 slotsC45)) ∧
 idxA slotsP43 slotsL44 t52 1 fun el57 =>
 ldSl el57 Hx51 fun tP58 tL59 tC60 =>
 (hcall PR f_hand_Pick ⟨[(.int .i64 A49), (.int .i64 3)]⟩ Hx51 fun v61 Hx62 =>
 asI .i64 v61 fun t63 =>
 (ldSl el57 Hx62 fun tP64 tL65 tC66 =>
 ((.slice tP64 tL65 tC66) : Value) = (.slice tP58 tL59 tC60)) ∧
 (ldSl (ya42.add 3) Hx62 fun slotsP67 slotsL68 slotsC69 =>
 ((.slice slotsP67 slotsL68 slotsC69) : Value) = (.slice slotsP43 slotsL44 slotsC45)) ∧
 idxA tP58 tL59 t63 2 fun el70 =>
 ldI .i64 el70 Hx62 fun Node71 =>
 ldI .u64 (el70.add 1) Hx62 fun Serial72 =>
 newB (.cells #[(.int .i64 0), (.int .u64 0)] ty_api_ID) Hx62 fun b73 Hx74 =>
 (ldI .i64 el70 Hx74 fun Node75 =>
 ldI .u64 (el70.add 1) Hx74 fun Serial76 =>
 ((.agg #[(.int .i64 Node75), (.int .u64 Serial76)]) : Value) = (.agg #[(.int .i64 Node71), (.int .u64 Serial72)])) ∧
 (ldSl el57 Hx74 fun tP77 tL78 tC79 =>
 ((.slice tP77 tL78 tC79) : Value) = (.slice tP58 tL59 tC60)) ∧
 (ldSl (ya42.add 3) Hx74 fun slotsP80 slotsL81 slotsC82 =>
 ((.slice slotsP80 slotsL81 slotsC82) : Value) = (.slice slotsP43 slotsL44 slotsC45)) ∧
 st ⟨b73, 0, none⟩ (.int .i64 Node71) Hx74 fun Hx83 =>
 st ⟨b73, 1, none⟩ (.int .u64 Serial72) Hx83 fun Hx84 =>
 R9 (some ⟨b73, 0, none⟩) Hx84) ∧
 (newB (.cells #[(.int .i64 0), (.int .u64 0)] ty_api_ID) Hx51 fun b85 Hx86 =>
 (ldSl el57 Hx86 fun tP87 tL88 tC89 =>
 ((.slice tP87 tL88 tC89) : Value) = (.slice tP58 tL59 tC60)) ∧
 (ldI .i64 ⟨b7, 2, none⟩ Hx86 fun A90 =>
 ((.int .i64 A90) : Value) = (.int .i64 A49)) ∧
 (ldSl (ya42.add 3) Hx86 fun slotsP91 slotsL92 slotsC93 =>
 ((.slice slotsP91 slotsL92 slotsC93) : Value) = (.slice slotsP43 slotsL44 slotsC45)) ∧
 hcall PR f_hand_Pick ⟨[(.int .i64 A49), (.int .i64 3)]⟩ Hx86 fun v94 Hx95 =>
 asI .i64 v94 fun t96 =>
 (ldSl el57 Hx95 fun tP97 tL98 tC99 =>
 ((.slice tP97 tL98 tC99) : Value) = (.slice tP58 tL59 tC60)) ∧
 (ldSl (ya42.add 3) Hx95 fun slotsP100 slotsL101 slotsC102 =>
 ((.slice slotsP100 slotsL101 slotsC102) : Value) = (.slice slotsP43 slotsL44 slotsC45)) ∧
 idxA tP58 tL59 t96 2 fun el103 =>
 ldI .i64 el103 Hx95 fun Node104 =>
 ldI .u64 (el103.add 1) Hx95 fun Serial105 =>
 st ⟨b85, 0, none⟩ (.int .i64 Node104) Hx95 fun Hx106 =>
 st ⟨b85, 1, none⟩ (.int .u64 Serial105) Hx106 fun Hx107 =>
 R9 (some ⟨b85, 0, none⟩) Hx107)) ∧
 (newB (.cells #[(.int .i64 0), (.int .u64 0)] ty_api_ID) Hx8 fun b108 Hx109 =>
 (ldI .i64 ⟨b7, 2, none⟩ Hx109 fun A110 =>
 ((.int .i64 A110) : Value) = (.int .i64 A49)) ∧
 (ldI .i64 (ya47.add 2) Hx109 fun n111 =>
 ((.int .i64 n111) : Value) = (.int .i64 n48)) ∧
 (ldI .i64 ⟨b7, 1, none⟩ Hx109 fun M112 =>
 ((.int .i64 M112) : Value) = (.int .i64 M46)) ∧
 (ldSl (ya42.add 3) Hx109 fun slotsP113 slotsL114 slotsC115 =>
 ((.slice slotsP113 slotsL114 slotsC115) : Value) = (.slice slotsP43 slotsL44 slotsC45)) ∧
 hcall PR f_hand_Pick ⟨[(.int .i64 M46), (.int .i64 n48)]⟩ Hx109 fun v116 Hx117 =>
 asI .i64 v116 fun t118 =>
 (ldI .i64 ⟨b7, 2, none⟩ Hx117 fun A119 =>
 ((.int .i64 A119) : Value) = (.int .i64 A49)) ∧
 (ldSl (ya42.add 3) Hx117 fun slotsP120 slotsL121 slotsC122 =>
 ((.slice slotsP120 slotsL121 slotsC122) : Value) = (.slice slotsP43 slotsL44 slotsC45)) ∧
 idxA slotsP43 slotsL44 t118 1 fun el123 =>
 ldSl el123 Hx117 fun tP124 tL125 tC126 =>
 hcall PR f_hand_Pick ⟨[(.int .i64 A49), (.int .i64 3)]⟩ Hx117 fun v127 Hx128 =>
 asI .i64 v127 fun t129 =>
 (ldSl el123 Hx128 fun tP130 tL131 tC132 =>
 ((.slice tP130 tL131 tC132) : Value) = (.slice tP124 tL125 tC126)) ∧
 (ldSl (ya42.add 3) Hx128 fun slotsP133 slotsL134 slotsC135 =>
 ((.slice slotsP133 slotsL134 slotsC135) : Value) = (.slice slotsP43 slotsL44 slotsC45)) ∧
 idxA tP124 tL125 t129 2 fun el136 =>
 ldI .i64 el136 Hx128 fun Node137 =>
 ldI .u64 (el136.add 1) Hx128 fun Serial138 =>
 st ⟨b108, 0, none⟩ (.int .i64 Node137) Hx128 fun Hx139 =>
 st ⟨b108, 1, none⟩ (.int .u64 Serial138) Hx139 fun Hx140 =>
 R9 (some ⟨b108, 0, none⟩) Hx140)
theorem E_law16_yard_port (y1 : Option Addr) (xWhat2 : Int) (xM3 : Int) (xA4 : Int) (xB5 : Int) (xF6 : Int) (H : Hp) (K : Value → Hp → Prop) : B_law16_yard_port y1 xWhat2 xM3 xA4 xB5 xF6 H K = denF Tryz.prog Tryz.f150 (.seq none .n (.seq (some ⟨[(5, .ptr)], [0, 3]⟩) .n .n)) [(.pointer y1), (.agg #[(.int .i64 xWhat2), (.int .i64 xM3), (.int .i64 xA4), (.int .i64 xB5), (.int .i64 xF6)])] H K := by kernel_rfl
theorem den_law16_yard_port {y1 : Option Addr} {xWhat2 : Int} {xM3 : Int} {xA4 : Int} {xB5 : Int} {xF6 : Int} {H : Hp} {K : Value → Hp → Prop} (h : B_law16_yard_port y1 xWhat2 xM3 xA4 xB5 xF6 H K) : hcall PR f_law16_yard_port ⟨[(.pointer y1), (.agg #[(.int .i64 xWhat2), (.int .i64 xM3), (.int .i64 xA4), (.int .i64 xB5), (.int .i64 xF6)])]⟩ H K := denF_call Tryz.func150 PR_mixed (Eq.mp (E_law16_yard_port y1 xWhat2 xM3 xA4 xB5 xF6 H K) h)

def B_law16_yard_reached_1 (xNode1 : Int) (xSerial2 : Int) (cap3 : Option Addr) (H : Hp) (K : Value → Hp → Prop) : Prop :=
 newB (.cells #[(.int .i64 xNode1), (.int .u64 xSerial2)] ty_api_ID) H fun b4 Hx5 =>
 ∃ (I6 : Int → Hp → Prop) (m7 : Int → Hp → Nat), I6 0 Hx5 ∧ ∀ i9 : Int, ∀ Hx8 : Hp, I6 i9 Hx8 →
 asA (.pointer cap3) fun capa10 =>
 ldSl capa10 Hx8 fun tP11 tL12 tC13 =>
 (bif (decide ((i9 : Int) < (tL12 : Int))) then
 asA (.pointer cap3) fun capa14 =>
 ldSl capa14 Hx8 fun tP15 tL16 tC17 =>
 idxA tP15 tL16 i9 1 fun el18 =>
 ldI .u64 el18 Hx8 fun t19 =>
 ldI .u64 ⟨b4, 1, none⟩ Hx8 fun Serial20 =>
 (bif ((t19 : Int) == Serial20) then
 K (.tuple #[]) Hx8
else
 I6 (IntKind.i64.wrap (i9 + 1)) Hx8 ∧ m7 (IntKind.i64.wrap (i9 + 1)) Hx8 < m7 i9 Hx8)
else
 ldI .i64 ⟨b4, 0, none⟩ Hx8 fun Node21 =>
 (bif ((Node21 : Int) == 1) then
 asA (.pointer cap3) fun capa22 =>
 ldSl capa22 Hx8 fun tP23 tL24 tC25 =>
 ldI .u64 ⟨b4, 1, none⟩ Hx8 fun Serial26 =>
 newB (.cells #[(.int .u64 Serial26)] ty_uint64) Hx8 fun b27 Hx28 =>
 evW PR (Builtin.append_ #[ty_Suint64, ty_Suint64] ty_Suint64 #[(.slice tP23 tL24 tC25), (.slice (some ⟨b27, 0, none⟩) 1 1)]) Hx28 fun v29 Hx30 =>
 asSl v29 fun tP31 tL32 tC33 =>
 asA (.pointer cap3) fun capa34 =>
 st capa34 (.slice tP31 tL32 tC33) Hx30 fun Hx35 =>
 K (.tuple #[]) Hx35
else
 K (.tuple #[]) Hx8))
theorem E_law16_yard_reached_1 (xNode1 : Int) (xSerial2 : Int) (cap3 : Option Addr) (H : Hp) (K : Value → Hp → Prop) : B_law16_yard_reached_1 xNode1 xSerial2 cap3 H K = denF Tryz.prog Tryz.f151 (.seq none .n (.seq none (.seq none .n (.sub (.loop ⟨[(3, .int .i64)], [1, 2]⟩ .n))) .n)) [(.agg #[(.int .i64 xNode1), (.int .u64 xSerial2)]), (.pointer cap3)] H K := by kernel_rfl
theorem den_law16_yard_reached_1 {xNode1 : Int} {xSerial2 : Int} {cap3 : Option Addr} {H : Hp} {K : Value → Hp → Prop} (h : B_law16_yard_reached_1 xNode1 xSerial2 cap3 H K) : hcall PR f_law16_yard_reached_1 ⟨[(.agg #[(.int .i64 xNode1), (.int .u64 xSerial2)]), (.pointer cap3)]⟩ H K := denF_call Tryz.func151 PR_mixed (Eq.mp (E_law16_yard_reached_1 xNode1 xSerial2 cap3 H K) h)

end Go.Proofs.YtojcacejgbnfkaaGreat

namespace Go.Proofs.YtojcacejgbnfkaaGreat
set_option linter.unusedSimpArgs false
set_option linter.unusedVariables false
open Go
/-- A mutator's slots, and where they lie. -/
abbrev YdQ := List Id × (Option Addr × Nat)
instance : Inhabited YdQ := ⟨([], (none, 0))⟩
def ydV (y : YdQ) : Value := .slice y.2.1 y.1.length y.2.2
def ydRow (y : YdQ) : Prt := Prt.row 2 y.2.1 y.1.length y.2.2 (cel Id.cells y.1)
structure YdX where
  sp : Option Addr
  sc : Nat
  ys : List YdQ
  T : Nat
def ydParts (yb hb cb : Nat) (n : Int) (sl : List (List Id)) (x : YdX) : List Prt :=
  [Prt.one yb (.cells #[ptrV hb, ptrV cb, .int .i64 n, .slice x.sp sl.length x.sc, .bool false] x.T (0, 0)), Prt.row 1 x.sp sl.length x.sc (x.ys.map ydV), Prt.list (x.ys.map ydRow), Prt.pure (x.ys.map (·.1) = sl)]
/-- A yard of n mutators. -/
def YdP (yb hb cb : Nat) (n : Int) (sl : List (List Id)) : Prt := Prt.ex fun x => Prt.list (ydParts yb hb cb n sl x)

section
variable {H0 H : Hp} {L M N : List Prt} {i j k m yb hb cb : Nat} {n : Int} {sl : List (List Id)} {x : YdX} {row : List Id} {K : Value → Hp → Prop}
theorem ydOpened (h : St H0 L H) (hk : L[k]? = some (YdP yb hb cb n sl)) : ∃ x, St H0 (ydParts yb hb cb n sl x ++ L.set k .nil) H := h.openEx hk
theorem ydShut {B : Prt} (h : St H0 (N ++ (ydParts yb hb cb n sl x ++ L.set k .nil)) H) (hk : L[k]? = some B) : St H0 (N ++ L.set k (YdP yb hb cb n sl)) H := St.shutExN (A := ydParts yb hb cb n sl) (N := N) x h hk
theorem ydLen (g : St H0 (ydParts yb hb cb n sl x ++ M) H) : x.ys.map (·.1) = sl := g.fact (i := 3) rfl
/-- A mutator's slots are read. -/
theorem ydGet (g : St H0 (ydParts yb hb cb n sl x ++ M) H) (hm : sl[m]? = some row) : ∃ y, x.ys[m]? = some y ∧ y.1 = row ∧ (∀ Q : Addr → Prop, (∀ ad, hcell H ad = some (.slice y.2.1 row.length y.2.2) → Q ad) → idxA x.sp sl.length (m : Int) 1 Q) ∧ Rd H 2 y.2.1 row.length (cel Id.cells row) := by
  have hys := ydLen g
  have hl : x.ys.length = sl.length := by rw [← hys, List.length_map]
  have hml := ltOfGet hm
  have hy : x.ys[m]? = some (x.ys[m]'(by omega)) := List.getElem?_eq_getElem (by omega)
  obtain ⟨y, hyy⟩ : ∃ y, y = x.ys[m]'(by omega) := ⟨_, rfl⟩
  rw [← hyy] at hy
  have hy1 : y.1 = row := by
    rw [← hys, List.getElem?_map, hy] at hm
    exact Option.some.inj hm
  refine ⟨y, hy, hy1, fun Q hQ => ?_, ?_⟩
  · refine idx1 (d := (default : YdQ)) (g.row_rd (i := 1) rfl) (by omega) (by omega) fun b o _ hcl => hQ _ ?_
    rw [hcl, Int.toNat_natCast, List.getD_eq_getElem?_getD, hy]
    show some (ydV y) = _
    unfold ydV
    rw [hy1]
  · have h1 := g.sub (i := 2) (k := m) (A := ydRow y) rfl (by rw [List.getElem?_map, hy]; rfl)
    have h2 := h1.row_rd (i := 0) rfl
    rw [hy1] at h2
    exact h2
/-- A mutator's slots are read; they read so as long as the yard stands. -/
theorem ydRead (g : St H0 (ydParts yb hb cb n sl x ++ M) H) (hm : sl[m]? = some row) : ∃ y, x.ys[m]? = some y ∧ y.1 = row ∧
    (∀ Q : Addr → Prop, (∀ ad, (∀ M' H', St H0 (ydParts yb hb cb n sl x ++ M') H' → hcell H' ad = some (.slice y.2.1 row.length y.2.2)) → Q ad) → idxA x.sp sl.length (m : Int) 1 Q) ∧
    ∀ (a : Nat) (Q : Addr → Prop), a < row.length → (∀ ad, (∀ M' H', St H0 (ydParts yb hb cb n sl x ++ M') H' → hcell H' ad = some (.int .i64 (row.getD a noId).n) ∧ hcell H' (ad.add 1) = some (.int .u64 (row.getD a noId).s)) → Q ad) → idxA y.2.1 row.length (a : Int) 2 Q := by
  obtain ⟨y, hy, hy1, _, rd⟩ := ydGet g hm
  have hml := ltOfGet hm
  refine ⟨y, hy, hy1, fun Q hQ => ?_, fun a Q ha hQ => ?_⟩
  · refine idx1 (d := (default : YdQ)) (g.row_rd (i := 1) rfl) (by omega) (by omega) fun b o hp _ => hQ _ fun M' H' g' => ?_
    have r : Rd H' 1 x.sp sl.length (x.ys.map ydV) := g'.row_rd (i := 1) rfl
    rw [hp] at r
    have h3 := r.2.2 m (by omega)
    rw [Int.toNat_natCast]
    refine h3.trans ?_
    rw [List.getElem?_map, hy]
    show some (ydV y) = _
    unfold ydV
    rw [hy1]
  · refine idxS Id.len noId rd (by omega) (by omega) (by omega) fun b o hp hl _ => hQ _ fun M' H' g' => ?_
    obtain ⟨y', hy', _, _, rd'⟩ := ydGet g' hm
    rw [hy] at hy'
    cases hy'
    have c0 := rd'.cel_at' Id.len noId hp (i := (a : Int).toNat) hl (show 0 < 2 by omega)
    have c1 := rd'.cel_at' Id.len noId hp (i := (a : Int).toNat) hl (show 1 < 2 by omega)
    rw [Int.toNat_natCast] at c0 c1 ⊢
    exact ⟨c0, c1⟩
/-- A slot is filled. -/
theorem ydPut {a : Nat} {v : Id} {y : YdQ} {K : Hp → Prop} (g : St H0 (ydParts yb hb cb n sl x ++ M) H) (hy : x.ys[m]? = some y) (hy1 : y.1 = row) (ha : a < row.length)
    (hK : ∀ H', St H0 (ydParts yb hb cb n (sl.set m (row.set a v)) { x with ys := x.ys.set m (row.set a v, y.2) } ++ M) H' → K H') :
    idxA y.2.1 row.length (a : Int) 2 fun el => st el (.int .i64 v.n) H fun H1 => st (el.add 1) (.int .u64 v.s) H1 K := by
  have hys := ydLen g
  have hml := ltOfGet hy
  have h1 := g.sub (i := 2) (k := m) (A := ydRow y) rfl (by rw [List.getElem?_map, hy]; rfl)
  have h1 : St H0 (Prt.row 2 y.2.1 row.length y.2.2 (cel Id.cells row) :: (ydParts yb hb cb n sl x ++ M).set 2 (Prt.list ((x.ys.map ydRow).set m .nil))) H := by
    rw [← hy1]; exact h1
  refine idxA_of (h1.row_rd (i := 0) rfl) (by omega) (by omega) fun b o hp _ => ?_
  simp only [Int.toNat_natCast, add_mk]
  refine h1.poke (i := 0) (j := a * 2) rfl hp (by omega) fun H2 h2 => ?_
  rw [Nat.add_assoc]
  refine h2.poke (i := 0) (j := a * 2 + 1) rfl hp (by omega) fun H3 h3 => hK H3 ?_
  have h3 : St H0 (Prt.row 2 y.2.1 row.length y.2.2 (((cel Id.cells row).set (a * 2) (.int .i64 v.n)).set (a * 2 + 1) (.int .u64 v.s)) :: (ydParts yb hb cb n sl x ++ M).set 2 (Prt.list ((x.ys.map ydRow).set m .nil))) H3 := h3
  rw [cel_set2 Id.len noId ha (y := v) rfl] at h3
  have h4 : St H0 (ydRow (row.set a v, y.2) :: (ydParts yb hb cb n sl x ++ M).set 2 (Prt.list ((x.ys.map ydRow).set m .nil))) H3 := by
    unfold ydRow
    simp only [List.length_set]
    exact h3
  have h5 := St.unsub h4 (i := 2) (k := m) rfl (by rw [List.getElem?_set_self (by rw [List.length_map]; exact hml)])
  rw [List.set_set, List.set_set] at h5
  have e1 : (x.ys.map ydRow).set m (ydRow (row.set a v, y.2)) = (x.ys.set m (row.set a v, y.2)).map ydRow := (List.map_set ..).symm
  rw [e1] at h5
  have e2 : (x.ys.set m (row.set a v, y.2)).map (·.1) = sl.set m (row.set a v) := by rw [List.map_set, hys]
  have h6 := h5.refact (i := 3) (q := (x.ys.set m (row.set a v, y.2)).map (·.1) = sl.set m (row.set a v)) rfl e2
  have e3 : x.ys.map ydV = (x.ys.set m (row.set a v, y.2)).map ydV := by
    rw [List.map_set]
    refine (List.set_self ?_).symm
    rw [List.getElem?_map, hy]
    show some (ydV y) = _
    unfold ydV
    simp only [List.length_set, hy1]
  have h7 : St H0 (Prt.one yb (.cells #[ptrV hb, ptrV cb, .int .i64 n, .slice x.sp sl.length x.sc, .bool false] x.T (0, 0)) :: Prt.row 1 x.sp sl.length x.sc (x.ys.map ydV) :: Prt.list ((x.ys.set m (row.set a v, y.2)).map ydRow) :: Prt.pure ((x.ys.set m (row.set a v, y.2)).map (·.1) = sl.set m (row.set a v)) :: M) H3 := h6
  rw [e3, show sl.length = (sl.set m (row.set a v)).length by rw [List.length_set]] at h7
  exact h7
end
end Go.Proofs.YtojcacejgbnfkaaGreat

namespace Go.Proofs.YtojcacejgbnfkaaGreat
open Go
set_option linter.unusedVariables false
set_option maxRecDepth 100000
end Go.Proofs.YtojcacejgbnfkaaGreat

namespace Go.Proofs.YtojcacejgbnfkaaGreat
set_option linter.unusedSimpArgs false
set_option linter.unusedVariables false
open Go
section
variable {H0 H : Hp} {L M : List Prt} {i j k b hb : Nat} {s : Hs} {c : Cy} {K : Value → Hp → Prop}
/-! ## The example -/
def k16a : Cy := ⟨⟨1, [false, true], [false, false]⟩, ⟨[], [], [], 4, false, 1⟩, ⟨0, false, 0⟩, rcNew 0, 0, 1, 0, 3, 8, 0, 0, ⟨0, [], [], false⟩⟩
def k16b : Cy := ⟨⟨2, [true, true], [false, false]⟩, ⟨[], [], [], 4, false, 1⟩, ⟨0, false, 0⟩, rcNew 0, 0, 1, 0, 3, 8, 0, 0, ⟨0, [], [], false⟩⟩
def k16c : Cy := ⟨⟨2, [true, true], [true, false]⟩, ⟨[], [], [], 4, false, 1⟩, ⟨0, false, 0⟩, rcNew 0, 0, 1, 0, 3, 8, 0, 0, ⟨0, [], [], false⟩⟩
def k16d : Cy := ⟨⟨3, [true, true], [true, true]⟩, ⟨[], [], [], 4, false, 1⟩, ⟨0, false, 0⟩, rcNew 0, 0, 1, 0, 3, 8, 0, 0, ⟨0, [], [], false⟩⟩
def k16e (pl : Int) : Cy := ⟨⟨3, [true, true], [true, true]⟩, ⟨[], [], [], 4, false, 1⟩, ⟨1, false, 0⟩, ⟨3, 1, none, []⟩, pl, 1, 5, 3, 8, 0, 1, ⟨0, [], [], true⟩⟩
def k16f : Cy := ⟨⟨0, [false, false], [false, false]⟩, ⟨[], [], [], 4, false, 1⟩, ⟨1, false, 0⟩, ⟨3, 1, none, []⟩, 1, 1, 0, 3, 8, 0, 1, ⟨0, [], [], true⟩⟩
theorem known16_begin : cyStep s (newCy 1 4 3 8 1) 0 = (([], false), s, k16a) := steps_stop (n := 7) (unit0 rfl)
theorem known16_shake : cyShake s k16a 0 [] = (true, k16b) ∧ cyShake s k16b 0 [] = (true, k16c) ∧ cyShake s k16c 1 [] = (true, k16d) ∧ cyShake s k16d 1 [] = (false, k16d) := ⟨rfl, rfl, rfl, rfl⟩
theorem known16_run {y : Id} {c1 : Int} (ho : s.ok) (hobs : s.obs = [⟨1, c1, [y], [], 0⟩]) (hn : s.node = 1) (hl : s.last = 1) : cyStep s k16d 0 = (([1], true), (hFree s 1).2, k16f) := by
  have g1 : hGet s 1 = some ⟨1, c1, [y], [], 0⟩ := by unfold hGet; rw [hobs]; rfl
  have n0 : hNext s 0 = (1, true) := by unfold hNext; rw [hobs]; rfl
  have n1 : hNext s 1 = (0, false) := by unfold hNext; rw [hobs]; rfl
  have ho2 := ho.free 1
  have n2 : hNext (hFree s 1).2 1 = (0, false) := hNext_none ho2 fun k hk => by
    rw [hFree_get, if_neg (by omega)]
    cases hg : hGet s k with
    | none => rfl
    | some o =>
      have := hNext_false (s := s) (q := 1) (by rw [n1]) (k := k) (by rw [hg]; simp)
      omega
  have own : ∀ k, rcOwn s ⟨[], [], [], 4, false, 1⟩ 3 k = false := fun k => by
    cases ho : rcOwn s ⟨[], [], [], 4, false, 1⟩ 3 k
    · rfl
    · obtain ⟨_, r, g, h, _⟩ := rcOwn_has ho
      cases h
  obtain ⟨pa, hpa⟩ : ∃ pa : Ps, pa = ⟨[], [], [], 4, false, 1⟩ := ⟨_, rfl⟩
  have m0 : mkStep s pa ⟨0, false, 0⟩ = (true, pa, ⟨1, false, 0⟩) := by
    unfold mkStep mkSee
    rw [hpa]
    simp only [List.getLast?_nil, n0, g1]
    rfl
  have m1 : mkStep s pa ⟨1, false, 0⟩ = (false, pa, ⟨1, false, 0⟩) := by
    unfold mkStep
    rw [hpa]
    simp only [List.getLast?_nil, n1]
    rfl
  have r0 : rcStep s pa (rcNew 3) = (true, ⟨3, 1, none, []⟩) := by
    rw [hpa]
    unfold rcStep rcNew rcNext
    simp only [n0, g1, own]
    rfl
  have r1 : rcStep s pa ⟨3, 1, none, []⟩ = (false, ⟨3, 1, none, []⟩) := by
    rw [hpa]
    unfold rcStep rcNext
    simp only [n1]
    rfl
  obtain ⟨ca, hca⟩ : ∃ ca : Cy, ca = { k16d with st := 3, m := ⟨1, false, 0⟩ } := ⟨_, rfl⟩
  obtain ⟨cb, hcb⟩ : ∃ cb : Cy, cb = { k16d with st := 4, m := ⟨1, false, 0⟩, r := rcNew 3 } := ⟨_, rfl⟩
  obtain ⟨cc, hcc⟩ : ∃ cc : Cy, cc = { k16d with st := 4, m := ⟨1, false, 0⟩, r := ⟨3, 1, none, []⟩ } := ⟨_, rfl⟩
  have u1 : cyUnit s k16d 0 = ⟨none, 0, s, ca⟩ := by
    rw [unit23 (.inr rfl) rfl, hca]
    unfold cyMarks
    rw [show mkStep s ({ k16d with st := 3, m := ⟨0, false, 0⟩ } : Cy).p ({ k16d with st := 3, m := ⟨0, false, 0⟩ } : Cy).m = (true, pa, ⟨1, false, 0⟩) from by rw [← m0, hpa]; rfl]
    rw [if_pos rfl, hpa]
    rfl
  have u2 : cyUnit s ca 0 = ⟨none, 0, s, cb⟩ := by
    rw [unit3 (by rw [hca]; rfl)]
    unfold cyMarks
    rw [show mkStep s ca.p ca.m = (false, pa, ⟨1, false, 0⟩) from by rw [← m1, hpa, hca]; rfl]
    rw [if_neg (fun h => by cases h), hca, hcb, hpa]
    rfl
  have u3 : cyUnit s cb 0 = ⟨none, 0, s, cc⟩ := by
    rw [unit4 (by rw [hcb]; rfl)]
    unfold cyReaches
    rw [show mkStep s cb.p cb.m = (false, pa, ⟨1, false, 0⟩) from by rw [← m1, hpa, hcb]; rfl]
    rw [if_neg (fun h => by cases h)]
    simp only
    rw [show rcStep s pa cb.r = (true, ⟨3, 1, none, []⟩) from by rw [← r0, hcb]]
    rw [if_pos rfl, hcb, hcc, hpa]
    rfl
  have u4 : cyUnit s cc 0 = ⟨none, 0, s, k16e 0⟩ := by
    rw [unit4 (by rw [hcc]; rfl)]
    unfold cyReaches
    rw [show mkStep s cc.p cc.m = (false, pa, ⟨1, false, 0⟩) from by rw [← m1, hpa, hcc]; rfl]
    rw [if_neg (fun h => by cases h)]
    simp only
    rw [show rcStep s pa cc.r = (false, ⟨3, 1, none, []⟩) from by rw [← r1, hcc]]
    rw [if_neg (by decide), hcc, hpa, hl]
    rfl
  have s5 : swStep s pa 0 1 = ((1, true), (hFree s 1).2, pa, 1) := by
    unfold swStep
    rw [n0, if_neg (by decide), if_neg (by rw [hpa]; show ¬ (false = true); decide), hpa]
    rfl
  have s6 : swStep (hFree s 1).2 pa 1 1 = ((0, false), (hFree s 1).2, pa, 1) := by
    unfold swStep
    rw [n2, if_pos (.inl rfl)]
  have u5 : cyUnit s (k16e 0) 0 = ⟨none, 1, (hFree s 1).2, k16e 1⟩ := by
    have e : swStep s (k16e 0).p (k16e 0).pl (k16e 0).e = ((1, true), (hFree s 1).2, pa, 1) := by rw [← s5, hpa]; rfl
    rw [unit6 rfl (by rw [e]), e, hpa]
    rfl
  have u6 : cyUnit (hFree s 1).2 (k16e 1) 0 = ⟨some true, 0, (hFree s 1).2, k16f⟩ := by
    have e : swStep (hFree s 1).2 (k16e 1).p (k16e 1).pl (k16e 1).e = ((0, false), (hFree s 1).2, pa, 1) := by rw [← s6, hpa]; rfl
    rw [unit5 rfl (by rw [e]), e, hpa]
    rfl
  show cySteps 0 8 s k16d [] = _
  rw [steps_go u1, steps_go u2, steps_go u3, steps_go u4, steps_go u5, steps_stop u6]
  rfl

theorem known16_ok (h : St H0 L H) (hK : ∀ H', St H0 L H' → K (.bool true) H') : hcall PR f_law16_known ⟨[]⟩ H K := by
  apply den_law16_known
  unfold B_law16_known
  refine hNewOk (m := 4) (by decide) (by decide) (by decide) (by decide) (by decide) h fun hb H1 h1 => ?_
  simp only [asI_mk', asB_mk, asP_mk, asA_mk, asM_mk, asSl_mk, asStr_mk, tup2_mk, tup3_mk, agg1_mk, agg2_mk, agg3_mk, agg4_mk, asAggm, unCons_mk, unNil_mk, asTup_mk, extractD0, extractD1, List.toList_toArray, nilP_mk, add_mk, Nat.zero_add, Nat.add_zero, condT, condF, Bool.not_true, Bool.not_false, Option.isNone_some, Option.isNone_none]
  refine bif_neqf rfl ?_
  obtain ⟨s1, c1, a0, a1, a2, a3, a4, a5, a6⟩ := hMake_good' (s := newHs 1 4 0 4) (r := 1) (v := 0) (heap_ok h1 (i := 0) rfl) (by omega) (by omega) (by decide) (by decide) (by show 0 < frees (List.replicate 4 noBlk); rw [frees_new]; omega)
  refine hMakeC h1 (i := 0) rfl (by decide) (by decide) fun H2 h2 => ?_
  rw [a0] at h2 ⊢
  have h2 : St H0 (HeapP hb s1 :: L) H2 := h2
  simp only [asI_mk', asB_mk, asP_mk, asA_mk, asM_mk, asSl_mk, asStr_mk, tup2_mk, tup3_mk, agg1_mk, agg2_mk, agg3_mk, agg4_mk, asAggm, unCons_mk, unNil_mk, asTup_mk, extractD0, extractD1, List.toList_toArray, nilP_mk, add_mk, Nat.zero_add, Nat.add_zero, condT, condF, Bool.not_true, Bool.not_false, Option.isNone_some, Option.isNone_none]
  have a3 : s1.node = 1 := a3
  have a4 : s1.obs = [⟨1, c1, [noId], [], 0⟩] := a4
  have al : s1.last = 1 := by first | exact a1 | exact a2 | exact a5 | exact a6
  refine cyNewC h2 (i := 0) rfl a3 (by omega) (by omega) (by omega) (by omega) fun b H3 h3 => ?_
  rw [al] at h3
  simp only [asI_mk', asB_mk, asP_mk, asA_mk, asM_mk, asSl_mk, asStr_mk, tup2_mk, tup3_mk, agg1_mk, agg2_mk, agg3_mk, agg4_mk, asAggm, unCons_mk, unNil_mk, asTup_mk, extractD0, extractD1, List.toList_toArray, nilP_mk, add_mk, Nat.zero_add, Nat.add_zero, condT, condF, Bool.not_true, Bool.not_false, Option.isNone_some, Option.isNone_none]
  refine bif_neqf rfl ?_
  (try simp only [Option.isNone_some, condF])
  have ho := heap_ok h3 (i := 1) rfl
  refine cyStepC h3 (i := 1) (k := 0) rfl rfl (by decide) (n := 0) newCy_lt (by omega) fun fp fc H4 h4 => ?_
  rw [known16_begin] at h4 ⊢
  have h4 : St H0 (CyP b hb k16a :: HeapP hb s1 :: L) H4 := h4.less
  simp only [asI_mk', asB_mk, asP_mk, asA_mk, asM_mk, asSl_mk, asStr_mk, tup2_mk, tup3_mk, agg1_mk, agg2_mk, agg3_mk, agg4_mk, asAggm, unCons_mk, unNil_mk, asTup_mk, extractD0, extractD1, List.toList_toArray, nilP_mk, add_mk, Nat.zero_add, Nat.add_zero, condT, condF, Bool.not_true, Bool.not_false, Option.isNone_some, Option.isNone_none]
  refine cyStateC h4 (k := 0) rfl ?_
  simp only [asI_mk', asB_mk, asP_mk, asA_mk, asM_mk, asSl_mk, asStr_mk, tup2_mk, tup3_mk, agg1_mk, agg2_mk, agg3_mk, agg4_mk, asAggm, unCons_mk, unNil_mk, asTup_mk, extractD0, extractD1, List.toList_toArray, nilP_mk, add_mk, Nat.zero_add, Nat.add_zero, condT, condF, Bool.not_true, Bool.not_false, Option.isNone_some, Option.isNone_none]
  intro R30 hR30
  obtain ⟨q1, q2, q3, q4⟩ := known16_shake (s := s1)
  refine cyShakeC (held := []) h4 (i := 1) (k := 0) rfl rfl (by decide) (fun _ _ _ => rd_nil) (by simp) fun H5 h5 => ?_
  rw [q1] at h5 ⊢
  have h5 : St H0 (CyP b hb k16b :: HeapP hb s1 :: L) H5 := h5
  simp only [asI_mk', asB_mk, asP_mk, asA_mk, asM_mk, asSl_mk, asStr_mk, tup2_mk, tup3_mk, agg1_mk, agg2_mk, agg3_mk, agg4_mk, asAggm, unCons_mk, unNil_mk, asTup_mk, extractD0, extractD1, List.toList_toArray, nilP_mk, add_mk, Nat.zero_add, Nat.add_zero, condT, condF, Bool.not_true, Bool.not_false, Option.isNone_some, Option.isNone_none]
  refine cyShakeC (held := []) h5 (i := 1) (k := 0) rfl rfl (by decide) (fun _ _ _ => rd_nil) (by simp) fun H6 h6 => ?_
  rw [q2] at h6 ⊢
  have h6 : St H0 (CyP b hb k16c :: HeapP hb s1 :: L) H6 := h6
  simp only [asI_mk', asB_mk, asP_mk, asA_mk, asM_mk, asSl_mk, asStr_mk, tup2_mk, tup3_mk, agg1_mk, agg2_mk, agg3_mk, agg4_mk, asAggm, unCons_mk, unNil_mk, asTup_mk, extractD0, extractD1, List.toList_toArray, nilP_mk, add_mk, Nat.zero_add, Nat.add_zero, condT, condF, Bool.not_true, Bool.not_false, Option.isNone_some, Option.isNone_none]
  refine cyShakeC (held := []) h6 (i := 1) (k := 0) rfl rfl (by decide) (fun _ _ _ => rd_nil) (by simp) fun H7 h7 => ?_
  rw [q3] at h7 ⊢
  have h7 : St H0 (CyP b hb k16d :: HeapP hb s1 :: L) H7 := h7
  simp only [asI_mk', asB_mk, asP_mk, asA_mk, asM_mk, asSl_mk, asStr_mk, tup2_mk, tup3_mk, agg1_mk, agg2_mk, agg3_mk, agg4_mk, asAggm, unCons_mk, unNil_mk, asTup_mk, extractD0, extractD1, List.toList_toArray, nilP_mk, add_mk, Nat.zero_add, Nat.add_zero, condT, condF, Bool.not_true, Bool.not_false, Option.isNone_some, Option.isNone_none]
  refine cyShakeC (held := []) h7 (i := 1) (k := 0) rfl rfl (by decide) (fun _ _ _ => rd_nil) (by simp) fun H8 h8 => ?_
  rw [q4] at h8 ⊢
  have h8 : St H0 (CyP b hb k16d :: HeapP hb s1 :: L) H8 := h8
  simp only [asI_mk', asB_mk, asP_mk, asA_mk, asM_mk, asSl_mk, asStr_mk, tup2_mk, tup3_mk, agg1_mk, agg2_mk, agg3_mk, agg4_mk, asAggm, unCons_mk, unNil_mk, asTup_mk, extractD0, extractD1, List.toList_toArray, nilP_mk, add_mk, Nat.zero_add, Nat.add_zero, condT, condF, Bool.not_true, Bool.not_false, Option.isNone_some, Option.isNone_none]
  refine hR30 true H8 ?_
  refine cyStateC h8 (k := 0) rfl ?_
  simp only [asI_mk', asB_mk, asP_mk, asA_mk, asM_mk, asSl_mk, asStr_mk, tup2_mk, tup3_mk, agg1_mk, agg2_mk, agg3_mk, agg4_mk, asAggm, unCons_mk, unNil_mk, asTup_mk, extractD0, extractD1, List.toList_toArray, nilP_mk, add_mk, Nat.zero_add, Nat.add_zero, condT, condF, Bool.not_true, Bool.not_false, Option.isNone_some, Option.isNone_none]
  have hlt : k16d.lt 0 := ⟨⟨Nat.le_refl _, Nat.le_refl _⟩, ⟨fun w hw => by (cases hw), Nat.le_refl _, fun r hr => by (cases hr)⟩, Nat.le_refl _, fun r hr => by (cases hr), Nat.le_refl _⟩
  refine cyStepC h8 (i := 1) (k := 0) rfl rfl (by decide) hlt (by omega) fun fp2 fc2 H9 h9 => ?_
  rw [known16_run ho a4 a3 al] at h9 ⊢
  have h9 : St H0 (Prt.row 1 fp2 1 fc2 [.int .u64 1] :: CyP b hb k16f :: HeapP hb (hFree s1 1).2 :: L) H9 := h9
  simp only [asI_mk', asB_mk, asP_mk, asA_mk, asM_mk, asSl_mk, asStr_mk, tup2_mk, tup3_mk, agg1_mk, agg2_mk, agg3_mk, agg4_mk, asAggm, unCons_mk, unNil_mk, asTup_mk, extractD0, extractD1, List.toList_toArray, nilP_mk, add_mk, Nat.zero_add, Nat.add_zero, condT, condF, Bool.not_true, Bool.not_false, Option.isNone_some, Option.isNone_none]
  refine bif_eq rfl (bif_eq rfl (bif_eq rfl (bif_eq rfl ?_)))
  refine idxS (g := fun x : Int => [Value.int .u64 x]) (l := [1]) (fun _ => rfl) 0 (h9.row_rd (i := 0) rfl) (by omega) (by omega) (by simp) fun b1 o1 _ hl1 hcc => ?_
  refine ldI_of (hcc 0 (by omega)) (bif_eq rfl ?_)
  refine cyStateC h9 (k := 1) rfl ?_
  simp only [asI_mk', asB_mk, asP_mk, asA_mk, asM_mk, asSl_mk, asStr_mk, tup2_mk, tup3_mk, agg1_mk, agg2_mk, agg3_mk, agg4_mk, asAggm, unCons_mk, unNil_mk, asTup_mk, extractD0, extractD1, List.toList_toArray, nilP_mk, add_mk, Nat.zero_add, Nat.add_zero, condT, condF, Bool.not_true, Bool.not_false, Option.isNone_some, Option.isNone_none]
  refine bif_eq rfl (hLen h9 (i := 2) rfl ?_)
  simp only [asI_mk', asB_mk, asP_mk, asA_mk, asM_mk, asSl_mk, asStr_mk, tup2_mk, tup3_mk, agg1_mk, agg2_mk, agg3_mk, agg4_mk, asAggm, unCons_mk, unNil_mk, asTup_mk, extractD0, extractD1, List.toList_toArray, nilP_mk, add_mk, Nat.zero_add, Nat.add_zero, condT, condF, Bool.not_true, Bool.not_false, Option.isNone_some, Option.isNone_none]
  have hz := hFree_len ho (k := 1) (by unfold hGet; rw [a4]; simp)
  rw [a4] at hz
  have hz : (hFree s1 1).2.obs.length = 0 := by simpa using hz
  rw [hz]
  exact hK H9 (St.lesses (M := [_, _, _]) h9)
end
end Go.Proofs.YtojcacejgbnfkaaGreat

namespace Go.Proofs.YtojcacejgbnfkaaGreat
open Go
set_option linter.unusedVariables false
set_option maxRecDepth 100000
end Go.Proofs.YtojcacejgbnfkaaGreat

namespace Go.Proofs.YtojcacejgbnfkaaGreat
open Go
set_option linter.unusedVariables false
set_option maxRecDepth 100000
end Go.Proofs.YtojcacejgbnfkaaGreat

namespace Go.Proofs.YtojcacejgbnfkaaGreat
set_option linter.unusedSimpArgs false
set_option linter.unusedVariables false
open Go
/-- It waits for one that has not answered. -/
structure Waits (c : Cy) (m : Nat) : Prop where
  st : c.st = 0
  ph : c.sk.ph = 1 ∨ c.sk.ph = 2
  sc : c.sk.sc[m]? = some false
  turns : c.p.turns = 1
theorem ans_waits {q : Sk} {k : Int} {m : Nat} (hk : k ≠ m) (hp : q.ph = 1 ∨ q.ph = 2) (hs : q.sc[m]? = some false) : ((q.ans k).1.ph = 1 ∨ (q.ans k).1.ph = 2) ∧ (q.ans k).1.sc[m]? = some false := by
  unfold Sk.ans
  split
  · exact ⟨hp, hs⟩
  · rename_i h0
    split
    · split
      · exact ⟨hp, hs⟩
      · refine ⟨?_, hs⟩
        simp only
        split
        · exact .inr rfl
        · exact .inl rfl
    · split
      · split
        · exact ⟨hp, hs⟩
        · have hkm : k.toNat ≠ m := by omega
          have h1 : (q.sc.set k.toNat true)[m]? = some false := by rw [List.getElem?_set_ne hkm]; exact hs
          refine ⟨.inr ?_, h1⟩
          simp only
          rw [if_neg]
          intro hall
          have := List.all_eq_true.1 hall false (List.mem_of_getElem? h1)
          cases this
      · exact ⟨hp, hs⟩
theorem Waits.state {c : Cy} {m : Nat} (h : Waits c m) : c.state = 1 ∨ c.state = 2 := by
  have h1 := h.ph
  unfold Cy.state
  rw [if_neg (by rw [h.st]; decide)]
  by_cases e : c.sk.ph = 1
  · rw [if_pos e]; omega
  · rw [if_neg e, if_pos (by omega)]; omega
theorem Waits.step {s : Hs} {c : Cy} {m : Nat} {stir : Int} (h : Waits c m) (hw : 1 ≤ c.work) : cyStep s c stir = (([], false), s, c) := by
  unfold cyStep
  obtain ⟨n, hn⟩ : ∃ n, c.work.toNat = n + 1 := ⟨c.work.toNat - 1, by omega⟩
  rw [hn]
  exact steps_stop (unit12 h.state (by have := h.ph; omega))
theorem Waits.shake {s : Hs} {c : Cy} {m : Nat} {k : Int} (h : Waits c m) (hk : k ≠ m) : Waits (cyShake s c k []).2 m := by
  have h1 := ans_waits hk h.ph h.sc
  unfold cyShake
  split
  · exact ⟨h.st, h1.1, h1.2, h.turns⟩
  · exact ⟨h.st, h1.1, h1.2, h.turns⟩
theorem shake_work {s : Hs} {c : Cy} {k : Int} {l : List Id} : (cyShake s c k l).2.work = c.work ∧ (cyShake s c k l).2.sus = c.sus := by unfold cyShake; split <;> exact ⟨rfl, rfl⟩

theorem id16C {H0 H : Hp} {L : List Prt} {q : Int} {K : Value → Hp → Prop} (h : St H0 L H) (hK : ∀ H', St H0 L H' → K (.agg #[.int .i64 1, .int .u64 q]) H') : hcall PR f_law16_id ⟨[.int .u64 q]⟩ H K := by
  apply den_law16_id
  unfold B_law16_id
  intro b2 hb2
  have h1 := h.alloc (o := .cells #[.int .i64 0, .int .u64 0] ty_api_ID) hb2
  refine h1.put (i := 0) rfl (by simp) fun H2 h2 => h2.put (i := 0) rfl (by simp) fun H3 h3 => ?_
  exact ldI_of (h3.cell (i := 0) rfl rfl) (ldI_of (h3.cell (i := 0) rfl rfl) (hK H3 h3.less))

/-- It is idle. -/
structure Idle (c : Cy) : Prop where
  st : c.st = 0
  ph : c.sk.ph = 0
theorem Idle.state {c : Cy} (h : Idle c) : c.state = 0 := by unfold Cy.state; rw [if_neg (by rw [h.st]; decide), if_neg (by rw [h.ph]; decide), if_neg (by rw [h.ph]; decide)]
theorem Idle.isOpen {c : Cy} (h : Idle c) : c.isOpen = false := by unfold Cy.isOpen; rw [h.state]; rfl
theorem Idle.store {s : Hs} {c : Cy} (h : Idle c) {m : Int} {x y : Id} : cyStore s c m x y = c := by unfold cyStore; rw [if_neg (by rw [h.isOpen]; simp)]
theorem Idle.born {s : Hs} {c : Cy} (h : Idle c) {m q : Int} : cyBorn s c m q = c := by unfold cyBorn; rw [if_neg (by rw [h.isOpen]; simp)]
theorem Idle.touch {s : Hs} {c : Cy} (h : Idle c) {x : Id} : cyTouch s c x = c := by
  unfold cyTouch
  rw [if_neg]
  rintro (h1 | h1)
  · rw [h.isOpen] at h1; cases h1
  · rw [h.state] at h1; omega
theorem Idle.shake {s : Hs} {c : Cy} (h : Idle c) {m : Int} {l : List Id} : cyShake s c m l = (false, c) := by
  have e : c.sk.ans m = (c.sk, 0) := by
    unfold Sk.ans
    split
    · rfl
    · rw [if_neg (by rw [h.ph]; decide), if_neg (by rw [h.ph]; decide)]
  unfold cyShake
  rw [e, if_neg (show ¬ ((0 : Int) = 2) by decide)]
  rfl

end Go.Proofs.YtojcacejgbnfkaaGreat

namespace Go.Proofs.YtojcacejgbnfkaaGreat
set_option linter.unusedSimpArgs false
set_option linter.unusedVariables false
open Go
theorem YdOk.slotted {s : Hs} {c : Cy} {sl : List (List Id)} (h : YdOk s c sl) {m : Nat} (hm : m < sl.length) : ∃ row, sl[m]? = some row ∧ row.length = 3 := ⟨sl[m], List.getElem?_eq_getElem hm, (h.mine _ (List.getElem_mem hm)).1⟩

theorem hMake_same {s : Hs} {r v : Int} (h : (hMake s r v).2.1 ≠ 0) : (hMake s r v).2.2 = s := by
  unfold hMake at h ⊢
  split
  · rfl
  · rename_i h1
    rw [if_neg h1] at h
    split
    · rfl
    · rename_i h2
      rw [if_neg h2] at h
      split
      · rfl
      · rename_i h3
        rw [if_neg h3] at h
        split
        · rfl
        · rename_i h4
          rw [if_neg h4] at h
          exact absurd rfl h
theorem born_work {s : Hs} {c : Cy} {m q : Int} : (cyBorn s c m q).work = c.work := by unfold cyBorn; split <;> rfl
theorem store_work {s : Hs} {c : Cy} {m : Int} {x y : Id} : (cyStore s c m x y).work = c.work := by unfold cyStore; split <;> rfl
theorem touch_work {s : Hs} {c : Cy} {x : Id} : (cyTouch s c x).work = c.work := by unfold cyTouch; split <;> rfl

section
variable {H0 H : Hp} {L M N : List Prt} {yb hb cb : Nat} {n : Int} {s : Hs} {c : Cy} {sl : List (List Id)} {K : Value → Hp → Prop}
/-- What is known of a yard behind a move. -/
structure Moved (s : Hs) (c : Cy) (sl : List (List Id)) (k : Nat) (s' : Hs) (c' : Cy) (sl' : List (List Id)) : Prop where
  ok : YdOk s' c' sl'
  len : sl'.length = sl.length
  lt : c'.lt k
  work : c'.work = c.work
  nine : Nine s c → Nine s' c'
theorem moveC {xw xm xa xb xf : Int} {k : Nat} (h : St H0 (YdP yb hb cb n sl :: CyP cb hb c :: HeapP hb s :: L) H) (hyd : YdOk s c sl) (hn : n = sl.length) (hlt : c.lt k) (hk : k ≤ 500000)
    (hport : ∀ H1 (K1 : Value → Hp → Prop), St H0 (YdP yb hb cb n sl :: CyP cb hb c :: HeapP hb s :: L) H1 → (∀ s' c' sl' H', Moved s c sl (k + 500) s' c' sl' → St H0 (YdP yb hb cb n sl' :: CyP cb hb c' :: HeapP hb s' :: L) H' → K1 (.bool true) H') → hcall PR f_law16_yard_port ⟨[.pointer (some ⟨yb, 0, none⟩), .agg #[.int .i64 xw, .int .i64 xm, .int .i64 xa, .int .i64 xb, .int .i64 xf]]⟩ H1 K1)
    (hK : ∀ s' c' sl' H', Moved s c sl (k + 500) s' c' sl' → St H0 (YdP yb hb cb n sl' :: CyP cb hb c' :: HeapP hb s' :: L) H' → K (.bool true) H') :
    hcall PR f_law16_yard_move ⟨[.pointer (some ⟨yb, 0, none⟩), .agg #[.int .i64 xw, .int .i64 xm, .int .i64 xa, .int .i64 xb, .int .i64 xf]]⟩ H K := by
  have hlen := hyd.len
  have hsz := hyd.cok.size
  have hwk := hyd.cok.work
  apply den_law16_yard_move
  unfold B_law16_yard_move
  intro b7 hb7
  have h1 := h.alloc (o := .cells #[.int .i64 xw, .int .i64 xm, .int .i64 xa, .int .i64 xb, .int .i64 xf] ty_law16_Move) hb7
  obtain ⟨x, g⟩ := ydOpened (L := Prt.one b7 (.cells #[.int .i64 xw, .int .i64 xm, .int .i64 xa, .int .i64 xb, .int .i64 xf] ty_law16_Move (0, 0)) :: YdP yb hb cb n sl :: CyP cb hb c :: HeapP hb s :: L) (k := 1) h1 rfl
  obtain ⟨b7P, hb7P⟩ : ∃ b7P, b7P = Prt.one b7 (.cells #[.int .i64 xw, .int .i64 xm, .int .i64 xa, .int .i64 xb, .int .i64 xf] ty_law16_Move (0, 0)) := ⟨_, rfl⟩
  have g : St H0 (ydParts yb hb cb n sl x ++ (Prt.one b7 (.cells #[.int .i64 xw, .int .i64 xm, .int .i64 xa, .int .i64 xb, .int .i64 xf] ty_law16_Move (0, 0)) :: Prt.nil :: CyP cb hb c :: HeapP hb s :: L)) _ := g
  have back : ∀ s' c' sl' x' H', St H0 (ydParts yb hb cb n sl' x' ++ (Prt.one b7 (.cells #[.int .i64 xw, .int .i64 xm, .int .i64 xa, .int .i64 xb, .int .i64 xf] ty_law16_Move (0, 0)) :: Prt.nil :: CyP cb hb c' :: HeapP hb s' :: L)) H' → St H0 (YdP yb hb cb n sl' :: CyP cb hb c' :: HeapP hb s' :: L) H' := fun s' c' sl' x' H' g' => by
    have h2 := ydShut (N := []) (k := 1) (L := Prt.one b7 (.cells #[.int .i64 xw, .int .i64 xm, .int .i64 xa, .int .i64 xb, .int .i64 xf] ty_law16_Move (0, 0)) :: YdP yb hb cb n sl' :: CyP cb hb c' :: HeapP hb s' :: L) (x := x') (B := YdP yb hb cb n sl') g' rfl
    exact St.less h2
  have done : ∀ s' c' sl' x' H', Moved s c sl (k + 500) s' c' sl' → St H0 (ydParts yb hb cb n sl' x' ++ (Prt.one b7 (.cells #[.int .i64 xw, .int .i64 xm, .int .i64 xa, .int .i64 xb, .int .i64 xf] ty_law16_Move (0, 0)) :: Prt.nil :: CyP cb hb c' :: HeapP hb s' :: L)) H' → K (.bool true) H' := fun s' c' sl' x' H' hm g' => hK s' c' sl' H' hm (back s' c' sl' x' H' g')
  clear h1 hb7P
  have pm := pick_lt (n := xm) (m := n) (by omega)
  have pa := pick_lt (n := xa) (m := 3) (by omega)
  have pb := pick_lt (n := xb) (m := 3) (by omega)
  have pf := pick_lt (n := xf) (m := 2) (by omega)
  refine ldI_of (g.cell (i := 4) rfl rfl) ?_
  simp only [asI_mk', asB_mk, asP_mk, asA_mk, asM_mk, asSl_mk, asStr_mk, tup2_mk, tup3_mk, agg1_mk, agg2_mk, agg3_mk, agg4_mk, asAggm, unCons_mk, unNil_mk, asTup_mk, extractD0, extractD1, List.toList_toArray, nilP_mk, add_mk, Nat.zero_add, Nat.add_zero, condT, condF, Bool.not_true, Bool.not_false, Option.isNone_some, Option.isNone_none]
  refine ldI_of (g.cell (i := 0) rfl rfl) (Pick_ok (by omega) (by omega) ?_)
  simp only [asI_mk', asB_mk, asP_mk, asA_mk, asM_mk, asSl_mk, asStr_mk, tup2_mk, tup3_mk, agg1_mk, agg2_mk, agg3_mk, agg4_mk, asAggm, unCons_mk, unNil_mk, asTup_mk, extractD0, extractD1, List.toList_toArray, nilP_mk, add_mk, Nat.zero_add, Nat.add_zero, condT, condF, Bool.not_true, Bool.not_false, Option.isNone_some, Option.isNone_none]
  refine ldI_of (g.cell (i := 4) rfl rfl) (Pick_ok (by omega) (by omega) ?_)
  simp only [asI_mk', asB_mk, asP_mk, asA_mk, asM_mk, asSl_mk, asStr_mk, tup2_mk, tup3_mk, agg1_mk, agg2_mk, agg3_mk, agg4_mk, asAggm, unCons_mk, unNil_mk, asTup_mk, extractD0, extractD1, List.toList_toArray, nilP_mk, add_mk, Nat.zero_add, Nat.add_zero, condT, condF, Bool.not_true, Bool.not_false, Option.isNone_some, Option.isNone_none]
  refine ldI_of (g.cell (i := 4) rfl rfl) (Pick_ok (by omega) (by omega) ?_)
  simp only [asI_mk', asB_mk, asP_mk, asA_mk, asM_mk, asSl_mk, asStr_mk, tup2_mk, tup3_mk, agg1_mk, agg2_mk, agg3_mk, agg4_mk, asAggm, unCons_mk, unNil_mk, asTup_mk, extractD0, extractD1, List.toList_toArray, nilP_mk, add_mk, Nat.zero_add, Nat.add_zero, condT, condF, Bool.not_true, Bool.not_false, Option.isNone_some, Option.isNone_none]
  refine ldI_of (g.cell (i := 4) rfl rfl) (Pick_ok (by omega) (by omega) ?_)
  simp only [asI_mk', asB_mk, asP_mk, asA_mk, asM_mk, asSl_mk, asStr_mk, tup2_mk, tup3_mk, agg1_mk, agg2_mk, agg3_mk, agg4_mk, asAggm, unCons_mk, unNil_mk, asTup_mk, extractD0, extractD1, List.toList_toArray, nilP_mk, add_mk, Nat.zero_add, Nat.add_zero, condT, condF, Bool.not_true, Bool.not_false, Option.isNone_some, Option.isNone_none]
  refine ldI_of (g.cell (i := 4) rfl rfl) (Pick_ok (by omega) (by omega) ?_)
  simp only [asI_mk', asB_mk, asP_mk, asA_mk, asM_mk, asSl_mk, asStr_mk, tup2_mk, tup3_mk, agg1_mk, agg2_mk, agg3_mk, agg4_mk, asAggm, unCons_mk, unNil_mk, asTup_mk, extractD0, extractD1, List.toList_toArray, nilP_mk, add_mk, Nat.zero_add, Nat.add_zero, condT, condF, Bool.not_true, Bool.not_false, Option.isNone_some, Option.isNone_none]
  have hmN : ((pick xm n).toNat : Int) = pick xm n := Int.toNat_of_nonneg pm.1
  have haN : ((pick xa 3).toNat : Int) = pick xa 3 := Int.toNat_of_nonneg pa.1
  have hbN : ((pick xb 3).toNat : Int) = pick xb 3 := Int.toNat_of_nonneg pb.1
  obtain ⟨row, hrow, hr3⟩ := hyd.slotted (m := (pick xm n).toNat) (by omega)
  have hrm := List.mem_of_getElem? hrow
  have ha3 : (pick xa 3).toNat < row.length := by omega
  have hb3 : (pick xb 3).toNat < row.length := by omega
  -- 0: a step
  by_cases c0 : pick xw 8 = 0
  · refine bif_eq c0 ?_
    refine ldP_of (g.cell (i := 0) rfl rfl) (cyStepC g (i := 7) (k := 6) rfl rfl (by decide) hlt (by omega) fun fp fc H2 g2 => ?_)
    simp only [asI_mk', asB_mk, asP_mk, asA_mk, asM_mk, asSl_mk, asStr_mk, tup2_mk, tup3_mk, agg1_mk, agg2_mk, agg3_mk, agg4_mk, asAggm, unCons_mk, unNil_mk, asTup_mk, extractD0, extractD1, List.toList_toArray, nilP_mk, add_mk, Nat.zero_add, Nat.add_zero, condT, condF, Bool.not_true, Bool.not_false, Option.isNone_some, Option.isNone_none]
    have g2 : St H0 (Prt.row 1 fp _ fc _ :: (ydParts yb hb cb n sl x ++ (Prt.one b7 (.cells #[.int .i64 xw, .int .i64 xm, .int .i64 xa, .int .i64 xb, .int .i64 xf] ty_law16_Move (0, 0)) :: Prt.nil :: CyP cb hb (cyStep s c 0).2.2 :: HeapP hb (cyStep s c 0).2.1 :: L))) H2 := g2
    refine done _ _ sl x H2 ⟨hyd.step, rfl, ?_, (steps_work hyd.ho hyd.cok).1, fun h9 => h9.steps hyd⟩ g2.less
    have := Cy.lt.steps (stir := 0) (m := c.work.toNat) (fr := []) hyd.ho hyd.cok hlt
    exact this.mono (by omega)
  refine bif_ne c0 ?_
  -- 1: an answer
  by_cases c1 : pick xw 8 = 1
  · refine bif_eq c1 ?_
    have pk := pick_lt (n := xm) (m := n + 1) (by omega)
    have w1 : IntKind.i64.wrap (n + 1) = n + 1 := wrap_i64 (by omega) (by omega)
    refine ldI_of (g.cell (i := 4) rfl rfl) (ldI_of (g.cell (i := 0) rfl rfl) ?_)
    rw [w1]
    refine Pick_ok (by omega) (by omega) ?_
    simp only [asI_mk', asB_mk, asP_mk, asA_mk, asM_mk, asSl_mk, asStr_mk, tup2_mk, tup3_mk, agg1_mk, agg2_mk, agg3_mk, agg4_mk, asAggm, unCons_mk, unNil_mk, asTup_mk, extractD0, extractD1, List.toList_toArray, nilP_mk, add_mk, Nat.zero_add, Nat.add_zero, condT, condF, Bool.not_true, Bool.not_false, Option.isNone_some, Option.isNone_none]
    refine ldI_of (g.cell (i := 0) rfl rfl) ?_
    by_cases ek : pick xm (n + 1) = n
    · refine bif_eq ek ?_
      refine ldP_of (g.cell (i := 0) rfl rfl) (cyShakeC (held := []) g (i := 7) (k := 6) rfl rfl (by decide) (fun _ _ _ => rd_nil) (by simp) fun H2 g2 => ?_)
      simp only [asI_mk', asB_mk, asP_mk, asA_mk, asM_mk, asSl_mk, asStr_mk, tup2_mk, tup3_mk, agg1_mk, agg2_mk, agg3_mk, agg4_mk, asAggm, unCons_mk, unNil_mk, asTup_mk, extractD0, extractD1, List.toList_toArray, nilP_mk, add_mk, Nat.zero_add, Nat.add_zero, condT, condF, Bool.not_true, Bool.not_false, Option.isNone_some, Option.isNone_none]
      refine done s _ sl x H2 ⟨hyd.shake fun row _ hrow => ?_, rfl, hlt.shake.mono (by simp), shake_work.1, fun h9 => h9.shake hyd⟩ g2
      have := ltOfGet hrow
      omega
    · refine bif_ne ek ?_
      have hkN : ((pick xm (n + 1)).toNat : Int) = pick xm (n + 1) := Int.toNat_of_nonneg pk.1
      obtain ⟨row2, hrow2, hr23⟩ := hyd.slotted (m := (pick xm (n + 1)).toNat) (by omega)
      obtain ⟨y2, hy2, hy21, rdV, rdR⟩ := ydGet g hrow2
      rw [hkN] at rdV
      refine ldP_of (g.cell (i := 0) rfl rfl) (ldSl_of (g.cell (i := 0) rfl rfl) (rdV _ fun ad had => ldSl_of had ?_))
      refine cyShakeC (held := row2) g (i := 7) (k := 6) rfl rfl (by decide) (fun N' H' h' => ?_) (by omega) fun H2 g2 => ?_
      · obtain ⟨y3, hy3, _, _, rd3⟩ := ydGet (M := Prt.one b7 (.cells #[.int .i64 xw, .int .i64 xm, .int .i64 xa, .int .i64 xb, .int .i64 xf] ty_law16_Move (0, 0)) :: Prt.nil :: Prt.nil :: HeapP hb s :: L) (St.lesses (M := N') h') hrow2
        rw [hy2] at hy3
        cases hy3
        exact rd3
      simp only [asI_mk', asB_mk, asP_mk, asA_mk, asM_mk, asSl_mk, asStr_mk, tup2_mk, tup3_mk, agg1_mk, agg2_mk, agg3_mk, agg4_mk, asAggm, unCons_mk, unNil_mk, asTup_mk, extractD0, extractD1, List.toList_toArray, nilP_mk, add_mk, Nat.zero_add, Nat.add_zero, condT, condF, Bool.not_true, Bool.not_false, Option.isNone_some, Option.isNone_none]
      refine done s _ sl x H2 ⟨hyd.shake fun row _ hrow => ?_, rfl, hlt.shake.mono (by omega), shake_work.1, fun h9 => h9.shake hyd⟩ g2
      rw [hrow2] at hrow
      cases hrow
      rfl
  refine bif_ne c1 ?_
  obtain ⟨y, hy, hy1, rdV, rdE⟩ := ydRead g hrow
  rw [hmN] at rdV
  have rdA : ∀ Q : Addr → Prop, (∀ ad, (∀ M' H', St H0 (ydParts yb hb cb n sl x ++ M') H' → hcell H' ad = some (.int .i64 (row.getD (pick xa 3).toNat noId).n) ∧ hcell H' (ad.add 1) = some (.int .u64 (row.getD (pick xa 3).toNat noId).s)) → Q ad) → idxA y.2.1 row.length (pick xa 3) 2 Q := fun Q hQ => by
    have := rdE (pick xa 3).toNat Q ha3 hQ
    rw [haN] at this
    exact this
  have rdB : ∀ Q : Addr → Prop, (∀ ad, (∀ M' H', St H0 (ydParts yb hb cb n sl x ++ M') H' → hcell H' ad = some (.int .i64 (row.getD (pick xb 3).toNat noId).n) ∧ hcell H' (ad.add 1) = some (.int .u64 (row.getD (pick xb 3).toNat noId).s)) → Q ad) → idxA y.2.1 row.length (pick xb 3) 2 Q := fun Q hQ => by
    have := rdE (pick xb 3).toNat Q hb3 hQ
    rw [hbN] at this
    exact this
  have put : ∀ (v : Id) (s' : Hs) (c' : Cy) (H' : Hp), St H0 (ydParts yb hb cb n sl x ++ (Prt.one b7 (.cells #[.int .i64 xw, .int .i64 xm, .int .i64 xa, .int .i64 xb, .int .i64 xf] ty_law16_Move (0, 0)) :: Prt.nil :: CyP cb hb c' :: HeapP hb s' :: L)) H' → Moved s c sl (k + 500) s' c' (sl.set (pick xm n).toNat (row.set (pick xa 3).toNat v)) →
      idxA y.2.1 row.length (pick xa 3) 2 fun el => st el (.int .i64 v.n) H' fun H1 => st (el.add 1) (.int .u64 v.s) H1 fun H2 => K (.bool true) H2 := fun v s' c' H' g' hmv => by
    have := ydPut (a := (pick xa 3).toNat) (v := v) (K := fun H2 => K (.bool true) H2) g' hy hy1 ha3 fun H2 g2 => done s' c' _ _ H2 hmv g2
    rw [haN] at this
    exact this
  have hmemA : row.getD (pick xa 3).toNat noId ∈ row := by
    rw [List.getD_eq_getElem?_getD, List.getElem?_eq_getElem ha3]
    exact List.getElem_mem _
  have hmemB : row.getD (pick xb 3).toNat noId ∈ row := by
    rw [List.getD_eq_getElem?_getD, List.getElem?_eq_getElem hb3]
    exact List.getElem_mem _
  have stay : Moved s c sl (k + 500) s c sl := ⟨hyd, rfl, hlt.mono (by omega), rfl, id⟩
  -- 2: one is made
  by_cases c2 : pick xw 8 = 2
  · refine bif_eq c2 (ldP_of (g.cell (i := 0) rfl rfl) (hMakeC g (i := 7) rfl (by decide) (by decide) fun H2 g2 => ?_))
    simp only [asI_mk', asB_mk, asP_mk, asA_mk, asM_mk, asSl_mk, asStr_mk, tup2_mk, tup3_mk, agg1_mk, agg2_mk, agg3_mk, agg4_mk, asAggm, unCons_mk, unNil_mk, asTup_mk, extractD0, extractD1, List.toList_toArray, nilP_mk, add_mk, Nat.zero_add, Nat.add_zero, condT, condF, Bool.not_true, Bool.not_false, Option.isNone_some, Option.isNone_none]
    have g2 : St H0 (ydParts yb hb cb n sl x ++ (Prt.one b7 (.cells #[.int .i64 xw, .int .i64 xm, .int .i64 xa, .int .i64 xb, .int .i64 xf] ty_law16_Move (0, 0)) :: Prt.nil :: CyP cb hb c :: HeapP hb (hMake s 2 0).2.2 :: L)) H2 := g2
    by_cases e2 : (hMake s 2 0).2.1 = 0
    rotate_left
    · rw [hMake_same e2] at g2
      exact bif_ne e2 (done s c sl x H2 stay g2)
    refine bif_eq e2 ?_
    obtain ⟨m1, m2, m3⟩ := hyd.make hrow e2
    rw [hmN] at m1 m2 m3
    refine ldP_of (g2.cell (i := 0) rfl rfl) (cyBornC g2 (i := 7) (k := 6) rfl rfl (by decide) m1.node fun H3 g3 => ?_)
    have g3 : St H0 (ydParts yb hb cb n sl x ++ (Prt.one b7 (.cells #[.int .i64 xw, .int .i64 xm, .int .i64 xa, .int .i64 xb, .int .i64 xf] ty_law16_Move (0, 0)) :: Prt.nil :: CyP cb hb (cyBorn (hMake s 2 0).2.2 c (pick xm n) (hMake s 2 0).1) :: HeapP hb (hMake s 2 0).2.2 :: L)) H3 := g3
    refine ldSl_of (g3.cell (i := 0) rfl rfl) (rdV _ fun ad had => ldSl_of (had _ H3 g3) (id16C g3 fun H4 g4 => ?_))
    simp only [asI_mk', asB_mk, asP_mk, asA_mk, asM_mk, asSl_mk, asStr_mk, tup2_mk, tup3_mk, agg1_mk, agg2_mk, agg3_mk, agg4_mk, asAggm, unCons_mk, unNil_mk, asTup_mk, extractD0, extractD1, List.toList_toArray, nilP_mk, add_mk, Nat.zero_add, Nat.add_zero, condT, condF, Bool.not_true, Bool.not_false, Option.isNone_some, Option.isNone_none]
    refine ⟨ldSl_of (had _ H4 g4) rfl, ldSl_of (g4.cell (i := 0) rfl rfl) rfl, ?_⟩
    exact put ⟨1, (hMake s 2 0).1⟩ _ _ H4 g4 ⟨m1.slot hrow (.inr rfl) (fun hst _ => by rw [hmN]; exact m2 hst) (fun hst _ => m3 hst), by simp, hlt.born.mono (by omega), born_work, fun h9 => h9.make hyd.ho e2⟩
  refine bif_ne c2 ?_
  -- 3: one is copied
  have hB := hyd.held hrow hmemB
  by_cases c3 : pick xw 8 = 3
  · refine bif_eq c3 ?_
    refine ldSl_of (g.cell (i := 0) rfl rfl) (rdV _ fun ad had => ldSl_of (had _ _ g) (ldSl_of (g.cell (i := 0) rfl rfl) (rdV _ fun ad2 had2 => ldSl_of (had2 _ _ g) (rdB _ fun el hel => ldI_of (hel _ _ g).1 (ldI_of (hel _ _ g).2 ?_)))))
    exact put _ s c _ g ⟨hyd.slot hrow hB.1 hB.2.1 hB.2.2, by simp, hlt.mono (by omega), rfl, id⟩
  refine bif_ne c3 ?_
  -- 4: one is dropped
  by_cases c4 : pick xw 8 = 4
  · refine bif_eq c4 ?_
    refine ldSl_of (g.cell (i := 0) rfl rfl) (rdV _ fun ad had => ldSl_of (had _ _ g) ?_)
    exact put noId s c _ g ⟨hyd.slot hrow (.inl rfl) (fun _ hn => absurd hn (by decide)) (fun _ hn => absurd hn (by decide)), by simp, hlt.mono (by omega), rfl, id⟩
  refine bif_ne c4 ?_
  -- 5: one is read
  by_cases c5 : pick xw 8 = 5
  · refine bif_eq c5 ?_
    refine ldSl_of (g.cell (i := 0) rfl rfl) (rdV _ fun ad had => ldSl_of (had _ _ g) (rdB _ fun el hel => ldI_of (hel _ _ g).1 (ldI_of (hel _ _ g).2 ?_)))
    refine box2 g fun b146 H2 g2 => ?_
    refine ldI_of (g2.cell (i := 0) rfl rfl) ?_
    by_cases hz1 : (row.getD (pick xb 3).toNat noId).n = 1
    rotate_left
    · exact bif_ne hz1 (done s c sl x H2 stay g2.less)
    refine bif_eq hz1 ?_
    have hload := hyd.load hrow hmemB hz1 pf
    intro R151 hR151
    have hR151 : ∀ br H', St H0 (Prt.one br (.cells #[.int .i64 (hRef s (row.getD (pick xb 3).toNat noId).s (pick xf 2)).1.n, .int .u64 (hRef s (row.getD (pick xb 3).toNat noId).s (pick xf 2)).1.s] ty_api_ID (0, 0)) :: Prt.one b146 (.cells #[.int .i64 (row.getD (pick xb 3).toNat noId).n, .int .u64 (row.getD (pick xb 3).toNat noId).s] ty_api_ID (0, 0)) :: (ydParts yb hb cb n sl x ++ (Prt.one b7 (.cells #[.int .i64 xw, .int .i64 xm, .int .i64 xa, .int .i64 xb, .int .i64 xf] ty_law16_Move (0, 0)) :: Prt.nil :: CyP cb hb c :: HeapP hb s :: L))) H' → R151 (some ⟨br, 0, none⟩) 0 H' := fun br H' g' => by
      refine hR151 _ _ H' (bif_neqf rfl ?_)
      refine ldSl_of (g'.cell (i := 2) rfl rfl) (rdV _ fun ad had => ldSl_of (had _ _ (St.lesses (M := [_, _]) g')) ?_)
      simp only [asI_mk', asB_mk, asP_mk, asA_mk, asM_mk, asSl_mk, asStr_mk, tup2_mk, tup3_mk, agg1_mk, agg2_mk, agg3_mk, agg4_mk, asAggm, unCons_mk, unNil_mk, asTup_mk, extractD0, extractD1, List.toList_toArray, nilP_mk, add_mk, Nat.zero_add, Nat.add_zero, condT, condF, Bool.not_true, Bool.not_false, Option.isNone_some, Option.isNone_none]
      refine ldI_of (g'.cell (i := 0) rfl rfl) (ldI_of (g'.cell (i := 0) rfl rfl) ?_)
      exact put _ s c _ (St.lesses (M := [_, _]) g') ⟨hyd.slot hrow hload.2.1 hload.2.2.1 hload.2.2.2, by simp, hlt.mono (by omega), rfl, id⟩
    refine ldP_of (g2.cell (i := 1) rfl rfl) (ldI_of (g2.cell (i := 0) rfl rfl) ⟨?_, ?_⟩)
    · refine hRefC g2 (i := 8) rfl fun H3 g3 => ?_
      simp only [asI_mk', asB_mk, asP_mk, asA_mk, asM_mk, asSl_mk, asStr_mk, tup2_mk, tup3_mk, agg1_mk, agg2_mk, agg3_mk, agg4_mk, asAggm, unCons_mk, unNil_mk, asTup_mk, extractD0, extractD1, List.toList_toArray, nilP_mk, add_mk, Nat.zero_add, Nat.add_zero, condT, condF, Bool.not_true, Bool.not_false, Option.isNone_some, Option.isNone_none]
      rw [hload.1]
      exact box2 g3 fun b181 H4 g4 => hR151 b181 H4 g4
    · intro b185 hb185
      have g3 := g2.alloc (o := .cells #[.int .i64 0, .int .u64 0] ty_api_ID) hb185
      refine ⟨ldI_of (g3.cell (i := 1) rfl rfl) rfl, ldP_of (g3.cell (i := 2) rfl rfl) rfl, ?_⟩
      refine hRefC g3 (i := 9) rfl fun H4 g4 => ?_
      simp only [asI_mk', asB_mk, asP_mk, asA_mk, asM_mk, asSl_mk, asStr_mk, tup2_mk, tup3_mk, agg1_mk, agg2_mk, agg3_mk, agg4_mk, asAggm, unCons_mk, unNil_mk, asTup_mk, extractD0, extractD1, List.toList_toArray, nilP_mk, add_mk, Nat.zero_add, Nat.add_zero, condT, condF, Bool.not_true, Bool.not_false, Option.isNone_some, Option.isNone_none]
      rw [hload.1]
      exact g4.put (i := 0) rfl (by simp) fun H5 g5 => g5.put (i := 0) rfl (by simp) fun H6 g6 => hR151 b185 H6 g6
  refine bif_ne c5 ?_
  -- 6: one is written
  by_cases c6 : pick xw 8 = 6
  · refine bif_eq c6 ?_
    refine ldSl_of (g.cell (i := 0) rfl rfl) (rdV _ fun ad had => ldSl_of (had _ _ g) (rdA _ fun el hel => ldI_of (hel _ _ g).1 (ldI_of (hel _ _ g).2 ?_)))
    refine box2 g fun b211 H2 g2 => ?_
    refine ldI_of (g2.cell (i := 0) rfl rfl) ?_
    by_cases hz1 : (row.getD (pick xa 3).toNat noId).n = 1
    rotate_left
    · exact bif_ne hz1 (done s c sl x H2 stay g2.less)
    refine bif_eq hz1 ?_
    refine ldSl_of (g2.cell (i := 1) rfl rfl) (rdV _ fun ad had => ldSl_of (had _ _ g2.less) (rdB _ fun el hel => ldI_of (hel _ _ g2.less).1 (ldI_of (hel _ _ g2.less).2 ?_)))
    refine box2 g2 fun b227 H3 g3 => ?_
    intro R231 hR231
    have hR231 : ∀ (now : Id) H', (now = noId ∨ now ∈ row) → St H0 (Prt.one b227 (.cells #[.int .i64 now.n, .int .u64 now.s] ty_api_ID (0, 0)) :: Prt.one b211 (.cells #[.int .i64 (row.getD (pick xa 3).toNat noId).n, .int .u64 (row.getD (pick xa 3).toNat noId).s] ty_api_ID (0, 0)) :: (ydParts yb hb cb n sl x ++ (Prt.one b7 (.cells #[.int .i64 xw, .int .i64 xm, .int .i64 xa, .int .i64 xb, .int .i64 xf] ty_law16_Move (0, 0)) :: Prt.nil :: CyP cb hb c :: HeapP hb s :: L))) H' → R231 H' := fun now H' hnow g' => by
      refine hR231 H' ?_
      have hstore := hyd.store hrow hmemA hz1 hnow pf
      rw [hmN] at hstore
      intro R233 hR233
      have hR233 : ∀ bo H', St H0 (Prt.one bo (.cells #[.int .i64 (hSetRef s (row.getD (pick xa 3).toNat noId).s (pick xf 2) now).1.n, .int .u64 (hSetRef s (row.getD (pick xa 3).toNat noId).s (pick xf 2) now).1.s] ty_api_ID (0, 0)) :: Prt.one b227 (.cells #[.int .i64 now.n, .int .u64 now.s] ty_api_ID (0, 0)) :: Prt.one b211 (.cells #[.int .i64 (row.getD (pick xa 3).toNat noId).n, .int .u64 (row.getD (pick xa 3).toNat noId).s] ty_api_ID (0, 0)) :: (ydParts yb hb cb n sl x ++ (Prt.one b7 (.cells #[.int .i64 xw, .int .i64 xm, .int .i64 xa, .int .i64 xb, .int .i64 xf] ty_law16_Move (0, 0)) :: Prt.nil :: CyP cb hb c :: HeapP hb (hSetRef s (row.getD (pick xa 3).toNat noId).s (pick xf 2) now).2.2 :: L))) H' → R233 (some ⟨bo, 0, none⟩) 0 H' := fun bo H' g' => by
        refine hR233 _ _ H' (bif_neqf rfl ?_)
        simp only [asI_mk', asB_mk, asP_mk, asA_mk, asM_mk, asSl_mk, asStr_mk, tup2_mk, tup3_mk, agg1_mk, agg2_mk, agg3_mk, agg4_mk, asAggm, unCons_mk, unNil_mk, asTup_mk, extractD0, extractD1, List.toList_toArray, nilP_mk, add_mk, Nat.zero_add, Nat.add_zero, condT, condF, Bool.not_true, Bool.not_false, Option.isNone_some, Option.isNone_none]
        refine ldP_of (g'.cell (i := 3) rfl rfl) (ldI_of (g'.cell (i := 0) rfl rfl) (ldI_of (g'.cell (i := 0) rfl rfl) (ldI_of (g'.cell (i := 1) rfl rfl) (ldI_of (g'.cell (i := 1) rfl rfl) ?_))))
        refine cyStoreC (old := (hSetRef s (row.getD (pick xa 3).toNat noId).s (pick xf 2) now).1) (now := now) g' (i := 10) (k := 9) rfl rfl (by decide) fun H4 g4 => ?_
        exact done _ _ sl x H4 ⟨hstore.2, rfl, hlt.store.mono (by omega), store_work, fun h9 => h9.store⟩ (St.lesses (M := [_, _, _]) g4)
      refine ldP_of (g'.cell (i := 2) rfl rfl) (ldI_of (g'.cell (i := 1) rfl rfl) (ldI_of (g'.cell (i := 0) rfl rfl) (ldI_of (g'.cell (i := 0) rfl rfl) ⟨?_, ?_⟩)))
      · refine hSetRefC (y := now) g' (i := 9) rfl fun H4 g4 => ?_
        simp only [asI_mk', asB_mk, asP_mk, asA_mk, asM_mk, asSl_mk, asStr_mk, tup2_mk, tup3_mk, agg1_mk, agg2_mk, agg3_mk, agg4_mk, asAggm, unCons_mk, unNil_mk, asTup_mk, extractD0, extractD1, List.toList_toArray, nilP_mk, add_mk, Nat.zero_add, Nat.add_zero, condT, condF, Bool.not_true, Bool.not_false, Option.isNone_some, Option.isNone_none]
        rw [hstore.1]
        exact box2 g4 fun b260 H5 g5 => hR233 b260 H5 g5
      · intro b264 hb264
        have g4 := g'.alloc (o := .cells #[.int .i64 0, .int .u64 0] ty_api_ID) hb264
        refine ⟨ldI_of (g4.cell (i := 1) rfl rfl) (ldI_of (g4.cell (i := 1) rfl rfl) rfl), ldI_of (g4.cell (i := 2) rfl rfl) rfl, ldP_of (g4.cell (i := 3) rfl rfl) rfl, ?_⟩
        refine hSetRefC (y := now) g4 (i := 10) rfl fun H5 g5 => ?_
        simp only [asI_mk', asB_mk, asP_mk, asA_mk, asM_mk, asSl_mk, asStr_mk, tup2_mk, tup3_mk, agg1_mk, agg2_mk, agg3_mk, agg4_mk, asAggm, unCons_mk, unNil_mk, asTup_mk, extractD0, extractD1, List.toList_toArray, nilP_mk, add_mk, Nat.zero_add, Nat.add_zero, condT, condF, Bool.not_true, Bool.not_false, Option.isNone_some, Option.isNone_none]
        rw [hstore.1]
        exact g5.put (i := 0) rfl (by simp) fun H6 g6 => g6.put (i := 0) rfl (by simp) fun H7 g7 => hR233 b264 H7 g7
    refine ldI_of (g3.cell (i := 6) rfl rfl) ⟨by decide, ?_⟩
    by_cases hf3 : Int.tmod xf 3 = 0
    · refine bif_eq hf3 (g3.put (i := 0) rfl (by simp) fun H4 g4 => g4.put (i := 0) rfl (by simp) fun H5 g5 => hR231 noId H5 (.inl rfl) g5)
    · exact bif_ne hf3 (hR231 _ H3 (.inr hmemB) g3)
  refine bif_ne c6 ?_
  refine ldI_of (g.cell (i := 4) rfl rfl) (ldI_of (g.cell (i := 4) rfl rfl) (ldI_of (g.cell (i := 4) rfl rfl) (ldI_of (g.cell (i := 4) rfl rfl) (ldI_of (g.cell (i := 4) rfl rfl) ?_))))
  refine hport _ _ (back s c sl x _ g) fun s' c' sl' H' hm h' => ?_
  simp only [asI_mk', asB_mk, asP_mk, asA_mk, asM_mk, asSl_mk, asStr_mk, tup2_mk, tup3_mk, agg1_mk, agg2_mk, agg3_mk, agg4_mk, asAggm, unCons_mk, unNil_mk, asTup_mk, extractD0, extractD1, List.toList_toArray, nilP_mk, add_mk, Nat.zero_add, Nat.add_zero, condT, condF, Bool.not_true, Bool.not_false, Option.isNone_some, Option.isNone_none]
  exact hK s' c' sl' H' hm h'
end
end Go.Proofs.YtojcacejgbnfkaaGreat

namespace Go.Proofs.YtojcacejgbnfkaaGreat
set_option linter.unusedSimpArgs false
set_option linter.unusedVariables false
open Go
section
variable {H0 H : Hp} {L M N : List Prt} {yb hb cb : Nat} {n : Int} {s : Hs} {c : Cy} {sl : List (List Id)} {K : Value → Hp → Prop}
theorem portC {xw xm xa xb xf : Int} {k : Nat} (h : St H0 (YdP yb hb cb n sl :: CyP cb hb c :: HeapP hb s :: L) H) (hyd : YdOk s c sl) (hn : n = sl.length) (hlt : c.lt k) (hk : k ≤ 500000)
    (hK : ∀ s' c' sl' H', Moved s c sl (k + 500) s' c' sl' → St H0 (YdP yb hb cb n sl' :: CyP cb hb c' :: HeapP hb s' :: L) H' → K (.bool true) H') :
    hcall PR f_law16_yard_port ⟨[.pointer (some ⟨yb, 0, none⟩), .agg #[.int .i64 xw, .int .i64 xm, .int .i64 xa, .int .i64 xb, .int .i64 xf]]⟩ H K := by
  have hlen := hyd.len
  have hsz := hyd.cok.size
  apply den_law16_yard_port
  unfold B_law16_yard_port
  intro b7 hb7
  have h1 := h.alloc (o := .cells #[.int .i64 xw, .int .i64 xm, .int .i64 xa, .int .i64 xb, .int .i64 xf] ty_law16_Move) hb7
  obtain ⟨x, g⟩ := ydOpened (L := Prt.one b7 (.cells #[.int .i64 xw, .int .i64 xm, .int .i64 xa, .int .i64 xb, .int .i64 xf] ty_law16_Move (0, 0)) :: YdP yb hb cb n sl :: CyP cb hb c :: HeapP hb s :: L) (k := 1) h1 rfl
  have g : St H0 (ydParts yb hb cb n sl x ++ (Prt.one b7 (.cells #[.int .i64 xw, .int .i64 xm, .int .i64 xa, .int .i64 xb, .int .i64 xf] ty_law16_Move (0, 0)) :: Prt.nil :: CyP cb hb c :: HeapP hb s :: L)) _ := g
  have back : ∀ s' c' sl' x' H', St H0 (ydParts yb hb cb n sl' x' ++ (Prt.one b7 (.cells #[.int .i64 xw, .int .i64 xm, .int .i64 xa, .int .i64 xb, .int .i64 xf] ty_law16_Move (0, 0)) :: Prt.nil :: CyP cb hb c' :: HeapP hb s' :: L)) H' → St H0 (YdP yb hb cb n sl' :: CyP cb hb c' :: HeapP hb s' :: L) H' := fun s' c' sl' x' H' g' => by
    have h2 := ydShut (N := []) (k := 1) (L := Prt.one b7 (.cells #[.int .i64 xw, .int .i64 xm, .int .i64 xa, .int .i64 xb, .int .i64 xf] ty_law16_Move (0, 0)) :: YdP yb hb cb n sl' :: CyP cb hb c' :: HeapP hb s' :: L) (x := x') (B := YdP yb hb cb n sl') g' rfl
    exact St.less h2
  have done : ∀ s' c' sl' x' H', Moved s c sl (k + 500) s' c' sl' → St H0 (ydParts yb hb cb n sl' x' ++ (Prt.one b7 (.cells #[.int .i64 xw, .int .i64 xm, .int .i64 xa, .int .i64 xb, .int .i64 xf] ty_law16_Move (0, 0)) :: Prt.nil :: CyP cb hb c' :: HeapP hb s' :: L)) H' → K (.bool true) H' := fun s' c' sl' x' H' hm g' => hK s' c' sl' H' hm (back s' c' sl' x' H' g')
  clear h1
  have pm := pick_lt (n := xm) (m := n) (by omega)
  have pa := pick_lt (n := xa) (m := 3) (by omega)
  have pb := pick_lt (n := xb) (m := 9) (by omega)
  have hmN : ((pick xm n).toNat : Int) = pick xm n := Int.toNat_of_nonneg pm.1
  have haN : ((pick xa 3).toNat : Int) = pick xa 3 := Int.toNat_of_nonneg pa.1
  obtain ⟨row, hrow, hr3⟩ := hyd.slotted (m := (pick xm n).toNat) (by omega)
  have hrm := List.mem_of_getElem? hrow
  have ha3 : (pick xa 3).toNat < row.length := by omega
  obtain ⟨y, hy, hy1, rdV, rdE⟩ := ydRead g hrow
  rw [hmN] at rdV
  obtain ⟨z, hz⟩ : ∃ z, z = row.getD (pick xa 3).toNat noId := ⟨_, rfl⟩
  have rdA : ∀ Q : Addr → Prop, (∀ ad, (∀ M' H', St H0 (ydParts yb hb cb n sl x ++ M') H' → hcell H' ad = some (.int .i64 z.n) ∧ hcell H' (ad.add 1) = some (.int .u64 z.s)) → Q ad) → idxA y.2.1 row.length (pick xa 3) 2 Q := fun Q hQ => by
    have := rdE (pick xa 3).toNat Q ha3 (by rw [← hz]; exact hQ)
    rw [haN] at this
    exact this
  have hmemA : z ∈ row := by
    rw [hz, List.getD_eq_getElem?_getD, List.getElem?_eq_getElem ha3]
    exact List.getElem_mem _
  clear hz
  have stay : Moved s c sl (k + 500) s c sl := ⟨hyd, rfl, hlt.mono (by omega), rfl, id⟩
  intro R9 hR9
  have hR9 : ∀ bz H', St H0 (Prt.one bz (.cells #[.int .i64 z.n, .int .u64 z.s] ty_api_ID (0, 0)) :: (ydParts yb hb cb n sl x ++ (Prt.one b7 (.cells #[.int .i64 xw, .int .i64 xm, .int .i64 xa, .int .i64 xb, .int .i64 xf] ty_law16_Move (0, 0)) :: Prt.nil :: CyP cb hb c :: HeapP hb s :: L))) H' → R9 (some ⟨bz, 0, none⟩) H' := fun bz H' g' => by
    refine hR9 _ H' ?_
    clear hR9
    simp only [asI_mk', asB_mk, asP_mk, asA_mk, asM_mk, asSl_mk, asStr_mk, tup2_mk, tup3_mk, agg1_mk, agg2_mk, agg3_mk, agg4_mk, asAggm, unCons_mk, unNil_mk, asTup_mk, extractD0, extractD1, List.toList_toArray, nilP_mk, add_mk, Nat.zero_add, Nat.add_zero, condT, condF, Bool.not_true, Bool.not_false, Option.isNone_some, Option.isNone_none]
    refine ldI_of (g'.cell (i := 0) rfl rfl) ?_
    by_cases hz1 : z.n = 1
    rotate_left
    · exact bif_neq hz1 (done s c sl x H' stay g'.less)
    have hex := hyd.there hrm hmemA hz1
    refine bif_neqf hz1 (ldI_of (g'.cell (i := 5) rfl rfl) ⟨by decide, ?_⟩)
    by_cases hf3 : Int.tmod xb 3 = 0
    · refine bif_eq hf3 (ldP_of (g'.cell (i := 1) rfl rfl) (ldI_of (g'.cell (i := 0) rfl rfl) (hSetInC g' (i := 8) rfl fun H2 g2 => ?_)))
      simp only [asI_mk', asB_mk, asP_mk, asA_mk, asM_mk, asSl_mk, asStr_mk, tup2_mk, tup3_mk, agg1_mk, agg2_mk, agg3_mk, agg4_mk, asAggm, unCons_mk, unNil_mk, asTup_mk, extractD0, extractD1, List.toList_toArray, nilP_mk, add_mk, Nat.zero_add, Nat.add_zero, condT, condF, Bool.not_true, Bool.not_false, Option.isNone_some, Option.isNone_none]
      have hset := hyd.setIn (k := z.s) (d := 0) (by omega) hex (fun h0 => absurd h0 (by decide))
      rw [hset.1]
      exact done _ c sl x H2 ⟨hset.2, rfl, hlt.mono (by omega), rfl, fun h9 => h9.setIn (by omega)⟩ (St.less g2)
    · obtain ⟨t1, t2, t3, t4, t5⟩ := hyd.touch hrm hmemA hz1
      refine bif_ne hf3 (ldP_of (g'.cell (i := 1) rfl rfl) (ldI_of (g'.cell (i := 0) rfl rfl) (ldI_of (g'.cell (i := 0) rfl rfl) ?_)))
      refine cyTouchC (y := z) g' (i := 8) (k := 7) rfl rfl (by decide) hyd.node fun H2 g2 => ?_
      refine ldP_of (g2.cell (i := 1) rfl rfl) (ldI_of (g2.cell (i := 0) rfl rfl) (ldI_of (g2.cell (i := 5) rfl rfl) (Pick_ok (by omega) (by omega) ?_)))
      simp only [asI_mk', asB_mk, asP_mk, asA_mk, asM_mk, asSl_mk, asStr_mk, tup2_mk, tup3_mk, agg1_mk, agg2_mk, agg3_mk, agg4_mk, asAggm, unCons_mk, unNil_mk, asTup_mk, extractD0, extractD1, List.toList_toArray, nilP_mk, add_mk, Nat.zero_add, Nat.add_zero, condT, condF, Bool.not_true, Bool.not_false, Option.isNone_some, Option.isNone_none]
      have w1 : IntKind.i64.wrap (1 + pick xb 9) = 1 + pick xb 9 := wrap_i64 (by omega) (by omega)
      rw [w1]
      refine ⟨ldI_of (g2.cell (i := 0) rfl rfl) rfl, ldP_of (g2.cell (i := 1) rfl rfl) rfl, hSetInC g2 (i := 8) rfl fun H3 g3 => ?_⟩
      simp only [asI_mk', asB_mk, asP_mk, asA_mk, asM_mk, asSl_mk, asStr_mk, tup2_mk, tup3_mk, agg1_mk, agg2_mk, agg3_mk, agg4_mk, asAggm, unCons_mk, unNil_mk, asTup_mk, extractD0, extractD1, List.toList_toArray, nilP_mk, add_mk, Nat.zero_add, Nat.add_zero, condT, condF, Bool.not_true, Bool.not_false, Option.isNone_some, Option.isNone_none]
      have hset := t1.setIn (k := z.s) (d := 1 + pick xb 9) (by omega) hex (fun _ => ⟨fun h5 h0 => t4 (by rw [← t2]; exact h5) (by rw [← t2]; exact h0), fun h5 => by
        rw [t2] at h5
        rw [t5 h5]
        exact (hyd.five h5).slots row hrm z hmemA hz1⟩)
      rw [hset.1]
      exact done _ _ sl x H3 ⟨hset.2, rfl, hlt.touch.mono (by omega), touch_work, fun h9 => h9.touch.setIn (by omega)⟩ (St.less g3)
  simp only [asI_mk', asB_mk, asP_mk, asA_mk, asM_mk, asSl_mk, asStr_mk, tup2_mk, tup3_mk, agg1_mk, agg2_mk, agg3_mk, agg4_mk, asAggm, unCons_mk, unNil_mk, asTup_mk, extractD0, extractD1, List.toList_toArray, nilP_mk, add_mk, Nat.zero_add, Nat.add_zero, condT, condF, Bool.not_true, Bool.not_false, Option.isNone_some, Option.isNone_none]
  have a3 : ∀ (N' : List Prt) H', St H0 (N' ++ (ydParts yb hb cb n sl x ++ (Prt.one b7 (.cells #[.int .i64 xw, .int .i64 xm, .int .i64 xa, .int .i64 xb, .int .i64 xf] ty_law16_Move (0, 0)) :: Prt.nil :: CyP cb hb c :: HeapP hb s :: L))) H' → hcell H' ⟨yb, 3, none⟩ = some (.slice x.sp sl.length x.sc) ∧ hcell H' ⟨yb, 2, none⟩ = some (.int .i64 n) ∧ hcell H' ⟨b7, 1, none⟩ = some (.int .i64 xm) ∧ hcell H' ⟨b7, 2, none⟩ = some (.int .i64 xa) := fun N' H' h' => by
    have g' := St.lesses (M := N') h'
    exact ⟨g'.cell (i := 0) rfl rfl, g'.cell (i := 0) rfl rfl, g'.cell (i := 4) rfl rfl, g'.cell (i := 4) rfl rfl⟩
  obtain ⟨q3, q2, qm, qa⟩ := a3 [] _ g
  refine ldSl_of q3 (ldI_of qm (ldI_of q2 (ldI_of qa ⟨?_, ?_⟩)))
  · refine Pick_ok (by omega) (by omega) ?_
    simp only [asI_mk', asB_mk, asP_mk, asA_mk, asM_mk, asSl_mk, asStr_mk, tup2_mk, tup3_mk, agg1_mk, agg2_mk, agg3_mk, agg4_mk, asAggm, unCons_mk, unNil_mk, asTup_mk, extractD0, extractD1, List.toList_toArray, nilP_mk, add_mk, Nat.zero_add, Nat.add_zero, condT, condF, Bool.not_true, Bool.not_false, Option.isNone_some, Option.isNone_none]
    refine ⟨ldI_of qa rfl, ldSl_of q3 rfl, rdV _ fun ad had => ldSl_of (had _ _ g) ⟨?_, ?_⟩⟩
    · refine Pick_ok (by omega) (by omega) ?_
      simp only [asI_mk', asB_mk, asP_mk, asA_mk, asM_mk, asSl_mk, asStr_mk, tup2_mk, tup3_mk, agg1_mk, agg2_mk, agg3_mk, agg4_mk, asAggm, unCons_mk, unNil_mk, asTup_mk, extractD0, extractD1, List.toList_toArray, nilP_mk, add_mk, Nat.zero_add, Nat.add_zero, condT, condF, Bool.not_true, Bool.not_false, Option.isNone_some, Option.isNone_none]
      refine ⟨ldSl_of (had _ _ g) rfl, ldSl_of q3 rfl, rdA _ fun el hel => ldI_of (hel _ _ g).1 (ldI_of (hel _ _ g).2 ?_)⟩
      intro b73 hb73
      have g2 := g.alloc (o := .cells #[.int .i64 0, .int .u64 0] ty_api_ID) hb73
      refine ⟨ldI_of (hel _ _ g2.less).1 (ldI_of (hel _ _ g2.less).2 rfl), ldSl_of (had _ _ g2.less) rfl, ldSl_of (a3 [_] _ g2).1 rfl, ?_⟩
      exact g2.put (i := 0) rfl (by simp) fun H3 g3 => g3.put (i := 0) rfl (by simp) fun H4 g4 => hR9 b73 H4 g4
    · intro b85 hb85
      have g2 := g.alloc (o := .cells #[.int .i64 0, .int .u64 0] ty_api_ID) hb85
      refine ⟨ldSl_of (had _ _ g2.less) rfl, ldI_of (a3 [_] _ g2).2.2.2 rfl, ldSl_of (a3 [_] _ g2).1 rfl, Pick_ok (by omega) (by omega) ?_⟩
      simp only [asI_mk', asB_mk, asP_mk, asA_mk, asM_mk, asSl_mk, asStr_mk, tup2_mk, tup3_mk, agg1_mk, agg2_mk, agg3_mk, agg4_mk, asAggm, unCons_mk, unNil_mk, asTup_mk, extractD0, extractD1, List.toList_toArray, nilP_mk, add_mk, Nat.zero_add, Nat.add_zero, condT, condF, Bool.not_true, Bool.not_false, Option.isNone_some, Option.isNone_none]
      refine ⟨ldSl_of (had _ _ g2.less) rfl, ldSl_of (a3 [_] _ g2).1 rfl, rdA _ fun el hel => ldI_of (hel _ _ g2.less).1 (ldI_of (hel _ _ g2.less).2 ?_)⟩
      exact g2.put (i := 0) rfl (by simp) fun H3 g3 => g3.put (i := 0) rfl (by simp) fun H4 g4 => hR9 b85 H4 g4
  · intro b108 hb108
    have g2 := g.alloc (o := .cells #[.int .i64 0, .int .u64 0] ty_api_ID) hb108
    obtain ⟨q3, q2, qm, qa⟩ := a3 [_] _ g2
    refine ⟨ldI_of qa rfl, ldI_of q2 rfl, ldI_of qm rfl, ldSl_of q3 rfl, Pick_ok (by omega) (by omega) ?_⟩
    simp only [asI_mk', asB_mk, asP_mk, asA_mk, asM_mk, asSl_mk, asStr_mk, tup2_mk, tup3_mk, agg1_mk, agg2_mk, agg3_mk, agg4_mk, asAggm, unCons_mk, unNil_mk, asTup_mk, extractD0, extractD1, List.toList_toArray, nilP_mk, add_mk, Nat.zero_add, Nat.add_zero, condT, condF, Bool.not_true, Bool.not_false, Option.isNone_some, Option.isNone_none]
    refine ⟨ldI_of qa rfl, ldSl_of q3 rfl, rdV _ fun ad had => ldSl_of (had _ _ g2.less) (Pick_ok (by omega) (by omega) ?_)⟩
    simp only [asI_mk', asB_mk, asP_mk, asA_mk, asM_mk, asSl_mk, asStr_mk, tup2_mk, tup3_mk, agg1_mk, agg2_mk, agg3_mk, agg4_mk, asAggm, unCons_mk, unNil_mk, asTup_mk, extractD0, extractD1, List.toList_toArray, nilP_mk, add_mk, Nat.zero_add, Nat.add_zero, condT, condF, Bool.not_true, Bool.not_false, Option.isNone_some, Option.isNone_none]
    refine ⟨ldSl_of (had _ _ g2.less) rfl, ldSl_of q3 rfl, rdA _ fun el hel => ldI_of (hel _ _ g2.less).1 (ldI_of (hel _ _ g2.less).2 ?_)⟩
    exact g2.put (i := 0) rfl (by simp) fun H3 g3 => g3.put (i := 0) rfl (by simp) fun H4 g4 => hR9 b108 H4 g4
/-- A move, whole. -/
theorem yardMoveC {xw xm xa xb xf : Int} {k : Nat} (h : St H0 (YdP yb hb cb n sl :: CyP cb hb c :: HeapP hb s :: L) H) (hyd : YdOk s c sl) (hn : n = sl.length) (hlt : c.lt k) (hk : k ≤ 500000)
    (hK : ∀ s' c' sl' H', Moved s c sl (k + 500) s' c' sl' → St H0 (YdP yb hb cb n sl' :: CyP cb hb c' :: HeapP hb s' :: L) H' → K (.bool true) H') :
    hcall PR f_law16_yard_move ⟨[.pointer (some ⟨yb, 0, none⟩), .agg #[.int .i64 xw, .int .i64 xm, .int .i64 xa, .int .i64 xb, .int .i64 xf]]⟩ H K :=
  moveC h hyd hn hlt hk (fun H1 K1 h1 hK1 => portC h1 hyd hn hlt hk hK1) hK
end
end Go.Proofs.YtojcacejgbnfkaaGreat

namespace Go.Proofs.YtojcacejgbnfkaaGreat
set_option linter.unusedSimpArgs false
set_option linter.unusedVariables false
open Go
section
variable {H0 H : Hp} {L M N : List Prt} {K : Value → Hp → Prop}
theorem newYardC {mu gr wo ob : Int} (h : St H0 L H)
    (hK : ∀ (yb hb cb : Nat) (s : Hs) (c : Cy) (n : Int) (sl : List (List Id)) (H' : Hp), YdOk s c sl → n = sl.length → c.lt 0 → s.obs = [] → Nine s c → 4 ≤ s.most ∧ s.most ≤ 27 ∧ sl.length ≤ 3 → St H0 (YdP yb hb cb n sl :: CyP cb hb c :: HeapP hb s :: L) H' → K (.pointer (some ⟨yb, 0, none⟩)) H') :
    hcall PR f_law16_newYard ⟨[.int .i64 mu, .int .i64 gr, .int .i64 wo, .int .i64 ob]⟩ H K := by
  have p1 := pick_lt (n := mu) (m := 3) (by omega)
  have p2 := pick_lt (n := ob) (m := 24) (by omega)
  have p3 := pick_lt (n := gr) (m := 6) (by omega)
  have p4 := pick_lt (n := wo) (m := 9) (by omega)
  apply den_law16_newYard
  unfold B_law16_newYard
  refine Pick_ok (by omega) (by omega) ?_
  simp only [asI_mk', asB_mk, asP_mk, asA_mk, asM_mk, asSl_mk, asStr_mk, tup2_mk, tup3_mk, agg1_mk, agg2_mk, agg3_mk, agg4_mk, asAggm, unCons_mk, unNil_mk, asTup_mk, extractD0, extractD1, List.toList_toArray, nilP_mk, add_mk, Nat.zero_add, Nat.add_zero, condT, condF, Bool.not_true, Bool.not_false, Option.isNone_some, Option.isNone_none]
  generalize pick mu 3 = a at *
  have w1 : IntKind.i64.wrap (1 + a) = 1 + a := wrap_i64 (by omega) (by omega)
  rw [w1]
  intro b8 hb8
  have h1 := h.alloc (o := .cells #[.pointer none, .pointer none, .int .i64 (1 + a), .slice none 0 0, .bool false] ty_law16_yard) hb8
  refine Pick_ok (by omega) (by omega) ?_
  simp only [asI_mk', asB_mk, asP_mk, asA_mk, asM_mk, asSl_mk, asStr_mk, tup2_mk, tup3_mk, agg1_mk, agg2_mk, agg3_mk, agg4_mk, asAggm, unCons_mk, unNil_mk, asTup_mk, extractD0, extractD1, List.toList_toArray, nilP_mk, add_mk, Nat.zero_add, Nat.add_zero, condT, condF, Bool.not_true, Bool.not_false, Option.isNone_some, Option.isNone_none]
  generalize pick ob 24 = d at *
  have w2 : IntKind.i64.wrap (4 + d) = 4 + d := wrap_i64 (by omega) (by omega)
  rw [w2]
  refine hNewOk (m := 32) (by decide) (by omega) (by decide) (by decide) (by decide) h1 fun hb H2 h2 => ?_
  simp only [asI_mk', asB_mk, asP_mk, asA_mk, asM_mk, asSl_mk, asStr_mk, tup2_mk, tup3_mk, agg1_mk, agg2_mk, agg3_mk, agg4_mk, asAggm, unCons_mk, unNil_mk, asTup_mk, extractD0, extractD1, List.toList_toArray, nilP_mk, add_mk, Nat.zero_add, Nat.add_zero, condT, condF, Bool.not_true, Bool.not_false, Option.isNone_some, Option.isNone_none]
  refine bif_neqf rfl ?_
  (try simp only [Option.isNone_some, condF])
  refine ldI_of (h2.cell (i := 1) rfl rfl) (Pick_ok (by omega) (by omega) ?_)
  simp only [asI_mk', asB_mk, asP_mk, asA_mk, asM_mk, asSl_mk, asStr_mk, tup2_mk, tup3_mk, agg1_mk, agg2_mk, agg3_mk, agg4_mk, asAggm, unCons_mk, unNil_mk, asTup_mk, extractD0, extractD1, List.toList_toArray, nilP_mk, add_mk, Nat.zero_add, Nat.add_zero, condT, condF, Bool.not_true, Bool.not_false, Option.isNone_some, Option.isNone_none]
  generalize pick gr 6 = e at *
  refine ⟨ldI_of (h2.cell (i := 1) rfl rfl) rfl, Pick_ok (by omega) (by omega) ?_⟩
  simp only [asI_mk', asB_mk, asP_mk, asA_mk, asM_mk, asSl_mk, asStr_mk, tup2_mk, tup3_mk, agg1_mk, agg2_mk, agg3_mk, agg4_mk, asAggm, unCons_mk, unNil_mk, asTup_mk, extractD0, extractD1, List.toList_toArray, nilP_mk, add_mk, Nat.zero_add, Nat.add_zero, condT, condF, Bool.not_true, Bool.not_false, Option.isNone_some, Option.isNone_none]
  generalize pick wo 9 = w at *
  refine ⟨ldI_of (h2.cell (i := 1) rfl rfl) rfl, ?_⟩
  have w3 : IntKind.i64.wrap (1 + e) = 1 + e := wrap_i64 (by omega) (by omega)
  have w4 : IntKind.i64.wrap (1 + w) = 1 + w := wrap_i64 (by omega) (by omega)
  rw [w3, w4]
  have hso := heap_ok h2 (i := 0) rfl
  refine cyNewC h2 (i := 0) rfl rfl (by omega) (by omega) (by omega) (by omega) fun cb H3 h3 => ?_
  simp only [asI_mk', asB_mk, asP_mk, asA_mk, asM_mk, asSl_mk, asStr_mk, tup2_mk, tup3_mk, agg1_mk, agg2_mk, agg3_mk, agg4_mk, asAggm, unCons_mk, unNil_mk, asTup_mk, extractD0, extractD1, List.toList_toArray, nilP_mk, add_mk, Nat.zero_add, Nat.add_zero, condT, condF, Bool.not_true, Bool.not_false, Option.isNone_some, Option.isNone_none]
  refine bif_neqf rfl ?_
  (try simp only [Option.isNone_some, condF])
  refine h3.put (i := 2) rfl (by simp) fun H4 h4 => h4.put (i := 2) rfl (by simp) fun H5 h5 => ?_
  have hyd := YdOk.start (n := 1 + a) (most := 0) (grey := 1 + e) (work := 1 + w) (bl := 0) (by omega) (by omega) (by omega) hso rfl rfl
  have hlt0 : (newCy (1 + a) (1 + e) 3 (1 + w) (newHs 1 (4 + d) 0 32).last).lt 0 := newCy_lt
  have hnine : Nine (newHs 1 (4 + d) 0 32) (newCy (1 + a) (1 + e) 3 (1 + w) (newHs 1 (4 + d) 0 32).last) := Nine.start rfl (by show 4 + d ≤ 27; omega)
  generalize newCy (1 + a) (1 + e) 3 (1 + w) (newHs 1 (4 + d) 0 32).last = c at *
  have h5 : St H0 (CyP cb hb c :: HeapP hb (newHs 1 (4 + d) 0 32) :: Prt.one b8 (.cells #[ptrV hb, ptrV cb, .int .i64 (1 + a), .slice none 0 0, .bool false] ty_law16_yard (0, 0)) :: L) H5 := h5
  refine ⟨fun i H' => ∃ (y : Nat) (ys : List YdQ) (sp : Option Addr) (sc : Nat), i = y ∧ (y : Int) ≤ 1 + a ∧ ys.map (·.1) = List.replicate y [noId, noId, noId] ∧
      St H0 (Prt.one b8 (.cells #[ptrV hb, ptrV cb, .int .i64 (1 + a), .slice sp ys.length sc, .bool false] ty_law16_yard (0, 0)) :: Prt.row 1 sp ys.length sc (ys.map ydV) :: Prt.list (ys.map ydRow) :: CyP cb hb c :: HeapP hb (newHs 1 (4 + d) 0 32) :: L) H', fun i _ => (1 + a - i).toNat,
    ⟨0, [], none, 0, rfl, by omega, rfl, ?_⟩, ?_⟩
  · have h6 := h5.row (H' := _) (Own.nil 1) ((Goes.refl Nothing _).less fun c hc => absurd hc blk_none)
    have h7 := St.gather (M := []) h6
    exact h7.pick 5 [4, 1, 0, 2, 3] rfl rfl
  clear h1 h2 h3 h4 h5
  rintro i H6 ⟨y, ys, sp, sc, rfl, hy, hys, h6⟩
  have hyl : ys.length = y := by
    have := congrArg List.length hys
    rw [List.length_map, List.length_replicate] at this
    exact this
  refine ldI_of (h6.cell (i := 0) rfl rfl) ?_
  by_cases hc : (y : Int) < 1 + a
  rotate_left
  · refine bif_neg hc ?_
    have ey : y = (1 + a).toNat := by omega
    subst ey
    have h7 := h6.say (p := ys.map (·.1) = List.replicate (1 + a).toNat [noId, noId, noId]) hys
    have h8 := h7.pick 4 [1, 2, 3, 0] rfl rfl
    rw [hyl, show (1 + a).toNat = (List.replicate (1 + a).toNat [noId, noId, noId]).length by simp] at h8
    have h9 : St H0 (YdP b8 hb cb (1 + a) (List.replicate (1 + a).toNat [noId, noId, noId]) :: CyP cb hb c :: HeapP hb (newHs 1 (4 + d) 0 32) :: L) H6 := St.gatherEx (M := ydParts b8 hb cb (1 + a) (List.replicate (1 + a).toNat [noId, noId, noId])) ⟨sp, sc, ys, ty_law16_yard⟩ (by simpa [ydParts] using h8)
    exact hK b8 hb cb _ c (1 + a) _ H6 hyd (by simp; omega) hlt0 rfl hnine ⟨by show 4 ≤ 4 + d; omega, by show 4 + d ≤ 27; omega, by simp; omega⟩ h9
  refine bif_pos hc (ldSl_of (h6.cell (i := 0) rfl rfl) ?_)
  refine mk_ty_Sapi_ID (by omega) (by omega) (by omega) fun bm cs hbm hcs hci => ?_
  have ecs : cs = #[.int .i64 0, .int .u64 0, .int .i64 0, .int .u64 0, .int .i64 0, .int .u64 0] := by
    have hcs6 : cs.size = 6 := hcs
    refine Array.ext_getElem? fun q => ?_
    by_cases hq : q < 6
    · match q, hq with
      | 0, _ => exact hci 0 (by decide)
      | 1, _ => exact hci 1 (by decide)
      | 2, _ => exact hci 2 (by decide)
      | 3, _ => exact hci 3 (by decide)
      | 4, _ => exact hci 4 (by decide)
      | 5, _ => exact hci 5 (by decide)
    · rw [Array.getElem?_eq_none (by omega), Array.getElem?_eq_none (show 6 ≤ q by omega)]
  subst ecs
  have h7 := h6.row (Own.new (b := bm) (k := 2) (n := 3) (c := #[.int .i64 0, .int .u64 0, .int .i64 0, .int .u64 0, .int .i64 0, .int .u64 0]) (e := 39) rfl) ((Goes.alloc hbm).less fun c hc => by obtain ⟨a, ha, e⟩ := hc; cases ha; exact e.symm)
  simp only [asI_mk', asB_mk, asP_mk, asA_mk, asM_mk, asSl_mk, asStr_mk, tup2_mk, tup3_mk, agg1_mk, agg2_mk, agg3_mk, agg4_mk, asAggm, unCons_mk, unNil_mk, asTup_mk, extractD0, extractD1, List.toList_toArray, nilP_mk, add_mk, Nat.zero_add, Nat.add_zero, condT, condF, Bool.not_true, Bool.not_false, Option.isNone_some, Option.isNone_none]
  refine ⟨ldSl_of (h7.cell (i := 1) rfl rfl) rfl, ?_⟩
  intro b52 hb52
  have h8 := h7.alloc (o := .cells #[.slice (some ⟨bm, 0, none⟩) 3 3] ty_Sapi_ID) hb52
  refine ⟨ldSl_of (h8.cell (i := 2) rfl rfl) rfl, ?_⟩
  refine h8.app (i := 3) rfl tu_ty_SSapi_ID tu_ty_SSapi_ID ti_ty_Sapi_ID rfl (by decide) (h8.one_rd (i := 0) (n := 1) rfl rfl) (fun z hz => by simp at hz; subst hz; rfl) (by omega) fun p' cap' H9 h9 => ?_
  simp only [asI_mk', asB_mk, asP_mk, asA_mk, asM_mk, asSl_mk, asStr_mk, tup2_mk, tup3_mk, agg1_mk, agg2_mk, agg3_mk, agg4_mk, asAggm, unCons_mk, unNil_mk, asTup_mk, extractD0, extractD1, List.toList_toArray, nilP_mk, add_mk, Nat.zero_add, Nat.add_zero, condT, condF, Bool.not_true, Bool.not_false, Option.isNone_some, Option.isNone_none]
  refine h9.put (i := 2) rfl (by simp) fun H10 h10 => ?_
  have h11 := St.less h10
  have h12 := St.push (i := 2) (A := ydRow ([noId, noId, noId], (some ⟨bm, 0, none⟩, 3))) (M := ys.map ydRow) h11 rfl
  have e1 : ys.map ydV ++ (#[Value.slice (some ⟨bm, 0, none⟩) 3 3] : Array Value).toList = (ys ++ [(([noId, noId, noId], (some ⟨bm, 0, none⟩, 3)) : YdQ)]).map ydV := by rw [List.map_append]; rfl
  have e2 : ys.map ydRow ++ [ydRow ([noId, noId, noId], (some ⟨bm, 0, none⟩, 3))] = (ys ++ [(([noId, noId, noId], (some ⟨bm, 0, none⟩, 3)) : YdQ)]).map ydRow := by rw [List.map_append]; rfl
  have e3 : ys.length + 1 = (ys ++ [(([noId, noId, noId], (some ⟨bm, 0, none⟩, 3)) : YdQ)]).length := by simp
  rw [e1, e2, e3] at h12
  rw [wrap_i64 (by omega) (by omega)]
  refine ⟨⟨y + 1, ys ++ [(([noId, noId, noId], (some (⟨bm, 0, none⟩ : Addr), 3)) : YdQ)], p', cap', by omega, by omega, ?_, h12⟩, by (try dsimp only); omega⟩
  rw [List.map_append, hys, List.replicate_succ']
  rfl
end
end Go.Proofs.YtojcacejgbnfkaaGreat

namespace Go.Proofs.YtojcacejgbnfkaaGreat
set_option linter.unusedSimpArgs false
set_option linter.unusedVariables false
open Go
/-- What was told so far. -/
structure Out (s : Hs) (c : Cy) (l : List Int) : Prop where
  nodup : l.Nodup
  alive : ∀ k ∈ l, lives s c k
def outPut (l : List Int) (x : Id) : List Int := if x.s ∈ l then l else if x.n = 1 then l ++ [x.s] else l
theorem Out.put {s : Hs} {c : Cy} {l : List Int} {x : Id} (h : Out s c l) (hx : x.n = 1 → lives s c x.s) : Out s c (outPut l x) := by
  unfold outPut
  split
  · exact h
  · rename_i hm
    split
    · rename_i h1
      refine ⟨List.nodup_append.2 ⟨h.nodup, by simp, fun a ha b hb e => ?_⟩, fun k hk => ?_⟩
      · simp at hb
        exact hm (by rw [← hb, ← e]; exact ha)
      · rcases List.mem_append.1 hk with hk | hk
        · exact h.alive k hk
        · simp at hk
          rw [hk]
          exact hx h1
    · exact h
theorem outPut_mem {l : List Int} {x : Id} {k : Int} (h : k ∈ l) : k ∈ outPut l x := by
  unfold outPut
  split
  · exact h
  · split
    · exact List.mem_append.2 (.inl h)
    · exact h
theorem outPut_new {l : List Int} {x : Id} (h : x.n = 1) : x.s ∈ outPut l x := by
  unfold outPut
  split
  · rename_i h1; exact h1
  · simp [h]
theorem outPut_old {l : List Int} {x : Id} {j : Nat} (h : j < l.length) : (outPut l x)[j]? = l[j]? := by
  unfold outPut
  split
  · rfl
  · split
    · rw [List.getElem?_append_left h]
    · rfl
/-- The first slots' are told. -/
def InS (sl : List (List Id)) (y : Nat) (l : List Int) : Prop := ∀ i row x, i < y → sl[i]? = some row → x ∈ row → x.n = 1 → x.s ∈ l
def InR (row : List Id) (w : Nat) (l : List Int) : Prop := ∀ a x, a < w → row[a]? = some x → x.n = 1 → x.s ∈ l
def InD (s : Hs) (q : Int) (ok : Bool) (l : List Int) : Prop := ∀ k o, hGet s k = some o → 0 < o.din → (ok = true → k < q) → k ∈ l
def InF (s : Hs) (y : Nat) (l : List Int) : Prop := ∀ j k o x, j < y → l[j]? = some k → hGet s k = some o → x ∈ o.refs → x.n = 1 → x.s ∈ l
theorem InS.put {sl : List (List Id)} {y : Nat} {l : List Int} {x : Id} (h : InS sl y l) : InS sl y (outPut l x) := fun i row z a b d e => outPut_mem (h i row z a b d e)
theorem InD.put {s : Hs} {q : Int} {ok : Bool} {l : List Int} {x : Id} (h : InD s q ok l) : InD s q ok (outPut l x) := fun k o a b d => outPut_mem (h k o a b d)
theorem InR.put {row : List Id} {w : Nat} {l : List Int} (h : InR row w l) : InR row (w + 1) (outPut l (row.getD w noId)) := fun a z ha hz hn => by
  by_cases e : a = w
  · subst e
    rw [List.getD_eq_getElem?_getD, hz]
    exact outPut_new hn
  · exact outPut_mem (h a z (by omega) hz hn)
theorem InF.put {s : Hs} {y : Nat} {l : List Int} {x : Id} (hy : y ≤ l.length) (h : InF s y l) : InF s y (outPut l x) := fun j k o z hj hk hg hz hn => by
  rw [outPut_old (by omega)] at hk
  exact outPut_mem (h j k o z hj hk hg hz hn)
theorem InS.next {sl : List (List Id)} {y : Nat} {l : List Int} {row : List Id} (h : InS sl y l) (hr : sl[y]? = some row) (hR : InR row row.length l) : InS sl (y + 1) l := fun i row' x hi hrow hx hn => by
  by_cases e : i = y
  · subst e
    rw [hr] at hrow
    cases hrow
    obtain ⟨a, ha, e⟩ := List.mem_iff_getElem.1 hx
    exact hR a x ha (by rw [List.getElem?_eq_getElem ha, e]) hn
  · exact h i row' x (by omega) hrow hx hn
theorem InF.next {s : Hs} {y : Nat} {l : List Int} {k : Int} {o : Ob} (h : InF s y l) (hk : l[y]? = some k) (hg : hGet s k = some o) (hR : InR o.refs o.refs.length l) : InF s (y + 1) l := fun j k' o' x hj hk' hg' hx hn => by
  by_cases e : j = y
  · subst e
    rw [hk] at hk'
    cases hk'
    rw [hg] at hg'
    cases hg'
    obtain ⟨a, ha, e⟩ := List.mem_iff_getElem.1 hx
    exact hR a x ha (by rw [List.getElem?_eq_getElem ha, e]) hn
  · exact h j k' o' x (by omega) hk' hg' hx hn
theorem InD.next {s : Hs} {q : Int} {l : List Int} (ho : s.ok) (h : InD s q true l) (hq : ∀ o, hGet s q = some o → 0 < o.din → q ∈ l) : InD s (hNext s q).1 (hNext s q).2 l := fun k o hg hd hk => by
  rcases Int.lt_or_le k q with hlt | hle
  · exact h k o hg hd fun _ => hlt
  · by_cases e : k = q
    · subst e; exact hq o hg hd
    · have hex : hGet s k ≠ none := by rw [hg]; simp
      cases hn : (hNext s q).2
      · have := hNext_false hn hex; omega
      · have h1 := hNext_min ho hn hex (by omega)
        have h2 := hk hn
        omega
theorem InD.first {s : Hs} {l : List Int} (ho : s.ok) : InD s (hNext s 0).1 (hNext s 0).2 l := fun k o hg hd hk => by
  have hex : hGet s k ≠ none := by rw [hg]; simp
  have := get_ser ho hex
  cases hn : (hNext s 0).2
  · have := hNext_false hn hex; omega
  · have h1 := hNext_min ho hn hex (by omega)
    have h2 := hk hn
    omega
/-- All that can be reached is told. -/
theorem rt_told {s : Hs} {sl : List (List Id)} {l : List Int} (h1 : InS sl sl.length l) (h2 : ∀ k o, hGet s k = some o → 0 < o.din → k ∈ l) (h3 : InF s l.length l) {k : Int} (h : Rt s sl k) : k ∈ l := by
  induction h with
  | slot a b d =>
    obtain ⟨i, hi, e⟩ := List.mem_iff_getElem.1 a
    exact h1 i _ _ hi (by rw [List.getElem?_eq_getElem hi, e]) b d
  | din a b => exact h2 _ _ a b
  | step _ a b d ih =>
    obtain ⟨i, hi, e⟩ := List.mem_iff_getElem.1 ih
    exact h3 i _ _ _ hi (by rw [List.getElem?_eq_getElem hi, e]) a b d
theorem Out.len {s : Hs} {c : Cy} {sl : List (List Id)} {l : List Int} (h : Out s c l) (hyd : YdOk s c sl) : l.length ≤ 64 := by
  have h1 := nodup_sub_le (m := s.obs.map (·.ser)) h.nodup fun k hk => by
    have := hyd.lives.2.2.2 k (h.alive k hk)
    cases hg : hGet s k with
    | none => exact absurd hg this
    | some o =>
      obtain ⟨a1, a2⟩ := hGet_mem hg
      exact List.mem_map.2 ⟨o, a1, a2⟩
  rw [List.length_map] at h1
  have := hyd.ho.len
  have := hyd.ho.most
  omega

def RS (H0 : Hp) (b2 : Nat) (M : List Prt) (l : List Int) (H : Hp) : Prop := ∃ op oc, St H0 (Prt.one b2 (.cells #[.slice op l.length oc] ty_Suint64 (0, 0)) :: Prt.row 1 op l.length oc (l.map (Value.int .u64)) :: M) H

section
variable {H0 H : Hp} {L M N : List Prt} {b2 yb hb cb : Nat} {n : Int} {s : Hs} {c : Cy} {sl : List (List Id)} {K : Value → Hp → Prop}
theorem reachPutC {l : List Int} {x : Id} (h : RS H0 b2 M l H) (hl : l.length ≤ 1000) (hK : ∀ H', RS H0 b2 M (outPut l x) H' → K (.tuple #[]) H') :
    hcall PR f_law16_yard_reached_1 ⟨[.agg #[.int .i64 x.n, .int .u64 x.s], .pointer (some ⟨b2, 0, none⟩)]⟩ H K := by
  obtain ⟨op, oc, h⟩ := h
  apply den_law16_yard_reached_1
  unfold B_law16_yard_reached_1
  intro b4 hb4
  have h1 := h.alloc (o := .cells #[.int .i64 x.n, .int .u64 x.s] ty_api_ID) hb4
  refine ⟨fun i H' => ∃ y : Nat, i = y ∧ y ≤ l.length ∧ (∀ j, j < y → l[j]? ≠ some x.s) ∧ St H0 (Prt.one b4 (.cells #[.int .i64 x.n, .int .u64 x.s] ty_api_ID (0, 0)) :: Prt.one b2 (.cells #[.slice op l.length oc] ty_Suint64 (0, 0)) :: Prt.row 1 op l.length oc (l.map (Value.int .u64)) :: M) H',
    fun i _ => ((l.length : Int) - i).toNat, ⟨0, rfl, by omega, fun j hj => absurd hj (Nat.not_lt_zero _), h1⟩, ?_⟩
  clear h1 h
  rintro i H2 ⟨y, rfl, hy, hno, h2⟩
  simp only [asI_mk', asB_mk, asP_mk, asA_mk, asM_mk, asSl_mk, asStr_mk, tup2_mk, tup3_mk, agg1_mk, agg2_mk, agg3_mk, agg4_mk, asAggm, unCons_mk, unNil_mk, asTup_mk, extractD0, extractD1, List.toList_toArray, nilP_mk, add_mk, Nat.zero_add, Nat.add_zero, condT, condF, Bool.not_true, Bool.not_false, Option.isNone_some, Option.isNone_none]
  refine ldSl_of (h2.cell (i := 1) rfl rfl) ?_
  by_cases hc : (y : Int) < ((l.length : Nat) : Int)
  · have hyl : y < l.length := by omega
    refine bif_pos hc (ldSl_of (h2.cell (i := 1) rfl rfl) (idx1 (d := (0 : Int)) (h2.row_rd (i := 2) rfl) (by omega) hc fun b o _ hcl => ldI_of hcl (ldI_of (h2.cell (i := 0) rfl rfl) ?_)))
    rw [Int.toNat_natCast]
    have hg : l[y]? = some (l.getD y 0) := by rw [List.getD_eq_getElem?_getD, List.getElem?_eq_getElem hyl]; rfl
    by_cases e : l.getD y 0 = x.s
    · refine bif_eq e (hK H2 ⟨op, oc, ?_⟩)
      have : outPut l x = l := by unfold outPut; rw [if_pos (by rw [← e]; exact List.mem_of_getElem? hg)]
      rw [this]
      exact h2.less
    · refine bif_ne e ?_
      rw [wrap_i64 (by omega) (by omega)]
      refine ⟨⟨y + 1, by omega, by omega, fun j hj => ?_, h2⟩, by (try dsimp only); omega⟩
      by_cases ej : j = y
      · rw [ej, hg]; exact fun e' => e (Option.some.inj e')
      · exact hno j (by omega)
  · have hm : x.s ∉ l := fun hm => by
      obtain ⟨j, hj, e⟩ := List.mem_iff_getElem.1 hm
      exact hno j (by omega) (by rw [List.getElem?_eq_getElem hj, e])
    refine bif_neg hc (ldI_of (h2.cell (i := 0) rfl rfl) ?_)
    by_cases h1 : x.n = 1
    · refine bif_eq h1 (ldSl_of (h2.cell (i := 1) rfl rfl) (ldI_of (h2.cell (i := 0) rfl rfl) ?_))
      have e : outPut l x = l ++ [x.s] := by unfold outPut; rw [if_neg hm, if_pos h1]
      rw [e] at hK
      refine lit_ty_Suint64 (m := 1) (c := #[.int .u64 x.s]) (h2.row_own (i := 2) rfl) rfl (by intro z hz; simp at hz; rw [hz]; rfl) (by omega) fun p' cap' H4 ho hg => ?_
      simp only [asI_mk', asB_mk, asP_mk, asA_mk, asM_mk, asSl_mk, asStr_mk, tup2_mk, tup3_mk, agg1_mk, agg2_mk, agg3_mk, agg4_mk, asAggm, unCons_mk, unNil_mk, asTup_mk, extractD0, extractD1, List.toList_toArray, nilP_mk, add_mk, Nat.zero_add, Nat.add_zero, condT, condF, Bool.not_true, Bool.not_false, Option.isNone_some, Option.isNone_none]
      have h4 := h2.row_to (i := 2) rfl ho hg
      refine h4.put (i := 1) rfl (by simp) fun H5 h5 => hK H5 ⟨p', cap', ?_⟩
      rw [List.map_append, List.length_append]
      exact h5.less
    · refine bif_ne h1 (hK H2 ⟨op, oc, ?_⟩)
      have : outPut l x = l := by unfold outPut; rw [if_neg hm, if_neg h1]
      rw [this]
      exact h2.less

theorem reachedC (h : St H0 (YdP yb hb cb n sl :: CyP cb hb c :: HeapP hb s :: L) H) (hyd : YdOk s c sl) (hn : n = sl.length) (hK : ∀ (l : List Int) q cc H', Out s c l → (∀ k, Rt s sl k → k ∈ l) → St H0 (YdP yb hb cb n sl :: CyP cb hb c :: HeapP hb s :: L) H' → K (.tuple #[.slice q l.length cc, .bool true]) H') :
    hcall PR f_law16_yard_reached ⟨[.pointer (some ⟨yb, 0, none⟩)]⟩ H K := by
  have hlen := hyd.len
  have hsz := hyd.cok.size
  have hlv := hyd.lives
  apply den_law16_yard_reached
  unfold B_law16_yard_reached
  obtain ⟨x, g⟩ := ydOpened (L := YdP yb hb cb n sl :: CyP cb hb c :: HeapP hb s :: L) (k := 0) h rfl
  have g : St H0 (ydParts yb hb cb n sl x ++ (Prt.nil :: CyP cb hb c :: HeapP hb s :: L)) H := g
  have back : ∀ H', St H0 (ydParts yb hb cb n sl x ++ (Prt.nil :: CyP cb hb c :: HeapP hb s :: L)) H' → St H0 (YdP yb hb cb n sl :: CyP cb hb c :: HeapP hb s :: L) H' := fun H' g' =>
    ydShut (N := []) (k := 0) (L := YdP yb hb cb n sl :: CyP cb hb c :: HeapP hb s :: L) (x := x) (B := YdP yb hb cb n sl) g' rfl
  intro b2 hb2
  have h1 := (g.row (H' := _) (Own.nil 1) ((Goes.refl Nothing _).less fun c hc => absurd hc blk_none)).alloc (o := .cells #[.slice none 0 0] ty_Suint64) hb2
  have r0 : RS H0 b2 (ydParts yb hb cb n sl x ++ (Prt.nil :: CyP cb hb c :: HeapP hb s :: L)) [] _ := ⟨none, 0, h1⟩
  clear h1 g
  refine ⟨fun i H' => ∃ (y : Nat) (l : List Int), i = y ∧ y ≤ sl.length ∧ (Out s c l ∧ InS sl y l) ∧ RS H0 b2 (ydParts yb hb cb n sl x ++ (Prt.nil :: CyP cb hb c :: HeapP hb s :: L)) l H', fun i _ => ((sl.length : Int) - i).toNat, ⟨0, [], rfl, by omega, ⟨⟨List.nodup_nil, fun k hk => by cases hk⟩, fun i row x hi => absurd hi (Nat.not_lt_zero _)⟩, r0⟩, ?_⟩
  clear r0
  rintro i H2 ⟨y, l, rfl, hy, ⟨ho, hS⟩, r2⟩
  obtain ⟨op, oc, g2⟩ := id r2
  simp only [asI_mk', asB_mk, asP_mk, asA_mk, asM_mk, asSl_mk, asStr_mk, tup2_mk, tup3_mk, agg1_mk, agg2_mk, agg3_mk, agg4_mk, asAggm, unCons_mk, unNil_mk, asTup_mk, extractD0, extractD1, List.toList_toArray, nilP_mk, add_mk, Nat.zero_add, Nat.add_zero, condT, condF, Bool.not_true, Bool.not_false, Option.isNone_some, Option.isNone_none]
  refine ldSl_of (g2.cell (i := 2) rfl rfl) ?_
  by_cases hc : (y : Int) < ((sl.length : Nat) : Int)
  · refine bif_pos hc ?_
    obtain ⟨row, hrow, hr3⟩ := hyd.slotted (m := y) (by omega)
    have hrm := List.mem_of_getElem? hrow
    refine ⟨fun i H' => ∃ (w : Nat) (l : List Int), i = w ∧ w ≤ 3 ∧ (Out s c l ∧ InS sl y l ∧ InR row w l) ∧ RS H0 b2 (ydParts yb hb cb n sl x ++ (Prt.nil :: CyP cb hb c :: HeapP hb s :: L)) l H', fun i _ => (3 - i).toNat, ⟨0, l, rfl, by omega, ⟨ho, hS, fun a z ha => absurd ha (Nat.not_lt_zero _)⟩, r2⟩, ?_⟩
    clear r2 g2 ho hS
    rintro i H3 ⟨w, l, rfl, hw, ⟨ho, hS, hR⟩, r3⟩
    obtain ⟨op, oc, g3⟩ := id r3
    have g3' := St.lesses (M := [_, _]) g3
    obtain ⟨yy, _, _, rdV, rdE⟩ := ydRead g3' hrow
    refine ldSl_of (g3.cell (i := 2) rfl rfl) (rdV _ fun ad had => ldSl_of (had _ _ g3') ?_)
    by_cases hcw : (w : Int) < ((row.length : Nat) : Int)
    · refine bif_pos hcw (ldSl_of (g3.cell (i := 2) rfl rfl) (rdV _ fun ad2 had2 => ldSl_of (had2 _ _ g3') (rdE w _ (by omega) fun el hel => ldI_of (hel _ _ g3').1 (ldI_of (hel _ _ g3').2 ?_))))
      have hmem : row.getD w noId ∈ row := by
        rw [List.getD_eq_getElem?_getD, List.getElem?_eq_getElem (by omega)]
        exact List.getElem_mem _
      refine reachPutC (x := row.getD w noId) r3 (by have := ho.len hyd; omega) fun H4 r4 => ?_
      rw [wrap_i64 (by omega) (by omega)]
      exact ⟨⟨w + 1, _, by omega, by omega, ⟨ho.put fun h1 => hlv.1 row hrm _ hmem h1, hS.put, hR.put⟩, r4⟩, by (try dsimp only); omega⟩
    · refine bif_neg hcw ?_
      rw [wrap_i64 (by omega) (by omega)]
      exact ⟨⟨y + 1, l, by omega, by omega, ⟨ho, hS.next hrow (by rw [show row.length = w by omega]; exact hR)⟩, r3⟩, by (try dsimp only); omega⟩
  refine bif_neg hc ?_
  refine ldP_of (g2.cell (i := 2) rfl rfl) (hNextC g2 (i := 8) rfl fun H3 g3 => ?_)
  simp only [asI_mk', asB_mk, asP_mk, asA_mk, asM_mk, asSl_mk, asStr_mk, tup2_mk, tup3_mk, agg1_mk, agg2_mk, agg3_mk, agg4_mk, asAggm, unCons_mk, unNil_mk, asTup_mk, extractD0, extractD1, List.toList_toArray, nilP_mk, add_mk, Nat.zero_add, Nat.add_zero, condT, condF, Bool.not_true, Bool.not_false, Option.isNone_some, Option.isNone_none]
  have hS : InS sl sl.length l := by
    rw [show sl.length = y by omega]; exact hS
  have hnx : ∀ q, (hNext s q).2 = true → q < (hNext s q).1 ∧ hGet s (hNext s q).1 ≠ none ∧ (hNext s q).1 ≤ s.last := fun q hq => by
    have h1 := hNext_range hyd.ho hq
    have h2 := hNext_pos hyd.ho hq
    exact ⟨h1.1, h1.2, h2.2.2⟩
  refine ⟨fun q ok H' => ∃ l : List Int, (Out s c l ∧ InS sl sl.length l ∧ InD s q ok l) ∧ (ok = true → hGet s q ≠ none ∧ q ≤ s.last) ∧ RS H0 b2 (ydParts yb hb cb n sl x ++ (Prt.nil :: CyP cb hb c :: HeapP hb s :: L)) l H', fun q ok _ => if ok then (s.last - q).toNat + 1 else 0, ⟨l, ⟨ho, hS, InD.first hyd.ho⟩, fun hq => (hnx 0 hq).2, ⟨op, oc, g3⟩⟩, ?_⟩
  clear r2 g2 g3 ho hS
  rintro q ok H4 ⟨l, ⟨ho, hS, hD⟩, hq, r4⟩
  obtain ⟨op, oc, g4⟩ := id r4
  cases ok
  · simp only [condF]
    refine ⟨fun i H' => ∃ (y : Nat) (l : List Int), i = y ∧ y ≤ l.length ∧ (Out s c l ∧ InS sl sl.length l ∧ InD s q false l ∧ InF s y l) ∧ RS H0 b2 (ydParts yb hb cb n sl x ++ (Prt.nil :: CyP cb hb c :: HeapP hb s :: L)) l H', fun i _ => (64 - i).toNat, ⟨0, l, rfl, by omega, ⟨ho, hS, hD, fun j k o x hj => absurd hj (Nat.not_lt_zero _)⟩, r4⟩, ?_⟩
    clear r4 g4 ho hq hS hD
    rintro i H5 ⟨y, l, rfl, hy, ⟨ho, hS, hD, hF⟩, r5⟩
    obtain ⟨op, oc, g5⟩ := id r5
    have hl64 := ho.len hyd
    refine ldSl_of (g5.cell (i := 0) rfl rfl) ?_
    by_cases hcy : (y : Int) < ((l.length : Nat) : Int)
    rotate_left
    · exact bif_neg hcy (ldSl_of (g5.cell (i := 0) rfl rfl) (hK l _ _ H5 ho (fun k hk => rt_told hS (fun k o a b => hD k o a b fun h => by cases h) (by rw [show l.length = y by omega]; exact hF) hk) (back H5 (St.lesses (M := [_, _]) g5))))
    have hyl : y < l.length := by omega
    refine bif_pos hcy ?_
    intro R110 hR110
    obtain ⟨k, hk⟩ : ∃ k, k = l.getD y 0 := ⟨_, rfl⟩
    have hkm : k ∈ l := by
      rw [hk, List.getD_eq_getElem?_getD, List.getElem?_eq_getElem hyl]
      exact List.getElem_mem _
    have hka := ho.alive k hkm
    have hex := hlv.2.2.2 k hka
    have hR110 : ∀ (bo : Nat) (o : Ob) rp rc vp vc H', hGet s k = some o → St H0 (Prt.one bo (.cells #[.int .u64 k, .int .i64 o.cell, .slice rp o.refs.length rc, .slice vp o.vals.length vc, .int .i64 o.din] ty_api_Object (0, 0)) :: Prt.row 2 rp o.refs.length rc (cel Id.cells o.refs) :: Prt.row 1 vp o.vals.length vc (o.vals.map (Value.int .u64)) :: Prt.one b2 (.cells #[.slice op l.length oc] ty_Suint64 (0, 0)) :: Prt.row 1 op l.length oc (l.map (Value.int .u64)) :: (ydParts yb hb cb n sl x ++ (Prt.nil :: CyP cb hb c :: HeapP hb s :: L))) H' → R110 (some ⟨bo, 0, none⟩) true H' := fun bo o rp rc vp vc H' hg g' => by
      refine hR110 _ _ H' ?_
      simp only [Bool.not_true, condF]
      have hol := (hyd.own k o hg).1
      have g6 := g'.pick 5 [3, 4, 0, 1, 2] rfl rfl
      refine ⟨fun i H' => ∃ (w : Nat) (l' : List Int), i = w ∧ w ≤ 2 ∧ (Out s c l' ∧ InS sl sl.length l' ∧ InD s q false l' ∧ InF s y l' ∧ InR o.refs w l' ∧ l'[y]? = some k) ∧ y + 1 ≤ l'.length ∧ RS H0 b2 (Prt.one bo (.cells #[.int .u64 k, .int .i64 o.cell, .slice rp o.refs.length rc, .slice vp o.vals.length vc, .int .i64 o.din] ty_api_Object (0, 0)) :: Prt.row 2 rp o.refs.length rc (cel Id.cells o.refs) :: Prt.row 1 vp o.vals.length vc (o.vals.map (Value.int .u64)) :: (ydParts yb hb cb n sl x ++ (Prt.nil :: CyP cb hb c :: HeapP hb s :: L))) l' H', fun i _ => (2 - i).toNat, ⟨0, l, rfl, by omega, ⟨ho, hS, hD, hF, fun a z ha => absurd ha (Nat.not_lt_zero _), by rw [hk, List.getD_eq_getElem?_getD, List.getElem?_eq_getElem hyl]; rfl⟩, by omega, ⟨op, oc, g6⟩⟩, ?_⟩
      rintro i H7 ⟨w, l', rfl, hw, ⟨ho', hS', hD', hF', hR', hk'⟩, hy', r7⟩
      obtain ⟨op', oc', g7⟩ := id r7
      have hl' := ho'.len hyd
      simp only [asI_mk', asB_mk, asP_mk, asA_mk, asM_mk, asSl_mk, asStr_mk, tup2_mk, tup3_mk, agg1_mk, agg2_mk, agg3_mk, agg4_mk, asAggm, unCons_mk, unNil_mk, asTup_mk, extractD0, extractD1, List.toList_toArray, nilP_mk, add_mk, Nat.zero_add, Nat.add_zero, condT, condF, Bool.not_true, Bool.not_false, Option.isNone_some, Option.isNone_none]
      refine ldSl_of (g7.cell (i := 2) rfl rfl) ?_
      by_cases hcw : (w : Int) < ((o.refs.length : Nat) : Int)
      · refine bif_pos hcw (ldSl_of (g7.cell (i := 2) rfl rfl) (idxS Id.len noId (g7.row_rd (i := 3) rfl) (by omega) (by omega) hcw fun b o' _ _ hcc => ?_))
        have c0 := hcc 0 (by omega)
        have c1 := hcc 1 (by omega)
        rw [Int.toNat_natCast] at c0 c1
        simp only [asI_mk', asB_mk, asP_mk, asA_mk, asM_mk, asSl_mk, asStr_mk, tup2_mk, tup3_mk, agg1_mk, agg2_mk, agg3_mk, agg4_mk, asAggm, unCons_mk, unNil_mk, asTup_mk, extractD0, extractD1, List.toList_toArray, nilP_mk, add_mk, Nat.zero_add, Nat.add_zero, condT, condF, Bool.not_true, Bool.not_false, Option.isNone_some, Option.isNone_none]
        refine ldI_of c0 (ldI_of c1 ?_)
        have hmem : o.refs.getD w noId ∈ o.refs := by
          rw [List.getD_eq_getElem?_getD, List.getElem?_eq_getElem (by omega)]
          exact List.getElem_mem _
        refine reachPutC (x := o.refs.getD w noId) r7 (by omega) fun H8 r8 => ?_
        rw [wrap_i64 (by omega) (by omega)]
        have hpl : l'.length ≤ (outPut l' (o.refs.getD w noId)).length := by
          unfold outPut
          split
          · exact Nat.le_refl _
          · split
            · simp
            · exact Nat.le_refl _
        exact ⟨⟨w + 1, _, by omega, by omega, ⟨ho'.put fun h1 => hlv.2.2.1 k o _ hka hg hmem h1, hS'.put, hD'.put, hF'.put (by omega), hR'.put, by rw [outPut_old (by omega)]; exact hk'⟩, by omega, r8⟩, by (try dsimp only); omega⟩
      · refine bif_neg hcw ?_
        rw [wrap_i64 (by omega) (by omega)]
        have g8 := St.lesses (M := [_, _, _]) (g7.pick 5 [2, 3, 4, 0, 1] rfl rfl)
        exact ⟨⟨y + 1, l', by omega, hy', ⟨ho', hS', hD', hF'.next hk' hg (by rw [show o.refs.length = w by omega]; exact hR')⟩, ⟨op', oc', g8⟩⟩, by (try dsimp only); omega⟩
    (try simp only [asI_mk', asB_mk, asP_mk, asA_mk, asM_mk, asSl_mk, asStr_mk, tup2_mk, tup3_mk, agg1_mk, agg2_mk, agg3_mk, agg4_mk, asAggm, unCons_mk, unNil_mk, asTup_mk, extractD0, extractD1, List.toList_toArray, nilP_mk, add_mk, Nat.zero_add, Nat.add_zero, condT, condF, Bool.not_true, Bool.not_false, Option.isNone_some, Option.isNone_none])
    refine ldP_of (g5.cell (i := 2) rfl rfl) (ldSl_of (g5.cell (i := 0) rfl rfl) (idx1 (d := (0 : Int)) (g5.row_rd (i := 1) rfl) (by omega) hcy fun b o hp hcl => ldI_of hcl ?_))
    rw [Int.toNat_natCast] at hcl ⊢
    rw [← hk] at hcl ⊢
    refine ⟨?_, ?_⟩
    · refine hObjC g5 (i := 8) rfl (fun hg => absurd hg hex) fun o hg rp rc vp vc H6 g6 => ?_
      simp only [asI_mk', asB_mk, asP_mk, asA_mk, asM_mk, asSl_mk, asStr_mk, tup2_mk, tup3_mk, agg1_mk, agg2_mk, agg3_mk, agg4_mk, asAggm, unCons_mk, unNil_mk, asTup_mk, extractD0, extractD1, List.toList_toArray, nilP_mk, add_mk, Nat.zero_add, Nat.add_zero, condT, condF, Bool.not_true, Bool.not_false, Option.isNone_some, Option.isNone_none]
      exact box5 g6 fun b163 H7 g7 => hR110 b163 o rp rc vp vc H7 hg g7
    · intro b170 hb170
      have g6 := g5.alloc (o := .cells #[.int .u64 0, .int .i64 0, .slice none 0 0, .slice none 0 0, .int .i64 0] ty_api_Object) hb170
      refine ⟨ldI_of ?_ rfl, ldSl_of (g6.cell (i := 1) rfl rfl) rfl, ldP_of (g6.cell (i := 3) rfl rfl) rfl, ?_⟩
      · have r6 : Rd _ 1 op l.length (l.map (Value.int .u64)) := g6.row_rd (i := 2) rfl
        rw [hp] at r6
        have := r6.2.2 y (by omega)
        rw [List.getElem?_map, List.getElem?_eq_getElem hyl] at this
        rw [hk, List.getD_eq_getElem?_getD, List.getElem?_eq_getElem hyl]
        exact this
      refine hObjC g6 (i := 9) rfl (fun hg => absurd hg hex) fun o hg rp rc vp vc H7 g7 => ?_
      simp only [asI_mk', asB_mk, asP_mk, asA_mk, asM_mk, asSl_mk, asStr_mk, tup2_mk, tup3_mk, agg1_mk, agg2_mk, agg3_mk, agg4_mk, asAggm, unCons_mk, unNil_mk, asTup_mk, extractD0, extractD1, List.toList_toArray, nilP_mk, add_mk, Nat.zero_add, Nat.add_zero, condT, condF, Bool.not_true, Bool.not_false, Option.isNone_some, Option.isNone_none]
      refine g7.put (i := 2) rfl (by simp) fun H8 g8 => g8.put (i := 2) rfl (by simp) fun H9 g9 => g9.put (i := 2) rfl (by simp) fun H10 g10 => g10.put (i := 2) rfl (by simp) fun H11 g11 => g11.put (i := 2) rfl (by simp) fun H12 g12 => ?_
      have g13 := g12.pick 3 [2, 0, 1] rfl rfl
      exact hR110 b170 o rp rc vp vc H12 hg g13
  · simp only [condT]
    obtain ⟨hq1, hq2⟩ := hq rfl
    refine ldP_of (g4.cell (i := 2) rfl rfl) (hObjC g4 (i := 8) rfl (fun hg => absurd hg hq1) fun o hg rp rc vp vc H5 g5 => ?_)
    simp only [asI_mk', asB_mk, asP_mk, asA_mk, asM_mk, asSl_mk, asStr_mk, tup2_mk, tup3_mk, agg1_mk, agg2_mk, agg3_mk, agg4_mk, asAggm, unCons_mk, unNil_mk, asTup_mk, extractD0, extractD1, List.toList_toArray, nilP_mk, add_mk, Nat.zero_add, Nat.add_zero, condT, condF, Bool.not_true, Bool.not_false, Option.isNone_some, Option.isNone_none]
    refine box5 g5 fun b77 H6 g6 => ?_
    intro R84 hR84
    have hR84 : ∀ (l : List Int) H', (Out s c l ∧ InS sl sl.length l ∧ InD s q true l ∧ ∀ o, hGet s q = some o → 0 < o.din → q ∈ l) → RS H0 b2 (ydParts yb hb cb n sl x ++ (Prt.nil :: CyP cb hb c :: HeapP hb s :: L)) l H' → R84 H' := fun l H' ⟨ho', hS', hD', hQ'⟩ r' => by
      refine hR84 H' ?_
      obtain ⟨op', oc', g'⟩ := id r'
      refine ldP_of (g'.cell (i := 2) rfl rfl) (hNextC g' (i := 8) rfl fun H7 g7 => ?_)
      simp only [asI_mk', asB_mk, asP_mk, asA_mk, asM_mk, asSl_mk, asStr_mk, tup2_mk, tup3_mk, agg1_mk, agg2_mk, agg3_mk, agg4_mk, asAggm, unCons_mk, unNil_mk, asTup_mk, extractD0, extractD1, List.toList_toArray, nilP_mk, add_mk, Nat.zero_add, Nat.add_zero, condT, condF, Bool.not_true, Bool.not_false, Option.isNone_some, Option.isNone_none]
      refine ⟨⟨l, ⟨ho', hS', hD'.next hyd.ho hQ'⟩, fun hq => (hnx q hq).2, ⟨op', oc', g7⟩⟩, ?_⟩
      (try dsimp only)
      cases hn2 : (hNext s q).2
      · simp
      · have := hnx q hn2
        simp only [if_true]
        omega
    refine ldI_of (g6.cell (i := 0) rfl rfl) ?_
    by_cases hd : o.din > 0
    · refine bif_pos hd ?_
      have g7 := St.lesses (M := [_, _, _]) g6
      refine id16C g7 fun H7 g8 => ?_
      simp only [asI_mk', asB_mk, asP_mk, asA_mk, asM_mk, asSl_mk, asStr_mk, tup2_mk, tup3_mk, agg1_mk, agg2_mk, agg3_mk, agg4_mk, asAggm, unCons_mk, unNil_mk, asTup_mk, extractD0, extractD1, List.toList_toArray, nilP_mk, add_mk, Nat.zero_add, Nat.add_zero, condT, condF, Bool.not_true, Bool.not_false, Option.isNone_some, Option.isNone_none]
      refine reachPutC (x := ⟨1, q⟩) ⟨op, oc, g8⟩ (by have := ho.len hyd; omega) fun H8 r8 => hR84 _ H8 ⟨ho.put fun _ => hlv.2.1 q o hg hd, hS.put, hD.put, fun _ _ _ => outPut_new (x := ⟨1, q⟩) rfl⟩ r8
    · exact bif_neg hd (hR84 l H6 ⟨ho, hS, hD, fun o' hg' hd' => by rw [hg] at hg'; cases hg'; exact absurd hd' hd⟩ ⟨op, oc, St.lesses (M := [_, _, _]) g6⟩)
end
end Go.Proofs.YtojcacejgbnfkaaGreat

namespace Go.Proofs.YtojcacejgbnfkaaGreat
open Go
set_option linter.unusedVariables false
set_option maxRecDepth 100000
def B_law16_CycleFrees (mutators1 : Int) (grey2 : Int) (work3 : Int) (objects4 : Int) (lP5 : Option Addr) (lL6 : Nat) (lC7 : Nat) (H : Hp) (K : Value → Hp → Prop) : Prop :=
 hcall PR f_law16_newYard ⟨[(.int .i64 mutators1), (.int .i64 grey2), (.int .i64 work3), (.int .i64 objects4)]⟩ H fun v8 Hx9 =>
 asP v8 fun t10 =>
 hcall PR f_law16_known ⟨[]⟩ Hx9 fun v11 Hx12 =>
 asB v11 fun t13 =>
 (bif (!t13) then
 K (.bool false) Hx12
else
 (bif (Option.isNone (α := Addr) t10) then
 K (.bool false) Hx12
else
 ∀ R14 : Hp → Prop, (∀ Hx15 : Hp, (
 hcall PR f_law16_yard_cycles ⟨[(.pointer t10), (.int .i64 3)]⟩ Hx15 fun v16 Hx17 =>
 asB v16 fun t18 =>
 (bif (!t18) then
 K (.bool false) Hx17
else
 hcall PR f_law16_yard_reached ⟨[(.pointer t10)]⟩ Hx17 fun v19 Hx20 =>
 tup2 v19 fun v21 v22 =>
 asSl v21 fun tP23 tL24 tC25 =>
 asB v22 fun t26 =>
 (bif t26 then
 nilP t10 fun ta27 =>
 ldP ta27 Hx20 fun h28 =>
 hcall PR f_heap_Heap_Len ⟨[(.pointer h28)]⟩ Hx20 fun v29 Hx30 =>
 asI .i64 v29 fun t31 =>
 K (.bool (((tL24 : Int) : Int) == t31)) Hx30
else
 K (.bool false) Hx20))) → R14 Hx15) →
 ∃ (I32 : Int → Hp → Prop) (m33 : Int → Hp → Nat), I32 0 Hx12 ∧ ∀ i35 : Int, ∀ Hx34 : Hp, I32 i35 Hx34 →
 (bif (decide ((i35 : Int) < (lL6 : Int))) then
 (bif (decide ((i35 : Int) < 300)) then
 idxA lP5 lL6 i35 5 fun el36 =>
 ldI .i64 el36 Hx34 fun What37 =>
 ldI .i64 (el36.add 1) Hx34 fun M38 =>
 ldI .i64 (el36.add 2) Hx34 fun A39 =>
 ldI .i64 (el36.add 3) Hx34 fun B40 =>
 ldI .i64 (el36.add 4) Hx34 fun F41 =>
 hcall PR f_law16_yard_move ⟨[(.pointer t10), (.agg #[(.int .i64 What37), (.int .i64 M38), (.int .i64 A39), (.int .i64 B40), (.int .i64 F41)])]⟩ Hx34 fun v42 Hx43 =>
 asB v42 fun t44 =>
 (bif (!t44) then
 K (.bool false) Hx43
else
 I32 (IntKind.i64.wrap (i35 + 1)) Hx43 ∧ m33 (IntKind.i64.wrap (i35 + 1)) Hx43 < m33 i35 Hx34)
else
 R14 Hx34)
else
 R14 Hx34)))
theorem E_law16_CycleFrees (mutators1 : Int) (grey2 : Int) (work3 : Int) (objects4 : Int) (lP5 : Option Addr) (lL6 : Nat) (lC7 : Nat) (H : Hp) (K : Value → Hp → Prop) : B_law16_CycleFrees mutators1 grey2 work3 objects4 lP5 lL6 lC7 H K = denF Tryz.prog Tryz.f13 (.seq none .n (.seq none .n (.seq none .n (.seq (some ⟨[], [11]⟩) (.seq none .n (.sub (.loop ⟨[(12, .int .i64)], [4, 11]⟩ .n))) .n)))) [(.int .i64 mutators1), (.int .i64 grey2), (.int .i64 work3), (.int .i64 objects4), (.slice lP5 lL6 lC7)] H K := by kernel_rfl
theorem den_law16_CycleFrees {mutators1 : Int} {grey2 : Int} {work3 : Int} {objects4 : Int} {lP5 : Option Addr} {lL6 : Nat} {lC7 : Nat} {H : Hp} {K : Value → Hp → Prop} (h : B_law16_CycleFrees mutators1 grey2 work3 objects4 lP5 lL6 lC7 H K) : hcall PR f_law16_CycleFrees ⟨[(.int .i64 mutators1), (.int .i64 grey2), (.int .i64 work3), (.int .i64 objects4), (.slice lP5 lL6 lC7)]⟩ H K := denF_call Tryz.func13 PR_mixed (Eq.mp (E_law16_CycleFrees mutators1 grey2 work3 objects4 lP5 lL6 lC7 H K) h)

end Go.Proofs.YtojcacejgbnfkaaGreat

namespace Go.Proofs.YtojcacejgbnfkaaGreat
set_option linter.unusedSimpArgs false
set_option linter.unusedVariables false
open Go
/-- What is known between two rounds: m ends are yet to come, q was spent. -/
structure Rounds (s : Hs) (c : Cy) (sl : List (List Id)) (k m q : Nat) : Prop where
  yd : YdOk s c sl
  nine : Nine s c
  ends : Ends m s c sl
  lt : c.lt (k + 16 * q)
  three : m ≤ 3
  most : q ≤ 27832
  cost : 1 ≤ m → q + (m - 1) * 9256 + rnd s c ≤ 27768
theorem Rounds.next {s : Hs} {c0 c : Cy} {sl : List (List Id)} {k m q : Nat} (h : Rounds s c0 sl k m q) (hm : 1 ≤ m) (hyd : YdOk s c sl) (h9 : Nine s c) (he : Ends m s c sl) (ha : Asked c0 c.sk.ar.length c) (hlt : c.lt (k + 16 * q + 9)) :
    Rounds (cyStep s c 0).2.1 (cyStep s c 0).2.2 sl k (if (cyStep s c 0).1.2 = true then m - 1 else m) (q + c.work.toNat) := by
  have hwk := hyd.cok.work
  have hl := Cy.lt.steps (stir := 0) (m := c.work.toNat) (fr := []) hyd.ho hyd.cok hlt
  have hyd' := hyd.step (stir := 0)
  have h9' : Nine (cyStep s c 0).2.1 (cyStep s c 0).2.2 := h9.steps hyd
  have he' : Ends (if (cyStep s c 0).1.2 = true then m - 1 else m) (cyStep s c 0).2.1 (cyStep s c 0).2.2 sl := Ends.steps (stir := 0) (m := c.work.toNat) (fr := []) hm hyd he
  have hr := rnd_all h9' hyd'.ho hyd'.cok
  have h3 := h.three
  have hc := h.cost hm
  refine ⟨hyd', h9', he', hl.mono (by omega), by split <;> omega, by omega, fun hm' => ?_⟩
  rcases round_step hyd h9 h.nine h.yd.cok ha with e | ⟨e, hle⟩
  · rw [if_pos e] at hm' ⊢
    obtain ⟨m', rfl⟩ : ∃ m', m = m' + 2 := ⟨m - 2, by omega⟩
    have e1 : (m' + 2 - 1 - 1) = m' := by omega
    have e2 : (m' + 2 - 1) = m' + 1 := by omega
    rw [e1]
    rw [e2, Nat.add_mul] at hc
    omega
  · rw [if_neg (by rw [e]; decide)]
    omega

section
variable {H0 H : Hp} {L M N : List Prt} {yb hb cb : Nat} {n : Int} {s : Hs} {c : Cy} {sl : List (List Id)} {K : Value → Hp → Prop}
set_option maxRecDepth 100000 in
theorem cyclesC {k : Nat} (h : St H0 (YdP yb hb cb n sl :: CyP cb hb c :: HeapP hb s :: L) H) (hyd : YdOk s c sl) (hn : n = sl.length) (hl3 : sl.length ≤ 3) (h9 : Nine s c) (hlt : c.lt k) (hk : k ≤ 150000)
    (hK : ∀ s' c' H', YdOk s' c' sl → AllR s' sl → St H0 (YdP yb hb cb n sl :: CyP cb hb c' :: HeapP hb s' :: L) H' → K (.bool true) H') :
    hcall PR f_law16_yard_cycles ⟨[.pointer (some ⟨yb, 0, none⟩), .int .i64 3]⟩ H K := by
  have hlen := hyd.len
  have hsz := hyd.cok.size
  apply den_law16_yard_cycles
  unfold B_law16_yard_cycles
  intro R3 hR3
  have hR3 : ∀ s' c' H', YdOk s' c' sl → AllR s' sl → St H0 (YdP yb hb cb n sl :: CyP cb hb c' :: HeapP hb s' :: L) H' → R3 0 H' := fun s' c' H' h1 h2 h3 => hR3 0 H' (hK s' c' H' h1 h2 h3)
  clear hK
  have hall := rnd_all h9 hyd.ho hyd.cok
  refine ⟨fun e i H' => ∃ (m q j : Nat) (s : Hs) (c : Cy), e = m ∧ i = j ∧ j ≤ q ∧ Rounds s c sl k m q ∧ St H0 (YdP yb hb cb n sl :: CyP cb hb c :: HeapP hb s :: L) H', fun _ i _ => (40000 - i).toNat,
    ⟨3, 0, 0, s, c, rfl, rfl, Nat.le_refl _, ⟨hyd, h9, ⟨fun h => by omega, fun h => by omega⟩, hlt.mono (by omega), Nat.le_refl _, Nat.zero_le _, fun _ => by omega⟩, h⟩, ?_⟩
  clear h hyd h9 hlt hall
  intro e i H1 hI
  obtain ⟨m, q, j, s, c, hee, hjj, hjq, hr, h1⟩ := hI
  subst hee
  subst hjj
  have hq := hr.most
  have hj : (j : Int) < 40000 := by omega
  rw [decide_eq_true hj]
  simp only [condT]
  rcases Nat.eq_zero_or_pos m with hm0 | hm1
  · have hm0i : (m : Int) = 0 := by omega
    rw [hm0i]
    exact bif_neg (by decide) (hR3 s c H1 hr.yd (hr.ends.2 (by omega)) h1)
  have hcost := hr.cost hm1
  refine bif_pos (by omega) ?_
  clear hR3
  intro R11 hR11
  obtain ⟨x, g⟩ := ydOpened (L := YdP yb hb cb n sl :: CyP cb hb c :: HeapP hb s :: L) (k := 0) h1 rfl
  have g : St H0 (ydParts yb hb cb n sl x ++ (Prt.nil :: CyP cb hb c :: HeapP hb s :: L)) H1 := g
  have back : ∀ s' c' H', St H0 (ydParts yb hb cb n sl x ++ (Prt.nil :: CyP cb hb c' :: HeapP hb s' :: L)) H' → St H0 (YdP yb hb cb n sl :: CyP cb hb c' :: HeapP hb s' :: L) H' := fun s' c' H' g' =>
    ydShut (N := []) (k := 0) (L := YdP yb hb cb n sl :: CyP cb hb c' :: HeapP hb s' :: L) (x := x) (B := YdP yb hb cb n sl) g' rfl
  have hR11 : ∀ s' c' m' q' H', j + 1 ≤ q' → Rounds s' c' sl k m' q' → St H0 (ydParts yb hb cb n sl x ++ (Prt.nil :: CyP cb hb c' :: HeapP hb s' :: L)) H' → R11 m' H' := fun s' c' m' q' H' h2 h3 h4 => by
    refine hR11 _ H' ?_
    rw [wrap_i64 (by omega) (by omega)]
    exact ⟨⟨m', q', j + 1, s', c', rfl, by omega, h2, h3, back _ _ _ h4⟩, by (try dsimp only); omega⟩
  clear h1 back
  refine ⟨fun e H' => ∃ (y : Nat) (c1 : Cy), e = y ∧ y ≤ sl.length + 1 ∧ YdOk s c1 sl ∧ Nine s c1 ∧ Ends m s c1 sl ∧ Asked c y c1 ∧ (c1.lt (k + 16 * q + (if y ≤ sl.length then 3 * y else 3 * sl.length))) ∧ St H0 (ydParts yb hb cb n sl x ++ (Prt.nil :: CyP cb hb c1 :: HeapP hb s :: L)) H', fun e _ => ((sl.length : Int) + 1 - e).toNat,
    ⟨0, c, rfl, by omega, hr.yd, hr.nine, hr.ends, Asked.start, hr.lt.mono (by omega), g⟩, ?_⟩
  clear g
  rintro e H2 ⟨y, c1, rfl, hy, hyd, h9, he, ha, hlt, g⟩
  have hlen1 := hyd.len
  have hok1 := hyd.cok
  simp only [asI_mk', asB_mk, asP_mk, asA_mk, asM_mk, asSl_mk, asStr_mk, tup2_mk, tup3_mk, agg1_mk, agg2_mk, agg3_mk, agg4_mk, asAggm, unCons_mk, unNil_mk, asTup_mk, extractD0, extractD1, List.toList_toArray, nilP_mk, add_mk, Nat.zero_add, Nat.add_zero, condT, condF, Bool.not_true, Bool.not_false, Option.isNone_some, Option.isNone_none]
  refine ldI_of (g.cell (i := 0) rfl rfl) ?_
  by_cases hc : (y : Int) ≤ n
  · refine bif_pos hc ?_
    intro R20 hR20
    have hyl : y ≤ sl.length := by omega
    rw [if_pos hyl] at hlt
    have hR20 : ∀ (held : List Id) H', (∀ row, sl[y]? = some row → held = row) → (∀ x ∈ held, x.n = 1 → Rt s sl x.s) → (held.length ≤ if y = sl.length then 0 else 3) → St H0 (ydParts yb hb cb n sl x ++ (Prt.nil :: CyP cb hb (cyShake s c1 y held).2 :: HeapP hb s :: L)) H' → R20 H' := fun held H' h1 h2 h3 h4 => by
      refine hR20 H' ?_
      rw [wrap_i64 (by omega) (by omega)]
      refine ⟨⟨y + 1, _, by omega, by omega, hyd.shake fun row _ hrow => h1 row (by rw [Int.toNat_natCast] at hrow; exact hrow), h9.shake hyd, he.shake hyd h2, ha.next hok1 (by omega), hlt.shake.mono ?_, h4⟩, by (try dsimp only); omega⟩
      (split at h3 <;> split <;> omega)
    refine ldI_of (g.cell (i := 0) rfl rfl) ?_
    by_cases ey : (y : Int) = n
    · refine bif_eq ey (ldP_of (g.cell (i := 0) rfl rfl) (cyShakeC (held := []) g (i := 6) (k := 5) rfl rfl (by decide) (fun _ _ _ => rd_nil) (by simp) fun H3 g3 => ?_))
      simp only [asI_mk', asB_mk, asP_mk, asA_mk, asM_mk, asSl_mk, asStr_mk, tup2_mk, tup3_mk, agg1_mk, agg2_mk, agg3_mk, agg4_mk, asAggm, unCons_mk, unNil_mk, asTup_mk, extractD0, extractD1, List.toList_toArray, nilP_mk, add_mk, Nat.zero_add, Nat.add_zero, condT, condF, Bool.not_true, Bool.not_false, Option.isNone_some, Option.isNone_none]
      exact hR20 [] H3 (fun row hrow => by have := ltOfGet hrow; omega) (fun x hx => by cases hx) (by simp) g3
    · refine bif_ne ey ?_
      obtain ⟨row, hrow, hr3⟩ := hyd.slotted (m := y) (by omega)
      obtain ⟨y2, hy2, hy21, rdV, rdR⟩ := ydGet g hrow
      refine ldP_of (g.cell (i := 0) rfl rfl) (ldSl_of (g.cell (i := 0) rfl rfl) (rdV _ fun ad had => ldSl_of had ?_))
      refine cyShakeC (held := row) g (i := 6) (k := 5) rfl rfl (by decide) (fun N' H' h' => ?_) (by omega) fun H3 g3 => ?_
      · obtain ⟨y3, hy3, _, _, rd3⟩ := ydGet (M := Prt.nil :: Prt.nil :: HeapP hb s :: L) (St.lesses (M := N') h') hrow
        rw [hy2] at hy3
        cases hy3
        exact rd3
      simp only [asI_mk', asB_mk, asP_mk, asA_mk, asM_mk, asSl_mk, asStr_mk, tup2_mk, tup3_mk, agg1_mk, agg2_mk, agg3_mk, agg4_mk, asAggm, unCons_mk, unNil_mk, asTup_mk, extractD0, extractD1, List.toList_toArray, nilP_mk, add_mk, Nat.zero_add, Nat.add_zero, condT, condF, Bool.not_true, Bool.not_false, Option.isNone_some, Option.isNone_none]
      exact hR20 row H3 (fun r hr => by rw [hrow] at hr; exact Option.some.inj hr) (fun x hx hn => .slot (List.mem_of_getElem? hrow) hx hn) (by rw [if_neg (by omega)]; omega) g3
  · refine bif_neg hc ?_
    have hyl : y = sl.length + 1 := by omega
    rw [if_neg (show ¬ y ≤ sl.length by omega)] at hlt
    have ha : Asked c c1.sk.ar.length c1 := by rw [show c1.sk.ar.length = y by omega]; exact ha
    have hnx := hr.next hm1 hyd h9 he ha (hlt.mono (by omega))
    have hwk := hok1.work
    refine ldP_of (g.cell (i := 0) rfl rfl) (cyStepC g (i := 6) (k := 5) rfl rfl (by decide) hlt (by omega) fun fp fc H3 g3 => ?_)
    simp only [asI_mk', asB_mk, asP_mk, asA_mk, asM_mk, asSl_mk, asStr_mk, tup2_mk, tup3_mk, agg1_mk, agg2_mk, agg3_mk, agg4_mk, asAggm, unCons_mk, unNil_mk, asTup_mk, extractD0, extractD1, List.toList_toArray, nilP_mk, add_mk, Nat.zero_add, Nat.add_zero, condT, condF, Bool.not_true, Bool.not_false, Option.isNone_some, Option.isNone_none]
    have g3 : St H0 (Prt.row 1 fp _ fc _ :: (ydParts yb hb cb n sl x ++ (Prt.nil :: CyP cb hb (cyStep s c1 0).2.2 :: HeapP hb (cyStep s c1 0).2.1 :: L))) H3 := g3
    have g3 := g3.less
    cases hend : (cyStep s c1 0).1.2
    · rw [hend, if_neg (by decide)] at hnx
      simp only [condF]
      exact hR11 _ _ _ _ H3 (by omega) hnx g3
    · rw [hend, if_pos rfl] at hnx
      simp only [condT]
      have w1 : IntKind.i64.wrap ((m : Int) - 1) = ((m - 1 : Nat) : Int) := by rw [wrap_i64 (by omega) (by omega)]; omega
      rw [w1]
      exact hR11 _ _ _ _ H3 (by omega) hnx g3

set_option maxRecDepth 100000 in
theorem CycleFrees_ok {mu gr wo ob : Int} {lP : Option Addr} {lL lC : Nat} {l : List E_law16_Move} {H : Hp} {K : Value → Hp → Prop} (hmu : IntKind.min .i64 ≤ mu ∧ mu ≤ IntKind.max .i64) (hgr : IntKind.min .i64 ≤ gr ∧ gr ≤ IntKind.max .i64) (hwo : IntKind.min .i64 ≤ wo ∧ wo ≤ IntKind.max .i64) (hob : IntKind.min .i64 ≤ ob ∧ ob ≤ IntKind.max .i64)
    (hr : Rd H 5 lP lL (cel E_law16_Move.cells l)) (hl : lL ≤ 9223372036854775807) (hok : ∀ x ∈ l, x.ok) (hK : ∀ H', Keep Nothing H H' → K (.bool true) H') :
    hcall PR f_law16_CycleFrees ⟨[.int .i64 mu, .int .i64 gr, .int .i64 wo, .int .i64 ob, .slice lP lL lC]⟩ H K := by
  apply den_law16_CycleFrees
  unfold B_law16_CycleFrees
  refine newYardC (St.start H) fun yb hb cb s c n sl H1 hyd hn hlt _ h9 hl3 h1 => ?_
  simp only [asI_mk', asB_mk, asP_mk, asA_mk, asM_mk, asSl_mk, asStr_mk, tup2_mk, tup3_mk, agg1_mk, agg2_mk, agg3_mk, agg4_mk, asAggm, unCons_mk, unNil_mk, asTup_mk, extractD0, extractD1, List.toList_toArray, nilP_mk, add_mk, Nat.zero_add, Nat.add_zero, condT, condF, Bool.not_true, Bool.not_false, Option.isNone_some, Option.isNone_none]
  refine known16_ok h1 fun H2 h2 => ?_
  simp only [asI_mk', asB_mk, asP_mk, asA_mk, asM_mk, asSl_mk, asStr_mk, tup2_mk, tup3_mk, agg1_mk, agg2_mk, agg3_mk, agg4_mk, asAggm, unCons_mk, unNil_mk, asTup_mk, extractD0, extractD1, List.toList_toArray, nilP_mk, add_mk, Nat.zero_add, Nat.add_zero, condT, condF, Bool.not_true, Bool.not_false, Option.isNone_some, Option.isNone_none]
  intro R14 hR14
  have hR14 : ∀ s c sl H', YdOk s c sl → Nine s c → c.lt 150000 → sl.length ≤ 3 → n = sl.length → St H [YdP yb hb cb n sl, CyP cb hb c, HeapP hb s] H' → R14 H' := fun s c sl H' hyd h9 hlt hl3 hn h' => by
    refine hR14 H' (cyclesC h' hyd hn hl3 h9 hlt (Nat.le_refl _) fun s' c' H3 hyd' hall h3 => ?_)
    simp only [asI_mk', asB_mk, asP_mk, asA_mk, asM_mk, asSl_mk, asStr_mk, tup2_mk, tup3_mk, agg1_mk, agg2_mk, agg3_mk, agg4_mk, asAggm, unCons_mk, unNil_mk, asTup_mk, extractD0, extractD1, List.toList_toArray, nilP_mk, add_mk, Nat.zero_add, Nat.add_zero, condT, condF, Bool.not_true, Bool.not_false, Option.isNone_some, Option.isNone_none]
    refine reachedC h3 hyd' hn fun t q cc H4 ho htold h4 => ?_
    simp only [asI_mk', asB_mk, asP_mk, asA_mk, asM_mk, asSl_mk, asStr_mk, tup2_mk, tup3_mk, agg1_mk, agg2_mk, agg3_mk, agg4_mk, asAggm, unCons_mk, unNil_mk, asTup_mk, extractD0, extractD1, List.toList_toArray, nilP_mk, add_mk, Nat.zero_add, Nat.add_zero, condT, condF, Bool.not_true, Bool.not_false, Option.isNone_some, Option.isNone_none]
    obtain ⟨x4, g4⟩ := ydOpened h4 (k := 0) rfl
    refine ldP_of (g4.cell (i := 0) rfl rfl) (hLen h4 (i := 2) rfl ?_)
    simp only [asI_mk', asB_mk, asP_mk, asA_mk, asM_mk, asSl_mk, asStr_mk, tup2_mk, tup3_mk, agg1_mk, agg2_mk, agg3_mk, agg4_mk, asAggm, unCons_mk, unNil_mk, asTup_mk, extractD0, extractD1, List.toList_toArray, nilP_mk, add_mk, Nat.zero_add, Nat.add_zero, condT, condF, Bool.not_true, Bool.not_false, Option.isNone_some, Option.isNone_none]
    have e : t.length = s'.obs.length := by
      have h1 := nodup_sub_le (m := s'.obs.map (·.ser)) ho.nodup fun k hk => by
        have := hyd'.lives.2.2.2 k (ho.alive k hk)
        cases hg : hGet s' k with
        | none => exact absurd hg this
        | some o =>
          obtain ⟨a1, a2⟩ := hGet_mem hg
          exact List.mem_map.2 ⟨o, a1, a2⟩
      have h2 := nodup_sub_le (l := s'.obs.map (·.ser)) (m := t) (by
        rw [List.Nodup, List.pairwise_map]
        exact hyd'.ho.rise.imp fun h => by omega) fun k hk => by
        obtain ⟨o, a1, rfl⟩ := List.mem_map.1 hk
        exact htold _ (hall _ fun e => hGet_none.1 e o a1 rfl)
      rw [List.length_map] at h1 h2
      omega
    rw [e]
    have : (((s'.obs.length : Nat) : Int) == ((s'.obs.length : Nat) : Int)) = true := by simp
    rw [this]
    exact hK H4 h4.keep
  refine ⟨fun i H' => ∃ (y : Nat) (s : Hs) (c : Cy) (sl : List (List Id)), i = y ∧ y ≤ lL ∧ y ≤ 300 ∧ YdOk s c sl ∧ Nine s c ∧ sl.length ≤ 3 ∧ n = sl.length ∧ c.lt (500 * y) ∧ St H [YdP yb hb cb n sl, CyP cb hb c, HeapP hb s] H', fun i _ => (300 - i).toNat, ⟨0, s, c, sl, rfl, by omega, by omega, hyd, h9, hl3.2.2, hn, hlt, h2⟩, ?_⟩
  clear h1 h2 hyd hn hlt h9 hl3
  rintro i H3 ⟨y, s, c, sl, rfl, hy, hy5, hyd, h9, hl3, hn, hlt, h3⟩
  by_cases hc : (y : Int) < (lL : Int)
  rotate_left
  · exact bif_neg hc (hR14 s c sl H3 hyd h9 (hlt.mono (by omega)) hl3 hn h3)
  refine bif_pos hc ?_
  by_cases hc5 : (y : Int) < 300
  rotate_left
  · exact bif_neg hc5 (hR14 s c sl H3 hyd h9 (hlt.mono (by omega)) hl3 hn h3)
  refine bif_pos hc5 ?_
  clear hR14
  refine idxS E_law16_Move.len ⟨0, 0, 0, 0, 0⟩ (h3.rd hr) (by omega) (by omega) hc fun b o _ _ hcc => ?_
  generalize l.getD (y : Int).toNat ⟨0, 0, 0, 0, 0⟩ = x at hcc
  simp only [asI_mk', asB_mk, asP_mk, asA_mk, asM_mk, asSl_mk, asStr_mk, tup2_mk, tup3_mk, agg1_mk, agg2_mk, agg3_mk, agg4_mk, asAggm, unCons_mk, unNil_mk, asTup_mk, extractD0, extractD1, List.toList_toArray, nilP_mk, add_mk, Nat.zero_add, Nat.add_zero, condT, condF, Bool.not_true, Bool.not_false, Option.isNone_some, Option.isNone_none]
  refine ldI_of (hcc 0 (by omega)) (ldI_of (hcc 1 (by omega)) (ldI_of (hcc 2 (by omega)) (ldI_of (hcc 3 (by omega)) (ldI_of (hcc 4 (by omega)) ?_))))
  refine yardMoveC h3 hyd hn hlt (by omega) fun s' c' sl' H4 hm h4 => ?_
  simp only [asI_mk', asB_mk, asP_mk, asA_mk, asM_mk, asSl_mk, asStr_mk, tup2_mk, tup3_mk, agg1_mk, agg2_mk, agg3_mk, agg4_mk, asAggm, unCons_mk, unNil_mk, asTup_mk, extractD0, extractD1, List.toList_toArray, nilP_mk, add_mk, Nat.zero_add, Nat.add_zero, condT, condF, Bool.not_true, Bool.not_false, Option.isNone_some, Option.isNone_none]
  rw [wrap_i64 (by omega) (by omega)]
  exact ⟨⟨y + 1, s', c', sl', by omega, by omega, by omega, hm.ok, hm.nine h9, by rw [hm.len]; exact hl3, by rw [hm.len]; exact hn, hm.lt.mono (by omega), h4⟩, by (try dsimp only); omega⟩
end
end Go.Proofs.YtojcacejgbnfkaaGreat
