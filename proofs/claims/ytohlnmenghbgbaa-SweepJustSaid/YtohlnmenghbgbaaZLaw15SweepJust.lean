/- Merged by merge.py: DenLaw15, DenLaw15SweepJust, DenLaw15SweepKnown, DenLaw15SweepPlays, Law15, Law15j. No condition. -/
import Derived.Test.YtohlnmenghbgbaaZNum
import Derived.Test.YtohlnmenghbgbaaZSweep
import Derived.Test.YtohlnmenghbgbaaZGraph

/- PRINTED by gen.py: functions as plain propositions, held against the program by the kernel. No condition. -/
namespace Go.Proofs.Ytohlnmenghbgbaa
open Go
set_option linter.unusedVariables false
set_option maxRecDepth 100000

def B_law15_known  (H : Hp) (K : Value → Hp → Prop) : Prop :=
 newB (.cells #[(.slice none 0 0), (.slice none 0 0)] ty_Sint) H fun b1 Hx2 =>
 hcall PR f_hand_Graph_Heaps ⟨[(.agg #[(.slice (some ⟨b1, 0, none⟩) 2 2), (.slice none 0 0), (.slice none 0 0)]), (.int .i64 5)]⟩ Hx2 fun v3 Hx4 =>
 tup2 v3 fun v5 v6 =>
 asP v5 fun t7 =>
 asP v6 fun t8 =>
 (bif (Option.isNone (α := Addr) t7) then
 K (.bool false) Hx4
else
 hcall PR f_paint_New ⟨[(.pointer t7), (.int .i64 2)]⟩ Hx4 fun v9 Hx10 =>
 tup2 v9 fun v11 v12 =>
 asP v11 fun t13 =>
 asI .i64 v12 fun t14 =>
 hcall PR f_sweep_New ⟨[(.pointer t7), (.pointer t13)]⟩ Hx10 fun v15 Hx16 =>
 tup2 v15 fun v17 v18 =>
 asP v17 fun t19 =>
 asI .i64 v18 fun t20 =>
 (bif ((t14 : Int) != 0) then
 K (.bool false) Hx16
else
 (bif ((t20 : Int) != 0) then
 K (.bool false) Hx16
else
 (bif (Option.isNone (α := Addr) t13) then
 K (.bool false) Hx16
else
 (bif (Option.isNone (α := Addr) t19) then
 K (.bool false) Hx16
else
 hcall PR f_paint_Paint_Shade ⟨[(.pointer t13), (.agg #[(.int .i64 1), (.int .u64 1)]), (.int .i64 0)]⟩ Hx16 fun v21 Hx22 =>
 hcall PR f_sweep_Sweeper_Begin ⟨[(.pointer t19)]⟩ Hx22 fun v23 Hx24 =>
 hcall PR f_heap_Heap_Make ⟨[(.pointer t7), (.int .i64 0), (.int .i64 0)]⟩ Hx24 fun v25 Hx26 =>
 tup2 v25 fun v27 v28 =>
 asI .u64 v27 fun t29 =>
 asI .i64 v28 fun t30 =>
 hcall PR f_sweep_Sweeper_Step ⟨[(.pointer t19)]⟩ Hx26 fun v31 Hx32 =>
 tup2 v31 fun v33 v34 =>
 asI .u64 v33 fun t35 =>
 asB v34 fun t36 =>
 hcall PR f_sweep_Sweeper_Step ⟨[(.pointer t19)]⟩ Hx32 fun v37 Hx38 =>
 tup2 v37 fun v39 v40 =>
 asI .u64 v39 fun t41 =>
 asB v40 fun t42 =>
 hcall PR f_sweep_Sweeper_Step ⟨[(.pointer t19)]⟩ Hx38 fun v43 Hx44 =>
 tup2 v43 fun v45 v46 =>
 asI .u64 v45 fun t47 =>
 asB v46 fun t48 =>
 (bif ((t35 : Int) == 0) then
 (bif t36 then
 (bif ((t41 : Int) == 2) then
 (bif t42 then
 (bif ((t47 : Int) == 0) then
 (bif (!t48) then
 hcall PR f_heap_Heap_Len ⟨[(.pointer t7)]⟩ Hx44 fun v49 Hx50 =>
 asI .i64 v49 fun t51 =>
 K (.bool ((t51 : Int) == 2)) Hx50
else
 K (.bool false) Hx44)
else
 K (.bool false) Hx44)
else
 K (.bool false) Hx44)
else
 K (.bool false) Hx44)
else
 K (.bool false) Hx44)
else
 K (.bool false) Hx44))))))
theorem E_law15_known  (H : Hp) (K : Value → Hp → Prop) : B_law15_known  H K = denF Try.prog Try.f51 .n [] H K := by kernel_rfl
theorem den_law15_known  {H : Hp} {K : Value → Hp → Prop} (h : B_law15_known  H K) : hcall PR f_law15_known ⟨[]⟩ H K := denF_call Try.func51 PR_mixed (Eq.mp (E_law15_known  H K) h)

end Go.Proofs.Ytohlnmenghbgbaa

/- PRINTED by gen.py: functions as plain propositions, held against the program by the kernel. No condition. -/
namespace Go.Proofs.Ytohlnmenghbgbaa
open Go
set_option linter.unusedVariables false
set_option maxRecDepth 100000

def B_law15_SweepJust (n1 : Int) (marksP2 : Option Addr) (marksL3 : Nat) (marksC4 : Nat) (made5 : Int) (H : Hp) (K : Value → Hp → Prop) : Prop :=
 hcall PR f_hand_Pick ⟨[(.int .i64 n1), (.int .i64 40)]⟩ H fun v6 Hx7 =>
 asI .i64 v6 fun t8 =>
 evW PR (Instr.makeSlice ty_SSint (.int .i64 t8) (.int .i64 t8)) Hx7 fun v9 Hx10 =>
 asSl v9 fun mkP11 mkL12 mkC13 =>
 hcall PR f_hand_Graph_Heaps ⟨[(.agg #[(.slice mkP11 mkL12 mkC13), (.slice none 0 0), (.slice none 0 0)]), (.int .i64 40)]⟩ Hx10 fun v14 Hx15 =>
 tup2 v14 fun v16 v17 =>
 asP v16 fun t18 =>
 asP v17 fun t19 =>
 hcall PR f_law15_known ⟨[]⟩ Hx15 fun v20 Hx21 =>
 asB v20 fun t22 =>
 (bif (!t22) then
 K (.bool false) Hx21
else
 (bif (Option.isNone (α := Addr) t18) then
 K (.bool false) Hx21
else
 hcall PR f_paint_New ⟨[(.pointer t18), (.int .i64 3)]⟩ Hx21 fun v23 Hx24 =>
 tup2 v23 fun v25 v26 =>
 asP v25 fun t27 =>
 asI .i64 v26 fun t28 =>
 hcall PR f_sweep_New ⟨[(.pointer t18), (.pointer t27)]⟩ Hx24 fun v29 Hx30 =>
 tup2 v29 fun v31 v32 =>
 asP v31 fun t33 =>
 asI .i64 v32 fun t34 =>
 (bif ((t28 : Int) != 0) then
 K (.bool false) Hx30
else
 (bif ((t34 : Int) != 0) then
 K (.bool false) Hx30
else
 (bif (Option.isNone (α := Addr) t27) then
 K (.bool false) Hx30
else
 (bif (Option.isNone (α := Addr) t33) then
 K (.bool false) Hx30
else
 evW PR (Instr.makeSlice ty_Sbool (.int .i64 (IntKind.i64.wrap (t8 + 1))) (.int .i64 (IntKind.i64.wrap (t8 + 1)))) Hx30 fun v35 Hx36 =>
 asSl v35 fun mkP37 mkL38 mkC39 =>
 ∀ R40 : Hp → Prop, (∀ Hx41 : Hp, (
 hcall PR f_sweep_Sweeper_Begin ⟨[(.pointer t33)]⟩ Hx41 fun v42 Hx43 =>
 hcall PR f_hand_Pick ⟨[(.int .i64 made5), (.int .i64 8)]⟩ Hx43 fun v44 Hx45 =>
 asI .i64 v44 fun t46 =>
 ∀ R47 : Option Addr → Nat → Nat → Hp → Prop, (∀ freedP49 : Option Addr, ∀ freedL50 : Nat, ∀ freedC51 : Nat, ∀ Hx48 : Hp, (
 ∃ (I52 : Int → Int → Hp → Prop) (m53 : Int → Int → Hp → Nat), I52 0 1 Hx48 ∧ ∀ atx55 : Int, ∀ k56 : Int, ∀ Hx54 : Hp, I52 atx55 k56 Hx54 →
 (bif (decide ((k56 : Int) ≤ t8)) then
 ∀ R57 : Int → Hp → Prop, (∀ atx59 : Int, ∀ Hx58 : Hp, (
 I52 atx59 (IntKind.i64.wrap (k56 + 1)) Hx58 ∧ m53 atx59 (IntKind.i64.wrap (k56 + 1)) Hx58 < m53 atx55 k56 Hx54) → R57 atx59 Hx58) →
 hcall PR f_heap_Heap_Object ⟨[(.pointer t18), (.int .u64 (IntKind.u64.wrap k56))]⟩ Hx54 fun v60 Hx61 =>
 tup2 v60 fun v62 v63 =>
 asAgg' v62 fun cs64 =>
 unCons cs64.toList fun v65 r66 =>
 unCons r66 fun v67 r68 =>
 unCons r68 fun v69 r70 =>
 unCons r70 fun v71 r72 =>
 unCons r72 fun v73 r74 =>
 unNil r74 <|
 asI .u64 v65 fun Serial75 =>
 asI .i64 v67 fun Cell76 =>
 asSl v69 fun RefsP77 RefsL78 RefsC79 =>
 asSl v71 fun ValsP80 ValsL81 ValsC82 =>
 asI .i64 v73 fun In83 =>
 asB v63 fun t84 =>
 newB (.cells #[(.int .u64 0), (.int .i64 0), (.slice none 0 0), (.slice none 0 0), (.int .i64 0)] ty_api_Object) Hx61 fun b85 Hx86 =>
 st ⟨b85, 0, none⟩ (.int .u64 Serial75) Hx86 fun Hx87 =>
 st ⟨b85, 1, none⟩ (.int .i64 Cell76) Hx87 fun Hx88 =>
 st ⟨b85, 2, none⟩ (.slice RefsP77 RefsL78 RefsC79) Hx88 fun Hx89 =>
 st ⟨b85, 3, none⟩ (.slice ValsP80 ValsL81 ValsC82) Hx89 fun Hx90 =>
 st ⟨b85, 4, none⟩ (.int .i64 In83) Hx90 fun Hx91 =>
 idxA mkP37 mkL38 k56 1 fun el92 =>
 ldB el92 Hx91 fun t93 =>
 (bif (!(t84 == t93)) then
 K (.bool false) Hx91
else
 idxA mkP37 mkL38 k56 1 fun el94 =>
 ldB el94 Hx91 fun t95 =>
 (bif (!t95) then
 (bif (decide ((atx55 : Int) ≥ (freedL50 : Int))) then
 K (.bool false) Hx91
else
 idxA freedP49 freedL50 atx55 1 fun el96 =>
 ldI .u64 el96 Hx91 fun t97 =>
 (bif ((t97 : Int) != (IntKind.u64.wrap k56)) then
 K (.bool false) Hx91
else
 R57 (IntKind.i64.wrap (atx55 + 1)) Hx91))
else
 R57 atx55 Hx91))
else
 hcall PR f_sweep_Sweeper_Step ⟨[(.pointer t33)]⟩ Hx54 fun v98 Hx99 =>
 tup2 v98 fun v100 v101 =>
 asI .u64 v100 fun t102 =>
 asB v101 fun t103 =>
 (bif ((atx55 : Int) == (freedL50 : Int)) then
 (bif (!t103) then
 nilP t19 fun ta104 =>
 ldI .u64 (ta104.add 2) Hx99 fun Last105 =>
 hcall PR f_heap_Heap_Last ⟨[(.pointer t18)]⟩ Hx99 fun v106 Hx107 =>
 asI .u64 v106 fun t108 =>
 (ldI .u64 (ta104.add 2) Hx107 fun Last109 =>
 ((.int .u64 Last109) : Value) = (.int .u64 Last105)) ∧
 (bif (decide ((t108 : Int) ≥ Last105)) then
 nilP t19 fun ta110 =>
 ldI .u64 (ta110.add 2) Hx107 fun Last111 =>
 hcall PR f_heap_Heap_Len ⟨[(.pointer t18)]⟩ Hx107 fun v112 Hx113 =>
 asI .i64 v112 fun t114 =>
 (ldI .u64 (ta110.add 2) Hx113 fun Last115 =>
 ((.int .u64 Last115) : Value) = (.int .u64 Last111)) ∧
 hcall PR f_heap_Heap_Last ⟨[(.pointer t18)]⟩ Hx113 fun v116 Hx117 =>
 asI .u64 v116 fun t118 =>
 (ldI .u64 (ta110.add 2) Hx117 fun Last119 =>
 ((.int .u64 Last119) : Value) = (.int .u64 Last111)) ∧
 K (.bool ((t114 : Int) == (IntKind.i64.wrap ((IntKind.i64.wrap (t8 - atx55)) + (IntKind.i64.wrap (IntKind.u64.wrap (t118 - Last111))))))) Hx117
else
 K (.bool false) Hx107)
else
 K (.bool false) Hx99)
else
 K (.bool false) Hx99))) → R47 freedP49 freedL50 freedC51 Hx48) →
 ∃ (I120 : Option Addr → Nat → Nat → Int → Hp → Prop) (m121 : Option Addr → Nat → Nat → Int → Hp → Nat), I120 none 0 0 0 Hx45 ∧ ∀ freedP123 : Option Addr, ∀ freedL124 : Nat, ∀ freedC125 : Nat, ∀ k126 : Int, ∀ Hx122 : Hp, I120 freedP123 freedL124 freedC125 k126 Hx122 →
 (bif (decide ((k126 : Int) < (IntKind.i64.wrap (t8 + 10)))) then
 ∀ R127 : Option Addr → Nat → Nat → Hp → Prop, (∀ freedP129 : Option Addr, ∀ freedL130 : Nat, ∀ freedC131 : Nat, ∀ Hx128 : Hp, (
 I120 freedP129 freedL130 freedC131 (IntKind.i64.wrap (k126 + 1)) Hx128 ∧ m121 freedP129 freedL130 freedC131 (IntKind.i64.wrap (k126 + 1)) Hx128 < m121 freedP123 freedL124 freedC125 k126 Hx122) → R127 freedP129 freedL130 freedC131 Hx128) →
 ∀ R132 : Hp → Prop, (∀ Hx133 : Hp, (
 hcall PR f_sweep_Sweeper_Step ⟨[(.pointer t33)]⟩ Hx133 fun v134 Hx135 =>
 tup2 v134 fun v136 v137 =>
 asI .u64 v136 fun t138 =>
 asB v137 fun t139 =>
 (bif (!t139) then
 R47 freedP123 freedL124 freedC125 Hx135
else
 (bif (decide ((t138 : Int) > 0)) then
 newB (.cells #[(.int .u64 t138)] ty_uint64) Hx135 fun b140 Hx141 =>
 evW PR (Builtin.append_ #[ty_Suint64, ty_Suint64] ty_Suint64 #[(.slice freedP123 freedL124 freedC125), (.slice (some ⟨b140, 0, none⟩) 1 1)]) Hx141 fun v142 Hx143 =>
 asSl v142 fun tP144 tL145 tC146 =>
 R127 tP144 tL145 tC146 Hx143
else
 R127 freedP123 freedL124 freedC125 Hx135))) → R132 Hx133) →
 (bif (decide ((k126 : Int) < t46)) then
 hcall PR f_heap_Heap_Make ⟨[(.pointer t18), (.int .i64 0), (.int .i64 0)]⟩ Hx122 fun v147 Hx148 =>
 tup2 v147 fun v149 v150 =>
 asI .u64 v149 fun t151 =>
 asI .i64 v150 fun t152 =>
 R132 Hx148
else
 R132 Hx122)
else
 R47 freedP123 freedL124 freedC125 Hx122)) → R40 Hx41) →
 ∃ (I153 : Int → Hp → Prop) (m154 : Int → Hp → Nat), I153 0 Hx36 ∧ ∀ i156 : Int, ∀ Hx155 : Hp, I153 i156 Hx155 →
 (bif (decide ((i156 : Int) < (marksL3 : Int))) then
 (bif (decide ((i156 : Int) < 60)) then
 idxA marksP2 marksL3 i156 1 fun el157 =>
 ldI .u64 el157 Hx155 fun t158 =>
 ((IntKind.u64.wrap (IntKind.i64.wrap (t8 + 1))) : Int) ≠ 0 ∧
 idxA mkP37 mkL38 (Int.tmod t158 (IntKind.u64.wrap (IntKind.i64.wrap (t8 + 1)))) 1 fun el159 =>
 st el159 (.bool true) Hx155 fun Hx160 =>
 hcall PR f_paint_Paint_Shade ⟨[(.pointer t27), (.agg #[(.int .i64 1), (.int .u64 (Int.tmod t158 (IntKind.u64.wrap (IntKind.i64.wrap (t8 + 1)))))]), (.int .i64 0)]⟩ Hx160 fun v161 Hx162 =>
 I153 (IntKind.i64.wrap (i156 + 1)) Hx162 ∧ m154 (IntKind.i64.wrap (i156 + 1)) Hx162 < m154 i156 Hx155
else
 R40 Hx155)
else
 R40 Hx155)))))))
theorem E_law15_SweepJust (n1 : Int) (marksP2 : Option Addr) (marksL3 : Nat) (marksC4 : Nat) (made5 : Int) (H : Hp) (K : Value → Hp → Prop) : B_law15_SweepJust n1 marksP2 marksL3 marksC4 made5 H K = denF Try.prog Try.f12 (.seq none .n (.seq none .n (.seq none .n (.seq none .n (.seq none .n (.seq none .n (.seq none .n (.seq none .n (.seq (some ⟨[], [0, 2, 7, 8, 11, 13]⟩) (.seq none .n (.sub (.loop ⟨[(14, .int .i64)], [0, 1, 2, 7, 8, 9, 11, 13]⟩ .n))) (.seq none .n (.seq none .n (.seq none .n (.seq (some ⟨[(16, .sl)], [0, 7, 8, 11, 13]⟩) (.seq none .n (.sub (.loop ⟨[(16, .sl), (17, .int .i64)], [0, 2, 7, 8, 11, 13]⟩ (.seq none .n (.seq (some ⟨[(16, .sl)], [0, 2, 7, 8, 11, 13, 17]⟩) (.sub (.seq (some ⟨[], [0, 2, 7, 8, 11, 13, 16, 17]⟩) .n .n)) .n))))) (.seq none .n (.seq none (.seq none .n (.sub (.loop ⟨[(20, .int .i64), (21, .int .i64)], [0, 7, 8, 11, 13, 16]⟩ (.seq none .n (.seq (some ⟨[(20, .int .i64)], [0, 7, 8, 11, 13, 16, 21]⟩) .n .n))))) .n))))))))))))))) [(.int .i64 n1), (.slice marksP2 marksL3 marksC4), (.int .i64 made5)] H K := by kernel_rfl
theorem den_law15_SweepJust {n1 : Int} {marksP2 : Option Addr} {marksL3 : Nat} {marksC4 : Nat} {made5 : Int} {H : Hp} {K : Value → Hp → Prop} (h : B_law15_SweepJust n1 marksP2 marksL3 marksC4 made5 H K) : hcall PR f_law15_SweepJust ⟨[(.int .i64 n1), (.slice marksP2 marksL3 marksC4), (.int .i64 made5)]⟩ H K := denF_call Try.func12 PR_mixed (Eq.mp (E_law15_SweepJust n1 marksP2 marksL3 marksC4 made5 H K) h)

end Go.Proofs.Ytohlnmenghbgbaa

/- PRINTED by gen.py: functions as plain propositions, held against the program by the kernel. No condition. -/
namespace Go.Proofs.Ytohlnmenghbgbaa
open Go
set_option linter.unusedVariables false
set_option maxRecDepth 100000

def B_law15_SweepKnown  (H : Hp) (K : Value → Hp → Prop) : Prop :=
 hcall PR f_hand_Graph_Heaps ⟨[(.agg #[(.slice none 0 0), (.slice none 0 0), (.slice none 0 0)]), (.int .i64 5)]⟩ H fun v1 Hx2 =>
 tup2 v1 fun v3 v4 =>
 asP v3 fun t5 =>
 asP v4 fun t6 =>
 hcall PR f_law15_known ⟨[]⟩ Hx2 fun v7 Hx8 =>
 asB v7 fun t9 =>
 (bif (!t9) then
 K (.bool false) Hx8
else
 (bif (Option.isNone (α := Addr) t5) then
 K (.bool false) Hx8
else
 hcall PR f_paint_New ⟨[(.pointer t5), (.int .i64 2)]⟩ Hx8 fun v10 Hx11 =>
 tup2 v10 fun v12 v13 =>
 asP v12 fun t14 =>
 asI .i64 v13 fun t15 =>
 hcall PR f_sweep_New ⟨[(.pointer none), (.pointer t14)]⟩ Hx11 fun v16 Hx17 =>
 tup2 v16 fun v18 v19 =>
 asP v18 fun t20 =>
 asI .i64 v19 fun t21 =>
 hcall PR f_sweep_New ⟨[(.pointer t5), (.pointer none)]⟩ Hx17 fun v22 Hx23 =>
 tup2 v22 fun v24 v25 =>
 asP v24 fun t26 =>
 asI .i64 v25 fun t27 =>
 hcall PR f_sweep_New ⟨[(.pointer t5), (.pointer t14)]⟩ Hx23 fun v28 Hx29 =>
 tup2 v28 fun v30 v31 =>
 asP v30 fun t32 =>
 asI .i64 v31 fun t33 =>
 (bif ((t21 : Int) != 1) then
 K (.bool false) Hx29
else
 (bif ((t27 : Int) != 1) then
 K (.bool false) Hx29
else
 (bif ((t33 : Int) != 0) then
 K (.bool false) Hx29
else
 (bif (Option.isNone (α := Addr) t32) then
 K (.bool false) Hx29
else
 hcall PR f_sweep_Sweeper_Step ⟨[(.pointer t32)]⟩ Hx29 fun v34 Hx35 =>
 tup2 v34 fun v36 v37 =>
 asI .u64 v36 fun t38 =>
 asB v37 fun t39 =>
 K (.bool (!t39)) Hx35))))))
theorem E_law15_SweepKnown  (H : Hp) (K : Value → Hp → Prop) : B_law15_SweepKnown  H K = denF Try.prog Try.f11 .n [] H K := by kernel_rfl
theorem den_law15_SweepKnown  {H : Hp} {K : Value → Hp → Prop} (h : B_law15_SweepKnown  H K) : hcall PR f_law15_SweepKnown ⟨[]⟩ H K := denF_call Try.func11 PR_mixed (Eq.mp (E_law15_SweepKnown  H K) h)

end Go.Proofs.Ytohlnmenghbgbaa

/- PRINTED by gen.py: functions as plain propositions, held against the program by the kernel. No condition. -/
namespace Go.Proofs.Ytohlnmenghbgbaa
open Go
set_option linter.unusedVariables false
set_option maxRecDepth 100000

def B_law15_SweepPlays (n1 : Int) (marksP2 : Option Addr) (marksL3 : Nat) (marksC4 : Nat) (lP5 : Option Addr) (lL6 : Nat) (lC7 : Nat) (H : Hp) (K : Value → Hp → Prop) : Prop :=
 hcall PR f_hand_Pick ⟨[(.int .i64 n1), (.int .i64 30)]⟩ H fun v8 Hx9 =>
 asI .i64 v8 fun t10 =>
 evW PR (Instr.makeSlice ty_SSint (.int .i64 t10) (.int .i64 t10)) Hx9 fun v11 Hx12 =>
 asSl v11 fun mkP13 mkL14 mkC15 =>
 hcall PR f_hand_Graph_Heaps ⟨[(.agg #[(.slice mkP13 mkL14 mkC15), (.slice none 0 0), (.slice none 0 0)]), (.int .i64 30)]⟩ Hx12 fun v16 Hx17 =>
 tup2 v16 fun v18 v19 =>
 asP v18 fun t20 =>
 asP v19 fun t21 =>
 hcall PR f_law15_known ⟨[]⟩ Hx17 fun v22 Hx23 =>
 asB v22 fun t24 =>
 (bif (!t24) then
 K (.bool false) Hx23
else
 (bif (Option.isNone (α := Addr) t20) then
 K (.bool false) Hx23
else
 hcall PR f_paint_New ⟨[(.pointer t20), (.int .i64 3)]⟩ Hx23 fun v25 Hx26 =>
 tup2 v25 fun v27 v28 =>
 asP v27 fun t29 =>
 asI .i64 v28 fun t30 =>
 hcall PR f_sweep_New ⟨[(.pointer t20), (.pointer t29)]⟩ Hx26 fun v31 Hx32 =>
 tup2 v31 fun v33 v34 =>
 asP v33 fun t35 =>
 asI .i64 v34 fun t36 =>
 (bif ((t30 : Int) != 0) then
 K (.bool false) Hx32
else
 (bif ((t36 : Int) != 0) then
 K (.bool false) Hx32
else
 (bif (Option.isNone (α := Addr) t29) then
 K (.bool false) Hx32
else
 (bif (Option.isNone (α := Addr) t35) then
 K (.bool false) Hx32
else
 hcall PR f_ref11_NewPaint ⟨[(.pointer t21), (.int .i64 3)]⟩ Hx32 fun v37 Hx38 =>
 asP v37 fun t39 =>
 newB (.cells #[(.pointer t21), (.pointer t39), (.int .u64 0), (.int .u64 0)] ty_ref11_Sweeper) Hx38 fun b40 Hx41 =>
 ∀ R42 : Hp → Prop, (∀ Hx43 : Hp, (
 hcall PR f_sweep_Sweeper_Begin ⟨[(.pointer t35)]⟩ Hx43 fun v44 Hx45 =>
 hcall PR f_ref11_Sweeper_Begin ⟨[(.pointer (some ⟨b40, 0, none⟩))]⟩ Hx45 fun v46 Hx47 =>
 ∀ R48 : Hp → Prop, (∀ Hx49 : Hp, (
 ∃ (I50 : Int → Int → Hp → Prop) (m51 : Int → Int → Hp → Nat), I50 0 0 Hx49 ∧ ∀ atx53 : Int, ∀ i54 : Int, ∀ Hx52 : Hp, I50 atx53 i54 Hx52 →
 nilP t21 fun ta55 =>
 ldSl (ta55.add 4) Hx52 fun LP56 LL57 LC58 =>
 (bif (decide ((i54 : Int) < (LL57 : Int))) then
 hcall PR f_heap_Heap_Next ⟨[(.pointer t20), (.int .u64 atx53)]⟩ Hx52 fun v59 Hx60 =>
 tup2 v59 fun v61 v62 =>
 asI .u64 v61 fun t63 =>
 asB v62 fun t64 =>
 (bif (!t64) then
 K (.bool false) Hx60
else
 nilP t21 fun ta65 =>
 ldSl (ta65.add 4) Hx60 fun LP66 LL67 LC68 =>
 idxA LP66 LL67 i54 1 fun el69 =>
 ldP el69 Hx60 fun t70 =>
 nilP t70 fun ta71 =>
 ldI .u64 ta71 Hx60 fun Serial72 =>
 (bif ((t63 : Int) != Serial72) then
 K (.bool false) Hx60
else
 I50 t63 (IntKind.i64.wrap (i54 + 1)) Hx60 ∧ m51 t63 (IntKind.i64.wrap (i54 + 1)) Hx60 < m51 atx53 i54 Hx52))
else
 K (.bool true) Hx52)) → R48 Hx49) →
 ∃ (I73 : Int → Hp → Prop) (m74 : Int → Hp → Nat), I73 0 Hx47 ∧ ∀ i76 : Int, ∀ Hx75 : Hp, I73 i76 Hx75 →
 (bif (decide ((i76 : Int) < (lL6 : Int))) then
 (bif (decide ((i76 : Int) < 200)) then
 idxA lP5 lL6 i76 2 fun el77 =>
 ldI .u64 (el77.add 1) Hx75 fun Serial78 =>
 nilP t21 fun ta79 =>
 ldI .u64 (ta79.add 2) Hx75 fun Last80 =>
 ((IntKind.u64.wrap (Last80 + 2)) : Int) ≠ 0 ∧
 ∀ R81 : Hp → Prop, (∀ Hx82 : Hp, (
 nilP t21 fun ta83 =>
 ldSl (ta83.add 4) Hx82 fun LP84 LL85 LC86 =>
 hcall PR f_heap_Heap_Len ⟨[(.pointer t20)]⟩ Hx82 fun v87 Hx88 =>
 asI .i64 v87 fun t89 =>
 (ldSl (ta83.add 4) Hx88 fun LP90 LL91 LC92 =>
 ((.slice LP90 LL91 LC92) : Value) = (.slice LP84 LL85 LC86)) ∧
 (bif ((t89 : Int) != (LL85 : Int)) then
 K (.bool false) Hx88
else
 I73 (IntKind.i64.wrap (i76 + 1)) Hx88 ∧ m74 (IntKind.i64.wrap (i76 + 1)) Hx88 < m74 i76 Hx75)) → R81 Hx82) →
 idxA lP5 lL6 i76 2 fun el93 =>
 ldI .i64 el93 Hx75 fun What94 =>
 hcall PR f_hand_Pick ⟨[(.int .i64 What94), (.int .i64 8)]⟩ Hx75 fun v95 Hx96 =>
 asI .i64 v95 fun t97 =>
 (bif ((t97 : Int) == 4) then
 hcall PR f_paint_Paint_Shade ⟨[(.pointer t29), (.agg #[(.int .i64 1), (.int .u64 (Int.tmod Serial78 (IntKind.u64.wrap (Last80 + 2))))]), (.int .i64 2)]⟩ Hx96 fun v98 Hx99 =>
 hcall PR f_ref11_Paint_Shade ⟨[(.pointer t39), (.agg #[(.int .i64 1), (.int .u64 (Int.tmod Serial78 (IntKind.u64.wrap (Last80 + 2))))]), (.int .i64 2)]⟩ Hx99 fun v100 Hx101 =>
 R81 Hx101
else
 (bif ((t97 : Int) == 5) then
 hcall PR f_heap_Heap_Make ⟨[(.pointer t20), (.int .i64 0), (.int .i64 0)]⟩ Hx96 fun v102 Hx103 =>
 tup2 v102 fun v104 v105 =>
 asI .u64 v104 fun t106 =>
 asI .i64 v105 fun t107 =>
 hcall PR f_ref8_Heap_Make ⟨[(.pointer t21), (.int .i64 0), (.int .i64 0)]⟩ Hx103 fun v108 Hx109 =>
 tup2 v108 fun v110 v111 =>
 asI .u64 v110 fun t112 =>
 asI .i64 v111 fun t113 =>
 R81 Hx109
else
 (bif ((t97 : Int) == 6) then
 idxA lP5 lL6 i76 2 fun el114 =>
 ldI .u64 (el114.add 1) Hx96 fun Serial115 =>
 (3 : Int) ≠ 0 ∧
 (bif (((Int.tmod Serial115 3) : Int) == 0) then
 hcall PR f_sweep_Sweeper_Begin ⟨[(.pointer t35)]⟩ Hx96 fun v116 Hx117 =>
 hcall PR f_ref11_Sweeper_Begin ⟨[(.pointer (some ⟨b40, 0, none⟩))]⟩ Hx117 fun v118 Hx119 =>
 R81 Hx119
else
 R81 Hx96)
else
 (bif ((t97 : Int) == 7) then
 hcall PR f_heap_Heap_Free ⟨[(.pointer t20), (.int .u64 (Int.tmod Serial78 (IntKind.u64.wrap (Last80 + 2))))]⟩ Hx96 fun v120 Hx121 =>
 asI .i64 v120 fun t122 =>
 hcall PR f_ref8_Heap_Free ⟨[(.pointer t21), (.int .u64 (Int.tmod Serial78 (IntKind.u64.wrap (Last80 + 2))))]⟩ Hx121 fun v123 Hx124 =>
 asI .i64 v123 fun t125 =>
 R81 Hx124
else
 hcall PR f_sweep_Sweeper_Step ⟨[(.pointer t35)]⟩ Hx96 fun v126 Hx127 =>
 tup2 v126 fun v128 v129 =>
 asI .u64 v128 fun t130 =>
 asB v129 fun t131 =>
 hcall PR f_ref11_Sweeper_Step ⟨[(.pointer (some ⟨b40, 0, none⟩))]⟩ Hx127 fun v132 Hx133 =>
 tup2 v132 fun v134 v135 =>
 asI .u64 v134 fun t136 =>
 asB v135 fun t137 =>
 (bif ((t130 : Int) != t136) then
 K (.bool false) Hx133
else
 (bif (!(t131 == t137)) then
 K (.bool false) Hx133
else
 R81 Hx133))))))
else
 R48 Hx75)
else
 R48 Hx75)) → R42 Hx43) →
 ∃ (I138 : Int → Hp → Prop) (m139 : Int → Hp → Nat), I138 0 Hx41 ∧ ∀ i141 : Int, ∀ Hx140 : Hp, I138 i141 Hx140 →
 (bif (decide ((i141 : Int) < (marksL3 : Int))) then
 (bif (decide ((i141 : Int) < 40)) then
 idxA marksP2 marksL3 i141 1 fun el142 =>
 ldI .u64 el142 Hx140 fun t143 =>
 ((IntKind.u64.wrap (IntKind.i64.wrap (t10 + 1))) : Int) ≠ 0 ∧
 newB (.cells #[(.int .i64 0), (.int .u64 0)] ty_api_ID) Hx140 fun b144 Hx145 =>
 st ⟨b144, 0, none⟩ (.int .i64 1) Hx145 fun Hx146 =>
 st ⟨b144, 1, none⟩ (.int .u64 (Int.tmod t143 (IntKind.u64.wrap (IntKind.i64.wrap (t10 + 1))))) Hx146 fun Hx147 =>
 ldI .i64 ⟨b144, 0, none⟩ Hx147 fun Node148 =>
 ldI .u64 ⟨b144, 1, none⟩ Hx147 fun Serial149 =>
 hcall PR f_paint_Paint_Shade ⟨[(.pointer t29), (.agg #[(.int .i64 Node148), (.int .u64 Serial149)]), (.int .i64 1)]⟩ Hx147 fun v150 Hx151 =>
 ldI .i64 ⟨b144, 0, none⟩ Hx151 fun Node152 =>
 ldI .u64 ⟨b144, 1, none⟩ Hx151 fun Serial153 =>
 hcall PR f_ref11_Paint_Shade ⟨[(.pointer t39), (.agg #[(.int .i64 Node152), (.int .u64 Serial153)]), (.int .i64 1)]⟩ Hx151 fun v154 Hx155 =>
 I138 (IntKind.i64.wrap (i141 + 1)) Hx155 ∧ m139 (IntKind.i64.wrap (i141 + 1)) Hx155 < m139 i141 Hx140
else
 R42 Hx140)
else
 R42 Hx140)))))))
theorem E_law15_SweepPlays (n1 : Int) (marksP2 : Option Addr) (marksL3 : Nat) (marksC4 : Nat) (lP5 : Option Addr) (lL6 : Nat) (lC7 : Nat) (H : Hp) (K : Value → Hp → Prop) : B_law15_SweepPlays n1 marksP2 marksL3 marksC4 lP5 lL6 lC7 H K = denF Try.prog Try.f13 (.seq none .n (.seq none .n (.seq none .n (.seq none .n (.seq none .n (.seq none .n (.seq none .n (.seq none .n (.seq none .n (.seq (some ⟨[], [2, 7, 8, 9, 11, 13, 14]⟩) (.seq none .n (.sub (.loop ⟨[(15, .int .i64)], [0, 1, 2, 7, 8, 9, 11, 13, 14]⟩ .n))) (.seq none .n (.seq none .n (.seq (some ⟨[], [7, 8]⟩) (.seq none .n (.sub (.loop ⟨[(17, .int .i64)], [2, 7, 8, 9, 11, 13, 14]⟩ (.seq none .n (.seq none (.sub (.seq none .n (.seq (some ⟨[], [2, 7, 8, 9, 11, 13, 14, 17]⟩) .n .n))) .n))))) (.seq none .n (.seq none (.seq none .n (.sub (.loop ⟨[(23, .int .u64), (24, .int .i64)], [7, 8]⟩ .n))) .n))))))))))))))) [(.int .i64 n1), (.slice marksP2 marksL3 marksC4), (.slice lP5 lL6 lC7)] H K := by kernel_rfl
theorem den_law15_SweepPlays {n1 : Int} {marksP2 : Option Addr} {marksL3 : Nat} {marksC4 : Nat} {lP5 : Option Addr} {lL6 : Nat} {lC7 : Nat} {H : Hp} {K : Value → Hp → Prop} (h : B_law15_SweepPlays n1 marksP2 marksL3 marksC4 lP5 lL6 lC7 H K) : hcall PR f_law15_SweepPlays ⟨[(.int .i64 n1), (.slice marksP2 marksL3 marksC4), (.slice lP5 lL6 lC7)]⟩ H K := denF_call Try.func13 PR_mixed (Eq.mp (E_law15_SweepPlays n1 marksP2 marksL3 marksC4 lP5 lL6 lC7 H K) h)

end Go.Proofs.Ytohlnmenghbgbaa

/- Chapter 15's statements, run: SweepKnown, SweepPlays. No condition. -/
namespace Go.Proofs.Ytohlnmenghbgbaa
set_option linter.unusedSimpArgs false
set_option linter.unusedVariables false
open Go

theorem known15_ok {H0 H : Hp} {L : List Prt} {K : Value → Hp → Prop} (h : St H0 L H) (hK : ∀ H', St H0 L H' → K (.bool true) H') : hcall PR f_law15_known ⟨[]⟩ H K := by
  apply den_law15_known
  unfold B_law15_known
  intro b1 hb1
  have h1 := h.alloc (o := .cells #[.slice none 0 0, .slice none 0 0] ty_Sint) hb1
  refine HeapsC (most := 5) (nilsG_at (n := 2) (h1.one_rd (i := 0) (n := 2) rfl rfl)) (nilsG_ok (by omega)) (by omega) fun hb rb s H2 hs h2 => ?_
  rw [nilsG_size (by omega)] at hs
  have h2 := h1.join h2
  simp only [asI_mk', asB_mk, asP_mk, asA_mk, asM_mk, asSl_mk, asStr_mk, tup2_mk, tup3_mk, agg1_mk, agg2_mk, agg3_mk, agg4_mk, asAggm, unCons_mk, unNil_mk, asTup_mk, extractD0, extractD1, List.toList_toArray, nilP_mk, add_mk, Nat.zero_add, Nat.add_zero, condT, condF, Bool.not_true, Bool.not_false, Option.isNone_some, Option.isNone_none]
  refine pNewOk h2 (by omega) (by omega) fun pb H3 h3 => ?_
  simp only [asI_mk', asB_mk, asP_mk, asA_mk, asM_mk, asSl_mk, asStr_mk, tup2_mk, tup3_mk, agg1_mk, agg2_mk, agg3_mk, agg4_mk, asAggm, unCons_mk, unNil_mk, asTup_mk, extractD0, extractD1, List.toList_toArray, nilP_mk, add_mk, Nat.zero_add, Nat.add_zero, condT, condF, Bool.not_true, Bool.not_false, Option.isNone_some, Option.isNone_none]
  refine swNewC (pb := pb) h3 (i := 1) rfl fun sb H4 h4 => ?_
  simp only [asI_mk', asB_mk, asP_mk, asA_mk, asM_mk, asSl_mk, asStr_mk, tup2_mk, tup3_mk, agg1_mk, agg2_mk, agg3_mk, agg4_mk, asAggm, unCons_mk, unNil_mk, asTup_mk, extractD0, extractD1, List.toList_toArray, nilP_mk, add_mk, Nat.zero_add, Nat.add_zero, condT, condF, Bool.not_true, Bool.not_false, Option.isNone_some, Option.isNone_none]
  refine bif_neqf rfl (bif_neqf rfl ?_)
  refine pShadeC (y := ⟨1, 1⟩) h4 (i := 2) (j := 1) rfl rfl (by decide) fun H5 h5 => ?_
  have g1 : ∀ m : Int, hGet s m ≠ none ↔ 1 ≤ m ∧ m ≤ 2 := fun m => hs.has
  have hp : pShade s (newPs 2) ⟨1, 1⟩ 0 = ⟨[(1, (0, true))], [], [1], 2, false, 0⟩ := by
    have h11 : ¬ hGet s 1 = none := (g1 1).2 (by omega)
    unfold pShade
    rw [if_neg (by decide), if_neg (by rw [hs.node]; simp), if_neg h11]
    rfl
  rw [hp] at h5
  have h5 : St H0 (SwP ty_sweep_Sweeper sb hb pb 0 s.last :: PaintP pb hb ⟨[(1, (0, true))], [], [1], 2, false, 0⟩ :: HeapP hb s :: RHeap rb s :: Prt.one b1 (.cells #[.slice none 0 0, .slice none 0 0] ty_Sint (0, 0)) :: L) H5 := h5
  refine swBeginC h5 (i := 2) (k := 0) rfl rfl fun H6 h6 => ?_
  have h6 : St H0 (SwP ty_sweep_Sweeper sb hb pb 0 s.last :: PaintP pb hb ⟨[(1, (0, true))], [], [1], 2, false, 0⟩ :: HeapP hb s :: RHeap rb s :: Prt.one b1 (.cells #[.slice none 0 0, .slice none 0 0] ty_Sint (0, 0)) :: L) H6 := h6
  obtain ⟨s', c', m0, m1, m2, m3, m4, m5, m6⟩ := hMake_good' (r := 0) (v := 0) hs.ok (by omega) (by omega) (by rw [hs.len, hs.most]; decide) (by rw [hs.last]; decide) (by have := hs.room; omega)
  refine hMakeC h6 (i := 2) rfl (by decide) (by decide) fun H7 h7 => ?_
  rw [m0] at h7 ⊢
  have h7 : St H0 (SwP ty_sweep_Sweeper sb hb pb 0 s.last :: PaintP pb hb ⟨[(1, (0, true))], [], [1], 2, false, 0⟩ :: HeapP hb s' :: RHeap rb s :: Prt.one b1 (.cells #[.slice none 0 0, .slice none 0 0] ty_Sint (0, 0)) :: L) H7 := h7
  simp only [asI_mk', asB_mk, asP_mk, asA_mk, asM_mk, asSl_mk, asStr_mk, tup2_mk, tup3_mk, agg1_mk, agg2_mk, agg3_mk, agg4_mk, asAggm, unCons_mk, unNil_mk, asTup_mk, extractD0, extractD1, List.toList_toArray, nilP_mk, add_mk, Nat.zero_add, Nat.add_zero, condT, condF, Bool.not_true, Bool.not_false, Option.isNone_some, Option.isNone_none]
  have hl2 : s.last = 2 := hs.last
  rw [hl2] at h7 m4
  have g2 : ∀ m : Int, hGet s' m ≠ none ↔ 1 ≤ m ∧ m ≤ 3 := fun m => by
    rw [get_append hs.ok m4 (by rw [hl2]), hl2]
    by_cases e : m = 3
    · rw [if_pos (by omega)]; simp; omega
    · rw [if_neg (by omega), g1]; omega
  have n1 : hNext s' 0 = (1, true) := hNext_is m6 ((g2 1).2 (by omega)) (by omega) fun k h1 h2 => by omega
  have n2 : hNext s' 1 = (2, true) := hNext_is m6 ((g2 2).2 (by omega)) (by omega) fun k h1 h2 => by omega
  have hg1 : ¬ hGet s' 1 = none := (g2 1).2 (by omega)
  have k1 : pMark s' ⟨[(1, (0, true))], [], [1], 2, false, 0⟩ 1 = (0, true, true) := by
    simp only [pMark, mlook]
    simp [hg1]
  have k2 : pMark s' ⟨[(1, (0, true))], [], [1], 2, false, 0⟩ 2 = (0, false, false) := by
    simp [pMark, mlook]
  have w1 : swStep s' ⟨[(1, (0, true))], [], [1], 2, false, 0⟩ 0 2 = ((0, true), s', ⟨[(1, (0, true))], [], [1], 2, false, 0⟩, 1) := by
    unfold swStep
    rw [n1, if_neg (by simp), k1, if_pos rfl]
  have w2 : swStep s' ⟨[(1, (0, true))], [], [1], 2, false, 0⟩ 1 2 = ((2, true), (hFree s' 2).2, ⟨[(1, (0, true))], [], [1], 2, false, 0⟩, 2) := by
    unfold swStep
    rw [n2, if_neg (by simp), k2, if_neg (by decide)]
    rfl
  have n3 : hNext (hFree s' 2).2 2 = (3, true) := hNext_is (m6.free 2) (by rw [hFree_get, if_neg (by decide)]; exact (g2 3).2 (by omega)) (by omega) fun k h1 h2 => by omega
  have w3 : swStep (hFree s' 2).2 ⟨[(1, (0, true))], [], [1], 2, false, 0⟩ 2 2 = ((0, false), (hFree s' 2).2, ⟨[(1, (0, true))], [], [1], 2, false, 0⟩, 2) := by
    unfold swStep
    rw [n3, if_pos (by simp)]
  refine swStepC h7 (i := 2) (j := 1) (k := 0) rfl rfl rfl (by decide) (by decide) (by decide) fun H8 h8 => ?_
  rw [w1] at h8 ⊢
  simp only [asI_mk', asB_mk, asP_mk, asA_mk, asM_mk, asSl_mk, asStr_mk, tup2_mk, tup3_mk, agg1_mk, agg2_mk, agg3_mk, agg4_mk, asAggm, unCons_mk, unNil_mk, asTup_mk, extractD0, extractD1, List.toList_toArray, nilP_mk, add_mk, Nat.zero_add, Nat.add_zero, condT, condF, Bool.not_true, Bool.not_false, Option.isNone_some, Option.isNone_none]
  refine swStepC (L := _ :: _ :: _ :: _ :: _ :: L) h8 (i := 2) (j := 1) (k := 0) rfl rfl rfl (by decide) (by decide) (by decide) fun H9 h9 => ?_
  rw [w2] at h9 ⊢
  simp only [asI_mk', asB_mk, asP_mk, asA_mk, asM_mk, asSl_mk, asStr_mk, tup2_mk, tup3_mk, agg1_mk, agg2_mk, agg3_mk, agg4_mk, asAggm, unCons_mk, unNil_mk, asTup_mk, extractD0, extractD1, List.toList_toArray, nilP_mk, add_mk, Nat.zero_add, Nat.add_zero, condT, condF, Bool.not_true, Bool.not_false, Option.isNone_some, Option.isNone_none]
  refine swStepC (L := _ :: _ :: _ :: _ :: _ :: L) h9 (i := 2) (j := 1) (k := 0) rfl rfl rfl (by decide) (by decide) (by decide) fun H10 h10 => ?_
  rw [w3] at h10 ⊢
  simp only [asI_mk', asB_mk, asP_mk, asA_mk, asM_mk, asSl_mk, asStr_mk, tup2_mk, tup3_mk, agg1_mk, agg2_mk, agg3_mk, agg4_mk, asAggm, unCons_mk, unNil_mk, asTup_mk, extractD0, extractD1, List.toList_toArray, nilP_mk, add_mk, Nat.zero_add, Nat.add_zero, condT, condF, Bool.not_true, Bool.not_false, Option.isNone_some, Option.isNone_none]
  refine bif_eq rfl (bif_eq rfl (bif_eq rfl ?_))
  refine hLen (L := _ :: _ :: _ :: _ :: _ :: L) h10 (i := 2) rfl ?_
  (try simp only [asI_mk', asB_mk, asP_mk, asA_mk, asM_mk, asSl_mk, asStr_mk, tup2_mk, tup3_mk, agg1_mk, agg2_mk, agg3_mk, agg4_mk, asAggm, unCons_mk, unNil_mk, asTup_mk, extractD0, extractD1, List.toList_toArray, nilP_mk, add_mk, Nat.zero_add, Nat.add_zero, condT, condF, Bool.not_true, Bool.not_false, Option.isNone_some, Option.isNone_none])
  have hlen := hFree_len m6 (k := 2) ((g2 2).2 (by omega))
  have hlen2 : s'.obs.length = 3 := by rw [m4]; simp [hs.len]
  rw [show (((hFree s' 2).2.obs.length : Nat) : Int) = 2 by omega]
  exact hK H10 (St.lesses (M := [_, _, _, _, _]) h10)

theorem SweepKnown_ok {H : Hp} {K : Value → Hp → Prop} (hK : ∀ H', Keep Nothing H H' → K (.bool true) H') : hcall PR f_law15_SweepKnown ⟨[]⟩ H K := by
  apply den_law15_SweepKnown
  unfold B_law15_SweepKnown
  refine HeapsC (most := 5) (nilsG_at (n := 0) rd_nil) (nilsG_ok (by omega)) (by omega) fun hb rb s H2 hs h2 => ?_
  rw [nilsG_size (by omega)] at hs
  simp only [asI_mk', asB_mk, asP_mk, asA_mk, asM_mk, asSl_mk, asStr_mk, tup2_mk, tup3_mk, agg1_mk, agg2_mk, agg3_mk, agg4_mk, asAggm, unCons_mk, unNil_mk, asTup_mk, extractD0, extractD1, List.toList_toArray, nilP_mk, add_mk, Nat.zero_add, Nat.add_zero, condT, condF, Bool.not_true, Bool.not_false, Option.isNone_some, Option.isNone_none]
  refine known15_ok h2 fun H3 h3 => ?_
  simp only [asI_mk', asB_mk, asP_mk, asA_mk, asM_mk, asSl_mk, asStr_mk, tup2_mk, tup3_mk, agg1_mk, agg2_mk, agg3_mk, agg4_mk, asAggm, unCons_mk, unNil_mk, asTup_mk, extractD0, extractD1, List.toList_toArray, nilP_mk, add_mk, Nat.zero_add, Nat.add_zero, condT, condF, Bool.not_true, Bool.not_false, Option.isNone_some, Option.isNone_none]
  refine pNewOk h3 (by omega) (by omega) fun pb H4 h4 => ?_
  simp only [asI_mk', asB_mk, asP_mk, asA_mk, asM_mk, asSl_mk, asStr_mk, tup2_mk, tup3_mk, agg1_mk, agg2_mk, agg3_mk, agg4_mk, asAggm, unCons_mk, unNil_mk, asTup_mk, extractD0, extractD1, List.toList_toArray, nilP_mk, add_mk, Nat.zero_add, Nat.add_zero, condT, condF, Bool.not_true, Bool.not_false, Option.isNone_some, Option.isNone_none]
  refine swNewNil1 ?_
  simp only [asI_mk', asB_mk, asP_mk, asA_mk, asM_mk, asSl_mk, asStr_mk, tup2_mk, tup3_mk, agg1_mk, agg2_mk, agg3_mk, agg4_mk, asAggm, unCons_mk, unNil_mk, asTup_mk, extractD0, extractD1, List.toList_toArray, nilP_mk, add_mk, Nat.zero_add, Nat.add_zero, condT, condF, Bool.not_true, Bool.not_false, Option.isNone_some, Option.isNone_none]
  refine swNewNil2 ?_
  simp only [asI_mk', asB_mk, asP_mk, asA_mk, asM_mk, asSl_mk, asStr_mk, tup2_mk, tup3_mk, agg1_mk, agg2_mk, agg3_mk, agg4_mk, asAggm, unCons_mk, unNil_mk, asTup_mk, extractD0, extractD1, List.toList_toArray, nilP_mk, add_mk, Nat.zero_add, Nat.add_zero, condT, condF, Bool.not_true, Bool.not_false, Option.isNone_some, Option.isNone_none]
  refine swNewC (pb := pb) h4 (i := 1) rfl fun sb H5 h5 => ?_
  simp only [asI_mk', asB_mk, asP_mk, asA_mk, asM_mk, asSl_mk, asStr_mk, tup2_mk, tup3_mk, agg1_mk, agg2_mk, agg3_mk, agg4_mk, asAggm, unCons_mk, unNil_mk, asTup_mk, extractD0, extractD1, List.toList_toArray, nilP_mk, add_mk, Nat.zero_add, Nat.add_zero, condT, condF, Bool.not_true, Bool.not_false, Option.isNone_some, Option.isNone_none]
  refine bif_neqf rfl (bif_neqf rfl (bif_neqf rfl ?_))
  refine swStepC h5 (i := 2) (j := 1) (k := 0) rfl rfl rfl (by decide) (by decide) (by decide) fun H6 h6 => ?_
  have n1 : hNext s 0 = (0, false) := hNext_none hs.ok fun k hk => by
    have := hs.has (m := k)
    cases hg : hGet s k with
    | none => rfl
    | some o =>
      rw [hg] at this
      have := this.1 (by simp)
      omega
  have w1 : swStep s (newPs 2) 0 s.last = ((0, false), s, newPs 2, 0) := by
    unfold swStep
    rw [n1, if_pos (by simp)]
  rw [w1] at h6 ⊢
  simp only [asI_mk', asB_mk, asP_mk, asA_mk, asM_mk, asSl_mk, asStr_mk, tup2_mk, tup3_mk, agg1_mk, agg2_mk, agg3_mk, agg4_mk, asAggm, unCons_mk, unNil_mk, asTup_mk, extractD0, extractD1, List.toList_toArray, nilP_mk, add_mk, Nat.zero_add, Nat.add_zero, condT, condF, Bool.not_true, Bool.not_false, Option.isNone_some, Option.isNone_none]
  exact hK H6 h6.keep

theorem swStep_lt {s : Hs} {p : Ps} {pl e : Int} {n : Nat} (h : p.lt n) : (swStep s p pl e).2.2.1.lt n := by
  unfold swStep
  split
  · exact h
  · split
    · exact h
    · exact h.forget

set_option maxRecDepth 20000 in
theorem SweepPlays_ok {n : Int} {mP : Option Addr} {mL mC : Nat} {marks : List Int} {lP : Option Addr} {lL lC : Nat} {l : List E_law15_Step} {H : Hp} {K : Value → Hp → Prop} (hn : IntKind.min .i64 ≤ n ∧ n ≤ IntKind.max .i64)
    (hmr : Rd H 1 mP mL (marks.map fun s => .int .u64 s)) (hml : mL ≤ 9223372036854775807) (hmok : ∀ x ∈ marks, IntKind.min .u64 ≤ x ∧ x ≤ IntKind.max .u64)
    (hr : Rd H 2 lP lL (cel E_law15_Step.cells l)) (hl : lL ≤ 9223372036854775807) (hok : ∀ x ∈ l, x.ok) (hK : ∀ H', Keep Nothing H H' → K (.bool true) H') :
    hcall PR f_law15_SweepPlays ⟨[.int .i64 n, .slice mP mL mC, .slice lP lL lC]⟩ H K := by
  apply den_law15_SweepPlays
  unfold B_law15_SweepPlays
  have u0 : IntKind.min .u64 = 0 := by decide
  have u1 : IntKind.max .u64 = 18446744073709551615 := by decide
  refine Pick_ok (by omega) (by omega) ?_
  simp only [asI_mk', asB_mk, asP_mk, asA_mk, asM_mk, asSl_mk, asStr_mk, tup2_mk, tup3_mk, agg1_mk, agg2_mk, agg3_mk, agg4_mk, asAggm, unCons_mk, unNil_mk, asTup_mk, extractD0, extractD1, List.toList_toArray, nilP_mk, add_mk, Nat.zero_add, Nat.add_zero, condT, condF, Bool.not_true, Bool.not_false, Option.isNone_some, Option.isNone_none]
  have p1 := pick_lt (n := n) (m := 30) (by omega)
  generalize pick n 30 = n0 at *
  obtain ⟨n, rfl⟩ : ∃ k : Nat, n0 = k := ⟨n0.toNat, by omega⟩
  refine mko_ty_SSint (by omega) (by omega) (by omega) fun gp H1 go gg => ?_
  rw [Int.toNat_natCast] at go ⊢
  have h1 := (St.start H).row go gg
  simp only [asI_mk', asB_mk, asP_mk, asA_mk, asM_mk, asSl_mk, asStr_mk, tup2_mk, tup3_mk, agg1_mk, agg2_mk, agg3_mk, agg4_mk, asAggm, unCons_mk, unNil_mk, asTup_mk, extractD0, extractD1, List.toList_toArray, nilP_mk, add_mk, Nat.zero_add, Nat.add_zero, condT, condF, Bool.not_true, Bool.not_false, Option.isNone_some, Option.isNone_none]
  refine HeapsC (most := 30) (nilsG_at go.rd) (nilsG_ok (by omega)) (by omega) fun hb rb s H2 hs h2 => ?_
  rw [nilsG_size (by omega)] at hs
  have h2 := h1.join h2
  simp only [asI_mk', asB_mk, asP_mk, asA_mk, asM_mk, asSl_mk, asStr_mk, tup2_mk, tup3_mk, agg1_mk, agg2_mk, agg3_mk, agg4_mk, asAggm, unCons_mk, unNil_mk, asTup_mk, extractD0, extractD1, List.toList_toArray, nilP_mk, add_mk, Nat.zero_add, Nat.add_zero, condT, condF, Bool.not_true, Bool.not_false, Option.isNone_some, Option.isNone_none]
  refine known15_ok h2 fun H3 h3 => ?_
  simp only [asI_mk', asB_mk, asP_mk, asA_mk, asM_mk, asSl_mk, asStr_mk, tup2_mk, tup3_mk, agg1_mk, agg2_mk, agg3_mk, agg4_mk, asAggm, unCons_mk, unNil_mk, asTup_mk, extractD0, extractD1, List.toList_toArray, nilP_mk, add_mk, Nat.zero_add, Nat.add_zero, condT, condF, Bool.not_true, Bool.not_false, Option.isNone_some, Option.isNone_none]
  refine pNewOk h3 (by omega) (by omega) fun pb H4 h4 => ?_
  simp only [asI_mk', asB_mk, asP_mk, asA_mk, asM_mk, asSl_mk, asStr_mk, tup2_mk, tup3_mk, agg1_mk, agg2_mk, agg3_mk, agg4_mk, asAggm, unCons_mk, unNil_mk, asTup_mk, extractD0, extractD1, List.toList_toArray, nilP_mk, add_mk, Nat.zero_add, Nat.add_zero, condT, condF, Bool.not_true, Bool.not_false, Option.isNone_some, Option.isNone_none]
  refine swNewC (pb := pb) h4 (i := 1) rfl fun sb H5 h5 => ?_
  simp only [asI_mk', asB_mk, asP_mk, asA_mk, asM_mk, asSl_mk, asStr_mk, tup2_mk, tup3_mk, agg1_mk, agg2_mk, agg3_mk, agg4_mk, asAggm, unCons_mk, unNil_mk, asTup_mk, extractD0, extractD1, List.toList_toArray, nilP_mk, add_mk, Nat.zero_add, Nat.add_zero, condT, condF, Bool.not_true, Bool.not_false, Option.isNone_some, Option.isNone_none]
  refine bif_neqf rfl (bif_neqf rfl ?_)
  refine rNewPaintC (L := _ :: _ :: _ :: _ :: _ :: []) h5 (by omega) (by omega) fun qb H6 h6 => ?_
  simp only [asI_mk', asB_mk, asP_mk, asA_mk, asM_mk, asSl_mk, asStr_mk, tup2_mk, tup3_mk, agg1_mk, agg2_mk, agg3_mk, agg4_mk, asAggm, unCons_mk, unNil_mk, asTup_mk, extractD0, extractD1, List.toList_toArray, nilP_mk, add_mk, Nat.zero_add, Nat.add_zero, condT, condF, Bool.not_true, Bool.not_false, Option.isNone_some, Option.isNone_none]
  intro b40 hb40
  have h7 := h6.alloc (o := .cells #[ptrV rb, ptrV qb, .int .u64 0, .int .u64 0] ty_ref11_Sweeper) hb40
  have w1 : IntKind.i64.wrap ((n : Int) + 1) = n + 1 := wrap_i64 (by omega) (by omega)
  have w2 : IntKind.u64.wrap ((n : Int) + 1) = n + 1 := wrap_u64' (by omega) (by omega)
  simp only [w1, w2]
  have h8 : St H [SwP ty_ref11_Sweeper b40 rb qb 0 0, RPaint qb rb (newPs 3), SwP ty_sweep_Sweeper sb hb pb 0 s.last, PaintP pb hb (newPs 3), HeapP hb s, RHeap rb s, Prt.row 1 gp n n (List.replicate n (.slice none 0 0))] _ := h7
  have e0 : s.last = n := hs.last
  generalize s.last = e1 at h8 e0
  subst e0
  have hp0 : (newPs 3).lt 0 := newPs_lt
  generalize newPs 3 = p0 at h8 hp0
  intro R42 hR42
  have hR42 : ∀ p H', p.lt 100 → St H [SwP ty_ref11_Sweeper b40 rb qb 0 0, RPaint qb rb p, SwP ty_sweep_Sweeper sb hb pb 0 n, PaintP pb hb p, HeapP hb s, RHeap rb s, Prt.row 1 gp n n (List.replicate n (.slice none 0 0))] H' → R42 H' := fun p H' hlt h' => by
    refine hR42 H' (swBeginC h' (i := 4) (k := 2) rfl rfl fun H9 h9 => ?_)
    clear hR42
    refine rswBeginC h9 (i := 5) (k := 0) rfl rfl (by decide) fun H10 h10 => ?_
    have h10 : St H [SwP ty_ref11_Sweeper b40 rb qb 0 s.last, RPaint qb rb p, SwP ty_sweep_Sweeper sb hb pb 0 s.last, PaintP pb hb p, HeapP hb s, RHeap rb s, Prt.row 1 gp n n (List.replicate n (.slice none 0 0))] H10 := h10
    generalize s.last = e1 at h10
    clear hs h9 h'
    intro R48 hR48
    have hR48 : ∀ s p pl e H', St H [SwP ty_ref11_Sweeper b40 rb qb pl e, RPaint qb rb p, SwP ty_sweep_Sweeper sb hb pb pl e, PaintP pb hb p, HeapP hb s, RHeap rb s, Prt.row 1 gp n n (List.replicate n (.slice none 0 0))] H' → R48 H' := fun s p pl e H' h' => by
      refine hR48 H' ?_
      clear hR48
      have ho := heap_ok h' (i := 4) rfl
      have hlen := ho.len
      have hmost := ho.most
      refine ⟨fun at_ i H'' => St H [SwP ty_ref11_Sweeper b40 rb qb pl e, RPaint qb rb p, SwP ty_sweep_Sweeper sb hb pb pl e, PaintP pb hb p, HeapP hb s, RHeap rb s, Prt.row 1 gp n n (List.replicate n (.slice none 0 0))] H'' ∧ ∃ j : Nat, i = j ∧ j ≤ s.obs.length ∧ at_ = aheadOf s j, fun _ i _ => (s.obs.length - i).toNat, ⟨h', 0, rfl, by omega, rfl⟩, ?_⟩
      rintro at_ i H1 ⟨h1, j, rfl, hj, rfl⟩
      obtain ⟨x, N1, g1, hp, _⟩ := rheapOpenL (i := 5) h1 rfl (.inl rfl)
      have v1 := rheapV g1
      have hxl : x.ps.length = s.obs.length := by rw [← hp, List.length_map]
      simp only [asI_mk', asB_mk, asP_mk, asA_mk, asM_mk, asSl_mk, asStr_mk, tup2_mk, tup3_mk, agg1_mk, agg2_mk, agg3_mk, agg4_mk, asAggm, unCons_mk, unNil_mk, asTup_mk, extractD0, extractD1, List.toList_toArray, nilP_mk, add_mk, Nat.zero_add, Nat.add_zero, condT, condF, Bool.not_true, Bool.not_false, Option.isNone_some, Option.isNone_none]
      refine ldSl_of v1.sl ?_
      by_cases hlt : (j : Int) < (x.ps.length : Int)
      rotate_left
      · exact bif_neg hlt (hK H1 h1.keep)
      have hjl : j < s.obs.length := by omega
      have hjo := List.getElem?_eq_getElem hjl
      generalize s.obs[j] = o at hjo
      refine bif_pos hlt (hNextC h1 (i := 4) rfl fun H2 h2 => ?_)
      rw [hNext_i ho hjo]
      simp only [asI_mk', asB_mk, asP_mk, asA_mk, asM_mk, asSl_mk, asStr_mk, tup2_mk, tup3_mk, agg1_mk, agg2_mk, agg3_mk, agg4_mk, asAggm, unCons_mk, unNil_mk, asTup_mk, extractD0, extractD1, List.toList_toArray, nilP_mk, add_mk, Nat.zero_add, Nat.add_zero, condT, condF, Bool.not_true, Bool.not_false, Option.isNone_some, Option.isNone_none]
      obtain ⟨x2, M2, g2, hp2, _⟩ := rheapOpenL (i := 5) h2 rfl (.inl rfl)
      have v2 := rheapV g2
      have hxl2 : x2.ps.length = s.obs.length := by rw [← hp2, List.length_map]
      refine ldSl_of v2.sl (rAtJ v2 (by omega) fun o2 b2 hg2 bb oo hc => ldP_of hc ?_)
      have hjo2 : s.obs[j]? = some o2 := by rw [← hp2, List.getElem?_map, hg2]; rfl
      rw [hjo] at hjo2
      cases hjo2
      obtain ⟨p', c, q, d, tv⟩ := rthingV g2 hg2
      simp only [asI_mk', asB_mk, asP_mk, asA_mk, asM_mk, asSl_mk, asStr_mk, tup2_mk, tup3_mk, agg1_mk, agg2_mk, agg3_mk, agg4_mk, asAggm, unCons_mk, unNil_mk, asTup_mk, extractD0, extractD1, List.toList_toArray, nilP_mk, add_mk, Nat.zero_add, Nat.add_zero, condT, condF, Bool.not_true, Bool.not_false, Option.isNone_some, Option.isNone_none]
      refine ldI_of tv.ser (bif_neqf rfl ?_)
      rw [wrap_i64 (by omega) (by omega)]
      refine ⟨⟨h2, j + 1, by omega, by omega, ?_⟩, by (try dsimp only); omega⟩
      simp [aheadOf, hjo]
    refine ⟨fun i H' => ∃ (j : Nat) (s : Hs) (p : Ps) (pl e : Int), i = j ∧ j ≤ lL ∧ j ≤ 200 ∧ p.lt (100 + j) ∧ St H [SwP ty_ref11_Sweeper b40 rb qb pl e, RPaint qb rb p, SwP ty_sweep_Sweeper sb hb pb pl e, PaintP pb hb p, HeapP hb s, RHeap rb s, Prt.row 1 gp n n (List.replicate n (.slice none 0 0))] H', fun i _ => (lL - i).toNat,
      ⟨0, s, p, 0, e1, rfl, by omega, by omega, hlt, h10⟩, ?_⟩
    clear h10 hlt
    rintro i H1 ⟨j, s, p, pl, e, rfl, hj, hj2, hlt, h1⟩
    by_cases hc : (j : Int) < lL
    rotate_left
    · exact bif_neg hc (hR48 s p pl e H1 h1)
    refine bif_pos hc ?_
    by_cases h200 : (j : Int) < 200
    rotate_left
    · exact bif_neg h200 (hR48 s p pl e H1 h1)
    refine bif_pos h200 ?_
    clear hR48
    have ho := heap_ok h1 (i := 4) rfl
    have hlast := ho.last
    have rr := h1.rd hr
    refine idxS E_law15_Step.len ⟨0, 0⟩ rr (by omega) (by omega) hc fun b1 o1 hp hjl hcs => ?_
    have hx := hok _ (List.getElem_mem hjl)
    have hgd : l.getD (j : Int).toNat ⟨0, 0⟩ = l[(j : Int).toNat] := by rw [List.getD_eq_getElem?_getD, List.getElem?_eq_getElem hjl]; rfl
    rw [← hgd] at hx
    generalize l.getD (j : Int).toNat ⟨0, 0⟩ = x at hx hcs
    have c0 := hcs 0 (by omega)
    have c1 := hcs 1 (by omega)
    have hxs := hx.Serial
    simp only [asI_mk', asB_mk, asP_mk, asA_mk, asM_mk, asSl_mk, asStr_mk, tup2_mk, tup3_mk, agg1_mk, agg2_mk, agg3_mk, agg4_mk, asAggm, unCons_mk, unNil_mk, asTup_mk, extractD0, extractD1, List.toList_toArray, nilP_mk, add_mk, Nat.zero_add, Nat.add_zero, condT, condF, Bool.not_true, Bool.not_false, Option.isNone_some, Option.isNone_none]
    refine ldI_of c1 ?_
    obtain ⟨y1, N1, g1, _, _⟩ := rheapOpenL (i := 5) h1 rfl (.inl rfl)
    refine ldI_of (rheapV g1).last ?_
    have w3 : IntKind.u64.wrap (s.last + 2) = s.last + 2 := wrap_u64' (by omega) (by omega)
    rw [w3]
    refine ⟨by omega, ?_⟩
    generalize Int.tmod x.Serial (s.last + 2) = k
    intro R81 hR81
    have hR81 : ∀ s p pl e H', p.lt (101 + j) → St H [SwP ty_ref11_Sweeper b40 rb qb pl e, RPaint qb rb p, SwP ty_sweep_Sweeper sb hb pb pl e, PaintP pb hb p, HeapP hb s, RHeap rb s, Prt.row 1 gp n n (List.replicate n (.slice none 0 0))] H' → R81 H' := fun s p pl e H' hlt h' => by
      refine hR81 H' ?_
      clear hR81
      obtain ⟨y1, N1, g1, hp1, _⟩ := rheapOpenL (i := 5) h' rfl (.inl rfl)
      have hy1 : y1.ps.length = s.obs.length := by rw [← hp1, List.length_map]
      (try simp only [asI_mk', asB_mk, asP_mk, asA_mk, asM_mk, asSl_mk, asStr_mk, tup2_mk, tup3_mk, agg1_mk, agg2_mk, agg3_mk, agg4_mk, asAggm, unCons_mk, unNil_mk, asTup_mk, extractD0, extractD1, List.toList_toArray, nilP_mk, add_mk, Nat.zero_add, Nat.add_zero, condT, condF, Bool.not_true, Bool.not_false, Option.isNone_some, Option.isNone_none])
      refine ldSl_of (rheapV g1).sl (hLen h' (i := 4) rfl ?_)
      (try simp only [asI_mk', asB_mk, asP_mk, asA_mk, asM_mk, asSl_mk, asStr_mk, tup2_mk, tup3_mk, agg1_mk, agg2_mk, agg3_mk, agg4_mk, asAggm, unCons_mk, unNil_mk, asTup_mk, extractD0, extractD1, List.toList_toArray, nilP_mk, add_mk, Nat.zero_add, Nat.add_zero, condT, condF, Bool.not_true, Bool.not_false, Option.isNone_some, Option.isNone_none])
      refine ⟨ldSl_of (rheapV g1).sl rfl, bif_neqf (by omega) ?_⟩
      rw [wrap_i64 (by omega) (by omega)]
      exact ⟨⟨j + 1, s, p, pl, e, by omega, by omega, by omega, hlt.mono (by omega), h'⟩, by (try dsimp only); omega⟩
    refine idxA_of rr (by omega) hc fun b' o' hp' _ => ?_
    obtain ⟨rfl, rfl⟩ : b1 = b' ∧ o1 = o' := by rw [hp] at hp'; simpa using hp'
    refine ldI_of c0 (Pick_ok (by omega) (by omega) ?_)
    simp only [asI_mk', asB_mk, asP_mk, asA_mk, asM_mk, asSl_mk, asStr_mk, tup2_mk, tup3_mk, agg1_mk, agg2_mk, agg3_mk, agg4_mk, asAggm, unCons_mk, unNil_mk, asTup_mk, extractD0, extractD1, List.toList_toArray, nilP_mk, add_mk, Nat.zero_add, Nat.add_zero, condT, condF, Bool.not_true, Bool.not_false, Option.isNone_some, Option.isNone_none]
    by_cases w4 : pick x.What 8 = 4
    · refine bif_eq w4 (pShadeC (y := ⟨1, k⟩) h1 (i := 4) (j := 3) rfl rfl (by decide) fun H2 h2 => ?_)
      refine rShadeC (y := ⟨1, k⟩) h2 (i := 5) (j := 1) rfl rfl (by decide) (hlt.mono (by omega)) fun H3 h3 => ?_
      exact hR81 s _ pl e H3 (hlt.shade.mono (by omega)) h3
    refine bif_ne w4 ?_
    by_cases w5 : pick x.What 8 = 5
    · refine bif_eq w5 (hMakeC h1 (i := 4) rfl (by decide) (by decide) fun H2 h2 => ?_)
      simp only [asI_mk', asB_mk, asP_mk, asA_mk, asM_mk, asSl_mk, asStr_mk, tup2_mk, tup3_mk, agg1_mk, agg2_mk, agg3_mk, agg4_mk, asAggm, unCons_mk, unNil_mk, asTup_mk, extractD0, extractD1, List.toList_toArray, nilP_mk, add_mk, Nat.zero_add, Nat.add_zero, condT, condF, Bool.not_true, Bool.not_false, Option.isNone_some, Option.isNone_none]
      refine rMakeC h2 (i := 5) rfl (by decide) (by decide) fun H3 h3 => ?_
      simp only [asI_mk', asB_mk, asP_mk, asA_mk, asM_mk, asSl_mk, asStr_mk, tup2_mk, tup3_mk, agg1_mk, agg2_mk, agg3_mk, agg4_mk, asAggm, unCons_mk, unNil_mk, asTup_mk, extractD0, extractD1, List.toList_toArray, nilP_mk, add_mk, Nat.zero_add, Nat.add_zero, condT, condF, Bool.not_true, Bool.not_false, Option.isNone_some, Option.isNone_none]
      exact hR81 _ _ pl e H3 (hlt.mono (by omega)) h3
    refine bif_ne w5 ?_
    by_cases w6 : pick x.What 8 = 6
    · refine bif_eq w6 (idxA_of rr (by omega) hc fun b' o' hp' _ => ?_)
      obtain ⟨rfl, rfl⟩ : b1 = b' ∧ o1 = o' := by rw [hp] at hp'; simpa using hp'
      simp only [asI_mk', asB_mk, asP_mk, asA_mk, asM_mk, asSl_mk, asStr_mk, tup2_mk, tup3_mk, agg1_mk, agg2_mk, agg3_mk, agg4_mk, asAggm, unCons_mk, unNil_mk, asTup_mk, extractD0, extractD1, List.toList_toArray, nilP_mk, add_mk, Nat.zero_add, Nat.add_zero, condT, condF, Bool.not_true, Bool.not_false, Option.isNone_some, Option.isNone_none]
      refine ldI_of c1 ⟨by decide, ?_⟩
      by_cases hz : Int.tmod x.Serial 3 = 0
      · refine bif_eq hz (swBeginC h1 (i := 4) (k := 2) rfl rfl fun H2 h2 => ?_)
        refine rswBeginC h2 (i := 5) (k := 0) rfl rfl (by decide) fun H3 h3 => ?_
        exact hR81 s p 0 s.last H3 (hlt.mono (by omega)) h3
      · exact bif_ne hz (hR81 s p pl e H1 (hlt.mono (by omega)) h1)
    refine bif_ne w6 ?_
    by_cases w7 : pick x.What 8 = 7
    · refine bif_eq w7 (hFreeC h1 (i := 4) rfl fun H2 h2 => ?_)
      simp only [asI_mk', asB_mk, asP_mk, asA_mk, asM_mk, asSl_mk, asStr_mk, tup2_mk, tup3_mk, agg1_mk, agg2_mk, agg3_mk, agg4_mk, asAggm, unCons_mk, unNil_mk, asTup_mk, extractD0, extractD1, List.toList_toArray, nilP_mk, add_mk, Nat.zero_add, Nat.add_zero, condT, condF, Bool.not_true, Bool.not_false, Option.isNone_some, Option.isNone_none]
      refine rFreeC h2 (i := 5) rfl fun H3 h3 => ?_
      simp only [asI_mk', asB_mk, asP_mk, asA_mk, asM_mk, asSl_mk, asStr_mk, tup2_mk, tup3_mk, agg1_mk, agg2_mk, agg3_mk, agg4_mk, asAggm, unCons_mk, unNil_mk, asTup_mk, extractD0, extractD1, List.toList_toArray, nilP_mk, add_mk, Nat.zero_add, Nat.add_zero, condT, condF, Bool.not_true, Bool.not_false, Option.isNone_some, Option.isNone_none]
      exact hR81 _ p pl e H3 (hlt.mono (by omega)) h3
    refine bif_ne w7 (swStepC h1 (i := 4) (j := 3) (k := 2) rfl rfl rfl (by decide) (by decide) (by decide) fun H2 h2 => ?_)
    simp only [asI_mk', asB_mk, asP_mk, asA_mk, asM_mk, asSl_mk, asStr_mk, tup2_mk, tup3_mk, agg1_mk, agg2_mk, agg3_mk, agg4_mk, asAggm, unCons_mk, unNil_mk, asTup_mk, extractD0, extractD1, List.toList_toArray, nilP_mk, add_mk, Nat.zero_add, Nat.add_zero, condT, condF, Bool.not_true, Bool.not_false, Option.isNone_some, Option.isNone_none]
    refine rswStepC h2 (i := 5) (j := 1) (k := 0) rfl rfl rfl (by decide) (by decide) (by decide) (hlt.mono (by omega)) fun H3 h3 => ?_
    simp only [asI_mk', asB_mk, asP_mk, asA_mk, asM_mk, asSl_mk, asStr_mk, tup2_mk, tup3_mk, agg1_mk, agg2_mk, agg3_mk, agg4_mk, asAggm, unCons_mk, unNil_mk, asTup_mk, extractD0, extractD1, List.toList_toArray, nilP_mk, add_mk, Nat.zero_add, Nat.add_zero, condT, condF, Bool.not_true, Bool.not_false, Option.isNone_some, Option.isNone_none]
    refine bif_neqf rfl ?_
    rw [beq_self_eq_true]
    exact hR81 _ _ _ e H3 ((swStep_lt hlt).mono (by omega)) h3
  refine ⟨fun i H' => ∃ (j : Nat) (p : Ps), i = j ∧ j ≤ mL ∧ j ≤ 40 ∧ p.lt j ∧ St H [SwP ty_ref11_Sweeper b40 rb qb 0 0, RPaint qb rb p, SwP ty_sweep_Sweeper sb hb pb 0 n, PaintP pb hb p, HeapP hb s, RHeap rb s, Prt.row 1 gp n n (List.replicate n (.slice none 0 0))] H', fun i _ => (mL - i).toNat,
    ⟨0, p0, rfl, by omega, by omega, hp0, h8⟩, ?_⟩
  clear h8 h7 hp0
  rintro i H1 ⟨j, p, rfl, hj, hj2, hlt, h1⟩
  by_cases hc : (j : Int) < mL
  rotate_left
  · exact bif_neg hc (hR42 p H1 (hlt.mono (by omega)) h1)
  refine bif_pos hc ?_
  by_cases h40 : (j : Int) < 40
  rotate_left
  · exact bif_neg h40 (hR42 p H1 (hlt.mono (by omega)) h1)
  refine bif_pos h40 (idx1 (d := (0 : Int)) (h1.rd hmr) (by omega) hc fun b o _ hcc => ldI_of hcc ⟨by omega, ?_⟩)
  generalize Int.tmod (marks.getD (j : Int).toNat 0) ((n : Int) + 1) = k
  refine box2 h1 fun b144 H2 h2 => ?_
  refine ldI_of (h2.cell (i := 0) rfl rfl) (ldI_of (h2.cell (i := 0) rfl rfl) (pShadeC (y := ⟨1, k⟩) h2 (i := 5) (j := 4) rfl rfl (by decide) fun H3 h3 => ?_))
  refine ldI_of (h3.cell (i := 0) rfl rfl) (ldI_of (h3.cell (i := 0) rfl rfl) (rShadeC (y := ⟨1, k⟩) h3 (i := 6) (j := 2) rfl rfl (by decide) (hlt.mono (by omega)) fun H4 h4 => ?_))
  rw [wrap_i64 (by omega) (by omega)]
  exact ⟨⟨j + 1, _, by omega, by omega, by omega, hlt.shade, h4.less⟩, by (try dsimp only); omega⟩

end Go.Proofs.Ytohlnmenghbgbaa

/- Chapter 15's theorem, run: SweepJust. No condition. -/
namespace Go.Proofs.Ytohlnmenghbgbaa
set_option linter.unusedSimpArgs false
set_option linter.unusedVariables false
open Go

/-- Those of 1 to q that are not marked. -/
def frd (mb : List Bool) : Nat → List Int
  | 0 => []
  | q + 1 => if mb.getD (q + 1) false then frd mb q else frd mb q ++ [((q + 1 : Nat) : Int)]
theorem frd_succ {mb : List Bool} {q : Nat} : frd mb (q + 1) = if mb.getD (q + 1) false then frd mb q else frd mb q ++ [((q + 1 : Nat) : Int)] := rfl
theorem frd_pre {mb : List Bool} {k n : Nat} (h : k ≤ n) : ∃ t, frd mb n = frd mb k ++ t := by
  induction n with
  | zero => obtain rfl : k = 0 := by omega
            exact ⟨[], by simp⟩
  | succ n ih =>
    by_cases e : k = n + 1
    · exact ⟨[], by rw [e]; simp⟩
    · obtain ⟨t, ht⟩ := ih (by omega)
      rw [frd_succ]
      split
      · exact ⟨t, ht⟩
      · exact ⟨t ++ [((n + 1 : Nat) : Int)], by rw [ht, List.append_assoc]⟩
theorem frd_at {mb : List Bool} {k n : Nat} (h : k + 1 ≤ n) (hm : mb.getD (k + 1) false = false) : (frd mb k).length < (frd mb n).length ∧ (frd mb n).getD (frd mb k).length 0 = ((k + 1 : Nat) : Int) := by
  obtain ⟨t, ht⟩ := frd_pre (mb := mb) h
  have e : frd mb (k + 1) = frd mb k ++ [((k + 1 : Nat) : Int)] := by
    rw [frd_succ, hm, if_neg (by decide)]
  rw [e] at ht
  rw [ht]
  refine ⟨by simp, ?_⟩
  rw [List.getD_eq_getElem?_getD, List.append_assoc, List.getElem?_append_right (Nat.le_refl _), Nat.sub_self]
  rfl
theorem frd_len {mb : List Bool} {q : Nat} : (frd mb q).length ≤ q := by
  induction q with
  | zero => simp [frd]
  | succ q ih =>
    rw [frd_succ]
    split
    · omega
    · simp; exact ih

structure SwInv (mb : List Bool) (n q : Nat) (s : Hs) : Prop where
  ok : s.ok
  last : (n : Int) ≤ s.last
  past : ∀ m : Nat, 1 ≤ m → m ≤ q → (hGet s m ≠ none ↔ mb.getD m false = true)
  ahead : ∀ m : Int, q < m → m ≤ s.last → hGet s m ≠ none
  len : (s.obs.length : Int) + (frd mb q).length = s.last
theorem SwInv.make {mb : List Bool} {n q : Nat} {s : Hs} (h : SwInv mb n q s) (hq : q ≤ n) : SwInv mb n q (hMake s 0 0).2.2 := by
  have ok' := h.ok.make 0 0
  rcases hMake_split s 0 0 with ⟨_, e⟩ | ⟨_, _, e1, _, _, c, e2⟩
  · rw [e]; exact h
  · have hl := h.last
    have hg := get_append h.ok e2 rfl
    refine ⟨ok', by omega, fun m h1 h2 => ?_, fun m h1 h2 => ?_, ?_⟩
    · rw [hg, if_neg (by omega)]
      exact h.past m h1 h2
    · rw [hg]
      by_cases e : m = s.last + 1
      · rw [if_pos e]; simp
      · rw [if_neg e]; exact h.ahead m h1 (by omega)
    · rw [e2, e1, List.length_append]
      have := h.len
      simp
      omega
theorem SwInv.step {mb : List Bool} {n q : Nat} {s : Hs} {p : Ps} (h : SwInv mb n q s) (hq : q < n) (hp : ∀ m : Nat, 1 ≤ m → m ≤ n → mlook p.marks m = if mb.getD m false then some (0, true) else none) :
    (mb.getD (q + 1) false = true ∧ swStep s p q n = ((0, true), s, p, ((q + 1 : Nat) : Int)) ∧ SwInv mb n (q + 1) s) ∨
    (mb.getD (q + 1) false = false ∧ swStep s p q n = ((((q + 1 : Nat) : Int), true), (hFree s ((q + 1 : Nat) : Int)).2, p, ((q + 1 : Nat) : Int)) ∧ SwInv mb n (q + 1) (hFree s ((q + 1 : Nat) : Int)).2) := by
  have hl := h.last
  have hg : hGet s ((q + 1 : Nat) : Int) ≠ none := h.ahead _ (by omega) (by omega)
  have hn : hNext s q = (((q + 1 : Nat) : Int), true) := hNext_is h.ok hg (by omega) fun k h1 h2 => by omega
  have hm := hp (q + 1) (by omega) (by omega)
  cases hb : mb.getD (q + 1) false
  · rw [hb, if_neg (by decide)] at hm
    refine .inr ⟨rfl, ?_, ?_⟩
    · unfold swStep pMark pForget
      rw [hn, if_neg (by simp; omega)]
      simp only
      rw [hm, if_neg (by simp), mdel_none (by rw [mhas_look, hm]; rfl)]
    · have hf := hFree_len h.ok hg
      have hfr : frd mb (q + 1) = frd mb q ++ [((q + 1 : Nat) : Int)] := by
        rw [frd_succ, hb, if_neg (by decide)]
      refine ⟨h.ok.free _, by rw [hFree_last]; exact hl, fun m h1 h2 => ?_, fun m h1 h2 => ?_, ?_⟩
      · rw [hFree_get]
        by_cases e : m = q + 1
        · subst e
          rw [if_pos rfl, hb]
          simp
        · rw [if_neg (by omega)]
          exact h.past m h1 (by omega)
      · rw [hFree_last] at h2
        rw [hFree_get, if_neg (by omega)]
        exact h.ahead m (by omega) h2
      · rw [hFree_last, hfr, List.length_append]
        have := h.len
        simp only [List.length_cons, List.length_nil]
        omega
  · rw [hb, if_pos rfl] at hm
    refine .inl ⟨rfl, ?_, ?_⟩
    · have hpm : pMark s p ((q + 1 : Nat) : Int) = (0, true, true) := by
        unfold pMark
        rw [hm]
        exact if_neg hg
      unfold swStep
      rw [hn, if_neg (by simp; omega)]
      simp only
      rw [hpm, if_pos rfl]
    · have hfr : frd mb (q + 1) = frd mb q := by
        rw [frd_succ, hb, if_pos rfl]
      refine ⟨h.ok, hl, fun m h1 h2 => ?_, fun m h1 h2 => h.ahead m (by omega) h2, by rw [hfr]; exact h.len⟩
      by_cases e : m = q + 1
      · subst e
        rw [hb]
        exact ⟨fun _ => rfl, fun _ => hg⟩
      · exact h.past m h1 (by omega)
theorem SwInv.end {mb : List Bool} {n : Nat} {s : Hs} {p : Ps} (h : SwInv mb n n s) : swStep s p n n = ((0, false), s, p, (n : Int)) := by
  unfold swStep
  rw [if_pos]
  cases hn : (hNext s n).2
  · exact .inl rfl
  · exact .inr (hNext_range h.ok hn).1

set_option maxRecDepth 20000 in
theorem SweepJust_ok {n : Int} {mP : Option Addr} {mL mC : Nat} {marks : List Int} {made : Int} {H : Hp} {K : Value → Hp → Prop} (hn : IntKind.min .i64 ≤ n ∧ n ≤ IntKind.max .i64)
    (hmr : Rd H 1 mP mL (marks.map fun s => .int .u64 s)) (hml : mL ≤ 9223372036854775807) (hmok : ∀ x ∈ marks, IntKind.min .u64 ≤ x ∧ x ≤ IntKind.max .u64)
    (hmade : IntKind.min .i64 ≤ made ∧ made ≤ IntKind.max .i64) (hK : ∀ H', Keep Nothing H H' → K (.bool true) H') :
    hcall PR f_law15_SweepJust ⟨[.int .i64 n, .slice mP mL mC, .int .i64 made]⟩ H K := by
  apply den_law15_SweepJust
  unfold B_law15_SweepJust
  have u0 : IntKind.min .u64 = 0 := by decide
  have u1 : IntKind.max .u64 = 18446744073709551615 := by decide
  refine Pick_ok (by omega) (by omega) ?_
  simp only [asI_mk', asB_mk, asP_mk, asA_mk, asM_mk, asSl_mk, asStr_mk, tup2_mk, tup3_mk, agg1_mk, agg2_mk, agg3_mk, agg4_mk, asAggm, unCons_mk, unNil_mk, asTup_mk, extractD0, extractD1, List.toList_toArray, nilP_mk, add_mk, Nat.zero_add, Nat.add_zero, condT, condF, Bool.not_true, Bool.not_false, Option.isNone_some, Option.isNone_none]
  have p1 := pick_lt (n := n) (m := 40) (by omega)
  generalize pick n 40 = n0 at *
  obtain ⟨n, rfl⟩ : ∃ k : Nat, n0 = k := ⟨n0.toNat, by omega⟩
  refine mko_ty_SSint (by omega) (by omega) (by omega) fun gp H1 go gg => ?_
  rw [Int.toNat_natCast] at go ⊢
  have h1 := (St.start H).row go gg
  simp only [asI_mk', asB_mk, asP_mk, asA_mk, asM_mk, asSl_mk, asStr_mk, tup2_mk, tup3_mk, agg1_mk, agg2_mk, agg3_mk, agg4_mk, asAggm, unCons_mk, unNil_mk, asTup_mk, extractD0, extractD1, List.toList_toArray, nilP_mk, add_mk, Nat.zero_add, Nat.add_zero, condT, condF, Bool.not_true, Bool.not_false, Option.isNone_some, Option.isNone_none]
  refine HeapsC (most := 40) (nilsG_at go.rd) (nilsG_ok (by omega)) (by omega) fun hb rb s0 H2 hs h2 => ?_
  rw [nilsG_size (by omega)] at hs
  have h2 := h1.join h2
  simp only [asI_mk', asB_mk, asP_mk, asA_mk, asM_mk, asSl_mk, asStr_mk, tup2_mk, tup3_mk, agg1_mk, agg2_mk, agg3_mk, agg4_mk, asAggm, unCons_mk, unNil_mk, asTup_mk, extractD0, extractD1, List.toList_toArray, nilP_mk, add_mk, Nat.zero_add, Nat.add_zero, condT, condF, Bool.not_true, Bool.not_false, Option.isNone_some, Option.isNone_none]
  refine known15_ok h2 fun H3 h3 => ?_
  simp only [asI_mk', asB_mk, asP_mk, asA_mk, asM_mk, asSl_mk, asStr_mk, tup2_mk, tup3_mk, agg1_mk, agg2_mk, agg3_mk, agg4_mk, asAggm, unCons_mk, unNil_mk, asTup_mk, extractD0, extractD1, List.toList_toArray, nilP_mk, add_mk, Nat.zero_add, Nat.add_zero, condT, condF, Bool.not_true, Bool.not_false, Option.isNone_some, Option.isNone_none]
  refine pNewOk h3 (by omega) (by omega) fun pb H4 h4 => ?_
  simp only [asI_mk', asB_mk, asP_mk, asA_mk, asM_mk, asSl_mk, asStr_mk, tup2_mk, tup3_mk, agg1_mk, agg2_mk, agg3_mk, agg4_mk, asAggm, unCons_mk, unNil_mk, asTup_mk, extractD0, extractD1, List.toList_toArray, nilP_mk, add_mk, Nat.zero_add, Nat.add_zero, condT, condF, Bool.not_true, Bool.not_false, Option.isNone_some, Option.isNone_none]
  refine swNewC (pb := pb) h4 (i := 1) rfl fun sb H5 h5 => ?_
  simp only [asI_mk', asB_mk, asP_mk, asA_mk, asM_mk, asSl_mk, asStr_mk, tup2_mk, tup3_mk, agg1_mk, agg2_mk, agg3_mk, agg4_mk, asAggm, unCons_mk, unNil_mk, asTup_mk, extractD0, extractD1, List.toList_toArray, nilP_mk, add_mk, Nat.zero_add, Nat.add_zero, condT, condF, Bool.not_true, Bool.not_false, Option.isNone_some, Option.isNone_none]
  refine bif_neqf rfl (bif_neqf rfl ?_)
  have w1 : IntKind.i64.wrap ((n : Int) + 1) = ((n + 1 : Nat) : Int) := by rw [wrap_i64 (by omega) (by omega)]; omega
  have w2 : IntKind.u64.wrap ((n + 1 : Nat) : Int) = ((n + 1 : Nat) : Int) := wrap_u64' (by omega) (by omega)
  have w10 : IntKind.i64.wrap ((n : Int) + 10) = ((n + 10 : Nat) : Int) := by rw [wrap_i64 (by omega) (by omega)]; omega
  simp only [w1, w2, w10]
  refine mko_ty_Sbool (by omega) (by omega) (by omega) fun mp H6 mo mg => ?_
  rw [Int.toNat_natCast] at mo ⊢
  have h6 := h5.row mo mg
  simp only [asI_mk', asB_mk, asP_mk, asA_mk, asM_mk, asSl_mk, asStr_mk, tup2_mk, tup3_mk, agg1_mk, agg2_mk, agg3_mk, agg4_mk, asAggm, unCons_mk, unNil_mk, asTup_mk, extractD0, extractD1, List.toList_toArray, nilP_mk, add_mk, Nat.zero_add, Nat.add_zero, condT, condF, Bool.not_true, Bool.not_false, Option.isNone_some, Option.isNone_none]
  have e0 : s0.last = n := hs.last
  have h6 : St H [Prt.row 1 mp (n + 1) (n + 1) ((List.replicate (n + 1) false).map Value.bool), SwP ty_sweep_Sweeper sb hb pb 0 n, PaintP pb hb (newPs 3), HeapP hb s0, RHeap rb s0, Prt.row 1 gp n n (List.replicate n (.slice none 0 0))] H6 := by
    rw [List.map_replicate, ← e0]; exact h6
  have hp0 : ∀ m : Nat, 1 ≤ m → m ≤ n → mlook (newPs 3).marks m = if (List.replicate (n + 1) false).getD m false then some (0, true) else none := fun m _ _ => by
    have : (List.replicate (n + 1) false).getD m false = false := by rw [List.getD_eq_getElem?_getD, List.getElem?_replicate]; split <;> rfl
    rw [this]
    rfl
  have hlen0 : (List.replicate (n + 1) false).length = n + 1 := by simp
  generalize newPs 3 = p0 at h6 hp0
  generalize List.replicate (n + 1) false = mb0 at h6 hp0 hlen0
  clear h5 h4 h3 h2 h1
  intro R40 hR40
  have hR40 : ∀ (mb : List Bool) (p : Ps) H', mb.length = n + 1 → (∀ m : Nat, 1 ≤ m → m ≤ n → mlook p.marks m = if mb.getD m false then some (0, true) else none) →
      St H [Prt.row 1 mp (n + 1) (n + 1) (mb.map Value.bool), SwP ty_sweep_Sweeper sb hb pb 0 n, PaintP pb hb p, HeapP hb s0, RHeap rb s0, Prt.row 1 gp n n (List.replicate n (.slice none 0 0))] H' → R40 H' := fun mb p H' hmb hp h' => by
    refine hR40 H' (swBeginC h' (i := 3) (k := 1) rfl rfl fun H1 h1 => ?_)
    clear hR40 h'
    have h1 : St H [Prt.row 1 mp (n + 1) (n + 1) (mb.map Value.bool), SwP ty_sweep_Sweeper sb hb pb 0 n, PaintP pb hb p, HeapP hb s0, RHeap rb s0, Prt.row 1 gp n n (List.replicate n (.slice none 0 0))] H1 := by
      rw [← e0]; exact h1
    refine Pick_ok (by omega) (by omega) ?_
    simp only [asI_mk', asB_mk, asP_mk, asA_mk, asM_mk, asSl_mk, asStr_mk, tup2_mk, tup3_mk, agg1_mk, agg2_mk, agg3_mk, agg4_mk, asAggm, unCons_mk, unNil_mk, asTup_mk, extractD0, extractD1, List.toList_toArray, nilP_mk, add_mk, Nat.zero_add, Nat.add_zero, condT, condF, Bool.not_true, Bool.not_false, Option.isNone_some, Option.isNone_none]
    generalize pick made 8 = mk
    intro R47 hR47
    have hR47 : ∀ (s : Hs) (fp : Option Addr) (fc : Nat) H', SwInv mb n n s → St H [Prt.row 1 fp (frd mb n).length fc ((frd mb n).map (Value.int .u64)), Prt.row 1 mp (n + 1) (n + 1) (mb.map Value.bool), SwP ty_sweep_Sweeper sb hb pb n n, PaintP pb hb p, HeapP hb s, RHeap rb s0, Prt.row 1 gp n n (List.replicate n (.slice none 0 0))] H' →
        R47 fp (frd mb n).length fc H' := fun s fp fc H' hinv h' => by
      refine hR47 _ _ _ H' ?_
      clear hR47
      have hfl := frd_len (mb := mb) (q := n)
      refine ⟨fun at_ k H'' => ∃ y : Nat, k = ((y + 1 : Nat) : Int) ∧ y ≤ n ∧ at_ = (frd mb y).length ∧ St H [Prt.row 1 fp (frd mb n).length fc ((frd mb n).map (Value.int .u64)), Prt.row 1 mp (n + 1) (n + 1) (mb.map Value.bool), SwP ty_sweep_Sweeper sb hb pb n n, PaintP pb hb p, HeapP hb s, RHeap rb s0, Prt.row 1 gp n n (List.replicate n (.slice none 0 0))] H'',
        fun _ k _ => (n + 1 - k).toNat, ⟨0, rfl, by omega, rfl, h'⟩, ?_⟩
      rintro at_ k H2 ⟨y, rfl, hy, rfl, h2⟩
      have hfy := frd_len (mb := mb) (q := y)
      by_cases hle : ((y + 1 : Nat) : Int) ≤ n
      rotate_left
      · obtain rfl : y = n := by omega
        refine bif_neg hle (swStepC h2 (i := 4) (j := 3) (k := 2) rfl rfl rfl (by decide) (by decide) (by decide) fun H3 h3 => ?_)
        rw [hinv.end] at h3 ⊢
        have h3 : St H [Prt.row 1 fp (frd mb y).length fc ((frd mb y).map (Value.int .u64)), Prt.row 1 mp (y + 1) (y + 1) (mb.map Value.bool), SwP ty_sweep_Sweeper sb hb pb y y, PaintP pb hb p, HeapP hb s, RHeap rb s0, Prt.row 1 gp y y (List.replicate y (.slice none 0 0))] H3 := h3
        simp only [asI_mk', asB_mk, asP_mk, asA_mk, asM_mk, asSl_mk, asStr_mk, tup2_mk, tup3_mk, agg1_mk, agg2_mk, agg3_mk, agg4_mk, asAggm, unCons_mk, unNil_mk, asTup_mk, extractD0, extractD1, List.toList_toArray, nilP_mk, add_mk, Nat.zero_add, Nat.add_zero, condT, condF, Bool.not_true, Bool.not_false, Option.isNone_some, Option.isNone_none]
        refine bif_eq rfl ?_
        (try simp only [Bool.not_false, condT])
        obtain ⟨y1, N1, g1, _, _⟩ := rheapOpenL (i := 5) h3 rfl (.inl rfl)
        refine ldI_of (rheapV g1).last (hLast h3 (i := 4) rfl ?_)
        simp only [asI_mk', asB_mk, asP_mk, asA_mk, asM_mk, asSl_mk, asStr_mk, tup2_mk, tup3_mk, agg1_mk, agg2_mk, agg3_mk, agg4_mk, asAggm, unCons_mk, unNil_mk, asTup_mk, extractD0, extractD1, List.toList_toArray, nilP_mk, add_mk, Nat.zero_add, Nat.add_zero, condT, condF, Bool.not_true, Bool.not_false, Option.isNone_some, Option.isNone_none]
        have hl := hinv.last
        refine ⟨ldI_of (rheapV g1).last rfl, bif_pos (by rw [e0]; exact hl) ?_⟩
        refine ldI_of (rheapV g1).last (hLen h3 (i := 4) rfl ?_)
        simp only [asI_mk', asB_mk, asP_mk, asA_mk, asM_mk, asSl_mk, asStr_mk, tup2_mk, tup3_mk, agg1_mk, agg2_mk, agg3_mk, agg4_mk, asAggm, unCons_mk, unNil_mk, asTup_mk, extractD0, extractD1, List.toList_toArray, nilP_mk, add_mk, Nat.zero_add, Nat.add_zero, condT, condF, Bool.not_true, Bool.not_false, Option.isNone_some, Option.isNone_none]
        refine ⟨ldI_of (rheapV g1).last rfl, hLast h3 (i := 4) rfl ?_⟩
        simp only [asI_mk', asB_mk, asP_mk, asA_mk, asM_mk, asSl_mk, asStr_mk, tup2_mk, tup3_mk, agg1_mk, agg2_mk, agg3_mk, agg4_mk, asAggm, unCons_mk, unNil_mk, asTup_mk, extractD0, extractD1, List.toList_toArray, nilP_mk, add_mk, Nat.zero_add, Nat.add_zero, condT, condF, Bool.not_true, Bool.not_false, Option.isNone_some, Option.isNone_none]
        refine ⟨ldI_of (rheapV g1).last rfl, ?_⟩
        have hlm := hinv.ok.last
        have hlen := hinv.len
        have hol := hinv.ok.len
        have hom := hinv.ok.most
        have v1 : IntKind.i64.wrap ((y : Int) - (frd mb y).length) = y - (frd mb y).length := wrap_i64 (by omega) (by omega)
        have v2 : IntKind.u64.wrap (s.last - s0.last) = s.last - y := by rw [e0]; exact wrap_u64' (by omega) (by omega)
        have v3 : IntKind.i64.wrap (s.last - y) = s.last - y := wrap_i64 (by omega) (by omega)
        have v4 : IntKind.i64.wrap ((y : Int) - (frd mb y).length + (s.last - y)) = y - (frd mb y).length + (s.last - y) := wrap_i64 (by omega) (by omega)
        rw [v1, v2, v3, v4]
        rw [show ((s.obs.length : Int) == (y : Int) - ((frd mb y).length : Int) + (s.last - (y : Int))) = true by rw [beq_iff_eq]; omega]
        exact hK H3 h3.keep
      refine bif_pos hle ?_
      intro R57 hR57
      have hR57 : ∀ H', St H [Prt.row 1 fp (frd mb n).length fc ((frd mb n).map (Value.int .u64)), Prt.row 1 mp (n + 1) (n + 1) (mb.map Value.bool), SwP ty_sweep_Sweeper sb hb pb n n, PaintP pb hb p, HeapP hb s, RHeap rb s0, Prt.row 1 gp n n (List.replicate n (.slice none 0 0))] H' → R57 (frd mb (y + 1)).length H' := fun H' h' => by
        refine hR57 _ H' ?_
        rw [wrap_i64 (by omega) (by omega)]
        exact ⟨⟨y + 1, by omega, by omega, rfl, h'⟩, by (try dsimp only); omega⟩
      have v1 : IntKind.u64.wrap ((y + 1 : Nat) : Int) = ((y + 1 : Nat) : Int) := wrap_u64' (by omega) (by omega)
      rw [v1]
      have hthere := hinv.past (y + 1) (by omega) (by omega)
      have fin : ∀ H', St H [Prt.row 1 fp (frd mb n).length fc ((frd mb n).map (Value.int .u64)), Prt.row 1 mp (n + 1) (n + 1) (mb.map Value.bool), SwP ty_sweep_Sweeper sb hb pb n n, PaintP pb hb p, HeapP hb s, RHeap rb s0, Prt.row 1 gp n n (List.replicate n (.slice none 0 0))] H' →
          ∀ there : Bool, (there = true ↔ mb.getD (y + 1) false = true) → idxA mp (n + 1) ((y + 1 : Nat) : Int) 1 fun el92 => ldB el92 H' fun t93 => (bif (!(there == t93)) then K (.bool false) H' else
            idxA mp (n + 1) ((y + 1 : Nat) : Int) 1 fun el94 => ldB el94 H' fun t95 => (bif (!t95) then (bif (decide ((((frd mb y).length : Nat) : Int) ≥ ((frd mb n).length : Int))) then K (.bool false) H' else
              idxA fp (frd mb n).length (((frd mb y).length : Nat) : Int) 1 fun el96 => ldI .u64 el96 H' fun t97 => (bif ((t97 : Int) != ((y + 1 : Nat) : Int)) then K (.bool false) H' else R57 (IntKind.i64.wrap ((((frd mb y).length : Nat) : Int) + 1)) H')) else R57 (((frd mb y).length : Nat) : Int) H')) := fun H' h' there hth => by
        refine idx1 (d := false) (h'.row_rd (i := 1) rfl) (by omega) (by omega) fun b o _ hc => ldB_of hc ?_
        rw [Int.toNat_natCast]
        have e : (there == mb.getD (y + 1) false) = true := by
          rw [beq_iff_eq]
          cases there <;> cases hq : mb.getD (y + 1) false <;> simp_all
        rw [e]
        simp only [Bool.not_true, condF]
        refine idx1 (d := false) (h'.row_rd (i := 1) rfl) (by omega) (by omega) fun b o _ hc => ldB_of hc ?_
        rw [Int.toNat_natCast]
        have hR57 := hR57 H' h'
        cases hq : mb.getD (y + 1) false
        · simp only [Bool.not_false, condT]
          obtain ⟨f1, f2⟩ := frd_at (n := n) (by omega) hq
          refine bif_neg (by omega) (idx1 (d := (0 : Int)) (h'.row_rd (i := 0) rfl) (by omega) (by omega) fun b o _ hc => ldI_of hc ?_)
          rw [Int.toNat_natCast, f2]
          refine bif_neqf rfl ?_
          rw [wrap_i64 (by omega) (by omega)]
          have hfr : frd mb (y + 1) = frd mb y ++ [((y + 1 : Nat) : Int)] := by
            rw [frd_succ, hq, if_neg (by decide)]
          rw [hfr] at hR57
          simpa using hR57
        · simp only [Bool.not_true, condF]
          have hfr : frd mb (y + 1) = frd mb y := by
            rw [frd_succ, hq, if_pos rfl]
          rw [hfr] at hR57
          exact hR57
      refine hObjC h2 (i := 4) rfl (fun hg H3 h3 => ?_) fun o hg rp rc vp vc H3 h3 => ?_
      · simp only [asI_mk', asB_mk, asP_mk, asA_mk, asM_mk, asSl_mk, asStr_mk, tup2_mk, tup3_mk, agg1_mk, agg2_mk, agg3_mk, agg4_mk, asAggm, unCons_mk, unNil_mk, asTup_mk, extractD0, extractD1, List.toList_toArray, nilP_mk, add_mk, Nat.zero_add, Nat.add_zero, condT, condF, Bool.not_true, Bool.not_false, Option.isNone_some, Option.isNone_none]
        refine box5 h3 fun b85 H4 h4 => fin H4 h4.less false ?_
        rw [← hthere, hg]
        simp
      · simp only [asI_mk', asB_mk, asP_mk, asA_mk, asM_mk, asSl_mk, asStr_mk, tup2_mk, tup3_mk, agg1_mk, agg2_mk, agg3_mk, agg4_mk, asAggm, unCons_mk, unNil_mk, asTup_mk, extractD0, extractD1, List.toList_toArray, nilP_mk, add_mk, Nat.zero_add, Nat.add_zero, condT, condF, Bool.not_true, Bool.not_false, Option.isNone_some, Option.isNone_none]
        refine box5 h3 fun b85 H4 h4 => fin H4 h4.less.less.less true ?_
        rw [← hthere, hg]
        simp
    have hinv0 : SwInv mb n 0 s0 := ⟨hs.ok, by omega, fun m h1 h2 => by omega, fun m h1 h2 => hs.has.2 (by omega), by rw [e0]; show ((s0.obs.length : Nat) : Int) + (([] : List Int).length : Int) = n; rw [hs.len]; simp⟩
    have h1 := h1.row (H' := _) (Own.nil 1) ((Goes.refl Nothing _).less fun c hc => absurd hc blk_none)
    refine ⟨fun fp fl fc k H' => ∃ (q : Nat) (s : Hs), k = q ∧ q ≤ n ∧ fl = (frd mb q).length ∧ SwInv mb n q s ∧ St H [Prt.row 1 fp fl fc ((frd mb q).map (Value.int .u64)), Prt.row 1 mp (n + 1) (n + 1) (mb.map Value.bool), SwP ty_sweep_Sweeper sb hb pb q n, PaintP pb hb p, HeapP hb s, RHeap rb s0, Prt.row 1 gp n n (List.replicate n (.slice none 0 0))] H',
      fun _ _ _ k _ => (n + 10 - k).toNat, ⟨0, s0, rfl, by omega, rfl, hinv0, h1⟩, ?_⟩
    clear h1 hinv0
    rintro fp fl fc k H2 ⟨q, s, rfl, hq, rfl, hinv, h2⟩
    have hfq := frd_len (mb := mb) (q := q)
    refine bif_pos (by omega) ?_
    intro R127 hR127
    have hR127 : ∀ (s : Hs) (fp : Option Addr) (fc : Nat) H', q < n → SwInv mb n (q + 1) s → St H [Prt.row 1 fp (frd mb (q + 1)).length fc ((frd mb (q + 1)).map (Value.int .u64)), Prt.row 1 mp (n + 1) (n + 1) (mb.map Value.bool), SwP ty_sweep_Sweeper sb hb pb ((q + 1 : Nat) : Int) n, PaintP pb hb p, HeapP hb s, RHeap rb s0, Prt.row 1 gp n n (List.replicate n (.slice none 0 0))] H' →
        R127 fp (frd mb (q + 1)).length fc H' := fun s fp fc H' hqn hinv h' => by
      refine hR127 _ _ _ H' ?_
      rw [wrap_i64 (by omega) (by omega)]
      exact ⟨⟨q + 1, s, by omega, by omega, rfl, hinv, h'⟩, by (try dsimp only); omega⟩
    intro R132 hR132
    have hR132 : ∀ (s : Hs) H', SwInv mb n q s → St H [Prt.row 1 fp (frd mb q).length fc ((frd mb q).map (Value.int .u64)), Prt.row 1 mp (n + 1) (n + 1) (mb.map Value.bool), SwP ty_sweep_Sweeper sb hb pb q n, PaintP pb hb p, HeapP hb s, RHeap rb s0, Prt.row 1 gp n n (List.replicate n (.slice none 0 0))] H' → R132 H' := fun s H' hinv h' => by
      refine hR132 H' (swStepC h' (i := 4) (j := 3) (k := 2) rfl rfl rfl (by decide) (by decide) (by decide) fun H3 h3 => ?_)
      clear hR132
      by_cases hqn : q < n
      rotate_left
      · obtain rfl : q = n := by omega
        rw [hinv.end] at h3 ⊢
        simp only [asI_mk', asB_mk, asP_mk, asA_mk, asM_mk, asSl_mk, asStr_mk, tup2_mk, tup3_mk, agg1_mk, agg2_mk, agg3_mk, agg4_mk, asAggm, unCons_mk, unNil_mk, asTup_mk, extractD0, extractD1, List.toList_toArray, nilP_mk, add_mk, Nat.zero_add, Nat.add_zero, condT, condF, Bool.not_true, Bool.not_false, Option.isNone_some, Option.isNone_none]
        exact hR47 s fp fc H3 hinv h3
      rcases hinv.step hqn hp with ⟨hb1, hst, hinv1⟩ | ⟨hb1, hst, hinv1⟩
      · rw [hst] at h3 ⊢
        simp only [asI_mk', asB_mk, asP_mk, asA_mk, asM_mk, asSl_mk, asStr_mk, tup2_mk, tup3_mk, agg1_mk, agg2_mk, agg3_mk, agg4_mk, asAggm, unCons_mk, unNil_mk, asTup_mk, extractD0, extractD1, List.toList_toArray, nilP_mk, add_mk, Nat.zero_add, Nat.add_zero, condT, condF, Bool.not_true, Bool.not_false, Option.isNone_some, Option.isNone_none]
        have hfr : frd mb (q + 1) = frd mb q := by
          rw [frd_succ, hb1, if_pos rfl]
        have := hR127 s fp fc H3 hqn hinv1
        rw [hfr] at this
        exact bif_neg (by decide) (this h3)
      · rw [hst] at h3 ⊢
        simp only [asI_mk', asB_mk, asP_mk, asA_mk, asM_mk, asSl_mk, asStr_mk, tup2_mk, tup3_mk, agg1_mk, agg2_mk, agg3_mk, agg4_mk, asAggm, unCons_mk, unNil_mk, asTup_mk, extractD0, extractD1, List.toList_toArray, nilP_mk, add_mk, Nat.zero_add, Nat.add_zero, condT, condF, Bool.not_true, Bool.not_false, Option.isNone_some, Option.isNone_none]
        refine bif_pos (by omega) ?_
        have hfr : frd mb (q + 1) = frd mb q ++ [((q + 1 : Nat) : Int)] := by
          rw [frd_succ, hb1, if_neg (by decide)]
        refine lit_ty_Suint64 (m := 1) (c := #[.int .u64 ((q + 1 : Nat) : Int)]) (h3.row_own (i := 0) rfl) rfl (by intro z hz; simp at hz; rw [hz]; rfl) (by omega) fun p' cap' H4 ho hg => ?_
        simp only [asI_mk', asB_mk, asP_mk, asA_mk, asM_mk, asSl_mk, asStr_mk, tup2_mk, tup3_mk, agg1_mk, agg2_mk, agg3_mk, agg4_mk, asAggm, unCons_mk, unNil_mk, asTup_mk, extractD0, extractD1, List.toList_toArray, nilP_mk, add_mk, Nat.zero_add, Nat.add_zero, condT, condF, Bool.not_true, Bool.not_false, Option.isNone_some, Option.isNone_none]
        have h4 := h3.row_to (i := 0) rfl ho hg
        have := hR127 _ p' cap' H4 hqn hinv1
        rw [hfr] at this
        rw [show (frd mb q).length + 1 = (frd mb q ++ [((q + 1 : Nat) : Int)]).length by simp] at h4 ⊢
        refine this ?_
        simpa using h4
    by_cases hmk : (q : Int) < mk
    · refine bif_pos hmk (hMakeC h2 (i := 4) rfl (by decide) (by decide) fun H3 h3 => ?_)
      simp only [asI_mk', asB_mk, asP_mk, asA_mk, asM_mk, asSl_mk, asStr_mk, tup2_mk, tup3_mk, agg1_mk, agg2_mk, agg3_mk, agg4_mk, asAggm, unCons_mk, unNil_mk, asTup_mk, extractD0, extractD1, List.toList_toArray, nilP_mk, add_mk, Nat.zero_add, Nat.add_zero, condT, condF, Bool.not_true, Bool.not_false, Option.isNone_some, Option.isNone_none]
      exact hR132 _ H3 (hinv.make hq) h3
    · exact bif_neg hmk (hR132 s H2 hinv h2)
  refine ⟨fun i H' => ∃ (j : Nat) (mb : List Bool) (p : Ps), i = j ∧ j ≤ mL ∧ mb.length = n + 1 ∧ (∀ m : Nat, 1 ≤ m → m ≤ n → mlook p.marks m = if mb.getD m false then some (0, true) else none) ∧
      St H [Prt.row 1 mp (n + 1) (n + 1) (mb.map Value.bool), SwP ty_sweep_Sweeper sb hb pb 0 n, PaintP pb hb p, HeapP hb s0, RHeap rb s0, Prt.row 1 gp n n (List.replicate n (.slice none 0 0))] H', fun i _ => (mL - i).toNat,
    ⟨0, mb0, p0, rfl, by omega, hlen0, hp0, h6⟩, ?_⟩
  clear h6
  rintro i H1 ⟨j, mb, p, rfl, hj, hmb, hp, h1⟩
  by_cases hc : (j : Int) < mL
  rotate_left
  · exact bif_neg hc (hR40 mb p H1 hmb hp h1)
  refine bif_pos hc ?_
  by_cases h60 : (j : Int) < 60
  rotate_left
  · exact bif_neg h60 (hR40 mb p H1 hmb hp h1)
  refine bif_pos h60 (idx1 (d := (0 : Int)) (h1.rd hmr) (by omega) hc fun b o _ hcc => ldI_of hcc ⟨by omega, ?_⟩)
  have hlen := hmr.1
  have hmem : (0 : Int) ≤ marks.getD (j : Int).toNat 0 := by
    rw [Int.toNat_natCast, List.getD_eq_getElem?_getD, List.getElem?_eq_getElem (by simp at hlen; omega)]
    have := hmok _ (List.getElem_mem (show j < marks.length by simp at hlen; omega))
    exact (show (0 : Int) ≤ marks[j]'(by simp at hlen; omega) by omega)
  have hk : 0 ≤ Int.tmod (marks.getD (j : Int).toNat 0) ((n + 1 : Nat) : Int) ∧ Int.tmod (marks.getD (j : Int).toNat 0) ((n + 1 : Nat) : Int) < ((n + 1 : Nat) : Int) := by
    rw [Int.tmod_eq_emod_of_nonneg hmem]
    exact ⟨Int.emod_nonneg _ (by omega), Int.emod_lt_of_pos _ (by omega)⟩
  generalize Int.tmod (marks.getD (j : Int).toNat 0) ((n + 1 : Nat) : Int) = kk at *
  obtain ⟨k, rfl⟩ : ∃ y : Nat, kk = y := ⟨kk.toNat, by omega⟩
  refine idxA_of (h1.row_rd (i := 0) rfl) (by omega) (by omega) fun b' o' hp' _ => ?_
  rw [Int.toNat_natCast, Nat.mul_one]
  refine h1.poke (i := 0) rfl hp' (by omega) fun H2 h2 => ?_
  refine pShadeC (y := ⟨1, (k : Int)⟩) h2 (i := 3) (j := 2) rfl rfl (by decide) fun H3 h3 => ?_
  rw [wrap_i64 (by omega) (by omega)]
  refine ⟨⟨j + 1, mb.set k true, pShade s0 p ⟨1, (k : Int)⟩ 0, by omega, by omega, by rw [List.length_set]; exact hmb, fun m hm1 hm2 => ?_, ?_⟩, by (try dsimp only); omega⟩
  · have hgd : (mb.set k true).getD m false = if k = m then true else mb.getD m false := by
      rw [List.getD_eq_getElem?_getD, List.getElem?_set, List.getD_eq_getElem?_getD]
      by_cases e : k = m
      · rw [if_pos e, if_pos (by omega), if_pos e]; rfl
      · rw [if_neg e, if_neg e]
    rw [hgd]
    by_cases hk0 : k = 0
    · have : pShade s0 p ⟨1, (k : Int)⟩ 0 = p := by
        unfold pShade
        rw [if_pos (by unfold isId; simp; omega)]
      rw [this, if_neg (show ¬ k = m by omega)]
      exact hp m hm1 hm2
    · have hid : isId ⟨1, (k : Int)⟩ := ⟨by show (1 : Int) ≤ 1; omega, by show (1 : Int) ≤ 64; omega, by show (1 : Int) ≤ k; omega, by show (k : Int) ≤ 72057594037927935; omega⟩
      have hgk : ¬ hGet s0 (k : Int) = none := hs.has.2 (by omega)
      have hpk := hp k (by omega) (by omega)
      cases hbk : mb.getD k false
      · rw [hbk, if_neg (by decide)] at hpk
        have : (pShade s0 p ⟨1, (k : Int)⟩ 0).marks = mput p.marks (k : Int) (0, true) := by
          unfold pShade
          rw [if_neg (by simpa using hid), if_neg (by rw [hs.node]; simp), if_neg hgk]
          simp only [hpk]
          rw [pPush_marks]
          rfl
        rw [this, mlook_mput]
        by_cases e : k = m
        · subst e
          simp
        · rw [if_neg (by omega), if_neg e]
          exact hp m hm1 hm2
      · rw [hbk, if_pos rfl] at hpk
        have : pShade s0 p ⟨1, (k : Int)⟩ 0 = p := by
          unfold pShade
          rw [if_neg (by simpa using hid), if_neg (by rw [hs.node]; simp), if_neg hgk]
          simp only [hpk]
          rw [if_pos (by decide)]
        rw [this]
        by_cases e : k = m
        · subst e
          rw [if_pos rfl, if_pos rfl]
          exact hpk
        · rw [if_neg e]
          exact hp m hm1 hm2
  · have e : (mb.map Value.bool).set k (.bool true) = (mb.set k true).map Value.bool := by rw [List.map_set]
    rw [← e]
    exact h3

end Go.Proofs.Ytohlnmenghbgbaa
