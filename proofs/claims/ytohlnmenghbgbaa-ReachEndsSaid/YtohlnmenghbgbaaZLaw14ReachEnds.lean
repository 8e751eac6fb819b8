/- Merged by merge.py: DenLaw14, DenLaw14ReachEnds, DenLaw14ReachKnown, Law14. No condition. -/
import Derived.Test.YtohlnmenghbgbaaZNum
import Derived.Test.YtohlnmenghbgbaaZReach
import Derived.Test.YtohlnmenghbgbaaZMark

/- PRINTED by gen.py: functions as plain propositions, held against the program by the kernel. No condition. -/
namespace Go.Proofs.Ytohlnmenghbgbaa
open Go
set_option linter.unusedVariables false
set_option maxRecDepth 100000

def B_law14_known  (H : Hp) (K : Value → Hp → Prop) : Prop :=
 hcall PR f_heap_New ⟨[(.int .i64 1), (.int .i64 64), (.int .i64 4), (.int .u64 0)]⟩ H fun v1 Hx2 =>
 tup2 v1 fun v3 v4 =>
 asP v3 fun t5 =>
 asI .i64 v4 fun t6 =>
 (bif ((t6 : Int) != 0) then
 K (.bool false) Hx2
else
 (bif (Option.isNone (α := Addr) t5) then
 K (.bool false) Hx2
else
 hcall PR f_heap_Heap_Make ⟨[(.pointer t5), (.int .i64 1), (.int .i64 0)]⟩ Hx2 fun v7 Hx8 =>
 tup2 v7 fun v9 v10 =>
 asI .u64 v9 fun t11 =>
 asI .i64 v10 fun t12 =>
 hcall PR f_heap_Heap_SetRef ⟨[(.pointer t5), (.int .u64 1), (.int .i64 0), (.agg #[(.int .i64 2), (.int .u64 7)])]⟩ Hx8 fun v13 Hx14 =>
 tup2 v13 fun v15 v16 =>
 agg2 v15 fun v17 v18 =>
 asI .i64 v17 fun Node19 =>
 asI .u64 v18 fun Serial20 =>
 asI .i64 v16 fun t21 =>
 hcall PR f_heap_Heap_SetIn ⟨[(.pointer t5), (.int .u64 1), (.int .i64 5)]⟩ Hx14 fun v22 Hx23 =>
 asI .i64 v22 fun t24 =>
 hcall PR f_paint_New ⟨[(.pointer t5), (.int .i64 2)]⟩ Hx23 fun v25 Hx26 =>
 tup2 v25 fun v27 v28 =>
 asP v27 fun t29 =>
 asI .i64 v28 fun t30 =>
 hcall PR f_reach_New ⟨[(.pointer t5), (.pointer t29)]⟩ Hx26 fun v31 Hx32 =>
 tup2 v31 fun v33 v34 =>
 asP v33 fun t35 =>
 asI .i64 v34 fun t36 =>
 (bif ((t30 : Int) != 0) then
 K (.bool false) Hx32
else
 (bif ((t36 : Int) != 0) then
 K (.bool false) Hx32
else
 (bif (Option.isNone (α := Addr) t29) then
 K (.bool false) Hx32
else
 (bif (Option.isNone (α := Addr) t35) then
 K (.bool false) Hx32
else
 hcall PR f_paint_Paint_Shade ⟨[(.pointer t29), (.agg #[(.int .i64 1), (.int .u64 1)]), (.int .i64 5)]⟩ Hx32 fun v37 Hx38 =>
 hcall PR f_paint_Paint_Scan ⟨[(.pointer t29), (.int .u64 1)]⟩ Hx38 fun v39 Hx40 =>
 asB v39 fun t41 =>
 hcall PR f_reach_Reacher_Begin ⟨[(.pointer t35), (.int .i64 3)]⟩ Hx40 fun v42 Hx43 =>
 ∃ (I44 : Int → Hp → Prop) (m45 : Int → Hp → Nat), I44 0 Hx43 ∧ ∀ i47 : Int, ∀ Hx46 : Hp, I44 i47 Hx46 →
 (bif (decide ((i47 : Int) < 5)) then
 hcall PR f_reach_Reacher_Step ⟨[(.pointer t35)]⟩ Hx46 fun v48 Hx49 =>
 asB v48 fun t50 =>
 I44 (IntKind.i64.wrap (i47 + 1)) Hx49 ∧ m45 (IntKind.i64.wrap (i47 + 1)) Hx49 < m45 i47 Hx46
else
 hcall PR f_reach_Reacher_Rows ⟨[(.pointer t35)]⟩ Hx46 fun v51 Hx52 =>
 asSl v51 fun tP53 tL54 tC55 =>
 (bif (((tL54 : Int) : Int) == 1) then
 idxA tP53 tL54 0 2 fun el56 =>
 ldI .u64 el56 Hx52 fun In57 =>
 (bif ((In57 : Int) == 1) then
 idxA tP53 tL54 0 2 fun el58 =>
 ldSl (el58.add 1) Hx52 fun OutsP59 OutsL60 OutsC61 =>
 (bif (((OutsL60 : Int) : Int) == 1) then
 idxA tP53 tL54 0 2 fun el62 =>
 ldSl (el62.add 1) Hx52 fun OutsP63 OutsL64 OutsC65 =>
 idxA OutsP63 OutsL64 0 2 fun el66 =>
 ldI .i64 el66 Hx52 fun Node67 =>
 ldI .u64 (el66.add 1) Hx52 fun Serial68 =>
 evR PR (aggEq .eql ty_api_ID #[(.int .i64 Node67), (.int .u64 Serial68)] #[(.int .i64 2), (.int .u64 7)]) Hx52 fun v69 =>
 asB v69 fun eq70 =>
 (bif eq70 then
 hcall PR f_reach_Reacher_Step ⟨[(.pointer t35)]⟩ Hx52 fun v71 Hx72 =>
 asB v71 fun t73 =>
 K (.bool (!t73)) Hx72
else
 K (.bool false) Hx52)
else
 K (.bool false) Hx52)
else
 K (.bool false) Hx52)
else
 K (.bool false) Hx52))))))))
theorem E_law14_known  (H : Hp) (K : Value → Hp → Prop) : B_law14_known  H K = denF Try.prog Try.f80 (.seq none .n (.seq none .n (.seq none .n (.seq none .n (.seq none .n (.seq none .n (.seq none .n (.seq none .n (.seq none .n (.seq none .n (.seq none .n (.seq none .n (.seq none (.seq none .n (.sub (.loop ⟨[(7, .int .i64)], [5]⟩ .n))) .n))))))))))))) [] H K := by kernel_rfl
theorem den_law14_known  {H : Hp} {K : Value → Hp → Prop} (h : B_law14_known  H K) : hcall PR f_law14_known ⟨[]⟩ H K := denF_call Try.func80 PR_mixed (Eq.mp (E_law14_known  H K) h)

def B_law14_painted (h1 : Option Addr) (r2 : Option Addr) (lP3 : Option Addr) (lL4 : Nat) (lC5 : Nat) (H : Hp) (K : Value → Hp → Prop) : Prop :=
 hcall PR f_paint_New ⟨[(.pointer h1), (.int .i64 4)]⟩ H fun v6 Hx7 =>
 tup2 v6 fun v8 v9 =>
 asP v8 fun t10 =>
 asI .i64 v9 fun t11 =>
 (bif ((t11 : Int) != 0) then
 K (.tuple #[(.pointer none), (.pointer none)]) Hx7
else
 (bif (Option.isNone (α := Addr) t10) then
 K (.tuple #[(.pointer none), (.pointer none)]) Hx7
else
 hcall PR f_ref11_NewPaint ⟨[(.pointer r2), (.int .i64 4)]⟩ Hx7 fun v12 Hx13 =>
 asP v12 fun t14 =>
 ∃ (I15 : Int → Hp → Prop) (m16 : Int → Hp → Nat), I15 0 Hx13 ∧ ∀ i18 : Int, ∀ Hx17 : Hp, I15 i18 Hx17 →
 (bif (decide ((i18 : Int) < (lL4 : Int))) then
 (bif (decide ((i18 : Int) < 100)) then
 ∀ R19 : Hp → Prop, (∀ Hx20 : Hp, (
 I15 (IntKind.i64.wrap (i18 + 1)) Hx20 ∧ m16 (IntKind.i64.wrap (i18 + 1)) Hx20 < m16 i18 Hx17) → R19 Hx20) →
 idxA lP3 lL4 i18 5 fun el21 =>
 ldI .u64 el21 Hx17 fun Serial22 =>
 nilP r2 fun ra23 =>
 ldI .u64 (ra23.add 2) Hx17 fun Last24 =>
 ((IntKind.u64.wrap (Last24 + 1)) : Int) ≠ 0 ∧
 idxA lP3 lL4 i18 5 fun el25 =>
 ldI .i64 (el25.add 1) Hx17 fun Rank26 =>
 hcall PR f_paint_Paint_Shade ⟨[(.pointer t10), (.agg #[(.int .i64 1), (.int .u64 (Int.tmod Serial22 (IntKind.u64.wrap (Last24 + 1))))]), (.int .i64 Rank26)]⟩ Hx17 fun v27 Hx28 =>
 idxA lP3 lL4 i18 5 fun el29 =>
 ldI .i64 (el29.add 1) Hx28 fun Rank30 =>
 hcall PR f_ref11_Paint_Shade ⟨[(.pointer t14), (.agg #[(.int .i64 1), (.int .u64 (Int.tmod Serial22 (IntKind.u64.wrap (Last24 + 1))))]), (.int .i64 Rank30)]⟩ Hx28 fun v31 Hx32 =>
 idxA lP3 lL4 i18 5 fun el33 =>
 ldI .i64 (el33.add 2) Hx32 fun Node34 =>
 ldI .u64 ((el33.add 2).add 1) Hx32 fun Serial35 =>
 idxA lP3 lL4 i18 5 fun el36 =>
 ldI .i64 (el36.add 1) Hx32 fun Rank37 =>
 hcall PR f_paint_Paint_Shade ⟨[(.pointer t10), (.agg #[(.int .i64 Node34), (.int .u64 Serial35)]), (.int .i64 Rank37)]⟩ Hx32 fun v38 Hx39 =>
 idxA lP3 lL4 i18 5 fun el40 =>
 ldI .i64 (el40.add 2) Hx39 fun Node41 =>
 ldI .u64 ((el40.add 2).add 1) Hx39 fun Serial42 =>
 idxA lP3 lL4 i18 5 fun el43 =>
 ldI .i64 (el43.add 1) Hx39 fun Rank44 =>
 hcall PR f_ref11_Paint_Shade ⟨[(.pointer t14), (.agg #[(.int .i64 Node41), (.int .u64 Serial42)]), (.int .i64 Rank44)]⟩ Hx39 fun v45 Hx46 =>
 idxA lP3 lL4 i18 5 fun el47 =>
 ldB (el47.add 4) Hx46 fun Scan48 =>
 (bif Scan48 then
 hcall PR f_paint_Paint_Scan ⟨[(.pointer t10), (.int .u64 (Int.tmod Serial22 (IntKind.u64.wrap (Last24 + 1))))]⟩ Hx46 fun v49 Hx50 =>
 asB v49 fun t51 =>
 hcall PR f_ref11_Paint_Scan ⟨[(.pointer t14), (.int .u64 (Int.tmod Serial22 (IntKind.u64.wrap (Last24 + 1))))]⟩ Hx50 fun v52 Hx53 =>
 asB v52 fun t54 =>
 R19 Hx53
else
 R19 Hx46)
else
 K (.tuple #[(.pointer t10), (.pointer t14)]) Hx17)
else
 K (.tuple #[(.pointer t10), (.pointer t14)]) Hx17)))
theorem E_law14_painted (h1 : Option Addr) (r2 : Option Addr) (lP3 : Option Addr) (lL4 : Nat) (lC5 : Nat) (H : Hp) (K : Value → Hp → Prop) : B_law14_painted h1 r2 lP3 lL4 lC5 H K = denF Try.prog Try.f84 (.seq none .n (.seq none .n (.seq none .n (.seq none .n (.seq none (.seq none .n (.sub (.loop ⟨[(11, .int .i64)], [1, 2, 8, 10]⟩ (.seq none .n (.seq (some ⟨[], [1, 2, 8, 10, 11]⟩) .n .n))))) .n))))) [(.pointer h1), (.pointer r2), (.slice lP3 lL4 lC5)] H K := by kernel_rfl
theorem den_law14_painted {h1 : Option Addr} {r2 : Option Addr} {lP3 : Option Addr} {lL4 : Nat} {lC5 : Nat} {H : Hp} {K : Value → Hp → Prop} (h : B_law14_painted h1 r2 lP3 lL4 lC5 H K) : hcall PR f_law14_painted ⟨[(.pointer h1), (.pointer r2), (.slice lP3 lL4 lC5)]⟩ H K := denF_call Try.func84 PR_mixed (Eq.mp (E_law14_painted h1 r2 lP3 lL4 lC5 H K) h)

def B_law14_leads (gRefsP1 : Option Addr) (gRefsL2 : Nat) (gRefsC3 : Nat) (gOutP4 : Option Addr) (gOutL5 : Nat) (gOutC6 : Nat) (gInP7 : Option Addr) (gInL8 : Nat) (gInC9 : Nat) (q10 : Option Addr) (n11 : Int) (s12 : Int) (suspect13 : Int) (H : Hp) (K : Value → Hp → Prop) : Prop :=
 newB (.cells #[(.slice gRefsP1 gRefsL2 gRefsC3), (.slice gOutP4 gOutL5 gOutC6), (.slice gInP7 gInL8 gInC9)] ty_hand_Graph) H fun b14 Hx15 =>
 evW PR (Instr.makeSlice ty_Sbool (.int .i64 (IntKind.i64.wrap (n11 + 1))) (.int .i64 (IntKind.i64.wrap (n11 + 1)))) Hx15 fun v16 Hx17 =>
 asSl v16 fun mkP18 mkL19 mkC20 =>
 idxA mkP18 mkL19 s12 1 fun el21 =>
 st el21 (.bool true) Hx17 fun Hx22 =>
 ∃ (I23 : Int → Hp → Prop) (m24 : Int → Hp → Nat), I23 0 Hx22 ∧ ∀ round26 : Int, ∀ Hx25 : Hp, I23 round26 Hx25 →
 (bif (decide ((round26 : Int) < n11)) then
 ∃ (I27 : Int → Hp → Prop) (m28 : Int → Hp → Nat), I27 1 Hx25 ∧ ∀ i30 : Int, ∀ Hx29 : Hp, I27 i30 Hx29 →
 (bif (decide ((i30 : Int) ≤ n11)) then
 ∀ R31 : Hp → Prop, (∀ Hx32 : Hp, (
 I27 (IntKind.i64.wrap (i30 + 1)) Hx32 ∧ m28 (IntKind.i64.wrap (i30 + 1)) Hx32 < m28 i30 Hx29) → R31 Hx32) →
 ∃ (I33 : Int → Hp → Prop) (m34 : Int → Hp → Nat), I33 0 Hx29 ∧ ∀ k36 : Int, ∀ Hx35 : Hp, I33 k36 Hx35 →
 idxA mkP18 mkL19 i30 1 fun el37 =>
 ldB el37 Hx35 fun t38 =>
 (bif t38 then
 ldSl ⟨b14, 0, none⟩ Hx35 fun RefsP39 RefsL40 RefsC41 =>
 idxA RefsP39 RefsL40 (IntKind.i64.wrap (i30 - 1)) 1 fun el42 =>
 ldSl el42 Hx35 fun tP43 tL44 tC45 =>
 (bif (decide ((k36 : Int) < (tL44 : Int))) then
 (bif (decide ((k36 : Int) < 7)) then
 ∀ R46 : Hp → Prop, (∀ Hx47 : Hp, (
 I33 (IntKind.i64.wrap (k36 + 1)) Hx47 ∧ m34 (IntKind.i64.wrap (k36 + 1)) Hx47 < m34 k36 Hx35) → R46 Hx47) →
 ldSl ⟨b14, 0, none⟩ Hx35 fun RefsP48 RefsL49 RefsC50 =>
 ldSl ⟨b14, 1, none⟩ Hx35 fun OutP51 OutL52 OutC53 =>
 ldSl ⟨b14, 2, none⟩ Hx35 fun InP54 InL55 InC56 =>
 hcall PR f_hand_Graph_Target ⟨[(.agg #[(.slice RefsP48 RefsL49 RefsC50), (.slice OutP51 OutL52 OutC53), (.slice InP54 InL55 InC56)]), (.int .i64 (IntKind.i64.wrap (i30 - 1))), (.int .i64 k36), (.int .i64 n11)]⟩ Hx35 fun v57 Hx58 =>
 agg2 v57 fun v59 v60 =>
 asI .i64 v59 fun Node61 =>
 asI .u64 v60 fun Serial62 =>
 newB (.cells #[(.int .i64 0), (.int .u64 0)] ty_api_ID) Hx58 fun b63 Hx64 =>
 st ⟨b63, 0, none⟩ (.int .i64 Node61) Hx64 fun Hx65 =>
 st ⟨b63, 1, none⟩ (.int .u64 Serial62) Hx65 fun Hx66 =>
 ldI .u64 ⟨b63, 1, none⟩ Hx66 fun Serial67 =>
 hcall PR f_ref11_Paint_Mark ⟨[(.pointer q10), (.int .u64 Serial67)]⟩ Hx66 fun v68 Hx69 =>
 tup3 v68 fun v70 v71 v72 =>
 asI .i64 v70 fun t73 =>
 asB v71 fun t74 =>
 asB v72 fun t75 =>
 ldI .i64 ⟨b63, 0, none⟩ Hx69 fun Node76 =>
 (bif ((Node76 : Int) == 1) then
 (bif t75 then
 (bif (decide ((t73 : Int) > suspect13)) then
 ldI .u64 ⟨b63, 1, none⟩ Hx69 fun Serial77 =>
 idxA mkP18 mkL19 Serial77 1 fun el78 =>
 st el78 (.bool true) Hx69 fun Hx79 =>
 R46 Hx79
else
 R46 Hx69)
else
 R46 Hx69)
else
 R46 Hx69)
else
 R31 Hx35)
else
 R31 Hx35)
else
 R31 Hx35)
else
 I23 (IntKind.i64.wrap (round26 + 1)) Hx29 ∧ m24 (IntKind.i64.wrap (round26 + 1)) Hx29 < m24 round26 Hx25)
else
 hcall PR f_ref11_Paint_Outs ⟨[(.pointer q10)]⟩ Hx25 fun v80 Hx81 =>
 asSl v80 fun tP82 tL83 tC84 =>
 ∃ (I85 : Option Addr → Nat → Nat → Int → Hp → Prop) (m86 : Option Addr → Nat → Nat → Int → Hp → Nat), I85 none 0 0 0 Hx81 ∧ ∀ outP88 : Option Addr, ∀ outL89 : Nat, ∀ outC90 : Nat, ∀ j91 : Int, ∀ Hx87 : Hp, I85 outP88 outL89 outC90 j91 Hx87 →
 (bif (decide ((j91 : Int) < (tL83 : Int))) then
 ∀ R92 : Option Addr → Nat → Nat → Hp → Prop, (∀ outP94 : Option Addr, ∀ outL95 : Nat, ∀ outC96 : Nat, ∀ Hx93 : Hp, (
 I85 outP94 outL95 outC96 (IntKind.i64.wrap (j91 + 1)) Hx93 ∧ m86 outP94 outL95 outC96 (IntKind.i64.wrap (j91 + 1)) Hx93 < m86 outP88 outL89 outC90 j91 Hx87) → R92 outP94 outL95 outC96 Hx93) →
 ∃ (I97 : Bool → Int → Hp → Prop) (m98 : Bool → Int → Hp → Nat), I97 false 1 Hx87 ∧ ∀ found100 : Bool, ∀ i101 : Int, ∀ Hx99 : Hp, I97 found100 i101 Hx99 →
 (bif (decide ((i101 : Int) ≤ n11)) then
 ∀ R102 : Bool → Hp → Prop, (∀ found104 : Bool, ∀ Hx103 : Hp, (
 I97 found104 (IntKind.i64.wrap (i101 + 1)) Hx103 ∧ m98 found104 (IntKind.i64.wrap (i101 + 1)) Hx103 < m98 found100 i101 Hx99) → R102 found104 Hx103) →
 ∃ (I105 : Bool → Int → Hp → Prop) (m106 : Bool → Int → Hp → Nat), I105 found100 0 Hx99 ∧ ∀ found108 : Bool, ∀ k109 : Int, ∀ Hx107 : Hp, I105 found108 k109 Hx107 →
 idxA mkP18 mkL19 i101 1 fun el110 =>
 ldB el110 Hx107 fun t111 =>
 (bif t111 then
 ldSl ⟨b14, 0, none⟩ Hx107 fun RefsP112 RefsL113 RefsC114 =>
 idxA RefsP112 RefsL113 (IntKind.i64.wrap (i101 - 1)) 1 fun el115 =>
 ldSl el115 Hx107 fun tP116 tL117 tC118 =>
 (bif (decide ((k109 : Int) < (tL117 : Int))) then
 (bif (decide ((k109 : Int) < 7)) then
 ∀ R119 : Bool → Hp → Prop, (∀ found121 : Bool, ∀ Hx120 : Hp, (
 I105 found121 (IntKind.i64.wrap (k109 + 1)) Hx120 ∧ m106 found121 (IntKind.i64.wrap (k109 + 1)) Hx120 < m106 found108 k109 Hx107) → R119 found121 Hx120) →
 (bif found108 then
 R119 true Hx107
else
 ldSl ⟨b14, 0, none⟩ Hx107 fun RefsP122 RefsL123 RefsC124 =>
 ldSl ⟨b14, 1, none⟩ Hx107 fun OutP125 OutL126 OutC127 =>
 ldSl ⟨b14, 2, none⟩ Hx107 fun InP128 InL129 InC130 =>
 idxA tP82 tL83 j91 3 fun el131 =>
 ldI .i64 el131 Hx107 fun Node132 =>
 ldI .u64 (el131.add 1) Hx107 fun Serial133 =>
 hcall PR f_hand_Graph_Target ⟨[(.agg #[(.slice RefsP122 RefsL123 RefsC124), (.slice OutP125 OutL126 OutC127), (.slice InP128 InL129 InC130)]), (.int .i64 (IntKind.i64.wrap (i101 - 1))), (.int .i64 k109), (.int .i64 n11)]⟩ Hx107 fun v134 Hx135 =>
 agg2 v134 fun v136 v137 =>
 asI .i64 v136 fun Node138 =>
 asI .u64 v137 fun Serial139 =>
 (ldI .i64 el131 Hx135 fun Node140 =>
 ldI .u64 (el131.add 1) Hx135 fun Serial141 =>
 ((.agg #[(.int .i64 Node140), (.int .u64 Serial141)]) : Value) = (.agg #[(.int .i64 Node132), (.int .u64 Serial133)])) ∧
 evR PR (aggEq .eql ty_api_ID #[(.int .i64 Node138), (.int .u64 Serial139)] #[(.int .i64 Node132), (.int .u64 Serial133)]) Hx135 fun v142 =>
 asB v142 fun eq143 =>
 R119 eq143 Hx135)
else
 R102 found108 Hx107)
else
 R102 found108 Hx107)
else
 R102 found108 Hx107)
else
 (bif found100 then
 idxA tP82 tL83 j91 3 fun el144 =>
 ldI .i64 (el144.add 2) Hx99 fun Rank145 =>
 (bif (decide ((Rank145 : Int) > suspect13)) then
 idxA tP82 tL83 j91 3 fun el146 =>
 ldI .i64 el146 Hx99 fun Node147 =>
 ldI .u64 (el146.add 1) Hx99 fun Serial148 =>
 newB (.cells #[(.int .i64 Node147), (.int .u64 Serial148)] ty_api_ID) Hx99 fun b149 Hx150 =>
 evW PR (Builtin.append_ #[ty_Sapi_ID, ty_Sapi_ID] ty_Sapi_ID #[(.slice outP88 outL89 outC90), (.slice (some ⟨b149, 0, none⟩) 1 1)]) Hx150 fun v151 Hx152 =>
 asSl v151 fun tP153 tL154 tC155 =>
 R92 tP153 tL154 tC155 Hx152
else
 R92 outP88 outL89 outC90 Hx99)
else
 R92 outP88 outL89 outC90 Hx99))
else
 K (.slice outP88 outL89 outC90) Hx87))
theorem E_law14_leads (gRefsP1 : Option Addr) (gRefsL2 : Nat) (gRefsC3 : Nat) (gOutP4 : Option Addr) (gOutL5 : Nat) (gOutC6 : Nat) (gInP7 : Option Addr) (gInL8 : Nat) (gInC9 : Nat) (q10 : Option Addr) (n11 : Int) (s12 : Int) (suspect13 : Int) (H : Hp) (K : Value → Hp → Prop) : B_law14_leads gRefsP1 gRefsL2 gRefsC3 gOutP4 gOutL5 gOutC6 gInP7 gInL8 gInC9 q10 n11 s12 suspect13 H K = denF Try.prog Try.f88 (.seq none .n (.seq none .n (.seq none .n (.seq none (.seq none .n (.sub (.loop ⟨[(12, .int .i64)], [1, 2, 4, 5, 11]⟩ (.seq none .n (.seq none (.sub (.seq none .n (.sub (.loop ⟨[(13, .int .i64)], [1, 2, 4, 5, 11, 12]⟩ (.seq none .n (.seq (some ⟨[], [1, 2, 4, 5, 11, 12, 13]⟩) (.sub (.seq none .n (.sub (.loop ⟨[(14, .int .i64)], [1, 2, 4, 5, 11, 12, 13]⟩ (.seq none .n (.seq (some ⟨[], [1, 2, 4, 5, 11, 12, 13, 14]⟩) .n .n)))))) .n)))))) .n))))) (.seq none .n (.seq none .n (.seq none (.seq none .n (.sub (.loop ⟨[(19, .sl), (21, .int .i64)], [2, 4, 5, 11, 20]⟩ (.seq none .n (.seq (some ⟨[(19, .sl)], [2, 4, 5, 11, 20, 21]⟩) (.sub (.seq none .n (.seq none (.seq none .n (.sub (.loop ⟨[(22, .bool), (23, .int .i64)], [2, 4, 5, 11, 19, 20, 21]⟩ (.seq none .n (.seq (some ⟨[(22, .bool)], [2, 4, 5, 11, 19, 20, 21, 23]⟩) (.sub (.seq none .n (.sub (.loop ⟨[(22, .bool), (24, .int .i64)], [2, 4, 5, 11, 19, 20, 21, 23]⟩ (.seq none .n (.seq (some ⟨[(22, .bool)], [2, 4, 5, 11, 19, 20, 21, 23, 24]⟩) .n .n)))))) .n))))) .n))) .n))))) .n))))))) [(.agg #[(.slice gRefsP1 gRefsL2 gRefsC3), (.slice gOutP4 gOutL5 gOutC6), (.slice gInP7 gInL8 gInC9)]), (.pointer q10), (.int .i64 n11), (.int .i64 s12), (.int .i64 suspect13)] H K := by kernel_rfl
theorem den_law14_leads {gRefsP1 : Option Addr} {gRefsL2 : Nat} {gRefsC3 : Nat} {gOutP4 : Option Addr} {gOutL5 : Nat} {gOutC6 : Nat} {gInP7 : Option Addr} {gInL8 : Nat} {gInC9 : Nat} {q10 : Option Addr} {n11 : Int} {s12 : Int} {suspect13 : Int} {H : Hp} {K : Value → Hp → Prop} (h : B_law14_leads gRefsP1 gRefsL2 gRefsC3 gOutP4 gOutL5 gOutC6 gInP7 gInL8 gInC9 q10 n11 s12 suspect13 H K) : hcall PR f_law14_leads ⟨[(.agg #[(.slice gRefsP1 gRefsL2 gRefsC3), (.slice gOutP4 gOutL5 gOutC6), (.slice gInP7 gInL8 gInC9)]), (.pointer q10), (.int .i64 n11), (.int .i64 s12), (.int .i64 suspect13)]⟩ H K := denF_call Try.func88 PR_mixed (Eq.mp (E_law14_leads gRefsP1 gRefsL2 gRefsC3 gOutP4 gOutL5 gOutC6 gInP7 gInL8 gInC9 q10 n11 s12 suspect13 H K) h)

end Go.Proofs.Ytohlnmenghbgbaa

/- PRINTED by gen.py: functions as plain propositions, held against the program by the kernel. No condition. -/
namespace Go.Proofs.Ytohlnmenghbgbaa
open Go
set_option linter.unusedVariables false
set_option maxRecDepth 100000

def B_law14_ReachEnds (gRefsP1 : Option Addr) (gRefsL2 : Nat) (gRefsC3 : Nat) (gOutP4 : Option Addr) (gOutL5 : Nat) (gOutC6 : Nat) (gInP7 : Option Addr) (gInL8 : Nat) (gInC9 : Nat) (lP10 : Option Addr) (lL11 : Nat) (lC12 : Nat) (H : Hp) (K : Value → Hp → Prop) : Prop :=
 newB (.cells #[(.slice gRefsP1 gRefsL2 gRefsC3), (.slice gOutP4 gOutL5 gOutC6), (.slice gInP7 gInL8 gInC9)] ty_hand_Graph) H fun b13 Hx14 =>
 ldSl ⟨b13, 0, none⟩ Hx14 fun RefsP15 RefsL16 RefsC17 =>
 ldSl ⟨b13, 1, none⟩ Hx14 fun OutP18 OutL19 OutC20 =>
 ldSl ⟨b13, 2, none⟩ Hx14 fun InP21 InL22 InC23 =>
 hcall PR f_hand_Graph_Heaps ⟨[(.agg #[(.slice RefsP15 RefsL16 RefsC17), (.slice OutP18 OutL19 OutC20), (.slice InP21 InL22 InC23)]), (.int .i64 40)]⟩ Hx14 fun v24 Hx25 =>
 tup2 v24 fun v26 v27 =>
 asP v26 fun t28 =>
 asP v27 fun t29 =>
 hcall PR f_law14_known ⟨[]⟩ Hx25 fun v30 Hx31 =>
 asB v30 fun t32 =>
 (bif (!t32) then
 K (.bool false) Hx31
else
 (bif (Option.isNone (α := Addr) t28) then
 K (.bool false) Hx31
else
 hcall PR f_law14_painted ⟨[(.pointer t28), (.pointer t29), (.slice lP10 lL11 lC12)]⟩ Hx31 fun v33 Hx34 =>
 tup2 v33 fun v35 v36 =>
 asP v35 fun t37 =>
 asP v36 fun t38 =>
 (bif (Option.isNone (α := Addr) t37) then
 K (.bool false) Hx34
else
 hcall PR f_reach_New ⟨[(.pointer t28), (.pointer t37)]⟩ Hx34 fun v39 Hx40 =>
 tup2 v39 fun v41 v42 =>
 asP v41 fun t43 =>
 asI .i64 v42 fun t44 =>
 (bif ((t44 : Int) != 0) then
 K (.bool false) Hx40
else
 (bif (Option.isNone (α := Addr) t43) then
 K (.bool false) Hx40
else
 hcall PR f_reach_Reacher_Begin ⟨[(.pointer t43), (.int .i64 0)]⟩ Hx40 fun v45 Hx46 =>
 nilP t29 fun ta47 =>
 ldI .u64 (ta47.add 2) Hx46 fun Last48 =>
 ∀ R49 : Int → Hp → Prop, (∀ k51 : Int, ∀ Hx50 : Hp, (
 (bif (decide ((k51 : Int) ≤ (IntKind.i64.wrap ((IntKind.i64.wrap ((IntKind.i64.wrap Last48) + 1)) * (IntKind.i64.wrap ((IntKind.i64.wrap Last48) + 1)))))) then
 hcall PR f_reach_Reacher_Step ⟨[(.pointer t43)]⟩ Hx50 fun v52 Hx53 =>
 asB v52 fun t54 =>
 K (.bool (!t54)) Hx53
else
 K (.bool false) Hx50)) → R49 k51 Hx50) →
 ∃ (I55 : Int → Hp → Prop) (m56 : Int → Hp → Nat), I55 0 Hx46 ∧ ∀ k58 : Int, ∀ Hx57 : Hp, I55 k58 Hx57 →
 (bif (decide ((k58 : Int) ≤ (IntKind.i64.wrap ((IntKind.i64.wrap ((IntKind.i64.wrap Last48) + 1)) * (IntKind.i64.wrap ((IntKind.i64.wrap Last48) + 2)))))) then
 hcall PR f_reach_Reacher_Step ⟨[(.pointer t43)]⟩ Hx57 fun v59 Hx60 =>
 asB v59 fun t61 =>
 (bif t61 then
 I55 (IntKind.i64.wrap (k58 + 1)) Hx60 ∧ m56 (IntKind.i64.wrap (k58 + 1)) Hx60 < m56 k58 Hx57
else
 R49 k58 Hx60)
else
 R49 k58 Hx57))))))
theorem E_law14_ReachEnds (gRefsP1 : Option Addr) (gRefsL2 : Nat) (gRefsC3 : Nat) (gOutP4 : Option Addr) (gOutL5 : Nat) (gOutC6 : Nat) (gInP7 : Option Addr) (gInL8 : Nat) (gInC9 : Nat) (lP10 : Option Addr) (lL11 : Nat) (lC12 : Nat) (H : Hp) (K : Value → Hp → Prop) : B_law14_ReachEnds gRefsP1 gRefsL2 gRefsC3 gOutP4 gOutL5 gOutC6 gInP7 gInL8 gInC9 lP10 lL11 lC12 H K = denF Try.prog Try.f24 (.seq none .n (.seq none .n (.seq none .n (.seq none .n (.seq none .n (.seq none .n (.seq none .n (.seq none .n (.seq none .n (.seq none .n (.seq (some ⟨[(12, .int .i64)], [9, 11]⟩) (.sub (.loop ⟨[(12, .int .i64)], [9, 11]⟩ .n)) .n))))))))))) [(.agg #[(.slice gRefsP1 gRefsL2 gRefsC3), (.slice gOutP4 gOutL5 gOutC6), (.slice gInP7 gInL8 gInC9)]), (.slice lP10 lL11 lC12)] H K := by kernel_rfl
theorem den_law14_ReachEnds {gRefsP1 : Option Addr} {gRefsL2 : Nat} {gRefsC3 : Nat} {gOutP4 : Option Addr} {gOutL5 : Nat} {gOutC6 : Nat} {gInP7 : Option Addr} {gInL8 : Nat} {gInC9 : Nat} {lP10 : Option Addr} {lL11 : Nat} {lC12 : Nat} {H : Hp} {K : Value → Hp → Prop} (h : B_law14_ReachEnds gRefsP1 gRefsL2 gRefsC3 gOutP4 gOutL5 gOutC6 gInP7 gInL8 gInC9 lP10 lL11 lC12 H K) : hcall PR f_law14_ReachEnds ⟨[(.agg #[(.slice gRefsP1 gRefsL2 gRefsC3), (.slice gOutP4 gOutL5 gOutC6), (.slice gInP7 gInL8 gInC9)]), (.slice lP10 lL11 lC12)]⟩ H K := denF_call Try.func24 PR_mixed (Eq.mp (E_law14_ReachEnds gRefsP1 gRefsL2 gRefsC3 gOutP4 gOutL5 gOutC6 gInP7 gInL8 gInC9 lP10 lL11 lC12 H K) h)

end Go.Proofs.Ytohlnmenghbgbaa

/- PRINTED by gen.py: functions as plain propositions, held against the program by the kernel. No condition. -/
namespace Go.Proofs.Ytohlnmenghbgbaa
open Go
set_option linter.unusedVariables false
set_option maxRecDepth 100000

def B_law14_ReachKnown  (H : Hp) (K : Value → Hp → Prop) : Prop :=
 newB (.cells #[(.int .i64 2)] ty_int) H fun b1 Hx2 =>
 newB (.cells #[(.int .i64 1)] ty_int) Hx2 fun b3 Hx4 =>
 newB (.cells #[(.slice (some ⟨b1, 0, none⟩) 1 1), (.slice (some ⟨b3, 0, none⟩) 1 1)] ty_Sint) Hx4 fun b5 Hx6 =>
 newB (.cells #[(.int .i64 12)] ty_int) Hx6 fun b7 Hx8 =>
 hcall PR f_hand_Graph_Heaps ⟨[(.agg #[(.slice (some ⟨b5, 0, none⟩) 2 2), (.slice none 0 0), (.slice (some ⟨b7, 0, none⟩) 1 1)]), (.int .i64 5)]⟩ Hx8 fun v9 Hx10 =>
 tup2 v9 fun v11 v12 =>
 asP v11 fun t13 =>
 asP v12 fun t14 =>
 hcall PR f_law14_known ⟨[]⟩ Hx10 fun v15 Hx16 =>
 asB v15 fun t17 =>
 (bif (!t17) then
 K (.bool false) Hx16
else
 (bif (Option.isNone (α := Addr) t13) then
 K (.bool false) Hx16
else
 hcall PR f_paint_New ⟨[(.pointer t13), (.int .i64 2)]⟩ Hx16 fun v18 Hx19 =>
 tup2 v18 fun v20 v21 =>
 asP v20 fun t22 =>
 asI .i64 v21 fun t23 =>
 hcall PR f_reach_New ⟨[(.pointer none), (.pointer t22)]⟩ Hx19 fun v24 Hx25 =>
 tup2 v24 fun v26 v27 =>
 asP v26 fun t28 =>
 asI .i64 v27 fun t29 =>
 hcall PR f_reach_New ⟨[(.pointer t13), (.pointer none)]⟩ Hx25 fun v30 Hx31 =>
 tup2 v30 fun v32 v33 =>
 asP v32 fun t34 =>
 asI .i64 v33 fun t35 =>
 hcall PR f_reach_New ⟨[(.pointer t13), (.pointer t22)]⟩ Hx31 fun v36 Hx37 =>
 tup2 v36 fun v38 v39 =>
 asP v38 fun t40 =>
 asI .i64 v39 fun t41 =>
 (bif ((t29 : Int) != 1) then
 K (.bool false) Hx37
else
 (bif ((t35 : Int) != 1) then
 K (.bool false) Hx37
else
 (bif ((t41 : Int) != 0) then
 K (.bool false) Hx37
else
 (bif (Option.isNone (α := Addr) t40) then
 K (.bool false) Hx37
else
 hcall PR f_reach_Reacher_Step ⟨[(.pointer t40)]⟩ Hx37 fun v42 Hx43 =>
 asB v42 fun t44 =>
 (bif t44 then
 hcall PR f_reach_Reacher_Step ⟨[(.pointer t40)]⟩ Hx43 fun v45 Hx46 =>
 asB v45 fun t47 =>
 (bif t47 then
 hcall PR f_reach_Reacher_Step ⟨[(.pointer t40)]⟩ Hx46 fun v48 Hx49 =>
 asB v48 fun t50 =>
 (bif (!t50) then
 hcall PR f_reach_Reacher_Rows ⟨[(.pointer t40)]⟩ Hx49 fun v51 Hx52 =>
 asSl v51 fun tP53 tL54 tC55 =>
 K (.bool (((tL54 : Int) : Int) == 0)) Hx52
else
 K (.bool false) Hx49)
else
 K (.bool false) Hx46)
else
 K (.bool false) Hx43)))))))
theorem E_law14_ReachKnown  (H : Hp) (K : Value → Hp → Prop) : B_law14_ReachKnown  H K = denF Try.prog Try.f22 .n [] H K := by kernel_rfl
theorem den_law14_ReachKnown  {H : Hp} {K : Value → Hp → Prop} (h : B_law14_ReachKnown  H K) : hcall PR f_law14_ReachKnown ⟨[]⟩ H K := denF_call Try.func22 PR_mixed (Eq.mp (E_law14_ReachKnown  H K) h)

end Go.Proofs.Ytohlnmenghbgbaa

/- Chapter 14's statements, run: its example, what is painted, ReachKnown, ReachEnds. No condition. -/
namespace Go.Proofs.Ytohlnmenghbgbaa
set_option linter.unusedSimpArgs false
set_option linter.unusedVariables false
open Go

/-- One object, held with distance 5, that leads to another node's. -/
theorem known14_heap {s : Hs} {c1 : Int} (ho : s.ok) (hobs : s.obs = [⟨1, c1, [⟨2, 7⟩], [], 5⟩]) (hn : s.node = 1) (p : Ps) (hp : p = ⟨[(1, (5, false))], [(⟨2, 7⟩, 5)], [1], 2, false, 0⟩) :
    (pScan s (pShade s (newPs 2) ⟨1, 1⟩ 5) 1).2 = p ∧ rcStep s p (rcNew 3) = (true, ⟨3, 1, some ⟨1, [1], [1], []⟩, []⟩) ∧ rcStep s p ⟨3, 1, some ⟨1, [1], [1], []⟩, []⟩ = (true, ⟨3, 1, some ⟨1, [1], [], [(⟨2, 7⟩, 1)]⟩, []⟩) ∧
    rcStep s p ⟨3, 1, some ⟨1, [1], [], [(⟨2, 7⟩, 1)]⟩, []⟩ = (true, ⟨3, 1, none, [(1, [⟨2, 7⟩])]⟩) ∧ rcStep s p ⟨3, 1, none, [(1, [⟨2, 7⟩])]⟩ = (false, ⟨3, 1, none, [(1, [⟨2, 7⟩])]⟩) := by
  have g1 : hGet s 1 = some ⟨1, c1, [⟨2, 7⟩], [], 5⟩ := by unfold hGet; rw [hobs]; rfl
  have h1 : ¬ hGet s 1 = none := by rw [g1]; simp
  have n0 : hNext s 0 = (1, true) := by unfold hNext; rw [hobs]; rfl
  have n1 : hNext s 1 = (0, false) := by unfold hNext; rw [hobs]; rfl
  have own : rcOwn s p 3 1 = true := by
    rw [rcOwn_iff]
    exact ⟨h1, 5, false, by rw [hp]; rfl, by decide⟩
  have met : pMet p ⟨2, 7⟩ = (5, true) := by rw [hp]; rfl
  refine ⟨?_, ?_, ?_, ?_, ?_⟩
  · have e1 : pShade s (newPs 2) ⟨1, 1⟩ 5 = ⟨[(1, (5, true))], [], [1], 2, false, 0⟩ := by
      unfold pShade
      rw [if_neg (by decide), if_neg (by rw [hn]; simp), if_neg h1]
      rfl
    rw [e1]
    unfold pScan
    rw [g1, show mlook (⟨[(1, (5, true))], [], [1], 2, false, 0⟩ : Ps).marks 1 = some (5, true) from rfl]
    simp only [pShades, List.foldl_cons, List.foldl_nil]
    unfold pShade
    rw [if_neg (by decide), if_pos (by rw [hn]; decide), hp]
    rfl
  · unfold rcStep rcNew rcNext
    simp only [n0, g1, own]
    rw [if_neg (by decide), if_pos ⟨by decide, trivial⟩]
    rfl
  · unfold rcStep
    simp only [List.getLast?_singleton]
    unfold rcFollow rcRefs rcSees
    rw [g1]
    simp only [List.foldl_cons, List.foldl_nil, List.dropLast_singleton]
    unfold rcSee
    rw [if_neg (by rw [hn]; decide), met, if_pos ⟨rfl, by decide⟩]
    rfl
  · unfold rcStep rcNext
    simp only [List.getLast?_nil, n1]
    rfl
  · unfold rcStep rcNext
    simp only [n1]
    rfl

theorem known14_ok {H0 H : Hp} {L : List Prt} {K : Value → Hp → Prop} (h : St H0 L H) (hK : ∀ H', St H0 L H' → K (.bool true) H') : hcall PR f_law14_known ⟨[]⟩ H K := by
  apply den_law14_known
  unfold B_law14_known
  refine hNewOk (m := 4) (by decide) (by decide) (by decide) (by decide) (by decide) h fun hb H1 h1 => ?_
  simp only [asI_mk', asB_mk, asP_mk, asA_mk, asM_mk, asSl_mk, asStr_mk, tup2_mk, tup3_mk, agg1_mk, agg2_mk, agg3_mk, agg4_mk, asAggm, unCons_mk, unNil_mk, asTup_mk, extractD0, extractD1, List.toList_toArray, nilP_mk, add_mk, Nat.zero_add, Nat.add_zero, condT, condF, Bool.not_true, Bool.not_false, Option.isNone_some, Option.isNone_none]
  refine bif_neqf rfl ?_
  obtain ⟨s1, c1, a0, a1, a2, a3, a4, a5, a6⟩ := hMake_good' (s := newHs 1 4 0 4) (r := 1) (v := 0) (heap_ok h1 (i := 0) rfl) (by omega) (by omega) (by decide) (by decide) (by show 0 < frees (List.replicate 4 noBlk); rw [frees_new]; omega)
  refine hMakeC h1 (i := 0) rfl (by decide) (by decide) fun H2 h2 => ?_
  rw [a0] at h2 ⊢
  have h2 : St H0 (HeapP hb s1 :: L) H2 := h2
  simp only [asI_mk', asB_mk, asP_mk, asA_mk, asM_mk, asSl_mk, asStr_mk, tup2_mk, tup3_mk, agg1_mk, agg2_mk, agg3_mk, agg4_mk, asAggm, unCons_mk, unNil_mk, asTup_mk, extractD0, extractD1, List.toList_toArray, nilP_mk, add_mk, Nat.zero_add, Nat.add_zero, condT, condF, Bool.not_true, Bool.not_false, Option.isNone_some, Option.isNone_none]
  have a3 : s1.node = 1 := a3
  have a4 : s1.obs = [⟨1, c1, [noId], [], 0⟩] := a4
  refine hSetRefC (y := ⟨2, 7⟩) h2 (i := 0) rfl fun H4 h4 => ?_
  simp only [asI_mk', asB_mk, asP_mk, asA_mk, asM_mk, asSl_mk, asStr_mk, tup2_mk, tup3_mk, agg1_mk, agg2_mk, agg3_mk, agg4_mk, asAggm, unCons_mk, unNil_mk, asTup_mk, extractD0, extractD1, List.toList_toArray, nilP_mk, add_mk, Nat.zero_add, Nat.add_zero, condT, condF, Bool.not_true, Bool.not_false, Option.isNone_some, Option.isNone_none]
  have d1 : (hSetRef s1 1 0 ⟨2, 7⟩).2.2 = { s1 with obs := [⟨1, c1, [⟨2, 7⟩], [], 0⟩] } := by
    have g1 : hGet s1 1 = some ⟨1, c1, [noId], [], 0⟩ := by unfold hGet; rw [a4]; rfl
    have hr : (hRef s1 1 0).2 = 0 := by unfold hRef; rw [g1]; rfl
    unfold hSetRef
    rw [if_neg (by decide), if_pos hr]
    unfold hPut
    rw [a4]
    rfl
  rw [d1] at h4
  have h4 : St H0 (HeapP hb { s1 with obs := [⟨1, c1, [⟨2, 7⟩], [], 0⟩] } :: L) H4 := h4
  refine hSetInC h4 (i := 0) rfl fun H5 h5 => ?_
  simp only [asI_mk', asB_mk, asP_mk, asA_mk, asM_mk, asSl_mk, asStr_mk, tup2_mk, tup3_mk, agg1_mk, agg2_mk, agg3_mk, agg4_mk, asAggm, unCons_mk, unNil_mk, asTup_mk, extractD0, extractD1, List.toList_toArray, nilP_mk, add_mk, Nat.zero_add, Nat.add_zero, condT, condF, Bool.not_true, Bool.not_false, Option.isNone_some, Option.isNone_none]
  have d2 : (hSetIn { s1 with obs := [⟨1, c1, [⟨2, 7⟩], [], 0⟩] } 1 5).2 = { s1 with obs := [⟨1, c1, [⟨2, 7⟩], [], 5⟩] } := rfl
  rw [d2] at h5
  have h5 : St H0 (HeapP hb { s1 with obs := [⟨1, c1, [⟨2, 7⟩], [], 5⟩] } :: L) H5 := h5
  obtain ⟨k1, k2, k3, k4, k5⟩ := known14_heap (s := { s1 with obs := [⟨1, c1, [⟨2, 7⟩], [], 5⟩] }) (heap_ok h5 (i := 0) rfl) rfl a3 _ rfl
  generalize ({ s1 with obs := [⟨1, c1, [⟨2, 7⟩], [], 5⟩] } : Hs) = s at *
  refine pNewOk h5 (by omega) (by omega) fun pb H6 h6 => ?_
  simp only [asI_mk', asB_mk, asP_mk, asA_mk, asM_mk, asSl_mk, asStr_mk, tup2_mk, tup3_mk, agg1_mk, agg2_mk, agg3_mk, agg4_mk, asAggm, unCons_mk, unNil_mk, asTup_mk, extractD0, extractD1, List.toList_toArray, nilP_mk, add_mk, Nat.zero_add, Nat.add_zero, condT, condF, Bool.not_true, Bool.not_false, Option.isNone_some, Option.isNone_none]
  refine rcNewC (hb := hb) (pb := pb) h6 fun rc H7 h7 => ?_
  simp only [asI_mk', asB_mk, asP_mk, asA_mk, asM_mk, asSl_mk, asStr_mk, tup2_mk, tup3_mk, agg1_mk, agg2_mk, agg3_mk, agg4_mk, asAggm, unCons_mk, unNil_mk, asTup_mk, extractD0, extractD1, List.toList_toArray, nilP_mk, add_mk, Nat.zero_add, Nat.add_zero, condT, condF, Bool.not_true, Bool.not_false, Option.isNone_some, Option.isNone_none]
  refine bif_neqf rfl (bif_neqf rfl ?_)
  refine pShadeC (y := ⟨1, 1⟩) h7 (i := 2) (j := 1) rfl rfl (by decide) fun H8 h8 => ?_
  refine pScanC h8 (i := 2) (j := 1) rfl rfl (by decide) fun H9 h9 => ?_
  rw [k1] at h9
  simp only [asI_mk', asB_mk, asP_mk, asA_mk, asM_mk, asSl_mk, asStr_mk, tup2_mk, tup3_mk, agg1_mk, agg2_mk, agg3_mk, agg4_mk, asAggm, unCons_mk, unNil_mk, asTup_mk, extractD0, extractD1, List.toList_toArray, nilP_mk, add_mk, Nat.zero_add, Nat.add_zero, condT, condF, Bool.not_true, Bool.not_false, Option.isNone_some, Option.isNone_none]
  refine rcBeginC h9 (k := 0) rfl fun H10 h10 => ?_
  generalize (⟨[(1, (5, false))], [(⟨2, 7⟩, 5)], [1], 2, false, 0⟩ : Ps) = p at *
  have h10 : St H0 (RcP rc hb pb (rcNew 3) :: PaintP pb hb p :: HeapP hb s :: L) H10 := h10
  let cs : Nat → Rc := fun i => match i with
    | 0 => rcNew 3
    | 1 => ⟨3, 1, some ⟨1, [1], [1], []⟩, []⟩
    | 2 => ⟨3, 1, some ⟨1, [1], [], [(⟨2, 7⟩, 1)]⟩, []⟩
    | _ => ⟨3, 1, none, [(1, [⟨2, 7⟩])]⟩
  have hcs : ∀ i, (rcStep s p (cs i)).2 = cs (i + 1) := fun i => by
    match i with
    | 0 => show (rcStep s p (rcNew 3)).2 = _; rw [k2]; rfl
    | 1 => show (rcStep s p ⟨3, 1, some ⟨1, [1], [1], []⟩, []⟩).2 = _; rw [k3]; rfl
    | 2 => show (rcStep s p ⟨3, 1, some ⟨1, [1], [], [(⟨2, 7⟩, 1)]⟩, []⟩).2 = _; rw [k4]; rfl
    | i + 3 => show (rcStep s p ⟨3, 1, none, [(1, [⟨2, 7⟩])]⟩).2 = _; rw [k5]; rfl
  have hlt : ∀ i, (cs i).lt 800000 := fun i => by
    match i with
    | 0 => exact rcNew_lt.mono (by omega)
    | 1 => exact ⟨fun w hw => by cases hw; exact ⟨by simp, by simp, by simp⟩, by simp [cs], fun r hr => by simp [cs] at hr⟩
    | 2 => exact ⟨fun w hw => by cases hw; exact ⟨by simp, by simp, by simp⟩, by simp [cs], fun r hr => by simp [cs] at hr⟩
    | i + 3 => exact ⟨fun w hw => (by cases hw), by simp [cs], fun r hr => by simp [cs] at hr; subst hr; simp⟩
  refine ⟨fun i H' => ∃ y : Nat, i = y ∧ y ≤ 5 ∧ St H0 (RcP rc hb pb (cs y) :: PaintP pb hb p :: HeapP hb s :: L) H', fun i _ => (5 - i).toNat, ⟨0, rfl, by omega, h10⟩, ?_⟩
  rintro i H11 ⟨y, rfl, hy, h11⟩
  by_cases hc : (y : Int) < 5
  · refine bif_pos hc (rcStepC h11 (i := 2) (j := 1) (k := 0) rfl rfl rfl (by decide) (by decide) (by decide) (hlt y) fun H12 h12 => ?_)
    rw [hcs] at h12
    simp only [asI_mk', asB_mk, asP_mk, asA_mk, asM_mk, asSl_mk, asStr_mk, tup2_mk, tup3_mk, agg1_mk, agg2_mk, agg3_mk, agg4_mk, asAggm, unCons_mk, unNil_mk, asTup_mk, extractD0, extractD1, List.toList_toArray, nilP_mk, add_mk, Nat.zero_add, Nat.add_zero, condT, condF, Bool.not_true, Bool.not_false, Option.isNone_some, Option.isNone_none]
    rw [wrap_i64 (by omega) (by omega)]
    exact ⟨⟨y + 1, by omega, by omega, h12⟩, by (try dsimp only); omega⟩
  obtain rfl : y = 5 := by omega
  refine bif_neg hc (rcRowsC h11 (k := 0) rfl ((hlt 5).mono (by omega)) fun q n H12 h12 => ?_)
  have h12 : St H0 (RowsP q n [(1, [⟨2, 7⟩])] :: RcP rc hb pb ⟨3, 1, none, [(1, [⟨2, 7⟩])]⟩ :: PaintP pb hb p :: HeapP hb s :: L) H12 := h12
  show asSl (.slice q [((1 : Int), [(⟨2, 7⟩ : Id)])].length n) _
  simp only [asI_mk', asB_mk, asP_mk, asA_mk, asM_mk, asSl_mk, asStr_mk, tup2_mk, tup3_mk, agg1_mk, agg2_mk, agg3_mk, agg4_mk, asAggm, unCons_mk, unNil_mk, asTup_mk, extractD0, extractD1, List.toList_toArray, nilP_mk, add_mk, Nat.zero_add, Nat.add_zero, condT, condF, Bool.not_true, Bool.not_false, Option.isNone_some, Option.isNone_none]
  refine bif_eq rfl ?_
  obtain ⟨qs, v⟩ := rowsV h12 (i := 0) rfl
  obtain ⟨r, rfl⟩ : ∃ r, qs = [r] := by
    have := v.len
    match qs, this with
    | [r], _ => exact ⟨r, rfl⟩
  have hr1 : r.1 = (1, [⟨2, 7⟩]) := by
    have := v.1
    simpa using this
  have at0 : ∀ Q : Addr → Prop, (∀ a, hcell H12 a = some (.int .u64 1) → hcell H12 (a.add 1) = some (.slice r.2.1 1 r.2.2) → Q a) → idxA q 1 0 2 Q := fun Q hQ => by
    refine idxS rcRowC_len ((0, []), (none, 0)) v.2.1 (by omega) (by omega) (by simp) fun b o hp hl hcs => hQ _ ?_ ?_
    · have := hcs 0 (by omega)
      simp only [Int.toNat_zero, List.getD_cons_zero, rcRowC, hr1] at this
      exact this
    · have := hcs 1 (by omega)
      simp only [Int.toNat_zero, List.getD_cons_zero, rcRowC, hr1] at this
      exact this
  refine at0 _ fun a c0 c1 => ldI_of c0 (bif_eq rfl (at0 _ fun a c0 c1 => ldSl_of c1 (bif_eq rfl (at0 _ fun a c0 c1 => ldSl_of c1 ?_))))
  have hrd := v.2.2 r (by simp)
  rw [hr1] at hrd
  refine idxS Id.len noId hrd (by omega) (by omega) (by simp) fun b o hp hl hcs => ?_
  have d0 := hcs 0 (by omega)
  have d1 := hcs 1 (by omega)
  simp only [Int.toNat_zero, List.getD_cons_zero, Id.cells] at d0 d1
  refine ldI_of d0 (ldI_of d1 (idEq ?_))
  simp only [decide_true]
  simp only [asI_mk', asB_mk, asP_mk, asA_mk, asM_mk, asSl_mk, asStr_mk, tup2_mk, tup3_mk, agg1_mk, agg2_mk, agg3_mk, agg4_mk, asAggm, unCons_mk, unNil_mk, asTup_mk, extractD0, extractD1, List.toList_toArray, nilP_mk, add_mk, Nat.zero_add, Nat.add_zero, condT, condF, Bool.not_true, Bool.not_false, Option.isNone_some, Option.isNone_none]
  refine rcStepC h12 (i := 3) (j := 2) (k := 1) rfl rfl rfl (by decide) (by decide) (by decide) (hlt 5) fun H13 h13 => ?_
  rw [k5] at h13 ⊢
  simp only [asI_mk', asB_mk, asP_mk, asA_mk, asM_mk, asSl_mk, asStr_mk, tup2_mk, tup3_mk, agg1_mk, agg2_mk, agg3_mk, agg4_mk, asAggm, unCons_mk, unNil_mk, asTup_mk, extractD0, extractD1, List.toList_toArray, nilP_mk, add_mk, Nat.zero_add, Nat.add_zero, condT, condF, Bool.not_true, Bool.not_false, Option.isNone_some, Option.isNone_none]
  exact hK H13 (St.lesses (M := [_, _, _, _]) h13)

/-- What is met is another node's. -/
def Ps.far (s : Hs) (p : Ps) : Prop := ∀ e ∈ p.met, e.1.n ≠ s.node
theorem Ps.far.shade {s : Hs} {p : Ps} {x : Id} {r : Int} (h : p.far s) : (pShade s p x r).far s := by
  intro e he
  rcases shade_met (s := s) (p := p) (x := x) (r := r) with hm | ⟨_, hn, hm, _⟩
  · rw [hm] at he; exact h e he
  · rw [hm] at he
    rcases mput_mem he with rfl | he
    · exact hn
    · exact h e he
theorem Ps.far.shades {s : Hs} {p : Ps} {l : List Id} {r : Int} (h : p.far s) : (pShades s p l r).far s := by
  unfold pShades
  induction l generalizing p with
  | nil => exact h
  | cons y l ih => exact ih h.shade
theorem Ps.far.scan {s : Hs} {p : Ps} {k : Int} (h : p.far s) : (pScan s p k).2.far s := by
  unfold pScan
  split
  · exact Ps.far.shades (p := { p with marks := _ }) h
  · exact h

set_option maxRecDepth 20000 in
theorem paintedC {H0 H : Hp} {L : List Prt} {i j hb rb : Nat} {s : Hs} {lP : Option Addr} {lL lC : Nat} {l : List E_law14_Way} {K : Value → Hp → Prop} (h : St H0 L H) (hi : L[i]? = some (HeapP hb s)) (hj : L[j]? = some (RHeap rb s)) (hlast : s.last ≤ 1000)
    (hr : Rd H0 5 lP lL (cel E_law14_Way.cells l)) (hl : lL ≤ 9223372036854775807) (hok : ∀ x ∈ l, x.ok) (hK : ∀ pb qb p H', p.lt 1000 → p.far s → St H0 (RPaint qb rb p :: PaintP pb hb p :: L) H' → K (.tuple #[.pointer (some ⟨pb, 0, none⟩), .pointer (some ⟨qb, 0, none⟩)]) H') :
    hcall PR f_law14_painted ⟨[.pointer (some ⟨hb, 0, none⟩), .pointer (some ⟨rb, 0, none⟩), .slice lP lL lC]⟩ H K := by
  apply den_law14_painted
  unfold B_law14_painted
  have ho := heap_ok h hi
  have hln := ho.last
  refine pNewOk h (by omega) (by omega) fun pb H1 h1 => ?_
  simp only [asI_mk', asB_mk, asP_mk, asA_mk, asM_mk, asSl_mk, asStr_mk, tup2_mk, tup3_mk, agg1_mk, agg2_mk, agg3_mk, agg4_mk, asAggm, unCons_mk, unNil_mk, asTup_mk, extractD0, extractD1, List.toList_toArray, nilP_mk, add_mk, Nat.zero_add, Nat.add_zero, condT, condF, Bool.not_true, Bool.not_false, Option.isNone_some, Option.isNone_none]
  refine bif_neqf rfl ?_
  refine rNewPaintC h1 (by omega) (by omega) fun qb H2 h2 => ?_
  simp only [asI_mk', asB_mk, asP_mk, asA_mk, asM_mk, asSl_mk, asStr_mk, tup2_mk, tup3_mk, agg1_mk, agg2_mk, agg3_mk, agg4_mk, asAggm, unCons_mk, unNil_mk, asTup_mk, extractD0, extractD1, List.toList_toArray, nilP_mk, add_mk, Nat.zero_add, Nat.add_zero, condT, condF, Bool.not_true, Bool.not_false, Option.isNone_some, Option.isNone_none]
  refine ⟨fun t H' => ∃ (y : Nat) (p : Ps), t = y ∧ y ≤ lL ∧ y ≤ 100 ∧ p.lt (9 * y) ∧ p.far s ∧ St H0 (RPaint qb rb p :: PaintP pb hb p :: L) H', fun t _ => ((lL : Int) - t).toNat, ⟨0, newPs 4, rfl, by omega, by omega, newPs_lt, fun e he => (by cases he), h2⟩, ?_⟩
  clear h2 h1
  rintro t H3 ⟨y, p, rfl, hy, hy2, hlt, hfar, h3⟩
  by_cases hc : (y : Int) < (lL : Int)
  rotate_left
  · exact bif_neg hc (hK pb qb p H3 (hlt.mono (by omega)) hfar h3)
  refine bif_pos hc ?_
  by_cases hc2 : (y : Int) < 100
  rotate_left
  · exact bif_neg hc2 (hK pb qb p H3 (hlt.mono (by omega)) hfar h3)
  refine bif_pos hc2 ?_
  clear hK
  intro R19 hR19
  have hR19 : ∀ p H', p.lt (9 * (y + 1)) → p.far s → St H0 (RPaint qb rb p :: PaintP pb hb p :: L) H' → R19 H' := fun p H' hlt hf h' => by
    refine hR19 H' ?_
    rw [wrap_i64 (by omega) (by omega)]
    exact ⟨⟨y + 1, p, by omega, by omega, by omega, hlt, hf, h'⟩, by (try dsimp only); omega⟩
  have rr := h3.rd hr
  refine idxS E_law14_Way.len ⟨0, 0, 0, 0, false⟩ rr (by omega) (by omega) hc fun b1 o1 hp hjl hcs => ?_
  have hat : ∀ (L' : List Prt) H' (q : Nat), St H0 L' H' → q < 5 → hcell H' ⟨b1, o1 + (y : Int).toNat * 5 + q, none⟩ = (E_law14_Way.cells (l.getD (y : Int).toNat ⟨0, 0, 0, 0, false⟩))[q]? := fun L' H' q h' hq =>
    (h'.rd hr).cel_at' E_law14_Way.len ⟨0, 0, 0, 0, false⟩ hp hjl hq
  have hidx : ∀ Q : Addr → Prop, Q ⟨b1, o1 + (y : Int).toNat * 5, none⟩ → idxA lP lL (y : Int) 5 Q := fun Q hQ => idxA_of rr (by omega) hc fun b' o' hp' _ => by
    obtain ⟨rfl, rfl⟩ : b1 = b' ∧ o1 = o' := by rw [hp] at hp'; simpa using hp'
    exact hQ
  have hx := hok _ (List.getElem_mem hjl)
  have hgd : l.getD (y : Int).toNat ⟨0, 0, 0, 0, false⟩ = l[(y : Int).toNat] := by rw [List.getD_eq_getElem?_getD, List.getElem?_eq_getElem hjl]; rfl
  rw [← hgd] at hx
  clear hgd
  generalize l.getD (y : Int).toNat ⟨0, 0, 0, 0, false⟩ = x at hx hcs hat
  have hi' : ∀ A B : Prt, (A :: B :: L)[i + 2]? = some (HeapP hb s) := fun A B => hi
  have hj' : ∀ A B : Prt, (A :: B :: L)[j + 2]? = some (RHeap rb s) := fun A B => hj
  refine ldI_of (hcs 0 (by omega)) ?_
  obtain ⟨y1, N1, g1, _, _⟩ := rheapOpenL (i := j + 2) h3 (hj' _ _) (.inl rfl)
  (try simp only [asI_mk', asB_mk, asP_mk, asA_mk, asM_mk, asSl_mk, asStr_mk, tup2_mk, tup3_mk, agg1_mk, agg2_mk, agg3_mk, agg4_mk, asAggm, unCons_mk, unNil_mk, asTup_mk, extractD0, extractD1, List.toList_toArray, nilP_mk, add_mk, Nat.zero_add, Nat.add_zero, condT, condF, Bool.not_true, Bool.not_false, Option.isNone_some, Option.isNone_none])
  refine ldI_of (rheapV g1).last ?_
  clear g1
  have w3 : IntKind.u64.wrap (s.last + 1) = s.last + 1 := wrap_u64' (by omega) (by omega)
  rw [w3]
  refine ⟨by omega, ?_⟩
  generalize Int.tmod x.Serial (s.last + 1) = k
  refine hidx _ ?_
  simp only [asI_mk', asB_mk, asP_mk, asA_mk, asM_mk, asSl_mk, asStr_mk, tup2_mk, tup3_mk, agg1_mk, agg2_mk, agg3_mk, agg4_mk, asAggm, unCons_mk, unNil_mk, asTup_mk, extractD0, extractD1, List.toList_toArray, nilP_mk, add_mk, Nat.zero_add, Nat.add_zero, condT, condF, Bool.not_true, Bool.not_false, Option.isNone_some, Option.isNone_none]
  refine ldI_of (hat _ H3 1 h3 (by omega)) ?_
  refine pShadeC (y := ⟨1, k⟩) h3 (i := i + 2) (j := 1) (hi' _ _) rfl (by omega) fun H4 h4 => hidx _ ?_
  simp only [asI_mk', asB_mk, asP_mk, asA_mk, asM_mk, asSl_mk, asStr_mk, tup2_mk, tup3_mk, agg1_mk, agg2_mk, agg3_mk, agg4_mk, asAggm, unCons_mk, unNil_mk, asTup_mk, extractD0, extractD1, List.toList_toArray, nilP_mk, add_mk, Nat.zero_add, Nat.add_zero, condT, condF, Bool.not_true, Bool.not_false, Option.isNone_some, Option.isNone_none]
  refine ldI_of (hat _ H4 1 h4 (by omega)) ?_
  refine rShadeC (y := ⟨1, k⟩) h4 (i := j + 2) (j := 0) (p := p) (hj' _ _) rfl (by omega) (hlt.mono (by omega)) fun H5 h5 => hidx _ ?_
  have h5 : St H0 (RPaint qb rb (pShade s p ⟨1, k⟩ x.Rank) :: PaintP pb hb (pShade s p ⟨1, k⟩ x.Rank) :: L) H5 := h5
  have hlt1 := hlt.shade (s := s) (x := ⟨1, k⟩) (r := x.Rank)
  have hfar1 := hfar.shade (x := ⟨1, k⟩) (r := x.Rank)
  generalize pShade s p ⟨1, k⟩ x.Rank = p1 at h5 hlt1 hfar1
  clear h4 h3
  simp only [asI_mk', asB_mk, asP_mk, asA_mk, asM_mk, asSl_mk, asStr_mk, tup2_mk, tup3_mk, agg1_mk, agg2_mk, agg3_mk, agg4_mk, asAggm, unCons_mk, unNil_mk, asTup_mk, extractD0, extractD1, List.toList_toArray, nilP_mk, add_mk, Nat.zero_add, Nat.add_zero, condT, condF, Bool.not_true, Bool.not_false, Option.isNone_some, Option.isNone_none]
  refine ldI_of (hat _ H5 2 h5 (by omega)) (ldI_of (by rw [Nat.add_assoc]; exact hat _ H5 3 h5 (by omega)) (hidx _ ?_))
  simp only [asI_mk', asB_mk, asP_mk, asA_mk, asM_mk, asSl_mk, asStr_mk, tup2_mk, tup3_mk, agg1_mk, agg2_mk, agg3_mk, agg4_mk, asAggm, unCons_mk, unNil_mk, asTup_mk, extractD0, extractD1, List.toList_toArray, nilP_mk, add_mk, Nat.zero_add, Nat.add_zero, condT, condF, Bool.not_true, Bool.not_false, Option.isNone_some, Option.isNone_none]
  refine ldI_of (hat _ H5 1 h5 (by omega)) ?_
  refine pShadeC (y := ⟨x.Out_Node, x.Out_Serial⟩) h5 (i := i + 2) (j := 1) (hi' _ _) rfl (by omega) fun H6 h6 => hidx _ ?_
  simp only [asI_mk', asB_mk, asP_mk, asA_mk, asM_mk, asSl_mk, asStr_mk, tup2_mk, tup3_mk, agg1_mk, agg2_mk, agg3_mk, agg4_mk, asAggm, unCons_mk, unNil_mk, asTup_mk, extractD0, extractD1, List.toList_toArray, nilP_mk, add_mk, Nat.zero_add, Nat.add_zero, condT, condF, Bool.not_true, Bool.not_false, Option.isNone_some, Option.isNone_none]
  refine ldI_of (hat _ H6 2 h6 (by omega)) (ldI_of (by rw [Nat.add_assoc]; exact hat _ H6 3 h6 (by omega)) (hidx _ ?_))
  simp only [asI_mk', asB_mk, asP_mk, asA_mk, asM_mk, asSl_mk, asStr_mk, tup2_mk, tup3_mk, agg1_mk, agg2_mk, agg3_mk, agg4_mk, asAggm, unCons_mk, unNil_mk, asTup_mk, extractD0, extractD1, List.toList_toArray, nilP_mk, add_mk, Nat.zero_add, Nat.add_zero, condT, condF, Bool.not_true, Bool.not_false, Option.isNone_some, Option.isNone_none]
  refine ldI_of (hat _ H6 1 h6 (by omega)) ?_
  refine rShadeC (y := ⟨x.Out_Node, x.Out_Serial⟩) h6 (i := j + 2) (j := 0) (p := p1) (hj' _ _) rfl (by omega) (hlt1.mono (by omega)) fun H7 h7 => hidx _ ?_
  have h7 : St H0 (RPaint qb rb (pShade s p1 ⟨x.Out_Node, x.Out_Serial⟩ x.Rank) :: PaintP pb hb (pShade s p1 ⟨x.Out_Node, x.Out_Serial⟩ x.Rank) :: L) H7 := h7
  have hlt2 := hlt1.shade (s := s) (x := ⟨x.Out_Node, x.Out_Serial⟩) (r := x.Rank)
  have hfar2 := hfar1.shade (x := ⟨x.Out_Node, x.Out_Serial⟩) (r := x.Rank)
  generalize pShade s p1 ⟨x.Out_Node, x.Out_Serial⟩ x.Rank = p2 at h7 hlt2 hfar2
  clear h6 h5
  simp only [asI_mk', asB_mk, asP_mk, asA_mk, asM_mk, asSl_mk, asStr_mk, tup2_mk, tup3_mk, agg1_mk, agg2_mk, agg3_mk, agg4_mk, asAggm, unCons_mk, unNil_mk, asTup_mk, extractD0, extractD1, List.toList_toArray, nilP_mk, add_mk, Nat.zero_add, Nat.add_zero, condT, condF, Bool.not_true, Bool.not_false, Option.isNone_some, Option.isNone_none]
  refine ldB_of (hat _ H7 4 h7 (by omega)) ?_
  cases x.Scan
  · simp only [condF]
    exact hR19 p2 H7 (hlt2.mono (by omega)) hfar2 h7
  · simp only [condT]
    refine pScanC h7 (i := i + 2) (j := 1) (hi' _ _) rfl (by omega) fun H8 h8 => ?_
    simp only [asI_mk', asB_mk, asP_mk, asA_mk, asM_mk, asSl_mk, asStr_mk, tup2_mk, tup3_mk, agg1_mk, agg2_mk, agg3_mk, agg4_mk, asAggm, unCons_mk, unNil_mk, asTup_mk, extractD0, extractD1, List.toList_toArray, nilP_mk, add_mk, Nat.zero_add, Nat.add_zero, condT, condF, Bool.not_true, Bool.not_false, Option.isNone_some, Option.isNone_none]
    refine rScanC h8 (i := j + 2) (j := 0) (p := p2) (hj' _ _) rfl (by omega) (hlt2.mono (by omega)) fun H9 h9 => ?_
    simp only [asI_mk', asB_mk, asP_mk, asA_mk, asM_mk, asSl_mk, asStr_mk, tup2_mk, tup3_mk, agg1_mk, agg2_mk, agg3_mk, agg4_mk, asAggm, unCons_mk, unNil_mk, asTup_mk, extractD0, extractD1, List.toList_toArray, nilP_mk, add_mk, Nat.zero_add, Nat.add_zero, condT, condF, Bool.not_true, Bool.not_false, Option.isNone_some, Option.isNone_none]
    exact hR19 _ H9 ((hlt2.scan ho).mono (by omega)) hfar2.scan h9

theorem ReachKnown_ok {H : Hp} {K : Value → Hp → Prop} (hK : ∀ H', Keep Nothing H H' → K (.bool true) H') : hcall PR f_law14_ReachKnown ⟨[]⟩ H K := by
  apply den_law14_ReachKnown
  unfold B_law14_ReachKnown
  intro b1 hb1
  have h1 := (St.start H).alloc (o := .cells #[.int .i64 2] ty_int) hb1
  intro b3 hb3
  have h2 := h1.alloc (o := .cells #[.int .i64 1] ty_int) hb3
  intro b5 hb5
  have h3 := h2.alloc (o := .cells #[.slice (some ⟨b1, 0, none⟩) 1 1, .slice (some ⟨b3, 0, none⟩) 1 1] ty_Sint) hb5
  intro b7 hb7
  have h4 := h3.alloc (o := .cells #[.int .i64 12] ty_int) hb7
  have ga : GrA _ (some ⟨b5, 0, none⟩) 2 none 0 (some ⟨b7, 0, none⟩) 1 ⟨[[2], [1]], [], [12]⟩ :=
    ⟨⟨[(some ⟨b1, 0, none⟩, 1, 1), (some ⟨b3, 0, none⟩, 1, 1)], h4.one_rd (i := 1) (n := 2) rfl rfl, rfl, fun i t l ht hl => by
      match i with
      | 0 => simp at ht hl; subst ht hl; exact ⟨rfl, h4.one_rd (i := 3) (n := 1) rfl rfl⟩
      | 1 => simp at ht hl; subst ht hl; exact ⟨rfl, h4.one_rd (i := 2) (n := 1) rfl rfl⟩
      | i + 2 => simp at ht⟩, rd_nil, h4.one_rd (i := 0) (n := 1) rfl rfl⟩
  have gok : (⟨[[2], [1]], [], [12]⟩ : Gr).ok := ⟨by simp, fun l hl => by
    simp at hl
    rcases hl with rfl | rfl
    · exact ⟨by simp, fun x hx => by simp at hx; subst hx; decide⟩
    · exact ⟨by simp, fun x hx => by simp at hx; subst hx; decide⟩, by simp, by simp⟩
  refine HeapsC (most := 5) ga gok (by omega) fun hb rb s H5 hs h5 => ?_
  have hs : GrHs ⟨[[2], [1]], [], [12]⟩ 2 s := hs
  have h5 := h4.join h5
  simp only [asI_mk', asB_mk, asP_mk, asA_mk, asM_mk, asSl_mk, asStr_mk, tup2_mk, tup3_mk, agg1_mk, agg2_mk, agg3_mk, agg4_mk, asAggm, unCons_mk, unNil_mk, asTup_mk, extractD0, extractD1, List.toList_toArray, nilP_mk, add_mk, Nat.zero_add, Nat.add_zero, condT, condF, Bool.not_true, Bool.not_false, Option.isNone_some, Option.isNone_none]
  refine known14_ok h5 fun H6 h6 => ?_
  simp only [asI_mk', asB_mk, asP_mk, asA_mk, asM_mk, asSl_mk, asStr_mk, tup2_mk, tup3_mk, agg1_mk, agg2_mk, agg3_mk, agg4_mk, asAggm, unCons_mk, unNil_mk, asTup_mk, extractD0, extractD1, List.toList_toArray, nilP_mk, add_mk, Nat.zero_add, Nat.add_zero, condT, condF, Bool.not_true, Bool.not_false, Option.isNone_some, Option.isNone_none]
  refine pNewOk h6 (by omega) (by omega) fun pb H7 h7 => ?_
  simp only [asI_mk', asB_mk, asP_mk, asA_mk, asM_mk, asSl_mk, asStr_mk, tup2_mk, tup3_mk, agg1_mk, agg2_mk, agg3_mk, agg4_mk, asAggm, unCons_mk, unNil_mk, asTup_mk, extractD0, extractD1, List.toList_toArray, nilP_mk, add_mk, Nat.zero_add, Nat.add_zero, condT, condF, Bool.not_true, Bool.not_false, Option.isNone_some, Option.isNone_none]
  refine rcNewNil1 ?_
  simp only [asI_mk', asB_mk, asP_mk, asA_mk, asM_mk, asSl_mk, asStr_mk, tup2_mk, tup3_mk, agg1_mk, agg2_mk, agg3_mk, agg4_mk, asAggm, unCons_mk, unNil_mk, asTup_mk, extractD0, extractD1, List.toList_toArray, nilP_mk, add_mk, Nat.zero_add, Nat.add_zero, condT, condF, Bool.not_true, Bool.not_false, Option.isNone_some, Option.isNone_none]
  refine rcNewNil2 ?_
  simp only [asI_mk', asB_mk, asP_mk, asA_mk, asM_mk, asSl_mk, asStr_mk, tup2_mk, tup3_mk, agg1_mk, agg2_mk, agg3_mk, agg4_mk, asAggm, unCons_mk, unNil_mk, asTup_mk, extractD0, extractD1, List.toList_toArray, nilP_mk, add_mk, Nat.zero_add, Nat.add_zero, condT, condF, Bool.not_true, Bool.not_false, Option.isNone_some, Option.isNone_none]
  refine rcNewC (hb := hb) (pb := pb) h7 fun rc H8 h8 => ?_
  simp only [asI_mk', asB_mk, asP_mk, asA_mk, asM_mk, asSl_mk, asStr_mk, tup2_mk, tup3_mk, agg1_mk, agg2_mk, agg3_mk, agg4_mk, asAggm, unCons_mk, unNil_mk, asTup_mk, extractD0, extractD1, List.toList_toArray, nilP_mk, add_mk, Nat.zero_add, Nat.add_zero, condT, condF, Bool.not_true, Bool.not_false, Option.isNone_some, Option.isNone_none]
  refine bif_neqf rfl (bif_neqf rfl (bif_neqf rfl ?_))
  (try simp only [Option.isNone_some, condF])
  have own : ∀ k, rcOwn s (newPs 2) 0 k = false := fun k => by
    cases ho : rcOwn s (newPs 2) 0 k
    · rfl
    · obtain ⟨_, r, g, h, _⟩ := rcOwn_has ho
      cases h
  obtain ⟨k1, hk1⟩ := hs.get (m := 1) (by omega)
  obtain ⟨k2, hk2⟩ := hs.get (m := 2) (by omega)
  have n0 : hNext s 0 = (1, true) := hNext_is hs.ok (by rw [hk1]; simp) (by omega) fun k h1 h2 => by omega
  have n1 : hNext s 1 = (2, true) := hNext_is hs.ok (by rw [hk2]; simp) (by omega) fun k h1 h2 => by omega
  have n2 : hNext s 2 = (0, false) := hNext_none hs.ok fun k hk => by
    have := hs.has (m := k)
    cases hg : hGet s k with
    | none => rfl
    | some o =>
      rw [hg] at this
      have := this.1 (by simp)
      omega
  have t1 : rcStep s (newPs 2) (rcNew 0) = (true, ⟨0, 1, none, []⟩) := by
    unfold rcStep rcNew rcNext
    simp only [n0, hk1, own]
    rfl
  have t2 : rcStep s (newPs 2) ⟨0, 1, none, []⟩ = (true, ⟨0, 2, none, []⟩) := by
    unfold rcStep rcNext
    simp only [n1, hk2, own]
    rfl
  have t3 : rcStep s (newPs 2) ⟨0, 2, none, []⟩ = (false, ⟨0, 2, none, []⟩) := by
    unfold rcStep rcNext
    simp only [n2]
    rfl
  have hlt : ∀ q : Int, (⟨0, q, none, []⟩ : Rc).lt 800000 := fun q => ⟨fun w hw => (by cases hw), by simp, fun r hr => (by cases hr)⟩
  refine rcStepC h8 (i := 2) (j := 1) (k := 0) rfl rfl rfl (by decide) (by decide) (by decide) (hlt 0) fun H9 h9 => ?_
  rw [t1] at h9 ⊢
  simp only [asI_mk', asB_mk, asP_mk, asA_mk, asM_mk, asSl_mk, asStr_mk, tup2_mk, tup3_mk, agg1_mk, agg2_mk, agg3_mk, agg4_mk, asAggm, unCons_mk, unNil_mk, asTup_mk, extractD0, extractD1, List.toList_toArray, nilP_mk, add_mk, Nat.zero_add, Nat.add_zero, condT, condF, Bool.not_true, Bool.not_false, Option.isNone_some, Option.isNone_none]
  refine rcStepC (L := _ :: _ :: _ :: _ :: _ :: _ :: _ :: _ :: []) h9 (i := 2) (j := 1) (k := 0) rfl rfl rfl (by decide) (by decide) (by decide) (hlt 1) fun H10 h10 => ?_
  rw [t2] at h10 ⊢
  simp only [asI_mk', asB_mk, asP_mk, asA_mk, asM_mk, asSl_mk, asStr_mk, tup2_mk, tup3_mk, agg1_mk, agg2_mk, agg3_mk, agg4_mk, asAggm, unCons_mk, unNil_mk, asTup_mk, extractD0, extractD1, List.toList_toArray, nilP_mk, add_mk, Nat.zero_add, Nat.add_zero, condT, condF, Bool.not_true, Bool.not_false, Option.isNone_some, Option.isNone_none]
  refine rcStepC (L := _ :: _ :: _ :: _ :: _ :: _ :: _ :: _ :: []) h10 (i := 2) (j := 1) (k := 0) rfl rfl rfl (by decide) (by decide) (by decide) (hlt 2) fun H11 h11 => ?_
  rw [t3] at h11 ⊢
  simp only [asI_mk', asB_mk, asP_mk, asA_mk, asM_mk, asSl_mk, asStr_mk, tup2_mk, tup3_mk, agg1_mk, agg2_mk, agg3_mk, agg4_mk, asAggm, unCons_mk, unNil_mk, asTup_mk, extractD0, extractD1, List.toList_toArray, nilP_mk, add_mk, Nat.zero_add, Nat.add_zero, condT, condF, Bool.not_true, Bool.not_false, Option.isNone_some, Option.isNone_none]
  refine rcRowsC (L := _ :: _ :: _ :: _ :: _ :: _ :: _ :: _ :: []) h11 (k := 0) rfl ((hlt 2).mono (by omega)) fun q n H12 h12 => ?_
  show asSl (.slice q ([] : List (Int × List Id)).length n) _
  simp only [asI_mk', asB_mk, asP_mk, asA_mk, asM_mk, asSl_mk, asStr_mk, tup2_mk, tup3_mk, agg1_mk, agg2_mk, agg3_mk, agg4_mk, asAggm, unCons_mk, unNil_mk, asTup_mk, extractD0, extractD1, List.toList_toArray, nilP_mk, add_mk, Nat.zero_add, Nat.add_zero, condT, condF, Bool.not_true, Bool.not_false, Option.isNone_some, Option.isNone_none]
  exact hK H12 h12.keep

set_option maxRecDepth 20000 in
theorem ReachEnds_ok {rp op ip : Option Addr} {rl rc ol oc il ic : Nat} {g : Gr} {lP : Option Addr} {lL lC : Nat} {l : List E_law14_Way} {H : Hp} {K : Value → Hp → Prop} (ga : GrA H rp rl op ol ip il g) (gok : g.ok)
    (hr : Rd H 5 lP lL (cel E_law14_Way.cells l)) (hl : lL ≤ 9223372036854775807) (hok : ∀ x ∈ l, x.ok) (hK : ∀ H', Keep Nothing H H' → K (.bool true) H') :
    hcall PR f_law14_ReachEnds ⟨[.agg #[.slice rp rl rc, .slice op ol oc, .slice ip il ic], .slice lP lL lC]⟩ H K := by
  apply den_law14_ReachEnds
  unfold B_law14_ReachEnds
  intro b13 hb13
  have h1 := (St.start H).alloc (o := .cells #[.slice rp rl rc, .slice op ol oc, .slice ip il ic] ty_hand_Graph) hb13
  refine ldSl_of (h1.cell (i := 0) rfl rfl) (ldSl_of (h1.cell (i := 0) rfl rfl) (ldSl_of (h1.cell (i := 0) rfl rfl) ?_))
  refine HeapsC (most := 40) (ga.st h1) gok (by omega) fun hb rb s H2 hs h2 => ?_
  have h2 := h1.join h2
  have hn : grSize g 40 ≤ 40 := by unfold grSize; split <;> omega
  generalize grSize g 40 = n at *
  simp only [asI_mk', asB_mk, asP_mk, asA_mk, asM_mk, asSl_mk, asStr_mk, tup2_mk, tup3_mk, agg1_mk, agg2_mk, agg3_mk, agg4_mk, asAggm, unCons_mk, unNil_mk, asTup_mk, extractD0, extractD1, List.toList_toArray, nilP_mk, add_mk, Nat.zero_add, Nat.add_zero, condT, condF, Bool.not_true, Bool.not_false, Option.isNone_some, Option.isNone_none]
  refine known14_ok h2 fun H3 h3 => ?_
  simp only [asI_mk', asB_mk, asP_mk, asA_mk, asM_mk, asSl_mk, asStr_mk, tup2_mk, tup3_mk, agg1_mk, agg2_mk, agg3_mk, agg4_mk, asAggm, unCons_mk, unNil_mk, asTup_mk, extractD0, extractD1, List.toList_toArray, nilP_mk, add_mk, Nat.zero_add, Nat.add_zero, condT, condF, Bool.not_true, Bool.not_false, Option.isNone_some, Option.isNone_none]
  have hsl := hs.last
  refine paintedC h3 (i := 0) (j := 1) rfl rfl (by omega) hr hl hok fun pb qb p H4 hlt hfar h4 => ?_
  simp only [asI_mk', asB_mk, asP_mk, asA_mk, asM_mk, asSl_mk, asStr_mk, tup2_mk, tup3_mk, agg1_mk, agg2_mk, agg3_mk, agg4_mk, asAggm, unCons_mk, unNil_mk, asTup_mk, extractD0, extractD1, List.toList_toArray, nilP_mk, add_mk, Nat.zero_add, Nat.add_zero, condT, condF, Bool.not_true, Bool.not_false, Option.isNone_some, Option.isNone_none]
  refine rcNewC (hb := hb) (pb := pb) h4.flip fun rb' H5 h5 => ?_
  simp only [asI_mk', asB_mk, asP_mk, asA_mk, asM_mk, asSl_mk, asStr_mk, tup2_mk, tup3_mk, agg1_mk, agg2_mk, agg3_mk, agg4_mk, asAggm, unCons_mk, unNil_mk, asTup_mk, extractD0, extractD1, List.toList_toArray, nilP_mk, add_mk, Nat.zero_add, Nat.add_zero, condT, condF, Bool.not_true, Bool.not_false, Option.isNone_some, Option.isNone_none]
  refine bif_neqf rfl ?_
  (try simp only [Option.isNone_some, condF])
  refine rcBeginC h5 (k := 0) rfl fun H6 h6 => ?_
  have h6 : St H [RcP rb' hb pb (rcNew 0), PaintP pb hb p, RPaint qb rb p, HeapP hb s, RHeap rb s, Prt.one b13 (.cells #[.slice rp rl rc, .slice op ol oc, .slice ip il ic] ty_hand_Graph (0, 0))] H6 := h6
  clear h1 h2 h3 h4 h5
  obtain ⟨y1, N1, g1, _, _⟩ := rheapOpenL (i := 4) h6 rfl (.inl rfl)
  (try simp only [asI_mk', asB_mk, asP_mk, asA_mk, asM_mk, asSl_mk, asStr_mk, tup2_mk, tup3_mk, agg1_mk, agg2_mk, agg3_mk, agg4_mk, asAggm, unCons_mk, unNil_mk, asTup_mk, extractD0, extractD1, List.toList_toArray, nilP_mk, add_mk, Nat.zero_add, Nat.add_zero, condT, condF, Bool.not_true, Bool.not_false, Option.isNone_some, Option.isNone_none])
  refine ldI_of (rheapV g1).last ?_
  rw [hsl]
  clear g1
  have w0 : IntKind.i64.wrap (n : Int) = n := wrap_i64 (by omega) (by omega)
  have w1 : IntKind.i64.wrap ((n : Int) + 1) = ((n + 1 : Nat) : Int) := by rw [wrap_i64 (by omega) (by omega)]; omega
  have w2 : IntKind.i64.wrap ((n : Int) + 2) = ((n + 2 : Nat) : Int) := by rw [wrap_i64 (by omega) (by omega)]; omega
  have m1 : ((n + 1 : Nat) : Int) * ((n + 1 : Nat) : Int) = (((n + 1) * (n + 1) : Nat) : Int) := by rw [← Int.natCast_mul]
  have m2 : ((n + 1 : Nat) : Int) * ((n + 2 : Nat) : Int) = (((n + 1) * (n + 2) : Nat) : Int) := by rw [← Int.natCast_mul]
  have b1 : (n + 1) * (n + 1) ≤ 41 * 41 := Nat.mul_le_mul (by omega) (by omega)
  have b2 : (n + 1) * (n + 2) ≤ 41 * 42 := Nat.mul_le_mul (by omega) (by omega)
  have b3 : n * (n + 2) ≤ (n + 1) * (n + 1) := by
    rw [Nat.mul_add, Nat.add_mul, Nat.mul_add]; omega
  have b4 : (n + 1) * (n + 1) ≤ (n + 1) * (n + 2) := Nat.mul_le_mul_left _ (by omega)
  have v1 : IntKind.i64.wrap (((n + 1) * (n + 1) : Nat) : Int) = (((n + 1) * (n + 1) : Nat) : Int) := wrap_i64 (by omega) (by omega)
  have v2 : IntKind.i64.wrap (((n + 1) * (n + 2) : Nat) : Int) = (((n + 1) * (n + 2) : Nat) : Int) := wrap_i64 (by omega) (by omega)
  simp only [w0, w1, w2, m1, m2, v1, v2]
  generalize (n + 1) * (n + 1) = A at *
  generalize (n + 1) * (n + 2) = B at *
  intro R49 hR49
  have hR49 : ∀ (y : Nat) (c : Rc) H', y ≤ A → c.lt 700000 → (rcStep s p c).1 = false → St H [RcP rb' hb pb c, PaintP pb hb p, RPaint qb rb p, HeapP hb s, RHeap rb s, Prt.one b13 (.cells #[.slice rp rl rc, .slice op ol oc, .slice ip il ic] ty_hand_Graph (0, 0))] H' → R49 (y : Int) H' := fun y c H' hy hcl he h' => by
    refine hR49 _ H' ?_
    refine bif_pos (by omega) (rcStepC h' (i := 3) (j := 1) (k := 0) rfl rfl rfl (by decide) (by decide) (by decide) (hcl.mono (by omega)) fun H7 h7 => ?_)
    rw [he]
    simp only [asI_mk', asB_mk, asP_mk, asA_mk, asM_mk, asSl_mk, asStr_mk, tup2_mk, tup3_mk, agg1_mk, agg2_mk, agg3_mk, agg4_mk, asAggm, unCons_mk, unNil_mk, asTup_mk, extractD0, extractD1, List.toList_toArray, nilP_mk, add_mk, Nat.zero_add, Nat.add_zero, condT, condF, Bool.not_true, Bool.not_false, Option.isNone_some, Option.isNone_none]
    exact hK H7 h7.keep
  refine ⟨fun k H' => ∃ (y : Nat) (c : Rc), k = y ∧ y + rcLeft n c ≤ n * (n + 2) ∧ c.lt (7 * y) ∧ c.within s ∧ St H [RcP rb' hb pb c, PaintP pb hb p, RPaint qb rb p, HeapP hb s, RHeap rb s, Prt.one b13 (.cells #[.slice rp rl rc, .slice op ol oc, .slice ip il ic] ty_hand_Graph (0, 0))] H', fun k _ => ((B : Int) + 1 - k).toNat,
    ⟨0, rcNew 0, rfl, by rw [rcLeft_new]; omega, rcNew_lt, fun w hw => (by cases hw), h6⟩, ?_⟩
  clear h6
  rintro k H7 ⟨y, c, rfl, hy, hcl, hwi, h7⟩
  refine bif_pos (by omega) (rcStepC h7 (i := 3) (j := 1) (k := 0) rfl rfl rfl (by decide) (by decide) (by decide) (hcl.mono (by omega)) fun H8 h8 => ?_)
  have hc := rc_ok h7 (k := 0) rfl
  have hp := paint_ok h7 (j := 1) rfl
  simp only [asI_mk', asB_mk, asP_mk, asA_mk, asM_mk, asSl_mk, asStr_mk, tup2_mk, tup3_mk, agg1_mk, agg2_mk, agg3_mk, agg4_mk, asAggm, unCons_mk, unNil_mk, asTup_mk, extractD0, extractD1, List.toList_toArray, nilP_mk, add_mk, Nat.zero_add, Nat.add_zero, condT, condF, Bool.not_true, Bool.not_false, Option.isNone_some, Option.isNone_none]
  cases hst : (rcStep s p c).1
  · simp only [condF]
    refine hR49 y c H8 (by omega) (hcl.mono (by omega)) hst ?_
    rw [(rcStep_end hst).1] at h8
    exact h8
  · simp only [condT]
    have hless := rcStep_less hs.ok hsl hp hc hwi hst
    rw [wrap_i64 (by omega) (by omega)]
    exact ⟨⟨y + 1, _, by omega, by omega, (hcl.step hs.ok).mono (by omega), hwi.step hs.ok, h8⟩, by (try dsimp only); omega⟩

end Go.Proofs.Ytohlnmenghbgbaa
