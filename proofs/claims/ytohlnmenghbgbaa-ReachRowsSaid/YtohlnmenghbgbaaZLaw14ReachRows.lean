/- Merged by merge.py: DenLaw14, DenLaw14ReachKnown, DenLaw14ReachEnds, Law14, DenLaw14ReachRows, Law14r. No condition. -/
import Derived.Test.YtohlnmenghbgbaaZNum
import Derived.Test.YtohlnmenghbgbaaZReach
import Derived.Test.YtohlnmenghbgbaaZMark

namespace Go.Proofs.Ytohlnmenghbgbaa
open Go
set_option linter.unusedVariables false
set_option maxRecDepth 100000
def B_law14_known  (H : Hp) (K : Value → Hp → Prop) : Prop :=
 hcall PR f_heap_New ⟨[(.int .i64 1), (.int .i64 64), (.int .i64 4), (.int .u64 0)]⟩ H fun v1 Hx2 =>
 tup2 v1 fun v3 v4 =>
 asP v3 fun t5 =>
 asI .i64 v4 fun t6 =>
 (bif ((t6 : Int) != 0) then
 K (.bool false) Hx2
else
 (bif (Option.isNone (α := Addr) t5) then
 K (.bool false) Hx2
else
 hcall PR f_heap_Heap_Make ⟨[(.pointer t5), (.int .i64 1), (.int .i64 0)]⟩ Hx2 fun v7 Hx8 =>
 tup2 v7 fun v9 v10 =>
 asI .u64 v9 fun t11 =>
 asI .i64 v10 fun t12 =>
 hcall PR f_heap_Heap_SetRef ⟨[(.pointer t5), (.int .u64 1), (.int .i64 0), (.agg #[(.int .i64 2), (.int .u64 7)])]⟩ Hx8 fun v13 Hx14 =>
 tup2 v13 fun v15 v16 =>
 agg2 v15 fun v17 v18 =>
 asI .i64 v17 fun Node19 =>
 asI .u64 v18 fun Serial20 =>
 asI .i64 v16 fun t21 =>
 hcall PR f_heap_Heap_SetIn ⟨[(.pointer t5), (.int .u64 1), (.int .i64 5)]⟩ Hx14 fun v22 Hx23 =>
 asI .i64 v22 fun t24 =>
 hcall PR f_paint_New ⟨[(.pointer t5), (.int .i64 2)]⟩ Hx23 fun v25 Hx26 =>
 tup2 v25 fun v27 v28 =>
 asP v27 fun t29 =>
 asI .i64 v28 fun t30 =>
 hcall PR f_reach_New ⟨[(.pointer t5), (.pointer t29)]⟩ Hx26 fun v31 Hx32 =>
 tup2 v31 fun v33 v34 =>
 asP v33 fun t35 =>
 asI .i64 v34 fun t36 =>
 (bif ((t30 : Int) != 0) then
 K (.bool false) Hx32
else
 (bif ((t36 : Int) != 0) then
 K (.bool false) Hx32
else
 (bif (Option.isNone (α := Addr) t29) then
 K (.bool false) Hx32
else
 (bif (Option.isNone (α := Addr) t35) then
 K (.bool false) Hx32
else
 hcall PR f_paint_Paint_Shade ⟨[(.pointer t29), (.agg #[(.int .i64 1), (.int .u64 1)]), (.int .i64 5)]⟩ Hx32 fun v37 Hx38 =>
 hcall PR f_paint_Paint_Scan ⟨[(.pointer t29), (.int .u64 1)]⟩ Hx38 fun v39 Hx40 =>
 asB v39 fun t41 =>
 hcall PR f_reach_Reacher_Begin ⟨[(.pointer t35), (.int .i64 3)]⟩ Hx40 fun v42 Hx43 =>
 ∃ (I44 : Int → Hp → Prop) (m45 : Int → Hp → Nat), I44 0 Hx43 ∧ ∀ i47 : Int, ∀ Hx46 : Hp, I44 i47 Hx46 →
 (bif (decide ((i47 : Int) < 5)) then
 hcall PR f_reach_Reacher_Step ⟨[(.pointer t35)]⟩ Hx46 fun v48 Hx49 =>
 asB v48 fun t50 =>
 I44 (IntKind.i64.wrap (i47 + 1)) Hx49 ∧ m45 (IntKind.i64.wrap (i47 + 1)) Hx49 < m45 i47 Hx46
else
 hcall PR f_reach_Reacher_Rows ⟨[(.pointer t35)]⟩ Hx46 fun v51 Hx52 =>
 asSl v51 fun tP53 tL54 tC55 =>
 (bif (((tL54 : Int) : Int) == 1) then
 idxA tP53 tL54 0 2 fun el56 =>
 ldI .u64 el56 Hx52 fun In57 =>
 (bif ((In57 : Int) == 1) then
 idxA tP53 tL54 0 2 fun el58 =>
 ldSl (el58.add 1) Hx52 fun OutsP59 OutsL60 OutsC61 =>
 (bif (((OutsL60 : Int) : Int) == 1) then
 idxA tP53 tL54 0 2 fun el62 =>
 ldSl (el62.add 1) Hx52 fun OutsP63 OutsL64 OutsC65 =>
 idxA OutsP63 OutsL64 0 2 fun el66 =>
 ldI .i64 el66 Hx52 fun Node67 =>
 ldI .u64 (el66.add 1) Hx52 fun Serial68 =>
 evR PR (aggEq .eql ty_api_ID #[(.int .i64 Node67), (.int .u64 Serial68)] #[(.int .i64 2), (.int .u64 7)]) Hx52 fun v69 =>
 asB v69 fun eq70 =>
 (bif eq70 then
 hcall PR f_reach_Reacher_Step ⟨[(.pointer t35)]⟩ Hx52 fun v71 Hx72 =>
 asB v71 fun t73 =>
 K (.bool (!t73)) Hx72
else
 K (.bool false) Hx52)
else
 K (.bool false) Hx52)
else
 K (.bool false) Hx52)
else
 K (.bool false) Hx52))))))))
theorem E_law14_known  (H : Hp) (K : Value → Hp → Prop) : B_law14_known  H K = denF Try.prog Try.f80 (.seq none .n (.seq none .n (.seq none .n (.seq none .n (.seq none .n (.seq none .n (.seq none .n (.seq none .n (.seq none .n (.seq none .n (.seq none .n (.seq none .n (.seq none (.seq none .n (.sub (.loop ⟨[(7, .int .i64)], [5]⟩ .n))) .n))))))))))))) [] H K := by kernel_rfl
theorem den_law14_known  {H : Hp} {K : Value → Hp → Prop} (h : B_law14_known  H K) : hcall PR f_law14_known ⟨[]⟩ H K := denF_call Try.func80 PR_mixed (Eq.mp (E_law14_known  H K) h)

def B_law14_painted (h1 : Option Addr) (r2 : Option Addr) (lP3 : Option Addr) (lL4 : Nat) (lC5 : Nat) (H : Hp) (K : Value → Hp → Prop) : Prop :=
 hcall PR f_paint_New ⟨[(.pointer h1), (.int .i64 4)]⟩ H fun v6 Hx7 =>
 tup2 v6 fun v8 v9 =>
 asP v8 fun t10 =>
 asI .i64 v9 fun t11 =>
 (bif ((t11 : Int) != 0) then
 K (.tuple #[(.pointer none), (.pointer none)]) Hx7
else
 (bif (Option.isNone (α := Addr) t10) then
 K (.tuple #[(.pointer none), (.pointer none)]) Hx7
else
 hcall PR f_ref11_NewPaint ⟨[(.pointer r2), (.int .i64 4)]⟩ Hx7 fun v12 Hx13 =>
 asP v12 fun t14 =>
 ∃ (I15 : Int → Hp → Prop) (m16 : Int → Hp → Nat), I15 0 Hx13 ∧ ∀ i18 : Int, ∀ Hx17 : Hp, I15 i18 Hx17 →
 (bif (decide ((i18 : Int) < (lL4 : Int))) then
 (bif (decide ((i18 : Int) < 100)) then
 ∀ R19 : Hp → Prop, (∀ Hx20 : Hp, (
 I15 (IntKind.i64.wrap (i18 + 1)) Hx20 ∧ m16 (IntKind.i64.wrap (i18 + 1)) Hx20 < m16 i18 Hx17) → R19 Hx20) →
 idxA lP3 lL4 i18 5 fun el21 =>
 ldI .u64 el21 Hx17 fun Serial22 =>
 nilP r2 fun ra23 =>
 ldI .u64 (ra23.add 2) Hx17 fun Last24 =>
 ((IntKind.u64.wrap (Last24 + 1)) : Int) ≠ 0 ∧
 idxA lP3 lL4 i18 5 fun el25 =>
 ldI .i64 (el25.add 1) Hx17 fun Rank26 =>
 hcall PR f_paint_Paint_Shade ⟨[(.pointer t10), (.agg #[(.int .i64 1), (.int .u64 (Int.tmod Serial22 (IntKind.u64.wrap (Last24 + 1))))]), (.int .i64 Rank26)]⟩ Hx17 fun v27 Hx28 =>
 idxA lP3 lL4 i18 5 fun el29 =>
 ldI .i64 (el29.add 1) Hx28 fun Rank30 =>
 hcall PR f_ref11_Paint_Shade ⟨[(.pointer t14), (.agg #[(.int .i64 1), (.int .u64 (Int.tmod Serial22 (IntKind.u64.wrap (Last24 + 1))))]), (.int .i64 Rank30)]⟩ Hx28 fun v31 Hx32 =>
 idxA lP3 lL4 i18 5 fun el33 =>
 ldI .i64 (el33.add 2) Hx32 fun Node34 =>
 ldI .u64 ((el33.add 2).add 1) Hx32 fun Serial35 =>
 idxA lP3 lL4 i18 5 fun el36 =>
 ldI .i64 (el36.add 1) Hx32 fun Rank37 =>
 hcall PR f_paint_Paint_Shade ⟨[(.pointer t10), (.agg #[(.int .i64 Node34), (.int .u64 Serial35)]), (.int .i64 Rank37)]⟩ Hx32 fun v38 Hx39 =>
 idxA lP3 lL4 i18 5 fun el40 =>
 ldI .i64 (el40.add 2) Hx39 fun Node41 =>
 ldI .u64 ((el40.add 2).add 1) Hx39 fun Serial42 =>
 idxA lP3 lL4 i18 5 fun el43 =>
 ldI .i64 (el43.add 1) Hx39 fun Rank44 =>
 hcall PR f_ref11_Paint_Shade ⟨[(.pointer t14), (.agg #[(.int .i64 Node41), (.int .u64 Serial42)]), (.int .i64 Rank44)]⟩ Hx39 fun v45 Hx46 =>
 idxA lP3 lL4 i18 5 fun el47 =>
 ldB (el47.add 4) Hx46 fun Scan48 =>
 (bif Scan48 then
 hcall PR f_paint_Paint_Scan ⟨[(.pointer t10), (.int .u64 (Int.tmod Serial22 (IntKind.u64.wrap (Last24 + 1))))]⟩ Hx46 fun v49 Hx50 =>
 asB v49 fun t51 =>
 hcall PR f_ref11_Paint_Scan ⟨[(.pointer t14), (.int .u64 (Int.tmod Serial22 (IntKind.u64.wrap (Last24 + 1))))]⟩ Hx50 fun v52 Hx53 =>
 asB v52 fun t54 =>
 R19 Hx53
else
 R19 Hx46)
else
 K (.tuple #[(.pointer t10), (.pointer t14)]) Hx17)
else
 K (.tuple #[(.pointer t10), (.pointer t14)]) Hx17)))
theorem E_law14_painted (h1 : Option Addr) (r2 : Option Addr) (lP3 : Option Addr) (lL4 : Nat) (lC5 : Nat) (H : Hp) (K : Value → Hp → Prop) : B_law14_painted h1 r2 lP3 lL4 lC5 H K = denF Try.prog Try.f84 (.seq none .n (.seq none .n (.seq none .n (.seq none .n (.seq none (.seq none .n (.sub (.loop ⟨[(11, .int .i64)], [1, 2, 8, 10]⟩ (.seq none .n (.seq (some ⟨[], [1, 2, 8, 10, 11]⟩) .n .n))))) .n))))) [(.pointer h1), (.pointer r2), (.slice lP3 lL4 lC5)] H K := by kernel_rfl
theorem den_law14_painted {h1 : Option Addr} {r2 : Option Addr} {lP3 : Option Addr} {lL4 : Nat} {lC5 : Nat} {H : Hp} {K : Value → Hp → Prop} (h : B_law14_painted h1 r2 lP3 lL4 lC5 H K) : hcall PR f_law14_painted ⟨[(.pointer h1), (.pointer r2), (.slice lP3 lL4 lC5)]⟩ H K := denF_call Try.func84 PR_mixed (Eq.mp (E_law14_painted h1 r2 lP3 lL4 lC5 H K) h)

def B_law14_leads (gRefsP1 : Option Addr) (gRefsL2 : Nat) (gRefsC3 : Nat) (gOutP4 : Option Addr) (gOutL5 : Nat) (gOutC6 : Nat) (gInP7 : Option Addr) (gInL8 : Nat) (gInC9 : Nat) (q10 : Option Addr) (n11 : Int) (s12 : Int) (suspect13 : Int) (H : Hp) (K : Value → Hp → Prop) : Prop :=
 newB (.cells #[(.slice gRefsP1 gRefsL2 gRefsC3), (.slice gOutP4 gOutL5 gOutC6), (.slice gInP7 gInL8 gInC9)] ty_hand_Graph) H fun b14 Hx15 =>
 evW PR (Instr.makeSlice ty_Sbool (.int .i64 (IntKind.i64.wrap (n11 + 1))) (.int .i64 (IntKind.i64.wrap (n11 + 1)))) Hx15 fun v16 Hx17 =>
 asSl v16 fun mkP18 mkL19 mkC20 =>
 idxA mkP18 mkL19 s12 1 fun el21 =>
 st el21 (.bool true) Hx17 fun Hx22 =>
 ∃ (I23 : Int → Hp → Prop) (m24 : Int → Hp → Nat), I23 0 Hx22 ∧ ∀ round26 : Int, ∀ Hx25 : Hp, I23 round26 Hx25 →
 (bif (decide ((round26 : Int) < n11)) then
 ∃ (I27 : Int → Hp → Prop) (m28 : Int → Hp → Nat), I27 1 Hx25 ∧ ∀ i30 : Int, ∀ Hx29 : Hp, I27 i30 Hx29 →
 (bif (decide ((i30 : Int) ≤ n11)) then
 ∀ R31 : Hp → Prop, (∀ Hx32 : Hp, (
 I27 (IntKind.i64.wrap (i30 + 1)) Hx32 ∧ m28 (IntKind.i64.wrap (i30 + 1)) Hx32 < m28 i30 Hx29) → R31 Hx32) →
 ∃ (I33 : Int → Hp → Prop) (m34 : Int → Hp → Nat), I33 0 Hx29 ∧ ∀ k36 : Int, ∀ Hx35 : Hp, I33 k36 Hx35 →
 idxA mkP18 mkL19 i30 1 fun el37 =>
 ldB el37 Hx35 fun t38 =>
 (bif t38 then
 ldSl ⟨b14, 0, none⟩ Hx35 fun RefsP39 RefsL40 RefsC41 =>
 idxA RefsP39 RefsL40 (IntKind.i64.wrap (i30 - 1)) 1 fun el42 =>
 ldSl el42 Hx35 fun tP43 tL44 tC45 =>
 (bif (decide ((k36 : Int) < (tL44 : Int))) then
 (bif (decide ((k36 : Int) < 7)) then
 ∀ R46 : Hp → Prop, (∀ Hx47 : Hp, (
 I33 (IntKind.i64.wrap (k36 + 1)) Hx47 ∧ m34 (IntKind.i64.wrap (k36 + 1)) Hx47 < m34 k36 Hx35) → R46 Hx47) →
 ldSl ⟨b14, 0, none⟩ Hx35 fun RefsP48 RefsL49 RefsC50 =>
 ldSl ⟨b14, 1, none⟩ Hx35 fun OutP51 OutL52 OutC53 =>
 ldSl ⟨b14, 2, none⟩ Hx35 fun InP54 InL55 InC56 =>
 hcall PR f_hand_Graph_Target ⟨[(.agg #[(.slice RefsP48 RefsL49 RefsC50), (.slice OutP51 OutL52 OutC53), (.slice InP54 InL55 InC56)]), (.int .i64 (IntKind.i64.wrap (i30 - 1))), (.int .i64 k36), (.int .i64 n11)]⟩ Hx35 fun v57 Hx58 =>
 agg2 v57 fun v59 v60 =>
 asI .i64 v59 fun Node61 =>
 asI .u64 v60 fun Serial62 =>
 newB (.cells #[(.int .i64 0), (.int .u64 0)] ty_api_ID) Hx58 fun b63 Hx64 =>
 st ⟨b63, 0, none⟩ (.int .i64 Node61) Hx64 fun Hx65 =>
 st ⟨b63, 1, none⟩ (.int .u64 Serial62) Hx65 fun Hx66 =>
 ldI .u64 ⟨b63, 1, none⟩ Hx66 fun Serial67 =>
 hcall PR f_ref11_Paint_Mark ⟨[(.pointer q10), (.int .u64 Serial67)]⟩ Hx66 fun v68 Hx69 =>
 tup3 v68 fun v70 v71 v72 =>
 asI .i64 v70 fun t73 =>
 asB v71 fun t74 =>
 asB v72 fun t75 =>
 ldI .i64 ⟨b63, 0, none⟩ Hx69 fun Node76 =>
 (bif ((Node76 : Int) == 1) then
 (bif t75 then
 (bif (decide ((t73 : Int) > suspect13)) then
 ldI .u64 ⟨b63, 1, none⟩ Hx69 fun Serial77 =>
 idxA mkP18 mkL19 Serial77 1 fun el78 =>
 st el78 (.bool true) Hx69 fun Hx79 =>
 R46 Hx79
else
 R46 Hx69)
else
 R46 Hx69)
else
 R46 Hx69)
else
 R31 Hx35)
else
 R31 Hx35)
else
 R31 Hx35)
else
 I23 (IntKind.i64.wrap (round26 + 1)) Hx29 ∧ m24 (IntKind.i64.wrap (round26 + 1)) Hx29 < m24 round26 Hx25)
else
 hcall PR f_ref11_Paint_Outs ⟨[(.pointer q10)]⟩ Hx25 fun v80 Hx81 =>
 asSl v80 fun tP82 tL83 tC84 =>
 ∃ (I85 : Option Addr → Nat → Nat → Int → Hp → Prop) (m86 : Option Addr → Nat → Nat → Int → Hp → Nat), I85 none 0 0 0 Hx81 ∧ ∀ outP88 : Option Addr, ∀ outL89 : Nat, ∀ outC90 : Nat, ∀ j91 : Int, ∀ Hx87 : Hp, I85 outP88 outL89 outC90 j91 Hx87 →
 (bif (decide ((j91 : Int) < (tL83 : Int))) then
 ∀ R92 : Option Addr → Nat → Nat → Hp → Prop, (∀ outP94 : Option Addr, ∀ outL95 : Nat, ∀ outC96 : Nat, ∀ Hx93 : Hp, (
 I85 outP94 outL95 outC96 (IntKind.i64.wrap (j91 + 1)) Hx93 ∧ m86 outP94 outL95 outC96 (IntKind.i64.wrap (j91 + 1)) Hx93 < m86 outP88 outL89 outC90 j91 Hx87) → R92 outP94 outL95 outC96 Hx93) →
 ∃ (I97 : Bool → Int → Hp → Prop) (m98 : Bool → Int → Hp → Nat), I97 false 1 Hx87 ∧ ∀ found100 : Bool, ∀ i101 : Int, ∀ Hx99 : Hp, I97 found100 i101 Hx99 →
 (bif (decide ((i101 : Int) ≤ n11)) then
 ∀ R102 : Bool → Hp → Prop, (∀ found104 : Bool, ∀ Hx103 : Hp, (
 I97 found104 (IntKind.i64.wrap (i101 + 1)) Hx103 ∧ m98 found104 (IntKind.i64.wrap (i101 + 1)) Hx103 < m98 found100 i101 Hx99) → R102 found104 Hx103) →
 ∃ (I105 : Bool → Int → Hp → Prop) (m106 : Bool → Int → Hp → Nat), I105 found100 0 Hx99 ∧ ∀ found108 : Bool, ∀ k109 : Int, ∀ Hx107 : Hp, I105 found108 k109 Hx107 →
 idxA mkP18 mkL19 i101 1 fun el110 =>
 ldB el110 Hx107 fun t111 =>
 (bif t111 then
 ldSl ⟨b14, 0, none⟩ Hx107 fun RefsP112 RefsL113 RefsC114 =>
 idxA RefsP112 RefsL113 (IntKind.i64.wrap (i101 - 1)) 1 fun el115 =>
 ldSl el115 Hx107 fun tP116 tL117 tC118 =>
 (bif (decide ((k109 : Int) < (tL117 : Int))) then
 (bif (decide ((k109 : Int) < 7)) then
 ∀ R119 : Bool → Hp → Prop, (∀ found121 : Bool, ∀ Hx120 : Hp, (
 I105 found121 (IntKind.i64.wrap (k109 + 1)) Hx120 ∧ m106 found121 (IntKind.i64.wrap (k109 + 1)) Hx120 < m106 found108 k109 Hx107) → R119 found121 Hx120) →
 (bif found108 then
 R119 true Hx107
else
 ldSl ⟨b14, 0, none⟩ Hx107 fun RefsP122 RefsL123 RefsC124 =>
 ldSl ⟨b14, 1, none⟩ Hx107 fun OutP125 OutL126 OutC127 =>
 ldSl ⟨b14, 2, none⟩ Hx107 fun InP128 InL129 InC130 =>
 idxA tP82 tL83 j91 3 fun el131 =>
 ldI .i64 el131 Hx107 fun Node132 =>
 ldI .u64 (el131.add 1) Hx107 fun Serial133 =>
 hcall PR f_hand_Graph_Target ⟨[(.agg #[(.slice RefsP122 RefsL123 RefsC124), (.slice OutP125 OutL126 OutC127), (.slice InP128 InL129 InC130)]), (.int .i64 (IntKind.i64.wrap (i101 - 1))), (.int .i64 k109), (.int .i64 n11)]⟩ Hx107 fun v134 Hx135 =>
 agg2 v134 fun v136 v137 =>
 asI .i64 v136 fun Node138 =>
 asI .u64 v137 fun Serial139 =>
 (ldI .i64 el131 Hx135 fun Node140 =>
 ldI .u64 (el131.add 1) Hx135 fun Serial141 =>
 ((.agg #[(.int .i64 Node140), (.int .u64 Serial141)]) : Value) = (.agg #[(.int .i64 Node132), (.int .u64 Serial133)])) ∧
 evR PR (aggEq .eql ty_api_ID #[(.int .i64 Node138), (.int .u64 Serial139)] #[(.int .i64 Node132), (.int .u64 Serial133)]) Hx135 fun v142 =>
 asB v142 fun eq143 =>
 R119 eq143 Hx135)
else
 R102 found108 Hx107)
else
 R102 found108 Hx107)
else
 R102 found108 Hx107)
else
 (bif found100 then
 idxA tP82 tL83 j91 3 fun el144 =>
 ldI .i64 (el144.add 2) Hx99 fun Rank145 =>
 (bif (decide ((Rank145 : Int) > suspect13)) then
 idxA tP82 tL83 j91 3 fun el146 =>
 ldI .i64 el146 Hx99 fun Node147 =>
 ldI .u64 (el146.add 1) Hx99 fun Serial148 =>
 newB (.cells #[(.int .i64 Node147), (.int .u64 Serial148)] ty_api_ID) Hx99 fun b149 Hx150 =>
 evW PR (Builtin.append_ #[ty_Sapi_ID, ty_Sapi_ID] ty_Sapi_ID #[(.slice outP88 outL89 outC90), (.slice (some ⟨b149, 0, none⟩) 1 1)]) Hx150 fun v151 Hx152 =>
 asSl v151 fun tP153 tL154 tC155 =>
 R92 tP153 tL154 tC155 Hx152
else
 R92 outP88 outL89 outC90 Hx99)
else
 R92 outP88 outL89 outC90 Hx99))
else
 K (.slice outP88 outL89 outC90) Hx87))
theorem E_law14_leads (gRefsP1 : Option Addr) (gRefsL2 : Nat) (gRefsC3 : Nat) (gOutP4 : Option Addr) (gOutL5 : Nat) (gOutC6 : Nat) (gInP7 : Option Addr) (gInL8 : Nat) (gInC9 : Nat) (q10 : Option Addr) (n11 : Int) (s12 : Int) (suspect13 : Int) (H : Hp) (K : Value → Hp → Prop) : B_law14_leads gRefsP1 gRefsL2 gRefsC3 gOutP4 gOutL5 gOutC6 gInP7 gInL8 gInC9 q10 n11 s12 suspect13 H K = denF Try.prog Try.f88 (.seq none .n (.seq none .n (.seq none .n (.seq none (.seq none .n (.sub (.loop ⟨[(12, .int .i64)], [1, 2, 4, 5, 11]⟩ (.seq none .n (.seq none (.sub (.seq none .n (.sub (.loop ⟨[(13, .int .i64)], [1, 2, 4, 5, 11, 12]⟩ (.seq none .n (.seq (some ⟨[], [1, 2, 4, 5, 11, 12, 13]⟩) (.sub (.seq none .n (.sub (.loop ⟨[(14, .int .i64)], [1, 2, 4, 5, 11, 12, 13]⟩ (.seq none .n (.seq (some ⟨[], [1, 2, 4, 5, 11, 12, 13, 14]⟩) .n .n)))))) .n)))))) .n))))) (.seq none .n (.seq none .n (.seq none (.seq none .n (.sub (.loop ⟨[(19, .sl), (21, .int .i64)], [2, 4, 5, 11, 20]⟩ (.seq none .n (.seq (some ⟨[(19, .sl)], [2, 4, 5, 11, 20, 21]⟩) (.sub (.seq none .n (.seq none (.seq none .n (.sub (.loop ⟨[(22, .bool), (23, .int .i64)], [2, 4, 5, 11, 19, 20, 21]⟩ (.seq none .n (.seq (some ⟨[(22, .bool)], [2, 4, 5, 11, 19, 20, 21, 23]⟩) (.sub (.seq none .n (.sub (.loop ⟨[(22, .bool), (24, .int .i64)], [2, 4, 5, 11, 19, 20, 21, 23]⟩ (.seq none .n (.seq (some ⟨[(22, .bool)], [2, 4, 5, 11, 19, 20, 21, 23, 24]⟩) .n .n)))))) .n))))) .n))) .n))))) .n))))))) [(.agg #[(.slice gRefsP1 gRefsL2 gRefsC3), (.slice gOutP4 gOutL5 gOutC6), (.slice gInP7 gInL8 gInC9)]), (.pointer q10), (.int .i64 n11), (.int .i64 s12), (.int .i64 suspect13)] H K := by kernel_rfl
theorem den_law14_leads {gRefsP1 : Option Addr} {gRefsL2 : Nat} {gRefsC3 : Nat} {gOutP4 : Option Addr} {gOutL5 : Nat} {gOutC6 : Nat} {gInP7 : Option Addr} {gInL8 : Nat} {gInC9 : Nat} {q10 : Option Addr} {n11 : Int} {s12 : Int} {suspect13 : Int} {H : Hp} {K : Value → Hp → Prop} (h : B_law14_leads gRefsP1 gRefsL2 gRefsC3 gOutP4 gOutL5 gOutC6 gInP7 gInL8 gInC9 q10 n11 s12 suspect13 H K) : hcall PR f_law14_leads ⟨[(.agg #[(.slice gRefsP1 gRefsL2 gRefsC3), (.slice gOutP4 gOutL5 gOutC6), (.slice gInP7 gInL8 gInC9)]), (.pointer q10), (.int .i64 n11), (.int .i64 s12), (.int .i64 suspect13)]⟩ H K := denF_call Try.func88 PR_mixed (Eq.mp (E_law14_leads gRefsP1 gRefsL2 gRefsC3 gOutP4 gOutL5 gOutC6 gInP7 gInL8 gInC9 q10 n11 s12 suspect13 H K) h)

end Go.Proofs.Ytohlnmenghbgbaa

namespace Go.Proofs.Ytohlnmenghbgbaa
open Go
set_option linter.unusedVariables false
set_option maxRecDepth 100000
end Go.Proofs.Ytohlnmenghbgbaa

namespace Go.Proofs.Ytohlnmenghbgbaa
open Go
set_option linter.unusedVariables false
set_option maxRecDepth 100000
end Go.Proofs.Ytohlnmenghbgbaa

namespace Go.Proofs.Ytohlnmenghbgbaa
set_option linter.unusedSimpArgs false
set_option linter.unusedVariables false
open Go
/-- One object, held with distance 5, that leads to another node's. -/
theorem known14_heap {s : Hs} {c1 : Int} (ho : s.ok) (hobs : s.obs = [⟨1, c1, [⟨2, 7⟩], [], 5⟩]) (hn : s.node = 1) (p : Ps) (hp : p = ⟨[(1, (5, false))], [(⟨2, 7⟩, 5)], [1], 2, false, 0⟩) :
    (pScan s (pShade s (newPs 2) ⟨1, 1⟩ 5) 1).2 = p ∧ rcStep s p (rcNew 3) = (true, ⟨3, 1, some ⟨1, [1], [1], []⟩, []⟩) ∧ rcStep s p ⟨3, 1, some ⟨1, [1], [1], []⟩, []⟩ = (true, ⟨3, 1, some ⟨1, [1], [], [(⟨2, 7⟩, 1)]⟩, []⟩) ∧
    rcStep s p ⟨3, 1, some ⟨1, [1], [], [(⟨2, 7⟩, 1)]⟩, []⟩ = (true, ⟨3, 1, none, [(1, [⟨2, 7⟩])]⟩) ∧ rcStep s p ⟨3, 1, none, [(1, [⟨2, 7⟩])]⟩ = (false, ⟨3, 1, none, [(1, [⟨2, 7⟩])]⟩) := by
  have g1 : hGet s 1 = some ⟨1, c1, [⟨2, 7⟩], [], 5⟩ := by unfold hGet; rw [hobs]; rfl
  have h1 : ¬ hGet s 1 = none := by rw [g1]; simp
  have n0 : hNext s 0 = (1, true) := by unfold hNext; rw [hobs]; rfl
  have n1 : hNext s 1 = (0, false) := by unfold hNext; rw [hobs]; rfl
  have own : rcOwn s p 3 1 = true := by
    rw [rcOwn_iff]
    exact ⟨h1, 5, false, by rw [hp]; rfl, by decide⟩
  have met : pMet p ⟨2, 7⟩ = (5, true) := by rw [hp]; rfl
  refine ⟨?_, ?_, ?_, ?_, ?_⟩
  · have e1 : pShade s (newPs 2) ⟨1, 1⟩ 5 = ⟨[(1, (5, true))], [], [1], 2, false, 0⟩ := by
      unfold pShade
      rw [if_neg (by decide), if_neg (by rw [hn]; simp), if_neg h1]
      rfl
    rw [e1]
    unfold pScan
    rw [g1, show mlook (⟨[(1, (5, true))], [], [1], 2, false, 0⟩ : Ps).marks 1 = some (5, true) from rfl]
    simp only [pShades, List.foldl_cons, List.foldl_nil]
    unfold pShade
    rw [if_neg (by decide), if_pos (by rw [hn]; decide), hp]
    rfl
  · unfold rcStep rcNew rcNext
    simp only [n0, g1, own]
    rw [if_neg (by decide), if_pos ⟨by decide, trivial⟩]
    rfl
  · unfold rcStep
    simp only [List.getLast?_singleton]
    unfold rcFollow rcRefs rcSees
    rw [g1]
    simp only [List.foldl_cons, List.foldl_nil, List.dropLast_singleton]
    unfold rcSee
    rw [if_neg (by rw [hn]; decide), met, if_pos ⟨rfl, by decide⟩]
    rfl
  · unfold rcStep rcNext
    simp only [List.getLast?_nil, n1]
    rfl
  · unfold rcStep rcNext
    simp only [n1]
    rfl

theorem known14_ok {H0 H : Hp} {L : List Prt} {K : Value → Hp → Prop} (h : St H0 L H) (hK : ∀ H', St H0 L H' → K (.bool true) H') : hcall PR f_law14_known ⟨[]⟩ H K := by
  apply den_law14_known
  unfold B_law14_known
  refine hNewOk (m := 4) (by decide) (by decide) (by decide) (by decide) (by decide) h fun hb H1 h1 => ?_
  simp only [asI_mk', asB_mk, asP_mk, asA_mk, asM_mk, asSl_mk, asStr_mk, tup2_mk, tup3_mk, agg1_mk, agg2_mk, agg3_mk, agg4_mk, asAggm, unCons_mk, unNil_mk, asTup_mk, extractD0, extractD1, List.toList_toArray, nilP_mk, add_mk, Nat.zero_add, Nat.add_zero, condT, condF, Bool.not_true, Bool.not_false, Option.isNone_some, Option.isNone_none]
  refine bif_neqf rfl ?_
  obtain ⟨s1, c1, a0, a1, a2, a3, a4, a5, a6⟩ := hMake_good' (s := newHs 1 4 0 4) (r := 1) (v := 0) (heap_ok h1 (i := 0) rfl) (by omega) (by omega) (by decide) (by decide) (by show 0 < frees (List.replicate 4 noBlk); rw [frees_new]; omega)
  refine hMakeC h1 (i := 0) rfl (by decide) (by decide) fun H2 h2 => ?_
  rw [a0] at h2 ⊢
  have h2 : St H0 (HeapP hb s1 :: L) H2 := h2
  simp only [asI_mk', asB_mk, asP_mk, asA_mk, asM_mk, asSl_mk, asStr_mk, tup2_mk, tup3_mk, agg1_mk, agg2_mk, agg3_mk, agg4_mk, asAggm, unCons_mk, unNil_mk, asTup_mk, extractD0, extractD1, List.toList_toArray, nilP_mk, add_mk, Nat.zero_add, Nat.add_zero, condT, condF, Bool.not_true, Bool.not_false, Option.isNone_some, Option.isNone_none]
  have a3 : s1.node = 1 := a3
  have a4 : s1.obs = [⟨1, c1, [noId], [], 0⟩] := a4
  refine hSetRefC (y := ⟨2, 7⟩) h2 (i := 0) rfl fun H4 h4 => ?_
  simp only [asI_mk', asB_mk, asP_mk, asA_mk, asM_mk, asSl_mk, asStr_mk, tup2_mk, tup3_mk, agg1_mk, agg2_mk, agg3_mk, agg4_mk, asAggm, unCons_mk, unNil_mk, asTup_mk, extractD0, extractD1, List.toList_toArray, nilP_mk, add_mk, Nat.zero_add, Nat.add_zero, condT, condF, Bool.not_true, Bool.not_false, Option.isNone_some, Option.isNone_none]
  have d1 : (hSetRef s1 1 0 ⟨2, 7⟩).2.2 = { s1 with obs := [⟨1, c1, [⟨2, 7⟩], [], 0⟩] } := by
    have g1 : hGet s1 1 = some ⟨1, c1, [noId], [], 0⟩ := by unfold hGet; rw [a4]; rfl
    have hr : (hRef s1 1 0).2 = 0 := by unfold hRef; rw [g1]; rfl
    unfold hSetRef
    rw [if_neg (by decide), if_pos hr]
    unfold hPut
    rw [a4]
    rfl
  rw [d1] at h4
  have h4 : St H0 (HeapP hb { s1 with obs := [⟨1, c1, [⟨2, 7⟩], [], 0⟩] } :: L) H4 := h4
  refine hSetInC h4 (i := 0) rfl fun H5 h5 => ?_
  simp only [asI_mk', asB_mk, asP_mk, asA_mk, asM_mk, asSl_mk, asStr_mk, tup2_mk, tup3_mk, agg1_mk, agg2_mk, agg3_mk, agg4_mk, asAggm, unCons_mk, unNil_mk, asTup_mk, extractD0, extractD1, List.toList_toArray, nilP_mk, add_mk, Nat.zero_add, Nat.add_zero, condT, condF, Bool.not_true, Bool.not_false, Option.isNone_some, Option.isNone_none]
  have d2 : (hSetIn { s1 with obs := [⟨1, c1, [⟨2, 7⟩], [], 0⟩] } 1 5).2 = { s1 with obs := [⟨1, c1, [⟨2, 7⟩], [], 5⟩] } := rfl
  rw [d2] at h5
  have h5 : St H0 (HeapP hb { s1 with obs := [⟨1, c1, [⟨2, 7⟩], [], 5⟩] } :: L) H5 := h5
  obtain ⟨k1, k2, k3, k4, k5⟩ := known14_heap (s := { s1 with obs := [⟨1, c1, [⟨2, 7⟩], [], 5⟩] }) (heap_ok h5 (i := 0) rfl) rfl a3 _ rfl
  generalize ({ s1 with obs := [⟨1, c1, [⟨2, 7⟩], [], 5⟩] } : Hs) = s at *
  refine pNewOk h5 (by omega) (by omega) fun pb H6 h6 => ?_
  simp only [asI_mk', asB_mk, asP_mk, asA_mk, asM_mk, asSl_mk, asStr_mk, tup2_mk, tup3_mk, agg1_mk, agg2_mk, agg3_mk, agg4_mk, asAggm, unCons_mk, unNil_mk, asTup_mk, extractD0, extractD1, List.toList_toArray, nilP_mk, add_mk, Nat.zero_add, Nat.add_zero, condT, condF, Bool.not_true, Bool.not_false, Option.isNone_some, Option.isNone_none]
  refine rcNewC (hb := hb) (pb := pb) h6 fun rc H7 h7 => ?_
  simp only [asI_mk', asB_mk, asP_mk, asA_mk, asM_mk, asSl_mk, asStr_mk, tup2_mk, tup3_mk, agg1_mk, agg2_mk, agg3_mk, agg4_mk, asAggm, unCons_mk, unNil_mk, asTup_mk, extractD0, extractD1, List.toList_toArray, nilP_mk, add_mk, Nat.zero_add, Nat.add_zero, condT, condF, Bool.not_true, Bool.not_false, Option.isNone_some, Option.isNone_none]
  refine bif_neqf rfl (bif_neqf rfl ?_)
  refine pShadeC (y := ⟨1, 1⟩) h7 (i := 2) (j := 1) rfl rfl (by decide) fun H8 h8 => ?_
  refine pScanC h8 (i := 2) (j := 1) rfl rfl (by decide) fun H9 h9 => ?_
  rw [k1] at h9
  simp only [asI_mk', asB_mk, asP_mk, asA_mk, asM_mk, asSl_mk, asStr_mk, tup2_mk, tup3_mk, agg1_mk, agg2_mk, agg3_mk, agg4_mk, asAggm, unCons_mk, unNil_mk, asTup_mk, extractD0, extractD1, List.toList_toArray, nilP_mk, add_mk, Nat.zero_add, Nat.add_zero, condT, condF, Bool.not_true, Bool.not_false, Option.isNone_some, Option.isNone_none]
  refine rcBeginC h9 (k := 0) rfl fun H10 h10 => ?_
  generalize (⟨[(1, (5, false))], [(⟨2, 7⟩, 5)], [1], 2, false, 0⟩ : Ps) = p at *
  have h10 : St H0 (RcP rc hb pb (rcNew 3) :: PaintP pb hb p :: HeapP hb s :: L) H10 := h10
  let cs : Nat → Rc := fun i => match i with
    | 0 => rcNew 3
    | 1 => ⟨3, 1, some ⟨1, [1], [1], []⟩, []⟩
    | 2 => ⟨3, 1, some ⟨1, [1], [], [(⟨2, 7⟩, 1)]⟩, []⟩
    | _ => ⟨3, 1, none, [(1, [⟨2, 7⟩])]⟩
  have hcs : ∀ i, (rcStep s p (cs i)).2 = cs (i + 1) := fun i => by
    match i with
    | 0 => show (rcStep s p (rcNew 3)).2 = _; rw [k2]; rfl
    | 1 => show (rcStep s p ⟨3, 1, some ⟨1, [1], [1], []⟩, []⟩).2 = _; rw [k3]; rfl
    | 2 => show (rcStep s p ⟨3, 1, some ⟨1, [1], [], [(⟨2, 7⟩, 1)]⟩, []⟩).2 = _; rw [k4]; rfl
    | i + 3 => show (rcStep s p ⟨3, 1, none, [(1, [⟨2, 7⟩])]⟩).2 = _; rw [k5]; rfl
  have hlt : ∀ i, (cs i).lt 800000 := fun i => by
    match i with
    | 0 => exact rcNew_lt.mono (by omega)
    | 1 => exact ⟨fun w hw => by cases hw; exact ⟨by simp, by simp, by simp⟩, by simp [cs], fun r hr => by simp [cs] at hr⟩
    | 2 => exact ⟨fun w hw => by cases hw; exact ⟨by simp, by simp, by simp⟩, by simp [cs], fun r hr => by simp [cs] at hr⟩
    | i + 3 => exact ⟨fun w hw => (by cases hw), by simp [cs], fun r hr => by simp [cs] at hr; subst hr; simp⟩
  refine ⟨fun i H' => ∃ y : Nat, i = y ∧ y ≤ 5 ∧ St H0 (RcP rc hb pb (cs y) :: PaintP pb hb p :: HeapP hb s :: L) H', fun i _ => (5 - i).toNat, ⟨0, rfl, by omega, h10⟩, ?_⟩
  rintro i H11 ⟨y, rfl, hy, h11⟩
  by_cases hc : (y : Int) < 5
  · refine bif_pos hc (rcStepC h11 (i := 2) (j := 1) (k := 0) rfl rfl rfl (by decide) (by decide) (by decide) (hlt y) fun H12 h12 => ?_)
    rw [hcs] at h12
    simp only [asI_mk', asB_mk, asP_mk, asA_mk, asM_mk, asSl_mk, asStr_mk, tup2_mk, tup3_mk, agg1_mk, agg2_mk, agg3_mk, agg4_mk, asAggm, unCons_mk, unNil_mk, asTup_mk, extractD0, extractD1, List.toList_toArray, nilP_mk, add_mk, Nat.zero_add, Nat.add_zero, condT, condF, Bool.not_true, Bool.not_false, Option.isNone_some, Option.isNone_none]
    rw [wrap_i64 (by omega) (by omega)]
    exact ⟨⟨y + 1, by omega, by omega, h12⟩, by (try dsimp only); omega⟩
  obtain rfl : y = 5 := by omega
  refine bif_neg hc (rcRowsC h11 (k := 0) rfl ((hlt 5).mono (by omega)) fun q n H12 h12 => ?_)
  have h12 : St H0 (RowsP q n [(1, [⟨2, 7⟩])] :: RcP rc hb pb ⟨3, 1, none, [(1, [⟨2, 7⟩])]⟩ :: PaintP pb hb p :: HeapP hb s :: L) H12 := h12
  show asSl (.slice q [((1 : Int), [(⟨2, 7⟩ : Id)])].length n) _
  simp only [asI_mk', asB_mk, asP_mk, asA_mk, asM_mk, asSl_mk, asStr_mk, tup2_mk, tup3_mk, agg1_mk, agg2_mk, agg3_mk, agg4_mk, asAggm, unCons_mk, unNil_mk, asTup_mk, extractD0, extractD1, List.toList_toArray, nilP_mk, add_mk, Nat.zero_add, Nat.add_zero, condT, condF, Bool.not_true, Bool.not_false, Option.isNone_some, Option.isNone_none]
  refine bif_eq rfl ?_
  obtain ⟨qs, v⟩ := rowsV h12 (i := 0) rfl
  obtain ⟨r, rfl⟩ : ∃ r, qs = [r] := by
    have := v.len
    match qs, this with
    | [r], _ => exact ⟨r, rfl⟩
  have hr1 : r.1 = (1, [⟨2, 7⟩]) := by
    have := v.1
    simpa using this
  have at0 : ∀ Q : Addr → Prop, (∀ a, hcell H12 a = some (.int .u64 1) → hcell H12 (a.add 1) = some (.slice r.2.1 1 r.2.2) → Q a) → idxA q 1 0 2 Q := fun Q hQ => by
    refine idxS rcRowC_len ((0, []), (none, 0)) v.2.1 (by omega) (by omega) (by simp) fun b o hp hl hcs => hQ _ ?_ ?_
    · have := hcs 0 (by omega)
      simp only [Int.toNat_zero, List.getD_cons_zero, rcRowC, hr1] at this
      exact this
    · have := hcs 1 (by omega)
      simp only [Int.toNat_zero, List.getD_cons_zero, rcRowC, hr1] at this
      exact this
  refine at0 _ fun a c0 c1 => ldI_of c0 (bif_eq rfl (at0 _ fun a c0 c1 => ldSl_of c1 (bif_eq rfl (at0 _ fun a c0 c1 => ldSl_of c1 ?_))))
  have hrd := v.2.2 r (by simp)
  rw [hr1] at hrd
  refine idxS Id.len noId hrd (by omega) (by omega) (by simp) fun b o hp hl hcs => ?_
  have d0 := hcs 0 (by omega)
  have d1 := hcs 1 (by omega)
  simp only [Int.toNat_zero, List.getD_cons_zero, Id.cells] at d0 d1
  refine ldI_of d0 (ldI_of d1 (idEq ?_))
  simp only [decide_true]
  simp only [asI_mk', asB_mk, asP_mk, asA_mk, asM_mk, asSl_mk, asStr_mk, tup2_mk, tup3_mk, agg1_mk, agg2_mk, agg3_mk, agg4_mk, asAggm, unCons_mk, unNil_mk, asTup_mk, extractD0, extractD1, List.toList_toArray, nilP_mk, add_mk, Nat.zero_add, Nat.add_zero, condT, condF, Bool.not_true, Bool.not_false, Option.isNone_some, Option.isNone_none]
  refine rcStepC h12 (i := 3) (j := 2) (k := 1) rfl rfl rfl (by decide) (by decide) (by decide) (hlt 5) fun H13 h13 => ?_
  rw [k5] at h13 ⊢
  simp only [asI_mk', asB_mk, asP_mk, asA_mk, asM_mk, asSl_mk, asStr_mk, tup2_mk, tup3_mk, agg1_mk, agg2_mk, agg3_mk, agg4_mk, asAggm, unCons_mk, unNil_mk, asTup_mk, extractD0, extractD1, List.toList_toArray, nilP_mk, add_mk, Nat.zero_add, Nat.add_zero, condT, condF, Bool.not_true, Bool.not_false, Option.isNone_some, Option.isNone_none]
  exact hK H13 (St.lesses (M := [_, _, _, _]) h13)

/-- What is met is another node's. -/
def Ps.far (s : Hs) (p : Ps) : Prop := ∀ e ∈ p.met, e.1.n ≠ s.node
theorem Ps.far.shade {s : Hs} {p : Ps} {x : Id} {r : Int} (h : p.far s) : (pShade s p x r).far s := by
  intro e he
  rcases shade_met (s := s) (p := p) (x := x) (r := r) with hm | ⟨_, hn, hm, _⟩
  · rw [hm] at he; exact h e he
  · rw [hm] at he
    rcases mput_mem he with rfl | he
    · exact hn
    · exact h e he
theorem Ps.far.shades {s : Hs} {p : Ps} {l : List Id} {r : Int} (h : p.far s) : (pShades s p l r).far s := by
  unfold pShades
  induction l generalizing p with
  | nil => exact h
  | cons y l ih => exact ih h.shade
theorem Ps.far.scan {s : Hs} {p : Ps} {k : Int} (h : p.far s) : (pScan s p k).2.far s := by
  unfold pScan
  split
  · exact Ps.far.shades (p := { p with marks := _ }) h
  · exact h

set_option maxRecDepth 20000 in
theorem paintedC {H0 H : Hp} {L : List Prt} {i j hb rb : Nat} {s : Hs} {lP : Option Addr} {lL lC : Nat} {l : List E_law14_Way} {K : Value → Hp → Prop} (h : St H0 L H) (hi : L[i]? = some (HeapP hb s)) (hj : L[j]? = some (RHeap rb s)) (hlast : s.last ≤ 1000)
    (hr : Rd H0 5 lP lL (cel E_law14_Way.cells l)) (hl : lL ≤ 9223372036854775807) (hok : ∀ x ∈ l, x.ok) (hK : ∀ pb qb p H', p.lt 1000 → p.far s → St H0 (RPaint qb rb p :: PaintP pb hb p :: L) H' → K (.tuple #[.pointer (some ⟨pb, 0, none⟩), .pointer (some ⟨qb, 0, none⟩)]) H') :
    hcall PR f_law14_painted ⟨[.pointer (some ⟨hb, 0, none⟩), .pointer (some ⟨rb, 0, none⟩), .slice lP lL lC]⟩ H K := by
  apply den_law14_painted
  unfold B_law14_painted
  have ho := heap_ok h hi
  have hln := ho.last
  refine pNewOk h (by omega) (by omega) fun pb H1 h1 => ?_
  simp only [asI_mk', asB_mk, asP_mk, asA_mk, asM_mk, asSl_mk, asStr_mk, tup2_mk, tup3_mk, agg1_mk, agg2_mk, agg3_mk, agg4_mk, asAggm, unCons_mk, unNil_mk, asTup_mk, extractD0, extractD1, List.toList_toArray, nilP_mk, add_mk, Nat.zero_add, Nat.add_zero, condT, condF, Bool.not_true, Bool.not_false, Option.isNone_some, Option.isNone_none]
  refine bif_neqf rfl ?_
  refine rNewPaintC h1 (by omega) (by omega) fun qb H2 h2 => ?_
  simp only [asI_mk', asB_mk, asP_mk, asA_mk, asM_mk, asSl_mk, asStr_mk, tup2_mk, tup3_mk, agg1_mk, agg2_mk, agg3_mk, agg4_mk, asAggm, unCons_mk, unNil_mk, asTup_mk, extractD0, extractD1, List.toList_toArray, nilP_mk, add_mk, Nat.zero_add, Nat.add_zero, condT, condF, Bool.not_true, Bool.not_false, Option.isNone_some, Option.isNone_none]
  refine ⟨fun t H' => ∃ (y : Nat) (p : Ps), t = y ∧ y ≤ lL ∧ y ≤ 100 ∧ p.lt (9 * y) ∧ p.far s ∧ St H0 (RPaint qb rb p :: PaintP pb hb p :: L) H', fun t _ => ((lL : Int) - t).toNat, ⟨0, newPs 4, rfl, by omega, by omega, newPs_lt, fun e he => (by cases he), h2⟩, ?_⟩
  clear h2 h1
  rintro t H3 ⟨y, p, rfl, hy, hy2, hlt, hfar, h3⟩
  by_cases hc : (y : Int) < (lL : Int)
  rotate_left
  · exact bif_neg hc (hK pb qb p H3 (hlt.mono (by omega)) hfar h3)
  refine bif_pos hc ?_
  by_cases hc2 : (y : Int) < 100
  rotate_left
  · exact bif_neg hc2 (hK pb qb p H3 (hlt.mono (by omega)) hfar h3)
  refine bif_pos hc2 ?_
  clear hK
  intro R19 hR19
  have hR19 : ∀ p H', p.lt (9 * (y + 1)) → p.far s → St H0 (RPaint qb rb p :: PaintP pb hb p :: L) H' → R19 H' := fun p H' hlt hf h' => by
    refine hR19 H' ?_
    rw [wrap_i64 (by omega) (by omega)]
    exact ⟨⟨y + 1, p, by omega, by omega, by omega, hlt, hf, h'⟩, by (try dsimp only); omega⟩
  have rr := h3.rd hr
  refine idxS E_law14_Way.len ⟨0, 0, 0, 0, false⟩ rr (by omega) (by omega) hc fun b1 o1 hp hjl hcs => ?_
  have hat : ∀ (L' : List Prt) H' (q : Nat), St H0 L' H' → q < 5 → hcell H' ⟨b1, o1 + (y : Int).toNat * 5 + q, none⟩ = (E_law14_Way.cells (l.getD (y : Int).toNat ⟨0, 0, 0, 0, false⟩))[q]? := fun L' H' q h' hq =>
    (h'.rd hr).cel_at' E_law14_Way.len ⟨0, 0, 0, 0, false⟩ hp hjl hq
  have hidx : ∀ Q : Addr → Prop, Q ⟨b1, o1 + (y : Int).toNat * 5, none⟩ → idxA lP lL (y : Int) 5 Q := fun Q hQ => idxA_of rr (by omega) hc fun b' o' hp' _ => by
    obtain ⟨rfl, rfl⟩ : b1 = b' ∧ o1 = o' := by rw [hp] at hp'; simpa using hp'
    exact hQ
  have hx := hok _ (List.getElem_mem hjl)
  have hgd : l.getD (y : Int).toNat ⟨0, 0, 0, 0, false⟩ = l[(y : Int).toNat] := by rw [List.getD_eq_getElem?_getD, List.getElem?_eq_getElem hjl]; rfl
  rw [← hgd] at hx
  clear hgd
  generalize l.getD (y : Int).toNat ⟨0, 0, 0, 0, false⟩ = x at hx hcs hat
  have hi' : ∀ A B : Prt, (A :: B :: L)[i + 2]? = some (HeapP hb s) := fun A B => hi
  have hj' : ∀ A B : Prt, (A :: B :: L)[j + 2]? = some (RHeap rb s) := fun A B => hj
  refine ldI_of (hcs 0 (by omega)) ?_
  obtain ⟨y1, N1, g1, _, _⟩ := rheapOpenL (i := j + 2) h3 (hj' _ _) (.inl rfl)
  (try simp only [asI_mk', asB_mk, asP_mk, asA_mk, asM_mk, asSl_mk, asStr_mk, tup2_mk, tup3_mk, agg1_mk, agg2_mk, agg3_mk, agg4_mk, asAggm, unCons_mk, unNil_mk, asTup_mk, extractD0, extractD1, List.toList_toArray, nilP_mk, add_mk, Nat.zero_add, Nat.add_zero, condT, condF, Bool.not_true, Bool.not_false, Option.isNone_some, Option.isNone_none])
  refine ldI_of (rheapV g1).last ?_
  clear g1
  have w3 : IntKind.u64.wrap (s.last + 1) = s.last + 1 := wrap_u64' (by omega) (by omega)
  rw [w3]
  refine ⟨by omega, ?_⟩
  generalize Int.tmod x.Serial (s.last + 1) = k
  refine hidx _ ?_
  simp only [asI_mk', asB_mk, asP_mk, asA_mk, asM_mk, asSl_mk, asStr_mk, tup2_mk, tup3_mk, agg1_mk, agg2_mk, agg3_mk, agg4_mk, asAggm, unCons_mk, unNil_mk, asTup_mk, extractD0, extractD1, List.toList_toArray, nilP_mk, add_mk, Nat.zero_add, Nat.add_zero, condT, condF, Bool.not_true, Bool.not_false, Option.isNone_some, Option.isNone_none]
  refine ldI_of (hat _ H3 1 h3 (by omega)) ?_
  refine pShadeC (y := ⟨1, k⟩) h3 (i := i + 2) (j := 1) (hi' _ _) rfl (by omega) fun H4 h4 => hidx _ ?_
  simp only [asI_mk', asB_mk, asP_mk, asA_mk, asM_mk, asSl_mk, asStr_mk, tup2_mk, tup3_mk, agg1_mk, agg2_mk, agg3_mk, agg4_mk, asAggm, unCons_mk, unNil_mk, asTup_mk, extractD0, extractD1, List.toList_toArray, nilP_mk, add_mk, Nat.zero_add, Nat.add_zero, condT, condF, Bool.not_true, Bool.not_false, Option.isNone_some, Option.isNone_none]
  refine ldI_of (hat _ H4 1 h4 (by omega)) ?_
  refine rShadeC (y := ⟨1, k⟩) h4 (i := j + 2) (j := 0) (p := p) (hj' _ _) rfl (by omega) (hlt.mono (by omega)) fun H5 h5 => hidx _ ?_
  have h5 : St H0 (RPaint qb rb (pShade s p ⟨1, k⟩ x.Rank) :: PaintP pb hb (pShade s p ⟨1, k⟩ x.Rank) :: L) H5 := h5
  have hlt1 := hlt.shade (s := s) (x := ⟨1, k⟩) (r := x.Rank)
  have hfar1 := hfar.shade (x := ⟨1, k⟩) (r := x.Rank)
  generalize pShade s p ⟨1, k⟩ x.Rank = p1 at h5 hlt1 hfar1
  clear h4 h3
  simp only [asI_mk', asB_mk, asP_mk, asA_mk, asM_mk, asSl_mk, asStr_mk, tup2_mk, tup3_mk, agg1_mk, agg2_mk, agg3_mk, agg4_mk, asAggm, unCons_mk, unNil_mk, asTup_mk, extractD0, extractD1, List.toList_toArray, nilP_mk, add_mk, Nat.zero_add, Nat.add_zero, condT, condF, Bool.not_true, Bool.not_false, Option.isNone_some, Option.isNone_none]
  refine ldI_of (hat _ H5 2 h5 (by omega)) (ldI_of (by rw [Nat.add_assoc]; exact hat _ H5 3 h5 (by omega)) (hidx _ ?_))
  simp only [asI_mk', asB_mk, asP_mk, asA_mk, asM_mk, asSl_mk, asStr_mk, tup2_mk, tup3_mk, agg1_mk, agg2_mk, agg3_mk, agg4_mk, asAggm, unCons_mk, unNil_mk, asTup_mk, extractD0, extractD1, List.toList_toArray, nilP_mk, add_mk, Nat.zero_add, Nat.add_zero, condT, condF, Bool.not_true, Bool.not_false, Option.isNone_some, Option.isNone_none]
  refine ldI_of (hat _ H5 1 h5 (by omega)) ?_
  refine pShadeC (y := ⟨x.Out_Node, x.Out_Serial⟩) h5 (i := i + 2) (j := 1) (hi' _ _) rfl (by omega) fun H6 h6 => hidx _ ?_
  simp only [asI_mk', asB_mk, asP_mk, asA_mk, asM_mk, asSl_mk, asStr_mk, tup2_mk, tup3_mk, agg1_mk, agg2_mk, agg3_mk, agg4_mk, asAggm, unCons_mk, unNil_mk, asTup_mk, extractD0, extractD1, List.toList_toArray, nilP_mk, add_mk, Nat.zero_add, Nat.add_zero, condT, condF, Bool.not_true, Bool.not_false, Option.isNone_some, Option.isNone_none]
  refine ldI_of (hat _ H6 2 h6 (by omega)) (ldI_of (by rw [Nat.add_assoc]; exact hat _ H6 3 h6 (by omega)) (hidx _ ?_))
  simp only [asI_mk', asB_mk, asP_mk, asA_mk, asM_mk, asSl_mk, asStr_mk, tup2_mk, tup3_mk, agg1_mk, agg2_mk, agg3_mk, agg4_mk, asAggm, unCons_mk, unNil_mk, asTup_mk, extractD0, extractD1, List.toList_toArray, nilP_mk, add_mk, Nat.zero_add, Nat.add_zero, condT, condF, Bool.not_true, Bool.not_false, Option.isNone_some, Option.isNone_none]
  refine ldI_of (hat _ H6 1 h6 (by omega)) ?_
  refine rShadeC (y := ⟨x.Out_Node, x.Out_Serial⟩) h6 (i := j + 2) (j := 0) (p := p1) (hj' _ _) rfl (by omega) (hlt1.mono (by omega)) fun H7 h7 => hidx _ ?_
  have h7 : St H0 (RPaint qb rb (pShade s p1 ⟨x.Out_Node, x.Out_Serial⟩ x.Rank) :: PaintP pb hb (pShade s p1 ⟨x.Out_Node, x.Out_Serial⟩ x.Rank) :: L) H7 := h7
  have hlt2 := hlt1.shade (s := s) (x := ⟨x.Out_Node, x.Out_Serial⟩) (r := x.Rank)
  have hfar2 := hfar1.shade (x := ⟨x.Out_Node, x.Out_Serial⟩) (r := x.Rank)
  generalize pShade s p1 ⟨x.Out_Node, x.Out_Serial⟩ x.Rank = p2 at h7 hlt2 hfar2
  clear h6 h5
  simp only [asI_mk', asB_mk, asP_mk, asA_mk, asM_mk, asSl_mk, asStr_mk, tup2_mk, tup3_mk, agg1_mk, agg2_mk, agg3_mk, agg4_mk, asAggm, unCons_mk, unNil_mk, asTup_mk, extractD0, extractD1, List.toList_toArray, nilP_mk, add_mk, Nat.zero_add, Nat.add_zero, condT, condF, Bool.not_true, Bool.not_false, Option.isNone_some, Option.isNone_none]
  refine ldB_of (hat _ H7 4 h7 (by omega)) ?_
  cases x.Scan
  · simp only [condF]
    exact hR19 p2 H7 (hlt2.mono (by omega)) hfar2 h7
  · simp only [condT]
    refine pScanC h7 (i := i + 2) (j := 1) (hi' _ _) rfl (by omega) fun H8 h8 => ?_
    simp only [asI_mk', asB_mk, asP_mk, asA_mk, asM_mk, asSl_mk, asStr_mk, tup2_mk, tup3_mk, agg1_mk, agg2_mk, agg3_mk, agg4_mk, asAggm, unCons_mk, unNil_mk, asTup_mk, extractD0, extractD1, List.toList_toArray, nilP_mk, add_mk, Nat.zero_add, Nat.add_zero, condT, condF, Bool.not_true, Bool.not_false, Option.isNone_some, Option.isNone_none]
    refine rScanC h8 (i := j + 2) (j := 0) (p := p2) (hj' _ _) rfl (by omega) (hlt2.mono (by omega)) fun H9 h9 => ?_
    simp only [asI_mk', asB_mk, asP_mk, asA_mk, asM_mk, asSl_mk, asStr_mk, tup2_mk, tup3_mk, agg1_mk, agg2_mk, agg3_mk, agg4_mk, asAggm, unCons_mk, unNil_mk, asTup_mk, extractD0, extractD1, List.toList_toArray, nilP_mk, add_mk, Nat.zero_add, Nat.add_zero, condT, condF, Bool.not_true, Bool.not_false, Option.isNone_some, Option.isNone_none]
    exact hR19 _ H9 ((hlt2.scan ho).mono (by omega)) hfar2.scan h9

end Go.Proofs.Ytohlnmenghbgbaa

namespace Go.Proofs.Ytohlnmenghbgbaa
open Go
set_option linter.unusedVariables false
set_option maxRecDepth 100000
def B_law14_ReachRows (gRefsP1 : Option Addr) (gRefsL2 : Nat) (gRefsC3 : Nat) (gOutP4 : Option Addr) (gOutL5 : Nat) (gOutC6 : Nat) (gInP7 : Option Addr) (gInL8 : Nat) (gInC9 : Nat) (lP10 : Option Addr) (lL11 : Nat) (lC12 : Nat) (suspect13 : Int) (H : Hp) (K : Value → Hp → Prop) : Prop :=
 newB (.cells #[(.slice gRefsP1 gRefsL2 gRefsC3), (.slice gOutP4 gOutL5 gOutC6), (.slice gInP7 gInL8 gInC9)] ty_hand_Graph) H fun b14 Hx15 =>
 ldSl ⟨b14, 0, none⟩ Hx15 fun RefsP16 RefsL17 RefsC18 =>
 ldSl ⟨b14, 1, none⟩ Hx15 fun OutP19 OutL20 OutC21 =>
 ldSl ⟨b14, 2, none⟩ Hx15 fun InP22 InL23 InC24 =>
 hcall PR f_hand_Graph_Heaps ⟨[(.agg #[(.slice RefsP16 RefsL17 RefsC18), (.slice OutP19 OutL20 OutC21), (.slice InP22 InL23 InC24)]), (.int .i64 25)]⟩ Hx15 fun v25 Hx26 =>
 tup2 v25 fun v27 v28 =>
 asP v27 fun t29 =>
 asP v28 fun t30 =>
 hcall PR f_law14_known ⟨[]⟩ Hx26 fun v31 Hx32 =>
 asB v31 fun t33 =>
 (bif (!t33) then
 K (.bool false) Hx32
else
 (bif (Option.isNone (α := Addr) t29) then
 K (.bool false) Hx32
else
 hcall PR f_law14_painted ⟨[(.pointer t29), (.pointer t30), (.slice lP10 lL11 lC12)]⟩ Hx32 fun v34 Hx35 =>
 tup2 v34 fun v36 v37 =>
 asP v36 fun t38 =>
 asP v37 fun t39 =>
 (bif (Option.isNone (α := Addr) t38) then
 K (.bool false) Hx35
else
 hcall PR f_reach_New ⟨[(.pointer t29), (.pointer t38)]⟩ Hx35 fun v40 Hx41 =>
 tup2 v40 fun v42 v43 =>
 asP v42 fun t44 =>
 asI .i64 v43 fun t45 =>
 (bif ((t45 : Int) != 0) then
 K (.bool false) Hx41
else
 (bif (Option.isNone (α := Addr) t44) then
 K (.bool false) Hx41
else
 hcall PR f_hand_Pick ⟨[(.int .i64 suspect13), (.int .i64 9)]⟩ Hx41 fun v46 Hx47 =>
 asI .i64 v46 fun t48 =>
 hcall PR f_reach_Reacher_Begin ⟨[(.pointer t44), (.int .i64 t48)]⟩ Hx47 fun v49 Hx50 =>
 nilP t30 fun ta51 =>
 ldI .u64 (ta51.add 2) Hx50 fun Last52 =>
 ∀ R53 : Hp → Prop, (∀ Hx54 : Hp, (
 hcall PR f_reach_Reacher_Rows ⟨[(.pointer t44)]⟩ Hx54 fun v55 Hx56 =>
 asSl v55 fun tP57 tL58 tC59 =>
 ∃ (I60 : Int → Int → Hp → Prop) (m61 : Int → Int → Hp → Nat), I60 0 1 Hx56 ∧ ∀ atx63 : Int, ∀ s64 : Int, ∀ Hx62 : Hp, I60 atx63 s64 Hx62 →
 (bif (decide ((s64 : Int) ≤ (IntKind.i64.wrap Last52))) then
 ∀ R65 : Int → Hp → Prop, (∀ atx67 : Int, ∀ Hx66 : Hp, (
 I60 atx67 (IntKind.i64.wrap (s64 + 1)) Hx66 ∧ m61 atx67 (IntKind.i64.wrap (s64 + 1)) Hx66 < m61 atx63 s64 Hx62) → R65 atx67 Hx66) →
 hcall PR f_ref11_Paint_Mark ⟨[(.pointer t39), (.int .u64 (IntKind.u64.wrap s64))]⟩ Hx62 fun v68 Hx69 =>
 tup3 v68 fun v70 v71 v72 =>
 asI .i64 v70 fun t73 =>
 asB v71 fun t74 =>
 asB v72 fun t75 =>
 ldSl ⟨b14, 0, none⟩ Hx69 fun RefsP76 RefsL77 RefsC78 =>
 ldSl ⟨b14, 1, none⟩ Hx69 fun OutP79 OutL80 OutC81 =>
 ldSl ⟨b14, 2, none⟩ Hx69 fun InP82 InL83 InC84 =>
 hcall PR f_hand_Graph_Dist ⟨[(.agg #[(.slice RefsP76 RefsL77 RefsC78), (.slice OutP79 OutL80 OutC81), (.slice InP82 InL83 InC84)]), (.int .i64 (IntKind.i64.wrap (s64 - 1)))]⟩ Hx69 fun v85 Hx86 =>
 asI .i64 v85 fun t87 =>
 (bif ((t87 : Int) == 0) then
 R65 atx63 Hx86
else
 (bif (!t75) then
 R65 atx63 Hx86
else
 (bif (decide ((t73 : Int) ≤ t48)) then
 R65 atx63 Hx86
else
 (bif (decide ((atx63 : Int) ≥ (tL58 : Int))) then
 K (.bool false) Hx86
else
 idxA tP57 tL58 atx63 2 fun el88 =>
 ldI .u64 el88 Hx86 fun In89 =>
 (bif ((In89 : Int) != (IntKind.u64.wrap s64)) then
 K (.bool false) Hx86
else
 idxA tP57 tL58 atx63 2 fun el90 =>
 ldSl (el90.add 1) Hx86 fun OutsP91 OutsL92 OutsC93 =>
 ldSl ⟨b14, 0, none⟩ Hx86 fun RefsP94 RefsL95 RefsC96 =>
 ldSl ⟨b14, 1, none⟩ Hx86 fun OutP97 OutL98 OutC99 =>
 ldSl ⟨b14, 2, none⟩ Hx86 fun InP100 InL101 InC102 =>
 hcall PR f_law14_leads ⟨[(.agg #[(.slice RefsP94 RefsL95 RefsC96), (.slice OutP97 OutL98 OutC99), (.slice InP100 InL101 InC102)]), (.pointer t39), (.int .i64 (IntKind.i64.wrap Last52)), (.int .i64 s64), (.int .i64 t48)]⟩ Hx86 fun v103 Hx104 =>
 asSl v103 fun tP105 tL106 tC107 =>
 (ldSl (el90.add 1) Hx104 fun OutsP108 OutsL109 OutsC110 =>
 ((.slice OutsP108 OutsL109 OutsC110) : Value) = (.slice OutsP91 OutsL92 OutsC93)) ∧
 hcall PR f_ref2_IDs ⟨[(.slice OutsP91 OutsL92 OutsC93), (.slice tP105 tL106 tC107)]⟩ Hx104 fun v111 Hx112 =>
 asB v111 fun t113 =>
 (bif (!t113) then
 K (.bool false) Hx112
else
 R65 (IntKind.i64.wrap (atx63 + 1)) Hx112))))))
else
 (bif ((atx63 : Int) == (tL58 : Int)) then
 hcall PR f_reach_Reacher_Step ⟨[(.pointer t44)]⟩ Hx62 fun v114 Hx115 =>
 asB v114 fun t116 =>
 K (.bool (!t116)) Hx115
else
 K (.bool false) Hx62))) → R53 Hx54) →
 ∃ (I117 : Int → Hp → Prop) (m118 : Int → Hp → Nat), I117 0 Hx50 ∧ ∀ i120 : Int, ∀ Hx119 : Hp, I117 i120 Hx119 →
 (bif (decide ((i120 : Int) < (IntKind.i64.wrap ((IntKind.i64.wrap ((IntKind.i64.wrap Last52) + 2)) * (IntKind.i64.wrap ((IntKind.i64.wrap Last52) + 2)))))) then
 hcall PR f_reach_Reacher_Step ⟨[(.pointer t44)]⟩ Hx119 fun v121 Hx122 =>
 asB v121 fun t123 =>
 (bif t123 then
 I117 (IntKind.i64.wrap (i120 + 1)) Hx122 ∧ m118 (IntKind.i64.wrap (i120 + 1)) Hx122 < m118 i120 Hx119
else
 R53 Hx122)
else
 R53 Hx119))))))
theorem E_law14_ReachRows (gRefsP1 : Option Addr) (gRefsL2 : Nat) (gRefsC3 : Nat) (gOutP4 : Option Addr) (gOutL5 : Nat) (gOutC6 : Nat) (gInP7 : Option Addr) (gInL8 : Nat) (gInC9 : Nat) (lP10 : Option Addr) (lL11 : Nat) (lC12 : Nat) (suspect13 : Int) (H : Hp) (K : Value → Hp → Prop) : B_law14_ReachRows gRefsP1 gRefsL2 gRefsC3 gOutP4 gOutL5 gOutC6 gInP7 gInL8 gInC9 lP10 lL11 lC12 suspect13 H K = denF Try.prog Try.f23 (.seq none .n (.seq none .n (.seq none .n (.seq none .n (.seq none .n (.seq none .n (.seq none .n (.seq none .n (.seq none .n (.seq none .n (.seq (some ⟨[], [2, 3, 10, 11, 13]⟩) (.seq none .n (.sub (.loop ⟨[(14, .int .i64)], [2, 3, 10, 11, 13]⟩ .n))) (.seq none .n (.seq none .n (.seq none (.seq none .n (.sub (.loop ⟨[(16, .int .i64), (17, .int .i64)], [2, 3, 10, 11, 13, 15]⟩ (.seq none .n (.seq (some ⟨[(16, .int .i64)], [2, 3, 10, 11, 13, 15, 17]⟩) .n .n))))) .n)))))))))))))) [(.agg #[(.slice gRefsP1 gRefsL2 gRefsC3), (.slice gOutP4 gOutL5 gOutC6), (.slice gInP7 gInL8 gInC9)]), (.slice lP10 lL11 lC12), (.int .i64 suspect13)] H K := by kernel_rfl
theorem den_law14_ReachRows {gRefsP1 : Option Addr} {gRefsL2 : Nat} {gRefsC3 : Nat} {gOutP4 : Option Addr} {gOutL5 : Nat} {gOutC6 : Nat} {gInP7 : Option Addr} {gInL8 : Nat} {gInC9 : Nat} {lP10 : Option Addr} {lL11 : Nat} {lC12 : Nat} {suspect13 : Int} {H : Hp} {K : Value → Hp → Prop} (h : B_law14_ReachRows gRefsP1 gRefsL2 gRefsC3 gOutP4 gOutL5 gOutC6 gInP7 gInL8 gInC9 lP10 lL11 lC12 suspect13 H K) : hcall PR f_law14_ReachRows ⟨[(.agg #[(.slice gRefsP1 gRefsL2 gRefsC3), (.slice gOutP4 gOutL5 gOutC6), (.slice gInP7 gInL8 gInC9)]), (.slice lP10 lL11 lC12), (.int .i64 suspect13)]⟩ H K := denF_call Try.func23 PR_mixed (Eq.mp (E_law14_ReachRows gRefsP1 gRefsL2 gRefsC3 gOutP4 gOutL5 gOutC6 gInP7 gInL8 gInC9 lP10 lL11 lC12 suspect13 H K) h)

end Go.Proofs.Ytohlnmenghbgbaa

namespace Go.Proofs.Ytohlnmenghbgbaa
set_option linter.unusedSimpArgs false
set_option linter.unusedVariables false
open Go
/-! ## Going round what is suspect -/
def rkB (l : List Bool) : List Int := l.map fun b => if b then 0 else -1
theorem rkB_at {l : List Bool} {k : Int} : rk (rkB l) k = if l.getD k.toNat false then 0 else -1 := by
  unfold rk rkB
  rw [List.getD_eq_getElem?_getD, List.getElem?_map, List.getD_eq_getElem?_getD]
  cases l[k.toNat]? <;> rfl
theorem rkB_set {l : List Bool} {k : Nat} : rkB (l.set k true) = (rkB l).set k 0 := by unfold rkB; rw [List.map_set]; rfl
theorem rkB_pos {l : List Bool} {k : Int} : 0 ≤ rk (rkB l) k ↔ l.getD k.toNat false = true := by
  rw [rkB_at]
  cases l.getD k.toNat false <;> simp
def SEdge (s : Hs) (p : Ps) (u j k : Int) : Prop := ∃ x ∈ rcRefs s j, x.n = s.node ∧ rcOwn s p u x.s = true ∧ x.s = k
def SQ (s : Hs) (p : Ps) (u a k r : Int) : Prop := Sr s p u a k ∧ r = 0
def SB (a k r : Int) : Prop := k = a ∧ r = 0

section
variable {s : Hs} {p : Ps} {u a : Int} {n : Nat}
theorem rcRefs_has {j : Int} {x : Id} (h : x ∈ rcRefs s j) : ∃ o, hGet s j = some o ∧ x ∈ o.refs := by
  unfold rcRefs at h
  split at h
  · rename_i o hg; exact ⟨o, hg, h⟩
  · cases h
theorem sedge_to (ho : s.ok) (hl : s.last = n) : ∀ j k, SEdge s p u j k → 1 ≤ k ∧ k ≤ n := fun j k ⟨x, h1, h2, h3, h4⟩ => by
  have := get_ser ho (rcOwn_has h3).1
  omega
theorem sedge_from (ho : s.ok) (hl : s.last = n) : ∀ j k, SEdge s p u j k → 1 ≤ j ∧ j ≤ n := fun j k ⟨x, h1, _⟩ => by
  obtain ⟨o, hg, _⟩ := rcRefs_has h1
  have := get_ser ho (m := j) (by rw [hg]; simp)
  omega
theorem sedge_q : ∀ j k r, SEdge s p u j k → SQ s p u a j r → SQ s p u a k r := fun j k r ⟨x, h1, h2, h3, h4⟩ h => ⟨h4 ▸ .step h.1 h1 h2 h3, h.2⟩
theorem sr_has (ho : s.ok) (ha : hGet s a ≠ none) {k : Int} (h : Sr s p u a k) : hGet s k ≠ none := by
  cases h with
  | here => exact ha
  | step _ _ _ h => exact (rcOwn_has h).1
/-- In the end just what is led to is in. -/
theorem sr_all (ho : s.ok) (hl : s.last = n) (ha : hGet s a ≠ none) {l : List Bool} (h : RkRd (SEdge s p u) (SQ s p u a) (SB a) n n (rkB l)) {k : Int} (hk : 0 ≤ k) : l.getD k.toNat false = true ↔ Sr s p u a k := by
  constructor
  · intro hb
    exact (h.ok.sound k hk (rkB_pos.2 hb)).1
  · intro hs
    have h0 : rk (rkB l) 0 < 0 := by
      rcases Int.lt_or_le (rk (rkB l) 0) 0 with h0 | h0
      · exact h0
      · have h1 := (h.ok.sound 0 (Int.le_refl _) h0).1
        have := get_ser ho (sr_has ho ha h1)
        omega
    have hc := h.closed (.inr ⟨Nat.le_refl _, h0⟩) (v := 0) (Int.le_refl _)
    have key : 0 ≤ rk (rkB l) k ∧ rk (rkB l) k ≤ 0 := by
      clear hk
      induction hs with
      | here => exact h.ok.base a 0 ⟨rfl, rfl⟩
      | step _ hx hn ho' ih => exact hc _ _ ⟨_, hx, hn, ho', rfl⟩ ih.1 ih.2
    exact rkB_pos.1 key.1

open Classical in
/-- What leads told of: those that are met, led to, and suspect. -/
noncomputable def leadF (s : Hs) (p : Ps) (u a : Int) (e : Id × Int) : Bool := decide (∃ k, Sr s p u a k ∧ e.1 ∈ rcRefs s k) && decide (u < e.2)
open Classical in
theorem leadF_iff {e : Id × Int} : leadF s p u a e = true ↔ (∃ k, Sr s p u a k ∧ e.1 ∈ rcRefs s k) ∧ u < e.2 := by
  unfold leadF
  rw [Bool.and_eq_true, decide_eq_true_iff, decide_eq_true_iff]
theorem lead_row (hp : p.ok) (hf : p.far s) : (((outsOf p).filter (leadF s p u a)).map (·.1)).Pairwise (fun x y => keyOf x < keyOf y) ∧
    ∀ x, x ∈ ((outsOf p).filter (leadF s p u a)).map (·.1) ↔ ∃ k, Sr s p u a k ∧ x ∈ rcRefs s k ∧ rcFar s p u x := by
  obtain ⟨h1, h2⟩ := outsOf_ok hp
  refine ⟨?_, fun x => ⟨fun h => ?_, fun ⟨k, k1, k2, k3⟩ => ?_⟩⟩
  · rw [List.pairwise_map]
    exact List.Pairwise.filter _ h1
  · obtain ⟨e, he, rfl⟩ := List.mem_map.1 h
    rw [List.mem_filter] at he
    obtain ⟨m1, m2⟩ := he
    obtain ⟨⟨k, k1, k2⟩, k3⟩ := leadF_iff.1 m2
    have hm := h2.subset m1
    have hl := mlook_of hp.met (k := e.1) (x := e.2) hm
    refine ⟨k, k1, k2, hf e hm, ?_, ?_⟩ <;> unfold pMet <;> rw [hl]
    exact k3
  · obtain ⟨f1, f2, f3⟩ := k3
    obtain ⟨g1, g2⟩ := pMet_id hp f2
    refine List.mem_map.2 ⟨(x, (pMet p x).1), ?_, rfl⟩
    rw [List.mem_filter]
    refine ⟨h2.symm.subset (mlook_mem g2), ?_⟩
    exact leadF_iff.2 ⟨⟨k, k1, k2⟩, f3⟩
end
section
variable {H0 H : Hp} {L : List Prt} {i j hb rb pb qb : Nat} {s : Hs} {p : Ps} {K : Value → Hp → Prop} {rp op ip : Option Addr} {rl rc ol oc il ic : Nat} {g : Gr}
set_option maxRecDepth 20000 in
theorem leadsC {n : Nat} {a u : Int} (h : St H0 L H) (ga : GrA H0 rp rl op ol ip il g) (gok : g.ok) (hs : GrHs g n s) (hn : n ≤ 40 ∧ n ≤ g.refs.length) (hi : L[i]? = some (RHeap rb s)) (hj : L[j]? = some (RPaint qb rb p)) (hij : i ≠ j) (hlt : p.lt 800000) (ha : 1 ≤ a ∧ a ≤ n)
    (hK : ∀ q c H', St H0 (Prt.row 2 q (((outsOf p).filter (leadF s p u a)).map (·.1)).length c (cel Id.cells (((outsOf p).filter (leadF s p u a)).map (·.1))) :: L) H' → K (.slice q (((outsOf p).filter (leadF s p u a)).map (·.1)).length c) H') :
    hcall PR f_law14_leads ⟨[.agg #[.slice rp rl rc, .slice op ol oc, .slice ip il ic], .pointer (some ⟨qb, 0, none⟩), .int .i64 n, .int .i64 a, .int .i64 u]⟩ H K := by
  have hp := rpaint_ok h hj
  have hasA : hGet s a ≠ none := hs.has.2 ha
  have hE := sedge_to (p := p) (u := u) hs.ok hs.last
  have hE' := sedge_from (p := p) (u := u) hs.ok hs.last
  have hQ := sedge_q (s := s) (p := p) (u := u) (a := a)
  have hn1 : 1 ≤ n ∧ n ≤ 64 := by omega
  have hrefs : ∀ y : Nat, y < n → rcRefs s ((y : Int) + 1) = grRefs g n y := fun y hy => by
    obtain ⟨c, hg⟩ := hs.get (m := (y : Int) + 1) (by omega)
    unfold rcRefs
    rw [hg]
    simp only
    rw [show ((y : Int) + 1).toNat - 1 = y by omega]
  apply den_law14_leads
  unfold B_law14_leads
  intro b14 hb14
  have h1 := h.alloc (o := .cells #[.slice rp rl rc, .slice op ol oc, .slice ip il ic] ty_hand_Graph) hb14
  have w1 : IntKind.i64.wrap ((n : Int) + 1) = ((n + 1 : Nat) : Int) := by rw [wrap_i64 (by omega) (by omega)]; omega
  rw [w1]
  refine mko_ty_Sbool (by omega) (by omega) (by omega) fun q0 H2 ho hg => ?_
  rw [Int.toNat_natCast] at ho ⊢
  have h2 := h1.row ho hg
  simp only [asI_mk', asB_mk, asP_mk, asA_mk, asM_mk, asSl_mk, asStr_mk, tup2_mk, tup3_mk, agg1_mk, agg2_mk, agg3_mk, agg4_mk, asAggm, unCons_mk, unNil_mk, asTup_mk, extractD0, extractD1, List.toList_toArray, nilP_mk, add_mk, Nat.zero_add, Nat.add_zero, condT, condF, Bool.not_true, Bool.not_false, Option.isNone_some, Option.isNone_none]
  have h2 : St H0 (Prt.row 1 q0 (n + 1) (n + 1) ((List.replicate (n + 1) false).map Value.bool) :: Prt.one b14 (.cells #[.slice rp rl rc, .slice op ol oc, .slice ip il ic] ty_hand_Graph (0, 0)) :: L) H2 := by
    rw [List.map_replicate]; exact h2
  refine h2.idxW (i := 0) false rfl (by omega) (by omega) fun _ _ hw => hw true _ fun H3 h3 => ?_
  have h3 : St H0 (Prt.row 1 q0 (n + 1) (n + 1) (((List.replicate (n + 1) false).set a.toNat true).map Value.bool) :: Prt.one b14 (.cells #[.slice rp rl rc, .slice op ol oc, .slice ip il ic] ty_hand_Graph (0, 0)) :: L) H3 := h3
  have hst : RkOk (SQ s p u a) (SB a) n (rkB ((List.replicate (n + 1) false).set a.toNat true)) := by
    have e1 : rkB (List.replicate (n + 1) false) = List.replicate (n + 1) (-1) := by unfold rkB; rw [List.map_replicate]; rfl
    have hat : ∀ k : Int, rk (rkB ((List.replicate (n + 1) false).set a.toNat true)) k = if k.toNat = a.toNat then 0 else -1 := fun k => by
      rw [rkB_at, List.getD_eq_getElem?_getD, List.getElem?_set]
      by_cases e : a.toNat = k.toNat
      · rw [if_pos e, if_pos (show a.toNat < (List.replicate (n + 1) false).length by rw [List.length_replicate]; omega), if_pos e.symm]; rfl
      · rw [if_neg e, if_neg (Ne.symm e), List.getElem?_replicate]
        split <;> rfl
    refine ⟨by unfold rkB; simp, fun k => by rw [hat]; split <;> omega, fun k hk h0 => ?_, fun k r hb => ?_⟩
    · rw [hat] at h0 ⊢
      split at h0
      · rename_i e
        rw [if_pos e]
        rw [show k = a by omega]
        exact ⟨.here, rfl⟩
      · omega
    · obtain ⟨rfl, rfl⟩ := hb
      rw [hat, if_pos rfl]
      omega
  generalize (List.replicate (n + 1) false).set a.toNat true = inn at h3 hst
  clear h2 h1 ho hg
  -- the rounds
  refine ⟨fun t H' => ∃ (y : Nat) (l : List Bool), t = y ∧ y ≤ n ∧ RkRd (SEdge s p u) (SQ s p u a) (SB a) n y (rkB l) ∧ St H0 (Prt.row 1 q0 (n + 1) (n + 1) (l.map Value.bool) :: Prt.one b14 (.cells #[.slice rp rl rc, .slice op ol oc, .slice ip il ic] ty_hand_Graph (0, 0)) :: L) H', fun i _ => ((n : Int) - i).toNat, ⟨0, _, rfl, by omega, RkRd.start hst hE', h3⟩, ?_⟩
  clear h3 hst
  rintro t H3 ⟨t, l0, rfl, ht, hrd, h3⟩
  by_cases hc : (t : Int) < n
  · refine bif_pos hc ?_
    clear hK
    refine ⟨fun i H' => ∃ (y : Nat) (l : List Bool), i = ((y + 1 : Nat) : Int) ∧ y ≤ n ∧ RkIn (SEdge s p u) (SQ s p u a) (SB a) n (rkB l0) (fun j _ => j ≤ y) (rkB l) ∧ St H0 (Prt.row 1 q0 (n + 1) (n + 1) (l.map Value.bool) :: Prt.one b14 (.cells #[.slice rp rl rc, .slice op ol oc, .slice ip il ic] ty_hand_Graph (0, 0)) :: L) H', fun i _ => ((n : Int) + 1 - i).toNat,
      ⟨0, l0, rfl, by omega, (RkIn.start hrd.ok).mono fun j k e _ hj => by have := hE' j k e; omega, h3⟩, ?_⟩
    clear h3
    rintro i' H4 ⟨y, l, rfl, hy, hin, h4⟩
    by_cases hcy : ((y + 1 : Nat) : Int) ≤ n
    rotate_left
    · obtain rfl : y = n := by omega
      refine bif_neg hcy ?_
      have w2 : IntKind.i64.wrap ((t : Int) + 1) = ((t + 1 : Nat) : Int) := by rw [wrap_i64 (by omega) (by omega)]; omega
      rw [w2]
      exact ⟨⟨t + 1, l, rfl, by omega, hrd.next hE hE' (hin.mono fun j k e _ _ => by have := hE' j k e; omega), h4⟩, by (try dsimp only); omega⟩
    refine bif_pos hcy ?_
    intro R31 hR31
    have hR31 : ∀ l H', RkIn (SEdge s p u) (SQ s p u a) (SB a) n (rkB l0) (fun j _ => j ≤ ((y + 1 : Nat) : Int)) (rkB l) → St H0 (Prt.row 1 q0 (n + 1) (n + 1) (l.map Value.bool) :: Prt.one b14 (.cells #[.slice rp rl rc, .slice op ol oc, .slice ip il ic] ty_hand_Graph (0, 0)) :: L) H' → R31 H' := fun l H' hi h' => by
      refine hR31 H' ?_
      rw [wrap_i64 (by omega) (by omega)]
      exact ⟨⟨y + 1, l, by omega, by omega, hi, h'⟩, by (try dsimp only); omega⟩
    have hyn : y < n := by omega
    refine ⟨fun k H' => ∃ (z : Nat) (l : List Bool), k = z ∧ z ≤ 7 ∧ RkIn (SEdge s p u) (SQ s p u a) (SB a) n (rkB l0) (fun j k => j ≤ y ∨ (j = ((y + 1 : Nat) : Int) ∧ ∃ z' : Nat, z' < z ∧ (grTarget g n y z').n = 1 ∧ rcOwn s p u (grTarget g n y z').s = true ∧ (grTarget g n y z').s = k)) (rkB l) ∧ St H0 (Prt.row 1 q0 (n + 1) (n + 1) (l.map Value.bool) :: Prt.one b14 (.cells #[.slice rp rl rc, .slice op ol oc, .slice ip il ic] ty_hand_Graph (0, 0)) :: L) H', fun k _ => (8 - k).toNat,
      ⟨0, l, rfl, by omega, hin.mono fun j k e _ d => d.elim id fun ⟨_, _, h, _⟩ => absurd h (Nat.not_lt_zero _), h4⟩, ?_⟩
    clear h4 hin
    rintro k H5 ⟨z, l, rfl, hz, hin, h5⟩
    have hlen : l.length = n + 1 := by have := hin.ok.len; unfold rkB at this; simpa using this
    have fin : (∀ k, SEdge s p u ((y + 1 : Nat) : Int) k → 0 ≤ rk (rkB l0) ((y + 1 : Nat) : Int) → ∃ z' : Nat, z' < z ∧ (grTarget g n y z').n = 1 ∧ rcOwn s p u (grTarget g n y z').s = true ∧ (grTarget g n y z').s = k) → R31 H5 := fun hall => by
      refine hR31 l H5 (hin.mono fun j k e h0 d => ?_) h5
      by_cases ej : j ≤ y
      · exact .inl ej
      · have ej : j = ((y + 1 : Nat) : Int) := by omega
        subst ej
        exact .inr ⟨rfl, hall k e h0⟩
    refine h5.idxW (i := 0) false rfl (by omega) (by omega) fun _ hca _ => ldB_of hca ?_
    cases hb : l.getD ((y + 1 : Nat) : Int).toNat false
    · simp only [condF]
      refine fin fun k e h0 => ?_
      have := hin.le _ h0
      rw [rkB_pos.1 this.1] at hb
      cases hb
    have hr0 : 0 ≤ rk (rkB l) ((y + 1 : Nat) : Int) := rkB_pos.2 hb
    simp only [condT]
    refine ldSl_of (h5.cell (i := 1) rfl rfl) ?_
    have w3 : IntKind.i64.wrap (((y + 1 : Nat) : Int) - 1) = (y : Int) := by rw [wrap_i64 (by omega) (by omega)]; omega
    rw [w3]
    have all : grDeg g y ≤ z → R31 H5 := fun hz' => fin fun k e _ => by
      obtain ⟨x, hx, h2, h3, h4⟩ := e
      have hr := hrefs y hyn
      rw [show ((y : Int) + 1) = ((y + 1 : Nat) : Int) by omega] at hr
      rw [hr] at hx
      obtain ⟨w, hw, rfl⟩ := grRefs_of hx
      exact ⟨w, by omega, by rw [h2, hs.node], h3, h4⟩
    refine (ga.st h5).row (i := y) (by omega) fun _ q c' ha' hrow => ldSl_of ha' ?_
    by_cases hzl : (z : Int) < (((g.refs.getD y []).length : Nat) : Int)
    rotate_left
    · exact bif_neg hzl (all (by have := grDeg_le (g := g) (i := y); omega))
    refine bif_pos hzl ?_
    by_cases hz7 : (z : Int) < 7
    rotate_left
    · exact bif_neg hz7 (all (by have := grDeg_le (g := g) (i := y); omega))
    have hzd : z < grDeg g y := by unfold grDeg; split <;> omega
    refine bif_pos hz7 ?_
    clear fin all
    intro R46 hR46
    have hR46 : ∀ l H', RkIn (SEdge s p u) (SQ s p u a) (SB a) n (rkB l0) (fun j k => j ≤ y ∨ (j = ((y + 1 : Nat) : Int) ∧ ∃ z' : Nat, z' < z + 1 ∧ (grTarget g n y z').n = 1 ∧ rcOwn s p u (grTarget g n y z').s = true ∧ (grTarget g n y z').s = k)) (rkB l) → St H0 (Prt.row 1 q0 (n + 1) (n + 1) (l.map Value.bool) :: Prt.one b14 (.cells #[.slice rp rl rc, .slice op ol oc, .slice ip il ic] ty_hand_Graph (0, 0)) :: L) H' → R46 H' := fun l H' hi h' => by
      refine hR46 H' ?_
      rw [wrap_i64 (by omega) (by omega)]
      exact ⟨⟨z + 1, l, by omega, by omega, hi, h'⟩, by (try dsimp only); omega⟩
    refine ldSl_of (h5.cell (i := 1) rfl rfl) (ldSl_of (h5.cell (i := 1) rfl rfl) (ldSl_of (h5.cell (i := 1) rfl rfl) ?_))
    refine TargetC h5 ga gok (by omega) (by omega) (by omega) (by omega) (by omega) fun H6 h6 => ?_
    simp only [asI_mk', asB_mk, asP_mk, asA_mk, asM_mk, asSl_mk, asStr_mk, tup2_mk, tup3_mk, agg1_mk, agg2_mk, agg3_mk, agg4_mk, asAggm, unCons_mk, unNil_mk, asTup_mk, extractD0, extractD1, List.toList_toArray, nilP_mk, add_mk, Nat.zero_add, Nat.add_zero, condT, condF, Bool.not_true, Bool.not_false, Option.isNone_some, Option.isNone_none]
    refine box2 h6 fun b63 H8 h8 => ?_
    refine ldI_of (h8.cell (i := 0) rfl rfl) (rMarkC h8 (i := i + 3) (j := j + 3) hi hj (by omega) (hlt.mono (by omega)) ?_)
    simp only [asI_mk', asB_mk, asP_mk, asA_mk, asM_mk, asSl_mk, asStr_mk, tup2_mk, tup3_mk, agg1_mk, agg2_mk, agg3_mk, agg4_mk, asAggm, unCons_mk, unNil_mk, asTup_mk, extractD0, extractD1, List.toList_toArray, nilP_mk, add_mk, Nat.zero_add, Nat.add_zero, condT, condF, Bool.not_true, Bool.not_false, Option.isNone_some, Option.isNone_none]
    refine ldI_of (h8.cell (i := 0) rfl rfl) ?_
    have step : ∀ k, (∃ z' : Nat, z' < z + 1 ∧ (grTarget g n y z').n = 1 ∧ rcOwn s p u (grTarget g n y z').s = true ∧ (grTarget g n y z').s = k) → (∃ z' : Nat, z' < z ∧ (grTarget g n y z').n = 1 ∧ rcOwn s p u (grTarget g n y z').s = true ∧ (grTarget g n y z').s = k) ∨ ((grTarget g n y z).n = 1 ∧ rcOwn s p u (grTarget g n y z).s = true ∧ (grTarget g n y z).s = k) := fun k ⟨z', h1, h2, h3, h4⟩ => by
      by_cases e : z' = z
      · subst e; exact .inr ⟨h2, h3, h4⟩
      · exact .inl ⟨z', by omega, h2, h3, h4⟩
    have none' : ¬ ((grTarget g n y z).n = 1 ∧ rcOwn s p u (grTarget g n y z).s = true) → R46 H8 := fun hno => hR46 l H8 (hin.mono fun j k e _ d => by
      rcases d with d | ⟨d1, d2⟩
      · exact .inl d
      · rcases step k d2 with d2 | ⟨d2, d3, _⟩
        · exact .inr ⟨d1, d2⟩
        · exact absurd ⟨d2, d3⟩ hno) h8.less
    by_cases hn' : (grTarget g n y z).n = 1
    rotate_left
    · exact bif_ne hn' (none' fun hh => hn' hh.1)
    refine bif_eq hn' ?_
    have hown : rcOwn s p u (grTarget g n y z).s = ((pMark s p (grTarget g n y z).s).2.2 && decide (u < (pMark s p (grTarget g n y z).s).1)) := rfl
    cases hm : (pMark s p (grTarget g n y z).s).2.2
    · rw [hm] at hown
      simp only [condF]
      exact none' fun hh => by rw [hown] at hh; cases hh.2
    simp only [condT]
    by_cases hgt : (pMark s p (grTarget g n y z).s).1 > u
    rotate_left
    · rw [hm, Bool.true_and] at hown
      exact bif_neg hgt (none' fun hh => by rw [hown, decide_eq_true_iff] at hh; exact hgt hh.2)
    rw [hm, Bool.true_and, decide_eq_true hgt] at hown
    have hedge : SEdge s p u ((y + 1 : Nat) : Int) (grTarget g n y z).s := by
      have hr := hrefs y hyn
      rw [show ((y : Int) + 1) = ((y + 1 : Nat) : Int) by omega] at hr
      exact ⟨_, by rw [hr]; exact grRefs_mem hzd, by rw [hn', hs.node], hown, rfl⟩
    have hto := hE _ _ hedge
    have hrel := hin.relax hE hQ (by omega) hr0 hedge
    have hrel : RkIn (SEdge s p u) (SQ s p u a) (SB a) n (rkB l0) (fun j k => j ≤ y ∨ (j = ((y + 1 : Nat) : Int) ∧ ∃ z' : Nat, z' < z + 1 ∧ (grTarget g n y z').n = 1 ∧ rcOwn s p u (grTarget g n y z').s = true ∧ (grTarget g n y z').s = k)) (rkB (l.set (grTarget g n y z).s.toNat true)) := by
      have hrk0 : rk (rkB l) ((y + 1 : Nat) : Int) = 0 := by rw [rkB_at, hb]; rfl
      have e : relax (rkB l) ((y + 1 : Nat) : Int) (grTarget g n y z).s = rkB (l.set (grTarget g n y z).s.toNat true) := by
        unfold relax
        rw [rkB_set, hrk0]
        by_cases hneg : rk (rkB l) (grTarget g n y z).s < 0
        · rw [if_pos (.inl hneg)]
        · have h0 : l.getD (grTarget g n y z).s.toNat false = true := rkB_pos.1 (by omega)
          have h0' : rk (rkB l) (grTarget g n y z).s = 0 := by rw [rkB_at, h0]; rfl
          rw [if_neg (by omega)]
          symm
          refine List.set_self (A := 0) ?_
          unfold rkB
          rw [List.getD_eq_getElem?_getD] at h0
          rw [List.getElem?_map]
          cases hq : l[(grTarget g n y z).s.toNat]? with
          | none => rw [hq] at h0; cases h0
          | some v => rw [hq] at h0; simp at h0; rw [h0]; rfl
      rw [← e]
      refine hrel.mono fun j k e _ d => ?_
      rcases d with d | ⟨d1, d2⟩
      · exact .inl (.inl d)
      · rcases step k d2 with d2 | ⟨_, _, d2⟩
        · exact .inl (.inr ⟨d1, d2⟩)
        · exact .inr ⟨d1, d2.symm⟩
    refine bif_pos hgt (ldI_of (h8.cell (i := 0) rfl rfl) ?_)
    refine h8.idxW (i := 1) false rfl (by omega) (by omega) fun _ _ hw => hw true _ fun H9 h9 => hR46 _ H9 hrel h9.less
  obtain rfl : t = n := by omega
  refine bif_neg hc ?_
  have hall : ∀ k : Int, 0 ≤ k → (l0.getD k.toNat false = true ↔ Sr s p u a k) := fun k hk => sr_all hs.ok hs.last hasA hrd hk
  have hlen : l0.length = t + 1 := by have := hrd.ok.len; unfold rkB at this; simpa using this
  clear hrd hc ht
  -- which of all that were met
  refine rOutsC h3 (j := j + 2) hj (by have := hlt.2; omega) fun oq oc' H4 h4 => ?_
  simp only [asI_mk', asB_mk, asP_mk, asA_mk, asM_mk, asSl_mk, asStr_mk, tup2_mk, tup3_mk, agg1_mk, agg2_mk, agg3_mk, agg4_mk, asAggm, unCons_mk, unNil_mk, asTup_mk, extractD0, extractD1, List.toList_toArray, nilP_mk, add_mk, Nat.zero_add, Nat.add_zero, condT, condF, Bool.not_true, Bool.not_false, Option.isNone_some, Option.isNone_none]
  have hol : (outsOf p).length ≤ 800000 := by rw [(outsOf_ok hp).2.length_eq]; exact hlt.2
  have hrow0 := h4.row (H' := _) (Own.nil 2) ((Goes.refl Nothing _).less fun c hc => absurd hc blk_none)
  obtain ⟨O, hO⟩ : ∃ O, O = outsOf p := ⟨_, rfl⟩
  rw [← hO] at hrow0 hol hK ⊢
  refine ⟨fun fP fL fC m H' => ∃ (y : Nat) (l' : List Id), m = y ∧ y ≤ O.length ∧ l' = ((O.take y).filter (leadF s p u a)).map (·.1) ∧ fL = l'.length ∧ St H0 (Prt.row 2 fP l'.length fC (cel Id.cells l') :: Prt.row 3 oq O.length oc' (cel outC O) :: Prt.row 1 q0 (t + 1) (t + 1) (l0.map Value.bool) :: Prt.one b14 (.cells #[.slice rp rl rc, .slice op ol oc, .slice ip il ic] ty_hand_Graph (0, 0)) :: L) H',
    fun _ _ _ m _ => ((O.length : Int) - m).toNat, ⟨0, [], rfl, by omega, rfl, rfl, hrow0⟩, ?_⟩
  clear hrow0 h4 h3
  rintro fP fL fC m H5 ⟨y, l', rfl, hy, hl', rfl, h5⟩
  by_cases hc : (y : Int) < ((O.length : Nat) : Int)
  rotate_left
  · obtain rfl : y = O.length := by omega
    rw [List.take_length] at hl'
    refine bif_neg hc ?_
    have := hK fP fC H5
    rw [← hl'] at this
    exact this (St.lesses (M := [_, _, _]) (h5.pick 4 [1, 2, 3, 0] rfl rfl))
  refine bif_pos hc ?_
  have hyl : y < O.length := by omega
  obtain ⟨e, he⟩ : ∃ e, e = O[y] := ⟨_, rfl⟩
  intro R92 hR92
  have hR92 : ∀ (l2 : List Id) fP fC H', l2 = ((O.take (y + 1)).filter (leadF s p u a)).map (·.1) → St H0 (Prt.row 2 fP l2.length fC (cel Id.cells l2) :: Prt.row 3 oq O.length oc' (cel outC O) :: Prt.row 1 q0 (t + 1) (t + 1) (l0.map Value.bool) :: Prt.one b14 (.cells #[.slice rp rl rc, .slice op ol oc, .slice ip il ic] ty_hand_Graph (0, 0)) :: L) H' → R92 fP l2.length fC H' := fun l2 fP fC H' hl2 h' => by
    refine hR92 _ _ _ H' ?_
    rw [wrap_i64 (by omega) (by omega)]
    exact ⟨⟨y + 1, l2, by omega, by omega, hl2, rfl, h'⟩, by (try dsimp only); omega⟩
  have htk : ((O.take (y + 1)).filter (leadF s p u a)).map (·.1) = l' ++ if leadF s p u a e = true then [e.1] else [] := by
    rw [List.take_add_one, List.getElem?_eq_getElem hyl, ← he, List.filter_append, List.map_append, ← hl']
    simp only [Option.toList_some]
    by_cases hh : leadF s p u a e = true
    · rw [if_pos hh, List.filter_cons_of_pos hh]; rfl
    · rw [if_neg hh, List.filter_cons_of_neg hh]; rfl
  have outAt : ∀ {H' : Hp} {M : List Prt} {Q : Addr → Prop}, St H0 (M ++ (Prt.row 3 oq O.length oc' (cel outC O) :: Prt.row 1 q0 (t + 1) (t + 1) (l0.map Value.bool) :: Prt.one b14 (.cells #[.slice rp rl rc, .slice op ol oc, .slice ip il ic] ty_hand_Graph (0, 0)) :: L)) H' →
      (∀ b, (∀ (M' : List Prt) (H'' : Hp), St H0 (M' ++ (Prt.row 3 oq O.length oc' (cel outC O) :: Prt.row 1 q0 (t + 1) (t + 1) (l0.map Value.bool) :: Prt.one b14 (.cells #[.slice rp rl rc, .slice op ol oc, .slice ip il ic] ty_hand_Graph (0, 0)) :: L)) H'' → hcell H'' b = some (.int .i64 e.1.n) ∧ hcell H'' (b.add 1) = some (.int .u64 e.1.s) ∧ hcell H'' (b.add 2) = some (.int .i64 e.2)) → Q b) → idxA oq O.length (y : Int) 3 Q := fun {H' M Q} h' hQ => by
    have rr : ∀ (M' : List Prt) (H'' : Hp), St H0 (M' ++ (Prt.row 3 oq O.length oc' (cel outC O) :: Prt.row 1 q0 (t + 1) (t + 1) (l0.map Value.bool) :: Prt.one b14 (.cells #[.slice rp rl rc, .slice op ol oc, .slice ip il ic] ty_hand_Graph (0, 0)) :: L)) H'' → Rd H'' 3 oq O.length (cel outC O) := fun M' H'' h'' =>
      h''.row_rd (i := M'.length) (by rw [List.getElem?_append_right (Nat.le_refl _), Nat.sub_self]; rfl)
    refine idxS outC_len (noId, 0) (rr M H' h') (by omega) (by omega) (by omega) fun b o hp hlz _ => hQ _ fun M' H'' h'' => ?_
    have ga : ∀ q, q < 3 → hcell H'' ⟨b, o + (y : Int).toNat * 3 + q, none⟩ = (outC e)[q]? := fun q hq => by
      have := (rr M' H'' h'').cel_at' outC_len (noId, 0) (i := (y : Int).toNat) hp hlz hq
      rw [this, List.getD_eq_getElem?_getD, List.getElem?_eq_getElem hlz]
      simp only [Int.toNat_natCast, Option.getD_some, ← he]
    exact ⟨ga 0 (by omega), ga 1 (by omega), ga 2 (by omega)⟩
  obtain ⟨LL, hLL⟩ : ∃ LL, LL = Prt.row 2 fP l'.length fC (cel Id.cells l') :: Prt.row 3 oq O.length oc' (cel outC O) :: Prt.row 1 q0 (t + 1) (t + 1) (l0.map Value.bool) :: Prt.one b14 (.cells #[.slice rp rl rc, .slice op ol oc, .slice ip il ic] ty_hand_Graph (0, 0)) :: L := ⟨_, rfl⟩
  -- is it led to?
  refine ⟨fun found m H' => ∃ z : Nat, m = ((z + 1 : Nat) : Int) ∧ z ≤ t ∧ (found = true → ∃ k, Sr s p u a k ∧ e.1 ∈ rcRefs s k) ∧ (∀ k : Nat, k < z → Sr s p u a ((k : Int) + 1) → e.1 ∈ grRefs g t k → found = true) ∧ St H0 LL H', fun _ m _ => ((t : Int) + 1 - m).toNat,
    ⟨0, rfl, by omega, fun h => (by cases h), fun k hk => absurd hk (Nat.not_lt_zero _), by rw [hLL]; exact h5⟩, ?_⟩
  rintro found m H6 ⟨z, rfl, hz, hf1, hf2, h6⟩
  by_cases hcz : ((z + 1 : Nat) : Int) ≤ t
  rotate_left
  · obtain rfl : z = t := by omega
    refine bif_neg hcz ?_
    have hlead : leadF s p u a e = true ↔ found = true ∧ u < e.2 := by
      rw [leadF_iff]
      refine and_congr_left fun _ => ⟨fun ⟨k, k1, k2⟩ => ?_, hf1⟩
      have hk := hs.has.1 (sr_has hs.ok hasA k1)
      have hr := hrefs (k.toNat - 1) (by omega)
      rw [show ((k.toNat - 1 : Nat) : Int) + 1 = k by omega] at hr
      exact hf2 (k.toNat - 1) (by omega) (by rw [show ((k.toNat - 1 : Nat) : Int) + 1 = k by omega]; exact k1) (by rw [← hr]; exact k2)
    rw [hLL] at h6
    have no : ¬ leadF s p u a e = true → R92 fP l'.length fC H6 := fun hno => hR92 l' fP fC H6 (by rw [htk, if_neg hno, List.append_nil]) h6
    cases found
    · simp only [condF]
      exact no fun hh => by cases (hlead.1 hh).1
    · simp only [condT]
      refine outAt (M := [_]) h6 fun b hb => ldI_of (hb [_] H6 h6).2.2 ?_
      by_cases hgt : e.2 > u
      rotate_left
      · exact bif_neg hgt (no fun hh => hgt (hlead.1 hh).2)
      refine bif_pos hgt (outAt (M := [_]) h6 fun b hb => ldI_of (hb [_] H6 h6).1 (ldI_of (hb [_] H6 h6).2.1 ?_))
      have hll : l'.length ≤ 800000 := by
        rw [hl', List.length_map]
        have := List.length_filter_le (leadF s p u a) (O.take y)
        rw [List.length_take] at this
        omega
      refine lit_ty_Sapi_ID (m := 1) (c := #[.int .i64 e.1.n, .int .u64 e.1.s]) (h6.row_own (i := 0) rfl) rfl (fun z hz => by simp at hz; rcases hz with rfl | rfl <;> rfl) (by omega) fun p' cap' H7 ho' hg' => ?_
      simp only [asI_mk', asB_mk, asP_mk, asA_mk, asM_mk, asSl_mk, asStr_mk, tup2_mk, tup3_mk, agg1_mk, agg2_mk, agg3_mk, agg4_mk, asAggm, unCons_mk, unNil_mk, asTup_mk, extractD0, extractD1, List.toList_toArray, nilP_mk, add_mk, Nat.zero_add, Nat.add_zero, condT, condF, Bool.not_true, Bool.not_false, Option.isNone_some, Option.isNone_none]
      have h7 := h6.row_to (i := 0) rfl ho' hg'
      have e1 : cel Id.cells l' ++ (#[Value.int .i64 e.1.n, .int .u64 e.1.s] : Array Value).toList = cel Id.cells (l' ++ [e.1]) := by
        rw [cel_append]
        rfl
      rw [e1, show l'.length + 1 = (l' ++ [e.1]).length by simp] at h7
      rw [show l'.length + 1 = (l' ++ [e.1]).length by simp]
      exact hR92 _ p' cap' H7 (by rw [htk, if_pos (hlead.2 ⟨rfl, hgt⟩)]) h7
  refine bif_pos hcz ?_
  have hzn : z < t := by omega
  intro R102 hR102
  have hR102 : ∀ found H', (found = true → ∃ k, Sr s p u a k ∧ e.1 ∈ rcRefs s k) → (∀ k : Nat, k < z + 1 → Sr s p u a ((k : Int) + 1) → e.1 ∈ grRefs g t k → found = true) → St H0 LL H' → R102 found H' := fun found H' h1 h2 h' => by
    refine hR102 _ H' ?_
    rw [wrap_i64 (by omega) (by omega)]
    exact ⟨⟨z + 1, by omega, by omega, h1, h2, h'⟩, by (try dsimp only); omega⟩
  refine ⟨fun found m H' => ∃ w : Nat, m = w ∧ w ≤ 7 ∧ (found = true → ∃ k, Sr s p u a k ∧ e.1 ∈ rcRefs s k) ∧ (∀ k : Nat, k < z → Sr s p u a ((k : Int) + 1) → e.1 ∈ grRefs g t k → found = true) ∧ (Sr s p u a ((z : Int) + 1) → ∀ w', w' < w → grTarget g t z w' = e.1 → found = true) ∧ St H0 LL H', fun _ m _ => (8 - m).toNat,
    ⟨0, rfl, by omega, hf1, hf2, fun _ w' hw' => absurd hw' (Nat.not_lt_zero _), h6⟩, ?_⟩
  clear h6 hf1 hf2
  rintro found m H7 ⟨w, rfl, hw, hf1, hf2, hf3, h7⟩
  rw [hLL] at h7
  have fin : (Sr s p u a ((z : Int) + 1) → ∀ w', w' < grDeg g z → grTarget g t z w' = e.1 → found = true) → R102 found H7 := fun hh => hR102 found H7 hf1 (fun k hk hk1 hk2 => by
    by_cases ek : k = z
    · subst ek
      obtain ⟨w', h1, h2⟩ := grRefs_of hk2
      exact hh hk1 w' h1 h2.symm
    · exact hf2 k (by omega) hk1 hk2) (by rw [hLL]; exact h7)
  refine h7.idxW (i := 2) false rfl (by omega) (by omega) fun _ hca _ => ldB_of hca ?_
  have hallz := hall ((z + 1 : Nat) : Int) (by omega)
  cases hb : l0.getD ((z + 1 : Nat) : Int).toNat false
  · simp only [condF]
    refine fin fun hh => ?_
    rw [show ((z : Int) + 1) = ((z + 1 : Nat) : Int) by omega] at hh
    rw [hallz.2 hh] at hb
    cases hb
  have hsr : Sr s p u a ((z : Int) + 1) := by
    rw [show ((z : Int) + 1) = ((z + 1 : Nat) : Int) by omega]
    exact hallz.1 hb
  simp only [condT]
  refine ldSl_of (h7.cell (i := 3) rfl rfl) ?_
  have w3 : IntKind.i64.wrap (((z + 1 : Nat) : Int) - 1) = (z : Int) := by rw [wrap_i64 (by omega) (by omega)]; omega
  rw [w3]
  have all : grDeg g z ≤ w → R102 found H7 := fun hw' => fin fun hh w' h1 h2 => hf3 hh w' (by omega) h2
  refine (ga.st h7).row (i := z) (by omega) fun _ q c' ha' hrow => ldSl_of ha' ?_
  by_cases hwl : (w : Int) < (((g.refs.getD z []).length : Nat) : Int)
  rotate_left
  · exact bif_neg hwl (all (by have := grDeg_le (g := g) (i := z); omega))
  refine bif_pos hwl ?_
  by_cases hw7 : (w : Int) < 7
  rotate_left
  · exact bif_neg hw7 (all (by have := grDeg_le (g := g) (i := z); omega))
  have hwd : w < grDeg g z := by unfold grDeg; split <;> omega
  refine bif_pos hw7 ?_
  clear fin all
  intro R119 hR119
  have hR119 : ∀ found H', (found = true → ∃ k, Sr s p u a k ∧ e.1 ∈ rcRefs s k) → (∀ k : Nat, k < z → Sr s p u a ((k : Int) + 1) → e.1 ∈ grRefs g t k → found = true) → (∀ w', w' < w + 1 → grTarget g t z w' = e.1 → found = true) → St H0 LL H' → R119 found H' := fun found H' h1 h2 h3 h' => by
    refine hR119 _ H' ?_
    rw [wrap_i64 (by omega) (by omega)]
    exact ⟨⟨w + 1, by omega, by omega, h1, h2, fun _ => h3, h'⟩, by (try dsimp only); omega⟩
  cases hfd : found
  rotate_left
  · simp only [condT]
    exact hR119 true H7 (fun _ => hf1 hfd) (fun _ _ _ _ => rfl) (fun _ _ _ => rfl) (by rw [hLL]; exact h7)
  simp only [condF]
  refine ldSl_of (h7.cell (i := 3) rfl rfl) (ldSl_of (h7.cell (i := 3) rfl rfl) (ldSl_of (h7.cell (i := 3) rfl rfl) ?_))
  refine outAt (M := [_]) h7 fun b13 hb13 => ldI_of (hb13 [_] H7 h7).1 (ldI_of (hb13 [_] H7 h7).2.1 ?_)
  refine TargetC h7 ga gok (by omega) (by omega) (by omega) (by omega) (by omega) fun H8 h8 => ?_
  simp only [asI_mk', asB_mk, asP_mk, asA_mk, asM_mk, asSl_mk, asStr_mk, tup2_mk, tup3_mk, agg1_mk, agg2_mk, agg3_mk, agg4_mk, asAggm, unCons_mk, unNil_mk, asTup_mk, extractD0, extractD1, List.toList_toArray, nilP_mk, add_mk, Nat.zero_add, Nat.add_zero, condT, condF, Bool.not_true, Bool.not_false, Option.isNone_some, Option.isNone_none]
  refine ⟨ldI_of (hb13 [_] H8 h8).1 (ldI_of (hb13 [_] H8 h8).2.1 rfl), idEq ?_⟩
  simp only [asI_mk', asB_mk, asP_mk, asA_mk, asM_mk, asSl_mk, asStr_mk, tup2_mk, tup3_mk, agg1_mk, agg2_mk, agg3_mk, agg4_mk, asAggm, unCons_mk, unNil_mk, asTup_mk, extractD0, extractD1, List.toList_toArray, nilP_mk, add_mk, Nat.zero_add, Nat.add_zero, condT, condF, Bool.not_true, Bool.not_false, Option.isNone_some, Option.isNone_none]
  have hz' : rcRefs s ((z : Int) + 1) = grRefs g t z := hrefs z hzn
  by_cases hx : grTarget g t z w = e.1
  · have hx' : (⟨(grTarget g t z w).n, (grTarget g t z w).s⟩ : Id) = ⟨e.1.n, e.1.s⟩ := by rw [hx]
    rw [decide_eq_true hx']
    exact hR119 true H8 (fun _ => ⟨(z : Int) + 1, hsr, by rw [hz', ← hx]; exact grRefs_mem hwd⟩) (fun _ _ _ _ => rfl) (fun _ _ _ => rfl) (by rw [hLL]; exact h8)
  · have hx' : ¬ (⟨(grTarget g t z w).n, (grTarget g t z w).s⟩ : Id) = ⟨e.1.n, e.1.s⟩ := fun h => hx (Id.ext (congrArg Id.n h) (congrArg Id.s h))
    rw [decide_eq_false hx']
    refine hR119 false H8 (fun h => by cases h) (fun k k1 k2 k3 => by rw [← hfd]; exact hf2 k k1 k2 k3) (fun w' h1 h2 => ?_) (by rw [hLL]; exact h8)
    by_cases ew : w' = w
    · subst ew; exact absurd h2 hx
    · rw [← hfd]; exact hf3 hsr w' (by omega) h2
end
/-- Where a head's row stands. -/
theorem RcTold.at {s : Hs} {p : Ps} {u : Int} {rows : List (Int × List Id)} (h : RcTold s p u rows) {y : Nat} {o : Ob} (hy : s.obs[y]? = some o) (hh : rcHead s p u o = true) :
    ∃ r, rows[((s.obs.take y).filter (rcHead s p u)).length]? = some r ∧ r.1 = o.ser ∧ RowOk s p u r := by
  have hyl := ltOfGet hy
  have e : s.obs = s.obs.take y ++ o :: s.obs.drop (y + 1) := by
    rw [List.getElem?_eq_getElem hyl] at hy
    cases hy
    rw [List.getElem_cons_drop, List.take_append_drop]
  have e3 : s.obs.filter (rcHead s p u) = (s.obs.take y).filter (rcHead s p u) ++ o :: (s.obs.drop (y + 1)).filter (rcHead s p u) := by
    calc s.obs.filter (rcHead s p u) = (s.obs.take y ++ o :: s.obs.drop (y + 1)).filter (rcHead s p u) := by rw [← e]
      _ = _ := by rw [List.filter_append, List.filter_cons, if_pos hh]
  have e2 : (s.obs.filter (rcHead s p u)).map (·.ser) = ((s.obs.take y).filter (rcHead s p u)).map (·.ser) ++ o.ser :: ((s.obs.drop (y + 1)).filter (rcHead s p u)).map (·.ser) := by
    rw [e3]; simp
  have h1 : (rows.map (·.1))[((s.obs.take y).filter (rcHead s p u)).length]? = some o.ser := by
    rw [h.heads, e2, List.getElem?_append_right (by simp)]
    simp
  rw [List.getElem?_map] at h1
  cases hr : rows[((s.obs.take y).filter (rcHead s p u)).length]? with
  | none => rw [hr] at h1; cases h1
  | some r =>
    rw [hr] at h1
    exact ⟨r, rfl, by simpa using h1, h.rows r (List.mem_of_getElem? hr)⟩

theorem heads_next {s : Hs} {h : Ob → Bool} {y : Nat} {o : Ob} (hy : s.obs[y]? = some o) : ((s.obs.take (y + 1)).filter h).length = ((s.obs.take y).filter h).length + if h o = true then 1 else 0 := by
  rw [List.take_add_one, hy, List.filter_append, List.length_append]
  simp only [Option.toList_some]
  by_cases hh : h o = true
  · rw [if_pos hh, List.filter_cons_of_pos hh]; rfl
  · rw [if_neg hh, List.filter_cons_of_neg hh]; rfl

set_option maxRecDepth 20000 in
theorem ReachRows_ok {rp op ip : Option Addr} {rl rc ol oc il ic : Nat} {g : Gr} {lP : Option Addr} {lL lC : Nat} {l : List E_law14_Way} {sus : Int} {H : Hp} {K : Value → Hp → Prop} (ga : GrA H rp rl op ol ip il g) (gok : g.ok)
    (hr : Rd H 5 lP lL (cel E_law14_Way.cells l)) (hl : lL ≤ 9223372036854775807) (hok : ∀ x ∈ l, x.ok) (hsu : IntKind.min .i64 ≤ sus ∧ sus ≤ IntKind.max .i64) (hK : ∀ H', Keep Nothing H H' → K (.bool true) H') :
    hcall PR f_law14_ReachRows ⟨[.agg #[.slice rp rl rc, .slice op ol oc, .slice ip il ic], .slice lP lL lC, .int .i64 sus]⟩ H K := by
  apply den_law14_ReachRows
  unfold B_law14_ReachRows
  intro b14 hb14
  have h1 := (St.start H).alloc (o := .cells #[.slice rp rl rc, .slice op ol oc, .slice ip il ic] ty_hand_Graph) hb14
  refine ldSl_of (h1.cell (i := 0) rfl rfl) (ldSl_of (h1.cell (i := 0) rfl rfl) (ldSl_of (h1.cell (i := 0) rfl rfl) ?_))
  refine HeapsC (most := 25) (ga.st h1) gok (by omega) fun hb rb s H2 hs h2 => ?_
  have h2 := h1.join h2
  have hn : grSize g 25 ≤ 25 ∧ grSize g 25 ≤ g.refs.length := by unfold grSize; split <;> omega
  generalize grSize g 25 = n at *
  simp only [asI_mk', asB_mk, asP_mk, asA_mk, asM_mk, asSl_mk, asStr_mk, tup2_mk, tup3_mk, agg1_mk, agg2_mk, agg3_mk, agg4_mk, asAggm, unCons_mk, unNil_mk, asTup_mk, extractD0, extractD1, List.toList_toArray, nilP_mk, add_mk, Nat.zero_add, Nat.add_zero, condT, condF, Bool.not_true, Bool.not_false, Option.isNone_some, Option.isNone_none]
  refine known14_ok h2 fun H3 h3 => ?_
  simp only [asI_mk', asB_mk, asP_mk, asA_mk, asM_mk, asSl_mk, asStr_mk, tup2_mk, tup3_mk, agg1_mk, agg2_mk, agg3_mk, agg4_mk, asAggm, unCons_mk, unNil_mk, asTup_mk, extractD0, extractD1, List.toList_toArray, nilP_mk, add_mk, Nat.zero_add, Nat.add_zero, condT, condF, Bool.not_true, Bool.not_false, Option.isNone_some, Option.isNone_none]
  have hsl := hs.last
  refine paintedC h3 (i := 0) (j := 1) rfl rfl (by omega) hr hl hok fun pb qb p H4 hlt hfar h4 => ?_
  simp only [asI_mk', asB_mk, asP_mk, asA_mk, asM_mk, asSl_mk, asStr_mk, tup2_mk, tup3_mk, agg1_mk, agg2_mk, agg3_mk, agg4_mk, asAggm, unCons_mk, unNil_mk, asTup_mk, extractD0, extractD1, List.toList_toArray, nilP_mk, add_mk, Nat.zero_add, Nat.add_zero, condT, condF, Bool.not_true, Bool.not_false, Option.isNone_some, Option.isNone_none]
  refine rcNewC (hb := hb) (pb := pb) h4.flip fun rb' H5 h5 => ?_
  simp only [asI_mk', asB_mk, asP_mk, asA_mk, asM_mk, asSl_mk, asStr_mk, tup2_mk, tup3_mk, agg1_mk, agg2_mk, agg3_mk, agg4_mk, asAggm, unCons_mk, unNil_mk, asTup_mk, extractD0, extractD1, List.toList_toArray, nilP_mk, add_mk, Nat.zero_add, Nat.add_zero, condT, condF, Bool.not_true, Bool.not_false, Option.isNone_some, Option.isNone_none]
  refine bif_neqf rfl ?_
  (try simp only [Option.isNone_some, condF])
  refine Pick_ok (by omega) (by omega) ?_
  have p9 := pick_lt (n := sus) (m := 9) (by omega)
  generalize pick sus 9 = u at *
  simp only [asI_mk', asB_mk, asP_mk, asA_mk, asM_mk, asSl_mk, asStr_mk, tup2_mk, tup3_mk, agg1_mk, agg2_mk, agg3_mk, agg4_mk, asAggm, unCons_mk, unNil_mk, asTup_mk, extractD0, extractD1, List.toList_toArray, nilP_mk, add_mk, Nat.zero_add, Nat.add_zero, condT, condF, Bool.not_true, Bool.not_false, Option.isNone_some, Option.isNone_none]
  refine rcBeginC h5 (k := 0) rfl fun H6 h6 => ?_
  obtain ⟨LL, hLL⟩ : ∃ LL : Rc → List Prt, ∀ c, LL c = [RcP rb' hb pb c, PaintP pb hb p, RPaint qb rb p, HeapP hb s, RHeap rb s, Prt.one b14 (.cells #[.slice rp rl rc, .slice op ol oc, .slice ip il ic] ty_hand_Graph (0, 0))] := ⟨_, fun _ => rfl⟩
  have h6 : St H (LL (rcNew u)) H6 := by rw [hLL]; exact h6
  have l0 : ∀ c, (LL c)[0]? = some (RcP rb' hb pb c) := fun c => by rw [hLL]; rfl
  have l1 : ∀ c, (LL c)[1]? = some (PaintP pb hb p) := fun c => by rw [hLL]; rfl
  have l2 : ∀ c, (LL c)[2]? = some (RPaint qb rb p) := fun c => by rw [hLL]; rfl
  have l3 : ∀ c, (LL c)[3]? = some (HeapP hb s) := fun c => by rw [hLL]; rfl
  have l4 : ∀ c, (LL c)[4]? = some (RHeap rb s) := fun c => by rw [hLL]; rfl
  have l5 : ∀ c, (LL c)[5]? = some (Prt.one b14 (.cells #[.slice rp rl rc, .slice op ol oc, .slice ip il ic] ty_hand_Graph (0, 0))) := fun c => by rw [hLL]; rfl
  have lset : ∀ c c', (LL c).set 0 (RcP rb' hb pb c') = LL c' := fun c c' => by rw [hLL, hLL]; rfl
  clear h1 h2 h3 h4 h5 hLL
  obtain ⟨y1, N1, g1, _, _⟩ := rheapOpenL (i := 4) h6 (l4 _) (.inl rfl)
  (try simp only [asI_mk', asB_mk, asP_mk, asA_mk, asM_mk, asSl_mk, asStr_mk, tup2_mk, tup3_mk, agg1_mk, agg2_mk, agg3_mk, agg4_mk, asAggm, unCons_mk, unNil_mk, asTup_mk, extractD0, extractD1, List.toList_toArray, nilP_mk, add_mk, Nat.zero_add, Nat.add_zero, condT, condF, Bool.not_true, Bool.not_false, Option.isNone_some, Option.isNone_none])
  refine ldI_of (rheapV g1).last ?_
  rw [hsl]
  clear g1
  have w0 : IntKind.i64.wrap (n : Int) = n := wrap_i64 (by omega) (by omega)
  have w2 : IntKind.i64.wrap ((n : Int) + 2) = ((n + 2 : Nat) : Int) := by rw [wrap_i64 (by omega) (by omega)]; omega
  have m2 : ((n + 2 : Nat) : Int) * ((n + 2 : Nat) : Int) = (((n + 2) * (n + 2) : Nat) : Int) := by rw [← Int.natCast_mul]
  have b2 : (n + 2) * (n + 2) ≤ 27 * 27 := Nat.mul_le_mul (by omega) (by omega)
  have b3 : n * (n + 2) + 4 ≤ (n + 2) * (n + 2) := by
    rw [Nat.mul_add, Nat.add_mul, Nat.mul_add]; omega
  have v2 : IntKind.i64.wrap (((n + 2) * (n + 2) : Nat) : Int) = (((n + 2) * (n + 2) : Nat) : Int) := wrap_i64 (by omega) (by omega)
  simp only [w0, w2, m2, v2]
  have hp := paint_ok h6 (l1 _)
  have b5 : n * (n + 2) ≤ 25 * 27 := Nat.mul_le_mul (by omega) (by omega)
  generalize (n + 2) * (n + 2) = B at *
  intro R53 hR53
  have hR53 : ∀ (c : Rc) H', c.lt 10000 → c.suspect = u → RcInv s p c → (rcStep s p c).1 = false → St H (LL c) H' → R53 H' := fun c H7 hcl hcu hinv he h7 => by
    refine hR53 H7 ?_
    clear hR53 h6
    have told := hinv.told hs.ok he
    rw [hcu] at told
    refine rcRowsC h7 (l0 c) (hcl.mono (by omega)) fun q cp H8 h8 => ?_
    have hrl := hcl.rows
    obtain ⟨qs, h8⟩ := h8.openEx (i := 0) rfl
    have hqs := h8.fact (i := 2) (p := qs.map (·.1) = c.rows) rfl
    have h8 := St.lesses (M := [_, _]) (h8.pick 4 [2, 3, 0, 1] rfl rfl)
    obtain ⟨R1, hR1⟩ : ∃ R1, R1 = Prt.row 2 q qs.length cp (cel rcRowC qs) := ⟨_, rfl⟩
    obtain ⟨R2, hR2⟩ : ∃ R2, R2 = Prt.list (qs.map rcRowP) := ⟨_, rfl⟩
    have h8 : St H (R1 :: R2 :: LL c) H8 := by rw [hR1, hR2]; exact h8
    have view : ∀ (M : List Prt) H', St H (M ++ (R1 :: R2 :: LL c)) H' → RowsV H' q c.rows qs := fun M H' h' =>
      ⟨hqs, h'.row_rd (i := M.length) (cap := cp) (by rw [List.getElem?_append_right (Nat.le_refl _), Nat.sub_self, hR1]; rfl), rowsRd h' (i := M.length + 1) (by rw [List.getElem?_append_right (by omega), Nat.add_sub_cancel_left, hR2]; rfl)⟩
    have hql : qs.length = c.rows.length := by rw [← hqs, List.length_map]
    clear hR1 hR2
    simp only [asI_mk', asB_mk, asP_mk, asA_mk, asM_mk, asSl_mk, asStr_mk, tup2_mk, tup3_mk, agg1_mk, agg2_mk, agg3_mk, agg4_mk, asAggm, unCons_mk, unNil_mk, asTup_mk, extractD0, extractD1, List.toList_toArray, nilP_mk, add_mk, Nat.zero_add, Nat.add_zero, condT, condF, Bool.not_true, Bool.not_false, Option.isNone_some, Option.isNone_none]
    have hlenF : c.rows.length = (s.obs.filter (rcHead s p u)).length := by
      have := congrArg List.length told.heads
      simpa using this
    refine ⟨fun atx i H' => ∃ y : Nat, i = ((y + 1 : Nat) : Int) ∧ y ≤ n ∧ atx = (((s.obs.take y).filter (rcHead s p u)).length : Nat) ∧ St H (R1 :: R2 :: LL c) H', fun _ i _ => ((n : Int) + 1 - i).toNat, ⟨0, rfl, by omega, by simp, h8⟩, ?_⟩
    clear h8 h7
    rintro atx i H9 ⟨y, rfl, hy, rfl, h9⟩
    by_cases hc : ((y + 1 : Nat) : Int) ≤ n
    rotate_left
    · obtain rfl : y = n := by omega
      refine bif_neg hc ?_
      rw [List.take_of_length_le (by rw [hs.len]; exact Nat.le_refl _), hlenF]
      refine bif_eq rfl (rcStepC h9 (i := 5) (j := 3) (k := 2) (l3 c) (l1 c) (l0 c) (by decide) (by decide) (by decide) (hcl.mono (by omega)) fun H10 h10 => ?_)
      rw [he]
      simp only [asI_mk', asB_mk, asP_mk, asA_mk, asM_mk, asSl_mk, asStr_mk, tup2_mk, tup3_mk, agg1_mk, agg2_mk, agg3_mk, agg4_mk, asAggm, unCons_mk, unNil_mk, asTup_mk, extractD0, extractD1, List.toList_toArray, nilP_mk, add_mk, Nat.zero_add, Nat.add_zero, condT, condF, Bool.not_true, Bool.not_false, Option.isNone_some, Option.isNone_none]
      exact hK H10 h10.keep
    refine bif_pos hc ?_
    have hyn : y < n := by omega
    obtain ⟨cc, ho⟩ := hs.obs y hyn
    obtain ⟨o, hoe⟩ : ∃ o, o = (⟨(y : Int) + 1, cc, grRefs g n y, [], grDist g y⟩ : Ob) := ⟨_, rfl⟩
    rw [← hoe] at ho
    have hser : o.ser = (y : Int) + 1 := by rw [hoe]
    have hdin : o.din = grDist g y := by rw [hoe]
    intro R65 hR65
    have hR65 : ∀ at' H', at' = (((s.obs.take (y + 1)).filter (rcHead s p u)).length : Nat) → St H (R1 :: R2 :: LL c) H' → R65 (at' : Int) H' := fun at' H' ha h' => by
      refine hR65 _ H' ?_
      rw [wrap_i64 (by omega) (by omega)]
      exact ⟨⟨y + 1, by omega, by omega, by omega, h'⟩, by (try dsimp only); omega⟩
    have hnx := heads_next (h := rcHead s p u) ho
    have skip : ∀ H', ¬ rcHead s p u o = true → St H (R1 :: R2 :: LL c) H' → R65 (((s.obs.take y).filter (rcHead s p u)).length : Nat) H' := fun H' hno h' => hR65 _ H' (by rw [hnx, if_neg hno]; rfl) h'
    have hhead : rcHead s p u o = (decide (0 < grDist g y) && ((pMark s p ((y + 1 : Nat) : Int)).2.2 && decide (u < (pMark s p ((y + 1 : Nat) : Int)).1))) := by
      unfold rcHead rcOwn
      rw [hdin, hser]
      rfl
    have v1 : IntKind.u64.wrap ((y + 1 : Nat) : Int) = ((y + 1 : Nat) : Int) := wrap_u64' (by omega) (by omega)
    have v3 : IntKind.i64.wrap (((y + 1 : Nat) : Int) - 1) = (y : Int) := by rw [wrap_i64 (by omega) (by omega)]; omega
    rw [v1, v3]
    refine rMarkC h9 (i := 6) (j := 4) (l4 c) (l2 c) (by decide) (hlt.mono (by omega)) ?_
    simp only [asI_mk', asB_mk, asP_mk, asA_mk, asM_mk, asSl_mk, asStr_mk, tup2_mk, tup3_mk, agg1_mk, agg2_mk, agg3_mk, agg4_mk, asAggm, unCons_mk, unNil_mk, asTup_mk, extractD0, extractD1, List.toList_toArray, nilP_mk, add_mk, Nat.zero_add, Nat.add_zero, condT, condF, Bool.not_true, Bool.not_false, Option.isNone_some, Option.isNone_none]
    refine ldSl_of (h9.cell (i := 7) (l5 c) rfl) (ldSl_of (h9.cell (i := 7) (l5 c) rfl) (ldSl_of (h9.cell (i := 7) (l5 c) rfl) ?_))
    refine DistC h9 ga gok (by omega) fun H10 h10 => ?_
    simp only [asI_mk', asB_mk, asP_mk, asA_mk, asM_mk, asSl_mk, asStr_mk, tup2_mk, tup3_mk, agg1_mk, agg2_mk, agg3_mk, agg4_mk, asAggm, unCons_mk, unNil_mk, asTup_mk, extractD0, extractD1, List.toList_toArray, nilP_mk, add_mk, Nat.zero_add, Nat.add_zero, condT, condF, Bool.not_true, Bool.not_false, Option.isNone_some, Option.isNone_none]
    have hd0 := grDist_ok (g := g) (i := y)
    by_cases hd : grDist g y = 0
    · refine bif_eq hd (skip H10 (fun hh => ?_) h10)
      rw [hhead, hd] at hh
      simp at hh
    refine bif_ne hd ?_
    cases hm : (pMark s p ((y + 1 : Nat) : Int)).2.2
    · simp only [Bool.not_false, condT]
      refine skip H10 (fun hh => ?_) h10
      rw [hhead, hm] at hh
      simp at hh
    simp only [Bool.not_true, condF]
    by_cases hle : (pMark s p ((y + 1 : Nat) : Int)).1 ≤ u
    · refine bif_pos hle (skip H10 (fun hh => ?_) h10)
      rw [hhead, Bool.and_eq_true, Bool.and_eq_true, decide_eq_true_iff, decide_eq_true_iff] at hh
      omega
    refine bif_neg hle ?_
    have hhd : rcHead s p u o = true := by
      rw [hhead, hm, Bool.true_and, Bool.and_eq_true, decide_eq_true_iff, decide_eq_true_iff]
      omega
    obtain ⟨r, hr1, hr2, hr3⟩ := told.at ho hhd
    have hat := ltOfGet hr1
    obtain ⟨k, hk⟩ : ∃ k, k = ((s.obs.take y).filter (rcHead s p u)).length := ⟨_, rfl⟩
    rw [← hk] at hr1 hat hnx ⊢
    refine bif_neg (by omega) ?_
    have hqk : ∃ z, qs[k]? = some z ∧ z.1 = r := by
      have : (qs.map (·.1))[k]? = some r := by rw [hqs]; exact hr1
      rw [List.getElem?_map] at this
      cases hz : qs[k]? with
      | none => rw [hz] at this; cases this
      | some z => rw [hz] at this; exact ⟨z, rfl, by simpa using this⟩
    obtain ⟨z, hz1, hz2⟩ := hqk
    have rowAt : ∀ (M : List Prt) H' (Q : Addr → Prop), St H (M ++ (R1 :: R2 :: LL c)) H' → (∀ a, hcell H' a = some (.int .u64 r.1) → (∀ (M' : List Prt) H'', St H (M' ++ (R1 :: R2 :: LL c)) H'' → hcell H'' (a.add 1) = some (.slice z.2.1 r.2.length z.2.2)) → Q a) → idxA q c.rows.length (k : Int) 2 Q := fun M H' Q h' hQ => by
      have vv := view M H' h'
      rw [← hql]
      refine idxS rcRowC_len ((0, []), (none, 0)) vv.2.1 (by omega) (by omega) (by omega) fun b o hp hl hcs => ?_
      have hgd : qs.getD ((k : Nat) : Int).toNat ((0, []), (none, 0)) = z := by rw [Int.toNat_natCast, List.getD_eq_getElem?_getD, hz1]; rfl
      have g0 := hcs 0 (by omega)
      rw [hgd] at g0
      simp only [rcRowC, hz2] at g0
      refine hQ _ g0 fun M' H'' h'' => ?_
      have := (view M' H'' h'').2.1.cel_at' rcRowC_len ((0, []), (none, 0)) (i := ((k : Nat) : Int).toNat) (j := 1) hp hl (by omega)
      rw [hgd] at this
      simp only [rcRowC, hz2] at this
      exact this
    refine rowAt [] H10 _ h10 fun a c0 _ => ldI_of c0 (bif_neqf (by omega) ?_)
    refine rowAt [] H10 _ h10 fun a _ c1 => ldSl_of (c1 [] H10 h10) ?_
    refine ldSl_of (h10.cell (i := 7) (l5 c) rfl) (ldSl_of (h10.cell (i := 7) (l5 c) rfl) (ldSl_of (h10.cell (i := 7) (l5 c) rfl) ?_))
    refine leadsC (i := 6) (j := 4) h10 ga gok hs (by omega) (l4 c) (l2 c) (by decide) (hlt.mono (by omega)) (a := ((y + 1 : Nat) : Int)) (u := u) ⟨by omega, hc⟩ fun lq lc H11 h11 => ?_
    simp only [asI_mk', asB_mk, asP_mk, asA_mk, asM_mk, asSl_mk, asStr_mk, tup2_mk, tup3_mk, agg1_mk, agg2_mk, agg3_mk, agg4_mk, asAggm, unCons_mk, unNil_mk, asTup_mk, extractD0, extractD1, List.toList_toArray, nilP_mk, add_mk, Nat.zero_add, Nat.add_zero, condT, condF, Bool.not_true, Bool.not_false, Option.isNone_some, Option.isNone_none]
    have hsame : r = (((y + 1 : Nat) : Int), ((outsOf p).filter (leadF s p u ((y + 1 : Nat) : Int))).map (·.1)) := by
      obtain ⟨k1, k2⟩ := lead_row (s := s) (p := p) (u := u) (a := ((y + 1 : Nat) : Int)) hp hfar
      refine hr3.unique ⟨⟨(outsOf p).filter (leadF s p u ((y + 1 : Nat) : Int)), ?_, rfl⟩, k2⟩ (by rw [hr2, hser]; rfl)
      exact List.Pairwise.filter _ (outsOf_ok hp).1
    have hz : Rd H11 2 z.2.1 r.2.length (cel Id.cells r.2) := by
      have := (view [_] H11 h11).2.2 z (List.mem_of_getElem? hz1)
      rw [hz2] at this
      exact this
    have hlr := h11.row_rd (i := 0) rfl
    have hrl2 : r.2.length ≤ 10000 := hcl.outs r (List.mem_of_getElem? hr1)
    refine ⟨ldSl_of (c1 [_] H11 h11) rfl, ?_⟩
    generalize hm : ((outsOf p).filter (leadF s p u ((y + 1 : Nat) : Int))).map (·.1) = lead at hlr h11 hsame ⊢
    rw [hsame] at hz hrl2 ⊢
    refine ids_same hz hlr (by simp only at hrl2 ⊢; omega) ?_
    simp only [asI_mk', asB_mk, asP_mk, asA_mk, asM_mk, asSl_mk, asStr_mk, tup2_mk, tup3_mk, agg1_mk, agg2_mk, agg3_mk, agg4_mk, asAggm, unCons_mk, unNil_mk, asTup_mk, extractD0, extractD1, List.toList_toArray, nilP_mk, add_mk, Nat.zero_add, Nat.add_zero, condT, condF, Bool.not_true, Bool.not_false, Option.isNone_some, Option.isNone_none]
    have w5 : IntKind.i64.wrap ((k : Int) + 1) = ((k + 1 : Nat) : Int) := by rw [wrap_i64 (by omega) (by omega)]; omega
    rw [w5]
    exact hR65 (k + 1) H11 (by rw [hnx, if_pos hhd]) h11.less
  refine ⟨fun k H' => ∃ (y : Nat) (c : Rc), k = y ∧ y + rcLeft n c ≤ n * (n + 2) ∧ c.lt (7 * y) ∧ c.within s ∧ c.suspect = u ∧ RcInv s p c ∧ St H (LL c) H', fun k _ => ((B : Int) + 1 - k).toNat,
    ⟨0, rcNew u, rfl, by rw [rcLeft_new]; omega, rcNew_lt, fun w hw => (by cases hw), rfl, RcInv.new hs.ok, h6⟩, ?_⟩
  clear h6
  rintro k H7 ⟨y, c, rfl, hy, hcl, hwi, hcu, hinv, h7⟩
  refine bif_pos (by omega) (rcStepC h7 (i := 3) (j := 1) (k := 0) (l3 c) (l1 c) (l0 c) (by decide) (by decide) (by decide) (hcl.mono (by omega)) fun H8 h8 => ?_)
  have hc := rc_ok h7 (l0 c)
  rw [lset] at h8
  simp only [asI_mk', asB_mk, asP_mk, asA_mk, asM_mk, asSl_mk, asStr_mk, tup2_mk, tup3_mk, agg1_mk, agg2_mk, agg3_mk, agg4_mk, asAggm, unCons_mk, unNil_mk, asTup_mk, extractD0, extractD1, List.toList_toArray, nilP_mk, add_mk, Nat.zero_add, Nat.add_zero, condT, condF, Bool.not_true, Bool.not_false, Option.isNone_some, Option.isNone_none]
  cases hst : (rcStep s p c).1
  · simp only [condF]
    refine hR53 c H8 (hcl.mono (by omega)) hcu hinv hst ?_
    rw [(rcStep_end hst).1] at h8
    exact h8
  · simp only [condT]
    have hless := rcStep_less hs.ok hsl hp hc hwi hst
    rw [wrap_i64 (by omega) (by omega)]
    exact ⟨⟨y + 1, _, by omega, by omega, (hcl.step hs.ok).mono (by omega), hwi.step hs.ok, by rw [rcStep_suspect]; exact hcu, hinv.step hs.ok hc, h8⟩, by (try dsimp only); omega⟩

end Go.Proofs.Ytohlnmenghbgbaa
