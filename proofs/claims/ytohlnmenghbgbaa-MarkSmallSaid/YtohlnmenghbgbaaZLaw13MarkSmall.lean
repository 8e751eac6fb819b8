/- Merged by merge.py: DenLaw13, DenLaw13MarkEnds, DenLaw13MarkKnown, DenLaw13MarkLeast, DenLaw13MarkSmall, Law13, Law13m. No condition. -/
import Derived.Test.YtohlnmenghbgbaaZNum
import Derived.Test.YtohlnmenghbgbaaZMark
import Derived.Test.YtohlnmenghbgbaaZSweep
import Derived.Test.YtohlnmenghbgbaaZPaint

/- PRINTED by gen.py: functions as plain propositions, held against the program by the kernel. No condition. -/
namespace Go.Proofs.Ytohlnmenghbgbaa
open Go
set_option linter.unusedVariables false
set_option maxRecDepth 100000

def B_law13_known  (H : Hp) (K : Value → Hp → Prop) : Prop :=
 newB (.cells #[(.slice none 0 0)] ty_Sint) H fun b1 Hx2 =>
 newB (.cells #[(.int .i64 8)] ty_int) Hx2 fun b3 Hx4 =>
 newB (.cells #[(.slice none 0 0), (.slice none 0 0), (.slice none 0 0)] ty_hand_Graph) Hx4 fun b5 Hx6 =>
 st ⟨b5, 0, none⟩ (.slice (some ⟨b1, 0, none⟩) 1 1) Hx6 fun Hx7 =>
 st ⟨b5, 1, none⟩ (.slice none 0 0) Hx7 fun Hx8 =>
 st ⟨b5, 2, none⟩ (.slice (some ⟨b3, 0, none⟩) 1 1) Hx8 fun Hx9 =>
 ldSl ⟨b5, 0, none⟩ Hx9 fun RefsP10 RefsL11 RefsC12 =>
 ldSl ⟨b5, 1, none⟩ Hx9 fun OutP13 OutL14 OutC15 =>
 ldSl ⟨b5, 2, none⟩ Hx9 fun InP16 InL17 InC18 =>
 hcall PR f_hand_Graph_Heaps ⟨[(.agg #[(.slice RefsP10 RefsL11 RefsC12), (.slice OutP13 OutL14 OutC15), (.slice InP16 InL17 InC18)]), (.int .i64 3)]⟩ Hx9 fun v19 Hx20 =>
 tup2 v19 fun v21 v22 =>
 asP v21 fun t23 =>
 asP v22 fun t24 =>
 (bif (Option.isNone (α := Addr) t23) then
 K (.bool false) Hx20
else
 hcall PR f_paint_New ⟨[(.pointer t23), (.int .i64 2)]⟩ Hx20 fun v25 Hx26 =>
 tup2 v25 fun v27 v28 =>
 asP v27 fun t29 =>
 asI .i64 v28 fun t30 =>
 hcall PR f_mark_New ⟨[(.pointer t23), (.pointer t29)]⟩ Hx26 fun v31 Hx32 =>
 tup2 v31 fun v33 v34 =>
 asP v33 fun t35 =>
 asI .i64 v34 fun t36 =>
 (bif ((t30 : Int) != 0) then
 K (.bool false) Hx32
else
 (bif ((t36 : Int) != 0) then
 K (.bool false) Hx32
else
 (bif (Option.isNone (α := Addr) t29) then
 K (.bool false) Hx32
else
 (bif (Option.isNone (α := Addr) t35) then
 K (.bool false) Hx32
else
 hcall PR f_mark_Marker_Step ⟨[(.pointer t35)]⟩ Hx32 fun v37 Hx38 =>
 asB v37 fun t39 =>
 hcall PR f_paint_Paint_Mark ⟨[(.pointer t29), (.int .u64 1)]⟩ Hx38 fun v40 Hx41 =>
 tup3 v40 fun v42 v43 v44 =>
 asI .i64 v42 fun t45 =>
 asB v43 fun t46 =>
 asB v44 fun t47 =>
 hcall PR f_mark_Marker_Step ⟨[(.pointer t35)]⟩ Hx41 fun v48 Hx49 =>
 asB v48 fun t50 =>
 hcall PR f_mark_Marker_Step ⟨[(.pointer t35)]⟩ Hx49 fun v51 Hx52 =>
 asB v51 fun t53 =>
 (bif t39 then
 (bif ((t45 : Int) == 2) then
 (bif t46 then
 (bif t47 then
 (bif t50 then
 K (.bool (!t53)) Hx52
else
 K (.bool false) Hx52)
else
 K (.bool false) Hx52)
else
 K (.bool false) Hx52)
else
 K (.bool false) Hx52)
else
 K (.bool false) Hx52))))))
theorem E_law13_known  (H : Hp) (K : Value → Hp → Prop) : B_law13_known  H K = denF Try.prog Try.f61 .n [] H K := by kernel_rfl
theorem den_law13_known  {H : Hp} {K : Value → Hp → Prop} (h : B_law13_known  H K) : hcall PR f_law13_known ⟨[]⟩ H K := denF_call Try.func61 PR_mixed (Eq.mp (E_law13_known  H K) h)

def B_law13_all (m1 : Option Addr) (n2 : Int) (H : Hp) (K : Value → Hp → Prop) : Prop :=
 ∃ (I3 : Int → Hp → Prop) (m4 : Int → Hp → Nat), I3 0 H ∧ ∀ k6 : Int, ∀ Hx5 : Hp, I3 k6 Hx5 →
 (bif (decide ((k6 : Int) ≤ (IntKind.i64.wrap ((IntKind.i64.wrap (42 * (IntKind.i64.wrap (n2 + 2)))) * (IntKind.i64.wrap (n2 + 2)))))) then
 hcall PR f_mark_Marker_Step ⟨[(.pointer m1)]⟩ Hx5 fun v7 Hx8 =>
 asB v7 fun t9 =>
 (bif (!t9) then
 K (.tuple #[(.int .i64 k6), (.bool true)]) Hx8
else
 I3 (IntKind.i64.wrap (k6 + 1)) Hx8 ∧ m4 (IntKind.i64.wrap (k6 + 1)) Hx8 < m4 k6 Hx5)
else
 K (.tuple #[(.int .i64 0), (.bool false)]) Hx5)
theorem E_law13_all (m1 : Option Addr) (n2 : Int) (H : Hp) (K : Value → Hp → Prop) : B_law13_all m1 n2 H K = denF Try.prog Try.f64 (.seq none .n (.seq none (.seq none .n (.sub (.loop ⟨[(6, .int .i64)], [0, 1]⟩ .n))) .n)) [(.pointer m1), (.int .i64 n2)] H K := by kernel_rfl
theorem den_law13_all {m1 : Option Addr} {n2 : Int} {H : Hp} {K : Value → Hp → Prop} (h : B_law13_all m1 n2 H K) : hcall PR f_law13_all ⟨[(.pointer m1), (.int .i64 n2)]⟩ H K := denF_call Try.func64 PR_mixed (Eq.mp (E_law13_all m1 n2 H K) h)

end Go.Proofs.Ytohlnmenghbgbaa

/- PRINTED by gen.py: functions as plain propositions, held against the program by the kernel. No condition. -/
namespace Go.Proofs.Ytohlnmenghbgbaa
open Go
set_option linter.unusedVariables false
set_option maxRecDepth 100000

def B_law13_MarkEnds (gRefsP1 : Option Addr) (gRefsL2 : Nat) (gRefsC3 : Nat) (gOutP4 : Option Addr) (gOutL5 : Nat) (gOutC6 : Nat) (gInP7 : Option Addr) (gInL8 : Nat) (gInC9 : Nat) (grey10 : Int) (H : Hp) (K : Value → Hp → Prop) : Prop :=
 newB (.cells #[(.slice gRefsP1 gRefsL2 gRefsC3), (.slice gOutP4 gOutL5 gOutC6), (.slice gInP7 gInL8 gInC9)] ty_hand_Graph) H fun b11 Hx12 =>
 ldSl ⟨b11, 0, none⟩ Hx12 fun RefsP13 RefsL14 RefsC15 =>
 ldSl ⟨b11, 1, none⟩ Hx12 fun OutP16 OutL17 OutC18 =>
 ldSl ⟨b11, 2, none⟩ Hx12 fun InP19 InL20 InC21 =>
 hcall PR f_hand_Graph_Heaps ⟨[(.agg #[(.slice RefsP13 RefsL14 RefsC15), (.slice OutP16 OutL17 OutC18), (.slice InP19 InL20 InC21)]), (.int .i64 40)]⟩ Hx12 fun v22 Hx23 =>
 tup2 v22 fun v24 v25 =>
 asP v24 fun t26 =>
 asP v25 fun t27 =>
 hcall PR f_law13_known ⟨[]⟩ Hx23 fun v28 Hx29 =>
 asB v28 fun t30 =>
 (bif (!t30) then
 K (.bool false) Hx29
else
 (bif (Option.isNone (α := Addr) t26) then
 K (.bool false) Hx29
else
 nilP t27 fun ta31 =>
 ldI .u64 (ta31.add 2) Hx29 fun Last32 =>
 hcall PR f_hand_Pick ⟨[(.int .i64 grey10), (.int .i64 8)]⟩ Hx29 fun v33 Hx34 =>
 asI .i64 v33 fun t35 =>
 hcall PR f_paint_New ⟨[(.pointer t26), (.int .i64 (IntKind.i64.wrap (1 + t35)))]⟩ Hx34 fun v36 Hx37 =>
 tup2 v36 fun v38 v39 =>
 asP v38 fun t40 =>
 asI .i64 v39 fun t41 =>
 hcall PR f_mark_New ⟨[(.pointer t26), (.pointer t40)]⟩ Hx37 fun v42 Hx43 =>
 tup2 v42 fun v44 v45 =>
 asP v44 fun t46 =>
 asI .i64 v45 fun t47 =>
 (bif ((t41 : Int) != 0) then
 K (.bool false) Hx43
else
 (bif ((t47 : Int) != 0) then
 K (.bool false) Hx43
else
 (bif (Option.isNone (α := Addr) t40) then
 K (.bool false) Hx43
else
 (bif (Option.isNone (α := Addr) t46) then
 K (.bool false) Hx43
else
 hcall PR f_law13_all ⟨[(.pointer t46), (.int .i64 (IntKind.i64.wrap Last32))]⟩ Hx43 fun v48 Hx49 =>
 tup2 v48 fun v50 v51 =>
 asI .i64 v50 fun t52 =>
 asB v51 fun t53 =>
 (bif t53 then
 (bif (decide ((t52 : Int) ≤ (IntKind.i64.wrap ((IntKind.i64.wrap (42 * (IntKind.i64.wrap ((IntKind.i64.wrap Last32) + 1)))) * (IntKind.i64.wrap ((IntKind.i64.wrap Last32) + 1)))))) then
 hcall PR f_mark_Marker_Step ⟨[(.pointer t46)]⟩ Hx49 fun v54 Hx55 =>
 asB v54 fun t56 =>
 K (.bool (!t56)) Hx55
else
 K (.bool false) Hx49)
else
 K (.bool false) Hx49)))))))
theorem E_law13_MarkEnds (gRefsP1 : Option Addr) (gRefsL2 : Nat) (gRefsC3 : Nat) (gOutP4 : Option Addr) (gOutL5 : Nat) (gOutC6 : Nat) (gInP7 : Option Addr) (gInL8 : Nat) (gInC9 : Nat) (grey10 : Int) (H : Hp) (K : Value → Hp → Prop) : B_law13_MarkEnds gRefsP1 gRefsL2 gRefsC3 gOutP4 gOutL5 gOutC6 gInP7 gInL8 gInC9 grey10 H K = denF Try.prog Try.f15 .n [(.agg #[(.slice gRefsP1 gRefsL2 gRefsC3), (.slice gOutP4 gOutL5 gOutC6), (.slice gInP7 gInL8 gInC9)]), (.int .i64 grey10)] H K := by kernel_rfl
theorem den_law13_MarkEnds {gRefsP1 : Option Addr} {gRefsL2 : Nat} {gRefsC3 : Nat} {gOutP4 : Option Addr} {gOutL5 : Nat} {gOutC6 : Nat} {gInP7 : Option Addr} {gInL8 : Nat} {gInC9 : Nat} {grey10 : Int} {H : Hp} {K : Value → Hp → Prop} (h : B_law13_MarkEnds gRefsP1 gRefsL2 gRefsC3 gOutP4 gOutL5 gOutC6 gInP7 gInL8 gInC9 grey10 H K) : hcall PR f_law13_MarkEnds ⟨[(.agg #[(.slice gRefsP1 gRefsL2 gRefsC3), (.slice gOutP4 gOutL5 gOutC6), (.slice gInP7 gInL8 gInC9)]), (.int .i64 grey10)]⟩ H K := denF_call Try.func15 PR_mixed (Eq.mp (E_law13_MarkEnds gRefsP1 gRefsL2 gRefsC3 gOutP4 gOutL5 gOutC6 gInP7 gInL8 gInC9 grey10 H K) h)

end Go.Proofs.Ytohlnmenghbgbaa

/- PRINTED by gen.py: functions as plain propositions, held against the program by the kernel. No condition. -/
namespace Go.Proofs.Ytohlnmenghbgbaa
open Go
set_option linter.unusedVariables false
set_option maxRecDepth 100000

def B_law13_MarkKnown  (H : Hp) (K : Value → Hp → Prop) : Prop :=
 hcall PR f_hand_Graph_Heaps ⟨[(.agg #[(.slice none 0 0), (.slice none 0 0), (.slice none 0 0)]), (.int .i64 3)]⟩ H fun v1 Hx2 =>
 tup2 v1 fun v3 v4 =>
 asP v3 fun t5 =>
 asP v4 fun t6 =>
 hcall PR f_law13_known ⟨[]⟩ Hx2 fun v7 Hx8 =>
 asB v7 fun t9 =>
 (bif (!t9) then
 K (.bool false) Hx8
else
 (bif (Option.isNone (α := Addr) t5) then
 K (.bool false) Hx8
else
 hcall PR f_paint_New ⟨[(.pointer t5), (.int .i64 2)]⟩ Hx8 fun v10 Hx11 =>
 tup2 v10 fun v12 v13 =>
 asP v12 fun t14 =>
 asI .i64 v13 fun t15 =>
 hcall PR f_mark_New ⟨[(.pointer none), (.pointer t14)]⟩ Hx11 fun v16 Hx17 =>
 tup2 v16 fun v18 v19 =>
 asP v18 fun t20 =>
 asI .i64 v19 fun t21 =>
 hcall PR f_mark_New ⟨[(.pointer t5), (.pointer none)]⟩ Hx17 fun v22 Hx23 =>
 tup2 v22 fun v24 v25 =>
 asP v24 fun t26 =>
 asI .i64 v25 fun t27 =>
 hcall PR f_mark_New ⟨[(.pointer t5), (.pointer t14)]⟩ Hx23 fun v28 Hx29 =>
 tup2 v28 fun v30 v31 =>
 asP v30 fun t32 =>
 asI .i64 v31 fun t33 =>
 (bif ((t21 : Int) == 1) then
 (bif ((t27 : Int) == 1) then
 (bif ((t33 : Int) == 0) then
 (bif (!(Option.isNone (α := Addr) t32)) then
 hcall PR f_mark_Marker_Step ⟨[(.pointer t32)]⟩ Hx29 fun v34 Hx35 =>
 asB v34 fun t36 =>
 K (.bool (!t36)) Hx35
else
 K (.bool false) Hx29)
else
 K (.bool false) Hx29)
else
 K (.bool false) Hx29)
else
 K (.bool false) Hx29)))
theorem E_law13_MarkKnown  (H : Hp) (K : Value → Hp → Prop) : B_law13_MarkKnown  H K = denF Try.prog Try.f14 .n [] H K := by kernel_rfl
theorem den_law13_MarkKnown  {H : Hp} {K : Value → Hp → Prop} (h : B_law13_MarkKnown  H K) : hcall PR f_law13_MarkKnown ⟨[]⟩ H K := denF_call Try.func14 PR_mixed (Eq.mp (E_law13_MarkKnown  H K) h)

end Go.Proofs.Ytohlnmenghbgbaa

/- PRINTED by gen.py: functions as plain propositions, held against the program by the kernel. No condition. -/
namespace Go.Proofs.Ytohlnmenghbgbaa
open Go
set_option linter.unusedVariables false
set_option maxRecDepth 100000

def B_law13_MarkLeast (gRefsP1 : Option Addr) (gRefsL2 : Nat) (gRefsC3 : Nat) (gOutP4 : Option Addr) (gOutL5 : Nat) (gOutC6 : Nat) (gInP7 : Option Addr) (gInL8 : Nat) (gInC9 : Nat) (grey10 : Int) (rootsP11 : Option Addr) (rootsL12 : Nat) (rootsC13 : Nat) (H : Hp) (K : Value → Hp → Prop) : Prop :=
 newB (.cells #[(.slice gRefsP1 gRefsL2 gRefsC3), (.slice gOutP4 gOutL5 gOutC6), (.slice gInP7 gInL8 gInC9)] ty_hand_Graph) H fun b14 Hx15 =>
 ldSl ⟨b14, 0, none⟩ Hx15 fun RefsP16 RefsL17 RefsC18 =>
 ldSl ⟨b14, 1, none⟩ Hx15 fun OutP19 OutL20 OutC21 =>
 ldSl ⟨b14, 2, none⟩ Hx15 fun InP22 InL23 InC24 =>
 hcall PR f_hand_Graph_Heaps ⟨[(.agg #[(.slice RefsP16 RefsL17 RefsC18), (.slice OutP19 OutL20 OutC21), (.slice InP22 InL23 InC24)]), (.int .i64 30)]⟩ Hx15 fun v25 Hx26 =>
 tup2 v25 fun v27 v28 =>
 asP v27 fun t29 =>
 asP v28 fun t30 =>
 hcall PR f_law13_known ⟨[]⟩ Hx26 fun v31 Hx32 =>
 asB v31 fun t33 =>
 (bif (!t33) then
 K (.bool false) Hx32
else
 (bif (Option.isNone (α := Addr) t29) then
 K (.bool false) Hx32
else
 nilP t30 fun ta34 =>
 ldI .u64 (ta34.add 2) Hx32 fun Last35 =>
 hcall PR f_hand_Pick ⟨[(.int .i64 grey10), (.int .i64 8)]⟩ Hx32 fun v36 Hx37 =>
 asI .i64 v36 fun t38 =>
 hcall PR f_paint_New ⟨[(.pointer t29), (.int .i64 (IntKind.i64.wrap (1 + t38)))]⟩ Hx37 fun v39 Hx40 =>
 tup2 v39 fun v41 v42 =>
 asP v41 fun t43 =>
 asI .i64 v42 fun t44 =>
 hcall PR f_mark_New ⟨[(.pointer t29), (.pointer t43)]⟩ Hx40 fun v45 Hx46 =>
 tup2 v45 fun v47 v48 =>
 asP v47 fun t49 =>
 asI .i64 v48 fun t50 =>
 (bif ((t44 : Int) != 0) then
 K (.bool false) Hx46
else
 (bif ((t50 : Int) != 0) then
 K (.bool false) Hx46
else
 (bif (Option.isNone (α := Addr) t43) then
 K (.bool false) Hx46
else
 (bif (Option.isNone (α := Addr) t49) then
 K (.bool false) Hx46
else
 ∀ R51 : Option Addr → Nat → Nat → Hp → Prop, (∀ fromP53 : Option Addr, ∀ fromL54 : Nat, ∀ fromC55 : Nat, ∀ Hx52 : Hp, (
 hcall PR f_law13_all ⟨[(.pointer t49), (.int .i64 (IntKind.i64.wrap Last35))]⟩ Hx52 fun v56 Hx57 =>
 tup2 v56 fun v58 v59 =>
 asI .i64 v58 fun t60 =>
 asB v59 fun t61 =>
 ldSl ⟨b14, 0, none⟩ Hx57 fun RefsP62 RefsL63 RefsC64 =>
 ldSl ⟨b14, 1, none⟩ Hx57 fun OutP65 OutL66 OutC67 =>
 ldSl ⟨b14, 2, none⟩ Hx57 fun InP68 InL69 InC70 =>
 hcall PR f_hand_Graph_Ranks ⟨[(.agg #[(.slice RefsP62 RefsL63 RefsC64), (.slice OutP65 OutL66 OutC67), (.slice InP68 InL69 InC70)]), (.int .i64 (IntKind.i64.wrap Last35)), (.slice fromP53 fromL54 fromC55)]⟩ Hx57 fun v71 Hx72 =>
 asSl v71 fun tP73 tL74 tC75 =>
 ∃ (I76 : Int → Hp → Prop) (m77 : Int → Hp → Nat), I76 1 Hx72 ∧ ∀ i79 : Int, ∀ Hx78 : Hp, I76 i79 Hx78 →
 (bif (decide ((i79 : Int) ≤ (IntKind.i64.wrap Last35))) then
 ∀ R80 : Hp → Prop, (∀ Hx81 : Hp, (
 I76 (IntKind.i64.wrap (i79 + 1)) Hx81 ∧ m77 (IntKind.i64.wrap (i79 + 1)) Hx81 < m77 i79 Hx78) → R80 Hx81) →
 hcall PR f_paint_Paint_Mark ⟨[(.pointer t43), (.int .u64 (IntKind.u64.wrap i79))]⟩ Hx78 fun v82 Hx83 =>
 tup3 v82 fun v84 v85 v86 =>
 asI .i64 v84 fun t87 =>
 asB v85 fun t88 =>
 asB v86 fun t89 =>
 (bif t88 then
 K (.bool false) Hx83
else
 idxA tP73 tL74 i79 1 fun el90 =>
 ldI .i64 el90 Hx83 fun t91 =>
 (bif (!(t89 == (decide ((t91 : Int) ≥ 0)))) then
 K (.bool false) Hx83
else
 (bif t89 then
 idxA tP73 tL74 i79 1 fun el92 =>
 ldI .i64 el92 Hx83 fun t93 =>
 (bif ((t87 : Int) != t93) then
 K (.bool false) Hx83
else
 R80 Hx83)
else
 R80 Hx83)))
else
 hcall PR f_paint_Paint_Outs ⟨[(.pointer t43)]⟩ Hx78 fun v94 Hx95 =>
 asSl v94 fun tP96 tL97 tC98 =>
 ∃ (I99 : Int → Hp → Prop) (m100 : Int → Hp → Nat), I99 0 Hx95 ∧ ∀ i102 : Int, ∀ Hx101 : Hp, I99 i102 Hx101 →
 (bif (decide ((i102 : Int) < (tL97 : Int))) then
 ∃ (I103 : Int → Int → Hp → Prop) (m104 : Int → Int → Hp → Nat), I103 41 0 Hx101 ∧ ∀ least106 : Int, ∀ k107 : Int, ∀ Hx105 : Hp, I103 least106 k107 Hx105 →
 (bif (decide ((k107 : Int) < (IntKind.i64.wrap Last35))) then
 ∀ R108 : Int → Hp → Prop, (∀ least110 : Int, ∀ Hx109 : Hp, (
 I103 least110 (IntKind.i64.wrap (k107 + 1)) Hx109 ∧ m104 least110 (IntKind.i64.wrap (k107 + 1)) Hx109 < m104 least106 k107 Hx105) → R108 least110 Hx109) →
 ∃ (I111 : Int → Int → Hp → Prop) (m112 : Int → Int → Hp → Nat), I111 least106 0 Hx105 ∧ ∀ least114 : Int, ∀ j115 : Int, ∀ Hx113 : Hp, I111 least114 j115 Hx113 →
 idxA tP73 tL74 (IntKind.i64.wrap (k107 + 1)) 1 fun el116 =>
 ldI .i64 el116 Hx113 fun t117 =>
 (bif (decide ((t117 : Int) ≥ 0)) then
 ldSl ⟨b14, 0, none⟩ Hx113 fun RefsP118 RefsL119 RefsC120 =>
 idxA RefsP118 RefsL119 k107 1 fun el121 =>
 ldSl el121 Hx113 fun tP122 tL123 tC124 =>
 (bif (decide ((j115 : Int) < (tL123 : Int))) then
 (bif (decide ((j115 : Int) < 7)) then
 ∀ R125 : Int → Hp → Prop, (∀ least127 : Int, ∀ Hx126 : Hp, (
 I111 least127 (IntKind.i64.wrap (j115 + 1)) Hx126 ∧ m112 least127 (IntKind.i64.wrap (j115 + 1)) Hx126 < m112 least114 j115 Hx113) → R125 least127 Hx126) →
 ldSl ⟨b14, 0, none⟩ Hx113 fun RefsP128 RefsL129 RefsC130 =>
 ldSl ⟨b14, 1, none⟩ Hx113 fun OutP131 OutL132 OutC133 =>
 ldSl ⟨b14, 2, none⟩ Hx113 fun InP134 InL135 InC136 =>
 idxA tP96 tL97 i102 3 fun el137 =>
 ldI .i64 el137 Hx113 fun Node138 =>
 ldI .u64 (el137.add 1) Hx113 fun Serial139 =>
 hcall PR f_hand_Graph_Target ⟨[(.agg #[(.slice RefsP128 RefsL129 RefsC130), (.slice OutP131 OutL132 OutC133), (.slice InP134 InL135 InC136)]), (.int .i64 k107), (.int .i64 j115), (.int .i64 (IntKind.i64.wrap Last35))]⟩ Hx113 fun v140 Hx141 =>
 agg2 v140 fun v142 v143 =>
 asI .i64 v142 fun Node144 =>
 asI .u64 v143 fun Serial145 =>
 (ldI .i64 el137 Hx141 fun Node146 =>
 ldI .u64 (el137.add 1) Hx141 fun Serial147 =>
 ((.agg #[(.int .i64 Node146), (.int .u64 Serial147)]) : Value) = (.agg #[(.int .i64 Node138), (.int .u64 Serial139)])) ∧
 evR PR (aggEq .eql ty_api_ID #[(.int .i64 Node144), (.int .u64 Serial145)] #[(.int .i64 Node138), (.int .u64 Serial139)]) Hx141 fun v148 =>
 asB v148 fun eq149 =>
 (bif eq149 then
 idxA tP73 tL74 (IntKind.i64.wrap (k107 + 1)) 1 fun el150 =>
 ldI .i64 el150 Hx141 fun t151 =>
 R125 (if t151 < least114 then t151 else least114) Hx141
else
 R125 least114 Hx141)
else
 R108 least114 Hx113)
else
 R108 least114 Hx113)
else
 R108 least114 Hx113)
else
 idxA tP96 tL97 i102 3 fun el152 =>
 ldI .i64 (el152.add 2) Hx105 fun Rank153 =>
 (bif ((least106 : Int) != Rank153) then
 K (.bool false) Hx105
else
 I99 (IntKind.i64.wrap (i102 + 1)) Hx105 ∧ m100 (IntKind.i64.wrap (i102 + 1)) Hx105 < m100 i102 Hx101))
else
 K (.bool t61) Hx101))) → R51 fromP53 fromL54 fromC55 Hx52) →
 ∃ (I154 : Option Addr → Nat → Nat → Int → Hp → Prop) (m155 : Option Addr → Nat → Nat → Int → Hp → Nat), I154 none 0 0 0 Hx46 ∧ ∀ fromP157 : Option Addr, ∀ fromL158 : Nat, ∀ fromC159 : Nat, ∀ i160 : Int, ∀ Hx156 : Hp, I154 fromP157 fromL158 fromC159 i160 Hx156 →
 (bif (decide ((i160 : Int) < (rootsL12 : Int))) then
 (bif (decide ((i160 : Int) < 6)) then
 (bif (decide (((IntKind.i64.wrap Last35) : Int) > 0)) then
 idxA rootsP11 rootsL12 i160 1 fun el161 =>
 ldI .i64 el161 Hx156 fun t162 =>
 hcall PR f_hand_Pick ⟨[(.int .i64 t162), (.int .i64 (IntKind.i64.wrap Last35))]⟩ Hx156 fun v163 Hx164 =>
 asI .i64 v163 fun t165 =>
 newB (.cells #[(.int .i64 1), (.int .u64 (IntKind.u64.wrap (IntKind.i64.wrap (1 + t165))))] ty_api_ID) Hx164 fun b166 Hx167 =>
 evW PR (Builtin.append_ #[ty_Sapi_ID, ty_Sapi_ID] ty_Sapi_ID #[(.slice fromP157 fromL158 fromC159), (.slice (some ⟨b166, 0, none⟩) 1 1)]) Hx167 fun v168 Hx169 =>
 asSl v168 fun tP170 tL171 tC172 =>
 idxA tP170 tL171 i160 2 fun el173 =>
 ldI .i64 el173 Hx169 fun Node174 =>
 ldI .u64 (el173.add 1) Hx169 fun Serial175 =>
 hcall PR f_paint_Paint_Shade ⟨[(.pointer t43), (.agg #[(.int .i64 Node174), (.int .u64 Serial175)]), (.int .i64 0)]⟩ Hx169 fun v176 Hx177 =>
 I154 tP170 tL171 tC172 (IntKind.i64.wrap (i160 + 1)) Hx177 ∧ m155 tP170 tL171 tC172 (IntKind.i64.wrap (i160 + 1)) Hx177 < m155 fromP157 fromL158 fromC159 i160 Hx156
else
 R51 fromP157 fromL158 fromC159 Hx156)
else
 R51 fromP157 fromL158 fromC159 Hx156)
else
 R51 fromP157 fromL158 fromC159 Hx156)))))))
theorem E_law13_MarkLeast (gRefsP1 : Option Addr) (gRefsL2 : Nat) (gRefsC3 : Nat) (gOutP4 : Option Addr) (gOutL5 : Nat) (gOutC6 : Nat) (gInP7 : Option Addr) (gInL8 : Nat) (gInC9 : Nat) (grey10 : Int) (rootsP11 : Option Addr) (rootsL12 : Nat) (rootsC13 : Nat) (H : Hp) (K : Value → Hp → Prop) : B_law13_MarkLeast gRefsP1 gRefsL2 gRefsC3 gOutP4 gOutL5 gOutC6 gInP7 gInL8 gInC9 grey10 rootsP11 rootsL12 rootsC13 H K = denF Try.prog Try.f19 (.seq none .n (.seq none .n (.seq none .n (.seq none .n (.seq none .n (.seq none .n (.seq none .n (.seq none .n (.seq (some ⟨[(14, .sl)], [3, 9, 10, 12]⟩) (.seq none .n (.sub (.loop ⟨[(14, .sl), (15, .int .i64)], [2, 3, 9, 10, 12]⟩ .n))) (.seq none .n (.seq none .n (.seq none (.seq none .n (.sub (.loop ⟨[(19, .int .i64)], [3, 9, 10, 17, 18]⟩ (.seq none .n (.seq (some ⟨[], [3, 9, 10, 17, 18, 19]⟩) .n .n))))) (.seq none .n (.seq none (.seq none .n (.sub (.loop ⟨[(24, .int .i64)], [3, 9, 17, 18, 23]⟩ (.seq none .n (.seq none (.sub (.seq none .n (.seq none (.seq none .n (.sub (.loop ⟨[(25, .int .i64), (26, .int .i64)], [3, 9, 17, 18, 23, 24]⟩ (.seq none .n (.seq (some ⟨[(25, .int .i64)], [3, 9, 17, 18, 23, 24, 26]⟩) (.sub (.seq none .n (.sub (.loop ⟨[(25, .int .i64), (27, .int .i64)], [3, 9, 17, 18, 23, 24, 26]⟩ (.seq none .n (.seq (some ⟨[(25, .int .i64)], [3, 9, 17, 18, 23, 24, 26, 27]⟩) .n .n)))))) .n))))) .n))) .n))))) .n)))))))))))))) [(.agg #[(.slice gRefsP1 gRefsL2 gRefsC3), (.slice gOutP4 gOutL5 gOutC6), (.slice gInP7 gInL8 gInC9)]), (.int .i64 grey10), (.slice rootsP11 rootsL12 rootsC13)] H K := by kernel_rfl
theorem den_law13_MarkLeast {gRefsP1 : Option Addr} {gRefsL2 : Nat} {gRefsC3 : Nat} {gOutP4 : Option Addr} {gOutL5 : Nat} {gOutC6 : Nat} {gInP7 : Option Addr} {gInL8 : Nat} {gInC9 : Nat} {grey10 : Int} {rootsP11 : Option Addr} {rootsL12 : Nat} {rootsC13 : Nat} {H : Hp} {K : Value → Hp → Prop} (h : B_law13_MarkLeast gRefsP1 gRefsL2 gRefsC3 gOutP4 gOutL5 gOutC6 gInP7 gInL8 gInC9 grey10 rootsP11 rootsL12 rootsC13 H K) : hcall PR f_law13_MarkLeast ⟨[(.agg #[(.slice gRefsP1 gRefsL2 gRefsC3), (.slice gOutP4 gOutL5 gOutC6), (.slice gInP7 gInL8 gInC9)]), (.int .i64 grey10), (.slice rootsP11 rootsL12 rootsC13)]⟩ H K := denF_call Try.func19 PR_mixed (Eq.mp (E_law13_MarkLeast gRefsP1 gRefsL2 gRefsC3 gOutP4 gOutL5 gOutC6 gInP7 gInL8 gInC9 grey10 rootsP11 rootsL12 rootsC13 H K) h)

end Go.Proofs.Ytohlnmenghbgbaa

/- PRINTED by gen.py: functions as plain propositions, held against the program by the kernel. No condition. -/
namespace Go.Proofs.Ytohlnmenghbgbaa
open Go
set_option linter.unusedVariables false
set_option maxRecDepth 100000

def B_law13_MarkSmall (gRefsP1 : Option Addr) (gRefsL2 : Nat) (gRefsC3 : Nat) (gOutP4 : Option Addr) (gOutL5 : Nat) (gOutC6 : Nat) (gInP7 : Option Addr) (gInL8 : Nat) (gInC9 : Nat) (a10 : Int) (b11 : Int) (H : Hp) (K : Value → Hp → Prop) : Prop :=
 newB (.cells #[(.slice gRefsP1 gRefsL2 gRefsC3), (.slice gOutP4 gOutL5 gOutC6), (.slice gInP7 gInL8 gInC9)] ty_hand_Graph) H fun b12 Hx13 =>
 ldSl ⟨b12, 0, none⟩ Hx13 fun RefsP14 RefsL15 RefsC16 =>
 ldSl ⟨b12, 1, none⟩ Hx13 fun OutP17 OutL18 OutC19 =>
 ldSl ⟨b12, 2, none⟩ Hx13 fun InP20 InL21 InC22 =>
 hcall PR f_hand_Graph_Heaps ⟨[(.agg #[(.slice RefsP14 RefsL15 RefsC16), (.slice OutP17 OutL18 OutC19), (.slice InP20 InL21 InC22)]), (.int .i64 30)]⟩ Hx13 fun v23 Hx24 =>
 tup2 v23 fun v25 v26 =>
 asP v25 fun t27 =>
 asP v26 fun t28 =>
 hcall PR f_law13_known ⟨[]⟩ Hx24 fun v29 Hx30 =>
 asB v29 fun t31 =>
 (bif (!t31) then
 K (.bool false) Hx30
else
 (bif (Option.isNone (α := Addr) t27) then
 K (.bool false) Hx30
else
 nilP t28 fun ta32 =>
 ldI .u64 (ta32.add 2) Hx30 fun Last33 =>
 hcall PR f_hand_Pick ⟨[(.int .i64 a10), (.int .i64 64)]⟩ Hx30 fun v34 Hx35 =>
 asI .i64 v34 fun t36 =>
 hcall PR f_paint_New ⟨[(.pointer t27), (.int .i64 (IntKind.i64.wrap (1 + t36)))]⟩ Hx35 fun v37 Hx38 =>
 tup2 v37 fun v39 v40 =>
 asP v39 fun t41 =>
 asI .i64 v40 fun t42 =>
 hcall PR f_hand_Pick ⟨[(.int .i64 b11), (.int .i64 64)]⟩ Hx38 fun v43 Hx44 =>
 asI .i64 v43 fun t45 =>
 hcall PR f_paint_New ⟨[(.pointer t27), (.int .i64 (IntKind.i64.wrap (1 + t45)))]⟩ Hx44 fun v46 Hx47 =>
 tup2 v46 fun v48 v49 =>
 asP v48 fun t50 =>
 asI .i64 v49 fun t51 =>
 hcall PR f_mark_New ⟨[(.pointer t27), (.pointer t41)]⟩ Hx47 fun v52 Hx53 =>
 tup2 v52 fun v54 v55 =>
 asP v54 fun t56 =>
 asI .i64 v55 fun t57 =>
 hcall PR f_mark_New ⟨[(.pointer t27), (.pointer t50)]⟩ Hx53 fun v58 Hx59 =>
 tup2 v58 fun v60 v61 =>
 asP v60 fun t62 =>
 asI .i64 v61 fun t63 =>
 (bif ((t42 : Int) != 0) then
 K (.bool false) Hx59
else
 (bif ((t51 : Int) != 0) then
 K (.bool false) Hx59
else
 (bif ((t57 : Int) != 0) then
 K (.bool false) Hx59
else
 (bif ((t63 : Int) != 0) then
 K (.bool false) Hx59
else
 (bif (Option.isNone (α := Addr) t56) then
 K (.bool false) Hx59
else
 (bif (Option.isNone (α := Addr) t62) then
 K (.bool false) Hx59
else
 hcall PR f_law13_all ⟨[(.pointer t56), (.int .i64 (IntKind.i64.wrap Last33))]⟩ Hx59 fun v64 Hx65 =>
 tup2 v64 fun v66 v67 =>
 asI .i64 v66 fun t68 =>
 asB v67 fun t69 =>
 hcall PR f_law13_all ⟨[(.pointer t62), (.int .i64 (IntKind.i64.wrap Last33))]⟩ Hx65 fun v70 Hx71 =>
 tup2 v70 fun v72 v73 =>
 asI .i64 v72 fun t74 =>
 asB v73 fun t75 =>
 ∃ (I76 : Int → Hp → Prop) (m77 : Int → Hp → Nat), I76 1 Hx71 ∧ ∀ s79 : Int, ∀ Hx78 : Hp, I76 s79 Hx78 →
 nilP t28 fun ta80 =>
 ldI .u64 (ta80.add 2) Hx78 fun Last81 =>
 (bif (decide ((s79 : Int) ≤ Last81)) then
 hcall PR f_paint_Paint_Mark ⟨[(.pointer t41), (.int .u64 s79)]⟩ Hx78 fun v82 Hx83 =>
 tup3 v82 fun v84 v85 v86 =>
 asI .i64 v84 fun t87 =>
 asB v85 fun t88 =>
 asB v86 fun t89 =>
 hcall PR f_paint_Paint_Mark ⟨[(.pointer t50), (.int .u64 s79)]⟩ Hx83 fun v90 Hx91 =>
 tup3 v90 fun v92 v93 v94 =>
 asI .i64 v92 fun t95 =>
 asB v93 fun t96 =>
 asB v94 fun t97 =>
 (bif ((t87 : Int) != t95) then
 K (.bool false) Hx91
else
 (bif (!(t89 == t97)) then
 K (.bool false) Hx91
else
 I76 (IntKind.u64.wrap (s79 + 1)) Hx91 ∧ m77 (IntKind.u64.wrap (s79 + 1)) Hx91 < m77 s79 Hx78))
else
 (bif t69 then
 (bif t75 then
 hcall PR f_paint_Paint_Outs ⟨[(.pointer t41)]⟩ Hx78 fun v98 Hx99 =>
 asSl v98 fun tP100 tL101 tC102 =>
 hcall PR f_paint_Paint_Outs ⟨[(.pointer t50)]⟩ Hx99 fun v103 Hx104 =>
 asSl v103 fun tP105 tL106 tC107 =>
 hcall PR f_hand_Outs ⟨[(.slice tP100 tL101 tC102), (.slice tP105 tL106 tC107)]⟩ Hx104 fun v108 Hx109 =>
 asB v108 fun t110 =>
 K (.bool t110) Hx109
else
 K (.bool false) Hx78)
else
 K (.bool false) Hx78))))))))))
theorem E_law13_MarkSmall (gRefsP1 : Option Addr) (gRefsL2 : Nat) (gRefsC3 : Nat) (gOutP4 : Option Addr) (gOutL5 : Nat) (gOutC6 : Nat) (gInP7 : Option Addr) (gInL8 : Nat) (gInC9 : Nat) (a10 : Int) (b11 : Int) (H : Hp) (K : Value → Hp → Prop) : B_law13_MarkSmall gRefsP1 gRefsL2 gRefsC3 gOutP4 gOutL5 gOutC6 gInP7 gInL8 gInC9 a10 b11 H K = denF Try.prog Try.f20 (.seq none .n (.seq none .n (.seq none .n (.seq none .n (.seq none .n (.seq none .n (.seq none .n (.seq none .n (.seq none .n (.seq none .n (.seq none .n (.seq none (.seq none .n (.sub (.loop ⟨[(22, .int .u64)], [8, 10, 12, 19, 21]⟩ .n))) .n)))))))))))) [(.agg #[(.slice gRefsP1 gRefsL2 gRefsC3), (.slice gOutP4 gOutL5 gOutC6), (.slice gInP7 gInL8 gInC9)]), (.int .i64 a10), (.int .i64 b11)] H K := by kernel_rfl
theorem den_law13_MarkSmall {gRefsP1 : Option Addr} {gRefsL2 : Nat} {gRefsC3 : Nat} {gOutP4 : Option Addr} {gOutL5 : Nat} {gOutC6 : Nat} {gInP7 : Option Addr} {gInL8 : Nat} {gInC9 : Nat} {a10 : Int} {b11 : Int} {H : Hp} {K : Value → Hp → Prop} (h : B_law13_MarkSmall gRefsP1 gRefsL2 gRefsC3 gOutP4 gOutL5 gOutC6 gInP7 gInL8 gInC9 a10 b11 H K) : hcall PR f_law13_MarkSmall ⟨[(.agg #[(.slice gRefsP1 gRefsL2 gRefsC3), (.slice gOutP4 gOutL5 gOutC6), (.slice gInP7 gInL8 gInC9)]), (.int .i64 a10), (.int .i64 b11)]⟩ H K := denF_call Try.func20 PR_mixed (Eq.mp (E_law13_MarkSmall gRefsP1 gRefsL2 gRefsC3 gOutP4 gOutL5 gOutC6 gInP7 gInL8 gInC9 a10 b11 H K) h)

end Go.Proofs.Ytohlnmenghbgbaa

/- Chapter 13's statements, run: MarkKnown, MarkEnds. No condition. -/
namespace Go.Proofs.Ytohlnmenghbgbaa
set_option linter.unusedSimpArgs false
set_option linter.unusedVariables false
open Go

theorem rd_single {H : Hp} {p : Option Addr} {v : Value} (h : Rd H 1 p 1 [v]) : Rd H 1 p 1 [v] := h

theorem known13_ok {H0 H : Hp} {L : List Prt} {K : Value → Hp → Prop} (h : St H0 L H) (hK : ∀ H', St H0 L H' → K (.bool true) H') : hcall PR f_law13_known ⟨[]⟩ H K := by
  apply den_law13_known
  unfold B_law13_known
  intro b1 hb1
  have h1 := h.alloc (o := .cells #[.slice none 0 0] ty_Sint) hb1
  intro b3 hb3
  have h2 := h1.alloc (o := .cells #[.int .i64 8] ty_int) hb3
  intro b5 hb5
  have h3 := h2.alloc (o := .cells #[.slice none 0 0, .slice none 0 0, .slice none 0 0] ty_hand_Graph) hb5
  refine h3.put (i := 0) rfl (by simp) fun H4 h4 => h4.put (i := 0) rfl (by simp) fun H5 h5 => h5.put (i := 0) rfl (by simp) fun H6 h6 => ?_
  refine ldSl_of (h6.cell (i := 0) rfl rfl) (ldSl_of (h6.cell (i := 0) rfl rfl) (ldSl_of (h6.cell (i := 0) rfl rfl) ?_))
  have ga : GrA H6 (some ⟨b1, 0, none⟩) 1 none 0 (some ⟨b3, 0, none⟩) 1 ⟨[[]], [], [8]⟩ :=
    ⟨⟨[(none, 0, 0)], h6.one_rd (i := 2) (n := 1) rfl rfl, rfl, fun i t l ht hl => by
      cases i with
      | zero => simp at ht hl; subst ht hl; exact ⟨rfl, rd_nil⟩
      | succ i => simp at ht⟩, rd_nil, h6.one_rd (i := 1) (n := 1) rfl rfl⟩
  have gok : (⟨[[]], [], [8]⟩ : Gr).ok := ⟨by simp, fun l hl => by simp at hl; subst hl; exact ⟨by simp, fun x hx => by cases hx⟩, by simp, by simp⟩
  refine HeapsC (most := 3) ga gok (by omega) fun hb rb s H7 hs h7 => ?_
  have hs : GrHs ⟨[[]], [], [8]⟩ 1 s := hs
  have h7 := h6.join h7
  simp only [asI_mk', asB_mk, asP_mk, asA_mk, asM_mk, asSl_mk, asStr_mk, tup2_mk, tup3_mk, agg1_mk, agg2_mk, agg3_mk, agg4_mk, asAggm, unCons_mk, unNil_mk, asTup_mk, extractD0, extractD1, List.toList_toArray, nilP_mk, add_mk, Nat.zero_add, Nat.add_zero, condT, condF, Bool.not_true, Bool.not_false, Option.isNone_some, Option.isNone_none]
  refine pNewOk h7 (by omega) (by omega) fun pb H8 h8 => ?_
  simp only [asI_mk', asB_mk, asP_mk, asA_mk, asM_mk, asSl_mk, asStr_mk, tup2_mk, tup3_mk, agg1_mk, agg2_mk, agg3_mk, agg4_mk, asAggm, unCons_mk, unNil_mk, asTup_mk, extractD0, extractD1, List.toList_toArray, nilP_mk, add_mk, Nat.zero_add, Nat.add_zero, condT, condF, Bool.not_true, Bool.not_false, Option.isNone_some, Option.isNone_none]
  refine mkNewC (pb := pb) (hb := hb) h8 fun mb H9 h9 => ?_
  simp only [asI_mk', asB_mk, asP_mk, asA_mk, asM_mk, asSl_mk, asStr_mk, tup2_mk, tup3_mk, agg1_mk, agg2_mk, agg3_mk, agg4_mk, asAggm, unCons_mk, unNil_mk, asTup_mk, extractD0, extractD1, List.toList_toArray, nilP_mk, add_mk, Nat.zero_add, Nat.add_zero, condT, condF, Bool.not_true, Bool.not_false, Option.isNone_some, Option.isNone_none]
  refine bif_neqf rfl (bif_neqf rfl ?_)
  have hlast : s.last = 1 := hs.last
  obtain ⟨c, hg1⟩ := hs.get (m := 1) (by omega)
  have hd : grDist ⟨[[]], [], [8]⟩ 0 = 2 := by decide
  have hrf : grRefs ⟨[[]], [], [8]⟩ 1 0 = [] := by decide
  rw [show (1 : Int).toNat - 1 = 0 from rfl, hd, hrf] at hg1
  have hne1 : ¬ hGet s 1 = none := by rw [hg1]; simp
  have n0 : hNext s 0 = (1, true) := hNext_is hs.ok hne1 (by omega) fun k h1 h2 => by omega
  have n1 : hNext s 1 = (0, false) := hNext_none hs.ok fun k hk => by
    have := hs.has (m := k)
    cases hg : hGet s k with
    | none => rfl
    | some o =>
      rw [hg] at this
      have := this.1 (by simp)
      omega
  have hp1 : pShade s (newPs 2) ⟨s.node, 1⟩ 2 = ⟨[(1, (2, true))], [], [1], 2, false, 0⟩ := by
    unfold pShade
    rw [hs.node, if_neg (by decide), if_neg (by simp), if_neg hne1]
    rfl
  have w1 : mkStep s (newPs 2) ⟨0, false, 0⟩ = (true, ⟨[(1, (2, true))], [], [1], 2, false, 0⟩, ⟨1, false, 0⟩) := by
    unfold mkStep mkSee
    simp only [newPs, List.getLast?_nil, Bool.false_eq_true, false_and, if_false, n0, hg1]
    rw [if_neg (by decide), if_pos (by decide)]
    rw [show (⟨[], [], [], 2, false, 0⟩ : Ps) = newPs 2 from rfl, hp1]
  have k1 : pMark s ⟨[(1, (2, true))], [], [1], 2, false, 0⟩ 1 = (2, true, true) := by
    simp [pMark, mlook, hne1]
  have w2 : mkStep s ⟨[(1, (2, true))], [], [1], 2, false, 0⟩ ⟨1, false, 0⟩ = (true, ⟨[(1, (2, false))], [], [], 2, false, 0⟩, ⟨1, false, 0⟩) := by
    unfold mkStep
    simp [pPop, pScan, hg1, mlook, mput, mhas, pShades]
  have w3 : mkStep s ⟨[(1, (2, false))], [], [], 2, false, 0⟩ ⟨1, false, 0⟩ = (false, ⟨[(1, (2, false))], [], [], 2, false, 0⟩, ⟨1, false, 0⟩) := by
    unfold mkStep
    simp [n1]
  refine mkStepC h9 (i := 2) (j := 1) (k := 0) rfl rfl rfl (by decide) (by decide) (by decide) fun H10 h10 => ?_
  rw [w1] at h10 ⊢
  simp only [asI_mk', asB_mk, asP_mk, asA_mk, asM_mk, asSl_mk, asStr_mk, tup2_mk, tup3_mk, agg1_mk, agg2_mk, agg3_mk, agg4_mk, asAggm, unCons_mk, unNil_mk, asTup_mk, extractD0, extractD1, List.toList_toArray, nilP_mk, add_mk, Nat.zero_add, Nat.add_zero, condT, condF, Bool.not_true, Bool.not_false, Option.isNone_some, Option.isNone_none]
  refine pMarkC (L := _ :: _ :: _ :: _ :: _ :: _ :: _ :: L) h10 (i := 2) (j := 1) rfl rfl (by decide) fun H11 h11 => ?_
  rw [k1]
  simp only [asI_mk', asB_mk, asP_mk, asA_mk, asM_mk, asSl_mk, asStr_mk, tup2_mk, tup3_mk, agg1_mk, agg2_mk, agg3_mk, agg4_mk, asAggm, unCons_mk, unNil_mk, asTup_mk, extractD0, extractD1, List.toList_toArray, nilP_mk, add_mk, Nat.zero_add, Nat.add_zero, condT, condF, Bool.not_true, Bool.not_false, Option.isNone_some, Option.isNone_none]
  refine mkStepC (L := _ :: _ :: _ :: _ :: _ :: _ :: _ :: L) h11 (i := 2) (j := 1) (k := 0) rfl rfl rfl (by decide) (by decide) (by decide) fun H12 h12 => ?_
  rw [w2] at h12 ⊢
  simp only [asI_mk', asB_mk, asP_mk, asA_mk, asM_mk, asSl_mk, asStr_mk, tup2_mk, tup3_mk, agg1_mk, agg2_mk, agg3_mk, agg4_mk, asAggm, unCons_mk, unNil_mk, asTup_mk, extractD0, extractD1, List.toList_toArray, nilP_mk, add_mk, Nat.zero_add, Nat.add_zero, condT, condF, Bool.not_true, Bool.not_false, Option.isNone_some, Option.isNone_none]
  refine mkStepC (L := _ :: _ :: _ :: _ :: _ :: _ :: _ :: L) h12 (i := 2) (j := 1) (k := 0) rfl rfl rfl (by decide) (by decide) (by decide) fun H13 h13 => ?_
  rw [w3] at h13 ⊢
  simp only [asI_mk', asB_mk, asP_mk, asA_mk, asM_mk, asSl_mk, asStr_mk, tup2_mk, tup3_mk, agg1_mk, agg2_mk, agg3_mk, agg4_mk, asAggm, unCons_mk, unNil_mk, asTup_mk, extractD0, extractD1, List.toList_toArray, nilP_mk, add_mk, Nat.zero_add, Nat.add_zero, condT, condF, Bool.not_true, Bool.not_false, Option.isNone_some, Option.isNone_none]
  exact bif_eq rfl (hK H13 (St.lesses (M := [_, _, _, _, _, _, _]) h13))

theorem MarkKnown_ok {H : Hp} {K : Value → Hp → Prop} (hK : ∀ H', Keep Nothing H H' → K (.bool true) H') : hcall PR f_law13_MarkKnown ⟨[]⟩ H K := by
  apply den_law13_MarkKnown
  unfold B_law13_MarkKnown
  refine HeapsC (most := 3) (nilsG_at (n := 0) rd_nil) (nilsG_ok (by omega)) (by omega) fun hb rb s H2 hs h2 => ?_
  rw [nilsG_size (by omega)] at hs
  simp only [asI_mk', asB_mk, asP_mk, asA_mk, asM_mk, asSl_mk, asStr_mk, tup2_mk, tup3_mk, agg1_mk, agg2_mk, agg3_mk, agg4_mk, asAggm, unCons_mk, unNil_mk, asTup_mk, extractD0, extractD1, List.toList_toArray, nilP_mk, add_mk, Nat.zero_add, Nat.add_zero, condT, condF, Bool.not_true, Bool.not_false, Option.isNone_some, Option.isNone_none]
  refine known13_ok h2 fun H3 h3 => ?_
  simp only [asI_mk', asB_mk, asP_mk, asA_mk, asM_mk, asSl_mk, asStr_mk, tup2_mk, tup3_mk, agg1_mk, agg2_mk, agg3_mk, agg4_mk, asAggm, unCons_mk, unNil_mk, asTup_mk, extractD0, extractD1, List.toList_toArray, nilP_mk, add_mk, Nat.zero_add, Nat.add_zero, condT, condF, Bool.not_true, Bool.not_false, Option.isNone_some, Option.isNone_none]
  refine pNewOk h3 (by omega) (by omega) fun pb H4 h4 => ?_
  simp only [asI_mk', asB_mk, asP_mk, asA_mk, asM_mk, asSl_mk, asStr_mk, tup2_mk, tup3_mk, agg1_mk, agg2_mk, agg3_mk, agg4_mk, asAggm, unCons_mk, unNil_mk, asTup_mk, extractD0, extractD1, List.toList_toArray, nilP_mk, add_mk, Nat.zero_add, Nat.add_zero, condT, condF, Bool.not_true, Bool.not_false, Option.isNone_some, Option.isNone_none]
  refine mkNewNil1 ?_
  simp only [asI_mk', asB_mk, asP_mk, asA_mk, asM_mk, asSl_mk, asStr_mk, tup2_mk, tup3_mk, agg1_mk, agg2_mk, agg3_mk, agg4_mk, asAggm, unCons_mk, unNil_mk, asTup_mk, extractD0, extractD1, List.toList_toArray, nilP_mk, add_mk, Nat.zero_add, Nat.add_zero, condT, condF, Bool.not_true, Bool.not_false, Option.isNone_some, Option.isNone_none]
  refine mkNewNil2 ?_
  simp only [asI_mk', asB_mk, asP_mk, asA_mk, asM_mk, asSl_mk, asStr_mk, tup2_mk, tup3_mk, agg1_mk, agg2_mk, agg3_mk, agg4_mk, asAggm, unCons_mk, unNil_mk, asTup_mk, extractD0, extractD1, List.toList_toArray, nilP_mk, add_mk, Nat.zero_add, Nat.add_zero, condT, condF, Bool.not_true, Bool.not_false, Option.isNone_some, Option.isNone_none]
  refine mkNewC (pb := pb) (hb := hb) h4 fun mb H5 h5 => ?_
  simp only [asI_mk', asB_mk, asP_mk, asA_mk, asM_mk, asSl_mk, asStr_mk, tup2_mk, tup3_mk, agg1_mk, agg2_mk, agg3_mk, agg4_mk, asAggm, unCons_mk, unNil_mk, asTup_mk, extractD0, extractD1, List.toList_toArray, nilP_mk, add_mk, Nat.zero_add, Nat.add_zero, condT, condF, Bool.not_true, Bool.not_false, Option.isNone_some, Option.isNone_none]
  refine bif_eq rfl (bif_eq rfl (bif_eq rfl ?_))
  (try simp only [Bool.not_false, condT])
  refine mkStepC h5 (i := 2) (j := 1) (k := 0) rfl rfl rfl (by decide) (by decide) (by decide) fun H6 h6 => ?_
  have n1 : hNext s 0 = (0, false) := hNext_none hs.ok fun k hk => by
    have := hs.has (m := k)
    cases hg : hGet s k with
    | none => rfl
    | some o =>
      rw [hg] at this
      have := this.1 (by simp)
      omega
  have w1 : mkStep s (newPs 2) ⟨0, false, 0⟩ = (false, newPs 2, ⟨0, false, 0⟩) := by
    unfold mkStep
    simp [newPs, n1]
  rw [w1] at h6 ⊢
  simp only [asI_mk', asB_mk, asP_mk, asA_mk, asM_mk, asSl_mk, asStr_mk, tup2_mk, tup3_mk, agg1_mk, agg2_mk, agg3_mk, agg4_mk, asAggm, unCons_mk, unNil_mk, asTup_mk, extractD0, extractD1, List.toList_toArray, nilP_mk, add_mk, Nat.zero_add, Nat.add_zero, condT, condF, Bool.not_true, Bool.not_false, Option.isNone_some, Option.isNone_none]
  exact hK H6 h6.keep

/-- All is marked. -/
theorem allC {H0 H : Hp} {L : List Prt} {i j k hb pb mb n B : Nat} {s : Hs} {p : Ps} {m : Mk} {K : Value → Hp → Prop} (I : Ps → Mk → Prop) (h : St H0 L H) (hi : L[i]? = some (HeapP hb s)) (hj : L[j]? = some (PaintP pb hb p)) (hk : L[k]? = some (MkP mb hb pb m)) (hij : i ≠ j) (hik : i ≠ k) (hjk : j ≠ k)
    (hl : s.last = n) (hn : n ≤ 60) (hm : m.ok) (hB : mkLeft s n p m ≤ B) (hB2 : B ≤ 42 * (n + 2) * (n + 2)) (hI : I p m) (hstep : ∀ p m, p.ok → m.ok → I p m → (mkStep s p m).1 = true → I (mkStep s p m).2.1 (mkStep s p m).2.2)
    (hK : ∀ (q : Nat) p' m' H', q ≤ B → p'.ok → m'.ok → I p' m' → (mkStep s p' m').1 = false → St H0 ((L.set k (MkP mb hb pb { m' with pass := false })).set j (PaintP pb hb p')) H' → K (.tuple #[.int .i64 q, .bool true]) H') :
    hcall PR f_law13_all ⟨[.pointer (some ⟨mb, 0, none⟩), .int .i64 n]⟩ H K := by
  have ho := heap_ok h hi
  have hp := paint_ok h hj
  apply den_law13_all
  unfold B_law13_all
  have hkl := ltOfGet hk
  have hjl := ltOfGet hj
  have w1 : IntKind.i64.wrap ((n : Int) + 2) = ((n + 2 : Nat) : Int) := by rw [wrap_i64 (by omega) (by omega)]; omega
  have w2 : IntKind.i64.wrap (42 * ((n + 2 : Nat) : Int)) = ((42 * (n + 2) : Nat) : Int) := by rw [wrap_i64 (by omega) (by omega)]; omega
  have hmul : ((42 * (n + 2) : Nat) : Int) * ((n + 2 : Nat) : Int) = ((42 * (n + 2) * (n + 2) : Nat) : Int) := by rw [← Int.natCast_mul]
  have hbnd : 42 * (n + 2) * (n + 2) ≤ 42 * 62 * 62 := Nat.mul_le_mul (Nat.mul_le_mul_left _ (by omega)) (by omega)
  have w3 : IntKind.i64.wrap (((42 * (n + 2) : Nat) : Int) * ((n + 2 : Nat) : Int)) = ((42 * (n + 2) * (n + 2) : Nat) : Int) := by rw [hmul, wrap_i64 (by omega) (by omega)]
  rw [w1, w2, w3]
  have h0 : St H0 ((L.set k (MkP mb hb pb m)).set j (PaintP pb hb p)) H := by rw [List.set_self hk, List.set_self hj]; exact h
  refine ⟨fun q H' => ∃ (y : Nat) (p : Ps) (m : Mk), q = y ∧ y + mkLeft s n p m ≤ B ∧ m.ok ∧ I p m ∧ St H0 ((L.set k (MkP mb hb pb m)).set j (PaintP pb hb p)) H', fun q _ => (B + 1 - q).toNat, ⟨0, p, m, rfl, by omega, hm, hI, h0⟩, ?_⟩
  clear h0 hI hB hm hp h
  rintro q H1 ⟨y, p, m, rfl, hy, hm, hI, h1⟩
  have gi : ((L.set k (MkP mb hb pb m)).set j (PaintP pb hb p))[i]? = some (HeapP hb s) := by rw [List.getElem?_set_ne (Ne.symm hij), List.getElem?_set_ne (Ne.symm hik)]; exact hi
  have gj : ((L.set k (MkP mb hb pb m)).set j (PaintP pb hb p))[j]? = some (PaintP pb hb p) := by simp [hjl]
  have gk : ((L.set k (MkP mb hb pb m)).set j (PaintP pb hb p))[k]? = some (MkP mb hb pb m) := by rw [List.getElem?_set_ne hjk]; simp [hkl]
  have hp := paint_ok h1 gj
  refine bif_pos (by omega) (mkStepC h1 gi gj gk hij hik hjk fun H2 h2 => ?_)
  rw [List.set_comm _ _ hjk, List.set_set, List.set_set] at h2
  simp only [asI_mk', asB_mk, asP_mk, asA_mk, asM_mk, asSl_mk, asStr_mk, tup2_mk, tup3_mk, agg1_mk, agg2_mk, agg3_mk, agg4_mk, asAggm, unCons_mk, unNil_mk, asTup_mk, extractD0, extractD1, List.toList_toArray, nilP_mk, add_mk, Nat.zero_add, Nat.add_zero, condT, condF, Bool.not_true, Bool.not_false, Option.isNone_some, Option.isNone_none]
  cases hr : (mkStep s p m).1
  · simp only [Bool.not_false, condT]
    have he := (mkStep_end hr).1
    rw [he] at h2
    exact hK y p m H2 (by omega) hp hm hI hr h2
  · simp only [Bool.not_true, condF]
    have hless := mkStep_less ho hl hp hm hr
    have hok := mkStep_ok ho hp hm
    rw [wrap_i64 (by omega) (by omega)]
    exact ⟨⟨y + 1, _, _, by omega, by omega, hok.2, hstep p m hp hm hI hr, h2⟩, by (try dsimp only); omega⟩

set_option maxRecDepth 20000 in
theorem MarkEnds_ok {rp op ip : Option Addr} {rl rc ol oc il ic : Nat} {g : Gr} {grey : Int} {H : Hp} {K : Value → Hp → Prop} (ga : GrA H rp rl op ol ip il g) (gok : g.ok) (hgr : IntKind.min .i64 ≤ grey ∧ grey ≤ IntKind.max .i64)
    (hK : ∀ H', Keep Nothing H H' → K (.bool true) H') : hcall PR f_law13_MarkEnds ⟨[.agg #[.slice rp rl rc, .slice op ol oc, .slice ip il ic], .int .i64 grey]⟩ H K := by
  apply den_law13_MarkEnds
  unfold B_law13_MarkEnds
  intro b11 hb11
  have h1 := (St.start H).alloc (o := .cells #[.slice rp rl rc, .slice op ol oc, .slice ip il ic] ty_hand_Graph) hb11
  refine ldSl_of (h1.cell (i := 0) rfl rfl) (ldSl_of (h1.cell (i := 0) rfl rfl) (ldSl_of (h1.cell (i := 0) rfl rfl) ?_))
  refine HeapsC (most := 40) (ga.st h1) gok (by omega) fun hb rb s H2 hs h2 => ?_
  have h2 := h1.join h2
  have hn : grSize g 40 ≤ 40 := by unfold grSize; split <;> omega
  generalize grSize g 40 = n at *
  simp only [asI_mk', asB_mk, asP_mk, asA_mk, asM_mk, asSl_mk, asStr_mk, tup2_mk, tup3_mk, agg1_mk, agg2_mk, agg3_mk, agg4_mk, asAggm, unCons_mk, unNil_mk, asTup_mk, extractD0, extractD1, List.toList_toArray, nilP_mk, add_mk, Nat.zero_add, Nat.add_zero, condT, condF, Bool.not_true, Bool.not_false, Option.isNone_some, Option.isNone_none]
  refine known13_ok h2 fun H3 h3 => ?_
  simp only [asI_mk', asB_mk, asP_mk, asA_mk, asM_mk, asSl_mk, asStr_mk, tup2_mk, tup3_mk, agg1_mk, agg2_mk, agg3_mk, agg4_mk, asAggm, unCons_mk, unNil_mk, asTup_mk, extractD0, extractD1, List.toList_toArray, nilP_mk, add_mk, Nat.zero_add, Nat.add_zero, condT, condF, Bool.not_true, Bool.not_false, Option.isNone_some, Option.isNone_none]
  obtain ⟨y1, N1, g1, _, _⟩ := rheapOpenL (i := 1) h3 rfl (.inl rfl)
  refine ldI_of (rheapV g1).last (Pick_ok (by omega) (by omega) ?_)
  have p1 := pick_lt (n := grey) (m := 8) (by omega)
  simp only [asI_mk', asB_mk, asP_mk, asA_mk, asM_mk, asSl_mk, asStr_mk, tup2_mk, tup3_mk, agg1_mk, agg2_mk, agg3_mk, agg4_mk, asAggm, unCons_mk, unNil_mk, asTup_mk, extractD0, extractD1, List.toList_toArray, nilP_mk, add_mk, Nat.zero_add, Nat.add_zero, condT, condF, Bool.not_true, Bool.not_false, Option.isNone_some, Option.isNone_none]
  rw [hs.last]
  have w0 : IntKind.i64.wrap (n : Int) = n := wrap_i64 (by omega) (by omega)
  have w1 : IntKind.i64.wrap (1 + pick grey 8) = 1 + pick grey 8 := wrap_i64 (by omega) (by omega)
  have w2 : IntKind.i64.wrap ((n : Int) + 1) = ((n + 1 : Nat) : Int) := by rw [wrap_i64 (by omega) (by omega)]; omega
  have w3 : IntKind.i64.wrap (42 * ((n + 1 : Nat) : Int)) = ((42 * (n + 1) : Nat) : Int) := by rw [wrap_i64 (by omega) (by omega)]; omega
  have hmul : ((42 * (n + 1) : Nat) : Int) * ((n + 1 : Nat) : Int) = ((42 * (n + 1) * (n + 1) : Nat) : Int) := by rw [← Int.natCast_mul]
  have hbd : 42 * (n + 1) * (n + 1) ≤ 42 * 41 * 41 := Nat.mul_le_mul (Nat.mul_le_mul_left _ (by omega)) (by omega)
  have w4 : IntKind.i64.wrap (((42 * (n + 1) : Nat) : Int) * ((n + 1 : Nat) : Int)) = ((42 * (n + 1) * (n + 1) : Nat) : Int) := by rw [hmul, wrap_i64 (by omega) (by omega)]
  rw [w0, w1, w2, w3, w4]
  refine pNewOk h3 (by omega) (by omega) fun pb H4 h4 => ?_
  simp only [asI_mk', asB_mk, asP_mk, asA_mk, asM_mk, asSl_mk, asStr_mk, tup2_mk, tup3_mk, agg1_mk, agg2_mk, agg3_mk, agg4_mk, asAggm, unCons_mk, unNil_mk, asTup_mk, extractD0, extractD1, List.toList_toArray, nilP_mk, add_mk, Nat.zero_add, Nat.add_zero, condT, condF, Bool.not_true, Bool.not_false, Option.isNone_some, Option.isNone_none]
  refine mkNewC (pb := pb) (hb := hb) h4 fun mb H5 h5 => ?_
  simp only [asI_mk', asB_mk, asP_mk, asA_mk, asM_mk, asSl_mk, asStr_mk, tup2_mk, tup3_mk, agg1_mk, agg2_mk, agg3_mk, agg4_mk, asAggm, unCons_mk, unNil_mk, asTup_mk, extractD0, extractD1, List.toList_toArray, nilP_mk, add_mk, Nat.zero_add, Nat.add_zero, condT, condF, Bool.not_true, Bool.not_false, Option.isNone_some, Option.isNone_none]
  refine bif_neqf rfl (bif_neqf rfl ?_)
  have hB := mkLeft_new (n := n) (most := 1 + pick grey 8) hs.len
  have hle : (n + 1) * (41 * n) + n ≤ 42 * (n + 1) * (n + 1) := by
    have e1 : (n + 1) * (41 * n) = 41 * ((n + 1) * n) := by rw [Nat.mul_left_comm]
    have e2 : 42 * (n + 1) * (n + 1) = 42 * ((n + 1) * (n + 1)) := Nat.mul_assoc _ _ _
    have e3 : (n + 1) * (n + 1) = (n + 1) * n + (n + 1) := Nat.mul_succ _ _
    rw [e1, e2, e3]
    omega
  have hle2 : 42 * (n + 1) * (n + 1) ≤ 42 * (n + 2) * (n + 2) := Nat.mul_le_mul (Nat.mul_le_mul_left _ (by omega)) (by omega)
  refine allC (i := 2) (j := 1) (k := 0) (B := (n + 1) * (41 * n) + n) (fun _ _ => True) h5 rfl rfl rfl (by decide) (by decide) (by decide) hs.last (by omega) ⟨Int.le_refl _, Int.le_refl _⟩ (by omega) (by omega) trivial (fun _ _ _ _ _ _ => trivial) fun q p' m' H6 hq hp' hm' _ hend h6 => ?_
  simp only [asI_mk', asB_mk, asP_mk, asA_mk, asM_mk, asSl_mk, asStr_mk, tup2_mk, tup3_mk, agg1_mk, agg2_mk, agg3_mk, agg4_mk, asAggm, unCons_mk, unNil_mk, asTup_mk, extractD0, extractD1, List.toList_toArray, nilP_mk, add_mk, Nat.zero_add, Nat.add_zero, condT, condF, Bool.not_true, Bool.not_false, Option.isNone_some, Option.isNone_none]
  refine bif_pos (by omega) (mkStepC (L := _ :: _ :: _ :: _ :: _ :: []) h6 (i := 2) (j := 1) (k := 0) rfl rfl rfl (by decide) (by decide) (by decide) fun H7 h7 => ?_)
  have hag := mkStep_again hend
  rw [(mkStep_end hend).1] at hag
  rw [hag]
  simp only [asI_mk', asB_mk, asP_mk, asA_mk, asM_mk, asSl_mk, asStr_mk, tup2_mk, tup3_mk, agg1_mk, agg2_mk, agg3_mk, agg4_mk, asAggm, unCons_mk, unNil_mk, asTup_mk, extractD0, extractD1, List.toList_toArray, nilP_mk, add_mk, Nat.zero_add, Nat.add_zero, condT, condF, Bool.not_true, Bool.not_false, Option.isNone_some, Option.isNone_none]
  exact hK H7 h7.keep

end Go.Proofs.Ytohlnmenghbgbaa

/- Chapter 13's statements, run: MarkLeast, MarkSmall. No condition. -/
namespace Go.Proofs.Ytohlnmenghbgbaa
set_option linter.unusedSimpArgs false
set_option linter.unusedVariables false
open Go

theorem Rch.mono {s : Hs} {B B' : Int → Int → Prop} (hB : ∀ k r, B k r → B' k r) {k r : Int} (h : Rch s B k r) : Rch s B' k r := by
  induction h with
  | base h => exact .base (hB _ _ h)
  | step _ h1 h2 h3 h4 h5 ih => exact .step ih h1 h2 h3 h4 h5
theorem Sound.mono {s : Hs} {B B' : Int → Int → Prop} {p : Ps} (hB : ∀ k r, B k r → B' k r) (h : Sound s B p) : Sound s B' p :=
  ⟨fun k r g e => ⟨(h.marks k r g e).1, (h.marks k r g e).2.mono hB⟩, fun x r e => by
    obtain ⟨k, o, h1, h2⟩ := h.met x r e
    exact ⟨k, o, h1.mono hB, h2⟩⟩
/-- Marking has not begun, some roots are shaded. -/
structure MkBegun (s : Hs) (n : Nat) (rts : List Int) (p : Ps) : Prop where
  sound : Sound s (grBase s rts) p
  tight : Tight s p
  grey : Greys p fun _ => False
  roots : ∀ k ∈ rts, ∃ r g, mlook p.marks k = some (r, g) ∧ r ≤ 0
  psi : psi s n p ≤ (n + 1) * (41 * n)
theorem MkBegun.start {s : Hs} {n : Nat} {m : Int} (hl : s.obs.length = n) : MkBegun s n [] (newPs m) :=
  ⟨⟨fun k r g e => (by cases e), fun x r e => (by cases e)⟩, tight_new, fun k r e => (by cases e), fun k hk => (by cases hk), by
    have := mkLeft_new (s := s) (n := n) (most := m) hl
    unfold mkLeft at this
    simp only [Bool.false_eq_true, if_false, Int.sub_zero, Int.toNat_natCast] at this
    omega⟩
theorem MkBegun.next {s : Hs} {n : Nat} {rts : List Int} {p : Ps} {k : Int} (h : MkBegun s n rts p) (hn : s.node = 1) (hp : p.ok) (hk : 1 ≤ k ∧ k ≤ 64) (hg : hGet s k ≠ none) : MkBegun s n (rts ++ [k]) (pShade s p ⟨1, k⟩ 0) := by
  have hmono : ∀ a r, grBase s rts a r → grBase s (rts ++ [k]) a r := fun a r hb => hb.elim .inl fun hb => .inr ⟨List.mem_append.2 (.inl hb.1), hb.2⟩
  refine ⟨(h.sound.mono hmono).shade (fun _ _ _ => ?_) fun _ hne => absurd hn.symm hne, h.tight.shade, h.grey.shade, fun a ha => ?_, Nat.le_trans (psi_shade hp) h.psi⟩
  · exact .base (.inr ⟨by simp, by decide⟩)
  · rcases List.mem_append.1 ha with ha | ha
    · exact falls_has shade_falls (h.roots a ha)
    · simp at ha
      subst ha
      have hlow := shade_low (s := s) (p := p) (x := ⟨1, a⟩) (r := 0) ⟨Int.le_refl _, by show (1 : Int) ≤ 64; omega, hk.1, by show a ≤ _; omega⟩
      rw [if_pos hn.symm] at hlow
      exact hlow hg
theorem MkBegun.mkd {s : Hs} {n : Nat} {rts : List Int} {p : Ps} (h : MkBegun s n rts p) (ho : s.ok) : Mkd s (grBase s rts) (fun k => k ∈ rts) p ⟨0, false, 0⟩ :=
  ⟨h.sound, h.tight, fun k r e => (h.grey k r e).imp_right fun g => g.imp_right False.elim, fun k o hg hd hle => by
    have := get_ser ho (m := k) (by rw [hg]; simp)
    simp only at hle
    omega, h.roots⟩
theorem grBase_din {s : Hs} {rts : List Int} : ∀ k o, hGet s k = some o → 0 < o.din → grBase s rts k o.din := fun k o hg hd => .inl ⟨o, hg, hd, rfl⟩
theorem grBase_or {s : Hs} {rts : List Int} : ∀ k r, grBase s rts k r → (∃ o, hGet s k = some o ∧ 0 < o.din ∧ r = o.din) ∨ (k ∈ rts ∧ r = 0) := fun _ _ h => h
/-- No more is met than a graph names. -/
theorem met_small {g : Gr} {n : Nat} {s : Hs} {p : Ps} {B : Int → Int → Prop} (hs : GrHs g n s) (hn : n ≤ 64) (hp : p.ok) (h : Sound s B p) : p.met.length ≤ 400 := by
  have key : ∀ e ∈ p.met, 1 ≤ e.1.n ∧ e.1.n ≤ 3 ∧ 1 ≤ e.1.s ∧ e.1.s ≤ 64 := fun e he => by
    obtain ⟨k, o, _, h2, h3, h4, _⟩ := h.met e.1 e.2 (mlook_of hp.met he)
    have hk := hs.has.1 (show hGet s k ≠ none by rw [h2]; simp)
    obtain ⟨c, hg⟩ := hs.get hk
    rw [h2] at hg
    cases hg
    obtain ⟨y, _, e1⟩ := grRefs_of h3
    rw [e1] at h4 ⊢
    rcases grTarget_ok (g := g) (n := n) (i := k.toNat - 1) (k := y) (by omega) with h0 | h0
    · rw [h0] at h4; unfold isId at h4; simp at h4
    · exact h0
  have := nodup_le (l := p.met.map fun e => e.1.n * 100 + e.1.s) (n := 400) ?_ fun k hk => ?_
  · simpa using this
  · have hm := hp.met
    unfold mnod List.Nodup at hm
    rw [List.pairwise_map] at hm
    rw [List.Nodup, List.pairwise_map]
    refine hm.imp_of_mem fun {a b} ha hb hab e => hab ?_
    have h1 := key a ha
    have h2 := key b hb
    exact Id.ext (by omega) (by omega)
  · obtain ⟨e, he, rfl⟩ := List.mem_map.1 hk
    have := key e he
    (try simp only)
    omega

/-- The least rank of what leads to a reference, as far as D was looked at. -/
structure Lst (g : Gr) (n : Nat) (l : List Int) (x : Id) (D : Nat → Nat → Prop) (least : Int) : Prop where
  low : ∀ k j : Nat, D k j → k < n → j < grDeg g k → 0 ≤ rk l ((k : Int) + 1) → grTarget g n k j = x → least ≤ rk l ((k : Int) + 1)
  is : least = 41 ∨ ∃ k j : Nat, k < n ∧ j < grDeg g k ∧ grTarget g n k j = x ∧ 0 ≤ rk l ((k : Int) + 1) ∧ least = rk l ((k : Int) + 1)
  range : 0 ≤ least ∧ least ≤ 41
theorem Lst.start {g : Gr} {n : Nat} {l : List Int} {x : Id} : Lst g n l x (fun k _ => k < 0) 41 := ⟨fun k j h => absurd h (Nat.not_lt_zero _), .inl rfl, by omega⟩
theorem Lst.mono {g : Gr} {n : Nat} {l : List Int} {x : Id} {D D' : Nat → Nat → Prop} {least : Int} (h : Lst g n l x D least) (hD : ∀ k j, k < n → j < grDeg g k → 0 ≤ rk l ((k : Int) + 1) → D' k j → D k j) : Lst g n l x D' least :=
  ⟨fun k j d h1 h2 h3 h4 => h.low k j (hD k j h1 h2 h3 d) h1 h2 h3 h4, h.is, h.range⟩
theorem Lst.hit {g : Gr} {n : Nat} {l : List Int} {x : Id} {D : Nat → Nat → Prop} {least : Int} (h : Lst g n l x D least) {k j : Nat} (hk : k < n) (hj : j < grDeg g k) (h0 : 0 ≤ rk l ((k : Int) + 1)) (hx : grTarget g n k j = x) :
    Lst g n l x (fun k' j' => D k' j' ∨ (k' = k ∧ j' = j)) (if rk l ((k : Int) + 1) < least then rk l ((k : Int) + 1) else least) := by
  have hr := h.range
  refine ⟨fun k' j' d h1 h2 h3 h4 => ?_, ?_, by split <;> omega⟩
  · rcases d with d | ⟨rfl, rfl⟩
    · have := h.low k' j' d h1 h2 h3 h4
      split <;> omega
    · split <;> omega
  · split
    · exact .inr ⟨k, j, hk, hj, hx, h0, rfl⟩
    · exact h.is
theorem Lst.miss {g : Gr} {n : Nat} {l : List Int} {x : Id} {D : Nat → Nat → Prop} {least : Int} (h : Lst g n l x D least) {k j : Nat} (hx : grTarget g n k j ≠ x) : Lst g n l x (fun k' j' => D k' j' ∨ (k' = k ∧ j' = j)) least :=
  ⟨fun k' j' d h1 h2 h3 h4 => by
    rcases d with d | ⟨rfl, rfl⟩
    · exact h.low k' j' d h1 h2 h3 h4
    · exact absurd h4 hx, h.is, h.range⟩
theorem Lst.done {g : Gr} {n : Nat} {s : Hs} {B : Int → Int → Prop} {l : List Int} {p : Ps} {x : Id} {r least : Int} (h : Lst g n l x (fun k _ => k < n) least) (hs : GrHs g n s) (hr : RkRd (Edge s) (Rch s B) B n (n + 1) l) (d : Done s B p) (hx : mlook p.met x = some r) (h40 : r ≤ 40) : least = r := by
  obtain ⟨k, o, h1, h2, h3, h4, h5⟩ := d.sound.met x r hx
  have hk := hs.has.1 (show hGet s k ≠ none by rw [h2]; simp)
  obtain ⟨c, hg⟩ := hs.get hk
  rw [h2] at hg
  cases hg
  obtain ⟨y, hy, e1⟩ := grRefs_of h3
  have a1 := hr.least h1
  have a2 := h.low (k.toNat - 1) y (by omega) (by omega) hy (by rw [show ((k.toNat - 1 : Nat) : Int) + 1 = k by omega]; exact a1.1) e1.symm
  rw [show ((k.toNat - 1 : Nat) : Int) + 1 = k by omega] at a2
  rcases h.is with e | ⟨k', j', b1, b2, b3, b4, b5⟩
  · omega
  · obtain ⟨c', hg'⟩ := hs.get (m := (k' : Int) + 1) (by omega)
    rw [show ((k' : Int) + 1).toNat - 1 = k' by omega] at hg'
    have hro : RchO s B x (rk l ((k' : Int) + 1)) := ⟨_, _, hr.ok.sound _ (by omega) b4, hg', by rw [← b3]; exact grRefs_mem b2, h4, h5⟩
    obtain ⟨r', e', l'⟩ := d.leastO hro
    rw [hx] at e'
    cases e'
    omega

set_option maxRecDepth 20000 in
theorem MarkLeast_ok {rp op ip : Option Addr} {rl rc ol oc il ic : Nat} {g : Gr} {grey : Int} {roP : Option Addr} {roL roC : Nat} {ro : List Int} {H : Hp} {K : Value → Hp → Prop} (ga : GrA H rp rl op ol ip il g) (gok : g.ok) (hgr : IntKind.min .i64 ≤ grey ∧ grey ≤ IntKind.max .i64)
    (hr : Rd H 1 roP roL (ro.map (Value.int .i64))) (hl : roL ≤ 9223372036854775807) (hok : ∀ x ∈ ro, IntKind.min .i64 ≤ x ∧ x ≤ IntKind.max .i64) (hK : ∀ H', Keep Nothing H H' → K (.bool true) H') :
    hcall PR f_law13_MarkLeast ⟨[.agg #[.slice rp rl rc, .slice op ol oc, .slice ip il ic], .int .i64 grey, .slice roP roL roC]⟩ H K := by
  apply den_law13_MarkLeast
  unfold B_law13_MarkLeast
  intro b14 hb14
  have h1 := (St.start H).alloc (o := .cells #[.slice rp rl rc, .slice op ol oc, .slice ip il ic] ty_hand_Graph) hb14
  refine ldSl_of (h1.cell (i := 0) rfl rfl) (ldSl_of (h1.cell (i := 0) rfl rfl) (ldSl_of (h1.cell (i := 0) rfl rfl) ?_))
  refine HeapsC (most := 30) (ga.st h1) gok (by omega) fun hb rb s H2 hs h2 => ?_
  have h2 := h1.join h2
  have hn : grSize g 30 ≤ 30 ∧ grSize g 30 ≤ g.refs.length := by unfold grSize; split <;> omega
  generalize grSize g 30 = n at *
  simp only [asI_mk', asB_mk, asP_mk, asA_mk, asM_mk, asSl_mk, asStr_mk, tup2_mk, tup3_mk, agg1_mk, agg2_mk, agg3_mk, agg4_mk, asAggm, unCons_mk, unNil_mk, asTup_mk, extractD0, extractD1, List.toList_toArray, nilP_mk, add_mk, Nat.zero_add, Nat.add_zero, condT, condF, Bool.not_true, Bool.not_false, Option.isNone_some, Option.isNone_none]
  refine known13_ok h2 fun H3 h3 => ?_
  simp only [asI_mk', asB_mk, asP_mk, asA_mk, asM_mk, asSl_mk, asStr_mk, tup2_mk, tup3_mk, agg1_mk, agg2_mk, agg3_mk, agg4_mk, asAggm, unCons_mk, unNil_mk, asTup_mk, extractD0, extractD1, List.toList_toArray, nilP_mk, add_mk, Nat.zero_add, Nat.add_zero, condT, condF, Bool.not_true, Bool.not_false, Option.isNone_some, Option.isNone_none]
  obtain ⟨y1, N1, g1, _, _⟩ := rheapOpenL (i := 1) h3 rfl (.inl rfl)
  refine ldI_of (rheapV g1).last (Pick_ok (by omega) (by omega) ?_)
  have p1 := pick_lt (n := grey) (m := 8) (by omega)
  simp only [asI_mk', asB_mk, asP_mk, asA_mk, asM_mk, asSl_mk, asStr_mk, tup2_mk, tup3_mk, agg1_mk, agg2_mk, agg3_mk, agg4_mk, asAggm, unCons_mk, unNil_mk, asTup_mk, extractD0, extractD1, List.toList_toArray, nilP_mk, add_mk, Nat.zero_add, Nat.add_zero, condT, condF, Bool.not_true, Bool.not_false, Option.isNone_some, Option.isNone_none]
  rw [hs.last]
  have w0 : IntKind.i64.wrap (n : Int) = n := wrap_i64 (by omega) (by omega)
  have w1 : IntKind.i64.wrap (1 + pick grey 8) = 1 + pick grey 8 := wrap_i64 (by omega) (by omega)
  simp only [w0, w1]
  refine pNewOk h3 (by omega) (by omega) fun pb H4 h4 => ?_
  simp only [asI_mk', asB_mk, asP_mk, asA_mk, asM_mk, asSl_mk, asStr_mk, tup2_mk, tup3_mk, agg1_mk, agg2_mk, agg3_mk, agg4_mk, asAggm, unCons_mk, unNil_mk, asTup_mk, extractD0, extractD1, List.toList_toArray, nilP_mk, add_mk, Nat.zero_add, Nat.add_zero, condT, condF, Bool.not_true, Bool.not_false, Option.isNone_some, Option.isNone_none]
  refine mkNewC (pb := pb) (hb := hb) h4 fun mb H5 h5 => ?_
  simp only [asI_mk', asB_mk, asP_mk, asA_mk, asM_mk, asSl_mk, asStr_mk, tup2_mk, tup3_mk, agg1_mk, agg2_mk, agg3_mk, agg4_mk, asAggm, unCons_mk, unNil_mk, asTup_mk, extractD0, extractD1, List.toList_toArray, nilP_mk, add_mk, Nat.zero_add, Nat.add_zero, condT, condF, Bool.not_true, Bool.not_false, Option.isNone_some, Option.isNone_none]
  refine bif_neqf rfl (bif_neqf rfl ?_)
  have hbeg := MkBegun.start (s := s) (n := n) (m := 1 + pick grey 8) hs.len
  generalize newPs (1 + pick grey 8) = p0 at h5 hbeg
  clear g1 h1 h2 h3 h4
  intro R51 hR51
  have hR51 : ∀ (rts : List Int) (p : Ps) fP fC H', rts.length ≤ 6 → (∀ k ∈ rts, 1 ≤ k ∧ k ≤ (n : Int)) → MkBegun s n rts p →
      St H [Prt.row 2 fP rts.length fC (cel Id.cells (rts.map fun k => (⟨1, k⟩ : Id))), MkP mb hb pb ⟨0, false, 0⟩, PaintP pb hb p, HeapP hb s, RHeap rb s, Prt.one b14 (.cells #[.slice rp rl rc, .slice op ol oc, .slice ip il ic] ty_hand_Graph (0, 0))] H' → R51 fP rts.length fC H' := fun rts p fP fC H6 h6l hrts hbg h6 => by
    refine hR51 _ _ _ H6 ?_
    clear hR51 hbeg h5
    have hle2 : (n + 1) * (41 * n) + n ≤ 42 * (n + 2) * (n + 2) := by
      have e1 : (n + 1) * (41 * n) = 41 * ((n + 1) * n) := by rw [Nat.mul_left_comm]
      have e2 : 42 * (n + 2) * (n + 2) = 42 * ((n + 2) * (n + 2)) := Nat.mul_assoc _ _ _
      have e3 : (n + 2) * (n + 2) = (n + 1) * n + (3 * n + 4) := by
        rw [Nat.add_mul, Nat.mul_add, Nat.add_mul]
        omega
      rw [e1, e2, e3]
      omega
    have hL0 : mkLeft s n p ⟨0, false, 0⟩ ≤ (n + 1) * (41 * n) + n := by
      have := hbg.psi
      unfold mkLeft
      simp only [Bool.false_eq_true, if_false, Int.sub_zero, Int.toNat_natCast]
      omega
    refine allC (i := 3) (j := 2) (k := 1) (B := (n + 1) * (41 * n) + n) (Mkd s (grBase s rts) fun k => k ∈ rts) h6 rfl rfl rfl (by decide) (by decide) (by decide) hs.last (by omega) ⟨Int.le_refl _, Int.le_refl _⟩ hL0 hle2 (hbg.mkd hs.ok) (fun p m hp hm hI _ => hI.step hs.ok hp hm grBase_din) fun q p' m' H7 hq hp' hm' hI hend h7 => ?_
    have hdone := hI.done hs.ok hend grBase_or
    have hmet := met_small hs (by omega) hp' hdone.sound
    have h7 : St H [Prt.row 2 fP rts.length fC (cel Id.cells (rts.map fun k => (⟨1, k⟩ : Id))), MkP mb hb pb { m' with pass := false }, PaintP pb hb p', HeapP hb s, RHeap rb s, Prt.one b14 (.cells #[.slice rp rl rc, .slice op ol oc, .slice ip il ic] ty_hand_Graph (0, 0))] H7 := h7
    generalize ({ m' with pass := false } : Mk) = mm at h7
    clear h6 hI hend hL0 hbg
    simp only [asI_mk', asB_mk, asP_mk, asA_mk, asM_mk, asSl_mk, asStr_mk, tup2_mk, tup3_mk, agg1_mk, agg2_mk, agg3_mk, agg4_mk, asAggm, unCons_mk, unNil_mk, asTup_mk, extractD0, extractD1, List.toList_toArray, nilP_mk, add_mk, Nat.zero_add, Nat.add_zero, condT, condF, Bool.not_true, Bool.not_false, Option.isNone_some, Option.isNone_none]
    refine ldSl_of (h7.cell (i := 5) rfl rfl) (ldSl_of (h7.cell (i := 5) rfl rfl) (ldSl_of (h7.cell (i := 5) rfl rfl) ?_))
    refine RanksC (n := n) (roots := rts) h7 ga gok hs (by omega) (fun M H' h' => ?_) hrts (by omega) fun l p0' c0 H8 hrk h8 => ?_
    · exact h'.row_rd (i := M.length) (by rw [List.getElem?_append_right (Nat.le_refl _), Nat.sub_self]; rfl)
    simp only [asI_mk', asB_mk, asP_mk, asA_mk, asM_mk, asSl_mk, asStr_mk, tup2_mk, tup3_mk, agg1_mk, agg2_mk, agg3_mk, agg4_mk, asAggm, unCons_mk, unNil_mk, asTup_mk, extractD0, extractD1, List.toList_toArray, nilP_mk, add_mk, Nat.zero_add, Nat.add_zero, condT, condF, Bool.not_true, Bool.not_false, Option.isNone_some, Option.isNone_none]
    have rkd : ∀ {k : Int}, 0 ≤ k → k ≤ n → l.getD k.toNat 0 = rk l k := fun {k} h0 h1 => by
      unfold rk
      rw [List.getD_eq_getElem?_getD, List.getD_eq_getElem?_getD, List.getElem?_eq_getElem (by rw [hrk.ok.len]; omega)]
      rfl
    obtain ⟨LL, hLL⟩ : ∃ LL : List Prt, LL = [Prt.row 1 p0' (n + 1) c0 (l.map (Value.int .i64)), Prt.row 2 fP rts.length fC (cel Id.cells (rts.map fun k => (⟨1, k⟩ : Id))), MkP mb hb pb mm, PaintP pb hb p', HeapP hb s, RHeap rb s, Prt.one b14 (.cells #[.slice rp rl rc, .slice op ol oc, .slice ip il ic] ty_hand_Graph (0, 0))] := ⟨_, rfl⟩
    have h8 : St H LL H8 := by rw [hLL]; exact h8
    have l0 : LL[0]? = some (Prt.row 1 p0' (n + 1) c0 (l.map (Value.int .i64))) := by rw [hLL]; rfl
    have l3 : LL[3]? = some (PaintP pb hb p') := by rw [hLL]; rfl
    have l4 : LL[4]? = some (HeapP hb s) := by rw [hLL]; rfl
    have l6 : LL[6]? = some (Prt.one b14 (.cells #[.slice rp rl rc, .slice op ol oc, .slice ip il ic] ty_hand_Graph (0, 0))) := by rw [hLL]; rfl
    have rkC : ∀ {k : Int} {H' : Hp} {M : List Prt} {Q : Addr → Prop}, St H (M ++ LL) H' → 0 ≤ k → k ≤ n → (∀ a, hcell H' a = some (.int .i64 (rk l k)) → Q a) → idxA p0' (n + 1) k 1 Q := fun {k H' M Q} h' h0 h1 hQ => by
      refine h'.idxW (i := M.length) (0 : Int) (by rw [List.getElem?_append_right (Nat.le_refl _), Nat.sub_self]; exact l0) h0 (by omega) fun a hca _ => hQ a ?_
      rw [hca, rkd h0 h1]
    clear hLL h7
    refine ⟨fun i H' => ∃ y : Nat, i = ((y + 1 : Nat) : Int) ∧ y ≤ n ∧ St H LL H', fun i _ => ((n : Int) + 1 - i).toNat, ⟨0, rfl, by omega, h8⟩, ?_⟩
    clear h8
    rintro i H9 ⟨y, rfl, hy, h9⟩
    by_cases hc : ((y + 1 : Nat) : Int) ≤ n
    · refine bif_pos hc ?_
      intro R80 hR80
      have hR80 : ∀ H', St H LL H' → R80 H' := fun H' h' => by
        refine hR80 H' ?_
        rw [wrap_i64 (by omega) (by omega)]
        exact ⟨⟨y + 1, by omega, by omega, h'⟩, by (try dsimp only); omega⟩
      have v1 : IntKind.u64.wrap ((y + 1 : Nat) : Int) = ((y + 1 : Nat) : Int) := wrap_u64' (by omega) (by omega)
      rw [v1]
      refine pMarkC h9 l4 l3 (by decide) fun H10 h10 => ?_
      simp only [asI_mk', asB_mk, asP_mk, asA_mk, asM_mk, asSl_mk, asStr_mk, tup2_mk, tup3_mk, agg1_mk, agg2_mk, agg3_mk, agg4_mk, asAggm, unCons_mk, unNil_mk, asTup_mk, extractD0, extractD1, List.toList_toArray, nilP_mk, add_mk, Nat.zero_add, Nat.add_zero, condT, condF, Bool.not_true, Bool.not_false, Option.isNone_some, Option.isNone_none]
      have hny : ¬ hGet s ((y + 1 : Nat) : Int) = none := hs.has.2 ⟨by omega, hc⟩
      rcases hrk.marks hdone (k := ((y + 1 : Nat) : Int)) (by omega) with ⟨hm1, hm2⟩ | ⟨hm1, hm2⟩
      · have e : pMark s p' ((y + 1 : Nat) : Int) = (0, false, false) := by unfold pMark; rw [hm1]
        rw [e]
        simp only [condF]
        refine rkC (M := []) h10 (by omega) hc fun a ha => ldI_of ha ?_
        have hd : decide (rk l ((y + 1 : Nat) : Int) ≥ 0) = false := decide_eq_false (by omega)
        rw [hd]
        simp only [beq_self_eq_true, Bool.not_true, condF]
        exact hR80 H10 h10
      · have e : pMark s p' ((y + 1 : Nat) : Int) = (rk l ((y + 1 : Nat) : Int), false, true) := by
          unfold pMark
          rw [hm1]
          exact if_neg hny
        rw [e]
        simp only [condF]
        refine rkC (M := []) h10 (by omega) hc fun a ha => ldI_of ha ?_
        have hd : decide (rk l ((y + 1 : Nat) : Int) ≥ 0) = true := decide_eq_true (by omega)
        rw [hd]
        simp only [beq_self_eq_true, Bool.not_true, condF, condT]
        refine rkC (M := []) h10 (by omega) hc fun a ha => ldI_of ha (bif_neqf rfl (hR80 H10 h10))
    refine bif_neg hc ?_
    refine pOutsC h9 l3 (by omega) fun q1 c1 H10 h10 => ?_
    obtain ⟨ho1, ho2⟩ := outsOf_ok hp'
    have hol : (outsOf p').length ≤ 400 := by rw [ho2.length_eq]; exact hmet
    simp only [asI_mk', asB_mk, asP_mk, asA_mk, asM_mk, asSl_mk, asStr_mk, tup2_mk, tup3_mk, agg1_mk, agg2_mk, agg3_mk, agg4_mk, asAggm, unCons_mk, unNil_mk, asTup_mk, extractD0, extractD1, List.toList_toArray, nilP_mk, add_mk, Nat.zero_add, Nat.add_zero, condT, condF, Bool.not_true, Bool.not_false, Option.isNone_some, Option.isNone_none]
    refine ⟨fun i H' => ∃ y : Nat, i = y ∧ y ≤ (outsOf p').length ∧ St H (Prt.row 3 q1 (outsOf p').length c1 (cel outC (outsOf p')) :: LL) H', fun i _ => (((outsOf p').length : Int) - i).toNat, ⟨0, rfl, by omega, h10⟩, ?_⟩
    clear h10 h9
    rintro i H11 ⟨z, rfl, hz, h11⟩
    by_cases hcz : (z : Int) < (((outsOf p').length : Nat) : Int)
    rotate_left
    · exact bif_neg hcz (hK H11 h11.keep)
    refine bif_pos hcz ?_
    have hzl : z < (outsOf p').length := by omega
    obtain ⟨e, he⟩ : ∃ e, e = (outsOf p')[z] := ⟨_, rfl⟩
    have hem : e ∈ p'.met := ho2.subset (by rw [he]; exact List.getElem_mem hzl)
    have hlook : mlook p'.met e.1 = some e.2 := mlook_of hp'.met hem
    have h40 := (hp'.ids e hem).2
    have outAt : ∀ {H' : Hp} {M : List Prt} {Q : Addr → Prop}, St H (M ++ (Prt.row 3 q1 (outsOf p').length c1 (cel outC (outsOf p')) :: LL)) H' →
        (∀ a, (∀ (M' : List Prt) (H'' : Hp), St H (M' ++ (Prt.row 3 q1 (outsOf p').length c1 (cel outC (outsOf p')) :: LL)) H'' → hcell H'' a = some (.int .i64 e.1.n) ∧ hcell H'' (a.add 1) = some (.int .u64 e.1.s) ∧ hcell H'' (a.add 2) = some (.int .i64 e.2)) → Q a) → idxA q1 (outsOf p').length (z : Int) 3 Q := fun {H' M Q} h' hQ => by
      have rr : ∀ (M' : List Prt) (H'' : Hp), St H (M' ++ (Prt.row 3 q1 (outsOf p').length c1 (cel outC (outsOf p')) :: LL)) H'' → Rd H'' 3 q1 (outsOf p').length (cel outC (outsOf p')) := fun M' H'' h'' =>
        h''.row_rd (i := M'.length) (by rw [List.getElem?_append_right (Nat.le_refl _), Nat.sub_self]; rfl)
      refine idxS outC_len (noId, 0) (rr M H' h') (by omega) (by omega) (by omega) fun b o hp hlz _ => hQ _ fun M' H'' h'' => ?_
      have ga : ∀ q, q < 3 → hcell H'' ⟨b, o + (z : Int).toNat * 3 + q, none⟩ = (outC e)[q]? := fun q hq => by
        have := (rr M' H'' h'').cel_at' outC_len (noId, 0) (i := (z : Int).toNat) hp hlz hq
        rw [this, List.getD_eq_getElem?_getD, List.getElem?_eq_getElem hlz]
        simp only [Int.toNat_natCast, Option.getD_some, ← he]
      exact ⟨ga 0 (by omega), ga 1 (by omega), ga 2 (by omega)⟩
    refine ⟨fun least k H' => ∃ y : Nat, k = y ∧ y ≤ n ∧ Lst g n l e.1 (fun k' _ => k' < y) least ∧ St H (Prt.row 3 q1 (outsOf p').length c1 (cel outC (outsOf p')) :: LL) H', fun _ k _ => ((n : Int) - k).toNat, ⟨0, rfl, by omega, Lst.start, h11⟩, ?_⟩
    clear h11
    rintro least k H12 ⟨y, rfl, hy, hlst, h12⟩
    by_cases hcy : (y : Int) < n
    rotate_left
    · obtain rfl : y = n := by omega
      refine bif_neg hcy (outAt (M := []) h12 fun a ha => ldI_of (ha [] H12 h12).2.2 (bif_neqf ?_ ?_))
      · exact hlst.done hs hrk hdone hlook h40.2
      · rw [wrap_i64 (by omega) (by omega)]
        exact ⟨⟨z + 1, by omega, by omega, h12⟩, by (try dsimp only); omega⟩
    refine bif_pos hcy ?_
    intro R108 hR108
    have hR108 : ∀ least H', Lst g n l e.1 (fun k' _ => k' < y + 1) least → St H (Prt.row 3 q1 (outsOf p').length c1 (cel outC (outsOf p')) :: LL) H' → R108 least H' := fun least H' hl' h' => by
      refine hR108 _ H' ?_
      rw [wrap_i64 (by omega) (by omega)]
      exact ⟨⟨y + 1, by omega, by omega, hl', h'⟩, by (try dsimp only); omega⟩
    refine ⟨fun least j H' => ∃ w : Nat, j = w ∧ w ≤ 7 ∧ Lst g n l e.1 (fun k' j' => k' < y ∨ (k' = y ∧ j' < w)) least ∧ St H (Prt.row 3 q1 (outsOf p').length c1 (cel outC (outsOf p')) :: LL) H', fun _ j _ => (8 - j).toNat, ⟨0, rfl, by omega, hlst.mono fun k' j' _ _ _ d => d.elim id fun d => absurd d.2 (Nat.not_lt_zero _), h12⟩, ?_⟩
    clear h12 hlst
    rintro least j H13 ⟨w, rfl, hw, hlst, h13⟩
    have v2 : IntKind.i64.wrap ((y : Int) + 1) = (y : Int) + 1 := wrap_i64 (by omega) (by omega)
    rw [v2]
    refine rkC (M := [_]) h13 (by omega) (by omega) fun a ha => ldI_of ha ?_
    by_cases hr0 : rk l ((y : Int) + 1) ≥ 0
    rotate_left
    · refine bif_neg hr0 (hR108 least H13 (hlst.mono fun k' j' _ _ h0 d => ?_) h13)
      by_cases ek : k' = y
      · subst ek; exact absurd h0 hr0
      · exact .inl (by omega)
    refine bif_pos hr0 (ldSl_of (h13.cell (i := 7) l6 rfl) ((ga.st h13).row (i := y) (by omega) fun a q c' ha hrow => ldSl_of ha ?_))
    have all : grDeg g y ≤ w → R108 least H13 := fun hw' => hR108 least H13 (hlst.mono fun k' j' _ hj _ d => by
      by_cases ek : k' = y
      · subst ek; exact .inr ⟨rfl, by omega⟩
      · exact .inl (by omega)) h13
    by_cases hwl : (w : Int) < (((g.refs.getD y []).length : Nat) : Int)
    rotate_left
    · exact bif_neg hwl (all (by have := grDeg_le (g := g) (i := y); omega))
    refine bif_pos hwl ?_
    by_cases hw7 : (w : Int) < 7
    rotate_left
    · exact bif_neg hw7 (all (by have := grDeg_le (g := g) (i := y); omega))
    have hwd : w < grDeg g y := by unfold grDeg; split <;> omega
    refine bif_pos hw7 ?_
    clear all
    intro R125 hR125
    have hR125 : ∀ least H', Lst g n l e.1 (fun k' j' => (k' < y ∨ (k' = y ∧ j' < w)) ∨ (k' = y ∧ j' = w)) least → St H (Prt.row 3 q1 (outsOf p').length c1 (cel outC (outsOf p')) :: LL) H' → R125 least H' := fun least H' hl' h' => by
      refine hR125 _ H' ?_
      rw [wrap_i64 (by omega) (by omega)]
      refine ⟨⟨w + 1, by omega, by omega, hl'.mono fun k' j' _ _ _ d => ?_, h'⟩, by (try dsimp only); omega⟩
      rcases d with d | ⟨d1, d2⟩
      · exact .inl (.inl d)
      · by_cases ej : j' = w
        · exact .inr ⟨d1, ej⟩
        · exact .inl (.inr ⟨d1, by omega⟩)
    refine ldSl_of (h13.cell (i := 7) l6 rfl) (ldSl_of (h13.cell (i := 7) l6 rfl) (ldSl_of (h13.cell (i := 7) l6 rfl) ?_))
    refine outAt (M := []) h13 fun a13 ha13 => ldI_of (ha13 [] H13 h13).1 (ldI_of (ha13 [] H13 h13).2.1 ?_)
    refine TargetC h13 ga gok (by omega) (by omega) (by omega) (by omega) (by omega) fun H14 h14 => ?_
    simp only [asI_mk', asB_mk, asP_mk, asA_mk, asM_mk, asSl_mk, asStr_mk, tup2_mk, tup3_mk, agg1_mk, agg2_mk, agg3_mk, agg4_mk, asAggm, unCons_mk, unNil_mk, asTup_mk, extractD0, extractD1, List.toList_toArray, nilP_mk, add_mk, Nat.zero_add, Nat.add_zero, condT, condF, Bool.not_true, Bool.not_false, Option.isNone_some, Option.isNone_none]
    refine ⟨ldI_of (ha13 [] H14 h14).1 (ldI_of (ha13 [] H14 h14).2.1 rfl), idEq ?_⟩
    simp only [asI_mk', asB_mk, asP_mk, asA_mk, asM_mk, asSl_mk, asStr_mk, tup2_mk, tup3_mk, agg1_mk, agg2_mk, agg3_mk, agg4_mk, asAggm, unCons_mk, unNil_mk, asTup_mk, extractD0, extractD1, List.toList_toArray, nilP_mk, add_mk, Nat.zero_add, Nat.add_zero, condT, condF, Bool.not_true, Bool.not_false, Option.isNone_some, Option.isNone_none]
    by_cases hx : grTarget g n y w = e.1
    · have hx' : (⟨(grTarget g n y w).n, (grTarget g n y w).s⟩ : Id) = ⟨e.1.n, e.1.s⟩ := by rw [hx]
      rw [decide_eq_true hx']
      simp only [condT]
      refine rkC (M := [_]) h14 (by omega) (by omega) fun a ha => ldI_of ha (hR125 _ H14 (hlst.hit (by omega) hwd hr0 hx) h14)
    · have hx' : ¬ (⟨(grTarget g n y w).n, (grTarget g n y w).s⟩ : Id) = ⟨e.1.n, e.1.s⟩ := fun h => hx (Id.ext (congrArg Id.n h) (congrArg Id.s h))
      rw [decide_eq_false hx']
      simp only [condF]
      exact hR125 _ H14 (hlst.miss hx) h14
  -- the roots are shaded
  have hrow0 := h5.row (H' := _) (Own.nil 2) ((Goes.refl Nothing _).less fun c hc => absurd hc blk_none)
  refine ⟨fun fP fL fC i H' => ∃ (rts : List Int) (p : Ps), i = rts.length ∧ fL = rts.length ∧ rts.length ≤ 6 ∧ (∀ k ∈ rts, 1 ≤ k ∧ k ≤ (n : Int)) ∧ MkBegun s n rts p ∧
      St H [Prt.row 2 fP rts.length fC (cel Id.cells (rts.map fun k => (⟨1, k⟩ : Id))), MkP mb hb pb ⟨0, false, 0⟩, PaintP pb hb p, HeapP hb s, RHeap rb s, Prt.one b14 (.cells #[.slice rp rl rc, .slice op ol oc, .slice ip il ic] ty_hand_Graph (0, 0))] H', fun _ _ _ i _ => (6 - i).toNat,
    ⟨[], p0, rfl, rfl, by simp, fun k hk => (by cases hk), hbeg, hrow0⟩, ?_⟩
  clear hrow0 h5 hbeg
  rintro fP fL fC i H6 ⟨rts, p, rfl, rfl, h6l, hrts, hbg, h6⟩
  by_cases hc : ((rts.length : Nat) : Int) < roL
  rotate_left
  · exact bif_neg hc (hR51 rts p fP fC H6 h6l hrts hbg h6)
  refine bif_pos hc ?_
  by_cases hc6 : ((rts.length : Nat) : Int) < 6
  rotate_left
  · exact bif_neg hc6 (hR51 rts p fP fC H6 h6l hrts hbg h6)
  refine bif_pos hc6 ?_
  by_cases hn0 : (n : Int) > 0
  rotate_left
  · exact bif_neg hn0 (hR51 rts p fP fC H6 h6l hrts hbg h6)
  refine bif_pos hn0 ?_
  clear hR51
  refine idx1 (d := (0 : Int)) (h6.rd hr) (by omega) hc fun b o _ hcl => ldI_of hcl (Pick_ok' (by omega) (by omega) ?_)
  generalize ro.getD ((rts.length : Nat) : Int).toNat 0 = x
  have p3 := pick_lt (n := x) (m := (n : Int)) (by omega)
  simp only [asI_mk', asB_mk, asP_mk, asA_mk, asM_mk, asSl_mk, asStr_mk, tup2_mk, tup3_mk, agg1_mk, agg2_mk, agg3_mk, agg4_mk, asAggm, unCons_mk, unNil_mk, asTup_mk, extractD0, extractD1, List.toList_toArray, nilP_mk, add_mk, Nat.zero_add, Nat.add_zero, condT, condF, Bool.not_true, Bool.not_false, Option.isNone_some, Option.isNone_none]
  have v1 : IntKind.i64.wrap (1 + pick x n) = 1 + pick x n := wrap_i64 (by omega) (by omega)
  have v2 : IntKind.u64.wrap (1 + pick x n) = 1 + pick x n := wrap_u64' (by omega) (by omega)
  rw [v1, v2]
  generalize hk : 1 + pick x n = k
  refine lit_ty_Sapi_ID (m := 1) (c := #[.int .i64 1, .int .u64 k]) (h6.row_own (i := 0) rfl) rfl (fun z hz => by simp at hz; rcases hz with rfl | rfl <;> rfl) (by omega) fun p' cap' H7 ho' hg' => ?_
  simp only [asI_mk', asB_mk, asP_mk, asA_mk, asM_mk, asSl_mk, asStr_mk, tup2_mk, tup3_mk, agg1_mk, agg2_mk, agg3_mk, agg4_mk, asAggm, unCons_mk, unNil_mk, asTup_mk, extractD0, extractD1, List.toList_toArray, nilP_mk, add_mk, Nat.zero_add, Nat.add_zero, condT, condF, Bool.not_true, Bool.not_false, Option.isNone_some, Option.isNone_none]
  have h7 := h6.row_to (i := 0) rfl ho' hg'
  have e1 : cel Id.cells (rts.map fun k => (⟨1, k⟩ : Id)) ++ (#[Value.int .i64 1, .int .u64 k] : Array Value).toList = cel Id.cells ((rts ++ [k]).map fun k => (⟨1, k⟩ : Id)) := by
    rw [List.map_append, cel_append]
    rfl
  rw [e1] at h7
  have hlen : rts.length + 1 = (rts ++ [k]).length := by simp
  rw [hlen] at h7 ⊢
  have h7 : St H [Prt.row 2 p' (rts ++ [k]).length cap' (cel Id.cells ((rts ++ [k]).map fun k => (⟨1, k⟩ : Id))), MkP mb hb pb ⟨0, false, 0⟩, PaintP pb hb p, HeapP hb s, RHeap rb s, Prt.one b14 (.cells #[.slice rp rl rc, .slice op ol oc, .slice ip il ic] ty_hand_Graph (0, 0))] H7 := h7
  have hget : ((rts ++ [k]).map fun k => (⟨1, k⟩ : Id)).getD ((rts.length : Nat) : Int).toNat noId = ⟨1, k⟩ := by
    rw [Int.toNat_natCast, List.getD_eq_getElem?_getD, List.getElem?_map, List.getElem?_append_right (Nat.le_refl _), Nat.sub_self]
    rfl
  refine idxS Id.len noId (h7.row_rd (i := 0) rfl) (by omega) (by omega) (by simp; omega) fun b o hp hlz hcs => ?_
  have c0 := hcs 0 (by omega)
  have c1 := hcs 1 (by omega)
  rw [hget] at c0 c1
  simp only [asI_mk', asB_mk, asP_mk, asA_mk, asM_mk, asSl_mk, asStr_mk, tup2_mk, tup3_mk, agg1_mk, agg2_mk, agg3_mk, agg4_mk, asAggm, unCons_mk, unNil_mk, asTup_mk, extractD0, extractD1, List.toList_toArray, nilP_mk, add_mk, Nat.zero_add, Nat.add_zero, condT, condF, Bool.not_true, Bool.not_false, Option.isNone_some, Option.isNone_none]
  refine ldI_of c0 (ldI_of c1 ?_)
  refine pShadeC (y := ⟨1, k⟩) h7 (i := 3) (j := 2) rfl rfl (by decide) fun H8 h8 => ?_
  have hp6 := paint_ok h7 (j := 2) rfl
  have hnext := hbg.next (k := k) hs.node hp6 (by omega) (hs.has.2 (by omega))
  rw [wrap_i64 (by omega) (by omega)]
  exact ⟨⟨rts ++ [k], _, by simp, rfl, by simp; omega, fun a ha => by
    rcases List.mem_append.1 ha with ha | ha
    · exact hrts a ha
    · simp at ha; omega, hnext, h8⟩, by (try dsimp only); omega⟩

set_option maxRecDepth 20000 in
theorem MarkSmall_ok {rp op ip : Option Addr} {rl rc ol oc il ic : Nat} {g : Gr} {a b : Int} {H : Hp} {K : Value → Hp → Prop} (ga : GrA H rp rl op ol ip il g) (gok : g.ok) (ha : IntKind.min .i64 ≤ a ∧ a ≤ IntKind.max .i64) (hb' : IntKind.min .i64 ≤ b ∧ b ≤ IntKind.max .i64)
    (hK : ∀ H', Keep Nothing H H' → K (.bool true) H') : hcall PR f_law13_MarkSmall ⟨[.agg #[.slice rp rl rc, .slice op ol oc, .slice ip il ic], .int .i64 a, .int .i64 b]⟩ H K := by
  apply den_law13_MarkSmall
  unfold B_law13_MarkSmall
  intro b14 hb14
  have h1 := (St.start H).alloc (o := .cells #[.slice rp rl rc, .slice op ol oc, .slice ip il ic] ty_hand_Graph) hb14
  refine ldSl_of (h1.cell (i := 0) rfl rfl) (ldSl_of (h1.cell (i := 0) rfl rfl) (ldSl_of (h1.cell (i := 0) rfl rfl) ?_))
  refine HeapsC (most := 30) (ga.st h1) gok (by omega) fun hb rb s H2 hs h2 => ?_
  have h2 := h1.join h2
  have hn : grSize g 30 ≤ 30 ∧ grSize g 30 ≤ g.refs.length := by unfold grSize; split <;> omega
  generalize grSize g 30 = n at *
  simp only [asI_mk', asB_mk, asP_mk, asA_mk, asM_mk, asSl_mk, asStr_mk, tup2_mk, tup3_mk, agg1_mk, agg2_mk, agg3_mk, agg4_mk, asAggm, unCons_mk, unNil_mk, asTup_mk, extractD0, extractD1, List.toList_toArray, nilP_mk, add_mk, Nat.zero_add, Nat.add_zero, condT, condF, Bool.not_true, Bool.not_false, Option.isNone_some, Option.isNone_none]
  refine known13_ok h2 fun H3 h3 => ?_
  simp only [asI_mk', asB_mk, asP_mk, asA_mk, asM_mk, asSl_mk, asStr_mk, tup2_mk, tup3_mk, agg1_mk, agg2_mk, agg3_mk, agg4_mk, asAggm, unCons_mk, unNil_mk, asTup_mk, extractD0, extractD1, List.toList_toArray, nilP_mk, add_mk, Nat.zero_add, Nat.add_zero, condT, condF, Bool.not_true, Bool.not_false, Option.isNone_some, Option.isNone_none]
  obtain ⟨y1, N1, g1, _, _⟩ := rheapOpenL (i := 1) h3 rfl (.inl rfl)
  refine ldI_of (rheapV g1).last (Pick_ok (by omega) (by omega) ?_)
  have p1 := pick_lt (n := a) (m := 64) (by omega)
  have p2 := pick_lt (n := b) (m := 64) (by omega)
  simp only [asI_mk', asB_mk, asP_mk, asA_mk, asM_mk, asSl_mk, asStr_mk, tup2_mk, tup3_mk, agg1_mk, agg2_mk, agg3_mk, agg4_mk, asAggm, unCons_mk, unNil_mk, asTup_mk, extractD0, extractD1, List.toList_toArray, nilP_mk, add_mk, Nat.zero_add, Nat.add_zero, condT, condF, Bool.not_true, Bool.not_false, Option.isNone_some, Option.isNone_none]
  rw [hs.last]
  have w0 : IntKind.i64.wrap (n : Int) = n := wrap_i64 (by omega) (by omega)
  have w1 : IntKind.i64.wrap (1 + pick a 64) = 1 + pick a 64 := wrap_i64 (by omega) (by omega)
  have w2 : IntKind.i64.wrap (1 + pick b 64) = 1 + pick b 64 := wrap_i64 (by omega) (by omega)
  simp only [w0, w1, w2]
  refine pNewOk h3 (by omega) (by omega) fun pb H4 h4 => ?_
  simp only [asI_mk', asB_mk, asP_mk, asA_mk, asM_mk, asSl_mk, asStr_mk, tup2_mk, tup3_mk, agg1_mk, agg2_mk, agg3_mk, agg4_mk, asAggm, unCons_mk, unNil_mk, asTup_mk, extractD0, extractD1, List.toList_toArray, nilP_mk, add_mk, Nat.zero_add, Nat.add_zero, condT, condF, Bool.not_true, Bool.not_false, Option.isNone_some, Option.isNone_none]
  refine Pick_ok (by omega) (by omega) ?_
  simp only [asI_mk', asB_mk, asP_mk, asA_mk, asM_mk, asSl_mk, asStr_mk, tup2_mk, tup3_mk, agg1_mk, agg2_mk, agg3_mk, agg4_mk, asAggm, unCons_mk, unNil_mk, asTup_mk, extractD0, extractD1, List.toList_toArray, nilP_mk, add_mk, Nat.zero_add, Nat.add_zero, condT, condF, Bool.not_true, Bool.not_false, Option.isNone_some, Option.isNone_none]
  rw [w2]
  refine pNewOk h4 (by omega) (by omega) fun qb H5 h5 => ?_
  simp only [asI_mk', asB_mk, asP_mk, asA_mk, asM_mk, asSl_mk, asStr_mk, tup2_mk, tup3_mk, agg1_mk, agg2_mk, agg3_mk, agg4_mk, asAggm, unCons_mk, unNil_mk, asTup_mk, extractD0, extractD1, List.toList_toArray, nilP_mk, add_mk, Nat.zero_add, Nat.add_zero, condT, condF, Bool.not_true, Bool.not_false, Option.isNone_some, Option.isNone_none]
  refine mkNewC (pb := pb) (hb := hb) h5 fun mb H6 h6 => ?_
  simp only [asI_mk', asB_mk, asP_mk, asA_mk, asM_mk, asSl_mk, asStr_mk, tup2_mk, tup3_mk, agg1_mk, agg2_mk, agg3_mk, agg4_mk, asAggm, unCons_mk, unNil_mk, asTup_mk, extractD0, extractD1, List.toList_toArray, nilP_mk, add_mk, Nat.zero_add, Nat.add_zero, condT, condF, Bool.not_true, Bool.not_false, Option.isNone_some, Option.isNone_none]
  refine mkNewC (pb := qb) (hb := hb) h6 fun nb H7 h7 => ?_
  simp only [asI_mk', asB_mk, asP_mk, asA_mk, asM_mk, asSl_mk, asStr_mk, tup2_mk, tup3_mk, agg1_mk, agg2_mk, agg3_mk, agg4_mk, asAggm, unCons_mk, unNil_mk, asTup_mk, extractD0, extractD1, List.toList_toArray, nilP_mk, add_mk, Nat.zero_add, Nat.add_zero, condT, condF, Bool.not_true, Bool.not_false, Option.isNone_some, Option.isNone_none]
  refine bif_neqf rfl (bif_neqf rfl (bif_neqf rfl (bif_neqf rfl ?_)))
  have b1 := MkBegun.start (s := s) (n := n) (m := 1 + pick a 64) hs.len
  have b2 := MkBegun.start (s := s) (n := n) (m := 1 + pick b 64) hs.len
  generalize newPs (1 + pick a 64) = p0 at h7 b1
  generalize newPs (1 + pick b 64) = q0 at h7 b2
  have h7 : St H [MkP nb hb qb ⟨0, false, 0⟩, MkP mb hb pb ⟨0, false, 0⟩, PaintP qb hb q0, PaintP pb hb p0, HeapP hb s, RHeap rb s, Prt.one b14 (.cells #[.slice rp rl rc, .slice op ol oc, .slice ip il ic] ty_hand_Graph (0, 0))] H7 := h7
  clear g1 h1 h2 h3 h4 h5 h6
  have hle2 : (n + 1) * (41 * n) + n ≤ 42 * (n + 2) * (n + 2) := by
    have e1 : (n + 1) * (41 * n) = 41 * ((n + 1) * n) := by rw [Nat.mul_left_comm]
    have e2 : 42 * (n + 2) * (n + 2) = 42 * ((n + 2) * (n + 2)) := Nat.mul_assoc _ _ _
    have e3 : (n + 2) * (n + 2) = (n + 1) * n + (3 * n + 4) := by
      rw [Nat.add_mul, Nat.mul_add, Nat.add_mul]
      omega
    rw [e1, e2, e3]
    omega
  have hL0 : ∀ p, MkBegun s n [] p → mkLeft s n p ⟨0, false, 0⟩ ≤ (n + 1) * (41 * n) + n := fun p hbg => by
    have := hbg.psi
    unfold mkLeft
    simp only [Bool.false_eq_true, if_false, Int.sub_zero, Int.toNat_natCast]
    omega
  refine allC (i := 4) (j := 3) (k := 1) (B := (n + 1) * (41 * n) + n) (Mkd s (grBase s []) fun k => k ∈ ([] : List Int)) h7 rfl rfl rfl (by decide) (by decide) (by decide) hs.last (by omega) ⟨Int.le_refl _, Int.le_refl _⟩ (hL0 p0 b1) hle2 (b1.mkd hs.ok) (fun p m hp hm hI _ => hI.step hs.ok hp hm grBase_din) fun q p m H8 _ hp hm hI hend h8 => ?_
  have d1 := hI.done hs.ok hend grBase_or
  have h8 : St H [MkP nb hb qb ⟨0, false, 0⟩, MkP mb hb pb { m with pass := false }, PaintP qb hb q0, PaintP pb hb p, HeapP hb s, RHeap rb s, Prt.one b14 (.cells #[.slice rp rl rc, .slice op ol oc, .slice ip il ic] ty_hand_Graph (0, 0))] H8 := h8
  generalize ({ m with pass := false } : Mk) = mm at h8
  clear hI hend h7 b1
  simp only [asI_mk', asB_mk, asP_mk, asA_mk, asM_mk, asSl_mk, asStr_mk, tup2_mk, tup3_mk, agg1_mk, agg2_mk, agg3_mk, agg4_mk, asAggm, unCons_mk, unNil_mk, asTup_mk, extractD0, extractD1, List.toList_toArray, nilP_mk, add_mk, Nat.zero_add, Nat.add_zero, condT, condF, Bool.not_true, Bool.not_false, Option.isNone_some, Option.isNone_none]
  refine allC (i := 4) (j := 2) (k := 0) (B := (n + 1) * (41 * n) + n) (Mkd s (grBase s []) fun k => k ∈ ([] : List Int)) h8 rfl rfl rfl (by decide) (by decide) (by decide) hs.last (by omega) ⟨Int.le_refl _, Int.le_refl _⟩ (hL0 q0 b2) hle2 (b2.mkd hs.ok) (fun p m hp hm hI _ => hI.step hs.ok hp hm grBase_din) fun _ q m' H9 _ hq hm' hI hend h9 => ?_
  have d2 := hI.done hs.ok hend grBase_or
  have h9 : St H [MkP nb hb qb { m' with pass := false }, MkP mb hb pb mm, PaintP qb hb q, PaintP pb hb p, HeapP hb s, RHeap rb s, Prt.one b14 (.cells #[.slice rp rl rc, .slice op ol oc, .slice ip il ic] ty_hand_Graph (0, 0))] H9 := h9
  generalize ({ m' with pass := false } : Mk) = mm' at h9
  clear hI hend h8 b2
  simp only [asI_mk', asB_mk, asP_mk, asA_mk, asM_mk, asSl_mk, asStr_mk, tup2_mk, tup3_mk, agg1_mk, agg2_mk, agg3_mk, agg4_mk, asAggm, unCons_mk, unNil_mk, asTup_mk, extractD0, extractD1, List.toList_toArray, nilP_mk, add_mk, Nat.zero_add, Nat.add_zero, condT, condF, Bool.not_true, Bool.not_false, Option.isNone_some, Option.isNone_none]
  have l1 := met_small hs (by omega) hp d1.sound
  have l2 := met_small hs (by omega) hq d2.sound
  have hmk : ∀ k, pMark s p k = pMark s q k := fun k => by unfold pMark; rw [d1.same d2 k]
  have houts : outsOf p = outsOf q := by
    obtain ⟨k1, k2⟩ := outsOf_ok hp
    refine outsOf_is hq k1 ?_
    have hn1 : p.met.Nodup := (List.Pairwise.of_map (·.1) (fun a b h e => h (by rw [e])) hp.met)
    have hn2 : q.met.Nodup := (List.Pairwise.of_map (·.1) (fun a b h e => h (by rw [e])) hq.met)
    refine k2.trans ((List.perm_ext_iff_of_nodup hn1 hn2).2 fun e => ?_)
    constructor
    · intro he
      have := mlook_of hp.met (k := e.1) (x := e.2) he
      rw [d1.sameMet d2] at this
      exact mlook_mem this
    · intro he
      have := mlook_of hq.met (k := e.1) (x := e.2) he
      rw [← d1.sameMet d2] at this
      exact mlook_mem this
  refine ⟨fun i H' => ∃ y : Nat, i = ((y + 1 : Nat) : Int) ∧ y ≤ n ∧ St H [MkP nb hb qb mm', MkP mb hb pb mm, PaintP qb hb q, PaintP pb hb p, HeapP hb s, RHeap rb s, Prt.one b14 (.cells #[.slice rp rl rc, .slice op ol oc, .slice ip il ic] ty_hand_Graph (0, 0))] H', fun i _ => ((n : Int) + 1 - i).toNat, ⟨0, rfl, by omega, h9⟩, ?_⟩
  clear h9
  rintro i H10 ⟨y, rfl, hy, h10⟩
  obtain ⟨y1, N1, g1, _, _⟩ := rheapOpenL (i := 5) h10 rfl (.inl rfl)
  simp only [asI_mk', asB_mk, asP_mk, asA_mk, asM_mk, asSl_mk, asStr_mk, tup2_mk, tup3_mk, agg1_mk, agg2_mk, agg3_mk, agg4_mk, asAggm, unCons_mk, unNil_mk, asTup_mk, extractD0, extractD1, List.toList_toArray, nilP_mk, add_mk, Nat.zero_add, Nat.add_zero, condT, condF, Bool.not_true, Bool.not_false, Option.isNone_some, Option.isNone_none]
  refine ldI_of (rheapV g1).last ?_
  rw [hs.last]
  clear g1
  by_cases hc : ((y + 1 : Nat) : Int) ≤ n
  · refine bif_pos hc (pMarkC h10 (i := 4) (j := 3) rfl rfl (by decide) fun H11 h11 => ?_)
    simp only [asI_mk', asB_mk, asP_mk, asA_mk, asM_mk, asSl_mk, asStr_mk, tup2_mk, tup3_mk, agg1_mk, agg2_mk, agg3_mk, agg4_mk, asAggm, unCons_mk, unNil_mk, asTup_mk, extractD0, extractD1, List.toList_toArray, nilP_mk, add_mk, Nat.zero_add, Nat.add_zero, condT, condF, Bool.not_true, Bool.not_false, Option.isNone_some, Option.isNone_none]
    refine pMarkC h11 (i := 4) (j := 2) rfl rfl (by decide) fun H12 h12 => ?_
    rw [hmk]
    simp only [asI_mk', asB_mk, asP_mk, asA_mk, asM_mk, asSl_mk, asStr_mk, tup2_mk, tup3_mk, agg1_mk, agg2_mk, agg3_mk, agg4_mk, asAggm, unCons_mk, unNil_mk, asTup_mk, extractD0, extractD1, List.toList_toArray, nilP_mk, add_mk, Nat.zero_add, Nat.add_zero, condT, condF, Bool.not_true, Bool.not_false, Option.isNone_some, Option.isNone_none]
    refine bif_neqf rfl ?_
    simp only [beq_self_eq_true, Bool.not_true, condF]
    have v1 : IntKind.u64.wrap (((y + 1 : Nat) : Int) + 1) = ((y + 1 + 1 : Nat) : Int) := by rw [wrap_u64' (by omega) (by omega)]; omega
    rw [v1]
    exact ⟨⟨y + 1, by omega, by omega, h12⟩, by (try dsimp only); omega⟩
  · refine bif_neg hc ?_
    (try simp only [condT])
    refine pOutsC h10 (j := 3) rfl (by omega) fun q1 c1 H11 h11 => ?_
    simp only [asI_mk', asB_mk, asP_mk, asA_mk, asM_mk, asSl_mk, asStr_mk, tup2_mk, tup3_mk, agg1_mk, agg2_mk, agg3_mk, agg4_mk, asAggm, unCons_mk, unNil_mk, asTup_mk, extractD0, extractD1, List.toList_toArray, nilP_mk, add_mk, Nat.zero_add, Nat.add_zero, condT, condF, Bool.not_true, Bool.not_false, Option.isNone_some, Option.isNone_none]
    refine pOutsC h11 (j := 3) rfl (by omega) fun q2 c2 H12 h12 => ?_
    simp only [asI_mk', asB_mk, asP_mk, asA_mk, asM_mk, asSl_mk, asStr_mk, tup2_mk, tup3_mk, agg1_mk, agg2_mk, agg3_mk, agg4_mk, asAggm, unCons_mk, unNil_mk, asTup_mk, extractD0, extractD1, List.toList_toArray, nilP_mk, add_mk, Nat.zero_add, Nat.add_zero, condT, condF, Bool.not_true, Bool.not_false, Option.isNone_some, Option.isNone_none]
    have hlen : (outsOf q).length ≤ 400 := by rw [(outsOf_ok hq).2.length_eq]; exact l2
    rw [houts] at h12 ⊢
    refine handOutsC (h12.row_rd (i := 1) rfl) (h12.row_rd (i := 0) rfl) (by omega) ?_
    simp only [asI_mk', asB_mk, asP_mk, asA_mk, asM_mk, asSl_mk, asStr_mk, tup2_mk, tup3_mk, agg1_mk, agg2_mk, agg3_mk, agg4_mk, asAggm, unCons_mk, unNil_mk, asTup_mk, extractD0, extractD1, List.toList_toArray, nilP_mk, add_mk, Nat.zero_add, Nat.add_zero, condT, condF, Bool.not_true, Bool.not_false, Option.isNone_some, Option.isNone_none]
    exact hK H12 h12.keep

end Go.Proofs.Ytohlnmenghbgbaa
