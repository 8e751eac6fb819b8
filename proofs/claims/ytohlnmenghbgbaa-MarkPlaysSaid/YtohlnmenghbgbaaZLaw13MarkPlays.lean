/- Merged by merge.py: DenLaw13, DenLaw13MarkEnds, DenLaw13MarkKnown, DenLaw13MarkPlays, Law13, Law13p. No condition. -/
import Derived.Test.YtohlnmenghbgbaaZNum
import Derived.Test.YtohlnmenghbgbaaZMark
import Derived.Test.YtohlnmenghbgbaaZSweep
import Derived.Test.YtohlnmenghbgbaaZPaint

/- PRINTED by gen.py: functions as plain propositions, held against the program by the kernel. No condition. -/
namespace Go.Proofs.Ytohlnmenghbgbaa
open Go
set_option linter.unusedVariables false
set_option maxRecDepth 100000

def B_law13_known  (H : Hp) (K : Value → Hp → Prop) : Prop :=
 newB (.cells #[(.slice none 0 0)] ty_Sint) H fun b1 Hx2 =>
 newB (.cells #[(.int .i64 8)] ty_int) Hx2 fun b3 Hx4 =>
 newB (.cells #[(.slice none 0 0), (.slice none 0 0), (.slice none 0 0)] ty_hand_Graph) Hx4 fun b5 Hx6 =>
 st ⟨b5, 0, none⟩ (.slice (some ⟨b1, 0, none⟩) 1 1) Hx6 fun Hx7 =>
 st ⟨b5, 1, none⟩ (.slice none 0 0) Hx7 fun Hx8 =>
 st ⟨b5, 2, none⟩ (.slice (some ⟨b3, 0, none⟩) 1 1) Hx8 fun Hx9 =>
 ldSl ⟨b5, 0, none⟩ Hx9 fun RefsP10 RefsL11 RefsC12 =>
 ldSl ⟨b5, 1, none⟩ Hx9 fun OutP13 OutL14 OutC15 =>
 ldSl ⟨b5, 2, none⟩ Hx9 fun InP16 InL17 InC18 =>
 hcall PR f_hand_Graph_Heaps ⟨[(.agg #[(.slice RefsP10 RefsL11 RefsC12), (.slice OutP13 OutL14 OutC15), (.slice InP16 InL17 InC18)]), (.int .i64 3)]⟩ Hx9 fun v19 Hx20 =>
 tup2 v19 fun v21 v22 =>
 asP v21 fun t23 =>
 asP v22 fun t24 =>
 (bif (Option.isNone (α := Addr) t23) then
 K (.bool false) Hx20
else
 hcall PR f_paint_New ⟨[(.pointer t23), (.int .i64 2)]⟩ Hx20 fun v25 Hx26 =>
 tup2 v25 fun v27 v28 =>
 asP v27 fun t29 =>
 asI .i64 v28 fun t30 =>
 hcall PR f_mark_New ⟨[(.pointer t23), (.pointer t29)]⟩ Hx26 fun v31 Hx32 =>
 tup2 v31 fun v33 v34 =>
 asP v33 fun t35 =>
 asI .i64 v34 fun t36 =>
 (bif ((t30 : Int) != 0) then
 K (.bool false) Hx32
else
 (bif ((t36 : Int) != 0) then
 K (.bool false) Hx32
else
 (bif (Option.isNone (α := Addr) t29) then
 K (.bool false) Hx32
else
 (bif (Option.isNone (α := Addr) t35) then
 K (.bool false) Hx32
else
 hcall PR f_mark_Marker_Step ⟨[(.pointer t35)]⟩ Hx32 fun v37 Hx38 =>
 asB v37 fun t39 =>
 hcall PR f_paint_Paint_Mark ⟨[(.pointer t29), (.int .u64 1)]⟩ Hx38 fun v40 Hx41 =>
 tup3 v40 fun v42 v43 v44 =>
 asI .i64 v42 fun t45 =>
 asB v43 fun t46 =>
 asB v44 fun t47 =>
 hcall PR f_mark_Marker_Step ⟨[(.pointer t35)]⟩ Hx41 fun v48 Hx49 =>
 asB v48 fun t50 =>
 hcall PR f_mark_Marker_Step ⟨[(.pointer t35)]⟩ Hx49 fun v51 Hx52 =>
 asB v51 fun t53 =>
 (bif t39 then
 (bif ((t45 : Int) == 2) then
 (bif t46 then
 (bif t47 then
 (bif t50 then
 K (.bool (!t53)) Hx52
else
 K (.bool false) Hx52)
else
 K (.bool false) Hx52)
else
 K (.bool false) Hx52)
else
 K (.bool false) Hx52)
else
 K (.bool false) Hx52))))))
theorem E_law13_known  (H : Hp) (K : Value → Hp → Prop) : B_law13_known  H K = denF Try.prog Try.f61 .n [] H K := by kernel_rfl
theorem den_law13_known  {H : Hp} {K : Value → Hp → Prop} (h : B_law13_known  H K) : hcall PR f_law13_known ⟨[]⟩ H K := denF_call Try.func61 PR_mixed (Eq.mp (E_law13_known  H K) h)

def B_law13_all (m1 : Option Addr) (n2 : Int) (H : Hp) (K : Value → Hp → Prop) : Prop :=
 ∃ (I3 : Int → Hp → Prop) (m4 : Int → Hp → Nat), I3 0 H ∧ ∀ k6 : Int, ∀ Hx5 : Hp, I3 k6 Hx5 →
 (bif (decide ((k6 : Int) ≤ (IntKind.i64.wrap ((IntKind.i64.wrap (42 * (IntKind.i64.wrap (n2 + 2)))) * (IntKind.i64.wrap (n2 + 2)))))) then
 hcall PR f_mark_Marker_Step ⟨[(.pointer m1)]⟩ Hx5 fun v7 Hx8 =>
 asB v7 fun t9 =>
 (bif (!t9) then
 K (.tuple #[(.int .i64 k6), (.bool true)]) Hx8
else
 I3 (IntKind.i64.wrap (k6 + 1)) Hx8 ∧ m4 (IntKind.i64.wrap (k6 + 1)) Hx8 < m4 k6 Hx5)
else
 K (.tuple #[(.int .i64 0), (.bool false)]) Hx5)
theorem E_law13_all (m1 : Option Addr) (n2 : Int) (H : Hp) (K : Value → Hp → Prop) : B_law13_all m1 n2 H K = denF Try.prog Try.f64 (.seq none .n (.seq none (.seq none .n (.sub (.loop ⟨[(6, .int .i64)], [0, 1]⟩ .n))) .n)) [(.pointer m1), (.int .i64 n2)] H K := by kernel_rfl
theorem den_law13_all {m1 : Option Addr} {n2 : Int} {H : Hp} {K : Value → Hp → Prop} (h : B_law13_all m1 n2 H K) : hcall PR f_law13_all ⟨[(.pointer m1), (.int .i64 n2)]⟩ H K := denF_call Try.func64 PR_mixed (Eq.mp (E_law13_all m1 n2 H K) h)

end Go.Proofs.Ytohlnmenghbgbaa

/- PRINTED by gen.py: functions as plain propositions, held against the program by the kernel. No condition. -/
namespace Go.Proofs.Ytohlnmenghbgbaa
open Go
set_option linter.unusedVariables false
set_option maxRecDepth 100000

def B_law13_MarkEnds (gRefsP1 : Option Addr) (gRefsL2 : Nat) (gRefsC3 : Nat) (gOutP4 : Option Addr) (gOutL5 : Nat) (gOutC6 : Nat) (gInP7 : Option Addr) (gInL8 : Nat) (gInC9 : Nat) (grey10 : Int) (H : Hp) (K : Value → Hp → Prop) : Prop :=
 newB (.cells #[(.slice gRefsP1 gRefsL2 gRefsC3), (.slice gOutP4 gOutL5 gOutC6), (.slice gInP7 gInL8 gInC9)] ty_hand_Graph) H fun b11 Hx12 =>
 ldSl ⟨b11, 0, none⟩ Hx12 fun RefsP13 RefsL14 RefsC15 =>
 ldSl ⟨b11, 1, none⟩ Hx12 fun OutP16 OutL17 OutC18 =>
 ldSl ⟨b11, 2, none⟩ Hx12 fun InP19 InL20 InC21 =>
 hcall PR f_hand_Graph_Heaps ⟨[(.agg #[(.slice RefsP13 RefsL14 RefsC15), (.slice OutP16 OutL17 OutC18), (.slice InP19 InL20 InC21)]), (.int .i64 40)]⟩ Hx12 fun v22 Hx23 =>
 tup2 v22 fun v24 v25 =>
 asP v24 fun t26 =>
 asP v25 fun t27 =>
 hcall PR f_law13_known ⟨[]⟩ Hx23 fun v28 Hx29 =>
 asB v28 fun t30 =>
 (bif (!t30) then
 K (.bool false) Hx29
else
 (bif (Option.isNone (α := Addr) t26) then
 K (.bool false) Hx29
else
 nilP t27 fun ta31 =>
 ldI .u64 (ta31.add 2) Hx29 fun Last32 =>
 hcall PR f_hand_Pick ⟨[(.int .i64 grey10), (.int .i64 8)]⟩ Hx29 fun v33 Hx34 =>
 asI .i64 v33 fun t35 =>
 hcall PR f_paint_New ⟨[(.pointer t26), (.int .i64 (IntKind.i64.wrap (1 + t35)))]⟩ Hx34 fun v36 Hx37 =>
 tup2 v36 fun v38 v39 =>
 asP v38 fun t40 =>
 asI .i64 v39 fun t41 =>
 hcall PR f_mark_New ⟨[(.pointer t26), (.pointer t40)]⟩ Hx37 fun v42 Hx43 =>
 tup2 v42 fun v44 v45 =>
 asP v44 fun t46 =>
 asI .i64 v45 fun t47 =>
 (bif ((t41 : Int) != 0) then
 K (.bool false) Hx43
else
 (bif ((t47 : Int) != 0) then
 K (.bool false) Hx43
else
 (bif (Option.isNone (α := Addr) t40) then
 K (.bool false) Hx43
else
 (bif (Option.isNone (α := Addr) t46) then
 K (.bool false) Hx43
else
 hcall PR f_law13_all ⟨[(.pointer t46), (.int .i64 (IntKind.i64.wrap Last32))]⟩ Hx43 fun v48 Hx49 =>
 tup2 v48 fun v50 v51 =>
 asI .i64 v50 fun t52 =>
 asB v51 fun t53 =>
 (bif t53 then
 (bif (decide ((t52 : Int) ≤ (IntKind.i64.wrap ((IntKind.i64.wrap (42 * (IntKind.i64.wrap ((IntKind.i64.wrap Last32) + 1)))) * (IntKind.i64.wrap ((IntKind.i64.wrap Last32) + 1)))))) then
 hcall PR f_mark_Marker_Step ⟨[(.pointer t46)]⟩ Hx49 fun v54 Hx55 =>
 asB v54 fun t56 =>
 K (.bool (!t56)) Hx55
else
 K (.bool false) Hx49)
else
 K (.bool false) Hx49)))))))
theorem E_law13_MarkEnds (gRefsP1 : Option Addr) (gRefsL2 : Nat) (gRefsC3 : Nat) (gOutP4 : Option Addr) (gOutL5 : Nat) (gOutC6 : Nat) (gInP7 : Option Addr) (gInL8 : Nat) (gInC9 : Nat) (grey10 : Int) (H : Hp) (K : Value → Hp → Prop) : B_law13_MarkEnds gRefsP1 gRefsL2 gRefsC3 gOutP4 gOutL5 gOutC6 gInP7 gInL8 gInC9 grey10 H K = denF Try.prog Try.f15 .n [(.agg #[(.slice gRefsP1 gRefsL2 gRefsC3), (.slice gOutP4 gOutL5 gOutC6), (.slice gInP7 gInL8 gInC9)]), (.int .i64 grey10)] H K := by kernel_rfl
theorem den_law13_MarkEnds {gRefsP1 : Option Addr} {gRefsL2 : Nat} {gRefsC3 : Nat} {gOutP4 : Option Addr} {gOutL5 : Nat} {gOutC6 : Nat} {gInP7 : Option Addr} {gInL8 : Nat} {gInC9 : Nat} {grey10 : Int} {H : Hp} {K : Value → Hp → Prop} (h : B_law13_MarkEnds gRefsP1 gRefsL2 gRefsC3 gOutP4 gOutL5 gOutC6 gInP7 gInL8 gInC9 grey10 H K) : hcall PR f_law13_MarkEnds ⟨[(.agg #[(.slice gRefsP1 gRefsL2 gRefsC3), (.slice gOutP4 gOutL5 gOutC6), (.slice gInP7 gInL8 gInC9)]), (.int .i64 grey10)]⟩ H K := denF_call Try.func15 PR_mixed (Eq.mp (E_law13_MarkEnds gRefsP1 gRefsL2 gRefsC3 gOutP4 gOutL5 gOutC6 gInP7 gInL8 gInC9 grey10 H K) h)

end Go.Proofs.Ytohlnmenghbgbaa

/- PRINTED by gen.py: functions as plain propositions, held against the program by the kernel. No condition. -/
namespace Go.Proofs.Ytohlnmenghbgbaa
open Go
set_option linter.unusedVariables false
set_option maxRecDepth 100000

def B_law13_MarkKnown  (H : Hp) (K : Value → Hp → Prop) : Prop :=
 hcall PR f_hand_Graph_Heaps ⟨[(.agg #[(.slice none 0 0), (.slice none 0 0), (.slice none 0 0)]), (.int .i64 3)]⟩ H fun v1 Hx2 =>
 tup2 v1 fun v3 v4 =>
 asP v3 fun t5 =>
 asP v4 fun t6 =>
 hcall PR f_law13_known ⟨[]⟩ Hx2 fun v7 Hx8 =>
 asB v7 fun t9 =>
 (bif (!t9) then
 K (.bool false) Hx8
else
 (bif (Option.isNone (α := Addr) t5) then
 K (.bool false) Hx8
else
 hcall PR f_paint_New ⟨[(.pointer t5), (.int .i64 2)]⟩ Hx8 fun v10 Hx11 =>
 tup2 v10 fun v12 v13 =>
 asP v12 fun t14 =>
 asI .i64 v13 fun t15 =>
 hcall PR f_mark_New ⟨[(.pointer none), (.pointer t14)]⟩ Hx11 fun v16 Hx17 =>
 tup2 v16 fun v18 v19 =>
 asP v18 fun t20 =>
 asI .i64 v19 fun t21 =>
 hcall PR f_mark_New ⟨[(.pointer t5), (.pointer none)]⟩ Hx17 fun v22 Hx23 =>
 tup2 v22 fun v24 v25 =>
 asP v24 fun t26 =>
 asI .i64 v25 fun t27 =>
 hcall PR f_mark_New ⟨[(.pointer t5), (.pointer t14)]⟩ Hx23 fun v28 Hx29 =>
 tup2 v28 fun v30 v31 =>
 asP v30 fun t32 =>
 asI .i64 v31 fun t33 =>
 (bif ((t21 : Int) == 1) then
 (bif ((t27 : Int) == 1) then
 (bif ((t33 : Int) == 0) then
 (bif (!(Option.isNone (α := Addr) t32)) then
 hcall PR f_mark_Marker_Step ⟨[(.pointer t32)]⟩ Hx29 fun v34 Hx35 =>
 asB v34 fun t36 =>
 K (.bool (!t36)) Hx35
else
 K (.bool false) Hx29)
else
 K (.bool false) Hx29)
else
 K (.bool false) Hx29)
else
 K (.bool false) Hx29)))
theorem E_law13_MarkKnown  (H : Hp) (K : Value → Hp → Prop) : B_law13_MarkKnown  H K = denF Try.prog Try.f14 .n [] H K := by kernel_rfl
theorem den_law13_MarkKnown  {H : Hp} {K : Value → Hp → Prop} (h : B_law13_MarkKnown  H K) : hcall PR f_law13_MarkKnown ⟨[]⟩ H K := denF_call Try.func14 PR_mixed (Eq.mp (E_law13_MarkKnown  H K) h)

end Go.Proofs.Ytohlnmenghbgbaa

/- PRINTED by gen.py: functions as plain propositions, held against the program by the kernel. No condition. -/
namespace Go.Proofs.Ytohlnmenghbgbaa
open Go
set_option linter.unusedVariables false
set_option maxRecDepth 100000

def B_law13_MarkPlays (gRefsP1 : Option Addr) (gRefsL2 : Nat) (gRefsC3 : Nat) (gOutP4 : Option Addr) (gOutL5 : Nat) (gOutC6 : Nat) (gInP7 : Option Addr) (gInL8 : Nat) (gInC9 : Nat) (grey10 : Int) (lP11 : Option Addr) (lL12 : Nat) (lC13 : Nat) (H : Hp) (K : Value → Hp → Prop) : Prop :=
 newB (.cells #[(.slice gRefsP1 gRefsL2 gRefsC3), (.slice gOutP4 gOutL5 gOutC6), (.slice gInP7 gInL8 gInC9)] ty_hand_Graph) H fun b14 Hx15 =>
 ldSl ⟨b14, 0, none⟩ Hx15 fun RefsP16 RefsL17 RefsC18 =>
 ldSl ⟨b14, 1, none⟩ Hx15 fun OutP19 OutL20 OutC21 =>
 ldSl ⟨b14, 2, none⟩ Hx15 fun InP22 InL23 InC24 =>
 hcall PR f_hand_Graph_Heaps ⟨[(.agg #[(.slice RefsP16 RefsL17 RefsC18), (.slice OutP19 OutL20 OutC21), (.slice InP22 InL23 InC24)]), (.int .i64 25)]⟩ Hx15 fun v25 Hx26 =>
 tup2 v25 fun v27 v28 =>
 asP v27 fun t29 =>
 asP v28 fun t30 =>
 hcall PR f_law13_known ⟨[]⟩ Hx26 fun v31 Hx32 =>
 asB v31 fun t33 =>
 (bif (!t33) then
 K (.bool false) Hx32
else
 (bif (Option.isNone (α := Addr) t29) then
 K (.bool false) Hx32
else
 hcall PR f_hand_Pick ⟨[(.int .i64 grey10), (.int .i64 6)]⟩ Hx32 fun v34 Hx35 =>
 asI .i64 v34 fun t36 =>
 hcall PR f_paint_New ⟨[(.pointer t29), (.int .i64 (IntKind.i64.wrap (1 + t36)))]⟩ Hx35 fun v37 Hx38 =>
 tup2 v37 fun v39 v40 =>
 asP v39 fun t41 =>
 asI .i64 v40 fun t42 =>
 hcall PR f_mark_New ⟨[(.pointer t29), (.pointer t41)]⟩ Hx38 fun v43 Hx44 =>
 tup2 v43 fun v45 v46 =>
 asP v45 fun t47 =>
 asI .i64 v46 fun t48 =>
 (bif ((t42 : Int) != 0) then
 K (.bool false) Hx44
else
 (bif ((t48 : Int) != 0) then
 K (.bool false) Hx44
else
 (bif (Option.isNone (α := Addr) t41) then
 K (.bool false) Hx44
else
 (bif (Option.isNone (α := Addr) t47) then
 K (.bool false) Hx44
else
 hcall PR f_ref11_NewPaint ⟨[(.pointer t30), (.int .i64 (IntKind.i64.wrap (1 + t36)))]⟩ Hx44 fun v49 Hx50 =>
 asP v49 fun t51 =>
 newB (.cells #[(.pointer t30), (.pointer t51), (.int .u64 0), (.int .u64 0), (.bool false)] ty_ref11_Marker) Hx50 fun b52 Hx53 =>
 ∀ R54 : Hp → Prop, (∀ Hx55 : Hp, (
 hcall PR f_paint_Paint_Outs ⟨[(.pointer t41)]⟩ Hx55 fun v56 Hx57 =>
 asSl v56 fun tP58 tL59 tC60 =>
 hcall PR f_ref11_Paint_Outs ⟨[(.pointer t51)]⟩ Hx57 fun v61 Hx62 =>
 asSl v61 fun tP63 tL64 tC65 =>
 hcall PR f_hand_Outs ⟨[(.slice tP58 tL59 tC60), (.slice tP63 tL64 tC65)]⟩ Hx62 fun v66 Hx67 =>
 asB v66 fun t68 =>
 (bif t68 then
 nilP t51 fun ta69 =>
 ldSl ((ta69.add 1).add 1) Hx67 fun LP70 LL71 LC72 =>
 hcall PR f_paint_Paint_Waiting ⟨[(.pointer t41)]⟩ Hx67 fun v73 Hx74 =>
 asI .i64 v73 fun t75 =>
 (ldSl ((ta69.add 1).add 1) Hx74 fun LP76 LL77 LC78 =>
 ((.slice LP76 LL77 LC78) : Value) = (.slice LP70 LL71 LC72)) ∧
 (bif ((t75 : Int) == (LL71 : Int)) then
 nilP t51 fun ta79 =>
 ldB ((ta79.add 1).add 2) Hx74 fun Over80 =>
 hcall PR f_paint_Paint_Over ⟨[(.pointer t41)]⟩ Hx74 fun v81 Hx82 =>
 asB v81 fun t83 =>
 (ldB ((ta79.add 1).add 2) Hx82 fun Over84 =>
 ((.bool Over84) : Value) = (.bool Over80)) ∧
 K (.bool (t83 == Over80)) Hx82
else
 K (.bool false) Hx74)
else
 K (.bool false) Hx67)) → R54 Hx55) →
 ∃ (I85 : Int → Hp → Prop) (m86 : Int → Hp → Nat), I85 0 Hx53 ∧ ∀ i88 : Int, ∀ Hx87 : Hp, I85 i88 Hx87 →
 (bif (decide ((i88 : Int) < (lL12 : Int))) then
 (bif (decide ((i88 : Int) < 200)) then
 idxA lP11 lL12 i88 5 fun el89 =>
 ldI .u64 (el89.add 2) Hx87 fun Serial90 =>
 nilP t30 fun ta91 =>
 ldI .u64 (ta91.add 2) Hx87 fun Last92 =>
 ((IntKind.u64.wrap (Last92 + 2)) : Int) ≠ 0 ∧
 idxA lP11 lL12 i88 5 fun el93 =>
 ldI .i64 (el93.add 3) Hx87 fun Node94 =>
 ldI .u64 ((el93.add 3).add 1) Hx87 fun Serial95 =>
 newB (.cells #[(.int .i64 0), (.int .u64 0)] ty_api_ID) Hx87 fun b96 Hx97 =>
 st ⟨b96, 0, none⟩ (.int .i64 Node94) Hx97 fun Hx98 =>
 st ⟨b96, 1, none⟩ (.int .u64 Serial95) Hx98 fun Hx99 =>
 ∀ R100 : Hp → Prop, (∀ Hx101 : Hp, (
 ∀ R102 : Hp → Prop, (∀ Hx103 : Hp, (
 ∃ (I104 : Int → Hp → Prop) (m105 : Int → Hp → Nat), I104 0 Hx103 ∧ ∀ k107 : Int, ∀ Hx106 : Hp, I104 k107 Hx106 →
 nilP t30 fun ta108 =>
 ldI .u64 (ta108.add 2) Hx106 fun Last109 =>
 (bif (decide ((k107 : Int) ≤ Last109)) then
 hcall PR f_paint_Paint_Mark ⟨[(.pointer t41), (.int .u64 k107)]⟩ Hx106 fun v110 Hx111 =>
 tup3 v110 fun v112 v113 v114 =>
 asI .i64 v112 fun t115 =>
 asB v113 fun t116 =>
 asB v114 fun t117 =>
 hcall PR f_ref11_Paint_Mark ⟨[(.pointer t51), (.int .u64 k107)]⟩ Hx111 fun v118 Hx119 =>
 tup3 v118 fun v120 v121 v122 =>
 asI .i64 v120 fun t123 =>
 asB v121 fun t124 =>
 asB v122 fun t125 =>
 (bif ((t115 : Int) != t123) then
 K (.bool false) Hx119
else
 (bif (!(t116 == t124)) then
 K (.bool false) Hx119
else
 (bif (!(t117 == t125)) then
 K (.bool false) Hx119
else
 I104 (IntKind.u64.wrap (k107 + 1)) Hx119 ∧ m105 (IntKind.u64.wrap (k107 + 1)) Hx119 < m105 k107 Hx106)))
else
 I85 (IntKind.i64.wrap (i88 + 1)) Hx106 ∧ m86 (IntKind.i64.wrap (i88 + 1)) Hx106 < m86 i88 Hx87)) → R102 Hx103) →
 idxA lP11 lL12 i88 5 fun el126 =>
 ldI .i64 el126 Hx101 fun What127 =>
 hcall PR f_hand_Pick ⟨[(.int .i64 What127), (.int .i64 10)]⟩ Hx101 fun v128 Hx129 =>
 asI .i64 v128 fun t130 =>
 (bif ((t130 : Int) == 5) then
 ldI .i64 ⟨b96, 0, none⟩ Hx129 fun Node131 =>
 ldI .u64 ⟨b96, 1, none⟩ Hx129 fun Serial132 =>
 idxA lP11 lL12 i88 5 fun el133 =>
 ldI .i64 (el133.add 1) Hx129 fun A134 =>
 hcall PR f_hand_Pick ⟨[(.int .i64 A134), (.int .i64 9)]⟩ Hx129 fun v135 Hx136 =>
 asI .i64 v135 fun t137 =>
 (ldI .i64 ⟨b96, 0, none⟩ Hx136 fun Node138 =>
 ldI .u64 ⟨b96, 1, none⟩ Hx136 fun Serial139 =>
 ((.agg #[(.int .i64 Node138), (.int .u64 Serial139)]) : Value) = (.agg #[(.int .i64 Node131), (.int .u64 Serial132)])) ∧
 hcall PR f_paint_Paint_Shade ⟨[(.pointer t41), (.agg #[(.int .i64 Node131), (.int .u64 Serial132)]), (.int .i64 t137)]⟩ Hx136 fun v140 Hx141 =>
 ldI .i64 ⟨b96, 0, none⟩ Hx141 fun Node142 =>
 ldI .u64 ⟨b96, 1, none⟩ Hx141 fun Serial143 =>
 idxA lP11 lL12 i88 5 fun el144 =>
 ldI .i64 (el144.add 1) Hx141 fun A145 =>
 hcall PR f_hand_Pick ⟨[(.int .i64 A145), (.int .i64 9)]⟩ Hx141 fun v146 Hx147 =>
 asI .i64 v146 fun t148 =>
 (ldI .i64 ⟨b96, 0, none⟩ Hx147 fun Node149 =>
 ldI .u64 ⟨b96, 1, none⟩ Hx147 fun Serial150 =>
 ((.agg #[(.int .i64 Node149), (.int .u64 Serial150)]) : Value) = (.agg #[(.int .i64 Node142), (.int .u64 Serial143)])) ∧
 hcall PR f_ref11_Paint_Shade ⟨[(.pointer t51), (.agg #[(.int .i64 Node142), (.int .u64 Serial143)]), (.int .i64 t148)]⟩ Hx147 fun v151 Hx152 =>
 R102 Hx152
else
 (bif ((t130 : Int) == 6) then
 idxA lP11 lL12 i88 5 fun el153 =>
 ldI .i64 (el153.add 1) Hx129 fun A154 =>
 ldI .i64 ⟨b96, 0, none⟩ Hx129 fun Node155 =>
 ldI .u64 ⟨b96, 1, none⟩ Hx129 fun Serial156 =>
 hcall PR f_hand_Pick ⟨[(.int .i64 A154), (.int .i64 3)]⟩ Hx129 fun v157 Hx158 =>
 asI .i64 v157 fun t159 =>
 (ldI .i64 ⟨b96, 0, none⟩ Hx158 fun Node160 =>
 ldI .u64 ⟨b96, 1, none⟩ Hx158 fun Serial161 =>
 ((.agg #[(.int .i64 Node160), (.int .u64 Serial161)]) : Value) = (.agg #[(.int .i64 Node155), (.int .u64 Serial156)])) ∧
 hcall PR f_heap_Heap_SetRef ⟨[(.pointer t29), (.int .u64 (Int.tmod Serial90 (IntKind.u64.wrap (Last92 + 2)))), (.int .i64 t159), (.agg #[(.int .i64 Node155), (.int .u64 Serial156)])]⟩ Hx158 fun v162 Hx163 =>
 tup2 v162 fun v164 v165 =>
 agg2 v164 fun v166 v167 =>
 asI .i64 v166 fun Node168 =>
 asI .u64 v167 fun Serial169 =>
 asI .i64 v165 fun t170 =>
 idxA lP11 lL12 i88 5 fun el171 =>
 ldI .i64 (el171.add 1) Hx163 fun A172 =>
 ldI .i64 ⟨b96, 0, none⟩ Hx163 fun Node173 =>
 ldI .u64 ⟨b96, 1, none⟩ Hx163 fun Serial174 =>
 hcall PR f_hand_Pick ⟨[(.int .i64 A172), (.int .i64 3)]⟩ Hx163 fun v175 Hx176 =>
 asI .i64 v175 fun t177 =>
 (ldI .i64 ⟨b96, 0, none⟩ Hx176 fun Node178 =>
 ldI .u64 ⟨b96, 1, none⟩ Hx176 fun Serial179 =>
 ((.agg #[(.int .i64 Node178), (.int .u64 Serial179)]) : Value) = (.agg #[(.int .i64 Node173), (.int .u64 Serial174)])) ∧
 hcall PR f_ref8_Heap_SetRef ⟨[(.pointer t30), (.int .u64 (Int.tmod Serial90 (IntKind.u64.wrap (Last92 + 2)))), (.int .i64 t177), (.agg #[(.int .i64 Node173), (.int .u64 Serial174)])]⟩ Hx176 fun v180 Hx181 =>
 tup2 v180 fun v182 v183 =>
 agg2 v182 fun v184 v185 =>
 asI .i64 v184 fun Node186 =>
 asI .u64 v185 fun Serial187 =>
 asI .i64 v183 fun t188 =>
 R102 Hx181
else
 (bif ((t130 : Int) == 7) then
 hcall PR f_heap_Heap_Make ⟨[(.pointer t29), (.int .i64 2), (.int .i64 0)]⟩ Hx129 fun v189 Hx190 =>
 tup2 v189 fun v191 v192 =>
 asI .u64 v191 fun t193 =>
 asI .i64 v192 fun t194 =>
 hcall PR f_ref8_Heap_Make ⟨[(.pointer t30), (.int .i64 2), (.int .i64 0)]⟩ Hx190 fun v195 Hx196 =>
 tup2 v195 fun v197 v198 =>
 asI .u64 v197 fun t199 =>
 asI .i64 v198 fun t200 =>
 R102 Hx196
else
 (bif ((t130 : Int) == 8) then
 idxA lP11 lL12 i88 5 fun el201 =>
 ldI .i64 (el201.add 1) Hx129 fun A202 =>
 hcall PR f_hand_Pick ⟨[(.int .i64 A202), (.int .i64 9)]⟩ Hx129 fun v203 Hx204 =>
 asI .i64 v203 fun t205 =>
 hcall PR f_heap_Heap_SetIn ⟨[(.pointer t29), (.int .u64 (Int.tmod Serial90 (IntKind.u64.wrap (Last92 + 2)))), (.int .i64 t205)]⟩ Hx204 fun v206 Hx207 =>
 asI .i64 v206 fun t208 =>
 idxA lP11 lL12 i88 5 fun el209 =>
 ldI .i64 (el209.add 1) Hx207 fun A210 =>
 hcall PR f_hand_Pick ⟨[(.int .i64 A210), (.int .i64 9)]⟩ Hx207 fun v211 Hx212 =>
 asI .i64 v211 fun t213 =>
 hcall PR f_ref8_Heap_SetIn ⟨[(.pointer t30), (.int .u64 (Int.tmod Serial90 (IntKind.u64.wrap (Last92 + 2)))), (.int .i64 t213)]⟩ Hx212 fun v214 Hx215 =>
 asI .i64 v214 fun t216 =>
 R102 Hx215
else
 (bif ((t130 : Int) == 9) then
 idxA lP11 lL12 i88 5 fun el217 =>
 ldI .i64 (el217.add 1) Hx129 fun A218 =>
 (5 : Int) ≠ 0 ∧
 (bif (((Int.tmod A218 5) : Int) == 0) then
 hcall PR f_mark_Marker_Begin ⟨[(.pointer t47)]⟩ Hx129 fun v219 Hx220 =>
 hcall PR f_ref11_Marker_Begin ⟨[(.pointer (some ⟨b52, 0, none⟩))]⟩ Hx220 fun v221 Hx222 =>
 R102 Hx222
else
 R102 Hx129)
else
 hcall PR f_mark_Marker_Step ⟨[(.pointer t47)]⟩ Hx129 fun v223 Hx224 =>
 asB v223 fun t225 =>
 hcall PR f_ref11_Marker_Step ⟨[(.pointer (some ⟨b52, 0, none⟩))]⟩ Hx224 fun v226 Hx227 =>
 asB v226 fun t228 =>
 (bif (!(t225 == t228)) then
 K (.bool false) Hx227
else
 R102 Hx227))))))) → R100 Hx101) →
 idxA lP11 lL12 i88 5 fun el229 =>
 ldI .i64 (el229.add 1) Hx99 fun A230 =>
 (3 : Int) ≠ 0 ∧
 (bif (decide (((Int.tmod A230 3) : Int) > 0)) then
 st ⟨b96, 0, none⟩ (.int .i64 1) Hx99 fun Hx231 =>
 st ⟨b96, 1, none⟩ (.int .u64 (Int.tmod Serial90 (IntKind.u64.wrap (Last92 + 2)))) Hx231 fun Hx232 =>
 R100 Hx232
else
 R100 Hx99)
else
 R54 Hx87)
else
 R54 Hx87)))))))
theorem E_law13_MarkPlays (gRefsP1 : Option Addr) (gRefsL2 : Nat) (gRefsC3 : Nat) (gOutP4 : Option Addr) (gOutL5 : Nat) (gOutC6 : Nat) (gInP7 : Option Addr) (gInL8 : Nat) (gInC9 : Nat) (grey10 : Int) (lP11 : Option Addr) (lL12 : Nat) (lC13 : Nat) (H : Hp) (K : Value → Hp → Prop) : B_law13_MarkPlays gRefsP1 gRefsL2 gRefsC3 gOutP4 gOutL5 gOutC6 gInP7 gInL8 gInC9 grey10 lP11 lL12 lC13 H K = denF Try.prog Try.f21 (.seq none .n (.seq none .n (.seq none .n (.seq none .n (.seq none .n (.seq none .n (.seq none .n (.seq none .n (.seq none .n (.seq (some ⟨[], [9, 13]⟩) (.seq none .n (.sub (.loop ⟨[(15, .int .i64)], [2, 7, 8, 9, 11, 13, 14]⟩ (.seq none .n (.seq none (.sub (.seq none .n (.seq none .n (.seq (some ⟨[], [2, 7, 8, 9, 11, 13, 14, 15, 16, 17]⟩) .n (.seq (some ⟨[], [2, 7, 8, 9, 11, 13, 14, 15]⟩) .n (.seq none .n (.sub (.loop ⟨[(18, .int .u64)], [2, 7, 8, 9, 11, 13, 14, 15]⟩ .n)))))))) .n))))) .n)))))))))) [(.agg #[(.slice gRefsP1 gRefsL2 gRefsC3), (.slice gOutP4 gOutL5 gOutC6), (.slice gInP7 gInL8 gInC9)]), (.int .i64 grey10), (.slice lP11 lL12 lC13)] H K := by kernel_rfl
theorem den_law13_MarkPlays {gRefsP1 : Option Addr} {gRefsL2 : Nat} {gRefsC3 : Nat} {gOutP4 : Option Addr} {gOutL5 : Nat} {gOutC6 : Nat} {gInP7 : Option Addr} {gInL8 : Nat} {gInC9 : Nat} {grey10 : Int} {lP11 : Option Addr} {lL12 : Nat} {lC13 : Nat} {H : Hp} {K : Value → Hp → Prop} (h : B_law13_MarkPlays gRefsP1 gRefsL2 gRefsC3 gOutP4 gOutL5 gOutC6 gInP7 gInL8 gInC9 grey10 lP11 lL12 lC13 H K) : hcall PR f_law13_MarkPlays ⟨[(.agg #[(.slice gRefsP1 gRefsL2 gRefsC3), (.slice gOutP4 gOutL5 gOutC6), (.slice gInP7 gInL8 gInC9)]), (.int .i64 grey10), (.slice lP11 lL12 lC13)]⟩ H K := denF_call Try.func21 PR_mixed (Eq.mp (E_law13_MarkPlays gRefsP1 gRefsL2 gRefsC3 gOutP4 gOutL5 gOutC6 gInP7 gInL8 gInC9 grey10 lP11 lL12 lC13 H K) h)

end Go.Proofs.Ytohlnmenghbgbaa

/- Chapter 13's statements, run: MarkKnown, MarkEnds. No condition. -/
namespace Go.Proofs.Ytohlnmenghbgbaa
set_option linter.unusedSimpArgs false
set_option linter.unusedVariables false
open Go

theorem rd_single {H : Hp} {p : Option Addr} {v : Value} (h : Rd H 1 p 1 [v]) : Rd H 1 p 1 [v] := h

theorem known13_ok {H0 H : Hp} {L : List Prt} {K : Value → Hp → Prop} (h : St H0 L H) (hK : ∀ H', St H0 L H' → K (.bool true) H') : hcall PR f_law13_known ⟨[]⟩ H K := by
  apply den_law13_known
  unfold B_law13_known
  intro b1 hb1
  have h1 := h.alloc (o := .cells #[.slice none 0 0] ty_Sint) hb1
  intro b3 hb3
  have h2 := h1.alloc (o := .cells #[.int .i64 8] ty_int) hb3
  intro b5 hb5
  have h3 := h2.alloc (o := .cells #[.slice none 0 0, .slice none 0 0, .slice none 0 0] ty_hand_Graph) hb5
  refine h3.put (i := 0) rfl (by simp) fun H4 h4 => h4.put (i := 0) rfl (by simp) fun H5 h5 => h5.put (i := 0) rfl (by simp) fun H6 h6 => ?_
  refine ldSl_of (h6.cell (i := 0) rfl rfl) (ldSl_of (h6.cell (i := 0) rfl rfl) (ldSl_of (h6.cell (i := 0) rfl rfl) ?_))
  have ga : GrA H6 (some ⟨b1, 0, none⟩) 1 none 0 (some ⟨b3, 0, none⟩) 1 ⟨[[]], [], [8]⟩ :=
    ⟨⟨[(none, 0, 0)], h6.one_rd (i := 2) (n := 1) rfl rfl, rfl, fun i t l ht hl => by
      cases i with
      | zero => simp at ht hl; subst ht hl; exact ⟨rfl, rd_nil⟩
      | succ i => simp at ht⟩, rd_nil, h6.one_rd (i := 1) (n := 1) rfl rfl⟩
  have gok : (⟨[[]], [], [8]⟩ : Gr).ok := ⟨by simp, fun l hl => by simp at hl; subst hl; exact ⟨by simp, fun x hx => by cases hx⟩, by simp, by simp⟩
  refine HeapsC (most := 3) ga gok (by omega) fun hb rb s H7 hs h7 => ?_
  have hs : GrHs ⟨[[]], [], [8]⟩ 1 s := hs
  have h7 := h6.join h7
  simp only [asI_mk', asB_mk, asP_mk, asA_mk, asM_mk, asSl_mk, asStr_mk, tup2_mk, tup3_mk, agg1_mk, agg2_mk, agg3_mk, agg4_mk, asAggm, unCons_mk, unNil_mk, asTup_mk, extractD0, extractD1, List.toList_toArray, nilP_mk, add_mk, Nat.zero_add, Nat.add_zero, condT, condF, Bool.not_true, Bool.not_false, Option.isNone_some, Option.isNone_none]
  refine pNewOk h7 (by omega) (by omega) fun pb H8 h8 => ?_
  simp only [asI_mk', asB_mk, asP_mk, asA_mk, asM_mk, asSl_mk, asStr_mk, tup2_mk, tup3_mk, agg1_mk, agg2_mk, agg3_mk, agg4_mk, asAggm, unCons_mk, unNil_mk, asTup_mk, extractD0, extractD1, List.toList_toArray, nilP_mk, add_mk, Nat.zero_add, Nat.add_zero, condT, condF, Bool.not_true, Bool.not_false, Option.isNone_some, Option.isNone_none]
  refine mkNewC (pb := pb) (hb := hb) h8 fun mb H9 h9 => ?_
  simp only [asI_mk', asB_mk, asP_mk, asA_mk, asM_mk, asSl_mk, asStr_mk, tup2_mk, tup3_mk, agg1_mk, agg2_mk, agg3_mk, agg4_mk, asAggm, unCons_mk, unNil_mk, asTup_mk, extractD0, extractD1, List.toList_toArray, nilP_mk, add_mk, Nat.zero_add, Nat.add_zero, condT, condF, Bool.not_true, Bool.not_false, Option.isNone_some, Option.isNone_none]
  refine bif_neqf rfl (bif_neqf rfl ?_)
  have hlast : s.last = 1 := hs.last
  obtain ⟨c, hg1⟩ := hs.get (m := 1) (by omega)
  have hd : grDist ⟨[[]], [], [8]⟩ 0 = 2 := by decide
  have hrf : grRefs ⟨[[]], [], [8]⟩ 1 0 = [] := by decide
  rw [show (1 : Int).toNat - 1 = 0 from rfl, hd, hrf] at hg1
  have hne1 : ¬ hGet s 1 = none := by rw [hg1]; simp
  have n0 : hNext s 0 = (1, true) := hNext_is hs.ok hne1 (by omega) fun k h1 h2 => by omega
  have n1 : hNext s 1 = (0, false) := hNext_none hs.ok fun k hk => by
    have := hs.has (m := k)
    cases hg : hGet s k with
    | none => rfl
    | some o =>
      rw [hg] at this
      have := this.1 (by simp)
      omega
  have hp1 : pShade s (newPs 2) ⟨s.node, 1⟩ 2 = ⟨[(1, (2, true))], [], [1], 2, false, 0⟩ := by
    unfold pShade
    rw [hs.node, if_neg (by decide), if_neg (by simp), if_neg hne1]
    rfl
  have w1 : mkStep s (newPs 2) ⟨0, false, 0⟩ = (true, ⟨[(1, (2, true))], [], [1], 2, false, 0⟩, ⟨1, false, 0⟩) := by
    unfold mkStep mkSee
    simp only [newPs, List.getLast?_nil, Bool.false_eq_true, false_and, if_false, n0, hg1]
    rw [if_neg (by decide), if_pos (by decide)]
    rw [show (⟨[], [], [], 2, false, 0⟩ : Ps) = newPs 2 from rfl, hp1]
  have k1 : pMark s ⟨[(1, (2, true))], [], [1], 2, false, 0⟩ 1 = (2, true, true) := by
    simp [pMark, mlook, hne1]
  have w2 : mkStep s ⟨[(1, (2, true))], [], [1], 2, false, 0⟩ ⟨1, false, 0⟩ = (true, ⟨[(1, (2, false))], [], [], 2, false, 0⟩, ⟨1, false, 0⟩) := by
    unfold mkStep
    simp [pPop, pScan, hg1, mlook, mput, mhas, pShades]
  have w3 : mkStep s ⟨[(1, (2, false))], [], [], 2, false, 0⟩ ⟨1, false, 0⟩ = (false, ⟨[(1, (2, false))], [], [], 2, false, 0⟩, ⟨1, false, 0⟩) := by
    unfold mkStep
    simp [n1]
  refine mkStepC h9 (i := 2) (j := 1) (k := 0) rfl rfl rfl (by decide) (by decide) (by decide) fun H10 h10 => ?_
  rw [w1] at h10 ⊢
  simp only [asI_mk', asB_mk, asP_mk, asA_mk, asM_mk, asSl_mk, asStr_mk, tup2_mk, tup3_mk, agg1_mk, agg2_mk, agg3_mk, agg4_mk, asAggm, unCons_mk, unNil_mk, asTup_mk, extractD0, extractD1, List.toList_toArray, nilP_mk, add_mk, Nat.zero_add, Nat.add_zero, condT, condF, Bool.not_true, Bool.not_false, Option.isNone_some, Option.isNone_none]
  refine pMarkC (L := _ :: _ :: _ :: _ :: _ :: _ :: _ :: L) h10 (i := 2) (j := 1) rfl rfl (by decide) fun H11 h11 => ?_
  rw [k1]
  simp only [asI_mk', asB_mk, asP_mk, asA_mk, asM_mk, asSl_mk, asStr_mk, tup2_mk, tup3_mk, agg1_mk, agg2_mk, agg3_mk, agg4_mk, asAggm, unCons_mk, unNil_mk, asTup_mk, extractD0, extractD1, List.toList_toArray, nilP_mk, add_mk, Nat.zero_add, Nat.add_zero, condT, condF, Bool.not_true, Bool.not_false, Option.isNone_some, Option.isNone_none]
  refine mkStepC (L := _ :: _ :: _ :: _ :: _ :: _ :: _ :: L) h11 (i := 2) (j := 1) (k := 0) rfl rfl rfl (by decide) (by decide) (by decide) fun H12 h12 => ?_
  rw [w2] at h12 ⊢
  simp only [asI_mk', asB_mk, asP_mk, asA_mk, asM_mk, asSl_mk, asStr_mk, tup2_mk, tup3_mk, agg1_mk, agg2_mk, agg3_mk, agg4_mk, asAggm, unCons_mk, unNil_mk, asTup_mk, extractD0, extractD1, List.toList_toArray, nilP_mk, add_mk, Nat.zero_add, Nat.add_zero, condT, condF, Bool.not_true, Bool.not_false, Option.isNone_some, Option.isNone_none]
  refine mkStepC (L := _ :: _ :: _ :: _ :: _ :: _ :: _ :: L) h12 (i := 2) (j := 1) (k := 0) rfl rfl rfl (by decide) (by decide) (by decide) fun H13 h13 => ?_
  rw [w3] at h13 ⊢
  simp only [asI_mk', asB_mk, asP_mk, asA_mk, asM_mk, asSl_mk, asStr_mk, tup2_mk, tup3_mk, agg1_mk, agg2_mk, agg3_mk, agg4_mk, asAggm, unCons_mk, unNil_mk, asTup_mk, extractD0, extractD1, List.toList_toArray, nilP_mk, add_mk, Nat.zero_add, Nat.add_zero, condT, condF, Bool.not_true, Bool.not_false, Option.isNone_some, Option.isNone_none]
  exact bif_eq rfl (hK H13 (St.lesses (M := [_, _, _, _, _, _, _]) h13))

theorem MarkKnown_ok {H : Hp} {K : Value → Hp → Prop} (hK : ∀ H', Keep Nothing H H' → K (.bool true) H') : hcall PR f_law13_MarkKnown ⟨[]⟩ H K := by
  apply den_law13_MarkKnown
  unfold B_law13_MarkKnown
  refine HeapsC (most := 3) (nilsG_at (n := 0) rd_nil) (nilsG_ok (by omega)) (by omega) fun hb rb s H2 hs h2 => ?_
  rw [nilsG_size (by omega)] at hs
  simp only [asI_mk', asB_mk, asP_mk, asA_mk, asM_mk, asSl_mk, asStr_mk, tup2_mk, tup3_mk, agg1_mk, agg2_mk, agg3_mk, agg4_mk, asAggm, unCons_mk, unNil_mk, asTup_mk, extractD0, extractD1, List.toList_toArray, nilP_mk, add_mk, Nat.zero_add, Nat.add_zero, condT, condF, Bool.not_true, Bool.not_false, Option.isNone_some, Option.isNone_none]
  refine known13_ok h2 fun H3 h3 => ?_
  simp only [asI_mk', asB_mk, asP_mk, asA_mk, asM_mk, asSl_mk, asStr_mk, tup2_mk, tup3_mk, agg1_mk, agg2_mk, agg3_mk, agg4_mk, asAggm, unCons_mk, unNil_mk, asTup_mk, extractD0, extractD1, List.toList_toArray, nilP_mk, add_mk, Nat.zero_add, Nat.add_zero, condT, condF, Bool.not_true, Bool.not_false, Option.isNone_some, Option.isNone_none]
  refine pNewOk h3 (by omega) (by omega) fun pb H4 h4 => ?_
  simp only [asI_mk', asB_mk, asP_mk, asA_mk, asM_mk, asSl_mk, asStr_mk, tup2_mk, tup3_mk, agg1_mk, agg2_mk, agg3_mk, agg4_mk, asAggm, unCons_mk, unNil_mk, asTup_mk, extractD0, extractD1, List.toList_toArray, nilP_mk, add_mk, Nat.zero_add, Nat.add_zero, condT, condF, Bool.not_true, Bool.not_false, Option.isNone_some, Option.isNone_none]
  refine mkNewNil1 ?_
  simp only [asI_mk', asB_mk, asP_mk, asA_mk, asM_mk, asSl_mk, asStr_mk, tup2_mk, tup3_mk, agg1_mk, agg2_mk, agg3_mk, agg4_mk, asAggm, unCons_mk, unNil_mk, asTup_mk, extractD0, extractD1, List.toList_toArray, nilP_mk, add_mk, Nat.zero_add, Nat.add_zero, condT, condF, Bool.not_true, Bool.not_false, Option.isNone_some, Option.isNone_none]
  refine mkNewNil2 ?_
  simp only [asI_mk', asB_mk, asP_mk, asA_mk, asM_mk, asSl_mk, asStr_mk, tup2_mk, tup3_mk, agg1_mk, agg2_mk, agg3_mk, agg4_mk, asAggm, unCons_mk, unNil_mk, asTup_mk, extractD0, extractD1, List.toList_toArray, nilP_mk, add_mk, Nat.zero_add, Nat.add_zero, condT, condF, Bool.not_true, Bool.not_false, Option.isNone_some, Option.isNone_none]
  refine mkNewC (pb := pb) (hb := hb) h4 fun mb H5 h5 => ?_
  simp only [asI_mk', asB_mk, asP_mk, asA_mk, asM_mk, asSl_mk, asStr_mk, tup2_mk, tup3_mk, agg1_mk, agg2_mk, agg3_mk, agg4_mk, asAggm, unCons_mk, unNil_mk, asTup_mk, extractD0, extractD1, List.toList_toArray, nilP_mk, add_mk, Nat.zero_add, Nat.add_zero, condT, condF, Bool.not_true, Bool.not_false, Option.isNone_some, Option.isNone_none]
  refine bif_eq rfl (bif_eq rfl (bif_eq rfl ?_))
  (try simp only [Bool.not_false, condT])
  refine mkStepC h5 (i := 2) (j := 1) (k := 0) rfl rfl rfl (by decide) (by decide) (by decide) fun H6 h6 => ?_
  have n1 : hNext s 0 = (0, false) := hNext_none hs.ok fun k hk => by
    have := hs.has (m := k)
    cases hg : hGet s k with
    | none => rfl
    | some o =>
      rw [hg] at this
      have := this.1 (by simp)
      omega
  have w1 : mkStep s (newPs 2) ⟨0, false, 0⟩ = (false, newPs 2, ⟨0, false, 0⟩) := by
    unfold mkStep
    simp [newPs, n1]
  rw [w1] at h6 ⊢
  simp only [asI_mk', asB_mk, asP_mk, asA_mk, asM_mk, asSl_mk, asStr_mk, tup2_mk, tup3_mk, agg1_mk, agg2_mk, agg3_mk, agg4_mk, asAggm, unCons_mk, unNil_mk, asTup_mk, extractD0, extractD1, List.toList_toArray, nilP_mk, add_mk, Nat.zero_add, Nat.add_zero, condT, condF, Bool.not_true, Bool.not_false, Option.isNone_some, Option.isNone_none]
  exact hK H6 h6.keep

/-- All is marked. -/
theorem allC {H0 H : Hp} {L : List Prt} {i j k hb pb mb n B : Nat} {s : Hs} {p : Ps} {m : Mk} {K : Value → Hp → Prop} (I : Ps → Mk → Prop) (h : St H0 L H) (hi : L[i]? = some (HeapP hb s)) (hj : L[j]? = some (PaintP pb hb p)) (hk : L[k]? = some (MkP mb hb pb m)) (hij : i ≠ j) (hik : i ≠ k) (hjk : j ≠ k)
    (hl : s.last = n) (hn : n ≤ 60) (hm : m.ok) (hB : mkLeft s n p m ≤ B) (hB2 : B ≤ 42 * (n + 2) * (n + 2)) (hI : I p m) (hstep : ∀ p m, p.ok → m.ok → I p m → (mkStep s p m).1 = true → I (mkStep s p m).2.1 (mkStep s p m).2.2)
    (hK : ∀ (q : Nat) p' m' H', q ≤ B → p'.ok → m'.ok → I p' m' → (mkStep s p' m').1 = false → St H0 ((L.set k (MkP mb hb pb { m' with pass := false })).set j (PaintP pb hb p')) H' → K (.tuple #[.int .i64 q, .bool true]) H') :
    hcall PR f_law13_all ⟨[.pointer (some ⟨mb, 0, none⟩), .int .i64 n]⟩ H K := by
  have ho := heap_ok h hi
  have hp := paint_ok h hj
  apply den_law13_all
  unfold B_law13_all
  have hkl := ltOfGet hk
  have hjl := ltOfGet hj
  have w1 : IntKind.i64.wrap ((n : Int) + 2) = ((n + 2 : Nat) : Int) := by rw [wrap_i64 (by omega) (by omega)]; omega
  have w2 : IntKind.i64.wrap (42 * ((n + 2 : Nat) : Int)) = ((42 * (n + 2) : Nat) : Int) := by rw [wrap_i64 (by omega) (by omega)]; omega
  have hmul : ((42 * (n + 2) : Nat) : Int) * ((n + 2 : Nat) : Int) = ((42 * (n + 2) * (n + 2) : Nat) : Int) := by rw [← Int.natCast_mul]
  have hbnd : 42 * (n + 2) * (n + 2) ≤ 42 * 62 * 62 := Nat.mul_le_mul (Nat.mul_le_mul_left _ (by omega)) (by omega)
  have w3 : IntKind.i64.wrap (((42 * (n + 2) : Nat) : Int) * ((n + 2 : Nat) : Int)) = ((42 * (n + 2) * (n + 2) : Nat) : Int) := by rw [hmul, wrap_i64 (by omega) (by omega)]
  rw [w1, w2, w3]
  have h0 : St H0 ((L.set k (MkP mb hb pb m)).set j (PaintP pb hb p)) H := by rw [List.set_self hk, List.set_self hj]; exact h
  refine ⟨fun q H' => ∃ (y : Nat) (p : Ps) (m : Mk), q = y ∧ y + mkLeft s n p m ≤ B ∧ m.ok ∧ I p m ∧ St H0 ((L.set k (MkP mb hb pb m)).set j (PaintP pb hb p)) H', fun q _ => (B + 1 - q).toNat, ⟨0, p, m, rfl, by omega, hm, hI, h0⟩, ?_⟩
  clear h0 hI hB hm hp h
  rintro q H1 ⟨y, p, m, rfl, hy, hm, hI, h1⟩
  have gi : ((L.set k (MkP mb hb pb m)).set j (PaintP pb hb p))[i]? = some (HeapP hb s) := by rw [List.getElem?_set_ne (Ne.symm hij), List.getElem?_set_ne (Ne.symm hik)]; exact hi
  have gj : ((L.set k (MkP mb hb pb m)).set j (PaintP pb hb p))[j]? = some (PaintP pb hb p) := by simp [hjl]
  have gk : ((L.set k (MkP mb hb pb m)).set j (PaintP pb hb p))[k]? = some (MkP mb hb pb m) := by rw [List.getElem?_set_ne hjk]; simp [hkl]
  have hp := paint_ok h1 gj
  refine bif_pos (by omega) (mkStepC h1 gi gj gk hij hik hjk fun H2 h2 => ?_)
  rw [List.set_comm _ _ hjk, List.set_set, List.set_set] at h2
  simp only [asI_mk', asB_mk, asP_mk, asA_mk, asM_mk, asSl_mk, asStr_mk, tup2_mk, tup3_mk, agg1_mk, agg2_mk, agg3_mk, agg4_mk, asAggm, unCons_mk, unNil_mk, asTup_mk, extractD0, extractD1, List.toList_toArray, nilP_mk, add_mk, Nat.zero_add, Nat.add_zero, condT, condF, Bool.not_true, Bool.not_false, Option.isNone_some, Option.isNone_none]
  cases hr : (mkStep s p m).1
  · simp only [Bool.not_false, condT]
    have he := (mkStep_end hr).1
    rw [he] at h2
    exact hK y p m H2 (by omega) hp hm hI hr h2
  · simp only [Bool.not_true, condF]
    have hless := mkStep_less ho hl hp hm hr
    have hok := mkStep_ok ho hp hm
    rw [wrap_i64 (by omega) (by omega)]
    exact ⟨⟨y + 1, _, _, by omega, by omega, hok.2, hstep p m hp hm hI hr, h2⟩, by (try dsimp only); omega⟩

set_option maxRecDepth 20000 in
theorem MarkEnds_ok {rp op ip : Option Addr} {rl rc ol oc il ic : Nat} {g : Gr} {grey : Int} {H : Hp} {K : Value → Hp → Prop} (ga : GrA H rp rl op ol ip il g) (gok : g.ok) (hgr : IntKind.min .i64 ≤ grey ∧ grey ≤ IntKind.max .i64)
    (hK : ∀ H', Keep Nothing H H' → K (.bool true) H') : hcall PR f_law13_MarkEnds ⟨[.agg #[.slice rp rl rc, .slice op ol oc, .slice ip il ic], .int .i64 grey]⟩ H K := by
  apply den_law13_MarkEnds
  unfold B_law13_MarkEnds
  intro b11 hb11
  have h1 := (St.start H).alloc (o := .cells #[.slice rp rl rc, .slice op ol oc, .slice ip il ic] ty_hand_Graph) hb11
  refine ldSl_of (h1.cell (i := 0) rfl rfl) (ldSl_of (h1.cell (i := 0) rfl rfl) (ldSl_of (h1.cell (i := 0) rfl rfl) ?_))
  refine HeapsC (most := 40) (ga.st h1) gok (by omega) fun hb rb s H2 hs h2 => ?_
  have h2 := h1.join h2
  have hn : grSize g 40 ≤ 40 := by unfold grSize; split <;> omega
  generalize grSize g 40 = n at *
  simp only [asI_mk', asB_mk, asP_mk, asA_mk, asM_mk, asSl_mk, asStr_mk, tup2_mk, tup3_mk, agg1_mk, agg2_mk, agg3_mk, agg4_mk, asAggm, unCons_mk, unNil_mk, asTup_mk, extractD0, extractD1, List.toList_toArray, nilP_mk, add_mk, Nat.zero_add, Nat.add_zero, condT, condF, Bool.not_true, Bool.not_false, Option.isNone_some, Option.isNone_none]
  refine known13_ok h2 fun H3 h3 => ?_
  simp only [asI_mk', asB_mk, asP_mk, asA_mk, asM_mk, asSl_mk, asStr_mk, tup2_mk, tup3_mk, agg1_mk, agg2_mk, agg3_mk, agg4_mk, asAggm, unCons_mk, unNil_mk, asTup_mk, extractD0, extractD1, List.toList_toArray, nilP_mk, add_mk, Nat.zero_add, Nat.add_zero, condT, condF, Bool.not_true, Bool.not_false, Option.isNone_some, Option.isNone_none]
  obtain ⟨y1, N1, g1, _, _⟩ := rheapOpenL (i := 1) h3 rfl (.inl rfl)
  refine ldI_of (rheapV g1).last (Pick_ok (by omega) (by omega) ?_)
  have p1 := pick_lt (n := grey) (m := 8) (by omega)
  simp only [asI_mk', asB_mk, asP_mk, asA_mk, asM_mk, asSl_mk, asStr_mk, tup2_mk, tup3_mk, agg1_mk, agg2_mk, agg3_mk, agg4_mk, asAggm, unCons_mk, unNil_mk, asTup_mk, extractD0, extractD1, List.toList_toArray, nilP_mk, add_mk, Nat.zero_add, Nat.add_zero, condT, condF, Bool.not_true, Bool.not_false, Option.isNone_some, Option.isNone_none]
  rw [hs.last]
  have w0 : IntKind.i64.wrap (n : Int) = n := wrap_i64 (by omega) (by omega)
  have w1 : IntKind.i64.wrap (1 + pick grey 8) = 1 + pick grey 8 := wrap_i64 (by omega) (by omega)
  have w2 : IntKind.i64.wrap ((n : Int) + 1) = ((n + 1 : Nat) : Int) := by rw [wrap_i64 (by omega) (by omega)]; omega
  have w3 : IntKind.i64.wrap (42 * ((n + 1 : Nat) : Int)) = ((42 * (n + 1) : Nat) : Int) := by rw [wrap_i64 (by omega) (by omega)]; omega
  have hmul : ((42 * (n + 1) : Nat) : Int) * ((n + 1 : Nat) : Int) = ((42 * (n + 1) * (n + 1) : Nat) : Int) := by rw [← Int.natCast_mul]
  have hbd : 42 * (n + 1) * (n + 1) ≤ 42 * 41 * 41 := Nat.mul_le_mul (Nat.mul_le_mul_left _ (by omega)) (by omega)
  have w4 : IntKind.i64.wrap (((42 * (n + 1) : Nat) : Int) * ((n + 1 : Nat) : Int)) = ((42 * (n + 1) * (n + 1) : Nat) : Int) := by rw [hmul, wrap_i64 (by omega) (by omega)]
  rw [w0, w1, w2, w3, w4]
  refine pNewOk h3 (by omega) (by omega) fun pb H4 h4 => ?_
  simp only [asI_mk', asB_mk, asP_mk, asA_mk, asM_mk, asSl_mk, asStr_mk, tup2_mk, tup3_mk, agg1_mk, agg2_mk, agg3_mk, agg4_mk, asAggm, unCons_mk, unNil_mk, asTup_mk, extractD0, extractD1, List.toList_toArray, nilP_mk, add_mk, Nat.zero_add, Nat.add_zero, condT, condF, Bool.not_true, Bool.not_false, Option.isNone_some, Option.isNone_none]
  refine mkNewC (pb := pb) (hb := hb) h4 fun mb H5 h5 => ?_
  simp only [asI_mk', asB_mk, asP_mk, asA_mk, asM_mk, asSl_mk, asStr_mk, tup2_mk, tup3_mk, agg1_mk, agg2_mk, agg3_mk, agg4_mk, asAggm, unCons_mk, unNil_mk, asTup_mk, extractD0, extractD1, List.toList_toArray, nilP_mk, add_mk, Nat.zero_add, Nat.add_zero, condT, condF, Bool.not_true, Bool.not_false, Option.isNone_some, Option.isNone_none]
  refine bif_neqf rfl (bif_neqf rfl ?_)
  have hB := mkLeft_new (n := n) (most := 1 + pick grey 8) hs.len
  have hle : (n + 1) * (41 * n) + n ≤ 42 * (n + 1) * (n + 1) := by
    have e1 : (n + 1) * (41 * n) = 41 * ((n + 1) * n) := by rw [Nat.mul_left_comm]
    have e2 : 42 * (n + 1) * (n + 1) = 42 * ((n + 1) * (n + 1)) := Nat.mul_assoc _ _ _
    have e3 : (n + 1) * (n + 1) = (n + 1) * n + (n + 1) := Nat.mul_succ _ _
    rw [e1, e2, e3]
    omega
  have hle2 : 42 * (n + 1) * (n + 1) ≤ 42 * (n + 2) * (n + 2) := Nat.mul_le_mul (Nat.mul_le_mul_left _ (by omega)) (by omega)
  refine allC (i := 2) (j := 1) (k := 0) (B := (n + 1) * (41 * n) + n) (fun _ _ => True) h5 rfl rfl rfl (by decide) (by decide) (by decide) hs.last (by omega) ⟨Int.le_refl _, Int.le_refl _⟩ (by omega) (by omega) trivial (fun _ _ _ _ _ _ => trivial) fun q p' m' H6 hq hp' hm' _ hend h6 => ?_
  simp only [asI_mk', asB_mk, asP_mk, asA_mk, asM_mk, asSl_mk, asStr_mk, tup2_mk, tup3_mk, agg1_mk, agg2_mk, agg3_mk, agg4_mk, asAggm, unCons_mk, unNil_mk, asTup_mk, extractD0, extractD1, List.toList_toArray, nilP_mk, add_mk, Nat.zero_add, Nat.add_zero, condT, condF, Bool.not_true, Bool.not_false, Option.isNone_some, Option.isNone_none]
  refine bif_pos (by omega) (mkStepC (L := _ :: _ :: _ :: _ :: _ :: []) h6 (i := 2) (j := 1) (k := 0) rfl rfl rfl (by decide) (by decide) (by decide) fun H7 h7 => ?_)
  have hag := mkStep_again hend
  rw [(mkStep_end hend).1] at hag
  rw [hag]
  simp only [asI_mk', asB_mk, asP_mk, asA_mk, asM_mk, asSl_mk, asStr_mk, tup2_mk, tup3_mk, agg1_mk, agg2_mk, agg3_mk, agg4_mk, asAggm, unCons_mk, unNil_mk, asTup_mk, extractD0, extractD1, List.toList_toArray, nilP_mk, add_mk, Nat.zero_add, Nat.add_zero, condT, condF, Bool.not_true, Bool.not_false, Option.isNone_some, Option.isNone_none]
  exact hK H7 h7.keep

end Go.Proofs.Ytohlnmenghbgbaa

/- Chapter 13's statements, run: MarkPlays. No condition. -/
namespace Go.Proofs.Ytohlnmenghbgbaa
set_option linter.unusedSimpArgs false
set_option linter.unusedVariables false
open Go

theorem mkStep_lt {s : Hs} {p : Ps} {m : Mk} {n : Nat} (ho : s.ok) (h : p.lt n) : (mkStep s p m).2.1.lt (n + 7) := by
  unfold mkStep
  split
  · exact h.pop.scan ho
  · split
    · exact h.scan ho
    · split
      · exact h.rest.mono (by omega)
      · split
        · exact h.mono (by omega)
        · unfold mkSee
          split
          · split
            · exact h.shade.mono (by omega)
            · exact h.mono (by omega)
          · exact h.mono (by omega)

set_option maxRecDepth 20000 in
theorem MarkPlays_ok {rp op ip : Option Addr} {rl rc ol oc il ic : Nat} {g : Gr} {grey : Int} {lP : Option Addr} {lL lC : Nat} {l : List E_law13_Step} {H : Hp} {K : Value → Hp → Prop} (ga : GrA H rp rl op ol ip il g) (gok : g.ok) (hgr : IntKind.min .i64 ≤ grey ∧ grey ≤ IntKind.max .i64)
    (hr : Rd H 5 lP lL (cel E_law13_Step.cells l)) (hl : lL ≤ 9223372036854775807) (hok : ∀ x ∈ l, x.ok) (hK : ∀ H', Keep Nothing H H' → K (.bool true) H') :
    hcall PR f_law13_MarkPlays ⟨[.agg #[.slice rp rl rc, .slice op ol oc, .slice ip il ic], .int .i64 grey, .slice lP lL lC]⟩ H K := by
  apply den_law13_MarkPlays
  unfold B_law13_MarkPlays
  have u0 : IntKind.min .u64 = 0 := by decide
  have u1 : IntKind.max .u64 = 18446744073709551615 := by decide
  intro b14 hb14
  have h1 := (St.start H).alloc (o := .cells #[.slice rp rl rc, .slice op ol oc, .slice ip il ic] ty_hand_Graph) hb14
  refine ldSl_of (h1.cell (i := 0) rfl rfl) (ldSl_of (h1.cell (i := 0) rfl rfl) (ldSl_of (h1.cell (i := 0) rfl rfl) ?_))
  refine HeapsC (most := 25) (ga.st h1) gok (by omega) fun hb rb s H2 hs h2 => ?_
  have h2 := h1.join h2
  simp only [asI_mk', asB_mk, asP_mk, asA_mk, asM_mk, asSl_mk, asStr_mk, tup2_mk, tup3_mk, agg1_mk, agg2_mk, agg3_mk, agg4_mk, asAggm, unCons_mk, unNil_mk, asTup_mk, extractD0, extractD1, List.toList_toArray, nilP_mk, add_mk, Nat.zero_add, Nat.add_zero, condT, condF, Bool.not_true, Bool.not_false, Option.isNone_some, Option.isNone_none]
  refine known13_ok h2 fun H3 h3 => ?_
  simp only [asI_mk', asB_mk, asP_mk, asA_mk, asM_mk, asSl_mk, asStr_mk, tup2_mk, tup3_mk, agg1_mk, agg2_mk, agg3_mk, agg4_mk, asAggm, unCons_mk, unNil_mk, asTup_mk, extractD0, extractD1, List.toList_toArray, nilP_mk, add_mk, Nat.zero_add, Nat.add_zero, condT, condF, Bool.not_true, Bool.not_false, Option.isNone_some, Option.isNone_none]
  refine Pick_ok (by omega) (by omega) ?_
  have p1 := pick_lt (n := grey) (m := 6) (by omega)
  simp only [asI_mk', asB_mk, asP_mk, asA_mk, asM_mk, asSl_mk, asStr_mk, tup2_mk, tup3_mk, agg1_mk, agg2_mk, agg3_mk, agg4_mk, asAggm, unCons_mk, unNil_mk, asTup_mk, extractD0, extractD1, List.toList_toArray, nilP_mk, add_mk, Nat.zero_add, Nat.add_zero, condT, condF, Bool.not_true, Bool.not_false, Option.isNone_some, Option.isNone_none]
  have w1 : IntKind.i64.wrap (1 + pick grey 6) = 1 + pick grey 6 := wrap_i64 (by omega) (by omega)
  rw [w1]
  refine pNewOk h3 (by omega) (by omega) fun pb H4 h4 => ?_
  simp only [asI_mk', asB_mk, asP_mk, asA_mk, asM_mk, asSl_mk, asStr_mk, tup2_mk, tup3_mk, agg1_mk, agg2_mk, agg3_mk, agg4_mk, asAggm, unCons_mk, unNil_mk, asTup_mk, extractD0, extractD1, List.toList_toArray, nilP_mk, add_mk, Nat.zero_add, Nat.add_zero, condT, condF, Bool.not_true, Bool.not_false, Option.isNone_some, Option.isNone_none]
  refine mkNewC (pb := pb) (hb := hb) h4 fun mb H5 h5 => ?_
  simp only [asI_mk', asB_mk, asP_mk, asA_mk, asM_mk, asSl_mk, asStr_mk, tup2_mk, tup3_mk, agg1_mk, agg2_mk, agg3_mk, agg4_mk, asAggm, unCons_mk, unNil_mk, asTup_mk, extractD0, extractD1, List.toList_toArray, nilP_mk, add_mk, Nat.zero_add, Nat.add_zero, condT, condF, Bool.not_true, Bool.not_false, Option.isNone_some, Option.isNone_none]
  refine bif_neqf rfl (bif_neqf rfl ?_)
  refine rNewPaintC (L := _ :: _ :: _ :: _ :: _ :: []) h5 (by omega) (by omega) fun qb H6 h6 => ?_
  simp only [asI_mk', asB_mk, asP_mk, asA_mk, asM_mk, asSl_mk, asStr_mk, tup2_mk, tup3_mk, agg1_mk, agg2_mk, agg3_mk, agg4_mk, asAggm, unCons_mk, unNil_mk, asTup_mk, extractD0, extractD1, List.toList_toArray, nilP_mk, add_mk, Nat.zero_add, Nat.add_zero, condT, condF, Bool.not_true, Bool.not_false, Option.isNone_some, Option.isNone_none]
  intro b52 hb52
  have h7 := h6.alloc (o := .cells #[ptrV rb, ptrV qb, .int .u64 0, .int .u64 0, .bool false] ty_ref11_Marker) hb52
  obtain ⟨LL, hLL⟩ : ∃ LL : Int → Mk → Ps → Hs → List Prt, ∀ a m p s, LL a m p s = [RMkP b52 rb qb a m, RPaint qb rb p, MkP mb hb pb m, PaintP pb hb p, HeapP hb s, RHeap rb s, Prt.one b14 (.cells #[.slice rp rl rc, .slice op ol oc, .slice ip il ic] ty_hand_Graph (0, 0))] := ⟨_, fun _ _ _ _ => rfl⟩
  have h8 : St H (LL 0 ⟨0, false, 0⟩ (newPs (1 + pick grey 6)) s) (upd H6 b52 (.cells #[ptrV rb, ptrV qb, .int .u64 0, .int .u64 0, .bool false] ty_ref11_Marker)) := by rw [hLL]; exact h7
  have hp0 : (newPs (1 + pick grey 6)).lt 0 := newPs_lt
  generalize newPs (1 + pick grey 6) = p0 at h8 hp0
  clear h7 h6 h5 h4 h3 h2 h1 hs
  intro R54 hR54
  have hR54 : ∀ a m p s H', p.lt 800000 → St H (LL a m p s) H' → R54 H' := fun a m p s H' hlt h' => by
    refine hR54 H' ?_
    clear hR54
    rw [hLL] at h'
    have hl2 := hlt.2
    have hol := (outsOf_ok (paint_ok h' (j := 3) (p := p) rfl)).2.length_eq
    refine pOutsC h' (j := 3) rfl (by omega) fun q1 c1 H2 h2 => ?_
    simp only [asI_mk', asB_mk, asP_mk, asA_mk, asM_mk, asSl_mk, asStr_mk, tup2_mk, tup3_mk, agg1_mk, agg2_mk, agg3_mk, agg4_mk, asAggm, unCons_mk, unNil_mk, asTup_mk, extractD0, extractD1, List.toList_toArray, nilP_mk, add_mk, Nat.zero_add, Nat.add_zero, condT, condF, Bool.not_true, Bool.not_false, Option.isNone_some, Option.isNone_none]
    refine rOutsC h2 (j := 2) rfl (by omega) fun q2 c2 H3 h3 => ?_
    simp only [asI_mk', asB_mk, asP_mk, asA_mk, asM_mk, asSl_mk, asStr_mk, tup2_mk, tup3_mk, agg1_mk, agg2_mk, agg3_mk, agg4_mk, asAggm, unCons_mk, unNil_mk, asTup_mk, extractD0, extractD1, List.toList_toArray, nilP_mk, add_mk, Nat.zero_add, Nat.add_zero, condT, condF, Bool.not_true, Bool.not_false, Option.isNone_some, Option.isNone_none]
    refine handOutsC (h3.row_rd (i := 1) rfl) (h3.row_rd (i := 0) rfl) (by omega) ?_
    simp only [asI_mk', asB_mk, asP_mk, asA_mk, asM_mk, asSl_mk, asStr_mk, tup2_mk, tup3_mk, agg1_mk, agg2_mk, agg3_mk, agg4_mk, asAggm, unCons_mk, unNil_mk, asTup_mk, extractD0, extractD1, List.toList_toArray, nilP_mk, add_mk, Nat.zero_add, Nat.add_zero, condT, condF, Bool.not_true, Bool.not_false, Option.isNone_some, Option.isNone_none]
    obtain ⟨x, M, g3, hf, hM, back⟩ := rpaintTakeN h3 (j := 3) (p := p) rfl
    have c2 : hcell H3 ⟨qb, 2, none⟩ = some (.slice x.sp p.stack.length x.sc) := g3.cell (i := 0) rfl rfl
    have c3 : hcell H3 ⟨qb, 3, none⟩ = some (.bool p.over) := g3.cell (i := 0) rfl rfl
    refine ldSl_of c2 (pWaitingC h3 (j := 5) rfl ?_)
    simp only [asI_mk', asB_mk, asP_mk, asA_mk, asM_mk, asSl_mk, asStr_mk, tup2_mk, tup3_mk, agg1_mk, agg2_mk, agg3_mk, agg4_mk, asAggm, unCons_mk, unNil_mk, asTup_mk, extractD0, extractD1, List.toList_toArray, nilP_mk, add_mk, Nat.zero_add, Nat.add_zero, condT, condF, Bool.not_true, Bool.not_false, Option.isNone_some, Option.isNone_none]
    refine ⟨ldSl_of c2 rfl, bif_eq rfl (ldB_of c3 (pOverC h3 (j := 5) rfl ?_))⟩
    simp only [asI_mk', asB_mk, asP_mk, asA_mk, asM_mk, asSl_mk, asStr_mk, tup2_mk, tup3_mk, agg1_mk, agg2_mk, agg3_mk, agg4_mk, asAggm, unCons_mk, unNil_mk, asTup_mk, extractD0, extractD1, List.toList_toArray, nilP_mk, add_mk, Nat.zero_add, Nat.add_zero, condT, condF, Bool.not_true, Bool.not_false, Option.isNone_some, Option.isNone_none]
    refine ⟨ldB_of c3 rfl, ?_⟩
    rw [beq_self_eq_true]
    exact hK H3 h3.keep
  refine ⟨fun i H' => ∃ (j : Nat) (a : Int) (m : Mk) (p : Ps) (s : Hs), i = j ∧ j ≤ lL ∧ j ≤ 200 ∧ p.lt (8 * j) ∧ (m.pass = true → a = m.at_) ∧ St H (LL a m p s) H', fun i _ => ((lL : Int) - i).toNat,
    ⟨0, 0, ⟨0, false, 0⟩, p0, s, rfl, by omega, by omega, hp0, (fun _ => rfl), h8⟩, ?_⟩
  clear h8 hp0
  rintro i H1 ⟨j, a, m, p, s, rfl, hj, hj2, hlt, ha, h1⟩
  by_cases hc : (j : Int) < (lL : Int)
  rotate_left
  · exact bif_neg hc (hR54 a m p s H1 (hlt.mono (by omega)) h1)
  refine bif_pos hc ?_
  by_cases h200 : (j : Int) < 200
  rotate_left
  · exact bif_neg h200 (hR54 a m p s H1 (hlt.mono (by omega)) h1)
  refine bif_pos h200 ?_
  clear hR54
  rw [hLL] at h1
  have ho := heap_ok h1 (i := 4) rfl
  have hlast := ho.last
  have rr := h1.rd hr
  refine idxS E_law13_Step.len ⟨0, 0, 0, 0, 0⟩ rr (by omega) (by omega) hc fun b1 o1 hp hjl hcs => ?_
  have hat : ∀ (L' : List Prt) H' (q : Nat), St H L' H' → q < 5 → hcell H' ⟨b1, o1 + (j : Int).toNat * 5 + q, none⟩ = (E_law13_Step.cells (l.getD (j : Int).toNat ⟨0, 0, 0, 0, 0⟩))[q]? := fun L' H' q h' hq =>
    (h'.rd hr).cel_at' E_law13_Step.len ⟨0, 0, 0, 0, 0⟩ hp hjl hq
  have hidx : ∀ Q : Addr → Prop, Q ⟨b1, o1 + (j : Int).toNat * 5, none⟩ → idxA lP lL (j : Int) 5 Q := fun Q hQ => idxA_of rr (by omega) hc fun b' o' hp' _ => by
    obtain ⟨rfl, rfl⟩ : b1 = b' ∧ o1 = o' := by rw [hp] at hp'; simpa using hp'
    exact hQ
  have hx := hok _ (List.getElem_mem hjl)
  have hgd : l.getD (j : Int).toNat ⟨0, 0, 0, 0, 0⟩ = l[(j : Int).toNat] := by rw [List.getD_eq_getElem?_getD, List.getElem?_eq_getElem hjl]; rfl
  rw [← hgd] at hx
  clear hgd
  generalize l.getD (j : Int).toNat ⟨0, 0, 0, 0, 0⟩ = x at hx hcs hat
  have hxa := hx.A
  have hxw := hx.What
  have hxs := hx.Serial
  simp only [asI_mk', asB_mk, asP_mk, asA_mk, asM_mk, asSl_mk, asStr_mk, tup2_mk, tup3_mk, agg1_mk, agg2_mk, agg3_mk, agg4_mk, asAggm, unCons_mk, unNil_mk, asTup_mk, extractD0, extractD1, List.toList_toArray, nilP_mk, add_mk, Nat.zero_add, Nat.add_zero, condT, condF, Bool.not_true, Bool.not_false, Option.isNone_some, Option.isNone_none]
  refine ldI_of (hcs 2 (by omega)) ?_
  obtain ⟨y1, N1, g1, _, _⟩ := rheapOpenL (i := 5) h1 rfl (.inl rfl)
  refine ldI_of (rheapV g1).last ?_
  clear g1
  have w3 : IntKind.u64.wrap (s.last + 2) = s.last + 2 := wrap_u64' (by omega) (by omega)
  rw [w3]
  refine ⟨by omega, ?_⟩
  generalize Int.tmod x.Serial (s.last + 2) = k
  refine hidx _ ?_
  simp only [asI_mk', asB_mk, asP_mk, asA_mk, asM_mk, asSl_mk, asStr_mk, tup2_mk, tup3_mk, agg1_mk, agg2_mk, agg3_mk, agg4_mk, asAggm, unCons_mk, unNil_mk, asTup_mk, extractD0, extractD1, List.toList_toArray, nilP_mk, add_mk, Nat.zero_add, Nat.add_zero, condT, condF, Bool.not_true, Bool.not_false, Option.isNone_some, Option.isNone_none]
  refine ldI_of (hat _ H1 3 h1 (by omega)) (ldI_of (by rw [Nat.add_assoc]; exact hat _ H1 4 h1 (by omega)) ?_)
  intro b96 hb96
  refine (h1.alloc (o := .cells #[.int .i64 0, .int .u64 0] ty_api_ID) hb96).put (i := 0) rfl (by simp) fun H2 h2 => h2.put (i := 0) rfl (by simp) fun H3 h3 => ?_
  have h3 : St H (Prt.one b96 (.cells #[.int .i64 x.X_Node, .int .u64 x.X_Serial] ty_api_ID (0, 0)) :: LL a m p s) H3 := by rw [hLL]; exact h3
  clear h2
  intro R100 hR100
  have hR100 : ∀ (y : Id) H', St H (Prt.one b96 (.cells #[.int .i64 y.n, .int .u64 y.s] ty_api_ID (0, 0)) :: LL a m p s) H' → R100 H' := fun y H' h' => by
    refine hR100 H' ?_
    clear hR100 h3 hb96
    intro R102 hR102
    have hR102 : ∀ (a : Int) (m : Mk) (p : Ps) (s : Hs) H', p.lt (8 * j + 8) → (m.pass = true → a = m.at_) → St H (LL a m p s) H' → R102 H' := fun a m p s H' hlt ha h' => by
      refine hR102 H' ?_
      clear hR102
      rw [hLL] at h'
      have ho := heap_ok h' (i := 4) rfl
      have hlast := ho.last
      obtain ⟨n, hn⟩ : ∃ n : Nat, s.last = n := ⟨s.last.toNat, by omega⟩
      refine ⟨fun k H' => (∃ y : Nat, k = y ∧ y ≤ n + 1) ∧ St H [RMkP b52 rb qb a m, RPaint qb rb p, MkP mb hb pb m, PaintP pb hb p, HeapP hb s, RHeap rb s, Prt.one b14 (.cells #[.slice rp rl rc, .slice op ol oc, .slice ip il ic] ty_hand_Graph (0, 0))] H', fun k _ => ((n : Int) + 1 - k).toNat, ⟨⟨0, rfl, by omega⟩, h'⟩, ?_⟩
      clear h'
      rintro k H6 ⟨⟨y, rfl, hy⟩, h6⟩
      obtain ⟨y1, N1, g1, _, _⟩ := rheapOpenL (i := 5) h6 rfl (.inl rfl)
      simp only [asI_mk', asB_mk, asP_mk, asA_mk, asM_mk, asSl_mk, asStr_mk, tup2_mk, tup3_mk, agg1_mk, agg2_mk, agg3_mk, agg4_mk, asAggm, unCons_mk, unNil_mk, asTup_mk, extractD0, extractD1, List.toList_toArray, nilP_mk, add_mk, Nat.zero_add, Nat.add_zero, condT, condF, Bool.not_true, Bool.not_false, Option.isNone_some, Option.isNone_none]
      refine ldI_of (rheapV g1).last ?_
      rw [hn]
      by_cases hc : (y : Int) ≤ n
      · refine bif_pos hc (pMarkC h6 (i := 4) (j := 3) rfl rfl (by decide) fun H7 h7 => ?_)
        simp only [asI_mk', asB_mk, asP_mk, asA_mk, asM_mk, asSl_mk, asStr_mk, tup2_mk, tup3_mk, agg1_mk, agg2_mk, agg3_mk, agg4_mk, asAggm, unCons_mk, unNil_mk, asTup_mk, extractD0, extractD1, List.toList_toArray, nilP_mk, add_mk, Nat.zero_add, Nat.add_zero, condT, condF, Bool.not_true, Bool.not_false, Option.isNone_some, Option.isNone_none]
        refine rMarkC h7 (i := 5) (j := 1) rfl rfl (by decide) (hlt.mono (by omega)) ?_
        simp only [asI_mk', asB_mk, asP_mk, asA_mk, asM_mk, asSl_mk, asStr_mk, tup2_mk, tup3_mk, agg1_mk, agg2_mk, agg3_mk, agg4_mk, asAggm, unCons_mk, unNil_mk, asTup_mk, extractD0, extractD1, List.toList_toArray, nilP_mk, add_mk, Nat.zero_add, Nat.add_zero, condT, condF, Bool.not_true, Bool.not_false, Option.isNone_some, Option.isNone_none]
        refine bif_neqf rfl ?_
        simp only [beq_self_eq_true, Bool.not_true, condF]
        have w1 : IntKind.u64.wrap ((y : Int) + 1) = y + 1 := wrap_u64' (by omega) (by omega)
        rw [w1]
        exact ⟨⟨⟨y + 1, by omega, by omega⟩, h7⟩, by (try dsimp only); omega⟩
      · refine bif_neg hc ?_
        rw [wrap_i64 (by omega) (by omega)]
        exact ⟨⟨j + 1, a, m, p, s, by omega, by omega, by omega, hlt.mono (by omega), ha, by rw [hLL]; exact h6⟩, by (try dsimp only); omega⟩
    refine hidx _ (ldI_of (hat _ H' 0 h' (by omega)) (Pick_ok (by omega) (by omega) ?_))
    simp only [asI_mk', asB_mk, asP_mk, asA_mk, asM_mk, asSl_mk, asStr_mk, tup2_mk, tup3_mk, agg1_mk, agg2_mk, agg3_mk, agg4_mk, asAggm, unCons_mk, unNil_mk, asTup_mk, extractD0, extractD1, List.toList_toArray, nilP_mk, add_mk, Nat.zero_add, Nat.add_zero, condT, condF, Bool.not_true, Bool.not_false, Option.isNone_some, Option.isNone_none]
    by_cases w5 : pick x.What 10 = 5
    · refine bif_eq w5 (ldI_of (h'.cell (i := 0) rfl rfl) (ldI_of (h'.cell (i := 0) rfl rfl) (hidx _ ?_)))
      simp only [asI_mk', asB_mk, asP_mk, asA_mk, asM_mk, asSl_mk, asStr_mk, tup2_mk, tup3_mk, agg1_mk, agg2_mk, agg3_mk, agg4_mk, asAggm, unCons_mk, unNil_mk, asTup_mk, extractD0, extractD1, List.toList_toArray, nilP_mk, add_mk, Nat.zero_add, Nat.add_zero, condT, condF, Bool.not_true, Bool.not_false, Option.isNone_some, Option.isNone_none]
      refine ldI_of (hat _ H' 1 h' (by omega)) (Pick_ok (by omega) (by omega) ?_)
      simp only [asI_mk', asB_mk, asP_mk, asA_mk, asM_mk, asSl_mk, asStr_mk, tup2_mk, tup3_mk, agg1_mk, agg2_mk, agg3_mk, agg4_mk, asAggm, unCons_mk, unNil_mk, asTup_mk, extractD0, extractD1, List.toList_toArray, nilP_mk, add_mk, Nat.zero_add, Nat.add_zero, condT, condF, Bool.not_true, Bool.not_false, Option.isNone_some, Option.isNone_none]
      rw [hLL] at h'
      refine ⟨ldI_of (h'.cell (i := 0) rfl rfl) (ldI_of (h'.cell (i := 0) rfl rfl) rfl), pShadeC (y := y) h' (i := 5) (j := 4) rfl rfl (by decide) fun H4 h4 => ?_⟩
      refine ldI_of (h4.cell (i := 0) rfl rfl) (ldI_of (h4.cell (i := 0) rfl rfl) (hidx _ ?_))
      simp only [asI_mk', asB_mk, asP_mk, asA_mk, asM_mk, asSl_mk, asStr_mk, tup2_mk, tup3_mk, agg1_mk, agg2_mk, agg3_mk, agg4_mk, asAggm, unCons_mk, unNil_mk, asTup_mk, extractD0, extractD1, List.toList_toArray, nilP_mk, add_mk, Nat.zero_add, Nat.add_zero, condT, condF, Bool.not_true, Bool.not_false, Option.isNone_some, Option.isNone_none]
      refine ldI_of (hat _ H4 1 h4 (by omega)) (Pick_ok (by omega) (by omega) ?_)
      simp only [asI_mk', asB_mk, asP_mk, asA_mk, asM_mk, asSl_mk, asStr_mk, tup2_mk, tup3_mk, agg1_mk, agg2_mk, agg3_mk, agg4_mk, asAggm, unCons_mk, unNil_mk, asTup_mk, extractD0, extractD1, List.toList_toArray, nilP_mk, add_mk, Nat.zero_add, Nat.add_zero, condT, condF, Bool.not_true, Bool.not_false, Option.isNone_some, Option.isNone_none]
      refine ⟨ldI_of (h4.cell (i := 0) rfl rfl) (ldI_of (h4.cell (i := 0) rfl rfl) rfl), rShadeC (y := y) h4 (i := 6) (j := 2) rfl rfl (by decide) (hlt.mono (by omega)) fun H5 h5 => ?_⟩
      exact hR102 a m _ s H5 (hlt.shade.mono (by omega)) ha (by rw [hLL]; exact St.less h5)
    refine bif_ne w5 ?_
    by_cases w6 : pick x.What 10 = 6
    · refine bif_eq w6 (hidx _ ?_)
      simp only [asI_mk', asB_mk, asP_mk, asA_mk, asM_mk, asSl_mk, asStr_mk, tup2_mk, tup3_mk, agg1_mk, agg2_mk, agg3_mk, agg4_mk, asAggm, unCons_mk, unNil_mk, asTup_mk, extractD0, extractD1, List.toList_toArray, nilP_mk, add_mk, Nat.zero_add, Nat.add_zero, condT, condF, Bool.not_true, Bool.not_false, Option.isNone_some, Option.isNone_none]
      refine ldI_of (hat _ H' 1 h' (by omega)) (ldI_of (h'.cell (i := 0) rfl rfl) (ldI_of (h'.cell (i := 0) rfl rfl) (Pick_ok (by omega) (by omega) ?_)))
      simp only [asI_mk', asB_mk, asP_mk, asA_mk, asM_mk, asSl_mk, asStr_mk, tup2_mk, tup3_mk, agg1_mk, agg2_mk, agg3_mk, agg4_mk, asAggm, unCons_mk, unNil_mk, asTup_mk, extractD0, extractD1, List.toList_toArray, nilP_mk, add_mk, Nat.zero_add, Nat.add_zero, condT, condF, Bool.not_true, Bool.not_false, Option.isNone_some, Option.isNone_none]
      rw [hLL] at h'
      refine ⟨ldI_of (h'.cell (i := 0) rfl rfl) (ldI_of (h'.cell (i := 0) rfl rfl) rfl), hSetRefC (y := y) h' (i := 5) rfl fun H4 h4 => ?_⟩
      simp only [asI_mk', asB_mk, asP_mk, asA_mk, asM_mk, asSl_mk, asStr_mk, tup2_mk, tup3_mk, agg1_mk, agg2_mk, agg3_mk, agg4_mk, asAggm, unCons_mk, unNil_mk, asTup_mk, extractD0, extractD1, List.toList_toArray, nilP_mk, add_mk, Nat.zero_add, Nat.add_zero, condT, condF, Bool.not_true, Bool.not_false, Option.isNone_some, Option.isNone_none]
      refine hidx _ ?_
      simp only [asI_mk', asB_mk, asP_mk, asA_mk, asM_mk, asSl_mk, asStr_mk, tup2_mk, tup3_mk, agg1_mk, agg2_mk, agg3_mk, agg4_mk, asAggm, unCons_mk, unNil_mk, asTup_mk, extractD0, extractD1, List.toList_toArray, nilP_mk, add_mk, Nat.zero_add, Nat.add_zero, condT, condF, Bool.not_true, Bool.not_false, Option.isNone_some, Option.isNone_none]
      refine ldI_of (hat _ H4 1 h4 (by omega)) (ldI_of (h4.cell (i := 0) rfl rfl) (ldI_of (h4.cell (i := 0) rfl rfl) (Pick_ok (by omega) (by omega) ?_)))
      simp only [asI_mk', asB_mk, asP_mk, asA_mk, asM_mk, asSl_mk, asStr_mk, tup2_mk, tup3_mk, agg1_mk, agg2_mk, agg3_mk, agg4_mk, asAggm, unCons_mk, unNil_mk, asTup_mk, extractD0, extractD1, List.toList_toArray, nilP_mk, add_mk, Nat.zero_add, Nat.add_zero, condT, condF, Bool.not_true, Bool.not_false, Option.isNone_some, Option.isNone_none]
      refine ⟨ldI_of (h4.cell (i := 0) rfl rfl) (ldI_of (h4.cell (i := 0) rfl rfl) rfl), rSetRefC (y := y) h4 (i := 6) rfl fun H5 h5 => ?_⟩
      simp only [asI_mk', asB_mk, asP_mk, asA_mk, asM_mk, asSl_mk, asStr_mk, tup2_mk, tup3_mk, agg1_mk, agg2_mk, agg3_mk, agg4_mk, asAggm, unCons_mk, unNil_mk, asTup_mk, extractD0, extractD1, List.toList_toArray, nilP_mk, add_mk, Nat.zero_add, Nat.add_zero, condT, condF, Bool.not_true, Bool.not_false, Option.isNone_some, Option.isNone_none]
      exact hR102 a m p _ H5 (hlt.mono (by omega)) ha (by rw [hLL]; exact St.less h5)
    refine bif_ne w6 ?_
    by_cases w7 : pick x.What 10 = 7
    · rw [hLL] at h'
      refine bif_eq w7 (hMakeC h' (i := 5) rfl (by decide) (by decide) fun H4 h4 => ?_)
      simp only [asI_mk', asB_mk, asP_mk, asA_mk, asM_mk, asSl_mk, asStr_mk, tup2_mk, tup3_mk, agg1_mk, agg2_mk, agg3_mk, agg4_mk, asAggm, unCons_mk, unNil_mk, asTup_mk, extractD0, extractD1, List.toList_toArray, nilP_mk, add_mk, Nat.zero_add, Nat.add_zero, condT, condF, Bool.not_true, Bool.not_false, Option.isNone_some, Option.isNone_none]
      refine rMakeC h4 (i := 6) rfl (by decide) (by decide) fun H5 h5 => ?_
      simp only [asI_mk', asB_mk, asP_mk, asA_mk, asM_mk, asSl_mk, asStr_mk, tup2_mk, tup3_mk, agg1_mk, agg2_mk, agg3_mk, agg4_mk, asAggm, unCons_mk, unNil_mk, asTup_mk, extractD0, extractD1, List.toList_toArray, nilP_mk, add_mk, Nat.zero_add, Nat.add_zero, condT, condF, Bool.not_true, Bool.not_false, Option.isNone_some, Option.isNone_none]
      exact hR102 a m p _ H5 (hlt.mono (by omega)) ha (by rw [hLL]; exact St.less h5)
    refine bif_ne w7 ?_
    by_cases w8 : pick x.What 10 = 8
    · refine bif_eq w8 (hidx _ ?_)
      simp only [asI_mk', asB_mk, asP_mk, asA_mk, asM_mk, asSl_mk, asStr_mk, tup2_mk, tup3_mk, agg1_mk, agg2_mk, agg3_mk, agg4_mk, asAggm, unCons_mk, unNil_mk, asTup_mk, extractD0, extractD1, List.toList_toArray, nilP_mk, add_mk, Nat.zero_add, Nat.add_zero, condT, condF, Bool.not_true, Bool.not_false, Option.isNone_some, Option.isNone_none]
      refine ldI_of (hat _ H' 1 h' (by omega)) (Pick_ok (by omega) (by omega) ?_)
      simp only [asI_mk', asB_mk, asP_mk, asA_mk, asM_mk, asSl_mk, asStr_mk, tup2_mk, tup3_mk, agg1_mk, agg2_mk, agg3_mk, agg4_mk, asAggm, unCons_mk, unNil_mk, asTup_mk, extractD0, extractD1, List.toList_toArray, nilP_mk, add_mk, Nat.zero_add, Nat.add_zero, condT, condF, Bool.not_true, Bool.not_false, Option.isNone_some, Option.isNone_none]
      rw [hLL] at h'
      refine hSetInC h' (i := 5) rfl fun H4 h4 => ?_
      simp only [asI_mk', asB_mk, asP_mk, asA_mk, asM_mk, asSl_mk, asStr_mk, tup2_mk, tup3_mk, agg1_mk, agg2_mk, agg3_mk, agg4_mk, asAggm, unCons_mk, unNil_mk, asTup_mk, extractD0, extractD1, List.toList_toArray, nilP_mk, add_mk, Nat.zero_add, Nat.add_zero, condT, condF, Bool.not_true, Bool.not_false, Option.isNone_some, Option.isNone_none]
      refine hidx _ ?_
      simp only [asI_mk', asB_mk, asP_mk, asA_mk, asM_mk, asSl_mk, asStr_mk, tup2_mk, tup3_mk, agg1_mk, agg2_mk, agg3_mk, agg4_mk, asAggm, unCons_mk, unNil_mk, asTup_mk, extractD0, extractD1, List.toList_toArray, nilP_mk, add_mk, Nat.zero_add, Nat.add_zero, condT, condF, Bool.not_true, Bool.not_false, Option.isNone_some, Option.isNone_none]
      refine ldI_of (hat _ H4 1 h4 (by omega)) (Pick_ok (by omega) (by omega) ?_)
      simp only [asI_mk', asB_mk, asP_mk, asA_mk, asM_mk, asSl_mk, asStr_mk, tup2_mk, tup3_mk, agg1_mk, agg2_mk, agg3_mk, agg4_mk, asAggm, unCons_mk, unNil_mk, asTup_mk, extractD0, extractD1, List.toList_toArray, nilP_mk, add_mk, Nat.zero_add, Nat.add_zero, condT, condF, Bool.not_true, Bool.not_false, Option.isNone_some, Option.isNone_none]
      refine rSetInC h4 (i := 6) rfl fun H5 h5 => ?_
      simp only [asI_mk', asB_mk, asP_mk, asA_mk, asM_mk, asSl_mk, asStr_mk, tup2_mk, tup3_mk, agg1_mk, agg2_mk, agg3_mk, agg4_mk, asAggm, unCons_mk, unNil_mk, asTup_mk, extractD0, extractD1, List.toList_toArray, nilP_mk, add_mk, Nat.zero_add, Nat.add_zero, condT, condF, Bool.not_true, Bool.not_false, Option.isNone_some, Option.isNone_none]
      exact hR102 a m p _ H5 (hlt.mono (by omega)) ha (by rw [hLL]; exact St.less h5)
    refine bif_ne w8 ?_
    by_cases w9 : pick x.What 10 = 9
    · refine bif_eq w9 (hidx _ ?_)
      simp only [asI_mk', asB_mk, asP_mk, asA_mk, asM_mk, asSl_mk, asStr_mk, tup2_mk, tup3_mk, agg1_mk, agg2_mk, agg3_mk, agg4_mk, asAggm, unCons_mk, unNil_mk, asTup_mk, extractD0, extractD1, List.toList_toArray, nilP_mk, add_mk, Nat.zero_add, Nat.add_zero, condT, condF, Bool.not_true, Bool.not_false, Option.isNone_some, Option.isNone_none]
      refine ldI_of (hat _ H' 1 h' (by omega)) ⟨by decide, ?_⟩
      by_cases hz : Int.tmod x.A 5 = 0
      · rw [hLL] at h'
        refine bif_eq hz (mkBeginC h' (k := 3) rfl fun H4 h4 => ?_)
        refine rmkBeginC h4 (k := 1) (a := a) (m := m) rfl fun H5 h5 => ?_
        exact hR102 a ⟨0, false, 0⟩ p s H5 (hlt.mono (by omega)) (fun h => by cases h) (by rw [hLL]; exact St.less h5)
      · exact bif_ne hz (hR102 a m p s H' (hlt.mono (by omega)) ha h'.less)
    rw [hLL] at h'
    refine bif_ne w9 (mkStepC h' (i := 5) (j := 4) (k := 3) rfl rfl rfl (by decide) (by decide) (by decide) fun H4 h4 => ?_)
    simp only [asI_mk', asB_mk, asP_mk, asA_mk, asM_mk, asSl_mk, asStr_mk, tup2_mk, tup3_mk, agg1_mk, agg2_mk, agg3_mk, agg4_mk, asAggm, unCons_mk, unNil_mk, asTup_mk, extractD0, extractD1, List.toList_toArray, nilP_mk, add_mk, Nat.zero_add, Nat.add_zero, condT, condF, Bool.not_true, Bool.not_false, Option.isNone_some, Option.isNone_none]
    refine rmkStepC h4 (i := 6) (j := 2) (k := 1) (a := a) rfl rfl rfl (by decide) (by decide) (by decide) (hlt.mono (by omega)) ha fun a' H5 ha' h5 => ?_
    simp only [asI_mk', asB_mk, asP_mk, asA_mk, asM_mk, asSl_mk, asStr_mk, tup2_mk, tup3_mk, agg1_mk, agg2_mk, agg3_mk, agg4_mk, asAggm, unCons_mk, unNil_mk, asTup_mk, extractD0, extractD1, List.toList_toArray, nilP_mk, add_mk, Nat.zero_add, Nat.add_zero, condT, condF, Bool.not_true, Bool.not_false, Option.isNone_some, Option.isNone_none]
    rw [beq_self_eq_true]
    exact hR102 a' _ _ s H5 ((mkStep_lt ho hlt).mono (by omega)) ha' (by rw [hLL]; exact St.less h5)
  refine hidx _ ?_
  simp only [asI_mk', asB_mk, asP_mk, asA_mk, asM_mk, asSl_mk, asStr_mk, tup2_mk, tup3_mk, agg1_mk, agg2_mk, agg3_mk, agg4_mk, asAggm, unCons_mk, unNil_mk, asTup_mk, extractD0, extractD1, List.toList_toArray, nilP_mk, add_mk, Nat.zero_add, Nat.add_zero, condT, condF, Bool.not_true, Bool.not_false, Option.isNone_some, Option.isNone_none]
  refine ldI_of (hat _ H3 1 h3 (by omega)) ⟨by decide, ?_⟩
  by_cases hz : Int.tmod x.A 3 > 0
  · exact bif_pos hz (h3.put (i := 0) rfl (by simp) fun H4 h4 => h4.put (i := 0) rfl (by simp) fun H5 h5 => hR100 ⟨1, k⟩ H5 h5)
  · exact bif_neg hz (hR100 ⟨x.X_Node, x.X_Serial⟩ H3 h3)

end Go.Proofs.Ytohlnmenghbgbaa
