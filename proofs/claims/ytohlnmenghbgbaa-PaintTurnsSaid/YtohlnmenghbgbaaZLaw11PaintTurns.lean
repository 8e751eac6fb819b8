/- Merged by merge.py: DenLaw11, DenLaw11PaintFalls, DenLaw11PaintKnown, DenLaw11PaintTight, DenLaw11PaintTurns, Law11, Law11b. No condition. -/
import Derived.Test.YtohlnmenghbgbaaZNum
import Derived.Test.YtohlnmenghbgbaaZPaint
import Derived.Test.YtohlnmenghbgbaaZSweep
import Derived.Test.YtohlnmenghbgbaaZMark

/- PRINTED by gen.py: functions as plain propositions, held against the program by the kernel. No condition. -/
namespace Go.Proofs.Ytohlnmenghbgbaa
open Go
set_option linter.unusedVariables false
set_option maxRecDepth 100000

def B_law11_known  (H : Hp) (K : Value → Hp → Prop) : Prop :=
 hcall PR f_heap_New ⟨[(.int .i64 1), (.int .i64 64), (.int .i64 4), (.int .u64 0)]⟩ H fun v1 Hx2 =>
 tup2 v1 fun v3 v4 =>
 asP v3 fun t5 =>
 asI .i64 v4 fun t6 =>
 (bif ((t6 : Int) != 0) then
 K (.bool false) Hx2
else
 (bif (Option.isNone (α := Addr) t5) then
 K (.bool false) Hx2
else
 hcall PR f_heap_Heap_Make ⟨[(.pointer t5), (.int .i64 1), (.int .i64 0)]⟩ Hx2 fun v7 Hx8 =>
 tup2 v7 fun v9 v10 =>
 asI .u64 v9 fun t11 =>
 asI .i64 v10 fun t12 =>
 hcall PR f_heap_Heap_Make ⟨[(.pointer t5), (.int .i64 1), (.int .i64 0)]⟩ Hx8 fun v13 Hx14 =>
 tup2 v13 fun v15 v16 =>
 asI .u64 v15 fun t17 =>
 asI .i64 v16 fun t18 =>
 hcall PR f_heap_Heap_SetRef ⟨[(.pointer t5), (.int .u64 1), (.int .i64 0), (.agg #[(.int .i64 1), (.int .u64 2)])]⟩ Hx14 fun v19 Hx20 =>
 tup2 v19 fun v21 v22 =>
 agg2 v21 fun v23 v24 =>
 asI .i64 v23 fun Node25 =>
 asI .u64 v24 fun Serial26 =>
 asI .i64 v22 fun t27 =>
 hcall PR f_heap_Heap_SetRef ⟨[(.pointer t5), (.int .u64 2), (.int .i64 0), (.agg #[(.int .i64 2), (.int .u64 7)])]⟩ Hx20 fun v28 Hx29 =>
 tup2 v28 fun v30 v31 =>
 agg2 v30 fun v32 v33 =>
 asI .i64 v32 fun Node34 =>
 asI .u64 v33 fun Serial35 =>
 asI .i64 v31 fun t36 =>
 hcall PR f_paint_New ⟨[(.pointer t5), (.int .i64 4)]⟩ Hx29 fun v37 Hx38 =>
 tup2 v37 fun v39 v40 =>
 asP v39 fun t41 =>
 asI .i64 v40 fun t42 =>
 (bif ((t42 : Int) != 0) then
 K (.bool false) Hx38
else
 (bif (Option.isNone (α := Addr) t41) then
 K (.bool false) Hx38
else
 hcall PR f_paint_Paint_Turn ⟨[(.pointer t41)]⟩ Hx38 fun v43 Hx44 =>
 hcall PR f_paint_Paint_Shade ⟨[(.pointer t41), (.agg #[(.int .i64 1), (.int .u64 1)]), (.int .i64 3)]⟩ Hx44 fun v45 Hx46 =>
 hcall PR f_paint_Paint_Mark ⟨[(.pointer t41), (.int .u64 1)]⟩ Hx46 fun v47 Hx48 =>
 tup3 v47 fun v49 v50 v51 =>
 asI .i64 v49 fun t52 =>
 asB v50 fun t53 =>
 asB v51 fun t54 =>
 hcall PR f_paint_Paint_Scan ⟨[(.pointer t41), (.int .u64 1)]⟩ Hx48 fun v55 Hx56 =>
 asB v55 fun t57 =>
 hcall PR f_paint_Paint_Mark ⟨[(.pointer t41), (.int .u64 2)]⟩ Hx56 fun v58 Hx59 =>
 tup3 v58 fun v60 v61 v62 =>
 asI .i64 v60 fun t63 =>
 asB v61 fun t64 =>
 asB v62 fun t65 =>
 (bif ((t52 : Int) == 3) then
 (bif t53 then
 (bif t54 then
 (bif t57 then
 (bif ((t63 : Int) == 3) then
 (bif t64 then
 (bif t65 then
 hcall PR f_paint_Paint_Waiting ⟨[(.pointer t41)]⟩ Hx59 fun v66 Hx67 =>
 asI .i64 v66 fun t68 =>
 K (.bool ((t68 : Int) == 2)) Hx67
else
 K (.bool false) Hx59)
else
 K (.bool false) Hx59)
else
 K (.bool false) Hx59)
else
 K (.bool false) Hx59)
else
 K (.bool false) Hx59)
else
 K (.bool false) Hx59)
else
 K (.bool false) Hx59)))))
theorem E_law11_known  (H : Hp) (K : Value → Hp → Prop) : B_law11_known  H K = denF Try.prog Try.f44 .n [] H K := by kernel_rfl
theorem den_law11_known  {H : Hp} {K : Value → Hp → Prop} (h : B_law11_known  H K) : hcall PR f_law11_known ⟨[]⟩ H K := denF_call Try.func44 PR_mixed (Eq.mp (E_law11_known  H K) h)

end Go.Proofs.Ytohlnmenghbgbaa

/- PRINTED by gen.py: functions as plain propositions, held against the program by the kernel. No condition. -/
namespace Go.Proofs.Ytohlnmenghbgbaa
open Go
set_option linter.unusedVariables false
set_option maxRecDepth 100000

def B_law11_PaintFalls (gRefsP1 : Option Addr) (gRefsL2 : Nat) (gRefsC3 : Nat) (gOutP4 : Option Addr) (gOutL5 : Nat) (gOutC6 : Nat) (gInP7 : Option Addr) (gInL8 : Nat) (gInC9 : Nat) (lP10 : Option Addr) (lL11 : Nat) (lC12 : Nat) (H : Hp) (K : Value → Hp → Prop) : Prop :=
 newB (.cells #[(.slice gRefsP1 gRefsL2 gRefsC3), (.slice gOutP4 gOutL5 gOutC6), (.slice gInP7 gInL8 gInC9)] ty_hand_Graph) H fun b13 Hx14 =>
 ldSl ⟨b13, 0, none⟩ Hx14 fun RefsP15 RefsL16 RefsC17 =>
 ldSl ⟨b13, 1, none⟩ Hx14 fun OutP18 OutL19 OutC20 =>
 ldSl ⟨b13, 2, none⟩ Hx14 fun InP21 InL22 InC23 =>
 hcall PR f_hand_Graph_Heaps ⟨[(.agg #[(.slice RefsP15 RefsL16 RefsC17), (.slice OutP18 OutL19 OutC20), (.slice InP21 InL22 InC23)]), (.int .i64 30)]⟩ Hx14 fun v24 Hx25 =>
 tup2 v24 fun v26 v27 =>
 asP v26 fun t28 =>
 asP v27 fun t29 =>
 hcall PR f_law11_known ⟨[]⟩ Hx25 fun v30 Hx31 =>
 asB v30 fun t32 =>
 (bif (!t32) then
 K (.bool false) Hx31
else
 (bif (Option.isNone (α := Addr) t28) then
 K (.bool false) Hx31
else
 nilP t29 fun ta33 =>
 ldI .u64 (ta33.add 2) Hx31 fun Last34 =>
 hcall PR f_paint_New ⟨[(.pointer t28), (.int .i64 5)]⟩ Hx31 fun v35 Hx36 =>
 tup2 v35 fun v37 v38 =>
 asP v37 fun t39 =>
 asI .i64 v38 fun t40 =>
 (bif ((t40 : Int) != 0) then
 K (.bool false) Hx36
else
 (bif (Option.isNone (α := Addr) t39) then
 K (.bool false) Hx36
else
 evW PR (Instr.makeSlice ty_Sint (.int .i64 (IntKind.i64.wrap ((IntKind.i64.wrap Last34) + 1))) (.int .i64 (IntKind.i64.wrap ((IntKind.i64.wrap Last34) + 1)))) Hx36 fun v41 Hx42 =>
 asSl v41 fun mkP43 mkL44 mkC45 =>
 ∃ (I46 : Int → Hp → Prop) (m47 : Int → Hp → Nat), I46 0 Hx42 ∧ ∀ i49 : Int, ∀ Hx48 : Hp, I46 i49 Hx48 →
 (bif (decide ((i49 : Int) ≤ (IntKind.i64.wrap Last34))) then
 idxA mkP43 mkL44 i49 1 fun el50 =>
 st el50 (.int .i64 41) Hx48 fun Hx51 =>
 I46 (IntKind.i64.wrap (i49 + 1)) Hx51 ∧ m47 (IntKind.i64.wrap (i49 + 1)) Hx51 < m47 i49 Hx48
else
 ∃ (I52 : Int → Int → Hp → Prop) (m53 : Int → Int → Hp → Nat), I52 0 0 Hx48 ∧ ∀ met55 : Int, ∀ i56 : Int, ∀ Hx54 : Hp, I52 met55 i56 Hx54 →
 (bif (decide ((i56 : Int) < (lL11 : Int))) then
 (bif (decide ((i56 : Int) < 120)) then
 idxA lP10 lL11 i56 6 fun el57 =>
 ldI .u64 (el57.add 2) Hx54 fun Serial58 =>
 ((IntKind.u64.wrap (IntKind.i64.wrap ((IntKind.i64.wrap Last34) + 1))) : Int) ≠ 0 ∧
 ∀ R59 : Hp → Prop, (∀ Hx60 : Hp, (
 ∃ (I61 : Int → Hp → Prop) (m62 : Int → Hp → Nat), I61 1 Hx60 ∧ ∀ k64 : Int, ∀ Hx63 : Hp, I61 k64 Hx63 →
 (bif (decide ((k64 : Int) ≤ (IntKind.i64.wrap Last34))) then
 ∀ R65 : Hp → Prop, (∀ Hx66 : Hp, (
 I61 (IntKind.i64.wrap (k64 + 1)) Hx66 ∧ m62 (IntKind.i64.wrap (k64 + 1)) Hx66 < m62 k64 Hx63) → R65 Hx66) →
 hcall PR f_paint_Paint_Mark ⟨[(.pointer t39), (.int .u64 (IntKind.u64.wrap k64))]⟩ Hx63 fun v67 Hx68 =>
 tup3 v67 fun v69 v70 v71 =>
 asI .i64 v69 fun t72 =>
 asB v70 fun t73 =>
 asB v71 fun t74 =>
 ∀ R75 : Hp → Prop, (∀ Hx76 : Hp, (
 (bif t74 then
 idxA mkP43 mkL44 k64 1 fun el77 =>
 st el77 (.int .i64 t72) Hx76 fun Hx78 =>
 R65 Hx78
else
 R65 Hx76)) → R75 Hx76) →
 (bif (!t74) then
 idxA mkP43 mkL44 k64 1 fun el79 =>
 ldI .i64 el79 Hx68 fun t80 =>
 (bif (decide ((t80 : Int) ≤ 40)) then
 K (.bool false) Hx68
else
 (bif t74 then
 idxA mkP43 mkL44 k64 1 fun el81 =>
 ldI .i64 el81 Hx68 fun t82 =>
 (bif (decide ((t72 : Int) > t82)) then
 K (.bool false) Hx68
else
 (bif (decide ((t72 : Int) < 0)) then
 K (.bool false) Hx68
else
 R75 Hx68))
else
 R75 Hx68))
else
 (bif t74 then
 idxA mkP43 mkL44 k64 1 fun el83 =>
 ldI .i64 el83 Hx68 fun t84 =>
 (bif (decide ((t72 : Int) > t84)) then
 K (.bool false) Hx68
else
 (bif (decide ((t72 : Int) < 0)) then
 K (.bool false) Hx68
else
 R75 Hx68))
else
 R75 Hx68))
else
 hcall PR f_paint_Paint_Outs ⟨[(.pointer t39)]⟩ Hx63 fun v85 Hx86 =>
 asSl v85 fun tP87 tL88 tC89 =>
 (bif (decide (((tL88 : Int) : Int) < met55)) then
 K (.bool false) Hx86
else
 hcall PR f_paint_Paint_Outs ⟨[(.pointer t39)]⟩ Hx86 fun v90 Hx91 =>
 asSl v90 fun tP92 tL93 tC94 =>
 I52 (tL93 : Int) (IntKind.i64.wrap (i56 + 1)) Hx91 ∧ m53 (tL93 : Int) (IntKind.i64.wrap (i56 + 1)) Hx91 < m53 met55 i56 Hx54))) → R59 Hx60) →
 idxA lP10 lL11 i56 6 fun el95 =>
 ldI .i64 el95 Hx54 fun What96 =>
 (2 : Int) ≠ 0 ∧
 (bif (((Int.tmod What96 2) : Int) == 0) then
 idxA lP10 lL11 i56 6 fun el97 =>
 ldI .i64 (el97.add 1) Hx54 fun Rank98 =>
 hcall PR f_paint_Paint_Shade ⟨[(.pointer t39), (.agg #[(.int .i64 1), (.int .u64 (Int.tmod Serial58 (IntKind.u64.wrap (IntKind.i64.wrap ((IntKind.i64.wrap Last34) + 1)))))]), (.int .i64 Rank98)]⟩ Hx54 fun v99 Hx100 =>
 R59 Hx100
else
 hcall PR f_paint_Paint_Scan ⟨[(.pointer t39), (.int .u64 (Int.tmod Serial58 (IntKind.u64.wrap (IntKind.i64.wrap ((IntKind.i64.wrap Last34) + 1)))))]⟩ Hx54 fun v101 Hx102 =>
 asB v101 fun t103 =>
 R59 Hx102)
else
 K (.bool true) Hx54)
else
 K (.bool true) Hx54))))))
theorem E_law11_PaintFalls (gRefsP1 : Option Addr) (gRefsL2 : Nat) (gRefsC3 : Nat) (gOutP4 : Option Addr) (gOutL5 : Nat) (gOutC6 : Nat) (gInP7 : Option Addr) (gInL8 : Nat) (gInC9 : Nat) (lP10 : Option Addr) (lL11 : Nat) (lC12 : Nat) (H : Hp) (K : Value → Hp → Prop) : B_law11_PaintFalls gRefsP1 gRefsL2 gRefsC3 gOutP4 gOutL5 gOutC6 gInP7 gInL8 gInC9 lP10 lL11 lC12 H K = denF Try.prog Try.f17 (.seq none .n (.seq none .n (.seq none .n (.seq none .n (.seq none .n (.seq none .n (.seq none .n (.seq none (.seq none .n (.sub (.loop ⟨[(11, .int .i64)], [1, 7, 8, 10]⟩ .n))) (.seq none .n (.seq none (.seq none .n (.sub (.loop ⟨[(12, .int .i64), (13, .int .i64)], [1, 7, 8, 10]⟩ (.seq none .n (.seq none (.sub (.seq none .n (.seq (some ⟨[], [1, 7, 8, 10, 12, 13]⟩) .n (.seq none (.seq none .n (.sub (.loop ⟨[(15, .int .i64)], [1, 7, 8, 10, 12, 13]⟩ (.seq none .n (.seq (some ⟨[], [1, 7, 8, 10, 12, 13, 15]⟩) (.sub (.seq none .n (.seq (some ⟨[], [1, 7, 8, 10, 12, 13, 15, 16, 18]⟩) .n .n))) .n))))) .n)))) .n))))) .n)))))))))) [(.agg #[(.slice gRefsP1 gRefsL2 gRefsC3), (.slice gOutP4 gOutL5 gOutC6), (.slice gInP7 gInL8 gInC9)]), (.slice lP10 lL11 lC12)] H K := by kernel_rfl
theorem den_law11_PaintFalls {gRefsP1 : Option Addr} {gRefsL2 : Nat} {gRefsC3 : Nat} {gOutP4 : Option Addr} {gOutL5 : Nat} {gOutC6 : Nat} {gInP7 : Option Addr} {gInL8 : Nat} {gInC9 : Nat} {lP10 : Option Addr} {lL11 : Nat} {lC12 : Nat} {H : Hp} {K : Value → Hp → Prop} (h : B_law11_PaintFalls gRefsP1 gRefsL2 gRefsC3 gOutP4 gOutL5 gOutC6 gInP7 gInL8 gInC9 lP10 lL11 lC12 H K) : hcall PR f_law11_PaintFalls ⟨[(.agg #[(.slice gRefsP1 gRefsL2 gRefsC3), (.slice gOutP4 gOutL5 gOutC6), (.slice gInP7 gInL8 gInC9)]), (.slice lP10 lL11 lC12)]⟩ H K := denF_call Try.func17 PR_mixed (Eq.mp (E_law11_PaintFalls gRefsP1 gRefsL2 gRefsC3 gOutP4 gOutL5 gOutC6 gInP7 gInL8 gInC9 lP10 lL11 lC12 H K) h)

end Go.Proofs.Ytohlnmenghbgbaa

/- PRINTED by gen.py: functions as plain propositions, held against the program by the kernel. No condition. -/
namespace Go.Proofs.Ytohlnmenghbgbaa
open Go
set_option linter.unusedVariables false
set_option maxRecDepth 100000

def B_law11_PaintKnown  (H : Hp) (K : Value → Hp → Prop) : Prop :=
 hcall PR f_heap_New ⟨[(.int .i64 1), (.int .i64 64), (.int .i64 4), (.int .u64 0)]⟩ H fun v1 Hx2 =>
 tup2 v1 fun v3 v4 =>
 asP v3 fun t5 =>
 asI .i64 v4 fun t6 =>
 hcall PR f_law11_known ⟨[]⟩ Hx2 fun v7 Hx8 =>
 asB v7 fun t9 =>
 (bif (!t9) then
 K (.bool false) Hx8
else
 (bif ((t6 : Int) != 0) then
 K (.bool false) Hx8
else
 (bif (Option.isNone (α := Addr) t5) then
 K (.bool false) Hx8
else
 hcall PR f_heap_Heap_Make ⟨[(.pointer t5), (.int .i64 1), (.int .i64 0)]⟩ Hx8 fun v10 Hx11 =>
 tup2 v10 fun v12 v13 =>
 asI .u64 v12 fun t14 =>
 asI .i64 v13 fun t15 =>
 hcall PR f_heap_Heap_SetRef ⟨[(.pointer t5), (.int .u64 1), (.int .i64 0), (.agg #[(.int .i64 2), (.int .u64 7)])]⟩ Hx11 fun v16 Hx17 =>
 tup2 v16 fun v18 v19 =>
 agg2 v18 fun v20 v21 =>
 asI .i64 v20 fun Node22 =>
 asI .u64 v21 fun Serial23 =>
 asI .i64 v19 fun t24 =>
 hcall PR f_paint_New ⟨[(.pointer t5), (.int .i64 1)]⟩ Hx17 fun v25 Hx26 =>
 tup2 v25 fun v27 v28 =>
 asP v27 fun t29 =>
 asI .i64 v28 fun t30 =>
 hcall PR f_paint_New ⟨[(.pointer none), (.int .i64 1)]⟩ Hx26 fun v31 Hx32 =>
 tup2 v31 fun v33 v34 =>
 asP v33 fun t35 =>
 asI .i64 v34 fun t36 =>
 hcall PR f_paint_New ⟨[(.pointer t5), (.int .i64 0)]⟩ Hx32 fun v37 Hx38 =>
 tup2 v37 fun v39 v40 =>
 asP v39 fun t41 =>
 asI .i64 v40 fun t42 =>
 (bif ((t30 : Int) != 0) then
 K (.bool false) Hx38
else
 (bif ((t36 : Int) != 1) then
 K (.bool false) Hx38
else
 (bif ((t42 : Int) != 1) then
 K (.bool false) Hx38
else
 (bif (Option.isNone (α := Addr) t29) then
 K (.bool false) Hx38
else
 hcall PR f_paint_Paint_Shade ⟨[(.pointer t29), (.agg #[(.int .i64 1), (.int .u64 1)]), (.int .i64 99)]⟩ Hx38 fun v43 Hx44 =>
 hcall PR f_paint_Paint_Mark ⟨[(.pointer t29), (.int .u64 1)]⟩ Hx44 fun v45 Hx46 =>
 tup3 v45 fun v47 v48 v49 =>
 asI .i64 v47 fun t50 =>
 asB v48 fun t51 =>
 asB v49 fun t52 =>
 hcall PR f_paint_Paint_Scan ⟨[(.pointer t29), (.int .u64 1)]⟩ Hx46 fun v53 Hx54 =>
 asB v53 fun t55 =>
 hcall PR f_paint_Paint_Met ⟨[(.pointer t29), (.agg #[(.int .i64 2), (.int .u64 7)])]⟩ Hx54 fun v56 Hx57 =>
 tup2 v56 fun v58 v59 =>
 asI .i64 v58 fun t60 =>
 asB v59 fun t61 =>
 hcall PR f_paint_Paint_Shade ⟨[(.pointer t29), (.agg #[(.int .i64 1), (.int .u64 9)]), (.int .i64 0)]⟩ Hx57 fun v62 Hx63 =>
 hcall PR f_paint_Paint_Mark ⟨[(.pointer t29), (.int .u64 9)]⟩ Hx63 fun v64 Hx65 =>
 tup3 v64 fun v66 v67 v68 =>
 asI .i64 v66 fun t69 =>
 asB v67 fun t70 =>
 asB v68 fun t71 =>
 hcall PR f_paint_Paint_Outs ⟨[(.pointer t29)]⟩ Hx65 fun v72 Hx73 =>
 asSl v72 fun tP74 tL75 tC76 =>
 (bif ((t50 : Int) == 40) then
 (bif ((t60 : Int) == 40) then
 (bif t61 then
 (bif (!t71) then
 (bif (((tL75 : Int) : Int) == 1) then
 idxA tP74 tL75 0 3 fun el77 =>
 ldI .i64 (el77.add 2) Hx73 fun Rank78 =>
 (bif ((Rank78 : Int) == 40) then
 hcall PR f_paint_Paint_Turns ⟨[(.pointer t29)]⟩ Hx73 fun v79 Hx80 =>
 asI .u64 v79 fun t81 =>
 K (.bool ((t81 : Int) == 0)) Hx80
else
 K (.bool false) Hx73)
else
 K (.bool false) Hx73)
else
 K (.bool false) Hx73)
else
 K (.bool false) Hx73)
else
 K (.bool false) Hx73)
else
 K (.bool false) Hx73))))))))
theorem E_law11_PaintKnown  (H : Hp) (K : Value → Hp → Prop) : B_law11_PaintKnown  H K = denF Try.prog Try.f16 .n [] H K := by kernel_rfl
theorem den_law11_PaintKnown  {H : Hp} {K : Value → Hp → Prop} (h : B_law11_PaintKnown  H K) : hcall PR f_law11_PaintKnown ⟨[]⟩ H K := denF_call Try.func16 PR_mixed (Eq.mp (E_law11_PaintKnown  H K) h)

end Go.Proofs.Ytohlnmenghbgbaa

/- PRINTED by gen.py: functions as plain propositions, held against the program by the kernel. No condition. -/
namespace Go.Proofs.Ytohlnmenghbgbaa
open Go
set_option linter.unusedVariables false
set_option maxRecDepth 100000

def B_law11_PaintTight (gRefsP1 : Option Addr) (gRefsL2 : Nat) (gRefsC3 : Nat) (gOutP4 : Option Addr) (gOutL5 : Nat) (gOutC6 : Nat) (gInP7 : Option Addr) (gInL8 : Nat) (gInC9 : Nat) (lP10 : Option Addr) (lL11 : Nat) (lC12 : Nat) (H : Hp) (K : Value → Hp → Prop) : Prop :=
 newB (.cells #[(.slice gRefsP1 gRefsL2 gRefsC3), (.slice gOutP4 gOutL5 gOutC6), (.slice gInP7 gInL8 gInC9)] ty_hand_Graph) H fun b13 Hx14 =>
 ldSl ⟨b13, 0, none⟩ Hx14 fun RefsP15 RefsL16 RefsC17 =>
 ldSl ⟨b13, 1, none⟩ Hx14 fun OutP18 OutL19 OutC20 =>
 ldSl ⟨b13, 2, none⟩ Hx14 fun InP21 InL22 InC23 =>
 hcall PR f_hand_Graph_Heaps ⟨[(.agg #[(.slice RefsP15 RefsL16 RefsC17), (.slice OutP18 OutL19 OutC20), (.slice InP21 InL22 InC23)]), (.int .i64 30)]⟩ Hx14 fun v24 Hx25 =>
 tup2 v24 fun v26 v27 =>
 asP v26 fun t28 =>
 asP v27 fun t29 =>
 hcall PR f_law11_known ⟨[]⟩ Hx25 fun v30 Hx31 =>
 asB v30 fun t32 =>
 (bif (!t32) then
 K (.bool false) Hx31
else
 (bif (Option.isNone (α := Addr) t28) then
 K (.bool false) Hx31
else
 nilP t29 fun ta33 =>
 ldI .u64 (ta33.add 2) Hx31 fun Last34 =>
 hcall PR f_paint_New ⟨[(.pointer t28), (.int .i64 3)]⟩ Hx31 fun v35 Hx36 =>
 tup2 v35 fun v37 v38 =>
 asP v37 fun t39 =>
 asI .i64 v38 fun t40 =>
 (bif ((t40 : Int) != 0) then
 K (.bool false) Hx36
else
 (bif (Option.isNone (α := Addr) t39) then
 K (.bool false) Hx36
else
 ∀ R41 : Hp → Prop, (∀ Hx42 : Hp, (
 ∃ (I43 : Bool → Hp → Prop) (m44 : Bool → Hp → Nat), I43 true Hx42 ∧ ∀ again46 : Bool, ∀ Hx45 : Hp, I43 again46 Hx45 →
 (bif again46 then
 ∃ (I47 : Bool → Int → Hp → Prop) (m48 : Bool → Int → Hp → Nat), I47 false 1 Hx45 ∧ ∀ again50 : Bool, ∀ s51 : Int, ∀ Hx49 : Hp, I47 again50 s51 Hx49 →
 (bif (decide ((s51 : Int) ≤ (IntKind.i64.wrap Last34))) then
 ∀ R52 : Bool → Hp → Prop, (∀ again54 : Bool, ∀ Hx53 : Hp, (
 I47 again54 (IntKind.i64.wrap (s51 + 1)) Hx53 ∧ m48 again54 (IntKind.i64.wrap (s51 + 1)) Hx53 < m48 again50 s51 Hx49) → R52 again54 Hx53) →
 hcall PR f_paint_Paint_Scan ⟨[(.pointer t39), (.int .u64 (IntKind.u64.wrap s51))]⟩ Hx49 fun v55 Hx56 =>
 asB v55 fun t57 =>
 (bif t57 then
 R52 true Hx56
else
 R52 again50 Hx56)
else
 I43 again50 Hx49 ∧ m44 again50 Hx49 < m44 again46 Hx45)
else
 ∃ (I58 : Int → Hp → Prop) (m59 : Int → Hp → Nat), I58 0 Hx45 ∧ ∀ i61 : Int, ∀ Hx60 : Hp, I58 i61 Hx60 →
 (bif (decide ((i61 : Int) < (IntKind.i64.wrap Last34))) then
 ∀ R62 : Hp → Prop, (∀ Hx63 : Hp, (
 I58 (IntKind.i64.wrap (i61 + 1)) Hx63 ∧ m59 (IntKind.i64.wrap (i61 + 1)) Hx63 < m59 i61 Hx60) → R62 Hx63) →
 hcall PR f_paint_Paint_Mark ⟨[(.pointer t39), (.int .u64 (IntKind.u64.wrap (IntKind.i64.wrap (i61 + 1))))]⟩ Hx60 fun v64 Hx65 =>
 tup3 v64 fun v66 v67 v68 =>
 asI .i64 v66 fun t69 =>
 asB v67 fun t70 =>
 asB v68 fun t71 =>
 (bif t70 then
 K (.bool false) Hx65
else
 ∃ (I72 : Int → Hp → Prop) (m73 : Int → Hp → Nat), I72 0 Hx65 ∧ ∀ k75 : Int, ∀ Hx74 : Hp, I72 k75 Hx74 →
 (bif t71 then
 ldSl ⟨b13, 0, none⟩ Hx74 fun RefsP76 RefsL77 RefsC78 =>
 idxA RefsP76 RefsL77 i61 1 fun el79 =>
 ldSl el79 Hx74 fun tP80 tL81 tC82 =>
 (bif (decide ((k75 : Int) < (tL81 : Int))) then
 (bif (decide ((k75 : Int) < 7)) then
 ∀ R83 : Hp → Prop, (∀ Hx84 : Hp, (
 I72 (IntKind.i64.wrap (k75 + 1)) Hx84 ∧ m73 (IntKind.i64.wrap (k75 + 1)) Hx84 < m73 k75 Hx74) → R83 Hx84) →
 ldSl ⟨b13, 0, none⟩ Hx74 fun RefsP85 RefsL86 RefsC87 =>
 ldSl ⟨b13, 1, none⟩ Hx74 fun OutP88 OutL89 OutC90 =>
 ldSl ⟨b13, 2, none⟩ Hx74 fun InP91 InL92 InC93 =>
 hcall PR f_hand_Graph_Target ⟨[(.agg #[(.slice RefsP85 RefsL86 RefsC87), (.slice OutP88 OutL89 OutC90), (.slice InP91 InL92 InC93)]), (.int .i64 i61), (.int .i64 k75), (.int .i64 (IntKind.i64.wrap Last34))]⟩ Hx74 fun v94 Hx95 =>
 agg2 v94 fun v96 v97 =>
 asI .i64 v96 fun Node98 =>
 asI .u64 v97 fun Serial99 =>
 newB (.cells #[(.int .i64 0), (.int .u64 0)] ty_api_ID) Hx95 fun b100 Hx101 =>
 st ⟨b100, 0, none⟩ (.int .i64 Node98) Hx101 fun Hx102 =>
 st ⟨b100, 1, none⟩ (.int .u64 Serial99) Hx102 fun Hx103 =>
 ldI .i64 ⟨b100, 0, none⟩ Hx103 fun Node104 =>
 ldI .u64 ⟨b100, 1, none⟩ Hx103 fun Serial105 =>
 hcall PR f_paint_Paint_Met ⟨[(.pointer t39), (.agg #[(.int .i64 Node104), (.int .u64 Serial105)])]⟩ Hx103 fun v106 Hx107 =>
 tup2 v106 fun v108 v109 =>
 asI .i64 v108 fun t110 =>
 asB v109 fun t111 =>
 ∀ R112 : Int → Bool → Hp → Prop, (∀ to114 : Int, ∀ is115 : Bool, ∀ Hx113 : Hp, (
 ldI .i64 ⟨b100, 0, none⟩ Hx113 fun Node116 =>
 (bif (decide ((Node116 : Int) > 0)) then
 (bif (!is115) then
 K (.bool false) Hx113
else
 (bif (decide ((to114 : Int) > t69)) then
 K (.bool false) Hx113
else
 R83 Hx113))
else
 R83 Hx113)) → R112 to114 is115 Hx113) →
 ldI .i64 ⟨b100, 0, none⟩ Hx107 fun Node117 =>
 (bif ((Node117 : Int) == 1) then
 ldI .u64 ⟨b100, 1, none⟩ Hx107 fun Serial118 =>
 hcall PR f_paint_Paint_Mark ⟨[(.pointer t39), (.int .u64 Serial118)]⟩ Hx107 fun v119 Hx120 =>
 tup3 v119 fun v121 v122 v123 =>
 asI .i64 v121 fun t124 =>
 asB v122 fun t125 =>
 asB v123 fun t126 =>
 R112 t124 t126 Hx120
else
 R112 t110 t111 Hx107)
else
 R62 Hx74)
else
 R62 Hx74)
else
 R62 Hx74))
else
 K (.bool true) Hx60))) → R41 Hx42) →
 ∃ (I127 : Int → Hp → Prop) (m128 : Int → Hp → Nat), I127 0 Hx36 ∧ ∀ i130 : Int, ∀ Hx129 : Hp, I127 i130 Hx129 →
 (bif (decide ((i130 : Int) < (lL11 : Int))) then
 (bif (decide ((i130 : Int) < 30)) then
 idxA lP10 lL11 i130 6 fun el131 =>
 ldI .u64 (el131.add 2) Hx129 fun Serial132 =>
 ((IntKind.u64.wrap (IntKind.i64.wrap ((IntKind.i64.wrap Last34) + 1))) : Int) ≠ 0 ∧
 idxA lP10 lL11 i130 6 fun el133 =>
 ldI .i64 (el133.add 1) Hx129 fun Rank134 =>
 hcall PR f_paint_Paint_Shade ⟨[(.pointer t39), (.agg #[(.int .i64 1), (.int .u64 (Int.tmod Serial132 (IntKind.u64.wrap (IntKind.i64.wrap ((IntKind.i64.wrap Last34) + 1)))))]), (.int .i64 Rank134)]⟩ Hx129 fun v135 Hx136 =>
 I127 (IntKind.i64.wrap (i130 + 1)) Hx136 ∧ m128 (IntKind.i64.wrap (i130 + 1)) Hx136 < m128 i130 Hx129
else
 R41 Hx129)
else
 R41 Hx129)))))
theorem E_law11_PaintTight (gRefsP1 : Option Addr) (gRefsL2 : Nat) (gRefsC3 : Nat) (gOutP4 : Option Addr) (gOutL5 : Nat) (gOutC6 : Nat) (gInP7 : Option Addr) (gInL8 : Nat) (gInC9 : Nat) (lP10 : Option Addr) (lL11 : Nat) (lC12 : Nat) (H : Hp) (K : Value → Hp → Prop) : B_law11_PaintTight gRefsP1 gRefsL2 gRefsC3 gOutP4 gOutL5 gOutC6 gInP7 gInL8 gInC9 lP10 lL11 lC12 H K = denF Try.prog Try.f10 (.seq none .n (.seq none .n (.seq none .n (.seq none .n (.seq none .n (.seq none .n (.seq (some ⟨[], [2, 7, 8]⟩) (.seq none .n (.sub (.loop ⟨[(10, .int .i64)], [1, 2, 7, 8]⟩ .n))) (.seq none (.seq none .n (.sub (.loop ⟨[(11, .bool)], [2, 7, 8]⟩ (.seq none .n (.sub (.seq none .n (.seq none .n (.sub (.loop ⟨[(11, .bool), (12, .int .i64)], [2, 7, 8]⟩ (.seq none .n (.seq (some ⟨[(11, .bool)], [2, 7, 8, 12]⟩) .n .n))))))))))) (.seq none (.seq none .n (.sub (.loop ⟨[(13, .int .i64)], [2, 7, 8]⟩ (.seq none .n (.seq (some ⟨[], [2, 7, 8, 13]⟩) (.sub (.seq none .n (.seq none .n (.seq none .n (.sub (.loop ⟨[(17, .int .i64)], [2, 7, 8, 13, 14, 16]⟩ (.seq none .n (.seq (some ⟨[], [2, 7, 8, 13, 14, 16, 17]⟩) (.sub (.seq none .n (.seq none .n (.seq (some ⟨[(19, .int .i64), (20, .bool)], [2, 7, 8, 13, 14, 16, 17, 18]⟩) .n .n)))) .n)))))))) .n))))) .n))))))))) [(.agg #[(.slice gRefsP1 gRefsL2 gRefsC3), (.slice gOutP4 gOutL5 gOutC6), (.slice gInP7 gInL8 gInC9)]), (.slice lP10 lL11 lC12)] H K := by kernel_rfl
theorem den_law11_PaintTight {gRefsP1 : Option Addr} {gRefsL2 : Nat} {gRefsC3 : Nat} {gOutP4 : Option Addr} {gOutL5 : Nat} {gOutC6 : Nat} {gInP7 : Option Addr} {gInL8 : Nat} {gInC9 : Nat} {lP10 : Option Addr} {lL11 : Nat} {lC12 : Nat} {H : Hp} {K : Value → Hp → Prop} (h : B_law11_PaintTight gRefsP1 gRefsL2 gRefsC3 gOutP4 gOutL5 gOutC6 gInP7 gInL8 gInC9 lP10 lL11 lC12 H K) : hcall PR f_law11_PaintTight ⟨[(.agg #[(.slice gRefsP1 gRefsL2 gRefsC3), (.slice gOutP4 gOutL5 gOutC6), (.slice gInP7 gInL8 gInC9)]), (.slice lP10 lL11 lC12)]⟩ H K := denF_call Try.func10 PR_mixed (Eq.mp (E_law11_PaintTight gRefsP1 gRefsL2 gRefsC3 gOutP4 gOutL5 gOutC6 gInP7 gInL8 gInC9 lP10 lL11 lC12 H K) h)

end Go.Proofs.Ytohlnmenghbgbaa

/- PRINTED by gen.py: functions as plain propositions, held against the program by the kernel. No condition. -/
namespace Go.Proofs.Ytohlnmenghbgbaa
open Go
set_option linter.unusedVariables false
set_option maxRecDepth 100000

def B_law11_PaintTurns (gRefsP1 : Option Addr) (gRefsL2 : Nat) (gRefsC3 : Nat) (gOutP4 : Option Addr) (gOutL5 : Nat) (gOutC6 : Nat) (gInP7 : Option Addr) (gInL8 : Nat) (gInC9 : Nat) (lP10 : Option Addr) (lL11 : Nat) (lC12 : Nat) (H : Hp) (K : Value → Hp → Prop) : Prop :=
 newB (.cells #[(.slice gRefsP1 gRefsL2 gRefsC3), (.slice gOutP4 gOutL5 gOutC6), (.slice gInP7 gInL8 gInC9)] ty_hand_Graph) H fun b13 Hx14 =>
 ldSl ⟨b13, 0, none⟩ Hx14 fun RefsP15 RefsL16 RefsC17 =>
 ldSl ⟨b13, 1, none⟩ Hx14 fun OutP18 OutL19 OutC20 =>
 ldSl ⟨b13, 2, none⟩ Hx14 fun InP21 InL22 InC23 =>
 hcall PR f_hand_Graph_Heaps ⟨[(.agg #[(.slice RefsP15 RefsL16 RefsC17), (.slice OutP18 OutL19 OutC20), (.slice InP21 InL22 InC23)]), (.int .i64 30)]⟩ Hx14 fun v24 Hx25 =>
 tup2 v24 fun v26 v27 =>
 asP v26 fun t28 =>
 asP v27 fun t29 =>
 hcall PR f_law11_known ⟨[]⟩ Hx25 fun v30 Hx31 =>
 asB v30 fun t32 =>
 (bif (!t32) then
 K (.bool false) Hx31
else
 (bif (Option.isNone (α := Addr) t28) then
 K (.bool false) Hx31
else
 hcall PR f_paint_New ⟨[(.pointer t28), (.int .i64 2)]⟩ Hx31 fun v33 Hx34 =>
 tup2 v33 fun v35 v36 =>
 asP v35 fun t37 =>
 asI .i64 v36 fun t38 =>
 (bif ((t38 : Int) != 0) then
 K (.bool false) Hx34
else
 (bif (Option.isNone (α := Addr) t37) then
 K (.bool false) Hx34
else
 ∀ R39 : Hp → Prop, (∀ Hx40 : Hp, (
 hcall PR f_paint_Paint_Turns ⟨[(.pointer t37)]⟩ Hx40 fun v41 Hx42 =>
 asI .u64 v41 fun t43 =>
 hcall PR f_paint_Paint_Turn ⟨[(.pointer t37)]⟩ Hx42 fun v44 Hx45 =>
 ∃ (I46 : Int → Hp → Prop) (m47 : Int → Hp → Nat), I46 0 Hx45 ∧ ∀ s49 : Int, ∀ Hx48 : Hp, I46 s49 Hx48 →
 nilP t29 fun ta50 =>
 ldI .u64 (ta50.add 2) Hx48 fun Last51 =>
 (bif (decide ((s49 : Int) ≤ Last51)) then
 hcall PR f_paint_Paint_Mark ⟨[(.pointer t37), (.int .u64 s49)]⟩ Hx48 fun v52 Hx53 =>
 tup3 v52 fun v54 v55 v56 =>
 asI .i64 v54 fun t57 =>
 asB v55 fun t58 =>
 asB v56 fun t59 =>
 (bif t59 then
 K (.bool false) Hx53
else
 I46 (IntKind.u64.wrap (s49 + 1)) Hx53 ∧ m47 (IntKind.u64.wrap (s49 + 1)) Hx53 < m47 s49 Hx48)
else
 hcall PR f_paint_Paint_Turns ⟨[(.pointer t37)]⟩ Hx48 fun v60 Hx61 =>
 asI .u64 v60 fun t62 =>
 (bif ((t62 : Int) == (IntKind.u64.wrap (t43 + 1))) then
 hcall PR f_paint_Paint_Waiting ⟨[(.pointer t37)]⟩ Hx61 fun v63 Hx64 =>
 asI .i64 v63 fun t65 =>
 (bif ((t65 : Int) == 0) then
 hcall PR f_paint_Paint_Over ⟨[(.pointer t37)]⟩ Hx64 fun v66 Hx67 =>
 asB v66 fun t68 =>
 (bif (!t68) then
 hcall PR f_paint_Paint_Outs ⟨[(.pointer t37)]⟩ Hx67 fun v69 Hx70 =>
 asSl v69 fun tP71 tL72 tC73 =>
 K (.bool (((tL72 : Int) : Int) == 0)) Hx70
else
 K (.bool false) Hx67)
else
 K (.bool false) Hx64)
else
 K (.bool false) Hx61))) → R39 Hx40) →
 ∃ (I74 : Int → Hp → Prop) (m75 : Int → Hp → Nat), I74 0 Hx34 ∧ ∀ i77 : Int, ∀ Hx76 : Hp, I74 i77 Hx76 →
 (bif (decide ((i77 : Int) < (lL11 : Int))) then
 (bif (decide ((i77 : Int) < 40)) then
 idxA lP10 lL11 i77 6 fun el78 =>
 ldI .i64 (el78.add 3) Hx76 fun Node79 =>
 ldI .u64 ((el78.add 3).add 1) Hx76 fun Serial80 =>
 idxA lP10 lL11 i77 6 fun el81 =>
 ldI .i64 (el81.add 1) Hx76 fun Rank82 =>
 hcall PR f_paint_Paint_Shade ⟨[(.pointer t37), (.agg #[(.int .i64 Node79), (.int .u64 Serial80)]), (.int .i64 Rank82)]⟩ Hx76 fun v83 Hx84 =>
 idxA lP10 lL11 i77 6 fun el85 =>
 ldI .u64 (el85.add 2) Hx84 fun Serial86 =>
 nilP t29 fun ta87 =>
 ldI .u64 (ta87.add 2) Hx84 fun Last88 =>
 ((IntKind.u64.wrap (Last88 + 1)) : Int) ≠ 0 ∧
 idxA lP10 lL11 i77 6 fun el89 =>
 ldI .i64 (el89.add 1) Hx84 fun Rank90 =>
 hcall PR f_paint_Paint_Shade ⟨[(.pointer t37), (.agg #[(.int .i64 1), (.int .u64 (Int.tmod Serial86 (IntKind.u64.wrap (Last88 + 1))))]), (.int .i64 Rank90)]⟩ Hx84 fun v91 Hx92 =>
 idxA lP10 lL11 i77 6 fun el93 =>
 ldI .u64 (el93.add 2) Hx92 fun Serial94 =>
 nilP t29 fun ta95 =>
 ldI .u64 (ta95.add 2) Hx92 fun Last96 =>
 ((IntKind.u64.wrap (Last96 + 1)) : Int) ≠ 0 ∧
 hcall PR f_paint_Paint_Scan ⟨[(.pointer t37), (.int .u64 (Int.tmod Serial94 (IntKind.u64.wrap (Last96 + 1))))]⟩ Hx92 fun v97 Hx98 =>
 asB v97 fun t99 =>
 I74 (IntKind.i64.wrap (i77 + 1)) Hx98 ∧ m75 (IntKind.i64.wrap (i77 + 1)) Hx98 < m75 i77 Hx76
else
 R39 Hx76)
else
 R39 Hx76)))))
theorem E_law11_PaintTurns (gRefsP1 : Option Addr) (gRefsL2 : Nat) (gRefsC3 : Nat) (gOutP4 : Option Addr) (gOutL5 : Nat) (gOutC6 : Nat) (gInP7 : Option Addr) (gInL8 : Nat) (gInC9 : Nat) (lP10 : Option Addr) (lL11 : Nat) (lC12 : Nat) (H : Hp) (K : Value → Hp → Prop) : B_law11_PaintTurns gRefsP1 gRefsL2 gRefsC3 gOutP4 gOutL5 gOutC6 gInP7 gInL8 gInC9 lP10 lL11 lC12 H K = denF Try.prog Try.f18 (.seq none .n (.seq none .n (.seq none .n (.seq none .n (.seq none .n (.seq (some ⟨[], [6, 7]⟩) (.seq none .n (.sub (.loop ⟨[(9, .int .i64)], [1, 6, 7]⟩ .n))) (.seq none .n (.seq none .n (.seq none (.seq none .n (.sub (.loop ⟨[(11, .int .u64)], [6, 7, 10]⟩ .n))) .n))))))))) [(.agg #[(.slice gRefsP1 gRefsL2 gRefsC3), (.slice gOutP4 gOutL5 gOutC6), (.slice gInP7 gInL8 gInC9)]), (.slice lP10 lL11 lC12)] H K := by kernel_rfl
theorem den_law11_PaintTurns {gRefsP1 : Option Addr} {gRefsL2 : Nat} {gRefsC3 : Nat} {gOutP4 : Option Addr} {gOutL5 : Nat} {gOutC6 : Nat} {gInP7 : Option Addr} {gInL8 : Nat} {gInC9 : Nat} {lP10 : Option Addr} {lL11 : Nat} {lC12 : Nat} {H : Hp} {K : Value → Hp → Prop} (h : B_law11_PaintTurns gRefsP1 gRefsL2 gRefsC3 gOutP4 gOutL5 gOutC6 gInP7 gInL8 gInC9 lP10 lL11 lC12 H K) : hcall PR f_law11_PaintTurns ⟨[(.agg #[(.slice gRefsP1 gRefsL2 gRefsC3), (.slice gOutP4 gOutL5 gOutC6), (.slice gInP7 gInL8 gInC9)]), (.slice lP10 lL11 lC12)]⟩ H K := denF_call Try.func18 PR_mixed (Eq.mp (E_law11_PaintTurns gRefsP1 gRefsL2 gRefsC3 gOutP4 gOutL5 gOutC6 gInP7 gInL8 gInC9 lP10 lL11 lC12 H K) h)

end Go.Proofs.Ytohlnmenghbgbaa

/- Chapter 11's statements, run: its example, PaintTight. No condition. -/
namespace Go.Proofs.Ytohlnmenghbgbaa
set_option linter.unusedSimpArgs false
set_option linter.unusedVariables false
open Go

/-- Two objects, the one leading to the other, that one to another node's. -/
theorem known11_heap {s : Hs} {c1 c2 : Int} (ho : s.ok) (hobs : s.obs = [⟨1, c1, [⟨1, 2⟩], [], 0⟩, ⟨2, c2, [⟨2, 7⟩], [], 0⟩]) (hn : s.node = 1) :
    pShade s (pTurn (newPs 4)) ⟨1, 1⟩ 3 = ⟨[(1, (3, true))], [], [1], 4, false, 1⟩ ∧ pMark s ⟨[(1, (3, true))], [], [1], 4, false, 1⟩ 1 = (3, true, true) ∧
    pScan s ⟨[(1, (3, true))], [], [1], 4, false, 1⟩ 1 = (true, ⟨[(1, (3, false)), (2, (3, true))], [], [1, 2], 4, false, 1⟩) ∧ pMark s ⟨[(1, (3, false)), (2, (3, true))], [], [1, 2], 4, false, 1⟩ 2 = (3, true, true) := by
  have g1 : hGet s 1 = some ⟨1, c1, [⟨1, 2⟩], [], 0⟩ := by unfold hGet; rw [hobs]; rfl
  have g2 : hGet s 2 = some ⟨2, c2, [⟨2, 7⟩], [], 0⟩ := by unfold hGet; rw [hobs]; rfl
  have h1 : ¬ hGet s 1 = none := by rw [g1]; simp
  have h2 : ¬ hGet s 2 = none := by rw [g2]; simp
  refine ⟨?_, ?_, ?_, ?_⟩
  · unfold pShade
    rw [if_neg (by decide), if_neg (by rw [hn]; simp), if_neg h1]
    rfl
  · unfold pMark
    rw [show mlook (⟨[(1, (3, true))], [], [1], 4, false, 1⟩ : Ps).marks 1 = some (3, true) from rfl]
    simp only
    rw [if_neg h1]
  · unfold pScan
    rw [g1, show mlook (⟨[(1, (3, true))], [], [1], 4, false, 1⟩ : Ps).marks 1 = some (3, true) from rfl]
    simp only [pShades, List.foldl_cons, List.foldl_nil]
    unfold pShade
    rw [if_neg (by decide), if_neg (by rw [hn]; simp), if_neg h2]
    rfl
  · unfold pMark
    rw [show mlook (⟨[(1, (3, false)), (2, (3, true))], [], [1, 2], 4, false, 1⟩ : Ps).marks 2 = some (3, true) from rfl]
    simp only
    rw [if_neg h2]

theorem known11_ok {H0 H : Hp} {L : List Prt} {K : Value → Hp → Prop} (h : St H0 L H) (hK : ∀ H', St H0 L H' → K (.bool true) H') : hcall PR f_law11_known ⟨[]⟩ H K := by
  apply den_law11_known
  unfold B_law11_known
  refine hNewOk (m := 4) (by decide) (by decide) (by decide) (by decide) (by decide) h fun hb H1 h1 => ?_
  simp only [asI_mk', asB_mk, asP_mk, asA_mk, asM_mk, asSl_mk, asStr_mk, tup2_mk, tup3_mk, agg1_mk, agg2_mk, agg3_mk, agg4_mk, asAggm, unCons_mk, unNil_mk, asTup_mk, extractD0, extractD1, List.toList_toArray, nilP_mk, add_mk, Nat.zero_add, Nat.add_zero, condT, condF, Bool.not_true, Bool.not_false, Option.isNone_some, Option.isNone_none]
  refine bif_neqf rfl ?_
  obtain ⟨s1, c1, a0, a1, a2, a3, a4, a5, a6⟩ := hMake_good' (s := newHs 1 4 0 4) (r := 1) (v := 0) (heap_ok h1 (i := 0) rfl) (by omega) (by omega) (by decide) (by decide) (by show 0 < frees (List.replicate 4 noBlk); rw [frees_new]; omega)
  refine hMakeC h1 (i := 0) rfl (by decide) (by decide) fun H2 h2 => ?_
  rw [a0] at h2 ⊢
  have h2 : St H0 (HeapP hb s1 :: L) H2 := h2
  simp only [asI_mk', asB_mk, asP_mk, asA_mk, asM_mk, asSl_mk, asStr_mk, tup2_mk, tup3_mk, agg1_mk, agg2_mk, agg3_mk, agg4_mk, asAggm, unCons_mk, unNil_mk, asTup_mk, extractD0, extractD1, List.toList_toArray, nilP_mk, add_mk, Nat.zero_add, Nat.add_zero, condT, condF, Bool.not_true, Bool.not_false, Option.isNone_some, Option.isNone_none]
  have a1 : s1.last = 1 := a1
  have a2 : s1.most = 4 := a2
  have a3 : s1.node = 1 := a3
  have a4 : s1.obs = [⟨1, c1, [noId], [], 0⟩] := a4
  have a5 : 4 ≤ frees s1.ar + 1 := by
    have e : frees (newHs 1 4 0 4).ar = 4 := by show frees (List.replicate 4 noBlk) = 4; rw [frees_new]
    omega
  obtain ⟨s2, c2, b0, b1, b2, b3, b4, b5, b6⟩ := hMake_good' (s := s1) (r := 1) (v := 0) a6 (by omega) (by omega) (by rw [a4, a2]; simp) (by rw [a1]; decide) (by omega)
  refine hMakeC h2 (i := 0) rfl (by decide) (by decide) fun H3 h3 => ?_
  rw [b0] at h3 ⊢
  have h3 : St H0 (HeapP hb s2 :: L) H3 := h3
  simp only [asI_mk', asB_mk, asP_mk, asA_mk, asM_mk, asSl_mk, asStr_mk, tup2_mk, tup3_mk, agg1_mk, agg2_mk, agg3_mk, agg4_mk, asAggm, unCons_mk, unNil_mk, asTup_mk, extractD0, extractD1, List.toList_toArray, nilP_mk, add_mk, Nat.zero_add, Nat.add_zero, condT, condF, Bool.not_true, Bool.not_false, Option.isNone_some, Option.isNone_none]
  have b3 : s2.node = 1 := by rw [b3, a3]
  have b4 : s2.obs = [⟨1, c1, [noId], [], 0⟩, ⟨2, c2, [noId], [], 0⟩] := by rw [b4, a4, a1]; rfl
  refine hSetRefC (y := ⟨1, 2⟩) h3 (i := 0) rfl fun H4 h4 => ?_
  simp only [asI_mk', asB_mk, asP_mk, asA_mk, asM_mk, asSl_mk, asStr_mk, tup2_mk, tup3_mk, agg1_mk, agg2_mk, agg3_mk, agg4_mk, asAggm, unCons_mk, unNil_mk, asTup_mk, extractD0, extractD1, List.toList_toArray, nilP_mk, add_mk, Nat.zero_add, Nat.add_zero, condT, condF, Bool.not_true, Bool.not_false, Option.isNone_some, Option.isNone_none]
  have d1 : (hSetRef s2 1 0 ⟨1, 2⟩).2.2 = { s2 with obs := [⟨1, c1, [⟨1, 2⟩], [], 0⟩, ⟨2, c2, [noId], [], 0⟩] } := by
    have g1 : hGet s2 1 = some ⟨1, c1, [noId], [], 0⟩ := by unfold hGet; rw [b4]; rfl
    have hr : (hRef s2 1 0).2 = 0 := by unfold hRef; rw [g1]; rfl
    unfold hSetRef
    rw [if_neg (by decide), if_pos hr]
    unfold hPut
    rw [b4]
    rfl
  rw [d1] at h4
  have h4 : St H0 (HeapP hb { s2 with obs := [⟨1, c1, [⟨1, 2⟩], [], 0⟩, ⟨2, c2, [noId], [], 0⟩] } :: L) H4 := h4
  refine hSetRefC (y := ⟨2, 7⟩) h4 (i := 0) rfl fun H5 h5 => ?_
  simp only [asI_mk', asB_mk, asP_mk, asA_mk, asM_mk, asSl_mk, asStr_mk, tup2_mk, tup3_mk, agg1_mk, agg2_mk, agg3_mk, agg4_mk, asAggm, unCons_mk, unNil_mk, asTup_mk, extractD0, extractD1, List.toList_toArray, nilP_mk, add_mk, Nat.zero_add, Nat.add_zero, condT, condF, Bool.not_true, Bool.not_false, Option.isNone_some, Option.isNone_none]
  have d2 : (hSetRef { s2 with obs := [⟨1, c1, [⟨1, 2⟩], [], 0⟩, ⟨2, c2, [noId], [], 0⟩] } 2 0 ⟨2, 7⟩).2.2 = { s2 with obs := [⟨1, c1, [⟨1, 2⟩], [], 0⟩, ⟨2, c2, [⟨2, 7⟩], [], 0⟩] } := by
    rfl
  rw [d2] at h5
  have h5 : St H0 (HeapP hb { s2 with obs := [⟨1, c1, [⟨1, 2⟩], [], 0⟩, ⟨2, c2, [⟨2, 7⟩], [], 0⟩] } :: L) H5 := h5
  obtain ⟨k1, k2, k3, k4⟩ := known11_heap (s := { s2 with obs := [⟨1, c1, [⟨1, 2⟩], [], 0⟩, ⟨2, c2, [⟨2, 7⟩], [], 0⟩] }) (heap_ok h5 (i := 0) rfl) rfl b3
  generalize ({ s2 with obs := [⟨1, c1, [⟨1, 2⟩], [], 0⟩, ⟨2, c2, [⟨2, 7⟩], [], 0⟩] } : Hs) = s at *
  refine pNewOk h5 (by omega) (by omega) fun pb H6 h6 => ?_
  simp only [asI_mk', asB_mk, asP_mk, asA_mk, asM_mk, asSl_mk, asStr_mk, tup2_mk, tup3_mk, agg1_mk, agg2_mk, agg3_mk, agg4_mk, asAggm, unCons_mk, unNil_mk, asTup_mk, extractD0, extractD1, List.toList_toArray, nilP_mk, add_mk, Nat.zero_add, Nat.add_zero, condT, condF, Bool.not_true, Bool.not_false, Option.isNone_some, Option.isNone_none]
  refine bif_neqf rfl ?_
  refine pTurnC h6 (j := 0) rfl fun H7 h7 => ?_
  refine pShadeC (y := ⟨1, 1⟩) h7 (i := 1) (j := 0) rfl rfl (by decide) fun H8 h8 => ?_
  rw [k1] at h8
  refine pMarkC h8 (i := 1) (j := 0) rfl rfl (by decide) fun H9 h9 => ?_
  rw [k2]
  simp only [asI_mk', asB_mk, asP_mk, asA_mk, asM_mk, asSl_mk, asStr_mk, tup2_mk, tup3_mk, agg1_mk, agg2_mk, agg3_mk, agg4_mk, asAggm, unCons_mk, unNil_mk, asTup_mk, extractD0, extractD1, List.toList_toArray, nilP_mk, add_mk, Nat.zero_add, Nat.add_zero, condT, condF, Bool.not_true, Bool.not_false, Option.isNone_some, Option.isNone_none]
  refine pScanC h9 (i := 1) (j := 0) rfl rfl (by decide) fun H10 h10 => ?_
  rw [k3] at h10 ⊢
  simp only [asI_mk', asB_mk, asP_mk, asA_mk, asM_mk, asSl_mk, asStr_mk, tup2_mk, tup3_mk, agg1_mk, agg2_mk, agg3_mk, agg4_mk, asAggm, unCons_mk, unNil_mk, asTup_mk, extractD0, extractD1, List.toList_toArray, nilP_mk, add_mk, Nat.zero_add, Nat.add_zero, condT, condF, Bool.not_true, Bool.not_false, Option.isNone_some, Option.isNone_none]
  refine pMarkC h10 (i := 1) (j := 0) rfl rfl (by decide) fun H11 h11 => ?_
  rw [k4]
  simp only [asI_mk', asB_mk, asP_mk, asA_mk, asM_mk, asSl_mk, asStr_mk, tup2_mk, tup3_mk, agg1_mk, agg2_mk, agg3_mk, agg4_mk, asAggm, unCons_mk, unNil_mk, asTup_mk, extractD0, extractD1, List.toList_toArray, nilP_mk, add_mk, Nat.zero_add, Nat.add_zero, condT, condF, Bool.not_true, Bool.not_false, Option.isNone_some, Option.isNone_none]
  refine bif_eq rfl (bif_eq rfl ?_)
  refine pWaitingC h11 (j := 0) rfl ?_
  simp only [asI_mk', asB_mk, asP_mk, asA_mk, asM_mk, asSl_mk, asStr_mk, tup2_mk, tup3_mk, agg1_mk, agg2_mk, agg3_mk, agg4_mk, asAggm, unCons_mk, unNil_mk, asTup_mk, extractD0, extractD1, List.toList_toArray, nilP_mk, add_mk, Nat.zero_add, Nat.add_zero, condT, condF, Bool.not_true, Bool.not_false, Option.isNone_some, Option.isNone_none]
  exact hK H11 (St.lesses (M := [_, _]) h11)

set_option maxRecDepth 20000 in
theorem PaintTight_ok {rp op ip : Option Addr} {rl rc ol oc il ic : Nat} {g : Gr} {lP : Option Addr} {lL lC : Nat} {l : List E_law11_Step} {H : Hp} {K : Value → Hp → Prop} (ga : GrA H rp rl op ol ip il g) (gok : g.ok)
    (hr : Rd H 6 lP lL (cel E_law11_Step.cells l)) (hl : lL ≤ 9223372036854775807) (hok : ∀ x ∈ l, x.ok) (hK : ∀ H', Keep Nothing H H' → K (.bool true) H') :
    hcall PR f_law11_PaintTight ⟨[.agg #[.slice rp rl rc, .slice op ol oc, .slice ip il ic], .slice lP lL lC]⟩ H K := by
  apply den_law11_PaintTight
  unfold B_law11_PaintTight
  intro b13 hb13
  have h1 := (St.start H).alloc (o := .cells #[.slice rp rl rc, .slice op ol oc, .slice ip il ic] ty_hand_Graph) hb13
  refine ldSl_of (h1.cell (i := 0) rfl rfl) (ldSl_of (h1.cell (i := 0) rfl rfl) (ldSl_of (h1.cell (i := 0) rfl rfl) ?_))
  refine HeapsC (most := 30) (ga.st h1) gok (by omega) fun hb rb s H2 hs h2 => ?_
  have h2 := h1.join h2
  have hn : grSize g 30 ≤ 30 ∧ grSize g 30 ≤ g.refs.length := by unfold grSize; split <;> omega
  generalize grSize g 30 = n at *
  simp only [asI_mk', asB_mk, asP_mk, asA_mk, asM_mk, asSl_mk, asStr_mk, tup2_mk, tup3_mk, agg1_mk, agg2_mk, agg3_mk, agg4_mk, asAggm, unCons_mk, unNil_mk, asTup_mk, extractD0, extractD1, List.toList_toArray, nilP_mk, add_mk, Nat.zero_add, Nat.add_zero, condT, condF, Bool.not_true, Bool.not_false, Option.isNone_some, Option.isNone_none]
  refine known11_ok h2 fun H3 h3 => ?_
  simp only [asI_mk', asB_mk, asP_mk, asA_mk, asM_mk, asSl_mk, asStr_mk, tup2_mk, tup3_mk, agg1_mk, agg2_mk, agg3_mk, agg4_mk, asAggm, unCons_mk, unNil_mk, asTup_mk, extractD0, extractD1, List.toList_toArray, nilP_mk, add_mk, Nat.zero_add, Nat.add_zero, condT, condF, Bool.not_true, Bool.not_false, Option.isNone_some, Option.isNone_none]
  obtain ⟨y1, N1, g1, _, _⟩ := rheapOpenL (i := 1) h3 rfl (.inl rfl)
  refine ldI_of (rheapV g1).last ?_
  rw [hs.last]
  refine pNewOk h3 (by omega) (by omega) fun pb H4 h4 => ?_
  simp only [asI_mk', asB_mk, asP_mk, asA_mk, asM_mk, asSl_mk, asStr_mk, tup2_mk, tup3_mk, agg1_mk, agg2_mk, agg3_mk, agg4_mk, asAggm, unCons_mk, unNil_mk, asTup_mk, extractD0, extractD1, List.toList_toArray, nilP_mk, add_mk, Nat.zero_add, Nat.add_zero, condT, condF, Bool.not_true, Bool.not_false, Option.isNone_some, Option.isNone_none]
  refine bif_neqf rfl ?_
  have w0 : IntKind.i64.wrap (n : Int) = n := wrap_i64 (by omega) (by omega)
  have w1 : IntKind.i64.wrap ((n : Int) + 1) = ((n + 1 : Nat) : Int) := by rw [wrap_i64 (by omega) (by omega)]; omega
  have w2 : IntKind.u64.wrap ((n + 1 : Nat) : Int) = ((n + 1 : Nat) : Int) := wrap_u64' (by omega) (by omega)
  simp only [w0, w1, w2]
  have ht0 : Tight s (newPs 3) := tight_new
  have h4 : St H [PaintP pb hb (newPs 3), HeapP hb s, RHeap rb s, Prt.one b13 (.cells #[.slice rp rl rc, .slice op ol oc, .slice ip il ic] ty_hand_Graph (0, 0))] H4 := h4
  generalize newPs 3 = p0 at h4 ht0
  intro R41 hR41
  have hR41 : ∀ p H', Tight s p → St H [PaintP pb hb p, HeapP hb s, RHeap rb s, Prt.one b13 (.cells #[.slice rp rl rc, .slice op ol oc, .slice ip il ic] ty_hand_Graph (0, 0))] H' → R41 H' := fun p H' ht h' => by
    refine hR41 H' ?_
    clear hR41
    obtain ⟨m, hm1, hm2⟩ := ghost (fun (p : Ps) H' => Tight s p ∧ St H [PaintP pb hb p, HeapP hb s, RHeap rb s, Prt.one b13 (.cells #[.slice rp rl rc, .slice op ol oc, .slice ip il ic] ty_hand_Graph (0, 0))] H') (total2 s)
    refine ⟨fun again H' => ∃ p, (Tight s p ∧ St H [PaintP pb hb p, HeapP hb s, RHeap rb s, Prt.one b13 (.cells #[.slice rp rl rc, .slice op ol oc, .slice ip il ic] ty_hand_Graph (0, 0))] H') ∧ (again = false → ∀ k : Nat, 1 ≤ k → k ≤ n → ∀ r, mlook p.marks k ≠ some (r, true)),
      fun again H' => m H' + (if again then 1 else 0), ⟨p, ⟨ht, h'⟩, fun h => by cases h⟩, ?_⟩
    clear h' ht
    rintro again H5 ⟨p, hI, hno⟩
    cases again
    rotate_left
    · simp only [condT]
      clear hno
      obtain ⟨p, ⟨ht, h5⟩, hmin⟩ := hm2 H5 ⟨p, hI⟩
      clear hI
      refine ⟨fun again k H' => ∃ (y : Nat) (q : Ps), k = ((y + 1 : Nat) : Int) ∧ y ≤ n ∧ Tight s q ∧ St H [PaintP pb hb q, HeapP hb s, RHeap rb s, Prt.one b13 (.cells #[.slice rp rl rc, .slice op ol oc, .slice ip il ic] ty_hand_Graph (0, 0))] H' ∧
          (again = true → total2 s q + 1 ≤ m H5) ∧ (again = false → total2 s q ≤ m H5 ∧ ∀ k : Nat, 1 ≤ k → k ≤ y → ∀ r, mlook q.marks k ≠ some (r, true)),
        fun _ k _ => ((n : Int) + 1 - k).toNat, ⟨0, p, rfl, by omega, ht, h5, fun h => (by cases h), fun _ => ⟨by omega, fun k h1 h2 => by omega⟩⟩, ?_⟩
      rintro again k H6 ⟨y, q, rfl, hy, htq, h6, ha1, ha2⟩
      by_cases hc : ((y + 1 : Nat) : Int) ≤ n
      rotate_left
      · obtain rfl : y = n := by omega
        refine bif_neg hc ⟨⟨q, ⟨htq, h6⟩, fun he => (ha2 he).2⟩, ?_⟩
        have := hm1 H6 q ⟨htq, h6⟩
        simp only [if_true]
        cases again
        · have := (ha2 rfl).1
          simp only [Bool.false_eq_true, if_false]
          omega
        · have := ha1 rfl
          simp only [if_true]
          omega
      refine bif_pos hc ?_
      intro R52 hR52
      have hR52 : ∀ again q H', Tight s q → St H [PaintP pb hb q, HeapP hb s, RHeap rb s, Prt.one b13 (.cells #[.slice rp rl rc, .slice op ol oc, .slice ip il ic] ty_hand_Graph (0, 0))] H' → (again = true → total2 s q + 1 ≤ m H5) → (again = false → total2 s q ≤ m H5 ∧ ∀ k : Nat, 1 ≤ k → k ≤ y + 1 → ∀ r, mlook q.marks k ≠ some (r, true)) → R52 again H' := fun again q H' htq h' h1 h2 => by
        refine hR52 _ H' ?_
        rw [wrap_i64 (by omega) (by omega)]
        exact ⟨⟨y + 1, q, by omega, by omega, htq, h', h1, h2⟩, by (try dsimp only); omega⟩
      have v1 : IntKind.u64.wrap ((y + 1 : Nat) : Int) = ((y + 1 : Nat) : Int) := wrap_u64' (by omega) (by omega)
      rw [v1]
      have hoq := paint_ok h6 (j := 0) rfl
      refine pScanC h6 (i := 1) (j := 0) rfl rfl (by decide) fun H7 h7 => ?_
      simp only [asI_mk', asB_mk, asP_mk, asA_mk, asM_mk, asSl_mk, asStr_mk, tup2_mk, tup3_mk, agg1_mk, agg2_mk, agg3_mk, agg4_mk, asAggm, unCons_mk, unNil_mk, asTup_mk, extractD0, extractD1, List.toList_toArray, nilP_mk, add_mk, Nat.zero_add, Nat.add_zero, condT, condF, Bool.not_true, Bool.not_false, Option.isNone_some, Option.isNone_none]
      obtain ⟨t1, t2⟩ := total2_scan (s := s) (k := ((y + 1 : Nat) : Int)) hoq
      cases hsc : (pScan s q ((y + 1 : Nat) : Int)).1
      · simp only [condF]
        have e : (pScan s q ((y + 1 : Nat) : Int)).2 = q := by
          unfold pScan at hsc ⊢
          split
          · rename_i e1 e2
            rw [e1, e2] at hsc
            cases hsc
          · rfl
        have hnk := scan_no hsc (hs.has.2 (by omega))
        rw [e] at h7
        refine hR52 again q H7 htq h7 ha1 fun he => ⟨(ha2 he).1, fun k h1 h2 => ?_⟩
        by_cases ek : k = y + 1
        · subst ek; exact hnk
        · exact (ha2 he).2 k h1 (by omega)
      · simp only [condT]
        refine hR52 true _ H7 (htq.scan hoq) h7 (fun _ => ?_) fun he => by cases he
        have := t2 hsc
        cases again
        · have := (ha2 rfl).1; omega
        · have := ha1 rfl; omega
    simp only [condF]
    obtain ⟨ht, h5⟩ := hI
    have hno := hno rfl
    refine ⟨fun i H' => ∃ y : Nat, i = y ∧ y ≤ n ∧ St H [PaintP pb hb p, HeapP hb s, RHeap rb s, Prt.one b13 (.cells #[.slice rp rl rc, .slice op ol oc, .slice ip il ic] ty_hand_Graph (0, 0))] H', fun i _ => ((n : Int) - i).toNat, ⟨0, rfl, by omega, h5⟩, ?_⟩
    clear h5
    rintro i H6 ⟨y, rfl, hy, h6⟩
    by_cases hc : (y : Int) < n
    rotate_left
    · exact bif_neg hc (hK H6 h6.keep)
    refine bif_pos hc ?_
    intro R62 hR62
    have hR62 : ∀ H', St H [PaintP pb hb p, HeapP hb s, RHeap rb s, Prt.one b13 (.cells #[.slice rp rl rc, .slice op ol oc, .slice ip il ic] ty_hand_Graph (0, 0))] H' → R62 H' := fun H' h' => by
      refine hR62 H' ?_
      rw [wrap_i64 (by omega) (by omega)]
      exact ⟨⟨y + 1, by omega, by omega, h'⟩, by (try dsimp only); omega⟩
    have v1 : IntKind.i64.wrap ((y : Int) + 1) = ((y + 1 : Nat) : Int) := by rw [wrap_i64 (by omega) (by omega)]; omega
    have v2 : IntKind.u64.wrap ((y + 1 : Nat) : Int) = ((y + 1 : Nat) : Int) := wrap_u64' (by omega) (by omega)
    rw [v1, v2]
    refine pMarkC h6 (i := 1) (j := 0) rfl rfl (by decide) fun H7 h7 => ?_
    simp only [asI_mk', asB_mk, asP_mk, asA_mk, asM_mk, asSl_mk, asStr_mk, tup2_mk, tup3_mk, agg1_mk, agg2_mk, agg3_mk, agg4_mk, asAggm, unCons_mk, unNil_mk, asTup_mk, extractD0, extractD1, List.toList_toArray, nilP_mk, add_mk, Nat.zero_add, Nat.add_zero, condT, condF, Bool.not_true, Bool.not_false, Option.isNone_some, Option.isNone_none]
    obtain ⟨c, hgy⟩ := hs.get (m := ((y + 1 : Nat) : Int)) (by omega)
    rw [show (((y + 1 : Nat) : Int)).toNat - 1 = y by omega] at hgy
    have hny : ¬ hGet s ((y + 1 : Nat) : Int) = none := by rw [hgy]; simp
    cases hmk : mlook p.marks ((y + 1 : Nat) : Int) with
    | none =>
      have e : pMark s p ((y + 1 : Nat) : Int) = (0, false, false) := by unfold pMark; rw [hmk]
      rw [e]
      simp only [condF]
      exact ⟨fun _ H' => St H [PaintP pb hb p, HeapP hb s, RHeap rb s, Prt.one b13 (.cells #[.slice rp rl rc, .slice op ol oc, .slice ip il ic] ty_hand_Graph (0, 0))] H', fun _ _ => 0, h7, fun k H8 h8 => hR62 H8 h8⟩
    | some w =>
      obtain ⟨r, gr⟩ := w
      have hgr : gr = false := by
        cases gr
        · rfl
        · exact absurd hmk (hno (y + 1) (by omega) (by omega) r)
      subst hgr
      have e : pMark s p ((y + 1 : Nat) : Int) = (r, false, true) := by
        unfold pMark
        rw [hmk]
        exact if_neg hny
      rw [e]
      simp only [condF]
      refine ⟨fun k H' => ∃ z : Nat, k = z ∧ z ≤ 7 ∧ St H [PaintP pb hb p, HeapP hb s, RHeap rb s, Prt.one b13 (.cells #[.slice rp rl rc, .slice op ol oc, .slice ip il ic] ty_hand_Graph (0, 0))] H', fun k _ => (8 - k).toNat, ⟨0, rfl, by omega, h7⟩, ?_⟩
      rintro k H8 ⟨z, rfl, hz, h8⟩
      simp only [condT]
      refine ldSl_of (h8.cell (i := 3) rfl rfl) ((ga.st h8).row (i := y) (by omega) fun a p' c' ha hrow => ldSl_of ha ?_)
      by_cases hzl : (z : Int) < (((g.refs.getD y []).length : Nat) : Int)
      rotate_left
      · exact bif_neg hzl (hR62 H8 h8)
      refine bif_pos hzl ?_
      by_cases hz7 : (z : Int) < 7
      rotate_left
      · exact bif_neg hz7 (hR62 H8 h8)
      have hzd : z < grDeg g y := by unfold grDeg; split <;> omega
      refine bif_pos hz7 ?_
      intro R83 hR83
      have hR83 : ∀ H', St H [PaintP pb hb p, HeapP hb s, RHeap rb s, Prt.one b13 (.cells #[.slice rp rl rc, .slice op ol oc, .slice ip il ic] ty_hand_Graph (0, 0))] H' → R83 H' := fun H' h' => by
        refine hR83 H' ?_
        rw [wrap_i64 (by omega) (by omega)]
        exact ⟨⟨z + 1, by omega, by omega, h'⟩, by (try dsimp only); omega⟩
      refine ldSl_of (h8.cell (i := 3) rfl rfl) (ldSl_of (h8.cell (i := 3) rfl rfl) (ldSl_of (h8.cell (i := 3) rfl rfl) (TargetC h8 ga gok (by omega) (by omega) (by omega) (by omega) (by omega) fun H9 h9 => ?_)))
      simp only [asI_mk', asB_mk, asP_mk, asA_mk, asM_mk, asSl_mk, asStr_mk, tup2_mk, tup3_mk, agg1_mk, agg2_mk, agg3_mk, agg4_mk, asAggm, unCons_mk, unNil_mk, asTup_mk, extractD0, extractD1, List.toList_toArray, nilP_mk, add_mk, Nat.zero_add, Nat.add_zero, condT, condF, Bool.not_true, Bool.not_false, Option.isNone_some, Option.isNone_none]
      have htar := grTarget_ok (g := g) (n := (n : Int)) (by omega) (i := y) (k := z)
      have hlow := ht _ r _ hmk hgy (grTarget g n y z) (grRefs_mem hzd)
      have hsr : (grTarget g n y z).n = 1 → (grTarget g n y z).s ≤ n := by
        unfold grTarget
        have p3 := pick_lt (n := (g.refs.getD y []).getD z 0) (m := (n : Int)) (by omega)
        have p4 := pick_lt (n := (g.refs.getD y []).getD z 0) (m := 2) (by omega)
        split
        · intro h; cases h
        · split
          · intro h
            have h : 2 + pick ((g.refs.getD y []).getD z 0) 2 = 1 := h
            omega
          · intro _
            show 1 + pick _ _ ≤ _
            omega
      generalize grTarget g n y z = x at *
      refine box2 h9 fun b100 H10 h10 => ?_
      refine ldI_of (h10.cell (i := 0) rfl rfl) (ldI_of (h10.cell (i := 0) rfl rfl) (pMetC (y := x) h10 (j := 1) rfl fun H11 h11 => ?_))
      simp only [asI_mk', asB_mk, asP_mk, asA_mk, asM_mk, asSl_mk, asStr_mk, tup2_mk, tup3_mk, agg1_mk, agg2_mk, agg3_mk, agg4_mk, asAggm, unCons_mk, unNil_mk, asTup_mk, extractD0, extractD1, List.toList_toArray, nilP_mk, add_mk, Nat.zero_add, Nat.add_zero, condT, condF, Bool.not_true, Bool.not_false, Option.isNone_some, Option.isNone_none]
      intro R112 hR112
      have hR112 : ∀ to is H', (0 < x.n → is = true ∧ to ≤ r) → St H [Prt.one b100 (.cells #[.int .i64 x.n, .int .u64 x.s] ty_api_ID (0, 0)), PaintP pb hb p, HeapP hb s, RHeap rb s, Prt.one b13 (.cells #[.slice rp rl rc, .slice op ol oc, .slice ip il ic] ty_hand_Graph (0, 0))] H' → R112 to is H' := fun to is H' hcond h' => by
        refine hR112 _ _ H' (ldI_of (h'.cell (i := 0) rfl rfl) ?_)
        by_cases hx : x.n > 0
        · obtain ⟨e1, e2⟩ := hcond hx
          subst e1
          refine bif_pos hx ?_
          simp only [Bool.not_true, condF]
          exact bif_neg (by omega) (hR83 H' h'.less)
        · exact bif_neg hx (hR83 H' h'.less)
      refine ldI_of (h11.cell (i := 0) rfl rfl) ?_
      by_cases hx1 : x.n = 1
      · refine bif_eq hx1 (ldI_of (h11.cell (i := 0) rfl rfl) (pMarkC h11 (i := 2) (j := 1) rfl rfl (by decide) fun H12 h12 => ?_))
        simp only [asI_mk', asB_mk, asP_mk, asA_mk, asM_mk, asSl_mk, asStr_mk, tup2_mk, tup3_mk, agg1_mk, agg2_mk, agg3_mk, agg4_mk, asAggm, unCons_mk, unNil_mk, asTup_mk, extractD0, extractD1, List.toList_toArray, nilP_mk, add_mk, Nat.zero_add, Nat.add_zero, condT, condF, Bool.not_true, Bool.not_false, Option.isNone_some, Option.isNone_none]
        have hxs := hsr hx1
        have hxid : isId x := by
          rcases htar with h | h
          · rw [h] at hx1; cases hx1
          · exact ⟨by omega, by omega, by omega, by omega⟩
        have hlx := hlow hxid
        rw [if_pos (by rw [hs.node]; exact hx1)] at hlx
        have hgx : hGet s x.s ≠ none := hs.has.2 ⟨hxid.2.2.1, hxs⟩
        obtain ⟨r', g', e1, e2⟩ := hlx hgx
        have em : pMark s p x.s = (r', g', true) := by
          unfold pMark
          rw [e1]
          exact if_neg hgx
        rw [em]
        exact hR112 _ _ H12 (fun _ => ⟨rfl, e2⟩) h12
      · refine bif_ne hx1 (hR112 _ _ H11 (fun hx0 => ?_) h11)
        have hxid : isId x := by
          rcases htar with h | h
          · rw [h] at hx0; exact absurd hx0 (by decide)
          · exact ⟨by omega, by omega, by omega, by omega⟩
        have hlx := hlow hxid
        rw [if_neg (by rw [hs.node]; exact hx1)] at hlx
        obtain ⟨r', e1, e2⟩ := hlx
        unfold pMet
        rw [e1]
        exact ⟨rfl, e2⟩
  refine ⟨fun i H' => ∃ (j : Nat) (p : Ps), i = j ∧ j ≤ lL ∧ Tight s p ∧ St H [PaintP pb hb p, HeapP hb s, RHeap rb s, Prt.one b13 (.cells #[.slice rp rl rc, .slice op ol oc, .slice ip il ic] ty_hand_Graph (0, 0))] H', fun i _ => ((lL : Int) - i).toNat, ⟨0, p0, rfl, by omega, ht0, h4⟩, ?_⟩
  clear h4 ht0
  rintro i H5 ⟨j, p, rfl, hj, ht, h5⟩
  by_cases hc : (j : Int) < lL
  rotate_left
  · exact bif_neg hc (hR41 p H5 ht h5)
  refine bif_pos hc ?_
  by_cases h30 : (j : Int) < 30
  rotate_left
  · exact bif_neg h30 (hR41 p H5 ht h5)
  have rr := h5.rd hr
  refine bif_pos h30 (idxS E_law11_Step.len ⟨0, 0, 0, 0, 0, false⟩ rr (by omega) (by omega) hc fun b1 o1 hp hjl hcs => ?_)
  have c1 := hcs 1 (by omega)
  have c2 := hcs 2 (by omega)
  generalize l.getD (j : Int).toNat ⟨0, 0, 0, 0, 0, false⟩ = x at hcs c1 c2
  simp only [asI_mk', asB_mk, asP_mk, asA_mk, asM_mk, asSl_mk, asStr_mk, tup2_mk, tup3_mk, agg1_mk, agg2_mk, agg3_mk, agg4_mk, asAggm, unCons_mk, unNil_mk, asTup_mk, extractD0, extractD1, List.toList_toArray, nilP_mk, add_mk, Nat.zero_add, Nat.add_zero, condT, condF, Bool.not_true, Bool.not_false, Option.isNone_some, Option.isNone_none]
  refine ldI_of c2 ⟨by omega, idxA_of rr (by omega) hc fun b' o' hp' _ => ?_⟩
  obtain ⟨rfl, rfl⟩ : b1 = b' ∧ o1 = o' := by rw [hp] at hp'; simpa using hp'
  simp only [asI_mk', asB_mk, asP_mk, asA_mk, asM_mk, asSl_mk, asStr_mk, tup2_mk, tup3_mk, agg1_mk, agg2_mk, agg3_mk, agg4_mk, asAggm, unCons_mk, unNil_mk, asTup_mk, extractD0, extractD1, List.toList_toArray, nilP_mk, add_mk, Nat.zero_add, Nat.add_zero, condT, condF, Bool.not_true, Bool.not_false, Option.isNone_some, Option.isNone_none]
  refine ldI_of c1 (pShadeC (y := ⟨1, Int.tmod x.Serial ((n + 1 : Nat) : Int)⟩) h5 (i := 1) (j := 0) rfl rfl (by decide) fun H6 h6 => ?_)
  rw [wrap_i64 (by omega) (by omega)]
  exact ⟨⟨j + 1, _, by omega, by omega, ht.shade, h6⟩, by (try dsimp only); omega⟩

end Go.Proofs.Ytohlnmenghbgbaa

/- Chapter 11's statements, run: PaintKnown, PaintFalls, PaintTurns. No condition. -/
namespace Go.Proofs.Ytohlnmenghbgbaa
set_option linter.unusedSimpArgs false
set_option linter.unusedVariables false
open Go

theorem PaintKnown_ok {H : Hp} {K : Value → Hp → Prop} (hK : ∀ H', Keep Nothing H H' → K (.bool true) H') : hcall PR f_law11_PaintKnown ⟨[]⟩ H K := by
  apply den_law11_PaintKnown
  unfold B_law11_PaintKnown
  refine hNewOk (m := 4) (by decide) (by decide) (by decide) (by decide) (by decide) (St.start H) fun hb H1 h1 => ?_
  simp only [asI_mk', asB_mk, asP_mk, asA_mk, asM_mk, asSl_mk, asStr_mk, tup2_mk, tup3_mk, agg1_mk, agg2_mk, agg3_mk, agg4_mk, asAggm, unCons_mk, unNil_mk, asTup_mk, extractD0, extractD1, List.toList_toArray, nilP_mk, add_mk, Nat.zero_add, Nat.add_zero, condT, condF, Bool.not_true, Bool.not_false, Option.isNone_some, Option.isNone_none]
  refine known11_ok h1 fun H2 h2 => ?_
  simp only [asI_mk', asB_mk, asP_mk, asA_mk, asM_mk, asSl_mk, asStr_mk, tup2_mk, tup3_mk, agg1_mk, agg2_mk, agg3_mk, agg4_mk, asAggm, unCons_mk, unNil_mk, asTup_mk, extractD0, extractD1, List.toList_toArray, nilP_mk, add_mk, Nat.zero_add, Nat.add_zero, condT, condF, Bool.not_true, Bool.not_false, Option.isNone_some, Option.isNone_none]
  refine bif_neqf rfl ?_
  obtain ⟨s1, c1, a0, a1, a2, a3, a4, a5, a6⟩ := hMake_good' (s := newHs 1 4 0 4) (r := 1) (v := 0) (heap_ok h2 (i := 0) rfl) (by omega) (by omega) (by decide) (by decide) (by show 0 < frees (List.replicate 4 noBlk); rw [frees_new]; omega)
  refine hMakeC h2 (i := 0) rfl (by decide) (by decide) fun H3 h3 => ?_
  rw [a0] at h3 ⊢
  have h3 : St H [HeapP hb s1] H3 := h3
  simp only [asI_mk', asB_mk, asP_mk, asA_mk, asM_mk, asSl_mk, asStr_mk, tup2_mk, tup3_mk, agg1_mk, agg2_mk, agg3_mk, agg4_mk, asAggm, unCons_mk, unNil_mk, asTup_mk, extractD0, extractD1, List.toList_toArray, nilP_mk, add_mk, Nat.zero_add, Nat.add_zero, condT, condF, Bool.not_true, Bool.not_false, Option.isNone_some, Option.isNone_none]
  have a3 : s1.node = 1 := a3
  have a4 : s1.obs = [⟨1, c1, [noId], [], 0⟩] := a4
  refine hSetRefC (y := ⟨2, 7⟩) h3 (i := 0) rfl fun H4 h4 => ?_
  simp only [asI_mk', asB_mk, asP_mk, asA_mk, asM_mk, asSl_mk, asStr_mk, tup2_mk, tup3_mk, agg1_mk, agg2_mk, agg3_mk, agg4_mk, asAggm, unCons_mk, unNil_mk, asTup_mk, extractD0, extractD1, List.toList_toArray, nilP_mk, add_mk, Nat.zero_add, Nat.add_zero, condT, condF, Bool.not_true, Bool.not_false, Option.isNone_some, Option.isNone_none]
  have d1 : (hSetRef s1 1 0 ⟨2, 7⟩).2.2 = { s1 with obs := [⟨1, c1, [⟨2, 7⟩], [], 0⟩] } := by
    have g1 : hGet s1 1 = some ⟨1, c1, [noId], [], 0⟩ := by unfold hGet; rw [a4]; rfl
    have hr : (hRef s1 1 0).2 = 0 := by unfold hRef; rw [g1]; rfl
    unfold hSetRef
    rw [if_neg (by decide), if_pos hr]
    unfold hPut
    rw [a4]
    rfl
  rw [d1] at h4
  have h4 : St H [HeapP hb { s1 with obs := [⟨1, c1, [⟨2, 7⟩], [], 0⟩] }] H4 := h4
  have g1 : hGet { s1 with obs := [⟨1, c1, [⟨2, 7⟩], [], 0⟩] } 1 = some ⟨1, c1, [⟨2, 7⟩], [], 0⟩ := rfl
  have g9 : hGet { s1 with obs := [⟨1, c1, [⟨2, 7⟩], [], 0⟩] } 9 = none := rfl
  have hnode : ({ s1 with obs := [⟨1, c1, [⟨2, 7⟩], [], 0⟩] } : Hs).node = 1 := a3
  generalize ({ s1 with obs := [⟨1, c1, [⟨2, 7⟩], [], 0⟩] } : Hs) = s at *
  have hn1 : ¬ hGet s 1 = none := by rw [g1]; simp
  refine pNewOk h4 (by omega) (by omega) fun pb H5 h5 => ?_
  simp only [asI_mk', asB_mk, asP_mk, asA_mk, asM_mk, asSl_mk, asStr_mk, tup2_mk, tup3_mk, agg1_mk, agg2_mk, agg3_mk, agg4_mk, asAggm, unCons_mk, unNil_mk, asTup_mk, extractD0, extractD1, List.toList_toArray, nilP_mk, add_mk, Nat.zero_add, Nat.add_zero, condT, condF, Bool.not_true, Bool.not_false, Option.isNone_some, Option.isNone_none]
  refine pNewNil ?_
  simp only [asI_mk', asB_mk, asP_mk, asA_mk, asM_mk, asSl_mk, asStr_mk, tup2_mk, tup3_mk, agg1_mk, agg2_mk, agg3_mk, agg4_mk, asAggm, unCons_mk, unNil_mk, asTup_mk, extractD0, extractD1, List.toList_toArray, nilP_mk, add_mk, Nat.zero_add, Nat.add_zero, condT, condF, Bool.not_true, Bool.not_false, Option.isNone_some, Option.isNone_none]
  refine pNewBad (by omega) ?_
  simp only [asI_mk', asB_mk, asP_mk, asA_mk, asM_mk, asSl_mk, asStr_mk, tup2_mk, tup3_mk, agg1_mk, agg2_mk, agg3_mk, agg4_mk, asAggm, unCons_mk, unNil_mk, asTup_mk, extractD0, extractD1, List.toList_toArray, nilP_mk, add_mk, Nat.zero_add, Nat.add_zero, condT, condF, Bool.not_true, Bool.not_false, Option.isNone_some, Option.isNone_none]
  refine bif_neqf rfl (bif_neqf rfl (bif_neqf rfl ?_))
  have k1 : pShade s (newPs 1) ⟨1, 1⟩ 99 = ⟨[(1, (40, true))], [], [1], 1, false, 0⟩ := by
    unfold pShade
    rw [if_neg (by decide), if_neg (by rw [hnode]; simp), if_neg hn1]
    rfl
  have k2 : pMark s ⟨[(1, (40, true))], [], [1], 1, false, 0⟩ 1 = (40, true, true) := by
    unfold pMark
    rw [show mlook (⟨[(1, (40, true))], [], [1], 1, false, 0⟩ : Ps).marks 1 = some (40, true) from rfl]
    exact if_neg hn1
  have k3 : pScan s ⟨[(1, (40, true))], [], [1], 1, false, 0⟩ 1 = (true, ⟨[(1, (40, false))], [(⟨2, 7⟩, 40)], [1], 1, false, 0⟩) := by
    unfold pScan
    rw [g1, show mlook (⟨[(1, (40, true))], [], [1], 1, false, 0⟩ : Ps).marks 1 = some (40, true) from rfl]
    simp only [pShades, List.foldl_cons, List.foldl_nil]
    unfold pShade
    rw [if_neg (by decide), if_pos (by rw [hnode]; decide)]
    rfl
  have k4 : pShade s ⟨[(1, (40, false))], [(⟨2, 7⟩, 40)], [1], 1, false, 0⟩ ⟨1, 9⟩ 0 = ⟨[(1, (40, false))], [(⟨2, 7⟩, 40)], [1], 1, false, 0⟩ := by
    unfold pShade
    rw [if_neg (by decide), if_neg (by rw [hnode]; simp), if_pos g9]
  refine pShadeC (y := ⟨1, 1⟩) h5 (i := 1) (j := 0) rfl rfl (by decide) fun H6 h6 => ?_
  rw [k1] at h6
  refine pMarkC h6 (i := 1) (j := 0) rfl rfl (by decide) fun H7 h7 => ?_
  rw [k2]
  simp only [asI_mk', asB_mk, asP_mk, asA_mk, asM_mk, asSl_mk, asStr_mk, tup2_mk, tup3_mk, agg1_mk, agg2_mk, agg3_mk, agg4_mk, asAggm, unCons_mk, unNil_mk, asTup_mk, extractD0, extractD1, List.toList_toArray, nilP_mk, add_mk, Nat.zero_add, Nat.add_zero, condT, condF, Bool.not_true, Bool.not_false, Option.isNone_some, Option.isNone_none]
  refine pScanC h7 (i := 1) (j := 0) rfl rfl (by decide) fun H8 h8 => ?_
  rw [k3] at h8 ⊢
  simp only [asI_mk', asB_mk, asP_mk, asA_mk, asM_mk, asSl_mk, asStr_mk, tup2_mk, tup3_mk, agg1_mk, agg2_mk, agg3_mk, agg4_mk, asAggm, unCons_mk, unNil_mk, asTup_mk, extractD0, extractD1, List.toList_toArray, nilP_mk, add_mk, Nat.zero_add, Nat.add_zero, condT, condF, Bool.not_true, Bool.not_false, Option.isNone_some, Option.isNone_none]
  refine pMetC (y := ⟨2, 7⟩) h8 (j := 0) rfl fun H9 h9 => ?_
  rw [show pMet ⟨[(1, (40, false))], [(⟨2, 7⟩, 40)], [1], 1, false, 0⟩ ⟨2, 7⟩ = (40, true) from rfl]
  simp only [asI_mk', asB_mk, asP_mk, asA_mk, asM_mk, asSl_mk, asStr_mk, tup2_mk, tup3_mk, agg1_mk, agg2_mk, agg3_mk, agg4_mk, asAggm, unCons_mk, unNil_mk, asTup_mk, extractD0, extractD1, List.toList_toArray, nilP_mk, add_mk, Nat.zero_add, Nat.add_zero, condT, condF, Bool.not_true, Bool.not_false, Option.isNone_some, Option.isNone_none]
  refine pShadeC (y := ⟨1, 9⟩) h9 (i := 1) (j := 0) rfl rfl (by decide) fun H10 h10 => ?_
  rw [k4] at h10
  refine pMarkC h10 (i := 1) (j := 0) rfl rfl (by decide) fun H11 h11 => ?_
  rw [show pMark s ⟨[(1, (40, false))], [(⟨2, 7⟩, 40)], [1], 1, false, 0⟩ 9 = (0, false, false) from rfl]
  simp only [asI_mk', asB_mk, asP_mk, asA_mk, asM_mk, asSl_mk, asStr_mk, tup2_mk, tup3_mk, agg1_mk, agg2_mk, agg3_mk, agg4_mk, asAggm, unCons_mk, unNil_mk, asTup_mk, extractD0, extractD1, List.toList_toArray, nilP_mk, add_mk, Nat.zero_add, Nat.add_zero, condT, condF, Bool.not_true, Bool.not_false, Option.isNone_some, Option.isNone_none]
  refine pOutsC h11 (j := 0) rfl (by simp) fun q c H12 h12 => ?_
  have ho : outsOf ⟨[(1, (40, false))], [(⟨2, 7⟩, 40)], [1], 1, false, 0⟩ = [(⟨2, 7⟩, 40)] := rfl
  rw [ho] at h12 ⊢
  simp only [asI_mk', asB_mk, asP_mk, asA_mk, asM_mk, asSl_mk, asStr_mk, tup2_mk, tup3_mk, agg1_mk, agg2_mk, agg3_mk, agg4_mk, asAggm, unCons_mk, unNil_mk, asTup_mk, extractD0, extractD1, List.toList_toArray, nilP_mk, add_mk, Nat.zero_add, Nat.add_zero, condT, condF, Bool.not_true, Bool.not_false, Option.isNone_some, Option.isNone_none]
  refine bif_eq rfl (bif_eq rfl (bif_eq rfl ?_))
  refine idxS outC_len (noId, 0) (h12.row_rd (i := 0) rfl) (by omega) (by omega) (by simp) fun b o _ _ hc => ?_
  simp only [asI_mk', asB_mk, asP_mk, asA_mk, asM_mk, asSl_mk, asStr_mk, tup2_mk, tup3_mk, agg1_mk, agg2_mk, agg3_mk, agg4_mk, asAggm, unCons_mk, unNil_mk, asTup_mk, extractD0, extractD1, List.toList_toArray, nilP_mk, add_mk, Nat.zero_add, Nat.add_zero, condT, condF, Bool.not_true, Bool.not_false, Option.isNone_some, Option.isNone_none]
  refine ldI_of (hc 2 (by omega)) (bif_eq rfl (pTurnsC h12 (j := 1) rfl ?_))
  simp only [asI_mk', asB_mk, asP_mk, asA_mk, asM_mk, asSl_mk, asStr_mk, tup2_mk, tup3_mk, agg1_mk, agg2_mk, agg3_mk, agg4_mk, asAggm, unCons_mk, unNil_mk, asTup_mk, extractD0, extractD1, List.toList_toArray, nilP_mk, add_mk, Nat.zero_add, Nat.add_zero, condT, condF, Bool.not_true, Bool.not_false, Option.isNone_some, Option.isNone_none]
  exact hK H12 h12.keep

set_option maxRecDepth 20000 in
theorem PaintTurns_ok {rp op ip : Option Addr} {rl rc ol oc il ic : Nat} {g : Gr} {lP : Option Addr} {lL lC : Nat} {l : List E_law11_Step} {H : Hp} {K : Value → Hp → Prop} (ga : GrA H rp rl op ol ip il g) (gok : g.ok)
    (hr : Rd H 6 lP lL (cel E_law11_Step.cells l)) (hl : lL ≤ 9223372036854775807) (hok : ∀ x ∈ l, x.ok) (hK : ∀ H', Keep Nothing H H' → K (.bool true) H') :
    hcall PR f_law11_PaintTurns ⟨[.agg #[.slice rp rl rc, .slice op ol oc, .slice ip il ic], .slice lP lL lC]⟩ H K := by
  apply den_law11_PaintTurns
  unfold B_law11_PaintTurns
  intro b13 hb13
  have h1 := (St.start H).alloc (o := .cells #[.slice rp rl rc, .slice op ol oc, .slice ip il ic] ty_hand_Graph) hb13
  refine ldSl_of (h1.cell (i := 0) rfl rfl) (ldSl_of (h1.cell (i := 0) rfl rfl) (ldSl_of (h1.cell (i := 0) rfl rfl) ?_))
  refine HeapsC (most := 30) (ga.st h1) gok (by omega) fun hb rb s H2 hs h2 => ?_
  have h2 := h1.join h2
  have hn : grSize g 30 ≤ 30 := by unfold grSize; split <;> omega
  generalize grSize g 30 = n at *
  simp only [asI_mk', asB_mk, asP_mk, asA_mk, asM_mk, asSl_mk, asStr_mk, tup2_mk, tup3_mk, agg1_mk, agg2_mk, agg3_mk, agg4_mk, asAggm, unCons_mk, unNil_mk, asTup_mk, extractD0, extractD1, List.toList_toArray, nilP_mk, add_mk, Nat.zero_add, Nat.add_zero, condT, condF, Bool.not_true, Bool.not_false, Option.isNone_some, Option.isNone_none]
  refine known11_ok h2 fun H3 h3 => ?_
  simp only [asI_mk', asB_mk, asP_mk, asA_mk, asM_mk, asSl_mk, asStr_mk, tup2_mk, tup3_mk, agg1_mk, agg2_mk, agg3_mk, agg4_mk, asAggm, unCons_mk, unNil_mk, asTup_mk, extractD0, extractD1, List.toList_toArray, nilP_mk, add_mk, Nat.zero_add, Nat.add_zero, condT, condF, Bool.not_true, Bool.not_false, Option.isNone_some, Option.isNone_none]
  refine pNewOk h3 (by omega) (by omega) fun pb H4 h4 => ?_
  simp only [asI_mk', asB_mk, asP_mk, asA_mk, asM_mk, asSl_mk, asStr_mk, tup2_mk, tup3_mk, agg1_mk, agg2_mk, agg3_mk, agg4_mk, asAggm, unCons_mk, unNil_mk, asTup_mk, extractD0, extractD1, List.toList_toArray, nilP_mk, add_mk, Nat.zero_add, Nat.add_zero, condT, condF, Bool.not_true, Bool.not_false, Option.isNone_some, Option.isNone_none]
  refine bif_neqf rfl ?_
  have h4 : St H [PaintP pb hb (newPs 2), HeapP hb s, RHeap rb s, Prt.one b13 (.cells #[.slice rp rl rc, .slice op ol oc, .slice ip il ic] ty_hand_Graph (0, 0))] H4 := h4
  generalize newPs 2 = p0 at h4
  have hlast : s.last = n := hs.last
  intro R39 hR39
  have hR39 : ∀ p H', St H [PaintP pb hb p, HeapP hb s, RHeap rb s, Prt.one b13 (.cells #[.slice rp rl rc, .slice op ol oc, .slice ip il ic] ty_hand_Graph (0, 0))] H' → R39 H' := fun p H' h' => by
    refine hR39 H' (pTurnsC h' (j := 0) rfl ?_)
    clear hR39
    simp only [asI_mk', asB_mk, asP_mk, asA_mk, asM_mk, asSl_mk, asStr_mk, tup2_mk, tup3_mk, agg1_mk, agg2_mk, agg3_mk, agg4_mk, asAggm, unCons_mk, unNil_mk, asTup_mk, extractD0, extractD1, List.toList_toArray, nilP_mk, add_mk, Nat.zero_add, Nat.add_zero, condT, condF, Bool.not_true, Bool.not_false, Option.isNone_some, Option.isNone_none]
    refine pTurnC h' (j := 0) rfl fun H5 h5 => ?_
    have h5 : St H [PaintP pb hb (pTurn p), HeapP hb s, RHeap rb s, Prt.one b13 (.cells #[.slice rp rl rc, .slice op ol oc, .slice ip il ic] ty_hand_Graph (0, 0))] H5 := h5
    refine ⟨fun i H' => (∃ y : Nat, i = y ∧ y ≤ n + 1) ∧ St H [PaintP pb hb (pTurn p), HeapP hb s, RHeap rb s, Prt.one b13 (.cells #[.slice rp rl rc, .slice op ol oc, .slice ip il ic] ty_hand_Graph (0, 0))] H', fun i _ => ((n : Int) + 1 - i).toNat, ⟨⟨0, rfl, by omega⟩, h5⟩, ?_⟩
    clear h5
    rintro i H6 ⟨⟨y, rfl, hy⟩, h6⟩
    obtain ⟨y1, N1, g1, _, _⟩ := rheapOpenL (i := 2) h6 rfl (.inl rfl)
    simp only [asI_mk', asB_mk, asP_mk, asA_mk, asM_mk, asSl_mk, asStr_mk, tup2_mk, tup3_mk, agg1_mk, agg2_mk, agg3_mk, agg4_mk, asAggm, unCons_mk, unNil_mk, asTup_mk, extractD0, extractD1, List.toList_toArray, nilP_mk, add_mk, Nat.zero_add, Nat.add_zero, condT, condF, Bool.not_true, Bool.not_false, Option.isNone_some, Option.isNone_none]
    refine ldI_of (rheapV g1).last ?_
    rw [hlast]
    by_cases hc : (y : Int) ≤ n
    · refine bif_pos hc (pMarkC h6 (i := 1) (j := 0) rfl rfl (by decide) fun H7 h7 => ?_)
      rw [show pMark s (pTurn p) (y : Int) = (0, false, false) from rfl]
      simp only [asI_mk', asB_mk, asP_mk, asA_mk, asM_mk, asSl_mk, asStr_mk, tup2_mk, tup3_mk, agg1_mk, agg2_mk, agg3_mk, agg4_mk, asAggm, unCons_mk, unNil_mk, asTup_mk, extractD0, extractD1, List.toList_toArray, nilP_mk, add_mk, Nat.zero_add, Nat.add_zero, condT, condF, Bool.not_true, Bool.not_false, Option.isNone_some, Option.isNone_none]
      have w1 : IntKind.u64.wrap ((y : Int) + 1) = y + 1 := wrap_u64' (by omega) (by omega)
      rw [w1]
      exact ⟨⟨⟨y + 1, by omega, by omega⟩, h7⟩, by (try dsimp only); omega⟩
    · refine bif_neg hc (pTurnsC h6 (j := 0) rfl ?_)
      simp only [asI_mk', asB_mk, asP_mk, asA_mk, asM_mk, asSl_mk, asStr_mk, tup2_mk, tup3_mk, agg1_mk, agg2_mk, agg3_mk, agg4_mk, asAggm, unCons_mk, unNil_mk, asTup_mk, extractD0, extractD1, List.toList_toArray, nilP_mk, add_mk, Nat.zero_add, Nat.add_zero, condT, condF, Bool.not_true, Bool.not_false, Option.isNone_some, Option.isNone_none]
      refine bif_eq rfl (pWaitingC h6 (j := 0) rfl ?_)
      simp only [asI_mk', asB_mk, asP_mk, asA_mk, asM_mk, asSl_mk, asStr_mk, tup2_mk, tup3_mk, agg1_mk, agg2_mk, agg3_mk, agg4_mk, asAggm, unCons_mk, unNil_mk, asTup_mk, extractD0, extractD1, List.toList_toArray, nilP_mk, add_mk, Nat.zero_add, Nat.add_zero, condT, condF, Bool.not_true, Bool.not_false, Option.isNone_some, Option.isNone_none]
      refine bif_eq rfl (pOverC h6 (j := 0) rfl ?_)
      simp only [asI_mk', asB_mk, asP_mk, asA_mk, asM_mk, asSl_mk, asStr_mk, tup2_mk, tup3_mk, agg1_mk, agg2_mk, agg3_mk, agg4_mk, asAggm, unCons_mk, unNil_mk, asTup_mk, extractD0, extractD1, List.toList_toArray, nilP_mk, add_mk, Nat.zero_add, Nat.add_zero, condT, condF, Bool.not_true, Bool.not_false, Option.isNone_some, Option.isNone_none]
      rw [show (pTurn p).over = false from rfl]
      (try simp only [Bool.not_false, condT])
      refine pOutsC h6 (j := 0) rfl (Nat.zero_le _) fun q c H7 h7 => ?_
      rw [show outsOf (pTurn p) = [] from rfl] at h7 ⊢
      simp only [asI_mk', asB_mk, asP_mk, asA_mk, asM_mk, asSl_mk, asStr_mk, tup2_mk, tup3_mk, agg1_mk, agg2_mk, agg3_mk, agg4_mk, asAggm, unCons_mk, unNil_mk, asTup_mk, extractD0, extractD1, List.toList_toArray, nilP_mk, add_mk, Nat.zero_add, Nat.add_zero, condT, condF, Bool.not_true, Bool.not_false, Option.isNone_some, Option.isNone_none]
      exact hK H7 h7.keep
  refine ⟨fun i H' => ∃ (j : Nat) (p : Ps), i = j ∧ j ≤ lL ∧ St H [PaintP pb hb p, HeapP hb s, RHeap rb s, Prt.one b13 (.cells #[.slice rp rl rc, .slice op ol oc, .slice ip il ic] ty_hand_Graph (0, 0))] H', fun i _ => ((lL : Int) - i).toNat, ⟨0, p0, rfl, by omega, h4⟩, ?_⟩
  clear h4
  rintro i H5 ⟨j, p, rfl, hj, h5⟩
  by_cases hc : (j : Int) < lL
  rotate_left
  · exact bif_neg hc (hR39 p H5 h5)
  refine bif_pos hc ?_
  by_cases h40 : (j : Int) < 40
  rotate_left
  · exact bif_neg h40 (hR39 p H5 h5)
  have rr := h5.rd hr
  refine bif_pos h40 (idxS E_law11_Step.len ⟨0, 0, 0, 0, 0, false⟩ rr (by omega) (by omega) hc fun b1 o1 hp hjl hcs => ?_)
  have hat : ∀ (L' : List Prt) H' (q : Nat), St H L' H' → q < 6 → hcell H' ⟨b1, o1 + (j : Int).toNat * 6 + q, none⟩ = (E_law11_Step.cells (l.getD (j : Int).toNat ⟨0, 0, 0, 0, 0, false⟩))[q]? := fun L' H' q h' hq =>
    (h'.rd hr).cel_at' E_law11_Step.len ⟨0, 0, 0, 0, 0, false⟩ hp hjl hq
  have c3 := hcs 3 (by omega)
  have c4 := hcs 4 (by omega)
  have c1 := hcs 1 (by omega)
  generalize l.getD (j : Int).toNat ⟨0, 0, 0, 0, 0, false⟩ = x at *
  have wl : IntKind.u64.wrap ((n : Int) + 1) = ((n + 1 : Nat) : Int) := by rw [wrap_u64' (by omega) (by omega)]; omega
  simp only [asI_mk', asB_mk, asP_mk, asA_mk, asM_mk, asSl_mk, asStr_mk, tup2_mk, tup3_mk, agg1_mk, agg2_mk, agg3_mk, agg4_mk, asAggm, unCons_mk, unNil_mk, asTup_mk, extractD0, extractD1, List.toList_toArray, nilP_mk, add_mk, Nat.zero_add, Nat.add_zero, condT, condF, Bool.not_true, Bool.not_false, Option.isNone_some, Option.isNone_none]
  refine ldI_of c3 (ldI_of (by rw [Nat.add_assoc]; exact c4) (idxA_of rr (by omega) hc fun b' o' hp' _ => ?_))
  obtain ⟨rfl, rfl⟩ : b1 = b' ∧ o1 = o' := by rw [hp] at hp'; simpa using hp'
  simp only [asI_mk', asB_mk, asP_mk, asA_mk, asM_mk, asSl_mk, asStr_mk, tup2_mk, tup3_mk, agg1_mk, agg2_mk, agg3_mk, agg4_mk, asAggm, unCons_mk, unNil_mk, asTup_mk, extractD0, extractD1, List.toList_toArray, nilP_mk, add_mk, Nat.zero_add, Nat.add_zero, condT, condF, Bool.not_true, Bool.not_false, Option.isNone_some, Option.isNone_none]
  refine ldI_of c1 (pShadeC (y := ⟨x.X_Node, x.X_Serial⟩) h5 (i := 1) (j := 0) rfl rfl (by decide) fun H6 h6 => ?_)
  have h6 : St H [PaintP pb hb (pShade s p ⟨x.X_Node, x.X_Serial⟩ x.Rank), HeapP hb s, RHeap rb s, Prt.one b13 (.cells #[.slice rp rl rc, .slice op ol oc, .slice ip il ic] ty_hand_Graph (0, 0))] H6 := h6
  refine idxA_of (h6.rd hr) (by omega) hc fun b' o' hp' _ => ?_
  obtain ⟨rfl, rfl⟩ : b1 = b' ∧ o1 = o' := by rw [hp] at hp'; simpa using hp'
  simp only [asI_mk', asB_mk, asP_mk, asA_mk, asM_mk, asSl_mk, asStr_mk, tup2_mk, tup3_mk, agg1_mk, agg2_mk, agg3_mk, agg4_mk, asAggm, unCons_mk, unNil_mk, asTup_mk, extractD0, extractD1, List.toList_toArray, nilP_mk, add_mk, Nat.zero_add, Nat.add_zero, condT, condF, Bool.not_true, Bool.not_false, Option.isNone_some, Option.isNone_none]
  refine ldI_of (hat _ H6 2 h6 (by omega)) ?_
  obtain ⟨y1, N1, g1, _, _⟩ := rheapOpenL (i := 2) h6 rfl (.inl rfl)
  refine ldI_of (rheapV g1).last ?_
  rw [hlast, wl]
  refine ⟨by omega, idxA_of (h6.rd hr) (by omega) hc fun b' o' hp' _ => ?_⟩
  obtain ⟨rfl, rfl⟩ : b1 = b' ∧ o1 = o' := by rw [hp] at hp'; simpa using hp'
  simp only [asI_mk', asB_mk, asP_mk, asA_mk, asM_mk, asSl_mk, asStr_mk, tup2_mk, tup3_mk, agg1_mk, agg2_mk, agg3_mk, agg4_mk, asAggm, unCons_mk, unNil_mk, asTup_mk, extractD0, extractD1, List.toList_toArray, nilP_mk, add_mk, Nat.zero_add, Nat.add_zero, condT, condF, Bool.not_true, Bool.not_false, Option.isNone_some, Option.isNone_none]
  refine ldI_of (hat _ H6 1 h6 (by omega)) (pShadeC (y := ⟨1, Int.tmod x.Serial ((n + 1 : Nat) : Int)⟩) h6 (i := 1) (j := 0) rfl rfl (by decide) fun H7 h7 => ?_)
  generalize pShade s (pShade s p ⟨x.X_Node, x.X_Serial⟩ x.Rank) ⟨1, Int.tmod x.Serial ((n + 1 : Nat) : Int)⟩ x.Rank = p2 at h7
  have h7 : St H [PaintP pb hb p2, HeapP hb s, RHeap rb s, Prt.one b13 (.cells #[.slice rp rl rc, .slice op ol oc, .slice ip il ic] ty_hand_Graph (0, 0))] H7 := h7
  refine idxA_of (h7.rd hr) (by omega) hc fun b' o' hp' _ => ?_
  obtain ⟨rfl, rfl⟩ : b1 = b' ∧ o1 = o' := by rw [hp] at hp'; simpa using hp'
  simp only [asI_mk', asB_mk, asP_mk, asA_mk, asM_mk, asSl_mk, asStr_mk, tup2_mk, tup3_mk, agg1_mk, agg2_mk, agg3_mk, agg4_mk, asAggm, unCons_mk, unNil_mk, asTup_mk, extractD0, extractD1, List.toList_toArray, nilP_mk, add_mk, Nat.zero_add, Nat.add_zero, condT, condF, Bool.not_true, Bool.not_false, Option.isNone_some, Option.isNone_none]
  refine ldI_of (hat _ H7 2 h7 (by omega)) ?_
  obtain ⟨y1, N1, g1, _, _⟩ := rheapOpenL (i := 2) h7 rfl (.inl rfl)
  refine ldI_of (rheapV g1).last ?_
  rw [hlast, wl]
  refine ⟨by omega, pScanC h7 (i := 1) (j := 0) rfl rfl (by decide) fun H8 h8 => ?_⟩
  simp only [asI_mk', asB_mk, asP_mk, asA_mk, asM_mk, asSl_mk, asStr_mk, tup2_mk, tup3_mk, agg1_mk, agg2_mk, agg3_mk, agg4_mk, asAggm, unCons_mk, unNil_mk, asTup_mk, extractD0, extractD1, List.toList_toArray, nilP_mk, add_mk, Nat.zero_add, Nat.add_zero, condT, condF, Bool.not_true, Bool.not_false, Option.isNone_some, Option.isNone_none]
  rw [wrap_i64 (by omega) (by omega)]
  exact ⟨⟨j + 1, _, by omega, by omega, h8⟩, by (try dsimp only); omega⟩

theorem shade_met_len {s : Hs} {p : Ps} {x : Id} {r : Int} : p.met.length ≤ (pShade s p x r).met.length := by
  rcases shade_met (s := s) (p := p) (x := x) (r := r) with h | ⟨_, _, h, _⟩
  · rw [h]; exact Nat.le_refl _
  · rw [h]; exact mput_length.2
theorem shades_met_len {s : Hs} {p : Ps} {l : List Id} {r : Int} : p.met.length ≤ (pShades s p l r).met.length := by
  unfold pShades
  induction l generalizing p with
  | nil => exact Nat.le_refl _
  | cons y l ih => exact Nat.le_trans shade_met_len ih
theorem scan_met_len {s : Hs} {p : Ps} {k : Int} : p.met.length ≤ (pScan s p k).2.met.length := by
  unfold pScan
  split
  · rename_i o r _ _
    exact shades_met_len (p := { p with marks := mput p.marks k (r, false) })
  · exact Nat.le_refl _

set_option maxRecDepth 20000 in
theorem PaintFalls_ok {rp op ip : Option Addr} {rl rc ol oc il ic : Nat} {g : Gr} {lP : Option Addr} {lL lC : Nat} {l : List E_law11_Step} {H : Hp} {K : Value → Hp → Prop} (ga : GrA H rp rl op ol ip il g) (gok : g.ok)
    (hr : Rd H 6 lP lL (cel E_law11_Step.cells l)) (hl : lL ≤ 9223372036854775807) (hok : ∀ x ∈ l, x.ok) (hK : ∀ H', Keep Nothing H H' → K (.bool true) H') :
    hcall PR f_law11_PaintFalls ⟨[.agg #[.slice rp rl rc, .slice op ol oc, .slice ip il ic], .slice lP lL lC]⟩ H K := by
  apply den_law11_PaintFalls
  unfold B_law11_PaintFalls
  intro b13 hb13
  have h1 := (St.start H).alloc (o := .cells #[.slice rp rl rc, .slice op ol oc, .slice ip il ic] ty_hand_Graph) hb13
  refine ldSl_of (h1.cell (i := 0) rfl rfl) (ldSl_of (h1.cell (i := 0) rfl rfl) (ldSl_of (h1.cell (i := 0) rfl rfl) ?_))
  refine HeapsC (most := 30) (ga.st h1) gok (by omega) fun hb rb s H2 hs h2 => ?_
  have h2 := h1.join h2
  have hn : grSize g 30 ≤ 30 := by unfold grSize; split <;> omega
  generalize grSize g 30 = n at *
  simp only [asI_mk', asB_mk, asP_mk, asA_mk, asM_mk, asSl_mk, asStr_mk, tup2_mk, tup3_mk, agg1_mk, agg2_mk, agg3_mk, agg4_mk, asAggm, unCons_mk, unNil_mk, asTup_mk, extractD0, extractD1, List.toList_toArray, nilP_mk, add_mk, Nat.zero_add, Nat.add_zero, condT, condF, Bool.not_true, Bool.not_false, Option.isNone_some, Option.isNone_none]
  refine known11_ok h2 fun H3 h3 => ?_
  simp only [asI_mk', asB_mk, asP_mk, asA_mk, asM_mk, asSl_mk, asStr_mk, tup2_mk, tup3_mk, agg1_mk, agg2_mk, agg3_mk, agg4_mk, asAggm, unCons_mk, unNil_mk, asTup_mk, extractD0, extractD1, List.toList_toArray, nilP_mk, add_mk, Nat.zero_add, Nat.add_zero, condT, condF, Bool.not_true, Bool.not_false, Option.isNone_some, Option.isNone_none]
  obtain ⟨y1, N1, g1, _, _⟩ := rheapOpenL (i := 1) h3 rfl (.inl rfl)
  refine ldI_of (rheapV g1).last ?_
  rw [hs.last]
  have w0 : IntKind.i64.wrap (n : Int) = n := wrap_i64 (by omega) (by omega)
  have w1 : IntKind.i64.wrap ((n : Int) + 1) = ((n + 1 : Nat) : Int) := by rw [wrap_i64 (by omega) (by omega)]; omega
  have w2 : IntKind.u64.wrap ((n + 1 : Nat) : Int) = ((n + 1 : Nat) : Int) := wrap_u64' (by omega) (by omega)
  simp only [w0, w1, w2]
  refine pNewOk h3 (by omega) (by omega) fun pb H4 h4 => ?_
  simp only [asI_mk', asB_mk, asP_mk, asA_mk, asM_mk, asSl_mk, asStr_mk, tup2_mk, tup3_mk, agg1_mk, agg2_mk, agg3_mk, agg4_mk, asAggm, unCons_mk, unNil_mk, asTup_mk, extractD0, extractD1, List.toList_toArray, nilP_mk, add_mk, Nat.zero_add, Nat.add_zero, condT, condF, Bool.not_true, Bool.not_false, Option.isNone_some, Option.isNone_none]
  refine bif_neqf rfl ?_
  refine mko_ty_Sint (by omega) (by omega) (by omega) fun wp H5 wo wg => ?_
  rw [Int.toNat_natCast] at wo ⊢
  have h5 := h4.row wo wg
  simp only [asI_mk', asB_mk, asP_mk, asA_mk, asM_mk, asSl_mk, asStr_mk, tup2_mk, tup3_mk, agg1_mk, agg2_mk, agg3_mk, agg4_mk, asAggm, unCons_mk, unNil_mk, asTup_mk, extractD0, extractD1, List.toList_toArray, nilP_mk, add_mk, Nat.zero_add, Nat.add_zero, condT, condF, Bool.not_true, Bool.not_false, Option.isNone_some, Option.isNone_none]
  have h5 : St H [Prt.row 1 wp (n + 1) (n + 1) ((List.replicate (n + 1) (0 : Int)).map (Value.int .i64)), PaintP pb hb (newPs 5), HeapP hb s, RHeap rb s, Prt.one b13 (.cells #[.slice rp rl rc, .slice op ol oc, .slice ip il ic] ty_hand_Graph (0, 0))] H5 := by
    rw [List.map_replicate]; exact h5
  refine ⟨fun i H' => ∃ (y : Nat) (W : List Int), i = y ∧ y ≤ n + 1 ∧ W.length = n + 1 ∧ (∀ k, k < y → W.getD k 0 = 41) ∧ St H [Prt.row 1 wp (n + 1) (n + 1) (W.map (Value.int .i64)), PaintP pb hb (newPs 5), HeapP hb s, RHeap rb s, Prt.one b13 (.cells #[.slice rp rl rc, .slice op ol oc, .slice ip il ic] ty_hand_Graph (0, 0))] H',
    fun i _ => ((n : Int) + 1 - i).toNat, ⟨0, _, rfl, by omega, by simp, fun k hk => by omega, h5⟩, ?_⟩
  clear h5 h4 h3 h2 h1
  have gset : ∀ (W : List Int) (y k : Nat) (v : Int), y < W.length → (W.set y v).getD k 0 = if y = k then v else W.getD k 0 := fun W y k v hy => by
    rw [List.getD_eq_getElem?_getD, List.getElem?_set, List.getD_eq_getElem?_getD]
    by_cases e : y = k
    · rw [if_pos e, if_pos hy, if_pos e]; rfl
    · rw [if_neg e, if_neg e]
  rintro i H6 ⟨y, W, rfl, hy, hW, hw41, h6⟩
  by_cases hc : (y : Int) ≤ n
  · refine bif_pos hc (idxA_of (h6.row_rd (i := 0) rfl) (by omega) (by omega) fun b o hp _ => ?_)
    rw [Int.toNat_natCast, Nat.mul_one]
    refine h6.poke (i := 0) rfl hp (by omega) fun H7 h7 => ?_
    rw [wrap_i64 (by omega) (by omega)]
    refine ⟨⟨y + 1, W.set y 41, by omega, by omega, by rw [List.length_set]; exact hW, fun k hk => ?_, ?_⟩, by (try dsimp only); omega⟩
    · rw [gset W y k 41 (by omega)]
      by_cases e : y = k
      · rw [if_pos e]
      · rw [if_neg e]; exact hw41 k (by omega)
    · rw [List.map_set]; exact h7
  obtain rfl : y = n + 1 := by omega
  refine bif_neg hc ?_
  have hinv0 : ∀ k : Nat, 1 ≤ k → k ≤ n → W.getD k 0 = 41 ∨ ∃ r gr, mlook (newPs 5).marks k = some (r, gr) ∧ r ≤ W.getD k 0 := fun k h1 h2 => .inl (hw41 k (by omega))
  have hp0 : (newPs 5).lt 0 := newPs_lt
  have hm0 : (newPs 5).met.length = 0 := rfl
  generalize newPs 5 = p0 at h6 hinv0 hp0 hm0
  refine ⟨fun met i H' => ∃ (j : Nat) (W : List Int) (p : Ps), i = j ∧ j ≤ lL ∧ j ≤ 120 ∧ met = (p.met.length : Int) ∧ p.lt (7 * j) ∧ W.length = n + 1 ∧ (∀ k : Nat, 1 ≤ k → k ≤ n → W.getD k 0 = 41 ∨ ∃ r gr, mlook p.marks k = some (r, gr) ∧ r ≤ W.getD k 0) ∧
      St H [Prt.row 1 wp (n + 1) (n + 1) (W.map (Value.int .i64)), PaintP pb hb p, HeapP hb s, RHeap rb s, Prt.one b13 (.cells #[.slice rp rl rc, .slice op ol oc, .slice ip il ic] ty_hand_Graph (0, 0))] H', fun _ i _ => ((lL : Int) - i).toNat,
    ⟨0, W, p0, rfl, by omega, by omega, by rw [hm0]; rfl, hp0.mono (by omega), hW, hinv0, h6⟩, ?_⟩
  clear h6 hinv0 hp0 hm0 hw41
  rintro met i H7 ⟨j, W, p, rfl, hj, hj2, rfl, hlt, hW, hinv, h7⟩
  by_cases hc : (j : Int) < lL
  rotate_left
  · exact bif_neg hc (hK H7 h7.keep)
  refine bif_pos hc ?_
  by_cases h120 : (j : Int) < 120
  rotate_left
  · exact bif_neg h120 (hK H7 h7.keep)
  have rr := h7.rd hr
  refine bif_pos h120 (idxS E_law11_Step.len ⟨0, 0, 0, 0, 0, false⟩ rr (by omega) (by omega) hc fun b1 o1 hp hjl hcs => ?_)
  have c0 := hcs 0 (by omega)
  have c1 := hcs 1 (by omega)
  have c2 := hcs 2 (by omega)
  generalize l.getD (j : Int).toNat ⟨0, 0, 0, 0, 0, false⟩ = x at *
  simp only [asI_mk', asB_mk, asP_mk, asA_mk, asM_mk, asSl_mk, asStr_mk, tup2_mk, tup3_mk, agg1_mk, agg2_mk, agg3_mk, agg4_mk, asAggm, unCons_mk, unNil_mk, asTup_mk, extractD0, extractD1, List.toList_toArray, nilP_mk, add_mk, Nat.zero_add, Nat.add_zero, condT, condF, Bool.not_true, Bool.not_false, Option.isNone_some, Option.isNone_none]
  refine ldI_of c2 ⟨by omega, ?_⟩
  generalize Int.tmod x.Serial ((n + 1 : Nat) : Int) = sx
  have ho7 := paint_ok h7 (j := 1) rfl
  intro R59 hR59
  have hR59 : ∀ q H', Falls p q → p.met.length ≤ q.met.length → q.lt (7 * (j + 1)) → St H [Prt.row 1 wp (n + 1) (n + 1) (W.map (Value.int .i64)), PaintP pb hb q, HeapP hb s, RHeap rb s, Prt.one b13 (.cells #[.slice rp rl rc, .slice op ol oc, .slice ip il ic] ty_hand_Graph (0, 0))] H' → R59 H' := fun q H' hf hmet hltq h' => by
    refine hR59 H' ?_
    clear hR59
    have hoq := paint_ok h' (j := 1) rfl
    have hinvq : ∀ k : Nat, 1 ≤ k → k ≤ n → W.getD k 0 = 41 ∨ ∃ r gr, mlook q.marks k = some (r, gr) ∧ r ≤ W.getD k 0 := fun k h1 h2 => by
      rcases hinv k h1 h2 with h | ⟨r, gr, e, h⟩
      · exact .inl h
      · obtain ⟨r', g', e', h3⟩ := hf.marks _ _ _ e
        exact .inr ⟨r', g', e', by omega⟩
    refine ⟨fun k H'' => ∃ (y : Nat) (W : List Int), k = ((y + 1 : Nat) : Int) ∧ y ≤ n ∧ W.length = n + 1 ∧ (∀ k : Nat, 1 ≤ k → k ≤ n → W.getD k 0 = 41 ∨ ∃ r gr, mlook q.marks k = some (r, gr) ∧ r ≤ W.getD k 0) ∧
        St H [Prt.row 1 wp (n + 1) (n + 1) (W.map (Value.int .i64)), PaintP pb hb q, HeapP hb s, RHeap rb s, Prt.one b13 (.cells #[.slice rp rl rc, .slice op ol oc, .slice ip il ic] ty_hand_Graph (0, 0))] H'', fun k _ => ((n : Int) + 1 - k).toNat, ⟨0, W, rfl, by omega, hW, hinvq, h'⟩, ?_⟩
    clear h' hinvq hinv hW
    rintro k H8 ⟨y, W, rfl, hy, hW, hinv, h8⟩
    by_cases hcy : ((y + 1 : Nat) : Int) ≤ n
    rotate_left
    · refine bif_neg hcy (pOutsC h8 (j := 1) rfl (by have := hltq.2; omega) fun a c H9 h9 => ?_)
      simp only [asI_mk', asB_mk, asP_mk, asA_mk, asM_mk, asSl_mk, asStr_mk, tup2_mk, tup3_mk, agg1_mk, agg2_mk, agg3_mk, agg4_mk, asAggm, unCons_mk, unNil_mk, asTup_mk, extractD0, extractD1, List.toList_toArray, nilP_mk, add_mk, Nat.zero_add, Nat.add_zero, condT, condF, Bool.not_true, Bool.not_false, Option.isNone_some, Option.isNone_none]
      have hlen := (outsOf_ok hoq).2.length_eq
      refine bif_neg (by omega) (pOutsC h9 (j := 2) rfl (by have := hltq.2; omega) fun a2 c2 H10 h10 => ?_)
      simp only [asI_mk', asB_mk, asP_mk, asA_mk, asM_mk, asSl_mk, asStr_mk, tup2_mk, tup3_mk, agg1_mk, agg2_mk, agg3_mk, agg4_mk, asAggm, unCons_mk, unNil_mk, asTup_mk, extractD0, extractD1, List.toList_toArray, nilP_mk, add_mk, Nat.zero_add, Nat.add_zero, condT, condF, Bool.not_true, Bool.not_false, Option.isNone_some, Option.isNone_none]
      rw [wrap_i64 (by omega) (by omega)]
      exact ⟨⟨j + 1, W, q, by omega, by omega, by omega, by rw [hlen], hltq, hW, hinv, h10.less.less⟩, by (try dsimp only); omega⟩
    refine bif_pos hcy ?_
    intro R65 hR65
    have hR65 : ∀ (W : List Int) H', W.length = n + 1 → (∀ k : Nat, 1 ≤ k → k ≤ n → W.getD k 0 = 41 ∨ ∃ r gr, mlook q.marks k = some (r, gr) ∧ r ≤ W.getD k 0) →
        St H [Prt.row 1 wp (n + 1) (n + 1) (W.map (Value.int .i64)), PaintP pb hb q, HeapP hb s, RHeap rb s, Prt.one b13 (.cells #[.slice rp rl rc, .slice op ol oc, .slice ip il ic] ty_hand_Graph (0, 0))] H' → R65 H' := fun W H' hW hinv h' => by
      refine hR65 H' ?_
      rw [wrap_i64 (by omega) (by omega)]
      exact ⟨⟨y + 1, W, by omega, by omega, hW, hinv, h'⟩, by (try dsimp only); omega⟩
    have v1 : IntKind.u64.wrap ((y + 1 : Nat) : Int) = ((y + 1 : Nat) : Int) := wrap_u64' (by omega) (by omega)
    rw [v1]
    refine pMarkC h8 (i := 2) (j := 1) rfl rfl (by decide) fun H9 h9 => ?_
    simp only [asI_mk', asB_mk, asP_mk, asA_mk, asM_mk, asSl_mk, asStr_mk, tup2_mk, tup3_mk, agg1_mk, agg2_mk, agg3_mk, agg4_mk, asAggm, unCons_mk, unNil_mk, asTup_mk, extractD0, extractD1, List.toList_toArray, nilP_mk, add_mk, Nat.zero_add, Nat.add_zero, condT, condF, Bool.not_true, Bool.not_false, Option.isNone_some, Option.isNone_none]
    have hgy : ¬ hGet s ((y + 1 : Nat) : Int) = none := hs.has.2 (by omega)
    have rW := h9.row_rd (i := 0) rfl
    have hin := hinv (y + 1) (by omega) (by omega)
    intro R75 hR75
    cases hmk : mlook q.marks ((y + 1 : Nat) : Int) with
    | none =>
      have e : pMark s q ((y + 1 : Nat) : Int) = (0, false, false) := by unfold pMark; rw [hmk]
      rw [e] at hR75 ⊢
      have hw : W.getD (y + 1) 0 = 41 := by
        rcases hin with h | ⟨r, gr, e, _⟩
        · exact h
        · rw [hmk] at e; cases e
      have hR75 : R75 H9 := hR75 H9 (hR65 W H9 hW hinv h9)
      (try simp only [Bool.not_false, condT, condF])
      refine idx1 (d := (0 : Int)) rW (by omega) (by omega) fun b o _ hcc => ldI_of hcc (bif_neg ?_ hR75)
      rw [Int.toNat_natCast, hw]
      omega
    | some w =>
      obtain ⟨r, gr⟩ := w
      have e : pMark s q ((y + 1 : Nat) : Int) = (r, gr, true) := by unfold pMark; rw [hmk]; exact if_neg hgy
      rw [e] at hR75 ⊢
      have hrr := mlook_ranks hoq hmk
      have hle : r ≤ W.getD (y + 1) 0 := by
        rcases hin with h | ⟨r', gr', e', h⟩
        · rw [h]; omega
        · rw [hmk] at e'; cases e'; exact h
      have hR75 : R75 H9 := by
        refine hR75 H9 ?_
        simp only [condT]
        refine idxA_of rW (by omega) (by omega) fun b o hp' _ => ?_
        rw [Int.toNat_natCast, Nat.mul_one]
        refine h9.poke (i := 0) rfl hp' (by omega) fun H10 h10 => hR65 (W.set (y + 1) r) H10 (by rw [List.length_set]; exact hW) (fun k h1 h2 => ?_) ?_
        · rw [gset W (y + 1) k r (by omega)]
          by_cases ek : y + 1 = k
          · subst ek
            rw [if_pos rfl]
            exact .inr ⟨r, gr, hmk, Int.le_refl _⟩
          · rw [if_neg ek]; exact hinv k h1 h2
        · rw [List.map_set]; exact h10
      (try simp only [Bool.not_true, condT, condF])
      refine idx1 (d := (0 : Int)) rW (by omega) (by omega) fun b o _ hcc => ldI_of hcc (bif_neg ?_ (bif_neg (by omega) hR75))
      rw [Int.toNat_natCast]
      omega
  refine idxA_of rr (by omega) hc fun b' o' hp' _ => ?_
  obtain ⟨rfl, rfl⟩ : b1 = b' ∧ o1 = o' := by rw [hp] at hp'; simpa using hp'
  refine ldI_of c0 ⟨by decide, ?_⟩
  by_cases he : Int.tmod x.What 2 = 0
  · refine bif_eq he (idxA_of rr (by omega) hc fun b' o' hp' _ => ?_)
    obtain ⟨rfl, rfl⟩ : b1 = b' ∧ o1 = o' := by rw [hp] at hp'; simpa using hp'
    simp only [asI_mk', asB_mk, asP_mk, asA_mk, asM_mk, asSl_mk, asStr_mk, tup2_mk, tup3_mk, agg1_mk, agg2_mk, agg3_mk, agg4_mk, asAggm, unCons_mk, unNil_mk, asTup_mk, extractD0, extractD1, List.toList_toArray, nilP_mk, add_mk, Nat.zero_add, Nat.add_zero, condT, condF, Bool.not_true, Bool.not_false, Option.isNone_some, Option.isNone_none]
    refine ldI_of c1 (pShadeC (y := ⟨1, sx⟩) h7 (i := 2) (j := 1) rfl rfl (by decide) fun H8 h8 => ?_)
    exact hR59 _ H8 shade_falls shade_met_len (hlt.shade.mono (by omega)) h8
  · refine bif_ne he (pScanC h7 (i := 2) (j := 1) rfl rfl (by decide) fun H8 h8 => ?_)
    simp only [asI_mk', asB_mk, asP_mk, asA_mk, asM_mk, asSl_mk, asStr_mk, tup2_mk, tup3_mk, agg1_mk, agg2_mk, agg3_mk, agg4_mk, asAggm, unCons_mk, unNil_mk, asTup_mk, extractD0, extractD1, List.toList_toArray, nilP_mk, add_mk, Nat.zero_add, Nat.add_zero, condT, condF, Bool.not_true, Bool.not_false, Option.isNone_some, Option.isNone_none]
    exact hR59 _ H8 scan_falls scan_met_len ((hlt.scan hs.ok).mono (by omega)) h8

end Go.Proofs.Ytohlnmenghbgbaa
