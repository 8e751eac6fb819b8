/- Merged by merge.py: DenLaw13, DenLaw13MarkEnds, DenLaw13MarkKnown, Law13. No condition. -/
import Derived.Test.YtohlnmenghbgbaaZNum
import Derived.Test.YtohlnmenghbgbaaZMark
import Derived.Test.YtohlnmenghbgbaaZSweep

/- PRINTED by gen.py: functions as plain propositions, held against the program by the kernel. No condition. -/
namespace Go.Proofs.Ytohlnmenghbgbaa
open Go
set_option linter.unusedVariables false
set_option maxRecDepth 100000

def B_law13_known  (H : Hp) (K : Value → Hp → Prop) : Prop :=
 newB (.cells #[(.slice none 0 0)] ty_Sint) H fun b1 Hx2 =>
 newB (.cells #[(.int .i64 8)] ty_int) Hx2 fun b3 Hx4 =>
 newB (.cells #[(.slice none 0 0), (.slice none 0 0), (.slice none 0 0)] ty_hand_Graph) Hx4 fun b5 Hx6 =>
 st ⟨b5, 0, none⟩ (.slice (some ⟨b1, 0, none⟩) 1 1) Hx6 fun Hx7 =>
 st ⟨b5, 1, none⟩ (.slice none 0 0) Hx7 fun Hx8 =>
 st ⟨b5, 2, none⟩ (.slice (some ⟨b3, 0, none⟩) 1 1) Hx8 fun Hx9 =>
 ldSl ⟨b5, 0, none⟩ Hx9 fun RefsP10 RefsL11 RefsC12 =>
 ldSl ⟨b5, 1, none⟩ Hx9 fun OutP13 OutL14 OutC15 =>
 ldSl ⟨b5, 2, none⟩ Hx9 fun InP16 InL17 InC18 =>
 hcall PR f_hand_Graph_Heaps ⟨[(.agg #[(.slice RefsP10 RefsL11 RefsC12), (.slice OutP13 OutL14 OutC15), (.slice InP16 InL17 InC18)]), (.int .i64 3)]⟩ Hx9 fun v19 Hx20 =>
 tup2 v19 fun v21 v22 =>
 asP v21 fun t23 =>
 asP v22 fun t24 =>
 (bif (Option.isNone (α := Addr) t23) then
 K (.bool false) Hx20
else
 hcall PR f_paint_New ⟨[(.pointer t23), (.int .i64 2)]⟩ Hx20 fun v25 Hx26 =>
 tup2 v25 fun v27 v28 =>
 asP v27 fun t29 =>
 asI .i64 v28 fun t30 =>
 hcall PR f_mark_New ⟨[(.pointer t23), (.pointer t29)]⟩ Hx26 fun v31 Hx32 =>
 tup2 v31 fun v33 v34 =>
 asP v33 fun t35 =>
 asI .i64 v34 fun t36 =>
 (bif ((t30 : Int) != 0) then
 K (.bool false) Hx32
else
 (bif ((t36 : Int) != 0) then
 K (.bool false) Hx32
else
 (bif (Option.isNone (α := Addr) t29) then
 K (.bool false) Hx32
else
 (bif (Option.isNone (α := Addr) t35) then
 K (.bool false) Hx32
else
 hcall PR f_mark_Marker_Step ⟨[(.pointer t35)]⟩ Hx32 fun v37 Hx38 =>
 asB v37 fun t39 =>
 hcall PR f_paint_Paint_Mark ⟨[(.pointer t29), (.int .u64 1)]⟩ Hx38 fun v40 Hx41 =>
 tup3 v40 fun v42 v43 v44 =>
 asI .i64 v42 fun t45 =>
 asB v43 fun t46 =>
 asB v44 fun t47 =>
 hcall PR f_mark_Marker_Step ⟨[(.pointer t35)]⟩ Hx41 fun v48 Hx49 =>
 asB v48 fun t50 =>
 hcall PR f_mark_Marker_Step ⟨[(.pointer t35)]⟩ Hx49 fun v51 Hx52 =>
 asB v51 fun t53 =>
 (bif t39 then
 (bif ((t45 : Int) == 2) then
 (bif t46 then
 (bif t47 then
 (bif t50 then
 K (.bool (!t53)) Hx52
else
 K (.bool false) Hx52)
else
 K (.bool false) Hx52)
else
 K (.bool false) Hx52)
else
 K (.bool false) Hx52)
else
 K (.bool false) Hx52))))))
theorem E_law13_known  (H : Hp) (K : Value → Hp → Prop) : B_law13_known  H K = denF Try.prog Try.f61 .n [] H K := by kernel_rfl
theorem den_law13_known  {H : Hp} {K : Value → Hp → Prop} (h : B_law13_known  H K) : hcall PR f_law13_known ⟨[]⟩ H K := denF_call Try.func61 PR_mixed (Eq.mp (E_law13_known  H K) h)

def B_law13_all (m1 : Option Addr) (n2 : Int) (H : Hp) (K : Value → Hp → Prop) : Prop :=
 ∃ (I3 : Int → Hp → Prop) (m4 : Int → Hp → Nat), I3 0 H ∧ ∀ k6 : Int, ∀ Hx5 : Hp, I3 k6 Hx5 →
 (bif (decide ((k6 : Int) ≤ (IntKind.i64.wrap ((IntKind.i64.wrap (42 * (IntKind.i64.wrap (n2 + 2)))) * (IntKind.i64.wrap (n2 + 2)))))) then
 hcall PR f_mark_Marker_Step ⟨[(.pointer m1)]⟩ Hx5 fun v7 Hx8 =>
 asB v7 fun t9 =>
 (bif (!t9) then
 K (.tuple #[(.int .i64 k6), (.bool true)]) Hx8
else
 I3 (IntKind.i64.wrap (k6 + 1)) Hx8 ∧ m4 (IntKind.i64.wrap (k6 + 1)) Hx8 < m4 k6 Hx5)
else
 K (.tuple #[(.int .i64 0), (.bool false)]) Hx5)
theorem E_law13_all (m1 : Option Addr) (n2 : Int) (H : Hp) (K : Value → Hp → Prop) : B_law13_all m1 n2 H K = denF Try.prog Try.f64 (.seq none .n (.seq none (.seq none .n (.sub (.loop ⟨[(6, .int .i64)], [0, 1]⟩ .n))) .n)) [(.pointer m1), (.int .i64 n2)] H K := by kernel_rfl
theorem den_law13_all {m1 : Option Addr} {n2 : Int} {H : Hp} {K : Value → Hp → Prop} (h : B_law13_all m1 n2 H K) : hcall PR f_law13_all ⟨[(.pointer m1), (.int .i64 n2)]⟩ H K := denF_call Try.func64 PR_mixed (Eq.mp (E_law13_all m1 n2 H K) h)

end Go.Proofs.Ytohlnmenghbgbaa

/- PRINTED by gen.py: functions as plain propositions, held against the program by the kernel. No condition. -/
namespace Go.Proofs.Ytohlnmenghbgbaa
open Go
set_option linter.unusedVariables false
set_option maxRecDepth 100000

def B_law13_MarkEnds (gRefsP1 : Option Addr) (gRefsL2 : Nat) (gRefsC3 : Nat) (gOutP4 : Option Addr) (gOutL5 : Nat) (gOutC6 : Nat) (gInP7 : Option Addr) (gInL8 : Nat) (gInC9 : Nat) (grey10 : Int) (H : Hp) (K : Value → Hp → Prop) : Prop :=
 newB (.cells #[(.slice gRefsP1 gRefsL2 gRefsC3), (.slice gOutP4 gOutL5 gOutC6), (.slice gInP7 gInL8 gInC9)] ty_hand_Graph) H fun b11 Hx12 =>
 ldSl ⟨b11, 0, none⟩ Hx12 fun RefsP13 RefsL14 RefsC15 =>
 ldSl ⟨b11, 1, none⟩ Hx12 fun OutP16 OutL17 OutC18 =>
 ldSl ⟨b11, 2, none⟩ Hx12 fun InP19 InL20 InC21 =>
 hcall PR f_hand_Graph_Heaps ⟨[(.agg #[(.slice RefsP13 RefsL14 RefsC15), (.slice OutP16 OutL17 OutC18), (.slice InP19 InL20 InC21)]), (.int .i64 40)]⟩ Hx12 fun v22 Hx23 =>
 tup2 v22 fun v24 v25 =>
 asP v24 fun t26 =>
 asP v25 fun t27 =>
 hcall PR f_law13_known ⟨[]⟩ Hx23 fun v28 Hx29 =>
 asB v28 fun t30 =>
 (bif (!t30) then
 K (.bool false) Hx29
else
 (bif (Option.isNone (α := Addr) t26) then
 K (.bool false) Hx29
else
 nilP t27 fun ta31 =>
 ldI .u64 (ta31.add 2) Hx29 fun Last32 =>
 hcall PR f_hand_Pick ⟨[(.int .i64 grey10), (.int .i64 8)]⟩ Hx29 fun v33 Hx34 =>
 asI .i64 v33 fun t35 =>
 hcall PR f_paint_New ⟨[(.pointer t26), (.int .i64 (IntKind.i64.wrap (1 + t35)))]⟩ Hx34 fun v36 Hx37 =>
 tup2 v36 fun v38 v39 =>
 asP v38 fun t40 =>
 asI .i64 v39 fun t41 =>
 hcall PR f_mark_New ⟨[(.pointer t26), (.pointer t40)]⟩ Hx37 fun v42 Hx43 =>
 tup2 v42 fun v44 v45 =>
 asP v44 fun t46 =>
 asI .i64 v45 fun t47 =>
 (bif ((t41 : Int) != 0) then
 K (.bool false) Hx43
else
 (bif ((t47 : Int) != 0) then
 K (.bool false) Hx43
else
 (bif (Option.isNone (α := Addr) t40) then
 K (.bool false) Hx43
else
 (bif (Option.isNone (α := Addr) t46) then
 K (.bool false) Hx43
else
 hcall PR f_law13_all ⟨[(.pointer t46), (.int .i64 (IntKind.i64.wrap Last32))]⟩ Hx43 fun v48 Hx49 =>
 tup2 v48 fun v50 v51 =>
 asI .i64 v50 fun t52 =>
 asB v51 fun t53 =>
 (bif t53 then
 (bif (decide ((t52 : Int) ≤ (IntKind.i64.wrap ((IntKind.i64.wrap (42 * (IntKind.i64.wrap ((IntKind.i64.wrap Last32) + 1)))) * (IntKind.i64.wrap ((IntKind.i64.wrap Last32) + 1)))))) then
 hcall PR f_mark_Marker_Step ⟨[(.pointer t46)]⟩ Hx49 fun v54 Hx55 =>
 asB v54 fun t56 =>
 K (.bool (!t56)) Hx55
else
 K (.bool false) Hx49)
else
 K (.bool false) Hx49)))))))
theorem E_law13_MarkEnds (gRefsP1 : Option Addr) (gRefsL2 : Nat) (gRefsC3 : Nat) (gOutP4 : Option Addr) (gOutL5 : Nat) (gOutC6 : Nat) (gInP7 : Option Addr) (gInL8 : Nat) (gInC9 : Nat) (grey10 : Int) (H : Hp) (K : Value → Hp → Prop) : B_law13_MarkEnds gRefsP1 gRefsL2 gRefsC3 gOutP4 gOutL5 gOutC6 gInP7 gInL8 gInC9 grey10 H K = denF Try.prog Try.f15 .n [(.agg #[(.slice gRefsP1 gRefsL2 gRefsC3), (.slice gOutP4 gOutL5 gOutC6), (.slice gInP7 gInL8 gInC9)]), (.int .i64 grey10)] H K := by kernel_rfl
theorem den_law13_MarkEnds {gRefsP1 : Option Addr} {gRefsL2 : Nat} {gRefsC3 : Nat} {gOutP4 : Option Addr} {gOutL5 : Nat} {gOutC6 : Nat} {gInP7 : Option Addr} {gInL8 : Nat} {gInC9 : Nat} {grey10 : Int} {H : Hp} {K : Value → Hp → Prop} (h : B_law13_MarkEnds gRefsP1 gRefsL2 gRefsC3 gOutP4 gOutL5 gOutC6 gInP7 gInL8 gInC9 grey10 H K) : hcall PR f_law13_MarkEnds ⟨[(.agg #[(.slice gRefsP1 gRefsL2 gRefsC3), (.slice gOutP4 gOutL5 gOutC6), (.slice gInP7 gInL8 gInC9)]), (.int .i64 grey10)]⟩ H K := denF_call Try.func15 PR_mixed (Eq.mp (E_law13_MarkEnds gRefsP1 gRefsL2 gRefsC3 gOutP4 gOutL5 gOutC6 gInP7 gInL8 gInC9 grey10 H K) h)

end Go.Proofs.Ytohlnmenghbgbaa

/- PRINTED by gen.py: functions as plain propositions, held against the program by the kernel. No condition. -/
namespace Go.Proofs.Ytohlnmenghbgbaa
open Go
set_option linter.unusedVariables false
set_option maxRecDepth 100000

def B_law13_MarkKnown  (H : Hp) (K : Value → Hp → Prop) : Prop :=
 hcall PR f_hand_Graph_Heaps ⟨[(.agg #[(.slice none 0 0), (.slice none 0 0), (.slice none 0 0)]), (.int .i64 3)]⟩ H fun v1 Hx2 =>
 tup2 v1 fun v3 v4 =>
 asP v3 fun t5 =>
 asP v4 fun t6 =>
 hcall PR f_law13_known ⟨[]⟩ Hx2 fun v7 Hx8 =>
 asB v7 fun t9 =>
 (bif (!t9) then
 K (.bool false) Hx8
else
 (bif (Option.isNone (α := Addr) t5) then
 K (.bool false) Hx8
else
 hcall PR f_paint_New ⟨[(.pointer t5), (.int .i64 2)]⟩ Hx8 fun v10 Hx11 =>
 tup2 v10 fun v12 v13 =>
 asP v12 fun t14 =>
 asI .i64 v13 fun t15 =>
 hcall PR f_mark_New ⟨[(.pointer none), (.pointer t14)]⟩ Hx11 fun v16 Hx17 =>
 tup2 v16 fun v18 v19 =>
 asP v18 fun t20 =>
 asI .i64 v19 fun t21 =>
 hcall PR f_mark_New ⟨[(.pointer t5), (.pointer none)]⟩ Hx17 fun v22 Hx23 =>
 tup2 v22 fun v24 v25 =>
 asP v24 fun t26 =>
 asI .i64 v25 fun t27 =>
 hcall PR f_mark_New ⟨[(.pointer t5), (.pointer t14)]⟩ Hx23 fun v28 Hx29 =>
 tup2 v28 fun v30 v31 =>
 asP v30 fun t32 =>
 asI .i64 v31 fun t33 =>
 (bif ((t21 : Int) == 1) then
 (bif ((t27 : Int) == 1) then
 (bif ((t33 : Int) == 0) then
 (bif (!(Option.isNone (α := Addr) t32)) then
 hcall PR f_mark_Marker_Step ⟨[(.pointer t32)]⟩ Hx29 fun v34 Hx35 =>
 asB v34 fun t36 =>
 K (.bool (!t36)) Hx35
else
 K (.bool false) Hx29)
else
 K (.bool false) Hx29)
else
 K (.bool false) Hx29)
else
 K (.bool false) Hx29)))
theorem E_law13_MarkKnown  (H : Hp) (K : Value → Hp → Prop) : B_law13_MarkKnown  H K = denF Try.prog Try.f14 .n [] H K := by kernel_rfl
theorem den_law13_MarkKnown  {H : Hp} {K : Value → Hp → Prop} (h : B_law13_MarkKnown  H K) : hcall PR f_law13_MarkKnown ⟨[]⟩ H K := denF_call Try.func14 PR_mixed (Eq.mp (E_law13_MarkKnown  H K) h)

end Go.Proofs.Ytohlnmenghbgbaa

/- Chapter 13's statements, run: MarkKnown, MarkEnds. No condition. -/
namespace Go.Proofs.Ytohlnmenghbgbaa
set_option linter.unusedSimpArgs false
set_option linter.unusedVariables false
open Go

theorem rd_single {H : Hp} {p : Option Addr} {v : Value} (h : Rd H 1 p 1 [v]) : Rd H 1 p 1 [v] := h

theorem known13_ok {H0 H : Hp} {L : List Prt} {K : Value → Hp → Prop} (h : St H0 L H) (hK : ∀ H', St H0 L H' → K (.bool true) H') : hcall PR f_law13_known ⟨[]⟩ H K := by
  apply den_law13_known
  unfold B_law13_known
  intro b1 hb1
  have h1 := h.alloc (o := .cells #[.slice none 0 0] ty_Sint) hb1
  intro b3 hb3
  have h2 := h1.alloc (o := .cells #[.int .i64 8] ty_int) hb3
  intro b5 hb5
  have h3 := h2.alloc (o := .cells #[.slice none 0 0, .slice none 0 0, .slice none 0 0] ty_hand_Graph) hb5
  refine h3.put (i := 0) rfl (by simp) fun H4 h4 => h4.put (i := 0) rfl (by simp) fun H5 h5 => h5.put (i := 0) rfl (by simp) fun H6 h6 => ?_
  refine ldSl_of (h6.cell (i := 0) rfl rfl) (ldSl_of (h6.cell (i := 0) rfl rfl) (ldSl_of (h6.cell (i := 0) rfl rfl) ?_))
  have ga : GrA H6 (some ⟨b1, 0, none⟩) 1 none 0 (some ⟨b3, 0, none⟩) 1 ⟨[[]], [], [8]⟩ :=
    ⟨⟨[(none, 0, 0)], h6.one_rd (i := 2) (n := 1) rfl rfl, rfl, fun i t l ht hl => by
      cases i with
      | zero => simp at ht hl; subst ht hl; exact ⟨rfl, rd_nil⟩
      | succ i => simp at ht⟩, rd_nil, h6.one_rd (i := 1) (n := 1) rfl rfl⟩
  have gok : (⟨[[]], [], [8]⟩ : Gr).ok := ⟨by simp, fun l hl => by simp at hl; subst hl; exact ⟨by simp, fun x hx => by cases hx⟩, by simp, by simp⟩
  refine HeapsC (most := 3) ga gok (by omega) fun hb rb s H7 hs h7 => ?_
  have hs : GrHs ⟨[[]], [], [8]⟩ 1 s := hs
  have h7 := h6.join h7
  simp only [asI_mk', asB_mk, asP_mk, asA_mk, asM_mk, asSl_mk, asStr_mk, tup2_mk, tup3_mk, agg1_mk, agg2_mk, agg3_mk, agg4_mk, asAggm, unCons_mk, unNil_mk, asTup_mk, extractD0, extractD1, List.toList_toArray, nilP_mk, add_mk, Nat.zero_add, Nat.add_zero, condT, condF, Bool.not_true, Bool.not_false, Option.isNone_some, Option.isNone_none]
  refine pNewOk h7 (by omega) (by omega) fun pb H8 h8 => ?_
  simp only [asI_mk', asB_mk, asP_mk, asA_mk, asM_mk, asSl_mk, asStr_mk, tup2_mk, tup3_mk, agg1_mk, agg2_mk, agg3_mk, agg4_mk, asAggm, unCons_mk, unNil_mk, asTup_mk, extractD0, extractD1, List.toList_toArray, nilP_mk, add_mk, Nat.zero_add, Nat.add_zero, condT, condF, Bool.not_true, Bool.not_false, Option.isNone_some, Option.isNone_none]
  refine mkNewC (pb := pb) (hb := hb) h8 fun mb H9 h9 => ?_
  simp only [asI_mk', asB_mk, asP_mk, asA_mk, asM_mk, asSl_mk, asStr_mk, tup2_mk, tup3_mk, agg1_mk, agg2_mk, agg3_mk, agg4_mk, asAggm, unCons_mk, unNil_mk, asTup_mk, extractD0, extractD1, List.toList_toArray, nilP_mk, add_mk, Nat.zero_add, Nat.add_zero, condT, condF, Bool.not_true, Bool.not_false, Option.isNone_some, Option.isNone_none]
  refine bif_neqf rfl (bif_neqf rfl ?_)
  have hlast : s.last = 1 := hs.last
  obtain ⟨c, hg1⟩ := hs.get (m := 1) (by omega)
  have hd : grDist ⟨[[]], [], [8]⟩ 0 = 2 := by decide
  have hrf : grRefs ⟨[[]], [], [8]⟩ 1 0 = [] := by decide
  rw [show (1 : Int).toNat - 1 = 0 from rfl, hd, hrf] at hg1
  have hne1 : ¬ hGet s 1 = none := by rw [hg1]; simp
  have n0 : hNext s 0 = (1, true) := hNext_is hs.ok hne1 (by omega) fun k h1 h2 => by omega
  have n1 : hNext s 1 = (0, false) := hNext_none hs.ok fun k hk => by
    have := hs.has (m := k)
    cases hg : hGet s k with
    | none => rfl
    | some o =>
      rw [hg] at this
      have := this.1 (by simp)
      omega
  have hp1 : pShade s (newPs 2) ⟨s.node, 1⟩ 2 = ⟨[(1, (2, true))], [], [1], 2, false, 0⟩ := by
    unfold pShade
    rw [hs.node, if_neg (by decide), if_neg (by simp), if_neg hne1]
    rfl
  have w1 : mkStep s (newPs 2) ⟨0, false, 0⟩ = (true, ⟨[(1, (2, true))], [], [1], 2, false, 0⟩, ⟨1, false, 0⟩) := by
    unfold mkStep mkSee
    simp only [newPs, List.getLast?_nil, Bool.false_eq_true, false_and, if_false, n0, hg1]
    rw [if_neg (by decide), if_pos (by decide)]
    rw [show (⟨[], [], [], 2, false, 0⟩ : Ps) = newPs 2 from rfl, hp1]
  have k1 : pMark s ⟨[(1, (2, true))], [], [1], 2, false, 0⟩ 1 = (2, true, true) := by
    simp [pMark, mlook, hne1]
  have w2 : mkStep s ⟨[(1, (2, true))], [], [1], 2, false, 0⟩ ⟨1, false, 0⟩ = (true, ⟨[(1, (2, false))], [], [], 2, false, 0⟩, ⟨1, false, 0⟩) := by
    unfold mkStep
    simp [pPop, pScan, hg1, mlook, mput, mhas, pShades]
  have w3 : mkStep s ⟨[(1, (2, false))], [], [], 2, false, 0⟩ ⟨1, false, 0⟩ = (false, ⟨[(1, (2, false))], [], [], 2, false, 0⟩, ⟨1, false, 0⟩) := by
    unfold mkStep
    simp [n1]
  refine mkStepC h9 (i := 2) (j := 1) (k := 0) rfl rfl rfl (by decide) (by decide) (by decide) fun H10 h10 => ?_
  rw [w1] at h10 ⊢
  simp only [asI_mk', asB_mk, asP_mk, asA_mk, asM_mk, asSl_mk, asStr_mk, tup2_mk, tup3_mk, agg1_mk, agg2_mk, agg3_mk, agg4_mk, asAggm, unCons_mk, unNil_mk, asTup_mk, extractD0, extractD1, List.toList_toArray, nilP_mk, add_mk, Nat.zero_add, Nat.add_zero, condT, condF, Bool.not_true, Bool.not_false, Option.isNone_some, Option.isNone_none]
  refine pMarkC (L := _ :: _ :: _ :: _ :: _ :: _ :: _ :: L) h10 (i := 2) (j := 1) rfl rfl (by decide) fun H11 h11 => ?_
  rw [k1]
  simp only [asI_mk', asB_mk, asP_mk, asA_mk, asM_mk, asSl_mk, asStr_mk, tup2_mk, tup3_mk, agg1_mk, agg2_mk, agg3_mk, agg4_mk, asAggm, unCons_mk, unNil_mk, asTup_mk, extractD0, extractD1, List.toList_toArray, nilP_mk, add_mk, Nat.zero_add, Nat.add_zero, condT, condF, Bool.not_true, Bool.not_false, Option.isNone_some, Option.isNone_none]
  refine mkStepC (L := _ :: _ :: _ :: _ :: _ :: _ :: _ :: L) h11 (i := 2) (j := 1) (k := 0) rfl rfl rfl (by decide) (by decide) (by decide) fun H12 h12 => ?_
  rw [w2] at h12 ⊢
  simp only [asI_mk', asB_mk, asP_mk, asA_mk, asM_mk, asSl_mk, asStr_mk, tup2_mk, tup3_mk, agg1_mk, agg2_mk, agg3_mk, agg4_mk, asAggm, unCons_mk, unNil_mk, asTup_mk, extractD0, extractD1, List.toList_toArray, nilP_mk, add_mk, Nat.zero_add, Nat.add_zero, condT, condF, Bool.not_true, Bool.not_false, Option.isNone_some, Option.isNone_none]
  refine mkStepC (L := _ :: _ :: _ :: _ :: _ :: _ :: _ :: L) h12 (i := 2) (j := 1) (k := 0) rfl rfl rfl (by decide) (by decide) (by decide) fun H13 h13 => ?_
  rw [w3] at h13 ⊢
  simp only [asI_mk', asB_mk, asP_mk, asA_mk, asM_mk, asSl_mk, asStr_mk, tup2_mk, tup3_mk, agg1_mk, agg2_mk, agg3_mk, agg4_mk, asAggm, unCons_mk, unNil_mk, asTup_mk, extractD0, extractD1, List.toList_toArray, nilP_mk, add_mk, Nat.zero_add, Nat.add_zero, condT, condF, Bool.not_true, Bool.not_false, Option.isNone_some, Option.isNone_none]
  exact bif_eq rfl (hK H13 (St.lesses (M := [_, _, _, _, _, _, _]) h13))

theorem MarkKnown_ok {H : Hp} {K : Value → Hp → Prop} (hK : ∀ H', Keep Nothing H H' → K (.bool true) H') : hcall PR f_law13_MarkKnown ⟨[]⟩ H K := by
  apply den_law13_MarkKnown
  unfold B_law13_MarkKnown
  refine HeapsC (most := 3) (nilsG_at (n := 0) rd_nil) (nilsG_ok (by omega)) (by omega) fun hb rb s H2 hs h2 => ?_
  rw [nilsG_size (by omega)] at hs
  simp only [asI_mk', asB_mk, asP_mk, asA_mk, asM_mk, asSl_mk, asStr_mk, tup2_mk, tup3_mk, agg1_mk, agg2_mk, agg3_mk, agg4_mk, asAggm, unCons_mk, unNil_mk, asTup_mk, extractD0, extractD1, List.toList_toArray, nilP_mk, add_mk, Nat.zero_add, Nat.add_zero, condT, condF, Bool.not_true, Bool.not_false, Option.isNone_some, Option.isNone_none]
  refine known13_ok h2 fun H3 h3 => ?_
  simp only [asI_mk', asB_mk, asP_mk, asA_mk, asM_mk, asSl_mk, asStr_mk, tup2_mk, tup3_mk, agg1_mk, agg2_mk, agg3_mk, agg4_mk, asAggm, unCons_mk, unNil_mk, asTup_mk, extractD0, extractD1, List.toList_toArray, nilP_mk, add_mk, Nat.zero_add, Nat.add_zero, condT, condF, Bool.not_true, Bool.not_false, Option.isNone_some, Option.isNone_none]
  refine pNewOk h3 (by omega) (by omega) fun pb H4 h4 => ?_
  simp only [asI_mk', asB_mk, asP_mk, asA_mk, asM_mk, asSl_mk, asStr_mk, tup2_mk, tup3_mk, agg1_mk, agg2_mk, agg3_mk, agg4_mk, asAggm, unCons_mk, unNil_mk, asTup_mk, extractD0, extractD1, List.toList_toArray, nilP_mk, add_mk, Nat.zero_add, Nat.add_zero, condT, condF, Bool.not_true, Bool.not_false, Option.isNone_some, Option.isNone_none]
  refine mkNewNil1 ?_
  simp only [asI_mk', asB_mk, asP_mk, asA_mk, asM_mk, asSl_mk, asStr_mk, tup2_mk, tup3_mk, agg1_mk, agg2_mk, agg3_mk, agg4_mk, asAggm, unCons_mk, unNil_mk, asTup_mk, extractD0, extractD1, List.toList_toArray, nilP_mk, add_mk, Nat.zero_add, Nat.add_zero, condT, condF, Bool.not_true, Bool.not_false, Option.isNone_some, Option.isNone_none]
  refine mkNewNil2 ?_
  simp only [asI_mk', asB_mk, asP_mk, asA_mk, asM_mk, asSl_mk, asStr_mk, tup2_mk, tup3_mk, agg1_mk, agg2_mk, agg3_mk, agg4_mk, asAggm, unCons_mk, unNil_mk, asTup_mk, extractD0, extractD1, List.toList_toArray, nilP_mk, add_mk, Nat.zero_add, Nat.add_zero, condT, condF, Bool.not_true, Bool.not_false, Option.isNone_some, Option.isNone_none]
  refine mkNewC (pb := pb) (hb := hb) h4 fun mb H5 h5 => ?_
  simp only [asI_mk', asB_mk, asP_mk, asA_mk, asM_mk, asSl_mk, asStr_mk, tup2_mk, tup3_mk, agg1_mk, agg2_mk, agg3_mk, agg4_mk, asAggm, unCons_mk, unNil_mk, asTup_mk, extractD0, extractD1, List.toList_toArray, nilP_mk, add_mk, Nat.zero_add, Nat.add_zero, condT, condF, Bool.not_true, Bool.not_false, Option.isNone_some, Option.isNone_none]
  refine bif_eq rfl (bif_eq rfl (bif_eq rfl ?_))
  (try simp only [Bool.not_false, condT])
  refine mkStepC h5 (i := 2) (j := 1) (k := 0) rfl rfl rfl (by decide) (by decide) (by decide) fun H6 h6 => ?_
  have n1 : hNext s 0 = (0, false) := hNext_none hs.ok fun k hk => by
    have := hs.has (m := k)
    cases hg : hGet s k with
    | none => rfl
    | some o =>
      rw [hg] at this
      have := this.1 (by simp)
      omega
  have w1 : mkStep s (newPs 2) ⟨0, false, 0⟩ = (false, newPs 2, ⟨0, false, 0⟩) := by
    unfold mkStep
    simp [newPs, n1]
  rw [w1] at h6 ⊢
  simp only [asI_mk', asB_mk, asP_mk, asA_mk, asM_mk, asSl_mk, asStr_mk, tup2_mk, tup3_mk, agg1_mk, agg2_mk, agg3_mk, agg4_mk, asAggm, unCons_mk, unNil_mk, asTup_mk, extractD0, extractD1, List.toList_toArray, nilP_mk, add_mk, Nat.zero_add, Nat.add_zero, condT, condF, Bool.not_true, Bool.not_false, Option.isNone_some, Option.isNone_none]
  exact hK H6 h6.keep

/-- All is marked. -/
theorem allC {H0 H : Hp} {L : List Prt} {i j k hb pb mb n B : Nat} {s : Hs} {p : Ps} {m : Mk} {K : Value → Hp → Prop} (I : Ps → Mk → Prop) (h : St H0 L H) (hi : L[i]? = some (HeapP hb s)) (hj : L[j]? = some (PaintP pb hb p)) (hk : L[k]? = some (MkP mb hb pb m)) (hij : i ≠ j) (hik : i ≠ k) (hjk : j ≠ k)
    (hl : s.last = n) (hn : n ≤ 60) (hm : m.ok) (hB : mkLeft s n p m ≤ B) (hB2 : B ≤ 42 * (n + 2) * (n + 2)) (hI : I p m) (hstep : ∀ p m, p.ok → m.ok → I p m → (mkStep s p m).1 = true → I (mkStep s p m).2.1 (mkStep s p m).2.2)
    (hK : ∀ (q : Nat) p' m' H', q ≤ B → p'.ok → m'.ok → I p' m' → (mkStep s p' m').1 = false → St H0 ((L.set k (MkP mb hb pb { m' with pass := false })).set j (PaintP pb hb p')) H' → K (.tuple #[.int .i64 q, .bool true]) H') :
    hcall PR f_law13_all ⟨[.pointer (some ⟨mb, 0, none⟩), .int .i64 n]⟩ H K := by
  have ho := heap_ok h hi
  have hp := paint_ok h hj
  apply den_law13_all
  unfold B_law13_all
  have hkl := ltOfGet hk
  have hjl := ltOfGet hj
  have w1 : IntKind.i64.wrap ((n : Int) + 2) = ((n + 2 : Nat) : Int) := by rw [wrap_i64 (by omega) (by omega)]; omega
  have w2 : IntKind.i64.wrap (42 * ((n + 2 : Nat) : Int)) = ((42 * (n + 2) : Nat) : Int) := by rw [wrap_i64 (by omega) (by omega)]; omega
  have hmul : ((42 * (n + 2) : Nat) : Int) * ((n + 2 : Nat) : Int) = ((42 * (n + 2) * (n + 2) : Nat) : Int) := by rw [← Int.natCast_mul]
  have hbnd : 42 * (n + 2) * (n + 2) ≤ 42 * 62 * 62 := Nat.mul_le_mul (Nat.mul_le_mul_left _ (by omega)) (by omega)
  have w3 : IntKind.i64.wrap (((42 * (n + 2) : Nat) : Int) * ((n + 2 : Nat) : Int)) = ((42 * (n + 2) * (n + 2) : Nat) : Int) := by rw [hmul, wrap_i64 (by omega) (by omega)]
  rw [w1, w2, w3]
  have h0 : St H0 ((L.set k (MkP mb hb pb m)).set j (PaintP pb hb p)) H := by rw [List.set_self hk, List.set_self hj]; exact h
  refine ⟨fun q H' => ∃ (y : Nat) (p : Ps) (m : Mk), q = y ∧ y + mkLeft s n p m ≤ B ∧ m.ok ∧ I p m ∧ St H0 ((L.set k (MkP mb hb pb m)).set j (PaintP pb hb p)) H', fun q _ => (B + 1 - q).toNat, ⟨0, p, m, rfl, by omega, hm, hI, h0⟩, ?_⟩
  clear h0 hI hB hm hp h
  rintro q H1 ⟨y, p, m, rfl, hy, hm, hI, h1⟩
  have gi : ((L.set k (MkP mb hb pb m)).set j (PaintP pb hb p))[i]? = some (HeapP hb s) := by rw [List.getElem?_set_ne (Ne.symm hij), List.getElem?_set_ne (Ne.symm hik)]; exact hi
  have gj : ((L.set k (MkP mb hb pb m)).set j (PaintP pb hb p))[j]? = some (PaintP pb hb p) := by simp [hjl]
  have gk : ((L.set k (MkP mb hb pb m)).set j (PaintP pb hb p))[k]? = some (MkP mb hb pb m) := by rw [List.getElem?_set_ne hjk]; simp [hkl]
  have hp := paint_ok h1 gj
  refine bif_pos (by omega) (mkStepC h1 gi gj gk hij hik hjk fun H2 h2 => ?_)
  rw [List.set_comm _ _ hjk, List.set_set, List.set_set] at h2
  simp only [asI_mk', asB_mk, asP_mk, asA_mk, asM_mk, asSl_mk, asStr_mk, tup2_mk, tup3_mk, agg1_mk, agg2_mk, agg3_mk, agg4_mk, asAggm, unCons_mk, unNil_mk, asTup_mk, extractD0, extractD1, List.toList_toArray, nilP_mk, add_mk, Nat.zero_add, Nat.add_zero, condT, condF, Bool.not_true, Bool.not_false, Option.isNone_some, Option.isNone_none]
  cases hr : (mkStep s p m).1
  · simp only [Bool.not_false, condT]
    have he := (mkStep_end hr).1
    rw [he] at h2
    exact hK y p m H2 (by omega) hp hm hI hr h2
  · simp only [Bool.not_true, condF]
    have hless := mkStep_less ho hl hp hm hr
    have hok := mkStep_ok ho hp hm
    rw [wrap_i64 (by omega) (by omega)]
    exact ⟨⟨y + 1, _, _, by omega, by omega, hok.2, hstep p m hp hm hI hr, h2⟩, by (try dsimp only); omega⟩

set_option maxRecDepth 20000 in
theorem MarkEnds_ok {rp op ip : Option Addr} {rl rc ol oc il ic : Nat} {g : Gr} {grey : Int} {H : Hp} {K : Value → Hp → Prop} (ga : GrA H rp rl op ol ip il g) (gok : g.ok) (hgr : IntKind.min .i64 ≤ grey ∧ grey ≤ IntKind.max .i64)
    (hK : ∀ H', Keep Nothing H H' → K (.bool true) H') : hcall PR f_law13_MarkEnds ⟨[.agg #[.slice rp rl rc, .slice op ol oc, .slice ip il ic], .int .i64 grey]⟩ H K := by
  apply den_law13_MarkEnds
  unfold B_law13_MarkEnds
  intro b11 hb11
  have h1 := (St.start H).alloc (o := .cells #[.slice rp rl rc, .slice op ol oc, .slice ip il ic] ty_hand_Graph) hb11
  refine ldSl_of (h1.cell (i := 0) rfl rfl) (ldSl_of (h1.cell (i := 0) rfl rfl) (ldSl_of (h1.cell (i := 0) rfl rfl) ?_))
  refine HeapsC (most := 40) (ga.st h1) gok (by omega) fun hb rb s H2 hs h2 => ?_
  have h2 := h1.join h2
  have hn : grSize g 40 ≤ 40 := by unfold grSize; split <;> omega
  generalize grSize g 40 = n at *
  simp only [asI_mk', asB_mk, asP_mk, asA_mk, asM_mk, asSl_mk, asStr_mk, tup2_mk, tup3_mk, agg1_mk, agg2_mk, agg3_mk, agg4_mk, asAggm, unCons_mk, unNil_mk, asTup_mk, extractD0, extractD1, List.toList_toArray, nilP_mk, add_mk, Nat.zero_add, Nat.add_zero, condT, condF, Bool.not_true, Bool.not_false, Option.isNone_some, Option.isNone_none]
  refine known13_ok h2 fun H3 h3 => ?_
  simp only [asI_mk', asB_mk, asP_mk, asA_mk, asM_mk, asSl_mk, asStr_mk, tup2_mk, tup3_mk, agg1_mk, agg2_mk, agg3_mk, agg4_mk, asAggm, unCons_mk, unNil_mk, asTup_mk, extractD0, extractD1, List.toList_toArray, nilP_mk, add_mk, Nat.zero_add, Nat.add_zero, condT, condF, Bool.not_true, Bool.not_false, Option.isNone_some, Option.isNone_none]
  obtain ⟨y1, N1, g1, _, _⟩ := rheapOpenL (i := 1) h3 rfl (.inl rfl)
  refine ldI_of (rheapV g1).last (Pick_ok (by omega) (by omega) ?_)
  have p1 := pick_lt (n := grey) (m := 8) (by omega)
  simp only [asI_mk', asB_mk, asP_mk, asA_mk, asM_mk, asSl_mk, asStr_mk, tup2_mk, tup3_mk, agg1_mk, agg2_mk, agg3_mk, agg4_mk, asAggm, unCons_mk, unNil_mk, asTup_mk, extractD0, extractD1, List.toList_toArray, nilP_mk, add_mk, Nat.zero_add, Nat.add_zero, condT, condF, Bool.not_true, Bool.not_false, Option.isNone_some, Option.isNone_none]
  rw [hs.last]
  have w0 : IntKind.i64.wrap (n : Int) = n := wrap_i64 (by omega) (by omega)
  have w1 : IntKind.i64.wrap (1 + pick grey 8) = 1 + pick grey 8 := wrap_i64 (by omega) (by omega)
  have w2 : IntKind.i64.wrap ((n : Int) + 1) = ((n + 1 : Nat) : Int) := by rw [wrap_i64 (by omega) (by omega)]; omega
  have w3 : IntKind.i64.wrap (42 * ((n + 1 : Nat) : Int)) = ((42 * (n + 1) : Nat) : Int) := by rw [wrap_i64 (by omega) (by omega)]; omega
  have hmul : ((42 * (n + 1) : Nat) : Int) * ((n + 1 : Nat) : Int) = ((42 * (n + 1) * (n + 1) : Nat) : Int) := by rw [← Int.natCast_mul]
  have hbd : 42 * (n + 1) * (n + 1) ≤ 42 * 41 * 41 := Nat.mul_le_mul (Nat.mul_le_mul_left _ (by omega)) (by omega)
  have w4 : IntKind.i64.wrap (((42 * (n + 1) : Nat) : Int) * ((n + 1 : Nat) : Int)) = ((42 * (n + 1) * (n + 1) : Nat) : Int) := by rw [hmul, wrap_i64 (by omega) (by omega)]
  rw [w0, w1, w2, w3, w4]
  refine pNewOk h3 (by omega) (by omega) fun pb H4 h4 => ?_
  simp only [asI_mk', asB_mk, asP_mk, asA_mk, asM_mk, asSl_mk, asStr_mk, tup2_mk, tup3_mk, agg1_mk, agg2_mk, agg3_mk, agg4_mk, asAggm, unCons_mk, unNil_mk, asTup_mk, extractD0, extractD1, List.toList_toArray, nilP_mk, add_mk, Nat.zero_add, Nat.add_zero, condT, condF, Bool.not_true, Bool.not_false, Option.isNone_some, Option.isNone_none]
  refine mkNewC (pb := pb) (hb := hb) h4 fun mb H5 h5 => ?_
  simp only [asI_mk', asB_mk, asP_mk, asA_mk, asM_mk, asSl_mk, asStr_mk, tup2_mk, tup3_mk, agg1_mk, agg2_mk, agg3_mk, agg4_mk, asAggm, unCons_mk, unNil_mk, asTup_mk, extractD0, extractD1, List.toList_toArray, nilP_mk, add_mk, Nat.zero_add, Nat.add_zero, condT, condF, Bool.not_true, Bool.not_false, Option.isNone_some, Option.isNone_none]
  refine bif_neqf rfl (bif_neqf rfl ?_)
  have hB := mkLeft_new (n := n) (most := 1 + pick grey 8) hs.len
  have hle : (n + 1) * (41 * n) + n ≤ 42 * (n + 1) * (n + 1) := by
    have e1 : (n + 1) * (41 * n) = 41 * ((n + 1) * n) := by rw [Nat.mul_left_comm]
    have e2 : 42 * (n + 1) * (n + 1) = 42 * ((n + 1) * (n + 1)) := Nat.mul_assoc _ _ _
    have e3 : (n + 1) * (n + 1) = (n + 1) * n + (n + 1) := Nat.mul_succ _ _
    rw [e1, e2, e3]
    omega
  have hle2 : 42 * (n + 1) * (n + 1) ≤ 42 * (n + 2) * (n + 2) := Nat.mul_le_mul (Nat.mul_le_mul_left _ (by omega)) (by omega)
  refine allC (i := 2) (j := 1) (k := 0) (B := (n + 1) * (41 * n) + n) (fun _ _ => True) h5 rfl rfl rfl (by decide) (by decide) (by decide) hs.last (by omega) ⟨Int.le_refl _, Int.le_refl _⟩ (by omega) (by omega) trivial (fun _ _ _ _ _ _ => trivial) fun q p' m' H6 hq hp' hm' _ hend h6 => ?_
  simp only [asI_mk', asB_mk, asP_mk, asA_mk, asM_mk, asSl_mk, asStr_mk, tup2_mk, tup3_mk, agg1_mk, agg2_mk, agg3_mk, agg4_mk, asAggm, unCons_mk, unNil_mk, asTup_mk, extractD0, extractD1, List.toList_toArray, nilP_mk, add_mk, Nat.zero_add, Nat.add_zero, condT, condF, Bool.not_true, Bool.not_false, Option.isNone_some, Option.isNone_none]
  refine bif_pos (by omega) (mkStepC (L := _ :: _ :: _ :: _ :: _ :: []) h6 (i := 2) (j := 1) (k := 0) rfl rfl rfl (by decide) (by decide) (by decide) fun H7 h7 => ?_)
  have hag := mkStep_again hend
  rw [(mkStep_end hend).1] at hag
  rw [hag]
  simp only [asI_mk', asB_mk, asP_mk, asA_mk, asM_mk, asSl_mk, asStr_mk, tup2_mk, tup3_mk, agg1_mk, agg2_mk, agg3_mk, agg4_mk, asAggm, unCons_mk, unNil_mk, asTup_mk, extractD0, extractD1, List.toList_toArray, nilP_mk, add_mk, Nat.zero_add, Nat.add_zero, condT, condF, Bool.not_true, Bool.not_false, Option.isNone_some, Option.isNone_none]
  exact hK H7 h7.keep

end Go.Proofs.Ytohlnmenghbgbaa
