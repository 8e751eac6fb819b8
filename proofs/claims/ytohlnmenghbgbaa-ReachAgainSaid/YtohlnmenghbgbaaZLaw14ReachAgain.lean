/- Merged by merge.py: DenLaw14, DenLaw14ReachKnown, DenLaw14ReachEnds, Law14, DenLaw14ReachAgain, Law14a. No condition. -/
import Derived.Test.YtohlnmenghbgbaaZNum
import Derived.Test.YtohlnmenghbgbaaZReach
import Derived.Test.YtohlnmenghbgbaaZMark

namespace Go.Proofs.Ytohlnmenghbgbaa
open Go
set_option linter.unusedVariables false
set_option maxRecDepth 100000
def B_law14_known  (H : Hp) (K : Value → Hp → Prop) : Prop :=
 hcall PR f_heap_New ⟨[(.int .i64 1), (.int .i64 64), (.int .i64 4), (.int .u64 0)]⟩ H fun v1 Hx2 =>
 tup2 v1 fun v3 v4 =>
 asP v3 fun t5 =>
 asI .i64 v4 fun t6 =>
 (bif ((t6 : Int) != 0) then
 K (.bool false) Hx2
else
 (bif (Option.isNone (α := Addr) t5) then
 K (.bool false) Hx2
else
 hcall PR f_heap_Heap_Make ⟨[(.pointer t5), (.int .i64 1), (.int .i64 0)]⟩ Hx2 fun v7 Hx8 =>
 tup2 v7 fun v9 v10 =>
 asI .u64 v9 fun t11 =>
 asI .i64 v10 fun t12 =>
 hcall PR f_heap_Heap_SetRef ⟨[(.pointer t5), (.int .u64 1), (.int .i64 0), (.agg #[(.int .i64 2), (.int .u64 7)])]⟩ Hx8 fun v13 Hx14 =>
 tup2 v13 fun v15 v16 =>
 agg2 v15 fun v17 v18 =>
 asI .i64 v17 fun Node19 =>
 asI .u64 v18 fun Serial20 =>
 asI .i64 v16 fun t21 =>
 hcall PR f_heap_Heap_SetIn ⟨[(.pointer t5), (.int .u64 1), (.int .i64 5)]⟩ Hx14 fun v22 Hx23 =>
 asI .i64 v22 fun t24 =>
 hcall PR f_paint_New ⟨[(.pointer t5), (.int .i64 2)]⟩ Hx23 fun v25 Hx26 =>
 tup2 v25 fun v27 v28 =>
 asP v27 fun t29 =>
 asI .i64 v28 fun t30 =>
 hcall PR f_reach_New ⟨[(.pointer t5), (.pointer t29)]⟩ Hx26 fun v31 Hx32 =>
 tup2 v31 fun v33 v34 =>
 asP v33 fun t35 =>
 asI .i64 v34 fun t36 =>
 (bif ((t30 : Int) != 0) then
 K (.bool false) Hx32
else
 (bif ((t36 : Int) != 0) then
 K (.bool false) Hx32
else
 (bif (Option.isNone (α := Addr) t29) then
 K (.bool false) Hx32
else
 (bif (Option.isNone (α := Addr) t35) then
 K (.bool false) Hx32
else
 hcall PR f_paint_Paint_Shade ⟨[(.pointer t29), (.agg #[(.int .i64 1), (.int .u64 1)]), (.int .i64 5)]⟩ Hx32 fun v37 Hx38 =>
 hcall PR f_paint_Paint_Scan ⟨[(.pointer t29), (.int .u64 1)]⟩ Hx38 fun v39 Hx40 =>
 asB v39 fun t41 =>
 hcall PR f_reach_Reacher_Begin ⟨[(.pointer t35), (.int .i64 3)]⟩ Hx40 fun v42 Hx43 =>
 ∃ (I44 : Int → Hp → Prop) (m45 : Int → Hp → Nat), I44 0 Hx43 ∧ ∀ i47 : Int, ∀ Hx46 : Hp, I44 i47 Hx46 →
 (bif (decide ((i47 : Int) < 5)) then
 hcall PR f_reach_Reacher_Step ⟨[(.pointer t35)]⟩ Hx46 fun v48 Hx49 =>
 asB v48 fun t50 =>
 I44 (IntKind.i64.wrap (i47 + 1)) Hx49 ∧ m45 (IntKind.i64.wrap (i47 + 1)) Hx49 < m45 i47 Hx46
else
 hcall PR f_reach_Reacher_Rows ⟨[(.pointer t35)]⟩ Hx46 fun v51 Hx52 =>
 asSl v51 fun tP53 tL54 tC55 =>
 (bif (((tL54 : Int) : Int) == 1) then
 idxA tP53 tL54 0 2 fun el56 =>
 ldI .u64 el56 Hx52 fun In57 =>
 (bif ((In57 : Int) == 1) then
 idxA tP53 tL54 0 2 fun el58 =>
 ldSl (el58.add 1) Hx52 fun OutsP59 OutsL60 OutsC61 =>
 (bif (((OutsL60 : Int) : Int) == 1) then
 idxA tP53 tL54 0 2 fun el62 =>
 ldSl (el62.add 1) Hx52 fun OutsP63 OutsL64 OutsC65 =>
 idxA OutsP63 OutsL64 0 2 fun el66 =>
 ldI .i64 el66 Hx52 fun Node67 =>
 ldI .u64 (el66.add 1) Hx52 fun Serial68 =>
 evR PR (aggEq .eql ty_api_ID #[(.int .i64 Node67), (.int .u64 Serial68)] #[(.int .i64 2), (.int .u64 7)]) Hx52 fun v69 =>
 asB v69 fun eq70 =>
 (bif eq70 then
 hcall PR f_reach_Reacher_Step ⟨[(.pointer t35)]⟩ Hx52 fun v71 Hx72 =>
 asB v71 fun t73 =>
 K (.bool (!t73)) Hx72
else
 K (.bool false) Hx52)
else
 K (.bool false) Hx52)
else
 K (.bool false) Hx52)
else
 K (.bool false) Hx52))))))))
theorem E_law14_known  (H : Hp) (K : Value → Hp → Prop) : B_law14_known  H K = denF Try.prog Try.f80 (.seq none .n (.seq none .n (.seq none .n (.seq none .n (.seq none .n (.seq none .n (.seq none .n (.seq none .n (.seq none .n (.seq none .n (.seq none .n (.seq none .n (.seq none (.seq none .n (.sub (.loop ⟨[(7, .int .i64)], [5]⟩ .n))) .n))))))))))))) [] H K := by kernel_rfl
theorem den_law14_known  {H : Hp} {K : Value → Hp → Prop} (h : B_law14_known  H K) : hcall PR f_law14_known ⟨[]⟩ H K := denF_call Try.func80 PR_mixed (Eq.mp (E_law14_known  H K) h)

def B_law14_painted (h1 : Option Addr) (r2 : Option Addr) (lP3 : Option Addr) (lL4 : Nat) (lC5 : Nat) (H : Hp) (K : Value → Hp → Prop) : Prop :=
 hcall PR f_paint_New ⟨[(.pointer h1), (.int .i64 4)]⟩ H fun v6 Hx7 =>
 tup2 v6 fun v8 v9 =>
 asP v8 fun t10 =>
 asI .i64 v9 fun t11 =>
 (bif ((t11 : Int) != 0) then
 K (.tuple #[(.pointer none), (.pointer none)]) Hx7
else
 (bif (Option.isNone (α := Addr) t10) then
 K (.tuple #[(.pointer none), (.pointer none)]) Hx7
else
 hcall PR f_ref11_NewPaint ⟨[(.pointer r2), (.int .i64 4)]⟩ Hx7 fun v12 Hx13 =>
 asP v12 fun t14 =>
 ∃ (I15 : Int → Hp → Prop) (m16 : Int → Hp → Nat), I15 0 Hx13 ∧ ∀ i18 : Int, ∀ Hx17 : Hp, I15 i18 Hx17 →
 (bif (decide ((i18 : Int) < (lL4 : Int))) then
 (bif (decide ((i18 : Int) < 100)) then
 ∀ R19 : Hp → Prop, (∀ Hx20 : Hp, (
 I15 (IntKind.i64.wrap (i18 + 1)) Hx20 ∧ m16 (IntKind.i64.wrap (i18 + 1)) Hx20 < m16 i18 Hx17) → R19 Hx20) →
 idxA lP3 lL4 i18 5 fun el21 =>
 ldI .u64 el21 Hx17 fun Serial22 =>
 nilP r2 fun ra23 =>
 ldI .u64 (ra23.add 2) Hx17 fun Last24 =>
 ((IntKind.u64.wrap (Last24 + 1)) : Int) ≠ 0 ∧
 idxA lP3 lL4 i18 5 fun el25 =>
 ldI .i64 (el25.add 1) Hx17 fun Rank26 =>
 hcall PR f_paint_Paint_Shade ⟨[(.pointer t10), (.agg #[(.int .i64 1), (.int .u64 (Int.tmod Serial22 (IntKind.u64.wrap (Last24 + 1))))]), (.int .i64 Rank26)]⟩ Hx17 fun v27 Hx28 =>
 idxA lP3 lL4 i18 5 fun el29 =>
 ldI .i64 (el29.add 1) Hx28 fun Rank30 =>
 hcall PR f_ref11_Paint_Shade ⟨[(.pointer t14), (.agg #[(.int .i64 1), (.int .u64 (Int.tmod Serial22 (IntKind.u64.wrap (Last24 + 1))))]), (.int .i64 Rank30)]⟩ Hx28 fun v31 Hx32 =>
 idxA lP3 lL4 i18 5 fun el33 =>
 ldI .i64 (el33.add 2) Hx32 fun Node34 =>
 ldI .u64 ((el33.add 2).add 1) Hx32 fun Serial35 =>
 idxA lP3 lL4 i18 5 fun el36 =>
 ldI .i64 (el36.add 1) Hx32 fun Rank37 =>
 hcall PR f_paint_Paint_Shade ⟨[(.pointer t10), (.agg #[(.int .i64 Node34), (.int .u64 Serial35)]), (.int .i64 Rank37)]⟩ Hx32 fun v38 Hx39 =>
 idxA lP3 lL4 i18 5 fun el40 =>
 ldI .i64 (el40.add 2) Hx39 fun Node41 =>
 ldI .u64 ((el40.add 2).add 1) Hx39 fun Serial42 =>
 idxA lP3 lL4 i18 5 fun el43 =>
 ldI .i64 (el43.add 1) Hx39 fun Rank44 =>
 hcall PR f_ref11_Paint_Shade ⟨[(.pointer t14), (.agg #[(.int .i64 Node41), (.int .u64 Serial42)]), (.int .i64 Rank44)]⟩ Hx39 fun v45 Hx46 =>
 idxA lP3 lL4 i18 5 fun el47 =>
 ldB (el47.add 4) Hx46 fun Scan48 =>
 (bif Scan48 then
 hcall PR f_paint_Paint_Scan ⟨[(.pointer t10), (.int .u64 (Int.tmod Serial22 (IntKind.u64.wrap (Last24 + 1))))]⟩ Hx46 fun v49 Hx50 =>
 asB v49 fun t51 =>
 hcall PR f_ref11_Paint_Scan ⟨[(.pointer t14), (.int .u64 (Int.tmod Serial22 (IntKind.u64.wrap (Last24 + 1))))]⟩ Hx50 fun v52 Hx53 =>
 asB v52 fun t54 =>
 R19 Hx53
else
 R19 Hx46)
else
 K (.tuple #[(.pointer t10), (.pointer t14)]) Hx17)
else
 K (.tuple #[(.pointer t10), (.pointer t14)]) Hx17)))
theorem E_law14_painted (h1 : Option Addr) (r2 : Option Addr) (lP3 : Option Addr) (lL4 : Nat) (lC5 : Nat) (H : Hp) (K : Value → Hp → Prop) : B_law14_painted h1 r2 lP3 lL4 lC5 H K = denF Try.prog Try.f84 (.seq none .n (.seq none .n (.seq none .n (.seq none .n (.seq none (.seq none .n (.sub (.loop ⟨[(11, .int .i64)], [1, 2, 8, 10]⟩ (.seq none .n (.seq (some ⟨[], [1, 2, 8, 10, 11]⟩) .n .n))))) .n))))) [(.pointer h1), (.pointer r2), (.slice lP3 lL4 lC5)] H K := by kernel_rfl
theorem den_law14_painted {h1 : Option Addr} {r2 : Option Addr} {lP3 : Option Addr} {lL4 : Nat} {lC5 : Nat} {H : Hp} {K : Value → Hp → Prop} (h : B_law14_painted h1 r2 lP3 lL4 lC5 H K) : hcall PR f_law14_painted ⟨[(.pointer h1), (.pointer r2), (.slice lP3 lL4 lC5)]⟩ H K := denF_call Try.func84 PR_mixed (Eq.mp (E_law14_painted h1 r2 lP3 lL4 lC5 H K) h)

end Go.Proofs.Ytohlnmenghbgbaa

namespace Go.Proofs.Ytohlnmenghbgbaa
open Go
set_option linter.unusedVariables false
set_option maxRecDepth 100000
end Go.Proofs.Ytohlnmenghbgbaa

namespace Go.Proofs.Ytohlnmenghbgbaa
open Go
set_option linter.unusedVariables false
set_option maxRecDepth 100000
end Go.Proofs.Ytohlnmenghbgbaa

namespace Go.Proofs.Ytohlnmenghbgbaa
set_option linter.unusedSimpArgs false
set_option linter.unusedVariables false
open Go
/-- One object, held with distance 5, that leads to another node's. -/
theorem known14_heap {s : Hs} {c1 : Int} (ho : s.ok) (hobs : s.obs = [⟨1, c1, [⟨2, 7⟩], [], 5⟩]) (hn : s.node = 1) (p : Ps) (hp : p = ⟨[(1, (5, false))], [(⟨2, 7⟩, 5)], [1], 2, false, 0⟩) :
    (pScan s (pShade s (newPs 2) ⟨1, 1⟩ 5) 1).2 = p ∧ rcStep s p (rcNew 3) = (true, ⟨3, 1, some ⟨1, [1], [1], []⟩, []⟩) ∧ rcStep s p ⟨3, 1, some ⟨1, [1], [1], []⟩, []⟩ = (true, ⟨3, 1, some ⟨1, [1], [], [(⟨2, 7⟩, 1)]⟩, []⟩) ∧
    rcStep s p ⟨3, 1, some ⟨1, [1], [], [(⟨2, 7⟩, 1)]⟩, []⟩ = (true, ⟨3, 1, none, [(1, [⟨2, 7⟩])]⟩) ∧ rcStep s p ⟨3, 1, none, [(1, [⟨2, 7⟩])]⟩ = (false, ⟨3, 1, none, [(1, [⟨2, 7⟩])]⟩) := by
  have g1 : hGet s 1 = some ⟨1, c1, [⟨2, 7⟩], [], 5⟩ := by unfold hGet; rw [hobs]; rfl
  have h1 : ¬ hGet s 1 = none := by rw [g1]; simp
  have n0 : hNext s 0 = (1, true) := by unfold hNext; rw [hobs]; rfl
  have n1 : hNext s 1 = (0, false) := by unfold hNext; rw [hobs]; rfl
  have own : rcOwn s p 3 1 = true := by
    rw [rcOwn_iff]
    exact ⟨h1, 5, false, by rw [hp]; rfl, by decide⟩
  have met : pMet p ⟨2, 7⟩ = (5, true) := by rw [hp]; rfl
  refine ⟨?_, ?_, ?_, ?_, ?_⟩
  · have e1 : pShade s (newPs 2) ⟨1, 1⟩ 5 = ⟨[(1, (5, true))], [], [1], 2, false, 0⟩ := by
      unfold pShade
      rw [if_neg (by decide), if_neg (by rw [hn]; simp), if_neg h1]
      rfl
    rw [e1]
    unfold pScan
    rw [g1, show mlook (⟨[(1, (5, true))], [], [1], 2, false, 0⟩ : Ps).marks 1 = some (5, true) from rfl]
    simp only [pShades, List.foldl_cons, List.foldl_nil]
    unfold pShade
    rw [if_neg (by decide), if_pos (by rw [hn]; decide), hp]
    rfl
  · unfold rcStep rcNew rcNext
    simp only [n0, g1, own]
    rw [if_neg (by decide), if_pos ⟨by decide, trivial⟩]
    rfl
  · unfold rcStep
    simp only [List.getLast?_singleton]
    unfold rcFollow rcRefs rcSees
    rw [g1]
    simp only [List.foldl_cons, List.foldl_nil, List.dropLast_singleton]
    unfold rcSee
    rw [if_neg (by rw [hn]; decide), met, if_pos ⟨rfl, by decide⟩]
    rfl
  · unfold rcStep rcNext
    simp only [List.getLast?_nil, n1]
    rfl
  · unfold rcStep rcNext
    simp only [n1]
    rfl

theorem known14_ok {H0 H : Hp} {L : List Prt} {K : Value → Hp → Prop} (h : St H0 L H) (hK : ∀ H', St H0 L H' → K (.bool true) H') : hcall PR f_law14_known ⟨[]⟩ H K := by
  apply den_law14_known
  unfold B_law14_known
  refine hNewOk (m := 4) (by decide) (by decide) (by decide) (by decide) (by decide) h fun hb H1 h1 => ?_
  simp only [asI_mk', asB_mk, asP_mk, asA_mk, asM_mk, asSl_mk, asStr_mk, tup2_mk, tup3_mk, agg1_mk, agg2_mk, agg3_mk, agg4_mk, asAggm, unCons_mk, unNil_mk, asTup_mk, extractD0, extractD1, List.toList_toArray, nilP_mk, add_mk, Nat.zero_add, Nat.add_zero, condT, condF, Bool.not_true, Bool.not_false, Option.isNone_some, Option.isNone_none]
  refine bif_neqf rfl ?_
  obtain ⟨s1, c1, a0, a1, a2, a3, a4, a5, a6⟩ := hMake_good' (s := newHs 1 4 0 4) (r := 1) (v := 0) (heap_ok h1 (i := 0) rfl) (by omega) (by omega) (by decide) (by decide) (by show 0 < frees (List.replicate 4 noBlk); rw [frees_new]; omega)
  refine hMakeC h1 (i := 0) rfl (by decide) (by decide) fun H2 h2 => ?_
  rw [a0] at h2 ⊢
  have h2 : St H0 (HeapP hb s1 :: L) H2 := h2
  simp only [asI_mk', asB_mk, asP_mk, asA_mk, asM_mk, asSl_mk, asStr_mk, tup2_mk, tup3_mk, agg1_mk, agg2_mk, agg3_mk, agg4_mk, asAggm, unCons_mk, unNil_mk, asTup_mk, extractD0, extractD1, List.toList_toArray, nilP_mk, add_mk, Nat.zero_add, Nat.add_zero, condT, condF, Bool.not_true, Bool.not_false, Option.isNone_some, Option.isNone_none]
  have a3 : s1.node = 1 := a3
  have a4 : s1.obs = [⟨1, c1, [noId], [], 0⟩] := a4
  refine hSetRefC (y := ⟨2, 7⟩) h2 (i := 0) rfl fun H4 h4 => ?_
  simp only [asI_mk', asB_mk, asP_mk, asA_mk, asM_mk, asSl_mk, asStr_mk, tup2_mk, tup3_mk, agg1_mk, agg2_mk, agg3_mk, agg4_mk, asAggm, unCons_mk, unNil_mk, asTup_mk, extractD0, extractD1, List.toList_toArray, nilP_mk, add_mk, Nat.zero_add, Nat.add_zero, condT, condF, Bool.not_true, Bool.not_false, Option.isNone_some, Option.isNone_none]
  have d1 : (hSetRef s1 1 0 ⟨2, 7⟩).2.2 = { s1 with obs := [⟨1, c1, [⟨2, 7⟩], [], 0⟩] } := by
    have g1 : hGet s1 1 = some ⟨1, c1, [noId], [], 0⟩ := by unfold hGet; rw [a4]; rfl
    have hr : (hRef s1 1 0).2 = 0 := by unfold hRef; rw [g1]; rfl
    unfold hSetRef
    rw [if_neg (by decide), if_pos hr]
    unfold hPut
    rw [a4]
    rfl
  rw [d1] at h4
  have h4 : St H0 (HeapP hb { s1 with obs := [⟨1, c1, [⟨2, 7⟩], [], 0⟩] } :: L) H4 := h4
  refine hSetInC h4 (i := 0) rfl fun H5 h5 => ?_
  simp only [asI_mk', asB_mk, asP_mk, asA_mk, asM_mk, asSl_mk, asStr_mk, tup2_mk, tup3_mk, agg1_mk, agg2_mk, agg3_mk, agg4_mk, asAggm, unCons_mk, unNil_mk, asTup_mk, extractD0, extractD1, List.toList_toArray, nilP_mk, add_mk, Nat.zero_add, Nat.add_zero, condT, condF, Bool.not_true, Bool.not_false, Option.isNone_some, Option.isNone_none]
  have d2 : (hSetIn { s1 with obs := [⟨1, c1, [⟨2, 7⟩], [], 0⟩] } 1 5).2 = { s1 with obs := [⟨1, c1, [⟨2, 7⟩], [], 5⟩] } := rfl
  rw [d2] at h5
  have h5 : St H0 (HeapP hb { s1 with obs := [⟨1, c1, [⟨2, 7⟩], [], 5⟩] } :: L) H5 := h5
  obtain ⟨k1, k2, k3, k4, k5⟩ := known14_heap (s := { s1 with obs := [⟨1, c1, [⟨2, 7⟩], [], 5⟩] }) (heap_ok h5 (i := 0) rfl) rfl a3 _ rfl
  generalize ({ s1 with obs := [⟨1, c1, [⟨2, 7⟩], [], 5⟩] } : Hs) = s at *
  refine pNewOk h5 (by omega) (by omega) fun pb H6 h6 => ?_
  simp only [asI_mk', asB_mk, asP_mk, asA_mk, asM_mk, asSl_mk, asStr_mk, tup2_mk, tup3_mk, agg1_mk, agg2_mk, agg3_mk, agg4_mk, asAggm, unCons_mk, unNil_mk, asTup_mk, extractD0, extractD1, List.toList_toArray, nilP_mk, add_mk, Nat.zero_add, Nat.add_zero, condT, condF, Bool.not_true, Bool.not_false, Option.isNone_some, Option.isNone_none]
  refine rcNewC (hb := hb) (pb := pb) h6 fun rc H7 h7 => ?_
  simp only [asI_mk', asB_mk, asP_mk, asA_mk, asM_mk, asSl_mk, asStr_mk, tup2_mk, tup3_mk, agg1_mk, agg2_mk, agg3_mk, agg4_mk, asAggm, unCons_mk, unNil_mk, asTup_mk, extractD0, extractD1, List.toList_toArray, nilP_mk, add_mk, Nat.zero_add, Nat.add_zero, condT, condF, Bool.not_true, Bool.not_false, Option.isNone_some, Option.isNone_none]
  refine bif_neqf rfl (bif_neqf rfl ?_)
  refine pShadeC (y := ⟨1, 1⟩) h7 (i := 2) (j := 1) rfl rfl (by decide) fun H8 h8 => ?_
  refine pScanC h8 (i := 2) (j := 1) rfl rfl (by decide) fun H9 h9 => ?_
  rw [k1] at h9
  simp only [asI_mk', asB_mk, asP_mk, asA_mk, asM_mk, asSl_mk, asStr_mk, tup2_mk, tup3_mk, agg1_mk, agg2_mk, agg3_mk, agg4_mk, asAggm, unCons_mk, unNil_mk, asTup_mk, extractD0, extractD1, List.toList_toArray, nilP_mk, add_mk, Nat.zero_add, Nat.add_zero, condT, condF, Bool.not_true, Bool.not_false, Option.isNone_some, Option.isNone_none]
  refine rcBeginC h9 (k := 0) rfl fun H10 h10 => ?_
  generalize (⟨[(1, (5, false))], [(⟨2, 7⟩, 5)], [1], 2, false, 0⟩ : Ps) = p at *
  have h10 : St H0 (RcP rc hb pb (rcNew 3) :: PaintP pb hb p :: HeapP hb s :: L) H10 := h10
  let cs : Nat → Rc := fun i => match i with
    | 0 => rcNew 3
    | 1 => ⟨3, 1, some ⟨1, [1], [1], []⟩, []⟩
    | 2 => ⟨3, 1, some ⟨1, [1], [], [(⟨2, 7⟩, 1)]⟩, []⟩
    | _ => ⟨3, 1, none, [(1, [⟨2, 7⟩])]⟩
  have hcs : ∀ i, (rcStep s p (cs i)).2 = cs (i + 1) := fun i => by
    match i with
    | 0 => show (rcStep s p (rcNew 3)).2 = _; rw [k2]; rfl
    | 1 => show (rcStep s p ⟨3, 1, some ⟨1, [1], [1], []⟩, []⟩).2 = _; rw [k3]; rfl
    | 2 => show (rcStep s p ⟨3, 1, some ⟨1, [1], [], [(⟨2, 7⟩, 1)]⟩, []⟩).2 = _; rw [k4]; rfl
    | i + 3 => show (rcStep s p ⟨3, 1, none, [(1, [⟨2, 7⟩])]⟩).2 = _; rw [k5]; rfl
  have hlt : ∀ i, (cs i).lt 800000 := fun i => by
    match i with
    | 0 => exact rcNew_lt.mono (by omega)
    | 1 => exact ⟨fun w hw => by cases hw; exact ⟨by simp, by simp, by simp⟩, by simp [cs], fun r hr => by simp [cs] at hr⟩
    | 2 => exact ⟨fun w hw => by cases hw; exact ⟨by simp, by simp, by simp⟩, by simp [cs], fun r hr => by simp [cs] at hr⟩
    | i + 3 => exact ⟨fun w hw => (by cases hw), by simp [cs], fun r hr => by simp [cs] at hr; subst hr; simp⟩
  refine ⟨fun i H' => ∃ y : Nat, i = y ∧ y ≤ 5 ∧ St H0 (RcP rc hb pb (cs y) :: PaintP pb hb p :: HeapP hb s :: L) H', fun i _ => (5 - i).toNat, ⟨0, rfl, by omega, h10⟩, ?_⟩
  rintro i H11 ⟨y, rfl, hy, h11⟩
  by_cases hc : (y : Int) < 5
  · refine bif_pos hc (rcStepC h11 (i := 2) (j := 1) (k := 0) rfl rfl rfl (by decide) (by decide) (by decide) (hlt y) fun H12 h12 => ?_)
    rw [hcs] at h12
    simp only [asI_mk', asB_mk, asP_mk, asA_mk, asM_mk, asSl_mk, asStr_mk, tup2_mk, tup3_mk, agg1_mk, agg2_mk, agg3_mk, agg4_mk, asAggm, unCons_mk, unNil_mk, asTup_mk, extractD0, extractD1, List.toList_toArray, nilP_mk, add_mk, Nat.zero_add, Nat.add_zero, condT, condF, Bool.not_true, Bool.not_false, Option.isNone_some, Option.isNone_none]
    rw [wrap_i64 (by omega) (by omega)]
    exact ⟨⟨y + 1, by omega, by omega, h12⟩, by (try dsimp only); omega⟩
  obtain rfl : y = 5 := by omega
  refine bif_neg hc (rcRowsC h11 (k := 0) rfl ((hlt 5).mono (by omega)) fun q n H12 h12 => ?_)
  have h12 : St H0 (RowsP q n [(1, [⟨2, 7⟩])] :: RcP rc hb pb ⟨3, 1, none, [(1, [⟨2, 7⟩])]⟩ :: PaintP pb hb p :: HeapP hb s :: L) H12 := h12
  show asSl (.slice q [((1 : Int), [(⟨2, 7⟩ : Id)])].length n) _
  simp only [asI_mk', asB_mk, asP_mk, asA_mk, asM_mk, asSl_mk, asStr_mk, tup2_mk, tup3_mk, agg1_mk, agg2_mk, agg3_mk, agg4_mk, asAggm, unCons_mk, unNil_mk, asTup_mk, extractD0, extractD1, List.toList_toArray, nilP_mk, add_mk, Nat.zero_add, Nat.add_zero, condT, condF, Bool.not_true, Bool.not_false, Option.isNone_some, Option.isNone_none]
  refine bif_eq rfl ?_
  obtain ⟨qs, v⟩ := rowsV h12 (i := 0) rfl
  obtain ⟨r, rfl⟩ : ∃ r, qs = [r] := by
    have := v.len
    match qs, this with
    | [r], _ => exact ⟨r, rfl⟩
  have hr1 : r.1 = (1, [⟨2, 7⟩]) := by
    have := v.1
    simpa using this
  have at0 : ∀ Q : Addr → Prop, (∀ a, hcell H12 a = some (.int .u64 1) → hcell H12 (a.add 1) = some (.slice r.2.1 1 r.2.2) → Q a) → idxA q 1 0 2 Q := fun Q hQ => by
    refine idxS rcRowC_len ((0, []), (none, 0)) v.2.1 (by omega) (by omega) (by simp) fun b o hp hl hcs => hQ _ ?_ ?_
    · have := hcs 0 (by omega)
      simp only [Int.toNat_zero, List.getD_cons_zero, rcRowC, hr1] at this
      exact this
    · have := hcs 1 (by omega)
      simp only [Int.toNat_zero, List.getD_cons_zero, rcRowC, hr1] at this
      exact this
  refine at0 _ fun a c0 c1 => ldI_of c0 (bif_eq rfl (at0 _ fun a c0 c1 => ldSl_of c1 (bif_eq rfl (at0 _ fun a c0 c1 => ldSl_of c1 ?_))))
  have hrd := v.2.2 r (by simp)
  rw [hr1] at hrd
  refine idxS Id.len noId hrd (by omega) (by omega) (by simp) fun b o hp hl hcs => ?_
  have d0 := hcs 0 (by omega)
  have d1 := hcs 1 (by omega)
  simp only [Int.toNat_zero, List.getD_cons_zero, Id.cells] at d0 d1
  refine ldI_of d0 (ldI_of d1 (idEq ?_))
  simp only [decide_true]
  simp only [asI_mk', asB_mk, asP_mk, asA_mk, asM_mk, asSl_mk, asStr_mk, tup2_mk, tup3_mk, agg1_mk, agg2_mk, agg3_mk, agg4_mk, asAggm, unCons_mk, unNil_mk, asTup_mk, extractD0, extractD1, List.toList_toArray, nilP_mk, add_mk, Nat.zero_add, Nat.add_zero, condT, condF, Bool.not_true, Bool.not_false, Option.isNone_some, Option.isNone_none]
  refine rcStepC h12 (i := 3) (j := 2) (k := 1) rfl rfl rfl (by decide) (by decide) (by decide) (hlt 5) fun H13 h13 => ?_
  rw [k5] at h13 ⊢
  simp only [asI_mk', asB_mk, asP_mk, asA_mk, asM_mk, asSl_mk, asStr_mk, tup2_mk, tup3_mk, agg1_mk, agg2_mk, agg3_mk, agg4_mk, asAggm, unCons_mk, unNil_mk, asTup_mk, extractD0, extractD1, List.toList_toArray, nilP_mk, add_mk, Nat.zero_add, Nat.add_zero, condT, condF, Bool.not_true, Bool.not_false, Option.isNone_some, Option.isNone_none]
  exact hK H13 (St.lesses (M := [_, _, _, _]) h13)

/-- What is met is another node's. -/
def Ps.far (s : Hs) (p : Ps) : Prop := ∀ e ∈ p.met, e.1.n ≠ s.node
theorem Ps.far.shade {s : Hs} {p : Ps} {x : Id} {r : Int} (h : p.far s) : (pShade s p x r).far s := by
  intro e he
  rcases shade_met (s := s) (p := p) (x := x) (r := r) with hm | ⟨_, hn, hm, _⟩
  · rw [hm] at he; exact h e he
  · rw [hm] at he
    rcases mput_mem he with rfl | he
    · exact hn
    · exact h e he
theorem Ps.far.shades {s : Hs} {p : Ps} {l : List Id} {r : Int} (h : p.far s) : (pShades s p l r).far s := by
  unfold pShades
  induction l generalizing p with
  | nil => exact h
  | cons y l ih => exact ih h.shade
theorem Ps.far.scan {s : Hs} {p : Ps} {k : Int} (h : p.far s) : (pScan s p k).2.far s := by
  unfold pScan
  split
  · exact Ps.far.shades (p := { p with marks := _ }) h
  · exact h

set_option maxRecDepth 20000 in
theorem paintedC {H0 H : Hp} {L : List Prt} {i j hb rb : Nat} {s : Hs} {lP : Option Addr} {lL lC : Nat} {l : List E_law14_Way} {K : Value → Hp → Prop} (h : St H0 L H) (hi : L[i]? = some (HeapP hb s)) (hj : L[j]? = some (RHeap rb s)) (hlast : s.last ≤ 1000)
    (hr : Rd H0 5 lP lL (cel E_law14_Way.cells l)) (hl : lL ≤ 9223372036854775807) (hok : ∀ x ∈ l, x.ok) (hK : ∀ pb qb p H', p.lt 1000 → p.far s → St H0 (RPaint qb rb p :: PaintP pb hb p :: L) H' → K (.tuple #[.pointer (some ⟨pb, 0, none⟩), .pointer (some ⟨qb, 0, none⟩)]) H') :
    hcall PR f_law14_painted ⟨[.pointer (some ⟨hb, 0, none⟩), .pointer (some ⟨rb, 0, none⟩), .slice lP lL lC]⟩ H K := by
  apply den_law14_painted
  unfold B_law14_painted
  have ho := heap_ok h hi
  have hln := ho.last
  refine pNewOk h (by omega) (by omega) fun pb H1 h1 => ?_
  simp only [asI_mk', asB_mk, asP_mk, asA_mk, asM_mk, asSl_mk, asStr_mk, tup2_mk, tup3_mk, agg1_mk, agg2_mk, agg3_mk, agg4_mk, asAggm, unCons_mk, unNil_mk, asTup_mk, extractD0, extractD1, List.toList_toArray, nilP_mk, add_mk, Nat.zero_add, Nat.add_zero, condT, condF, Bool.not_true, Bool.not_false, Option.isNone_some, Option.isNone_none]
  refine bif_neqf rfl ?_
  refine rNewPaintC h1 (by omega) (by omega) fun qb H2 h2 => ?_
  simp only [asI_mk', asB_mk, asP_mk, asA_mk, asM_mk, asSl_mk, asStr_mk, tup2_mk, tup3_mk, agg1_mk, agg2_mk, agg3_mk, agg4_mk, asAggm, unCons_mk, unNil_mk, asTup_mk, extractD0, extractD1, List.toList_toArray, nilP_mk, add_mk, Nat.zero_add, Nat.add_zero, condT, condF, Bool.not_true, Bool.not_false, Option.isNone_some, Option.isNone_none]
  refine ⟨fun t H' => ∃ (y : Nat) (p : Ps), t = y ∧ y ≤ lL ∧ y ≤ 100 ∧ p.lt (9 * y) ∧ p.far s ∧ St H0 (RPaint qb rb p :: PaintP pb hb p :: L) H', fun t _ => ((lL : Int) - t).toNat, ⟨0, newPs 4, rfl, by omega, by omega, newPs_lt, fun e he => (by cases he), h2⟩, ?_⟩
  clear h2 h1
  rintro t H3 ⟨y, p, rfl, hy, hy2, hlt, hfar, h3⟩
  by_cases hc : (y : Int) < (lL : Int)
  rotate_left
  · exact bif_neg hc (hK pb qb p H3 (hlt.mono (by omega)) hfar h3)
  refine bif_pos hc ?_
  by_cases hc2 : (y : Int) < 100
  rotate_left
  · exact bif_neg hc2 (hK pb qb p H3 (hlt.mono (by omega)) hfar h3)
  refine bif_pos hc2 ?_
  clear hK
  intro R19 hR19
  have hR19 : ∀ p H', p.lt (9 * (y + 1)) → p.far s → St H0 (RPaint qb rb p :: PaintP pb hb p :: L) H' → R19 H' := fun p H' hlt hf h' => by
    refine hR19 H' ?_
    rw [wrap_i64 (by omega) (by omega)]
    exact ⟨⟨y + 1, p, by omega, by omega, by omega, hlt, hf, h'⟩, by (try dsimp only); omega⟩
  have rr := h3.rd hr
  refine idxS E_law14_Way.len ⟨0, 0, 0, 0, false⟩ rr (by omega) (by omega) hc fun b1 o1 hp hjl hcs => ?_
  have hat : ∀ (L' : List Prt) H' (q : Nat), St H0 L' H' → q < 5 → hcell H' ⟨b1, o1 + (y : Int).toNat * 5 + q, none⟩ = (E_law14_Way.cells (l.getD (y : Int).toNat ⟨0, 0, 0, 0, false⟩))[q]? := fun L' H' q h' hq =>
    (h'.rd hr).cel_at' E_law14_Way.len ⟨0, 0, 0, 0, false⟩ hp hjl hq
  have hidx : ∀ Q : Addr → Prop, Q ⟨b1, o1 + (y : Int).toNat * 5, none⟩ → idxA lP lL (y : Int) 5 Q := fun Q hQ => idxA_of rr (by omega) hc fun b' o' hp' _ => by
    obtain ⟨rfl, rfl⟩ : b1 = b' ∧ o1 = o' := by rw [hp] at hp'; simpa using hp'
    exact hQ
  have hx := hok _ (List.getElem_mem hjl)
  have hgd : l.getD (y : Int).toNat ⟨0, 0, 0, 0, false⟩ = l[(y : Int).toNat] := by rw [List.getD_eq_getElem?_getD, List.getElem?_eq_getElem hjl]; rfl
  rw [← hgd] at hx
  clear hgd
  generalize l.getD (y : Int).toNat ⟨0, 0, 0, 0, false⟩ = x at hx hcs hat
  have hi' : ∀ A B : Prt, (A :: B :: L)[i + 2]? = some (HeapP hb s) := fun A B => hi
  have hj' : ∀ A B : Prt, (A :: B :: L)[j + 2]? = some (RHeap rb s) := fun A B => hj
  refine ldI_of (hcs 0 (by omega)) ?_
  obtain ⟨y1, N1, g1, _, _⟩ := rheapOpenL (i := j + 2) h3 (hj' _ _) (.inl rfl)
  (try simp only [asI_mk', asB_mk, asP_mk, asA_mk, asM_mk, asSl_mk, asStr_mk, tup2_mk, tup3_mk, agg1_mk, agg2_mk, agg3_mk, agg4_mk, asAggm, unCons_mk, unNil_mk, asTup_mk, extractD0, extractD1, List.toList_toArray, nilP_mk, add_mk, Nat.zero_add, Nat.add_zero, condT, condF, Bool.not_true, Bool.not_false, Option.isNone_some, Option.isNone_none])
  refine ldI_of (rheapV g1).last ?_
  clear g1
  have w3 : IntKind.u64.wrap (s.last + 1) = s.last + 1 := wrap_u64' (by omega) (by omega)
  rw [w3]
  refine ⟨by omega, ?_⟩
  generalize Int.tmod x.Serial (s.last + 1) = k
  refine hidx _ ?_
  simp only [asI_mk', asB_mk, asP_mk, asA_mk, asM_mk, asSl_mk, asStr_mk, tup2_mk, tup3_mk, agg1_mk, agg2_mk, agg3_mk, agg4_mk, asAggm, unCons_mk, unNil_mk, asTup_mk, extractD0, extractD1, List.toList_toArray, nilP_mk, add_mk, Nat.zero_add, Nat.add_zero, condT, condF, Bool.not_true, Bool.not_false, Option.isNone_some, Option.isNone_none]
  refine ldI_of (hat _ H3 1 h3 (by omega)) ?_
  refine pShadeC (y := ⟨1, k⟩) h3 (i := i + 2) (j := 1) (hi' _ _) rfl (by omega) fun H4 h4 => hidx _ ?_
  simp only [asI_mk', asB_mk, asP_mk, asA_mk, asM_mk, asSl_mk, asStr_mk, tup2_mk, tup3_mk, agg1_mk, agg2_mk, agg3_mk, agg4_mk, asAggm, unCons_mk, unNil_mk, asTup_mk, extractD0, extractD1, List.toList_toArray, nilP_mk, add_mk, Nat.zero_add, Nat.add_zero, condT, condF, Bool.not_true, Bool.not_false, Option.isNone_some, Option.isNone_none]
  refine ldI_of (hat _ H4 1 h4 (by omega)) ?_
  refine rShadeC (y := ⟨1, k⟩) h4 (i := j + 2) (j := 0) (p := p) (hj' _ _) rfl (by omega) (hlt.mono (by omega)) fun H5 h5 => hidx _ ?_
  have h5 : St H0 (RPaint qb rb (pShade s p ⟨1, k⟩ x.Rank) :: PaintP pb hb (pShade s p ⟨1, k⟩ x.Rank) :: L) H5 := h5
  have hlt1 := hlt.shade (s := s) (x := ⟨1, k⟩) (r := x.Rank)
  have hfar1 := hfar.shade (x := ⟨1, k⟩) (r := x.Rank)
  generalize pShade s p ⟨1, k⟩ x.Rank = p1 at h5 hlt1 hfar1
  clear h4 h3
  simp only [asI_mk', asB_mk, asP_mk, asA_mk, asM_mk, asSl_mk, asStr_mk, tup2_mk, tup3_mk, agg1_mk, agg2_mk, agg3_mk, agg4_mk, asAggm, unCons_mk, unNil_mk, asTup_mk, extractD0, extractD1, List.toList_toArray, nilP_mk, add_mk, Nat.zero_add, Nat.add_zero, condT, condF, Bool.not_true, Bool.not_false, Option.isNone_some, Option.isNone_none]
  refine ldI_of (hat _ H5 2 h5 (by omega)) (ldI_of (by rw [Nat.add_assoc]; exact hat _ H5 3 h5 (by omega)) (hidx _ ?_))
  simp only [asI_mk', asB_mk, asP_mk, asA_mk, asM_mk, asSl_mk, asStr_mk, tup2_mk, tup3_mk, agg1_mk, agg2_mk, agg3_mk, agg4_mk, asAggm, unCons_mk, unNil_mk, asTup_mk, extractD0, extractD1, List.toList_toArray, nilP_mk, add_mk, Nat.zero_add, Nat.add_zero, condT, condF, Bool.not_true, Bool.not_false, Option.isNone_some, Option.isNone_none]
  refine ldI_of (hat _ H5 1 h5 (by omega)) ?_
  refine pShadeC (y := ⟨x.Out_Node, x.Out_Serial⟩) h5 (i := i + 2) (j := 1) (hi' _ _) rfl (by omega) fun H6 h6 => hidx _ ?_
  simp only [asI_mk', asB_mk, asP_mk, asA_mk, asM_mk, asSl_mk, asStr_mk, tup2_mk, tup3_mk, agg1_mk, agg2_mk, agg3_mk, agg4_mk, asAggm, unCons_mk, unNil_mk, asTup_mk, extractD0, extractD1, List.toList_toArray, nilP_mk, add_mk, Nat.zero_add, Nat.add_zero, condT, condF, Bool.not_true, Bool.not_false, Option.isNone_some, Option.isNone_none]
  refine ldI_of (hat _ H6 2 h6 (by omega)) (ldI_of (by rw [Nat.add_assoc]; exact hat _ H6 3 h6 (by omega)) (hidx _ ?_))
  simp only [asI_mk', asB_mk, asP_mk, asA_mk, asM_mk, asSl_mk, asStr_mk, tup2_mk, tup3_mk, agg1_mk, agg2_mk, agg3_mk, agg4_mk, asAggm, unCons_mk, unNil_mk, asTup_mk, extractD0, extractD1, List.toList_toArray, nilP_mk, add_mk, Nat.zero_add, Nat.add_zero, condT, condF, Bool.not_true, Bool.not_false, Option.isNone_some, Option.isNone_none]
  refine ldI_of (hat _ H6 1 h6 (by omega)) ?_
  refine rShadeC (y := ⟨x.Out_Node, x.Out_Serial⟩) h6 (i := j + 2) (j := 0) (p := p1) (hj' _ _) rfl (by omega) (hlt1.mono (by omega)) fun H7 h7 => hidx _ ?_
  have h7 : St H0 (RPaint qb rb (pShade s p1 ⟨x.Out_Node, x.Out_Serial⟩ x.Rank) :: PaintP pb hb (pShade s p1 ⟨x.Out_Node, x.Out_Serial⟩ x.Rank) :: L) H7 := h7
  have hlt2 := hlt1.shade (s := s) (x := ⟨x.Out_Node, x.Out_Serial⟩) (r := x.Rank)
  have hfar2 := hfar1.shade (x := ⟨x.Out_Node, x.Out_Serial⟩) (r := x.Rank)
  generalize pShade s p1 ⟨x.Out_Node, x.Out_Serial⟩ x.Rank = p2 at h7 hlt2 hfar2
  clear h6 h5
  simp only [asI_mk', asB_mk, asP_mk, asA_mk, asM_mk, asSl_mk, asStr_mk, tup2_mk, tup3_mk, agg1_mk, agg2_mk, agg3_mk, agg4_mk, asAggm, unCons_mk, unNil_mk, asTup_mk, extractD0, extractD1, List.toList_toArray, nilP_mk, add_mk, Nat.zero_add, Nat.add_zero, condT, condF, Bool.not_true, Bool.not_false, Option.isNone_some, Option.isNone_none]
  refine ldB_of (hat _ H7 4 h7 (by omega)) ?_
  cases x.Scan
  · simp only [condF]
    exact hR19 p2 H7 (hlt2.mono (by omega)) hfar2 h7
  · simp only [condT]
    refine pScanC h7 (i := i + 2) (j := 1) (hi' _ _) rfl (by omega) fun H8 h8 => ?_
    simp only [asI_mk', asB_mk, asP_mk, asA_mk, asM_mk, asSl_mk, asStr_mk, tup2_mk, tup3_mk, agg1_mk, agg2_mk, agg3_mk, agg4_mk, asAggm, unCons_mk, unNil_mk, asTup_mk, extractD0, extractD1, List.toList_toArray, nilP_mk, add_mk, Nat.zero_add, Nat.add_zero, condT, condF, Bool.not_true, Bool.not_false, Option.isNone_some, Option.isNone_none]
    refine rScanC h8 (i := j + 2) (j := 0) (p := p2) (hj' _ _) rfl (by omega) (hlt2.mono (by omega)) fun H9 h9 => ?_
    simp only [asI_mk', asB_mk, asP_mk, asA_mk, asM_mk, asSl_mk, asStr_mk, tup2_mk, tup3_mk, agg1_mk, agg2_mk, agg3_mk, agg4_mk, asAggm, unCons_mk, unNil_mk, asTup_mk, extractD0, extractD1, List.toList_toArray, nilP_mk, add_mk, Nat.zero_add, Nat.add_zero, condT, condF, Bool.not_true, Bool.not_false, Option.isNone_some, Option.isNone_none]
    exact hR19 _ H9 ((hlt2.scan ho).mono (by omega)) hfar2.scan h9

end Go.Proofs.Ytohlnmenghbgbaa

namespace Go.Proofs.Ytohlnmenghbgbaa
open Go
set_option linter.unusedVariables false
set_option maxRecDepth 100000
def B_law14_ReachAgain (gRefsP1 : Option Addr) (gRefsL2 : Nat) (gRefsC3 : Nat) (gOutP4 : Option Addr) (gOutL5 : Nat) (gOutC6 : Nat) (gInP7 : Option Addr) (gInL8 : Nat) (gInC9 : Nat) (lP10 : Option Addr) (lL11 : Nat) (lC12 : Nat) (x13 : Int) (y14 : Int) (H : Hp) (K : Value → Hp → Prop) : Prop :=
 newB (.cells #[(.slice gRefsP1 gRefsL2 gRefsC3), (.slice gOutP4 gOutL5 gOutC6), (.slice gInP7 gInL8 gInC9)] ty_hand_Graph) H fun b15 Hx16 =>
 ldSl ⟨b15, 0, none⟩ Hx16 fun RefsP17 RefsL18 RefsC19 =>
 ldSl ⟨b15, 1, none⟩ Hx16 fun OutP20 OutL21 OutC22 =>
 ldSl ⟨b15, 2, none⟩ Hx16 fun InP23 InL24 InC25 =>
 hcall PR f_hand_Graph_Heaps ⟨[(.agg #[(.slice RefsP17 RefsL18 RefsC19), (.slice OutP20 OutL21 OutC22), (.slice InP23 InL24 InC25)]), (.int .i64 25)]⟩ Hx16 fun v26 Hx27 =>
 tup2 v26 fun v28 v29 =>
 asP v28 fun t30 =>
 asP v29 fun t31 =>
 hcall PR f_law14_known ⟨[]⟩ Hx27 fun v32 Hx33 =>
 asB v32 fun t34 =>
 (bif (!t34) then
 K (.bool false) Hx33
else
 (bif (Option.isNone (α := Addr) t30) then
 K (.bool false) Hx33
else
 hcall PR f_law14_painted ⟨[(.pointer t30), (.pointer t31), (.slice lP10 lL11 lC12)]⟩ Hx33 fun v35 Hx36 =>
 tup2 v35 fun v37 v38 =>
 asP v37 fun t39 =>
 asP v38 fun t40 =>
 (bif (Option.isNone (α := Addr) t39) then
 K (.bool false) Hx36
else
 hcall PR f_reach_New ⟨[(.pointer t30), (.pointer t39)]⟩ Hx36 fun v41 Hx42 =>
 tup2 v41 fun v43 v44 =>
 asP v43 fun t45 =>
 asI .i64 v44 fun t46 =>
 (bif ((t46 : Int) != 0) then
 K (.bool false) Hx42
else
 (bif (Option.isNone (α := Addr) t45) then
 K (.bool false) Hx42
else
 hcall PR f_hand_Pick ⟨[(.int .i64 x13), (.int .i64 9)]⟩ Hx42 fun v47 Hx48 =>
 asI .i64 v47 fun t49 =>
 hcall PR f_hand_Pick ⟨[(.int .i64 y14), (.int .i64 9)]⟩ Hx48 fun v50 Hx51 =>
 asI .i64 v50 fun t52 =>
 newB (.cells #[(.slice none 0 0), (.slice none 0 0), (.slice none 0 0)] ty_3_Sapi_Reach) Hx51 fun b53 Hx54 =>
 newB (.cells #[(.int .i64 t49), (.int .i64 t49), (.int .i64 (IntKind.i64.wrap (t49 + t52)))] ty_int) Hx54 fun b55 Hx56 =>
 ∃ (I57 : Int → Hp → Prop) (m58 : Int → Hp → Nat), I57 0 Hx56 ∧ ∀ t60 : Int, ∀ Hx59 : Hp, I57 t60 Hx59 →
 (bif (decide ((t60 : Int) < (3 : Int))) then
 idxA (some ⟨b55, 0, none⟩) 3 t60 1 fun el61 =>
 ldI .i64 el61 Hx59 fun t62 =>
 hcall PR f_reach_Reacher_Begin ⟨[(.pointer t45), (.int .i64 t62)]⟩ Hx59 fun v63 Hx64 =>
 ∀ R65 : Hp → Prop, (∀ Hx66 : Hp, (
 hcall PR f_reach_Reacher_Rows ⟨[(.pointer t45)]⟩ Hx66 fun v67 Hx68 =>
 asSl v67 fun tP69 tL70 tC71 =>
 idxA (some ⟨b53, 0, none⟩) 3 t60 1 fun el72 =>
 st el72 (.slice tP69 tL70 tC71) Hx68 fun Hx73 =>
 I57 (IntKind.i64.wrap (t60 + 1)) Hx73 ∧ m58 (IntKind.i64.wrap (t60 + 1)) Hx73 < m58 t60 Hx59) → R65 Hx66) →
 ∃ (I74 : Int → Hp → Prop) (m75 : Int → Hp → Nat), I74 0 Hx64 ∧ ∀ k77 : Int, ∀ Hx76 : Hp, I74 k77 Hx76 →
 (bif (decide ((k77 : Int) < 2000)) then
 hcall PR f_reach_Reacher_Step ⟨[(.pointer t45)]⟩ Hx76 fun v78 Hx79 =>
 asB v78 fun t80 =>
 (bif t80 then
 I74 (IntKind.i64.wrap (k77 + 1)) Hx79 ∧ m75 (IntKind.i64.wrap (k77 + 1)) Hx79 < m75 k77 Hx76
else
 R65 Hx79)
else
 R65 Hx76)
else
 ∃ (I81 : Int → Int → Hp → Prop) (m82 : Int → Int → Hp → Nat), I81 0 0 Hx59 ∧ ∀ atx84 : Int, ∀ i85 : Int, ∀ Hx83 : Hp, I81 atx84 i85 Hx83 →
 idxA (some ⟨b53, 0, none⟩) 3 2 1 fun el86 =>
 ldSl el86 Hx83 fun tP87 tL88 tC89 =>
 (bif (decide ((i85 : Int) < (tL88 : Int))) then
 ∀ R90 : Int → Hp → Prop, (∀ atx92 : Int, ∀ Hx91 : Hp, (
 idxA (some ⟨b53, 0, none⟩) 3 0 1 fun el93 =>
 ldSl el93 Hx91 fun tP94 tL95 tC96 =>
 (bif (decide ((atx92 : Int) ≥ (tL95 : Int))) then
 K (.bool false) Hx91
else
 idxA (some ⟨b53, 0, none⟩) 3 2 1 fun el97 =>
 ldSl el97 Hx91 fun tP98 tL99 tC100 =>
 idxA tP98 tL99 i85 2 fun el101 =>
 ldSl (el101.add 1) Hx91 fun OutsP102 OutsL103 OutsC104 =>
 idxA (some ⟨b53, 0, none⟩) 3 0 1 fun el105 =>
 ldSl el105 Hx91 fun tP106 tL107 tC108 =>
 idxA tP106 tL107 atx92 2 fun el109 =>
 ldSl (el109.add 1) Hx91 fun OutsP110 OutsL111 OutsC112 =>
 (bif (decide (((OutsL103 : Int) : Int) > (OutsL111 : Int))) then
 K (.bool false) Hx91
else
 I81 atx92 (IntKind.i64.wrap (i85 + 1)) Hx91 ∧ m82 atx92 (IntKind.i64.wrap (i85 + 1)) Hx91 < m82 atx84 i85 Hx83))) → R90 atx92 Hx91) →
 ∃ (I113 : Int → Hp → Prop) (m114 : Int → Hp → Nat), I113 atx84 Hx83 ∧ ∀ atx116 : Int, ∀ Hx115 : Hp, I113 atx116 Hx115 →
 idxA (some ⟨b53, 0, none⟩) 3 0 1 fun el117 =>
 ldSl el117 Hx115 fun tP118 tL119 tC120 =>
 (bif (decide ((atx116 : Int) < (tL119 : Int))) then
 idxA (some ⟨b53, 0, none⟩) 3 0 1 fun el121 =>
 ldSl el121 Hx115 fun tP122 tL123 tC124 =>
 idxA tP122 tL123 atx116 2 fun el125 =>
 ldI .u64 el125 Hx115 fun In126 =>
 idxA (some ⟨b53, 0, none⟩) 3 2 1 fun el127 =>
 ldSl el127 Hx115 fun tP128 tL129 tC130 =>
 idxA tP128 tL129 i85 2 fun el131 =>
 ldI .u64 el131 Hx115 fun In132 =>
 (bif ((In126 : Int) != In132) then
 I113 (IntKind.i64.wrap (atx116 + 1)) Hx115 ∧ m114 (IntKind.i64.wrap (atx116 + 1)) Hx115 < m114 atx116 Hx115
else
 R90 atx116 Hx115)
else
 R90 atx116 Hx115)
else
 idxA (some ⟨b53, 0, none⟩) 3 0 1 fun el133 =>
 ldSl el133 Hx83 fun tP134 tL135 tC136 =>
 idxA (some ⟨b53, 0, none⟩) 3 1 1 fun el137 =>
 ldSl el137 Hx83 fun tP138 tL139 tC140 =>
 hcall PR f_hand_Rows ⟨[(.slice tP134 tL135 tC136), (.slice tP138 tL139 tC140)]⟩ Hx83 fun v141 Hx142 =>
 asB v141 fun t143 =>
 K (.bool t143) Hx142)))))))
theorem E_law14_ReachAgain (gRefsP1 : Option Addr) (gRefsL2 : Nat) (gRefsC3 : Nat) (gOutP4 : Option Addr) (gOutL5 : Nat) (gOutC6 : Nat) (gInP7 : Option Addr) (gInL8 : Nat) (gInC9 : Nat) (lP10 : Option Addr) (lL11 : Nat) (lC12 : Nat) (x13 : Int) (y14 : Int) (H : Hp) (K : Value → Hp → Prop) : B_law14_ReachAgain gRefsP1 gRefsL2 gRefsC3 gOutP4 gOutL5 gOutC6 gInP7 gInL8 gInC9 lP10 lL11 lC12 x13 y14 H K = denF Try.prog Try.f25 (.seq none .n (.seq none .n (.seq none .n (.seq none .n (.seq none .n (.seq none .n (.seq none .n (.seq none .n (.seq none .n (.seq none .n (.seq none (.seq none .n (.sub (.loop ⟨[(64, .int .i64)], [13, 15, 62, 63]⟩ (.seq none .n (.seq none .n (.seq none (.sub (.seq none .n (.seq none .n (.seq (some ⟨[], [13, 15, 16, 62, 63, 64]⟩) (.seq none .n (.sub (.loop ⟨[(18, .int .i64)], [13, 15, 16, 62, 63, 64]⟩ .n))) .n)))) .n)))))) (.seq none .n (.seq none (.seq none .n (.sub (.loop ⟨[(19, .int .i64), (20, .int .i64)], [15]⟩ (.seq none .n (.seq none (.sub (.seq (some ⟨[(19, .int .i64)], [15, 20]⟩) (.sub (.loop ⟨[(19, .int .i64)], [15, 20]⟩ .n)) .n)) .n))))) .n))))))))))))) [(.agg #[(.slice gRefsP1 gRefsL2 gRefsC3), (.slice gOutP4 gOutL5 gOutC6), (.slice gInP7 gInL8 gInC9)]), (.slice lP10 lL11 lC12), (.int .i64 x13), (.int .i64 y14)] H K := by kernel_rfl
theorem den_law14_ReachAgain {gRefsP1 : Option Addr} {gRefsL2 : Nat} {gRefsC3 : Nat} {gOutP4 : Option Addr} {gOutL5 : Nat} {gOutC6 : Nat} {gInP7 : Option Addr} {gInL8 : Nat} {gInC9 : Nat} {lP10 : Option Addr} {lL11 : Nat} {lC12 : Nat} {x13 : Int} {y14 : Int} {H : Hp} {K : Value → Hp → Prop} (h : B_law14_ReachAgain gRefsP1 gRefsL2 gRefsC3 gOutP4 gOutL5 gOutC6 gInP7 gInL8 gInC9 lP10 lL11 lC12 x13 y14 H K) : hcall PR f_law14_ReachAgain ⟨[(.agg #[(.slice gRefsP1 gRefsL2 gRefsC3), (.slice gOutP4 gOutL5 gOutC6), (.slice gInP7 gInL8 gInC9)]), (.slice lP10 lL11 lC12), (.int .i64 x13), (.int .i64 y14)]⟩ H K := denF_call Try.func25 PR_mixed (Eq.mp (E_law14_ReachAgain gRefsP1 gRefsL2 gRefsC3 gOutP4 gOutL5 gOutC6 gInP7 gInL8 gInC9 lP10 lL11 lC12 x13 y14 H K) h)

end Go.Proofs.Ytohlnmenghbgbaa

namespace Go.Proofs.Ytohlnmenghbgbaa
set_option linter.unusedSimpArgs false
set_option linter.unusedVariables false
open Go
theorem nodup_sub_len {α : Type} [DecidableEq α] : ∀ {l m : List α}, l.Nodup → (∀ x ∈ l, x ∈ m) → l.length ≤ m.length
  | [], m, _, _ => Nat.zero_le _
  | a :: l, m, hn, h => by
    rw [List.nodup_cons] at hn
    have ha := h a (by simp)
    have := nodup_sub_len (l := l) (m := m.erase a) hn.2 fun x hx => (List.mem_erase_of_ne (fun e => hn.1 (by rw [← e]; exact hx))).2 (h x (by simp [hx]))
    rw [List.length_erase_of_mem ha] at this
    have := List.length_pos_of_mem ha
    simp only [List.length_cons]
    omega

section
variable {s : Hs} {p : Ps} {u u' : Int}
theorem rcOwn_mono (h : u ≤ u') {k : Int} (ho : rcOwn s p u' k = true) : rcOwn s p u k = true := by
  rw [rcOwn_iff] at ho ⊢
  obtain ⟨h1, r, g, h2, h3⟩ := ho
  exact ⟨h1, r, g, h2, by omega⟩
theorem sr_mono (h : u ≤ u') {a k : Int} (hs : Sr s p u' a k) : Sr s p u a k := by
  induction hs with
  | here => exact .here
  | step _ h1 h2 h3 ih => exact .step ih h1 h2 (rcOwn_mono h h3)
/-- With a greater bound a row's list is shorter. -/
theorem RowOk.fewer (h : u ≤ u') {a b : Int × List Id} (ha : RowOk s p u' a) (hb : RowOk s p u b) (e : a.1 = b.1) : a.2.length ≤ b.2.length := by
  obtain ⟨⟨t, ht, e1⟩, h1⟩ := ha
  refine nodup_sub_len ?_ fun x hx => ?_
  · have hn := keyed_nod ht
    rw [e1]
    exact hn
  · obtain ⟨k, k1, k2, k3, k4, k5⟩ := (h1 x).1 hx
    exact (hb.2 x).2 ⟨k, by rw [← e]; exact sr_mono h k1, k2, k3, k4, by omega⟩
/-- With a greater bound there are no other rows. -/
theorem RcTold.fewer (h : u ≤ u') {l m : List (Int × List Id)} (hl : RcTold s p u l) (hm : RcTold s p u' m) : ∀ r ∈ m, ∃ a, a < l.length ∧ (l.getD a (0, [])).1 = r.1 := fun r hr => by
  have h1 : r.1 ∈ (s.obs.filter (rcHead s p u')).map (·.ser) := by rw [← hm.heads]; exact List.mem_map.2 ⟨r, hr, rfl⟩
  obtain ⟨o, ho, e⟩ := List.mem_map.1 h1
  rw [List.mem_filter] at ho
  have h2 : r.1 ∈ l.map (·.1) := by
    rw [hl.heads]
    refine List.mem_map.2 ⟨o, List.mem_filter.2 ⟨ho.1, ?_⟩, e⟩
    have := ho.2
    unfold rcHead at this ⊢
    rw [Bool.and_eq_true] at this ⊢
    exact ⟨this.1, rcOwn_mono h this.2⟩
  obtain ⟨q, hq, e2⟩ := List.mem_map.1 h2
  obtain ⟨a, ha, rfl⟩ := List.mem_iff_getElem.1 hq
  exact ⟨a, ha, by rw [List.getD_eq_getElem?_getD, List.getElem?_eq_getElem ha]; exact e2⟩
theorem RcTold.rises (ho : s.ok) {l : List (Int × List Id)} (hl : RcTold s p u l) {a b : Nat} (hab : a < b) (hb : b < l.length) : (l.getD a (0, [])).1 < (l.getD b (0, [])).1 := by
  have h1 : (l.map (·.1)).Pairwise (· < ·) := by
    rw [hl.heads, List.pairwise_map]
    exact ho.rise.filter _
  rw [List.pairwise_map, List.pairwise_iff_getElem] at h1
  have := h1 a b (by omega) hb hab
  rw [List.getD_eq_getElem?_getD, List.getD_eq_getElem?_getD, List.getElem?_eq_getElem hb, List.getElem?_eq_getElem (by omega)]
  exact this
end
/-- What was got so far. -/
abbrev GotG := Option Addr × Nat × List (Int × List Id)
def gotP (g : GotG) : Prt := RowsP g.1 g.2.1 g.2.2
def gotV : Option GotG → Value
  | some g => .slice g.1 g.2.2.length g.2.1
  | none => .slice none 0 0
def gotA (G : List GotG) : Array Value := #[gotV G[0]?, gotV G[1]?, gotV G[2]?]
theorem gotA_set {G : List GotG} {g : GotG} (h : G.length < 3) : (gotA G).setIfInBounds G.length (.slice g.1 g.2.2.length g.2.1) = gotA (G ++ [g]) := by
  match G, h with
  | [], _ => rfl
  | [a], _ => rfl
  | [a, b], _ => rfl

set_option maxRecDepth 20000 in
theorem ReachAgain_ok {rp op ip : Option Addr} {rl rc ol oc il ic : Nat} {g : Gr} {lP : Option Addr} {lL lC : Nat} {l : List E_law14_Way} {x y : Int} {H : Hp} {K : Value → Hp → Prop} (ga : GrA H rp rl op ol ip il g) (gok : g.ok)
    (hr : Rd H 5 lP lL (cel E_law14_Way.cells l)) (hl : lL ≤ 9223372036854775807) (hok : ∀ x ∈ l, x.ok) (hx : IntKind.min .i64 ≤ x ∧ x ≤ IntKind.max .i64) (hy : IntKind.min .i64 ≤ y ∧ y ≤ IntKind.max .i64) (hK : ∀ H', Keep Nothing H H' → K (.bool true) H') :
    hcall PR f_law14_ReachAgain ⟨[.agg #[.slice rp rl rc, .slice op ol oc, .slice ip il ic], .slice lP lL lC, .int .i64 x, .int .i64 y]⟩ H K := by
  apply den_law14_ReachAgain
  unfold B_law14_ReachAgain
  intro b15 hb15
  have h1 := (St.start H).alloc (o := .cells #[.slice rp rl rc, .slice op ol oc, .slice ip il ic] ty_hand_Graph) hb15
  refine ldSl_of (h1.cell (i := 0) rfl rfl) (ldSl_of (h1.cell (i := 0) rfl rfl) (ldSl_of (h1.cell (i := 0) rfl rfl) ?_))
  refine HeapsC (most := 25) (ga.st h1) gok (by omega) fun hb rb s H2 hs h2 => ?_
  have h2 := h1.join h2
  have hn : grSize g 25 ≤ 25 := by unfold grSize; split <;> omega
  generalize grSize g 25 = n at *
  simp only [asI_mk', asB_mk, asP_mk, asA_mk, asM_mk, asSl_mk, asStr_mk, tup2_mk, tup3_mk, agg1_mk, agg2_mk, agg3_mk, agg4_mk, asAggm, unCons_mk, unNil_mk, asTup_mk, extractD0, extractD1, List.toList_toArray, nilP_mk, add_mk, Nat.zero_add, Nat.add_zero, condT, condF, Bool.not_true, Bool.not_false, Option.isNone_some, Option.isNone_none]
  refine known14_ok h2 fun H3 h3 => ?_
  simp only [asI_mk', asB_mk, asP_mk, asA_mk, asM_mk, asSl_mk, asStr_mk, tup2_mk, tup3_mk, agg1_mk, agg2_mk, agg3_mk, agg4_mk, asAggm, unCons_mk, unNil_mk, asTup_mk, extractD0, extractD1, List.toList_toArray, nilP_mk, add_mk, Nat.zero_add, Nat.add_zero, condT, condF, Bool.not_true, Bool.not_false, Option.isNone_some, Option.isNone_none]
  have hsl := hs.last
  refine paintedC h3 (i := 0) (j := 1) rfl rfl (by omega) hr hl hok fun pb qb p H4 hlt hfar h4 => ?_
  simp only [asI_mk', asB_mk, asP_mk, asA_mk, asM_mk, asSl_mk, asStr_mk, tup2_mk, tup3_mk, agg1_mk, agg2_mk, agg3_mk, agg4_mk, asAggm, unCons_mk, unNil_mk, asTup_mk, extractD0, extractD1, List.toList_toArray, nilP_mk, add_mk, Nat.zero_add, Nat.add_zero, condT, condF, Bool.not_true, Bool.not_false, Option.isNone_some, Option.isNone_none]
  refine rcNewC (hb := hb) (pb := pb) h4.flip fun rb' H5 h5 => ?_
  simp only [asI_mk', asB_mk, asP_mk, asA_mk, asM_mk, asSl_mk, asStr_mk, tup2_mk, tup3_mk, agg1_mk, agg2_mk, agg3_mk, agg4_mk, asAggm, unCons_mk, unNil_mk, asTup_mk, extractD0, extractD1, List.toList_toArray, nilP_mk, add_mk, Nat.zero_add, Nat.add_zero, condT, condF, Bool.not_true, Bool.not_false, Option.isNone_some, Option.isNone_none]
  refine bif_neqf rfl ?_
  (try simp only [Option.isNone_some, condF])
  refine Pick_ok (by omega) (by omega) ?_
  have p9 := pick_lt (n := x) (m := 9) (by omega)
  have p10 := pick_lt (n := y) (m := 9) (by omega)
  simp only [asI_mk', asB_mk, asP_mk, asA_mk, asM_mk, asSl_mk, asStr_mk, tup2_mk, tup3_mk, agg1_mk, agg2_mk, agg3_mk, agg4_mk, asAggm, unCons_mk, unNil_mk, asTup_mk, extractD0, extractD1, List.toList_toArray, nilP_mk, add_mk, Nat.zero_add, Nat.add_zero, condT, condF, Bool.not_true, Bool.not_false, Option.isNone_some, Option.isNone_none]
  refine Pick_ok (by omega) (by omega) ?_
  simp only [asI_mk', asB_mk, asP_mk, asA_mk, asM_mk, asSl_mk, asStr_mk, tup2_mk, tup3_mk, agg1_mk, agg2_mk, agg3_mk, agg4_mk, asAggm, unCons_mk, unNil_mk, asTup_mk, extractD0, extractD1, List.toList_toArray, nilP_mk, add_mk, Nat.zero_add, Nat.add_zero, condT, condF, Bool.not_true, Bool.not_false, Option.isNone_some, Option.isNone_none]
  generalize pick x 9 = a at *
  generalize pick y 9 = d at *
  have w1 : IntKind.i64.wrap (a + d) = a + d := wrap_i64 (by omega) (by omega)
  rw [w1]
  intro b53 hb53
  have h6 := h5.alloc (o := .cells #[.slice none 0 0, .slice none 0 0, .slice none 0 0] ty_3_Sapi_Reach) hb53
  intro b55 hb55
  have h7 := h6.alloc (o := .cells #[.int .i64 a, .int .i64 a, .int .i64 (a + d)] ty_int) hb55
  have h8 := St.gather (M := []) h7
  obtain ⟨LL, hLL⟩ : ∃ LL : List GotG → Rc → List Prt, ∀ G c, LL G c = [Prt.list (G.map gotP), Prt.one b55 (.cells #[.int .i64 a, .int .i64 a, .int .i64 (a + d)] ty_int (0, 0)), Prt.one b53 (.cells (gotA G) ty_3_Sapi_Reach (0, 0)), RcP rb' hb pb c, PaintP pb hb p, RPaint qb rb p, HeapP hb s, RHeap rb s, Prt.one b15 (.cells #[.slice rp rl rc, .slice op ol oc, .slice ip il ic] ty_hand_Graph (0, 0))] := ⟨_, fun _ _ => rfl⟩
  have h8 : St H (LL [] (rcNew 0)) (upd (upd H5 b53 (.cells #[.slice none 0 0, .slice none 0 0, .slice none 0 0] ty_3_Sapi_Reach)) b55 (.cells #[.int .i64 a, .int .i64 a, .int .i64 (a + d)] ty_int)) := by rw [hLL]; exact h8
  have l0 : ∀ G c, (LL G c)[0]? = some (Prt.list (G.map gotP)) := fun G c => by rw [hLL]; rfl
  have l1 : ∀ G c, (LL G c)[1]? = some (Prt.one b55 (.cells #[.int .i64 a, .int .i64 a, .int .i64 (a + d)] ty_int (0, 0))) := fun G c => by rw [hLL]; rfl
  have l2 : ∀ G c, (LL G c)[2]? = some (Prt.one b53 (.cells (gotA G) ty_3_Sapi_Reach (0, 0))) := fun G c => by rw [hLL]; rfl
  have l3 : ∀ G c, (LL G c)[3]? = some (RcP rb' hb pb c) := fun G c => by rw [hLL]; rfl
  have l4 : ∀ G c, (LL G c)[4]? = some (PaintP pb hb p) := fun G c => by rw [hLL]; rfl
  have l6 : ∀ G c, (LL G c)[6]? = some (HeapP hb s) := fun G c => by rw [hLL]; rfl
  have lset3 : ∀ G c c', (LL G c).set 3 (RcP rb' hb pb c') = LL G c' := fun G c c' => by rw [hLL, hLL]; rfl
  have hp := paint_ok h8 (l4 _ _)
  have b5 : n * (n + 2) ≤ 25 * 27 := Nat.mul_le_mul (by omega) (by omega)
  obtain ⟨us, hus⟩ : ∃ us : List Int, us = [a, a, a + d] := ⟨_, rfl⟩
  clear h1 h2 h3 h4 h5 h6 h7
  refine ⟨fun t H' => ∃ (G : List GotG) (c : Rc), t = G.length ∧ G.length ≤ 3 ∧ (∀ i e, G[i]? = some e → RcTold s p (us.getD i 0) e.2.2 ∧ e.2.2.length ≤ 10000 ∧ ∀ r ∈ e.2.2, r.2.length ≤ 10000) ∧ St H (LL G c) H', fun t _ => (3 - t).toNat, ⟨[], rcNew 0, rfl, by simp, fun i e he => by simp at he, h8⟩, ?_⟩
  clear h8
  rintro t H6 ⟨G, c, rfl, hG, hGt, h6⟩
  by_cases hc : ((G.length : Nat) : Int) < 3
  · refine bif_pos hc ?_
    refine idxA_of (h6.one_rd (i := 1) (n := 3) (k := 1) (l1 G c) rfl) (by omega) hc fun b o hp1 hcs => ?_
    have hu : hcell H6 ⟨b, o + ((G.length : Nat) : Int).toNat * 1, none⟩ = some (.int .i64 (us.getD G.length 0)) := by
      have := hcs 0 (by omega)
      rw [Nat.add_zero] at this
      rw [this, Int.toNat_natCast, hus]
      have hcases : G.length = 0 ∨ G.length = 1 ∨ G.length = 2 := by omega
      rcases hcases with e | e | e <;> rw [e] <;> rfl
    refine ldI_of hu ?_
    generalize hub : us.getD G.length 0 = u
    refine rcBeginC h6 (l3 G c) fun H7 h7 => ?_
    rw [lset3] at h7
    intro R65 hR65
    have hR65 : ∀ (c : Rc) H', c.lt 10000 → c.suspect = u → RcInv s p c → (rcStep s p c).1 = false → St H (LL G c) H' → R65 H' := fun c H8 hcl hcu hinv he h8 => by
      refine hR65 H8 ?_
      have told := hinv.told hs.ok he
      rw [hcu] at told
      refine rcRowsC h8 (l3 G c) (hcl.mono (by omega)) fun q cp H9 h9 => ?_
      simp only [asI_mk', asB_mk, asP_mk, asA_mk, asM_mk, asSl_mk, asStr_mk, tup2_mk, tup3_mk, agg1_mk, agg2_mk, agg3_mk, agg4_mk, asAggm, unCons_mk, unNil_mk, asTup_mk, extractD0, extractD1, List.toList_toArray, nilP_mk, add_mk, Nat.zero_add, Nat.add_zero, condT, condF, Bool.not_true, Bool.not_false, Option.isNone_some, Option.isNone_none]
      refine idxA_of (h9.one_rd (i := 3) (n := 3) (k := 1) (l2 G c) rfl) (by omega) hc fun b o hp1 hcs => ?_
      obtain ⟨rfl, rfl⟩ : b53 = b ∧ 0 = o := by simpa using hp1
      rw [Int.toNat_natCast, Nat.mul_one, Nat.zero_add]
      refine h9.put (i := 3) (l2 G c) (by show G.length < 3; omega) fun H10 h10 => ?_
      obtain ⟨e, hee⟩ : ∃ e : GotG, e = (q, cp, c.rows) := ⟨_, rfl⟩
      have hset := gotA_set (G := G) (g := e) (by omega)
      rw [hee] at hset
      simp only at hset
      rw [hset] at h10
      rw [hLL] at h10
      have h11 := St.push (i := 0) (A := gotP e) (M := G.map gotP) (by rw [hee]; exact h10) rfl
      have h12 : St H (LL (G ++ [e]) c) H10 := by
        rw [hLL, List.map_append, hee]
        rw [hee] at h11
        exact h11
      rw [wrap_i64 (by omega) (by omega)]
      refine ⟨⟨G ++ [e], c, by simp, by simp; omega, fun i e' he' => ?_, h12⟩, by (try dsimp only); omega⟩
      by_cases hi : i < G.length
      · rw [List.getElem?_append_left hi] at he'
        exact hGt i e' he'
      · rw [List.getElem?_append_right (by omega)] at he'
        have hi0 : i - G.length = 0 := by
          rcases Nat.eq_zero_or_pos (i - G.length) with h | h
          · exact h
          · rw [List.getElem?_eq_none (by simp; omega)] at he'; cases he'
        rw [hi0] at he'
        simp at he'
        subst he'
        rw [show i = G.length by omega, hub, hee]
        exact ⟨told, hcl.rows, hcl.outs⟩
    refine ⟨fun k H' => ∃ (y : Nat) (c : Rc), k = y ∧ y + rcLeft n c ≤ n * (n + 2) ∧ c.lt (7 * y) ∧ c.within s ∧ c.suspect = u ∧ RcInv s p c ∧ St H (LL G c) H', fun k _ => (2000 - k).toNat,
      ⟨0, rcNew u, rfl, by rw [rcLeft_new]; omega, rcNew_lt, fun w hw => (by cases hw), rfl, RcInv.new hs.ok, h7⟩, ?_⟩
    clear h7
    rintro k H8 ⟨y, c, rfl, hy', hcl, hwi, hcu, hinv, h8⟩
    refine bif_pos (by omega) (rcStepC h8 (i := 6) (j := 4) (k := 3) (l6 G c) (l4 G c) (l3 G c) (by decide) (by decide) (by decide) (hcl.mono (by omega)) fun H9 h9 => ?_)
    have hc' := rc_ok h8 (l3 G c)
    rw [lset3] at h9
    simp only [asI_mk', asB_mk, asP_mk, asA_mk, asM_mk, asSl_mk, asStr_mk, tup2_mk, tup3_mk, agg1_mk, agg2_mk, agg3_mk, agg4_mk, asAggm, unCons_mk, unNil_mk, asTup_mk, extractD0, extractD1, List.toList_toArray, nilP_mk, add_mk, Nat.zero_add, Nat.add_zero, condT, condF, Bool.not_true, Bool.not_false, Option.isNone_some, Option.isNone_none]
    cases hst : (rcStep s p c).1
    · simp only [condF]
      refine hR65 c H9 (hcl.mono (by omega)) hcu hinv hst ?_
      rw [(rcStep_end hst).1] at h9
      exact h9
    · simp only [condT]
      have hless := rcStep_less hs.ok hsl hp hc' hwi hst
      rw [wrap_i64 (by omega) (by omega)]
      exact ⟨⟨y + 1, _, by omega, by omega, (hcl.step hs.ok).mono (by omega), hwi.step hs.ok, by rw [rcStep_suspect]; exact hcu, hinv.step hs.ok hc', h9⟩, by (try dsimp only); omega⟩
  refine bif_neg hc ?_
  obtain ⟨g0, g1, g2, rfl⟩ : ∃ g0 g1 g2, G = [g0, g1, g2] := by
    have h3 : G.length = 3 := by omega
    match G, h3 with
    | [g0, g1, g2], _ => exact ⟨g0, g1, g2, rfl⟩
  obtain ⟨t0, m0, k0⟩ := hGt 0 g0 rfl
  obtain ⟨t1, m1, k1⟩ := hGt 1 g1 rfl
  obtain ⟨t2, m2, k2⟩ := hGt 2 g2 rfl
  rw [hus] at t0 t1 t2
  have t0 : RcTold s p a g0.2.2 := t0
  have t1 : RcTold s p a g1.2.2 := t1
  have t2 : RcTold s p (a + d) g2.2.2 := t2
  have e01 := t0.unique t1
  have few := t0.fewer (by omega) t2
  rw [hLL] at h6
  have h6 := St.open (M := [gotP g0, gotP g1, gotP g2]) (i := 0) h6 rfl
  obtain ⟨q0, c0, r0⟩ := g0
  obtain ⟨q1, c1, r1⟩ := g1
  obtain ⟨q2, c2, r2⟩ := g2
  simp only at t0 t1 t2 m0 m1 m2 k0 k1 k2 e01 few
  subst e01
  obtain ⟨qs0, v0⟩ := rowsV h6 (i := 0) (q := q0) (cap := c0) (rows := r0) rfl
  obtain ⟨qs1, v1⟩ := rowsV h6 (i := 1) (q := q1) (cap := c1) (rows := r0) rfl
  obtain ⟨qs2, v2⟩ := rowsV h6 (i := 2) (q := q2) (cap := c2) (rows := r2) rfl
  have got : ∀ (j : Nat) (v : Value), (gotA [(q0, c0, r0), (q1, c1, r0), (q2, c2, r2)])[j]? = some v → j < 3 → ∀ Q : Addr → Prop, (∀ a, hcell H6 a = some v → Q a) → idxA (some ⟨b53, 0, none⟩) 3 (j : Int) 1 Q := fun j v hv hj Q hQ => by
    refine idxA_of (h6.one_rd (i := 5) (n := 3) (k := 1) (b := b53) (c := gotA [(q0, c0, r0), (q1, c1, r0), (q2, c2, r2)]) (e := ty_3_Sapi_Reach) rfl rfl) (by omega) (by omega) fun b o hp1 hcs => hQ _ ?_
    have := hcs 0 (by omega)
    rw [Nat.add_zero] at this
    rw [this, Int.toNat_natCast, Nat.mul_one, Nat.add_zero, Array.getElem?_toList]
    exact hv
  have got0 := got 0 (.slice q0 r0.length c0) rfl (by omega)
  have got1 := got 1 (.slice q1 r0.length c1) rfl (by omega)
  have got2 := got 2 (.slice q2 r2.length c2) rfl (by omega)
  clear got
  refine ⟨fun atx i H' => H' = H6 ∧ ∃ m k : Nat, i = m ∧ atx = k ∧ m ≤ r2.length ∧ ∀ z, m ≤ z → z < r2.length → ∀ w, w < k → (r0.getD w (0, [])).1 < (r2.getD z (0, [])).1, fun _ i _ => ((r2.length : Int) - i).toNat, ⟨rfl, 0, 0, rfl, rfl, by omega, fun z _ _ w hw => absurd hw (Nat.not_lt_zero w)⟩, ?_⟩
  rintro atx i H' ⟨hH, m, k, rfl, rfl, hm, hlow⟩
  subst hH
  refine got2 _ fun a2 d2 => ldSl_of d2 ?_
  by_cases hcm : (m : Int) < ((r2.length : Nat) : Int)
  rotate_left
  · refine bif_neg hcm (got0 _ fun a0 d0 => ldSl_of d0 (got1 _ fun a1 d1 => ldSl_of d1 (handRowsC v0 v1 (by omega) (fun r hr => by have := k0 r hr; omega) ?_)))
    simp only [asI_mk', asB_mk, asP_mk, asA_mk, asM_mk, asSl_mk, asStr_mk, tup2_mk, tup3_mk, agg1_mk, agg2_mk, agg3_mk, agg4_mk, asAggm, unCons_mk, unNil_mk, asTup_mk, extractD0, extractD1, List.toList_toArray, nilP_mk, add_mk, Nat.zero_add, Nat.add_zero, condT, condF, Bool.not_true, Bool.not_false, Option.isNone_some, Option.isNone_none]
    exact hK H' h6.keep
  refine bif_pos hcm ?_
  have hml : m < r2.length := by omega
  obtain ⟨e, he⟩ : ∃ e, e = r2.getD m (0, []) := ⟨_, rfl⟩
  have hem : e ∈ r2 := by rw [he, List.getD_eq_getElem?_getD, List.getElem?_eq_getElem hml]; exact List.getElem_mem hml
  obtain ⟨w0, hw0, hw1⟩ := few e hem
  intro R90 hR90
  have hR90 : ∀ k : Nat, k < r0.length → (r0.getD k (0, [])).1 = e.1 → R90 (k : Int) H' := fun k hk hke => by
    refine hR90 _ H' ?_
    refine got0 _ fun a0 d0 => ldSl_of d0 (bif_neg (by omega) ?_)
    refine got2 _ fun a2 d2 => ldSl_of d2 (v2.row hml fun e2 _ ⟨p2, c2', o2, _⟩ => ldSl_of o2 ?_)
    refine got0 _ fun a0 d0 => ldSl_of d0 (v0.row hk fun e0 _ ⟨p0, c0', o0, _⟩ => ldSl_of o0 ?_)
    have hk0 : r0.getD k (0, []) ∈ r0 := by rw [List.getD_eq_getElem?_getD, List.getElem?_eq_getElem hk]; exact List.getElem_mem hk
    have hle := RowOk.fewer (by omega) (t2.rows e hem) (t0.rows _ hk0) hke.symm
    rw [he] at hle
    refine bif_neg (by omega) ?_
    rw [wrap_i64 (by omega) (by omega)]
    refine ⟨⟨by trivial, m + 1, k, by omega, rfl, by omega, fun z hz hzl w hw => ?_⟩, by (try dsimp only); omega⟩
    have h1 := t0.rises hs.ok hw hk
    have h2 := t2.rises hs.ok (a := m) (b := z) (by omega) hzl
    rw [← he] at h2
    omega
  have hk0 : k ≤ w0 := by
    rcases Nat.lt_or_ge w0 k with h | h
    · have := hlow m (Nat.le_refl _) hml w0 h
      rw [← he] at this
      omega
    · exact h
  refine ⟨fun atx H'' => H'' = H' ∧ ∃ k : Nat, atx = k ∧ k ≤ w0, fun atx _ => ((w0 : Int) + 1 - atx).toNat, ⟨rfl, k, rfl, hk0⟩, ?_⟩
  rintro atx H'' ⟨hH, k', rfl, hk'⟩
  subst hH
  refine got0 _ fun a0 d0 => ldSl_of d0 (bif_pos (by omega) ?_)
  refine got0 _ fun a0 d0 => ldSl_of d0 (v0.row (by omega) fun e0 i0 _ => ldI_of i0 ?_)
  refine got2 _ fun a2 d2 => ldSl_of d2 (v2.row hml fun e2 i2 _ => ldI_of i2 ?_)
  rw [← he]
  by_cases hq : (r0.getD k' (0, [])).1 = e.1
  · exact bif_neqf hq (hR90 k' (by omega) hq)
  · refine bif_neq hq ?_
    rw [wrap_i64 (by omega) (by omega)]
    refine ⟨⟨by trivial, k' + 1, by omega, ?_⟩, by (try dsimp only); omega⟩
    rcases Nat.lt_or_ge k' w0 with h | h
    · omega
    · exact absurd (by rw [show k' = w0 by omega]; exact hw1) hq

end Go.Proofs.Ytohlnmenghbgbaa
