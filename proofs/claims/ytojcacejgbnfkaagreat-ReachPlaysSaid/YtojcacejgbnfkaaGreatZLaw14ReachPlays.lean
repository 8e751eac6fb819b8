/- Merged by merge.py: DenLaw14, Law14k, DenLaw14ReachPlays, Law14p. No condition. -/
import Derived.Test.YtojcacejgbnfkaaGreatZNum
import Derived.Test.YtojcacejgbnfkaaGreatZReach
import Derived.Test.YtojcacejgbnfkaaGreatZMark

namespace Go.Proofs.YtojcacejgbnfkaaGreat
open Go
set_option linter.unusedVariables false
set_option maxRecDepth 100000
def B_law14_known  (H : Hp) (K : Value → Hp → Prop) : Prop :=
 hcall PR f_heap_New ⟨[(.int .i64 1), (.int .i64 64), (.int .i64 4), (.int .u64 0)]⟩ H fun v1 Hx2 =>
 tup2 v1 fun v3 v4 =>
 asP v3 fun t5 =>
 asI .i64 v4 fun t6 =>
 (bif ((t6 : Int) != 0) then
 K (.bool false) Hx2
else
 (bif (Option.isNone (α := Addr) t5) then
 K (.bool false) Hx2
else
 hcall PR f_heap_Heap_Make ⟨[(.pointer t5), (.int .i64 1), (.int .i64 0)]⟩ Hx2 fun v7 Hx8 =>
 tup2 v7 fun v9 v10 =>
 asI .u64 v9 fun t11 =>
 asI .i64 v10 fun t12 =>
 hcall PR f_heap_Heap_SetRef ⟨[(.pointer t5), (.int .u64 1), (.int .i64 0), (.agg #[(.int .i64 2), (.int .u64 7)])]⟩ Hx8 fun v13 Hx14 =>
 tup2 v13 fun v15 v16 =>
 agg2 v15 fun v17 v18 =>
 asI .i64 v17 fun Node19 =>
 asI .u64 v18 fun Serial20 =>
 asI .i64 v16 fun t21 =>
 hcall PR f_heap_Heap_SetIn ⟨[(.pointer t5), (.int .u64 1), (.int .i64 5)]⟩ Hx14 fun v22 Hx23 =>
 asI .i64 v22 fun t24 =>
 hcall PR f_paint_New ⟨[(.pointer t5), (.int .i64 2)]⟩ Hx23 fun v25 Hx26 =>
 tup2 v25 fun v27 v28 =>
 asP v27 fun t29 =>
 asI .i64 v28 fun t30 =>
 hcall PR f_reach_New ⟨[(.pointer t5), (.pointer t29)]⟩ Hx26 fun v31 Hx32 =>
 tup2 v31 fun v33 v34 =>
 asP v33 fun t35 =>
 asI .i64 v34 fun t36 =>
 (bif ((t30 : Int) != 0) then
 K (.bool false) Hx32
else
 (bif ((t36 : Int) != 0) then
 K (.bool false) Hx32
else
 (bif (Option.isNone (α := Addr) t29) then
 K (.bool false) Hx32
else
 (bif (Option.isNone (α := Addr) t35) then
 K (.bool false) Hx32
else
 hcall PR f_paint_Paint_Shade ⟨[(.pointer t29), (.agg #[(.int .i64 1), (.int .u64 1)]), (.int .i64 5)]⟩ Hx32 fun v37 Hx38 =>
 hcall PR f_paint_Paint_Scan ⟨[(.pointer t29), (.int .u64 1)]⟩ Hx38 fun v39 Hx40 =>
 asB v39 fun t41 =>
 hcall PR f_reach_Reacher_Begin ⟨[(.pointer t35), (.int .i64 3)]⟩ Hx40 fun v42 Hx43 =>
 ∃ (I44 : Int → Hp → Prop) (m45 : Int → Hp → Nat), I44 0 Hx43 ∧ ∀ i47 : Int, ∀ Hx46 : Hp, I44 i47 Hx46 →
 (bif (decide ((i47 : Int) < 5)) then
 hcall PR f_reach_Reacher_Step ⟨[(.pointer t35)]⟩ Hx46 fun v48 Hx49 =>
 asB v48 fun t50 =>
 I44 (IntKind.i64.wrap (i47 + 1)) Hx49 ∧ m45 (IntKind.i64.wrap (i47 + 1)) Hx49 < m45 i47 Hx46
else
 hcall PR f_reach_Reacher_Rows ⟨[(.pointer t35)]⟩ Hx46 fun v51 Hx52 =>
 asSl v51 fun tP53 tL54 tC55 =>
 (bif (((tL54 : Int) : Int) == 1) then
 idxA tP53 tL54 0 2 fun el56 =>
 ldI .u64 el56 Hx52 fun In57 =>
 (bif ((In57 : Int) == 1) then
 idxA tP53 tL54 0 2 fun el58 =>
 ldSl (el58.add 1) Hx52 fun OutsP59 OutsL60 OutsC61 =>
 (bif (((OutsL60 : Int) : Int) == 1) then
 idxA tP53 tL54 0 2 fun el62 =>
 ldSl (el62.add 1) Hx52 fun OutsP63 OutsL64 OutsC65 =>
 idxA OutsP63 OutsL64 0 2 fun el66 =>
 ldI .i64 el66 Hx52 fun Node67 =>
 ldI .u64 (el66.add 1) Hx52 fun Serial68 =>
 evR PR (aggEq .eql ty_api_ID #[(.int .i64 Node67), (.int .u64 Serial68)] #[(.int .i64 2), (.int .u64 7)]) Hx52 fun v69 =>
 asB v69 fun eq70 =>
 (bif eq70 then
 hcall PR f_reach_Reacher_Step ⟨[(.pointer t35)]⟩ Hx52 fun v71 Hx72 =>
 asB v71 fun t73 =>
 K (.bool (!t73)) Hx72
else
 K (.bool false) Hx52)
else
 K (.bool false) Hx52)
else
 K (.bool false) Hx52)
else
 K (.bool false) Hx52))))))))
theorem E_law14_known  (H : Hp) (K : Value → Hp → Prop) : B_law14_known  H K = denF Tryz.prog Tryz.f60 (.seq none .n (.seq none .n (.seq none .n (.seq none .n (.seq none .n (.seq none .n (.seq none .n (.seq none .n (.seq none .n (.seq none .n (.seq none .n (.seq none .n (.seq none (.seq none .n (.sub (.loop ⟨[(7, .int .i64)], [5]⟩ .n))) .n))))))))))))) [] H K := by kernel_rfl
theorem den_law14_known  {H : Hp} {K : Value → Hp → Prop} (h : B_law14_known  H K) : hcall PR f_law14_known ⟨[]⟩ H K := denF_call Tryz.func60 PR_mixed (Eq.mp (E_law14_known  H K) h)

def B_law14_painted (h1 : Option Addr) (r2 : Option Addr) (lP3 : Option Addr) (lL4 : Nat) (lC5 : Nat) (H : Hp) (K : Value → Hp → Prop) : Prop :=
 hcall PR f_paint_New ⟨[(.pointer h1), (.int .i64 4)]⟩ H fun v6 Hx7 =>
 tup2 v6 fun v8 v9 =>
 asP v8 fun t10 =>
 asI .i64 v9 fun t11 =>
 (bif ((t11 : Int) != 0) then
 K (.tuple #[(.pointer none), (.pointer none)]) Hx7
else
 (bif (Option.isNone (α := Addr) t10) then
 K (.tuple #[(.pointer none), (.pointer none)]) Hx7
else
 hcall PR f_ref11_NewPaint ⟨[(.pointer r2), (.int .i64 4)]⟩ Hx7 fun v12 Hx13 =>
 asP v12 fun t14 =>
 ∃ (I15 : Int → Hp → Prop) (m16 : Int → Hp → Nat), I15 0 Hx13 ∧ ∀ i18 : Int, ∀ Hx17 : Hp, I15 i18 Hx17 →
 (bif (decide ((i18 : Int) < (lL4 : Int))) then
 (bif (decide ((i18 : Int) < 100)) then
 ∀ R19 : Hp → Prop, (∀ Hx20 : Hp, (
 I15 (IntKind.i64.wrap (i18 + 1)) Hx20 ∧ m16 (IntKind.i64.wrap (i18 + 1)) Hx20 < m16 i18 Hx17) → R19 Hx20) →
 idxA lP3 lL4 i18 5 fun el21 =>
 ldI .u64 el21 Hx17 fun Serial22 =>
 nilP r2 fun ra23 =>
 ldI .u64 (ra23.add 2) Hx17 fun Last24 =>
 ((IntKind.u64.wrap (Last24 + 1)) : Int) ≠ 0 ∧
 idxA lP3 lL4 i18 5 fun el25 =>
 ldI .i64 (el25.add 1) Hx17 fun Rank26 =>
 hcall PR f_paint_Paint_Shade ⟨[(.pointer t10), (.agg #[(.int .i64 1), (.int .u64 (Int.tmod Serial22 (IntKind.u64.wrap (Last24 + 1))))]), (.int .i64 Rank26)]⟩ Hx17 fun v27 Hx28 =>
 idxA lP3 lL4 i18 5 fun el29 =>
 ldI .i64 (el29.add 1) Hx28 fun Rank30 =>
 hcall PR f_ref11_Paint_Shade ⟨[(.pointer t14), (.agg #[(.int .i64 1), (.int .u64 (Int.tmod Serial22 (IntKind.u64.wrap (Last24 + 1))))]), (.int .i64 Rank30)]⟩ Hx28 fun v31 Hx32 =>
 idxA lP3 lL4 i18 5 fun el33 =>
 ldI .i64 (el33.add 2) Hx32 fun Node34 =>
 ldI .u64 ((el33.add 2).add 1) Hx32 fun Serial35 =>
 idxA lP3 lL4 i18 5 fun el36 =>
 ldI .i64 (el36.add 1) Hx32 fun Rank37 =>
 hcall PR f_paint_Paint_Shade ⟨[(.pointer t10), (.agg #[(.int .i64 Node34), (.int .u64 Serial35)]), (.int .i64 Rank37)]⟩ Hx32 fun v38 Hx39 =>
 idxA lP3 lL4 i18 5 fun el40 =>
 ldI .i64 (el40.add 2) Hx39 fun Node41 =>
 ldI .u64 ((el40.add 2).add 1) Hx39 fun Serial42 =>
 idxA lP3 lL4 i18 5 fun el43 =>
 ldI .i64 (el43.add 1) Hx39 fun Rank44 =>
 hcall PR f_ref11_Paint_Shade ⟨[(.pointer t14), (.agg #[(.int .i64 Node41), (.int .u64 Serial42)]), (.int .i64 Rank44)]⟩ Hx39 fun v45 Hx46 =>
 idxA lP3 lL4 i18 5 fun el47 =>
 ldB (el47.add 4) Hx46 fun Scan48 =>
 (bif Scan48 then
 hcall PR f_paint_Paint_Scan ⟨[(.pointer t10), (.int .u64 (Int.tmod Serial22 (IntKind.u64.wrap (Last24 + 1))))]⟩ Hx46 fun v49 Hx50 =>
 asB v49 fun t51 =>
 hcall PR f_ref11_Paint_Scan ⟨[(.pointer t14), (.int .u64 (Int.tmod Serial22 (IntKind.u64.wrap (Last24 + 1))))]⟩ Hx50 fun v52 Hx53 =>
 asB v52 fun t54 =>
 R19 Hx53
else
 R19 Hx46)
else
 K (.tuple #[(.pointer t10), (.pointer t14)]) Hx17)
else
 K (.tuple #[(.pointer t10), (.pointer t14)]) Hx17)))
theorem E_law14_painted (h1 : Option Addr) (r2 : Option Addr) (lP3 : Option Addr) (lL4 : Nat) (lC5 : Nat) (H : Hp) (K : Value → Hp → Prop) : B_law14_painted h1 r2 lP3 lL4 lC5 H K = denF Tryz.prog Tryz.f61 (.seq none .n (.seq none .n (.seq none .n (.seq none .n (.seq none (.seq none .n (.sub (.loop ⟨[(11, .int .i64)], [1, 2, 8, 10]⟩ (.seq none .n (.seq (some ⟨[], [1, 2, 8, 10, 11]⟩) .n .n))))) .n))))) [(.pointer h1), (.pointer r2), (.slice lP3 lL4 lC5)] H K := by kernel_rfl
theorem den_law14_painted {h1 : Option Addr} {r2 : Option Addr} {lP3 : Option Addr} {lL4 : Nat} {lC5 : Nat} {H : Hp} {K : Value → Hp → Prop} (h : B_law14_painted h1 r2 lP3 lL4 lC5 H K) : hcall PR f_law14_painted ⟨[(.pointer h1), (.pointer r2), (.slice lP3 lL4 lC5)]⟩ H K := denF_call Tryz.func61 PR_mixed (Eq.mp (E_law14_painted h1 r2 lP3 lL4 lC5 H K) h)

end Go.Proofs.YtojcacejgbnfkaaGreat

namespace Go.Proofs.YtojcacejgbnfkaaGreat
set_option linter.unusedSimpArgs false
set_option linter.unusedVariables false
open Go
/-- One object, held with distance 5, that leads to another node's. -/
theorem known14_heap {s : Hs} {c1 : Int} (ho : s.ok) (hobs : s.obs = [⟨1, c1, [⟨2, 7⟩], [], 5⟩]) (hn : s.node = 1) (p : Ps) (hp : p = ⟨[(1, (5, false))], [(⟨2, 7⟩, 5)], [1], 2, false, 0⟩) :
    (pScan s (pShade s (newPs 2) ⟨1, 1⟩ 5) 1).2 = p ∧ rcStep s p (rcNew 3) = (true, ⟨3, 1, some ⟨1, [1], [1], []⟩, []⟩) ∧ rcStep s p ⟨3, 1, some ⟨1, [1], [1], []⟩, []⟩ = (true, ⟨3, 1, some ⟨1, [1], [], [(⟨2, 7⟩, 1)]⟩, []⟩) ∧
    rcStep s p ⟨3, 1, some ⟨1, [1], [], [(⟨2, 7⟩, 1)]⟩, []⟩ = (true, ⟨3, 1, none, [(1, [⟨2, 7⟩])]⟩) ∧ rcStep s p ⟨3, 1, none, [(1, [⟨2, 7⟩])]⟩ = (false, ⟨3, 1, none, [(1, [⟨2, 7⟩])]⟩) := by
  have g1 : hGet s 1 = some ⟨1, c1, [⟨2, 7⟩], [], 5⟩ := by unfold hGet; rw [hobs]; rfl
  have h1 : ¬ hGet s 1 = none := by rw [g1]; simp
  have n0 : hNext s 0 = (1, true) := by unfold hNext; rw [hobs]; rfl
  have n1 : hNext s 1 = (0, false) := by unfold hNext; rw [hobs]; rfl
  have own : rcOwn s p 3 1 = true := by
    rw [rcOwn_iff]
    exact ⟨h1, 5, false, by rw [hp]; rfl, by decide⟩
  have met : pMet p ⟨2, 7⟩ = (5, true) := by rw [hp]; rfl
  refine ⟨?_, ?_, ?_, ?_, ?_⟩
  · have e1 : pShade s (newPs 2) ⟨1, 1⟩ 5 = ⟨[(1, (5, true))], [], [1], 2, false, 0⟩ := by
      unfold pShade
      rw [if_neg (by decide), if_neg (by rw [hn]; simp), if_neg h1]
      rfl
    rw [e1]
    unfold pScan
    rw [g1, show mlook (⟨[(1, (5, true))], [], [1], 2, false, 0⟩ : Ps).marks 1 = some (5, true) from rfl]
    simp only [pShades, List.foldl_cons, List.foldl_nil]
    unfold pShade
    rw [if_neg (by decide), if_pos (by rw [hn]; decide), hp]
    rfl
  · unfold rcStep rcNew rcNext
    simp only [n0, g1, own]
    rw [if_neg (by decide), if_pos ⟨by decide, trivial⟩]
    rfl
  · unfold rcStep
    simp only [List.getLast?_singleton]
    unfold rcFollow rcRefs rcSees
    rw [g1]
    simp only [List.foldl_cons, List.foldl_nil, List.dropLast_singleton]
    unfold rcSee
    rw [if_neg (by rw [hn]; decide), met, if_pos ⟨rfl, by decide⟩]
    rfl
  · unfold rcStep rcNext
    simp only [List.getLast?_nil, n1]
    rfl
  · unfold rcStep rcNext
    simp only [n1]
    rfl

theorem known14_ok {H0 H : Hp} {L : List Prt} {K : Value → Hp → Prop} (h : St H0 L H) (hK : ∀ H', St H0 L H' → K (.bool true) H') : hcall PR f_law14_known ⟨[]⟩ H K := by
  apply den_law14_known
  unfold B_law14_known
  refine hNewOk (m := 4) (by decide) (by decide) (by decide) (by decide) (by decide) h fun hb H1 h1 => ?_
  simp only [asI_mk', asB_mk, asP_mk, asA_mk, asM_mk, asSl_mk, asStr_mk, tup2_mk, tup3_mk, agg1_mk, agg2_mk, agg3_mk, agg4_mk, asAggm, unCons_mk, unNil_mk, asTup_mk, extractD0, extractD1, List.toList_toArray, nilP_mk, add_mk, Nat.zero_add, Nat.add_zero, condT, condF, Bool.not_true, Bool.not_false, Option.isNone_some, Option.isNone_none]
  refine bif_neqf rfl ?_
  obtain ⟨s1, c1, a0, a1, a2, a3, a4, a5, a6⟩ := hMake_good' (s := newHs 1 4 0 4) (r := 1) (v := 0) (heap_ok h1 (i := 0) rfl) (by omega) (by omega) (by decide) (by decide) (by show 0 < frees (List.replicate 4 noBlk); rw [frees_new]; omega)
  refine hMakeC h1 (i := 0) rfl (by decide) (by decide) fun H2 h2 => ?_
  rw [a0] at h2 ⊢
  have h2 : St H0 (HeapP hb s1 :: L) H2 := h2
  simp only [asI_mk', asB_mk, asP_mk, asA_mk, asM_mk, asSl_mk, asStr_mk, tup2_mk, tup3_mk, agg1_mk, agg2_mk, agg3_mk, agg4_mk, asAggm, unCons_mk, unNil_mk, asTup_mk, extractD0, extractD1, List.toList_toArray, nilP_mk, add_mk, Nat.zero_add, Nat.add_zero, condT, condF, Bool.not_true, Bool.not_false, Option.isNone_some, Option.isNone_none]
  have a3 : s1.node = 1 := a3
  have a4 : s1.obs = [⟨1, c1, [noId], [], 0⟩] := a4
  refine hSetRefC (y := ⟨2, 7⟩) h2 (i := 0) rfl fun H4 h4 => ?_
  simp only [asI_mk', asB_mk, asP_mk, asA_mk, asM_mk, asSl_mk, asStr_mk, tup2_mk, tup3_mk, agg1_mk, agg2_mk, agg3_mk, agg4_mk, asAggm, unCons_mk, unNil_mk, asTup_mk, extractD0, extractD1, List.toList_toArray, nilP_mk, add_mk, Nat.zero_add, Nat.add_zero, condT, condF, Bool.not_true, Bool.not_false, Option.isNone_some, Option.isNone_none]
  have d1 : (hSetRef s1 1 0 ⟨2, 7⟩).2.2 = { s1 with obs := [⟨1, c1, [⟨2, 7⟩], [], 0⟩] } := by
    have g1 : hGet s1 1 = some ⟨1, c1, [noId], [], 0⟩ := by unfold hGet; rw [a4]; rfl
    have hr : (hRef s1 1 0).2 = 0 := by unfold hRef; rw [g1]; rfl
    unfold hSetRef
    rw [if_neg (by decide), if_pos hr]
    unfold hPut
    rw [a4]
    rfl
  rw [d1] at h4
  have h4 : St H0 (HeapP hb { s1 with obs := [⟨1, c1, [⟨2, 7⟩], [], 0⟩] } :: L) H4 := h4
  refine hSetInC h4 (i := 0) rfl fun H5 h5 => ?_
  simp only [asI_mk', asB_mk, asP_mk, asA_mk, asM_mk, asSl_mk, asStr_mk, tup2_mk, tup3_mk, agg1_mk, agg2_mk, agg3_mk, agg4_mk, asAggm, unCons_mk, unNil_mk, asTup_mk, extractD0, extractD1, List.toList_toArray, nilP_mk, add_mk, Nat.zero_add, Nat.add_zero, condT, condF, Bool.not_true, Bool.not_false, Option.isNone_some, Option.isNone_none]
  have d2 : (hSetIn { s1 with obs := [⟨1, c1, [⟨2, 7⟩], [], 0⟩] } 1 5).2 = { s1 with obs := [⟨1, c1, [⟨2, 7⟩], [], 5⟩] } := rfl
  rw [d2] at h5
  have h5 : St H0 (HeapP hb { s1 with obs := [⟨1, c1, [⟨2, 7⟩], [], 5⟩] } :: L) H5 := h5
  obtain ⟨k1, k2, k3, k4, k5⟩ := known14_heap (s := { s1 with obs := [⟨1, c1, [⟨2, 7⟩], [], 5⟩] }) (heap_ok h5 (i := 0) rfl) rfl a3 _ rfl
  generalize ({ s1 with obs := [⟨1, c1, [⟨2, 7⟩], [], 5⟩] } : Hs) = s at *
  refine pNewOk h5 (by omega) (by omega) fun pb H6 h6 => ?_
  simp only [asI_mk', asB_mk, asP_mk, asA_mk, asM_mk, asSl_mk, asStr_mk, tup2_mk, tup3_mk, agg1_mk, agg2_mk, agg3_mk, agg4_mk, asAggm, unCons_mk, unNil_mk, asTup_mk, extractD0, extractD1, List.toList_toArray, nilP_mk, add_mk, Nat.zero_add, Nat.add_zero, condT, condF, Bool.not_true, Bool.not_false, Option.isNone_some, Option.isNone_none]
  refine rcNewC (hb := hb) (pb := pb) h6 fun rc H7 h7 => ?_
  simp only [asI_mk', asB_mk, asP_mk, asA_mk, asM_mk, asSl_mk, asStr_mk, tup2_mk, tup3_mk, agg1_mk, agg2_mk, agg3_mk, agg4_mk, asAggm, unCons_mk, unNil_mk, asTup_mk, extractD0, extractD1, List.toList_toArray, nilP_mk, add_mk, Nat.zero_add, Nat.add_zero, condT, condF, Bool.not_true, Bool.not_false, Option.isNone_some, Option.isNone_none]
  refine bif_neqf rfl (bif_neqf rfl ?_)
  refine pShadeC (y := ⟨1, 1⟩) h7 (i := 2) (j := 1) rfl rfl (by decide) fun H8 h8 => ?_
  refine pScanC h8 (i := 2) (j := 1) rfl rfl (by decide) fun H9 h9 => ?_
  rw [k1] at h9
  simp only [asI_mk', asB_mk, asP_mk, asA_mk, asM_mk, asSl_mk, asStr_mk, tup2_mk, tup3_mk, agg1_mk, agg2_mk, agg3_mk, agg4_mk, asAggm, unCons_mk, unNil_mk, asTup_mk, extractD0, extractD1, List.toList_toArray, nilP_mk, add_mk, Nat.zero_add, Nat.add_zero, condT, condF, Bool.not_true, Bool.not_false, Option.isNone_some, Option.isNone_none]
  refine rcBeginC h9 (k := 0) rfl fun H10 h10 => ?_
  generalize (⟨[(1, (5, false))], [(⟨2, 7⟩, 5)], [1], 2, false, 0⟩ : Ps) = p at *
  have h10 : St H0 (RcP rc hb pb (rcNew 3) :: PaintP pb hb p :: HeapP hb s :: L) H10 := h10
  let cs : Nat → Rc := fun i => match i with
    | 0 => rcNew 3
    | 1 => ⟨3, 1, some ⟨1, [1], [1], []⟩, []⟩
    | 2 => ⟨3, 1, some ⟨1, [1], [], [(⟨2, 7⟩, 1)]⟩, []⟩
    | _ => ⟨3, 1, none, [(1, [⟨2, 7⟩])]⟩
  have hcs : ∀ i, (rcStep s p (cs i)).2 = cs (i + 1) := fun i => by
    match i with
    | 0 => show (rcStep s p (rcNew 3)).2 = _; rw [k2]; rfl
    | 1 => show (rcStep s p ⟨3, 1, some ⟨1, [1], [1], []⟩, []⟩).2 = _; rw [k3]; rfl
    | 2 => show (rcStep s p ⟨3, 1, some ⟨1, [1], [], [(⟨2, 7⟩, 1)]⟩, []⟩).2 = _; rw [k4]; rfl
    | i + 3 => show (rcStep s p ⟨3, 1, none, [(1, [⟨2, 7⟩])]⟩).2 = _; rw [k5]; rfl
  have hlt : ∀ i, (cs i).lt 800000 := fun i => by
    match i with
    | 0 => exact rcNew_lt.mono (by omega)
    | 1 => exact ⟨fun w hw => by cases hw; exact ⟨by simp, by simp, by simp⟩, by simp [cs], fun r hr => by simp [cs] at hr⟩
    | 2 => exact ⟨fun w hw => by cases hw; exact ⟨by simp, by simp, by simp⟩, by simp [cs], fun r hr => by simp [cs] at hr⟩
    | i + 3 => exact ⟨fun w hw => (by cases hw), by simp [cs], fun r hr => by simp [cs] at hr; subst hr; simp⟩
  refine ⟨fun i H' => ∃ y : Nat, i = y ∧ y ≤ 5 ∧ St H0 (RcP rc hb pb (cs y) :: PaintP pb hb p :: HeapP hb s :: L) H', fun i _ => (5 - i).toNat, ⟨0, rfl, by omega, h10⟩, ?_⟩
  rintro i H11 ⟨y, rfl, hy, h11⟩
  by_cases hc : (y : Int) < 5
  · refine bif_pos hc (rcStepC h11 (i := 2) (j := 1) (k := 0) rfl rfl rfl (by decide) (by decide) (by decide) (hlt y) fun H12 h12 => ?_)
    rw [hcs] at h12
    simp only [asI_mk', asB_mk, asP_mk, asA_mk, asM_mk, asSl_mk, asStr_mk, tup2_mk, tup3_mk, agg1_mk, agg2_mk, agg3_mk, agg4_mk, asAggm, unCons_mk, unNil_mk, asTup_mk, extractD0, extractD1, List.toList_toArray, nilP_mk, add_mk, Nat.zero_add, Nat.add_zero, condT, condF, Bool.not_true, Bool.not_false, Option.isNone_some, Option.isNone_none]
    rw [wrap_i64 (by omega) (by omega)]
    exact ⟨⟨y + 1, by omega, by omega, h12⟩, by (try dsimp only); omega⟩
  obtain rfl : y = 5 := by omega
  refine bif_neg hc (rcRowsC h11 (k := 0) rfl ((hlt 5).mono (by omega)) fun q n H12 h12 => ?_)
  have h12 : St H0 (RowsP q n [(1, [⟨2, 7⟩])] :: RcP rc hb pb ⟨3, 1, none, [(1, [⟨2, 7⟩])]⟩ :: PaintP pb hb p :: HeapP hb s :: L) H12 := h12
  show asSl (.slice q [((1 : Int), [(⟨2, 7⟩ : Id)])].length n) _
  simp only [asI_mk', asB_mk, asP_mk, asA_mk, asM_mk, asSl_mk, asStr_mk, tup2_mk, tup3_mk, agg1_mk, agg2_mk, agg3_mk, agg4_mk, asAggm, unCons_mk, unNil_mk, asTup_mk, extractD0, extractD1, List.toList_toArray, nilP_mk, add_mk, Nat.zero_add, Nat.add_zero, condT, condF, Bool.not_true, Bool.not_false, Option.isNone_some, Option.isNone_none]
  refine bif_eq rfl ?_
  obtain ⟨qs, v⟩ := rowsV h12 (i := 0) rfl
  obtain ⟨r, rfl⟩ : ∃ r, qs = [r] := by
    have := v.len
    match qs, this with
    | [r], _ => exact ⟨r, rfl⟩
  have hr1 : r.1 = (1, [⟨2, 7⟩]) := by
    have := v.1
    simpa using this
  have at0 : ∀ Q : Addr → Prop, (∀ a, hcell H12 a = some (.int .u64 1) → hcell H12 (a.add 1) = some (.slice r.2.1 1 r.2.2) → Q a) → idxA q 1 0 2 Q := fun Q hQ => by
    refine idxS rcRowC_len ((0, []), (none, 0)) v.2.1 (by omega) (by omega) (by simp) fun b o hp hl hcs => hQ _ ?_ ?_
    · have := hcs 0 (by omega)
      simp only [Int.toNat_zero, List.getD_cons_zero, rcRowC, hr1] at this
      exact this
    · have := hcs 1 (by omega)
      simp only [Int.toNat_zero, List.getD_cons_zero, rcRowC, hr1] at this
      exact this
  refine at0 _ fun a c0 c1 => ldI_of c0 (bif_eq rfl (at0 _ fun a c0 c1 => ldSl_of c1 (bif_eq rfl (at0 _ fun a c0 c1 => ldSl_of c1 ?_))))
  have hrd := v.2.2 r (by simp)
  rw [hr1] at hrd
  refine idxS Id.len noId hrd (by omega) (by omega) (by simp) fun b o hp hl hcs => ?_
  have d0 := hcs 0 (by omega)
  have d1 := hcs 1 (by omega)
  simp only [Int.toNat_zero, List.getD_cons_zero, Id.cells] at d0 d1
  refine ldI_of d0 (ldI_of d1 (idEq ?_))
  simp only [decide_true]
  simp only [asI_mk', asB_mk, asP_mk, asA_mk, asM_mk, asSl_mk, asStr_mk, tup2_mk, tup3_mk, agg1_mk, agg2_mk, agg3_mk, agg4_mk, asAggm, unCons_mk, unNil_mk, asTup_mk, extractD0, extractD1, List.toList_toArray, nilP_mk, add_mk, Nat.zero_add, Nat.add_zero, condT, condF, Bool.not_true, Bool.not_false, Option.isNone_some, Option.isNone_none]
  refine rcStepC h12 (i := 3) (j := 2) (k := 1) rfl rfl rfl (by decide) (by decide) (by decide) (hlt 5) fun H13 h13 => ?_
  rw [k5] at h13 ⊢
  simp only [asI_mk', asB_mk, asP_mk, asA_mk, asM_mk, asSl_mk, asStr_mk, tup2_mk, tup3_mk, agg1_mk, agg2_mk, agg3_mk, agg4_mk, asAggm, unCons_mk, unNil_mk, asTup_mk, extractD0, extractD1, List.toList_toArray, nilP_mk, add_mk, Nat.zero_add, Nat.add_zero, condT, condF, Bool.not_true, Bool.not_false, Option.isNone_some, Option.isNone_none]
  exact hK H13 (St.lesses (M := [_, _, _, _]) h13)

/-- What is met is another node's. -/
def Ps.far (s : Hs) (p : Ps) : Prop := ∀ e ∈ p.met, e.1.n ≠ s.node
theorem Ps.far.shade {s : Hs} {p : Ps} {x : Id} {r : Int} (h : p.far s) : (pShade s p x r).far s := by
  intro e he
  rcases shade_met (s := s) (p := p) (x := x) (r := r) with hm | ⟨_, hn, hm, _⟩
  · rw [hm] at he; exact h e he
  · rw [hm] at he
    rcases mput_mem he with rfl | he
    · exact hn
    · exact h e he
theorem Ps.far.shades {s : Hs} {p : Ps} {l : List Id} {r : Int} (h : p.far s) : (pShades s p l r).far s := by
  unfold pShades
  induction l generalizing p with
  | nil => exact h
  | cons y l ih => exact ih h.shade
theorem Ps.far.scan {s : Hs} {p : Ps} {k : Int} (h : p.far s) : (pScan s p k).2.far s := by
  unfold pScan
  split
  · exact Ps.far.shades (p := { p with marks := _ }) h
  · exact h

set_option maxRecDepth 20000 in
theorem paintedC {H0 H : Hp} {L : List Prt} {i j hb rb : Nat} {s : Hs} {lP : Option Addr} {lL lC : Nat} {l : List E_law14_Way} {K : Value → Hp → Prop} (h : St H0 L H) (hi : L[i]? = some (HeapP hb s)) (hj : L[j]? = some (RHeap rb s)) (hlast : s.last ≤ 1000)
    (hr : Rd H0 5 lP lL (cel E_law14_Way.cells l)) (hl : lL ≤ 9223372036854775807) (hok : ∀ x ∈ l, x.ok) (hK : ∀ pb qb p H', p.lt 1000 → p.far s → St H0 (RPaint qb rb p :: PaintP pb hb p :: L) H' → K (.tuple #[.pointer (some ⟨pb, 0, none⟩), .pointer (some ⟨qb, 0, none⟩)]) H') :
    hcall PR f_law14_painted ⟨[.pointer (some ⟨hb, 0, none⟩), .pointer (some ⟨rb, 0, none⟩), .slice lP lL lC]⟩ H K := by
  apply den_law14_painted
  unfold B_law14_painted
  have ho := heap_ok h hi
  have hln := ho.last
  refine pNewOk h (by omega) (by omega) fun pb H1 h1 => ?_
  simp only [asI_mk', asB_mk, asP_mk, asA_mk, asM_mk, asSl_mk, asStr_mk, tup2_mk, tup3_mk, agg1_mk, agg2_mk, agg3_mk, agg4_mk, asAggm, unCons_mk, unNil_mk, asTup_mk, extractD0, extractD1, List.toList_toArray, nilP_mk, add_mk, Nat.zero_add, Nat.add_zero, condT, condF, Bool.not_true, Bool.not_false, Option.isNone_some, Option.isNone_none]
  refine bif_neqf rfl ?_
  refine rNewPaintC h1 (by omega) (by omega) fun qb H2 h2 => ?_
  simp only [asI_mk', asB_mk, asP_mk, asA_mk, asM_mk, asSl_mk, asStr_mk, tup2_mk, tup3_mk, agg1_mk, agg2_mk, agg3_mk, agg4_mk, asAggm, unCons_mk, unNil_mk, asTup_mk, extractD0, extractD1, List.toList_toArray, nilP_mk, add_mk, Nat.zero_add, Nat.add_zero, condT, condF, Bool.not_true, Bool.not_false, Option.isNone_some, Option.isNone_none]
  refine ⟨fun t H' => ∃ (y : Nat) (p : Ps), t = y ∧ y ≤ lL ∧ y ≤ 100 ∧ p.lt (9 * y) ∧ p.far s ∧ St H0 (RPaint qb rb p :: PaintP pb hb p :: L) H', fun t _ => ((lL : Int) - t).toNat, ⟨0, newPs 4, rfl, by omega, by omega, newPs_lt, fun e he => (by cases he), h2⟩, ?_⟩
  clear h2 h1
  rintro t H3 ⟨y, p, rfl, hy, hy2, hlt, hfar, h3⟩
  by_cases hc : (y : Int) < (lL : Int)
  rotate_left
  · exact bif_neg hc (hK pb qb p H3 (hlt.mono (by omega)) hfar h3)
  refine bif_pos hc ?_
  by_cases hc2 : (y : Int) < 100
  rotate_left
  · exact bif_neg hc2 (hK pb qb p H3 (hlt.mono (by omega)) hfar h3)
  refine bif_pos hc2 ?_
  clear hK
  intro R19 hR19
  have hR19 : ∀ p H', p.lt (9 * (y + 1)) → p.far s → St H0 (RPaint qb rb p :: PaintP pb hb p :: L) H' → R19 H' := fun p H' hlt hf h' => by
    refine hR19 H' ?_
    rw [wrap_i64 (by omega) (by omega)]
    exact ⟨⟨y + 1, p, by omega, by omega, by omega, hlt, hf, h'⟩, by (try dsimp only); omega⟩
  have rr := h3.rd hr
  refine idxS E_law14_Way.len ⟨0, 0, 0, 0, false⟩ rr (by omega) (by omega) hc fun b1 o1 hp hjl hcs => ?_
  have hat : ∀ (L' : List Prt) H' (q : Nat), St H0 L' H' → q < 5 → hcell H' ⟨b1, o1 + (y : Int).toNat * 5 + q, none⟩ = (E_law14_Way.cells (l.getD (y : Int).toNat ⟨0, 0, 0, 0, false⟩))[q]? := fun L' H' q h' hq =>
    (h'.rd hr).cel_at' E_law14_Way.len ⟨0, 0, 0, 0, false⟩ hp hjl hq
  have hidx : ∀ Q : Addr → Prop, Q ⟨b1, o1 + (y : Int).toNat * 5, none⟩ → idxA lP lL (y : Int) 5 Q := fun Q hQ => idxA_of rr (by omega) hc fun b' o' hp' _ => by
    obtain ⟨rfl, rfl⟩ : b1 = b' ∧ o1 = o' := by rw [hp] at hp'; simpa using hp'
    exact hQ
  have hx := hok _ (List.getElem_mem hjl)
  have hgd : l.getD (y : Int).toNat ⟨0, 0, 0, 0, false⟩ = l[(y : Int).toNat] := by rw [List.getD_eq_getElem?_getD, List.getElem?_eq_getElem hjl]; rfl
  rw [← hgd] at hx
  clear hgd
  generalize l.getD (y : Int).toNat ⟨0, 0, 0, 0, false⟩ = x at hx hcs hat
  have hi' : ∀ A B : Prt, (A :: B :: L)[i + 2]? = some (HeapP hb s) := fun A B => hi
  have hj' : ∀ A B : Prt, (A :: B :: L)[j + 2]? = some (RHeap rb s) := fun A B => hj
  refine ldI_of (hcs 0 (by omega)) ?_
  obtain ⟨y1, N1, g1, _, _⟩ := rheapOpenL (i := j + 2) h3 (hj' _ _) (.inl rfl)
  (try simp only [asI_mk', asB_mk, asP_mk, asA_mk, asM_mk, asSl_mk, asStr_mk, tup2_mk, tup3_mk, agg1_mk, agg2_mk, agg3_mk, agg4_mk, asAggm, unCons_mk, unNil_mk, asTup_mk, extractD0, extractD1, List.toList_toArray, nilP_mk, add_mk, Nat.zero_add, Nat.add_zero, condT, condF, Bool.not_true, Bool.not_false, Option.isNone_some, Option.isNone_none])
  refine ldI_of (rheapV g1).last ?_
  clear g1
  have w3 : IntKind.u64.wrap (s.last + 1) = s.last + 1 := wrap_u64' (by omega) (by omega)
  rw [w3]
  refine ⟨by omega, ?_⟩
  generalize Int.tmod x.Serial (s.last + 1) = k
  refine hidx _ ?_
  simp only [asI_mk', asB_mk, asP_mk, asA_mk, asM_mk, asSl_mk, asStr_mk, tup2_mk, tup3_mk, agg1_mk, agg2_mk, agg3_mk, agg4_mk, asAggm, unCons_mk, unNil_mk, asTup_mk, extractD0, extractD1, List.toList_toArray, nilP_mk, add_mk, Nat.zero_add, Nat.add_zero, condT, condF, Bool.not_true, Bool.not_false, Option.isNone_some, Option.isNone_none]
  refine ldI_of (hat _ H3 1 h3 (by omega)) ?_
  refine pShadeC (y := ⟨1, k⟩) h3 (i := i + 2) (j := 1) (hi' _ _) rfl (by omega) fun H4 h4 => hidx _ ?_
  simp only [asI_mk', asB_mk, asP_mk, asA_mk, asM_mk, asSl_mk, asStr_mk, tup2_mk, tup3_mk, agg1_mk, agg2_mk, agg3_mk, agg4_mk, asAggm, unCons_mk, unNil_mk, asTup_mk, extractD0, extractD1, List.toList_toArray, nilP_mk, add_mk, Nat.zero_add, Nat.add_zero, condT, condF, Bool.not_true, Bool.not_false, Option.isNone_some, Option.isNone_none]
  refine ldI_of (hat _ H4 1 h4 (by omega)) ?_
  refine rShadeC (y := ⟨1, k⟩) h4 (i := j + 2) (j := 0) (p := p) (hj' _ _) rfl (by omega) (hlt.mono (by omega)) fun H5 h5 => hidx _ ?_
  have h5 : St H0 (RPaint qb rb (pShade s p ⟨1, k⟩ x.Rank) :: PaintP pb hb (pShade s p ⟨1, k⟩ x.Rank) :: L) H5 := h5
  have hlt1 := hlt.shade (s := s) (x := ⟨1, k⟩) (r := x.Rank)
  have hfar1 := hfar.shade (x := ⟨1, k⟩) (r := x.Rank)
  generalize pShade s p ⟨1, k⟩ x.Rank = p1 at h5 hlt1 hfar1
  clear h4 h3
  simp only [asI_mk', asB_mk, asP_mk, asA_mk, asM_mk, asSl_mk, asStr_mk, tup2_mk, tup3_mk, agg1_mk, agg2_mk, agg3_mk, agg4_mk, asAggm, unCons_mk, unNil_mk, asTup_mk, extractD0, extractD1, List.toList_toArray, nilP_mk, add_mk, Nat.zero_add, Nat.add_zero, condT, condF, Bool.not_true, Bool.not_false, Option.isNone_some, Option.isNone_none]
  refine ldI_of (hat _ H5 2 h5 (by omega)) (ldI_of (by rw [Nat.add_assoc]; exact hat _ H5 3 h5 (by omega)) (hidx _ ?_))
  simp only [asI_mk', asB_mk, asP_mk, asA_mk, asM_mk, asSl_mk, asStr_mk, tup2_mk, tup3_mk, agg1_mk, agg2_mk, agg3_mk, agg4_mk, asAggm, unCons_mk, unNil_mk, asTup_mk, extractD0, extractD1, List.toList_toArray, nilP_mk, add_mk, Nat.zero_add, Nat.add_zero, condT, condF, Bool.not_true, Bool.not_false, Option.isNone_some, Option.isNone_none]
  refine ldI_of (hat _ H5 1 h5 (by omega)) ?_
  refine pShadeC (y := ⟨x.Out_Node, x.Out_Serial⟩) h5 (i := i + 2) (j := 1) (hi' _ _) rfl (by omega) fun H6 h6 => hidx _ ?_
  simp only [asI_mk', asB_mk, asP_mk, asA_mk, asM_mk, asSl_mk, asStr_mk, tup2_mk, tup3_mk, agg1_mk, agg2_mk, agg3_mk, agg4_mk, asAggm, unCons_mk, unNil_mk, asTup_mk, extractD0, extractD1, List.toList_toArray, nilP_mk, add_mk, Nat.zero_add, Nat.add_zero, condT, condF, Bool.not_true, Bool.not_false, Option.isNone_some, Option.isNone_none]
  refine ldI_of (hat _ H6 2 h6 (by omega)) (ldI_of (by rw [Nat.add_assoc]; exact hat _ H6 3 h6 (by omega)) (hidx _ ?_))
  simp only [asI_mk', asB_mk, asP_mk, asA_mk, asM_mk, asSl_mk, asStr_mk, tup2_mk, tup3_mk, agg1_mk, agg2_mk, agg3_mk, agg4_mk, asAggm, unCons_mk, unNil_mk, asTup_mk, extractD0, extractD1, List.toList_toArray, nilP_mk, add_mk, Nat.zero_add, Nat.add_zero, condT, condF, Bool.not_true, Bool.not_false, Option.isNone_some, Option.isNone_none]
  refine ldI_of (hat _ H6 1 h6 (by omega)) ?_
  refine rShadeC (y := ⟨x.Out_Node, x.Out_Serial⟩) h6 (i := j + 2) (j := 0) (p := p1) (hj' _ _) rfl (by omega) (hlt1.mono (by omega)) fun H7 h7 => hidx _ ?_
  have h7 : St H0 (RPaint qb rb (pShade s p1 ⟨x.Out_Node, x.Out_Serial⟩ x.Rank) :: PaintP pb hb (pShade s p1 ⟨x.Out_Node, x.Out_Serial⟩ x.Rank) :: L) H7 := h7
  have hlt2 := hlt1.shade (s := s) (x := ⟨x.Out_Node, x.Out_Serial⟩) (r := x.Rank)
  have hfar2 := hfar1.shade (x := ⟨x.Out_Node, x.Out_Serial⟩) (r := x.Rank)
  generalize pShade s p1 ⟨x.Out_Node, x.Out_Serial⟩ x.Rank = p2 at h7 hlt2 hfar2
  clear h6 h5
  simp only [asI_mk', asB_mk, asP_mk, asA_mk, asM_mk, asSl_mk, asStr_mk, tup2_mk, tup3_mk, agg1_mk, agg2_mk, agg3_mk, agg4_mk, asAggm, unCons_mk, unNil_mk, asTup_mk, extractD0, extractD1, List.toList_toArray, nilP_mk, add_mk, Nat.zero_add, Nat.add_zero, condT, condF, Bool.not_true, Bool.not_false, Option.isNone_some, Option.isNone_none]
  refine ldB_of (hat _ H7 4 h7 (by omega)) ?_
  cases x.Scan
  · simp only [condF]
    exact hR19 p2 H7 (hlt2.mono (by omega)) hfar2 h7
  · simp only [condT]
    refine pScanC h7 (i := i + 2) (j := 1) (hi' _ _) rfl (by omega) fun H8 h8 => ?_
    simp only [asI_mk', asB_mk, asP_mk, asA_mk, asM_mk, asSl_mk, asStr_mk, tup2_mk, tup3_mk, agg1_mk, agg2_mk, agg3_mk, agg4_mk, asAggm, unCons_mk, unNil_mk, asTup_mk, extractD0, extractD1, List.toList_toArray, nilP_mk, add_mk, Nat.zero_add, Nat.add_zero, condT, condF, Bool.not_true, Bool.not_false, Option.isNone_some, Option.isNone_none]
    refine rScanC h8 (i := j + 2) (j := 0) (p := p2) (hj' _ _) rfl (by omega) (hlt2.mono (by omega)) fun H9 h9 => ?_
    simp only [asI_mk', asB_mk, asP_mk, asA_mk, asM_mk, asSl_mk, asStr_mk, tup2_mk, tup3_mk, agg1_mk, agg2_mk, agg3_mk, agg4_mk, asAggm, unCons_mk, unNil_mk, asTup_mk, extractD0, extractD1, List.toList_toArray, nilP_mk, add_mk, Nat.zero_add, Nat.add_zero, condT, condF, Bool.not_true, Bool.not_false, Option.isNone_some, Option.isNone_none]
    exact hR19 _ H9 ((hlt2.scan ho).mono (by omega)) hfar2.scan h9


end Go.Proofs.YtojcacejgbnfkaaGreat

namespace Go.Proofs.YtojcacejgbnfkaaGreat
open Go
set_option linter.unusedVariables false
set_option maxRecDepth 100000
def B_law14_ReachPlays (gRefsP1 : Option Addr) (gRefsL2 : Nat) (gRefsC3 : Nat) (gOutP4 : Option Addr) (gOutL5 : Nat) (gOutC6 : Nat) (gInP7 : Option Addr) (gInL8 : Nat) (gInC9 : Nat) (lP10 : Option Addr) (lL11 : Nat) (lC12 : Nat) (suspect13 : Int) (setsP14 : Option Addr) (setsL15 : Nat) (setsC16 : Nat) (H : Hp) (K : Value → Hp → Prop) : Prop :=
 newB (.cells #[(.slice gRefsP1 gRefsL2 gRefsC3), (.slice gOutP4 gOutL5 gOutC6), (.slice gInP7 gInL8 gInC9)] ty_hand_Graph) H fun b17 Hx18 =>
 ldSl ⟨b17, 0, none⟩ Hx18 fun RefsP19 RefsL20 RefsC21 =>
 ldSl ⟨b17, 1, none⟩ Hx18 fun OutP22 OutL23 OutC24 =>
 ldSl ⟨b17, 2, none⟩ Hx18 fun InP25 InL26 InC27 =>
 hcall PR f_hand_Graph_Heaps ⟨[(.agg #[(.slice RefsP19 RefsL20 RefsC21), (.slice OutP22 OutL23 OutC24), (.slice InP25 InL26 InC27)]), (.int .i64 25)]⟩ Hx18 fun v28 Hx29 =>
 tup2 v28 fun v30 v31 =>
 asP v30 fun t32 =>
 asP v31 fun t33 =>
 hcall PR f_law14_known ⟨[]⟩ Hx29 fun v34 Hx35 =>
 asB v34 fun t36 =>
 (bif (!t36) then
 K (.bool false) Hx35
else
 (bif (Option.isNone (α := Addr) t32) then
 K (.bool false) Hx35
else
 hcall PR f_law14_painted ⟨[(.pointer t32), (.pointer t33), (.slice lP10 lL11 lC12)]⟩ Hx35 fun v37 Hx38 =>
 tup2 v37 fun v39 v40 =>
 asP v39 fun t41 =>
 asP v40 fun t42 =>
 (bif (Option.isNone (α := Addr) t41) then
 K (.bool false) Hx38
else
 hcall PR f_reach_New ⟨[(.pointer t32), (.pointer t41)]⟩ Hx38 fun v43 Hx44 =>
 tup2 v43 fun v45 v46 =>
 asP v45 fun t47 =>
 asI .i64 v46 fun t48 =>
 (bif ((t48 : Int) != 0) then
 K (.bool false) Hx44
else
 (bif (Option.isNone (α := Addr) t47) then
 K (.bool false) Hx44
else
 hcall PR f_hand_Pick ⟨[(.int .i64 suspect13), (.int .i64 9)]⟩ Hx44 fun v49 Hx50 =>
 asI .i64 v49 fun t51 =>
 newB (.cells #[(.pointer t33), (.pointer t42), (.slice none 0 0), (.int .u64 0), (.int .i64 0), (.bool false), (.int .u64 0), (.slice none 0 0), (.slice none 0 0), (.int .i64 0), (.slice none 0 0), (.slice none 0 0)] ty_ref11_Reacher) Hx50 fun b52 Hx53 =>
 hcall PR f_reach_Reacher_Begin ⟨[(.pointer t47), (.int .i64 t51)]⟩ Hx53 fun v54 Hx55 =>
 hcall PR f_ref11_Reacher_Begin ⟨[(.pointer (some ⟨b52, 0, none⟩)), (.int .i64 t51)]⟩ Hx55 fun v56 Hx57 =>
 ∀ R58 : Hp → Prop, (∀ Hx59 : Hp, (
 hcall PR f_reach_Reacher_Rows ⟨[(.pointer t47)]⟩ Hx59 fun v60 Hx61 =>
 asSl v60 fun tP62 tL63 tC64 =>
 ∃ (I65 : Int → Hp → Prop) (m66 : Int → Hp → Nat), I65 0 Hx61 ∧ ∀ i68 : Int, ∀ Hx67 : Hp, I65 i68 Hx67 →
 (bif (decide ((i68 : Int) < (tL63 : Int))) then
 idxA tP62 tL63 i68 2 fun el69 =>
 st el69 (.int .u64 77) Hx67 fun Hx70 =>
 ∃ (I71 : Int → Hp → Prop) (m72 : Int → Hp → Nat), I71 0 Hx70 ∧ ∀ k74 : Int, ∀ Hx73 : Hp, I71 k74 Hx73 →
 idxA tP62 tL63 i68 2 fun el75 =>
 ldSl (el75.add 1) Hx73 fun OutsP76 OutsL77 OutsC78 =>
 (bif (decide ((k74 : Int) < (OutsL77 : Int))) then
 idxA tP62 tL63 i68 2 fun el79 =>
 ldSl (el79.add 1) Hx73 fun OutsP80 OutsL81 OutsC82 =>
 idxA OutsP80 OutsL81 k74 2 fun el83 =>
 st el83 (.int .i64 0) Hx73 fun Hx84 =>
 st (el83.add 1) (.int .u64 0) Hx84 fun Hx85 =>
 I71 (IntKind.i64.wrap (k74 + 1)) Hx85 ∧ m72 (IntKind.i64.wrap (k74 + 1)) Hx85 < m72 k74 Hx73
else
 I65 (IntKind.i64.wrap (i68 + 1)) Hx73 ∧ m66 (IntKind.i64.wrap (i68 + 1)) Hx73 < m66 i68 Hx67)
else
 ldSl ⟨b52, 2, none⟩ Hx67 fun RowsP86 RowsL87 RowsC88 =>
 hcall PR f_reach_Reacher_Rows ⟨[(.pointer t47)]⟩ Hx67 fun v89 Hx90 =>
 asSl v89 fun tP91 tL92 tC93 =>
 (ldSl ⟨b52, 2, none⟩ Hx90 fun RowsP94 RowsL95 RowsC96 =>
 ((.slice RowsP94 RowsL95 RowsC96) : Value) = (.slice RowsP86 RowsL87 RowsC88)) ∧
 hcall PR f_hand_Rows ⟨[(.slice tP91 tL92 tC93), (.slice RowsP86 RowsL87 RowsC88)]⟩ Hx90 fun v97 Hx98 =>
 asB v97 fun t99 =>
 K (.bool t99) Hx98)) → R58 Hx59) →
 ∃ (I100 : Int → Hp → Prop) (m101 : Int → Hp → Nat), I100 0 Hx57 ∧ ∀ i103 : Int, ∀ Hx102 : Hp, I100 i103 Hx102 →
 (bif (decide ((i103 : Int) < 2000)) then
 ∀ R104 : Hp → Prop, (∀ Hx105 : Hp, (
 I100 (IntKind.i64.wrap (i103 + 1)) Hx105 ∧ m101 (IntKind.i64.wrap (i103 + 1)) Hx105 < m101 i103 Hx102) → R104 Hx105) →
 hcall PR f_reach_Reacher_Step ⟨[(.pointer t47)]⟩ Hx102 fun v106 Hx107 =>
 asB v106 fun t108 =>
 hcall PR f_ref11_Reacher_Step ⟨[(.pointer (some ⟨b52, 0, none⟩))]⟩ Hx107 fun v109 Hx110 =>
 asB v109 fun t111 =>
 (bif (!(t108 == t111)) then
 K (.bool false) Hx110
else
 ldSl ⟨b52, 2, none⟩ Hx110 fun RowsP112 RowsL113 RowsC114 =>
 hcall PR f_reach_Reacher_Rows ⟨[(.pointer t47)]⟩ Hx110 fun v115 Hx116 =>
 asSl v115 fun tP117 tL118 tC119 =>
 (ldSl ⟨b52, 2, none⟩ Hx116 fun RowsP120 RowsL121 RowsC122 =>
 ((.slice RowsP120 RowsL121 RowsC122) : Value) = (.slice RowsP112 RowsL113 RowsC114)) ∧
 hcall PR f_hand_Rows ⟨[(.slice tP117 tL118 tC119), (.slice RowsP112 RowsL113 RowsC114)]⟩ Hx116 fun v123 Hx124 =>
 asB v123 fun t125 =>
 (bif (!t125) then
 K (.bool false) Hx124
else
 (bif (!t108) then
 R58 Hx124
else
 (bif (decide ((i103 : Int) < (setsL15 : Int))) then
 idxA setsP14 setsL15 i103 5 fun el126 =>
 ldB (el126.add 4) Hx124 fun Scan127 =>
 (bif Scan127 then
 idxA setsP14 setsL15 i103 5 fun el128 =>
 ldI .u64 el128 Hx124 fun Serial129 =>
 nilP t33 fun ta130 =>
 ldI .u64 (ta130.add 2) Hx124 fun Last131 =>
 ((IntKind.u64.wrap (Last131 + 1)) : Int) ≠ 0 ∧
 idxA setsP14 setsL15 i103 5 fun el132 =>
 ldI .i64 (el132.add 2) Hx124 fun Node133 =>
 ldI .u64 ((el132.add 2).add 1) Hx124 fun Serial134 =>
 hcall PR f_heap_Heap_SetRef ⟨[(.pointer t32), (.int .u64 (Int.tmod Serial129 (IntKind.u64.wrap (Last131 + 1)))), (.int .i64 0), (.agg #[(.int .i64 Node133), (.int .u64 Serial134)])]⟩ Hx124 fun v135 Hx136 =>
 tup2 v135 fun v137 v138 =>
 agg2 v137 fun v139 v140 =>
 asI .i64 v139 fun Node141 =>
 asI .u64 v140 fun Serial142 =>
 asI .i64 v138 fun t143 =>
 idxA setsP14 setsL15 i103 5 fun el144 =>
 ldI .i64 (el144.add 2) Hx136 fun Node145 =>
 ldI .u64 ((el144.add 2).add 1) Hx136 fun Serial146 =>
 hcall PR f_ref8_Heap_SetRef ⟨[(.pointer t33), (.int .u64 (Int.tmod Serial129 (IntKind.u64.wrap (Last131 + 1)))), (.int .i64 0), (.agg #[(.int .i64 Node145), (.int .u64 Serial146)])]⟩ Hx136 fun v147 Hx148 =>
 tup2 v147 fun v149 v150 =>
 agg2 v149 fun v151 v152 =>
 asI .i64 v151 fun Node153 =>
 asI .u64 v152 fun Serial154 =>
 asI .i64 v150 fun t155 =>
 R104 Hx148
else
 R104 Hx124)
else
 R104 Hx124))))
else
 R58 Hx102))))))
theorem E_law14_ReachPlays (gRefsP1 : Option Addr) (gRefsL2 : Nat) (gRefsC3 : Nat) (gOutP4 : Option Addr) (gOutL5 : Nat) (gOutC6 : Nat) (gInP7 : Option Addr) (gInL8 : Nat) (gInC9 : Nat) (lP10 : Option Addr) (lL11 : Nat) (lC12 : Nat) (suspect13 : Int) (setsP14 : Option Addr) (setsL15 : Nat) (setsC16 : Nat) (H : Hp) (K : Value → Hp → Prop) : B_law14_ReachPlays gRefsP1 gRefsL2 gRefsC3 gOutP4 gOutL5 gOutC6 gInP7 gInL8 gInC9 lP10 lL11 lC12 suspect13 setsP14 setsL15 setsC16 H K = denF Tryz.prog Tryz.f6 (.seq none .n (.seq none .n (.seq none .n (.seq none .n (.seq none .n (.seq none .n (.seq none .n (.seq none .n (.seq none .n (.seq none .n (.seq none .n (.seq (some ⟨[], [13, 15]⟩) (.seq none .n (.sub (.loop ⟨[(16, .int .i64)], [3, 9, 10, 13, 15]⟩ (.seq none .n (.seq (some ⟨[], [3, 9, 10, 13, 15, 16]⟩) .n .n))))) (.seq none .n (.seq none (.seq none .n (.sub (.loop ⟨[(20, .int .i64)], [13, 15, 19]⟩ (.seq none .n (.seq none (.sub (.seq none .n (.seq none .n (.sub (.loop ⟨[(21, .int .i64)], [13, 15, 19, 20]⟩ .n))))) .n))))) .n)))))))))))))) [(.agg #[(.slice gRefsP1 gRefsL2 gRefsC3), (.slice gOutP4 gOutL5 gOutC6), (.slice gInP7 gInL8 gInC9)]), (.slice lP10 lL11 lC12), (.int .i64 suspect13), (.slice setsP14 setsL15 setsC16)] H K := by kernel_rfl
theorem den_law14_ReachPlays {gRefsP1 : Option Addr} {gRefsL2 : Nat} {gRefsC3 : Nat} {gOutP4 : Option Addr} {gOutL5 : Nat} {gOutC6 : Nat} {gInP7 : Option Addr} {gInL8 : Nat} {gInC9 : Nat} {lP10 : Option Addr} {lL11 : Nat} {lC12 : Nat} {suspect13 : Int} {setsP14 : Option Addr} {setsL15 : Nat} {setsC16 : Nat} {H : Hp} {K : Value → Hp → Prop} (h : B_law14_ReachPlays gRefsP1 gRefsL2 gRefsC3 gOutP4 gOutL5 gOutC6 gInP7 gInL8 gInC9 lP10 lL11 lC12 suspect13 setsP14 setsL15 setsC16 H K) : hcall PR f_law14_ReachPlays ⟨[(.agg #[(.slice gRefsP1 gRefsL2 gRefsC3), (.slice gOutP4 gOutL5 gOutC6), (.slice gInP7 gInL8 gInC9)]), (.slice lP10 lL11 lC12), (.int .i64 suspect13), (.slice setsP14 setsL15 setsC16)]⟩ H K := denF_call Tryz.func6 PR_mixed (Eq.mp (E_law14_ReachPlays gRefsP1 gRefsL2 gRefsC3 gOutP4 gOutL5 gOutC6 gInP7 gInL8 gInC9 lP10 lL11 lC12 suspect13 setsP14 setsL15 setsC16 H K) h)

end Go.Proofs.YtojcacejgbnfkaaGreat

namespace Go.Proofs.YtojcacejgbnfkaaGreat
set_option linter.unusedSimpArgs false
set_option linter.unusedVariables false
open Go
theorem setRef_last {s : Hs} {k f : Int} {y : Id} : (hSetRef s k f y).2.2.last = s.last := by
  unfold hSetRef
  split
  · rfl
  · split <;> rfl
/-- What the document's reacher tells. -/
theorem rrV {H0 H : Hp} {L : List Prt} {k b rb qb : Nat} {u pl : Int} {rows : List (Int × List Id)} {un : Bool} {x : RrX} {F : Prop} (h : St H0 L H) (hk : L[k]? = some (Prt.list (rrP b rb qb u pl rows un x F))) : hcell H ⟨b, 2, none⟩ = some (.slice x.rp rows.length x.rc) ∧ ∃ qs, RowsV H x.rp rows qs := by
  have g := St.open h hk
  exact ⟨g.cell (i := 0) rfl rfl, rowsV g (i := 5) rfl⟩
theorem cel_same {qs : List RcQ} {y : Nat} {r r' : RcQ} (hy : qs[y]? = some r) (e : rcRowC r' = rcRowC r) : cel rcRowC (qs.set y r') = cel rcRowC qs := by
  unfold cel
  rw [List.map_set, e]
  congr 1
  refine List.set_self ?_
  rw [List.getElem?_map, hy]
  rfl
theorem rowP_same {qs : List RcQ} {y : Nat} {r r' : RcQ} (hy : qs[y]? = some r) (e : rcRowP r' = rcRowP r) : (qs.set y r').map rcRowP = qs.map rcRowP := by
  rw [List.map_set, e]
  refine List.set_self ?_
  rw [List.getElem?_map, hy]
  rfl

set_option maxRecDepth 20000 in
theorem ReachPlays_ok {rp op ip : Option Addr} {rl rc ol oc il ic : Nat} {g : Gr} {lP : Option Addr} {lL lC : Nat} {l : List E_law14_Way} {su : Int} {tP : Option Addr} {tL tC : Nat} {t : List E_law14_Way} {H : Hp} {K : Value → Hp → Prop} (ga : GrA H rp rl op ol ip il g) (gok : g.ok)
    (hr : Rd H 5 lP lL (cel E_law14_Way.cells l)) (hl : lL ≤ 9223372036854775807) (hok : ∀ x ∈ l, x.ok) (hsu : IntKind.min .i64 ≤ su ∧ su ≤ IntKind.max .i64)
    (hrt : Rd H 5 tP tL (cel E_law14_Way.cells t)) (hlt : tL ≤ 9223372036854775807) (hokt : ∀ x ∈ t, x.ok) (hK : ∀ H', Keep Nothing H H' → K (.bool true) H') :
    hcall PR f_law14_ReachPlays ⟨[.agg #[.slice rp rl rc, .slice op ol oc, .slice ip il ic], .slice lP lL lC, .int .i64 su, .slice tP tL tC]⟩ H K := by
  apply den_law14_ReachPlays
  unfold B_law14_ReachPlays
  intro b17 hb17
  have h1 := (St.start H).alloc (o := .cells #[.slice rp rl rc, .slice op ol oc, .slice ip il ic] ty_hand_Graph) hb17
  refine ldSl_of (h1.cell (i := 0) rfl rfl) (ldSl_of (h1.cell (i := 0) rfl rfl) (ldSl_of (h1.cell (i := 0) rfl rfl) ?_))
  refine HeapsC (most := 25) (ga.st h1) gok (by omega) fun hb rb s H2 hs h2 => ?_
  have h2 := h1.join h2
  have hn : grSize g 25 ≤ 25 := by unfold grSize; split <;> omega
  generalize grSize g 25 = n at *
  (try simp only [asI_mk', asB_mk, asP_mk, asA_mk, asM_mk, asSl_mk, asStr_mk, tup2_mk, tup3_mk, agg1_mk, agg2_mk, agg3_mk, agg4_mk, asAggm, unCons_mk, unNil_mk, asTup_mk, extractD0, extractD1, List.toList_toArray, nilP_mk, add_mk, Nat.zero_add, Nat.add_zero, condT, condF, Bool.not_true, Bool.not_false, Option.isNone_some, Option.isNone_none])
  refine known14_ok h2 fun H3 h3 => ?_
  (try simp only [asI_mk', asB_mk, asP_mk, asA_mk, asM_mk, asSl_mk, asStr_mk, tup2_mk, tup3_mk, agg1_mk, agg2_mk, agg3_mk, agg4_mk, asAggm, unCons_mk, unNil_mk, asTup_mk, extractD0, extractD1, List.toList_toArray, nilP_mk, add_mk, Nat.zero_add, Nat.add_zero, condT, condF, Bool.not_true, Bool.not_false, Option.isNone_some, Option.isNone_none])
  have hsl := hs.last
  refine paintedC h3 (i := 0) (j := 1) rfl rfl (by omega) hr hl hok fun pb qb p H4 hpl _ h4 => ?_
  (try simp only [asI_mk', asB_mk, asP_mk, asA_mk, asM_mk, asSl_mk, asStr_mk, tup2_mk, tup3_mk, agg1_mk, agg2_mk, agg3_mk, agg4_mk, asAggm, unCons_mk, unNil_mk, asTup_mk, extractD0, extractD1, List.toList_toArray, nilP_mk, add_mk, Nat.zero_add, Nat.add_zero, condT, condF, Bool.not_true, Bool.not_false, Option.isNone_some, Option.isNone_none])
  refine rcNewC (hb := hb) (pb := pb) h4 fun rcb H5 h5 => ?_
  (try simp only [asI_mk', asB_mk, asP_mk, asA_mk, asM_mk, asSl_mk, asStr_mk, tup2_mk, tup3_mk, agg1_mk, agg2_mk, agg3_mk, agg4_mk, asAggm, unCons_mk, unNil_mk, asTup_mk, extractD0, extractD1, List.toList_toArray, nilP_mk, add_mk, Nat.zero_add, Nat.add_zero, condT, condF, Bool.not_true, Bool.not_false, Option.isNone_some, Option.isNone_none])
  refine bif_neqf rfl ?_
  (try simp only [Option.isNone_some, condF])
  refine Pick_ok (by omega) (by omega) ?_
  (try simp only [asI_mk', asB_mk, asP_mk, asA_mk, asM_mk, asSl_mk, asStr_mk, tup2_mk, tup3_mk, agg1_mk, agg2_mk, agg3_mk, agg4_mk, asAggm, unCons_mk, unNil_mk, asTup_mk, extractD0, extractD1, List.toList_toArray, nilP_mk, add_mk, Nat.zero_add, Nat.add_zero, condT, condF, Bool.not_true, Bool.not_false, Option.isNone_some, Option.isNone_none])
  generalize pick su 9 = u at *
  intro b52 hb52
  have h6 := h5.alloc (o := .cells #[.pointer (some ⟨rb, 0, none⟩), .pointer (some ⟨qb, 0, none⟩), .slice none 0 0, .int .u64 0, .int .i64 0, .bool false, .int .u64 0, .slice none 0 0, .slice none 0 0, .int .i64 0, .slice none 0 0, .slice none 0 0] ty_ref11_Reacher) hb52
  refine rcBeginC (u := u) h6 (k := 1) rfl fun H7 h7 => ?_
  (try simp only [asI_mk', asB_mk, asP_mk, asA_mk, asM_mk, asSl_mk, asStr_mk, tup2_mk, tup3_mk, agg1_mk, agg2_mk, agg3_mk, agg4_mk, asAggm, unCons_mk, unNil_mk, asTup_mk, extractD0, extractD1, List.toList_toArray, nilP_mk, add_mk, Nat.zero_add, Nat.add_zero, condT, condF, Bool.not_true, Bool.not_false, Option.isNone_some, Option.isNone_none])
  refine rrBeginC (q1 := .bool true) (q2 := .bool true) (u := u) h7 (k := 0) rfl fun H8 h8 => ?_
  (try simp only [asI_mk', asB_mk, asP_mk, asA_mk, asM_mk, asSl_mk, asStr_mk, tup2_mk, tup3_mk, agg1_mk, agg2_mk, agg3_mk, agg4_mk, asAggm, unCons_mk, unNil_mk, asTup_mk, extractD0, extractD1, List.toList_toArray, nilP_mk, add_mk, Nat.zero_add, Nat.add_zero, condT, condF, Bool.not_true, Bool.not_false, Option.isNone_some, Option.isNone_none])
  obtain ⟨gP, hgP⟩ : ∃ gP, gP = Prt.one b17 (.cells #[.slice rp rl rc, .slice op ol oc, .slice ip il ic] ty_hand_Graph (0, 0)) := ⟨_, rfl⟩
  have h8 : St H [RRc b52 rb qb (rcNew u), RcP rcb hb pb (rcNew u), RPaint qb rb p, PaintP pb hb p, HeapP hb s, RHeap rb s, gP] H8 := by rw [hgP]; exact h8
  clear h1 h2 h3 h4 h5 h6 h7 hgP
  have hlast : s.last ≤ 1000 := by omega
  clear hsl
  intro R58 hR58
  have hR58 : ∀ (c : Rc) (s : Hs) H', c.lt 20000 → St H [RRc b52 rb qb c, RcP rcb hb pb c, RPaint qb rb p, PaintP pb hb p, HeapP hb s, RHeap rb s, gP] H' → R58 H' := fun c s H' hclt h' => by
    refine hR58 H' ?_
    clear hR58
    have hcl := hclt.mono (m := 900000) (by omega)
    obtain ⟨x, h0⟩ := St.fixEx (A := fun x => rrP b52 rb qb c.suspect c.place c.rows c.now.isSome x (RrOk c x)) h' (i := 0) rfl
    have h0 : St H [Prt.list (rrP b52 rb qb c.suspect c.place c.rows c.now.isSome x (RrOk c x)), RcP rcb hb pb c, RPaint qb rb p, PaintP pb hb p, HeapP hb s, RHeap rb s, gP] H' := h0
    refine rcRowsC h0 (k := 1) rfl hcl fun q nq H1 h1 => ?_
    (try simp only [asI_mk', asB_mk, asP_mk, asA_mk, asM_mk, asSl_mk, asStr_mk, tup2_mk, tup3_mk, agg1_mk, agg2_mk, agg3_mk, agg4_mk, asAggm, unCons_mk, unNil_mk, asTup_mk, extractD0, extractD1, List.toList_toArray, nilP_mk, add_mk, Nat.zero_add, Nat.add_zero, condT, condF, Bool.not_true, Bool.not_false, Option.isNone_some, Option.isNone_none])
    obtain ⟨qs, g00⟩ := h1.openEx (M := fun qs : List RcQ => [Prt.row 2 q qs.length nq (cel rcRowC qs), Prt.list (qs.map rcRowP), Prt.pure (qs.map (·.1) = c.rows)]) (i := 0) rfl
    have hq : qs.map (·.1) = c.rows := g00.fact (i := 2) rfl
    have hql : qs.length = c.rows.length := by rw [← hq, List.length_map]
    have hqo : ∀ r ∈ qs, r.1.2.length ≤ 20000 := fun r hr => hclt.outs r.1 (by rw [← hq]; exact List.mem_map.2 ⟨r, hr, rfl⟩)
    have hrl := hclt.rows
    obtain ⟨P0, hP0⟩ : ∃ P0 : Prop, P0 = (qs.map (·.1) = c.rows) := ⟨_, rfl⟩
    have g0 : St H (Prt.row 2 q qs.length nq (cel rcRowC qs) :: Prt.list (qs.map rcRowP) :: Prt.pure P0 :: Prt.nil :: [Prt.list (rrP b52 rb qb c.suspect c.place c.rows c.now.isSome x (RrOk c x)), RcP rcb hb pb c, RPaint qb rb p, PaintP pb hb p, HeapP hb s, RHeap rb s, gP]) H1 := by rw [hP0]; exact g00
    clear h' h0 h1 hq hP0 g00
    refine ⟨fun i H' => ∃ (y : Nat) (qs : List RcQ), i = y ∧ y ≤ c.rows.length ∧ qs.length = c.rows.length ∧ (∀ r ∈ qs, r.1.2.length ≤ 20000) ∧ St H (Prt.row 2 q qs.length nq (cel rcRowC qs) :: Prt.list (qs.map rcRowP) :: Prt.pure P0 :: Prt.nil :: [Prt.list (rrP b52 rb qb c.suspect c.place c.rows c.now.isSome x (RrOk c x)), RcP rcb hb pb c, RPaint qb rb p, PaintP pb hb p, HeapP hb s, RHeap rb s, gP]) H', fun i _ => ((c.rows.length : Int) - i).toNat, ⟨0, qs, rfl, by omega, hql, hqo, g0⟩, ?_⟩
    clear g0 hql hqo
    clear qs
    rintro i H2 ⟨y, qs, rfl, hy, hql, hqo, g2⟩
    by_cases hc : (y : Int) < ((c.rows.length : Nat) : Int)
    rotate_left
    · refine bif_neg hc ?_
      have g3 := St.lesses (M := [_, _, _, _]) g2
      obtain ⟨v1, qx, v2⟩ := rrV g3 (k := 0) rfl
      refine ldSl_of v1 (rcRowsC g3 (k := 1) rfl hcl fun q2 n2 H3 h3 => ?_)
      (try simp only [asI_mk', asB_mk, asP_mk, asA_mk, asM_mk, asSl_mk, asStr_mk, tup2_mk, tup3_mk, agg1_mk, agg2_mk, agg3_mk, agg4_mk, asAggm, unCons_mk, unNil_mk, asTup_mk, extractD0, extractD1, List.toList_toArray, nilP_mk, add_mk, Nat.zero_add, Nat.add_zero, condT, condF, Bool.not_true, Bool.not_false, Option.isNone_some, Option.isNone_none])
      refine ⟨ldSl_of (rrV h3 (k := 1) rfl).1 rfl, ?_⟩
      obtain ⟨qa, va⟩ := rowsV h3 (i := 0) rfl
      obtain ⟨_, qx2, vx⟩ := rrV h3 (k := 1) rfl
      refine handRowsC va vx (by omega) (fun r hr => Nat.le_trans (hclt.outs r hr) (by omega)) ?_
      (try simp only [asI_mk', asB_mk, asP_mk, asA_mk, asM_mk, asSl_mk, asStr_mk, tup2_mk, tup3_mk, agg1_mk, agg2_mk, agg3_mk, agg4_mk, asAggm, unCons_mk, unNil_mk, asTup_mk, extractD0, extractD1, List.toList_toArray, nilP_mk, add_mk, Nat.zero_add, Nat.add_zero, condT, condF, Bool.not_true, Bool.not_false, Option.isNone_some, Option.isNone_none])
      exact hK H3 h3.keep
    refine bif_pos hc ?_
    rw [← hql] at hc ⊢
    have hyl : y < qs.length := by omega
    have hyg : qs[y]? = some qs[y] := List.getElem?_eq_getElem hyl
    refine idxA_of (g2.row_rd (i := 0) rfl) (by omega) hc fun b o hp _ => ?_
    rw [Int.toNat_natCast]
    refine g2.poke (i := 0) (j := y * 2) rfl hp (by omega) fun H3 g3 => ?_
    have e1 : (cel rcRowC qs).set (y * 2) (.int .u64 77) = cel rcRowC (qs.set y ((77, qs[y].1.2), qs[y].2)) :=
      cel_set1 (j := 0) rcRowC_len ((0, []), (none, 0)) hyl (by omega) (by rw [List.getD_eq_getElem?_getD, hyg]; rfl)
    have g3 : St H (Prt.row 2 q qs.length nq ((cel rcRowC qs).set (y * 2) (.int .u64 77)) :: Prt.list (qs.map rcRowP) :: Prt.pure P0 :: Prt.nil :: [Prt.list (rrP b52 rb qb c.suspect c.place c.rows c.now.isSome x (RrOk c x)), RcP rcb hb pb c, RPaint qb rb p, PaintP pb hb p, HeapP hb s, RHeap rb s, gP]) H3 := g3
    rw [e1, ← rowP_same (r' := ((77, qs[y].1.2), qs[y].2)) hyg rfl, show qs.length = (qs.set y ((77, qs[y].1.2), qs[y].2)).length from List.length_set.symm] at g3
    have hqo1 : ∀ r ∈ qs.set y ((77, qs[y].1.2), qs[y].2), r.1.2.length ≤ 20000 := fun r hr => by
      rcases List.mem_or_eq_of_mem_set hr with hr | rfl
      · exact hqo r hr
      · exact hqo qs[y] (List.getElem_mem hyl)
    have hql1 : (qs.set y ((77, qs[y].1.2), qs[y].2)).length = qs.length := List.length_set
    obtain ⟨m, hm⟩ : ∃ m, m = qs.length := ⟨_, rfl⟩
    rw [← hm] at hql1 hql hyl hc ⊢
    generalize qs.set y ((77, qs[y].1.2), qs[y].2) = qs1 at *
    refine ⟨fun k H' => ∃ (z : Nat) (qs : List RcQ), k = z ∧ z ≤ 20000 ∧ qs.length = m ∧ (∀ r ∈ qs, r.1.2.length ≤ 20000) ∧ St H (Prt.row 2 q qs.length nq (cel rcRowC qs) :: Prt.list (qs.map rcRowP) :: Prt.pure P0 :: Prt.nil :: [Prt.list (rrP b52 rb qb c.suspect c.place c.rows c.now.isSome x (RrOk c x)), RcP rcb hb pb c, RPaint qb rb p, PaintP pb hb p, HeapP hb s, RHeap rb s, gP]) H', fun k _ => (20000 - k).toNat, ⟨0, qs1, rfl, by omega, hql1, hqo1, g3⟩, ?_⟩
    clear g3 g2 hqo hqo1 hql1 hyg e1 hm
    clear qs1
    rintro k H4 ⟨z, qs, rfl, hz, hqm, hqo, g4⟩
    have hyl2 : y < qs.length := by omega
    have hyg : qs[y]? = some qs[y] := List.getElem?_eq_getElem hyl2
    have hgd : qs.getD (y : Int).toNat ((0, []), (none, 0)) = qs[y] := by rw [Int.toNat_natCast, List.getD_eq_getElem?_getD, hyg]; rfl
    rw [← hqm]
    refine idxS rcRowC_len ((0, []), (none, 0)) (g4.row_rd (i := 0) rfl) (by omega) (by omega) (by omega) fun b1 o1 hp1 _ hcc => ?_
    rw [hgd] at hcc
    have c1 := hcc 1 (by omega)
    (try simp only [asI_mk', asB_mk, asP_mk, asA_mk, asM_mk, asSl_mk, asStr_mk, tup2_mk, tup3_mk, agg1_mk, agg2_mk, agg3_mk, agg4_mk, asAggm, unCons_mk, unNil_mk, asTup_mk, extractD0, extractD1, List.toList_toArray, nilP_mk, add_mk, Nat.zero_add, Nat.add_zero, condT, condF, Bool.not_true, Bool.not_false, Option.isNone_some, Option.isNone_none])
    refine ldSl_of c1 ?_
    have hm := hqo _ (List.getElem_mem hyl2)
    obtain ⟨r, hr⟩ : ∃ r, r = qs[y] := ⟨_, rfl⟩
    rw [← hr] at hm hyg hgd c1 hcc ⊢
    by_cases hcz : (z : Int) < ((r.1.2.length : Nat) : Int)
    rotate_left
    · refine bif_neg hcz ?_
      rw [wrap_i64 (by omega) (by omega)]
      exact ⟨⟨y + 1, qs, by omega, by omega, by omega, hqo, g4⟩, by (try dsimp only); omega⟩
    refine bif_pos hcz (idxS rcRowC_len ((0, []), (none, 0)) (g4.row_rd (i := 0) rfl) (by omega) (by omega) (by omega) fun b2 o2 hp2 _ hcc2 => ?_)
    rw [hgd] at hcc2
    have c2 := hcc2 1 (by omega)
    (try simp only [asI_mk', asB_mk, asP_mk, asA_mk, asM_mk, asSl_mk, asStr_mk, tup2_mk, tup3_mk, agg1_mk, agg2_mk, agg3_mk, agg4_mk, asAggm, unCons_mk, unNil_mk, asTup_mk, extractD0, extractD1, List.toList_toArray, nilP_mk, add_mk, Nat.zero_add, Nat.add_zero, condT, condF, Bool.not_true, Bool.not_false, Option.isNone_some, Option.isNone_none])
    refine ldSl_of c2 ?_
    have g5 := g4.sub (i := 1) (k := y) (A := rcRowP r) rfl (by rw [List.getElem?_map, hyg]; rfl)
    refine idxA_of (g5.row_rd (i := 0) rfl) (by omega) hcz fun b3 o3 hp3 _ => ?_
    rw [Int.toNat_natCast]
    refine g5.poke (i := 0) (j := z * 2) rfl hp3 (by omega) fun H5 g6 => ?_
    (try simp only [asI_mk', asB_mk, asP_mk, asA_mk, asM_mk, asSl_mk, asStr_mk, tup2_mk, tup3_mk, agg1_mk, agg2_mk, agg3_mk, agg4_mk, asAggm, unCons_mk, unNil_mk, asTup_mk, extractD0, extractD1, List.toList_toArray, nilP_mk, add_mk, Nat.zero_add, Nat.add_zero, condT, condF, Bool.not_true, Bool.not_false, Option.isNone_some, Option.isNone_none])
    rw [Nat.add_assoc]
    refine g6.poke (i := 0) (j := z * 2 + 1) rfl hp3 (by omega) fun H6 g7 => ?_
    have g7 : St H (Prt.row 2 r.2.1 r.1.2.length r.2.2 (((cel Id.cells r.1.2).set (z * 2) (.int .i64 0)).set (z * 2 + 1) (.int .u64 0)) :: Prt.row 2 q qs.length nq (cel rcRowC qs) :: Prt.list ((qs.map rcRowP).set y .nil) :: Prt.pure P0 :: Prt.nil :: [Prt.list (rrP b52 rb qb c.suspect c.place c.rows c.now.isSome x (RrOk c x)), RcP rcb hb pb c, RPaint qb rb p, PaintP pb hb p, HeapP hb s, RHeap rb s, gP]) H6 := g7
    rw [cel_set2 Id.len noId (by omega) (y := noId) rfl] at g7
    obtain ⟨r', hr'⟩ : ∃ r' : RcQ, r' = ((r.1.1, r.1.2.set z noId), r.2) := ⟨_, rfl⟩
    have e2 : rcRowP r' = Prt.row 2 r.2.1 r.1.2.length r.2.2 (cel Id.cells (r.1.2.set z noId)) := by
      rw [hr']
      unfold rcRowP
      simp only [List.length_set]
    rw [← e2] at g7
    have g8 := St.unsub g7 (i := 1) (k := y) rfl (by rw [List.getElem?_set_self (by rw [List.length_map]; exact hyl2)])
    have g8 : St H (Prt.row 2 q qs.length nq (cel rcRowC qs) :: Prt.list (((qs.map rcRowP).set y .nil).set y (rcRowP r')) :: Prt.pure P0 :: Prt.nil :: [Prt.list (rrP b52 rb qb c.suspect c.place c.rows c.now.isSome x (RrOk c x)), RcP rcb hb pb c, RPaint qb rb p, PaintP pb hb p, HeapP hb s, RHeap rb s, gP]) H6 := g8
    have e3 : cel rcRowC (qs.set y r') = cel rcRowC qs := cel_same hyg (by rw [hr']; simp [rcRowC])
    have e4 : ((qs.map rcRowP).set y .nil).set y (rcRowP r') = (qs.set y r').map rcRowP := by rw [List.set_set, List.map_set]
    have e5 : qs.length = (qs.set y r').length := List.length_set.symm
    rw [e4, ← e3, e5] at g8
    rw [wrap_i64 (by omega) (by omega)]
    refine ⟨⟨z + 1, qs.set y r', by omega, by omega, by rw [List.length_set], fun a ha => ?_, g8⟩, by (try dsimp only); omega⟩
    rcases List.mem_or_eq_of_mem_set ha with ha | rfl
    · exact hqo a ha
    · rw [hr']
      simp only [List.length_set]
      exact hm
  refine ⟨fun i H' => ∃ (y : Nat) (c : Rc) (s : Hs), i = y ∧ y ≤ 2000 ∧ c.lt (7 * y) ∧ s.last ≤ 1000 ∧ St H [RRc b52 rb qb c, RcP rcb hb pb c, RPaint qb rb p, PaintP pb hb p, HeapP hb s, RHeap rb s, gP] H', fun i _ => (2000 - i).toNat, ⟨0, rcNew u, s, rfl, by omega, rcNew_lt, hlast, h8⟩, ?_⟩
  clear h8 hlast
  rintro i H9 ⟨y, c, s, rfl, hy, hclt, hlast, h9⟩
  by_cases hc : (y : Int) < 2000
  rotate_left
  · exact bif_neg hc (hR58 c s H9 (hclt.mono (by omega)) h9)
  refine bif_pos hc ?_
  intro R104 hR104
  have ho := heap_ok h9 (i := 4) rfl
  have hpok := rpaint_ok h9 (j := 2) rfl
  have hclt' := hclt.step (p := p) ho
  refine rcStepC h9 (i := 4) (j := 3) (k := 1) rfl rfl rfl (by decide) (by decide) (by decide) (hclt.mono (by omega)) fun H10 h10 => ?_
  (try simp only [asI_mk', asB_mk, asP_mk, asA_mk, asM_mk, asSl_mk, asStr_mk, tup2_mk, tup3_mk, agg1_mk, agg2_mk, agg3_mk, agg4_mk, asAggm, unCons_mk, unNil_mk, asTup_mk, extractD0, extractD1, List.toList_toArray, nilP_mk, add_mk, Nat.zero_add, Nat.add_zero, condT, condF, Bool.not_true, Bool.not_false, Option.isNone_some, Option.isNone_none])
  have h10 : St H [RRc b52 rb qb c, RcP rcb hb pb (rcStep s p c).2, RPaint qb rb p, PaintP pb hb p, HeapP hb s, RHeap rb s, gP] H10 := h10
  refine rrStepC h10 (i := 5) (j := 2) (k := 0) rfl rfl rfl (by decide) (by decide) (by decide) (hclt.mono (by omega)) (hpl.mono (by omega)) fun H11 h11 => ?_
  (try simp only [asI_mk', asB_mk, asP_mk, asA_mk, asM_mk, asSl_mk, asStr_mk, tup2_mk, tup3_mk, agg1_mk, agg2_mk, agg3_mk, agg4_mk, asAggm, unCons_mk, unNil_mk, asTup_mk, extractD0, extractD1, List.toList_toArray, nilP_mk, add_mk, Nat.zero_add, Nat.add_zero, condT, condF, Bool.not_true, Bool.not_false, Option.isNone_some, Option.isNone_none])
  have h11 : St H [RRc b52 rb qb (rcStep s p c).2, RcP rcb hb pb (rcStep s p c).2, RPaint qb rb p, PaintP pb hb p, HeapP hb s, RHeap rb s, gP] H11 := h11
  generalize (rcStep s p c).2 = c' at *
  generalize (rcStep s p c).1 = r at *
  clear h9 h10 hclt
  rw [show (!(r == r)) = false by cases r <;> rfl]
  simp only [condF]
  obtain ⟨x, h0⟩ := St.fixEx (A := fun x => rrP b52 rb qb c'.suspect c'.place c'.rows c'.now.isSome x (RrOk c' x)) h11 (i := 0) rfl
  have h0 : St H [Prt.list (rrP b52 rb qb c'.suspect c'.place c'.rows c'.now.isSome x (RrOk c' x)), RcP rcb hb pb c', RPaint qb rb p, PaintP pb hb p, HeapP hb s, RHeap rb s, gP] H11 := h0
  obtain ⟨v1, _⟩ := rrV h0 (k := 0) rfl
  refine ldSl_of v1 (rcRowsC h0 (k := 1) rfl (hclt'.mono (by omega)) fun q2 n2 H12 h12 => ?_)
  (try simp only [asI_mk', asB_mk, asP_mk, asA_mk, asM_mk, asSl_mk, asStr_mk, tup2_mk, tup3_mk, agg1_mk, agg2_mk, agg3_mk, agg4_mk, asAggm, unCons_mk, unNil_mk, asTup_mk, extractD0, extractD1, List.toList_toArray, nilP_mk, add_mk, Nat.zero_add, Nat.add_zero, condT, condF, Bool.not_true, Bool.not_false, Option.isNone_some, Option.isNone_none])
  refine ⟨ldSl_of (rrV h12 (k := 1) rfl).1 rfl, ?_⟩
  obtain ⟨qa, va⟩ := rowsV h12 (i := 0) rfl
  obtain ⟨_, qx, vx⟩ := rrV h12 (k := 1) rfl
  refine handRowsC va vx (by have := hclt'.rows; omega) (fun r hr => Nat.le_trans (hclt'.outs r hr) (by omega)) ?_
  (try simp only [asI_mk', asB_mk, asP_mk, asA_mk, asM_mk, asSl_mk, asStr_mk, tup2_mk, tup3_mk, agg1_mk, agg2_mk, agg3_mk, agg4_mk, asAggm, unCons_mk, unNil_mk, asTup_mk, extractD0, extractD1, List.toList_toArray, nilP_mk, add_mk, Nat.zero_add, Nat.add_zero, condT, condF, Bool.not_true, Bool.not_false, Option.isNone_some, Option.isNone_none])
  have h13 : St H [RRc b52 rb qb c', RcP rcb hb pb c', RPaint qb rb p, PaintP pb hb p, HeapP hb s, RHeap rb s, gP] H12 := St.unfix (A := fun x => rrP b52 rb qb c'.suspect c'.place c'.rows c'.now.isSome x (RrOk c' x)) (x := x) (i := 0) h12.less rfl
  clear h11 h0 h12 va vx v1
  cases r
  · simp only [Bool.not_false, condT]
    exact hR58 c' s H12 (hclt'.mono (by omega)) h13
  simp only [Bool.not_true, condF]
  clear hR58
  have hR104 : ∀ s' H', s'.last ≤ 1000 → St H [RRc b52 rb qb c', RcP rcb hb pb c', RPaint qb rb p, PaintP pb hb p, HeapP hb s', RHeap rb s', gP] H' → R104 H' := fun s' H' hl' h' => by
    refine hR104 H' ?_
    rw [wrap_i64 (by omega) (by omega)]
    exact ⟨⟨y + 1, c', s', by omega, by omega, hclt'.mono (by omega), hl', h'⟩, by (try dsimp only); omega⟩
  by_cases hct : (y : Int) < (tL : Int)
  rotate_left
  · exact bif_neg hct (hR104 s H12 hlast h13)
  refine bif_pos hct ?_
  have rdt : ∀ (N : List Prt) s' H' (Q : Addr → Prop), St H [RRc b52 rb qb c', RcP rcb hb pb c', RPaint qb rb p, PaintP pb hb p, HeapP hb s', RHeap rb s, gP] H' → (∀ b o, (∀ j, j < 5 → hcell H' ⟨b, o + j, none⟩ = (E_law14_Way.cells (t.getD (y : Int).toNat ⟨0, 0, 0, 0, false⟩))[j]?) → Q ⟨b, o, none⟩) → idxA tP tL (y : Int) 5 Q := fun N s' H' Q h' hQ => by
    refine idxS E_law14_Way.len ⟨0, 0, 0, 0, false⟩ (h'.rd hrt) (by omega) (by omega) hct fun b o _ _ hcc => hQ _ _ hcc
  generalize t.getD (y : Int).toNat ⟨0, 0, 0, 0, false⟩ = w at rdt
  obtain ⟨w1, w2, w30, w31, w4⟩ := w
  obtain ⟨w3, hw3⟩ : ∃ w3 : Id, w3 = ⟨w30, w31⟩ := ⟨_, rfl⟩
  refine rdt [] s H12 _ h13 fun b o hcc => ?_
  have c4 := hcc 4 (by omega)
  (try simp only [asI_mk', asB_mk, asP_mk, asA_mk, asM_mk, asSl_mk, asStr_mk, tup2_mk, tup3_mk, agg1_mk, agg2_mk, agg3_mk, agg4_mk, asAggm, unCons_mk, unNil_mk, asTup_mk, extractD0, extractD1, List.toList_toArray, nilP_mk, add_mk, Nat.zero_add, Nat.add_zero, condT, condF, Bool.not_true, Bool.not_false, Option.isNone_some, Option.isNone_none])
  refine ldB_of c4 ?_
  cases w4
  · simp only [condF]
    exact hR104 s H12 hlast h13
  simp only [condT]
  have ho := heap_ok h13 (i := 4) rfl
  have hl0 := ho.last
  have wl : IntKind.u64.wrap (s.last + 1) = s.last + 1 := wrap_u64' (by omega) (by omega)
  refine rdt [] s H12 _ h13 fun b o hcc => ?_
  have c0 := hcc 0 (by omega)
  (try simp only [asI_mk', asB_mk, asP_mk, asA_mk, asM_mk, asSl_mk, asStr_mk, tup2_mk, tup3_mk, agg1_mk, agg2_mk, agg3_mk, agg4_mk, asAggm, unCons_mk, unNil_mk, asTup_mk, extractD0, extractD1, List.toList_toArray, nilP_mk, add_mk, Nat.zero_add, Nat.add_zero, condT, condF, Bool.not_true, Bool.not_false, Option.isNone_some, Option.isNone_none])
  refine ldI_of c0 ?_
  obtain ⟨yy, N, gz, _, _⟩ := rheapOpenL (i := 5) h13 rfl (.inl rfl)
  refine ldI_of (rheapV gz).last ?_
  rw [wl]
  refine ⟨by omega, ?_⟩
  refine rdt [] s H12 _ h13 fun b o hcc => ?_
  have c2 := hcc 2 (by omega)
  have c3 := hcc 3 (by omega)
  (try simp only [asI_mk', asB_mk, asP_mk, asA_mk, asM_mk, asSl_mk, asStr_mk, tup2_mk, tup3_mk, agg1_mk, agg2_mk, agg3_mk, agg4_mk, asAggm, unCons_mk, unNil_mk, asTup_mk, extractD0, extractD1, List.toList_toArray, nilP_mk, add_mk, Nat.zero_add, Nat.add_zero, condT, condF, Bool.not_true, Bool.not_false, Option.isNone_some, Option.isNone_none])
  refine ldI_of c2 (ldI_of c3 ?_)
  subst hw3
  refine hSetRefC (y := ⟨w30, w31⟩) h13 (i := 4) rfl fun H13 h14 => ?_
  (try simp only [asI_mk', asB_mk, asP_mk, asA_mk, asM_mk, asSl_mk, asStr_mk, tup2_mk, tup3_mk, agg1_mk, agg2_mk, agg3_mk, agg4_mk, asAggm, unCons_mk, unNil_mk, asTup_mk, extractD0, extractD1, List.toList_toArray, nilP_mk, add_mk, Nat.zero_add, Nat.add_zero, condT, condF, Bool.not_true, Bool.not_false, Option.isNone_some, Option.isNone_none])
  have h14 : St H [RRc b52 rb qb c', RcP rcb hb pb c', RPaint qb rb p, PaintP pb hb p, HeapP hb (hSetRef s (Int.tmod w1 (s.last + 1)) 0 ⟨w30, w31⟩).2.2, RHeap rb s, gP] H13 := h14
  refine rdt [] _ H13 _ h14 fun b o hcc => ?_
  have c2 := hcc 2 (by omega)
  have c3 := hcc 3 (by omega)
  (try simp only [asI_mk', asB_mk, asP_mk, asA_mk, asM_mk, asSl_mk, asStr_mk, tup2_mk, tup3_mk, agg1_mk, agg2_mk, agg3_mk, agg4_mk, asAggm, unCons_mk, unNil_mk, asTup_mk, extractD0, extractD1, List.toList_toArray, nilP_mk, add_mk, Nat.zero_add, Nat.add_zero, condT, condF, Bool.not_true, Bool.not_false, Option.isNone_some, Option.isNone_none])
  refine ldI_of c2 (ldI_of c3 ?_)
  refine rSetRefC (y := ⟨w30, w31⟩) h14 (i := 5) rfl fun H14 h15 => ?_
  (try simp only [asI_mk', asB_mk, asP_mk, asA_mk, asM_mk, asSl_mk, asStr_mk, tup2_mk, tup3_mk, agg1_mk, agg2_mk, agg3_mk, agg4_mk, asAggm, unCons_mk, unNil_mk, asTup_mk, extractD0, extractD1, List.toList_toArray, nilP_mk, add_mk, Nat.zero_add, Nat.add_zero, condT, condF, Bool.not_true, Bool.not_false, Option.isNone_some, Option.isNone_none])
  exact hR104 _ H14 (by rw [setRef_last]; exact hlast) h15

end Go.Proofs.YtojcacejgbnfkaaGreat
