/- Merged by merge.py: DenLaw16, DenLaw16CycleKnown, Law16, DenLaw16CycleUnits, Law16u, DenLaw16CycleWaits, DenLaw16CycleIdle, Law16w, DenLaw16CycleJust, Law16j. No condition. -/
import Derived.Test.YtohlnmenghbgbaaGreatZNum
import Derived.Test.YtohlnmenghbgbaaGreatZCycle
import Derived.Test.YtohlnmenghbgbaaGreatZMark
import Derived.Test.YtohlnmenghbgbaaGreatZReach

namespace Go.Proofs.YtohlnmenghbgbaaGreat
open Go
set_option linter.unusedVariables false
set_option maxRecDepth 100000
def B_law16_known  (H : Hp) (K : Value → Hp → Prop) : Prop :=
 hcall PR f_heap_New ⟨[(.int .i64 1), (.int .i64 64), (.int .i64 4), (.int .u64 0)]⟩ H fun v1 Hx2 =>
 tup2 v1 fun v3 v4 =>
 asP v3 fun t5 =>
 asI .i64 v4 fun t6 =>
 (bif ((t6 : Int) != 0) then
 K (.bool false) Hx2
else
 (bif (Option.isNone (α := Addr) t5) then
 K (.bool false) Hx2
else
 hcall PR f_heap_Heap_Make ⟨[(.pointer t5), (.int .i64 1), (.int .i64 0)]⟩ Hx2 fun v7 Hx8 =>
 tup2 v7 fun v9 v10 =>
 asI .u64 v9 fun t11 =>
 asI .i64 v10 fun t12 =>
 hcall PR f_cycle_New ⟨[(.pointer t5), (.int .i64 1), (.int .i64 4), (.int .i64 3), (.int .i64 8)]⟩ Hx8 fun v13 Hx14 =>
 tup2 v13 fun v15 v16 =>
 asP v15 fun t17 =>
 asI .i64 v16 fun t18 =>
 (bif ((t18 : Int) != 0) then
 K (.bool false) Hx14
else
 (bif (Option.isNone (α := Addr) t17) then
 K (.bool false) Hx14
else
 hcall PR f_cycle_Cycle_Step ⟨[(.pointer t17), (.int .u64 0)]⟩ Hx14 fun v19 Hx20 =>
 tup2 v19 fun v21 v22 =>
 asSl v21 fun tP23 tL24 tC25 =>
 asB v22 fun t26 =>
 hcall PR f_cycle_Cycle_State ⟨[(.pointer t17)]⟩ Hx20 fun v27 Hx28 =>
 asI .i64 v27 fun t29 =>
 ∀ R30 : Bool → Hp → Prop, (∀ b32 : Bool, ∀ Hx31 : Hp, (
 hcall PR f_cycle_Cycle_State ⟨[(.pointer t17)]⟩ Hx31 fun v33 Hx34 =>
 asI .i64 v33 fun t35 =>
 hcall PR f_cycle_Cycle_Step ⟨[(.pointer t17), (.int .u64 0)]⟩ Hx34 fun v36 Hx37 =>
 tup2 v36 fun v38 v39 =>
 asSl v38 fun tP40 tL41 tC42 =>
 asB v39 fun t43 =>
 (bif (((tL24 : Int) : Int) == 0) then
 (bif (!t26) then
 (bif ((t29 : Int) == 1) then
 (bif b32 then
 (bif ((t35 : Int) == 2) then
 (bif (((tL41 : Int) : Int) == 1) then
 idxA tP40 tL41 0 1 fun el44 =>
 ldI .u64 el44 Hx37 fun t45 =>
 (bif ((t45 : Int) == 1) then
 (bif t43 then
 hcall PR f_cycle_Cycle_State ⟨[(.pointer t17)]⟩ Hx37 fun v46 Hx47 =>
 asI .i64 v46 fun t48 =>
 (bif ((t48 : Int) == 0) then
 hcall PR f_heap_Heap_Len ⟨[(.pointer t5)]⟩ Hx47 fun v49 Hx50 =>
 asI .i64 v49 fun t51 =>
 K (.bool ((t51 : Int) == 0)) Hx50
else
 K (.bool false) Hx47)
else
 K (.bool false) Hx37)
else
 K (.bool false) Hx37)
else
 K (.bool false) Hx37)
else
 K (.bool false) Hx37)
else
 K (.bool false) Hx37)
else
 K (.bool false) Hx37)
else
 K (.bool false) Hx37)
else
 K (.bool false) Hx37)) → R30 b32 Hx31) →
 hcall PR f_cycle_Cycle_Shake ⟨[(.pointer t17), (.int .i64 0), (.slice none 0 0)]⟩ Hx28 fun v52 Hx53 =>
 asB v52 fun t54 =>
 (bif t54 then
 hcall PR f_cycle_Cycle_Shake ⟨[(.pointer t17), (.int .i64 0), (.slice none 0 0)]⟩ Hx53 fun v55 Hx56 =>
 asB v55 fun t57 =>
 (bif t57 then
 hcall PR f_cycle_Cycle_Shake ⟨[(.pointer t17), (.int .i64 1), (.slice none 0 0)]⟩ Hx56 fun v58 Hx59 =>
 asB v58 fun t60 =>
 (bif t60 then
 hcall PR f_cycle_Cycle_Shake ⟨[(.pointer t17), (.int .i64 1), (.slice none 0 0)]⟩ Hx59 fun v61 Hx62 =>
 asB v61 fun t63 =>
 R30 (!t63) Hx62
else
 R30 false Hx59)
else
 R30 false Hx56)
else
 R30 false Hx53)))))
theorem E_law16_known  (H : Hp) (K : Value → Hp → Prop) : B_law16_known  H K = denF Tryz.prog Tryz.f15 (.seq none .n (.seq none .n (.seq none .n (.seq none .n (.seq none .n (.seq none .n (.seq none .n (.seq none .n (.seq (some ⟨[(8, .bool)], [1, 3, 5, 6, 7]⟩) .n .n))))))))) [] H K := by kernel_rfl
theorem den_law16_known  {H : Hp} {K : Value → Hp → Prop} (h : B_law16_known  H K) : hcall PR f_law16_known ⟨[]⟩ H K := denF_call Tryz.func15 PR_mixed (Eq.mp (E_law16_known  H K) h)

def B_law16_id (s1 : Int) (H : Hp) (K : Value → Hp → Prop) : Prop :=
 newB (.cells #[(.int .i64 0), (.int .u64 0)] ty_api_ID) H fun b2 Hx3 =>
 st ⟨b2, 0, none⟩ (.int .i64 1) Hx3 fun Hx4 =>
 st ⟨b2, 1, none⟩ (.int .u64 s1) Hx4 fun Hx5 =>
 ldI .i64 ⟨b2, 0, none⟩ Hx5 fun Node6 =>
 ldI .u64 ⟨b2, 1, none⟩ Hx5 fun Serial7 =>
 K (.agg #[(.int .i64 Node6), (.int .u64 Serial7)]) Hx5
theorem E_law16_id (s1 : Int) (H : Hp) (K : Value → Hp → Prop) : B_law16_id s1 H K = denF Tryz.prog Tryz.f19 .n [(.int .u64 s1)] H K := by kernel_rfl
theorem den_law16_id {s1 : Int} {H : Hp} {K : Value → Hp → Prop} (h : B_law16_id s1 H K) : hcall PR f_law16_id ⟨[(.int .u64 s1)]⟩ H K := denF_call Tryz.func19 PR_mixed (Eq.mp (E_law16_id s1 H K) h)

end Go.Proofs.YtohlnmenghbgbaaGreat

namespace Go.Proofs.YtohlnmenghbgbaaGreat
open Go
set_option linter.unusedVariables false
set_option maxRecDepth 100000
end Go.Proofs.YtohlnmenghbgbaaGreat

namespace Go.Proofs.YtohlnmenghbgbaaGreat
set_option linter.unusedSimpArgs false
set_option linter.unusedVariables false
open Go
section
variable {H0 H : Hp} {L M : List Prt} {i j k b hb : Nat} {s : Hs} {c : Cy} {K : Value → Hp → Prop}
/-! ## The example -/
def k16a : Cy := ⟨⟨1, [false, true], [false, false]⟩, ⟨[], [], [], 4, false, 1⟩, ⟨0, false, 0⟩, rcNew 0, 0, 1, 0, 3, 8, 0, 0, ⟨0, [], [], false⟩⟩
def k16b : Cy := ⟨⟨2, [true, true], [false, false]⟩, ⟨[], [], [], 4, false, 1⟩, ⟨0, false, 0⟩, rcNew 0, 0, 1, 0, 3, 8, 0, 0, ⟨0, [], [], false⟩⟩
def k16c : Cy := ⟨⟨2, [true, true], [true, false]⟩, ⟨[], [], [], 4, false, 1⟩, ⟨0, false, 0⟩, rcNew 0, 0, 1, 0, 3, 8, 0, 0, ⟨0, [], [], false⟩⟩
def k16d : Cy := ⟨⟨3, [true, true], [true, true]⟩, ⟨[], [], [], 4, false, 1⟩, ⟨0, false, 0⟩, rcNew 0, 0, 1, 0, 3, 8, 0, 0, ⟨0, [], [], false⟩⟩
def k16e (pl : Int) : Cy := ⟨⟨3, [true, true], [true, true]⟩, ⟨[], [], [], 4, false, 1⟩, ⟨1, false, 0⟩, ⟨3, 1, none, []⟩, pl, 1, 5, 3, 8, 0, 1, ⟨0, [], [], true⟩⟩
def k16f : Cy := ⟨⟨0, [false, false], [false, false]⟩, ⟨[], [], [], 4, false, 1⟩, ⟨1, false, 0⟩, ⟨3, 1, none, []⟩, 1, 1, 0, 3, 8, 0, 1, ⟨0, [], [], true⟩⟩
theorem known16_begin : cyStep s (newCy 1 4 3 8 1) 0 = (([], false), s, k16a) := steps_stop (n := 7) (unit0 rfl)
theorem known16_shake : cyShake s k16a 0 [] = (true, k16b) ∧ cyShake s k16b 0 [] = (true, k16c) ∧ cyShake s k16c 1 [] = (true, k16d) ∧ cyShake s k16d 1 [] = (false, k16d) := ⟨rfl, rfl, rfl, rfl⟩
theorem known16_run {y : Id} {c1 : Int} (ho : s.ok) (hobs : s.obs = [⟨1, c1, [y], [], 0⟩]) (hn : s.node = 1) (hl : s.last = 1) : cyStep s k16d 0 = (([1], true), (hFree s 1).2, k16f) := by
  have g1 : hGet s 1 = some ⟨1, c1, [y], [], 0⟩ := by unfold hGet; rw [hobs]; rfl
  have n0 : hNext s 0 = (1, true) := by unfold hNext; rw [hobs]; rfl
  have n1 : hNext s 1 = (0, false) := by unfold hNext; rw [hobs]; rfl
  have ho2 := ho.free 1
  have n2 : hNext (hFree s 1).2 1 = (0, false) := hNext_none ho2 fun k hk => by
    rw [hFree_get, if_neg (by omega)]
    cases hg : hGet s k with
    | none => rfl
    | some o =>
      have := hNext_false (s := s) (q := 1) (by rw [n1]) (k := k) (by rw [hg]; simp)
      omega
  have own : ∀ k, rcOwn s ⟨[], [], [], 4, false, 1⟩ 3 k = false := fun k => by
    cases ho : rcOwn s ⟨[], [], [], 4, false, 1⟩ 3 k
    · rfl
    · obtain ⟨_, r, g, h, _⟩ := rcOwn_has ho
      cases h
  obtain ⟨pa, hpa⟩ : ∃ pa : Ps, pa = ⟨[], [], [], 4, false, 1⟩ := ⟨_, rfl⟩
  have m0 : mkStep s pa ⟨0, false, 0⟩ = (true, pa, ⟨1, false, 0⟩) := by
    unfold mkStep mkSee
    rw [hpa]
    simp only [List.getLast?_nil, n0, g1]
    rfl
  have m1 : mkStep s pa ⟨1, false, 0⟩ = (false, pa, ⟨1, false, 0⟩) := by
    unfold mkStep
    rw [hpa]
    simp only [List.getLast?_nil, n1]
    rfl
  have r0 : rcStep s pa (rcNew 3) = (true, ⟨3, 1, none, []⟩) := by
    rw [hpa]
    unfold rcStep rcNew rcNext
    simp only [n0, g1, own]
    rfl
  have r1 : rcStep s pa ⟨3, 1, none, []⟩ = (false, ⟨3, 1, none, []⟩) := by
    rw [hpa]
    unfold rcStep rcNext
    simp only [n1]
    rfl
  obtain ⟨ca, hca⟩ : ∃ ca : Cy, ca = { k16d with st := 3, m := ⟨1, false, 0⟩ } := ⟨_, rfl⟩
  obtain ⟨cb, hcb⟩ : ∃ cb : Cy, cb = { k16d with st := 4, m := ⟨1, false, 0⟩, r := rcNew 3 } := ⟨_, rfl⟩
  obtain ⟨cc, hcc⟩ : ∃ cc : Cy, cc = { k16d with st := 4, m := ⟨1, false, 0⟩, r := ⟨3, 1, none, []⟩ } := ⟨_, rfl⟩
  have u1 : cyUnit s k16d 0 = ⟨none, 0, s, ca⟩ := by
    rw [unit23 (.inr rfl) rfl, hca]
    unfold cyMarks
    rw [show mkStep s ({ k16d with st := 3, m := ⟨0, false, 0⟩ } : Cy).p ({ k16d with st := 3, m := ⟨0, false, 0⟩ } : Cy).m = (true, pa, ⟨1, false, 0⟩) from by rw [← m0, hpa]; rfl]
    rw [if_pos rfl, hpa]
    rfl
  have u2 : cyUnit s ca 0 = ⟨none, 0, s, cb⟩ := by
    rw [unit3 (by rw [hca]; rfl)]
    unfold cyMarks
    rw [show mkStep s ca.p ca.m = (false, pa, ⟨1, false, 0⟩) from by rw [← m1, hpa, hca]; rfl]
    rw [if_neg (fun h => by cases h), hca, hcb, hpa]
    rfl
  have u3 : cyUnit s cb 0 = ⟨none, 0, s, cc⟩ := by
    rw [unit4 (by rw [hcb]; rfl)]
    unfold cyReaches
    rw [show mkStep s cb.p cb.m = (false, pa, ⟨1, false, 0⟩) from by rw [← m1, hpa, hcb]; rfl]
    rw [if_neg (fun h => by cases h)]
    simp only
    rw [show rcStep s pa cb.r = (true, ⟨3, 1, none, []⟩) from by rw [← r0, hcb]]
    rw [if_pos rfl, hcb, hcc, hpa]
    rfl
  have u4 : cyUnit s cc 0 = ⟨none, 0, s, k16e 0⟩ := by
    rw [unit4 (by rw [hcc]; rfl)]
    unfold cyReaches
    rw [show mkStep s cc.p cc.m = (false, pa, ⟨1, false, 0⟩) from by rw [← m1, hpa, hcc]; rfl]
    rw [if_neg (fun h => by cases h)]
    simp only
    rw [show rcStep s pa cc.r = (false, ⟨3, 1, none, []⟩) from by rw [← r1, hcc]]
    rw [if_neg (by decide), hcc, hpa, hl]
    rfl
  have s5 : swStep s pa 0 1 = ((1, true), (hFree s 1).2, pa, 1) := by
    unfold swStep
    rw [n0, if_neg (by decide), if_neg (by rw [hpa]; show ¬ (false = true); decide), hpa]
    rfl
  have s6 : swStep (hFree s 1).2 pa 1 1 = ((0, false), (hFree s 1).2, pa, 1) := by
    unfold swStep
    rw [n2, if_pos (.inl rfl)]
  have u5 : cyUnit s (k16e 0) 0 = ⟨none, 1, (hFree s 1).2, k16e 1⟩ := by
    have e : swStep s (k16e 0).p (k16e 0).pl (k16e 0).e = ((1, true), (hFree s 1).2, pa, 1) := by rw [← s5, hpa]; rfl
    rw [unit6 rfl (by rw [e]), e, hpa]
    rfl
  have u6 : cyUnit (hFree s 1).2 (k16e 1) 0 = ⟨some true, 0, (hFree s 1).2, k16f⟩ := by
    have e : swStep (hFree s 1).2 (k16e 1).p (k16e 1).pl (k16e 1).e = ((0, false), (hFree s 1).2, pa, 1) := by rw [← s6, hpa]; rfl
    rw [unit5 rfl (by rw [e]), e, hpa]
    rfl
  show cySteps 0 8 s k16d [] = _
  rw [steps_go u1, steps_go u2, steps_go u3, steps_go u4, steps_go u5, steps_stop u6]
  rfl

theorem known16_ok (h : St H0 L H) (hK : ∀ H', St H0 L H' → K (.bool true) H') : hcall PR f_law16_known ⟨[]⟩ H K := by
  apply den_law16_known
  unfold B_law16_known
  refine hNewOk (m := 4) (by decide) (by decide) (by decide) (by decide) (by decide) h fun hb H1 h1 => ?_
  simp only [asI_mk', asB_mk, asP_mk, asA_mk, asM_mk, asSl_mk, asStr_mk, tup2_mk, tup3_mk, agg1_mk, agg2_mk, agg3_mk, agg4_mk, asAggm, unCons_mk, unNil_mk, asTup_mk, extractD0, extractD1, List.toList_toArray, nilP_mk, add_mk, Nat.zero_add, Nat.add_zero, condT, condF, Bool.not_true, Bool.not_false, Option.isNone_some, Option.isNone_none]
  refine bif_neqf rfl ?_
  obtain ⟨s1, c1, a0, a1, a2, a3, a4, a5, a6⟩ := hMake_good' (s := newHs 1 4 0 4) (r := 1) (v := 0) (heap_ok h1 (i := 0) rfl) (by omega) (by omega) (by decide) (by decide) (by show 0 < frees (List.replicate 4 noBlk); rw [frees_new]; omega)
  refine hMakeC h1 (i := 0) rfl (by decide) (by decide) fun H2 h2 => ?_
  rw [a0] at h2 ⊢
  have h2 : St H0 (HeapP hb s1 :: L) H2 := h2
  simp only [asI_mk', asB_mk, asP_mk, asA_mk, asM_mk, asSl_mk, asStr_mk, tup2_mk, tup3_mk, agg1_mk, agg2_mk, agg3_mk, agg4_mk, asAggm, unCons_mk, unNil_mk, asTup_mk, extractD0, extractD1, List.toList_toArray, nilP_mk, add_mk, Nat.zero_add, Nat.add_zero, condT, condF, Bool.not_true, Bool.not_false, Option.isNone_some, Option.isNone_none]
  have a3 : s1.node = 1 := a3
  have a4 : s1.obs = [⟨1, c1, [noId], [], 0⟩] := a4
  have al : s1.last = 1 := by first | exact a1 | exact a2 | exact a5 | exact a6
  refine cyNewC h2 (i := 0) rfl a3 (by omega) (by omega) (by omega) (by omega) fun b H3 h3 => ?_
  rw [al] at h3
  simp only [asI_mk', asB_mk, asP_mk, asA_mk, asM_mk, asSl_mk, asStr_mk, tup2_mk, tup3_mk, agg1_mk, agg2_mk, agg3_mk, agg4_mk, asAggm, unCons_mk, unNil_mk, asTup_mk, extractD0, extractD1, List.toList_toArray, nilP_mk, add_mk, Nat.zero_add, Nat.add_zero, condT, condF, Bool.not_true, Bool.not_false, Option.isNone_some, Option.isNone_none]
  refine bif_neqf rfl ?_
  (try simp only [Option.isNone_some, condF])
  have ho := heap_ok h3 (i := 1) rfl
  refine cyStepC h3 (i := 1) (k := 0) rfl rfl (by decide) (n := 0) newCy_lt (by omega) fun fp fc H4 h4 => ?_
  rw [known16_begin] at h4 ⊢
  have h4 : St H0 (CyP b hb k16a :: HeapP hb s1 :: L) H4 := h4.less
  simp only [asI_mk', asB_mk, asP_mk, asA_mk, asM_mk, asSl_mk, asStr_mk, tup2_mk, tup3_mk, agg1_mk, agg2_mk, agg3_mk, agg4_mk, asAggm, unCons_mk, unNil_mk, asTup_mk, extractD0, extractD1, List.toList_toArray, nilP_mk, add_mk, Nat.zero_add, Nat.add_zero, condT, condF, Bool.not_true, Bool.not_false, Option.isNone_some, Option.isNone_none]
  refine cyStateC h4 (k := 0) rfl ?_
  simp only [asI_mk', asB_mk, asP_mk, asA_mk, asM_mk, asSl_mk, asStr_mk, tup2_mk, tup3_mk, agg1_mk, agg2_mk, agg3_mk, agg4_mk, asAggm, unCons_mk, unNil_mk, asTup_mk, extractD0, extractD1, List.toList_toArray, nilP_mk, add_mk, Nat.zero_add, Nat.add_zero, condT, condF, Bool.not_true, Bool.not_false, Option.isNone_some, Option.isNone_none]
  intro R30 hR30
  obtain ⟨q1, q2, q3, q4⟩ := known16_shake (s := s1)
  refine cyShakeC (held := []) h4 (i := 1) (k := 0) rfl rfl (by decide) (fun _ _ _ => rd_nil) (by simp) fun H5 h5 => ?_
  rw [q1] at h5 ⊢
  have h5 : St H0 (CyP b hb k16b :: HeapP hb s1 :: L) H5 := h5
  simp only [asI_mk', asB_mk, asP_mk, asA_mk, asM_mk, asSl_mk, asStr_mk, tup2_mk, tup3_mk, agg1_mk, agg2_mk, agg3_mk, agg4_mk, asAggm, unCons_mk, unNil_mk, asTup_mk, extractD0, extractD1, List.toList_toArray, nilP_mk, add_mk, Nat.zero_add, Nat.add_zero, condT, condF, Bool.not_true, Bool.not_false, Option.isNone_some, Option.isNone_none]
  refine cyShakeC (held := []) h5 (i := 1) (k := 0) rfl rfl (by decide) (fun _ _ _ => rd_nil) (by simp) fun H6 h6 => ?_
  rw [q2] at h6 ⊢
  have h6 : St H0 (CyP b hb k16c :: HeapP hb s1 :: L) H6 := h6
  simp only [asI_mk', asB_mk, asP_mk, asA_mk, asM_mk, asSl_mk, asStr_mk, tup2_mk, tup3_mk, agg1_mk, agg2_mk, agg3_mk, agg4_mk, asAggm, unCons_mk, unNil_mk, asTup_mk, extractD0, extractD1, List.toList_toArray, nilP_mk, add_mk, Nat.zero_add, Nat.add_zero, condT, condF, Bool.not_true, Bool.not_false, Option.isNone_some, Option.isNone_none]
  refine cyShakeC (held := []) h6 (i := 1) (k := 0) rfl rfl (by decide) (fun _ _ _ => rd_nil) (by simp) fun H7 h7 => ?_
  rw [q3] at h7 ⊢
  have h7 : St H0 (CyP b hb k16d :: HeapP hb s1 :: L) H7 := h7
  simp only [asI_mk', asB_mk, asP_mk, asA_mk, asM_mk, asSl_mk, asStr_mk, tup2_mk, tup3_mk, agg1_mk, agg2_mk, agg3_mk, agg4_mk, asAggm, unCons_mk, unNil_mk, asTup_mk, extractD0, extractD1, List.toList_toArray, nilP_mk, add_mk, Nat.zero_add, Nat.add_zero, condT, condF, Bool.not_true, Bool.not_false, Option.isNone_some, Option.isNone_none]
  refine cyShakeC (held := []) h7 (i := 1) (k := 0) rfl rfl (by decide) (fun _ _ _ => rd_nil) (by simp) fun H8 h8 => ?_
  rw [q4] at h8 ⊢
  have h8 : St H0 (CyP b hb k16d :: HeapP hb s1 :: L) H8 := h8
  simp only [asI_mk', asB_mk, asP_mk, asA_mk, asM_mk, asSl_mk, asStr_mk, tup2_mk, tup3_mk, agg1_mk, agg2_mk, agg3_mk, agg4_mk, asAggm, unCons_mk, unNil_mk, asTup_mk, extractD0, extractD1, List.toList_toArray, nilP_mk, add_mk, Nat.zero_add, Nat.add_zero, condT, condF, Bool.not_true, Bool.not_false, Option.isNone_some, Option.isNone_none]
  refine hR30 true H8 ?_
  refine cyStateC h8 (k := 0) rfl ?_
  simp only [asI_mk', asB_mk, asP_mk, asA_mk, asM_mk, asSl_mk, asStr_mk, tup2_mk, tup3_mk, agg1_mk, agg2_mk, agg3_mk, agg4_mk, asAggm, unCons_mk, unNil_mk, asTup_mk, extractD0, extractD1, List.toList_toArray, nilP_mk, add_mk, Nat.zero_add, Nat.add_zero, condT, condF, Bool.not_true, Bool.not_false, Option.isNone_some, Option.isNone_none]
  have hlt : k16d.lt 0 := ⟨⟨Nat.le_refl _, Nat.le_refl _⟩, ⟨fun w hw => by (cases hw), Nat.le_refl _, fun r hr => by (cases hr)⟩, Nat.le_refl _, fun r hr => by (cases hr), Nat.le_refl _⟩
  refine cyStepC h8 (i := 1) (k := 0) rfl rfl (by decide) hlt (by omega) fun fp2 fc2 H9 h9 => ?_
  rw [known16_run ho a4 a3 al] at h9 ⊢
  have h9 : St H0 (Prt.row 1 fp2 1 fc2 [.int .u64 1] :: CyP b hb k16f :: HeapP hb (hFree s1 1).2 :: L) H9 := h9
  simp only [asI_mk', asB_mk, asP_mk, asA_mk, asM_mk, asSl_mk, asStr_mk, tup2_mk, tup3_mk, agg1_mk, agg2_mk, agg3_mk, agg4_mk, asAggm, unCons_mk, unNil_mk, asTup_mk, extractD0, extractD1, List.toList_toArray, nilP_mk, add_mk, Nat.zero_add, Nat.add_zero, condT, condF, Bool.not_true, Bool.not_false, Option.isNone_some, Option.isNone_none]
  refine bif_eq rfl (bif_eq rfl (bif_eq rfl (bif_eq rfl ?_)))
  refine idxS (g := fun x : Int => [Value.int .u64 x]) (l := [1]) (fun _ => rfl) 0 (h9.row_rd (i := 0) rfl) (by omega) (by omega) (by simp) fun b1 o1 _ hl1 hcc => ?_
  refine ldI_of (hcc 0 (by omega)) (bif_eq rfl ?_)
  refine cyStateC h9 (k := 1) rfl ?_
  simp only [asI_mk', asB_mk, asP_mk, asA_mk, asM_mk, asSl_mk, asStr_mk, tup2_mk, tup3_mk, agg1_mk, agg2_mk, agg3_mk, agg4_mk, asAggm, unCons_mk, unNil_mk, asTup_mk, extractD0, extractD1, List.toList_toArray, nilP_mk, add_mk, Nat.zero_add, Nat.add_zero, condT, condF, Bool.not_true, Bool.not_false, Option.isNone_some, Option.isNone_none]
  refine bif_eq rfl (hLen h9 (i := 2) rfl ?_)
  simp only [asI_mk', asB_mk, asP_mk, asA_mk, asM_mk, asSl_mk, asStr_mk, tup2_mk, tup3_mk, agg1_mk, agg2_mk, agg3_mk, agg4_mk, asAggm, unCons_mk, unNil_mk, asTup_mk, extractD0, extractD1, List.toList_toArray, nilP_mk, add_mk, Nat.zero_add, Nat.add_zero, condT, condF, Bool.not_true, Bool.not_false, Option.isNone_some, Option.isNone_none]
  have hz := hFree_len ho (k := 1) (by unfold hGet; rw [a4]; simp)
  rw [a4] at hz
  have hz : (hFree s1 1).2.obs.length = 0 := by simpa using hz
  rw [hz]
  exact hK H9 (St.lesses (M := [_, _, _]) h9)
end
end Go.Proofs.YtohlnmenghbgbaaGreat

namespace Go.Proofs.YtohlnmenghbgbaaGreat
open Go
set_option linter.unusedVariables false
set_option maxRecDepth 100000
end Go.Proofs.YtohlnmenghbgbaaGreat

namespace Go.Proofs.YtohlnmenghbgbaaGreat
set_option linter.unusedSimpArgs false
set_option linter.unusedVariables false
open Go
/-- A collector that has begun, its shaking so far. -/
def cySk (c : Cy) (k : Sk) : Cy := { c with p := pTurn c.p, sk := k }
theorem begin1 {s : Hs} {grey sus work l stir : Int} (hw : 1 ≤ work) : cyStep s (newCy 1 grey sus work l) stir = (([], false), s, cySk (newCy 1 grey sus work l) ⟨1, [false, true], [false, false]⟩) := by
  unfold cyStep
  obtain ⟨n, hn⟩ : ∃ n, (newCy 1 grey sus work l).work.toNat = n + 1 := ⟨work.toNat - 1, by show work.toNat = _; omega⟩
  rw [hn]
  exact steps_stop (unit0 rfl)
theorem shake1 {s : Hs} {c : Cy} : cyShake s (cySk c ⟨1, [false, true], [false, false]⟩) 0 [] = (true, cySk c ⟨2, [true, true], [false, false]⟩) := rfl
theorem Cy.lt.sk {c : Cy} {n : Nat} {k : Sk} (h : c.lt n) : (cySk c k).lt n := ⟨h.p.turn, h.r, h.rows, h.rlen, h.outs⟩

end Go.Proofs.YtohlnmenghbgbaaGreat

namespace Go.Proofs.YtohlnmenghbgbaaGreat
open Go
set_option linter.unusedVariables false
set_option maxRecDepth 100000
end Go.Proofs.YtohlnmenghbgbaaGreat

namespace Go.Proofs.YtohlnmenghbgbaaGreat
open Go
set_option linter.unusedVariables false
set_option maxRecDepth 100000
end Go.Proofs.YtohlnmenghbgbaaGreat

namespace Go.Proofs.YtohlnmenghbgbaaGreat
set_option linter.unusedSimpArgs false
set_option linter.unusedVariables false
open Go
/-- It waits for one that has not answered. -/
structure Waits (c : Cy) (m : Nat) : Prop where
  st : c.st = 0
  ph : c.sk.ph = 1 ∨ c.sk.ph = 2
  sc : c.sk.sc[m]? = some false
  turns : c.p.turns = 1
theorem ans_waits {q : Sk} {k : Int} {m : Nat} (hk : k ≠ m) (hp : q.ph = 1 ∨ q.ph = 2) (hs : q.sc[m]? = some false) : ((q.ans k).1.ph = 1 ∨ (q.ans k).1.ph = 2) ∧ (q.ans k).1.sc[m]? = some false := by
  unfold Sk.ans
  split
  · exact ⟨hp, hs⟩
  · rename_i h0
    split
    · split
      · exact ⟨hp, hs⟩
      · refine ⟨?_, hs⟩
        simp only
        split
        · exact .inr rfl
        · exact .inl rfl
    · split
      · split
        · exact ⟨hp, hs⟩
        · have hkm : k.toNat ≠ m := by omega
          have h1 : (q.sc.set k.toNat true)[m]? = some false := by rw [List.getElem?_set_ne hkm]; exact hs
          refine ⟨.inr ?_, h1⟩
          simp only
          rw [if_neg]
          intro hall
          have := List.all_eq_true.1 hall false (List.mem_of_getElem? h1)
          cases this
      · exact ⟨hp, hs⟩
theorem Waits.state {c : Cy} {m : Nat} (h : Waits c m) : c.state = 1 ∨ c.state = 2 := by
  have h1 := h.ph
  unfold Cy.state
  rw [if_neg (by rw [h.st]; decide)]
  by_cases e : c.sk.ph = 1
  · rw [if_pos e]; omega
  · rw [if_neg e, if_pos (by omega)]; omega
theorem Waits.step {s : Hs} {c : Cy} {m : Nat} {stir : Int} (h : Waits c m) (hw : 1 ≤ c.work) : cyStep s c stir = (([], false), s, c) := by
  unfold cyStep
  obtain ⟨n, hn⟩ : ∃ n, c.work.toNat = n + 1 := ⟨c.work.toNat - 1, by omega⟩
  rw [hn]
  exact steps_stop (unit12 h.state (by have := h.ph; omega))
theorem Waits.shake {s : Hs} {c : Cy} {m : Nat} {k : Int} (h : Waits c m) (hk : k ≠ m) : Waits (cyShake s c k []).2 m := by
  have h1 := ans_waits hk h.ph h.sc
  unfold cyShake
  split
  · exact ⟨h.st, h1.1, h1.2, h.turns⟩
  · exact ⟨h.st, h1.1, h1.2, h.turns⟩
theorem id16C {H0 H : Hp} {L : List Prt} {q : Int} {K : Value → Hp → Prop} (h : St H0 L H) (hK : ∀ H', St H0 L H' → K (.agg #[.int .i64 1, .int .u64 q]) H') : hcall PR f_law16_id ⟨[.int .u64 q]⟩ H K := by
  apply den_law16_id
  unfold B_law16_id
  intro b2 hb2
  have h1 := h.alloc (o := .cells #[.int .i64 0, .int .u64 0] ty_api_ID) hb2
  refine h1.put (i := 0) rfl (by simp) fun H2 h2 => h2.put (i := 0) rfl (by simp) fun H3 h3 => ?_
  exact ldI_of (h3.cell (i := 0) rfl rfl) (ldI_of (h3.cell (i := 0) rfl rfl) (hK H3 h3.less))

/-- It is idle. -/
structure Idle (c : Cy) : Prop where
  st : c.st = 0
  ph : c.sk.ph = 0
theorem Idle.state {c : Cy} (h : Idle c) : c.state = 0 := by unfold Cy.state; rw [if_neg (by rw [h.st]; decide), if_neg (by rw [h.ph]; decide), if_neg (by rw [h.ph]; decide)]
theorem Idle.isOpen {c : Cy} (h : Idle c) : c.isOpen = false := by unfold Cy.isOpen; rw [h.state]; rfl
theorem Idle.store {s : Hs} {c : Cy} (h : Idle c) {m : Int} {x y : Id} : cyStore s c m x y = c := by unfold cyStore; rw [if_neg (by rw [h.isOpen]; simp)]
theorem Idle.born {s : Hs} {c : Cy} (h : Idle c) {m q : Int} : cyBorn s c m q = c := by unfold cyBorn; rw [if_neg (by rw [h.isOpen]; simp)]
theorem Idle.shake {s : Hs} {c : Cy} (h : Idle c) {m : Int} {l : List Id} : cyShake s c m l = (false, c) := by
  have e : c.sk.ans m = (c.sk, 0) := by
    unfold Sk.ans
    split
    · rfl
    · rw [if_neg (by rw [h.ph]; decide), if_neg (by rw [h.ph]; decide)]
  unfold cyShake
  rw [e, if_neg (show ¬ ((0 : Int) = 2) by decide)]
  rfl

end Go.Proofs.YtohlnmenghbgbaaGreat

namespace Go.Proofs.YtohlnmenghbgbaaGreat
open Go
set_option linter.unusedVariables false
set_option maxRecDepth 100000
def B_law16_CycleJust (gRefsP1 : Option Addr) (gRefsL2 : Nat) (gRefsC3 : Nat) (gOutP4 : Option Addr) (gOutL5 : Nat) (gOutC6 : Nat) (gInP7 : Option Addr) (gInL8 : Nat) (gInC9 : Nat) (grey10 : Int) (work11 : Int) (rootsP12 : Option Addr) (rootsL13 : Nat) (rootsC14 : Nat) (H : Hp) (K : Value → Hp → Prop) : Prop :=
 newB (.cells #[(.slice gRefsP1 gRefsL2 gRefsC3), (.slice gOutP4 gOutL5 gOutC6), (.slice gInP7 gInL8 gInC9)] ty_hand_Graph) H fun b15 Hx16 =>
 ldSl ⟨b15, 0, none⟩ Hx16 fun RefsP17 RefsL18 RefsC19 =>
 ldSl ⟨b15, 1, none⟩ Hx16 fun OutP20 OutL21 OutC22 =>
 ldSl ⟨b15, 2, none⟩ Hx16 fun InP23 InL24 InC25 =>
 hcall PR f_hand_Graph_Heaps ⟨[(.agg #[(.slice RefsP17 RefsL18 RefsC19), (.slice OutP20 OutL21 OutC22), (.slice InP23 InL24 InC25)]), (.int .i64 30)]⟩ Hx16 fun v26 Hx27 =>
 tup2 v26 fun v28 v29 =>
 asP v28 fun t30 =>
 asP v29 fun t31 =>
 hcall PR f_law16_known ⟨[]⟩ Hx27 fun v32 Hx33 =>
 asB v32 fun t34 =>
 (bif (!t34) then
 K (.bool false) Hx33
else
 (bif (Option.isNone (α := Addr) t30) then
 K (.bool false) Hx33
else
 nilP t31 fun ta35 =>
 ldI .u64 (ta35.add 2) Hx33 fun Last36 =>
 hcall PR f_hand_Pick ⟨[(.int .i64 grey10), (.int .i64 6)]⟩ Hx33 fun v37 Hx38 =>
 asI .i64 v37 fun t39 =>
 hcall PR f_hand_Pick ⟨[(.int .i64 work11), (.int .i64 64)]⟩ Hx38 fun v40 Hx41 =>
 asI .i64 v40 fun t42 =>
 hcall PR f_cycle_New ⟨[(.pointer t30), (.int .i64 1), (.int .i64 (IntKind.i64.wrap (1 + t39))), (.int .i64 2), (.int .i64 (IntKind.i64.wrap (1 + t42)))]⟩ Hx41 fun v43 Hx44 =>
 tup2 v43 fun v45 v46 =>
 asP v45 fun t47 =>
 asI .i64 v46 fun t48 =>
 (bif ((t48 : Int) != 0) then
 K (.bool false) Hx44
else
 (bif (Option.isNone (α := Addr) t47) then
 K (.bool false) Hx44
else
 ∀ R49 : Option Addr → Nat → Nat → Hp → Prop, (∀ heldP51 : Option Addr, ∀ heldL52 : Nat, ∀ heldC53 : Nat, ∀ Hx50 : Hp, (
 hcall PR f_cycle_Cycle_Step ⟨[(.pointer t47), (.int .u64 0)]⟩ Hx50 fun v54 Hx55 =>
 tup2 v54 fun v56 v57 =>
 asSl v56 fun tP58 tL59 tC60 =>
 asB v57 fun t61 =>
 hcall PR f_cycle_Cycle_Shake ⟨[(.pointer t47), (.int .i64 0), (.slice none 0 0)]⟩ Hx55 fun v62 Hx63 =>
 asB v62 fun t64 =>
 hcall PR f_cycle_Cycle_Shake ⟨[(.pointer t47), (.int .i64 1), (.slice none 0 0)]⟩ Hx63 fun v65 Hx66 =>
 asB v65 fun t67 =>
 hcall PR f_cycle_Cycle_Shake ⟨[(.pointer t47), (.int .i64 0), (.slice heldP51 heldL52 heldC53)]⟩ Hx66 fun v68 Hx69 =>
 asB v68 fun t70 =>
 hcall PR f_cycle_Cycle_Shake ⟨[(.pointer t47), (.int .i64 1), (.slice none 0 0)]⟩ Hx69 fun v71 Hx72 =>
 asB v71 fun t73 =>
 ∀ R74 : Option Addr → Nat → Nat → Hp → Prop, (∀ freedP76 : Option Addr, ∀ freedL77 : Nat, ∀ freedC78 : Nat, ∀ Hx75 : Hp, (
 ldSl ⟨b15, 0, none⟩ Hx75 fun RefsP79 RefsL80 RefsC81 =>
 ldSl ⟨b15, 1, none⟩ Hx75 fun OutP82 OutL83 OutC84 =>
 ldSl ⟨b15, 2, none⟩ Hx75 fun InP85 InL86 InC87 =>
 hcall PR f_hand_Graph_Ranks ⟨[(.agg #[(.slice RefsP79 RefsL80 RefsC81), (.slice OutP82 OutL83 OutC84), (.slice InP85 InL86 InC87)]), (.int .i64 (IntKind.i64.wrap Last36)), (.slice heldP51 heldL52 heldC53)]⟩ Hx75 fun v88 Hx89 =>
 asSl v88 fun tP90 tL91 tC92 =>
 ∃ (I93 : Int → Int → Hp → Prop) (m94 : Int → Int → Hp → Nat), I93 0 1 Hx89 ∧ ∀ atx96 : Int, ∀ s97 : Int, ∀ Hx95 : Hp, I93 atx96 s97 Hx95 →
 (bif (decide ((s97 : Int) ≤ (IntKind.i64.wrap Last36))) then
 ∀ R98 : Int → Hp → Prop, (∀ atx100 : Int, ∀ Hx99 : Hp, (
 I93 atx100 (IntKind.i64.wrap (s97 + 1)) Hx99 ∧ m94 atx100 (IntKind.i64.wrap (s97 + 1)) Hx99 < m94 atx96 s97 Hx95) → R98 atx100 Hx99) →
 idxA tP90 tL91 s97 1 fun el101 =>
 ldI .i64 el101 Hx95 fun t102 =>
 (bif (decide ((t102 : Int) < 0)) then
 (bif (decide ((atx96 : Int) ≥ (freedL77 : Int))) then
 K (.bool false) Hx95
else
 idxA freedP76 freedL77 atx96 1 fun el103 =>
 ldI .u64 el103 Hx95 fun t104 =>
 (bif ((t104 : Int) != (IntKind.u64.wrap s97)) then
 K (.bool false) Hx95
else
 R98 (IntKind.i64.wrap (atx96 + 1)) Hx95))
else
 R98 atx96 Hx95)
else
 (bif ((atx96 : Int) == (freedL77 : Int)) then
 hcall PR f_cycle_Cycle_State ⟨[(.pointer t47)]⟩ Hx95 fun v105 Hx106 =>
 asI .i64 v105 fun t107 =>
 (bif ((t107 : Int) == 0) then
 hcall PR f_cycle_Cycle_Summary ⟨[(.pointer t47)]⟩ Hx106 fun v108 Hx109 =>
 agg4 v108 fun v110 v111 v112 v113 =>
 asI .u64 v110 fun Stir114 =>
 asSl v111 fun RowsP115 RowsL116 RowsC117 =>
 asSl v112 fun OutsP118 OutsL119 OutsC120 =>
 asB v113 fun Ok121 =>
 (bif Ok121 then
 hcall PR f_cycle_Cycle_Summary ⟨[(.pointer t47)]⟩ Hx109 fun v122 Hx123 =>
 agg4 v122 fun v124 v125 v126 v127 =>
 asI .u64 v124 fun Stir128 =>
 asSl v125 fun RowsP129 RowsL130 RowsC131 =>
 asSl v126 fun OutsP132 OutsL133 OutsC134 =>
 asB v127 fun Ok135 =>
 K (.bool ((Stir128 : Int) == 5)) Hx123
else
 K (.bool false) Hx109)
else
 K (.bool false) Hx106)
else
 K (.bool false) Hx95))) → R74 freedP76 freedL77 freedC78 Hx75) →
 ∃ (I136 : Option Addr → Nat → Nat → Int → Hp → Prop) (m137 : Option Addr → Nat → Nat → Int → Hp → Nat), I136 none 0 0 0 Hx72 ∧ ∀ freedP139 : Option Addr, ∀ freedL140 : Nat, ∀ freedC141 : Nat, ∀ k142 : Int, ∀ Hx138 : Hp, I136 freedP139 freedL140 freedC141 k142 Hx138 →
 (bif (decide ((k142 : Int) < 100000)) then
 hcall PR f_cycle_Cycle_Step ⟨[(.pointer t47), (.int .u64 5)]⟩ Hx138 fun v143 Hx144 =>
 tup2 v143 fun v145 v146 =>
 asSl v145 fun tP147 tL148 tC149 =>
 asB v146 fun t150 =>
 evW PR (Builtin.append_ #[ty_Suint64, ty_Suint64] ty_Suint64 #[(.slice freedP139 freedL140 freedC141), (.slice tP147 tL148 tC149)]) Hx144 fun v151 Hx152 =>
 asSl v151 fun tP153 tL154 tC155 =>
 (bif t150 then
 R74 tP153 tL154 tC155 Hx152
else
 I136 tP153 tL154 tC155 (IntKind.i64.wrap (k142 + 1)) Hx152 ∧ m137 tP153 tL154 tC155 (IntKind.i64.wrap (k142 + 1)) Hx152 < m137 freedP139 freedL140 freedC141 k142 Hx138)
else
 R74 freedP139 freedL140 freedC141 Hx138)) → R49 heldP51 heldL52 heldC53 Hx50) →
 ∃ (I156 : Option Addr → Nat → Nat → Int → Hp → Prop) (m157 : Option Addr → Nat → Nat → Int → Hp → Nat), I156 none 0 0 0 Hx44 ∧ ∀ heldP159 : Option Addr, ∀ heldL160 : Nat, ∀ heldC161 : Nat, ∀ i162 : Int, ∀ Hx158 : Hp, I156 heldP159 heldL160 heldC161 i162 Hx158 →
 (bif (decide ((i162 : Int) < (rootsL13 : Int))) then
 (bif (decide ((i162 : Int) < 4)) then
 (bif (decide (((IntKind.i64.wrap Last36) : Int) > 0)) then
 idxA rootsP12 rootsL13 i162 1 fun el163 =>
 ldI .i64 el163 Hx158 fun t164 =>
 hcall PR f_hand_Pick ⟨[(.int .i64 t164), (.int .i64 (IntKind.i64.wrap Last36))]⟩ Hx158 fun v165 Hx166 =>
 asI .i64 v165 fun t167 =>
 hcall PR f_law16_id ⟨[(.int .u64 (IntKind.u64.wrap (IntKind.i64.wrap (1 + t167))))]⟩ Hx166 fun v168 Hx169 =>
 agg2 v168 fun v170 v171 =>
 asI .i64 v170 fun Node172 =>
 asI .u64 v171 fun Serial173 =>
 newB (.cells #[(.int .i64 Node172), (.int .u64 Serial173)] ty_api_ID) Hx169 fun b174 Hx175 =>
 evW PR (Builtin.append_ #[ty_Sapi_ID, ty_Sapi_ID] ty_Sapi_ID #[(.slice heldP159 heldL160 heldC161), (.slice (some ⟨b174, 0, none⟩) 1 1)]) Hx175 fun v176 Hx177 =>
 asSl v176 fun tP178 tL179 tC180 =>
 I156 tP178 tL179 tC180 (IntKind.i64.wrap (i162 + 1)) Hx177 ∧ m157 tP178 tL179 tC180 (IntKind.i64.wrap (i162 + 1)) Hx177 < m157 heldP159 heldL160 heldC161 i162 Hx158
else
 R49 heldP159 heldL160 heldC161 Hx158)
else
 R49 heldP159 heldL160 heldC161 Hx158)
else
 R49 heldP159 heldL160 heldC161 Hx158)))))
theorem E_law16_CycleJust (gRefsP1 : Option Addr) (gRefsL2 : Nat) (gRefsC3 : Nat) (gOutP4 : Option Addr) (gOutL5 : Nat) (gOutC6 : Nat) (gInP7 : Option Addr) (gInL8 : Nat) (gInC9 : Nat) (grey10 : Int) (work11 : Int) (rootsP12 : Option Addr) (rootsL13 : Nat) (rootsC14 : Nat) (H : Hp) (K : Value → Hp → Prop) : B_law16_CycleJust gRefsP1 gRefsL2 gRefsC3 gOutP4 gOutL5 gOutC6 gInP7 gInL8 gInC9 grey10 work11 rootsP12 rootsL13 rootsC14 H K = denF Tryz.prog Tryz.f10 (.seq none .n (.seq none .n (.seq none .n (.seq none .n (.seq none .n (.seq none .n (.seq none .n (.seq (some ⟨[(14, .sl)], [4, 11, 12]⟩) (.seq none .n (.sub (.loop ⟨[(14, .sl), (15, .int .i64)], [3, 4, 11, 12]⟩ .n))) (.seq none .n (.seq none .n (.seq none .n (.seq none .n (.seq none .n (.seq none .n (.seq (some ⟨[(16, .sl)], [4, 11, 12, 14]⟩) (.seq none .n (.sub (.loop ⟨[(16, .sl), (17, .int .i64)], [4, 11, 12, 14]⟩ .n))) (.seq none .n (.seq none .n (.seq none (.seq none .n (.sub (.loop ⟨[(21, .int .i64), (22, .int .i64)], [11, 12, 16, 20]⟩ (.seq none .n (.seq (some ⟨[(21, .int .i64)], [11, 12, 16, 20, 22]⟩) .n .n))))) .n)))))))))))))))))) [(.agg #[(.slice gRefsP1 gRefsL2 gRefsC3), (.slice gOutP4 gOutL5 gOutC6), (.slice gInP7 gInL8 gInC9)]), (.int .i64 grey10), (.int .i64 work11), (.slice rootsP12 rootsL13 rootsC14)] H K := by kernel_rfl
theorem den_law16_CycleJust {gRefsP1 : Option Addr} {gRefsL2 : Nat} {gRefsC3 : Nat} {gOutP4 : Option Addr} {gOutL5 : Nat} {gOutC6 : Nat} {gInP7 : Option Addr} {gInL8 : Nat} {gInC9 : Nat} {grey10 : Int} {work11 : Int} {rootsP12 : Option Addr} {rootsL13 : Nat} {rootsC14 : Nat} {H : Hp} {K : Value → Hp → Prop} (h : B_law16_CycleJust gRefsP1 gRefsL2 gRefsC3 gOutP4 gOutL5 gOutC6 gInP7 gInL8 gInC9 grey10 work11 rootsP12 rootsL13 rootsC14 H K) : hcall PR f_law16_CycleJust ⟨[(.agg #[(.slice gRefsP1 gRefsL2 gRefsC3), (.slice gOutP4 gOutL5 gOutC6), (.slice gInP7 gInL8 gInC9)]), (.int .i64 grey10), (.int .i64 work11), (.slice rootsP12 rootsL13 rootsC14)]⟩ H K := denF_call Tryz.func10 PR_mixed (Eq.mp (E_law16_CycleJust gRefsP1 gRefsL2 gRefsC3 gOutP4 gOutL5 gOutC6 gInP7 gInL8 gInC9 grey10 work11 rootsP12 rootsL13 rootsC14 H K) h)

end Go.Proofs.YtohlnmenghbgbaaGreat

namespace Go.Proofs.YtohlnmenghbgbaaGreat
set_option linter.unusedSimpArgs false
set_option linter.unusedVariables false
open Go
theorem MkBegun.turn {s : Hs} {n : Nat} {p : Ps} (hl : s.obs.length = n) : MkBegun s n [] (pTurn p) :=
  ⟨⟨fun k r g e => (by cases e), fun x r e => (by cases e)⟩, fun k r o e => (by cases e), fun k r e => (by cases e), fun k hk => (by cases hk), (MkBegun.start (s := s) (n := n) (m := 1) hl).psi⟩
theorem MkBegun.all {s : Hs} {n : Nat} (hn : s.node = 1) : ∀ {l rts : List Int} {p : Ps}, MkBegun s n rts p → p.ok → (∀ k ∈ l, (1 ≤ k ∧ k ≤ 64) ∧ hGet s k ≠ none) → MkBegun s n (rts ++ l) (pShades s p (l.map fun k => (⟨1, k⟩ : Id)) 0)
  | [], rts, p, h, _, _ => by rw [List.append_nil]; exact h
  | k :: l, rts, p, h, hp, hk => by
    have h1 := h.next hn hp (hk k (by simp)).1 (hk k (by simp)).2
    have h2 := MkBegun.all (l := l) hn h1 hp.shade fun a ha => hk a (List.mem_cons_of_mem _ ha)
    rw [List.append_assoc] at h2
    exact h2
theorem left_begun {s : Hs} {n : Nat} {rts : List Int} {c : Cy} (h : MkBegun s n rts c.p) (hst : c.st = 0) : cyLeft s n c ≤ 43 * ((n + 1) * (n + 3)) := by
  unfold cyLeft
  rw [if_pos hst]
  have h1 := h.psi
  unfold mkLeft
  simp only [Bool.false_eq_true, if_false, Int.sub_zero, Int.toNat_natCast]
  have a1 : (n + 1) * (41 * n) = 41 * (n * n) + 41 * n := by
    rw [Nat.add_mul, Nat.one_mul, Nat.mul_left_comm]
  have a2 : (n + 1) * (n + 3) = n * n + 4 * n + 3 := by
    rw [Nat.add_mul, Nat.one_mul, Nat.mul_add]; omega
  have a3 : n * (n + 2) = n * n + 2 * n := by rw [Nat.mul_add]; omega
  rw [a1] at h1
  rw [a2, a3]
  generalize n * n = q at *
  omega
theorem unm_len {p : Ps} {q : Nat} : (unm p q).length ≤ q := by
  unfold unm
  refine Nat.le_trans (List.length_filter_le _ _) ?_
  simp
theorem unm_get {p : Ps} {q : Nat} (hm : (mlook p.marks ((q : Int) + 1)).isNone = true) : ∀ {n : Nat}, q < n → (unm p n)[(unm p q).length]? = some ((q : Int) + 1)
  | 0, h => absurd h (Nat.not_lt_zero _)
  | n + 1, h => by
    rw [unm_succ]
    by_cases e : q = n
    · subst e
      rw [if_pos hm, List.getElem?_append_right (Nat.le_refl _), Nat.sub_self]
      rfl
    · have h1 := unm_get hm (n := n) (by omega)
      rw [List.getElem?_append_left (ltOfGet h1)]
      exact h1
theorem J.len {s0 s : Hs} {c : Cy} {stir : Int} {n : Nat} {rts fr : List Int} (h : J s0 n rts stir s c fr) : fr.length ≤ n := by
  obtain ⟨_, h⟩ := h
  rcases h with ⟨_, _, rfl, _⟩ | ⟨_, _, rfl, _⟩ | ⟨_, _, rfl, _⟩ | ⟨_, pd, q, _, _, hq, _, _, _, rfl⟩
  · exact Nat.zero_le _
  · exact Nat.zero_le _
  · exact Nat.zero_le _
  · exact Nat.le_trans unm_len hq

/-- All have answered, one of them holding some. -/
def cyHeld (s : Hs) (c : Cy) (held : List Id) : Cy := { cySk c ⟨3, [true, true], [true, true]⟩ with p := pShades s (pTurn c.p) held 0 }
theorem shakeB {s : Hs} {c : Cy} : cyShake s (cySk c ⟨2, [true, true], [false, false]⟩) 1 [] = (true, cySk c ⟨2, [true, true], [false, true]⟩) := rfl
theorem shakeC {s : Hs} {c : Cy} {held : List Id} : cyShake s (cySk c ⟨2, [true, true], [false, true]⟩) 0 held = (true, cyHeld s c held) := rfl
theorem shakeD {s : Hs} {c : Cy} {held : List Id} : cyShake s (cyHeld s c held) 1 [] = (false, cyHeld s c held) := rfl

set_option maxRecDepth 20000 in
theorem CycleJust_ok {rp op ip : Option Addr} {rl rc ol oc il ic : Nat} {g : Gr} {grey work : Int} {roP : Option Addr} {roL roC : Nat} {ro : List Int} {H : Hp} {K : Value → Hp → Prop} (ga : GrA H rp rl op ol ip il g) (gok : g.ok) (hgr : IntKind.min .i64 ≤ grey ∧ grey ≤ IntKind.max .i64) (hwo : IntKind.min .i64 ≤ work ∧ work ≤ IntKind.max .i64)
    (hr : Rd H 1 roP roL (ro.map (Value.int .i64))) (hl : roL ≤ 9223372036854775807) (hok : ∀ x ∈ ro, IntKind.min .i64 ≤ x ∧ x ≤ IntKind.max .i64) (hK : ∀ H', Keep Nothing H H' → K (.bool true) H') :
    hcall PR f_law16_CycleJust ⟨[.agg #[.slice rp rl rc, .slice op ol oc, .slice ip il ic], .int .i64 grey, .int .i64 work, .slice roP roL roC]⟩ H K := by
  apply den_law16_CycleJust
  unfold B_law16_CycleJust
  intro b13 hb13
  have h1 := (St.start H).alloc (o := .cells #[.slice rp rl rc, .slice op ol oc, .slice ip il ic] ty_hand_Graph) hb13
  refine ldSl_of (h1.cell (i := 0) rfl rfl) (ldSl_of (h1.cell (i := 0) rfl rfl) (ldSl_of (h1.cell (i := 0) rfl rfl) ?_))
  refine HeapsC (most := 30) (ga.st h1) gok (by omega) fun hb rb s H2 hs h2 => ?_
  have h2 := h1.join h2
  have hn : grSize g 30 ≤ 30 ∧ grSize g 30 ≤ g.refs.length := by unfold grSize; split <;> omega
  generalize grSize g 30 = n at *
  simp only [asI_mk', asB_mk, asP_mk, asA_mk, asM_mk, asSl_mk, asStr_mk, tup2_mk, tup3_mk, agg1_mk, agg2_mk, agg3_mk, agg4_mk, asAggm, unCons_mk, unNil_mk, asTup_mk, extractD0, extractD1, List.toList_toArray, nilP_mk, add_mk, Nat.zero_add, Nat.add_zero, condT, condF, Bool.not_true, Bool.not_false, Option.isNone_some, Option.isNone_none]
  refine known16_ok h2 fun H3 h3 => ?_
  simp only [asI_mk', asB_mk, asP_mk, asA_mk, asM_mk, asSl_mk, asStr_mk, tup2_mk, tup3_mk, agg1_mk, agg2_mk, agg3_mk, agg4_mk, asAggm, unCons_mk, unNil_mk, asTup_mk, extractD0, extractD1, List.toList_toArray, nilP_mk, add_mk, Nat.zero_add, Nat.add_zero, condT, condF, Bool.not_true, Bool.not_false, Option.isNone_some, Option.isNone_none]
  obtain ⟨y1, N1, g1, _, _⟩ := rheapOpenL (i := 1) h3 rfl (.inl rfl)
  refine ldI_of (rheapV g1).last ?_
  clear g1
  have p1 := pick_lt (n := grey) (m := 6) (by omega)
  refine Pick_ok (by omega) (by omega) ?_
  simp only [asI_mk', asB_mk, asP_mk, asA_mk, asM_mk, asSl_mk, asStr_mk, tup2_mk, tup3_mk, agg1_mk, agg2_mk, agg3_mk, agg4_mk, asAggm, unCons_mk, unNil_mk, asTup_mk, extractD0, extractD1, List.toList_toArray, nilP_mk, add_mk, Nat.zero_add, Nat.add_zero, condT, condF, Bool.not_true, Bool.not_false, Option.isNone_some, Option.isNone_none]
  generalize pick grey 6 = a at *
  have p2 := pick_lt (n := work) (m := 64) (by omega)
  refine Pick_ok (by omega) (by omega) ?_
  simp only [asI_mk', asB_mk, asP_mk, asA_mk, asM_mk, asSl_mk, asStr_mk, tup2_mk, tup3_mk, agg1_mk, agg2_mk, agg3_mk, agg4_mk, asAggm, unCons_mk, unNil_mk, asTup_mk, extractD0, extractD1, List.toList_toArray, nilP_mk, add_mk, Nat.zero_add, Nat.add_zero, condT, condF, Bool.not_true, Bool.not_false, Option.isNone_some, Option.isNone_none]
  generalize pick work 64 = w at *
  rw [hs.last]
  have w0 : IntKind.i64.wrap (n : Int) = n := wrap_i64 (by omega) (by omega)
  have w1 : IntKind.i64.wrap (1 + a) = 1 + a := wrap_i64 (by omega) (by omega)
  have w2 : IntKind.i64.wrap (1 + w) = 1 + w := wrap_i64 (by omega) (by omega)
  simp only [w0, w1, w2]
  refine cyNewC h3 (i := 0) rfl hs.node (by omega) (by omega) (by omega) (by omega) fun b H4 h4 => ?_
  rw [hs.last] at h4
  simp only [asI_mk', asB_mk, asP_mk, asA_mk, asM_mk, asSl_mk, asStr_mk, tup2_mk, tup3_mk, agg1_mk, agg2_mk, agg3_mk, agg4_mk, asAggm, unCons_mk, unNil_mk, asTup_mk, extractD0, extractD1, List.toList_toArray, nilP_mk, add_mk, Nat.zero_add, Nat.add_zero, condT, condF, Bool.not_true, Bool.not_false, Option.isNone_some, Option.isNone_none]
  refine bif_neqf rfl ?_
  (try simp only [Option.isNone_some, condF])
  have hc0 := cy_ok h4 (k := 0) rfl
  obtain ⟨c0, hc0e⟩ : ∃ c0, c0 = newCy 1 (1 + a) 2 (1 + w) n := ⟨_, rfl⟩
  rw [← hc0e] at h4 hc0
  clear h1 h2 h3
  intro R49 hR49
  have hR49 : ∀ (rts : List Int) fP fC H', rts.length ≤ 4 → (∀ k ∈ rts, 1 ≤ k ∧ k ≤ (n : Int)) →
      St H [Prt.row 2 fP rts.length fC (cel Id.cells (rts.map fun k => (⟨1, k⟩ : Id))), CyP b hb c0, HeapP hb s, RHeap rb s, Prt.one b13 (.cells #[.slice rp rl rc, .slice op ol oc, .slice ip il ic] ty_hand_Graph (0, 0))] H' → R49 fP rts.length fC H' := fun rts fP fC H5 hlen hrts h5 => by
    refine hR49 _ _ _ H5 ?_
    clear hR49
    refine cyStepC h5 (i := 2) (k := 1) rfl rfl (by decide) (by rw [hc0e]; exact newCy_lt (n := 0)) (by omega) fun fp fc H6 h6 => ?_
    have eb : cyStep s c0 0 = (([], false), s, cySk c0 ⟨1, [false, true], [false, false]⟩) := by rw [hc0e]; exact begin1 (by omega)
    rw [eb] at h6 ⊢
    have h6 := h6.less
    simp only [asI_mk', asB_mk, asP_mk, asA_mk, asM_mk, asSl_mk, asStr_mk, tup2_mk, tup3_mk, agg1_mk, agg2_mk, agg3_mk, agg4_mk, asAggm, unCons_mk, unNil_mk, asTup_mk, extractD0, extractD1, List.toList_toArray, nilP_mk, add_mk, Nat.zero_add, Nat.add_zero, condT, condF, Bool.not_true, Bool.not_false, Option.isNone_some, Option.isNone_none]
    refine cyShakeC (held := []) h6 (i := 2) (k := 1) rfl rfl (by decide) (fun _ _ _ => rd_nil) (by simp) fun H7 h7 => ?_
    rw [shake1] at h7 ⊢
    simp only [asI_mk', asB_mk, asP_mk, asA_mk, asM_mk, asSl_mk, asStr_mk, tup2_mk, tup3_mk, agg1_mk, agg2_mk, agg3_mk, agg4_mk, asAggm, unCons_mk, unNil_mk, asTup_mk, extractD0, extractD1, List.toList_toArray, nilP_mk, add_mk, Nat.zero_add, Nat.add_zero, condT, condF, Bool.not_true, Bool.not_false, Option.isNone_some, Option.isNone_none]
    refine cyShakeC (held := []) h7 (i := 2) (k := 1) rfl rfl (by decide) (fun _ _ _ => rd_nil) (by simp) fun H8 h8 => ?_
    rw [shakeB] at h8 ⊢
    simp only [asI_mk', asB_mk, asP_mk, asA_mk, asM_mk, asSl_mk, asStr_mk, tup2_mk, tup3_mk, agg1_mk, agg2_mk, agg3_mk, agg4_mk, asAggm, unCons_mk, unNil_mk, asTup_mk, extractD0, extractD1, List.toList_toArray, nilP_mk, add_mk, Nat.zero_add, Nat.add_zero, condT, condF, Bool.not_true, Bool.not_false, Option.isNone_some, Option.isNone_none]
    have hhl : (rts.map fun k => (⟨1, k⟩ : Id)).length = rts.length := List.length_map ..
    rw [← hhl]
    refine cyShakeC (held := rts.map fun k => (⟨1, k⟩ : Id)) h8 (i := 2) (k := 1) rfl rfl (by decide) (fun N H' h' => ?_) (by omega) fun H9 h9 => ?_
    · rw [hhl]
      exact (St.lesses (M := N) h').row_rd (i := 0) rfl
    rw [shakeC] at h9 ⊢
    simp only [asI_mk', asB_mk, asP_mk, asA_mk, asM_mk, asSl_mk, asStr_mk, tup2_mk, tup3_mk, agg1_mk, agg2_mk, agg3_mk, agg4_mk, asAggm, unCons_mk, unNil_mk, asTup_mk, extractD0, extractD1, List.toList_toArray, nilP_mk, add_mk, Nat.zero_add, Nat.add_zero, condT, condF, Bool.not_true, Bool.not_false, Option.isNone_some, Option.isNone_none]
    refine cyShakeC (held := []) h9 (i := 2) (k := 1) rfl rfl (by decide) (fun _ _ _ => rd_nil) (by simp) fun H10 h10 => ?_
    rw [shakeD] at h10 ⊢
    rw [hhl]
    simp only [asI_mk', asB_mk, asP_mk, asA_mk, asM_mk, asSl_mk, asStr_mk, tup2_mk, tup3_mk, agg1_mk, agg2_mk, agg3_mk, agg4_mk, asAggm, unCons_mk, unNil_mk, asTup_mk, extractD0, extractD1, List.toList_toArray, nilP_mk, add_mk, Nat.zero_add, Nat.add_zero, condT, condF, Bool.not_true, Bool.not_false, Option.isNone_some, Option.isNone_none]
    have hbg : MkBegun s n rts (pShades s (pTurn c0.p) (rts.map fun k => (⟨1, k⟩ : Id)) 0) := by
      have := MkBegun.all hs.node (MkBegun.turn (s := s) (n := n) (p := c0.p) hs.len) hc0.p.turn fun k hk => ⟨by have := hrts k hk; omega, hs.has.2 (hrts k hk)⟩
      exact this
    have hJ : J s n rts 5 s (cyHeld s c0 (rts.map fun k => (⟨1, k⟩ : Id))) [] := ⟨rfl, .inl ⟨by rw [hc0e]; rfl, rfl, rfl, hbg⟩⟩
    have hq0 : Quiet s (cyHeld s c0 (rts.map fun k => (⟨1, k⟩ : Id))) := ⟨rfl, fun h => by
      have : (cyHeld s c0 (rts.map fun k => (⟨1, k⟩ : Id))).st = 0 := by rw [hc0e]; rfl
      omega⟩
    have hleft := left_begun (c := cyHeld s c0 (rts.map fun k => (⟨1, k⟩ : Id))) hbg (by rw [hc0e]; rfl)
    have hlt0 : (cyHeld s c0 (rts.map fun k => (⟨1, k⟩ : Id))).lt 4 := by
      have h0 : c0.lt 0 := by rw [hc0e]; exact newCy_lt
      have h1 := h0.mono (m := 4) (by omega)
      have h2 := h0.p.turn.shades (s := s) (r := 0) (l := rts.map fun k => (⟨1, k⟩ : Id))
      exact ⟨h2.mono (by omega), h1.r, h1.rows, h1.rlen, h1.outs⟩
    have hwk : (cyHeld s c0 (rts.map fun k => (⟨1, k⟩ : Id))).work = 1 + w := by rw [hc0e]; rfl
    have hb1 : (n + 1) * (n + 3) ≤ 31 * 33 := Nat.mul_le_mul (by omega) (by omega)
    generalize cyHeld s c0 (rts.map fun k => (⟨1, k⟩ : Id)) = c1 at *
    generalize (n + 1) * (n + 3) = A at *
    have h10 : St H [Prt.row 2 fP rts.length fC (cel Id.cells (rts.map fun k => (⟨1, k⟩ : Id))), CyP b hb c1, HeapP hb s, RHeap rb s, Prt.one b13 (.cells #[.slice rp rl rc, .slice op ol oc, .slice ip il ic] ty_hand_Graph (0, 0))] H10 := h10
    clear h6 h7 h8 h9 hbg h4 hc0e hc0 eb hhl
    intro R74 hR74
    have hR74 : ∀ (fr : List Int) (s' : Hs) (c' : Cy) qP qC H', JE s n rts 5 c' fr → c'.lt 600000 → St H [Prt.row 1 qP fr.length qC (fr.map (Value.int .u64)), Prt.row 2 fP rts.length fC (cel Id.cells (rts.map fun k => (⟨1, k⟩ : Id))), CyP b hb c', HeapP hb s', RHeap rb s, Prt.one b13 (.cells #[.slice rp rl rc, .slice op ol oc, .slice ip il ic] ty_hand_Graph (0, 0))] H' → R74 qP fr.length qC H' := fun fr s' c' qP qC H11 hJE hltc h11 => by
      refine hR74 _ _ _ H11 ?_
      clear hR74 h10 hJ hq0 hleft hlt0 hwk
      obtain ⟨hst0, pd, ht, rfl⟩ := hJE
      obtain ⟨rows, htold, _⟩ := ht.told
      refine ldSl_of (h11.cell (i := 5) rfl rfl) (ldSl_of (h11.cell (i := 5) rfl rfl) (ldSl_of (h11.cell (i := 5) rfl rfl) ?_))
      refine RanksC (n := n) (roots := rts) h11 ga gok hs (by omega) (fun M H' h' => ?_) hrts (by omega) fun l p0' cc0 H12 hrk h12 => ?_
      · exact h'.row_rd (i := M.length + 1) (by rw [List.getElem?_append_right (by omega), show M.length + 1 - M.length = 1 by omega]; rfl)
      simp only [asI_mk', asB_mk, asP_mk, asA_mk, asM_mk, asSl_mk, asStr_mk, tup2_mk, tup3_mk, agg1_mk, agg2_mk, agg3_mk, agg4_mk, asAggm, unCons_mk, unNil_mk, asTup_mk, extractD0, extractD1, List.toList_toArray, nilP_mk, add_mk, Nat.zero_add, Nat.add_zero, condT, condF, Bool.not_true, Bool.not_false, Option.isNone_some, Option.isNone_none]
      have rkd : ∀ {k : Int}, 0 ≤ k → k ≤ n → l.getD k.toNat 0 = rk l k := fun {k} h0 h1 => by
        unfold rk
        rw [List.getD_eq_getElem?_getD, List.getD_eq_getElem?_getD, List.getElem?_eq_getElem (by rw [hrk.ok.len]; omega)]
        rfl
      have rkC : ∀ {k : Int} {Q : Addr → Prop}, 0 ≤ k → k ≤ n → (∀ z, hcell H12 z = some (.int .i64 (rk l k)) → Q z) → idxA p0' (n + 1) k 1 Q := fun {k Q} h0 h1 hQ => by
        refine idx1 (d := (0 : Int)) (h12.row_rd (i := 0) rfl) h0 (by omega) fun b o _ hcl => hQ _ ?_
        rw [hcl, rkd h0 h1]
      refine ⟨fun at_ i H' => H' = H12 ∧ ∃ y : Nat, i = ((y + 1 : Nat) : Int) ∧ y ≤ n ∧ at_ = (unm pd y).length, fun _ i _ => ((n : Int) + 1 - i).toNat, ⟨rfl, 0, rfl, by omega, rfl⟩, ?_⟩
      rintro at_ i H13 ⟨rfl, y, rfl, hy, rfl⟩
      by_cases hcy : ((y + 1 : Nat) : Int) ≤ n
      · refine bif_pos hcy ?_
        intro R98 hR98
        have hR98 : R98 ((unm pd (y + 1)).length : Int) H13 := by
          refine hR98 _ H13 ?_
          rw [wrap_i64 (by omega) (by omega)]
          exact ⟨⟨rfl, y + 1, by omega, by omega, rfl⟩, by (try dsimp only); omega⟩
        refine rkC (by omega) hcy fun z hz => ldI_of hz ?_
        rcases hrk.marks ht.done (k := ((y + 1 : Nat) : Int)) (by omega) with ⟨hm1, hm2⟩ | ⟨hm1, hm2⟩
        · have hnone : (mlook pd.marks ((y : Int) + 1)).isNone = true := by rw [show ((y : Int) + 1) = ((y + 1 : Nat) : Int) by omega, hm1]; rfl
          have hget := unm_get hnone (n := n) (by omega)
          have hlt := ltOfGet hget
          refine bif_pos hm2 (bif_neg (by omega) ?_)
          refine idx1 (d := (0 : Int)) (h12.row_rd (i := 1) rfl) (by omega) (by omega) fun b o _ hcl => ?_
          rw [Int.toNat_natCast, List.getD_eq_getElem?_getD, hget] at hcl
          refine ldI_of hcl ?_
          have v1 : IntKind.u64.wrap ((y + 1 : Nat) : Int) = ((y + 1 : Nat) : Int) := wrap_u64' (by omega) (by omega)
          rw [v1]
          refine bif_neqf (by simp) ?_
          have hl1 := unm_len (p := pd) (q := y)
          have v2 : IntKind.i64.wrap (((unm pd y).length : Int) + 1) = ((unm pd (y + 1)).length : Int) := by
            rw [wrap_i64 (by omega) (by omega), unm_succ, if_pos hnone, List.length_append]
            simp
          rw [v2]
          exact hR98
        · refine bif_neg (by omega) ?_
          have e : unm pd (y + 1) = unm pd y := by
            rw [unm_succ, show ((y : Int) + 1) = ((y + 1 : Nat) : Int) by omega, hm1]
            simp
          rw [e] at hR98
          exact hR98
      · obtain rfl : y = n := by omega
        refine bif_neg hcy (bif_eq rfl (cyStateC h12 (k := 3) rfl ?_))
        simp only [asI_mk', asB_mk, asP_mk, asA_mk, asM_mk, asSl_mk, asStr_mk, tup2_mk, tup3_mk, agg1_mk, agg2_mk, agg3_mk, agg4_mk, asAggm, unCons_mk, unNil_mk, asTup_mk, extractD0, extractD1, List.toList_toArray, nilP_mk, add_mk, Nat.zero_add, Nat.add_zero, condT, condF, Bool.not_true, Bool.not_false, Option.isNone_some, Option.isNone_none]
        refine bif_eq hst0 (cySummaryC h12 (k := 3) rfl hltc (by omega) fun rp1 rc1 op1 oc1 H14 h14 => ?_)
        simp only [asI_mk', asB_mk, asP_mk, asA_mk, asM_mk, asSl_mk, asStr_mk, tup2_mk, tup3_mk, agg1_mk, agg2_mk, agg3_mk, agg4_mk, asAggm, unCons_mk, unNil_mk, asTup_mk, extractD0, extractD1, List.toList_toArray, nilP_mk, add_mk, Nat.zero_add, Nat.add_zero, condT, condF, Bool.not_true, Bool.not_false, Option.isNone_some, Option.isNone_none]
        rw [htold] at h14 ⊢
        simp only [condT]
        refine cySummaryC h14 (k := 5) rfl hltc (by omega) fun rp2 rc2 op2 oc2 H15 h15 => ?_
        simp only [asI_mk', asB_mk, asP_mk, asA_mk, asM_mk, asSl_mk, asStr_mk, tup2_mk, tup3_mk, agg1_mk, agg2_mk, agg3_mk, agg4_mk, asAggm, unCons_mk, unNil_mk, asTup_mk, extractD0, extractD1, List.toList_toArray, nilP_mk, add_mk, Nat.zero_add, Nat.add_zero, condT, condF, Bool.not_true, Bool.not_false, Option.isNone_some, Option.isNone_none]
        rw [htold]
        exact hK H15 h15.keep
    refine ⟨fun fP' fL' fC' k H' => ∃ (y : Nat) (pre : List Int) (s' : Hs) (c' : Cy), k = y ∧ fL' = pre.length ∧ J s n rts 5 s' c' pre ∧ Quiet s' c' ∧ s'.last = n ∧ c'.work = 1 + w ∧ cyLeft s' n c' + (1 + w).toNat * y ≤ 43 * A ∧ c'.lt (4 + 7 * ((1 + w).toNat * y)) ∧
        St H [Prt.row 1 fP' pre.length fC' (pre.map (Value.int .u64)), Prt.row 2 fP rts.length fC (cel Id.cells (rts.map fun k => (⟨1, k⟩ : Id))), CyP b hb c', HeapP hb s', RHeap rb s, Prt.one b13 (.cells #[.slice rp rl rc, .slice op ol oc, .slice ip il ic] ty_hand_Graph (0, 0))] H',
      fun _ _ _ k _ => (100000 - k).toNat, ⟨0, [], s, c1, rfl, rfl, hJ, hq0, hs.last, hwk, by omega, hlt0, ?_⟩, ?_⟩
    · exact h10.row (H' := _) (Own.nil 1) ((Goes.refl Nothing _).less fun c hc => absurd hc blk_none)
    clear h10 hJ hq0 hleft hlt0 hwk
    intro fP' fL' fC' k H11 hI
    obtain ⟨y, pre, s', c', hky, hfL, hJ, hq, hls, hwk, hleft, hlt, h11⟩ := hI
    subst hky
    subst hfL
    have ho := heap_ok h11 (i := 3) rfl
    have hc := cy_ok h11 (k := 2) rfl
    have hpos := left_pos (s := s') (n := n) (c := c')
    have hyw : y ≤ (1 + w).toNat * y := by
      have := Nat.mul_le_mul_right y (show 1 ≤ (1 + w).toNat by omega)
      omega
    have hpre := hJ.len
    have hcy : (y : Int) < 100000 := by omega
    have hlb : 4 + 7 * ((1 + w).toNat * y) ≤ 600000 := by omega
    rw [decide_eq_true hcy]
    simp only [condT]
    refine cyStepC h11 (i := 3) (k := 2) rfl rfl (by decide) hlt hlb fun qp qc H12 h12 => ?_
    have e2 : cyStep s' c' 5 = cySteps 5 (1 + w).toNat s' c' [] := by unfold cyStep; rw [hwk]
    have hst := steps_quiet (stir := 5) (m := (1 + w).toNat) (fr := []) ho hls hc hq
    have hjst := J.steps (m := (1 + w).toNat) (fr := []) (pre := pre) hs.ok hs.last (fun k hk => hs.has.2 hk) ho hc (by rw [List.append_nil]; exact hJ)
    have hltn := Cy.lt.steps (stir := 5) (m := (1 + w).toNat) (fr := []) ho hc hlt
    have hwkn := steps_work (stir := 5) (m := (1 + w).toNat) (fr := []) ho hc
    rw [e2] at h12 ⊢
    simp only [asI_mk', asB_mk, asP_mk, asA_mk, asM_mk, asSl_mk, asStr_mk, tup2_mk, tup3_mk, agg1_mk, agg2_mk, agg3_mk, agg4_mk, asAggm, unCons_mk, unNil_mk, asTup_mk, extractD0, extractD1, List.toList_toArray, nilP_mk, add_mk, Nat.zero_add, Nat.add_zero, condT, condF, Bool.not_true, Bool.not_false, Option.isNone_some, Option.isNone_none]
    generalize cySteps 5 (1 + w).toNat s' c' [] = res at *
    obtain ⟨⟨fr, e⟩, s2, c2⟩ := res
    have hfl : pre.length + fr.length ≤ n := by
      rcases hjst with ⟨_, _, pd, _, h⟩ | ⟨_, h⟩
      · have := congrArg List.length h
        simp only [List.length_append] at this
        have := unm_len (p := pd) (q := n)
        omega
      · have := h.len
        rw [List.length_append] at this
        exact this
    have h12 : St H (Prt.row 1 qp fr.length qc (fr.map (Value.int .u64)) :: [Prt.row 1 fP' pre.length fC' (pre.map (Value.int .u64)), Prt.row 2 fP rts.length fC (cel Id.cells (rts.map fun k => (⟨1, k⟩ : Id))), CyP b hb c2, HeapP hb s2, RHeap rb s, Prt.one b13 (.cells #[.slice rp rl rc, .slice op ol oc, .slice ip il ic] ty_hand_Graph (0, 0))]) H12 := h12
    refine h12.app (i := 1) rfl tu_ty_Suint64 tu_ty_Suint64 ti_ty_uint64 rfl (by decide) (h12.row_rd (i := 0) rfl) (fun z hz => by
      obtain ⟨a, _, rfl⟩ := List.mem_map.1 hz
      rfl) (by dsimp only; omega) fun p' cap' H13 h13 => ?_
    simp only [asI_mk', asB_mk, asP_mk, asA_mk, asM_mk, asSl_mk, asStr_mk, tup2_mk, tup3_mk, agg1_mk, agg2_mk, agg3_mk, agg4_mk, asAggm, unCons_mk, unNil_mk, asTup_mk, extractD0, extractD1, List.toList_toArray, nilP_mk, add_mk, Nat.zero_add, Nat.add_zero, condT, condF, Bool.not_true, Bool.not_false, Option.isNone_some, Option.isNone_none]
    have h13 := St.less h13
    have e3 : pre.map (Value.int .u64) ++ fr.map (Value.int .u64) = (pre ++ fr).map (Value.int .u64) := (List.map_append ..).symm
    have e4 : pre.length + fr.length = (pre ++ fr).length := (List.length_append ..).symm
    rw [e3, e4] at h13
    rw [e4]
    rcases hst with ⟨hend, h0⟩ | ⟨hend, hless, hq', hl'⟩
    · rcases hjst with ⟨_, hje⟩ | ⟨hf, _⟩
      · simp only at hend hje
        rw [hend]
        simp only [condT]
        exact hR74 (pre ++ fr) s2 c2 p' cap' H13 hje (hltn.mono (by omega)) h13
      · simp only at hend hf
        rw [hend] at hf; cases hf
    · rcases hjst with ⟨hf, _⟩ | ⟨_, hj⟩
      · simp only at hend hf
        rw [hend] at hf; cases hf
      · simp only at hend hj hless
        rw [hend]
        simp only [condF]
        rw [wrap_i64 (by omega) (by omega)]
        refine ⟨⟨y + 1, pre ++ fr, s2, c2, by omega, rfl, hj, hq', hl', hwkn.1.trans hwk, ?_, hltn.mono ?_, h13⟩, by (try dsimp only); omega⟩
        · rw [Nat.mul_add]; omega
        · rw [Nat.mul_add]; omega
  refine ⟨fun fP fL fC i H' => ∃ rts : List Int, i = rts.length ∧ fL = rts.length ∧ rts.length ≤ 4 ∧ (∀ k ∈ rts, 1 ≤ k ∧ k ≤ (n : Int)) ∧
      St H [Prt.row 2 fP rts.length fC (cel Id.cells (rts.map fun k => (⟨1, k⟩ : Id))), CyP b hb c0, HeapP hb s, RHeap rb s, Prt.one b13 (.cells #[.slice rp rl rc, .slice op ol oc, .slice ip il ic] ty_hand_Graph (0, 0))] H', fun _ _ _ i _ => (4 - i).toNat,
    ⟨[], rfl, rfl, by simp, fun k hk => (by cases hk), h4.row (H' := _) (Own.nil 2) ((Goes.refl Nothing _).less fun c hc => absurd hc blk_none)⟩, ?_⟩
  clear h4
  rintro fP fL fC i H6 ⟨rts, rfl, rfl, h6l, hrts, h6⟩
  by_cases hc : ((rts.length : Nat) : Int) < roL
  rotate_left
  · exact bif_neg hc (hR49 rts fP fC H6 h6l hrts h6)
  refine bif_pos hc ?_
  by_cases hc6 : ((rts.length : Nat) : Int) < 4
  rotate_left
  · exact bif_neg hc6 (hR49 rts fP fC H6 h6l hrts h6)
  refine bif_pos hc6 ?_
  by_cases hn0 : (n : Int) > 0
  rotate_left
  · exact bif_neg hn0 (hR49 rts fP fC H6 h6l hrts h6)
  refine bif_pos hn0 ?_
  clear hR49
  refine idx1 (d := (0 : Int)) (h6.rd hr) (by omega) hc fun b o _ hcl => ldI_of hcl (Pick_ok' (by omega) (by omega) ?_)
  generalize ro.getD ((rts.length : Nat) : Int).toNat 0 = x
  have p3 := pick_lt (n := x) (m := (n : Int)) (by omega)
  simp only [asI_mk', asB_mk, asP_mk, asA_mk, asM_mk, asSl_mk, asStr_mk, tup2_mk, tup3_mk, agg1_mk, agg2_mk, agg3_mk, agg4_mk, asAggm, unCons_mk, unNil_mk, asTup_mk, extractD0, extractD1, List.toList_toArray, nilP_mk, add_mk, Nat.zero_add, Nat.add_zero, condT, condF, Bool.not_true, Bool.not_false, Option.isNone_some, Option.isNone_none]
  have v1 : IntKind.i64.wrap (1 + pick x n) = 1 + pick x n := wrap_i64 (by omega) (by omega)
  have v2 : IntKind.u64.wrap (1 + pick x n) = 1 + pick x n := wrap_u64' (by omega) (by omega)
  rw [v1, v2]
  generalize hk : 1 + pick x n = k
  refine id16C h6 fun H7 h7 => ?_
  simp only [asI_mk', asB_mk, asP_mk, asA_mk, asM_mk, asSl_mk, asStr_mk, tup2_mk, tup3_mk, agg1_mk, agg2_mk, agg3_mk, agg4_mk, asAggm, unCons_mk, unNil_mk, asTup_mk, extractD0, extractD1, List.toList_toArray, nilP_mk, add_mk, Nat.zero_add, Nat.add_zero, condT, condF, Bool.not_true, Bool.not_false, Option.isNone_some, Option.isNone_none]
  refine lit_ty_Sapi_ID (m := 1) (c := #[.int .i64 1, .int .u64 k]) (h7.row_own (i := 0) rfl) rfl (fun z hz => by simp at hz; rcases hz with rfl | rfl <;> rfl) (by omega) fun p' cap' H8 ho' hg' => ?_
  simp only [asI_mk', asB_mk, asP_mk, asA_mk, asM_mk, asSl_mk, asStr_mk, tup2_mk, tup3_mk, agg1_mk, agg2_mk, agg3_mk, agg4_mk, asAggm, unCons_mk, unNil_mk, asTup_mk, extractD0, extractD1, List.toList_toArray, nilP_mk, add_mk, Nat.zero_add, Nat.add_zero, condT, condF, Bool.not_true, Bool.not_false, Option.isNone_some, Option.isNone_none]
  have h8 := h7.row_to (i := 0) rfl ho' hg'
  have e1 : cel Id.cells (rts.map fun k => (⟨1, k⟩ : Id)) ++ (#[Value.int .i64 1, .int .u64 k] : Array Value).toList = cel Id.cells ((rts ++ [k]).map fun k => (⟨1, k⟩ : Id)) := by
    rw [List.map_append, cel_append]
    rfl
  rw [e1] at h8
  have hlen : rts.length + 1 = (rts ++ [k]).length := by simp
  rw [hlen] at h8 ⊢
  rw [wrap_i64 (by omega) (by omega)]
  exact ⟨⟨rts ++ [k], by simp, rfl, by simp; omega, fun a ha => by
    rcases List.mem_append.1 ha with ha | ha
    · exact hrts a ha
    · simp at ha; omega, h8⟩, by (try dsimp only); omega⟩

end Go.Proofs.YtohlnmenghbgbaaGreat
