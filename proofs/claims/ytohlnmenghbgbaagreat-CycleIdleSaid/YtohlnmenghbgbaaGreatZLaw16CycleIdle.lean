/- Merged by merge.py: DenLaw16, DenLaw16CycleKnown, Law16, DenLaw16CycleWaits, DenLaw16CycleIdle, Law16w. No condition. -/
import Derived.Test.YtohlnmenghbgbaaGreatZNum
import Derived.Test.YtohlnmenghbgbaaGreatZCycle
import Derived.Test.YtohlnmenghbgbaaGreatZMark
import Derived.Test.YtohlnmenghbgbaaGreatZReach

namespace Go.Proofs.YtohlnmenghbgbaaGreat
open Go
set_option linter.unusedVariables false
set_option maxRecDepth 100000
def B_law16_known  (H : Hp) (K : Value → Hp → Prop) : Prop :=
 hcall PR f_heap_New ⟨[(.int .i64 1), (.int .i64 64), (.int .i64 4), (.int .u64 0)]⟩ H fun v1 Hx2 =>
 tup2 v1 fun v3 v4 =>
 asP v3 fun t5 =>
 asI .i64 v4 fun t6 =>
 (bif ((t6 : Int) != 0) then
 K (.bool false) Hx2
else
 (bif (Option.isNone (α := Addr) t5) then
 K (.bool false) Hx2
else
 hcall PR f_heap_Heap_Make ⟨[(.pointer t5), (.int .i64 1), (.int .i64 0)]⟩ Hx2 fun v7 Hx8 =>
 tup2 v7 fun v9 v10 =>
 asI .u64 v9 fun t11 =>
 asI .i64 v10 fun t12 =>
 hcall PR f_cycle_New ⟨[(.pointer t5), (.int .i64 1), (.int .i64 4), (.int .i64 3), (.int .i64 8)]⟩ Hx8 fun v13 Hx14 =>
 tup2 v13 fun v15 v16 =>
 asP v15 fun t17 =>
 asI .i64 v16 fun t18 =>
 (bif ((t18 : Int) != 0) then
 K (.bool false) Hx14
else
 (bif (Option.isNone (α := Addr) t17) then
 K (.bool false) Hx14
else
 hcall PR f_cycle_Cycle_Step ⟨[(.pointer t17), (.int .u64 0)]⟩ Hx14 fun v19 Hx20 =>
 tup2 v19 fun v21 v22 =>
 asSl v21 fun tP23 tL24 tC25 =>
 asB v22 fun t26 =>
 hcall PR f_cycle_Cycle_State ⟨[(.pointer t17)]⟩ Hx20 fun v27 Hx28 =>
 asI .i64 v27 fun t29 =>
 ∀ R30 : Bool → Hp → Prop, (∀ b32 : Bool, ∀ Hx31 : Hp, (
 hcall PR f_cycle_Cycle_State ⟨[(.pointer t17)]⟩ Hx31 fun v33 Hx34 =>
 asI .i64 v33 fun t35 =>
 hcall PR f_cycle_Cycle_Step ⟨[(.pointer t17), (.int .u64 0)]⟩ Hx34 fun v36 Hx37 =>
 tup2 v36 fun v38 v39 =>
 asSl v38 fun tP40 tL41 tC42 =>
 asB v39 fun t43 =>
 (bif (((tL24 : Int) : Int) == 0) then
 (bif (!t26) then
 (bif ((t29 : Int) == 1) then
 (bif b32 then
 (bif ((t35 : Int) == 2) then
 (bif (((tL41 : Int) : Int) == 1) then
 idxA tP40 tL41 0 1 fun el44 =>
 ldI .u64 el44 Hx37 fun t45 =>
 (bif ((t45 : Int) == 1) then
 (bif t43 then
 hcall PR f_cycle_Cycle_State ⟨[(.pointer t17)]⟩ Hx37 fun v46 Hx47 =>
 asI .i64 v46 fun t48 =>
 (bif ((t48 : Int) == 0) then
 hcall PR f_heap_Heap_Len ⟨[(.pointer t5)]⟩ Hx47 fun v49 Hx50 =>
 asI .i64 v49 fun t51 =>
 K (.bool ((t51 : Int) == 0)) Hx50
else
 K (.bool false) Hx47)
else
 K (.bool false) Hx37)
else
 K (.bool false) Hx37)
else
 K (.bool false) Hx37)
else
 K (.bool false) Hx37)
else
 K (.bool false) Hx37)
else
 K (.bool false) Hx37)
else
 K (.bool false) Hx37)
else
 K (.bool false) Hx37)) → R30 b32 Hx31) →
 hcall PR f_cycle_Cycle_Shake ⟨[(.pointer t17), (.int .i64 0), (.slice none 0 0)]⟩ Hx28 fun v52 Hx53 =>
 asB v52 fun t54 =>
 (bif t54 then
 hcall PR f_cycle_Cycle_Shake ⟨[(.pointer t17), (.int .i64 0), (.slice none 0 0)]⟩ Hx53 fun v55 Hx56 =>
 asB v55 fun t57 =>
 (bif t57 then
 hcall PR f_cycle_Cycle_Shake ⟨[(.pointer t17), (.int .i64 1), (.slice none 0 0)]⟩ Hx56 fun v58 Hx59 =>
 asB v58 fun t60 =>
 (bif t60 then
 hcall PR f_cycle_Cycle_Shake ⟨[(.pointer t17), (.int .i64 1), (.slice none 0 0)]⟩ Hx59 fun v61 Hx62 =>
 asB v61 fun t63 =>
 R30 (!t63) Hx62
else
 R30 false Hx59)
else
 R30 false Hx56)
else
 R30 false Hx53)))))
theorem E_law16_known  (H : Hp) (K : Value → Hp → Prop) : B_law16_known  H K = denF Tryz.prog Tryz.f15 (.seq none .n (.seq none .n (.seq none .n (.seq none .n (.seq none .n (.seq none .n (.seq none .n (.seq none .n (.seq (some ⟨[(8, .bool)], [1, 3, 5, 6, 7]⟩) .n .n))))))))) [] H K := by kernel_rfl
theorem den_law16_known  {H : Hp} {K : Value → Hp → Prop} (h : B_law16_known  H K) : hcall PR f_law16_known ⟨[]⟩ H K := denF_call Tryz.func15 PR_mixed (Eq.mp (E_law16_known  H K) h)

def B_law16_id (s1 : Int) (H : Hp) (K : Value → Hp → Prop) : Prop :=
 newB (.cells #[(.int .i64 0), (.int .u64 0)] ty_api_ID) H fun b2 Hx3 =>
 st ⟨b2, 0, none⟩ (.int .i64 1) Hx3 fun Hx4 =>
 st ⟨b2, 1, none⟩ (.int .u64 s1) Hx4 fun Hx5 =>
 ldI .i64 ⟨b2, 0, none⟩ Hx5 fun Node6 =>
 ldI .u64 ⟨b2, 1, none⟩ Hx5 fun Serial7 =>
 K (.agg #[(.int .i64 Node6), (.int .u64 Serial7)]) Hx5
theorem E_law16_id (s1 : Int) (H : Hp) (K : Value → Hp → Prop) : B_law16_id s1 H K = denF Tryz.prog Tryz.f19 .n [(.int .u64 s1)] H K := by kernel_rfl
theorem den_law16_id {s1 : Int} {H : Hp} {K : Value → Hp → Prop} (h : B_law16_id s1 H K) : hcall PR f_law16_id ⟨[(.int .u64 s1)]⟩ H K := denF_call Tryz.func19 PR_mixed (Eq.mp (E_law16_id s1 H K) h)

end Go.Proofs.YtohlnmenghbgbaaGreat

namespace Go.Proofs.YtohlnmenghbgbaaGreat
open Go
set_option linter.unusedVariables false
set_option maxRecDepth 100000
end Go.Proofs.YtohlnmenghbgbaaGreat

namespace Go.Proofs.YtohlnmenghbgbaaGreat
set_option linter.unusedSimpArgs false
set_option linter.unusedVariables false
open Go
section
variable {H0 H : Hp} {L M : List Prt} {i j k b hb : Nat} {s : Hs} {c : Cy} {K : Value → Hp → Prop}
/-! ## The example -/
def k16a : Cy := ⟨⟨1, [false, true], [false, false]⟩, ⟨[], [], [], 4, false, 1⟩, ⟨0, false, 0⟩, rcNew 0, 0, 1, 0, 3, 8, 0, 0, ⟨0, [], [], false⟩⟩
def k16b : Cy := ⟨⟨2, [true, true], [false, false]⟩, ⟨[], [], [], 4, false, 1⟩, ⟨0, false, 0⟩, rcNew 0, 0, 1, 0, 3, 8, 0, 0, ⟨0, [], [], false⟩⟩
def k16c : Cy := ⟨⟨2, [true, true], [true, false]⟩, ⟨[], [], [], 4, false, 1⟩, ⟨0, false, 0⟩, rcNew 0, 0, 1, 0, 3, 8, 0, 0, ⟨0, [], [], false⟩⟩
def k16d : Cy := ⟨⟨3, [true, true], [true, true]⟩, ⟨[], [], [], 4, false, 1⟩, ⟨0, false, 0⟩, rcNew 0, 0, 1, 0, 3, 8, 0, 0, ⟨0, [], [], false⟩⟩
def k16e (pl : Int) : Cy := ⟨⟨3, [true, true], [true, true]⟩, ⟨[], [], [], 4, false, 1⟩, ⟨1, false, 0⟩, ⟨3, 1, none, []⟩, pl, 1, 5, 3, 8, 0, 1, ⟨0, [], [], true⟩⟩
def k16f : Cy := ⟨⟨0, [false, false], [false, false]⟩, ⟨[], [], [], 4, false, 1⟩, ⟨1, false, 0⟩, ⟨3, 1, none, []⟩, 1, 1, 0, 3, 8, 0, 1, ⟨0, [], [], true⟩⟩
theorem known16_begin : cyStep s (newCy 1 4 3 8 1) 0 = (([], false), s, k16a) := steps_stop (n := 7) (unit0 rfl)
theorem known16_shake : cyShake s k16a 0 [] = (true, k16b) ∧ cyShake s k16b 0 [] = (true, k16c) ∧ cyShake s k16c 1 [] = (true, k16d) ∧ cyShake s k16d 1 [] = (false, k16d) := ⟨rfl, rfl, rfl, rfl⟩
theorem known16_run {y : Id} {c1 : Int} (ho : s.ok) (hobs : s.obs = [⟨1, c1, [y], [], 0⟩]) (hn : s.node = 1) (hl : s.last = 1) : cyStep s k16d 0 = (([1], true), (hFree s 1).2, k16f) := by
  have g1 : hGet s 1 = some ⟨1, c1, [y], [], 0⟩ := by unfold hGet; rw [hobs]; rfl
  have n0 : hNext s 0 = (1, true) := by unfold hNext; rw [hobs]; rfl
  have n1 : hNext s 1 = (0, false) := by unfold hNext; rw [hobs]; rfl
  have ho2 := ho.free 1
  have n2 : hNext (hFree s 1).2 1 = (0, false) := hNext_none ho2 fun k hk => by
    rw [hFree_get, if_neg (by omega)]
    cases hg : hGet s k with
    | none => rfl
    | some o =>
      have := hNext_false (s := s) (q := 1) (by rw [n1]) (k := k) (by rw [hg]; simp)
      omega
  have own : ∀ k, rcOwn s ⟨[], [], [], 4, false, 1⟩ 3 k = false := fun k => by
    cases ho : rcOwn s ⟨[], [], [], 4, false, 1⟩ 3 k
    · rfl
    · obtain ⟨_, r, g, h, _⟩ := rcOwn_has ho
      cases h
  obtain ⟨pa, hpa⟩ : ∃ pa : Ps, pa = ⟨[], [], [], 4, false, 1⟩ := ⟨_, rfl⟩
  have m0 : mkStep s pa ⟨0, false, 0⟩ = (true, pa, ⟨1, false, 0⟩) := by
    unfold mkStep mkSee
    rw [hpa]
    simp only [List.getLast?_nil, n0, g1]
    rfl
  have m1 : mkStep s pa ⟨1, false, 0⟩ = (false, pa, ⟨1, false, 0⟩) := by
    unfold mkStep
    rw [hpa]
    simp only [List.getLast?_nil, n1]
    rfl
  have r0 : rcStep s pa (rcNew 3) = (true, ⟨3, 1, none, []⟩) := by
    rw [hpa]
    unfold rcStep rcNew rcNext
    simp only [n0, g1, own]
    rfl
  have r1 : rcStep s pa ⟨3, 1, none, []⟩ = (false, ⟨3, 1, none, []⟩) := by
    rw [hpa]
    unfold rcStep rcNext
    simp only [n1]
    rfl
  obtain ⟨ca, hca⟩ : ∃ ca : Cy, ca = { k16d with st := 3, m := ⟨1, false, 0⟩ } := ⟨_, rfl⟩
  obtain ⟨cb, hcb⟩ : ∃ cb : Cy, cb = { k16d with st := 4, m := ⟨1, false, 0⟩, r := rcNew 3 } := ⟨_, rfl⟩
  obtain ⟨cc, hcc⟩ : ∃ cc : Cy, cc = { k16d with st := 4, m := ⟨1, false, 0⟩, r := ⟨3, 1, none, []⟩ } := ⟨_, rfl⟩
  have u1 : cyUnit s k16d 0 = ⟨none, 0, s, ca⟩ := by
    rw [unit23 (.inr rfl) rfl, hca]
    unfold cyMarks
    rw [show mkStep s ({ k16d with st := 3, m := ⟨0, false, 0⟩ } : Cy).p ({ k16d with st := 3, m := ⟨0, false, 0⟩ } : Cy).m = (true, pa, ⟨1, false, 0⟩) from by rw [← m0, hpa]; rfl]
    rw [if_pos rfl, hpa]
    rfl
  have u2 : cyUnit s ca 0 = ⟨none, 0, s, cb⟩ := by
    rw [unit3 (by rw [hca]; rfl)]
    unfold cyMarks
    rw [show mkStep s ca.p ca.m = (false, pa, ⟨1, false, 0⟩) from by rw [← m1, hpa, hca]; rfl]
    rw [if_neg (fun h => by cases h), hca, hcb, hpa]
    rfl
  have u3 : cyUnit s cb 0 = ⟨none, 0, s, cc⟩ := by
    rw [unit4 (by rw [hcb]; rfl)]
    unfold cyReaches
    rw [show mkStep s cb.p cb.m = (false, pa, ⟨1, false, 0⟩) from by rw [← m1, hpa, hcb]; rfl]
    rw [if_neg (fun h => by cases h)]
    simp only
    rw [show rcStep s pa cb.r = (true, ⟨3, 1, none, []⟩) from by rw [← r0, hcb]]
    rw [if_pos rfl, hcb, hcc, hpa]
    rfl
  have u4 : cyUnit s cc 0 = ⟨none, 0, s, k16e 0⟩ := by
    rw [unit4 (by rw [hcc]; rfl)]
    unfold cyReaches
    rw [show mkStep s cc.p cc.m = (false, pa, ⟨1, false, 0⟩) from by rw [← m1, hpa, hcc]; rfl]
    rw [if_neg (fun h => by cases h)]
    simp only
    rw [show rcStep s pa cc.r = (false, ⟨3, 1, none, []⟩) from by rw [← r1, hcc]]
    rw [if_neg (by decide), hcc, hpa, hl]
    rfl
  have s5 : swStep s pa 0 1 = ((1, true), (hFree s 1).2, pa, 1) := by
    unfold swStep
    rw [n0, if_neg (by decide), if_neg (by rw [hpa]; show ¬ (false = true); decide), hpa]
    rfl
  have s6 : swStep (hFree s 1).2 pa 1 1 = ((0, false), (hFree s 1).2, pa, 1) := by
    unfold swStep
    rw [n2, if_pos (.inl rfl)]
  have u5 : cyUnit s (k16e 0) 0 = ⟨none, 1, (hFree s 1).2, k16e 1⟩ := by
    have e : swStep s (k16e 0).p (k16e 0).pl (k16e 0).e = ((1, true), (hFree s 1).2, pa, 1) := by rw [← s5, hpa]; rfl
    rw [unit6 rfl (by rw [e]), e, hpa]
    rfl
  have u6 : cyUnit (hFree s 1).2 (k16e 1) 0 = ⟨some true, 0, (hFree s 1).2, k16f⟩ := by
    have e : swStep (hFree s 1).2 (k16e 1).p (k16e 1).pl (k16e 1).e = ((0, false), (hFree s 1).2, pa, 1) := by rw [← s6, hpa]; rfl
    rw [unit5 rfl (by rw [e]), e, hpa]
    rfl
  show cySteps 0 8 s k16d [] = _
  rw [steps_go u1, steps_go u2, steps_go u3, steps_go u4, steps_go u5, steps_stop u6]
  rfl

theorem known16_ok (h : St H0 L H) (hK : ∀ H', St H0 L H' → K (.bool true) H') : hcall PR f_law16_known ⟨[]⟩ H K := by
  apply den_law16_known
  unfold B_law16_known
  refine hNewOk (m := 4) (by decide) (by decide) (by decide) (by decide) (by decide) h fun hb H1 h1 => ?_
  simp only [asI_mk', asB_mk, asP_mk, asA_mk, asM_mk, asSl_mk, asStr_mk, tup2_mk, tup3_mk, agg1_mk, agg2_mk, agg3_mk, agg4_mk, asAggm, unCons_mk, unNil_mk, asTup_mk, extractD0, extractD1, List.toList_toArray, nilP_mk, add_mk, Nat.zero_add, Nat.add_zero, condT, condF, Bool.not_true, Bool.not_false, Option.isNone_some, Option.isNone_none]
  refine bif_neqf rfl ?_
  obtain ⟨s1, c1, a0, a1, a2, a3, a4, a5, a6⟩ := hMake_good' (s := newHs 1 4 0 4) (r := 1) (v := 0) (heap_ok h1 (i := 0) rfl) (by omega) (by omega) (by decide) (by decide) (by show 0 < frees (List.replicate 4 noBlk); rw [frees_new]; omega)
  refine hMakeC h1 (i := 0) rfl (by decide) (by decide) fun H2 h2 => ?_
  rw [a0] at h2 ⊢
  have h2 : St H0 (HeapP hb s1 :: L) H2 := h2
  simp only [asI_mk', asB_mk, asP_mk, asA_mk, asM_mk, asSl_mk, asStr_mk, tup2_mk, tup3_mk, agg1_mk, agg2_mk, agg3_mk, agg4_mk, asAggm, unCons_mk, unNil_mk, asTup_mk, extractD0, extractD1, List.toList_toArray, nilP_mk, add_mk, Nat.zero_add, Nat.add_zero, condT, condF, Bool.not_true, Bool.not_false, Option.isNone_some, Option.isNone_none]
  have a3 : s1.node = 1 := a3
  have a4 : s1.obs = [⟨1, c1, [noId], [], 0⟩] := a4
  have al : s1.last = 1 := by first | exact a1 | exact a2 | exact a5 | exact a6
  refine cyNewC h2 (i := 0) rfl a3 (by omega) (by omega) (by omega) (by omega) fun b H3 h3 => ?_
  rw [al] at h3
  simp only [asI_mk', asB_mk, asP_mk, asA_mk, asM_mk, asSl_mk, asStr_mk, tup2_mk, tup3_mk, agg1_mk, agg2_mk, agg3_mk, agg4_mk, asAggm, unCons_mk, unNil_mk, asTup_mk, extractD0, extractD1, List.toList_toArray, nilP_mk, add_mk, Nat.zero_add, Nat.add_zero, condT, condF, Bool.not_true, Bool.not_false, Option.isNone_some, Option.isNone_none]
  refine bif_neqf rfl ?_
  (try simp only [Option.isNone_some, condF])
  have ho := heap_ok h3 (i := 1) rfl
  refine cyStepC h3 (i := 1) (k := 0) rfl rfl (by decide) (n := 0) newCy_lt (by omega) fun fp fc H4 h4 => ?_
  rw [known16_begin] at h4 ⊢
  have h4 : St H0 (CyP b hb k16a :: HeapP hb s1 :: L) H4 := h4.less
  simp only [asI_mk', asB_mk, asP_mk, asA_mk, asM_mk, asSl_mk, asStr_mk, tup2_mk, tup3_mk, agg1_mk, agg2_mk, agg3_mk, agg4_mk, asAggm, unCons_mk, unNil_mk, asTup_mk, extractD0, extractD1, List.toList_toArray, nilP_mk, add_mk, Nat.zero_add, Nat.add_zero, condT, condF, Bool.not_true, Bool.not_false, Option.isNone_some, Option.isNone_none]
  refine cyStateC h4 (k := 0) rfl ?_
  simp only [asI_mk', asB_mk, asP_mk, asA_mk, asM_mk, asSl_mk, asStr_mk, tup2_mk, tup3_mk, agg1_mk, agg2_mk, agg3_mk, agg4_mk, asAggm, unCons_mk, unNil_mk, asTup_mk, extractD0, extractD1, List.toList_toArray, nilP_mk, add_mk, Nat.zero_add, Nat.add_zero, condT, condF, Bool.not_true, Bool.not_false, Option.isNone_some, Option.isNone_none]
  intro R30 hR30
  obtain ⟨q1, q2, q3, q4⟩ := known16_shake (s := s1)
  refine cyShakeC (held := []) h4 (i := 1) (k := 0) rfl rfl (by decide) (fun _ _ _ => rd_nil) (by simp) fun H5 h5 => ?_
  rw [q1] at h5 ⊢
  have h5 : St H0 (CyP b hb k16b :: HeapP hb s1 :: L) H5 := h5
  simp only [asI_mk', asB_mk, asP_mk, asA_mk, asM_mk, asSl_mk, asStr_mk, tup2_mk, tup3_mk, agg1_mk, agg2_mk, agg3_mk, agg4_mk, asAggm, unCons_mk, unNil_mk, asTup_mk, extractD0, extractD1, List.toList_toArray, nilP_mk, add_mk, Nat.zero_add, Nat.add_zero, condT, condF, Bool.not_true, Bool.not_false, Option.isNone_some, Option.isNone_none]
  refine cyShakeC (held := []) h5 (i := 1) (k := 0) rfl rfl (by decide) (fun _ _ _ => rd_nil) (by simp) fun H6 h6 => ?_
  rw [q2] at h6 ⊢
  have h6 : St H0 (CyP b hb k16c :: HeapP hb s1 :: L) H6 := h6
  simp only [asI_mk', asB_mk, asP_mk, asA_mk, asM_mk, asSl_mk, asStr_mk, tup2_mk, tup3_mk, agg1_mk, agg2_mk, agg3_mk, agg4_mk, asAggm, unCons_mk, unNil_mk, asTup_mk, extractD0, extractD1, List.toList_toArray, nilP_mk, add_mk, Nat.zero_add, Nat.add_zero, condT, condF, Bool.not_true, Bool.not_false, Option.isNone_some, Option.isNone_none]
  refine cyShakeC (held := []) h6 (i := 1) (k := 0) rfl rfl (by decide) (fun _ _ _ => rd_nil) (by simp) fun H7 h7 => ?_
  rw [q3] at h7 ⊢
  have h7 : St H0 (CyP b hb k16d :: HeapP hb s1 :: L) H7 := h7
  simp only [asI_mk', asB_mk, asP_mk, asA_mk, asM_mk, asSl_mk, asStr_mk, tup2_mk, tup3_mk, agg1_mk, agg2_mk, agg3_mk, agg4_mk, asAggm, unCons_mk, unNil_mk, asTup_mk, extractD0, extractD1, List.toList_toArray, nilP_mk, add_mk, Nat.zero_add, Nat.add_zero, condT, condF, Bool.not_true, Bool.not_false, Option.isNone_some, Option.isNone_none]
  refine cyShakeC (held := []) h7 (i := 1) (k := 0) rfl rfl (by decide) (fun _ _ _ => rd_nil) (by simp) fun H8 h8 => ?_
  rw [q4] at h8 ⊢
  have h8 : St H0 (CyP b hb k16d :: HeapP hb s1 :: L) H8 := h8
  simp only [asI_mk', asB_mk, asP_mk, asA_mk, asM_mk, asSl_mk, asStr_mk, tup2_mk, tup3_mk, agg1_mk, agg2_mk, agg3_mk, agg4_mk, asAggm, unCons_mk, unNil_mk, asTup_mk, extractD0, extractD1, List.toList_toArray, nilP_mk, add_mk, Nat.zero_add, Nat.add_zero, condT, condF, Bool.not_true, Bool.not_false, Option.isNone_some, Option.isNone_none]
  refine hR30 true H8 ?_
  refine cyStateC h8 (k := 0) rfl ?_
  simp only [asI_mk', asB_mk, asP_mk, asA_mk, asM_mk, asSl_mk, asStr_mk, tup2_mk, tup3_mk, agg1_mk, agg2_mk, agg3_mk, agg4_mk, asAggm, unCons_mk, unNil_mk, asTup_mk, extractD0, extractD1, List.toList_toArray, nilP_mk, add_mk, Nat.zero_add, Nat.add_zero, condT, condF, Bool.not_true, Bool.not_false, Option.isNone_some, Option.isNone_none]
  have hlt : k16d.lt 0 := ⟨⟨Nat.le_refl _, Nat.le_refl _⟩, ⟨fun w hw => by (cases hw), Nat.le_refl _, fun r hr => by (cases hr)⟩, Nat.le_refl _, fun r hr => by (cases hr), Nat.le_refl _⟩
  refine cyStepC h8 (i := 1) (k := 0) rfl rfl (by decide) hlt (by omega) fun fp2 fc2 H9 h9 => ?_
  rw [known16_run ho a4 a3 al] at h9 ⊢
  have h9 : St H0 (Prt.row 1 fp2 1 fc2 [.int .u64 1] :: CyP b hb k16f :: HeapP hb (hFree s1 1).2 :: L) H9 := h9
  simp only [asI_mk', asB_mk, asP_mk, asA_mk, asM_mk, asSl_mk, asStr_mk, tup2_mk, tup3_mk, agg1_mk, agg2_mk, agg3_mk, agg4_mk, asAggm, unCons_mk, unNil_mk, asTup_mk, extractD0, extractD1, List.toList_toArray, nilP_mk, add_mk, Nat.zero_add, Nat.add_zero, condT, condF, Bool.not_true, Bool.not_false, Option.isNone_some, Option.isNone_none]
  refine bif_eq rfl (bif_eq rfl (bif_eq rfl (bif_eq rfl ?_)))
  refine idxS (g := fun x : Int => [Value.int .u64 x]) (l := [1]) (fun _ => rfl) 0 (h9.row_rd (i := 0) rfl) (by omega) (by omega) (by simp) fun b1 o1 _ hl1 hcc => ?_
  refine ldI_of (hcc 0 (by omega)) (bif_eq rfl ?_)
  refine cyStateC h9 (k := 1) rfl ?_
  simp only [asI_mk', asB_mk, asP_mk, asA_mk, asM_mk, asSl_mk, asStr_mk, tup2_mk, tup3_mk, agg1_mk, agg2_mk, agg3_mk, agg4_mk, asAggm, unCons_mk, unNil_mk, asTup_mk, extractD0, extractD1, List.toList_toArray, nilP_mk, add_mk, Nat.zero_add, Nat.add_zero, condT, condF, Bool.not_true, Bool.not_false, Option.isNone_some, Option.isNone_none]
  refine bif_eq rfl (hLen h9 (i := 2) rfl ?_)
  simp only [asI_mk', asB_mk, asP_mk, asA_mk, asM_mk, asSl_mk, asStr_mk, tup2_mk, tup3_mk, agg1_mk, agg2_mk, agg3_mk, agg4_mk, asAggm, unCons_mk, unNil_mk, asTup_mk, extractD0, extractD1, List.toList_toArray, nilP_mk, add_mk, Nat.zero_add, Nat.add_zero, condT, condF, Bool.not_true, Bool.not_false, Option.isNone_some, Option.isNone_none]
  have hz := hFree_len ho (k := 1) (by unfold hGet; rw [a4]; simp)
  rw [a4] at hz
  have hz : (hFree s1 1).2.obs.length = 0 := by simpa using hz
  rw [hz]
  exact hK H9 (St.lesses (M := [_, _, _]) h9)
end
end Go.Proofs.YtohlnmenghbgbaaGreat

namespace Go.Proofs.YtohlnmenghbgbaaGreat
open Go
set_option linter.unusedVariables false
set_option maxRecDepth 100000
end Go.Proofs.YtohlnmenghbgbaaGreat

namespace Go.Proofs.YtohlnmenghbgbaaGreat
open Go
set_option linter.unusedVariables false
set_option maxRecDepth 100000
def B_law16_CycleIdle (gRefsP1 : Option Addr) (gRefsL2 : Nat) (gRefsC3 : Nat) (gOutP4 : Option Addr) (gOutL5 : Nat) (gOutC6 : Nat) (gInP7 : Option Addr) (gInL8 : Nat) (gInC9 : Nat) (lP10 : Option Addr) (lL11 : Nat) (lC12 : Nat) (H : Hp) (K : Value → Hp → Prop) : Prop :=
 newB (.cells #[(.slice gRefsP1 gRefsL2 gRefsC3), (.slice gOutP4 gOutL5 gOutC6), (.slice gInP7 gInL8 gInC9)] ty_hand_Graph) H fun b13 Hx14 =>
 ldSl ⟨b13, 0, none⟩ Hx14 fun RefsP15 RefsL16 RefsC17 =>
 ldSl ⟨b13, 1, none⟩ Hx14 fun OutP18 OutL19 OutC20 =>
 ldSl ⟨b13, 2, none⟩ Hx14 fun InP21 InL22 InC23 =>
 hcall PR f_hand_Graph_Heaps ⟨[(.agg #[(.slice RefsP15 RefsL16 RefsC17), (.slice OutP18 OutL19 OutC20), (.slice InP21 InL22 InC23)]), (.int .i64 20)]⟩ Hx14 fun v24 Hx25 =>
 tup2 v24 fun v26 v27 =>
 asP v26 fun t28 =>
 asP v27 fun t29 =>
 hcall PR f_law16_known ⟨[]⟩ Hx25 fun v30 Hx31 =>
 asB v30 fun t32 =>
 (bif (!t32) then
 K (.bool false) Hx31
else
 (bif (Option.isNone (α := Addr) t28) then
 K (.bool false) Hx31
else
 hcall PR f_cycle_New ⟨[(.pointer t28), (.int .i64 2), (.int .i64 3), (.int .i64 2), (.int .i64 4)]⟩ Hx31 fun v33 Hx34 =>
 tup2 v33 fun v35 v36 =>
 asP v35 fun t37 =>
 asI .i64 v36 fun t38 =>
 (bif ((t38 : Int) != 0) then
 K (.bool false) Hx34
else
 (bif (Option.isNone (α := Addr) t37) then
 K (.bool false) Hx34
else
 ∀ R39 : Hp → Prop, (∀ Hx40 : Hp, (
 ∃ (I41 : Int → Hp → Prop) (m42 : Int → Hp → Nat), I41 1 Hx40 ∧ ∀ s44 : Int, ∀ Hx43 : Hp, I41 s44 Hx43 →
 nilP t29 fun ta45 =>
 ldI .u64 (ta45.add 2) Hx43 fun Last46 =>
 (bif (decide ((s44 : Int) ≤ Last46)) then
 hcall PR f_cycle_Cycle_Mark ⟨[(.pointer t37), (.int .u64 s44)]⟩ Hx43 fun v47 Hx48 =>
 tup3 v47 fun v49 v50 v51 =>
 asI .i64 v49 fun t52 =>
 asB v50 fun t53 =>
 asB v51 fun t54 =>
 (bif t54 then
 K (.bool false) Hx48
else
 I41 (IntKind.u64.wrap (s44 + 1)) Hx48 ∧ m42 (IntKind.u64.wrap (s44 + 1)) Hx48 < m42 s44 Hx43)
else
 hcall PR f_cycle_Cycle_Outs ⟨[(.pointer t37)]⟩ Hx43 fun v55 Hx56 =>
 asSl v55 fun tP57 tL58 tC59 =>
 (bif (((tL58 : Int) : Int) == 0) then
 hcall PR f_cycle_Cycle_State ⟨[(.pointer t37)]⟩ Hx56 fun v60 Hx61 =>
 asI .i64 v60 fun t62 =>
 K (.bool ((t62 : Int) == 0)) Hx61
else
 K (.bool false) Hx56))) → R39 Hx40) →
 ∃ (I63 : Int → Hp → Prop) (m64 : Int → Hp → Nat), I63 0 Hx34 ∧ ∀ i66 : Int, ∀ Hx65 : Hp, I63 i66 Hx65 →
 (bif (decide ((i66 : Int) < (lL11 : Int))) then
 (bif (decide ((i66 : Int) < 60)) then
 idxA lP10 lL11 i66 8 fun el67 =>
 ldI .u64 (el67.add 3) Hx65 fun Serial68 =>
 nilP t29 fun ta69 =>
 ldI .u64 (ta69.add 2) Hx65 fun Last70 =>
 ((IntKind.u64.wrap (Last70 + 1)) : Int) ≠ 0 ∧
 idxA lP10 lL11 i66 8 fun el71 =>
 ldI .i64 (el71.add 1) Hx65 fun M72 =>
 idxA lP10 lL11 i66 8 fun el73 =>
 ldI .i64 (el73.add 4) Hx65 fun Node74 =>
 ldI .u64 ((el73.add 4).add 1) Hx65 fun Serial75 =>
 hcall PR f_hand_Pick ⟨[(.int .i64 M72), (.int .i64 4)]⟩ Hx65 fun v76 Hx77 =>
 asI .i64 v76 fun t78 =>
 (ldI .i64 (el73.add 4) Hx77 fun Node79 =>
 ldI .u64 ((el73.add 4).add 1) Hx77 fun Serial80 =>
 ((.agg #[(.int .i64 Node79), (.int .u64 Serial80)]) : Value) = (.agg #[(.int .i64 Node74), (.int .u64 Serial75)])) ∧
 hcall PR f_law16_id ⟨[(.int .u64 (Int.tmod Serial68 (IntKind.u64.wrap (Last70 + 1))))]⟩ Hx77 fun v81 Hx82 =>
 agg2 v81 fun v83 v84 =>
 asI .i64 v83 fun Node85 =>
 asI .u64 v84 fun Serial86 =>
 (ldI .i64 (el73.add 4) Hx82 fun Node87 =>
 ldI .u64 ((el73.add 4).add 1) Hx82 fun Serial88 =>
 ((.agg #[(.int .i64 Node87), (.int .u64 Serial88)]) : Value) = (.agg #[(.int .i64 Node74), (.int .u64 Serial75)])) ∧
 hcall PR f_cycle_Cycle_Store ⟨[(.pointer t37), (.int .i64 t78), (.agg #[(.int .i64 Node85), (.int .u64 Serial86)]), (.agg #[(.int .i64 Node74), (.int .u64 Serial75)])]⟩ Hx82 fun v89 Hx90 =>
 idxA lP10 lL11 i66 8 fun el91 =>
 ldI .i64 (el91.add 1) Hx90 fun M92 =>
 hcall PR f_hand_Pick ⟨[(.int .i64 M92), (.int .i64 4)]⟩ Hx90 fun v93 Hx94 =>
 asI .i64 v93 fun t95 =>
 hcall PR f_cycle_Cycle_Born ⟨[(.pointer t37), (.int .i64 t95), (.int .u64 (Int.tmod Serial68 (IntKind.u64.wrap (Last70 + 1))))]⟩ Hx94 fun v96 Hx97 =>
 hcall PR f_law16_id ⟨[(.int .u64 (Int.tmod Serial68 (IntKind.u64.wrap (Last70 + 1))))]⟩ Hx97 fun v98 Hx99 =>
 agg2 v98 fun v100 v101 =>
 asI .i64 v100 fun Node102 =>
 asI .u64 v101 fun Serial103 =>
 hcall PR f_cycle_Cycle_Touch ⟨[(.pointer t37), (.agg #[(.int .i64 Node102), (.int .u64 Serial103)])]⟩ Hx99 fun v104 Hx105 =>
 idxA lP10 lL11 i66 8 fun el106 =>
 ldI .i64 (el106.add 6) Hx105 fun Node107 =>
 ldI .u64 ((el106.add 6).add 1) Hx105 fun Serial108 =>
 hcall PR f_cycle_Cycle_Touch ⟨[(.pointer t37), (.agg #[(.int .i64 Node107), (.int .u64 Serial108)])]⟩ Hx105 fun v109 Hx110 =>
 idxA lP10 lL11 i66 8 fun el111 =>
 ldI .i64 (el111.add 1) Hx110 fun M112 =>
 hcall PR f_hand_Pick ⟨[(.int .i64 M112), (.int .i64 4)]⟩ Hx110 fun v113 Hx114 =>
 asI .i64 v113 fun t115 =>
 hcall PR f_law16_id ⟨[(.int .u64 (Int.tmod Serial68 (IntKind.u64.wrap (Last70 + 1))))]⟩ Hx114 fun v116 Hx117 =>
 agg2 v116 fun v118 v119 =>
 asI .i64 v118 fun Node120 =>
 asI .u64 v119 fun Serial121 =>
 newB (.cells #[(.int .i64 Node120), (.int .u64 Serial121)] ty_api_ID) Hx117 fun b122 Hx123 =>
 hcall PR f_cycle_Cycle_Shake ⟨[(.pointer t37), (.int .i64 t115), (.slice (some ⟨b122, 0, none⟩) 1 1)]⟩ Hx123 fun v124 Hx125 =>
 asB v124 fun t126 =>
 (bif t126 then
 K (.bool false) Hx125
else
 I63 (IntKind.i64.wrap (i66 + 1)) Hx125 ∧ m64 (IntKind.i64.wrap (i66 + 1)) Hx125 < m64 i66 Hx65)
else
 R39 Hx65)
else
 R39 Hx65)))))
theorem E_law16_CycleIdle (gRefsP1 : Option Addr) (gRefsL2 : Nat) (gRefsC3 : Nat) (gOutP4 : Option Addr) (gOutL5 : Nat) (gOutC6 : Nat) (gInP7 : Option Addr) (gInL8 : Nat) (gInC9 : Nat) (lP10 : Option Addr) (lL11 : Nat) (lC12 : Nat) (H : Hp) (K : Value → Hp → Prop) : B_law16_CycleIdle gRefsP1 gRefsL2 gRefsC3 gOutP4 gOutL5 gOutC6 gInP7 gInL8 gInC9 lP10 lL11 lC12 H K = denF Tryz.prog Tryz.f3 (.seq none .n (.seq none .n (.seq none .n (.seq none .n (.seq none .n (.seq (some ⟨[], [6, 7]⟩) (.seq none .n (.sub (.loop ⟨[(9, .int .i64)], [1, 6, 7]⟩ .n))) (.seq none (.seq none .n (.sub (.loop ⟨[(11, .int .u64)], [6, 7]⟩ .n))) .n))))))) [(.agg #[(.slice gRefsP1 gRefsL2 gRefsC3), (.slice gOutP4 gOutL5 gOutC6), (.slice gInP7 gInL8 gInC9)]), (.slice lP10 lL11 lC12)] H K := by kernel_rfl
theorem den_law16_CycleIdle {gRefsP1 : Option Addr} {gRefsL2 : Nat} {gRefsC3 : Nat} {gOutP4 : Option Addr} {gOutL5 : Nat} {gOutC6 : Nat} {gInP7 : Option Addr} {gInL8 : Nat} {gInC9 : Nat} {lP10 : Option Addr} {lL11 : Nat} {lC12 : Nat} {H : Hp} {K : Value → Hp → Prop} (h : B_law16_CycleIdle gRefsP1 gRefsL2 gRefsC3 gOutP4 gOutL5 gOutC6 gInP7 gInL8 gInC9 lP10 lL11 lC12 H K) : hcall PR f_law16_CycleIdle ⟨[(.agg #[(.slice gRefsP1 gRefsL2 gRefsC3), (.slice gOutP4 gOutL5 gOutC6), (.slice gInP7 gInL8 gInC9)]), (.slice lP10 lL11 lC12)]⟩ H K := denF_call Tryz.func3 PR_mixed (Eq.mp (E_law16_CycleIdle gRefsP1 gRefsL2 gRefsC3 gOutP4 gOutL5 gOutC6 gInP7 gInL8 gInC9 lP10 lL11 lC12 H K) h)

end Go.Proofs.YtohlnmenghbgbaaGreat

namespace Go.Proofs.YtohlnmenghbgbaaGreat
set_option linter.unusedSimpArgs false
set_option linter.unusedVariables false
open Go
/-- It waits for one that has not answered. -/
structure Waits (c : Cy) (m : Nat) : Prop where
  st : c.st = 0
  ph : c.sk.ph = 1 ∨ c.sk.ph = 2
  sc : c.sk.sc[m]? = some false
  turns : c.p.turns = 1
theorem ans_waits {q : Sk} {k : Int} {m : Nat} (hk : k ≠ m) (hp : q.ph = 1 ∨ q.ph = 2) (hs : q.sc[m]? = some false) : ((q.ans k).1.ph = 1 ∨ (q.ans k).1.ph = 2) ∧ (q.ans k).1.sc[m]? = some false := by
  unfold Sk.ans
  split
  · exact ⟨hp, hs⟩
  · rename_i h0
    split
    · split
      · exact ⟨hp, hs⟩
      · refine ⟨?_, hs⟩
        simp only
        split
        · exact .inr rfl
        · exact .inl rfl
    · split
      · split
        · exact ⟨hp, hs⟩
        · have hkm : k.toNat ≠ m := by omega
          have h1 : (q.sc.set k.toNat true)[m]? = some false := by rw [List.getElem?_set_ne hkm]; exact hs
          refine ⟨.inr ?_, h1⟩
          simp only
          rw [if_neg]
          intro hall
          have := List.all_eq_true.1 hall false (List.mem_of_getElem? h1)
          cases this
      · exact ⟨hp, hs⟩
theorem Waits.state {c : Cy} {m : Nat} (h : Waits c m) : c.state = 1 ∨ c.state = 2 := by
  have h1 := h.ph
  unfold Cy.state
  rw [if_neg (by rw [h.st]; decide)]
  by_cases e : c.sk.ph = 1
  · rw [if_pos e]; omega
  · rw [if_neg e, if_pos (by omega)]; omega
theorem Waits.step {s : Hs} {c : Cy} {m : Nat} {stir : Int} (h : Waits c m) (hw : 1 ≤ c.work) : cyStep s c stir = (([], false), s, c) := by
  unfold cyStep
  obtain ⟨n, hn⟩ : ∃ n, c.work.toNat = n + 1 := ⟨c.work.toNat - 1, by omega⟩
  rw [hn]
  exact steps_stop (unit12 h.state (by have := h.ph; omega))
theorem Waits.shake {s : Hs} {c : Cy} {m : Nat} {k : Int} (h : Waits c m) (hk : k ≠ m) : Waits (cyShake s c k []).2 m := by
  have h1 := ans_waits hk h.ph h.sc
  unfold cyShake
  split
  · exact ⟨h.st, h1.1, h1.2, h.turns⟩
  · exact ⟨h.st, h1.1, h1.2, h.turns⟩
theorem id16C {H0 H : Hp} {L : List Prt} {q : Int} {K : Value → Hp → Prop} (h : St H0 L H) (hK : ∀ H', St H0 L H' → K (.agg #[.int .i64 1, .int .u64 q]) H') : hcall PR f_law16_id ⟨[.int .u64 q]⟩ H K := by
  apply den_law16_id
  unfold B_law16_id
  intro b2 hb2
  have h1 := h.alloc (o := .cells #[.int .i64 0, .int .u64 0] ty_api_ID) hb2
  refine h1.put (i := 0) rfl (by simp) fun H2 h2 => h2.put (i := 0) rfl (by simp) fun H3 h3 => ?_
  exact ldI_of (h3.cell (i := 0) rfl rfl) (ldI_of (h3.cell (i := 0) rfl rfl) (hK H3 h3.less))

/-- It is idle. -/
structure Idle (c : Cy) : Prop where
  st : c.st = 0
  ph : c.sk.ph = 0
theorem Idle.state {c : Cy} (h : Idle c) : c.state = 0 := by unfold Cy.state; rw [if_neg (by rw [h.st]; decide), if_neg (by rw [h.ph]; decide), if_neg (by rw [h.ph]; decide)]
theorem Idle.isOpen {c : Cy} (h : Idle c) : c.isOpen = false := by unfold Cy.isOpen; rw [h.state]; rfl
theorem Idle.store {s : Hs} {c : Cy} (h : Idle c) {m : Int} {x y : Id} : cyStore s c m x y = c := by unfold cyStore; rw [if_neg (by rw [h.isOpen]; simp)]
theorem Idle.born {s : Hs} {c : Cy} (h : Idle c) {m q : Int} : cyBorn s c m q = c := by unfold cyBorn; rw [if_neg (by rw [h.isOpen]; simp)]
theorem Idle.touch {s : Hs} {c : Cy} (h : Idle c) {x : Id} : cyTouch s c x = c := by
  unfold cyTouch
  rw [if_neg]
  rintro (h1 | h1)
  · rw [h.isOpen] at h1; cases h1
  · rw [h.state] at h1; omega
theorem Idle.shake {s : Hs} {c : Cy} (h : Idle c) {m : Int} {l : List Id} : cyShake s c m l = (false, c) := by
  have e : c.sk.ans m = (c.sk, 0) := by
    unfold Sk.ans
    split
    · rfl
    · rw [if_neg (by rw [h.ph]; decide), if_neg (by rw [h.ph]; decide)]
  unfold cyShake
  rw [e, if_neg (show ¬ ((0 : Int) = 2) by decide)]
  rfl

theorem CycleIdle_ok {rp op ip : Option Addr} {rl rc ol oc il ic : Nat} {g : Gr} {lP : Option Addr} {lL lC : Nat} {l : List E_law16_Step} {H : Hp} {K : Value → Hp → Prop} (ga : GrA H rp rl op ol ip il g) (gok : g.ok)
    (hr : Rd H 8 lP lL (cel E_law16_Step.cells l)) (hl : lL ≤ 9223372036854775807) (hok : ∀ x ∈ l, x.ok) (hK : ∀ H', Keep Nothing H H' → K (.bool true) H') :
    hcall PR f_law16_CycleIdle ⟨[.agg #[.slice rp rl rc, .slice op ol oc, .slice ip il ic], .slice lP lL lC]⟩ H K := by
  apply den_law16_CycleIdle
  unfold B_law16_CycleIdle
  intro b13 hb13
  have h1 := (St.start H).alloc (o := .cells #[.slice rp rl rc, .slice op ol oc, .slice ip il ic] ty_hand_Graph) hb13
  refine ldSl_of (h1.cell (i := 0) rfl rfl) (ldSl_of (h1.cell (i := 0) rfl rfl) (ldSl_of (h1.cell (i := 0) rfl rfl) ?_))
  refine HeapsC (most := 20) (ga.st h1) gok (by omega) fun hb rb s H2 hs h2 => ?_
  have h2 := h1.join h2
  have hn : grSize g 20 ≤ 40 := by unfold grSize; split <;> omega
  generalize grSize g 20 = n at *
  simp only [asI_mk', asB_mk, asP_mk, asA_mk, asM_mk, asSl_mk, asStr_mk, tup2_mk, tup3_mk, agg1_mk, agg2_mk, agg3_mk, agg4_mk, asAggm, unCons_mk, unNil_mk, asTup_mk, extractD0, extractD1, List.toList_toArray, nilP_mk, add_mk, Nat.zero_add, Nat.add_zero, condT, condF, Bool.not_true, Bool.not_false, Option.isNone_some, Option.isNone_none]
  refine known16_ok h2 fun H3 h3 => ?_
  simp only [asI_mk', asB_mk, asP_mk, asA_mk, asM_mk, asSl_mk, asStr_mk, tup2_mk, tup3_mk, agg1_mk, agg2_mk, agg3_mk, agg4_mk, asAggm, unCons_mk, unNil_mk, asTup_mk, extractD0, extractD1, List.toList_toArray, nilP_mk, add_mk, Nat.zero_add, Nat.add_zero, condT, condF, Bool.not_true, Bool.not_false, Option.isNone_some, Option.isNone_none]
  refine cyNewC h3 (i := 0) rfl hs.node (by omega) (by omega) (by omega) (by omega) fun b H4 h4 => ?_
  simp only [asI_mk', asB_mk, asP_mk, asA_mk, asM_mk, asSl_mk, asStr_mk, tup2_mk, tup3_mk, agg1_mk, agg2_mk, agg3_mk, agg4_mk, asAggm, unCons_mk, unNil_mk, asTup_mk, extractD0, extractD1, List.toList_toArray, nilP_mk, add_mk, Nat.zero_add, Nat.add_zero, condT, condF, Bool.not_true, Bool.not_false, Option.isNone_some, Option.isNone_none]
  refine bif_neqf rfl ?_
  (try simp only [Option.isNone_some, condF])
  have hid : Idle (newCy 2 3 2 4 s.last) := ⟨rfl, rfl⟩
  have hmk : ∀ q, pMark s (newCy 2 3 2 4 s.last).p q = (0, false, false) := fun q => rfl
  have hou : outsOf (newCy 2 3 2 4 s.last).p = [] := rfl
  have hmet : (newCy 2 3 2 4 s.last).p.met.length ≤ 900000 := Nat.zero_le _
  generalize newCy 2 3 2 4 s.last = c at *
  have h4 : St H [CyP b hb c, HeapP hb s, RHeap rb s, Prt.one b13 (.cells #[.slice rp rl rc, .slice op ol oc, .slice ip il ic] ty_hand_Graph (0, 0))] H4 := h4
  clear h1 h2 h3
  have last : ∀ (H' : Hp), St H [CyP b hb c, HeapP hb s, RHeap rb s, Prt.one b13 (.cells #[.slice rp rl rc, .slice op ol oc, .slice ip il ic] ty_hand_Graph (0, 0))] H' → hcell H' ⟨rb, 2, none⟩ = some (.int .u64 s.last) := fun H' h' => by
    obtain ⟨y1, N1, g1, _, _⟩ := rheapOpenL (i := 2) h' rfl (.inl rfl)
    exact (rheapV g1).last
  have hsl := hs.last
  intro R39 hR39
  have hR39 : ∀ H', St H [CyP b hb c, HeapP hb s, RHeap rb s, Prt.one b13 (.cells #[.slice rp rl rc, .slice op ol oc, .slice ip il ic] ty_hand_Graph (0, 0))] H' → R39 H' := fun H5 h5 => by
    refine hR39 H5 ?_
    refine ⟨fun r H' => ∃ y : Nat, r = y ∧ 1 ≤ y ∧ (y : Int) ≤ s.last + 1 ∧ St H [CyP b hb c, HeapP hb s, RHeap rb s, Prt.one b13 (.cells #[.slice rp rl rc, .slice op ol oc, .slice ip il ic] ty_hand_Graph (0, 0))] H', fun r _ => (s.last + 1 - r).toNat, ⟨1, rfl, by omega, by omega, h5⟩, ?_⟩
    clear h5
    rintro r H6 ⟨y, rfl, hy1, hy, h6⟩
    (try simp only [asI_mk', asB_mk, asP_mk, asA_mk, asM_mk, asSl_mk, asStr_mk, tup2_mk, tup3_mk, agg1_mk, agg2_mk, agg3_mk, agg4_mk, asAggm, unCons_mk, unNil_mk, asTup_mk, extractD0, extractD1, List.toList_toArray, nilP_mk, add_mk, Nat.zero_add, Nat.add_zero, condT, condF, Bool.not_true, Bool.not_false, Option.isNone_some, Option.isNone_none])
    refine ldI_of (last H6 h6) ?_
    by_cases hc : (y : Int) ≤ s.last
    · refine bif_pos hc (cyMarkC h6 (i := 1) (k := 0) rfl rfl (by decide) fun H7 h7 => ?_)
      rw [hmk]
      simp only [asI_mk', asB_mk, asP_mk, asA_mk, asM_mk, asSl_mk, asStr_mk, tup2_mk, tup3_mk, agg1_mk, agg2_mk, agg3_mk, agg4_mk, asAggm, unCons_mk, unNil_mk, asTup_mk, extractD0, extractD1, List.toList_toArray, nilP_mk, add_mk, Nat.zero_add, Nat.add_zero, condT, condF, Bool.not_true, Bool.not_false, Option.isNone_some, Option.isNone_none]
      have w : IntKind.u64.wrap ((y : Int) + 1) = ((y + 1 : Nat) : Int) := by rw [wrap_u64' (by omega) (by omega)]; omega
      rw [w]
      exact ⟨⟨y + 1, rfl, by omega, by omega, h7⟩, by (try dsimp only); omega⟩
    · refine bif_neg hc (cyOutsC h6 (k := 0) rfl hmet fun q nn H7 h7 => ?_)
      rw [hou]
      simp only [asI_mk', asB_mk, asP_mk, asA_mk, asM_mk, asSl_mk, asStr_mk, tup2_mk, tup3_mk, agg1_mk, agg2_mk, agg3_mk, agg4_mk, asAggm, unCons_mk, unNil_mk, asTup_mk, extractD0, extractD1, List.toList_toArray, nilP_mk, add_mk, Nat.zero_add, Nat.add_zero, condT, condF, Bool.not_true, Bool.not_false, Option.isNone_some, Option.isNone_none]
      refine bif_eq rfl (cyStateC h7 (k := 1) rfl ?_)
      simp only [asI_mk', asB_mk, asP_mk, asA_mk, asM_mk, asSl_mk, asStr_mk, tup2_mk, tup3_mk, agg1_mk, agg2_mk, agg3_mk, agg4_mk, asAggm, unCons_mk, unNil_mk, asTup_mk, extractD0, extractD1, List.toList_toArray, nilP_mk, add_mk, Nat.zero_add, Nat.add_zero, condT, condF, Bool.not_true, Bool.not_false, Option.isNone_some, Option.isNone_none]
      rw [hid.state]
      exact hK H7 h7.keep
  refine ⟨fun r H' => ∃ y : Nat, r = y ∧ y ≤ lL ∧ y ≤ 60 ∧ St H [CyP b hb c, HeapP hb s, RHeap rb s, Prt.one b13 (.cells #[.slice rp rl rc, .slice op ol oc, .slice ip il ic] ty_hand_Graph (0, 0))] H', fun r _ => (60 - r).toNat, ⟨0, rfl, by omega, by omega, h4⟩, ?_⟩
  clear h4
  rintro r H5 ⟨y, rfl, hy, hy2, h5⟩
  by_cases hc : (y : Int) < (lL : Int)
  rotate_left
  · exact bif_neg hc (hR39 H5 h5)
  refine bif_pos hc ?_
  by_cases hc2 : (y : Int) < 60
  rotate_left
  · exact bif_neg hc2 (hR39 H5 h5)
  refine bif_pos hc2 ?_
  have rr := h5.rd hr
  refine idxS E_law16_Step.len ⟨0, 0, 0, 0, 0, 0, 0, 0⟩ rr (by omega) (by omega) hc fun b1 o1 hp hjl hcs => ?_
  have hat : ∀ (L' : List Prt) H' (q : Nat), St H L' H' → q < 8 → hcell H' ⟨b1, o1 + (y : Int).toNat * 8 + q, none⟩ = (E_law16_Step.cells (l.getD (y : Int).toNat ⟨0, 0, 0, 0, 0, 0, 0, 0⟩))[q]? := fun L' H' q h' hq =>
    (h'.rd hr).cel_at' E_law16_Step.len ⟨0, 0, 0, 0, 0, 0, 0, 0⟩ hp hjl hq
  have hidx : ∀ Q : Addr → Prop, Q ⟨b1, o1 + (y : Int).toNat * 8, none⟩ → idxA lP lL (y : Int) 8 Q := fun Q hQ => idxA_of rr (by omega) hc fun b' o' hp' _ => by
    obtain ⟨rfl, rfl⟩ : b1 = b' ∧ o1 = o' := by rw [hp] at hp'; simpa using hp'
    exact hQ
  generalize l.getD (y : Int).toNat ⟨0, 0, 0, 0, 0, 0, 0, 0⟩ = x at hcs hat
  have pk : ∀ {K : Value → Hp → Prop} {H' : Hp} (m : Int), K (.int .i64 (pick x.M m)) H' → 0 < m → m < 100 → hcall PR f_hand_Pick ⟨[.int .i64 x.M, .int .i64 m]⟩ H' K := fun m hk h0 h1 => Pick_ok h0 (by omega) hk
  simp only [asI_mk', asB_mk, asP_mk, asA_mk, asM_mk, asSl_mk, asStr_mk, tup2_mk, tup3_mk, agg1_mk, agg2_mk, agg3_mk, agg4_mk, asAggm, unCons_mk, unNil_mk, asTup_mk, extractD0, extractD1, List.toList_toArray, nilP_mk, add_mk, Nat.zero_add, Nat.add_zero, condT, condF, Bool.not_true, Bool.not_false, Option.isNone_some, Option.isNone_none]
  refine ldI_of (hat _ H5 3 h5 (by omega)) ?_
  refine ldI_of (last H5 h5) ?_
  have w3 : IntKind.u64.wrap (s.last + 1) = s.last + 1 := wrap_u64' (by omega) (by omega)
  rw [w3]
  refine ⟨by omega, hidx _ ?_⟩
  generalize Int.tmod x.Serial (s.last + 1) = q
  simp only [asI_mk', asB_mk, asP_mk, asA_mk, asM_mk, asSl_mk, asStr_mk, tup2_mk, tup3_mk, agg1_mk, agg2_mk, agg3_mk, agg4_mk, asAggm, unCons_mk, unNil_mk, asTup_mk, extractD0, extractD1, List.toList_toArray, nilP_mk, add_mk, Nat.zero_add, Nat.add_zero, condT, condF, Bool.not_true, Bool.not_false, Option.isNone_some, Option.isNone_none]
  refine ldI_of (hat _ H5 1 h5 (by omega)) (hidx _ ?_)
  simp only [asI_mk', asB_mk, asP_mk, asA_mk, asM_mk, asSl_mk, asStr_mk, tup2_mk, tup3_mk, agg1_mk, agg2_mk, agg3_mk, agg4_mk, asAggm, unCons_mk, unNil_mk, asTup_mk, extractD0, extractD1, List.toList_toArray, nilP_mk, add_mk, Nat.zero_add, Nat.add_zero, condT, condF, Bool.not_true, Bool.not_false, Option.isNone_some, Option.isNone_none]
  have a4 : ∀ (L' : List Prt) H', St H L' H' → hcell H' ⟨b1, o1 + (y : Int).toNat * 8 + 4, none⟩ = some (.int .i64 x.X_Node) := fun L' H' h' => hat _ H' 4 h' (by omega)
  have a5 : ∀ (L' : List Prt) H', St H L' H' → hcell H' ⟨b1, o1 + (y : Int).toNat * 8 + 4 + 1, none⟩ = some (.int .u64 x.X_Serial) := fun L' H' h' => by rw [Nat.add_assoc]; exact hat _ H' 5 h' (by omega)
  refine ldI_of (a4 _ H5 h5) (ldI_of (a5 _ H5 h5) (pk 4 ?_ (by omega) (by omega)))
  simp only [asI_mk', asB_mk, asP_mk, asA_mk, asM_mk, asSl_mk, asStr_mk, tup2_mk, tup3_mk, agg1_mk, agg2_mk, agg3_mk, agg4_mk, asAggm, unCons_mk, unNil_mk, asTup_mk, extractD0, extractD1, List.toList_toArray, nilP_mk, add_mk, Nat.zero_add, Nat.add_zero, condT, condF, Bool.not_true, Bool.not_false, Option.isNone_some, Option.isNone_none]
  refine ⟨ldI_of (a4 _ H5 h5) (ldI_of (a5 _ H5 h5) rfl), id16C h5 fun H6 h6 => ?_⟩
  simp only [asI_mk', asB_mk, asP_mk, asA_mk, asM_mk, asSl_mk, asStr_mk, tup2_mk, tup3_mk, agg1_mk, agg2_mk, agg3_mk, agg4_mk, asAggm, unCons_mk, unNil_mk, asTup_mk, extractD0, extractD1, List.toList_toArray, nilP_mk, add_mk, Nat.zero_add, Nat.add_zero, condT, condF, Bool.not_true, Bool.not_false, Option.isNone_some, Option.isNone_none]
  refine ⟨ldI_of (a4 _ H6 h6) (ldI_of (a5 _ H6 h6) rfl), ?_⟩
  refine cyStoreC (old := ⟨1, q⟩) (now := ⟨x.X_Node, x.X_Serial⟩) h6 (i := 1) (k := 0) rfl rfl (by decide) fun H7 h7 => hidx _ ?_
  rw [hid.store] at h7
  simp only [asI_mk', asB_mk, asP_mk, asA_mk, asM_mk, asSl_mk, asStr_mk, tup2_mk, tup3_mk, agg1_mk, agg2_mk, agg3_mk, agg4_mk, asAggm, unCons_mk, unNil_mk, asTup_mk, extractD0, extractD1, List.toList_toArray, nilP_mk, add_mk, Nat.zero_add, Nat.add_zero, condT, condF, Bool.not_true, Bool.not_false, Option.isNone_some, Option.isNone_none]
  refine ldI_of (hat _ H7 1 h7 (by omega)) (pk 4 ?_ (by omega) (by omega))
  simp only [asI_mk', asB_mk, asP_mk, asA_mk, asM_mk, asSl_mk, asStr_mk, tup2_mk, tup3_mk, agg1_mk, agg2_mk, agg3_mk, agg4_mk, asAggm, unCons_mk, unNil_mk, asTup_mk, extractD0, extractD1, List.toList_toArray, nilP_mk, add_mk, Nat.zero_add, Nat.add_zero, condT, condF, Bool.not_true, Bool.not_false, Option.isNone_some, Option.isNone_none]
  refine cyBornC h7 (i := 1) (k := 0) rfl rfl (by decide) hs.node fun H8 h8 => ?_
  rw [hid.born] at h8
  refine id16C h8 fun H9 h9 => ?_
  simp only [asI_mk', asB_mk, asP_mk, asA_mk, asM_mk, asSl_mk, asStr_mk, tup2_mk, tup3_mk, agg1_mk, agg2_mk, agg3_mk, agg4_mk, asAggm, unCons_mk, unNil_mk, asTup_mk, extractD0, extractD1, List.toList_toArray, nilP_mk, add_mk, Nat.zero_add, Nat.add_zero, condT, condF, Bool.not_true, Bool.not_false, Option.isNone_some, Option.isNone_none]
  refine cyTouchC (y := ⟨1, q⟩) h9 (i := 1) (k := 0) rfl rfl (by decide) hs.node fun H10 h10 => hidx _ ?_
  rw [hid.touch] at h10
  simp only [asI_mk', asB_mk, asP_mk, asA_mk, asM_mk, asSl_mk, asStr_mk, tup2_mk, tup3_mk, agg1_mk, agg2_mk, agg3_mk, agg4_mk, asAggm, unCons_mk, unNil_mk, asTup_mk, extractD0, extractD1, List.toList_toArray, nilP_mk, add_mk, Nat.zero_add, Nat.add_zero, condT, condF, Bool.not_true, Bool.not_false, Option.isNone_some, Option.isNone_none]
  refine ldI_of (hat _ H10 6 h10 (by omega)) (ldI_of (by rw [Nat.add_assoc]; exact hat _ H10 7 h10 (by omega)) ?_)
  refine cyTouchC (y := ⟨x.Y_Node, x.Y_Serial⟩) h10 (i := 1) (k := 0) rfl rfl (by decide) hs.node fun H11 h11 => hidx _ ?_
  rw [hid.touch] at h11
  simp only [asI_mk', asB_mk, asP_mk, asA_mk, asM_mk, asSl_mk, asStr_mk, tup2_mk, tup3_mk, agg1_mk, agg2_mk, agg3_mk, agg4_mk, asAggm, unCons_mk, unNil_mk, asTup_mk, extractD0, extractD1, List.toList_toArray, nilP_mk, add_mk, Nat.zero_add, Nat.add_zero, condT, condF, Bool.not_true, Bool.not_false, Option.isNone_some, Option.isNone_none]
  refine ldI_of (hat _ H11 1 h11 (by omega)) (pk 4 ?_ (by omega) (by omega))
  simp only [asI_mk', asB_mk, asP_mk, asA_mk, asM_mk, asSl_mk, asStr_mk, tup2_mk, tup3_mk, agg1_mk, agg2_mk, agg3_mk, agg4_mk, asAggm, unCons_mk, unNil_mk, asTup_mk, extractD0, extractD1, List.toList_toArray, nilP_mk, add_mk, Nat.zero_add, Nat.add_zero, condT, condF, Bool.not_true, Bool.not_false, Option.isNone_some, Option.isNone_none]
  refine id16C h11 fun H12 h12 => ?_
  simp only [asI_mk', asB_mk, asP_mk, asA_mk, asM_mk, asSl_mk, asStr_mk, tup2_mk, tup3_mk, agg1_mk, agg2_mk, agg3_mk, agg4_mk, asAggm, unCons_mk, unNil_mk, asTup_mk, extractD0, extractD1, List.toList_toArray, nilP_mk, add_mk, Nat.zero_add, Nat.add_zero, condT, condF, Bool.not_true, Bool.not_false, Option.isNone_some, Option.isNone_none]
  intro b122 hb122
  have h13 := h12.alloc (o := .cells #[.int .i64 1, .int .u64 q] ty_api_ID) hb122
  refine cyShakeC (held := [⟨1, q⟩]) h13 (i := 2) (k := 1) rfl rfl (by decide) (fun N H' h' => ?_) (by simp) fun H14 h14 => ?_
  · exact (St.lesses (M := N) h').one_rd (i := 0) (n := 1) rfl rfl
  rw [hid.shake] at h14 ⊢
  simp only [asI_mk', asB_mk, asP_mk, asA_mk, asM_mk, asSl_mk, asStr_mk, tup2_mk, tup3_mk, agg1_mk, agg2_mk, agg3_mk, agg4_mk, asAggm, unCons_mk, unNil_mk, asTup_mk, extractD0, extractD1, List.toList_toArray, nilP_mk, add_mk, Nat.zero_add, Nat.add_zero, condT, condF, Bool.not_true, Bool.not_false, Option.isNone_some, Option.isNone_none]
  have h15 : St H [CyP b hb c, HeapP hb s, RHeap rb s, Prt.one b13 (.cells #[.slice rp rl rc, .slice op ol oc, .slice ip il ic] ty_hand_Graph (0, 0))] H14 := St.less h14
  rw [wrap_i64 (by omega) (by omega)]
  exact ⟨⟨y + 1, by omega, by omega, by omega, h15⟩, by (try dsimp only); omega⟩

end Go.Proofs.YtohlnmenghbgbaaGreat
