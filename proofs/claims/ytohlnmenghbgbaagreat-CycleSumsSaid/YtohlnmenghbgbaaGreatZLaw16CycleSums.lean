/- Merged by merge.py: DenLaw16, DenLaw16CycleKnown, Law16, DenLaw16CycleUnits, Law16u, DenLaw16CycleWaits, DenLaw16CycleIdle, Law16w, DenLaw16CycleJust, Law16j, DenLaw16CycleSums, Law16s. No condition. -/
import Derived.Test.YtohlnmenghbgbaaGreatZNum
import Derived.Test.YtohlnmenghbgbaaGreatZCycle
import Derived.Test.YtohlnmenghbgbaaGreatZMark
import Derived.Test.YtohlnmenghbgbaaGreatZReach

namespace Go.Proofs.YtohlnmenghbgbaaGreat
open Go
set_option linter.unusedVariables false
set_option maxRecDepth 100000
def B_law16_known  (H : Hp) (K : Value → Hp → Prop) : Prop :=
 hcall PR f_heap_New ⟨[(.int .i64 1), (.int .i64 64), (.int .i64 4), (.int .u64 0)]⟩ H fun v1 Hx2 =>
 tup2 v1 fun v3 v4 =>
 asP v3 fun t5 =>
 asI .i64 v4 fun t6 =>
 (bif ((t6 : Int) != 0) then
 K (.bool false) Hx2
else
 (bif (Option.isNone (α := Addr) t5) then
 K (.bool false) Hx2
else
 hcall PR f_heap_Heap_Make ⟨[(.pointer t5), (.int .i64 1), (.int .i64 0)]⟩ Hx2 fun v7 Hx8 =>
 tup2 v7 fun v9 v10 =>
 asI .u64 v9 fun t11 =>
 asI .i64 v10 fun t12 =>
 hcall PR f_cycle_New ⟨[(.pointer t5), (.int .i64 1), (.int .i64 4), (.int .i64 3), (.int .i64 8)]⟩ Hx8 fun v13 Hx14 =>
 tup2 v13 fun v15 v16 =>
 asP v15 fun t17 =>
 asI .i64 v16 fun t18 =>
 (bif ((t18 : Int) != 0) then
 K (.bool false) Hx14
else
 (bif (Option.isNone (α := Addr) t17) then
 K (.bool false) Hx14
else
 hcall PR f_cycle_Cycle_Step ⟨[(.pointer t17), (.int .u64 0)]⟩ Hx14 fun v19 Hx20 =>
 tup2 v19 fun v21 v22 =>
 asSl v21 fun tP23 tL24 tC25 =>
 asB v22 fun t26 =>
 hcall PR f_cycle_Cycle_State ⟨[(.pointer t17)]⟩ Hx20 fun v27 Hx28 =>
 asI .i64 v27 fun t29 =>
 ∀ R30 : Bool → Hp → Prop, (∀ b32 : Bool, ∀ Hx31 : Hp, (
 hcall PR f_cycle_Cycle_State ⟨[(.pointer t17)]⟩ Hx31 fun v33 Hx34 =>
 asI .i64 v33 fun t35 =>
 hcall PR f_cycle_Cycle_Step ⟨[(.pointer t17), (.int .u64 0)]⟩ Hx34 fun v36 Hx37 =>
 tup2 v36 fun v38 v39 =>
 asSl v38 fun tP40 tL41 tC42 =>
 asB v39 fun t43 =>
 (bif (((tL24 : Int) : Int) == 0) then
 (bif (!t26) then
 (bif ((t29 : Int) == 1) then
 (bif b32 then
 (bif ((t35 : Int) == 2) then
 (bif (((tL41 : Int) : Int) == 1) then
 idxA tP40 tL41 0 1 fun el44 =>
 ldI .u64 el44 Hx37 fun t45 =>
 (bif ((t45 : Int) == 1) then
 (bif t43 then
 hcall PR f_cycle_Cycle_State ⟨[(.pointer t17)]⟩ Hx37 fun v46 Hx47 =>
 asI .i64 v46 fun t48 =>
 (bif ((t48 : Int) == 0) then
 hcall PR f_heap_Heap_Len ⟨[(.pointer t5)]⟩ Hx47 fun v49 Hx50 =>
 asI .i64 v49 fun t51 =>
 K (.bool ((t51 : Int) == 0)) Hx50
else
 K (.bool false) Hx47)
else
 K (.bool false) Hx37)
else
 K (.bool false) Hx37)
else
 K (.bool false) Hx37)
else
 K (.bool false) Hx37)
else
 K (.bool false) Hx37)
else
 K (.bool false) Hx37)
else
 K (.bool false) Hx37)
else
 K (.bool false) Hx37)) → R30 b32 Hx31) →
 hcall PR f_cycle_Cycle_Shake ⟨[(.pointer t17), (.int .i64 0), (.slice none 0 0)]⟩ Hx28 fun v52 Hx53 =>
 asB v52 fun t54 =>
 (bif t54 then
 hcall PR f_cycle_Cycle_Shake ⟨[(.pointer t17), (.int .i64 0), (.slice none 0 0)]⟩ Hx53 fun v55 Hx56 =>
 asB v55 fun t57 =>
 (bif t57 then
 hcall PR f_cycle_Cycle_Shake ⟨[(.pointer t17), (.int .i64 1), (.slice none 0 0)]⟩ Hx56 fun v58 Hx59 =>
 asB v58 fun t60 =>
 (bif t60 then
 hcall PR f_cycle_Cycle_Shake ⟨[(.pointer t17), (.int .i64 1), (.slice none 0 0)]⟩ Hx59 fun v61 Hx62 =>
 asB v61 fun t63 =>
 R30 (!t63) Hx62
else
 R30 false Hx59)
else
 R30 false Hx56)
else
 R30 false Hx53)))))
theorem E_law16_known  (H : Hp) (K : Value → Hp → Prop) : B_law16_known  H K = denF Tryz.prog Tryz.f15 (.seq none .n (.seq none .n (.seq none .n (.seq none .n (.seq none .n (.seq none .n (.seq none .n (.seq none .n (.seq (some ⟨[(8, .bool)], [1, 3, 5, 6, 7]⟩) .n .n))))))))) [] H K := by kernel_rfl
theorem den_law16_known  {H : Hp} {K : Value → Hp → Prop} (h : B_law16_known  H K) : hcall PR f_law16_known ⟨[]⟩ H K := denF_call Tryz.func15 PR_mixed (Eq.mp (E_law16_known  H K) h)

end Go.Proofs.YtohlnmenghbgbaaGreat

namespace Go.Proofs.YtohlnmenghbgbaaGreat
open Go
set_option linter.unusedVariables false
set_option maxRecDepth 100000
end Go.Proofs.YtohlnmenghbgbaaGreat

namespace Go.Proofs.YtohlnmenghbgbaaGreat
set_option linter.unusedSimpArgs false
set_option linter.unusedVariables false
open Go
section
variable {H0 H : Hp} {L M : List Prt} {i j k b hb : Nat} {s : Hs} {c : Cy} {K : Value → Hp → Prop}
/-! ## The example -/
def k16a : Cy := ⟨⟨1, [false, true], [false, false]⟩, ⟨[], [], [], 4, false, 1⟩, ⟨0, false, 0⟩, rcNew 0, 0, 1, 0, 3, 8, 0, 0, ⟨0, [], [], false⟩⟩
def k16b : Cy := ⟨⟨2, [true, true], [false, false]⟩, ⟨[], [], [], 4, false, 1⟩, ⟨0, false, 0⟩, rcNew 0, 0, 1, 0, 3, 8, 0, 0, ⟨0, [], [], false⟩⟩
def k16c : Cy := ⟨⟨2, [true, true], [true, false]⟩, ⟨[], [], [], 4, false, 1⟩, ⟨0, false, 0⟩, rcNew 0, 0, 1, 0, 3, 8, 0, 0, ⟨0, [], [], false⟩⟩
def k16d : Cy := ⟨⟨3, [true, true], [true, true]⟩, ⟨[], [], [], 4, false, 1⟩, ⟨0, false, 0⟩, rcNew 0, 0, 1, 0, 3, 8, 0, 0, ⟨0, [], [], false⟩⟩
def k16e (pl : Int) : Cy := ⟨⟨3, [true, true], [true, true]⟩, ⟨[], [], [], 4, false, 1⟩, ⟨1, false, 0⟩, ⟨3, 1, none, []⟩, pl, 1, 5, 3, 8, 0, 1, ⟨0, [], [], true⟩⟩
def k16f : Cy := ⟨⟨0, [false, false], [false, false]⟩, ⟨[], [], [], 4, false, 1⟩, ⟨1, false, 0⟩, ⟨3, 1, none, []⟩, 1, 1, 0, 3, 8, 0, 1, ⟨0, [], [], true⟩⟩
theorem known16_begin : cyStep s (newCy 1 4 3 8 1) 0 = (([], false), s, k16a) := steps_stop (n := 7) (unit0 rfl)
theorem known16_shake : cyShake s k16a 0 [] = (true, k16b) ∧ cyShake s k16b 0 [] = (true, k16c) ∧ cyShake s k16c 1 [] = (true, k16d) ∧ cyShake s k16d 1 [] = (false, k16d) := ⟨rfl, rfl, rfl, rfl⟩
theorem known16_run {y : Id} {c1 : Int} (ho : s.ok) (hobs : s.obs = [⟨1, c1, [y], [], 0⟩]) (hn : s.node = 1) (hl : s.last = 1) : cyStep s k16d 0 = (([1], true), (hFree s 1).2, k16f) := by
  have g1 : hGet s 1 = some ⟨1, c1, [y], [], 0⟩ := by unfold hGet; rw [hobs]; rfl
  have n0 : hNext s 0 = (1, true) := by unfold hNext; rw [hobs]; rfl
  have n1 : hNext s 1 = (0, false) := by unfold hNext; rw [hobs]; rfl
  have ho2 := ho.free 1
  have n2 : hNext (hFree s 1).2 1 = (0, false) := hNext_none ho2 fun k hk => by
    rw [hFree_get, if_neg (by omega)]
    cases hg : hGet s k with
    | none => rfl
    | some o =>
      have := hNext_false (s := s) (q := 1) (by rw [n1]) (k := k) (by rw [hg]; simp)
      omega
  have own : ∀ k, rcOwn s ⟨[], [], [], 4, false, 1⟩ 3 k = false := fun k => by
    cases ho : rcOwn s ⟨[], [], [], 4, false, 1⟩ 3 k
    · rfl
    · obtain ⟨_, r, g, h, _⟩ := rcOwn_has ho
      cases h
  obtain ⟨pa, hpa⟩ : ∃ pa : Ps, pa = ⟨[], [], [], 4, false, 1⟩ := ⟨_, rfl⟩
  have m0 : mkStep s pa ⟨0, false, 0⟩ = (true, pa, ⟨1, false, 0⟩) := by
    unfold mkStep mkSee
    rw [hpa]
    simp only [List.getLast?_nil, n0, g1]
    rfl
  have m1 : mkStep s pa ⟨1, false, 0⟩ = (false, pa, ⟨1, false, 0⟩) := by
    unfold mkStep
    rw [hpa]
    simp only [List.getLast?_nil, n1]
    rfl
  have r0 : rcStep s pa (rcNew 3) = (true, ⟨3, 1, none, []⟩) := by
    rw [hpa]
    unfold rcStep rcNew rcNext
    simp only [n0, g1, own]
    rfl
  have r1 : rcStep s pa ⟨3, 1, none, []⟩ = (false, ⟨3, 1, none, []⟩) := by
    rw [hpa]
    unfold rcStep rcNext
    simp only [n1]
    rfl
  obtain ⟨ca, hca⟩ : ∃ ca : Cy, ca = { k16d with st := 3, m := ⟨1, false, 0⟩ } := ⟨_, rfl⟩
  obtain ⟨cb, hcb⟩ : ∃ cb : Cy, cb = { k16d with st := 4, m := ⟨1, false, 0⟩, r := rcNew 3 } := ⟨_, rfl⟩
  obtain ⟨cc, hcc⟩ : ∃ cc : Cy, cc = { k16d with st := 4, m := ⟨1, false, 0⟩, r := ⟨3, 1, none, []⟩ } := ⟨_, rfl⟩
  have u1 : cyUnit s k16d 0 = ⟨none, 0, s, ca⟩ := by
    rw [unit23 (.inr rfl) rfl, hca]
    unfold cyMarks
    rw [show mkStep s ({ k16d with st := 3, m := ⟨0, false, 0⟩ } : Cy).p ({ k16d with st := 3, m := ⟨0, false, 0⟩ } : Cy).m = (true, pa, ⟨1, false, 0⟩) from by rw [← m0, hpa]; rfl]
    rw [if_pos rfl, hpa]
    rfl
  have u2 : cyUnit s ca 0 = ⟨none, 0, s, cb⟩ := by
    rw [unit3 (by rw [hca]; rfl)]
    unfold cyMarks
    rw [show mkStep s ca.p ca.m = (false, pa, ⟨1, false, 0⟩) from by rw [← m1, hpa, hca]; rfl]
    rw [if_neg (fun h => by cases h), hca, hcb, hpa]
    rfl
  have u3 : cyUnit s cb 0 = ⟨none, 0, s, cc⟩ := by
    rw [unit4 (by rw [hcb]; rfl)]
    unfold cyReaches
    rw [show mkStep s cb.p cb.m = (false, pa, ⟨1, false, 0⟩) from by rw [← m1, hpa, hcb]; rfl]
    rw [if_neg (fun h => by cases h)]
    simp only
    rw [show rcStep s pa cb.r = (true, ⟨3, 1, none, []⟩) from by rw [← r0, hcb]]
    rw [if_pos rfl, hcb, hcc, hpa]
    rfl
  have u4 : cyUnit s cc 0 = ⟨none, 0, s, k16e 0⟩ := by
    rw [unit4 (by rw [hcc]; rfl)]
    unfold cyReaches
    rw [show mkStep s cc.p cc.m = (false, pa, ⟨1, false, 0⟩) from by rw [← m1, hpa, hcc]; rfl]
    rw [if_neg (fun h => by cases h)]
    simp only
    rw [show rcStep s pa cc.r = (false, ⟨3, 1, none, []⟩) from by rw [← r1, hcc]]
    rw [if_neg (by decide), hcc, hpa, hl]
    rfl
  have s5 : swStep s pa 0 1 = ((1, true), (hFree s 1).2, pa, 1) := by
    unfold swStep
    rw [n0, if_neg (by decide), if_neg (by rw [hpa]; show ¬ (false = true); decide), hpa]
    rfl
  have s6 : swStep (hFree s 1).2 pa 1 1 = ((0, false), (hFree s 1).2, pa, 1) := by
    unfold swStep
    rw [n2, if_pos (.inl rfl)]
  have u5 : cyUnit s (k16e 0) 0 = ⟨none, 1, (hFree s 1).2, k16e 1⟩ := by
    have e : swStep s (k16e 0).p (k16e 0).pl (k16e 0).e = ((1, true), (hFree s 1).2, pa, 1) := by rw [← s5, hpa]; rfl
    rw [unit6 rfl (by rw [e]), e, hpa]
    rfl
  have u6 : cyUnit (hFree s 1).2 (k16e 1) 0 = ⟨some true, 0, (hFree s 1).2, k16f⟩ := by
    have e : swStep (hFree s 1).2 (k16e 1).p (k16e 1).pl (k16e 1).e = ((0, false), (hFree s 1).2, pa, 1) := by rw [← s6, hpa]; rfl
    rw [unit5 rfl (by rw [e]), e, hpa]
    rfl
  show cySteps 0 8 s k16d [] = _
  rw [steps_go u1, steps_go u2, steps_go u3, steps_go u4, steps_go u5, steps_stop u6]
  rfl

theorem known16_ok (h : St H0 L H) (hK : ∀ H', St H0 L H' → K (.bool true) H') : hcall PR f_law16_known ⟨[]⟩ H K := by
  apply den_law16_known
  unfold B_law16_known
  refine hNewOk (m := 4) (by decide) (by decide) (by decide) (by decide) (by decide) h fun hb H1 h1 => ?_
  simp only [asI_mk', asB_mk, asP_mk, asA_mk, asM_mk, asSl_mk, asStr_mk, tup2_mk, tup3_mk, agg1_mk, agg2_mk, agg3_mk, agg4_mk, asAggm, unCons_mk, unNil_mk, asTup_mk, extractD0, extractD1, List.toList_toArray, nilP_mk, add_mk, Nat.zero_add, Nat.add_zero, condT, condF, Bool.not_true, Bool.not_false, Option.isNone_some, Option.isNone_none]
  refine bif_neqf rfl ?_
  obtain ⟨s1, c1, a0, a1, a2, a3, a4, a5, a6⟩ := hMake_good' (s := newHs 1 4 0 4) (r := 1) (v := 0) (heap_ok h1 (i := 0) rfl) (by omega) (by omega) (by decide) (by decide) (by show 0 < frees (List.replicate 4 noBlk); rw [frees_new]; omega)
  refine hMakeC h1 (i := 0) rfl (by decide) (by decide) fun H2 h2 => ?_
  rw [a0] at h2 ⊢
  have h2 : St H0 (HeapP hb s1 :: L) H2 := h2
  simp only [asI_mk', asB_mk, asP_mk, asA_mk, asM_mk, asSl_mk, asStr_mk, tup2_mk, tup3_mk, agg1_mk, agg2_mk, agg3_mk, agg4_mk, asAggm, unCons_mk, unNil_mk, asTup_mk, extractD0, extractD1, List.toList_toArray, nilP_mk, add_mk, Nat.zero_add, Nat.add_zero, condT, condF, Bool.not_true, Bool.not_false, Option.isNone_some, Option.isNone_none]
  have a3 : s1.node = 1 := a3
  have a4 : s1.obs = [⟨1, c1, [noId], [], 0⟩] := a4
  have al : s1.last = 1 := by first | exact a1 | exact a2 | exact a5 | exact a6
  refine cyNewC h2 (i := 0) rfl a3 (by omega) (by omega) (by omega) (by omega) fun b H3 h3 => ?_
  rw [al] at h3
  simp only [asI_mk', asB_mk, asP_mk, asA_mk, asM_mk, asSl_mk, asStr_mk, tup2_mk, tup3_mk, agg1_mk, agg2_mk, agg3_mk, agg4_mk, asAggm, unCons_mk, unNil_mk, asTup_mk, extractD0, extractD1, List.toList_toArray, nilP_mk, add_mk, Nat.zero_add, Nat.add_zero, condT, condF, Bool.not_true, Bool.not_false, Option.isNone_some, Option.isNone_none]
  refine bif_neqf rfl ?_
  (try simp only [Option.isNone_some, condF])
  have ho := heap_ok h3 (i := 1) rfl
  refine cyStepC h3 (i := 1) (k := 0) rfl rfl (by decide) (n := 0) newCy_lt (by omega) fun fp fc H4 h4 => ?_
  rw [known16_begin] at h4 ⊢
  have h4 : St H0 (CyP b hb k16a :: HeapP hb s1 :: L) H4 := h4.less
  simp only [asI_mk', asB_mk, asP_mk, asA_mk, asM_mk, asSl_mk, asStr_mk, tup2_mk, tup3_mk, agg1_mk, agg2_mk, agg3_mk, agg4_mk, asAggm, unCons_mk, unNil_mk, asTup_mk, extractD0, extractD1, List.toList_toArray, nilP_mk, add_mk, Nat.zero_add, Nat.add_zero, condT, condF, Bool.not_true, Bool.not_false, Option.isNone_some, Option.isNone_none]
  refine cyStateC h4 (k := 0) rfl ?_
  simp only [asI_mk', asB_mk, asP_mk, asA_mk, asM_mk, asSl_mk, asStr_mk, tup2_mk, tup3_mk, agg1_mk, agg2_mk, agg3_mk, agg4_mk, asAggm, unCons_mk, unNil_mk, asTup_mk, extractD0, extractD1, List.toList_toArray, nilP_mk, add_mk, Nat.zero_add, Nat.add_zero, condT, condF, Bool.not_true, Bool.not_false, Option.isNone_some, Option.isNone_none]
  intro R30 hR30
  obtain ⟨q1, q2, q3, q4⟩ := known16_shake (s := s1)
  refine cyShakeC (held := []) h4 (i := 1) (k := 0) rfl rfl (by decide) (fun _ _ _ => rd_nil) (by simp) fun H5 h5 => ?_
  rw [q1] at h5 ⊢
  have h5 : St H0 (CyP b hb k16b :: HeapP hb s1 :: L) H5 := h5
  simp only [asI_mk', asB_mk, asP_mk, asA_mk, asM_mk, asSl_mk, asStr_mk, tup2_mk, tup3_mk, agg1_mk, agg2_mk, agg3_mk, agg4_mk, asAggm, unCons_mk, unNil_mk, asTup_mk, extractD0, extractD1, List.toList_toArray, nilP_mk, add_mk, Nat.zero_add, Nat.add_zero, condT, condF, Bool.not_true, Bool.not_false, Option.isNone_some, Option.isNone_none]
  refine cyShakeC (held := []) h5 (i := 1) (k := 0) rfl rfl (by decide) (fun _ _ _ => rd_nil) (by simp) fun H6 h6 => ?_
  rw [q2] at h6 ⊢
  have h6 : St H0 (CyP b hb k16c :: HeapP hb s1 :: L) H6 := h6
  simp only [asI_mk', asB_mk, asP_mk, asA_mk, asM_mk, asSl_mk, asStr_mk, tup2_mk, tup3_mk, agg1_mk, agg2_mk, agg3_mk, agg4_mk, asAggm, unCons_mk, unNil_mk, asTup_mk, extractD0, extractD1, List.toList_toArray, nilP_mk, add_mk, Nat.zero_add, Nat.add_zero, condT, condF, Bool.not_true, Bool.not_false, Option.isNone_some, Option.isNone_none]
  refine cyShakeC (held := []) h6 (i := 1) (k := 0) rfl rfl (by decide) (fun _ _ _ => rd_nil) (by simp) fun H7 h7 => ?_
  rw [q3] at h7 ⊢
  have h7 : St H0 (CyP b hb k16d :: HeapP hb s1 :: L) H7 := h7
  simp only [asI_mk', asB_mk, asP_mk, asA_mk, asM_mk, asSl_mk, asStr_mk, tup2_mk, tup3_mk, agg1_mk, agg2_mk, agg3_mk, agg4_mk, asAggm, unCons_mk, unNil_mk, asTup_mk, extractD0, extractD1, List.toList_toArray, nilP_mk, add_mk, Nat.zero_add, Nat.add_zero, condT, condF, Bool.not_true, Bool.not_false, Option.isNone_some, Option.isNone_none]
  refine cyShakeC (held := []) h7 (i := 1) (k := 0) rfl rfl (by decide) (fun _ _ _ => rd_nil) (by simp) fun H8 h8 => ?_
  rw [q4] at h8 ⊢
  have h8 : St H0 (CyP b hb k16d :: HeapP hb s1 :: L) H8 := h8
  simp only [asI_mk', asB_mk, asP_mk, asA_mk, asM_mk, asSl_mk, asStr_mk, tup2_mk, tup3_mk, agg1_mk, agg2_mk, agg3_mk, agg4_mk, asAggm, unCons_mk, unNil_mk, asTup_mk, extractD0, extractD1, List.toList_toArray, nilP_mk, add_mk, Nat.zero_add, Nat.add_zero, condT, condF, Bool.not_true, Bool.not_false, Option.isNone_some, Option.isNone_none]
  refine hR30 true H8 ?_
  refine cyStateC h8 (k := 0) rfl ?_
  simp only [asI_mk', asB_mk, asP_mk, asA_mk, asM_mk, asSl_mk, asStr_mk, tup2_mk, tup3_mk, agg1_mk, agg2_mk, agg3_mk, agg4_mk, asAggm, unCons_mk, unNil_mk, asTup_mk, extractD0, extractD1, List.toList_toArray, nilP_mk, add_mk, Nat.zero_add, Nat.add_zero, condT, condF, Bool.not_true, Bool.not_false, Option.isNone_some, Option.isNone_none]
  have hlt : k16d.lt 0 := ⟨⟨Nat.le_refl _, Nat.le_refl _⟩, ⟨fun w hw => by (cases hw), Nat.le_refl _, fun r hr => by (cases hr)⟩, Nat.le_refl _, fun r hr => by (cases hr), Nat.le_refl _⟩
  refine cyStepC h8 (i := 1) (k := 0) rfl rfl (by decide) hlt (by omega) fun fp2 fc2 H9 h9 => ?_
  rw [known16_run ho a4 a3 al] at h9 ⊢
  have h9 : St H0 (Prt.row 1 fp2 1 fc2 [.int .u64 1] :: CyP b hb k16f :: HeapP hb (hFree s1 1).2 :: L) H9 := h9
  simp only [asI_mk', asB_mk, asP_mk, asA_mk, asM_mk, asSl_mk, asStr_mk, tup2_mk, tup3_mk, agg1_mk, agg2_mk, agg3_mk, agg4_mk, asAggm, unCons_mk, unNil_mk, asTup_mk, extractD0, extractD1, List.toList_toArray, nilP_mk, add_mk, Nat.zero_add, Nat.add_zero, condT, condF, Bool.not_true, Bool.not_false, Option.isNone_some, Option.isNone_none]
  refine bif_eq rfl (bif_eq rfl (bif_eq rfl (bif_eq rfl ?_)))
  refine idxS (g := fun x : Int => [Value.int .u64 x]) (l := [1]) (fun _ => rfl) 0 (h9.row_rd (i := 0) rfl) (by omega) (by omega) (by simp) fun b1 o1 _ hl1 hcc => ?_
  refine ldI_of (hcc 0 (by omega)) (bif_eq rfl ?_)
  refine cyStateC h9 (k := 1) rfl ?_
  simp only [asI_mk', asB_mk, asP_mk, asA_mk, asM_mk, asSl_mk, asStr_mk, tup2_mk, tup3_mk, agg1_mk, agg2_mk, agg3_mk, agg4_mk, asAggm, unCons_mk, unNil_mk, asTup_mk, extractD0, extractD1, List.toList_toArray, nilP_mk, add_mk, Nat.zero_add, Nat.add_zero, condT, condF, Bool.not_true, Bool.not_false, Option.isNone_some, Option.isNone_none]
  refine bif_eq rfl (hLen h9 (i := 2) rfl ?_)
  simp only [asI_mk', asB_mk, asP_mk, asA_mk, asM_mk, asSl_mk, asStr_mk, tup2_mk, tup3_mk, agg1_mk, agg2_mk, agg3_mk, agg4_mk, asAggm, unCons_mk, unNil_mk, asTup_mk, extractD0, extractD1, List.toList_toArray, nilP_mk, add_mk, Nat.zero_add, Nat.add_zero, condT, condF, Bool.not_true, Bool.not_false, Option.isNone_some, Option.isNone_none]
  have hz := hFree_len ho (k := 1) (by unfold hGet; rw [a4]; simp)
  rw [a4] at hz
  have hz : (hFree s1 1).2.obs.length = 0 := by simpa using hz
  rw [hz]
  exact hK H9 (St.lesses (M := [_, _, _]) h9)
end
end Go.Proofs.YtohlnmenghbgbaaGreat

namespace Go.Proofs.YtohlnmenghbgbaaGreat
open Go
set_option linter.unusedVariables false
set_option maxRecDepth 100000
end Go.Proofs.YtohlnmenghbgbaaGreat

namespace Go.Proofs.YtohlnmenghbgbaaGreat
set_option linter.unusedSimpArgs false
set_option linter.unusedVariables false
open Go
/-- A collector that has begun, its shaking so far. -/
def cySk (c : Cy) (k : Sk) : Cy := { c with p := pTurn c.p, sk := k }
theorem begin1 {s : Hs} {grey sus work l stir : Int} (hw : 1 ≤ work) : cyStep s (newCy 1 grey sus work l) stir = (([], false), s, cySk (newCy 1 grey sus work l) ⟨1, [false, true], [false, false]⟩) := by
  unfold cyStep
  obtain ⟨n, hn⟩ : ∃ n, (newCy 1 grey sus work l).work.toNat = n + 1 := ⟨work.toNat - 1, by show work.toNat = _; omega⟩
  rw [hn]
  exact steps_stop (unit0 rfl)
theorem shake1 {s : Hs} {c : Cy} : cyShake s (cySk c ⟨1, [false, true], [false, false]⟩) 0 [] = (true, cySk c ⟨2, [true, true], [false, false]⟩) := rfl
theorem shake2 {s : Hs} {c : Cy} : cyShake s (cySk c ⟨2, [true, true], [false, false]⟩) 0 [] = (true, cySk c ⟨2, [true, true], [true, false]⟩) := rfl
theorem shake3 {s : Hs} {c : Cy} : cyShake s (cySk c ⟨2, [true, true], [true, false]⟩) 1 [] = (true, cyAnswered c) := rfl
theorem Cy.lt.sk {c : Cy} {n : Nat} {k : Sk} (h : c.lt n) : (cySk c k).lt n := ⟨h.p.turn, h.r, h.rows, h.rlen, h.outs⟩

end Go.Proofs.YtohlnmenghbgbaaGreat

namespace Go.Proofs.YtohlnmenghbgbaaGreat
open Go
set_option linter.unusedVariables false
set_option maxRecDepth 100000
end Go.Proofs.YtohlnmenghbgbaaGreat

namespace Go.Proofs.YtohlnmenghbgbaaGreat
open Go
set_option linter.unusedVariables false
set_option maxRecDepth 100000
end Go.Proofs.YtohlnmenghbgbaaGreat

namespace Go.Proofs.YtohlnmenghbgbaaGreat
set_option linter.unusedSimpArgs false
set_option linter.unusedVariables false
open Go
/-- It waits for one that has not answered. -/
structure Waits (c : Cy) (m : Nat) : Prop where
  st : c.st = 0
  ph : c.sk.ph = 1 ∨ c.sk.ph = 2
  sc : c.sk.sc[m]? = some false
  turns : c.p.turns = 1
theorem ans_waits {q : Sk} {k : Int} {m : Nat} (hk : k ≠ m) (hp : q.ph = 1 ∨ q.ph = 2) (hs : q.sc[m]? = some false) : ((q.ans k).1.ph = 1 ∨ (q.ans k).1.ph = 2) ∧ (q.ans k).1.sc[m]? = some false := by
  unfold Sk.ans
  split
  · exact ⟨hp, hs⟩
  · rename_i h0
    split
    · split
      · exact ⟨hp, hs⟩
      · refine ⟨?_, hs⟩
        simp only
        split
        · exact .inr rfl
        · exact .inl rfl
    · split
      · split
        · exact ⟨hp, hs⟩
        · have hkm : k.toNat ≠ m := by omega
          have h1 : (q.sc.set k.toNat true)[m]? = some false := by rw [List.getElem?_set_ne hkm]; exact hs
          refine ⟨.inr ?_, h1⟩
          simp only
          rw [if_neg]
          intro hall
          have := List.all_eq_true.1 hall false (List.mem_of_getElem? h1)
          cases this
      · exact ⟨hp, hs⟩
theorem Waits.state {c : Cy} {m : Nat} (h : Waits c m) : c.state = 1 ∨ c.state = 2 := by
  have h1 := h.ph
  unfold Cy.state
  rw [if_neg (by rw [h.st]; decide)]
  by_cases e : c.sk.ph = 1
  · rw [if_pos e]; omega
  · rw [if_neg e, if_pos (by omega)]; omega
theorem Waits.step {s : Hs} {c : Cy} {m : Nat} {stir : Int} (h : Waits c m) (hw : 1 ≤ c.work) : cyStep s c stir = (([], false), s, c) := by
  unfold cyStep
  obtain ⟨n, hn⟩ : ∃ n, c.work.toNat = n + 1 := ⟨c.work.toNat - 1, by omega⟩
  rw [hn]
  exact steps_stop (unit12 h.state (by have := h.ph; omega))
theorem Waits.shake {s : Hs} {c : Cy} {m : Nat} {k : Int} (h : Waits c m) (hk : k ≠ m) : Waits (cyShake s c k []).2 m := by
  have h1 := ans_waits hk h.ph h.sc
  unfold cyShake
  split
  · exact ⟨h.st, h1.1, h1.2, h.turns⟩
  · exact ⟨h.st, h1.1, h1.2, h.turns⟩
/-- It is idle. -/
structure Idle (c : Cy) : Prop where
  st : c.st = 0
  ph : c.sk.ph = 0
theorem Idle.state {c : Cy} (h : Idle c) : c.state = 0 := by unfold Cy.state; rw [if_neg (by rw [h.st]; decide), if_neg (by rw [h.ph]; decide), if_neg (by rw [h.ph]; decide)]
theorem Idle.isOpen {c : Cy} (h : Idle c) : c.isOpen = false := by unfold Cy.isOpen; rw [h.state]; rfl
theorem Idle.store {s : Hs} {c : Cy} (h : Idle c) {m : Int} {x y : Id} : cyStore s c m x y = c := by unfold cyStore; rw [if_neg (by rw [h.isOpen]; simp)]
theorem Idle.born {s : Hs} {c : Cy} (h : Idle c) {m q : Int} : cyBorn s c m q = c := by unfold cyBorn; rw [if_neg (by rw [h.isOpen]; simp)]
theorem Idle.shake {s : Hs} {c : Cy} (h : Idle c) {m : Int} {l : List Id} : cyShake s c m l = (false, c) := by
  have e : c.sk.ans m = (c.sk, 0) := by
    unfold Sk.ans
    split
    · rfl
    · rw [if_neg (by rw [h.ph]; decide), if_neg (by rw [h.ph]; decide)]
  unfold cyShake
  rw [e, if_neg (show ¬ ((0 : Int) = 2) by decide)]
  rfl

end Go.Proofs.YtohlnmenghbgbaaGreat

namespace Go.Proofs.YtohlnmenghbgbaaGreat
open Go
set_option linter.unusedVariables false
set_option maxRecDepth 100000
end Go.Proofs.YtohlnmenghbgbaaGreat

namespace Go.Proofs.YtohlnmenghbgbaaGreat
set_option linter.unusedSimpArgs false
set_option linter.unusedVariables false
open Go
theorem MkBegun.turn {s : Hs} {n : Nat} {p : Ps} (hl : s.obs.length = n) : MkBegun s n [] (pTurn p) :=
  ⟨⟨fun k r g e => (by cases e), fun x r e => (by cases e)⟩, fun k r o e => (by cases e), fun k r e => (by cases e), fun k hk => (by cases hk), (MkBegun.start (s := s) (n := n) (m := 1) hl).psi⟩
theorem MkBegun.all {s : Hs} {n : Nat} (hn : s.node = 1) : ∀ {l rts : List Int} {p : Ps}, MkBegun s n rts p → p.ok → (∀ k ∈ l, (1 ≤ k ∧ k ≤ 64) ∧ hGet s k ≠ none) → MkBegun s n (rts ++ l) (pShades s p (l.map fun k => (⟨1, k⟩ : Id)) 0)
  | [], rts, p, h, _, _ => by rw [List.append_nil]; exact h
  | k :: l, rts, p, h, hp, hk => by
    have h1 := h.next hn hp (hk k (by simp)).1 (hk k (by simp)).2
    have h2 := MkBegun.all (l := l) hn h1 hp.shade fun a ha => hk a (List.mem_cons_of_mem _ ha)
    rw [List.append_assoc] at h2
    exact h2
theorem unm_len {p : Ps} {q : Nat} : (unm p q).length ≤ q := by
  unfold unm
  refine Nat.le_trans (List.length_filter_le _ _) ?_
  simp
theorem J.len {s0 s : Hs} {c : Cy} {stir : Int} {n : Nat} {rts fr : List Int} (h : J s0 n rts stir s c fr) : fr.length ≤ n := by
  obtain ⟨_, h⟩ := h
  rcases h with ⟨_, _, rfl, _⟩ | ⟨_, _, rfl, _⟩ | ⟨_, _, rfl, _⟩ | ⟨_, pd, q, _, _, hq, _, _, _, rfl⟩
  · exact Nat.zero_le _
  · exact Nat.zero_le _
  · exact Nat.zero_le _
  · exact Nat.le_trans unm_len hq

end Go.Proofs.YtohlnmenghbgbaaGreat

namespace Go.Proofs.YtohlnmenghbgbaaGreat
open Go
set_option linter.unusedVariables false
set_option maxRecDepth 100000
def B_law16_CycleSums (gRefsP1 : Option Addr) (gRefsL2 : Nat) (gRefsC3 : Nat) (gOutP4 : Option Addr) (gOutL5 : Nat) (gOutC6 : Nat) (gInP7 : Option Addr) (gInL8 : Nat) (gInC9 : Nat) (grey10 : Int) (suspect11 : Int) (H : Hp) (K : Value → Hp → Prop) : Prop :=
 newB (.cells #[(.slice gRefsP1 gRefsL2 gRefsC3), (.slice gOutP4 gOutL5 gOutC6), (.slice gInP7 gInL8 gInC9)] ty_hand_Graph) H fun b12 Hx13 =>
 ldSl ⟨b12, 0, none⟩ Hx13 fun RefsP14 RefsL15 RefsC16 =>
 ldSl ⟨b12, 1, none⟩ Hx13 fun OutP17 OutL18 OutC19 =>
 ldSl ⟨b12, 2, none⟩ Hx13 fun InP20 InL21 InC22 =>
 hcall PR f_hand_Graph_Heaps ⟨[(.agg #[(.slice RefsP14 RefsL15 RefsC16), (.slice OutP17 OutL18 OutC19), (.slice InP20 InL21 InC22)]), (.int .i64 30)]⟩ Hx13 fun v23 Hx24 =>
 tup2 v23 fun v25 v26 =>
 asP v25 fun t27 =>
 asP v26 fun t28 =>
 hcall PR f_law16_known ⟨[]⟩ Hx24 fun v29 Hx30 =>
 asB v29 fun t31 =>
 (bif (!t31) then
 K (.bool false) Hx30
else
 (bif (Option.isNone (α := Addr) t27) then
 K (.bool false) Hx30
else
 nilP t28 fun ta32 =>
 ldI .u64 (ta32.add 2) Hx30 fun Last33 =>
 hcall PR f_hand_Pick ⟨[(.int .i64 suspect11), (.int .i64 7)]⟩ Hx30 fun v34 Hx35 =>
 asI .i64 v34 fun t36 =>
 hcall PR f_hand_Pick ⟨[(.int .i64 grey10), (.int .i64 6)]⟩ Hx35 fun v37 Hx38 =>
 asI .i64 v37 fun t39 =>
 hcall PR f_cycle_New ⟨[(.pointer t27), (.int .i64 1), (.int .i64 (IntKind.i64.wrap (1 + t39))), (.int .i64 t36), (.int .i64 64)]⟩ Hx38 fun v40 Hx41 =>
 tup2 v40 fun v42 v43 =>
 asP v42 fun t44 =>
 asI .i64 v43 fun t45 =>
 (bif ((t45 : Int) != 0) then
 K (.bool false) Hx41
else
 (bif (Option.isNone (α := Addr) t44) then
 K (.bool false) Hx41
else
 hcall PR f_cycle_Cycle_Step ⟨[(.pointer t44), (.int .u64 0)]⟩ Hx41 fun v46 Hx47 =>
 tup2 v46 fun v48 v49 =>
 asSl v48 fun tP50 tL51 tC52 =>
 asB v49 fun t53 =>
 hcall PR f_cycle_Cycle_Shake ⟨[(.pointer t44), (.int .i64 0), (.slice none 0 0)]⟩ Hx47 fun v54 Hx55 =>
 asB v54 fun t56 =>
 hcall PR f_cycle_Cycle_Shake ⟨[(.pointer t44), (.int .i64 0), (.slice none 0 0)]⟩ Hx55 fun v57 Hx58 =>
 asB v57 fun t59 =>
 hcall PR f_cycle_Cycle_Shake ⟨[(.pointer t44), (.int .i64 1), (.slice none 0 0)]⟩ Hx58 fun v60 Hx61 =>
 asB v60 fun t62 =>
 ∀ R63 : Hp → Prop, (∀ Hx64 : Hp, (
 ldSl ⟨b12, 0, none⟩ Hx64 fun RefsP65 RefsL66 RefsC67 =>
 ldSl ⟨b12, 1, none⟩ Hx64 fun OutP68 OutL69 OutC70 =>
 ldSl ⟨b12, 2, none⟩ Hx64 fun InP71 InL72 InC73 =>
 hcall PR f_hand_Graph_Ranks ⟨[(.agg #[(.slice RefsP65 RefsL66 RefsC67), (.slice OutP68 OutL69 OutC70), (.slice InP71 InL72 InC73)]), (.int .i64 (IntKind.i64.wrap Last33)), (.slice none 0 0)]⟩ Hx64 fun v74 Hx75 =>
 asSl v74 fun tP76 tL77 tC78 =>
 hcall PR f_cycle_Cycle_Summary ⟨[(.pointer t44)]⟩ Hx75 fun v79 Hx80 =>
 agg4 v79 fun v81 v82 v83 v84 =>
 asI .u64 v81 fun Stir85 =>
 asSl v82 fun RowsP86 RowsL87 RowsC88 =>
 asSl v83 fun OutsP89 OutsL90 OutsC91 =>
 asB v84 fun Ok92 =>
 newB (.cells #[(.int .u64 0), (.slice none 0 0), (.slice none 0 0), (.bool false)] ty_cycle_Summary) Hx80 fun b93 Hx94 =>
 st ⟨b93, 0, none⟩ (.int .u64 Stir85) Hx94 fun Hx95 =>
 st ⟨b93, 1, none⟩ (.slice RowsP86 RowsL87 RowsC88) Hx95 fun Hx96 =>
 st ⟨b93, 2, none⟩ (.slice OutsP89 OutsL90 OutsC91) Hx96 fun Hx97 =>
 st ⟨b93, 3, none⟩ (.bool Ok92) Hx97 fun Hx98 =>
 ∃ (I99 : Int → Int → Hp → Prop) (m100 : Int → Int → Hp → Nat), I99 0 1 Hx98 ∧ ∀ atx102 : Int, ∀ i103 : Int, ∀ Hx101 : Hp, I99 atx102 i103 Hx101 →
 (bif (decide ((i103 : Int) ≤ (IntKind.i64.wrap Last33))) then
 ∀ R104 : Int → Hp → Prop, (∀ atx106 : Int, ∀ Hx105 : Hp, (
 I99 atx106 (IntKind.i64.wrap (i103 + 1)) Hx105 ∧ m100 atx106 (IntKind.i64.wrap (i103 + 1)) Hx105 < m100 atx102 i103 Hx101) → R104 atx106 Hx105) →
 ldSl ⟨b12, 0, none⟩ Hx101 fun RefsP107 RefsL108 RefsC109 =>
 ldSl ⟨b12, 1, none⟩ Hx101 fun OutP110 OutL111 OutC112 =>
 ldSl ⟨b12, 2, none⟩ Hx101 fun InP113 InL114 InC115 =>
 hcall PR f_hand_Graph_Dist ⟨[(.agg #[(.slice RefsP107 RefsL108 RefsC109), (.slice OutP110 OutL111 OutC112), (.slice InP113 InL114 InC115)]), (.int .i64 (IntKind.i64.wrap (i103 - 1)))]⟩ Hx101 fun v116 Hx117 =>
 asI .i64 v116 fun t118 =>
 (bif (decide ((t118 : Int) > 0)) then
 idxA tP76 tL77 i103 1 fun el119 =>
 ldI .i64 el119 Hx117 fun t120 =>
 (bif (decide ((t120 : Int) > t36)) then
 ldSl ⟨b93, 1, none⟩ Hx117 fun RowsP121 RowsL122 RowsC123 =>
 (bif (decide ((atx102 : Int) ≥ (RowsL122 : Int))) then
 K (.bool false) Hx117
else
 ldSl ⟨b93, 1, none⟩ Hx117 fun RowsP124 RowsL125 RowsC126 =>
 idxA RowsP124 RowsL125 atx102 2 fun el127 =>
 ldI .u64 el127 Hx117 fun In128 =>
 (bif ((In128 : Int) != (IntKind.u64.wrap i103)) then
 K (.bool false) Hx117
else
 R104 (IntKind.i64.wrap (atx102 + 1)) Hx117))
else
 R104 atx102 Hx117)
else
 R104 atx102 Hx117)
else
 ∃ (I129 : Int → Hp → Prop) (m130 : Int → Hp → Nat), I129 0 Hx101 ∧ ∀ i132 : Int, ∀ Hx131 : Hp, I129 i132 Hx131 →
 ldSl ⟨b93, 2, none⟩ Hx131 fun OutsP133 OutsL134 OutsC135 =>
 (bif (decide ((i132 : Int) < (OutsL134 : Int))) then
 ∃ (I136 : Int → Int → Hp → Prop) (m137 : Int → Int → Hp → Nat), I136 41 0 Hx131 ∧ ∀ least139 : Int, ∀ k140 : Int, ∀ Hx138 : Hp, I136 least139 k140 Hx138 →
 (bif (decide ((k140 : Int) < (IntKind.i64.wrap Last33))) then
 ∀ R141 : Int → Hp → Prop, (∀ least143 : Int, ∀ Hx142 : Hp, (
 I136 least143 (IntKind.i64.wrap (k140 + 1)) Hx142 ∧ m137 least143 (IntKind.i64.wrap (k140 + 1)) Hx142 < m137 least139 k140 Hx138) → R141 least143 Hx142) →
 ∃ (I144 : Int → Int → Hp → Prop) (m145 : Int → Int → Hp → Nat), I144 least139 0 Hx138 ∧ ∀ least147 : Int, ∀ j148 : Int, ∀ Hx146 : Hp, I144 least147 j148 Hx146 →
 idxA tP76 tL77 (IntKind.i64.wrap (k140 + 1)) 1 fun el149 =>
 ldI .i64 el149 Hx146 fun t150 =>
 (bif (decide ((t150 : Int) ≥ 0)) then
 ldSl ⟨b12, 0, none⟩ Hx146 fun RefsP151 RefsL152 RefsC153 =>
 idxA RefsP151 RefsL152 k140 1 fun el154 =>
 ldSl el154 Hx146 fun tP155 tL156 tC157 =>
 (bif (decide ((j148 : Int) < (tL156 : Int))) then
 (bif (decide ((j148 : Int) < 7)) then
 ∀ R158 : Int → Hp → Prop, (∀ least160 : Int, ∀ Hx159 : Hp, (
 I144 least160 (IntKind.i64.wrap (j148 + 1)) Hx159 ∧ m145 least160 (IntKind.i64.wrap (j148 + 1)) Hx159 < m145 least147 j148 Hx146) → R158 least160 Hx159) →
 ldSl ⟨b12, 0, none⟩ Hx146 fun RefsP161 RefsL162 RefsC163 =>
 ldSl ⟨b12, 1, none⟩ Hx146 fun OutP164 OutL165 OutC166 =>
 ldSl ⟨b12, 2, none⟩ Hx146 fun InP167 InL168 InC169 =>
 ldSl ⟨b93, 2, none⟩ Hx146 fun OutsP170 OutsL171 OutsC172 =>
 idxA OutsP170 OutsL171 i132 3 fun el173 =>
 ldI .i64 el173 Hx146 fun Node174 =>
 ldI .u64 (el173.add 1) Hx146 fun Serial175 =>
 hcall PR f_hand_Graph_Target ⟨[(.agg #[(.slice RefsP161 RefsL162 RefsC163), (.slice OutP164 OutL165 OutC166), (.slice InP167 InL168 InC169)]), (.int .i64 k140), (.int .i64 j148), (.int .i64 (IntKind.i64.wrap Last33))]⟩ Hx146 fun v176 Hx177 =>
 agg2 v176 fun v178 v179 =>
 asI .i64 v178 fun Node180 =>
 asI .u64 v179 fun Serial181 =>
 (ldI .i64 el173 Hx177 fun Node182 =>
 ldI .u64 (el173.add 1) Hx177 fun Serial183 =>
 ((.agg #[(.int .i64 Node182), (.int .u64 Serial183)]) : Value) = (.agg #[(.int .i64 Node174), (.int .u64 Serial175)])) ∧
 (ldSl ⟨b93, 2, none⟩ Hx177 fun OutsP184 OutsL185 OutsC186 =>
 ((.slice OutsP184 OutsL185 OutsC186) : Value) = (.slice OutsP170 OutsL171 OutsC172)) ∧
 evR PR (aggEq .eql ty_api_ID #[(.int .i64 Node180), (.int .u64 Serial181)] #[(.int .i64 Node174), (.int .u64 Serial175)]) Hx177 fun v187 =>
 asB v187 fun eq188 =>
 (bif eq188 then
 idxA tP76 tL77 (IntKind.i64.wrap (k140 + 1)) 1 fun el189 =>
 ldI .i64 el189 Hx177 fun t190 =>
 R158 (if t190 < least147 then t190 else least147) Hx177
else
 R158 least147 Hx177)
else
 R141 least147 Hx146)
else
 R141 least147 Hx146)
else
 R141 least147 Hx146)
else
 ldSl ⟨b93, 2, none⟩ Hx138 fun OutsP191 OutsL192 OutsC193 =>
 idxA OutsP191 OutsL192 i132 3 fun el194 =>
 ldI .i64 (el194.add 2) Hx138 fun Rank195 =>
 (bif ((least139 : Int) != Rank195) then
 K (.bool false) Hx138
else
 (bif (decide ((least139 : Int) ≤ t36)) then
 K (.bool false) Hx138
else
 I129 (IntKind.i64.wrap (i132 + 1)) Hx138 ∧ m130 (IntKind.i64.wrap (i132 + 1)) Hx138 < m130 i132 Hx131)))
else
 ldSl ⟨b93, 1, none⟩ Hx131 fun RowsP196 RowsL197 RowsC198 =>
 (bif ((atx102 : Int) == (RowsL197 : Int)) then
 ldB ⟨b93, 3, none⟩ Hx131 fun Ok199 =>
 K (.bool Ok199) Hx131
else
 K (.bool false) Hx131)))) → R63 Hx64) →
 ∃ (I200 : Int → Hp → Prop) (m201 : Int → Hp → Nat), I200 0 Hx61 ∧ ∀ k203 : Int, ∀ Hx202 : Hp, I200 k203 Hx202 →
 (bif (decide ((k203 : Int) < 100000)) then
 hcall PR f_cycle_Cycle_Step ⟨[(.pointer t44), (.int .u64 0)]⟩ Hx202 fun v204 Hx205 =>
 tup2 v204 fun v206 v207 =>
 asSl v206 fun tP208 tL209 tC210 =>
 asB v207 fun t211 =>
 (bif t211 then
 R63 Hx205
else
 I200 (IntKind.i64.wrap (k203 + 1)) Hx205 ∧ m201 (IntKind.i64.wrap (k203 + 1)) Hx205 < m201 k203 Hx202)
else
 R63 Hx202)))))
theorem E_law16_CycleSums (gRefsP1 : Option Addr) (gRefsL2 : Nat) (gRefsC3 : Nat) (gOutP4 : Option Addr) (gOutL5 : Nat) (gOutC6 : Nat) (gInP7 : Option Addr) (gInL8 : Nat) (gInC9 : Nat) (grey10 : Int) (suspect11 : Int) (H : Hp) (K : Value → Hp → Prop) : B_law16_CycleSums gRefsP1 gRefsL2 gRefsC3 gOutP4 gOutL5 gOutC6 gInP7 gInL8 gInC9 grey10 suspect11 H K = denF Tryz.prog Tryz.f11 (.seq none .n (.seq none .n (.seq none .n (.seq none .n (.seq none .n (.seq none .n (.seq none .n (.seq none .n (.seq none .n (.seq none .n (.seq none .n (.seq (some ⟨[], [2, 3, 9, 10]⟩) (.seq none .n (.sub (.loop ⟨[(12, .int .i64)], [2, 3, 9, 10]⟩ .n))) (.seq none .n (.seq none .n (.seq none .n (.seq none (.seq none .n (.sub (.loop ⟨[(17, .int .i64), (18, .int .i64)], [2, 3, 9, 15, 16]⟩ (.seq none .n (.seq (some ⟨[(17, .int .i64)], [2, 3, 9, 15, 16, 18]⟩) .n .n))))) (.seq none (.seq none .n (.sub (.loop ⟨[(19, .int .i64)], [2, 3, 9, 15, 16, 17]⟩ (.seq none .n (.seq none (.sub (.seq none .n (.seq none (.seq none .n (.sub (.loop ⟨[(20, .int .i64), (21, .int .i64)], [2, 3, 9, 15, 16, 17, 19]⟩ (.seq none .n (.seq (some ⟨[(20, .int .i64)], [2, 3, 9, 15, 16, 17, 19, 21]⟩) (.sub (.seq none .n (.sub (.loop ⟨[(20, .int .i64), (22, .int .i64)], [2, 3, 9, 15, 16, 17, 19, 21]⟩ (.seq none .n (.seq (some ⟨[(20, .int .i64)], [2, 3, 9, 15, 16, 17, 19, 21, 22]⟩) .n .n)))))) .n))))) .n))) .n))))) .n))))))))))))))))) [(.agg #[(.slice gRefsP1 gRefsL2 gRefsC3), (.slice gOutP4 gOutL5 gOutC6), (.slice gInP7 gInL8 gInC9)]), (.int .i64 grey10), (.int .i64 suspect11)] H K := by kernel_rfl
theorem den_law16_CycleSums {gRefsP1 : Option Addr} {gRefsL2 : Nat} {gRefsC3 : Nat} {gOutP4 : Option Addr} {gOutL5 : Nat} {gOutC6 : Nat} {gInP7 : Option Addr} {gInL8 : Nat} {gInC9 : Nat} {grey10 : Int} {suspect11 : Int} {H : Hp} {K : Value → Hp → Prop} (h : B_law16_CycleSums gRefsP1 gRefsL2 gRefsC3 gOutP4 gOutL5 gOutC6 gInP7 gInL8 gInC9 grey10 suspect11 H K) : hcall PR f_law16_CycleSums ⟨[(.agg #[(.slice gRefsP1 gRefsL2 gRefsC3), (.slice gOutP4 gOutL5 gOutC6), (.slice gInP7 gInL8 gInC9)]), (.int .i64 grey10), (.int .i64 suspect11)]⟩ H K := denF_call Tryz.func11 PR_mixed (Eq.mp (E_law16_CycleSums gRefsP1 gRefsL2 gRefsC3 gOutP4 gOutL5 gOutC6 gInP7 gInL8 gInC9 grey10 suspect11 H K) h)

end Go.Proofs.YtohlnmenghbgbaaGreat

namespace Go.Proofs.YtohlnmenghbgbaaGreat
set_option linter.unusedSimpArgs false
set_option linter.unusedVariables false
open Go
theorem filter_at {α : Type} {P : α → Bool} {l : List α} {y : Nat} {a : α} (h : l[y]? = some a) : (P a = true → (l.filter P)[((l.take y).filter P).length]? = some a) ∧ (l.take (y + 1)).filter P = (l.take y).filter P ++ if P a = true then [a] else [] := by
  constructor
  · intro hp
    have hl := ltOfGet h
    have e : l = l.take y ++ a :: l.drop (y + 1) := by
      rw [List.getElem?_eq_getElem hl] at h
      have h1 := List.drop_eq_getElem_cons hl
      rw [Option.some.inj h] at h1
      rw [← h1, List.take_append_drop]
    have e2 : l.filter P = (l.take y).filter P ++ a :: (l.drop (y + 1)).filter P := by
      conv => lhs; rw [e]
      rw [List.filter_append, List.filter_cons_of_pos hp]
    rw [e2, List.getElem?_append_right (Nat.le_refl _), Nat.sub_self]
    rfl
  · rw [List.take_add_one, h, Option.toList_some, List.filter_append]
    congr 1
    by_cases hp : P a = true
    · rw [if_pos hp, List.filter_cons, if_pos hp]; rfl
    · rw [if_neg hp, List.filter_cons, if_neg hp]; rfl

set_option maxRecDepth 20000 in
theorem CycleSums_ok {rp op ip : Option Addr} {rl rc ol oc il ic : Nat} {g : Gr} {grey suspect : Int} {H : Hp} {K : Value → Hp → Prop} (ga : GrA H rp rl op ol ip il g) (gok : g.ok) (hgr : IntKind.min .i64 ≤ grey ∧ grey ≤ IntKind.max .i64) (hsu : IntKind.min .i64 ≤ suspect ∧ suspect ≤ IntKind.max .i64)
    (hK : ∀ H', Keep Nothing H H' → K (.bool true) H') :
    hcall PR f_law16_CycleSums ⟨[.agg #[.slice rp rl rc, .slice op ol oc, .slice ip il ic], .int .i64 grey, .int .i64 suspect]⟩ H K := by
  apply den_law16_CycleSums
  unfold B_law16_CycleSums
  intro b13 hb13
  have h1 := (St.start H).alloc (o := .cells #[.slice rp rl rc, .slice op ol oc, .slice ip il ic] ty_hand_Graph) hb13
  refine ldSl_of (h1.cell (i := 0) rfl rfl) (ldSl_of (h1.cell (i := 0) rfl rfl) (ldSl_of (h1.cell (i := 0) rfl rfl) ?_))
  refine HeapsC (most := 30) (ga.st h1) gok (by omega) fun hb rb s H2 hs h2 => ?_
  have h2 := h1.join h2
  have hn : grSize g 30 ≤ 30 ∧ grSize g 30 ≤ g.refs.length := by unfold grSize; split <;> omega
  generalize grSize g 30 = n at *
  simp only [asI_mk', asB_mk, asP_mk, asA_mk, asM_mk, asSl_mk, asStr_mk, tup2_mk, tup3_mk, agg1_mk, agg2_mk, agg3_mk, agg4_mk, asAggm, unCons_mk, unNil_mk, asTup_mk, extractD0, extractD1, List.toList_toArray, nilP_mk, add_mk, Nat.zero_add, Nat.add_zero, condT, condF, Bool.not_true, Bool.not_false, Option.isNone_some, Option.isNone_none]
  refine known16_ok h2 fun H3 h3 => ?_
  simp only [asI_mk', asB_mk, asP_mk, asA_mk, asM_mk, asSl_mk, asStr_mk, tup2_mk, tup3_mk, agg1_mk, agg2_mk, agg3_mk, agg4_mk, asAggm, unCons_mk, unNil_mk, asTup_mk, extractD0, extractD1, List.toList_toArray, nilP_mk, add_mk, Nat.zero_add, Nat.add_zero, condT, condF, Bool.not_true, Bool.not_false, Option.isNone_some, Option.isNone_none]
  obtain ⟨y1, N1, g1, _, _⟩ := rheapOpenL (i := 1) h3 rfl (.inl rfl)
  refine ldI_of (rheapV g1).last ?_
  clear g1
  have p2 := pick_lt (n := suspect) (m := 7) (by omega)
  refine Pick_ok (by omega) (by omega) ?_
  simp only [asI_mk', asB_mk, asP_mk, asA_mk, asM_mk, asSl_mk, asStr_mk, tup2_mk, tup3_mk, agg1_mk, agg2_mk, agg3_mk, agg4_mk, asAggm, unCons_mk, unNil_mk, asTup_mk, extractD0, extractD1, List.toList_toArray, nilP_mk, add_mk, Nat.zero_add, Nat.add_zero, condT, condF, Bool.not_true, Bool.not_false, Option.isNone_some, Option.isNone_none]
  generalize pick suspect 7 = u at *
  have p1 := pick_lt (n := grey) (m := 6) (by omega)
  refine Pick_ok (by omega) (by omega) ?_
  simp only [asI_mk', asB_mk, asP_mk, asA_mk, asM_mk, asSl_mk, asStr_mk, tup2_mk, tup3_mk, agg1_mk, agg2_mk, agg3_mk, agg4_mk, asAggm, unCons_mk, unNil_mk, asTup_mk, extractD0, extractD1, List.toList_toArray, nilP_mk, add_mk, Nat.zero_add, Nat.add_zero, condT, condF, Bool.not_true, Bool.not_false, Option.isNone_some, Option.isNone_none]
  generalize pick grey 6 = a at *
  rw [hs.last]
  have w0 : IntKind.i64.wrap (n : Int) = n := wrap_i64 (by omega) (by omega)
  have w1 : IntKind.i64.wrap (1 + a) = 1 + a := wrap_i64 (by omega) (by omega)
  simp only [w0, w1]
  refine cyNewC h3 (i := 0) rfl hs.node (by omega) (by omega) (by omega) (by omega) fun b H4 h4 => ?_
  rw [hs.last] at h4
  simp only [asI_mk', asB_mk, asP_mk, asA_mk, asM_mk, asSl_mk, asStr_mk, tup2_mk, tup3_mk, agg1_mk, agg2_mk, agg3_mk, agg4_mk, asAggm, unCons_mk, unNil_mk, asTup_mk, extractD0, extractD1, List.toList_toArray, nilP_mk, add_mk, Nat.zero_add, Nat.add_zero, condT, condF, Bool.not_true, Bool.not_false, Option.isNone_some, Option.isNone_none]
  refine bif_neqf rfl ?_
  (try simp only [Option.isNone_some, condF])
  refine cyStepC h4 (i := 1) (k := 0) rfl rfl (by decide) (newCy_lt (n := 0)) (by omega) fun fp fc H5 h5 => ?_
  rw [begin1 (by omega)] at h5 ⊢
  have h5 := h5.less
  simp only [asI_mk', asB_mk, asP_mk, asA_mk, asM_mk, asSl_mk, asStr_mk, tup2_mk, tup3_mk, agg1_mk, agg2_mk, agg3_mk, agg4_mk, asAggm, unCons_mk, unNil_mk, asTup_mk, extractD0, extractD1, List.toList_toArray, nilP_mk, add_mk, Nat.zero_add, Nat.add_zero, condT, condF, Bool.not_true, Bool.not_false, Option.isNone_some, Option.isNone_none]
  refine cyShakeC (held := []) h5 (i := 1) (k := 0) rfl rfl (by decide) (fun _ _ _ => rd_nil) (by simp) fun H6 h6 => ?_
  rw [shake1] at h6 ⊢
  simp only [asI_mk', asB_mk, asP_mk, asA_mk, asM_mk, asSl_mk, asStr_mk, tup2_mk, tup3_mk, agg1_mk, agg2_mk, agg3_mk, agg4_mk, asAggm, unCons_mk, unNil_mk, asTup_mk, extractD0, extractD1, List.toList_toArray, nilP_mk, add_mk, Nat.zero_add, Nat.add_zero, condT, condF, Bool.not_true, Bool.not_false, Option.isNone_some, Option.isNone_none]
  refine cyShakeC (held := []) h6 (i := 1) (k := 0) rfl rfl (by decide) (fun _ _ _ => rd_nil) (by simp) fun H7 h7 => ?_
  rw [shake2] at h7 ⊢
  simp only [asI_mk', asB_mk, asP_mk, asA_mk, asM_mk, asSl_mk, asStr_mk, tup2_mk, tup3_mk, agg1_mk, agg2_mk, agg3_mk, agg4_mk, asAggm, unCons_mk, unNil_mk, asTup_mk, extractD0, extractD1, List.toList_toArray, nilP_mk, add_mk, Nat.zero_add, Nat.add_zero, condT, condF, Bool.not_true, Bool.not_false, Option.isNone_some, Option.isNone_none]
  refine cyShakeC (held := []) h7 (i := 1) (k := 0) rfl rfl (by decide) (fun _ _ _ => rd_nil) (by simp) fun H8 h8 => ?_
  rw [shake3] at h8 ⊢
  simp only [asI_mk', asB_mk, asP_mk, asA_mk, asM_mk, asSl_mk, asStr_mk, tup2_mk, tup3_mk, agg1_mk, agg2_mk, agg3_mk, agg4_mk, asAggm, unCons_mk, unNil_mk, asTup_mk, extractD0, extractD1, List.toList_toArray, nilP_mk, add_mk, Nat.zero_add, Nat.add_zero, condT, condF, Bool.not_true, Bool.not_false, Option.isNone_some, Option.isNone_none]
  have hlt0 : (cyAnswered (newCy 1 (1 + a) u 64 n)).lt 0 := (newCy_lt (n := 0)).sk (k := ⟨3, [true, true], [true, true]⟩)
  have hq0 : Quiet s (cyAnswered (newCy 1 (1 + a) u 64 n)) := answered_quiet
  have hw0 : (cyAnswered (newCy 1 (1 + a) u 64 n)).work = 64 ∧ (cyAnswered (newCy 1 (1 + a) u 64 n)).sus = u := ⟨rfl, rfl⟩
  have hJ0 : J s n [] 0 s (cyAnswered (newCy 1 (1 + a) u 64 n)) [] := ⟨rfl, .inl ⟨rfl, rfl, rfl, MkBegun.turn hs.len⟩⟩
  have hleft := left_new (s := s) (n := n) hs.len (grey := 1 + a) (sus := u) (work := 64)
  generalize cyAnswered (newCy 1 (1 + a) u 64 n) = c0 at *
  have h8 : St H [CyP b hb c0, HeapP hb s, RHeap rb s, Prt.one b13 (.cells #[.slice rp rl rc, .slice op ol oc, .slice ip il ic] ty_hand_Graph (0, 0))] H8 := h8
  clear h1 h2 h3 h4 h5 h6 h7
  have hb1 : (n + 1) * (n + 3) ≤ 31 * 33 := Nat.mul_le_mul (by omega) (by omega)
  generalize (n + 1) * (n + 3) = A at *
  intro R63 hR63
  have hR63 : ∀ (fr : List Int) (s' : Hs) (c' : Cy) H', JE s n [] 0 c' fr → c'.lt 600000 → c'.sus = u → St H [CyP b hb c', HeapP hb s', RHeap rb s, Prt.one b13 (.cells #[.slice rp rl rc, .slice op ol oc, .slice ip il ic] ty_hand_Graph (0, 0))] H' → R63 H' := fun fr s' c' H9 hJE hltc hcu h9 => by
    refine hR63 H9 ?_
    clear hR63 h8 hJ0 hq0 hleft hlt0 hw0
    obtain ⟨hst0, pd, ht, rfl⟩ := hJE
    obtain ⟨rows, htold, hrows⟩ := ht.told
    rw [hcu] at htold hrows
    have hd := ht.done
    have hpd := ht.ok
    refine ldSl_of (h9.cell (i := 3) rfl rfl) (ldSl_of (h9.cell (i := 3) rfl rfl) (ldSl_of (h9.cell (i := 3) rfl rfl) ?_))
    refine RanksC (n := n) (roots := []) h9 ga gok hs (by omega) (fun M H' h' => rd_nil) (fun k hk => by cases hk) (by omega) fun l p0' cc0 H10 hrk h10 => ?_
    simp only [asI_mk', asB_mk, asP_mk, asA_mk, asM_mk, asSl_mk, asStr_mk, tup2_mk, tup3_mk, agg1_mk, agg2_mk, agg3_mk, agg4_mk, asAggm, unCons_mk, unNil_mk, asTup_mk, extractD0, extractD1, List.toList_toArray, nilP_mk, add_mk, Nat.zero_add, Nat.add_zero, condT, condF, Bool.not_true, Bool.not_false, Option.isNone_some, Option.isNone_none]
    have rkd : ∀ {k : Int}, 0 ≤ k → k ≤ n → l.getD k.toNat 0 = rk l k := fun {k} h0 h1 => by
      unfold rk
      rw [List.getD_eq_getElem?_getD, List.getD_eq_getElem?_getD, List.getElem?_eq_getElem (by rw [hrk.ok.len]; omega)]
      rfl
    refine cySummaryC h10 (k := 1) rfl hltc (by omega) fun rp1 rc1 op1 oc1 H11 h11 => ?_
    obtain ⟨outs, houts⟩ : ∃ outs, outs = (outsOf pd).filter (fun e => decide (u < e.2)) := ⟨_, rfl⟩
    rw [← houts] at htold
    rw [htold] at h11 ⊢
    simp only [asI_mk', asB_mk, asP_mk, asA_mk, asM_mk, asSl_mk, asStr_mk, tup2_mk, tup3_mk, agg1_mk, agg2_mk, agg3_mk, agg4_mk, asAggm, unCons_mk, unNil_mk, asTup_mk, extractD0, extractD1, List.toList_toArray, nilP_mk, add_mk, Nat.zero_add, Nat.add_zero, condT, condF, Bool.not_true, Bool.not_false, Option.isNone_some, Option.isNone_none]
    have h11 : St H (Prt.row 3 op1 outs.length oc1 (cel outC outs) :: RowsP rp1 rc1 rows :: [Prt.row 1 p0' (n + 1) cc0 (l.map (Value.int .i64)), CyP b hb c', HeapP hb s', RHeap rb s, Prt.one b13 (.cells #[.slice rp rl rc, .slice op ol oc, .slice ip il ic] ty_hand_Graph (0, 0))]) H11 := h11
    intro b93 hb93
    have h12 := h11.alloc (o := .cells #[.int .u64 0, .slice none 0 0, .slice none 0 0, .bool false] ty_cycle_Summary) hb93
    refine h12.put (i := 0) rfl (by simp) fun H13 h13 => h13.put (i := 0) rfl (by simp) fun H14 h14 => h14.put (i := 0) rfl (by simp) fun H15 h15 => h15.put (i := 0) rfl (by simp) fun H16 h16 => ?_
    have h16 : St H (Prt.one b93 (.cells #[.int .u64 0, .slice rp1 rows.length rc1, .slice op1 outs.length oc1, .bool true] ty_cycle_Summary (0, 0)) :: Prt.row 3 op1 outs.length oc1 (cel outC outs) :: RowsP rp1 rc1 rows :: [Prt.row 1 p0' (n + 1) cc0 (l.map (Value.int .i64)), CyP b hb c', HeapP hb s', RHeap rb s, Prt.one b13 (.cells #[.slice rp rl rc, .slice op ol oc, .slice ip il ic] ty_hand_Graph (0, 0))]) H16 := h16
    obtain ⟨qs, h17⟩ := h16.openEx (i := 2) (M := fun qs : List RcQ => [Prt.row 2 rp1 qs.length rc1 (cel rcRowC qs), Prt.list (qs.map rcRowP), Prt.pure (qs.map (·.1) = rows)]) rfl
    have hqs : qs.map (·.1) = rows := h17.fact (i := 2) rfl
    have hql : qs.length = rows.length := by rw [← hqs, List.length_map]
    obtain ⟨LL, hLL⟩ : ∃ LL : List Prt, LL = [Prt.row 2 rp1 qs.length rc1 (cel rcRowC qs), Prt.list (qs.map rcRowP), Prt.pure (qs.map (·.1) = rows), Prt.one b93 (.cells #[.int .u64 0, .slice rp1 rows.length rc1, .slice op1 outs.length oc1, .bool true] ty_cycle_Summary (0, 0)), Prt.row 3 op1 outs.length oc1 (cel outC outs), Prt.nil, Prt.row 1 p0' (n + 1) cc0 (l.map (Value.int .i64)), CyP b hb c', HeapP hb s', RHeap rb s, Prt.one b13 (.cells #[.slice rp rl rc, .slice op ol oc, .slice ip il ic] ty_hand_Graph (0, 0))] := ⟨_, rfl⟩
    have h17 : St H LL H16 := by rw [hLL]; exact h17
    have l0 : LL[0]? = some (Prt.row 2 rp1 qs.length rc1 (cel rcRowC qs)) := by rw [hLL]; rfl
    have l3 : LL[3]? = some (Prt.one b93 (.cells #[.int .u64 0, .slice rp1 rows.length rc1, .slice op1 outs.length oc1, .bool true] ty_cycle_Summary (0, 0))) := by rw [hLL]; rfl
    have l4 : LL[4]? = some (Prt.row 3 op1 outs.length oc1 (cel outC outs)) := by rw [hLL]; rfl
    have l6 : LL[6]? = some (Prt.row 1 p0' (n + 1) cc0 (l.map (Value.int .i64))) := by rw [hLL]; rfl
    have l10 : LL[10]? = some (Prt.one b13 (.cells #[.slice rp rl rc, .slice op ol oc, .slice ip il ic] ty_hand_Graph (0, 0))) := by rw [hLL]; rfl
    have rkC : ∀ {k : Int} {H' : Hp} {Q : Addr → Prop}, St H LL H' → 0 ≤ k → k ≤ n → (∀ z, hcell H' z = some (.int .i64 (rk l k)) → Q z) → idxA p0' (n + 1) k 1 Q := fun {k H' Q} h' h0 h1 hQ => by
      refine idx1 (d := (0 : Int)) (h'.row_rd l6) h0 (by omega) fun b o _ hcl => hQ _ ?_
      rw [hcl, rkd h0 h1]
    clear hLL h9 h10 h11 h12 h13 h14 h15 h16
    have hrl : rows.length = (s.obs.filter (rcHead s pd u)).length := by
      have := congrArg List.length hrows.heads
      simpa using this
    refine ⟨fun at_ i H' => ∃ y : Nat, i = ((y + 1 : Nat) : Int) ∧ y ≤ n ∧ at_ = ((s.obs.take y).filter (rcHead s pd u)).length ∧ St H LL H', fun _ i _ => ((n : Int) + 1 - i).toNat, ⟨0, rfl, by omega, rfl, h17⟩, ?_⟩
    clear h17
    rintro at_ i H17 ⟨y, rfl, hy, rfl, h17⟩
    by_cases hcy : ((y + 1 : Nat) : Int) ≤ n
    · refine bif_pos hcy ?_
      intro R104 hR104
      obtain ⟨cc, hob⟩ := hs.obs y (by omega)
      obtain ⟨hat, htk⟩ := filter_at (P := rcHead s pd u) hob
      have htl : ((s.obs.take y).filter (rcHead s pd u)).length ≤ y := Nat.le_trans (List.length_filter_le _ _) (by rw [List.length_take]; omega)
      have hR104 : ∀ H', St H LL H' → R104 (((s.obs.take (y + 1)).filter (rcHead s pd u)).length : Int) H' := fun H' h' => by
        refine hR104 _ H' ?_
        rw [wrap_i64 (by omega) (by omega)]
        exact ⟨⟨y + 1, by omega, by omega, rfl, h'⟩, by (try dsimp only); omega⟩
      refine ldSl_of (h17.cell l10 rfl) (ldSl_of (h17.cell l10 rfl) (ldSl_of (h17.cell l10 rfl) ?_))
      have v1 : IntKind.i64.wrap (((y + 1 : Nat) : Int) - 1) = (y : Int) := by rw [wrap_i64 (by omega) (by omega)]; omega
      rw [v1]
      refine DistC h17 ga gok (by omega) fun H18 h18 => ?_
      simp only [asI_mk', asB_mk, asP_mk, asA_mk, asM_mk, asSl_mk, asStr_mk, tup2_mk, tup3_mk, agg1_mk, agg2_mk, agg3_mk, agg4_mk, asAggm, unCons_mk, unNil_mk, asTup_mk, extractD0, extractD1, List.toList_toArray, nilP_mk, add_mk, Nat.zero_add, Nat.add_zero, condT, condF, Bool.not_true, Bool.not_false, Option.isNone_some, Option.isNone_none]
      by_cases hdi : grDist g y > 0
      rotate_left
      · refine bif_neg hdi ?_
        have hP : rcHead s pd u ⟨(y : Int) + 1, cc, grRefs g n y, [], grDist g y⟩ = false := by
          unfold rcHead
          rw [decide_eq_false (show ¬ 0 < grDist g y from hdi), Bool.false_and]
        rw [htk, hP] at hR104
        simp only [Bool.false_eq_true, if_false, List.append_nil] at hR104
        exact hR104 H18 h18
      refine bif_pos hdi (rkC h18 (by omega) hcy fun z hz => ldI_of hz ?_)
      have hown : rcOwn s pd u ((y : Int) + 1) = decide (u < rk l ((y + 1 : Nat) : Int)) := by
        have hyy : ((y + 1 : Nat) : Int) = (y : Int) + 1 := by omega
        rcases hrk.marks hd (k := ((y + 1 : Nat) : Int)) (by omega) with ⟨hm1, hm2⟩ | ⟨hm1, hm2⟩
        · rw [decide_eq_false (by omega)]
          cases ho : rcOwn s pd u ((y : Int) + 1)
          · rfl
          · obtain ⟨_, r, g', h, _⟩ := rcOwn_has ho
            rw [← hyy, hm1] at h
            cases h
        · by_cases hgt : u < rk l ((y + 1 : Nat) : Int)
          · rw [decide_eq_true hgt, rcOwn_iff]
            exact ⟨hs.has.2 (by omega), _, false, by rw [← hyy]; exact hm1, hgt⟩
          · rw [decide_eq_false hgt]
            cases ho : rcOwn s pd u ((y : Int) + 1)
            · rfl
            · obtain ⟨_, r, g', h, h'⟩ := rcOwn_has ho
              rw [← hyy, hm1] at h
              cases h
              omega
      have hP : rcHead s pd u ⟨(y : Int) + 1, cc, grRefs g n y, [], grDist g y⟩ = decide (u < rk l ((y + 1 : Nat) : Int)) := by
        unfold rcHead
        rw [decide_eq_true (show 0 < grDist g y from hdi), Bool.true_and]
        exact hown
      by_cases hgt : rk l ((y + 1 : Nat) : Int) > u
      rotate_left
      · refine bif_neg hgt ?_
        rw [htk, hP, decide_eq_false hgt] at hR104
        simp only [Bool.false_eq_true, if_false, List.append_nil] at hR104
        exact hR104 H18 h18
      refine bif_pos hgt ?_
      rw [decide_eq_true (show u < rk l ((y + 1 : Nat) : Int) from hgt)] at hP
      have hget := hat hP
      have hlt := ltOfGet hget
      have hrow : (rows.map (·.1))[((s.obs.take y).filter (rcHead s pd u)).length]? = some ((y : Int) + 1) := by
        rw [hrows.heads, List.getElem?_map, hget]
        rfl
      refine ldSl_of (h18.cell l3 rfl) (bif_neg (by omega) (ldSl_of (h18.cell l3 rfl) ?_))
      rw [← hql]
      refine idxS rcRowC_len ((0, []), (none, 0)) (h18.row_rd l0) (by omega) (by omega) (by omega) fun bb oo _ hl1 hcc => ?_
      have c0 := hcc 0 (by omega)
      rw [Int.toNat_natCast] at c0 hl1
      rw [← hqs, List.map_map, List.getElem?_map, List.getElem?_eq_getElem hl1] at hrow
      have hrow := Option.some.inj hrow
      rw [List.getD_eq_getElem?_getD, List.getElem?_eq_getElem hl1] at c0
      have c0 : hcell H18 _ = some (.int .u64 (qs[((s.obs.take y).filter (rcHead s pd u)).length].1.1)) := c0
      rw [show qs[((s.obs.take y).filter (rcHead s pd u)).length].1.1 = (y : Int) + 1 from hrow] at c0
      (try simp only [asI_mk', asB_mk, asP_mk, asA_mk, asM_mk, asSl_mk, asStr_mk, tup2_mk, tup3_mk, agg1_mk, agg2_mk, agg3_mk, agg4_mk, asAggm, unCons_mk, unNil_mk, asTup_mk, extractD0, extractD1, List.toList_toArray, nilP_mk, add_mk, Nat.zero_add, Nat.add_zero, condT, condF, Bool.not_true, Bool.not_false, Option.isNone_some, Option.isNone_none])
      refine ldI_of c0 ?_
      have v2 : IntKind.u64.wrap ((y + 1 : Nat) : Int) = (y : Int) + 1 := by rw [wrap_u64' (by omega) (by omega)]; omega
      rw [v2]
      refine bif_neqf rfl ?_
      have v3 : IntKind.i64.wrap ((((s.obs.take y).filter (rcHead s pd u)).length : Int) + 1) = (((s.obs.take (y + 1)).filter (rcHead s pd u)).length : Int) := by
        rw [wrap_i64 (by omega) (by omega), htk, if_pos hP, List.length_append]
        simp
      rw [v3]
      exact hR104 H18 h18
    have hyn : y = n := by omega
    refine bif_neg hcy ?_
    have hol : outs.length ≤ 600000 := by
      have := hltc.outs
      rw [htold] at this
      exact this
    have hat' : ((s.obs.take y).filter (rcHead s pd u)).length = rows.length := by rw [hyn, ← hs.len, List.take_length, hrl]
    refine ⟨fun i H' => ∃ z : Nat, i = z ∧ z ≤ outs.length ∧ St H LL H', fun i _ => ((outs.length : Int) - i).toNat, ⟨0, rfl, by omega, h17⟩, ?_⟩
    clear h17
    rintro i H18 ⟨z, rfl, hz, h18⟩
    refine ldSl_of (h18.cell l3 rfl) ?_
    by_cases hcz : (z : Int) < ((outs.length : Nat) : Int)
    rotate_left
    · refine bif_neg hcz (ldSl_of (h18.cell l3 rfl) (bif_eq (by rw [hat']) (ldB_of (h18.cell l3 rfl) ?_)))
      exact hK H18 h18.keep
    refine bif_pos hcz ?_
    have hzl : z < outs.length := by omega
    obtain ⟨e, he⟩ : ∃ e, e = outs[z] := ⟨_, rfl⟩
    have hef : e ∈ (outsOf pd).filter (fun e => decide (u < e.2)) := by rw [← houts, he]; exact List.getElem_mem hzl
    obtain ⟨hem0, hgt0⟩ := List.mem_filter.1 hef
    have hgt : u < e.2 := by simpa using hgt0
    have hem : e ∈ pd.met := (outsOf_ok hpd).2.subset hem0
    have hlook : mlook pd.met e.1 = some e.2 := mlook_of hpd.met hem
    have h40 := (hpd.ids e hem).2
    have outAt : ∀ {H' : Hp} {Q : Addr → Prop}, St H LL H' →
        (∀ a, (∀ H'' : Hp, St H LL H'' → hcell H'' a = some (.int .i64 e.1.n) ∧ hcell H'' (a.add 1) = some (.int .u64 e.1.s) ∧ hcell H'' (a.add 2) = some (.int .i64 e.2)) → Q a) → idxA op1 outs.length (z : Int) 3 Q := fun {H' Q} h' hQ => by
      refine idxS outC_len (noId, 0) (h'.row_rd l4) (by omega) (by omega) (by omega) fun b o hp hlz _ => hQ _ fun H'' h'' => ?_
      have ga : ∀ q, q < 3 → hcell H'' ⟨b, o + (z : Int).toNat * 3 + q, none⟩ = (outC e)[q]? := fun q hq => by
        have := (h''.row_rd l4).cel_at' outC_len (noId, 0) (i := (z : Int).toNat) hp hlz hq
        rw [this, List.getD_eq_getElem?_getD, List.getElem?_eq_getElem hlz]
        simp only [Int.toNat_natCast, Option.getD_some, ← he]
      exact ⟨ga 0 (by omega), ga 1 (by omega), ga 2 (by omega)⟩
    refine ⟨fun least k H' => ∃ v : Nat, k = v ∧ v ≤ n ∧ Lst g n l e.1 (fun k' _ => k' < v) least ∧ St H LL H', fun _ k _ => ((n : Int) - k).toNat, ⟨0, rfl, by omega, Lst.start, h18⟩, ?_⟩
    clear h18
    rintro least k H19 ⟨v, rfl, hv, hlst, h19⟩
    by_cases hcv : (v : Int) < n
    rotate_left
    · have hvn : v = n := by omega
      rw [hvn] at hlst
      have hle := hlst.done hs hrk hd hlook h40.2
      refine bif_neg hcv (ldSl_of (h19.cell l3 rfl) (outAt h19 fun a ha => ?_))
      simp only [asI_mk', asB_mk, asP_mk, asA_mk, asM_mk, asSl_mk, asStr_mk, tup2_mk, tup3_mk, agg1_mk, agg2_mk, agg3_mk, agg4_mk, asAggm, unCons_mk, unNil_mk, asTup_mk, extractD0, extractD1, List.toList_toArray, nilP_mk, add_mk, Nat.zero_add, Nat.add_zero, condT, condF, Bool.not_true, Bool.not_false, Option.isNone_some, Option.isNone_none]
      refine ldI_of (ha H19 h19).2.2 (bif_neqf hle (bif_neg (by omega) ?_))
      rw [wrap_i64 (by omega) (by omega)]
      exact ⟨⟨z + 1, by omega, by omega, h19⟩, by (try dsimp only); omega⟩
    refine bif_pos hcv ?_
    intro R141 hR141
    have hR141 : ∀ least H', Lst g n l e.1 (fun k' _ => k' < v + 1) least → St H LL H' → R141 least H' := fun least H' hl' h' => by
      refine hR141 _ H' ?_
      rw [wrap_i64 (by omega) (by omega)]
      exact ⟨⟨v + 1, by omega, by omega, hl', h'⟩, by (try dsimp only); omega⟩
    refine ⟨fun least j H' => ∃ w : Nat, j = w ∧ w ≤ 7 ∧ Lst g n l e.1 (fun k' j' => k' < v ∨ (k' = v ∧ j' < w)) least ∧ St H LL H', fun _ j _ => (8 - j).toNat, ⟨0, rfl, by omega, hlst.mono fun k' j' _ _ _ d => d.elim id fun d => absurd d.2 (Nat.not_lt_zero _), h19⟩, ?_⟩
    clear h19 hlst
    rintro least j H20 ⟨w, rfl, hw, hlst, h20⟩
    have v2 : IntKind.i64.wrap ((v : Int) + 1) = (v : Int) + 1 := wrap_i64 (by omega) (by omega)
    rw [v2]
    refine rkC h20 (by omega) (by omega) fun a ha => ldI_of ha ?_
    by_cases hr0 : rk l ((v : Int) + 1) ≥ 0
    rotate_left
    · refine bif_neg hr0 (hR141 least H20 (hlst.mono fun k' j' _ _ h0 d => ?_) h20)
      by_cases ek : k' = v
      · subst ek; exact absurd h0 hr0
      · exact .inl (by omega)
    refine bif_pos hr0 (ldSl_of (h20.cell l10 rfl) ((ga.st h20).row (i := v) (by omega) fun a q c' ha hrow => ldSl_of ha ?_))
    have all : grDeg g v ≤ w → R141 least H20 := fun hw' => hR141 least H20 (hlst.mono fun k' j' _ hj _ d => by
      by_cases ek : k' = v
      · subst ek; exact .inr ⟨rfl, by omega⟩
      · exact .inl (by omega)) h20
    by_cases hwl : (w : Int) < (((g.refs.getD v []).length : Nat) : Int)
    rotate_left
    · exact bif_neg hwl (all (by have := grDeg_le (g := g) (i := v); omega))
    refine bif_pos hwl ?_
    by_cases hw7 : (w : Int) < 7
    rotate_left
    · exact bif_neg hw7 (all (by have := grDeg_le (g := g) (i := v); omega))
    have hwd : w < grDeg g v := by unfold grDeg; split <;> omega
    refine bif_pos hw7 ?_
    clear all
    intro R158 hR158
    have hR158 : ∀ least H', Lst g n l e.1 (fun k' j' => (k' < v ∨ (k' = v ∧ j' < w)) ∨ (k' = v ∧ j' = w)) least → St H LL H' → R158 least H' := fun least H' hl' h' => by
      refine hR158 _ H' ?_
      rw [wrap_i64 (by omega) (by omega)]
      refine ⟨⟨w + 1, by omega, by omega, hl'.mono fun k' j' _ _ _ d => ?_, h'⟩, by (try dsimp only); omega⟩
      rcases d with d | ⟨d1, d2⟩
      · exact .inl (.inl d)
      · by_cases ej : j' = w
        · exact .inr ⟨d1, ej⟩
        · exact .inl (.inr ⟨d1, by omega⟩)
    refine ldSl_of (h20.cell l10 rfl) (ldSl_of (h20.cell l10 rfl) (ldSl_of (h20.cell l10 rfl) (ldSl_of (h20.cell l3 rfl) ?_)))
    refine outAt h20 fun a13 ha13 => ldI_of (ha13 H20 h20).1 (ldI_of (ha13 H20 h20).2.1 ?_)
    refine TargetC h20 ga gok (by omega) (by omega) (by omega) (by omega) (by omega) fun H21 h21 => ?_
    simp only [asI_mk', asB_mk, asP_mk, asA_mk, asM_mk, asSl_mk, asStr_mk, tup2_mk, tup3_mk, agg1_mk, agg2_mk, agg3_mk, agg4_mk, asAggm, unCons_mk, unNil_mk, asTup_mk, extractD0, extractD1, List.toList_toArray, nilP_mk, add_mk, Nat.zero_add, Nat.add_zero, condT, condF, Bool.not_true, Bool.not_false, Option.isNone_some, Option.isNone_none]
    refine ⟨ldI_of (ha13 H21 h21).1 (ldI_of (ha13 H21 h21).2.1 rfl), ldSl_of (h21.cell l3 rfl) rfl, idEq ?_⟩
    simp only [asI_mk', asB_mk, asP_mk, asA_mk, asM_mk, asSl_mk, asStr_mk, tup2_mk, tup3_mk, agg1_mk, agg2_mk, agg3_mk, agg4_mk, asAggm, unCons_mk, unNil_mk, asTup_mk, extractD0, extractD1, List.toList_toArray, nilP_mk, add_mk, Nat.zero_add, Nat.add_zero, condT, condF, Bool.not_true, Bool.not_false, Option.isNone_some, Option.isNone_none]
    by_cases hx : grTarget g n v w = e.1
    · have hx' : (⟨(grTarget g n v w).n, (grTarget g n v w).s⟩ : Id) = ⟨e.1.n, e.1.s⟩ := by rw [hx]
      rw [decide_eq_true hx']
      simp only [condT]
      refine rkC h21 (by omega) (by omega) fun a ha => ldI_of ha (hR158 _ H21 (hlst.hit (by omega) hwd hr0 hx) h21)
    · have hx' : ¬ (⟨(grTarget g n v w).n, (grTarget g n v w).s⟩ : Id) = ⟨e.1.n, e.1.s⟩ := fun h => hx (Id.ext (congrArg Id.n h) (congrArg Id.s h))
      rw [decide_eq_false hx']
      simp only [condF]
      exact hR158 _ H21 (hlst.miss hx) h21
  refine ⟨fun k H' => ∃ (y : Nat) (pre : List Int) (s' : Hs) (c' : Cy), k = y ∧ J s n [] 0 s' c' pre ∧ Quiet s' c' ∧ s'.last = n ∧ (c'.work = 64 ∧ c'.sus = u) ∧ cyLeft s' n c' + 64 * y ≤ 43 * A ∧ c'.lt (7 * (64 * y)) ∧
      St H [CyP b hb c', HeapP hb s', RHeap rb s, Prt.one b13 (.cells #[.slice rp rl rc, .slice op ol oc, .slice ip il ic] ty_hand_Graph (0, 0))] H',
    fun k _ => (100000 - k).toNat, ⟨0, [], s, c0, rfl, hJ0, hq0, hs.last, hw0, hleft, hlt0, h8⟩, ?_⟩
  clear h8 hJ0 hq0 hleft hlt0 hw0
  intro k H11 hI
  obtain ⟨y, pre, s', c', hky, hJ, hq, hls, hwk, hleft, hlt, h11⟩ := hI
  subst hky
  have ho := heap_ok h11 (i := 1) rfl
  have hc := cy_ok h11 (k := 0) rfl
  have hpos := left_pos (s := s') (n := n) (c := c')
  have hcy : (y : Int) < 100000 := by omega
  have hlb : 7 * (64 * y) ≤ 600000 := by omega
  rw [decide_eq_true hcy]
  simp only [condT]
  refine cyStepC h11 (i := 1) (k := 0) rfl rfl (by decide) hlt hlb fun qp qc H12 h12 => ?_
  have e2 : cyStep s' c' 0 = cySteps 0 64 s' c' [] := by unfold cyStep; rw [hwk.1]; rfl
  have hst := steps_quiet (stir := 0) (m := 64) (fr := []) ho hls hc hq
  have hjst := J.steps (m := 64) (fr := []) (pre := pre) hs.ok hs.last (fun k hk => hs.has.2 hk) ho hc (by rw [List.append_nil]; exact hJ)
  have hltn := Cy.lt.steps (stir := 0) (m := 64) (fr := []) ho hc hlt
  have hwkn := steps_work (stir := 0) (m := 64) (fr := []) ho hc
  rw [e2] at h12 ⊢
  simp only [asI_mk', asB_mk, asP_mk, asA_mk, asM_mk, asSl_mk, asStr_mk, tup2_mk, tup3_mk, agg1_mk, agg2_mk, agg3_mk, agg4_mk, asAggm, unCons_mk, unNil_mk, asTup_mk, extractD0, extractD1, List.toList_toArray, nilP_mk, add_mk, Nat.zero_add, Nat.add_zero, condT, condF, Bool.not_true, Bool.not_false, Option.isNone_some, Option.isNone_none]
  generalize cySteps 0 64 s' c' [] = res at *
  obtain ⟨⟨fr, e⟩, s2, c2⟩ := res
  have h13 : St H [CyP b hb c2, HeapP hb s2, RHeap rb s, Prt.one b13 (.cells #[.slice rp rl rc, .slice op ol oc, .slice ip il ic] ty_hand_Graph (0, 0))] H12 := h12.less
  rcases hst with ⟨hend, h0⟩ | ⟨hend, hless, hq', hl'⟩
  · rcases hjst with ⟨_, hje⟩ | ⟨hf, _⟩
    · simp only at hend hje
      rw [hend]
      simp only [condT]
      exact hR63 (pre ++ fr) s2 c2 H12 hje (hltn.mono (by omega)) (hwkn.2.trans hwk.2) h13
    · simp only at hend hf
      rw [hend] at hf; cases hf
  · rcases hjst with ⟨hf, _⟩ | ⟨_, hj⟩
    · simp only at hend hf
      rw [hend] at hf; cases hf
    · simp only at hend hj hless
      rw [hend]
      simp only [condF]
      rw [wrap_i64 (by omega) (by omega)]
      exact ⟨⟨y + 1, pre ++ fr, s2, c2, by omega, hj, hq', hl', ⟨hwkn.1.trans hwk.1, hwkn.2.trans hwk.2⟩, by omega, hltn.mono (by omega), h13⟩, by (try dsimp only); omega⟩

end Go.Proofs.YtohlnmenghbgbaaGreat
