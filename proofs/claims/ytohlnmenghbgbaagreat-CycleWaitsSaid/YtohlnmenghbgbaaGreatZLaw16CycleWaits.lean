/- Merged by merge.py: DenLaw16, DenLaw16CycleKnown, Law16, DenLaw16CycleWaits, DenLaw16CycleIdle, Law16w. No condition. -/
import Derived.Test.YtohlnmenghbgbaaGreatZNum
import Derived.Test.YtohlnmenghbgbaaGreatZCycle
import Derived.Test.YtohlnmenghbgbaaGreatZMark
import Derived.Test.YtohlnmenghbgbaaGreatZReach

namespace Go.Proofs.YtohlnmenghbgbaaGreat
open Go
set_option linter.unusedVariables false
set_option maxRecDepth 100000
def B_law16_known  (H : Hp) (K : Value → Hp → Prop) : Prop :=
 hcall PR f_heap_New ⟨[(.int .i64 1), (.int .i64 64), (.int .i64 4), (.int .u64 0)]⟩ H fun v1 Hx2 =>
 tup2 v1 fun v3 v4 =>
 asP v3 fun t5 =>
 asI .i64 v4 fun t6 =>
 (bif ((t6 : Int) != 0) then
 K (.bool false) Hx2
else
 (bif (Option.isNone (α := Addr) t5) then
 K (.bool false) Hx2
else
 hcall PR f_heap_Heap_Make ⟨[(.pointer t5), (.int .i64 1), (.int .i64 0)]⟩ Hx2 fun v7 Hx8 =>
 tup2 v7 fun v9 v10 =>
 asI .u64 v9 fun t11 =>
 asI .i64 v10 fun t12 =>
 hcall PR f_cycle_New ⟨[(.pointer t5), (.int .i64 1), (.int .i64 4), (.int .i64 3), (.int .i64 8)]⟩ Hx8 fun v13 Hx14 =>
 tup2 v13 fun v15 v16 =>
 asP v15 fun t17 =>
 asI .i64 v16 fun t18 =>
 (bif ((t18 : Int) != 0) then
 K (.bool false) Hx14
else
 (bif (Option.isNone (α := Addr) t17) then
 K (.bool false) Hx14
else
 hcall PR f_cycle_Cycle_Step ⟨[(.pointer t17), (.int .u64 0)]⟩ Hx14 fun v19 Hx20 =>
 tup2 v19 fun v21 v22 =>
 asSl v21 fun tP23 tL24 tC25 =>
 asB v22 fun t26 =>
 hcall PR f_cycle_Cycle_State ⟨[(.pointer t17)]⟩ Hx20 fun v27 Hx28 =>
 asI .i64 v27 fun t29 =>
 ∀ R30 : Bool → Hp → Prop, (∀ b32 : Bool, ∀ Hx31 : Hp, (
 hcall PR f_cycle_Cycle_State ⟨[(.pointer t17)]⟩ Hx31 fun v33 Hx34 =>
 asI .i64 v33 fun t35 =>
 hcall PR f_cycle_Cycle_Step ⟨[(.pointer t17), (.int .u64 0)]⟩ Hx34 fun v36 Hx37 =>
 tup2 v36 fun v38 v39 =>
 asSl v38 fun tP40 tL41 tC42 =>
 asB v39 fun t43 =>
 (bif (((tL24 : Int) : Int) == 0) then
 (bif (!t26) then
 (bif ((t29 : Int) == 1) then
 (bif b32 then
 (bif ((t35 : Int) == 2) then
 (bif (((tL41 : Int) : Int) == 1) then
 idxA tP40 tL41 0 1 fun el44 =>
 ldI .u64 el44 Hx37 fun t45 =>
 (bif ((t45 : Int) == 1) then
 (bif t43 then
 hcall PR f_cycle_Cycle_State ⟨[(.pointer t17)]⟩ Hx37 fun v46 Hx47 =>
 asI .i64 v46 fun t48 =>
 (bif ((t48 : Int) == 0) then
 hcall PR f_heap_Heap_Len ⟨[(.pointer t5)]⟩ Hx47 fun v49 Hx50 =>
 asI .i64 v49 fun t51 =>
 K (.bool ((t51 : Int) == 0)) Hx50
else
 K (.bool false) Hx47)
else
 K (.bool false) Hx37)
else
 K (.bool false) Hx37)
else
 K (.bool false) Hx37)
else
 K (.bool false) Hx37)
else
 K (.bool false) Hx37)
else
 K (.bool false) Hx37)
else
 K (.bool false) Hx37)
else
 K (.bool false) Hx37)) → R30 b32 Hx31) →
 hcall PR f_cycle_Cycle_Shake ⟨[(.pointer t17), (.int .i64 0), (.slice none 0 0)]⟩ Hx28 fun v52 Hx53 =>
 asB v52 fun t54 =>
 (bif t54 then
 hcall PR f_cycle_Cycle_Shake ⟨[(.pointer t17), (.int .i64 0), (.slice none 0 0)]⟩ Hx53 fun v55 Hx56 =>
 asB v55 fun t57 =>
 (bif t57 then
 hcall PR f_cycle_Cycle_Shake ⟨[(.pointer t17), (.int .i64 1), (.slice none 0 0)]⟩ Hx56 fun v58 Hx59 =>
 asB v58 fun t60 =>
 (bif t60 then
 hcall PR f_cycle_Cycle_Shake ⟨[(.pointer t17), (.int .i64 1), (.slice none 0 0)]⟩ Hx59 fun v61 Hx62 =>
 asB v61 fun t63 =>
 R30 (!t63) Hx62
else
 R30 false Hx59)
else
 R30 false Hx56)
else
 R30 false Hx53)))))
theorem E_law16_known  (H : Hp) (K : Value → Hp → Prop) : B_law16_known  H K = denF Tryz.prog Tryz.f15 (.seq none .n (.seq none .n (.seq none .n (.seq none .n (.seq none .n (.seq none .n (.seq none .n (.seq none .n (.seq (some ⟨[(8, .bool)], [1, 3, 5, 6, 7]⟩) .n .n))))))))) [] H K := by kernel_rfl
theorem den_law16_known  {H : Hp} {K : Value → Hp → Prop} (h : B_law16_known  H K) : hcall PR f_law16_known ⟨[]⟩ H K := denF_call Tryz.func15 PR_mixed (Eq.mp (E_law16_known  H K) h)

end Go.Proofs.YtohlnmenghbgbaaGreat

namespace Go.Proofs.YtohlnmenghbgbaaGreat
open Go
set_option linter.unusedVariables false
set_option maxRecDepth 100000
end Go.Proofs.YtohlnmenghbgbaaGreat

namespace Go.Proofs.YtohlnmenghbgbaaGreat
set_option linter.unusedSimpArgs false
set_option linter.unusedVariables false
open Go
section
variable {H0 H : Hp} {L M : List Prt} {i j k b hb : Nat} {s : Hs} {c : Cy} {K : Value → Hp → Prop}
/-! ## The example -/
def k16a : Cy := ⟨⟨1, [false, true], [false, false]⟩, ⟨[], [], [], 4, false, 1⟩, ⟨0, false, 0⟩, rcNew 0, 0, 1, 0, 3, 8, 0, 0, ⟨0, [], [], false⟩⟩
def k16b : Cy := ⟨⟨2, [true, true], [false, false]⟩, ⟨[], [], [], 4, false, 1⟩, ⟨0, false, 0⟩, rcNew 0, 0, 1, 0, 3, 8, 0, 0, ⟨0, [], [], false⟩⟩
def k16c : Cy := ⟨⟨2, [true, true], [true, false]⟩, ⟨[], [], [], 4, false, 1⟩, ⟨0, false, 0⟩, rcNew 0, 0, 1, 0, 3, 8, 0, 0, ⟨0, [], [], false⟩⟩
def k16d : Cy := ⟨⟨3, [true, true], [true, true]⟩, ⟨[], [], [], 4, false, 1⟩, ⟨0, false, 0⟩, rcNew 0, 0, 1, 0, 3, 8, 0, 0, ⟨0, [], [], false⟩⟩
def k16e (pl : Int) : Cy := ⟨⟨3, [true, true], [true, true]⟩, ⟨[], [], [], 4, false, 1⟩, ⟨1, false, 0⟩, ⟨3, 1, none, []⟩, pl, 1, 5, 3, 8, 0, 1, ⟨0, [], [], true⟩⟩
def k16f : Cy := ⟨⟨0, [false, false], [false, false]⟩, ⟨[], [], [], 4, false, 1⟩, ⟨1, false, 0⟩, ⟨3, 1, none, []⟩, 1, 1, 0, 3, 8, 0, 1, ⟨0, [], [], true⟩⟩
theorem known16_begin : cyStep s (newCy 1 4 3 8 1) 0 = (([], false), s, k16a) := steps_stop (n := 7) (unit0 rfl)
theorem known16_shake : cyShake s k16a 0 [] = (true, k16b) ∧ cyShake s k16b 0 [] = (true, k16c) ∧ cyShake s k16c 1 [] = (true, k16d) ∧ cyShake s k16d 1 [] = (false, k16d) := ⟨rfl, rfl, rfl, rfl⟩
theorem known16_run {y : Id} {c1 : Int} (ho : s.ok) (hobs : s.obs = [⟨1, c1, [y], [], 0⟩]) (hn : s.node = 1) (hl : s.last = 1) : cyStep s k16d 0 = (([1], true), (hFree s 1).2, k16f) := by
  have g1 : hGet s 1 = some ⟨1, c1, [y], [], 0⟩ := by unfold hGet; rw [hobs]; rfl
  have n0 : hNext s 0 = (1, true) := by unfold hNext; rw [hobs]; rfl
  have n1 : hNext s 1 = (0, false) := by unfold hNext; rw [hobs]; rfl
  have ho2 := ho.free 1
  have n2 : hNext (hFree s 1).2 1 = (0, false) := hNext_none ho2 fun k hk => by
    rw [hFree_get, if_neg (by omega)]
    cases hg : hGet s k with
    | none => rfl
    | some o =>
      have := hNext_false (s := s) (q := 1) (by rw [n1]) (k := k) (by rw [hg]; simp)
      omega
  have own : ∀ k, rcOwn s ⟨[], [], [], 4, false, 1⟩ 3 k = false := fun k => by
    cases ho : rcOwn s ⟨[], [], [], 4, false, 1⟩ 3 k
    · rfl
    · obtain ⟨_, r, g, h, _⟩ := rcOwn_has ho
      cases h
  obtain ⟨pa, hpa⟩ : ∃ pa : Ps, pa = ⟨[], [], [], 4, false, 1⟩ := ⟨_, rfl⟩
  have m0 : mkStep s pa ⟨0, false, 0⟩ = (true, pa, ⟨1, false, 0⟩) := by
    unfold mkStep mkSee
    rw [hpa]
    simp only [List.getLast?_nil, n0, g1]
    rfl
  have m1 : mkStep s pa ⟨1, false, 0⟩ = (false, pa, ⟨1, false, 0⟩) := by
    unfold mkStep
    rw [hpa]
    simp only [List.getLast?_nil, n1]
    rfl
  have r0 : rcStep s pa (rcNew 3) = (true, ⟨3, 1, none, []⟩) := by
    rw [hpa]
    unfold rcStep rcNew rcNext
    simp only [n0, g1, own]
    rfl
  have r1 : rcStep s pa ⟨3, 1, none, []⟩ = (false, ⟨3, 1, none, []⟩) := by
    rw [hpa]
    unfold rcStep rcNext
    simp only [n1]
    rfl
  obtain ⟨ca, hca⟩ : ∃ ca : Cy, ca = { k16d with st := 3, m := ⟨1, false, 0⟩ } := ⟨_, rfl⟩
  obtain ⟨cb, hcb⟩ : ∃ cb : Cy, cb = { k16d with st := 4, m := ⟨1, false, 0⟩, r := rcNew 3 } := ⟨_, rfl⟩
  obtain ⟨cc, hcc⟩ : ∃ cc : Cy, cc = { k16d with st := 4, m := ⟨1, false, 0⟩, r := ⟨3, 1, none, []⟩ } := ⟨_, rfl⟩
  have u1 : cyUnit s k16d 0 = ⟨none, 0, s, ca⟩ := by
    rw [unit23 (.inr rfl) rfl, hca]
    unfold cyMarks
    rw [show mkStep s ({ k16d with st := 3, m := ⟨0, false, 0⟩ } : Cy).p ({ k16d with st := 3, m := ⟨0, false, 0⟩ } : Cy).m = (true, pa, ⟨1, false, 0⟩) from by rw [← m0, hpa]; rfl]
    rw [if_pos rfl, hpa]
    rfl
  have u2 : cyUnit s ca 0 = ⟨none, 0, s, cb⟩ := by
    rw [unit3 (by rw [hca]; rfl)]
    unfold cyMarks
    rw [show mkStep s ca.p ca.m = (false, pa, ⟨1, false, 0⟩) from by rw [← m1, hpa, hca]; rfl]
    rw [if_neg (fun h => by cases h), hca, hcb, hpa]
    rfl
  have u3 : cyUnit s cb 0 = ⟨none, 0, s, cc⟩ := by
    rw [unit4 (by rw [hcb]; rfl)]
    unfold cyReaches
    rw [show mkStep s cb.p cb.m = (false, pa, ⟨1, false, 0⟩) from by rw [← m1, hpa, hcb]; rfl]
    rw [if_neg (fun h => by cases h)]
    simp only
    rw [show rcStep s pa cb.r = (true, ⟨3, 1, none, []⟩) from by rw [← r0, hcb]]
    rw [if_pos rfl, hcb, hcc, hpa]
    rfl
  have u4 : cyUnit s cc 0 = ⟨none, 0, s, k16e 0⟩ := by
    rw [unit4 (by rw [hcc]; rfl)]
    unfold cyReaches
    rw [show mkStep s cc.p cc.m = (false, pa, ⟨1, false, 0⟩) from by rw [← m1, hpa, hcc]; rfl]
    rw [if_neg (fun h => by cases h)]
    simp only
    rw [show rcStep s pa cc.r = (false, ⟨3, 1, none, []⟩) from by rw [← r1, hcc]]
    rw [if_neg (by decide), hcc, hpa, hl]
    rfl
  have s5 : swStep s pa 0 1 = ((1, true), (hFree s 1).2, pa, 1) := by
    unfold swStep
    rw [n0, if_neg (by decide), if_neg (by rw [hpa]; show ¬ (false = true); decide), hpa]
    rfl
  have s6 : swStep (hFree s 1).2 pa 1 1 = ((0, false), (hFree s 1).2, pa, 1) := by
    unfold swStep
    rw [n2, if_pos (.inl rfl)]
  have u5 : cyUnit s (k16e 0) 0 = ⟨none, 1, (hFree s 1).2, k16e 1⟩ := by
    have e : swStep s (k16e 0).p (k16e 0).pl (k16e 0).e = ((1, true), (hFree s 1).2, pa, 1) := by rw [← s5, hpa]; rfl
    rw [unit6 rfl (by rw [e]), e, hpa]
    rfl
  have u6 : cyUnit (hFree s 1).2 (k16e 1) 0 = ⟨some true, 0, (hFree s 1).2, k16f⟩ := by
    have e : swStep (hFree s 1).2 (k16e 1).p (k16e 1).pl (k16e 1).e = ((0, false), (hFree s 1).2, pa, 1) := by rw [← s6, hpa]; rfl
    rw [unit5 rfl (by rw [e]), e, hpa]
    rfl
  show cySteps 0 8 s k16d [] = _
  rw [steps_go u1, steps_go u2, steps_go u3, steps_go u4, steps_go u5, steps_stop u6]
  rfl

theorem known16_ok (h : St H0 L H) (hK : ∀ H', St H0 L H' → K (.bool true) H') : hcall PR f_law16_known ⟨[]⟩ H K := by
  apply den_law16_known
  unfold B_law16_known
  refine hNewOk (m := 4) (by decide) (by decide) (by decide) (by decide) (by decide) h fun hb H1 h1 => ?_
  simp only [asI_mk', asB_mk, asP_mk, asA_mk, asM_mk, asSl_mk, asStr_mk, tup2_mk, tup3_mk, agg1_mk, agg2_mk, agg3_mk, agg4_mk, asAggm, unCons_mk, unNil_mk, asTup_mk, extractD0, extractD1, List.toList_toArray, nilP_mk, add_mk, Nat.zero_add, Nat.add_zero, condT, condF, Bool.not_true, Bool.not_false, Option.isNone_some, Option.isNone_none]
  refine bif_neqf rfl ?_
  obtain ⟨s1, c1, a0, a1, a2, a3, a4, a5, a6⟩ := hMake_good' (s := newHs 1 4 0 4) (r := 1) (v := 0) (heap_ok h1 (i := 0) rfl) (by omega) (by omega) (by decide) (by decide) (by show 0 < frees (List.replicate 4 noBlk); rw [frees_new]; omega)
  refine hMakeC h1 (i := 0) rfl (by decide) (by decide) fun H2 h2 => ?_
  rw [a0] at h2 ⊢
  have h2 : St H0 (HeapP hb s1 :: L) H2 := h2
  simp only [asI_mk', asB_mk, asP_mk, asA_mk, asM_mk, asSl_mk, asStr_mk, tup2_mk, tup3_mk, agg1_mk, agg2_mk, agg3_mk, agg4_mk, asAggm, unCons_mk, unNil_mk, asTup_mk, extractD0, extractD1, List.toList_toArray, nilP_mk, add_mk, Nat.zero_add, Nat.add_zero, condT, condF, Bool.not_true, Bool.not_false, Option.isNone_some, Option.isNone_none]
  have a3 : s1.node = 1 := a3
  have a4 : s1.obs = [⟨1, c1, [noId], [], 0⟩] := a4
  have al : s1.last = 1 := by first | exact a1 | exact a2 | exact a5 | exact a6
  refine cyNewC h2 (i := 0) rfl a3 (by omega) (by omega) (by omega) (by omega) fun b H3 h3 => ?_
  rw [al] at h3
  simp only [asI_mk', asB_mk, asP_mk, asA_mk, asM_mk, asSl_mk, asStr_mk, tup2_mk, tup3_mk, agg1_mk, agg2_mk, agg3_mk, agg4_mk, asAggm, unCons_mk, unNil_mk, asTup_mk, extractD0, extractD1, List.toList_toArray, nilP_mk, add_mk, Nat.zero_add, Nat.add_zero, condT, condF, Bool.not_true, Bool.not_false, Option.isNone_some, Option.isNone_none]
  refine bif_neqf rfl ?_
  (try simp only [Option.isNone_some, condF])
  have ho := heap_ok h3 (i := 1) rfl
  refine cyStepC h3 (i := 1) (k := 0) rfl rfl (by decide) (n := 0) newCy_lt (by omega) fun fp fc H4 h4 => ?_
  rw [known16_begin] at h4 ⊢
  have h4 : St H0 (CyP b hb k16a :: HeapP hb s1 :: L) H4 := h4.less
  simp only [asI_mk', asB_mk, asP_mk, asA_mk, asM_mk, asSl_mk, asStr_mk, tup2_mk, tup3_mk, agg1_mk, agg2_mk, agg3_mk, agg4_mk, asAggm, unCons_mk, unNil_mk, asTup_mk, extractD0, extractD1, List.toList_toArray, nilP_mk, add_mk, Nat.zero_add, Nat.add_zero, condT, condF, Bool.not_true, Bool.not_false, Option.isNone_some, Option.isNone_none]
  refine cyStateC h4 (k := 0) rfl ?_
  simp only [asI_mk', asB_mk, asP_mk, asA_mk, asM_mk, asSl_mk, asStr_mk, tup2_mk, tup3_mk, agg1_mk, agg2_mk, agg3_mk, agg4_mk, asAggm, unCons_mk, unNil_mk, asTup_mk, extractD0, extractD1, List.toList_toArray, nilP_mk, add_mk, Nat.zero_add, Nat.add_zero, condT, condF, Bool.not_true, Bool.not_false, Option.isNone_some, Option.isNone_none]
  intro R30 hR30
  obtain ⟨q1, q2, q3, q4⟩ := known16_shake (s := s1)
  refine cyShakeC (held := []) h4 (i := 1) (k := 0) rfl rfl (by decide) (fun _ _ _ => rd_nil) (by simp) fun H5 h5 => ?_
  rw [q1] at h5 ⊢
  have h5 : St H0 (CyP b hb k16b :: HeapP hb s1 :: L) H5 := h5
  simp only [asI_mk', asB_mk, asP_mk, asA_mk, asM_mk, asSl_mk, asStr_mk, tup2_mk, tup3_mk, agg1_mk, agg2_mk, agg3_mk, agg4_mk, asAggm, unCons_mk, unNil_mk, asTup_mk, extractD0, extractD1, List.toList_toArray, nilP_mk, add_mk, Nat.zero_add, Nat.add_zero, condT, condF, Bool.not_true, Bool.not_false, Option.isNone_some, Option.isNone_none]
  refine cyShakeC (held := []) h5 (i := 1) (k := 0) rfl rfl (by decide) (fun _ _ _ => rd_nil) (by simp) fun H6 h6 => ?_
  rw [q2] at h6 ⊢
  have h6 : St H0 (CyP b hb k16c :: HeapP hb s1 :: L) H6 := h6
  simp only [asI_mk', asB_mk, asP_mk, asA_mk, asM_mk, asSl_mk, asStr_mk, tup2_mk, tup3_mk, agg1_mk, agg2_mk, agg3_mk, agg4_mk, asAggm, unCons_mk, unNil_mk, asTup_mk, extractD0, extractD1, List.toList_toArray, nilP_mk, add_mk, Nat.zero_add, Nat.add_zero, condT, condF, Bool.not_true, Bool.not_false, Option.isNone_some, Option.isNone_none]
  refine cyShakeC (held := []) h6 (i := 1) (k := 0) rfl rfl (by decide) (fun _ _ _ => rd_nil) (by simp) fun H7 h7 => ?_
  rw [q3] at h7 ⊢
  have h7 : St H0 (CyP b hb k16d :: HeapP hb s1 :: L) H7 := h7
  simp only [asI_mk', asB_mk, asP_mk, asA_mk, asM_mk, asSl_mk, asStr_mk, tup2_mk, tup3_mk, agg1_mk, agg2_mk, agg3_mk, agg4_mk, asAggm, unCons_mk, unNil_mk, asTup_mk, extractD0, extractD1, List.toList_toArray, nilP_mk, add_mk, Nat.zero_add, Nat.add_zero, condT, condF, Bool.not_true, Bool.not_false, Option.isNone_some, Option.isNone_none]
  refine cyShakeC (held := []) h7 (i := 1) (k := 0) rfl rfl (by decide) (fun _ _ _ => rd_nil) (by simp) fun H8 h8 => ?_
  rw [q4] at h8 ⊢
  have h8 : St H0 (CyP b hb k16d :: HeapP hb s1 :: L) H8 := h8
  simp only [asI_mk', asB_mk, asP_mk, asA_mk, asM_mk, asSl_mk, asStr_mk, tup2_mk, tup3_mk, agg1_mk, agg2_mk, agg3_mk, agg4_mk, asAggm, unCons_mk, unNil_mk, asTup_mk, extractD0, extractD1, List.toList_toArray, nilP_mk, add_mk, Nat.zero_add, Nat.add_zero, condT, condF, Bool.not_true, Bool.not_false, Option.isNone_some, Option.isNone_none]
  refine hR30 true H8 ?_
  refine cyStateC h8 (k := 0) rfl ?_
  simp only [asI_mk', asB_mk, asP_mk, asA_mk, asM_mk, asSl_mk, asStr_mk, tup2_mk, tup3_mk, agg1_mk, agg2_mk, agg3_mk, agg4_mk, asAggm, unCons_mk, unNil_mk, asTup_mk, extractD0, extractD1, List.toList_toArray, nilP_mk, add_mk, Nat.zero_add, Nat.add_zero, condT, condF, Bool.not_true, Bool.not_false, Option.isNone_some, Option.isNone_none]
  have hlt : k16d.lt 0 := ⟨⟨Nat.le_refl _, Nat.le_refl _⟩, ⟨fun w hw => by (cases hw), Nat.le_refl _, fun r hr => by (cases hr)⟩, Nat.le_refl _, fun r hr => by (cases hr), Nat.le_refl _⟩
  refine cyStepC h8 (i := 1) (k := 0) rfl rfl (by decide) hlt (by omega) fun fp2 fc2 H9 h9 => ?_
  rw [known16_run ho a4 a3 al] at h9 ⊢
  have h9 : St H0 (Prt.row 1 fp2 1 fc2 [.int .u64 1] :: CyP b hb k16f :: HeapP hb (hFree s1 1).2 :: L) H9 := h9
  simp only [asI_mk', asB_mk, asP_mk, asA_mk, asM_mk, asSl_mk, asStr_mk, tup2_mk, tup3_mk, agg1_mk, agg2_mk, agg3_mk, agg4_mk, asAggm, unCons_mk, unNil_mk, asTup_mk, extractD0, extractD1, List.toList_toArray, nilP_mk, add_mk, Nat.zero_add, Nat.add_zero, condT, condF, Bool.not_true, Bool.not_false, Option.isNone_some, Option.isNone_none]
  refine bif_eq rfl (bif_eq rfl (bif_eq rfl (bif_eq rfl ?_)))
  refine idxS (g := fun x : Int => [Value.int .u64 x]) (l := [1]) (fun _ => rfl) 0 (h9.row_rd (i := 0) rfl) (by omega) (by omega) (by simp) fun b1 o1 _ hl1 hcc => ?_
  refine ldI_of (hcc 0 (by omega)) (bif_eq rfl ?_)
  refine cyStateC h9 (k := 1) rfl ?_
  simp only [asI_mk', asB_mk, asP_mk, asA_mk, asM_mk, asSl_mk, asStr_mk, tup2_mk, tup3_mk, agg1_mk, agg2_mk, agg3_mk, agg4_mk, asAggm, unCons_mk, unNil_mk, asTup_mk, extractD0, extractD1, List.toList_toArray, nilP_mk, add_mk, Nat.zero_add, Nat.add_zero, condT, condF, Bool.not_true, Bool.not_false, Option.isNone_some, Option.isNone_none]
  refine bif_eq rfl (hLen h9 (i := 2) rfl ?_)
  simp only [asI_mk', asB_mk, asP_mk, asA_mk, asM_mk, asSl_mk, asStr_mk, tup2_mk, tup3_mk, agg1_mk, agg2_mk, agg3_mk, agg4_mk, asAggm, unCons_mk, unNil_mk, asTup_mk, extractD0, extractD1, List.toList_toArray, nilP_mk, add_mk, Nat.zero_add, Nat.add_zero, condT, condF, Bool.not_true, Bool.not_false, Option.isNone_some, Option.isNone_none]
  have hz := hFree_len ho (k := 1) (by unfold hGet; rw [a4]; simp)
  rw [a4] at hz
  have hz : (hFree s1 1).2.obs.length = 0 := by simpa using hz
  rw [hz]
  exact hK H9 (St.lesses (M := [_, _, _]) h9)
end
end Go.Proofs.YtohlnmenghbgbaaGreat

namespace Go.Proofs.YtohlnmenghbgbaaGreat
open Go
set_option linter.unusedVariables false
set_option maxRecDepth 100000
def B_law16_CycleWaits (gRefsP1 : Option Addr) (gRefsL2 : Nat) (gRefsC3 : Nat) (gOutP4 : Option Addr) (gOutL5 : Nat) (gOutC6 : Nat) (gInP7 : Option Addr) (gInL8 : Nat) (gInC9 : Nat) (mutators10 : Int) (missing11 : Int) (steps12 : Int) (H : Hp) (K : Value → Hp → Prop) : Prop :=
 newB (.cells #[(.slice gRefsP1 gRefsL2 gRefsC3), (.slice gOutP4 gOutL5 gOutC6), (.slice gInP7 gInL8 gInC9)] ty_hand_Graph) H fun b13 Hx14 =>
 ldSl ⟨b13, 0, none⟩ Hx14 fun RefsP15 RefsL16 RefsC17 =>
 ldSl ⟨b13, 1, none⟩ Hx14 fun OutP18 OutL19 OutC20 =>
 ldSl ⟨b13, 2, none⟩ Hx14 fun InP21 InL22 InC23 =>
 hcall PR f_hand_Graph_Heaps ⟨[(.agg #[(.slice RefsP15 RefsL16 RefsC17), (.slice OutP18 OutL19 OutC20), (.slice InP21 InL22 InC23)]), (.int .i64 20)]⟩ Hx14 fun v24 Hx25 =>
 tup2 v24 fun v26 v27 =>
 asP v26 fun t28 =>
 asP v27 fun t29 =>
 hcall PR f_law16_known ⟨[]⟩ Hx25 fun v30 Hx31 =>
 asB v30 fun t32 =>
 (bif (!t32) then
 K (.bool false) Hx31
else
 (bif (Option.isNone (α := Addr) t28) then
 K (.bool false) Hx31
else
 hcall PR f_hand_Pick ⟨[(.int .i64 mutators10), (.int .i64 4)]⟩ Hx31 fun v33 Hx34 =>
 asI .i64 v33 fun t35 =>
 hcall PR f_cycle_New ⟨[(.pointer t28), (.int .i64 (IntKind.i64.wrap (1 + t35))), (.int .i64 3), (.int .i64 2), (.int .i64 5)]⟩ Hx34 fun v36 Hx37 =>
 tup2 v36 fun v38 v39 =>
 asP v38 fun t40 =>
 asI .i64 v39 fun t41 =>
 (bif ((t41 : Int) != 0) then
 K (.bool false) Hx37
else
 (bif (Option.isNone (α := Addr) t40) then
 K (.bool false) Hx37
else
 hcall PR f_hand_Pick ⟨[(.int .i64 missing11), (.int .i64 (IntKind.i64.wrap ((IntKind.i64.wrap (1 + t35)) + 1)))]⟩ Hx37 fun v42 Hx43 =>
 asI .i64 v42 fun t44 =>
 hcall PR f_cycle_Cycle_Step ⟨[(.pointer t40), (.int .u64 0)]⟩ Hx43 fun v45 Hx46 =>
 tup2 v45 fun v47 v48 =>
 asSl v47 fun tP49 tL50 tC51 =>
 asB v48 fun t52 =>
 ∃ (I53 : Int → Hp → Prop) (m54 : Int → Hp → Nat), I53 0 Hx46 ∧ ∀ round56 : Int, ∀ Hx55 : Hp, I53 round56 Hx55 →
 (bif (decide ((round56 : Int) < 3)) then
 ∃ (I57 : Int → Hp → Prop) (m58 : Int → Hp → Nat), I57 0 Hx55 ∧ ∀ m60 : Int, ∀ Hx59 : Hp, I57 m60 Hx59 →
 (bif (decide ((m60 : Int) ≤ (IntKind.i64.wrap (1 + t35)))) then
 ∀ R61 : Hp → Prop, (∀ Hx62 : Hp, (
 I57 (IntKind.i64.wrap (m60 + 1)) Hx62 ∧ m58 (IntKind.i64.wrap (m60 + 1)) Hx62 < m58 m60 Hx59) → R61 Hx62) →
 (bif ((m60 : Int) != t44) then
 hcall PR f_cycle_Cycle_Shake ⟨[(.pointer t40), (.int .i64 m60), (.slice none 0 0)]⟩ Hx59 fun v63 Hx64 =>
 asB v63 fun t65 =>
 R61 Hx64
else
 R61 Hx59)
else
 ∃ (I66 : Int → Hp → Prop) (m67 : Int → Hp → Nat), I66 0 Hx59 ∧ ∀ k69 : Int, ∀ Hx68 : Hp, I66 k69 Hx68 →
 hcall PR f_hand_Pick ⟨[(.int .i64 steps12), (.int .i64 20)]⟩ Hx68 fun v70 Hx71 =>
 asI .i64 v70 fun t72 =>
 (bif (decide ((k69 : Int) < t72)) then
 hcall PR f_cycle_Cycle_Step ⟨[(.pointer t40), (.int .u64 0)]⟩ Hx71 fun v73 Hx74 =>
 tup2 v73 fun v75 v76 =>
 asSl v75 fun tP77 tL78 tC79 =>
 asB v76 fun t80 =>
 (bif (decide (((tL78 : Int) : Int) > 0)) then
 K (.bool false) Hx74
else
 (bif t80 then
 K (.bool false) Hx74
else
 I66 (IntKind.i64.wrap (k69 + 1)) Hx74 ∧ m67 (IntKind.i64.wrap (k69 + 1)) Hx74 < m67 k69 Hx68))
else
 I53 (IntKind.i64.wrap (round56 + 1)) Hx71 ∧ m54 (IntKind.i64.wrap (round56 + 1)) Hx71 < m54 round56 Hx55))
else
 nilP t29 fun ta81 =>
 ldI .u64 (ta81.add 2) Hx55 fun Last82 =>
 hcall PR f_heap_Heap_Len ⟨[(.pointer t28)]⟩ Hx55 fun v83 Hx84 =>
 asI .i64 v83 fun t85 =>
 (ldI .u64 (ta81.add 2) Hx84 fun Last86 =>
 ((.int .u64 Last86) : Value) = (.int .u64 Last82)) ∧
 (bif ((t85 : Int) == (IntKind.i64.wrap Last82)) then
 hcall PR f_cycle_Cycle_State ⟨[(.pointer t40)]⟩ Hx84 fun v87 Hx88 =>
 asI .i64 v87 fun t89 =>
 (bif ((t89 : Int) == 1) then
 hcall PR f_cycle_Cycle_Turns ⟨[(.pointer t40)]⟩ Hx88 fun v90 Hx91 =>
 asI .u64 v90 fun t92 =>
 K (.bool ((t92 : Int) == 1)) Hx91
else
 hcall PR f_cycle_Cycle_State ⟨[(.pointer t40)]⟩ Hx88 fun v93 Hx94 =>
 asI .i64 v93 fun t95 =>
 (bif ((t95 : Int) == 2) then
 hcall PR f_cycle_Cycle_Turns ⟨[(.pointer t40)]⟩ Hx94 fun v96 Hx97 =>
 asI .u64 v96 fun t98 =>
 K (.bool ((t98 : Int) == 1)) Hx97
else
 K (.bool false) Hx94))
else
 K (.bool false) Hx84))))))
theorem E_law16_CycleWaits (gRefsP1 : Option Addr) (gRefsL2 : Nat) (gRefsC3 : Nat) (gOutP4 : Option Addr) (gOutL5 : Nat) (gOutC6 : Nat) (gInP7 : Option Addr) (gInL8 : Nat) (gInC9 : Nat) (mutators10 : Int) (missing11 : Int) (steps12 : Int) (H : Hp) (K : Value → Hp → Prop) : B_law16_CycleWaits gRefsP1 gRefsL2 gRefsC3 gOutP4 gOutL5 gOutC6 gInP7 gInL8 gInC9 mutators10 missing11 steps12 H K = denF Tryz.prog Tryz.f9 (.seq none .n (.seq none .n (.seq none .n (.seq none .n (.seq none .n (.seq none .n (.seq none .n (.seq none .n (.seq none (.seq none .n (.sub (.loop ⟨[(14, .int .i64)], [2, 3, 9, 10, 11, 12]⟩ (.seq none .n (.seq none (.sub (.seq none (.seq none .n (.sub (.loop ⟨[(15, .int .i64)], [2, 3, 9, 10, 11, 12, 14]⟩ (.seq none .n (.seq (some ⟨[], [2, 3, 9, 10, 11, 12, 14, 15]⟩) .n .n))))) (.seq none .n (.sub (.loop ⟨[(16, .int .i64)], [2, 3, 9, 10, 11, 12, 14]⟩ .n))))) .n))))) .n))))))))) [(.agg #[(.slice gRefsP1 gRefsL2 gRefsC3), (.slice gOutP4 gOutL5 gOutC6), (.slice gInP7 gInL8 gInC9)]), (.int .i64 mutators10), (.int .i64 missing11), (.int .i64 steps12)] H K := by kernel_rfl
theorem den_law16_CycleWaits {gRefsP1 : Option Addr} {gRefsL2 : Nat} {gRefsC3 : Nat} {gOutP4 : Option Addr} {gOutL5 : Nat} {gOutC6 : Nat} {gInP7 : Option Addr} {gInL8 : Nat} {gInC9 : Nat} {mutators10 : Int} {missing11 : Int} {steps12 : Int} {H : Hp} {K : Value → Hp → Prop} (h : B_law16_CycleWaits gRefsP1 gRefsL2 gRefsC3 gOutP4 gOutL5 gOutC6 gInP7 gInL8 gInC9 mutators10 missing11 steps12 H K) : hcall PR f_law16_CycleWaits ⟨[(.agg #[(.slice gRefsP1 gRefsL2 gRefsC3), (.slice gOutP4 gOutL5 gOutC6), (.slice gInP7 gInL8 gInC9)]), (.int .i64 mutators10), (.int .i64 missing11), (.int .i64 steps12)]⟩ H K := denF_call Tryz.func9 PR_mixed (Eq.mp (E_law16_CycleWaits gRefsP1 gRefsL2 gRefsC3 gOutP4 gOutL5 gOutC6 gInP7 gInL8 gInC9 mutators10 missing11 steps12 H K) h)

end Go.Proofs.YtohlnmenghbgbaaGreat

namespace Go.Proofs.YtohlnmenghbgbaaGreat
open Go
set_option linter.unusedVariables false
set_option maxRecDepth 100000
end Go.Proofs.YtohlnmenghbgbaaGreat

namespace Go.Proofs.YtohlnmenghbgbaaGreat
set_option linter.unusedSimpArgs false
set_option linter.unusedVariables false
open Go
/-- It waits for one that has not answered. -/
structure Waits (c : Cy) (m : Nat) : Prop where
  st : c.st = 0
  ph : c.sk.ph = 1 ∨ c.sk.ph = 2
  sc : c.sk.sc[m]? = some false
  turns : c.p.turns = 1
theorem ans_waits {q : Sk} {k : Int} {m : Nat} (hk : k ≠ m) (hp : q.ph = 1 ∨ q.ph = 2) (hs : q.sc[m]? = some false) : ((q.ans k).1.ph = 1 ∨ (q.ans k).1.ph = 2) ∧ (q.ans k).1.sc[m]? = some false := by
  unfold Sk.ans
  split
  · exact ⟨hp, hs⟩
  · rename_i h0
    split
    · split
      · exact ⟨hp, hs⟩
      · refine ⟨?_, hs⟩
        simp only
        split
        · exact .inr rfl
        · exact .inl rfl
    · split
      · split
        · exact ⟨hp, hs⟩
        · have hkm : k.toNat ≠ m := by omega
          have h1 : (q.sc.set k.toNat true)[m]? = some false := by rw [List.getElem?_set_ne hkm]; exact hs
          refine ⟨.inr ?_, h1⟩
          simp only
          rw [if_neg]
          intro hall
          have := List.all_eq_true.1 hall false (List.mem_of_getElem? h1)
          cases this
      · exact ⟨hp, hs⟩
theorem Waits.state {c : Cy} {m : Nat} (h : Waits c m) : c.state = 1 ∨ c.state = 2 := by
  have h1 := h.ph
  unfold Cy.state
  rw [if_neg (by rw [h.st]; decide)]
  by_cases e : c.sk.ph = 1
  · rw [if_pos e]; omega
  · rw [if_neg e, if_pos (by omega)]; omega
theorem Waits.step {s : Hs} {c : Cy} {m : Nat} {stir : Int} (h : Waits c m) (hw : 1 ≤ c.work) : cyStep s c stir = (([], false), s, c) := by
  unfold cyStep
  obtain ⟨n, hn⟩ : ∃ n, c.work.toNat = n + 1 := ⟨c.work.toNat - 1, by omega⟩
  rw [hn]
  exact steps_stop (unit12 h.state (by have := h.ph; omega))
theorem Waits.shake {s : Hs} {c : Cy} {m : Nat} {k : Int} (h : Waits c m) (hk : k ≠ m) : Waits (cyShake s c k []).2 m := by
  have h1 := ans_waits hk h.ph h.sc
  unfold cyShake
  split
  · exact ⟨h.st, h1.1, h1.2, h.turns⟩
  · exact ⟨h.st, h1.1, h1.2, h.turns⟩
theorem shake_work {s : Hs} {c : Cy} {k : Int} {l : List Id} : (cyShake s c k l).2.work = c.work ∧ (cyShake s c k l).2.sus = c.sus := by unfold cyShake; split <;> exact ⟨rfl, rfl⟩

theorem CycleWaits_ok {rp op ip : Option Addr} {rl rc ol oc il ic : Nat} {g : Gr} {mutators missing steps : Int} {H : Hp} {K : Value → Hp → Prop} (ga : GrA H rp rl op ol ip il g) (gok : g.ok) (hmu : IntKind.min .i64 ≤ mutators ∧ mutators ≤ IntKind.max .i64) (hmi : IntKind.min .i64 ≤ missing ∧ missing ≤ IntKind.max .i64) (hst : IntKind.min .i64 ≤ steps ∧ steps ≤ IntKind.max .i64)
    (hK : ∀ H', Keep Nothing H H' → K (.bool true) H') :
    hcall PR f_law16_CycleWaits ⟨[.agg #[.slice rp rl rc, .slice op ol oc, .slice ip il ic], .int .i64 mutators, .int .i64 missing, .int .i64 steps]⟩ H K := by
  apply den_law16_CycleWaits
  unfold B_law16_CycleWaits
  intro b13 hb13
  have h1 := (St.start H).alloc (o := .cells #[.slice rp rl rc, .slice op ol oc, .slice ip il ic] ty_hand_Graph) hb13
  refine ldSl_of (h1.cell (i := 0) rfl rfl) (ldSl_of (h1.cell (i := 0) rfl rfl) (ldSl_of (h1.cell (i := 0) rfl rfl) ?_))
  refine HeapsC (most := 20) (ga.st h1) gok (by omega) fun hb rb s H2 hs h2 => ?_
  have h2 := h1.join h2
  have hn : grSize g 20 ≤ 40 := by unfold grSize; split <;> omega
  generalize grSize g 20 = n at *
  simp only [asI_mk', asB_mk, asP_mk, asA_mk, asM_mk, asSl_mk, asStr_mk, tup2_mk, tup3_mk, agg1_mk, agg2_mk, agg3_mk, agg4_mk, asAggm, unCons_mk, unNil_mk, asTup_mk, extractD0, extractD1, List.toList_toArray, nilP_mk, add_mk, Nat.zero_add, Nat.add_zero, condT, condF, Bool.not_true, Bool.not_false, Option.isNone_some, Option.isNone_none]
  refine known16_ok h2 fun H3 h3 => ?_
  simp only [asI_mk', asB_mk, asP_mk, asA_mk, asM_mk, asSl_mk, asStr_mk, tup2_mk, tup3_mk, agg1_mk, agg2_mk, agg3_mk, agg4_mk, asAggm, unCons_mk, unNil_mk, asTup_mk, extractD0, extractD1, List.toList_toArray, nilP_mk, add_mk, Nat.zero_add, Nat.add_zero, condT, condF, Bool.not_true, Bool.not_false, Option.isNone_some, Option.isNone_none]
  have p1 := pick_lt (n := mutators) (m := 4) (by omega)
  refine Pick_ok (by omega) (by omega) ?_
  simp only [asI_mk', asB_mk, asP_mk, asA_mk, asM_mk, asSl_mk, asStr_mk, tup2_mk, tup3_mk, agg1_mk, agg2_mk, agg3_mk, agg4_mk, asAggm, unCons_mk, unNil_mk, asTup_mk, extractD0, extractD1, List.toList_toArray, nilP_mk, add_mk, Nat.zero_add, Nat.add_zero, condT, condF, Bool.not_true, Bool.not_false, Option.isNone_some, Option.isNone_none]
  generalize pick mutators 4 = a at *
  have w1 : IntKind.i64.wrap (1 + a) = 1 + a := wrap_i64 (by omega) (by omega)
  have w2 : IntKind.i64.wrap (1 + a + 1) = 1 + a + 1 := wrap_i64 (by omega) (by omega)
  simp only [w1, w2]
  refine cyNewC h3 (i := 0) rfl hs.node (by omega) (by omega) (by omega) (by omega) fun b H4 h4 => ?_
  simp only [asI_mk', asB_mk, asP_mk, asA_mk, asM_mk, asSl_mk, asStr_mk, tup2_mk, tup3_mk, agg1_mk, agg2_mk, agg3_mk, agg4_mk, asAggm, unCons_mk, unNil_mk, asTup_mk, extractD0, extractD1, List.toList_toArray, nilP_mk, add_mk, Nat.zero_add, Nat.add_zero, condT, condF, Bool.not_true, Bool.not_false, Option.isNone_some, Option.isNone_none]
  refine bif_neqf rfl ?_
  (try simp only [Option.isNone_some, condF])
  have p2 := pick_lt (n := missing) (m := 1 + a + 1) (by omega)
  refine Pick_ok (by omega) (by omega) ?_
  simp only [asI_mk', asB_mk, asP_mk, asA_mk, asM_mk, asSl_mk, asStr_mk, tup2_mk, tup3_mk, agg1_mk, agg2_mk, agg3_mk, agg4_mk, asAggm, unCons_mk, unNil_mk, asTup_mk, extractD0, extractD1, List.toList_toArray, nilP_mk, add_mk, Nat.zero_add, Nat.add_zero, condT, condF, Bool.not_true, Bool.not_false, Option.isNone_some, Option.isNone_none]
  generalize pick missing (1 + a + 1) = m at *
  refine cyStepC h4 (i := 1) (k := 0) rfl rfl (by decide) (newCy_lt (n := 0)) (by omega) fun fp fc H5 h5 => ?_
  have e : cyStep s (newCy (1 + a) 3 2 5 s.last) 0 = (([], false), s, { newCy (1 + a) 3 2 5 s.last with p := pTurn (newCy (1 + a) 3 2 5 s.last).p, sk := (newCy (1 + a) 3 2 5 s.last).sk.begun }) := steps_stop (n := 4) (unit0 rfl)
  rw [e] at h5 ⊢
  have hw : Waits { newCy (1 + a) 3 2 5 s.last with p := pTurn (newCy (1 + a) 3 2 5 s.last).p, sk := (newCy (1 + a) 3 2 5 s.last).sk.begun } m.toNat := by
    refine ⟨rfl, .inl rfl, ?_, rfl⟩
    show (List.replicate ((1 + a).toNat + 1) false)[m.toNat]? = some false
    rw [List.getElem?_replicate, if_pos (by omega)]
  have hlt : ({ newCy (1 + a) 3 2 5 s.last with p := pTurn (newCy (1 + a) 3 2 5 s.last).p, sk := (newCy (1 + a) 3 2 5 s.last).sk.begun } : Cy).lt 0 := by
    have h0 := newCy_lt (a := 1 + a) (g := 3) (u := 2) (w := 5) (l := s.last) (n := 0)
    exact ⟨h0.p.turn, h0.r, h0.rows, h0.rlen, h0.outs⟩
  have hwork : ({ newCy (1 + a) 3 2 5 s.last with p := pTurn (newCy (1 + a) 3 2 5 s.last).p, sk := (newCy (1 + a) 3 2 5 s.last).sk.begun } : Cy).work = 5 := rfl
  generalize ({ newCy (1 + a) 3 2 5 s.last with p := pTurn (newCy (1 + a) 3 2 5 s.last).p, sk := (newCy (1 + a) 3 2 5 s.last).sk.begun } : Cy) = c at *
  have h5 : St H [CyP b hb c, HeapP hb s, RHeap rb s, Prt.one b13 (.cells #[.slice rp rl rc, .slice op ol oc, .slice ip il ic] ty_hand_Graph (0, 0))] H5 := h5.less
  clear h1 h2 h3 h4 e w1 w2
  simp only [asI_mk', asB_mk, asP_mk, asA_mk, asM_mk, asSl_mk, asStr_mk, tup2_mk, tup3_mk, agg1_mk, agg2_mk, agg3_mk, agg4_mk, asAggm, unCons_mk, unNil_mk, asTup_mk, extractD0, extractD1, List.toList_toArray, nilP_mk, add_mk, Nat.zero_add, Nat.add_zero, condT, condF, Bool.not_true, Bool.not_false, Option.isNone_some, Option.isNone_none]
  refine ⟨fun r H' => ∃ (y : Nat) (c : Cy), r = y ∧ y ≤ 3 ∧ Waits c m.toNat ∧ c.work = 5 ∧ c.lt 0 ∧ St H [CyP b hb c, HeapP hb s, RHeap rb s, Prt.one b13 (.cells #[.slice rp rl rc, .slice op ol oc, .slice ip il ic] ty_hand_Graph (0, 0))] H', fun r _ => (3 - r).toNat, ⟨0, c, rfl, by omega, hw, hwork, hlt, h5⟩, ?_⟩
  clear hw hwork hlt h5
  rintro r H6 ⟨y, c, rfl, hy, hw, hwork, hlt, h6⟩
  by_cases hc : (y : Int) < 3
  rotate_left
  · refine bif_neg hc ?_
    obtain ⟨y1, N1, g1, _, _⟩ := rheapOpenL (i := 2) h6 rfl (.inl rfl)
    (try simp only [asI_mk', asB_mk, asP_mk, asA_mk, asM_mk, asSl_mk, asStr_mk, tup2_mk, tup3_mk, agg1_mk, agg2_mk, agg3_mk, agg4_mk, asAggm, unCons_mk, unNil_mk, asTup_mk, extractD0, extractD1, List.toList_toArray, nilP_mk, add_mk, Nat.zero_add, Nat.add_zero, condT, condF, Bool.not_true, Bool.not_false, Option.isNone_some, Option.isNone_none])
    refine ldI_of (rheapV g1).last (hLen h6 (i := 1) rfl ?_)
    simp only [asI_mk', asB_mk, asP_mk, asA_mk, asM_mk, asSl_mk, asStr_mk, tup2_mk, tup3_mk, agg1_mk, agg2_mk, agg3_mk, agg4_mk, asAggm, unCons_mk, unNil_mk, asTup_mk, extractD0, extractD1, List.toList_toArray, nilP_mk, add_mk, Nat.zero_add, Nat.add_zero, condT, condF, Bool.not_true, Bool.not_false, Option.isNone_some, Option.isNone_none]
    refine ⟨ldI_of (rheapV g1).last rfl, ?_⟩
    have w3 : IntKind.i64.wrap s.last = n := by rw [hs.last]; exact wrap_i64 (by omega) (by omega)
    rw [w3]
    refine bif_eq (by rw [hs.len]) (cyStateC h6 (k := 0) rfl ?_)
    simp only [asI_mk', asB_mk, asP_mk, asA_mk, asM_mk, asSl_mk, asStr_mk, tup2_mk, tup3_mk, agg1_mk, agg2_mk, agg3_mk, agg4_mk, asAggm, unCons_mk, unNil_mk, asTup_mk, extractD0, extractD1, List.toList_toArray, nilP_mk, add_mk, Nat.zero_add, Nat.add_zero, condT, condF, Bool.not_true, Bool.not_false, Option.isNone_some, Option.isNone_none]
    rcases hw.state with e | e
    · refine bif_eq e (cyTurnsC h6 (k := 0) rfl ?_)
      simp only [asI_mk', asB_mk, asP_mk, asA_mk, asM_mk, asSl_mk, asStr_mk, tup2_mk, tup3_mk, agg1_mk, agg2_mk, agg3_mk, agg4_mk, asAggm, unCons_mk, unNil_mk, asTup_mk, extractD0, extractD1, List.toList_toArray, nilP_mk, add_mk, Nat.zero_add, Nat.add_zero, condT, condF, Bool.not_true, Bool.not_false, Option.isNone_some, Option.isNone_none]
      rw [hw.turns]
      exact hK H6 h6.keep
    · refine bif_ne (by omega) (cyStateC h6 (k := 0) rfl ?_)
      simp only [asI_mk', asB_mk, asP_mk, asA_mk, asM_mk, asSl_mk, asStr_mk, tup2_mk, tup3_mk, agg1_mk, agg2_mk, agg3_mk, agg4_mk, asAggm, unCons_mk, unNil_mk, asTup_mk, extractD0, extractD1, List.toList_toArray, nilP_mk, add_mk, Nat.zero_add, Nat.add_zero, condT, condF, Bool.not_true, Bool.not_false, Option.isNone_some, Option.isNone_none]
      refine bif_eq e (cyTurnsC h6 (k := 0) rfl ?_)
      simp only [asI_mk', asB_mk, asP_mk, asA_mk, asM_mk, asSl_mk, asStr_mk, tup2_mk, tup3_mk, agg1_mk, agg2_mk, agg3_mk, agg4_mk, asAggm, unCons_mk, unNil_mk, asTup_mk, extractD0, extractD1, List.toList_toArray, nilP_mk, add_mk, Nat.zero_add, Nat.add_zero, condT, condF, Bool.not_true, Bool.not_false, Option.isNone_some, Option.isNone_none]
      rw [hw.turns]
      exact hK H6 h6.keep
  refine bif_pos hc ?_
  refine ⟨fun r H' => ∃ (z : Nat) (c : Cy), r = z ∧ (z : Int) ≤ 1 + a + 1 ∧ Waits c m.toNat ∧ c.work = 5 ∧ c.lt 0 ∧ St H [CyP b hb c, HeapP hb s, RHeap rb s, Prt.one b13 (.cells #[.slice rp rl rc, .slice op ol oc, .slice ip il ic] ty_hand_Graph (0, 0))] H', fun r _ => (1 + a + 1 - r).toNat, ⟨0, c, rfl, by omega, hw, hwork, hlt, h6⟩, ?_⟩
  clear hw hwork hlt h6
  rintro r H7 ⟨z, c, rfl, hz, hw, hwork, hlt, h7⟩
  by_cases hc2 : (z : Int) ≤ 1 + a
  · refine bif_pos hc2 ?_
    intro R61 hR61
    have hR61 : ∀ c H', Waits c m.toNat → c.work = 5 → c.lt 0 → St H [CyP b hb c, HeapP hb s, RHeap rb s, Prt.one b13 (.cells #[.slice rp rl rc, .slice op ol oc, .slice ip il ic] ty_hand_Graph (0, 0))] H' → R61 H' := fun c H' hw hwork hlt h' => by
      refine hR61 H' ?_
      rw [wrap_i64 (by omega) (by omega)]
      exact ⟨⟨z + 1, c, by omega, by omega, hw, hwork, hlt, h'⟩, by (try dsimp only); omega⟩
    by_cases hm : (z : Int) = m
    · exact bif_neqf hm (hR61 c H7 hw hwork hlt h7)
    · refine bif_neq hm (cyShakeC (held := []) h7 (i := 1) (k := 0) rfl rfl (by decide) (fun _ _ _ => rd_nil) (by simp) fun H8 h8 => ?_)
      simp only [asI_mk', asB_mk, asP_mk, asA_mk, asM_mk, asSl_mk, asStr_mk, tup2_mk, tup3_mk, agg1_mk, agg2_mk, agg3_mk, agg4_mk, asAggm, unCons_mk, unNil_mk, asTup_mk, extractD0, extractD1, List.toList_toArray, nilP_mk, add_mk, Nat.zero_add, Nat.add_zero, condT, condF, Bool.not_true, Bool.not_false, Option.isNone_some, Option.isNone_none]
      exact hR61 _ H8 (hw.shake (by omega)) (shake_work.1.trans hwork) hlt.shake h8
  refine bif_neg hc2 ?_
  have p3 := pick_lt (n := steps) (m := 20) (by omega)
  refine ⟨fun r H' => ∃ z : Nat, r = z ∧ z ≤ 20 ∧ St H [CyP b hb c, HeapP hb s, RHeap rb s, Prt.one b13 (.cells #[.slice rp rl rc, .slice op ol oc, .slice ip il ic] ty_hand_Graph (0, 0))] H', fun r _ => (20 - r).toNat, ⟨0, rfl, by omega, h7⟩, ?_⟩
  clear h7
  rintro r H8 ⟨x, rfl, hx, h8⟩
  refine Pick_ok (by omega) (by omega) ?_
  simp only [asI_mk', asB_mk, asP_mk, asA_mk, asM_mk, asSl_mk, asStr_mk, tup2_mk, tup3_mk, agg1_mk, agg2_mk, agg3_mk, agg4_mk, asAggm, unCons_mk, unNil_mk, asTup_mk, extractD0, extractD1, List.toList_toArray, nilP_mk, add_mk, Nat.zero_add, Nat.add_zero, condT, condF, Bool.not_true, Bool.not_false, Option.isNone_some, Option.isNone_none]
  generalize pick steps 20 = q at *
  by_cases hc3 : (x : Int) < q
  · refine bif_pos hc3 (cyStepC h8 (i := 1) (k := 0) rfl rfl (by decide) hlt (by omega) fun fp fc H9 h9 => ?_)
    rw [hw.step (by omega)] at h9 ⊢
    have h9 : St H [CyP b hb c, HeapP hb s, RHeap rb s, Prt.one b13 (.cells #[.slice rp rl rc, .slice op ol oc, .slice ip il ic] ty_hand_Graph (0, 0))] H9 := h9.less
    simp only [asI_mk', asB_mk, asP_mk, asA_mk, asM_mk, asSl_mk, asStr_mk, tup2_mk, tup3_mk, agg1_mk, agg2_mk, agg3_mk, agg4_mk, asAggm, unCons_mk, unNil_mk, asTup_mk, extractD0, extractD1, List.toList_toArray, nilP_mk, add_mk, Nat.zero_add, Nat.add_zero, condT, condF, Bool.not_true, Bool.not_false, Option.isNone_some, Option.isNone_none]
    refine bif_neg (by simp) ?_
    rw [wrap_i64 (by omega) (by omega)]
    exact ⟨⟨x + 1, by omega, by omega, h9⟩, by (try dsimp only); omega⟩
  · refine bif_neg hc3 ?_
    rw [wrap_i64 (by omega) (by omega)]
    exact ⟨⟨y + 1, c, by omega, by omega, hw, hwork, hlt, h8⟩, by (try dsimp only); omega⟩

/-- It is idle. -/
structure Idle (c : Cy) : Prop where
  st : c.st = 0
  ph : c.sk.ph = 0
theorem Idle.state {c : Cy} (h : Idle c) : c.state = 0 := by unfold Cy.state; rw [if_neg (by rw [h.st]; decide), if_neg (by rw [h.ph]; decide), if_neg (by rw [h.ph]; decide)]
theorem Idle.isOpen {c : Cy} (h : Idle c) : c.isOpen = false := by unfold Cy.isOpen; rw [h.state]; rfl
theorem Idle.store {s : Hs} {c : Cy} (h : Idle c) {m : Int} {x y : Id} : cyStore s c m x y = c := by unfold cyStore; rw [if_neg (by rw [h.isOpen]; simp)]
theorem Idle.born {s : Hs} {c : Cy} (h : Idle c) {m q : Int} : cyBorn s c m q = c := by unfold cyBorn; rw [if_neg (by rw [h.isOpen]; simp)]
theorem Idle.shake {s : Hs} {c : Cy} (h : Idle c) {m : Int} {l : List Id} : cyShake s c m l = (false, c) := by
  have e : c.sk.ans m = (c.sk, 0) := by
    unfold Sk.ans
    split
    · rfl
    · rw [if_neg (by rw [h.ph]; decide), if_neg (by rw [h.ph]; decide)]
  unfold cyShake
  rw [e, if_neg (show ¬ ((0 : Int) = 2) by decide)]
  rfl

end Go.Proofs.YtohlnmenghbgbaaGreat
