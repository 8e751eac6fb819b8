/- Merged by merge.py: DenLaw16, DenLaw16CycleKnown, Law16, DenLaw16CycleUnits, Law16u. No condition. -/
import Derived.Test.YtohlnmenghbgbaaGreatZNum
import Derived.Test.YtohlnmenghbgbaaGreatZCycle
import Derived.Test.YtohlnmenghbgbaaGreatZMark
import Derived.Test.YtohlnmenghbgbaaGreatZReach

namespace Go.Proofs.YtohlnmenghbgbaaGreat
open Go
set_option linter.unusedVariables false
set_option maxRecDepth 100000
def B_law16_known  (H : Hp) (K : Value → Hp → Prop) : Prop :=
 hcall PR f_heap_New ⟨[(.int .i64 1), (.int .i64 64), (.int .i64 4), (.int .u64 0)]⟩ H fun v1 Hx2 =>
 tup2 v1 fun v3 v4 =>
 asP v3 fun t5 =>
 asI .i64 v4 fun t6 =>
 (bif ((t6 : Int) != 0) then
 K (.bool false) Hx2
else
 (bif (Option.isNone (α := Addr) t5) then
 K (.bool false) Hx2
else
 hcall PR f_heap_Heap_Make ⟨[(.pointer t5), (.int .i64 1), (.int .i64 0)]⟩ Hx2 fun v7 Hx8 =>
 tup2 v7 fun v9 v10 =>
 asI .u64 v9 fun t11 =>
 asI .i64 v10 fun t12 =>
 hcall PR f_cycle_New ⟨[(.pointer t5), (.int .i64 1), (.int .i64 4), (.int .i64 3), (.int .i64 8)]⟩ Hx8 fun v13 Hx14 =>
 tup2 v13 fun v15 v16 =>
 asP v15 fun t17 =>
 asI .i64 v16 fun t18 =>
 (bif ((t18 : Int) != 0) then
 K (.bool false) Hx14
else
 (bif (Option.isNone (α := Addr) t17) then
 K (.bool false) Hx14
else
 hcall PR f_cycle_Cycle_Step ⟨[(.pointer t17), (.int .u64 0)]⟩ Hx14 fun v19 Hx20 =>
 tup2 v19 fun v21 v22 =>
 asSl v21 fun tP23 tL24 tC25 =>
 asB v22 fun t26 =>
 hcall PR f_cycle_Cycle_State ⟨[(.pointer t17)]⟩ Hx20 fun v27 Hx28 =>
 asI .i64 v27 fun t29 =>
 ∀ R30 : Bool → Hp → Prop, (∀ b32 : Bool, ∀ Hx31 : Hp, (
 hcall PR f_cycle_Cycle_State ⟨[(.pointer t17)]⟩ Hx31 fun v33 Hx34 =>
 asI .i64 v33 fun t35 =>
 hcall PR f_cycle_Cycle_Step ⟨[(.pointer t17), (.int .u64 0)]⟩ Hx34 fun v36 Hx37 =>
 tup2 v36 fun v38 v39 =>
 asSl v38 fun tP40 tL41 tC42 =>
 asB v39 fun t43 =>
 (bif (((tL24 : Int) : Int) == 0) then
 (bif (!t26) then
 (bif ((t29 : Int) == 1) then
 (bif b32 then
 (bif ((t35 : Int) == 2) then
 (bif (((tL41 : Int) : Int) == 1) then
 idxA tP40 tL41 0 1 fun el44 =>
 ldI .u64 el44 Hx37 fun t45 =>
 (bif ((t45 : Int) == 1) then
 (bif t43 then
 hcall PR f_cycle_Cycle_State ⟨[(.pointer t17)]⟩ Hx37 fun v46 Hx47 =>
 asI .i64 v46 fun t48 =>
 (bif ((t48 : Int) == 0) then
 hcall PR f_heap_Heap_Len ⟨[(.pointer t5)]⟩ Hx47 fun v49 Hx50 =>
 asI .i64 v49 fun t51 =>
 K (.bool ((t51 : Int) == 0)) Hx50
else
 K (.bool false) Hx47)
else
 K (.bool false) Hx37)
else
 K (.bool false) Hx37)
else
 K (.bool false) Hx37)
else
 K (.bool false) Hx37)
else
 K (.bool false) Hx37)
else
 K (.bool false) Hx37)
else
 K (.bool false) Hx37)
else
 K (.bool false) Hx37)) → R30 b32 Hx31) →
 hcall PR f_cycle_Cycle_Shake ⟨[(.pointer t17), (.int .i64 0), (.slice none 0 0)]⟩ Hx28 fun v52 Hx53 =>
 asB v52 fun t54 =>
 (bif t54 then
 hcall PR f_cycle_Cycle_Shake ⟨[(.pointer t17), (.int .i64 0), (.slice none 0 0)]⟩ Hx53 fun v55 Hx56 =>
 asB v55 fun t57 =>
 (bif t57 then
 hcall PR f_cycle_Cycle_Shake ⟨[(.pointer t17), (.int .i64 1), (.slice none 0 0)]⟩ Hx56 fun v58 Hx59 =>
 asB v58 fun t60 =>
 (bif t60 then
 hcall PR f_cycle_Cycle_Shake ⟨[(.pointer t17), (.int .i64 1), (.slice none 0 0)]⟩ Hx59 fun v61 Hx62 =>
 asB v61 fun t63 =>
 R30 (!t63) Hx62
else
 R30 false Hx59)
else
 R30 false Hx56)
else
 R30 false Hx53)))))
theorem E_law16_known  (H : Hp) (K : Value → Hp → Prop) : B_law16_known  H K = denF Tryz.prog Tryz.f15 (.seq none .n (.seq none .n (.seq none .n (.seq none .n (.seq none .n (.seq none .n (.seq none .n (.seq none .n (.seq (some ⟨[(8, .bool)], [1, 3, 5, 6, 7]⟩) .n .n))))))))) [] H K := by kernel_rfl
theorem den_law16_known  {H : Hp} {K : Value → Hp → Prop} (h : B_law16_known  H K) : hcall PR f_law16_known ⟨[]⟩ H K := denF_call Tryz.func15 PR_mixed (Eq.mp (E_law16_known  H K) h)

end Go.Proofs.YtohlnmenghbgbaaGreat

namespace Go.Proofs.YtohlnmenghbgbaaGreat
open Go
set_option linter.unusedVariables false
set_option maxRecDepth 100000
end Go.Proofs.YtohlnmenghbgbaaGreat

namespace Go.Proofs.YtohlnmenghbgbaaGreat
set_option linter.unusedSimpArgs false
set_option linter.unusedVariables false
open Go
section
variable {H0 H : Hp} {L M : List Prt} {i j k b hb : Nat} {s : Hs} {c : Cy} {K : Value → Hp → Prop}
/-! ## The example -/
def k16a : Cy := ⟨⟨1, [false, true], [false, false]⟩, ⟨[], [], [], 4, false, 1⟩, ⟨0, false, 0⟩, rcNew 0, 0, 1, 0, 3, 8, 0, 0, ⟨0, [], [], false⟩⟩
def k16b : Cy := ⟨⟨2, [true, true], [false, false]⟩, ⟨[], [], [], 4, false, 1⟩, ⟨0, false, 0⟩, rcNew 0, 0, 1, 0, 3, 8, 0, 0, ⟨0, [], [], false⟩⟩
def k16c : Cy := ⟨⟨2, [true, true], [true, false]⟩, ⟨[], [], [], 4, false, 1⟩, ⟨0, false, 0⟩, rcNew 0, 0, 1, 0, 3, 8, 0, 0, ⟨0, [], [], false⟩⟩
def k16d : Cy := ⟨⟨3, [true, true], [true, true]⟩, ⟨[], [], [], 4, false, 1⟩, ⟨0, false, 0⟩, rcNew 0, 0, 1, 0, 3, 8, 0, 0, ⟨0, [], [], false⟩⟩
def k16e (pl : Int) : Cy := ⟨⟨3, [true, true], [true, true]⟩, ⟨[], [], [], 4, false, 1⟩, ⟨1, false, 0⟩, ⟨3, 1, none, []⟩, pl, 1, 5, 3, 8, 0, 1, ⟨0, [], [], true⟩⟩
def k16f : Cy := ⟨⟨0, [false, false], [false, false]⟩, ⟨[], [], [], 4, false, 1⟩, ⟨1, false, 0⟩, ⟨3, 1, none, []⟩, 1, 1, 0, 3, 8, 0, 1, ⟨0, [], [], true⟩⟩
theorem known16_begin : cyStep s (newCy 1 4 3 8 1) 0 = (([], false), s, k16a) := steps_stop (n := 7) (unit0 rfl)
theorem known16_shake : cyShake s k16a 0 [] = (true, k16b) ∧ cyShake s k16b 0 [] = (true, k16c) ∧ cyShake s k16c 1 [] = (true, k16d) ∧ cyShake s k16d 1 [] = (false, k16d) := ⟨rfl, rfl, rfl, rfl⟩
theorem known16_run {y : Id} {c1 : Int} (ho : s.ok) (hobs : s.obs = [⟨1, c1, [y], [], 0⟩]) (hn : s.node = 1) (hl : s.last = 1) : cyStep s k16d 0 = (([1], true), (hFree s 1).2, k16f) := by
  have g1 : hGet s 1 = some ⟨1, c1, [y], [], 0⟩ := by unfold hGet; rw [hobs]; rfl
  have n0 : hNext s 0 = (1, true) := by unfold hNext; rw [hobs]; rfl
  have n1 : hNext s 1 = (0, false) := by unfold hNext; rw [hobs]; rfl
  have ho2 := ho.free 1
  have n2 : hNext (hFree s 1).2 1 = (0, false) := hNext_none ho2 fun k hk => by
    rw [hFree_get, if_neg (by omega)]
    cases hg : hGet s k with
    | none => rfl
    | some o =>
      have := hNext_false (s := s) (q := 1) (by rw [n1]) (k := k) (by rw [hg]; simp)
      omega
  have own : ∀ k, rcOwn s ⟨[], [], [], 4, false, 1⟩ 3 k = false := fun k => by
    cases ho : rcOwn s ⟨[], [], [], 4, false, 1⟩ 3 k
    · rfl
    · obtain ⟨_, r, g, h, _⟩ := rcOwn_has ho
      cases h
  obtain ⟨pa, hpa⟩ : ∃ pa : Ps, pa = ⟨[], [], [], 4, false, 1⟩ := ⟨_, rfl⟩
  have m0 : mkStep s pa ⟨0, false, 0⟩ = (true, pa, ⟨1, false, 0⟩) := by
    unfold mkStep mkSee
    rw [hpa]
    simp only [List.getLast?_nil, n0, g1]
    rfl
  have m1 : mkStep s pa ⟨1, false, 0⟩ = (false, pa, ⟨1, false, 0⟩) := by
    unfold mkStep
    rw [hpa]
    simp only [List.getLast?_nil, n1]
    rfl
  have r0 : rcStep s pa (rcNew 3) = (true, ⟨3, 1, none, []⟩) := by
    rw [hpa]
    unfold rcStep rcNew rcNext
    simp only [n0, g1, own]
    rfl
  have r1 : rcStep s pa ⟨3, 1, none, []⟩ = (false, ⟨3, 1, none, []⟩) := by
    rw [hpa]
    unfold rcStep rcNext
    simp only [n1]
    rfl
  obtain ⟨ca, hca⟩ : ∃ ca : Cy, ca = { k16d with st := 3, m := ⟨1, false, 0⟩ } := ⟨_, rfl⟩
  obtain ⟨cb, hcb⟩ : ∃ cb : Cy, cb = { k16d with st := 4, m := ⟨1, false, 0⟩, r := rcNew 3 } := ⟨_, rfl⟩
  obtain ⟨cc, hcc⟩ : ∃ cc : Cy, cc = { k16d with st := 4, m := ⟨1, false, 0⟩, r := ⟨3, 1, none, []⟩ } := ⟨_, rfl⟩
  have u1 : cyUnit s k16d 0 = ⟨none, 0, s, ca⟩ := by
    rw [unit23 (.inr rfl) rfl, hca]
    unfold cyMarks
    rw [show mkStep s ({ k16d with st := 3, m := ⟨0, false, 0⟩ } : Cy).p ({ k16d with st := 3, m := ⟨0, false, 0⟩ } : Cy).m = (true, pa, ⟨1, false, 0⟩) from by rw [← m0, hpa]; rfl]
    rw [if_pos rfl, hpa]
    rfl
  have u2 : cyUnit s ca 0 = ⟨none, 0, s, cb⟩ := by
    rw [unit3 (by rw [hca]; rfl)]
    unfold cyMarks
    rw [show mkStep s ca.p ca.m = (false, pa, ⟨1, false, 0⟩) from by rw [← m1, hpa, hca]; rfl]
    rw [if_neg (fun h => by cases h), hca, hcb, hpa]
    rfl
  have u3 : cyUnit s cb 0 = ⟨none, 0, s, cc⟩ := by
    rw [unit4 (by rw [hcb]; rfl)]
    unfold cyReaches
    rw [show mkStep s cb.p cb.m = (false, pa, ⟨1, false, 0⟩) from by rw [← m1, hpa, hcb]; rfl]
    rw [if_neg (fun h => by cases h)]
    simp only
    rw [show rcStep s pa cb.r = (true, ⟨3, 1, none, []⟩) from by rw [← r0, hcb]]
    rw [if_pos rfl, hcb, hcc, hpa]
    rfl
  have u4 : cyUnit s cc 0 = ⟨none, 0, s, k16e 0⟩ := by
    rw [unit4 (by rw [hcc]; rfl)]
    unfold cyReaches
    rw [show mkStep s cc.p cc.m = (false, pa, ⟨1, false, 0⟩) from by rw [← m1, hpa, hcc]; rfl]
    rw [if_neg (fun h => by cases h)]
    simp only
    rw [show rcStep s pa cc.r = (false, ⟨3, 1, none, []⟩) from by rw [← r1, hcc]]
    rw [if_neg (by decide), hcc, hpa, hl]
    rfl
  have s5 : swStep s pa 0 1 = ((1, true), (hFree s 1).2, pa, 1) := by
    unfold swStep
    rw [n0, if_neg (by decide), if_neg (by rw [hpa]; show ¬ (false = true); decide), hpa]
    rfl
  have s6 : swStep (hFree s 1).2 pa 1 1 = ((0, false), (hFree s 1).2, pa, 1) := by
    unfold swStep
    rw [n2, if_pos (.inl rfl)]
  have u5 : cyUnit s (k16e 0) 0 = ⟨none, 1, (hFree s 1).2, k16e 1⟩ := by
    have e : swStep s (k16e 0).p (k16e 0).pl (k16e 0).e = ((1, true), (hFree s 1).2, pa, 1) := by rw [← s5, hpa]; rfl
    rw [unit6 rfl (by rw [e]), e, hpa]
    rfl
  have u6 : cyUnit (hFree s 1).2 (k16e 1) 0 = ⟨some true, 0, (hFree s 1).2, k16f⟩ := by
    have e : swStep (hFree s 1).2 (k16e 1).p (k16e 1).pl (k16e 1).e = ((0, false), (hFree s 1).2, pa, 1) := by rw [← s6, hpa]; rfl
    rw [unit5 rfl (by rw [e]), e, hpa]
    rfl
  show cySteps 0 8 s k16d [] = _
  rw [steps_go u1, steps_go u2, steps_go u3, steps_go u4, steps_go u5, steps_stop u6]
  rfl

theorem known16_ok (h : St H0 L H) (hK : ∀ H', St H0 L H' → K (.bool true) H') : hcall PR f_law16_known ⟨[]⟩ H K := by
  apply den_law16_known
  unfold B_law16_known
  refine hNewOk (m := 4) (by decide) (by decide) (by decide) (by decide) (by decide) h fun hb H1 h1 => ?_
  simp only [asI_mk', asB_mk, asP_mk, asA_mk, asM_mk, asSl_mk, asStr_mk, tup2_mk, tup3_mk, agg1_mk, agg2_mk, agg3_mk, agg4_mk, asAggm, unCons_mk, unNil_mk, asTup_mk, extractD0, extractD1, List.toList_toArray, nilP_mk, add_mk, Nat.zero_add, Nat.add_zero, condT, condF, Bool.not_true, Bool.not_false, Option.isNone_some, Option.isNone_none]
  refine bif_neqf rfl ?_
  obtain ⟨s1, c1, a0, a1, a2, a3, a4, a5, a6⟩ := hMake_good' (s := newHs 1 4 0 4) (r := 1) (v := 0) (heap_ok h1 (i := 0) rfl) (by omega) (by omega) (by decide) (by decide) (by show 0 < frees (List.replicate 4 noBlk); rw [frees_new]; omega)
  refine hMakeC h1 (i := 0) rfl (by decide) (by decide) fun H2 h2 => ?_
  rw [a0] at h2 ⊢
  have h2 : St H0 (HeapP hb s1 :: L) H2 := h2
  simp only [asI_mk', asB_mk, asP_mk, asA_mk, asM_mk, asSl_mk, asStr_mk, tup2_mk, tup3_mk, agg1_mk, agg2_mk, agg3_mk, agg4_mk, asAggm, unCons_mk, unNil_mk, asTup_mk, extractD0, extractD1, List.toList_toArray, nilP_mk, add_mk, Nat.zero_add, Nat.add_zero, condT, condF, Bool.not_true, Bool.not_false, Option.isNone_some, Option.isNone_none]
  have a3 : s1.node = 1 := a3
  have a4 : s1.obs = [⟨1, c1, [noId], [], 0⟩] := a4
  have al : s1.last = 1 := by first | exact a1 | exact a2 | exact a5 | exact a6
  refine cyNewC h2 (i := 0) rfl a3 (by omega) (by omega) (by omega) (by omega) fun b H3 h3 => ?_
  rw [al] at h3
  simp only [asI_mk', asB_mk, asP_mk, asA_mk, asM_mk, asSl_mk, asStr_mk, tup2_mk, tup3_mk, agg1_mk, agg2_mk, agg3_mk, agg4_mk, asAggm, unCons_mk, unNil_mk, asTup_mk, extractD0, extractD1, List.toList_toArray, nilP_mk, add_mk, Nat.zero_add, Nat.add_zero, condT, condF, Bool.not_true, Bool.not_false, Option.isNone_some, Option.isNone_none]
  refine bif_neqf rfl ?_
  (try simp only [Option.isNone_some, condF])
  have ho := heap_ok h3 (i := 1) rfl
  refine cyStepC h3 (i := 1) (k := 0) rfl rfl (by decide) (n := 0) newCy_lt (by omega) fun fp fc H4 h4 => ?_
  rw [known16_begin] at h4 ⊢
  have h4 : St H0 (CyP b hb k16a :: HeapP hb s1 :: L) H4 := h4.less
  simp only [asI_mk', asB_mk, asP_mk, asA_mk, asM_mk, asSl_mk, asStr_mk, tup2_mk, tup3_mk, agg1_mk, agg2_mk, agg3_mk, agg4_mk, asAggm, unCons_mk, unNil_mk, asTup_mk, extractD0, extractD1, List.toList_toArray, nilP_mk, add_mk, Nat.zero_add, Nat.add_zero, condT, condF, Bool.not_true, Bool.not_false, Option.isNone_some, Option.isNone_none]
  refine cyStateC h4 (k := 0) rfl ?_
  simp only [asI_mk', asB_mk, asP_mk, asA_mk, asM_mk, asSl_mk, asStr_mk, tup2_mk, tup3_mk, agg1_mk, agg2_mk, agg3_mk, agg4_mk, asAggm, unCons_mk, unNil_mk, asTup_mk, extractD0, extractD1, List.toList_toArray, nilP_mk, add_mk, Nat.zero_add, Nat.add_zero, condT, condF, Bool.not_true, Bool.not_false, Option.isNone_some, Option.isNone_none]
  intro R30 hR30
  obtain ⟨q1, q2, q3, q4⟩ := known16_shake (s := s1)
  refine cyShakeC (held := []) h4 (i := 1) (k := 0) rfl rfl (by decide) (fun _ _ _ => rd_nil) (by simp) fun H5 h5 => ?_
  rw [q1] at h5 ⊢
  have h5 : St H0 (CyP b hb k16b :: HeapP hb s1 :: L) H5 := h5
  simp only [asI_mk', asB_mk, asP_mk, asA_mk, asM_mk, asSl_mk, asStr_mk, tup2_mk, tup3_mk, agg1_mk, agg2_mk, agg3_mk, agg4_mk, asAggm, unCons_mk, unNil_mk, asTup_mk, extractD0, extractD1, List.toList_toArray, nilP_mk, add_mk, Nat.zero_add, Nat.add_zero, condT, condF, Bool.not_true, Bool.not_false, Option.isNone_some, Option.isNone_none]
  refine cyShakeC (held := []) h5 (i := 1) (k := 0) rfl rfl (by decide) (fun _ _ _ => rd_nil) (by simp) fun H6 h6 => ?_
  rw [q2] at h6 ⊢
  have h6 : St H0 (CyP b hb k16c :: HeapP hb s1 :: L) H6 := h6
  simp only [asI_mk', asB_mk, asP_mk, asA_mk, asM_mk, asSl_mk, asStr_mk, tup2_mk, tup3_mk, agg1_mk, agg2_mk, agg3_mk, agg4_mk, asAggm, unCons_mk, unNil_mk, asTup_mk, extractD0, extractD1, List.toList_toArray, nilP_mk, add_mk, Nat.zero_add, Nat.add_zero, condT, condF, Bool.not_true, Bool.not_false, Option.isNone_some, Option.isNone_none]
  refine cyShakeC (held := []) h6 (i := 1) (k := 0) rfl rfl (by decide) (fun _ _ _ => rd_nil) (by simp) fun H7 h7 => ?_
  rw [q3] at h7 ⊢
  have h7 : St H0 (CyP b hb k16d :: HeapP hb s1 :: L) H7 := h7
  simp only [asI_mk', asB_mk, asP_mk, asA_mk, asM_mk, asSl_mk, asStr_mk, tup2_mk, tup3_mk, agg1_mk, agg2_mk, agg3_mk, agg4_mk, asAggm, unCons_mk, unNil_mk, asTup_mk, extractD0, extractD1, List.toList_toArray, nilP_mk, add_mk, Nat.zero_add, Nat.add_zero, condT, condF, Bool.not_true, Bool.not_false, Option.isNone_some, Option.isNone_none]
  refine cyShakeC (held := []) h7 (i := 1) (k := 0) rfl rfl (by decide) (fun _ _ _ => rd_nil) (by simp) fun H8 h8 => ?_
  rw [q4] at h8 ⊢
  have h8 : St H0 (CyP b hb k16d :: HeapP hb s1 :: L) H8 := h8
  simp only [asI_mk', asB_mk, asP_mk, asA_mk, asM_mk, asSl_mk, asStr_mk, tup2_mk, tup3_mk, agg1_mk, agg2_mk, agg3_mk, agg4_mk, asAggm, unCons_mk, unNil_mk, asTup_mk, extractD0, extractD1, List.toList_toArray, nilP_mk, add_mk, Nat.zero_add, Nat.add_zero, condT, condF, Bool.not_true, Bool.not_false, Option.isNone_some, Option.isNone_none]
  refine hR30 true H8 ?_
  refine cyStateC h8 (k := 0) rfl ?_
  simp only [asI_mk', asB_mk, asP_mk, asA_mk, asM_mk, asSl_mk, asStr_mk, tup2_mk, tup3_mk, agg1_mk, agg2_mk, agg3_mk, agg4_mk, asAggm, unCons_mk, unNil_mk, asTup_mk, extractD0, extractD1, List.toList_toArray, nilP_mk, add_mk, Nat.zero_add, Nat.add_zero, condT, condF, Bool.not_true, Bool.not_false, Option.isNone_some, Option.isNone_none]
  have hlt : k16d.lt 0 := ⟨⟨Nat.le_refl _, Nat.le_refl _⟩, ⟨fun w hw => by (cases hw), Nat.le_refl _, fun r hr => by (cases hr)⟩, Nat.le_refl _, fun r hr => by (cases hr), Nat.le_refl _⟩
  refine cyStepC h8 (i := 1) (k := 0) rfl rfl (by decide) hlt (by omega) fun fp2 fc2 H9 h9 => ?_
  rw [known16_run ho a4 a3 al] at h9 ⊢
  have h9 : St H0 (Prt.row 1 fp2 1 fc2 [.int .u64 1] :: CyP b hb k16f :: HeapP hb (hFree s1 1).2 :: L) H9 := h9
  simp only [asI_mk', asB_mk, asP_mk, asA_mk, asM_mk, asSl_mk, asStr_mk, tup2_mk, tup3_mk, agg1_mk, agg2_mk, agg3_mk, agg4_mk, asAggm, unCons_mk, unNil_mk, asTup_mk, extractD0, extractD1, List.toList_toArray, nilP_mk, add_mk, Nat.zero_add, Nat.add_zero, condT, condF, Bool.not_true, Bool.not_false, Option.isNone_some, Option.isNone_none]
  refine bif_eq rfl (bif_eq rfl (bif_eq rfl (bif_eq rfl ?_)))
  refine idxS (g := fun x : Int => [Value.int .u64 x]) (l := [1]) (fun _ => rfl) 0 (h9.row_rd (i := 0) rfl) (by omega) (by omega) (by simp) fun b1 o1 _ hl1 hcc => ?_
  refine ldI_of (hcc 0 (by omega)) (bif_eq rfl ?_)
  refine cyStateC h9 (k := 1) rfl ?_
  simp only [asI_mk', asB_mk, asP_mk, asA_mk, asM_mk, asSl_mk, asStr_mk, tup2_mk, tup3_mk, agg1_mk, agg2_mk, agg3_mk, agg4_mk, asAggm, unCons_mk, unNil_mk, asTup_mk, extractD0, extractD1, List.toList_toArray, nilP_mk, add_mk, Nat.zero_add, Nat.add_zero, condT, condF, Bool.not_true, Bool.not_false, Option.isNone_some, Option.isNone_none]
  refine bif_eq rfl (hLen h9 (i := 2) rfl ?_)
  simp only [asI_mk', asB_mk, asP_mk, asA_mk, asM_mk, asSl_mk, asStr_mk, tup2_mk, tup3_mk, agg1_mk, agg2_mk, agg3_mk, agg4_mk, asAggm, unCons_mk, unNil_mk, asTup_mk, extractD0, extractD1, List.toList_toArray, nilP_mk, add_mk, Nat.zero_add, Nat.add_zero, condT, condF, Bool.not_true, Bool.not_false, Option.isNone_some, Option.isNone_none]
  have hz := hFree_len ho (k := 1) (by unfold hGet; rw [a4]; simp)
  rw [a4] at hz
  have hz : (hFree s1 1).2.obs.length = 0 := by simpa using hz
  rw [hz]
  exact hK H9 (St.lesses (M := [_, _, _]) h9)
end
end Go.Proofs.YtohlnmenghbgbaaGreat

namespace Go.Proofs.YtohlnmenghbgbaaGreat
open Go
set_option linter.unusedVariables false
set_option maxRecDepth 100000
def B_law16_CycleUnits (gRefsP1 : Option Addr) (gRefsL2 : Nat) (gRefsC3 : Nat) (gOutP4 : Option Addr) (gOutL5 : Nat) (gOutC6 : Nat) (gInP7 : Option Addr) (gInL8 : Nat) (gInC9 : Nat) (grey10 : Int) (suspect11 : Int) (H : Hp) (K : Value → Hp → Prop) : Prop :=
 newB (.cells #[(.slice gRefsP1 gRefsL2 gRefsC3), (.slice gOutP4 gOutL5 gOutC6), (.slice gInP7 gInL8 gInC9)] ty_hand_Graph) H fun b12 Hx13 =>
 ldSl ⟨b12, 0, none⟩ Hx13 fun RefsP14 RefsL15 RefsC16 =>
 ldSl ⟨b12, 1, none⟩ Hx13 fun OutP17 OutL18 OutC19 =>
 ldSl ⟨b12, 2, none⟩ Hx13 fun InP20 InL21 InC22 =>
 hcall PR f_hand_Graph_Heaps ⟨[(.agg #[(.slice RefsP14 RefsL15 RefsC16), (.slice OutP17 OutL18 OutC19), (.slice InP20 InL21 InC22)]), (.int .i64 30)]⟩ Hx13 fun v23 Hx24 =>
 tup2 v23 fun v25 v26 =>
 asP v25 fun t27 =>
 asP v26 fun t28 =>
 hcall PR f_law16_known ⟨[]⟩ Hx24 fun v29 Hx30 =>
 asB v29 fun t31 =>
 (bif (!t31) then
 K (.bool false) Hx30
else
 (bif (Option.isNone (α := Addr) t27) then
 K (.bool false) Hx30
else
 hcall PR f_hand_Pick ⟨[(.int .i64 grey10), (.int .i64 6)]⟩ Hx30 fun v32 Hx33 =>
 asI .i64 v32 fun t34 =>
 hcall PR f_hand_Pick ⟨[(.int .i64 suspect11), (.int .i64 7)]⟩ Hx33 fun v35 Hx36 =>
 asI .i64 v35 fun t37 =>
 hcall PR f_cycle_New ⟨[(.pointer t27), (.int .i64 1), (.int .i64 (IntKind.i64.wrap (1 + t34))), (.int .i64 t37), (.int .i64 1)]⟩ Hx36 fun v38 Hx39 =>
 tup2 v38 fun v40 v41 =>
 asP v40 fun t42 =>
 asI .i64 v41 fun t43 =>
 (bif ((t43 : Int) != 0) then
 K (.bool false) Hx39
else
 (bif (Option.isNone (α := Addr) t42) then
 K (.bool false) Hx39
else
 hcall PR f_cycle_Cycle_Step ⟨[(.pointer t42), (.int .u64 0)]⟩ Hx39 fun v44 Hx45 =>
 tup2 v44 fun v46 v47 =>
 asSl v46 fun tP48 tL49 tC50 =>
 asB v47 fun t51 =>
 hcall PR f_cycle_Cycle_Shake ⟨[(.pointer t42), (.int .i64 0), (.slice none 0 0)]⟩ Hx45 fun v52 Hx53 =>
 asB v52 fun t54 =>
 hcall PR f_cycle_Cycle_Shake ⟨[(.pointer t42), (.int .i64 0), (.slice none 0 0)]⟩ Hx53 fun v55 Hx56 =>
 asB v55 fun t57 =>
 hcall PR f_cycle_Cycle_Shake ⟨[(.pointer t42), (.int .i64 1), (.slice none 0 0)]⟩ Hx56 fun v58 Hx59 =>
 asB v58 fun t60 =>
 nilP t28 fun ta61 =>
 ldI .u64 (ta61.add 2) Hx59 fun Last62 =>
 ∃ (I63 : Int → Hp → Prop) (m64 : Int → Hp → Nat), I63 1 Hx59 ∧ ∀ k66 : Int, ∀ Hx65 : Hp, I63 k66 Hx65 →
 (bif (decide ((k66 : Int) ≤ (IntKind.i64.wrap ((IntKind.i64.wrap (43 * (IntKind.i64.wrap ((IntKind.i64.wrap Last62) + 1)))) * (IntKind.i64.wrap ((IntKind.i64.wrap Last62) + 3)))))) then
 hcall PR f_cycle_Cycle_Step ⟨[(.pointer t42), (.int .u64 0)]⟩ Hx65 fun v67 Hx68 =>
 tup2 v67 fun v69 v70 =>
 asSl v69 fun tP71 tL72 tC73 =>
 asB v70 fun t74 =>
 (bif t74 then
 hcall PR f_cycle_Cycle_State ⟨[(.pointer t42)]⟩ Hx68 fun v75 Hx76 =>
 asI .i64 v75 fun t77 =>
 K (.bool ((t77 : Int) == 0)) Hx76
else
 I63 (IntKind.i64.wrap (k66 + 1)) Hx68 ∧ m64 (IntKind.i64.wrap (k66 + 1)) Hx68 < m64 k66 Hx65)
else
 K (.bool false) Hx65)))))
theorem E_law16_CycleUnits (gRefsP1 : Option Addr) (gRefsL2 : Nat) (gRefsC3 : Nat) (gOutP4 : Option Addr) (gOutL5 : Nat) (gOutC6 : Nat) (gInP7 : Option Addr) (gInL8 : Nat) (gInC9 : Nat) (grey10 : Int) (suspect11 : Int) (H : Hp) (K : Value → Hp → Prop) : B_law16_CycleUnits gRefsP1 gRefsL2 gRefsC3 gOutP4 gOutL5 gOutC6 gInP7 gInL8 gInC9 grey10 suspect11 H K = denF Tryz.prog Tryz.f8 (.seq none .n (.seq none .n (.seq none .n (.seq none .n (.seq none .n (.seq none .n (.seq none .n (.seq none .n (.seq none .n (.seq none .n (.seq none .n (.seq none (.seq none .n (.sub (.loop ⟨[(13, .int .i64)], [9, 12]⟩ .n))) .n)))))))))))) [(.agg #[(.slice gRefsP1 gRefsL2 gRefsC3), (.slice gOutP4 gOutL5 gOutC6), (.slice gInP7 gInL8 gInC9)]), (.int .i64 grey10), (.int .i64 suspect11)] H K := by kernel_rfl
theorem den_law16_CycleUnits {gRefsP1 : Option Addr} {gRefsL2 : Nat} {gRefsC3 : Nat} {gOutP4 : Option Addr} {gOutL5 : Nat} {gOutC6 : Nat} {gInP7 : Option Addr} {gInL8 : Nat} {gInC9 : Nat} {grey10 : Int} {suspect11 : Int} {H : Hp} {K : Value → Hp → Prop} (h : B_law16_CycleUnits gRefsP1 gRefsL2 gRefsC3 gOutP4 gOutL5 gOutC6 gInP7 gInL8 gInC9 grey10 suspect11 H K) : hcall PR f_law16_CycleUnits ⟨[(.agg #[(.slice gRefsP1 gRefsL2 gRefsC3), (.slice gOutP4 gOutL5 gOutC6), (.slice gInP7 gInL8 gInC9)]), (.int .i64 grey10), (.int .i64 suspect11)]⟩ H K := denF_call Tryz.func8 PR_mixed (Eq.mp (E_law16_CycleUnits gRefsP1 gRefsL2 gRefsC3 gOutP4 gOutL5 gOutC6 gInP7 gInL8 gInC9 grey10 suspect11 H K) h)

end Go.Proofs.YtohlnmenghbgbaaGreat

namespace Go.Proofs.YtohlnmenghbgbaaGreat
set_option linter.unusedSimpArgs false
set_option linter.unusedVariables false
open Go
/-- A collector that has begun, its shaking so far. -/
def cySk (c : Cy) (k : Sk) : Cy := { c with p := pTurn c.p, sk := k }
theorem begin1 {s : Hs} {grey sus work l stir : Int} (hw : 1 ≤ work) : cyStep s (newCy 1 grey sus work l) stir = (([], false), s, cySk (newCy 1 grey sus work l) ⟨1, [false, true], [false, false]⟩) := by
  unfold cyStep
  obtain ⟨n, hn⟩ : ∃ n, (newCy 1 grey sus work l).work.toNat = n + 1 := ⟨work.toNat - 1, by show work.toNat = _; omega⟩
  rw [hn]
  exact steps_stop (unit0 rfl)
theorem shake1 {s : Hs} {c : Cy} : cyShake s (cySk c ⟨1, [false, true], [false, false]⟩) 0 [] = (true, cySk c ⟨2, [true, true], [false, false]⟩) := rfl
theorem shake2 {s : Hs} {c : Cy} : cyShake s (cySk c ⟨2, [true, true], [false, false]⟩) 0 [] = (true, cySk c ⟨2, [true, true], [true, false]⟩) := rfl
theorem shake3 {s : Hs} {c : Cy} : cyShake s (cySk c ⟨2, [true, true], [true, false]⟩) 1 [] = (true, cyAnswered c) := rfl
theorem Cy.lt.sk {c : Cy} {n : Nat} {k : Sk} (h : c.lt n) : (cySk c k).lt n := ⟨h.p.turn, h.r, h.rows, h.rlen, h.outs⟩

theorem CycleUnits_ok {rp op ip : Option Addr} {rl rc ol oc il ic : Nat} {g : Gr} {grey suspect : Int} {H : Hp} {K : Value → Hp → Prop} (ga : GrA H rp rl op ol ip il g) (gok : g.ok) (hgr : IntKind.min .i64 ≤ grey ∧ grey ≤ IntKind.max .i64) (hsu : IntKind.min .i64 ≤ suspect ∧ suspect ≤ IntKind.max .i64)
    (hK : ∀ H', Keep Nothing H H' → K (.bool true) H') :
    hcall PR f_law16_CycleUnits ⟨[.agg #[.slice rp rl rc, .slice op ol oc, .slice ip il ic], .int .i64 grey, .int .i64 suspect]⟩ H K := by
  apply den_law16_CycleUnits
  unfold B_law16_CycleUnits
  intro b13 hb13
  have h1 := (St.start H).alloc (o := .cells #[.slice rp rl rc, .slice op ol oc, .slice ip il ic] ty_hand_Graph) hb13
  refine ldSl_of (h1.cell (i := 0) rfl rfl) (ldSl_of (h1.cell (i := 0) rfl rfl) (ldSl_of (h1.cell (i := 0) rfl rfl) ?_))
  refine HeapsC (most := 30) (ga.st h1) gok (by omega) fun hb rb s H2 hs h2 => ?_
  have h2 := h1.join h2
  have hn : grSize g 30 ≤ 40 := by unfold grSize; split <;> omega
  generalize grSize g 30 = n at *
  simp only [asI_mk', asB_mk, asP_mk, asA_mk, asM_mk, asSl_mk, asStr_mk, tup2_mk, tup3_mk, agg1_mk, agg2_mk, agg3_mk, agg4_mk, asAggm, unCons_mk, unNil_mk, asTup_mk, extractD0, extractD1, List.toList_toArray, nilP_mk, add_mk, Nat.zero_add, Nat.add_zero, condT, condF, Bool.not_true, Bool.not_false, Option.isNone_some, Option.isNone_none]
  refine known16_ok h2 fun H3 h3 => ?_
  simp only [asI_mk', asB_mk, asP_mk, asA_mk, asM_mk, asSl_mk, asStr_mk, tup2_mk, tup3_mk, agg1_mk, agg2_mk, agg3_mk, agg4_mk, asAggm, unCons_mk, unNil_mk, asTup_mk, extractD0, extractD1, List.toList_toArray, nilP_mk, add_mk, Nat.zero_add, Nat.add_zero, condT, condF, Bool.not_true, Bool.not_false, Option.isNone_some, Option.isNone_none]
  have p1 := pick_lt (n := grey) (m := 6) (by omega)
  refine Pick_ok (by omega) (by omega) ?_
  simp only [asI_mk', asB_mk, asP_mk, asA_mk, asM_mk, asSl_mk, asStr_mk, tup2_mk, tup3_mk, agg1_mk, agg2_mk, agg3_mk, agg4_mk, asAggm, unCons_mk, unNil_mk, asTup_mk, extractD0, extractD1, List.toList_toArray, nilP_mk, add_mk, Nat.zero_add, Nat.add_zero, condT, condF, Bool.not_true, Bool.not_false, Option.isNone_some, Option.isNone_none]
  generalize pick grey 6 = a at *
  have p2 := pick_lt (n := suspect) (m := 7) (by omega)
  refine Pick_ok (by omega) (by omega) ?_
  simp only [asI_mk', asB_mk, asP_mk, asA_mk, asM_mk, asSl_mk, asStr_mk, tup2_mk, tup3_mk, agg1_mk, agg2_mk, agg3_mk, agg4_mk, asAggm, unCons_mk, unNil_mk, asTup_mk, extractD0, extractD1, List.toList_toArray, nilP_mk, add_mk, Nat.zero_add, Nat.add_zero, condT, condF, Bool.not_true, Bool.not_false, Option.isNone_some, Option.isNone_none]
  generalize pick suspect 7 = u at *
  have w1 : IntKind.i64.wrap (1 + a) = 1 + a := wrap_i64 (by omega) (by omega)
  rw [w1]
  refine cyNewC h3 (i := 0) rfl hs.node (by omega) (by omega) (by omega) (by omega) fun b H4 h4 => ?_
  rw [hs.last] at h4
  simp only [asI_mk', asB_mk, asP_mk, asA_mk, asM_mk, asSl_mk, asStr_mk, tup2_mk, tup3_mk, agg1_mk, agg2_mk, agg3_mk, agg4_mk, asAggm, unCons_mk, unNil_mk, asTup_mk, extractD0, extractD1, List.toList_toArray, nilP_mk, add_mk, Nat.zero_add, Nat.add_zero, condT, condF, Bool.not_true, Bool.not_false, Option.isNone_some, Option.isNone_none]
  refine bif_neqf rfl ?_
  (try simp only [Option.isNone_some, condF])
  refine cyStepC h4 (i := 1) (k := 0) rfl rfl (by decide) (newCy_lt (n := 0)) (by omega) fun fp fc H5 h5 => ?_
  rw [begin1 (by omega)] at h5 ⊢
  have h5 := h5.less
  simp only [asI_mk', asB_mk, asP_mk, asA_mk, asM_mk, asSl_mk, asStr_mk, tup2_mk, tup3_mk, agg1_mk, agg2_mk, agg3_mk, agg4_mk, asAggm, unCons_mk, unNil_mk, asTup_mk, extractD0, extractD1, List.toList_toArray, nilP_mk, add_mk, Nat.zero_add, Nat.add_zero, condT, condF, Bool.not_true, Bool.not_false, Option.isNone_some, Option.isNone_none]
  refine cyShakeC (held := []) h5 (i := 1) (k := 0) rfl rfl (by decide) (fun _ _ _ => rd_nil) (by simp) fun H6 h6 => ?_
  rw [shake1] at h6 ⊢
  simp only [asI_mk', asB_mk, asP_mk, asA_mk, asM_mk, asSl_mk, asStr_mk, tup2_mk, tup3_mk, agg1_mk, agg2_mk, agg3_mk, agg4_mk, asAggm, unCons_mk, unNil_mk, asTup_mk, extractD0, extractD1, List.toList_toArray, nilP_mk, add_mk, Nat.zero_add, Nat.add_zero, condT, condF, Bool.not_true, Bool.not_false, Option.isNone_some, Option.isNone_none]
  refine cyShakeC (held := []) h6 (i := 1) (k := 0) rfl rfl (by decide) (fun _ _ _ => rd_nil) (by simp) fun H7 h7 => ?_
  rw [shake2] at h7 ⊢
  simp only [asI_mk', asB_mk, asP_mk, asA_mk, asM_mk, asSl_mk, asStr_mk, tup2_mk, tup3_mk, agg1_mk, agg2_mk, agg3_mk, agg4_mk, asAggm, unCons_mk, unNil_mk, asTup_mk, extractD0, extractD1, List.toList_toArray, nilP_mk, add_mk, Nat.zero_add, Nat.add_zero, condT, condF, Bool.not_true, Bool.not_false, Option.isNone_some, Option.isNone_none]
  refine cyShakeC (held := []) h7 (i := 1) (k := 0) rfl rfl (by decide) (fun _ _ _ => rd_nil) (by simp) fun H8 h8 => ?_
  rw [shake3] at h8 ⊢
  simp only [asI_mk', asB_mk, asP_mk, asA_mk, asM_mk, asSl_mk, asStr_mk, tup2_mk, tup3_mk, agg1_mk, agg2_mk, agg3_mk, agg4_mk, asAggm, unCons_mk, unNil_mk, asTup_mk, extractD0, extractD1, List.toList_toArray, nilP_mk, add_mk, Nat.zero_add, Nat.add_zero, condT, condF, Bool.not_true, Bool.not_false, Option.isNone_some, Option.isNone_none]
  have hlt0 : (cyAnswered (newCy 1 (1 + a) u 1 n)).lt 0 := (newCy_lt (n := 0)).sk (k := ⟨3, [true, true], [true, true]⟩)
  have hq0 : Quiet s (cyAnswered (newCy 1 (1 + a) u 1 n)) := answered_quiet
  have hw0 : (cyAnswered (newCy 1 (1 + a) u 1 n)).work = 1 := rfl
  have hleft := left_new (s := s) (n := n) hs.len (grey := 1 + a) (sus := u) (work := 1)
  generalize cyAnswered (newCy 1 (1 + a) u 1 n) = c0 at *
  have h8 : St H [CyP b hb c0, HeapP hb s, RHeap rb s, Prt.one b13 (.cells #[.slice rp rl rc, .slice op ol oc, .slice ip il ic] ty_hand_Graph (0, 0))] H8 := h8
  clear h1 h2 h3 h4 h5 h6 h7
  obtain ⟨y1, N1, g1, _, _⟩ := rheapOpenL (i := 2) h8 rfl (.inl rfl)
  refine ldI_of (rheapV g1).last ?_
  rw [hs.last]
  clear g1
  have v0 : IntKind.i64.wrap (n : Int) = n := wrap_i64 (by omega) (by omega)
  have v1 : IntKind.i64.wrap ((n : Int) + 1) = ((n + 1 : Nat) : Int) := by rw [wrap_i64 (by omega) (by omega)]; omega
  have v3 : IntKind.i64.wrap ((n : Int) + 3) = ((n + 3 : Nat) : Int) := by rw [wrap_i64 (by omega) (by omega)]; omega
  have v4 : IntKind.i64.wrap (43 * ((n + 1 : Nat) : Int)) = ((43 * (n + 1) : Nat) : Int) := by rw [wrap_i64 (by omega) (by omega)]; omega
  have b1 : (n + 1) * (n + 3) ≤ 41 * 43 := Nat.mul_le_mul (by omega) (by omega)
  have m1 : ((43 * (n + 1) : Nat) : Int) * ((n + 3 : Nat) : Int) = ((43 * ((n + 1) * (n + 3)) : Nat) : Int) := by rw [← Int.natCast_mul, Nat.mul_assoc]
  have v5 : IntKind.i64.wrap ((43 * ((n + 1) * (n + 3)) : Nat) : Int) = ((43 * ((n + 1) * (n + 3)) : Nat) : Int) := wrap_i64 (by omega) (by omega)
  simp only [v0, v1, v3, v4, m1, v5]
  generalize (n + 1) * (n + 3) = A at *
  refine ⟨fun k H' => ∃ (y : Nat) (s' : Hs) (c' : Cy), k = ((y + 1 : Nat) : Int) ∧ Quiet s' c' ∧ s'.last = n ∧ c'.work = 1 ∧ cyLeft s' n c' + y ≤ 43 * A ∧ c'.lt (7 * y) ∧ St H [CyP b hb c', HeapP hb s', RHeap rb s, Prt.one b13 (.cells #[.slice rp rl rc, .slice op ol oc, .slice ip il ic] ty_hand_Graph (0, 0))] H', fun k _ => ((43 * A : Nat) + 1 - k).toNat,
    ⟨0, s, c0, rfl, hq0, hs.last, hw0, hleft, hlt0, h8⟩, ?_⟩
  clear h8 hq0 hw0 hlt0 hleft
  rintro k H9 ⟨y, s', c', rfl, hq, hl, hw, hleft, hlt, h9⟩
  have hpos := left_pos (s := s') (n := n) (c := c')
  have ho := heap_ok h9 (i := 1) rfl
  have hc := cy_ok h9 (k := 0) rfl
  refine bif_pos (by omega) (cyStepC h9 (i := 1) (k := 0) rfl rfl (by decide) hlt (by omega) fun fp2 fc2 H10 h10 => ?_)
  have e1 : c'.work.toNat = 1 := by rw [hw]; rfl
  have hst := steps_quiet (stir := 0) (m := 1) (fr := []) ho hl hc hq
  have hltn := Cy.lt.steps (stir := 0) (m := 1) (fr := []) ho hc hlt
  have hwk := steps_work (stir := 0) (m := 1) (fr := []) ho hc
  have e2 : cyStep s' c' 0 = cySteps 0 1 s' c' [] := by unfold cyStep; rw [e1]
  rw [e2] at h10 ⊢
  simp only [asI_mk', asB_mk, asP_mk, asA_mk, asM_mk, asSl_mk, asStr_mk, tup2_mk, tup3_mk, agg1_mk, agg2_mk, agg3_mk, agg4_mk, asAggm, unCons_mk, unNil_mk, asTup_mk, extractD0, extractD1, List.toList_toArray, nilP_mk, add_mk, Nat.zero_add, Nat.add_zero, condT, condF, Bool.not_true, Bool.not_false, Option.isNone_some, Option.isNone_none]
  rcases hst with ⟨hend, h0⟩ | ⟨hend, hless, hq', hl'⟩
  · rw [hend]
    simp only [condT]
    refine cyStateC h10 (k := 1) rfl ?_
    simp only [asI_mk', asB_mk, asP_mk, asA_mk, asM_mk, asSl_mk, asStr_mk, tup2_mk, tup3_mk, agg1_mk, agg2_mk, agg3_mk, agg4_mk, asAggm, unCons_mk, unNil_mk, asTup_mk, extractD0, extractD1, List.toList_toArray, nilP_mk, add_mk, Nat.zero_add, Nat.add_zero, condT, condF, Bool.not_true, Bool.not_false, Option.isNone_some, Option.isNone_none]
    rw [h0]
    exact hK H10 h10.keep
  · rw [hend]
    simp only [condF]
    have h11 : St H [CyP b hb (cySteps 0 1 s' c' []).2.2, HeapP hb (cySteps 0 1 s' c' []).2.1, RHeap rb s, Prt.one b13 (.cells #[.slice rp rl rc, .slice op ol oc, .slice ip il ic] ty_hand_Graph (0, 0))] H10 := h10.less
    have w2 : IntKind.i64.wrap (((y + 1 : Nat) : Int) + 1) = ((y + 1 + 1 : Nat) : Int) := by rw [wrap_i64 (by omega) (by omega)]; omega
    rw [w2]
    exact ⟨⟨y + 1, _, _, rfl, hq', hl', hwk.1.trans hw, by omega, hltn.mono (by omega), h11⟩, by (try dsimp only); omega⟩

end Go.Proofs.YtohlnmenghbgbaaGreat
