/- Merged by merge.py: DenLaw11, Law11k, DenLaw11PaintPlays, Law11p. No condition. -/
import Derived.Test.YtojcacejgbnfkaaGreatZNum
import Derived.Test.YtojcacejgbnfkaaGreatZPaint
import Derived.Test.YtojcacejgbnfkaaGreatZSweep
import Derived.Test.YtojcacejgbnfkaaGreatZMark
import Derived.Test.YtojcacejgbnfkaaGreatZReach

namespace Go.Proofs.YtojcacejgbnfkaaGreat
open Go
set_option linter.unusedVariables false
set_option maxRecDepth 100000
def B_law11_known  (H : Hp) (K : Value → Hp → Prop) : Prop :=
 hcall PR f_heap_New ⟨[(.int .i64 1), (.int .i64 64), (.int .i64 4), (.int .u64 0)]⟩ H fun v1 Hx2 =>
 tup2 v1 fun v3 v4 =>
 asP v3 fun t5 =>
 asI .i64 v4 fun t6 =>
 (bif ((t6 : Int) != 0) then
 K (.bool false) Hx2
else
 (bif (Option.isNone (α := Addr) t5) then
 K (.bool false) Hx2
else
 hcall PR f_heap_Heap_Make ⟨[(.pointer t5), (.int .i64 1), (.int .i64 0)]⟩ Hx2 fun v7 Hx8 =>
 tup2 v7 fun v9 v10 =>
 asI .u64 v9 fun t11 =>
 asI .i64 v10 fun t12 =>
 hcall PR f_heap_Heap_Make ⟨[(.pointer t5), (.int .i64 1), (.int .i64 0)]⟩ Hx8 fun v13 Hx14 =>
 tup2 v13 fun v15 v16 =>
 asI .u64 v15 fun t17 =>
 asI .i64 v16 fun t18 =>
 hcall PR f_heap_Heap_SetRef ⟨[(.pointer t5), (.int .u64 1), (.int .i64 0), (.agg #[(.int .i64 1), (.int .u64 2)])]⟩ Hx14 fun v19 Hx20 =>
 tup2 v19 fun v21 v22 =>
 agg2 v21 fun v23 v24 =>
 asI .i64 v23 fun Node25 =>
 asI .u64 v24 fun Serial26 =>
 asI .i64 v22 fun t27 =>
 hcall PR f_heap_Heap_SetRef ⟨[(.pointer t5), (.int .u64 2), (.int .i64 0), (.agg #[(.int .i64 2), (.int .u64 7)])]⟩ Hx20 fun v28 Hx29 =>
 tup2 v28 fun v30 v31 =>
 agg2 v30 fun v32 v33 =>
 asI .i64 v32 fun Node34 =>
 asI .u64 v33 fun Serial35 =>
 asI .i64 v31 fun t36 =>
 hcall PR f_paint_New ⟨[(.pointer t5), (.int .i64 4)]⟩ Hx29 fun v37 Hx38 =>
 tup2 v37 fun v39 v40 =>
 asP v39 fun t41 =>
 asI .i64 v40 fun t42 =>
 (bif ((t42 : Int) != 0) then
 K (.bool false) Hx38
else
 (bif (Option.isNone (α := Addr) t41) then
 K (.bool false) Hx38
else
 hcall PR f_paint_Paint_Turn ⟨[(.pointer t41)]⟩ Hx38 fun v43 Hx44 =>
 hcall PR f_paint_Paint_Shade ⟨[(.pointer t41), (.agg #[(.int .i64 1), (.int .u64 1)]), (.int .i64 3)]⟩ Hx44 fun v45 Hx46 =>
 hcall PR f_paint_Paint_Mark ⟨[(.pointer t41), (.int .u64 1)]⟩ Hx46 fun v47 Hx48 =>
 tup3 v47 fun v49 v50 v51 =>
 asI .i64 v49 fun t52 =>
 asB v50 fun t53 =>
 asB v51 fun t54 =>
 hcall PR f_paint_Paint_Scan ⟨[(.pointer t41), (.int .u64 1)]⟩ Hx48 fun v55 Hx56 =>
 asB v55 fun t57 =>
 hcall PR f_paint_Paint_Mark ⟨[(.pointer t41), (.int .u64 2)]⟩ Hx56 fun v58 Hx59 =>
 tup3 v58 fun v60 v61 v62 =>
 asI .i64 v60 fun t63 =>
 asB v61 fun t64 =>
 asB v62 fun t65 =>
 (bif ((t52 : Int) == 3) then
 (bif t53 then
 (bif t54 then
 (bif t57 then
 (bif ((t63 : Int) == 3) then
 (bif t64 then
 (bif t65 then
 hcall PR f_paint_Paint_Waiting ⟨[(.pointer t41)]⟩ Hx59 fun v66 Hx67 =>
 asI .i64 v66 fun t68 =>
 K (.bool ((t68 : Int) == 2)) Hx67
else
 K (.bool false) Hx59)
else
 K (.bool false) Hx59)
else
 K (.bool false) Hx59)
else
 K (.bool false) Hx59)
else
 K (.bool false) Hx59)
else
 K (.bool false) Hx59)
else
 K (.bool false) Hx59)))))
theorem E_law11_known  (H : Hp) (K : Value → Hp → Prop) : B_law11_known  H K = denF Tryz.prog Tryz.f41 .n [] H K := by kernel_rfl
theorem den_law11_known  {H : Hp} {K : Value → Hp → Prop} (h : B_law11_known  H K) : hcall PR f_law11_known ⟨[]⟩ H K := denF_call Tryz.func41 PR_mixed (Eq.mp (E_law11_known  H K) h)

def B_law11_same (p1 : Option Addr) (r2 : Option Addr) (n3 : Int) (H : Hp) (K : Value → Hp → Prop) : Prop :=
 ∃ (I4 : Int → Hp → Prop) (m5 : Int → Hp → Nat), I4 0 H ∧ ∀ s7 : Int, ∀ Hx6 : Hp, I4 s7 Hx6 →
 (bif (decide ((s7 : Int) ≤ (IntKind.u64.wrap (n3 + 1)))) then
 hcall PR f_paint_Paint_Mark ⟨[(.pointer p1), (.int .u64 s7)]⟩ Hx6 fun v8 Hx9 =>
 tup3 v8 fun v10 v11 v12 =>
 asI .i64 v10 fun t13 =>
 asB v11 fun t14 =>
 asB v12 fun t15 =>
 hcall PR f_ref11_Paint_Mark ⟨[(.pointer r2), (.int .u64 s7)]⟩ Hx9 fun v16 Hx17 =>
 tup3 v16 fun v18 v19 v20 =>
 asI .i64 v18 fun t21 =>
 asB v19 fun t22 =>
 asB v20 fun t23 =>
 (bif ((t13 : Int) != t21) then
 K (.bool false) Hx17
else
 (bif (!(t14 == t22)) then
 K (.bool false) Hx17
else
 (bif (!(t15 == t23)) then
 K (.bool false) Hx17
else
 I4 (IntKind.u64.wrap (s7 + 1)) Hx17 ∧ m5 (IntKind.u64.wrap (s7 + 1)) Hx17 < m5 s7 Hx6)))
else
 hcall PR f_law11_ids ⟨[]⟩ Hx6 fun v24 Hx25 =>
 asSl v24 fun tP26 tL27 tC28 =>
 ∃ (I29 : Int → Hp → Prop) (m30 : Int → Hp → Nat), I29 0 Hx25 ∧ ∀ i32 : Int, ∀ Hx31 : Hp, I29 i32 Hx31 →
 (bif (decide ((i32 : Int) < (tL27 : Int))) then
 idxA tP26 tL27 i32 2 fun el33 =>
 ldI .i64 el33 Hx31 fun Node34 =>
 ldI .u64 (el33.add 1) Hx31 fun Serial35 =>
 hcall PR f_paint_Paint_Met ⟨[(.pointer p1), (.agg #[(.int .i64 Node34), (.int .u64 Serial35)])]⟩ Hx31 fun v36 Hx37 =>
 tup2 v36 fun v38 v39 =>
 asI .i64 v38 fun t40 =>
 asB v39 fun t41 =>
 idxA tP26 tL27 i32 2 fun el42 =>
 ldI .i64 el42 Hx37 fun Node43 =>
 ldI .u64 (el42.add 1) Hx37 fun Serial44 =>
 hcall PR f_ref11_Paint_Met ⟨[(.pointer r2), (.agg #[(.int .i64 Node43), (.int .u64 Serial44)])]⟩ Hx37 fun v45 Hx46 =>
 tup2 v45 fun v47 v48 =>
 asI .i64 v47 fun t49 =>
 asB v48 fun t50 =>
 (bif ((t40 : Int) != t49) then
 K (.bool false) Hx46
else
 (bif (!(t41 == t50)) then
 K (.bool false) Hx46
else
 I29 (IntKind.i64.wrap (i32 + 1)) Hx46 ∧ m30 (IntKind.i64.wrap (i32 + 1)) Hx46 < m30 i32 Hx31))
else
 nilP r2 fun ra51 =>
 ldSl ((ra51.add 1).add 1) Hx31 fun LP52 LL53 LC54 =>
 hcall PR f_paint_Paint_Waiting ⟨[(.pointer p1)]⟩ Hx31 fun v55 Hx56 =>
 asI .i64 v55 fun t57 =>
 (ldSl ((ra51.add 1).add 1) Hx56 fun LP58 LL59 LC60 =>
 ((.slice LP58 LL59 LC60) : Value) = (.slice LP52 LL53 LC54)) ∧
 (bif ((t57 : Int) == (LL53 : Int)) then
 nilP r2 fun ra61 =>
 ldB ((ra61.add 1).add 2) Hx56 fun Over62 =>
 hcall PR f_paint_Paint_Over ⟨[(.pointer p1)]⟩ Hx56 fun v63 Hx64 =>
 asB v63 fun t65 =>
 (ldB ((ra61.add 1).add 2) Hx64 fun Over66 =>
 ((.bool Over66) : Value) = (.bool Over62)) ∧
 (bif (t65 == Over62) then
 nilP r2 fun ra67 =>
 ldI .u64 (ra67.add 4) Hx64 fun Turns68 =>
 hcall PR f_paint_Paint_Turns ⟨[(.pointer p1)]⟩ Hx64 fun v69 Hx70 =>
 asI .u64 v69 fun t71 =>
 (ldI .u64 (ra67.add 4) Hx70 fun Turns72 =>
 ((.int .u64 Turns72) : Value) = (.int .u64 Turns68)) ∧
 (bif ((t71 : Int) == Turns68) then
 hcall PR f_paint_Paint_Outs ⟨[(.pointer p1)]⟩ Hx70 fun v73 Hx74 =>
 asSl v73 fun tP75 tL76 tC77 =>
 hcall PR f_ref11_Paint_Outs ⟨[(.pointer r2)]⟩ Hx74 fun v78 Hx79 =>
 asSl v78 fun tP80 tL81 tC82 =>
 hcall PR f_hand_Outs ⟨[(.slice tP75 tL76 tC77), (.slice tP80 tL81 tC82)]⟩ Hx79 fun v83 Hx84 =>
 asB v83 fun t85 =>
 K (.bool t85) Hx84
else
 K (.bool false) Hx70)
else
 K (.bool false) Hx64)
else
 K (.bool false) Hx56)))
theorem E_law11_same (p1 : Option Addr) (r2 : Option Addr) (n3 : Int) (H : Hp) (K : Value → Hp → Prop) : B_law11_same p1 r2 n3 H K = denF Tryz.prog Tryz.f59 (.seq none .n (.seq none (.seq none .n (.sub (.loop ⟨[(7, .int .u64)], [0, 1, 2]⟩ .n))) (.seq none .n (.seq none (.seq none .n (.sub (.loop ⟨[(15, .int .i64)], [0, 1, 14]⟩ .n))) .n)))) [(.pointer p1), (.pointer r2), (.int .u64 n3)] H K := by kernel_rfl
theorem den_law11_same {p1 : Option Addr} {r2 : Option Addr} {n3 : Int} {H : Hp} {K : Value → Hp → Prop} (h : B_law11_same p1 r2 n3 H K) : hcall PR f_law11_same ⟨[(.pointer p1), (.pointer r2), (.int .u64 n3)]⟩ H K := denF_call Tryz.func59 PR_mixed (Eq.mp (E_law11_same p1 r2 n3 H K) h)

def B_law11_ids  (H : Hp) (K : Value → Hp → Prop) : Prop :=
 ∃ (I1 : Option Addr → Nat → Nat → Int → Hp → Prop) (m2 : Option Addr → Nat → Nat → Int → Hp → Nat), I1 none 0 0 0 H ∧ ∀ outP4 : Option Addr, ∀ outL5 : Nat, ∀ outC6 : Nat, ∀ n7 : Int, ∀ Hx3 : Hp, I1 outP4 outL5 outC6 n7 Hx3 →
 (bif (decide ((n7 : Int) ≤ 3)) then
 ∃ (I8 : Option Addr → Nat → Nat → Int → Hp → Prop) (m9 : Option Addr → Nat → Nat → Int → Hp → Nat), I8 outP4 outL5 outC6 0 Hx3 ∧ ∀ outP11 : Option Addr, ∀ outL12 : Nat, ∀ outC13 : Nat, ∀ s14 : Int, ∀ Hx10 : Hp, I8 outP11 outL12 outC13 s14 Hx10 →
 (bif (decide ((s14 : Int) ≤ 6)) then
 newB (.cells #[(.int .i64 n7), (.int .u64 (IntKind.u64.wrap s14))] ty_api_ID) Hx10 fun b15 Hx16 =>
 evW PR (Builtin.append_ #[ty_Sapi_ID, ty_Sapi_ID] ty_Sapi_ID #[(.slice outP11 outL12 outC13), (.slice (some ⟨b15, 0, none⟩) 1 1)]) Hx16 fun v17 Hx18 =>
 asSl v17 fun tP19 tL20 tC21 =>
 I8 tP19 tL20 tC21 (IntKind.i64.wrap (s14 + 1)) Hx18 ∧ m9 tP19 tL20 tC21 (IntKind.i64.wrap (s14 + 1)) Hx18 < m9 outP11 outL12 outC13 s14 Hx10
else
 I1 outP11 outL12 outC13 (IntKind.i64.wrap (n7 + 1)) Hx10 ∧ m2 outP11 outL12 outC13 (IntKind.i64.wrap (n7 + 1)) Hx10 < m2 outP4 outL5 outC6 n7 Hx3)
else
 K (.slice outP4 outL5 outC6) Hx3)
theorem E_law11_ids  (H : Hp) (K : Value → Hp → Prop) : B_law11_ids  H K = denF Tryz.prog Tryz.f134 (.seq none .n (.seq none .n (.seq none (.seq none .n (.sub (.loop ⟨[(1, .sl), (2, .int .i64)], []⟩ (.seq none .n (.seq none (.sub (.seq none .n (.sub (.loop ⟨[(1, .sl), (3, .int .i64)], [2]⟩ .n)))) .n))))) .n))) [] H K := by kernel_rfl
theorem den_law11_ids  {H : Hp} {K : Value → Hp → Prop} (h : B_law11_ids  H K) : hcall PR f_law11_ids ⟨[]⟩ H K := denF_call Tryz.func134 PR_mixed (Eq.mp (E_law11_ids  H K) h)

end Go.Proofs.YtojcacejgbnfkaaGreat

namespace Go.Proofs.YtojcacejgbnfkaaGreat
set_option linter.unusedSimpArgs false
set_option linter.unusedVariables false
open Go
/-- Two objects, the one leading to the other, that one to another node's. -/
theorem known11_heap {s : Hs} {c1 c2 : Int} (ho : s.ok) (hobs : s.obs = [⟨1, c1, [⟨1, 2⟩], [], 0⟩, ⟨2, c2, [⟨2, 7⟩], [], 0⟩]) (hn : s.node = 1) :
    pShade s (pTurn (newPs 4)) ⟨1, 1⟩ 3 = ⟨[(1, (3, true))], [], [1], 4, false, 1⟩ ∧ pMark s ⟨[(1, (3, true))], [], [1], 4, false, 1⟩ 1 = (3, true, true) ∧
    pScan s ⟨[(1, (3, true))], [], [1], 4, false, 1⟩ 1 = (true, ⟨[(1, (3, false)), (2, (3, true))], [], [1, 2], 4, false, 1⟩) ∧ pMark s ⟨[(1, (3, false)), (2, (3, true))], [], [1, 2], 4, false, 1⟩ 2 = (3, true, true) := by
  have g1 : hGet s 1 = some ⟨1, c1, [⟨1, 2⟩], [], 0⟩ := by unfold hGet; rw [hobs]; rfl
  have g2 : hGet s 2 = some ⟨2, c2, [⟨2, 7⟩], [], 0⟩ := by unfold hGet; rw [hobs]; rfl
  have h1 : ¬ hGet s 1 = none := by rw [g1]; simp
  have h2 : ¬ hGet s 2 = none := by rw [g2]; simp
  refine ⟨?_, ?_, ?_, ?_⟩
  · unfold pShade
    rw [if_neg (by decide), if_neg (by rw [hn]; simp), if_neg h1]
    rfl
  · unfold pMark
    rw [show mlook (⟨[(1, (3, true))], [], [1], 4, false, 1⟩ : Ps).marks 1 = some (3, true) from rfl]
    simp only
    rw [if_neg h1]
  · unfold pScan
    rw [g1, show mlook (⟨[(1, (3, true))], [], [1], 4, false, 1⟩ : Ps).marks 1 = some (3, true) from rfl]
    simp only [pShades, List.foldl_cons, List.foldl_nil]
    unfold pShade
    rw [if_neg (by decide), if_neg (by rw [hn]; simp), if_neg h2]
    rfl
  · unfold pMark
    rw [show mlook (⟨[(1, (3, false)), (2, (3, true))], [], [1, 2], 4, false, 1⟩ : Ps).marks 2 = some (3, true) from rfl]
    simp only
    rw [if_neg h2]

theorem known11_ok {H0 H : Hp} {L : List Prt} {K : Value → Hp → Prop} (h : St H0 L H) (hK : ∀ H', St H0 L H' → K (.bool true) H') : hcall PR f_law11_known ⟨[]⟩ H K := by
  apply den_law11_known
  unfold B_law11_known
  refine hNewOk (m := 4) (by decide) (by decide) (by decide) (by decide) (by decide) h fun hb H1 h1 => ?_
  simp only [asI_mk', asB_mk, asP_mk, asA_mk, asM_mk, asSl_mk, asStr_mk, tup2_mk, tup3_mk, agg1_mk, agg2_mk, agg3_mk, agg4_mk, asAggm, unCons_mk, unNil_mk, asTup_mk, extractD0, extractD1, List.toList_toArray, nilP_mk, add_mk, Nat.zero_add, Nat.add_zero, condT, condF, Bool.not_true, Bool.not_false, Option.isNone_some, Option.isNone_none]
  refine bif_neqf rfl ?_
  obtain ⟨s1, c1, a0, a1, a2, a3, a4, a5, a6⟩ := hMake_good' (s := newHs 1 4 0 4) (r := 1) (v := 0) (heap_ok h1 (i := 0) rfl) (by omega) (by omega) (by decide) (by decide) (by show 0 < frees (List.replicate 4 noBlk); rw [frees_new]; omega)
  refine hMakeC h1 (i := 0) rfl (by decide) (by decide) fun H2 h2 => ?_
  rw [a0] at h2 ⊢
  have h2 : St H0 (HeapP hb s1 :: L) H2 := h2
  simp only [asI_mk', asB_mk, asP_mk, asA_mk, asM_mk, asSl_mk, asStr_mk, tup2_mk, tup3_mk, agg1_mk, agg2_mk, agg3_mk, agg4_mk, asAggm, unCons_mk, unNil_mk, asTup_mk, extractD0, extractD1, List.toList_toArray, nilP_mk, add_mk, Nat.zero_add, Nat.add_zero, condT, condF, Bool.not_true, Bool.not_false, Option.isNone_some, Option.isNone_none]
  have a1 : s1.last = 1 := a1
  have a2 : s1.most = 4 := a2
  have a3 : s1.node = 1 := a3
  have a4 : s1.obs = [⟨1, c1, [noId], [], 0⟩] := a4
  have a5 : 4 ≤ frees s1.ar + 1 := by
    have e : frees (newHs 1 4 0 4).ar = 4 := by show frees (List.replicate 4 noBlk) = 4; rw [frees_new]
    omega
  obtain ⟨s2, c2, b0, b1, b2, b3, b4, b5, b6⟩ := hMake_good' (s := s1) (r := 1) (v := 0) a6 (by omega) (by omega) (by rw [a4, a2]; simp) (by rw [a1]; decide) (by omega)
  refine hMakeC h2 (i := 0) rfl (by decide) (by decide) fun H3 h3 => ?_
  rw [b0] at h3 ⊢
  have h3 : St H0 (HeapP hb s2 :: L) H3 := h3
  simp only [asI_mk', asB_mk, asP_mk, asA_mk, asM_mk, asSl_mk, asStr_mk, tup2_mk, tup3_mk, agg1_mk, agg2_mk, agg3_mk, agg4_mk, asAggm, unCons_mk, unNil_mk, asTup_mk, extractD0, extractD1, List.toList_toArray, nilP_mk, add_mk, Nat.zero_add, Nat.add_zero, condT, condF, Bool.not_true, Bool.not_false, Option.isNone_some, Option.isNone_none]
  have b3 : s2.node = 1 := by rw [b3, a3]
  have b4 : s2.obs = [⟨1, c1, [noId], [], 0⟩, ⟨2, c2, [noId], [], 0⟩] := by rw [b4, a4, a1]; rfl
  refine hSetRefC (y := ⟨1, 2⟩) h3 (i := 0) rfl fun H4 h4 => ?_
  simp only [asI_mk', asB_mk, asP_mk, asA_mk, asM_mk, asSl_mk, asStr_mk, tup2_mk, tup3_mk, agg1_mk, agg2_mk, agg3_mk, agg4_mk, asAggm, unCons_mk, unNil_mk, asTup_mk, extractD0, extractD1, List.toList_toArray, nilP_mk, add_mk, Nat.zero_add, Nat.add_zero, condT, condF, Bool.not_true, Bool.not_false, Option.isNone_some, Option.isNone_none]
  have d1 : (hSetRef s2 1 0 ⟨1, 2⟩).2.2 = { s2 with obs := [⟨1, c1, [⟨1, 2⟩], [], 0⟩, ⟨2, c2, [noId], [], 0⟩] } := by
    have g1 : hGet s2 1 = some ⟨1, c1, [noId], [], 0⟩ := by unfold hGet; rw [b4]; rfl
    have hr : (hRef s2 1 0).2 = 0 := by unfold hRef; rw [g1]; rfl
    unfold hSetRef
    rw [if_neg (by decide), if_pos hr]
    unfold hPut
    rw [b4]
    rfl
  rw [d1] at h4
  have h4 : St H0 (HeapP hb { s2 with obs := [⟨1, c1, [⟨1, 2⟩], [], 0⟩, ⟨2, c2, [noId], [], 0⟩] } :: L) H4 := h4
  refine hSetRefC (y := ⟨2, 7⟩) h4 (i := 0) rfl fun H5 h5 => ?_
  simp only [asI_mk', asB_mk, asP_mk, asA_mk, asM_mk, asSl_mk, asStr_mk, tup2_mk, tup3_mk, agg1_mk, agg2_mk, agg3_mk, agg4_mk, asAggm, unCons_mk, unNil_mk, asTup_mk, extractD0, extractD1, List.toList_toArray, nilP_mk, add_mk, Nat.zero_add, Nat.add_zero, condT, condF, Bool.not_true, Bool.not_false, Option.isNone_some, Option.isNone_none]
  have d2 : (hSetRef { s2 with obs := [⟨1, c1, [⟨1, 2⟩], [], 0⟩, ⟨2, c2, [noId], [], 0⟩] } 2 0 ⟨2, 7⟩).2.2 = { s2 with obs := [⟨1, c1, [⟨1, 2⟩], [], 0⟩, ⟨2, c2, [⟨2, 7⟩], [], 0⟩] } := by
    rfl
  rw [d2] at h5
  have h5 : St H0 (HeapP hb { s2 with obs := [⟨1, c1, [⟨1, 2⟩], [], 0⟩, ⟨2, c2, [⟨2, 7⟩], [], 0⟩] } :: L) H5 := h5
  obtain ⟨k1, k2, k3, k4⟩ := known11_heap (s := { s2 with obs := [⟨1, c1, [⟨1, 2⟩], [], 0⟩, ⟨2, c2, [⟨2, 7⟩], [], 0⟩] }) (heap_ok h5 (i := 0) rfl) rfl b3
  generalize ({ s2 with obs := [⟨1, c1, [⟨1, 2⟩], [], 0⟩, ⟨2, c2, [⟨2, 7⟩], [], 0⟩] } : Hs) = s at *
  refine pNewOk h5 (by omega) (by omega) fun pb H6 h6 => ?_
  simp only [asI_mk', asB_mk, asP_mk, asA_mk, asM_mk, asSl_mk, asStr_mk, tup2_mk, tup3_mk, agg1_mk, agg2_mk, agg3_mk, agg4_mk, asAggm, unCons_mk, unNil_mk, asTup_mk, extractD0, extractD1, List.toList_toArray, nilP_mk, add_mk, Nat.zero_add, Nat.add_zero, condT, condF, Bool.not_true, Bool.not_false, Option.isNone_some, Option.isNone_none]
  refine bif_neqf rfl ?_
  refine pTurnC h6 (j := 0) rfl fun H7 h7 => ?_
  refine pShadeC (y := ⟨1, 1⟩) h7 (i := 1) (j := 0) rfl rfl (by decide) fun H8 h8 => ?_
  rw [k1] at h8
  refine pMarkC h8 (i := 1) (j := 0) rfl rfl (by decide) fun H9 h9 => ?_
  rw [k2]
  simp only [asI_mk', asB_mk, asP_mk, asA_mk, asM_mk, asSl_mk, asStr_mk, tup2_mk, tup3_mk, agg1_mk, agg2_mk, agg3_mk, agg4_mk, asAggm, unCons_mk, unNil_mk, asTup_mk, extractD0, extractD1, List.toList_toArray, nilP_mk, add_mk, Nat.zero_add, Nat.add_zero, condT, condF, Bool.not_true, Bool.not_false, Option.isNone_some, Option.isNone_none]
  refine pScanC h9 (i := 1) (j := 0) rfl rfl (by decide) fun H10 h10 => ?_
  rw [k3] at h10 ⊢
  simp only [asI_mk', asB_mk, asP_mk, asA_mk, asM_mk, asSl_mk, asStr_mk, tup2_mk, tup3_mk, agg1_mk, agg2_mk, agg3_mk, agg4_mk, asAggm, unCons_mk, unNil_mk, asTup_mk, extractD0, extractD1, List.toList_toArray, nilP_mk, add_mk, Nat.zero_add, Nat.add_zero, condT, condF, Bool.not_true, Bool.not_false, Option.isNone_some, Option.isNone_none]
  refine pMarkC h10 (i := 1) (j := 0) rfl rfl (by decide) fun H11 h11 => ?_
  rw [k4]
  simp only [asI_mk', asB_mk, asP_mk, asA_mk, asM_mk, asSl_mk, asStr_mk, tup2_mk, tup3_mk, agg1_mk, agg2_mk, agg3_mk, agg4_mk, asAggm, unCons_mk, unNil_mk, asTup_mk, extractD0, extractD1, List.toList_toArray, nilP_mk, add_mk, Nat.zero_add, Nat.add_zero, condT, condF, Bool.not_true, Bool.not_false, Option.isNone_some, Option.isNone_none]
  refine bif_eq rfl (bif_eq rfl ?_)
  refine pWaitingC h11 (j := 0) rfl ?_
  simp only [asI_mk', asB_mk, asP_mk, asA_mk, asM_mk, asSl_mk, asStr_mk, tup2_mk, tup3_mk, agg1_mk, agg2_mk, agg3_mk, agg4_mk, asAggm, unCons_mk, unNil_mk, asTup_mk, extractD0, extractD1, List.toList_toArray, nilP_mk, add_mk, Nat.zero_add, Nat.add_zero, condT, condF, Bool.not_true, Bool.not_false, Option.isNone_some, Option.isNone_none]
  exact hK H11 (St.lesses (M := [_, _]) h11)


end Go.Proofs.YtojcacejgbnfkaaGreat

namespace Go.Proofs.YtojcacejgbnfkaaGreat
open Go
set_option linter.unusedVariables false
set_option maxRecDepth 100000
def B_law11_PaintPlays (gRefsP1 : Option Addr) (gRefsL2 : Nat) (gRefsC3 : Nat) (gOutP4 : Option Addr) (gOutL5 : Nat) (gOutC6 : Nat) (gInP7 : Option Addr) (gInL8 : Nat) (gInC9 : Nat) (most10 : Int) (lP11 : Option Addr) (lL12 : Nat) (lC13 : Nat) (H : Hp) (K : Value → Hp → Prop) : Prop :=
 newB (.cells #[(.slice gRefsP1 gRefsL2 gRefsC3), (.slice gOutP4 gOutL5 gOutC6), (.slice gInP7 gInL8 gInC9)] ty_hand_Graph) H fun b14 Hx15 =>
 ldSl ⟨b14, 0, none⟩ Hx15 fun RefsP16 RefsL17 RefsC18 =>
 ldSl ⟨b14, 1, none⟩ Hx15 fun OutP19 OutL20 OutC21 =>
 ldSl ⟨b14, 2, none⟩ Hx15 fun InP22 InL23 InC24 =>
 hcall PR f_hand_Graph_Heaps ⟨[(.agg #[(.slice RefsP16 RefsL17 RefsC18), (.slice OutP19 OutL20 OutC21), (.slice InP22 InL23 InC24)]), (.int .i64 30)]⟩ Hx15 fun v25 Hx26 =>
 tup2 v25 fun v27 v28 =>
 asP v27 fun t29 =>
 asP v28 fun t30 =>
 hcall PR f_law11_known ⟨[]⟩ Hx26 fun v31 Hx32 =>
 asB v31 fun t33 =>
 (bif (!t33) then
 K (.bool false) Hx32
else
 (bif (Option.isNone (α := Addr) t29) then
 K (.bool false) Hx32
else
 hcall PR f_paint_New ⟨[(.pointer t29), (.int .i64 most10)]⟩ Hx32 fun v34 Hx35 =>
 tup2 v34 fun v36 v37 =>
 asP v36 fun t38 =>
 asI .i64 v37 fun t39 =>
 (bif (decide ((most10 : Int) < 1)) then
 (bif ((t39 : Int) == 1) then
 K (.bool (Option.isNone (α := Addr) t38)) Hx35
else
 K (.bool false) Hx35)
else
 (bif (decide ((most10 : Int) > 64)) then
 (bif ((t39 : Int) == 1) then
 K (.bool (Option.isNone (α := Addr) t38)) Hx35
else
 K (.bool false) Hx35)
else
 (bif ((t39 : Int) != 0) then
 K (.bool false) Hx35
else
 (bif (Option.isNone (α := Addr) t38) then
 K (.bool false) Hx35
else
 hcall PR f_ref11_NewPaint ⟨[(.pointer t30), (.int .i64 most10)]⟩ Hx35 fun v40 Hx41 =>
 asP v40 fun t42 =>
 ∃ (I43 : Int → Hp → Prop) (m44 : Int → Hp → Nat), I43 0 Hx41 ∧ ∀ i46 : Int, ∀ Hx45 : Hp, I43 i46 Hx45 →
 (bif (decide ((i46 : Int) < (lL12 : Int))) then
 (bif (decide ((i46 : Int) < 120)) then
 idxA lP11 lL12 i46 6 fun el47 =>
 ldI .i64 el47 Hx45 fun What48 =>
 ldI .i64 (el47.add 1) Hx45 fun Rank49 =>
 ldI .u64 (el47.add 2) Hx45 fun Serial50 =>
 ldI .i64 (el47.add 3) Hx45 fun Node51 =>
 ldI .u64 (el47.add 4) Hx45 fun Serial52 =>
 ldB (el47.add 5) Hx45 fun Near53 =>
 newB (.cells #[(.int .i64 0), (.int .i64 0), (.int .u64 0), (.int .i64 0), (.int .u64 0), (.bool false)] ty_law11_Step) Hx45 fun b54 Hx55 =>
 st ⟨b54, 0, none⟩ (.int .i64 What48) Hx55 fun Hx56 =>
 st ⟨b54, 1, none⟩ (.int .i64 Rank49) Hx56 fun Hx57 =>
 st ⟨b54, 2, none⟩ (.int .u64 Serial50) Hx57 fun Hx58 =>
 st ⟨b54, 3, none⟩ (.int .i64 Node51) Hx58 fun Hx59 =>
 st ⟨b54, 4, none⟩ (.int .u64 Serial52) Hx59 fun Hx60 =>
 st ⟨b54, 5, none⟩ (.bool Near53) Hx60 fun Hx61 =>
 ∀ R62 : Hp → Prop, (∀ Hx63 : Hp, (
 ∀ R64 : Bool → Hp → Prop, (∀ ok66 : Bool, ∀ Hx65 : Hp, (
 (bif (!ok66) then
 K (.bool false) Hx65
else
 nilP t30 fun ta67 =>
 ldI .u64 (ta67.add 2) Hx65 fun Last68 =>
 hcall PR f_law11_same ⟨[(.pointer t38), (.pointer t42), (.int .u64 Last68)]⟩ Hx65 fun v69 Hx70 =>
 asB v69 fun t71 =>
 (bif (!t71) then
 K (.bool false) Hx70
else
 I43 (IntKind.i64.wrap (i46 + 1)) Hx70 ∧ m44 (IntKind.i64.wrap (i46 + 1)) Hx70 < m44 i46 Hx45))) → R64 ok66 Hx65) →
 ldI .i64 ⟨b54, 0, none⟩ Hx63 fun What72 =>
 hcall PR f_hand_Pick ⟨[(.int .i64 What72), (.int .i64 12)]⟩ Hx63 fun v73 Hx74 =>
 asI .i64 v73 fun t75 =>
 ∀ R76 : Bool → Hp → Prop, (∀ t78 : Bool, ∀ Hx77 : Hp, (
 (bif t78 then
 ldI .u64 ⟨b54, 2, none⟩ Hx77 fun Serial79 =>
 ldI .u64 ⟨b54, 2, none⟩ Hx77 fun Serial80 =>
 hcall PR f_paint_Paint_Scan ⟨[(.pointer t38), (.int .u64 Serial79)]⟩ Hx77 fun v81 Hx82 =>
 asB v81 fun t83 =>
 (ldI .u64 ⟨b54, 2, none⟩ Hx82 fun Serial84 =>
 ((.int .u64 Serial84) : Value) = (.int .u64 Serial80)) ∧
 hcall PR f_ref11_Paint_Scan ⟨[(.pointer t42), (.int .u64 Serial80)]⟩ Hx82 fun v85 Hx86 =>
 asB v85 fun t87 =>
 R64 (t83 == t87) Hx86
else
 (bif ((t75 : Int) == 5) then
 hcall PR f_paint_Paint_Pop ⟨[(.pointer t38)]⟩ Hx77 fun v88 Hx89 =>
 tup2 v88 fun v90 v91 =>
 asI .u64 v90 fun t92 =>
 asB v91 fun t93 =>
 nilP t42 fun ta94 =>
 hcall PR f_ref4_WordStack_Pop ⟨[(.pointer (some (ta94.add 1)))]⟩ Hx89 fun v95 Hx96 =>
 tup2 v95 fun v97 v98 =>
 asI .u64 v97 fun t99 =>
 asB v98 fun t100 =>
 (bif ((t92 : Int) == t99) then
 (bif (t93 == t100) then
 hcall PR f_paint_Paint_Scan ⟨[(.pointer t38), (.int .u64 t92)]⟩ Hx96 fun v101 Hx102 =>
 asB v101 fun t103 =>
 hcall PR f_ref11_Paint_Scan ⟨[(.pointer t42), (.int .u64 t99)]⟩ Hx102 fun v104 Hx105 =>
 asB v104 fun t106 =>
 R64 (t103 == t106) Hx105
else
 R64 false Hx96)
else
 R64 false Hx96)
else
 (bif ((t75 : Int) == 6) then
 ldI .u64 ⟨b54, 2, none⟩ Hx77 fun Serial107 =>
 hcall PR f_paint_Paint_Blacken ⟨[(.pointer t38), (.int .u64 Serial107)]⟩ Hx77 fun v108 Hx109 =>
 ldI .u64 ⟨b54, 2, none⟩ Hx109 fun Serial110 =>
 hcall PR f_ref11_Paint_Blacken ⟨[(.pointer t42), (.int .u64 Serial110)]⟩ Hx109 fun v111 Hx112 =>
 R64 true Hx112
else
 (bif ((t75 : Int) == 7) then
 ldI .u64 ⟨b54, 2, none⟩ Hx77 fun Serial113 =>
 hcall PR f_paint_Paint_Forget ⟨[(.pointer t38), (.int .u64 Serial113)]⟩ Hx77 fun v114 Hx115 =>
 ldI .u64 ⟨b54, 2, none⟩ Hx115 fun Serial116 =>
 hcall PR f_ref11_Paint_Forget ⟨[(.pointer t42), (.int .u64 Serial116)]⟩ Hx115 fun v117 Hx118 =>
 R64 true Hx118
else
 (bif ((t75 : Int) == 8) then
 hcall PR f_paint_Paint_Rest ⟨[(.pointer t38)]⟩ Hx77 fun v119 Hx120 =>
 nilP t42 fun ta121 =>
 st ((ta121.add 1).add 2) (.bool false) Hx120 fun Hx122 =>
 R64 true Hx122
else
 (bif ((t75 : Int) == 9) then
 ldI .i64 ⟨b54, 1, none⟩ Hx77 fun Rank123 =>
 (7 : Int) ≠ 0 ∧
 (bif (((Int.tmod Rank123 7) : Int) == 0) then
 hcall PR f_paint_Paint_Turn ⟨[(.pointer t38)]⟩ Hx77 fun v124 Hx125 =>
 hcall PR f_ref11_Paint_Turn ⟨[(.pointer t42)]⟩ Hx125 fun v126 Hx127 =>
 R64 true Hx127
else
 R64 true Hx77)
else
 (bif ((t75 : Int) == 10) then
 hcall PR f_heap_Heap_Make ⟨[(.pointer t29), (.int .i64 1), (.int .i64 0)]⟩ Hx77 fun v128 Hx129 =>
 tup2 v128 fun v130 v131 =>
 asI .u64 v130 fun t132 =>
 asI .i64 v131 fun t133 =>
 hcall PR f_ref8_Heap_Make ⟨[(.pointer t30), (.int .i64 1), (.int .i64 0)]⟩ Hx129 fun v134 Hx135 =>
 tup2 v134 fun v136 v137 =>
 asI .u64 v136 fun t138 =>
 asI .i64 v137 fun t139 =>
 R64 true Hx135
else
 (bif ((t75 : Int) == 11) then
 ldI .u64 ⟨b54, 2, none⟩ Hx77 fun Serial140 =>
 hcall PR f_heap_Heap_Free ⟨[(.pointer t29), (.int .u64 Serial140)]⟩ Hx77 fun v141 Hx142 =>
 asI .i64 v141 fun t143 =>
 ldI .u64 ⟨b54, 2, none⟩ Hx142 fun Serial144 =>
 hcall PR f_ref8_Heap_Free ⟨[(.pointer t30), (.int .u64 Serial144)]⟩ Hx142 fun v145 Hx146 =>
 asI .i64 v145 fun t147 =>
 R64 true Hx146
else
 ldI .i64 ⟨b54, 3, none⟩ Hx77 fun Node148 =>
 ldI .u64 ⟨b54, 4, none⟩ Hx77 fun Serial149 =>
 ldI .i64 ⟨b54, 1, none⟩ Hx77 fun Rank150 =>
 hcall PR f_paint_Paint_Shade ⟨[(.pointer t38), (.agg #[(.int .i64 Node148), (.int .u64 Serial149)]), (.int .i64 Rank150)]⟩ Hx77 fun v151 Hx152 =>
 ldI .i64 ⟨b54, 3, none⟩ Hx152 fun Node153 =>
 ldI .u64 ⟨b54, 4, none⟩ Hx152 fun Serial154 =>
 ldI .i64 ⟨b54, 1, none⟩ Hx152 fun Rank155 =>
 hcall PR f_ref11_Paint_Shade ⟨[(.pointer t42), (.agg #[(.int .i64 Node153), (.int .u64 Serial154)]), (.int .i64 Rank155)]⟩ Hx152 fun v156 Hx157 =>
 R64 true Hx157))))))))) → R76 t78 Hx77) →
 (bif ((t75 : Int) == 3) then
 R76 ((t75 : Int) == 3) Hx74
else
 R76 ((t75 : Int) == 4) Hx74)) → R62 Hx63) →
 ldB ⟨b54, 5, none⟩ Hx61 fun Near158 =>
 (bif Near158 then
 ldI .u64 ⟨b54, 2, none⟩ Hx61 fun Serial159 =>
 nilP t30 fun ta160 =>
 ldI .u64 (ta160.add 2) Hx61 fun Last161 =>
 ((IntKind.u64.wrap (Last161 + 2)) : Int) ≠ 0 ∧
 st ⟨b54, 2, none⟩ (.int .u64 (Int.tmod Serial159 (IntKind.u64.wrap (Last161 + 2)))) Hx61 fun Hx162 =>
 ldI .u64 ⟨b54, 2, none⟩ Hx162 fun Serial163 =>
 st ⟨b54, 3, none⟩ (.int .i64 1) Hx162 fun Hx164 =>
 st ⟨b54, 4, none⟩ (.int .u64 Serial163) Hx164 fun Hx165 =>
 R62 Hx165
else
 R62 Hx61)
else
 K (.bool true) Hx45)
else
 K (.bool true) Hx45)))))))
theorem E_law11_PaintPlays (gRefsP1 : Option Addr) (gRefsL2 : Nat) (gRefsC3 : Nat) (gOutP4 : Option Addr) (gOutL5 : Nat) (gOutC6 : Nat) (gInP7 : Option Addr) (gInL8 : Nat) (gInC9 : Nat) (most10 : Int) (lP11 : Option Addr) (lL12 : Nat) (lC13 : Nat) (H : Hp) (K : Value → Hp → Prop) : B_law11_PaintPlays gRefsP1 gRefsL2 gRefsC3 gOutP4 gOutL5 gOutC6 gInP7 gInL8 gInC9 most10 lP11 lL12 lC13 H K = denF Tryz.prog Tryz.f5 (.seq none .n (.seq none .n (.seq none .n (.seq none .n (.seq none .n (.seq none .n (.seq none .n (.seq none (.seq none .n (.sub (.loop ⟨[(12, .int .i64)], [2, 7, 8, 9, 11]⟩ (.seq none .n (.seq none (.sub (.seq none .n (.seq (some ⟨[], [2, 7, 8, 9, 11, 12, 13]⟩) .n (.seq none .n (.seq (some ⟨[(14, .bool)], [2, 7, 8, 9, 11, 12]⟩) (.seq none .n (.sub (.seq (some ⟨[(101, .bool)], [2, 7, 8, 9, 11, 12, 13, 14, 88]⟩) .n .n))) .n))))) .n))))) .n)))))))) [(.agg #[(.slice gRefsP1 gRefsL2 gRefsC3), (.slice gOutP4 gOutL5 gOutC6), (.slice gInP7 gInL8 gInC9)]), (.int .i64 most10), (.slice lP11 lL12 lC13)] H K := by kernel_rfl
theorem den_law11_PaintPlays {gRefsP1 : Option Addr} {gRefsL2 : Nat} {gRefsC3 : Nat} {gOutP4 : Option Addr} {gOutL5 : Nat} {gOutC6 : Nat} {gInP7 : Option Addr} {gInL8 : Nat} {gInC9 : Nat} {most10 : Int} {lP11 : Option Addr} {lL12 : Nat} {lC13 : Nat} {H : Hp} {K : Value → Hp → Prop} (h : B_law11_PaintPlays gRefsP1 gRefsL2 gRefsC3 gOutP4 gOutL5 gOutC6 gInP7 gInL8 gInC9 most10 lP11 lL12 lC13 H K) : hcall PR f_law11_PaintPlays ⟨[(.agg #[(.slice gRefsP1 gRefsL2 gRefsC3), (.slice gOutP4 gOutL5 gOutC6), (.slice gInP7 gInL8 gInC9)]), (.int .i64 most10), (.slice lP11 lL12 lC13)]⟩ H K := denF_call Tryz.func5 PR_mixed (Eq.mp (E_law11_PaintPlays gRefsP1 gRefsL2 gRefsC3 gOutP4 gOutL5 gOutC6 gInP7 gInL8 gInC9 most10 lP11 lL12 lC13 H K) h)

end Go.Proofs.YtojcacejgbnfkaaGreat

namespace Go.Proofs.YtojcacejgbnfkaaGreat
set_option linter.unusedSimpArgs false
set_option linter.unusedVariables false
open Go
section
variable {H0 H : Hp} {L M : List Prt} {i j k m hb pb rb qb : Nat} {s : Hs} {p : Ps} {K : Value → Hp → Prop}
theorem ids11C (h : St H0 L H) (hK : ∀ q c (l : List Id) H', l.length ≤ 100 → St H0 (Prt.row 2 q l.length c (cel Id.cells l) :: L) H' → K (.slice q l.length c) H') : hcall PR f_law11_ids ⟨[]⟩ H K := by
  apply den_law11_ids
  unfold B_law11_ids
  refine ⟨fun oP oL oC n H' => ∃ (y : Nat) (l : List Id), n = y ∧ y ≤ 4 ∧ oL = l.length ∧ l.length = 7 * y ∧ St H0 (Prt.row 2 oP l.length oC (cel Id.cells l) :: L) H', fun _ _ _ n _ => (4 - n).toNat, ⟨0, [], rfl, by omega, rfl, rfl, h.row (H' := _) (Own.nil 2) ((Goes.refl Nothing _).less fun c hc => absurd hc blk_none)⟩, ?_⟩
  rintro oP oL oC n H1 ⟨y, l, rfl, hy, rfl, hl, h1⟩
  by_cases hc : (y : Int) ≤ 3
  rotate_left
  · exact bif_neg hc (hK oP oC l H1 (by omega) h1)
  refine bif_pos hc ?_
  refine ⟨fun oP oL oC z H' => ∃ (w : Nat) (l : List Id), z = w ∧ w ≤ 7 ∧ oL = l.length ∧ l.length = 7 * y + w ∧ St H0 (Prt.row 2 oP l.length oC (cel Id.cells l) :: L) H', fun _ _ _ z _ => (7 - z).toNat, ⟨0, l, rfl, by omega, rfl, by omega, h1⟩, ?_⟩
  clear h1 hl
  rintro oP oL oC z H2 ⟨w, l, rfl, hw, rfl, hl, h2⟩
  by_cases hc2 : (w : Int) ≤ 6
  rotate_left
  · refine bif_neg hc2 ?_
    rw [wrap_i64 (by omega) (by omega)]
    exact ⟨⟨y + 1, l, by omega, by omega, rfl, by omega, h2⟩, by (try dsimp only); omega⟩
  refine bif_pos hc2 ?_
  refine lit_ty_Sapi_ID (m := 1) (c := #[.int .i64 (y : Int), .int .u64 (IntKind.u64.wrap (w : Int))]) (h2.row_own (i := 0) rfl) rfl (fun z hz => by simp at hz; rcases hz with rfl | rfl <;> rfl) (by omega) fun p' cap' H3 ho' hg' => ?_
  (try simp only [asI_mk', asB_mk, asP_mk, asA_mk, asM_mk, asSl_mk, asStr_mk, tup2_mk, tup3_mk, agg1_mk, agg2_mk, agg3_mk, agg4_mk, asAggm, unCons_mk, unNil_mk, asTup_mk, extractD0, extractD1, List.toList_toArray, nilP_mk, add_mk, Nat.zero_add, Nat.add_zero, condT, condF, Bool.not_true, Bool.not_false, Option.isNone_some, Option.isNone_none])
  have h3 := h2.row_to (i := 0) rfl ho' hg'
  have e1 : cel Id.cells l ++ (#[Value.int .i64 (y : Int), .int .u64 (IntKind.u64.wrap (w : Int))] : Array Value).toList = cel Id.cells (l ++ [⟨(y : Int), IntKind.u64.wrap (w : Int)⟩]) := by
    rw [cel_append]
    rfl
  have e2 : l.length + 1 = (l ++ [(⟨(y : Int), IntKind.u64.wrap (w : Int)⟩ : Id)]).length := by simp
  rw [e1, e2] at h3
  rw [e2]
  rw [wrap_i64 (by omega) (by omega)]
  exact ⟨⟨w + 1, _, by omega, by omega, rfl, by simp; omega, h3⟩, by (try dsimp only); omega⟩

/-- Both paints are alike. -/
theorem same11C {n : Int} (h : St H0 L H) (hi : L[i]? = some (HeapP hb s)) (hj : L[j]? = some (PaintP pb hb p)) (hk : L[k]? = some (RHeap rb s)) (hm : L[m]? = some (RPaint qb rb p)) (hij : i ≠ j) (hkm : k ≠ m) (hlt : p.lt 900000) (hn : 0 ≤ n ∧ n ≤ 1000) (hK : ∀ H', St H0 L H' → K (.bool true) H') :
    hcall PR f_law11_same ⟨[.pointer (some ⟨pb, 0, none⟩), .pointer (some ⟨qb, 0, none⟩), .int .u64 n]⟩ H K := by
  apply den_law11_same
  unfold B_law11_same
  have w0 : IntKind.u64.wrap (n + 1) = n + 1 := wrap_u64' (by omega) (by omega)
  rw [w0]
  refine ⟨fun t H' => ∃ y : Nat, t = y ∧ (y : Int) ≤ n + 2 ∧ St H0 L H', fun t _ => (n + 2 - t).toNat, ⟨0, rfl, by omega, h⟩, ?_⟩
  clear h
  rintro t H1 ⟨y, rfl, hy, h1⟩
  by_cases hc : (y : Int) ≤ n + 1
  · refine bif_pos hc (pMarkC h1 hi hj hij fun H2 h2 => ?_)
    (try simp only [asI_mk', asB_mk, asP_mk, asA_mk, asM_mk, asSl_mk, asStr_mk, tup2_mk, tup3_mk, agg1_mk, agg2_mk, agg3_mk, agg4_mk, asAggm, unCons_mk, unNil_mk, asTup_mk, extractD0, extractD1, List.toList_toArray, nilP_mk, add_mk, Nat.zero_add, Nat.add_zero, condT, condF, Bool.not_true, Bool.not_false, Option.isNone_some, Option.isNone_none])
    refine rMarkC h2 hk hm hkm hlt ?_
    (try simp only [asI_mk', asB_mk, asP_mk, asA_mk, asM_mk, asSl_mk, asStr_mk, tup2_mk, tup3_mk, agg1_mk, agg2_mk, agg3_mk, agg4_mk, asAggm, unCons_mk, unNil_mk, asTup_mk, extractD0, extractD1, List.toList_toArray, nilP_mk, add_mk, Nat.zero_add, Nat.add_zero, condT, condF, Bool.not_true, Bool.not_false, Option.isNone_some, Option.isNone_none])
    refine bif_neqf rfl ?_
    simp only [beq_self_eq_true, Bool.not_true, condF]
    have w1 : IntKind.u64.wrap ((y : Int) + 1) = ((y + 1 : Nat) : Int) := by rw [wrap_u64' (by omega) (by omega)]; omega
    rw [w1]
    exact ⟨⟨y + 1, rfl, by omega, h2⟩, by (try dsimp only); omega⟩
  refine bif_neg hc (ids11C h1 fun q c l H2 hl h2 => ?_)
  (try simp only [asI_mk', asB_mk, asP_mk, asA_mk, asM_mk, asSl_mk, asStr_mk, tup2_mk, tup3_mk, agg1_mk, agg2_mk, agg3_mk, agg4_mk, asAggm, unCons_mk, unNil_mk, asTup_mk, extractD0, extractD1, List.toList_toArray, nilP_mk, add_mk, Nat.zero_add, Nat.add_zero, condT, condF, Bool.not_true, Bool.not_false, Option.isNone_some, Option.isNone_none])
  refine ⟨fun t H' => ∃ y : Nat, t = y ∧ y ≤ l.length ∧ St H0 (Prt.row 2 q l.length c (cel Id.cells l) :: L) H', fun t _ => ((l.length : Int) - t).toNat, ⟨0, rfl, by omega, h2⟩, ?_⟩
  clear h2 h1
  rintro t H3 ⟨y, rfl, hy, h3⟩
  have hj1 : (Prt.row 2 q l.length c (cel Id.cells l) :: L)[j + 1]? = some (PaintP pb hb p) := hj
  have hm1 : (Prt.row 2 q l.length c (cel Id.cells l) :: L)[m + 1]? = some (RPaint qb rb p) := hm
  by_cases hc2 : (y : Int) < ((l.length : Nat) : Int)
  · obtain ⟨v, hv⟩ : ∃ v, v = l.getD (y : Int).toNat noId := ⟨_, rfl⟩
    refine bif_pos hc2 (idxS Id.len noId (h3.row_rd (i := 0) rfl) (by omega) (by omega) hc2 fun b o _ _ hcc => ?_)
    rw [← hv] at hcc
    have c0 := hcc 0 (by omega)
    have c1 := hcc 1 (by omega)
    (try simp only [asI_mk', asB_mk, asP_mk, asA_mk, asM_mk, asSl_mk, asStr_mk, tup2_mk, tup3_mk, agg1_mk, agg2_mk, agg3_mk, agg4_mk, asAggm, unCons_mk, unNil_mk, asTup_mk, extractD0, extractD1, List.toList_toArray, nilP_mk, add_mk, Nat.zero_add, Nat.add_zero, condT, condF, Bool.not_true, Bool.not_false, Option.isNone_some, Option.isNone_none])
    refine ldI_of c0 (ldI_of c1 (pMetC (y := v) h3 hj1 fun H4 h4 => ?_))
    (try simp only [asI_mk', asB_mk, asP_mk, asA_mk, asM_mk, asSl_mk, asStr_mk, tup2_mk, tup3_mk, agg1_mk, agg2_mk, agg3_mk, agg4_mk, asAggm, unCons_mk, unNil_mk, asTup_mk, extractD0, extractD1, List.toList_toArray, nilP_mk, add_mk, Nat.zero_add, Nat.add_zero, condT, condF, Bool.not_true, Bool.not_false, Option.isNone_some, Option.isNone_none])
    refine idxS Id.len noId (h4.row_rd (i := 0) rfl) (by omega) (by omega) hc2 fun b o _ _ hcc => ?_
    rw [← hv] at hcc
    have c0 := hcc 0 (by omega)
    have c1 := hcc 1 (by omega)
    (try simp only [asI_mk', asB_mk, asP_mk, asA_mk, asM_mk, asSl_mk, asStr_mk, tup2_mk, tup3_mk, agg1_mk, agg2_mk, agg3_mk, agg4_mk, asAggm, unCons_mk, unNil_mk, asTup_mk, extractD0, extractD1, List.toList_toArray, nilP_mk, add_mk, Nat.zero_add, Nat.add_zero, condT, condF, Bool.not_true, Bool.not_false, Option.isNone_some, Option.isNone_none])
    refine ldI_of c0 (ldI_of c1 (rMetC (y := v) h4 hm1 (by have := hlt.2; omega) fun H5 h5 => ?_))
    (try simp only [asI_mk', asB_mk, asP_mk, asA_mk, asM_mk, asSl_mk, asStr_mk, tup2_mk, tup3_mk, agg1_mk, agg2_mk, agg3_mk, agg4_mk, asAggm, unCons_mk, unNil_mk, asTup_mk, extractD0, extractD1, List.toList_toArray, nilP_mk, add_mk, Nat.zero_add, Nat.add_zero, condT, condF, Bool.not_true, Bool.not_false, Option.isNone_some, Option.isNone_none])
    refine bif_neqf rfl ?_
    simp only [beq_self_eq_true, Bool.not_true, condF]
    rw [wrap_i64 (by omega) (by omega)]
    exact ⟨⟨y + 1, by omega, by omega, h5⟩, by (try dsimp only); omega⟩
  refine bif_neg hc2 ?_
  have h3 := h3.less
  obtain ⟨q2, c2, v1, v2⟩ := rStackV h3 hm
  refine ldSl_of v1 (pWaitingC h3 hj ?_)
  (try simp only [asI_mk', asB_mk, asP_mk, asA_mk, asM_mk, asSl_mk, asStr_mk, tup2_mk, tup3_mk, agg1_mk, agg2_mk, agg3_mk, agg4_mk, asAggm, unCons_mk, unNil_mk, asTup_mk, extractD0, extractD1, List.toList_toArray, nilP_mk, add_mk, Nat.zero_add, Nat.add_zero, condT, condF, Bool.not_true, Bool.not_false, Option.isNone_some, Option.isNone_none])
  refine ⟨ldSl_of v1 rfl, bif_eq rfl (ldB_of (rOverV h3 hm) (pOverC h3 hj ?_))⟩
  (try simp only [asI_mk', asB_mk, asP_mk, asA_mk, asM_mk, asSl_mk, asStr_mk, tup2_mk, tup3_mk, agg1_mk, agg2_mk, agg3_mk, agg4_mk, asAggm, unCons_mk, unNil_mk, asTup_mk, extractD0, extractD1, List.toList_toArray, nilP_mk, add_mk, Nat.zero_add, Nat.add_zero, condT, condF, Bool.not_true, Bool.not_false, Option.isNone_some, Option.isNone_none])
  refine ⟨ldB_of (rOverV h3 hm) rfl, ?_⟩
  simp only [beq_self_eq_true, condT]
  refine ldI_of v2 (pTurnsC h3 hj ?_)
  (try simp only [asI_mk', asB_mk, asP_mk, asA_mk, asM_mk, asSl_mk, asStr_mk, tup2_mk, tup3_mk, agg1_mk, agg2_mk, agg3_mk, agg4_mk, asAggm, unCons_mk, unNil_mk, asTup_mk, extractD0, extractD1, List.toList_toArray, nilP_mk, add_mk, Nat.zero_add, Nat.add_zero, condT, condF, Bool.not_true, Bool.not_false, Option.isNone_some, Option.isNone_none])
  refine ⟨ldI_of v2 rfl, bif_eq rfl (pOutsC h3 hj hlt.2 fun q3 c3 H4 h4 => ?_)⟩
  (try simp only [asI_mk', asB_mk, asP_mk, asA_mk, asM_mk, asSl_mk, asStr_mk, tup2_mk, tup3_mk, agg1_mk, agg2_mk, agg3_mk, agg4_mk, asAggm, unCons_mk, unNil_mk, asTup_mk, extractD0, extractD1, List.toList_toArray, nilP_mk, add_mk, Nat.zero_add, Nat.add_zero, condT, condF, Bool.not_true, Bool.not_false, Option.isNone_some, Option.isNone_none])
  have hm2 : (Prt.row 3 q3 (outsOf p).length c3 (cel outC (outsOf p)) :: L)[m + 1]? = some (RPaint qb rb p) := hm
  refine rOutsC h4 hm2 hlt.2 fun q4 c4 H5 h5 => ?_
  (try simp only [asI_mk', asB_mk, asP_mk, asA_mk, asM_mk, asSl_mk, asStr_mk, tup2_mk, tup3_mk, agg1_mk, agg2_mk, agg3_mk, agg4_mk, asAggm, unCons_mk, unNil_mk, asTup_mk, extractD0, extractD1, List.toList_toArray, nilP_mk, add_mk, Nat.zero_add, Nat.add_zero, condT, condF, Bool.not_true, Bool.not_false, Option.isNone_some, Option.isNone_none])
  refine handOutsC (h5.row_rd (i := 1) rfl) (h5.row_rd (i := 0) rfl) ?_ ?_
  · have := (outsOf_ok (rpaint_ok h3 hm)).2.length_eq
    have := hlt.2
    omega
  (try simp only [asI_mk', asB_mk, asP_mk, asA_mk, asM_mk, asSl_mk, asStr_mk, tup2_mk, tup3_mk, agg1_mk, agg2_mk, agg3_mk, agg4_mk, asAggm, unCons_mk, unNil_mk, asTup_mk, extractD0, extractD1, List.toList_toArray, nilP_mk, add_mk, Nat.zero_add, Nat.add_zero, condT, condF, Bool.not_true, Bool.not_false, Option.isNone_some, Option.isNone_none])
  exact hK H5 (St.lesses (M := [_, _]) h5)

set_option maxRecDepth 20000 in
theorem PaintPlays_ok {rp op ip : Option Addr} {rl rc ol oc il ic : Nat} {g : Gr} {mo : Int} {lP : Option Addr} {lL lC : Nat} {l : List E_law11_Step} {H : Hp} {K : Value → Hp → Prop} (ga : GrA H rp rl op ol ip il g) (gok : g.ok)
    (hmo : IntKind.min .i64 ≤ mo ∧ mo ≤ IntKind.max .i64) (hr : Rd H 6 lP lL (cel E_law11_Step.cells l)) (hl : lL ≤ 9223372036854775807) (hok : ∀ x ∈ l, x.ok) (hK : ∀ H', Keep Nothing H H' → K (.bool true) H') :
    hcall PR f_law11_PaintPlays ⟨[.agg #[.slice rp rl rc, .slice op ol oc, .slice ip il ic], .int .i64 mo, .slice lP lL lC]⟩ H K := by
  apply den_law11_PaintPlays
  unfold B_law11_PaintPlays
  intro b14 hb14
  have h1 := (St.start H).alloc (o := .cells #[.slice rp rl rc, .slice op ol oc, .slice ip il ic] ty_hand_Graph) hb14
  refine ldSl_of (h1.cell (i := 0) rfl rfl) (ldSl_of (h1.cell (i := 0) rfl rfl) (ldSl_of (h1.cell (i := 0) rfl rfl) ?_))
  refine HeapsC (most := 30) (ga.st h1) gok (by omega) fun hb rb s H2 hs h2 => ?_
  have h2 := h1.join h2
  have hn : grSize g 30 ≤ 30 := by unfold grSize; split <;> omega
  generalize grSize g 30 = n at *
  (try simp only [asI_mk', asB_mk, asP_mk, asA_mk, asM_mk, asSl_mk, asStr_mk, tup2_mk, tup3_mk, agg1_mk, agg2_mk, agg3_mk, agg4_mk, asAggm, unCons_mk, unNil_mk, asTup_mk, extractD0, extractD1, List.toList_toArray, nilP_mk, add_mk, Nat.zero_add, Nat.add_zero, condT, condF, Bool.not_true, Bool.not_false, Option.isNone_some, Option.isNone_none])
  refine known11_ok h2 fun H3 h3 => ?_
  (try simp only [asI_mk', asB_mk, asP_mk, asA_mk, asM_mk, asSl_mk, asStr_mk, tup2_mk, tup3_mk, agg1_mk, agg2_mk, agg3_mk, agg4_mk, asAggm, unCons_mk, unNil_mk, asTup_mk, extractD0, extractD1, List.toList_toArray, nilP_mk, add_mk, Nat.zero_add, Nat.add_zero, condT, condF, Bool.not_true, Bool.not_false, Option.isNone_some, Option.isNone_none])
  have hsl := hs.last
  by_cases hm1 : mo < 1
  · refine pNewBad (.inl hm1) ?_
    (try simp only [asI_mk', asB_mk, asP_mk, asA_mk, asM_mk, asSl_mk, asStr_mk, tup2_mk, tup3_mk, agg1_mk, agg2_mk, agg3_mk, agg4_mk, asAggm, unCons_mk, unNil_mk, asTup_mk, extractD0, extractD1, List.toList_toArray, nilP_mk, add_mk, Nat.zero_add, Nat.add_zero, condT, condF, Bool.not_true, Bool.not_false, Option.isNone_some, Option.isNone_none])
    exact bif_pos hm1 (bif_eq rfl (hK H3 h3.keep))
  by_cases hm2 : mo > 64
  · refine pNewBad (.inr hm2) ?_
    (try simp only [asI_mk', asB_mk, asP_mk, asA_mk, asM_mk, asSl_mk, asStr_mk, tup2_mk, tup3_mk, agg1_mk, agg2_mk, agg3_mk, agg4_mk, asAggm, unCons_mk, unNil_mk, asTup_mk, extractD0, extractD1, List.toList_toArray, nilP_mk, add_mk, Nat.zero_add, Nat.add_zero, condT, condF, Bool.not_true, Bool.not_false, Option.isNone_some, Option.isNone_none])
    exact bif_neg hm1 (bif_pos hm2 (bif_eq rfl (hK H3 h3.keep)))
  refine pNewOk h3 (by omega) (by omega) fun pb H4 h4 => ?_
  (try simp only [asI_mk', asB_mk, asP_mk, asA_mk, asM_mk, asSl_mk, asStr_mk, tup2_mk, tup3_mk, agg1_mk, agg2_mk, agg3_mk, agg4_mk, asAggm, unCons_mk, unNil_mk, asTup_mk, extractD0, extractD1, List.toList_toArray, nilP_mk, add_mk, Nat.zero_add, Nat.add_zero, condT, condF, Bool.not_true, Bool.not_false, Option.isNone_some, Option.isNone_none])
  refine bif_neg hm1 (bif_neg hm2 (bif_neqf rfl ?_))
  (try simp only [Option.isNone_some, condF])
  refine rNewPaintC h4 (by omega) (by omega) fun qb H5 h5 => ?_
  (try simp only [asI_mk', asB_mk, asP_mk, asA_mk, asM_mk, asSl_mk, asStr_mk, tup2_mk, tup3_mk, agg1_mk, agg2_mk, agg3_mk, agg4_mk, asAggm, unCons_mk, unNil_mk, asTup_mk, extractD0, extractD1, List.toList_toArray, nilP_mk, add_mk, Nat.zero_add, Nat.add_zero, condT, condF, Bool.not_true, Bool.not_false, Option.isNone_some, Option.isNone_none])
  obtain ⟨gP, hgP⟩ : ∃ gP, gP = Prt.one b14 (.cells #[.slice rp rl rc, .slice op ol oc, .slice ip il ic] ty_hand_Graph (0, 0)) := ⟨_, rfl⟩
  have h5 : St H [RPaint qb rb (newPs mo), PaintP pb hb (newPs mo), HeapP hb s, RHeap rb s, gP] H5 := by rw [hgP]; exact h5
  clear h1 h2 h3 h4 hgP
  have hlast : s.last ≤ 30 := by omega
  refine ⟨fun t H' => ∃ (y : Nat) (p : Ps) (s : Hs), t = y ∧ y ≤ 120 ∧ p.lt (7 * y) ∧ s.last ≤ 30 + (y : Int) ∧ St H [RPaint qb rb p, PaintP pb hb p, HeapP hb s, RHeap rb s, gP] H', fun t _ => (120 - t).toNat, ⟨0, newPs mo, s, rfl, by omega, newPs_lt, by omega, h5⟩, ?_⟩
  clear h5 hlast hsl
  rintro t H6 ⟨y, p, s, rfl, hy, hlt, hlast, h6⟩
  by_cases hc : (y : Int) < (lL : Int)
  rotate_left
  · exact bif_neg hc (hK H6 h6.keep)
  refine bif_pos hc ?_
  by_cases hc2 : (y : Int) < 120
  rotate_left
  · exact bif_neg hc2 (hK H6 h6.keep)
  refine bif_pos hc2 ?_
  have ho := heap_ok h6 (i := 2) rfl
  have hl0 := ho.last
  refine idxS E_law11_Step.len ⟨0, 0, 0, 0, 0, false⟩ (h6.rd hr) (by omega) (by omega) hc fun b o _ _ hcc => ?_
  generalize l.getD (y : Int).toNat ⟨0, 0, 0, 0, 0, false⟩ = x at hcc
  obtain ⟨x1, x2, x3, x4, x5, x6⟩ := x
  (try simp only [asI_mk', asB_mk, asP_mk, asA_mk, asM_mk, asSl_mk, asStr_mk, tup2_mk, tup3_mk, agg1_mk, agg2_mk, agg3_mk, agg4_mk, asAggm, unCons_mk, unNil_mk, asTup_mk, extractD0, extractD1, List.toList_toArray, nilP_mk, add_mk, Nat.zero_add, Nat.add_zero, condT, condF, Bool.not_true, Bool.not_false, Option.isNone_some, Option.isNone_none])
  refine ldI_of (hcc 0 (by omega)) (ldI_of (hcc 1 (by omega)) (ldI_of (hcc 2 (by omega)) (ldI_of (hcc 3 (by omega)) (ldI_of (hcc 4 (by omega)) (ldB_of (hcc 5 (by omega)) ?_)))))
  intro b54 hb54
  have h7 := h6.alloc (o := .cells #[.int .i64 0, .int .i64 0, .int .u64 0, .int .i64 0, .int .u64 0, .bool false] ty_law11_Step) hb54
  refine h7.put (i := 0) rfl (by simp) fun H7 h7 => h7.put (i := 0) rfl (by simp) fun H8 h8 => h8.put (i := 0) rfl (by simp) fun H9 h9 => h9.put (i := 0) rfl (by simp) fun H10 h10 => h10.put (i := 0) rfl (by simp) fun H11 h11 => h11.put (i := 0) rfl (by simp) fun H12 h12 => ?_
  have h12 : St H [Prt.one b54 (.cells #[.int .i64 x1, .int .i64 x2, .int .u64 x3, .int .i64 x4, .int .u64 x5, .bool x6] ty_law11_Step (0, 0)), RPaint qb rb p, PaintP pb hb p, HeapP hb s, RHeap rb s, gP] H12 := h12
  clear h7 h8 h9 h10 h11 h6 hcc
  intro R62 hR62
  have hR62 : ∀ (k : Int) (v : Id) H', St H [Prt.one b54 (.cells #[.int .i64 x1, .int .i64 x2, .int .u64 k, .int .i64 v.n, .int .u64 v.s, .bool x6] ty_law11_Step (0, 0)), RPaint qb rb p, PaintP pb hb p, HeapP hb s, RHeap rb s, gP] H' → R62 H' := fun k v H13 h13 => by
    refine hR62 H13 ?_
    clear hR62
    obtain ⟨bP, hbP⟩ : ∃ bP, bP = Prt.one b54 (.cells #[.int .i64 x1, .int .i64 x2, .int .u64 k, .int .i64 v.n, .int .u64 v.s, .bool x6] ty_law11_Step (0, 0)) := ⟨_, rfl⟩
    have b0 : ∀ (L' : List Prt) H', St H (bP :: L') H' → hcell H' ⟨b54, 0, none⟩ = some (.int .i64 x1) ∧ hcell H' ⟨b54, 1, none⟩ = some (.int .i64 x2) ∧ hcell H' ⟨b54, 2, none⟩ = some (.int .u64 k) ∧ hcell H' ⟨b54, 3, none⟩ = some (.int .i64 v.n) ∧ hcell H' ⟨b54, 4, none⟩ = some (.int .u64 v.s) := fun L' H' h' => by
      rw [hbP] at h'
      exact ⟨h'.cell (i := 0) rfl rfl, h'.cell (i := 0) rfl rfl, h'.cell (i := 0) rfl rfl, h'.cell (i := 0) rfl rfl, h'.cell (i := 0) rfl rfl⟩
    rw [← hbP] at h13
    clear hbP
    intro R64 hR64
    have hR64 : ∀ p' s' H', p'.lt (7 * y + 7) → s'.last ≤ 31 + (y : Int) → St H [bP, RPaint qb rb p', PaintP pb hb p', HeapP hb s', RHeap rb s', gP] H' → R64 true H' := fun p' s' H' hlt' hlast' h' => by
      refine hR64 true H' ?_
      clear hR64
      have ho' := heap_ok h' (i := 3) rfl
      have hl' := ho'.last
      simp only [Bool.not_true, condF]
      obtain ⟨yy, N, gz, _, _⟩ := rheapOpenL (i := 4) h' rfl (.inl rfl)
      (try simp only [asI_mk', asB_mk, asP_mk, asA_mk, asM_mk, asSl_mk, asStr_mk, tup2_mk, tup3_mk, agg1_mk, agg2_mk, agg3_mk, agg4_mk, asAggm, unCons_mk, unNil_mk, asTup_mk, extractD0, extractD1, List.toList_toArray, nilP_mk, add_mk, Nat.zero_add, Nat.add_zero, condT, condF, Bool.not_true, Bool.not_false, Option.isNone_some, Option.isNone_none])
      refine ldI_of (rheapV gz).last (same11C h' (i := 3) (j := 2) (k := 4) (m := 1) rfl rfl rfl rfl (by decide) (by decide) (hlt'.mono (by omega)) (by omega) fun H'' h'' => ?_)
      (try simp only [asI_mk', asB_mk, asP_mk, asA_mk, asM_mk, asSl_mk, asStr_mk, tup2_mk, tup3_mk, agg1_mk, agg2_mk, agg3_mk, agg4_mk, asAggm, unCons_mk, unNil_mk, asTup_mk, extractD0, extractD1, List.toList_toArray, nilP_mk, add_mk, Nat.zero_add, Nat.add_zero, condT, condF, Bool.not_true, Bool.not_false, Option.isNone_some, Option.isNone_none])
      rw [wrap_i64 (by omega) (by omega)]
      exact ⟨⟨y + 1, p', s', by omega, by omega, hlt'.mono (by omega), by omega, h''.less⟩, by (try dsimp only); omega⟩
    have pw := pick_lt (n := x1) (m := 12) (by omega)
    refine ldI_of (b0 _ _ h13).1 (Pick_ok (by omega) (by omega) ?_)
    (try simp only [asI_mk', asB_mk, asP_mk, asA_mk, asM_mk, asSl_mk, asStr_mk, tup2_mk, tup3_mk, agg1_mk, agg2_mk, agg3_mk, agg4_mk, asAggm, unCons_mk, unNil_mk, asTup_mk, extractD0, extractD1, List.toList_toArray, nilP_mk, add_mk, Nat.zero_add, Nat.add_zero, condT, condF, Bool.not_true, Bool.not_false, Option.isNone_some, Option.isNone_none])
    have hpl : p.lt 800000 := hlt.mono (by omega)
    intro R76 hR76
    have hR76a : R76 true H13 := by
      refine hR76 true H13 ?_
      simp only [condT]
      refine ldI_of (b0 _ _ h13).2.2.1 (ldI_of (b0 _ _ h13).2.2.1 (pScanC h13 (i := 3) (j := 2) rfl rfl (by decide) fun H14 h14 => ?_))
      (try simp only [asI_mk', asB_mk, asP_mk, asA_mk, asM_mk, asSl_mk, asStr_mk, tup2_mk, tup3_mk, agg1_mk, agg2_mk, agg3_mk, agg4_mk, asAggm, unCons_mk, unNil_mk, asTup_mk, extractD0, extractD1, List.toList_toArray, nilP_mk, add_mk, Nat.zero_add, Nat.add_zero, condT, condF, Bool.not_true, Bool.not_false, Option.isNone_some, Option.isNone_none])
      refine ⟨ldI_of (b0 _ _ h14).2.2.1 rfl, rScanC h14 (i := 4) (j := 1) rfl rfl (by decide) hpl fun H15 h15 => ?_⟩
      (try simp only [asI_mk', asB_mk, asP_mk, asA_mk, asM_mk, asSl_mk, asStr_mk, tup2_mk, tup3_mk, agg1_mk, agg2_mk, agg3_mk, agg4_mk, asAggm, unCons_mk, unNil_mk, asTup_mk, extractD0, extractD1, List.toList_toArray, nilP_mk, add_mk, Nat.zero_add, Nat.add_zero, condT, condF, Bool.not_true, Bool.not_false, Option.isNone_some, Option.isNone_none])
      rw [beq_self_eq_true]
      exact hR64 _ s H15 (hlt.scan ho) (by omega) h15
    have hR76b : R76 false H13 := by
      refine hR76 false H13 ?_
      simp only [condF]
      by_cases c5 : pick x1 12 = 5
      · refine bif_eq c5 (pPopC h13 (j := 2) rfl fun H14 h14 => ?_)
        (try simp only [asI_mk', asB_mk, asP_mk, asA_mk, asM_mk, asSl_mk, asStr_mk, tup2_mk, tup3_mk, agg1_mk, agg2_mk, agg3_mk, agg4_mk, asAggm, unCons_mk, unNil_mk, asTup_mk, extractD0, extractD1, List.toList_toArray, nilP_mk, add_mk, Nat.zero_add, Nat.add_zero, condT, condF, Bool.not_true, Bool.not_false, Option.isNone_some, Option.isNone_none])
        refine rPopJ h14 (j := 1) rfl fun H15 h15 => ?_
        (try simp only [asI_mk', asB_mk, asP_mk, asA_mk, asM_mk, asSl_mk, asStr_mk, tup2_mk, tup3_mk, agg1_mk, agg2_mk, agg3_mk, agg4_mk, asAggm, unCons_mk, unNil_mk, asTup_mk, extractD0, extractD1, List.toList_toArray, nilP_mk, add_mk, Nat.zero_add, Nat.add_zero, condT, condF, Bool.not_true, Bool.not_false, Option.isNone_some, Option.isNone_none])
        refine bif_eq rfl ?_
        simp only [beq_self_eq_true, condT]
        refine pScanC h15 (i := 3) (j := 2) rfl rfl (by decide) fun H16 h16 => ?_
        (try simp only [asI_mk', asB_mk, asP_mk, asA_mk, asM_mk, asSl_mk, asStr_mk, tup2_mk, tup3_mk, agg1_mk, agg2_mk, agg3_mk, agg4_mk, asAggm, unCons_mk, unNil_mk, asTup_mk, extractD0, extractD1, List.toList_toArray, nilP_mk, add_mk, Nat.zero_add, Nat.add_zero, condT, condF, Bool.not_true, Bool.not_false, Option.isNone_some, Option.isNone_none])
        refine rScanC h16 (i := 4) (j := 1) rfl rfl (by decide) hpl.pop fun H17 h17 => ?_
        (try simp only [asI_mk', asB_mk, asP_mk, asA_mk, asM_mk, asSl_mk, asStr_mk, tup2_mk, tup3_mk, agg1_mk, agg2_mk, agg3_mk, agg4_mk, asAggm, unCons_mk, unNil_mk, asTup_mk, extractD0, extractD1, List.toList_toArray, nilP_mk, add_mk, Nat.zero_add, Nat.add_zero, condT, condF, Bool.not_true, Bool.not_false, Option.isNone_some, Option.isNone_none])
        rw [beq_self_eq_true]
        exact hR64 _ s H17 (hlt.pop.scan ho) (by omega) h17
      refine bif_ne c5 ?_
      by_cases c6 : pick x1 12 = 6
      · refine bif_eq c6 (ldI_of (b0 _ _ h13).2.2.1 (pBlackenC h13 (i := 3) (j := 2) rfl rfl (by decide) fun H14 h14 => ?_))
        (try simp only [asI_mk', asB_mk, asP_mk, asA_mk, asM_mk, asSl_mk, asStr_mk, tup2_mk, tup3_mk, agg1_mk, agg2_mk, agg3_mk, agg4_mk, asAggm, unCons_mk, unNil_mk, asTup_mk, extractD0, extractD1, List.toList_toArray, nilP_mk, add_mk, Nat.zero_add, Nat.add_zero, condT, condF, Bool.not_true, Bool.not_false, Option.isNone_some, Option.isNone_none])
        refine ldI_of (b0 _ _ h14).2.2.1 (rBlackenC h14 (i := 4) (j := 1) rfl rfl (by decide) (hpl.mono (by omega)) fun H15 h15 => ?_)
        (try simp only [asI_mk', asB_mk, asP_mk, asA_mk, asM_mk, asSl_mk, asStr_mk, tup2_mk, tup3_mk, agg1_mk, agg2_mk, agg3_mk, agg4_mk, asAggm, unCons_mk, unNil_mk, asTup_mk, extractD0, extractD1, List.toList_toArray, nilP_mk, add_mk, Nat.zero_add, Nat.add_zero, condT, condF, Bool.not_true, Bool.not_false, Option.isNone_some, Option.isNone_none])
        exact hR64 _ s H15 (hlt.blacken.mono (by omega)) (by omega) h15
      refine bif_ne c6 ?_
      by_cases c7 : pick x1 12 = 7
      · refine bif_eq c7 (ldI_of (b0 _ _ h13).2.2.1 (pForgetC h13 (j := 2) rfl fun H14 h14 => ?_))
        (try simp only [asI_mk', asB_mk, asP_mk, asA_mk, asM_mk, asSl_mk, asStr_mk, tup2_mk, tup3_mk, agg1_mk, agg2_mk, agg3_mk, agg4_mk, asAggm, unCons_mk, unNil_mk, asTup_mk, extractD0, extractD1, List.toList_toArray, nilP_mk, add_mk, Nat.zero_add, Nat.add_zero, condT, condF, Bool.not_true, Bool.not_false, Option.isNone_some, Option.isNone_none])
        refine ldI_of (b0 _ _ h14).2.2.1 (rForgetC h14 (j := 1) rfl (hpl.mono (by omega)) fun H15 h15 => ?_)
        (try simp only [asI_mk', asB_mk, asP_mk, asA_mk, asM_mk, asSl_mk, asStr_mk, tup2_mk, tup3_mk, agg1_mk, agg2_mk, agg3_mk, agg4_mk, asAggm, unCons_mk, unNil_mk, asTup_mk, extractD0, extractD1, List.toList_toArray, nilP_mk, add_mk, Nat.zero_add, Nat.add_zero, condT, condF, Bool.not_true, Bool.not_false, Option.isNone_some, Option.isNone_none])
        exact hR64 _ s H15 (hlt.forget.mono (by omega)) (by omega) h15
      refine bif_ne c7 ?_
      by_cases c8 : pick x1 12 = 8
      · refine bif_eq c8 (pRestC h13 (j := 2) rfl fun H14 h14 => ?_)
        (try simp only [asI_mk', asB_mk, asP_mk, asA_mk, asM_mk, asSl_mk, asStr_mk, tup2_mk, tup3_mk, agg1_mk, agg2_mk, agg3_mk, agg4_mk, asAggm, unCons_mk, unNil_mk, asTup_mk, extractD0, extractD1, List.toList_toArray, nilP_mk, add_mk, Nat.zero_add, Nat.add_zero, condT, condF, Bool.not_true, Bool.not_false, Option.isNone_some, Option.isNone_none])
        refine rRestP h14 (j := 1) rfl fun H15 h15 => ?_
        exact hR64 _ s H15 (hlt.rest.mono (by omega)) (by omega) h15
      refine bif_ne c8 ?_
      by_cases c9 : pick x1 12 = 9
      · refine bif_eq c9 (ldI_of (b0 _ _ h13).2.1 ⟨by decide, ?_⟩)
        by_cases c7' : Int.tmod x2 7 = 0
        · refine bif_eq c7' (pTurnC h13 (j := 2) rfl fun H14 h14 => ?_)
          (try simp only [asI_mk', asB_mk, asP_mk, asA_mk, asM_mk, asSl_mk, asStr_mk, tup2_mk, tup3_mk, agg1_mk, agg2_mk, agg3_mk, agg4_mk, asAggm, unCons_mk, unNil_mk, asTup_mk, extractD0, extractD1, List.toList_toArray, nilP_mk, add_mk, Nat.zero_add, Nat.add_zero, condT, condF, Bool.not_true, Bool.not_false, Option.isNone_some, Option.isNone_none])
          refine rTurnC h14 (j := 1) rfl fun H15 h15 => ?_
          (try simp only [asI_mk', asB_mk, asP_mk, asA_mk, asM_mk, asSl_mk, asStr_mk, tup2_mk, tup3_mk, agg1_mk, agg2_mk, agg3_mk, agg4_mk, asAggm, unCons_mk, unNil_mk, asTup_mk, extractD0, extractD1, List.toList_toArray, nilP_mk, add_mk, Nat.zero_add, Nat.add_zero, condT, condF, Bool.not_true, Bool.not_false, Option.isNone_some, Option.isNone_none])
          exact hR64 _ s H15 (hlt.turn.mono (by omega)) (by omega) h15
        · exact bif_ne c7' (hR64 p s H13 (hlt.mono (by omega)) (by omega) h13)
      refine bif_ne c9 ?_
      by_cases c10 : pick x1 12 = 10
      · refine bif_eq c10 (hMakeC h13 (i := 3) rfl (by decide) (by decide) fun H14 h14 => ?_)
        (try simp only [asI_mk', asB_mk, asP_mk, asA_mk, asM_mk, asSl_mk, asStr_mk, tup2_mk, tup3_mk, agg1_mk, agg2_mk, agg3_mk, agg4_mk, asAggm, unCons_mk, unNil_mk, asTup_mk, extractD0, extractD1, List.toList_toArray, nilP_mk, add_mk, Nat.zero_add, Nat.add_zero, condT, condF, Bool.not_true, Bool.not_false, Option.isNone_some, Option.isNone_none])
        refine rMakeC h14 (i := 4) rfl (by decide) (by decide) fun H15 h15 => ?_
        (try simp only [asI_mk', asB_mk, asP_mk, asA_mk, asM_mk, asSl_mk, asStr_mk, tup2_mk, tup3_mk, agg1_mk, agg2_mk, agg3_mk, agg4_mk, asAggm, unCons_mk, unNil_mk, asTup_mk, extractD0, extractD1, List.toList_toArray, nilP_mk, add_mk, Nat.zero_add, Nat.add_zero, condT, condF, Bool.not_true, Bool.not_false, Option.isNone_some, Option.isNone_none])
        refine hR64 p _ H15 (hlt.mono (by omega)) ?_ h15
        rcases hMake_split s 1 0 with ⟨_, e⟩ | ⟨_, _, e, _⟩
        · rw [e]; omega
        · rw [e]; omega
      refine bif_ne c10 ?_
      by_cases c11 : pick x1 12 = 11
      · refine bif_eq c11 (ldI_of (b0 _ _ h13).2.2.1 (hFreeC h13 (i := 3) rfl fun H14 h14 => ?_))
        (try simp only [asI_mk', asB_mk, asP_mk, asA_mk, asM_mk, asSl_mk, asStr_mk, tup2_mk, tup3_mk, agg1_mk, agg2_mk, agg3_mk, agg4_mk, asAggm, unCons_mk, unNil_mk, asTup_mk, extractD0, extractD1, List.toList_toArray, nilP_mk, add_mk, Nat.zero_add, Nat.add_zero, condT, condF, Bool.not_true, Bool.not_false, Option.isNone_some, Option.isNone_none])
        refine ldI_of (b0 _ _ h14).2.2.1 (rFreeC h14 (i := 4) rfl fun H15 h15 => ?_)
        (try simp only [asI_mk', asB_mk, asP_mk, asA_mk, asM_mk, asSl_mk, asStr_mk, tup2_mk, tup3_mk, agg1_mk, agg2_mk, agg3_mk, agg4_mk, asAggm, unCons_mk, unNil_mk, asTup_mk, extractD0, extractD1, List.toList_toArray, nilP_mk, add_mk, Nat.zero_add, Nat.add_zero, condT, condF, Bool.not_true, Bool.not_false, Option.isNone_some, Option.isNone_none])
        exact hR64 p _ H15 (hlt.mono (by omega)) (by rw [hFree_last]; omega) h15
      refine bif_ne c11 ?_
      refine ldI_of (b0 _ _ h13).2.2.2.1 (ldI_of (b0 _ _ h13).2.2.2.2 (ldI_of (b0 _ _ h13).2.1 (pShadeC (y := v) h13 (i := 3) (j := 2) rfl rfl (by decide) fun H14 h14 => ?_)))
      (try simp only [asI_mk', asB_mk, asP_mk, asA_mk, asM_mk, asSl_mk, asStr_mk, tup2_mk, tup3_mk, agg1_mk, agg2_mk, agg3_mk, agg4_mk, asAggm, unCons_mk, unNil_mk, asTup_mk, extractD0, extractD1, List.toList_toArray, nilP_mk, add_mk, Nat.zero_add, Nat.add_zero, condT, condF, Bool.not_true, Bool.not_false, Option.isNone_some, Option.isNone_none])
      refine ldI_of (b0 _ _ h14).2.2.2.1 (ldI_of (b0 _ _ h14).2.2.2.2 (ldI_of (b0 _ _ h14).2.1 (rShadeC (y := v) h14 (i := 4) (j := 1) rfl rfl (by decide) (hpl.mono (by omega)) fun H15 h15 => ?_)))
      (try simp only [asI_mk', asB_mk, asP_mk, asA_mk, asM_mk, asSl_mk, asStr_mk, tup2_mk, tup3_mk, agg1_mk, agg2_mk, agg3_mk, agg4_mk, asAggm, unCons_mk, unNil_mk, asTup_mk, extractD0, extractD1, List.toList_toArray, nilP_mk, add_mk, Nat.zero_add, Nat.add_zero, condT, condF, Bool.not_true, Bool.not_false, Option.isNone_some, Option.isNone_none])
      exact hR64 _ s H15 (hlt.shade.mono (by omega)) (by omega) h15
    clear hR76
    by_cases c3 : pick x1 12 = 3
    · refine bif_eq c3 ?_
      rw [c3]
      exact hR76a
    · refine bif_ne c3 ?_
      by_cases c4 : pick x1 12 = 4
      · rw [c4]; exact hR76a
      · rw [show (pick x1 12 == 4) = false from by simpa using c4]; exact hR76b
  refine ldB_of (h12.cell (i := 0) rfl rfl) ?_
  cases x6
  · simp only [condF]
    exact hR62 x3 ⟨x4, x5⟩ H12 h12
  simp only [condT]
  have wl : IntKind.u64.wrap (s.last + 2) = s.last + 2 := wrap_u64' (by omega) (by omega)
  refine ldI_of (h12.cell (i := 0) rfl rfl) ?_
  obtain ⟨yy, N, gz, _, _⟩ := rheapOpenL (i := 4) h12 rfl (.inl rfl)
  (try simp only [asI_mk', asB_mk, asP_mk, asA_mk, asM_mk, asSl_mk, asStr_mk, tup2_mk, tup3_mk, agg1_mk, agg2_mk, agg3_mk, agg4_mk, asAggm, unCons_mk, unNil_mk, asTup_mk, extractD0, extractD1, List.toList_toArray, nilP_mk, add_mk, Nat.zero_add, Nat.add_zero, condT, condF, Bool.not_true, Bool.not_false, Option.isNone_some, Option.isNone_none])
  refine ldI_of (rheapV gz).last ?_
  rw [wl]
  refine ⟨by omega, ?_⟩
  refine h12.put (i := 0) rfl (by simp) fun H13 h13 => ldI_of (h13.cell (i := 0) rfl rfl) (h13.put (i := 0) rfl (by simp) fun H14 h14 => h14.put (i := 0) rfl (by simp) fun H15 h15 => ?_)
  exact hR62 (Int.tmod x3 (s.last + 2)) ⟨1, Int.tmod x3 (s.last + 2)⟩ H15 h15
end
end Go.Proofs.YtojcacejgbnfkaaGreat
