/- Chapter 8's example, run. No condition. -/
import Derived.Test.YtohlnmenghbgbaaHpP4
import Derived.Test.YtohlnmenghbgbaaHpS2
import Derived.Test.YtohlnmenghbgbaaHand
import Derived.Test.YtohlnmenghbgbaaDenLaw8
namespace Go.Proofs.Ytohlnmenghbgbaa
set_option linter.unusedSimpArgs false
set_option linter.unusedVariables false
open Go

theorem hMake_fit {s : Hs} {r v : Int} {i k : Nat} (hr : 0 ≤ r ∧ r ≤ 7) (hv : 0 ≤ v ∧ v ≤ 7) (hl : (s.obs.length : Int) < s.most) (hs : s.last ≠ 72057594037927935) (hc : clsOf (1 + r + v) ≠ 0) (hf : ArFits s.ar (clsOf (1 + r + v)) i k) :
    hMake s r v = (s.last + 1, 0, { s with last := s.last + 1, ar := tookAt s.ar (clsOf (1 + r + v)) i k, obs := s.obs ++ [⟨s.last + 1, ((16 * i + k * clsOf (1 + r + v) : Nat) : Int), List.replicate r.toNat noId, List.replicate v.toNat 0, 0⟩] }) := by
  unfold hMake
  rw [if_neg (by omega), if_neg (by omega), if_neg hs, arAlloc_fit hc hf, if_neg (by simp)]

/-- The example's heap, with its one object. -/
def ex8 : Hs := ⟨1, 2, 6, [⟨4, 1⟩], [⟨6, 0, [noId], [0], 0⟩]⟩
theorem ex8_made : hMake (newHs 1 2 5 1) 1 1 = (6, 0, ex8) := by
  rw [hMake_fit (s := newHs 1 2 5 1) (i := 0) (k := 0) (by omega) (by omega) (by decide) (by decide) (by decide) (by unfold ArFits First; decide)]
  rfl

theorem known8_ok {H0 H : Hp} {L : List Prt} {K : Value → Hp → Prop} (h : St H0 L H) (hK : ∀ H', St H0 L H' → K (.bool true) H') : hcall PR f_law8_known ⟨[]⟩ H K := by
  apply den_law8_known
  unfold B_law8_known
  refine hNewOk (m := 1) (by decide) (by decide) (by decide) (by decide) (by decide) h fun hb H1 h1 => ?_
  simp only [asI_mk', asB_mk, asP_mk, asA_mk, asM_mk, asSl_mk, asStr_mk, tup2_mk, tup3_mk, agg1_mk, agg2_mk, agg3_mk, agg4_mk, asAggm, unCons_mk, unNil_mk, asTup_mk, extractD0, extractD1, List.toList_toArray, nilP_mk, add_mk, Nat.zero_add, Nat.add_zero, condT, condF, Bool.not_true, Bool.not_false, Option.isNone_some, Option.isNone_none]
  refine bif_neqf rfl ?_
  refine hMakeC h1 (i := 0) rfl (by decide) (by decide) fun H2 h2 => ?_
  rw [ex8_made] at h2 ⊢
  simp only [asI_mk', asB_mk, asP_mk, asA_mk, asM_mk, asSl_mk, asStr_mk, tup2_mk, tup3_mk, agg1_mk, agg2_mk, agg3_mk, agg4_mk, asAggm, unCons_mk, unNil_mk, asTup_mk, extractD0, extractD1, List.toList_toArray, nilP_mk, add_mk, Nat.zero_add, Nat.add_zero, condT, condF, Bool.not_true, Bool.not_false, Option.isNone_some, Option.isNone_none]
  refine hRefC h2 (i := 0) rfl fun H3 h3 => ?_
  rw [show hRef ex8 6 0 = (noId, 0) by rfl]
  simp only [asI_mk', asB_mk, asP_mk, asA_mk, asM_mk, asSl_mk, asStr_mk, tup2_mk, tup3_mk, agg1_mk, agg2_mk, agg3_mk, agg4_mk, asAggm, unCons_mk, unNil_mk, asTup_mk, extractD0, extractD1, List.toList_toArray, nilP_mk, add_mk, Nat.zero_add, Nat.add_zero, condT, condF, Bool.not_true, Bool.not_false, Option.isNone_some, Option.isNone_none]
  refine box2 h3 fun b22 H4 h4 => ?_
  have e2 : hSetRef ex8 6 0 ⟨2, 9⟩ = (noId, 0, ⟨1, 2, 6, [⟨4, 1⟩], [⟨6, 0, [⟨2, 9⟩], [0], 0⟩]⟩) := by rfl
  refine hSetRefC (y := ⟨2, 9⟩) h4 (i := 1) rfl fun H5 h5 => ?_
  rw [e2] at h5 ⊢
  simp only [asI_mk', asB_mk, asP_mk, asA_mk, asM_mk, asSl_mk, asStr_mk, tup2_mk, tup3_mk, agg1_mk, agg2_mk, agg3_mk, agg4_mk, asAggm, unCons_mk, unNil_mk, asTup_mk, extractD0, extractD1, List.toList_toArray, nilP_mk, add_mk, Nat.zero_add, Nat.add_zero, condT, condF, Bool.not_true, Bool.not_false, Option.isNone_some, Option.isNone_none]
  refine box2 h5 fun b35 H6 h6 => ?_
  refine hRefC h6 (i := 2) rfl fun H7 h7 => ?_
  rw [show hRef ⟨1, 2, 6, [⟨4, 1⟩], [⟨6, 0, [⟨2, 9⟩], [0], 0⟩]⟩ 6 0 = (⟨2, 9⟩, 0) by rfl]
  simp only [asI_mk', asB_mk, asP_mk, asA_mk, asM_mk, asSl_mk, asStr_mk, tup2_mk, tup3_mk, agg1_mk, agg2_mk, agg3_mk, agg4_mk, asAggm, unCons_mk, unNil_mk, asTup_mk, extractD0, extractD1, List.toList_toArray, nilP_mk, add_mk, Nat.zero_add, Nat.add_zero, condT, condF, Bool.not_true, Bool.not_false, Option.isNone_some, Option.isNone_none]
  refine box2 h7 fun b48 H8 h8 => ?_
  refine bif_eq rfl (bif_eq rfl (ldI_of (h8.cell (i := 2) (o := 0) rfl rfl) (ldI_of (h8.cell (i := 2) (o := 1) rfl rfl) (idEq ?_))))
  simp only [decide_true]
  simp only [asI_mk', asB_mk, asP_mk, asA_mk, asM_mk, asSl_mk, asStr_mk, tup2_mk, tup3_mk, agg1_mk, agg2_mk, agg3_mk, agg4_mk, asAggm, unCons_mk, unNil_mk, asTup_mk, extractD0, extractD1, List.toList_toArray, nilP_mk, add_mk, Nat.zero_add, Nat.add_zero, condT, condF, Bool.not_true, Bool.not_false, Option.isNone_some, Option.isNone_none]
  refine bif_eq rfl (bif_eq rfl (ldI_of (h8.cell (i := 0) (o := 0) rfl rfl) (ldI_of (h8.cell (i := 0) (o := 1) rfl rfl) (idEq ?_))))
  simp only [decide_true]
  simp only [asI_mk', asB_mk, asP_mk, asA_mk, asM_mk, asSl_mk, asStr_mk, tup2_mk, tup3_mk, agg1_mk, agg2_mk, agg3_mk, agg4_mk, asAggm, unCons_mk, unNil_mk, asTup_mk, extractD0, extractD1, List.toList_toArray, nilP_mk, add_mk, Nat.zero_add, Nat.add_zero, condT, condF, Bool.not_true, Bool.not_false, Option.isNone_some, Option.isNone_none]
  exact hK H8 (h8.lesses (M := [_, _, _, _]))

end Go.Proofs.Ytohlnmenghbgbaa
