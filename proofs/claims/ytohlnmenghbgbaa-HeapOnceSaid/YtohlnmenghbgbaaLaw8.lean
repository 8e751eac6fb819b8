/- Chapter 8's statements, run: HeapKnown, HeapEnds, HeapOnce, HeapOwn. No condition. -/
import Derived.Test.YtohlnmenghbgbaaLaw8k
import Derived.Test.YtohlnmenghbgbaaDenLaw8HeapKnown
import Derived.Test.YtohlnmenghbgbaaDenLaw8HeapEnds
import Derived.Test.YtohlnmenghbgbaaDenLaw8HeapOnce
import Derived.Test.YtohlnmenghbgbaaDenLaw8HeapOwn
import Derived.Test.YtohlnmenghbgbaaEty
namespace Go.Proofs.Ytohlnmenghbgbaa
set_option linter.unusedSimpArgs false
set_option linter.unusedVariables false
open Go

theorem HeapKnown_ok {H : Hp} {K : Value → Hp → Prop} (hK : ∀ H', Keep Nothing H H' → K (.bool true) H') : hcall PR f_law8_HeapKnown ⟨[]⟩ H K := by
  apply den_law8_HeapKnown
  unfold B_law8_HeapKnown
  refine hNewBad (by unfold newBad; decide) (St.start H) fun H1 h1 => ?_
  simp only [asI_mk', asB_mk, asP_mk, asA_mk, asM_mk, asSl_mk, asStr_mk, tup2_mk, tup3_mk, agg1_mk, agg2_mk, agg3_mk, agg4_mk, asAggm, unCons_mk, unNil_mk, asTup_mk, extractD0, extractD1, List.toList_toArray, nilP_mk, add_mk, Nat.zero_add, Nat.add_zero, condT, condF, Bool.not_true, Bool.not_false, Option.isNone_some, Option.isNone_none]
  refine hNewBad (by unfold newBad; decide) h1 fun H2 h2 => ?_
  simp only [asI_mk', asB_mk, asP_mk, asA_mk, asM_mk, asSl_mk, asStr_mk, tup2_mk, tup3_mk, agg1_mk, agg2_mk, agg3_mk, agg4_mk, asAggm, unCons_mk, unNil_mk, asTup_mk, extractD0, extractD1, List.toList_toArray, nilP_mk, add_mk, Nat.zero_add, Nat.add_zero, condT, condF, Bool.not_true, Bool.not_false, Option.isNone_some, Option.isNone_none]
  refine hNewBad (by unfold newBad; decide) h2 fun H3 h3 => ?_
  simp only [asI_mk', asB_mk, asP_mk, asA_mk, asM_mk, asSl_mk, asStr_mk, tup2_mk, tup3_mk, agg1_mk, agg2_mk, agg3_mk, agg4_mk, asAggm, unCons_mk, unNil_mk, asTup_mk, extractD0, extractD1, List.toList_toArray, nilP_mk, add_mk, Nat.zero_add, Nat.add_zero, condT, condF, Bool.not_true, Bool.not_false, Option.isNone_some, Option.isNone_none]
  refine hNewBad (by unfold newBad; decide) h3 fun H4 h4 => ?_
  simp only [asI_mk', asB_mk, asP_mk, asA_mk, asM_mk, asSl_mk, asStr_mk, tup2_mk, tup3_mk, agg1_mk, agg2_mk, agg3_mk, agg4_mk, asAggm, unCons_mk, unNil_mk, asTup_mk, extractD0, extractD1, List.toList_toArray, nilP_mk, add_mk, Nat.zero_add, Nat.add_zero, condT, condF, Bool.not_true, Bool.not_false, Option.isNone_some, Option.isNone_none]
  refine hNewOk (m := 1) (by decide) (by decide) (by decide) (by decide) (by decide) h4 fun hb H5 h5 => ?_
  simp only [asI_mk', asB_mk, asP_mk, asA_mk, asM_mk, asSl_mk, asStr_mk, tup2_mk, tup3_mk, agg1_mk, agg2_mk, agg3_mk, agg4_mk, asAggm, unCons_mk, unNil_mk, asTup_mk, extractD0, extractD1, List.toList_toArray, nilP_mk, add_mk, Nat.zero_add, Nat.add_zero, condT, condF, Bool.not_true, Bool.not_false, Option.isNone_some, Option.isNone_none]
  refine hNewOk (m := 1) (by decide) (by decide) (by decide) (by decide) (by decide) h5 fun gb H6 h6 => ?_
  simp only [asI_mk', asB_mk, asP_mk, asA_mk, asM_mk, asSl_mk, asStr_mk, tup2_mk, tup3_mk, agg1_mk, agg2_mk, agg3_mk, agg4_mk, asAggm, unCons_mk, unNil_mk, asTup_mk, extractD0, extractD1, List.toList_toArray, nilP_mk, add_mk, Nat.zero_add, Nat.add_zero, condT, condF, Bool.not_true, Bool.not_false, Option.isNone_some, Option.isNone_none]
  refine known8_ok h6 fun H7 h7 => ?_
  simp only [asI_mk', asB_mk, asP_mk, asA_mk, asM_mk, asSl_mk, asStr_mk, tup2_mk, tup3_mk, agg1_mk, agg2_mk, agg3_mk, agg4_mk, asAggm, unCons_mk, unNil_mk, asTup_mk, extractD0, extractD1, List.toList_toArray, nilP_mk, add_mk, Nat.zero_add, Nat.add_zero, condT, condF, Bool.not_true, Bool.not_false, Option.isNone_some, Option.isNone_none]
  refine bif_neqf rfl (bif_neqf rfl (bif_neqf rfl (bif_neqf rfl (bif_neqf rfl (bif_neqf rfl ?_)))))
  refine hMakeC h7 (i := 0) rfl (by decide) (by decide) fun H8 h8 => ?_
  have e1 : hMake (newHs 1 1 72057594037927935 1) 0 0 = (0, 7, newHs 1 1 72057594037927935 1) := by
    exact hMake_top (by omega) (by omega) (by decide) rfl
  rw [e1] at h8 ⊢
  simp only [asI_mk', asB_mk, asP_mk, asA_mk, asM_mk, asSl_mk, asStr_mk, tup2_mk, tup3_mk, agg1_mk, agg2_mk, agg3_mk, agg4_mk, asAggm, unCons_mk, unNil_mk, asTup_mk, extractD0, extractD1, List.toList_toArray, nilP_mk, add_mk, Nat.zero_add, Nat.add_zero, condT, condF, Bool.not_true, Bool.not_false, Option.isNone_some, Option.isNone_none]
  refine hMakeC h8 (i := 1) rfl (by decide) (by decide) fun H9 h9 => ?_
  rw [ex8_made] at h9 ⊢
  simp only [asI_mk', asB_mk, asP_mk, asA_mk, asM_mk, asSl_mk, asStr_mk, tup2_mk, tup3_mk, agg1_mk, agg2_mk, agg3_mk, agg4_mk, asAggm, unCons_mk, unNil_mk, asTup_mk, extractD0, extractD1, List.toList_toArray, nilP_mk, add_mk, Nat.zero_add, Nat.add_zero, condT, condF, Bool.not_true, Bool.not_false, Option.isNone_some, Option.isNone_none]
  refine hMakeC h9 (i := 1) rfl (by decide) (by decide) fun H10 h10 => ?_
  rw [show hMake ex8 8 0 = (0, 1, ex8) by unfold hMake; rw [if_pos (by decide)]] at h10 ⊢
  simp only [asI_mk', asB_mk, asP_mk, asA_mk, asM_mk, asSl_mk, asStr_mk, tup2_mk, tup3_mk, agg1_mk, agg2_mk, agg3_mk, agg4_mk, asAggm, unCons_mk, unNil_mk, asTup_mk, extractD0, extractD1, List.toList_toArray, nilP_mk, add_mk, Nat.zero_add, Nat.add_zero, condT, condF, Bool.not_true, Bool.not_false, Option.isNone_some, Option.isNone_none]
  refine hMakeC h10 (i := 1) rfl (by decide) (by decide) fun H11 h11 => ?_
  have e3 : hMake ex8 0 0 = (0, 2, ex8) := by
    have hno : ArNoFit ex8.ar (clsOf (1 + 0 + 0)) := by unfold ArNoFit; decide
    have : arAlloc ex8.ar (1 + 0 + 0) = (0, 2, ex8.ar) := by
      unfold arAlloc
      rw [if_neg (by decide), arFind_no hno]
    unfold hMake
    rw [if_neg (by decide), if_neg (by decide), if_neg (by decide), this, if_pos (by decide)]
  rw [e3] at h11 ⊢
  simp only [asI_mk', asB_mk, asP_mk, asA_mk, asM_mk, asSl_mk, asStr_mk, tup2_mk, tup3_mk, agg1_mk, agg2_mk, agg3_mk, agg4_mk, asAggm, unCons_mk, unNil_mk, asTup_mk, extractD0, extractD1, List.toList_toArray, nilP_mk, add_mk, Nat.zero_add, Nat.add_zero, condT, condF, Bool.not_true, Bool.not_false, Option.isNone_some, Option.isNone_none]
  refine hRefC h11 (i := 1) rfl fun H12 h12 => ?_
  rw [show hRef ex8 6 1 = (noId, 5) by rfl]
  simp only [asI_mk', asB_mk, asP_mk, asA_mk, asM_mk, asSl_mk, asStr_mk, tup2_mk, tup3_mk, agg1_mk, agg2_mk, agg3_mk, agg4_mk, asAggm, unCons_mk, unNil_mk, asTup_mk, extractD0, extractD1, List.toList_toArray, nilP_mk, add_mk, Nat.zero_add, Nat.add_zero, condT, condF, Bool.not_true, Bool.not_false, Option.isNone_some, Option.isNone_none]
  refine box2 h12 fun b73 H13 h13 => ?_
  refine bif_eq rfl (bif_eq rfl (bif_eq rfl (bif_eq rfl (hLen h13 (i := 2) rfl ?_))))
  simp only [asI_mk', asB_mk, asP_mk, asA_mk, asM_mk, asSl_mk, asStr_mk, tup2_mk, tup3_mk, agg1_mk, agg2_mk, agg3_mk, agg4_mk, asAggm, unCons_mk, unNil_mk, asTup_mk, extractD0, extractD1, List.toList_toArray, nilP_mk, add_mk, Nat.zero_add, Nat.add_zero, condT, condF, Bool.not_true, Bool.not_false, Option.isNone_some, Option.isNone_none]
  refine bif_eq rfl (hLast h13 (i := 2) rfl ?_)
  simp only [asI_mk', asB_mk, asP_mk, asA_mk, asM_mk, asSl_mk, asStr_mk, tup2_mk, tup3_mk, agg1_mk, agg2_mk, agg3_mk, agg4_mk, asAggm, unCons_mk, unNil_mk, asTup_mk, extractD0, extractD1, List.toList_toArray, nilP_mk, add_mk, Nat.zero_add, Nat.add_zero, condT, condF, Bool.not_true, Bool.not_false, Option.isNone_some, Option.isNone_none]
  refine bif_eq rfl (hNode h13 (i := 2) rfl ?_)
  simp only [asI_mk', asB_mk, asP_mk, asA_mk, asM_mk, asSl_mk, asStr_mk, tup2_mk, tup3_mk, agg1_mk, agg2_mk, agg3_mk, agg4_mk, asAggm, unCons_mk, unNil_mk, asTup_mk, extractD0, extractD1, List.toList_toArray, nilP_mk, add_mk, Nat.zero_add, Nat.add_zero, condT, condF, Bool.not_true, Bool.not_false, Option.isNone_some, Option.isNone_none]
  refine bif_eq rfl (hUsed h13 (i := 2) rfl ?_)
  simp only [asI_mk', asB_mk, asP_mk, asA_mk, asM_mk, asSl_mk, asStr_mk, tup2_mk, tup3_mk, agg1_mk, agg2_mk, agg3_mk, agg4_mk, asAggm, unCons_mk, unNil_mk, asTup_mk, extractD0, extractD1, List.toList_toArray, nilP_mk, add_mk, Nat.zero_add, Nat.add_zero, condT, condF, Bool.not_true, Bool.not_false, Option.isNone_some, Option.isNone_none]
  exact hK H13 h13.keep

theorem HeapEnds_ok {back : Int} {H : Hp} {K : Value → Hp → Prop} (hb : IntKind.min .i64 ≤ back ∧ back ≤ IntKind.max .i64) (hK : ∀ H', Keep Nothing H H' → K (.bool true) H') : hcall PR f_law8_HeapEnds ⟨[.int .i64 back]⟩ H K := by
  apply den_law8_HeapEnds
  unfold B_law8_HeapEnds
  refine Pick_ok (by omega) (by omega) ?_
  have hp := pick_lt (n := back) (m := 6) (by omega)
  simp only [asI_mk', asB_mk, asP_mk, asA_mk, asM_mk, asSl_mk, asStr_mk, tup2_mk, tup3_mk, agg1_mk, agg2_mk, agg3_mk, agg4_mk, asAggm, unCons_mk, unNil_mk, asTup_mk, extractD0, extractD1, List.toList_toArray, nilP_mk, add_mk, Nat.zero_add, Nat.add_zero, condT, condF, Bool.not_true, Bool.not_false, Option.isNone_some, Option.isNone_none]
  generalize pick back 6 = n at *
  obtain ⟨n, rfl⟩ : ∃ m : Nat, n = m := ⟨n.toNat, by omega⟩
  have w1 : IntKind.u64.wrap (n : Int) = n := wrap_u64' (by omega) (by omega)
  have w2 : IntKind.u64.wrap (72057594037927935 - (n : Int)) = 72057594037927935 - n := wrap_u64' (by omega) (by omega)
  rw [w1, w2]
  refine hNewOk (m := 16) (by decide) (by decide) (by omega) (by decide) (by decide) (St.start H) fun b H1 h1 => ?_
  simp only [asI_mk', asB_mk, asP_mk, asA_mk, asM_mk, asSl_mk, asStr_mk, tup2_mk, tup3_mk, agg1_mk, agg2_mk, agg3_mk, agg4_mk, asAggm, unCons_mk, unNil_mk, asTup_mk, extractD0, extractD1, List.toList_toArray, nilP_mk, add_mk, Nat.zero_add, Nat.add_zero, condT, condF, Bool.not_true, Bool.not_false, Option.isNone_some, Option.isNone_none]
  refine known8_ok h1 fun H2 h2 => ?_
  simp only [asI_mk', asB_mk, asP_mk, asA_mk, asM_mk, asSl_mk, asStr_mk, tup2_mk, tup3_mk, agg1_mk, agg2_mk, agg3_mk, agg4_mk, asAggm, unCons_mk, unNil_mk, asTup_mk, extractD0, extractD1, List.toList_toArray, nilP_mk, add_mk, Nat.zero_add, Nat.add_zero, condT, condF, Bool.not_true, Bool.not_false, Option.isNone_some, Option.isNone_none]
  refine bif_neqf rfl ?_
  refine ⟨fun i H' => ∃ (j : Nat) (s : Hs), i = j ∧ j ≤ n ∧ s.last = 72057594037927935 - n + j ∧ s.obs.length = j ∧ s.most = 10 ∧ 16 ≤ frees s.ar + j ∧ s.ok ∧ St H [HeapP b s] H', fun i _ => (n - i).toNat,
    ⟨0, _, rfl, by omega, by simp [newHs], rfl, rfl, by show 16 ≤ frees (List.replicate 16 noBlk) + 0; rw [frees_new]; omega, heap_ok h2 (i := 0) rfl, h2⟩, ?_⟩
  rintro i H3 ⟨j, s, rfl, hj, hl, ho, hm, hf, hok, h3⟩
  by_cases hlt : (j : Int) < n
  · refine bif_pos hlt (hMakeC h3 (i := 0) rfl (by decide) (by decide) fun H4 h4 => ?_)
    obtain ⟨s', c, e0, e1, e2, e3, e4, e5, e6⟩ := hMake_good' (r := 1) (v := 0) hok (by omega) (by omega) (by omega) (by omega) (by omega)
    rw [e0] at h4 ⊢
    simp only [asI_mk', asB_mk, asP_mk, asA_mk, asM_mk, asSl_mk, asStr_mk, tup2_mk, tup3_mk, agg1_mk, agg2_mk, agg3_mk, agg4_mk, asAggm, unCons_mk, unNil_mk, asTup_mk, extractD0, extractD1, List.toList_toArray, nilP_mk, add_mk, Nat.zero_add, Nat.add_zero, condT, condF, Bool.not_true, Bool.not_false, Option.isNone_some, Option.isNone_none]
    refine bif_neqf rfl ?_
    rw [wrap_i64 (by omega) (by omega)]
    exact ⟨⟨j + 1, s', by omega, by omega, by omega, by rw [e4]; simp [ho], by rw [e2, hm], by omega, e6, h4⟩, by (try dsimp only); omega⟩
  · refine bif_neg hlt (hMakeC h3 (i := 0) rfl (by decide) (by decide) fun H4 h4 => ?_)
    obtain rfl : j = n := by omega
    have full : ∀ s : Hs, s.last = 72057594037927935 → (s.obs.length : Int) < s.most → hMake s 1 0 = (0, 7, s) := fun s h1 h2 => by
      unfold hMake
      rw [if_neg (by decide), if_neg (by omega), if_pos h1]
    rw [full s (by omega) (by omega)] at h4 ⊢
    have h4 : St H [HeapP b s] H4 := h4
    simp only [asI_mk', asB_mk, asP_mk, asA_mk, asM_mk, asSl_mk, asStr_mk, tup2_mk, tup3_mk, agg1_mk, agg2_mk, agg3_mk, agg4_mk, asAggm, unCons_mk, unNil_mk, asTup_mk, extractD0, extractD1, List.toList_toArray, nilP_mk, add_mk, Nat.zero_add, Nat.add_zero, condT, condF, Bool.not_true, Bool.not_false, Option.isNone_some, Option.isNone_none]
    refine hFreeC h4 (i := 0) rfl fun H5 h5 => ?_
    simp only [asI_mk', asB_mk, asP_mk, asA_mk, asM_mk, asSl_mk, asStr_mk, tup2_mk, tup3_mk, agg1_mk, agg2_mk, agg3_mk, agg4_mk, asAggm, unCons_mk, unNil_mk, asTup_mk, extractD0, extractD1, List.toList_toArray, nilP_mk, add_mk, Nat.zero_add, Nat.add_zero, condT, condF, Bool.not_true, Bool.not_false, Option.isNone_some, Option.isNone_none]
    have e1 : (hFree s 72057594037927935).2.last = s.last ∧ (hFree s 72057594037927935).2.most = s.most ∧ (hFree s 72057594037927935).2.obs.length ≤ s.obs.length := by
      unfold hFree
      cases hGet s 72057594037927935 with
      | none => exact ⟨rfl, rfl, Nat.le_refl _⟩
      | some o => exact ⟨rfl, rfl, List.length_filter_le _ _⟩
    refine hMakeC h5 (i := 0) rfl (by decide) (by decide) fun H6 h6 => ?_
    rw [full _ (by omega) (by omega)] at h6 ⊢
    simp only [asI_mk', asB_mk, asP_mk, asA_mk, asM_mk, asSl_mk, asStr_mk, tup2_mk, tup3_mk, agg1_mk, agg2_mk, agg3_mk, agg4_mk, asAggm, unCons_mk, unNil_mk, asTup_mk, extractD0, extractD1, List.toList_toArray, nilP_mk, add_mk, Nat.zero_add, Nat.add_zero, condT, condF, Bool.not_true, Bool.not_false, Option.isNone_some, Option.isNone_none]
    refine bif_eq rfl (bif_eq rfl (hLast h6 (i := 0) rfl ?_))
    simp only [asI_mk', asB_mk, asP_mk, asA_mk, asM_mk, asSl_mk, asStr_mk, tup2_mk, tup3_mk, agg1_mk, agg2_mk, agg3_mk, agg4_mk, asAggm, unCons_mk, unNil_mk, asTup_mk, extractD0, extractD1, List.toList_toArray, nilP_mk, add_mk, Nat.zero_add, Nat.add_zero, condT, condF, Bool.not_true, Bool.not_false, Option.isNone_some, Option.isNone_none]
    rw [show ((hFree s 72057594037927935).2.last == 72057594037927935) = true by simp; omega]
    exact hK H6 h6.keep

theorem hNext_free {s : Hs} {k : Int} (ho : s.ok) (h : (hNext s k).2 = true) : (hFree s (hNext s k).1).1 = 0 := by
  unfold hNext at h ⊢
  cases hf : s.obs.find? (fun o => decide (k < o.ser)) with
  | none => rw [hf] at h; cases h
  | some o =>
    simp only
    obtain ⟨j, hj, rfl⟩ := List.mem_iff_getElem.1 (List.mem_of_find?_eq_some hf)
    have := hGet_at ho (List.getElem?_eq_getElem hj)
    unfold hFree
    rw [this]

set_option maxRecDepth 20000 in
theorem HeapOnce_ok {last : Int} {lP : Option Addr} {lL lC : Nat} {l : List E_law8_Step} {H : Hp} {K : Value → Hp → Prop} (hlast : IntKind.min .u64 ≤ last ∧ last ≤ IntKind.max .u64) (hr : Rd H 8 lP lL (cel E_law8_Step.cells l)) (hl : lL ≤ 9223372036854775807) (hok : ∀ x ∈ l, x.ok)
    (hK : ∀ H', Keep Nothing H H' → K (.bool true) H') : hcall PR f_law8_HeapOnce ⟨[.int .u64 last, .slice lP lL lC]⟩ H K := by
  apply den_law8_HeapOnce
  unfold B_law8_HeapOnce
  refine ⟨by decide, ?_⟩
  have m0 : IntKind.min .u64 = 0 := by decide
  have m1 : IntKind.max .u64 = 18446744073709551615 := by decide
  have hmod : Int.tmod last 72057594037927935 = last % 72057594037927935 := by rw [Int.tmod_eq_emod_of_nonneg (by omega)]
  rw [hmod]
  have hlm : 0 ≤ last % 72057594037927935 ∧ last % 72057594037927935 < 72057594037927935 := by omega
  generalize last % 72057594037927935 = la at *
  refine hNewOk (m := 16) (by decide) (by decide) (by omega) (by decide) (by decide) (St.start H) fun b H1 h1 => ?_
  simp only [asI_mk', asB_mk, asP_mk, asA_mk, asM_mk, asSl_mk, asStr_mk, tup2_mk, tup3_mk, agg1_mk, agg2_mk, agg3_mk, agg4_mk, asAggm, unCons_mk, unNil_mk, asTup_mk, extractD0, extractD1, List.toList_toArray, nilP_mk, add_mk, Nat.zero_add, Nat.add_zero, condT, condF, Bool.not_true, Bool.not_false, Option.isNone_some, Option.isNone_none]
  refine known8_ok h1 fun H2 h2 => ?_
  simp only [asI_mk', asB_mk, asP_mk, asA_mk, asM_mk, asSl_mk, asStr_mk, tup2_mk, tup3_mk, agg1_mk, agg2_mk, agg3_mk, agg4_mk, asAggm, unCons_mk, unNil_mk, asTup_mk, extractD0, extractD1, List.toList_toArray, nilP_mk, add_mk, Nat.zero_add, Nat.add_zero, condT, condF, Bool.not_true, Bool.not_false, Option.isNone_some, Option.isNone_none]
  refine bif_neqf rfl ?_
  refine ⟨fun at_ i H' => ∃ (j : Nat) (s : Hs), i = j ∧ j ≤ lL ∧ s.last = at_ ∧ St H [HeapP b s] H', fun _ i _ => (lL - i).toNat, ⟨0, _, rfl, by omega, rfl, h2⟩, ?_⟩
  rintro at_ i H3 ⟨j, s, rfl, hj, rfl, h3⟩
  have ho := heap_ok h3 (i := 0) rfl
  have hsl := ho.last
  by_cases hlt : (j : Int) < lL
  rotate_left
  · exact bif_neg hlt (hK H3 h3.keep)
  refine bif_pos hlt ?_
  by_cases h300 : (j : Int) < 300
  rotate_left
  · exact bif_neg h300 (hK H3 h3.keep)
  refine bif_pos h300 ?_
  intro R19 hR19
  have hR19 : ∀ (a : Int) (s' : Hs) (H' : Hp), s'.last = a → St H [HeapP b s'] H' → R19 a H' := fun a s' H' e h' => by
    refine hR19 a H' (hLast h' (i := 0) rfl ?_)
    simp only [asI_mk', asB_mk, asP_mk, asA_mk, asM_mk, asSl_mk, asStr_mk, tup2_mk, tup3_mk, agg1_mk, agg2_mk, agg3_mk, agg4_mk, asAggm, unCons_mk, unNil_mk, asTup_mk, extractD0, extractD1, List.toList_toArray, nilP_mk, add_mk, Nat.zero_add, Nat.add_zero, condT, condF, Bool.not_true, Bool.not_false, Option.isNone_some, Option.isNone_none]
    refine bif_neqf e ?_
    rw [wrap_i64 (by omega) (by omega)]
    exact ⟨⟨j + 1, s', by omega, by omega, e, h'⟩, by (try dsimp only); omega⟩
  have rr := h3.rd hr
  refine idxS E_law8_Step.len ⟨0, 0, 0, 0, 0, 0, 0, false⟩ rr (by omega) (by omega) hlt fun b1 o1 hp hjl hcs => ?_
  have hx := hok _ (List.getElem_mem hjl)
  have hgd : l.getD (j : Int).toNat ⟨0, 0, 0, 0, 0, 0, 0, false⟩ = l[(j : Int).toNat] := by rw [List.getD_eq_getElem?_getD, List.getElem?_eq_getElem hjl]; rfl
  rw [← hgd] at hx
  generalize l.getD (j : Int).toNat ⟨0, 0, 0, 0, 0, 0, 0, false⟩ = x at hx hcs
  have c0 := hcs 0 (by omega)
  have c1 := hcs 1 (by omega)
  have c2 := hcs 2 (by omega)
  have c3 := hcs 3 (by omega)
  refine ldI_of c0 ⟨by decide, ?_⟩
  by_cases hw : Int.tmod x.What 2 = 0
  · refine bif_eq hw (idxA_of rr (by omega) hlt fun b' o' hp' _ => ?_)
    obtain ⟨rfl, rfl⟩ : b1 = b' ∧ o1 = o' := by rw [hp] at hp'; simpa using hp'
    simp only [asI_mk', asB_mk, asP_mk, asA_mk, asM_mk, asSl_mk, asStr_mk, tup2_mk, tup3_mk, agg1_mk, agg2_mk, agg3_mk, agg4_mk, asAggm, unCons_mk, unNil_mk, asTup_mk, extractD0, extractD1, List.toList_toArray, nilP_mk, add_mk, Nat.zero_add, Nat.add_zero, condT, condF, Bool.not_true, Bool.not_false, Option.isNone_some, Option.isNone_none]
    refine ldI_of c1 (idxA_of rr (by omega) hlt fun b' o' hp' _ => ?_)
    obtain ⟨rfl, rfl⟩ : b1 = b' ∧ o1 = o' := by rw [hp] at hp'; simpa using hp'
    simp only [asI_mk', asB_mk, asP_mk, asA_mk, asM_mk, asSl_mk, asStr_mk, tup2_mk, tup3_mk, agg1_mk, agg2_mk, agg3_mk, agg4_mk, asAggm, unCons_mk, unNil_mk, asTup_mk, extractD0, extractD1, List.toList_toArray, nilP_mk, add_mk, Nat.zero_add, Nat.add_zero, condT, condF, Bool.not_true, Bool.not_false, Option.isNone_some, Option.isNone_none]
    refine ldI_of c2 (Pick_ok (by omega) (by omega) ?_)
    have p1 := pick_lt (n := x.A) (m := 3) (by omega)
    have p2 := pick_lt (n := x.B) (m := 3) (by omega)
    simp only [asI_mk', asB_mk, asP_mk, asA_mk, asM_mk, asSl_mk, asStr_mk, tup2_mk, tup3_mk, agg1_mk, agg2_mk, agg3_mk, agg4_mk, asAggm, unCons_mk, unNil_mk, asTup_mk, extractD0, extractD1, List.toList_toArray, nilP_mk, add_mk, Nat.zero_add, Nat.add_zero, condT, condF, Bool.not_true, Bool.not_false, Option.isNone_some, Option.isNone_none]
    refine ⟨ldI_of c2 rfl, Pick_ok (by omega) (by omega) ?_⟩
    simp only [asI_mk', asB_mk, asP_mk, asA_mk, asM_mk, asSl_mk, asStr_mk, tup2_mk, tup3_mk, agg1_mk, agg2_mk, agg3_mk, agg4_mk, asAggm, unCons_mk, unNil_mk, asTup_mk, extractD0, extractD1, List.toList_toArray, nilP_mk, add_mk, Nat.zero_add, Nat.add_zero, condT, condF, Bool.not_true, Bool.not_false, Option.isNone_some, Option.isNone_none]
    have e0 : IntKind.min .i64 = -9223372036854775808 := by decide
    have e1 : IntKind.max .i64 = 9223372036854775807 := by decide
    refine hMakeC h3 (i := 0) rfl (by omega) (by omega) fun H4 h4 => ?_
    simp only [asI_mk', asB_mk, asP_mk, asA_mk, asM_mk, asSl_mk, asStr_mk, tup2_mk, tup3_mk, agg1_mk, agg2_mk, agg3_mk, agg4_mk, asAggm, unCons_mk, unNil_mk, asTup_mk, extractD0, extractD1, List.toList_toArray, nilP_mk, add_mk, Nat.zero_add, Nat.add_zero, condT, condF, Bool.not_true, Bool.not_false, Option.isNone_some, Option.isNone_none]
    have hw3 : IntKind.u64.wrap (s.last + 1) = s.last + 1 := wrap_u64' (by omega) (by omega)
    rw [hw3]
    intro R44 hR44
    rcases hMake_cases s (pick x.A 3) (pick x.B 3) with ⟨a1, a2, a3⟩ | ⟨a1, a2, a3⟩
    · have hR44 : R44 H4 := hR44 H4 (bif_eq a1 (hR19 _ _ H4 (by rw [a3, a2]) h4))
      exact bif_eq a1 (bif_neqf a2 (bif_neqf a1 hR44))
    · have hR44 : R44 H4 := hR44 H4 (bif_ne a1 (hR19 _ _ H4 (by rw [a3]) h4))
      exact bif_ne a1 (bif_neq a1 (bif_neqf a2 hR44))
  · refine bif_ne hw (idxA_of rr (by omega) hlt fun b' o' hp' _ => ?_)
    obtain ⟨rfl, rfl⟩ : b1 = b' ∧ o1 = o' := by rw [hp] at hp'; simpa using hp'
    simp only [asI_mk', asB_mk, asP_mk, asA_mk, asM_mk, asSl_mk, asStr_mk, tup2_mk, tup3_mk, agg1_mk, agg2_mk, agg3_mk, agg4_mk, asAggm, unCons_mk, unNil_mk, asTup_mk, extractD0, extractD1, List.toList_toArray, nilP_mk, add_mk, Nat.zero_add, Nat.add_zero, condT, condF, Bool.not_true, Bool.not_false, Option.isNone_some, Option.isNone_none]
    refine ldI_of c3 ?_
    have w1 : IntKind.i64.wrap ((j : Int) + 1) = j + 1 := wrap_i64 (by omega) (by omega)
    have w2 : IntKind.u64.wrap ((j : Int) + 1) = j + 1 := wrap_u64' (by omega) (by omega)
    rw [w1, w2]
    refine ⟨by omega, hNextC h3 (i := 0) rfl fun H4 h4 => ?_⟩
    simp only [asI_mk', asB_mk, asP_mk, asA_mk, asM_mk, asSl_mk, asStr_mk, tup2_mk, tup3_mk, agg1_mk, agg2_mk, agg3_mk, agg4_mk, asAggm, unCons_mk, unNil_mk, asTup_mk, extractD0, extractD1, List.toList_toArray, nilP_mk, add_mk, Nat.zero_add, Nat.add_zero, condT, condF, Bool.not_true, Bool.not_false, Option.isNone_some, Option.isNone_none]
    cases hb : (hNext s (IntKind.u64.wrap (la + Int.tmod x.Serial ((j : Int) + 1)))).2
    · simp only [asI_mk', asB_mk, asP_mk, asA_mk, asM_mk, asSl_mk, asStr_mk, tup2_mk, tup3_mk, agg1_mk, agg2_mk, agg3_mk, agg4_mk, asAggm, unCons_mk, unNil_mk, asTup_mk, extractD0, extractD1, List.toList_toArray, nilP_mk, add_mk, Nat.zero_add, Nat.add_zero, condT, condF, Bool.not_true, Bool.not_false, Option.isNone_some, Option.isNone_none]
      exact hR19 _ s H4 rfl h4
    · simp only [asI_mk', asB_mk, asP_mk, asA_mk, asM_mk, asSl_mk, asStr_mk, tup2_mk, tup3_mk, agg1_mk, agg2_mk, agg3_mk, agg4_mk, asAggm, unCons_mk, unNil_mk, asTup_mk, extractD0, extractD1, List.toList_toArray, nilP_mk, add_mk, Nat.zero_add, Nat.add_zero, condT, condF, Bool.not_true, Bool.not_false, Option.isNone_some, Option.isNone_none]
      refine hFreeC h4 (i := 0) rfl fun H5 h5 => ?_
      simp only [asI_mk', asB_mk, asP_mk, asA_mk, asM_mk, asSl_mk, asStr_mk, tup2_mk, tup3_mk, agg1_mk, agg2_mk, agg3_mk, agg4_mk, asAggm, unCons_mk, unNil_mk, asTup_mk, extractD0, extractD1, List.toList_toArray, nilP_mk, add_mk, Nat.zero_add, Nat.add_zero, condT, condF, Bool.not_true, Bool.not_false, Option.isNone_some, Option.isNone_none]
      refine bif_neqf (hNext_free ho hb) (hR19 _ _ H5 ?_ h5)
      unfold hFree
      split <;> rfl

/-- The numbers of an object of which the first j are written. -/
def valsTo (v : Int) (n j : Nat) : List Int := (List.range n).map fun i => if i < j then IntKind.u64.wrap (v + IntKind.u64.wrap (i : Int)) else 0
theorem valsTo_len {v : Int} {n j : Nat} : (valsTo v n j).length = n := by simp [valsTo]
theorem valsTo_get {v : Int} {n j i : Nat} (hi : i < n) : (valsTo v n j).getD i 0 = if i < j then IntKind.u64.wrap (v + IntKind.u64.wrap (i : Int)) else 0 := by
  simp [valsTo, List.getD_eq_getElem?_getD, hi]
theorem valsTo_zero {v : Int} {n : Nat} : valsTo v n 0 = List.replicate n 0 := by
  apply List.ext_getElem?
  intro i
  by_cases hi : i < n <;> simp [valsTo, hi]
theorem valsTo_set {v : Int} {n j : Nat} (hj : j < n) : (valsTo v n j).set j (IntKind.u64.wrap (v + IntKind.u64.wrap (j : Int))) = valsTo v n (j + 1) := by
  apply List.ext_getElem?
  intro i
  rw [List.getElem?_set]
  by_cases hi : i < n
  · by_cases e : j = i
    · subst e
      simp [valsTo, hi]
    · simp [valsTo, hi, e]
      by_cases h : i < j
      · rw [if_pos h, if_pos (by omega)]
      · rw [if_neg h, if_neg (by omega)]
  · simp [valsTo, hi]
    intro e
    omega

set_option maxRecDepth 20000 in
theorem HeapOwn_ok {refs vals v : Int} {H : Hp} {K : Value → Hp → Prop} (hr : IntKind.min .i64 ≤ refs ∧ refs ≤ IntKind.max .i64) (hv : IntKind.min .i64 ≤ vals ∧ vals ≤ IntKind.max .i64) (hw : IntKind.min .u64 ≤ v ∧ v ≤ IntKind.max .u64)
    (hK : ∀ H', Keep Nothing H H' → K (.bool true) H') : hcall PR f_law8_HeapOwn ⟨[.int .i64 refs, .int .i64 vals, .int .u64 v]⟩ H K := by
  apply den_law8_HeapOwn
  unfold B_law8_HeapOwn
  refine hNewOk (m := 4) (by decide) (by decide) (by decide) (by decide) (by decide) (St.start H) fun b H1 h1 => ?_
  simp only [asI_mk', asB_mk, asP_mk, asA_mk, asM_mk, asSl_mk, asStr_mk, tup2_mk, tup3_mk, agg1_mk, agg2_mk, agg3_mk, agg4_mk, asAggm, unCons_mk, unNil_mk, asTup_mk, extractD0, extractD1, List.toList_toArray, nilP_mk, add_mk, Nat.zero_add, Nat.add_zero, condT, condF, Bool.not_true, Bool.not_false, Option.isNone_some, Option.isNone_none]
  refine known8_ok h1 fun H2 h2 => ?_
  simp only [asI_mk', asB_mk, asP_mk, asA_mk, asM_mk, asSl_mk, asStr_mk, tup2_mk, tup3_mk, agg1_mk, agg2_mk, agg3_mk, agg4_mk, asAggm, unCons_mk, unNil_mk, asTup_mk, extractD0, extractD1, List.toList_toArray, nilP_mk, add_mk, Nat.zero_add, Nat.add_zero, condT, condF, Bool.not_true, Bool.not_false, Option.isNone_some, Option.isNone_none]
  refine bif_neqf rfl (Pick_ok (by omega) (by omega) ?_)
  simp only [asI_mk', asB_mk, asP_mk, asA_mk, asM_mk, asSl_mk, asStr_mk, tup2_mk, tup3_mk, agg1_mk, agg2_mk, agg3_mk, agg4_mk, asAggm, unCons_mk, unNil_mk, asTup_mk, extractD0, extractD1, List.toList_toArray, nilP_mk, add_mk, Nat.zero_add, Nat.add_zero, condT, condF, Bool.not_true, Bool.not_false, Option.isNone_some, Option.isNone_none]
  refine Pick_ok (by omega) (by omega) ?_
  simp only [asI_mk', asB_mk, asP_mk, asA_mk, asM_mk, asSl_mk, asStr_mk, tup2_mk, tup3_mk, agg1_mk, agg2_mk, agg3_mk, agg4_mk, asAggm, unCons_mk, unNil_mk, asTup_mk, extractD0, extractD1, List.toList_toArray, nilP_mk, add_mk, Nat.zero_add, Nat.add_zero, condT, condF, Bool.not_true, Bool.not_false, Option.isNone_some, Option.isNone_none]
  have p1 := pick_lt (n := refs) (m := 8) (by omega)
  have p2 := pick_lt (n := vals) (m := 8) (by omega)
  generalize pick refs 8 = n at *
  generalize pick vals 8 = m at *
  obtain ⟨n, rfl⟩ : ∃ k : Nat, n = k := ⟨n.toNat, by omega⟩
  obtain ⟨m, rfl⟩ : ∃ k : Nat, m = k := ⟨m.toNat, by omega⟩
  have e0 : IntKind.min .i64 = -9223372036854775808 := by decide
  have e1 : IntKind.max .i64 = 9223372036854775807 := by decide
  have hok2 := heap_ok h2 (i := 0) rfl
  refine hMakeC h2 (i := 0) rfl (by omega) (by omega) fun H3 h3 => ?_
  obtain ⟨s, c, g0, g1, g2, g3, g4, g5, g6⟩ := hMake_good' (s := newHs 3 4 0 4) (r := n) (v := m) hok2 (by omega) (by omega) (by decide) (by decide) (by show 0 < frees (List.replicate 4 noBlk); rw [frees_new]; omega)
  rw [g0] at h3 ⊢
  have h3 : St H [HeapP b s] H3 := h3
  simp only [asI_mk', asB_mk, asP_mk, asA_mk, asM_mk, asSl_mk, asStr_mk, tup2_mk, tup3_mk, agg1_mk, agg2_mk, agg3_mk, agg4_mk, asAggm, unCons_mk, unNil_mk, asTup_mk, extractD0, extractD1, List.toList_toArray, nilP_mk, add_mk, Nat.zero_add, Nat.add_zero, condT, condF, Bool.not_true, Bool.not_false, Option.isNone_some, Option.isNone_none]
  refine bif_neqf rfl ?_
  have g1 : s.last = 1 := g1
  have g4 : s.obs = [⟨1, c, List.replicate n noId, valsTo v m 0, 0⟩] := by rw [g4, valsTo_zero]; rfl
  rw [show (newHs 3 4 0 4).last + 1 = 1 by rfl]
  refine ⟨fun i H' => ∃ (j : Nat) (s : Hs), i = j ∧ j ≤ m ∧ s.obs = [⟨1, c, List.replicate n noId, valsTo v m j, 0⟩] ∧ St H [HeapP b s] H', fun i _ => (m - i).toNat, ⟨0, s, rfl, by omega, g4, h3⟩, ?_⟩
  clear h3 g0 g1 g2 g3 g4 g5 g6 hok2
  rintro i H4 ⟨j, s, rfl, hj, hs, h4⟩
  by_cases hlt : (j : Int) < m
  · refine bif_pos hlt (hSetValC h4 (i := 0) rfl fun H5 h5 => ?_)
    simp only [asI_mk', asB_mk, asP_mk, asA_mk, asM_mk, asSl_mk, asStr_mk, tup2_mk, tup3_mk, agg1_mk, agg2_mk, agg3_mk, agg4_mk, asAggm, unCons_mk, unNil_mk, asTup_mk, extractD0, extractD1, List.toList_toArray, nilP_mk, add_mk, Nat.zero_add, Nat.add_zero, condT, condF, Bool.not_true, Bool.not_false, Option.isNone_some, Option.isNone_none]
    rw [wrap_i64 (by omega) (by omega)]
    have hv : (hVal s 1 j).2 = 0 := by simp [hVal, hGet, hs, valsTo_len, hlt]
    have he : (hSetVal s 1 (j : Int) (IntKind.u64.wrap (v + IntKind.u64.wrap (j : Int)))).2.obs = [⟨1, c, List.replicate n noId, valsTo v m (j + 1), 0⟩] := by
      simp only [hSetVal, hv, if_true, hPut, hs, List.map_cons, List.map_nil, Int.toNat_natCast]
      rw [valsTo_set (by omega)]
    exact ⟨⟨j + 1, _, by omega, by omega, he, h5⟩, by (try dsimp only); omega⟩
  refine bif_neg hlt ?_
  obtain rfl : j = m := by omega
  clear hlt hj
  have hg : hGet s 1 = some ⟨1, c, List.replicate n noId, valsTo v j j, 0⟩ := by simp [hGet, hs]
  refine hObjC h4 (i := 0) rfl (fun e => by rw [hg] at e; cases e) fun o ho p cp q cq H5 h5 => ?_
  rw [hg] at ho
  cases ho
  simp only [asI_mk', asB_mk, asP_mk, asA_mk, asM_mk, asSl_mk, asStr_mk, tup2_mk, tup3_mk, agg1_mk, agg2_mk, agg3_mk, agg4_mk, asAggm, unCons_mk, unNil_mk, asTup_mk, extractD0, extractD1, List.toList_toArray, nilP_mk, add_mk, Nat.zero_add, Nat.add_zero, condT, condF, Bool.not_true, Bool.not_false, Option.isNone_some, Option.isNone_none]
  refine box5 h5 fun b57 H6 h6 => ?_
  refine ⟨fun i H' => ∃ (k : Nat) (xs : List Value), i = k ∧ k ≤ n ∧ St H [Prt.one b57 (.cells #[.int .u64 1, .int .i64 c, .slice p (List.replicate n noId).length cp, .slice q (valsTo v j j).length cq, .int .i64 0] ty_api_Object (0, 0)), Prt.row 2 p (List.replicate n noId).length cp xs, Prt.row 1 q (valsTo v j j).length cq ((valsTo v j j).map (Value.int .u64)), HeapP b s] H', fun i _ => (n - i).toNat, ⟨0, _, rfl, by omega, h6⟩, ?_⟩
  rintro i H7 ⟨k, xs, rfl, hk, h7⟩
  refine ldSl_of (h7.cell (i := 0) (o := 2) rfl rfl) ?_
  have hlen1 : (List.replicate n noId).length = n := by simp
  have hlen2 : (valsTo v j j).length = j := valsTo_len
  by_cases hlt : (k : Int) < ((List.replicate n noId).length : Int)
  · refine bif_pos hlt (ldSl_of (h7.cell (i := 0) (o := 2) rfl rfl) (idxA_of (h7.row_rd (i := 1) rfl) (by omega) hlt fun b' o' hp _ => ?_))
    refine h7.poke (i := 1) rfl hp (by simp; omega) fun H8 h8 => ?_
    simp only [asI_mk', asB_mk, asP_mk, asA_mk, asM_mk, asSl_mk, asStr_mk, tup2_mk, tup3_mk, agg1_mk, agg2_mk, agg3_mk, agg4_mk, asAggm, unCons_mk, unNil_mk, asTup_mk, extractD0, extractD1, List.toList_toArray, nilP_mk, add_mk, Nat.zero_add, Nat.add_zero, condT, condF, Bool.not_true, Bool.not_false, Option.isNone_some, Option.isNone_none]
    rw [Nat.add_assoc]
    refine h8.poke (i := 1) rfl hp (by simp; omega) fun H9 h9 => ?_
    rw [wrap_i64 (by omega) (by omega)]
    exact ⟨⟨k + 1, _, by omega, by omega, h9⟩, by (try dsimp only); omega⟩
  refine bif_neg hlt ?_
  refine ⟨fun i H' => ∃ (k : Nat) (ys : List Value), i = k ∧ k ≤ j ∧ St H [Prt.one b57 (.cells #[.int .u64 1, .int .i64 c, .slice p (List.replicate n noId).length cp, .slice q (valsTo v j j).length cq, .int .i64 0] ty_api_Object (0, 0)), Prt.row 2 p (List.replicate n noId).length cp xs, Prt.row 1 q (valsTo v j j).length cq ys, HeapP b s] H', fun i _ => (j - i).toNat, ⟨0, _, rfl, by omega, h7⟩, ?_⟩
  clear h7 hlt hk k
  rintro i H8 ⟨k, ys, rfl, hk, h8⟩
  refine ldSl_of (h8.cell (i := 0) (o := 3) rfl rfl) ?_
  by_cases hlt : (k : Int) < ((valsTo v j j).length : Int)
  · refine bif_pos hlt (ldSl_of (h8.cell (i := 0) (o := 3) rfl rfl) (idxA_of (h8.row_rd (i := 2) rfl) (by omega) hlt fun b' o' hp _ => ?_))
    refine h8.poke (i := 2) rfl hp (by omega) fun H9 h9 => ?_
    rw [wrap_i64 (by omega) (by omega)]
    exact ⟨⟨k + 1, _, by omega, by omega, h9⟩, by (try dsimp only); omega⟩
  refine bif_neg hlt ?_
  refine hObjC h8 (i := 3) rfl (fun e => by rw [hg] at e; cases e) fun o ho p2 cp2 q2 cq2 H9 h9 => ?_
  rw [hg] at ho
  cases ho
  simp only [asI_mk', asB_mk, asP_mk, asA_mk, asM_mk, asSl_mk, asStr_mk, tup2_mk, tup3_mk, agg1_mk, agg2_mk, agg3_mk, agg4_mk, asAggm, unCons_mk, unNil_mk, asTup_mk, extractD0, extractD1, List.toList_toArray, nilP_mk, add_mk, Nat.zero_add, Nat.add_zero, condT, condF, Bool.not_true, Bool.not_false, Option.isNone_some, Option.isNone_none]
  refine box5 h9 fun b114 H10 h10 => ?_
  refine ldSl_of (h10.cell (i := 0) (o := 2) rfl rfl) (bif_neqf (by omega) (ldSl_of (h10.cell (i := 0) (o := 3) rfl rfl) (bif_neqf (by omega) ?_)))
  have r1 := h10.row_rd (i := 1) rfl
  have r2 := h10.row_rd (i := 2) rfl
  refine ⟨fun i H' => H' = H10 ∧ ∃ k : Nat, i = k ∧ k ≤ n, fun i _ => (n - i).toNat, ⟨rfl, 0, rfl, by omega⟩, ?_⟩
  rintro i H' ⟨hH, k, rfl, hk⟩
  subst hH
  by_cases hlt : (k : Int) < n
  · refine bif_pos hlt (ldSl_of (h10.cell (i := 0) (o := 2) rfl rfl) (idxS Id.len noId r1 (by omega) (by omega) (by omega) fun b' o' _ hl hcc => ?_))
    have c0 := hcc 0 (by omega)
    have c1 := hcc 1 (by omega)
    have : (List.replicate n noId).getD (k : Int).toNat noId = noId := by rw [List.getD_eq_getElem?_getD, List.getElem?_replicate]; split <;> rfl
    rw [this] at c0 c1
    simp only [asI_mk', asB_mk, asP_mk, asA_mk, asM_mk, asSl_mk, asStr_mk, tup2_mk, tup3_mk, agg1_mk, agg2_mk, agg3_mk, agg4_mk, asAggm, unCons_mk, unNil_mk, asTup_mk, extractD0, extractD1, List.toList_toArray, nilP_mk, add_mk, Nat.zero_add, Nat.add_zero, condT, condF, Bool.not_true, Bool.not_false, Option.isNone_some, Option.isNone_none]
    refine ldI_of c0 (ldI_of c1 (idNe ?_))
    simp only [decide_true]
    simp only [asI_mk', asB_mk, asP_mk, asA_mk, asM_mk, asSl_mk, asStr_mk, tup2_mk, tup3_mk, agg1_mk, agg2_mk, agg3_mk, agg4_mk, asAggm, unCons_mk, unNil_mk, asTup_mk, extractD0, extractD1, List.toList_toArray, nilP_mk, add_mk, Nat.zero_add, Nat.add_zero, condT, condF, Bool.not_true, Bool.not_false, Option.isNone_some, Option.isNone_none]
    rw [wrap_i64 (by omega) (by omega)]
    exact ⟨⟨by trivial, k + 1, by omega, by omega⟩, by (try dsimp only); omega⟩
  refine bif_neg hlt ?_
  refine ⟨fun i H'' => H'' = H' ∧ ∃ k : Nat, i = k ∧ k ≤ j, fun i _ => (j - i).toNat, ⟨rfl, 0, rfl, by omega⟩, ?_⟩
  rintro i H'' ⟨hH, k, rfl, hk⟩
  subst hH
  by_cases hlt : (k : Int) < j
  · refine bif_pos hlt (ldSl_of (h10.cell (i := 0) (o := 3) rfl rfl) (idx1 (d := 0) r2 (by omega) (by omega) fun b' o' _ hcc => ldI_of hcc ?_))
    rw [Int.toNat_natCast, valsTo_get (by omega), if_pos (by omega)]
    refine bif_neqf rfl ?_
    rw [wrap_i64 (by omega) (by omega)]
    exact ⟨⟨by trivial, k + 1, by omega, by omega⟩, by (try dsimp only); omega⟩
  exact bif_neg hlt (hK _ h10.keep)

end Go.Proofs.Ytohlnmenghbgbaa
