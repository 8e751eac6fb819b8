/- Merged by merge.py: DenLaw22WitnessKnown, DenLaw22WitnessIn, Law22. No condition. -/
import Derived.Test.YtknejebggegfjaaZNum
import Derived.Test.YtknejebggegfjaaZTrace

namespace Go.Proofs.Ytknejebggegfjaa
open Go
set_option linter.unusedVariables false
set_option maxRecDepth 100000
def B_law22_WitnessKnown  (H : Hp) (K : Value → Hp → Prop) : Prop :=
 newB (.cells #[(.int .i64 0), (.int .u64 0)] ty_api_ID) H fun b1 Hx2 =>
 st ⟨b1, 0, none⟩ (.int .i64 2) Hx2 fun Hx3 =>
 st ⟨b1, 1, none⟩ (.int .u64 7) Hx3 fun Hx4 =>
 newB (.cells #[(.int .u64 0), (.slice none 0 0), (.slice none 0 0), (.bool false)] ty_cycle_Summary) Hx4 fun b5 Hx6 =>
 st ⟨b5, 0, none⟩ (.int .u64 3) Hx6 fun Hx7 =>
 st ⟨b5, 1, none⟩ (.slice none 0 0) Hx7 fun Hx8 =>
 st ⟨b5, 2, none⟩ (.slice none 0 0) Hx8 fun Hx9 =>
 st ⟨b5, 3, none⟩ (.bool true) Hx9 fun Hx10 =>
 hcall PR f_law22_known ⟨[]⟩ Hx10 fun v11 Hx12 =>
 asB v11 fun t13 =>
 (bif t13 then
 ldI .u64 ⟨b5, 0, none⟩ Hx12 fun Stir14 =>
 ldSl ⟨b5, 1, none⟩ Hx12 fun RowsP15 RowsL16 RowsC17 =>
 ldSl ⟨b5, 2, none⟩ Hx12 fun OutsP18 OutsL19 OutsC20 =>
 ldB ⟨b5, 3, none⟩ Hx12 fun Ok21 =>
 hcall PR f_witness_In ⟨[(.agg #[(.int .u64 Stir14), (.slice RowsP15 RowsL16 RowsC17), (.slice OutsP18 OutsL19 OutsC20), (.bool Ok21)]), (.int .u64 3), (.int .u64 5), (.slice none 0 0), (.bool false)]⟩ Hx12 fun v22 Hx23 =>
 agg2 v22 fun v24 v25 =>
 asI .i64 v24 fun Code26 =>
 asSl v25 fun ListP27 ListL28 ListC29 =>
 (bif ((Code26 : Int) == 0) then
 ldI .u64 ⟨b5, 0, none⟩ Hx23 fun Stir30 =>
 ldSl ⟨b5, 1, none⟩ Hx23 fun RowsP31 RowsL32 RowsC33 =>
 ldSl ⟨b5, 2, none⟩ Hx23 fun OutsP34 OutsL35 OutsC36 =>
 ldB ⟨b5, 3, none⟩ Hx23 fun Ok37 =>
 hcall PR f_witness_In ⟨[(.agg #[(.int .u64 Stir30), (.slice RowsP31 RowsL32 RowsC33), (.slice OutsP34 OutsL35 OutsC36), (.bool Ok37)]), (.int .u64 3), (.int .u64 5), (.slice none 0 0), (.bool true)]⟩ Hx23 fun v38 Hx39 =>
 agg2 v38 fun v40 v41 =>
 asI .i64 v40 fun Code42 =>
 asSl v41 fun ListP43 ListL44 ListC45 =>
 (bif ((Code42 : Int) == 1) then
 ldI .u64 ⟨b5, 0, none⟩ Hx39 fun Stir46 =>
 ldSl ⟨b5, 1, none⟩ Hx39 fun RowsP47 RowsL48 RowsC49 =>
 ldSl ⟨b5, 2, none⟩ Hx39 fun OutsP50 OutsL51 OutsC52 =>
 ldB ⟨b5, 3, none⟩ Hx39 fun Ok53 =>
 newB (.cells #[(.int .u64 2)] ty_uint64) Hx39 fun b54 Hx55 =>
 hcall PR f_witness_In ⟨[(.agg #[(.int .u64 Stir46), (.slice RowsP47 RowsL48 RowsC49), (.slice OutsP50 OutsL51 OutsC52), (.bool Ok53)]), (.int .u64 3), (.int .u64 5), (.slice (some ⟨b54, 0, none⟩) 1 1), (.bool false)]⟩ Hx55 fun v56 Hx57 =>
 agg2 v56 fun v58 v59 =>
 asI .i64 v58 fun Code60 =>
 asSl v59 fun ListP61 ListL62 ListC63 =>
 (bif ((Code60 : Int) == 1) then
 ldI .u64 ⟨b5, 0, none⟩ Hx57 fun Stir64 =>
 ldSl ⟨b5, 1, none⟩ Hx57 fun RowsP65 RowsL66 RowsC67 =>
 ldSl ⟨b5, 2, none⟩ Hx57 fun OutsP68 OutsL69 OutsC70 =>
 ldB ⟨b5, 3, none⟩ Hx57 fun Ok71 =>
 ldI .i64 ⟨b1, 0, none⟩ Hx57 fun Node72 =>
 ldI .u64 ⟨b1, 1, none⟩ Hx57 fun Serial73 =>
 hcall PR f_witness_Out ⟨[(.agg #[(.int .u64 Stir64), (.slice RowsP65 RowsL66 RowsC67), (.slice OutsP68 OutsL69 OutsC70), (.bool Ok71)]), (.int .u64 3), (.agg #[(.int .i64 Node72), (.int .u64 Serial73)]), (.int .i64 2), (.bool false)]⟩ Hx57 fun v74 Hx75 =>
 agg2 v74 fun v76 v77 =>
 asI .i64 v76 fun Code78 =>
 asSl v77 fun ListP79 ListL80 ListC81 =>
 (bif ((Code78 : Int) == 1) then
 ldI .u64 ⟨b5, 0, none⟩ Hx75 fun Stir82 =>
 ldSl ⟨b5, 1, none⟩ Hx75 fun RowsP83 RowsL84 RowsC85 =>
 ldSl ⟨b5, 2, none⟩ Hx75 fun OutsP86 OutsL87 OutsC88 =>
 ldB ⟨b5, 3, none⟩ Hx75 fun Ok89 =>
 ldI .i64 ⟨b1, 0, none⟩ Hx75 fun Node90 =>
 ldI .u64 ⟨b1, 1, none⟩ Hx75 fun Serial91 =>
 hcall PR f_witness_Out ⟨[(.agg #[(.int .u64 Stir82), (.slice RowsP83 RowsL84 RowsC85), (.slice OutsP86 OutsL87 OutsC88), (.bool Ok89)]), (.int .u64 3), (.agg #[(.int .i64 Node90), (.int .u64 Serial91)]), (.int .i64 1), (.bool false)]⟩ Hx75 fun v92 Hx93 =>
 agg2 v92 fun v94 v95 =>
 asI .i64 v94 fun Code96 =>
 asSl v95 fun ListP97 ListL98 ListC99 =>
 (bif ((Code96 : Int) == 1) then
 ldI .u64 ⟨b5, 0, none⟩ Hx93 fun Stir100 =>
 ldSl ⟨b5, 1, none⟩ Hx93 fun RowsP101 RowsL102 RowsC103 =>
 ldSl ⟨b5, 2, none⟩ Hx93 fun OutsP104 OutsL105 OutsC106 =>
 ldB ⟨b5, 3, none⟩ Hx93 fun Ok107 =>
 ldI .i64 ⟨b1, 0, none⟩ Hx93 fun Node108 =>
 ldI .u64 ⟨b1, 1, none⟩ Hx93 fun Serial109 =>
 hcall PR f_witness_Out ⟨[(.agg #[(.int .u64 Stir100), (.slice RowsP101 RowsL102 RowsC103), (.slice OutsP104 OutsL105 OutsC106), (.bool Ok107)]), (.int .u64 3), (.agg #[(.int .i64 Node108), (.int .u64 Serial109)]), (.int .i64 4), (.bool false)]⟩ Hx93 fun v110 Hx111 =>
 agg2 v110 fun v112 v113 =>
 asI .i64 v112 fun Code114 =>
 asSl v113 fun ListP115 ListL116 ListC117 =>
 (bif ((Code114 : Int) == 0) then
 ldI .i64 ⟨b1, 0, none⟩ Hx111 fun Node118 =>
 ldI .u64 ⟨b1, 1, none⟩ Hx111 fun Serial119 =>
 hcall PR f_witness_Out ⟨[(.agg #[(.int .u64 0), (.slice none 0 0), (.slice none 0 0), (.bool false)]), (.int .u64 0), (.agg #[(.int .i64 Node118), (.int .u64 Serial119)]), (.int .i64 0), (.bool false)]⟩ Hx111 fun v120 Hx121 =>
 agg2 v120 fun v122 v123 =>
 asI .i64 v122 fun Code124 =>
 asSl v123 fun ListP125 ListL126 ListC127 =>
 K (.bool ((Code124 : Int) == 1)) Hx121
else
 K (.bool false) Hx111)
else
 K (.bool false) Hx93)
else
 K (.bool false) Hx75)
else
 K (.bool false) Hx57)
else
 K (.bool false) Hx39)
else
 K (.bool false) Hx23)
else
 K (.bool false) Hx12)
theorem E_law22_WitnessKnown  (H : Hp) (K : Value → Hp → Prop) : B_law22_WitnessKnown  H K = denF Try.prog Try.f4 .n [] H K := by kernel_rfl
theorem den_law22_WitnessKnown  {H : Hp} {K : Value → Hp → Prop} (h : B_law22_WitnessKnown  H K) : hcall PR f_law22_WitnessKnown ⟨[]⟩ H K := denF_call Try.func4 PR_mixed (Eq.mp (E_law22_WitnessKnown  H K) h)

end Go.Proofs.Ytknejebggegfjaa

namespace Go.Proofs.Ytknejebggegfjaa
open Go
set_option linter.unusedVariables false
set_option maxRecDepth 100000
end Go.Proofs.Ytknejebggegfjaa

namespace Go.Proofs.Ytknejebggegfjaa
set_option linter.unusedSimpArgs false
set_option linter.unusedVariables false
set_option maxRecDepth 20000
open Go
section
variable {H0 H : Hp} {L M N : List Prt} {i k : Nat} {K : Value → Hp → Prop}
theorem rdE {H : Hp} {k : Nat} : Rd H k none 0 [] := ⟨by simp, rfl⟩
theorem known22C (h : St H0 L H) (hK : ∀ H', St H0 L H' → K (.bool true) H') : hcall PR f_law22_known ⟨[]⟩ H K := by
  apply den_law22_known
  unfold B_law22_known
  refine boxs (c := [.int .i64 0, .int .u64 0]) (vs := [.int .i64 2, .int .u64 7]) h rfl fun b1 H1 g1 => ?_
  refine ldI_of (g1.cell (i := 0) rfl rfl) (ldI_of (g1.cell (i := 0) rfl rfl) ?_)
  intro b7 hb7
  have g2 := g1.alloc (o := .cells #[.int .i64 2, .int .u64 7] ty_api_ID) hb7
  intro b9 hb9
  have g3 := g2.alloc (o := .cells #[.int .u64 5, .slice (some ⟨b7, 0, none⟩) 1 1] ty_api_Reach) hb9
  refine ldI_of (g3.cell (i := 2) rfl rfl) (ldI_of (g3.cell (i := 2) rfl rfl) ?_)
  intro b13 hb13
  have g4 := g3.alloc (o := .cells #[.int .i64 2, .int .u64 7, .int .i64 9] ty_api_Out) hb13
  refine boxs (c := [.int .u64 0, .slice none 0 0, .slice none 0 0, .bool false]) (vs := [.int .u64 3, .slice (some ⟨b9, 0, none⟩) 1 1, .slice (some ⟨b13, 0, none⟩) 1 1, .bool true]) g4 rfl fun b15 H5 g5 => ?_
  have g5 : St H0 (Prt.one b15 (.cells #[.int .u64 3, .slice (some ⟨b9, 0, none⟩) 1 1, .slice (some ⟨b13, 0, none⟩) 1 1, .bool true] ty_cycle_Summary (0, 0)) :: Prt.one b13 (.cells #[.int .i64 2, .int .u64 7, .int .i64 9] ty_api_Out (0, 0)) :: Prt.one b9 (.cells #[.int .u64 5, .slice (some ⟨b7, 0, none⟩) 1 1] ty_api_Reach (0, 0)) :: Prt.one b7 (.cells #[.int .i64 2, .int .u64 7] ty_api_ID (0, 0)) :: Prt.one b1 (.cells #[.int .i64 2, .int .u64 7] ty_api_ID (0, 0)) :: L) H5 := g5
  clear g1 g2 g3 g4 h
  have rrow : ∀ N H', St H0 (N ++ (Prt.one b15 (.cells #[.int .u64 3, .slice (some ⟨b9, 0, none⟩) 1 1, .slice (some ⟨b13, 0, none⟩) 1 1, .bool true] ty_cycle_Summary (0, 0)) :: Prt.one b13 (.cells #[.int .i64 2, .int .u64 7, .int .i64 9] ty_api_Out (0, 0)) :: Prt.one b9 (.cells #[.int .u64 5, .slice (some ⟨b7, 0, none⟩) 1 1] ty_api_Reach (0, 0)) :: Prt.one b7 (.cells #[.int .i64 2, .int .u64 7] ty_api_ID (0, 0)) :: Prt.one b1 (.cells #[.int .i64 2, .int .u64 7] ty_api_ID (0, 0)) :: L)) H' → Rd H' 2 (some ⟨b9, 0, none⟩) 1 (cel rwC [(5, (some ⟨b7, 0, none⟩, 1, 1))]) := fun N H' h' => (St.lesses (M := N) h').one_rd (n := 1) (k := 2) (i := 2) rfl rfl
  have rids : ∀ N H', St H0 (N ++ (Prt.one b15 (.cells #[.int .u64 3, .slice (some ⟨b9, 0, none⟩) 1 1, .slice (some ⟨b13, 0, none⟩) 1 1, .bool true] ty_cycle_Summary (0, 0)) :: Prt.one b13 (.cells #[.int .i64 2, .int .u64 7, .int .i64 9] ty_api_Out (0, 0)) :: Prt.one b9 (.cells #[.int .u64 5, .slice (some ⟨b7, 0, none⟩) 1 1] ty_api_Reach (0, 0)) :: Prt.one b7 (.cells #[.int .i64 2, .int .u64 7] ty_api_ID (0, 0)) :: Prt.one b1 (.cells #[.int .i64 2, .int .u64 7] ty_api_ID (0, 0)) :: L)) H' → Rd H' 2 (some ⟨b7, 0, none⟩) 1 (cel wId [⟨2, 7⟩]) := fun N H' h' => (St.lesses (M := N) h').one_rd (n := 1) (k := 2) (i := 3) rfl rfl
  have rout : ∀ N H', St H0 (N ++ (Prt.one b15 (.cells #[.int .u64 3, .slice (some ⟨b9, 0, none⟩) 1 1, .slice (some ⟨b13, 0, none⟩) 1 1, .bool true] ty_cycle_Summary (0, 0)) :: Prt.one b13 (.cells #[.int .i64 2, .int .u64 7, .int .i64 9] ty_api_Out (0, 0)) :: Prt.one b9 (.cells #[.int .u64 5, .slice (some ⟨b7, 0, none⟩) 1 1] ty_api_Reach (0, 0)) :: Prt.one b7 (.cells #[.int .i64 2, .int .u64 7] ty_api_ID (0, 0)) :: Prt.one b1 (.cells #[.int .i64 2, .int .u64 7] ty_api_ID (0, 0)) :: L)) H' → Rd H' 3 (some ⟨b13, 0, none⟩) 1 (cel ouC [(⟨2, 7⟩, 9)]) := fun N H' h' => (St.lesses (M := N) h').one_rd (n := 1) (k := 3) (i := 1) rfl rfl
  refine ldI_of (g5.cell (i := 0) rfl rfl) (ldSl_of (g5.cell (i := 0) rfl rfl) (ldSl_of (g5.cell (i := 0) rfl rfl) (ldB_of (g5.cell (i := 0) rfl rfl) (?_))))
  intro b29 hb29
  have g6 := g5.alloc (o := .cells #[.int .u64 2, .int .u64 4] ty_uint64) hb29
  refine witInC (ts := [(5, (some ⟨b7, 0, none⟩, 1, 1))]) (holders := [2, 4]) g6 (by decide) (fun N H' h' => rrow (N ++ [_]) H' (by rw [List.append_assoc]; exact h')) (fun N H' h' => (St.lesses (M := N) h').one_rd (n := 2) (k := 1) (i := 0) rfl rfl) (by decide) fun p n cap H7 g7 => ?_
  have e1 : inS true 3 3 5 [5] [2, 4] false = (2, [2, 4]) := by rfl
  have e1' : inS true 3 3 5 ([((5, (some ⟨b7, 0, none⟩, 1, 1)) : RwT)].map (·.1)) [2, 4] false = (2, [2, 4]) := e1
  rw [e1'] at g7 ⊢
  (try simp only [asI_mk', asB_mk, asP_mk, asA_mk, asM_mk, asSl_mk, asStr_mk, tup2_mk, tup3_mk, agg1_mk, agg2_mk, agg3_mk, agg4_mk, asAggm, unCons_mk, unNil_mk, asTup_mk, extractD0, extractD1, List.toList_toArray, nilP_mk, add_mk, Nat.zero_add, Nat.add_zero, condT, condF, Bool.not_true, Bool.not_false, Option.isNone_some, Option.isNone_none])
  refine boxs (c := [.int .i64 0, .slice none 0 0]) (vs := [.int .i64 2, .slice p n cap]) g7 rfl fun b39 H8 g8 => ?_
  have g8 : St H0 (Prt.one b39 (.cells #[.int .i64 2, .slice p n cap] ty_witness_Said (0, 0)) :: Prt.row 1 p n cap (([2, 4] : List Int).map (Value.int .u64)) :: Prt.one b29 (.cells #[.int .u64 2, .int .u64 4] ty_uint64 (0, 0)) :: Prt.one b15 (.cells #[.int .u64 3, .slice (some ⟨b9, 0, none⟩) 1 1, .slice (some ⟨b13, 0, none⟩) 1 1, .bool true] ty_cycle_Summary (0, 0)) :: Prt.one b13 (.cells #[.int .i64 2, .int .u64 7, .int .i64 9] ty_api_Out (0, 0)) :: Prt.one b9 (.cells #[.int .u64 5, .slice (some ⟨b7, 0, none⟩) 1 1] ty_api_Reach (0, 0)) :: Prt.one b7 (.cells #[.int .i64 2, .int .u64 7] ty_api_ID (0, 0)) :: Prt.one b1 (.cells #[.int .i64 2, .int .u64 7] ty_api_ID (0, 0)) :: L) H8 := g8
  clear g5 g6 g7
  refine ldI_of (g8.cell (i := 3) rfl rfl) (ldSl_of (g8.cell (i := 3) rfl rfl) (ldSl_of (g8.cell (i := 3) rfl rfl) (ldB_of (g8.cell (i := 3) rfl rfl) (?_))))
  intro b51 hb51
  have g9 := g8.alloc (o := .cells #[.int .u64 2, .int .u64 4] ty_uint64) hb51
  refine witInC (ts := [(5, (some ⟨b7, 0, none⟩, 1, 1))]) (holders := [2, 4]) g9 (by decide) (fun N H' h' => rrow (N ++ [_, _, _, _]) H' (by rw [List.append_assoc]; exact h')) (fun N H' h' => (St.lesses (M := N) h').one_rd (n := 2) (k := 1) (i := 0) rfl rfl) (by decide) fun p2 n2 cap2 H10 g10 => ?_
  have e2 : inS true 3 4 5 ([((5, (some ⟨b7, 0, none⟩, 1, 1)) : RwT)].map (·.1)) [2, 4] false = (1, []) := by rfl
  rw [e2] at g10 ⊢
  (try simp only [asI_mk', asB_mk, asP_mk, asA_mk, asM_mk, asSl_mk, asStr_mk, tup2_mk, tup3_mk, agg1_mk, agg2_mk, agg3_mk, agg4_mk, asAggm, unCons_mk, unNil_mk, asTup_mk, extractD0, extractD1, List.toList_toArray, nilP_mk, add_mk, Nat.zero_add, Nat.add_zero, condT, condF, Bool.not_true, Bool.not_false, Option.isNone_some, Option.isNone_none])
  have hn2 : n2 = 0 := by have := (g10.row_own (i := 0) rfl).len1; simpa using this.symm
  refine boxs (c := [.int .i64 0, .slice none 0 0]) (vs := [.int .i64 1, .slice p2 n2 cap2]) g10 rfl fun b61 H11 g11 => ?_
  have g11 : St H0 (Prt.one b61 (.cells #[.int .i64 1, .slice p2 n2 cap2] ty_witness_Said (0, 0)) :: Prt.row 1 p2 n2 cap2 (([] : List Int).map (Value.int .u64)) :: Prt.one b51 (.cells #[.int .u64 2, .int .u64 4] ty_uint64 (0, 0)) :: Prt.one b39 (.cells #[.int .i64 2, .slice p n cap] ty_witness_Said (0, 0)) :: Prt.row 1 p n cap (([2, 4] : List Int).map (Value.int .u64)) :: Prt.one b29 (.cells #[.int .u64 2, .int .u64 4] ty_uint64 (0, 0)) :: Prt.one b15 (.cells #[.int .u64 3, .slice (some ⟨b9, 0, none⟩) 1 1, .slice (some ⟨b13, 0, none⟩) 1 1, .bool true] ty_cycle_Summary (0, 0)) :: Prt.one b13 (.cells #[.int .i64 2, .int .u64 7, .int .i64 9] ty_api_Out (0, 0)) :: Prt.one b9 (.cells #[.int .u64 5, .slice (some ⟨b7, 0, none⟩) 1 1] ty_api_Reach (0, 0)) :: Prt.one b7 (.cells #[.int .i64 2, .int .u64 7] ty_api_ID (0, 0)) :: Prt.one b1 (.cells #[.int .i64 2, .int .u64 7] ty_api_ID (0, 0)) :: L) H11 := g11
  clear g8 g9 g10
  refine ldI_of (g11.cell (i := 6) rfl rfl) (ldSl_of (g11.cell (i := 6) rfl rfl) (ldSl_of (g11.cell (i := 6) rfl rfl) (ldB_of (g11.cell (i := 6) rfl rfl) (?_))))
  refine ldI_of (g11.cell (i := 10) rfl rfl) (ldI_of (g11.cell (i := 10) rfl rfl) ?_)
  have lsE : ∀ (j : Nat) (r : RwT) (l : List Id), ([((5, (some ⟨b7, 0, none⟩, 1, 1)) : RwT)])[j]? = some r → ([[⟨2, 7⟩]] : List (List Id))[j]? = some l → r = (5, (some ⟨b7, 0, none⟩, 1, 1)) ∧ l = [⟨2, 7⟩] := fun j r l h1 h2 => by
    cases j with
    | zero => simp at h1 h2; exact ⟨h1.symm, h2.symm⟩
    | succ j => simp at h1
  refine witOutC (x := ⟨2, 7⟩) (ts := [(5, (some ⟨b7, 0, none⟩, 1, 1))]) (ls := [[⟨2, 7⟩]]) (os := [(⟨2, 7⟩, 9)]) g11 (by decide) (by decide) (fun N H' h' => rrow (N ++ [_, _, _, _, _, _]) H' (by rw [List.append_assoc]; exact h')) rfl (fun j r l h1 h2 => by
    obtain ⟨rfl, rfl⟩ := lsE j r l h1 h2
    exact ⟨by simp only; omega, fun N H' h' => rids (N ++ [_, _, _, _, _, _]) H' (by rw [List.append_assoc]; exact h')⟩) (fun N H' h' => rout (N ++ [_, _, _, _, _, _]) H' (by rw [List.append_assoc]; exact h')) sortOk1 fun p3 n3 cap3 H12 g12 => ?_
  have e3 : outS true 3 3 ([((⟨2, 7⟩, 9) : Id × Int)].map (·.1)) (insOf (([((5, (some ⟨b7, 0, none⟩, 1, 1)) : RwT)].map (·.1)).zip [[⟨2, 7⟩]]) ⟨2, 7⟩) ⟨2, 7⟩ 2 false = (2, [5]) := by rfl
  rw [e3] at g12 ⊢
  (try simp only [asI_mk', asB_mk, asP_mk, asA_mk, asM_mk, asSl_mk, asStr_mk, tup2_mk, tup3_mk, agg1_mk, agg2_mk, agg3_mk, agg4_mk, asAggm, unCons_mk, unNil_mk, asTup_mk, extractD0, extractD1, List.toList_toArray, nilP_mk, add_mk, Nat.zero_add, Nat.add_zero, condT, condF, Bool.not_true, Bool.not_false, Option.isNone_some, Option.isNone_none])
  refine boxs (c := [.int .i64 0, .slice none 0 0]) (vs := [.int .i64 2, .slice p3 n3 cap3]) g12 rfl fun b83 H13 g13 => ?_
  have g13 : St H0 (Prt.one b83 (.cells #[.int .i64 2, .slice p3 n3 cap3] ty_witness_Said (0, 0)) :: Prt.row 1 p3 n3 cap3 (([5] : List Int).map (Value.int .u64)) :: Prt.one b61 (.cells #[.int .i64 1, .slice p2 n2 cap2] ty_witness_Said (0, 0)) :: Prt.row 1 p2 n2 cap2 (([] : List Int).map (Value.int .u64)) :: Prt.one b51 (.cells #[.int .u64 2, .int .u64 4] ty_uint64 (0, 0)) :: Prt.one b39 (.cells #[.int .i64 2, .slice p n cap] ty_witness_Said (0, 0)) :: Prt.row 1 p n cap (([2, 4] : List Int).map (Value.int .u64)) :: Prt.one b29 (.cells #[.int .u64 2, .int .u64 4] ty_uint64 (0, 0)) :: Prt.one b15 (.cells #[.int .u64 3, .slice (some ⟨b9, 0, none⟩) 1 1, .slice (some ⟨b13, 0, none⟩) 1 1, .bool true] ty_cycle_Summary (0, 0)) :: Prt.one b13 (.cells #[.int .i64 2, .int .u64 7, .int .i64 9] ty_api_Out (0, 0)) :: Prt.one b9 (.cells #[.int .u64 5, .slice (some ⟨b7, 0, none⟩) 1 1] ty_api_Reach (0, 0)) :: Prt.one b7 (.cells #[.int .i64 2, .int .u64 7] ty_api_ID (0, 0)) :: Prt.one b1 (.cells #[.int .i64 2, .int .u64 7] ty_api_ID (0, 0)) :: L) H13 := g13
  clear g11 g12
  refine ldI_of (g13.cell (i := 8) rfl rfl) (ldSl_of (g13.cell (i := 8) rfl rfl) (ldSl_of (g13.cell (i := 8) rfl rfl) (ldB_of (g13.cell (i := 8) rfl rfl) (?_))))
  refine ldI_of (g13.cell (i := 12) rfl rfl) (ldI_of (g13.cell (i := 12) rfl rfl) ?_)
  refine witOutC (x := ⟨2, 7⟩) (ts := [(5, (some ⟨b7, 0, none⟩, 1, 1))]) (ls := [[⟨2, 7⟩]]) (os := [(⟨2, 7⟩, 9)]) g13 (by decide) (by decide) (fun N H' h' => rrow (N ++ [_, _, _, _, _, _, _, _]) H' (by rw [List.append_assoc]; exact h')) rfl (fun j r l h1 h2 => by
    obtain ⟨rfl, rfl⟩ := lsE j r l h1 h2
    exact ⟨by simp only; omega, fun N H' h' => rids (N ++ [_, _, _, _, _, _, _, _]) H' (by rw [List.append_assoc]; exact h')⟩) (fun N H' h' => rout (N ++ [_, _, _, _, _, _, _, _]) H' (by rw [List.append_assoc]; exact h')) sortOk1 fun p4 n4 cap4 H14 g14 => ?_
  have e4 : outS true 3 3 ([((⟨2, 7⟩, 9) : Id × Int)].map (·.1)) (insOf (([((5, (some ⟨b7, 0, none⟩, 1, 1)) : RwT)].map (·.1)).zip [[⟨2, 7⟩]]) ⟨2, 7⟩) ⟨2, 7⟩ 0 false = (0, []) := by rfl
  rw [e4] at g14 ⊢
  (try simp only [asI_mk', asB_mk, asP_mk, asA_mk, asM_mk, asSl_mk, asStr_mk, tup2_mk, tup3_mk, agg1_mk, agg2_mk, agg3_mk, agg4_mk, asAggm, unCons_mk, unNil_mk, asTup_mk, extractD0, extractD1, List.toList_toArray, nilP_mk, add_mk, Nat.zero_add, Nat.add_zero, condT, condF, Bool.not_true, Bool.not_false, Option.isNone_some, Option.isNone_none])
  refine boxs (c := [.int .i64 0, .slice none 0 0]) (vs := [.int .i64 0, .slice p4 n4 cap4]) g14 rfl fun b105 H15 g15 => ?_
  have g15 : St H0 (Prt.one b105 (.cells #[.int .i64 0, .slice p4 n4 cap4] ty_witness_Said (0, 0)) :: Prt.row 1 p4 n4 cap4 (([] : List Int).map (Value.int .u64)) :: Prt.one b83 (.cells #[.int .i64 2, .slice p3 n3 cap3] ty_witness_Said (0, 0)) :: Prt.row 1 p3 n3 cap3 (([5] : List Int).map (Value.int .u64)) :: Prt.one b61 (.cells #[.int .i64 1, .slice p2 n2 cap2] ty_witness_Said (0, 0)) :: Prt.row 1 p2 n2 cap2 (([] : List Int).map (Value.int .u64)) :: Prt.one b51 (.cells #[.int .u64 2, .int .u64 4] ty_uint64 (0, 0)) :: Prt.one b39 (.cells #[.int .i64 2, .slice p n cap] ty_witness_Said (0, 0)) :: Prt.row 1 p n cap (([2, 4] : List Int).map (Value.int .u64)) :: Prt.one b29 (.cells #[.int .u64 2, .int .u64 4] ty_uint64 (0, 0)) :: Prt.one b15 (.cells #[.int .u64 3, .slice (some ⟨b9, 0, none⟩) 1 1, .slice (some ⟨b13, 0, none⟩) 1 1, .bool true] ty_cycle_Summary (0, 0)) :: Prt.one b13 (.cells #[.int .i64 2, .int .u64 7, .int .i64 9] ty_api_Out (0, 0)) :: Prt.one b9 (.cells #[.int .u64 5, .slice (some ⟨b7, 0, none⟩) 1 1] ty_api_Reach (0, 0)) :: Prt.one b7 (.cells #[.int .i64 2, .int .u64 7] ty_api_ID (0, 0)) :: Prt.one b1 (.cells #[.int .i64 2, .int .u64 7] ty_api_ID (0, 0)) :: L) H15 := g15
  clear g13 g14
  have hn : n = 2 := by have := (g15.row_own (i := 8) rfl).len1; simpa using this.symm
  have hn3 : n3 = 1 := by have := (g15.row_own (i := 3) rfl).len1; simpa using this.symm
  refine ldI_of (g15.cell (i := 7) rfl rfl) (bif_eq rfl (ldSl_of (g15.cell (i := 7) rfl rfl) ?_))
  intro b113 hb113
  have g16 := g15.alloc (o := .cells #[.int .u64 2, .int .u64 4] ty_uint64) hb113
  refine numbersC (l := [2, 4]) (l' := [2, 4]) (g16.row_rd (i := 9) rfl) (g16.one_rd (i := 0) (n := 2) (k := 1) rfl rfl) (by omega) (by decide) ?_
  rw [decide_eq_true rfl]
  (try simp only [asI_mk', asB_mk, asP_mk, asA_mk, asM_mk, asSl_mk, asStr_mk, tup2_mk, tup3_mk, agg1_mk, agg2_mk, agg3_mk, agg4_mk, asAggm, unCons_mk, unNil_mk, asTup_mk, extractD0, extractD1, List.toList_toArray, nilP_mk, add_mk, Nat.zero_add, Nat.add_zero, condT, condF, Bool.not_true, Bool.not_false, Option.isNone_some, Option.isNone_none])
  refine ldI_of (g16.cell (i := 5) rfl rfl) (bif_eq rfl (ldSl_of (g16.cell (i := 5) rfl rfl) (bif_eq (by omega) (ldI_of (g16.cell (i := 3) rfl rfl) (bif_eq rfl (ldSl_of (g16.cell (i := 3) rfl rfl) ?_))))))
  intro b126 hb126
  have g17 := g16.alloc (o := .cells #[.int .u64 5] ty_uint64) hb126
  refine numbersC (l := [5]) (l' := [5]) (g17.row_rd (i := 5) rfl) (g17.one_rd (i := 0) (n := 1) (k := 1) rfl rfl) (by omega) (by decide) ?_
  rw [decide_eq_true rfl]
  (try simp only [asI_mk', asB_mk, asP_mk, asA_mk, asM_mk, asSl_mk, asStr_mk, tup2_mk, tup3_mk, agg1_mk, agg2_mk, agg3_mk, agg4_mk, asAggm, unCons_mk, unNil_mk, asTup_mk, extractD0, extractD1, List.toList_toArray, nilP_mk, add_mk, Nat.zero_add, Nat.add_zero, condT, condF, Bool.not_true, Bool.not_false, Option.isNone_some, Option.isNone_none])
  refine ldI_of (g17.cell (i := 2) rfl rfl) ?_
  (try simp only [asI_mk', asB_mk, asP_mk, asA_mk, asM_mk, asSl_mk, asStr_mk, tup2_mk, tup3_mk, agg1_mk, agg2_mk, agg3_mk, agg4_mk, asAggm, unCons_mk, unNil_mk, asTup_mk, extractD0, extractD1, List.toList_toArray, nilP_mk, add_mk, Nat.zero_add, Nat.add_zero, condT, condF, Bool.not_true, Bool.not_false, Option.isNone_some, Option.isNone_none])
  refine hK _ (St.lesses (M := [_, _, _, _, _, _, _, _, _, _, _, _, _, _, _, _, _]) g17)
end
theorem WitnessKnown_ok {H : Hp} {K : Value → Hp → Prop} (hK : ∀ H', Keep Nothing H H' → K (.bool true) H') : hcall PR f_law22_WitnessKnown ⟨[]⟩ H K := by
  apply den_law22_WitnessKnown
  unfold B_law22_WitnessKnown
  refine boxs (c := [.int .i64 0, .int .u64 0]) (vs := [.int .i64 2, .int .u64 7]) (St.start H) rfl fun b1 H1 g1 => ?_
  refine boxz (c := [.int .u64 0, .slice none 0 0, .slice none 0 0, .bool false]) (vs := [.int .u64 3, .slice none 0 0, .slice none 0 0, .bool true]) g1 rfl fun b5 H2 g2 => ?_
  refine known22C g2 fun H3 g3 => ?_
  have g3 : St H [Prt.one b5 (.cells #[.int .u64 3, .slice none 0 0, .slice none 0 0, .bool true] ty_cycle_Summary (0, 0)), Prt.one b1 (.cells #[.int .i64 2, .int .u64 7] ty_api_ID (0, 0))] H3 := g3
  (try simp only [asI_mk', asB_mk, asP_mk, asA_mk, asM_mk, asSl_mk, asStr_mk, tup2_mk, tup3_mk, agg1_mk, agg2_mk, agg3_mk, agg4_mk, asAggm, unCons_mk, unNil_mk, asTup_mk, extractD0, extractD1, List.toList_toArray, nilP_mk, add_mk, Nat.zero_add, Nat.add_zero, condT, condF, Bool.not_true, Bool.not_false, Option.isNone_some, Option.isNone_none])
  refine ldI_of (g3.cell (i := 0) rfl rfl) (ldSl_of (g3.cell (i := 0) rfl rfl) (ldSl_of (g3.cell (i := 0) rfl rfl) (ldB_of (g3.cell (i := 0) rfl rfl) (?_))))
  refine witInC (ts := []) (holders := []) g3 (by decide) (fun N H' h' => rdE) (fun N H' h' => rdE) (by decide) fun qg4 mg4 kg4 Jg4 g4 => ?_
  rw [show inS true 3 3 5 (([] : List RwT).map (·.1)) [] false = (0, []) from rfl] at g4 ⊢
  (try simp only [asI_mk', asB_mk, asP_mk, asA_mk, asM_mk, asSl_mk, asStr_mk, tup2_mk, tup3_mk, agg1_mk, agg2_mk, agg3_mk, agg4_mk, asAggm, unCons_mk, unNil_mk, asTup_mk, extractD0, extractD1, List.toList_toArray, nilP_mk, add_mk, Nat.zero_add, Nat.add_zero, condT, condF, Bool.not_true, Bool.not_false, Option.isNone_some, Option.isNone_none])
  refine bif_eq rfl ?_
  refine ldI_of (g4.cell (i := 1) rfl rfl) (ldSl_of (g4.cell (i := 1) rfl rfl) (ldSl_of (g4.cell (i := 1) rfl rfl) (ldB_of (g4.cell (i := 1) rfl rfl) (?_))))
  refine witInC (ts := []) (holders := []) g4 (by decide) (fun N H' h' => rdE) (fun N H' h' => rdE) (by decide) fun qg5 mg5 kg5 Jg5 g5 => ?_
  rw [show inS true 3 3 5 (([] : List RwT).map (·.1)) [] true = (1, []) from rfl] at g5 ⊢
  (try simp only [asI_mk', asB_mk, asP_mk, asA_mk, asM_mk, asSl_mk, asStr_mk, tup2_mk, tup3_mk, agg1_mk, agg2_mk, agg3_mk, agg4_mk, asAggm, unCons_mk, unNil_mk, asTup_mk, extractD0, extractD1, List.toList_toArray, nilP_mk, add_mk, Nat.zero_add, Nat.add_zero, condT, condF, Bool.not_true, Bool.not_false, Option.isNone_some, Option.isNone_none])
  refine bif_eq rfl ?_
  refine ldI_of (g5.cell (i := 2) rfl rfl) (ldSl_of (g5.cell (i := 2) rfl rfl) (ldSl_of (g5.cell (i := 2) rfl rfl) (ldB_of (g5.cell (i := 2) rfl rfl) (?_))))
  intro b54 hb54
  have g6 := g5.alloc (o := .cells #[.int .u64 2] ty_uint64) hb54
  refine witInC (ts := []) (holders := [2]) g6 (by decide) (fun N H' h' => rdE) (fun N H' h' => (St.lesses (M := N) h').one_rd (n := 1) (k := 1) (i := 0) rfl rfl) (by decide) fun qg7 mg7 kg7 Jg7 g7 => ?_
  rw [show inS true 3 3 5 (([] : List RwT).map (·.1)) [2] false = (1, []) from rfl] at g7 ⊢
  (try simp only [asI_mk', asB_mk, asP_mk, asA_mk, asM_mk, asSl_mk, asStr_mk, tup2_mk, tup3_mk, agg1_mk, agg2_mk, agg3_mk, agg4_mk, asAggm, unCons_mk, unNil_mk, asTup_mk, extractD0, extractD1, List.toList_toArray, nilP_mk, add_mk, Nat.zero_add, Nat.add_zero, condT, condF, Bool.not_true, Bool.not_false, Option.isNone_some, Option.isNone_none])
  refine bif_eq rfl ?_
  refine ldI_of (g7.cell (i := 4) rfl rfl) (ldSl_of (g7.cell (i := 4) rfl rfl) (ldSl_of (g7.cell (i := 4) rfl rfl) (ldB_of (g7.cell (i := 4) rfl rfl) (?_))))
  refine ldI_of (g7.cell (i := 5) rfl rfl) (ldI_of (g7.cell (i := 5) rfl rfl) ?_)
  refine witOutC (x := ⟨2, 7⟩) (ts := []) (ls := []) (os := []) g7 (by decide) (by decide) (fun N H' h' => rdE) rfl (fun j r l h1 h2 => by simp at h1) (fun N H' h' => rdE) (fun l p n cap L H K hl => sortOk1 l p n cap L H K (by omega)) fun qg8 mg8 kg8 Jg8 g8 => ?_
  rw [show outS true 3 3 (([] : List (Id × Int)).map (·.1)) (insOf ((([] : List RwT).map (·.1)).zip []) ⟨2, 7⟩) ⟨2, 7⟩ 2 false = (1, []) from rfl] at g8 ⊢
  (try simp only [asI_mk', asB_mk, asP_mk, asA_mk, asM_mk, asSl_mk, asStr_mk, tup2_mk, tup3_mk, agg1_mk, agg2_mk, agg3_mk, agg4_mk, asAggm, unCons_mk, unNil_mk, asTup_mk, extractD0, extractD1, List.toList_toArray, nilP_mk, add_mk, Nat.zero_add, Nat.add_zero, condT, condF, Bool.not_true, Bool.not_false, Option.isNone_some, Option.isNone_none])
  refine bif_eq rfl ?_
  refine ldI_of (g8.cell (i := 5) rfl rfl) (ldSl_of (g8.cell (i := 5) rfl rfl) (ldSl_of (g8.cell (i := 5) rfl rfl) (ldB_of (g8.cell (i := 5) rfl rfl) (?_))))
  refine ldI_of (g8.cell (i := 6) rfl rfl) (ldI_of (g8.cell (i := 6) rfl rfl) ?_)
  refine witOutC (x := ⟨2, 7⟩) (ts := []) (ls := []) (os := []) g8 (by decide) (by decide) (fun N H' h' => rdE) rfl (fun j r l h1 h2 => by simp at h1) (fun N H' h' => rdE) (fun l p n cap L H K hl => sortOk1 l p n cap L H K (by omega)) fun qg9 mg9 kg9 Jg9 g9 => ?_
  rw [show outS true 3 3 (([] : List (Id × Int)).map (·.1)) (insOf ((([] : List RwT).map (·.1)).zip []) ⟨2, 7⟩) ⟨2, 7⟩ 1 false = (1, []) from rfl] at g9 ⊢
  (try simp only [asI_mk', asB_mk, asP_mk, asA_mk, asM_mk, asSl_mk, asStr_mk, tup2_mk, tup3_mk, agg1_mk, agg2_mk, agg3_mk, agg4_mk, asAggm, unCons_mk, unNil_mk, asTup_mk, extractD0, extractD1, List.toList_toArray, nilP_mk, add_mk, Nat.zero_add, Nat.add_zero, condT, condF, Bool.not_true, Bool.not_false, Option.isNone_some, Option.isNone_none])
  refine bif_eq rfl ?_
  refine ldI_of (g9.cell (i := 6) rfl rfl) (ldSl_of (g9.cell (i := 6) rfl rfl) (ldSl_of (g9.cell (i := 6) rfl rfl) (ldB_of (g9.cell (i := 6) rfl rfl) (?_))))
  refine ldI_of (g9.cell (i := 7) rfl rfl) (ldI_of (g9.cell (i := 7) rfl rfl) ?_)
  refine witOutC (x := ⟨2, 7⟩) (ts := []) (ls := []) (os := []) g9 (by decide) (by decide) (fun N H' h' => rdE) rfl (fun j r l h1 h2 => by simp at h1) (fun N H' h' => rdE) (fun l p n cap L H K hl => sortOk1 l p n cap L H K (by omega)) fun qg10 mg10 kg10 Jg10 g10 => ?_
  rw [show outS true 3 3 (([] : List (Id × Int)).map (·.1)) (insOf ((([] : List RwT).map (·.1)).zip []) ⟨2, 7⟩) ⟨2, 7⟩ 4 false = (0, []) from rfl] at g10 ⊢
  (try simp only [asI_mk', asB_mk, asP_mk, asA_mk, asM_mk, asSl_mk, asStr_mk, tup2_mk, tup3_mk, agg1_mk, agg2_mk, agg3_mk, agg4_mk, asAggm, unCons_mk, unNil_mk, asTup_mk, extractD0, extractD1, List.toList_toArray, nilP_mk, add_mk, Nat.zero_add, Nat.add_zero, condT, condF, Bool.not_true, Bool.not_false, Option.isNone_some, Option.isNone_none])
  refine bif_eq rfl ?_
  refine ldI_of (g10.cell (i := 8) rfl rfl) (ldI_of (g10.cell (i := 8) rfl rfl) ?_)
  refine witOutC (x := ⟨2, 7⟩) (ts := []) (ls := []) (os := []) g10 (by decide) (by decide) (fun N H' h' => rdE) rfl (fun j r l h1 h2 => by simp at h1) (fun N H' h' => rdE) (fun l p n cap L H K hl => sortOk1 l p n cap L H K (by omega)) fun qg11 mg11 kg11 Jg11 g11 => ?_
  rw [show outS false 0 0 (([] : List (Id × Int)).map (·.1)) (insOf ((([] : List RwT).map (·.1)).zip []) ⟨2, 7⟩) ⟨2, 7⟩ 0 false = (1, []) from rfl] at g11 ⊢
  (try simp only [asI_mk', asB_mk, asP_mk, asA_mk, asM_mk, asSl_mk, asStr_mk, tup2_mk, tup3_mk, agg1_mk, agg2_mk, agg3_mk, agg4_mk, asAggm, unCons_mk, unNil_mk, asTup_mk, extractD0, extractD1, List.toList_toArray, nilP_mk, add_mk, Nat.zero_add, Nat.add_zero, condT, condF, Bool.not_true, Bool.not_false, Option.isNone_some, Option.isNone_none])
  exact hK _ g11.keep
end Go.Proofs.Ytknejebggegfjaa
