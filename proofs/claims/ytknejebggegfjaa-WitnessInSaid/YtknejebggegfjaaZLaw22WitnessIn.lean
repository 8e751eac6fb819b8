/- Merged by merge.py: DenLaw22WitnessKnown, DenLaw22WitnessIn, Law22. No condition. -/
import Derived.Test.YtknejebggegfjaaZNum
import Derived.Test.YtknejebggegfjaaZTrace

namespace Go.Proofs.Ytknejebggegfjaa
open Go
set_option linter.unusedVariables false
set_option maxRecDepth 100000
end Go.Proofs.Ytknejebggegfjaa

namespace Go.Proofs.Ytknejebggegfjaa
open Go
set_option linter.unusedVariables false
set_option maxRecDepth 100000
def B_law22_WitnessIn (sStir1 : Int) (sRowsP2 : Option Addr) (sRowsL3 : Nat) (sRowsC4 : Nat) (sOutsP5 : Option Addr) (sOutsL6 : Nat) (sOutsC7 : Nat) (sOk8 : Bool) (stir9 : Int) (serial10 : Int) (holdersP11 : Option Addr) (holdersL12 : Nat) (holdersC13 : Nat) (pinned14 : Bool) (fits15 : Bool) (H : Hp) (K : Value → Hp → Prop) : Prop :=
 newB (.cells #[(.int .u64 sStir1), (.slice sRowsP2 sRowsL3 sRowsC4), (.slice sOutsP5 sOutsL6 sOutsC7), (.bool sOk8)] ty_cycle_Summary) H fun b16 Hx17 =>
 ∀ R18 : Hp → Prop, (∀ Hx19 : Hp, (
 newB (.cells #[] ty_uint64) Hx19 fun b20 Hx21 =>
 evW PR (Builtin.append_ #[ty_Suint64, ty_Suint64] ty_Suint64 #[(.slice (some ⟨b20, 0, none⟩) 0 0), (.slice holdersP11 holdersL12 holdersC13)]) Hx21 fun v22 Hx23 =>
 asSl v22 fun tP24 tL25 tC26 =>
 ldI .u64 ⟨b16, 0, none⟩ Hx23 fun Stir27 =>
 ldSl ⟨b16, 1, none⟩ Hx23 fun RowsP28 RowsL29 RowsC30 =>
 ldSl ⟨b16, 2, none⟩ Hx23 fun OutsP31 OutsL32 OutsC33 =>
 ldB ⟨b16, 3, none⟩ Hx23 fun Ok34 =>
 hcall PR f_law22_copyOf ⟨[(.agg #[(.int .u64 Stir27), (.slice RowsP28 RowsL29 RowsC30), (.slice OutsP31 OutsL32 OutsC33), (.bool Ok34)])]⟩ Hx23 fun v35 Hx36 =>
 agg4 v35 fun v37 v38 v39 v40 =>
 asI .u64 v37 fun Stir41 =>
 asSl v38 fun RowsP42 RowsL43 RowsC44 =>
 asSl v39 fun OutsP45 OutsL46 OutsC47 =>
 asB v40 fun Ok48 =>
 hcall PR f_witness_In ⟨[(.agg #[(.int .u64 Stir41), (.slice RowsP42 RowsL43 RowsC44), (.slice OutsP45 OutsL46 OutsC47), (.bool Ok48)]), (.int .u64 stir9), (.int .u64 serial10), (.slice tP24 tL25 tC26), (.bool pinned14)]⟩ Hx36 fun v49 Hx50 =>
 agg2 v49 fun v51 v52 =>
 asI .i64 v51 fun Code53 =>
 asSl v52 fun ListP54 ListL55 ListC56 =>
 newB (.cells #[(.int .i64 0), (.slice none 0 0)] ty_witness_Said) Hx50 fun b57 Hx58 =>
 st ⟨b57, 0, none⟩ (.int .i64 Code53) Hx58 fun Hx59 =>
 st ⟨b57, 1, none⟩ (.slice ListP54 ListL55 ListC56) Hx59 fun Hx60 =>
 ldI .u64 ⟨b16, 0, none⟩ Hx60 fun Stir61 =>
 ldSl ⟨b16, 1, none⟩ Hx60 fun RowsP62 RowsL63 RowsC64 =>
 ldSl ⟨b16, 2, none⟩ Hx60 fun OutsP65 OutsL66 OutsC67 =>
 ldB ⟨b16, 3, none⟩ Hx60 fun Ok68 =>
 hcall PR f_ref22_In ⟨[(.agg #[(.int .u64 Stir61), (.slice RowsP62 RowsL63 RowsC64), (.slice OutsP65 OutsL66 OutsC67), (.bool Ok68)]), (.int .u64 stir9), (.int .u64 serial10), (.slice holdersP11 holdersL12 holdersC13), (.bool pinned14)]⟩ Hx60 fun v69 Hx70 =>
 tup2 v69 fun v71 v72 =>
 asI .i64 v71 fun t73 =>
 asSl v72 fun tP74 tL75 tC76 =>
 ∀ R77 : Bool → Hp → Prop, (∀ same79 : Bool, ∀ Hx78 : Hp, (
 ∃ (I80 : Int → Hp → Prop) (m81 : Int → Hp → Nat), I80 0 Hx78 ∧ ∀ i83 : Int, ∀ Hx82 : Hp, I80 i83 Hx82 →
 ldSl ⟨b57, 1, none⟩ Hx82 fun ListP84 ListL85 ListC86 =>
 (bif (decide ((i83 : Int) < (ListL85 : Int))) then
 ldSl ⟨b57, 1, none⟩ Hx82 fun ListP87 ListL88 ListC89 =>
 idxA ListP87 ListL88 i83 1 fun el90 =>
 st el90 (.int .u64 0) Hx82 fun Hx91 =>
 I80 (IntKind.i64.wrap (i83 + 1)) Hx91 ∧ m81 (IntKind.i64.wrap (i83 + 1)) Hx91 < m81 i83 Hx82
else
 hcall PR f_law22_known ⟨[]⟩ Hx82 fun v92 Hx93 =>
 asB v92 fun t94 =>
 (bif t94 then
 (bif same79 then
 hcall PR f_ref2_Numbers ⟨[(.slice tP24 tL25 tC26), (.slice holdersP11 holdersL12 holdersC13)]⟩ Hx93 fun v95 Hx96 =>
 asB v95 fun t97 =>
 K (.bool t97) Hx96
else
 K (.bool false) Hx93)
else
 K (.bool false) Hx93))) → R77 same79 Hx78) →
 ldI .i64 ⟨b57, 0, none⟩ Hx70 fun Code98 =>
 (bif ((Code98 : Int) == t73) then
 ldSl ⟨b57, 1, none⟩ Hx70 fun ListP99 ListL100 ListC101 =>
 hcall PR f_ref2_Numbers ⟨[(.slice ListP99 ListL100 ListC101), (.slice tP74 tL75 tC76)]⟩ Hx70 fun v102 Hx103 =>
 asB v102 fun t104 =>
 (bif t104 then
 hcall PR f_ref2_Numbers ⟨[(.slice tP24 tL25 tC26), (.slice holdersP11 holdersL12 holdersC13)]⟩ Hx103 fun v105 Hx106 =>
 asB v105 fun t107 =>
 R77 t107 Hx106
else
 R77 false Hx103)
else
 R77 false Hx70)) → R18 Hx19) →
 (bif fits15 then
 st ⟨b16, 0, none⟩ (.int .u64 stir9) Hx17 fun Hx108 =>
 st ⟨b16, 3, none⟩ (.bool true) Hx108 fun Hx109 =>
 R18 Hx109
else
 R18 Hx17)
theorem E_law22_WitnessIn (sStir1 : Int) (sRowsP2 : Option Addr) (sRowsL3 : Nat) (sRowsC4 : Nat) (sOutsP5 : Option Addr) (sOutsL6 : Nat) (sOutsC7 : Nat) (sOk8 : Bool) (stir9 : Int) (serial10 : Int) (holdersP11 : Option Addr) (holdersL12 : Nat) (holdersC13 : Nat) (pinned14 : Bool) (fits15 : Bool) (H : Hp) (K : Value → Hp → Prop) : B_law22_WitnessIn sStir1 sRowsP2 sRowsL3 sRowsC4 sOutsP5 sOutsL6 sOutsC7 sOk8 stir9 serial10 holdersP11 holdersL12 holdersC13 pinned14 fits15 H K = denF Try.prog Try.f5 (.seq none .n (.seq (some ⟨[], [1, 2, 3, 4, 6]⟩) .n (.seq none .n (.seq none .n (.seq none .n (.seq (some ⟨[(17, .bool)], [3, 13, 14]⟩) .n (.seq none (.seq none .n (.sub (.loop ⟨[(18, .int .i64)], [3, 13, 14, 17]⟩ .n))) .n))))))) [(.agg #[(.int .u64 sStir1), (.slice sRowsP2 sRowsL3 sRowsC4), (.slice sOutsP5 sOutsL6 sOutsC7), (.bool sOk8)]), (.int .u64 stir9), (.int .u64 serial10), (.slice holdersP11 holdersL12 holdersC13), (.bool pinned14), (.bool fits15)] H K := by kernel_rfl
theorem den_law22_WitnessIn {sStir1 : Int} {sRowsP2 : Option Addr} {sRowsL3 : Nat} {sRowsC4 : Nat} {sOutsP5 : Option Addr} {sOutsL6 : Nat} {sOutsC7 : Nat} {sOk8 : Bool} {stir9 : Int} {serial10 : Int} {holdersP11 : Option Addr} {holdersL12 : Nat} {holdersC13 : Nat} {pinned14 : Bool} {fits15 : Bool} {H : Hp} {K : Value → Hp → Prop} (h : B_law22_WitnessIn sStir1 sRowsP2 sRowsL3 sRowsC4 sOutsP5 sOutsL6 sOutsC7 sOk8 stir9 serial10 holdersP11 holdersL12 holdersC13 pinned14 fits15 H K) : hcall PR f_law22_WitnessIn ⟨[(.agg #[(.int .u64 sStir1), (.slice sRowsP2 sRowsL3 sRowsC4), (.slice sOutsP5 sOutsL6 sOutsC7), (.bool sOk8)]), (.int .u64 stir9), (.int .u64 serial10), (.slice holdersP11 holdersL12 holdersC13), (.bool pinned14), (.bool fits15)]⟩ H K := denF_call Try.func5 PR_mixed (Eq.mp (E_law22_WitnessIn sStir1 sRowsP2 sRowsL3 sRowsC4 sOutsP5 sOutsL6 sOutsC7 sOk8 stir9 serial10 holdersP11 holdersL12 holdersC13 pinned14 fits15 H K) h)

end Go.Proofs.Ytknejebggegfjaa

namespace Go.Proofs.Ytknejebggegfjaa
set_option linter.unusedSimpArgs false
set_option linter.unusedVariables false
set_option maxRecDepth 20000
open Go
section
variable {H0 H : Hp} {L M N : List Prt} {i k : Nat} {K : Value → Hp → Prop}
theorem known22C (h : St H0 L H) (hK : ∀ H', St H0 L H' → K (.bool true) H') : hcall PR f_law22_known ⟨[]⟩ H K := by
  apply den_law22_known
  unfold B_law22_known
  refine boxs (c := [.int .i64 0, .int .u64 0]) (vs := [.int .i64 2, .int .u64 7]) h rfl fun b1 H1 g1 => ?_
  refine ldI_of (g1.cell (i := 0) rfl rfl) (ldI_of (g1.cell (i := 0) rfl rfl) ?_)
  intro b7 hb7
  have g2 := g1.alloc (o := .cells #[.int .i64 2, .int .u64 7] ty_api_ID) hb7
  intro b9 hb9
  have g3 := g2.alloc (o := .cells #[.int .u64 5, .slice (some ⟨b7, 0, none⟩) 1 1] ty_api_Reach) hb9
  refine ldI_of (g3.cell (i := 2) rfl rfl) (ldI_of (g3.cell (i := 2) rfl rfl) ?_)
  intro b13 hb13
  have g4 := g3.alloc (o := .cells #[.int .i64 2, .int .u64 7, .int .i64 9] ty_api_Out) hb13
  refine boxs (c := [.int .u64 0, .slice none 0 0, .slice none 0 0, .bool false]) (vs := [.int .u64 3, .slice (some ⟨b9, 0, none⟩) 1 1, .slice (some ⟨b13, 0, none⟩) 1 1, .bool true]) g4 rfl fun b15 H5 g5 => ?_
  have g5 : St H0 (Prt.one b15 (.cells #[.int .u64 3, .slice (some ⟨b9, 0, none⟩) 1 1, .slice (some ⟨b13, 0, none⟩) 1 1, .bool true] ty_cycle_Summary (0, 0)) :: Prt.one b13 (.cells #[.int .i64 2, .int .u64 7, .int .i64 9] ty_api_Out (0, 0)) :: Prt.one b9 (.cells #[.int .u64 5, .slice (some ⟨b7, 0, none⟩) 1 1] ty_api_Reach (0, 0)) :: Prt.one b7 (.cells #[.int .i64 2, .int .u64 7] ty_api_ID (0, 0)) :: Prt.one b1 (.cells #[.int .i64 2, .int .u64 7] ty_api_ID (0, 0)) :: L) H5 := g5
  clear g1 g2 g3 g4 h
  have rrow : ∀ N H', St H0 (N ++ (Prt.one b15 (.cells #[.int .u64 3, .slice (some ⟨b9, 0, none⟩) 1 1, .slice (some ⟨b13, 0, none⟩) 1 1, .bool true] ty_cycle_Summary (0, 0)) :: Prt.one b13 (.cells #[.int .i64 2, .int .u64 7, .int .i64 9] ty_api_Out (0, 0)) :: Prt.one b9 (.cells #[.int .u64 5, .slice (some ⟨b7, 0, none⟩) 1 1] ty_api_Reach (0, 0)) :: Prt.one b7 (.cells #[.int .i64 2, .int .u64 7] ty_api_ID (0, 0)) :: Prt.one b1 (.cells #[.int .i64 2, .int .u64 7] ty_api_ID (0, 0)) :: L)) H' → Rd H' 2 (some ⟨b9, 0, none⟩) 1 (cel rwC [(5, (some ⟨b7, 0, none⟩, 1, 1))]) := fun N H' h' => (St.lesses (M := N) h').one_rd (n := 1) (k := 2) (i := 2) rfl rfl
  have rids : ∀ N H', St H0 (N ++ (Prt.one b15 (.cells #[.int .u64 3, .slice (some ⟨b9, 0, none⟩) 1 1, .slice (some ⟨b13, 0, none⟩) 1 1, .bool true] ty_cycle_Summary (0, 0)) :: Prt.one b13 (.cells #[.int .i64 2, .int .u64 7, .int .i64 9] ty_api_Out (0, 0)) :: Prt.one b9 (.cells #[.int .u64 5, .slice (some ⟨b7, 0, none⟩) 1 1] ty_api_Reach (0, 0)) :: Prt.one b7 (.cells #[.int .i64 2, .int .u64 7] ty_api_ID (0, 0)) :: Prt.one b1 (.cells #[.int .i64 2, .int .u64 7] ty_api_ID (0, 0)) :: L)) H' → Rd H' 2 (some ⟨b7, 0, none⟩) 1 (cel wId [⟨2, 7⟩]) := fun N H' h' => (St.lesses (M := N) h').one_rd (n := 1) (k := 2) (i := 3) rfl rfl
  have rout : ∀ N H', St H0 (N ++ (Prt.one b15 (.cells #[.int .u64 3, .slice (some ⟨b9, 0, none⟩) 1 1, .slice (some ⟨b13, 0, none⟩) 1 1, .bool true] ty_cycle_Summary (0, 0)) :: Prt.one b13 (.cells #[.int .i64 2, .int .u64 7, .int .i64 9] ty_api_Out (0, 0)) :: Prt.one b9 (.cells #[.int .u64 5, .slice (some ⟨b7, 0, none⟩) 1 1] ty_api_Reach (0, 0)) :: Prt.one b7 (.cells #[.int .i64 2, .int .u64 7] ty_api_ID (0, 0)) :: Prt.one b1 (.cells #[.int .i64 2, .int .u64 7] ty_api_ID (0, 0)) :: L)) H' → Rd H' 3 (some ⟨b13, 0, none⟩) 1 (cel ouC [(⟨2, 7⟩, 9)]) := fun N H' h' => (St.lesses (M := N) h').one_rd (n := 1) (k := 3) (i := 1) rfl rfl
  refine ldI_of (g5.cell (i := 0) rfl rfl) (ldSl_of (g5.cell (i := 0) rfl rfl) (ldSl_of (g5.cell (i := 0) rfl rfl) (ldB_of (g5.cell (i := 0) rfl rfl) (?_))))
  intro b29 hb29
  have g6 := g5.alloc (o := .cells #[.int .u64 2, .int .u64 4] ty_uint64) hb29
  refine witInC (ts := [(5, (some ⟨b7, 0, none⟩, 1, 1))]) (holders := [2, 4]) g6 (by decide) (fun N H' h' => rrow (N ++ [_]) H' (by rw [List.append_assoc]; exact h')) (fun N H' h' => (St.lesses (M := N) h').one_rd (n := 2) (k := 1) (i := 0) rfl rfl) (by decide) fun p n cap H7 g7 => ?_
  have e1 : inS true 3 3 5 [5] [2, 4] false = (2, [2, 4]) := by rfl
  have e1' : inS true 3 3 5 ([((5, (some ⟨b7, 0, none⟩, 1, 1)) : RwT)].map (·.1)) [2, 4] false = (2, [2, 4]) := e1
  rw [e1'] at g7 ⊢
  (try simp only [asI_mk', asB_mk, asP_mk, asA_mk, asM_mk, asSl_mk, asStr_mk, tup2_mk, tup3_mk, agg1_mk, agg2_mk, agg3_mk, agg4_mk, asAggm, unCons_mk, unNil_mk, asTup_mk, extractD0, extractD1, List.toList_toArray, nilP_mk, add_mk, Nat.zero_add, Nat.add_zero, condT, condF, Bool.not_true, Bool.not_false, Option.isNone_some, Option.isNone_none])
  refine boxs (c := [.int .i64 0, .slice none 0 0]) (vs := [.int .i64 2, .slice p n cap]) g7 rfl fun b39 H8 g8 => ?_
  have g8 : St H0 (Prt.one b39 (.cells #[.int .i64 2, .slice p n cap] ty_witness_Said (0, 0)) :: Prt.row 1 p n cap (([2, 4] : List Int).map (Value.int .u64)) :: Prt.one b29 (.cells #[.int .u64 2, .int .u64 4] ty_uint64 (0, 0)) :: Prt.one b15 (.cells #[.int .u64 3, .slice (some ⟨b9, 0, none⟩) 1 1, .slice (some ⟨b13, 0, none⟩) 1 1, .bool true] ty_cycle_Summary (0, 0)) :: Prt.one b13 (.cells #[.int .i64 2, .int .u64 7, .int .i64 9] ty_api_Out (0, 0)) :: Prt.one b9 (.cells #[.int .u64 5, .slice (some ⟨b7, 0, none⟩) 1 1] ty_api_Reach (0, 0)) :: Prt.one b7 (.cells #[.int .i64 2, .int .u64 7] ty_api_ID (0, 0)) :: Prt.one b1 (.cells #[.int .i64 2, .int .u64 7] ty_api_ID (0, 0)) :: L) H8 := g8
  clear g5 g6 g7
  refine ldI_of (g8.cell (i := 3) rfl rfl) (ldSl_of (g8.cell (i := 3) rfl rfl) (ldSl_of (g8.cell (i := 3) rfl rfl) (ldB_of (g8.cell (i := 3) rfl rfl) (?_))))
  intro b51 hb51
  have g9 := g8.alloc (o := .cells #[.int .u64 2, .int .u64 4] ty_uint64) hb51
  refine witInC (ts := [(5, (some ⟨b7, 0, none⟩, 1, 1))]) (holders := [2, 4]) g9 (by decide) (fun N H' h' => rrow (N ++ [_, _, _, _]) H' (by rw [List.append_assoc]; exact h')) (fun N H' h' => (St.lesses (M := N) h').one_rd (n := 2) (k := 1) (i := 0) rfl rfl) (by decide) fun p2 n2 cap2 H10 g10 => ?_
  have e2 : inS true 3 4 5 ([((5, (some ⟨b7, 0, none⟩, 1, 1)) : RwT)].map (·.1)) [2, 4] false = (1, []) := by rfl
  rw [e2] at g10 ⊢
  (try simp only [asI_mk', asB_mk, asP_mk, asA_mk, asM_mk, asSl_mk, asStr_mk, tup2_mk, tup3_mk, agg1_mk, agg2_mk, agg3_mk, agg4_mk, asAggm, unCons_mk, unNil_mk, asTup_mk, extractD0, extractD1, List.toList_toArray, nilP_mk, add_mk, Nat.zero_add, Nat.add_zero, condT, condF, Bool.not_true, Bool.not_false, Option.isNone_some, Option.isNone_none])
  have hn2 : n2 = 0 := by have := (g10.row_own (i := 0) rfl).len1; simpa using this.symm
  refine boxs (c := [.int .i64 0, .slice none 0 0]) (vs := [.int .i64 1, .slice p2 n2 cap2]) g10 rfl fun b61 H11 g11 => ?_
  have g11 : St H0 (Prt.one b61 (.cells #[.int .i64 1, .slice p2 n2 cap2] ty_witness_Said (0, 0)) :: Prt.row 1 p2 n2 cap2 (([] : List Int).map (Value.int .u64)) :: Prt.one b51 (.cells #[.int .u64 2, .int .u64 4] ty_uint64 (0, 0)) :: Prt.one b39 (.cells #[.int .i64 2, .slice p n cap] ty_witness_Said (0, 0)) :: Prt.row 1 p n cap (([2, 4] : List Int).map (Value.int .u64)) :: Prt.one b29 (.cells #[.int .u64 2, .int .u64 4] ty_uint64 (0, 0)) :: Prt.one b15 (.cells #[.int .u64 3, .slice (some ⟨b9, 0, none⟩) 1 1, .slice (some ⟨b13, 0, none⟩) 1 1, .bool true] ty_cycle_Summary (0, 0)) :: Prt.one b13 (.cells #[.int .i64 2, .int .u64 7, .int .i64 9] ty_api_Out (0, 0)) :: Prt.one b9 (.cells #[.int .u64 5, .slice (some ⟨b7, 0, none⟩) 1 1] ty_api_Reach (0, 0)) :: Prt.one b7 (.cells #[.int .i64 2, .int .u64 7] ty_api_ID (0, 0)) :: Prt.one b1 (.cells #[.int .i64 2, .int .u64 7] ty_api_ID (0, 0)) :: L) H11 := g11
  clear g8 g9 g10
  refine ldI_of (g11.cell (i := 6) rfl rfl) (ldSl_of (g11.cell (i := 6) rfl rfl) (ldSl_of (g11.cell (i := 6) rfl rfl) (ldB_of (g11.cell (i := 6) rfl rfl) (?_))))
  refine ldI_of (g11.cell (i := 10) rfl rfl) (ldI_of (g11.cell (i := 10) rfl rfl) ?_)
  have lsE : ∀ (j : Nat) (r : RwT) (l : List Id), ([((5, (some ⟨b7, 0, none⟩, 1, 1)) : RwT)])[j]? = some r → ([[⟨2, 7⟩]] : List (List Id))[j]? = some l → r = (5, (some ⟨b7, 0, none⟩, 1, 1)) ∧ l = [⟨2, 7⟩] := fun j r l h1 h2 => by
    cases j with
    | zero => simp at h1 h2; exact ⟨h1.symm, h2.symm⟩
    | succ j => simp at h1
  refine witOutC (x := ⟨2, 7⟩) (ts := [(5, (some ⟨b7, 0, none⟩, 1, 1))]) (ls := [[⟨2, 7⟩]]) (os := [(⟨2, 7⟩, 9)]) g11 (by decide) (by decide) (fun N H' h' => rrow (N ++ [_, _, _, _, _, _]) H' (by rw [List.append_assoc]; exact h')) rfl (fun j r l h1 h2 => by
    obtain ⟨rfl, rfl⟩ := lsE j r l h1 h2
    exact ⟨by simp only; omega, fun N H' h' => rids (N ++ [_, _, _, _, _, _]) H' (by rw [List.append_assoc]; exact h')⟩) (fun N H' h' => rout (N ++ [_, _, _, _, _, _]) H' (by rw [List.append_assoc]; exact h')) sortOk1 fun p3 n3 cap3 H12 g12 => ?_
  have e3 : outS true 3 3 ([((⟨2, 7⟩, 9) : Id × Int)].map (·.1)) (insOf (([((5, (some ⟨b7, 0, none⟩, 1, 1)) : RwT)].map (·.1)).zip [[⟨2, 7⟩]]) ⟨2, 7⟩) ⟨2, 7⟩ 2 false = (2, [5]) := by rfl
  rw [e3] at g12 ⊢
  (try simp only [asI_mk', asB_mk, asP_mk, asA_mk, asM_mk, asSl_mk, asStr_mk, tup2_mk, tup3_mk, agg1_mk, agg2_mk, agg3_mk, agg4_mk, asAggm, unCons_mk, unNil_mk, asTup_mk, extractD0, extractD1, List.toList_toArray, nilP_mk, add_mk, Nat.zero_add, Nat.add_zero, condT, condF, Bool.not_true, Bool.not_false, Option.isNone_some, Option.isNone_none])
  refine boxs (c := [.int .i64 0, .slice none 0 0]) (vs := [.int .i64 2, .slice p3 n3 cap3]) g12 rfl fun b83 H13 g13 => ?_
  have g13 : St H0 (Prt.one b83 (.cells #[.int .i64 2, .slice p3 n3 cap3] ty_witness_Said (0, 0)) :: Prt.row 1 p3 n3 cap3 (([5] : List Int).map (Value.int .u64)) :: Prt.one b61 (.cells #[.int .i64 1, .slice p2 n2 cap2] ty_witness_Said (0, 0)) :: Prt.row 1 p2 n2 cap2 (([] : List Int).map (Value.int .u64)) :: Prt.one b51 (.cells #[.int .u64 2, .int .u64 4] ty_uint64 (0, 0)) :: Prt.one b39 (.cells #[.int .i64 2, .slice p n cap] ty_witness_Said (0, 0)) :: Prt.row 1 p n cap (([2, 4] : List Int).map (Value.int .u64)) :: Prt.one b29 (.cells #[.int .u64 2, .int .u64 4] ty_uint64 (0, 0)) :: Prt.one b15 (.cells #[.int .u64 3, .slice (some ⟨b9, 0, none⟩) 1 1, .slice (some ⟨b13, 0, none⟩) 1 1, .bool true] ty_cycle_Summary (0, 0)) :: Prt.one b13 (.cells #[.int .i64 2, .int .u64 7, .int .i64 9] ty_api_Out (0, 0)) :: Prt.one b9 (.cells #[.int .u64 5, .slice (some ⟨b7, 0, none⟩) 1 1] ty_api_Reach (0, 0)) :: Prt.one b7 (.cells #[.int .i64 2, .int .u64 7] ty_api_ID (0, 0)) :: Prt.one b1 (.cells #[.int .i64 2, .int .u64 7] ty_api_ID (0, 0)) :: L) H13 := g13
  clear g11 g12
  refine ldI_of (g13.cell (i := 8) rfl rfl) (ldSl_of (g13.cell (i := 8) rfl rfl) (ldSl_of (g13.cell (i := 8) rfl rfl) (ldB_of (g13.cell (i := 8) rfl rfl) (?_))))
  refine ldI_of (g13.cell (i := 12) rfl rfl) (ldI_of (g13.cell (i := 12) rfl rfl) ?_)
  refine witOutC (x := ⟨2, 7⟩) (ts := [(5, (some ⟨b7, 0, none⟩, 1, 1))]) (ls := [[⟨2, 7⟩]]) (os := [(⟨2, 7⟩, 9)]) g13 (by decide) (by decide) (fun N H' h' => rrow (N ++ [_, _, _, _, _, _, _, _]) H' (by rw [List.append_assoc]; exact h')) rfl (fun j r l h1 h2 => by
    obtain ⟨rfl, rfl⟩ := lsE j r l h1 h2
    exact ⟨by simp only; omega, fun N H' h' => rids (N ++ [_, _, _, _, _, _, _, _]) H' (by rw [List.append_assoc]; exact h')⟩) (fun N H' h' => rout (N ++ [_, _, _, _, _, _, _, _]) H' (by rw [List.append_assoc]; exact h')) sortOk1 fun p4 n4 cap4 H14 g14 => ?_
  have e4 : outS true 3 3 ([((⟨2, 7⟩, 9) : Id × Int)].map (·.1)) (insOf (([((5, (some ⟨b7, 0, none⟩, 1, 1)) : RwT)].map (·.1)).zip [[⟨2, 7⟩]]) ⟨2, 7⟩) ⟨2, 7⟩ 0 false = (0, []) := by rfl
  rw [e4] at g14 ⊢
  (try simp only [asI_mk', asB_mk, asP_mk, asA_mk, asM_mk, asSl_mk, asStr_mk, tup2_mk, tup3_mk, agg1_mk, agg2_mk, agg3_mk, agg4_mk, asAggm, unCons_mk, unNil_mk, asTup_mk, extractD0, extractD1, List.toList_toArray, nilP_mk, add_mk, Nat.zero_add, Nat.add_zero, condT, condF, Bool.not_true, Bool.not_false, Option.isNone_some, Option.isNone_none])
  refine boxs (c := [.int .i64 0, .slice none 0 0]) (vs := [.int .i64 0, .slice p4 n4 cap4]) g14 rfl fun b105 H15 g15 => ?_
  have g15 : St H0 (Prt.one b105 (.cells #[.int .i64 0, .slice p4 n4 cap4] ty_witness_Said (0, 0)) :: Prt.row 1 p4 n4 cap4 (([] : List Int).map (Value.int .u64)) :: Prt.one b83 (.cells #[.int .i64 2, .slice p3 n3 cap3] ty_witness_Said (0, 0)) :: Prt.row 1 p3 n3 cap3 (([5] : List Int).map (Value.int .u64)) :: Prt.one b61 (.cells #[.int .i64 1, .slice p2 n2 cap2] ty_witness_Said (0, 0)) :: Prt.row 1 p2 n2 cap2 (([] : List Int).map (Value.int .u64)) :: Prt.one b51 (.cells #[.int .u64 2, .int .u64 4] ty_uint64 (0, 0)) :: Prt.one b39 (.cells #[.int .i64 2, .slice p n cap] ty_witness_Said (0, 0)) :: Prt.row 1 p n cap (([2, 4] : List Int).map (Value.int .u64)) :: Prt.one b29 (.cells #[.int .u64 2, .int .u64 4] ty_uint64 (0, 0)) :: Prt.one b15 (.cells #[.int .u64 3, .slice (some ⟨b9, 0, none⟩) 1 1, .slice (some ⟨b13, 0, none⟩) 1 1, .bool true] ty_cycle_Summary (0, 0)) :: Prt.one b13 (.cells #[.int .i64 2, .int .u64 7, .int .i64 9] ty_api_Out (0, 0)) :: Prt.one b9 (.cells #[.int .u64 5, .slice (some ⟨b7, 0, none⟩) 1 1] ty_api_Reach (0, 0)) :: Prt.one b7 (.cells #[.int .i64 2, .int .u64 7] ty_api_ID (0, 0)) :: Prt.one b1 (.cells #[.int .i64 2, .int .u64 7] ty_api_ID (0, 0)) :: L) H15 := g15
  clear g13 g14
  have hn : n = 2 := by have := (g15.row_own (i := 8) rfl).len1; simpa using this.symm
  have hn3 : n3 = 1 := by have := (g15.row_own (i := 3) rfl).len1; simpa using this.symm
  refine ldI_of (g15.cell (i := 7) rfl rfl) (bif_eq rfl (ldSl_of (g15.cell (i := 7) rfl rfl) ?_))
  intro b113 hb113
  have g16 := g15.alloc (o := .cells #[.int .u64 2, .int .u64 4] ty_uint64) hb113
  refine numbersC (l := [2, 4]) (l' := [2, 4]) (g16.row_rd (i := 9) rfl) (g16.one_rd (i := 0) (n := 2) (k := 1) rfl rfl) (by omega) (by decide) ?_
  rw [decide_eq_true rfl]
  (try simp only [asI_mk', asB_mk, asP_mk, asA_mk, asM_mk, asSl_mk, asStr_mk, tup2_mk, tup3_mk, agg1_mk, agg2_mk, agg3_mk, agg4_mk, asAggm, unCons_mk, unNil_mk, asTup_mk, extractD0, extractD1, List.toList_toArray, nilP_mk, add_mk, Nat.zero_add, Nat.add_zero, condT, condF, Bool.not_true, Bool.not_false, Option.isNone_some, Option.isNone_none])
  refine ldI_of (g16.cell (i := 5) rfl rfl) (bif_eq rfl (ldSl_of (g16.cell (i := 5) rfl rfl) (bif_eq (by omega) (ldI_of (g16.cell (i := 3) rfl rfl) (bif_eq rfl (ldSl_of (g16.cell (i := 3) rfl rfl) ?_))))))
  intro b126 hb126
  have g17 := g16.alloc (o := .cells #[.int .u64 5] ty_uint64) hb126
  refine numbersC (l := [5]) (l' := [5]) (g17.row_rd (i := 5) rfl) (g17.one_rd (i := 0) (n := 1) (k := 1) rfl rfl) (by omega) (by decide) ?_
  rw [decide_eq_true rfl]
  (try simp only [asI_mk', asB_mk, asP_mk, asA_mk, asM_mk, asSl_mk, asStr_mk, tup2_mk, tup3_mk, agg1_mk, agg2_mk, agg3_mk, agg4_mk, asAggm, unCons_mk, unNil_mk, asTup_mk, extractD0, extractD1, List.toList_toArray, nilP_mk, add_mk, Nat.zero_add, Nat.add_zero, condT, condF, Bool.not_true, Bool.not_false, Option.isNone_some, Option.isNone_none])
  refine ldI_of (g17.cell (i := 2) rfl rfl) ?_
  (try simp only [asI_mk', asB_mk, asP_mk, asA_mk, asM_mk, asSl_mk, asStr_mk, tup2_mk, tup3_mk, agg1_mk, agg2_mk, agg3_mk, agg4_mk, asAggm, unCons_mk, unNil_mk, asTup_mk, extractD0, extractD1, List.toList_toArray, nilP_mk, add_mk, Nat.zero_add, Nat.add_zero, condT, condF, Bool.not_true, Bool.not_false, Option.isNone_some, Option.isNone_none])
  refine hK _ (St.lesses (M := [_, _, _, _, _, _, _, _, _, _, _, _, _, _, _, _, _]) g17)
end
theorem WitnessIn_ok {rp op hp : Option Addr} {rl rc ol oc hl hc : Nat} {s stir serial : Int} {ok pinned fits : Bool} {ts : List RwT} {ls : List (List Id)} {os : List (Id × Int)} {holders : List Int} {H : Hp} {K : Value → Hp → Prop} (sa : SumA H rp rl op ol ts ls os)
    (hst : IntKind.min .u64 ≤ stir ∧ stir ≤ IntKind.max .u64) (hse : IntKind.min .u64 ≤ serial ∧ serial ≤ IntKind.max .u64) (hr : Rd H 1 hp hl (holders.map (Value.int .u64))) (hb : hl * 8 ≤ 140737488351232) (hok : ∀ x ∈ holders, IntKind.min .u64 ≤ x ∧ x ≤ IntKind.max .u64)
    (hK : ∀ H', Keep Nothing H H' → K (.bool true) H') : hcall PR f_law22_WitnessIn ⟨[.agg #[.int .u64 s, .slice rp rl rc, .slice op ol oc, .bool ok], .int .u64 stir, .int .u64 serial, .slice hp hl hc, .bool pinned, .bool fits]⟩ H K := by
  apply den_law22_WitnessIn
  unfold B_law22_WitnessIn
  have hrlen := sa.rlen
  intro b16 hb16
  have g1 := (St.start H).alloc (o := .cells #[.int .u64 s, .slice rp rl rc, .slice op ol oc, .bool ok] ty_cycle_Summary) hb16
  intro R18 hR18
  have hQ18 : ∀ (s' : Int) (ok' : Bool) H', St H [Prt.one b16 (.cells #[.int .u64 s', .slice rp rl rc, .slice op ol oc, .bool ok'] ty_cycle_Summary (0, 0))] H' → R18 H' := fun s' ok' H1 g1 => by
    refine hR18 H1 ?_
    intro b20 hb20
    have g2 := g1.alloc (o := .cells #[] ty_uint64) hb20
    refine g2.copyAll (i := 0) rfl tu_ty_Suint64 tu_ty_Suint64 ti_ty_uint64 rfl (by decide) (by decide) (g2.rd hr) u_one (by omega) fun wp wc H3 g3 => ?_
    (try simp only [asI_mk', asB_mk, asP_mk, asA_mk, asM_mk, asSl_mk, asStr_mk, tup2_mk, tup3_mk, agg1_mk, agg2_mk, agg3_mk, agg4_mk, asAggm, unCons_mk, unNil_mk, asTup_mk, extractD0, extractD1, List.toList_toArray, nilP_mk, add_mk, Nat.zero_add, Nat.add_zero, condT, condF, Bool.not_true, Bool.not_false, Option.isNone_some, Option.isNone_none])
    have g3 : St H [Prt.row 1 wp hl wc (holders.map (Value.int .u64)), Prt.one b16 (.cells #[.int .u64 s', .slice rp rl rc, .slice op ol oc, .bool ok'] ty_cycle_Summary (0, 0))] H3 := g3
    refine ldI_of (g3.cell (i := 1) rfl rfl) (ldSl_of (g3.cell (i := 1) rfl rfl) (ldSl_of (g3.cell (i := 1) rfl rfl) (ldB_of (g3.cell (i := 1) rfl rfl) (?_))))
    refine copyOfC sa g3 fun p cap p' cap' ts' H4 hmap htl g4 => ?_
    (try simp only [asI_mk', asB_mk, asP_mk, asA_mk, asM_mk, asSl_mk, asStr_mk, tup2_mk, tup3_mk, agg1_mk, agg2_mk, agg3_mk, agg4_mk, asAggm, unCons_mk, unNil_mk, asTup_mk, extractD0, extractD1, List.toList_toArray, nilP_mk, add_mk, Nat.zero_add, Nat.add_zero, condT, condF, Bool.not_true, Bool.not_false, Option.isNone_some, Option.isNone_none])
    refine witInC (ts := ts') (holders := holders) g4 (by omega) (fun N H' h' => (St.lesses (M := N) h').row_rd (i := 0) rfl) (fun N H' h' => (St.lesses (M := N) h').row_rd (i := 3) rfl) hb fun q n k H5 g5 => ?_
    rw [hmap] at g5 ⊢
    obtain ⟨an, han⟩ : ∃ a, a = inS ok' s' stir serial (ts.map (·.1)) holders pinned := ⟨_, rfl⟩
    rw [← han] at g5 ⊢
    (try simp only [asI_mk', asB_mk, asP_mk, asA_mk, asM_mk, asSl_mk, asStr_mk, tup2_mk, tup3_mk, agg1_mk, agg2_mk, agg3_mk, agg4_mk, asAggm, unCons_mk, unNil_mk, asTup_mk, extractD0, extractD1, List.toList_toArray, nilP_mk, add_mk, Nat.zero_add, Nat.add_zero, condT, condF, Bool.not_true, Bool.not_false, Option.isNone_some, Option.isNone_none])
    refine boxz (c := [.int .i64 0, .slice none 0 0]) (vs := [.int .i64 an.1, .slice q n k]) g5 rfl fun b57 H6 g6 => ?_
    have g6 : St H [Prt.one b57 (.cells #[.int .i64 an.1, .slice q n k] ty_witness_Said (0, 0)), Prt.row 1 q n k (an.2.map (Value.int .u64)), Prt.row 2 p rl cap (cel rwC ts'), Prt.row 3 p' ol cap' (cel ouC os), Prt.list ((ts'.zip ls).map sumRow), Prt.row 1 wp hl wc (holders.map (Value.int .u64)), Prt.one b16 (.cells #[.int .u64 s', .slice rp rl rc, .slice op ol oc, .bool ok'] ty_cycle_Summary (0, 0))] H6 := g6
    have hnq : an.2.length = n := by have := (g6.row_own (i := 1) rfl).len1; simpa using this
    have han64 : an.2.length ≤ 64 := by
      rw [han]
      unfold inS
      repeat' split
      all_goals simp only [List.length_nil]; omega
    refine ldI_of (g6.cell (i := 6) rfl rfl) (ldSl_of (g6.cell (i := 6) rfl rfl) (ldSl_of (g6.cell (i := 6) rfl rfl) (ldB_of (g6.cell (i := 6) rfl rfl) (?_))))
    refine refInC (ts := ts) (holders := holders) g6 (by omega) (fun N H' h' => h'.rd sa.rows) (fun N H' h' => h'.rd hr) hb fun q2 n2 k2 H7 g7 => ?_
    rw [← han] at g7 ⊢
    (try simp only [asI_mk', asB_mk, asP_mk, asA_mk, asM_mk, asSl_mk, asStr_mk, tup2_mk, tup3_mk, agg1_mk, agg2_mk, agg3_mk, agg4_mk, asAggm, unCons_mk, unNil_mk, asTup_mk, extractD0, extractD1, List.toList_toArray, nilP_mk, add_mk, Nat.zero_add, Nat.add_zero, condT, condF, Bool.not_true, Bool.not_false, Option.isNone_some, Option.isNone_none])
    have hnq2 : an.2.length = n2 := by have := (g7.row_own (i := 0) rfl).len1; simpa using this
    intro R77 hR77
    have hQ77 : R77 true H7 := by
      refine hR77 true H7 ?_
      clear hR77
      refine ⟨fun j H' => ∃ (m : Nat) (l : List Int), j = m ∧ m ≤ n ∧ l.length = n ∧ St H [Prt.row 1 q2 n2 k2 (an.2.map (Value.int .u64)), Prt.one b57 (.cells #[.int .i64 an.1, .slice q n k] ty_witness_Said (0, 0)), Prt.row 1 q n k (l.map (Value.int .u64)), Prt.row 2 p rl cap (cel rwC ts'), Prt.row 3 p' ol cap' (cel ouC os), Prt.list ((ts'.zip ls).map sumRow), Prt.row 1 wp hl wc (holders.map (Value.int .u64)), Prt.one b16 (.cells #[.int .u64 s', .slice rp rl rc, .slice op ol oc, .bool ok'] ty_cycle_Summary (0, 0))] H', fun j _ => ((n : Int) - j).toNat, ⟨0, an.2, rfl, by omega, hnq, g7⟩, ?_⟩
      rintro j H8 ⟨m, l, rfl, hm, hl', g8⟩
      refine ldSl_of (g8.cell (i := 1) rfl rfl) ?_
      by_cases hc : (m : Int) < (n : Int)
      · refine bif_pos hc (ldSl_of (g8.cell (i := 1) rfl rfl) (idxA_of (g8.row_rd (i := 2) rfl) (by omega) hc fun b o hpp _ => ?_))
        simp only [Int.toNat_natCast]
        refine g8.poke (i := 2) (j := m * 1) rfl hpp (by omega) fun H9 g9 => ?_
        rw [Nat.mul_one, ← List.map_set] at g9
        rw [wrap_i64 (by omega) (by omega)]
        exact ⟨⟨m + 1, l.set m 0, by omega, by omega, by simp [hl'], g9⟩, by (try dsimp only); omega⟩
      · refine bif_neg hc (known22C g8 fun H9 g9 => ?_)
        (try simp only [asI_mk', asB_mk, asP_mk, asA_mk, asM_mk, asSl_mk, asStr_mk, tup2_mk, tup3_mk, agg1_mk, agg2_mk, agg3_mk, agg4_mk, asAggm, unCons_mk, unNil_mk, asTup_mk, extractD0, extractD1, List.toList_toArray, nilP_mk, add_mk, Nat.zero_add, Nat.add_zero, condT, condF, Bool.not_true, Bool.not_false, Option.isNone_some, Option.isNone_none])
        refine numbersC (l := holders) (l' := holders) (g9.row_rd (i := 6) rfl) (g9.rd hr) (by omega) (by omega) ?_
        rw [decide_eq_true rfl]
        (try simp only [asI_mk', asB_mk, asP_mk, asA_mk, asM_mk, asSl_mk, asStr_mk, tup2_mk, tup3_mk, agg1_mk, agg2_mk, agg3_mk, agg4_mk, asAggm, unCons_mk, unNil_mk, asTup_mk, extractD0, extractD1, List.toList_toArray, nilP_mk, add_mk, Nat.zero_add, Nat.add_zero, condT, condF, Bool.not_true, Bool.not_false, Option.isNone_some, Option.isNone_none])
        exact hK H9 g9.keep
    clear hR77
    refine ldI_of (g7.cell (i := 1) rfl rfl) (bif_eq rfl (ldSl_of (g7.cell (i := 1) rfl rfl) ?_))
    refine numbersC (l := an.2) (l' := an.2) (g7.row_rd (i := 2) rfl) (g7.row_rd (i := 0) rfl) (by omega) (by omega) ?_
    rw [decide_eq_true rfl]
    (try simp only [asI_mk', asB_mk, asP_mk, asA_mk, asM_mk, asSl_mk, asStr_mk, tup2_mk, tup3_mk, agg1_mk, agg2_mk, agg3_mk, agg4_mk, asAggm, unCons_mk, unNil_mk, asTup_mk, extractD0, extractD1, List.toList_toArray, nilP_mk, add_mk, Nat.zero_add, Nat.add_zero, condT, condF, Bool.not_true, Bool.not_false, Option.isNone_some, Option.isNone_none])
    refine numbersC (l := holders) (l' := holders) (g7.row_rd (i := 6) rfl) (g7.rd hr) (by omega) (by omega) ?_
    rw [decide_eq_true rfl]
    (try simp only [asI_mk', asB_mk, asP_mk, asA_mk, asM_mk, asSl_mk, asStr_mk, tup2_mk, tup3_mk, agg1_mk, agg2_mk, agg3_mk, agg4_mk, asAggm, unCons_mk, unNil_mk, asTup_mk, extractD0, extractD1, List.toList_toArray, nilP_mk, add_mk, Nat.zero_add, Nat.add_zero, condT, condF, Bool.not_true, Bool.not_false, Option.isNone_some, Option.isNone_none])
    exact hQ77
  clear hR18
  cases fits
  · simp only [condF]
    exact hQ18 s ok _ g1
  · simp only [condT]
    refine g1.put (i := 0) rfl (show 0 < 4 by decide) fun H2 g2 => ?_
    refine g2.put (i := 0) rfl (show 3 < 4 by decide) fun H3 g3 => ?_
    exact hQ18 stir true H3 g3

end Go.Proofs.Ytknejebggegfjaa
