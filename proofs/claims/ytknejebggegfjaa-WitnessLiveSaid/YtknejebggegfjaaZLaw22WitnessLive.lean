/- Merged by merge.py: DenLaw22WitnessKnown, DenLaw22WitnessIn, Law22, DenLaw22WitnessOut, DenLaw22WitnessLive, Law22o. No condition. -/
import Derived.Test.YtknejebggegfjaaZNum
import Derived.Test.YtknejebggegfjaaZTrace
import Derived.Test.YtknejebggegfjaaZTraceb

namespace Go.Proofs.Ytknejebggegfjaa
open Go
set_option linter.unusedVariables false
set_option maxRecDepth 100000
end Go.Proofs.Ytknejebggegfjaa

namespace Go.Proofs.Ytknejebggegfjaa
open Go
set_option linter.unusedVariables false
set_option maxRecDepth 100000
end Go.Proofs.Ytknejebggegfjaa

namespace Go.Proofs.Ytknejebggegfjaa
set_option linter.unusedSimpArgs false
set_option linter.unusedVariables false
set_option maxRecDepth 20000
open Go
section
variable {H0 H : Hp} {L M N : List Prt} {i k : Nat} {K : Value → Hp → Prop}
theorem known22C (h : St H0 L H) (hK : ∀ H', St H0 L H' → K (.bool true) H') : hcall PR f_law22_known ⟨[]⟩ H K := by
  apply den_law22_known
  unfold B_law22_known
  refine boxs (c := [.int .i64 0, .int .u64 0]) (vs := [.int .i64 2, .int .u64 7]) h rfl fun b1 H1 g1 => ?_
  refine ldI_of (g1.cell (i := 0) rfl rfl) (ldI_of (g1.cell (i := 0) rfl rfl) ?_)
  intro b7 hb7
  have g2 := g1.alloc (o := .cells #[.int .i64 2, .int .u64 7] ty_api_ID) hb7
  intro b9 hb9
  have g3 := g2.alloc (o := .cells #[.int .u64 5, .slice (some ⟨b7, 0, none⟩) 1 1] ty_api_Reach) hb9
  refine ldI_of (g3.cell (i := 2) rfl rfl) (ldI_of (g3.cell (i := 2) rfl rfl) ?_)
  intro b13 hb13
  have g4 := g3.alloc (o := .cells #[.int .i64 2, .int .u64 7, .int .i64 9] ty_api_Out) hb13
  refine boxs (c := [.int .u64 0, .slice none 0 0, .slice none 0 0, .bool false]) (vs := [.int .u64 3, .slice (some ⟨b9, 0, none⟩) 1 1, .slice (some ⟨b13, 0, none⟩) 1 1, .bool true]) g4 rfl fun b15 H5 g5 => ?_
  have g5 : St H0 (Prt.one b15 (.cells #[.int .u64 3, .slice (some ⟨b9, 0, none⟩) 1 1, .slice (some ⟨b13, 0, none⟩) 1 1, .bool true] ty_cycle_Summary (0, 0)) :: Prt.one b13 (.cells #[.int .i64 2, .int .u64 7, .int .i64 9] ty_api_Out (0, 0)) :: Prt.one b9 (.cells #[.int .u64 5, .slice (some ⟨b7, 0, none⟩) 1 1] ty_api_Reach (0, 0)) :: Prt.one b7 (.cells #[.int .i64 2, .int .u64 7] ty_api_ID (0, 0)) :: Prt.one b1 (.cells #[.int .i64 2, .int .u64 7] ty_api_ID (0, 0)) :: L) H5 := g5
  clear g1 g2 g3 g4 h
  have rrow : ∀ N H', St H0 (N ++ (Prt.one b15 (.cells #[.int .u64 3, .slice (some ⟨b9, 0, none⟩) 1 1, .slice (some ⟨b13, 0, none⟩) 1 1, .bool true] ty_cycle_Summary (0, 0)) :: Prt.one b13 (.cells #[.int .i64 2, .int .u64 7, .int .i64 9] ty_api_Out (0, 0)) :: Prt.one b9 (.cells #[.int .u64 5, .slice (some ⟨b7, 0, none⟩) 1 1] ty_api_Reach (0, 0)) :: Prt.one b7 (.cells #[.int .i64 2, .int .u64 7] ty_api_ID (0, 0)) :: Prt.one b1 (.cells #[.int .i64 2, .int .u64 7] ty_api_ID (0, 0)) :: L)) H' → Rd H' 2 (some ⟨b9, 0, none⟩) 1 (cel rwC [(5, (some ⟨b7, 0, none⟩, 1, 1))]) := fun N H' h' => (St.lesses (M := N) h').one_rd (n := 1) (k := 2) (i := 2) rfl rfl
  have rids : ∀ N H', St H0 (N ++ (Prt.one b15 (.cells #[.int .u64 3, .slice (some ⟨b9, 0, none⟩) 1 1, .slice (some ⟨b13, 0, none⟩) 1 1, .bool true] ty_cycle_Summary (0, 0)) :: Prt.one b13 (.cells #[.int .i64 2, .int .u64 7, .int .i64 9] ty_api_Out (0, 0)) :: Prt.one b9 (.cells #[.int .u64 5, .slice (some ⟨b7, 0, none⟩) 1 1] ty_api_Reach (0, 0)) :: Prt.one b7 (.cells #[.int .i64 2, .int .u64 7] ty_api_ID (0, 0)) :: Prt.one b1 (.cells #[.int .i64 2, .int .u64 7] ty_api_ID (0, 0)) :: L)) H' → Rd H' 2 (some ⟨b7, 0, none⟩) 1 (cel wId [⟨2, 7⟩]) := fun N H' h' => (St.lesses (M := N) h').one_rd (n := 1) (k := 2) (i := 3) rfl rfl
  have rout : ∀ N H', St H0 (N ++ (Prt.one b15 (.cells #[.int .u64 3, .slice (some ⟨b9, 0, none⟩) 1 1, .slice (some ⟨b13, 0, none⟩) 1 1, .bool true] ty_cycle_Summary (0, 0)) :: Prt.one b13 (.cells #[.int .i64 2, .int .u64 7, .int .i64 9] ty_api_Out (0, 0)) :: Prt.one b9 (.cells #[.int .u64 5, .slice (some ⟨b7, 0, none⟩) 1 1] ty_api_Reach (0, 0)) :: Prt.one b7 (.cells #[.int .i64 2, .int .u64 7] ty_api_ID (0, 0)) :: Prt.one b1 (.cells #[.int .i64 2, .int .u64 7] ty_api_ID (0, 0)) :: L)) H' → Rd H' 3 (some ⟨b13, 0, none⟩) 1 (cel ouC [(⟨2, 7⟩, 9)]) := fun N H' h' => (St.lesses (M := N) h').one_rd (n := 1) (k := 3) (i := 1) rfl rfl
  refine ldI_of (g5.cell (i := 0) rfl rfl) (ldSl_of (g5.cell (i := 0) rfl rfl) (ldSl_of (g5.cell (i := 0) rfl rfl) (ldB_of (g5.cell (i := 0) rfl rfl) (?_))))
  intro b29 hb29
  have g6 := g5.alloc (o := .cells #[.int .u64 2, .int .u64 4] ty_uint64) hb29
  refine witInC (ts := [(5, (some ⟨b7, 0, none⟩, 1, 1))]) (holders := [2, 4]) g6 (by decide) (fun N H' h' => rrow (N ++ [_]) H' (by rw [List.append_assoc]; exact h')) (fun N H' h' => (St.lesses (M := N) h').one_rd (n := 2) (k := 1) (i := 0) rfl rfl) (by decide) fun p n cap H7 g7 => ?_
  have e1 : inS true 3 3 5 [5] [2, 4] false = (2, [2, 4]) := by rfl
  have e1' : inS true 3 3 5 ([((5, (some ⟨b7, 0, none⟩, 1, 1)) : RwT)].map (·.1)) [2, 4] false = (2, [2, 4]) := e1
  rw [e1'] at g7 ⊢
  (try simp only [asI_mk', asB_mk, asP_mk, asA_mk, asM_mk, asSl_mk, asStr_mk, tup2_mk, tup3_mk, agg1_mk, agg2_mk, agg3_mk, agg4_mk, asAggm, unCons_mk, unNil_mk, asTup_mk, extractD0, extractD1, List.toList_toArray, nilP_mk, add_mk, Nat.zero_add, Nat.add_zero, condT, condF, Bool.not_true, Bool.not_false, Option.isNone_some, Option.isNone_none])
  refine boxs (c := [.int .i64 0, .slice none 0 0]) (vs := [.int .i64 2, .slice p n cap]) g7 rfl fun b39 H8 g8 => ?_
  have g8 : St H0 (Prt.one b39 (.cells #[.int .i64 2, .slice p n cap] ty_witness_Said (0, 0)) :: Prt.row 1 p n cap (([2, 4] : List Int).map (Value.int .u64)) :: Prt.one b29 (.cells #[.int .u64 2, .int .u64 4] ty_uint64 (0, 0)) :: Prt.one b15 (.cells #[.int .u64 3, .slice (some ⟨b9, 0, none⟩) 1 1, .slice (some ⟨b13, 0, none⟩) 1 1, .bool true] ty_cycle_Summary (0, 0)) :: Prt.one b13 (.cells #[.int .i64 2, .int .u64 7, .int .i64 9] ty_api_Out (0, 0)) :: Prt.one b9 (.cells #[.int .u64 5, .slice (some ⟨b7, 0, none⟩) 1 1] ty_api_Reach (0, 0)) :: Prt.one b7 (.cells #[.int .i64 2, .int .u64 7] ty_api_ID (0, 0)) :: Prt.one b1 (.cells #[.int .i64 2, .int .u64 7] ty_api_ID (0, 0)) :: L) H8 := g8
  clear g5 g6 g7
  refine ldI_of (g8.cell (i := 3) rfl rfl) (ldSl_of (g8.cell (i := 3) rfl rfl) (ldSl_of (g8.cell (i := 3) rfl rfl) (ldB_of (g8.cell (i := 3) rfl rfl) (?_))))
  intro b51 hb51
  have g9 := g8.alloc (o := .cells #[.int .u64 2, .int .u64 4] ty_uint64) hb51
  refine witInC (ts := [(5, (some ⟨b7, 0, none⟩, 1, 1))]) (holders := [2, 4]) g9 (by decide) (fun N H' h' => rrow (N ++ [_, _, _, _]) H' (by rw [List.append_assoc]; exact h')) (fun N H' h' => (St.lesses (M := N) h').one_rd (n := 2) (k := 1) (i := 0) rfl rfl) (by decide) fun p2 n2 cap2 H10 g10 => ?_
  have e2 : inS true 3 4 5 ([((5, (some ⟨b7, 0, none⟩, 1, 1)) : RwT)].map (·.1)) [2, 4] false = (1, []) := by rfl
  rw [e2] at g10 ⊢
  (try simp only [asI_mk', asB_mk, asP_mk, asA_mk, asM_mk, asSl_mk, asStr_mk, tup2_mk, tup3_mk, agg1_mk, agg2_mk, agg3_mk, agg4_mk, asAggm, unCons_mk, unNil_mk, asTup_mk, extractD0, extractD1, List.toList_toArray, nilP_mk, add_mk, Nat.zero_add, Nat.add_zero, condT, condF, Bool.not_true, Bool.not_false, Option.isNone_some, Option.isNone_none])
  have hn2 : n2 = 0 := by have := (g10.row_own (i := 0) rfl).len1; simpa using this.symm
  refine boxs (c := [.int .i64 0, .slice none 0 0]) (vs := [.int .i64 1, .slice p2 n2 cap2]) g10 rfl fun b61 H11 g11 => ?_
  have g11 : St H0 (Prt.one b61 (.cells #[.int .i64 1, .slice p2 n2 cap2] ty_witness_Said (0, 0)) :: Prt.row 1 p2 n2 cap2 (([] : List Int).map (Value.int .u64)) :: Prt.one b51 (.cells #[.int .u64 2, .int .u64 4] ty_uint64 (0, 0)) :: Prt.one b39 (.cells #[.int .i64 2, .slice p n cap] ty_witness_Said (0, 0)) :: Prt.row 1 p n cap (([2, 4] : List Int).map (Value.int .u64)) :: Prt.one b29 (.cells #[.int .u64 2, .int .u64 4] ty_uint64 (0, 0)) :: Prt.one b15 (.cells #[.int .u64 3, .slice (some ⟨b9, 0, none⟩) 1 1, .slice (some ⟨b13, 0, none⟩) 1 1, .bool true] ty_cycle_Summary (0, 0)) :: Prt.one b13 (.cells #[.int .i64 2, .int .u64 7, .int .i64 9] ty_api_Out (0, 0)) :: Prt.one b9 (.cells #[.int .u64 5, .slice (some ⟨b7, 0, none⟩) 1 1] ty_api_Reach (0, 0)) :: Prt.one b7 (.cells #[.int .i64 2, .int .u64 7] ty_api_ID (0, 0)) :: Prt.one b1 (.cells #[.int .i64 2, .int .u64 7] ty_api_ID (0, 0)) :: L) H11 := g11
  clear g8 g9 g10
  refine ldI_of (g11.cell (i := 6) rfl rfl) (ldSl_of (g11.cell (i := 6) rfl rfl) (ldSl_of (g11.cell (i := 6) rfl rfl) (ldB_of (g11.cell (i := 6) rfl rfl) (?_))))
  refine ldI_of (g11.cell (i := 10) rfl rfl) (ldI_of (g11.cell (i := 10) rfl rfl) ?_)
  have lsE : ∀ (j : Nat) (r : RwT) (l : List Id), ([((5, (some ⟨b7, 0, none⟩, 1, 1)) : RwT)])[j]? = some r → ([[⟨2, 7⟩]] : List (List Id))[j]? = some l → r = (5, (some ⟨b7, 0, none⟩, 1, 1)) ∧ l = [⟨2, 7⟩] := fun j r l h1 h2 => by
    cases j with
    | zero => simp at h1 h2; exact ⟨h1.symm, h2.symm⟩
    | succ j => simp at h1
  refine witOutC (x := ⟨2, 7⟩) (ts := [(5, (some ⟨b7, 0, none⟩, 1, 1))]) (ls := [[⟨2, 7⟩]]) (os := [(⟨2, 7⟩, 9)]) g11 (by decide) (by decide) (fun N H' h' => rrow (N ++ [_, _, _, _, _, _]) H' (by rw [List.append_assoc]; exact h')) rfl (fun j r l h1 h2 => by
    obtain ⟨rfl, rfl⟩ := lsE j r l h1 h2
    exact ⟨by simp only; omega, fun N H' h' => rids (N ++ [_, _, _, _, _, _]) H' (by rw [List.append_assoc]; exact h')⟩) (fun N H' h' => rout (N ++ [_, _, _, _, _, _]) H' (by rw [List.append_assoc]; exact h')) sortOk1 fun p3 n3 cap3 H12 g12 => ?_
  have e3 : outS true 3 3 ([((⟨2, 7⟩, 9) : Id × Int)].map (·.1)) (insOf (([((5, (some ⟨b7, 0, none⟩, 1, 1)) : RwT)].map (·.1)).zip [[⟨2, 7⟩]]) ⟨2, 7⟩) ⟨2, 7⟩ 2 false = (2, [5]) := by rfl
  rw [e3] at g12 ⊢
  (try simp only [asI_mk', asB_mk, asP_mk, asA_mk, asM_mk, asSl_mk, asStr_mk, tup2_mk, tup3_mk, agg1_mk, agg2_mk, agg3_mk, agg4_mk, asAggm, unCons_mk, unNil_mk, asTup_mk, extractD0, extractD1, List.toList_toArray, nilP_mk, add_mk, Nat.zero_add, Nat.add_zero, condT, condF, Bool.not_true, Bool.not_false, Option.isNone_some, Option.isNone_none])
  refine boxs (c := [.int .i64 0, .slice none 0 0]) (vs := [.int .i64 2, .slice p3 n3 cap3]) g12 rfl fun b83 H13 g13 => ?_
  have g13 : St H0 (Prt.one b83 (.cells #[.int .i64 2, .slice p3 n3 cap3] ty_witness_Said (0, 0)) :: Prt.row 1 p3 n3 cap3 (([5] : List Int).map (Value.int .u64)) :: Prt.one b61 (.cells #[.int .i64 1, .slice p2 n2 cap2] ty_witness_Said (0, 0)) :: Prt.row 1 p2 n2 cap2 (([] : List Int).map (Value.int .u64)) :: Prt.one b51 (.cells #[.int .u64 2, .int .u64 4] ty_uint64 (0, 0)) :: Prt.one b39 (.cells #[.int .i64 2, .slice p n cap] ty_witness_Said (0, 0)) :: Prt.row 1 p n cap (([2, 4] : List Int).map (Value.int .u64)) :: Prt.one b29 (.cells #[.int .u64 2, .int .u64 4] ty_uint64 (0, 0)) :: Prt.one b15 (.cells #[.int .u64 3, .slice (some ⟨b9, 0, none⟩) 1 1, .slice (some ⟨b13, 0, none⟩) 1 1, .bool true] ty_cycle_Summary (0, 0)) :: Prt.one b13 (.cells #[.int .i64 2, .int .u64 7, .int .i64 9] ty_api_Out (0, 0)) :: Prt.one b9 (.cells #[.int .u64 5, .slice (some ⟨b7, 0, none⟩) 1 1] ty_api_Reach (0, 0)) :: Prt.one b7 (.cells #[.int .i64 2, .int .u64 7] ty_api_ID (0, 0)) :: Prt.one b1 (.cells #[.int .i64 2, .int .u64 7] ty_api_ID (0, 0)) :: L) H13 := g13
  clear g11 g12
  refine ldI_of (g13.cell (i := 8) rfl rfl) (ldSl_of (g13.cell (i := 8) rfl rfl) (ldSl_of (g13.cell (i := 8) rfl rfl) (ldB_of (g13.cell (i := 8) rfl rfl) (?_))))
  refine ldI_of (g13.cell (i := 12) rfl rfl) (ldI_of (g13.cell (i := 12) rfl rfl) ?_)
  refine witOutC (x := ⟨2, 7⟩) (ts := [(5, (some ⟨b7, 0, none⟩, 1, 1))]) (ls := [[⟨2, 7⟩]]) (os := [(⟨2, 7⟩, 9)]) g13 (by decide) (by decide) (fun N H' h' => rrow (N ++ [_, _, _, _, _, _, _, _]) H' (by rw [List.append_assoc]; exact h')) rfl (fun j r l h1 h2 => by
    obtain ⟨rfl, rfl⟩ := lsE j r l h1 h2
    exact ⟨by simp only; omega, fun N H' h' => rids (N ++ [_, _, _, _, _, _, _, _]) H' (by rw [List.append_assoc]; exact h')⟩) (fun N H' h' => rout (N ++ [_, _, _, _, _, _, _, _]) H' (by rw [List.append_assoc]; exact h')) sortOk1 fun p4 n4 cap4 H14 g14 => ?_
  have e4 : outS true 3 3 ([((⟨2, 7⟩, 9) : Id × Int)].map (·.1)) (insOf (([((5, (some ⟨b7, 0, none⟩, 1, 1)) : RwT)].map (·.1)).zip [[⟨2, 7⟩]]) ⟨2, 7⟩) ⟨2, 7⟩ 0 false = (0, []) := by rfl
  rw [e4] at g14 ⊢
  (try simp only [asI_mk', asB_mk, asP_mk, asA_mk, asM_mk, asSl_mk, asStr_mk, tup2_mk, tup3_mk, agg1_mk, agg2_mk, agg3_mk, agg4_mk, asAggm, unCons_mk, unNil_mk, asTup_mk, extractD0, extractD1, List.toList_toArray, nilP_mk, add_mk, Nat.zero_add, Nat.add_zero, condT, condF, Bool.not_true, Bool.not_false, Option.isNone_some, Option.isNone_none])
  refine boxs (c := [.int .i64 0, .slice none 0 0]) (vs := [.int .i64 0, .slice p4 n4 cap4]) g14 rfl fun b105 H15 g15 => ?_
  have g15 : St H0 (Prt.one b105 (.cells #[.int .i64 0, .slice p4 n4 cap4] ty_witness_Said (0, 0)) :: Prt.row 1 p4 n4 cap4 (([] : List Int).map (Value.int .u64)) :: Prt.one b83 (.cells #[.int .i64 2, .slice p3 n3 cap3] ty_witness_Said (0, 0)) :: Prt.row 1 p3 n3 cap3 (([5] : List Int).map (Value.int .u64)) :: Prt.one b61 (.cells #[.int .i64 1, .slice p2 n2 cap2] ty_witness_Said (0, 0)) :: Prt.row 1 p2 n2 cap2 (([] : List Int).map (Value.int .u64)) :: Prt.one b51 (.cells #[.int .u64 2, .int .u64 4] ty_uint64 (0, 0)) :: Prt.one b39 (.cells #[.int .i64 2, .slice p n cap] ty_witness_Said (0, 0)) :: Prt.row 1 p n cap (([2, 4] : List Int).map (Value.int .u64)) :: Prt.one b29 (.cells #[.int .u64 2, .int .u64 4] ty_uint64 (0, 0)) :: Prt.one b15 (.cells #[.int .u64 3, .slice (some ⟨b9, 0, none⟩) 1 1, .slice (some ⟨b13, 0, none⟩) 1 1, .bool true] ty_cycle_Summary (0, 0)) :: Prt.one b13 (.cells #[.int .i64 2, .int .u64 7, .int .i64 9] ty_api_Out (0, 0)) :: Prt.one b9 (.cells #[.int .u64 5, .slice (some ⟨b7, 0, none⟩) 1 1] ty_api_Reach (0, 0)) :: Prt.one b7 (.cells #[.int .i64 2, .int .u64 7] ty_api_ID (0, 0)) :: Prt.one b1 (.cells #[.int .i64 2, .int .u64 7] ty_api_ID (0, 0)) :: L) H15 := g15
  clear g13 g14
  have hn : n = 2 := by have := (g15.row_own (i := 8) rfl).len1; simpa using this.symm
  have hn3 : n3 = 1 := by have := (g15.row_own (i := 3) rfl).len1; simpa using this.symm
  refine ldI_of (g15.cell (i := 7) rfl rfl) (bif_eq rfl (ldSl_of (g15.cell (i := 7) rfl rfl) ?_))
  intro b113 hb113
  have g16 := g15.alloc (o := .cells #[.int .u64 2, .int .u64 4] ty_uint64) hb113
  refine numbersC (l := [2, 4]) (l' := [2, 4]) (g16.row_rd (i := 9) rfl) (g16.one_rd (i := 0) (n := 2) (k := 1) rfl rfl) (by omega) (by decide) ?_
  rw [decide_eq_true rfl]
  (try simp only [asI_mk', asB_mk, asP_mk, asA_mk, asM_mk, asSl_mk, asStr_mk, tup2_mk, tup3_mk, agg1_mk, agg2_mk, agg3_mk, agg4_mk, asAggm, unCons_mk, unNil_mk, asTup_mk, extractD0, extractD1, List.toList_toArray, nilP_mk, add_mk, Nat.zero_add, Nat.add_zero, condT, condF, Bool.not_true, Bool.not_false, Option.isNone_some, Option.isNone_none])
  refine ldI_of (g16.cell (i := 5) rfl rfl) (bif_eq rfl (ldSl_of (g16.cell (i := 5) rfl rfl) (bif_eq (by omega) (ldI_of (g16.cell (i := 3) rfl rfl) (bif_eq rfl (ldSl_of (g16.cell (i := 3) rfl rfl) ?_))))))
  intro b126 hb126
  have g17 := g16.alloc (o := .cells #[.int .u64 5] ty_uint64) hb126
  refine numbersC (l := [5]) (l' := [5]) (g17.row_rd (i := 5) rfl) (g17.one_rd (i := 0) (n := 1) (k := 1) rfl rfl) (by omega) (by decide) ?_
  rw [decide_eq_true rfl]
  (try simp only [asI_mk', asB_mk, asP_mk, asA_mk, asM_mk, asSl_mk, asStr_mk, tup2_mk, tup3_mk, agg1_mk, agg2_mk, agg3_mk, agg4_mk, asAggm, unCons_mk, unNil_mk, asTup_mk, extractD0, extractD1, List.toList_toArray, nilP_mk, add_mk, Nat.zero_add, Nat.add_zero, condT, condF, Bool.not_true, Bool.not_false, Option.isNone_some, Option.isNone_none])
  refine ldI_of (g17.cell (i := 2) rfl rfl) ?_
  (try simp only [asI_mk', asB_mk, asP_mk, asA_mk, asM_mk, asSl_mk, asStr_mk, tup2_mk, tup3_mk, agg1_mk, agg2_mk, agg3_mk, agg4_mk, asAggm, unCons_mk, unNil_mk, asTup_mk, extractD0, extractD1, List.toList_toArray, nilP_mk, add_mk, Nat.zero_add, Nat.add_zero, condT, condF, Bool.not_true, Bool.not_false, Option.isNone_some, Option.isNone_none])
  refine hK _ (St.lesses (M := [_, _, _, _, _, _, _, _, _, _, _, _, _, _, _, _, _]) g17)
end
end Go.Proofs.Ytknejebggegfjaa

namespace Go.Proofs.Ytknejebggegfjaa
open Go
set_option linter.unusedVariables false
set_option maxRecDepth 100000
end Go.Proofs.Ytknejebggegfjaa

namespace Go.Proofs.Ytknejebggegfjaa
open Go
set_option linter.unusedVariables false
set_option maxRecDepth 100000
def B_law22_WitnessLive (sStir1 : Int) (sRowsP2 : Option Addr) (sRowsL3 : Nat) (sRowsC4 : Nat) (sOutsP5 : Option Addr) (sOutsL6 : Nat) (sOutsC7 : Nat) (sOk8 : Bool) (stir9 : Int) (serial10 : Int) (xNode11 : Int) (xSerial12 : Int) (state13 : Int) (holdersP14 : Option Addr) (holdersL15 : Nat) (holdersC16 : Nat) (pinned17 : Bool) (H : Hp) (K : Value → Hp → Prop) : Prop :=
 newB (.cells #[(.int .u64 sStir1), (.slice sRowsP2 sRowsL3 sRowsC4), (.slice sOutsP5 sOutsL6 sOutsC7), (.bool sOk8)] ty_cycle_Summary) H fun b18 Hx19 =>
 newB (.cells #[(.int .i64 xNode11), (.int .u64 xSerial12)] ty_api_ID) Hx19 fun b20 Hx21 =>
 ldI .u64 ⟨b18, 0, none⟩ Hx21 fun Stir22 =>
 ldSl ⟨b18, 1, none⟩ Hx21 fun RowsP23 RowsL24 RowsC25 =>
 ldSl ⟨b18, 2, none⟩ Hx21 fun OutsP26 OutsL27 OutsC28 =>
 ldB ⟨b18, 3, none⟩ Hx21 fun Ok29 =>
 hcall PR f_witness_In ⟨[(.agg #[(.int .u64 Stir22), (.slice RowsP23 RowsL24 RowsC25), (.slice OutsP26 OutsL27 OutsC28), (.bool Ok29)]), (.int .u64 stir9), (.int .u64 serial10), (.slice holdersP14 holdersL15 holdersC16), (.bool pinned17)]⟩ Hx21 fun v30 Hx31 =>
 agg2 v30 fun v32 v33 =>
 asI .i64 v32 fun Code34 =>
 asSl v33 fun ListP35 ListL36 ListC37 =>
 newB (.cells #[(.int .i64 0), (.slice none 0 0)] ty_witness_Said) Hx31 fun b38 Hx39 =>
 st ⟨b38, 0, none⟩ (.int .i64 Code34) Hx39 fun Hx40 =>
 st ⟨b38, 1, none⟩ (.slice ListP35 ListL36 ListC37) Hx40 fun Hx41 =>
 ldI .u64 ⟨b18, 0, none⟩ Hx41 fun Stir42 =>
 ldSl ⟨b18, 1, none⟩ Hx41 fun RowsP43 RowsL44 RowsC45 =>
 ldSl ⟨b18, 2, none⟩ Hx41 fun OutsP46 OutsL47 OutsC48 =>
 ldB ⟨b18, 3, none⟩ Hx41 fun Ok49 =>
 ldI .i64 ⟨b20, 0, none⟩ Hx41 fun Node50 =>
 ldI .u64 ⟨b20, 1, none⟩ Hx41 fun Serial51 =>
 hcall PR f_witness_Out ⟨[(.agg #[(.int .u64 Stir42), (.slice RowsP43 RowsL44 RowsC45), (.slice OutsP46 OutsL47 OutsC48), (.bool Ok49)]), (.int .u64 stir9), (.agg #[(.int .i64 Node50), (.int .u64 Serial51)]), (.int .i64 state13), (.bool pinned17)]⟩ Hx41 fun v52 Hx53 =>
 agg2 v52 fun v54 v55 =>
 asI .i64 v54 fun Code56 =>
 asSl v55 fun ListP57 ListL58 ListC59 =>
 newB (.cells #[(.int .i64 0), (.slice none 0 0)] ty_witness_Said) Hx53 fun b60 Hx61 =>
 st ⟨b60, 0, none⟩ (.int .i64 Code56) Hx61 fun Hx62 =>
 st ⟨b60, 1, none⟩ (.slice ListP57 ListL58 ListC59) Hx62 fun Hx63 =>
 ∀ R64 : Hp → Prop, (∀ Hx65 : Hp, (
 ∃ (I66 : Int → Hp → Prop) (m67 : Int → Hp → Nat), I66 1 Hx65 ∧ ∀ i69 : Int, ∀ Hx68 : Hp, I66 i69 Hx68 →
 ldSl ⟨b60, 1, none⟩ Hx68 fun ListP70 ListL71 ListC72 =>
 (bif (decide ((i69 : Int) < (ListL71 : Int))) then
 ldSl ⟨b60, 1, none⟩ Hx68 fun ListP73 ListL74 ListC75 =>
 idxA ListP73 ListL74 i69 1 fun el76 =>
 ldI .u64 el76 Hx68 fun t77 =>
 ldSl ⟨b60, 1, none⟩ Hx68 fun ListP78 ListL79 ListC80 =>
 idxA ListP78 ListL79 (IntKind.i64.wrap (i69 - 1)) 1 fun el81 =>
 ldI .u64 el81 Hx68 fun t82 =>
 (bif (decide ((t77 : Int) ≤ t82)) then
 K (.bool false) Hx68
else
 I66 (IntKind.i64.wrap (i69 + 1)) Hx68 ∧ m67 (IntKind.i64.wrap (i69 + 1)) Hx68 < m67 i69 Hx68)
else
 ldI .i64 ⟨b38, 0, none⟩ Hx68 fun Code83 =>
 (bif ((Code83 : Int) == 2) then
 ldI .i64 ⟨b60, 0, none⟩ Hx68 fun Code84 =>
 (bif ((Code84 : Int) == 2) then
 ldSl ⟨b38, 1, none⟩ Hx68 fun ListP85 ListL86 ListC87 =>
 (bif (decide (((ListL86 : Int) : Int) ≤ 64)) then
 ldSl ⟨b60, 1, none⟩ Hx68 fun ListP88 ListL89 ListC90 =>
 K (.bool (decide (((ListL89 : Int) : Int) ≤ 64))) Hx68
else
 K (.bool false) Hx68)
else
 ldSl ⟨b60, 1, none⟩ Hx68 fun ListP91 ListL92 ListC93 =>
 (bif (((ListL92 : Int) : Int) == 0) then
 ldSl ⟨b38, 1, none⟩ Hx68 fun ListP94 ListL95 ListC96 =>
 (bif (decide (((ListL95 : Int) : Int) ≤ 64)) then
 ldSl ⟨b60, 1, none⟩ Hx68 fun ListP97 ListL98 ListC99 =>
 K (.bool (decide (((ListL98 : Int) : Int) ≤ 64))) Hx68
else
 K (.bool false) Hx68)
else
 K (.bool false) Hx68))
else
 ldSl ⟨b38, 1, none⟩ Hx68 fun ListP100 ListL101 ListC102 =>
 (bif (((ListL101 : Int) : Int) == 0) then
 ldI .i64 ⟨b60, 0, none⟩ Hx68 fun Code103 =>
 (bif ((Code103 : Int) == 2) then
 ldSl ⟨b38, 1, none⟩ Hx68 fun ListP104 ListL105 ListC106 =>
 (bif (decide (((ListL105 : Int) : Int) ≤ 64)) then
 ldSl ⟨b60, 1, none⟩ Hx68 fun ListP107 ListL108 ListC109 =>
 K (.bool (decide (((ListL108 : Int) : Int) ≤ 64))) Hx68
else
 K (.bool false) Hx68)
else
 ldSl ⟨b60, 1, none⟩ Hx68 fun ListP110 ListL111 ListC112 =>
 (bif (((ListL111 : Int) : Int) == 0) then
 ldSl ⟨b38, 1, none⟩ Hx68 fun ListP113 ListL114 ListC115 =>
 (bif (decide (((ListL114 : Int) : Int) ≤ 64)) then
 ldSl ⟨b60, 1, none⟩ Hx68 fun ListP116 ListL117 ListC118 =>
 K (.bool (decide (((ListL117 : Int) : Int) ≤ 64))) Hx68
else
 K (.bool false) Hx68)
else
 K (.bool false) Hx68))
else
 K (.bool false) Hx68)))) → R64 Hx65) →
 hcall PR f_law22_known ⟨[]⟩ Hx63 fun v119 Hx120 =>
 asB v119 fun t121 =>
 (bif (!t121) then
 K (.bool false) Hx120
else
 (bif pinned17 then
 ldI .i64 ⟨b38, 0, none⟩ Hx120 fun Code122 =>
 (bif ((Code122 : Int) != 1) then
 K (.bool false) Hx120
else
 ldI .i64 ⟨b60, 0, none⟩ Hx120 fun Code123 =>
 (bif ((Code123 : Int) != 1) then
 K (.bool false) Hx120
else
 R64 Hx120))
else
 ldB ⟨b18, 3, none⟩ Hx120 fun Ok124 =>
 (bif (!Ok124) then
 ldI .i64 ⟨b38, 0, none⟩ Hx120 fun Code125 =>
 (bif ((Code125 : Int) != 1) then
 K (.bool false) Hx120
else
 ldI .i64 ⟨b60, 0, none⟩ Hx120 fun Code126 =>
 (bif ((Code126 : Int) != 1) then
 K (.bool false) Hx120
else
 R64 Hx120))
else
 ldI .u64 ⟨b18, 0, none⟩ Hx120 fun Stir127 =>
 (bif ((Stir127 : Int) != stir9) then
 ldI .i64 ⟨b38, 0, none⟩ Hx120 fun Code128 =>
 (bif ((Code128 : Int) != 1) then
 K (.bool false) Hx120
else
 ldI .i64 ⟨b60, 0, none⟩ Hx120 fun Code129 =>
 (bif ((Code129 : Int) != 1) then
 K (.bool false) Hx120
else
 R64 Hx120))
else
 R64 Hx120))))
theorem E_law22_WitnessLive (sStir1 : Int) (sRowsP2 : Option Addr) (sRowsL3 : Nat) (sRowsC4 : Nat) (sOutsP5 : Option Addr) (sOutsL6 : Nat) (sOutsC7 : Nat) (sOk8 : Bool) (stir9 : Int) (serial10 : Int) (xNode11 : Int) (xSerial12 : Int) (state13 : Int) (holdersP14 : Option Addr) (holdersL15 : Nat) (holdersC16 : Nat) (pinned17 : Bool) (H : Hp) (K : Value → Hp → Prop) : B_law22_WitnessLive sStir1 sRowsP2 sRowsL3 sRowsC4 sOutsP5 sOutsL6 sOutsC7 sOk8 stir9 serial10 xNode11 xSerial12 state13 holdersP14 holdersL15 holdersC16 pinned17 H K = denF Try.prog Try.f7 (.seq none .n (.seq none .n (.seq none .n (.seq (some ⟨[], [15, 16]⟩) .n (.seq none (.seq none .n (.sub (.loop ⟨[(17, .int .i64)], [15, 16]⟩ .n))) .n))))) [(.agg #[(.int .u64 sStir1), (.slice sRowsP2 sRowsL3 sRowsC4), (.slice sOutsP5 sOutsL6 sOutsC7), (.bool sOk8)]), (.int .u64 stir9), (.int .u64 serial10), (.agg #[(.int .i64 xNode11), (.int .u64 xSerial12)]), (.int .i64 state13), (.slice holdersP14 holdersL15 holdersC16), (.bool pinned17)] H K := by kernel_rfl
theorem den_law22_WitnessLive {sStir1 : Int} {sRowsP2 : Option Addr} {sRowsL3 : Nat} {sRowsC4 : Nat} {sOutsP5 : Option Addr} {sOutsL6 : Nat} {sOutsC7 : Nat} {sOk8 : Bool} {stir9 : Int} {serial10 : Int} {xNode11 : Int} {xSerial12 : Int} {state13 : Int} {holdersP14 : Option Addr} {holdersL15 : Nat} {holdersC16 : Nat} {pinned17 : Bool} {H : Hp} {K : Value → Hp → Prop} (h : B_law22_WitnessLive sStir1 sRowsP2 sRowsL3 sRowsC4 sOutsP5 sOutsL6 sOutsC7 sOk8 stir9 serial10 xNode11 xSerial12 state13 holdersP14 holdersL15 holdersC16 pinned17 H K) : hcall PR f_law22_WitnessLive ⟨[(.agg #[(.int .u64 sStir1), (.slice sRowsP2 sRowsL3 sRowsC4), (.slice sOutsP5 sOutsL6 sOutsC7), (.bool sOk8)]), (.int .u64 stir9), (.int .u64 serial10), (.agg #[(.int .i64 xNode11), (.int .u64 xSerial12)]), (.int .i64 state13), (.slice holdersP14 holdersL15 holdersC16), (.bool pinned17)]⟩ H K := denF_call Try.func7 PR_mixed (Eq.mp (E_law22_WitnessLive sStir1 sRowsP2 sRowsL3 sRowsC4 sOutsP5 sOutsL6 sOutsC7 sOk8 stir9 serial10 xNode11 xSerial12 state13 holdersP14 holdersL15 holdersC16 pinned17 H K) h)

end Go.Proofs.Ytknejebggegfjaa

namespace Go.Proofs.Ytknejebggegfjaa
set_option linter.unusedSimpArgs false
set_option linter.unusedVariables false
set_option maxRecDepth 20000
open Go
theorem inS_told {ok : Bool} {s stir serial : Int} {ins holders : List Int} {pinned : Bool} : ((inS ok s stir serial ins holders pinned).1 = 2 ∨ (inS ok s stir serial ins holders pinned).2 = []) ∧ (inS ok s stir serial ins holders pinned).2.length ≤ 64 := by
  unfold inS
  repeat' split
  all_goals first
    | exact ⟨.inr rfl, by simp⟩
    | exact ⟨.inl rfl, by simp only; omega⟩
theorem outS_told {ok : Bool} {s stir : Int} {os : List Id} {ins : List Int} {x : Id} {state : Int} {pinned : Bool} : ((outS ok s stir os ins x state pinned).1 = 2 ∨ (outS ok s stir os ins x state pinned).2 = []) ∧ (outS ok s stir os ins x state pinned).2.length ≤ 64 ∧ (outS ok s stir os ins x state pinned).2.Pairwise (· < ·) := by
  unfold outS
  repeat' split
  all_goals first
    | exact ⟨.inr rfl, by simp, List.Pairwise.nil⟩
    | exact ⟨.inl rfl, by simp only; omega, cpt_rise rise1_rise⟩
theorem inS_live {ok : Bool} {s stir serial : Int} {ins holders : List Int} {pinned : Bool} (h : pinned = true ∨ ok = false ∨ s ≠ stir) : (inS ok s stir serial ins holders pinned).1 = 1 := by
  unfold inS
  by_cases h1 : ok = false
  · rw [if_pos h1]
  · rw [if_neg h1]
    by_cases h2 : s ≠ stir
    · rw [if_pos h2]
    · rw [if_neg h2, if_pos (h.resolve_right fun g => g.elim h1 h2)]
theorem outS_live {ok : Bool} {s stir : Int} {os : List Id} {ins : List Int} {x : Id} {state : Int} {pinned : Bool} (h : pinned = true ∨ ok = false ∨ s ≠ stir) : (outS ok s stir os ins x state pinned).1 = 1 := by
  unfold outS
  by_cases h1 : ok = false
  · rw [if_pos h1]
  · rw [if_neg h1]
    by_cases h2 : s ≠ stir
    · rw [if_pos h2]
    · rw [if_neg h2, if_pos (h.resolve_right fun g => g.elim h1 h2)]
theorem SumA.long {H : Hp} {rp op : Option Addr} {rl ol : Nat} {ts : List RwT} {ls : List (List Id)} {os : List (Id × Int)} (sa : SumA H rp rl op ol ts ls os) {j : Nat} {l : List Id} (hj : ls[j]? = some l) : l.length ≤ 9223372036854775807 := by
  have hjl : j < ls.length := by
    rcases Nat.lt_or_ge j ls.length with h | h
    · exact h
    · rw [List.getElem?_eq_none h] at hj; cases hj
  have hjt : j < ts.length := by rw [sa.lens]; exact hjl
  obtain ⟨h1, h2⟩ := sa.each j ts[j] l (List.getElem?_eq_getElem hjt) hj
  have := h1.1
  rw [cel_len wId_len] at this
  omega
theorem WitnessLive_ok {rp op hp : Option Addr} {rl rc ol oc hl hc : Nat} {s stir serial state : Int} {ok pinned : Bool} {ts : List RwT} {ls : List (List Id)} {os : List (Id × Int)} {holders : List Int} {y : E_api_ID} {H : Hp} {K : Value → Hp → Prop} (sa : SumA H rp rl op ol ts ls os)
    (hst : IntKind.min .u64 ≤ stir ∧ stir ≤ IntKind.max .u64) (hser : IntKind.min .u64 ≤ serial ∧ serial ≤ IntKind.max .u64) (hy : y.ok) (hse : IntKind.min .i64 ≤ state ∧ state ≤ IntKind.max .i64) (hr : Rd H 1 hp hl (holders.map (Value.int .u64))) (hb : hl * 8 ≤ 140737488351232) (hok : ∀ x ∈ holders, IntKind.min .u64 ≤ x ∧ x ≤ IntKind.max .u64)
    (hK : ∀ H', Keep Nothing H H' → K (.bool true) H') : hcall PR f_law22_WitnessLive ⟨[.agg #[.int .u64 s, .slice rp rl rc, .slice op ol oc, .bool ok], .int .u64 stir, .int .u64 serial, .agg y.cells.toArray, .int .i64 state, .slice hp hl hc, .bool pinned]⟩ H K := by
  show hcall PR f_law22_WitnessLive ⟨[.agg #[.int .u64 s, .slice rp rl rc, .slice op ol oc, .bool ok], .int .u64 stir, .int .u64 serial, .agg #[.int .i64 y.Node, .int .u64 y.Serial], .int .i64 state, .slice hp hl hc, .bool pinned]⟩ H K
  obtain ⟨x, hx⟩ : ∃ x : Id, x = ⟨y.Node, y.Serial⟩ := ⟨_, rfl⟩
  rw [show y.Node = x.n by rw [hx], show y.Serial = x.s by rw [hx]]
  clear hx hy y
  apply den_law22_WitnessLive
  unfold B_law22_WitnessLive
  have hrlen := sa.rlen
  have holen := sa.olen
  have hfin : ∀ {j : Nat} {r : RwT} {l : List Id}, ts[j]? = some r → ls[j]? = some l → r.2.2.1 ≤ 9223372036854775807 := fun {j r l} h1 h2 => by
    have := (sa.each j r l h1 h2).2
    omega
  intro b18 hb18
  have g1 := (St.start H).alloc (o := .cells #[.int .u64 s, .slice rp rl rc, .slice op ol oc, .bool ok] ty_cycle_Summary) hb18
  intro b20 hb20
  have g2 := g1.alloc (o := .cells #[.int .i64 x.n, .int .u64 x.s] ty_api_ID) hb20
  have g2 : St H [Prt.one b20 (.cells #[.int .i64 x.n, .int .u64 x.s] ty_api_ID (0, 0)), Prt.one b18 (.cells #[.int .u64 s, .slice rp rl rc, .slice op ol oc, .bool ok] ty_cycle_Summary (0, 0))] _ := g2
  clear g1
  refine ldI_of (g2.cell (i := 1) rfl rfl) (ldSl_of (g2.cell (i := 1) rfl rfl) (ldSl_of (g2.cell (i := 1) rfl rfl) (ldB_of (g2.cell (i := 1) rfl rfl) ?_)))
  refine witInC (ts := ts) (holders := holders) g2 (by omega) (fun N H' h' => h'.rd sa.rows) (fun N H' h' => h'.rd hr) hb fun q n k H3 g3 => ?_
  obtain ⟨an, han⟩ : ∃ a, a = inS ok s stir serial (ts.map (·.1)) holders pinned := ⟨_, rfl⟩
  have ha := inS_told (ok := ok) (s := s) (stir := stir) (serial := serial) (ins := ts.map (·.1)) (holders := holders) (pinned := pinned)
  have ha1 : pinned = true ∨ ok = false ∨ s ≠ stir → an.1 = 1 := fun h => by rw [han]; exact inS_live h
  rw [← han] at g3 ha ⊢
  (try simp only [asI_mk', asB_mk, asP_mk, asA_mk, asM_mk, asSl_mk, asStr_mk, tup2_mk, tup3_mk, agg1_mk, agg2_mk, agg3_mk, agg4_mk, asAggm, unCons_mk, unNil_mk, asTup_mk, extractD0, extractD1, List.toList_toArray, nilP_mk, add_mk, Nat.zero_add, Nat.add_zero, condT, condF, Bool.not_true, Bool.not_false, Option.isNone_some, Option.isNone_none])
  refine boxz (c := [.int .i64 0, .slice none 0 0]) (vs := [.int .i64 an.1, .slice q n k]) g3 rfl fun b38 H4 g4 => ?_
  have hnq : an.2.length = n := by have := (g4.row_own (i := 1) rfl).len1; simpa using this
  refine ldI_of (g4.cell (i := 3) rfl rfl) (ldSl_of (g4.cell (i := 3) rfl rfl) (ldSl_of (g4.cell (i := 3) rfl rfl) (ldB_of (g4.cell (i := 3) rfl rfl) (ldI_of (g4.cell (i := 2) rfl rfl) (ldI_of (g4.cell (i := 2) rfl rfl) ?_)))))
  refine witOutC (x := x) (ts := ts) (ls := ls) (os := os) g4 hrlen (by omega) (fun N H' h' => h'.rd sa.rows) sa.lens (fun j r l h1 h2 => ⟨hfin h1 h2, fun N H' h' => h'.rd (sa.each j r l h1 h2).1⟩) (fun N H' h' => h'.rd sa.outs) (sortOkN (by omega)) fun q2 n2 k2 H5 g5 => ?_
  obtain ⟨bn, hbn⟩ : ∃ a, a = outS ok s stir (os.map (·.1)) (insOf ((ts.map (·.1)).zip ls) x) x state pinned := ⟨_, rfl⟩
  have hB := outS_told (ok := ok) (s := s) (stir := stir) (os := os.map (·.1)) (ins := insOf ((ts.map (·.1)).zip ls) x) (x := x) (state := state) (pinned := pinned)
  have hb1 : pinned = true ∨ ok = false ∨ s ≠ stir → bn.1 = 1 := fun h => by rw [hbn]; exact outS_live h
  rw [← hbn] at g5 hB ⊢
  (try simp only [asI_mk', asB_mk, asP_mk, asA_mk, asM_mk, asSl_mk, asStr_mk, tup2_mk, tup3_mk, agg1_mk, agg2_mk, agg3_mk, agg4_mk, asAggm, unCons_mk, unNil_mk, asTup_mk, extractD0, extractD1, List.toList_toArray, nilP_mk, add_mk, Nat.zero_add, Nat.add_zero, condT, condF, Bool.not_true, Bool.not_false, Option.isNone_some, Option.isNone_none])
  refine boxz (c := [.int .i64 0, .slice none 0 0]) (vs := [.int .i64 bn.1, .slice q2 n2 k2]) g5 rfl fun b60 H6 g6 => ?_
  have g6 : St H [Prt.one b60 (.cells #[.int .i64 bn.1, .slice q2 n2 k2] ty_witness_Said (0, 0)), Prt.row 1 q2 n2 k2 (bn.2.map (Value.int .u64)), Prt.one b38 (.cells #[.int .i64 an.1, .slice q n k] ty_witness_Said (0, 0)), Prt.row 1 q n k (an.2.map (Value.int .u64)), Prt.one b20 (.cells #[.int .i64 x.n, .int .u64 x.s] ty_api_ID (0, 0)), Prt.one b18 (.cells #[.int .u64 s, .slice rp rl rc, .slice op ol oc, .bool ok] ty_cycle_Summary (0, 0))] H6 := g6
  have hnq2 : bn.2.length = n2 := by have := (g6.row_own (i := 1) rfl).len1; simpa using this
  clear g2 g3 g4 g5
  intro R64 hR64
  have hQ64 : ∀ H', St H [Prt.one b60 (.cells #[.int .i64 bn.1, .slice q2 n2 k2] ty_witness_Said (0, 0)), Prt.row 1 q2 n2 k2 (bn.2.map (Value.int .u64)), Prt.one b38 (.cells #[.int .i64 an.1, .slice q n k] ty_witness_Said (0, 0)), Prt.row 1 q n k (an.2.map (Value.int .u64)), Prt.one b20 (.cells #[.int .i64 x.n, .int .u64 x.s] ty_api_ID (0, 0)), Prt.one b18 (.cells #[.int .u64 s, .slice rp rl rc, .slice op ol oc, .bool ok] ty_cycle_Summary (0, 0))] H' → R64 H' := fun H7 g7 => by
    refine hR64 H7 ?_
    clear hR64 g6
    refine ⟨fun t H' => ∃ j : Nat, t = j ∧ 1 ≤ j ∧ St H [Prt.one b60 (.cells #[.int .i64 bn.1, .slice q2 n2 k2] ty_witness_Said (0, 0)), Prt.row 1 q2 n2 k2 (bn.2.map (Value.int .u64)), Prt.one b38 (.cells #[.int .i64 an.1, .slice q n k] ty_witness_Said (0, 0)), Prt.row 1 q n k (an.2.map (Value.int .u64)), Prt.one b20 (.cells #[.int .i64 x.n, .int .u64 x.s] ty_api_ID (0, 0)), Prt.one b18 (.cells #[.int .u64 s, .slice rp rl rc, .slice op ol oc, .bool ok] ty_cycle_Summary (0, 0))] H', fun t _ => ((n2 : Int) - t).toNat, ⟨1, rfl, by omega, g7⟩, ?_⟩
    clear g7
    rintro t H8 ⟨j, rfl, hj1, g8⟩
    refine ldSl_of (g8.cell (i := 0) rfl rfl) ?_
    by_cases hc : (j : Int) < (n2 : Int)
    · refine bif_pos hc (ldSl_of (g8.cell (i := 0) rfl rfl) ?_)
      have w1 : IntKind.i64.wrap ((j : Int) - 1) = ((j - 1 : Nat) : Int) := by rw [wrap_i64 (by omega) (by omega)]; omega
      rw [w1]
      refine idx1 (d := (0 : Int)) (g8.row_rd (i := 1) rfl) (by omega) (by omega) fun b o _ hcl => ?_
      rw [Int.toNat_natCast] at hcl ⊢
      refine ldI_of hcl (ldSl_of (g8.cell (i := 0) rfl rfl) ?_)
      refine idx1 (d := (0 : Int)) (g8.row_rd (i := 1) rfl) (by omega) (by omega) fun b' o' _ hcl' => ?_
      rw [Int.toNat_natCast] at hcl' ⊢
      refine ldI_of hcl' ?_
      have hlt : bn.2.getD (j - 1) 0 < bn.2.getD j 0 := by
        have := (List.pairwise_iff_getElem.1 hB.2.2) (j - 1) j (by omega) (by omega) (by omega)
        rw [List.getD_eq_getElem?_getD, List.getD_eq_getElem?_getD, List.getElem?_eq_getElem (by omega), List.getElem?_eq_getElem (by omega)]
        exact this
      refine bif_neg (by omega) ?_
      rw [wrap_i64 (by omega) (by omega)]
      exact ⟨⟨j + 1, by omega, by omega, g8⟩, by (try dsimp only); omega⟩
    refine bif_neg hc ?_
    have fin : (ldSl ⟨b38, 1, none⟩ H8 fun _ ListL86 _ => (bif (decide (((ListL86 : Int) : Int) ≤ 64)) then ldSl ⟨b60, 1, none⟩ H8 fun _ ListL89 _ => K (.bool (decide (((ListL89 : Int) : Int) ≤ 64))) H8 else K (.bool false) H8)) := by
      refine ldSl_of (g8.cell (i := 2) rfl rfl) (bif_pos (by omega) (ldSl_of (g8.cell (i := 0) rfl rfl) ?_))
      rw [decide_eq_true (show (n2 : Int) ≤ 64 by omega)]
      exact hK H8 g8.keep
    have fin2 : (ldI .i64 ⟨b60, 0, none⟩ H8 fun Code84 => (bif ((Code84 : Int) == 2) then ldSl ⟨b38, 1, none⟩ H8 fun _ ListL86 _ => (bif (decide (((ListL86 : Int) : Int) ≤ 64)) then ldSl ⟨b60, 1, none⟩ H8 fun _ ListL89 _ => K (.bool (decide (((ListL89 : Int) : Int) ≤ 64))) H8 else K (.bool false) H8) else
        ldSl ⟨b60, 1, none⟩ H8 fun _ ListL92 _ => (bif (((ListL92 : Int) : Int) == 0) then ldSl ⟨b38, 1, none⟩ H8 fun _ ListL95 _ => (bif (decide (((ListL95 : Int) : Int) ≤ 64)) then ldSl ⟨b60, 1, none⟩ H8 fun _ ListL98 _ => K (.bool (decide (((ListL98 : Int) : Int) ≤ 64))) H8 else K (.bool false) H8) else K (.bool false) H8))) := by
      refine ldI_of (g8.cell (i := 0) rfl rfl) ?_
      by_cases h2 : bn.1 = 2
      · exact bif_eq h2 fin
      · refine bif_ne h2 (ldSl_of (g8.cell (i := 0) rfl rfl) (bif_eq ?_ fin))
        have := hB.1.resolve_left h2
        rw [this] at hnq2
        simp at hnq2
        omega
    refine ldI_of (g8.cell (i := 2) rfl rfl) ?_
    by_cases h2 : an.1 = 2
    · exact bif_eq h2 fin2
    · refine bif_ne h2 (ldSl_of (g8.cell (i := 2) rfl rfl) (bif_eq ?_ fin2))
      have := ha.1.resolve_left h2
      rw [this] at hnq
      simp at hnq
      omega
  clear hR64
  refine known22C g6 fun H7 g7 => ?_
  have g7 : St H [Prt.one b60 (.cells #[.int .i64 bn.1, .slice q2 n2 k2] ty_witness_Said (0, 0)), Prt.row 1 q2 n2 k2 (bn.2.map (Value.int .u64)), Prt.one b38 (.cells #[.int .i64 an.1, .slice q n k] ty_witness_Said (0, 0)), Prt.row 1 q n k (an.2.map (Value.int .u64)), Prt.one b20 (.cells #[.int .i64 x.n, .int .u64 x.s] ty_api_ID (0, 0)), Prt.one b18 (.cells #[.int .u64 s, .slice rp rl rc, .slice op ol oc, .bool ok] ty_cycle_Summary (0, 0))] H7 := g7
  (try simp only [asI_mk', asB_mk, asP_mk, asA_mk, asM_mk, asSl_mk, asStr_mk, tup2_mk, tup3_mk, agg1_mk, agg2_mk, agg3_mk, agg4_mk, asAggm, unCons_mk, unNil_mk, asTup_mk, extractD0, extractD1, List.toList_toArray, nilP_mk, add_mk, Nat.zero_add, Nat.add_zero, condT, condF, Bool.not_true, Bool.not_false, Option.isNone_some, Option.isNone_none])
  have both : pinned = true ∨ ok = false ∨ s ≠ stir → (ldI .i64 ⟨b38, 0, none⟩ H7 fun Code122 => (bif ((Code122 : Int) != 1) then K (.bool false) H7 else ldI .i64 ⟨b60, 0, none⟩ H7 fun Code123 => (bif ((Code123 : Int) != 1) then K (.bool false) H7 else R64 H7))) := fun h =>
    ldI_of (g7.cell (i := 2) rfl rfl) (bif_neqf (ha1 h) (ldI_of (g7.cell (i := 0) rfl rfl) (bif_neqf (hb1 h) (hQ64 H7 g7))))
  cases hp : pinned
  rotate_left
  · simp only [condT]
    exact both (.inl hp)
  simp only [condF]
  refine ldB_of (g7.cell (i := 5) rfl rfl) ?_
  cases ho : ok
  · simp only [Bool.not_false, condT]
    exact both (.inr (.inl ho))
  simp only [Bool.not_true, condF]
  refine ldI_of (g7.cell (i := 5) rfl rfl) ?_
  by_cases hs : s = stir
  · exact bif_neqf hs (hQ64 H7 g7)
  · exact bif_neq hs (both (.inr (.inr hs)))
end Go.Proofs.Ytknejebggegfjaa
