/- Merged by merge.py: DenLaw22WitnessKnown, DenLaw22WitnessIn, Law22, DenLaw22WitnessOut, DenLaw22WitnessLive, Law22o. No condition. -/
import Derived.Test.YtknejebggegfjaaZNum
import Derived.Test.YtknejebggegfjaaZTrace
import Derived.Test.YtknejebggegfjaaZTraceb

namespace Go.Proofs.Ytknejebggegfjaa
open Go
set_option linter.unusedVariables false
set_option maxRecDepth 100000
end Go.Proofs.Ytknejebggegfjaa

namespace Go.Proofs.Ytknejebggegfjaa
open Go
set_option linter.unusedVariables false
set_option maxRecDepth 100000
end Go.Proofs.Ytknejebggegfjaa

namespace Go.Proofs.Ytknejebggegfjaa
set_option linter.unusedSimpArgs false
set_option linter.unusedVariables false
set_option maxRecDepth 20000
open Go
section
variable {H0 H : Hp} {L M N : List Prt} {i k : Nat} {K : Value → Hp → Prop}
theorem known22C (h : St H0 L H) (hK : ∀ H', St H0 L H' → K (.bool true) H') : hcall PR f_law22_known ⟨[]⟩ H K := by
  apply den_law22_known
  unfold B_law22_known
  refine boxs (c := [.int .i64 0, .int .u64 0]) (vs := [.int .i64 2, .int .u64 7]) h rfl fun b1 H1 g1 => ?_
  refine ldI_of (g1.cell (i := 0) rfl rfl) (ldI_of (g1.cell (i := 0) rfl rfl) ?_)
  intro b7 hb7
  have g2 := g1.alloc (o := .cells #[.int .i64 2, .int .u64 7] ty_api_ID) hb7
  intro b9 hb9
  have g3 := g2.alloc (o := .cells #[.int .u64 5, .slice (some ⟨b7, 0, none⟩) 1 1] ty_api_Reach) hb9
  refine ldI_of (g3.cell (i := 2) rfl rfl) (ldI_of (g3.cell (i := 2) rfl rfl) ?_)
  intro b13 hb13
  have g4 := g3.alloc (o := .cells #[.int .i64 2, .int .u64 7, .int .i64 9] ty_api_Out) hb13
  refine boxs (c := [.int .u64 0, .slice none 0 0, .slice none 0 0, .bool false]) (vs := [.int .u64 3, .slice (some ⟨b9, 0, none⟩) 1 1, .slice (some ⟨b13, 0, none⟩) 1 1, .bool true]) g4 rfl fun b15 H5 g5 => ?_
  have g5 : St H0 (Prt.one b15 (.cells #[.int .u64 3, .slice (some ⟨b9, 0, none⟩) 1 1, .slice (some ⟨b13, 0, none⟩) 1 1, .bool true] ty_cycle_Summary (0, 0)) :: Prt.one b13 (.cells #[.int .i64 2, .int .u64 7, .int .i64 9] ty_api_Out (0, 0)) :: Prt.one b9 (.cells #[.int .u64 5, .slice (some ⟨b7, 0, none⟩) 1 1] ty_api_Reach (0, 0)) :: Prt.one b7 (.cells #[.int .i64 2, .int .u64 7] ty_api_ID (0, 0)) :: Prt.one b1 (.cells #[.int .i64 2, .int .u64 7] ty_api_ID (0, 0)) :: L) H5 := g5
  clear g1 g2 g3 g4 h
  have rrow : ∀ N H', St H0 (N ++ (Prt.one b15 (.cells #[.int .u64 3, .slice (some ⟨b9, 0, none⟩) 1 1, .slice (some ⟨b13, 0, none⟩) 1 1, .bool true] ty_cycle_Summary (0, 0)) :: Prt.one b13 (.cells #[.int .i64 2, .int .u64 7, .int .i64 9] ty_api_Out (0, 0)) :: Prt.one b9 (.cells #[.int .u64 5, .slice (some ⟨b7, 0, none⟩) 1 1] ty_api_Reach (0, 0)) :: Prt.one b7 (.cells #[.int .i64 2, .int .u64 7] ty_api_ID (0, 0)) :: Prt.one b1 (.cells #[.int .i64 2, .int .u64 7] ty_api_ID (0, 0)) :: L)) H' → Rd H' 2 (some ⟨b9, 0, none⟩) 1 (cel rwC [(5, (some ⟨b7, 0, none⟩, 1, 1))]) := fun N H' h' => (St.lesses (M := N) h').one_rd (n := 1) (k := 2) (i := 2) rfl rfl
  have rids : ∀ N H', St H0 (N ++ (Prt.one b15 (.cells #[.int .u64 3, .slice (some ⟨b9, 0, none⟩) 1 1, .slice (some ⟨b13, 0, none⟩) 1 1, .bool true] ty_cycle_Summary (0, 0)) :: Prt.one b13 (.cells #[.int .i64 2, .int .u64 7, .int .i64 9] ty_api_Out (0, 0)) :: Prt.one b9 (.cells #[.int .u64 5, .slice (some ⟨b7, 0, none⟩) 1 1] ty_api_Reach (0, 0)) :: Prt.one b7 (.cells #[.int .i64 2, .int .u64 7] ty_api_ID (0, 0)) :: Prt.one b1 (.cells #[.int .i64 2, .int .u64 7] ty_api_ID (0, 0)) :: L)) H' → Rd H' 2 (some ⟨b7, 0, none⟩) 1 (cel wId [⟨2, 7⟩]) := fun N H' h' => (St.lesses (M := N) h').one_rd (n := 1) (k := 2) (i := 3) rfl rfl
  have rout : ∀ N H', St H0 (N ++ (Prt.one b15 (.cells #[.int .u64 3, .slice (some ⟨b9, 0, none⟩) 1 1, .slice (some ⟨b13, 0, none⟩) 1 1, .bool true] ty_cycle_Summary (0, 0)) :: Prt.one b13 (.cells #[.int .i64 2, .int .u64 7, .int .i64 9] ty_api_Out (0, 0)) :: Prt.one b9 (.cells #[.int .u64 5, .slice (some ⟨b7, 0, none⟩) 1 1] ty_api_Reach (0, 0)) :: Prt.one b7 (.cells #[.int .i64 2, .int .u64 7] ty_api_ID (0, 0)) :: Prt.one b1 (.cells #[.int .i64 2, .int .u64 7] ty_api_ID (0, 0)) :: L)) H' → Rd H' 3 (some ⟨b13, 0, none⟩) 1 (cel ouC [(⟨2, 7⟩, 9)]) := fun N H' h' => (St.lesses (M := N) h').one_rd (n := 1) (k := 3) (i := 1) rfl rfl
  refine ldI_of (g5.cell (i := 0) rfl rfl) (ldSl_of (g5.cell (i := 0) rfl rfl) (ldSl_of (g5.cell (i := 0) rfl rfl) (ldB_of (g5.cell (i := 0) rfl rfl) (?_))))
  intro b29 hb29
  have g6 := g5.alloc (o := .cells #[.int .u64 2, .int .u64 4] ty_uint64) hb29
  refine witInC (ts := [(5, (some ⟨b7, 0, none⟩, 1, 1))]) (holders := [2, 4]) g6 (by decide) (fun N H' h' => rrow (N ++ [_]) H' (by rw [List.append_assoc]; exact h')) (fun N H' h' => (St.lesses (M := N) h').one_rd (n := 2) (k := 1) (i := 0) rfl rfl) (by decide) fun p n cap H7 g7 => ?_
  have e1 : inS true 3 3 5 [5] [2, 4] false = (2, [2, 4]) := by rfl
  have e1' : inS true 3 3 5 ([((5, (some ⟨b7, 0, none⟩, 1, 1)) : RwT)].map (·.1)) [2, 4] false = (2, [2, 4]) := e1
  rw [e1'] at g7 ⊢
  (try simp only [asI_mk', asB_mk, asP_mk, asA_mk, asM_mk, asSl_mk, asStr_mk, tup2_mk, tup3_mk, agg1_mk, agg2_mk, agg3_mk, agg4_mk, asAggm, unCons_mk, unNil_mk, asTup_mk, extractD0, extractD1, List.toList_toArray, nilP_mk, add_mk, Nat.zero_add, Nat.add_zero, condT, condF, Bool.not_true, Bool.not_false, Option.isNone_some, Option.isNone_none])
  refine boxs (c := [.int .i64 0, .slice none 0 0]) (vs := [.int .i64 2, .slice p n cap]) g7 rfl fun b39 H8 g8 => ?_
  have g8 : St H0 (Prt.one b39 (.cells #[.int .i64 2, .slice p n cap] ty_witness_Said (0, 0)) :: Prt.row 1 p n cap (([2, 4] : List Int).map (Value.int .u64)) :: Prt.one b29 (.cells #[.int .u64 2, .int .u64 4] ty_uint64 (0, 0)) :: Prt.one b15 (.cells #[.int .u64 3, .slice (some ⟨b9, 0, none⟩) 1 1, .slice (some ⟨b13, 0, none⟩) 1 1, .bool true] ty_cycle_Summary (0, 0)) :: Prt.one b13 (.cells #[.int .i64 2, .int .u64 7, .int .i64 9] ty_api_Out (0, 0)) :: Prt.one b9 (.cells #[.int .u64 5, .slice (some ⟨b7, 0, none⟩) 1 1] ty_api_Reach (0, 0)) :: Prt.one b7 (.cells #[.int .i64 2, .int .u64 7] ty_api_ID (0, 0)) :: Prt.one b1 (.cells #[.int .i64 2, .int .u64 7] ty_api_ID (0, 0)) :: L) H8 := g8
  clear g5 g6 g7
  refine ldI_of (g8.cell (i := 3) rfl rfl) (ldSl_of (g8.cell (i := 3) rfl rfl) (ldSl_of (g8.cell (i := 3) rfl rfl) (ldB_of (g8.cell (i := 3) rfl rfl) (?_))))
  intro b51 hb51
  have g9 := g8.alloc (o := .cells #[.int .u64 2, .int .u64 4] ty_uint64) hb51
  refine witInC (ts := [(5, (some ⟨b7, 0, none⟩, 1, 1))]) (holders := [2, 4]) g9 (by decide) (fun N H' h' => rrow (N ++ [_, _, _, _]) H' (by rw [List.append_assoc]; exact h')) (fun N H' h' => (St.lesses (M := N) h').one_rd (n := 2) (k := 1) (i := 0) rfl rfl) (by decide) fun p2 n2 cap2 H10 g10 => ?_
  have e2 : inS true 3 4 5 ([((5, (some ⟨b7, 0, none⟩, 1, 1)) : RwT)].map (·.1)) [2, 4] false = (1, []) := by rfl
  rw [e2] at g10 ⊢
  (try simp only [asI_mk', asB_mk, asP_mk, asA_mk, asM_mk, asSl_mk, asStr_mk, tup2_mk, tup3_mk, agg1_mk, agg2_mk, agg3_mk, agg4_mk, asAggm, unCons_mk, unNil_mk, asTup_mk, extractD0, extractD1, List.toList_toArray, nilP_mk, add_mk, Nat.zero_add, Nat.add_zero, condT, condF, Bool.not_true, Bool.not_false, Option.isNone_some, Option.isNone_none])
  have hn2 : n2 = 0 := by have := (g10.row_own (i := 0) rfl).len1; simpa using this.symm
  refine boxs (c := [.int .i64 0, .slice none 0 0]) (vs := [.int .i64 1, .slice p2 n2 cap2]) g10 rfl fun b61 H11 g11 => ?_
  have g11 : St H0 (Prt.one b61 (.cells #[.int .i64 1, .slice p2 n2 cap2] ty_witness_Said (0, 0)) :: Prt.row 1 p2 n2 cap2 (([] : List Int).map (Value.int .u64)) :: Prt.one b51 (.cells #[.int .u64 2, .int .u64 4] ty_uint64 (0, 0)) :: Prt.one b39 (.cells #[.int .i64 2, .slice p n cap] ty_witness_Said (0, 0)) :: Prt.row 1 p n cap (([2, 4] : List Int).map (Value.int .u64)) :: Prt.one b29 (.cells #[.int .u64 2, .int .u64 4] ty_uint64 (0, 0)) :: Prt.one b15 (.cells #[.int .u64 3, .slice (some ⟨b9, 0, none⟩) 1 1, .slice (some ⟨b13, 0, none⟩) 1 1, .bool true] ty_cycle_Summary (0, 0)) :: Prt.one b13 (.cells #[.int .i64 2, .int .u64 7, .int .i64 9] ty_api_Out (0, 0)) :: Prt.one b9 (.cells #[.int .u64 5, .slice (some ⟨b7, 0, none⟩) 1 1] ty_api_Reach (0, 0)) :: Prt.one b7 (.cells #[.int .i64 2, .int .u64 7] ty_api_ID (0, 0)) :: Prt.one b1 (.cells #[.int .i64 2, .int .u64 7] ty_api_ID (0, 0)) :: L) H11 := g11
  clear g8 g9 g10
  refine ldI_of (g11.cell (i := 6) rfl rfl) (ldSl_of (g11.cell (i := 6) rfl rfl) (ldSl_of (g11.cell (i := 6) rfl rfl) (ldB_of (g11.cell (i := 6) rfl rfl) (?_))))
  refine ldI_of (g11.cell (i := 10) rfl rfl) (ldI_of (g11.cell (i := 10) rfl rfl) ?_)
  have lsE : ∀ (j : Nat) (r : RwT) (l : List Id), ([((5, (some ⟨b7, 0, none⟩, 1, 1)) : RwT)])[j]? = some r → ([[⟨2, 7⟩]] : List (List Id))[j]? = some l → r = (5, (some ⟨b7, 0, none⟩, 1, 1)) ∧ l = [⟨2, 7⟩] := fun j r l h1 h2 => by
    cases j with
    | zero => simp at h1 h2; exact ⟨h1.symm, h2.symm⟩
    | succ j => simp at h1
  refine witOutC (x := ⟨2, 7⟩) (ts := [(5, (some ⟨b7, 0, none⟩, 1, 1))]) (ls := [[⟨2, 7⟩]]) (os := [(⟨2, 7⟩, 9)]) g11 (by decide) (by decide) (fun N H' h' => rrow (N ++ [_, _, _, _, _, _]) H' (by rw [List.append_assoc]; exact h')) rfl (fun j r l h1 h2 => by
    obtain ⟨rfl, rfl⟩ := lsE j r l h1 h2
    exact ⟨by simp only; omega, fun N H' h' => rids (N ++ [_, _, _, _, _, _]) H' (by rw [List.append_assoc]; exact h')⟩) (fun N H' h' => rout (N ++ [_, _, _, _, _, _]) H' (by rw [List.append_assoc]; exact h')) sortOk1 fun p3 n3 cap3 H12 g12 => ?_
  have e3 : outS true 3 3 ([((⟨2, 7⟩, 9) : Id × Int)].map (·.1)) (insOf (([((5, (some ⟨b7, 0, none⟩, 1, 1)) : RwT)].map (·.1)).zip [[⟨2, 7⟩]]) ⟨2, 7⟩) ⟨2, 7⟩ 2 false = (2, [5]) := by rfl
  rw [e3] at g12 ⊢
  (try simp only [asI_mk', asB_mk, asP_mk, asA_mk, asM_mk, asSl_mk, asStr_mk, tup2_mk, tup3_mk, agg1_mk, agg2_mk, agg3_mk, agg4_mk, asAggm, unCons_mk, unNil_mk, asTup_mk, extractD0, extractD1, List.toList_toArray, nilP_mk, add_mk, Nat.zero_add, Nat.add_zero, condT, condF, Bool.not_true, Bool.not_false, Option.isNone_some, Option.isNone_none])
  refine boxs (c := [.int .i64 0, .slice none 0 0]) (vs := [.int .i64 2, .slice p3 n3 cap3]) g12 rfl fun b83 H13 g13 => ?_
  have g13 : St H0 (Prt.one b83 (.cells #[.int .i64 2, .slice p3 n3 cap3] ty_witness_Said (0, 0)) :: Prt.row 1 p3 n3 cap3 (([5] : List Int).map (Value.int .u64)) :: Prt.one b61 (.cells #[.int .i64 1, .slice p2 n2 cap2] ty_witness_Said (0, 0)) :: Prt.row 1 p2 n2 cap2 (([] : List Int).map (Value.int .u64)) :: Prt.one b51 (.cells #[.int .u64 2, .int .u64 4] ty_uint64 (0, 0)) :: Prt.one b39 (.cells #[.int .i64 2, .slice p n cap] ty_witness_Said (0, 0)) :: Prt.row 1 p n cap (([2, 4] : List Int).map (Value.int .u64)) :: Prt.one b29 (.cells #[.int .u64 2, .int .u64 4] ty_uint64 (0, 0)) :: Prt.one b15 (.cells #[.int .u64 3, .slice (some ⟨b9, 0, none⟩) 1 1, .slice (some ⟨b13, 0, none⟩) 1 1, .bool true] ty_cycle_Summary (0, 0)) :: Prt.one b13 (.cells #[.int .i64 2, .int .u64 7, .int .i64 9] ty_api_Out (0, 0)) :: Prt.one b9 (.cells #[.int .u64 5, .slice (some ⟨b7, 0, none⟩) 1 1] ty_api_Reach (0, 0)) :: Prt.one b7 (.cells #[.int .i64 2, .int .u64 7] ty_api_ID (0, 0)) :: Prt.one b1 (.cells #[.int .i64 2, .int .u64 7] ty_api_ID (0, 0)) :: L) H13 := g13
  clear g11 g12
  refine ldI_of (g13.cell (i := 8) rfl rfl) (ldSl_of (g13.cell (i := 8) rfl rfl) (ldSl_of (g13.cell (i := 8) rfl rfl) (ldB_of (g13.cell (i := 8) rfl rfl) (?_))))
  refine ldI_of (g13.cell (i := 12) rfl rfl) (ldI_of (g13.cell (i := 12) rfl rfl) ?_)
  refine witOutC (x := ⟨2, 7⟩) (ts := [(5, (some ⟨b7, 0, none⟩, 1, 1))]) (ls := [[⟨2, 7⟩]]) (os := [(⟨2, 7⟩, 9)]) g13 (by decide) (by decide) (fun N H' h' => rrow (N ++ [_, _, _, _, _, _, _, _]) H' (by rw [List.append_assoc]; exact h')) rfl (fun j r l h1 h2 => by
    obtain ⟨rfl, rfl⟩ := lsE j r l h1 h2
    exact ⟨by simp only; omega, fun N H' h' => rids (N ++ [_, _, _, _, _, _, _, _]) H' (by rw [List.append_assoc]; exact h')⟩) (fun N H' h' => rout (N ++ [_, _, _, _, _, _, _, _]) H' (by rw [List.append_assoc]; exact h')) sortOk1 fun p4 n4 cap4 H14 g14 => ?_
  have e4 : outS true 3 3 ([((⟨2, 7⟩, 9) : Id × Int)].map (·.1)) (insOf (([((5, (some ⟨b7, 0, none⟩, 1, 1)) : RwT)].map (·.1)).zip [[⟨2, 7⟩]]) ⟨2, 7⟩) ⟨2, 7⟩ 0 false = (0, []) := by rfl
  rw [e4] at g14 ⊢
  (try simp only [asI_mk', asB_mk, asP_mk, asA_mk, asM_mk, asSl_mk, asStr_mk, tup2_mk, tup3_mk, agg1_mk, agg2_mk, agg3_mk, agg4_mk, asAggm, unCons_mk, unNil_mk, asTup_mk, extractD0, extractD1, List.toList_toArray, nilP_mk, add_mk, Nat.zero_add, Nat.add_zero, condT, condF, Bool.not_true, Bool.not_false, Option.isNone_some, Option.isNone_none])
  refine boxs (c := [.int .i64 0, .slice none 0 0]) (vs := [.int .i64 0, .slice p4 n4 cap4]) g14 rfl fun b105 H15 g15 => ?_
  have g15 : St H0 (Prt.one b105 (.cells #[.int .i64 0, .slice p4 n4 cap4] ty_witness_Said (0, 0)) :: Prt.row 1 p4 n4 cap4 (([] : List Int).map (Value.int .u64)) :: Prt.one b83 (.cells #[.int .i64 2, .slice p3 n3 cap3] ty_witness_Said (0, 0)) :: Prt.row 1 p3 n3 cap3 (([5] : List Int).map (Value.int .u64)) :: Prt.one b61 (.cells #[.int .i64 1, .slice p2 n2 cap2] ty_witness_Said (0, 0)) :: Prt.row 1 p2 n2 cap2 (([] : List Int).map (Value.int .u64)) :: Prt.one b51 (.cells #[.int .u64 2, .int .u64 4] ty_uint64 (0, 0)) :: Prt.one b39 (.cells #[.int .i64 2, .slice p n cap] ty_witness_Said (0, 0)) :: Prt.row 1 p n cap (([2, 4] : List Int).map (Value.int .u64)) :: Prt.one b29 (.cells #[.int .u64 2, .int .u64 4] ty_uint64 (0, 0)) :: Prt.one b15 (.cells #[.int .u64 3, .slice (some ⟨b9, 0, none⟩) 1 1, .slice (some ⟨b13, 0, none⟩) 1 1, .bool true] ty_cycle_Summary (0, 0)) :: Prt.one b13 (.cells #[.int .i64 2, .int .u64 7, .int .i64 9] ty_api_Out (0, 0)) :: Prt.one b9 (.cells #[.int .u64 5, .slice (some ⟨b7, 0, none⟩) 1 1] ty_api_Reach (0, 0)) :: Prt.one b7 (.cells #[.int .i64 2, .int .u64 7] ty_api_ID (0, 0)) :: Prt.one b1 (.cells #[.int .i64 2, .int .u64 7] ty_api_ID (0, 0)) :: L) H15 := g15
  clear g13 g14
  have hn : n = 2 := by have := (g15.row_own (i := 8) rfl).len1; simpa using this.symm
  have hn3 : n3 = 1 := by have := (g15.row_own (i := 3) rfl).len1; simpa using this.symm
  refine ldI_of (g15.cell (i := 7) rfl rfl) (bif_eq rfl (ldSl_of (g15.cell (i := 7) rfl rfl) ?_))
  intro b113 hb113
  have g16 := g15.alloc (o := .cells #[.int .u64 2, .int .u64 4] ty_uint64) hb113
  refine numbersC (l := [2, 4]) (l' := [2, 4]) (g16.row_rd (i := 9) rfl) (g16.one_rd (i := 0) (n := 2) (k := 1) rfl rfl) (by omega) (by decide) ?_
  rw [decide_eq_true rfl]
  (try simp only [asI_mk', asB_mk, asP_mk, asA_mk, asM_mk, asSl_mk, asStr_mk, tup2_mk, tup3_mk, agg1_mk, agg2_mk, agg3_mk, agg4_mk, asAggm, unCons_mk, unNil_mk, asTup_mk, extractD0, extractD1, List.toList_toArray, nilP_mk, add_mk, Nat.zero_add, Nat.add_zero, condT, condF, Bool.not_true, Bool.not_false, Option.isNone_some, Option.isNone_none])
  refine ldI_of (g16.cell (i := 5) rfl rfl) (bif_eq rfl (ldSl_of (g16.cell (i := 5) rfl rfl) (bif_eq (by omega) (ldI_of (g16.cell (i := 3) rfl rfl) (bif_eq rfl (ldSl_of (g16.cell (i := 3) rfl rfl) ?_))))))
  intro b126 hb126
  have g17 := g16.alloc (o := .cells #[.int .u64 5] ty_uint64) hb126
  refine numbersC (l := [5]) (l' := [5]) (g17.row_rd (i := 5) rfl) (g17.one_rd (i := 0) (n := 1) (k := 1) rfl rfl) (by omega) (by decide) ?_
  rw [decide_eq_true rfl]
  (try simp only [asI_mk', asB_mk, asP_mk, asA_mk, asM_mk, asSl_mk, asStr_mk, tup2_mk, tup3_mk, agg1_mk, agg2_mk, agg3_mk, agg4_mk, asAggm, unCons_mk, unNil_mk, asTup_mk, extractD0, extractD1, List.toList_toArray, nilP_mk, add_mk, Nat.zero_add, Nat.add_zero, condT, condF, Bool.not_true, Bool.not_false, Option.isNone_some, Option.isNone_none])
  refine ldI_of (g17.cell (i := 2) rfl rfl) ?_
  (try simp only [asI_mk', asB_mk, asP_mk, asA_mk, asM_mk, asSl_mk, asStr_mk, tup2_mk, tup3_mk, agg1_mk, agg2_mk, agg3_mk, agg4_mk, asAggm, unCons_mk, unNil_mk, asTup_mk, extractD0, extractD1, List.toList_toArray, nilP_mk, add_mk, Nat.zero_add, Nat.add_zero, condT, condF, Bool.not_true, Bool.not_false, Option.isNone_some, Option.isNone_none])
  refine hK _ (St.lesses (M := [_, _, _, _, _, _, _, _, _, _, _, _, _, _, _, _, _]) g17)
end
end Go.Proofs.Ytknejebggegfjaa

namespace Go.Proofs.Ytknejebggegfjaa
open Go
set_option linter.unusedVariables false
set_option maxRecDepth 100000
def B_law22_WitnessOut (sStir1 : Int) (sRowsP2 : Option Addr) (sRowsL3 : Nat) (sRowsC4 : Nat) (sOutsP5 : Option Addr) (sOutsL6 : Nat) (sOutsC7 : Nat) (sOk8 : Bool) (stir9 : Int) (xNode10 : Int) (xSerial11 : Int) (state12 : Int) (pinned13 : Bool) (fits14 : Bool) (H : Hp) (K : Value → Hp → Prop) : Prop :=
 newB (.cells #[(.int .u64 sStir1), (.slice sRowsP2 sRowsL3 sRowsC4), (.slice sOutsP5 sOutsL6 sOutsC7), (.bool sOk8)] ty_cycle_Summary) H fun b15 Hx16 =>
 newB (.cells #[(.int .i64 xNode10), (.int .u64 xSerial11)] ty_api_ID) Hx16 fun b17 Hx18 =>
 ∀ R19 : Hp → Prop, (∀ Hx20 : Hp, (
 ∀ R21 : Option Addr → Hp → Prop, (∀ a23 : Option Addr, ∀ Hx22 : Hp, (
 ldI .u64 ⟨b15, 0, none⟩ Hx22 fun Stir24 =>
 ldSl ⟨b15, 1, none⟩ Hx22 fun RowsP25 RowsL26 RowsC27 =>
 ldSl ⟨b15, 2, none⟩ Hx22 fun OutsP28 OutsL29 OutsC30 =>
 ldB ⟨b15, 3, none⟩ Hx22 fun Ok31 =>
 ldI .i64 ⟨b17, 0, none⟩ Hx22 fun Node32 =>
 ldI .u64 ⟨b17, 1, none⟩ Hx22 fun Serial33 =>
 hcall PR f_ref22_Out ⟨[(.agg #[(.int .u64 Stir24), (.slice RowsP25 RowsL26 RowsC27), (.slice OutsP28 OutsL29 OutsC30), (.bool Ok31)]), (.int .u64 stir9), (.agg #[(.int .i64 Node32), (.int .u64 Serial33)]), (.int .i64 state12), (.bool pinned13)]⟩ Hx22 fun v34 Hx35 =>
 tup2 v34 fun v36 v37 =>
 asI .i64 v36 fun t38 =>
 asSl v37 fun tP39 tL40 tC41 =>
 hcall PR f_law22_known ⟨[]⟩ Hx35 fun v42 Hx43 =>
 asB v42 fun t44 =>
 (bif t44 then
 asA (.pointer a23) fun aa45 =>
 ldI .i64 aa45 Hx43 fun Code46 =>
 (bif ((Code46 : Int) == t38) then
 asA (.pointer a23) fun aa47 =>
 ldSl (aa47.add 1) Hx43 fun ListP48 ListL49 ListC50 =>
 hcall PR f_ref2_Numbers ⟨[(.slice ListP48 ListL49 ListC50), (.slice tP39 tL40 tC41)]⟩ Hx43 fun v51 Hx52 =>
 asB v51 fun t53 =>
 K (.bool t53) Hx52
else
 K (.bool false) Hx43)
else
 K (.bool false) Hx43)) → R21 a23 Hx22) →
 ldI .u64 ⟨b15, 0, none⟩ Hx20 fun Stir54 =>
 ldSl ⟨b15, 1, none⟩ Hx20 fun RowsP55 RowsL56 RowsC57 =>
 ldSl ⟨b15, 2, none⟩ Hx20 fun OutsP58 OutsL59 OutsC60 =>
 ldB ⟨b15, 3, none⟩ Hx20 fun Ok61 =>
 ldI .i64 ⟨b17, 0, none⟩ Hx20 fun Node62 =>
 ldI .u64 ⟨b17, 1, none⟩ Hx20 fun Serial63 =>
 (hcall PR f_law22_copyOf ⟨[(.agg #[(.int .u64 Stir54), (.slice RowsP55 RowsL56 RowsC57), (.slice OutsP58 OutsL59 OutsC60), (.bool Ok61)])]⟩ Hx20 fun v64 Hx65 =>
 agg4 v64 fun v66 v67 v68 v69 =>
 asI .u64 v66 fun Stir70 =>
 asSl v67 fun RowsP71 RowsL72 RowsC73 =>
 asSl v68 fun OutsP74 OutsL75 OutsC76 =>
 asB v69 fun Ok77 =>
 (ldI .i64 ⟨b17, 0, none⟩ Hx65 fun Node78 =>
 ldI .u64 ⟨b17, 1, none⟩ Hx65 fun Serial79 =>
 ((.agg #[(.int .i64 Node78), (.int .u64 Serial79)]) : Value) = (.agg #[(.int .i64 Node62), (.int .u64 Serial63)])) ∧
 (hcall PR f_witness_Out ⟨[(.agg #[(.int .u64 Stir70), (.slice RowsP71 RowsL72 RowsC73), (.slice OutsP74 OutsL75 OutsC76), (.bool Ok77)]), (.int .u64 stir9), (.agg #[(.int .i64 Node62), (.int .u64 Serial63)]), (.int .i64 state12), (.bool pinned13)]⟩ Hx65 fun v80 Hx81 =>
 agg2 v80 fun v82 v83 =>
 asI .i64 v82 fun Code84 =>
 asSl v83 fun ListP85 ListL86 ListC87 =>
 newB (.cells #[(.int .i64 0), (.slice none 0 0)] ty_witness_Said) Hx81 fun b88 Hx89 =>
 st ⟨b88, 0, none⟩ (.int .i64 Code84) Hx89 fun Hx90 =>
 st ⟨b88, 1, none⟩ (.slice ListP85 ListL86 ListC87) Hx90 fun Hx91 =>
 R21 (some ⟨b88, 0, none⟩) Hx91) ∧
 (newB (.cells #[(.int .i64 0), (.slice none 0 0)] ty_witness_Said) Hx65 fun b92 Hx93 =>
 (ldI .i64 ⟨b17, 0, none⟩ Hx93 fun Node94 =>
 ldI .u64 ⟨b17, 1, none⟩ Hx93 fun Serial95 =>
 ((.agg #[(.int .i64 Node94), (.int .u64 Serial95)]) : Value) = (.agg #[(.int .i64 Node62), (.int .u64 Serial63)])) ∧
 hcall PR f_witness_Out ⟨[(.agg #[(.int .u64 Stir70), (.slice RowsP71 RowsL72 RowsC73), (.slice OutsP74 OutsL75 OutsC76), (.bool Ok77)]), (.int .u64 stir9), (.agg #[(.int .i64 Node62), (.int .u64 Serial63)]), (.int .i64 state12), (.bool pinned13)]⟩ Hx93 fun v96 Hx97 =>
 agg2 v96 fun v98 v99 =>
 asI .i64 v98 fun Code100 =>
 asSl v99 fun ListP101 ListL102 ListC103 =>
 st ⟨b92, 0, none⟩ (.int .i64 Code100) Hx97 fun Hx104 =>
 st ⟨b92, 1, none⟩ (.slice ListP101 ListL102 ListC103) Hx104 fun Hx105 =>
 R21 (some ⟨b92, 0, none⟩) Hx105)) ∧
 (newB (.cells #[(.int .i64 0), (.slice none 0 0)] ty_witness_Said) Hx20 fun b106 Hx107 =>
 (ldI .i64 ⟨b17, 0, none⟩ Hx107 fun Node108 =>
 ldI .u64 ⟨b17, 1, none⟩ Hx107 fun Serial109 =>
 ((.agg #[(.int .i64 Node108), (.int .u64 Serial109)]) : Value) = (.agg #[(.int .i64 Node62), (.int .u64 Serial63)])) ∧
 (ldI .u64 ⟨b15, 0, none⟩ Hx107 fun Stir110 =>
 ldSl ⟨b15, 1, none⟩ Hx107 fun RowsP111 RowsL112 RowsC113 =>
 ldSl ⟨b15, 2, none⟩ Hx107 fun OutsP114 OutsL115 OutsC116 =>
 ldB ⟨b15, 3, none⟩ Hx107 fun Ok117 =>
 ((.agg #[(.int .u64 Stir110), (.slice RowsP111 RowsL112 RowsC113), (.slice OutsP114 OutsL115 OutsC116), (.bool Ok117)]) : Value) = (.agg #[(.int .u64 Stir54), (.slice RowsP55 RowsL56 RowsC57), (.slice OutsP58 OutsL59 OutsC60), (.bool Ok61)])) ∧
 hcall PR f_law22_copyOf ⟨[(.agg #[(.int .u64 Stir54), (.slice RowsP55 RowsL56 RowsC57), (.slice OutsP58 OutsL59 OutsC60), (.bool Ok61)])]⟩ Hx107 fun v118 Hx119 =>
 agg4 v118 fun v120 v121 v122 v123 =>
 asI .u64 v120 fun Stir124 =>
 asSl v121 fun RowsP125 RowsL126 RowsC127 =>
 asSl v122 fun OutsP128 OutsL129 OutsC130 =>
 asB v123 fun Ok131 =>
 (ldI .i64 ⟨b17, 0, none⟩ Hx119 fun Node132 =>
 ldI .u64 ⟨b17, 1, none⟩ Hx119 fun Serial133 =>
 ((.agg #[(.int .i64 Node132), (.int .u64 Serial133)]) : Value) = (.agg #[(.int .i64 Node62), (.int .u64 Serial63)])) ∧
 hcall PR f_witness_Out ⟨[(.agg #[(.int .u64 Stir124), (.slice RowsP125 RowsL126 RowsC127), (.slice OutsP128 OutsL129 OutsC130), (.bool Ok131)]), (.int .u64 stir9), (.agg #[(.int .i64 Node62), (.int .u64 Serial63)]), (.int .i64 state12), (.bool pinned13)]⟩ Hx119 fun v134 Hx135 =>
 agg2 v134 fun v136 v137 =>
 asI .i64 v136 fun Code138 =>
 asSl v137 fun ListP139 ListL140 ListC141 =>
 st ⟨b106, 0, none⟩ (.int .i64 Code138) Hx135 fun Hx142 =>
 st ⟨b106, 1, none⟩ (.slice ListP139 ListL140 ListC141) Hx142 fun Hx143 =>
 R21 (some ⟨b106, 0, none⟩) Hx143)) → R19 Hx20) →
 (bif fits14 then
 st ⟨b15, 0, none⟩ (.int .u64 stir9) Hx18 fun Hx144 =>
 st ⟨b15, 3, none⟩ (.bool true) Hx144 fun Hx145 =>
 R19 Hx145
else
 R19 Hx18)
theorem E_law22_WitnessOut (sStir1 : Int) (sRowsP2 : Option Addr) (sRowsL3 : Nat) (sRowsC4 : Nat) (sOutsP5 : Option Addr) (sOutsL6 : Nat) (sOutsC7 : Nat) (sOk8 : Bool) (stir9 : Int) (xNode10 : Int) (xSerial11 : Int) (state12 : Int) (pinned13 : Bool) (fits14 : Bool) (H : Hp) (K : Value → Hp → Prop) : B_law22_WitnessOut sStir1 sRowsP2 sRowsL3 sRowsC4 sOutsP5 sOutsL6 sOutsC7 sOk8 stir9 xNode10 xSerial11 state12 pinned13 fits14 H K = denF Try.prog Try.f6 (.seq none .n (.seq (some ⟨[], [1, 3, 4, 6, 8]⟩) .n (.seq (some ⟨[(13, .ptr)], [1, 3, 4, 6, 8]⟩) .n .n))) [(.agg #[(.int .u64 sStir1), (.slice sRowsP2 sRowsL3 sRowsC4), (.slice sOutsP5 sOutsL6 sOutsC7), (.bool sOk8)]), (.int .u64 stir9), (.agg #[(.int .i64 xNode10), (.int .u64 xSerial11)]), (.int .i64 state12), (.bool pinned13), (.bool fits14)] H K := by kernel_rfl
theorem den_law22_WitnessOut {sStir1 : Int} {sRowsP2 : Option Addr} {sRowsL3 : Nat} {sRowsC4 : Nat} {sOutsP5 : Option Addr} {sOutsL6 : Nat} {sOutsC7 : Nat} {sOk8 : Bool} {stir9 : Int} {xNode10 : Int} {xSerial11 : Int} {state12 : Int} {pinned13 : Bool} {fits14 : Bool} {H : Hp} {K : Value → Hp → Prop} (h : B_law22_WitnessOut sStir1 sRowsP2 sRowsL3 sRowsC4 sOutsP5 sOutsL6 sOutsC7 sOk8 stir9 xNode10 xSerial11 state12 pinned13 fits14 H K) : hcall PR f_law22_WitnessOut ⟨[(.agg #[(.int .u64 sStir1), (.slice sRowsP2 sRowsL3 sRowsC4), (.slice sOutsP5 sOutsL6 sOutsC7), (.bool sOk8)]), (.int .u64 stir9), (.agg #[(.int .i64 xNode10), (.int .u64 xSerial11)]), (.int .i64 state12), (.bool pinned13), (.bool fits14)]⟩ H K := denF_call Try.func6 PR_mixed (Eq.mp (E_law22_WitnessOut sStir1 sRowsP2 sRowsL3 sRowsC4 sOutsP5 sOutsL6 sOutsC7 sOk8 stir9 xNode10 xSerial11 state12 pinned13 fits14 H K) h)

end Go.Proofs.Ytknejebggegfjaa

namespace Go.Proofs.Ytknejebggegfjaa
open Go
set_option linter.unusedVariables false
set_option maxRecDepth 100000
end Go.Proofs.Ytknejebggegfjaa

namespace Go.Proofs.Ytknejebggegfjaa
set_option linter.unusedSimpArgs false
set_option linter.unusedVariables false
set_option maxRecDepth 20000
open Go
theorem outS_told {ok : Bool} {s stir : Int} {os : List Id} {ins : List Int} {x : Id} {state : Int} {pinned : Bool} : ((outS ok s stir os ins x state pinned).1 = 2 ∨ (outS ok s stir os ins x state pinned).2 = []) ∧ (outS ok s stir os ins x state pinned).2.length ≤ 64 ∧ (outS ok s stir os ins x state pinned).2.Pairwise (· < ·) := by
  unfold outS
  repeat' split
  all_goals first
    | exact ⟨.inr rfl, by simp, List.Pairwise.nil⟩
    | exact ⟨.inl rfl, by simp only; omega, cpt_rise rise1_rise⟩
theorem SumA.long {H : Hp} {rp op : Option Addr} {rl ol : Nat} {ts : List RwT} {ls : List (List Id)} {os : List (Id × Int)} (sa : SumA H rp rl op ol ts ls os) {j : Nat} {l : List Id} (hj : ls[j]? = some l) : l.length ≤ 9223372036854775807 := by
  have hjl : j < ls.length := by
    rcases Nat.lt_or_ge j ls.length with h | h
    · exact h
    · rw [List.getElem?_eq_none h] at hj; cases hj
  have hjt : j < ts.length := by rw [sa.lens]; exact hjl
  obtain ⟨h1, h2⟩ := sa.each j ts[j] l (List.getElem?_eq_getElem hjt) hj
  have := h1.1
  rw [cel_len wId_len] at this
  omega
/-- What a copy's row leads to, read. -/
theorem sumRd {H0 H : Hp} {L : List Prt} {i : Nat} {ts : List RwT} {ls : List (List Id)} {j : Nat} {r : RwT} {l : List Id} (h : St H0 L H) (hi : L[i]? = some (Prt.list ((ts.zip ls).map sumRow))) (h1 : ts[j]? = some r) (h2 : ls[j]? = some l) : Rd H 2 r.2.1 r.2.2.1 (cel wId l) := by
  refine (h.open hi).row_rd (i := j) (cap := r.2.2.2) ?_
  have e : ((ts.zip ls).map sumRow)[j]? = some (Prt.row 2 r.2.1 r.2.2.1 r.2.2.2 (cel wId l)) := by
    rw [List.getElem?_map, (List.getElem?_zip_eq_some (z := (r, l))).2 ⟨h1, h2⟩]
    rfl
  have hl : j < ((ts.zip ls).map sumRow).length := by
    rcases Nat.lt_or_ge j ((ts.zip ls).map sumRow).length with h | h
    · exact h
    · rw [List.getElem?_eq_none h] at e; cases e
  rw [List.getElem?_append_left hl]
  exact e

theorem WitnessOut_ok {rp op : Option Addr} {rl rc ol oc : Nat} {s stir state : Int} {ok pinned fits : Bool} {ts : List RwT} {ls : List (List Id)} {os : List (Id × Int)} {y : E_api_ID} {H : Hp} {K : Value → Hp → Prop} (sa : SumA H rp rl op ol ts ls os)
    (hst : IntKind.min .u64 ≤ stir ∧ stir ≤ IntKind.max .u64) (hy : y.ok) (hse : IntKind.min .i64 ≤ state ∧ state ≤ IntKind.max .i64)
    (hK : ∀ H', Keep Nothing H H' → K (.bool true) H') : hcall PR f_law22_WitnessOut ⟨[.agg #[.int .u64 s, .slice rp rl rc, .slice op ol oc, .bool ok], .int .u64 stir, .agg y.cells.toArray, .int .i64 state, .bool pinned, .bool fits]⟩ H K := by
  show hcall PR f_law22_WitnessOut ⟨[.agg #[.int .u64 s, .slice rp rl rc, .slice op ol oc, .bool ok], .int .u64 stir, .agg #[.int .i64 y.Node, .int .u64 y.Serial], .int .i64 state, .bool pinned, .bool fits]⟩ H K
  obtain ⟨x, hx⟩ : ∃ x : Id, x = ⟨y.Node, y.Serial⟩ := ⟨_, rfl⟩
  rw [show y.Node = x.n by rw [hx], show y.Serial = x.s by rw [hx]]
  clear hx hy y
  apply den_law22_WitnessOut
  unfold B_law22_WitnessOut
  have hrlen := sa.rlen
  have holen := sa.olen
  have htl : ts.length = rl := by
    have := sa.rows.1
    rw [cel_len rwC_len] at this
    omega
  have hfin : ∀ {j : Nat} {r : RwT} {l : List Id}, ts[j]? = some r → ls[j]? = some l → r.2.2.1 ≤ 9223372036854775807 := fun {j r l} h1 h2 => by
    have := (sa.each j r l h1 h2).2
    omega
  intro b15 hb15
  have g1 := (St.start H).alloc (o := .cells #[.int .u64 s, .slice rp rl rc, .slice op ol oc, .bool ok] ty_cycle_Summary) hb15
  intro b17 hb17
  have g2 := g1.alloc (o := .cells #[.int .i64 x.n, .int .u64 x.s] ty_api_ID) hb17
  have g2 : St H [Prt.one b17 (.cells #[.int .i64 x.n, .int .u64 x.s] ty_api_ID (0, 0)), Prt.one b15 (.cells #[.int .u64 s, .slice rp rl rc, .slice op ol oc, .bool ok] ty_cycle_Summary (0, 0))] _ := g2
  clear g1
  intro R19 hR19
  have hQ19 : ∀ (s' : Int) (ok' : Bool) H', St H [Prt.one b17 (.cells #[.int .i64 x.n, .int .u64 x.s] ty_api_ID (0, 0)), Prt.one b15 (.cells #[.int .u64 s', .slice rp rl rc, .slice op ol oc, .bool ok'] ty_cycle_Summary (0, 0))] H' → R19 H' := fun s' ok' H1 g1 => by
    refine hR19 H1 ?_
    clear hR19
    intro R21 hR21
    obtain ⟨an, han⟩ : ∃ a, a = outS ok' s' stir (os.map (·.1)) (insOf ((ts.map (·.1)).zip ls) x) x state pinned := ⟨_, rfl⟩
    have han64 : an.2.length ≤ 64 := by rw [han]; exact outS_told.2.1
    have hQ21 : ∀ b q n k H', St H [Prt.one b (.cells #[.int .i64 an.1, .slice q n k] ty_witness_Said (0, 0)), Prt.row 1 q n k (an.2.map (Value.int .u64)), Prt.one b17 (.cells #[.int .i64 x.n, .int .u64 x.s] ty_api_ID (0, 0)), Prt.one b15 (.cells #[.int .u64 s', .slice rp rl rc, .slice op ol oc, .bool ok'] ty_cycle_Summary (0, 0))] H' → R21 (some ⟨b, 0, none⟩) H' := fun b q n k H2 g2 => by
      refine hR21 _ H2 ?_
      clear hR21
      have hnq : an.2.length = n := by have := (g2.row_own (i := 1) rfl).len1; simpa using this
      refine ldI_of (g2.cell (i := 3) rfl rfl) (ldSl_of (g2.cell (i := 3) rfl rfl) (ldSl_of (g2.cell (i := 3) rfl rfl) (ldB_of (g2.cell (i := 3) rfl rfl) (ldI_of (g2.cell (i := 2) rfl rfl) (ldI_of (g2.cell (i := 2) rfl rfl) ?_)))))
      refine refOutC (x := x) (ts := ts) (ls := ls) (os := os) g2 hrlen (by omega) (fun N H' h' => h'.rd sa.rows) sa.lens (fun j r l h1 h2 => ⟨hfin h1 h2, fun N H' h' => h'.rd (sa.each j r l h1 h2).1⟩) (fun N H' h' => h'.rd sa.outs) fun q2 n2 k2 H3 g3 => ?_
      rw [← han] at g3 ⊢
      (try simp only [asI_mk', asB_mk, asP_mk, asA_mk, asM_mk, asSl_mk, asStr_mk, tup2_mk, tup3_mk, agg1_mk, agg2_mk, agg3_mk, agg4_mk, asAggm, unCons_mk, unNil_mk, asTup_mk, extractD0, extractD1, List.toList_toArray, nilP_mk, add_mk, Nat.zero_add, Nat.add_zero, condT, condF, Bool.not_true, Bool.not_false, Option.isNone_some, Option.isNone_none])
      have hnq2 : an.2.length = n2 := by have := (g3.row_own (i := 0) rfl).len1; simpa using this
      refine known22C g3 fun H4 g4 => ?_
      (try simp only [asI_mk', asB_mk, asP_mk, asA_mk, asM_mk, asSl_mk, asStr_mk, tup2_mk, tup3_mk, agg1_mk, agg2_mk, agg3_mk, agg4_mk, asAggm, unCons_mk, unNil_mk, asTup_mk, extractD0, extractD1, List.toList_toArray, nilP_mk, add_mk, Nat.zero_add, Nat.add_zero, condT, condF, Bool.not_true, Bool.not_false, Option.isNone_some, Option.isNone_none])
      refine ldI_of (g4.cell (i := 1) rfl rfl) (bif_eq rfl (ldSl_of (g4.cell (i := 1) rfl rfl) ?_))
      refine numbersC (l := an.2) (l' := an.2) (g4.row_rd (i := 2) rfl) (g4.row_rd (i := 0) rfl) (by omega) (by omega) ?_
      rw [decide_eq_true rfl]
      (try simp only [asI_mk', asB_mk, asP_mk, asA_mk, asM_mk, asSl_mk, asStr_mk, tup2_mk, tup3_mk, agg1_mk, agg2_mk, agg3_mk, agg4_mk, asAggm, unCons_mk, unNil_mk, asTup_mk, extractD0, extractD1, List.toList_toArray, nilP_mk, add_mk, Nat.zero_add, Nat.add_zero, condT, condF, Bool.not_true, Bool.not_false, Option.isNone_some, Option.isNone_none])
      exact hK H4 g4.keep
    clear hR21
    refine ldI_of (g1.cell (i := 1) rfl rfl) (ldSl_of (g1.cell (i := 1) rfl rfl) (ldSl_of (g1.cell (i := 1) rfl rfl) (ldB_of (g1.cell (i := 1) rfl rfl) (ldI_of (g1.cell (i := 0) rfl rfl) (ldI_of (g1.cell (i := 0) rfl rfl) ?_)))))
    have hsort : SortOk H rl := sortOkN (by omega)
    refine ⟨?_, fun b106 hb106 => ?_⟩
    · refine copyOfC sa g1 fun p cap p' cap' ts' H4 hmap htl' g4 => ?_
      (try simp only [asI_mk', asB_mk, asP_mk, asA_mk, asM_mk, asSl_mk, asStr_mk, tup2_mk, tup3_mk, agg1_mk, agg2_mk, agg3_mk, agg4_mk, asAggm, unCons_mk, unNil_mk, asTup_mk, extractD0, extractD1, List.toList_toArray, nilP_mk, add_mk, Nat.zero_add, Nat.add_zero, condT, condF, Bool.not_true, Bool.not_false, Option.isNone_some, Option.isNone_none])
      have hel : ∀ (j : Nat) (r : RwT) (l : List Id), ts'[j]? = some r → ls[j]? = some l → ∀ (N M : List Prt) H', St H (N ++ (Prt.row 2 p rl cap (cel rwC ts') :: Prt.row 3 p' ol cap' (cel ouC os) :: Prt.list ((ts'.zip ls).map sumRow) :: M)) H' → Rd H' 2 r.2.1 r.2.2.1 (cel wId l) := fun j r l h1 h2 N M H' h' => sumRd (i := 2) (St.lesses (M := N) h') rfl h1 h2
      have hel2 : ∀ (j : Nat) (r : RwT) (l : List Id), ts'[j]? = some r → ls[j]? = some l → r.2.2.1 ≤ 9223372036854775807 := fun j r l h1 h2 => by
        have h3 := (hel j r l h1 h2 [] _ H4 g4).1
        rw [cel_len wId_len] at h3
        have := sa.long h2
        omega
      refine ⟨ldI_of (g4.cell (i := 3) rfl rfl) (ldI_of (g4.cell (i := 3) rfl rfl) rfl), ?_, fun b92 hb92 => ⟨?_, ?_⟩⟩
      · refine witOutC (x := x) (ts := ts') (ls := ls) (os := os) g4 hrlen (by omega) (fun N H' h' => (St.lesses (M := N) h').row_rd (i := 0) rfl) (by rw [htl', ← htl]; exact sa.lens) (fun j r l h1 h2 => ⟨hel2 j r l h1 h2, fun N H' h' => hel j r l h1 h2 N _ H' h'⟩) (fun N H' h' => (St.lesses (M := N) h').row_rd (i := 1) rfl) hsort fun q n k H5 g5 => ?_
        rw [hmap, ← han] at g5 ⊢
        (try simp only [asI_mk', asB_mk, asP_mk, asA_mk, asM_mk, asSl_mk, asStr_mk, tup2_mk, tup3_mk, agg1_mk, agg2_mk, agg3_mk, agg4_mk, asAggm, unCons_mk, unNil_mk, asTup_mk, extractD0, extractD1, List.toList_toArray, nilP_mk, add_mk, Nat.zero_add, Nat.add_zero, condT, condF, Bool.not_true, Bool.not_false, Option.isNone_some, Option.isNone_none])
        refine boxz (c := [.int .i64 0, .slice none 0 0]) (vs := [.int .i64 an.1, .slice q n k]) g5 rfl fun b57 H6 g6 => ?_
        exact hQ21 b57 q n k H6 (St.lesses (M := [_, _, _]) (St.pick g6 7 [2, 3, 4, 0, 1, 5, 6] rfl rfl))
      · have g5 := g4.alloc (o := .cells #[.int .i64 0, .slice none 0 0] ty_witness_Said) hb92
        exact ldI_of (g5.cell (i := 4) rfl rfl) (ldI_of (g5.cell (i := 4) rfl rfl) rfl)
      · have g5 := g4.alloc (o := .cells #[.int .i64 0, .slice none 0 0] ty_witness_Said) hb92
        refine witOutC (x := x) (ts := ts') (ls := ls) (os := os) g5 hrlen (by omega) (fun N H' h' => (St.lesses (M := N) h').row_rd (i := 1) rfl) (by rw [htl', ← htl]; exact sa.lens) (fun j r l h1 h2 => ⟨hel2 j r l h1 h2, fun N H' h' => hel j r l h1 h2 (N ++ [_]) _ H' (by rw [List.append_assoc]; exact h')⟩) (fun N H' h' => (St.lesses (M := N) h').row_rd (i := 2) rfl) hsort fun q n k H5 g6 => ?_
        rw [hmap, ← han] at g6 ⊢
        (try simp only [asI_mk', asB_mk, asP_mk, asA_mk, asM_mk, asSl_mk, asStr_mk, tup2_mk, tup3_mk, agg1_mk, agg2_mk, agg3_mk, agg4_mk, asAggm, unCons_mk, unNil_mk, asTup_mk, extractD0, extractD1, List.toList_toArray, nilP_mk, add_mk, Nat.zero_add, Nat.add_zero, condT, condF, Bool.not_true, Bool.not_false, Option.isNone_some, Option.isNone_none])
        refine St.sets (i := 1) (o := 0) (vs := [.int .i64 an.1, .slice q n k]) g6 rfl (by simp) fun H8 g8 => ?_
        rw [setsA_all (by rfl)] at g8
        exact hQ21 b92 q n k H8 (St.lesses (M := [_, _, _]) (St.pick g8 7 [2, 3, 4, 1, 0, 5, 6] rfl rfl))
    · have g3 := g1.alloc (o := .cells #[.int .i64 0, .slice none 0 0] ty_witness_Said) hb106
      refine ⟨ldI_of (g3.cell (i := 1) rfl rfl) (ldI_of (g3.cell (i := 1) rfl rfl) rfl), ldI_of (g3.cell (i := 2) rfl rfl) (ldSl_of (g3.cell (i := 2) rfl rfl) (ldSl_of (g3.cell (i := 2) rfl rfl) (ldB_of (g3.cell (i := 2) rfl rfl) rfl))), ?_⟩
      refine copyOfC sa g3 fun p cap p' cap' ts' H4 hmap htl' g4 => ?_
      (try simp only [asI_mk', asB_mk, asP_mk, asA_mk, asM_mk, asSl_mk, asStr_mk, tup2_mk, tup3_mk, agg1_mk, agg2_mk, agg3_mk, agg4_mk, asAggm, unCons_mk, unNil_mk, asTup_mk, extractD0, extractD1, List.toList_toArray, nilP_mk, add_mk, Nat.zero_add, Nat.add_zero, condT, condF, Bool.not_true, Bool.not_false, Option.isNone_some, Option.isNone_none])
      have hel : ∀ (j : Nat) (r : RwT) (l : List Id), ts'[j]? = some r → ls[j]? = some l → ∀ (N M : List Prt) H', St H (N ++ (Prt.row 2 p rl cap (cel rwC ts') :: Prt.row 3 p' ol cap' (cel ouC os) :: Prt.list ((ts'.zip ls).map sumRow) :: M)) H' → Rd H' 2 r.2.1 r.2.2.1 (cel wId l) := fun j r l h1 h2 N M H' h' => sumRd (i := 2) (St.lesses (M := N) h') rfl h1 h2
      have hel2 : ∀ (j : Nat) (r : RwT) (l : List Id), ts'[j]? = some r → ls[j]? = some l → r.2.2.1 ≤ 9223372036854775807 := fun j r l h1 h2 => by
        have h3 := (hel j r l h1 h2 [] _ H4 g4).1
        rw [cel_len wId_len] at h3
        have := sa.long h2
        omega
      refine ⟨ldI_of (g4.cell (i := 4) rfl rfl) (ldI_of (g4.cell (i := 4) rfl rfl) rfl), ?_⟩
      refine witOutC (x := x) (ts := ts') (ls := ls) (os := os) g4 hrlen (by omega) (fun N H' h' => (St.lesses (M := N) h').row_rd (i := 0) rfl) (by rw [htl', ← htl]; exact sa.lens) (fun j r l h1 h2 => ⟨hel2 j r l h1 h2, fun N H' h' => hel j r l h1 h2 N _ H' h'⟩) (fun N H' h' => (St.lesses (M := N) h').row_rd (i := 1) rfl) hsort fun q n k H5 g6 => ?_
      rw [hmap, ← han] at g6 ⊢
      (try simp only [asI_mk', asB_mk, asP_mk, asA_mk, asM_mk, asSl_mk, asStr_mk, tup2_mk, tup3_mk, agg1_mk, agg2_mk, agg3_mk, agg4_mk, asAggm, unCons_mk, unNil_mk, asTup_mk, extractD0, extractD1, List.toList_toArray, nilP_mk, add_mk, Nat.zero_add, Nat.add_zero, condT, condF, Bool.not_true, Bool.not_false, Option.isNone_some, Option.isNone_none])
      refine St.sets (i := 4) (o := 0) (vs := [.int .i64 an.1, .slice q n k]) g6 rfl (by simp) fun H8 g8 => ?_
      rw [setsA_all (by rfl)] at g8
      exact hQ21 b106 q n k H8 (St.lesses (M := [_, _, _]) (St.pick g8 7 [1, 2, 3, 4, 0, 5, 6] rfl rfl))
  clear hR19
  cases fits
  · simp only [condF]
    exact hQ19 s ok _ g2
  · simp only [condT]
    refine g2.put (i := 1) rfl (show 0 < 4 by decide) fun H3 g3 => ?_
    refine g3.put (i := 1) rfl (show 3 < 4 by decide) fun H4 g4 => ?_
    exact hQ19 stir true H4 g4
end Go.Proofs.Ytknejebggegfjaa
