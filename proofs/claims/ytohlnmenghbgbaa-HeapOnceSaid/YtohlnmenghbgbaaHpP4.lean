/- Package heap, run: Object. No condition. -/
import Derived.Test.YtohlnmenghbgbaaHpP3
namespace Go.Proofs.Ytohlnmenghbgbaa
set_option linter.unusedSimpArgs false
set_option linter.unusedVariables false
open Go

section
variable {H0 H : Hp} {L M : List Prt} {i hb j b : Nat} {s : Hs} {x : HpX} {o : Ob} {K : Value → Hp → Prop}

theorem one_ids {l : List Id} : ∀ y ∈ cel Id.cells l, one y = true := by
  intro y hy
  unfold cel at hy
  rw [List.mem_flatten] at hy
  obtain ⟨xs, hx, hy⟩ := hy
  obtain ⟨z, _, rfl⟩ := List.mem_map.1 hx
  simp [Id.cells] at hy
  rcases hy with rfl | rfl <;> rfl

theorem hObjC {k : Int} (h : St H0 L H) (hi : L[i]? = some (HeapP hb s))
    (hno : hGet s k = none → ∀ H', St H0 L H' → K (.tuple #[.agg #[.int .u64 0, .int .i64 0, .slice none 0 0, .slice none 0 0, .int .i64 0], .bool false]) H')
    (hyes : ∀ o, hGet s k = some o → ∀ p c q d H', St H0 (Prt.row 2 p o.refs.length c (cel Id.cells o.refs) :: Prt.row 1 q o.vals.length d (o.vals.map (Value.int .u64)) :: L) H' →
      K (.tuple #[.agg #[.int .u64 k, .int .i64 o.cell, .slice p o.refs.length c, .slice q o.vals.length d, .int .i64 o.din], .bool true]) H') :
    hcall PR f_heap_Heap_Object ⟨[.pointer (some ⟨hb, 0, none⟩), .int .u64 k]⟩ H K := by
  apply den_heap_Heap_Object
  unfold B_heap_Heap_Object
  intro b3 hb3
  have h1 := h.alloc (o := .cells #[.int .u64 0, .int .i64 0, .slice none 0 0, .slice none 0 0, .int .i64 0] ty_api_Object) hb3
  obtain ⟨x, M, g1, hp, ho, back⟩ := heapTake (i := i + 1) h1 hi
  have vv := heapV g1
  simp only [asI_mk', asB_mk, asP_mk, asA_mk, asM_mk, asSl_mk, asStr_mk, tup2_mk, tup3_mk, agg1_mk, agg2_mk, agg3_mk, agg4_mk, asAggm, unCons_mk, unNil_mk, asTup_mk, extractD0, extractD1, List.toList_toArray, nilP_mk, add_mk, Nat.zero_add, Nat.add_zero, condT, condF, Bool.not_true, Bool.not_false, Option.isNone_some, Option.isNone_none]
  refine ldM_of vv.mp (heapLook g1 hp ho (fun hg => ?_) fun j o bo hj hk hg hjo => ?_)
  · simp only [asI_mk', asB_mk, asP_mk, asA_mk, asM_mk, asSl_mk, asStr_mk, tup2_mk, tup3_mk, agg1_mk, agg2_mk, agg3_mk, agg4_mk, asAggm, unCons_mk, unNil_mk, asTup_mk, extractD0, extractD1, List.toList_toArray, nilP_mk, add_mk, Nat.zero_add, Nat.add_zero, condT, condF, Bool.not_true, Bool.not_false, Option.isNone_some, Option.isNone_none]
    exact fin5 h1 (i := 0) rfl rfl fun H' h' => hno hg H' h'.less
  · subst hk
    obtain ⟨p0, c0, q0, d0, tv⟩ := thingV g1 hj
    have hob := ho.obs o (hGet_mem hg).1
    have hr7 := hob.refs
    have hv7 := hob.vals
    have hone := one_ids (l := o.refs)
    have honev : ∀ y ∈ o.vals.map (Value.int .u64), one y = true := one_int _
    have hyes := hyes o hg
    clear hno g1 back
    generalize upd H b3 (.cells #[.int .u64 0, .int .i64 0, .slice none 0 0, .slice none 0 0, .int .i64 0] ty_api_Object) = H1 at *
    have fin : ∀ (p q : Option Addr) (c d : Nat) H', St H1 [Prt.row 2 p o.refs.length c (cel Id.cells o.refs), Prt.row 1 q o.vals.length d (o.vals.map (Value.int .u64))] H' →
        (st ⟨b3, 0, none⟩ (.int .u64 o.ser) H' fun H1 => st ⟨b3, 1, none⟩ (.int .i64 o.cell) H1 fun H2 => st ⟨b3, 2, none⟩ (.slice p o.refs.length c) H2 fun H3 => st ⟨b3, 3, none⟩ (.slice q o.vals.length d) H3 fun H4 => st ⟨b3, 4, none⟩ (.int .i64 o.din) H4 fun H5 =>
          ldI .u64 ⟨b3, 0, none⟩ H5 fun x => ldI .i64 ⟨b3, 1, none⟩ H5 fun y => ldSl ⟨b3, 2, none⟩ H5 fun p n c => ldSl ⟨b3, 3, none⟩ H5 fun q m d => ldI .i64 ⟨b3, 4, none⟩ H5 fun z =>
            K (.tuple #[.agg #[.int .u64 x, .int .i64 y, .slice p n c, .slice q m d, .int .i64 z], .bool true]) H5) := fun p q c d H' g =>
      fin5 (h1.join g) (i := 2) (K := fun x y p n c q m d z H5 => K (.tuple #[.agg #[.int .u64 x, .int .i64 y, .slice p n c, .slice q m d, .int .i64 z], .bool true]) H5) rfl rfl fun H'' h'' => hyes p c q d H'' (h''.pick 3 [2, 0, 1] rfl rfl).less
    simp only [asI_mk', asB_mk, asP_mk, asA_mk, asM_mk, asSl_mk, asStr_mk, tup2_mk, tup3_mk, agg1_mk, agg2_mk, agg3_mk, agg4_mk, asAggm, unCons_mk, unNil_mk, asTup_mk, extractD0, extractD1, List.toList_toArray, nilP_mk, add_mk, Nat.zero_add, Nat.add_zero, condT, condF, Bool.not_true, Bool.not_false, Option.isNone_some, Option.isNone_none]
    refine ldI_of tv.cell (ldSl_of tv.refs (ldSl_of tv.vals (ldI_of tv.din ⟨?_, ?_⟩)))
    · intro b35 hb35
      have g1 := (St.start H1).alloc (o := .cells #[] ty_api_ID) hb35
      refine ⟨ldI_of (g1.arg tv.din) rfl, ldSl_of (g1.arg tv.vals) rfl, ldSl_of (g1.arg tv.refs) rfl, ldI_of (g1.arg tv.cell) rfl, ?_, ?_⟩
      · refine g1.copy (i := 0) rfl tu_ty_Sapi_ID tu_ty_Sapi_ID ti_ty_api_ID rfl (by decide) (g1.rd tv.rrow) hone (by omega) fun p c H2 g2 => ?_
        simp only [asI_mk', asB_mk, asP_mk, asA_mk, asM_mk, asSl_mk, asStr_mk, tup2_mk, tup3_mk, agg1_mk, agg2_mk, agg3_mk, agg4_mk, asAggm, unCons_mk, unNil_mk, asTup_mk, extractD0, extractD1, List.toList_toArray, nilP_mk, add_mk, Nat.zero_add, Nat.add_zero, condT, condF, Bool.not_true, Bool.not_false, Option.isNone_some, Option.isNone_none]
        refine ⟨ldI_of (g2.arg tv.din) rfl, ldSl_of (g2.arg tv.vals) rfl, ldI_of (g2.arg tv.cell) rfl, ?_⟩
        intro b55 hb55
        have g3 := g2.alloc (o := .cells #[] ty_uint64) hb55
        refine ⟨ldI_of (g3.arg tv.din) rfl, ldSl_of (g3.arg tv.vals) rfl, ldI_of (g3.arg tv.cell) rfl, ?_⟩
        refine g3.copy (i := 0) rfl tu_ty_Suint64 tu_ty_Suint64 ti_ty_uint64 rfl (by decide) (g3.rd tv.vrow) honev (by omega) fun q d H4 g4 => ?_
        simp only [asI_mk', asB_mk, asP_mk, asA_mk, asM_mk, asSl_mk, asStr_mk, tup2_mk, tup3_mk, agg1_mk, agg2_mk, agg3_mk, agg4_mk, asAggm, unCons_mk, unNil_mk, asTup_mk, extractD0, extractD1, List.toList_toArray, nilP_mk, add_mk, Nat.zero_add, Nat.add_zero, condT, condF, Bool.not_true, Bool.not_false, Option.isNone_some, Option.isNone_none]
        exact ⟨ldI_of (g4.arg tv.din) rfl, ldI_of (g4.arg tv.cell) rfl, fin p q c d H4 g4.flip⟩
      · intro b83 hb83
        have g3 := g1.alloc (o := .cells #[] ty_uint64) hb83
        refine ⟨ldI_of (g3.arg tv.din) rfl, ldSl_of (g3.arg tv.vals) rfl, ldSl_of (g3.arg tv.refs) rfl, ldI_of (g3.arg tv.cell) rfl, ?_⟩
        refine g3.copy (i := 1) rfl tu_ty_Sapi_ID tu_ty_Sapi_ID ti_ty_api_ID rfl (by decide) (g3.rd tv.rrow) hone (by omega) fun p c H2 g2 => ?_
        simp only [asI_mk', asB_mk, asP_mk, asA_mk, asM_mk, asSl_mk, asStr_mk, tup2_mk, tup3_mk, agg1_mk, agg2_mk, agg3_mk, agg4_mk, asAggm, unCons_mk, unNil_mk, asTup_mk, extractD0, extractD1, List.toList_toArray, nilP_mk, add_mk, Nat.zero_add, Nat.add_zero, condT, condF, Bool.not_true, Bool.not_false, Option.isNone_some, Option.isNone_none]
        refine ⟨ldI_of (g2.arg tv.din) rfl, ldSl_of (g2.arg tv.vals) rfl, ldI_of (g2.arg tv.cell) rfl, ?_⟩
        refine g2.copy (i := 0) rfl tu_ty_Suint64 tu_ty_Suint64 ti_ty_uint64 rfl (by decide) (g2.rd tv.vrow) honev (by omega) fun q d H4 g4 => ?_
        simp only [asI_mk', asB_mk, asP_mk, asA_mk, asM_mk, asSl_mk, asStr_mk, tup2_mk, tup3_mk, agg1_mk, agg2_mk, agg3_mk, agg4_mk, asAggm, unCons_mk, unNil_mk, asTup_mk, extractD0, extractD1, List.toList_toArray, nilP_mk, add_mk, Nat.zero_add, Nat.add_zero, condT, condF, Bool.not_true, Bool.not_false, Option.isNone_some, Option.isNone_none]
        exact ⟨ldI_of (g4.arg tv.din) rfl, ldI_of (g4.arg tv.cell) rfl, fin p q c d H4 g4.flip⟩
    · intro b124 hb124
      have g1 := (St.start H1).alloc (o := .cells #[] ty_uint64) hb124
      refine ⟨ldI_of (g1.arg tv.din) rfl, ldSl_of (g1.arg tv.vals) rfl, ldSl_of (g1.arg tv.refs) rfl, ldI_of (g1.arg tv.cell) rfl, ?_⟩
      intro b134 hb134
      have g3 := g1.alloc (o := .cells #[] ty_api_ID) hb134
      refine ⟨ldI_of (g3.arg tv.din) rfl, ldSl_of (g3.arg tv.vals) rfl, ldSl_of (g3.arg tv.refs) rfl, ldI_of (g3.arg tv.cell) rfl, ?_⟩
      refine g3.copy (i := 0) rfl tu_ty_Sapi_ID tu_ty_Sapi_ID ti_ty_api_ID rfl (by decide) (g3.rd tv.rrow) hone (by omega) fun p c H2 g2 => ?_
      simp only [asI_mk', asB_mk, asP_mk, asA_mk, asM_mk, asSl_mk, asStr_mk, tup2_mk, tup3_mk, agg1_mk, agg2_mk, agg3_mk, agg4_mk, asAggm, unCons_mk, unNil_mk, asTup_mk, extractD0, extractD1, List.toList_toArray, nilP_mk, add_mk, Nat.zero_add, Nat.add_zero, condT, condF, Bool.not_true, Bool.not_false, Option.isNone_some, Option.isNone_none]
      refine ⟨ldI_of (g2.arg tv.din) rfl, ldSl_of (g2.arg tv.vals) rfl, ldI_of (g2.arg tv.cell) rfl, ?_⟩
      refine g2.copy (i := 1) rfl tu_ty_Suint64 tu_ty_Suint64 ti_ty_uint64 rfl (by decide) (g2.rd tv.vrow) honev (by omega) fun q d H4 g4 => ?_
      simp only [asI_mk', asB_mk, asP_mk, asA_mk, asM_mk, asSl_mk, asStr_mk, tup2_mk, tup3_mk, agg1_mk, agg2_mk, agg3_mk, agg4_mk, asAggm, unCons_mk, unNil_mk, asTup_mk, extractD0, extractD1, List.toList_toArray, nilP_mk, add_mk, Nat.zero_add, Nat.add_zero, condT, condF, Bool.not_true, Bool.not_false, Option.isNone_some, Option.isNone_none]
      exact ⟨ldI_of (g4.arg tv.din) rfl, ldI_of (g4.arg tv.cell) rfl, fin p q c d H4 g4⟩
end

end Go.Proofs.Ytohlnmenghbgbaa
