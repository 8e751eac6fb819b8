/- Package heap, run: New, Make, Object, Next. No condition. -/
import Derived.Test.YtohlnmenghbgbaaHpP2
namespace Go.Proofs.Ytohlnmenghbgbaa
set_option linter.unusedSimpArgs false
set_option linter.unusedVariables false
open Go

section
variable {H0 H : Hp} {L M : List Prt} {i hb j b : Nat} {s : Hs} {x : HpX} {o : Ob} {K : Value → Hp → Prop}

/-- What heap.New asks. -/
def newBad (node cells objects last : Int) : Prop := node < 1 ∨ 64 < node ∨ objects < 1 ∨ 64 < objects ∨ 72057594037927935 < last ∨ cells < 16 ∨ 4096 < cells ∨ Int.tmod cells 16 ≠ 0
def newHs (node objects last : Int) (m : Nat) : Hs := ⟨node, objects, last, List.replicate m noBlk, []⟩
theorem newHs_ok {node objects last : Int} {m : Nat} (h1 : 1 ≤ node ∧ node ≤ 64) (h2 : 1 ≤ objects ∧ objects ≤ 64) (h3 : 0 ≤ last ∧ last ≤ 72057594037927935) (h4 : m ≤ 256) : (newHs node objects last m).ok :=
  ⟨h1, h2, h3, ArOk.new h4, by simp [newHs]; omega, List.Pairwise.nil, fun o h => absurd h List.not_mem_nil, fun o h => absurd h List.not_mem_nil⟩
theorem cells_mul {cells : Int} (h : ¬ (cells < 16 ∨ 4096 < cells ∨ Int.tmod cells 16 ≠ 0)) : ∃ m : Nat, cells = 16 * (m : Int) ∧ 1 ≤ m ∧ m ≤ 256 := by
  have h3 : Int.tmod cells 16 = 0 := Classical.byContradiction fun e => h (.inr (.inr e))
  rw [Int.tmod_eq_emod_of_nonneg (by omega)] at h3
  exact ⟨(cells / 16).toNat, by omega, by omega, by omega⟩

theorem hNewBad {node cells objects last : Int} (hbad : newBad node cells objects last) (h : St H0 L H) (hK : ∀ H', St H0 L H' → K (.tuple #[.pointer none, .int .i64 1]) H') :
    hcall PR f_heap_New ⟨[.int .i64 node, .int .i64 cells, .int .i64 objects, .int .u64 last]⟩ H K := by
  apply den_heap_New
  unfold B_heap_New
  have hK := hK H h
  by_cases h1 : node < 1
  · exact bif_pos h1 hK
  by_cases h2 : node > 64
  · exact bif_neg h1 (bif_pos h2 hK)
  by_cases h3 : objects < 1
  · exact bif_neg h1 (bif_neg h2 (bif_pos h3 hK))
  by_cases h4 : objects > 64
  · exact bif_neg h1 (bif_neg h2 (bif_neg h3 (bif_pos h4 hK)))
  by_cases h5 : last > 72057594037927935
  · exact bif_neg h1 (bif_neg h2 (bif_neg h3 (bif_neg h4 (bif_pos h5 hK))))
  refine bif_neg h1 (bif_neg h2 (bif_neg h3 (bif_neg h4 (bif_neg h5 ?_))))
  have h6 : cells < 16 ∨ 4096 < cells ∨ Int.tmod cells 16 ≠ 0 := by unfold newBad at hbad; omega
  refine sArNew_bad h6 ?_
  simp only [asI_mk', asB_mk, asP_mk, asA_mk, asM_mk, asSl_mk, asStr_mk, tup2_mk, tup3_mk, agg1_mk, agg2_mk, agg3_mk, agg4_mk, asAggm, unCons_mk, unNil_mk, asTup_mk, extractD0, extractD1, List.toList_toArray, nilP_mk, add_mk, Nat.zero_add, Nat.add_zero, condT, condF, Bool.not_true, Bool.not_false, Option.isNone_some, Option.isNone_none]
  exact bif_neq (by omega) hK
theorem hNewOk {node objects last : Int} {m : Nat} (h1 : 1 ≤ node ∧ node ≤ 64) (h2 : 1 ≤ objects ∧ objects ≤ 64) (h3 : 0 ≤ last ∧ last ≤ 72057594037927935) (hm1 : 1 ≤ m) (hm2 : m ≤ 256) (h : St H0 L H)
    (hK : ∀ hb H', St H0 (HeapP hb (newHs node objects last m) :: L) H' → K (.tuple #[.pointer (some ⟨hb, 0, none⟩), .int .i64 0]) H') :
    hcall PR f_heap_New ⟨[.int .i64 node, .int .i64 (16 * (m : Int)), .int .i64 objects, .int .u64 last]⟩ H K := by
  apply den_heap_New
  unfold B_heap_New
  refine bif_neg (by omega) (bif_neg (by omega) (bif_neg (by omega) (bif_neg (by omega) (bif_neg (by omega) (sArNew h hm1 hm2 fun a H1 g1 => ?_)))))
  simp only [asI_mk', asB_mk, asP_mk, asA_mk, asM_mk, asSl_mk, asStr_mk, tup2_mk, tup3_mk, agg1_mk, agg2_mk, agg3_mk, agg4_mk, asAggm, unCons_mk, unNil_mk, asTup_mk, extractD0, extractD1, List.toList_toArray, nilP_mk, add_mk, Nat.zero_add, Nat.add_zero, condT, condF, Bool.not_true, Bool.not_false, Option.isNone_some, Option.isNone_none]
  refine bif_neqf rfl ?_
  intro b1 hb1
  have g2 := g1.mpNew hb1
  intro b2 hb2
  have g3 := g2.alloc (o := .cells #[.int .i64 node, .int .i64 objects, .int .u64 last, .pointer (some ⟨a, 0, none⟩), .map (some b1)] ty_heap_Heap) hb2
  refine hK b2 _ ?_
  have g4 := g3.say (p := (([] : List (Ob × Nat)).map (·.1) = (newHs node objects last m).obs ∧ (newHs node objects last m).ok)) ⟨rfl, newHs_ok h1 h2 h3 hm2⟩
  have g5 : St H0 (Prt.list [] :: _) _ := g4.saynil
  have g6 : St H0 (heapParts b2 (newHs node objects last m) ⟨a, b1, [], ty_heap_Heap⟩ ++ L) _ := g5.pick 5 [2, 4, 3, 0, 1] rfl rfl
  exact g6.gatherEx (M := heapParts b2 (newHs node objects last m)) ⟨a, b1, [], ty_heap_Heap⟩

theorem hpMap_push {ps : List (Ob × Nat)} (hp : ps.map (·.1) = s.obs) (ho : s.ok) (hs : o.ser = s.last + 1) : mput (hpMap ps) (s.last + 1) b = hpMap (ps ++ [(o, b)]) := by
  have : mhas (hpMap ps) (s.last + 1) = false := mhas_false.2 fun p hm => by
    obtain ⟨q, hq, rfl⟩ := List.mem_map.1 hm
    have := (ho.ser q.1 (by rw [← hp]; exact List.mem_map.2 ⟨q, hq, rfl⟩)).2
    simp only
    omega
  unfold mput
  rw [this, if_neg (by decide)]
  simp [hpMap, hs]

theorem wrap_u64' {n : Int} (h0 : 0 ≤ n) (h1 : n < 18446744073709551616) : IntKind.u64.wrap n = n := by rw [wrap_u64]; omega

theorem hMakeC {r v : Int} (h : St H0 L H) (hi : L[i]? = some (HeapP hb s)) (hr : IntKind.min .i64 ≤ r ∧ r ≤ IntKind.max .i64) (hv : IntKind.min .i64 ≤ v ∧ v ≤ IntKind.max .i64)
    (hK : ∀ H', St H0 (L.set i (HeapP hb (hMake s r v).2.2)) H' → K (.tuple #[.int .u64 (hMake s r v).1, .int .i64 (hMake s r v).2.1]) H') :
    hcall PR f_heap_Heap_Make ⟨[.pointer (some ⟨hb, 0, none⟩), .int .i64 r, .int .i64 v]⟩ H K := by
  apply den_heap_Heap_Make
  unfold B_heap_Heap_Make
  obtain ⟨x, M, g1, hp, ho, back⟩ := heapTake h hi
  have vv := heapV g1
  have hself : ∀ a b, hMake s r v = (a, b, s) → K (.tuple #[.int .u64 a, .int .i64 b]) H := fun a b e => by
    have hK := hK H
    rw [e, List.set_self hi] at hK
    exact hK h
  refine fields_ok ?_
  simp only [asI_mk', asB_mk, asP_mk, asA_mk, asM_mk, asSl_mk, asStr_mk, tup2_mk, tup3_mk, agg1_mk, agg2_mk, agg3_mk, agg4_mk, asAggm, unCons_mk, unNil_mk, asTup_mk, extractD0, extractD1, List.toList_toArray, nilP_mk, add_mk, Nat.zero_add, Nat.add_zero, condT, condF, Bool.not_true, Bool.not_false, Option.isNone_some, Option.isNone_none]
  by_cases h1 : 0 ≤ r ∧ r ≤ 7
  rotate_left
  · rw [decide_eq_false h1]
    simp only [asI_mk', asB_mk, asP_mk, asA_mk, asM_mk, asSl_mk, asStr_mk, tup2_mk, tup3_mk, agg1_mk, agg2_mk, agg3_mk, agg4_mk, asAggm, unCons_mk, unNil_mk, asTup_mk, extractD0, extractD1, List.toList_toArray, nilP_mk, add_mk, Nat.zero_add, Nat.add_zero, condT, condF, Bool.not_true, Bool.not_false, Option.isNone_some, Option.isNone_none]
    exact hself 0 1 (by unfold hMake; rw [if_pos (by omega)])
  rw [decide_eq_true h1]
  simp only [asI_mk', asB_mk, asP_mk, asA_mk, asM_mk, asSl_mk, asStr_mk, tup2_mk, tup3_mk, agg1_mk, agg2_mk, agg3_mk, agg4_mk, asAggm, unCons_mk, unNil_mk, asTup_mk, extractD0, extractD1, List.toList_toArray, nilP_mk, add_mk, Nat.zero_add, Nat.add_zero, condT, condF, Bool.not_true, Bool.not_false, Option.isNone_some, Option.isNone_none]
  refine fields_ok ?_
  simp only [asI_mk', asB_mk, asP_mk, asA_mk, asM_mk, asSl_mk, asStr_mk, tup2_mk, tup3_mk, agg1_mk, agg2_mk, agg3_mk, agg4_mk, asAggm, unCons_mk, unNil_mk, asTup_mk, extractD0, extractD1, List.toList_toArray, nilP_mk, add_mk, Nat.zero_add, Nat.add_zero, condT, condF, Bool.not_true, Bool.not_false, Option.isNone_some, Option.isNone_none]
  by_cases h2 : 0 ≤ v ∧ v ≤ 7
  rotate_left
  · rw [decide_eq_false h2]
    simp only [asI_mk', asB_mk, asP_mk, asA_mk, asM_mk, asSl_mk, asStr_mk, tup2_mk, tup3_mk, agg1_mk, agg2_mk, agg3_mk, agg4_mk, asAggm, unCons_mk, unNil_mk, asTup_mk, extractD0, extractD1, List.toList_toArray, nilP_mk, add_mk, Nat.zero_add, Nat.add_zero, condT, condF, Bool.not_true, Bool.not_false, Option.isNone_some, Option.isNone_none]
    exact hself 0 1 (by unfold hMake; rw [if_pos (by omega)])
  rw [decide_eq_true h2]
  simp only [asI_mk', asB_mk, asP_mk, asA_mk, asM_mk, asSl_mk, asStr_mk, tup2_mk, tup3_mk, agg1_mk, agg2_mk, agg3_mk, agg4_mk, asAggm, unCons_mk, unNil_mk, asTup_mk, extractD0, extractD1, List.toList_toArray, nilP_mk, add_mk, Nat.zero_add, Nat.add_zero, condT, condF, Bool.not_true, Bool.not_false, Option.isNone_some, Option.isNone_none]
  have n1 : ¬ (r < 0 ∨ 7 < r ∨ v < 0 ∨ 7 < v) := by omega
  refine ldM_of vv.mp (g1.mlen (i := 2) (l := hpMap x.ps) rfl hp_map_ok ?_)
  simp only [asI_mk', asB_mk, asP_mk, asA_mk, asM_mk, asSl_mk, asStr_mk, tup2_mk, tup3_mk, agg1_mk, agg2_mk, agg3_mk, agg4_mk, asAggm, unCons_mk, unNil_mk, asTup_mk, extractD0, extractD1, List.toList_toArray, nilP_mk, add_mk, Nat.zero_add, Nat.add_zero, condT, condF, Bool.not_true, Bool.not_false, Option.isNone_some, Option.isNone_none]
  rw [hpMap_len hp]
  refine ldI_of vv.most ?_
  by_cases h3 : (s.obs.length : Int) ≥ s.most
  · exact bif_pos h3 (hself 0 6 (by unfold hMake; rw [if_neg n1, if_pos h3]))
  refine bif_neg h3 (ldI_of vv.last ?_)
  by_cases h4 : s.last = 72057594037927935
  · exact bif_eq h4 (hself 0 7 (by unfold hMake; rw [if_neg n1, if_neg h3, if_pos h4]))
  refine bif_ne h4 (ldP_of vv.ar ?_)
  have w1 : IntKind.i64.wrap (1 + r) = 1 + r := wrap_i64 (by omega) (by omega)
  have w2 : IntKind.i64.wrap (1 + r + v) = 1 + r + v := wrap_i64 (by omega) (by omega)
  rw [w1, w2]
  refine sAlloc g1 (i := 1) rfl ho.ar fun H2 g2 => ?_
  simp only [asI_mk', asB_mk, asP_mk, asA_mk, asM_mk, asSl_mk, asStr_mk, tup2_mk, tup3_mk, agg1_mk, agg2_mk, agg3_mk, agg4_mk, asAggm, unCons_mk, unNil_mk, asTup_mk, extractD0, extractD1, List.toList_toArray, nilP_mk, add_mk, Nat.zero_add, Nat.add_zero, condT, condF, Bool.not_true, Bool.not_false, Option.isNone_some, Option.isNone_none]
  by_cases h5 : (arAlloc s.ar (1 + r + v)).2.1 = 0
  rotate_left
  · refine bif_neq h5 ?_
    have e : hMake s r v = (0, (arAlloc s.ar (1 + r + v)).2.1, s) := by unfold hMake; rw [if_neg n1, if_neg h3, if_neg h4, if_pos h5]
    have hK := hK H2
    rw [e] at hK
    rw [arAlloc_fail h5] at g2
    exact hK (back s x H2 g2)
  refine bif_neqf h5 ?_
  have hlast := ho.last
  have w3 : IntKind.u64.wrap (s.last + 1) = s.last + 1 := wrap_u64' (by omega) (by omega)
  refine ldI_of (g2.cell (i := 0) (o := 2) rfl rfl) ?_
  rw [w3]
  refine g2.put (i := 0) rfl (by simp) fun H3 g3 => ?_
  have e : hMake s r v = (s.last + 1, 0, { s with last := s.last + 1, ar := (arAlloc s.ar (1 + r + v)).2.2, obs := s.obs ++ [⟨s.last + 1, (arAlloc s.ar (1 + r + v)).1, List.replicate r.toNat noId, List.replicate v.toNat 0, 0⟩] }) := by unfold hMake; rw [if_neg n1, if_neg h3, if_neg h4, if_neg (by simpa using h5)]
  have hok := ho.make r v
  rw [e] at hok hK
  generalize hs' : ({ s with last := s.last + 1, ar := (arAlloc s.ar (1 + r + v)).2.2, obs := s.obs ++ [⟨s.last + 1, (arAlloc s.ar (1 + r + v)).1, List.replicate r.toNat noId, List.replicate v.toNat 0, 0⟩] } : Hs) = s' at hK hok
  simp only at hK hok
  intro R30 hR30
  have hR30 : ∀ x' H', St H0 (heapParts hb s' x' ++ M) H' → R30 H' := fun x' H' h' => by
    refine hR30 H' (ldI_of (h'.cell (i := 0) (o := 2) rfl rfl) ?_)
    rw [show s'.last = s.last + 1 by rw [← hs']]
    exact hK H' (back s' x' H' h')
  have fin : ∀ (b : Nat) (pR pV : Option Addr) H', St H0 (Prt.one b (.cells #[.int .i64 (arAlloc s.ar (1 + r + v)).1, .slice pR r.toNat r.toNat, .slice pV v.toNat v.toNat, .int .i64 0] ty_heap_thing (0, 0)) :: Prt.row 2 pR r.toNat r.toNat (cel Id.cells (List.replicate r.toNat noId)) ::
      Prt.row 1 pV v.toNat v.toNat (List.replicate v.toNat (Value.int .u64 0)) :: Prt.one hb (.cells #[.int .i64 s.node, .int .i64 s.most, .int .u64 (s.last + 1), ptrV x.a, .map (some x.m)] x.T (0, 0)) :: Arn x.a (arAlloc s.ar (1 + r + v)).2.2 ::
      Prt.mp x.m (ments (Value.int .u64) ptrV (mput (hpMap x.ps) (s.last + 1) b)) :: Prt.list (x.ps.map fun p => ThingP p.2 p.1) :: Prt.pure (x.ps.map (·.1) = s.obs ∧ s.ok) :: M) H' → R30 H' := fun b pR pV H' h' => by
    obtain ⟨o, ho'⟩ : ∃ o : Ob, o = ⟨s.last + 1, (arAlloc s.ar (1 + r + v)).1, List.replicate r.toNat noId, List.replicate v.toNat 0, 0⟩ := ⟨_, rfl⟩
    rw [hpMap_push (o := o) hp ho (by rw [ho'])] at h'
    have t1 : St H0 (thingParts b o (pR, r.toNat, pV, v.toNat, ty_heap_thing) ++ (Prt.one hb (.cells #[.int .i64 s.node, .int .i64 s.most, .int .u64 (s.last + 1), ptrV x.a, .map (some x.m)] x.T (0, 0)) :: Arn x.a (arAlloc s.ar (1 + r + v)).2.2 ::
      Prt.mp x.m (ments (Value.int .u64) ptrV (hpMap (x.ps ++ [(o, b)]))) :: Prt.list (x.ps.map fun p => ThingP p.2 p.1) :: Prt.pure (x.ps.map (·.1) = s.obs ∧ s.ok) :: M)) H' := by
      subst ho'
      unfold thingParts
      simp only [List.length_replicate, List.map_replicate]
      exact h'
    have t2 := (t1.gatherEx (M := thingParts b o) _).push (i := 3) (M := x.ps.map fun p => ThingP p.2 p.1) rfl
    have t3 := t2.refact (i := 4) (q := (x.ps ++ [(o, b)]).map (·.1) = s'.obs ∧ s'.ok) rfl ⟨by rw [List.map_append, hp, ← hs', ho']; rfl, hok⟩
    refine hR30 { x with ps := x.ps ++ [(o, b)] } H' ?_
    unfold heapParts
    rw [List.map_append, ← hs']
    rw [← hs'] at t3
    exact t3
  have c2 := g3.cell (i := 0) (o := 2) rfl rfl
  have c4 := g3.cell (i := 0) (o := 4) rfl rfl
  have e47 : (2 : Int) ^ 47 = 140737488355328 := by decide
  have e62 : (2 : Int) ^ 62 = 4611686018427387904 := by decide
  refine ldM_of c4 (ldI_of c2 ⟨?_, ?_⟩)
  · refine makeK Id.len noId tu_ty_Sapi_ID ti_ty_api_ID rfl (by decide) h1.1 (by omega) (by omega) fun pR H4 o4 k4 => ?_
    simp only [asI_mk', asB_mk, asP_mk, asA_mk, asM_mk, asSl_mk, asStr_mk, tup2_mk, tup3_mk, agg1_mk, agg2_mk, agg3_mk, agg4_mk, asAggm, unCons_mk, unNil_mk, asTup_mk, extractD0, extractD1, List.toList_toArray, nilP_mk, add_mk, Nat.zero_add, Nat.add_zero, condT, condF, Bool.not_true, Bool.not_false, Option.isNone_some, Option.isNone_none]
    have g4 := g3.row o4 k4
    refine ⟨ldI_of (g4.cell (i := 1) (o := 2) rfl rfl) rfl, ldM_of (g4.cell (i := 1) (o := 4) rfl rfl) rfl, ?_⟩
    refine mko_ty_Suint64 h2.1 (by omega) (by omega) fun pV H5 o5 k5 => ?_
    simp only [asI_mk', asB_mk, asP_mk, asA_mk, asM_mk, asSl_mk, asStr_mk, tup2_mk, tup3_mk, agg1_mk, agg2_mk, agg3_mk, agg4_mk, asAggm, unCons_mk, unNil_mk, asTup_mk, extractD0, extractD1, List.toList_toArray, nilP_mk, add_mk, Nat.zero_add, Nat.add_zero, condT, condF, Bool.not_true, Bool.not_false, Option.isNone_some, Option.isNone_none]
    have g5 := g4.row o5 k5
    refine ⟨ldI_of (g5.cell (i := 2) (o := 2) rfl rfl) rfl, ldM_of (g5.cell (i := 2) (o := 4) rfl rfl) rfl, ?_⟩
    intro b hb'
    have g6 := g5.alloc (o := .cells #[.int .i64 (arAlloc s.ar (1 + r + v)).1, .slice pR r.toNat r.toNat, .slice pV v.toNat v.toNat, .int .i64 0] ty_heap_thing) hb'
    refine ⟨ldI_of (g6.cell (i := 3) (o := 2) rfl rfl) rfl, ldM_of (g6.cell (i := 3) (o := 4) rfl rfl) rfl, ?_⟩
    refine g6.mupd (i := 5) (l := hpMap x.ps) (f := ptrV) rfl hp_key hp_map_ok (hpMap_nod hp ho) (s.last + 1) b rfl fun H7 g7 => ?_
    exact fin b pR pV H7 (g7.pick 3 [0, 2, 1] rfl rfl)
  · refine mko_ty_Suint64 h2.1 (by omega) (by omega) fun pV H4 o4 k4 => ?_
    simp only [asI_mk', asB_mk, asP_mk, asA_mk, asM_mk, asSl_mk, asStr_mk, tup2_mk, tup3_mk, agg1_mk, agg2_mk, agg3_mk, agg4_mk, asAggm, unCons_mk, unNil_mk, asTup_mk, extractD0, extractD1, List.toList_toArray, nilP_mk, add_mk, Nat.zero_add, Nat.add_zero, condT, condF, Bool.not_true, Bool.not_false, Option.isNone_some, Option.isNone_none]
    have g4 := g3.row o4 k4
    refine ⟨ldI_of (g4.cell (i := 1) (o := 2) rfl rfl) rfl, ldM_of (g4.cell (i := 1) (o := 4) rfl rfl) rfl, ?_⟩
    refine makeK Id.len noId tu_ty_Sapi_ID ti_ty_api_ID rfl (by decide) h1.1 (by omega) (by omega) fun pR H5 o5 k5 => ?_
    simp only [asI_mk', asB_mk, asP_mk, asA_mk, asM_mk, asSl_mk, asStr_mk, tup2_mk, tup3_mk, agg1_mk, agg2_mk, agg3_mk, agg4_mk, asAggm, unCons_mk, unNil_mk, asTup_mk, extractD0, extractD1, List.toList_toArray, nilP_mk, add_mk, Nat.zero_add, Nat.add_zero, condT, condF, Bool.not_true, Bool.not_false, Option.isNone_some, Option.isNone_none]
    have g5 := g4.row o5 k5
    refine ⟨ldI_of (g5.cell (i := 2) (o := 2) rfl rfl) rfl, ldM_of (g5.cell (i := 2) (o := 4) rfl rfl) rfl, ?_⟩
    intro b hb'
    have g6 := g5.alloc (o := .cells #[.int .i64 (arAlloc s.ar (1 + r + v)).1, .slice pR r.toNat r.toNat, .slice pV v.toNat v.toNat, .int .i64 0] ty_heap_thing) hb'
    refine ⟨ldI_of (g6.cell (i := 3) (o := 2) rfl rfl) rfl, ldM_of (g6.cell (i := 3) (o := 4) rfl rfl) rfl, ?_⟩
    refine g6.mupd (i := 5) (l := hpMap x.ps) (f := ptrV) rfl hp_key hp_map_ok (hpMap_nod hp ho) (s.last + 1) b rfl fun H7 g7 => ?_
    exact fin b pR pV H7 g7

/-! ## Next -/
/-- The least above k so far. -/
def LeastOf (k : Int) (vis : List (Int × Nat)) (least : Int) (ok : Bool) : Prop :=
  (ok = false ∧ least = 0 ∧ ∀ p ∈ vis, ¬ k < p.1) ∨ (ok = true ∧ k < least ∧ (∃ p ∈ vis, p.1 = least) ∧ ∀ p ∈ vis, k < p.1 → least ≤ p.1)

theorem hNext_of {ps : List (Ob × Nat)} {vis : List (Int × Nat)} {k least : Int} {ok : Bool} (hp : ps.map (·.1) = s.obs) (ho : s.ok) (hperm : (hpMap ps).Perm vis) (hl : LeastOf k vis least ok) : hNext s k = (least, ok) := by
  have hmem : ∀ n : Int, (∃ p ∈ vis, p.1 = n) ↔ ∃ o ∈ s.obs, o.ser = n := fun n => by
    constructor
    · rintro ⟨p, hm, rfl⟩
      obtain ⟨q, hq, rfl⟩ := List.mem_map.1 (hperm.mem_iff.2 hm)
      exact ⟨q.1, by rw [← hp]; exact List.mem_map.2 ⟨q, hq, rfl⟩, rfl⟩
    · rintro ⟨o, hm, rfl⟩
      rw [← hp] at hm
      obtain ⟨q, hq, rfl⟩ := List.mem_map.1 hm
      exact ⟨(q.1.ser, q.2), hperm.mem_iff.1 (List.mem_map.2 ⟨q, hq, rfl⟩), rfl⟩
  unfold hNext
  rcases hl with ⟨rfl, rfl, hno⟩ | ⟨rfl, hk, hex, hle⟩
  · have : s.obs.find? (fun o => decide (k < o.ser)) = none := by
      rw [List.find?_eq_none]
      intro o hm
      obtain ⟨p, hp', he⟩ := (hmem o.ser).2 ⟨o, hm, rfl⟩
      have := hno p hp'
      simp
      omega
    rw [this]
  · obtain ⟨o, hm, he⟩ := (hmem least).1 hex
    cases hf : s.obs.find? (fun o => decide (k < o.ser)) with
    | none =>
      rw [List.find?_eq_none] at hf
      have := hf o hm
      simp at this
      omega
    | some o' =>
      have h1 : k < o'.ser := by simpa using List.find?_some hf
      have h2 := List.mem_of_find?_eq_some hf
      obtain ⟨p, hp', he'⟩ := (hmem o'.ser).2 ⟨o', h2, rfl⟩
      have h3 := hle p hp' (by omega)
      have h4 : o'.ser ≤ o.ser := by
        obtain ⟨ys, zs, e1, e2⟩ := List.find?_eq_some_iff_append.1 hf |>.2
        have hr := ho.rise
        rw [e1] at hr hm
        rw [List.pairwise_append] at hr
        rcases List.mem_append.1 hm with hm | hm
        · have := e2 o hm
          simp at this
          omega
        · rcases List.mem_cons.1 hm with rfl | hm
          · omega
          · have := (List.pairwise_cons.1 hr.2.1).1 o hm
            omega
      simp only
      congr 1
      omega

theorem hNextC {k : Int} (h : St H0 L H) (hi : L[i]? = some (HeapP hb s)) (hK : ∀ H', St H0 L H' → K (.tuple #[.int .u64 (hNext s k).1, .bool (hNext s k).2]) H') :
    hcall PR f_heap_Heap_Next ⟨[.pointer (some ⟨hb, 0, none⟩), .int .u64 k]⟩ H K := by
  apply den_heap_Heap_Next
  unfold B_heap_Heap_Next
  obtain ⟨x, M, g1, hp, ho, back⟩ := heapTake h hi
  have vv := heapV g1
  simp only [asI_mk', asB_mk, asP_mk, asA_mk, asM_mk, asSl_mk, asStr_mk, tup2_mk, tup3_mk, agg1_mk, agg2_mk, agg3_mk, agg4_mk, asAggm, unCons_mk, unNil_mk, asTup_mk, extractD0, extractD1, List.toList_toArray, nilP_mk, add_mk, Nat.zero_add, Nat.add_zero, condT, condF, Bool.not_true, Bool.not_false, Option.isNone_some, Option.isNone_none]
  refine ldM_of vv.mp (g1.mrange (i := 2) rfl hp_map_ok fun it H2 g2 => ?_)
  simp only [asI_mk', asB_mk, asP_mk, asA_mk, asM_mk, asSl_mk, asStr_mk, tup2_mk, tup3_mk, agg1_mk, agg2_mk, agg3_mk, agg4_mk, asAggm, unCons_mk, unNil_mk, asTup_mk, extractD0, extractD1, List.toList_toArray, nilP_mk, add_mk, Nat.zero_add, Nat.add_zero, condT, condF, Bool.not_true, Bool.not_false, Option.isNone_some, Option.isNone_none]
  let es := ments (Value.int .u64) ptrV (hpMap x.ps)
  refine ⟨fun least ok H' => ∃ (vis todo : List (Int × Nat)) (cur : Option (Value × Value)), (hpMap x.ps).Perm (vis ++ todo) ∧ LeastOf k vis least ok ∧ St H0 ((heapParts hb s x ++ M).set 2 (Prt.mpit x.m it es (ments (Value.int .u64) ptrV todo) cur)) H',
    fun _ _ H' => leftOf H' x.m it, ⟨[], hpMap x.ps, none, List.Perm.refl _, .inl ⟨rfl, rfl, fun p h => absurd h List.not_mem_nil⟩, g2⟩, ?_⟩
  rintro least ok H3 ⟨vis, todo, cur, hperm, hl, g3⟩
  have hleft := g3.mleft (i := 2) rfl
  intro R13 hR13
  refine g3.mnextT (i := 2) (f := ptrV) rfl (fun e => ?_) fun p A B e H4 g4 => ?_
  · subst e
    rw [List.append_nil] at hperm
    refine nextC_over (hR13 false H3 ?_)
    simp only [asI_mk', asB_mk, asP_mk, asA_mk, asM_mk, asSl_mk, asStr_mk, tup2_mk, tup3_mk, agg1_mk, agg2_mk, agg3_mk, agg4_mk, asAggm, unCons_mk, unNil_mk, asTup_mk, extractD0, extractD1, List.toList_toArray, nilP_mk, add_mk, Nat.zero_add, Nat.add_zero, condT, condF, Bool.not_true, Bool.not_false, Option.isNone_some, Option.isNone_none]
    have hK := hK H3
    rw [hNext_of hp ho hperm hl] at hK
    refine hK ?_
    have g5 := g3.mleave (i := 2) rfl
    have := back s x H3 g5
    rwa [List.set_self hi] at this
  · refine nextC_more (hR13 true H4 ?_)
    simp only [asI_mk', asB_mk, asP_mk, asA_mk, asM_mk, asSl_mk, asStr_mk, tup2_mk, tup3_mk, agg1_mk, agg2_mk, agg3_mk, agg4_mk, asAggm, unCons_mk, unNil_mk, asTup_mk, extractD0, extractD1, List.toList_toArray, nilP_mk, add_mk, Nat.zero_add, Nat.add_zero, condT, condF, Bool.not_true, Bool.not_false, Option.isNone_some, Option.isNone_none]
    have g4 : St H0 ((heapParts hb s x ++ M).set 2 (Prt.mpit x.m it es (ments (Value.int .u64) ptrV (A ++ B)) (some (.int .u64 p.1, ptrV p.2)))) H4 := g4
    refine g4.mentry (i := 2) rfl ?_
    simp only [asI_mk', asB_mk, asP_mk, asA_mk, asM_mk, asSl_mk, asStr_mk, tup2_mk, tup3_mk, agg1_mk, agg2_mk, agg3_mk, agg4_mk, asAggm, unCons_mk, unNil_mk, asTup_mk, extractD0, extractD1, List.toList_toArray, nilP_mk, add_mk, Nat.zero_add, Nat.add_zero, condT, condF, Bool.not_true, Bool.not_false, Option.isNone_some, Option.isNone_none]
    have hleft' := g4.mleft (i := 2) rfl
    have hdec : leftOf H4 x.m it < leftOf H3 x.m it := by
      rw [hleft, hleft', e]
      simp [ments]
    have hperm' : (hpMap x.ps).Perm ((p :: vis) ++ (A ++ B)) := by
      rw [e] at hperm
      refine hperm.trans ?_
      have : (A ++ p :: B).Perm (p :: (A ++ B)) := List.perm_middle
      exact (this.append_left vis).trans List.perm_middle
    have hstep : ∀ l' ok', LeastOf k (p :: vis) l' ok' → (∃ (vis todo : List (Int × Nat)) (cur : Option (Value × Value)), (hpMap x.ps).Perm (vis ++ todo) ∧ LeastOf k vis l' ok' ∧ St H0 ((heapParts hb s x ++ M).set 2 (Prt.mpit x.m it es (ments (Value.int .u64) ptrV todo) cur)) H4) ∧ leftOf H4 x.m it < leftOf H3 x.m it := fun l' ok' hl' => ⟨⟨p :: vis, A ++ B, _, hperm', hl', g4⟩, hdec⟩
    by_cases hgt : p.1 > k
    · refine bif_pos hgt ?_
      rcases hl with ⟨rfl, rfl, hno⟩ | ⟨rfl, hk, hex, hle⟩
      · simp only [asI_mk', asB_mk, asP_mk, asA_mk, asM_mk, asSl_mk, asStr_mk, tup2_mk, tup3_mk, agg1_mk, agg2_mk, agg3_mk, agg4_mk, asAggm, unCons_mk, unNil_mk, asTup_mk, extractD0, extractD1, List.toList_toArray, nilP_mk, add_mk, Nat.zero_add, Nat.add_zero, condT, condF, Bool.not_true, Bool.not_false, Option.isNone_some, Option.isNone_none]
        refine hstep _ _ (.inr ⟨rfl, hgt, ⟨p, by simp, rfl⟩, fun q hq hkq => ?_⟩)
        rcases List.mem_cons.1 hq with rfl | hq
        · omega
        · exact absurd hkq (hno q hq)
      · simp only [asI_mk', asB_mk, asP_mk, asA_mk, asM_mk, asSl_mk, asStr_mk, tup2_mk, tup3_mk, agg1_mk, agg2_mk, agg3_mk, agg4_mk, asAggm, unCons_mk, unNil_mk, asTup_mk, extractD0, extractD1, List.toList_toArray, nilP_mk, add_mk, Nat.zero_add, Nat.add_zero, condT, condF, Bool.not_true, Bool.not_false, Option.isNone_some, Option.isNone_none]
        obtain ⟨q0, hq0, hqe⟩ := hex
        by_cases hlt : p.1 < least
        · refine bif_pos hlt (hstep _ _ (.inr ⟨rfl, hgt, ⟨p, by simp, rfl⟩, fun q hq hkq => ?_⟩))
          rcases List.mem_cons.1 hq with rfl | hq
          · omega
          · have := hle q hq hkq; omega
        · refine bif_neg hlt (hstep _ _ (.inr ⟨rfl, hk, ⟨q0, by simp [hq0], hqe⟩, fun q hq hkq => ?_⟩))
          rcases List.mem_cons.1 hq with rfl | hq
          · omega
          · exact hle q hq hkq
    · refine bif_neg hgt (hstep _ _ ?_)
      rcases hl with ⟨rfl, rfl, hno⟩ | ⟨rfl, hk, ⟨q0, hq0, hqe⟩, hle⟩
      · refine .inl ⟨rfl, rfl, fun q hq => ?_⟩
        rcases List.mem_cons.1 hq with rfl | hq
        · omega
        · exact hno q hq
      · refine .inr ⟨rfl, hk, ⟨q0, by simp [hq0], hqe⟩, fun q hq hkq => ?_⟩
        rcases List.mem_cons.1 hq with rfl | hq
        · omega
        · exact hle q hq hkq

end

end Go.Proofs.Ytohlnmenghbgbaa
