/- Package heap, run: the calls that write. No condition. -/
import Derived.Test.YtohlnmenghbgbaaHpP
import Derived.Test.YtohlnmenghbgbaaDenT
namespace Go.Proofs.Ytohlnmenghbgbaa
set_option linter.unusedSimpArgs false
set_option linter.unusedVariables false
open Go

abbrev TgX := Option Addr × Nat × Option Addr × Nat × Nat
def thingParts (b : Nat) (o : Ob) (x : TgX) : List Prt :=
  [Prt.one b (.cells #[.int .i64 o.cell, .slice x.1 o.refs.length x.2.1, .slice x.2.2.1 o.vals.length x.2.2.2.1, .int .i64 o.din] x.2.2.2.2 (0, 0)),
    Prt.row 2 x.1 o.refs.length x.2.1 (cel Id.cells o.refs), Prt.row 1 x.2.2.1 o.vals.length x.2.2.2.1 (o.vals.map (Value.int .u64))]

section
variable {H0 H : Hp} {L M : List Prt} {i hb j b : Nat} {s : Hs} {x : HpX} {o : Ob} {K : Value → Hp → Prop}

theorem set_map_fst {ps : List (Ob × Nat)} {o' : Ob} (hj : ps[j]? = some (o, b)) : (ps.set j (o', b)).map (·.1) = (ps.map (·.1)).set j o' := by rw [List.map_set]
theorem hpMap_set {ps : List (Ob × Nat)} {o' : Ob} (hj : ps[j]? = some (o, b)) (hs : o'.ser = o.ser) : hpMap (ps.set j (o', b)) = hpMap ps := by
  unfold hpMap
  rw [List.map_set]
  refine List.set_self ?_
  rw [List.getElem?_map, hj, hs]
  rfl
theorem put_obs (hp : x.ps.map (·.1) = s.obs) (ho : s.ok) (hj : x.ps[j]? = some (o, b)) (f : Ob → Ob) : (x.ps.set j (f o, b)).map (·.1) = (hPut s o.ser f).obs := by
  have hjo : s.obs[j]? = some o := by rw [← hp, List.getElem?_map, hj]; rfl
  rw [set_map_fst hj, hp]
  exact (map_if_set ho.rise hjo).symm

theorem thingOpen (h : St H0 (heapParts hb s x ++ M) H) (hj : x.ps[j]? = some (o, b)) :
    ∃ y, St H0 (thingParts b o y ++ (Prt.nil :: (heapParts hb s x ++ M).set 3 (Prt.list ((x.ps.map fun p => ThingP p.2 p.1).set j .nil)))) H := by
  have h1 := h.sub (i := 3) (M := x.ps.map fun p => ThingP p.2 p.1) (k := j) (A := ThingP b o) rfl (by rw [List.getElem?_map, hj]; rfl)
  exact h1.openEx (M := thingParts b o) (i := 0) rfl
theorem thingShut {f : Ob → Ob} {y : TgX} (h : St H0 (thingParts b (f o) y ++ (Prt.nil :: (heapParts hb s x ++ M).set 3 (Prt.list ((x.ps.map fun p => ThingP p.2 p.1).set j .nil)))) H)
    (hp : x.ps.map (·.1) = s.obs) (ho : s.ok) (hj : x.ps[j]? = some (o, b)) (hs : (f o).ser = o.ser) (ho' : (hPut s o.ser f).ok) : St H0 (heapParts hb (hPut s o.ser f) { x with ps := x.ps.set j (f o, b) } ++ M) H := by
  have h1 := (h.gatherEx (M := thingParts b (f o)) y).flip.less
  have hlt := ltOfGet hj
  have h2 := h1.unsub (i := 3) (M := (x.ps.map fun p => ThingP p.2 p.1).set j .nil) (k := j) rfl (by simp [hlt])
  have h3 := h2.refact (i := 4) (q := (x.ps.set j (f o, b)).map (·.1) = (hPut s o.ser f).obs ∧ (hPut s o.ser f).ok) rfl ⟨put_obs hp ho hj f, ho'⟩
  have e : heapParts hb (hPut s o.ser f) { x with ps := x.ps.set j (f o, b) } ++ M = (((heapParts hb s x ++ M).set 3 (Prt.list ((x.ps.map fun p => ThingP p.2 p.1).set j .nil))).set 3 (Prt.list (((x.ps.map fun p => ThingP p.2 p.1).set j .nil).set j (Prt.ex fun y => Prt.list (thingParts b (f o) y))))).set 4 (Prt.pure ((x.ps.set j (f o, b)).map (·.1) = (hPut s o.ser f).obs ∧ (hPut s o.ser f).ok)) := by
    have e1 : hpMap (x.ps.set j (f o, b)) = hpMap x.ps := hpMap_set hj hs
    have e2 : (x.ps.set j (f o, b)).map (fun p => ThingP p.2 p.1) = ((x.ps.map fun p => ThingP p.2 p.1).set j .nil).set j (Prt.ex fun y => Prt.list (thingParts b (f o) y)) := by rw [List.set_set, List.map_set]; rfl
    unfold heapParts
    rw [e1, e2]
    rfl
  rw [e]
  exact h3

theorem hSetRefC {k f : Int} {y : Id} (h : St H0 L H) (hi : L[i]? = some (HeapP hb s)) (hK : ∀ H', St H0 (L.set i (HeapP hb (hSetRef s k f y).2.2)) H' → K (.tuple #[.agg #[.int .i64 (hSetRef s k f y).1.n, .int .u64 (hSetRef s k f y).1.s], .int .i64 (hSetRef s k f y).2.1]) H') :
    hcall PR f_heap_Heap_SetRef ⟨[.pointer (some ⟨hb, 0, none⟩), .int .u64 k, .int .i64 f, .agg #[.int .i64 y.n, .int .u64 y.s]]⟩ H K := by
  apply den_heap_Heap_SetRef
  unfold B_heap_Heap_SetRef
  intro b6 hb6
  have h1 := h.alloc (o := .cells #[.int .i64 y.n, .int .u64 y.s] ty_api_ID) hb6
  intro b8 hb8
  have h2 := h1.alloc (o := .cells #[.int .i64 0, .int .u64 0] ty_api_ID) hb8
  refine ldI_of (h2.cell (i := 1) (o := 0) rfl rfl) (ldI_of (h2.cell (i := 1) (o := 1) rfl rfl) (right_ok h2 fun H3 h3 => ?_))
  simp only [asI_mk', asB_mk, asP_mk, asA_mk, asM_mk, asSl_mk, asStr_mk, tup2_mk, tup3_mk, agg1_mk, agg2_mk, agg3_mk, agg4_mk, asAggm, unCons_mk, unNil_mk, asTup_mk, extractD0, extractD1, List.toList_toArray, nilP_mk, add_mk, Nat.zero_add, Nat.add_zero, condT, condF, Bool.not_true, Bool.not_false, Option.isNone_some, Option.isNone_none]
  cases hx : okId y
  · simp only [asI_mk', asB_mk, asP_mk, asA_mk, asM_mk, asSl_mk, asStr_mk, tup2_mk, tup3_mk, agg1_mk, agg2_mk, agg3_mk, agg4_mk, asAggm, unCons_mk, unNil_mk, asTup_mk, extractD0, extractD1, List.toList_toArray, nilP_mk, add_mk, Nat.zero_add, Nat.add_zero, condT, condF, Bool.not_true, Bool.not_false, Option.isNone_some, Option.isNone_none]
    refine fin2 h3 (i := 0) rfl rfl fun H' h' => ?_
    have hK := hK H'
    simp only [hSetRef, hx, if_true] at hK
    rw [List.set_self hi] at hK
    exact hK h'.less.less
  · simp only [asI_mk', asB_mk, asP_mk, asA_mk, asM_mk, asSl_mk, asStr_mk, tup2_mk, tup3_mk, agg1_mk, agg2_mk, agg3_mk, agg4_mk, asAggm, unCons_mk, unNil_mk, asTup_mk, extractD0, extractD1, List.toList_toArray, nilP_mk, add_mk, Nat.zero_add, Nat.add_zero, condT, condF, Bool.not_true, Bool.not_false, Option.isNone_some, Option.isNone_none]
    refine hRefC h3 (i := i + 2) hi fun H4 h4 => ?_
    simp only [asI_mk', asB_mk, asP_mk, asA_mk, asM_mk, asSl_mk, asStr_mk, tup2_mk, tup3_mk, agg1_mk, agg2_mk, agg3_mk, agg4_mk, asAggm, unCons_mk, unNil_mk, asTup_mk, extractD0, extractD1, List.toList_toArray, nilP_mk, add_mk, Nat.zero_add, Nat.add_zero, condT, condF, Bool.not_true, Bool.not_false, Option.isNone_some, Option.isNone_none]
    intro b28 hb28
    have h5 := h4.alloc (o := .cells #[.int .i64 0, .int .u64 0] ty_api_ID) hb28
    refine h5.put (i := 0) rfl (by simp) fun H6 h6 => ?_
    refine h6.put (i := 0) rfl (by simp) fun H7 h7 => ?_
    have h7 : St H0 (Prt.one b28 (.cells #[.int .i64 (hRef s k f).1.n, .int .u64 (hRef s k f).1.s] ty_api_ID (0, 0)) :: Prt.one b8 (.cells #[.int .i64 0, .int .u64 0] ty_api_ID (0, 0)) :: Prt.one b6 (.cells #[.int .i64 y.n, .int .u64 y.s] ty_api_ID (0, 0)) :: L) H7 := h7
    intro R32 hR32
    have fin : ∀ (s' : Hs) H', s' = (hSetRef s k f y).2.2 → (hSetRef s k f y).1 = (hRef s k f).1 → (hSetRef s k f y).2.1 = (hRef s k f).2 → St H0 (Prt.one b28 (.cells #[.int .i64 (hRef s k f).1.n, .int .u64 (hRef s k f).1.s] ty_api_ID (0, 0)) :: Prt.one b8 (.cells #[.int .i64 0, .int .u64 0] ty_api_ID (0, 0)) :: Prt.one b6 (.cells #[.int .i64 y.n, .int .u64 y.s] ty_api_ID (0, 0)) :: L.set i (HeapP hb s')) H' → R32 H' := fun s' H' e1 e2 e3 h' => by
      refine hR32 H' (ldI_of (h'.cell (i := 0) (o := 0) rfl rfl) (ldI_of (h'.cell (i := 0) (o := 1) rfl rfl) (fin2 h' (i := 1) rfl rfl fun H9 h9 => ?_)))
      have hK := hK H9
      rw [e2, e3] at hK
      subst e1
      exact hK h9.less.less.less
    by_cases he : (hRef s k f).2 = 0
    · refine bif_eq he ?_
      obtain ⟨x, M, g1, hp, ho, back⟩ := heapTake (i := i + 3) h7 hi
      have v := heapV g1
      refine ldM_of v.mp (heapLook g1 hp ho (fun hg => ?_) fun j o bo hj hk hg hjo => ?_)
      · simp [hRef, hg] at he
      · subst hk
        obtain ⟨p, c, q, d, tv⟩ := thingV g1 hj
        obtain ⟨z, t1⟩ := thingOpen g1 hj
        simp only [asI_mk', asB_mk, asP_mk, asA_mk, asM_mk, asSl_mk, asStr_mk, tup2_mk, tup3_mk, agg1_mk, agg2_mk, agg3_mk, agg4_mk, asAggm, unCons_mk, unNil_mk, asTup_mk, extractD0, extractD1, List.toList_toArray, nilP_mk, add_mk, Nat.zero_add, Nat.add_zero, condT, condF, Bool.not_true, Bool.not_false, Option.isNone_some, Option.isNone_none]
        have hf : 0 ≤ f ∧ f < (o.refs.length : Int) := by
          refine Classical.byContradiction fun hn => ?_
          simp [hRef, hg, hn] at he
        have c6 := h7.cell (i := 2) (o := 0) rfl rfl
        have c6' := h7.cell (i := 2) (o := 1) rfl rfl
        refine ldSl_of (t1.cell (i := 0) (o := 1) rfl rfl) (ldI_of c6 (ldI_of c6' (idxS Id.len noId (t1.row_rd (i := 1) rfl) (by omega) hf.1 hf.2 fun b' o' hpp hlt hcc => ?_)))
        refine t1.poke (i := 1) rfl hpp (by have := Nat.mul_le_mul_right 2 (show f.toNat + 1 ≤ o.refs.length by omega); omega) fun H8 t2 => ?_
        simp only [asI_mk', asB_mk, asP_mk, asA_mk, asM_mk, asSl_mk, asStr_mk, tup2_mk, tup3_mk, agg1_mk, agg2_mk, agg3_mk, agg4_mk, asAggm, unCons_mk, unNil_mk, asTup_mk, extractD0, extractD1, List.toList_toArray, nilP_mk, add_mk, Nat.zero_add, Nat.add_zero, condT, condF, Bool.not_true, Bool.not_false, Option.isNone_some, Option.isNone_none]
        rw [Nat.add_assoc]
        refine t2.poke (i := 1) rfl hpp (by have := Nat.mul_le_mul_right 2 (show f.toNat + 1 ≤ o.refs.length by omega); omega) fun H9 t3 => ?_
        have e1 : ((cel Id.cells o.refs).set (f.toNat * 2) (.int .i64 y.n)).set (f.toNat * 2 + 1) (.int .u64 y.s) = cel Id.cells (o.refs.set f.toNat y) := cel_set2 Id.len noId hlt rfl
        have t4 : St H0 (thingParts bo { o with refs := o.refs.set f.toNat y } z ++ (Prt.nil :: (heapParts hb s x ++ M).set 3 (Prt.list ((x.ps.map fun p => ThingP p.2 p.1).set j .nil)))) H9 := by
          unfold thingParts
          simp only [List.length_set]
          rw [← e1]
          exact t3
        have hs : hSetRef s o.ser f y = ((hRef s o.ser f).1, 0, hPut s o.ser fun o => { o with refs := o.refs.set f.toNat y }) := by simp [hSetRef, hx, he]
        have t5 := thingShut (f := fun o => { o with refs := o.refs.set f.toNat y }) t4 hp ho hj rfl (by have := ho.setRef o.ser f y; rw [hs] at this; exact this)
        refine fin _ H9 (by rw [hs]) (by rw [hs]) (by rw [hs, he]) ?_
        exact back _ _ _ t5
    · refine bif_ne he (fin s H7 ?_ ?_ ?_ ?_)
      · simp [hSetRef, hx, he]
      · simp [hSetRef, hx, he]
      · simp [hSetRef, hx, he]
      · rw [List.set_self hi]; exact h7

theorem hSetValC {k f v : Int} (h : St H0 L H) (hi : L[i]? = some (HeapP hb s)) (hK : ∀ H', St H0 (L.set i (HeapP hb (hSetVal s k f v).2)) H' → K (.int .i64 (hSetVal s k f v).1) H') :
    hcall PR f_heap_Heap_SetVal ⟨[.pointer (some ⟨hb, 0, none⟩), .int .u64 k, .int .i64 f, .int .u64 v]⟩ H K := by
  apply den_heap_Heap_SetVal
  unfold B_heap_Heap_SetVal
  refine hValC h hi ?_
  simp only [asI_mk', asB_mk, asP_mk, asA_mk, asM_mk, asSl_mk, asStr_mk, tup2_mk, tup3_mk, agg1_mk, agg2_mk, agg3_mk, agg4_mk, asAggm, unCons_mk, unNil_mk, asTup_mk, extractD0, extractD1, List.toList_toArray, nilP_mk, add_mk, Nat.zero_add, Nat.add_zero, condT, condF, Bool.not_true, Bool.not_false, Option.isNone_some, Option.isNone_none]
  by_cases he : (hVal s k f).2 = 0
  · refine bif_eq he ?_
    obtain ⟨x, g1, hp, ho⟩ := heapOpen h hi
    have v' := heapV g1
    refine ldM_of v'.mp (heapLook g1 hp ho (fun hg => ?_) fun j o bo hj hk hg hjo => ?_)
    · simp [hVal, hg] at he
    · subst hk
      obtain ⟨z, t1⟩ := thingOpen g1 hj
      simp only [asI_mk', asB_mk, asP_mk, asA_mk, asM_mk, asSl_mk, asStr_mk, tup2_mk, tup3_mk, agg1_mk, agg2_mk, agg3_mk, agg4_mk, asAggm, unCons_mk, unNil_mk, asTup_mk, extractD0, extractD1, List.toList_toArray, nilP_mk, add_mk, Nat.zero_add, Nat.add_zero, condT, condF, Bool.not_true, Bool.not_false, Option.isNone_some, Option.isNone_none]
      have hf : 0 ≤ f ∧ f < (o.vals.length : Int) := by
        refine Classical.byContradiction fun hn => ?_
        simp [hVal, hg, hn] at he
      refine ldSl_of (t1.cell (i := 0) (o := 2) rfl rfl) (idx1 (d := 0) (t1.row_rd (i := 2) rfl) hf.1 hf.2 fun b' o' hpp hcc => ?_)
      refine t1.poke (i := 2) rfl hpp (by omega) fun H9 t3 => ?_
      have t4 : St H0 (thingParts bo { o with vals := o.vals.set f.toNat v } z ++ (Prt.nil :: (heapParts hb s x ++ L.set i .nil).set 3 (Prt.list ((x.ps.map fun p => ThingP p.2 p.1).set j .nil)))) H9 := by
        unfold thingParts
        simp only [List.length_set, List.map_set]
        exact t3
      have hs : hSetVal s o.ser f v = (0, hPut s o.ser fun o => { o with vals := o.vals.set f.toNat v }) := by simp [hSetVal, he]
      have t5 := thingShut (f := fun o => { o with vals := o.vals.set f.toNat v }) t4 hp ho hj rfl (by have := ho.setVal o.ser f v; rw [hs] at this; exact this)
      have hK := hK H9
      rw [hs] at hK
      rw [he]
      exact hK (heapShut t5 hi)
  · refine bif_ne he ?_
    have hK := hK H
    have hs : hSetVal s k f v = ((hVal s k f).2, s) := by simp [hSetVal, he]
    rw [hs, List.set_self hi] at hK
    exact hK h

theorem hSetInC {k d : Int} (h : St H0 L H) (hi : L[i]? = some (HeapP hb s)) (hK : ∀ H', St H0 (L.set i (HeapP hb (hSetIn s k d).2)) H' → K (.int .i64 (hSetIn s k d).1) H') :
    hcall PR f_heap_Heap_SetIn ⟨[.pointer (some ⟨hb, 0, none⟩), .int .u64 k, .int .i64 d]⟩ H K := by
  apply den_heap_Heap_SetIn
  unfold B_heap_Heap_SetIn
  by_cases h0 : d < 0
  · refine bif_pos h0 ?_
    have hK := hK H
    rw [show hSetIn s k d = (1, s) by simp [hSetIn, h0], List.set_self hi] at hK
    exact hK h
  by_cases h1 : d > 40
  · refine bif_neg h0 (bif_pos h1 ?_)
    have hK := hK H
    rw [show hSetIn s k d = (1, s) by unfold hSetIn; rw [if_pos (by omega)], List.set_self hi] at hK
    exact hK h
  refine bif_neg h0 (bif_neg h1 ?_)
  have hd : ¬ (d < 0 ∨ 40 < d) := by omega
  obtain ⟨x, g1, hp, ho⟩ := heapOpen h hi
  have v' := heapV g1
  simp only [asI_mk', asB_mk, asP_mk, asA_mk, asM_mk, asSl_mk, asStr_mk, tup2_mk, tup3_mk, agg1_mk, agg2_mk, agg3_mk, agg4_mk, asAggm, unCons_mk, unNil_mk, asTup_mk, extractD0, extractD1, List.toList_toArray, nilP_mk, add_mk, Nat.zero_add, Nat.add_zero, condT, condF, Bool.not_true, Bool.not_false, Option.isNone_some, Option.isNone_none]
  refine ldM_of v'.mp (heapLook g1 hp ho (fun hg => ?_) fun j o bo hj hk hg hjo => ?_)
  · simp only [asI_mk', asB_mk, asP_mk, asA_mk, asM_mk, asSl_mk, asStr_mk, tup2_mk, tup3_mk, agg1_mk, agg2_mk, agg3_mk, agg4_mk, asAggm, unCons_mk, unNil_mk, asTup_mk, extractD0, extractD1, List.toList_toArray, nilP_mk, add_mk, Nat.zero_add, Nat.add_zero, condT, condF, Bool.not_true, Bool.not_false, Option.isNone_some, Option.isNone_none]
    have hK := hK H
    rw [show hSetIn s k d = (5, s) by simp only [hSetIn, if_neg hd, hg], List.set_self hi] at hK
    exact hK h
  · subst hk
    obtain ⟨z, t1⟩ := thingOpen g1 hj
    simp only [asI_mk', asB_mk, asP_mk, asA_mk, asM_mk, asSl_mk, asStr_mk, tup2_mk, tup3_mk, agg1_mk, agg2_mk, agg3_mk, agg4_mk, asAggm, unCons_mk, unNil_mk, asTup_mk, extractD0, extractD1, List.toList_toArray, nilP_mk, add_mk, Nat.zero_add, Nat.add_zero, condT, condF, Bool.not_true, Bool.not_false, Option.isNone_some, Option.isNone_none]
    refine t1.put (i := 0) rfl (by simp) fun H9 t3 => ?_
    have hs : hSetIn s o.ser d = (0, hPut s o.ser fun o => { o with din := d }) := by simp only [hSetIn, if_neg hd, hg]
    have t5 := thingShut (f := fun o => { o with din := d }) (y := z) t3 hp ho hj rfl (by have := ho.setIn o.ser d; rw [hs] at this; exact this)
    have hK := hK H9
    rw [hs] at hK
    exact hK (heapShut t5 hi)

theorem hFreeC {k : Int} (h : St H0 L H) (hi : L[i]? = some (HeapP hb s)) (hK : ∀ H', St H0 (L.set i (HeapP hb (hFree s k).2)) H' → K (.int .i64 (hFree s k).1) H') :
    hcall PR f_heap_Heap_Free ⟨[.pointer (some ⟨hb, 0, none⟩), .int .u64 k]⟩ H K := by
  apply den_heap_Heap_Free
  unfold B_heap_Heap_Free
  obtain ⟨x, g1, hp, ho⟩ := heapOpen h hi
  have v' := heapV g1
  simp only [asI_mk', asB_mk, asP_mk, asA_mk, asM_mk, asSl_mk, asStr_mk, tup2_mk, tup3_mk, agg1_mk, agg2_mk, agg3_mk, agg4_mk, asAggm, unCons_mk, unNil_mk, asTup_mk, extractD0, extractD1, List.toList_toArray, nilP_mk, add_mk, Nat.zero_add, Nat.add_zero, condT, condF, Bool.not_true, Bool.not_false, Option.isNone_some, Option.isNone_none]
  refine ldM_of v'.mp (heapLook g1 hp ho (fun hg => ?_) fun j o bo hj hk hg hjo => ?_)
  · simp only [asI_mk', asB_mk, asP_mk, asA_mk, asM_mk, asSl_mk, asStr_mk, tup2_mk, tup3_mk, agg1_mk, agg2_mk, agg3_mk, agg4_mk, asAggm, unCons_mk, unNil_mk, asTup_mk, extractD0, extractD1, List.toList_toArray, nilP_mk, add_mk, Nat.zero_add, Nat.add_zero, condT, condF, Bool.not_true, Bool.not_false, Option.isNone_some, Option.isNone_none]
    have hK := hK H
    rw [show hFree s k = (5, s) by simp only [hFree, hg], List.set_self hi] at hK
    exact hK h
  · subst hk
    obtain ⟨p, c, q, d, tv⟩ := thingV g1 hj
    simp only [asI_mk', asB_mk, asP_mk, asA_mk, asM_mk, asSl_mk, asStr_mk, tup2_mk, tup3_mk, agg1_mk, agg2_mk, agg3_mk, agg4_mk, asAggm, unCons_mk, unNil_mk, asTup_mk, extractD0, extractD1, List.toList_toArray, nilP_mk, add_mk, Nat.zero_add, Nat.add_zero, condT, condF, Bool.not_true, Bool.not_false, Option.isNone_some, Option.isNone_none]
    refine ldP_of v'.ar (ldI_of tv.cell (sFree g1 (i := 1) rfl ho.ar fun H2 h2 => ?_))
    simp only [asI_mk', asB_mk, asP_mk, asA_mk, asM_mk, asSl_mk, asStr_mk, tup2_mk, tup3_mk, agg1_mk, agg2_mk, agg3_mk, agg4_mk, asAggm, unCons_mk, unNil_mk, asTup_mk, extractD0, extractD1, List.toList_toArray, nilP_mk, add_mk, Nat.zero_add, Nat.add_zero, condT, condF, Bool.not_true, Bool.not_false, Option.isNone_some, Option.isNone_none]
    have hK := hK
    have hs : hFree s o.ser = (0, { s with ar := (arFree s.ar o.cell).2, obs := s.obs.filter fun x => !decide (x.ser = o.ser) }) := by simp only [hFree, hg]
    have hdel : mdel (hpMap x.ps) o.ser = hpMap (x.ps.eraseIdx j) := by
      have := mdel_erase (hpMap_nod hp ho) (j := j) (p := (o.ser, bo)) (by simp [hpMap, hj])
      rw [this]
      unfold hpMap
      rw [map_eraseIdx']
    refine ldM_of (h2.cell (i := 0) (o := 4) rfl rfl) (h2.mdelete (i := 2) (l := hpMap x.ps) rfl hp_key hp_map_ok (hpMap_nod hp ho) o.ser fun H3 h3 => ?_)
    have h4 := h3.erase (i := 3) (M := x.ps.map fun p => ThingP p.2 p.1) (k := j) (A := ThingP bo o) rfl (by rw [List.getElem?_map, hj]; rfl)
    have hps : (x.ps.eraseIdx j).map (·.1) = s.obs.filter fun x => !decide (x.ser = o.ser) := by
      rw [filter_erase ho.rise hjo, map_eraseIdx', hp]
    have h5 := h4.refact (i := 4) (q := (x.ps.eraseIdx j).map (·.1) = (hFree s o.ser).2.obs ∧ (hFree s o.ser).2.ok) rfl ⟨by rw [hs]; exact hps, ho.free _⟩
    have hK := hK H3
    rw [hs] at hK h5
    refine hK (heapShut (x := { x with ps := x.ps.eraseIdx j }) ?_ hi)
    unfold heapParts
    rw [← hdel, map_eraseIdx']
    exact h5

end

end Go.Proofs.Ytohlnmenghbgbaa
