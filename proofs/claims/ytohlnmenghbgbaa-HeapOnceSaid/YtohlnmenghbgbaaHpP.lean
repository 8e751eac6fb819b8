/- Package heap, run. No condition. -/
import Derived.Test.YtohlnmenghbgbaaHpS
import Derived.Test.YtohlnmenghbgbaaDenHeap
namespace Go.Proofs.Ytohlnmenghbgbaa
set_option linter.unusedSimpArgs false
set_option linter.unusedVariables false
open Go

/-- An object, as it stands. -/
def ThingP (b : Nat) (o : Ob) : Prt := Prt.ex fun (x : Option Addr × Nat × Option Addr × Nat × Nat) =>
  Prt.list [Prt.one b (.cells #[.int .i64 o.cell, .slice x.1 o.refs.length x.2.1, .slice x.2.2.1 o.vals.length x.2.2.2.1, .int .i64 o.din] x.2.2.2.2 (0, 0)),
    Prt.row 2 x.1 o.refs.length x.2.1 (cel Id.cells o.refs), Prt.row 1 x.2.2.1 o.vals.length x.2.2.2.1 (o.vals.map (Value.int .u64))]

def ptrV (b : Nat) : Value := .pointer (some ⟨b, 0, none⟩)

structure HpX where
  a : Nat
  m : Nat
  ps : List (Ob × Nat)
  T : Nat
def hpMap (ps : List (Ob × Nat)) : List (Int × Nat) := ps.map fun p => (p.1.ser, p.2)
def heapParts (h : Nat) (s : Hs) (x : HpX) : List Prt :=
  [Prt.one h (.cells #[.int .i64 s.node, .int .i64 s.most, .int .u64 s.last, ptrV x.a, .map (some x.m)] x.T (0, 0)), Arn x.a s.ar, Prt.mp x.m (ments (Value.int .u64) ptrV (hpMap x.ps)),
    Prt.list (x.ps.map fun p => ThingP p.2 p.1), Prt.pure (x.ps.map (·.1) = s.obs ∧ s.ok)]
/-- A heap, as it stands. -/
def HeapP (h : Nat) (s : Hs) : Prt := Prt.ex fun x => Prt.list (heapParts h s x)

theorem hp_map_ok : PR.underlying ty_map_uint64_pheap_thing = some (.map ty_uint64 ty_pheap_thing) := by kernel_rfl
theorem hp_key : KeyK PR ty_uint64 (Value.int .u64) := KeyK.int (by kernel_rfl)
theorem hp_zero : ((PR.info? ty_pheap_thing).bind (·.zero)) = some (.pointer none) := by kernel_rfl

theorem hpMap_nod {ps : List (Ob × Nat)} {s : Hs} (h : ps.map (·.1) = s.obs) (ho : s.ok) : mnod (hpMap ps) := by
  unfold mnod hpMap
  rw [List.map_map]
  have : (ps.map ((·.1) ∘ fun p : Ob × Nat => (p.1.ser, p.2))) = s.obs.map (·.ser) := by rw [← h, List.map_map]; rfl
  rw [this]
  have := ho.rise
  rw [List.Nodup, List.pairwise_map]
  exact this.imp fun h e => by omega
/-- A serial's place. -/
theorem hpMap_place {ps : List (Ob × Nat)} {s : Hs} (h : ps.map (·.1) = s.obs) (ho : s.ok) (k : Int) :
    (hGet s k = none ∧ mlook (hpMap ps) k = none) ∨ ∃ (j : Nat) (o : Ob) (b : Nat), ps[j]? = some (o, b) ∧ o.ser = k ∧ hGet s k = some o ∧ mlook (hpMap ps) k = some b ∧ s.obs[j]? = some o := by
  rcases hGet_place ho k with ⟨h1, h2⟩ | ⟨j, o, hj, rfl, hg⟩
  · refine .inl ⟨h1, mlook_none.2 fun p hp => ?_⟩
    obtain ⟨q, hq, rfl⟩ := List.mem_map.1 hp
    exact h2 q.1 (by rw [← h]; exact List.mem_map.2 ⟨q, hq, rfl⟩)
  · have hj' := hj
    rw [← h, List.getElem?_map, Option.map_eq_some_iff] at hj'
    obtain ⟨⟨o', b⟩, hp, rfl⟩ := hj'
    exact .inr ⟨j, o', b, hp, rfl, hg, mlook_of (hpMap_nod h ho) (List.mem_map.2 ⟨_, List.mem_of_getElem? hp, rfl⟩), hj⟩

section
variable {H0 H : Hp} {L : List Prt} {i hb : Nat} {s : Hs} {K : Value → Hp → Prop}

theorem heapOpen (h : St H0 L H) (hi : L[i]? = some (HeapP hb s)) : ∃ x, St H0 (heapParts hb s x ++ L.set i .nil) H ∧ x.ps.map (·.1) = s.obs ∧ s.ok := by
  obtain ⟨x, h1⟩ := h.openEx hi
  have := h1.fact (i := 4) (p := x.ps.map (·.1) = s.obs ∧ s.ok) rfl
  exact ⟨x, h1, this.1, this.2⟩
theorem heapShut {A : Prt} {s' : Hs} {x : HpX} (h : St H0 (heapParts hb s' x ++ L.set i .nil) H) (hi : L[i]? = some A) : St H0 (L.set i (HeapP hb s')) H := h.shutEx (M := heapParts hb s') x hi
/-- Opened, with the way back. -/
theorem heapTake (h : St H0 L H) (hi : L[i]? = some (HeapP hb s)) : ∃ x M, St H0 (heapParts hb s x ++ M) H ∧ x.ps.map (·.1) = s.obs ∧ s.ok ∧ ∀ s' x' H', St H0 (heapParts hb s' x' ++ M) H' → St H0 (L.set i (HeapP hb s')) H' := by
  obtain ⟨x, h1, h2, h3⟩ := heapOpen h hi
  exact ⟨x, _, h1, h2, h3, fun s' x' H' h' => heapShut h' hi⟩
theorem heap_ok (h : St H0 L H) (hi : L[i]? = some (HeapP hb s)) : s.ok := let ⟨_, _, _, h⟩ := heapOpen h hi; h

/-- What one reads of it. -/
structure HeapV (H : Hp) (hb : Nat) (s : Hs) (x : HpX) : Prop where
  node : hcell H ⟨hb, 0, none⟩ = some (.int .i64 s.node)
  most : hcell H ⟨hb, 1, none⟩ = some (.int .i64 s.most)
  last : hcell H ⟨hb, 2, none⟩ = some (.int .u64 s.last)
  ar : hcell H ⟨hb, 3, none⟩ = some (ptrV x.a)
  mp : hcell H ⟨hb, 4, none⟩ = some (.map (some x.m))
theorem heapV {M : List Prt} {x : HpX} (h : St H0 (heapParts hb s x ++ M) H) : HeapV H hb s x :=
  ⟨h.cell (i := 0) rfl rfl, h.cell (i := 0) rfl rfl, h.cell (i := 0) rfl rfl, h.cell (i := 0) rfl rfl, h.cell (i := 0) rfl rfl⟩

/-- Looking one up. -/
theorem heapLook {M : List Prt} {x : HpX} {k : Int} {Q : Value → Prop} (h : St H0 (heapParts hb s x ++ M) H) (hp : x.ps.map (·.1) = s.obs) (ho : s.ok) (h0 : hGet s k = none → Q (.pointer none))
    (h1 : ∀ (j : Nat) (o : Ob) (b : Nat), x.ps[j]? = some (o, b) → o.ser = k → hGet s k = some o → s.obs[j]? = some o → Q (.pointer (some ⟨b, 0, none⟩))) : evR PR (Instr.lookup ty_map_uint64_pheap_thing (.map (some x.m)) (.int .u64 k) false) H Q := by
  refine h.look (i := 2) (l := hpMap x.ps) rfl hp_key hp_map_ok hp_zero (hpMap_nod hp ho) k false ?_
  rcases hpMap_place hp ho k with ⟨g1, g2⟩ | ⟨j, o, b, g1, g2, g3, g4, g5⟩
  · rw [g2]; exact h0 g1
  · rw [g4]; exact h1 j o b g1 g2 g3 g5

/-- An object's cells. -/
structure ThingV (H : Hp) (b : Nat) (o : Ob) (p : Option Addr) (c : Nat) (q : Option Addr) (d : Nat) : Prop where
  cell : hcell H ⟨b, 0, none⟩ = some (.int .i64 o.cell)
  refs : hcell H ⟨b, 1, none⟩ = some (.slice p o.refs.length c)
  vals : hcell H ⟨b, 2, none⟩ = some (.slice q o.vals.length d)
  din : hcell H ⟨b, 3, none⟩ = some (.int .i64 o.din)
  rrow : Rd H 2 p o.refs.length (cel Id.cells o.refs)
  vrow : Rd H 1 q o.vals.length (o.vals.map (Value.int .u64))
theorem thingV {M : List Prt} {x : HpX} {j b : Nat} {o : Ob} (h : St H0 (heapParts hb s x ++ M) H) (hj : x.ps[j]? = some (o, b)) : ∃ p c q d, ThingV H b o p c q d := by
  have h1 := h.sub (i := 3) (M := x.ps.map fun p => ThingP p.2 p.1) (k := j) (A := ThingP b o) rfl (by rw [List.getElem?_map, hj]; rfl)
  obtain ⟨y, h2⟩ := h1.openEx (i := 0) rfl
  exact ⟨_, _, _, _, h2.cell (i := 0) rfl rfl, h2.cell (i := 0) rfl rfl, h2.cell (i := 0) rfl rfl, h2.cell (i := 0) rfl rfl, h2.row_rd (i := 1) rfl, h2.row_rd (i := 2) rfl⟩

theorem fields_ok {n : Int} (hK : K (.bool (decide (0 ≤ n ∧ n ≤ 7))) H) : hcall PR f_heap_fields ⟨[.int .i64 n]⟩ H K := by
  apply den_heap_fields
  unfold B_heap_fields
  by_cases h0 : n ≥ 0
  · refine bif_pos h0 ?_
    rw [show decide (0 ≤ n ∧ n ≤ 7) = decide (n ≤ 7) by simp; omega] at hK
    exact hK
  · refine bif_neg h0 ?_
    rw [show decide (0 ≤ n ∧ n ≤ 7) = false by simp; omega] at hK
    exact hK
theorem in_ok {k n : Int} (hK : K (.bool (decide (0 ≤ k ∧ k < n))) H) : hcall PR f_heap_in ⟨[.int .i64 k, .int .i64 n]⟩ H K := by
  apply den_heap_in
  unfold B_heap_in
  by_cases h0 : k ≥ 0
  · refine bif_pos h0 ?_
    rw [show decide (0 ≤ k ∧ k < n) = decide (k < n) by simp; omega] at hK
    exact hK
  · refine bif_neg h0 ?_
    rw [show decide (0 ≤ k ∧ k < n) = false by simp; omega] at hK
    exact hK

theorem id_ints : intsOf PR ty_api_ID = some [.i64, .u64] := by kernel_rfl
theorem id_guard : PR.eqGuardType PR.depth ty_api_ID = false := by kernel_rfl
theorem idEq {a b c d : Int} {Q : Value → Prop} (hQ : Q (.bool (decide ((⟨a, b⟩ : Id) = ⟨c, d⟩)))) : evR PR (aggEq .eql ty_api_ID #[.int .i64 a, .int .u64 b] #[.int .i64 c, .int .u64 d]) H Q := by
  refine aggEq_ints (ks := [.i64, .u64]) (ns := [a, b]) (ms := [c, d]) id_ints id_guard rfl rfl ?_
  rw [show decide ([a, b] = [c, d]) = decide ((⟨a, b⟩ : Id) = ⟨c, d⟩) by simp]
  exact hQ
theorem idNe {a b c d : Int} {Q : Value → Prop} (hQ : Q (.bool (!decide ((⟨a, b⟩ : Id) = ⟨c, d⟩)))) : evR PR (aggEq .neq ty_api_ID #[.int .i64 a, .int .u64 b] #[.int .i64 c, .int .u64 d]) H Q := by
  refine aggNe_ints (ks := [.i64, .u64]) (ns := [a, b]) (ms := [c, d]) id_ints id_guard rfl rfl ?_
  rw [show decide ([a, b] = [c, d]) = decide ((⟨a, b⟩ : Id) = ⟨c, d⟩) by simp]
  exact hQ

theorem okId_iff {x : Id} : okId x = true ↔ x = noId ∨ (1 ≤ x.n ∧ x.n ≤ 64 ∧ 1 ≤ x.s ∧ x.s ≤ 72057594037927935) := by
  simp only [okId, Bool.or_eq_true, Bool.and_eq_true, decide_eq_true_eq, and_assoc]
theorem right_ok {x : Id} (h : St H0 L H) (hK : ∀ H', St H0 L H' → K (.bool (okId x)) H') : hcall PR f_heap_right ⟨[.agg #[.int .i64 x.n, .int .u64 x.s]]⟩ H K := by
  apply den_heap_right
  unfold B_heap_right
  intro b hb
  have h1 := h.alloc (o := .cells #[.int .i64 x.n, .int .u64 x.s] ty_api_ID) hb
  have c0 := h1.cell (i := 0) (o := 0) rfl rfl
  have c1 := h1.cell (i := 0) (o := 1) rfl rfl
  have hK := hK _ h1.less
  have hi := okId_iff (x := x)
  refine ldI_of c0 (ldI_of c1 (idEq ?_))
  simp only [asI_mk', asB_mk, asP_mk, asA_mk, asM_mk, asSl_mk, asStr_mk, tup2_mk, tup3_mk, agg1_mk, agg2_mk, agg3_mk, agg4_mk, asAggm, unCons_mk, unNil_mk, asTup_mk, extractD0, extractD1, List.toList_toArray, nilP_mk, add_mk, Nat.zero_add, Nat.add_zero, condT, condF, Bool.not_true, Bool.not_false, Option.isNone_some, Option.isNone_none]
  by_cases e : x = noId
  · refine bif_pos e ?_
    rw [hi.2 (.inl e)] at hK
    exact hK
  refine bif_neg e (ldI_of c0 ?_)
  by_cases e1 : x.n ≥ 1
  rotate_left
  · refine bif_neg e1 ?_
    rw [show okId x = false by rw [← Bool.not_eq_true, hi]; rintro (h | h); exact e h; omega] at hK
    exact hK
  refine bif_pos e1 (ldI_of c0 ?_)
  by_cases e2 : x.n ≤ 64
  rotate_left
  · refine bif_neg e2 ?_
    rw [show okId x = false by rw [← Bool.not_eq_true, hi]; rintro (h | h); exact e h; omega] at hK
    exact hK
  refine bif_pos e2 (ldI_of c1 ?_)
  by_cases e3 : x.s ≥ 1
  rotate_left
  · refine bif_neg e3 ?_
    rw [show okId x = false by rw [← Bool.not_eq_true, hi]; rintro (h | h); exact e h; omega] at hK
    exact hK
  refine bif_pos e3 (ldI_of c1 ?_)
  rw [show okId x = decide (x.s ≤ 72057594037927935) by rw [Bool.eq_iff_iff, hi, decide_eq_true_eq]; exact ⟨fun h => h.elim (fun h => absurd h e) fun h => h.2.2.2, fun h => .inr ⟨by omega, by omega, by omega, h⟩⟩] at hK
  exact hK

theorem hNode (h : St H0 L H) (hi : L[i]? = some (HeapP hb s)) (hK : K (.int .i64 s.node) H) : hcall PR f_heap_Heap_Node ⟨[.pointer (some ⟨hb, 0, none⟩)]⟩ H K := by
  apply den_heap_Heap_Node
  unfold B_heap_Heap_Node
  obtain ⟨x, h1, hp, ho⟩ := heapOpen h hi
  exact ldI_of (heapV h1).node hK
theorem hLast (h : St H0 L H) (hi : L[i]? = some (HeapP hb s)) (hK : K (.int .u64 s.last) H) : hcall PR f_heap_Heap_Last ⟨[.pointer (some ⟨hb, 0, none⟩)]⟩ H K := by
  apply den_heap_Heap_Last
  unfold B_heap_Heap_Last
  obtain ⟨x, h1, hp, ho⟩ := heapOpen h hi
  exact ldI_of (heapV h1).last hK
theorem hpMap_len {ps : List (Ob × Nat)} (h : ps.map (·.1) = s.obs) : (hpMap ps).length = s.obs.length := by rw [← h]; simp [hpMap]
theorem hLen (h : St H0 L H) (hi : L[i]? = some (HeapP hb s)) (hK : K (.int .i64 s.obs.length) H) : hcall PR f_heap_Heap_Len ⟨[.pointer (some ⟨hb, 0, none⟩)]⟩ H K := by
  apply den_heap_Heap_Len
  unfold B_heap_Heap_Len
  obtain ⟨x, h1, hp, ho⟩ := heapOpen h hi
  refine ldM_of (heapV h1).mp (h1.mlen (i := 2) (l := hpMap x.ps) rfl hp_map_ok ?_)
  simp only [asI_mk', asB_mk, asP_mk, asA_mk, asM_mk, asSl_mk, asStr_mk, tup2_mk, tup3_mk, agg1_mk, agg2_mk, agg3_mk, agg4_mk, asAggm, unCons_mk, unNil_mk, asTup_mk, extractD0, extractD1, List.toList_toArray, nilP_mk, add_mk, Nat.zero_add, Nat.add_zero, condT, condF, Bool.not_true, Bool.not_false, Option.isNone_some, Option.isNone_none]
  rw [hpMap_len hp]
  exact hK
theorem hUsed (h : St H0 L H) (hi : L[i]? = some (HeapP hb s)) (hK : K (.int .i64 (arUsed s.ar)) H) : hcall PR f_heap_Heap_Used ⟨[.pointer (some ⟨hb, 0, none⟩)]⟩ H K := by
  apply den_heap_Heap_Used
  unfold B_heap_Heap_Used
  obtain ⟨x, h1, hp, ho⟩ := heapOpen h hi
  refine ldP_of (heapV h1).ar (sUsed h1 (i := 1) rfl ho.ar ?_)
  simp only [asI_mk', asB_mk, asP_mk, asA_mk, asM_mk, asSl_mk, asStr_mk, tup2_mk, tup3_mk, agg1_mk, agg2_mk, agg3_mk, agg4_mk, asAggm, unCons_mk, unNil_mk, asTup_mk, extractD0, extractD1, List.toList_toArray, nilP_mk, add_mk, Nat.zero_add, Nat.add_zero, condT, condF, Bool.not_true, Bool.not_false, Option.isNone_some, Option.isNone_none]
  exact hK

theorem hRefC {k f : Int} (h : St H0 L H) (hi : L[i]? = some (HeapP hb s)) (hK : ∀ H', St H0 L H' → K (.tuple #[.agg #[.int .i64 (hRef s k f).1.n, .int .u64 (hRef s k f).1.s], .int .i64 (hRef s k f).2]) H') :
    hcall PR f_heap_Heap_Ref ⟨[.pointer (some ⟨hb, 0, none⟩), .int .u64 k, .int .i64 f]⟩ H K := by
  apply den_heap_Heap_Ref
  unfold B_heap_Heap_Ref
  intro b hb'
  have h0 := h.alloc (o := .cells #[.int .i64 0, .int .u64 0] ty_api_ID) hb'
  obtain ⟨x, h1, hp, ho⟩ := heapOpen (i := i + 1) h0 hi
  have v := heapV h1
  simp only [asI_mk', asB_mk, asP_mk, asA_mk, asM_mk, asSl_mk, asStr_mk, tup2_mk, tup3_mk, agg1_mk, agg2_mk, agg3_mk, agg4_mk, asAggm, unCons_mk, unNil_mk, asTup_mk, extractD0, extractD1, List.toList_toArray, nilP_mk, add_mk, Nat.zero_add, Nat.add_zero, condT, condF, Bool.not_true, Bool.not_false, Option.isNone_some, Option.isNone_none]
  refine ldM_of v.mp (heapLook h1 hp ho (fun hg => ?_) fun j o bo hj hk hg hjo => ?_)
  · simp only [asI_mk', asB_mk, asP_mk, asA_mk, asM_mk, asSl_mk, asStr_mk, tup2_mk, tup3_mk, agg1_mk, agg2_mk, agg3_mk, agg4_mk, asAggm, unCons_mk, unNil_mk, asTup_mk, extractD0, extractD1, List.toList_toArray, nilP_mk, add_mk, Nat.zero_add, Nat.add_zero, condT, condF, Bool.not_true, Bool.not_false, Option.isNone_some, Option.isNone_none]
    refine fin2 h0 (i := 0) rfl rfl fun H' h' => ?_
    have hK := hK H' h'.less
    simp only [hRef, hg] at hK
    exact hK
  · obtain ⟨p, c, q, d, tv⟩ := thingV h1 hj
    simp only [asI_mk', asB_mk, asP_mk, asA_mk, asM_mk, asSl_mk, asStr_mk, tup2_mk, tup3_mk, agg1_mk, agg2_mk, agg3_mk, agg4_mk, asAggm, unCons_mk, unNil_mk, asTup_mk, extractD0, extractD1, List.toList_toArray, nilP_mk, add_mk, Nat.zero_add, Nat.add_zero, condT, condF, Bool.not_true, Bool.not_false, Option.isNone_some, Option.isNone_none]
    refine ldSl_of tv.refs (in_ok ?_)
    simp only [asI_mk', asB_mk, asP_mk, asA_mk, asM_mk, asSl_mk, asStr_mk, tup2_mk, tup3_mk, agg1_mk, agg2_mk, agg3_mk, agg4_mk, asAggm, unCons_mk, unNil_mk, asTup_mk, extractD0, extractD1, List.toList_toArray, nilP_mk, add_mk, Nat.zero_add, Nat.add_zero, condT, condF, Bool.not_true, Bool.not_false, Option.isNone_some, Option.isNone_none]
    by_cases hf : 0 ≤ f ∧ f < (o.refs.length : Int)
    · rw [decide_eq_true hf]
      simp only [asI_mk', asB_mk, asP_mk, asA_mk, asM_mk, asSl_mk, asStr_mk, tup2_mk, tup3_mk, agg1_mk, agg2_mk, agg3_mk, agg4_mk, asAggm, unCons_mk, unNil_mk, asTup_mk, extractD0, extractD1, List.toList_toArray, nilP_mk, add_mk, Nat.zero_add, Nat.add_zero, condT, condF, Bool.not_true, Bool.not_false, Option.isNone_some, Option.isNone_none]
      refine ldSl_of tv.refs (idxS Id.len noId tv.rrow (by omega) hf.1 hf.2 fun b' o' hpp hlt hcc => ?_)
      have c0 := hcc 0 (by omega)
      have c1 := hcc 1 (by omega)
      simp only [asI_mk', asB_mk, asP_mk, asA_mk, asM_mk, asSl_mk, asStr_mk, tup2_mk, tup3_mk, agg1_mk, agg2_mk, agg3_mk, agg4_mk, asAggm, unCons_mk, unNil_mk, asTup_mk, extractD0, extractD1, List.toList_toArray, nilP_mk, add_mk, Nat.zero_add, Nat.add_zero, condT, condF, Bool.not_true, Bool.not_false, Option.isNone_some, Option.isNone_none]
      refine ldI_of c0 (ldI_of c1 (fin2 h0 (i := 0) rfl rfl fun H' h' => ?_))
      have hK := hK H' h'.less
      simp only [hRef, hg, if_pos hf] at hK
      exact hK
    · rw [decide_eq_false hf]
      simp only [asI_mk', asB_mk, asP_mk, asA_mk, asM_mk, asSl_mk, asStr_mk, tup2_mk, tup3_mk, agg1_mk, agg2_mk, agg3_mk, agg4_mk, asAggm, unCons_mk, unNil_mk, asTup_mk, extractD0, extractD1, List.toList_toArray, nilP_mk, add_mk, Nat.zero_add, Nat.add_zero, condT, condF, Bool.not_true, Bool.not_false, Option.isNone_some, Option.isNone_none]
      refine fin2 h0 (i := 0) rfl rfl fun H' h' => ?_
      have hK := hK H' h'.less
      simp only [hRef, hg, if_neg hf] at hK
      exact hK

theorem hValC {k f : Int} (h : St H0 L H) (hi : L[i]? = some (HeapP hb s)) (hK : K (.tuple #[.int .u64 (hVal s k f).1, .int .i64 (hVal s k f).2]) H) :
    hcall PR f_heap_Heap_Val ⟨[.pointer (some ⟨hb, 0, none⟩), .int .u64 k, .int .i64 f]⟩ H K := by
  apply den_heap_Heap_Val
  unfold B_heap_Heap_Val
  obtain ⟨x, h1, hp, ho⟩ := heapOpen h hi
  have v := heapV h1
  simp only [asI_mk', asB_mk, asP_mk, asA_mk, asM_mk, asSl_mk, asStr_mk, tup2_mk, tup3_mk, agg1_mk, agg2_mk, agg3_mk, agg4_mk, asAggm, unCons_mk, unNil_mk, asTup_mk, extractD0, extractD1, List.toList_toArray, nilP_mk, add_mk, Nat.zero_add, Nat.add_zero, condT, condF, Bool.not_true, Bool.not_false, Option.isNone_some, Option.isNone_none]
  refine ldM_of v.mp (heapLook h1 hp ho (fun hg => ?_) fun j o bo hj hk hg hjo => ?_)
  · simp only [asI_mk', asB_mk, asP_mk, asA_mk, asM_mk, asSl_mk, asStr_mk, tup2_mk, tup3_mk, agg1_mk, agg2_mk, agg3_mk, agg4_mk, asAggm, unCons_mk, unNil_mk, asTup_mk, extractD0, extractD1, List.toList_toArray, nilP_mk, add_mk, Nat.zero_add, Nat.add_zero, condT, condF, Bool.not_true, Bool.not_false, Option.isNone_some, Option.isNone_none]
    simp only [hVal, hg] at hK
    exact hK
  · obtain ⟨p, c, q, d, tv⟩ := thingV h1 hj
    simp only [asI_mk', asB_mk, asP_mk, asA_mk, asM_mk, asSl_mk, asStr_mk, tup2_mk, tup3_mk, agg1_mk, agg2_mk, agg3_mk, agg4_mk, asAggm, unCons_mk, unNil_mk, asTup_mk, extractD0, extractD1, List.toList_toArray, nilP_mk, add_mk, Nat.zero_add, Nat.add_zero, condT, condF, Bool.not_true, Bool.not_false, Option.isNone_some, Option.isNone_none]
    refine ldSl_of tv.vals (in_ok ?_)
    simp only [asI_mk', asB_mk, asP_mk, asA_mk, asM_mk, asSl_mk, asStr_mk, tup2_mk, tup3_mk, agg1_mk, agg2_mk, agg3_mk, agg4_mk, asAggm, unCons_mk, unNil_mk, asTup_mk, extractD0, extractD1, List.toList_toArray, nilP_mk, add_mk, Nat.zero_add, Nat.add_zero, condT, condF, Bool.not_true, Bool.not_false, Option.isNone_some, Option.isNone_none]
    by_cases hf : 0 ≤ f ∧ f < (o.vals.length : Int)
    · rw [decide_eq_true hf]
      simp only [asI_mk', asB_mk, asP_mk, asA_mk, asM_mk, asSl_mk, asStr_mk, tup2_mk, tup3_mk, agg1_mk, agg2_mk, agg3_mk, agg4_mk, asAggm, unCons_mk, unNil_mk, asTup_mk, extractD0, extractD1, List.toList_toArray, nilP_mk, add_mk, Nat.zero_add, Nat.add_zero, condT, condF, Bool.not_true, Bool.not_false, Option.isNone_some, Option.isNone_none]
      refine ldSl_of tv.vals (idx1 (d := 0) tv.vrow hf.1 hf.2 fun b' o' hpp hcc => ldI_of hcc ?_)
      simp only [hVal, hg, if_pos hf] at hK
      exact hK
    · rw [decide_eq_false hf]
      simp only [asI_mk', asB_mk, asP_mk, asA_mk, asM_mk, asSl_mk, asStr_mk, tup2_mk, tup3_mk, agg1_mk, agg2_mk, agg3_mk, agg4_mk, asAggm, unCons_mk, unNil_mk, asTup_mk, extractD0, extractD1, List.toList_toArray, nilP_mk, add_mk, Nat.zero_add, Nat.add_zero, condT, condF, Bool.not_true, Bool.not_false, Option.isNone_some, Option.isNone_none]
      simp only [hVal, hg, if_neg hf] at hK
      exact hK
end

end Go.Proofs.Ytohlnmenghbgbaa
