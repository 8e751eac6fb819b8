/- Merged by merge.py: HpS, HpS2, DenHeap, HpP, HpP2, HpP3, HpP4, DenRef8, DenRef2, HpR, DenHand, Hand, HpR2. No condition. -/
import Derived.Test.YtflfodcemnapeaaGreatZArena
import Derived.Test.YtflfodcemnapeaaGreatZBase
import Derived.Test.YtflfodcemnapeaaGreatZNum

namespace Go.Proofs.YtflfodcemnapeaaGreat
set_option linter.unusedSimpArgs false
set_option linter.unusedVariables false
open Go
/-- A reference. -/
structure Id where
 n : Int
 s : Int
instance : DecidableEq Id := fun a b => decidable_of_iff (a.n = b.n ∧ a.s = b.s) ⟨fun h => by cases a; cases b; simp_all, fun h => by rw [h]; exact ⟨rfl, rfl⟩⟩
theorem Id.ext {a b : Id} (h : a.n = b.n) (k : a.s = b.s) : a = b := by cases a; cases b; simp_all
abbrev noId : Id := ⟨0, 0⟩
def Id.cells (x : Id) : List Value := [.int .i64 x.n, .int .u64 x.s]
theorem Id.len (x : Id) : x.cells.length = 2 := rfl
def Id.val (x : Id) : Value := .agg #[.int .i64 x.n, .int .u64 x.s]
def okId (x : Id) : Bool := decide (x = noId) || (decide (1 ≤ x.n) && decide (x.n ≤ 64) && decide (1 ≤ x.s) && decide (x.s ≤ 72057594037927935))

/-- An object. -/
structure Ob where
 ser : Int
 cell : Int
 refs : List Id
 vals : List Int
 din : Int

/-- A heap. -/
structure Hs where
 node : Int
 most : Int
 last : Int
 ar : List Blk
 obs : List Ob

structure Ob.ok (o : Ob) : Prop where
 cell : 0 ≤ o.cell ∧ o.cell < 5000
 refs : o.refs.length ≤ 7
 vals : o.vals.length ≤ 7
 ids : ∀ x ∈ o.refs, okId x = true
 din : 0 ≤ o.din ∧ o.din ≤ 40
structure Hs.ok (s : Hs) : Prop where
 node : 1 ≤ s.node ∧ s.node ≤ 64
 most : 1 ≤ s.most ∧ s.most ≤ 64
 last : 0 ≤ s.last ∧ s.last ≤ 72057594037927935
 ar : ArOk s.ar
 len : (s.obs.length : Int) ≤ s.most
 rise : s.obs.Pairwise (fun a b => a.ser < b.ser)
 ser : ∀ o ∈ s.obs, 1 ≤ o.ser ∧ o.ser ≤ s.last
 obs : ∀ o ∈ s.obs, o.ok

def hGet (s : Hs) (k : Int) : Option Ob := s.obs.find? fun o => decide (o.ser = k)
def hPut (s : Hs) (k : Int) (f : Ob → Ob) : Hs := { s with obs := s.obs.map fun o => if o.ser = k then f o else o }

noncomputable def hMake (s : Hs) (r v : Int) : Int × Int × Hs :=
 if r < 0 ∨ 7 < r ∨ v < 0 ∨ 7 < v then (0, 1, s)
 else if s.most ≤ s.obs.length then (0, 6, s)
 else if s.last = 72057594037927935 then (0, 7, s)
 else if (arAlloc s.ar (1 + r + v)).2.1 ≠ 0 then (0, (arAlloc s.ar (1 + r + v)).2.1, s)
 else (s.last + 1, 0, { s with last := s.last + 1, ar := (arAlloc s.ar (1 + r + v)).2.2, obs := s.obs ++ [⟨s.last + 1, (arAlloc s.ar (1 + r + v)).1, List.replicate r.toNat noId, List.replicate v.toNat 0, 0⟩] })
def hRef (s : Hs) (k f : Int) : Id × Int := match hGet s k with
 | some o => if 0 ≤ f ∧ f < o.refs.length then (o.refs.getD f.toNat noId, 0) else (noId, 5)
 | none => (noId, 5)
def hSetRef (s : Hs) (k f : Int) (x : Id) : Id × Int × Hs :=
 if okId x = false then (noId, 1, s) else if (hRef s k f).2 = 0 then ((hRef s k f).1, 0, hPut s k fun o => { o with refs := o.refs.set f.toNat x }) else ((hRef s k f).1, (hRef s k f).2, s)
def hSetIn (s : Hs) (k d : Int) : Int × Hs :=
 if d < 0 ∨ 40 < d then (1, s) else match hGet s k with
  | some _ => (0, hPut s k fun o => { o with din := d })
  | none => (5, s)
noncomputable def hFree (s : Hs) (k : Int) : Int × Hs := match hGet s k with
 | some o => (0, { s with ar := (arFree s.ar o.cell).2, obs := s.obs.filter fun o => !decide (o.ser = k) })
 | none => (5, s)
def hNext (s : Hs) (k : Int) : Int × Bool := match s.obs.find? fun o => decide (k < o.ser) with
 | some o => (o.ser, true)
 | none => (0, false)

theorem arAlloc_fail {l : List Blk} {n : Int} (h : (arAlloc l n).2.1 ≠ 0) : (arAlloc l n).2.2 = l := by
 unfold arAlloc at h ⊢
 split
 ·rfl
 ·rename_i hc
  rw [if_neg hc] at h
  cases hf : arFind l (clsOf n) with
  | none => rfl
  | some p => rw [hf] at h; exact absurd rfl h

/-! ## What is found -/
theorem hGet_mem {s : Hs} {k : Int} {o : Ob} (h : hGet s k = some o) : o ∈ s.obs ∧ o.ser = k := ⟨List.mem_of_find?_eq_some h, by simpa using List.find?_some h⟩
theorem hGet_none {s : Hs} {k : Int} : hGet s k = none ↔ ∀ o ∈ s.obs, o.ser ≠ k := by simp [hGet]
theorem ser_inj {l : List Ob} (hr : l.Pairwise (fun a b => a.ser < b.ser)) {i j : Nat} {a b : Ob} (hi : l[i]? = some a) (hj : l[j]? = some b) (h : a.ser = b.ser) : i = j := by
 have hil := ltOfGet hi
 have hjl := ltOfGet hj
 rw [List.getElem?_eq_getElem hil] at hi
 rw [List.getElem?_eq_getElem hjl] at hj
 cases hi
 cases hj
 rw [List.pairwise_iff_getElem] at hr
 rcases Nat.lt_trichotomy i j with e | e | e
 ·have := hr i j hil hjl e; omega
 ·exact e
 ·have := hr j i hjl hil e; omega
theorem hGet_at {s : Hs} (h : s.ok) {j : Nat} {o : Ob} (hj : s.obs[j]? = some o) : hGet s o.ser = some o := by
 have hm := List.mem_of_getElem? hj
 cases hg : hGet s o.ser with
 | none => exact absurd rfl (hGet_none.1 hg o hm)
 | some o' =>
  obtain ⟨h1, h2⟩ := hGet_mem hg
  obtain ⟨i, hi, rfl⟩ := List.mem_iff_getElem.1 h1
  have := ser_inj h.rise (List.getElem?_eq_getElem hi) hj h2
  subst this
  rw [List.getElem?_eq_getElem hi] at hj
  exact hj
/-- Nothing, or in one place. -/
theorem hGet_place {s : Hs} (h : s.ok) (k : Int) : (hGet s k = none ∧ ∀ o ∈ s.obs, o.ser ≠ k) ∨ ∃ (j : Nat) (o : Ob), s.obs[j]? = some o ∧ o.ser = k ∧ hGet s k = some o := by
 cases hg : hGet s k with
 | none => exact .inl ⟨rfl, hGet_none.1 hg⟩
 | some o =>
  obtain ⟨h1, h2⟩ := hGet_mem hg
  obtain ⟨j, hj, rfl⟩ := List.mem_iff_getElem.1 h1
  exact .inr ⟨j, _, List.getElem?_eq_getElem hj, h2, rfl⟩
theorem map_if_set {l : List Ob} (hr : l.Pairwise (fun a b => a.ser < b.ser)) {j : Nat} {o : Ob} (hj : l[j]? = some o) {f : Ob → Ob} : (l.map fun x => if x.ser = o.ser then f x else x) = l.set j (f o) := by
 apply List.ext_getElem?
 intro i
 rw [List.getElem?_map, List.getElem?_set]
 have hjl := ltOfGet hj
 by_cases e : j = i
 ·subst e
  rw [hj, if_pos rfl, if_pos hjl]
  simp
 ·rw [if_neg e]
  cases hi : l[i]? with
  | none => rfl
  | some x =>
   have : x.ser ≠ o.ser := fun h => e (ser_inj hr hi hj h).symm
   simp [this]
theorem filter_erase {l : List Ob} (hr : l.Pairwise (fun a b => a.ser < b.ser)) {j : Nat} {o : Ob} (hj : l[j]? = some o) : (l.filter fun x => !decide (x.ser = o.ser)) = l.eraseIdx j := by
 induction l generalizing j with
 | nil => simp at hj
 | cons a l ih =>
  rw [List.pairwise_cons] at hr
  cases j with
  | zero =>
   simp at hj
   subst hj
   rw [List.filter_cons_of_neg (by simp), List.eraseIdx_cons_zero, List.filter_eq_self]
   intro x hx
   have := hr.1 x hx
   simp
   omega
  | succ j =>
   have hj : l[j]? = some o := by simpa using hj
   have := hr.1 o (List.mem_of_getElem? hj)
   rw [List.filter_cons_of_pos (by simp; omega), List.eraseIdx_cons_succ, ih hr.2 hj]

/-! ## A heap stays well formed -/
theorem okId_no : okId noId = true := by decide
theorem Hs.ok.put {s : Hs} (h : s.ok) (k : Int) {f : Ob → Ob} (hs : ∀ o, (f o).ser = o.ser) (hf : ∀ o, o ∈ s.obs → o.ser = k → (f o).ok) : (hPut s k f).ok := by
 have hser : ∀ o : Ob, (if o.ser = k then f o else o).ser = o.ser := fun o => by split; exact hs o; rfl
 refine ⟨h.node, h.most, h.last, h.ar, by simpa [hPut] using h.len, ?_, ?_, ?_⟩
 ·simp only [hPut]
  rw [List.pairwise_map]
  exact h.rise.imp fun {a b} hab => by rw [hser, hser]; exact hab
 ·intro o ho
  obtain ⟨a, ha, rfl⟩ := List.mem_map.1 ho
  rw [hser]
  exact h.ser a ha
 ·intro o ho
  obtain ⟨a, ha, rfl⟩ := List.mem_map.1 ho
  split
  ·exact hf a ha (by assumption)
  ·exact h.obs a ha
theorem Hs.ok.setRef {s : Hs} (h : s.ok) (k f : Int) (x : Id) : (hSetRef s k f x).2.2.ok := by
 unfold hSetRef
 split
 ·exact h
 ·rename_i hx
  split
  ·refine h.put k (fun _ => rfl) fun o ho _ => ?_
   have hb := h.obs o ho
   refine ⟨hb.cell, by simpa using hb.refs, hb.vals, fun y hy => ?_, hb.din⟩
   rcases List.mem_or_eq_of_mem_set hy with hy | rfl
   ·exact hb.ids y hy
   ·simpa using hx
  ·exact h
theorem Hs.ok.setIn {s : Hs} (h : s.ok) (k d : Int) : (hSetIn s k d).2.ok := by
 unfold hSetIn
 split
 ·exact h
 ·rename_i hd
  cases hg : hGet s k with
  | none => exact h
  | some o =>
   refine h.put k (fun _ => rfl) fun o ho _ => ?_
   have hb := h.obs o ho
   exact ⟨hb.cell, hb.refs, hb.vals, hb.ids, by simp only; omega⟩
theorem Hs.ok.free {s : Hs} (h : s.ok) (k : Int) : (hFree s k).2.ok := by
 unfold hFree
 cases hg : hGet s k with
 | none => exact h
 | some o =>
  refine ⟨h.node, h.most, h.last, h.ar.free _, ?_, h.rise.filter _, fun a ha => h.ser a (List.mem_filter.1 ha).1, fun a ha => h.obs a (List.mem_filter.1 ha).1⟩
  have h1 := List.length_filter_le (fun o => !decide (o.ser = k)) s.obs
  have h2 := h.len
  simp only
  omega
theorem Hs.ok.make {s : Hs} (h : s.ok) (r v : Int) : (hMake s r v).2.2.ok := by
 unfold hMake
 split
 ·exact h
 ·rename_i h1
  split
  ·exact h
  ·rename_i h2
   split
   ·exact h
   ·rename_i h3
    split
    ·exact h
    ·have hl := h.last
     have hm := h.most
     have hc := arAlloc_cell (n := 1 + r + v) h.ar
     refine ⟨h.node, h.most, by simp only; omega, h.ar.alloc _, by simp; omega, ?_, ?_, ?_⟩
     ·simp only
      rw [List.pairwise_append]
      refine ⟨h.rise, by simp, fun a ha b hb => ?_⟩
      simp at hb
      subst hb
      have := (h.ser a ha).2
      simp only
      omega
     ·intro o ho
      rcases List.mem_append.1 ho with ho | ho
      ·have := h.ser o ho; simp only; omega
      ·simp at ho
       subst ho
       simp only
       omega
     ·intro o ho
      rcases List.mem_append.1 ho with ho | ho
      ·exact h.obs o ho
      ·simp at ho
       subst ho
       refine ⟨by simp only; omega, by simp; omega, by simp; omega, fun x hx => ?_, by simp⟩
       rw [List.mem_replicate] at hx
       rw [hx.2]
       exact okId_no

end Go.Proofs.YtflfodcemnapeaaGreat

namespace Go.Proofs.YtflfodcemnapeaaGreat
set_option linter.unusedSimpArgs false
set_option linter.unusedVariables false
open Go
/-- How many blocks are free. -/
def frees (l : List Blk) : Nat := (l.filter fun b => decide (b.c = 0)).length
theorem frees_pos {l : List Blk} : 0 < frees l ↔ ∃ j, j < l.length ∧ (l.getD j noBlk).c = 0 := by
 unfold frees
 rw [List.length_pos_iff_exists_mem]
 constructor
 ·rintro ⟨b, hb⟩
  obtain ⟨h1, h2⟩ := List.mem_filter.1 hb
  obtain ⟨j, hj, rfl⟩ := List.mem_iff_getElem.1 h1
  exact ⟨j, hj, by rw [List.getD_eq_getElem?_getD, List.getElem?_eq_getElem hj]; simpa using h2⟩
 ·rintro ⟨j, hj, h⟩
  rw [List.getD_eq_getElem?_getD, List.getElem?_eq_getElem hj] at h
  exact ⟨l[j], List.mem_filter.2 ⟨List.getElem_mem hj, by simpa using h⟩⟩
theorem frees_set {l : List Blk} {i : Nat} {b : Blk} : frees l ≤ frees (l.set i b) + 1 := by
 unfold frees
 induction l generalizing i with
 | nil => simp
 | cons a l ih =>
  cases i with
  | zero =>
   rw [List.set_cons_zero, List.filter_cons, List.filter_cons]
   split <;> split <;> simp <;> omega
  | succ i =>
   rw [List.set_cons_succ, List.filter_cons, List.filter_cons]
   have := ih (i := i)
   split
   ·simp only [List.length_cons]; omega
   ·exact this
theorem frees_new {n : Nat} : frees (List.replicate n noBlk) = n := by simp [frees, noBlk]

theorem arAlloc_fit {l : List Blk} {n : Int} {i k : Nat} (hc : clsOf n ≠ 0) (hf : ArFits l (clsOf n) i k) : arAlloc l n = (((16 * i + k * clsOf n : Nat) : Int), 0, tookAt l (clsOf n) i k) := by
 unfold arAlloc
 rw [if_neg hc, arFind_fits hf]

/-- The first that is free. -/
theorem first_free {l : List Blk} (h : 0 < frees l) : ∃ i, i < l.length ∧ (l.getD i noBlk).c = 0 ∧ ∀ j, j < i → (l.getD j noBlk).c ≠ 0 := by
 obtain ⟨j, hj, hc⟩ := frees_pos.1 h
 induction j using Nat.strongRecOn with
 | _ j ih =>
  by_cases hall : ∀ y, y < j → (l.getD y noBlk).c ≠ 0
  ·exact ⟨j, hj, hc, hall⟩
  ·obtain ⟨y, hy⟩ := Classical.not_forall.1 hall
   obtain ⟨hy, hc'⟩ := Classical.not_imp.1 hy
   exact ih y hy (by omega) (Classical.not_not.1 hc')
theorem arFits_ex {l : List Blk} {c : Nat} (ho : allOk l) (hcls : isCls c) (h : 0 < frees l) : ∃ i k, ArFits l c i k := by
 obtain ⟨f, hf, hf0, hfn⟩ := first_free h
 by_cases hex : ∃ j, j < l.length ∧ (l.getD j noBlk).c = c ∧ (l.getD j noBlk).t ≠ fullOf c
 ·obtain ⟨j, hj, hc, ht⟩ := hex
  induction j using Nat.strongRecOn with
  | _ j ih =>
   by_cases hall : ∀ y, y < j → (l.getD y noBlk).c = c → (l.getD y noBlk).t = fullOf c
   ·have hs := hcls.small
    obtain ⟨_, h2, _⟩ := (ho j hj).cls (by omega)
    rw [hc] at h2
    obtain ⟨k, hk, hfirst⟩ := First.of h2 ht
    exact ⟨j, k, hj, .inl ⟨hc, hk, hfirst, hall⟩⟩
   ·obtain ⟨y, hy⟩ := Classical.not_forall.1 hall
    obtain ⟨hy, hc'⟩ := Classical.not_imp.1 hy
    obtain ⟨hc', ht'⟩ := Classical.not_imp.1 hc'
    exact ih y hy (by omega) hc' ht'
 ·exact ⟨f, 0, hf, .inr ⟨hf0, rfl, hfn, fun j hj hc => Classical.byContradiction fun ht => hex ⟨j, hj, hc, ht⟩⟩⟩
theorem arAlloc_good {l : List Blk} {n : Int} (ho : ArOk l) (hn : 1 ≤ n ∧ n ≤ 16) (h : 0 < frees l) : (arAlloc l n).2.1 = 0 := by
 have hc : clsOf n ≠ 0 := fun e => by have := clsOf_zero.1 e; omega
 obtain ⟨i, k, hf⟩ := arFits_ex ho.ok (clsOf_cls hc) h
 rw [arAlloc_fit hc hf]
theorem frees_alloc {l : List Blk} {n : Int} : frees l ≤ frees (arAlloc l n).2.2 + 1 := by
 unfold arAlloc
 split
 ·simp
 ·cases arFind l (clsOf n) with
  | none => simp
  | some p => exact frees_set

theorem hMake_top {s : Hs} {r v : Int} (hr : 0 ≤ r ∧ r ≤ 7) (hv : 0 ≤ v ∧ v ≤ 7) (hl : (s.obs.length : Int) < s.most) (hs : s.last = 72057594037927935) : hMake s r v = (0, 7, s) := by
 unfold hMake
 rw [if_neg (by omega), if_neg (by omega), if_pos hs]
/-- As long as there is room it goes well. -/
theorem hMake_good {s : Hs} {r v : Int} (ho : s.ok) (hr : 0 ≤ r ∧ r ≤ 7) (hv : 0 ≤ v ∧ v ≤ 7) (hl : (s.obs.length : Int) < s.most) (hs : s.last < 72057594037927935) (hf : 0 < frees s.ar) :
  hMake s r v = (s.last + 1, 0, { s with last := s.last + 1, ar := (arAlloc s.ar (1 + r + v)).2.2, obs := s.obs ++ [⟨s.last + 1, (arAlloc s.ar (1 + r + v)).1, List.replicate r.toNat noId, List.replicate v.toNat 0, 0⟩] }) := by
 unfold hMake
 rw [if_neg (by omega), if_neg (by omega), if_neg (by omega), if_neg]
 rw [arAlloc_good ho.ar (by omega) hf]
 simp

/-- Likewise, told shortly. -/
theorem hMake_good' {s : Hs} {r v : Int} (ho : s.ok) (hr : 0 ≤ r ∧ r ≤ 7) (hv : 0 ≤ v ∧ v ≤ 7) (hl : (s.obs.length : Int) < s.most) (hs : s.last < 72057594037927935) (hf : 0 < frees s.ar) :
  ∃ (s' : Hs) (c : Int), hMake s r v = (s.last + 1, 0, s') ∧ s'.last = s.last + 1 ∧ s'.most = s.most ∧ s'.node = s.node ∧ s'.obs = s.obs ++ [⟨s.last + 1, c, List.replicate r.toNat noId, List.replicate v.toNat 0, 0⟩] ∧ frees s.ar ≤ frees s'.ar + 1 ∧ s'.ok := by
 have h1 := hMake_good ho hr hv hl hs hf
 have h2 := ho.make r v
 rw [h1] at h2
 exact ⟨_, _, h1, rfl, rfl, rfl, rfl, frees_alloc, h2⟩

end Go.Proofs.YtflfodcemnapeaaGreat

namespace Go.Proofs.YtflfodcemnapeaaGreat
open Go
set_option linter.unusedVariables false
set_option maxRecDepth 100000
def B_heap_Heap_SetRef (h1 : Option Addr) (serial2 : Int) (field3 : Int) (xNode4 : Int) (xSerial5 : Int) (H : Hp) (K : Value → Hp → Prop) : Prop :=
 newB (.cells #[(.int .i64 xNode4), (.int .u64 xSerial5)] ty_api_ID) H fun b6 Hx7 =>
 newB (.cells #[(.int .i64 0), (.int .u64 0)] ty_api_ID) Hx7 fun b8 Hx9 =>
 ldI .i64 ⟨b6, 0, none⟩ Hx9 fun Node10 =>
 ldI .u64 ⟨b6, 1, none⟩ Hx9 fun Serial11 =>
 hcall PR f_heap_right ⟨[(.agg #[(.int .i64 Node10), (.int .u64 Serial11)])]⟩ Hx9 fun v12 Hx13 =>
 asB v12 fun t14 =>
 (bif (!t14) then
 st ⟨b8, 0, none⟩ (.int .i64 0) Hx13 fun Hx15 =>
 st ⟨b8, 1, none⟩ (.int .u64 0) Hx15 fun Hx16 =>
 ldI .i64 ⟨b8, 0, none⟩ Hx16 fun Node17 =>
 ldI .u64 ⟨b8, 1, none⟩ Hx16 fun Serial18 =>
 K (.tuple #[(.agg #[(.int .i64 Node17), (.int .u64 Serial18)]), (.int .i64 1)]) Hx16
else
 hcall PR f_heap_Heap_Ref ⟨[(.pointer h1), (.int .u64 serial2), (.int .i64 field3)]⟩ Hx13 fun v19 Hx20 =>
 tup2 v19 fun v21 v22 =>
 agg2 v21 fun v23 v24 =>
 asI .i64 v23 fun Node25 =>
 asI .u64 v24 fun Serial26 =>
 asI .i64 v22 fun t27 =>
 newB (.cells #[(.int .i64 0), (.int .u64 0)] ty_api_ID) Hx20 fun b28 Hx29 =>
 st ⟨b28, 0, none⟩ (.int .i64 Node25) Hx29 fun Hx30 =>
 st ⟨b28, 1, none⟩ (.int .u64 Serial26) Hx30 fun Hx31 =>
 ∀ R32 : Hp → Prop, (∀ Hx33 : Hp, (
 ldI .i64 ⟨b28, 0, none⟩ Hx33 fun Node34 =>
 ldI .u64 ⟨b28, 1, none⟩ Hx33 fun Serial35 =>
 st ⟨b8, 0, none⟩ (.int .i64 Node34) Hx33 fun Hx36 =>
 st ⟨b8, 1, none⟩ (.int .u64 Serial35) Hx36 fun Hx37 =>
 ldI .i64 ⟨b8, 0, none⟩ Hx37 fun Node38 =>
 ldI .u64 ⟨b8, 1, none⟩ Hx37 fun Serial39 =>
 K (.tuple #[(.agg #[(.int .i64 Node38), (.int .u64 Serial39)]), (.int .i64 t27)]) Hx37) → R32 Hx33) →
 (bif ((t27 : Int) == 0) then
 nilP h1 fun ha40 =>
 ldM (ha40.add 4) Hx31 fun all41 =>
 evR PR (Instr.lookup ty_map_uint64_pheap_thing (.map all41) (.int .u64 serial2) false) Hx31 fun v42 =>
 asP v42 fun t43 =>
 nilP t43 fun ta44 =>
 ldSl (ta44.add 1) Hx31 fun refsP45 refsL46 refsC47 =>
 ldI .i64 ⟨b6, 0, none⟩ Hx31 fun Node48 =>
 ldI .u64 ⟨b6, 1, none⟩ Hx31 fun Serial49 =>
 idxA refsP45 refsL46 field3 2 fun el50 =>
 st el50 (.int .i64 Node48) Hx31 fun Hx51 =>
 st (el50.add 1) (.int .u64 Serial49) Hx51 fun Hx52 =>
 R32 Hx52
else
 R32 Hx31))
theorem E_heap_Heap_SetRef (h1 : Option Addr) (serial2 : Int) (field3 : Int) (xNode4 : Int) (xSerial5 : Int) (H : Hp) (K : Value → Hp → Prop) : B_heap_Heap_SetRef h1 serial2 field3 xNode4 xSerial5 H K = denF Tryz.prog Tryz.f12 (.seq none .n (.seq none .n (.seq none .n (.seq (some ⟨[], [8, 10, 11]⟩) .n .n)))) [(.pointer h1), (.int .u64 serial2), (.int .i64 field3), (.agg #[(.int .i64 xNode4), (.int .u64 xSerial5)])] H K := by kernel_rfl
theorem den_heap_Heap_SetRef {h1 : Option Addr} {serial2 : Int} {field3 : Int} {xNode4 : Int} {xSerial5 : Int} {H : Hp} {K : Value → Hp → Prop} (h : B_heap_Heap_SetRef h1 serial2 field3 xNode4 xSerial5 H K) : hcall PR f_heap_Heap_SetRef ⟨[(.pointer h1), (.int .u64 serial2), (.int .i64 field3), (.agg #[(.int .i64 xNode4), (.int .u64 xSerial5)])]⟩ H K := denF_call Tryz.func12 PR_mixed (Eq.mp (E_heap_Heap_SetRef h1 serial2 field3 xNode4 xSerial5 H K) h)

def B_heap_Heap_Make (h1 : Option Addr) (refs2 : Int) (vals3 : Int) (H : Hp) (K : Value → Hp → Prop) : Prop :=
 hcall PR f_heap_fields ⟨[(.int .i64 refs2)]⟩ H fun v4 Hx5 =>
 asB v4 fun t6 =>
 (bif (!t6) then
 K (.tuple #[(.int .u64 0), (.int .i64 1)]) Hx5
else
 hcall PR f_heap_fields ⟨[(.int .i64 vals3)]⟩ Hx5 fun v7 Hx8 =>
 asB v7 fun t9 =>
 (bif (!t9) then
 K (.tuple #[(.int .u64 0), (.int .i64 1)]) Hx8
else
 nilP h1 fun ha10 =>
 ldM (ha10.add 4) Hx8 fun all11 =>
 evR PR (Builtin.len_ #[ty_map_uint64_pheap_thing] 3 #[(.map all11)]) Hx8 fun v12 =>
 asI .i64 v12 fun len13 =>
 nilP h1 fun ha14 =>
 ldI .i64 (ha14.add 1) Hx8 fun most15 =>
 (bif (decide ((len13 : Int) ≥ most15)) then
 K (.tuple #[(.int .u64 0), (.int .i64 6)]) Hx8
else
 nilP h1 fun ha16 =>
 ldI .u64 (ha16.add 2) Hx8 fun last17 =>
 (bif ((last17 : Int) == 72057594037927935) then
 K (.tuple #[(.int .u64 0), (.int .i64 7)]) Hx8
else
 nilP h1 fun ha18 =>
 ldP (ha18.add 3) Hx8 fun cells19 =>
 hcall PR f_arena_Arena_Alloc ⟨[(.pointer cells19), (.int .i64 (IntKind.i64.wrap ((IntKind.i64.wrap (1 + refs2)) + vals3)))]⟩ Hx8 fun v20 Hx21 =>
 tup2 v20 fun v22 v23 =>
 asI .i64 v22 fun t24 =>
 asI .i64 v23 fun t25 =>
 (bif ((t25 : Int) != 0) then
 K (.tuple #[(.int .u64 0), (.int .i64 t25)]) Hx21
else
 nilP h1 fun ha26 =>
 ldI .u64 (ha26.add 2) Hx21 fun last27 =>
 nilP h1 fun ha28 =>
 st (ha28.add 2) (.int .u64 (IntKind.u64.wrap (last27 + 1))) Hx21 fun Hx29 =>
 ∀ R30 : Hp → Prop, (∀ Hx31 : Hp, (
 nilP h1 fun ha32 =>
 ldI .u64 (ha32.add 2) Hx31 fun last33 =>
 K (.tuple #[(.int .u64 last33), (.int .i64 0)]) Hx31) → R30 Hx31) →
 nilP h1 fun ha34 =>
 ldM (ha34.add 4) Hx29 fun all35 =>
 nilP h1 fun ha36 =>
 ldI .u64 (ha36.add 2) Hx29 fun last37 =>
 (evW PR (Instr.makeSlice ty_Sapi_ID (.int .i64 refs2) (.int .i64 refs2)) Hx29 fun v38 Hx39 =>
 asSl v38 fun mkP40 mkL41 mkC42 =>
 (ldI .u64 (ha36.add 2) Hx39 fun last43 =>
 ((.int .u64 last43) : Value) = (.int .u64 last37)) ∧
 (ldM (ha34.add 4) Hx39 fun all44 =>
 ((.map all44) : Value) = (.map all35)) ∧
 evW PR (Instr.makeSlice ty_Suint64 (.int .i64 vals3) (.int .i64 vals3)) Hx39 fun v45 Hx46 =>
 asSl v45 fun mkP47 mkL48 mkC49 =>
 (ldI .u64 (ha36.add 2) Hx46 fun last50 =>
 ((.int .u64 last50) : Value) = (.int .u64 last37)) ∧
 (ldM (ha34.add 4) Hx46 fun all51 =>
 ((.map all51) : Value) = (.map all35)) ∧
 newB (.cells #[(.int .i64 t24), (.slice mkP40 mkL41 mkC42), (.slice mkP47 mkL48 mkC49), (.int .i64 0)] ty_heap_thing) Hx46 fun b52 Hx53 =>
 (ldI .u64 (ha36.add 2) Hx53 fun last54 =>
 ((.int .u64 last54) : Value) = (.int .u64 last37)) ∧
 (ldM (ha34.add 4) Hx53 fun all55 =>
 ((.map all55) : Value) = (.map all35)) ∧
 evW PR (Instr.mapUpdate ty_map_uint64_pheap_thing (.map all35) (.int .u64 last37) (.pointer (some ⟨b52, 0, none⟩))) Hx53 fun v56 Hx57 =>
 R30 Hx57) ∧
 (evW PR (Instr.makeSlice ty_Suint64 (.int .i64 vals3) (.int .i64 vals3)) Hx29 fun v58 Hx59 =>
 asSl v58 fun mkP60 mkL61 mkC62 =>
 (ldI .u64 (ha36.add 2) Hx59 fun last63 =>
 ((.int .u64 last63) : Value) = (.int .u64 last37)) ∧
 (ldM (ha34.add 4) Hx59 fun all64 =>
 ((.map all64) : Value) = (.map all35)) ∧
 evW PR (Instr.makeSlice ty_Sapi_ID (.int .i64 refs2) (.int .i64 refs2)) Hx59 fun v65 Hx66 =>
 asSl v65 fun mkP67 mkL68 mkC69 =>
 (ldI .u64 (ha36.add 2) Hx66 fun last70 =>
 ((.int .u64 last70) : Value) = (.int .u64 last37)) ∧
 (ldM (ha34.add 4) Hx66 fun all71 =>
 ((.map all71) : Value) = (.map all35)) ∧
 newB (.cells #[(.int .i64 t24), (.slice mkP67 mkL68 mkC69), (.slice mkP60 mkL61 mkC62), (.int .i64 0)] ty_heap_thing) Hx66 fun b72 Hx73 =>
 (ldI .u64 (ha36.add 2) Hx73 fun last74 =>
 ((.int .u64 last74) : Value) = (.int .u64 last37)) ∧
 (ldM (ha34.add 4) Hx73 fun all75 =>
 ((.map all75) : Value) = (.map all35)) ∧
 evW PR (Instr.mapUpdate ty_map_uint64_pheap_thing (.map all35) (.int .u64 last37) (.pointer (some ⟨b72, 0, none⟩))) Hx73 fun v76 Hx77 =>
 R30 Hx77))))))
theorem E_heap_Heap_Make (h1 : Option Addr) (refs2 : Int) (vals3 : Int) (H : Hp) (K : Value → Hp → Prop) : B_heap_Heap_Make h1 refs2 vals3 H K = denF Tryz.prog Tryz.f16 (.seq none .n (.seq none .n (.seq none .n (.seq none .n (.seq none .n (.seq (some ⟨[], [0]⟩) .n .n)))))) [(.pointer h1), (.int .i64 refs2), (.int .i64 vals3)] H K := by kernel_rfl
theorem den_heap_Heap_Make {h1 : Option Addr} {refs2 : Int} {vals3 : Int} {H : Hp} {K : Value → Hp → Prop} (h : B_heap_Heap_Make h1 refs2 vals3 H K) : hcall PR f_heap_Heap_Make ⟨[(.pointer h1), (.int .i64 refs2), (.int .i64 vals3)]⟩ H K := denF_call Tryz.func16 PR_mixed (Eq.mp (E_heap_Heap_Make h1 refs2 vals3 H K) h)

def B_heap_Heap_SetIn (h1 : Option Addr) (serial2 : Int) (dist3 : Int) (H : Hp) (K : Value → Hp → Prop) : Prop :=
 (bif (decide ((dist3 : Int) < 0)) then
 K (.int .i64 1) H
else
 (bif (decide ((dist3 : Int) > 40)) then
 K (.int .i64 1) H
else
 nilP h1 fun ha4 =>
 ldM (ha4.add 4) H fun all5 =>
 evR PR (Instr.lookup ty_map_uint64_pheap_thing (.map all5) (.int .u64 serial2) false) H fun v6 =>
 asP v6 fun t7 =>
 (bif (Option.isNone (α := Addr) t7) then
 K (.int .i64 5) H
else
 nilP t7 fun ta8 =>
 st (ta8.add 3) (.int .i64 dist3) H fun Hx9 =>
 K (.int .i64 0) Hx9)))
theorem E_heap_Heap_SetIn (h1 : Option Addr) (serial2 : Int) (dist3 : Int) (H : Hp) (K : Value → Hp → Prop) : B_heap_Heap_SetIn h1 serial2 dist3 H K = denF Tryz.prog Tryz.f22 .n [(.pointer h1), (.int .u64 serial2), (.int .i64 dist3)] H K := by kernel_rfl
theorem den_heap_Heap_SetIn {h1 : Option Addr} {serial2 : Int} {dist3 : Int} {H : Hp} {K : Value → Hp → Prop} (h : B_heap_Heap_SetIn h1 serial2 dist3 H K) : hcall PR f_heap_Heap_SetIn ⟨[(.pointer h1), (.int .u64 serial2), (.int .i64 dist3)]⟩ H K := denF_call Tryz.func22 PR_mixed (Eq.mp (E_heap_Heap_SetIn h1 serial2 dist3 H K) h)

def B_heap_New (node1 : Int) (cells2 : Int) (objects3 : Int) (last4 : Int) (H : Hp) (K : Value → Hp → Prop) : Prop :=
 (bif (decide ((node1 : Int) < 1)) then
 K (.tuple #[(.pointer none), (.int .i64 1)]) H
else
 (bif (decide ((node1 : Int) > 64)) then
 K (.tuple #[(.pointer none), (.int .i64 1)]) H
else
 (bif (decide ((objects3 : Int) < 1)) then
 K (.tuple #[(.pointer none), (.int .i64 1)]) H
else
 (bif (decide ((objects3 : Int) > 64)) then
 K (.tuple #[(.pointer none), (.int .i64 1)]) H
else
 (bif (decide ((last4 : Int) > 72057594037927935)) then
 K (.tuple #[(.pointer none), (.int .i64 1)]) H
else
 hcall PR f_arena_New ⟨[(.int .i64 cells2)]⟩ H fun v5 Hx6 =>
 tup2 v5 fun v7 v8 =>
 asP v7 fun t9 =>
 asI .i64 v8 fun t10 =>
 (bif ((t10 : Int) != 0) then
 K (.tuple #[(.pointer none), (.int .i64 1)]) Hx6
else
 newB (.map #[] 0) Hx6 fun b11 Hx12 =>
 newB (.cells #[(.int .i64 node1), (.int .i64 objects3), (.int .u64 last4), (.pointer t9), (.map (some b11))] ty_heap_Heap) Hx12 fun b13 Hx14 =>
 K (.tuple #[(.pointer (some ⟨b13, 0, none⟩)), (.int .i64 0)]) Hx14))))))
theorem E_heap_New (node1 : Int) (cells2 : Int) (objects3 : Int) (last4 : Int) (H : Hp) (K : Value → Hp → Prop) : B_heap_New node1 cells2 objects3 last4 H K = denF Tryz.prog Tryz.f29 .n [(.int .i64 node1), (.int .i64 cells2), (.int .i64 objects3), (.int .u64 last4)] H K := by kernel_rfl
theorem den_heap_New {node1 : Int} {cells2 : Int} {objects3 : Int} {last4 : Int} {H : Hp} {K : Value → Hp → Prop} (h : B_heap_New node1 cells2 objects3 last4 H K) : hcall PR f_heap_New ⟨[(.int .i64 node1), (.int .i64 cells2), (.int .i64 objects3), (.int .u64 last4)]⟩ H K := denF_call Tryz.func29 PR_mixed (Eq.mp (E_heap_New node1 cells2 objects3 last4 H K) h)

def B_heap_Heap_Len (h1 : Option Addr) (H : Hp) (K : Value → Hp → Prop) : Prop :=
 nilP h1 fun ha2 =>
 ldM (ha2.add 4) H fun all3 =>
 evR PR (Builtin.len_ #[ty_map_uint64_pheap_thing] 3 #[(.map all3)]) H fun v4 =>
 asI .i64 v4 fun len5 =>
 K (.int .i64 len5) H
theorem E_heap_Heap_Len (h1 : Option Addr) (H : Hp) (K : Value → Hp → Prop) : B_heap_Heap_Len h1 H K = denF Tryz.prog Tryz.f34 .n [(.pointer h1)] H K := by kernel_rfl
theorem den_heap_Heap_Len {h1 : Option Addr} {H : Hp} {K : Value → Hp → Prop} (h : B_heap_Heap_Len h1 H K) : hcall PR f_heap_Heap_Len ⟨[(.pointer h1)]⟩ H K := denF_call Tryz.func34 PR_mixed (Eq.mp (E_heap_Heap_Len h1 H K) h)

def B_heap_Heap_Node (h1 : Option Addr) (H : Hp) (K : Value → Hp → Prop) : Prop :=
 nilP h1 fun ha2 =>
 ldI .i64 ha2 H fun node3 =>
 K (.int .i64 node3) H
theorem E_heap_Heap_Node (h1 : Option Addr) (H : Hp) (K : Value → Hp → Prop) : B_heap_Heap_Node h1 H K = denF Tryz.prog Tryz.f37 .n [(.pointer h1)] H K := by kernel_rfl
theorem den_heap_Heap_Node {h1 : Option Addr} {H : Hp} {K : Value → Hp → Prop} (h : B_heap_Heap_Node h1 H K) : hcall PR f_heap_Heap_Node ⟨[(.pointer h1)]⟩ H K := denF_call Tryz.func37 PR_mixed (Eq.mp (E_heap_Heap_Node h1 H K) h)

def B_heap_right (xNode1 : Int) (xSerial2 : Int) (H : Hp) (K : Value → Hp → Prop) : Prop :=
 newB (.cells #[(.int .i64 xNode1), (.int .u64 xSerial2)] ty_api_ID) H fun b3 Hx4 =>
 ldI .i64 ⟨b3, 0, none⟩ Hx4 fun Node5 =>
 ldI .u64 ⟨b3, 1, none⟩ Hx4 fun Serial6 =>
 evR PR (aggEq .eql ty_api_ID #[(.int .i64 Node5), (.int .u64 Serial6)] #[(.int .i64 0), (.int .u64 0)]) Hx4 fun v7 =>
 asB v7 fun eq8 =>
 (bif eq8 then
 K (.bool true) Hx4
else
 ldI .i64 ⟨b3, 0, none⟩ Hx4 fun Node9 =>
 (bif (decide ((Node9 : Int) ≥ 1)) then
 ldI .i64 ⟨b3, 0, none⟩ Hx4 fun Node10 =>
 (bif (decide ((Node10 : Int) ≤ 64)) then
 ldI .u64 ⟨b3, 1, none⟩ Hx4 fun Serial11 =>
 (bif (decide ((Serial11 : Int) ≥ 1)) then
 ldI .u64 ⟨b3, 1, none⟩ Hx4 fun Serial12 =>
 K (.bool (decide ((Serial12 : Int) ≤ 72057594037927935))) Hx4
else
 K (.bool false) Hx4)
else
 K (.bool false) Hx4)
else
 K (.bool false) Hx4))
theorem E_heap_right (xNode1 : Int) (xSerial2 : Int) (H : Hp) (K : Value → Hp → Prop) : B_heap_right xNode1 xSerial2 H K = denF Tryz.prog Tryz.f47 .n [(.agg #[(.int .i64 xNode1), (.int .u64 xSerial2)])] H K := by kernel_rfl
theorem den_heap_right {xNode1 : Int} {xSerial2 : Int} {H : Hp} {K : Value → Hp → Prop} (h : B_heap_right xNode1 xSerial2 H K) : hcall PR f_heap_right ⟨[(.agg #[(.int .i64 xNode1), (.int .u64 xSerial2)])]⟩ H K := denF_call Tryz.func47 PR_mixed (Eq.mp (E_heap_right xNode1 xSerial2 H K) h)

def B_heap_Heap_Ref (h1 : Option Addr) (serial2 : Int) (field3 : Int) (H : Hp) (K : Value → Hp → Prop) : Prop :=
 newB (.cells #[(.int .i64 0), (.int .u64 0)] ty_api_ID) H fun b4 Hx5 =>
 nilP h1 fun ha6 =>
 ldM (ha6.add 4) Hx5 fun all7 =>
 evR PR (Instr.lookup ty_map_uint64_pheap_thing (.map all7) (.int .u64 serial2) false) Hx5 fun v8 =>
 asP v8 fun t9 =>
 (bif (Option.isNone (α := Addr) t9) then
 st ⟨b4, 0, none⟩ (.int .i64 0) Hx5 fun Hx10 =>
 st ⟨b4, 1, none⟩ (.int .u64 0) Hx10 fun Hx11 =>
 ldI .i64 ⟨b4, 0, none⟩ Hx11 fun Node12 =>
 ldI .u64 ⟨b4, 1, none⟩ Hx11 fun Serial13 =>
 K (.tuple #[(.agg #[(.int .i64 Node12), (.int .u64 Serial13)]), (.int .i64 5)]) Hx11
else
 nilP t9 fun ta14 =>
 ldSl (ta14.add 1) Hx5 fun refsP15 refsL16 refsC17 =>
 hcall PR f_heap_in ⟨[(.int .i64 field3), (.int .i64 (refsL16 : Int))]⟩ Hx5 fun v18 Hx19 =>
 asB v18 fun t20 =>
 (bif (!t20) then
 st ⟨b4, 0, none⟩ (.int .i64 0) Hx19 fun Hx21 =>
 st ⟨b4, 1, none⟩ (.int .u64 0) Hx21 fun Hx22 =>
 ldI .i64 ⟨b4, 0, none⟩ Hx22 fun Node23 =>
 ldI .u64 ⟨b4, 1, none⟩ Hx22 fun Serial24 =>
 K (.tuple #[(.agg #[(.int .i64 Node23), (.int .u64 Serial24)]), (.int .i64 5)]) Hx22
else
 nilP t9 fun ta25 =>
 ldSl (ta25.add 1) Hx19 fun refsP26 refsL27 refsC28 =>
 idxA refsP26 refsL27 field3 2 fun el29 =>
 ldI .i64 el29 Hx19 fun Node30 =>
 ldI .u64 (el29.add 1) Hx19 fun Serial31 =>
 st ⟨b4, 0, none⟩ (.int .i64 Node30) Hx19 fun Hx32 =>
 st ⟨b4, 1, none⟩ (.int .u64 Serial31) Hx32 fun Hx33 =>
 ldI .i64 ⟨b4, 0, none⟩ Hx33 fun Node34 =>
 ldI .u64 ⟨b4, 1, none⟩ Hx33 fun Serial35 =>
 K (.tuple #[(.agg #[(.int .i64 Node34), (.int .u64 Serial35)]), (.int .i64 0)]) Hx33))
theorem E_heap_Heap_Ref (h1 : Option Addr) (serial2 : Int) (field3 : Int) (H : Hp) (K : Value → Hp → Prop) : B_heap_Heap_Ref h1 serial2 field3 H K = denF Tryz.prog Tryz.f48 .n [(.pointer h1), (.int .u64 serial2), (.int .i64 field3)] H K := by kernel_rfl
theorem den_heap_Heap_Ref {h1 : Option Addr} {serial2 : Int} {field3 : Int} {H : Hp} {K : Value → Hp → Prop} (h : B_heap_Heap_Ref h1 serial2 field3 H K) : hcall PR f_heap_Heap_Ref ⟨[(.pointer h1), (.int .u64 serial2), (.int .i64 field3)]⟩ H K := denF_call Tryz.func48 PR_mixed (Eq.mp (E_heap_Heap_Ref h1 serial2 field3 H K) h)

def B_heap_fields (n1 : Int) (H : Hp) (K : Value → Hp → Prop) : Prop :=
 (bif (decide ((n1 : Int) ≥ 0)) then
 K (.bool (decide ((n1 : Int) ≤ 7))) H
else
 K (.bool false) H)
theorem E_heap_fields (n1 : Int) (H : Hp) (K : Value → Hp → Prop) : B_heap_fields n1 H K = denF Tryz.prog Tryz.f57 .n [(.int .i64 n1)] H K := by kernel_rfl
theorem den_heap_fields {n1 : Int} {H : Hp} {K : Value → Hp → Prop} (h : B_heap_fields n1 H K) : hcall PR f_heap_fields ⟨[(.int .i64 n1)]⟩ H K := denF_call Tryz.func57 PR_mixed (Eq.mp (E_heap_fields n1 H K) h)

def B_heap_in (k1 : Int) (n2 : Int) (H : Hp) (K : Value → Hp → Prop) : Prop :=
 (bif (decide ((k1 : Int) ≥ 0)) then
 K (.bool (decide ((k1 : Int) < n2))) H
else
 K (.bool false) H)
theorem E_heap_in (k1 : Int) (n2 : Int) (H : Hp) (K : Value → Hp → Prop) : B_heap_in k1 n2 H K = denF Tryz.prog Tryz.f97 .n [(.int .i64 k1), (.int .i64 n2)] H K := by kernel_rfl
theorem den_heap_in {k1 : Int} {n2 : Int} {H : Hp} {K : Value → Hp → Prop} (h : B_heap_in k1 n2 H K) : hcall PR f_heap_in ⟨[(.int .i64 k1), (.int .i64 n2)]⟩ H K := denF_call Tryz.func97 PR_mixed (Eq.mp (E_heap_in k1 n2 H K) h)

def B_heap_Heap_Last (h1 : Option Addr) (H : Hp) (K : Value → Hp → Prop) : Prop :=
 nilP h1 fun ha2 =>
 ldI .u64 (ha2.add 2) H fun last3 =>
 K (.int .u64 last3) H
theorem E_heap_Heap_Last (h1 : Option Addr) (H : Hp) (K : Value → Hp → Prop) : B_heap_Heap_Last h1 H K = denF Tryz.prog Tryz.f108 .n [(.pointer h1)] H K := by kernel_rfl
theorem den_heap_Heap_Last {h1 : Option Addr} {H : Hp} {K : Value → Hp → Prop} (h : B_heap_Heap_Last h1 H K) : hcall PR f_heap_Heap_Last ⟨[(.pointer h1)]⟩ H K := denF_call Tryz.func108 PR_mixed (Eq.mp (E_heap_Heap_Last h1 H K) h)

def B_heap_Heap_Next (h1 : Option Addr) (serial2 : Int) (H : Hp) (K : Value → Hp → Prop) : Prop :=
 nilP h1 fun ha3 =>
 ldM (ha3.add 4) H fun all4 =>
 evW PR (Instr.range ty_map_uint64_pheap_thing (.map all4)) H fun v5 Hx6 =>
 asA v5 fun it7 =>
 ∃ (I8 : Int → Bool → Hp → Prop) (m9 : Int → Bool → Hp → Nat), I8 0 false Hx6 ∧ ∀ least11 : Int, ∀ ok12 : Bool, ∀ Hx10 : Hp, I8 least11 ok12 Hx10 →
 ∀ R13 : Bool → Hp → Prop, (∀ t15 : Bool, ∀ Hx14 : Hp, (
 (bif t15 then
 evW PR (Instr.entry (.pointer (some it7))) Hx14 fun en16 Hx17 =>
 extractD en16 0 fun v18 =>
 asI .u64 v18 fun t19 =>
 (bif (decide ((t19 : Int) > serial2)) then
 (bif (!ok12) then
 I8 t19 true Hx17 ∧ m9 t19 true Hx17 < m9 least11 ok12 Hx10
else
 (bif (decide ((t19 : Int) < least11)) then
 I8 t19 true Hx17 ∧ m9 t19 true Hx17 < m9 least11 ok12 Hx10
else
 I8 least11 ok12 Hx17 ∧ m9 least11 ok12 Hx17 < m9 least11 ok12 Hx10))
else
 I8 least11 ok12 Hx17 ∧ m9 least11 ok12 Hx17 < m9 least11 ok12 Hx10)
else
 K (.tuple #[(.int .u64 least11), (.bool ok12)]) Hx14)) → R13 t15 Hx14) →
 evW PR (Instr.next (.pointer (some it7)) false 0) Hx10 fun nx20 Hx21 =>
 nextC nx20 (
 R13 false Hx21) fun k22 x23 =>
 R13 true Hx21
theorem E_heap_Heap_Next (h1 : Option Addr) (serial2 : Int) (H : Hp) (K : Value → Hp → Prop) : B_heap_Heap_Next h1 serial2 H K = denF Tryz.prog Tryz.f109 (.seq none .n (.seq none .n (.seq none (.seq none .n (.sub (.loop ⟨[(6, .int .u64), (7, .bool)], [1, 13]⟩ (.seq (some ⟨[(15, .bool)], [1, 6, 7, 13]⟩) .n .n)))) .n))) [(.pointer h1), (.int .u64 serial2)] H K := by kernel_rfl
theorem den_heap_Heap_Next {h1 : Option Addr} {serial2 : Int} {H : Hp} {K : Value → Hp → Prop} (h : B_heap_Heap_Next h1 serial2 H K) : hcall PR f_heap_Heap_Next ⟨[(.pointer h1), (.int .u64 serial2)]⟩ H K := denF_call Tryz.func109 PR_mixed (Eq.mp (E_heap_Heap_Next h1 serial2 H K) h)

def B_heap_Heap_Object (h1 : Option Addr) (serial2 : Int) (H : Hp) (K : Value → Hp → Prop) : Prop :=
 newB (.cells #[(.int .u64 0), (.int .i64 0), (.slice none 0 0), (.slice none 0 0), (.int .i64 0)] ty_api_Object) H fun b3 Hx4 =>
 nilP h1 fun ha5 =>
 ldM (ha5.add 4) Hx4 fun all6 =>
 evR PR (Instr.lookup ty_map_uint64_pheap_thing (.map all6) (.int .u64 serial2) false) Hx4 fun v7 =>
 asP v7 fun t8 =>
 (bif (Option.isNone (α := Addr) t8) then
 st ⟨b3, 0, none⟩ (.int .u64 0) Hx4 fun Hx9 =>
 st ⟨b3, 1, none⟩ (.int .i64 0) Hx9 fun Hx10 =>
 st ⟨b3, 2, none⟩ (.slice none 0 0) Hx10 fun Hx11 =>
 st ⟨b3, 3, none⟩ (.slice none 0 0) Hx11 fun Hx12 =>
 st ⟨b3, 4, none⟩ (.int .i64 0) Hx12 fun Hx13 =>
 ldI .u64 ⟨b3, 0, none⟩ Hx13 fun Serial14 =>
 ldI .i64 ⟨b3, 1, none⟩ Hx13 fun Cell15 =>
 ldSl ⟨b3, 2, none⟩ Hx13 fun RefsP16 RefsL17 RefsC18 =>
 ldSl ⟨b3, 3, none⟩ Hx13 fun ValsP19 ValsL20 ValsC21 =>
 ldI .i64 ⟨b3, 4, none⟩ Hx13 fun In22 =>
 K (.tuple #[(.agg #[(.int .u64 Serial14), (.int .i64 Cell15), (.slice RefsP16 RefsL17 RefsC18), (.slice ValsP19 ValsL20 ValsC21), (.int .i64 In22)]), (.bool false)]) Hx13
else
 nilP t8 fun ta23 =>
 ldI .i64 ta23 Hx4 fun cell24 =>
 nilP t8 fun ta25 =>
 ldSl (ta25.add 1) Hx4 fun refsP26 refsL27 refsC28 =>
 nilP t8 fun ta29 =>
 ldSl (ta29.add 2) Hx4 fun valsP30 valsL31 valsC32 =>
 nilP t8 fun ta33 =>
 ldI .i64 (ta33.add 3) Hx4 fun inx34 =>
 (newB (.cells #[] ty_api_ID) Hx4 fun b35 Hx36 =>
 (ldI .i64 (ta33.add 3) Hx36 fun inx37 =>
 ((.int .i64 inx37) : Value) = (.int .i64 inx34)) ∧
 (ldSl (ta29.add 2) Hx36 fun valsP38 valsL39 valsC40 =>
 ((.slice valsP38 valsL39 valsC40) : Value) = (.slice valsP30 valsL31 valsC32)) ∧
 (ldSl (ta25.add 1) Hx36 fun refsP41 refsL42 refsC43 =>
 ((.slice refsP41 refsL42 refsC43) : Value) = (.slice refsP26 refsL27 refsC28)) ∧
 (ldI .i64 ta23 Hx36 fun cell44 =>
 ((.int .i64 cell44) : Value) = (.int .i64 cell24)) ∧
 (evW PR (Builtin.append_ #[ty_Sapi_ID, ty_Sapi_ID] ty_Sapi_ID #[(.slice (some ⟨b35, 0, none⟩) 0 0), (.slice refsP26 refsL27 refsC28)]) Hx36 fun v45 Hx46 =>
 asSl v45 fun tP47 tL48 tC49 =>
 (ldI .i64 (ta33.add 3) Hx46 fun inx50 =>
 ((.int .i64 inx50) : Value) = (.int .i64 inx34)) ∧
 (ldSl (ta29.add 2) Hx46 fun valsP51 valsL52 valsC53 =>
 ((.slice valsP51 valsL52 valsC53) : Value) = (.slice valsP30 valsL31 valsC32)) ∧
 (ldI .i64 ta23 Hx46 fun cell54 =>
 ((.int .i64 cell54) : Value) = (.int .i64 cell24)) ∧
 newB (.cells #[] ty_uint64) Hx46 fun b55 Hx56 =>
 (ldI .i64 (ta33.add 3) Hx56 fun inx57 =>
 ((.int .i64 inx57) : Value) = (.int .i64 inx34)) ∧
 (ldSl (ta29.add 2) Hx56 fun valsP58 valsL59 valsC60 =>
 ((.slice valsP58 valsL59 valsC60) : Value) = (.slice valsP30 valsL31 valsC32)) ∧
 (ldI .i64 ta23 Hx56 fun cell61 =>
 ((.int .i64 cell61) : Value) = (.int .i64 cell24)) ∧
 evW PR (Builtin.append_ #[ty_Suint64, ty_Suint64] ty_Suint64 #[(.slice (some ⟨b55, 0, none⟩) 0 0), (.slice valsP30 valsL31 valsC32)]) Hx56 fun v62 Hx63 =>
 asSl v62 fun tP64 tL65 tC66 =>
 (ldI .i64 (ta33.add 3) Hx63 fun inx67 =>
 ((.int .i64 inx67) : Value) = (.int .i64 inx34)) ∧
 (ldI .i64 ta23 Hx63 fun cell68 =>
 ((.int .i64 cell68) : Value) = (.int .i64 cell24)) ∧
 st ⟨b3, 0, none⟩ (.int .u64 serial2) Hx63 fun Hx69 =>
 st ⟨b3, 1, none⟩ (.int .i64 cell24) Hx69 fun Hx70 =>
 st ⟨b3, 2, none⟩ (.slice tP47 tL48 tC49) Hx70 fun Hx71 =>
 st ⟨b3, 3, none⟩ (.slice tP64 tL65 tC66) Hx71 fun Hx72 =>
 st ⟨b3, 4, none⟩ (.int .i64 inx34) Hx72 fun Hx73 =>
 ldI .u64 ⟨b3, 0, none⟩ Hx73 fun Serial74 =>
 ldI .i64 ⟨b3, 1, none⟩ Hx73 fun Cell75 =>
 ldSl ⟨b3, 2, none⟩ Hx73 fun RefsP76 RefsL77 RefsC78 =>
 ldSl ⟨b3, 3, none⟩ Hx73 fun ValsP79 ValsL80 ValsC81 =>
 ldI .i64 ⟨b3, 4, none⟩ Hx73 fun In82 =>
 K (.tuple #[(.agg #[(.int .u64 Serial74), (.int .i64 Cell75), (.slice RefsP76 RefsL77 RefsC78), (.slice ValsP79 ValsL80 ValsC81), (.int .i64 In82)]), (.bool true)]) Hx73) ∧
 (newB (.cells #[] ty_uint64) Hx36 fun b83 Hx84 =>
 (ldI .i64 (ta33.add 3) Hx84 fun inx85 =>
 ((.int .i64 inx85) : Value) = (.int .i64 inx34)) ∧
 (ldSl (ta29.add 2) Hx84 fun valsP86 valsL87 valsC88 =>
 ((.slice valsP86 valsL87 valsC88) : Value) = (.slice valsP30 valsL31 valsC32)) ∧
 (ldSl (ta25.add 1) Hx84 fun refsP89 refsL90 refsC91 =>
 ((.slice refsP89 refsL90 refsC91) : Value) = (.slice refsP26 refsL27 refsC28)) ∧
 (ldI .i64 ta23 Hx84 fun cell92 =>
 ((.int .i64 cell92) : Value) = (.int .i64 cell24)) ∧
 evW PR (Builtin.append_ #[ty_Sapi_ID, ty_Sapi_ID] ty_Sapi_ID #[(.slice (some ⟨b35, 0, none⟩) 0 0), (.slice refsP26 refsL27 refsC28)]) Hx84 fun v93 Hx94 =>
 asSl v93 fun tP95 tL96 tC97 =>
 (ldI .i64 (ta33.add 3) Hx94 fun inx98 =>
 ((.int .i64 inx98) : Value) = (.int .i64 inx34)) ∧
 (ldSl (ta29.add 2) Hx94 fun valsP99 valsL100 valsC101 =>
 ((.slice valsP99 valsL100 valsC101) : Value) = (.slice valsP30 valsL31 valsC32)) ∧
 (ldI .i64 ta23 Hx94 fun cell102 =>
 ((.int .i64 cell102) : Value) = (.int .i64 cell24)) ∧
 evW PR (Builtin.append_ #[ty_Suint64, ty_Suint64] ty_Suint64 #[(.slice (some ⟨b83, 0, none⟩) 0 0), (.slice valsP30 valsL31 valsC32)]) Hx94 fun v103 Hx104 =>
 asSl v103 fun tP105 tL106 tC107 =>
 (ldI .i64 (ta33.add 3) Hx104 fun inx108 =>
 ((.int .i64 inx108) : Value) = (.int .i64 inx34)) ∧
 (ldI .i64 ta23 Hx104 fun cell109 =>
 ((.int .i64 cell109) : Value) = (.int .i64 cell24)) ∧
 st ⟨b3, 0, none⟩ (.int .u64 serial2) Hx104 fun Hx110 =>
 st ⟨b3, 1, none⟩ (.int .i64 cell24) Hx110 fun Hx111 =>
 st ⟨b3, 2, none⟩ (.slice tP95 tL96 tC97) Hx111 fun Hx112 =>
 st ⟨b3, 3, none⟩ (.slice tP105 tL106 tC107) Hx112 fun Hx113 =>
 st ⟨b3, 4, none⟩ (.int .i64 inx34) Hx113 fun Hx114 =>
 ldI .u64 ⟨b3, 0, none⟩ Hx114 fun Serial115 =>
 ldI .i64 ⟨b3, 1, none⟩ Hx114 fun Cell116 =>
 ldSl ⟨b3, 2, none⟩ Hx114 fun RefsP117 RefsL118 RefsC119 =>
 ldSl ⟨b3, 3, none⟩ Hx114 fun ValsP120 ValsL121 ValsC122 =>
 ldI .i64 ⟨b3, 4, none⟩ Hx114 fun In123 =>
 K (.tuple #[(.agg #[(.int .u64 Serial115), (.int .i64 Cell116), (.slice RefsP117 RefsL118 RefsC119), (.slice ValsP120 ValsL121 ValsC122), (.int .i64 In123)]), (.bool true)]) Hx114)) ∧
 (newB (.cells #[] ty_uint64) Hx4 fun b124 Hx125 =>
 (ldI .i64 (ta33.add 3) Hx125 fun inx126 =>
 ((.int .i64 inx126) : Value) = (.int .i64 inx34)) ∧
 (ldSl (ta29.add 2) Hx125 fun valsP127 valsL128 valsC129 =>
 ((.slice valsP127 valsL128 valsC129) : Value) = (.slice valsP30 valsL31 valsC32)) ∧
 (ldSl (ta25.add 1) Hx125 fun refsP130 refsL131 refsC132 =>
 ((.slice refsP130 refsL131 refsC132) : Value) = (.slice refsP26 refsL27 refsC28)) ∧
 (ldI .i64 ta23 Hx125 fun cell133 =>
 ((.int .i64 cell133) : Value) = (.int .i64 cell24)) ∧
 newB (.cells #[] ty_api_ID) Hx125 fun b134 Hx135 =>
 (ldI .i64 (ta33.add 3) Hx135 fun inx136 =>
 ((.int .i64 inx136) : Value) = (.int .i64 inx34)) ∧
 (ldSl (ta29.add 2) Hx135 fun valsP137 valsL138 valsC139 =>
 ((.slice valsP137 valsL138 valsC139) : Value) = (.slice valsP30 valsL31 valsC32)) ∧
 (ldSl (ta25.add 1) Hx135 fun refsP140 refsL141 refsC142 =>
 ((.slice refsP140 refsL141 refsC142) : Value) = (.slice refsP26 refsL27 refsC28)) ∧
 (ldI .i64 ta23 Hx135 fun cell143 =>
 ((.int .i64 cell143) : Value) = (.int .i64 cell24)) ∧
 evW PR (Builtin.append_ #[ty_Sapi_ID, ty_Sapi_ID] ty_Sapi_ID #[(.slice (some ⟨b134, 0, none⟩) 0 0), (.slice refsP26 refsL27 refsC28)]) Hx135 fun v144 Hx145 =>
 asSl v144 fun tP146 tL147 tC148 =>
 (ldI .i64 (ta33.add 3) Hx145 fun inx149 =>
 ((.int .i64 inx149) : Value) = (.int .i64 inx34)) ∧
 (ldSl (ta29.add 2) Hx145 fun valsP150 valsL151 valsC152 =>
 ((.slice valsP150 valsL151 valsC152) : Value) = (.slice valsP30 valsL31 valsC32)) ∧
 (ldI .i64 ta23 Hx145 fun cell153 =>
 ((.int .i64 cell153) : Value) = (.int .i64 cell24)) ∧
 evW PR (Builtin.append_ #[ty_Suint64, ty_Suint64] ty_Suint64 #[(.slice (some ⟨b124, 0, none⟩) 0 0), (.slice valsP30 valsL31 valsC32)]) Hx145 fun v154 Hx155 =>
 asSl v154 fun tP156 tL157 tC158 =>
 (ldI .i64 (ta33.add 3) Hx155 fun inx159 =>
 ((.int .i64 inx159) : Value) = (.int .i64 inx34)) ∧
 (ldI .i64 ta23 Hx155 fun cell160 =>
 ((.int .i64 cell160) : Value) = (.int .i64 cell24)) ∧
 st ⟨b3, 0, none⟩ (.int .u64 serial2) Hx155 fun Hx161 =>
 st ⟨b3, 1, none⟩ (.int .i64 cell24) Hx161 fun Hx162 =>
 st ⟨b3, 2, none⟩ (.slice tP146 tL147 tC148) Hx162 fun Hx163 =>
 st ⟨b3, 3, none⟩ (.slice tP156 tL157 tC158) Hx163 fun Hx164 =>
 st ⟨b3, 4, none⟩ (.int .i64 inx34) Hx164 fun Hx165 =>
 ldI .u64 ⟨b3, 0, none⟩ Hx165 fun Serial166 =>
 ldI .i64 ⟨b3, 1, none⟩ Hx165 fun Cell167 =>
 ldSl ⟨b3, 2, none⟩ Hx165 fun RefsP168 RefsL169 RefsC170 =>
 ldSl ⟨b3, 3, none⟩ Hx165 fun ValsP171 ValsL172 ValsC173 =>
 ldI .i64 ⟨b3, 4, none⟩ Hx165 fun In174 =>
 K (.tuple #[(.agg #[(.int .u64 Serial166), (.int .i64 Cell167), (.slice RefsP168 RefsL169 RefsC170), (.slice ValsP171 ValsL172 ValsC173), (.int .i64 In174)]), (.bool true)]) Hx165))
theorem E_heap_Heap_Object (h1 : Option Addr) (serial2 : Int) (H : Hp) (K : Value → Hp → Prop) : B_heap_Heap_Object h1 serial2 H K = denF Tryz.prog Tryz.f123 .n [(.pointer h1), (.int .u64 serial2)] H K := by kernel_rfl
theorem den_heap_Heap_Object {h1 : Option Addr} {serial2 : Int} {H : Hp} {K : Value → Hp → Prop} (h : B_heap_Heap_Object h1 serial2 H K) : hcall PR f_heap_Heap_Object ⟨[(.pointer h1), (.int .u64 serial2)]⟩ H K := denF_call Tryz.func123 PR_mixed (Eq.mp (E_heap_Heap_Object h1 serial2 H K) h)

def B_heap_Heap_Free (h1 : Option Addr) (serial2 : Int) (H : Hp) (K : Value → Hp → Prop) : Prop :=
 nilP h1 fun ha3 =>
 ldM (ha3.add 4) H fun all4 =>
 evR PR (Instr.lookup ty_map_uint64_pheap_thing (.map all4) (.int .u64 serial2) false) H fun v5 =>
 asP v5 fun t6 =>
 (bif (Option.isNone (α := Addr) t6) then
 K (.int .i64 5) H
else
 nilP h1 fun ha7 =>
 ldP (ha7.add 3) H fun cells8 =>
 nilP t6 fun ta9 =>
 ldI .i64 ta9 H fun cell10 =>
 hcall PR f_arena_Arena_Free ⟨[(.pointer cells8), (.int .i64 cell10)]⟩ H fun v11 Hx12 =>
 asI .i64 v11 fun t13 =>
 nilP h1 fun ha14 =>
 ldM (ha14.add 4) Hx12 fun all15 =>
 evW PR (Builtin.delete_ #[ty_map_uint64_pheap_thing, ty_uint64] ty_ #[(.map all15), (.int .u64 serial2)]) Hx12 fun v16 Hx17 =>
 K (.int .i64 0) Hx17)
theorem E_heap_Heap_Free (h1 : Option Addr) (serial2 : Int) (H : Hp) (K : Value → Hp → Prop) : B_heap_Heap_Free h1 serial2 H K = denF Tryz.prog Tryz.f137 .n [(.pointer h1), (.int .u64 serial2)] H K := by kernel_rfl
theorem den_heap_Heap_Free {h1 : Option Addr} {serial2 : Int} {H : Hp} {K : Value → Hp → Prop} (h : B_heap_Heap_Free h1 serial2 H K) : hcall PR f_heap_Heap_Free ⟨[(.pointer h1), (.int .u64 serial2)]⟩ H K := denF_call Tryz.func137 PR_mixed (Eq.mp (E_heap_Heap_Free h1 serial2 H K) h)

end Go.Proofs.YtflfodcemnapeaaGreat

namespace Go.Proofs.YtflfodcemnapeaaGreat
set_option linter.unusedSimpArgs false
set_option linter.unusedVariables false
open Go
/-- An object, as it stands. -/
def ThingP (b : Nat) (o : Ob) : Prt := Prt.ex fun (x : Option Addr × Nat × Option Addr × Nat × Nat) =>
 Prt.list [Prt.one b (.cells #[.int .i64 o.cell, .slice x.1 o.refs.length x.2.1, .slice x.2.2.1 o.vals.length x.2.2.2.1, .int .i64 o.din] x.2.2.2.2 (0, 0)),
  Prt.row 2 x.1 o.refs.length x.2.1 (cel Id.cells o.refs), Prt.row 1 x.2.2.1 o.vals.length x.2.2.2.1 (o.vals.map (Value.int .u64))]

def ptrV (b : Nat) : Value := .pointer (some ⟨b, 0, none⟩)

structure HpX where
 a : Nat
 m : Nat
 ps : List (Ob × Nat)
 T : Nat
def hpMap (ps : List (Ob × Nat)) : List (Int × Nat) := ps.map fun p => (p.1.ser, p.2)
def heapParts (h : Nat) (s : Hs) (x : HpX) : List Prt :=
 [Prt.one h (.cells #[.int .i64 s.node, .int .i64 s.most, .int .u64 s.last, ptrV x.a, .map (some x.m)] x.T (0, 0)), Arn x.a s.ar, Prt.mp x.m (ments (Value.int .u64) ptrV (hpMap x.ps)),
  Prt.list (x.ps.map fun p => ThingP p.2 p.1), Prt.pure (x.ps.map (·.1) = s.obs ∧ s.ok)]
/-- A heap, as it stands. -/
def HeapP (h : Nat) (s : Hs) : Prt := Prt.ex fun x => Prt.list (heapParts h s x)

theorem hp_map_ok : PR.underlying ty_map_uint64_pheap_thing = some (.map ty_uint64 ty_pheap_thing) := by kernel_rfl
theorem hp_key : KeyK PR ty_uint64 (Value.int .u64) := KeyK.int (by kernel_rfl)
theorem hp_zero : ((PR.info? ty_pheap_thing).bind (·.zero)) = some (.pointer none) := by kernel_rfl

theorem hpMap_nod {ps : List (Ob × Nat)} {s : Hs} (h : ps.map (·.1) = s.obs) (ho : s.ok) : mnod (hpMap ps) := by
 unfold mnod hpMap
 rw [List.map_map]
 have : (ps.map ((·.1) ∘ fun p : Ob × Nat => (p.1.ser, p.2))) = s.obs.map (·.ser) := by rw [← h, List.map_map]; rfl
 rw [this]
 have := ho.rise
 rw [List.Nodup, List.pairwise_map]
 exact this.imp fun h e => by omega
/-- A serial's place. -/
theorem hpMap_place {ps : List (Ob × Nat)} {s : Hs} (h : ps.map (·.1) = s.obs) (ho : s.ok) (k : Int) :
  (hGet s k = none ∧ mlook (hpMap ps) k = none) ∨ ∃ (j : Nat) (o : Ob) (b : Nat), ps[j]? = some (o, b) ∧ o.ser = k ∧ hGet s k = some o ∧ mlook (hpMap ps) k = some b ∧ s.obs[j]? = some o := by
 rcases hGet_place ho k with ⟨h1, h2⟩ | ⟨j, o, hj, rfl, hg⟩
 ·refine .inl ⟨h1, mlook_none.2 fun p hp => ?_⟩
  obtain ⟨q, hq, rfl⟩ := List.mem_map.1 hp
  exact h2 q.1 (by rw [← h]; exact List.mem_map.2 ⟨q, hq, rfl⟩)
 ·have hj' := hj
  rw [← h, List.getElem?_map, Option.map_eq_some_iff] at hj'
  obtain ⟨⟨o', b⟩, hp, rfl⟩ := hj'
  exact .inr ⟨j, o', b, hp, rfl, hg, mlook_of (hpMap_nod h ho) (List.mem_map.2 ⟨_, List.mem_of_getElem? hp, rfl⟩), hj⟩

section
variable {H0 H : Hp} {L : List Prt} {i hb : Nat} {s : Hs} {K : Value → Hp → Prop}
theorem heapOpen (h : St H0 L H) (hi : L[i]? = some (HeapP hb s)) : ∃ x, St H0 (heapParts hb s x ++ L.set i .nil) H ∧ x.ps.map (·.1) = s.obs ∧ s.ok := by
 obtain ⟨x, h1⟩ := h.openEx hi
 have := h1.fact (i := 4) (p := x.ps.map (·.1) = s.obs ∧ s.ok) rfl
 exact ⟨x, h1, this.1, this.2⟩
theorem heapShut {A : Prt} {s' : Hs} {x : HpX} (h : St H0 (heapParts hb s' x ++ L.set i .nil) H) (hi : L[i]? = some A) : St H0 (L.set i (HeapP hb s')) H := h.shutEx (M := heapParts hb s') x hi
/-- Opened, with the way back. -/
theorem heapTake (h : St H0 L H) (hi : L[i]? = some (HeapP hb s)) : ∃ x M, St H0 (heapParts hb s x ++ M) H ∧ x.ps.map (·.1) = s.obs ∧ s.ok ∧ ∀ s' x' H', St H0 (heapParts hb s' x' ++ M) H' → St H0 (L.set i (HeapP hb s')) H' := by
 obtain ⟨x, h1, h2, h3⟩ := heapOpen h hi
 exact ⟨x, _, h1, h2, h3, fun s' x' H' h' => heapShut h' hi⟩
theorem heap_ok (h : St H0 L H) (hi : L[i]? = some (HeapP hb s)) : s.ok := let ⟨_, _, _, h⟩ := heapOpen h hi; h

/-- What one reads of it. -/
structure HeapV (H : Hp) (hb : Nat) (s : Hs) (x : HpX) : Prop where
 node : hcell H ⟨hb, 0, none⟩ = some (.int .i64 s.node)
 most : hcell H ⟨hb, 1, none⟩ = some (.int .i64 s.most)
 last : hcell H ⟨hb, 2, none⟩ = some (.int .u64 s.last)
 ar : hcell H ⟨hb, 3, none⟩ = some (ptrV x.a)
 mp : hcell H ⟨hb, 4, none⟩ = some (.map (some x.m))
theorem heapV {M : List Prt} {x : HpX} (h : St H0 (heapParts hb s x ++ M) H) : HeapV H hb s x :=
 ⟨h.cell (i := 0) rfl rfl, h.cell (i := 0) rfl rfl, h.cell (i := 0) rfl rfl, h.cell (i := 0) rfl rfl, h.cell (i := 0) rfl rfl⟩

/-- Looking one up. -/
theorem heapLook {M : List Prt} {x : HpX} {k : Int} {Q : Value → Prop} (h : St H0 (heapParts hb s x ++ M) H) (hp : x.ps.map (·.1) = s.obs) (ho : s.ok) (h0 : hGet s k = none → Q (.pointer none))
  (h1 : ∀ (j : Nat) (o : Ob) (b : Nat), x.ps[j]? = some (o, b) → o.ser = k → hGet s k = some o → s.obs[j]? = some o → Q (.pointer (some ⟨b, 0, none⟩))) : evR PR (Instr.lookup ty_map_uint64_pheap_thing (.map (some x.m)) (.int .u64 k) false) H Q := by
 refine h.look (i := 2) (l := hpMap x.ps) rfl hp_key hp_map_ok hp_zero (hpMap_nod hp ho) k false ?_
 rcases hpMap_place hp ho k with ⟨g1, g2⟩ | ⟨j, o, b, g1, g2, g3, g4, g5⟩
 ·rw [g2]; exact h0 g1
 ·rw [g4]; exact h1 j o b g1 g2 g3 g5

/-- An object's cells. -/
structure ThingV (H : Hp) (b : Nat) (o : Ob) (p : Option Addr) (c : Nat) (q : Option Addr) (d : Nat) : Prop where
 cell : hcell H ⟨b, 0, none⟩ = some (.int .i64 o.cell)
 refs : hcell H ⟨b, 1, none⟩ = some (.slice p o.refs.length c)
 vals : hcell H ⟨b, 2, none⟩ = some (.slice q o.vals.length d)
 din : hcell H ⟨b, 3, none⟩ = some (.int .i64 o.din)
 rrow : Rd H 2 p o.refs.length (cel Id.cells o.refs)
 vrow : Rd H 1 q o.vals.length (o.vals.map (Value.int .u64))
theorem thingV {M : List Prt} {x : HpX} {j b : Nat} {o : Ob} (h : St H0 (heapParts hb s x ++ M) H) (hj : x.ps[j]? = some (o, b)) : ∃ p c q d, ThingV H b o p c q d := by
 have h1 := h.sub (i := 3) (M := x.ps.map fun p => ThingP p.2 p.1) (k := j) (A := ThingP b o) rfl (by rw [List.getElem?_map, hj]; rfl)
 obtain ⟨y, h2⟩ := h1.openEx (i := 0) rfl
 exact ⟨_, _, _, _, h2.cell (i := 0) rfl rfl, h2.cell (i := 0) rfl rfl, h2.cell (i := 0) rfl rfl, h2.cell (i := 0) rfl rfl, h2.row_rd (i := 1) rfl, h2.row_rd (i := 2) rfl⟩

theorem fields_ok {n : Int} (hK : K (.bool (decide (0 ≤ n ∧ n ≤ 7))) H) : hcall PR f_heap_fields ⟨[.int .i64 n]⟩ H K := by
 apply den_heap_fields
 unfold B_heap_fields
 by_cases h0 : n ≥ 0
 ·refine bif_pos h0 ?_
  rw [show decide (0 ≤ n ∧ n ≤ 7) = decide (n ≤ 7) by simp; omega] at hK
  exact hK
 ·refine bif_neg h0 ?_
  rw [show decide (0 ≤ n ∧ n ≤ 7) = false by simp; omega] at hK
  exact hK
theorem in_ok {k n : Int} (hK : K (.bool (decide (0 ≤ k ∧ k < n))) H) : hcall PR f_heap_in ⟨[.int .i64 k, .int .i64 n]⟩ H K := by
 apply den_heap_in
 unfold B_heap_in
 by_cases h0 : k ≥ 0
 ·refine bif_pos h0 ?_
  rw [show decide (0 ≤ k ∧ k < n) = decide (k < n) by simp; omega] at hK
  exact hK
 ·refine bif_neg h0 ?_
  rw [show decide (0 ≤ k ∧ k < n) = false by simp; omega] at hK
  exact hK

theorem id_ints : intsOf PR ty_api_ID = some [.i64, .u64] := by kernel_rfl
theorem id_guard : PR.eqGuardType PR.depth ty_api_ID = false := by kernel_rfl
theorem idEq {a b c d : Int} {Q : Value → Prop} (hQ : Q (.bool (decide ((⟨a, b⟩ : Id) = ⟨c, d⟩)))) : evR PR (aggEq .eql ty_api_ID #[.int .i64 a, .int .u64 b] #[.int .i64 c, .int .u64 d]) H Q := by
 refine aggEq_ints (ks := [.i64, .u64]) (ns := [a, b]) (ms := [c, d]) id_ints id_guard rfl rfl ?_
 rw [show decide ([a, b] = [c, d]) = decide ((⟨a, b⟩ : Id) = ⟨c, d⟩) by simp]
 exact hQ
theorem idNe {a b c d : Int} {Q : Value → Prop} (hQ : Q (.bool (!decide ((⟨a, b⟩ : Id) = ⟨c, d⟩)))) : evR PR (aggEq .neq ty_api_ID #[.int .i64 a, .int .u64 b] #[.int .i64 c, .int .u64 d]) H Q := by
 refine aggNe_ints (ks := [.i64, .u64]) (ns := [a, b]) (ms := [c, d]) id_ints id_guard rfl rfl ?_
 rw [show decide ([a, b] = [c, d]) = decide ((⟨a, b⟩ : Id) = ⟨c, d⟩) by simp]
 exact hQ

theorem okId_iff {x : Id} : okId x = true ↔ x = noId ∨ (1 ≤ x.n ∧ x.n ≤ 64 ∧ 1 ≤ x.s ∧ x.s ≤ 72057594037927935) := by
 simp only [okId, Bool.or_eq_true, Bool.and_eq_true, decide_eq_true_eq, and_assoc]
theorem right_ok {x : Id} (h : St H0 L H) (hK : ∀ H', St H0 L H' → K (.bool (okId x)) H') : hcall PR f_heap_right ⟨[.agg #[.int .i64 x.n, .int .u64 x.s]]⟩ H K := by
 apply den_heap_right
 unfold B_heap_right
 intro b hb
 have h1 := h.alloc (o := .cells #[.int .i64 x.n, .int .u64 x.s] ty_api_ID) hb
 have c0 := h1.cell (i := 0) (o := 0) rfl rfl
 have c1 := h1.cell (i := 0) (o := 1) rfl rfl
 have hK := hK _ h1.less
 have hi := okId_iff (x := x)
 refine ldI_of c0 (ldI_of c1 (idEq ?_))
 simp only [Za,Zb,Zc,Zd,Zf,Zh,Zi,Zk,Zl,Zm,Zn,Zo,Zp,Zr,Zs,Zx,Zt,Zu,Zy,Zz,Zv,Zw,ZA,ZB,ZC,ZD]
 by_cases e : x = noId
 ·refine bif_pos e ?_
  rw [hi.2 (.inl e)] at hK
  exact hK
 refine bif_neg e (ldI_of c0 ?_)
 by_cases e1 : x.n ≥ 1
 rotate_left
 ·refine bif_neg e1 ?_
  rw [show okId x = false by rw [← Bool.not_eq_true, hi]; rintro (h | h); exact e h; omega] at hK
  exact hK
 refine bif_pos e1 (ldI_of c0 ?_)
 by_cases e2 : x.n ≤ 64
 rotate_left
 ·refine bif_neg e2 ?_
  rw [show okId x = false by rw [← Bool.not_eq_true, hi]; rintro (h | h); exact e h; omega] at hK
  exact hK
 refine bif_pos e2 (ldI_of c1 ?_)
 by_cases e3 : x.s ≥ 1
 rotate_left
 ·refine bif_neg e3 ?_
  rw [show okId x = false by rw [← Bool.not_eq_true, hi]; rintro (h | h); exact e h; omega] at hK
  exact hK
 refine bif_pos e3 (ldI_of c1 ?_)
 rw [show okId x = decide (x.s ≤ 72057594037927935) by rw [Bool.eq_iff_iff, hi, decide_eq_true_eq]; exact ⟨fun h => h.elim (fun h => absurd h e) fun h => h.2.2.2, fun h => .inr ⟨by omega, by omega, by omega, h⟩⟩] at hK
 exact hK

theorem hNode (h : St H0 L H) (hi : L[i]? = some (HeapP hb s)) (hK : K (.int .i64 s.node) H) : hcall PR f_heap_Heap_Node ⟨[.pointer (some ⟨hb, 0, none⟩)]⟩ H K := by
 apply den_heap_Heap_Node
 unfold B_heap_Heap_Node
 obtain ⟨x, h1, hp, ho⟩ := heapOpen h hi
 exact ldI_of (heapV h1).node hK
theorem hLast (h : St H0 L H) (hi : L[i]? = some (HeapP hb s)) (hK : K (.int .u64 s.last) H) : hcall PR f_heap_Heap_Last ⟨[.pointer (some ⟨hb, 0, none⟩)]⟩ H K := by
 apply den_heap_Heap_Last
 unfold B_heap_Heap_Last
 obtain ⟨x, h1, hp, ho⟩ := heapOpen h hi
 exact ldI_of (heapV h1).last hK
theorem hpMap_len {ps : List (Ob × Nat)} (h : ps.map (·.1) = s.obs) : (hpMap ps).length = s.obs.length := by rw [← h]; simp [hpMap]
theorem hLen (h : St H0 L H) (hi : L[i]? = some (HeapP hb s)) (hK : K (.int .i64 s.obs.length) H) : hcall PR f_heap_Heap_Len ⟨[.pointer (some ⟨hb, 0, none⟩)]⟩ H K := by
 apply den_heap_Heap_Len
 unfold B_heap_Heap_Len
 obtain ⟨x, h1, hp, ho⟩ := heapOpen h hi
 refine ldM_of (heapV h1).mp (h1.mlen (i := 2) (l := hpMap x.ps) rfl hp_map_ok ?_)
 simp only [Za,Zb,Zc,Zd,Zf,Zh,Zi,Zk,Zl,Zm,Zn,Zo,Zp,Zr,Zs,Zx,Zt,Zu,Zy,Zz,Zv,Zw,ZA,ZB,ZC,ZD]
 rw [hpMap_len hp]
 exact hK
theorem hRefC {k f : Int} (h : St H0 L H) (hi : L[i]? = some (HeapP hb s)) (hK : ∀ H', St H0 L H' → K (.tuple #[.agg #[.int .i64 (hRef s k f).1.n, .int .u64 (hRef s k f).1.s], .int .i64 (hRef s k f).2]) H') :
  hcall PR f_heap_Heap_Ref ⟨[.pointer (some ⟨hb, 0, none⟩), .int .u64 k, .int .i64 f]⟩ H K := by
 apply den_heap_Heap_Ref
 unfold B_heap_Heap_Ref
 intro b hb'
 have h0 := h.alloc (o := .cells #[.int .i64 0, .int .u64 0] ty_api_ID) hb'
 obtain ⟨x, h1, hp, ho⟩ := heapOpen (i := i + 1) h0 hi
 have v := heapV h1
 simp only [Za,Zb,Zc,Zd,Zf,Zh,Zi,Zk,Zl,Zm,Zn,Zo,Zp,Zr,Zs,Zx,Zt,Zu,Zy,Zz,Zv,Zw,ZA,ZB,ZC,ZD]
 refine ldM_of v.mp (heapLook h1 hp ho (fun hg => ?_) fun j o bo hj hk hg hjo => ?_)
 ·simp only [Za,Zb,Zc,Zd,Zf,Zh,Zi,Zk,Zl,Zm,Zn,Zo,Zp,Zr,Zs,Zx,Zt,Zu,Zy,Zz,Zv,Zw,ZA,ZB,ZC,ZD]
  refine fin2 h0 (i := 0) rfl rfl fun H' h' => ?_
  have hK := hK H' h'.less
  simp only [hRef, hg] at hK
  exact hK
 ·obtain ⟨p, c, q, d, tv⟩ := thingV h1 hj
  simp only [Za,Zb,Zc,Zd,Zf,Zh,Zi,Zk,Zl,Zm,Zn,Zo,Zp,Zr,Zs,Zx,Zt,Zu,Zy,Zz,Zv,Zw,ZA,ZB,ZC,ZD]
  refine ldSl_of tv.refs (in_ok ?_)
  simp only [Za,Zb,Zc,Zd,Zf,Zh,Zi,Zk,Zl,Zm,Zn,Zo,Zp,Zr,Zs,Zx,Zt,Zu,Zy,Zz,Zv,Zw,ZA,ZB,ZC,ZD]
  by_cases hf : 0 ≤ f ∧ f < (o.refs.length : Int)
  ·rw [decide_eq_true hf]
   simp only [Za,Zb,Zc,Zd,Zf,Zh,Zi,Zk,Zl,Zm,Zn,Zo,Zp,Zr,Zs,Zx,Zt,Zu,Zy,Zz,Zv,Zw,ZA,ZB,ZC,ZD]
   refine ldSl_of tv.refs (idxS Id.len noId tv.rrow (by omega) hf.1 hf.2 fun b' o' hpp hlt hcc => ?_)
   have c0 := hcc 0 (by omega)
   have c1 := hcc 1 (by omega)
   simp only [Za,Zb,Zc,Zd,Zf,Zh,Zi,Zk,Zl,Zm,Zn,Zo,Zp,Zr,Zs,Zx,Zt,Zu,Zy,Zz,Zv,Zw,ZA,ZB,ZC,ZD]
   refine ldI_of c0 (ldI_of c1 (fin2 h0 (i := 0) rfl rfl fun H' h' => ?_))
   have hK := hK H' h'.less
   simp only [hRef, hg, if_pos hf] at hK
   exact hK
  ·rw [decide_eq_false hf]
   simp only [Za,Zb,Zc,Zd,Zf,Zh,Zi,Zk,Zl,Zm,Zn,Zo,Zp,Zr,Zs,Zx,Zt,Zu,Zy,Zz,Zv,Zw,ZA,ZB,ZC,ZD]
   refine fin2 h0 (i := 0) rfl rfl fun H' h' => ?_
   have hK := hK H' h'.less
   simp only [hRef, hg, if_neg hf] at hK
   exact hK

end
end Go.Proofs.YtflfodcemnapeaaGreat

namespace Go.Proofs.YtflfodcemnapeaaGreat
set_option linter.unusedSimpArgs false
set_option linter.unusedVariables false
open Go
abbrev TgX := Option Addr × Nat × Option Addr × Nat × Nat
def thingParts (b : Nat) (o : Ob) (x : TgX) : List Prt :=
 [Prt.one b (.cells #[.int .i64 o.cell, .slice x.1 o.refs.length x.2.1, .slice x.2.2.1 o.vals.length x.2.2.2.1, .int .i64 o.din] x.2.2.2.2 (0, 0)),
  Prt.row 2 x.1 o.refs.length x.2.1 (cel Id.cells o.refs), Prt.row 1 x.2.2.1 o.vals.length x.2.2.2.1 (o.vals.map (Value.int .u64))]

section
variable {H0 H : Hp} {L M : List Prt} {i hb j b : Nat} {s : Hs} {x : HpX} {o : Ob} {K : Value → Hp → Prop}
theorem set_map_fst {ps : List (Ob × Nat)} {o' : Ob} (hj : ps[j]? = some (o, b)) : (ps.set j (o', b)).map (·.1) = (ps.map (·.1)).set j o' := by rw [List.map_set]
theorem hpMap_set {ps : List (Ob × Nat)} {o' : Ob} (hj : ps[j]? = some (o, b)) (hs : o'.ser = o.ser) : hpMap (ps.set j (o', b)) = hpMap ps := by
 unfold hpMap
 rw [List.map_set]
 refine List.set_self ?_
 rw [List.getElem?_map, hj, hs]
 rfl
theorem put_obs (hp : x.ps.map (·.1) = s.obs) (ho : s.ok) (hj : x.ps[j]? = some (o, b)) (f : Ob → Ob) : (x.ps.set j (f o, b)).map (·.1) = (hPut s o.ser f).obs := by
 have hjo : s.obs[j]? = some o := by rw [← hp, List.getElem?_map, hj]; rfl
 rw [set_map_fst hj, hp]
 exact (map_if_set ho.rise hjo).symm

theorem thingOpen (h : St H0 (heapParts hb s x ++ M) H) (hj : x.ps[j]? = some (o, b)) :
  ∃ y, St H0 (thingParts b o y ++ (Prt.nil :: (heapParts hb s x ++ M).set 3 (Prt.list ((x.ps.map fun p => ThingP p.2 p.1).set j .nil)))) H := by
 have h1 := h.sub (i := 3) (M := x.ps.map fun p => ThingP p.2 p.1) (k := j) (A := ThingP b o) rfl (by rw [List.getElem?_map, hj]; rfl)
 exact h1.openEx (M := thingParts b o) (i := 0) rfl
theorem thingShut {f : Ob → Ob} {y : TgX} (h : St H0 (thingParts b (f o) y ++ (Prt.nil :: (heapParts hb s x ++ M).set 3 (Prt.list ((x.ps.map fun p => ThingP p.2 p.1).set j .nil)))) H)
  (hp : x.ps.map (·.1) = s.obs) (ho : s.ok) (hj : x.ps[j]? = some (o, b)) (hs : (f o).ser = o.ser) (ho' : (hPut s o.ser f).ok) : St H0 (heapParts hb (hPut s o.ser f) { x with ps := x.ps.set j (f o, b) } ++ M) H := by
 have h1 := (h.gatherEx (M := thingParts b (f o)) y).flip.less
 have hlt := ltOfGet hj
 have h2 := h1.unsub (i := 3) (M := (x.ps.map fun p => ThingP p.2 p.1).set j .nil) (k := j) rfl (by simp [hlt])
 have h3 := h2.refact (i := 4) (q := (x.ps.set j (f o, b)).map (·.1) = (hPut s o.ser f).obs ∧ (hPut s o.ser f).ok) rfl ⟨put_obs hp ho hj f, ho'⟩
 have e : heapParts hb (hPut s o.ser f) { x with ps := x.ps.set j (f o, b) } ++ M = (((heapParts hb s x ++ M).set 3 (Prt.list ((x.ps.map fun p => ThingP p.2 p.1).set j .nil))).set 3 (Prt.list (((x.ps.map fun p => ThingP p.2 p.1).set j .nil).set j (Prt.ex fun y => Prt.list (thingParts b (f o) y))))).set 4 (Prt.pure ((x.ps.set j (f o, b)).map (·.1) = (hPut s o.ser f).obs ∧ (hPut s o.ser f).ok)) := by
  have e1 : hpMap (x.ps.set j (f o, b)) = hpMap x.ps := hpMap_set hj hs
  have e2 : (x.ps.set j (f o, b)).map (fun p => ThingP p.2 p.1) = ((x.ps.map fun p => ThingP p.2 p.1).set j .nil).set j (Prt.ex fun y => Prt.list (thingParts b (f o) y)) := by rw [List.set_set, List.map_set]; rfl
  unfold heapParts
  rw [e1, e2]
  rfl
 rw [e]
 exact h3

theorem hSetRefC {k f : Int} {y : Id} (h : St H0 L H) (hi : L[i]? = some (HeapP hb s)) (hK : ∀ H', St H0 (L.set i (HeapP hb (hSetRef s k f y).2.2)) H' → K (.tuple #[.agg #[.int .i64 (hSetRef s k f y).1.n, .int .u64 (hSetRef s k f y).1.s], .int .i64 (hSetRef s k f y).2.1]) H') :
  hcall PR f_heap_Heap_SetRef ⟨[.pointer (some ⟨hb, 0, none⟩), .int .u64 k, .int .i64 f, .agg #[.int .i64 y.n, .int .u64 y.s]]⟩ H K := by
 apply den_heap_Heap_SetRef
 unfold B_heap_Heap_SetRef
 intro b6 hb6
 have h1 := h.alloc (o := .cells #[.int .i64 y.n, .int .u64 y.s] ty_api_ID) hb6
 intro b8 hb8
 have h2 := h1.alloc (o := .cells #[.int .i64 0, .int .u64 0] ty_api_ID) hb8
 refine ldI_of (h2.cell (i := 1) (o := 0) rfl rfl) (ldI_of (h2.cell (i := 1) (o := 1) rfl rfl) (right_ok h2 fun H3 h3 => ?_))
 simp only [Za,Zb,Zc,Zd,Zf,Zh,Zi,Zk,Zl,Zm,Zn,Zo,Zp,Zr,Zs,Zx,Zt,Zu,Zy,Zz,Zv,Zw,ZA,ZB,ZC,ZD]
 cases hx : okId y
 ·simp only [Za,Zb,Zc,Zd,Zf,Zh,Zi,Zk,Zl,Zm,Zn,Zo,Zp,Zr,Zs,Zx,Zt,Zu,Zy,Zz,Zv,Zw,ZA,ZB,ZC,ZD]
  refine fin2 h3 (i := 0) rfl rfl fun H' h' => ?_
  have hK := hK H'
  simp only [hSetRef, hx, if_true] at hK
  rw [List.set_self hi] at hK
  exact hK h'.less.less
 ·simp only [Za,Zb,Zc,Zd,Zf,Zh,Zi,Zk,Zl,Zm,Zn,Zo,Zp,Zr,Zs,Zx,Zt,Zu,Zy,Zz,Zv,Zw,ZA,ZB,ZC,ZD]
  refine hRefC h3 (i := i + 2) hi fun H4 h4 => ?_
  simp only [Za,Zb,Zc,Zd,Zf,Zh,Zi,Zk,Zl,Zm,Zn,Zo,Zp,Zr,Zs,Zx,Zt,Zu,Zy,Zz,Zv,Zw,ZA,ZB,ZC,ZD]
  intro b28 hb28
  have h5 := h4.alloc (o := .cells #[.int .i64 0, .int .u64 0] ty_api_ID) hb28
  refine h5.put (i := 0) rfl (by simp) fun H6 h6 => ?_
  refine h6.put (i := 0) rfl (by simp) fun H7 h7 => ?_
  have h7 : St H0 (Prt.one b28 (.cells #[.int .i64 (hRef s k f).1.n, .int .u64 (hRef s k f).1.s] ty_api_ID (0, 0)) :: Prt.one b8 (.cells #[.int .i64 0, .int .u64 0] ty_api_ID (0, 0)) :: Prt.one b6 (.cells #[.int .i64 y.n, .int .u64 y.s] ty_api_ID (0, 0)) :: L) H7 := h7
  intro R32 hR32
  have fin : ∀ (s' : Hs) H', s' = (hSetRef s k f y).2.2 → (hSetRef s k f y).1 = (hRef s k f).1 → (hSetRef s k f y).2.1 = (hRef s k f).2 → St H0 (Prt.one b28 (.cells #[.int .i64 (hRef s k f).1.n, .int .u64 (hRef s k f).1.s] ty_api_ID (0, 0)) :: Prt.one b8 (.cells #[.int .i64 0, .int .u64 0] ty_api_ID (0, 0)) :: Prt.one b6 (.cells #[.int .i64 y.n, .int .u64 y.s] ty_api_ID (0, 0)) :: L.set i (HeapP hb s')) H' → R32 H' := fun s' H' e1 e2 e3 h' => by
   refine hR32 H' (ldI_of (h'.cell (i := 0) (o := 0) rfl rfl) (ldI_of (h'.cell (i := 0) (o := 1) rfl rfl) (fin2 h' (i := 1) rfl rfl fun H9 h9 => ?_)))
   have hK := hK H9
   rw [e2, e3] at hK
   subst e1
   exact hK h9.less.less.less
  by_cases he : (hRef s k f).2 = 0
  ·refine bif_eq he ?_
   obtain ⟨x, M, g1, hp, ho, back⟩ := heapTake (i := i + 3) h7 hi
   have v := heapV g1
   refine ldM_of v.mp (heapLook g1 hp ho (fun hg => ?_) fun j o bo hj hk hg hjo => ?_)
   ·simp [hRef, hg] at he
   ·subst hk
    obtain ⟨p, c, q, d, tv⟩ := thingV g1 hj
    obtain ⟨z, t1⟩ := thingOpen g1 hj
    simp only [Za,Zb,Zc,Zd,Zf,Zh,Zi,Zk,Zl,Zm,Zn,Zo,Zp,Zr,Zs,Zx,Zt,Zu,Zy,Zz,Zv,Zw,ZA,ZB,ZC,ZD]
    have hf : 0 ≤ f ∧ f < (o.refs.length : Int) := by
     refine Classical.byContradiction fun hn => ?_
     simp [hRef, hg, hn] at he
    have c6 := h7.cell (i := 2) (o := 0) rfl rfl
    have c6' := h7.cell (i := 2) (o := 1) rfl rfl
    refine ldSl_of (t1.cell (i := 0) (o := 1) rfl rfl) (ldI_of c6 (ldI_of c6' (idxS Id.len noId (t1.row_rd (i := 1) rfl) (by omega) hf.1 hf.2 fun b' o' hpp hlt hcc => ?_)))
    refine t1.poke (i := 1) rfl hpp (by have := Nat.mul_le_mul_right 2 (show f.toNat + 1 ≤ o.refs.length by omega); omega) fun H8 t2 => ?_
    simp only [Za,Zb,Zc,Zd,Zf,Zh,Zi,Zk,Zl,Zm,Zn,Zo,Zp,Zr,Zs,Zx,Zt,Zu,Zy,Zz,Zv,Zw,ZA,ZB,ZC,ZD]
    rw [Nat.add_assoc]
    refine t2.poke (i := 1) rfl hpp (by have := Nat.mul_le_mul_right 2 (show f.toNat + 1 ≤ o.refs.length by omega); omega) fun H9 t3 => ?_
    have e1 : ((cel Id.cells o.refs).set (f.toNat * 2) (.int .i64 y.n)).set (f.toNat * 2 + 1) (.int .u64 y.s) = cel Id.cells (o.refs.set f.toNat y) := cel_set2 Id.len noId hlt rfl
    have t4 : St H0 (thingParts bo { o with refs := o.refs.set f.toNat y } z ++ (Prt.nil :: (heapParts hb s x ++ M).set 3 (Prt.list ((x.ps.map fun p => ThingP p.2 p.1).set j .nil)))) H9 := by
     unfold thingParts
     simp only [List.length_set]
     rw [← e1]
     exact t3
    have hs : hSetRef s o.ser f y = ((hRef s o.ser f).1, 0, hPut s o.ser fun o => { o with refs := o.refs.set f.toNat y }) := by simp [hSetRef, hx, he]
    have t5 := thingShut (f := fun o => { o with refs := o.refs.set f.toNat y }) t4 hp ho hj rfl (by have := ho.setRef o.ser f y; rw [hs] at this; exact this)
    refine fin _ H9 (by rw [hs]) (by rw [hs]) (by rw [hs, he]) ?_
    exact back _ _ _ t5
  ·refine bif_ne he (fin s H7 ?_ ?_ ?_ ?_)
   ·simp [hSetRef, hx, he]
   ·simp [hSetRef, hx, he]
   ·simp [hSetRef, hx, he]
   ·rw [List.set_self hi]; exact h7

theorem hSetInC {k d : Int} (h : St H0 L H) (hi : L[i]? = some (HeapP hb s)) (hK : ∀ H', St H0 (L.set i (HeapP hb (hSetIn s k d).2)) H' → K (.int .i64 (hSetIn s k d).1) H') :
  hcall PR f_heap_Heap_SetIn ⟨[.pointer (some ⟨hb, 0, none⟩), .int .u64 k, .int .i64 d]⟩ H K := by
 apply den_heap_Heap_SetIn
 unfold B_heap_Heap_SetIn
 by_cases h0 : d < 0
 ·refine bif_pos h0 ?_
  have hK := hK H
  rw [show hSetIn s k d = (1, s) by simp [hSetIn, h0], List.set_self hi] at hK
  exact hK h
 by_cases h1 : d > 40
 ·refine bif_neg h0 (bif_pos h1 ?_)
  have hK := hK H
  rw [show hSetIn s k d = (1, s) by unfold hSetIn; rw [if_pos (by omega)], List.set_self hi] at hK
  exact hK h
 refine bif_neg h0 (bif_neg h1 ?_)
 have hd : ¬ (d < 0 ∨ 40 < d) := by omega
 obtain ⟨x, g1, hp, ho⟩ := heapOpen h hi
 have v' := heapV g1
 simp only [Za,Zb,Zc,Zd,Zf,Zh,Zi,Zk,Zl,Zm,Zn,Zo,Zp,Zr,Zs,Zx,Zt,Zu,Zy,Zz,Zv,Zw,ZA,ZB,ZC,ZD]
 refine ldM_of v'.mp (heapLook g1 hp ho (fun hg => ?_) fun j o bo hj hk hg hjo => ?_)
 ·simp only [Za,Zb,Zc,Zd,Zf,Zh,Zi,Zk,Zl,Zm,Zn,Zo,Zp,Zr,Zs,Zx,Zt,Zu,Zy,Zz,Zv,Zw,ZA,ZB,ZC,ZD]
  have hK := hK H
  rw [show hSetIn s k d = (5, s) by simp only [hSetIn, if_neg hd, hg], List.set_self hi] at hK
  exact hK h
 ·subst hk
  obtain ⟨z, t1⟩ := thingOpen g1 hj
  simp only [Za,Zb,Zc,Zd,Zf,Zh,Zi,Zk,Zl,Zm,Zn,Zo,Zp,Zr,Zs,Zx,Zt,Zu,Zy,Zz,Zv,Zw,ZA,ZB,ZC,ZD]
  refine t1.put (i := 0) rfl (by simp) fun H9 t3 => ?_
  have hs : hSetIn s o.ser d = (0, hPut s o.ser fun o => { o with din := d }) := by simp only [hSetIn, if_neg hd, hg]
  have t5 := thingShut (f := fun o => { o with din := d }) (y := z) t3 hp ho hj rfl (by have := ho.setIn o.ser d; rw [hs] at this; exact this)
  have hK := hK H9
  rw [hs] at hK
  exact hK (heapShut t5 hi)

theorem hFreeC {k : Int} (h : St H0 L H) (hi : L[i]? = some (HeapP hb s)) (hK : ∀ H', St H0 (L.set i (HeapP hb (hFree s k).2)) H' → K (.int .i64 (hFree s k).1) H') :
  hcall PR f_heap_Heap_Free ⟨[.pointer (some ⟨hb, 0, none⟩), .int .u64 k]⟩ H K := by
 apply den_heap_Heap_Free
 unfold B_heap_Heap_Free
 obtain ⟨x, g1, hp, ho⟩ := heapOpen h hi
 have v' := heapV g1
 simp only [Za,Zb,Zc,Zd,Zf,Zh,Zi,Zk,Zl,Zm,Zn,Zo,Zp,Zr,Zs,Zx,Zt,Zu,Zy,Zz,Zv,Zw,ZA,ZB,ZC,ZD]
 refine ldM_of v'.mp (heapLook g1 hp ho (fun hg => ?_) fun j o bo hj hk hg hjo => ?_)
 ·simp only [Za,Zb,Zc,Zd,Zf,Zh,Zi,Zk,Zl,Zm,Zn,Zo,Zp,Zr,Zs,Zx,Zt,Zu,Zy,Zz,Zv,Zw,ZA,ZB,ZC,ZD]
  have hK := hK H
  rw [show hFree s k = (5, s) by simp only [hFree, hg], List.set_self hi] at hK
  exact hK h
 ·subst hk
  obtain ⟨p, c, q, d, tv⟩ := thingV g1 hj
  simp only [Za,Zb,Zc,Zd,Zf,Zh,Zi,Zk,Zl,Zm,Zn,Zo,Zp,Zr,Zs,Zx,Zt,Zu,Zy,Zz,Zv,Zw,ZA,ZB,ZC,ZD]
  refine ldP_of v'.ar (ldI_of tv.cell (sFree g1 (i := 1) rfl ho.ar fun H2 h2 => ?_))
  simp only [Za,Zb,Zc,Zd,Zf,Zh,Zi,Zk,Zl,Zm,Zn,Zo,Zp,Zr,Zs,Zx,Zt,Zu,Zy,Zz,Zv,Zw,ZA,ZB,ZC,ZD]
  have hK := hK
  have hs : hFree s o.ser = (0, { s with ar := (arFree s.ar o.cell).2, obs := s.obs.filter fun x => !decide (x.ser = o.ser) }) := by simp only [hFree, hg]
  have hdel : mdel (hpMap x.ps) o.ser = hpMap (x.ps.eraseIdx j) := by
   have := mdel_erase (hpMap_nod hp ho) (j := j) (p := (o.ser, bo)) (by simp [hpMap, hj])
   rw [this]
   unfold hpMap
   rw [map_eraseIdx']
  refine ldM_of (h2.cell (i := 0) (o := 4) rfl rfl) (h2.mdelete (i := 2) (l := hpMap x.ps) rfl hp_key hp_map_ok (hpMap_nod hp ho) o.ser fun H3 h3 => ?_)
  have h4 := h3.erase (i := 3) (M := x.ps.map fun p => ThingP p.2 p.1) (k := j) (A := ThingP bo o) rfl (by rw [List.getElem?_map, hj]; rfl)
  have hps : (x.ps.eraseIdx j).map (·.1) = s.obs.filter fun x => !decide (x.ser = o.ser) := by
   rw [filter_erase ho.rise hjo, map_eraseIdx', hp]
  have h5 := h4.refact (i := 4) (q := (x.ps.eraseIdx j).map (·.1) = (hFree s o.ser).2.obs ∧ (hFree s o.ser).2.ok) rfl ⟨by rw [hs]; exact hps, ho.free _⟩
  have hK := hK H3
  rw [hs] at hK h5
  refine hK (heapShut (x := { x with ps := x.ps.eraseIdx j }) ?_ hi)
  unfold heapParts
  rw [← hdel, map_eraseIdx']
  exact h5

end
end Go.Proofs.YtflfodcemnapeaaGreat

namespace Go.Proofs.YtflfodcemnapeaaGreat
set_option linter.unusedSimpArgs false
set_option linter.unusedVariables false
open Go
section
variable {H0 H : Hp} {L M : List Prt} {i hb j b : Nat} {s : Hs} {x : HpX} {o : Ob} {K : Value → Hp → Prop}
def newHs (node objects last : Int) (m : Nat) : Hs := ⟨node, objects, last, List.replicate m noBlk, []⟩
theorem newHs_ok {node objects last : Int} {m : Nat} (h1 : 1 ≤ node ∧ node ≤ 64) (h2 : 1 ≤ objects ∧ objects ≤ 64) (h3 : 0 ≤ last ∧ last ≤ 72057594037927935) (h4 : m ≤ 256) : (newHs node objects last m).ok :=
 ⟨h1, h2, h3, ArOk.new h4, by simp [newHs]; omega, List.Pairwise.nil, fun o h => absurd h List.not_mem_nil, fun o h => absurd h List.not_mem_nil⟩
theorem hNewOk {node objects last : Int} {m : Nat} (h1 : 1 ≤ node ∧ node ≤ 64) (h2 : 1 ≤ objects ∧ objects ≤ 64) (h3 : 0 ≤ last ∧ last ≤ 72057594037927935) (hm1 : 1 ≤ m) (hm2 : m ≤ 256) (h : St H0 L H)
  (hK : ∀ hb H', St H0 (HeapP hb (newHs node objects last m) :: L) H' → K (.tuple #[.pointer (some ⟨hb, 0, none⟩), .int .i64 0]) H') :
  hcall PR f_heap_New ⟨[.int .i64 node, .int .i64 (16 * (m : Int)), .int .i64 objects, .int .u64 last]⟩ H K := by
 apply den_heap_New
 unfold B_heap_New
 refine bif_neg (by omega) (bif_neg (by omega) (bif_neg (by omega) (bif_neg (by omega) (bif_neg (by omega) (sArNew h hm1 hm2 fun a H1 g1 => ?_)))))
 simp only [Za,Zb,Zc,Zd,Zf,Zh,Zi,Zk,Zl,Zm,Zn,Zo,Zp,Zr,Zs,Zx,Zt,Zu,Zy,Zz,Zv,Zw,ZA,ZB,ZC,ZD]
 refine bif_neqf rfl ?_
 intro b1 hb1
 have g2 := g1.mpNew hb1
 intro b2 hb2
 have g3 := g2.alloc (o := .cells #[.int .i64 node, .int .i64 objects, .int .u64 last, .pointer (some ⟨a, 0, none⟩), .map (some b1)] ty_heap_Heap) hb2
 refine hK b2 _ ?_
 have g4 := g3.say (p := (([] : List (Ob × Nat)).map (·.1) = (newHs node objects last m).obs ∧ (newHs node objects last m).ok)) ⟨rfl, newHs_ok h1 h2 h3 hm2⟩
 have g5 : St H0 (Prt.list [] :: _) _ := g4.saynil
 have g6 : St H0 (heapParts b2 (newHs node objects last m) ⟨a, b1, [], ty_heap_Heap⟩ ++ L) _ := g5.pick 5 [2, 4, 3, 0, 1] rfl rfl
 exact g6.gatherEx (M := heapParts b2 (newHs node objects last m)) ⟨a, b1, [], ty_heap_Heap⟩

theorem hpMap_push {ps : List (Ob × Nat)} (hp : ps.map (·.1) = s.obs) (ho : s.ok) (hs : o.ser = s.last + 1) : mput (hpMap ps) (s.last + 1) b = hpMap (ps ++ [(o, b)]) := by
 have : mhas (hpMap ps) (s.last + 1) = false := mhas_false.2 fun p hm => by
  obtain ⟨q, hq, rfl⟩ := List.mem_map.1 hm
  have := (ho.ser q.1 (by rw [← hp]; exact List.mem_map.2 ⟨q, hq, rfl⟩)).2
  simp only
  omega
 unfold mput
 rw [this, if_neg (by decide)]
 simp [hpMap, hs]

theorem wrap_u64' {n : Int} (h0 : 0 ≤ n) (h1 : n < 18446744073709551616) : IntKind.u64.wrap n = n := by rw [wrap_u64]; omega

theorem hMakeC {r v : Int} (h : St H0 L H) (hi : L[i]? = some (HeapP hb s)) (hr : IntKind.min .i64 ≤ r ∧ r ≤ IntKind.max .i64) (hv : IntKind.min .i64 ≤ v ∧ v ≤ IntKind.max .i64)
  (hK : ∀ H', St H0 (L.set i (HeapP hb (hMake s r v).2.2)) H' → K (.tuple #[.int .u64 (hMake s r v).1, .int .i64 (hMake s r v).2.1]) H') :
  hcall PR f_heap_Heap_Make ⟨[.pointer (some ⟨hb, 0, none⟩), .int .i64 r, .int .i64 v]⟩ H K := by
 apply den_heap_Heap_Make
 unfold B_heap_Heap_Make
 obtain ⟨x, M, g1, hp, ho, back⟩ := heapTake h hi
 have vv := heapV g1
 have hself : ∀ a b, hMake s r v = (a, b, s) → K (.tuple #[.int .u64 a, .int .i64 b]) H := fun a b e => by
  have hK := hK H
  rw [e, List.set_self hi] at hK
  exact hK h
 refine fields_ok ?_
 simp only [Za,Zb,Zc,Zd,Zf,Zh,Zi,Zk,Zl,Zm,Zn,Zo,Zp,Zr,Zs,Zx,Zt,Zu,Zy,Zz,Zv,Zw,ZA,ZB,ZC,ZD]
 by_cases h1 : 0 ≤ r ∧ r ≤ 7
 rotate_left
 ·rw [decide_eq_false h1]
  simp only [Za,Zb,Zc,Zd,Zf,Zh,Zi,Zk,Zl,Zm,Zn,Zo,Zp,Zr,Zs,Zx,Zt,Zu,Zy,Zz,Zv,Zw,ZA,ZB,ZC,ZD]
  exact hself 0 1 (by unfold hMake; rw [if_pos (by omega)])
 rw [decide_eq_true h1]
 simp only [Za,Zb,Zc,Zd,Zf,Zh,Zi,Zk,Zl,Zm,Zn,Zo,Zp,Zr,Zs,Zx,Zt,Zu,Zy,Zz,Zv,Zw,ZA,ZB,ZC,ZD]
 refine fields_ok ?_
 simp only [Za,Zb,Zc,Zd,Zf,Zh,Zi,Zk,Zl,Zm,Zn,Zo,Zp,Zr,Zs,Zx,Zt,Zu,Zy,Zz,Zv,Zw,ZA,ZB,ZC,ZD]
 by_cases h2 : 0 ≤ v ∧ v ≤ 7
 rotate_left
 ·rw [decide_eq_false h2]
  simp only [Za,Zb,Zc,Zd,Zf,Zh,Zi,Zk,Zl,Zm,Zn,Zo,Zp,Zr,Zs,Zx,Zt,Zu,Zy,Zz,Zv,Zw,ZA,ZB,ZC,ZD]
  exact hself 0 1 (by unfold hMake; rw [if_pos (by omega)])
 rw [decide_eq_true h2]
 simp only [Za,Zb,Zc,Zd,Zf,Zh,Zi,Zk,Zl,Zm,Zn,Zo,Zp,Zr,Zs,Zx,Zt,Zu,Zy,Zz,Zv,Zw,ZA,ZB,ZC,ZD]
 have n1 : ¬ (r < 0 ∨ 7 < r ∨ v < 0 ∨ 7 < v) := by omega
 refine ldM_of vv.mp (g1.mlen (i := 2) (l := hpMap x.ps) rfl hp_map_ok ?_)
 simp only [Za,Zb,Zc,Zd,Zf,Zh,Zi,Zk,Zl,Zm,Zn,Zo,Zp,Zr,Zs,Zx,Zt,Zu,Zy,Zz,Zv,Zw,ZA,ZB,ZC,ZD]
 rw [hpMap_len hp]
 refine ldI_of vv.most ?_
 by_cases h3 : (s.obs.length : Int) ≥ s.most
 ·exact bif_pos h3 (hself 0 6 (by unfold hMake; rw [if_neg n1, if_pos h3]))
 refine bif_neg h3 (ldI_of vv.last ?_)
 by_cases h4 : s.last = 72057594037927935
 ·exact bif_eq h4 (hself 0 7 (by unfold hMake; rw [if_neg n1, if_neg h3, if_pos h4]))
 refine bif_ne h4 (ldP_of vv.ar ?_)
 have w1 : IntKind.i64.wrap (1 + r) = 1 + r := wrap_i64 (by omega) (by omega)
 have w2 : IntKind.i64.wrap (1 + r + v) = 1 + r + v := wrap_i64 (by omega) (by omega)
 rw [w1, w2]
 refine sAlloc g1 (i := 1) rfl ho.ar fun H2 g2 => ?_
 simp only [Za,Zb,Zc,Zd,Zf,Zh,Zi,Zk,Zl,Zm,Zn,Zo,Zp,Zr,Zs,Zx,Zt,Zu,Zy,Zz,Zv,Zw,ZA,ZB,ZC,ZD]
 by_cases h5 : (arAlloc s.ar (1 + r + v)).2.1 = 0
 rotate_left
 ·refine bif_neq h5 ?_
  have e : hMake s r v = (0, (arAlloc s.ar (1 + r + v)).2.1, s) := by unfold hMake; rw [if_neg n1, if_neg h3, if_neg h4, if_pos h5]
  have hK := hK H2
  rw [e] at hK
  rw [arAlloc_fail h5] at g2
  exact hK (back s x H2 g2)
 refine bif_neqf h5 ?_
 have hlast := ho.last
 have w3 : IntKind.u64.wrap (s.last + 1) = s.last + 1 := wrap_u64' (by omega) (by omega)
 refine ldI_of (g2.cell (i := 0) (o := 2) rfl rfl) ?_
 rw [w3]
 refine g2.put (i := 0) rfl (by simp) fun H3 g3 => ?_
 have e : hMake s r v = (s.last + 1, 0, { s with last := s.last + 1, ar := (arAlloc s.ar (1 + r + v)).2.2, obs := s.obs ++ [⟨s.last + 1, (arAlloc s.ar (1 + r + v)).1, List.replicate r.toNat noId, List.replicate v.toNat 0, 0⟩] }) := by unfold hMake; rw [if_neg n1, if_neg h3, if_neg h4, if_neg (by simpa using h5)]
 have hok := ho.make r v
 rw [e] at hok hK
 generalize hs' : ({ s with last := s.last + 1, ar := (arAlloc s.ar (1 + r + v)).2.2, obs := s.obs ++ [⟨s.last + 1, (arAlloc s.ar (1 + r + v)).1, List.replicate r.toNat noId, List.replicate v.toNat 0, 0⟩] } : Hs) = s' at hK hok
 simp only at hK hok
 intro R30 hR30
 have hR30 : ∀ x' H', St H0 (heapParts hb s' x' ++ M) H' → R30 H' := fun x' H' h' => by
  refine hR30 H' (ldI_of (h'.cell (i := 0) (o := 2) rfl rfl) ?_)
  rw [show s'.last = s.last + 1 by rw [← hs']]
  exact hK H' (back s' x' H' h')
 have fin : ∀ (b : Nat) (pR pV : Option Addr) H', St H0 (Prt.one b (.cells #[.int .i64 (arAlloc s.ar (1 + r + v)).1, .slice pR r.toNat r.toNat, .slice pV v.toNat v.toNat, .int .i64 0] ty_heap_thing (0, 0)) :: Prt.row 2 pR r.toNat r.toNat (cel Id.cells (List.replicate r.toNat noId)) ::
   Prt.row 1 pV v.toNat v.toNat (List.replicate v.toNat (Value.int .u64 0)) :: Prt.one hb (.cells #[.int .i64 s.node, .int .i64 s.most, .int .u64 (s.last + 1), ptrV x.a, .map (some x.m)] x.T (0, 0)) :: Arn x.a (arAlloc s.ar (1 + r + v)).2.2 ::
   Prt.mp x.m (ments (Value.int .u64) ptrV (mput (hpMap x.ps) (s.last + 1) b)) :: Prt.list (x.ps.map fun p => ThingP p.2 p.1) :: Prt.pure (x.ps.map (·.1) = s.obs ∧ s.ok) :: M) H' → R30 H' := fun b pR pV H' h' => by
  obtain ⟨o, ho'⟩ : ∃ o : Ob, o = ⟨s.last + 1, (arAlloc s.ar (1 + r + v)).1, List.replicate r.toNat noId, List.replicate v.toNat 0, 0⟩ := ⟨_, rfl⟩
  rw [hpMap_push (o := o) hp ho (by rw [ho'])] at h'
  have t1 : St H0 (thingParts b o (pR, r.toNat, pV, v.toNat, ty_heap_thing) ++ (Prt.one hb (.cells #[.int .i64 s.node, .int .i64 s.most, .int .u64 (s.last + 1), ptrV x.a, .map (some x.m)] x.T (0, 0)) :: Arn x.a (arAlloc s.ar (1 + r + v)).2.2 ::
   Prt.mp x.m (ments (Value.int .u64) ptrV (hpMap (x.ps ++ [(o, b)]))) :: Prt.list (x.ps.map fun p => ThingP p.2 p.1) :: Prt.pure (x.ps.map (·.1) = s.obs ∧ s.ok) :: M)) H' := by
   subst ho'
   unfold thingParts
   simp only [List.length_replicate, List.map_replicate]
   exact h'
  have t2 := (t1.gatherEx (M := thingParts b o) _).push (i := 3) (M := x.ps.map fun p => ThingP p.2 p.1) rfl
  have t3 := t2.refact (i := 4) (q := (x.ps ++ [(o, b)]).map (·.1) = s'.obs ∧ s'.ok) rfl ⟨by rw [List.map_append, hp, ← hs', ho']; rfl, hok⟩
  refine hR30 { x with ps := x.ps ++ [(o, b)] } H' ?_
  unfold heapParts
  rw [List.map_append, ← hs']
  rw [← hs'] at t3
  exact t3
 have c2 := g3.cell (i := 0) (o := 2) rfl rfl
 have c4 := g3.cell (i := 0) (o := 4) rfl rfl
 have e47 : (2 : Int) ^ 47 = 140737488355328 := by decide
 have e62 : (2 : Int) ^ 62 = 4611686018427387904 := by decide
 refine ldM_of c4 (ldI_of c2 ⟨?_, ?_⟩)
 ·refine makeK Id.len noId tu_ty_Sapi_ID ti_ty_api_ID rfl (by decide) h1.1 (by omega) (by omega) fun pR H4 o4 k4 => ?_
  simp only [Za,Zb,Zc,Zd,Zf,Zh,Zi,Zk,Zl,Zm,Zn,Zo,Zp,Zr,Zs,Zx,Zt,Zu,Zy,Zz,Zv,Zw,ZA,ZB,ZC,ZD]
  have g4 := g3.row o4 k4
  refine ⟨ldI_of (g4.cell (i := 1) (o := 2) rfl rfl) rfl, ldM_of (g4.cell (i := 1) (o := 4) rfl rfl) rfl, ?_⟩
  refine mko_ty_Suint64 h2.1 (by omega) (by omega) fun pV H5 o5 k5 => ?_
  simp only [Za,Zb,Zc,Zd,Zf,Zh,Zi,Zk,Zl,Zm,Zn,Zo,Zp,Zr,Zs,Zx,Zt,Zu,Zy,Zz,Zv,Zw,ZA,ZB,ZC,ZD]
  have g5 := g4.row o5 k5
  refine ⟨ldI_of (g5.cell (i := 2) (o := 2) rfl rfl) rfl, ldM_of (g5.cell (i := 2) (o := 4) rfl rfl) rfl, ?_⟩
  intro b hb'
  have g6 := g5.alloc (o := .cells #[.int .i64 (arAlloc s.ar (1 + r + v)).1, .slice pR r.toNat r.toNat, .slice pV v.toNat v.toNat, .int .i64 0] ty_heap_thing) hb'
  refine ⟨ldI_of (g6.cell (i := 3) (o := 2) rfl rfl) rfl, ldM_of (g6.cell (i := 3) (o := 4) rfl rfl) rfl, ?_⟩
  refine g6.mupd (i := 5) (l := hpMap x.ps) (f := ptrV) rfl hp_key hp_map_ok (hpMap_nod hp ho) (s.last + 1) b rfl fun H7 g7 => ?_
  exact fin b pR pV H7 (g7.pick 3 [0, 2, 1] rfl rfl)
 ·refine mko_ty_Suint64 h2.1 (by omega) (by omega) fun pV H4 o4 k4 => ?_
  simp only [Za,Zb,Zc,Zd,Zf,Zh,Zi,Zk,Zl,Zm,Zn,Zo,Zp,Zr,Zs,Zx,Zt,Zu,Zy,Zz,Zv,Zw,ZA,ZB,ZC,ZD]
  have g4 := g3.row o4 k4
  refine ⟨ldI_of (g4.cell (i := 1) (o := 2) rfl rfl) rfl, ldM_of (g4.cell (i := 1) (o := 4) rfl rfl) rfl, ?_⟩
  refine makeK Id.len noId tu_ty_Sapi_ID ti_ty_api_ID rfl (by decide) h1.1 (by omega) (by omega) fun pR H5 o5 k5 => ?_
  simp only [Za,Zb,Zc,Zd,Zf,Zh,Zi,Zk,Zl,Zm,Zn,Zo,Zp,Zr,Zs,Zx,Zt,Zu,Zy,Zz,Zv,Zw,ZA,ZB,ZC,ZD]
  have g5 := g4.row o5 k5
  refine ⟨ldI_of (g5.cell (i := 2) (o := 2) rfl rfl) rfl, ldM_of (g5.cell (i := 2) (o := 4) rfl rfl) rfl, ?_⟩
  intro b hb'
  have g6 := g5.alloc (o := .cells #[.int .i64 (arAlloc s.ar (1 + r + v)).1, .slice pR r.toNat r.toNat, .slice pV v.toNat v.toNat, .int .i64 0] ty_heap_thing) hb'
  refine ⟨ldI_of (g6.cell (i := 3) (o := 2) rfl rfl) rfl, ldM_of (g6.cell (i := 3) (o := 4) rfl rfl) rfl, ?_⟩
  refine g6.mupd (i := 5) (l := hpMap x.ps) (f := ptrV) rfl hp_key hp_map_ok (hpMap_nod hp ho) (s.last + 1) b rfl fun H7 g7 => ?_
  exact fin b pR pV H7 g7

/-! ## Next -/
/-- The least above k so far. -/
def LeastOf (k : Int) (vis : List (Int × Nat)) (least : Int) (ok : Bool) : Prop :=
 (ok = false ∧ least = 0 ∧ ∀ p ∈ vis, ¬ k < p.1) ∨ (ok = true ∧ k < least ∧ (∃ p ∈ vis, p.1 = least) ∧ ∀ p ∈ vis, k < p.1 → least ≤ p.1)

theorem hNext_of {ps : List (Ob × Nat)} {vis : List (Int × Nat)} {k least : Int} {ok : Bool} (hp : ps.map (·.1) = s.obs) (ho : s.ok) (hperm : (hpMap ps).Perm vis) (hl : LeastOf k vis least ok) : hNext s k = (least, ok) := by
 have hmem : ∀ n : Int, (∃ p ∈ vis, p.1 = n) ↔ ∃ o ∈ s.obs, o.ser = n := fun n => by
  constructor
  ·rintro ⟨p, hm, rfl⟩
   obtain ⟨q, hq, rfl⟩ := List.mem_map.1 (hperm.mem_iff.2 hm)
   exact ⟨q.1, by rw [← hp]; exact List.mem_map.2 ⟨q, hq, rfl⟩, rfl⟩
  ·rintro ⟨o, hm, rfl⟩
   rw [← hp] at hm
   obtain ⟨q, hq, rfl⟩ := List.mem_map.1 hm
   exact ⟨(q.1.ser, q.2), hperm.mem_iff.1 (List.mem_map.2 ⟨q, hq, rfl⟩), rfl⟩
 unfold hNext
 rcases hl with ⟨rfl, rfl, hno⟩ | ⟨rfl, hk, hex, hle⟩
 ·have : s.obs.find? (fun o => decide (k < o.ser)) = none := by
   rw [List.find?_eq_none]
   intro o hm
   obtain ⟨p, hp', he⟩ := (hmem o.ser).2 ⟨o, hm, rfl⟩
   have := hno p hp'
   simp
   omega
  rw [this]
 ·obtain ⟨o, hm, he⟩ := (hmem least).1 hex
  cases hf : s.obs.find? (fun o => decide (k < o.ser)) with
  | none =>
   rw [List.find?_eq_none] at hf
   have := hf o hm
   simp at this
   omega
  | some o' =>
   have h1 : k < o'.ser := by simpa using List.find?_some hf
   have h2 := List.mem_of_find?_eq_some hf
   obtain ⟨p, hp', he'⟩ := (hmem o'.ser).2 ⟨o', h2, rfl⟩
   have h3 := hle p hp' (by omega)
   have h4 : o'.ser ≤ o.ser := by
    obtain ⟨ys, zs, e1, e2⟩ := List.find?_eq_some_iff_append.1 hf |>.2
    have hr := ho.rise
    rw [e1] at hr hm
    rw [List.pairwise_append] at hr
    rcases List.mem_append.1 hm with hm | hm
    ·have := e2 o hm
     simp at this
     omega
    ·rcases List.mem_cons.1 hm with rfl | hm
     ·omega
     ·have := (List.pairwise_cons.1 hr.2.1).1 o hm
      omega
   simp only
   congr 1
   omega

theorem hNextC {k : Int} (h : St H0 L H) (hi : L[i]? = some (HeapP hb s)) (hK : ∀ H', St H0 L H' → K (.tuple #[.int .u64 (hNext s k).1, .bool (hNext s k).2]) H') :
  hcall PR f_heap_Heap_Next ⟨[.pointer (some ⟨hb, 0, none⟩), .int .u64 k]⟩ H K := by
 apply den_heap_Heap_Next
 unfold B_heap_Heap_Next
 obtain ⟨x, M, g1, hp, ho, back⟩ := heapTake h hi
 have vv := heapV g1
 simp only [Za,Zb,Zc,Zd,Zf,Zh,Zi,Zk,Zl,Zm,Zn,Zo,Zp,Zr,Zs,Zx,Zt,Zu,Zy,Zz,Zv,Zw,ZA,ZB,ZC,ZD]
 refine ldM_of vv.mp (g1.mrange (i := 2) rfl hp_map_ok fun it H2 g2 => ?_)
 simp only [Za,Zb,Zc,Zd,Zf,Zh,Zi,Zk,Zl,Zm,Zn,Zo,Zp,Zr,Zs,Zx,Zt,Zu,Zy,Zz,Zv,Zw,ZA,ZB,ZC,ZD]
 let es := ments (Value.int .u64) ptrV (hpMap x.ps)
 refine ⟨fun least ok H' => ∃ (vis todo : List (Int × Nat)) (cur : Option (Value × Value)), (hpMap x.ps).Perm (vis ++ todo) ∧ LeastOf k vis least ok ∧ St H0 ((heapParts hb s x ++ M).set 2 (Prt.mpit x.m it es (ments (Value.int .u64) ptrV todo) cur)) H',
  fun _ _ H' => leftOf H' x.m it, ⟨[], hpMap x.ps, none, List.Perm.refl _, .inl ⟨rfl, rfl, fun p h => absurd h List.not_mem_nil⟩, g2⟩, ?_⟩
 rintro least ok H3 ⟨vis, todo, cur, hperm, hl, g3⟩
 have hleft := g3.mleft (i := 2) rfl
 intro R13 hR13
 refine g3.mnextT (i := 2) (f := ptrV) rfl (fun e => ?_) fun p A B e H4 g4 => ?_
 ·subst e
  rw [List.append_nil] at hperm
  refine nextC_over (hR13 false H3 ?_)
  simp only [Za,Zb,Zc,Zd,Zf,Zh,Zi,Zk,Zl,Zm,Zn,Zo,Zp,Zr,Zs,Zx,Zt,Zu,Zy,Zz,Zv,Zw,ZA,ZB,ZC,ZD]
  have hK := hK H3
  rw [hNext_of hp ho hperm hl] at hK
  refine hK ?_
  have g5 := g3.mleave (i := 2) rfl
  have := back s x H3 g5
  rwa [List.set_self hi] at this
 ·refine nextC_more (hR13 true H4 ?_)
  simp only [Za,Zb,Zc,Zd,Zf,Zh,Zi,Zk,Zl,Zm,Zn,Zo,Zp,Zr,Zs,Zx,Zt,Zu,Zy,Zz,Zv,Zw,ZA,ZB,ZC,ZD]
  have g4 : St H0 ((heapParts hb s x ++ M).set 2 (Prt.mpit x.m it es (ments (Value.int .u64) ptrV (A ++ B)) (some (.int .u64 p.1, ptrV p.2)))) H4 := g4
  refine g4.mentry (i := 2) rfl ?_
  simp only [Za,Zb,Zc,Zd,Zf,Zh,Zi,Zk,Zl,Zm,Zn,Zo,Zp,Zr,Zs,Zx,Zt,Zu,Zy,Zz,Zv,Zw,ZA,ZB,ZC,ZD]
  have hleft' := g4.mleft (i := 2) rfl
  have hdec : leftOf H4 x.m it < leftOf H3 x.m it := by
   rw [hleft, hleft', e]
   simp [ments]
  have hperm' : (hpMap x.ps).Perm ((p :: vis) ++ (A ++ B)) := by
   rw [e] at hperm
   refine hperm.trans ?_
   have : (A ++ p :: B).Perm (p :: (A ++ B)) := List.perm_middle
   exact (this.append_left vis).trans List.perm_middle
  have hstep : ∀ l' ok', LeastOf k (p :: vis) l' ok' → (∃ (vis todo : List (Int × Nat)) (cur : Option (Value × Value)), (hpMap x.ps).Perm (vis ++ todo) ∧ LeastOf k vis l' ok' ∧ St H0 ((heapParts hb s x ++ M).set 2 (Prt.mpit x.m it es (ments (Value.int .u64) ptrV todo) cur)) H4) ∧ leftOf H4 x.m it < leftOf H3 x.m it := fun l' ok' hl' => ⟨⟨p :: vis, A ++ B, _, hperm', hl', g4⟩, hdec⟩
  by_cases hgt : p.1 > k
  ·refine bif_pos hgt ?_
   rcases hl with ⟨rfl, rfl, hno⟩ | ⟨rfl, hk, hex, hle⟩
   ·simp only [Za,Zb,Zc,Zd,Zf,Zh,Zi,Zk,Zl,Zm,Zn,Zo,Zp,Zr,Zs,Zx,Zt,Zu,Zy,Zz,Zv,Zw,ZA,ZB,ZC,ZD]
    refine hstep _ _ (.inr ⟨rfl, hgt, ⟨p, by simp, rfl⟩, fun q hq hkq => ?_⟩)
    rcases List.mem_cons.1 hq with rfl | hq
    ·omega
    ·exact absurd hkq (hno q hq)
   ·simp only [Za,Zb,Zc,Zd,Zf,Zh,Zi,Zk,Zl,Zm,Zn,Zo,Zp,Zr,Zs,Zx,Zt,Zu,Zy,Zz,Zv,Zw,ZA,ZB,ZC,ZD]
    obtain ⟨q0, hq0, hqe⟩ := hex
    by_cases hlt : p.1 < least
    ·refine bif_pos hlt (hstep _ _ (.inr ⟨rfl, hgt, ⟨p, by simp, rfl⟩, fun q hq hkq => ?_⟩))
     rcases List.mem_cons.1 hq with rfl | hq
     ·omega
     ·have := hle q hq hkq; omega
    ·refine bif_neg hlt (hstep _ _ (.inr ⟨rfl, hk, ⟨q0, by simp [hq0], hqe⟩, fun q hq hkq => ?_⟩))
     rcases List.mem_cons.1 hq with rfl | hq
     ·omega
     ·exact hle q hq hkq
  ·refine bif_neg hgt (hstep _ _ ?_)
   rcases hl with ⟨rfl, rfl, hno⟩ | ⟨rfl, hk, ⟨q0, hq0, hqe⟩, hle⟩
   ·refine .inl ⟨rfl, rfl, fun q hq => ?_⟩
    rcases List.mem_cons.1 hq with rfl | hq
    ·omega
    ·exact hno q hq
   ·refine .inr ⟨rfl, hk, ⟨q0, by simp [hq0], hqe⟩, fun q hq hkq => ?_⟩
    rcases List.mem_cons.1 hq with rfl | hq
    ·omega
    ·exact hle q hq hkq

end
end Go.Proofs.YtflfodcemnapeaaGreat

namespace Go.Proofs.YtflfodcemnapeaaGreat
set_option linter.unusedSimpArgs false
set_option linter.unusedVariables false
open Go
section
variable {H0 H : Hp} {L M : List Prt} {i hb j b : Nat} {s : Hs} {x : HpX} {o : Ob} {K : Value → Hp → Prop}
theorem one_ids {l : List Id} : ∀ y ∈ cel Id.cells l, one y = true := by
 intro y hy
 unfold cel at hy
 rw [List.mem_flatten] at hy
 obtain ⟨xs, hx, hy⟩ := hy
 obtain ⟨z, _, rfl⟩ := List.mem_map.1 hx
 simp [Id.cells] at hy
 rcases hy with rfl | rfl <;> rfl

theorem hObjC {k : Int} (h : St H0 L H) (hi : L[i]? = some (HeapP hb s))
  (hno : hGet s k = none → ∀ H', St H0 L H' → K (.tuple #[.agg #[.int .u64 0, .int .i64 0, .slice none 0 0, .slice none 0 0, .int .i64 0], .bool false]) H')
  (hyes : ∀ o, hGet s k = some o → ∀ p c q d H', St H0 (Prt.row 2 p o.refs.length c (cel Id.cells o.refs) :: Prt.row 1 q o.vals.length d (o.vals.map (Value.int .u64)) :: L) H' →
   K (.tuple #[.agg #[.int .u64 k, .int .i64 o.cell, .slice p o.refs.length c, .slice q o.vals.length d, .int .i64 o.din], .bool true]) H') :
  hcall PR f_heap_Heap_Object ⟨[.pointer (some ⟨hb, 0, none⟩), .int .u64 k]⟩ H K := by
 apply den_heap_Heap_Object
 unfold B_heap_Heap_Object
 intro b3 hb3
 have h1 := h.alloc (o := .cells #[.int .u64 0, .int .i64 0, .slice none 0 0, .slice none 0 0, .int .i64 0] ty_api_Object) hb3
 obtain ⟨x, M, g1, hp, ho, back⟩ := heapTake (i := i + 1) h1 hi
 have vv := heapV g1
 simp only [Za,Zb,Zc,Zd,Zf,Zh,Zi,Zk,Zl,Zm,Zn,Zo,Zp,Zr,Zs,Zx,Zt,Zu,Zy,Zz,Zv,Zw,ZA,ZB,ZC,ZD]
 refine ldM_of vv.mp (heapLook g1 hp ho (fun hg => ?_) fun j o bo hj hk hg hjo => ?_)
 ·simp only [Za,Zb,Zc,Zd,Zf,Zh,Zi,Zk,Zl,Zm,Zn,Zo,Zp,Zr,Zs,Zx,Zt,Zu,Zy,Zz,Zv,Zw,ZA,ZB,ZC,ZD]
  exact fin5 h1 (i := 0) rfl rfl fun H' h' => hno hg H' h'.less
 ·subst hk
  obtain ⟨p0, c0, q0, d0, tv⟩ := thingV g1 hj
  have hob := ho.obs o (hGet_mem hg).1
  have hr7 := hob.refs
  have hv7 := hob.vals
  have hone := one_ids (l := o.refs)
  have honev : ∀ y ∈ o.vals.map (Value.int .u64), one y = true := one_int _
  have hyes := hyes o hg
  clear hno g1 back
  generalize upd H b3 (.cells #[.int .u64 0, .int .i64 0, .slice none 0 0, .slice none 0 0, .int .i64 0] ty_api_Object) = H1 at *
  have fin : ∀ (p q : Option Addr) (c d : Nat) H', St H1 [Prt.row 2 p o.refs.length c (cel Id.cells o.refs), Prt.row 1 q o.vals.length d (o.vals.map (Value.int .u64))] H' →
    (st ⟨b3, 0, none⟩ (.int .u64 o.ser) H' fun H1 => st ⟨b3, 1, none⟩ (.int .i64 o.cell) H1 fun H2 => st ⟨b3, 2, none⟩ (.slice p o.refs.length c) H2 fun H3 => st ⟨b3, 3, none⟩ (.slice q o.vals.length d) H3 fun H4 => st ⟨b3, 4, none⟩ (.int .i64 o.din) H4 fun H5 =>
     ldI .u64 ⟨b3, 0, none⟩ H5 fun x => ldI .i64 ⟨b3, 1, none⟩ H5 fun y => ldSl ⟨b3, 2, none⟩ H5 fun p n c => ldSl ⟨b3, 3, none⟩ H5 fun q m d => ldI .i64 ⟨b3, 4, none⟩ H5 fun z =>
      K (.tuple #[.agg #[.int .u64 x, .int .i64 y, .slice p n c, .slice q m d, .int .i64 z], .bool true]) H5) := fun p q c d H' g =>
   fin5 (h1.join g) (i := 2) (K := fun x y p n c q m d z H5 => K (.tuple #[.agg #[.int .u64 x, .int .i64 y, .slice p n c, .slice q m d, .int .i64 z], .bool true]) H5) rfl rfl fun H'' h'' => hyes p c q d H'' (h''.pick 3 [2, 0, 1] rfl rfl).less
  simp only [Za,Zb,Zc,Zd,Zf,Zh,Zi,Zk,Zl,Zm,Zn,Zo,Zp,Zr,Zs,Zx,Zt,Zu,Zy,Zz,Zv,Zw,ZA,ZB,ZC,ZD]
  refine ldI_of tv.cell (ldSl_of tv.refs (ldSl_of tv.vals (ldI_of tv.din ⟨?_, ?_⟩)))
  ·intro b35 hb35
   have g1 := (St.start H1).alloc (o := .cells #[] ty_api_ID) hb35
   refine ⟨ldI_of (g1.arg tv.din) rfl, ldSl_of (g1.arg tv.vals) rfl, ldSl_of (g1.arg tv.refs) rfl, ldI_of (g1.arg tv.cell) rfl, ?_, ?_⟩
   ·refine g1.copy (i := 0) rfl tu_ty_Sapi_ID tu_ty_Sapi_ID ti_ty_api_ID rfl (by decide) (g1.rd tv.rrow) hone (by omega) fun p c H2 g2 => ?_
    simp only [Za,Zb,Zc,Zd,Zf,Zh,Zi,Zk,Zl,Zm,Zn,Zo,Zp,Zr,Zs,Zx,Zt,Zu,Zy,Zz,Zv,Zw,ZA,ZB,ZC,ZD]
    refine ⟨ldI_of (g2.arg tv.din) rfl, ldSl_of (g2.arg tv.vals) rfl, ldI_of (g2.arg tv.cell) rfl, ?_⟩
    intro b55 hb55
    have g3 := g2.alloc (o := .cells #[] ty_uint64) hb55
    refine ⟨ldI_of (g3.arg tv.din) rfl, ldSl_of (g3.arg tv.vals) rfl, ldI_of (g3.arg tv.cell) rfl, ?_⟩
    refine g3.copy (i := 0) rfl tu_ty_Suint64 tu_ty_Suint64 ti_ty_uint64 rfl (by decide) (g3.rd tv.vrow) honev (by omega) fun q d H4 g4 => ?_
    simp only [Za,Zb,Zc,Zd,Zf,Zh,Zi,Zk,Zl,Zm,Zn,Zo,Zp,Zr,Zs,Zx,Zt,Zu,Zy,Zz,Zv,Zw,ZA,ZB,ZC,ZD]
    exact ⟨ldI_of (g4.arg tv.din) rfl, ldI_of (g4.arg tv.cell) rfl, fin p q c d H4 g4.flip⟩
   ·intro b83 hb83
    have g3 := g1.alloc (o := .cells #[] ty_uint64) hb83
    refine ⟨ldI_of (g3.arg tv.din) rfl, ldSl_of (g3.arg tv.vals) rfl, ldSl_of (g3.arg tv.refs) rfl, ldI_of (g3.arg tv.cell) rfl, ?_⟩
    refine g3.copy (i := 1) rfl tu_ty_Sapi_ID tu_ty_Sapi_ID ti_ty_api_ID rfl (by decide) (g3.rd tv.rrow) hone (by omega) fun p c H2 g2 => ?_
    simp only [Za,Zb,Zc,Zd,Zf,Zh,Zi,Zk,Zl,Zm,Zn,Zo,Zp,Zr,Zs,Zx,Zt,Zu,Zy,Zz,Zv,Zw,ZA,ZB,ZC,ZD]
    refine ⟨ldI_of (g2.arg tv.din) rfl, ldSl_of (g2.arg tv.vals) rfl, ldI_of (g2.arg tv.cell) rfl, ?_⟩
    refine g2.copy (i := 0) rfl tu_ty_Suint64 tu_ty_Suint64 ti_ty_uint64 rfl (by decide) (g2.rd tv.vrow) honev (by omega) fun q d H4 g4 => ?_
    simp only [Za,Zb,Zc,Zd,Zf,Zh,Zi,Zk,Zl,Zm,Zn,Zo,Zp,Zr,Zs,Zx,Zt,Zu,Zy,Zz,Zv,Zw,ZA,ZB,ZC,ZD]
    exact ⟨ldI_of (g4.arg tv.din) rfl, ldI_of (g4.arg tv.cell) rfl, fin p q c d H4 g4.flip⟩
  ·intro b124 hb124
   have g1 := (St.start H1).alloc (o := .cells #[] ty_uint64) hb124
   refine ⟨ldI_of (g1.arg tv.din) rfl, ldSl_of (g1.arg tv.vals) rfl, ldSl_of (g1.arg tv.refs) rfl, ldI_of (g1.arg tv.cell) rfl, ?_⟩
   intro b134 hb134
   have g3 := g1.alloc (o := .cells #[] ty_api_ID) hb134
   refine ⟨ldI_of (g3.arg tv.din) rfl, ldSl_of (g3.arg tv.vals) rfl, ldSl_of (g3.arg tv.refs) rfl, ldI_of (g3.arg tv.cell) rfl, ?_⟩
   refine g3.copy (i := 0) rfl tu_ty_Sapi_ID tu_ty_Sapi_ID ti_ty_api_ID rfl (by decide) (g3.rd tv.rrow) hone (by omega) fun p c H2 g2 => ?_
   simp only [Za,Zb,Zc,Zd,Zf,Zh,Zi,Zk,Zl,Zm,Zn,Zo,Zp,Zr,Zs,Zx,Zt,Zu,Zy,Zz,Zv,Zw,ZA,ZB,ZC,ZD]
   refine ⟨ldI_of (g2.arg tv.din) rfl, ldSl_of (g2.arg tv.vals) rfl, ldI_of (g2.arg tv.cell) rfl, ?_⟩
   refine g2.copy (i := 1) rfl tu_ty_Suint64 tu_ty_Suint64 ti_ty_uint64 rfl (by decide) (g2.rd tv.vrow) honev (by omega) fun q d H4 g4 => ?_
   simp only [Za,Zb,Zc,Zd,Zf,Zh,Zi,Zk,Zl,Zm,Zn,Zo,Zp,Zr,Zs,Zx,Zt,Zu,Zy,Zz,Zv,Zw,ZA,ZB,ZC,ZD]
   exact ⟨ldI_of (g4.arg tv.din) rfl, ldI_of (g4.arg tv.cell) rfl, fin p q c d H4 g4⟩
end
end Go.Proofs.YtflfodcemnapeaaGreat

namespace Go.Proofs.YtflfodcemnapeaaGreat
open Go
set_option linter.unusedVariables false
set_option maxRecDepth 100000
def B_ref8_Heap_SetRef (h1 : Option Addr) (serial2 : Int) (field3 : Int) (xNode4 : Int) (xSerial5 : Int) (H : Hp) (K : Value → Hp → Prop) : Prop :=
 newB (.cells #[(.int .i64 xNode4), (.int .u64 xSerial5)] ty_api_ID) H fun b6 Hx7 =>
 newB (.cells #[(.int .i64 0), (.int .u64 0)] ty_api_ID) Hx7 fun b8 Hx9 =>
 ldI .i64 ⟨b6, 0, none⟩ Hx9 fun Node10 =>
 ldI .u64 ⟨b6, 1, none⟩ Hx9 fun Serial11 =>
 hcall PR f_ref2_ID ⟨[(.agg #[(.int .i64 Node10), (.int .u64 Serial11)])]⟩ Hx9 fun v12 Hx13 =>
 asB v12 fun t14 =>
 (bif (!t14) then
 st ⟨b8, 0, none⟩ (.int .i64 0) Hx13 fun Hx15 =>
 st ⟨b8, 1, none⟩ (.int .u64 0) Hx15 fun Hx16 =>
 ldI .i64 ⟨b8, 0, none⟩ Hx16 fun Node17 =>
 ldI .u64 ⟨b8, 1, none⟩ Hx16 fun Serial18 =>
 K (.tuple #[(.agg #[(.int .i64 Node17), (.int .u64 Serial18)]), (.int .i64 1)]) Hx16
else
 hcall PR f_ref8_Heap_Ref ⟨[(.pointer h1), (.int .u64 serial2), (.int .i64 field3)]⟩ Hx13 fun v19 Hx20 =>
 tup2 v19 fun v21 v22 =>
 agg2 v21 fun v23 v24 =>
 asI .i64 v23 fun Node25 =>
 asI .u64 v24 fun Serial26 =>
 asI .i64 v22 fun t27 =>
 newB (.cells #[(.int .i64 0), (.int .u64 0)] ty_api_ID) Hx20 fun b28 Hx29 =>
 st ⟨b28, 0, none⟩ (.int .i64 Node25) Hx29 fun Hx30 =>
 st ⟨b28, 1, none⟩ (.int .u64 Serial26) Hx30 fun Hx31 =>
 ∀ R32 : Hp → Prop, (∀ Hx33 : Hp, (
 ldI .i64 ⟨b28, 0, none⟩ Hx33 fun Node34 =>
 ldI .u64 ⟨b28, 1, none⟩ Hx33 fun Serial35 =>
 st ⟨b8, 0, none⟩ (.int .i64 Node34) Hx33 fun Hx36 =>
 st ⟨b8, 1, none⟩ (.int .u64 Serial35) Hx36 fun Hx37 =>
 ldI .i64 ⟨b8, 0, none⟩ Hx37 fun Node38 =>
 ldI .u64 ⟨b8, 1, none⟩ Hx37 fun Serial39 =>
 K (.tuple #[(.agg #[(.int .i64 Node38), (.int .u64 Serial39)]), (.int .i64 t27)]) Hx37) → R32 Hx33) →
 (bif ((t27 : Int) == 0) then
 ldI .i64 ⟨b6, 0, none⟩ Hx31 fun Node40 =>
 ldI .u64 ⟨b6, 1, none⟩ Hx31 fun Serial41 =>
 hcall PR f_ref8_Heap_Get ⟨[(.pointer h1), (.int .u64 serial2)]⟩ Hx31 fun v42 Hx43 =>
 asP v42 fun t44 =>
 (ldI .i64 ⟨b6, 0, none⟩ Hx43 fun Node45 =>
 ldI .u64 ⟨b6, 1, none⟩ Hx43 fun Serial46 =>
 ((.agg #[(.int .i64 Node45), (.int .u64 Serial46)]) : Value) = (.agg #[(.int .i64 Node40), (.int .u64 Serial41)])) ∧
 nilP t44 fun ta47 =>
 ldSl (ta47.add 2) Hx43 fun RefsP48 RefsL49 RefsC50 =>
 idxA RefsP48 RefsL49 field3 2 fun el51 =>
 st el51 (.int .i64 Node40) Hx43 fun Hx52 =>
 st (el51.add 1) (.int .u64 Serial41) Hx52 fun Hx53 =>
 R32 Hx53
else
 R32 Hx31))
theorem E_ref8_Heap_SetRef (h1 : Option Addr) (serial2 : Int) (field3 : Int) (xNode4 : Int) (xSerial5 : Int) (H : Hp) (K : Value → Hp → Prop) : B_ref8_Heap_SetRef h1 serial2 field3 xNode4 xSerial5 H K = denF Tryz.prog Tryz.f13 (.seq none .n (.seq none .n (.seq none .n (.seq (some ⟨[], [8, 10, 11]⟩) .n .n)))) [(.pointer h1), (.int .u64 serial2), (.int .i64 field3), (.agg #[(.int .i64 xNode4), (.int .u64 xSerial5)])] H K := by kernel_rfl
theorem den_ref8_Heap_SetRef {h1 : Option Addr} {serial2 : Int} {field3 : Int} {xNode4 : Int} {xSerial5 : Int} {H : Hp} {K : Value → Hp → Prop} (h : B_ref8_Heap_SetRef h1 serial2 field3 xNode4 xSerial5 H K) : hcall PR f_ref8_Heap_SetRef ⟨[(.pointer h1), (.int .u64 serial2), (.int .i64 field3), (.agg #[(.int .i64 xNode4), (.int .u64 xSerial5)])]⟩ H K := denF_call Tryz.func13 PR_mixed (Eq.mp (E_ref8_Heap_SetRef h1 serial2 field3 xNode4 xSerial5 H K) h)

def B_ref8_Heap_Make (h1 : Option Addr) (refs2 : Int) (vals3 : Int) (H : Hp) (K : Value → Hp → Prop) : Prop :=
 (bif (decide ((refs2 : Int) < 0)) then
 K (.tuple #[(.int .u64 0), (.int .i64 1)]) H
else
 (bif (decide ((refs2 : Int) > 7)) then
 K (.tuple #[(.int .u64 0), (.int .i64 1)]) H
else
 (bif (decide ((vals3 : Int) < 0)) then
 K (.tuple #[(.int .u64 0), (.int .i64 1)]) H
else
 (bif (decide ((vals3 : Int) > 7)) then
 K (.tuple #[(.int .u64 0), (.int .i64 1)]) H
else
 nilP h1 fun ha4 =>
 ldSl (ha4.add 4) H fun LP5 LL6 LC7 =>
 nilP h1 fun ha8 =>
 ldI .i64 (ha8.add 1) H fun Most9 =>
 (bif (decide (((LL6 : Int) : Int) ≥ Most9)) then
 K (.tuple #[(.int .u64 0), (.int .i64 6)]) H
else
 nilP h1 fun ha10 =>
 ldI .u64 (ha10.add 2) H fun Last11 =>
 (bif (decide ((Last11 : Int) ≥ 72057594037927935)) then
 K (.tuple #[(.int .u64 0), (.int .i64 7)]) H
else
 nilP h1 fun ha12 =>
 ldP (ha12.add 3) H fun Arena13 =>
 hcall PR f_ref7_Arena_Alloc ⟨[(.pointer Arena13), (.int .i64 (IntKind.i64.wrap ((IntKind.i64.wrap (1 + refs2)) + vals3)))]⟩ H fun v14 Hx15 =>
 tup2 v14 fun v16 v17 =>
 asI .i64 v16 fun t18 =>
 asI .i64 v17 fun t19 =>
 (bif ((t19 : Int) != 0) then
 K (.tuple #[(.int .u64 0), (.int .i64 t19)]) Hx15
else
 nilP h1 fun ha20 =>
 ldI .u64 (ha20.add 2) Hx15 fun Last21 =>
 nilP h1 fun ha22 =>
 st (ha22.add 2) (.int .u64 (IntKind.u64.wrap (Last21 + 1))) Hx15 fun Hx23 =>
 ∀ R24 : Hp → Prop, (∀ Hx25 : Hp, (
 nilP h1 fun ha26 =>
 ldI .u64 (ha26.add 2) Hx25 fun Last27 =>
 K (.tuple #[(.int .u64 Last27), (.int .i64 0)]) Hx25) → R24 Hx25) →
 nilP h1 fun ha28 =>
 ldSl (ha28.add 4) Hx23 fun LP29 LL30 LC31 =>
 nilP h1 fun ha32 =>
 ldI .u64 (ha32.add 2) Hx23 fun Last33 =>
 (evW PR (Instr.makeSlice ty_Sapi_ID (.int .i64 refs2) (.int .i64 refs2)) Hx23 fun v34 Hx35 =>
 asSl v34 fun mkP36 mkL37 mkC38 =>
 (ldI .u64 (ha32.add 2) Hx35 fun Last39 =>
 ((.int .u64 Last39) : Value) = (.int .u64 Last33)) ∧
 (ldSl (ha28.add 4) Hx35 fun LP40 LL41 LC42 =>
 ((.slice LP40 LL41 LC42) : Value) = (.slice LP29 LL30 LC31)) ∧
 evW PR (Instr.makeSlice ty_Suint64 (.int .i64 vals3) (.int .i64 vals3)) Hx35 fun v43 Hx44 =>
 asSl v43 fun mkP45 mkL46 mkC47 =>
 (ldI .u64 (ha32.add 2) Hx44 fun Last48 =>
 ((.int .u64 Last48) : Value) = (.int .u64 Last33)) ∧
 (ldSl (ha28.add 4) Hx44 fun LP49 LL50 LC51 =>
 ((.slice LP49 LL50 LC51) : Value) = (.slice LP29 LL30 LC31)) ∧
 newB (.cells #[(.int .u64 Last33), (.int .i64 t18), (.slice mkP36 mkL37 mkC38), (.slice mkP45 mkL46 mkC47), (.int .i64 0)] ty_api_Object) Hx44 fun b52 Hx53 =>
 (ldSl (ha28.add 4) Hx53 fun LP54 LL55 LC56 =>
 ((.slice LP54 LL55 LC56) : Value) = (.slice LP29 LL30 LC31)) ∧
 newB (.cells #[(.pointer (some ⟨b52, 0, none⟩))] ty_papi_Object) Hx53 fun b57 Hx58 =>
 (ldSl (ha28.add 4) Hx58 fun LP59 LL60 LC61 =>
 ((.slice LP59 LL60 LC61) : Value) = (.slice LP29 LL30 LC31)) ∧
 evW PR (Builtin.append_ #[ty_Spapi_Object, ty_Spapi_Object] ty_Spapi_Object #[(.slice LP29 LL30 LC31), (.slice (some ⟨b57, 0, none⟩) 1 1)]) Hx58 fun v62 Hx63 =>
 asSl v62 fun tP64 tL65 tC66 =>
 nilP h1 fun ha67 =>
 st (ha67.add 4) (.slice tP64 tL65 tC66) Hx63 fun Hx68 =>
 R24 Hx68) ∧
 (evW PR (Instr.makeSlice ty_Suint64 (.int .i64 vals3) (.int .i64 vals3)) Hx23 fun v69 Hx70 =>
 asSl v69 fun mkP71 mkL72 mkC73 =>
 (ldI .u64 (ha32.add 2) Hx70 fun Last74 =>
 ((.int .u64 Last74) : Value) = (.int .u64 Last33)) ∧
 (ldSl (ha28.add 4) Hx70 fun LP75 LL76 LC77 =>
 ((.slice LP75 LL76 LC77) : Value) = (.slice LP29 LL30 LC31)) ∧
 evW PR (Instr.makeSlice ty_Sapi_ID (.int .i64 refs2) (.int .i64 refs2)) Hx70 fun v78 Hx79 =>
 asSl v78 fun mkP80 mkL81 mkC82 =>
 (ldI .u64 (ha32.add 2) Hx79 fun Last83 =>
 ((.int .u64 Last83) : Value) = (.int .u64 Last33)) ∧
 (ldSl (ha28.add 4) Hx79 fun LP84 LL85 LC86 =>
 ((.slice LP84 LL85 LC86) : Value) = (.slice LP29 LL30 LC31)) ∧
 newB (.cells #[(.int .u64 Last33), (.int .i64 t18), (.slice mkP80 mkL81 mkC82), (.slice mkP71 mkL72 mkC73), (.int .i64 0)] ty_api_Object) Hx79 fun b87 Hx88 =>
 (ldSl (ha28.add 4) Hx88 fun LP89 LL90 LC91 =>
 ((.slice LP89 LL90 LC91) : Value) = (.slice LP29 LL30 LC31)) ∧
 newB (.cells #[(.pointer (some ⟨b87, 0, none⟩))] ty_papi_Object) Hx88 fun b92 Hx93 =>
 (ldSl (ha28.add 4) Hx93 fun LP94 LL95 LC96 =>
 ((.slice LP94 LL95 LC96) : Value) = (.slice LP29 LL30 LC31)) ∧
 evW PR (Builtin.append_ #[ty_Spapi_Object, ty_Spapi_Object] ty_Spapi_Object #[(.slice LP29 LL30 LC31), (.slice (some ⟨b92, 0, none⟩) 1 1)]) Hx93 fun v97 Hx98 =>
 asSl v97 fun tP99 tL100 tC101 =>
 nilP h1 fun ha102 =>
 st (ha102.add 4) (.slice tP99 tL100 tC101) Hx98 fun Hx103 =>
 R24 Hx103))))))))
theorem E_ref8_Heap_Make (h1 : Option Addr) (refs2 : Int) (vals3 : Int) (H : Hp) (K : Value → Hp → Prop) : B_ref8_Heap_Make h1 refs2 vals3 H K = denF Tryz.prog Tryz.f17 (.seq none .n (.seq none .n (.seq none .n (.seq none .n (.seq none .n (.seq none .n (.seq none .n (.seq (some ⟨[], [0]⟩) .n .n)))))))) [(.pointer h1), (.int .i64 refs2), (.int .i64 vals3)] H K := by kernel_rfl
theorem den_ref8_Heap_Make {h1 : Option Addr} {refs2 : Int} {vals3 : Int} {H : Hp} {K : Value → Hp → Prop} (h : B_ref8_Heap_Make h1 refs2 vals3 H K) : hcall PR f_ref8_Heap_Make ⟨[(.pointer h1), (.int .i64 refs2), (.int .i64 vals3)]⟩ H K := denF_call Tryz.func17 PR_mixed (Eq.mp (E_ref8_Heap_Make h1 refs2 vals3 H K) h)

def B_ref8_Heap_SetIn (h1 : Option Addr) (serial2 : Int) (dist3 : Int) (H : Hp) (K : Value → Hp → Prop) : Prop :=
 (bif (decide ((dist3 : Int) < 0)) then
 K (.int .i64 1) H
else
 (bif (decide ((dist3 : Int) > 40)) then
 K (.int .i64 1) H
else
 hcall PR f_ref8_Heap_Get ⟨[(.pointer h1), (.int .u64 serial2)]⟩ H fun v4 Hx5 =>
 asP v4 fun t6 =>
 (bif (Option.isNone (α := Addr) t6) then
 K (.int .i64 5) Hx5
else
 nilP t6 fun ta7 =>
 st (ta7.add 4) (.int .i64 dist3) Hx5 fun Hx8 =>
 K (.int .i64 0) Hx8)))
theorem E_ref8_Heap_SetIn (h1 : Option Addr) (serial2 : Int) (dist3 : Int) (H : Hp) (K : Value → Hp → Prop) : B_ref8_Heap_SetIn h1 serial2 dist3 H K = denF Tryz.prog Tryz.f23 .n [(.pointer h1), (.int .u64 serial2), (.int .i64 dist3)] H K := by kernel_rfl
theorem den_ref8_Heap_SetIn {h1 : Option Addr} {serial2 : Int} {dist3 : Int} {H : Hp} {K : Value → Hp → Prop} (h : B_ref8_Heap_SetIn h1 serial2 dist3 H K) : hcall PR f_ref8_Heap_SetIn ⟨[(.pointer h1), (.int .u64 serial2), (.int .i64 dist3)]⟩ H K := denF_call Tryz.func23 PR_mixed (Eq.mp (E_ref8_Heap_SetIn h1 serial2 dist3 H K) h)

def B_ref8_New (node1 : Int) (cells2 : Int) (objects3 : Int) (last4 : Int) (H : Hp) (K : Value → Hp → Prop) : Prop :=
 (bif (decide ((node1 : Int) < 1)) then
 K (.pointer none) H
else
 (bif (decide ((node1 : Int) > 64)) then
 K (.pointer none) H
else
 (bif (decide ((objects3 : Int) < 1)) then
 K (.pointer none) H
else
 (bif (decide ((objects3 : Int) > 64)) then
 K (.pointer none) H
else
 (bif (decide ((last4 : Int) > 72057594037927935)) then
 K (.pointer none) H
else
 (bif (decide ((cells2 : Int) < 16)) then
 K (.pointer none) H
else
 (bif (decide ((cells2 : Int) > 4096)) then
 K (.pointer none) H
else
 (16 : Int) ≠ 0 ∧
 (bif (((Int.tmod cells2 16) : Int) != 0) then
 K (.pointer none) H
else
 hcall PR f_ref7_New ⟨[(.int .i64 cells2)]⟩ H fun v5 Hx6 =>
 asP v5 fun t7 =>
 newB (.cells #[(.int .i64 node1), (.int .i64 objects3), (.int .u64 last4), (.pointer t7), (.slice none 0 0)] ty_ref8_Heap) Hx6 fun b8 Hx9 =>
 K (.pointer (some ⟨b8, 0, none⟩)) Hx9))))))))
theorem E_ref8_New (node1 : Int) (cells2 : Int) (objects3 : Int) (last4 : Int) (H : Hp) (K : Value → Hp → Prop) : B_ref8_New node1 cells2 objects3 last4 H K = denF Tryz.prog Tryz.f30 .n [(.int .i64 node1), (.int .i64 cells2), (.int .i64 objects3), (.int .u64 last4)] H K := by kernel_rfl
theorem den_ref8_New {node1 : Int} {cells2 : Int} {objects3 : Int} {last4 : Int} {H : Hp} {K : Value → Hp → Prop} (h : B_ref8_New node1 cells2 objects3 last4 H K) : hcall PR f_ref8_New ⟨[(.int .i64 node1), (.int .i64 cells2), (.int .i64 objects3), (.int .u64 last4)]⟩ H K := denF_call Tryz.func30 PR_mixed (Eq.mp (E_ref8_New node1 cells2 objects3 last4 H K) h)

def B_ref8_Heap_Ref (h1 : Option Addr) (serial2 : Int) (field3 : Int) (H : Hp) (K : Value → Hp → Prop) : Prop :=
 newB (.cells #[(.int .i64 0), (.int .u64 0)] ty_api_ID) H fun b4 Hx5 =>
 hcall PR f_ref8_Heap_Get ⟨[(.pointer h1), (.int .u64 serial2)]⟩ Hx5 fun v6 Hx7 =>
 asP v6 fun t8 =>
 (bif (Option.isNone (α := Addr) t8) then
 st ⟨b4, 0, none⟩ (.int .i64 0) Hx7 fun Hx9 =>
 st ⟨b4, 1, none⟩ (.int .u64 0) Hx9 fun Hx10 =>
 ldI .i64 ⟨b4, 0, none⟩ Hx10 fun Node11 =>
 ldI .u64 ⟨b4, 1, none⟩ Hx10 fun Serial12 =>
 K (.tuple #[(.agg #[(.int .i64 Node11), (.int .u64 Serial12)]), (.int .i64 5)]) Hx10
else
 (bif (decide ((field3 : Int) < 0)) then
 st ⟨b4, 0, none⟩ (.int .i64 0) Hx7 fun Hx13 =>
 st ⟨b4, 1, none⟩ (.int .u64 0) Hx13 fun Hx14 =>
 ldI .i64 ⟨b4, 0, none⟩ Hx14 fun Node15 =>
 ldI .u64 ⟨b4, 1, none⟩ Hx14 fun Serial16 =>
 K (.tuple #[(.agg #[(.int .i64 Node15), (.int .u64 Serial16)]), (.int .i64 5)]) Hx14
else
 nilP t8 fun ta17 =>
 ldSl (ta17.add 2) Hx7 fun RefsP18 RefsL19 RefsC20 =>
 (bif (decide ((field3 : Int) ≥ (RefsL19 : Int))) then
 st ⟨b4, 0, none⟩ (.int .i64 0) Hx7 fun Hx21 =>
 st ⟨b4, 1, none⟩ (.int .u64 0) Hx21 fun Hx22 =>
 ldI .i64 ⟨b4, 0, none⟩ Hx22 fun Node23 =>
 ldI .u64 ⟨b4, 1, none⟩ Hx22 fun Serial24 =>
 K (.tuple #[(.agg #[(.int .i64 Node23), (.int .u64 Serial24)]), (.int .i64 5)]) Hx22
else
 nilP t8 fun ta25 =>
 ldSl (ta25.add 2) Hx7 fun RefsP26 RefsL27 RefsC28 =>
 idxA RefsP26 RefsL27 field3 2 fun el29 =>
 ldI .i64 el29 Hx7 fun Node30 =>
 ldI .u64 (el29.add 1) Hx7 fun Serial31 =>
 st ⟨b4, 0, none⟩ (.int .i64 Node30) Hx7 fun Hx32 =>
 st ⟨b4, 1, none⟩ (.int .u64 Serial31) Hx32 fun Hx33 =>
 ldI .i64 ⟨b4, 0, none⟩ Hx33 fun Node34 =>
 ldI .u64 ⟨b4, 1, none⟩ Hx33 fun Serial35 =>
 K (.tuple #[(.agg #[(.int .i64 Node34), (.int .u64 Serial35)]), (.int .i64 0)]) Hx33)))
theorem E_ref8_Heap_Ref (h1 : Option Addr) (serial2 : Int) (field3 : Int) (H : Hp) (K : Value → Hp → Prop) : B_ref8_Heap_Ref h1 serial2 field3 H K = denF Tryz.prog Tryz.f50 .n [(.pointer h1), (.int .u64 serial2), (.int .i64 field3)] H K := by kernel_rfl
theorem den_ref8_Heap_Ref {h1 : Option Addr} {serial2 : Int} {field3 : Int} {H : Hp} {K : Value → Hp → Prop} (h : B_ref8_Heap_Ref h1 serial2 field3 H K) : hcall PR f_ref8_Heap_Ref ⟨[(.pointer h1), (.int .u64 serial2), (.int .i64 field3)]⟩ H K := denF_call Tryz.func50 PR_mixed (Eq.mp (E_ref8_Heap_Ref h1 serial2 field3 H K) h)

def B_ref8_Heap_Get (h1 : Option Addr) (serial2 : Int) (H : Hp) (K : Value → Hp → Prop) : Prop :=
 ∃ (I3 : Int → Hp → Prop) (m4 : Int → Hp → Nat), I3 0 H ∧ ∀ i6 : Int, ∀ Hx5 : Hp, I3 i6 Hx5 →
 nilP h1 fun ha7 =>
 ldSl (ha7.add 4) Hx5 fun LP8 LL9 LC10 =>
 (bif (decide ((i6 : Int) < (LL9 : Int))) then
 nilP h1 fun ha11 =>
 ldSl (ha11.add 4) Hx5 fun LP12 LL13 LC14 =>
 idxA LP12 LL13 i6 1 fun el15 =>
 ldP el15 Hx5 fun t16 =>
 nilP t16 fun ta17 =>
 ldI .u64 ta17 Hx5 fun Serial18 =>
 (bif ((Serial18 : Int) == serial2) then
 nilP h1 fun ha19 =>
 ldSl (ha19.add 4) Hx5 fun LP20 LL21 LC22 =>
 idxA LP20 LL21 i6 1 fun el23 =>
 ldP el23 Hx5 fun t24 =>
 K (.pointer t24) Hx5
else
 I3 (IntKind.i64.wrap (i6 + 1)) Hx5 ∧ m4 (IntKind.i64.wrap (i6 + 1)) Hx5 < m4 i6 Hx5)
else
 K (.pointer none) Hx5)
theorem E_ref8_Heap_Get (h1 : Option Addr) (serial2 : Int) (H : Hp) (K : Value → Hp → Prop) : B_ref8_Heap_Get h1 serial2 H K = denF Tryz.prog Tryz.f51 (.seq none .n (.seq none (.seq none .n (.sub (.loop ⟨[(5, .int .i64)], [0, 1]⟩ .n))) .n)) [(.pointer h1), (.int .u64 serial2)] H K := by kernel_rfl
theorem den_ref8_Heap_Get {h1 : Option Addr} {serial2 : Int} {H : Hp} {K : Value → Hp → Prop} (h : B_ref8_Heap_Get h1 serial2 H K) : hcall PR f_ref8_Heap_Get ⟨[(.pointer h1), (.int .u64 serial2)]⟩ H K := denF_call Tryz.func51 PR_mixed (Eq.mp (E_ref8_Heap_Get h1 serial2 H K) h)

def B_ref8_Heap_Next (h1 : Option Addr) (serial2 : Int) (H : Hp) (K : Value → Hp → Prop) : Prop :=
 ∃ (I3 : Int → Hp → Prop) (m4 : Int → Hp → Nat), I3 0 H ∧ ∀ i6 : Int, ∀ Hx5 : Hp, I3 i6 Hx5 →
 nilP h1 fun ha7 =>
 ldSl (ha7.add 4) Hx5 fun LP8 LL9 LC10 =>
 (bif (decide ((i6 : Int) < (LL9 : Int))) then
 nilP h1 fun ha11 =>
 ldSl (ha11.add 4) Hx5 fun LP12 LL13 LC14 =>
 idxA LP12 LL13 i6 1 fun el15 =>
 ldP el15 Hx5 fun t16 =>
 nilP t16 fun ta17 =>
 ldI .u64 ta17 Hx5 fun Serial18 =>
 (bif (decide ((Serial18 : Int) > serial2)) then
 nilP h1 fun ha19 =>
 ldSl (ha19.add 4) Hx5 fun LP20 LL21 LC22 =>
 idxA LP20 LL21 i6 1 fun el23 =>
 ldP el23 Hx5 fun t24 =>
 nilP t24 fun ta25 =>
 ldI .u64 ta25 Hx5 fun Serial26 =>
 K (.tuple #[(.int .u64 Serial26), (.bool true)]) Hx5
else
 I3 (IntKind.i64.wrap (i6 + 1)) Hx5 ∧ m4 (IntKind.i64.wrap (i6 + 1)) Hx5 < m4 i6 Hx5)
else
 K (.tuple #[(.int .u64 0), (.bool false)]) Hx5)
theorem E_ref8_Heap_Next (h1 : Option Addr) (serial2 : Int) (H : Hp) (K : Value → Hp → Prop) : B_ref8_Heap_Next h1 serial2 H K = denF Tryz.prog Tryz.f142 (.seq none .n (.seq none (.seq none .n (.sub (.loop ⟨[(6, .int .i64)], [0, 1]⟩ .n))) .n)) [(.pointer h1), (.int .u64 serial2)] H K := by kernel_rfl
theorem den_ref8_Heap_Next {h1 : Option Addr} {serial2 : Int} {H : Hp} {K : Value → Hp → Prop} (h : B_ref8_Heap_Next h1 serial2 H K) : hcall PR f_ref8_Heap_Next ⟨[(.pointer h1), (.int .u64 serial2)]⟩ H K := denF_call Tryz.func142 PR_mixed (Eq.mp (E_ref8_Heap_Next h1 serial2 H K) h)

def B_ref8_Heap_Free (h1 : Option Addr) (serial2 : Int) (H : Hp) (K : Value → Hp → Prop) : Prop :=
 ∃ (I3 : Int → Hp → Prop) (m4 : Int → Hp → Nat), I3 0 H ∧ ∀ i6 : Int, ∀ Hx5 : Hp, I3 i6 Hx5 →
 nilP h1 fun ha7 =>
 ldSl (ha7.add 4) Hx5 fun LP8 LL9 LC10 =>
 (bif (decide ((i6 : Int) < (LL9 : Int))) then
 nilP h1 fun ha11 =>
 ldSl (ha11.add 4) Hx5 fun LP12 LL13 LC14 =>
 idxA LP12 LL13 i6 1 fun el15 =>
 ldP el15 Hx5 fun t16 =>
 nilP t16 fun ta17 =>
 ldI .u64 ta17 Hx5 fun Serial18 =>
 (bif ((Serial18 : Int) == serial2) then
 nilP h1 fun ha19 =>
 ldP (ha19.add 3) Hx5 fun Arena20 =>
 nilP h1 fun ha21 =>
 ldSl (ha21.add 4) Hx5 fun LP22 LL23 LC24 =>
 idxA LP22 LL23 i6 1 fun el25 =>
 ldP el25 Hx5 fun t26 =>
 nilP t26 fun ta27 =>
 ldI .i64 (ta27.add 1) Hx5 fun Cell28 =>
 hcall PR f_ref7_Arena_Free ⟨[(.pointer Arena20), (.int .i64 Cell28)]⟩ Hx5 fun v29 Hx30 =>
 asI .i64 v29 fun t31 =>
 nilP h1 fun ha32 =>
 ldSl (ha32.add 4) Hx30 fun LP33 LL34 LC35 =>
 slcD LP33 LL34 LC35 none (some i6) 1 fun sP36 sL37 sC38 =>
 nilP h1 fun ha39 =>
 ldSl (ha39.add 4) Hx30 fun LP40 LL41 LC42 =>
 slcD LP40 LL41 LC42 (some (IntKind.i64.wrap (i6 + 1))) none 1 fun sP43 sL44 sC45 =>
 newB (.cells #[] ty_papi_Object) Hx30 fun b46 Hx47 =>
 (ldSl (ha39.add 4) Hx47 fun LP48 LL49 LC50 =>
 ((.slice LP48 LL49 LC50) : Value) = (.slice LP40 LL41 LC42)) ∧
 (ldSl (ha32.add 4) Hx47 fun LP51 LL52 LC53 =>
 ((.slice LP51 LL52 LC53) : Value) = (.slice LP33 LL34 LC35)) ∧
 evW PR (Builtin.append_ #[ty_Spapi_Object, ty_Spapi_Object] ty_Spapi_Object #[(.slice (some ⟨b46, 0, none⟩) 0 0), (.slice sP36 sL37 sC38)]) Hx47 fun v54 Hx55 =>
 asSl v54 fun tP56 tL57 tC58 =>
 (ldSl (ha39.add 4) Hx55 fun LP59 LL60 LC61 =>
 ((.slice LP59 LL60 LC61) : Value) = (.slice LP40 LL41 LC42)) ∧
 evW PR (Builtin.append_ #[ty_Spapi_Object, ty_Spapi_Object] ty_Spapi_Object #[(.slice tP56 tL57 tC58), (.slice sP43 sL44 sC45)]) Hx55 fun v62 Hx63 =>
 asSl v62 fun tP64 tL65 tC66 =>
 nilP h1 fun ha67 =>
 st (ha67.add 4) (.slice tP64 tL65 tC66) Hx63 fun Hx68 =>
 K (.int .i64 0) Hx68
else
 I3 (IntKind.i64.wrap (i6 + 1)) Hx5 ∧ m4 (IntKind.i64.wrap (i6 + 1)) Hx5 < m4 i6 Hx5)
else
 K (.int .i64 5) Hx5)
theorem E_ref8_Heap_Free (h1 : Option Addr) (serial2 : Int) (H : Hp) (K : Value → Hp → Prop) : B_ref8_Heap_Free h1 serial2 H K = denF Tryz.prog Tryz.f148 (.seq none .n (.seq none (.seq none .n (.sub (.loop ⟨[(5, .int .i64)], [0, 1]⟩ .n))) .n)) [(.pointer h1), (.int .u64 serial2)] H K := by kernel_rfl
theorem den_ref8_Heap_Free {h1 : Option Addr} {serial2 : Int} {H : Hp} {K : Value → Hp → Prop} (h : B_ref8_Heap_Free h1 serial2 H K) : hcall PR f_ref8_Heap_Free ⟨[(.pointer h1), (.int .u64 serial2)]⟩ H K := denF_call Tryz.func148 PR_mixed (Eq.mp (E_ref8_Heap_Free h1 serial2 H K) h)

end Go.Proofs.YtflfodcemnapeaaGreat

namespace Go.Proofs.YtflfodcemnapeaaGreat
open Go
set_option linter.unusedVariables false
set_option maxRecDepth 100000
def B_ref2_Numbers (aP1 : Option Addr) (aL2 : Nat) (aC3 : Nat) (bP4 : Option Addr) (bL5 : Nat) (bC6 : Nat) (H : Hp) (K : Value → Hp → Prop) : Prop :=
 (bif (((aL2 : Int) : Int) != (bL5 : Int)) then
 K (.bool false) H
else
 ∃ (I7 : Int → Hp → Prop) (m8 : Int → Hp → Nat), I7 0 H ∧ ∀ i10 : Int, ∀ Hx9 : Hp, I7 i10 Hx9 →
 (bif (decide ((i10 : Int) < (aL2 : Int))) then
 idxA aP1 aL2 i10 1 fun el11 =>
 ldI .u64 el11 Hx9 fun t12 =>
 idxA bP4 bL5 i10 1 fun el13 =>
 ldI .u64 el13 Hx9 fun t14 =>
 (bif ((t12 : Int) != t14) then
 K (.bool false) Hx9
else
 I7 (IntKind.i64.wrap (i10 + 1)) Hx9 ∧ m8 (IntKind.i64.wrap (i10 + 1)) Hx9 < m8 i10 Hx9)
else
 K (.bool true) Hx9))
theorem E_ref2_Numbers (aP1 : Option Addr) (aL2 : Nat) (aC3 : Nat) (bP4 : Option Addr) (bL5 : Nat) (bC6 : Nat) (H : Hp) (K : Value → Hp → Prop) : B_ref2_Numbers aP1 aL2 aC3 bP4 bL5 bC6 H K = denF Tryz.prog Tryz.f26 (.seq none .n (.seq none .n (.seq none (.seq none .n (.sub (.loop ⟨[(5, .int .i64)], [0, 1]⟩ .n))) .n))) [(.slice aP1 aL2 aC3), (.slice bP4 bL5 bC6)] H K := by kernel_rfl
theorem den_ref2_Numbers {aP1 : Option Addr} {aL2 : Nat} {aC3 : Nat} {bP4 : Option Addr} {bL5 : Nat} {bC6 : Nat} {H : Hp} {K : Value → Hp → Prop} (h : B_ref2_Numbers aP1 aL2 aC3 bP4 bL5 bC6 H K) : hcall PR f_ref2_Numbers ⟨[(.slice aP1 aL2 aC3), (.slice bP4 bL5 bC6)]⟩ H K := denF_call Tryz.func26 PR_mixed (Eq.mp (E_ref2_Numbers aP1 aL2 aC3 bP4 bL5 bC6 H K) h)

def B_ref2_ID (xNode1 : Int) (xSerial2 : Int) (H : Hp) (K : Value → Hp → Prop) : Prop :=
 newB (.cells #[(.int .i64 xNode1), (.int .u64 xSerial2)] ty_api_ID) H fun b3 Hx4 =>
 ldI .i64 ⟨b3, 0, none⟩ Hx4 fun Node5 =>
 (bif ((Node5 : Int) == 0) then
 ldI .u64 ⟨b3, 1, none⟩ Hx4 fun Serial6 =>
 K (.bool ((Serial6 : Int) == 0)) Hx4
else
 ldI .i64 ⟨b3, 0, none⟩ Hx4 fun Node7 =>
 (bif (decide ((Node7 : Int) ≥ 1)) then
 ldI .i64 ⟨b3, 0, none⟩ Hx4 fun Node8 =>
 (bif (decide ((Node8 : Int) ≤ 64)) then
 ldI .u64 ⟨b3, 1, none⟩ Hx4 fun Serial9 =>
 (bif (decide ((Serial9 : Int) ≥ 1)) then
 ldI .u64 ⟨b3, 1, none⟩ Hx4 fun Serial10 =>
 K (.bool (decide ((Serial10 : Int) ≤ 72057594037927935))) Hx4
else
 K (.bool false) Hx4)
else
 K (.bool false) Hx4)
else
 K (.bool false) Hx4))
theorem E_ref2_ID (xNode1 : Int) (xSerial2 : Int) (H : Hp) (K : Value → Hp → Prop) : B_ref2_ID xNode1 xSerial2 H K = denF Tryz.prog Tryz.f49 .n [(.agg #[(.int .i64 xNode1), (.int .u64 xSerial2)])] H K := by kernel_rfl
theorem den_ref2_ID {xNode1 : Int} {xSerial2 : Int} {H : Hp} {K : Value → Hp → Prop} (h : B_ref2_ID xNode1 xSerial2 H K) : hcall PR f_ref2_ID ⟨[(.agg #[(.int .i64 xNode1), (.int .u64 xSerial2)])]⟩ H K := denF_call Tryz.func49 PR_mixed (Eq.mp (E_ref2_ID xNode1 xSerial2 H K) h)

def B_ref2_None (xNode1 : Int) (xSerial2 : Int) (H : Hp) (K : Value → Hp → Prop) : Prop :=
 newB (.cells #[(.int .i64 xNode1), (.int .u64 xSerial2)] ty_api_ID) H fun b3 Hx4 =>
 ldI .i64 ⟨b3, 0, none⟩ Hx4 fun Node5 =>
 (bif ((Node5 : Int) == 0) then
 ldI .u64 ⟨b3, 1, none⟩ Hx4 fun Serial6 =>
 K (.bool ((Serial6 : Int) == 0)) Hx4
else
 K (.bool false) Hx4)
theorem E_ref2_None (xNode1 : Int) (xSerial2 : Int) (H : Hp) (K : Value → Hp → Prop) : B_ref2_None xNode1 xSerial2 H K = denF Tryz.prog Tryz.f91 .n [(.agg #[(.int .i64 xNode1), (.int .u64 xSerial2)])] H K := by kernel_rfl
theorem den_ref2_None {xNode1 : Int} {xSerial2 : Int} {H : Hp} {K : Value → Hp → Prop} (h : B_ref2_None xNode1 xSerial2 H K) : hcall PR f_ref2_None ⟨[(.agg #[(.int .i64 xNode1), (.int .u64 xSerial2)])]⟩ H K := denF_call Tryz.func91 PR_mixed (Eq.mp (E_ref2_None xNode1 xSerial2 H K) h)

def B_ref2_IDs (aP1 : Option Addr) (aL2 : Nat) (aC3 : Nat) (bP4 : Option Addr) (bL5 : Nat) (bC6 : Nat) (H : Hp) (K : Value → Hp → Prop) : Prop :=
 (bif (((aL2 : Int) : Int) != (bL5 : Int)) then
 K (.bool false) H
else
 ∃ (I7 : Int → Hp → Prop) (m8 : Int → Hp → Nat), I7 0 H ∧ ∀ i10 : Int, ∀ Hx9 : Hp, I7 i10 Hx9 →
 (bif (decide ((i10 : Int) < (aL2 : Int))) then
 idxA aP1 aL2 i10 2 fun el11 =>
 ldI .i64 el11 Hx9 fun Node12 =>
 ldI .u64 (el11.add 1) Hx9 fun Serial13 =>
 idxA bP4 bL5 i10 2 fun el14 =>
 ldI .i64 el14 Hx9 fun Node15 =>
 ldI .u64 (el14.add 1) Hx9 fun Serial16 =>
 evR PR (aggEq .neq ty_api_ID #[(.int .i64 Node12), (.int .u64 Serial13)] #[(.int .i64 Node15), (.int .u64 Serial16)]) Hx9 fun v17 =>
 asB v17 fun eq18 =>
 (bif eq18 then
 K (.bool false) Hx9
else
 I7 (IntKind.i64.wrap (i10 + 1)) Hx9 ∧ m8 (IntKind.i64.wrap (i10 + 1)) Hx9 < m8 i10 Hx9)
else
 K (.bool true) Hx9))
theorem E_ref2_IDs (aP1 : Option Addr) (aL2 : Nat) (aC3 : Nat) (bP4 : Option Addr) (bL5 : Nat) (bC6 : Nat) (H : Hp) (K : Value → Hp → Prop) : B_ref2_IDs aP1 aL2 aC3 bP4 bL5 bC6 H K = denF Tryz.prog Tryz.f125 (.seq none .n (.seq none .n (.seq none (.seq none .n (.sub (.loop ⟨[(5, .int .i64)], [0, 1]⟩ .n))) .n))) [(.slice aP1 aL2 aC3), (.slice bP4 bL5 bC6)] H K := by kernel_rfl
theorem den_ref2_IDs {aP1 : Option Addr} {aL2 : Nat} {aC3 : Nat} {bP4 : Option Addr} {bL5 : Nat} {bC6 : Nat} {H : Hp} {K : Value → Hp → Prop} (h : B_ref2_IDs aP1 aL2 aC3 bP4 bL5 bC6 H K) : hcall PR f_ref2_IDs ⟨[(.slice aP1 aL2 aC3), (.slice bP4 bL5 bC6)]⟩ H K := denF_call Tryz.func125 PR_mixed (Eq.mp (E_ref2_IDs aP1 aL2 aC3 bP4 bL5 bC6 H K) h)

end Go.Proofs.YtflfodcemnapeaaGreat

namespace Go.Proofs.YtflfodcemnapeaaGreat
set_option linter.unusedSimpArgs false
set_option linter.unusedVariables false
open Go
def rthingParts (b : Nat) (o : Ob) (x : TgX) : List Prt :=
 [Prt.one b (.cells #[.int .u64 o.ser, .int .i64 o.cell, .slice x.1 o.refs.length x.2.1, .slice x.2.2.1 o.vals.length x.2.2.2.1, .int .i64 o.din] x.2.2.2.2 (0, 0)),
  Prt.row 2 x.1 o.refs.length x.2.1 (cel Id.cells o.refs), Prt.row 1 x.2.2.1 o.vals.length x.2.2.2.1 (o.vals.map (Value.int .u64))]
def RThing (b : Nat) (o : Ob) : Prt := Prt.ex fun x => Prt.list (rthingParts b o x)
structure RhX where
 a : Nat
 p : Option Addr
 cap : Nat
 ps : List (Ob × Nat)
 T : Nat
def rheapParts (r : Nat) (s : Hs) (x : RhX) : List Prt :=
 [Prt.one r (.cells #[.int .i64 s.node, .int .i64 s.most, .int .u64 s.last, ptrV x.a, .slice x.p x.ps.length x.cap] x.T (0, 0)), RArn x.a s.ar, Prt.row 1 x.p x.ps.length x.cap (x.ps.map fun p => ptrV p.2),
  Prt.list (x.ps.map fun p => RThing p.2 p.1), Prt.pure (x.ps.map (·.1) = s.obs ∧ s.ok)]
def RHeap (r : Nat) (s : Hs) : Prt := Prt.ex fun x => Prt.list (rheapParts r s x)

section
variable {H0 H : Hp} {L M : List Prt} {i rb j b : Nat} {s : Hs} {x : RhX} {o : Ob} {K : Value → Hp → Prop}
theorem rheapTake (h : St H0 L H) (hi : L[i]? = some (RHeap rb s)) : ∃ x M, St H0 (rheapParts rb s x ++ M) H ∧ x.ps.map (·.1) = s.obs ∧ s.ok ∧ ∀ s' x' H', St H0 (rheapParts rb s' x' ++ M) H' → St H0 (L.set i (RHeap rb s')) H' := by
 obtain ⟨x, h1⟩ := h.openEx (M := rheapParts rb s) hi
 have := h1.fact (i := 4) (p := x.ps.map (·.1) = s.obs ∧ s.ok) rfl
 exact ⟨x, _, h1, this.1, this.2, fun s' x' H' h' => h'.shutEx (M := rheapParts rb s') x' hi⟩
theorem rheap_ok (h : St H0 L H) (hi : L[i]? = some (RHeap rb s)) : s.ok := let ⟨_, _, _, _, h, _⟩ := rheapTake h hi; h

structure RHeapV (H : Hp) (rb : Nat) (s : Hs) (x : RhX) : Prop where
 node : hcell H ⟨rb, 0, none⟩ = some (.int .i64 s.node)
 most : hcell H ⟨rb, 1, none⟩ = some (.int .i64 s.most)
 last : hcell H ⟨rb, 2, none⟩ = some (.int .u64 s.last)
 ar : hcell H ⟨rb, 3, none⟩ = some (ptrV x.a)
 sl : hcell H ⟨rb, 4, none⟩ = some (.slice x.p x.ps.length x.cap)
 row : Rd H 1 x.p x.ps.length (x.ps.map fun p => ptrV p.2)
theorem rheapV (h : St H0 (rheapParts rb s x ++ M) H) : RHeapV H rb s x :=
 ⟨h.cell (i := 0) rfl rfl, h.cell (i := 0) rfl rfl, h.cell (i := 0) rfl rfl, h.cell (i := 0) rfl rfl, h.cell (i := 0) rfl rfl, h.row_rd (i := 2) rfl⟩
structure RThingV (H : Hp) (b : Nat) (o : Ob) (p : Option Addr) (c : Nat) (q : Option Addr) (d : Nat) : Prop where
 ser : hcell H ⟨b, 0, none⟩ = some (.int .u64 o.ser)
 cell : hcell H ⟨b, 1, none⟩ = some (.int .i64 o.cell)
 refs : hcell H ⟨b, 2, none⟩ = some (.slice p o.refs.length c)
 vals : hcell H ⟨b, 3, none⟩ = some (.slice q o.vals.length d)
 din : hcell H ⟨b, 4, none⟩ = some (.int .i64 o.din)
 rrow : Rd H 2 p o.refs.length (cel Id.cells o.refs)
 vrow : Rd H 1 q o.vals.length (o.vals.map (Value.int .u64))
theorem rthingV (h : St H0 (rheapParts rb s x ++ M) H) (hj : x.ps[j]? = some (o, b)) : ∃ p c q d, RThingV H b o p c q d := by
 have h1 := h.sub (i := 3) (M := x.ps.map fun p => RThing p.2 p.1) (k := j) (A := RThing b o) rfl (by rw [List.getElem?_map, hj]; rfl)
 obtain ⟨y, h2⟩ := h1.openEx (i := 0) rfl
 exact ⟨_, _, _, _, h2.cell (i := 0) rfl rfl, h2.cell (i := 0) rfl rfl, h2.cell (i := 0) rfl rfl, h2.cell (i := 0) rfl rfl, h2.cell (i := 0) rfl rfl, h2.row_rd (i := 1) rfl, h2.row_rd (i := 2) rfl⟩

/-- Going to the j-th object. -/
theorem rAtJ {Q : Addr → Prop} (v : RHeapV H rb s x) {j : Nat} (hj : j < x.ps.length) (hQ : ∀ o b, x.ps[j]? = some (o, b) → ∀ bb oo, hcell H ⟨bb, oo, none⟩ = some (ptrV b) → Q ⟨bb, oo, none⟩) : idxA x.p x.ps.length (j : Int) 1 Q := by
 refine idx1 (d := (⟨0, 0, [], [], 0⟩, 0)) v.row (by omega) (by omega) fun bb oo _ hc => ?_
 rw [Int.toNat_natCast] at hc ⊢
 obtain ⟨o, b, hg⟩ : ∃ o b, x.ps[j]? = some (o, b) := ⟨x.ps[j].1, x.ps[j].2, List.getElem?_eq_getElem hj⟩
 rw [List.getD_eq_getElem?_getD, hg] at hc
 exact hQ o b hg bb _ hc

theorem rGetC {k : Int} (h : St H0 (rheapParts rb s x ++ M) H) (hp : x.ps.map (·.1) = s.obs) (ho : s.ok) (h0 : hGet s k = none → K (.pointer none) H)
  (h1 : ∀ (j : Nat) (o : Ob) (b : Nat), x.ps[j]? = some (o, b) → o.ser = k → hGet s k = some o → s.obs[j]? = some o → K (.pointer (some ⟨b, 0, none⟩)) H) : hcall PR f_ref8_Heap_Get ⟨[.pointer (some ⟨rb, 0, none⟩), .int .u64 k]⟩ H K := by
 apply den_ref8_Heap_Get
 unfold B_ref8_Heap_Get
 have v := rheapV h
 have hlen : x.ps.length = s.obs.length := by rw [← hp, List.length_map]
 have hsl : (s.obs.length : Int) ≤ 64 := by have := ho.len; have := ho.most; omega
 refine ⟨fun i H' => H' = H ∧ ∃ j : Nat, i = j ∧ j ≤ x.ps.length ∧ ∀ y o, y < j → s.obs[y]? = some o → o.ser ≠ k, fun i _ => (x.ps.length - i).toNat, ⟨rfl, 0, rfl, by omega, fun y o hy => absurd hy (Nat.not_lt_zero y)⟩, ?_⟩
 rintro i H' ⟨hH, j, rfl, hj, hno⟩
 subst hH
 simp only [Za,Zb,Zc,Zd,Zf,Zh,Zi,Zk,Zl,Zm,Zn,Zo,Zp,Zr,Zs,Zx,Zt,Zu,Zy,Zz,Zv,Zw,ZA,ZB,ZC,ZD]
 refine ldSl_of v.sl ?_
 by_cases hlt : (j : Int) < x.ps.length
 ·refine bif_pos hlt (ldSl_of v.sl (rAtJ v (by omega) fun o b hg bb oo hc => ldP_of hc ?_))
  obtain ⟨p, c, q, d, tv⟩ := rthingV h hg
  have hjo : s.obs[j]? = some o := by rw [← hp, List.getElem?_map, hg]; rfl
  simp only [Za,Zb,Zc,Zd,Zf,Zh,Zi,Zk,Zl,Zm,Zn,Zo,Zp,Zr,Zs,Zx,Zt,Zu,Zy,Zz,Zv,Zw,ZA,ZB,ZC,ZD]
  refine ldI_of tv.ser ?_
  by_cases hk : o.ser = k
  ·refine bif_eq hk (ldSl_of v.sl (rAtJ v (by omega) fun o' b' hg' bb oo hc => ldP_of hc ?_))
   rw [hg] at hg'
   cases hg'
   exact h1 j o b hg hk (by rw [← hk]; exact hGet_at ho hjo) hjo
  ·refine bif_ne hk ?_
   rw [wrap_i64 (by omega) (by omega)]
   refine ⟨⟨by trivial, j + 1, by omega, by omega, fun y o' hy hyo => ?_⟩, by (try dsimp only); omega⟩
   by_cases e : y = j
   ·subst e
    rw [hjo] at hyo
    cases hyo
    exact hk
   ·exact hno y o' (by omega) hyo
 ·refine bif_neg hlt (h0 (hGet_none.2 fun o hm => ?_))
  obtain ⟨y, hy, rfl⟩ := List.mem_iff_getElem.1 hm
  exact hno y _ (by omega) (List.getElem?_eq_getElem hy)

theorem rNextC {k : Int} (h : St H0 L H) (hi : L[i]? = some (RHeap rb s)) (hK : K (.tuple #[.int .u64 (hNext s k).1, .bool (hNext s k).2]) H) :
  hcall PR f_ref8_Heap_Next ⟨[.pointer (some ⟨rb, 0, none⟩), .int .u64 k]⟩ H K := by
 apply den_ref8_Heap_Next
 unfold B_ref8_Heap_Next
 obtain ⟨x, M, g, hp, ho, back⟩ := rheapTake h hi
 have v := rheapV g
 have hlen : x.ps.length = s.obs.length := by rw [← hp, List.length_map]
 have hsl : (s.obs.length : Int) ≤ 64 := by have := ho.len; have := ho.most; omega
 refine ⟨fun i H' => H' = H ∧ ∃ j : Nat, i = j ∧ j ≤ x.ps.length ∧ ∀ y o, y < j → s.obs[y]? = some o → ¬ k < o.ser, fun i _ => (x.ps.length - i).toNat, ⟨rfl, 0, rfl, by omega, fun y o hy => absurd hy (Nat.not_lt_zero y)⟩, ?_⟩
 rintro i H' ⟨hH, j, rfl, hj, hno⟩
 subst hH
 simp only [Za,Zb,Zc,Zd,Zf,Zh,Zi,Zk,Zl,Zm,Zn,Zo,Zp,Zr,Zs,Zx,Zt,Zu,Zy,Zz,Zv,Zw,ZA,ZB,ZC,ZD]
 refine ldSl_of v.sl ?_
 by_cases hlt : (j : Int) < x.ps.length
 ·refine bif_pos hlt (ldSl_of v.sl (rAtJ v (by omega) fun o b hg bb oo hc => ldP_of hc ?_))
  obtain ⟨p, c, q, d, tv⟩ := rthingV g hg
  have hjo : s.obs[j]? = some o := by rw [← hp, List.getElem?_map, hg]; rfl
  simp only [Za,Zb,Zc,Zd,Zf,Zh,Zi,Zk,Zl,Zm,Zn,Zo,Zp,Zr,Zs,Zx,Zt,Zu,Zy,Zz,Zv,Zw,ZA,ZB,ZC,ZD]
  refine ldI_of tv.ser ?_
  by_cases hk : o.ser > k
  ·refine bif_pos hk (ldSl_of v.sl (rAtJ v (by omega) fun o' b' hg' bb oo hc => ldP_of hc ?_))
   rw [hg] at hg'
   cases hg'
   simp only [Za,Zb,Zc,Zd,Zf,Zh,Zi,Zk,Zl,Zm,Zn,Zo,Zp,Zr,Zs,Zx,Zt,Zu,Zy,Zz,Zv,Zw,ZA,ZB,ZC,ZD]
   refine ldI_of tv.ser ?_
   have hf : s.obs.find? (fun o => decide (k < o.ser)) = some o := by
    rw [List.find?_eq_some_iff_getElem]
    have hjl := ltOfGet hjo
    refine ⟨by simpa using hk, j, hjl, by rw [List.getElem?_eq_getElem hjl] at hjo; exact Option.some.inj hjo, fun y hy => ?_⟩
    have := hno y _ hy (List.getElem?_eq_getElem (by omega))
    simpa using this
   unfold hNext at hK
   rw [hf] at hK
   exact hK
  ·refine bif_neg hk ?_
   rw [wrap_i64 (by omega) (by omega)]
   refine ⟨⟨by trivial, j + 1, by omega, by omega, fun y o' hy hyo => ?_⟩, by (try dsimp only); omega⟩
   by_cases e : y = j
   ·subst e
    rw [hjo] at hyo
    cases hyo
    exact hk
   ·exact hno y o' (by omega) hyo
 ·refine bif_neg hlt ?_
  have hf : s.obs.find? (fun o => decide (k < o.ser)) = none := by
   rw [List.find?_eq_none]
   intro o hm
   obtain ⟨y, hy, rfl⟩ := List.mem_iff_getElem.1 hm
   have := hno y _ (by omega) (List.getElem?_eq_getElem hy)
   simpa using this
  unfold hNext at hK
  rw [hf] at hK
  exact hK

theorem rID_ok {x : Id} (h : St H0 L H) (hK : ∀ H', St H0 L H' → K (.bool (okId x)) H') : hcall PR f_ref2_ID ⟨[.agg #[.int .i64 x.n, .int .u64 x.s]]⟩ H K := by
 apply den_ref2_ID
 unfold B_ref2_ID
 intro b hb
 have h1 := h.alloc (o := .cells #[.int .i64 x.n, .int .u64 x.s] ty_api_ID) hb
 have c0 := h1.cell (i := 0) (o := 0) rfl rfl
 have c1 := h1.cell (i := 0) (o := 1) rfl rfl
 have hK := hK _ h1.less
 have hi := okId_iff (x := x)
 have hno : x = noId ↔ x.n = 0 ∧ x.s = 0 := ⟨fun h => by rw [h]; exact ⟨rfl, rfl⟩, fun h => Id.ext h.1 h.2⟩
 rw [hno] at hi
 refine ldI_of c0 ?_
 by_cases e0 : x.n = 0
 ·refine bif_eq e0 (ldI_of c1 ?_)
  rw [show okId x = (x.s == 0) by rw [Bool.eq_iff_iff, hi, beq_iff_eq]; omega] at hK
  exact hK
 refine bif_ne e0 (ldI_of c0 ?_)
 by_cases e1 : x.n ≥ 1
 rotate_left
 ·refine bif_neg e1 ?_
  rw [show okId x = false by rw [← Bool.not_eq_true, hi]; omega] at hK
  exact hK
 refine bif_pos e1 (ldI_of c0 ?_)
 by_cases e2 : x.n ≤ 64
 rotate_left
 ·refine bif_neg e2 ?_
  rw [show okId x = false by rw [← Bool.not_eq_true, hi]; omega] at hK
  exact hK
 refine bif_pos e2 (ldI_of c1 ?_)
 by_cases e3 : x.s ≥ 1
 rotate_left
 ·refine bif_neg e3 ?_
  rw [show okId x = false by rw [← Bool.not_eq_true, hi]; omega] at hK
  exact hK
 refine bif_pos e3 (ldI_of c1 ?_)
 rw [show okId x = decide (x.s ≤ 72057594037927935) by rw [Bool.eq_iff_iff, hi, decide_eq_true_eq]; omega] at hK
 exact hK

theorem rRefC {k f : Int} (h : St H0 L H) (hi : L[i]? = some (RHeap rb s)) (hK : ∀ H', St H0 L H' → K (.tuple #[.agg #[.int .i64 (hRef s k f).1.n, .int .u64 (hRef s k f).1.s], .int .i64 (hRef s k f).2]) H') :
  hcall PR f_ref8_Heap_Ref ⟨[.pointer (some ⟨rb, 0, none⟩), .int .u64 k, .int .i64 f]⟩ H K := by
 apply den_ref8_Heap_Ref
 unfold B_ref8_Heap_Ref
 intro b hb'
 have h0 := h.alloc (o := .cells #[.int .i64 0, .int .u64 0] ty_api_ID) hb'
 obtain ⟨x, M, g, hp, ho, back⟩ := rheapTake (i := i + 1) h0 hi
 refine rGetC g hp ho (fun hg => ?_) fun j o bo hj hk hg hjo => ?_
 ·simp only [Za,Zb,Zc,Zd,Zf,Zh,Zi,Zk,Zl,Zm,Zn,Zo,Zp,Zr,Zs,Zx,Zt,Zu,Zy,Zz,Zv,Zw,ZA,ZB,ZC,ZD]
  refine fin2 h0 (i := 0) rfl rfl fun H' h' => ?_
  have hK := hK H' h'.less
  simp only [hRef, hg] at hK
  exact hK
 ·obtain ⟨p, c, q, d, tv⟩ := rthingV g hj
  simp only [Za,Zb,Zc,Zd,Zf,Zh,Zi,Zk,Zl,Zm,Zn,Zo,Zp,Zr,Zs,Zx,Zt,Zu,Zy,Zz,Zv,Zw,ZA,ZB,ZC,ZD]
  by_cases hf0 : f < 0
  ·refine bif_pos hf0 (fin2 h0 (i := 0) rfl rfl fun H' h' => ?_)
   have hK := hK H' h'.less
   simp only [hRef, hg, if_neg (show ¬ (0 ≤ f ∧ f < (o.refs.length : Int)) by omega)] at hK
   exact hK
  refine bif_neg hf0 (ldSl_of tv.refs ?_)
  by_cases hf : f ≥ (o.refs.length : Int)
  ·refine bif_pos hf (fin2 h0 (i := 0) rfl rfl fun H' h' => ?_)
   have hK := hK H' h'.less
   simp only [hRef, hg, if_neg (show ¬ (0 ≤ f ∧ f < (o.refs.length : Int)) by omega)] at hK
   exact hK
  refine bif_neg hf (ldSl_of tv.refs (idxS Id.len noId tv.rrow (by omega) (by omega) (by omega) fun b' o' hpp hlt hcc => ?_))
  have c0 := hcc 0 (by omega)
  have c1 := hcc 1 (by omega)
  simp only [Za,Zb,Zc,Zd,Zf,Zh,Zi,Zk,Zl,Zm,Zn,Zo,Zp,Zr,Zs,Zx,Zt,Zu,Zy,Zz,Zv,Zw,ZA,ZB,ZC,ZD]
  refine ldI_of c0 (ldI_of c1 (fin2 h0 (i := 0) rfl rfl fun H' h' => ?_))
  have hK := hK H' h'.less
  simp only [hRef, hg, if_pos (show 0 ≤ f ∧ f < (o.refs.length : Int) by omega)] at hK
  exact hK

/-! ## Lists held against one another -/
theorem ids_same {p q : Option Addr} {n m c d : Nat} {l : List Id} (ha : Rd H 2 p n (cel Id.cells l)) (hb : Rd H 2 q m (cel Id.cells l)) (hn : n < 4611686018427387904) (hK : K (.bool true) H) :
  hcall PR f_ref2_IDs ⟨[.slice p n c, .slice q m d]⟩ H K := by
 apply den_ref2_IDs
 unfold B_ref2_IDs
 have h1 := ha.1
 have h2 := hb.1
 rw [cel_len Id.len] at h1 h2
 refine bif_neqf (by omega) ?_
 refine ⟨fun i H' => H' = H ∧ ∃ j : Nat, i = j ∧ j ≤ n, fun i _ => (n - i).toNat, ⟨rfl, 0, rfl, by omega⟩, ?_⟩
 rintro i H' ⟨hH, j, rfl, hj⟩
 subst hH
 by_cases hlt : (j : Int) < n
 ·refine bif_pos hlt (idxS Id.len noId ha (by omega) (by omega) hlt fun b' o' _ _ hcc => ?_)
  have c0 := hcc 0 (by omega)
  have c1 := hcc 1 (by omega)
  simp only [Za,Zb,Zc,Zd,Zf,Zh,Zi,Zk,Zl,Zm,Zn,Zo,Zp,Zr,Zs,Zx,Zt,Zu,Zy,Zz,Zv,Zw,ZA,ZB,ZC,ZD]
  refine ldI_of c0 (ldI_of c1 (idxS Id.len noId hb (by omega) (by omega) (by omega) fun b2 o2 _ _ hcc2 => ?_))
  have d0 := hcc2 0 (by omega)
  have d1 := hcc2 1 (by omega)
  simp only [Za,Zb,Zc,Zd,Zf,Zh,Zi,Zk,Zl,Zm,Zn,Zo,Zp,Zr,Zs,Zx,Zt,Zu,Zy,Zz,Zv,Zw,ZA,ZB,ZC,ZD]
  refine ldI_of d0 (ldI_of d1 (idNe ?_))
  simp only [decide_true]
  simp only [Za,Zb,Zc,Zd,Zf,Zh,Zi,Zk,Zl,Zm,Zn,Zo,Zp,Zr,Zs,Zx,Zt,Zu,Zy,Zz,Zv,Zw,ZA,ZB,ZC,ZD]
  rw [wrap_i64 (by omega) (by omega)]
  exact ⟨⟨by trivial, j + 1, by omega, by omega⟩, by (try dsimp only); omega⟩
 ·exact bif_neg hlt hK
theorem nums_same {p q : Option Addr} {n m c d : Nat} {l : List Int} (ha : Rd H 1 p n (l.map (Value.int .u64))) (hb : Rd H 1 q m (l.map (Value.int .u64))) (hn : n < 4611686018427387904) (hK : K (.bool true) H) :
  hcall PR f_ref2_Numbers ⟨[.slice p n c, .slice q m d]⟩ H K := by
 apply den_ref2_Numbers
 unfold B_ref2_Numbers
 have h1 := ha.len1
 have h2 := hb.len1
 refine bif_neqf (by omega) ?_
 refine ⟨fun i H' => H' = H ∧ ∃ j : Nat, i = j ∧ j ≤ n, fun i _ => (n - i).toNat, ⟨rfl, 0, rfl, by omega⟩, ?_⟩
 rintro i H' ⟨hH, j, rfl, hj⟩
 subst hH
 by_cases hlt : (j : Int) < n
 ·refine bif_pos hlt (idx1 (d := 0) ha (by omega) hlt fun _ _ _ hc => ldI_of hc (idx1 (d := 0) hb (by omega) (by omega) fun _ _ _ hc' => ldI_of hc' (bif_neqf rfl ?_)))
  rw [wrap_i64 (by omega) (by omega)]
  exact ⟨⟨rfl, j + 1, by omega, by omega⟩, by (try dsimp only); omega⟩
 ·exact bif_neg hlt hK
end
end Go.Proofs.YtflfodcemnapeaaGreat

namespace Go.Proofs.YtflfodcemnapeaaGreat
open Go
set_option linter.unusedVariables false
set_option maxRecDepth 100000
def B_hand_Graph_Heaps (gRefsP1 : Option Addr) (gRefsL2 : Nat) (gRefsC3 : Nat) (gOutP4 : Option Addr) (gOutL5 : Nat) (gOutC6 : Nat) (gInP7 : Option Addr) (gInL8 : Nat) (gInC9 : Nat) (most10 : Int) (H : Hp) (K : Value → Hp → Prop) : Prop :=
 newB (.cells #[(.slice gRefsP1 gRefsL2 gRefsC3), (.slice gOutP4 gOutL5 gOutC6), (.slice gInP7 gInL8 gInC9)] ty_hand_Graph) H fun b11 Hx12 =>
 ldSl ⟨b11, 0, none⟩ Hx12 fun RefsP13 RefsL14 RefsC15 =>
 ldSl ⟨b11, 1, none⟩ Hx12 fun OutP16 OutL17 OutC18 =>
 ldSl ⟨b11, 2, none⟩ Hx12 fun InP19 InL20 InC21 =>
 hcall PR f_hand_Graph_Size ⟨[(.agg #[(.slice RefsP13 RefsL14 RefsC15), (.slice OutP16 OutL17 OutC18), (.slice InP19 InL20 InC21)]), (.int .i64 most10)]⟩ Hx12 fun v22 Hx23 =>
 asI .i64 v22 fun t24 =>
 hcall PR f_heap_New ⟨[(.int .i64 1), (.int .i64 4096), (.int .i64 64), (.int .u64 0)]⟩ Hx23 fun v25 Hx26 =>
 tup2 v25 fun v27 v28 =>
 asP v27 fun t29 =>
 asI .i64 v28 fun t30 =>
 hcall PR f_ref8_New ⟨[(.int .i64 1), (.int .i64 4096), (.int .i64 64), (.int .u64 0)]⟩ Hx26 fun v31 Hx32 =>
 asP v31 fun t33 =>
 (bif ((t30 : Int) != 0) then
 K (.tuple #[(.pointer none), (.pointer none)]) Hx32
else
 (bif (Option.isNone (α := Addr) t29) then
 K (.tuple #[(.pointer none), (.pointer none)]) Hx32
else
 (bif (Option.isNone (α := Addr) t33) then
 K (.tuple #[(.pointer none), (.pointer none)]) Hx32
else
 ∃ (I34 : Int → Hp → Prop) (m35 : Int → Hp → Nat), I34 0 Hx32 ∧ ∀ i37 : Int, ∀ Hx36 : Hp, I34 i37 Hx36 →
 (bif (decide ((i37 : Int) < t24)) then
 ldSl ⟨b11, 0, none⟩ Hx36 fun RefsP38 RefsL39 RefsC40 =>
 idxA RefsP38 RefsL39 i37 1 fun el41 =>
 ldSl el41 Hx36 fun tP42 tL43 tC44 =>
 hcall PR f_heap_Heap_Make ⟨[(.pointer t29), (.int .i64 (if 7 < (tL43 : Int) then 7 else (tL43 : Int))), (.int .i64 0)]⟩ Hx36 fun v45 Hx46 =>
 tup2 v45 fun v47 v48 =>
 asI .u64 v47 fun t49 =>
 asI .i64 v48 fun t50 =>
 hcall PR f_ref8_Heap_Make ⟨[(.pointer t33), (.int .i64 (if 7 < (tL43 : Int) then 7 else (tL43 : Int))), (.int .i64 0)]⟩ Hx46 fun v51 Hx52 =>
 tup2 v51 fun v53 v54 =>
 asI .u64 v53 fun t55 =>
 asI .i64 v54 fun t56 =>
 (bif ((t50 : Int) != 0) then
 K (.tuple #[(.pointer none), (.pointer none)]) Hx52
else
 (bif ((t49 : Int) != t55) then
 K (.tuple #[(.pointer none), (.pointer none)]) Hx52
else
 I34 (IntKind.i64.wrap (i37 + 1)) Hx52 ∧ m35 (IntKind.i64.wrap (i37 + 1)) Hx52 < m35 i37 Hx36))
else
 ∃ (I57 : Int → Hp → Prop) (m58 : Int → Hp → Nat), I57 0 Hx36 ∧ ∀ i60 : Int, ∀ Hx59 : Hp, I57 i60 Hx59 →
 (bif (decide ((i60 : Int) < t24)) then
 ∀ R61 : Hp → Prop, (∀ Hx62 : Hp, (
 ldSl ⟨b11, 0, none⟩ Hx62 fun RefsP63 RefsL64 RefsC65 =>
 ldSl ⟨b11, 1, none⟩ Hx62 fun OutP66 OutL67 OutC68 =>
 ldSl ⟨b11, 2, none⟩ Hx62 fun InP69 InL70 InC71 =>
 hcall PR f_hand_Graph_Dist ⟨[(.agg #[(.slice RefsP63 RefsL64 RefsC65), (.slice OutP66 OutL67 OutC68), (.slice InP69 InL70 InC71)]), (.int .i64 i60)]⟩ Hx62 fun v72 Hx73 =>
 asI .i64 v72 fun t74 =>
 hcall PR f_heap_Heap_SetIn ⟨[(.pointer t29), (.int .u64 (IntKind.u64.wrap (IntKind.i64.wrap (i60 + 1)))), (.int .i64 t74)]⟩ Hx73 fun v75 Hx76 =>
 asI .i64 v75 fun t77 =>
 ldSl ⟨b11, 0, none⟩ Hx76 fun RefsP78 RefsL79 RefsC80 =>
 ldSl ⟨b11, 1, none⟩ Hx76 fun OutP81 OutL82 OutC83 =>
 ldSl ⟨b11, 2, none⟩ Hx76 fun InP84 InL85 InC86 =>
 hcall PR f_hand_Graph_Dist ⟨[(.agg #[(.slice RefsP78 RefsL79 RefsC80), (.slice OutP81 OutL82 OutC83), (.slice InP84 InL85 InC86)]), (.int .i64 i60)]⟩ Hx76 fun v87 Hx88 =>
 asI .i64 v87 fun t89 =>
 hcall PR f_ref8_Heap_SetIn ⟨[(.pointer t33), (.int .u64 (IntKind.u64.wrap (IntKind.i64.wrap (i60 + 1)))), (.int .i64 t89)]⟩ Hx88 fun v90 Hx91 =>
 asI .i64 v90 fun t92 =>
 I57 (IntKind.i64.wrap (i60 + 1)) Hx91 ∧ m58 (IntKind.i64.wrap (i60 + 1)) Hx91 < m58 i60 Hx59) → R61 Hx62) →
 ∃ (I93 : Int → Hp → Prop) (m94 : Int → Hp → Nat), I93 0 Hx59 ∧ ∀ k96 : Int, ∀ Hx95 : Hp, I93 k96 Hx95 →
 ldSl ⟨b11, 0, none⟩ Hx95 fun RefsP97 RefsL98 RefsC99 =>
 idxA RefsP97 RefsL98 i60 1 fun el100 =>
 ldSl el100 Hx95 fun tP101 tL102 tC103 =>
 (bif (decide ((k96 : Int) < (tL102 : Int))) then
 (bif (decide ((k96 : Int) < 7)) then
 ldSl ⟨b11, 0, none⟩ Hx95 fun RefsP104 RefsL105 RefsC106 =>
 ldSl ⟨b11, 1, none⟩ Hx95 fun OutP107 OutL108 OutC109 =>
 ldSl ⟨b11, 2, none⟩ Hx95 fun InP110 InL111 InC112 =>
 hcall PR f_hand_Graph_Target ⟨[(.agg #[(.slice RefsP104 RefsL105 RefsC106), (.slice OutP107 OutL108 OutC109), (.slice InP110 InL111 InC112)]), (.int .i64 i60), (.int .i64 k96), (.int .i64 t24)]⟩ Hx95 fun v113 Hx114 =>
 agg2 v113 fun v115 v116 =>
 asI .i64 v115 fun Node117 =>
 asI .u64 v116 fun Serial118 =>
 newB (.cells #[(.int .i64 0), (.int .u64 0)] ty_api_ID) Hx114 fun b119 Hx120 =>
 st ⟨b119, 0, none⟩ (.int .i64 Node117) Hx120 fun Hx121 =>
 st ⟨b119, 1, none⟩ (.int .u64 Serial118) Hx121 fun Hx122 =>
 ldI .i64 ⟨b119, 0, none⟩ Hx122 fun Node123 =>
 ldI .u64 ⟨b119, 1, none⟩ Hx122 fun Serial124 =>
 hcall PR f_heap_Heap_SetRef ⟨[(.pointer t29), (.int .u64 (IntKind.u64.wrap (IntKind.i64.wrap (i60 + 1)))), (.int .i64 k96), (.agg #[(.int .i64 Node123), (.int .u64 Serial124)])]⟩ Hx122 fun v125 Hx126 =>
 tup2 v125 fun v127 v128 =>
 agg2 v127 fun v129 v130 =>
 asI .i64 v129 fun Node131 =>
 asI .u64 v130 fun Serial132 =>
 asI .i64 v128 fun t133 =>
 ldI .i64 ⟨b119, 0, none⟩ Hx126 fun Node134 =>
 ldI .u64 ⟨b119, 1, none⟩ Hx126 fun Serial135 =>
 hcall PR f_ref8_Heap_SetRef ⟨[(.pointer t33), (.int .u64 (IntKind.u64.wrap (IntKind.i64.wrap (i60 + 1)))), (.int .i64 k96), (.agg #[(.int .i64 Node134), (.int .u64 Serial135)])]⟩ Hx126 fun v136 Hx137 =>
 tup2 v136 fun v138 v139 =>
 agg2 v138 fun v140 v141 =>
 asI .i64 v140 fun Node142 =>
 asI .u64 v141 fun Serial143 =>
 asI .i64 v139 fun t144 =>
 I93 (IntKind.i64.wrap (k96 + 1)) Hx137 ∧ m94 (IntKind.i64.wrap (k96 + 1)) Hx137 < m94 k96 Hx95
else
 R61 Hx95)
else
 R61 Hx95)
else
 K (.tuple #[(.pointer t29), (.pointer t33)]) Hx59)))))
theorem E_hand_Graph_Heaps (gRefsP1 : Option Addr) (gRefsL2 : Nat) (gRefsC3 : Nat) (gOutP4 : Option Addr) (gOutL5 : Nat) (gOutC6 : Nat) (gInP7 : Option Addr) (gInL8 : Nat) (gInC9 : Nat) (most10 : Int) (H : Hp) (K : Value → Hp → Prop) : B_hand_Graph_Heaps gRefsP1 gRefsL2 gRefsC3 gOutP4 gOutL5 gOutC6 gInP7 gInL8 gInC9 most10 H K = denF Tryz.prog Tryz.f4 (.seq none .n (.seq none .n (.seq none .n (.seq none .n (.seq none .n (.seq none (.seq none .n (.sub (.loop ⟨[(10, .int .i64)], [2, 6, 7, 9]⟩ .n))) (.seq none (.seq none .n (.sub (.loop ⟨[(16, .int .i64)], [2, 6, 7, 9]⟩ (.seq none .n (.seq none (.sub (.seq (some ⟨[], [2, 6, 7, 9, 16]⟩) (.seq none .n (.sub (.loop ⟨[(17, .int .i64)], [2, 6, 7, 9, 16]⟩ .n))) .n)) .n))))) .n))))))) [(.agg #[(.slice gRefsP1 gRefsL2 gRefsC3), (.slice gOutP4 gOutL5 gOutC6), (.slice gInP7 gInL8 gInC9)]), (.int .i64 most10)] H K := by kernel_rfl
theorem den_hand_Graph_Heaps {gRefsP1 : Option Addr} {gRefsL2 : Nat} {gRefsC3 : Nat} {gOutP4 : Option Addr} {gOutL5 : Nat} {gOutC6 : Nat} {gInP7 : Option Addr} {gInL8 : Nat} {gInC9 : Nat} {most10 : Int} {H : Hp} {K : Value → Hp → Prop} (h : B_hand_Graph_Heaps gRefsP1 gRefsL2 gRefsC3 gOutP4 gOutL5 gOutC6 gInP7 gInL8 gInC9 most10 H K) : hcall PR f_hand_Graph_Heaps ⟨[(.agg #[(.slice gRefsP1 gRefsL2 gRefsC3), (.slice gOutP4 gOutL5 gOutC6), (.slice gInP7 gInL8 gInC9)]), (.int .i64 most10)]⟩ H K := denF_call Tryz.func4 PR_mixed (Eq.mp (E_hand_Graph_Heaps gRefsP1 gRefsL2 gRefsC3 gOutP4 gOutL5 gOutC6 gInP7 gInL8 gInC9 most10 H K) h)

def B_hand_Pick (n1 : Int) (m2 : Int) (H : Hp) (K : Value → Hp → Prop) : Prop :=
 (m2 : Int) ≠ 0 ∧
 (bif (decide (((Int.tmod n1 m2) : Int) < 0)) then
 K (.int .i64 (IntKind.i64.wrap ((Int.tmod n1 m2) + m2))) H
else
 K (.int .i64 (Int.tmod n1 m2)) H)
theorem E_hand_Pick (n1 : Int) (m2 : Int) (H : Hp) (K : Value → Hp → Prop) : B_hand_Pick n1 m2 H K = denF Tryz.prog Tryz.f6 .n [(.int .i64 n1), (.int .i64 m2)] H K := by kernel_rfl
theorem den_hand_Pick {n1 : Int} {m2 : Int} {H : Hp} {K : Value → Hp → Prop} (h : B_hand_Pick n1 m2 H K) : hcall PR f_hand_Pick ⟨[(.int .i64 n1), (.int .i64 m2)]⟩ H K := denF_call Tryz.func6 PR_mixed (Eq.mp (E_hand_Pick n1 m2 H K) h)

def B_hand_Graph_Size (gRefsP1 : Option Addr) (gRefsL2 : Nat) (gRefsC3 : Nat) (gOutP4 : Option Addr) (gOutL5 : Nat) (gOutC6 : Nat) (gInP7 : Option Addr) (gInL8 : Nat) (gInC9 : Nat) (most10 : Int) (H : Hp) (K : Value → Hp → Prop) : Prop :=
 newB (.cells #[(.slice gRefsP1 gRefsL2 gRefsC3), (.slice gOutP4 gOutL5 gOutC6), (.slice gInP7 gInL8 gInC9)] ty_hand_Graph) H fun b11 Hx12 =>
 ldSl ⟨b11, 0, none⟩ Hx12 fun RefsP13 RefsL14 RefsC15 =>
 K (.int .i64 (if most10 < (RefsL14 : Int) then most10 else (RefsL14 : Int))) Hx12
theorem E_hand_Graph_Size (gRefsP1 : Option Addr) (gRefsL2 : Nat) (gRefsC3 : Nat) (gOutP4 : Option Addr) (gOutL5 : Nat) (gOutC6 : Nat) (gInP7 : Option Addr) (gInL8 : Nat) (gInC9 : Nat) (most10 : Int) (H : Hp) (K : Value → Hp → Prop) : B_hand_Graph_Size gRefsP1 gRefsL2 gRefsC3 gOutP4 gOutL5 gOutC6 gInP7 gInL8 gInC9 most10 H K = denF Tryz.prog Tryz.f28 .n [(.agg #[(.slice gRefsP1 gRefsL2 gRefsC3), (.slice gOutP4 gOutL5 gOutC6), (.slice gInP7 gInL8 gInC9)]), (.int .i64 most10)] H K := by kernel_rfl
theorem den_hand_Graph_Size {gRefsP1 : Option Addr} {gRefsL2 : Nat} {gRefsC3 : Nat} {gOutP4 : Option Addr} {gOutL5 : Nat} {gOutC6 : Nat} {gInP7 : Option Addr} {gInL8 : Nat} {gInC9 : Nat} {most10 : Int} {H : Hp} {K : Value → Hp → Prop} (h : B_hand_Graph_Size gRefsP1 gRefsL2 gRefsC3 gOutP4 gOutL5 gOutC6 gInP7 gInL8 gInC9 most10 H K) : hcall PR f_hand_Graph_Size ⟨[(.agg #[(.slice gRefsP1 gRefsL2 gRefsC3), (.slice gOutP4 gOutL5 gOutC6), (.slice gInP7 gInL8 gInC9)]), (.int .i64 most10)]⟩ H K := denF_call Tryz.func28 PR_mixed (Eq.mp (E_hand_Graph_Size gRefsP1 gRefsL2 gRefsC3 gOutP4 gOutL5 gOutC6 gInP7 gInL8 gInC9 most10 H K) h)

def B_hand_Graph_Target (gRefsP1 : Option Addr) (gRefsL2 : Nat) (gRefsC3 : Nat) (gOutP4 : Option Addr) (gOutL5 : Nat) (gOutC6 : Nat) (gInP7 : Option Addr) (gInL8 : Nat) (gInC9 : Nat) (i10 : Int) (k11 : Int) (n12 : Int) (H : Hp) (K : Value → Hp → Prop) : Prop :=
 newB (.cells #[(.slice gRefsP1 gRefsL2 gRefsC3), (.slice gOutP4 gOutL5 gOutC6), (.slice gInP7 gInL8 gInC9)] ty_hand_Graph) H fun b13 Hx14 =>
 newB (.cells #[(.int .i64 0), (.int .u64 0)] ty_api_ID) Hx14 fun b15 Hx16 =>
 ldSl ⟨b13, 0, none⟩ Hx16 fun RefsP17 RefsL18 RefsC19 =>
 idxA RefsP17 RefsL18 i10 1 fun el20 =>
 ldSl el20 Hx16 fun tP21 tL22 tC23 =>
 idxA tP21 tL22 k11 1 fun el24 =>
 ldI .i64 el24 Hx16 fun t25 =>
 ∀ R26 : Bool → Hp → Prop, (∀ out28 : Bool, ∀ Hx27 : Hp, (
 (5 : Int) ≠ 0 ∧
 (bif (((Int.tmod t25 5) : Int) == 0) then
 st ⟨b15, 0, none⟩ (.int .i64 0) Hx27 fun Hx29 =>
 st ⟨b15, 1, none⟩ (.int .u64 0) Hx29 fun Hx30 =>
 ldI .i64 ⟨b15, 0, none⟩ Hx30 fun Node31 =>
 ldI .u64 ⟨b15, 1, none⟩ Hx30 fun Serial32 =>
 K (.agg #[(.int .i64 Node31), (.int .u64 Serial32)]) Hx30
else
 (bif out28 then
 hcall PR f_hand_Pick ⟨[(.int .i64 t25), (.int .i64 2)]⟩ Hx27 fun v33 Hx34 =>
 asI .i64 v33 fun t35 =>
 (2 : Int) ≠ 0 ∧
 hcall PR f_hand_Pick ⟨[(.int .i64 (IntKind.i64.wrap (Int.tdiv t25 2))), (.int .i64 4)]⟩ Hx34 fun v36 Hx37 =>
 asI .i64 v36 fun t38 =>
 st ⟨b15, 0, none⟩ (.int .i64 (IntKind.i64.wrap (2 + t35))) Hx37 fun Hx39 =>
 st ⟨b15, 1, none⟩ (.int .u64 (IntKind.u64.wrap (IntKind.i64.wrap (1 + t38)))) Hx39 fun Hx40 =>
 ldI .i64 ⟨b15, 0, none⟩ Hx40 fun Node41 =>
 ldI .u64 ⟨b15, 1, none⟩ Hx40 fun Serial42 =>
 K (.agg #[(.int .i64 Node41), (.int .u64 Serial42)]) Hx40
else
 hcall PR f_hand_Pick ⟨[(.int .i64 t25), (.int .i64 n12)]⟩ Hx27 fun v43 Hx44 =>
 asI .i64 v43 fun t45 =>
 st ⟨b15, 0, none⟩ (.int .i64 1) Hx44 fun Hx46 =>
 st ⟨b15, 1, none⟩ (.int .u64 (IntKind.u64.wrap (IntKind.i64.wrap (1 + t45)))) Hx46 fun Hx47 =>
 ldI .i64 ⟨b15, 0, none⟩ Hx47 fun Node48 =>
 ldI .u64 ⟨b15, 1, none⟩ Hx47 fun Serial49 =>
 K (.agg #[(.int .i64 Node48), (.int .u64 Serial49)]) Hx47))) → R26 out28 Hx27) →
 ldSl ⟨b13, 1, none⟩ Hx16 fun OutP50 OutL51 OutC52 =>
 (bif (decide (((OutL51 : Int) : Int) > 0)) then
 ldSl ⟨b13, 1, none⟩ Hx16 fun OutP53 OutL54 OutC55 =>
 ldSl ⟨b13, 1, none⟩ Hx16 fun OutP56 OutL57 OutC58 =>
 hcall PR f_hand_Pick ⟨[(.int .i64 (IntKind.i64.wrap ((IntKind.i64.wrap (7 * i10)) + k11))), (.int .i64 (OutL57 : Int))]⟩ Hx16 fun v59 Hx60 =>
 asI .i64 v59 fun t61 =>
 (ldSl ⟨b13, 1, none⟩ Hx60 fun OutP62 OutL63 OutC64 =>
 ((.slice OutP62 OutL63 OutC64) : Value) = (.slice OutP53 OutL54 OutC55)) ∧
 idxA OutP53 OutL54 t61 1 fun el65 =>
 ldB el65 Hx60 fun t66 =>
 R26 t66 Hx60
else
 R26 false Hx16)
theorem E_hand_Graph_Target (gRefsP1 : Option Addr) (gRefsL2 : Nat) (gRefsC3 : Nat) (gOutP4 : Option Addr) (gOutL5 : Nat) (gOutC6 : Nat) (gInP7 : Option Addr) (gInL8 : Nat) (gInC9 : Nat) (i10 : Int) (k11 : Int) (n12 : Int) (H : Hp) (K : Value → Hp → Prop) : B_hand_Graph_Target gRefsP1 gRefsL2 gRefsC3 gOutP4 gOutL5 gOutC6 gInP7 gInL8 gInC9 i10 k11 n12 H K = denF Tryz.prog Tryz.f31 (.seq none .n (.seq none .n (.seq (some ⟨[(10, .bool)], [3, 8, 9]⟩) .n .n))) [(.agg #[(.slice gRefsP1 gRefsL2 gRefsC3), (.slice gOutP4 gOutL5 gOutC6), (.slice gInP7 gInL8 gInC9)]), (.int .i64 i10), (.int .i64 k11), (.int .i64 n12)] H K := by kernel_rfl
theorem den_hand_Graph_Target {gRefsP1 : Option Addr} {gRefsL2 : Nat} {gRefsC3 : Nat} {gOutP4 : Option Addr} {gOutL5 : Nat} {gOutC6 : Nat} {gInP7 : Option Addr} {gInL8 : Nat} {gInC9 : Nat} {i10 : Int} {k11 : Int} {n12 : Int} {H : Hp} {K : Value → Hp → Prop} (h : B_hand_Graph_Target gRefsP1 gRefsL2 gRefsC3 gOutP4 gOutL5 gOutC6 gInP7 gInL8 gInC9 i10 k11 n12 H K) : hcall PR f_hand_Graph_Target ⟨[(.agg #[(.slice gRefsP1 gRefsL2 gRefsC3), (.slice gOutP4 gOutL5 gOutC6), (.slice gInP7 gInL8 gInC9)]), (.int .i64 i10), (.int .i64 k11), (.int .i64 n12)]⟩ H K := denF_call Tryz.func31 PR_mixed (Eq.mp (E_hand_Graph_Target gRefsP1 gRefsL2 gRefsC3 gOutP4 gOutL5 gOutC6 gInP7 gInL8 gInC9 i10 k11 n12 H K) h)

def B_hand_Graph_Dist (gRefsP1 : Option Addr) (gRefsL2 : Nat) (gRefsC3 : Nat) (gOutP4 : Option Addr) (gOutL5 : Nat) (gOutC6 : Nat) (gInP7 : Option Addr) (gInL8 : Nat) (gInC9 : Nat) (i10 : Int) (H : Hp) (K : Value → Hp → Prop) : Prop :=
 newB (.cells #[(.slice gRefsP1 gRefsL2 gRefsC3), (.slice gOutP4 gOutL5 gOutC6), (.slice gInP7 gInL8 gInC9)] ty_hand_Graph) H fun b11 Hx12 =>
 ldSl ⟨b11, 2, none⟩ Hx12 fun InP13 InL14 InC15 =>
 (bif (((InL14 : Int) : Int) == 0) then
 K (.int .i64 0) Hx12
else
 ldSl ⟨b11, 2, none⟩ Hx12 fun InP16 InL17 InC18 =>
 ldSl ⟨b11, 2, none⟩ Hx12 fun InP19 InL20 InC21 =>
 ((InL20 : Int) : Int) ≠ 0 ∧
 idxA InP16 InL17 (Int.tmod i10 (InL20 : Int)) 1 fun el22 =>
 ldI .i64 el22 Hx12 fun t23 =>
 hcall PR f_hand_Pick ⟨[(.int .i64 t23), (.int .i64 14)]⟩ Hx12 fun v24 Hx25 =>
 asI .i64 v24 fun t26 =>
 K (.int .i64 (if 0 < (IntKind.i64.wrap (t26 - 6)) then (IntKind.i64.wrap (t26 - 6)) else 0)) Hx25)
theorem E_hand_Graph_Dist (gRefsP1 : Option Addr) (gRefsL2 : Nat) (gRefsC3 : Nat) (gOutP4 : Option Addr) (gOutL5 : Nat) (gOutC6 : Nat) (gInP7 : Option Addr) (gInL8 : Nat) (gInC9 : Nat) (i10 : Int) (H : Hp) (K : Value → Hp → Prop) : B_hand_Graph_Dist gRefsP1 gRefsL2 gRefsC3 gOutP4 gOutL5 gOutC6 gInP7 gInL8 gInC9 i10 H K = denF Tryz.prog Tryz.f32 .n [(.agg #[(.slice gRefsP1 gRefsL2 gRefsC3), (.slice gOutP4 gOutL5 gOutC6), (.slice gInP7 gInL8 gInC9)]), (.int .i64 i10)] H K := by kernel_rfl
theorem den_hand_Graph_Dist {gRefsP1 : Option Addr} {gRefsL2 : Nat} {gRefsC3 : Nat} {gOutP4 : Option Addr} {gOutL5 : Nat} {gOutC6 : Nat} {gInP7 : Option Addr} {gInL8 : Nat} {gInC9 : Nat} {i10 : Int} {H : Hp} {K : Value → Hp → Prop} (h : B_hand_Graph_Dist gRefsP1 gRefsL2 gRefsC3 gOutP4 gOutL5 gOutC6 gInP7 gInL8 gInC9 i10 H K) : hcall PR f_hand_Graph_Dist ⟨[(.agg #[(.slice gRefsP1 gRefsL2 gRefsC3), (.slice gOutP4 gOutL5 gOutC6), (.slice gInP7 gInL8 gInC9)]), (.int .i64 i10)]⟩ H K := denF_call Tryz.func32 PR_mixed (Eq.mp (E_hand_Graph_Dist gRefsP1 gRefsL2 gRefsC3 gOutP4 gOutL5 gOutC6 gInP7 gInL8 gInC9 i10 H K) h)

def B_hand_Outs (aP1 : Option Addr) (aL2 : Nat) (aC3 : Nat) (bP4 : Option Addr) (bL5 : Nat) (bC6 : Nat) (H : Hp) (K : Value → Hp → Prop) : Prop :=
 (bif (((aL2 : Int) : Int) != (bL5 : Int)) then
 K (.bool false) H
else
 ∃ (I7 : Int → Hp → Prop) (m8 : Int → Hp → Nat), I7 0 H ∧ ∀ i10 : Int, ∀ Hx9 : Hp, I7 i10 Hx9 →
 (bif (decide ((i10 : Int) < (aL2 : Int))) then
 idxA aP1 aL2 i10 3 fun el11 =>
 ldI .i64 el11 Hx9 fun Node12 =>
 ldI .u64 (el11.add 1) Hx9 fun Serial13 =>
 idxA bP4 bL5 i10 3 fun el14 =>
 ldI .i64 el14 Hx9 fun Node15 =>
 ldI .u64 (el14.add 1) Hx9 fun Serial16 =>
 evR PR (aggEq .neq ty_api_ID #[(.int .i64 Node12), (.int .u64 Serial13)] #[(.int .i64 Node15), (.int .u64 Serial16)]) Hx9 fun v17 =>
 asB v17 fun eq18 =>
 (bif eq18 then
 K (.bool false) Hx9
else
 idxA aP1 aL2 i10 3 fun el19 =>
 ldI .i64 (el19.add 2) Hx9 fun Rank20 =>
 idxA bP4 bL5 i10 3 fun el21 =>
 ldI .i64 (el21.add 2) Hx9 fun Rank22 =>
 (bif ((Rank20 : Int) != Rank22) then
 K (.bool false) Hx9
else
 I7 (IntKind.i64.wrap (i10 + 1)) Hx9 ∧ m8 (IntKind.i64.wrap (i10 + 1)) Hx9 < m8 i10 Hx9))
else
 K (.bool true) Hx9))
theorem E_hand_Outs (aP1 : Option Addr) (aL2 : Nat) (aC3 : Nat) (bP4 : Option Addr) (bL5 : Nat) (bC6 : Nat) (H : Hp) (K : Value → Hp → Prop) : B_hand_Outs aP1 aL2 aC3 bP4 bL5 bC6 H K = denF Tryz.prog Tryz.f73 (.seq none .n (.seq none .n (.seq none (.seq none .n (.sub (.loop ⟨[(5, .int .i64)], [0, 1]⟩ .n))) .n))) [(.slice aP1 aL2 aC3), (.slice bP4 bL5 bC6)] H K := by kernel_rfl
theorem den_hand_Outs {aP1 : Option Addr} {aL2 : Nat} {aC3 : Nat} {bP4 : Option Addr} {bL5 : Nat} {bC6 : Nat} {H : Hp} {K : Value → Hp → Prop} (h : B_hand_Outs aP1 aL2 aC3 bP4 bL5 bC6 H K) : hcall PR f_hand_Outs ⟨[(.slice aP1 aL2 aC3), (.slice bP4 bL5 bC6)]⟩ H K := denF_call Tryz.func73 PR_mixed (Eq.mp (E_hand_Outs aP1 aL2 aC3 bP4 bL5 bC6 H K) h)

def B_hand_Rows (aP1 : Option Addr) (aL2 : Nat) (aC3 : Nat) (bP4 : Option Addr) (bL5 : Nat) (bC6 : Nat) (H : Hp) (K : Value → Hp → Prop) : Prop :=
 (bif (((aL2 : Int) : Int) != (bL5 : Int)) then
 K (.bool false) H
else
 ∃ (I7 : Int → Hp → Prop) (m8 : Int → Hp → Nat), I7 0 H ∧ ∀ i10 : Int, ∀ Hx9 : Hp, I7 i10 Hx9 →
 (bif (decide ((i10 : Int) < (aL2 : Int))) then
 idxA aP1 aL2 i10 2 fun el11 =>
 ldI .u64 el11 Hx9 fun In12 =>
 idxA bP4 bL5 i10 2 fun el13 =>
 ldI .u64 el13 Hx9 fun In14 =>
 (bif ((In12 : Int) != In14) then
 K (.bool false) Hx9
else
 idxA aP1 aL2 i10 2 fun el15 =>
 ldSl (el15.add 1) Hx9 fun OutsP16 OutsL17 OutsC18 =>
 idxA bP4 bL5 i10 2 fun el19 =>
 ldSl (el19.add 1) Hx9 fun OutsP20 OutsL21 OutsC22 =>
 hcall PR f_ref2_IDs ⟨[(.slice OutsP16 OutsL17 OutsC18), (.slice OutsP20 OutsL21 OutsC22)]⟩ Hx9 fun v23 Hx24 =>
 asB v23 fun t25 =>
 (bif (!t25) then
 K (.bool false) Hx24
else
 I7 (IntKind.i64.wrap (i10 + 1)) Hx24 ∧ m8 (IntKind.i64.wrap (i10 + 1)) Hx24 < m8 i10 Hx9))
else
 K (.bool true) Hx9))
theorem E_hand_Rows (aP1 : Option Addr) (aL2 : Nat) (aC3 : Nat) (bP4 : Option Addr) (bL5 : Nat) (bC6 : Nat) (H : Hp) (K : Value → Hp → Prop) : B_hand_Rows aP1 aL2 aC3 bP4 bL5 bC6 H K = denF Tryz.prog Tryz.f81 (.seq none .n (.seq none .n (.seq none (.seq none .n (.sub (.loop ⟨[(5, .int .i64)], [0, 1]⟩ .n))) .n))) [(.slice aP1 aL2 aC3), (.slice bP4 bL5 bC6)] H K := by kernel_rfl
theorem den_hand_Rows {aP1 : Option Addr} {aL2 : Nat} {aC3 : Nat} {bP4 : Option Addr} {bL5 : Nat} {bC6 : Nat} {H : Hp} {K : Value → Hp → Prop} (h : B_hand_Rows aP1 aL2 aC3 bP4 bL5 bC6 H K) : hcall PR f_hand_Rows ⟨[(.slice aP1 aL2 aC3), (.slice bP4 bL5 bC6)]⟩ H K := denF_call Tryz.func81 PR_mixed (Eq.mp (E_hand_Rows aP1 aL2 aC3 bP4 bL5 bC6 H K) h)

end Go.Proofs.YtflfodcemnapeaaGreat

namespace Go.Proofs.YtflfodcemnapeaaGreat
set_option linter.unusedSimpArgs false
set_option linter.unusedVariables false
open Go
/-- Any number as one of 0 to m - 1. -/
def pick (n m : Int) : Int := n % m

theorem pick_lt {n m : Int} (h : 0 < m) : 0 ≤ pick n m ∧ pick n m < m := ⟨Int.emod_nonneg _ (by omega), Int.emod_lt_of_pos _ h⟩

theorem Pick_ok {n m : Int} {H : Hp} {K : Value → Hp → Prop} (h0 : 0 < m) (h1 : m < 4611686018427387904) (hK : K (.int .i64 (pick n m)) H) : hcall PR f_hand_Pick ⟨[.int .i64 n, .int .i64 m]⟩ H K := by
 apply den_hand_Pick
 unfold B_hand_Pick
 have hm : m ≠ 0 := by omega
 refine ⟨hm, ?_⟩
 have ht := @Int.tmod_eq_emod n m
 have e1 := Int.emod_nonneg n hm
 have e2 := Int.emod_lt_of_pos n h0
 unfold pick at hK
 by_cases hc : 0 ≤ n ∨ m ∣ n
 ·rw [if_pos hc, Int.natCast_zero, Int.sub_zero] at ht
  rw [ht]
  exact bif_neg (by omega) hK
 ·rw [if_neg hc] at ht
  have hab : ((m.natAbs : Nat) : Int) = m := by omega
  rw [hab] at ht
  rw [ht]
  refine bif_pos (by omega) ?_
  have e : n % m - m + m = n % m := by omega
  rw [e, wrap_i64 (by omega) (by omega)]
  exact hK

end Go.Proofs.YtflfodcemnapeaaGreat

namespace Go.Proofs.YtflfodcemnapeaaGreat
set_option linter.unusedSimpArgs false
set_option linter.unusedVariables false
open Go
section
variable {H0 H : Hp} {L M : List Prt} {i rb j b : Nat} {s : Hs} {x : RhX} {o : Ob} {K : Value → Hp → Prop}
theorem rthingOpen (h : St H0 (rheapParts rb s x ++ M) H) (hj : x.ps[j]? = some (o, b)) :
  ∃ y, St H0 (rthingParts b o y ++ (Prt.nil :: (rheapParts rb s x ++ M).set 3 (Prt.list ((x.ps.map fun p => RThing p.2 p.1).set j .nil)))) H := by
 have h1 := h.sub (i := 3) (M := x.ps.map fun p => RThing p.2 p.1) (k := j) (A := RThing b o) rfl (by rw [List.getElem?_map, hj]; rfl)
 exact h1.openEx (M := rthingParts b o) (i := 0) rfl
theorem rthingShut {f : Ob → Ob} {y : TgX} (h : St H0 (rthingParts b (f o) y ++ (Prt.nil :: (rheapParts rb s x ++ M).set 3 (Prt.list ((x.ps.map fun p => RThing p.2 p.1).set j .nil)))) H)
  (hp : x.ps.map (·.1) = s.obs) (ho : s.ok) (hj : x.ps[j]? = some (o, b)) (ho' : (hPut s o.ser f).ok) : St H0 (rheapParts rb (hPut s o.ser f) { x with ps := x.ps.set j (f o, b) } ++ M) H := by
 have h1 := (h.gatherEx (M := rthingParts b (f o)) y).flip.less
 have hlt := ltOfGet hj
 have h2 := h1.unsub (i := 3) (M := (x.ps.map fun p => RThing p.2 p.1).set j .nil) (k := j) rfl (by simp [hlt])
 have hjo : s.obs[j]? = some o := by rw [← hp, List.getElem?_map, hj]; rfl
 have hobs : (x.ps.set j (f o, b)).map (·.1) = (hPut s o.ser f).obs := by
  rw [List.map_set, hp]
  exact (map_if_set ho.rise hjo).symm
 have h3 := h2.refact (i := 4) (q := (x.ps.set j (f o, b)).map (·.1) = (hPut s o.ser f).obs ∧ (hPut s o.ser f).ok) rfl ⟨hobs, ho'⟩
 have e1 : (x.ps.set j (f o, b)).map (fun p => ptrV p.2) = x.ps.map fun p => ptrV p.2 := by
  rw [List.map_set]
  exact List.set_self (by rw [List.getElem?_map, hj]; rfl)
 have e2 : (x.ps.set j (f o, b)).map (fun p => RThing p.2 p.1) = ((x.ps.map fun p => RThing p.2 p.1).set j .nil).set j (Prt.ex fun y => Prt.list (rthingParts b (f o) y)) := by rw [List.set_set, List.map_set]; rfl
 unfold rheapParts
 simp only [List.length_set, e1, e2]
 exact h3

theorem rSetRefC {k f : Int} {y : Id} (h : St H0 L H) (hi : L[i]? = some (RHeap rb s)) (hK : ∀ H', St H0 (L.set i (RHeap rb (hSetRef s k f y).2.2)) H' → K (.tuple #[.agg #[.int .i64 (hSetRef s k f y).1.n, .int .u64 (hSetRef s k f y).1.s], .int .i64 (hSetRef s k f y).2.1]) H') :
  hcall PR f_ref8_Heap_SetRef ⟨[.pointer (some ⟨rb, 0, none⟩), .int .u64 k, .int .i64 f, .agg #[.int .i64 y.n, .int .u64 y.s]]⟩ H K := by
 apply den_ref8_Heap_SetRef
 unfold B_ref8_Heap_SetRef
 intro b6 hb6
 have h1 := h.alloc (o := .cells #[.int .i64 y.n, .int .u64 y.s] ty_api_ID) hb6
 intro b8 hb8
 have h2 := h1.alloc (o := .cells #[.int .i64 0, .int .u64 0] ty_api_ID) hb8
 refine ldI_of (h2.cell (i := 1) (o := 0) rfl rfl) (ldI_of (h2.cell (i := 1) (o := 1) rfl rfl) (rID_ok h2 fun H3 h3 => ?_))
 simp only [Za,Zb,Zc,Zd,Zf,Zh,Zi,Zk,Zl,Zm,Zn,Zo,Zp,Zr,Zs,Zx,Zt,Zu,Zy,Zz,Zv,Zw,ZA,ZB,ZC,ZD]
 cases hx : okId y
 ·simp only [Za,Zb,Zc,Zd,Zf,Zh,Zi,Zk,Zl,Zm,Zn,Zo,Zp,Zr,Zs,Zx,Zt,Zu,Zy,Zz,Zv,Zw,ZA,ZB,ZC,ZD]
  refine fin2 h3 (i := 0) rfl rfl fun H' h' => ?_
  have hK := hK H'
  simp only [hSetRef, hx, if_true] at hK
  rw [List.set_self hi] at hK
  exact hK h'.less.less
 ·simp only [Za,Zb,Zc,Zd,Zf,Zh,Zi,Zk,Zl,Zm,Zn,Zo,Zp,Zr,Zs,Zx,Zt,Zu,Zy,Zz,Zv,Zw,ZA,ZB,ZC,ZD]
  refine rRefC h3 (i := i + 2) hi fun H4 h4 => ?_
  simp only [Za,Zb,Zc,Zd,Zf,Zh,Zi,Zk,Zl,Zm,Zn,Zo,Zp,Zr,Zs,Zx,Zt,Zu,Zy,Zz,Zv,Zw,ZA,ZB,ZC,ZD]
  refine box2 h4 fun b28 H7 h7 => ?_
  intro R32 hR32
  have fin : ∀ (s' : Hs) H', s' = (hSetRef s k f y).2.2 → (hSetRef s k f y).1 = (hRef s k f).1 → (hSetRef s k f y).2.1 = (hRef s k f).2 → St H0 (Prt.one b28 (.cells #[.int .i64 (hRef s k f).1.n, .int .u64 (hRef s k f).1.s] ty_api_ID (0, 0)) :: Prt.one b8 (.cells #[.int .i64 0, .int .u64 0] ty_api_ID (0, 0)) :: Prt.one b6 (.cells #[.int .i64 y.n, .int .u64 y.s] ty_api_ID (0, 0)) :: L.set i (RHeap rb s')) H' → R32 H' := fun s' H' e1 e2 e3 h' => by
   refine hR32 H' (ldI_of (h'.cell (i := 0) (o := 0) rfl rfl) (ldI_of (h'.cell (i := 0) (o := 1) rfl rfl) (fin2 h' (i := 1) rfl rfl fun H9 h9 => ?_)))
   have hK := hK H9
   rw [e2, e3] at hK
   subst e1
   exact hK h9.less.less.less
  by_cases he : (hRef s k f).2 = 0
  ·refine bif_eq he ?_
   have c6 := h7.cell (i := 2) (o := 0) rfl rfl
   have c6' := h7.cell (i := 2) (o := 1) rfl rfl
   obtain ⟨x, M, g1, hp, ho, back⟩ := rheapTake (i := i + 3) h7 hi
   refine ldI_of c6 (ldI_of c6' (rGetC g1 hp ho (fun hg => ?_) fun j o bo hj hk hg hjo => ?_))
   ·simp [hRef, hg] at he
   ·subst hk
    obtain ⟨z, t1⟩ := rthingOpen g1 hj
    simp only [Za,Zb,Zc,Zd,Zf,Zh,Zi,Zk,Zl,Zm,Zn,Zo,Zp,Zr,Zs,Zx,Zt,Zu,Zy,Zz,Zv,Zw,ZA,ZB,ZC,ZD]
    have hf : 0 ≤ f ∧ f < (o.refs.length : Int) := by
     refine Classical.byContradiction fun hn => ?_
     simp [hRef, hg, hn] at he
    refine ⟨ldI_of c6 (ldI_of c6' rfl), ldSl_of (t1.cell (i := 0) (o := 2) rfl rfl) (idxS Id.len noId (t1.row_rd (i := 1) rfl) (by omega) hf.1 hf.2 fun b' o' hpp hlt hcc => ?_)⟩
    refine t1.poke (i := 1) rfl hpp (by have := Nat.mul_le_mul_right 2 (show f.toNat + 1 ≤ o.refs.length by omega); omega) fun H8 t2 => ?_
    simp only [Za,Zb,Zc,Zd,Zf,Zh,Zi,Zk,Zl,Zm,Zn,Zo,Zp,Zr,Zs,Zx,Zt,Zu,Zy,Zz,Zv,Zw,ZA,ZB,ZC,ZD]
    rw [Nat.add_assoc]
    refine t2.poke (i := 1) rfl hpp (by have := Nat.mul_le_mul_right 2 (show f.toNat + 1 ≤ o.refs.length by omega); omega) fun H9 t3 => ?_
    have e1 : ((cel Id.cells o.refs).set (f.toNat * 2) (.int .i64 y.n)).set (f.toNat * 2 + 1) (.int .u64 y.s) = cel Id.cells (o.refs.set f.toNat y) := cel_set2 Id.len noId hlt rfl
    have t4 : St H0 (rthingParts bo { o with refs := o.refs.set f.toNat y } z ++ (Prt.nil :: (rheapParts rb s x ++ M).set 3 (Prt.list ((x.ps.map fun p => RThing p.2 p.1).set j .nil)))) H9 := by
     unfold rthingParts
     simp only [List.length_set]
     rw [← e1]
     exact t3
    have hs : hSetRef s o.ser f y = ((hRef s o.ser f).1, 0, hPut s o.ser fun o => { o with refs := o.refs.set f.toNat y }) := by simp [hSetRef, hx, he]
    have t5 := rthingShut (f := fun o => { o with refs := o.refs.set f.toNat y }) t4 hp ho hj (by have := ho.setRef o.ser f y; rw [hs] at this; exact this)
    refine fin _ H9 (by rw [hs]) (by rw [hs]) (by rw [hs, he]) ?_
    exact back _ _ _ t5
  ·refine bif_ne he (fin s H7 ?_ ?_ ?_ ?_)
   ·simp [hSetRef, hx, he]
   ·simp [hSetRef, hx, he]
   ·simp [hSetRef, hx, he]
   ·rw [List.set_self hi]; exact h7


theorem rSetInC {k d : Int} (h : St H0 L H) (hi : L[i]? = some (RHeap rb s)) (hK : ∀ H', St H0 (L.set i (RHeap rb (hSetIn s k d).2)) H' → K (.int .i64 (hSetIn s k d).1) H') :
  hcall PR f_ref8_Heap_SetIn ⟨[.pointer (some ⟨rb, 0, none⟩), .int .u64 k, .int .i64 d]⟩ H K := by
 apply den_ref8_Heap_SetIn
 unfold B_ref8_Heap_SetIn
 by_cases h0 : d < 0
 ·refine bif_pos h0 ?_
  have hK := hK H
  rw [show hSetIn s k d = (1, s) by simp [hSetIn, h0], List.set_self hi] at hK
  exact hK h
 by_cases h1 : d > 40
 ·refine bif_neg h0 (bif_pos h1 ?_)
  have hK := hK H
  rw [show hSetIn s k d = (1, s) by unfold hSetIn; rw [if_pos (by omega)], List.set_self hi] at hK
  exact hK h
 refine bif_neg h0 (bif_neg h1 ?_)
 have hd : ¬ (d < 0 ∨ 40 < d) := by omega
 obtain ⟨x, M, g1, hp, ho, back⟩ := rheapTake h hi
 refine rGetC g1 hp ho (fun hg => ?_) fun j o bo hj hk hg hjo => ?_
 ·simp only [Za,Zb,Zc,Zd,Zf,Zh,Zi,Zk,Zl,Zm,Zn,Zo,Zp,Zr,Zs,Zx,Zt,Zu,Zy,Zz,Zv,Zw,ZA,ZB,ZC,ZD]
  have hK := hK H
  rw [show hSetIn s k d = (5, s) by simp only [hSetIn, if_neg hd, hg], List.set_self hi] at hK
  exact hK h
 ·subst hk
  obtain ⟨z, t1⟩ := rthingOpen g1 hj
  simp only [Za,Zb,Zc,Zd,Zf,Zh,Zi,Zk,Zl,Zm,Zn,Zo,Zp,Zr,Zs,Zx,Zt,Zu,Zy,Zz,Zv,Zw,ZA,ZB,ZC,ZD]
  refine t1.put (i := 0) rfl (by simp) fun H9 t3 => ?_
  have hs : hSetIn s o.ser d = (0, hPut s o.ser fun o => { o with din := d }) := by simp only [hSetIn, if_neg hd, hg]
  have t5 := rthingShut (f := fun o => { o with din := d }) (y := z) t3 hp ho hj (by have := ho.setIn o.ser d; rw [hs] at this; exact this)
  have hK := hK H9
  rw [hs] at hK
  exact hK (back _ _ _ t5)

theorem take_drop_erase {α : Type} {l : List α} {j : Nat} : l.take j ++ l.drop (j + 1) = l.eraseIdx j := (List.eraseIdx_eq_take_drop_succ l j).symm

theorem rFreeC {k : Int} (h : St H0 L H) (hi : L[i]? = some (RHeap rb s)) (hK : ∀ H', St H0 (L.set i (RHeap rb (hFree s k).2)) H' → K (.int .i64 (hFree s k).1) H') :
  hcall PR f_ref8_Heap_Free ⟨[.pointer (some ⟨rb, 0, none⟩), .int .u64 k]⟩ H K := by
 apply den_ref8_Heap_Free
 unfold B_ref8_Heap_Free
 obtain ⟨x, M, g, hp, ho, back⟩ := rheapTake h hi
 have v := rheapV g
 have hlen : x.ps.length = s.obs.length := by rw [← hp, List.length_map]
 have hsl : (s.obs.length : Int) ≤ 64 := by have := ho.len; have := ho.most; omega
 refine ⟨fun i H' => H' = H ∧ ∃ j : Nat, i = j ∧ j ≤ x.ps.length ∧ ∀ y o, y < j → s.obs[y]? = some o → o.ser ≠ k, fun i _ => (x.ps.length - i).toNat, ⟨rfl, 0, rfl, by omega, fun y o hy => absurd hy (Nat.not_lt_zero y)⟩, ?_⟩
 rintro i H' ⟨hH, j, rfl, hj, hno⟩
 subst hH
 simp only [Za,Zb,Zc,Zd,Zf,Zh,Zi,Zk,Zl,Zm,Zn,Zo,Zp,Zr,Zs,Zx,Zt,Zu,Zy,Zz,Zv,Zw,ZA,ZB,ZC,ZD]
 refine ldSl_of v.sl ?_
 by_cases hlt : (j : Int) < x.ps.length
 ·refine bif_pos hlt (ldSl_of v.sl (rAtJ v (by omega) fun o b hg bb oo hc => ldP_of hc ?_))
  obtain ⟨p, c, q, d, tv⟩ := rthingV g hg
  have hjo : s.obs[j]? = some o := by rw [← hp, List.getElem?_map, hg]; rfl
  simp only [Za,Zb,Zc,Zd,Zf,Zh,Zi,Zk,Zl,Zm,Zn,Zo,Zp,Zr,Zs,Zx,Zt,Zu,Zy,Zz,Zv,Zw,ZA,ZB,ZC,ZD]
  refine ldI_of tv.ser ?_
  by_cases hk : o.ser = k
  ·subst hk
   refine bif_eq rfl (ldP_of v.ar (ldSl_of v.sl (rAtJ v (by omega) fun o' b' hg' bb oo hc => ldP_of hc ?_)))
   rw [hg] at hg'
   cases hg'
   simp only [Za,Zb,Zc,Zd,Zf,Zh,Zi,Zk,Zl,Zm,Zn,Zo,Zp,Zr,Zs,Zx,Zt,Zu,Zy,Zz,Zv,Zw,ZA,ZB,ZC,ZD]
   have hob := ho.obs o (List.mem_of_getElem? hjo)
   have hs : hFree s o.ser = (0, { s with ar := (arFree s.ar o.cell).2, obs := s.obs.filter fun x => !decide (x.ser = o.ser) }) := by simp only [hFree, hGet_at ho hjo]
   refine ldI_of tv.cell (sRFree g (i := 1) rfl ho.ar (by have := hob.cell; omega) fun H2 h2 => ?_)
   simp only [Za,Zb,Zc,Zd,Zf,Zh,Zi,Zk,Zl,Zm,Zn,Zo,Zp,Zr,Zs,Zx,Zt,Zu,Zy,Zz,Zv,Zw,ZA,ZB,ZC,ZD]
   have v2 : RHeapV H2 rb { s with ar := (arFree s.ar o.cell).2 } x :=
    ⟨h2.cell (i := 0) rfl rfl, h2.cell (i := 0) rfl rfl, h2.cell (i := 0) rfl rfl, h2.cell (i := 0) rfl rfl, h2.cell (i := 0) rfl rfl, h2.row_rd (i := 2) rfl⟩
   refine ldSl_of v2.sl (slc_to (by omega) (by have := (h2.row_own (i := 2) rfl).2.1; omega) (ldSl_of v2.sl ?_))
   rw [wrap_i64 (by omega) (by omega)]
   refine slc_from (by omega) (by omega) ?_
   intro b46 hb46
   have h3 := h2.alloc (o := .cells #[] ty_papi_Object) hb46
   have c3 := h3.cell (i := 1) (o := 4) rfl rfl
   refine ⟨ldSl_of c3 rfl, ldSl_of c3 rfl, ?_⟩
   have hcap := (h2.row_own (i := 2) rfl).2.1
   have r3 := h3.row_rd (i := 3) rfl
   have hpt : ∀ l : List (Ob × Nat), ∀ y ∈ l.map (fun p => ptrV p.2), one y = true := fun l y hy => by obtain ⟨_, _, rfl⟩ := List.mem_map.1 hy; rfl
   have rt := r3.take (m := j) (by omega)
   have rd := r3.drop (l := j + 1) (cap := x.cap) (by omega) hcap
   rw [Nat.mul_one] at rt rd
   rw [← List.map_take] at rt
   rw [← List.map_drop] at rd
   rw [Int.toNat_natCast, show ((j : Int) + 1).toNat = j + 1 by omega]
   refine h3.copy (i := 0) rfl tu_ty_Spapi_Object tu_ty_Spapi_Object ti_ty_papi_Object rfl (by decide) rt (hpt _) (by omega) fun p1 cap1 H4 h4 => ?_
   simp only [Za,Zb,Zc,Zd,Zf,Zh,Zi,Zk,Zl,Zm,Zn,Zo,Zp,Zr,Zs,Zx,Zt,Zu,Zy,Zz,Zv,Zw,ZA,ZB,ZC,ZD]
   have c4 := h4.cell (i := 1) (o := 4) rfl rfl
   have r4 := h4.row_rd (i := 3) rfl
   have rd := r4.drop (l := j + 1) (cap := x.cap) (by omega) hcap
   rw [Nat.mul_one, ← List.map_drop] at rd
   refine ⟨ldSl_of c4 rfl, h4.app (i := 0) rfl tu_ty_Spapi_Object tu_ty_Spapi_Object ti_ty_papi_Object rfl (by decide) rd (hpt _) (by omega) fun p2 cap2 H5 h5 => ?_⟩
   simp only [Za,Zb,Zc,Zd,Zf,Zh,Zi,Zk,Zl,Zm,Zn,Zo,Zp,Zr,Zs,Zx,Zt,Zu,Zy,Zz,Zv,Zw,ZA,ZB,ZC,ZD]
   refine h5.put (i := 1) rfl (by simp) fun H6 h6 => ?_
   have hK := hK H6
   rw [hs] at hK
   refine hK ?_
   have h7 := h6.erase (i := 4) (M := x.ps.map fun p => RThing p.2 p.1) (k := j) (A := RThing b o) rfl (by rw [List.getElem?_map, hg]; rfl)
   have hps : (x.ps.eraseIdx j).map (·.1) = s.obs.filter fun x => !decide (x.ser = o.ser) := by
    rw [filter_erase ho.rise hjo, map_eraseIdx', hp]
   have h8 := h7.refact (i := 5) (q := (x.ps.eraseIdx j).map (·.1) = (hFree s o.ser).2.obs ∧ (hFree s o.ser).2.ok) rfl ⟨by rw [hs]; exact hps, ho.free _⟩
   rw [hs] at h8
   have hl2 : j + (x.ps.length - (j + 1)) = (x.ps.eraseIdx j).length := by rw [List.length_eraseIdx_of_lt (by omega)]; omega
   rw [hl2] at h8
   have e1 : (x.ps.take j).map (fun p => ptrV p.2) ++ (x.ps.drop (j + 1)).map (fun p => ptrV p.2) = (x.ps.eraseIdx j).map fun p => ptrV p.2 := by rw [← List.map_append, take_drop_erase]
   rw [e1] at h8
   have h9 := h8.pick 4 [1, 2, 0, 3] rfl rfl
   refine back _ ⟨x.a, p2, cap2, x.ps.eraseIdx j, x.T⟩ H6 ?_
   unfold rheapParts
   rw [map_eraseIdx' (f := fun p : Ob × Nat => RThing p.2 p.1)]
   exact (St.pick (L := _ :: _ :: _ :: _ :: _ :: _ :: M) h9 6 [3, 0, 1, 2, 4, 5] rfl rfl).less
  ·refine bif_ne hk ?_
   rw [wrap_i64 (by omega) (by omega)]
   refine ⟨⟨by trivial, j + 1, by omega, by omega, fun y o' hy hyo => ?_⟩, by (try dsimp only); omega⟩
   by_cases e : y = j
   ·subst e
    rw [hjo] at hyo
    cases hyo
    exact hk
   ·exact hno y o' (by omega) hyo
 ·refine bif_neg hlt ?_
  have hg : hGet s k = none := hGet_none.2 fun o hm => by
   obtain ⟨y, hy, rfl⟩ := List.mem_iff_getElem.1 hm
   exact hno y _ (by omega) (List.getElem?_eq_getElem hy)
  have hK := hK H'
  rw [show hFree s k = (5, s) by simp only [hFree, hg], List.set_self hi] at hK
  exact hK h

theorem rNewOk {node objects last : Int} {m : Nat} (h1 : 1 ≤ node ∧ node ≤ 64) (h2 : 1 ≤ objects ∧ objects ≤ 64) (h3 : 0 ≤ last ∧ last ≤ 72057594037927935) (hm1 : 1 ≤ m) (hm2 : m ≤ 256) (h : St H0 L H)
  (hK : ∀ rb H', St H0 (RHeap rb (newHs node objects last m) :: L) H' → K (.pointer (some ⟨rb, 0, none⟩)) H') :
  hcall PR f_ref8_New ⟨[.int .i64 node, .int .i64 (16 * (m : Int)), .int .i64 objects, .int .u64 last]⟩ H K := by
 apply den_ref8_New
 unfold B_ref8_New
 have hmod : Int.tmod (16 * (m : Int)) 16 = 0 := by rw [Int.tmod_eq_emod_of_nonneg (by omega)]; omega
 refine bif_neg (by omega) (bif_neg (by omega) (bif_neg (by omega) (bif_neg (by omega) (bif_neg (by omega) (bif_neg (by omega) (bif_neg (by omega) ⟨by decide, bif_neqf hmod (sRArNew h hm1 hm2 fun a H1 g1 => ?_)⟩))))))
 simp only [Za,Zb,Zc,Zd,Zf,Zh,Zi,Zk,Zl,Zm,Zn,Zo,Zp,Zr,Zs,Zx,Zt,Zu,Zy,Zz,Zv,Zw,ZA,ZB,ZC,ZD]
 intro b2 hb2
 have g2 := g1.alloc (o := .cells #[.int .i64 node, .int .i64 objects, .int .u64 last, .pointer (some ⟨a, 0, none⟩), .slice none 0 0] ty_ref8_Heap) hb2
 refine hK b2 _ ?_
 have g3 := g2.row (Own.nil 1) ((Goes.refl _ _).less fun c h => (blk_none h).elim)
 have g4 := g3.say (p := (([] : List (Ob × Nat)).map (·.1) = (newHs node objects last m).obs ∧ (newHs node objects last m).ok)) ⟨rfl, newHs_ok h1 h2 h3 hm2⟩
 have g5 : St H0 (Prt.list [] :: _) _ := g4.saynil
 have g6 : St H0 (rheapParts b2 (newHs node objects last m) ⟨a, none, 0, [], ty_ref8_Heap⟩ ++ L) _ := g5.pick 5 [3, 4, 2, 0, 1] rfl rfl
 exact g6.gatherEx (M := rheapParts b2 (newHs node objects last m)) ⟨a, none, 0, [], ty_ref8_Heap⟩

theorem rMakeC {r v : Int} (h : St H0 L H) (hi : L[i]? = some (RHeap rb s)) (hr : IntKind.min .i64 ≤ r ∧ r ≤ IntKind.max .i64) (hv : IntKind.min .i64 ≤ v ∧ v ≤ IntKind.max .i64)
  (hK : ∀ H', St H0 (L.set i (RHeap rb (hMake s r v).2.2)) H' → K (.tuple #[.int .u64 (hMake s r v).1, .int .i64 (hMake s r v).2.1]) H') :
  hcall PR f_ref8_Heap_Make ⟨[.pointer (some ⟨rb, 0, none⟩), .int .i64 r, .int .i64 v]⟩ H K := by
 apply den_ref8_Heap_Make
 unfold B_ref8_Heap_Make
 obtain ⟨x, M, g1, hp, ho, back⟩ := rheapTake h hi
 have vv := rheapV g1
 have hself : ∀ a b, hMake s r v = (a, b, s) → K (.tuple #[.int .u64 a, .int .i64 b]) H := fun a b e => by
  have hK := hK H
  rw [e, List.set_self hi] at hK
  exact hK h
 have hbad : (r < 0 ∨ 7 < r ∨ v < 0 ∨ 7 < v) → hMake s r v = (0, 1, s) := fun e => by unfold hMake; rw [if_pos e]
 by_cases h1 : r < 0
 ·exact bif_pos h1 (hself 0 1 (hbad (by omega)))
 by_cases h2 : r > 7
 ·exact bif_neg h1 (bif_pos h2 (hself 0 1 (hbad (by omega))))
 by_cases h3 : v < 0
 ·exact bif_neg h1 (bif_neg h2 (bif_pos h3 (hself 0 1 (hbad (by omega)))))
 by_cases h4 : v > 7
 ·exact bif_neg h1 (bif_neg h2 (bif_neg h3 (bif_pos h4 (hself 0 1 (hbad (by omega))))))
 refine bif_neg h1 (bif_neg h2 (bif_neg h3 (bif_neg h4 ?_)))
 simp only [Za,Zb,Zc,Zd,Zf,Zh,Zi,Zk,Zl,Zm,Zn,Zo,Zp,Zr,Zs,Zx,Zt,Zu,Zy,Zz,Zv,Zw,ZA,ZB,ZC,ZD]
 have n1 : ¬ (r < 0 ∨ 7 < r ∨ v < 0 ∨ 7 < v) := by omega
 have hlen : x.ps.length = s.obs.length := by rw [← hp, List.length_map]
 refine ldSl_of vv.sl (ldI_of vv.most ?_)
 rw [hlen]
 by_cases h5 : (s.obs.length : Int) ≥ s.most
 ·exact bif_pos h5 (hself 0 6 (by unfold hMake; rw [if_neg n1, if_pos h5]))
 refine bif_neg h5 (ldI_of vv.last ?_)
 have hlast := ho.last
 by_cases h6 : s.last ≥ 72057594037927935
 ·exact bif_pos h6 (hself 0 7 (by unfold hMake; rw [if_neg n1, if_neg h5, if_pos (by omega)]))
 have h6' : ¬ s.last = 72057594037927935 := by omega
 refine bif_neg h6 (ldP_of vv.ar ?_)
 have w1 : IntKind.i64.wrap (1 + r) = 1 + r := wrap_i64 (by omega) (by omega)
 have w2 : IntKind.i64.wrap (1 + r + v) = 1 + r + v := wrap_i64 (by omega) (by omega)
 rw [w1, w2]
 refine sRAlloc g1 (i := 1) rfl ho.ar fun H2 g2 => ?_
 simp only [Za,Zb,Zc,Zd,Zf,Zh,Zi,Zk,Zl,Zm,Zn,Zo,Zp,Zr,Zs,Zx,Zt,Zu,Zy,Zz,Zv,Zw,ZA,ZB,ZC,ZD]
 by_cases h7 : (arAlloc s.ar (1 + r + v)).2.1 = 0
 rotate_left
 ·refine bif_neq h7 ?_
  have e : hMake s r v = (0, (arAlloc s.ar (1 + r + v)).2.1, s) := by unfold hMake; rw [if_neg n1, if_neg h5, if_neg h6', if_pos h7]
  have hK := hK H2
  rw [e] at hK
  rw [arAlloc_fail h7] at g2
  exact hK (back s x H2 g2)
 refine bif_neqf h7 ?_
 have w3 : IntKind.u64.wrap (s.last + 1) = s.last + 1 := wrap_u64' (by omega) (by omega)
 refine ldI_of (g2.cell (i := 0) (o := 2) rfl rfl) ?_
 rw [w3]
 refine g2.put (i := 0) rfl (by simp) fun H3 g3 => ?_
 have e : hMake s r v = (s.last + 1, 0, { s with last := s.last + 1, ar := (arAlloc s.ar (1 + r + v)).2.2, obs := s.obs ++ [⟨s.last + 1, (arAlloc s.ar (1 + r + v)).1, List.replicate r.toNat noId, List.replicate v.toNat 0, 0⟩] }) := by unfold hMake; rw [if_neg n1, if_neg h5, if_neg h6', if_neg (by simpa using h7)]
 have hok := ho.make r v
 rw [e] at hok hK
 obtain ⟨o, ho'⟩ : ∃ o : Ob, o = ⟨s.last + 1, (arAlloc s.ar (1 + r + v)).1, List.replicate r.toNat noId, List.replicate v.toNat 0, 0⟩ := ⟨_, rfl⟩
 rw [← ho'] at hok hK
 generalize hs' : ({ s with last := s.last + 1, ar := (arAlloc s.ar (1 + r + v)).2.2, obs := s.obs ++ [o] } : Hs) = s' at hK hok
 simp only at hK hok
 intro R24 hR24
 have hR24 : ∀ x' H', St H0 (rheapParts rb s' x' ++ M) H' → R24 H' := fun x' H' h' => by
  refine hR24 H' (ldI_of (h'.cell (i := 0) (o := 2) rfl rfl) ?_)
  rw [show s'.last = s.last + 1 by rw [← hs']]
  exact hK H' (back s' x' H' h')
 have fin : ∀ (b : Nat) (y : TgX) (p' : Option Addr) (cap' : Nat) H', St H0 (rthingParts b o y ++ (Prt.one rb (.cells #[.int .i64 s.node, .int .i64 s.most, .int .u64 (s.last + 1), ptrV x.a, .slice p' (x.ps.length + 1) cap'] x.T (0, 0)) :: RArn x.a (arAlloc s.ar (1 + r + v)).2.2 ::
   Prt.row 1 p' (x.ps.length + 1) cap' ((x.ps.map fun p => ptrV p.2) ++ [ptrV b]) :: Prt.list (x.ps.map fun p => RThing p.2 p.1) :: Prt.pure (x.ps.map (·.1) = s.obs ∧ s.ok) :: M)) H' → R24 H' := fun b y p' cap' H' t1 => by
  have t2 := (t1.gatherEx (M := rthingParts b o) _).push (i := 3) (M := x.ps.map fun p => RThing p.2 p.1) rfl
  have t3 := t2.refact (i := 4) (q := (x.ps ++ [(o, b)]).map (·.1) = s'.obs ∧ s'.ok) rfl ⟨by rw [List.map_append, hp, ← hs']; rfl, hok⟩
  refine hR24 ⟨x.a, p', cap', x.ps ++ [(o, b)], x.T⟩ H' ?_
  unfold rheapParts
  simp only [List.map_append, List.length_append]
  rw [← hs']
  rw [List.map_append, ← hs'] at t3
  exact t3
 have c2 := g3.cell (i := 0) (o := 2) rfl rfl
 have c4 := g3.cell (i := 0) (o := 4) rfl rfl
 have e47 : (2 : Int) ^ 47 = 140737488355328 := by decide
 have e62 : (2 : Int) ^ 62 = 4611686018427387904 := by decide
 have h48 : (2 : Nat) ^ 48 = 281474976710656 := by decide
 have hmost := ho.most
 refine ldSl_of c4 (ldI_of c2 ⟨?_, ?_⟩)
 ·refine makeK Id.len noId tu_ty_Sapi_ID ti_ty_api_ID rfl (by decide) (by omega) (by omega) (by omega) fun pR H4 o4 k4 => ?_
  simp only [Za,Zb,Zc,Zd,Zf,Zh,Zi,Zk,Zl,Zm,Zn,Zo,Zp,Zr,Zs,Zx,Zt,Zu,Zy,Zz,Zv,Zw,ZA,ZB,ZC,ZD]
  have g4 := g3.row o4 k4
  refine ⟨ldI_of (g4.cell (i := 1) (o := 2) rfl rfl) rfl, ldSl_of (g4.cell (i := 1) (o := 4) rfl rfl) rfl, ?_⟩
  refine mko_ty_Suint64 (by omega) (by omega) (by omega) fun pV H5 o5 k5 => ?_
  simp only [Za,Zb,Zc,Zd,Zf,Zh,Zi,Zk,Zl,Zm,Zn,Zo,Zp,Zr,Zs,Zx,Zt,Zu,Zy,Zz,Zv,Zw,ZA,ZB,ZC,ZD]
  have g5 := g4.row o5 k5
  refine ⟨ldI_of (g5.cell (i := 2) (o := 2) rfl rfl) rfl, ldSl_of (g5.cell (i := 2) (o := 4) rfl rfl) rfl, ?_⟩
  intro b hb'
  have g6 := g5.alloc (o := .cells #[.int .u64 (s.last + 1), .int .i64 (arAlloc s.ar (1 + r + v)).1, .slice pR r.toNat r.toNat, .slice pV v.toNat v.toNat, .int .i64 0] ty_api_Object) hb'
  refine ⟨ldSl_of (g6.cell (i := 3) (o := 4) rfl rfl) rfl, ?_⟩
  intro b57 hb57
  have g7 := g6.alloc (o := .cells #[.pointer (some ⟨b, 0, none⟩)] ty_papi_Object) hb57
  refine ⟨ldSl_of (g7.cell (i := 4) (o := 4) rfl rfl) rfl, ?_⟩
  refine g7.app (i := 6) (ys := [ptrV b]) rfl tu_ty_Spapi_Object tu_ty_Spapi_Object ti_ty_papi_Object rfl (by decide) (rd_new (n := 1) (k := 1) (c := #[.pointer (some ⟨b, 0, none⟩)]) rfl) (fun y hy => by simp at hy; subst hy; rfl) (by omega) fun p' cap' H8 g8 => ?_
  simp only [Za,Zb,Zc,Zd,Zf,Zh,Zi,Zk,Zl,Zm,Zn,Zo,Zp,Zr,Zs,Zx,Zt,Zu,Zy,Zz,Zv,Zw,ZA,ZB,ZC,ZD]
  refine g8.put (i := 4) rfl (by simp) fun H9 g9 => ?_
  have g10 := (g9.less).pick 3 [0, 2, 1] rfl rfl
  refine fin b (pR, r.toNat, pV, v.toNat, ty_api_Object) p' cap' H9 ?_
  subst ho'
  unfold rthingParts
  simp only [List.length_replicate, List.map_replicate]
  exact g10
 ·refine mko_ty_Suint64 (by omega) (by omega) (by omega) fun pV H4 o4 k4 => ?_
  simp only [Za,Zb,Zc,Zd,Zf,Zh,Zi,Zk,Zl,Zm,Zn,Zo,Zp,Zr,Zs,Zx,Zt,Zu,Zy,Zz,Zv,Zw,ZA,ZB,ZC,ZD]
  have g4 := g3.row o4 k4
  refine ⟨ldI_of (g4.cell (i := 1) (o := 2) rfl rfl) rfl, ldSl_of (g4.cell (i := 1) (o := 4) rfl rfl) rfl, ?_⟩
  refine makeK Id.len noId tu_ty_Sapi_ID ti_ty_api_ID rfl (by decide) (by omega) (by omega) (by omega) fun pR H5 o5 k5 => ?_
  simp only [Za,Zb,Zc,Zd,Zf,Zh,Zi,Zk,Zl,Zm,Zn,Zo,Zp,Zr,Zs,Zx,Zt,Zu,Zy,Zz,Zv,Zw,ZA,ZB,ZC,ZD]
  have g5 := g4.row o5 k5
  refine ⟨ldI_of (g5.cell (i := 2) (o := 2) rfl rfl) rfl, ldSl_of (g5.cell (i := 2) (o := 4) rfl rfl) rfl, ?_⟩
  intro b hb'
  have g6 := g5.alloc (o := .cells #[.int .u64 (s.last + 1), .int .i64 (arAlloc s.ar (1 + r + v)).1, .slice pR r.toNat r.toNat, .slice pV v.toNat v.toNat, .int .i64 0] ty_api_Object) hb'
  refine ⟨ldSl_of (g6.cell (i := 3) (o := 4) rfl rfl) rfl, ?_⟩
  intro b57 hb57
  have g7 := g6.alloc (o := .cells #[.pointer (some ⟨b, 0, none⟩)] ty_papi_Object) hb57
  refine ⟨ldSl_of (g7.cell (i := 4) (o := 4) rfl rfl) rfl, ?_⟩
  refine g7.app (i := 6) (ys := [ptrV b]) rfl tu_ty_Spapi_Object tu_ty_Spapi_Object ti_ty_papi_Object rfl (by decide) (rd_new (n := 1) (k := 1) (c := #[.pointer (some ⟨b, 0, none⟩)]) rfl) (fun y hy => by simp at hy; subst hy; rfl) (by omega) fun p' cap' H8 g8 => ?_
  simp only [Za,Zb,Zc,Zd,Zf,Zh,Zi,Zk,Zl,Zm,Zn,Zo,Zp,Zr,Zs,Zx,Zt,Zu,Zy,Zz,Zv,Zw,ZA,ZB,ZC,ZD]
  refine g8.put (i := 4) rfl (by simp) fun H9 g9 => ?_
  have g10 := g9.less
  refine fin b (pR, r.toNat, pV, v.toNat, ty_api_Object) p' cap' H9 ?_
  subst ho'
  unfold rthingParts
  simp only [List.length_replicate, List.map_replicate]
  exact g10
end
end Go.Proofs.YtflfodcemnapeaaGreat
