/- A heap, as what it holds; its calls as functions. No condition. -/
import Derived.Test.YtohlnmenghbgbaaArS
import Derived.Test.YtohlnmenghbgbaaBig
namespace Go.Proofs.Ytohlnmenghbgbaa
set_option linter.unusedSimpArgs false
set_option linter.unusedVariables false
open Go

/-- A reference. -/
structure Id where
  n : Int
  s : Int
instance : DecidableEq Id := fun a b => decidable_of_iff (a.n = b.n ∧ a.s = b.s) ⟨fun h => by cases a; cases b; simp_all, fun h => by rw [h]; exact ⟨rfl, rfl⟩⟩
theorem Id.ext {a b : Id} (h : a.n = b.n) (k : a.s = b.s) : a = b := by cases a; cases b; simp_all
abbrev noId : Id := ⟨0, 0⟩
def Id.cells (x : Id) : List Value := [.int .i64 x.n, .int .u64 x.s]
theorem Id.len (x : Id) : x.cells.length = 2 := rfl
def Id.val (x : Id) : Value := .agg #[.int .i64 x.n, .int .u64 x.s]
/-- The greatest serial. -/
abbrev topS0 : Int := 72057594037927935
def okId (x : Id) : Bool := decide (x = noId) || (decide (1 ≤ x.n) && decide (x.n ≤ 64) && decide (1 ≤ x.s) && decide (x.s ≤ 72057594037927935))

/-- An object. -/
structure Ob where
  ser : Int
  cell : Int
  refs : List Id
  vals : List Int
  din : Int

/-- A heap. -/
structure Hs where
  node : Int
  most : Int
  last : Int
  ar : List Blk
  obs : List Ob

structure Ob.ok (o : Ob) : Prop where
  cell : 0 ≤ o.cell ∧ o.cell < 5000
  refs : o.refs.length ≤ 7
  vals : o.vals.length ≤ 7
  ids : ∀ x ∈ o.refs, okId x = true
  din : 0 ≤ o.din ∧ o.din ≤ 40
structure Hs.ok (s : Hs) : Prop where
  node : 1 ≤ s.node ∧ s.node ≤ 64
  most : 1 ≤ s.most ∧ s.most ≤ 64
  last : 0 ≤ s.last ∧ s.last ≤ 72057594037927935
  ar : ArOk s.ar
  len : (s.obs.length : Int) ≤ s.most
  rise : s.obs.Pairwise (fun a b => a.ser < b.ser)
  ser : ∀ o ∈ s.obs, 1 ≤ o.ser ∧ o.ser ≤ s.last
  obs : ∀ o ∈ s.obs, o.ok

def hGet (s : Hs) (k : Int) : Option Ob := s.obs.find? fun o => decide (o.ser = k)
def hPut (s : Hs) (k : Int) (f : Ob → Ob) : Hs := { s with obs := s.obs.map fun o => if o.ser = k then f o else o }

noncomputable def hMake (s : Hs) (r v : Int) : Int × Int × Hs :=
  if r < 0 ∨ 7 < r ∨ v < 0 ∨ 7 < v then (0, 1, s)
  else if s.most ≤ s.obs.length then (0, 6, s)
  else if s.last = 72057594037927935 then (0, 7, s)
  else if (arAlloc s.ar (1 + r + v)).2.1 ≠ 0 then (0, (arAlloc s.ar (1 + r + v)).2.1, s)
  else (s.last + 1, 0, { s with last := s.last + 1, ar := (arAlloc s.ar (1 + r + v)).2.2, obs := s.obs ++ [⟨s.last + 1, (arAlloc s.ar (1 + r + v)).1, List.replicate r.toNat noId, List.replicate v.toNat 0, 0⟩] })
def hRef (s : Hs) (k f : Int) : Id × Int := match hGet s k with
  | some o => if 0 ≤ f ∧ f < o.refs.length then (o.refs.getD f.toNat noId, 0) else (noId, 5)
  | none => (noId, 5)
def hSetRef (s : Hs) (k f : Int) (x : Id) : Id × Int × Hs :=
  if okId x = false then (noId, 1, s) else if (hRef s k f).2 = 0 then ((hRef s k f).1, 0, hPut s k fun o => { o with refs := o.refs.set f.toNat x }) else ((hRef s k f).1, (hRef s k f).2, s)
def hVal (s : Hs) (k f : Int) : Int × Int := match hGet s k with
  | some o => if 0 ≤ f ∧ f < o.vals.length then (o.vals.getD f.toNat 0, 0) else (0, 5)
  | none => (0, 5)
def hSetVal (s : Hs) (k f v : Int) : Int × Hs :=
  if (hVal s k f).2 = 0 then (0, hPut s k fun o => { o with vals := o.vals.set f.toNat v }) else ((hVal s k f).2, s)
def hSetIn (s : Hs) (k d : Int) : Int × Hs :=
  if d < 0 ∨ 40 < d then (1, s) else match hGet s k with
    | some _ => (0, hPut s k fun o => { o with din := d })
    | none => (5, s)
noncomputable def hFree (s : Hs) (k : Int) : Int × Hs := match hGet s k with
  | some o => (0, { s with ar := (arFree s.ar o.cell).2, obs := s.obs.filter fun o => !decide (o.ser = k) })
  | none => (5, s)
def hNext (s : Hs) (k : Int) : Int × Bool := match s.obs.find? fun o => decide (k < o.ser) with
  | some o => (o.ser, true)
  | none => (0, false)

theorem arAlloc_fail {l : List Blk} {n : Int} (h : (arAlloc l n).2.1 ≠ 0) : (arAlloc l n).2.2 = l := by
  unfold arAlloc at h ⊢
  split
  · rfl
  · rename_i hc
    rw [if_neg hc] at h
    cases hf : arFind l (clsOf n) with
    | none => rfl
    | some p => rw [hf] at h; exact absurd rfl h

/-! ## What is found -/
theorem hGet_mem {s : Hs} {k : Int} {o : Ob} (h : hGet s k = some o) : o ∈ s.obs ∧ o.ser = k := ⟨List.mem_of_find?_eq_some h, by simpa using List.find?_some h⟩
theorem hGet_none {s : Hs} {k : Int} : hGet s k = none ↔ ∀ o ∈ s.obs, o.ser ≠ k := by simp [hGet]
theorem ser_inj {l : List Ob} (hr : l.Pairwise (fun a b => a.ser < b.ser)) {i j : Nat} {a b : Ob} (hi : l[i]? = some a) (hj : l[j]? = some b) (h : a.ser = b.ser) : i = j := by
  have hil := ltOfGet hi
  have hjl := ltOfGet hj
  rw [List.getElem?_eq_getElem hil] at hi
  rw [List.getElem?_eq_getElem hjl] at hj
  cases hi
  cases hj
  rw [List.pairwise_iff_getElem] at hr
  rcases Nat.lt_trichotomy i j with e | e | e
  · have := hr i j hil hjl e; omega
  · exact e
  · have := hr j i hjl hil e; omega
theorem hGet_at {s : Hs} (h : s.ok) {j : Nat} {o : Ob} (hj : s.obs[j]? = some o) : hGet s o.ser = some o := by
  have hm := List.mem_of_getElem? hj
  cases hg : hGet s o.ser with
  | none => exact absurd rfl (hGet_none.1 hg o hm)
  | some o' =>
    obtain ⟨h1, h2⟩ := hGet_mem hg
    obtain ⟨i, hi, rfl⟩ := List.mem_iff_getElem.1 h1
    have := ser_inj h.rise (List.getElem?_eq_getElem hi) hj h2
    subst this
    rw [List.getElem?_eq_getElem hi] at hj
    exact hj
/-- Nothing, or in one place. -/
theorem hGet_place {s : Hs} (h : s.ok) (k : Int) : (hGet s k = none ∧ ∀ o ∈ s.obs, o.ser ≠ k) ∨ ∃ (j : Nat) (o : Ob), s.obs[j]? = some o ∧ o.ser = k ∧ hGet s k = some o := by
  cases hg : hGet s k with
  | none => exact .inl ⟨rfl, hGet_none.1 hg⟩
  | some o =>
    obtain ⟨h1, h2⟩ := hGet_mem hg
    obtain ⟨j, hj, rfl⟩ := List.mem_iff_getElem.1 h1
    exact .inr ⟨j, _, List.getElem?_eq_getElem hj, h2, rfl⟩
theorem map_if_set {l : List Ob} (hr : l.Pairwise (fun a b => a.ser < b.ser)) {j : Nat} {o : Ob} (hj : l[j]? = some o) {f : Ob → Ob} : (l.map fun x => if x.ser = o.ser then f x else x) = l.set j (f o) := by
  apply List.ext_getElem?
  intro i
  rw [List.getElem?_map, List.getElem?_set]
  have hjl := ltOfGet hj
  by_cases e : j = i
  · subst e
    rw [hj, if_pos rfl, if_pos hjl]
    simp
  · rw [if_neg e]
    cases hi : l[i]? with
    | none => rfl
    | some x =>
      have : x.ser ≠ o.ser := fun h => e (ser_inj hr hi hj h).symm
      simp [this]
theorem filter_erase {l : List Ob} (hr : l.Pairwise (fun a b => a.ser < b.ser)) {j : Nat} {o : Ob} (hj : l[j]? = some o) : (l.filter fun x => !decide (x.ser = o.ser)) = l.eraseIdx j := by
  induction l generalizing j with
  | nil => simp at hj
  | cons a l ih =>
    rw [List.pairwise_cons] at hr
    cases j with
    | zero =>
      simp at hj
      subst hj
      rw [List.filter_cons_of_neg (by simp), List.eraseIdx_cons_zero, List.filter_eq_self]
      intro x hx
      have := hr.1 x hx
      simp
      omega
    | succ j =>
      have hj : l[j]? = some o := by simpa using hj
      have := hr.1 o (List.mem_of_getElem? hj)
      rw [List.filter_cons_of_pos (by simp; omega), List.eraseIdx_cons_succ, ih hr.2 hj]

/-! ## A heap stays well formed -/
theorem okId_no : okId noId = true := by decide
theorem Hs.ok.put {s : Hs} (h : s.ok) (k : Int) {f : Ob → Ob} (hs : ∀ o, (f o).ser = o.ser) (hf : ∀ o, o ∈ s.obs → o.ser = k → (f o).ok) : (hPut s k f).ok := by
  have hser : ∀ o : Ob, (if o.ser = k then f o else o).ser = o.ser := fun o => by split; exact hs o; rfl
  refine ⟨h.node, h.most, h.last, h.ar, by simpa [hPut] using h.len, ?_, ?_, ?_⟩
  · simp only [hPut]
    rw [List.pairwise_map]
    exact h.rise.imp fun {a b} hab => by rw [hser, hser]; exact hab
  · intro o ho
    obtain ⟨a, ha, rfl⟩ := List.mem_map.1 ho
    rw [hser]
    exact h.ser a ha
  · intro o ho
    obtain ⟨a, ha, rfl⟩ := List.mem_map.1 ho
    split
    · exact hf a ha (by assumption)
    · exact h.obs a ha
theorem Hs.ok.setRef {s : Hs} (h : s.ok) (k f : Int) (x : Id) : (hSetRef s k f x).2.2.ok := by
  unfold hSetRef
  split
  · exact h
  · rename_i hx
    split
    · refine h.put k (fun _ => rfl) fun o ho _ => ?_
      have hb := h.obs o ho
      refine ⟨hb.cell, by simpa using hb.refs, hb.vals, fun y hy => ?_, hb.din⟩
      rcases List.mem_or_eq_of_mem_set hy with hy | rfl
      · exact hb.ids y hy
      · simpa using hx
    · exact h
theorem Hs.ok.setVal {s : Hs} (h : s.ok) (k f v : Int) : (hSetVal s k f v).2.ok := by
  unfold hSetVal
  split
  · refine h.put k (fun _ => rfl) fun o ho _ => ?_
    have hb := h.obs o ho
    exact ⟨hb.cell, hb.refs, by simpa using hb.vals, hb.ids, hb.din⟩
  · exact h
theorem Hs.ok.setIn {s : Hs} (h : s.ok) (k d : Int) : (hSetIn s k d).2.ok := by
  unfold hSetIn
  split
  · exact h
  · rename_i hd
    cases hg : hGet s k with
    | none => exact h
    | some o =>
      refine h.put k (fun _ => rfl) fun o ho _ => ?_
      have hb := h.obs o ho
      exact ⟨hb.cell, hb.refs, hb.vals, hb.ids, by simp only; omega⟩
theorem Hs.ok.free {s : Hs} (h : s.ok) (k : Int) : (hFree s k).2.ok := by
  unfold hFree
  cases hg : hGet s k with
  | none => exact h
  | some o =>
    refine ⟨h.node, h.most, h.last, h.ar.free _, ?_, h.rise.filter _, fun a ha => h.ser a (List.mem_filter.1 ha).1, fun a ha => h.obs a (List.mem_filter.1 ha).1⟩
    have h1 := List.length_filter_le (fun o => !decide (o.ser = k)) s.obs
    have h2 := h.len
    simp only
    omega
theorem Hs.ok.make {s : Hs} (h : s.ok) (r v : Int) : (hMake s r v).2.2.ok := by
  unfold hMake
  split
  · exact h
  · rename_i h1
    split
    · exact h
    · rename_i h2
      split
      · exact h
      · rename_i h3
        split
        · exact h
        · have hl := h.last
          have hm := h.most
          have hc := arAlloc_cell (n := 1 + r + v) h.ar
          refine ⟨h.node, h.most, by simp only; omega, h.ar.alloc _, by simp; omega, ?_, ?_, ?_⟩
          · simp only
            rw [List.pairwise_append]
            refine ⟨h.rise, by simp, fun a ha b hb => ?_⟩
            simp at hb
            subst hb
            have := (h.ser a ha).2
            simp only
            omega
          · intro o ho
            rcases List.mem_append.1 ho with ho | ho
            · have := h.ser o ho; simp only; omega
            · simp at ho
              subst ho
              simp only
              omega
          · intro o ho
            rcases List.mem_append.1 ho with ho | ho
            · exact h.obs o ho
            · simp at ho
              subst ho
              refine ⟨by simp only; omega, by simp; omega, by simp; omega, fun x hx => ?_, by simp⟩
              rw [List.mem_replicate] at hx
              rw [hx.2]
              exact okId_no

end Go.Proofs.Ytohlnmenghbgbaa
