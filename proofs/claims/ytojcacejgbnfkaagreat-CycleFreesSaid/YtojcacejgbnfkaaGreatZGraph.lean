/- Merged by merge.py: Gph, Gph2. No condition. -/
import Derived.Test.YtojcacejgbnfkaaGreatZHeap

namespace Go.Proofs.YtojcacejgbnfkaaGreat
set_option linter.unusedSimpArgs false
set_option linter.unusedVariables false
open Go
/-- A graph, raw. -/
structure Gr where
  refs : List (List Int)
  out : List Bool
  inn : List Int
def slV (t : Option Addr × Nat × Nat) : Value := .slice t.1 t.2.1 t.2.2
structure GrA (H : Hp) (rp : Option Addr) (rl : Nat) (op : Option Addr) (ol : Nat) (ip : Option Addr) (il : Nat) (g : Gr) : Prop where
  rows : ∃ sl : List (Option Addr × Nat × Nat), Rd H 1 rp rl (sl.map slV) ∧ sl.length = g.refs.length ∧ ∀ (i : Nat) (t : Option Addr × Nat × Nat) (l : List Int), sl[i]? = some t → g.refs[i]? = some l → t.2.1 = l.length ∧ Rd H 1 t.1 t.2.1 (l.map (Value.int .i64))
  out : Rd H 1 op ol (g.out.map Value.bool)
  inn : Rd H 1 ip il (g.inn.map (Value.int .i64))
structure Gr.ok (g : Gr) : Prop where
  len : g.refs.length ≤ 9223372036854775807
  row : ∀ l ∈ g.refs, l.length ≤ 9223372036854775807 ∧ ∀ x ∈ l, IntKind.min .i64 ≤ x ∧ x ≤ IntKind.max .i64
  out : g.out.length ≤ 9223372036854775807
  inn : g.inn.length ≤ 9223372036854775807

def grOut (g : Gr) (i k : Nat) : Bool := if g.out.length = 0 then false else g.out.getD (pick (7 * (i : Int) + k) g.out.length).toNat false
def grTarget (g : Gr) (n : Int) (i k : Nat) : Id :=
  if Int.tmod ((g.refs.getD i []).getD k 0) 5 = 0 then noId
  else if grOut g i k then ⟨2 + pick ((g.refs.getD i []).getD k 0) 2, 1 + pick (Int.tdiv ((g.refs.getD i []).getD k 0) 2) 4⟩
  else ⟨1, 1 + pick ((g.refs.getD i []).getD k 0) n⟩
def grDist (g : Gr) (i : Nat) : Int := if g.inn.length = 0 then 0 else (if 0 < pick (g.inn.getD (i % g.inn.length) 0) 14 - 6 then pick (g.inn.getD (i % g.inn.length) 0) 14 - 6 else 0)
def grDeg (g : Gr) (i : Nat) : Nat := if 7 < (g.refs.getD i []).length then 7 else (g.refs.getD i []).length
theorem grTarget_ok {g : Gr} {n : Int} (hn : 1 ≤ n ∧ n ≤ 64) {i k : Nat} : grTarget g n i k = noId ∨ (1 ≤ (grTarget g n i k).n ∧ (grTarget g n i k).n ≤ 3 ∧ 1 ≤ (grTarget g n i k).s ∧ (grTarget g n i k).s ≤ 64) := by
  unfold grTarget
  have p1 := pick_lt (n := (g.refs.getD i []).getD k 0) (m := 2) (by omega)
  have p2 := pick_lt (n := Int.tdiv ((g.refs.getD i []).getD k 0) 2) (m := 4) (by omega)
  have p3 := pick_lt (n := (g.refs.getD i []).getD k 0) (m := n) (by omega)
  split
  · exact .inl rfl
  · split
    · exact .inr ⟨by show 1 ≤ 2 + _; omega, by show 2 + _ ≤ 3; omega, by show 1 ≤ 1 + _; omega, by show 1 + _ ≤ 64; omega⟩
    · exact .inr ⟨Int.le_refl _, by show (1 : Int) ≤ 3; omega, by show 1 ≤ 1 + _; omega, by show 1 + _ ≤ 64; omega⟩
theorem grTarget_okId {g : Gr} {n : Int} (hn : 1 ≤ n ∧ n ≤ 64) {i k : Nat} : okId (grTarget g n i k) = true := by
  rw [okId_iff]
  rcases grTarget_ok (g := g) hn (i := i) (k := k) with h | h
  · exact .inl h
  · exact .inr (by omega)
theorem grDist_ok {g : Gr} {i : Nat} : 0 ≤ grDist g i ∧ grDist g i ≤ 7 := by
  unfold grDist
  split
  · omega
  · have := pick_lt (n := g.inn.getD (i % g.inn.length) 0) (m := 14) (by omega)
    split <;> omega

section
variable {H0 H : Hp} {L : List Prt} {K : Value → Hp → Prop} {rp op ip : Option Addr} {rl rc ol oc il ic : Nat} {g : Gr}
theorem GrA.len (ga : GrA H rp rl op ol ip il g) : rl = g.refs.length ∧ ol = g.out.length ∧ il = g.inn.length := by
  obtain ⟨sl, h1, h2, _⟩ := ga.rows
  have e1 := h1.1
  have e2 := ga.out.1
  have e3 := ga.inn.1
  simp at e1 e2 e3
  omega
theorem GrA.st (ga : GrA H0 rp rl op ol ip il g) (h : St H0 L H) : GrA H rp rl op ol ip il g := by
  obtain ⟨sl, h1, h2, h3⟩ := ga.rows
  exact ⟨⟨sl, h.rd h1, h2, fun i t l ht hl => ⟨(h3 i t l ht hl).1, h.rd (h3 i t l ht hl).2⟩⟩, h.rd ga.out, h.rd ga.inn⟩

/-- The i-th row is read. -/
theorem GrA.row (ga : GrA H rp rl op ol ip il g) {i : Nat} (hi : i < g.refs.length) {Q : Addr → Prop}
    (hQ : ∀ a p c, hcell H a = some (.slice p (g.refs.getD i []).length c) → Rd H 1 p (g.refs.getD i []).length ((g.refs.getD i []).map (Value.int .i64)) → Q a) : idxA rp rl (i : Int) 1 Q := by
  obtain ⟨sl, h1, h2, h3⟩ := ga.rows
  have hl := ga.len.1
  refine idx1 (d := (none, 0, 0)) h1 (by omega) (by omega) fun b o _ hc => ?_
  rw [Int.toNat_natCast] at hc ⊢
  have e1 := List.getElem?_eq_getElem (show i < sl.length by omega)
  have e2 := List.getElem?_eq_getElem hi
  have e3 := h3 i _ _ e1 e2
  rw [List.getD_eq_getElem?_getD, e1] at hc
  have e4 : g.refs.getD i [] = g.refs[i] := by rw [List.getD_eq_getElem?_getD, e2]; rfl
  rw [e4] at hQ
  refine hQ _ sl[i].1 sl[i].2.2 ?_ ?_
  · rw [hc, ← e3.1]; rfl
  · have := e3.2
    rw [e3.1] at this
    exact this

end
end Go.Proofs.YtojcacejgbnfkaaGreat

namespace Go.Proofs.YtojcacejgbnfkaaGreat
set_option linter.unusedSimpArgs false
set_option linter.unusedVariables false
open Go
def gRefsAt (g : Gr) (n i m : Nat) : List Id := (List.range (grDeg g i)).map fun y => if y < m then grTarget g n i y else noId
def grRefs (g : Gr) (n i : Nat) : List Id := (List.range (grDeg g i)).map fun y => grTarget g n i y
theorem gRefsAt_len {g : Gr} {n i m : Nat} : (gRefsAt g n i m).length = grDeg g i := by simp [gRefsAt]
theorem grDeg_le {g : Gr} {i : Nat} : grDeg g i ≤ 7 ∧ grDeg g i ≤ (g.refs.getD i []).length := by unfold grDeg; split <;> omega
theorem gRefsAt_all {g : Gr} {n i m : Nat} (h : grDeg g i ≤ m) : gRefsAt g n i m = grRefs g n i := by
  apply List.ext_getElem?
  intro y
  by_cases hy : y < grDeg g i
  · simp [gRefsAt, grRefs, hy, show y < m by omega]
  · simp [gRefsAt, grRefs, hy]
theorem gRefsAt_set {g : Gr} {n i m : Nat} (h : m < grDeg g i) : (gRefsAt g n i m).set m (grTarget g n i m) = gRefsAt g n i (m + 1) := by
  apply List.ext_getElem?
  intro y
  rw [List.getElem?_set]
  by_cases hy : y < grDeg g i
  · by_cases e : m = y
    · subst e
      simp [gRefsAt, hy]
    · simp [gRefsAt, hy, e]
      by_cases h' : y < m
      · rw [if_pos h', if_pos (by omega)]
      · rw [if_neg h', if_neg (by omega)]
  · simp [gRefsAt, hy]
    intro e
    omega

/-- The heap on its way. -/
structure GrMid (g : Gr) (n j k : Nat) (s : Hs) : Prop where
  ok : s.ok
  node : s.node = 1
  most : s.most = 64
  last : s.last = n
  len : s.obs.length = n
  room : 256 ≤ frees s.ar + n
  obs : ∀ i, i < n → ∃ c, s.obs[i]? = some ⟨i + 1, c, gRefsAt g n i (if i < j then 7 else if i = j then k else 0), [], if i < j then grDist g i else 0⟩
/-- The heap that a graph says. -/
structure GrHs (g : Gr) (n : Nat) (s : Hs) : Prop where
  ok : s.ok
  node : s.node = 1
  most : s.most = 64
  last : s.last = n
  len : s.obs.length = n
  room : 256 ≤ frees s.ar + n
  obs : ∀ i, i < n → ∃ c, s.obs[i]? = some ⟨i + 1, c, grRefs g n i, [], grDist g i⟩

theorem put_set {s : Hs} (ho : s.ok) {j : Nat} {o : Ob} (hj : s.obs[j]? = some o) (f : Ob → Ob) : (hPut s o.ser f).obs = s.obs.set j (f o) := map_if_set ho.rise hj

theorem GrMid.setRef {g : Gr} {n j k : Nat} {s : Hs} (h : GrMid g n j k s) (hn : 1 ≤ n ∧ n ≤ 64) (hj : j < n) (hk : k < grDeg g j) : GrMid g n j (k + 1) (hSetRef s ((j : Int) + 1) k (grTarget g n j k)).2.2 := by
  obtain ⟨c, hc⟩ := h.obs j hj
  rw [if_neg (by omega), if_pos rfl, if_neg (by omega)] at hc
  have hg := hGet_at h.ok hc
  have hg : hGet s ((j : Int) + 1) = some ⟨(j : Int) + 1, c, gRefsAt g n j k, [], 0⟩ := hg
  have hr : (hRef s ((j : Int) + 1) k).2 = 0 := by
    unfold hRef
    rw [hg]
    simp only
    rw [gRefsAt_len, if_pos (by omega)]
  have ok' := h.ok.setRef ((j : Int) + 1) k (grTarget g n j k)
  have e : (hSetRef s ((j : Int) + 1) k (grTarget g n j k)).2.2 = hPut s ((j : Int) + 1) fun o => { o with refs := o.refs.set (k : Int).toNat (grTarget g n j k) } := by
    unfold hSetRef
    rw [if_neg (by rw [grTarget_okId (by omega)]; decide), if_pos hr]
  rw [e] at ok' ⊢
  have hobs := put_set h.ok hc fun o => { o with refs := o.refs.set (k : Int).toNat (grTarget g n j k) }
  refine ⟨ok', h.node, h.most, h.last, by rw [show (hPut s ((j : Int) + 1) fun o => { o with refs := o.refs.set (k : Int).toNat (grTarget g n j k) }).obs = _ from hobs, List.length_set]; exact h.len, h.room, fun i hi => ?_⟩
  rw [show (hPut s ((j : Int) + 1) fun o => { o with refs := o.refs.set (k : Int).toNat (grTarget g n j k) }).obs = _ from hobs, List.getElem?_set]
  by_cases e2 : j = i
  · subst e2
    rw [if_pos rfl, if_pos (by rw [h.len]; exact hi), if_neg (by omega), if_pos rfl, if_neg (by omega)]
    refine ⟨c, ?_⟩
    simp only [Int.toNat_natCast]
    rw [gRefsAt_set hk]
  · rw [if_neg e2]
    obtain ⟨c', hc'⟩ := h.obs i hi
    rw [if_neg (Ne.symm e2)] at hc' ⊢
    exact ⟨c', hc'⟩
theorem GrMid.setIn {g : Gr} {n j k : Nat} {s : Hs} (h : GrMid g n j k s) (hj : j < n) (hk : grDeg g j ≤ k) : GrMid g n (j + 1) 0 (hSetIn s ((j : Int) + 1) (grDist g j)).2 := by
  obtain ⟨c, hc⟩ := h.obs j hj
  rw [if_neg (by omega), if_pos rfl, if_neg (by omega)] at hc
  have hg := hGet_at h.ok hc
  have hg : hGet s ((j : Int) + 1) = some ⟨(j : Int) + 1, c, gRefsAt g n j k, [], 0⟩ := hg
  have hd := grDist_ok (g := g) (i := j)
  have ok' := h.ok.setIn ((j : Int) + 1) (grDist g j)
  have e : (hSetIn s ((j : Int) + 1) (grDist g j)).2 = hPut s ((j : Int) + 1) fun o => { o with din := grDist g j } := by
    unfold hSetIn
    rw [if_neg (by omega), hg]
  rw [e] at ok' ⊢
  have hobs := put_set h.ok hc fun o => { o with din := grDist g j }
  refine ⟨ok', h.node, h.most, h.last, by rw [show (hPut s ((j : Int) + 1) fun o => { o with din := grDist g j }).obs = _ from hobs, List.length_set]; exact h.len, h.room, fun i hi => ?_⟩
  rw [show (hPut s ((j : Int) + 1) fun o => { o with din := grDist g j }).obs = _ from hobs, List.getElem?_set]
  by_cases e2 : j = i
  · subst e2
    rw [if_pos rfl, if_pos (by rw [h.len]; exact hi), if_pos (by omega), if_pos (by omega)]
    refine ⟨c, ?_⟩
    simp only
    have h7 := (grDeg_le (g := g) (i := j)).1
    rw [gRefsAt_all hk, gRefsAt_all h7]
  · rw [if_neg e2]
    obtain ⟨c', hc'⟩ := h.obs i hi
    refine ⟨c', ?_⟩
    rw [hc']
    by_cases h1 : i < j
    · rw [if_pos h1, if_pos h1, if_pos (by omega), if_pos (by omega)]
    · simp only [h1, Ne.symm e2, if_false, show ¬ i < j + 1 by omega, ite_self]
theorem GrMid.done {g : Gr} {n : Nat} {s : Hs} (h : GrMid g n n 0 s) : GrHs g n s :=
  ⟨h.ok, h.node, h.most, h.last, h.len, h.room, fun i hi => by
    obtain ⟨c, hc⟩ := h.obs i hi
    rw [if_pos hi, if_pos hi, gRefsAt_all grDeg_le.1] at hc
    exact ⟨c, hc⟩⟩

end Go.Proofs.YtojcacejgbnfkaaGreat
