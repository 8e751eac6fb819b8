/- Merged by merge.py: PtS, PtT, DenPaint, DenGrey, PtP, DenRef11, DenRef4, DenApi, PtR, PtO, PtR2, PtR3, PtP2, PtP3, PtR4, PtLay, PtO2, PtL. No condition. -/
import Derived.Test.YtojcacejgbnfkaaGreatZHeap
import Derived.Test.YtojcacejgbnfkaaGreatZBase
import Derived.Test.YtojcacejgbnfkaaGreatZNum
import Derived.Shelf.SlSortCmp.NoneTotal
import Derived.Shelf.Lay
import Derived.Ground.SlsfProg

namespace Go.Proofs.YtojcacejgbnfkaaGreat
set_option linter.unusedSimpArgs false
set_option linter.unusedVariables false
open Go
/-- A paint. -/
structure Ps where
  marks : List (Int × (Int × Bool))
  met : List (Id × Int)
  stack : List Int
  most : Int
  over : Bool
  turns : Int

def isId (x : Id) : Prop := 1 ≤ x.n ∧ x.n ≤ 64 ∧ 1 ≤ x.s ∧ x.s ≤ 72057594037927935
instance (x : Id) : Decidable (isId x) := by unfold isId; infer_instance
def clampR (r : Int) : Int := if 40 < (if r < 0 then 0 else r) then 40 else (if r < 0 then 0 else r)
theorem clampR_is {r : Int} : 0 ≤ clampR r ∧ clampR r ≤ 40 := by unfold clampR; split <;> (try split) <;> omega
theorem clampR_id {r : Int} (h : 0 ≤ r ∧ r ≤ 40) : clampR r = r := by unfold clampR; rw [if_neg (by omega : ¬ r < 0), if_neg (by omega)]
structure Ps.ok (p : Ps) : Prop where
  marks : mnod p.marks
  met : mnod p.met
  ranks : ∀ e ∈ p.marks, 0 ≤ e.2.1 ∧ e.2.1 ≤ 40
  ids : ∀ e ∈ p.met, isId e.1 ∧ 0 ≤ e.2 ∧ e.2 ≤ 40
  most : 1 ≤ p.most ∧ p.most ≤ 64
  stack : (p.stack.length : Int) ≤ p.most

def pPush (p : Ps) (k : Int) : Ps := if p.most ≤ p.stack.length then { p with over := true } else { p with stack := p.stack ++ [k] }
def pShade (s : Hs) (p : Ps) (x : Id) (r : Int) : Ps :=
  if ¬ isId x then p
  else if x.n ≠ s.node then
    match mlook p.met x with
    | none => { p with met := mput p.met x (clampR r) }
    | some was => if clampR r < was then { p with met := mput p.met x (clampR r) } else p
  else if hGet s x.s = none then p
  else match mlook p.marks x.s with
    | none => pPush { p with marks := mput p.marks x.s (clampR r, true) } x.s
    | some (was, g) => if was ≤ clampR r then p else if g then { p with marks := mput p.marks x.s (clampR r, true) } else pPush { p with marks := mput p.marks x.s (clampR r, true) } x.s
def pBlacken (s : Hs) (p : Ps) (k : Int) : Ps := if mlook p.marks k = none ∧ hGet s k ≠ none then { p with marks := mput p.marks k (0, false) } else p
def pForget (p : Ps) (k : Int) : Ps := { p with marks := mdel p.marks k }
def pShades (s : Hs) (p : Ps) (l : List Id) (r : Int) : Ps := l.foldl (fun p x => pShade s p x r) p
def pScan (s : Hs) (p : Ps) (k : Int) : Bool × Ps :=
  match hGet s k, mlook p.marks k with
  | some o, some (r, true) => (true, pShades s { p with marks := mput p.marks k (r, false) } o.refs r)
  | _, _ => (false, p)
def pTurn (p : Ps) : Ps := { p with marks := [], met := [], stack := [], over := false, turns := IntKind.u64.wrap (p.turns + 1) }
def pPop (p : Ps) : (Int × Bool) × Ps := match p.stack.getLast? with
  | none => ((0, false), p)
  | some x => ((x, true), { p with stack := p.stack.dropLast })
def pRest (p : Ps) : Ps := { p with over := false }
def pMark (s : Hs) (p : Ps) (k : Int) : Int × Bool × Bool := match mlook p.marks k with
  | none => (0, false, false)
  | some (r, g) => if hGet s k = none then (0, false, false) else (r, g, true)
def pMet (p : Ps) (x : Id) : Int × Bool := match mlook p.met x with
  | none => (0, false)
  | some r => (r, true)
def newPs (most : Int) : Ps := ⟨[], [], [], most, false, 0⟩

theorem mput_length {κ ν : Type} [DecidableEq κ] {l : List (κ × ν)} {k : κ} {x : ν} : (mput l k x).length ≤ l.length + 1 ∧ l.length ≤ (mput l k x).length := by
  unfold mput
  split <;> simp
theorem mput_mem {κ ν : Type} [DecidableEq κ] {l : List (κ × ν)} {k : κ} {x : ν} {e : κ × ν} (h : e ∈ mput l k x) : e = (k, x) ∨ e ∈ l := by
  unfold mput at h
  split at h
  · obtain ⟨p, hp, rfl⟩ := List.mem_map.1 h
    split
    · exact .inl rfl
    · exact .inr hp
  · rcases List.mem_append.1 h with h | h
    · exact .inr h
    · exact .inl (by simpa using h)
theorem mdel_mem {κ ν : Type} [DecidableEq κ] {l : List (κ × ν)} {k : κ} {e : κ × ν} (h : e ∈ mdel l k) : e ∈ l := (List.mem_filter.1 h).1
theorem mdel_length_le {κ ν : Type} [DecidableEq κ] {l : List (κ × ν)} {k : κ} : (mdel l k).length ≤ l.length := List.length_filter_le _ _

section
variable {s : Hs} {p : Ps} {x : Id} {r k : Int}
theorem Ps.ok.mark (h : p.ok) (hr : 0 ≤ r ∧ r ≤ 40) {g : Bool} : ({ p with marks := mput p.marks k (r, g) } : Ps).ok :=
  ⟨mput_nod h.marks _ _, h.met, fun e he => (mput_mem he).elim (fun e' => by rw [e']; exact hr) (h.ranks e), h.ids, h.most, h.stack⟩
theorem Ps.ok.meet (h : p.ok) (hr : 0 ≤ r ∧ r ≤ 40) (hx : isId x) : ({ p with met := mput p.met x r } : Ps).ok :=
  ⟨h.marks, mput_nod h.met _ _, h.ranks, fun e he => (mput_mem he).elim (fun e' => by rw [e']; exact ⟨hx, hr⟩) (h.ids e), h.most, h.stack⟩
theorem Ps.ok.push (h : p.ok) : (pPush p k).ok := by
  unfold pPush
  split
  · exact ⟨h.marks, h.met, h.ranks, h.ids, h.most, h.stack⟩
  · exact ⟨h.marks, h.met, h.ranks, h.ids, h.most, by simp only [List.length_append, List.length_cons, List.length_nil]; omega⟩
theorem Ps.ok.shade (h : p.ok) : (pShade s p x r).ok := by
  unfold pShade
  split
  · exact h
  · rename_i hx
    split
    · split
      · exact h.meet clampR_is (Classical.not_not.1 hx)
      · split
        · exact h.meet clampR_is (Classical.not_not.1 hx)
        · exact h
    · split
      · exact h
      · split
        · exact (h.mark clampR_is).push
        · split
          · exact h
          · split
            · exact h.mark clampR_is
            · exact (h.mark clampR_is).push
theorem Ps.ok.shades {l : List Id} (h : p.ok) : (pShades s p l r).ok := by
  unfold pShades
  induction l generalizing p with
  | nil => exact h
  | cons y l ih => exact ih h.shade
theorem mlook_ranks (h : p.ok) {g : Bool} (hl : mlook p.marks k = some (r, g)) : 0 ≤ r ∧ r ≤ 40 := h.ranks _ (mlook_mem hl)
theorem Ps.ok.scan (h : p.ok) : (pScan s p k).2.ok := by
  unfold pScan
  split
  · rename_i o r ho hm
    exact (h.mark (mlook_ranks h hm)).shades
  · exact h
theorem Ps.ok.blacken (h : p.ok) : (pBlacken s p k).ok := by
  unfold pBlacken
  split
  · exact h.mark (by omega)
  · exact h
theorem Ps.ok.forget (h : p.ok) : (pForget p k).ok := ⟨mdel_nod h.marks _, h.met, fun e he => h.ranks e (mdel_mem he), h.ids, h.most, h.stack⟩
theorem Ps.ok.turn (h : p.ok) : (pTurn p).ok := ⟨List.nodup_nil, List.nodup_nil, fun e he => (by cases he), fun e he => (by cases he), h.most, by have := h.most; show (0 : Int) ≤ p.most; omega⟩
theorem Ps.ok.pop (h : p.ok) : (pPop p).2.ok := by
  unfold pPop
  split
  · exact h
  · exact ⟨h.marks, h.met, h.ranks, h.ids, h.most, by have := h.stack; simp only [List.length_dropLast]; omega⟩
theorem Ps.ok.rest (h : p.ok) : (pRest p).ok := ⟨h.marks, h.met, h.ranks, h.ids, h.most, h.stack⟩
theorem newPs_ok {m : Int} (h : 1 ≤ m ∧ m ≤ 64) : (newPs m).ok := ⟨List.nodup_nil, List.nodup_nil, fun e he => (by cases he), fun e he => (by cases he), h, by show (0 : Int) ≤ m; omega⟩

/-! ## How much it may grow -/
theorem pPush_marks : (pPush p k).marks = p.marks := by unfold pPush; split <;> rfl
theorem pPush_met : (pPush p k).met = p.met := by unfold pPush; split <;> rfl
/-- A paint holds no more than so much. -/
def Ps.lt (p : Ps) (n : Nat) : Prop := p.marks.length ≤ n ∧ p.met.length ≤ n
theorem Ps.lt.mono {n m : Nat} (h : p.lt n) (hm : n ≤ m) : p.lt m := ⟨Nat.le_trans h.1 hm, Nat.le_trans h.2 hm⟩
theorem Ps.lt.shade {n : Nat} (h : p.lt n) : (pShade s p x r).lt (n + 1) := by
  obtain ⟨h1, h2⟩ := h
  have a1 := (mput_length (l := p.marks) (k := x.s) (x := (clampR r, true))).1
  have a2 := (mput_length (l := p.met) (k := x) (x := clampR r)).1
  unfold pShade
  split
  · exact ⟨by omega, by omega⟩
  · split
    · split
      · exact ⟨by show p.marks.length ≤ _; omega, by show (mput p.met x (clampR r)).length ≤ _; omega⟩
      · split
        · exact ⟨by show p.marks.length ≤ _; omega, by show (mput p.met x (clampR r)).length ≤ _; omega⟩
        · exact ⟨by omega, by omega⟩
    · split
      · exact ⟨by omega, by omega⟩
      · split
        · exact ⟨by rw [pPush_marks]; show (mput p.marks x.s (clampR r, true)).length ≤ _; omega, by rw [pPush_met]; show p.met.length ≤ _; omega⟩
        · split
          · exact ⟨by omega, by omega⟩
          · split
            · exact ⟨by show (mput p.marks x.s (clampR r, true)).length ≤ _; omega, by show p.met.length ≤ _; omega⟩
            · exact ⟨by rw [pPush_marks]; show (mput p.marks x.s (clampR r, true)).length ≤ _; omega, by rw [pPush_met]; show p.met.length ≤ _; omega⟩
theorem Ps.lt.shades {n : Nat} {l : List Id} (h : p.lt n) : (pShades s p l r).lt (n + l.length) := by
  unfold pShades
  induction l generalizing p n with
  | nil => exact h
  | cons y l ih => exact (ih h.shade).mono (by simp; omega)
theorem mput_has_length {κ ν : Type} [DecidableEq κ] {l : List (κ × ν)} {k : κ} {x y : ν} (h : mlook l k = some y) : (mput l k x).length = l.length := by
  unfold mput
  rw [mhas_look, h]
  simp
theorem Ps.lt.scan {n : Nat} (ho : s.ok) (h : p.lt n) : (pScan s p k).2.lt (n + 7) := by
  unfold pScan
  split
  · rename_i o r hg hm
    have hr := (ho.obs o (hGet_mem hg).1).refs
    have h1 : ({ p with marks := mput p.marks k (r, false) } : Ps).lt n := ⟨by show (mput p.marks k (r, false)).length ≤ n; rw [mput_has_length hm]; exact h.1, h.2⟩
    exact h1.shades.mono (by omega)
  · exact h.mono (by omega)
theorem Ps.lt.blacken {n : Nat} (h : p.lt n) : (pBlacken s p k).lt (n + 1) := by
  unfold pBlacken
  have a1 := (mput_length (l := p.marks) (k := k) (x := ((0 : Int), false))).1
  have := h.1
  have := h.2
  split
  · exact ⟨by show (mput p.marks k (0, false)).length ≤ _; omega, by show p.met.length ≤ _; omega⟩
  · exact ⟨by omega, by omega⟩
theorem Ps.lt.forget {n : Nat} (h : p.lt n) : (pForget p k).lt n := ⟨Nat.le_trans mdel_length_le h.1, h.2⟩
theorem Ps.lt.turn {n : Nat} (h : p.lt n) : (pTurn p).lt n := ⟨Nat.zero_le _, Nat.zero_le _⟩
theorem Ps.lt.pop {n : Nat} (h : p.lt n) : (pPop p).2.lt n := by unfold pPop; split <;> exact h
theorem Ps.lt.rest {n : Nat} (h : p.lt n) : (pRest p).lt n := h
theorem newPs_lt {m : Int} {n : Nat} : (newPs m).lt n := ⟨Nat.zero_le _, Nat.zero_le _⟩

end
/-! ## In the order of keys -/
def keyOf (x : Id) : Int := x.n * 72057594037927936 + x.s
theorem keyOf_inj {x y : Id} (hx : isId x) (hy : isId y) (h : keyOf x = keyOf y) : x = y := by
  unfold isId at hx hy
  unfold keyOf at h
  exact Id.ext (by omega) (by omega)
/-- Rising by their keys. -/
def keyed (t : List (Id × Int)) : Prop := t.Pairwise fun a b => keyOf a.1 < keyOf b.1
theorem keyed_nod {t : List (Id × Int)} (h : keyed t) : mnod t := by
  unfold mnod
  rw [List.Nodup, List.pairwise_map]
  exact h.imp fun h e => by rw [e] at h; omega
theorem keyed_unique : ∀ {t t' : List (Id × Int)}, keyed t → keyed t' → t.Perm t' → t = t'
  | [], t', _, _, hp => (List.nil_perm.1 hp).symm
  | a :: t, [], _, _, hp => by simp at hp
  | a :: t, b :: t', h, h', hp => by
    have h1 := List.pairwise_cons.1 h
    have h2 := List.pairwise_cons.1 h'
    have e : a = b := by
      have ma : a ∈ b :: t' := hp.subset (by simp)
      have mb : b ∈ a :: t := hp.symm.subset (by simp)
      rcases List.mem_cons.1 ma with e | ma
      · exact e
      rcases List.mem_cons.1 mb with e | mb
      · exact e.symm
      have := h1.1 b mb
      have := h2.1 a ma
      omega
    subst e
    rw [keyed_unique h1.2 h2.2 (List.Perm.cons_inv hp)]

end Go.Proofs.YtojcacejgbnfkaaGreat

namespace Go.Proofs.YtojcacejgbnfkaaGreat
set_option linter.unusedSimpArgs false
set_option linter.unusedVariables false
open Go
def tAt (t : List (Id × Int)) (k : Int) : Nat := (t.takeWhile fun e => decide (keyOf e.1 < k)).length
def tGet (t : List (Id × Int)) (k : Int) : Option (Id × Int) := match t[tAt t k]? with
  | some e => if keyOf e.1 = k then some e else none
  | none => none
def tPut (t : List (Id × Int)) (y : Id) (r : Int) : List (Id × Int) := if (tGet t (keyOf y)).isSome then t.set (tAt t (keyOf y)) (y, r) else t.take (tAt t (keyOf y)) ++ (y, r) :: t.drop (tAt t (keyOf y))

theorem tAt_le {t : List (Id × Int)} {k : Int} : tAt t k ≤ t.length := (List.takeWhile_sublist _).length_le
theorem tAt_lt {k : Int} : ∀ {t : List (Id × Int)} {i : Nat} {e : Id × Int}, t[i]? = some e → i < tAt t k → keyOf e.1 < k
  | [], i, e, h, _ => by simp at h
  | a :: t, i, e, h, hi => by
    unfold tAt at hi
    rw [List.takeWhile_cons] at hi
    split at hi
    · rename_i ha
      cases i with
      | zero => simp at h; subst h; simpa using ha
      | succ i => exact tAt_lt (t := t) (by simpa using h) (by unfold tAt; simpa using hi)
    · simp at hi
theorem tAt_at {k : Int} : ∀ {t : List (Id × Int)} {e : Id × Int}, t[tAt t k]? = some e → ¬ keyOf e.1 < k
  | [], e, h => by simp at h
  | a :: t, e, h => by
    unfold tAt at h
    rw [List.takeWhile_cons] at h
    split at h
    · exact tAt_at (t := t) (by unfold tAt; simpa using h)
    · rename_i ha
      simp at h
      subst h
      simpa using ha
theorem tAt_is {t : List (Id × Int)} {k : Int} {i : Nat} (hi : i ≤ t.length) (h1 : ∀ j e, j < i → t[j]? = some e → keyOf e.1 < k) (h2 : ∀ e, t[i]? = some e → ¬ keyOf e.1 < k) : tAt t k = i := by
  rcases Nat.lt_trichotomy (tAt t k) i with h | h | h
  · have hl : tAt t k < t.length := by omega
    have e := List.getElem?_eq_getElem hl
    exact absurd (h1 _ _ h e) (tAt_at e)
  · exact h
  · have hl : i < t.length := by have := tAt_le (t := t) (k := k); omega
    have e := List.getElem?_eq_getElem hl
    exact absurd (tAt_lt e h) (h2 _ e)

theorem keyed_get {t : List (Id × Int)} (h : keyed t) {i j : Nat} {a b : Id × Int} (hi : t[i]? = some a) (hj : t[j]? = some b) (hij : i < j) : keyOf a.1 < keyOf b.1 := by
  obtain ⟨hil, rfl⟩ := List.getElem?_eq_some_iff.1 hi
  obtain ⟨hjl, rfl⟩ := List.getElem?_eq_some_iff.1 hj
  exact List.pairwise_iff_getElem.1 h i j hil hjl hij
theorem tGet_of {t : List (Id × Int)} (h : keyed t) {e : Id × Int} (he : e ∈ t) : tGet t (keyOf e.1) = some e ∧ t[tAt t (keyOf e.1)]? = some e := by
  obtain ⟨m, hm, rfl⟩ := List.mem_iff_getElem.1 he
  have e1 := List.getElem?_eq_getElem hm
  have : tAt t (keyOf t[m].1) = m := tAt_is (by omega) (fun j e hj hje => keyed_get h hje e1 hj) fun e h' => by
    rw [e1] at h'
    cases h'
    omega
  unfold tGet
  rw [this, e1]
  simp
theorem tGet_some {t : List (Id × Int)} {k : Int} {e : Id × Int} (h : tGet t k = some e) : t[tAt t k]? = some e ∧ keyOf e.1 = k ∧ e ∈ t := by
  unfold tGet at h
  split at h
  · rename_i e' he
    split at h
    · rename_i hk
      cases h
      exact ⟨he, hk, List.mem_of_getElem? he⟩
    · cases h
  · cases h
theorem tGet_none {t : List (Id × Int)} (ht : keyed t) {k : Int} (h : tGet t k = none) : ∀ e ∈ t, keyOf e.1 ≠ k := by
  intro e he hk
  have := (tGet_of ht he).1
  rw [hk, h] at this
  cases this
theorem tGet_beyond {t : List (Id × Int)} (ht : keyed t) {k : Int} (h : tGet t k = none) : ∀ e ∈ t.drop (tAt t k), k < keyOf e.1 := by
  intro e he
  obtain ⟨m, hm, rfl⟩ := List.mem_iff_getElem.1 he
  rw [List.length_drop] at hm
  have hl : tAt t k + m < t.length := by omega
  have e1 := List.getElem?_eq_getElem hl
  rw [List.getElem_drop]
  have hne := tGet_none ht h _ (List.getElem_mem hl)
  have hl0 : tAt t k < t.length := by omega
  have e0 := List.getElem?_eq_getElem hl0
  have h0 := tAt_at e0
  have hne0 := tGet_none ht h _ (List.getElem_mem hl0)
  rcases Nat.eq_zero_or_pos m with rfl | hp
  · simp only [Nat.add_zero] at hne ⊢
    omega
  · have := keyed_get ht e0 e1 (by omega)
    omega
theorem tPut_keyed {t : List (Id × Int)} (ht : keyed t) (y : Id) (r : Int) : keyed (tPut t y r) := by
  unfold tPut
  cases hg : tGet t (keyOf y) with
  | some e =>
    rw [if_pos (by rfl)]
    obtain ⟨h1, h2, h3⟩ := tGet_some hg
    have e1 : (t.set (tAt t (keyOf y)) (y, r)).map (fun e => keyOf e.1) = t.map fun e => keyOf e.1 := by
      rw [List.map_set]
      refine List.set_self ?_
      rw [List.getElem?_map, h1]
      simp [h2]
    have : ((t.set (tAt t (keyOf y)) (y, r)).map fun e => keyOf e.1).Pairwise (· < ·) := by
      rw [e1, List.pairwise_map]
      exact ht
    rw [List.pairwise_map] at this
    exact this
  | none =>
    rw [if_neg (by simp)]
    have hb := tGet_beyond ht hg
    unfold keyed
    rw [List.pairwise_append, List.pairwise_cons]
    have ht1 : ∀ a ∈ t.take (tAt t (keyOf y)), keyOf a.1 < keyOf y := fun a ha => by
      obtain ⟨m, hm, rfl⟩ := List.mem_iff_getElem.1 ha
      rw [List.length_take] at hm
      rw [List.getElem_take]
      exact tAt_lt (List.getElem?_eq_getElem (by omega)) (by omega)
    refine ⟨ht.sublist (List.take_sublist _ _), ⟨hb, ht.sublist (List.drop_sublist _ _)⟩, fun a ha b hb' => ?_⟩
    rcases List.mem_cons.1 hb' with rfl | hb'
    · exact ht1 a ha
    · exact Int.lt_trans (ht1 a ha) (hb b hb')
theorem tPut_length {t : List (Id × Int)} {y : Id} {r : Int} : (tPut t y r).length ≤ t.length + 1 := by
  unfold tPut
  split
  · simp
  · have := tAt_le (t := t) (k := keyOf y)
    simp only [List.length_append, List.length_take, List.length_cons, List.length_drop]
    omega
theorem map_if_setK {κ ν : Type} [DecidableEq κ] {l : List (κ × ν)} (hn : mnod l) {j : Nat} {k : κ} {v w : ν} (hj : l[j]? = some (k, v)) : (l.map fun p => if p.1 = k then (k, w) else p) = l.set j (k, w) := by
  apply List.ext_getElem?
  intro i
  rw [List.getElem?_map, List.getElem?_set]
  by_cases e : j = i
  · subst e
    have hl := ltOfGet hj
    rw [hj]
    simp [hl]
  · rw [if_neg e]
    cases hi : l[i]? with
    | none => rfl
    | some p =>
      have hne : p.1 ≠ k := fun h => e (by
        have h1 : (l.map (·.1))[j]? = some k := by rw [List.getElem?_map, hj]; rfl
        have h2 : (l.map (·.1))[i]? = some k := by rw [List.getElem?_map, hi]; simp [h]
        exact (List.getElem?_inj (ltOfGet h1) hn).1 (by rw [h1, h2]))
      simp [hne]
theorem tPut_perm {t met : List (Id × Int)} (ht : keyed t) (hp : t.Perm met) (hn : mnod met) (hids : ∀ e ∈ met, isId e.1) {y : Id} (hy : isId y) (r : Int) : (tPut t y r).Perm (mput met y r) := by
  have hnt := keyed_nod ht
  unfold tPut
  cases hg : tGet t (keyOf y) with
  | some e =>
    rw [if_pos (by rfl)]
    obtain ⟨h1, h2, h3⟩ := tGet_some hg
    have hey : e.1 = y := keyOf_inj (hids e (hp.subset h3)) hy h2
    obtain ⟨e1, e2⟩ := e
    simp only at hey
    subst hey
    rw [← map_if_setK hnt h1]
    have hl : mlook met e1 = some e2 := mlook_of hn (hp.subset h3)
    unfold mput
    rw [mhas_look, hl, if_pos (by rfl)]
    exact hp.map _
  | none =>
    rw [if_neg (by simp)]
    have hno : mhas met y = false := mhas_false.2 fun p hp' e => tGet_none ht hg p (hp.symm.subset hp') (by rw [e])
    unfold mput
    rw [hno, if_neg (by decide)]
    have h1 : (t.take (tAt t (keyOf y)) ++ (y, r) :: t.drop (tAt t (keyOf y))).Perm ((y, r) :: t) := by
      refine List.perm_middle.trans ?_
      rw [List.take_append_drop]
    refine h1.trans ((hp.cons _).trans ?_)
    exact (List.perm_append_singleton _ _).symm

end Go.Proofs.YtojcacejgbnfkaaGreat

namespace Go.Proofs.YtojcacejgbnfkaaGreat
open Go
set_option linter.unusedVariables false
set_option maxRecDepth 100000
def B_paint_New (h1 : Option Addr) (most2 : Int) (H : Hp) (K : Value → Hp → Prop) : Prop :=
 (bif (Option.isNone (α := Addr) h1) then
 K (.tuple #[(.pointer none), (.int .i64 1)]) H
else
 hcall PR f_grey_New_uint64 ⟨[(.int .i64 most2)]⟩ H fun v3 Hx4 =>
 tup2 v3 fun v5 v6 =>
 asP v5 fun t7 =>
 asI .i64 v6 fun t8 =>
 (bif ((t8 : Int) != 0) then
 K (.tuple #[(.pointer none), (.int .i64 1)]) Hx4
else
 newB (.map #[] 0) Hx4 fun b9 Hx10 =>
 newB (.map #[] 0) Hx10 fun b11 Hx12 =>
 newB (.cells #[(.pointer h1), (.map (some b9)), (.map (some b11)), (.pointer t7), (.int .u64 0)] ty_paint_Paint) Hx12 fun b13 Hx14 =>
 K (.tuple #[(.pointer (some ⟨b13, 0, none⟩)), (.int .i64 0)]) Hx14))
theorem E_paint_New (h1 : Option Addr) (most2 : Int) (H : Hp) (K : Value → Hp → Prop) : B_paint_New h1 most2 H K = denF Tryz.prog Tryz.f42 .n [(.pointer h1), (.int .i64 most2)] H K := by kernel_rfl
theorem den_paint_New {h1 : Option Addr} {most2 : Int} {H : Hp} {K : Value → Hp → Prop} (h : B_paint_New h1 most2 H K) : hcall PR f_paint_New ⟨[(.pointer h1), (.int .i64 most2)]⟩ H K := denF_call Tryz.func42 PR_mixed (Eq.mp (E_paint_New h1 most2 H K) h)

def B_paint_Paint_Scan (p1 : Option Addr) (serial2 : Int) (H : Hp) (K : Value → Hp → Prop) : Prop :=
 nilP p1 fun pa3 =>
 ldP pa3 H fun h4 =>
 hcall PR f_heap_Heap_Object ⟨[(.pointer h4), (.int .u64 serial2)]⟩ H fun v5 Hx6 =>
 tup2 v5 fun v7 v8 =>
 asAgg' v7 fun cs9 =>
 unCons cs9.toList fun v10 r11 =>
 unCons r11 fun v12 r13 =>
 unCons r13 fun v14 r15 =>
 unCons r15 fun v16 r17 =>
 unCons r17 fun v18 r19 =>
 unNil r19 <|
 asI .u64 v10 fun Serial20 =>
 asI .i64 v12 fun Cell21 =>
 asSl v14 fun RefsP22 RefsL23 RefsC24 =>
 asSl v16 fun ValsP25 ValsL26 ValsC27 =>
 asI .i64 v18 fun In28 =>
 asB v8 fun t29 =>
 newB (.cells #[(.int .u64 0), (.int .i64 0), (.slice none 0 0), (.slice none 0 0), (.int .i64 0)] ty_api_Object) Hx6 fun b30 Hx31 =>
 st ⟨b30, 0, none⟩ (.int .u64 Serial20) Hx31 fun Hx32 =>
 st ⟨b30, 1, none⟩ (.int .i64 Cell21) Hx32 fun Hx33 =>
 st ⟨b30, 2, none⟩ (.slice RefsP22 RefsL23 RefsC24) Hx33 fun Hx34 =>
 st ⟨b30, 3, none⟩ (.slice ValsP25 ValsL26 ValsC27) Hx34 fun Hx35 =>
 st ⟨b30, 4, none⟩ (.int .i64 In28) Hx35 fun Hx36 =>
 nilP p1 fun pa37 =>
 ldM (pa37.add 1) Hx36 fun marks38 =>
 evR PR (Instr.lookup ty_map_uint64_paint_mark (.map marks38) (.int .u64 serial2) false) Hx36 fun v39 =>
 agg2 v39 fun v40 v41 =>
 asI .i64 v40 fun rank42 =>
 asB v41 fun grey43 =>
 newB (.cells #[(.int .i64 0), (.bool false)] ty_paint_mark) Hx36 fun b44 Hx45 =>
 st ⟨b44, 0, none⟩ (.int .i64 rank42) Hx45 fun Hx46 =>
 st ⟨b44, 1, none⟩ (.bool grey43) Hx46 fun Hx47 =>
 (bif (!t29) then
 K (.bool false) Hx47
else
 ldB ⟨b44, 1, none⟩ Hx47 fun grey48 =>
 (bif (!grey48) then
 K (.bool false) Hx47
else
 nilP p1 fun pa49 =>
 ldM (pa49.add 1) Hx47 fun marks50 =>
 ldI .i64 ⟨b44, 0, none⟩ Hx47 fun rank51 =>
 evW PR (Instr.mapUpdate ty_map_uint64_paint_mark (.map marks50) (.int .u64 serial2) (.agg #[(.int .i64 rank51), (.bool false)])) Hx47 fun v52 Hx53 =>
 ldSl ⟨b30, 2, none⟩ Hx53 fun RefsP54 RefsL55 RefsC56 =>
 ∃ (I57 : Int → Hp → Prop) (m58 : Int → Hp → Nat), I57 0 Hx53 ∧ ∀ t60 : Int, ∀ Hx59 : Hp, I57 t60 Hx59 →
 (bif (decide ((t60 : Int) < (RefsL55 : Int))) then
 idxA RefsP54 RefsL55 t60 2 fun el61 =>
 ldI .i64 el61 Hx59 fun Node62 =>
 ldI .u64 (el61.add 1) Hx59 fun Serial63 =>
 newB (.cells #[(.int .i64 0), (.int .u64 0)] ty_api_ID) Hx59 fun b64 Hx65 =>
 st ⟨b64, 0, none⟩ (.int .i64 Node62) Hx65 fun Hx66 =>
 st ⟨b64, 1, none⟩ (.int .u64 Serial63) Hx66 fun Hx67 =>
 ldI .i64 ⟨b64, 0, none⟩ Hx67 fun Node68 =>
 ldI .u64 ⟨b64, 1, none⟩ Hx67 fun Serial69 =>
 ldI .i64 ⟨b44, 0, none⟩ Hx67 fun rank70 =>
 hcall PR f_paint_Paint_Shade ⟨[(.pointer p1), (.agg #[(.int .i64 Node68), (.int .u64 Serial69)]), (.int .i64 rank70)]⟩ Hx67 fun v71 Hx72 =>
 I57 (IntKind.i64.wrap (t60 + 1)) Hx72 ∧ m58 (IntKind.i64.wrap (t60 + 1)) Hx72 < m58 t60 Hx59
else
 K (.bool true) Hx59)))
theorem E_paint_Paint_Scan (p1 : Option Addr) (serial2 : Int) (H : Hp) (K : Value → Hp → Prop) : B_paint_Paint_Scan p1 serial2 H K = denF Tryz.prog Tryz.f44 (.seq none .n (.seq none .n (.seq none .n (.seq none .n (.seq none .n (.seq none (.seq none .n (.sub (.loop ⟨[(43, .int .i64)], [0, 7, 41, 42]⟩ .n))) .n)))))) [(.pointer p1), (.int .u64 serial2)] H K := by kernel_rfl
theorem den_paint_Paint_Scan {p1 : Option Addr} {serial2 : Int} {H : Hp} {K : Value → Hp → Prop} (h : B_paint_Paint_Scan p1 serial2 H K) : hcall PR f_paint_Paint_Scan ⟨[(.pointer p1), (.int .u64 serial2)]⟩ H K := denF_call Tryz.func44 PR_mixed (Eq.mp (E_paint_Paint_Scan p1 serial2 H K) h)

def B_paint_Paint_Pop (p1 : Option Addr) (H : Hp) (K : Value → Hp → Prop) : Prop :=
 nilP p1 fun pa2 =>
 ldP (pa2.add 3) H fun stack3 =>
 hcall PR f_grey_Stack_uint64_Pop ⟨[(.pointer stack3)]⟩ H fun v4 Hx5 =>
 tup2 v4 fun v6 v7 =>
 asI .u64 v6 fun t8 =>
 asB v7 fun t9 =>
 K (.tuple #[(.int .u64 t8), (.bool t9)]) Hx5
theorem E_paint_Paint_Pop (p1 : Option Addr) (H : Hp) (K : Value → Hp → Prop) : B_paint_Paint_Pop p1 H K = denF Tryz.prog Tryz.f46 .n [(.pointer p1)] H K := by kernel_rfl
theorem den_paint_Paint_Pop {p1 : Option Addr} {H : Hp} {K : Value → Hp → Prop} (h : B_paint_Paint_Pop p1 H K) : hcall PR f_paint_Paint_Pop ⟨[(.pointer p1)]⟩ H K := denF_call Tryz.func46 PR_mixed (Eq.mp (E_paint_Paint_Pop p1 H K) h)

def B_paint_Paint_Blacken (p1 : Option Addr) (serial2 : Int) (H : Hp) (K : Value → Hp → Prop) : Prop :=
 nilP p1 fun pa3 =>
 ldM (pa3.add 1) H fun marks4 =>
 evR PR (Instr.lookup ty_map_uint64_paint_mark (.map marks4) (.int .u64 serial2) true) H fun v5 =>
 tup2 v5 fun v6 v7 =>
 agg2 v6 fun v8 v9 =>
 asI .i64 v8 fun rank10 =>
 asB v9 fun grey11 =>
 asB v7 fun t12 =>
 newB (.cells #[(.int .i64 0), (.bool false)] ty_paint_mark) H fun b13 Hx14 =>
 st ⟨b13, 0, none⟩ (.int .i64 rank10) Hx14 fun Hx15 =>
 st ⟨b13, 1, none⟩ (.bool grey11) Hx15 fun Hx16 =>
 (bif (!t12) then
 hcall PR f_paint_Paint_there ⟨[(.pointer p1), (.int .u64 serial2)]⟩ Hx16 fun v17 Hx18 =>
 asB v17 fun t19 =>
 (bif t19 then
 nilP p1 fun pa20 =>
 ldM (pa20.add 1) Hx18 fun marks21 =>
 evW PR (Instr.mapUpdate ty_map_uint64_paint_mark (.map marks21) (.int .u64 serial2) (.agg #[(.int .i64 0), (.bool false)])) Hx18 fun v22 Hx23 =>
 K (.tuple #[]) Hx23
else
 K (.tuple #[]) Hx18)
else
 K (.tuple #[]) Hx16)
theorem E_paint_Paint_Blacken (p1 : Option Addr) (serial2 : Int) (H : Hp) (K : Value → Hp → Prop) : B_paint_Paint_Blacken p1 serial2 H K = denF Tryz.prog Tryz.f48 .n [(.pointer p1), (.int .u64 serial2)] H K := by kernel_rfl
theorem den_paint_Paint_Blacken {p1 : Option Addr} {serial2 : Int} {H : Hp} {K : Value → Hp → Prop} (h : B_paint_Paint_Blacken p1 serial2 H K) : hcall PR f_paint_Paint_Blacken ⟨[(.pointer p1), (.int .u64 serial2)]⟩ H K := denF_call Tryz.func48 PR_mixed (Eq.mp (E_paint_Paint_Blacken p1 serial2 H K) h)

def B_paint_Paint_Forget (p1 : Option Addr) (serial2 : Int) (H : Hp) (K : Value → Hp → Prop) : Prop :=
 nilP p1 fun pa3 =>
 ldM (pa3.add 1) H fun marks4 =>
 evW PR (Builtin.delete_ #[ty_map_uint64_paint_mark, ty_uint64] ty_ #[(.map marks4), (.int .u64 serial2)]) H fun v5 Hx6 =>
 K (.tuple #[]) Hx6
theorem E_paint_Paint_Forget (p1 : Option Addr) (serial2 : Int) (H : Hp) (K : Value → Hp → Prop) : B_paint_Paint_Forget p1 serial2 H K = denF Tryz.prog Tryz.f50 .n [(.pointer p1), (.int .u64 serial2)] H K := by kernel_rfl
theorem den_paint_Paint_Forget {p1 : Option Addr} {serial2 : Int} {H : Hp} {K : Value → Hp → Prop} (h : B_paint_Paint_Forget p1 serial2 H K) : hcall PR f_paint_Paint_Forget ⟨[(.pointer p1), (.int .u64 serial2)]⟩ H K := denF_call Tryz.func50 PR_mixed (Eq.mp (E_paint_Paint_Forget p1 serial2 H K) h)

def B_paint_Paint_Rest (p1 : Option Addr) (H : Hp) (K : Value → Hp → Prop) : Prop :=
 nilP p1 fun pa2 =>
 ldP (pa2.add 3) H fun stack3 =>
 hcall PR f_grey_Stack_uint64_Rest ⟨[(.pointer stack3)]⟩ H fun v4 Hx5 =>
 K (.tuple #[]) Hx5
theorem E_paint_Paint_Rest (p1 : Option Addr) (H : Hp) (K : Value → Hp → Prop) : B_paint_Paint_Rest p1 H K = denF Tryz.prog Tryz.f52 .n [(.pointer p1)] H K := by kernel_rfl
theorem den_paint_Paint_Rest {p1 : Option Addr} {H : Hp} {K : Value → Hp → Prop} (h : B_paint_Paint_Rest p1 H K) : hcall PR f_paint_Paint_Rest ⟨[(.pointer p1)]⟩ H K := denF_call Tryz.func52 PR_mixed (Eq.mp (E_paint_Paint_Rest p1 H K) h)

def B_paint_Paint_Turn (p1 : Option Addr) (H : Hp) (K : Value → Hp → Prop) : Prop :=
 nilP p1 fun pa2 =>
 ldI .u64 (pa2.add 4) H fun turns3 =>
 nilP p1 fun pa4 =>
 st (pa4.add 4) (.int .u64 (IntKind.u64.wrap (turns3 + 1))) H fun Hx5 =>
 newB (.map #[] 0) Hx5 fun b6 Hx7 =>
 nilP p1 fun pa8 =>
 st (pa8.add 1) (.map (some b6)) Hx7 fun Hx9 =>
 newB (.map #[] 0) Hx9 fun b10 Hx11 =>
 nilP p1 fun pa12 =>
 st (pa12.add 2) (.map (some b10)) Hx11 fun Hx13 =>
 nilP p1 fun pa14 =>
 ldP (pa14.add 3) Hx13 fun stack15 =>
 hcall PR f_grey_Stack_uint64_Clear ⟨[(.pointer stack15)]⟩ Hx13 fun v16 Hx17 =>
 K (.tuple #[]) Hx17
theorem E_paint_Paint_Turn (p1 : Option Addr) (H : Hp) (K : Value → Hp → Prop) : B_paint_Paint_Turn p1 H K = denF Tryz.prog Tryz.f53 .n [(.pointer p1)] H K := by kernel_rfl
theorem den_paint_Paint_Turn {p1 : Option Addr} {H : Hp} {K : Value → Hp → Prop} (h : B_paint_Paint_Turn p1 H K) : hcall PR f_paint_Paint_Turn ⟨[(.pointer p1)]⟩ H K := denF_call Tryz.func53 PR_mixed (Eq.mp (E_paint_Paint_Turn p1 H K) h)

def B_paint_Paint_Shade (p1 : Option Addr) (xNode2 : Int) (xSerial3 : Int) (rank4 : Int) (H : Hp) (K : Value → Hp → Prop) : Prop :=
 newB (.cells #[(.int .i64 xNode2), (.int .u64 xSerial3)] ty_api_ID) H fun b5 Hx6 =>
 ldI .i64 ⟨b5, 0, none⟩ Hx6 fun Node7 =>
 (bif (decide ((Node7 : Int) < 1)) then
 K (.tuple #[]) Hx6
else
 ldI .i64 ⟨b5, 0, none⟩ Hx6 fun Node8 =>
 (bif (decide ((Node8 : Int) > 64)) then
 K (.tuple #[]) Hx6
else
 ldI .u64 ⟨b5, 1, none⟩ Hx6 fun Serial9 =>
 (bif (decide ((Serial9 : Int) < 1)) then
 K (.tuple #[]) Hx6
else
 ldI .u64 ⟨b5, 1, none⟩ Hx6 fun Serial10 =>
 (bif (decide ((Serial10 : Int) > 72057594037927935)) then
 K (.tuple #[]) Hx6
else
 ldI .i64 ⟨b5, 0, none⟩ Hx6 fun Node11 =>
 nilP p1 fun pa12 =>
 ldP pa12 Hx6 fun h13 =>
 hcall PR f_heap_Heap_Node ⟨[(.pointer h13)]⟩ Hx6 fun v14 Hx15 =>
 asI .i64 v14 fun t16 =>
 (ldI .i64 ⟨b5, 0, none⟩ Hx15 fun Node17 =>
 ((.int .i64 Node17) : Value) = (.int .i64 Node11)) ∧
 (bif ((Node11 : Int) != t16) then
 nilP p1 fun pa18 =>
 ldM (pa18.add 2) Hx15 fun met19 =>
 ldI .i64 ⟨b5, 0, none⟩ Hx15 fun Node20 =>
 ldI .u64 ⟨b5, 1, none⟩ Hx15 fun Serial21 =>
 evR PR (Instr.lookup ty_map_api_ID_int (.map met19) (.agg #[(.int .i64 Node20), (.int .u64 Serial21)]) true) Hx15 fun v22 =>
 tup2 v22 fun v23 v24 =>
 asI .i64 v23 fun t25 =>
 asB v24 fun t26 =>
 (bif (!t26) then
 nilP p1 fun pa27 =>
 ldM (pa27.add 2) Hx15 fun met28 =>
 ldI .i64 ⟨b5, 0, none⟩ Hx15 fun Node29 =>
 ldI .u64 ⟨b5, 1, none⟩ Hx15 fun Serial30 =>
 evW PR (Instr.mapUpdate ty_map_api_ID_int (.map met28) (.agg #[(.int .i64 Node29), (.int .u64 Serial30)]) (.int .i64 (if 40 < (if rank4 < 0 then 0 else rank4) then 40 else (if rank4 < 0 then 0 else rank4)))) Hx15 fun v31 Hx32 =>
 K (.tuple #[]) Hx32
else
 (bif (decide (((if 40 < (if rank4 < 0 then 0 else rank4) then 40 else (if rank4 < 0 then 0 else rank4)) : Int) < t25)) then
 nilP p1 fun pa33 =>
 ldM (pa33.add 2) Hx15 fun met34 =>
 ldI .i64 ⟨b5, 0, none⟩ Hx15 fun Node35 =>
 ldI .u64 ⟨b5, 1, none⟩ Hx15 fun Serial36 =>
 evW PR (Instr.mapUpdate ty_map_api_ID_int (.map met34) (.agg #[(.int .i64 Node35), (.int .u64 Serial36)]) (.int .i64 (if 40 < (if rank4 < 0 then 0 else rank4) then 40 else (if rank4 < 0 then 0 else rank4)))) Hx15 fun v37 Hx38 =>
 K (.tuple #[]) Hx38
else
 K (.tuple #[]) Hx15))
else
 nilP p1 fun pa39 =>
 ldM (pa39.add 1) Hx15 fun marks40 =>
 ldI .u64 ⟨b5, 1, none⟩ Hx15 fun Serial41 =>
 evR PR (Instr.lookup ty_map_uint64_paint_mark (.map marks40) (.int .u64 Serial41) true) Hx15 fun v42 =>
 tup2 v42 fun v43 v44 =>
 agg2 v43 fun v45 v46 =>
 asI .i64 v45 fun rank47 =>
 asB v46 fun grey48 =>
 asB v44 fun t49 =>
 newB (.cells #[(.int .i64 0), (.bool false)] ty_paint_mark) Hx15 fun b50 Hx51 =>
 (evR PR (Instr.lookup ty_map_uint64_paint_mark (.map marks40) (.int .u64 Serial41) true) Hx51 fun v52 =>
 tup2 v52 fun v53 v54 =>
 agg2 v53 fun v55 v56 =>
 asI .i64 v55 fun rank57 =>
 asB v56 fun grey58 =>
 asB v54 fun t59 =>
 ((.tuple #[(.agg #[(.int .i64 rank57), (.bool grey58)]), (.bool t59)]) : Value) = (.tuple #[(.agg #[(.int .i64 rank47), (.bool grey48)]), (.bool t49)])) ∧
 (ldI .u64 ⟨b5, 1, none⟩ Hx51 fun Serial60 =>
 ((.int .u64 Serial60) : Value) = (.int .u64 Serial41)) ∧
 (ldM (pa39.add 1) Hx51 fun marks61 =>
 ((.map marks61) : Value) = (.map marks40)) ∧
 st ⟨b50, 0, none⟩ (.int .i64 rank47) Hx51 fun Hx62 =>
 st ⟨b50, 1, none⟩ (.bool grey48) Hx62 fun Hx63 =>
 ∀ R64 : Hp → Prop, (∀ Hx65 : Hp, (
 nilP p1 fun pa66 =>
 ldM (pa66.add 1) Hx65 fun marks67 =>
 ldI .u64 ⟨b5, 1, none⟩ Hx65 fun Serial68 =>
 evW PR (Instr.mapUpdate ty_map_uint64_paint_mark (.map marks67) (.int .u64 Serial68) (.agg #[(.int .i64 (if 40 < (if rank4 < 0 then 0 else rank4) then 40 else (if rank4 < 0 then 0 else rank4))), (.bool true)])) Hx65 fun v69 Hx70 =>
 ldB ⟨b50, 1, none⟩ Hx70 fun grey71 =>
 (bif (!grey71) then
 nilP p1 fun pa72 =>
 ldP (pa72.add 3) Hx70 fun stack73 =>
 ldI .u64 ⟨b5, 1, none⟩ Hx70 fun Serial74 =>
 hcall PR f_grey_Stack_uint64_Push ⟨[(.pointer stack73), (.int .u64 Serial74)]⟩ Hx70 fun v75 Hx76 =>
 asB v75 fun t77 =>
 K (.tuple #[]) Hx76
else
 K (.tuple #[]) Hx70)) → R64 Hx65) →
 ldI .u64 ⟨b5, 1, none⟩ Hx63 fun Serial78 =>
 hcall PR f_paint_Paint_there ⟨[(.pointer p1), (.int .u64 Serial78)]⟩ Hx63 fun v79 Hx80 =>
 asB v79 fun t81 =>
 (bif (!t81) then
 K (.tuple #[]) Hx80
else
 (bif t49 then
 ldI .i64 ⟨b50, 0, none⟩ Hx80 fun rank82 =>
 (bif (decide ((rank82 : Int) ≤ (if 40 < (if rank4 < 0 then 0 else rank4) then 40 else (if rank4 < 0 then 0 else rank4)))) then
 K (.tuple #[]) Hx80
else
 R64 Hx80)
else
 R64 Hx80)))))))
theorem E_paint_Paint_Shade (p1 : Option Addr) (xNode2 : Int) (xSerial3 : Int) (rank4 : Int) (H : Hp) (K : Value → Hp → Prop) : B_paint_Paint_Shade p1 xNode2 xSerial3 rank4 H K = denF Tryz.prog Tryz.f57 (.seq none .n (.seq none .n (.seq none .n (.seq none .n (.seq none .n (.seq (some ⟨[], [0, 2, 4, 8]⟩) .n .n)))))) [(.pointer p1), (.agg #[(.int .i64 xNode2), (.int .u64 xSerial3)]), (.int .i64 rank4)] H K := by kernel_rfl
theorem den_paint_Paint_Shade {p1 : Option Addr} {xNode2 : Int} {xSerial3 : Int} {rank4 : Int} {H : Hp} {K : Value → Hp → Prop} (h : B_paint_Paint_Shade p1 xNode2 xSerial3 rank4 H K) : hcall PR f_paint_Paint_Shade ⟨[(.pointer p1), (.agg #[(.int .i64 xNode2), (.int .u64 xSerial3)]), (.int .i64 rank4)]⟩ H K := denF_call Tryz.func57 PR_mixed (Eq.mp (E_paint_Paint_Shade p1 xNode2 xSerial3 rank4 H K) h)

def B_paint_Paint_Mark (p1 : Option Addr) (serial2 : Int) (H : Hp) (K : Value → Hp → Prop) : Prop :=
 nilP p1 fun pa3 =>
 ldM (pa3.add 1) H fun marks4 =>
 evR PR (Instr.lookup ty_map_uint64_paint_mark (.map marks4) (.int .u64 serial2) true) H fun v5 =>
 tup2 v5 fun v6 v7 =>
 agg2 v6 fun v8 v9 =>
 asI .i64 v8 fun rank10 =>
 asB v9 fun grey11 =>
 asB v7 fun t12 =>
 newB (.cells #[(.int .i64 0), (.bool false)] ty_paint_mark) H fun b13 Hx14 =>
 st ⟨b13, 0, none⟩ (.int .i64 rank10) Hx14 fun Hx15 =>
 st ⟨b13, 1, none⟩ (.bool grey11) Hx15 fun Hx16 =>
 (bif (!t12) then
 K (.tuple #[(.int .i64 0), (.bool false), (.bool false)]) Hx16
else
 hcall PR f_paint_Paint_there ⟨[(.pointer p1), (.int .u64 serial2)]⟩ Hx16 fun v17 Hx18 =>
 asB v17 fun t19 =>
 (bif (!t19) then
 K (.tuple #[(.int .i64 0), (.bool false), (.bool false)]) Hx18
else
 ldI .i64 ⟨b13, 0, none⟩ Hx18 fun rank20 =>
 ldB ⟨b13, 1, none⟩ Hx18 fun grey21 =>
 K (.tuple #[(.int .i64 rank20), (.bool grey21), (.bool true)]) Hx18))
theorem E_paint_Paint_Mark (p1 : Option Addr) (serial2 : Int) (H : Hp) (K : Value → Hp → Prop) : B_paint_Paint_Mark p1 serial2 H K = denF Tryz.prog Tryz.f90 .n [(.pointer p1), (.int .u64 serial2)] H K := by kernel_rfl
theorem den_paint_Paint_Mark {p1 : Option Addr} {serial2 : Int} {H : Hp} {K : Value → Hp → Prop} (h : B_paint_Paint_Mark p1 serial2 H K) : hcall PR f_paint_Paint_Mark ⟨[(.pointer p1), (.int .u64 serial2)]⟩ H K := denF_call Tryz.func90 PR_mixed (Eq.mp (E_paint_Paint_Mark p1 serial2 H K) h)

def B_paint_Paint_Outs (p1 : Option Addr) (H : Hp) (K : Value → Hp → Prop) : Prop :=
 nilP p1 fun pa2 =>
 ldM (pa2.add 2) H fun met3 =>
 evW PR (Instr.range ty_map_api_ID_int (.map met3)) H fun v4 Hx5 =>
 asA v4 fun it6 =>
 ∃ (I7 : Option Addr → Nat → Nat → Hp → Prop) (m8 : Option Addr → Nat → Nat → Hp → Nat), I7 none 0 0 Hx5 ∧ ∀ outP10 : Option Addr, ∀ outL11 : Nat, ∀ outC12 : Nat, ∀ Hx9 : Hp, I7 outP10 outL11 outC12 Hx9 →
 ∀ R13 : Bool → Hp → Prop, (∀ t15 : Bool, ∀ Hx14 : Hp, (
 (bif t15 then
 evW PR (Instr.entry (.pointer (some it6))) Hx14 fun en16 Hx17 =>
 extractD en16 0 fun v18 =>
 agg2 v18 fun v19 v20 =>
 asI .i64 v19 fun Node21 =>
 asI .u64 v20 fun Serial22 =>
 extractD en16 1 fun v23 =>
 asI .i64 v23 fun t24 =>
 newB (.cells #[(.int .i64 0), (.int .u64 0)] ty_api_ID) Hx17 fun b25 Hx26 =>
 st ⟨b25, 0, none⟩ (.int .i64 Node21) Hx26 fun Hx27 =>
 st ⟨b25, 1, none⟩ (.int .u64 Serial22) Hx27 fun Hx28 =>
 ldI .i64 ⟨b25, 0, none⟩ Hx28 fun Node29 =>
 ldI .u64 ⟨b25, 1, none⟩ Hx28 fun Serial30 =>
 newB (.cells #[(.int .i64 Node29), (.int .u64 Serial30), (.int .i64 t24)] ty_api_Out) Hx28 fun b31 Hx32 =>
 evW PR (Builtin.append_ #[ty_Sapi_Out, ty_Sapi_Out] ty_Sapi_Out #[(.slice outP10 outL11 outC12), (.slice (some ⟨b31, 0, none⟩) 1 1)]) Hx32 fun v33 Hx34 =>
 asSl v33 fun tP35 tL36 tC37 =>
 I7 tP35 tL36 tC37 Hx34 ∧ m8 tP35 tL36 tC37 Hx34 < m8 outP10 outL11 outC12 Hx9
else
 hcall PR f_slices_SortFunc_Sapi_Out_api_Out ⟨[(.slice outP10 outL11 outC12), (.func (.func f_paint_Paint_Outs_1) #[] #[])]⟩ Hx14 fun v38 Hx39 =>
 K (.slice outP10 outL11 outC12) Hx39)) → R13 t15 Hx14) →
 evW PR (Instr.next (.pointer (some it6)) false 0) Hx9 fun nx40 Hx41 =>
 nextC nx40 (
 R13 false Hx41) fun k42 x43 =>
 R13 true Hx41
theorem E_paint_Paint_Outs (p1 : Option Addr) (H : Hp) (K : Value → Hp → Prop) : B_paint_Paint_Outs p1 H K = denF Tryz.prog Tryz.f91 (.seq none .n (.seq none .n (.seq none (.seq none .n (.sub (.loop ⟨[(3, .sl)], [10]⟩ (.seq (some ⟨[(12, .bool)], [3, 10]⟩) .n .n)))) .n))) [(.pointer p1)] H K := by kernel_rfl
theorem den_paint_Paint_Outs {p1 : Option Addr} {H : Hp} {K : Value → Hp → Prop} (h : B_paint_Paint_Outs p1 H K) : hcall PR f_paint_Paint_Outs ⟨[(.pointer p1)]⟩ H K := denF_call Tryz.func91 PR_mixed (Eq.mp (E_paint_Paint_Outs p1 H K) h)

def B_paint_Paint_there (p1 : Option Addr) (serial2 : Int) (H : Hp) (K : Value → Hp → Prop) : Prop :=
 nilP p1 fun pa3 =>
 ldP pa3 H fun h4 =>
 hcall PR f_heap_Heap_Object ⟨[(.pointer h4), (.int .u64 serial2)]⟩ H fun v5 Hx6 =>
 tup2 v5 fun v7 v8 =>
 asAgg' v7 fun cs9 =>
 unCons cs9.toList fun v10 r11 =>
 unCons r11 fun v12 r13 =>
 unCons r13 fun v14 r15 =>
 unCons r15 fun v16 r17 =>
 unCons r17 fun v18 r19 =>
 unNil r19 <|
 asI .u64 v10 fun Serial20 =>
 asI .i64 v12 fun Cell21 =>
 asSl v14 fun RefsP22 RefsL23 RefsC24 =>
 asSl v16 fun ValsP25 ValsL26 ValsC27 =>
 asI .i64 v18 fun In28 =>
 asB v8 fun t29 =>
 newB (.cells #[(.int .u64 0), (.int .i64 0), (.slice none 0 0), (.slice none 0 0), (.int .i64 0)] ty_api_Object) Hx6 fun b30 Hx31 =>
 st ⟨b30, 0, none⟩ (.int .u64 Serial20) Hx31 fun Hx32 =>
 st ⟨b30, 1, none⟩ (.int .i64 Cell21) Hx32 fun Hx33 =>
 st ⟨b30, 2, none⟩ (.slice RefsP22 RefsL23 RefsC24) Hx33 fun Hx34 =>
 st ⟨b30, 3, none⟩ (.slice ValsP25 ValsL26 ValsC27) Hx34 fun Hx35 =>
 st ⟨b30, 4, none⟩ (.int .i64 In28) Hx35 fun Hx36 =>
 K (.bool t29) Hx36
theorem E_paint_Paint_there (p1 : Option Addr) (serial2 : Int) (H : Hp) (K : Value → Hp → Prop) : B_paint_Paint_there p1 serial2 H K = denF Tryz.prog Tryz.f123 .n [(.pointer p1), (.int .u64 serial2)] H K := by kernel_rfl
theorem den_paint_Paint_there {p1 : Option Addr} {serial2 : Int} {H : Hp} {K : Value → Hp → Prop} (h : B_paint_Paint_there p1 serial2 H K) : hcall PR f_paint_Paint_there ⟨[(.pointer p1), (.int .u64 serial2)]⟩ H K := denF_call Tryz.func123 PR_mixed (Eq.mp (E_paint_Paint_there p1 serial2 H K) h)

def B_paint_Paint_Met (p1 : Option Addr) (xNode2 : Int) (xSerial3 : Int) (H : Hp) (K : Value → Hp → Prop) : Prop :=
 newB (.cells #[(.int .i64 xNode2), (.int .u64 xSerial3)] ty_api_ID) H fun b4 Hx5 =>
 nilP p1 fun pa6 =>
 ldM (pa6.add 2) Hx5 fun met7 =>
 ldI .i64 ⟨b4, 0, none⟩ Hx5 fun Node8 =>
 ldI .u64 ⟨b4, 1, none⟩ Hx5 fun Serial9 =>
 evR PR (Instr.lookup ty_map_api_ID_int (.map met7) (.agg #[(.int .i64 Node8), (.int .u64 Serial9)]) true) Hx5 fun v10 =>
 tup2 v10 fun v11 v12 =>
 asI .i64 v11 fun t13 =>
 asB v12 fun t14 =>
 K (.tuple #[(.int .i64 t13), (.bool t14)]) Hx5
theorem E_paint_Paint_Met (p1 : Option Addr) (xNode2 : Int) (xSerial3 : Int) (H : Hp) (K : Value → Hp → Prop) : B_paint_Paint_Met p1 xNode2 xSerial3 H K = denF Tryz.prog Tryz.f135 .n [(.pointer p1), (.agg #[(.int .i64 xNode2), (.int .u64 xSerial3)])] H K := by kernel_rfl
theorem den_paint_Paint_Met {p1 : Option Addr} {xNode2 : Int} {xSerial3 : Int} {H : Hp} {K : Value → Hp → Prop} (h : B_paint_Paint_Met p1 xNode2 xSerial3 H K) : hcall PR f_paint_Paint_Met ⟨[(.pointer p1), (.agg #[(.int .i64 xNode2), (.int .u64 xSerial3)])]⟩ H K := denF_call Tryz.func135 PR_mixed (Eq.mp (E_paint_Paint_Met p1 xNode2 xSerial3 H K) h)

def B_paint_Paint_Over (p1 : Option Addr) (H : Hp) (K : Value → Hp → Prop) : Prop :=
 nilP p1 fun pa2 =>
 ldP (pa2.add 3) H fun stack3 =>
 hcall PR f_grey_Stack_uint64_Over ⟨[(.pointer stack3)]⟩ H fun v4 Hx5 =>
 asB v4 fun t6 =>
 K (.bool t6) Hx5
theorem E_paint_Paint_Over (p1 : Option Addr) (H : Hp) (K : Value → Hp → Prop) : B_paint_Paint_Over p1 H K = denF Tryz.prog Tryz.f137 .n [(.pointer p1)] H K := by kernel_rfl
theorem den_paint_Paint_Over {p1 : Option Addr} {H : Hp} {K : Value → Hp → Prop} (h : B_paint_Paint_Over p1 H K) : hcall PR f_paint_Paint_Over ⟨[(.pointer p1)]⟩ H K := denF_call Tryz.func137 PR_mixed (Eq.mp (E_paint_Paint_Over p1 H K) h)

def B_paint_Paint_Outs_1 (aNode1 : Int) (aSerial2 : Int) (aRank3 : Int) (bNode4 : Int) (bSerial5 : Int) (bRank6 : Int) (H : Hp) (K : Value → Hp → Prop) : Prop :=
 newB (.cells #[(.int .i64 aNode1), (.int .u64 aSerial2), (.int .i64 aRank3)] ty_api_Out) H fun b7 Hx8 =>
 newB (.cells #[(.int .i64 bNode4), (.int .u64 bSerial5), (.int .i64 bRank6)] ty_api_Out) Hx8 fun b9 Hx10 =>
 ldI .i64 ⟨b7, 0, none⟩ Hx10 fun Node11 =>
 ldI .u64 ⟨b7, 1, none⟩ Hx10 fun Serial12 =>
 ldI .i64 ⟨b9, 0, none⟩ Hx10 fun Node13 =>
 ldI .u64 ⟨b9, 1, none⟩ Hx10 fun Serial14 =>
 hcall PR f_api_Key ⟨[(.agg #[(.int .i64 Node11), (.int .u64 Serial12)])]⟩ Hx10 fun v15 Hx16 =>
 asI .u64 v15 fun t17 =>
 (ldI .i64 ⟨b9, 0, none⟩ Hx16 fun Node18 =>
 ldI .u64 ⟨b9, 1, none⟩ Hx16 fun Serial19 =>
 ((.agg #[(.int .i64 Node18), (.int .u64 Serial19)]) : Value) = (.agg #[(.int .i64 Node13), (.int .u64 Serial14)])) ∧
 hcall PR f_api_Key ⟨[(.agg #[(.int .i64 Node13), (.int .u64 Serial14)])]⟩ Hx16 fun v20 Hx21 =>
 asI .u64 v20 fun t22 =>
 (bif (decide ((t17 : Int) < t22)) then
 K (.int .i64 (-1)) Hx21
else
 K (.int .i64 1) Hx21)
theorem E_paint_Paint_Outs_1 (aNode1 : Int) (aSerial2 : Int) (aRank3 : Int) (bNode4 : Int) (bSerial5 : Int) (bRank6 : Int) (H : Hp) (K : Value → Hp → Prop) : B_paint_Paint_Outs_1 aNode1 aSerial2 aRank3 bNode4 bSerial5 bRank6 H K = denF Tryz.prog Tryz.f157 .n [(.agg #[(.int .i64 aNode1), (.int .u64 aSerial2), (.int .i64 aRank3)]), (.agg #[(.int .i64 bNode4), (.int .u64 bSerial5), (.int .i64 bRank6)])] H K := by kernel_rfl
theorem den_paint_Paint_Outs_1 {aNode1 : Int} {aSerial2 : Int} {aRank3 : Int} {bNode4 : Int} {bSerial5 : Int} {bRank6 : Int} {H : Hp} {K : Value → Hp → Prop} (h : B_paint_Paint_Outs_1 aNode1 aSerial2 aRank3 bNode4 bSerial5 bRank6 H K) : hcall PR f_paint_Paint_Outs_1 ⟨[(.agg #[(.int .i64 aNode1), (.int .u64 aSerial2), (.int .i64 aRank3)]), (.agg #[(.int .i64 bNode4), (.int .u64 bSerial5), (.int .i64 bRank6)])]⟩ H K := denF_call Tryz.func157 PR_mixed (Eq.mp (E_paint_Paint_Outs_1 aNode1 aSerial2 aRank3 bNode4 bSerial5 bRank6 H K) h)

end Go.Proofs.YtojcacejgbnfkaaGreat

namespace Go.Proofs.YtojcacejgbnfkaaGreat
open Go
set_option linter.unusedVariables false
set_option maxRecDepth 100000
def B_grey_New_uint64 (most1 : Int) (H : Hp) (K : Value → Hp → Prop) : Prop :=
 (bif (decide ((most1 : Int) < 1)) then
 K (.tuple #[(.pointer none), (.int .i64 1)]) H
else
 (bif (decide ((most1 : Int) > 64)) then
 K (.tuple #[(.pointer none), (.int .i64 1)]) H
else
 newB (.cells #[(.slice none 0 0), (.int .i64 most1), (.bool false)] ty_grey_Stack_uint64) H fun b2 Hx3 =>
 K (.tuple #[(.pointer (some ⟨b2, 0, none⟩)), (.int .i64 0)]) Hx3))
theorem E_grey_New_uint64 (most1 : Int) (H : Hp) (K : Value → Hp → Prop) : B_grey_New_uint64 most1 H K = denF Tryz.prog Tryz.f119 .n [(.int .i64 most1)] H K := by kernel_rfl
theorem den_grey_New_uint64 {most1 : Int} {H : Hp} {K : Value → Hp → Prop} (h : B_grey_New_uint64 most1 H K) : hcall PR f_grey_New_uint64 ⟨[(.int .i64 most1)]⟩ H K := denF_call Tryz.func119 PR_mixed (Eq.mp (E_grey_New_uint64 most1 H K) h)

def B_grey_Stack_uint64_Pop (s1 : Option Addr) (H : Hp) (K : Value → Hp → Prop) : Prop :=
 nilP s1 fun sa2 =>
 ldSl sa2 H fun rowP3 rowL4 rowC5 =>
 (bif (((rowL4 : Int) : Int) == 0) then
 K (.tuple #[(.int .u64 0), (.bool false)]) H
else
 nilP s1 fun sa6 =>
 ldSl sa6 H fun rowP7 rowL8 rowC9 =>
 nilP s1 fun sa10 =>
 ldSl sa10 H fun rowP11 rowL12 rowC13 =>
 idxA rowP11 rowL12 (IntKind.i64.wrap ((rowL8 : Int) - 1)) 1 fun el14 =>
 ldI .u64 el14 H fun t15 =>
 nilP s1 fun sa16 =>
 ldSl sa16 H fun rowP17 rowL18 rowC19 =>
 slcD rowP17 rowL18 rowC19 none (some (IntKind.i64.wrap ((rowL8 : Int) - 1))) 1 fun sP20 sL21 sC22 =>
 nilP s1 fun sa23 =>
 st sa23 (.slice sP20 sL21 sC22) H fun Hx24 =>
 K (.tuple #[(.int .u64 t15), (.bool true)]) Hx24)
theorem E_grey_Stack_uint64_Pop (s1 : Option Addr) (H : Hp) (K : Value → Hp → Prop) : B_grey_Stack_uint64_Pop s1 H K = denF Tryz.prog Tryz.f122 .n [(.pointer s1)] H K := by kernel_rfl
theorem den_grey_Stack_uint64_Pop {s1 : Option Addr} {H : Hp} {K : Value → Hp → Prop} (h : B_grey_Stack_uint64_Pop s1 H K) : hcall PR f_grey_Stack_uint64_Pop ⟨[(.pointer s1)]⟩ H K := denF_call Tryz.func122 PR_mixed (Eq.mp (E_grey_Stack_uint64_Pop s1 H K) h)

def B_grey_Stack_uint64_Rest (s1 : Option Addr) (H : Hp) (K : Value → Hp → Prop) : Prop :=
 nilP s1 fun sa2 =>
 st (sa2.add 2) (.bool false) H fun Hx3 =>
 K (.tuple #[]) Hx3
theorem E_grey_Stack_uint64_Rest (s1 : Option Addr) (H : Hp) (K : Value → Hp → Prop) : B_grey_Stack_uint64_Rest s1 H K = denF Tryz.prog Tryz.f124 .n [(.pointer s1)] H K := by kernel_rfl
theorem den_grey_Stack_uint64_Rest {s1 : Option Addr} {H : Hp} {K : Value → Hp → Prop} (h : B_grey_Stack_uint64_Rest s1 H K) : hcall PR f_grey_Stack_uint64_Rest ⟨[(.pointer s1)]⟩ H K := denF_call Tryz.func124 PR_mixed (Eq.mp (E_grey_Stack_uint64_Rest s1 H K) h)

def B_grey_Stack_uint64_Clear (s1 : Option Addr) (H : Hp) (K : Value → Hp → Prop) : Prop :=
 nilP s1 fun sa2 =>
 st sa2 (.slice none 0 0) H fun Hx3 =>
 nilP s1 fun sa4 =>
 st (sa4.add 2) (.bool false) Hx3 fun Hx5 =>
 K (.tuple #[]) Hx5
theorem E_grey_Stack_uint64_Clear (s1 : Option Addr) (H : Hp) (K : Value → Hp → Prop) : B_grey_Stack_uint64_Clear s1 H K = denF Tryz.prog Tryz.f125 .n [(.pointer s1)] H K := by kernel_rfl
theorem den_grey_Stack_uint64_Clear {s1 : Option Addr} {H : Hp} {K : Value → Hp → Prop} (h : B_grey_Stack_uint64_Clear s1 H K) : hcall PR f_grey_Stack_uint64_Clear ⟨[(.pointer s1)]⟩ H K := denF_call Tryz.func125 PR_mixed (Eq.mp (E_grey_Stack_uint64_Clear s1 H K) h)

def B_grey_Stack_uint64_Push (s1 : Option Addr) (x2 : Int) (H : Hp) (K : Value → Hp → Prop) : Prop :=
 nilP s1 fun sa3 =>
 ldSl sa3 H fun rowP4 rowL5 rowC6 =>
 nilP s1 fun sa7 =>
 ldI .i64 (sa7.add 1) H fun most8 =>
 (bif (decide (((rowL5 : Int) : Int) ≥ most8)) then
 nilP s1 fun sa9 =>
 st (sa9.add 2) (.bool true) H fun Hx10 =>
 K (.bool false) Hx10
else
 nilP s1 fun sa11 =>
 ldSl sa11 H fun rowP12 rowL13 rowC14 =>
 newB (.cells #[(.int .u64 x2)] ty_uint64) H fun b15 Hx16 =>
 evW PR (Builtin.append_ #[ty_Suint64, ty_Suint64] ty_Suint64 #[(.slice rowP12 rowL13 rowC14), (.slice (some ⟨b15, 0, none⟩) 1 1)]) Hx16 fun v17 Hx18 =>
 asSl v17 fun tP19 tL20 tC21 =>
 nilP s1 fun sa22 =>
 st sa22 (.slice tP19 tL20 tC21) Hx18 fun Hx23 =>
 K (.bool true) Hx23)
theorem E_grey_Stack_uint64_Push (s1 : Option Addr) (x2 : Int) (H : Hp) (K : Value → Hp → Prop) : B_grey_Stack_uint64_Push s1 x2 H K = denF Tryz.prog Tryz.f128 .n [(.pointer s1), (.int .u64 x2)] H K := by kernel_rfl
theorem den_grey_Stack_uint64_Push {s1 : Option Addr} {x2 : Int} {H : Hp} {K : Value → Hp → Prop} (h : B_grey_Stack_uint64_Push s1 x2 H K) : hcall PR f_grey_Stack_uint64_Push ⟨[(.pointer s1), (.int .u64 x2)]⟩ H K := denF_call Tryz.func128 PR_mixed (Eq.mp (E_grey_Stack_uint64_Push s1 x2 H K) h)

def B_grey_Stack_uint64_Over (s1 : Option Addr) (H : Hp) (K : Value → Hp → Prop) : Prop :=
 nilP s1 fun sa2 =>
 ldB (sa2.add 2) H fun over3 =>
 K (.bool over3) H
theorem E_grey_Stack_uint64_Over (s1 : Option Addr) (H : Hp) (K : Value → Hp → Prop) : B_grey_Stack_uint64_Over s1 H K = denF Tryz.prog Tryz.f180 .n [(.pointer s1)] H K := by kernel_rfl
theorem den_grey_Stack_uint64_Over {s1 : Option Addr} {H : Hp} {K : Value → Hp → Prop} (h : B_grey_Stack_uint64_Over s1 H K) : hcall PR f_grey_Stack_uint64_Over ⟨[(.pointer s1)]⟩ H K := denF_call Tryz.func180 PR_mixed (Eq.mp (E_grey_Stack_uint64_Over s1 H K) h)

end Go.Proofs.YtojcacejgbnfkaaGreat

namespace Go.Proofs.YtojcacejgbnfkaaGreat
set_option linter.unusedSimpArgs false
set_option linter.unusedVariables false
open Go
def markV (m : Int × Bool) : Value := .agg #[.int .i64 m.1, .bool m.2]
structure PtX where
  mm : Nat
  me : Nat
  g : Nat
  sp : Option Addr
  sc : Nat
  T : Nat
  T2 : Nat
def paintParts (pb hb : Nat) (p : Ps) (x : PtX) : List Prt :=
  [Prt.one pb (.cells #[ptrV hb, .map (some x.mm), .map (some x.me), ptrV x.g, .int .u64 p.turns] x.T (0, 0)), Prt.mp x.mm (ments (Value.int .u64) markV p.marks), Prt.mp x.me (ments Id.val (Value.int .i64) p.met),
    Prt.one x.g (.cells #[.slice x.sp p.stack.length x.sc, .int .i64 p.most, .bool p.over] x.T2 (0, 0)), Prt.row 1 x.sp p.stack.length x.sc (p.stack.map (Value.int .u64)), Prt.pure p.ok]
/-- A paint of a heap, as it stands. -/
def PaintP (pb hb : Nat) (p : Ps) : Prt := Prt.ex fun x => Prt.list (paintParts pb hb p x)

theorem idKey : KeyK PR ty_api_ID Id.val := KeyK.ints (g := fun a : Id => [a.n, a.s]) id_ints (fun _ => rfl) fun a b h => by
  simp only [List.cons.injEq, and_true] at h
  exact Id.ext h.1 h.2
theorem mm_map : PR.underlying ty_map_uint64_paint_mark = some (.map ty_uint64 ty_paint_mark) := by kernel_rfl
theorem me_map : PR.underlying ty_map_api_ID_int = some (.map ty_api_ID ty_int) := by kernel_rfl
theorem mm_zero : ((PR.info? ty_paint_mark).bind (·.zero)) = some (.agg #[.int .i64 0, .bool false]) := by kernel_rfl
theorem me_zero : ((PR.info? ty_int).bind (·.zero)) = some (.int .i64 0) := by kernel_rfl

section
variable {H0 H : Hp} {L M : List Prt} {i j hb pb : Nat} {s : Hs} {p : Ps} {x : PtX} {K : Value → Hp → Prop}
theorem paintTake (h : St H0 L H) (hj : L[j]? = some (PaintP pb hb p)) : ∃ x M, St H0 (paintParts pb hb p x ++ M) H ∧ p.ok ∧ (∀ i A, L[i]? = some A → i ≠ j → M[i]? = some A) ∧ ∀ p' x' H', St H0 (paintParts pb hb p' x' ++ M) H' → St H0 (L.set j (PaintP pb hb p')) H' := by
  obtain ⟨x, h1⟩ := h.openEx hj
  refine ⟨x, _, h1, h1.fact (i := 5) rfl, fun i A hi hij => ?_, fun p' x' H' h' => h'.shutEx (M := paintParts pb hb p') x' hj⟩
  rw [List.getElem?_set_ne (Ne.symm hij)]
  exact hi
theorem St.shutExN {α : Type} {A : α → List Prt} {L' N : List Prt} {B : Prt} (x : α) (h : St H0 (N ++ (A x ++ L'.set i .nil)) H) (hi : L'[i]? = some B) : St H0 (N ++ L'.set i (Prt.ex fun x => Prt.list (A x))) H := by
  have hlt : i < L'.length := by
    rcases Nat.lt_or_ge i L'.length with h | h
    · exact h
    · rw [List.getElem?_eq_none h] at hi; cases hi
  have h1 : St H0 (A x ++ (L' ++ N).set i .nil) H := by
    rw [List.set_append_left _ _ hlt]
    refine h.perm (List.perm_append_comm.trans ?_)
    rw [List.append_assoc]
  have h2 := St.shutEx (L' := L' ++ N) x h1 (B := B) (by rw [List.getElem?_append_left hlt]; exact hi)
  rw [List.set_append_left _ _ hlt] at h2
  exact h2.perm List.perm_append_comm
theorem paintTakeN (h : St H0 L H) (hj : L[j]? = some (PaintP pb hb p)) : ∃ x M, St H0 (paintParts pb hb p x ++ M) H ∧ p.ok ∧ (∀ i A, L[i]? = some A → i ≠ j → M[i]? = some A) ∧ ∀ N p' x' H', St H0 (N ++ (paintParts pb hb p' x' ++ M)) H' → St H0 (N ++ L.set j (PaintP pb hb p')) H' := by
  obtain ⟨x, h1⟩ := h.openEx hj
  refine ⟨x, _, h1, h1.fact (i := 5) rfl, fun i A hi hij => ?_, fun N p' x' H' h' => St.shutExN (A := paintParts pb hb p') (N := N) x' h' hj⟩
  rw [List.getElem?_set_ne (Ne.symm hij)]
  exact hi
theorem paint_ok (h : St H0 L H) (hj : L[j]? = some (PaintP pb hb p)) : p.ok := let ⟨_, _, _, h, _⟩ := paintTake h hj; h

/-- Onto the stack. -/
theorem gPushC {g T sc : Nat} {sp : Option Addr} {st : List Int} {most k : Int} {over : Bool} (h : St H0 L H) (hi : L[i]? = some (Prt.one g (.cells #[.slice sp st.length sc, .int .i64 most, .bool over] T (0, 0)))) (hr : L[j]? = some (Prt.row 1 sp st.length sc (st.map (Value.int .u64))))
    (hij : i ≠ j) (hm : most ≤ 64) (h1 : most ≤ st.length → ∀ H', St H0 (L.set i (Prt.one g (.cells #[.slice sp st.length sc, .int .i64 most, .bool true] T (0, 0)))) H' → K (.bool false) H')
    (h2 : (st.length : Int) < most → ∀ sp' sc' H', St H0 ((L.set j (Prt.row 1 sp' (st ++ [k]).length sc' ((st ++ [k]).map (Value.int .u64)))).set i (Prt.one g (.cells #[.slice sp' (st ++ [k]).length sc', .int .i64 most, .bool over] T (0, 0)))) H' → K (.bool true) H') :
    hcall PR f_grey_Stack_uint64_Push ⟨[.pointer (some ⟨g, 0, none⟩), .int .u64 k]⟩ H K := by
  apply den_grey_Stack_uint64_Push
  unfold B_grey_Stack_uint64_Push
  simp only [asI_mk', asB_mk, asP_mk, asA_mk, asM_mk, asSl_mk, asStr_mk, tup2_mk, tup3_mk, agg1_mk, agg2_mk, agg3_mk, agg4_mk, asAggm, unCons_mk, unNil_mk, asTup_mk, extractD0, extractD1, List.toList_toArray, nilP_mk, add_mk, Nat.zero_add, Nat.add_zero, condT, condF, Bool.not_true, Bool.not_false, Option.isNone_some, Option.isNone_none]
  refine ldSl_of (h.cell hi rfl) (ldI_of (h.cell hi rfl) ?_)
  by_cases hf : (st.length : Int) ≥ most
  · refine bif_pos hf (h.put hi (by simp) fun H' h' => h1 hf H' h')
  · refine bif_neg hf (ldSl_of (h.cell hi rfl) ?_)
    refine lit_ty_Suint64 (m := 1) (c := #[.int .u64 k]) (h.row_own hr) rfl (by intro y hy; simp at hy; rw [hy]; rfl) (by omega) fun p' cap' H' ho hg => ?_
    simp only [asI_mk', asB_mk, asP_mk, asA_mk, asM_mk, asSl_mk, asStr_mk, tup2_mk, tup3_mk, agg1_mk, agg2_mk, agg3_mk, agg4_mk, asAggm, unCons_mk, unNil_mk, asTup_mk, extractD0, extractD1, List.toList_toArray, nilP_mk, add_mk, Nat.zero_add, Nat.add_zero, condT, condF, Bool.not_true, Bool.not_false, Option.isNone_some, Option.isNone_none]
    have h3 := h.row_to hr ho hg
    rw [show (st.map (Value.int .u64)) ++ (#[Value.int .u64 k] : Array Value).toList = (st ++ [k]).map (Value.int .u64) by simp, show st.length + 1 = (st ++ [k]).length by simp] at h3
    rw [show st.length + 1 = (st ++ [k]).length by simp]
    have hi3 : (L.set j (Prt.row 1 p' (st ++ [k]).length cap' ((st ++ [k]).map (Value.int .u64))))[i]? = some (Prt.one g (.cells #[.slice sp st.length sc, .int .i64 most, .bool over] T (0, 0))) := by rw [List.getElem?_set_ne (Ne.symm hij)]; exact hi
    exact h3.put hi3 (by simp) fun H4 h4 => h2 (by omega) _ _ H4 h4
theorem gPopC {g T sc : Nat} {sp : Option Addr} {st : List Int} {most : Int} {over : Bool} (h : St H0 L H) (hi : L[i]? = some (Prt.one g (.cells #[.slice sp st.length sc, .int .i64 most, .bool over] T (0, 0)))) (hr : L[j]? = some (Prt.row 1 sp st.length sc (st.map (Value.int .u64))))
    (hij : i ≠ j) (hm : st.length ≤ 64) (h1 : st.getLast? = none → K (.tuple #[.int .u64 0, .bool false]) H)
    (h2 : ∀ k, st.getLast? = some k → ∀ H', St H0 ((L.set j (Prt.row 1 sp st.dropLast.length sc (st.dropLast.map (Value.int .u64)))).set i (Prt.one g (.cells #[.slice sp st.dropLast.length sc, .int .i64 most, .bool over] T (0, 0)))) H' → K (.tuple #[.int .u64 k, .bool true]) H') :
    hcall PR f_grey_Stack_uint64_Pop ⟨[.pointer (some ⟨g, 0, none⟩)]⟩ H K := by
  apply den_grey_Stack_uint64_Pop
  unfold B_grey_Stack_uint64_Pop
  simp only [asI_mk', asB_mk, asP_mk, asA_mk, asM_mk, asSl_mk, asStr_mk, tup2_mk, tup3_mk, agg1_mk, agg2_mk, agg3_mk, agg4_mk, asAggm, unCons_mk, unNil_mk, asTup_mk, extractD0, extractD1, List.toList_toArray, nilP_mk, add_mk, Nat.zero_add, Nat.add_zero, condT, condF, Bool.not_true, Bool.not_false, Option.isNone_some, Option.isNone_none]
  refine ldSl_of (h.cell hi rfl) ?_
  cases hl : st.getLast? with
  | none =>
    have := List.getLast?_eq_none_iff.1 hl
    subst this
    exact bif_eq rfl (h1 hl)
  | some k =>
    have hne : st ≠ [] := fun e => by rw [e] at hl; cases hl
    have hpos : 0 < st.length := List.length_pos_iff.2 hne
    refine bif_ne (by omega) (ldSl_of (h.cell hi rfl) (ldSl_of (h.cell hi rfl) ?_))
    have hw : IntKind.i64.wrap ((st.length : Int) - 1) = ((st.length - 1 : Nat) : Int) := by rw [wrap_i64 (by omega) (by omega)]; omega
    rw [hw]
    have hrow := h.row_own hr
    refine idx1 (g := Value.int .u64) (l := st) (d := 0) hrow.rd (by omega) (by omega) fun b1 o1 hp hc => ldI_of hc ?_
    have hk : st.getD (((st.length - 1 : Nat) : Int)).toNat 0 = k := by
      rw [Int.toNat_natCast, List.getD_eq_getElem?_getD, ← List.getLast?_eq_getElem?, hl]
      rfl
    rw [hk]
    refine ldSl_of (h.cell hi rfl) (slc_to (by omega) (by have := hrow.2.1; omega) ?_)
    rw [Int.toNat_natCast]
    have ht := hrow.take (m := st.length - 1) (by omega)
    rw [Nat.mul_one, ← List.map_take, ← List.dropLast_eq_take] at ht
    have hdl : st.length - 1 = st.dropLast.length := by simp
    rw [hdl] at ht ⊢
    have h3 := h.row_to hr ht (Goes.refl _ _)
    have hi3 : (L.set j (Prt.row 1 sp st.dropLast.length sc (st.dropLast.map (Value.int .u64))))[i]? = some (Prt.one g (.cells #[.slice sp st.length sc, .int .i64 most, .bool over] T (0, 0))) := by rw [List.getElem?_set_ne (Ne.symm hij)]; exact hi
    exact h3.put hi3 (by simp) fun H4 h4 => h2 k hl H4 h4

/-- Is there such an object? -/
theorem pThereC {k : Int} (h : St H0 (paintParts pb hb p x ++ M) H) (hi : M[i]? = some (HeapP hb s)) (hK : ∀ H', St H0 (paintParts pb hb p x ++ M) H' → K (.bool (hGet s k).isSome) H') :
    hcall PR f_paint_Paint_there ⟨[.pointer (some ⟨pb, 0, none⟩), .int .u64 k]⟩ H K := by
  apply den_paint_Paint_there
  unfold B_paint_Paint_there
  simp only [asI_mk', asB_mk, asP_mk, asA_mk, asM_mk, asSl_mk, asStr_mk, tup2_mk, tup3_mk, agg1_mk, agg2_mk, agg3_mk, agg4_mk, asAggm, unCons_mk, unNil_mk, asTup_mk, extractD0, extractD1, List.toList_toArray, nilP_mk, add_mk, Nat.zero_add, Nat.add_zero, condT, condF, Bool.not_true, Bool.not_false, Option.isNone_some, Option.isNone_none]
  refine ldP_of (h.cell (i := 0) rfl rfl) (hObjC h (i := i + 6) hi (fun e H1 h1 => ?_) fun o e pp c q d H1 h1 => ?_)
  · simp only [asI_mk', asB_mk, asP_mk, asA_mk, asM_mk, asSl_mk, asStr_mk, tup2_mk, tup3_mk, agg1_mk, agg2_mk, agg3_mk, agg4_mk, asAggm, unCons_mk, unNil_mk, asTup_mk, extractD0, extractD1, List.toList_toArray, nilP_mk, add_mk, Nat.zero_add, Nat.add_zero, condT, condF, Bool.not_true, Bool.not_false, Option.isNone_some, Option.isNone_none]
    rw [e] at hK
    exact box5 h1 fun b H2 h2 => hK H2 h2.less
  · simp only [asI_mk', asB_mk, asP_mk, asA_mk, asM_mk, asSl_mk, asStr_mk, tup2_mk, tup3_mk, agg1_mk, agg2_mk, agg3_mk, agg4_mk, asAggm, unCons_mk, unNil_mk, asTup_mk, extractD0, extractD1, List.toList_toArray, nilP_mk, add_mk, Nat.zero_add, Nat.add_zero, condT, condF, Bool.not_true, Bool.not_false, Option.isNone_some, Option.isNone_none]
    rw [e] at hK
    exact box5 h1 fun b H2 h2 => hK H2 h2.less.less.less
end
end Go.Proofs.YtojcacejgbnfkaaGreat

namespace Go.Proofs.YtojcacejgbnfkaaGreat
open Go
set_option linter.unusedVariables false
set_option maxRecDepth 100000
end Go.Proofs.YtojcacejgbnfkaaGreat

namespace Go.Proofs.YtojcacejgbnfkaaGreat
open Go
set_option linter.unusedVariables false
set_option maxRecDepth 100000
end Go.Proofs.YtojcacejgbnfkaaGreat

namespace Go.Proofs.YtojcacejgbnfkaaGreat
open Go
set_option linter.unusedVariables false
set_option maxRecDepth 100000
def B_api_Key (xNode1 : Int) (xSerial2 : Int) (H : Hp) (K : Value → Hp → Prop) : Prop :=
 newB (.cells #[(.int .i64 xNode1), (.int .u64 xSerial2)] ty_api_ID) H fun b3 Hx4 =>
 ldI .i64 ⟨b3, 0, none⟩ Hx4 fun Node5 =>
 (0 : Int) ≤ 56 ∧
 ldI .u64 ⟨b3, 1, none⟩ Hx4 fun Serial6 =>
 K (.int .u64 (bitOp .or .u64 (shlI .u64 (IntKind.u64.wrap Node5) 56) Serial6)) Hx4
theorem E_api_Key (xNode1 : Int) (xSerial2 : Int) (H : Hp) (K : Value → Hp → Prop) : B_api_Key xNode1 xSerial2 H K = denF Tryz.prog Tryz.f131 .n [(.agg #[(.int .i64 xNode1), (.int .u64 xSerial2)])] H K := by kernel_rfl
theorem den_api_Key {xNode1 : Int} {xSerial2 : Int} {H : Hp} {K : Value → Hp → Prop} (h : B_api_Key xNode1 xSerial2 H K) : hcall PR f_api_Key ⟨[(.agg #[(.int .i64 xNode1), (.int .u64 xSerial2)])]⟩ H K := denF_call Tryz.func131 PR_mixed (Eq.mp (E_api_Key xNode1 xSerial2 H K) h)

end Go.Proofs.YtojcacejgbnfkaaGreat

namespace Go.Proofs.YtojcacejgbnfkaaGreat
set_option linter.unusedSimpArgs false
set_option linter.unusedVariables false
open Go
def outC (e : Id × Int) : List Value := [.int .i64 e.1.n, .int .u64 e.1.s, .int .i64 e.2]
theorem outC_len (e : Id × Int) : (outC e).length = 3 := rfl
structure RpX where
  t : List (Id × Int)
  sp : Option Addr
  sc : Nat
  mp : Option Addr
  mc : Nat
  kp : Option Addr
  kc : Nat
  vp : Option Addr
  vc : Nat
  T : Nat
def keyV (y : Id) : Int := bitOp .or .u64 (shlI .u64 (IntKind.u64.wrap y.n) 56) y.s
theorem keyV_id {y : Id} (h : isId y) : keyV y = keyOf y := by
  unfold isId at h
  obtain ⟨n, hn⟩ : ∃ n : Nat, y.n = n := ⟨y.n.toNat, by omega⟩
  obtain ⟨k, hk⟩ : ∃ k : Nat, y.s = k := ⟨y.s.toNat, by omega⟩
  unfold keyV keyOf
  rw [hn, hk] at h ⊢
  have h56 : (2 : Int) ^ min (56 : Int).toNat IntKind.u64.bits = 72057594037927936 := by decide
  have e1 : shlI .u64 (IntKind.u64.wrap (n : Int)) 56 = (n : Int) * 72057594037927936 := by
    unfold shlI
    have w1 : IntKind.u64.wrap (n : Int) = n := wrap_u64' (by omega) (by omega)
    rw [w1, h56, wrap_u64' (by omega) (by omega)]
  rw [e1]
  have hb : IntKind.bits .u64 = 64 := rfl
  have e2 : (BitVec.ofInt 64 ((n : Int) * 72057594037927936)).toNat = n * 72057594037927936 := by
    rw [BitVec.toNat_ofInt]
    omega
  have e3 : (BitVec.ofInt 64 (k : Int)).toNat = k := by
    rw [BitVec.toNat_ofInt]
    omega
  show IntKind.u64.wrap ((BitVec.ofInt 64 ((n : Int) * 72057594037927936) ||| BitVec.ofInt 64 (k : Int)).toNat : Int) = _
  rw [BitVec.toNat_or, e2, e3]
  have e4 : n * 72057594037927936 ||| k = n * 72057594037927936 + k := by
    have := Nat.two_pow_add_eq_or_of_lt (i := 56) (b := k) (by omega) n
    rw [show (2 : Nat) ^ 56 = 72057594037927936 by decide, Nat.mul_comm] at this
    exact this.symm
  rw [e4, wrap_u64' (by omega) (by omega)]
  omega

/-- A cell of a row of records that lies at a known place. -/
theorem Rd.cel_at' {α : Type} {g : α → List Value} {k : Nat} (hg : ∀ x, (g x).length = k) {H : Hp} {p : Option Addr} {b o n i j : Nat} {l : List α} (d : α) (h : Rd H k p n (cel g l)) (hp : p = some ⟨b, o, none⟩) (hi : i < l.length) (hj : j < k) :
    hcell H ⟨b, o + i * k + j, none⟩ = (g (l.getD i d))[j]? := by
  subst hp
  obtain ⟨h1, _, h3⟩ := h
  rw [cel_len hg] at h1
  have h4 : i * k + j < l.length * k := by
    have : (i + 1) * k ≤ l.length * k := Nat.mul_le_mul_right _ hi
    rw [Nat.add_mul] at this
    omega
  have h5 := h3 (i * k + j) (by omega)
  rw [cel_get hg d hi hj, ← Nat.add_assoc] at h5
  exact h5

section
variable {H0 H : Hp} {L M : List Prt} {i j rb qb : Nat} {s : Hs} {p : Ps} {x : RpX} {K : Value → Hp → Prop}
theorem keyC {y : Id} (h : St H0 L H) (hK : ∀ H', St H0 L H' → K (.int .u64 (keyV y)) H') : hcall PR f_api_Key ⟨[.agg #[.int .i64 y.n, .int .u64 y.s]]⟩ H K := by
  apply den_api_Key
  unfold B_api_Key
  intro b hb
  have h1 := h.alloc (o := .cells #[.int .i64 y.n, .int .u64 y.s] ty_api_ID) hb
  exact ldI_of (h1.cell (i := 0) rfl rfl) ⟨by decide, ldI_of (h1.cell (i := 0) rfl rfl) (hK _ h1.less)⟩

theorem St.one_rd (h : St H0 L H) {b n k : Nat} {c : Array Value} {e : TypeId} (hi : L[i]? = some (Prt.one b (.cells c e (0, 0)))) (hs : c.size = n * k) : Rd H k (some ⟨b, 0, none⟩) n c.toList := by
  have hb := h.one hi
  exact (show Own H k (some ⟨b, 0, none⟩) n n c.toList from ⟨by simpa using hs, Nat.le_refl _, rfl, c, e, hb, by simp only [hs]; omega, fun i _ => by simp⟩).rd

end
end Go.Proofs.YtojcacejgbnfkaaGreat

namespace Go.Proofs.YtojcacejgbnfkaaGreat
set_option linter.unusedSimpArgs false
set_option linter.unusedVariables false
open Go
open Go.Shelf Go.RowKit Go.Lib Go.Sort
/-- A world that only grew. -/
theorem world_grown {w w' : World} (hr : Rest w w') (hk : Keep Nothing (hp w) (hp w')) : ∃ q os', w' = grow (w.drewN q) os' := by
  obtain ⟨r1, r2, r3, r4, r5⟩ := hr
  have hsz : w.heap.size ≤ w'.heap.size := by
    rcases Nat.lt_or_ge w'.heap.size w.heap.size with h | h
    · have := hk.dom (w'.heap.size) (by simp [hp, h])
      simp [hp] at this
    · exact h
  refine ⟨w'.drawn - w.drawn, w'.heap.extract w.heap.size w'.heap.size, ?_⟩
  have hheap : w'.heap = w.heap ++ w'.heap.extract w.heap.size w'.heap.size := by
    apply Array.ext_getElem?
    intro i
    by_cases hi : i < w.heap.size
    · rw [Array.getElem?_append_left hi]
      exact hk.same i (by simp [hp, hi]) (fun h => h)
    · rw [Array.getElem?_append_right (by omega), Array.getElem?_extract]
      by_cases h2 : i < w'.heap.size
      · rw [if_pos (by omega)]
        congr 1
        omega
      · rw [if_neg (by omega), Array.getElem?_eq_none (by omega)]
  cases w
  cases w'
  simp only [grow, World.drewN] at *
  subst r1 r2 r3
  rw [← hheap]
  congr 1
  omega

section
theorem swoKey {α : Type} (key : α → Int) : SWO (ltOf fun x y : α => if key x < key y then (-1 : Int) else 1) := by
  have e : ∀ x y : α, ltOf (fun x y : α => if key x < key y then (-1 : Int) else 1) x y = decide (key x < key y) := fun x y => by
    unfold ltOf
    by_cases h : key x < key y <;> simp [h]
  refine ⟨fun x => by rw [e]; simp, fun x y z h1 h2 => ?_, fun x y z h1 h2 => ?_⟩
  · rw [e] at *; simp at *; omega
  · rw [e] at *; simp at *; omega

theorem sortC {P : Program} {ρ : Ren} {α : Type} [Inhabited α] (Ls : SlLaysF0.n6 P ρ) {k : Nat} (hk0 : 0 < k) (aE : ∀ w, (isAgg (ρ.t 24)).run P w = .ok true w) (zE : ∀ w, (Go.sizeOf (ρ.t 24)).run P w = .ok k w) {enc : α → List Value} (hk : ∀ x, (enc x).length = k)
    (h1 : ∀ x, ∀ v ∈ enc x, v.oneCell' = true) (key : α → Int) (g : Nat) (eg : ∀ args w, (callFunc g args).run P w = .ok (.enter g args) w)
    (hcl : ∀ (x y : α) (H : Hp) (K : Value → Hp → Prop), (∀ H', Keep Nothing H H' → K (.int .i64 (if key x < key y then -1 else 1)) H') → hcall P g #[.agg (enc x).toArray, .agg (enc y).toArray] H K)
    {H0 H : Hp} {L : List Prt} {i n cap : Nat} {p : Option Addr} {l : List α} {K : Value → Hp → Prop} (h : St H0 L H) (hr : L[i]? = some (Prt.row k p n cap (cel enc l))) (hn : n < 4611686018427387904)
    (hK : ∀ l' H', l'.Perm l → l'.Pairwise (fun a b => ¬ key b < key a) → St H0 (L.set i (Prt.row k p n cap (cel enc l'))) H' → K (.tuple #[]) H') :
    hcall P (ρ.f 6) #[.slice p n cap, .func (.func g) #[] #[]] H K := by
  intro w hw
  subst hw
  have ho := h.row_own hr
  obtain ⟨hlen, hcap, hp3⟩ := ho
  rw [cel_len hk] at hlen
  have hln : l.length = n := Nat.eq_of_mul_eq_mul_right hk0 hlen
  by_cases h0 : n = 0
  · subst h0
    obtain rfl : l = [] := List.length_eq_zero_iff.1 hln
    refine (AnyF.slices_SortFunc_none Ls p cap _ w).mono ?_
    rintro e w' ⟨rfl, rfl⟩
    refine ⟨_, rfl, Rest.refl _, hK [] _ (List.Perm.refl _) List.Pairwise.nil ?_⟩
    rw [List.set_self hr]
    exact h
  cases p with
  | none => simp only at hp3; omega
  | some a =>
    obtain ⟨blk, off, sp⟩ := a
    obtain ⟨hs, c, e1, hb, hsz, hcell⟩ := hp3
    simp only at hs hb hsz hcell
    subst hs
    have hb' : w.heap[blk]? = some (.cells c e1 (0, 0)) := hb
    have hblk : blk < w.heap.size := by
      rcases Nat.lt_or_ge blk w.heap.size with h | h
      · exact h
      · rw [Array.getElem?_eq_none h] at hb'; cases hb'
    have hflat : ∀ (d : List α) j, j < d.length * k → (flatK enc k d.toArray)[j]! = (cel enc d).getD j undef ∧ (cel enc d)[j]? = some ((flatK enc k d.toArray)[j]!) := fun d j hj => by
      have hq : j / k < d.length := (Nat.div_lt_iff_lt_mul hk0).2 hj
      have hm : j % k < k := Nat.mod_lt _ hk0
      have e := cel_get hk (l := d) (i := j / k) (j := j % k) default hq hm
      rw [Nat.div_add_mod'] at e
      have e2 : (flatK enc k d.toArray)[j]! = (enc (d.getD (j / k) default))[j % k]! := by
        rw [get_flatK _ _ _ _ (by simpa using hj)]
        congr 1
        rw [getElem!_pos d.toArray _ (by simpa using hq), List.getD_eq_getElem?_getD, List.getElem?_eq_getElem hq]
        simp
      have hlt : j % k < (enc (d.getD (j / k) default)).length := by rw [hk]; exact hm
      have e3 : (cel enc d)[j]? = some ((flatK enc k d.toArray)[j]!) := by
        rw [e, e2, List.getElem?_eq_getElem hlt, getElem!_pos (enc (d.getD (j / k) default)) (j % k) hlt]
      exact ⟨by rw [List.getD_eq_getElem?_getD, e3]; rfl, e3⟩
    have hH : HoldsK enc k w blk off l.toArray := by
      intro j hj
      rw [size_flatK] at hj
      have hj : j < l.length * k := by simpa using hj
      refine ⟨?_, ?_⟩
      · have e := hcell j (by rw [← hln]; exact hj)
        rw [(hflat l j hj).2] at e
        simp only [World.cell?, hb', Option.isSome_none, Bool.false_eq_true, if_false, e, id]
      · simp [World.frozen?, hb']
    have hcmp : CmpLays P g #[] enc k (fun x y : α => if key x < key y then (-1 : Int) else 1) blk off l.toArray.size w := by
      intro m os dk hdk x y
      refine (hcl x y (hp (sortWorldK enc k w blk off m dk os)) (fun v H' => v = .int .i64 (if key x < key y then -1 else 1) ∧ Keep Nothing (hp (sortWorldK enc k w blk off m dk os)) H') (fun H' hk => ⟨rfl, hk⟩) _ rfl).mono ?_
      rintro e w' ⟨v, he, hrest, hv, hkeep⟩
      subst hv
      exact ⟨he, world_grown hrest hkeep⟩
    have hsz' : l.toArray.size = n := by simpa using hln
    have hcon := AnyQ.slices_SortFunc Ls k aE zE enc hk h1 (fun x y : α => if key x < key y then (-1 : Int) else 1) (swoKey key) g #[] blk off cap l.toArray w eg hcmp hH hblk (by rw [hsz']; exact hn)
    rw [hsz'] at hcon
    refine hcon.mono ?_
    rintro e w' ⟨rfl, d', m, os, hperm, hsort, rfl⟩
    obtain ⟨p1, p2, p3⟩ := hperm
    have hd : d'.size = n := by rw [p1, hsz']
    have hperm : d'.toList.Perm l := by
      have e1 : d'.extract 0 n = d' := by rw [← hd]; exact Array.extract_size
      have e2 : l.toArray.extract 0 n = l.toArray := by rw [← hsz']; exact Array.extract_size
      rw [e1, e2] at p3
      simpa using p3
    have hlt : ∀ x y : α, ltOf (fun x y : α => if key x < key y then (-1 : Int) else 1) x y = decide (key x < key y) := fun x y => by
      unfold ltOf
      by_cases h : key x < key y <;> simp [h]
    have hpw : d'.toList.Pairwise fun a b => ¬ key b < key a := by
      rw [List.pairwise_iff_getElem]
      intro i j hi hj hij
      have hi' : i < d'.size := by simpa using hi
      have hj' : j < d'.size := by simpa using hj
      have := hsort i j (Nat.zero_le _) hij (by omega)
      rw [hlt, getElem!_pos d' j hj', getElem!_pos d' i hi'] at this
      simpa using this
    have hd' : d' = d'.toList.toArray := by simp
    have hdl : d'.toList.length = n := by simpa using hd
    refine ⟨_, rfl, ⟨rfl, rfl, rfl, by simp [sortWorldK, grow, putRowK, putRow, mapBlock, ahead], Nat.le_add_right _ _⟩, hK d'.toList _ hperm hpw (h.row_to hr ?_ ?_)⟩
    · refine ⟨by rw [cel_len hk, hdl], hcap, rfl, putCells id off (flatK enc k d') c, e1, ?_, ?_, ?_⟩
      · show ((w.heap.modify blk (onCells (putCells id off (flatK enc k d'))) ++ os)[blk]?) = _
        rw [Array.getElem?_append_left (by simpa using hblk), Array.getElem?_modify, if_pos rfl, hb']
        rfl
      · simp only [putCells, Array.size_mapIdx]
        exact hsz
      · intro j hj
        have hjn : j < d'.toList.length * k := by rw [hdl]; exact hj
        have hle : n * k ≤ cap * k := Nat.mul_le_mul_right _ hcap
        simp only [putCells, Array.getElem?_mapIdx]
        rw [Array.getElem?_eq_getElem (show off + j < c.size by omega)]
        simp only [Option.map_some]
        rw [if_pos ⟨by omega, by rw [size_flatK, hd]; omega⟩, Nat.add_sub_cancel_left, (hflat d'.toList j hjn).2, ← hd']
        rfl
    · refine ⟨⟨fun b hb => ?_, fun b hb hf => ?_⟩, fun b hb => .inl hb⟩
      · have : b < w.heap.size := by
          rcases Nat.lt_or_ge b w.heap.size with h | h
          · exact h
          · exact absurd (Array.getElem?_eq_none h) hb
        show ((w.heap.modify blk _ ++ os)[b]?) ≠ none
        rw [Array.getElem?_append_left (by simpa using this)]
        simp [this]
      · have hlt : b < w.heap.size := by
          rcases Nat.lt_or_ge b w.heap.size with h | h
          · exact h
          · exact absurd (Array.getElem?_eq_none h) hb
        have hne : blk ≠ b := fun e => hf (blk_some.2 e)
        show ((w.heap.modify blk _ ++ os)[b]?) = w.heap[b]?
        rw [Array.getElem?_append_left (by simpa using hlt), Array.getElem?_modify, if_neg hne]
end
end Go.Proofs.YtojcacejgbnfkaaGreat

namespace Go.Proofs.YtojcacejgbnfkaaGreat
set_option linter.unusedSimpArgs false
set_option linter.unusedVariables false
open Go
section
variable {H0 H : Hp} {L M : List Prt} {i j rb qb : Nat} {s : Hs} {p : Ps} {x : RpX} {K : Value → Hp → Prop}
/-- A part is given up. -/
theorem St.void {A : Prt} (h : St H0 L H) (hi : L[i]? = some A) : St H0 (L.set i .nil) H := by
  obtain ⟨Fi, ha, up⟩ := h.at hi
  exact up .nil Nothing H (fun _ h => h) ((Goes.refl Fi H).less fun c h => h.elim)
/-- A new part takes an old one's place. -/
theorem St.over {A B : Prt} (h : St H0 (B :: L) H) (hi : L[i]? = some A) : St H0 (L.set i B) H := by
  have h1 := St.void (i := i + 1) h hi
  have h2 := St.shutAt (L := L.set i .nil) (i := i) h1 (set_nil_get hi)
  rwa [List.set_set] at h2

end
end Go.Proofs.YtojcacejgbnfkaaGreat

namespace Go.Proofs.YtojcacejgbnfkaaGreat
set_option linter.unusedSimpArgs false
set_option linter.unusedVariables false
open Go
section
variable {H0 H : Hp} {L M : List Prt} {i j rb qb : Nat} {s : Hs} {p : Ps} {x : RpX} {K : Value → Hp → Prop}
end
end Go.Proofs.YtojcacejgbnfkaaGreat

namespace Go.Proofs.YtojcacejgbnfkaaGreat
set_option linter.unusedSimpArgs false
set_option linter.unusedVariables false
open Go
section
variable {H0 H : Hp} {L M : List Prt} {i j hb pb : Nat} {s : Hs} {p : Ps} {x : PtX} {K : Value → Hp → Prop}
theorem isId_iff {y : Id} : isId y ↔ 1 ≤ y.n ∧ y.n ≤ 64 ∧ 1 ≤ y.s ∧ y.s ≤ 72057594037927935 := Iff.rfl

theorem pShadeC {y : Id} {r : Int} (h : St H0 L H) (hi : L[i]? = some (HeapP hb s)) (hj : L[j]? = some (PaintP pb hb p)) (hij : i ≠ j)
    (hK : ∀ H', St H0 (L.set j (PaintP pb hb (pShade s p y r))) H' → K (.tuple #[]) H') :
    hcall PR f_paint_Paint_Shade ⟨[.pointer (some ⟨pb, 0, none⟩), .agg #[.int .i64 y.n, .int .u64 y.s], .int .i64 r]⟩ H K := by
  obtain ⟨x, M, g, ho, hM, back⟩ := paintTake h hj
  have hi' := hM i _ hi hij
  clear hM
  apply den_paint_Paint_Shade
  unfold B_paint_Paint_Shade
  intro b5 hb5
  have g1 := g.alloc (o := .cells #[.int .i64 y.n, .int .u64 y.s] ty_api_ID) hb5
  have c0 := g1.cell (i := 0) (o := 0) rfl rfl
  have c1 := g1.cell (i := 0) (o := 1) rfl rfl
  have fin : ∀ p' x' H' A, pShade s p y r = p' → St H0 (A :: (paintParts pb hb p' x' ++ M)) H' → K (.tuple #[]) H' := fun p' x' H' A e h' => hK H' (by rw [e]; exact back p' x' H' h'.less)
  have hII := isId_iff (y := y)
  refine ldI_of c0 ?_
  by_cases e1 : y.n < 1
  · exact bif_pos e1 (fin p x _ _ (by unfold pShade; rw [if_pos (by rw [hII]; omega)]) g1)
  refine bif_neg e1 (ldI_of c0 ?_)
  by_cases e2 : y.n > 64
  · exact bif_pos e2 (fin p x _ _ (by unfold pShade; rw [if_pos (by rw [hII]; omega)]) g1)
  refine bif_neg e2 (ldI_of c1 ?_)
  by_cases e3 : y.s < 1
  · exact bif_pos e3 (fin p x _ _ (by unfold pShade; rw [if_pos (by rw [hII]; omega)]) g1)
  refine bif_neg e3 (ldI_of c1 ?_)
  by_cases e4 : y.s > 72057594037927935
  · exact bif_pos e4 (fin p x _ _ (by unfold pShade; rw [if_pos (by rw [hII]; omega)]) g1)
  refine bif_neg e4 (ldI_of c0 ?_)
  have hid : isId y := by rw [hII]; omega
  simp only [asI_mk', asB_mk, asP_mk, asA_mk, asM_mk, asSl_mk, asStr_mk, tup2_mk, tup3_mk, agg1_mk, agg2_mk, agg3_mk, agg4_mk, asAggm, unCons_mk, unNil_mk, asTup_mk, extractD0, extractD1, List.toList_toArray, nilP_mk, add_mk, Nat.zero_add, Nat.add_zero, condT, condF, Bool.not_true, Bool.not_false, Option.isNone_some, Option.isNone_none]
  refine ldP_of (g1.cell (i := 1) rfl rfl) (hNode g1 (i := i + 7) hi' ?_)
  simp only [asI_mk', asB_mk, asP_mk, asA_mk, asM_mk, asSl_mk, asStr_mk, tup2_mk, tup3_mk, agg1_mk, agg2_mk, agg3_mk, agg4_mk, asAggm, unCons_mk, unNil_mk, asTup_mk, extractD0, extractD1, List.toList_toArray, nilP_mk, add_mk, Nat.zero_add, Nat.add_zero, condT, condF, Bool.not_true, Bool.not_false, Option.isNone_some, Option.isNone_none]
  refine ⟨ldI_of c0 rfl, ?_⟩
  by_cases en : y.n = s.node
  rotate_left
  · refine bif_neq en (ldM_of (g1.cell (i := 1) rfl rfl) (ldI_of c0 (ldI_of c1 (g1.look (i := 3) (l := p.met) (enc := Id.val) (f := Value.int .i64) rfl idKey me_map me_zero ho.met y true ?_))))
    rw [if_pos rfl]
    simp only [asI_mk', asB_mk, asP_mk, asA_mk, asM_mk, asSl_mk, asStr_mk, tup2_mk, tup3_mk, agg1_mk, agg2_mk, agg3_mk, agg4_mk, asAggm, unCons_mk, unNil_mk, asTup_mk, extractD0, extractD1, List.toList_toArray, nilP_mk, add_mk, Nat.zero_add, Nat.add_zero, condT, condF, Bool.not_true, Bool.not_false, Option.isNone_some, Option.isNone_none]
    cases hl : mlook p.met y with
    | none =>
      simp only [Option.map_none, Option.getD_none, Option.isSome_none, Bool.not_false, condT]
      refine ldM_of (g1.cell (i := 1) rfl rfl) (ldI_of c0 (ldI_of c1 (g1.mupd (i := 3) (l := p.met) (enc := Id.val) (f := Value.int .i64) rfl idKey me_map ho.met y (clampR r) rfl fun H2 g2 => ?_)))
      have g3 := g2.refact (i := 6) (q := ({ p with met := mput p.met y (clampR r) } : Ps).ok) rfl (ho.meet clampR_is hid)
      exact fin { p with met := mput p.met y (clampR r) } x _ _ (by unfold pShade; rw [if_neg (by simpa using hid), if_pos en, hl]) g3
    | some was =>
      simp only [Option.map_some, Option.getD_some, Option.isSome_some, Bool.not_true, condF]
      by_cases hw : clampR r < was
      · refine bif_pos hw (ldM_of (g1.cell (i := 1) rfl rfl) (ldI_of c0 (ldI_of c1 (g1.mupd (i := 3) (l := p.met) (enc := Id.val) (f := Value.int .i64) rfl idKey me_map ho.met y (clampR r) rfl fun H2 g2 => ?_))))
        have g3 := g2.refact (i := 6) (q := ({ p with met := mput p.met y (clampR r) } : Ps).ok) rfl (ho.meet clampR_is hid)
        exact fin { p with met := mput p.met y (clampR r) } x _ _ (by unfold pShade; rw [if_neg (by simpa using hid), if_pos en, hl]; simp only; rw [if_pos hw]) g3
      · exact bif_neg hw (fin p x _ _ (by unfold pShade; rw [if_neg (by simpa using hid), if_pos en, hl]; simp only; rw [if_neg hw]) g1)
  have en' : ¬ y.n ≠ s.node := by simpa using en
  refine bif_neqf en (ldM_of (g1.cell (i := 1) rfl rfl) (ldI_of c1 (g1.look (i := 2) (l := p.marks) (enc := Value.int .u64) (f := markV) rfl hp_key mm_map mm_zero ho.marks y.s true ?_)))
  have hz : (((mlook p.marks y.s).map markV).getD (.agg #[.int .i64 0, .bool false])) = .agg #[.int .i64 ((mlook p.marks y.s).getD (0, false)).1, .bool ((mlook p.marks y.s).getD (0, false)).2] := by cases mlook p.marks y.s <;> rfl
  rw [if_pos rfl, hz]
  simp only [asI_mk', asB_mk, asP_mk, asA_mk, asM_mk, asSl_mk, asStr_mk, tup2_mk, tup3_mk, agg1_mk, agg2_mk, agg3_mk, agg4_mk, asAggm, unCons_mk, unNil_mk, asTup_mk, extractD0, extractD1, List.toList_toArray, nilP_mk, add_mk, Nat.zero_add, Nat.add_zero, condT, condF, Bool.not_true, Bool.not_false, Option.isNone_some, Option.isNone_none]
  intro b50 hb50
  have g2 := g1.alloc (o := .cells #[.int .i64 0, .bool false] ty_paint_mark) hb50
  have d1 := g2.cell (i := 1) (o := 1) rfl rfl
  refine ⟨?_, ldI_of d1 rfl, ldM_of (g2.cell (i := 2) rfl rfl) rfl, ?_⟩
  · refine g2.look (i := 3) (l := p.marks) (enc := Value.int .u64) (f := markV) rfl hp_key mm_map mm_zero ho.marks y.s true ?_
    rw [if_pos rfl, hz]
    simp only [asI_mk', asB_mk, asP_mk, asA_mk, asM_mk, asSl_mk, asStr_mk, tup2_mk, tup3_mk, agg1_mk, agg2_mk, agg3_mk, agg4_mk, asAggm, unCons_mk, unNil_mk, asTup_mk, extractD0, extractD1, List.toList_toArray, nilP_mk, add_mk, Nat.zero_add, Nat.add_zero, condT, condF, Bool.not_true, Bool.not_false, Option.isNone_some, Option.isNone_none]
  refine g2.put (i := 0) rfl (by simp) fun H3 g3 => g3.put (i := 0) rfl (by simp) fun H4 g4 => ?_
  intro R64 hR64
  have hR64 : ∀ H', St H0 (Prt.one b50 (.cells #[.int .i64 ((mlook p.marks y.s).getD (0, false)).1, .bool ((mlook p.marks y.s).getD (0, false)).2] ty_paint_mark (0, 0)) :: Prt.one b5 (.cells #[.int .i64 y.n, .int .u64 y.s] ty_api_ID (0, 0)) :: (paintParts pb hb p x ++ M)) H' →
      pShade s p y r = (if ((mlook p.marks y.s).getD (0, false)).2 then { p with marks := mput p.marks y.s (clampR r, true) } else pPush { p with marks := mput p.marks y.s (clampR r, true) } y.s) → R64 H' := fun H' h' e => by
    refine hR64 H' ?_
    clear hR64
    refine ldM_of (h'.cell (i := 2) rfl rfl) (ldI_of (h'.cell (i := 1) rfl rfl) (h'.mupd (i := 3) (l := p.marks) (enc := Value.int .u64) (f := markV) rfl hp_key mm_map ho.marks y.s (clampR r, true) rfl fun H5 g5 => ?_))
    refine ldB_of (g5.cell (i := 0) (o := 1) rfl rfl) ?_
    have ok1 := ho.mark (k := y.s) (clampR_is (r := r)) (g := true)
    cases hg : ((mlook p.marks y.s).getD (0, false)).2
    · rw [hg] at e
      simp only [asI_mk', asB_mk, asP_mk, asA_mk, asM_mk, asSl_mk, asStr_mk, tup2_mk, tup3_mk, agg1_mk, agg2_mk, agg3_mk, agg4_mk, asAggm, unCons_mk, unNil_mk, asTup_mk, extractD0, extractD1, List.toList_toArray, nilP_mk, add_mk, Nat.zero_add, Nat.add_zero, condT, condF, Bool.not_true, Bool.not_false, Option.isNone_some, Option.isNone_none]
      refine ldP_of (g5.cell (i := 2) rfl rfl) (ldI_of (g5.cell (i := 1) rfl rfl) (gPushC (i := 5) (j := 6) g5 rfl rfl (by decide) ho.most.2 (fun hf H6 g6 => ?_) fun hf sp' sc' H6 g6 => ?_))
      · simp only [asI_mk', asB_mk, asP_mk, asA_mk, asM_mk, asSl_mk, asStr_mk, tup2_mk, tup3_mk, agg1_mk, agg2_mk, agg3_mk, agg4_mk, asAggm, unCons_mk, unNil_mk, asTup_mk, extractD0, extractD1, List.toList_toArray, nilP_mk, add_mk, Nat.zero_add, Nat.add_zero, condT, condF, Bool.not_true, Bool.not_false, Option.isNone_some, Option.isNone_none]
        have g7 := g6.refact (i := 7) (q := ({ p with marks := mput p.marks y.s (clampR r, true), over := true } : Ps).ok) rfl ⟨ok1.marks, ok1.met, ok1.ranks, ok1.ids, ok1.most, ok1.stack⟩
        exact fin { p with marks := mput p.marks y.s (clampR r, true), over := true } x _ _ (by rw [e, if_neg (by decide)]; unfold pPush; rw [if_pos hf]) g7.less
      · simp only [asI_mk', asB_mk, asP_mk, asA_mk, asM_mk, asSl_mk, asStr_mk, tup2_mk, tup3_mk, agg1_mk, agg2_mk, agg3_mk, agg4_mk, asAggm, unCons_mk, unNil_mk, asTup_mk, extractD0, extractD1, List.toList_toArray, nilP_mk, add_mk, Nat.zero_add, Nat.add_zero, condT, condF, Bool.not_true, Bool.not_false, Option.isNone_some, Option.isNone_none]
        have g7 := g6.refact (i := 7) (q := ({ p with marks := mput p.marks y.s (clampR r, true), stack := p.stack ++ [y.s] } : Ps).ok) rfl ⟨ok1.marks, ok1.met, ok1.ranks, ok1.ids, ok1.most, by simp only [List.length_append, List.length_cons, List.length_nil]; omega⟩
        exact fin { p with marks := mput p.marks y.s (clampR r, true), stack := p.stack ++ [y.s] } { x with sp := sp', sc := sc' } _ _ (by rw [e, if_neg (by decide)]; unfold pPush; rw [if_neg (by simp only; omega)]) g7.less
    · rw [hg] at e
      simp only [asI_mk', asB_mk, asP_mk, asA_mk, asM_mk, asSl_mk, asStr_mk, tup2_mk, tup3_mk, agg1_mk, agg2_mk, agg3_mk, agg4_mk, asAggm, unCons_mk, unNil_mk, asTup_mk, extractD0, extractD1, List.toList_toArray, nilP_mk, add_mk, Nat.zero_add, Nat.add_zero, condT, condF, Bool.not_true, Bool.not_false, Option.isNone_some, Option.isNone_none]
      have g7 := g5.refact (i := 7) (q := ({ p with marks := mput p.marks y.s (clampR r, true) } : Ps).ok) rfl ok1
      exact fin { p with marks := mput p.marks y.s (clampR r, true) } x _ _ (by rw [e, if_pos rfl]) g7.less
  refine ldI_of (g4.cell (i := 1) rfl rfl) ?_
  have g5 := g4.pick 8 [2, 3, 4, 5, 6, 7, 0, 1] rfl rfl
  refine pThereC (i := i + 2) (M := Prt.one b50 _ :: Prt.one b5 _ :: M) g5 hi' fun H5 g6 => ?_
  have g6 := St.pick (L := _ :: _ :: _ :: _ :: _ :: _ :: _ :: _ :: M) g6 8 [6, 7, 0, 1, 2, 3, 4, 5] rfl rfl
  simp only [asI_mk', asB_mk, asP_mk, asA_mk, asM_mk, asSl_mk, asStr_mk, tup2_mk, tup3_mk, agg1_mk, agg2_mk, agg3_mk, agg4_mk, asAggm, unCons_mk, unNil_mk, asTup_mk, extractD0, extractD1, List.toList_toArray, nilP_mk, add_mk, Nat.zero_add, Nat.add_zero, condT, condF, Bool.not_true, Bool.not_false, Option.isNone_some, Option.isNone_none]
  cases hgs : hGet s y.s with
  | none =>
    refine fin p x _ _ ?_ g6.less
    unfold pShade
    rw [if_neg (by simpa using hid), if_neg en', if_pos hgs]
  | some o =>
    have hne : ¬ hGet s y.s = none := by rw [hgs]; simp
    simp only [Option.isSome_some]
    simp only [asI_mk', asB_mk, asP_mk, asA_mk, asM_mk, asSl_mk, asStr_mk, tup2_mk, tup3_mk, agg1_mk, agg2_mk, agg3_mk, agg4_mk, asAggm, unCons_mk, unNil_mk, asTup_mk, extractD0, extractD1, List.toList_toArray, nilP_mk, add_mk, Nat.zero_add, Nat.add_zero, condT, condF, Bool.not_true, Bool.not_false, Option.isNone_some, Option.isNone_none]
    cases hl : mlook p.marks y.s with
    | none =>
      simp only [Option.isSome_none]
      simp only [asI_mk', asB_mk, asP_mk, asA_mk, asM_mk, asSl_mk, asStr_mk, tup2_mk, tup3_mk, agg1_mk, agg2_mk, agg3_mk, agg4_mk, asAggm, unCons_mk, unNil_mk, asTup_mk, extractD0, extractD1, List.toList_toArray, nilP_mk, add_mk, Nat.zero_add, Nat.add_zero, condT, condF, Bool.not_true, Bool.not_false, Option.isNone_some, Option.isNone_none]
      refine hR64 _ g6 ?_
      unfold pShade
      rw [if_neg (by simpa using hid), if_neg en', if_neg hne, hl]
      rfl
    | some w =>
      simp only [Option.isSome_some]
      simp only [asI_mk', asB_mk, asP_mk, asA_mk, asM_mk, asSl_mk, asStr_mk, tup2_mk, tup3_mk, agg1_mk, agg2_mk, agg3_mk, agg4_mk, asAggm, unCons_mk, unNil_mk, asTup_mk, extractD0, extractD1, List.toList_toArray, nilP_mk, add_mk, Nat.zero_add, Nat.add_zero, condT, condF, Bool.not_true, Bool.not_false, Option.isNone_some, Option.isNone_none]
      refine ldI_of (g6.cell (i := 0) (o := 0) rfl rfl) ?_
      have hsh : pShade s p y r = if w.1 ≤ clampR r then p else if w.2 then { p with marks := mput p.marks y.s (clampR r, true) } else pPush { p with marks := mput p.marks y.s (clampR r, true) } y.s := by
        unfold pShade
        rw [if_neg (by simpa using hid), if_neg en', if_neg hne, hl]
      by_cases hw : w.1 ≤ clampR r
      · refine bif_pos (by rw [hl]; exact hw) (fin p x _ _ (by rw [hsh, if_pos hw]) g6.less)
      · refine bif_neg (by rw [hl]; exact hw) (hR64 _ g6 ?_)
        rw [hsh, if_neg hw, hl]
        rfl

end
end Go.Proofs.YtojcacejgbnfkaaGreat

namespace Go.Proofs.YtojcacejgbnfkaaGreat
set_option linter.unusedSimpArgs false
set_option linter.unusedVariables false
open Go
section
variable {H0 H : Hp} {L M : List Prt} {i j hb pb : Nat} {s : Hs} {p : Ps} {x : PtX} {K : Value → Hp → Prop}
theorem pMarkC {k : Int} (h : St H0 L H) (hi : L[i]? = some (HeapP hb s)) (hj : L[j]? = some (PaintP pb hb p)) (hij : i ≠ j)
    (hK : ∀ H', St H0 L H' → K (.tuple #[.int .i64 (pMark s p k).1, .bool (pMark s p k).2.1, .bool (pMark s p k).2.2]) H') :
    hcall PR f_paint_Paint_Mark ⟨[.pointer (some ⟨pb, 0, none⟩), .int .u64 k]⟩ H K := by
  obtain ⟨x, M, g, ho, hM, back⟩ := paintTake h hj
  have hi' := hM i _ hi hij
  clear hM
  have back' : ∀ x' H', St H0 (paintParts pb hb p x' ++ M) H' → St H0 L H' := fun x' H' h' => by
    have := back p x' H' h'
    rwa [List.set_self hj] at this
  apply den_paint_Paint_Mark
  unfold B_paint_Paint_Mark
  simp only [asI_mk', asB_mk, asP_mk, asA_mk, asM_mk, asSl_mk, asStr_mk, tup2_mk, tup3_mk, agg1_mk, agg2_mk, agg3_mk, agg4_mk, asAggm, unCons_mk, unNil_mk, asTup_mk, extractD0, extractD1, List.toList_toArray, nilP_mk, add_mk, Nat.zero_add, Nat.add_zero, condT, condF, Bool.not_true, Bool.not_false, Option.isNone_some, Option.isNone_none]
  refine ldM_of (g.cell (i := 0) rfl rfl) (g.look (i := 1) (l := p.marks) (enc := Value.int .u64) (f := markV) rfl hp_key mm_map mm_zero ho.marks k true ?_)
  have hz : (((mlook p.marks k).map markV).getD (.agg #[.int .i64 0, .bool false])) = .agg #[.int .i64 ((mlook p.marks k).getD (0, false)).1, .bool ((mlook p.marks k).getD (0, false)).2] := by cases mlook p.marks k <;> rfl
  rw [if_pos rfl, hz]
  simp only [asI_mk', asB_mk, asP_mk, asA_mk, asM_mk, asSl_mk, asStr_mk, tup2_mk, tup3_mk, agg1_mk, agg2_mk, agg3_mk, agg4_mk, asAggm, unCons_mk, unNil_mk, asTup_mk, extractD0, extractD1, List.toList_toArray, nilP_mk, add_mk, Nat.zero_add, Nat.add_zero, condT, condF, Bool.not_true, Bool.not_false, Option.isNone_some, Option.isNone_none]
  intro b13 hb13
  have g1 := g.alloc (o := .cells #[.int .i64 0, .bool false] ty_paint_mark) hb13
  refine g1.put (i := 0) rfl (by simp) fun H3 g3 => g3.put (i := 0) rfl (by simp) fun H4 g4 => ?_
  cases hl : mlook p.marks k with
  | none =>
    simp only [Option.isSome_none, Bool.not_false, condT]
    have hK := hK H4 (back' x H4 g4.less)
    simp only [pMark, hl] at hK
    exact hK
  | some w =>
    simp only [Option.isSome_some, Bool.not_true, condF]
    have g5 := g4.pick 7 [1, 2, 3, 4, 5, 6, 0] rfl rfl
    refine pThereC (i := i + 1) (M := Prt.one b13 _ :: M) g5 hi' fun H5 g6 => ?_
    have g6 := St.pick (L := _ :: _ :: _ :: _ :: _ :: _ :: _ :: M) g6 7 [6, 0, 1, 2, 3, 4, 5] rfl rfl
    have hK := hK H5 (back' x H5 g6.less)
    simp only [asI_mk', asB_mk, asP_mk, asA_mk, asM_mk, asSl_mk, asStr_mk, tup2_mk, tup3_mk, agg1_mk, agg2_mk, agg3_mk, agg4_mk, asAggm, unCons_mk, unNil_mk, asTup_mk, extractD0, extractD1, List.toList_toArray, nilP_mk, add_mk, Nat.zero_add, Nat.add_zero, condT, condF, Bool.not_true, Bool.not_false, Option.isNone_some, Option.isNone_none]
    cases hgs : hGet s k with
    | none =>
      simp only [Option.isSome_none, Bool.not_false, condT]
      simp only [pMark, hl, hgs, if_true] at hK
      exact hK
    | some o =>
      simp only [Option.isSome_some, Bool.not_true, condF]
      simp only [pMark, hl, hgs, reduceCtorEq, if_false] at hK
      refine ldI_of (g6.cell (i := 0) (o := 0) rfl rfl) (ldB_of (g6.cell (i := 0) (o := 1) rfl rfl) ?_)
      rw [hl]
      exact hK

theorem pShades_take {l : List Id} {r : Int} {k : Nat} (hk : k < l.length) : pShades s p (l.take (k + 1)) r = pShade s (pShades s p (l.take k) r) (l.getD k noId) r := by
  unfold pShades
  rw [List.take_add_one, List.foldl_append, List.getD_eq_getElem?_getD, List.getElem?_eq_getElem hk]
  rfl
theorem pScanC {k : Int} (h : St H0 L H) (hi : L[i]? = some (HeapP hb s)) (hj : L[j]? = some (PaintP pb hb p)) (hij : i ≠ j)
    (hK : ∀ H', St H0 (L.set j (PaintP pb hb (pScan s p k).2)) H' → K (.bool (pScan s p k).1) H') :
    hcall PR f_paint_Paint_Scan ⟨[.pointer (some ⟨pb, 0, none⟩), .int .u64 k]⟩ H K := by
  have hs7 := (heap_ok h hi).obs
  obtain ⟨x, M, g, ho, hM, backN⟩ := paintTakeN h hj
  have back : ∀ p' x' H', St H0 (paintParts pb hb p' x' ++ M) H' → St H0 (L.set j (PaintP pb hb p')) H' := fun p' x' H' h' => backN [] p' x' H' h'
  have hi' := hM i _ hi hij
  clear hM
  apply den_paint_Paint_Scan
  unfold B_paint_Paint_Scan
  simp only [asI_mk', asB_mk, asP_mk, asA_mk, asM_mk, asSl_mk, asStr_mk, tup2_mk, tup3_mk, agg1_mk, agg2_mk, agg3_mk, agg4_mk, asAggm, unCons_mk, unNil_mk, asTup_mk, extractD0, extractD1, List.toList_toArray, nilP_mk, add_mk, Nat.zero_add, Nat.add_zero, condT, condF, Bool.not_true, Bool.not_false, Option.isNone_some, Option.isNone_none]
  have hz : (((mlook p.marks k).map markV).getD (.agg #[.int .i64 0, .bool false])) = .agg #[.int .i64 ((mlook p.marks k).getD (0, false)).1, .bool ((mlook p.marks k).getD (0, false)).2] := by cases mlook p.marks k <;> rfl
  refine ldP_of (g.cell (i := 0) rfl rfl) (hObjC g (i := i + 6) hi' (fun hg H1 g1 => ?_) fun o hg rp rc vp vc H1 g1 => ?_)
  · simp only [asI_mk', asB_mk, asP_mk, asA_mk, asM_mk, asSl_mk, asStr_mk, tup2_mk, tup3_mk, agg1_mk, agg2_mk, agg3_mk, agg4_mk, asAggm, unCons_mk, unNil_mk, asTup_mk, extractD0, extractD1, List.toList_toArray, nilP_mk, add_mk, Nat.zero_add, Nat.add_zero, condT, condF, Bool.not_true, Bool.not_false, Option.isNone_some, Option.isNone_none]
    refine box5 g1 fun b30 H2 g2 => ?_
    refine ldM_of (g2.cell (i := 1) rfl rfl) (g2.look (i := 2) (l := p.marks) (enc := Value.int .u64) (f := markV) rfl hp_key mm_map mm_zero ho.marks k false ?_)
    rw [if_neg (by decide), hz]
    simp only [asI_mk', asB_mk, asP_mk, asA_mk, asM_mk, asSl_mk, asStr_mk, tup2_mk, tup3_mk, agg1_mk, agg2_mk, agg3_mk, agg4_mk, asAggm, unCons_mk, unNil_mk, asTup_mk, extractD0, extractD1, List.toList_toArray, nilP_mk, add_mk, Nat.zero_add, Nat.add_zero, condT, condF, Bool.not_true, Bool.not_false, Option.isNone_some, Option.isNone_none]
    intro b44 hb44
    have g3 := g2.alloc (o := .cells #[.int .i64 0, .bool false] ty_paint_mark) hb44
    refine g3.put (i := 0) rfl (by simp) fun H4 g4 => g4.put (i := 0) rfl (by simp) fun H5 g5 => ?_
    have hK := hK H5
    simp only [pScan, hg] at hK
    exact hK (back p x H5 g5.less.less)
  · simp only [asI_mk', asB_mk, asP_mk, asA_mk, asM_mk, asSl_mk, asStr_mk, tup2_mk, tup3_mk, agg1_mk, agg2_mk, agg3_mk, agg4_mk, asAggm, unCons_mk, unNil_mk, asTup_mk, extractD0, extractD1, List.toList_toArray, nilP_mk, add_mk, Nat.zero_add, Nat.add_zero, condT, condF, Bool.not_true, Bool.not_false, Option.isNone_some, Option.isNone_none]
    refine box5 g1 fun b30 H2 g2 => ?_
    refine ldM_of (g2.cell (i := 3) rfl rfl) (g2.look (i := 4) (l := p.marks) (enc := Value.int .u64) (f := markV) rfl hp_key mm_map mm_zero ho.marks k false ?_)
    rw [if_neg (by decide), hz]
    simp only [asI_mk', asB_mk, asP_mk, asA_mk, asM_mk, asSl_mk, asStr_mk, tup2_mk, tup3_mk, agg1_mk, agg2_mk, agg3_mk, agg4_mk, asAggm, unCons_mk, unNil_mk, asTup_mk, extractD0, extractD1, List.toList_toArray, nilP_mk, add_mk, Nat.zero_add, Nat.add_zero, condT, condF, Bool.not_true, Bool.not_false, Option.isNone_some, Option.isNone_none]
    intro b44 hb44
    have g3 := g2.alloc (o := .cells #[.int .i64 0, .bool false] ty_paint_mark) hb44
    refine g3.put (i := 0) rfl (by simp) fun H4 g4 => g4.put (i := 0) rfl (by simp) fun H5 g5 => ?_
    refine ldB_of (g5.cell (i := 0) (o := 1) rfl rfl) ?_
    cases hl : mlook p.marks k with
    | none =>
      refine (show cond (!(((none : Option (Int × Bool))).getD (0, false)).2) _ _ from ?_)
      have hK := hK H5
      simp only [pScan, hg, hl] at hK
      exact hK (back p x H5 g5.less.less.less.less)
    | some w =>
      obtain ⟨w1, w2⟩ := w
      cases w2 with
      | false =>
        have hK := hK H5
        simp only [pScan, hg, hl] at hK
        exact hK (back p x H5 g5.less.less.less.less)
      | true =>
        rw [hl] at g5
        simp only [Option.getD_some] at g5
        refine (show cond (!true) _ _ from ?_)
        simp only [Bool.not_true, condF]
        refine ldM_of (g5.cell (i := 4) rfl rfl) (ldI_of (g5.cell (i := 0) rfl rfl) (g5.mupd (i := 5) (l := p.marks) (enc := Value.int .u64) (f := markV) rfl hp_key mm_map ho.marks k (w1, false) rfl fun H6 g6 => ?_))
        have ok1 := ho.mark (k := k) (mlook_ranks ho hl) (g := false)
        have g7 := g6.refact (i := 9) (q := ({ p with marks := mput p.marks k (w1, false) } : Ps).ok) rfl ok1
        refine ldSl_of (g7.cell (i := 1) rfl rfl) ?_
        have hsc : pScan s p k = (true, pShades s { p with marks := mput p.marks k (w1, false) } o.refs w1) := by simp only [pScan, hg, hl]
        rw [hsc] at hK
        generalize hp0 : ({ p with marks := mput p.marks k (w1, false) } : Ps) = p0 at hK ok1
        have g9 : St H0 ([Prt.one b44 (.cells #[.int .i64 w1, .bool true] ty_paint_mark (0, 0)), Prt.one b30 (.cells #[.int .u64 k, .int .i64 o.cell, .slice rp o.refs.length rc, .slice vp o.vals.length vc, .int .i64 o.din] ty_api_Object (0, 0)), Prt.row 2 rp o.refs.length rc (cel Id.cells o.refs), Prt.row 1 vp o.vals.length vc (o.vals.map (Value.int .u64))] ++ (paintParts pb hb p0 x ++ M)) H6 := by
          rw [← hp0]; exact g7
        have g10 := backN _ p0 x H6 g9
        clear g9 g7 g6 g5 g4 g3 g2 g1 g backN back
        have hr7 := (hs7 o (hGet_mem hg).1).refs
        have hjl := ltOfGet hj
        refine ⟨fun t H' => ∃ m : Nat, t = m ∧ m ≤ o.refs.length ∧ St H0 ([Prt.one b44 (.cells #[.int .i64 w1, .bool true] ty_paint_mark (0, 0)), Prt.one b30 (.cells #[.int .u64 k, .int .i64 o.cell, .slice rp o.refs.length rc, .slice vp o.vals.length vc, .int .i64 o.din] ty_api_Object (0, 0)), Prt.row 2 rp o.refs.length rc (cel Id.cells o.refs), Prt.row 1 vp o.vals.length vc (o.vals.map (Value.int .u64))] ++ L.set j (PaintP pb hb (pShades s p0 (o.refs.take m) w1))) H',
          fun t _ => (o.refs.length - t).toNat, ⟨0, rfl, by omega, by rw [List.take_zero]; exact g10⟩, ?_⟩
        rintro t H7 ⟨m, rfl, hm, g11⟩
        by_cases hlt : (m : Int) < (o.refs.length : Int)
        · refine bif_pos hlt (idxS Id.len noId (g11.row_rd (i := 2) rfl) (by omega) (by omega) hlt fun b1 o1 _ hl1 hcc => ?_)
          have c0 := hcc 0 (by omega)
          have c1 := hcc 1 (by omega)
          simp only [asI_mk', asB_mk, asP_mk, asA_mk, asM_mk, asSl_mk, asStr_mk, tup2_mk, tup3_mk, agg1_mk, agg2_mk, agg3_mk, agg4_mk, asAggm, unCons_mk, unNil_mk, asTup_mk, extractD0, extractD1, List.toList_toArray, nilP_mk, add_mk, Nat.zero_add, Nat.add_zero, condT, condF, Bool.not_true, Bool.not_false, Option.isNone_some, Option.isNone_none]
          refine ldI_of c0 (ldI_of c1 (box2 g11 fun b64 H8 g12 => ?_))
          refine ldI_of (g12.cell (i := 0) rfl rfl) (ldI_of (g12.cell (i := 0) rfl rfl) (ldI_of (g12.cell (i := 1) rfl rfl) ?_))
          rw [Int.toNat_natCast]
          refine pShadeC (i := i + 5) (j := j + 5) (y := o.refs.getD m noId) g12 ?_ (p := pShades s p0 (o.refs.take m) w1) (hb := hb) (pb := pb) (s := s) ?_ (by omega) fun H9 g13 => ?_
          · show (L.set j _)[i]? = _
            rw [List.getElem?_set_ne (Ne.symm hij)]; exact hi
          · show (L.set j _)[j]? = _
            simp [hjl]
          · rw [wrap_i64 (by omega) (by omega)]
            refine ⟨⟨m + 1, by omega, by omega, ?_⟩, by (try dsimp only); omega⟩
            rw [pShades_take (by omega)]
            have g14 := St.less g13
            rw [show (List.set _ (j + 4) _) = _ from rfl] at g14
            simpa using g14
        · obtain rfl : m = o.refs.length := by omega
          rw [List.take_length] at g11
          refine bif_neg hlt (hK H7 (St.lesses (M := [_, _, _, _]) g11))

theorem pMetC {y : Id} (h : St H0 L H) (hj : L[j]? = some (PaintP pb hb p)) (hK : ∀ H', St H0 L H' → K (.tuple #[.int .i64 (pMet p y).1, .bool (pMet p y).2]) H') :
    hcall PR f_paint_Paint_Met ⟨[.pointer (some ⟨pb, 0, none⟩), .agg #[.int .i64 y.n, .int .u64 y.s]]⟩ H K := by
  obtain ⟨x, M, g, ho, hM, back⟩ := paintTake h hj
  apply den_paint_Paint_Met
  unfold B_paint_Paint_Met
  intro b4 hb4
  have g1 := g.alloc (o := .cells #[.int .i64 y.n, .int .u64 y.s] ty_api_ID) hb4
  simp only [asI_mk', asB_mk, asP_mk, asA_mk, asM_mk, asSl_mk, asStr_mk, tup2_mk, tup3_mk, agg1_mk, agg2_mk, agg3_mk, agg4_mk, asAggm, unCons_mk, unNil_mk, asTup_mk, extractD0, extractD1, List.toList_toArray, nilP_mk, add_mk, Nat.zero_add, Nat.add_zero, condT, condF, Bool.not_true, Bool.not_false, Option.isNone_some, Option.isNone_none]
  refine ldM_of (g1.cell (i := 1) rfl rfl) (ldI_of (g1.cell (i := 0) rfl rfl) (ldI_of (g1.cell (i := 0) rfl rfl) (g1.look (i := 3) (l := p.met) (enc := Id.val) (f := Value.int .i64) rfl idKey me_map me_zero ho.met y true ?_)))
  have hz : (((mlook p.met y).map (Value.int .i64)).getD (.int .i64 0)) = .int .i64 ((mlook p.met y).getD 0) := by cases mlook p.met y <;> rfl
  rw [if_pos rfl, hz]
  simp only [asI_mk', asB_mk, asP_mk, asA_mk, asM_mk, asSl_mk, asStr_mk, tup2_mk, tup3_mk, agg1_mk, agg2_mk, agg3_mk, agg4_mk, asAggm, unCons_mk, unNil_mk, asTup_mk, extractD0, extractD1, List.toList_toArray, nilP_mk, add_mk, Nat.zero_add, Nat.add_zero, condT, condF, Bool.not_true, Bool.not_false, Option.isNone_some, Option.isNone_none]
  have hb := back p x _ g1.less
  rw [List.set_self hj] at hb
  have hK := hK _ hb
  unfold pMet at hK
  cases hl : mlook p.met y with
  | none => rw [hl] at hK; exact hK
  | some w => rw [hl] at hK; exact hK

theorem pForgetC {k : Int} (h : St H0 L H) (hj : L[j]? = some (PaintP pb hb p)) (hK : ∀ H', St H0 (L.set j (PaintP pb hb (pForget p k))) H' → K (.tuple #[]) H') :
    hcall PR f_paint_Paint_Forget ⟨[.pointer (some ⟨pb, 0, none⟩), .int .u64 k]⟩ H K := by
  obtain ⟨x, M, g, ho, hM, back⟩ := paintTake h hj
  apply den_paint_Paint_Forget
  unfold B_paint_Paint_Forget
  simp only [asI_mk', asB_mk, asP_mk, asA_mk, asM_mk, asSl_mk, asStr_mk, tup2_mk, tup3_mk, agg1_mk, agg2_mk, agg3_mk, agg4_mk, asAggm, unCons_mk, unNil_mk, asTup_mk, extractD0, extractD1, List.toList_toArray, nilP_mk, add_mk, Nat.zero_add, Nat.add_zero, condT, condF, Bool.not_true, Bool.not_false, Option.isNone_some, Option.isNone_none]
  refine ldM_of (g.cell (i := 0) rfl rfl) (g.mdelete (i := 1) (l := p.marks) (enc := Value.int .u64) (f := markV) rfl hp_key mm_map ho.marks k fun H2 g2 => ?_)
  exact hK H2 (back (pForget p k) x H2 (g2.refact (i := 5) (q := (pForget p k).ok) rfl ho.forget))

theorem pOverC (h : St H0 L H) (hj : L[j]? = some (PaintP pb hb p)) (hK : K (.bool p.over) H) : hcall PR f_paint_Paint_Over ⟨[.pointer (some ⟨pb, 0, none⟩)]⟩ H K := by
  obtain ⟨x, M, g, ho, hM, back⟩ := paintTake h hj
  apply den_paint_Paint_Over
  unfold B_paint_Paint_Over
  simp only [asI_mk', asB_mk, asP_mk, asA_mk, asM_mk, asSl_mk, asStr_mk, tup2_mk, tup3_mk, agg1_mk, agg2_mk, agg3_mk, agg4_mk, asAggm, unCons_mk, unNil_mk, asTup_mk, extractD0, extractD1, List.toList_toArray, nilP_mk, add_mk, Nat.zero_add, Nat.add_zero, condT, condF, Bool.not_true, Bool.not_false, Option.isNone_some, Option.isNone_none]
  refine ldP_of (g.cell (i := 0) rfl rfl) ?_
  apply den_grey_Stack_uint64_Over
  unfold B_grey_Stack_uint64_Over
  simp only [asI_mk', asB_mk, asP_mk, asA_mk, asM_mk, asSl_mk, asStr_mk, tup2_mk, tup3_mk, agg1_mk, agg2_mk, agg3_mk, agg4_mk, asAggm, unCons_mk, unNil_mk, asTup_mk, extractD0, extractD1, List.toList_toArray, nilP_mk, add_mk, Nat.zero_add, Nat.add_zero, condT, condF, Bool.not_true, Bool.not_false, Option.isNone_some, Option.isNone_none]
  refine ldB_of (g.cell (i := 3) rfl rfl) ?_
  exact hK
theorem pRestC (h : St H0 L H) (hj : L[j]? = some (PaintP pb hb p)) (hK : ∀ H', St H0 (L.set j (PaintP pb hb (pRest p))) H' → K (.tuple #[]) H') : hcall PR f_paint_Paint_Rest ⟨[.pointer (some ⟨pb, 0, none⟩)]⟩ H K := by
  obtain ⟨x, M, g, ho, hM, back⟩ := paintTake h hj
  apply den_paint_Paint_Rest
  unfold B_paint_Paint_Rest
  simp only [asI_mk', asB_mk, asP_mk, asA_mk, asM_mk, asSl_mk, asStr_mk, tup2_mk, tup3_mk, agg1_mk, agg2_mk, agg3_mk, agg4_mk, asAggm, unCons_mk, unNil_mk, asTup_mk, extractD0, extractD1, List.toList_toArray, nilP_mk, add_mk, Nat.zero_add, Nat.add_zero, condT, condF, Bool.not_true, Bool.not_false, Option.isNone_some, Option.isNone_none]
  refine ldP_of (g.cell (i := 0) rfl rfl) ?_
  apply den_grey_Stack_uint64_Rest
  unfold B_grey_Stack_uint64_Rest
  simp only [asI_mk', asB_mk, asP_mk, asA_mk, asM_mk, asSl_mk, asStr_mk, tup2_mk, tup3_mk, agg1_mk, agg2_mk, agg3_mk, agg4_mk, asAggm, unCons_mk, unNil_mk, asTup_mk, extractD0, extractD1, List.toList_toArray, nilP_mk, add_mk, Nat.zero_add, Nat.add_zero, condT, condF, Bool.not_true, Bool.not_false, Option.isNone_some, Option.isNone_none]
  refine g.put (i := 3) rfl (by simp) fun H2 g2 => hK H2 (back (pRest p) x H2 (g2.refact (i := 5) (q := (pRest p).ok) rfl ho.rest))
theorem pPopC (h : St H0 L H) (hj : L[j]? = some (PaintP pb hb p)) (hK : ∀ H', St H0 (L.set j (PaintP pb hb (pPop p).2)) H' → K (.tuple #[.int .u64 (pPop p).1.1, .bool (pPop p).1.2]) H') : hcall PR f_paint_Paint_Pop ⟨[.pointer (some ⟨pb, 0, none⟩)]⟩ H K := by
  obtain ⟨x, M, g, ho, hM, back⟩ := paintTake h hj
  apply den_paint_Paint_Pop
  unfold B_paint_Paint_Pop
  simp only [asI_mk', asB_mk, asP_mk, asA_mk, asM_mk, asSl_mk, asStr_mk, tup2_mk, tup3_mk, agg1_mk, agg2_mk, agg3_mk, agg4_mk, asAggm, unCons_mk, unNil_mk, asTup_mk, extractD0, extractD1, List.toList_toArray, nilP_mk, add_mk, Nat.zero_add, Nat.add_zero, condT, condF, Bool.not_true, Bool.not_false, Option.isNone_some, Option.isNone_none]
  have := ho.stack
  have := ho.most
  refine ldP_of (g.cell (i := 0) rfl rfl) (gPopC (i := 3) (j := 4) g rfl rfl (by decide) (by omega) (fun hl => ?_) fun k hl H2 g2 => ?_)
  · simp only [asI_mk', asB_mk, asP_mk, asA_mk, asM_mk, asSl_mk, asStr_mk, tup2_mk, tup3_mk, agg1_mk, agg2_mk, agg3_mk, agg4_mk, asAggm, unCons_mk, unNil_mk, asTup_mk, extractD0, extractD1, List.toList_toArray, nilP_mk, add_mk, Nat.zero_add, Nat.add_zero, condT, condF, Bool.not_true, Bool.not_false, Option.isNone_some, Option.isNone_none]
    have hK := hK H
    simp only [pPop, hl] at hK
    exact hK (back p x H g)
  · simp only [asI_mk', asB_mk, asP_mk, asA_mk, asM_mk, asSl_mk, asStr_mk, tup2_mk, tup3_mk, agg1_mk, agg2_mk, agg3_mk, agg4_mk, asAggm, unCons_mk, unNil_mk, asTup_mk, extractD0, extractD1, List.toList_toArray, nilP_mk, add_mk, Nat.zero_add, Nat.add_zero, condT, condF, Bool.not_true, Bool.not_false, Option.isNone_some, Option.isNone_none]
    have hK := hK H2
    simp only [pPop, hl] at hK
    refine hK (back _ x H2 (g2.refact (i := 5) (q := ({ p with stack := p.stack.dropLast } : Ps).ok) rfl ?_))
    have := ho.pop
    simp only [pPop, hl] at this
    exact this
theorem pTurnC (h : St H0 L H) (hj : L[j]? = some (PaintP pb hb p)) (hK : ∀ H', St H0 (L.set j (PaintP pb hb (pTurn p))) H' → K (.tuple #[]) H') : hcall PR f_paint_Paint_Turn ⟨[.pointer (some ⟨pb, 0, none⟩)]⟩ H K := by
  obtain ⟨x, M, g, ho, hM, back⟩ := paintTake h hj
  apply den_paint_Paint_Turn
  unfold B_paint_Paint_Turn
  simp only [asI_mk', asB_mk, asP_mk, asA_mk, asM_mk, asSl_mk, asStr_mk, tup2_mk, tup3_mk, agg1_mk, agg2_mk, agg3_mk, agg4_mk, asAggm, unCons_mk, unNil_mk, asTup_mk, extractD0, extractD1, List.toList_toArray, nilP_mk, add_mk, Nat.zero_add, Nat.add_zero, condT, condF, Bool.not_true, Bool.not_false, Option.isNone_some, Option.isNone_none]
  refine ldI_of (g.cell (i := 0) rfl rfl) (g.put (i := 0) rfl (by simp) fun H1 g1 => ?_)
  intro b6 hb6
  have g2 := g1.mpNew hb6
  refine g2.put (i := 1) rfl (by simp) fun H3 g3 => ?_
  intro b10 hb10
  have g4 := g3.mpNew hb10
  refine g4.put (i := 2) rfl (by simp) fun H5 g5 => ldP_of (g5.cell (i := 2) rfl rfl) ?_
  apply den_grey_Stack_uint64_Clear
  unfold B_grey_Stack_uint64_Clear
  simp only [asI_mk', asB_mk, asP_mk, asA_mk, asM_mk, asSl_mk, asStr_mk, tup2_mk, tup3_mk, agg1_mk, agg2_mk, agg3_mk, agg4_mk, asAggm, unCons_mk, unNil_mk, asTup_mk, extractD0, extractD1, List.toList_toArray, nilP_mk, add_mk, Nat.zero_add, Nat.add_zero, condT, condF, Bool.not_true, Bool.not_false, Option.isNone_some, Option.isNone_none]
  refine g5.put (i := 5) rfl (by simp) fun H6 g6 => g6.put (i := 5) rfl (by simp) fun H7 g7 => ?_
  have g8 := g7.row_to (i := 6) (k' := 1) (n' := 0) (cap' := 0) (p' := none) (xs' := []) rfl (Own.nil 1) ((Goes.refl _ _).less fun c hc => absurd hc blk_none)
  have g9 := g8.refact (i := 7) (q := (pTurn p).ok) rfl ho.turn
  have g10 := g9.pick 8 [3, 4, 2, 1, 0, 5, 6, 7] rfl rfl
  exact hK H7 (back (pTurn p) { x with mm := b6, me := b10, sp := none, sc := 0 } H7 g10.less.less)
theorem pNewOk {m : Int} (h : St H0 L H) (h1 : 1 ≤ m) (h2 : m ≤ 64) (hK : ∀ b H', St H0 (PaintP b hb (newPs m) :: L) H' → K (.tuple #[.pointer (some ⟨b, 0, none⟩), .int .i64 0]) H') :
    hcall PR f_paint_New ⟨[.pointer (some ⟨hb, 0, none⟩), .int .i64 m]⟩ H K := by
  apply den_paint_New
  unfold B_paint_New
  simp only [Option.isNone_some, condF]
  apply den_grey_New_uint64
  unfold B_grey_New_uint64
  refine bif_neg (by omega) (bif_neg (by omega) ?_)
  intro b2 hb2
  have g1 := h.alloc (o := .cells #[.slice none 0 0, .int .i64 m, .bool false] ty_grey_Stack_uint64) hb2
  simp only [asI_mk', asB_mk, asP_mk, asA_mk, asM_mk, asSl_mk, asStr_mk, tup2_mk, tup3_mk, agg1_mk, agg2_mk, agg3_mk, agg4_mk, asAggm, unCons_mk, unNil_mk, asTup_mk, extractD0, extractD1, List.toList_toArray, nilP_mk, add_mk, Nat.zero_add, Nat.add_zero, condT, condF, Bool.not_true, Bool.not_false, Option.isNone_some, Option.isNone_none]
  refine bif_neqf rfl ?_
  intro b9 hb9
  have g2 := g1.mpNew hb9
  intro b11 hb11
  have g3 := g2.mpNew hb11
  intro b13 hb13
  have g4 := g3.alloc (o := .cells #[ptrV hb, .map (some b9), .map (some b11), ptrV b2, .int .u64 0] ty_paint_Paint) hb13
  have g5 := g4.row (H' := _) (Own.nil 1) ((Goes.refl Nothing _).less fun c hc => absurd hc blk_none)
  have g6 := g5.say (newPs_ok ⟨h1, h2⟩)
  have g7 := g6.pick 6 [2, 4, 3, 5, 1, 0] rfl rfl
  exact hK b13 _ (St.gatherEx (M := paintParts b13 hb (newPs m)) ⟨b9, b11, b2, none, 0, ty_paint_Paint, ty_grey_Stack_uint64⟩ g7)
theorem pBlackenC {k : Int} (h : St H0 L H) (hi : L[i]? = some (HeapP hb s)) (hj : L[j]? = some (PaintP pb hb p)) (hij : i ≠ j) (hK : ∀ H', St H0 (L.set j (PaintP pb hb (pBlacken s p k))) H' → K (.tuple #[]) H') :
    hcall PR f_paint_Paint_Blacken ⟨[.pointer (some ⟨pb, 0, none⟩), .int .u64 k]⟩ H K := by
  obtain ⟨x, M, g, ho, hM, back⟩ := paintTake h hj
  have hi' := hM i _ hi hij
  clear hM
  apply den_paint_Paint_Blacken
  unfold B_paint_Paint_Blacken
  simp only [asI_mk', asB_mk, asP_mk, asA_mk, asM_mk, asSl_mk, asStr_mk, tup2_mk, tup3_mk, agg1_mk, agg2_mk, agg3_mk, agg4_mk, asAggm, unCons_mk, unNil_mk, asTup_mk, extractD0, extractD1, List.toList_toArray, nilP_mk, add_mk, Nat.zero_add, Nat.add_zero, condT, condF, Bool.not_true, Bool.not_false, Option.isNone_some, Option.isNone_none]
  have hz : (((mlook p.marks k).map markV).getD (.agg #[.int .i64 0, .bool false])) = .agg #[.int .i64 ((mlook p.marks k).getD (0, false)).1, .bool ((mlook p.marks k).getD (0, false)).2] := by cases mlook p.marks k <;> rfl
  refine ldM_of (g.cell (i := 0) rfl rfl) (g.look (i := 1) (l := p.marks) (enc := Value.int .u64) (f := markV) rfl hp_key mm_map mm_zero ho.marks k true ?_)
  rw [if_pos rfl, hz]
  simp only [asI_mk', asB_mk, asP_mk, asA_mk, asM_mk, asSl_mk, asStr_mk, tup2_mk, tup3_mk, agg1_mk, agg2_mk, agg3_mk, agg4_mk, asAggm, unCons_mk, unNil_mk, asTup_mk, extractD0, extractD1, List.toList_toArray, nilP_mk, add_mk, Nat.zero_add, Nat.add_zero, condT, condF, Bool.not_true, Bool.not_false, Option.isNone_some, Option.isNone_none]
  intro b13 hb13
  have g1 := g.alloc (o := .cells #[.int .i64 0, .bool false] ty_paint_mark) hb13
  refine g1.put (i := 0) rfl (by simp) fun H2 g2 => g2.put (i := 0) rfl (by simp) fun H3 g3 => ?_
  have g3 := g3.less
  unfold pBlacken at hK
  cases hl : mlook p.marks k with
  | some w =>
    rw [if_neg (fun hh => by rw [hl] at hh; cases hh.1)] at hK
    exact hK H3 (back p x H3 g3)
  | none =>
    simp only [Option.isSome_none, Bool.not_false, condT]
    refine pThereC (pb := pb) (hb := hb) (p := p) g3 hi' fun H4 g4 => ?_
    simp only [asI_mk', asB_mk, asP_mk, asA_mk, asM_mk, asSl_mk, asStr_mk, tup2_mk, tup3_mk, agg1_mk, agg2_mk, agg3_mk, agg4_mk, asAggm, unCons_mk, unNil_mk, asTup_mk, extractD0, extractD1, List.toList_toArray, nilP_mk, add_mk, Nat.zero_add, Nat.add_zero, condT, condF, Bool.not_true, Bool.not_false, Option.isNone_some, Option.isNone_none]
    cases hg : hGet s k with
    | none =>
      rw [if_neg (fun hh => hh.2 hg)] at hK
      simp only [Option.isSome_none, condF]
      exact hK H4 (back p x H4 g4)
    | some o =>
      rw [if_pos ⟨hl, by rw [hg]; simp⟩] at hK
      simp only [Option.isSome_some, condT]
      refine ldM_of (g4.cell (i := 0) rfl rfl) (g4.mupd (i := 1) (l := p.marks) (enc := Value.int .u64) (f := markV) rfl hp_key mm_map ho.marks k (0, false) rfl fun H5 g5 => ?_)
      have g6 := g5.refact (i := 5) (q := ({ p with marks := mput p.marks k (0, false) } : Ps).ok) rfl (ho.mark ⟨Int.le_refl _, by omega⟩)
      exact hK H5 (back { p with marks := mput p.marks k (0, false) } x H5 g6)
end
end Go.Proofs.YtojcacejgbnfkaaGreat

namespace Go.Proofs.YtojcacejgbnfkaaGreat
set_option linter.unusedSimpArgs false
set_option linter.unusedVariables false
open Go
section
variable {H0 H : Hp} {L M : List Prt} {i j rb qb : Nat} {s : Hs} {p : Ps} {x : RpX} {K : Value → Hp → Prop}
end
end Go.Proofs.YtojcacejgbnfkaaGreat

namespace Go.Proofs.YtojcacejgbnfkaaGreat
open Go
open Go.Shelf Go.RowKit Go.Lib
def sortOut_ren : Go.Shelf.Ren := ⟨fun | 6 => 156 | 15 => 186 | 14 => 185 | 28 => 199 | 29 => 200 | 20 => 191 | 21 => 192 | 22 => 193 | 23 => 194 | 24 => 195 | 25 => 196 | 26 => 197 | 27 => 198 | 46 => 202 | 47 => 203 | 48 => 204 | 49 => 205 | 50 => 206 | 57 => 215 | n => n, fun | 22 => 55 | 24 => 128 | 25 => 228 | 3 => 3 | 39 => 247 | 0 => 0 | 53 => 263 | 55 => 37 | 4 => 4 | 46 => 257 | 45 => 256 | 50 => 203 | 5 => 5 | 9 => 9 | 66 => 266 | 70 => 269 | 76 => 276 | 77 => 277 | n => n, fun | n => n⟩
theorem sortOut : Go.Proofs.SlLaysF0.n6 Tryz.prog sortOut_ren := {
  mixed := by kernel_rfl
  f6 := ⟨Tryz.f156.name, by decide, Tryz.func156.trans (congrArg some (by kernel_rfl))⟩
  f14 := ⟨Tryz.f185.name, by decide, Tryz.func185.trans (congrArg some (by kernel_rfl))⟩
  f15 := Tryz.func186.trans (congrArg some (by kernel_rfl))
  f20 := ⟨Tryz.f191.name, by decide, Tryz.func191.trans (congrArg some (by kernel_rfl))⟩
  f21 := ⟨Tryz.f192.name, by decide, Tryz.func192.trans (congrArg some (by kernel_rfl))⟩
  f22 := ⟨Tryz.f193.name, by decide, Tryz.func193.trans (congrArg some (by kernel_rfl))⟩
  f23 := ⟨Tryz.f194.name, by decide, Tryz.func194.trans (congrArg some (by kernel_rfl))⟩
  f24 := ⟨Tryz.f195.name, by decide, Tryz.func195.trans (congrArg some (by kernel_rfl))⟩
  f25 := ⟨Tryz.f196.name, by decide, Tryz.func196.trans (congrArg some (by kernel_rfl))⟩
  f26 := ⟨Tryz.f197.name, by decide, Tryz.func197.trans (congrArg some (by kernel_rfl))⟩
  f27 := ⟨Tryz.f198.name, by decide, Tryz.func198.trans (congrArg some (by kernel_rfl))⟩
  f28 := Tryz.func199.trans (congrArg some (by kernel_rfl))
  f29 := Tryz.func200.trans (congrArg some (by kernel_rfl))
  f46 := ⟨Tryz.f202.name, by decide, Tryz.func202.trans (congrArg some (by kernel_rfl))⟩
  f47 := Tryz.func203.trans (congrArg some (by kernel_rfl))
  f48 := Tryz.func204.trans (congrArg some (by kernel_rfl))
  f49 := ⟨Tryz.f205.name, by decide, Tryz.func205.trans (congrArg some (by kernel_rfl))⟩
  f50 := ⟨Tryz.f206.name, by decide, Tryz.func206.trans (congrArg some (by kernel_rfl))⟩
  f57 := ⟨Tryz.f215.name, by decide, Tryz.func215.trans (congrArg some (by kernel_rfl))⟩
  t0 := Tryz.underlying0
  a0 := Tryz.isAgg0
  z0 := Tryz.sizeOf0
  v0 := Tryz.zeroValue0
  t3 := Tryz.underlying3
  a3 := Tryz.isAgg3
  z3 := Tryz.sizeOf3
  v3 := Tryz.zeroValue3
  t4 := Tryz.underlying4
  a4 := Tryz.isAgg4
  z4 := Tryz.sizeOf4
  v4 := Tryz.zeroValue4
  t5 := Tryz.underlying5
  a5 := Tryz.isAgg5
  z5 := Tryz.sizeOf5
  v5 := Tryz.zeroValue5
  t9 := Tryz.underlying9
  a9 := Tryz.isAgg9
  z9 := Tryz.sizeOf9
  v9 := Tryz.zeroValue9
  t22 := Tryz.underlying55
  a22 := Tryz.isAgg55
  z22 := Tryz.sizeOf55
  v22 := Tryz.zeroValue55
  t25 := Tryz.underlying228
  a25 := Tryz.isAgg228
  z25 := Tryz.sizeOf228
  v25 := Tryz.zeroValue228
  t39 := Tryz.underlying247
  a39 := Tryz.isAgg247
  z39 := Tryz.sizeOf247
  v39 := Tryz.zeroValue247
  t45 := Tryz.underlying256
  a45 := Tryz.isAgg256
  z45 := Tryz.sizeOf256
  v45 := Tryz.zeroValue256
  t46 := Tryz.underlying257
  a46 := Tryz.isAgg257
  z46 := Tryz.sizeOf257
  v46 := Tryz.zeroValue257
  t50 := Tryz.underlying203
  a50 := Tryz.isAgg203
  z50 := Tryz.sizeOf203
  v50 := Tryz.zeroValue203
  t53 := Tryz.underlying263
  a53 := Tryz.isAgg263
  z53 := Tryz.sizeOf263
  v53 := Tryz.zeroValue263
  t55 := Tryz.underlying37
  a55 := Tryz.isAgg37
  z55 := Tryz.sizeOf37
  v55 := Tryz.zeroValue37
  t66 := Tryz.underlying266
  a66 := Tryz.isAgg266
  z66 := Tryz.sizeOf266
  v66 := Tryz.zeroValue266
  t70 := Tryz.underlying269
  a70 := Tryz.isAgg269
  z70 := Tryz.sizeOf269
  v70 := Tryz.zeroValue269
  t76 := Tryz.underlying276
  a76 := Tryz.isAgg276
  z76 := Tryz.sizeOf276
  v76 := Tryz.zeroValue276
  t77 := Tryz.underlying277
  a77 := Tryz.isAgg277
  z77 := Tryz.sizeOf277
  v77 := Tryz.zeroValue277 }

end Go.Proofs.YtojcacejgbnfkaaGreat

namespace Go.Proofs.YtojcacejgbnfkaaGreat
set_option linter.unusedSimpArgs false
set_option linter.unusedVariables false
open Go
open Go.Shelf Go.RowKit Go.Lib
instance : Inhabited (Id × Int) := ⟨(noId, 0)⟩

/-- All that was met, rising. -/
def outsOf (p : Ps) : List (Id × Int) := p.met.foldl (fun t e => tPut t e.1 e.2) []
theorem outs_fold : ∀ {l : List (Id × Int)} {t m : List (Id × Int)}, keyed t → t.Perm m → mnod (m ++ l) → (∀ e ∈ m ++ l, isId e.1) → keyed (l.foldl (fun t e => tPut t e.1 e.2) t) ∧ (l.foldl (fun t e => tPut t e.1 e.2) t).Perm (m ++ l)
  | [], t, m, ht, hp, _, _ => ⟨ht, by rw [List.append_nil]; exact hp⟩
  | e :: l, t, m, ht, hp, hn, hid => by
    have hnm : mnod m := by
      unfold mnod at hn ⊢
      rw [List.map_append] at hn
      exact (List.nodup_append.1 hn).1
    have hno : mhas m e.1 = false := mhas_false.2 fun q hq he => by
      unfold mnod at hn
      rw [List.map_append, List.nodup_append] at hn
      exact hn.2.2 q.1 (List.mem_map.2 ⟨q, hq, rfl⟩) e.1 (by simp) he
    have h1 := tPut_perm ht hp hnm (fun q hq => hid q (List.mem_append.2 (.inl hq))) (hid e (by simp)) e.2
    have h2 : mput m e.1 e.2 = m ++ [e] := by unfold mput; rw [hno, if_neg (by decide)]
    rw [h2] at h1
    have := outs_fold (l := l) (tPut_keyed ht e.1 e.2) h1 (by rw [List.append_assoc]; exact hn) (by rw [List.append_assoc]; exact hid)
    rw [List.append_assoc] at this
    exact this
theorem outsOf_ok {p : Ps} (h : p.ok) : keyed (outsOf p) ∧ (outsOf p).Perm p.met := by
  have := outs_fold (l := p.met) (t := []) (m := []) List.Pairwise.nil (List.Perm.refl _) h.met fun e he => (h.ids e he).1
  exact this
theorem outsOf_is {p : Ps} (h : p.ok) {t : List (Id × Int)} (ht : keyed t) (hp : t.Perm p.met) : t = outsOf p := by
  obtain ⟨h1, h2⟩ := outsOf_ok h
  exact keyed_unique ht h1 (hp.trans h2.symm)

section
variable {H0 H : Hp} {L M : List Prt} {i j hb pb rb qb : Nat} {s : Hs} {p : Ps} {K : Value → Hp → Prop}
theorem outsCmp (x y : Id × Int) (H : Hp) (K : Value → Hp → Prop) (hK : ∀ H', Keep Nothing H H' → K (.int .i64 (if keyV x.1 < keyV y.1 then -1 else 1)) H') : hcall PR f_paint_Paint_Outs_1 #[.agg (outC x).toArray, .agg (outC y).toArray] H K := by
  refine den_paint_Paint_Outs_1 (aNode1 := x.1.n) (aSerial2 := x.1.s) (aRank3 := x.2) (bNode4 := y.1.n) (bSerial5 := y.1.s) (bRank6 := y.2) ?_
  unfold B_paint_Paint_Outs_1
  intro b7 hb7
  have h1 := (St.start H).alloc (o := .cells #[.int .i64 x.1.n, .int .u64 x.1.s, .int .i64 x.2] ty_api_Out) hb7
  intro b9 hb9
  have h2 := h1.alloc (o := .cells #[.int .i64 y.1.n, .int .u64 y.1.s, .int .i64 y.2] ty_api_Out) hb9
  refine ldI_of (h2.cell (i := 1) rfl rfl) (ldI_of (h2.cell (i := 1) rfl rfl) (ldI_of (h2.cell (i := 0) rfl rfl) (ldI_of (h2.cell (i := 0) rfl rfl) (keyC h2 fun H3 h3 => ?_))))
  simp only [asI_mk', asB_mk, asP_mk, asA_mk, asM_mk, asSl_mk, asStr_mk, tup2_mk, tup3_mk, agg1_mk, agg2_mk, agg3_mk, agg4_mk, asAggm, unCons_mk, unNil_mk, asTup_mk, extractD0, extractD1, List.toList_toArray, nilP_mk, add_mk, Nat.zero_add, Nat.add_zero, condT, condF, Bool.not_true, Bool.not_false, Option.isNone_some, Option.isNone_none]
  refine ⟨ldI_of (h3.cell (i := 0) rfl rfl) (ldI_of (h3.cell (i := 0) rfl rfl) rfl), keyC h3 fun H4 h4 => ?_⟩
  simp only [asI_mk', asB_mk, asP_mk, asA_mk, asM_mk, asSl_mk, asStr_mk, tup2_mk, tup3_mk, agg1_mk, agg2_mk, agg3_mk, agg4_mk, asAggm, unCons_mk, unNil_mk, asTup_mk, extractD0, extractD1, List.toList_toArray, nilP_mk, add_mk, Nat.zero_add, Nat.add_zero, condT, condF, Bool.not_true, Bool.not_false, Option.isNone_some, Option.isNone_none]
  have hK := hK H4 h4.keep
  by_cases hlt : keyV x.1 < keyV y.1
  · rw [if_pos hlt] at hK
    exact bif_pos hlt hK
  · rw [if_neg hlt] at hK
    exact bif_neg hlt hK

theorem pOutsC (h : St H0 L H) (hj : L[j]? = some (PaintP pb hb p)) (hl : p.met.length ≤ 900000)
    (hK : ∀ q c H', St H0 (Prt.row 3 q (outsOf p).length c (cel outC (outsOf p)) :: L) H' → K (.slice q (outsOf p).length c) H') :
    hcall PR f_paint_Paint_Outs ⟨[.pointer (some ⟨pb, 0, none⟩)]⟩ H K := by
  obtain ⟨x, M, g, ho, hM, backN⟩ := paintTakeN h hj
  apply den_paint_Paint_Outs
  unfold B_paint_Paint_Outs
  simp only [asI_mk', asB_mk, asP_mk, asA_mk, asM_mk, asSl_mk, asStr_mk, tup2_mk, tup3_mk, agg1_mk, agg2_mk, agg3_mk, agg4_mk, asAggm, unCons_mk, unNil_mk, asTup_mk, extractD0, extractD1, List.toList_toArray, nilP_mk, add_mk, Nat.zero_add, Nat.add_zero, condT, condF, Bool.not_true, Bool.not_false, Option.isNone_some, Option.isNone_none]
  refine ldM_of (g.cell (i := 0) rfl rfl) (g.mrange (i := 2) rfl me_map fun it H2 g2 => ?_)
  simp only [asI_mk', asB_mk, asP_mk, asA_mk, asM_mk, asSl_mk, asStr_mk, tup2_mk, tup3_mk, agg1_mk, agg2_mk, agg3_mk, agg4_mk, asAggm, unCons_mk, unNil_mk, asTup_mk, extractD0, extractD1, List.toList_toArray, nilP_mk, add_mk, Nat.zero_add, Nat.add_zero, condT, condF, Bool.not_true, Bool.not_false, Option.isNone_some, Option.isNone_none]
  have g2 := g2.row (H' := _) (Own.nil 3) ((Goes.refl Nothing _).less fun c hc => absurd hc blk_none)
  let es := ments Id.val (Value.int .i64) p.met
  refine ⟨fun oP oL oC H' => ∃ (vis todo : List (Id × Int)) (cur : Option (Value × Value)), p.met.Perm (vis ++ todo) ∧ oL = vis.length ∧ St H0 (Prt.row 3 oP oL oC (cel outC vis) :: (paintParts pb hb p x ++ M).set 2 (Prt.mpit x.me it es (ments Id.val (Value.int .i64) todo) cur)) H',
    fun _ _ _ H' => leftOf H' x.me it, ⟨[], p.met, none, List.Perm.refl _, rfl, g2⟩, ?_⟩
  rintro oP oL oC H3 ⟨vis, todo, cur, hperm, rfl, g3⟩
  have hvl : vis.length ≤ p.met.length := by rw [hperm.length_eq]; simp
  have hleft := g3.mleft (i := 3) rfl
  intro R13 hR13
  refine g3.mnextT (i := 3) (f := Value.int .i64) rfl (fun e => ?_) fun q A B e H4 g4 => ?_
  · subst e
    rw [List.append_nil] at hperm
    refine nextC_over (hR13 false H3 ?_)
    clear hR13
    (try simp only [asI_mk', asB_mk, asP_mk, asA_mk, asM_mk, asSl_mk, asStr_mk, tup2_mk, tup3_mk, agg1_mk, agg2_mk, agg3_mk, agg4_mk, asAggm, unCons_mk, unNil_mk, asTup_mk, extractD0, extractD1, List.toList_toArray, nilP_mk, add_mk, Nat.zero_add, Nat.add_zero, condT, condF, Bool.not_true, Bool.not_false, Option.isNone_some, Option.isNone_none])
    have g5 := g3.mleave (i := 3) rfl
    have g6 : St H0 ([Prt.row 3 oP vis.length oC (cel outC vis)] ++ (paintParts pb hb p x ++ M)) H3 := g5
    have g7 := backN _ p x H3 g6
    rw [List.set_self hj] at g7
    have g7 : St H0 (Prt.row 3 oP vis.length oC (cel outC vis) :: L) H3 := g7
    refine sortC (enc := outC) (l := vis) sortOut (by omega) Tryz.isAgg128 Tryz.sizeOf128 outC_len (fun e v hv => by
      simp [outC] at hv
      rcases hv with rfl | rfl | rfl <;> rfl) (fun e : Id × Int => keyV e.1) f_paint_Paint_Outs_1 (Go.Proofs.enters_of Tryz.func157 (by kernel_rfl) rfl) outsCmp g7 (i := 0) rfl (by omega) fun l' H5 hp' hs' g8 => ?_
    (try simp only [asI_mk', asB_mk, asP_mk, asA_mk, asM_mk, asSl_mk, asStr_mk, tup2_mk, tup3_mk, agg1_mk, agg2_mk, agg3_mk, agg4_mk, asAggm, unCons_mk, unNil_mk, asTup_mk, extractD0, extractD1, List.toList_toArray, nilP_mk, add_mk, Nat.zero_add, Nat.add_zero, condT, condF, Bool.not_true, Bool.not_false, Option.isNone_some, Option.isNone_none])
    have hperm' : l'.Perm p.met := hp'.trans hperm.symm
    have hids : ∀ e ∈ l', isId e.1 := fun e he => (ho.ids e (hperm'.subset he)).1
    have hnod : mnod l' := (hperm'.map _).nodup_iff.2 ho.met
    have hkeyed : keyed l' := by
      unfold keyed
      unfold mnod List.Nodup at hnod
      rw [List.pairwise_map] at hnod
      refine (List.Pairwise.and hs' hnod).imp_of_mem fun {a b} ha hb hab => ?_
      have ia := hids a ha
      have ib := hids b hb
      have h1 := hab.1
      rw [keyV_id ia, keyV_id ib] at h1
      rcases Int.lt_or_lt_of_ne (fun e => hab.2 (keyOf_inj ia ib e)) with h | h
      · exact h
      · exact absurd h h1
    have e := outsOf_is ho hkeyed hperm'
    have hlen : vis.length = (outsOf p).length := by rw [← e]; exact hp'.length_eq.symm
    rw [e, hlen] at g8
    rw [hlen]
    exact hK oP oC H5 g8
  · refine nextC_more (hR13 true H4 ?_)
    clear hR13
    simp only [asI_mk', asB_mk, asP_mk, asA_mk, asM_mk, asSl_mk, asStr_mk, tup2_mk, tup3_mk, agg1_mk, agg2_mk, agg3_mk, agg4_mk, asAggm, unCons_mk, unNil_mk, asTup_mk, extractD0, extractD1, List.toList_toArray, nilP_mk, add_mk, Nat.zero_add, Nat.add_zero, condT, condF, Bool.not_true, Bool.not_false, Option.isNone_some, Option.isNone_none]
    have g4 : St H0 (Prt.row 3 oP vis.length oC (cel outC vis) :: (paintParts pb hb p x ++ M).set 2 (Prt.mpit x.me it es (ments Id.val (Value.int .i64) (A ++ B)) (some (Id.val q.1, .int .i64 q.2)))) H4 := g4
    refine g4.mentry (i := 3) rfl ?_
    simp only [asI_mk', asB_mk, asP_mk, asA_mk, asM_mk, asSl_mk, asStr_mk, tup2_mk, tup3_mk, agg1_mk, agg2_mk, agg3_mk, agg4_mk, asAggm, unCons_mk, unNil_mk, asTup_mk, extractD0, extractD1, List.toList_toArray, nilP_mk, add_mk, Nat.zero_add, Nat.add_zero, condT, condF, Bool.not_true, Bool.not_false, Option.isNone_some, Option.isNone_none]
    have hdec0 : leftOf H4 x.me it < leftOf H3 x.me it := by
      rw [hleft, g4.mleft (i := 3) rfl, e]
      simp [ments]
    refine box2 g4 fun b25 H5 g5 => ?_
    refine ldI_of (g5.cell (i := 0) rfl rfl) (ldI_of (g5.cell (i := 0) rfl rfl) ?_)
    refine lit_ty_Sapi_Out (m := 1) (c := #[.int .i64 q.1.n, .int .u64 q.1.s, .int .i64 q.2]) (g5.row_own (i := 1) rfl) rfl (fun z hz => by simp at hz; rcases hz with rfl | rfl | rfl <;> rfl) (by omega) fun p' cap' H6 ho' hg' => ?_
    simp only [asI_mk', asB_mk, asP_mk, asA_mk, asM_mk, asSl_mk, asStr_mk, tup2_mk, tup3_mk, agg1_mk, agg2_mk, agg3_mk, agg4_mk, asAggm, unCons_mk, unNil_mk, asTup_mk, extractD0, extractD1, List.toList_toArray, nilP_mk, add_mk, Nat.zero_add, Nat.add_zero, condT, condF, Bool.not_true, Bool.not_false, Option.isNone_some, Option.isNone_none]
    have g6 := (g5.row_to (i := 1) rfl ho' hg').less
    have hperm' : p.met.Perm ((vis ++ [q]) ++ (A ++ B)) := by
      rw [e] at hperm
      refine hperm.trans ?_
      rw [List.append_assoc]
      exact List.perm_middle.append_left vis |> fun h => h
    have e1 : cel outC vis ++ (#[Value.int .i64 q.1.n, .int .u64 q.1.s, .int .i64 q.2] : Array Value).toList = cel outC (vis ++ [q]) := by
      rw [cel_append]
      simp [cel, outC]
    rw [e1] at g6
    have g6 : St H0 (Prt.row 3 p' (vis.length + 1) cap' (cel outC (vis ++ [q])) :: (paintParts pb hb p x ++ M).set 2 (Prt.mpit x.me it es (ments Id.val (Value.int .i64) (A ++ B)) (some (Id.val q.1, .int .i64 q.2)))) H6 := g6
    refine ⟨⟨vis ++ [q], A ++ B, _, hperm', by simp, g6⟩, ?_⟩
    rw [g6.mleft (i := 3) rfl, hleft, e]
    simp [ments]

end
end Go.Proofs.YtojcacejgbnfkaaGreat

namespace Go.Proofs.YtojcacejgbnfkaaGreat
set_option linter.unusedSimpArgs false
set_option linter.unusedVariables false
open Go
/-- Ranks fall, nothing goes. -/
structure Falls (p q : Ps) : Prop where
  marks : ∀ k r g, mlook p.marks k = some (r, g) → ∃ r' g', mlook q.marks k = some (r', g') ∧ r' ≤ r
  met : ∀ x r, mlook p.met x = some r → ∃ r', mlook q.met x = some r' ∧ r' ≤ r
theorem Falls.refl (p : Ps) : Falls p p := ⟨fun k r g h => ⟨r, g, h, Int.le_refl _⟩, fun x r h => ⟨r, h, Int.le_refl _⟩⟩
theorem Falls.trans {p q t : Ps} (h : Falls p q) (k : Falls q t) : Falls p t :=
  ⟨fun y r g e => by
    obtain ⟨r1, g1, e1, h1⟩ := h.marks y r g e
    obtain ⟨r2, g2, e2, h2⟩ := k.marks y r1 g1 e1
    exact ⟨r2, g2, e2, by omega⟩,
  fun x r e => by
    obtain ⟨r1, e1, h1⟩ := h.met x r e
    obtain ⟨r2, e2, h2⟩ := k.met x r1 e1
    exact ⟨r2, e2, by omega⟩⟩

section
variable {s : Hs} {p : Ps} {x y : Id} {r q k : Int}
/-- What shading makes of the marks. -/
theorem shade_marks : (pShade s p x r).marks = p.marks ∨ (isId x ∧ x.n = s.node ∧ hGet s x.s ≠ none ∧ (pShade s p x r).marks = mput p.marks x.s (clampR r, true) ∧ ∀ was g, mlook p.marks x.s = some (was, g) → clampR r < was) := by
  unfold pShade
  split
  · exact .inl rfl
  · rename_i hid
    split
    · split
      · exact .inl rfl
      · split <;> exact .inl rfl
    · rename_i hn
      split
      · exact .inl rfl
      · rename_i hg
        split
        · rename_i hl
          exact .inr ⟨Classical.not_not.1 hid, Classical.not_not.1 hn, hg, by rw [pPush_marks], fun was g e => by rw [hl] at e; cases e⟩
        · rename_i was g hl
          split
          · exact .inl rfl
          · rename_i hw
            have h1 : ∀ was' g', mlook p.marks x.s = some (was', g') → clampR r < was' := fun was' g' e => by rw [hl] at e; cases e; omega
            split
            · exact .inr ⟨Classical.not_not.1 hid, Classical.not_not.1 hn, hg, rfl, h1⟩
            · exact .inr ⟨Classical.not_not.1 hid, Classical.not_not.1 hn, hg, by rw [pPush_marks], h1⟩
theorem shade_met : (pShade s p x r).met = p.met ∨ (isId x ∧ x.n ≠ s.node ∧ (pShade s p x r).met = mput p.met x (clampR r) ∧ ∀ was, mlook p.met x = some was → clampR r < was) := by
  unfold pShade
  split
  · exact .inl rfl
  · rename_i hid
    split
    · rename_i hn
      split
      · rename_i hl
        exact .inr ⟨Classical.not_not.1 hid, hn, rfl, fun was e => by rw [hl] at e; cases e⟩
      · rename_i was hl
        split
        · rename_i hw
          exact .inr ⟨Classical.not_not.1 hid, hn, rfl, fun was' e => by rw [hl] at e; cases e; exact hw⟩
        · exact .inl rfl
    · split
      · exact .inl rfl
      · split
        · exact .inl (by rw [pPush_met])
        · split
          · exact .inl rfl
          · split
            · exact .inl rfl
            · exact .inl (by rw [pPush_met])
theorem shade_falls : Falls p (pShade s p x r) := by
  refine ⟨fun a b c e => ?_, fun a b e => ?_⟩
  · rcases shade_marks (s := s) (p := p) (x := x) (r := r) with h | ⟨_, _, _, h, h2⟩
    · rw [h]; exact ⟨b, c, e, Int.le_refl _⟩
    · rw [h, mlook_mput]
      by_cases ea : a = x.s
      · rw [if_pos ea]
        rw [ea] at e
        exact ⟨clampR r, true, rfl, by have := h2 _ _ e; omega⟩
      · rw [if_neg ea]; exact ⟨b, c, e, Int.le_refl _⟩
  · rcases shade_met (s := s) (p := p) (x := x) (r := r) with h | ⟨_, _, h, h2⟩
    · rw [h]; exact ⟨b, e, Int.le_refl _⟩
    · rw [h, mlook_mput]
      by_cases ea : a = x
      · rw [if_pos ea]
        rw [ea] at e
        exact ⟨clampR r, rfl, by have := h2 _ e; omega⟩
      · rw [if_neg ea]; exact ⟨b, e, Int.le_refl _⟩
theorem shades_falls {l : List Id} : Falls p (pShades s p l r) := by
  unfold pShades
  induction l generalizing p with
  | nil => exact Falls.refl p
  | cons y l ih => exact shade_falls.trans ih
theorem scan_falls : Falls p (pScan s p k).2 := by
  unfold pScan
  split
  · rename_i o w ho hl
    refine Falls.trans (q := { p with marks := mput p.marks k (w, false) }) ⟨fun a b c e => ?_, fun a b e => ⟨b, e, Int.le_refl _⟩⟩ shades_falls
    simp only
    rw [mlook_mput]
    by_cases ea : a = k
    · rw [if_pos ea]
      rw [ea, hl] at e
      cases e
      exact ⟨w, false, rfl, Int.le_refl _⟩
    · rw [if_neg ea]; exact ⟨b, c, e, Int.le_refl _⟩
  · exact Falls.refl p

/-- What a reference leads to is marked, or met, with no greater rank. -/
def lowRef (s : Hs) (p : Ps) (x : Id) (r : Int) : Prop := isId x →
  if x.n = s.node then hGet s x.s ≠ none → ∃ r' g, mlook p.marks x.s = some (r', g) ∧ r' ≤ r else ∃ r', mlook p.met x = some r' ∧ r' ≤ r
theorem lowRef.falls {p' : Ps} (h : lowRef s p x r) (f : Falls p p') : lowRef s p' x r := by
  intro hid
  have h := h hid
  split
  · rename_i hn
    rw [if_pos hn] at h
    intro hg
    obtain ⟨r1, g1, e1, h1⟩ := h hg
    obtain ⟨r2, g2, e2, h2⟩ := f.marks _ _ _ e1
    exact ⟨r2, g2, e2, by omega⟩
  · rename_i hn
    rw [if_neg hn] at h
    obtain ⟨r1, e1, h1⟩ := h
    obtain ⟨r2, e2, h2⟩ := f.met _ _ e1
    exact ⟨r2, e2, by omega⟩
theorem shade_low : lowRef s (pShade s p x r) x (clampR r) := by
  intro hid
  by_cases hn : x.n = s.node
  · rw [if_pos hn]
    intro hg
    unfold pShade
    rw [if_neg (by simpa using hid), if_neg (by simpa using hn), if_neg hg]
    split
    · rw [pPush_marks, mlook_mput, if_pos rfl]
      exact ⟨_, _, rfl, Int.le_refl _⟩
    · rename_i was g hl
      split
      · rename_i hw
        exact ⟨was, g, hl, hw⟩
      · split
        · rw [mlook_mput, if_pos rfl]
          exact ⟨_, _, rfl, Int.le_refl _⟩
        · rw [pPush_marks, mlook_mput, if_pos rfl]
          exact ⟨_, _, rfl, Int.le_refl _⟩
  · rw [if_neg hn]
    unfold pShade
    rw [if_neg (by simpa using hid), if_pos hn]
    split
    · rw [mlook_mput, if_pos rfl]
      exact ⟨_, rfl, Int.le_refl _⟩
    · rename_i was hl
      split
      · rw [mlook_mput, if_pos rfl]
        exact ⟨_, rfl, Int.le_refl _⟩
      · exact ⟨was, hl, by omega⟩
theorem shades_low {l : List Id} (hx : x ∈ l) : lowRef s (pShades s p l r) x (clampR r) := by
  unfold pShades
  induction l generalizing p with
  | nil => cases hx
  | cons y l ih =>
    rcases List.mem_cons.1 hx with rfl | hx
    · exact shade_low.falls (shades_falls (l := l))
    · exact ih hx

/-- Of what is black all references are low. -/
def Tight (s : Hs) (p : Ps) : Prop := ∀ k r o, mlook p.marks k = some (r, false) → hGet s k = some o → ∀ x ∈ o.refs, lowRef s p x r
theorem Tight.shade (h : Tight s p) : Tight s (pShade s p x r) := by
  intro k w o hl hg y hy
  have f := shade_falls (s := s) (p := p) (x := x) (r := r)
  rcases shade_marks (s := s) (p := p) (x := x) (r := r) with e | ⟨_, _, _, e, _⟩
  · rw [e] at hl
    exact (h k w o hl hg y hy).falls f
  · rw [e, mlook_mput] at hl
    by_cases ea : k = x.s
    · rw [if_pos ea] at hl
      cases hl
    · rw [if_neg ea] at hl
      exact (h k w o hl hg y hy).falls f
theorem Tight.shades {l : List Id} (h : Tight s p) : Tight s (pShades s p l r) := by
  unfold pShades
  induction l generalizing p with
  | nil => exact h
  | cons y l ih => exact ih h.shade
/-- Shading leaves what is black as it is, or makes it grey. -/
theorem shade_black {w : Int} (h : mlook (pShade s p x r).marks k = some (w, false)) : mlook p.marks k = some (w, false) := by
  rcases shade_marks (s := s) (p := p) (x := x) (r := r) with e | ⟨_, _, _, e, _⟩
  · rwa [e] at h
  · rw [e, mlook_mput] at h
    by_cases ea : k = x.s
    · rw [if_pos ea] at h; cases h
    · rwa [if_neg ea] at h
theorem shades_black {l : List Id} {w : Int} (h : mlook (pShades s p l r).marks k = some (w, false)) : mlook p.marks k = some (w, false) := by
  unfold pShades at h
  induction l generalizing p with
  | nil => exact h
  | cons y l ih => exact shade_black (ih h)
theorem Tight.scan (h : Tight s p) (ho : p.ok) : Tight s (pScan s p k).2 := by
  unfold pScan
  split
  · rename_i o w hg hl
    have hw := mlook_ranks ho hl
    intro k' w' o' hl' hg' y hy
    have hb := shades_black hl'
    simp only at hb
    rw [mlook_mput] at hb
    by_cases ea : k' = k
    · rw [if_pos ea] at hb
      cases hb
      rw [ea, hg] at hg'
      cases hg'
      have := shades_low (s := s) (p := { p with marks := mput p.marks k (w, false) }) (r := w) hy
      rw [clampR_id hw] at this
      exact this
    · rw [if_neg ea] at hb
      have f : Falls p { p with marks := mput p.marks k (w, false) } := ⟨fun a b c e => by
        simp only
        rw [mlook_mput]
        by_cases e2 : a = k
        · rw [if_pos e2]
          rw [e2, hl] at e
          cases e
          exact ⟨w, false, rfl, Int.le_refl _⟩
        · rw [if_neg e2]; exact ⟨b, c, e, Int.le_refl _⟩, fun a b e => ⟨b, e, Int.le_refl _⟩⟩
      exact (h k' w' o' hb hg' y hy).falls (f.trans shades_falls)
  · exact h
end
end Go.Proofs.YtojcacejgbnfkaaGreat
