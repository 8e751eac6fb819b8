/- Merged by merge.py: PtS, PtT, DenPaint, DenGrey, PtP, DenRef11, DenRef4, DenApi, PtR, PtO, PtR2, PtR3, PtP2, PtP3, PtR4, PtLay, PtO2, PtL. No condition. -/
import Derived.Test.YtflfodcemnapeaaGreatZHeap
import Derived.Test.YtflfodcemnapeaaGreatZBase
import Derived.Test.YtflfodcemnapeaaGreatZNum
import Derived.Shelf.SlSortCmp.NoneTotal
import Derived.Shelf.Lay
import Derived.Ground.SlsfProg

namespace Go.Proofs.YtflfodcemnapeaaGreat
set_option linter.unusedSimpArgs false
set_option linter.unusedVariables false
open Go
/-- A paint. -/
structure Ps where
 marks : List (Int × (Int × Bool))
 met : List (Id × Int)
 stack : List Int
 most : Int
 over : Bool
 turns : Int

def isId (x : Id) : Prop := 1 ≤ x.n ∧ x.n ≤ 64 ∧ 1 ≤ x.s ∧ x.s ≤ 72057594037927935
instance (x : Id) : Decidable (isId x) := by unfold isId; infer_instance
def clampR (r : Int) : Int := if 40 < (if r < 0 then 0 else r) then 40 else (if r < 0 then 0 else r)
theorem clampR_is {r : Int} : 0 ≤ clampR r ∧ clampR r ≤ 40 := by unfold clampR; split <;> (try split) <;> omega
theorem clampR_ref {r : Int} : (if 0 < (if 40 < r then 40 else r) then (if 40 < r then 40 else r) else 0) = clampR r := by
 unfold clampR
 repeat' split
 all_goals omega

structure Ps.ok (p : Ps) : Prop where
 marks : mnod p.marks
 met : mnod p.met
 ranks : ∀ e ∈ p.marks, 0 ≤ e.2.1 ∧ e.2.1 ≤ 40
 ids : ∀ e ∈ p.met, isId e.1 ∧ 0 ≤ e.2 ∧ e.2 ≤ 40
 most : 1 ≤ p.most ∧ p.most ≤ 64
 stack : (p.stack.length : Int) ≤ p.most

def pPush (p : Ps) (k : Int) : Ps := if p.most ≤ p.stack.length then { p with over := true } else { p with stack := p.stack ++ [k] }
def pShade (s : Hs) (p : Ps) (x : Id) (r : Int) : Ps :=
 if ¬ isId x then p
 else if x.n ≠ s.node then
  match mlook p.met x with
  | none => { p with met := mput p.met x (clampR r) }
  | some was => if clampR r < was then { p with met := mput p.met x (clampR r) } else p
 else if hGet s x.s = none then p
 else match mlook p.marks x.s with
  | none => pPush { p with marks := mput p.marks x.s (clampR r, true) } x.s
  | some (was, g) => if was ≤ clampR r then p else if g then { p with marks := mput p.marks x.s (clampR r, true) } else pPush { p with marks := mput p.marks x.s (clampR r, true) } x.s
def pBlacken (s : Hs) (p : Ps) (k : Int) : Ps := if mlook p.marks k = none ∧ hGet s k ≠ none then { p with marks := mput p.marks k (0, false) } else p
def pForget (p : Ps) (k : Int) : Ps := { p with marks := mdel p.marks k }
def pShades (s : Hs) (p : Ps) (l : List Id) (r : Int) : Ps := l.foldl (fun p x => pShade s p x r) p
def pScan (s : Hs) (p : Ps) (k : Int) : Bool × Ps :=
 match hGet s k, mlook p.marks k with
 | some o, some (r, true) => (true, pShades s { p with marks := mput p.marks k (r, false) } o.refs r)
 | _, _ => (false, p)
def pTurn (p : Ps) : Ps := { p with marks := [], met := [], stack := [], over := false, turns := IntKind.u64.wrap (p.turns + 1) }
def pPop (p : Ps) : (Int × Bool) × Ps := match p.stack.getLast? with
 | none => ((0, false), p)
 | some x => ((x, true), { p with stack := p.stack.dropLast })
def pRest (p : Ps) : Ps := { p with over := false }
def pMark (s : Hs) (p : Ps) (k : Int) : Int × Bool × Bool := match mlook p.marks k with
 | none => (0, false, false)
 | some (r, g) => if hGet s k = none then (0, false, false) else (r, g, true)
def pMet (p : Ps) (x : Id) : Int × Bool := match mlook p.met x with
 | none => (0, false)
 | some r => (r, true)
def newPs (most : Int) : Ps := ⟨[], [], [], most, false, 0⟩

theorem mput_length {κ ν : Type} [DecidableEq κ] {l : List (κ × ν)} {k : κ} {x : ν} : (mput l k x).length ≤ l.length + 1 ∧ l.length ≤ (mput l k x).length := by
 unfold mput
 split <;> simp
theorem mput_mem {κ ν : Type} [DecidableEq κ] {l : List (κ × ν)} {k : κ} {x : ν} {e : κ × ν} (h : e ∈ mput l k x) : e = (k, x) ∨ e ∈ l := by
 unfold mput at h
 split at h
 ·obtain ⟨p, hp, rfl⟩ := List.mem_map.1 h
  split
  ·exact .inl rfl
  ·exact .inr hp
 ·rcases List.mem_append.1 h with h | h
  ·exact .inr h
  ·exact .inl (by simpa using h)
theorem mdel_mem {κ ν : Type} [DecidableEq κ] {l : List (κ × ν)} {k : κ} {e : κ × ν} (h : e ∈ mdel l k) : e ∈ l := (List.mem_filter.1 h).1
theorem mdel_length_le {κ ν : Type} [DecidableEq κ] {l : List (κ × ν)} {k : κ} : (mdel l k).length ≤ l.length := List.length_filter_le _ _

section
variable {s : Hs} {p : Ps} {x : Id} {r k : Int}
theorem Ps.ok.mark (h : p.ok) (hr : 0 ≤ r ∧ r ≤ 40) {g : Bool} : ({ p with marks := mput p.marks k (r, g) } : Ps).ok :=
 ⟨mput_nod h.marks _ _, h.met, fun e he => (mput_mem he).elim (fun e' => by rw [e']; exact hr) (h.ranks e), h.ids, h.most, h.stack⟩
theorem Ps.ok.meet (h : p.ok) (hr : 0 ≤ r ∧ r ≤ 40) (hx : isId x) : ({ p with met := mput p.met x r } : Ps).ok :=
 ⟨h.marks, mput_nod h.met _ _, h.ranks, fun e he => (mput_mem he).elim (fun e' => by rw [e']; exact ⟨hx, hr⟩) (h.ids e), h.most, h.stack⟩
theorem Ps.ok.push (h : p.ok) : (pPush p k).ok := by
 unfold pPush
 split
 ·exact ⟨h.marks, h.met, h.ranks, h.ids, h.most, h.stack⟩
 ·exact ⟨h.marks, h.met, h.ranks, h.ids, h.most, by simp only [List.length_append, List.length_cons, List.length_nil]; omega⟩
theorem Ps.ok.shade (h : p.ok) : (pShade s p x r).ok := by
 unfold pShade
 split
 ·exact h
 ·rename_i hx
  split
  ·split
   ·exact h.meet clampR_is (Classical.not_not.1 hx)
   ·split
    ·exact h.meet clampR_is (Classical.not_not.1 hx)
    ·exact h
  ·split
   ·exact h
   ·split
    ·exact (h.mark clampR_is).push
    ·split
     ·exact h
     ·split
      ·exact h.mark clampR_is
      ·exact (h.mark clampR_is).push
theorem Ps.ok.shades {l : List Id} (h : p.ok) : (pShades s p l r).ok := by
 unfold pShades
 induction l generalizing p with
 | nil => exact h
 | cons y l ih => exact ih h.shade
theorem mlook_ranks (h : p.ok) {g : Bool} (hl : mlook p.marks k = some (r, g)) : 0 ≤ r ∧ r ≤ 40 := h.ranks _ (mlook_mem hl)
theorem Ps.ok.scan (h : p.ok) : (pScan s p k).2.ok := by
 unfold pScan
 split
 ·rename_i o r ho hm
  exact (h.mark (mlook_ranks h hm)).shades
 ·exact h
theorem Ps.ok.blacken (h : p.ok) : (pBlacken s p k).ok := by
 unfold pBlacken
 split
 ·exact h.mark (by omega)
 ·exact h
theorem Ps.ok.forget (h : p.ok) : (pForget p k).ok := ⟨mdel_nod h.marks _, h.met, fun e he => h.ranks e (mdel_mem he), h.ids, h.most, h.stack⟩
theorem Ps.ok.turn (h : p.ok) : (pTurn p).ok := ⟨List.nodup_nil, List.nodup_nil, fun e he => (by cases he), fun e he => (by cases he), h.most, by have := h.most; show (0 : Int) ≤ p.most; omega⟩
theorem Ps.ok.pop (h : p.ok) : (pPop p).2.ok := by
 unfold pPop
 split
 ·exact h
 ·exact ⟨h.marks, h.met, h.ranks, h.ids, h.most, by have := h.stack; simp only [List.length_dropLast]; omega⟩
theorem Ps.ok.rest (h : p.ok) : (pRest p).ok := ⟨h.marks, h.met, h.ranks, h.ids, h.most, h.stack⟩
theorem newPs_ok {m : Int} (h : 1 ≤ m ∧ m ≤ 64) : (newPs m).ok := ⟨List.nodup_nil, List.nodup_nil, fun e he => (by cases he), fun e he => (by cases he), h, by show (0 : Int) ≤ m; omega⟩

/-! ## How much it may grow -/
theorem pPush_marks : (pPush p k).marks = p.marks := by unfold pPush; split <;> rfl
theorem pPush_met : (pPush p k).met = p.met := by unfold pPush; split <;> rfl
/-- A paint holds no more than so much. -/
def Ps.lt (p : Ps) (n : Nat) : Prop := p.marks.length ≤ n ∧ p.met.length ≤ n
theorem Ps.lt.mono {n m : Nat} (h : p.lt n) (hm : n ≤ m) : p.lt m := ⟨Nat.le_trans h.1 hm, Nat.le_trans h.2 hm⟩
theorem Ps.lt.shade {n : Nat} (h : p.lt n) : (pShade s p x r).lt (n + 1) := by
 obtain ⟨h1, h2⟩ := h
 have a1 := (mput_length (l := p.marks) (k := x.s) (x := (clampR r, true))).1
 have a2 := (mput_length (l := p.met) (k := x) (x := clampR r)).1
 unfold pShade
 split
 ·exact ⟨by omega, by omega⟩
 ·split
  ·split
   ·exact ⟨by show p.marks.length ≤ _; omega, by show (mput p.met x (clampR r)).length ≤ _; omega⟩
   ·split
    ·exact ⟨by show p.marks.length ≤ _; omega, by show (mput p.met x (clampR r)).length ≤ _; omega⟩
    ·exact ⟨by omega, by omega⟩
  ·split
   ·exact ⟨by omega, by omega⟩
   ·split
    ·exact ⟨by rw [pPush_marks]; show (mput p.marks x.s (clampR r, true)).length ≤ _; omega, by rw [pPush_met]; show p.met.length ≤ _; omega⟩
    ·split
     ·exact ⟨by omega, by omega⟩
     ·split
      ·exact ⟨by show (mput p.marks x.s (clampR r, true)).length ≤ _; omega, by show p.met.length ≤ _; omega⟩
      ·exact ⟨by rw [pPush_marks]; show (mput p.marks x.s (clampR r, true)).length ≤ _; omega, by rw [pPush_met]; show p.met.length ≤ _; omega⟩
theorem Ps.lt.shades {n : Nat} {l : List Id} (h : p.lt n) : (pShades s p l r).lt (n + l.length) := by
 unfold pShades
 induction l generalizing p n with
 | nil => exact h
 | cons y l ih => exact (ih h.shade).mono (by simp; omega)
theorem mput_has_length {κ ν : Type} [DecidableEq κ] {l : List (κ × ν)} {k : κ} {x y : ν} (h : mlook l k = some y) : (mput l k x).length = l.length := by
 unfold mput
 rw [mhas_look, h]
 simp
theorem Ps.lt.scan {n : Nat} (ho : s.ok) (h : p.lt n) : (pScan s p k).2.lt (n + 7) := by
 unfold pScan
 split
 ·rename_i o r hg hm
  have hr := (ho.obs o (hGet_mem hg).1).refs
  have h1 : ({ p with marks := mput p.marks k (r, false) } : Ps).lt n := ⟨by show (mput p.marks k (r, false)).length ≤ n; rw [mput_has_length hm]; exact h.1, h.2⟩
  exact h1.shades.mono (by omega)
 ·exact h.mono (by omega)
theorem Ps.lt.blacken {n : Nat} (h : p.lt n) : (pBlacken s p k).lt (n + 1) := by
 unfold pBlacken
 have a1 := (mput_length (l := p.marks) (k := k) (x := ((0 : Int), false))).1
 have := h.1
 have := h.2
 split
 ·exact ⟨by show (mput p.marks k (0, false)).length ≤ _; omega, by show p.met.length ≤ _; omega⟩
 ·exact ⟨by omega, by omega⟩
theorem Ps.lt.forget {n : Nat} (h : p.lt n) : (pForget p k).lt n := ⟨Nat.le_trans mdel_length_le h.1, h.2⟩
theorem Ps.lt.turn {n : Nat} (h : p.lt n) : (pTurn p).lt n := ⟨Nat.zero_le _, Nat.zero_le _⟩
theorem Ps.lt.pop {n : Nat} (h : p.lt n) : (pPop p).2.lt n := by unfold pPop; split <;> exact h
theorem Ps.lt.rest {n : Nat} (h : p.lt n) : (pRest p).lt n := h
theorem newPs_lt {m : Int} {n : Nat} : (newPs m).lt n := ⟨Nat.zero_le _, Nat.zero_le _⟩

end
/-! ## In the order of keys -/
def keyOf (x : Id) : Int := x.n * 72057594037927936 + x.s
theorem keyOf_inj {x y : Id} (hx : isId x) (hy : isId y) (h : keyOf x = keyOf y) : x = y := by
 unfold isId at hx hy
 unfold keyOf at h
 exact Id.ext (by omega) (by omega)
/-- Rising by their keys. -/
def keyed (t : List (Id × Int)) : Prop := t.Pairwise fun a b => keyOf a.1 < keyOf b.1
theorem keyed_nod {t : List (Id × Int)} (h : keyed t) : mnod t := by
 unfold mnod
 rw [List.Nodup, List.pairwise_map]
 exact h.imp fun h e => by rw [e] at h; omega
theorem keyed_unique : ∀ {t t' : List (Id × Int)}, keyed t → keyed t' → t.Perm t' → t = t'
 | [], t', _, _, hp => (List.nil_perm.1 hp).symm
 | a :: t, [], _, _, hp => by simp at hp
 | a :: t, b :: t', h, h', hp => by
  have h1 := List.pairwise_cons.1 h
  have h2 := List.pairwise_cons.1 h'
  have e : a = b := by
   have ma : a ∈ b :: t' := hp.subset (by simp)
   have mb : b ∈ a :: t := hp.symm.subset (by simp)
   rcases List.mem_cons.1 ma with e | ma
   ·exact e
   rcases List.mem_cons.1 mb with e | mb
   ·exact e.symm
   have := h1.1 b mb
   have := h2.1 a ma
   omega
  subst e
  rw [keyed_unique h1.2 h2.2 (List.Perm.cons_inv hp)]

end Go.Proofs.YtflfodcemnapeaaGreat

namespace Go.Proofs.YtflfodcemnapeaaGreat
set_option linter.unusedSimpArgs false
set_option linter.unusedVariables false
open Go
def tAt (t : List (Id × Int)) (k : Int) : Nat := (t.takeWhile fun e => decide (keyOf e.1 < k)).length
def tGet (t : List (Id × Int)) (k : Int) : Option (Id × Int) := match t[tAt t k]? with
 | some e => if keyOf e.1 = k then some e else none
 | none => none
def tPut (t : List (Id × Int)) (y : Id) (r : Int) : List (Id × Int) := if (tGet t (keyOf y)).isSome then t.set (tAt t (keyOf y)) (y, r) else t.take (tAt t (keyOf y)) ++ (y, r) :: t.drop (tAt t (keyOf y))

theorem tAt_le {t : List (Id × Int)} {k : Int} : tAt t k ≤ t.length := (List.takeWhile_sublist _).length_le
theorem tAt_lt {k : Int} : ∀ {t : List (Id × Int)} {i : Nat} {e : Id × Int}, t[i]? = some e → i < tAt t k → keyOf e.1 < k
 | [], i, e, h, _ => by simp at h
 | a :: t, i, e, h, hi => by
  unfold tAt at hi
  rw [List.takeWhile_cons] at hi
  split at hi
  ·rename_i ha
   cases i with
   | zero => simp at h; subst h; simpa using ha
   | succ i => exact tAt_lt (t := t) (by simpa using h) (by unfold tAt; simpa using hi)
  ·simp at hi
theorem tAt_at {k : Int} : ∀ {t : List (Id × Int)} {e : Id × Int}, t[tAt t k]? = some e → ¬ keyOf e.1 < k
 | [], e, h => by simp at h
 | a :: t, e, h => by
  unfold tAt at h
  rw [List.takeWhile_cons] at h
  split at h
  ·exact tAt_at (t := t) (by unfold tAt; simpa using h)
  ·rename_i ha
   simp at h
   subst h
   simpa using ha
theorem tAt_is {t : List (Id × Int)} {k : Int} {i : Nat} (hi : i ≤ t.length) (h1 : ∀ j e, j < i → t[j]? = some e → keyOf e.1 < k) (h2 : ∀ e, t[i]? = some e → ¬ keyOf e.1 < k) : tAt t k = i := by
 rcases Nat.lt_trichotomy (tAt t k) i with h | h | h
 ·have hl : tAt t k < t.length := by omega
  have e := List.getElem?_eq_getElem hl
  exact absurd (h1 _ _ h e) (tAt_at e)
 ·exact h
 ·have hl : i < t.length := by have := tAt_le (t := t) (k := k); omega
  have e := List.getElem?_eq_getElem hl
  exact absurd (tAt_lt e h) (h2 _ e)

theorem keyed_get {t : List (Id × Int)} (h : keyed t) {i j : Nat} {a b : Id × Int} (hi : t[i]? = some a) (hj : t[j]? = some b) (hij : i < j) : keyOf a.1 < keyOf b.1 := by
 obtain ⟨hil, rfl⟩ := List.getElem?_eq_some_iff.1 hi
 obtain ⟨hjl, rfl⟩ := List.getElem?_eq_some_iff.1 hj
 exact List.pairwise_iff_getElem.1 h i j hil hjl hij
theorem tGet_of {t : List (Id × Int)} (h : keyed t) {e : Id × Int} (he : e ∈ t) : tGet t (keyOf e.1) = some e ∧ t[tAt t (keyOf e.1)]? = some e := by
 obtain ⟨m, hm, rfl⟩ := List.mem_iff_getElem.1 he
 have e1 := List.getElem?_eq_getElem hm
 have : tAt t (keyOf t[m].1) = m := tAt_is (by omega) (fun j e hj hje => keyed_get h hje e1 hj) fun e h' => by
  rw [e1] at h'
  cases h'
  omega
 unfold tGet
 rw [this, e1]
 simp
theorem tGet_some {t : List (Id × Int)} {k : Int} {e : Id × Int} (h : tGet t k = some e) : t[tAt t k]? = some e ∧ keyOf e.1 = k ∧ e ∈ t := by
 unfold tGet at h
 split at h
 ·rename_i e' he
  split at h
  ·rename_i hk
   cases h
   exact ⟨he, hk, List.mem_of_getElem? he⟩
  ·cases h
 ·cases h
theorem tGet_none {t : List (Id × Int)} (ht : keyed t) {k : Int} (h : tGet t k = none) : ∀ e ∈ t, keyOf e.1 ≠ k := by
 intro e he hk
 have := (tGet_of ht he).1
 rw [hk, h] at this
 cases this
theorem tGet_beyond {t : List (Id × Int)} (ht : keyed t) {k : Int} (h : tGet t k = none) : ∀ e ∈ t.drop (tAt t k), k < keyOf e.1 := by
 intro e he
 obtain ⟨m, hm, rfl⟩ := List.mem_iff_getElem.1 he
 rw [List.length_drop] at hm
 have hl : tAt t k + m < t.length := by omega
 have e1 := List.getElem?_eq_getElem hl
 rw [List.getElem_drop]
 have hne := tGet_none ht h _ (List.getElem_mem hl)
 have hl0 : tAt t k < t.length := by omega
 have e0 := List.getElem?_eq_getElem hl0
 have h0 := tAt_at e0
 have hne0 := tGet_none ht h _ (List.getElem_mem hl0)
 rcases Nat.eq_zero_or_pos m with rfl | hp
 ·simp only [Nat.add_zero] at hne ⊢
  omega
 ·have := keyed_get ht e0 e1 (by omega)
  omega
theorem tPut_keyed {t : List (Id × Int)} (ht : keyed t) (y : Id) (r : Int) : keyed (tPut t y r) := by
 unfold tPut
 cases hg : tGet t (keyOf y) with
 | some e =>
  rw [if_pos (by rfl)]
  obtain ⟨h1, h2, h3⟩ := tGet_some hg
  have e1 : (t.set (tAt t (keyOf y)) (y, r)).map (fun e => keyOf e.1) = t.map fun e => keyOf e.1 := by
   rw [List.map_set]
   refine List.set_self ?_
   rw [List.getElem?_map, h1]
   simp [h2]
  have : ((t.set (tAt t (keyOf y)) (y, r)).map fun e => keyOf e.1).Pairwise (· < ·) := by
   rw [e1, List.pairwise_map]
   exact ht
  rw [List.pairwise_map] at this
  exact this
 | none =>
  rw [if_neg (by simp)]
  have hb := tGet_beyond ht hg
  unfold keyed
  rw [List.pairwise_append, List.pairwise_cons]
  have ht1 : ∀ a ∈ t.take (tAt t (keyOf y)), keyOf a.1 < keyOf y := fun a ha => by
   obtain ⟨m, hm, rfl⟩ := List.mem_iff_getElem.1 ha
   rw [List.length_take] at hm
   rw [List.getElem_take]
   exact tAt_lt (List.getElem?_eq_getElem (by omega)) (by omega)
  refine ⟨ht.sublist (List.take_sublist _ _), ⟨hb, ht.sublist (List.drop_sublist _ _)⟩, fun a ha b hb' => ?_⟩
  rcases List.mem_cons.1 hb' with rfl | hb'
  ·exact ht1 a ha
  ·exact Int.lt_trans (ht1 a ha) (hb b hb')
theorem tPut_length {t : List (Id × Int)} {y : Id} {r : Int} : (tPut t y r).length ≤ t.length + 1 := by
 unfold tPut
 split
 ·simp
 ·have := tAt_le (t := t) (k := keyOf y)
  simp only [List.length_append, List.length_take, List.length_cons, List.length_drop]
  omega
theorem map_if_setK {κ ν : Type} [DecidableEq κ] {l : List (κ × ν)} (hn : mnod l) {j : Nat} {k : κ} {v w : ν} (hj : l[j]? = some (k, v)) : (l.map fun p => if p.1 = k then (k, w) else p) = l.set j (k, w) := by
 apply List.ext_getElem?
 intro i
 rw [List.getElem?_map, List.getElem?_set]
 by_cases e : j = i
 ·subst e
  have hl := ltOfGet hj
  rw [hj]
  simp [hl]
 ·rw [if_neg e]
  cases hi : l[i]? with
  | none => rfl
  | some p =>
   have hne : p.1 ≠ k := fun h => e (by
    have h1 : (l.map (·.1))[j]? = some k := by rw [List.getElem?_map, hj]; rfl
    have h2 : (l.map (·.1))[i]? = some k := by rw [List.getElem?_map, hi]; simp [h]
    exact (List.getElem?_inj (ltOfGet h1) hn).1 (by rw [h1, h2]))
   simp [hne]
theorem mput_set {κ ν : Type} [DecidableEq κ] {l : List (κ × ν)} (hn : mnod l) {j : Nat} {k : κ} {v w : ν} (hj : l[j]? = some (k, v)) : mput l k w = l.set j (k, w) := by
 unfold mput
 rw [mhas_look, mlook_at hn hj, if_pos (by rfl)]
 exact map_if_setK hn hj
theorem tPut_perm {t met : List (Id × Int)} (ht : keyed t) (hp : t.Perm met) (hn : mnod met) (hids : ∀ e ∈ met, isId e.1) {y : Id} (hy : isId y) (r : Int) : (tPut t y r).Perm (mput met y r) := by
 have hnt := keyed_nod ht
 unfold tPut
 cases hg : tGet t (keyOf y) with
 | some e =>
  rw [if_pos (by rfl)]
  obtain ⟨h1, h2, h3⟩ := tGet_some hg
  have hey : e.1 = y := keyOf_inj (hids e (hp.subset h3)) hy h2
  obtain ⟨e1, e2⟩ := e
  simp only at hey
  subst hey
  rw [← map_if_setK hnt h1]
  have hl : mlook met e1 = some e2 := mlook_of hn (hp.subset h3)
  unfold mput
  rw [mhas_look, hl, if_pos (by rfl)]
  exact hp.map _
 | none =>
  rw [if_neg (by simp)]
  have hno : mhas met y = false := mhas_false.2 fun p hp' e => tGet_none ht hg p (hp.symm.subset hp') (by rw [e])
  unfold mput
  rw [hno, if_neg (by decide)]
  have h1 : (t.take (tAt t (keyOf y)) ++ (y, r) :: t.drop (tAt t (keyOf y))).Perm ((y, r) :: t) := by
   refine List.perm_middle.trans ?_
   rw [List.take_append_drop]
  refine h1.trans ((hp.cons _).trans ?_)
  exact (List.perm_append_singleton _ _).symm

/-- What is found for an id. -/
theorem tGet_id {t met : List (Id × Int)} (ht : keyed t) (hp : t.Perm met) (hn : mnod met) (hids : ∀ e ∈ met, isId e.1) {y : Id} (hy : isId y) : tGet t (keyOf y) = (mlook met y).map fun r => (y, r) := by
 cases hl : mlook met y with
 | none =>
  cases hg : tGet t (keyOf y) with
  | none => rfl
  | some e =>
   obtain ⟨h1, h2, h3⟩ := tGet_some hg
   have hey : e.1 = y := keyOf_inj (hids e (hp.subset h3)) hy h2
   exact absurd hey (mlook_none.1 hl e (hp.subset h3))
 | some r => exact (tGet_of ht (e := (y, r)) (hp.symm.subset (mlook_mem hl))).1

end Go.Proofs.YtflfodcemnapeaaGreat

namespace Go.Proofs.YtflfodcemnapeaaGreat
open Go
set_option linter.unusedVariables false
set_option maxRecDepth 100000
def B_paint_New (h1 : Option Addr) (most2 : Int) (H : Hp) (K : Value → Hp → Prop) : Prop :=
 (bif (Option.isNone (α := Addr) h1) then
 K (.tuple #[(.pointer none), (.int .i64 1)]) H
else
 hcall PR f_grey_New_uint64 ⟨[(.int .i64 most2)]⟩ H fun v3 Hx4 =>
 tup2 v3 fun v5 v6 =>
 asP v5 fun t7 =>
 asI .i64 v6 fun t8 =>
 (bif ((t8 : Int) != 0) then
 K (.tuple #[(.pointer none), (.int .i64 1)]) Hx4
else
 newB (.map #[] 0) Hx4 fun b9 Hx10 =>
 newB (.map #[] 0) Hx10 fun b11 Hx12 =>
 newB (.cells #[(.pointer h1), (.map (some b9)), (.map (some b11)), (.pointer t7), (.int .u64 0)] ty_paint_Paint) Hx12 fun b13 Hx14 =>
 K (.tuple #[(.pointer (some ⟨b13, 0, none⟩)), (.int .i64 0)]) Hx14))
theorem E_paint_New (h1 : Option Addr) (most2 : Int) (H : Hp) (K : Value → Hp → Prop) : B_paint_New h1 most2 H K = denF Tryz.prog Tryz.f36 .n [(.pointer h1), (.int .i64 most2)] H K := by kernel_rfl
theorem den_paint_New {h1 : Option Addr} {most2 : Int} {H : Hp} {K : Value → Hp → Prop} (h : B_paint_New h1 most2 H K) : hcall PR f_paint_New ⟨[(.pointer h1), (.int .i64 most2)]⟩ H K := denF_call Tryz.func36 PR_mixed (Eq.mp (E_paint_New h1 most2 H K) h)

def B_paint_Paint_Shade (p1 : Option Addr) (xNode2 : Int) (xSerial3 : Int) (rank4 : Int) (H : Hp) (K : Value → Hp → Prop) : Prop :=
 newB (.cells #[(.int .i64 xNode2), (.int .u64 xSerial3)] ty_api_ID) H fun b5 Hx6 =>
 ldI .i64 ⟨b5, 0, none⟩ Hx6 fun Node7 =>
 (bif (decide ((Node7 : Int) < 1)) then
 K (.tuple #[]) Hx6
else
 ldI .i64 ⟨b5, 0, none⟩ Hx6 fun Node8 =>
 (bif (decide ((Node8 : Int) > 64)) then
 K (.tuple #[]) Hx6
else
 ldI .u64 ⟨b5, 1, none⟩ Hx6 fun Serial9 =>
 (bif (decide ((Serial9 : Int) < 1)) then
 K (.tuple #[]) Hx6
else
 ldI .u64 ⟨b5, 1, none⟩ Hx6 fun Serial10 =>
 (bif (decide ((Serial10 : Int) > 72057594037927935)) then
 K (.tuple #[]) Hx6
else
 ldI .i64 ⟨b5, 0, none⟩ Hx6 fun Node11 =>
 nilP p1 fun pa12 =>
 ldP pa12 Hx6 fun h13 =>
 hcall PR f_heap_Heap_Node ⟨[(.pointer h13)]⟩ Hx6 fun v14 Hx15 =>
 asI .i64 v14 fun t16 =>
 (ldI .i64 ⟨b5, 0, none⟩ Hx15 fun Node17 =>
 ((.int .i64 Node17) : Value) = (.int .i64 Node11)) ∧
 (bif ((Node11 : Int) != t16) then
 nilP p1 fun pa18 =>
 ldM (pa18.add 2) Hx15 fun met19 =>
 ldI .i64 ⟨b5, 0, none⟩ Hx15 fun Node20 =>
 ldI .u64 ⟨b5, 1, none⟩ Hx15 fun Serial21 =>
 evR PR (Instr.lookup ty_map_api_ID_int (.map met19) (.agg #[(.int .i64 Node20), (.int .u64 Serial21)]) true) Hx15 fun v22 =>
 tup2 v22 fun v23 v24 =>
 asI .i64 v23 fun t25 =>
 asB v24 fun t26 =>
 (bif (!t26) then
 nilP p1 fun pa27 =>
 ldM (pa27.add 2) Hx15 fun met28 =>
 ldI .i64 ⟨b5, 0, none⟩ Hx15 fun Node29 =>
 ldI .u64 ⟨b5, 1, none⟩ Hx15 fun Serial30 =>
 evW PR (Instr.mapUpdate ty_map_api_ID_int (.map met28) (.agg #[(.int .i64 Node29), (.int .u64 Serial30)]) (.int .i64 (if 40 < (if rank4 < 0 then 0 else rank4) then 40 else (if rank4 < 0 then 0 else rank4)))) Hx15 fun v31 Hx32 =>
 K (.tuple #[]) Hx32
else
 (bif (decide (((if 40 < (if rank4 < 0 then 0 else rank4) then 40 else (if rank4 < 0 then 0 else rank4)) : Int) < t25)) then
 nilP p1 fun pa33 =>
 ldM (pa33.add 2) Hx15 fun met34 =>
 ldI .i64 ⟨b5, 0, none⟩ Hx15 fun Node35 =>
 ldI .u64 ⟨b5, 1, none⟩ Hx15 fun Serial36 =>
 evW PR (Instr.mapUpdate ty_map_api_ID_int (.map met34) (.agg #[(.int .i64 Node35), (.int .u64 Serial36)]) (.int .i64 (if 40 < (if rank4 < 0 then 0 else rank4) then 40 else (if rank4 < 0 then 0 else rank4)))) Hx15 fun v37 Hx38 =>
 K (.tuple #[]) Hx38
else
 K (.tuple #[]) Hx15))
else
 nilP p1 fun pa39 =>
 ldM (pa39.add 1) Hx15 fun marks40 =>
 ldI .u64 ⟨b5, 1, none⟩ Hx15 fun Serial41 =>
 evR PR (Instr.lookup ty_map_uint64_paint_mark (.map marks40) (.int .u64 Serial41) true) Hx15 fun v42 =>
 tup2 v42 fun v43 v44 =>
 agg2 v43 fun v45 v46 =>
 asI .i64 v45 fun rank47 =>
 asB v46 fun grey48 =>
 asB v44 fun t49 =>
 newB (.cells #[(.int .i64 0), (.bool false)] ty_paint_mark) Hx15 fun b50 Hx51 =>
 (evR PR (Instr.lookup ty_map_uint64_paint_mark (.map marks40) (.int .u64 Serial41) true) Hx51 fun v52 =>
 tup2 v52 fun v53 v54 =>
 agg2 v53 fun v55 v56 =>
 asI .i64 v55 fun rank57 =>
 asB v56 fun grey58 =>
 asB v54 fun t59 =>
 ((.tuple #[(.agg #[(.int .i64 rank57), (.bool grey58)]), (.bool t59)]) : Value) = (.tuple #[(.agg #[(.int .i64 rank47), (.bool grey48)]), (.bool t49)])) ∧
 (ldI .u64 ⟨b5, 1, none⟩ Hx51 fun Serial60 =>
 ((.int .u64 Serial60) : Value) = (.int .u64 Serial41)) ∧
 (ldM (pa39.add 1) Hx51 fun marks61 =>
 ((.map marks61) : Value) = (.map marks40)) ∧
 st ⟨b50, 0, none⟩ (.int .i64 rank47) Hx51 fun Hx62 =>
 st ⟨b50, 1, none⟩ (.bool grey48) Hx62 fun Hx63 =>
 ∀ R64 : Hp → Prop, (∀ Hx65 : Hp, (
 nilP p1 fun pa66 =>
 ldM (pa66.add 1) Hx65 fun marks67 =>
 ldI .u64 ⟨b5, 1, none⟩ Hx65 fun Serial68 =>
 evW PR (Instr.mapUpdate ty_map_uint64_paint_mark (.map marks67) (.int .u64 Serial68) (.agg #[(.int .i64 (if 40 < (if rank4 < 0 then 0 else rank4) then 40 else (if rank4 < 0 then 0 else rank4))), (.bool true)])) Hx65 fun v69 Hx70 =>
 ldB ⟨b50, 1, none⟩ Hx70 fun grey71 =>
 (bif (!grey71) then
 nilP p1 fun pa72 =>
 ldP (pa72.add 3) Hx70 fun stack73 =>
 ldI .u64 ⟨b5, 1, none⟩ Hx70 fun Serial74 =>
 hcall PR f_grey_Stack_uint64_Push ⟨[(.pointer stack73), (.int .u64 Serial74)]⟩ Hx70 fun v75 Hx76 =>
 asB v75 fun t77 =>
 K (.tuple #[]) Hx76
else
 K (.tuple #[]) Hx70)) → R64 Hx65) →
 ldI .u64 ⟨b5, 1, none⟩ Hx63 fun Serial78 =>
 hcall PR f_paint_Paint_there ⟨[(.pointer p1), (.int .u64 Serial78)]⟩ Hx63 fun v79 Hx80 =>
 asB v79 fun t81 =>
 (bif (!t81) then
 K (.tuple #[]) Hx80
else
 (bif t49 then
 ldI .i64 ⟨b50, 0, none⟩ Hx80 fun rank82 =>
 (bif (decide ((rank82 : Int) ≤ (if 40 < (if rank4 < 0 then 0 else rank4) then 40 else (if rank4 < 0 then 0 else rank4)))) then
 K (.tuple #[]) Hx80
else
 R64 Hx80)
else
 R64 Hx80)))))))
theorem E_paint_Paint_Shade (p1 : Option Addr) (xNode2 : Int) (xSerial3 : Int) (rank4 : Int) (H : Hp) (K : Value → Hp → Prop) : B_paint_Paint_Shade p1 xNode2 xSerial3 rank4 H K = denF Tryz.prog Tryz.f44 (.seq none .n (.seq none .n (.seq none .n (.seq none .n (.seq none .n (.seq (some ⟨[], [0, 2, 4, 8]⟩) .n .n)))))) [(.pointer p1), (.agg #[(.int .i64 xNode2), (.int .u64 xSerial3)]), (.int .i64 rank4)] H K := by kernel_rfl
theorem den_paint_Paint_Shade {p1 : Option Addr} {xNode2 : Int} {xSerial3 : Int} {rank4 : Int} {H : Hp} {K : Value → Hp → Prop} (h : B_paint_Paint_Shade p1 xNode2 xSerial3 rank4 H K) : hcall PR f_paint_Paint_Shade ⟨[(.pointer p1), (.agg #[(.int .i64 xNode2), (.int .u64 xSerial3)]), (.int .i64 rank4)]⟩ H K := denF_call Tryz.func44 PR_mixed (Eq.mp (E_paint_Paint_Shade p1 xNode2 xSerial3 rank4 H K) h)

def B_paint_Paint_Blacken (p1 : Option Addr) (serial2 : Int) (H : Hp) (K : Value → Hp → Prop) : Prop :=
 nilP p1 fun pa3 =>
 ldM (pa3.add 1) H fun marks4 =>
 evR PR (Instr.lookup ty_map_uint64_paint_mark (.map marks4) (.int .u64 serial2) true) H fun v5 =>
 tup2 v5 fun v6 v7 =>
 agg2 v6 fun v8 v9 =>
 asI .i64 v8 fun rank10 =>
 asB v9 fun grey11 =>
 asB v7 fun t12 =>
 newB (.cells #[(.int .i64 0), (.bool false)] ty_paint_mark) H fun b13 Hx14 =>
 st ⟨b13, 0, none⟩ (.int .i64 rank10) Hx14 fun Hx15 =>
 st ⟨b13, 1, none⟩ (.bool grey11) Hx15 fun Hx16 =>
 (bif (!t12) then
 hcall PR f_paint_Paint_there ⟨[(.pointer p1), (.int .u64 serial2)]⟩ Hx16 fun v17 Hx18 =>
 asB v17 fun t19 =>
 (bif t19 then
 nilP p1 fun pa20 =>
 ldM (pa20.add 1) Hx18 fun marks21 =>
 evW PR (Instr.mapUpdate ty_map_uint64_paint_mark (.map marks21) (.int .u64 serial2) (.agg #[(.int .i64 0), (.bool false)])) Hx18 fun v22 Hx23 =>
 K (.tuple #[]) Hx23
else
 K (.tuple #[]) Hx18)
else
 K (.tuple #[]) Hx16)
theorem E_paint_Paint_Blacken (p1 : Option Addr) (serial2 : Int) (H : Hp) (K : Value → Hp → Prop) : B_paint_Paint_Blacken p1 serial2 H K = denF Tryz.prog Tryz.f60 .n [(.pointer p1), (.int .u64 serial2)] H K := by kernel_rfl
theorem den_paint_Paint_Blacken {p1 : Option Addr} {serial2 : Int} {H : Hp} {K : Value → Hp → Prop} (h : B_paint_Paint_Blacken p1 serial2 H K) : hcall PR f_paint_Paint_Blacken ⟨[(.pointer p1), (.int .u64 serial2)]⟩ H K := denF_call Tryz.func60 PR_mixed (Eq.mp (E_paint_Paint_Blacken p1 serial2 H K) h)

def B_paint_Paint_Turn (p1 : Option Addr) (H : Hp) (K : Value → Hp → Prop) : Prop :=
 nilP p1 fun pa2 =>
 ldI .u64 (pa2.add 4) H fun turns3 =>
 nilP p1 fun pa4 =>
 st (pa4.add 4) (.int .u64 (IntKind.u64.wrap (turns3 + 1))) H fun Hx5 =>
 newB (.map #[] 0) Hx5 fun b6 Hx7 =>
 nilP p1 fun pa8 =>
 st (pa8.add 1) (.map (some b6)) Hx7 fun Hx9 =>
 newB (.map #[] 0) Hx9 fun b10 Hx11 =>
 nilP p1 fun pa12 =>
 st (pa12.add 2) (.map (some b10)) Hx11 fun Hx13 =>
 nilP p1 fun pa14 =>
 ldP (pa14.add 3) Hx13 fun stack15 =>
 hcall PR f_grey_Stack_uint64_Clear ⟨[(.pointer stack15)]⟩ Hx13 fun v16 Hx17 =>
 K (.tuple #[]) Hx17
theorem E_paint_Paint_Turn (p1 : Option Addr) (H : Hp) (K : Value → Hp → Prop) : B_paint_Paint_Turn p1 H K = denF Tryz.prog Tryz.f63 .n [(.pointer p1)] H K := by kernel_rfl
theorem den_paint_Paint_Turn {p1 : Option Addr} {H : Hp} {K : Value → Hp → Prop} (h : B_paint_Paint_Turn p1 H K) : hcall PR f_paint_Paint_Turn ⟨[(.pointer p1)]⟩ H K := denF_call Tryz.func63 PR_mixed (Eq.mp (E_paint_Paint_Turn p1 H K) h)

def B_paint_Paint_there (p1 : Option Addr) (serial2 : Int) (H : Hp) (K : Value → Hp → Prop) : Prop :=
 nilP p1 fun pa3 =>
 ldP pa3 H fun h4 =>
 hcall PR f_heap_Heap_Object ⟨[(.pointer h4), (.int .u64 serial2)]⟩ H fun v5 Hx6 =>
 tup2 v5 fun v7 v8 =>
 asAgg' v7 fun cs9 =>
 unCons cs9.toList fun v10 r11 =>
 unCons r11 fun v12 r13 =>
 unCons r13 fun v14 r15 =>
 unCons r15 fun v16 r17 =>
 unCons r17 fun v18 r19 =>
 unNil r19 <|
 asI .u64 v10 fun Serial20 =>
 asI .i64 v12 fun Cell21 =>
 asSl v14 fun RefsP22 RefsL23 RefsC24 =>
 asSl v16 fun ValsP25 ValsL26 ValsC27 =>
 asI .i64 v18 fun In28 =>
 asB v8 fun t29 =>
 newB (.cells #[(.int .u64 0), (.int .i64 0), (.slice none 0 0), (.slice none 0 0), (.int .i64 0)] ty_api_Object) Hx6 fun b30 Hx31 =>
 st ⟨b30, 0, none⟩ (.int .u64 Serial20) Hx31 fun Hx32 =>
 st ⟨b30, 1, none⟩ (.int .i64 Cell21) Hx32 fun Hx33 =>
 st ⟨b30, 2, none⟩ (.slice RefsP22 RefsL23 RefsC24) Hx33 fun Hx34 =>
 st ⟨b30, 3, none⟩ (.slice ValsP25 ValsL26 ValsC27) Hx34 fun Hx35 =>
 st ⟨b30, 4, none⟩ (.int .i64 In28) Hx35 fun Hx36 =>
 K (.bool t29) Hx36
theorem E_paint_Paint_there (p1 : Option Addr) (serial2 : Int) (H : Hp) (K : Value → Hp → Prop) : B_paint_Paint_there p1 serial2 H K = denF Tryz.prog Tryz.f88 .n [(.pointer p1), (.int .u64 serial2)] H K := by kernel_rfl
theorem den_paint_Paint_there {p1 : Option Addr} {serial2 : Int} {H : Hp} {K : Value → Hp → Prop} (h : B_paint_Paint_there p1 serial2 H K) : hcall PR f_paint_Paint_there ⟨[(.pointer p1), (.int .u64 serial2)]⟩ H K := denF_call Tryz.func88 PR_mixed (Eq.mp (E_paint_Paint_there p1 serial2 H K) h)

def B_paint_Paint_Outs (p1 : Option Addr) (H : Hp) (K : Value → Hp → Prop) : Prop :=
 nilP p1 fun pa2 =>
 ldM (pa2.add 2) H fun met3 =>
 evW PR (Instr.range ty_map_api_ID_int (.map met3)) H fun v4 Hx5 =>
 asA v4 fun it6 =>
 ∃ (I7 : Option Addr → Nat → Nat → Hp → Prop) (m8 : Option Addr → Nat → Nat → Hp → Nat), I7 none 0 0 Hx5 ∧ ∀ outP10 : Option Addr, ∀ outL11 : Nat, ∀ outC12 : Nat, ∀ Hx9 : Hp, I7 outP10 outL11 outC12 Hx9 →
 ∀ R13 : Bool → Hp → Prop, (∀ t15 : Bool, ∀ Hx14 : Hp, (
 (bif t15 then
 evW PR (Instr.entry (.pointer (some it6))) Hx14 fun en16 Hx17 =>
 extractD en16 0 fun v18 =>
 agg2 v18 fun v19 v20 =>
 asI .i64 v19 fun Node21 =>
 asI .u64 v20 fun Serial22 =>
 extractD en16 1 fun v23 =>
 asI .i64 v23 fun t24 =>
 newB (.cells #[(.int .i64 0), (.int .u64 0)] ty_api_ID) Hx17 fun b25 Hx26 =>
 st ⟨b25, 0, none⟩ (.int .i64 Node21) Hx26 fun Hx27 =>
 st ⟨b25, 1, none⟩ (.int .u64 Serial22) Hx27 fun Hx28 =>
 ldI .i64 ⟨b25, 0, none⟩ Hx28 fun Node29 =>
 ldI .u64 ⟨b25, 1, none⟩ Hx28 fun Serial30 =>
 newB (.cells #[(.int .i64 Node29), (.int .u64 Serial30), (.int .i64 t24)] ty_api_Out) Hx28 fun b31 Hx32 =>
 evW PR (Builtin.append_ #[ty_Sapi_Out, ty_Sapi_Out] ty_Sapi_Out #[(.slice outP10 outL11 outC12), (.slice (some ⟨b31, 0, none⟩) 1 1)]) Hx32 fun v33 Hx34 =>
 asSl v33 fun tP35 tL36 tC37 =>
 I7 tP35 tL36 tC37 Hx34 ∧ m8 tP35 tL36 tC37 Hx34 < m8 outP10 outL11 outC12 Hx9
else
 hcall PR f_slices_SortFunc_Sapi_Out_api_Out ⟨[(.slice outP10 outL11 outC12), (.func (.func f_paint_Paint_Outs_1) #[] #[])]⟩ Hx14 fun v38 Hx39 =>
 K (.slice outP10 outL11 outC12) Hx39)) → R13 t15 Hx14) →
 evW PR (Instr.next (.pointer (some it6)) false 0) Hx9 fun nx40 Hx41 =>
 nextC nx40 (
 R13 false Hx41) fun k42 x43 =>
 R13 true Hx41
theorem E_paint_Paint_Outs (p1 : Option Addr) (H : Hp) (K : Value → Hp → Prop) : B_paint_Paint_Outs p1 H K = denF Tryz.prog Tryz.f107 (.seq none .n (.seq none .n (.seq none (.seq none .n (.sub (.loop ⟨[(3, .sl)], [10]⟩ (.seq (some ⟨[(12, .bool)], [3, 10]⟩) .n .n)))) .n))) [(.pointer p1)] H K := by kernel_rfl
theorem den_paint_Paint_Outs {p1 : Option Addr} {H : Hp} {K : Value → Hp → Prop} (h : B_paint_Paint_Outs p1 H K) : hcall PR f_paint_Paint_Outs ⟨[(.pointer p1)]⟩ H K := denF_call Tryz.func107 PR_mixed (Eq.mp (E_paint_Paint_Outs p1 H K) h)

def B_paint_Paint_Mark (p1 : Option Addr) (serial2 : Int) (H : Hp) (K : Value → Hp → Prop) : Prop :=
 nilP p1 fun pa3 =>
 ldM (pa3.add 1) H fun marks4 =>
 evR PR (Instr.lookup ty_map_uint64_paint_mark (.map marks4) (.int .u64 serial2) true) H fun v5 =>
 tup2 v5 fun v6 v7 =>
 agg2 v6 fun v8 v9 =>
 asI .i64 v8 fun rank10 =>
 asB v9 fun grey11 =>
 asB v7 fun t12 =>
 newB (.cells #[(.int .i64 0), (.bool false)] ty_paint_mark) H fun b13 Hx14 =>
 st ⟨b13, 0, none⟩ (.int .i64 rank10) Hx14 fun Hx15 =>
 st ⟨b13, 1, none⟩ (.bool grey11) Hx15 fun Hx16 =>
 (bif (!t12) then
 K (.tuple #[(.int .i64 0), (.bool false), (.bool false)]) Hx16
else
 hcall PR f_paint_Paint_there ⟨[(.pointer p1), (.int .u64 serial2)]⟩ Hx16 fun v17 Hx18 =>
 asB v17 fun t19 =>
 (bif (!t19) then
 K (.tuple #[(.int .i64 0), (.bool false), (.bool false)]) Hx18
else
 ldI .i64 ⟨b13, 0, none⟩ Hx18 fun rank20 =>
 ldB ⟨b13, 1, none⟩ Hx18 fun grey21 =>
 K (.tuple #[(.int .i64 rank20), (.bool grey21), (.bool true)]) Hx18))
theorem E_paint_Paint_Mark (p1 : Option Addr) (serial2 : Int) (H : Hp) (K : Value → Hp → Prop) : B_paint_Paint_Mark p1 serial2 H K = denF Tryz.prog Tryz.f111 .n [(.pointer p1), (.int .u64 serial2)] H K := by kernel_rfl
theorem den_paint_Paint_Mark {p1 : Option Addr} {serial2 : Int} {H : Hp} {K : Value → Hp → Prop} (h : B_paint_Paint_Mark p1 serial2 H K) : hcall PR f_paint_Paint_Mark ⟨[(.pointer p1), (.int .u64 serial2)]⟩ H K := denF_call Tryz.func111 PR_mixed (Eq.mp (E_paint_Paint_Mark p1 serial2 H K) h)

def B_paint_Paint_Turns (p1 : Option Addr) (H : Hp) (K : Value → Hp → Prop) : Prop :=
 nilP p1 fun pa2 =>
 ldI .u64 (pa2.add 4) H fun turns3 =>
 K (.int .u64 turns3) H
theorem E_paint_Paint_Turns (p1 : Option Addr) (H : Hp) (K : Value → Hp → Prop) : B_paint_Paint_Turns p1 H K = denF Tryz.prog Tryz.f122 .n [(.pointer p1)] H K := by kernel_rfl
theorem den_paint_Paint_Turns {p1 : Option Addr} {H : Hp} {K : Value → Hp → Prop} (h : B_paint_Paint_Turns p1 H K) : hcall PR f_paint_Paint_Turns ⟨[(.pointer p1)]⟩ H K := denF_call Tryz.func122 PR_mixed (Eq.mp (E_paint_Paint_Turns p1 H K) h)

def B_paint_Paint_Pop (p1 : Option Addr) (H : Hp) (K : Value → Hp → Prop) : Prop :=
 nilP p1 fun pa2 =>
 ldP (pa2.add 3) H fun stack3 =>
 hcall PR f_grey_Stack_uint64_Pop ⟨[(.pointer stack3)]⟩ H fun v4 Hx5 =>
 tup2 v4 fun v6 v7 =>
 asI .u64 v6 fun t8 =>
 asB v7 fun t9 =>
 K (.tuple #[(.int .u64 t8), (.bool t9)]) Hx5
theorem E_paint_Paint_Pop (p1 : Option Addr) (H : Hp) (K : Value → Hp → Prop) : B_paint_Paint_Pop p1 H K = denF Tryz.prog Tryz.f128 .n [(.pointer p1)] H K := by kernel_rfl
theorem den_paint_Paint_Pop {p1 : Option Addr} {H : Hp} {K : Value → Hp → Prop} (h : B_paint_Paint_Pop p1 H K) : hcall PR f_paint_Paint_Pop ⟨[(.pointer p1)]⟩ H K := denF_call Tryz.func128 PR_mixed (Eq.mp (E_paint_Paint_Pop p1 H K) h)

def B_paint_Paint_Scan (p1 : Option Addr) (serial2 : Int) (H : Hp) (K : Value → Hp → Prop) : Prop :=
 nilP p1 fun pa3 =>
 ldP pa3 H fun h4 =>
 hcall PR f_heap_Heap_Object ⟨[(.pointer h4), (.int .u64 serial2)]⟩ H fun v5 Hx6 =>
 tup2 v5 fun v7 v8 =>
 asAgg' v7 fun cs9 =>
 unCons cs9.toList fun v10 r11 =>
 unCons r11 fun v12 r13 =>
 unCons r13 fun v14 r15 =>
 unCons r15 fun v16 r17 =>
 unCons r17 fun v18 r19 =>
 unNil r19 <|
 asI .u64 v10 fun Serial20 =>
 asI .i64 v12 fun Cell21 =>
 asSl v14 fun RefsP22 RefsL23 RefsC24 =>
 asSl v16 fun ValsP25 ValsL26 ValsC27 =>
 asI .i64 v18 fun In28 =>
 asB v8 fun t29 =>
 newB (.cells #[(.int .u64 0), (.int .i64 0), (.slice none 0 0), (.slice none 0 0), (.int .i64 0)] ty_api_Object) Hx6 fun b30 Hx31 =>
 st ⟨b30, 0, none⟩ (.int .u64 Serial20) Hx31 fun Hx32 =>
 st ⟨b30, 1, none⟩ (.int .i64 Cell21) Hx32 fun Hx33 =>
 st ⟨b30, 2, none⟩ (.slice RefsP22 RefsL23 RefsC24) Hx33 fun Hx34 =>
 st ⟨b30, 3, none⟩ (.slice ValsP25 ValsL26 ValsC27) Hx34 fun Hx35 =>
 st ⟨b30, 4, none⟩ (.int .i64 In28) Hx35 fun Hx36 =>
 nilP p1 fun pa37 =>
 ldM (pa37.add 1) Hx36 fun marks38 =>
 evR PR (Instr.lookup ty_map_uint64_paint_mark (.map marks38) (.int .u64 serial2) false) Hx36 fun v39 =>
 agg2 v39 fun v40 v41 =>
 asI .i64 v40 fun rank42 =>
 asB v41 fun grey43 =>
 newB (.cells #[(.int .i64 0), (.bool false)] ty_paint_mark) Hx36 fun b44 Hx45 =>
 st ⟨b44, 0, none⟩ (.int .i64 rank42) Hx45 fun Hx46 =>
 st ⟨b44, 1, none⟩ (.bool grey43) Hx46 fun Hx47 =>
 (bif (!t29) then
 K (.bool false) Hx47
else
 ldB ⟨b44, 1, none⟩ Hx47 fun grey48 =>
 (bif (!grey48) then
 K (.bool false) Hx47
else
 nilP p1 fun pa49 =>
 ldM (pa49.add 1) Hx47 fun marks50 =>
 ldI .i64 ⟨b44, 0, none⟩ Hx47 fun rank51 =>
 evW PR (Instr.mapUpdate ty_map_uint64_paint_mark (.map marks50) (.int .u64 serial2) (.agg #[(.int .i64 rank51), (.bool false)])) Hx47 fun v52 Hx53 =>
 ldSl ⟨b30, 2, none⟩ Hx53 fun RefsP54 RefsL55 RefsC56 =>
 ∃ (I57 : Int → Hp → Prop) (m58 : Int → Hp → Nat), I57 0 Hx53 ∧ ∀ t60 : Int, ∀ Hx59 : Hp, I57 t60 Hx59 →
 (bif (decide ((t60 : Int) < (RefsL55 : Int))) then
 idxA RefsP54 RefsL55 t60 2 fun el61 =>
 ldI .i64 el61 Hx59 fun Node62 =>
 ldI .u64 (el61.add 1) Hx59 fun Serial63 =>
 newB (.cells #[(.int .i64 0), (.int .u64 0)] ty_api_ID) Hx59 fun b64 Hx65 =>
 st ⟨b64, 0, none⟩ (.int .i64 Node62) Hx65 fun Hx66 =>
 st ⟨b64, 1, none⟩ (.int .u64 Serial63) Hx66 fun Hx67 =>
 ldI .i64 ⟨b64, 0, none⟩ Hx67 fun Node68 =>
 ldI .u64 ⟨b64, 1, none⟩ Hx67 fun Serial69 =>
 ldI .i64 ⟨b44, 0, none⟩ Hx67 fun rank70 =>
 hcall PR f_paint_Paint_Shade ⟨[(.pointer p1), (.agg #[(.int .i64 Node68), (.int .u64 Serial69)]), (.int .i64 rank70)]⟩ Hx67 fun v71 Hx72 =>
 I57 (IntKind.i64.wrap (t60 + 1)) Hx72 ∧ m58 (IntKind.i64.wrap (t60 + 1)) Hx72 < m58 t60 Hx59
else
 K (.bool true) Hx59)))
theorem E_paint_Paint_Scan (p1 : Option Addr) (serial2 : Int) (H : Hp) (K : Value → Hp → Prop) : B_paint_Paint_Scan p1 serial2 H K = denF Tryz.prog Tryz.f129 (.seq none .n (.seq none .n (.seq none .n (.seq none .n (.seq none .n (.seq none (.seq none .n (.sub (.loop ⟨[(43, .int .i64)], [0, 7, 41, 42]⟩ .n))) .n)))))) [(.pointer p1), (.int .u64 serial2)] H K := by kernel_rfl
theorem den_paint_Paint_Scan {p1 : Option Addr} {serial2 : Int} {H : Hp} {K : Value → Hp → Prop} (h : B_paint_Paint_Scan p1 serial2 H K) : hcall PR f_paint_Paint_Scan ⟨[(.pointer p1), (.int .u64 serial2)]⟩ H K := denF_call Tryz.func129 PR_mixed (Eq.mp (E_paint_Paint_Scan p1 serial2 H K) h)

def B_paint_Paint_Over (p1 : Option Addr) (H : Hp) (K : Value → Hp → Prop) : Prop :=
 nilP p1 fun pa2 =>
 ldP (pa2.add 3) H fun stack3 =>
 hcall PR f_grey_Stack_uint64_Over ⟨[(.pointer stack3)]⟩ H fun v4 Hx5 =>
 asB v4 fun t6 =>
 K (.bool t6) Hx5
theorem E_paint_Paint_Over (p1 : Option Addr) (H : Hp) (K : Value → Hp → Prop) : B_paint_Paint_Over p1 H K = denF Tryz.prog Tryz.f130 .n [(.pointer p1)] H K := by kernel_rfl
theorem den_paint_Paint_Over {p1 : Option Addr} {H : Hp} {K : Value → Hp → Prop} (h : B_paint_Paint_Over p1 H K) : hcall PR f_paint_Paint_Over ⟨[(.pointer p1)]⟩ H K := denF_call Tryz.func130 PR_mixed (Eq.mp (E_paint_Paint_Over p1 H K) h)

def B_paint_Paint_Rest (p1 : Option Addr) (H : Hp) (K : Value → Hp → Prop) : Prop :=
 nilP p1 fun pa2 =>
 ldP (pa2.add 3) H fun stack3 =>
 hcall PR f_grey_Stack_uint64_Rest ⟨[(.pointer stack3)]⟩ H fun v4 Hx5 =>
 K (.tuple #[]) Hx5
theorem E_paint_Paint_Rest (p1 : Option Addr) (H : Hp) (K : Value → Hp → Prop) : B_paint_Paint_Rest p1 H K = denF Tryz.prog Tryz.f131 .n [(.pointer p1)] H K := by kernel_rfl
theorem den_paint_Paint_Rest {p1 : Option Addr} {H : Hp} {K : Value → Hp → Prop} (h : B_paint_Paint_Rest p1 H K) : hcall PR f_paint_Paint_Rest ⟨[(.pointer p1)]⟩ H K := denF_call Tryz.func131 PR_mixed (Eq.mp (E_paint_Paint_Rest p1 H K) h)

def B_paint_Paint_Outs_1 (aNode1 : Int) (aSerial2 : Int) (aRank3 : Int) (bNode4 : Int) (bSerial5 : Int) (bRank6 : Int) (H : Hp) (K : Value → Hp → Prop) : Prop :=
 newB (.cells #[(.int .i64 aNode1), (.int .u64 aSerial2), (.int .i64 aRank3)] ty_api_Out) H fun b7 Hx8 =>
 newB (.cells #[(.int .i64 bNode4), (.int .u64 bSerial5), (.int .i64 bRank6)] ty_api_Out) Hx8 fun b9 Hx10 =>
 ldI .i64 ⟨b7, 0, none⟩ Hx10 fun Node11 =>
 ldI .u64 ⟨b7, 1, none⟩ Hx10 fun Serial12 =>
 ldI .i64 ⟨b9, 0, none⟩ Hx10 fun Node13 =>
 ldI .u64 ⟨b9, 1, none⟩ Hx10 fun Serial14 =>
 hcall PR f_api_Key ⟨[(.agg #[(.int .i64 Node11), (.int .u64 Serial12)])]⟩ Hx10 fun v15 Hx16 =>
 asI .u64 v15 fun t17 =>
 (ldI .i64 ⟨b9, 0, none⟩ Hx16 fun Node18 =>
 ldI .u64 ⟨b9, 1, none⟩ Hx16 fun Serial19 =>
 ((.agg #[(.int .i64 Node18), (.int .u64 Serial19)]) : Value) = (.agg #[(.int .i64 Node13), (.int .u64 Serial14)])) ∧
 hcall PR f_api_Key ⟨[(.agg #[(.int .i64 Node13), (.int .u64 Serial14)])]⟩ Hx16 fun v20 Hx21 =>
 asI .u64 v20 fun t22 =>
 (bif (decide ((t17 : Int) < t22)) then
 K (.int .i64 (-1)) Hx21
else
 K (.int .i64 1) Hx21)
theorem E_paint_Paint_Outs_1 (aNode1 : Int) (aSerial2 : Int) (aRank3 : Int) (bNode4 : Int) (bSerial5 : Int) (bRank6 : Int) (H : Hp) (K : Value → Hp → Prop) : B_paint_Paint_Outs_1 aNode1 aSerial2 aRank3 bNode4 bSerial5 bRank6 H K = denF Tryz.prog Tryz.f136 .n [(.agg #[(.int .i64 aNode1), (.int .u64 aSerial2), (.int .i64 aRank3)]), (.agg #[(.int .i64 bNode4), (.int .u64 bSerial5), (.int .i64 bRank6)])] H K := by kernel_rfl
theorem den_paint_Paint_Outs_1 {aNode1 : Int} {aSerial2 : Int} {aRank3 : Int} {bNode4 : Int} {bSerial5 : Int} {bRank6 : Int} {H : Hp} {K : Value → Hp → Prop} (h : B_paint_Paint_Outs_1 aNode1 aSerial2 aRank3 bNode4 bSerial5 bRank6 H K) : hcall PR f_paint_Paint_Outs_1 ⟨[(.agg #[(.int .i64 aNode1), (.int .u64 aSerial2), (.int .i64 aRank3)]), (.agg #[(.int .i64 bNode4), (.int .u64 bSerial5), (.int .i64 bRank6)])]⟩ H K := denF_call Tryz.func136 PR_mixed (Eq.mp (E_paint_Paint_Outs_1 aNode1 aSerial2 aRank3 bNode4 bSerial5 bRank6 H K) h)

def B_paint_Paint_Forget (p1 : Option Addr) (serial2 : Int) (H : Hp) (K : Value → Hp → Prop) : Prop :=
 nilP p1 fun pa3 =>
 ldM (pa3.add 1) H fun marks4 =>
 evW PR (Builtin.delete_ #[ty_map_uint64_paint_mark, ty_uint64] ty_ #[(.map marks4), (.int .u64 serial2)]) H fun v5 Hx6 =>
 K (.tuple #[]) Hx6
theorem E_paint_Paint_Forget (p1 : Option Addr) (serial2 : Int) (H : Hp) (K : Value → Hp → Prop) : B_paint_Paint_Forget p1 serial2 H K = denF Tryz.prog Tryz.f138 .n [(.pointer p1), (.int .u64 serial2)] H K := by kernel_rfl
theorem den_paint_Paint_Forget {p1 : Option Addr} {serial2 : Int} {H : Hp} {K : Value → Hp → Prop} (h : B_paint_Paint_Forget p1 serial2 H K) : hcall PR f_paint_Paint_Forget ⟨[(.pointer p1), (.int .u64 serial2)]⟩ H K := denF_call Tryz.func138 PR_mixed (Eq.mp (E_paint_Paint_Forget p1 serial2 H K) h)

def B_paint_Paint_Met (p1 : Option Addr) (xNode2 : Int) (xSerial3 : Int) (H : Hp) (K : Value → Hp → Prop) : Prop :=
 newB (.cells #[(.int .i64 xNode2), (.int .u64 xSerial3)] ty_api_ID) H fun b4 Hx5 =>
 nilP p1 fun pa6 =>
 ldM (pa6.add 2) Hx5 fun met7 =>
 ldI .i64 ⟨b4, 0, none⟩ Hx5 fun Node8 =>
 ldI .u64 ⟨b4, 1, none⟩ Hx5 fun Serial9 =>
 evR PR (Instr.lookup ty_map_api_ID_int (.map met7) (.agg #[(.int .i64 Node8), (.int .u64 Serial9)]) true) Hx5 fun v10 =>
 tup2 v10 fun v11 v12 =>
 asI .i64 v11 fun t13 =>
 asB v12 fun t14 =>
 K (.tuple #[(.int .i64 t13), (.bool t14)]) Hx5
theorem E_paint_Paint_Met (p1 : Option Addr) (xNode2 : Int) (xSerial3 : Int) (H : Hp) (K : Value → Hp → Prop) : B_paint_Paint_Met p1 xNode2 xSerial3 H K = denF Tryz.prog Tryz.f154 .n [(.pointer p1), (.agg #[(.int .i64 xNode2), (.int .u64 xSerial3)])] H K := by kernel_rfl
theorem den_paint_Paint_Met {p1 : Option Addr} {xNode2 : Int} {xSerial3 : Int} {H : Hp} {K : Value → Hp → Prop} (h : B_paint_Paint_Met p1 xNode2 xSerial3 H K) : hcall PR f_paint_Paint_Met ⟨[(.pointer p1), (.agg #[(.int .i64 xNode2), (.int .u64 xSerial3)])]⟩ H K := denF_call Tryz.func154 PR_mixed (Eq.mp (E_paint_Paint_Met p1 xNode2 xSerial3 H K) h)

end Go.Proofs.YtflfodcemnapeaaGreat

namespace Go.Proofs.YtflfodcemnapeaaGreat
open Go
set_option linter.unusedVariables false
set_option maxRecDepth 100000
def B_grey_New_uint64 (most1 : Int) (H : Hp) (K : Value → Hp → Prop) : Prop :=
 (bif (decide ((most1 : Int) < 1)) then
 K (.tuple #[(.pointer none), (.int .i64 1)]) H
else
 (bif (decide ((most1 : Int) > 64)) then
 K (.tuple #[(.pointer none), (.int .i64 1)]) H
else
 newB (.cells #[(.slice none 0 0), (.int .i64 most1), (.bool false)] ty_grey_Stack_uint64) H fun b2 Hx3 =>
 K (.tuple #[(.pointer (some ⟨b2, 0, none⟩)), (.int .i64 0)]) Hx3))
theorem E_grey_New_uint64 (most1 : Int) (H : Hp) (K : Value → Hp → Prop) : B_grey_New_uint64 most1 H K = denF Tryz.prog Tryz.f84 .n [(.int .i64 most1)] H K := by kernel_rfl
theorem den_grey_New_uint64 {most1 : Int} {H : Hp} {K : Value → Hp → Prop} (h : B_grey_New_uint64 most1 H K) : hcall PR f_grey_New_uint64 ⟨[(.int .i64 most1)]⟩ H K := denF_call Tryz.func84 PR_mixed (Eq.mp (E_grey_New_uint64 most1 H K) h)

def B_grey_Stack_uint64_Push (s1 : Option Addr) (x2 : Int) (H : Hp) (K : Value → Hp → Prop) : Prop :=
 nilP s1 fun sa3 =>
 ldSl sa3 H fun rowP4 rowL5 rowC6 =>
 nilP s1 fun sa7 =>
 ldI .i64 (sa7.add 1) H fun most8 =>
 (bif (decide (((rowL5 : Int) : Int) ≥ most8)) then
 nilP s1 fun sa9 =>
 st (sa9.add 2) (.bool true) H fun Hx10 =>
 K (.bool false) Hx10
else
 nilP s1 fun sa11 =>
 ldSl sa11 H fun rowP12 rowL13 rowC14 =>
 newB (.cells #[(.int .u64 x2)] ty_uint64) H fun b15 Hx16 =>
 evW PR (Builtin.append_ #[ty_Suint64, ty_Suint64] ty_Suint64 #[(.slice rowP12 rowL13 rowC14), (.slice (some ⟨b15, 0, none⟩) 1 1)]) Hx16 fun v17 Hx18 =>
 asSl v17 fun tP19 tL20 tC21 =>
 nilP s1 fun sa22 =>
 st sa22 (.slice tP19 tL20 tC21) Hx18 fun Hx23 =>
 K (.bool true) Hx23)
theorem E_grey_Stack_uint64_Push (s1 : Option Addr) (x2 : Int) (H : Hp) (K : Value → Hp → Prop) : B_grey_Stack_uint64_Push s1 x2 H K = denF Tryz.prog Tryz.f89 .n [(.pointer s1), (.int .u64 x2)] H K := by kernel_rfl
theorem den_grey_Stack_uint64_Push {s1 : Option Addr} {x2 : Int} {H : Hp} {K : Value → Hp → Prop} (h : B_grey_Stack_uint64_Push s1 x2 H K) : hcall PR f_grey_Stack_uint64_Push ⟨[(.pointer s1), (.int .u64 x2)]⟩ H K := denF_call Tryz.func89 PR_mixed (Eq.mp (E_grey_Stack_uint64_Push s1 x2 H K) h)

def B_grey_Stack_uint64_Clear (s1 : Option Addr) (H : Hp) (K : Value → Hp → Prop) : Prop :=
 nilP s1 fun sa2 =>
 st sa2 (.slice none 0 0) H fun Hx3 =>
 nilP s1 fun sa4 =>
 st (sa4.add 2) (.bool false) Hx3 fun Hx5 =>
 K (.tuple #[]) Hx5
theorem E_grey_Stack_uint64_Clear (s1 : Option Addr) (H : Hp) (K : Value → Hp → Prop) : B_grey_Stack_uint64_Clear s1 H K = denF Tryz.prog Tryz.f102 .n [(.pointer s1)] H K := by kernel_rfl
theorem den_grey_Stack_uint64_Clear {s1 : Option Addr} {H : Hp} {K : Value → Hp → Prop} (h : B_grey_Stack_uint64_Clear s1 H K) : hcall PR f_grey_Stack_uint64_Clear ⟨[(.pointer s1)]⟩ H K := denF_call Tryz.func102 PR_mixed (Eq.mp (E_grey_Stack_uint64_Clear s1 H K) h)

def B_grey_Stack_uint64_Pop (s1 : Option Addr) (H : Hp) (K : Value → Hp → Prop) : Prop :=
 nilP s1 fun sa2 =>
 ldSl sa2 H fun rowP3 rowL4 rowC5 =>
 (bif (((rowL4 : Int) : Int) == 0) then
 K (.tuple #[(.int .u64 0), (.bool false)]) H
else
 nilP s1 fun sa6 =>
 ldSl sa6 H fun rowP7 rowL8 rowC9 =>
 nilP s1 fun sa10 =>
 ldSl sa10 H fun rowP11 rowL12 rowC13 =>
 idxA rowP11 rowL12 (IntKind.i64.wrap ((rowL8 : Int) - 1)) 1 fun el14 =>
 ldI .u64 el14 H fun t15 =>
 nilP s1 fun sa16 =>
 ldSl sa16 H fun rowP17 rowL18 rowC19 =>
 slcD rowP17 rowL18 rowC19 none (some (IntKind.i64.wrap ((rowL8 : Int) - 1))) 1 fun sP20 sL21 sC22 =>
 nilP s1 fun sa23 =>
 st sa23 (.slice sP20 sL21 sC22) H fun Hx24 =>
 K (.tuple #[(.int .u64 t15), (.bool true)]) Hx24)
theorem E_grey_Stack_uint64_Pop (s1 : Option Addr) (H : Hp) (K : Value → Hp → Prop) : B_grey_Stack_uint64_Pop s1 H K = denF Tryz.prog Tryz.f150 .n [(.pointer s1)] H K := by kernel_rfl
theorem den_grey_Stack_uint64_Pop {s1 : Option Addr} {H : Hp} {K : Value → Hp → Prop} (h : B_grey_Stack_uint64_Pop s1 H K) : hcall PR f_grey_Stack_uint64_Pop ⟨[(.pointer s1)]⟩ H K := denF_call Tryz.func150 PR_mixed (Eq.mp (E_grey_Stack_uint64_Pop s1 H K) h)

def B_grey_Stack_uint64_Over (s1 : Option Addr) (H : Hp) (K : Value → Hp → Prop) : Prop :=
 nilP s1 fun sa2 =>
 ldB (sa2.add 2) H fun over3 =>
 K (.bool over3) H
theorem E_grey_Stack_uint64_Over (s1 : Option Addr) (H : Hp) (K : Value → Hp → Prop) : B_grey_Stack_uint64_Over s1 H K = denF Tryz.prog Tryz.f151 .n [(.pointer s1)] H K := by kernel_rfl
theorem den_grey_Stack_uint64_Over {s1 : Option Addr} {H : Hp} {K : Value → Hp → Prop} (h : B_grey_Stack_uint64_Over s1 H K) : hcall PR f_grey_Stack_uint64_Over ⟨[(.pointer s1)]⟩ H K := denF_call Tryz.func151 PR_mixed (Eq.mp (E_grey_Stack_uint64_Over s1 H K) h)

def B_grey_Stack_uint64_Rest (s1 : Option Addr) (H : Hp) (K : Value → Hp → Prop) : Prop :=
 nilP s1 fun sa2 =>
 st (sa2.add 2) (.bool false) H fun Hx3 =>
 K (.tuple #[]) Hx3
theorem E_grey_Stack_uint64_Rest (s1 : Option Addr) (H : Hp) (K : Value → Hp → Prop) : B_grey_Stack_uint64_Rest s1 H K = denF Tryz.prog Tryz.f152 .n [(.pointer s1)] H K := by kernel_rfl
theorem den_grey_Stack_uint64_Rest {s1 : Option Addr} {H : Hp} {K : Value → Hp → Prop} (h : B_grey_Stack_uint64_Rest s1 H K) : hcall PR f_grey_Stack_uint64_Rest ⟨[(.pointer s1)]⟩ H K := denF_call Tryz.func152 PR_mixed (Eq.mp (E_grey_Stack_uint64_Rest s1 H K) h)

end Go.Proofs.YtflfodcemnapeaaGreat

namespace Go.Proofs.YtflfodcemnapeaaGreat
set_option linter.unusedSimpArgs false
set_option linter.unusedVariables false
open Go
def markV (m : Int × Bool) : Value := .agg #[.int .i64 m.1, .bool m.2]
structure PtX where
 mm : Nat
 me : Nat
 g : Nat
 sp : Option Addr
 sc : Nat
 T : Nat
 T2 : Nat
def paintParts (pb hb : Nat) (p : Ps) (x : PtX) : List Prt :=
 [Prt.one pb (.cells #[ptrV hb, .map (some x.mm), .map (some x.me), ptrV x.g, .int .u64 p.turns] x.T (0, 0)), Prt.mp x.mm (ments (Value.int .u64) markV p.marks), Prt.mp x.me (ments Id.val (Value.int .i64) p.met),
  Prt.one x.g (.cells #[.slice x.sp p.stack.length x.sc, .int .i64 p.most, .bool p.over] x.T2 (0, 0)), Prt.row 1 x.sp p.stack.length x.sc (p.stack.map (Value.int .u64)), Prt.pure p.ok]
/-- A paint of a heap, as it stands. -/
def PaintP (pb hb : Nat) (p : Ps) : Prt := Prt.ex fun x => Prt.list (paintParts pb hb p x)

theorem idKey : KeyK PR ty_api_ID Id.val := KeyK.ints (g := fun a : Id => [a.n, a.s]) id_ints (fun _ => rfl) fun a b h => by
 simp only [List.cons.injEq, and_true] at h
 exact Id.ext h.1 h.2
theorem mm_map : PR.underlying ty_map_uint64_paint_mark = some (.map ty_uint64 ty_paint_mark) := by kernel_rfl
theorem me_map : PR.underlying ty_map_api_ID_int = some (.map ty_api_ID ty_int) := by kernel_rfl
theorem mm_zero : ((PR.info? ty_paint_mark).bind (·.zero)) = some (.agg #[.int .i64 0, .bool false]) := by kernel_rfl
theorem me_zero : ((PR.info? ty_int).bind (·.zero)) = some (.int .i64 0) := by kernel_rfl

section
variable {H0 H : Hp} {L M : List Prt} {i j hb pb : Nat} {s : Hs} {p : Ps} {x : PtX} {K : Value → Hp → Prop}
theorem paintTake (h : St H0 L H) (hj : L[j]? = some (PaintP pb hb p)) : ∃ x M, St H0 (paintParts pb hb p x ++ M) H ∧ p.ok ∧ (∀ i A, L[i]? = some A → i ≠ j → M[i]? = some A) ∧ ∀ p' x' H', St H0 (paintParts pb hb p' x' ++ M) H' → St H0 (L.set j (PaintP pb hb p')) H' := by
 obtain ⟨x, h1⟩ := h.openEx hj
 refine ⟨x, _, h1, h1.fact (i := 5) rfl, fun i A hi hij => ?_, fun p' x' H' h' => h'.shutEx (M := paintParts pb hb p') x' hj⟩
 rw [List.getElem?_set_ne (Ne.symm hij)]
 exact hi
theorem St.shutExN {α : Type} {A : α → List Prt} {L' N : List Prt} {B : Prt} (x : α) (h : St H0 (N ++ (A x ++ L'.set i .nil)) H) (hi : L'[i]? = some B) : St H0 (N ++ L'.set i (Prt.ex fun x => Prt.list (A x))) H := by
 have hlt : i < L'.length := by
  rcases Nat.lt_or_ge i L'.length with h | h
  ·exact h
  ·rw [List.getElem?_eq_none h] at hi; cases hi
 have h1 : St H0 (A x ++ (L' ++ N).set i .nil) H := by
  rw [List.set_append_left _ _ hlt]
  refine h.perm (List.perm_append_comm.trans ?_)
  rw [List.append_assoc]
 have h2 := St.shutEx (L' := L' ++ N) x h1 (B := B) (by rw [List.getElem?_append_left hlt]; exact hi)
 rw [List.set_append_left _ _ hlt] at h2
 exact h2.perm List.perm_append_comm
theorem paintTakeN (h : St H0 L H) (hj : L[j]? = some (PaintP pb hb p)) : ∃ x M, St H0 (paintParts pb hb p x ++ M) H ∧ p.ok ∧ (∀ i A, L[i]? = some A → i ≠ j → M[i]? = some A) ∧ ∀ N p' x' H', St H0 (N ++ (paintParts pb hb p' x' ++ M)) H' → St H0 (N ++ L.set j (PaintP pb hb p')) H' := by
 obtain ⟨x, h1⟩ := h.openEx hj
 refine ⟨x, _, h1, h1.fact (i := 5) rfl, fun i A hi hij => ?_, fun N p' x' H' h' => St.shutExN (A := paintParts pb hb p') (N := N) x' h' hj⟩
 rw [List.getElem?_set_ne (Ne.symm hij)]
 exact hi
theorem paint_ok (h : St H0 L H) (hj : L[j]? = some (PaintP pb hb p)) : p.ok := let ⟨_, _, _, h, _⟩ := paintTake h hj; h

/-- Onto the stack. -/
theorem gPushC {g T sc : Nat} {sp : Option Addr} {st : List Int} {most k : Int} {over : Bool} (h : St H0 L H) (hi : L[i]? = some (Prt.one g (.cells #[.slice sp st.length sc, .int .i64 most, .bool over] T (0, 0)))) (hr : L[j]? = some (Prt.row 1 sp st.length sc (st.map (Value.int .u64))))
  (hij : i ≠ j) (hm : most ≤ 64) (h1 : most ≤ st.length → ∀ H', St H0 (L.set i (Prt.one g (.cells #[.slice sp st.length sc, .int .i64 most, .bool true] T (0, 0)))) H' → K (.bool false) H')
  (h2 : (st.length : Int) < most → ∀ sp' sc' H', St H0 ((L.set j (Prt.row 1 sp' (st ++ [k]).length sc' ((st ++ [k]).map (Value.int .u64)))).set i (Prt.one g (.cells #[.slice sp' (st ++ [k]).length sc', .int .i64 most, .bool over] T (0, 0)))) H' → K (.bool true) H') :
  hcall PR f_grey_Stack_uint64_Push ⟨[.pointer (some ⟨g, 0, none⟩), .int .u64 k]⟩ H K := by
 apply den_grey_Stack_uint64_Push
 unfold B_grey_Stack_uint64_Push
 simp only [Za,Zb,Zc,Zd,Zf,Zh,Zi,Zk,Zl,Zm,Zn,Zo,Zp,Zr,Zs,Zx,Zt,Zu,Zy,Zz,Zv,Zw,ZA,ZB,ZC,ZD]
 refine ldSl_of (h.cell hi rfl) (ldI_of (h.cell hi rfl) ?_)
 by_cases hf : (st.length : Int) ≥ most
 ·refine bif_pos hf (h.put hi (by simp) fun H' h' => h1 hf H' h')
 ·refine bif_neg hf (ldSl_of (h.cell hi rfl) ?_)
  refine lit_ty_Suint64 (m := 1) (c := #[.int .u64 k]) (h.row_own hr) rfl (by intro y hy; simp at hy; rw [hy]; rfl) (by omega) fun p' cap' H' ho hg => ?_
  simp only [Za,Zb,Zc,Zd,Zf,Zh,Zi,Zk,Zl,Zm,Zn,Zo,Zp,Zr,Zs,Zx,Zt,Zu,Zy,Zz,Zv,Zw,ZA,ZB,ZC,ZD]
  have h3 := h.row_to hr ho hg
  rw [show (st.map (Value.int .u64)) ++ (#[Value.int .u64 k] : Array Value).toList = (st ++ [k]).map (Value.int .u64) by simp, show st.length + 1 = (st ++ [k]).length by simp] at h3
  rw [show st.length + 1 = (st ++ [k]).length by simp]
  have hi3 : (L.set j (Prt.row 1 p' (st ++ [k]).length cap' ((st ++ [k]).map (Value.int .u64))))[i]? = some (Prt.one g (.cells #[.slice sp st.length sc, .int .i64 most, .bool over] T (0, 0))) := by rw [List.getElem?_set_ne (Ne.symm hij)]; exact hi
  exact h3.put hi3 (by simp) fun H4 h4 => h2 (by omega) _ _ H4 h4
theorem gPopC {g T sc : Nat} {sp : Option Addr} {st : List Int} {most : Int} {over : Bool} (h : St H0 L H) (hi : L[i]? = some (Prt.one g (.cells #[.slice sp st.length sc, .int .i64 most, .bool over] T (0, 0)))) (hr : L[j]? = some (Prt.row 1 sp st.length sc (st.map (Value.int .u64))))
  (hij : i ≠ j) (hm : st.length ≤ 64) (h1 : st.getLast? = none → K (.tuple #[.int .u64 0, .bool false]) H)
  (h2 : ∀ k, st.getLast? = some k → ∀ H', St H0 ((L.set j (Prt.row 1 sp st.dropLast.length sc (st.dropLast.map (Value.int .u64)))).set i (Prt.one g (.cells #[.slice sp st.dropLast.length sc, .int .i64 most, .bool over] T (0, 0)))) H' → K (.tuple #[.int .u64 k, .bool true]) H') :
  hcall PR f_grey_Stack_uint64_Pop ⟨[.pointer (some ⟨g, 0, none⟩)]⟩ H K := by
 apply den_grey_Stack_uint64_Pop
 unfold B_grey_Stack_uint64_Pop
 simp only [Za,Zb,Zc,Zd,Zf,Zh,Zi,Zk,Zl,Zm,Zn,Zo,Zp,Zr,Zs,Zx,Zt,Zu,Zy,Zz,Zv,Zw,ZA,ZB,ZC,ZD]
 refine ldSl_of (h.cell hi rfl) ?_
 cases hl : st.getLast? with
 | none =>
  have := List.getLast?_eq_none_iff.1 hl
  subst this
  exact bif_eq rfl (h1 hl)
 | some k =>
  have hne : st ≠ [] := fun e => by rw [e] at hl; cases hl
  have hpos : 0 < st.length := List.length_pos_iff.2 hne
  refine bif_ne (by omega) (ldSl_of (h.cell hi rfl) (ldSl_of (h.cell hi rfl) ?_))
  have hw : IntKind.i64.wrap ((st.length : Int) - 1) = ((st.length - 1 : Nat) : Int) := by rw [wrap_i64 (by omega) (by omega)]; omega
  rw [hw]
  have hrow := h.row_own hr
  refine idx1 (g := Value.int .u64) (l := st) (d := 0) hrow.rd (by omega) (by omega) fun b1 o1 hp hc => ldI_of hc ?_
  have hk : st.getD (((st.length - 1 : Nat) : Int)).toNat 0 = k := by
   rw [Int.toNat_natCast, List.getD_eq_getElem?_getD, ← List.getLast?_eq_getElem?, hl]
   rfl
  rw [hk]
  refine ldSl_of (h.cell hi rfl) (slc_to (by omega) (by have := hrow.2.1; omega) ?_)
  rw [Int.toNat_natCast]
  have ht := hrow.take (m := st.length - 1) (by omega)
  rw [Nat.mul_one, ← List.map_take, ← List.dropLast_eq_take] at ht
  have hdl : st.length - 1 = st.dropLast.length := by simp
  rw [hdl] at ht ⊢
  have h3 := h.row_to hr ht (Goes.refl _ _)
  have hi3 : (L.set j (Prt.row 1 sp st.dropLast.length sc (st.dropLast.map (Value.int .u64))))[i]? = some (Prt.one g (.cells #[.slice sp st.length sc, .int .i64 most, .bool over] T (0, 0))) := by rw [List.getElem?_set_ne (Ne.symm hij)]; exact hi
  exact h3.put hi3 (by simp) fun H4 h4 => h2 k hl H4 h4

/-- Is there such an object? -/
theorem pThereC {k : Int} (h : St H0 (paintParts pb hb p x ++ M) H) (hi : M[i]? = some (HeapP hb s)) (hK : ∀ H', St H0 (paintParts pb hb p x ++ M) H' → K (.bool (hGet s k).isSome) H') :
  hcall PR f_paint_Paint_there ⟨[.pointer (some ⟨pb, 0, none⟩), .int .u64 k]⟩ H K := by
 apply den_paint_Paint_there
 unfold B_paint_Paint_there
 simp only [Za,Zb,Zc,Zd,Zf,Zh,Zi,Zk,Zl,Zm,Zn,Zo,Zp,Zr,Zs,Zx,Zt,Zu,Zy,Zz,Zv,Zw,ZA,ZB,ZC,ZD]
 refine ldP_of (h.cell (i := 0) rfl rfl) (hObjC h (i := i + 6) hi (fun e H1 h1 => ?_) fun o e pp c q d H1 h1 => ?_)
 ·simp only [Za,Zb,Zc,Zd,Zf,Zh,Zi,Zk,Zl,Zm,Zn,Zo,Zp,Zr,Zs,Zx,Zt,Zu,Zy,Zz,Zv,Zw,ZA,ZB,ZC,ZD]
  rw [e] at hK
  exact box5 h1 fun b H2 h2 => hK H2 h2.less
 ·simp only [Za,Zb,Zc,Zd,Zf,Zh,Zi,Zk,Zl,Zm,Zn,Zo,Zp,Zr,Zs,Zx,Zt,Zu,Zy,Zz,Zv,Zw,ZA,ZB,ZC,ZD]
  rw [e] at hK
  exact box5 h1 fun b H2 h2 => hK H2 h2.less.less.less
end
end Go.Proofs.YtflfodcemnapeaaGreat

namespace Go.Proofs.YtflfodcemnapeaaGreat
open Go
set_option linter.unusedVariables false
set_option maxRecDepth 100000
def B_ref11_NewPaint (h1 : Option Addr) (most2 : Int) (H : Hp) (K : Value → Hp → Prop) : Prop :=
 newB (.cells #[(.pointer h1), (.int .i64 0), (.slice none 0 0), (.bool false), (.int .u64 0), (.slice none 0 0), (.int .i64 0), (.slice none 0 0), (.slice none 0 0)] ty_ref11_Paint) H fun b3 Hx4 =>
 st ⟨b3, 1, none⟩ (.int .i64 most2) Hx4 fun Hx5 =>
 st ⟨b3, 6, none⟩ (.int .i64 1048576) Hx5 fun Hx6 =>
 K (.pointer (some ⟨b3, 0, none⟩)) Hx6
theorem E_ref11_NewPaint (h1 : Option Addr) (most2 : Int) (H : Hp) (K : Value → Hp → Prop) : B_ref11_NewPaint h1 most2 H K = denF Tryz.prog Tryz.f41 .n [(.pointer h1), (.int .i64 most2)] H K := by kernel_rfl
theorem den_ref11_NewPaint {h1 : Option Addr} {most2 : Int} {H : Hp} {K : Value → Hp → Prop} (h : B_ref11_NewPaint h1 most2 H K) : hcall PR f_ref11_NewPaint ⟨[(.pointer h1), (.int .i64 most2)]⟩ H K := denF_call Tryz.func41 PR_mixed (Eq.mp (E_ref11_NewPaint h1 most2 H K) h)

def B_ref11_NewShake (n1 : Int) (H : Hp) (K : Value → Hp → Prop) : Prop :=
 (evW PR (Instr.makeSlice ty_Sbool (.int .i64 (IntKind.i64.wrap (n1 + 1))) (.int .i64 (IntKind.i64.wrap (n1 + 1)))) H fun v2 Hx3 =>
 asSl v2 fun mkP4 mkL5 mkC6 =>
 evW PR (Instr.makeSlice ty_Sbool (.int .i64 (IntKind.i64.wrap (n1 + 1))) (.int .i64 (IntKind.i64.wrap (n1 + 1)))) Hx3 fun v7 Hx8 =>
 asSl v7 fun mkP9 mkL10 mkC11 =>
 newB (.cells #[(.int .i64 n1), (.int .i64 0), (.slice mkP4 mkL5 mkC6), (.slice mkP9 mkL10 mkC11)] ty_ref11_Shake) Hx8 fun b12 Hx13 =>
 K (.pointer (some ⟨b12, 0, none⟩)) Hx13) ∧
 (evW PR (Instr.makeSlice ty_Sbool (.int .i64 (IntKind.i64.wrap (n1 + 1))) (.int .i64 (IntKind.i64.wrap (n1 + 1)))) H fun v14 Hx15 =>
 asSl v14 fun mkP16 mkL17 mkC18 =>
 evW PR (Instr.makeSlice ty_Sbool (.int .i64 (IntKind.i64.wrap (n1 + 1))) (.int .i64 (IntKind.i64.wrap (n1 + 1)))) Hx15 fun v19 Hx20 =>
 asSl v19 fun mkP21 mkL22 mkC23 =>
 newB (.cells #[(.int .i64 n1), (.int .i64 0), (.slice mkP21 mkL22 mkC23), (.slice mkP16 mkL17 mkC18)] ty_ref11_Shake) Hx20 fun b24 Hx25 =>
 K (.pointer (some ⟨b24, 0, none⟩)) Hx25)
theorem E_ref11_NewShake (n1 : Int) (H : Hp) (K : Value → Hp → Prop) : B_ref11_NewShake n1 H K = denF Tryz.prog Tryz.f42 .n [(.int .i64 n1)] H K := by kernel_rfl
theorem den_ref11_NewShake {n1 : Int} {H : Hp} {K : Value → Hp → Prop} (h : B_ref11_NewShake n1 H K) : hcall PR f_ref11_NewShake ⟨[(.int .i64 n1)]⟩ H K := denF_call Tryz.func42 PR_mixed (Eq.mp (E_ref11_NewShake n1 H K) h)

def B_ref11_Shake_Answer (s1 : Option Addr) (m2 : Int) (H : Hp) (K : Value → Hp → Prop) : Prop :=
 (bif (decide ((m2 : Int) < 0)) then
 K (.int .i64 0) H
else
 nilP s1 fun sa3 =>
 ldI .i64 sa3 H fun N4 =>
 (bif (decide ((m2 : Int) > N4)) then
 K (.int .i64 0) H
else
 ∀ R5 : Hp → Prop, (∀ Hx6 : Hp, (
 nilP s1 fun sa7 =>
 ldI .i64 (sa7.add 1) Hx6 fun Phase8 =>
 (bif ((Phase8 : Int) == 2) then
 nilP s1 fun sa9 =>
 ldSl (sa9.add 3) Hx6 fun ScannedP10 ScannedL11 ScannedC12 =>
 idxA ScannedP10 ScannedL11 m2 1 fun el13 =>
 ldB el13 Hx6 fun t14 =>
 (bif (!t14) then
 nilP s1 fun sa15 =>
 ldSl (sa15.add 3) Hx6 fun ScannedP16 ScannedL17 ScannedC18 =>
 idxA ScannedP16 ScannedL17 m2 1 fun el19 =>
 st el19 (.bool true) Hx6 fun Hx20 =>
 nilP s1 fun sa21 =>
 ldSl (sa21.add 3) Hx20 fun ScannedP22 ScannedL23 ScannedC24 =>
 hcall PR f_ref11_all ⟨[(.slice ScannedP22 ScannedL23 ScannedC24)]⟩ Hx20 fun v25 Hx26 =>
 asB v25 fun t27 =>
 (bif t27 then
 nilP s1 fun sa28 =>
 st (sa28.add 1) (.int .i64 3) Hx26 fun Hx29 =>
 K (.int .i64 2) Hx29
else
 K (.int .i64 2) Hx26)
else
 K (.int .i64 0) Hx6)
else
 K (.int .i64 0) Hx6)) → R5 Hx6) →
 nilP s1 fun sa30 =>
 ldI .i64 (sa30.add 1) H fun Phase31 =>
 (bif ((Phase31 : Int) == 1) then
 nilP s1 fun sa32 =>
 ldSl (sa32.add 2) H fun ArmedP33 ArmedL34 ArmedC35 =>
 idxA ArmedP33 ArmedL34 m2 1 fun el36 =>
 ldB el36 H fun t37 =>
 (bif (!t37) then
 nilP s1 fun sa38 =>
 ldSl (sa38.add 2) H fun ArmedP39 ArmedL40 ArmedC41 =>
 idxA ArmedP39 ArmedL40 m2 1 fun el42 =>
 st el42 (.bool true) H fun Hx43 =>
 nilP s1 fun sa44 =>
 ldSl (sa44.add 2) Hx43 fun ArmedP45 ArmedL46 ArmedC47 =>
 hcall PR f_ref11_all ⟨[(.slice ArmedP45 ArmedL46 ArmedC47)]⟩ Hx43 fun v48 Hx49 =>
 asB v48 fun t50 =>
 (bif t50 then
 nilP s1 fun sa51 =>
 st (sa51.add 1) (.int .i64 2) Hx49 fun Hx52 =>
 K (.int .i64 1) Hx52
else
 K (.int .i64 1) Hx49)
else
 R5 H)
else
 R5 H)))
theorem E_ref11_Shake_Answer (s1 : Option Addr) (m2 : Int) (H : Hp) (K : Value → Hp → Prop) : B_ref11_Shake_Answer s1 m2 H K = denF Tryz.prog Tryz.f45 (.seq none .n (.seq none .n (.seq (some ⟨[], [0, 1]⟩) .n .n))) [(.pointer s1), (.int .i64 m2)] H K := by kernel_rfl
theorem den_ref11_Shake_Answer {s1 : Option Addr} {m2 : Int} {H : Hp} {K : Value → Hp → Prop} (h : B_ref11_Shake_Answer s1 m2 H K) : hcall PR f_ref11_Shake_Answer ⟨[(.pointer s1), (.int .i64 m2)]⟩ H K := denF_call Tryz.func45 PR_mixed (Eq.mp (E_ref11_Shake_Answer s1 m2 H K) h)

def B_ref11_Paint_Shade (p1 : Option Addr) (xNode2 : Int) (xSerial3 : Int) (rank4 : Int) (H : Hp) (K : Value → Hp → Prop) : Prop :=
 newB (.cells #[(.int .i64 xNode2), (.int .u64 xSerial3)] ty_api_ID) H fun b5 Hx6 =>
 ldI .i64 ⟨b5, 0, none⟩ Hx6 fun Node7 =>
 ldI .u64 ⟨b5, 1, none⟩ Hx6 fun Serial8 =>
 hcall PR f_ref2_None ⟨[(.agg #[(.int .i64 Node7), (.int .u64 Serial8)])]⟩ Hx6 fun v9 Hx10 =>
 asB v9 fun t11 =>
 (bif t11 then
 K (.tuple #[]) Hx10
else
 ldI .i64 ⟨b5, 0, none⟩ Hx10 fun Node12 =>
 ldI .u64 ⟨b5, 1, none⟩ Hx10 fun Serial13 =>
 hcall PR f_ref2_ID ⟨[(.agg #[(.int .i64 Node12), (.int .u64 Serial13)])]⟩ Hx10 fun v14 Hx15 =>
 asB v14 fun t16 =>
 (bif (!t16) then
 K (.tuple #[]) Hx15
else
 ldI .i64 ⟨b5, 0, none⟩ Hx15 fun Node17 =>
 nilP p1 fun pa18 =>
 ldP pa18 Hx15 fun Hx19 =>
 nilP Hx19 fun Hxa20 =>
 ldI .i64 Hxa20 Hx15 fun Node21 =>
 (bif ((Node17 : Int) != Node21) then
 ∀ R22 : Option Addr → Bool → Hp → Prop, (∀ o24 : Option Addr, ∀ ok25 : Bool, ∀ Hx23 : Hp, (
 (bif (!ok25) then
 nilP p1 fun pa26 =>
 ldI .i64 ⟨b5, 0, none⟩ Hx23 fun Node27 =>
 ldI .u64 ⟨b5, 1, none⟩ Hx23 fun Serial28 =>
 ldI .i64 ⟨b5, 0, none⟩ Hx23 fun Node29 =>
 ldI .u64 ⟨b5, 1, none⟩ Hx23 fun Serial30 =>
 hcall PR f_api_Key ⟨[(.agg #[(.int .i64 Node27), (.int .u64 Serial28)])]⟩ Hx23 fun v31 Hx32 =>
 asI .u64 v31 fun t33 =>
 (ldI .i64 ⟨b5, 0, none⟩ Hx32 fun Node34 =>
 ldI .u64 ⟨b5, 1, none⟩ Hx32 fun Serial35 =>
 ((.agg #[(.int .i64 Node34), (.int .u64 Serial35)]) : Value) = (.agg #[(.int .i64 Node29), (.int .u64 Serial30)])) ∧
 hcall PR f_ref4_OutTable_Put ⟨[(.pointer (some (pa26.add 6))), (.int .u64 t33), (.agg #[(.int .i64 Node29), (.int .u64 Serial30), (.int .i64 (if 0 < (if 40 < rank4 then 40 else rank4) then (if 40 < rank4 then 40 else rank4) else 0))])]⟩ Hx32 fun v36 Hx37 =>
 asB v36 fun t38 =>
 K (.tuple #[]) Hx37
else
 asA (.pointer o24) fun oa39 =>
 ldI .i64 (oa39.add 2) Hx23 fun Rank40 =>
 (bif (decide ((Rank40 : Int) > (if 0 < (if 40 < rank4 then 40 else rank4) then (if 40 < rank4 then 40 else rank4) else 0))) then
 nilP p1 fun pa41 =>
 ldI .i64 ⟨b5, 0, none⟩ Hx23 fun Node42 =>
 ldI .u64 ⟨b5, 1, none⟩ Hx23 fun Serial43 =>
 ldI .i64 ⟨b5, 0, none⟩ Hx23 fun Node44 =>
 ldI .u64 ⟨b5, 1, none⟩ Hx23 fun Serial45 =>
 hcall PR f_api_Key ⟨[(.agg #[(.int .i64 Node42), (.int .u64 Serial43)])]⟩ Hx23 fun v46 Hx47 =>
 asI .u64 v46 fun t48 =>
 (ldI .i64 ⟨b5, 0, none⟩ Hx47 fun Node49 =>
 ldI .u64 ⟨b5, 1, none⟩ Hx47 fun Serial50 =>
 ((.agg #[(.int .i64 Node49), (.int .u64 Serial50)]) : Value) = (.agg #[(.int .i64 Node44), (.int .u64 Serial45)])) ∧
 hcall PR f_ref4_OutTable_Put ⟨[(.pointer (some (pa41.add 6))), (.int .u64 t48), (.agg #[(.int .i64 Node44), (.int .u64 Serial45), (.int .i64 (if 0 < (if 40 < rank4 then 40 else rank4) then (if 40 < rank4 then 40 else rank4) else 0))])]⟩ Hx47 fun v51 Hx52 =>
 asB v51 fun t53 =>
 K (.tuple #[]) Hx52
else
 K (.tuple #[]) Hx23))) → R22 o24 ok25 Hx23) →
 nilP p1 fun pa54 =>
 ldI .i64 ⟨b5, 0, none⟩ Hx15 fun Node55 =>
 ldI .u64 ⟨b5, 1, none⟩ Hx15 fun Serial56 =>
 (hcall PR f_api_Key ⟨[(.agg #[(.int .i64 Node55), (.int .u64 Serial56)])]⟩ Hx15 fun v57 Hx58 =>
 asI .u64 v57 fun t59 =>
 (hcall PR f_ref4_OutTable_Get ⟨[(.pointer (some (pa54.add 6))), (.int .u64 t59)]⟩ Hx58 fun v60 Hx61 =>
 tup2 v60 fun v62 v63 =>
 agg3 v62 fun v64 v65 v66 =>
 asI .i64 v64 fun Node67 =>
 asI .u64 v65 fun Serial68 =>
 asI .i64 v66 fun Rank69 =>
 asB v63 fun t70 =>
 newB (.cells #[(.int .i64 0), (.int .u64 0), (.int .i64 0)] ty_api_Out) Hx61 fun b71 Hx72 =>
 st ⟨b71, 0, none⟩ (.int .i64 Node67) Hx72 fun Hx73 =>
 st ⟨b71, 1, none⟩ (.int .u64 Serial68) Hx73 fun Hx74 =>
 st ⟨b71, 2, none⟩ (.int .i64 Rank69) Hx74 fun Hx75 =>
 R22 (some ⟨b71, 0, none⟩) t70 Hx75) ∧
 (newB (.cells #[(.int .i64 0), (.int .u64 0), (.int .i64 0)] ty_api_Out) Hx58 fun b76 Hx77 =>
 hcall PR f_ref4_OutTable_Get ⟨[(.pointer (some (pa54.add 6))), (.int .u64 t59)]⟩ Hx77 fun v78 Hx79 =>
 tup2 v78 fun v80 v81 =>
 agg3 v80 fun v82 v83 v84 =>
 asI .i64 v82 fun Node85 =>
 asI .u64 v83 fun Serial86 =>
 asI .i64 v84 fun Rank87 =>
 asB v81 fun t88 =>
 st ⟨b76, 0, none⟩ (.int .i64 Node85) Hx79 fun Hx89 =>
 st ⟨b76, 1, none⟩ (.int .u64 Serial86) Hx89 fun Hx90 =>
 st ⟨b76, 2, none⟩ (.int .i64 Rank87) Hx90 fun Hx91 =>
 R22 (some ⟨b76, 0, none⟩) t88 Hx91)) ∧
 (newB (.cells #[(.int .i64 0), (.int .u64 0), (.int .i64 0)] ty_api_Out) Hx15 fun b92 Hx93 =>
 (ldI .i64 ⟨b5, 0, none⟩ Hx93 fun Node94 =>
 ldI .u64 ⟨b5, 1, none⟩ Hx93 fun Serial95 =>
 ((.agg #[(.int .i64 Node94), (.int .u64 Serial95)]) : Value) = (.agg #[(.int .i64 Node55), (.int .u64 Serial56)])) ∧
 hcall PR f_api_Key ⟨[(.agg #[(.int .i64 Node55), (.int .u64 Serial56)])]⟩ Hx93 fun v96 Hx97 =>
 asI .u64 v96 fun t98 =>
 hcall PR f_ref4_OutTable_Get ⟨[(.pointer (some (pa54.add 6))), (.int .u64 t98)]⟩ Hx97 fun v99 Hx100 =>
 tup2 v99 fun v101 v102 =>
 agg3 v101 fun v103 v104 v105 =>
 asI .i64 v103 fun Node106 =>
 asI .u64 v104 fun Serial107 =>
 asI .i64 v105 fun Rank108 =>
 asB v102 fun t109 =>
 st ⟨b92, 0, none⟩ (.int .i64 Node106) Hx100 fun Hx110 =>
 st ⟨b92, 1, none⟩ (.int .u64 Serial107) Hx110 fun Hx111 =>
 st ⟨b92, 2, none⟩ (.int .i64 Rank108) Hx111 fun Hx112 =>
 R22 (some ⟨b92, 0, none⟩) t109 Hx112)
else
 nilP p1 fun pa113 =>
 ldP pa113 Hx15 fun Hx114 =>
 ldI .u64 ⟨b5, 1, none⟩ Hx15 fun Serial115 =>
 hcall PR f_ref8_Heap_Get ⟨[(.pointer Hx114), (.int .u64 Serial115)]⟩ Hx15 fun v116 Hx117 =>
 asP v116 fun t118 =>
 (bif (Option.isNone (α := Addr) t118) then
 K (.tuple #[]) Hx117
else
 ldI .u64 ⟨b5, 1, none⟩ Hx117 fun Serial119 =>
 hcall PR f_ref11_Paint_find ⟨[(.pointer p1), (.int .u64 Serial119)]⟩ Hx117 fun v120 Hx121 =>
 asP v120 fun t122 =>
 (bif (Option.isNone (α := Addr) t122) then
 nilP p1 fun pa123 =>
 ldSl (pa123.add 5) Hx121 fun marksP124 marksL125 marksC126 =>
 ldI .u64 ⟨b5, 1, none⟩ Hx121 fun Serial127 =>
 newB (.cells #[(.int .u64 Serial127), (.int .i64 (if 0 < (if 40 < rank4 then 40 else rank4) then (if 40 < rank4 then 40 else rank4) else 0)), (.bool true)] ty_ref11_mark) Hx121 fun b128 Hx129 =>
 (ldSl (pa123.add 5) Hx129 fun marksP130 marksL131 marksC132 =>
 ((.slice marksP130 marksL131 marksC132) : Value) = (.slice marksP124 marksL125 marksC126)) ∧
 evW PR (Builtin.append_ #[ty_Smooringref11_mark, ty_Smooringref11_mark] ty_Smooringref11_mark #[(.slice marksP124 marksL125 marksC126), (.slice (some ⟨b128, 0, none⟩) 1 1)]) Hx129 fun v133 Hx134 =>
 asSl v133 fun tP135 tL136 tC137 =>
 nilP p1 fun pa138 =>
 st (pa138.add 5) (.slice tP135 tL136 tC137) Hx134 fun Hx139 =>
 nilP p1 fun pa140 =>
 ldI .u64 ⟨b5, 1, none⟩ Hx139 fun Serial141 =>
 hcall PR f_ref4_WordStack_Push ⟨[(.pointer (some (pa140.add 1))), (.int .u64 Serial141)]⟩ Hx139 fun v142 Hx143 =>
 asB v142 fun t144 =>
 K (.tuple #[]) Hx143
else
 nilP t122 fun ta145 =>
 ldI .i64 (ta145.add 1) Hx121 fun rank146 =>
 (bif (decide ((rank146 : Int) > (if 0 < (if 40 < rank4 then 40 else rank4) then (if 40 < rank4 then 40 else rank4) else 0))) then
 nilP t122 fun ta147 =>
 ldB (ta147.add 2) Hx121 fun grey148 =>
 nilP t122 fun ta149 =>
 st (ta149.add 1) (.int .i64 (if 0 < (if 40 < rank4 then 40 else rank4) then (if 40 < rank4 then 40 else rank4) else 0)) Hx121 fun Hx150 =>
 nilP t122 fun ta151 =>
 st (ta151.add 2) (.bool true) Hx150 fun Hx152 =>
 (bif (!grey148) then
 nilP p1 fun pa153 =>
 ldI .u64 ⟨b5, 1, none⟩ Hx152 fun Serial154 =>
 hcall PR f_ref4_WordStack_Push ⟨[(.pointer (some (pa153.add 1))), (.int .u64 Serial154)]⟩ Hx152 fun v155 Hx156 =>
 asB v155 fun t157 =>
 K (.tuple #[]) Hx156
else
 K (.tuple #[]) Hx152)
else
 K (.tuple #[]) Hx121))))))
theorem E_ref11_Paint_Shade (p1 : Option Addr) (xNode2 : Int) (xSerial3 : Int) (rank4 : Int) (H : Hp) (K : Value → Hp → Prop) : B_ref11_Paint_Shade p1 xNode2 xSerial3 rank4 H K = denF Tryz.prog Tryz.f46 (.seq none .n (.seq none .n (.seq none .n (.seq none (.seq none .n (.two (.seq (some ⟨[(6, .ptr), (7, .bool)], [0, 2, 4]⟩) .n .n) .n)) .n)))) [(.pointer p1), (.agg #[(.int .i64 xNode2), (.int .u64 xSerial3)]), (.int .i64 rank4)] H K := by kernel_rfl
theorem den_ref11_Paint_Shade {p1 : Option Addr} {xNode2 : Int} {xSerial3 : Int} {rank4 : Int} {H : Hp} {K : Value → Hp → Prop} (h : B_ref11_Paint_Shade p1 xNode2 xSerial3 rank4 H K) : hcall PR f_ref11_Paint_Shade ⟨[(.pointer p1), (.agg #[(.int .i64 xNode2), (.int .u64 xSerial3)]), (.int .i64 rank4)]⟩ H K := denF_call Tryz.func46 PR_mixed (Eq.mp (E_ref11_Paint_Shade p1 xNode2 xSerial3 rank4 H K) h)

def B_ref11_Is (lP1 : Option Addr) (lL2 : Nat) (lC3 : Nat) (m4 : Int) (H : Hp) (K : Value → Hp → Prop) : Prop :=
 (bif (decide ((m4 : Int) ≥ 0)) then
 (bif (decide ((m4 : Int) < (lL2 : Int))) then
 idxA lP1 lL2 m4 1 fun el5 =>
 ldB el5 H fun t6 =>
 K (.bool t6) H
else
 K (.bool false) H)
else
 K (.bool false) H)
theorem E_ref11_Is (lP1 : Option Addr) (lL2 : Nat) (lC3 : Nat) (m4 : Int) (H : Hp) (K : Value → Hp → Prop) : B_ref11_Is lP1 lL2 lC3 m4 H K = denF Tryz.prog Tryz.f56 .n [(.slice lP1 lL2 lC3), (.int .i64 m4)] H K := by kernel_rfl
theorem den_ref11_Is {lP1 : Option Addr} {lL2 : Nat} {lC3 : Nat} {m4 : Int} {H : Hp} {K : Value → Hp → Prop} (h : B_ref11_Is lP1 lL2 lC3 m4 H K) : hcall PR f_ref11_Is ⟨[(.slice lP1 lL2 lC3), (.int .i64 m4)]⟩ H K := denF_call Tryz.func56 PR_mixed (Eq.mp (E_ref11_Is lP1 lL2 lC3 m4 H K) h)

def B_ref11_Paint_Blacken (p1 : Option Addr) (serial2 : Int) (H : Hp) (K : Value → Hp → Prop) : Prop :=
 nilP p1 fun pa3 =>
 ldP pa3 H fun Hx4 =>
 hcall PR f_ref8_Heap_Get ⟨[(.pointer Hx4), (.int .u64 serial2)]⟩ H fun v5 Hx6 =>
 asP v5 fun t7 =>
 (bif (!(Option.isNone (α := Addr) t7)) then
 hcall PR f_ref11_Paint_find ⟨[(.pointer p1), (.int .u64 serial2)]⟩ Hx6 fun v8 Hx9 =>
 asP v8 fun t10 =>
 (bif (Option.isNone (α := Addr) t10) then
 nilP p1 fun pa11 =>
 ldSl (pa11.add 5) Hx9 fun marksP12 marksL13 marksC14 =>
 newB (.cells #[(.int .u64 serial2), (.int .i64 0), (.bool false)] ty_ref11_mark) Hx9 fun b15 Hx16 =>
 evW PR (Builtin.append_ #[ty_Smooringref11_mark, ty_Smooringref11_mark] ty_Smooringref11_mark #[(.slice marksP12 marksL13 marksC14), (.slice (some ⟨b15, 0, none⟩) 1 1)]) Hx16 fun v17 Hx18 =>
 asSl v17 fun tP19 tL20 tC21 =>
 nilP p1 fun pa22 =>
 st (pa22.add 5) (.slice tP19 tL20 tC21) Hx18 fun Hx23 =>
 K (.tuple #[]) Hx23
else
 K (.tuple #[]) Hx9)
else
 K (.tuple #[]) Hx6)
theorem E_ref11_Paint_Blacken (p1 : Option Addr) (serial2 : Int) (H : Hp) (K : Value → Hp → Prop) : B_ref11_Paint_Blacken p1 serial2 H K = denF Tryz.prog Tryz.f62 .n [(.pointer p1), (.int .u64 serial2)] H K := by kernel_rfl
theorem den_ref11_Paint_Blacken {p1 : Option Addr} {serial2 : Int} {H : Hp} {K : Value → Hp → Prop} (h : B_ref11_Paint_Blacken p1 serial2 H K) : hcall PR f_ref11_Paint_Blacken ⟨[(.pointer p1), (.int .u64 serial2)]⟩ H K := denF_call Tryz.func62 PR_mixed (Eq.mp (E_ref11_Paint_Blacken p1 serial2 H K) h)

def B_ref11_Paint_Outs (p1 : Option Addr) (H : Hp) (K : Value → Hp → Prop) : Prop :=
 newB (.cells #[] ty_api_Out) H fun b2 Hx3 =>
 nilP p1 fun pa4 =>
 ldSl ((pa4.add 6).add 2) Hx3 fun VP5 VL6 VC7 =>
 evW PR (Builtin.append_ #[ty_Sapi_Out, ty_Sapi_Out] ty_Sapi_Out #[(.slice (some ⟨b2, 0, none⟩) 0 0), (.slice VP5 VL6 VC7)]) Hx3 fun v8 Hx9 =>
 asSl v8 fun tP10 tL11 tC12 =>
 K (.slice tP10 tL11 tC12) Hx9
theorem E_ref11_Paint_Outs (p1 : Option Addr) (H : Hp) (K : Value → Hp → Prop) : B_ref11_Paint_Outs p1 H K = denF Tryz.prog Tryz.f75 .n [(.pointer p1)] H K := by kernel_rfl
theorem den_ref11_Paint_Outs {p1 : Option Addr} {H : Hp} {K : Value → Hp → Prop} (h : B_ref11_Paint_Outs p1 H K) : hcall PR f_ref11_Paint_Outs ⟨[(.pointer p1)]⟩ H K := denF_call Tryz.func75 PR_mixed (Eq.mp (E_ref11_Paint_Outs p1 H K) h)

def B_ref11_Paint_Mark (p1 : Option Addr) (serial2 : Int) (H : Hp) (K : Value → Hp → Prop) : Prop :=
 hcall PR f_ref11_Paint_find ⟨[(.pointer p1), (.int .u64 serial2)]⟩ H fun v3 Hx4 =>
 asP v3 fun t5 =>
 (bif (Option.isNone (α := Addr) t5) then
 K (.tuple #[(.int .i64 0), (.bool false), (.bool false)]) Hx4
else
 nilP p1 fun pa6 =>
 ldP pa6 Hx4 fun Hx7 =>
 hcall PR f_ref8_Heap_Get ⟨[(.pointer Hx7), (.int .u64 serial2)]⟩ Hx4 fun v8 Hx9 =>
 asP v8 fun t10 =>
 (bif (Option.isNone (α := Addr) t10) then
 K (.tuple #[(.int .i64 0), (.bool false), (.bool false)]) Hx9
else
 nilP t5 fun ta11 =>
 ldI .i64 (ta11.add 1) Hx9 fun rank12 =>
 nilP t5 fun ta13 =>
 ldB (ta13.add 2) Hx9 fun grey14 =>
 K (.tuple #[(.int .i64 rank12), (.bool grey14), (.bool true)]) Hx9))
theorem E_ref11_Paint_Mark (p1 : Option Addr) (serial2 : Int) (H : Hp) (K : Value → Hp → Prop) : B_ref11_Paint_Mark p1 serial2 H K = denF Tryz.prog Tryz.f77 .n [(.pointer p1), (.int .u64 serial2)] H K := by kernel_rfl
theorem den_ref11_Paint_Mark {p1 : Option Addr} {serial2 : Int} {H : Hp} {K : Value → Hp → Prop} (h : B_ref11_Paint_Mark p1 serial2 H K) : hcall PR f_ref11_Paint_Mark ⟨[(.pointer p1), (.int .u64 serial2)]⟩ H K := denF_call Tryz.func77 PR_mixed (Eq.mp (E_ref11_Paint_Mark p1 serial2 H K) h)

def B_ref11_all (lP1 : Option Addr) (lL2 : Nat) (lC3 : Nat) (H : Hp) (K : Value → Hp → Prop) : Prop :=
 ∃ (I4 : Int → Hp → Prop) (m5 : Int → Hp → Nat), I4 0 H ∧ ∀ i7 : Int, ∀ Hx6 : Hp, I4 i7 Hx6 →
 (bif (decide ((i7 : Int) < (lL2 : Int))) then
 idxA lP1 lL2 i7 1 fun el8 =>
 ldB el8 Hx6 fun t9 =>
 (bif (!t9) then
 K (.bool false) Hx6
else
 I4 (IntKind.i64.wrap (i7 + 1)) Hx6 ∧ m5 (IntKind.i64.wrap (i7 + 1)) Hx6 < m5 i7 Hx6)
else
 K (.bool true) Hx6)
theorem E_ref11_all (lP1 : Option Addr) (lL2 : Nat) (lC3 : Nat) (H : Hp) (K : Value → Hp → Prop) : B_ref11_all lP1 lL2 lC3 H K = denF Tryz.prog Tryz.f90 (.seq none .n (.seq none (.seq none .n (.sub (.loop ⟨[(3, .int .i64)], [0]⟩ .n))) .n)) [(.slice lP1 lL2 lC3)] H K := by kernel_rfl
theorem den_ref11_all {lP1 : Option Addr} {lL2 : Nat} {lC3 : Nat} {H : Hp} {K : Value → Hp → Prop} (h : B_ref11_all lP1 lL2 lC3 H K) : hcall PR f_ref11_all ⟨[(.slice lP1 lL2 lC3)]⟩ H K := denF_call Tryz.func90 PR_mixed (Eq.mp (E_ref11_all lP1 lL2 lC3 H K) h)

def B_ref11_Paint_find (p1 : Option Addr) (serial2 : Int) (H : Hp) (K : Value → Hp → Prop) : Prop :=
 ∃ (I3 : Int → Hp → Prop) (m4 : Int → Hp → Nat), I3 0 H ∧ ∀ i6 : Int, ∀ Hx5 : Hp, I3 i6 Hx5 →
 nilP p1 fun pa7 =>
 ldSl (pa7.add 5) Hx5 fun marksP8 marksL9 marksC10 =>
 (bif (decide ((i6 : Int) < (marksL9 : Int))) then
 nilP p1 fun pa11 =>
 ldSl (pa11.add 5) Hx5 fun marksP12 marksL13 marksC14 =>
 idxA marksP12 marksL13 i6 3 fun el15 =>
 ldI .u64 el15 Hx5 fun serial16 =>
 (bif ((serial16 : Int) == serial2) then
 nilP p1 fun pa17 =>
 ldSl (pa17.add 5) Hx5 fun marksP18 marksL19 marksC20 =>
 idxA marksP18 marksL19 i6 3 fun el21 =>
 K (.pointer (some el21)) Hx5
else
 I3 (IntKind.i64.wrap (i6 + 1)) Hx5 ∧ m4 (IntKind.i64.wrap (i6 + 1)) Hx5 < m4 i6 Hx5)
else
 K (.pointer none) Hx5)
theorem E_ref11_Paint_find (p1 : Option Addr) (serial2 : Int) (H : Hp) (K : Value → Hp → Prop) : B_ref11_Paint_find p1 serial2 H K = denF Tryz.prog Tryz.f95 (.seq none .n (.seq none (.seq none .n (.sub (.loop ⟨[(5, .int .i64)], [0, 1]⟩ .n))) .n)) [(.pointer p1), (.int .u64 serial2)] H K := by kernel_rfl
theorem den_ref11_Paint_find {p1 : Option Addr} {serial2 : Int} {H : Hp} {K : Value → Hp → Prop} (h : B_ref11_Paint_find p1 serial2 H K) : hcall PR f_ref11_Paint_find ⟨[(.pointer p1), (.int .u64 serial2)]⟩ H K := denF_call Tryz.func95 PR_mixed (Eq.mp (E_ref11_Paint_find p1 serial2 H K) h)

def B_ref11_Paint_Turn (p1 : Option Addr) (H : Hp) (K : Value → Hp → Prop) : Prop :=
 nilP p1 fun pa2 =>
 ldI .u64 (pa2.add 4) H fun Turns3 =>
 nilP p1 fun pa4 =>
 st (pa4.add 4) (.int .u64 (IntKind.u64.wrap (Turns3 + 1))) H fun Hx5 =>
 nilP p1 fun pa6 =>
 st (pa6.add 5) (.slice none 0 0) Hx5 fun Hx7 =>
 nilP p1 fun pa8 =>
 st ((pa8.add 6).add 1) (.slice none 0 0) Hx7 fun Hx9 =>
 nilP p1 fun pa10 =>
 st ((pa10.add 6).add 2) (.slice none 0 0) Hx9 fun Hx11 =>
 nilP p1 fun pa12 =>
 st ((pa12.add 1).add 1) (.slice none 0 0) Hx11 fun Hx13 =>
 nilP p1 fun pa14 =>
 st ((pa14.add 1).add 2) (.bool false) Hx13 fun Hx15 =>
 K (.tuple #[]) Hx15
theorem E_ref11_Paint_Turn (p1 : Option Addr) (H : Hp) (K : Value → Hp → Prop) : B_ref11_Paint_Turn p1 H K = denF Tryz.prog Tryz.f113 .n [(.pointer p1)] H K := by kernel_rfl
theorem den_ref11_Paint_Turn {p1 : Option Addr} {H : Hp} {K : Value → Hp → Prop} (h : B_ref11_Paint_Turn p1 H K) : hcall PR f_ref11_Paint_Turn ⟨[(.pointer p1)]⟩ H K := denF_call Tryz.func113 PR_mixed (Eq.mp (E_ref11_Paint_Turn p1 H K) h)

def B_ref11_Shake_Begin (s1 : Option Addr) (H : Hp) (K : Value → Hp → Prop) : Prop :=
 nilP s1 fun sa2 =>
 ldI .i64 (sa2.add 1) H fun Phase3 =>
 (bif ((Phase3 : Int) != 0) then
 K (.bool false) H
else
 nilP s1 fun sa4 =>
 st (sa4.add 1) (.int .i64 1) H fun Hx5 =>
 nilP s1 fun sa6 =>
 ldI .i64 sa6 Hx5 fun N7 =>
 evW PR (Instr.makeSlice ty_Sbool (.int .i64 (IntKind.i64.wrap (N7 + 1))) (.int .i64 (IntKind.i64.wrap (N7 + 1)))) Hx5 fun v8 Hx9 =>
 asSl v8 fun mkP10 mkL11 mkC12 =>
 nilP s1 fun sa13 =>
 st (sa13.add 2) (.slice mkP10 mkL11 mkC12) Hx9 fun Hx14 =>
 nilP s1 fun sa15 =>
 ldI .i64 sa15 Hx14 fun N16 =>
 evW PR (Instr.makeSlice ty_Sbool (.int .i64 (IntKind.i64.wrap (N16 + 1))) (.int .i64 (IntKind.i64.wrap (N16 + 1)))) Hx14 fun v17 Hx18 =>
 asSl v17 fun mkP19 mkL20 mkC21 =>
 nilP s1 fun sa22 =>
 st (sa22.add 3) (.slice mkP19 mkL20 mkC21) Hx18 fun Hx23 =>
 nilP s1 fun sa24 =>
 ldSl (sa24.add 2) Hx23 fun ArmedP25 ArmedL26 ArmedC27 =>
 nilP s1 fun sa28 =>
 ldI .i64 sa28 Hx23 fun N29 =>
 idxA ArmedP25 ArmedL26 N29 1 fun el30 =>
 st el30 (.bool true) Hx23 fun Hx31 =>
 K (.bool true) Hx31)
theorem E_ref11_Shake_Begin (s1 : Option Addr) (H : Hp) (K : Value → Hp → Prop) : B_ref11_Shake_Begin s1 H K = denF Tryz.prog Tryz.f114 .n [(.pointer s1)] H K := by kernel_rfl
theorem den_ref11_Shake_Begin {s1 : Option Addr} {H : Hp} {K : Value → Hp → Prop} (h : B_ref11_Shake_Begin s1 H K) : hcall PR f_ref11_Shake_Begin ⟨[(.pointer s1)]⟩ H K := denF_call Tryz.func114 PR_mixed (Eq.mp (E_ref11_Shake_Begin s1 H K) h)

def B_ref11_Marker_Begin (m1 : Option Addr) (H : Hp) (K : Value → Hp → Prop) : Prop :=
 nilP m1 fun ma2 =>
 st (ma2.add 2) (.int .u64 0) H fun Hx3 =>
 nilP m1 fun ma4 =>
 st (ma4.add 4) (.bool false) Hx3 fun Hx5 =>
 K (.tuple #[]) Hx5
theorem E_ref11_Marker_Begin (m1 : Option Addr) (H : Hp) (K : Value → Hp → Prop) : B_ref11_Marker_Begin m1 H K = denF Tryz.prog Tryz.f115 .n [(.pointer m1)] H K := by kernel_rfl
theorem den_ref11_Marker_Begin {m1 : Option Addr} {H : Hp} {K : Value → Hp → Prop} (h : B_ref11_Marker_Begin m1 H K) : hcall PR f_ref11_Marker_Begin ⟨[(.pointer m1)]⟩ H K := denF_call Tryz.func115 PR_mixed (Eq.mp (E_ref11_Marker_Begin m1 H K) h)

def B_ref11_Marker_Step (m1 : Option Addr) (H : Hp) (K : Value → Hp → Prop) : Prop :=
 nilP m1 fun ma2 =>
 ldP (ma2.add 1) H fun P3 =>
 nilP P3 fun Pa4 =>
 hcall PR f_ref4_WordStack_Pop ⟨[(.pointer (some (Pa4.add 1)))]⟩ H fun v5 Hx6 =>
 tup2 v5 fun v7 v8 =>
 asI .u64 v7 fun t9 =>
 asB v8 fun t10 =>
 (bif t10 then
 nilP m1 fun ma11 =>
 ldP (ma11.add 1) Hx6 fun P12 =>
 hcall PR f_ref11_Paint_Scan ⟨[(.pointer P12), (.int .u64 t9)]⟩ Hx6 fun v13 Hx14 =>
 asB v13 fun t15 =>
 K (.bool true) Hx14
else
 ∀ R16 : Hp → Prop, (∀ Hx17 : Hp, (
 nilP m1 fun ma18 =>
 ldP (ma18.add 1) Hx17 fun P19 =>
 nilP P19 fun Pa20 =>
 ldB ((Pa20.add 1).add 2) Hx17 fun Over21 =>
 (bif Over21 then
 nilP m1 fun ma22 =>
 ldP (ma22.add 1) Hx17 fun P23 =>
 nilP P23 fun Pa24 =>
 st ((Pa24.add 1).add 2) (.bool false) Hx17 fun Hx25 =>
 nilP m1 fun ma26 =>
 st (ma26.add 4) (.bool true) Hx25 fun Hx27 =>
 nilP m1 fun ma28 =>
 st (ma28.add 3) (.int .u64 0) Hx27 fun Hx29 =>
 K (.bool true) Hx29
else
 nilP m1 fun ma30 =>
 ldP ma30 Hx17 fun Hx31 =>
 nilP m1 fun ma32 =>
 ldI .u64 (ma32.add 2) Hx17 fun place33 =>
 hcall PR f_ref8_Heap_Next ⟨[(.pointer Hx31), (.int .u64 place33)]⟩ Hx17 fun v34 Hx35 =>
 tup2 v34 fun v36 v37 =>
 asI .u64 v36 fun t38 =>
 asB v37 fun t39 =>
 (bif (!t39) then
 K (.bool false) Hx35
else
 nilP m1 fun ma40 =>
 st (ma40.add 2) (.int .u64 t38) Hx35 fun Hx41 =>
 nilP m1 fun ma42 =>
 ldP ma42 Hx41 fun Hx43 =>
 hcall PR f_ref8_Heap_Get ⟨[(.pointer Hx43), (.int .u64 t38)]⟩ Hx41 fun v44 Hx45 =>
 asP v44 fun t46 =>
 nilP t46 fun ta47 =>
 ldI .i64 (ta47.add 4) Hx45 fun In48 =>
 (bif (decide ((In48 : Int) > 0)) then
 nilP m1 fun ma49 =>
 ldP (ma49.add 1) Hx45 fun P50 =>
 nilP m1 fun ma51 =>
 ldP ma51 Hx45 fun Hx52 =>
 nilP Hx52 fun Hxa53 =>
 ldI .i64 Hxa53 Hx45 fun Node54 =>
 nilP t46 fun ta55 =>
 ldI .i64 (ta55.add 4) Hx45 fun In56 =>
 hcall PR f_ref11_Paint_Shade ⟨[(.pointer P50), (.agg #[(.int .i64 Node54), (.int .u64 t38)]), (.int .i64 In56)]⟩ Hx45 fun v57 Hx58 =>
 K (.bool true) Hx58
else
 K (.bool true) Hx45)))) → R16 Hx17) →
 nilP m1 fun ma59 =>
 ldB (ma59.add 4) Hx6 fun passing60 =>
 (bif passing60 then
 nilP m1 fun ma61 =>
 ldP ma61 Hx6 fun Hx62 =>
 nilP m1 fun ma63 =>
 ldI .u64 (ma63.add 3) Hx6 fun pass64 =>
 hcall PR f_ref8_Heap_Next ⟨[(.pointer Hx62), (.int .u64 pass64)]⟩ Hx6 fun v65 Hx66 =>
 tup2 v65 fun v67 v68 =>
 asI .u64 v67 fun t69 =>
 asB v68 fun t70 =>
 (bif t70 then
 nilP m1 fun ma71 =>
 st (ma71.add 3) (.int .u64 t69) Hx66 fun Hx72 =>
 nilP m1 fun ma73 =>
 ldP (ma73.add 1) Hx72 fun P74 =>
 hcall PR f_ref11_Paint_Scan ⟨[(.pointer P74), (.int .u64 t69)]⟩ Hx72 fun v75 Hx76 =>
 asB v75 fun t77 =>
 K (.bool true) Hx76
else
 nilP m1 fun ma78 =>
 st (ma78.add 4) (.bool false) Hx66 fun Hx79 =>
 R16 Hx79)
else
 R16 Hx6))
theorem E_ref11_Marker_Step (m1 : Option Addr) (H : Hp) (K : Value → Hp → Prop) : B_ref11_Marker_Step m1 H K = denF Tryz.prog Tryz.f117 (.seq none .n (.seq none .n (.seq none .n (.seq (some ⟨[], [0]⟩) .n .n)))) [(.pointer m1)] H K := by kernel_rfl
theorem den_ref11_Marker_Step {m1 : Option Addr} {H : Hp} {K : Value → Hp → Prop} (h : B_ref11_Marker_Step m1 H K) : hcall PR f_ref11_Marker_Step ⟨[(.pointer m1)]⟩ H K := denF_call Tryz.func117 PR_mixed (Eq.mp (E_ref11_Marker_Step m1 H K) h)

def B_ref11_Reacher_Step (r1 : Option Addr) (H : Hp) (K : Value → Hp → Prop) : Prop :=
 nilP r1 fun ra2 =>
 ldSl (ra2.add 8) H fun waitsP3 waitsL4 waitsC5 =>
 (bif (decide (((waitsL4 : Int) : Int) > 0)) then
 nilP r1 fun ra6 =>
 ldSl (ra6.add 8) H fun waitsP7 waitsL8 waitsC9 =>
 nilP r1 fun ra10 =>
 ldSl (ra10.add 8) H fun waitsP11 waitsL12 waitsC13 =>
 idxA waitsP7 waitsL8 (IntKind.i64.wrap ((waitsL12 : Int) - 1)) 1 fun el14 =>
 ldI .u64 el14 H fun t15 =>
 nilP r1 fun ra16 =>
 ldSl (ra16.add 8) H fun waitsP17 waitsL18 waitsC19 =>
 nilP r1 fun ra20 =>
 ldSl (ra20.add 8) H fun waitsP21 waitsL22 waitsC23 =>
 slcD waitsP17 waitsL18 waitsC19 none (some (IntKind.i64.wrap ((waitsL22 : Int) - 1))) 1 fun sP24 sL25 sC26 =>
 nilP r1 fun ra27 =>
 st (ra27.add 8) (.slice sP24 sL25 sC26) H fun Hx28 =>
 hcall PR f_ref11_Reacher_look ⟨[(.pointer r1), (.int .u64 t15)]⟩ Hx28 fun v29 Hx30 =>
 K (.bool true) Hx30
else
 nilP r1 fun ra31 =>
 ldP ra31 H fun Hx32 =>
 nilP r1 fun ra33 =>
 ldI .u64 (ra33.add 3) H fun place34 =>
 hcall PR f_ref8_Heap_Next ⟨[(.pointer Hx32), (.int .u64 place34)]⟩ H fun v35 Hx36 =>
 tup2 v35 fun v37 v38 =>
 asI .u64 v37 fun t39 =>
 asB v38 fun t40 =>
 (bif t40 then
 nilP r1 fun ra41 =>
 st (ra41.add 3) (.int .u64 t39) Hx36 fun Hx42 =>
 nilP r1 fun ra43 =>
 ldP ra43 Hx42 fun Hx44 =>
 hcall PR f_ref8_Heap_Get ⟨[(.pointer Hx44), (.int .u64 t39)]⟩ Hx42 fun v45 Hx46 =>
 asP v45 fun t47 =>
 nilP t47 fun ta48 =>
 ldI .i64 (ta48.add 4) Hx46 fun In49 =>
 (bif (decide ((In49 : Int) > 0)) then
 hcall PR f_ref11_Reacher_isSuspect ⟨[(.pointer r1), (.int .u64 t39)]⟩ Hx46 fun v50 Hx51 =>
 asB v50 fun t52 =>
 (bif t52 then
 hcall PR f_ref11_Reacher_end ⟨[(.pointer r1)]⟩ Hx51 fun v53 Hx54 =>
 nilP r1 fun ra55 =>
 st (ra55.add 5) (.bool true) Hx54 fun Hx56 =>
 nilP r1 fun ra57 =>
 st (ra57.add 6) (.int .u64 t39) Hx56 fun Hx58 =>
 hcall PR f_ref11_Reacher_put ⟨[(.pointer r1), (.int .u64 t39)]⟩ Hx58 fun v59 Hx60 =>
 K (.bool true) Hx60
else
 K (.bool true) Hx51)
else
 K (.bool true) Hx46)
else
 nilP r1 fun ra61 =>
 ldB (ra61.add 5) Hx36 fun under62 =>
 (bif under62 then
 hcall PR f_ref11_Reacher_end ⟨[(.pointer r1)]⟩ Hx36 fun v63 Hx64 =>
 K (.bool true) Hx64
else
 K (.bool false) Hx36)))
theorem E_ref11_Reacher_Step (r1 : Option Addr) (H : Hp) (K : Value → Hp → Prop) : B_ref11_Reacher_Step r1 H K = denF Tryz.prog Tryz.f118 .n [(.pointer r1)] H K := by kernel_rfl
theorem den_ref11_Reacher_Step {r1 : Option Addr} {H : Hp} {K : Value → Hp → Prop} (h : B_ref11_Reacher_Step r1 H K) : hcall PR f_ref11_Reacher_Step ⟨[(.pointer r1)]⟩ H K := denF_call Tryz.func118 PR_mixed (Eq.mp (E_ref11_Reacher_Step r1 H K) h)

def B_ref11_Sweeper_Step (s1 : Option Addr) (H : Hp) (K : Value → Hp → Prop) : Prop :=
 nilP s1 fun sa2 =>
 ldP sa2 H fun Hx3 =>
 nilP s1 fun sa4 =>
 ldI .u64 (sa4.add 2) H fun place5 =>
 hcall PR f_ref8_Heap_Next ⟨[(.pointer Hx3), (.int .u64 place5)]⟩ H fun v6 Hx7 =>
 tup2 v6 fun v8 v9 =>
 asI .u64 v8 fun t10 =>
 asB v9 fun t11 =>
 (bif (!t11) then
 K (.tuple #[(.int .u64 0), (.bool false)]) Hx7
else
 nilP s1 fun sa12 =>
 ldI .u64 (sa12.add 3) Hx7 fun endx13 =>
 (bif (decide ((t10 : Int) > endx13)) then
 K (.tuple #[(.int .u64 0), (.bool false)]) Hx7
else
 nilP s1 fun sa14 =>
 st (sa14.add 2) (.int .u64 t10) Hx7 fun Hx15 =>
 nilP s1 fun sa16 =>
 ldP (sa16.add 1) Hx15 fun P17 =>
 hcall PR f_ref11_Paint_Mark ⟨[(.pointer P17), (.int .u64 t10)]⟩ Hx15 fun v18 Hx19 =>
 tup3 v18 fun v20 v21 v22 =>
 asI .i64 v20 fun t23 =>
 asB v21 fun t24 =>
 asB v22 fun t25 =>
 (bif t25 then
 K (.tuple #[(.int .u64 0), (.bool true)]) Hx19
else
 nilP s1 fun sa26 =>
 ldP sa26 Hx19 fun Hx27 =>
 hcall PR f_ref8_Heap_Free ⟨[(.pointer Hx27), (.int .u64 t10)]⟩ Hx19 fun v28 Hx29 =>
 asI .i64 v28 fun t30 =>
 nilP s1 fun sa31 =>
 ldP (sa31.add 1) Hx29 fun P32 =>
 hcall PR f_ref11_Paint_Forget ⟨[(.pointer P32), (.int .u64 t10)]⟩ Hx29 fun v33 Hx34 =>
 K (.tuple #[(.int .u64 t10), (.bool true)]) Hx34)))
theorem E_ref11_Sweeper_Step (s1 : Option Addr) (H : Hp) (K : Value → Hp → Prop) : B_ref11_Sweeper_Step s1 H K = denF Tryz.prog Tryz.f120 .n [(.pointer s1)] H K := by kernel_rfl
theorem den_ref11_Sweeper_Step {s1 : Option Addr} {H : Hp} {K : Value → Hp → Prop} (h : B_ref11_Sweeper_Step s1 H K) : hcall PR f_ref11_Sweeper_Step ⟨[(.pointer s1)]⟩ H K := denF_call Tryz.func120 PR_mixed (Eq.mp (E_ref11_Sweeper_Step s1 H K) h)

def B_ref11_Shake_End (s1 : Option Addr) (H : Hp) (K : Value → Hp → Prop) : Prop :=
 nilP s1 fun sa2 =>
 ldI .i64 (sa2.add 1) H fun Phase3 =>
 (bif ((Phase3 : Int) != 3) then
 K (.bool false) H
else
 nilP s1 fun sa4 =>
 st (sa4.add 1) (.int .i64 0) H fun Hx5 =>
 nilP s1 fun sa6 =>
 ldI .i64 sa6 Hx5 fun N7 =>
 evW PR (Instr.makeSlice ty_Sbool (.int .i64 (IntKind.i64.wrap (N7 + 1))) (.int .i64 (IntKind.i64.wrap (N7 + 1)))) Hx5 fun v8 Hx9 =>
 asSl v8 fun mkP10 mkL11 mkC12 =>
 nilP s1 fun sa13 =>
 st (sa13.add 2) (.slice mkP10 mkL11 mkC12) Hx9 fun Hx14 =>
 nilP s1 fun sa15 =>
 ldI .i64 sa15 Hx14 fun N16 =>
 evW PR (Instr.makeSlice ty_Sbool (.int .i64 (IntKind.i64.wrap (N16 + 1))) (.int .i64 (IntKind.i64.wrap (N16 + 1)))) Hx14 fun v17 Hx18 =>
 asSl v17 fun mkP19 mkL20 mkC21 =>
 nilP s1 fun sa22 =>
 st (sa22.add 3) (.slice mkP19 mkL20 mkC21) Hx18 fun Hx23 =>
 K (.bool true) Hx23)
theorem E_ref11_Shake_End (s1 : Option Addr) (H : Hp) (K : Value → Hp → Prop) : B_ref11_Shake_End s1 H K = denF Tryz.prog Tryz.f121 .n [(.pointer s1)] H K := by kernel_rfl
theorem den_ref11_Shake_End {s1 : Option Addr} {H : Hp} {K : Value → Hp → Prop} (h : B_ref11_Shake_End s1 H K) : hcall PR f_ref11_Shake_End ⟨[(.pointer s1)]⟩ H K := denF_call Tryz.func121 PR_mixed (Eq.mp (E_ref11_Shake_End s1 H K) h)

def B_ref11_Sweeper_Will (s1 : Option Addr) (n2 : Int) (H : Hp) (K : Value → Hp → Prop) : Prop :=
 nilP s1 fun sa3 =>
 ldP (sa3.add 1) H fun P4 =>
 hcall PR f_ref11_Paint_Mark ⟨[(.pointer P4), (.int .u64 n2)]⟩ H fun v5 Hx6 =>
 tup3 v5 fun v7 v8 v9 =>
 asI .i64 v7 fun t10 =>
 asB v8 fun t11 =>
 asB v9 fun t12 =>
 nilP s1 fun sa13 =>
 ldI .u64 (sa13.add 3) Hx6 fun endx14 =>
 (bif (decide ((n2 : Int) ≤ endx14)) then
 nilP s1 fun sa15 =>
 ldP sa15 Hx6 fun Hx16 =>
 hcall PR f_ref8_Heap_Get ⟨[(.pointer Hx16), (.int .u64 n2)]⟩ Hx6 fun v17 Hx18 =>
 asP v17 fun t19 =>
 (bif (!(Option.isNone (α := Addr) t19)) then
 K (.bool (!t12)) Hx18
else
 K (.bool false) Hx18)
else
 K (.bool false) Hx6)
theorem E_ref11_Sweeper_Will (s1 : Option Addr) (n2 : Int) (H : Hp) (K : Value → Hp → Prop) : B_ref11_Sweeper_Will s1 n2 H K = denF Tryz.prog Tryz.f124 .n [(.pointer s1), (.int .u64 n2)] H K := by kernel_rfl
theorem den_ref11_Sweeper_Will {s1 : Option Addr} {n2 : Int} {H : Hp} {K : Value → Hp → Prop} (h : B_ref11_Sweeper_Will s1 n2 H K) : hcall PR f_ref11_Sweeper_Will ⟨[(.pointer s1), (.int .u64 n2)]⟩ H K := denF_call Tryz.func124 PR_mixed (Eq.mp (E_ref11_Sweeper_Will s1 n2 H K) h)

def B_ref11_Reacher_Begin (r1 : Option Addr) (suspect2 : Int) (H : Hp) (K : Value → Hp → Prop) : Prop :=
 nilP r1 fun ra3 =>
 ldP ra3 H fun Hx4 =>
 nilP r1 fun ra5 =>
 ldP (ra5.add 1) H fun P6 =>
 nilP r1 fun ra7 =>
 st ra7 (.pointer Hx4) H fun Hx8 =>
 st (ra7.add 1) (.pointer P6) Hx8 fun Hx9 =>
 st (ra7.add 2) (.slice none 0 0) Hx9 fun Hx10 =>
 st (ra7.add 3) (.int .u64 0) Hx10 fun Hx11 =>
 st (ra7.add 4) (.int .i64 suspect2) Hx11 fun Hx12 =>
 st (ra7.add 5) (.bool false) Hx12 fun Hx13 =>
 st (ra7.add 6) (.int .u64 0) Hx13 fun Hx14 =>
 st (ra7.add 7) (.slice none 0 0) Hx14 fun Hx15 =>
 st (ra7.add 8) (.slice none 0 0) Hx15 fun Hx16 =>
 st (ra7.add 9) (.int .i64 0) Hx16 fun Hx17 =>
 st (ra7.add 10) (.slice none 0 0) Hx17 fun Hx18 =>
 st (ra7.add 11) (.slice none 0 0) Hx18 fun Hx19 =>
 nilP r1 fun ra20 =>
 st (ra20.add 9) (.int .i64 1048576) Hx19 fun Hx21 =>
 K (.tuple #[]) Hx21
theorem E_ref11_Reacher_Begin (r1 : Option Addr) (suspect2 : Int) (H : Hp) (K : Value → Hp → Prop) : B_ref11_Reacher_Begin r1 suspect2 H K = denF Tryz.prog Tryz.f139 .n [(.pointer r1), (.int .i64 suspect2)] H K := by kernel_rfl
theorem den_ref11_Reacher_Begin {r1 : Option Addr} {suspect2 : Int} {H : Hp} {K : Value → Hp → Prop} (h : B_ref11_Reacher_Begin r1 suspect2 H K) : hcall PR f_ref11_Reacher_Begin ⟨[(.pointer r1), (.int .i64 suspect2)]⟩ H K := denF_call Tryz.func139 PR_mixed (Eq.mp (E_ref11_Reacher_Begin r1 suspect2 H K) h)

def B_ref11_Paint_Scan (p1 : Option Addr) (serial2 : Int) (H : Hp) (K : Value → Hp → Prop) : Prop :=
 hcall PR f_ref11_Paint_find ⟨[(.pointer p1), (.int .u64 serial2)]⟩ H fun v3 Hx4 =>
 asP v3 fun t5 =>
 nilP p1 fun pa6 =>
 ldP pa6 Hx4 fun Hx7 =>
 hcall PR f_ref8_Heap_Get ⟨[(.pointer Hx7), (.int .u64 serial2)]⟩ Hx4 fun v8 Hx9 =>
 asP v8 fun t10 =>
 (bif (Option.isNone (α := Addr) t5) then
 K (.bool false) Hx9
else
 nilP t5 fun ta11 =>
 ldB (ta11.add 2) Hx9 fun grey12 =>
 (bif (!grey12) then
 K (.bool false) Hx9
else
 (bif (Option.isNone (α := Addr) t10) then
 K (.bool false) Hx9
else
 nilP t5 fun ta13 =>
 st (ta13.add 2) (.bool false) Hx9 fun Hx14 =>
 nilP t5 fun ta15 =>
 ldI .i64 (ta15.add 1) Hx14 fun rank16 =>
 ∃ (I17 : Int → Hp → Prop) (m18 : Int → Hp → Nat), I17 0 Hx14 ∧ ∀ i20 : Int, ∀ Hx19 : Hp, I17 i20 Hx19 →
 nilP t10 fun ta21 =>
 ldSl (ta21.add 2) Hx19 fun RefsP22 RefsL23 RefsC24 =>
 (bif (decide ((i20 : Int) < (RefsL23 : Int))) then
 nilP t10 fun ta25 =>
 ldSl (ta25.add 2) Hx19 fun RefsP26 RefsL27 RefsC28 =>
 idxA RefsP26 RefsL27 i20 2 fun el29 =>
 ldI .i64 el29 Hx19 fun Node30 =>
 ldI .u64 (el29.add 1) Hx19 fun Serial31 =>
 hcall PR f_ref11_Paint_Shade ⟨[(.pointer p1), (.agg #[(.int .i64 Node30), (.int .u64 Serial31)]), (.int .i64 rank16)]⟩ Hx19 fun v32 Hx33 =>
 I17 (IntKind.i64.wrap (i20 + 1)) Hx33 ∧ m18 (IntKind.i64.wrap (i20 + 1)) Hx33 < m18 i20 Hx19
else
 K (.bool true) Hx19))))
theorem E_ref11_Paint_Scan (p1 : Option Addr) (serial2 : Int) (H : Hp) (K : Value → Hp → Prop) : B_ref11_Paint_Scan p1 serial2 H K = denF Tryz.prog Tryz.f141 (.seq none .n (.seq none .n (.seq none .n (.seq none .n (.seq none .n (.seq none .n (.seq none (.seq none .n (.sub (.loop ⟨[(8, .int .i64)], [0, 6, 7]⟩ .n))) .n))))))) [(.pointer p1), (.int .u64 serial2)] H K := by kernel_rfl
theorem den_ref11_Paint_Scan {p1 : Option Addr} {serial2 : Int} {H : Hp} {K : Value → Hp → Prop} (h : B_ref11_Paint_Scan p1 serial2 H K) : hcall PR f_ref11_Paint_Scan ⟨[(.pointer p1), (.int .u64 serial2)]⟩ H K := denF_call Tryz.func141 PR_mixed (Eq.mp (E_ref11_Paint_Scan p1 serial2 H K) h)

def B_ref11_Reacher_look (r1 : Option Addr) (serial2 : Int) (H : Hp) (K : Value → Hp → Prop) : Prop :=
 nilP r1 fun ra3 =>
 ldP ra3 H fun Hx4 =>
 hcall PR f_ref8_Heap_Get ⟨[(.pointer Hx4), (.int .u64 serial2)]⟩ H fun v5 Hx6 =>
 asP v5 fun t7 =>
 (bif (Option.isNone (α := Addr) t7) then
 K (.tuple #[]) Hx6
else
 ∃ (I8 : Int → Hp → Prop) (m9 : Int → Hp → Nat), I8 0 Hx6 ∧ ∀ i11 : Int, ∀ Hx10 : Hp, I8 i11 Hx10 →
 nilP t7 fun ta12 =>
 ldSl (ta12.add 2) Hx10 fun RefsP13 RefsL14 RefsC15 =>
 (bif (decide ((i11 : Int) < (RefsL14 : Int))) then
 ∀ R16 : Hp → Prop, (∀ Hx17 : Hp, (
 I8 (IntKind.i64.wrap (i11 + 1)) Hx17 ∧ m9 (IntKind.i64.wrap (i11 + 1)) Hx17 < m9 i11 Hx10) → R16 Hx17) →
 nilP t7 fun ta18 =>
 ldSl (ta18.add 2) Hx10 fun RefsP19 RefsL20 RefsC21 =>
 idxA RefsP19 RefsL20 i11 2 fun el22 =>
 ldI .i64 el22 Hx10 fun Node23 =>
 ldI .u64 (el22.add 1) Hx10 fun Serial24 =>
 newB (.cells #[(.int .i64 0), (.int .u64 0)] ty_api_ID) Hx10 fun b25 Hx26 =>
 st ⟨b25, 0, none⟩ (.int .i64 Node23) Hx26 fun Hx27 =>
 st ⟨b25, 1, none⟩ (.int .u64 Serial24) Hx27 fun Hx28 =>
 ldI .i64 ⟨b25, 0, none⟩ Hx28 fun Node29 =>
 nilP r1 fun ra30 =>
 ldP ra30 Hx28 fun Hx31 =>
 nilP Hx31 fun Hxa32 =>
 ldI .i64 Hxa32 Hx28 fun Node33 =>
 (bif ((Node29 : Int) == Node33) then
 ldI .u64 ⟨b25, 1, none⟩ Hx28 fun Serial34 =>
 hcall PR f_ref11_Reacher_isSuspect ⟨[(.pointer r1), (.int .u64 Serial34)]⟩ Hx28 fun v35 Hx36 =>
 asB v35 fun t37 =>
 (bif t37 then
 ldI .u64 ⟨b25, 1, none⟩ Hx36 fun Serial38 =>
 hcall PR f_ref11_Reacher_put ⟨[(.pointer r1), (.int .u64 Serial38)]⟩ Hx36 fun v39 Hx40 =>
 R16 Hx40
else
 R16 Hx36)
else
 nilP r1 fun ra41 =>
 ldP (ra41.add 1) Hx28 fun P42 =>
 ldI .i64 ⟨b25, 0, none⟩ Hx28 fun Node43 =>
 ldI .u64 ⟨b25, 1, none⟩ Hx28 fun Serial44 =>
 hcall PR f_ref11_Paint_Met ⟨[(.pointer P42), (.agg #[(.int .i64 Node43), (.int .u64 Serial44)])]⟩ Hx28 fun v45 Hx46 =>
 tup2 v45 fun v47 v48 =>
 asI .i64 v47 fun t49 =>
 asB v48 fun t50 =>
 (bif t50 then
 nilP r1 fun ra51 =>
 ldI .i64 (ra51.add 4) Hx46 fun suspect52 =>
 (bif (decide ((t49 : Int) > suspect52)) then
 nilP r1 fun ra53 =>
 ldI .i64 ⟨b25, 0, none⟩ Hx46 fun Node54 =>
 ldI .u64 ⟨b25, 1, none⟩ Hx46 fun Serial55 =>
 ldI .i64 ⟨b25, 0, none⟩ Hx46 fun Node56 =>
 ldI .u64 ⟨b25, 1, none⟩ Hx46 fun Serial57 =>
 hcall PR f_api_Key ⟨[(.agg #[(.int .i64 Node54), (.int .u64 Serial55)])]⟩ Hx46 fun v58 Hx59 =>
 asI .u64 v58 fun t60 =>
 (ldI .i64 ⟨b25, 0, none⟩ Hx59 fun Node61 =>
 ldI .u64 ⟨b25, 1, none⟩ Hx59 fun Serial62 =>
 ((.agg #[(.int .i64 Node61), (.int .u64 Serial62)]) : Value) = (.agg #[(.int .i64 Node56), (.int .u64 Serial57)])) ∧
 hcall PR f_ref4_IDTable_Put ⟨[(.pointer (some (ra53.add 9))), (.int .u64 t60), (.agg #[(.int .i64 Node56), (.int .u64 Serial57)])]⟩ Hx59 fun v63 Hx64 =>
 asB v63 fun t65 =>
 R16 Hx64
else
 R16 Hx46)
else
 R16 Hx46))
else
 K (.tuple #[]) Hx10))
theorem E_ref11_Reacher_look (r1 : Option Addr) (serial2 : Int) (H : Hp) (K : Value → Hp → Prop) : B_ref11_Reacher_look r1 serial2 H K = denF Tryz.prog Tryz.f143 (.seq none .n (.seq none .n (.seq none .n (.sub (.loop ⟨[(5, .int .i64)], [0, 4]⟩ (.seq none .n (.seq (some ⟨[], [0, 4, 5]⟩) .n .n))))))) [(.pointer r1), (.int .u64 serial2)] H K := by kernel_rfl
theorem den_ref11_Reacher_look {r1 : Option Addr} {serial2 : Int} {H : Hp} {K : Value → Hp → Prop} (h : B_ref11_Reacher_look r1 serial2 H K) : hcall PR f_ref11_Reacher_look ⟨[(.pointer r1), (.int .u64 serial2)]⟩ H K := denF_call Tryz.func143 PR_mixed (Eq.mp (E_ref11_Reacher_look r1 serial2 H K) h)

def B_ref11_Reacher_isSuspect (r1 : Option Addr) (serial2 : Int) (H : Hp) (K : Value → Hp → Prop) : Prop :=
 nilP r1 fun ra3 =>
 ldP (ra3.add 1) H fun P4 =>
 hcall PR f_ref11_Paint_Mark ⟨[(.pointer P4), (.int .u64 serial2)]⟩ H fun v5 Hx6 =>
 tup3 v5 fun v7 v8 v9 =>
 asI .i64 v7 fun t10 =>
 asB v8 fun t11 =>
 asB v9 fun t12 =>
 (bif t12 then
 nilP r1 fun ra13 =>
 ldI .i64 (ra13.add 4) Hx6 fun suspect14 =>
 (bif (decide ((t10 : Int) > suspect14)) then
 nilP r1 fun ra15 =>
 ldP ra15 Hx6 fun Hx16 =>
 hcall PR f_ref8_Heap_Get ⟨[(.pointer Hx16), (.int .u64 serial2)]⟩ Hx6 fun v17 Hx18 =>
 asP v17 fun t19 =>
 K (.bool (!(Option.isNone (α := Addr) t19))) Hx18
else
 K (.bool false) Hx6)
else
 K (.bool false) Hx6)
theorem E_ref11_Reacher_isSuspect (r1 : Option Addr) (serial2 : Int) (H : Hp) (K : Value → Hp → Prop) : B_ref11_Reacher_isSuspect r1 serial2 H K = denF Tryz.prog Tryz.f144 .n [(.pointer r1), (.int .u64 serial2)] H K := by kernel_rfl
theorem den_ref11_Reacher_isSuspect {r1 : Option Addr} {serial2 : Int} {H : Hp} {K : Value → Hp → Prop} (h : B_ref11_Reacher_isSuspect r1 serial2 H K) : hcall PR f_ref11_Reacher_isSuspect ⟨[(.pointer r1), (.int .u64 serial2)]⟩ H K := denF_call Tryz.func144 PR_mixed (Eq.mp (E_ref11_Reacher_isSuspect r1 serial2 H K) h)

def B_ref11_Reacher_end (r1 : Option Addr) (H : Hp) (K : Value → Hp → Prop) : Prop :=
 ∀ R2 : Hp → Prop, (∀ Hx3 : Hp, (
 nilP r1 fun ra4 =>
 st (ra4.add 5) (.bool false) Hx3 fun Hx5 =>
 nilP r1 fun ra6 =>
 st (ra6.add 7) (.slice none 0 0) Hx5 fun Hx7 =>
 nilP r1 fun ra8 =>
 st (ra8.add 8) (.slice none 0 0) Hx7 fun Hx9 =>
 nilP r1 fun ra10 =>
 st ((ra10.add 9).add 1) (.slice none 0 0) Hx9 fun Hx11 =>
 nilP r1 fun ra12 =>
 st ((ra12.add 9).add 2) (.slice none 0 0) Hx11 fun Hx13 =>
 K (.tuple #[]) Hx13) → R2 Hx3) →
 nilP r1 fun ra14 =>
 ldB (ra14.add 5) H fun under15 =>
 (bif under15 then
 nilP r1 fun ra16 =>
 ldSl (ra16.add 2) H fun RowsP17 RowsL18 RowsC19 =>
 nilP r1 fun ra20 =>
 ldI .u64 (ra20.add 6) H fun inx21 =>
 nilP r1 fun ra22 =>
 ldSl ((ra22.add 9).add 2) H fun VP23 VL24 VC25 =>
 newB (.cells #[] ty_api_ID) H fun b26 Hx27 =>
 (ldSl ((ra22.add 9).add 2) Hx27 fun VP28 VL29 VC30 =>
 ((.slice VP28 VL29 VC30) : Value) = (.slice VP23 VL24 VC25)) ∧
 (ldI .u64 (ra20.add 6) Hx27 fun inx31 =>
 ((.int .u64 inx31) : Value) = (.int .u64 inx21)) ∧
 (ldSl (ra16.add 2) Hx27 fun RowsP32 RowsL33 RowsC34 =>
 ((.slice RowsP32 RowsL33 RowsC34) : Value) = (.slice RowsP17 RowsL18 RowsC19)) ∧
 evW PR (Builtin.append_ #[ty_Sapi_ID, ty_Sapi_ID] ty_Sapi_ID #[(.slice (some ⟨b26, 0, none⟩) 0 0), (.slice VP23 VL24 VC25)]) Hx27 fun v35 Hx36 =>
 asSl v35 fun tP37 tL38 tC39 =>
 (ldI .u64 (ra20.add 6) Hx36 fun inx40 =>
 ((.int .u64 inx40) : Value) = (.int .u64 inx21)) ∧
 (ldSl (ra16.add 2) Hx36 fun RowsP41 RowsL42 RowsC43 =>
 ((.slice RowsP41 RowsL42 RowsC43) : Value) = (.slice RowsP17 RowsL18 RowsC19)) ∧
 newB (.cells #[(.int .u64 inx21), (.slice tP37 tL38 tC39)] ty_api_Reach) Hx36 fun b44 Hx45 =>
 (ldSl (ra16.add 2) Hx45 fun RowsP46 RowsL47 RowsC48 =>
 ((.slice RowsP46 RowsL47 RowsC48) : Value) = (.slice RowsP17 RowsL18 RowsC19)) ∧
 evW PR (Builtin.append_ #[ty_Sapi_Reach, ty_Sapi_Reach] ty_Sapi_Reach #[(.slice RowsP17 RowsL18 RowsC19), (.slice (some ⟨b44, 0, none⟩) 1 1)]) Hx45 fun v49 Hx50 =>
 asSl v49 fun tP51 tL52 tC53 =>
 nilP r1 fun ra54 =>
 st (ra54.add 2) (.slice tP51 tL52 tC53) Hx50 fun Hx55 =>
 R2 Hx55
else
 R2 H)
theorem E_ref11_Reacher_end (r1 : Option Addr) (H : Hp) (K : Value → Hp → Prop) : B_ref11_Reacher_end r1 H K = denF Tryz.prog Tryz.f145 (.seq (some ⟨[], [0]⟩) .n .n) [(.pointer r1)] H K := by kernel_rfl
theorem den_ref11_Reacher_end {r1 : Option Addr} {H : Hp} {K : Value → Hp → Prop} (h : B_ref11_Reacher_end r1 H K) : hcall PR f_ref11_Reacher_end ⟨[(.pointer r1)]⟩ H K := denF_call Tryz.func145 PR_mixed (Eq.mp (E_ref11_Reacher_end r1 H K) h)

def B_ref11_Reacher_put (r1 : Option Addr) (serial2 : Int) (H : Hp) (K : Value → Hp → Prop) : Prop :=
 ∃ (I3 : Int → Hp → Prop) (m4 : Int → Hp → Nat), I3 0 H ∧ ∀ i6 : Int, ∀ Hx5 : Hp, I3 i6 Hx5 →
 nilP r1 fun ra7 =>
 ldSl (ra7.add 7) Hx5 fun rowP8 rowL9 rowC10 =>
 (bif (decide ((i6 : Int) < (rowL9 : Int))) then
 nilP r1 fun ra11 =>
 ldSl (ra11.add 7) Hx5 fun rowP12 rowL13 rowC14 =>
 idxA rowP12 rowL13 i6 1 fun el15 =>
 ldI .u64 el15 Hx5 fun t16 =>
 (bif ((t16 : Int) == serial2) then
 K (.tuple #[]) Hx5
else
 I3 (IntKind.i64.wrap (i6 + 1)) Hx5 ∧ m4 (IntKind.i64.wrap (i6 + 1)) Hx5 < m4 i6 Hx5)
else
 nilP r1 fun ra17 =>
 ldSl (ra17.add 7) Hx5 fun rowP18 rowL19 rowC20 =>
 newB (.cells #[(.int .u64 serial2)] ty_uint64) Hx5 fun b21 Hx22 =>
 evW PR (Builtin.append_ #[ty_Suint64, ty_Suint64] ty_Suint64 #[(.slice rowP18 rowL19 rowC20), (.slice (some ⟨b21, 0, none⟩) 1 1)]) Hx22 fun v23 Hx24 =>
 asSl v23 fun tP25 tL26 tC27 =>
 nilP r1 fun ra28 =>
 st (ra28.add 7) (.slice tP25 tL26 tC27) Hx24 fun Hx29 =>
 nilP r1 fun ra30 =>
 ldSl (ra30.add 8) Hx29 fun waitsP31 waitsL32 waitsC33 =>
 newB (.cells #[(.int .u64 serial2)] ty_uint64) Hx29 fun b34 Hx35 =>
 evW PR (Builtin.append_ #[ty_Suint64, ty_Suint64] ty_Suint64 #[(.slice waitsP31 waitsL32 waitsC33), (.slice (some ⟨b34, 0, none⟩) 1 1)]) Hx35 fun v36 Hx37 =>
 asSl v36 fun tP38 tL39 tC40 =>
 nilP r1 fun ra41 =>
 st (ra41.add 8) (.slice tP38 tL39 tC40) Hx37 fun Hx42 =>
 K (.tuple #[]) Hx42)
theorem E_ref11_Reacher_put (r1 : Option Addr) (serial2 : Int) (H : Hp) (K : Value → Hp → Prop) : B_ref11_Reacher_put r1 serial2 H K = denF Tryz.prog Tryz.f146 (.seq none (.seq none .n (.sub (.loop ⟨[(4, .int .i64)], [0, 1]⟩ .n))) .n) [(.pointer r1), (.int .u64 serial2)] H K := by kernel_rfl
theorem den_ref11_Reacher_put {r1 : Option Addr} {serial2 : Int} {H : Hp} {K : Value → Hp → Prop} (h : B_ref11_Reacher_put r1 serial2 H K) : hcall PR f_ref11_Reacher_put ⟨[(.pointer r1), (.int .u64 serial2)]⟩ H K := denF_call Tryz.func146 PR_mixed (Eq.mp (E_ref11_Reacher_put r1 serial2 H K) h)

def B_ref11_Sweeper_Begin (s1 : Option Addr) (H : Hp) (K : Value → Hp → Prop) : Prop :=
 nilP s1 fun sa2 =>
 st (sa2.add 2) (.int .u64 0) H fun Hx3 =>
 nilP s1 fun sa4 =>
 ldP sa4 Hx3 fun Hx5 =>
 nilP Hx5 fun Hxa6 =>
 ldI .u64 (Hxa6.add 2) Hx3 fun Last7 =>
 nilP s1 fun sa8 =>
 st (sa8.add 3) (.int .u64 Last7) Hx3 fun Hx9 =>
 K (.tuple #[]) Hx9
theorem E_ref11_Sweeper_Begin (s1 : Option Addr) (H : Hp) (K : Value → Hp → Prop) : B_ref11_Sweeper_Begin s1 H K = denF Tryz.prog Tryz.f147 .n [(.pointer s1)] H K := by kernel_rfl
theorem den_ref11_Sweeper_Begin {s1 : Option Addr} {H : Hp} {K : Value → Hp → Prop} (h : B_ref11_Sweeper_Begin s1 H K) : hcall PR f_ref11_Sweeper_Begin ⟨[(.pointer s1)]⟩ H K := denF_call Tryz.func147 PR_mixed (Eq.mp (E_ref11_Sweeper_Begin s1 H K) h)

def B_ref11_Paint_Forget (p1 : Option Addr) (serial2 : Int) (H : Hp) (K : Value → Hp → Prop) : Prop :=
 ∃ (I3 : Option Addr → Nat → Nat → Int → Hp → Prop) (m4 : Option Addr → Nat → Nat → Int → Hp → Nat), I3 none 0 0 0 H ∧ ∀ restP6 : Option Addr, ∀ restL7 : Nat, ∀ restC8 : Nat, ∀ i9 : Int, ∀ Hx5 : Hp, I3 restP6 restL7 restC8 i9 Hx5 →
 nilP p1 fun pa10 =>
 ldSl (pa10.add 5) Hx5 fun marksP11 marksL12 marksC13 =>
 (bif (decide ((i9 : Int) < (marksL12 : Int))) then
 ∀ R14 : Option Addr → Nat → Nat → Hp → Prop, (∀ restP16 : Option Addr, ∀ restL17 : Nat, ∀ restC18 : Nat, ∀ Hx15 : Hp, (
 I3 restP16 restL17 restC18 (IntKind.i64.wrap (i9 + 1)) Hx15 ∧ m4 restP16 restL17 restC18 (IntKind.i64.wrap (i9 + 1)) Hx15 < m4 restP6 restL7 restC8 i9 Hx5) → R14 restP16 restL17 restC18 Hx15) →
 nilP p1 fun pa19 =>
 ldSl (pa19.add 5) Hx5 fun marksP20 marksL21 marksC22 =>
 idxA marksP20 marksL21 i9 3 fun el23 =>
 ldI .u64 el23 Hx5 fun serial24 =>
 (bif ((serial24 : Int) != serial2) then
 nilP p1 fun pa25 =>
 ldSl (pa25.add 5) Hx5 fun marksP26 marksL27 marksC28 =>
 idxA marksP26 marksL27 i9 3 fun el29 =>
 ldI .u64 el29 Hx5 fun serial30 =>
 ldI .i64 (el29.add 1) Hx5 fun rank31 =>
 ldB (el29.add 2) Hx5 fun grey32 =>
 newB (.cells #[(.int .u64 serial30), (.int .i64 rank31), (.bool grey32)] ty_ref11_mark) Hx5 fun b33 Hx34 =>
 evW PR (Builtin.append_ #[ty_Smooringref11_mark, ty_Smooringref11_mark] ty_Smooringref11_mark #[(.slice restP6 restL7 restC8), (.slice (some ⟨b33, 0, none⟩) 1 1)]) Hx34 fun v35 Hx36 =>
 asSl v35 fun tP37 tL38 tC39 =>
 R14 tP37 tL38 tC39 Hx36
else
 R14 restP6 restL7 restC8 Hx5)
else
 nilP p1 fun pa40 =>
 st (pa40.add 5) (.slice restP6 restL7 restC8) Hx5 fun Hx41 =>
 K (.tuple #[]) Hx41)
theorem E_ref11_Paint_Forget (p1 : Option Addr) (serial2 : Int) (H : Hp) (K : Value → Hp → Prop) : B_ref11_Paint_Forget p1 serial2 H K = denF Tryz.prog Tryz.f149 (.seq none .n (.seq none (.seq none .n (.sub (.loop ⟨[(4, .sl), (5, .int .i64)], [0, 1]⟩ (.seq none .n (.seq (some ⟨[(4, .sl)], [0, 1, 5]⟩) .n .n))))) .n)) [(.pointer p1), (.int .u64 serial2)] H K := by kernel_rfl
theorem den_ref11_Paint_Forget {p1 : Option Addr} {serial2 : Int} {H : Hp} {K : Value → Hp → Prop} (h : B_ref11_Paint_Forget p1 serial2 H K) : hcall PR f_ref11_Paint_Forget ⟨[(.pointer p1), (.int .u64 serial2)]⟩ H K := denF_call Tryz.func149 PR_mixed (Eq.mp (E_ref11_Paint_Forget p1 serial2 H K) h)

def B_ref11_Paint_Met (p1 : Option Addr) (xNode2 : Int) (xSerial3 : Int) (H : Hp) (K : Value → Hp → Prop) : Prop :=
 newB (.cells #[(.int .i64 xNode2), (.int .u64 xSerial3)] ty_api_ID) H fun b4 Hx5 =>
 ∀ R6 : Option Addr → Bool → Hp → Prop, (∀ o8 : Option Addr, ∀ ok9 : Bool, ∀ Hx7 : Hp, (
 (bif (!ok9) then
 K (.tuple #[(.int .i64 0), (.bool false)]) Hx7
else
 asA (.pointer o8) fun oa10 =>
 ldI .i64 oa10 Hx7 fun Node11 =>
 ldI .u64 (oa10.add 1) Hx7 fun Serial12 =>
 ldI .i64 ⟨b4, 0, none⟩ Hx7 fun Node13 =>
 ldI .u64 ⟨b4, 1, none⟩ Hx7 fun Serial14 =>
 evR PR (aggEq .neq ty_api_ID #[(.int .i64 Node11), (.int .u64 Serial12)] #[(.int .i64 Node13), (.int .u64 Serial14)]) Hx7 fun v15 =>
 asB v15 fun eq16 =>
 (bif eq16 then
 K (.tuple #[(.int .i64 0), (.bool false)]) Hx7
else
 asA (.pointer o8) fun oa17 =>
 ldI .i64 (oa17.add 2) Hx7 fun Rank18 =>
 K (.tuple #[(.int .i64 Rank18), (.bool ok9)]) Hx7))) → R6 o8 ok9 Hx7) →
 nilP p1 fun pa19 =>
 ldI .i64 ⟨b4, 0, none⟩ Hx5 fun Node20 =>
 ldI .u64 ⟨b4, 1, none⟩ Hx5 fun Serial21 =>
 (hcall PR f_api_Key ⟨[(.agg #[(.int .i64 Node20), (.int .u64 Serial21)])]⟩ Hx5 fun v22 Hx23 =>
 asI .u64 v22 fun t24 =>
 (hcall PR f_ref4_OutTable_Get ⟨[(.pointer (some (pa19.add 6))), (.int .u64 t24)]⟩ Hx23 fun v25 Hx26 =>
 tup2 v25 fun v27 v28 =>
 agg3 v27 fun v29 v30 v31 =>
 asI .i64 v29 fun Node32 =>
 asI .u64 v30 fun Serial33 =>
 asI .i64 v31 fun Rank34 =>
 asB v28 fun t35 =>
 newB (.cells #[(.int .i64 0), (.int .u64 0), (.int .i64 0)] ty_api_Out) Hx26 fun b36 Hx37 =>
 st ⟨b36, 0, none⟩ (.int .i64 Node32) Hx37 fun Hx38 =>
 st ⟨b36, 1, none⟩ (.int .u64 Serial33) Hx38 fun Hx39 =>
 st ⟨b36, 2, none⟩ (.int .i64 Rank34) Hx39 fun Hx40 =>
 R6 (some ⟨b36, 0, none⟩) t35 Hx40) ∧
 (newB (.cells #[(.int .i64 0), (.int .u64 0), (.int .i64 0)] ty_api_Out) Hx23 fun b41 Hx42 =>
 hcall PR f_ref4_OutTable_Get ⟨[(.pointer (some (pa19.add 6))), (.int .u64 t24)]⟩ Hx42 fun v43 Hx44 =>
 tup2 v43 fun v45 v46 =>
 agg3 v45 fun v47 v48 v49 =>
 asI .i64 v47 fun Node50 =>
 asI .u64 v48 fun Serial51 =>
 asI .i64 v49 fun Rank52 =>
 asB v46 fun t53 =>
 st ⟨b41, 0, none⟩ (.int .i64 Node50) Hx44 fun Hx54 =>
 st ⟨b41, 1, none⟩ (.int .u64 Serial51) Hx54 fun Hx55 =>
 st ⟨b41, 2, none⟩ (.int .i64 Rank52) Hx55 fun Hx56 =>
 R6 (some ⟨b41, 0, none⟩) t53 Hx56)) ∧
 (newB (.cells #[(.int .i64 0), (.int .u64 0), (.int .i64 0)] ty_api_Out) Hx5 fun b57 Hx58 =>
 (ldI .i64 ⟨b4, 0, none⟩ Hx58 fun Node59 =>
 ldI .u64 ⟨b4, 1, none⟩ Hx58 fun Serial60 =>
 ((.agg #[(.int .i64 Node59), (.int .u64 Serial60)]) : Value) = (.agg #[(.int .i64 Node20), (.int .u64 Serial21)])) ∧
 hcall PR f_api_Key ⟨[(.agg #[(.int .i64 Node20), (.int .u64 Serial21)])]⟩ Hx58 fun v61 Hx62 =>
 asI .u64 v61 fun t63 =>
 hcall PR f_ref4_OutTable_Get ⟨[(.pointer (some (pa19.add 6))), (.int .u64 t63)]⟩ Hx62 fun v64 Hx65 =>
 tup2 v64 fun v66 v67 =>
 agg3 v66 fun v68 v69 v70 =>
 asI .i64 v68 fun Node71 =>
 asI .u64 v69 fun Serial72 =>
 asI .i64 v70 fun Rank73 =>
 asB v67 fun t74 =>
 st ⟨b57, 0, none⟩ (.int .i64 Node71) Hx65 fun Hx75 =>
 st ⟨b57, 1, none⟩ (.int .u64 Serial72) Hx75 fun Hx76 =>
 st ⟨b57, 2, none⟩ (.int .i64 Rank73) Hx76 fun Hx77 =>
 R6 (some ⟨b57, 0, none⟩) t74 Hx77)
theorem E_ref11_Paint_Met (p1 : Option Addr) (xNode2 : Int) (xSerial3 : Int) (H : Hp) (K : Value → Hp → Prop) : B_ref11_Paint_Met p1 xNode2 xSerial3 H K = denF Tryz.prog Tryz.f159 (.seq none .n (.seq (some ⟨[(6, .ptr), (7, .bool)], [3]⟩) .n .n)) [(.pointer p1), (.agg #[(.int .i64 xNode2), (.int .u64 xSerial3)])] H K := by kernel_rfl
theorem den_ref11_Paint_Met {p1 : Option Addr} {xNode2 : Int} {xSerial3 : Int} {H : Hp} {K : Value → Hp → Prop} (h : B_ref11_Paint_Met p1 xNode2 xSerial3 H K) : hcall PR f_ref11_Paint_Met ⟨[(.pointer p1), (.agg #[(.int .i64 xNode2), (.int .u64 xSerial3)])]⟩ H K := denF_call Tryz.func159 PR_mixed (Eq.mp (E_ref11_Paint_Met p1 xNode2 xSerial3 H K) h)

end Go.Proofs.YtflfodcemnapeaaGreat

namespace Go.Proofs.YtflfodcemnapeaaGreat
open Go
set_option linter.unusedVariables false
set_option maxRecDepth 100000
def B_ref4_OutTable_Get (t1 : Option Addr) (k2 : Int) (H : Hp) (K : Value → Hp → Prop) : Prop :=
 newB (.cells #[(.int .i64 0), (.int .u64 0), (.int .i64 0)] ty_api_Out) H fun b3 Hx4 =>
 hcall PR f_ref4_OutTable_place ⟨[(.pointer t1), (.int .u64 k2)]⟩ Hx4 fun v5 Hx6 =>
 tup2 v5 fun v7 v8 =>
 asI .i64 v7 fun t9 =>
 asB v8 fun t10 =>
 ∀ R11 : Hp → Prop, (∀ Hx12 : Hp, (
 ldI .i64 ⟨b3, 0, none⟩ Hx12 fun Node13 =>
 ldI .u64 ⟨b3, 1, none⟩ Hx12 fun Serial14 =>
 ldI .i64 ⟨b3, 2, none⟩ Hx12 fun Rank15 =>
 st ⟨b3, 0, none⟩ (.int .i64 Node13) Hx12 fun Hx16 =>
 st ⟨b3, 1, none⟩ (.int .u64 Serial14) Hx16 fun Hx17 =>
 st ⟨b3, 2, none⟩ (.int .i64 Rank15) Hx17 fun Hx18 =>
 ldI .i64 ⟨b3, 0, none⟩ Hx18 fun Node19 =>
 ldI .u64 ⟨b3, 1, none⟩ Hx18 fun Serial20 =>
 ldI .i64 ⟨b3, 2, none⟩ Hx18 fun Rank21 =>
 K (.tuple #[(.agg #[(.int .i64 Node19), (.int .u64 Serial20), (.int .i64 Rank21)]), (.bool t10)]) Hx18) → R11 Hx12) →
 (bif t10 then
 nilP t1 fun ta22 =>
 ldSl (ta22.add 2) Hx6 fun VP23 VL24 VC25 =>
 idxA VP23 VL24 t9 3 fun el26 =>
 ldI .i64 el26 Hx6 fun Node27 =>
 ldI .u64 (el26.add 1) Hx6 fun Serial28 =>
 ldI .i64 (el26.add 2) Hx6 fun Rank29 =>
 st ⟨b3, 0, none⟩ (.int .i64 Node27) Hx6 fun Hx30 =>
 st ⟨b3, 1, none⟩ (.int .u64 Serial28) Hx30 fun Hx31 =>
 st ⟨b3, 2, none⟩ (.int .i64 Rank29) Hx31 fun Hx32 =>
 R11 Hx32
else
 R11 Hx6)
theorem E_ref4_OutTable_Get (t1 : Option Addr) (k2 : Int) (H : Hp) (K : Value → Hp → Prop) : B_ref4_OutTable_Get t1 k2 H K = denF Tryz.prog Tryz.f92 (.seq none .n (.seq none .n (.seq (some ⟨[], [4, 5]⟩) .n .n))) [(.pointer t1), (.int .u64 k2)] H K := by kernel_rfl
theorem den_ref4_OutTable_Get {t1 : Option Addr} {k2 : Int} {H : Hp} {K : Value → Hp → Prop} (h : B_ref4_OutTable_Get t1 k2 H K) : hcall PR f_ref4_OutTable_Get ⟨[(.pointer t1), (.int .u64 k2)]⟩ H K := denF_call Tryz.func92 PR_mixed (Eq.mp (E_ref4_OutTable_Get t1 k2 H K) h)

def B_ref4_OutTable_Put (t1 : Option Addr) (k2 : Int) (vNode3 : Int) (vSerial4 : Int) (vRank5 : Int) (H : Hp) (K : Value → Hp → Prop) : Prop :=
 newB (.cells #[(.int .i64 vNode3), (.int .u64 vSerial4), (.int .i64 vRank5)] ty_api_Out) H fun b6 Hx7 =>
 hcall PR f_ref4_OutTable_place ⟨[(.pointer t1), (.int .u64 k2)]⟩ Hx7 fun v8 Hx9 =>
 tup2 v8 fun v10 v11 =>
 asI .i64 v10 fun t12 =>
 asB v11 fun t13 =>
 (bif t13 then
 nilP t1 fun ta14 =>
 ldSl (ta14.add 2) Hx9 fun VP15 VL16 VC17 =>
 ldI .i64 ⟨b6, 0, none⟩ Hx9 fun Node18 =>
 ldI .u64 ⟨b6, 1, none⟩ Hx9 fun Serial19 =>
 ldI .i64 ⟨b6, 2, none⟩ Hx9 fun Rank20 =>
 idxA VP15 VL16 t12 3 fun el21 =>
 st el21 (.int .i64 Node18) Hx9 fun Hx22 =>
 st (el21.add 1) (.int .u64 Serial19) Hx22 fun Hx23 =>
 st (el21.add 2) (.int .i64 Rank20) Hx23 fun Hx24 =>
 K (.bool true) Hx24
else
 nilP t1 fun ta25 =>
 ldSl (ta25.add 1) Hx9 fun KP26 KL27 KC28 =>
 nilP t1 fun ta29 =>
 ldI .i64 ta29 Hx9 fun Most30 =>
 (bif (decide (((KL27 : Int) : Int) ≥ Most30)) then
 K (.bool false) Hx9
else
 ∀ R31 : Option Addr → Nat → Nat → Hp → Prop, (∀ keysP33 : Option Addr, ∀ keysL34 : Nat, ∀ keysC35 : Nat, ∀ Hx32 : Hp, (
 ∀ R36 : Option Addr → Nat → Nat → Hp → Prop, (∀ valsP38 : Option Addr, ∀ valsL39 : Nat, ∀ valsC40 : Nat, ∀ Hx37 : Hp, (
 nilP t1 fun ta41 =>
 st (ta41.add 1) (.slice keysP33 keysL34 keysC35) Hx37 fun Hx42 =>
 nilP t1 fun ta43 =>
 st (ta43.add 2) (.slice valsP38 valsL39 valsC40) Hx42 fun Hx44 =>
 K (.bool true) Hx44) → R36 valsP38 valsL39 valsC40 Hx37) →
 nilP t1 fun ta45 =>
 ldSl (ta45.add 2) Hx32 fun VP46 VL47 VC48 =>
 slcD VP46 VL47 VC48 none (some t12) 3 fun sP49 sL50 sC51 =>
 ldI .i64 ⟨b6, 0, none⟩ Hx32 fun Node52 =>
 ldI .u64 ⟨b6, 1, none⟩ Hx32 fun Serial53 =>
 ldI .i64 ⟨b6, 2, none⟩ Hx32 fun Rank54 =>
 nilP t1 fun ta55 =>
 ldSl (ta55.add 2) Hx32 fun VP56 VL57 VC58 =>
 slcD VP56 VL57 VC58 (some t12) none 3 fun sP59 sL60 sC61 =>
 (evW PR (Builtin.append_ #[ty_Sapi_Out, ty_Sapi_Out] ty_Sapi_Out #[(.slice none 0 0), (.slice sP49 sL50 sC51)]) Hx32 fun v62 Hx63 =>
 asSl v62 fun tP64 tL65 tC66 =>
 (ldSl (ta55.add 2) Hx63 fun VP67 VL68 VC69 =>
 ((.slice VP67 VL68 VC69) : Value) = (.slice VP56 VL57 VC58)) ∧
 (ldI .i64 ⟨b6, 0, none⟩ Hx63 fun Node70 =>
 ldI .u64 ⟨b6, 1, none⟩ Hx63 fun Serial71 =>
 ldI .i64 ⟨b6, 2, none⟩ Hx63 fun Rank72 =>
 ((.agg #[(.int .i64 Node70), (.int .u64 Serial71), (.int .i64 Rank72)]) : Value) = (.agg #[(.int .i64 Node52), (.int .u64 Serial53), (.int .i64 Rank54)])) ∧
 newB (.cells #[(.int .i64 Node52), (.int .u64 Serial53), (.int .i64 Rank54)] ty_api_Out) Hx63 fun b73 Hx74 =>
 (ldSl (ta55.add 2) Hx74 fun VP75 VL76 VC77 =>
 ((.slice VP75 VL76 VC77) : Value) = (.slice VP56 VL57 VC58)) ∧
 evW PR (Builtin.append_ #[ty_Sapi_Out, ty_Sapi_Out] ty_Sapi_Out #[(.slice tP64 tL65 tC66), (.slice (some ⟨b73, 0, none⟩) 1 1)]) Hx74 fun v78 Hx79 =>
 asSl v78 fun tP80 tL81 tC82 =>
 (ldSl (ta55.add 2) Hx79 fun VP83 VL84 VC85 =>
 ((.slice VP83 VL84 VC85) : Value) = (.slice VP56 VL57 VC58)) ∧
 evW PR (Builtin.append_ #[ty_Sapi_Out, ty_Sapi_Out] ty_Sapi_Out #[(.slice tP80 tL81 tC82), (.slice sP59 sL60 sC61)]) Hx79 fun v86 Hx87 =>
 asSl v86 fun tP88 tL89 tC90 =>
 R36 tP88 tL89 tC90 Hx87) ∧
 (newB (.cells #[(.int .i64 Node52), (.int .u64 Serial53), (.int .i64 Rank54)] ty_api_Out) Hx32 fun b91 Hx92 =>
 (ldSl (ta55.add 2) Hx92 fun VP93 VL94 VC95 =>
 ((.slice VP93 VL94 VC95) : Value) = (.slice VP56 VL57 VC58)) ∧
 (ldSl (ta45.add 2) Hx92 fun VP96 VL97 VC98 =>
 ((.slice VP96 VL97 VC98) : Value) = (.slice VP46 VL47 VC48)) ∧
 evW PR (Builtin.append_ #[ty_Sapi_Out, ty_Sapi_Out] ty_Sapi_Out #[(.slice none 0 0), (.slice sP49 sL50 sC51)]) Hx92 fun v99 Hx100 =>
 asSl v99 fun tP101 tL102 tC103 =>
 (ldSl (ta55.add 2) Hx100 fun VP104 VL105 VC106 =>
 ((.slice VP104 VL105 VC106) : Value) = (.slice VP56 VL57 VC58)) ∧
 evW PR (Builtin.append_ #[ty_Sapi_Out, ty_Sapi_Out] ty_Sapi_Out #[(.slice tP101 tL102 tC103), (.slice (some ⟨b91, 0, none⟩) 1 1)]) Hx100 fun v107 Hx108 =>
 asSl v107 fun tP109 tL110 tC111 =>
 (ldSl (ta55.add 2) Hx108 fun VP112 VL113 VC114 =>
 ((.slice VP112 VL113 VC114) : Value) = (.slice VP56 VL57 VC58)) ∧
 evW PR (Builtin.append_ #[ty_Sapi_Out, ty_Sapi_Out] ty_Sapi_Out #[(.slice tP109 tL110 tC111), (.slice sP59 sL60 sC61)]) Hx108 fun v115 Hx116 =>
 asSl v115 fun tP117 tL118 tC119 =>
 R36 tP117 tL118 tC119 Hx116)) → R31 keysP33 keysL34 keysC35 Hx32) →
 nilP t1 fun ta120 =>
 ldSl (ta120.add 1) Hx9 fun KP121 KL122 KC123 =>
 slcD KP121 KL122 KC123 none (some t12) 1 fun sP124 sL125 sC126 =>
 nilP t1 fun ta127 =>
 ldSl (ta127.add 1) Hx9 fun KP128 KL129 KC130 =>
 slcD KP128 KL129 KC130 (some t12) none 1 fun sP131 sL132 sC133 =>
 (evW PR (Builtin.append_ #[ty_Suint64, ty_Suint64] ty_Suint64 #[(.slice none 0 0), (.slice sP124 sL125 sC126)]) Hx9 fun v134 Hx135 =>
 asSl v134 fun tP136 tL137 tC138 =>
 (ldSl (ta127.add 1) Hx135 fun KP139 KL140 KC141 =>
 ((.slice KP139 KL140 KC141) : Value) = (.slice KP128 KL129 KC130)) ∧
 newB (.cells #[(.int .u64 k2)] ty_uint64) Hx135 fun b142 Hx143 =>
 (ldSl (ta127.add 1) Hx143 fun KP144 KL145 KC146 =>
 ((.slice KP144 KL145 KC146) : Value) = (.slice KP128 KL129 KC130)) ∧
 evW PR (Builtin.append_ #[ty_Suint64, ty_Suint64] ty_Suint64 #[(.slice tP136 tL137 tC138), (.slice (some ⟨b142, 0, none⟩) 1 1)]) Hx143 fun v147 Hx148 =>
 asSl v147 fun tP149 tL150 tC151 =>
 (ldSl (ta127.add 1) Hx148 fun KP152 KL153 KC154 =>
 ((.slice KP152 KL153 KC154) : Value) = (.slice KP128 KL129 KC130)) ∧
 evW PR (Builtin.append_ #[ty_Suint64, ty_Suint64] ty_Suint64 #[(.slice tP149 tL150 tC151), (.slice sP131 sL132 sC133)]) Hx148 fun v155 Hx156 =>
 asSl v155 fun tP157 tL158 tC159 =>
 R31 tP157 tL158 tC159 Hx156) ∧
 (newB (.cells #[(.int .u64 k2)] ty_uint64) Hx9 fun b160 Hx161 =>
 (ldSl (ta127.add 1) Hx161 fun KP162 KL163 KC164 =>
 ((.slice KP162 KL163 KC164) : Value) = (.slice KP128 KL129 KC130)) ∧
 (ldSl (ta120.add 1) Hx161 fun KP165 KL166 KC167 =>
 ((.slice KP165 KL166 KC167) : Value) = (.slice KP121 KL122 KC123)) ∧
 evW PR (Builtin.append_ #[ty_Suint64, ty_Suint64] ty_Suint64 #[(.slice none 0 0), (.slice sP124 sL125 sC126)]) Hx161 fun v168 Hx169 =>
 asSl v168 fun tP170 tL171 tC172 =>
 (ldSl (ta127.add 1) Hx169 fun KP173 KL174 KC175 =>
 ((.slice KP173 KL174 KC175) : Value) = (.slice KP128 KL129 KC130)) ∧
 evW PR (Builtin.append_ #[ty_Suint64, ty_Suint64] ty_Suint64 #[(.slice tP170 tL171 tC172), (.slice (some ⟨b160, 0, none⟩) 1 1)]) Hx169 fun v176 Hx177 =>
 asSl v176 fun tP178 tL179 tC180 =>
 (ldSl (ta127.add 1) Hx177 fun KP181 KL182 KC183 =>
 ((.slice KP181 KL182 KC183) : Value) = (.slice KP128 KL129 KC130)) ∧
 evW PR (Builtin.append_ #[ty_Suint64, ty_Suint64] ty_Suint64 #[(.slice tP178 tL179 tC180), (.slice sP131 sL132 sC133)]) Hx177 fun v184 Hx185 =>
 asSl v184 fun tP186 tL187 tC188 =>
 R31 tP186 tL187 tC188 Hx185)))
theorem E_ref4_OutTable_Put (t1 : Option Addr) (k2 : Int) (vNode3 : Int) (vSerial4 : Int) (vRank5 : Int) (H : Hp) (K : Value → Hp → Prop) : B_ref4_OutTable_Put t1 k2 vNode3 vSerial4 vRank5 H K = denF Tryz.prog Tryz.f94 (.seq none .n (.seq none .n (.seq none .n (.seq none .n (.seq none .n (.seq none .n (.seq (some ⟨[(9, .sl)], [0, 5, 7, 10]⟩) .n (.seq (some ⟨[(10, .sl)], [0, 9]⟩) .n .n)))))))) [(.pointer t1), (.int .u64 k2), (.agg #[(.int .i64 vNode3), (.int .u64 vSerial4), (.int .i64 vRank5)])] H K := by kernel_rfl
theorem den_ref4_OutTable_Put {t1 : Option Addr} {k2 : Int} {vNode3 : Int} {vSerial4 : Int} {vRank5 : Int} {H : Hp} {K : Value → Hp → Prop} (h : B_ref4_OutTable_Put t1 k2 vNode3 vSerial4 vRank5 H K) : hcall PR f_ref4_OutTable_Put ⟨[(.pointer t1), (.int .u64 k2), (.agg #[(.int .i64 vNode3), (.int .u64 vSerial4), (.int .i64 vRank5)])]⟩ H K := denF_call Tryz.func94 PR_mixed (Eq.mp (E_ref4_OutTable_Put t1 k2 vNode3 vSerial4 vRank5 H K) h)

def B_ref4_WordStack_Push (s1 : Option Addr) (x2 : Int) (H : Hp) (K : Value → Hp → Prop) : Prop :=
 nilP s1 fun sa3 =>
 ldSl (sa3.add 1) H fun LP4 LL5 LC6 =>
 nilP s1 fun sa7 =>
 ldI .i64 sa7 H fun Most8 =>
 (bif (decide (((LL5 : Int) : Int) ≥ Most8)) then
 nilP s1 fun sa9 =>
 st (sa9.add 2) (.bool true) H fun Hx10 =>
 K (.bool false) Hx10
else
 newB (.cells #[] ty_uint64) H fun b11 Hx12 =>
 nilP s1 fun sa13 =>
 ldSl (sa13.add 1) Hx12 fun LP14 LL15 LC16 =>
 evW PR (Builtin.append_ #[ty_Suint64, ty_Suint64] ty_Suint64 #[(.slice (some ⟨b11, 0, none⟩) 0 0), (.slice LP14 LL15 LC16)]) Hx12 fun v17 Hx18 =>
 asSl v17 fun tP19 tL20 tC21 =>
 newB (.cells #[(.int .u64 x2)] ty_uint64) Hx18 fun b22 Hx23 =>
 evW PR (Builtin.append_ #[ty_Suint64, ty_Suint64] ty_Suint64 #[(.slice tP19 tL20 tC21), (.slice (some ⟨b22, 0, none⟩) 1 1)]) Hx23 fun v24 Hx25 =>
 asSl v24 fun tP26 tL27 tC28 =>
 nilP s1 fun sa29 =>
 st (sa29.add 1) (.slice tP26 tL27 tC28) Hx25 fun Hx30 =>
 K (.bool true) Hx30)
theorem E_ref4_WordStack_Push (s1 : Option Addr) (x2 : Int) (H : Hp) (K : Value → Hp → Prop) : B_ref4_WordStack_Push s1 x2 H K = denF Tryz.prog Tryz.f96 .n [(.pointer s1), (.int .u64 x2)] H K := by kernel_rfl
theorem den_ref4_WordStack_Push {s1 : Option Addr} {x2 : Int} {H : Hp} {K : Value → Hp → Prop} (h : B_ref4_WordStack_Push s1 x2 H K) : hcall PR f_ref4_WordStack_Push ⟨[(.pointer s1), (.int .u64 x2)]⟩ H K := denF_call Tryz.func96 PR_mixed (Eq.mp (E_ref4_WordStack_Push s1 x2 H K) h)

def B_ref4_OutTable_place (t1 : Option Addr) (k2 : Int) (H : Hp) (K : Value → Hp → Prop) : Prop :=
 ∃ (I3 : Int → Hp → Prop) (m4 : Int → Hp → Nat), I3 0 H ∧ ∀ i6 : Int, ∀ Hx5 : Hp, I3 i6 Hx5 →
 nilP t1 fun ta7 =>
 ldSl (ta7.add 1) Hx5 fun KP8 KL9 KC10 =>
 (bif (decide ((i6 : Int) < (KL9 : Int))) then
 nilP t1 fun ta11 =>
 ldSl (ta11.add 1) Hx5 fun KP12 KL13 KC14 =>
 idxA KP12 KL13 i6 1 fun el15 =>
 ldI .u64 el15 Hx5 fun t16 =>
 (bif (decide ((t16 : Int) ≥ k2)) then
 nilP t1 fun ta17 =>
 ldSl (ta17.add 1) Hx5 fun KP18 KL19 KC20 =>
 idxA KP18 KL19 i6 1 fun el21 =>
 ldI .u64 el21 Hx5 fun t22 =>
 K (.tuple #[(.int .i64 i6), (.bool ((t22 : Int) == k2))]) Hx5
else
 I3 (IntKind.i64.wrap (i6 + 1)) Hx5 ∧ m4 (IntKind.i64.wrap (i6 + 1)) Hx5 < m4 i6 Hx5)
else
 nilP t1 fun ta23 =>
 ldSl (ta23.add 1) Hx5 fun KP24 KL25 KC26 =>
 K (.tuple #[(.int .i64 (KL25 : Int)), (.bool false)]) Hx5)
theorem E_ref4_OutTable_place (t1 : Option Addr) (k2 : Int) (H : Hp) (K : Value → Hp → Prop) : B_ref4_OutTable_place t1 k2 H K = denF Tryz.prog Tryz.f127 (.seq none .n (.seq none (.seq none .n (.sub (.loop ⟨[(6, .int .i64)], [0, 1]⟩ .n))) .n)) [(.pointer t1), (.int .u64 k2)] H K := by kernel_rfl
theorem den_ref4_OutTable_place {t1 : Option Addr} {k2 : Int} {H : Hp} {K : Value → Hp → Prop} (h : B_ref4_OutTable_place t1 k2 H K) : hcall PR f_ref4_OutTable_place ⟨[(.pointer t1), (.int .u64 k2)]⟩ H K := denF_call Tryz.func127 PR_mixed (Eq.mp (E_ref4_OutTable_place t1 k2 H K) h)

def B_ref4_WordStack_Pop (s1 : Option Addr) (H : Hp) (K : Value → Hp → Prop) : Prop :=
 nilP s1 fun sa2 =>
 ldSl (sa2.add 1) H fun LP3 LL4 LC5 =>
 (bif (((LL4 : Int) : Int) == 0) then
 K (.tuple #[(.int .u64 0), (.bool false)]) H
else
 nilP s1 fun sa6 =>
 ldSl (sa6.add 1) H fun LP7 LL8 LC9 =>
 nilP s1 fun sa10 =>
 ldSl (sa10.add 1) H fun LP11 LL12 LC13 =>
 idxA LP7 LL8 (IntKind.i64.wrap ((LL12 : Int) - 1)) 1 fun el14 =>
 ldI .u64 el14 H fun t15 =>
 nilP s1 fun sa16 =>
 ldSl (sa16.add 1) H fun LP17 LL18 LC19 =>
 nilP s1 fun sa20 =>
 ldSl (sa20.add 1) H fun LP21 LL22 LC23 =>
 slcD LP17 LL18 LC19 none (some (IntKind.i64.wrap ((LL22 : Int) - 1))) 1 fun sP24 sL25 sC26 =>
 nilP s1 fun sa27 =>
 st (sa27.add 1) (.slice sP24 sL25 sC26) H fun Hx28 =>
 K (.tuple #[(.int .u64 t15), (.bool true)]) Hx28)
theorem E_ref4_WordStack_Pop (s1 : Option Addr) (H : Hp) (K : Value → Hp → Prop) : B_ref4_WordStack_Pop s1 H K = denF Tryz.prog Tryz.f140 .n [(.pointer s1)] H K := by kernel_rfl
theorem den_ref4_WordStack_Pop {s1 : Option Addr} {H : Hp} {K : Value → Hp → Prop} (h : B_ref4_WordStack_Pop s1 H K) : hcall PR f_ref4_WordStack_Pop ⟨[(.pointer s1)]⟩ H K := denF_call Tryz.func140 PR_mixed (Eq.mp (E_ref4_WordStack_Pop s1 H K) h)

def B_ref4_IDTable_Put (t1 : Option Addr) (k2 : Int) (vNode3 : Int) (vSerial4 : Int) (H : Hp) (K : Value → Hp → Prop) : Prop :=
 newB (.cells #[(.int .i64 vNode3), (.int .u64 vSerial4)] ty_api_ID) H fun b5 Hx6 =>
 hcall PR f_ref4_IDTable_place ⟨[(.pointer t1), (.int .u64 k2)]⟩ Hx6 fun v7 Hx8 =>
 tup2 v7 fun v9 v10 =>
 asI .i64 v9 fun t11 =>
 asB v10 fun t12 =>
 (bif t12 then
 nilP t1 fun ta13 =>
 ldSl (ta13.add 2) Hx8 fun VP14 VL15 VC16 =>
 ldI .i64 ⟨b5, 0, none⟩ Hx8 fun Node17 =>
 ldI .u64 ⟨b5, 1, none⟩ Hx8 fun Serial18 =>
 idxA VP14 VL15 t11 2 fun el19 =>
 st el19 (.int .i64 Node17) Hx8 fun Hx20 =>
 st (el19.add 1) (.int .u64 Serial18) Hx20 fun Hx21 =>
 K (.bool true) Hx21
else
 nilP t1 fun ta22 =>
 ldSl (ta22.add 1) Hx8 fun KP23 KL24 KC25 =>
 nilP t1 fun ta26 =>
 ldI .i64 ta26 Hx8 fun Most27 =>
 (bif (decide (((KL24 : Int) : Int) ≥ Most27)) then
 K (.bool false) Hx8
else
 ∀ R28 : Option Addr → Nat → Nat → Hp → Prop, (∀ keysP30 : Option Addr, ∀ keysL31 : Nat, ∀ keysC32 : Nat, ∀ Hx29 : Hp, (
 ∀ R33 : Option Addr → Nat → Nat → Hp → Prop, (∀ valsP35 : Option Addr, ∀ valsL36 : Nat, ∀ valsC37 : Nat, ∀ Hx34 : Hp, (
 nilP t1 fun ta38 =>
 st (ta38.add 1) (.slice keysP30 keysL31 keysC32) Hx34 fun Hx39 =>
 nilP t1 fun ta40 =>
 st (ta40.add 2) (.slice valsP35 valsL36 valsC37) Hx39 fun Hx41 =>
 K (.bool true) Hx41) → R33 valsP35 valsL36 valsC37 Hx34) →
 nilP t1 fun ta42 =>
 ldSl (ta42.add 2) Hx29 fun VP43 VL44 VC45 =>
 slcD VP43 VL44 VC45 none (some t11) 2 fun sP46 sL47 sC48 =>
 ldI .i64 ⟨b5, 0, none⟩ Hx29 fun Node49 =>
 ldI .u64 ⟨b5, 1, none⟩ Hx29 fun Serial50 =>
 nilP t1 fun ta51 =>
 ldSl (ta51.add 2) Hx29 fun VP52 VL53 VC54 =>
 slcD VP52 VL53 VC54 (some t11) none 2 fun sP55 sL56 sC57 =>
 (evW PR (Builtin.append_ #[ty_Sapi_ID, ty_Sapi_ID] ty_Sapi_ID #[(.slice none 0 0), (.slice sP46 sL47 sC48)]) Hx29 fun v58 Hx59 =>
 asSl v58 fun tP60 tL61 tC62 =>
 (ldSl (ta51.add 2) Hx59 fun VP63 VL64 VC65 =>
 ((.slice VP63 VL64 VC65) : Value) = (.slice VP52 VL53 VC54)) ∧
 (ldI .i64 ⟨b5, 0, none⟩ Hx59 fun Node66 =>
 ldI .u64 ⟨b5, 1, none⟩ Hx59 fun Serial67 =>
 ((.agg #[(.int .i64 Node66), (.int .u64 Serial67)]) : Value) = (.agg #[(.int .i64 Node49), (.int .u64 Serial50)])) ∧
 newB (.cells #[(.int .i64 Node49), (.int .u64 Serial50)] ty_api_ID) Hx59 fun b68 Hx69 =>
 (ldSl (ta51.add 2) Hx69 fun VP70 VL71 VC72 =>
 ((.slice VP70 VL71 VC72) : Value) = (.slice VP52 VL53 VC54)) ∧
 evW PR (Builtin.append_ #[ty_Sapi_ID, ty_Sapi_ID] ty_Sapi_ID #[(.slice tP60 tL61 tC62), (.slice (some ⟨b68, 0, none⟩) 1 1)]) Hx69 fun v73 Hx74 =>
 asSl v73 fun tP75 tL76 tC77 =>
 (ldSl (ta51.add 2) Hx74 fun VP78 VL79 VC80 =>
 ((.slice VP78 VL79 VC80) : Value) = (.slice VP52 VL53 VC54)) ∧
 evW PR (Builtin.append_ #[ty_Sapi_ID, ty_Sapi_ID] ty_Sapi_ID #[(.slice tP75 tL76 tC77), (.slice sP55 sL56 sC57)]) Hx74 fun v81 Hx82 =>
 asSl v81 fun tP83 tL84 tC85 =>
 R33 tP83 tL84 tC85 Hx82) ∧
 (newB (.cells #[(.int .i64 Node49), (.int .u64 Serial50)] ty_api_ID) Hx29 fun b86 Hx87 =>
 (ldSl (ta51.add 2) Hx87 fun VP88 VL89 VC90 =>
 ((.slice VP88 VL89 VC90) : Value) = (.slice VP52 VL53 VC54)) ∧
 (ldSl (ta42.add 2) Hx87 fun VP91 VL92 VC93 =>
 ((.slice VP91 VL92 VC93) : Value) = (.slice VP43 VL44 VC45)) ∧
 evW PR (Builtin.append_ #[ty_Sapi_ID, ty_Sapi_ID] ty_Sapi_ID #[(.slice none 0 0), (.slice sP46 sL47 sC48)]) Hx87 fun v94 Hx95 =>
 asSl v94 fun tP96 tL97 tC98 =>
 (ldSl (ta51.add 2) Hx95 fun VP99 VL100 VC101 =>
 ((.slice VP99 VL100 VC101) : Value) = (.slice VP52 VL53 VC54)) ∧
 evW PR (Builtin.append_ #[ty_Sapi_ID, ty_Sapi_ID] ty_Sapi_ID #[(.slice tP96 tL97 tC98), (.slice (some ⟨b86, 0, none⟩) 1 1)]) Hx95 fun v102 Hx103 =>
 asSl v102 fun tP104 tL105 tC106 =>
 (ldSl (ta51.add 2) Hx103 fun VP107 VL108 VC109 =>
 ((.slice VP107 VL108 VC109) : Value) = (.slice VP52 VL53 VC54)) ∧
 evW PR (Builtin.append_ #[ty_Sapi_ID, ty_Sapi_ID] ty_Sapi_ID #[(.slice tP104 tL105 tC106), (.slice sP55 sL56 sC57)]) Hx103 fun v110 Hx111 =>
 asSl v110 fun tP112 tL113 tC114 =>
 R33 tP112 tL113 tC114 Hx111)) → R28 keysP30 keysL31 keysC32 Hx29) →
 nilP t1 fun ta115 =>
 ldSl (ta115.add 1) Hx8 fun KP116 KL117 KC118 =>
 slcD KP116 KL117 KC118 none (some t11) 1 fun sP119 sL120 sC121 =>
 nilP t1 fun ta122 =>
 ldSl (ta122.add 1) Hx8 fun KP123 KL124 KC125 =>
 slcD KP123 KL124 KC125 (some t11) none 1 fun sP126 sL127 sC128 =>
 (evW PR (Builtin.append_ #[ty_Suint64, ty_Suint64] ty_Suint64 #[(.slice none 0 0), (.slice sP119 sL120 sC121)]) Hx8 fun v129 Hx130 =>
 asSl v129 fun tP131 tL132 tC133 =>
 (ldSl (ta122.add 1) Hx130 fun KP134 KL135 KC136 =>
 ((.slice KP134 KL135 KC136) : Value) = (.slice KP123 KL124 KC125)) ∧
 newB (.cells #[(.int .u64 k2)] ty_uint64) Hx130 fun b137 Hx138 =>
 (ldSl (ta122.add 1) Hx138 fun KP139 KL140 KC141 =>
 ((.slice KP139 KL140 KC141) : Value) = (.slice KP123 KL124 KC125)) ∧
 evW PR (Builtin.append_ #[ty_Suint64, ty_Suint64] ty_Suint64 #[(.slice tP131 tL132 tC133), (.slice (some ⟨b137, 0, none⟩) 1 1)]) Hx138 fun v142 Hx143 =>
 asSl v142 fun tP144 tL145 tC146 =>
 (ldSl (ta122.add 1) Hx143 fun KP147 KL148 KC149 =>
 ((.slice KP147 KL148 KC149) : Value) = (.slice KP123 KL124 KC125)) ∧
 evW PR (Builtin.append_ #[ty_Suint64, ty_Suint64] ty_Suint64 #[(.slice tP144 tL145 tC146), (.slice sP126 sL127 sC128)]) Hx143 fun v150 Hx151 =>
 asSl v150 fun tP152 tL153 tC154 =>
 R28 tP152 tL153 tC154 Hx151) ∧
 (newB (.cells #[(.int .u64 k2)] ty_uint64) Hx8 fun b155 Hx156 =>
 (ldSl (ta122.add 1) Hx156 fun KP157 KL158 KC159 =>
 ((.slice KP157 KL158 KC159) : Value) = (.slice KP123 KL124 KC125)) ∧
 (ldSl (ta115.add 1) Hx156 fun KP160 KL161 KC162 =>
 ((.slice KP160 KL161 KC162) : Value) = (.slice KP116 KL117 KC118)) ∧
 evW PR (Builtin.append_ #[ty_Suint64, ty_Suint64] ty_Suint64 #[(.slice none 0 0), (.slice sP119 sL120 sC121)]) Hx156 fun v163 Hx164 =>
 asSl v163 fun tP165 tL166 tC167 =>
 (ldSl (ta122.add 1) Hx164 fun KP168 KL169 KC170 =>
 ((.slice KP168 KL169 KC170) : Value) = (.slice KP123 KL124 KC125)) ∧
 evW PR (Builtin.append_ #[ty_Suint64, ty_Suint64] ty_Suint64 #[(.slice tP165 tL166 tC167), (.slice (some ⟨b155, 0, none⟩) 1 1)]) Hx164 fun v171 Hx172 =>
 asSl v171 fun tP173 tL174 tC175 =>
 (ldSl (ta122.add 1) Hx172 fun KP176 KL177 KC178 =>
 ((.slice KP176 KL177 KC178) : Value) = (.slice KP123 KL124 KC125)) ∧
 evW PR (Builtin.append_ #[ty_Suint64, ty_Suint64] ty_Suint64 #[(.slice tP173 tL174 tC175), (.slice sP126 sL127 sC128)]) Hx172 fun v179 Hx180 =>
 asSl v179 fun tP181 tL182 tC183 =>
 R28 tP181 tL182 tC183 Hx180)))
theorem E_ref4_IDTable_Put (t1 : Option Addr) (k2 : Int) (vNode3 : Int) (vSerial4 : Int) (H : Hp) (K : Value → Hp → Prop) : B_ref4_IDTable_Put t1 k2 vNode3 vSerial4 H K = denF Tryz.prog Tryz.f160 (.seq none .n (.seq none .n (.seq none .n (.seq none .n (.seq none .n (.seq none .n (.seq (some ⟨[(9, .sl)], [0, 5, 7, 10]⟩) .n (.seq (some ⟨[(10, .sl)], [0, 9]⟩) .n .n)))))))) [(.pointer t1), (.int .u64 k2), (.agg #[(.int .i64 vNode3), (.int .u64 vSerial4)])] H K := by kernel_rfl
theorem den_ref4_IDTable_Put {t1 : Option Addr} {k2 : Int} {vNode3 : Int} {vSerial4 : Int} {H : Hp} {K : Value → Hp → Prop} (h : B_ref4_IDTable_Put t1 k2 vNode3 vSerial4 H K) : hcall PR f_ref4_IDTable_Put ⟨[(.pointer t1), (.int .u64 k2), (.agg #[(.int .i64 vNode3), (.int .u64 vSerial4)])]⟩ H K := denF_call Tryz.func160 PR_mixed (Eq.mp (E_ref4_IDTable_Put t1 k2 vNode3 vSerial4 H K) h)

def B_ref4_IDTable_place (t1 : Option Addr) (k2 : Int) (H : Hp) (K : Value → Hp → Prop) : Prop :=
 ∃ (I3 : Int → Hp → Prop) (m4 : Int → Hp → Nat), I3 0 H ∧ ∀ i6 : Int, ∀ Hx5 : Hp, I3 i6 Hx5 →
 nilP t1 fun ta7 =>
 ldSl (ta7.add 1) Hx5 fun KP8 KL9 KC10 =>
 (bif (decide ((i6 : Int) < (KL9 : Int))) then
 nilP t1 fun ta11 =>
 ldSl (ta11.add 1) Hx5 fun KP12 KL13 KC14 =>
 idxA KP12 KL13 i6 1 fun el15 =>
 ldI .u64 el15 Hx5 fun t16 =>
 (bif (decide ((t16 : Int) ≥ k2)) then
 nilP t1 fun ta17 =>
 ldSl (ta17.add 1) Hx5 fun KP18 KL19 KC20 =>
 idxA KP18 KL19 i6 1 fun el21 =>
 ldI .u64 el21 Hx5 fun t22 =>
 K (.tuple #[(.int .i64 i6), (.bool ((t22 : Int) == k2))]) Hx5
else
 I3 (IntKind.i64.wrap (i6 + 1)) Hx5 ∧ m4 (IntKind.i64.wrap (i6 + 1)) Hx5 < m4 i6 Hx5)
else
 nilP t1 fun ta23 =>
 ldSl (ta23.add 1) Hx5 fun KP24 KL25 KC26 =>
 K (.tuple #[(.int .i64 (KL25 : Int)), (.bool false)]) Hx5)
theorem E_ref4_IDTable_place (t1 : Option Addr) (k2 : Int) (H : Hp) (K : Value → Hp → Prop) : B_ref4_IDTable_place t1 k2 H K = denF Tryz.prog Tryz.f175 (.seq none .n (.seq none (.seq none .n (.sub (.loop ⟨[(6, .int .i64)], [0, 1]⟩ .n))) .n)) [(.pointer t1), (.int .u64 k2)] H K := by kernel_rfl
theorem den_ref4_IDTable_place {t1 : Option Addr} {k2 : Int} {H : Hp} {K : Value → Hp → Prop} (h : B_ref4_IDTable_place t1 k2 H K) : hcall PR f_ref4_IDTable_place ⟨[(.pointer t1), (.int .u64 k2)]⟩ H K := denF_call Tryz.func175 PR_mixed (Eq.mp (E_ref4_IDTable_place t1 k2 H K) h)

end Go.Proofs.YtflfodcemnapeaaGreat

namespace Go.Proofs.YtflfodcemnapeaaGreat
open Go
set_option linter.unusedVariables false
set_option maxRecDepth 100000
def B_api_Key (xNode1 : Int) (xSerial2 : Int) (H : Hp) (K : Value → Hp → Prop) : Prop :=
 newB (.cells #[(.int .i64 xNode1), (.int .u64 xSerial2)] ty_api_ID) H fun b3 Hx4 =>
 ldI .i64 ⟨b3, 0, none⟩ Hx4 fun Node5 =>
 (0 : Int) ≤ 56 ∧
 ldI .u64 ⟨b3, 1, none⟩ Hx4 fun Serial6 =>
 K (.int .u64 (bitOp .or .u64 (shlI .u64 (IntKind.u64.wrap Node5) 56) Serial6)) Hx4
theorem E_api_Key (xNode1 : Int) (xSerial2 : Int) (H : Hp) (K : Value → Hp → Prop) : B_api_Key xNode1 xSerial2 H K = denF Tryz.prog Tryz.f93 .n [(.agg #[(.int .i64 xNode1), (.int .u64 xSerial2)])] H K := by kernel_rfl
theorem den_api_Key {xNode1 : Int} {xSerial2 : Int} {H : Hp} {K : Value → Hp → Prop} (h : B_api_Key xNode1 xSerial2 H K) : hcall PR f_api_Key ⟨[(.agg #[(.int .i64 xNode1), (.int .u64 xSerial2)])]⟩ H K := denF_call Tryz.func93 PR_mixed (Eq.mp (E_api_Key xNode1 xSerial2 H K) h)

end Go.Proofs.YtflfodcemnapeaaGreat

namespace Go.Proofs.YtflfodcemnapeaaGreat
set_option linter.unusedSimpArgs false
set_option linter.unusedVariables false
open Go
def markC (e : Int × (Int × Bool)) : List Value := [.int .u64 e.1, .int .i64 e.2.1, .bool e.2.2]
theorem markC_len (e : Int × (Int × Bool)) : (markC e).length = 3 := rfl
def outC (e : Id × Int) : List Value := [.int .i64 e.1.n, .int .u64 e.1.s, .int .i64 e.2]
theorem outC_len (e : Id × Int) : (outC e).length = 3 := rfl
theorem one_outC {l : List (Id × Int)} : ∀ y ∈ cel outC l, one y = true := by
 intro y hy
 unfold cel at hy
 rw [List.mem_flatten] at hy
 obtain ⟨xs, hx, hy⟩ := hy
 obtain ⟨z, _, rfl⟩ := List.mem_map.1 hx
 simp [outC] at hy
 rcases hy with rfl | rfl | rfl <;> rfl

structure RpX where
 t : List (Id × Int)
 sp : Option Addr
 sc : Nat
 mp : Option Addr
 mc : Nat
 kp : Option Addr
 kc : Nat
 vp : Option Addr
 vc : Nat
 T : Nat
def rpaintParts (qb rb : Nat) (p : Ps) (x : RpX) : List Prt :=
 [Prt.one qb (.cells #[ptrV rb, .int .i64 p.most, .slice x.sp p.stack.length x.sc, .bool p.over, .int .u64 p.turns, .slice x.mp p.marks.length x.mc, .int .i64 1048576, .slice x.kp x.t.length x.kc, .slice x.vp x.t.length x.vc] x.T (0, 0)),
  Prt.row 1 x.sp p.stack.length x.sc (p.stack.map (Value.int .u64)), Prt.row 3 x.mp p.marks.length x.mc (cel markC p.marks), Prt.row 1 x.kp x.t.length x.kc (x.t.map fun e => Value.int .u64 (keyOf e.1)), Prt.row 3 x.vp x.t.length x.vc (cel outC x.t),
  Prt.pure (p.ok ∧ keyed x.t ∧ x.t.Perm p.met)]
/-- The document's paint, as it stands. -/
def RPaint (qb rb : Nat) (p : Ps) : Prt := Prt.ex fun x => Prt.list (rpaintParts qb rb p x)

def keyV (y : Id) : Int := bitOp .or .u64 (shlI .u64 (IntKind.u64.wrap y.n) 56) y.s
theorem keyV_id {y : Id} (h : isId y) : keyV y = keyOf y := by
 unfold isId at h
 obtain ⟨n, hn⟩ : ∃ n : Nat, y.n = n := ⟨y.n.toNat, by omega⟩
 obtain ⟨k, hk⟩ : ∃ k : Nat, y.s = k := ⟨y.s.toNat, by omega⟩
 unfold keyV keyOf
 rw [hn, hk] at h ⊢
 have h56 : (2 : Int) ^ min (56 : Int).toNat IntKind.u64.bits = 72057594037927936 := by decide
 have e1 : shlI .u64 (IntKind.u64.wrap (n : Int)) 56 = (n : Int) * 72057594037927936 := by
  unfold shlI
  have w1 : IntKind.u64.wrap (n : Int) = n := wrap_u64' (by omega) (by omega)
  rw [w1, h56, wrap_u64' (by omega) (by omega)]
 rw [e1]
 have hb : IntKind.bits .u64 = 64 := rfl
 have e2 : (BitVec.ofInt 64 ((n : Int) * 72057594037927936)).toNat = n * 72057594037927936 := by
  rw [BitVec.toNat_ofInt]
  omega
 have e3 : (BitVec.ofInt 64 (k : Int)).toNat = k := by
  rw [BitVec.toNat_ofInt]
  omega
 show IntKind.u64.wrap ((BitVec.ofInt 64 ((n : Int) * 72057594037927936) ||| BitVec.ofInt 64 (k : Int)).toNat : Int) = _
 rw [BitVec.toNat_or, e2, e3]
 have e4 : n * 72057594037927936 ||| k = n * 72057594037927936 + k := by
  have := Nat.two_pow_add_eq_or_of_lt (i := 56) (b := k) (by omega) n
  rw [show (2 : Nat) ^ 56 = 72057594037927936 by decide, Nat.mul_comm] at this
  exact this.symm
 rw [e4, wrap_u64' (by omega) (by omega)]
 omega

/-- A cell of a row of records that lies at a known place. -/
theorem Rd.cel_at' {α : Type} {g : α → List Value} {k : Nat} (hg : ∀ x, (g x).length = k) {H : Hp} {p : Option Addr} {b o n i j : Nat} {l : List α} (d : α) (h : Rd H k p n (cel g l)) (hp : p = some ⟨b, o, none⟩) (hi : i < l.length) (hj : j < k) :
  hcell H ⟨b, o + i * k + j, none⟩ = (g (l.getD i d))[j]? := by
 subst hp
 obtain ⟨h1, _, h3⟩ := h
 rw [cel_len hg] at h1
 have h4 : i * k + j < l.length * k := by
  have : (i + 1) * k ≤ l.length * k := Nat.mul_le_mul_right _ hi
  rw [Nat.add_mul] at this
  omega
 have h5 := h3 (i * k + j) (by omega)
 rw [cel_get hg d hi hj, ← Nat.add_assoc] at h5
 exact h5

section
variable {H0 H : Hp} {L M : List Prt} {i j rb qb : Nat} {s : Hs} {p : Ps} {x : RpX} {K : Value → Hp → Prop}
theorem keyC {y : Id} (h : St H0 L H) (hK : ∀ H', St H0 L H' → K (.int .u64 (keyV y)) H') : hcall PR f_api_Key ⟨[.agg #[.int .i64 y.n, .int .u64 y.s]]⟩ H K := by
 apply den_api_Key
 unfold B_api_Key
 intro b hb
 have h1 := h.alloc (o := .cells #[.int .i64 y.n, .int .u64 y.s] ty_api_ID) hb
 exact ldI_of (h1.cell (i := 0) rfl rfl) ⟨by decide, ldI_of (h1.cell (i := 0) rfl rfl) (hK _ h1.less)⟩

theorem St.one_rd (h : St H0 L H) {b n k : Nat} {c : Array Value} {e : TypeId} (hi : L[i]? = some (Prt.one b (.cells c e (0, 0)))) (hs : c.size = n * k) : Rd H k (some ⟨b, 0, none⟩) n c.toList := by
 have hb := h.one hi
 exact (show Own H k (some ⟨b, 0, none⟩) n n c.toList from ⟨by simpa using hs, Nat.le_refl _, rfl, c, e, hb, by simp only [hs]; omega, fun i _ => by simp⟩).rd

theorem rpaintTakeN (h : St H0 L H) (hj : L[j]? = some (RPaint qb rb p)) : ∃ x M, St H0 (rpaintParts qb rb p x ++ M) H ∧ (p.ok ∧ keyed x.t ∧ x.t.Perm p.met) ∧ (∀ i A, L[i]? = some A → i ≠ j → M[i]? = some A) ∧ ∀ N p' x' H', St H0 (N ++ (rpaintParts qb rb p' x' ++ M)) H' → St H0 (N ++ L.set j (RPaint qb rb p')) H' := by
 obtain ⟨x, h1⟩ := h.openEx (M := rpaintParts qb rb p) hj
 refine ⟨x, _, h1, h1.fact (i := 5) rfl, fun i A hi hij => ?_, fun N p' x' H' h' => St.shutExN (A := rpaintParts qb rb p') (N := N) x' h' hj⟩
 rw [List.getElem?_set_ne (Ne.symm hij)]
 exact hi
theorem rpaint_ok (h : St H0 L H) (hj : L[j]? = some (RPaint qb rb p)) : p.ok := let ⟨_, _, _, h, _⟩ := rpaintTakeN h hj; h.1

/-! ## The table -/
theorem tPlaceC {t : List (Id × Int)} {kp : Option Addr} {kc qo : Nat} {k : Int} (h1 : hcell H ⟨qb, qo + 1, none⟩ = some (.slice kp t.length kc)) (hr : Rd H 1 kp t.length (t.map fun e => Value.int .u64 (keyOf e.1))) (hl : t.length ≤ 2000000)
  (hK : K (.tuple #[.int .i64 (tAt t k), .bool (tGet t k).isSome]) H) : hcall PR f_ref4_OutTable_place ⟨[.pointer (some ⟨qb, qo, none⟩), .int .u64 k]⟩ H K := by
 apply den_ref4_OutTable_place
 unfold B_ref4_OutTable_place
 refine ⟨fun i H' => H' = H ∧ ∃ m : Nat, i = m ∧ m ≤ t.length ∧ ∀ j e, j < m → t[j]? = some e → keyOf e.1 < k, fun i _ => (t.length - i).toNat, ⟨rfl, 0, rfl, by omega, fun j e hj => absurd hj (Nat.not_lt_zero j)⟩, ?_⟩
 rintro i H' ⟨hH, m, rfl, hm, hlt⟩
 subst hH
 simp only [Za,Zb,Zc,Zd,Zf,Zh,Zi,Zk,Zl,Zm,Zn,Zo,Zp,Zr,Zs,Zx,Zt,Zu,Zy,Zz,Zv,Zw,ZA,ZB,ZC,ZD]
 refine ldSl_of h1 ?_
 by_cases hc : (m : Int) < (t.length : Int)
 ·have hml : m < t.length := by omega
  have hme := List.getElem?_eq_getElem hml
  have hgd : t.getD (m : Int).toNat (noId, 0) = t[m] := by rw [Int.toNat_natCast, List.getD_eq_getElem?_getD, hme]; rfl
  refine bif_pos hc (ldSl_of h1 (idx1 (g := fun e : Id × Int => Value.int .u64 (keyOf e.1)) (d := (noId, 0)) hr (by omega) hc fun b o _ hcc => ?_))
  rw [hgd] at hcc
  refine ldI_of hcc ?_
  by_cases hk : keyOf t[m].1 ≥ k
  ·refine bif_pos hk (ldSl_of h1 (idx1 (g := fun e : Id × Int => Value.int .u64 (keyOf e.1)) (d := (noId, 0)) hr (by omega) hc fun b o _ hcc => ?_))
   rw [hgd] at hcc
   refine ldI_of hcc ?_
   have hat : tAt t k = m := tAt_is (by omega) hlt fun e he => by rw [hme] at he; cases he; omega
   have hg : (tGet t k).isSome = (keyOf t[m].1 == k) := by
    unfold tGet
    rw [hat, hme]
    simp only
    by_cases e : keyOf t[m].1 = k
    ·simp [e]
    ·simp [e]
   rw [hat, hg] at hK
   exact hK
  ·refine bif_neg hk ?_
   rw [wrap_i64 (by omega) (by omega)]
   refine ⟨⟨by trivial, m + 1, by omega, by omega, fun j e hj he => ?_⟩, by (try dsimp only); omega⟩
   rcases Nat.lt_succ_iff_lt_or_eq.1 hj with hj | rfl
   ·exact hlt j e hj he
   ·rw [hme] at he
    cases he
    omega
 ·obtain rfl : m = t.length := by omega
  refine bif_neg hc (ldSl_of h1 ?_)
  have hat : tAt t k = t.length := tAt_is (by omega) hlt fun e he => by rw [List.getElem?_eq_none (by omega)] at he; cases he
  have hg : tGet t k = none := by
   unfold tGet
   rw [hat, List.getElem?_eq_none (by omega)]
  rw [hat, hg] at hK
  exact hK
theorem tGetC {k : Int} (h : St H0 L H) {t : List (Id × Int)} {kp vp : Option Addr} {kc vc qo : Nat} (h1 : ∀ H', St H0 L H' → hcell H' ⟨qb, qo + 1, none⟩ = some (.slice kp t.length kc) ∧ Rd H' 1 kp t.length (t.map fun e => Value.int .u64 (keyOf e.1)) ∧ hcell H' ⟨qb, qo + 2, none⟩ = some (.slice vp t.length vc) ∧ Rd H' 3 vp t.length (cel outC t))
  (hl : t.length ≤ 2000000) (hK : ∀ H', St H0 L H' → K (.tuple #[.agg #[.int .i64 ((tGet t k).getD (noId, 0)).1.n, .int .u64 ((tGet t k).getD (noId, 0)).1.s, .int .i64 ((tGet t k).getD (noId, 0)).2], .bool (tGet t k).isSome]) H') :
  hcall PR f_ref4_OutTable_Get ⟨[.pointer (some ⟨qb, qo, none⟩), .int .u64 k]⟩ H K := by
 apply den_ref4_OutTable_Get
 unfold B_ref4_OutTable_Get
 intro b3 hb3
 have g1 := h.alloc (o := .cells #[.int .i64 0, .int .u64 0, .int .i64 0] ty_api_Out) hb3
 obtain ⟨a1, a2, a3, a4⟩ := h1 _ g1.less
 refine tPlaceC a1 a2 hl ?_
 simp only [Za,Zb,Zc,Zd,Zf,Zh,Zi,Zk,Zl,Zm,Zn,Zo,Zp,Zr,Zs,Zx,Zt,Zu,Zy,Zz,Zv,Zw,ZA,ZB,ZC,ZD]
 intro R11 hR11
 have hR11 : ∀ H', St H0 (Prt.one b3 (.cells #[.int .i64 ((tGet t k).getD (noId, 0)).1.n, .int .u64 ((tGet t k).getD (noId, 0)).1.s, .int .i64 ((tGet t k).getD (noId, 0)).2] ty_api_Out (0, 0)) :: L) H' → R11 H' := fun H' h' => by
  refine hR11 H' (ldI_of (h'.cell (i := 0) rfl rfl) (ldI_of (h'.cell (i := 0) rfl rfl) (ldI_of (h'.cell (i := 0) rfl rfl) ?_)))
  refine h'.put (i := 0) rfl (by simp) fun H1 h1 => h1.put (i := 0) rfl (by simp) fun H2 h2 => h2.put (i := 0) rfl (by simp) fun H3 h3 => ?_
  exact ldI_of (h3.cell (i := 0) rfl rfl) (ldI_of (h3.cell (i := 0) rfl rfl) (ldI_of (h3.cell (i := 0) rfl rfl) (hK H3 h3.less)))
 cases hg : tGet t k with
 | none =>
  rw [hg] at hR11
  simp only [Option.isSome_none, Zw]
  exact hR11 _ g1
 | some e =>
  rw [hg] at hR11
  simp only [Option.isSome_some, Zv]
  obtain ⟨e1, e2, e3⟩ := tGet_some hg
  have hlt := ltOfGet e1
  refine ldSl_of a3 (idxS outC_len (noId, 0) a4 (by omega) (by omega) (by omega) fun b o _ _ hc => ?_)
  have hgd : t.getD (((tAt t k : Nat) : Int)).toNat (noId, 0) = e := by rw [Int.toNat_natCast, List.getD_eq_getElem?_getD, e1]; rfl
  rw [hgd] at hc
  have c0 := hc 0 (by omega)
  have c1 := hc 1 (by omega)
  have c2 := hc 2 (by omega)
  simp only [Za,Zb,Zc,Zd,Zf,Zh,Zi,Zk,Zl,Zm,Zn,Zo,Zp,Zr,Zs,Zx,Zt,Zu,Zy,Zz,Zv,Zw,ZA,ZB,ZC,ZD]
  refine ldI_of c0 (ldI_of c1 (ldI_of c2 ?_))
  exact g1.put (i := 0) rfl (by simp) fun H1 h1 => h1.put (i := 0) rfl (by simp) fun H2 h2 => h2.put (i := 0) rfl (by simp) fun H3 h3 => hR11 H3 h3
end
end Go.Proofs.YtflfodcemnapeaaGreat

namespace Go.Proofs.YtflfodcemnapeaaGreat
set_option linter.unusedSimpArgs false
set_option linter.unusedVariables false
open Go
open Go.Shelf Go.RowKit Go.Lib Go.Sort
/-- A world that only grew. -/
theorem world_grown {w w' : World} (hr : Rest w w') (hk : Keep Nothing (hp w) (hp w')) : ∃ q os', w' = grow (w.drewN q) os' := by
 obtain ⟨r1, r2, r3, r4, r5⟩ := hr
 have hsz : w.heap.size ≤ w'.heap.size := by
  rcases Nat.lt_or_ge w'.heap.size w.heap.size with h | h
  ·have := hk.dom (w'.heap.size) (by simp [hp, h])
   simp [hp] at this
  ·exact h
 refine ⟨w'.drawn - w.drawn, w'.heap.extract w.heap.size w'.heap.size, ?_⟩
 have hheap : w'.heap = w.heap ++ w'.heap.extract w.heap.size w'.heap.size := by
  apply Array.ext_getElem?
  intro i
  by_cases hi : i < w.heap.size
  ·rw [Array.getElem?_append_left hi]
   exact hk.same i (by simp [hp, hi]) (fun h => h)
  ·rw [Array.getElem?_append_right (by omega), Array.getElem?_extract]
   by_cases h2 : i < w'.heap.size
   ·rw [if_pos (by omega)]
    congr 1
    omega
   ·rw [if_neg (by omega), Array.getElem?_eq_none (by omega)]
 cases w
 cases w'
 simp only [grow, World.drewN] at *
 subst r1 r2 r3
 rw [← hheap]
 congr 1
 omega

section
theorem swoKey {α : Type} (key : α → Int) : SWO (ltOf fun x y : α => if key x < key y then (-1 : Int) else 1) := by
 have e : ∀ x y : α, ltOf (fun x y : α => if key x < key y then (-1 : Int) else 1) x y = decide (key x < key y) := fun x y => by
  unfold ltOf
  by_cases h : key x < key y <;> simp [h]
 refine ⟨fun x => by rw [e]; simp, fun x y z h1 h2 => ?_, fun x y z h1 h2 => ?_⟩
 ·rw [e] at *; simp at *; omega
 ·rw [e] at *; simp at *; omega

theorem sortC {P : Program} {ρ : Ren} {α : Type} [Inhabited α] (Ls : SlLaysF0.n6 P ρ) {k : Nat} (hk0 : 0 < k) (aE : ∀ w, (isAgg (ρ.t 24)).run P w = .ok true w) (zE : ∀ w, (Go.sizeOf (ρ.t 24)).run P w = .ok k w) {enc : α → List Value} (hk : ∀ x, (enc x).length = k)
  (h1 : ∀ x, ∀ v ∈ enc x, v.oneCell' = true) (key : α → Int) (g : Nat) (eg : ∀ args w, (callFunc g args).run P w = .ok (.enter g args) w)
  (hcl : ∀ (x y : α) (H : Hp) (K : Value → Hp → Prop), (∀ H', Keep Nothing H H' → K (.int .i64 (if key x < key y then -1 else 1)) H') → hcall P g #[.agg (enc x).toArray, .agg (enc y).toArray] H K)
  {H0 H : Hp} {L : List Prt} {i n cap : Nat} {p : Option Addr} {l : List α} {K : Value → Hp → Prop} (h : St H0 L H) (hr : L[i]? = some (Prt.row k p n cap (cel enc l))) (hn : n < 4611686018427387904)
  (hK : ∀ l' H', l'.Perm l → l'.Pairwise (fun a b => ¬ key b < key a) → St H0 (L.set i (Prt.row k p n cap (cel enc l'))) H' → K (.tuple #[]) H') :
  hcall P (ρ.f 6) #[.slice p n cap, .func (.func g) #[] #[]] H K := by
 intro w hw
 subst hw
 have ho := h.row_own hr
 obtain ⟨hlen, hcap, hp3⟩ := ho
 rw [cel_len hk] at hlen
 have hln : l.length = n := Nat.eq_of_mul_eq_mul_right hk0 hlen
 by_cases h0 : n = 0
 ·subst h0
  obtain rfl : l = [] := List.length_eq_zero_iff.1 hln
  refine (AnyF.slices_SortFunc_none Ls p cap _ w).mono ?_
  rintro e w' ⟨rfl, rfl⟩
  refine ⟨_, rfl, Rest.refl _, hK [] _ (List.Perm.refl _) List.Pairwise.nil ?_⟩
  rw [List.set_self hr]
  exact h
 cases p with
 | none => simp only at hp3; omega
 | some a =>
  obtain ⟨blk, off, sp⟩ := a
  obtain ⟨hs, c, e1, hb, hsz, hcell⟩ := hp3
  simp only at hs hb hsz hcell
  subst hs
  have hb' : w.heap[blk]? = some (.cells c e1 (0, 0)) := hb
  have hblk : blk < w.heap.size := by
   rcases Nat.lt_or_ge blk w.heap.size with h | h
   ·exact h
   ·rw [Array.getElem?_eq_none h] at hb'; cases hb'
  have hflat : ∀ (d : List α) j, j < d.length * k → (flatK enc k d.toArray)[j]! = (cel enc d).getD j undef ∧ (cel enc d)[j]? = some ((flatK enc k d.toArray)[j]!) := fun d j hj => by
   have hq : j / k < d.length := (Nat.div_lt_iff_lt_mul hk0).2 hj
   have hm : j % k < k := Nat.mod_lt _ hk0
   have e := cel_get hk (l := d) (i := j / k) (j := j % k) default hq hm
   rw [Nat.div_add_mod'] at e
   have e2 : (flatK enc k d.toArray)[j]! = (enc (d.getD (j / k) default))[j % k]! := by
    rw [get_flatK _ _ _ _ (by simpa using hj)]
    congr 1
    rw [getElem!_pos d.toArray _ (by simpa using hq), List.getD_eq_getElem?_getD, List.getElem?_eq_getElem hq]
    simp
   have hlt : j % k < (enc (d.getD (j / k) default)).length := by rw [hk]; exact hm
   have e3 : (cel enc d)[j]? = some ((flatK enc k d.toArray)[j]!) := by
    rw [e, e2, List.getElem?_eq_getElem hlt, getElem!_pos (enc (d.getD (j / k) default)) (j % k) hlt]
   exact ⟨by rw [List.getD_eq_getElem?_getD, e3]; rfl, e3⟩
  have hH : HoldsK enc k w blk off l.toArray := by
   intro j hj
   rw [size_flatK] at hj
   have hj : j < l.length * k := by simpa using hj
   refine ⟨?_, ?_⟩
   ·have e := hcell j (by rw [← hln]; exact hj)
    rw [(hflat l j hj).2] at e
    simp only [World.cell?, hb', Option.isSome_none, Bool.false_eq_true, if_false, e, id]
   ·simp [World.frozen?, hb']
  have hcmp : CmpLays P g #[] enc k (fun x y : α => if key x < key y then (-1 : Int) else 1) blk off l.toArray.size w := by
   intro m os dk hdk x y
   refine (hcl x y (hp (sortWorldK enc k w blk off m dk os)) (fun v H' => v = .int .i64 (if key x < key y then -1 else 1) ∧ Keep Nothing (hp (sortWorldK enc k w blk off m dk os)) H') (fun H' hk => ⟨rfl, hk⟩) _ rfl).mono ?_
   rintro e w' ⟨v, he, hrest, hv, hkeep⟩
   subst hv
   exact ⟨he, world_grown hrest hkeep⟩
  have hsz' : l.toArray.size = n := by simpa using hln
  have hcon := AnyQ.slices_SortFunc Ls k aE zE enc hk h1 (fun x y : α => if key x < key y then (-1 : Int) else 1) (swoKey key) g #[] blk off cap l.toArray w eg hcmp hH hblk (by rw [hsz']; exact hn)
  rw [hsz'] at hcon
  refine hcon.mono ?_
  rintro e w' ⟨rfl, d', m, os, hperm, hsort, rfl⟩
  obtain ⟨p1, p2, p3⟩ := hperm
  have hd : d'.size = n := by rw [p1, hsz']
  have hperm : d'.toList.Perm l := by
   have e1 : d'.extract 0 n = d' := by rw [← hd]; exact Array.extract_size
   have e2 : l.toArray.extract 0 n = l.toArray := by rw [← hsz']; exact Array.extract_size
   rw [e1, e2] at p3
   simpa using p3
  have hlt : ∀ x y : α, ltOf (fun x y : α => if key x < key y then (-1 : Int) else 1) x y = decide (key x < key y) := fun x y => by
   unfold ltOf
   by_cases h : key x < key y <;> simp [h]
  have hpw : d'.toList.Pairwise fun a b => ¬ key b < key a := by
   rw [List.pairwise_iff_getElem]
   intro i j hi hj hij
   have hi' : i < d'.size := by simpa using hi
   have hj' : j < d'.size := by simpa using hj
   have := hsort i j (Nat.zero_le _) hij (by omega)
   rw [hlt, getElem!_pos d' j hj', getElem!_pos d' i hi'] at this
   simpa using this
  have hd' : d' = d'.toList.toArray := by simp
  have hdl : d'.toList.length = n := by simpa using hd
  refine ⟨_, rfl, ⟨rfl, rfl, rfl, by simp [sortWorldK, grow, putRowK, putRow, mapBlock, ahead], Nat.le_add_right _ _⟩, hK d'.toList _ hperm hpw (h.row_to hr ?_ ?_)⟩
  ·refine ⟨by rw [cel_len hk, hdl], hcap, rfl, putCells id off (flatK enc k d') c, e1, ?_, ?_, ?_⟩
   ·show ((w.heap.modify blk (onCells (putCells id off (flatK enc k d'))) ++ os)[blk]?) = _
    rw [Array.getElem?_append_left (by simpa using hblk), Array.getElem?_modify, if_pos rfl, hb']
    rfl
   ·simp only [putCells, Array.size_mapIdx]
    exact hsz
   ·intro j hj
    have hjn : j < d'.toList.length * k := by rw [hdl]; exact hj
    have hle : n * k ≤ cap * k := Nat.mul_le_mul_right _ hcap
    simp only [putCells, Array.getElem?_mapIdx]
    rw [Array.getElem?_eq_getElem (show off + j < c.size by omega)]
    simp only [Option.map_some]
    rw [if_pos ⟨by omega, by rw [size_flatK, hd]; omega⟩, Nat.add_sub_cancel_left, (hflat d'.toList j hjn).2, ← hd']
    rfl
  ·refine ⟨⟨fun b hb => ?_, fun b hb hf => ?_⟩, fun b hb => .inl hb⟩
   ·have : b < w.heap.size := by
     rcases Nat.lt_or_ge b w.heap.size with h | h
     ·exact h
     ·exact absurd (Array.getElem?_eq_none h) hb
    show ((w.heap.modify blk _ ++ os)[b]?) ≠ none
    rw [Array.getElem?_append_left (by simpa using this)]
    simp [this]
   ·have hlt : b < w.heap.size := by
     rcases Nat.lt_or_ge b w.heap.size with h | h
     ·exact h
     ·exact absurd (Array.getElem?_eq_none h) hb
    have hne : blk ≠ b := fun e => hf (blk_some.2 e)
    show ((w.heap.modify blk _ ++ os)[b]?) = w.heap[b]?
    rw [Array.getElem?_append_left (by simpa using hlt), Array.getElem?_modify, if_neg hne]
end
end Go.Proofs.YtflfodcemnapeaaGreat

namespace Go.Proofs.YtflfodcemnapeaaGreat
set_option linter.unusedSimpArgs false
set_option linter.unusedVariables false
open Go
section
variable {H0 H : Hp} {L M : List Prt} {i j rb qb : Nat} {s : Hs} {p : Ps} {x : RpX} {K : Value → Hp → Prop}
/-- A part is given up. -/
theorem St.void {A : Prt} (h : St H0 L H) (hi : L[i]? = some A) : St H0 (L.set i .nil) H := by
 obtain ⟨Fi, ha, up⟩ := h.at hi
 exact up .nil Nothing H (fun _ h => h) ((Goes.refl Fi H).less fun c h => h.elim)
/-- A new part takes an old one's place. -/
theorem St.over {A B : Prt} (h : St H0 (B :: L) H) (hi : L[i]? = some A) : St H0 (L.set i B) H := by
 have h1 := St.void (i := i + 1) h hi
 have h2 := St.shutAt (L := L.set i .nil) (i := i) h1 (set_nil_get hi)
 rwa [List.set_set] at h2

theorem rPushC {k : Int} (h : St H0 (rpaintParts qb rb p x ++ M) H) (hf : p.ok ∧ keyed x.t ∧ x.t.Perm p.met) (hK : ∀ b x' H', St H0 (rpaintParts qb rb (pPush p k) x' ++ M) H' → K (.bool b) H') :
  hcall PR f_ref4_WordStack_Push ⟨[.pointer (some ⟨qb, 1, none⟩), .int .u64 k]⟩ H K := by
 apply den_ref4_WordStack_Push
 unfold B_ref4_WordStack_Push
 simp only [Za,Zb,Zc,Zd,Zf,Zh,Zi,Zk,Zl,Zm,Zn,Zo,Zp,Zr,Zs,Zx,Zt,Zu,Zy,Zz,Zv,Zw,ZA,ZB,ZC,ZD]
 have hm := hf.1.most.2
 refine ldSl_of (h.cell (i := 0) rfl rfl) (ldI_of (h.cell (i := 0) rfl rfl) ?_)
 by_cases hfull : (p.stack.length : Int) ≥ p.most
 ·refine bif_pos hfull (h.put (i := 0) rfl (by simp) fun H' h' => ?_)
  have e : pPush p k = { p with over := true } := by unfold pPush; rw [if_pos hfull]
  refine hK false x H' ?_
  have h2 := h'.refact (i := 5) (q := (pPush p k).ok ∧ keyed x.t ∧ x.t.Perm (pPush p k).met) rfl ⟨hf.1.push, hf.2.1, by rw [pPush_met]; exact hf.2.2⟩
  rw [e] at h2 ⊢
  exact h2
 ·refine bif_neg hfull ?_
  intro b11 hb11
  have h1 := h.alloc (o := .cells #[] ty_uint64) hb11
  refine ldSl_of (h1.cell (i := 1) rfl rfl) (h1.copy (i := 0) rfl tu_ty_Suint64 tu_ty_Suint64 ti_ty_uint64 rfl (by decide) (h1.row_rd (i := 2) rfl) (one_int _) (by omega) fun p1 c1 H2 h2 => ?_)
  simp only [Za,Zb,Zc,Zd,Zf,Zh,Zi,Zk,Zl,Zm,Zn,Zo,Zp,Zr,Zs,Zx,Zt,Zu,Zy,Zz,Zv,Zw,ZA,ZB,ZC,ZD]
  refine lit_ty_Suint64 (m := 1) (c := #[.int .u64 k]) (h2.row_own (i := 0) rfl) rfl (by intro y hy; simp at hy; rw [hy]; rfl) (by omega) fun p2 c2 H3 ho hg => ?_
  simp only [Za,Zb,Zc,Zd,Zf,Zh,Zi,Zk,Zl,Zm,Zn,Zo,Zp,Zr,Zs,Zx,Zt,Zu,Zy,Zz,Zv,Zw,ZA,ZB,ZC,ZD]
  have h3 := h2.row_to (i := 0) rfl ho hg
  refine h3.put (i := 1) rfl (by simp) fun H4 h4 => ?_
  have h5 := St.over (L := _ :: _ :: _ :: _ :: _ :: _ :: M) (i := 1) h4 rfl
  have e : pPush p k = { p with stack := p.stack ++ [k] } := by unfold pPush; rw [if_neg (by omega)]
  have h6 := h5.refact (i := 5) (q := (pPush p k).ok ∧ keyed x.t ∧ x.t.Perm (pPush p k).met) rfl ⟨hf.1.push, hf.2.1, by rw [pPush_met]; exact hf.2.2⟩
  refine hK true { x with sp := p2, sc := c2 } H4 ?_
  rw [e] at h6 ⊢
  rw [show (p.stack.map (Value.int .u64)) ++ (#[Value.int .u64 k] : Array Value).toList = (p.stack ++ [k]).map (Value.int .u64) by simp, show p.stack.length + 1 = (p.stack ++ [k]).length by simp] at h6
  exact h6
theorem rPopC (h : St H0 (rpaintParts qb rb p x ++ M) H) (hf : p.ok ∧ keyed x.t ∧ x.t.Perm p.met) (hK : ∀ H', St H0 (rpaintParts qb rb (pPop p).2 x ++ M) H' → K (.tuple #[.int .u64 (pPop p).1.1, .bool (pPop p).1.2]) H') :
  hcall PR f_ref4_WordStack_Pop ⟨[.pointer (some ⟨qb, 1, none⟩)]⟩ H K := by
 apply den_ref4_WordStack_Pop
 unfold B_ref4_WordStack_Pop
 simp only [Za,Zb,Zc,Zd,Zf,Zh,Zi,Zk,Zl,Zm,Zn,Zo,Zp,Zr,Zs,Zx,Zt,Zu,Zy,Zz,Zv,Zw,ZA,ZB,ZC,ZD]
 have hm := hf.1.most.2
 have hst := hf.1.stack
 refine ldSl_of (h.cell (i := 0) rfl rfl) ?_
 cases hl : p.stack.getLast? with
 | none =>
  have he := List.getLast?_eq_none_iff.1 hl
  refine bif_eq (by rw [he]; rfl) ?_
  have hK := hK H
  simp only [pPop, hl] at hK
  exact hK h
 | some k =>
  have hne : p.stack ≠ [] := fun e => by rw [e] at hl; cases hl
  have hpos : 0 < p.stack.length := List.length_pos_iff.2 hne
  refine bif_ne (by omega) (ldSl_of (h.cell (i := 0) rfl rfl) (ldSl_of (h.cell (i := 0) rfl rfl) ?_))
  have hw : IntKind.i64.wrap ((p.stack.length : Int) - 1) = ((p.stack.length - 1 : Nat) : Int) := by rw [wrap_i64 (by omega) (by omega)]; omega
  rw [hw]
  have hrow := h.row_own (i := 1) rfl
  refine idx1 (g := Value.int .u64) (l := p.stack) (d := 0) hrow.rd (by omega) (by omega) fun b1 o1 hp hc => ldI_of hc ?_
  have hk : p.stack.getD (((p.stack.length - 1 : Nat) : Int)).toNat 0 = k := by
   rw [Int.toNat_natCast, List.getD_eq_getElem?_getD, ← List.getLast?_eq_getElem?, hl]
   rfl
  rw [hk]
  refine ldSl_of (h.cell (i := 0) rfl rfl) (ldSl_of (h.cell (i := 0) rfl rfl) ?_)
  rw [hw]
  refine slc_to (by omega) (by have := hrow.2.1; omega) ?_
  rw [Int.toNat_natCast]
  have ht := hrow.take (m := p.stack.length - 1) (by omega)
  rw [Nat.mul_one, ← List.map_take, ← List.dropLast_eq_take] at ht
  have hdl : p.stack.length - 1 = p.stack.dropLast.length := by simp
  rw [hdl] at ht ⊢
  have h3 := h.row_to (i := 1) rfl ht (Goes.refl _ _)
  have hK := hK
  have hok := hf.1.pop
  simp only [pPop, hl] at hK hok
  refine h3.put (i := 0) rfl (by simp) fun H4 h4 => hK H4 ?_
  exact h4.refact (i := 5) (q := ({ p with stack := p.stack.dropLast } : Ps).ok ∧ keyed x.t ∧ x.t.Perm p.met) rfl ⟨hok, hf.2⟩

/-- Where a mark stands. -/
theorem rFindC {k : Int} (h : St H0 (rpaintParts qb rb p x ++ M) H) (hn : mnod p.marks) (hl : p.marks.length ≤ 2000000) (h0 : mlook p.marks k = none → K (.pointer none) H)
  (h1 : ∀ m v b o, p.marks[m]? = some (k, v) → mlook p.marks k = some v → x.mp = some ⟨b, o, none⟩ → K (.pointer (some ⟨b, o + m * 3, none⟩)) H) :
  hcall PR f_ref11_Paint_find ⟨[.pointer (some ⟨qb, 0, none⟩), .int .u64 k]⟩ H K := by
 apply den_ref11_Paint_find
 unfold B_ref11_Paint_find
 refine ⟨fun i H' => H' = H ∧ ∃ m : Nat, i = m ∧ m ≤ p.marks.length ∧ ∀ y e, y < m → p.marks[y]? = some e → e.1 ≠ k, fun i _ => (p.marks.length - i).toNat, ⟨rfl, 0, rfl, by omega, fun y e hy => absurd hy (Nat.not_lt_zero y)⟩, ?_⟩
 rintro i H' ⟨hH, m, rfl, hm, hno⟩
 subst hH
 simp only [Za,Zb,Zc,Zd,Zf,Zh,Zi,Zk,Zl,Zm,Zn,Zo,Zp,Zr,Zs,Zx,Zt,Zu,Zy,Zz,Zv,Zw,ZA,ZB,ZC,ZD]
 refine ldSl_of (h.cell (i := 0) rfl rfl) ?_
 by_cases hlt : (m : Int) < (p.marks.length : Int)
 ·have hml : m < p.marks.length := by omega
  have hme := List.getElem?_eq_getElem hml
  refine bif_pos hlt (ldSl_of (h.cell (i := 0) rfl rfl) (idxS markC_len (0, 0, false) (h.row_rd (i := 2) rfl) (by omega) (by omega) hlt fun b o hp _ hc => ?_))
  rw [Int.toNat_natCast] at hc ⊢
  have hgd : p.marks.getD m (0, 0, false) = p.marks[m] := by rw [List.getD_eq_getElem?_getD, hme]; rfl
  rw [hgd] at hc
  have c0 := hc 0 (by omega)
  refine ldI_of c0 ?_
  by_cases hk : p.marks[m].1 = k
  ·have hmk : p.marks[m]? = some (k, p.marks[m].2) := by rw [hme, ← hk]
   refine bif_eq hk (ldSl_of (h.cell (i := 0) rfl rfl) (idxA_of (h.row_rd (i := 2) rfl) (by omega) hlt fun b' o' hp' _ => ?_))
   obtain ⟨rfl, rfl⟩ : b = b' ∧ o = o' := by rw [hp] at hp'; simpa using hp'
   rw [Int.toNat_natCast]
   exact h1 m _ b o hmk (mlook_at hn hmk) hp
  ·refine bif_ne hk ?_
   rw [wrap_i64 (by omega) (by omega)]
   refine ⟨⟨by trivial, m + 1, by omega, by omega, fun y e hy he => ?_⟩, by (try dsimp only); omega⟩
   rcases Nat.lt_succ_iff_lt_or_eq.1 hy with hy | rfl
   ·exact hno y e hy he
   ·rw [hme] at he
    cases he
    exact hk
 ·obtain rfl : m = p.marks.length := by omega
  refine bif_neg hlt (h0 (mlook_none.2 fun e he => ?_))
  obtain ⟨y, hy, rfl⟩ := List.mem_iff_getElem.1 he
  exact hno y _ hy (List.getElem?_eq_getElem hy)

theorem tPut_len {t : List (Id × Int)} {y : Id} {r : Int} (hg : tGet t (keyOf y) = none) : (tPut t y r).length = t.length + 1 := by
 unfold tPut
 rw [hg, if_neg (by simp)]
 have := tAt_le (t := t) (k := keyOf y)
 simp only [List.length_append, List.length_take, List.length_cons, List.length_drop]
 omega

/-- What is put. -/
theorem rPutC {y : Id} {r : Int} (hy : isId y) (hr : 0 ≤ r ∧ r ≤ 40) (h : St H0 (rpaintParts qb rb p x ++ M) H) (hf : p.ok ∧ keyed x.t ∧ x.t.Perm p.met) (hl : p.met.length < 1000000)
  (hK : ∀ x' H', St H0 (rpaintParts qb rb { p with met := mput p.met y r } x' ++ M) H' → K (.bool true) H') :
  hcall PR f_ref4_OutTable_Put ⟨[.pointer (some ⟨qb, 6, none⟩), .int .u64 (keyOf y), .agg #[.int .i64 y.n, .int .u64 y.s, .int .i64 r]]⟩ H K := by
 apply den_ref4_OutTable_Put
 unfold B_ref4_OutTable_Put
 have htl : x.t.length = p.met.length := hf.2.2.length_eq
 have hf' : ({ p with met := mput p.met y r } : Ps).ok ∧ keyed (tPut x.t y r) ∧ (tPut x.t y r).Perm ({ p with met := mput p.met y r } : Ps).met :=
  ⟨hf.1.meet hr hy, tPut_keyed hf.2.1 y r, tPut_perm hf.2.1 hf.2.2 hf.1.met (fun e he => (hf.1.ids e he).1) hy r⟩
 intro b6 hb6
 have g1 := h.alloc (o := .cells #[.int .i64 y.n, .int .u64 y.s, .int .i64 r] ty_api_Out) hb6
 refine tPlaceC (qo := 6) (t := x.t) (g1.cell (i := 1) rfl rfl) (g1.row_rd (i := 4) rfl) (by omega) ?_
 simp only [Za,Zb,Zc,Zd,Zf,Zh,Zi,Zk,Zl,Zm,Zn,Zo,Zp,Zr,Zs,Zx,Zt,Zu,Zy,Zz,Zv,Zw,ZA,ZB,ZC,ZD]
 cases hg : tGet x.t (keyOf y) with
 | some e =>
  simp only [Option.isSome_some, Zv]
  obtain ⟨e1, e2, e3⟩ := tGet_some hg
  have hlt := ltOfGet e1
  refine ldSl_of (g1.cell (i := 1) rfl rfl) (ldI_of (g1.cell (i := 0) rfl rfl) (ldI_of (g1.cell (i := 0) rfl rfl) (ldI_of (g1.cell (i := 0) rfl rfl) ?_)))
  refine idxA_of (g1.row_rd (i := 5) rfl) (by omega) (by omega) fun b o hp _ => ?_
  rw [Int.toNat_natCast]
  refine g1.poke (i := 5) rfl hp (by omega) fun H2 g2 => ?_
  simp only [Za,Zb,Zc,Zd,Zf,Zh,Zi,Zk,Zl,Zm,Zn,Zo,Zp,Zr,Zs,Zx,Zt,Zu,Zy,Zz,Zv,Zw,ZA,ZB,ZC,ZD]
  rw [Nat.add_assoc]
  refine g2.poke (i := 5) rfl hp (by omega) fun H3 g3 => ?_
  rw [Nat.add_assoc]
  refine g3.poke (i := 5) rfl hp (by omega) fun H4 g4 => ?_
  have g4 := g4.less
  simp only [List.set_cons_succ, List.set_cons_zero] at g4
  rw [cel_set3 outC_len (y := (y, r)) (noId, 0) hlt rfl] at g4
  have hput : tPut x.t y r = x.t.set (tAt x.t (keyOf y)) (y, r) := by unfold tPut; rw [hg, if_pos (by rfl)]
  have g5 := g4.refact (i := 5) rfl hf'
  refine hK { x with t := tPut x.t y r } H4 ?_
  unfold rpaintParts
  have hk : (tPut x.t y r).map (fun e => Value.int .u64 (keyOf e.1)) = x.t.map fun e => Value.int .u64 (keyOf e.1) := by
   rw [hput, List.map_set]
   refine List.set_self ?_
   rw [List.getElem?_map, e1]
   simp [e2]
  have hlen : (tPut x.t y r).length = x.t.length := by rw [hput, List.length_set]
  simp only [hk, hlen]
  rw [hput]
  rw [hput] at g5
  exact g5
 | none =>
  simp only [Option.isSome_none, Zw]
  refine ldSl_of (g1.cell (i := 1) rfl rfl) (ldI_of (g1.cell (i := 1) rfl rfl) (bif_neg (by omega) ?_))
  have hlen := tPut_len (r := r) hg
  have hput : tPut x.t y r = x.t.take (tAt x.t (keyOf y)) ++ (y, r) :: x.t.drop (tAt x.t (keyOf y)) := by unfold tPut; rw [hg, if_neg (by simp)]
  have hal := tAt_le (t := x.t) (k := keyOf y)
  generalize hA : tAt x.t (keyOf y) = a at *
  have hKs : ([] ++ (x.t.map fun e => Value.int .u64 (keyOf e.1)).take (a * 1)) ++ (#[Value.int .u64 (keyOf y)] : Array Value).toList ++ (x.t.map fun e => Value.int .u64 (keyOf e.1)).drop (a * 1) = (tPut x.t y r).map fun e => Value.int .u64 (keyOf e.1) := by
   rw [hput, Nat.mul_one]
   simp
  have hVs : ([] ++ (cel outC x.t).take (a * 3)) ++ (#[Value.int .i64 y.n, .int .u64 y.s, .int .i64 r] : Array Value).toList ++ (cel outC x.t).drop (a * 3) = cel outC (tPut x.t y r) := by
   rw [hput, cel_take outC_len, cel_drop outC_len, cel_append]
   simp [cel, outC]
  have hLs : a + 1 + (x.t.length - a) = (tPut x.t y r).length := by omega
  have honeK : ∀ m : List (Id × Int), ∀ z ∈ m.map (fun e => Value.int .u64 (keyOf e.1)), one z = true := fun m z hz => by obtain ⟨_, _, rfl⟩ := List.mem_map.1 hz; rfl
  have honeV : ∀ z ∈ (#[Value.int .i64 y.n, .int .u64 y.s, .int .i64 r] : Array Value).toList, one z = true := fun z hz => by
   simp at hz
   rcases hz with rfl | rfl | rfl <;> rfl
  intro R31 hR31
  have hR31 : ∀ kp' n' kc' xs' H', n' = (tPut x.t y r).length → xs' = ((tPut x.t y r).map fun e => Value.int .u64 (keyOf e.1)) →
    St H0 (Prt.row 1 kp' n' kc' xs' :: Prt.one b6 (.cells #[.int .i64 y.n, .int .u64 y.s, .int .i64 r] ty_api_Out (0, 0)) :: (rpaintParts qb rb p x ++ M)) H' → R31 kp' n' kc' H' := fun kp' n' kc' xs' H' en ex h1 => by
   subst en ex
   refine hR31 _ _ _ H' ?_
   clear hR31
   intro R36 hR36
   have hR36 : ∀ vp' n' vc' xs' H', n' = (tPut x.t y r).length → xs' = cel outC (tPut x.t y r) →
     St H0 (Prt.row 3 vp' n' vc' xs' :: Prt.row 1 kp' (tPut x.t y r).length kc' ((tPut x.t y r).map fun e => Value.int .u64 (keyOf e.1)) :: Prt.one b6 (.cells #[.int .i64 y.n, .int .u64 y.s, .int .i64 r] ty_api_Out (0, 0)) :: (rpaintParts qb rb p x ++ M)) H' → R36 vp' n' vc' H' := fun vp' n' vc' xs' H' en ex h2 => by
    subst en ex
    refine hR36 _ _ _ H' ?_
    clear hR36
    refine h2.put (i := 3) rfl (by simp) fun H3 h3 => h3.put (i := 3) rfl (by simp) fun H4 h4 => ?_
    have h5 := St.over (L := _ :: _ :: _ :: _ :: _ :: _ :: _ :: _ :: M) (i := 6) h4 rfl
    have h6 := St.over (L := _ :: _ :: _ :: _ :: _ :: _ :: _ :: M) (i := 4) h5 rfl
    have h7 := (St.less (L := _ :: _ :: _ :: _ :: _ :: _ :: M) h6).refact (i := 5) rfl hf'
    exact hK ⟨tPut x.t y r, x.sp, x.sc, x.mp, x.mc, kp', kc', vp', vc', x.T⟩ H4 h7
   have cap1 := (h1.row_own (i := 6) rfl).2.1
   refine ldSl_of (h1.cell (i := 2) rfl rfl) (slc_to (by omega) (by omega) ?_)
   refine ldI_of (h1.cell (i := 1) rfl rfl) (ldI_of (h1.cell (i := 1) rfl rfl) (ldI_of (h1.cell (i := 1) rfl rfl) ?_))
   refine ldSl_of (h1.cell (i := 2) rfl rfl) (slc_from (by omega) (by omega) ⟨?_, ?_⟩)
   ·rw [Int.toNat_natCast]
    have q0 := h1.row (H' := _) (Own.nil 3) ((Goes.refl Nothing _).less fun c hc => absurd hc blk_none)
    refine q0.app (i := 0) rfl tu_ty_Sapi_Out tu_ty_Sapi_Out ti_ty_api_Out rfl (by decide) ((q0.row_rd (i := 7) rfl).take (m := a) hal) (fun z hz => one_outC z (List.mem_of_mem_take hz)) (by omega) fun p1 c1 H2 q1 => ?_
    rw [Nat.zero_add] at q1 ⊢
    simp only [Za,Zb,Zc,Zd,Zf,Zh,Zi,Zk,Zl,Zm,Zn,Zo,Zp,Zr,Zs,Zx,Zt,Zu,Zy,Zz,Zv,Zw,ZA,ZB,ZC,ZD]
    refine ⟨ldSl_of (q1.cell (i := 3) rfl rfl) rfl, ldI_of (q1.cell (i := 2) rfl rfl) (ldI_of (q1.cell (i := 2) rfl rfl) (ldI_of (q1.cell (i := 2) rfl rfl) rfl)), ?_⟩
    intro b73 hb73
    have q2 := q1.alloc (o := .cells #[.int .i64 y.n, .int .u64 y.s, .int .i64 r] ty_api_Out) hb73
    refine ⟨ldSl_of (q2.cell (i := 4) rfl rfl) rfl, q2.app (i := 1) rfl tu_ty_Sapi_Out tu_ty_Sapi_Out ti_ty_api_Out rfl (by decide) (rd_new (n := 1) rfl) honeV (by omega) fun p2 c2 H3 q3 => ?_⟩
    simp only [Za,Zb,Zc,Zd,Zf,Zh,Zi,Zk,Zl,Zm,Zn,Zo,Zp,Zr,Zs,Zx,Zt,Zu,Zy,Zz,Zv,Zw,ZA,ZB,ZC,ZD]
    refine ⟨ldSl_of (q3.cell (i := 4) rfl rfl) rfl, q3.app (i := 1) rfl tu_ty_Sapi_Out tu_ty_Sapi_Out ti_ty_api_Out rfl (by decide) ((q3.row_rd (i := 8) rfl).drop (l := a) (cap := x.vc) hal cap1) (fun z hz => one_outC z (List.mem_of_mem_drop hz)) (by omega) fun p3 c3 H4 q4 => ?_⟩
    simp only [Za,Zb,Zc,Zd,Zf,Zh,Zi,Zk,Zl,Zm,Zn,Zo,Zp,Zr,Zs,Zx,Zt,Zu,Zy,Zz,Zv,Zw,ZA,ZB,ZC,ZD]
    exact hR36 _ _ _ _ H4 hLs hVs q4.less
   ·rw [Int.toNat_natCast]
    intro b91 hb91
    have q0 := h1.alloc (o := .cells #[.int .i64 y.n, .int .u64 y.s, .int .i64 r] ty_api_Out) hb91
    have q0 := q0.row (H' := _) (Own.nil 3) ((Goes.refl Nothing _).less fun c hc => absurd hc blk_none)
    refine ⟨ldSl_of (q0.cell (i := 4) rfl rfl) rfl, ldSl_of (q0.cell (i := 4) rfl rfl) rfl, q0.app (i := 0) rfl tu_ty_Sapi_Out tu_ty_Sapi_Out ti_ty_api_Out rfl (by decide) ((q0.row_rd (i := 8) rfl).take (m := a) hal) (fun z hz => one_outC z (List.mem_of_mem_take hz)) (by omega) fun p1 c1 H2 q1 => ?_⟩
    rw [Nat.zero_add] at q1 ⊢
    simp only [Za,Zb,Zc,Zd,Zf,Zh,Zi,Zk,Zl,Zm,Zn,Zo,Zp,Zr,Zs,Zx,Zt,Zu,Zy,Zz,Zv,Zw,ZA,ZB,ZC,ZD]
    refine ⟨ldSl_of (q1.cell (i := 4) rfl rfl) rfl, q1.app (i := 0) rfl tu_ty_Sapi_Out tu_ty_Sapi_Out ti_ty_api_Out rfl (by decide) (q1.one_rd (i := 1) (n := 1) rfl rfl) honeV (by omega) fun p2 c2 H3 q3 => ?_⟩
    simp only [Za,Zb,Zc,Zd,Zf,Zh,Zi,Zk,Zl,Zm,Zn,Zo,Zp,Zr,Zs,Zx,Zt,Zu,Zy,Zz,Zv,Zw,ZA,ZB,ZC,ZD]
    refine ⟨ldSl_of (q3.cell (i := 4) rfl rfl) rfl, q3.app (i := 0) rfl tu_ty_Sapi_Out tu_ty_Sapi_Out ti_ty_api_Out rfl (by decide) ((q3.row_rd (i := 8) rfl).drop (l := a) (cap := x.vc) hal cap1) (fun z hz => one_outC z (List.mem_of_mem_drop hz)) (by omega) fun p3 c3 H4 q4 => ?_⟩
    simp only [Za,Zb,Zc,Zd,Zf,Zh,Zi,Zk,Zl,Zm,Zn,Zo,Zp,Zr,Zs,Zx,Zt,Zu,Zy,Zz,Zv,Zw,ZA,ZB,ZC,ZD]
    exact hR36 _ _ _ _ H4 hLs hVs (St.flip q4).less
  have cap1 := (g1.row_own (i := 4) rfl).2.1
  refine ldSl_of (g1.cell (i := 1) rfl rfl) (slc_to (by omega) (by omega) ?_)
  refine ldSl_of (g1.cell (i := 1) rfl rfl) (slc_from (by omega) (by omega) ⟨?_, ?_⟩)
  ·rw [Int.toNat_natCast]
   have q0 := g1.row (H' := _) (Own.nil 1) ((Goes.refl Nothing _).less fun c hc => absurd hc blk_none)
   refine q0.app (i := 0) rfl tu_ty_Suint64 tu_ty_Suint64 ti_ty_uint64 rfl (by decide) ((q0.row_rd (i := 5) rfl).take (m := a) hal) (fun z hz => honeK x.t z (List.mem_of_mem_take hz)) (by omega) fun p1 c1 H2 q1 => ?_
   rw [Nat.zero_add] at q1 ⊢
   simp only [Za,Zb,Zc,Zd,Zf,Zh,Zi,Zk,Zl,Zm,Zn,Zo,Zp,Zr,Zs,Zx,Zt,Zu,Zy,Zz,Zv,Zw,ZA,ZB,ZC,ZD]
   refine ⟨ldSl_of (q1.cell (i := 2) rfl rfl) rfl, ?_⟩
   intro b142 hb142
   have q2 := q1.alloc (o := .cells #[.int .u64 (keyOf y)] ty_uint64) hb142
   refine ⟨ldSl_of (q2.cell (i := 3) rfl rfl) rfl, q2.app (i := 1) rfl tu_ty_Suint64 tu_ty_Suint64 ti_ty_uint64 rfl (by decide) (rd_new (n := 1) rfl) (by intro z hz; simp at hz; rw [hz]; rfl) (by omega) fun p2 c2 H3 q3 => ?_⟩
   simp only [Za,Zb,Zc,Zd,Zf,Zh,Zi,Zk,Zl,Zm,Zn,Zo,Zp,Zr,Zs,Zx,Zt,Zu,Zy,Zz,Zv,Zw,ZA,ZB,ZC,ZD]
   refine ⟨ldSl_of (q3.cell (i := 3) rfl rfl) rfl, q3.app (i := 1) rfl tu_ty_Suint64 tu_ty_Suint64 ti_ty_uint64 rfl (by decide) ((q3.row_rd (i := 6) rfl).drop (l := a) (cap := x.kc) hal cap1) (fun z hz => honeK x.t z (List.mem_of_mem_drop hz)) (by omega) fun p3 c3 H4 q4 => ?_⟩
   simp only [Za,Zb,Zc,Zd,Zf,Zh,Zi,Zk,Zl,Zm,Zn,Zo,Zp,Zr,Zs,Zx,Zt,Zu,Zy,Zz,Zv,Zw,ZA,ZB,ZC,ZD]
   exact hR31 _ _ _ _ H4 hLs hKs q4.less
  ·rw [Int.toNat_natCast]
   intro b160 hb160
   have q0 := g1.alloc (o := .cells #[.int .u64 (keyOf y)] ty_uint64) hb160
   have q0 := q0.row (H' := _) (Own.nil 1) ((Goes.refl Nothing _).less fun c hc => absurd hc blk_none)
   refine ⟨ldSl_of (q0.cell (i := 3) rfl rfl) rfl, ldSl_of (q0.cell (i := 3) rfl rfl) rfl, q0.app (i := 0) rfl tu_ty_Suint64 tu_ty_Suint64 ti_ty_uint64 rfl (by decide) ((q0.row_rd (i := 6) rfl).take (m := a) hal) (fun z hz => honeK x.t z (List.mem_of_mem_take hz)) (by omega) fun p1 c1 H2 q1 => ?_⟩
   rw [Nat.zero_add] at q1 ⊢
   simp only [Za,Zb,Zc,Zd,Zf,Zh,Zi,Zk,Zl,Zm,Zn,Zo,Zp,Zr,Zs,Zx,Zt,Zu,Zy,Zz,Zv,Zw,ZA,ZB,ZC,ZD]
   refine ⟨ldSl_of (q1.cell (i := 3) rfl rfl) rfl, q1.app (i := 0) rfl tu_ty_Suint64 tu_ty_Suint64 ti_ty_uint64 rfl (by decide) (q1.one_rd (i := 1) (n := 1) rfl rfl) (by intro z hz; simp at hz; rw [hz]; rfl) (by omega) fun p2 c2 H3 q3 => ?_⟩
   simp only [Za,Zb,Zc,Zd,Zf,Zh,Zi,Zk,Zl,Zm,Zn,Zo,Zp,Zr,Zs,Zx,Zt,Zu,Zy,Zz,Zv,Zw,ZA,ZB,ZC,ZD]
   refine ⟨ldSl_of (q3.cell (i := 3) rfl rfl) rfl, q3.app (i := 0) rfl tu_ty_Suint64 tu_ty_Suint64 ti_ty_uint64 rfl (by decide) ((q3.row_rd (i := 6) rfl).drop (l := a) (cap := x.kc) hal cap1) (fun z hz => honeK x.t z (List.mem_of_mem_drop hz)) (by omega) fun p3 c3 H4 q4 => ?_⟩
   simp only [Za,Zb,Zc,Zd,Zf,Zh,Zi,Zk,Zl,Zm,Zn,Zo,Zp,Zr,Zs,Zx,Zt,Zu,Zy,Zz,Zv,Zw,ZA,ZB,ZC,ZD]
   exact hR31 _ _ _ _ H4 hLs hKs (St.flip q4).less
end
end Go.Proofs.YtflfodcemnapeaaGreat

namespace Go.Proofs.YtflfodcemnapeaaGreat
set_option linter.unusedSimpArgs false
set_option linter.unusedVariables false
open Go
section
variable {H0 H : Hp} {L M : List Prt} {i j rb qb : Nat} {s : Hs} {p : Ps} {x : RpX} {K : Value → Hp → Prop}
theorem rNoneC {y : Id} (h : St H0 L H) (hK : ∀ H', St H0 L H' → K (.bool (decide (y = noId))) H') : hcall PR f_ref2_None ⟨[.agg #[.int .i64 y.n, .int .u64 y.s]]⟩ H K := by
 apply den_ref2_None
 unfold B_ref2_None
 intro b hb
 have h1 := h.alloc (o := .cells #[.int .i64 y.n, .int .u64 y.s] ty_api_ID) hb
 have hK := hK _ h1.less
 have e : (y = noId) ↔ y.n = 0 ∧ y.s = 0 := ⟨fun h => by rw [h]; exact ⟨rfl, rfl⟩, fun h => Id.ext h.1 h.2⟩
 refine ldI_of (h1.cell (i := 0) rfl rfl) ?_
 by_cases e0 : y.n = 0
 ·refine bif_eq e0 (ldI_of (h1.cell (i := 0) rfl rfl) ?_)
  rw [show decide (y = noId) = (y.s == 0) by rw [Bool.eq_iff_iff, decide_eq_true_eq, e, beq_iff_eq]; omega] at hK
  exact hK
 ·refine bif_ne e0 ?_
  rw [show decide (y = noId) = false by rw [decide_eq_false_iff_not, e]; omega] at hK
  exact hK

theorem isId_split {y : Id} : isId y ↔ ¬ y = noId ∧ okId y = true := by
 have e : (y = noId) ↔ y.n = 0 ∧ y.s = 0 := ⟨fun h => by rw [h]; exact ⟨rfl, rfl⟩, fun h => Id.ext h.1 h.2⟩
 rw [okId_iff, e]
 unfold isId
 omega

/-- A heap of the document's, whether it is known where its things lie or not. -/
def RHl (B : Prt) (rb : Nat) (s : Hs) : Prop := B = RHeap rb s ∨ ∃ z, B = Prt.list (rheapParts rb s z)
/-- It is known where things lie. -/
theorem St.fixEx {α : Type} {A : α → List Prt} (h : St H0 L H) (hi : L[i]? = some (Prt.ex fun x => Prt.list (A x))) : ∃ x, St H0 (L.set i (Prt.list (A x))) H := by
 obtain ⟨Fi, ⟨x, ha⟩, up⟩ := h.at hi
 exact ⟨x, up _ Fi H ha (Goes.refl _ _)⟩
theorem St.unfix {α : Type} {A : α → List Prt} {x : α} (h : St H0 L H) (hi : L[i]? = some (Prt.list (A x))) : St H0 (L.set i (Prt.ex fun x => Prt.list (A x))) H := by
 obtain ⟨Fi, ha, up⟩ := h.at hi
 exact up (Prt.ex fun x => Prt.list (A x)) Fi H ⟨x, ha⟩ (Goes.refl _ _)
theorem rheapOpenL {B : Prt} (h : St H0 L H) (hi : L[i]? = some B) (hB : RHl B rb s) : ∃ y N, St H0 (rheapParts rb s y ++ N) H ∧ y.ps.map (·.1) = s.obs ∧ s.ok := by
 rcases hB with rfl | ⟨z, rfl⟩
 ·obtain ⟨y, N, g, h1, h2, _⟩ := rheapTake h hi
  exact ⟨y, N, g, h1, h2⟩
 ·have g := h.open hi
  have := g.fact (i := 4) (p := z.ps.map (·.1) = s.obs ∧ s.ok) rfl
  exact ⟨z, _, g, this.1, this.2⟩
/-- The heap's own number, of both opened. -/
theorem rheapAt {A : List Prt} {B : Prt} (h : St H0 (A ++ (rpaintParts qb rb p x ++ M)) H) (hi : M[i]? = some B) (hB : RHl B rb s) : ∃ y N, St H0 (rheapParts rb s y ++ N) H ∧ y.ps.map (·.1) = s.obs ∧ s.ok :=
 rheapOpenL (i := A.length + (i + 6)) h (by rw [List.getElem?_append_right (Nat.le_add_right _ _), Nat.add_sub_cancel_left]; exact hi) hB

theorem rShadeG {B : Prt} {y : Id} {r : Int} (h : St H0 L H) (hi : L[i]? = some B) (hB : RHl B rb s) (hj : L[j]? = some (RPaint qb rb p)) (hij : i ≠ j) (hlt : p.lt 900000)
  (hK : ∀ H', St H0 (L.set j (RPaint qb rb (pShade s p y r))) H' → K (.tuple #[]) H') :
  hcall PR f_ref11_Paint_Shade ⟨[.pointer (some ⟨qb, 0, none⟩), .agg #[.int .i64 y.n, .int .u64 y.s], .int .i64 r]⟩ H K := by
 obtain ⟨x, M, g, hf, hM, back⟩ := rpaintTakeN h hj
 have hi' := hM i _ hi hij
 clear hM
 have ho := hf.1
 obtain ⟨hl1, hl2⟩ := hlt
 have htl : x.t.length = p.met.length := hf.2.2.length_eq
 apply den_ref11_Paint_Shade
 unfold B_ref11_Paint_Shade
 simp only [clampR_ref]
 intro b5 hb5
 have g1 := g.alloc (o := .cells #[.int .i64 y.n, .int .u64 y.s] ty_api_ID) hb5
 have fin : ∀ p' x' H' A, pShade s p y r = p' → St H0 (A :: (rpaintParts qb rb p' x' ++ M)) H' → K (.tuple #[]) H' := fun p' x' H' A e h' => hK H' (by rw [e]; exact back [] p' x' H' h'.less)
 refine ldI_of (g1.cell (i := 0) rfl rfl) (ldI_of (g1.cell (i := 0) rfl rfl) (rNoneC g1 fun H2 g2 => ?_))
 simp only [Za,Zb,Zc,Zd,Zf,Zh,Zi,Zk,Zl,Zm,Zn,Zo,Zp,Zr,Zs,Zx,Zt,Zu,Zy,Zz,Zv,Zw,ZA,ZB,ZC,ZD]
 by_cases e0 : y = noId
 ·exact bif_pos e0 (fin p x _ _ (by unfold pShade; rw [if_pos (by rw [isId_split]; exact fun h => h.1 e0)]) g2)
 refine bif_neg e0 (ldI_of (g2.cell (i := 0) rfl rfl) (ldI_of (g2.cell (i := 0) rfl rfl) (rID_ok g2 fun H3 g3 => ?_)))
 simp only [Za,Zb,Zc,Zd,Zf,Zh,Zi,Zk,Zl,Zm,Zn,Zo,Zp,Zr,Zs,Zx,Zt,Zu,Zy,Zz,Zv,Zw,ZA,ZB,ZC,ZD]
 cases hok : okId y
 ·simp only [Bool.not_false, Zv]
  exact fin p x _ _ (by unfold pShade; rw [if_pos (by rw [isId_split, hok]; simp)]) g3
 have hid : isId y := isId_split.2 ⟨e0, hok⟩
 simp only [Bool.not_true, Zw]
 refine ldI_of (g3.cell (i := 0) rfl rfl) (ldP_of (g3.cell (i := 1) rfl rfl) ?_)
 obtain ⟨z, N, gz, hp3, hs⟩ := rheapAt (A := [_]) g3 hi' hB
 simp only [Za,Zb,Zc,Zd,Zf,Zh,Zi,Zk,Zl,Zm,Zn,Zo,Zp,Zr,Zs,Zx,Zt,Zu,Zy,Zz,Zv,Zw,ZA,ZB,ZC,ZD]
 refine ldI_of (rheapV gz).node ?_
 clear gz N z hp3
 by_cases en : y.n = s.node
 rotate_left
 ·refine bif_neq en ?_
  intro R22 hR22
  have hR22 : ∀ c H', St H0 (Prt.one c (.cells #[.int .i64 ((tGet x.t (keyOf y)).getD (noId, 0)).1.n, .int .u64 ((tGet x.t (keyOf y)).getD (noId, 0)).1.s, .int .i64 ((tGet x.t (keyOf y)).getD (noId, 0)).2] ty_api_Out (0, 0)) ::
    Prt.one b5 (.cells #[.int .i64 y.n, .int .u64 y.s] ty_api_ID (0, 0)) :: (rpaintParts qb rb p x ++ M)) H' → R22 (some ⟨c, 0, none⟩) (tGet x.t (keyOf y)).isSome H' := fun c H' h' => by
   refine hR22 _ _ H' ?_
   clear hR22
   have hput : ∀ H4 A B, St H0 (A :: B :: (rpaintParts qb rb p x ++ M)) H4 → pShade s p y r = { p with met := mput p.met y (clampR r) } →
     hcall PR f_ref4_OutTable_Put ⟨[(.pointer (some ⟨qb, 6, none⟩)), (.int .u64 (keyOf y)), (.agg #[(.int .i64 y.n), (.int .u64 y.s), (.int .i64 (clampR r))])]⟩ H4 fun v36 Hx37 => asB v36 fun t38 => K (.tuple #[]) Hx37 := fun H4 A B h4 e => by
    have h5 := h4.pick 8 [2, 3, 4, 5, 6, 7, 0, 1] rfl rfl
    refine rPutC (M := A :: B :: M) hid clampR_is h5 hf (by omega) fun x' H5 h6 => ?_
    simp only [Za,Zb,Zc,Zd,Zf,Zh,Zi,Zk,Zl,Zm,Zn,Zo,Zp,Zr,Zs,Zx,Zt,Zu,Zy,Zz,Zv,Zw,ZA,ZB,ZC,ZD]
    have h7 := St.pick (L := _ :: _ :: _ :: _ :: _ :: _ :: _ :: _ :: M) h6 8 [6, 7, 0, 1, 2, 3, 4, 5] rfl rfl
    exact fin _ x' H5 B e (St.less h7)
   have hget := tGet_id hf.2.1 hf.2.2 ho.met (fun e he => (ho.ids e he).1) hid
   cases hl : mlook p.met y with
   | none =>
    rw [hl] at hget
    rw [hget]
    simp only [Option.map_none, Option.isSome_none, Bool.not_false, Zv]
    refine ldI_of (h'.cell (i := 1) rfl rfl) (ldI_of (h'.cell (i := 1) rfl rfl) (ldI_of (h'.cell (i := 1) rfl rfl) (ldI_of (h'.cell (i := 1) rfl rfl) (keyC h' fun H4 h4 => ?_))))
    simp only [Za,Zb,Zc,Zd,Zf,Zh,Zi,Zk,Zl,Zm,Zn,Zo,Zp,Zr,Zs,Zx,Zt,Zu,Zy,Zz,Zv,Zw,ZA,ZB,ZC,ZD]
    refine ⟨ldI_of (h4.cell (i := 1) rfl rfl) (ldI_of (h4.cell (i := 1) rfl rfl) rfl), ?_⟩
    rw [keyV_id hid]
    exact hput H4 _ _ h4 (by unfold pShade; rw [if_neg (by simpa using hid), if_pos en, hl])
   | some was =>
    rw [hl] at hget
    rw [hget] at h' ⊢
    simp only [Option.map_some, Option.isSome_some, Bool.not_true, Zw, Option.getD_some] at h' ⊢
    (try simp only [Za,Zb,Zc,Zd,Zf,Zh,Zi,Zk,Zl,Zm,Zn,Zo,Zp,Zr,Zs,Zx,Zt,Zu,Zy,Zz,Zv,Zw,ZA,ZB,ZC,ZD])
    refine ldI_of (h'.cell (i := 0) rfl rfl) ?_
    by_cases hw : was > clampR r
    ·refine bif_pos hw (ldI_of (h'.cell (i := 1) rfl rfl) (ldI_of (h'.cell (i := 1) rfl rfl) (ldI_of (h'.cell (i := 1) rfl rfl) (ldI_of (h'.cell (i := 1) rfl rfl) (keyC h' fun H4 h4 => ?_)))))
     simp only [Za,Zb,Zc,Zd,Zf,Zh,Zi,Zk,Zl,Zm,Zn,Zo,Zp,Zr,Zs,Zx,Zt,Zu,Zy,Zz,Zv,Zw,ZA,ZB,ZC,ZD]
     refine ⟨ldI_of (h4.cell (i := 1) rfl rfl) (ldI_of (h4.cell (i := 1) rfl rfl) rfl), ?_⟩
     rw [keyV_id hid]
     exact hput H4 _ _ h4 (by unfold pShade; rw [if_neg (by simpa using hid), if_pos en, hl]; simp only; rw [if_pos hw])
    ·exact bif_neg hw (fin p x _ _ (by unfold pShade; rw [if_neg (by simpa using hid), if_pos en, hl]; simp only; rw [if_neg hw]) (St.less h'))
  have hget : ∀ k H4 LL, St H0 LL H4 → (∀ H', St H0 LL H' → hcell H' ⟨qb, 7, none⟩ = some (.slice x.kp x.t.length x.kc) ∧ Rd H' 1 x.kp x.t.length (x.t.map fun e => Value.int .u64 (keyOf e.1)) ∧ hcell H' ⟨qb, 8, none⟩ = some (.slice x.vp x.t.length x.vc) ∧ Rd H' 3 x.vp x.t.length (cel outC x.t)) → k = keyOf y →
    ∀ Q : Value → Hp → Prop, (∀ H5, St H0 LL H5 → Q (.tuple #[.agg #[.int .i64 ((tGet x.t (keyOf y)).getD (noId, 0)).1.n, .int .u64 ((tGet x.t (keyOf y)).getD (noId, 0)).1.s, .int .i64 ((tGet x.t (keyOf y)).getD (noId, 0)).2], .bool (tGet x.t (keyOf y)).isSome]) H5) →
    hcall PR f_ref4_OutTable_Get ⟨[.pointer (some ⟨qb, 6, none⟩), .int .u64 k]⟩ H4 Q := fun k H4 LL h4 hfacts e Q hQ => by
   subst e
   exact tGetC (qo := 6) (t := x.t) h4 hfacts (by omega) hQ
  have set3 : ∀ b H5 LL, St H0 LL H5 → LL[0]? = some (Prt.one b (.cells #[.int .i64 0, .int .u64 0, .int .i64 0] ty_api_Out (0, 0))) → LL.drop 1 = Prt.one b5 (.cells #[.int .i64 y.n, .int .u64 y.s] ty_api_ID (0, 0)) :: (rpaintParts qb rb p x ++ M) →
    st ⟨b, 0, none⟩ (.int .i64 ((tGet x.t (keyOf y)).getD (noId, 0)).1.n) H5 fun H6 => st ⟨b, 1, none⟩ (.int .u64 ((tGet x.t (keyOf y)).getD (noId, 0)).1.s) H6 fun H7 => st ⟨b, 2, none⟩ (.int .i64 ((tGet x.t (keyOf y)).getD (noId, 0)).2) H7 fun H8 => R22 (some ⟨b, 0, none⟩) (tGet x.t (keyOf y)).isSome H8 := fun b H5 LL h5 e1 e2 => by
   cases LL with
   | nil => simp at e1
   | cons A LL =>
    simp at e1 e2
    subst e1 e2
    exact h5.put (i := 0) rfl (by simp) fun H1 h1 => h1.put (i := 0) rfl (by simp) fun H2 h2 => h2.put (i := 0) rfl (by simp) fun H3 h3 => hR22 b H3 h3
  (try simp only [Za,Zb,Zc,Zd,Zf,Zh,Zi,Zk,Zl,Zm,Zn,Zo,Zp,Zr,Zs,Zx,Zt,Zu,Zy,Zz,Zv,Zw,ZA,ZB,ZC,ZD])
  refine ldI_of (g3.cell (i := 0) rfl rfl) (ldI_of (g3.cell (i := 0) rfl rfl) ⟨?_, ?_⟩)
  ·refine keyC g3 fun H4 g4 => ?_
   simp only [Za,Zb,Zc,Zd,Zf,Zh,Zi,Zk,Zl,Zm,Zn,Zo,Zp,Zr,Zs,Zx,Zt,Zu,Zy,Zz,Zv,Zw,ZA,ZB,ZC,ZD]
   refine ⟨hget _ H4 _ g4 (fun H' h' => ⟨h'.cell (i := 1) rfl rfl, h'.row_rd (i := 4) rfl, h'.cell (i := 1) rfl rfl, h'.row_rd (i := 5) rfl⟩) (keyV_id hid) _ fun H5 g5 => ?_, ?_⟩
   ·simp only [Za,Zb,Zc,Zd,Zf,Zh,Zi,Zk,Zl,Zm,Zn,Zo,Zp,Zr,Zs,Zx,Zt,Zu,Zy,Zz,Zv,Zw,ZA,ZB,ZC,ZD]
    intro b71 hb71
    exact set3 b71 _ _ (g5.alloc (o := .cells #[.int .i64 0, .int .u64 0, .int .i64 0] ty_api_Out) hb71) rfl rfl
   ·intro b76 hb76
    have g6 := g4.alloc (o := .cells #[.int .i64 0, .int .u64 0, .int .i64 0] ty_api_Out) hb76
    refine hget _ _ _ g6 (fun H' h' => ⟨h'.cell (i := 2) rfl rfl, h'.row_rd (i := 5) rfl, h'.cell (i := 2) rfl rfl, h'.row_rd (i := 6) rfl⟩) (keyV_id hid) _ fun H5 g8 => ?_
    simp only [Za,Zb,Zc,Zd,Zf,Zh,Zi,Zk,Zl,Zm,Zn,Zo,Zp,Zr,Zs,Zx,Zt,Zu,Zy,Zz,Zv,Zw,ZA,ZB,ZC,ZD]
    exact set3 b76 _ _ g8 rfl rfl
  ·intro b92 hb92
   have g6 := g3.alloc (o := .cells #[.int .i64 0, .int .u64 0, .int .i64 0] ty_api_Out) hb92
   refine ⟨ldI_of (g6.cell (i := 1) rfl rfl) (ldI_of (g6.cell (i := 1) rfl rfl) rfl), keyC g6 fun H7 g7 => ?_⟩
   simp only [Za,Zb,Zc,Zd,Zf,Zh,Zi,Zk,Zl,Zm,Zn,Zo,Zp,Zr,Zs,Zx,Zt,Zu,Zy,Zz,Zv,Zw,ZA,ZB,ZC,ZD]
   refine hget _ _ _ g7 (fun H' h' => ⟨h'.cell (i := 2) rfl rfl, h'.row_rd (i := 5) rfl, h'.cell (i := 2) rfl rfl, h'.row_rd (i := 6) rfl⟩) (keyV_id hid) _ fun H5 g8 => ?_
   simp only [Za,Zb,Zc,Zd,Zf,Zh,Zi,Zk,Zl,Zm,Zn,Zo,Zp,Zr,Zs,Zx,Zt,Zu,Zy,Zz,Zv,Zw,ZA,ZB,ZC,ZD]
   exact set3 b92 _ _ g8 rfl rfl
 have en' : ¬ y.n ≠ s.node := by simpa using en
 refine bif_neqf en (ldP_of (g3.cell (i := 1) rfl rfl) (ldI_of (g3.cell (i := 0) rfl rfl) ?_))
 obtain ⟨z, N, gz, hp3, hs⟩ := rheapAt (A := [_]) g3 hi' hB
 have hfind : ∀ Q : Value → Hp → Prop, (mlook p.marks y.s = none → Q (.pointer none) H3) → (∀ m v b o, p.marks[m]? = some (y.s, v) → mlook p.marks y.s = some v → x.mp = some ⟨b, o, none⟩ → Q (.pointer (some ⟨b, o + m * 3, none⟩)) H3) →
   hcall PR f_ref11_Paint_find ⟨[.pointer (some ⟨qb, 0, none⟩), .int .u64 y.s]⟩ H3 Q := fun Q q0 q1 =>
  rFindC (M := _ :: M) (g3.pick 7 [1, 2, 3, 4, 5, 6, 0] rfl rfl) ho.marks (by omega) q0 q1
 refine rGetC gz hp3 hs (fun hg => ?_) fun jj o bo hjj hk hg hjo => ?_
 ·simp only [Za,Zb,Zc,Zd,Zf,Zh,Zi,Zk,Zl,Zm,Zn,Zo,Zp,Zr,Zs,Zx,Zt,Zu,Zy,Zz,Zv,Zw,ZA,ZB,ZC,ZD]
  exact fin p x _ _ (by unfold pShade; rw [if_neg (by simpa using hid), if_neg en', if_pos hg]) g3
 have hne : ¬ hGet s y.s = none := by rw [hg]; simp
 simp only [Za,Zb,Zc,Zd,Zf,Zh,Zi,Zk,Zl,Zm,Zn,Zo,Zp,Zr,Zs,Zx,Zt,Zu,Zy,Zz,Zv,Zw,ZA,ZB,ZC,ZD]
 have hpush : ∀ p1 x1 H5 A, St H0 (A :: (rpaintParts qb rb p1 x1 ++ M)) H5 → (p1.ok ∧ keyed x1.t ∧ x1.t.Perm p1.met) → pShade s p y r = pPush p1 y.s →
   hcall PR f_ref4_WordStack_Push ⟨[(.pointer (some ⟨qb, 1, none⟩)), (.int .u64 y.s)]⟩ H5 fun v142 Hx143 => asB v142 fun t144 => K (.tuple #[]) Hx143 := fun p1 x1 H5 A h5 hf1 e => by
  refine rPushC (M := A :: M) (h5.pick 7 [1, 2, 3, 4, 5, 6, 0] rfl rfl) hf1 fun bb x' H6 h6 => ?_
  simp only [Za,Zb,Zc,Zd,Zf,Zh,Zi,Zk,Zl,Zm,Zn,Zo,Zp,Zr,Zs,Zx,Zt,Zu,Zy,Zz,Zv,Zw,ZA,ZB,ZC,ZD]
  exact fin _ x' H6 A e (St.pick (L := _ :: _ :: _ :: _ :: _ :: _ :: _ :: M) h6 7 [6, 0, 1, 2, 3, 4, 5] rfl rfl)
 refine ldI_of (g3.cell (i := 0) rfl rfl) (hfind _ (fun hl => ?_) fun m v b o hm hl hmp => ?_)
 ·simp only [Za,Zb,Zc,Zd,Zf,Zh,Zi,Zk,Zl,Zm,Zn,Zo,Zp,Zr,Zs,Zx,Zt,Zu,Zy,Zz,Zv,Zw,ZA,ZB,ZC,ZD]
  have ok1 := ho.mark (k := y.s) (clampR_is (r := r)) (g := true)
  refine ldSl_of (g3.cell (i := 1) rfl rfl) (ldI_of (g3.cell (i := 0) rfl rfl) ?_)
  intro b128 hb128
  have g4 := g3.alloc (o := .cells #[.int .u64 y.s, .int .i64 (clampR r), .bool true] ty_ref11_mark) hb128
  refine ⟨ldSl_of (g4.cell (i := 2) rfl rfl) rfl, g4.app (i := 4) rfl tu_ty_Smooringref11_mark tu_ty_Smooringref11_mark ti_ty_ref11_mark rfl (by decide) (rd_new (n := 1) rfl) (by intro w hw; simp at hw; rcases hw with rfl | rfl | rfl <;> rfl) (by omega) fun p1 c1 H5 g5 => ?_⟩
  simp only [Za,Zb,Zc,Zd,Zf,Zh,Zi,Zk,Zl,Zm,Zn,Zo,Zp,Zr,Zs,Zx,Zt,Zu,Zy,Zz,Zv,Zw,ZA,ZB,ZC,ZD]
  refine g5.put (i := 2) rfl (by simp) fun H6 g6 => ldI_of (g6.cell (i := 1) rfl rfl) ?_
  have e1 : mput p.marks y.s (clampR r, true) = p.marks ++ [(y.s, (clampR r, true))] := by
   unfold mput
   rw [mhas_look, hl, if_neg (by simp)]
  have g7 := g6.less
  have g8 := g7.refact (i := 6) (q := ({ p with marks := mput p.marks y.s (clampR r, true) } : Ps).ok ∧ keyed x.t ∧ x.t.Perm ({ p with marks := mput p.marks y.s (clampR r, true) } : Ps).met) rfl ⟨ok1, hf.2⟩
  refine hpush { p with marks := mput p.marks y.s (clampR r, true) } { x with mp := p1, mc := c1 } H6 (Prt.one b5 (.cells #[.int .i64 y.n, .int .u64 y.s] ty_api_ID (0, 0))) ?_ ⟨ok1, hf.2⟩ (by unfold pShade; rw [if_neg (by simpa using hid), if_neg en', if_neg hne, hl])
  have e2 : cel markC p.marks ++ (#[Value.int .u64 y.s, .int .i64 (clampR r), .bool true] : Array Value).toList = cel markC (mput p.marks y.s (clampR r, true)) := by
   rw [e1, cel_append]
   simp [cel, markC]
  have e3 : p.marks.length + 1 = (mput p.marks y.s (clampR r, true)).length := by rw [e1]; simp
  rw [e2, e3] at g8
  exact g8
 ·simp only [Za,Zb,Zc,Zd,Zf,Zh,Zi,Zk,Zl,Zm,Zn,Zo,Zp,Zr,Zs,Zx,Zt,Zu,Zy,Zz,Zv,Zw,ZA,ZB,ZC,ZD]
  obtain ⟨w1, w2⟩ := v
  have hml := ltOfGet hm
  have hrd := g3.row_rd (i := 3) rfl
  have hcel : ∀ j, j < 3 → hcell H3 ⟨b, o + m * 3 + j, none⟩ = (markC (y.s, (w1, w2)))[j]? := fun j hj => by
   have := hrd.cel_at' markC_len (0, 0, false) hmp hml hj
   rw [List.getD_eq_getElem?_getD, hm] at this
   exact this
  refine ldI_of (hcel 1 (by omega)) ?_
  have hsh : pShade s p y r = if w1 ≤ clampR r then p else if w2 then { p with marks := mput p.marks y.s (clampR r, true) } else pPush { p with marks := mput p.marks y.s (clampR r, true) } y.s := by
   unfold pShade
   rw [if_neg (by simpa using hid), if_neg en', if_neg hne, hl]
  by_cases hw : w1 > clampR r
  rotate_left
  ·exact bif_neg hw (fin p x _ _ (by rw [hsh, if_pos (by omega)]) g3)
  have ok1 := ho.mark (k := y.s) (clampR_is (r := r)) (g := true)
  refine bif_pos hw (ldB_of (hcel 2 (by omega)) ?_)
  rw [Nat.add_assoc]
  refine g3.poke (i := 3) rfl hmp (by omega) fun H4 g4 => ?_
  rw [Nat.add_assoc]
  refine g4.poke (i := 3) rfl hmp (by omega) fun H5 g5 => ?_
  have g6 := g5.refact (i := 6) (q := ({ p with marks := mput p.marks y.s (clampR r, true) } : Ps).ok ∧ keyed x.t ∧ x.t.Perm ({ p with marks := mput p.marks y.s (clampR r, true) } : Ps).met) rfl ⟨ok1, hf.2⟩
  have e1 : mput p.marks y.s (clampR r, true) = p.marks.set m (y.s, (clampR r, true)) := mput_set ho.marks hm
  have e2 : ((cel markC p.marks).set (m * 3 + 1) (.int .i64 (clampR r))).set (m * 3 + 2) (.bool true) = cel markC (mput p.marks y.s (clampR r, true)) := by
   rw [e1, ← cel_set3 markC_len (a := .int .u64 y.s) (b := .int .i64 (clampR r)) (c := .bool true) (0, 0, false) hml rfl]
   congr 1
   congr 1
   symm
   refine List.set_self ?_
   have := cel_get markC_len (l := p.marks) (i := m) (j := 0) (0, 0, false) hml (by omega)
   rw [List.getD_eq_getElem?_getD, hm] at this
   exact this
  have e3 : p.marks.length = (mput p.marks y.s (clampR r, true)).length := by rw [e1]; simp
  simp only [List.set_cons_succ, List.set_cons_zero, rpaintParts, List.cons_append] at g6
  rw [e2] at g6
  have g7 : St H0 (Prt.one b5 (.cells #[.int .i64 y.n, .int .u64 y.s] ty_api_ID (0, 0)) :: (rpaintParts qb rb { p with marks := mput p.marks y.s (clampR r, true) } x ++ M)) H5 := by
   unfold rpaintParts
   simp only [← e3]
   exact g6
  cases w2
  ·simp only [Bool.not_false, Zv]
   refine ldI_of (g7.cell (i := 0) rfl rfl) (hpush _ x H5 _ g7 ⟨ok1, hf.2⟩ (by rw [hsh, if_neg (by omega), if_neg (by decide)]))
  ·simp only [Bool.not_true, Zw]
   exact fin _ x H5 _ (by rw [hsh, if_neg (by omega), if_pos rfl]) g7
theorem rShadeC {y : Id} {r : Int} (h : St H0 L H) (hi : L[i]? = some (RHeap rb s)) (hj : L[j]? = some (RPaint qb rb p)) (hij : i ≠ j) (hlt : p.lt 900000)
  (hK : ∀ H', St H0 (L.set j (RPaint qb rb (pShade s p y r))) H' → K (.tuple #[]) H') :
  hcall PR f_ref11_Paint_Shade ⟨[.pointer (some ⟨qb, 0, none⟩), .agg #[.int .i64 y.n, .int .u64 y.s], .int .i64 r]⟩ H K := rShadeG h hi (.inl rfl) hj hij hlt hK
end
end Go.Proofs.YtflfodcemnapeaaGreat

namespace Go.Proofs.YtflfodcemnapeaaGreat
set_option linter.unusedSimpArgs false
set_option linter.unusedVariables false
open Go
section
variable {H0 H : Hp} {L M : List Prt} {i j hb pb : Nat} {s : Hs} {p : Ps} {x : PtX} {K : Value → Hp → Prop}
theorem isId_iff {y : Id} : isId y ↔ 1 ≤ y.n ∧ y.n ≤ 64 ∧ 1 ≤ y.s ∧ y.s ≤ 72057594037927935 := Iff.rfl

theorem pShadeC {y : Id} {r : Int} (h : St H0 L H) (hi : L[i]? = some (HeapP hb s)) (hj : L[j]? = some (PaintP pb hb p)) (hij : i ≠ j)
  (hK : ∀ H', St H0 (L.set j (PaintP pb hb (pShade s p y r))) H' → K (.tuple #[]) H') :
  hcall PR f_paint_Paint_Shade ⟨[.pointer (some ⟨pb, 0, none⟩), .agg #[.int .i64 y.n, .int .u64 y.s], .int .i64 r]⟩ H K := by
 obtain ⟨x, M, g, ho, hM, back⟩ := paintTake h hj
 have hi' := hM i _ hi hij
 clear hM
 apply den_paint_Paint_Shade
 unfold B_paint_Paint_Shade
 intro b5 hb5
 have g1 := g.alloc (o := .cells #[.int .i64 y.n, .int .u64 y.s] ty_api_ID) hb5
 have c0 := g1.cell (i := 0) (o := 0) rfl rfl
 have c1 := g1.cell (i := 0) (o := 1) rfl rfl
 have fin : ∀ p' x' H' A, pShade s p y r = p' → St H0 (A :: (paintParts pb hb p' x' ++ M)) H' → K (.tuple #[]) H' := fun p' x' H' A e h' => hK H' (by rw [e]; exact back p' x' H' h'.less)
 have hII := isId_iff (y := y)
 refine ldI_of c0 ?_
 by_cases e1 : y.n < 1
 ·exact bif_pos e1 (fin p x _ _ (by unfold pShade; rw [if_pos (by rw [hII]; omega)]) g1)
 refine bif_neg e1 (ldI_of c0 ?_)
 by_cases e2 : y.n > 64
 ·exact bif_pos e2 (fin p x _ _ (by unfold pShade; rw [if_pos (by rw [hII]; omega)]) g1)
 refine bif_neg e2 (ldI_of c1 ?_)
 by_cases e3 : y.s < 1
 ·exact bif_pos e3 (fin p x _ _ (by unfold pShade; rw [if_pos (by rw [hII]; omega)]) g1)
 refine bif_neg e3 (ldI_of c1 ?_)
 by_cases e4 : y.s > 72057594037927935
 ·exact bif_pos e4 (fin p x _ _ (by unfold pShade; rw [if_pos (by rw [hII]; omega)]) g1)
 refine bif_neg e4 (ldI_of c0 ?_)
 have hid : isId y := by rw [hII]; omega
 simp only [Za,Zb,Zc,Zd,Zf,Zh,Zi,Zk,Zl,Zm,Zn,Zo,Zp,Zr,Zs,Zx,Zt,Zu,Zy,Zz,Zv,Zw,ZA,ZB,ZC,ZD]
 refine ldP_of (g1.cell (i := 1) rfl rfl) (hNode g1 (i := i + 7) hi' ?_)
 simp only [Za,Zb,Zc,Zd,Zf,Zh,Zi,Zk,Zl,Zm,Zn,Zo,Zp,Zr,Zs,Zx,Zt,Zu,Zy,Zz,Zv,Zw,ZA,ZB,ZC,ZD]
 refine ⟨ldI_of c0 rfl, ?_⟩
 by_cases en : y.n = s.node
 rotate_left
 ·refine bif_neq en (ldM_of (g1.cell (i := 1) rfl rfl) (ldI_of c0 (ldI_of c1 (g1.look (i := 3) (l := p.met) (enc := Id.val) (f := Value.int .i64) rfl idKey me_map me_zero ho.met y true ?_))))
  rw [if_pos rfl]
  simp only [Za,Zb,Zc,Zd,Zf,Zh,Zi,Zk,Zl,Zm,Zn,Zo,Zp,Zr,Zs,Zx,Zt,Zu,Zy,Zz,Zv,Zw,ZA,ZB,ZC,ZD]
  cases hl : mlook p.met y with
  | none =>
   simp only [Option.map_none, Option.getD_none, Option.isSome_none, Bool.not_false, Zv]
   refine ldM_of (g1.cell (i := 1) rfl rfl) (ldI_of c0 (ldI_of c1 (g1.mupd (i := 3) (l := p.met) (enc := Id.val) (f := Value.int .i64) rfl idKey me_map ho.met y (clampR r) rfl fun H2 g2 => ?_)))
   have g3 := g2.refact (i := 6) (q := ({ p with met := mput p.met y (clampR r) } : Ps).ok) rfl (ho.meet clampR_is hid)
   exact fin { p with met := mput p.met y (clampR r) } x _ _ (by unfold pShade; rw [if_neg (by simpa using hid), if_pos en, hl]) g3
  | some was =>
   simp only [Option.map_some, Option.getD_some, Option.isSome_some, Bool.not_true, Zw]
   by_cases hw : clampR r < was
   ·refine bif_pos hw (ldM_of (g1.cell (i := 1) rfl rfl) (ldI_of c0 (ldI_of c1 (g1.mupd (i := 3) (l := p.met) (enc := Id.val) (f := Value.int .i64) rfl idKey me_map ho.met y (clampR r) rfl fun H2 g2 => ?_))))
    have g3 := g2.refact (i := 6) (q := ({ p with met := mput p.met y (clampR r) } : Ps).ok) rfl (ho.meet clampR_is hid)
    exact fin { p with met := mput p.met y (clampR r) } x _ _ (by unfold pShade; rw [if_neg (by simpa using hid), if_pos en, hl]; simp only; rw [if_pos hw]) g3
   ·exact bif_neg hw (fin p x _ _ (by unfold pShade; rw [if_neg (by simpa using hid), if_pos en, hl]; simp only; rw [if_neg hw]) g1)
 have en' : ¬ y.n ≠ s.node := by simpa using en
 refine bif_neqf en (ldM_of (g1.cell (i := 1) rfl rfl) (ldI_of c1 (g1.look (i := 2) (l := p.marks) (enc := Value.int .u64) (f := markV) rfl hp_key mm_map mm_zero ho.marks y.s true ?_)))
 have hz : (((mlook p.marks y.s).map markV).getD (.agg #[.int .i64 0, .bool false])) = .agg #[.int .i64 ((mlook p.marks y.s).getD (0, false)).1, .bool ((mlook p.marks y.s).getD (0, false)).2] := by cases mlook p.marks y.s <;> rfl
 rw [if_pos rfl, hz]
 simp only [Za,Zb,Zc,Zd,Zf,Zh,Zi,Zk,Zl,Zm,Zn,Zo,Zp,Zr,Zs,Zx,Zt,Zu,Zy,Zz,Zv,Zw,ZA,ZB,ZC,ZD]
 intro b50 hb50
 have g2 := g1.alloc (o := .cells #[.int .i64 0, .bool false] ty_paint_mark) hb50
 have d1 := g2.cell (i := 1) (o := 1) rfl rfl
 refine ⟨?_, ldI_of d1 rfl, ldM_of (g2.cell (i := 2) rfl rfl) rfl, ?_⟩
 ·refine g2.look (i := 3) (l := p.marks) (enc := Value.int .u64) (f := markV) rfl hp_key mm_map mm_zero ho.marks y.s true ?_
  rw [if_pos rfl, hz]
  simp only [Za,Zb,Zc,Zd,Zf,Zh,Zi,Zk,Zl,Zm,Zn,Zo,Zp,Zr,Zs,Zx,Zt,Zu,Zy,Zz,Zv,Zw,ZA,ZB,ZC,ZD]
 refine g2.put (i := 0) rfl (by simp) fun H3 g3 => g3.put (i := 0) rfl (by simp) fun H4 g4 => ?_
 intro R64 hR64
 have hR64 : ∀ H', St H0 (Prt.one b50 (.cells #[.int .i64 ((mlook p.marks y.s).getD (0, false)).1, .bool ((mlook p.marks y.s).getD (0, false)).2] ty_paint_mark (0, 0)) :: Prt.one b5 (.cells #[.int .i64 y.n, .int .u64 y.s] ty_api_ID (0, 0)) :: (paintParts pb hb p x ++ M)) H' →
   pShade s p y r = (if ((mlook p.marks y.s).getD (0, false)).2 then { p with marks := mput p.marks y.s (clampR r, true) } else pPush { p with marks := mput p.marks y.s (clampR r, true) } y.s) → R64 H' := fun H' h' e => by
  refine hR64 H' ?_
  clear hR64
  refine ldM_of (h'.cell (i := 2) rfl rfl) (ldI_of (h'.cell (i := 1) rfl rfl) (h'.mupd (i := 3) (l := p.marks) (enc := Value.int .u64) (f := markV) rfl hp_key mm_map ho.marks y.s (clampR r, true) rfl fun H5 g5 => ?_))
  refine ldB_of (g5.cell (i := 0) (o := 1) rfl rfl) ?_
  have ok1 := ho.mark (k := y.s) (clampR_is (r := r)) (g := true)
  cases hg : ((mlook p.marks y.s).getD (0, false)).2
  ·rw [hg] at e
   simp only [Za,Zb,Zc,Zd,Zf,Zh,Zi,Zk,Zl,Zm,Zn,Zo,Zp,Zr,Zs,Zx,Zt,Zu,Zy,Zz,Zv,Zw,ZA,ZB,ZC,ZD]
   refine ldP_of (g5.cell (i := 2) rfl rfl) (ldI_of (g5.cell (i := 1) rfl rfl) (gPushC (i := 5) (j := 6) g5 rfl rfl (by decide) ho.most.2 (fun hf H6 g6 => ?_) fun hf sp' sc' H6 g6 => ?_))
   ·simp only [Za,Zb,Zc,Zd,Zf,Zh,Zi,Zk,Zl,Zm,Zn,Zo,Zp,Zr,Zs,Zx,Zt,Zu,Zy,Zz,Zv,Zw,ZA,ZB,ZC,ZD]
    have g7 := g6.refact (i := 7) (q := ({ p with marks := mput p.marks y.s (clampR r, true), over := true } : Ps).ok) rfl ⟨ok1.marks, ok1.met, ok1.ranks, ok1.ids, ok1.most, ok1.stack⟩
    exact fin { p with marks := mput p.marks y.s (clampR r, true), over := true } x _ _ (by rw [e, if_neg (by decide)]; unfold pPush; rw [if_pos hf]) g7.less
   ·simp only [Za,Zb,Zc,Zd,Zf,Zh,Zi,Zk,Zl,Zm,Zn,Zo,Zp,Zr,Zs,Zx,Zt,Zu,Zy,Zz,Zv,Zw,ZA,ZB,ZC,ZD]
    have g7 := g6.refact (i := 7) (q := ({ p with marks := mput p.marks y.s (clampR r, true), stack := p.stack ++ [y.s] } : Ps).ok) rfl ⟨ok1.marks, ok1.met, ok1.ranks, ok1.ids, ok1.most, by simp only [List.length_append, List.length_cons, List.length_nil]; omega⟩
    exact fin { p with marks := mput p.marks y.s (clampR r, true), stack := p.stack ++ [y.s] } { x with sp := sp', sc := sc' } _ _ (by rw [e, if_neg (by decide)]; unfold pPush; rw [if_neg (by simp only; omega)]) g7.less
  ·rw [hg] at e
   simp only [Za,Zb,Zc,Zd,Zf,Zh,Zi,Zk,Zl,Zm,Zn,Zo,Zp,Zr,Zs,Zx,Zt,Zu,Zy,Zz,Zv,Zw,ZA,ZB,ZC,ZD]
   have g7 := g5.refact (i := 7) (q := ({ p with marks := mput p.marks y.s (clampR r, true) } : Ps).ok) rfl ok1
   exact fin { p with marks := mput p.marks y.s (clampR r, true) } x _ _ (by rw [e, if_pos rfl]) g7.less
 refine ldI_of (g4.cell (i := 1) rfl rfl) ?_
 have g5 := g4.pick 8 [2, 3, 4, 5, 6, 7, 0, 1] rfl rfl
 refine pThereC (i := i + 2) (M := Prt.one b50 _ :: Prt.one b5 _ :: M) g5 hi' fun H5 g6 => ?_
 have g6 := St.pick (L := _ :: _ :: _ :: _ :: _ :: _ :: _ :: _ :: M) g6 8 [6, 7, 0, 1, 2, 3, 4, 5] rfl rfl
 simp only [Za,Zb,Zc,Zd,Zf,Zh,Zi,Zk,Zl,Zm,Zn,Zo,Zp,Zr,Zs,Zx,Zt,Zu,Zy,Zz,Zv,Zw,ZA,ZB,ZC,ZD]
 cases hgs : hGet s y.s with
 | none =>
  refine fin p x _ _ ?_ g6.less
  unfold pShade
  rw [if_neg (by simpa using hid), if_neg en', if_pos hgs]
 | some o =>
  have hne : ¬ hGet s y.s = none := by rw [hgs]; simp
  simp only [Option.isSome_some]
  simp only [Za,Zb,Zc,Zd,Zf,Zh,Zi,Zk,Zl,Zm,Zn,Zo,Zp,Zr,Zs,Zx,Zt,Zu,Zy,Zz,Zv,Zw,ZA,ZB,ZC,ZD]
  cases hl : mlook p.marks y.s with
  | none =>
   simp only [Option.isSome_none]
   simp only [Za,Zb,Zc,Zd,Zf,Zh,Zi,Zk,Zl,Zm,Zn,Zo,Zp,Zr,Zs,Zx,Zt,Zu,Zy,Zz,Zv,Zw,ZA,ZB,ZC,ZD]
   refine hR64 _ g6 ?_
   unfold pShade
   rw [if_neg (by simpa using hid), if_neg en', if_neg hne, hl]
   rfl
  | some w =>
   simp only [Option.isSome_some]
   simp only [Za,Zb,Zc,Zd,Zf,Zh,Zi,Zk,Zl,Zm,Zn,Zo,Zp,Zr,Zs,Zx,Zt,Zu,Zy,Zz,Zv,Zw,ZA,ZB,ZC,ZD]
   refine ldI_of (g6.cell (i := 0) (o := 0) rfl rfl) ?_
   have hsh : pShade s p y r = if w.1 ≤ clampR r then p else if w.2 then { p with marks := mput p.marks y.s (clampR r, true) } else pPush { p with marks := mput p.marks y.s (clampR r, true) } y.s := by
    unfold pShade
    rw [if_neg (by simpa using hid), if_neg en', if_neg hne, hl]
   by_cases hw : w.1 ≤ clampR r
   ·refine bif_pos (by rw [hl]; exact hw) (fin p x _ _ (by rw [hsh, if_pos hw]) g6.less)
   ·refine bif_neg (by rw [hl]; exact hw) (hR64 _ g6 ?_)
    rw [hsh, if_neg hw, hl]
    rfl

end
end Go.Proofs.YtflfodcemnapeaaGreat

namespace Go.Proofs.YtflfodcemnapeaaGreat
set_option linter.unusedSimpArgs false
set_option linter.unusedVariables false
open Go
section
variable {H0 H : Hp} {L M : List Prt} {i j hb pb : Nat} {s : Hs} {p : Ps} {x : PtX} {K : Value → Hp → Prop}
theorem pMarkC {k : Int} (h : St H0 L H) (hi : L[i]? = some (HeapP hb s)) (hj : L[j]? = some (PaintP pb hb p)) (hij : i ≠ j)
  (hK : ∀ H', St H0 L H' → K (.tuple #[.int .i64 (pMark s p k).1, .bool (pMark s p k).2.1, .bool (pMark s p k).2.2]) H') :
  hcall PR f_paint_Paint_Mark ⟨[.pointer (some ⟨pb, 0, none⟩), .int .u64 k]⟩ H K := by
 obtain ⟨x, M, g, ho, hM, back⟩ := paintTake h hj
 have hi' := hM i _ hi hij
 clear hM
 have back' : ∀ x' H', St H0 (paintParts pb hb p x' ++ M) H' → St H0 L H' := fun x' H' h' => by
  have := back p x' H' h'
  rwa [List.set_self hj] at this
 apply den_paint_Paint_Mark
 unfold B_paint_Paint_Mark
 simp only [Za,Zb,Zc,Zd,Zf,Zh,Zi,Zk,Zl,Zm,Zn,Zo,Zp,Zr,Zs,Zx,Zt,Zu,Zy,Zz,Zv,Zw,ZA,ZB,ZC,ZD]
 refine ldM_of (g.cell (i := 0) rfl rfl) (g.look (i := 1) (l := p.marks) (enc := Value.int .u64) (f := markV) rfl hp_key mm_map mm_zero ho.marks k true ?_)
 have hz : (((mlook p.marks k).map markV).getD (.agg #[.int .i64 0, .bool false])) = .agg #[.int .i64 ((mlook p.marks k).getD (0, false)).1, .bool ((mlook p.marks k).getD (0, false)).2] := by cases mlook p.marks k <;> rfl
 rw [if_pos rfl, hz]
 simp only [Za,Zb,Zc,Zd,Zf,Zh,Zi,Zk,Zl,Zm,Zn,Zo,Zp,Zr,Zs,Zx,Zt,Zu,Zy,Zz,Zv,Zw,ZA,ZB,ZC,ZD]
 intro b13 hb13
 have g1 := g.alloc (o := .cells #[.int .i64 0, .bool false] ty_paint_mark) hb13
 refine g1.put (i := 0) rfl (by simp) fun H3 g3 => g3.put (i := 0) rfl (by simp) fun H4 g4 => ?_
 cases hl : mlook p.marks k with
 | none =>
  simp only [Option.isSome_none, Bool.not_false, Zv]
  have hK := hK H4 (back' x H4 g4.less)
  simp only [pMark, hl] at hK
  exact hK
 | some w =>
  simp only [Option.isSome_some, Bool.not_true, Zw]
  have g5 := g4.pick 7 [1, 2, 3, 4, 5, 6, 0] rfl rfl
  refine pThereC (i := i + 1) (M := Prt.one b13 _ :: M) g5 hi' fun H5 g6 => ?_
  have g6 := St.pick (L := _ :: _ :: _ :: _ :: _ :: _ :: _ :: M) g6 7 [6, 0, 1, 2, 3, 4, 5] rfl rfl
  have hK := hK H5 (back' x H5 g6.less)
  simp only [Za,Zb,Zc,Zd,Zf,Zh,Zi,Zk,Zl,Zm,Zn,Zo,Zp,Zr,Zs,Zx,Zt,Zu,Zy,Zz,Zv,Zw,ZA,ZB,ZC,ZD]
  cases hgs : hGet s k with
  | none =>
   simp only [Option.isSome_none, Bool.not_false, Zv]
   simp only [pMark, hl, hgs, if_true] at hK
   exact hK
  | some o =>
   simp only [Option.isSome_some, Bool.not_true, Zw]
   simp only [pMark, hl, hgs, reduceCtorEq, if_false] at hK
   refine ldI_of (g6.cell (i := 0) (o := 0) rfl rfl) (ldB_of (g6.cell (i := 0) (o := 1) rfl rfl) ?_)
   rw [hl]
   exact hK

theorem pShades_take {l : List Id} {r : Int} {k : Nat} (hk : k < l.length) : pShades s p (l.take (k + 1)) r = pShade s (pShades s p (l.take k) r) (l.getD k noId) r := by
 unfold pShades
 rw [List.take_add_one, List.foldl_append, List.getD_eq_getElem?_getD, List.getElem?_eq_getElem hk]
 rfl
theorem pScanC {k : Int} (h : St H0 L H) (hi : L[i]? = some (HeapP hb s)) (hj : L[j]? = some (PaintP pb hb p)) (hij : i ≠ j)
  (hK : ∀ H', St H0 (L.set j (PaintP pb hb (pScan s p k).2)) H' → K (.bool (pScan s p k).1) H') :
  hcall PR f_paint_Paint_Scan ⟨[.pointer (some ⟨pb, 0, none⟩), .int .u64 k]⟩ H K := by
 have hs7 := (heap_ok h hi).obs
 obtain ⟨x, M, g, ho, hM, backN⟩ := paintTakeN h hj
 have back : ∀ p' x' H', St H0 (paintParts pb hb p' x' ++ M) H' → St H0 (L.set j (PaintP pb hb p')) H' := fun p' x' H' h' => backN [] p' x' H' h'
 have hi' := hM i _ hi hij
 clear hM
 apply den_paint_Paint_Scan
 unfold B_paint_Paint_Scan
 simp only [Za,Zb,Zc,Zd,Zf,Zh,Zi,Zk,Zl,Zm,Zn,Zo,Zp,Zr,Zs,Zx,Zt,Zu,Zy,Zz,Zv,Zw,ZA,ZB,ZC,ZD]
 have hz : (((mlook p.marks k).map markV).getD (.agg #[.int .i64 0, .bool false])) = .agg #[.int .i64 ((mlook p.marks k).getD (0, false)).1, .bool ((mlook p.marks k).getD (0, false)).2] := by cases mlook p.marks k <;> rfl
 refine ldP_of (g.cell (i := 0) rfl rfl) (hObjC g (i := i + 6) hi' (fun hg H1 g1 => ?_) fun o hg rp rc vp vc H1 g1 => ?_)
 ·simp only [Za,Zb,Zc,Zd,Zf,Zh,Zi,Zk,Zl,Zm,Zn,Zo,Zp,Zr,Zs,Zx,Zt,Zu,Zy,Zz,Zv,Zw,ZA,ZB,ZC,ZD]
  refine box5 g1 fun b30 H2 g2 => ?_
  refine ldM_of (g2.cell (i := 1) rfl rfl) (g2.look (i := 2) (l := p.marks) (enc := Value.int .u64) (f := markV) rfl hp_key mm_map mm_zero ho.marks k false ?_)
  rw [if_neg (by decide), hz]
  simp only [Za,Zb,Zc,Zd,Zf,Zh,Zi,Zk,Zl,Zm,Zn,Zo,Zp,Zr,Zs,Zx,Zt,Zu,Zy,Zz,Zv,Zw,ZA,ZB,ZC,ZD]
  intro b44 hb44
  have g3 := g2.alloc (o := .cells #[.int .i64 0, .bool false] ty_paint_mark) hb44
  refine g3.put (i := 0) rfl (by simp) fun H4 g4 => g4.put (i := 0) rfl (by simp) fun H5 g5 => ?_
  have hK := hK H5
  simp only [pScan, hg] at hK
  exact hK (back p x H5 g5.less.less)
 ·simp only [Za,Zb,Zc,Zd,Zf,Zh,Zi,Zk,Zl,Zm,Zn,Zo,Zp,Zr,Zs,Zx,Zt,Zu,Zy,Zz,Zv,Zw,ZA,ZB,ZC,ZD]
  refine box5 g1 fun b30 H2 g2 => ?_
  refine ldM_of (g2.cell (i := 3) rfl rfl) (g2.look (i := 4) (l := p.marks) (enc := Value.int .u64) (f := markV) rfl hp_key mm_map mm_zero ho.marks k false ?_)
  rw [if_neg (by decide), hz]
  simp only [Za,Zb,Zc,Zd,Zf,Zh,Zi,Zk,Zl,Zm,Zn,Zo,Zp,Zr,Zs,Zx,Zt,Zu,Zy,Zz,Zv,Zw,ZA,ZB,ZC,ZD]
  intro b44 hb44
  have g3 := g2.alloc (o := .cells #[.int .i64 0, .bool false] ty_paint_mark) hb44
  refine g3.put (i := 0) rfl (by simp) fun H4 g4 => g4.put (i := 0) rfl (by simp) fun H5 g5 => ?_
  refine ldB_of (g5.cell (i := 0) (o := 1) rfl rfl) ?_
  cases hl : mlook p.marks k with
  | none =>
   refine (show cond (!(((none : Option (Int × Bool))).getD (0, false)).2) _ _ from ?_)
   have hK := hK H5
   simp only [pScan, hg, hl] at hK
   exact hK (back p x H5 g5.less.less.less.less)
  | some w =>
   obtain ⟨w1, w2⟩ := w
   cases w2 with
   | false =>
    have hK := hK H5
    simp only [pScan, hg, hl] at hK
    exact hK (back p x H5 g5.less.less.less.less)
   | true =>
    rw [hl] at g5
    simp only [Option.getD_some] at g5
    refine (show cond (!true) _ _ from ?_)
    simp only [Bool.not_true, Zw]
    refine ldM_of (g5.cell (i := 4) rfl rfl) (ldI_of (g5.cell (i := 0) rfl rfl) (g5.mupd (i := 5) (l := p.marks) (enc := Value.int .u64) (f := markV) rfl hp_key mm_map ho.marks k (w1, false) rfl fun H6 g6 => ?_))
    have ok1 := ho.mark (k := k) (mlook_ranks ho hl) (g := false)
    have g7 := g6.refact (i := 9) (q := ({ p with marks := mput p.marks k (w1, false) } : Ps).ok) rfl ok1
    refine ldSl_of (g7.cell (i := 1) rfl rfl) ?_
    have hsc : pScan s p k = (true, pShades s { p with marks := mput p.marks k (w1, false) } o.refs w1) := by simp only [pScan, hg, hl]
    rw [hsc] at hK
    generalize hp0 : ({ p with marks := mput p.marks k (w1, false) } : Ps) = p0 at hK ok1
    have g9 : St H0 ([Prt.one b44 (.cells #[.int .i64 w1, .bool true] ty_paint_mark (0, 0)), Prt.one b30 (.cells #[.int .u64 k, .int .i64 o.cell, .slice rp o.refs.length rc, .slice vp o.vals.length vc, .int .i64 o.din] ty_api_Object (0, 0)), Prt.row 2 rp o.refs.length rc (cel Id.cells o.refs), Prt.row 1 vp o.vals.length vc (o.vals.map (Value.int .u64))] ++ (paintParts pb hb p0 x ++ M)) H6 := by
     rw [← hp0]; exact g7
    have g10 := backN _ p0 x H6 g9
    clear g9 g7 g6 g5 g4 g3 g2 g1 g backN back
    have hr7 := (hs7 o (hGet_mem hg).1).refs
    have hjl := ltOfGet hj
    refine ⟨fun t H' => ∃ m : Nat, t = m ∧ m ≤ o.refs.length ∧ St H0 ([Prt.one b44 (.cells #[.int .i64 w1, .bool true] ty_paint_mark (0, 0)), Prt.one b30 (.cells #[.int .u64 k, .int .i64 o.cell, .slice rp o.refs.length rc, .slice vp o.vals.length vc, .int .i64 o.din] ty_api_Object (0, 0)), Prt.row 2 rp o.refs.length rc (cel Id.cells o.refs), Prt.row 1 vp o.vals.length vc (o.vals.map (Value.int .u64))] ++ L.set j (PaintP pb hb (pShades s p0 (o.refs.take m) w1))) H',
     fun t _ => (o.refs.length - t).toNat, ⟨0, rfl, by omega, by rw [List.take_zero]; exact g10⟩, ?_⟩
    rintro t H7 ⟨m, rfl, hm, g11⟩
    by_cases hlt : (m : Int) < (o.refs.length : Int)
    ·refine bif_pos hlt (idxS Id.len noId (g11.row_rd (i := 2) rfl) (by omega) (by omega) hlt fun b1 o1 _ hl1 hcc => ?_)
     have c0 := hcc 0 (by omega)
     have c1 := hcc 1 (by omega)
     simp only [Za,Zb,Zc,Zd,Zf,Zh,Zi,Zk,Zl,Zm,Zn,Zo,Zp,Zr,Zs,Zx,Zt,Zu,Zy,Zz,Zv,Zw,ZA,ZB,ZC,ZD]
     refine ldI_of c0 (ldI_of c1 (box2 g11 fun b64 H8 g12 => ?_))
     refine ldI_of (g12.cell (i := 0) rfl rfl) (ldI_of (g12.cell (i := 0) rfl rfl) (ldI_of (g12.cell (i := 1) rfl rfl) ?_))
     rw [Int.toNat_natCast]
     refine pShadeC (i := i + 5) (j := j + 5) (y := o.refs.getD m noId) g12 ?_ (p := pShades s p0 (o.refs.take m) w1) (hb := hb) (pb := pb) (s := s) ?_ (by omega) fun H9 g13 => ?_
     ·show (L.set j _)[i]? = _
      rw [List.getElem?_set_ne (Ne.symm hij)]; exact hi
     ·show (L.set j _)[j]? = _
      simp [hjl]
     ·rw [wrap_i64 (by omega) (by omega)]
      refine ⟨⟨m + 1, by omega, by omega, ?_⟩, by (try dsimp only); omega⟩
      rw [pShades_take (by omega)]
      have g14 := St.less g13
      rw [show (List.set _ (j + 4) _) = _ from rfl] at g14
      simpa using g14
    ·obtain rfl : m = o.refs.length := by omega
     rw [List.take_length] at g11
     refine bif_neg hlt (hK H7 (St.lesses (M := [_, _, _, _]) g11))

theorem pMetC {y : Id} (h : St H0 L H) (hj : L[j]? = some (PaintP pb hb p)) (hK : ∀ H', St H0 L H' → K (.tuple #[.int .i64 (pMet p y).1, .bool (pMet p y).2]) H') :
  hcall PR f_paint_Paint_Met ⟨[.pointer (some ⟨pb, 0, none⟩), .agg #[.int .i64 y.n, .int .u64 y.s]]⟩ H K := by
 obtain ⟨x, M, g, ho, hM, back⟩ := paintTake h hj
 apply den_paint_Paint_Met
 unfold B_paint_Paint_Met
 intro b4 hb4
 have g1 := g.alloc (o := .cells #[.int .i64 y.n, .int .u64 y.s] ty_api_ID) hb4
 simp only [Za,Zb,Zc,Zd,Zf,Zh,Zi,Zk,Zl,Zm,Zn,Zo,Zp,Zr,Zs,Zx,Zt,Zu,Zy,Zz,Zv,Zw,ZA,ZB,ZC,ZD]
 refine ldM_of (g1.cell (i := 1) rfl rfl) (ldI_of (g1.cell (i := 0) rfl rfl) (ldI_of (g1.cell (i := 0) rfl rfl) (g1.look (i := 3) (l := p.met) (enc := Id.val) (f := Value.int .i64) rfl idKey me_map me_zero ho.met y true ?_)))
 have hz : (((mlook p.met y).map (Value.int .i64)).getD (.int .i64 0)) = .int .i64 ((mlook p.met y).getD 0) := by cases mlook p.met y <;> rfl
 rw [if_pos rfl, hz]
 simp only [Za,Zb,Zc,Zd,Zf,Zh,Zi,Zk,Zl,Zm,Zn,Zo,Zp,Zr,Zs,Zx,Zt,Zu,Zy,Zz,Zv,Zw,ZA,ZB,ZC,ZD]
 have hb := back p x _ g1.less
 rw [List.set_self hj] at hb
 have hK := hK _ hb
 unfold pMet at hK
 cases hl : mlook p.met y with
 | none => rw [hl] at hK; exact hK
 | some w => rw [hl] at hK; exact hK

theorem pForgetC {k : Int} (h : St H0 L H) (hj : L[j]? = some (PaintP pb hb p)) (hK : ∀ H', St H0 (L.set j (PaintP pb hb (pForget p k))) H' → K (.tuple #[]) H') :
  hcall PR f_paint_Paint_Forget ⟨[.pointer (some ⟨pb, 0, none⟩), .int .u64 k]⟩ H K := by
 obtain ⟨x, M, g, ho, hM, back⟩ := paintTake h hj
 apply den_paint_Paint_Forget
 unfold B_paint_Paint_Forget
 simp only [Za,Zb,Zc,Zd,Zf,Zh,Zi,Zk,Zl,Zm,Zn,Zo,Zp,Zr,Zs,Zx,Zt,Zu,Zy,Zz,Zv,Zw,ZA,ZB,ZC,ZD]
 refine ldM_of (g.cell (i := 0) rfl rfl) (g.mdelete (i := 1) (l := p.marks) (enc := Value.int .u64) (f := markV) rfl hp_key mm_map ho.marks k fun H2 g2 => ?_)
 exact hK H2 (back (pForget p k) x H2 (g2.refact (i := 5) (q := (pForget p k).ok) rfl ho.forget))

theorem pTurnsC (h : St H0 L H) (hj : L[j]? = some (PaintP pb hb p)) (hK : K (.int .u64 p.turns) H) : hcall PR f_paint_Paint_Turns ⟨[.pointer (some ⟨pb, 0, none⟩)]⟩ H K := by
 obtain ⟨x, M, g, ho, hM, back⟩ := paintTake h hj
 apply den_paint_Paint_Turns
 unfold B_paint_Paint_Turns
 simp only [Za,Zb,Zc,Zd,Zf,Zh,Zi,Zk,Zl,Zm,Zn,Zo,Zp,Zr,Zs,Zx,Zt,Zu,Zy,Zz,Zv,Zw,ZA,ZB,ZC,ZD]
 exact ldI_of (g.cell (i := 0) rfl rfl) hK
theorem pOverC (h : St H0 L H) (hj : L[j]? = some (PaintP pb hb p)) (hK : K (.bool p.over) H) : hcall PR f_paint_Paint_Over ⟨[.pointer (some ⟨pb, 0, none⟩)]⟩ H K := by
 obtain ⟨x, M, g, ho, hM, back⟩ := paintTake h hj
 apply den_paint_Paint_Over
 unfold B_paint_Paint_Over
 simp only [Za,Zb,Zc,Zd,Zf,Zh,Zi,Zk,Zl,Zm,Zn,Zo,Zp,Zr,Zs,Zx,Zt,Zu,Zy,Zz,Zv,Zw,ZA,ZB,ZC,ZD]
 refine ldP_of (g.cell (i := 0) rfl rfl) ?_
 apply den_grey_Stack_uint64_Over
 unfold B_grey_Stack_uint64_Over
 simp only [Za,Zb,Zc,Zd,Zf,Zh,Zi,Zk,Zl,Zm,Zn,Zo,Zp,Zr,Zs,Zx,Zt,Zu,Zy,Zz,Zv,Zw,ZA,ZB,ZC,ZD]
 refine ldB_of (g.cell (i := 3) rfl rfl) ?_
 exact hK
theorem pRestC (h : St H0 L H) (hj : L[j]? = some (PaintP pb hb p)) (hK : ∀ H', St H0 (L.set j (PaintP pb hb (pRest p))) H' → K (.tuple #[]) H') : hcall PR f_paint_Paint_Rest ⟨[.pointer (some ⟨pb, 0, none⟩)]⟩ H K := by
 obtain ⟨x, M, g, ho, hM, back⟩ := paintTake h hj
 apply den_paint_Paint_Rest
 unfold B_paint_Paint_Rest
 simp only [Za,Zb,Zc,Zd,Zf,Zh,Zi,Zk,Zl,Zm,Zn,Zo,Zp,Zr,Zs,Zx,Zt,Zu,Zy,Zz,Zv,Zw,ZA,ZB,ZC,ZD]
 refine ldP_of (g.cell (i := 0) rfl rfl) ?_
 apply den_grey_Stack_uint64_Rest
 unfold B_grey_Stack_uint64_Rest
 simp only [Za,Zb,Zc,Zd,Zf,Zh,Zi,Zk,Zl,Zm,Zn,Zo,Zp,Zr,Zs,Zx,Zt,Zu,Zy,Zz,Zv,Zw,ZA,ZB,ZC,ZD]
 refine g.put (i := 3) rfl (by simp) fun H2 g2 => hK H2 (back (pRest p) x H2 (g2.refact (i := 5) (q := (pRest p).ok) rfl ho.rest))
theorem pPopC (h : St H0 L H) (hj : L[j]? = some (PaintP pb hb p)) (hK : ∀ H', St H0 (L.set j (PaintP pb hb (pPop p).2)) H' → K (.tuple #[.int .u64 (pPop p).1.1, .bool (pPop p).1.2]) H') : hcall PR f_paint_Paint_Pop ⟨[.pointer (some ⟨pb, 0, none⟩)]⟩ H K := by
 obtain ⟨x, M, g, ho, hM, back⟩ := paintTake h hj
 apply den_paint_Paint_Pop
 unfold B_paint_Paint_Pop
 simp only [Za,Zb,Zc,Zd,Zf,Zh,Zi,Zk,Zl,Zm,Zn,Zo,Zp,Zr,Zs,Zx,Zt,Zu,Zy,Zz,Zv,Zw,ZA,ZB,ZC,ZD]
 have := ho.stack
 have := ho.most
 refine ldP_of (g.cell (i := 0) rfl rfl) (gPopC (i := 3) (j := 4) g rfl rfl (by decide) (by omega) (fun hl => ?_) fun k hl H2 g2 => ?_)
 ·simp only [Za,Zb,Zc,Zd,Zf,Zh,Zi,Zk,Zl,Zm,Zn,Zo,Zp,Zr,Zs,Zx,Zt,Zu,Zy,Zz,Zv,Zw,ZA,ZB,ZC,ZD]
  have hK := hK H
  simp only [pPop, hl] at hK
  exact hK (back p x H g)
 ·simp only [Za,Zb,Zc,Zd,Zf,Zh,Zi,Zk,Zl,Zm,Zn,Zo,Zp,Zr,Zs,Zx,Zt,Zu,Zy,Zz,Zv,Zw,ZA,ZB,ZC,ZD]
  have hK := hK H2
  simp only [pPop, hl] at hK
  refine hK (back _ x H2 (g2.refact (i := 5) (q := ({ p with stack := p.stack.dropLast } : Ps).ok) rfl ?_))
  have := ho.pop
  simp only [pPop, hl] at this
  exact this
theorem pTurnC (h : St H0 L H) (hj : L[j]? = some (PaintP pb hb p)) (hK : ∀ H', St H0 (L.set j (PaintP pb hb (pTurn p))) H' → K (.tuple #[]) H') : hcall PR f_paint_Paint_Turn ⟨[.pointer (some ⟨pb, 0, none⟩)]⟩ H K := by
 obtain ⟨x, M, g, ho, hM, back⟩ := paintTake h hj
 apply den_paint_Paint_Turn
 unfold B_paint_Paint_Turn
 simp only [Za,Zb,Zc,Zd,Zf,Zh,Zi,Zk,Zl,Zm,Zn,Zo,Zp,Zr,Zs,Zx,Zt,Zu,Zy,Zz,Zv,Zw,ZA,ZB,ZC,ZD]
 refine ldI_of (g.cell (i := 0) rfl rfl) (g.put (i := 0) rfl (by simp) fun H1 g1 => ?_)
 intro b6 hb6
 have g2 := g1.mpNew hb6
 refine g2.put (i := 1) rfl (by simp) fun H3 g3 => ?_
 intro b10 hb10
 have g4 := g3.mpNew hb10
 refine g4.put (i := 2) rfl (by simp) fun H5 g5 => ldP_of (g5.cell (i := 2) rfl rfl) ?_
 apply den_grey_Stack_uint64_Clear
 unfold B_grey_Stack_uint64_Clear
 simp only [Za,Zb,Zc,Zd,Zf,Zh,Zi,Zk,Zl,Zm,Zn,Zo,Zp,Zr,Zs,Zx,Zt,Zu,Zy,Zz,Zv,Zw,ZA,ZB,ZC,ZD]
 refine g5.put (i := 5) rfl (by simp) fun H6 g6 => g6.put (i := 5) rfl (by simp) fun H7 g7 => ?_
 have g8 := g7.row_to (i := 6) (k' := 1) (n' := 0) (cap' := 0) (p' := none) (xs' := []) rfl (Own.nil 1) ((Goes.refl _ _).less fun c hc => absurd hc blk_none)
 have g9 := g8.refact (i := 7) (q := (pTurn p).ok) rfl ho.turn
 have g10 := g9.pick 8 [3, 4, 2, 1, 0, 5, 6, 7] rfl rfl
 exact hK H7 (back (pTurn p) { x with mm := b6, me := b10, sp := none, sc := 0 } H7 g10.less.less)
theorem pNewOk {m : Int} (h : St H0 L H) (h1 : 1 ≤ m) (h2 : m ≤ 64) (hK : ∀ b H', St H0 (PaintP b hb (newPs m) :: L) H' → K (.tuple #[.pointer (some ⟨b, 0, none⟩), .int .i64 0]) H') :
  hcall PR f_paint_New ⟨[.pointer (some ⟨hb, 0, none⟩), .int .i64 m]⟩ H K := by
 apply den_paint_New
 unfold B_paint_New
 simp only [Option.isNone_some, Zw]
 apply den_grey_New_uint64
 unfold B_grey_New_uint64
 refine bif_neg (by omega) (bif_neg (by omega) ?_)
 intro b2 hb2
 have g1 := h.alloc (o := .cells #[.slice none 0 0, .int .i64 m, .bool false] ty_grey_Stack_uint64) hb2
 simp only [Za,Zb,Zc,Zd,Zf,Zh,Zi,Zk,Zl,Zm,Zn,Zo,Zp,Zr,Zs,Zx,Zt,Zu,Zy,Zz,Zv,Zw,ZA,ZB,ZC,ZD]
 refine bif_neqf rfl ?_
 intro b9 hb9
 have g2 := g1.mpNew hb9
 intro b11 hb11
 have g3 := g2.mpNew hb11
 intro b13 hb13
 have g4 := g3.alloc (o := .cells #[ptrV hb, .map (some b9), .map (some b11), ptrV b2, .int .u64 0] ty_paint_Paint) hb13
 have g5 := g4.row (H' := _) (Own.nil 1) ((Goes.refl Nothing _).less fun c hc => absurd hc blk_none)
 have g6 := g5.say (newPs_ok ⟨h1, h2⟩)
 have g7 := g6.pick 6 [2, 4, 3, 5, 1, 0] rfl rfl
 exact hK b13 _ (St.gatherEx (M := paintParts b13 hb (newPs m)) ⟨b9, b11, b2, none, 0, ty_paint_Paint, ty_grey_Stack_uint64⟩ g7)
theorem pBlackenC {k : Int} (h : St H0 L H) (hi : L[i]? = some (HeapP hb s)) (hj : L[j]? = some (PaintP pb hb p)) (hij : i ≠ j) (hK : ∀ H', St H0 (L.set j (PaintP pb hb (pBlacken s p k))) H' → K (.tuple #[]) H') :
  hcall PR f_paint_Paint_Blacken ⟨[.pointer (some ⟨pb, 0, none⟩), .int .u64 k]⟩ H K := by
 obtain ⟨x, M, g, ho, hM, back⟩ := paintTake h hj
 have hi' := hM i _ hi hij
 clear hM
 apply den_paint_Paint_Blacken
 unfold B_paint_Paint_Blacken
 simp only [Za,Zb,Zc,Zd,Zf,Zh,Zi,Zk,Zl,Zm,Zn,Zo,Zp,Zr,Zs,Zx,Zt,Zu,Zy,Zz,Zv,Zw,ZA,ZB,ZC,ZD]
 have hz : (((mlook p.marks k).map markV).getD (.agg #[.int .i64 0, .bool false])) = .agg #[.int .i64 ((mlook p.marks k).getD (0, false)).1, .bool ((mlook p.marks k).getD (0, false)).2] := by cases mlook p.marks k <;> rfl
 refine ldM_of (g.cell (i := 0) rfl rfl) (g.look (i := 1) (l := p.marks) (enc := Value.int .u64) (f := markV) rfl hp_key mm_map mm_zero ho.marks k true ?_)
 rw [if_pos rfl, hz]
 simp only [Za,Zb,Zc,Zd,Zf,Zh,Zi,Zk,Zl,Zm,Zn,Zo,Zp,Zr,Zs,Zx,Zt,Zu,Zy,Zz,Zv,Zw,ZA,ZB,ZC,ZD]
 intro b13 hb13
 have g1 := g.alloc (o := .cells #[.int .i64 0, .bool false] ty_paint_mark) hb13
 refine g1.put (i := 0) rfl (by simp) fun H2 g2 => g2.put (i := 0) rfl (by simp) fun H3 g3 => ?_
 have g3 := g3.less
 unfold pBlacken at hK
 cases hl : mlook p.marks k with
 | some w =>
  rw [if_neg (fun hh => by rw [hl] at hh; cases hh.1)] at hK
  exact hK H3 (back p x H3 g3)
 | none =>
  simp only [Option.isSome_none, Bool.not_false, Zv]
  refine pThereC (pb := pb) (hb := hb) (p := p) g3 hi' fun H4 g4 => ?_
  simp only [Za,Zb,Zc,Zd,Zf,Zh,Zi,Zk,Zl,Zm,Zn,Zo,Zp,Zr,Zs,Zx,Zt,Zu,Zy,Zz,Zv,Zw,ZA,ZB,ZC,ZD]
  cases hg : hGet s k with
  | none =>
   rw [if_neg (fun hh => hh.2 hg)] at hK
   simp only [Option.isSome_none, Zw]
   exact hK H4 (back p x H4 g4)
  | some o =>
   rw [if_pos ⟨hl, by rw [hg]; simp⟩] at hK
   simp only [Option.isSome_some, Zv]
   refine ldM_of (g4.cell (i := 0) rfl rfl) (g4.mupd (i := 1) (l := p.marks) (enc := Value.int .u64) (f := markV) rfl hp_key mm_map ho.marks k (0, false) rfl fun H5 g5 => ?_)
   have g6 := g5.refact (i := 5) (q := ({ p with marks := mput p.marks k (0, false) } : Ps).ok) rfl (ho.mark ⟨Int.le_refl _, by omega⟩)
   exact hK H5 (back { p with marks := mput p.marks k (0, false) } x H5 g6)
end
end Go.Proofs.YtflfodcemnapeaaGreat

namespace Go.Proofs.YtflfodcemnapeaaGreat
set_option linter.unusedSimpArgs false
set_option linter.unusedVariables false
open Go
section
variable {H0 H : Hp} {L M : List Prt} {i j rb qb : Nat} {s : Hs} {p : Ps} {x : RpX} {K : Value → Hp → Prop}
theorem rMarkC {k : Int} (h : St H0 L H) (hi : L[i]? = some (RHeap rb s)) (hj : L[j]? = some (RPaint qb rb p)) (hij : i ≠ j) (hlt : p.lt 900000)
  (hK : K (.tuple #[.int .i64 (pMark s p k).1, .bool (pMark s p k).2.1, .bool (pMark s p k).2.2]) H) :
  hcall PR f_ref11_Paint_Mark ⟨[.pointer (some ⟨qb, 0, none⟩), .int .u64 k]⟩ H K := by
 obtain ⟨x, M, g, hf, hM, back⟩ := rpaintTakeN h hj
 have hi' := hM i _ hi hij
 apply den_ref11_Paint_Mark
 unfold B_ref11_Paint_Mark
 unfold pMark at hK
 refine rFindC g hf.1.marks (by have := hlt.1; omega) (fun hl => ?_) fun m v b o hm hl hmp => ?_
 ·simp only [Za,Zb,Zc,Zd,Zf,Zh,Zi,Zk,Zl,Zm,Zn,Zo,Zp,Zr,Zs,Zx,Zt,Zu,Zy,Zz,Zv,Zw,ZA,ZB,ZC,ZD]
  rw [hl] at hK
  exact hK
 ·rw [hl] at hK
  simp only [Za,Zb,Zc,Zd,Zf,Zh,Zi,Zk,Zl,Zm,Zn,Zo,Zp,Zr,Zs,Zx,Zt,Zu,Zy,Zz,Zv,Zw,ZA,ZB,ZC,ZD]
  refine ldP_of (g.cell (i := 0) rfl rfl) ?_
  obtain ⟨z, N, gz, hp3, hs⟩ := rheapAt (A := []) g hi' (.inl rfl)
  refine rGetC gz hp3 hs (fun hg => ?_) fun jj o' bo hjj hk hg hjo => ?_
  ·simp only [Za,Zb,Zc,Zd,Zf,Zh,Zi,Zk,Zl,Zm,Zn,Zo,Zp,Zr,Zs,Zx,Zt,Zu,Zy,Zz,Zv,Zw,ZA,ZB,ZC,ZD]
   simp only [hg, if_true] at hK
   exact hK
  ·simp only [Za,Zb,Zc,Zd,Zf,Zh,Zi,Zk,Zl,Zm,Zn,Zo,Zp,Zr,Zs,Zx,Zt,Zu,Zy,Zz,Zv,Zw,ZA,ZB,ZC,ZD]
   simp only [hg, reduceCtorEq, if_false] at hK
   obtain ⟨w1, w2⟩ := v
   have hml := ltOfGet hm
   have hrd := g.row_rd (i := 2) rfl
   have hcel : ∀ j, j < 3 → hcell H ⟨b, o + m * 3 + j, none⟩ = (markC (k, (w1, w2)))[j]? := fun j hj => by
    have := hrd.cel_at' markC_len (0, 0, false) hmp hml hj
    rw [List.getD_eq_getElem?_getD, hm] at this
    exact this
   exact ldI_of (hcel 1 (by omega)) (ldB_of (hcel 2 (by omega)) hK)

theorem rForgetC {k : Int} (h : St H0 L H) (hj : L[j]? = some (RPaint qb rb p)) (hlt : p.lt 900000) (hK : ∀ H', St H0 (L.set j (RPaint qb rb (pForget p k))) H' → K (.tuple #[]) H') :
  hcall PR f_ref11_Paint_Forget ⟨[.pointer (some ⟨qb, 0, none⟩), .int .u64 k]⟩ H K := by
 obtain ⟨x, M, g, hf, hM, back⟩ := rpaintTakeN h hj
 have hl1 := hlt.1
 apply den_ref11_Paint_Forget
 unfold B_ref11_Paint_Forget
 have g0 := g.row (H' := _) (Own.nil 3) ((Goes.refl Nothing _).less fun c hc => absurd hc blk_none)
 refine ⟨fun rp rl rc i H' => ∃ m : Nat, i = m ∧ m ≤ p.marks.length ∧ rl = (mdel (p.marks.take m) k).length ∧ St H0 (Prt.row 3 rp rl rc (cel markC (mdel (p.marks.take m) k)) :: (rpaintParts qb rb p x ++ M)) H', fun _ _ _ i _ => (p.marks.length - i).toNat, ⟨0, rfl, by omega, by simp [mdel], by simp only [List.take_zero]; exact g0⟩, ?_⟩
 rintro rp rl rc i H1 ⟨m, rfl, hm, rfl, g1⟩
 simp only [Za,Zb,Zc,Zd,Zf,Zh,Zi,Zk,Zl,Zm,Zn,Zo,Zp,Zr,Zs,Zx,Zt,Zu,Zy,Zz,Zv,Zw,ZA,ZB,ZC,ZD]
 refine ldSl_of (g1.cell (i := 1) rfl rfl) ?_
 by_cases hc : (m : Int) < (p.marks.length : Int)
 ·have hml : m < p.marks.length := by omega
  have hme := List.getElem?_eq_getElem hml
  refine bif_pos hc ?_
  intro R14 hR14
  have hR14 : ∀ rp' rl' rc' H', rl' = (mdel (p.marks.take (m + 1)) k).length → St H0 (Prt.row 3 rp' rl' rc' (cel markC (mdel (p.marks.take (m + 1)) k)) :: (rpaintParts qb rb p x ++ M)) H' → R14 rp' rl' rc' H' := fun rp' rl' rc' H' e h' => by
   refine hR14 _ _ _ H' ?_
   rw [wrap_i64 (by omega) (by omega)]
   exact ⟨⟨m + 1, by omega, by omega, e, h'⟩, by (try dsimp only); omega⟩
  have htk : p.marks.take (m + 1) = p.marks.take m ++ [p.marks[m]] := by rw [List.take_add_one, hme]; rfl
  have hgd : p.marks.getD m (0, 0, false) = p.marks[m] := by rw [List.getD_eq_getElem?_getD, hme]; rfl
  refine ldSl_of (g1.cell (i := 1) rfl rfl) (idxS markC_len (0, 0, false) (g1.row_rd (i := 3) rfl) (by omega) (by omega) hc fun b o hp _ hcc => ?_)
  rw [Int.toNat_natCast, hgd] at hcc
  rw [Int.toNat_natCast]
  refine ldI_of (hcc 0 (by omega)) ?_
  by_cases hk : p.marks[m].1 = k
  ·refine bif_neqf hk (hR14 _ _ _ H1 ?_ ?_)
   ·rw [htk]; unfold mdel; rw [List.filter_append]; simp [hk]
   ·rw [show mdel (p.marks.take (m + 1)) k = mdel (p.marks.take m) k by rw [htk]; unfold mdel; rw [List.filter_append]; simp [hk]]
    exact g1
  ·have hdel : mdel (p.marks.take (m + 1)) k = mdel (p.marks.take m) k ++ [p.marks[m]] := by rw [htk]; unfold mdel; rw [List.filter_append]; simp [hk]
   refine bif_neq hk (ldSl_of (g1.cell (i := 1) rfl rfl) (idxA_of (g1.row_rd (i := 3) rfl) (by omega) hc fun b' o' hp' _ => ?_))
   obtain ⟨rfl, rfl⟩ : b = b' ∧ o = o' := by rw [hp] at hp'; simpa using hp'
   rw [Int.toNat_natCast]
   simp only [Za,Zb,Zc,Zd,Zf,Zh,Zi,Zk,Zl,Zm,Zn,Zo,Zp,Zr,Zs,Zx,Zt,Zu,Zy,Zz,Zv,Zw,ZA,ZB,ZC,ZD]
   refine ldI_of (hcc 0 (by omega)) (ldI_of (hcc 1 (by omega)) (ldB_of (hcc 2 (by omega)) ?_))
   intro b33 hb33
   have hle : (mdel (p.marks.take m) k).length ≤ m := Nat.le_trans mdel_length_le (by rw [List.length_take]; omega)
   have g2 := g1.alloc (o := .cells #[.int .u64 p.marks[m].1, .int .i64 p.marks[m].2.1, .bool p.marks[m].2.2] ty_ref11_mark) hb33
   refine g2.app (i := 1) rfl tu_ty_Smooringref11_mark tu_ty_Smooringref11_mark ti_ty_ref11_mark rfl (by decide) (rd_new (n := 1) rfl) (by intro w hw; simp at hw; rcases hw with rfl | rfl | rfl <;> rfl) (by omega) fun p1 c1 H5 g5 => ?_
   simp only [Za,Zb,Zc,Zd,Zf,Zh,Zi,Zk,Zl,Zm,Zn,Zo,Zp,Zr,Zs,Zx,Zt,Zu,Zy,Zz,Zv,Zw,ZA,ZB,ZC,ZD]
   refine hR14 _ _ _ H5 ?_ ?_
   ·rw [hdel]; simp
   ·rw [hdel, cel_append]
    have g6 := g5.less
    simpa [cel, markC] using g6
 ·obtain rfl : m = p.marks.length := by omega
  rw [List.take_length] at g1 ⊢
  refine bif_neg hc (g1.put (i := 1) rfl (by simp) fun H2 g2 => ?_)
  have g3 := St.over (L := _ :: _ :: _ :: _ :: _ :: _ :: M) (i := 2) g2 rfl
  have g4 := g3.refact (i := 5) (q := (pForget p k).ok ∧ keyed x.t ∧ x.t.Perm (pForget p k).met) rfl ⟨hf.1.forget, hf.2⟩
  exact hK H2 (back [] (pForget p k) { x with mp := rp, mc := rc } H2 g4)

theorem rNewPaintC {m : Int} (h : St H0 L H) (h1 : 1 ≤ m) (h2 : m ≤ 64) (hK : ∀ b H', St H0 (RPaint b rb (newPs m) :: L) H' → K (.pointer (some ⟨b, 0, none⟩)) H') :
  hcall PR f_ref11_NewPaint ⟨[.pointer (some ⟨rb, 0, none⟩), .int .i64 m]⟩ H K := by
 apply den_ref11_NewPaint
 unfold B_ref11_NewPaint
 have q0 := h.row (H' := _) (Own.nil 3) ((Goes.refl Nothing _).less fun c hc => absurd hc blk_none)
 have q1 := q0.row (H' := _) (Own.nil 1) ((Goes.refl Nothing _).less fun c hc => absurd hc blk_none)
 have q2 := q1.row (H' := _) (Own.nil 3) ((Goes.refl Nothing _).less fun c hc => absurd hc blk_none)
 have q3 := q2.row (H' := _) (Own.nil 1) ((Goes.refl Nothing _).less fun c hc => absurd hc blk_none)
 intro b hb
 have q4 := q3.alloc (o := .cells #[.pointer (some ⟨rb, 0, none⟩), .int .i64 0, .slice none 0 0, .bool false, .int .u64 0, .slice none 0 0, .int .i64 0, .slice none 0 0, .slice none 0 0] ty_ref11_Paint) hb
 refine q4.put (i := 0) rfl (by simp) fun H5 q5 => q5.put (i := 0) rfl (by simp) fun H6 q6 => ?_
 have q7 := q6.say (show (newPs m).ok ∧ keyed [] ∧ ([] : List (Id × Int)).Perm (newPs m).met from ⟨newPs_ok ⟨h1, h2⟩, List.Pairwise.nil, List.Perm.refl _⟩)
 have q8 := q7.pick 6 [1, 2, 3, 4, 5, 0] rfl rfl
 exact hK b _ (St.gatherEx (M := rpaintParts b rb (newPs m)) ⟨[], none, 0, none, 0, none, 0, none, 0, ty_ref11_Paint⟩ q8)

theorem rScanC {k : Int} (h : St H0 L H) (hi : L[i]? = some (RHeap rb s)) (hj : L[j]? = some (RPaint qb rb p)) (hij : i ≠ j) (hlt : p.lt 800000)
  (hK : ∀ H', St H0 (L.set j (RPaint qb rb (pScan s p k).2)) H' → K (.bool (pScan s p k).1) H') :
  hcall PR f_ref11_Paint_Scan ⟨[.pointer (some ⟨qb, 0, none⟩), .int .u64 k]⟩ H K := by
 have hs7 := (rheap_ok h hi).obs
 have hlt0 : p.lt 800000 := hlt
 obtain ⟨z, h0⟩ := St.fixEx (A := rheapParts rb s) h hi
 have hil := ltOfGet hi
 have hi0 : (L.set i (Prt.list (rheapParts rb s z)))[i]? = some (Prt.list (rheapParts rb s z)) := by simp [hil]
 have hj0 : (L.set i (Prt.list (rheapParts rb s z)))[j]? = some (RPaint qb rb p) := by rw [List.getElem?_set_ne hij]; exact hj
 have hK : ∀ H', St H0 ((L.set i (Prt.list (rheapParts rb s z))).set j (RPaint qb rb (pScan s p k).2)) H' → K (.bool (pScan s p k).1) H' := fun H' h' => hK H' (by
  have h2 := St.unfix (A := rheapParts rb s) (x := z) (i := i) h' (by rw [List.getElem?_set_ne (Ne.symm hij)]; exact hi0)
  rw [List.set_comm _ _ hij, List.set_set] at h2
  have : L.set i (Prt.ex fun x => Prt.list (rheapParts rb s x)) = L := List.set_self hi
  rw [List.set_comm _ _ (Ne.symm hij), this] at h2
  exact h2)
 have hB : RHl (Prt.list (rheapParts rb s z)) rb s := .inr ⟨z, rfl⟩
 generalize hLL : L.set i (Prt.list (rheapParts rb s z)) = LL at *
 clear hLL hi hj h
 obtain ⟨x, M, g, hf, hM, back⟩ := rpaintTakeN h0 hj0
 have hi' := hM i _ hi0 hij
 have ho := hf.1
 apply den_ref11_Paint_Scan
 unfold B_ref11_Paint_Scan
 have hsame : ∀ (e : pScan s p k = (false, p)), K (.bool false) H := fun e => by
  have hK := hK H
  rw [e, List.set_self hj0] at hK
  exact hK h0
 have gz := St.open (i := i + 6) g hi'
 obtain ⟨hp3, hs⟩ := gz.fact (i := 4) (p := z.ps.map (·.1) = s.obs ∧ s.ok) rfl
 refine rFindC g hf.1.marks (by have := hlt.1; omega) (fun hl => ?_) fun m v b o hm hl hmp => ?_
 ·simp only [Za,Zb,Zc,Zd,Zf,Zh,Zi,Zk,Zl,Zm,Zn,Zo,Zp,Zr,Zs,Zx,Zt,Zu,Zy,Zz,Zv,Zw,ZA,ZB,ZC,ZD]
  have hns : K (.bool false) H := hsame (by unfold pScan; rw [hl]; cases hGet s k <;> rfl)
  refine ldP_of (g.cell (i := 0) rfl rfl) (rGetC gz hp3 hs (fun hg => ?_) fun jj o' bo hjj hk hg hjo => ?_)
  ·simp only [Za,Zb,Zc,Zd,Zf,Zh,Zi,Zk,Zl,Zm,Zn,Zo,Zp,Zr,Zs,Zx,Zt,Zu,Zy,Zz,Zv,Zw,ZA,ZB,ZC,ZD]
   exact hns
  ·simp only [Za,Zb,Zc,Zd,Zf,Zh,Zi,Zk,Zl,Zm,Zn,Zo,Zp,Zr,Zs,Zx,Zt,Zu,Zy,Zz,Zv,Zw,ZA,ZB,ZC,ZD]
   exact hns
 ·simp only [Za,Zb,Zc,Zd,Zf,Zh,Zi,Zk,Zl,Zm,Zn,Zo,Zp,Zr,Zs,Zx,Zt,Zu,Zy,Zz,Zv,Zw,ZA,ZB,ZC,ZD]
  obtain ⟨w1, w2⟩ := v
  have hml := ltOfGet hm
  have hrd := g.row_rd (i := 2) rfl
  have hcel : ∀ j, j < 3 → hcell H ⟨b, o + m * 3 + j, none⟩ = (markC (k, (w1, w2)))[j]? := fun j hj => by
   have := hrd.cel_at' markC_len (0, 0, false) hmp hml hj
   rw [List.getD_eq_getElem?_getD, hm] at this
   exact this
  refine ldP_of (g.cell (i := 0) rfl rfl) (rGetC gz hp3 hs (fun hg => ?_) fun jj o' bo hjj hk hg hjo => ?_)
  ·simp only [Za,Zb,Zc,Zd,Zf,Zh,Zi,Zk,Zl,Zm,Zn,Zo,Zp,Zr,Zs,Zx,Zt,Zu,Zy,Zz,Zv,Zw,ZA,ZB,ZC,ZD]
   have hns : K (.bool false) H := hsame (by unfold pScan; rw [hg])
   refine ldB_of (hcel 2 (by omega)) ?_
   cases w2
   ·exact hns
   ·exact hns
  ·simp only [Za,Zb,Zc,Zd,Zf,Zh,Zi,Zk,Zl,Zm,Zn,Zo,Zp,Zr,Zs,Zx,Zt,Zu,Zy,Zz,Zv,Zw,ZA,ZB,ZC,ZD]
   refine ldB_of (hcel 2 (by omega)) ?_
   cases w2
   ·exact hsame (by unfold pScan; rw [hg, hl])
   simp only [Bool.not_true, Zw]
   have hsc : pScan s p k = (true, pShades s { p with marks := mput p.marks k (w1, false) } o'.refs w1) := by simp only [pScan, hg, hl]
   have ok1 := ho.mark (k := k) (mlook_ranks ho hl) (g := false)
   have e1 : mput p.marks k (w1, false) = p.marks.set m (k, (w1, false)) := mput_set ho.marks hm
   rw [hsc] at hK
   have hlt0 : ({ p with marks := mput p.marks k (w1, false) } : Ps).lt 800000 := ⟨by show (mput p.marks k (w1, false)).length ≤ _; rw [mput_has_length hl]; exact hlt.1, hlt.2⟩
   rw [Nat.add_assoc]
   refine g.poke (i := 2) rfl hmp (by omega) fun H1 g1 => ?_
   have e2 : (cel markC p.marks).set (m * 3 + 2) (.bool false) = cel markC (mput p.marks k (w1, false)) := by
    rw [e1, cel_set1 markC_len (y := (k, (w1, false))) (0, 0, false) hml (by omega) (by rw [List.getD_eq_getElem?_getD, hm]; rfl)]
   have e3 : p.marks.length = (mput p.marks k (w1, false)).length := (mput_has_length hl).symm
   have g2 := g1.refact (i := 5) (q := ({ p with marks := mput p.marks k (w1, false) } : Ps).ok ∧ keyed x.t ∧ x.t.Perm ({ p with marks := mput p.marks k (w1, false) } : Ps).met) rfl ⟨ok1, hf.2⟩
   simp only [List.set_cons_succ, List.set_cons_zero, rpaintParts, List.cons_append] at g2
   rw [e2] at g2
   have g3 : St H0 (rpaintParts qb rb { p with marks := mput p.marks k (w1, false) } x ++ M) H1 := by
    unfold rpaintParts
    simp only [← e3]
    exact g2
   have hrd1 := g3.row_rd (i := 2) rfl
   have hm1 : (mput p.marks k (w1, false))[m]? = some (k, (w1, false)) := by rw [e1]; simp [hml]
   have c1 : hcell H1 ⟨b, o + m * 3 + 1, none⟩ = some (.int .i64 w1) := by
    have := hrd1.cel_at' markC_len (0, 0, false) hmp (by rw [← e3]; exact hml) (j := 1) (by omega)
    rw [List.getD_eq_getElem?_getD, hm1] at this
    exact this
   refine ldI_of c1 ?_
   have g4 := back [] _ x H1 g3
   clear c1 hrd1 g3 g2 g1 hcel hrd
   have hr7 := (hs7 o' (hGet_mem hg).1).refs
   have hjl := ltOfGet hj0
   refine ⟨fun t H' => ∃ y : Nat, t = y ∧ y ≤ o'.refs.length ∧ St H0 (LL.set j (RPaint qb rb (pShades s { p with marks := mput p.marks k (w1, false) } (o'.refs.take y) w1))) H', fun t _ => (o'.refs.length - t).toNat, ⟨0, rfl, by omega, by rw [List.take_zero]; exact g4⟩, ?_⟩
   rintro t H2 ⟨y, rfl, hy, g5⟩
   have hi5 : (LL.set j (RPaint qb rb (pShades s { p with marks := mput p.marks k (w1, false) } (o'.refs.take y) w1)))[i]? = some (Prt.list (rheapParts rb s z)) := by rw [List.getElem?_set_ne (Ne.symm hij)]; exact hi0
   obtain ⟨rp, rc, vp, vc, tv⟩ := rthingV (g5.open hi5) hjj
   simp only [Za,Zb,Zc,Zd,Zf,Zh,Zi,Zk,Zl,Zm,Zn,Zo,Zp,Zr,Zs,Zx,Zt,Zu,Zy,Zz,Zv,Zw,ZA,ZB,ZC,ZD]
   refine ldSl_of tv.refs ?_
   by_cases hc : (y : Int) < (o'.refs.length : Int)
   ·refine bif_pos hc (ldSl_of tv.refs (idxS Id.len noId tv.rrow (by omega) (by omega) hc fun b1 o1 _ _ hcc => ?_))
    have c0 := hcc 0 (by omega)
    have c1 := hcc 1 (by omega)
    simp only [Za,Zb,Zc,Zd,Zf,Zh,Zi,Zk,Zl,Zm,Zn,Zo,Zp,Zr,Zs,Zx,Zt,Zu,Zy,Zz,Zv,Zw,ZA,ZB,ZC,ZD]
    refine ldI_of c0 (ldI_of c1 ?_)
    rw [Int.toNat_natCast]
    refine rShadeG (i := i) (j := j) (y := o'.refs.getD y noId) g5 hi5 hB (p := pShades s { p with marks := mput p.marks k (w1, false) } (o'.refs.take y) w1) (by simp [hjl]) hij ?_ fun H9 g13 => ?_
    ·exact (hlt0.shades (l := o'.refs.take y)).mono (by rw [List.length_take]; omega)
    ·rw [wrap_i64 (by omega) (by omega)]
     refine ⟨⟨y + 1, by omega, by omega, ?_⟩, by (try dsimp only); omega⟩
     rw [pShades_take (by omega)]
     rw [List.set_set] at g13
     exact g13
   ·obtain rfl : y = o'.refs.length := by omega
    rw [List.take_length] at g5
    exact bif_neg hc (hK H2 g5)
end
end Go.Proofs.YtflfodcemnapeaaGreat

namespace Go.Proofs.YtflfodcemnapeaaGreat
open Go
open Go.Shelf Go.RowKit Go.Lib
def sortOut_ren : Go.Shelf.Ren := ⟨fun | 6 => 135 | 15 => 157 | 14 => 156 | 28 => 172 | 29 => 173 | 20 => 164 | 21 => 165 | 22 => 166 | 23 => 167 | 24 => 168 | 25 => 169 | 26 => 170 | 27 => 171 | 46 => 178 | 47 => 179 | 48 => 180 | 49 => 181 | 50 => 182 | 57 => 191 | n => n, fun | 22 => 82 | 24 => 176 | 25 => 214 | 3 => 3 | 39 => 208 | 0 => 0 | 53 => 232 | 55 => 40 | 4 => 4 | 46 => 226 | 45 => 225 | 50 => 170 | 5 => 5 | 9 => 9 | 66 => 238 | 70 => 241 | 76 => 248 | 77 => 249 | n => n, fun | n => n⟩
theorem sortOut : Go.Proofs.SlLaysF0.n6 Tryz.prog sortOut_ren := {
 mixed := by kernel_rfl
 f6 := ⟨Tryz.f135.name, by decide, Tryz.func135.trans (congrArg some (by kernel_rfl))⟩
 f14 := ⟨Tryz.f156.name, by decide, Tryz.func156.trans (congrArg some (by kernel_rfl))⟩
 f15 := Tryz.func157.trans (congrArg some (by kernel_rfl))
 f20 := ⟨Tryz.f164.name, by decide, Tryz.func164.trans (congrArg some (by kernel_rfl))⟩
 f21 := ⟨Tryz.f165.name, by decide, Tryz.func165.trans (congrArg some (by kernel_rfl))⟩
 f22 := ⟨Tryz.f166.name, by decide, Tryz.func166.trans (congrArg some (by kernel_rfl))⟩
 f23 := ⟨Tryz.f167.name, by decide, Tryz.func167.trans (congrArg some (by kernel_rfl))⟩
 f24 := ⟨Tryz.f168.name, by decide, Tryz.func168.trans (congrArg some (by kernel_rfl))⟩
 f25 := ⟨Tryz.f169.name, by decide, Tryz.func169.trans (congrArg some (by kernel_rfl))⟩
 f26 := ⟨Tryz.f170.name, by decide, Tryz.func170.trans (congrArg some (by kernel_rfl))⟩
 f27 := ⟨Tryz.f171.name, by decide, Tryz.func171.trans (congrArg some (by kernel_rfl))⟩
 f28 := Tryz.func172.trans (congrArg some (by kernel_rfl))
 f29 := Tryz.func173.trans (congrArg some (by kernel_rfl))
 f46 := ⟨Tryz.f178.name, by decide, Tryz.func178.trans (congrArg some (by kernel_rfl))⟩
 f47 := Tryz.func179.trans (congrArg some (by kernel_rfl))
 f48 := Tryz.func180.trans (congrArg some (by kernel_rfl))
 f49 := ⟨Tryz.f181.name, by decide, Tryz.func181.trans (congrArg some (by kernel_rfl))⟩
 f50 := ⟨Tryz.f182.name, by decide, Tryz.func182.trans (congrArg some (by kernel_rfl))⟩
 f57 := ⟨Tryz.f191.name, by decide, Tryz.func191.trans (congrArg some (by kernel_rfl))⟩
 t0 := Tryz.underlying0
 a0 := Tryz.isAgg0
 z0 := Tryz.sizeOf0
 v0 := Tryz.zeroValue0
 t3 := Tryz.underlying3
 a3 := Tryz.isAgg3
 z3 := Tryz.sizeOf3
 v3 := Tryz.zeroValue3
 t4 := Tryz.underlying4
 a4 := Tryz.isAgg4
 z4 := Tryz.sizeOf4
 v4 := Tryz.zeroValue4
 t5 := Tryz.underlying5
 a5 := Tryz.isAgg5
 z5 := Tryz.sizeOf5
 v5 := Tryz.zeroValue5
 t9 := Tryz.underlying9
 a9 := Tryz.isAgg9
 z9 := Tryz.sizeOf9
 v9 := Tryz.zeroValue9
 t22 := Tryz.underlying82
 a22 := Tryz.isAgg82
 z22 := Tryz.sizeOf82
 v22 := Tryz.zeroValue82
 t25 := Tryz.underlying214
 a25 := Tryz.isAgg214
 z25 := Tryz.sizeOf214
 v25 := Tryz.zeroValue214
 t39 := Tryz.underlying208
 a39 := Tryz.isAgg208
 z39 := Tryz.sizeOf208
 v39 := Tryz.zeroValue208
 t45 := Tryz.underlying225
 a45 := Tryz.isAgg225
 z45 := Tryz.sizeOf225
 v45 := Tryz.zeroValue225
 t46 := Tryz.underlying226
 a46 := Tryz.isAgg226
 z46 := Tryz.sizeOf226
 v46 := Tryz.zeroValue226
 t50 := Tryz.underlying170
 a50 := Tryz.isAgg170
 z50 := Tryz.sizeOf170
 v50 := Tryz.zeroValue170
 t53 := Tryz.underlying232
 a53 := Tryz.isAgg232
 z53 := Tryz.sizeOf232
 v53 := Tryz.zeroValue232
 t55 := Tryz.underlying40
 a55 := Tryz.isAgg40
 z55 := Tryz.sizeOf40
 v55 := Tryz.zeroValue40
 t66 := Tryz.underlying238
 a66 := Tryz.isAgg238
 z66 := Tryz.sizeOf238
 v66 := Tryz.zeroValue238
 t70 := Tryz.underlying241
 a70 := Tryz.isAgg241
 z70 := Tryz.sizeOf241
 v70 := Tryz.zeroValue241
 t76 := Tryz.underlying248
 a76 := Tryz.isAgg248
 z76 := Tryz.sizeOf248
 v76 := Tryz.zeroValue248
 t77 := Tryz.underlying249
 a77 := Tryz.isAgg249
 z77 := Tryz.sizeOf249
 v77 := Tryz.zeroValue249 }

end Go.Proofs.YtflfodcemnapeaaGreat

namespace Go.Proofs.YtflfodcemnapeaaGreat
set_option linter.unusedSimpArgs false
set_option linter.unusedVariables false
open Go
open Go.Shelf Go.RowKit Go.Lib
instance : Inhabited (Id × Int) := ⟨(noId, 0)⟩

/-- All that was met, rising. -/
def outsOf (p : Ps) : List (Id × Int) := p.met.foldl (fun t e => tPut t e.1 e.2) []
theorem outs_fold : ∀ {l : List (Id × Int)} {t m : List (Id × Int)}, keyed t → t.Perm m → mnod (m ++ l) → (∀ e ∈ m ++ l, isId e.1) → keyed (l.foldl (fun t e => tPut t e.1 e.2) t) ∧ (l.foldl (fun t e => tPut t e.1 e.2) t).Perm (m ++ l)
 | [], t, m, ht, hp, _, _ => ⟨ht, by rw [List.append_nil]; exact hp⟩
 | e :: l, t, m, ht, hp, hn, hid => by
  have hnm : mnod m := by
   unfold mnod at hn ⊢
   rw [List.map_append] at hn
   exact (List.nodup_append.1 hn).1
  have hno : mhas m e.1 = false := mhas_false.2 fun q hq he => by
   unfold mnod at hn
   rw [List.map_append, List.nodup_append] at hn
   exact hn.2.2 q.1 (List.mem_map.2 ⟨q, hq, rfl⟩) e.1 (by simp) he
  have h1 := tPut_perm ht hp hnm (fun q hq => hid q (List.mem_append.2 (.inl hq))) (hid e (by simp)) e.2
  have h2 : mput m e.1 e.2 = m ++ [e] := by unfold mput; rw [hno, if_neg (by decide)]
  rw [h2] at h1
  have := outs_fold (l := l) (tPut_keyed ht e.1 e.2) h1 (by rw [List.append_assoc]; exact hn) (by rw [List.append_assoc]; exact hid)
  rw [List.append_assoc] at this
  exact this
theorem outsOf_ok {p : Ps} (h : p.ok) : keyed (outsOf p) ∧ (outsOf p).Perm p.met := by
 have := outs_fold (l := p.met) (t := []) (m := []) List.Pairwise.nil (List.Perm.refl _) h.met fun e he => (h.ids e he).1
 exact this
theorem outsOf_is {p : Ps} (h : p.ok) {t : List (Id × Int)} (ht : keyed t) (hp : t.Perm p.met) : t = outsOf p := by
 obtain ⟨h1, h2⟩ := outsOf_ok h
 exact keyed_unique ht h1 (hp.trans h2.symm)

section
variable {H0 H : Hp} {L M : List Prt} {i j hb pb rb qb : Nat} {s : Hs} {p : Ps} {K : Value → Hp → Prop}
theorem outsCmp (x y : Id × Int) (H : Hp) (K : Value → Hp → Prop) (hK : ∀ H', Keep Nothing H H' → K (.int .i64 (if keyV x.1 < keyV y.1 then -1 else 1)) H') : hcall PR f_paint_Paint_Outs_1 #[.agg (outC x).toArray, .agg (outC y).toArray] H K := by
 refine den_paint_Paint_Outs_1 (aNode1 := x.1.n) (aSerial2 := x.1.s) (aRank3 := x.2) (bNode4 := y.1.n) (bSerial5 := y.1.s) (bRank6 := y.2) ?_
 unfold B_paint_Paint_Outs_1
 intro b7 hb7
 have h1 := (St.start H).alloc (o := .cells #[.int .i64 x.1.n, .int .u64 x.1.s, .int .i64 x.2] ty_api_Out) hb7
 intro b9 hb9
 have h2 := h1.alloc (o := .cells #[.int .i64 y.1.n, .int .u64 y.1.s, .int .i64 y.2] ty_api_Out) hb9
 refine ldI_of (h2.cell (i := 1) rfl rfl) (ldI_of (h2.cell (i := 1) rfl rfl) (ldI_of (h2.cell (i := 0) rfl rfl) (ldI_of (h2.cell (i := 0) rfl rfl) (keyC h2 fun H3 h3 => ?_))))
 simp only [Za,Zb,Zc,Zd,Zf,Zh,Zi,Zk,Zl,Zm,Zn,Zo,Zp,Zr,Zs,Zx,Zt,Zu,Zy,Zz,Zv,Zw,ZA,ZB,ZC,ZD]
 refine ⟨ldI_of (h3.cell (i := 0) rfl rfl) (ldI_of (h3.cell (i := 0) rfl rfl) rfl), keyC h3 fun H4 h4 => ?_⟩
 simp only [Za,Zb,Zc,Zd,Zf,Zh,Zi,Zk,Zl,Zm,Zn,Zo,Zp,Zr,Zs,Zx,Zt,Zu,Zy,Zz,Zv,Zw,ZA,ZB,ZC,ZD]
 have hK := hK H4 h4.keep
 by_cases hlt : keyV x.1 < keyV y.1
 ·rw [if_pos hlt] at hK
  exact bif_pos hlt hK
 ·rw [if_neg hlt] at hK
  exact bif_neg hlt hK

theorem pOutsC (h : St H0 L H) (hj : L[j]? = some (PaintP pb hb p)) (hl : p.met.length ≤ 900000)
  (hK : ∀ q c H', St H0 (Prt.row 3 q (outsOf p).length c (cel outC (outsOf p)) :: L) H' → K (.slice q (outsOf p).length c) H') :
  hcall PR f_paint_Paint_Outs ⟨[.pointer (some ⟨pb, 0, none⟩)]⟩ H K := by
 obtain ⟨x, M, g, ho, hM, backN⟩ := paintTakeN h hj
 apply den_paint_Paint_Outs
 unfold B_paint_Paint_Outs
 simp only [Za,Zb,Zc,Zd,Zf,Zh,Zi,Zk,Zl,Zm,Zn,Zo,Zp,Zr,Zs,Zx,Zt,Zu,Zy,Zz,Zv,Zw,ZA,ZB,ZC,ZD]
 refine ldM_of (g.cell (i := 0) rfl rfl) (g.mrange (i := 2) rfl me_map fun it H2 g2 => ?_)
 simp only [Za,Zb,Zc,Zd,Zf,Zh,Zi,Zk,Zl,Zm,Zn,Zo,Zp,Zr,Zs,Zx,Zt,Zu,Zy,Zz,Zv,Zw,ZA,ZB,ZC,ZD]
 have g2 := g2.row (H' := _) (Own.nil 3) ((Goes.refl Nothing _).less fun c hc => absurd hc blk_none)
 let es := ments Id.val (Value.int .i64) p.met
 refine ⟨fun oP oL oC H' => ∃ (vis todo : List (Id × Int)) (cur : Option (Value × Value)), p.met.Perm (vis ++ todo) ∧ oL = vis.length ∧ St H0 (Prt.row 3 oP oL oC (cel outC vis) :: (paintParts pb hb p x ++ M).set 2 (Prt.mpit x.me it es (ments Id.val (Value.int .i64) todo) cur)) H',
  fun _ _ _ H' => leftOf H' x.me it, ⟨[], p.met, none, List.Perm.refl _, rfl, g2⟩, ?_⟩
 rintro oP oL oC H3 ⟨vis, todo, cur, hperm, rfl, g3⟩
 have hvl : vis.length ≤ p.met.length := by rw [hperm.length_eq]; simp
 have hleft := g3.mleft (i := 3) rfl
 intro R13 hR13
 refine g3.mnextT (i := 3) (f := Value.int .i64) rfl (fun e => ?_) fun q A B e H4 g4 => ?_
 ·subst e
  rw [List.append_nil] at hperm
  refine nextC_over (hR13 false H3 ?_)
  clear hR13
  (try simp only [Za,Zb,Zc,Zd,Zf,Zh,Zi,Zk,Zl,Zm,Zn,Zo,Zp,Zr,Zs,Zx,Zt,Zu,Zy,Zz,Zv,Zw,ZA,ZB,ZC,ZD])
  have g5 := g3.mleave (i := 3) rfl
  have g6 : St H0 ([Prt.row 3 oP vis.length oC (cel outC vis)] ++ (paintParts pb hb p x ++ M)) H3 := g5
  have g7 := backN _ p x H3 g6
  rw [List.set_self hj] at g7
  have g7 : St H0 (Prt.row 3 oP vis.length oC (cel outC vis) :: L) H3 := g7
  refine sortC (enc := outC) (l := vis) sortOut (by omega) Tryz.isAgg176 Tryz.sizeOf176 outC_len (fun e v hv => by
   simp [outC] at hv
   rcases hv with rfl | rfl | rfl <;> rfl) (fun e : Id × Int => keyV e.1) f_paint_Paint_Outs_1 (Go.Proofs.enters_of Tryz.func136 (by kernel_rfl) rfl) outsCmp g7 (i := 0) rfl (by omega) fun l' H5 hp' hs' g8 => ?_
  (try simp only [Za,Zb,Zc,Zd,Zf,Zh,Zi,Zk,Zl,Zm,Zn,Zo,Zp,Zr,Zs,Zx,Zt,Zu,Zy,Zz,Zv,Zw,ZA,ZB,ZC,ZD])
  have hperm' : l'.Perm p.met := hp'.trans hperm.symm
  have hids : ∀ e ∈ l', isId e.1 := fun e he => (ho.ids e (hperm'.subset he)).1
  have hnod : mnod l' := (hperm'.map _).nodup_iff.2 ho.met
  have hkeyed : keyed l' := by
   unfold keyed
   unfold mnod List.Nodup at hnod
   rw [List.pairwise_map] at hnod
   refine (List.Pairwise.and hs' hnod).imp_of_mem fun {a b} ha hb hab => ?_
   have ia := hids a ha
   have ib := hids b hb
   have h1 := hab.1
   rw [keyV_id ia, keyV_id ib] at h1
   rcases Int.lt_or_lt_of_ne (fun e => hab.2 (keyOf_inj ia ib e)) with h | h
   ·exact h
   ·exact absurd h h1
  have e := outsOf_is ho hkeyed hperm'
  have hlen : vis.length = (outsOf p).length := by rw [← e]; exact hp'.length_eq.symm
  rw [e, hlen] at g8
  rw [hlen]
  exact hK oP oC H5 g8
 ·refine nextC_more (hR13 true H4 ?_)
  clear hR13
  simp only [Za,Zb,Zc,Zd,Zf,Zh,Zi,Zk,Zl,Zm,Zn,Zo,Zp,Zr,Zs,Zx,Zt,Zu,Zy,Zz,Zv,Zw,ZA,ZB,ZC,ZD]
  have g4 : St H0 (Prt.row 3 oP vis.length oC (cel outC vis) :: (paintParts pb hb p x ++ M).set 2 (Prt.mpit x.me it es (ments Id.val (Value.int .i64) (A ++ B)) (some (Id.val q.1, .int .i64 q.2)))) H4 := g4
  refine g4.mentry (i := 3) rfl ?_
  simp only [Za,Zb,Zc,Zd,Zf,Zh,Zi,Zk,Zl,Zm,Zn,Zo,Zp,Zr,Zs,Zx,Zt,Zu,Zy,Zz,Zv,Zw,ZA,ZB,ZC,ZD]
  have hdec0 : leftOf H4 x.me it < leftOf H3 x.me it := by
   rw [hleft, g4.mleft (i := 3) rfl, e]
   simp [ments]
  refine box2 g4 fun b25 H5 g5 => ?_
  refine ldI_of (g5.cell (i := 0) rfl rfl) (ldI_of (g5.cell (i := 0) rfl rfl) ?_)
  refine lit_ty_Sapi_Out (m := 1) (c := #[.int .i64 q.1.n, .int .u64 q.1.s, .int .i64 q.2]) (g5.row_own (i := 1) rfl) rfl (fun z hz => by simp at hz; rcases hz with rfl | rfl | rfl <;> rfl) (by omega) fun p' cap' H6 ho' hg' => ?_
  simp only [Za,Zb,Zc,Zd,Zf,Zh,Zi,Zk,Zl,Zm,Zn,Zo,Zp,Zr,Zs,Zx,Zt,Zu,Zy,Zz,Zv,Zw,ZA,ZB,ZC,ZD]
  have g6 := (g5.row_to (i := 1) rfl ho' hg').less
  have hperm' : p.met.Perm ((vis ++ [q]) ++ (A ++ B)) := by
   rw [e] at hperm
   refine hperm.trans ?_
   rw [List.append_assoc]
   exact List.perm_middle.append_left vis |> fun h => h
  have e1 : cel outC vis ++ (#[Value.int .i64 q.1.n, .int .u64 q.1.s, .int .i64 q.2] : Array Value).toList = cel outC (vis ++ [q]) := by
   rw [cel_append]
   simp [cel, outC]
  rw [e1] at g6
  have g6 : St H0 (Prt.row 3 p' (vis.length + 1) cap' (cel outC (vis ++ [q])) :: (paintParts pb hb p x ++ M).set 2 (Prt.mpit x.me it es (ments Id.val (Value.int .i64) (A ++ B)) (some (Id.val q.1, .int .i64 q.2)))) H6 := g6
  refine ⟨⟨vis ++ [q], A ++ B, _, hperm', by simp, g6⟩, ?_⟩
  rw [g6.mleft (i := 3) rfl, hleft, e]
  simp [ments]

theorem rOutsC (h : St H0 L H) (hj : L[j]? = some (RPaint qb rb p)) (hl : p.met.length ≤ 900000)
  (hK : ∀ q c H', St H0 (Prt.row 3 q (outsOf p).length c (cel outC (outsOf p)) :: L) H' → K (.slice q (outsOf p).length c) H') :
  hcall PR f_ref11_Paint_Outs ⟨[.pointer (some ⟨qb, 0, none⟩)]⟩ H K := by
 obtain ⟨x, M, g, hf, hM, backN⟩ := rpaintTakeN h hj
 have e := outsOf_is hf.1 hf.2.1 hf.2.2
 have htl : x.t.length = p.met.length := hf.2.2.length_eq
 apply den_ref11_Paint_Outs
 unfold B_ref11_Paint_Outs
 intro b2 hb2
 have g1 := g.alloc (o := .cells #[] ty_api_Out) hb2
 simp only [Za,Zb,Zc,Zd,Zf,Zh,Zi,Zk,Zl,Zm,Zn,Zo,Zp,Zr,Zs,Zx,Zt,Zu,Zy,Zz,Zv,Zw,ZA,ZB,ZC,ZD]
 refine ldSl_of (g1.cell (i := 1) rfl rfl) (g1.copy (i := 0) rfl tu_ty_Sapi_Out tu_ty_Sapi_Out ti_ty_api_Out rfl (by decide) (g1.row_rd (i := 5) rfl) one_outC (by omega) fun q c H2 g2 => ?_)
 simp only [Za,Zb,Zc,Zd,Zf,Zh,Zi,Zk,Zl,Zm,Zn,Zo,Zp,Zr,Zs,Zx,Zt,Zu,Zy,Zz,Zv,Zw,ZA,ZB,ZC,ZD]
 have g3 : St H0 ([Prt.row 3 q x.t.length c (cel outC x.t)] ++ (rpaintParts qb rb p x ++ M)) H2 := g2
 have g4 := backN _ p x H2 g3
 rw [List.set_self hj, e] at g4
 rw [e]
 exact hK q c H2 g4

/-- The same list, told twice. -/
theorem handOutsC {l : List (Id × Int)} {a b : Option Addr} {n c d : Nat} (ha : Rd H 3 a n (cel outC l)) (hb : Rd H 3 b n (cel outC l)) (hn : n ≤ 9223372036854775807) (hK : K (.bool true) H) : hcall PR f_hand_Outs ⟨[.slice a n c, .slice b n d]⟩ H K := by
 apply den_hand_Outs
 unfold B_hand_Outs
 refine bif_neqf rfl ?_
 refine ⟨fun i H' => H' = H ∧ ∃ y : Nat, i = y ∧ y ≤ n, fun i _ => ((n : Int) - i).toNat, ⟨rfl, 0, rfl, by omega⟩, ?_⟩
 rintro i H' ⟨hH, y, rfl, hy⟩
 subst hH
 by_cases hc : (y : Int) < (n : Int)
 rotate_left
 ·exact bif_neg hc hK
 refine bif_pos hc (idxS outC_len (noId, 0) ha (by omega) (by omega) hc fun b1 o1 hp1 _ hc1 => ?_)
 have a0 := hc1 0 (by omega)
 have a1 := hc1 1 (by omega)
 have a2 := hc1 2 (by omega)
 simp only [Za,Zb,Zc,Zd,Zf,Zh,Zi,Zk,Zl,Zm,Zn,Zo,Zp,Zr,Zs,Zx,Zt,Zu,Zy,Zz,Zv,Zw,ZA,ZB,ZC,ZD]
 refine ldI_of a0 (ldI_of a1 (idxS outC_len (noId, 0) hb (by omega) (by omega) hc fun b2 o2 hp2 _ hc2 => ?_))
 have e0 := hc2 0 (by omega)
 have e1 := hc2 1 (by omega)
 have e2 := hc2 2 (by omega)
 simp only [Za,Zb,Zc,Zd,Zf,Zh,Zi,Zk,Zl,Zm,Zn,Zo,Zp,Zr,Zs,Zx,Zt,Zu,Zy,Zz,Zv,Zw,ZA,ZB,ZC,ZD]
 refine ldI_of e0 (ldI_of e1 (idNe ?_))
 simp only [decide_true]
 simp only [Za,Zb,Zc,Zd,Zf,Zh,Zi,Zk,Zl,Zm,Zn,Zo,Zp,Zr,Zs,Zx,Zt,Zu,Zy,Zz,Zv,Zw,ZA,ZB,ZC,ZD]
 refine idxA_of ha (by omega) hc fun b' o' hp' _ => ?_
 obtain ⟨rfl, rfl⟩ : b1 = b' ∧ o1 = o' := by rw [hp1] at hp'; simpa using hp'
 simp only [Za,Zb,Zc,Zd,Zf,Zh,Zi,Zk,Zl,Zm,Zn,Zo,Zp,Zr,Zs,Zx,Zt,Zu,Zy,Zz,Zv,Zw,ZA,ZB,ZC,ZD]
 refine ldI_of a2 (idxA_of hb (by omega) hc fun b' o' hp' _ => ?_)
 obtain ⟨rfl, rfl⟩ : b2 = b' ∧ o2 = o' := by rw [hp2] at hp'; simpa using hp'
 simp only [Za,Zb,Zc,Zd,Zf,Zh,Zi,Zk,Zl,Zm,Zn,Zo,Zp,Zr,Zs,Zx,Zt,Zu,Zy,Zz,Zv,Zw,ZA,ZB,ZC,ZD]
 refine ldI_of e2 (bif_neqf rfl ?_)
 rw [wrap_i64 (by omega) (by omega)]
 exact ⟨⟨by trivial, y + 1, by omega, by omega⟩, by (try dsimp only); omega⟩
end
end Go.Proofs.YtflfodcemnapeaaGreat

namespace Go.Proofs.YtflfodcemnapeaaGreat
set_option linter.unusedSimpArgs false
set_option linter.unusedVariables false
open Go
section
variable {s : Hs} {p : Ps} {x y : Id} {r q k : Int}
end
end Go.Proofs.YtflfodcemnapeaaGreat
