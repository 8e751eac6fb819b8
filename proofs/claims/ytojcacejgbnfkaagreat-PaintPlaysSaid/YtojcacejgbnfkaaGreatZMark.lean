/- Merged by merge.py: DenMark, MkS, MkT, MkL, GphR, MkR. No condition. -/
import Derived.Test.YtojcacejgbnfkaaGreatZNum
import Derived.Test.YtojcacejgbnfkaaGreatZPaint
import Derived.Test.YtojcacejgbnfkaaGreatZSweep

namespace Go.Proofs.YtojcacejgbnfkaaGreat
open Go
set_option linter.unusedVariables false
set_option maxRecDepth 100000
end Go.Proofs.YtojcacejgbnfkaaGreat

namespace Go.Proofs.YtojcacejgbnfkaaGreat
set_option linter.unusedSimpArgs false
set_option linter.unusedVariables false
open Go
/-- A marker's places. -/
structure Mk where
  place : Int
  pass : Bool
  at_ : Int
def mkSee (s : Hs) (p : Ps) (n : Int) : Ps := match hGet s n with
  | some o => if 0 < o.din then pShade s p ⟨s.node, n⟩ o.din else p
  | none => p
def mkStep (s : Hs) (p : Ps) (m : Mk) : Bool × Ps × Mk :=
  match p.stack.getLast? with
  | some k => (true, (pScan s (pPop p).2 k).2, m)
  | none =>
    if m.pass = true ∧ (hNext s m.at_).2 = true then (true, (pScan s p (hNext s m.at_).1).2, { m with at_ := (hNext s m.at_).1 })
    else if p.over then (true, pRest p, ⟨m.place, true, 0⟩)
    else if (hNext s m.place).2 = false then (false, p, { m with pass := false })
    else (true, mkSee s p (hNext s m.place).1, { m with pass := false, place := (hNext s m.place).1 })
section
variable {H0 H : Hp} {L M : List Prt} {i j k hb pb mb rb qb : Nat} {s : Hs} {p : Ps} {m : Mk} {K : Value → Hp → Prop}
end
end Go.Proofs.YtojcacejgbnfkaaGreat

namespace Go.Proofs.YtojcacejgbnfkaaGreat
set_option linter.unusedSimpArgs false
set_option linter.unusedVariables false
open Go
theorem sum_map_le {α : Type} {l : List α} {f g : α → Nat} (h : ∀ x ∈ l, f x ≤ g x) : (l.map f).sum ≤ (l.map g).sum := by
  induction l with
  | nil => exact Nat.le_refl _
  | cons a l ih =>
    simp only [List.map_cons, List.sum_cons]
    have := h a (by simp)
    have := ih fun x hx => h x (by simp [hx])
    omega
theorem sum_map_lt {α : Type} {l : List α} {f g : α → Nat} (h : ∀ x ∈ l, f x ≤ g x) (hx : ∃ x ∈ l, f x + 1 ≤ g x) : (l.map f).sum + 1 ≤ (l.map g).sum := by
  induction l with
  | nil => obtain ⟨x, hx, _⟩ := hx; cases hx
  | cons a l ih =>
    simp only [List.map_cons, List.sum_cons]
    have h1 := h a (by simp)
    have h2 := sum_map_le (l := l) (f := f) (g := g) fun x hx => h x (by simp [hx])
    obtain ⟨x, hm, hlt⟩ := hx
    rcases List.mem_cons.1 hm with rfl | hm
    · omega
    · have := ih (fun x hx => h x (by simp [hx])) ⟨x, hm, hlt⟩
      omega

section
variable {s : Hs} {p : Ps} {x : Id} {r k : Int} {n : Nat} {m : Mk}
structure Mk.ok (m : Mk) : Prop where
  place : 0 ≤ m.place
  at_ : 0 ≤ m.at_
theorem hNext_pos (ho : s.ok) {q : Int} (h : (hNext s q).2 = true) : q < (hNext s q).1 ∧ 1 ≤ (hNext s q).1 ∧ (hNext s q).1 ≤ s.last := by
  obtain ⟨h1, h2⟩ := hNext_range ho h
  have := get_ser ho h2
  omega
theorem mkStep_end (h : (mkStep s p m).1 = false) : (mkStep s p m).2 = (p, { m with pass := false }) ∧ p.stack = [] ∧ p.over = false ∧ (m.pass = true → (hNext s m.at_).2 = false) ∧ (hNext s m.place).2 = false := by
  unfold mkStep at h ⊢
  split at h
  · cases h
  · rename_i hk
    split at h
    · cases h
    · rename_i hc
      rw [if_neg hc]
      split at h
      · cases h
      · rename_i hov
        rw [if_neg hov]
        split at h
        · rename_i hn
          rw [if_pos hn]
          refine ⟨rfl, List.getLast?_eq_none_iff.1 hk, by simpa using hov, fun hp => ?_, hn⟩
          cases hq : (hNext s m.at_).2
          · rfl
          · exact absurd ⟨hp, hq⟩ hc
        · cases h
end
end Go.Proofs.YtojcacejgbnfkaaGreat

namespace Go.Proofs.YtojcacejgbnfkaaGreat
set_option linter.unusedSimpArgs false
set_option linter.unusedVariables false
open Go
/-- An object can be reached from a root, with its rank. -/
inductive Rch (s : Hs) (B : Int → Int → Prop) : Int → Int → Prop
  | base {k r : Int} : B k r → Rch s B k r
  | step {k r : Int} {o : Ob} {x : Id} : Rch s B k r → hGet s k = some o → x ∈ o.refs → isId x → x.n = s.node → hGet s x.s ≠ none → Rch s B x.s r
def RchO (s : Hs) (B : Int → Int → Prop) (x : Id) (r : Int) : Prop := ∃ k o, Rch s B k r ∧ hGet s k = some o ∧ x ∈ o.refs ∧ isId x ∧ x.n ≠ s.node
structure Sound (s : Hs) (B : Int → Int → Prop) (p : Ps) : Prop where
  marks : ∀ k r g, mlook p.marks k = some (r, g) → hGet s k ≠ none ∧ Rch s B k r
  met : ∀ x r, mlook p.met x = some r → RchO s B x r
/-- What is grey waits on the stack, or the stack was over, or else A tells it. -/
def Greys (p : Ps) (A : Int → Prop) : Prop := ∀ k r, mlook p.marks k = some (r, true) → k ∈ p.stack ∨ p.over = true ∨ A k

section
variable {s : Hs} {p q : Ps} {x : Id} {r k : Int} {m : Mk} {B : Int → Int → Prop} {R A : Int → Prop}
theorem Sound.shade (h : Sound s B p) (h1 : isId x → x.n = s.node → hGet s x.s ≠ none → Rch s B x.s (clampR r)) (h2 : isId x → x.n ≠ s.node → RchO s B x (clampR r)) : Sound s B (pShade s p x r) := by
  refine ⟨fun k w g e => ?_, fun y w e => ?_⟩
  · rcases shade_marks (s := s) (p := p) (x := x) (r := r) with hm | ⟨a1, a2, a3, hm, _⟩
    · rw [hm] at e; exact h.marks k w g e
    · rw [hm, mlook_mput] at e
      by_cases ea : k = x.s
      · rw [if_pos ea] at e; cases e; rw [ea]; exact ⟨a3, h1 a1 a2 a3⟩
      · rw [if_neg ea] at e; exact h.marks k w g e
  · rcases shade_met (s := s) (p := p) (x := x) (r := r) with hm | ⟨a1, a2, hm, _⟩
    · rw [hm] at e; exact h.met y w e
    · rw [hm, mlook_mput] at e
      by_cases ea : y = x
      · rw [if_pos ea] at e; cases e; rw [ea]; exact h2 a1 a2
      · rw [if_neg ea] at e; exact h.met y w e
theorem Sound.shades {l : List Id} (h : Sound s B p) (h1 : ∀ x ∈ l, isId x → x.n = s.node → hGet s x.s ≠ none → Rch s B x.s (clampR r)) (h2 : ∀ x ∈ l, isId x → x.n ≠ s.node → RchO s B x (clampR r)) : Sound s B (pShades s p l r) := by
  unfold pShades
  induction l generalizing p with
  | nil => exact h
  | cons y l ih => exact ih (h.shade (h1 y (by simp)) (h2 y (by simp))) (fun x hx => h1 x (by simp [hx])) fun x hx => h2 x (by simp [hx])
theorem Sound.scan (h : Sound s B p) (ho : p.ok) : Sound s B (pScan s p k).2 := by
  unfold pScan
  split
  · rename_i o w hg hl
    have hw := mlook_ranks ho hl
    have hr := (h.marks k w true hl).2
    have h0 : Sound s B { p with marks := mput p.marks k (w, false) } := ⟨fun j w' g e => by
      simp only at e
      rw [mlook_mput] at e
      by_cases ea : j = k
      · rw [if_pos ea] at e; cases e; rw [ea]; exact ⟨by rw [hg]; simp, hr⟩
      · rw [if_neg ea] at e; exact h.marks j w' g e, h.met⟩
    refine h0.shades (fun y hy a b c => ?_) fun y hy a b => ?_
    · rw [clampR_id hw]; exact .step hr hg hy a b c
    · rw [clampR_id hw]; exact ⟨k, o, hr, hg, hy, a, b⟩
  · exact h

theorem Greys.push (h : ∀ j w, mlook q.marks j = some (w, true) → j = k ∨ j ∈ q.stack ∨ q.over = true ∨ A j) : Greys (pPush q k) A := by
  intro j w e
  rw [pPush_marks] at e
  have h := h j w e
  unfold pPush
  split
  · exact .inr (.inl rfl)
  · simp only [List.mem_append, List.mem_singleton]
    rcases h with h | h | h | h
    · exact .inl (.inr h)
    · exact .inl (.inl h)
    · exact .inr (.inl h)
    · exact .inr (.inr h)
theorem Greys.shade (h : Greys p A) : Greys (pShade s p x r) A := by
  have put : ∀ j w, mlook (mput p.marks x.s (clampR r, true)) j = some (w, true) → j = x.s ∨ j ∈ p.stack ∨ p.over = true ∨ A j := fun j w e => by
    rw [mlook_mput] at e
    by_cases ea : j = x.s
    · exact .inl ea
    · rw [if_neg ea] at e; exact .inr (h j w e)
  unfold pShade
  split
  · exact h
  · split
    · split
      · exact h
      · split <;> exact h
    · split
      · exact h
      · split
        · exact Greys.push (q := { p with marks := mput p.marks x.s (clampR r, true) }) put
        · rename_i was g hl
          split
          · exact h
          · split
            · rename_i hgt
              intro j w e
              rcases put j w e with e2 | e2
              · rw [e2]; exact h x.s was (by rw [hl, hgt])
              · exact e2
            · exact Greys.push (q := { p with marks := mput p.marks x.s (clampR r, true) }) put
theorem Greys.shades {l : List Id} (h : Greys p A) : Greys (pShades s p l r) A := by
  unfold pShades
  induction l generalizing p with
  | nil => exact h
  | cons y l ih => exact ih h.shade
theorem Greys.scan (h : Greys p fun j => A j ∨ j = k) (hs : ∀ r, mlook p.marks k = some (r, true) → hGet s k ≠ none) : Greys (pScan s p k).2 A := by
  unfold pScan
  split
  · rename_i o w hg hl
    refine Greys.shades fun j w' e => ?_
    simp only at e
    rw [mlook_mput] at e
    by_cases ea : j = k
    · rw [if_pos ea] at e; cases e
    · rw [if_neg ea] at e
      rcases h j w' e with h | h | h | h
      · exact .inl h
      · exact .inr (.inl h)
      · exact .inr (.inr h)
      · exact absurd h ea
  · rename_i hno
    intro j w' e
    have hjk : j ≠ k := fun ea => by
      rw [ea] at e
      cases hg : hGet s k with
      | none => exact hs w' e hg
      | some o => exact hno o w' hg e
    rcases h j w' e with h | h | h | h
    · exact .inl h
    · exact .inr (.inl h)
    · exact .inr (.inr h)
    · exact absurd h hjk

theorem hNext_false {q : Int} (h : (hNext s q).2 = false) {k : Int} (hk : hGet s k ≠ none) : k ≤ q := by
  unfold hNext at h
  cases hg : hGet s k with
  | none => exact absurd hg hk
  | some o =>
    obtain ⟨h1, h2⟩ := hGet_mem hg
    split at h
    · cases h
    · rename_i hf
      rw [List.find?_eq_none] at hf
      have := hf o h1
      simp at this
      omega
theorem hNext_min (ho : s.ok) {q : Int} (h : (hNext s q).2 = true) {k : Int} (hk : hGet s k ≠ none) (hq : q < k) : (hNext s q).1 ≤ k := by
  have hr := ho.rise
  cases hg : hGet s k with
  | none => exact absurd hg hk
  | some o =>
    obtain ⟨h1, h2⟩ := hGet_mem hg
    unfold hNext
    clear h hg hk
    generalize s.obs = l at *
    induction l with
    | nil => cases h1
    | cons a l ih =>
      rw [List.pairwise_cons] at hr
      by_cases hc : q < a.ser
      · rw [List.find?_cons_of_pos (by simpa using hc)]
        rcases List.mem_cons.1 h1 with rfl | h1
        · simp only; omega
        · have := hr.1 o h1; simp only; omega
      · rw [List.find?_cons_of_neg (by simpa using hc)]
        rcases List.mem_cons.1 h1 with rfl | h1
        · omega
        · exact ih hr.2 h1

/-- Marking is under way. -/
structure Mkd (s : Hs) (B : Int → Int → Prop) (R : Int → Prop) (p : Ps) (m : Mk) : Prop where
  sound : Sound s B p
  tight : Tight s p
  grey : Greys p fun k => m.pass = true ∧ m.at_ < k
  seen : ∀ k o, hGet s k = some o → 0 < o.din → k ≤ m.place → ∃ r g, mlook p.marks k = some (r, g) ∧ r ≤ o.din
  roots : ∀ k, R k → ∃ r g, mlook p.marks k = some (r, g) ∧ r ≤ 0

theorem falls_has {p' : Ps} (f : Falls p p') {b : Int} (h : ∃ r g, mlook p.marks k = some (r, g) ∧ r ≤ b) : ∃ r g, mlook p'.marks k = some (r, g) ∧ r ≤ b := by
  obtain ⟨r, g, e, h⟩ := h
  obtain ⟨r', g', e', h'⟩ := f.marks k r g e
  exact ⟨r', g', e', by omega⟩
theorem Sound.pop (h : Sound s B p) : Sound s B (pPop p).2 := by
  unfold pPop
  split
  · exact h
  · exact ⟨h.marks, h.met⟩
theorem pPop_marks : (pPop p).2.marks = p.marks ∧ (pPop p).2.met = p.met ∧ (pPop p).2.over = p.over := by unfold pPop; split <;> exact ⟨rfl, rfl, rfl⟩
theorem Tight.same {p' : Ps} (h : Tight s p) (e1 : p'.marks = p.marks) (e2 : p'.met = p.met) : Tight s p' := by
  intro k r o hl hg x hx hid
  rw [e1] at hl
  have := h k r o hl hg x hx hid
  rwa [← e1, ← e2] at this
theorem Falls.same {p' : Ps} (e1 : p'.marks = p.marks) (e2 : p'.met = p.met) : Falls p p' := ⟨fun k r g e => ⟨r, g, by rw [e1]; exact e, Int.le_refl _⟩, fun k r e => ⟨r, by rw [e2]; exact e, Int.le_refl _⟩⟩

theorem Mkd.step (ho : s.ok) (hp : p.ok) (hm : m.ok) (hB : ∀ k o, hGet s k = some o → 0 < o.din → B k o.din) (h : Mkd s B R p m) : Mkd s B R (mkStep s p m).2.1 (mkStep s p m).2.2 := by
  unfold mkStep
  split
  · rename_i k hk
    simp only
    have e : pPop p = ((k, true), { p with stack := p.stack.dropLast }) := by unfold pPop; rw [hk]
    have f : Falls p (pScan s (pPop p).2 k).2 := (Falls.same pPop_marks.1 pPop_marks.2.1).trans scan_falls
    refine ⟨h.sound.pop.scan hp.pop, (h.tight.same pPop_marks.1 pPop_marks.2.1).scan hp.pop, ?_, fun a o hg hd hle => falls_has f (h.seen a o hg hd hle), fun a ha => falls_has f (h.roots a ha)⟩
    refine Greys.scan ?_ fun r hr => ?_
    · intro j w hj
      rw [pPop_marks.1] at hj
      rw [pPop_marks.2.2]
      rcases h.grey j w hj with g | g | g
      · have hst : p.stack = (pPop p).2.stack ++ [k] := by
          rw [e]
          obtain ⟨l, hl⟩ : ∃ l, p.stack = l ++ [k] := List.getLast?_eq_some_iff.1 hk
          rw [hl]; simp
        rw [hst] at g
        rcases List.mem_append.1 g with g | g
        · exact .inl g
        · exact .inr (.inr (.inr (by simpa using g)))
      · exact .inr (.inl g)
      · exact .inr (.inr (.inl g))
    · rw [pPop_marks.1] at hr
      exact (h.sound.marks k r true hr).1
  · rename_i hk
    have hst : p.stack = [] := List.getLast?_eq_none_iff.1 hk
    split
    · rename_i hc
      simp only
      have f : Falls p (pScan s p (hNext s m.at_).1).2 := scan_falls
      refine ⟨h.sound.scan hp, h.tight.scan hp, ?_, fun a o hg hd hle => falls_has f (h.seen a o hg hd hle), fun a ha => falls_has f (h.roots a ha)⟩
      refine Greys.scan (fun j w hj => ?_) fun r hr => (h.sound.marks _ r true hr).1
      rcases h.grey j w hj with g | g | g
      · exact .inl g
      · exact .inr (.inl g)
      · have := hNext_min ho hc.2 (h.sound.marks j w true hj).1 g.2
        by_cases ej : j = (hNext s m.at_).1
        · exact .inr (.inr (.inr ej))
        · exact .inr (.inr (.inl ⟨hc.1, by show (hNext s m.at_).1 < j; omega⟩))
    · rename_i hc
      have hdone : ∀ j, hGet s j ≠ none → ¬ (m.pass = true ∧ m.at_ < j) := fun j hj ⟨h1, h2⟩ => by
        cases hn : (hNext s m.at_).2
        · have := hNext_false hn hj; omega
        · exact hc ⟨h1, hn⟩
      split
      · rename_i hov
        simp only
        refine ⟨⟨h.sound.marks, h.sound.met⟩, h.tight.same rfl rfl, fun j w hj => ?_, h.seen, h.roots⟩
        have := get_ser ho (h.sound.marks j w true hj).1
        exact .inr (.inr ⟨rfl, by show (0 : Int) < j; omega⟩)
      · rename_i hov
        have hgrey : Greys p fun _ => False := fun j w hj => by
          rcases h.grey j w hj with g | g | g
          · exact .inl g
          · exact .inr (.inl g)
          · exact absurd g (hdone j (h.sound.marks j w true hj).1)
        split
        · simp only
          refine ⟨h.sound, h.tight, fun j w hj => ?_, h.seen, h.roots⟩
          rcases hgrey j w hj with g | g | g
          · exact .inl g
          · exact .inr (.inl g)
          · exact g.elim
        · rename_i hn
          have hn : (hNext s m.place).2 = true := by simpa using hn
          simp only
          have f : Falls p (mkSee s p (hNext s m.place).1) := by
            unfold mkSee
            split
            · split
              · exact shade_falls
              · exact Falls.refl p
            · exact Falls.refl p
          have hnx := hNext_pos ho hn
          refine ⟨?_, ?_, fun j w hj => ?_, fun a o hg hd hle => ?_, fun a ha => falls_has f (h.roots a ha)⟩
          · unfold mkSee
            split
            · rename_i o hg
              split
              · rename_i hd
                have hdin := (ho.obs o (hGet_mem hg).1).din
                refine h.sound.shade (fun _ _ _ => ?_) fun _ hne => absurd rfl hne
                rw [clampR_id hdin]
                exact .base (hB _ o hg hd)
              · exact h.sound
            · exact h.sound
          · unfold mkSee
            split
            · split
              · exact h.tight.shade
              · exact h.tight
            · exact h.tight
          · have hgr : Greys (mkSee s p (hNext s m.place).1) fun _ => False := by
              unfold mkSee
              split
              · split
                · exact hgrey.shade
                · exact hgrey
              · exact hgrey
            rcases hgr j w hj with g | g | g
            · exact .inl g
            · exact .inr (.inl g)
            · exact g.elim
          · simp only at hle
            by_cases ea : a = (hNext s m.place).1
            · subst ea
              unfold mkSee
              rw [hg]
              simp only
              rw [if_pos hd]
              have hdin := (ho.obs o (hGet_mem hg).1).din
              have hn1 := ho.node
              have hl1 := ho.last
              have hlow := shade_low (s := s) (p := p) (x := ⟨s.node, (hNext s m.place).1⟩) (r := o.din) (by unfold isId; exact ⟨hn1.1, hn1.2, hnx.2.1, by show (hNext s m.place).1 ≤ _; omega⟩)
              rw [if_pos rfl] at hlow
              have := hlow (by rw [hg]; simp)
              rw [clampR_id hdin] at this
              exact this
            · refine falls_has f (h.seen a o hg hd ?_)
              rcases Int.lt_or_le m.place a with hlt | hge
              · have := hNext_min ho hn (k := a) (by rw [hg]; simp) hlt
                omega
              · exact hge

/-- Marking has ended. -/
structure Done (s : Hs) (B : Int → Int → Prop) (p : Ps) : Prop where
  sound : Sound s B p
  tight : Tight s p
  black : ∀ k r, mlook p.marks k ≠ some (r, true)
  base : ∀ k r, B k r → ∃ r' g, mlook p.marks k = some (r', g) ∧ r' ≤ r

theorem Mkd.done (ho : s.ok) (h : Mkd s B R p m) (he : (mkStep s p m).1 = false) (hB : ∀ k r, B k r → (∃ o, hGet s k = some o ∧ 0 < o.din ∧ r = o.din) ∨ (R k ∧ r = 0)) : Done s B p := by
  obtain ⟨_, h2, h3, h4, h5⟩ := mkStep_end he
  refine ⟨h.sound, h.tight, fun k r e => ?_, fun k r hb => ?_⟩
  · have hk := (h.sound.marks k r true e).1
    rcases h.grey k r e with g | g | g
    · rw [h2] at g; cases g
    · rw [h3] at g; cases g
    · have := hNext_false (h4 g.1) hk
      omega
  · rcases hB k r hb with ⟨o, hg, hd, rfl⟩ | ⟨hr, rfl⟩
    · exact h.seen k o hg hd (hNext_false h5 (by rw [hg]; simp))
    · exact h.roots k hr

theorem Done.least (d : Done s B p) (h : Rch s B k r) : ∃ r', mlook p.marks k = some (r', false) ∧ r' ≤ r := by
  have fl : ∀ {k r : Int}, (∃ r' g, mlook p.marks k = some (r', g) ∧ r' ≤ r) → ∃ r', mlook p.marks k = some (r', false) ∧ r' ≤ r := fun {k r} ⟨r', g, e, h⟩ => by
    cases g
    · exact ⟨r', e, h⟩
    · exact absurd e (d.black k r')
  induction h with
  | base hb => exact fl (d.base _ _ hb)
  | step _ hg hx hid hn hy ih =>
    obtain ⟨r1, e1, h1⟩ := ih
    have := d.tight _ r1 _ e1 hg _ hx hid
    rw [if_pos hn] at this
    obtain ⟨r2, g, e2, h2⟩ := this hy
    exact fl ⟨r2, g, e2, by omega⟩
theorem Done.same (d : Done s B p) (d' : Done s B q) (k : Int) : mlook p.marks k = mlook q.marks k := by
  cases hp : mlook p.marks k with
  | none =>
    cases hq : mlook q.marks k with
    | none => rfl
    | some w =>
      obtain ⟨r', e, _⟩ := d.least (d'.sound.marks k w.1 w.2 hq).2
      rw [hp] at e; cases e
  | some w =>
    obtain ⟨r, g⟩ := w
    cases g
    · obtain ⟨r1, e1, l1⟩ := d'.least (d.sound.marks k r false hp).2
      obtain ⟨r2, e2, l2⟩ := d.least (d'.sound.marks k r1 false e1).2
      rw [hp] at e2
      cases e2
      rw [e1, show r1 = r by omega]
    · exact absurd hp (d.black k r)
end
/-! ## By going round -/
/-- The rank that is told of an object; less than 0: none. -/
def rk (l : List Int) (k : Int) : Int := l.getD k.toNat (-1)
theorem rk_set {l : List Int} {j k v : Int} (hj : 0 ≤ j) (hk : 0 ≤ k) (hl : j.toNat < l.length) : rk (l.set j.toNat v) k = if k = j then v else rk l k := by
  unfold rk
  rw [List.getD_eq_getElem?_getD, List.getD_eq_getElem?_getD, List.getElem?_set]
  by_cases e : k = j
  · subst e; simp [hl]
  · rw [if_neg (by omega), if_neg e]

/-- A reference that counts. -/
def Edge (s : Hs) (j k : Int) : Prop := ∃ o x, hGet s j = some o ∧ x ∈ o.refs ∧ isId x ∧ x.n = s.node ∧ hGet s x.s ≠ none ∧ x.s = k
structure RkOk (Q B : Int → Int → Prop) (n : Nat) (l : List Int) : Prop where
  len : l.length = n + 1
  range : ∀ k, -1 ≤ rk l k ∧ rk l k ≤ 40
  sound : ∀ k, 0 ≤ k → 0 ≤ rk l k → Q k (rk l k)
  base : ∀ k r, B k r → 0 ≤ rk l k ∧ rk l k ≤ r
def RkCl (E : Int → Int → Prop) (l : List Int) (v : Int) : Prop := ∀ j k, E j k → 0 ≤ rk l j → rk l j ≤ v → 0 ≤ rk l k ∧ rk l k ≤ v
def rkCnt (n : Nat) (l : List Int) (v : Int) : Nat := ((List.range (n + 1)).map fun (k : Nat) => if 0 ≤ rk l k ∧ rk l k ≤ v then 1 else 0).sum
/-- Within a round that began with l0; the references D are done. -/
structure RkIn (E Q B : Int → Int → Prop) (n : Nat) (l0 : List Int) (D : Int → Int → Prop) (l : List Int) : Prop where
  ok : RkOk Q B n l
  le : ∀ k, 0 ≤ rk l0 k → 0 ≤ rk l k ∧ rk l k ≤ rk l0 k
  ins : ∀ v, RkCl E l0 v → ∀ k, 0 ≤ k → 0 ≤ rk l k → rk l k ≤ v → 0 ≤ rk l0 k ∧ rk l0 k ≤ v
  prog : ∀ j k, E j k → D j k → 0 ≤ rk l0 j → 0 ≤ rk l k ∧ rk l k ≤ rk l0 j
structure RkRd (E Q B : Int → Int → Prop) (n t : Nat) (l : List Int) : Prop where
  ok : RkOk Q B n l
  cnt : ∀ v, 0 ≤ v → RkCl E l v ∨ t + 1 ≤ rkCnt n l v

section
variable {E Q B : Int → Int → Prop} {n t : Nat} {l l0 : List Int} {D D' : Int → Int → Prop} {i x : Int}
theorem RkIn.start (h : RkOk Q B n l) : RkIn E Q B n l (fun _ _ => False) l :=
  ⟨h, fun k hk => ⟨hk, Int.le_refl _⟩, fun v _ k _ h1 h2 => ⟨h1, h2⟩, fun _ _ _ h => h.elim⟩
theorem RkIn.mono (h : RkIn E Q B n l0 D l) (hD : ∀ j k, E j k → 0 ≤ rk l0 j → D' j k → D j k) : RkIn E Q B n l0 D' l :=
  ⟨h.ok, h.le, h.ins, fun j k e d hj => h.prog j k e (hD j k e hj d) hj⟩
/-- A round is at its end. -/
theorem RkRd.next (hE : ∀ j k, E j k → 1 ≤ k ∧ k ≤ n) (hE' : ∀ j k, E j k → 1 ≤ j ∧ j ≤ n) (h : RkRd E Q B n t l0) (hi : RkIn E Q B n l0 (fun _ _ => True) l) : RkRd E Q B n (t + 1) l := by
  refine ⟨hi.ok, fun v hv => ?_⟩
  by_cases hc : RkCl E l0 v
  · refine .inl fun j k e h1 h2 => ?_
    have hj := hE' j k e
    obtain ⟨a, b⟩ := hi.ins v hc j (by omega) h1 h2
    obtain ⟨a, b⟩ := hc j k e a b
    have := hi.le k a
    omega
  · refine .inr ?_
    have h1 := (h.cnt v hv).resolve_left hc
    have : rkCnt n l0 v + 1 ≤ rkCnt n l v := by
      unfold rkCnt
      refine sum_map_lt (fun k _ => ?_) ?_
      · by_cases hk : 0 ≤ rk l0 k ∧ rk l0 k ≤ v
        · have := hi.le k hk.1
          rw [if_pos hk, if_pos (by omega)]; exact Nat.le_refl _
        · rw [if_neg hk]; exact Nat.zero_le _
      · unfold RkCl at hc
        simp only [Classical.not_forall] at hc
        obtain ⟨j, k, e, h1, h2, h3⟩ := hc
        have hp := hi.prog j k e trivial h1
        have hy := hE j k e
        refine ⟨k.toNat, List.mem_range.2 (by omega), ?_⟩
        rw [show ((k.toNat : Nat) : Int) = k by omega, if_neg h3, if_pos (by omega)]
        exact Nat.le_refl _
    omega
theorem RkRd.start (h : RkOk Q B n l) (hE' : ∀ j k, E j k → 1 ≤ j ∧ j ≤ n) : RkRd E Q B n 0 l := by
  refine ⟨h, fun v hv => ?_⟩
  by_cases hc : RkCl E l v
  · exact .inl hc
  · refine .inr ?_
    unfold RkCl at hc
    simp only [Classical.not_forall] at hc
    obtain ⟨j, k, e, h1, h2, h3⟩ := hc
    have hj := hE' j k e
    have : ((List.range (n + 1)).map fun _ => (0 : Nat)).sum + 1 ≤ rkCnt n l v := by
      unfold rkCnt
      refine sum_map_lt (fun _ _ => Nat.zero_le _) ⟨j.toNat, List.mem_range.2 (by omega), ?_⟩
      rw [show ((j.toNat : Nat) : Int) = j by omega, if_pos ⟨h1, h2⟩]
      exact Nat.le_refl _
    omega
theorem rkCnt_le {v : Int} : rkCnt n l v ≤ n + 1 := by
  have h := sum_map_le (l := List.range (n + 1)) (f := fun (k : Nat) => if 0 ≤ rk l (k : Int) ∧ rk l (k : Int) ≤ v then 1 else 0) (g := fun (_ : Nat) => (1 : Nat)) fun x _ => by split <;> omega
  have e : ((List.range (n + 1)).map fun (_ : Nat) => (1 : Nat)).sum = n + 1 := by
    rw [show ((List.range (n + 1)).map fun (_ : Nat) => (1 : Nat)) = List.replicate (n + 1) 1 by rw [List.eq_replicate_iff]; exact ⟨by simp, fun x hx => by obtain ⟨_, _, rfl⟩ := List.mem_map.1 hx; rfl⟩, List.sum_replicate_nat]
    omega
  rw [e] at h
  exact h
/-- At 0 there is nothing. -/
theorem rkCnt_le' {v : Int} (h0 : rk l 0 < 0) : rkCnt n l v ≤ n := by
  have h := sum_map_lt (l := List.range (n + 1)) (f := fun (k : Nat) => if 0 ≤ rk l (k : Int) ∧ rk l (k : Int) ≤ v then 1 else 0) (g := fun (_ : Nat) => (1 : Nat)) (fun x _ => by split <;> omega) ⟨0, List.mem_range.2 (by omega), by
    rw [if_neg (by rintro ⟨h1, _⟩; exact absurd h1 (by simpa using h0))]; exact Nat.le_refl _⟩
  have e : ((List.range (n + 1)).map fun (_ : Nat) => (1 : Nat)).sum = n + 1 := by
    rw [show ((List.range (n + 1)).map fun (_ : Nat) => (1 : Nat)) = List.replicate (n + 1) 1 by rw [List.eq_replicate_iff]; exact ⟨by simp, fun x hx => by obtain ⟨_, _, rfl⟩ := List.mem_map.1 hx; rfl⟩, List.sum_replicate_nat]
    omega
  rw [e] at h
  unfold rkCnt
  omega
theorem RkRd.closed (h : RkRd E Q B n t l) (ht : n + 1 ≤ t ∨ (n ≤ t ∧ rk l 0 < 0)) {v : Int} (hv : 0 ≤ v) : RkCl E l v := (h.cnt v hv).resolve_right fun h1 => by
  rcases ht with ht | ⟨ht, h0⟩
  · have := rkCnt_le (n := n) (l := l) (v := v)
    omega
  · have := rkCnt_le' (n := n) (l := l) (v := v) h0
    omega
end
section
variable {s : Hs} {B : Int → Int → Prop} {n : Nat} {l : List Int}
theorem RkRd.least (h : RkRd (Edge s) (Rch s B) B n (n + 1) l) {k r : Int} (hr : Rch s B k r) : 0 ≤ rk l k ∧ rk l k ≤ r := by
  induction hr with
  | base hb => exact h.ok.base _ _ hb
  | step _ hg hx hid hn hy ih =>
    have := h.closed (.inl (Nat.le_refl _)) ih.1 _ _ ⟨_, _, hg, hx, hid, hn, hy, rfl⟩ ih.1 (Int.le_refl _)
    omega
/-- What is marked in the end, and what going round tells, is the same. -/
theorem RkRd.marks {p : Ps} (h : RkRd (Edge s) (Rch s B) B n (n + 1) l) (d : Done s B p) {k : Int} (hk : 0 ≤ k) : (mlook p.marks k = none ∧ rk l k < 0) ∨ (mlook p.marks k = some (rk l k, false) ∧ 0 ≤ rk l k) := by
  rcases Int.lt_or_le (rk l k) 0 with hn | hp
  · refine .inl ⟨?_, hn⟩
    cases hq : mlook p.marks k with
    | none => rfl
    | some w =>
      have := h.least (d.sound.marks k w.1 w.2 hq).2
      omega
  · refine .inr ⟨?_, hp⟩
    obtain ⟨r1, e1, l1⟩ := d.least (h.ok.sound k hk hp)
    have := h.least (d.sound.marks k r1 false e1).2
    rw [e1, show r1 = rk l k by omega]
end
end Go.Proofs.YtojcacejgbnfkaaGreat

namespace Go.Proofs.YtojcacejgbnfkaaGreat
set_option linter.unusedSimpArgs false
set_option linter.unusedVariables false
open Go
/-- From which objects, with what rank: what is held, and the roots. -/
def grBase (s : Hs) (roots : List Int) (k r : Int) : Prop := (∃ o, hGet s k = some o ∧ 0 < o.din ∧ r = o.din) ∨ (k ∈ roots ∧ r = 0)

section
variable {H0 H : Hp} {L : List Prt} {i : Nat} {K : Value → Hp → Prop} {rp op ip : Option Addr} {rl rc ol oc il ic : Nat} {g : Gr}
def grInit (g : Gr) (j : Nat) : Int := if 0 < j ∧ 0 < grDist g (j - 1) then grDist g (j - 1) else -1
def grInits (g : Gr) (n i : Nat) : List Int := (List.range (n + 1)).map fun j => if j < i then grInit g j else 0
theorem grInits_get {n i j : Nat} (hj : j ≤ n) : (grInits g n i).getD j 0 = if j < i then grInit g j else 0 := by
  unfold grInits
  rw [List.getD_eq_getElem?_getD, List.getElem?_map, List.getElem?_range (by omega)]
  rfl
theorem grInits_len {n i : Nat} : (grInits g n i).length = n + 1 := by simp [grInits]
/-- What stands there when the roots up to the m-th are marked. -/
structure RkRoot (s : Hs) (n : Nat) (roots : List Int) (m : Nat) (l : List Int) : Prop where
  len : l.length = n + 1
  range : ∀ k, -1 ≤ rk l k ∧ rk l k ≤ 40
  sound : ∀ k, 0 ≤ k → 0 ≤ rk l k → grBase s roots k (rk l k)
  din : ∀ k o, hGet s k = some o → 0 < o.din → 0 ≤ rk l k ∧ rk l k ≤ o.din
  roots : ∀ k ∈ roots.take m, rk l k = 0
theorem RkRoot.start {n : Nat} {s : Hs} {roots : List Int} (hs : GrHs g n s) : RkRoot s n roots 0 (grInits g n (n + 1)) := by
  have hg : ∀ k : Int, 0 ≤ k → k ≤ n → rk (grInits g n (n + 1)) k = grInit g k.toNat := fun k h0 h1 => by
    have := grInits_get (g := g) (n := n) (i := n + 1) (j := k.toNat) (by omega)
    rw [if_pos (by omega)] at this
    rw [← this]
    unfold rk
    rw [List.getD_eq_getElem?_getD, List.getD_eq_getElem?_getD, List.getElem?_eq_getElem (by rw [grInits_len]; omega)]
    rfl
  have hbig : ∀ k : Int, n < k → rk (grInits g n (n + 1)) k = -1 := fun k hk => by
    unfold rk
    rw [List.getD_eq_getElem?_getD, List.getElem?_eq_none (by rw [grInits_len]; omega)]
    rfl
  have hneg : ∀ k : Int, k < 0 → rk (grInits g n (n + 1)) k = -1 := fun k hk => by
    have := hg 0 (by omega) (by omega)
    unfold rk at this ⊢
    rw [show k.toNat = (0 : Int).toNat by omega, this]
    unfold grInit
    rw [if_neg (by simp)]
  have hini : ∀ j : Nat, -1 ≤ grInit g j ∧ grInit g j ≤ 40 := fun j => by
    have := grDist_ok (g := g) (i := j - 1)
    unfold grInit
    split <;> omega
  refine ⟨grInits_len, fun k => ?_, fun k h0 hk => ?_, fun k o hgk hd => ?_, fun k hk => by simp at hk⟩
  · rcases Int.lt_or_le k 0 with h | h
    · rw [hneg k h]; omega
    · rcases Int.lt_or_le (n : Int) k with h' | h'
      · rw [hbig k h']; omega
      · rw [hg k h h']; exact hini _
  · rcases Int.lt_or_le (n : Int) k with h' | h'
    · rw [hbig k h'] at hk; omega
    · rw [hg k h0 h'] at hk ⊢
      unfold grInit at hk ⊢
      split at hk
      · rename_i hc
        obtain ⟨c, hgk⟩ := hs.get (m := k) (by omega)
        rw [if_pos hc]
        exact .inl ⟨_, hgk, hc.2, rfl⟩
      · omega
  · have hr := hs.has.1 (show hGet s k ≠ none by rw [hgk]; simp)
    obtain ⟨c, hgk'⟩ := hs.get hr
    rw [hgk] at hgk'
    cases hgk'
    simp only at hd
    rw [hg k (by omega) (by omega)]
    unfold grInit
    rw [if_pos ⟨by omega, hd⟩]
    simp only
    omega
theorem RkRoot.next {n m : Nat} {s : Hs} {roots l : List Int} (h : RkRoot s n roots m l) (hm : m < roots.length) (hr : ∀ k ∈ roots, 1 ≤ k ∧ k ≤ (n : Int)) : RkRoot s n roots (m + 1) (l.set (roots[m]'hm).toNat 0) := by
  have hmem := hr _ (List.getElem_mem hm)
  have hlt : (roots[m]'hm).toNat < l.length := by rw [h.len]; omega
  have rs : ∀ k, 0 ≤ k → rk (l.set (roots[m]'hm).toNat 0) k = if k = roots[m]'hm then 0 else rk l k := fun k hk => rk_set (by omega) hk hlt
  have rn : ∀ k, k < 0 → rk (l.set (roots[m]'hm).toNat 0) k = rk l 0 := fun k hk => by
    have := rs 0 (by omega)
    rw [if_neg (by omega)] at this
    rw [← this]
    unfold rk
    rw [show k.toNat = (0 : Int).toNat by omega]
  refine ⟨by rw [List.length_set]; exact h.len, fun k => ?_, fun k h0 hk => ?_, fun k o hg hd => ?_, fun k hk => ?_⟩
  · rcases Int.lt_or_le k 0 with hn | hp
    · rw [rn k hn]; exact h.range 0
    · rw [rs k hp]
      split
      · omega
      · exact h.range k
  · rw [rs k h0] at hk ⊢
    split at hk
    · rename_i e
      rw [if_pos e]
      exact .inr ⟨by rw [e]; exact List.getElem_mem hm, rfl⟩
    · rename_i e
      rw [if_neg e]
      exact h.sound k h0 hk
  · have h1 := h.din k o hg hd
    rcases Int.lt_or_le k 0 with hn | hp
    · rw [rn k hn]
      have : rk l k = rk l 0 := by unfold rk; rw [show k.toNat = (0 : Int).toNat by omega]
      omega
    · rw [rs k hp]
      split <;> omega
  · rw [List.take_add_one, List.getElem?_eq_getElem hm] at hk
    rcases List.mem_append.1 hk with hk | hk
    · have := h.roots k hk
      have hk' := hr k (List.mem_of_mem_take hk)
      rw [rs k (by omega)]
      split
      · rfl
      · exact this
    · simp at hk
      subst hk
      rw [rs _ (by omega), if_pos rfl]
theorem RkRoot.done {n : Nat} {s : Hs} {roots l : List Int} (h : RkRoot s n roots roots.length l) : RkOk (Rch s (grBase s roots)) (grBase s roots) n l :=
  ⟨h.len, h.range, fun k h0 hk => .base (h.sound k h0 hk), fun k r hb => by
    rcases hb with ⟨o, hg, hd, rfl⟩ | ⟨hm, rfl⟩
    · exact h.din k o hg hd
    · have := h.roots k (by rw [List.take_length]; exact hm)
      omega⟩

end
end Go.Proofs.YtojcacejgbnfkaaGreat

namespace Go.Proofs.YtojcacejgbnfkaaGreat
set_option linter.unusedSimpArgs false
set_option linter.unusedVariables false
open Go
section
variable {H0 H : Hp} {L M : List Prt} {i j k mb rb qb : Nat} {s : Hs} {p : Ps} {m : Mk} {a : Int} {K : Value → Hp → Prop}
theorem rPopJ (h : St H0 L H) (hj : L[j]? = some (RPaint qb rb p)) (hK : ∀ H', St H0 (L.set j (RPaint qb rb (pPop p).2)) H' → K (.tuple #[.int .u64 (pPop p).1.1, .bool (pPop p).1.2]) H') :
    hcall PR f_ref4_WordStack_Pop ⟨[.pointer (some ⟨qb, 1, none⟩)]⟩ H K := by
  obtain ⟨x, M, g, hf, hM, back⟩ := rpaintTakeN h hj
  exact rPopC g hf fun H' h' => hK H' (back [] _ x H' h')
theorem rOverV (h : St H0 L H) (hj : L[j]? = some (RPaint qb rb p)) : hcell H ⟨qb, 3, none⟩ = some (.bool p.over) := by
  obtain ⟨x, M, g, hf, hM, back⟩ := rpaintTakeN h hj
  exact g.cell (i := 0) rfl rfl
theorem rRestP {Q : Hp → Prop} (h : St H0 L H) (hj : L[j]? = some (RPaint qb rb p)) (hK : ∀ H', St H0 (L.set j (RPaint qb rb (pRest p))) H' → Q H') : st ⟨qb, 3, none⟩ (.bool false) H Q := by
  obtain ⟨x, M, g, hf, hM, back⟩ := rpaintTakeN h hj
  refine g.put (i := 0) rfl (by simp) fun H1 h1 => ?_
  have h2 := h1.refact (i := 5) (q := (pRest p).ok ∧ keyed x.t ∧ x.t.Perm (pRest p).met) rfl ⟨hf.1.rest, hf.2⟩
  exact hK H1 (back [] (pRest p) x H1 h2)

end
end Go.Proofs.YtojcacejgbnfkaaGreat
