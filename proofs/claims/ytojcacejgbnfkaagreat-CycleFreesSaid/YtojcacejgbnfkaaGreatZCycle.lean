/- Merged by merge.py: CyS, CyI, CyV, CyW, CyX, DenCycle, CyP, CyQ, CyP2, CyP3, CyP4, CyM, CyE, CyL, CyF. No condition. -/
import Derived.Test.YtojcacejgbnfkaaGreatZReach
import Derived.Test.YtojcacejgbnfkaaGreatZSweep
import Derived.Test.YtojcacejgbnfkaaGreatZShake
import Derived.Test.YtojcacejgbnfkaaGreatZMark
import Derived.Test.YtojcacejgbnfkaaGreatZNum
import Derived.Test.YtojcacejgbnfkaaGreatZPaint

namespace Go.Proofs.YtojcacejgbnfkaaGreat
set_option linter.unusedSimpArgs false
set_option linter.unusedVariables false
open Go
/-- What a cycle found out. -/
structure Sm where
  stir : Int
  rows : List (Int × List Id)
  outs : List (Id × Int)
  ok : Bool
/-- A collector. -/
structure Cy where
  sk : Sk
  p : Ps
  m : Mk
  r : Rc
  pl : Int
  e : Int
  st : Int
  sus : Int
  work : Int
  stir : Int
  fin : Int
  told : Sm

def Sk.begun (s : Sk) : Sk := if s.ph = 0 then { s with ph := 1, ar := s.ar.set (s.ar.length - 1) true } else s
def Sk.ended (s : Sk) : Sk := if s.ph = 3 then ⟨0, List.replicate s.ar.length false, List.replicate s.sc.length false⟩ else s
def Cy.state (c : Cy) : Int := if c.st ≠ 0 then c.st else if c.sk.ph = 1 then 1 else if c.sk.ph ≠ 0 then 2 else 0

def cyMarks (s : Hs) (c : Cy) (stir : Int) : Cy :=
  if (mkStep s c.p c.m).1 = true then { c with p := (mkStep s c.p c.m).2.1, m := (mkStep s c.p c.m).2.2 }
  else { c with p := (mkStep s c.p c.m).2.1, m := (mkStep s c.p c.m).2.2, stir := stir, r := rcNew c.sus, st := 4 }
def cyReaches (s : Hs) (c : Cy) : Cy :=
  if (mkStep s c.p c.m).1 = true then { c with p := (mkStep s c.p c.m).2.1, m := (mkStep s c.p c.m).2.2 }
  else if (rcStep s (mkStep s c.p c.m).2.1 c.r).1 = true then { c with p := (mkStep s c.p c.m).2.1, m := (mkStep s c.p c.m).2.2, r := (rcStep s (mkStep s c.p c.m).2.1 c.r).2 }
  else { c with p := (mkStep s c.p c.m).2.1, m := (mkStep s c.p c.m).2.2, r := (rcStep s (mkStep s c.p c.m).2.1 c.r).2, told := ⟨c.stir, (rcStep s (mkStep s c.p c.m).2.1 c.r).2.rows, (outsOf (mkStep s c.p c.m).2.1).filter (fun e => decide (c.sus < e.2)), true⟩, pl := 0, e := s.last, fin := s.last, st := 5 }
/-- What a unit comes to: does the step end there, and the cycle; what was freed. -/
structure CyU where
  stop : Option Bool
  freed : Int
  s : Hs
  c : Cy
noncomputable def cyUnit (s : Hs) (c : Cy) (stir : Int) : CyU :=
  if c.state = 0 then ⟨some false, 0, s, { c with p := pTurn c.p, sk := c.sk.begun }⟩
  else if c.state = 1 ∨ c.state = 2 then if c.sk.ph ≠ 3 then ⟨some false, 0, s, c⟩ else ⟨none, 0, s, cyMarks s { c with st := 3, m := ⟨0, false, 0⟩ } stir⟩
  else if c.state = 3 then ⟨none, 0, s, cyMarks s c stir⟩
  else if c.state = 4 then ⟨none, 0, s, cyReaches s c⟩
  else if c.state = 5 then
    if (swStep s c.p c.pl c.e).1.2 = false then ⟨some true, 0, (swStep s c.p c.pl c.e).2.1, { c with p := (swStep s c.p c.pl c.e).2.2.1, pl := (swStep s c.p c.pl c.e).2.2.2, sk := c.sk.ended, st := 0 }⟩
    else ⟨none, (swStep s c.p c.pl c.e).1.1, (swStep s c.p c.pl c.e).2.1, { c with p := (swStep s c.p c.pl c.e).2.2.1, pl := (swStep s c.p c.pl c.e).2.2.2 }⟩
  else ⟨none, 0, s, c⟩
noncomputable def cySteps (stir : Int) : Nat → Hs → Cy → List Int → (List Int × Bool) × Hs × Cy
  | 0, s, c, fr => ((fr, false), s, c)
  | n + 1, s, c, fr => match (cyUnit s c stir).stop with
    | some b => ((fr, b), (cyUnit s c stir).s, (cyUnit s c stir).c)
    | none => cySteps stir n (cyUnit s c stir).s (cyUnit s c stir).c (if (cyUnit s c stir).freed ≠ 0 then fr ++ [(cyUnit s c stir).freed] else fr)
noncomputable def cyStep (s : Hs) (c : Cy) (stir : Int) : (List Int × Bool) × Hs × Cy := cySteps stir c.work.toNat s c []
def cyShake (s : Hs) (c : Cy) (m : Int) (held : List Id) : Bool × Cy :=
  if (c.sk.ans m).2 = 2 then (true, { c with sk := (c.sk.ans m).1, p := pShades s c.p held 0 }) else (decide ((c.sk.ans m).2 ≠ 0), { c with sk := (c.sk.ans m).1 })
def Cy.isOpen (c : Cy) : Bool := decide (1 ≤ c.state) && decide (c.state ≤ 4)
def cyStore (s : Hs) (c : Cy) (m : Int) (old now : Id) : Cy :=
  if c.isOpen = true ∧ isOf c.sk.ar m = true then { c with p := if isOf c.sk.sc m = true then pShade s c.p old 0 else pShade s (pShade s c.p old 0) now 0 } else c
def cyBorn (s : Hs) (c : Cy) (m k : Int) : Cy :=
  if c.isOpen = true ∧ isOf c.sk.ar m = true then { c with p := if c.state = 1 then pShade s c.p ⟨s.node, k⟩ 0 else pBlacken s c.p k } else c
def cyTouch (s : Hs) (c : Cy) (x : Id) : Cy := if c.isOpen = true ∨ (c.state = 5 ∧ x.n ≠ s.node) then { c with p := pShade s c.p x 0 } else c
def newCy (n grey sus work last : Int) : Cy := ⟨⟨0, List.replicate (n.toNat + 1) false, List.replicate (n.toNat + 1) false⟩, newPs grey, ⟨0, false, 0⟩, rcNew 0, 0, last, 0, sus, work, 0, 0, ⟨0, [], [], false⟩⟩

/-- What holds of the collector's own numbers. -/
structure Cy.ok (c : Cy) : Prop where
  len : c.sk.sc.length = c.sk.ar.length
  size : 2 ≤ c.sk.ar.length ∧ c.sk.ar.length ≤ 5
  ph : 0 ≤ c.sk.ph ∧ c.sk.ph ≤ 3
  st : c.st = 0 ∨ ((c.st = 3 ∨ c.st = 4 ∨ c.st = 5) ∧ c.sk.ph = 3)
  sus : 0 ≤ c.sus ∧ c.sus ≤ 40
  work : 1 ≤ c.work ∧ c.work ≤ 64
  p : c.p.ok
  m : c.m.ok
  r : c.r.ok
  pl : 0 ≤ c.pl

section
variable {s : Hs} {c : Cy} {stir : Int}
theorem Cy.ok.state (h : c.ok) : (c.state = 0 ∧ c.st = 0 ∧ c.sk.ph = 0) ∨ (c.state = 1 ∧ c.st = 0 ∧ c.sk.ph = 1) ∨ (c.state = 2 ∧ c.st = 0 ∧ (c.sk.ph = 2 ∨ c.sk.ph = 3)) ∨ (c.state = 3 ∧ c.st = 3 ∧ c.sk.ph = 3) ∨ (c.state = 4 ∧ c.st = 4 ∧ c.sk.ph = 3) ∨ (c.state = 5 ∧ c.st = 5 ∧ c.sk.ph = 3) := by
  have h1 := h.ph
  unfold Cy.state
  rcases h.st with h2 | ⟨h2, h3⟩
  · rw [if_neg (by omega)]
    by_cases e : c.sk.ph = 1
    · rw [if_pos e]; omega
    · rw [if_neg e]
      by_cases e0 : c.sk.ph = 0
      · rw [if_neg (by omega)]; omega
      · rw [if_pos e0]; omega
  · rw [if_pos (by omega)]; omega
theorem ans_len (k : Sk) (m : Int) : (k.ans m).1.ar.length = k.ar.length ∧ (k.ans m).1.sc.length = k.sc.length := by
  unfold Sk.ans
  split
  · exact ⟨rfl, rfl⟩
  · split
    · split
      · exact ⟨rfl, rfl⟩
      · exact ⟨by simp, rfl⟩
    · split
      · split
        · exact ⟨rfl, rfl⟩
        · exact ⟨rfl, by simp⟩
      · exact ⟨rfl, rfl⟩
theorem ans_ph (k : Sk) (m : Int) (h : 0 ≤ k.ph ∧ k.ph ≤ 3) : 0 ≤ (k.ans m).1.ph ∧ (k.ans m).1.ph ≤ 3 ∧ (k.ph = 3 → (k.ans m).1.ph = 3) := by
  unfold Sk.ans
  split
  · exact ⟨h.1, h.2, id⟩
  · split
    · split
      · exact ⟨h.1, h.2, id⟩
      · simp only; split <;> omega
    · split
      · split
        · exact ⟨h.1, h.2, id⟩
        · simp only; split <;> omega
      · exact ⟨h.1, h.2, id⟩
theorem begun_len (k : Sk) : k.begun.ar.length = k.ar.length ∧ k.begun.sc.length = k.sc.length := by
  unfold Sk.begun
  split
  · exact ⟨by simp, rfl⟩
  · exact ⟨rfl, rfl⟩
theorem ended_len (k : Sk) : k.ended.ar.length = k.ar.length ∧ k.ended.sc.length = k.sc.length := by
  unfold Sk.ended
  split
  · exact ⟨by simp, by simp⟩
  · exact ⟨rfl, rfl⟩
theorem Cy.ok.marks (ho : s.ok) (h : c.ok) (hst : c.st = 3 ∧ c.sk.ph = 3) : (cyMarks s c stir).ok := by
  have h1 := mkStep_ok ho h.p h.m
  unfold cyMarks
  split
  · exact ⟨h.len, h.size, h.ph, h.st, h.sus, h.work, h1.1, h1.2, h.r, h.pl⟩
  · exact ⟨h.len, h.size, h.ph, .inr ⟨.inr (.inl rfl), hst.2⟩, h.sus, h.work, h1.1, h1.2, rcNew_ok, h.pl⟩
theorem Cy.ok.reaches (ho : s.ok) (h : c.ok) (hst : c.st = 4 ∧ c.sk.ph = 3) : (cyReaches s c).ok := by
  have h1 := mkStep_ok ho h.p h.m
  have h2 := h.r.step (p := (mkStep s c.p c.m).2.1) ho h1.1
  unfold cyReaches
  split
  · exact ⟨h.len, h.size, h.ph, h.st, h.sus, h.work, h1.1, h1.2, h.r, h.pl⟩
  · split
    · exact ⟨h.len, h.size, h.ph, h.st, h.sus, h.work, h1.1, h1.2, h2, h.pl⟩
    · exact ⟨h.len, h.size, h.ph, .inr ⟨.inr (.inr rfl), hst.2⟩, h.sus, h.work, h1.1, h1.2, h2, Int.le_refl _⟩
theorem swStep_ok {p : Ps} {pl e : Int} (ho : s.ok) (hp : p.ok) (hpl : 0 ≤ pl) : (swStep s p pl e).2.1.ok ∧ (swStep s p pl e).2.2.1.ok ∧ 0 ≤ (swStep s p pl e).2.2.2 := by
  unfold swStep
  split
  · exact ⟨ho, hp, hpl⟩
  · rename_i hc
    have hn := hNext_pos ho (q := pl) (by
      cases h : (hNext s pl).2
      · exact absurd (.inl h) hc
      · rfl)
    split
    · exact ⟨ho, hp, by simp only; omega⟩
    · exact ⟨ho.free _, hp.forget, by simp only; omega⟩
theorem Cy.ok.unit (ho : s.ok) (h : c.ok) : (cyUnit s c stir).s.ok ∧ (cyUnit s c stir).c.ok := by
  unfold cyUnit
  rcases h.state with ⟨e, e1, e2⟩ | ⟨e, e1, e2⟩ | ⟨e, e1, e2⟩ | ⟨e, e1, e2⟩ | ⟨e, e1, e2⟩ | ⟨e, e1, e2⟩
  · rw [if_pos e]
    have hb := begun_len c.sk
    refine ⟨ho, ?_⟩
    have hph : 0 ≤ c.sk.begun.ph ∧ c.sk.begun.ph ≤ 3 := by unfold Sk.begun; rw [if_pos e2]; simp
    exact ⟨by simp only; rw [hb.1, hb.2]; exact h.len, by simp only; rw [hb.1]; exact h.size, hph, .inl e1, h.sus, h.work, h.p.turn, h.m, h.r, h.pl⟩
  · rw [if_neg (by omega), if_pos (.inl e)]
    rw [if_pos (by omega)]
    exact ⟨ho, h⟩
  · rw [if_neg (by omega), if_pos (.inr e)]
    split
    · exact ⟨ho, h⟩
    · rename_i h3
      have h3 : c.sk.ph = 3 := by omega
      refine ⟨ho, Cy.ok.marks (c := { c with st := 3, m := ⟨0, false, 0⟩ }) ho ⟨h.len, h.size, h.ph, .inr ⟨.inl rfl, h3⟩, h.sus, h.work, h.p, ⟨Int.le_refl _, Int.le_refl _⟩, h.r, h.pl⟩ ⟨rfl, h3⟩⟩
  · rw [if_neg (by omega), if_neg (by omega), if_pos e]
    exact ⟨ho, h.marks ho ⟨e1, e2⟩⟩
  · rw [if_neg (by omega), if_neg (by omega), if_neg (by omega), if_pos e]
    exact ⟨ho, h.reaches ho ⟨e1, e2⟩⟩
  · rw [if_neg (by omega), if_neg (by omega), if_neg (by omega), if_neg (by omega), if_pos e]
    have h1 := swStep_ok (e := c.e) ho h.p h.pl
    have hl := ended_len c.sk
    split
    · refine ⟨h1.1, ?_⟩
      have hph : 0 ≤ c.sk.ended.ph ∧ c.sk.ended.ph ≤ 3 := by unfold Sk.ended; rw [if_pos e2]; simp
      exact ⟨by simp only; rw [hl.1, hl.2]; exact h.len, by simp only; rw [hl.1]; exact h.size, hph, .inl rfl, h.sus, h.work, h1.2.1, h.m, h.r, h1.2.2⟩
    · exact ⟨h1.1, h.len, h.size, h.ph, h.st, h.sus, h.work, h1.2.1, h.m, h.r, h1.2.2⟩
theorem cySteps_ok : ∀ {n : Nat} {s : Hs} {c : Cy} {fr : List Int}, s.ok → c.ok → (cySteps stir n s c fr).2.1.ok ∧ (cySteps stir n s c fr).2.2.ok
  | 0, s, c, fr, ho, h => ⟨ho, h⟩
  | n + 1, s, c, fr, ho, h => by
    have h1 := h.unit (stir := stir) ho
    unfold cySteps
    split
    · exact h1
    · exact cySteps_ok h1.1 h1.2
theorem Cy.ok.step (ho : s.ok) (h : c.ok) : (cyStep s c stir).2.1.ok ∧ (cyStep s c stir).2.2.ok := cySteps_ok ho h
theorem Cy.ok.shake (h : c.ok) {m : Int} {held : List Id} : (cyShake s c m held).2.ok := by
  have h1 := ans_len c.sk m
  have h2 := ans_ph c.sk m h.ph
  have hst : c.st = 0 ∨ ((c.st = 3 ∨ c.st = 4 ∨ c.st = 5) ∧ (c.sk.ans m).1.ph = 3) := h.st.imp_right fun g => ⟨g.1, h2.2.2 g.2⟩
  unfold cyShake
  split
  · exact ⟨by simp only; rw [h1.1, h1.2]; exact h.len, by simp only; rw [h1.1]; exact h.size, ⟨h2.1, h2.2.1⟩, hst, h.sus, h.work, h.p.shades, h.m, h.r, h.pl⟩
  · exact ⟨by simp only; rw [h1.1, h1.2]; exact h.len, by simp only; rw [h1.1]; exact h.size, ⟨h2.1, h2.2.1⟩, hst, h.sus, h.work, h.p, h.m, h.r, h.pl⟩
theorem Cy.ok.paint (h : c.ok) {p : Ps} (hp : p.ok) : ({ c with p := p } : Cy).ok := ⟨h.len, h.size, h.ph, h.st, h.sus, h.work, hp, h.m, h.r, h.pl⟩
theorem Cy.ok.store (h : c.ok) {m : Int} {old now : Id} : (cyStore s c m old now).ok := by
  unfold cyStore
  split
  · refine h.paint ?_
    split
    · exact h.p.shade
    · exact h.p.shade.shade
  · exact h
theorem Cy.ok.born (h : c.ok) {m k : Int} : (cyBorn s c m k).ok := by
  unfold cyBorn
  split
  · refine h.paint ?_
    split
    · exact h.p.shade
    · exact h.p.blacken
  · exact h
theorem Cy.ok.touch (h : c.ok) {x : Id} : (cyTouch s c x).ok := by
  unfold cyTouch
  split
  · exact h.paint h.p.shade
  · exact h
theorem newCy_ok {n grey sus work last : Int} (hn : 1 ≤ n ∧ n ≤ 4) (hg : 1 ≤ grey ∧ grey ≤ 64) (hs : 0 ≤ sus ∧ sus ≤ 40) (hw : 1 ≤ work ∧ work ≤ 64) : (newCy n grey sus work last).ok :=
  ⟨by simp [newCy], by simp [newCy]; omega, by simp [newCy], .inl rfl, hs, hw, newPs_ok hg, ⟨Int.le_refl _, Int.le_refl _⟩, rcNew_ok, Int.le_refl _⟩
end
end Go.Proofs.YtojcacejgbnfkaaGreat

namespace Go.Proofs.YtojcacejgbnfkaaGreat
set_option linter.unusedSimpArgs false
set_option linter.unusedVariables false
open Go
/-- Led to from what is grey, over what is not marked. -/
inductive Lead (s : Hs) (p : Ps) : Int → Prop
  | grey {k r : Int} : mlook p.marks k = some (r, true) → Lead s p k
  | step {k : Int} {o : Ob} {x : Id} : Lead s p k → hGet s k = some o → x ∈ o.refs → x.n = 1 → mlook p.marks x.s = none → Lead s p x.s
def OkM (s : Hs) (p : Ps) (k : Int) : Prop := mlook p.marks k ≠ none ∨ Lead s p k
/-- No reference leads to what is not there. -/
def Closed (s : Hs) : Prop := ∀ k o, hGet s k = some o → ∀ x ∈ o.refs, x.n = 1 → hGet s x.s ≠ none
/-- What is marked is there; what black objects lead to is marked, or will be. -/
structure TriB (s : Hs) (p : Ps) : Prop where
  has : ∀ k w, mlook p.marks k = some w → hGet s k ≠ none
  black : ∀ k r o x, mlook p.marks k = some (r, false) → hGet s k = some o → x ∈ o.refs → x.n = 1 → OkM s p x.s

section
variable {s s' : Hs} {p q : Ps} {x : Id} {r k : Int}
theorem okId_own (h : okId x = true) (hn : x.n = 1) : isId x := by
  rcases (okId_iff.1 h) with e | e
  · rw [e] at hn; cases hn
  · exact e
theorem pr_not_black (h : Lead s p k) : ∀ r, mlook p.marks k ≠ some (r, false) := by
  intro r e
  cases h with
  | grey h => rw [h] at e; cases e
  | step _ _ _ _ h => rw [h] at e; cases e
/-- Along marks that only turn from none to grey, and edges that stay or whose ends were marked. -/
theorem pr_along (hg : ∀ k r, mlook p.marks k = some (r, true) → ∃ r', mlook q.marks k = some (r', true))
    (he : ∀ k o y, hGet s k = some o → y ∈ o.refs → y.n = 1 → mlook p.marks y.s = none → (mlook q.marks y.s = none ∧ ∃ o', hGet s' k = some o' ∧ y ∈ o'.refs) ∨ ∃ r', mlook q.marks y.s = some (r', true)) (h : Lead s p k) : Lead s' q k := by
  induction h with
  | grey h => obtain ⟨r', e⟩ := hg _ _ h; exact .grey e
  | step _ h1 h2 h3 h4 ih =>
    rcases he _ _ _ h1 h2 h3 h4 with ⟨h5, o', e1, e2⟩ | ⟨r', h5⟩
    · exact .step ih e1 e2 h3 h5
    · exact .grey h5
theorem shade_grey_stays (h : mlook p.marks k = some (r, true)) {r0 : Int} : ∃ r', mlook (pShade s p x r0).marks k = some (r', true) := by
  rcases shade_marks (s := s) (p := p) (x := x) (r := r0) with e | ⟨_, _, _, e, _⟩
  · rw [e]; exact ⟨r, h⟩
  · rw [e, mlook_mput]
    split
    · exact ⟨_, rfl⟩
    · exact ⟨r, h⟩
theorem shade_white (h : mlook p.marks k = none) {r0 : Int} : mlook (pShade s p x r0).marks k = none ∨ ∃ r', mlook (pShade s p x r0).marks k = some (r', true) := by
  rcases shade_marks (s := s) (p := p) (x := x) (r := r0) with e | ⟨_, _, _, e, _⟩
  · rw [e]; exact .inl h
  · rw [e, mlook_mput]
    split
    · exact .inr ⟨_, rfl⟩
    · exact .inl h
theorem marked_falls (f : Falls p q) (h : mlook p.marks k ≠ none) : mlook q.marks k ≠ none := by
  cases hl : mlook p.marks k with
  | none => exact absurd hl h
  | some w =>
    obtain ⟨r', g', e, _⟩ := f.marks k w.1 w.2 hl
    rw [e]; simp
theorem shade_pr (h : Lead s p k) : Lead s (pShade s p x r) k :=
  pr_along (fun _ _ h => shade_grey_stays h) (fun _ o _ h1 h2 _ h4 => (shade_white h4).imp_left fun h5 => ⟨h5, o, h1, h2⟩) h
theorem shade_ok (h : OkM s p k) : OkM s (pShade s p x r) k := h.elim (fun h => .inl (marked_falls shade_falls h)) fun h => .inr (shade_pr h)
theorem shade_hits (hid : isId x) (hn : x.n = s.node) (hg : hGet s x.s ≠ none) : mlook (pShade s p x r).marks x.s ≠ none := by
  have h := shade_low (s := s) (p := p) (x := x) (r := r) hid
  rw [if_pos hn] at h
  obtain ⟨r', g, e, _⟩ := h hg
  rw [e]; simp
theorem shade_mk (h : ∀ k w, mlook p.marks k = some w → hGet s k ≠ none) : ∀ k w, mlook (pShade s p x r).marks k = some w → hGet s k ≠ none := by
  intro k w e
  rcases shade_marks (s := s) (p := p) (x := x) (r := r) with hm | ⟨_, _, hg, hm, _⟩
  · rw [hm] at e; exact h k w e
  · rw [hm, mlook_mput] at e
    by_cases ek : k = x.s
    · rw [ek]; exact hg
    · rw [if_neg ek] at e; exact h k w e
theorem TriB.shade (h : TriB s p) : TriB s (pShade s p x r) :=
  ⟨shade_mk h.has, fun k r o y hl hg hy hn => shade_ok (h.black k r o y (shade_black hl) hg hy hn)⟩
theorem TriB.shades {l : List Id} (h : TriB s p) : TriB s (pShades s p l r) := by
  unfold pShades
  induction l generalizing p with
  | nil => exact h
  | cons y l ih => exact ih h.shade
theorem shades_ok {l : List Id} (h : OkM s p k) : OkM s (pShades s p l r) k := by
  unfold pShades
  induction l generalizing p with
  | nil => exact h
  | cons y l ih => exact ih (shade_ok h)
theorem shades_mk {l : List Id} (h : ∀ k w, mlook p.marks k = some w → hGet s k ≠ none) : ∀ k w, mlook (pShades s p l r).marks k = some w → hGet s k ≠ none := by
  unfold pShades
  induction l generalizing p with
  | nil => exact h
  | cons y l ih => exact ih (shade_mk h)
theorem shades_hits {l : List Id} (hx : x ∈ l) (hid : isId x) (hn : x.n = s.node) (hg : hGet s x.s ≠ none) : mlook (pShades s p l r).marks x.s ≠ none := by
  have h := shades_low (s := s) (p := p) (r := r) hx hid
  rw [if_pos hn] at h
  obtain ⟨r', g, e, _⟩ := h hg
  rw [e]; simp
/-- A grey object is scanned. -/
theorem TriB.scan (h : TriB s p) (ho : s.ok) (hp : p.ok) (hn : s.node = 1) (hc : Closed s) : TriB s (pScan s p k).2 ∧ ∀ j, OkM s p j → OkM s (pScan s p k).2 j := by
  unfold pScan
  split
  · rename_i o w hg hl
    simp only
    have hids := (ho.obs o (hGet_mem hg).1).ids
    obtain ⟨p1, hp1⟩ : ∃ p1 : Ps, p1 = { p with marks := mput p.marks k (w, false) } := ⟨_, rfl⟩
    rw [← hp1]
    have m1 : ∀ j, mlook p.marks j ≠ none → mlook p1.marks j ≠ none := fun j hj => by
      rw [hp1]; simp only; rw [mlook_mput]
      split
      · simp
      · exact hj
    have m2 : ∀ j, mlook p.marks j ≠ none → mlook (pShades s p1 o.refs w).marks j ≠ none := fun j hj => marked_falls shades_falls (m1 j hj)
    have hits : ∀ y ∈ o.refs, y.n = 1 → mlook (pShades s p1 o.refs w).marks y.s ≠ none := fun y hy hy1 => shades_hits hy (okId_own (hids y hy) hy1) (by rw [hy1, hn]) (hc k o hg y hy hy1)
    have blk : ∀ j r, mlook (pShades s p1 o.refs w).marks j = some (r, false) → j = k ∨ mlook p.marks j = some (r, false) := fun j r hj => by
      have hb := shades_black hj
      rw [hp1] at hb
      simp only at hb
      rw [mlook_mput] at hb
      by_cases ej : j = k
      · exact .inl ej
      · rw [if_neg ej] at hb; exact .inr hb
    have pr : ∀ j, Lead s p j → Lead s (pShades s p1 o.refs w) j ∨ mlook (pShades s p1 o.refs w).marks j ≠ none := fun j hj => by
      have key : ∀ j, Lead s p j → Lead s (pShades s p1 o.refs w) j ∨ ∃ r, mlook (pShades s p1 o.refs w).marks j = some (r, false) := fun j hj => by
        induction hj with
        | grey hgr =>
          rename_i j r
          cases hm : mlook (pShades s p1 o.refs w).marks j with
          | none => exact absurd hm (m2 j (by rw [hgr]; simp))
          | some v =>
            obtain ⟨v1, v2⟩ := v
            cases v2
            · exact .inr ⟨v1, rfl⟩
            · exact .inl (.grey hm)
        | step hpr h1 h2 h3 h4 ih =>
          rename_i a oa y
          cases hm : mlook (pShades s p1 o.refs w).marks y.s with
          | some v =>
            obtain ⟨v1, v2⟩ := v
            cases v2
            · exact .inr ⟨v1, rfl⟩
            · exact .inl (.grey hm)
          | none =>
            rcases ih with ih | ⟨r, ih⟩
            · exact .inl (.step ih h1 h2 h3 hm)
            · rcases blk a r ih with rfl | hb
              · rw [hg] at h1
                cases h1
                exact absurd hm (hits y h2 h3)
              · exact absurd hb (pr_not_black hpr r)
      rcases key j hj with h | ⟨r, h⟩
      · exact .inl h
      · exact .inr (by rw [h]; simp)
    have okk : ∀ j, OkM s p j → OkM s (pShades s p1 o.refs w) j := fun j hj => hj.elim (fun h => .inl (m2 j h)) fun h => (pr j h).elim .inr .inl
    refine ⟨⟨shades_mk fun j v hj => ?_, fun j r' oj y hl' hg' hy hy1 => ?_⟩, okk⟩
    · rw [hp1] at hj
      simp only at hj
      rw [mlook_mput] at hj
      by_cases ej : j = k
      · rw [ej, hg]; simp
      · rw [if_neg ej] at hj; exact h.has j v hj
    · rcases blk j r' hl' with rfl | hb
      · rw [hg] at hg'
        cases hg'
        exact .inl (hits y hy hy1)
      · exact okk _ (h.black j r' oj y hb hg' hy hy1)
  · exact ⟨h, fun _ h => h⟩
theorem TriB.same (h : TriB s p) (e : q.marks = p.marks) : TriB s q := by
  have hpr : ∀ j, Lead s p j → Lead s q j := fun j hj => pr_along (fun k r hk => ⟨r, by rw [e]; exact hk⟩) (fun _ o _ h1 h2 _ h4 => .inl ⟨by rw [e]; exact h4, o, h1, h2⟩) hj
  exact ⟨fun k w hk => h.has k w (by rw [← e]; exact hk), fun k r o y hl hg hy hn => (h.black k r o y (by rw [← e]; exact hl) hg hy hn).imp (fun g => by rw [e]; exact g) (hpr _)⟩
theorem okm_same (e : q.marks = p.marks) (h : OkM s p k) : OkM s q k :=
  h.imp (fun g => by rw [e]; exact g) fun g => pr_along (fun k r hk => ⟨r, by rw [e]; exact hk⟩) (fun _ o _ h1 h2 _ h4 => .inl ⟨by rw [e]; exact h4, o, h1, h2⟩) g

/-- The marker's step leaves it so. -/
theorem mkStep_tri {m : Mk} (h : TriB s p) (ho : s.ok) (hp : p.ok) (hn : s.node = 1) (hc : Closed s) : TriB s (mkStep s p m).2.1 ∧ ∀ j, OkM s p j → OkM s (mkStep s p m).2.1 j := by
  unfold mkStep
  split
  · rename_i k hk
    have h1 : TriB s (pPop p).2 := h.same pPop_marks.1
    have h2 := h1.scan (k := k) ho hp.pop hn hc
    exact ⟨h2.1, fun j hj => h2.2 j (okm_same pPop_marks.1 hj)⟩
  · split
    · exact h.scan ho hp hn hc
    · split
      · exact ⟨h.same rfl, fun j hj => okm_same (p := p) (q := pRest p) rfl hj⟩
      · split
        · exact ⟨h, fun _ h => h⟩
        · simp only
          unfold mkSee
          split
          · split
            · exact ⟨h.shade, fun j hj => shade_ok hj⟩
            · exact ⟨h, fun _ h => h⟩
          · exact ⟨h, fun _ h => h⟩
/-- What is grey waits; what is held, up to the marker's place, is marked. -/
structure Seen (s : Hs) (p : Ps) (m : Mk) : Prop where
  grey : Greys p fun k => m.pass = true ∧ m.at_ < k
  seen : ∀ k o, hGet s k = some o → 0 < o.din → k ≤ m.place → mlook p.marks k ≠ none
theorem mkStep_seen {m : Mk} (hb : TriB s p) (h : Seen s p m) (ho : s.ok) (hp : p.ok) (hm : m.ok) : Seen s (mkStep s p m).2.1 (mkStep s p m).2.2 := by
  unfold mkStep
  split
  · rename_i k hk
    simp only
    have e : pPop p = ((k, true), { p with stack := p.stack.dropLast }) := by unfold pPop; rw [hk]
    have f : Falls p (pScan s (pPop p).2 k).2 := (Falls.same pPop_marks.1 pPop_marks.2.1).trans scan_falls
    refine ⟨?_, fun a o hg hd hle => marked_falls f (h.seen a o hg hd hle)⟩
    refine Greys.scan ?_ fun r hr => ?_
    · intro j w hj
      rw [pPop_marks.1] at hj
      rw [pPop_marks.2.2]
      rcases h.grey j w hj with g | g | g
      · have hst : p.stack = (pPop p).2.stack ++ [k] := by
          rw [e]
          obtain ⟨l, hl⟩ : ∃ l, p.stack = l ++ [k] := List.getLast?_eq_some_iff.1 hk
          rw [hl]; simp
        rw [hst] at g
        rcases List.mem_append.1 g with g | g
        · exact .inl g
        · exact .inr (.inr (.inr (by simpa using g)))
      · exact .inr (.inl g)
      · exact .inr (.inr (.inl g))
    · rw [pPop_marks.1] at hr
      exact hb.has k _ hr
  · rename_i hk
    have hst : p.stack = [] := List.getLast?_eq_none_iff.1 hk
    split
    · rename_i hc
      simp only
      refine ⟨?_, fun a o hg hd hle => marked_falls scan_falls (h.seen a o hg hd hle)⟩
      refine Greys.scan (fun j w hj => ?_) fun r hr => hb.has _ _ hr
      rcases h.grey j w hj with g | g | g
      · exact .inl g
      · exact .inr (.inl g)
      · have := hNext_min ho hc.2 (hb.has j _ hj) g.2
        by_cases ej : j = (hNext s m.at_).1
        · exact .inr (.inr (.inr ej))
        · exact .inr (.inr (.inl ⟨hc.1, by show (hNext s m.at_).1 < j; omega⟩))
    · rename_i hc
      have hdone : ∀ j, hGet s j ≠ none → ¬ (m.pass = true ∧ m.at_ < j) := fun j hj ⟨h1, h2⟩ => by
        cases hn : (hNext s m.at_).2
        · have := hNext_false hn hj; omega
        · exact hc ⟨h1, hn⟩
      split
      · simp only
        refine ⟨fun j w hj => ?_, h.seen⟩
        have := get_ser ho (hb.has j _ hj)
        exact .inr (.inr ⟨rfl, by show (0 : Int) < j; omega⟩)
      · have hgrey : Greys p fun _ => False := fun j w hj => by
          rcases h.grey j w hj with g | g | g
          · exact .inl g
          · exact .inr (.inl g)
          · exact absurd g (hdone j (hb.has j _ hj))
        split
        · simp only
          refine ⟨fun j w hj => ?_, h.seen⟩
          rcases hgrey j w hj with g | g | g
          · exact .inl g
          · exact .inr (.inl g)
          · exact g.elim
        · rename_i hn
          have hn : (hNext s m.place).2 = true := by simpa using hn
          simp only
          have f : Falls p (mkSee s p (hNext s m.place).1) := by
            unfold mkSee
            split
            · split
              · exact shade_falls
              · exact Falls.refl p
            · exact Falls.refl p
          have hnx := hNext_pos ho hn
          refine ⟨fun j w hj => ?_, fun a o hg hd hle => ?_⟩
          · have hgr : Greys (mkSee s p (hNext s m.place).1) fun _ => False := by
              unfold mkSee
              split
              · split
                · exact hgrey.shade
                · exact hgrey
              · exact hgrey
            rcases hgr j w hj with g | g | g
            · exact .inl g
            · exact .inr (.inl g)
            · exact g.elim
          · simp only at hle
            by_cases ea : a = (hNext s m.place).1
            · subst ea
              unfold mkSee
              rw [hg]
              simp only
              rw [if_pos hd]
              have hn1 := ho.node
              have hl1 := ho.last
              exact shade_hits (x := ⟨s.node, (hNext s m.place).1⟩) (by unfold isId; exact ⟨hn1.1, hn1.2, hnx.2.1, by show (hNext s m.place).1 ≤ _; omega⟩) rfl (by rw [hg]; simp)
            · refine marked_falls f (h.seen a o hg hd ?_)
              rcases Int.lt_or_le m.place a with hlt | hge
              · have := hNext_min ho hn (k := a) (by rw [hg]; simp) hlt
                omega
              · exact hge
/-- In the end nothing is grey, and all that is held is marked. -/
theorem mkStep_fin {m : Mk} (hb : TriB s p) (h : Seen s p m) (he : (mkStep s p m).1 = false) : (∀ j r, mlook p.marks j ≠ some (r, true)) ∧ ∀ k o, hGet s k = some o → 0 < o.din → mlook p.marks k ≠ none := by
  obtain ⟨_, h2, h3, h4, h5⟩ := mkStep_end he
  refine ⟨fun j r e => ?_, fun k o hg hd => h.seen k o hg hd (hNext_false h5 (by rw [hg]; simp))⟩
  rcases h.grey j r e with g | g | g
  · rw [h2] at g; cases g
  · rw [h3] at g; cases g
  · have := hNext_false (h4 g.1) (hb.has j _ e)
    omega
theorem okm_fin (h : ∀ j r, mlook p.marks j ≠ some (r, true)) (hk : OkM s p k) : mlook p.marks k ≠ none := by
  rcases hk with hk | hk
  · exact hk
  · exfalso
    induction hk with
    | grey e => exact h _ _ e
    | step _ _ _ _ _ ih => exact ih
end
end Go.Proofs.YtojcacejgbnfkaaGreat

namespace Go.Proofs.YtojcacejgbnfkaaGreat
set_option linter.unusedSimpArgs false
set_option linter.unusedVariables false
open Go
/-- How the shaking's phase and its lists go together. -/
structure Flags (k : Sk) : Prop where
  low : k.ph ≤ 1 → ∀ m : Int, isOf k.sc m = false
  armed : 2 ≤ k.ph → ∀ m : Int, 0 ≤ m → m < k.ar.length → isOf k.ar m = true
  scanned : k.ph = 3 → ∀ m : Int, 0 ≤ m → m < k.sc.length → isOf k.sc m = true
/-- Till the sweeping. -/
structure Live4 (s : Hs) (c : Cy) (sl : List (List Id)) : Prop where
  closed : Closed s
  slots : ∀ row ∈ sl, ∀ x ∈ row, x.n = 1 → hGet s x.s ≠ none
  tri : c.sk.ph ≠ 0 → TriB s c.p
  scanned : c.sk.ph ≠ 0 → ∀ (m : Nat) row x, isOf c.sk.sc m = true → sl[m]? = some row → x ∈ row → x.n = 1 → OkM s c.p x.s
  early : c.sk.ph ≠ 0 → c.st = 0 → Greys c.p fun _ => False
  seen : c.st ≠ 0 → Seen s c.p c.m
  nob : c.sk.ph = 1 → ∀ k r, mlook c.p.marks k ≠ some (r, false)
/-- An object that sweeping leaves. -/
def Good (s : Hs) (c : Cy) (k : Int) : Prop := hGet s k ≠ none ∧ (mlook c.p.marks k ≠ none ∨ c.e < k)
structure Live5 (s : Hs) (c : Cy) (sl : List (List Id)) : Prop where
  last : c.e ≤ s.last
  refs : ∀ k o x, Good s c k → hGet s k = some o → x ∈ o.refs → x.n = 1 → Good s c x.s
  slots : ∀ row ∈ sl, ∀ x ∈ row, x.n = 1 → Good s c x.s
  roots : ∀ k o, hGet s k = some o → 0 < o.din → Good s c k
  swept : ∀ k, hGet s k ≠ none → k ≤ c.pl → Good s c k
structure YdOk (s : Hs) (c : Cy) (sl : List (List Id)) : Prop where
  ho : s.ok
  node : s.node = 1
  cok : c.ok
  len : sl.length + 1 = c.sk.ar.length
  flags : Flags c.sk
  own : ∀ k o, hGet s k = some o → o.refs.length = 2 ∧ ∀ x ∈ o.refs, x = noId ∨ x.n = 1
  mine : ∀ row ∈ sl, row.length = 3 ∧ ∀ x ∈ row, x = noId ∨ x.n = 1
  four : c.st ≠ 5 → Live4 s c sl
  five : c.st = 5 → Live5 s c sl

section
variable {s s' : Hs} {c : Cy} {sl : List (List Id)} {stir : Int}
theorem isOf_iff {l : List Bool} {m : Int} : isOf l m = true ↔ 0 ≤ m ∧ m < l.length ∧ l.getD m.toNat false = true := by
  unfold isOf
  rw [Bool.and_eq_true, Bool.and_eq_true, decide_eq_true_iff, decide_eq_true_iff, and_assoc]
theorem isOf_set {l : List Bool} {m j : Int} (hm : 0 ≤ m ∧ m < l.length) : isOf (l.set m.toNat true) j = (decide (j = m) || isOf l j) := by
  rw [Bool.eq_iff_iff, Bool.or_eq_true, decide_eq_true_iff, isOf_iff, isOf_iff, List.length_set, List.getD_eq_getElem?_getD, List.getD_eq_getElem?_getD, List.getElem?_set]
  by_cases e : j = m
  · subst e
    refine ⟨fun _ => .inl rfl, fun _ => ⟨hm.1, hm.2, ?_⟩⟩
    rw [if_pos rfl, if_pos (by omega)]
    rfl
  · by_cases h0 : 0 ≤ j
    · rw [if_neg (by omega)]
      simp [e]
    · simp [e, h0]
theorem isOf_all {l : List Bool} (h : l.all id = true) {m : Int} (h0 : 0 ≤ m) (h1 : m < l.length) : isOf l m = true := by
  rw [isOf_iff]
  refine ⟨h0, h1, ?_⟩
  have hl : m.toNat < l.length := by omega
  rw [List.getD_eq_getElem?_getD, List.getElem?_eq_getElem hl]
  rw [List.all_eq_true] at h
  exact h _ (List.getElem_mem hl)
theorem isOf_rep {n : Nat} {m : Int} : isOf (List.replicate n false) m = false := by
  cases h : isOf (List.replicate n false) m
  · rfl
  · rw [isOf_iff] at h
    have := h.2.2
    rw [List.getD_eq_getElem?_getD, List.getElem?_replicate] at this
    split at this <;> cases this
theorem Flags.ans {k : Sk} (h : Flags k) (hl : k.sc.length = k.ar.length) (m : Int) : Flags (k.ans m).1 := by
  unfold Sk.ans
  split
  · exact h
  · rename_i hm
    split
    · rename_i hp
      split
      · exact h
      · refine ⟨fun _ => h.low (by omega), fun h2 j h0 h1 => ?_, fun h3 => ?_⟩
        · simp only at h2 h1 ⊢
          split at h2
          · rename_i ha
            exact isOf_all ha h0 h1
          · omega
        · simp only at h3
          split at h3 <;> omega
    · split
      · rename_i hp
        split
        · exact h
        · refine ⟨fun h2 => ?_, fun _ => h.armed (by omega), fun h3 j h0 h1 => ?_⟩
          · simp only at h2
            split at h2 <;> omega
          · simp only at h3 h1 ⊢
            split at h3
            · rename_i ha
              exact isOf_all ha h0 h1
            · omega
      · exact h
theorem Flags.begun {k : Sk} (h : Flags k) : Flags k.begun := by
  unfold Sk.begun
  split
  · exact ⟨fun _ => h.low (by omega), fun h2 => by simp only at h2; omega, fun h2 => by simp only at h2; omega⟩
  · exact h
theorem Flags.ended {k : Sk} (h : Flags k) : Flags k.ended := by
  unfold Sk.ended
  split
  · exact ⟨fun _ _ => isOf_rep, fun h2 => by simp only at h2; omega, fun h2 => by simp only at h2; omega⟩
  · exact h

/-- A unit of marking. -/
theorem Live4.marks (ho : s.ok) (hn : s.node = 1) (hc : c.ok) (h : Live4 s c sl) (hst : c.st ≠ 0) (hph : c.sk.ph = 3) {c' : Cy} (e1 : c'.sk = c.sk) (e2 : c'.p = (mkStep s c.p c.m).2.1) (e3 : c'.m = (mkStep s c.p c.m).2.2) (e4 : c'.st ≠ 0) : Live4 s c' sl := by
  have ht := h.tri (by omega)
  have h1 := mkStep_tri (m := c.m) ht ho hc.p hn h.closed
  have h2 := mkStep_seen ht (h.seen hst) ho hc.p hc.m
  refine ⟨h.closed, h.slots, fun _ => by rw [e2]; exact h1.1, fun _ m row x a b d e => ?_, fun _ h0 => absurd h0 e4, fun _ => by rw [e2, e3]; exact h2, fun h0 => by rw [e1] at h0; omega⟩
  rw [e1] at a
  rw [e2]
  exact h1.2 _ (h.scanned (by omega) m row x a b d e)
/-- Marking is over: sweeping begins. -/
theorem Live4.sweeps (ho : s.ok) (h : Live4 s c sl) (hf : Flags c.sk) (hl : sl.length + 1 = c.sk.ar.length) (hsc : c.sk.sc.length = c.sk.ar.length) (hst : c.st ≠ 0) (hph : c.sk.ph = 3) (he : (mkStep s c.p c.m).1 = false) {c' : Cy} (e2 : c'.p = c.p) (e3 : c'.pl = 0) (e4 : c'.e = s.last) : Live5 s c' sl := by
  have ht := h.tri (by omega)
  obtain ⟨f1, f2⟩ := mkStep_fin ht (h.seen hst) he
  have mk : ∀ k, hGet s k ≠ none → OkM s c.p k → Good s c' k := fun k h1 h2 => ⟨h1, .inl (by rw [e2]; exact okm_fin f1 h2)⟩
  have good : ∀ k, Good s c' k → mlook c.p.marks k ≠ none := fun k hg => by
    rcases hg.2 with h1 | h1
    · rw [e2] at h1; exact h1
    · have := get_ser ho hg.1; omega
  refine ⟨by omega, fun k o x hg ho' hx hn => ?_, fun row hr x hx hn => ?_, fun k o hg hd => ⟨by rw [hg]; simp, .inl (by rw [e2]; exact f2 k o hg hd)⟩, fun k hk hp => by have := get_ser ho hk; omega⟩
  · have hm := good k hg
    cases hl' : mlook c.p.marks k with
    | none => exact absurd hl' hm
    | some w =>
      obtain ⟨r, g⟩ := w
      cases g
      · exact mk _ (h.closed k o ho' x hx hn) (ht.black k r o x hl' ho' hx hn)
      · exact absurd hl' (f1 k r)
  · obtain ⟨m, hm, rfl⟩ := List.mem_iff_getElem.1 hr
    exact mk _ (h.slots _ hr x hx hn) (h.scanned (by omega) m _ x (hf.scanned hph m (by omega) (by omega)) (List.getElem?_eq_getElem hm) hx hn)
theorem Good.free {k n : Int} {p : Ps} (hg : Good s c k) (hn : ¬ Good s c n) (e1 : c.p.marks = p.marks ∨ p.marks = mdel c.p.marks n) {c' : Cy} (e2 : c'.p = p) (e3 : c'.e = c.e) : Good (hFree s n).2 c' k := by
  have hkn : k ≠ n := fun e => hn (e ▸ hg)
  refine ⟨by rw [hFree_get, if_neg hkn]; exact hg.1, hg.2.imp (fun h => ?_) fun h => by rw [e3]; exact h⟩
  rw [e2]
  rcases e1 with e1 | e1
  · rw [← e1]; exact h
  · rw [e1, mlook_mdel, if_neg hkn]; exact h

theorem YdOk.unit (h : YdOk s c sl) : YdOk (cyUnit s c stir).s (cyUnit s c stir).c sl := by
  have hok := h.cok.unit (stir := stir) h.ho
  have hfin : ∀ {a : Option Bool} {b : Int} {c' : Cy}, (cyUnit s c stir) = ⟨a, b, s, c'⟩ → c'.sk = c.sk → (c'.st ≠ 5 → Live4 s c' sl) → (c'.st = 5 → Live5 s c' sl) → YdOk (cyUnit s c stir).s (cyUnit s c stir).c sl := fun {a b c'} e e1 h4 h5 => by
    rw [e] at hok ⊢
    exact ⟨h.ho, h.node, hok.2, by simp only; rw [e1]; exact h.len, by simp only; rw [e1]; exact h.flags, h.own, h.mine, h4, h5⟩
  rcases h.cok.state with ⟨e, e1, e2⟩ | ⟨e, e1, e2⟩ | ⟨e, e1, e2⟩ | ⟨e, e1, e2⟩ | ⟨e, e1, e2⟩ | ⟨e, e1, e2⟩
  · have eu : cyUnit s c stir = ⟨some false, 0, s, { c with p := pTurn c.p, sk := c.sk.begun }⟩ := by unfold cyUnit; rw [if_pos e]
    have hb := begun_len c.sk
    have h4 := h.four (by omega)
    have hsc : c.sk.begun.sc = c.sk.sc := by unfold Sk.begun; split <;> rfl
    rw [eu] at hok ⊢
    refine ⟨h.ho, h.node, hok.2, by simp only; rw [hb.1]; exact h.len, h.flags.begun, h.own, h.mine, fun _ => ⟨h4.closed, h4.slots, fun _ => ⟨fun k w hk => (by cases hk), fun k r o x hk => (by cases hk)⟩, fun _ m row x a => ?_, fun _ _ k r hk => (by cases hk), fun h0 => absurd e1 h0, fun _ k r hk => (by cases hk)⟩, fun h5 => by simp only at h5; omega⟩
    simp only at a
    rw [hsc, h.flags.low (by omega)] at a
    cases a
  · have eu : cyUnit s c stir = ⟨some false, 0, s, c⟩ := by unfold cyUnit; rw [if_neg (by omega), if_pos (.inl e), if_pos (by omega)]
    exact hfin eu rfl h.four h.five
  · by_cases h3 : c.sk.ph = 3
    · have eu : cyUnit s c stir = ⟨none, 0, s, cyMarks s { c with st := 3, m := ⟨0, false, 0⟩ } stir⟩ := by unfold cyUnit; rw [if_neg (by omega), if_pos (.inr e), if_neg (by omega)]
      have h4 := h.four (by omega)
      have hL : Live4 s { c with st := 3, m := ⟨0, false, 0⟩ } sl := ⟨h4.closed, h4.slots, h4.tri, h4.scanned, fun _ h0 => by simp only at h0; omega, fun _ => ⟨fun k r hk => ((h4.early (by omega) e1) k r hk).imp_right fun g => g.imp_right False.elim, fun k o hg hd hle => by
        have := get_ser h.ho (m := k) (by rw [hg]; simp)
        simp only at hle
        omega⟩, h4.nob⟩
      have hc1 : ({ c with st := 3, m := ⟨0, false, 0⟩ } : Cy).ok := ⟨h.cok.len, h.cok.size, h.cok.ph, .inr ⟨.inl rfl, h3⟩, h.cok.sus, h.cok.work, h.cok.p, ⟨Int.le_refl _, Int.le_refl _⟩, h.cok.r, h.cok.pl⟩
      generalize hcc : ({ c with st := 3, m := ⟨0, false, 0⟩ } : Cy) = c1 at eu hL hc1
      have k1 : c1.sk = c.sk := by rw [← hcc]
      have k2 : c1.st = 3 := by rw [← hcc]
      by_cases hm : (mkStep s c1.p c1.m).1 = true
      · have ec : cyMarks s c1 stir = { c1 with p := (mkStep s c1.p c1.m).2.1, m := (mkStep s c1.p c1.m).2.2 } := by unfold cyMarks; rw [if_pos hm]
        rw [ec] at eu
        exact hfin eu k1 (fun _ => hL.marks h.ho h.node hc1 (by omega) (by rw [k1]; exact h3) rfl rfl rfl (by show c1.st ≠ 0; omega)) fun h5 => by simp only at h5; omega
      · have ec : cyMarks s c1 stir = { c1 with p := (mkStep s c1.p c1.m).2.1, m := (mkStep s c1.p c1.m).2.2, stir := stir, r := rcNew c1.sus, st := 4 } := by unfold cyMarks; rw [if_neg hm]
        rw [ec] at eu
        exact hfin eu k1 (fun _ => hL.marks h.ho h.node hc1 (by omega) (by rw [k1]; exact h3) rfl rfl rfl (by show (4 : Int) ≠ 0; omega)) fun h5 => by simp only at h5; omega
    · have eu : cyUnit s c stir = ⟨some false, 0, s, c⟩ := by unfold cyUnit; rw [if_neg (by omega), if_pos (.inr e), if_pos h3]
      exact hfin eu rfl h.four h.five
  · have eu : cyUnit s c stir = ⟨none, 0, s, cyMarks s c stir⟩ := by unfold cyUnit; rw [if_neg (by omega), if_neg (by omega), if_pos e]
    have hL := h.four (by omega)
    by_cases hm : (mkStep s c.p c.m).1 = true
    · have ec : cyMarks s c stir = { c with p := (mkStep s c.p c.m).2.1, m := (mkStep s c.p c.m).2.2 } := by unfold cyMarks; rw [if_pos hm]
      rw [ec] at eu
      exact hfin eu rfl (fun _ => hL.marks h.ho h.node h.cok (by omega) e2 rfl rfl rfl (by show c.st ≠ 0; omega)) fun h5 => by simp only at h5; omega
    · have ec : cyMarks s c stir = { c with p := (mkStep s c.p c.m).2.1, m := (mkStep s c.p c.m).2.2, stir := stir, r := rcNew c.sus, st := 4 } := by unfold cyMarks; rw [if_neg hm]
      rw [ec] at eu
      exact hfin eu rfl (fun _ => hL.marks h.ho h.node h.cok (by omega) e2 rfl rfl rfl (by show (4 : Int) ≠ 0; omega)) fun h5 => by simp only at h5; omega
  · have eu : cyUnit s c stir = ⟨none, 0, s, cyReaches s c⟩ := by unfold cyUnit; rw [if_neg (by omega), if_neg (by omega), if_neg (by omega), if_pos e]
    have hL := h.four (by omega)
    by_cases hm : (mkStep s c.p c.m).1 = true
    · have ec : cyReaches s c = { c with p := (mkStep s c.p c.m).2.1, m := (mkStep s c.p c.m).2.2 } := by unfold cyReaches; rw [if_pos hm]
      rw [ec] at eu
      exact hfin eu rfl (fun _ => hL.marks h.ho h.node h.cok (by omega) e2 rfl rfl rfl (by show c.st ≠ 0; omega)) fun h5 => by simp only at h5; omega
    · by_cases hr : (rcStep s (mkStep s c.p c.m).2.1 c.r).1 = true
      · have ec : cyReaches s c = { c with p := (mkStep s c.p c.m).2.1, m := (mkStep s c.p c.m).2.2, r := (rcStep s (mkStep s c.p c.m).2.1 c.r).2 } := by unfold cyReaches; rw [if_neg hm, if_pos hr]
        rw [ec] at eu
        exact hfin eu rfl (fun _ => hL.marks h.ho h.node h.cok (by omega) e2 rfl rfl rfl (by show c.st ≠ 0; omega)) fun h5 => by simp only at h5; omega
      · have ec := (rfl : cyReaches s c = cyReaches s c)
        have hm' : (mkStep s c.p c.m).1 = false := by simpa using hm
        have e9 : (cyReaches s c).sk = c.sk ∧ (cyReaches s c).st = 5 ∧ (cyReaches s c).p = c.p ∧ (cyReaches s c).pl = 0 ∧ (cyReaches s c).e = s.last := by
          unfold cyReaches
          rw [if_neg hm, if_neg hr, (mkStep_end hm').1]
          exact ⟨rfl, rfl, rfl, rfl, rfl⟩
        exact hfin eu e9.1 (fun h4 => absurd e9.2.1 h4) fun _ => hL.sweeps h.ho h.flags h.len h.cok.len (by omega) e2 hm' e9.2.2.1 e9.2.2.2.1 e9.2.2.2.2
  · have h5 := h.five e1
    have eu : cyUnit s c stir = if (swStep s c.p c.pl c.e).1.2 = false then ⟨some true, 0, (swStep s c.p c.pl c.e).2.1, { c with p := (swStep s c.p c.pl c.e).2.2.1, pl := (swStep s c.p c.pl c.e).2.2.2, sk := c.sk.ended, st := 0 }⟩
        else ⟨none, (swStep s c.p c.pl c.e).1.1, (swStep s c.p c.pl c.e).2.1, { c with p := (swStep s c.p c.pl c.e).2.2.1, pl := (swStep s c.p c.pl c.e).2.2.2 }⟩ := by
      unfold cyUnit
      rw [if_neg (by omega), if_neg (by omega), if_neg (by omega), if_neg (by omega), if_pos e]
    by_cases h1 : (hNext s c.pl).2 = false ∨ (hNext s c.pl).1 > c.e
    · have es : swStep s c.p c.pl c.e = ((0, false), s, c.p, c.pl) := by unfold swStep; rw [if_pos h1]
      rw [es, if_pos rfl] at eu
      rw [eu] at hok ⊢
      -- all that is there sweeping leaves
      have hall : ∀ k, hGet s k ≠ none → Good s c k := fun k hk => by
        rcases Int.lt_or_le c.pl k with hlt | hle
        · rcases h1 with h1 | h1
          · have := hNext_false h1 hk; omega
          · cases hn : (hNext s c.pl).2
            · have := hNext_false hn hk; omega
            · have := hNext_min h.ho hn hk hlt
              exact ⟨hk, .inr (by omega)⟩
        · exact h5.swept k hk hle
      have hl := ended_len c.sk
      have hph : c.sk.ended.ph = 0 := by unfold Sk.ended; rw [if_pos e2]
      refine ⟨h.ho, h.node, hok.2, by simp only; rw [hl.1]; exact h.len, h.flags.ended, h.own, h.mine, fun _ => ⟨fun k o hg x hx hn => (h5.refs k o x (hall k (by rw [hg]; simp)) hg hx hn).1, fun row hr x hx hn => (h5.slots row hr x hx hn).1, fun h0 => absurd hph h0, fun h0 => absurd hph h0, fun h0 => absurd hph h0, fun h0 => absurd rfl h0, fun h0 => by simp only at h0; omega⟩, fun h0 => by simp only at h0; omega⟩
    · have hn : (hNext s c.pl).2 = true := by
        cases hh : (hNext s c.pl).2
        · exact absurd (.inl hh) h1
        · rfl
      have hle : (hNext s c.pl).1 ≤ c.e := by omega
      have hrg := hNext_range h.ho hn
      generalize hq : (hNext s c.pl).1 = n at *
      have hmin : ∀ k, hGet s k ≠ none → k ≤ n → k ≤ c.pl ∨ k = n := fun k hk hkn => by
        rcases Int.lt_or_le c.pl k with hlt | hge
        · have := hNext_min h.ho hn hk hlt
          exact .inr (by omega)
        · exact .inl hge
      by_cases hm : (pMark s c.p n).2.2 = true
      · have es : swStep s c.p c.pl c.e = ((0, true), s, c.p, n) := by unfold swStep; rw [hq, if_neg (by rw [hn]; simp; omega), if_pos hm]
        rw [es, if_neg (by simp)] at eu
        refine hfin eu rfl (fun h4 => absurd e1 h4) fun _ => ⟨h5.last, h5.refs, h5.slots, h5.roots, fun k hk hkn => ?_⟩
        rcases hmin k hk hkn with h6 | rfl
        · exact h5.swept k hk h6
        · refine ⟨hk, .inl fun hl => ?_⟩
          unfold pMark at hm
          rw [hl] at hm
          cases hm
      · have es : swStep s c.p c.pl c.e = ((n, true), (hFree s n).2, pForget c.p n, n) := by unfold swStep; rw [hq, if_neg (by rw [hn]; simp; omega), if_neg hm]
        rw [es, if_neg (by simp)] at eu
        rw [eu] at hok ⊢
        have hno : ¬ Good s c n := fun hg => by
          rcases hg.2 with h6 | h6
          · apply hm
            unfold pMark
            cases hl : mlook c.p.marks n with
            | none => exact absurd hl h6
            | some w => simp only; rw [if_neg hg.1]
          · omega
        have gf : ∀ k, Good s c k → Good (hFree s n).2 { c with p := pForget c.p n, pl := n } k := fun k hg => hg.free hno (.inr rfl) rfl rfl
        have sub : ∀ k o, hGet (hFree s n).2 k = some o → hGet s k = some o := fun k o hg => by
          rw [hFree_get] at hg
          split at hg
          · cases hg
          · exact hg
        have back : ∀ k, Good (hFree s n).2 { c with p := pForget c.p n, pl := n } k → Good s c k := fun k hg => by
          have h6 := hg.1
          rw [hFree_get] at h6
          split at h6
          · exact absurd rfl h6
          · rename_i hkn
            refine ⟨h6, hg.2.imp_left fun h7 => ?_⟩
            simp only [pForget] at h7
            rw [mlook_mdel, if_neg hkn] at h7
            exact h7
        refine ⟨hok.1, by rw [hFree_node]; exact h.node, hok.2, h.len, h.flags, fun k o hg => h.own k o (sub k o hg), h.mine, fun h4 => absurd e1 h4, fun _ => ⟨by simp only; rw [hFree_last]; exact h5.last, fun k o x hg ho' hx hxn => gf _ (h5.refs k o x (back k hg) (sub k o ho') hx hxn), fun row hr x hx hxn => gf _ (h5.slots row hr x hx hxn), fun k o hg hd => gf _ (h5.roots k o (sub k o hg) hd), fun k hk hkn => ?_⟩⟩
        simp only at hkn
        have hk' : hGet s k ≠ none := by
          cases hg : hGet (hFree s n).2 k with
          | none => exact absurd hg hk
          | some o => rw [sub k o hg]; simp
        rcases hmin k hk' hkn with h6 | rfl
        · exact gf _ (h5.swept k hk' h6)
        · rw [hFree_get, if_pos rfl] at hk
          exact absurd rfl hk
theorem YdOk.steps : ∀ {n : Nat} {s : Hs} {c : Cy} {fr : List Int}, YdOk s c sl → YdOk (cySteps stir n s c fr).2.1 (cySteps stir n s c fr).2.2 sl
  | 0, s, c, fr, h => h
  | n + 1, s, c, fr, h => by
    unfold cySteps
    split
    · exact h.unit
    · exact YdOk.steps h.unit
theorem YdOk.step (h : YdOk s c sl) : YdOk (cyStep s c stir).2.1 (cyStep s c stir).2.2 sl := YdOk.steps h
end
end Go.Proofs.YtojcacejgbnfkaaGreat

namespace Go.Proofs.YtojcacejgbnfkaaGreat
set_option linter.unusedSimpArgs false
set_option linter.unusedVariables false
open Go
section
variable {s s' : Hs} {c : Cy} {sl : List (List Id)} {p q : Ps}
theorem ans_cases {k : Sk} (hl : k.sc.length = k.ar.length) (m : Int) : ((k.ans m).2 = 2 ∧ k.ph = 2 ∧ 0 ≤ m ∧ m < k.sc.length ∧ (k.ans m).1.sc = k.sc.set m.toNat true ∧ ((k.ans m).1.ph = 2 ∨ (k.ans m).1.ph = 3)) ∨
    ((k.ans m).2 = 1 ∧ k.ph = 1 ∧ (k.ans m).1.sc = k.sc ∧ ((k.ans m).1.ph = 1 ∨ (k.ans m).1.ph = 2)) ∨ ((k.ans m).2 = 0 ∧ (k.ans m).1 = k) := by
  unfold Sk.ans
  split
  · exact .inr (.inr ⟨rfl, rfl⟩)
  · split
    · split
      · exact .inr (.inr ⟨rfl, rfl⟩)
      · refine .inr (.inl ⟨rfl, by assumption, rfl, ?_⟩)
        simp only
        split
        · exact .inr rfl
        · exact .inl rfl
    · split
      · split
        · exact .inr (.inr ⟨rfl, rfl⟩)
        · refine .inl ⟨rfl, by assumption, by omega, by omega, rfl, ?_⟩
          simp only
          split
          · exact .inr rfl
          · exact .inl rfl
      · exact .inr (.inr ⟨rfl, rfl⟩)
theorem own_isId (ho : s.ok) {x : Id} (hn : x.n = 1) (hg : hGet s x.s ≠ none) : isId x := by
  have := get_ser ho hg
  have := ho.last
  unfold isId
  omega
theorem YdOk.shake (h : YdOk s c sl) {m : Int} {held : List Id} (hh : ∀ row, 0 ≤ m → sl[m.toNat]? = some row → held = row) : YdOk s (cyShake s c m held).2 sl := by
  have hl := ans_len c.sk m
  have hf := h.flags.ans h.cok.len m
  have hcok := h.cok.shake (s := s) (m := m) (held := held)
  unfold cyShake at hcok ⊢
  rcases ans_cases h.cok.len m with ⟨e, e1, e2, e3, e4, e5⟩ | ⟨e, e1, e2, e3⟩ | ⟨e, e1⟩
  · rw [if_pos e] at hcok ⊢
    have hst : c.st = 0 := by rcases h.cok.st with g | g <;> omega
    have h4 := h.four (by omega)
    have ht := h4.tri (by omega)
    refine ⟨h.ho, h.node, hcok, by simp only; rw [hl.1]; exact h.len, hf, h.own, h.mine, fun _ => ⟨h4.closed, h4.slots, fun _ => ht.shades, fun _ j row x a b d e' => ?_, fun _ _ => (h4.early (by omega) hst).shades, fun h0 => absurd hst h0, fun h0 => by simp only at h0; omega⟩, fun h5 => by simp only at h5; omega⟩
    simp only at a ⊢
    rw [e4, isOf_set ⟨e2, e3⟩, Bool.or_eq_true, decide_eq_true_iff] at a
    rcases a with a | a
    · have hr := hh row e2 (by rw [show m.toNat = j by omega]; exact b)
      subst hr
      have hg := h4.slots _ (List.mem_of_getElem? b) x d e'
      exact .inl (shades_hits d (own_isId h.ho e' hg) (by rw [e', h.node]) hg)
    · exact shades_ok (h4.scanned (by omega) j row x a b d e')
  · rw [if_neg (by omega)] at hcok ⊢
    have hst : c.st = 0 := by rcases h.cok.st with g | g <;> omega
    have h4 := h.four (by omega)
    refine ⟨h.ho, h.node, hcok, by simp only; rw [hl.1]; exact h.len, hf, h.own, h.mine, fun _ => ⟨h4.closed, h4.slots, fun _ => h4.tri (by omega), fun _ j row x a => ?_, fun _ _ => h4.early (by omega) hst, fun h0 => absurd hst h0, fun _ => h4.nob e1⟩, fun h5 => by simp only at h5; omega⟩
    simp only at a
    rw [e2, h.flags.low (by omega)] at a
    cases a
  · rw [if_neg (by omega)]
    simp only
    rw [e1]
    exact h

theorem YdOk.slot (h : YdOk s c sl) {m a : Nat} {row : List Id} {v : Id} (hm : sl[m]? = some row) (hv : v = noId ∨ v.n = 1) (h4 : c.st ≠ 5 → v.n = 1 → hGet s v.s ≠ none ∧ (c.sk.ph ≠ 0 → isOf c.sk.sc m = true → OkM s c.p v.s)) (h5 : c.st = 5 → v.n = 1 → Good s c v.s) : YdOk s c (sl.set m (row.set a v)) := by
  have hrow := List.mem_of_getElem? hm
  have sub : ∀ r ∈ sl.set m (row.set a v), r ∈ sl ∨ r = row.set a v := fun r hr => List.mem_or_eq_of_mem_set hr
  have subx : ∀ x ∈ row.set a v, x ∈ row ∨ x = v := fun x hx => List.mem_or_eq_of_mem_set hx
  refine ⟨h.ho, h.node, h.cok, by rw [List.length_set]; exact h.len, h.flags, h.own, fun r hr => ?_, fun hst => ?_, fun hst => ?_⟩
  · rcases sub r hr with hr | rfl
    · exact h.mine r hr
    · refine ⟨by rw [List.length_set]; exact (h.mine row hrow).1, fun x hx => ?_⟩
      rcases subx x hx with hx | rfl
      · exact (h.mine row hrow).2 x hx
      · exact hv
  · have g := h.four hst
    refine ⟨g.closed, fun r hr x hx hn => ?_, g.tri, fun hp j r x a b d e => ?_, g.early, g.seen, g.nob⟩
    · rcases sub r hr with hr | rfl
      · exact g.slots r hr x hx hn
      · rcases subx x hx with hx | rfl
        · exact g.slots row hrow x hx hn
        · exact (h4 hst hn).1
    · rw [List.getElem?_set] at b
      by_cases ej : m = j
      · subst ej
        rw [if_pos rfl] at b
        split at b
        · cases b
          rcases subx x d with hx | rfl
          · exact g.scanned hp m row x a hm hx e
          · exact (h4 hst e).2 hp a
        · cases b
      · rw [if_neg ej] at b
        exact g.scanned hp j r x a b d e
  · have g := h.five hst
    refine ⟨g.last, g.refs, fun r hr x hx hn => ?_, g.roots, g.swept⟩
    rcases sub r hr with hr | rfl
    · exact g.slots r hr x hx hn
    · rcases subx x hx with hx | rfl
      · exact g.slots row hrow x hx hn
      · exact h5 hst hn
/-- What is held may be held elsewhere. -/
theorem YdOk.held (h : YdOk s c sl) {m : Nat} {row : List Id} {v : Id} (hm : sl[m]? = some row) (hx : v ∈ row) :
    (v = noId ∨ v.n = 1) ∧ (c.st ≠ 5 → v.n = 1 → hGet s v.s ≠ none ∧ (c.sk.ph ≠ 0 → isOf c.sk.sc m = true → OkM s c.p v.s)) ∧ (c.st = 5 → v.n = 1 → Good s c v.s) :=
  ⟨(h.mine row (List.mem_of_getElem? hm)).2 v hx, fun hst hn => ⟨(h.four hst).slots row (List.mem_of_getElem? hm) v hx hn, fun hp a => (h.four hst).scanned hp m row v a hm hx hn⟩, fun hst hn => (h.five hst).slots row (List.mem_of_getElem? hm) v hx hn⟩
theorem YdOk.there (h : YdOk s c sl) {row : List Id} (hr : row ∈ sl) {v : Id} (hx : v ∈ row) (hn : v.n = 1) : hGet s v.s ≠ none := by
  by_cases hst : c.st = 5
  · exact ((h.five hst).slots row hr v hx hn).1
  · exact (h.four hst).slots row hr v hx hn
/-- What is read of what is held. -/
theorem YdOk.load (h : YdOk s c sl) {m : Nat} {row : List Id} {z : Id} {f : Int} (hm : sl[m]? = some row) (hz : z ∈ row) (hz1 : z.n = 1) (hf : 0 ≤ f ∧ f < 2) :
    (hRef s z.s f).2 = 0 ∧ ((hRef s z.s f).1 = noId ∨ (hRef s z.s f).1.n = 1) ∧ (c.st ≠ 5 → (hRef s z.s f).1.n = 1 → hGet s (hRef s z.s f).1.s ≠ none ∧ (c.sk.ph ≠ 0 → isOf c.sk.sc m = true → OkM s c.p (hRef s z.s f).1.s)) ∧ (c.st = 5 → (hRef s z.s f).1.n = 1 → Good s c (hRef s z.s f).1.s) := by
  have hex := h.there (List.mem_of_getElem? hm) hz hz1
  cases hg : hGet s z.s with
  | none => exact absurd hg hex
  | some o =>
    obtain ⟨o1, o2⟩ := h.own z.s o hg
    have e : hRef s z.s f = (o.refs.getD f.toNat noId, 0) := by unfold hRef; rw [hg]; simp only; rw [if_pos (by omega)]
    rw [e]
    have hmem : o.refs.getD f.toNat noId ∈ o.refs := by
      rw [List.getD_eq_getElem?_getD, List.getElem?_eq_getElem (by omega)]
      exact List.getElem_mem _
    generalize o.refs.getD f.toNat noId = x at hmem
    refine ⟨rfl, o2 x hmem, fun hst hn => ⟨(h.four hst).closed z.s o hg x hmem hn, fun hp a => ?_⟩, fun hst hn => ?_⟩
    · have g := h.four hst
      rcases g.scanned hp m row z a hm hz hz1 with hk | hk
      · cases hl : mlook c.p.marks z.s with
        | none => exact absurd hl hk
        | some w =>
          obtain ⟨r, gr⟩ := w
          cases gr
          · exact (g.tri hp).black z.s r o x hl hg hmem hn
          · cases hx : mlook c.p.marks x.s with
            | none => exact .inr (.step (.grey hl) hg hmem hn hx)
            | some w => exact .inl (by rw [hx]; simp)
      · cases hx : mlook c.p.marks x.s with
        | none => exact .inr (.step hk hg hmem hn hx)
        | some w => exact .inl (by rw [hx]; simp)
    · exact (h.five hst).refs z.s o x ((h.five hst).slots row (List.mem_of_getElem? hm) z hz hz1) hg hmem hn

theorem hPut_get {k k' : Int} {g : Ob → Ob} (hs : ∀ o, (g o).ser = o.ser) : hGet (hPut s k g) k' = if k' = k then (hGet s k').map g else hGet s k' := by
  unfold hGet hPut
  simp only
  induction s.obs with
  | nil => simp
  | cons a l ih =>
    rw [List.map_cons]
    by_cases ha : a.ser = k
    · rw [if_pos ha]
      by_cases hk : (g a).ser = k'
      · rw [List.find?_cons_of_pos (by simpa using hk), List.find?_cons_of_pos (by rw [hs] at hk; simpa using hk), if_pos (by rw [← ha, ← hk, hs])]
        rfl
      · rw [List.find?_cons_of_neg (by simpa using hk), List.find?_cons_of_neg (by rw [hs] at hk; simpa using hk), ih]
    · rw [if_neg ha]
      by_cases hk : a.ser = k'
      · rw [List.find?_cons_of_pos (by simpa using hk), List.find?_cons_of_pos (by simpa using hk), if_neg (by rw [← hk]; exact ha)]
      · rw [List.find?_cons_of_neg (by simpa using hk), List.find?_cons_of_neg (by simpa using hk), ih]
theorem hPut_has {k k' : Int} {g : Ob → Ob} (hs : ∀ o, (g o).ser = o.ser) : hGet (hPut s k g) k' ≠ none ↔ hGet s k' ≠ none := by
  rw [hPut_get hs]
  split
  · cases hGet s k' <;> simp
  · exact Iff.rfl
theorem hPut_of {k k' : Int} {g : Ob → Ob} (hs : ∀ o, (g o).ser = o.ser) {o' : Ob} (h : hGet (hPut s k g) k' = some o') : ∃ o, hGet s k' = some o ∧ ((k' = k ∧ o' = g o) ∨ (k' ≠ k ∧ o' = o)) := by
  rw [hPut_get hs] at h
  split at h
  · rename_i e
    cases hg : hGet s k' with
    | none => rw [hg] at h; cases h
    | some o => rw [hg] at h; exact ⟨o, rfl, .inl ⟨e, by simpa using h.symm⟩⟩
  · rename_i e
    exact ⟨o', h, .inr ⟨e, rfl⟩⟩

/-- A reference is written. -/
theorem YdOk.store (h : YdOk s c sl) {m : Nat} {row : List Id} {z now : Id} {f : Int} (hm : sl[m]? = some row) (hz : z ∈ row) (hz1 : z.n = 1) (hnow : now = noId ∨ now ∈ row) (hf : 0 ≤ f ∧ f < 2) :
    (hSetRef s z.s f now).2.1 = 0 ∧ YdOk (hSetRef s z.s f now).2.2 (cyStore (hSetRef s z.s f now).2.2 c m (hSetRef s z.s f now).1 now) sl := by
  have hload := h.load (f := f) hm hz hz1 hf
  have hrow := List.mem_of_getElem? hm
  have hnown : now = noId ∨ now.n = 1 := hnow.elim .inl fun hx => (h.mine row hrow).2 now hx
  have hnowg : now.n = 1 → now ∈ row := fun hn => hnow.elim (fun e => by rw [e] at hn; cases hn) id
  have hnowe : now.n = 1 → hGet s now.s ≠ none := fun hn => h.there hrow (hnowg hn) hn
  have hid : okId now = true := by
    rw [okId_iff]
    rcases hnown with e | e
    · exact .inl e
    · have := own_isId h.ho e (hnowe e)
      exact .inr this
  have hex := h.there hrow hz hz1
  obtain ⟨oz, hoz⟩ : ∃ oz, hGet s z.s = some oz := by
    cases hg : hGet s z.s with
    | none => exact absurd hg hex
    | some o => exact ⟨o, rfl⟩
  obtain ⟨l2, own2⟩ := h.own z.s oz hoz
  have hold : (hRef s z.s f).1 = oz.refs.getD f.toNat noId := by unfold hRef; rw [hoz]; simp only; rw [if_pos (by omega)]
  have e : hSetRef s z.s f now = ((hRef s z.s f).1, 0, hPut s z.s fun o => { o with refs := o.refs.set f.toNat now }) := by
    unfold hSetRef
    rw [if_neg (by rw [hid]; decide), if_pos hload.1]
  have hsok := h.ho.setRef z.s f now
  rw [e] at hsok ⊢
  simp only at hsok ⊢
  have hser : ∀ o : Ob, ({ o with refs := o.refs.set f.toNat now } : Ob).ser = o.ser := fun _ => rfl
  obtain ⟨s1, hs1⟩ : ∃ s1, s1 = hPut s z.s fun o => { o with refs := o.refs.set f.toNat now } := ⟨_, rfl⟩
  rw [← hs1] at hsok ⊢
  obtain ⟨old, hol⟩ : ∃ old, old = (hRef s z.s f).1 := ⟨_, rfl⟩
  rw [← hol] at hload ⊢
  rw [← hol] at hold
  have has : ∀ k, hGet s1 k ≠ none ↔ hGet s k ≠ none := fun k => by rw [hs1]; exact hPut_has hser
  have of : ∀ k o', hGet s1 k = some o' → ∃ o, hGet s k = some o ∧ o'.din = o.din ∧ ((k = z.s ∧ o'.refs = o.refs.set f.toNat now) ∨ o'.refs = o.refs) := fun k o' hg => by
    rw [hs1] at hg
    obtain ⟨o, h1, ⟨h2, h3⟩ | ⟨h2, h3⟩⟩ := hPut_of hser hg
    · exact ⟨o, h1, by rw [h3], .inl ⟨h2, by rw [h3]⟩⟩
    · exact ⟨o, h1, by rw [h3], .inr (by rw [h3])⟩
  have refsub : ∀ k o' x, hGet s1 k = some o' → x ∈ o'.refs → x = now ∨ ∃ o, hGet s k = some o ∧ x ∈ o.refs := fun k o' x hg hx => by
    obtain ⟨o, h1, _, ⟨_, h3⟩ | h3⟩ := of k o' hg
    · rw [h3] at hx
      rcases List.mem_or_eq_of_mem_set hx with hx | hx
      · exact .inr ⟨o, h1, hx⟩
      · exact .inl hx
    · rw [h3] at hx; exact .inr ⟨o, h1, hx⟩
  have hnode1 : s1.node = 1 := by rw [hs1]; exact h.node
  have hlast1 : s1.last = s.last := by rw [hs1]; rfl
  have hown1 : ∀ k o, hGet s1 k = some o → o.refs.length = 2 ∧ ∀ x ∈ o.refs, x = noId ∨ x.n = 1 := fun k o' hg => by
    obtain ⟨o, h1, _, h3⟩ := of k o' hg
    obtain ⟨k1, k2⟩ := h.own k o h1
    refine ⟨?_, fun x hx => ?_⟩
    · rcases h3 with ⟨_, h3⟩ | h3
      · rw [h3, List.length_set]; exact k1
      · rw [h3]; exact k1
    · rcases refsub k o' x hg hx with rfl | ⟨o2, g1, g2⟩
      · exact hnown
      · exact (h.own k o2 g1).2 x g2
  have hcok := h.cok.store (s := s1) (m := (m : Int)) (old := old) (now := now)
  -- the paint, as it is told
  obtain ⟨p2, hp2, hshape⟩ : ∃ p2, cyStore s1 c m old now = { c with p := p2 } ∧ (p2 = c.p ∨ p2 = pShade s1 c.p old 0 ∨ p2 = pShade s1 (pShade s1 c.p old 0) now 0) := by
    unfold cyStore
    by_cases hop : c.isOpen = true ∧ isOf c.sk.ar m = true
    · rw [if_pos hop]
      by_cases hsc : isOf c.sk.sc m = true
      · rw [if_pos hsc]; exact ⟨_, rfl, .inr (.inl rfl)⟩
      · rw [if_neg hsc]; exact ⟨_, rfl, .inr (.inr rfl)⟩
    · rw [if_neg hop]; exact ⟨c.p, by cases c; rfl, .inl rfl⟩
  have hopen : 2 ≤ c.sk.ph → c.st ≠ 5 → p2 = if isOf c.sk.sc m = true then pShade s1 c.p old 0 else pShade s1 (pShade s1 c.p old 0) now 0 := fun hph hst => by
    have hop : c.isOpen = true ∧ isOf c.sk.ar m = true := by
      refine ⟨?_, h.flags.armed hph m (by omega) ?_⟩
      · unfold Cy.isOpen
        rw [Bool.and_eq_true, decide_eq_true_iff, decide_eq_true_iff]
        rcases h.cok.state with g | g | g | g | g | g <;> omega
      · have := ltOfGet hm
        have := h.len
        omega
    unfold cyStore at hp2
    rw [if_pos hop] at hp2
    have := congrArg Cy.p hp2
    exact this.symm
  rw [hp2] at hcok ⊢
  refine ⟨by trivial, hsok, hnode1, hcok, h.len, h.flags, hown1, h.mine, fun hst => ?_, fun hst => ?_⟩
  · have hst : c.st ≠ 5 := hst
    have g := h.four hst
    -- what marks are left
    have fall : Falls c.p p2 := by
      rcases hshape with e | e | e <;> rw [e]
      · exact Falls.refl _
      · exact shade_falls
      · exact shade_falls.trans shade_falls
    have stay : ∀ k r, mlook c.p.marks k = some (r, true) → ∃ r', mlook p2.marks k = some (r', true) := fun k r hk => by
      rcases hshape with e | e | e <;> rw [e]
      · exact ⟨r, hk⟩
      · exact shade_grey_stays hk
      · obtain ⟨r', hk'⟩ := shade_grey_stays (s := s1) (x := old) (r0 := 0) hk
        exact shade_grey_stays hk'
    have white : ∀ k, mlook c.p.marks k = none → mlook p2.marks k = none ∨ ∃ r', mlook p2.marks k = some (r', true) := fun k hk => by
      rcases hshape with e | e | e <;> rw [e]
      · exact .inl hk
      · exact shade_white hk
      · rcases shade_white (s := s1) (x := old) (r0 := 0) hk with hk' | ⟨r', hk'⟩
        · exact shade_white hk'
        · exact .inr (shade_grey_stays hk')
    have blk : ∀ k r, mlook p2.marks k = some (r, false) → mlook c.p.marks k = some (r, false) := fun k r hk => by
      rcases hshape with e | e | e <;> rw [e] at hk
      · exact hk
      · exact shade_black hk
      · exact shade_black (shade_black hk)
    have hasm : (∀ k w, mlook c.p.marks k = some w → hGet s k ≠ none) → ∀ k w, mlook p2.marks k = some w → hGet s1 k ≠ none := fun hh => by
      have h0 : ∀ k w, mlook c.p.marks k = some w → hGet s1 k ≠ none := fun k w hk => (has k).2 (hh k w hk)
      rcases hshape with e | e | e <;> rw [e]
      · exact h0
      · exact shade_mk h0
      · exact shade_mk (shade_mk h0)
    have hclosed : Closed s1 := fun k o' hg x hx hn => (has _).2 (by
      rcases refsub k o' x hg hx with rfl | ⟨o, g1, g2⟩
      · exact hnowe hn
      · exact g.closed k o g1 x g2 hn)
    have gr : ∀ {A : Int → Prop}, Greys c.p A → Greys p2 A := fun {A} hg => by
      rcases hshape with e | e | e <;> rw [e]
      · exact hg
      · exact hg.shade
      · exact hg.shade.shade
    -- when all are armed, what leads on is told
    have okk : 2 ≤ c.sk.ph → ∀ k, OkM s c.p k → OkM s1 p2 k := fun hph k hk => by
      rcases hk with hk | hk
      · exact .inl (marked_falls fall hk)
      · refine .inr (pr_along stay (fun a o y h1 h2 h3 h4 => ?_) hk)
        by_cases hgo : (∃ o', hGet s1 a = some o' ∧ y ∈ o'.refs)
        · exact (white y.s h4).imp_left fun h5 => ⟨h5, hgo⟩
        · -- it is the one that was written over
          have hya : a = z.s ∧ y = old := by
            have hex1 : hGet s1 a ≠ none := (has a).2 (by rw [h1]; simp)
            cases hg1 : hGet s1 a with
            | none => exact absurd hg1 hex1
            | some o' =>
              obtain ⟨o2, k1, _, ⟨k3, k4⟩ | k4⟩ := of a o' hg1
              · rw [h1] at k1
                cases k1
                refine ⟨k3, ?_⟩
                rw [k3, hoz] at h1
                cases h1
                obtain ⟨i, hi, hiy⟩ := List.mem_iff_getElem.1 h2
                by_cases ei : i = f.toNat
                · rw [hold, ← ei, List.getD_eq_getElem?_getD, List.getElem?_eq_getElem hi]
                  exact hiy.symm
                · refine (hgo ⟨o', hg1, ?_⟩).elim
                  rw [k4]
                  refine List.mem_iff_getElem.2 ⟨i, by rw [List.length_set]; exact hi, ?_⟩
                  rw [List.getElem_set_ne (Ne.symm ei)]
                  exact hiy
              · rw [h1] at k1
                cases k1
                exact (hgo ⟨o', hg1, by rw [k4]; exact h2⟩).elim
          obtain ⟨rfl, rfl⟩ := hya
          have hye := g.closed _ _ h1 y h2 h3
          have hyi := own_isId h.ho h3 hye
          have hm1 : mlook (pShade s1 c.p y 0).marks y.s ≠ none := shade_hits hyi (by rw [h3, hnode1]) ((has _).2 hye)
          have hm2 : mlook p2.marks y.s ≠ none := by
            rw [hopen hph hst]
            split
            · exact hm1
            · exact marked_falls shade_falls hm1
          rcases white y.s h4 with h5 | h5
          · exact absurd h5 hm2
          · exact .inr h5
    refine ⟨hclosed, fun r hr x hx hn => (has _).2 (g.slots r hr x hx hn), fun hp => ⟨hasm (g.tri hp).has, fun k r o' x hl hg hx hn => ?_⟩, fun hp j r x a b d e' => ?_, fun hp hst0 => gr (g.early hp hst0), fun hst0 => ⟨gr (g.seen hst0).grey, fun k o' hg hd hle => ?_⟩, fun hp k r hk => g.nob hp k r (blk k r hk)⟩
    · have hbl := blk k r hl
      have hp : c.sk.ph ≠ 0 := hp
      have hph : 2 ≤ c.sk.ph := by
        have := h.cok.ph
        rcases Int.lt_or_le c.sk.ph 2 with hlt | hge
        · exact absurd hbl (g.nob (by omega) k r)
        · exact hge
      rcases refsub k o' x hg hx with rfl | ⟨o, g1, g2⟩
      · by_cases hsc : isOf c.sk.sc m = true
        · exact okk hph _ (g.scanned hp m row x hsc hm (hnowg hn) hn)
        · refine .inl ?_
          rw [hopen hph hst, if_neg hsc]
          exact shade_hits (own_isId h.ho hn (hnowe hn)) (by rw [hn, hnode1]) ((has _).2 (hnowe hn))
      · exact okk hph _ ((g.tri hp).black k r o x hbl g1 g2 hn)
    · have hp : c.sk.ph ≠ 0 := hp
      have a : isOf c.sk.sc j = true := a
      have hph : 2 ≤ c.sk.ph := by
        have := h.cok.ph
        rcases Int.lt_or_le c.sk.ph 2 with hlt | hge
        · rw [h.flags.low (by omega)] at a; cases a
        · exact hge
      exact okk hph _ (g.scanned hp j r x a b d e')
    · obtain ⟨o, g1, g2, _⟩ := of k o' hg
      exact marked_falls fall ((g.seen hst0).seen k o g1 (by rw [← g2]; exact hd) hle)
  · have hst : c.st = 5 := hst
    have g := h.five hst
    have hp0 : p2 = c.p := by
      unfold cyStore at hp2
      have hno : ¬ (c.isOpen = true ∧ isOf c.sk.ar m = true) := fun hh => by
        have := hh.1
        unfold Cy.isOpen at this
        rw [Bool.and_eq_true, decide_eq_true_iff, decide_eq_true_iff] at this
        rcases h.cok.state with g | g | g | g | g | g <;> omega
      rw [if_neg hno] at hp2
      exact (congrArg Cy.p hp2).symm
    have gd : ∀ k, Good s c k ↔ Good s1 { c with p := p2 } k := fun k => by
      unfold Good
      simp only
      rw [hp0, has]
    refine ⟨by simp only; rw [hlast1]; exact g.last, fun k o' x hg ho' hx hn => (gd _).1 ?_, fun r hr x hx hn => (gd _).1 (g.slots r hr x hx hn), fun k o' hg hd => (gd _).1 ?_, fun k hk hle => (gd _).1 (g.swept k ((has k).1 hk) hle)⟩
    · rcases refsub k o' x ho' hx with rfl | ⟨o, g1, g2⟩
      · exact g.slots row hrow x (hnowg hn) hn
      · exact g.refs k o x ((gd k).2 hg) g1 g2 hn
    · obtain ⟨o, g1, g2, _⟩ := of k o' hg
      exact g.roots k o g1 (by rw [← g2]; exact hd)
end
end Go.Proofs.YtojcacejgbnfkaaGreat

namespace Go.Proofs.YtojcacejgbnfkaaGreat
set_option linter.unusedSimpArgs false
set_option linter.unusedVariables false
open Go
section
variable {s s' : Hs} {c : Cy} {sl : List (List Id)} {p q : Ps}
theorem Live4.shade {x : Id} {r : Int} (h : Live4 s c sl) : Live4 s { c with p := pShade s c.p x r } sl :=
  ⟨h.closed, h.slots, fun hp => (h.tri hp).shade, fun hp m row y a b d e => shade_ok (h.scanned hp m row y a b d e), fun hp h0 => (h.early hp h0).shade, fun h0 => ⟨(h.seen h0).grey.shade, fun k o hg hd hle => marked_falls shade_falls ((h.seen h0).seen k o hg hd hle)⟩, fun hp k r hk => h.nob hp k r (shade_black hk)⟩
theorem YdOk.touch (h : YdOk s c sl) {row : List Id} {z : Id} (hr : row ∈ sl) (hz : z ∈ row) (hz1 : z.n = 1) :
    YdOk s (cyTouch s c z) sl ∧ (cyTouch s c z).st = c.st ∧ (cyTouch s c z).e = c.e ∧ (c.st ≠ 5 → c.st ≠ 0 → mlook (cyTouch s c z).p.marks z.s ≠ none) ∧ (c.st = 5 → cyTouch s c z = c) := by
  have hex := h.there hr hz hz1
  have hid := own_isId h.ho hz1 hex
  have hcok := h.cok.touch (s := s) (x := z)
  unfold cyTouch at hcok ⊢
  by_cases ho : c.isOpen = true
  · have hst : c.st ≠ 5 := by
      unfold Cy.isOpen at ho
      rw [Bool.and_eq_true, decide_eq_true_iff, decide_eq_true_iff] at ho
      rcases h.cok.state with g | g | g | g | g | g <;> omega
    rw [if_pos (.inl ho)] at hcok ⊢
    refine ⟨⟨h.ho, h.node, hcok, h.len, h.flags, h.own, h.mine, fun _ => (h.four hst).shade, fun h5 => absurd h5 hst⟩, rfl, rfl, fun _ _ => shade_hits hid (by rw [hz1, h.node]) hex, fun h5 => absurd h5 hst⟩
  · rw [if_neg (fun hh => hh.elim ho fun hh => hh.2 (by rw [hz1, h.node]))]
    refine ⟨h, rfl, rfl, fun h5 h0 => ?_, fun _ => rfl⟩
    exfalso
    apply ho
    unfold Cy.isOpen
    rw [Bool.and_eq_true, decide_eq_true_iff, decide_eq_true_iff]
    rcases h.cok.state with g | g | g | g | g | g <;> omega

theorem YdOk.setIn (h : YdOk s c sl) {k d : Int} (hd : 0 ≤ d ∧ d ≤ 40) (hk : hGet s k ≠ none) (hc : 0 < d → (c.st ≠ 5 → c.st ≠ 0 → mlook c.p.marks k ≠ none) ∧ (c.st = 5 → Good s c k)) :
    (hSetIn s k d).1 = 0 ∧ YdOk (hSetIn s k d).2 c sl := by
  have hsok := h.ho.setIn k d
  obtain ⟨ok, hok⟩ : ∃ ok, hGet s k = some ok := by
    cases hg : hGet s k with
    | none => exact absurd hg hk
    | some o => exact ⟨o, rfl⟩
  have e : hSetIn s k d = (0, hPut s k fun o => { o with din := d }) := by
    unfold hSetIn
    rw [if_neg (by omega), hok]
  rw [e] at hsok ⊢
  simp only at hsok ⊢
  have hser : ∀ o : Ob, ({ o with din := d } : Ob).ser = o.ser := fun _ => rfl
  obtain ⟨s1, hs1⟩ : ∃ s1, s1 = hPut s k fun o => { o with din := d } := ⟨_, rfl⟩
  rw [← hs1] at hsok ⊢
  have has : ∀ j, hGet s1 j ≠ none ↔ hGet s j ≠ none := fun j => by rw [hs1]; exact hPut_has hser
  have of : ∀ j o', hGet s1 j = some o' → ∃ o, hGet s j = some o ∧ o'.refs = o.refs ∧ (o'.din = o.din ∨ (j = k ∧ o'.din = d)) := fun j o' hg => by
    rw [hs1] at hg
    obtain ⟨o, h1, ⟨h2, h3⟩ | ⟨h2, h3⟩⟩ := hPut_of hser hg
    · exact ⟨o, h1, by rw [h3], .inr ⟨h2, by rw [h3]⟩⟩
    · exact ⟨o, h1, by rw [h3], .inl (by rw [h3])⟩
  have to : ∀ j o, hGet s j = some o → ∃ o', hGet s1 j = some o' ∧ o'.refs = o.refs := fun j o hg => by
    have : hGet s1 j ≠ none := (has j).2 (by rw [hg]; simp)
    cases hg1 : hGet s1 j with
    | none => exact absurd hg1 this
    | some o' =>
      obtain ⟨o2, h1, h2, _⟩ := of j o' hg1
      rw [hg] at h1
      cases h1
      exact ⟨o', rfl, h2⟩
  have okk : ∀ j, OkM s c.p j → OkM s1 c.p j := fun j hj => hj.imp_right fun hj => pr_along (fun a r ha => ⟨r, ha⟩) (fun a o y h1 h2 h3 h4 => .inl ⟨h4, by
    obtain ⟨o', g1, g2⟩ := to a o h1
    exact ⟨o', g1, by rw [g2]; exact h2⟩⟩) hj
  have gd : ∀ j, Good s c j ↔ Good s1 c j := fun j => by unfold Good; rw [has]
  refine ⟨by trivial, hsok, by rw [hs1]; exact h.node, h.cok, h.len, h.flags, fun j o' hg => ?_, h.mine, fun hst => ?_, fun hst => ?_⟩
  · obtain ⟨o, g1, g2, _⟩ := of j o' hg
    rw [g2]
    exact h.own j o g1
  · have g := h.four hst
    refine ⟨fun j o' hg x hx hn => (has _).2 ?_, fun r hr x hx hn => (has _).2 (g.slots r hr x hx hn), fun hp => ⟨fun j w hj => (has j).2 ((g.tri hp).has j w hj), fun j r o' x hl hg hx hn => ?_⟩, fun hp m row x a b d' e' => okk _ (g.scanned hp m row x a b d' e'), g.early, fun h0 => ⟨(g.seen h0).grey, fun j o' hg hdd hle => ?_⟩, g.nob⟩
    · obtain ⟨o, g1, g2, _⟩ := of j o' hg
      rw [g2] at hx
      exact g.closed j o g1 x hx hn
    · obtain ⟨o, g1, g2, _⟩ := of j o' hg
      rw [g2] at hx
      exact okk _ ((g.tri hp).black j r o x hl g1 hx hn)
    · obtain ⟨o, g1, _, g3 | ⟨g3, g4⟩⟩ := of j o' hg
      · exact (g.seen h0).seen j o g1 (by rw [← g3]; exact hdd) hle
      · rw [g3]; exact (hc (by omega)).1 hst h0
  · have g := h.five hst
    refine ⟨by rw [hs1]; exact g.last, fun j o' x hg ho' hx hn => (gd _).1 ?_, fun r hr x hx hn => (gd _).1 (g.slots r hr x hx hn), fun j o' hg hdd => (gd _).1 ?_, fun j hj hle => (gd _).1 (g.swept j ((has j).1 hj) hle)⟩
    · obtain ⟨o, g1, g2, _⟩ := of j o' ho'
      rw [g2] at hx
      exact g.refs j o x ((gd j).2 hg) g1 hx hn
    · obtain ⟨o, g1, _, g3 | ⟨g3, g4⟩⟩ := of j o' hg
      · exact g.roots j o g1 (by rw [← g3]; exact hdd)
      · rw [g3]; exact (hc (by omega)).2 hst

/-- An object is made. -/
theorem YdOk.make (h : YdOk s c sl) {m : Nat} {row : List Id} (hm : sl[m]? = some row) (hmk : (hMake s 2 0).2.1 = 0) :
    YdOk (hMake s 2 0).2.2 (cyBorn (hMake s 2 0).2.2 c m (hMake s 2 0).1) sl ∧
    ((cyBorn (hMake s 2 0).2.2 c m (hMake s 2 0).1).st ≠ 5 → hGet (hMake s 2 0).2.2 (hMake s 2 0).1 ≠ none ∧ ((cyBorn (hMake s 2 0).2.2 c m (hMake s 2 0).1).sk.ph ≠ 0 → isOf (cyBorn (hMake s 2 0).2.2 c m (hMake s 2 0).1).sk.sc m = true → OkM (hMake s 2 0).2.2 (cyBorn (hMake s 2 0).2.2 c m (hMake s 2 0).1).p (hMake s 2 0).1)) ∧
    ((cyBorn (hMake s 2 0).2.2 c m (hMake s 2 0).1).st = 5 → Good (hMake s 2 0).2.2 (cyBorn (hMake s 2 0).2.2 c m (hMake s 2 0).1) (hMake s 2 0).1) := by
  have hsok := h.ho.make 2 0
  rcases hMake_split s 2 0 with ⟨hno, _⟩ | ⟨_, e1, e2, e3, _, c0, e4⟩
  · exact absurd hmk hno
  obtain ⟨s1, hs1⟩ : ∃ s1, s1 = (hMake s 2 0).2.2 := ⟨_, rfl⟩
  rw [← hs1] at hsok e2 e3 e4 ⊢
  rw [e1]
  obtain ⟨k, hk⟩ : ∃ k, k = s.last + 1 := ⟨_, rfl⟩
  rw [← hk] at e2 e4 ⊢
  obtain ⟨nw, hnw⟩ : ∃ nw, nw = (⟨k, c0, List.replicate (2 : Int).toNat noId, List.replicate (0 : Int).toNat 0, 0⟩ : Ob) := ⟨_, rfl⟩
  rw [← hnw] at e4
  have nrefs : nw.refs = [noId, noId] := by rw [hnw]; rfl
  have ndin : nw.din = 0 := by rw [hnw]
  have get : ∀ j, hGet s1 j = if j = k then some nw else hGet s j := fun j => by rw [hk]; exact get_append h.ho e4 (by rw [hnw]; exact hk) j
  have hk0 : hGet s k = none := by
    cases hg : hGet s k with
    | none => rfl
    | some o => have := get_ser h.ho (m := k) (by rw [hg]; simp); omega
  have ne : ∀ j, hGet s j ≠ none → j ≠ k := fun j hj e => by rw [e] at hj; exact hj hk0
  have up : ∀ j o, hGet s j = some o → hGet s1 j = some o := fun j o hg => by rw [get, if_neg (ne j (by rw [hg]; simp))]; exact hg
  have upn : ∀ j, hGet s j ≠ none → hGet s1 j ≠ none := fun j hj => by rw [get, if_neg (ne j hj)]; exact hj
  have hk1 : hGet s1 k = some nw := by rw [get, if_pos rfl]
  have down : ∀ j o, hGet s1 j = some o → (j = k ∧ o = nw) ∨ (j ≠ k ∧ hGet s j = some o) := fun j o hg => by
    rw [get] at hg
    by_cases e : j = k
    · rw [if_pos e] at hg; cases hg; exact .inl ⟨e, rfl⟩
    · rw [if_neg e] at hg; exact .inr ⟨e, hg⟩
  have hnode1 : s1.node = 1 := by rw [e3]; exact h.node
  have nno : ∀ x ∈ nw.refs, x.n ≠ 1 := fun x hx e => by
    rw [nrefs] at hx
    simp at hx
    rw [hx] at e
    cases e
  have hlen := ltOfGet hm
  have hl := h.len
  have hcok := h.cok.born (s := s1) (m := (m : Int)) (k := k)
  obtain ⟨p2, hp2, hshape⟩ : ∃ p2, cyBorn s1 c m k = { c with p := p2 } ∧ (p2 = c.p ∨ p2 = pShade s1 c.p ⟨1, k⟩ 0 ∨ (p2 = pBlacken s1 c.p k ∧ c.state ≠ 1)) := by
    unfold cyBorn
    by_cases hop : c.isOpen = true ∧ isOf c.sk.ar m = true
    · rw [if_pos hop]
      by_cases h1 : c.state = 1
      · rw [if_pos h1, hnode1]; exact ⟨_, rfl, .inr (.inl rfl)⟩
      · rw [if_neg h1]; exact ⟨_, rfl, .inr (.inr ⟨rfl, h1⟩)⟩
    · rw [if_neg hop]; exact ⟨c.p, by cases c; rfl, .inl rfl⟩
  have hopen : 2 ≤ c.sk.ph → c.st ≠ 5 → p2 = pBlacken s1 c.p k := fun hph hst => by
    have hop : c.isOpen = true ∧ isOf c.sk.ar m = true := by
      refine ⟨?_, h.flags.armed hph m (by omega) (by omega)⟩
      unfold Cy.isOpen
      rw [Bool.and_eq_true, decide_eq_true_iff, decide_eq_true_iff]
      rcases h.cok.state with g | g | g | g | g | g <;> omega
    have h1 : c.state ≠ 1 := by rcases h.cok.state with g | g | g | g | g | g <;> omega
    unfold cyBorn at hp2
    rw [if_pos hop, if_neg h1] at hp2
    exact (congrArg Cy.p hp2).symm
  have hp5 : c.st = 5 → p2 = c.p := fun hst => by
    have hno : ¬ (c.isOpen = true ∧ isOf c.sk.ar m = true) := fun hh => by
      have := hh.1
      unfold Cy.isOpen at this
      rw [Bool.and_eq_true, decide_eq_true_iff, decide_eq_true_iff] at this
      rcases h.cok.state with g | g | g | g | g | g <;> omega
    unfold cyBorn at hp2
    rw [if_neg hno] at hp2
    exact (congrArg Cy.p hp2).symm
  rw [hp2] at hcok ⊢
  have hown1 : ∀ j o, hGet s1 j = some o → o.refs.length = 2 ∧ ∀ x ∈ o.refs, x = noId ∨ x.n = 1 := fun j o hg => by
    rcases down j o hg with ⟨_, rfl⟩ | ⟨_, hg⟩
    · rw [nrefs]; exact ⟨rfl, fun x hx => by simp at hx; exact .inl hx⟩
    · exact h.own j o hg
  have hgood : c.st = 5 → Good s1 { c with p := p2 } k := fun hst => ⟨by rw [hk1]; simp, .inr (by have := (h.five hst).last; show c.e < k; omega)⟩
  refine ⟨⟨hsok, hnode1, hcok, h.len, h.flags, hown1, h.mine, fun hst => ?_, fun hst => ?_⟩, fun hst => ⟨by rw [hk1]; simp, fun hp a => ?_⟩, hgood⟩
  · have hst : c.st ≠ 5 := hst
    have g := h.four hst
    have mkn : c.sk.ph ≠ 0 → mlook c.p.marks k = none := fun hp => by
      cases hl' : mlook c.p.marks k with
      | none => rfl
      | some w => exact absurd hk0 ((g.tri hp).has k w hl')
    -- how marks turn: all as they were, but that of the new one
    have other : c.sk.ph ≠ 0 → ∀ j, j ≠ k → mlook p2.marks j = mlook c.p.marks j := fun hp j hj => by
      rcases hshape with e | e | ⟨e, _⟩ <;> rw [e]
      · rcases shade_marks (s := s1) (p := c.p) (x := ⟨1, k⟩) (r := 0) with e' | ⟨_, _, _, e', _⟩
        · rw [e']
        · rw [e', mlook_mput, if_neg hj]
      · unfold pBlacken
        split
        · simp only; rw [mlook_mput, if_neg hj]
        · rfl
    have okk : c.sk.ph ≠ 0 → ∀ j, OkM s c.p j → OkM s1 p2 j := fun hp j hj => by
      have mk' : ∀ a, mlook c.p.marks a ≠ none → a ≠ k := fun a ha e => ha (by rw [e]; exact mkn hp)
      rcases hj with hj | hj
      · exact .inl (by rw [other hp j (mk' j hj)]; exact hj)
      · refine .inr (pr_along (fun a r ha => ⟨r, by rw [other hp a (mk' a (by rw [ha]; simp))]; exact ha⟩) (fun a o y h1 h2 h3 h4 => .inl ?_) hj)
        have hye := g.closed a o h1 y h2 h3
        exact ⟨by rw [other hp y.s (ne _ hye)]; exact h4, o, up a o h1, h2⟩
    have gr : c.sk.ph ≠ 0 → ∀ {A : Int → Prop}, Greys c.p A → Greys p2 A := fun hp {A} hg => by
      rcases hshape with e | e | ⟨e, _⟩ <;> rw [e]
      · exact hg
      · exact hg.shade
      · unfold pBlacken
        split
        · intro j r hj
          simp only at hj
          rw [mlook_mput] at hj
          split at hj
          · cases hj
          · exact hg j r hj
        · exact hg
    have ph0 : c.st ≠ 0 → c.sk.ph ≠ 0 := fun h0 => by rcases h.cok.st with g | g <;> omega
    refine ⟨fun j o hg x hx hn => ?_, fun r hr x hx hn => upn _ (g.slots r hr x hx hn), fun hp => ⟨fun j w hj => ?_, fun j r o x hl' hg hx hn => ?_⟩, fun hp j r x a b d e' => okk hp _ (g.scanned hp j r x a b d e'), fun hp h0 => gr hp (g.early hp h0), fun h0 => ⟨gr (ph0 h0) (g.seen h0).grey, fun j o hg hd hle => ?_⟩, fun hp j r hj => ?_⟩
    · rcases down j o hg with ⟨_, rfl⟩ | ⟨_, hg⟩
      · exact absurd hn (nno x hx)
      · exact upn _ (g.closed j o hg x hx hn)
    · by_cases e : j = k
      · rw [e, hk1]; simp
      · rw [other hp j e] at hj
        exact upn _ ((g.tri hp).has j w hj)
    · rcases down j o hg with ⟨_, rfl⟩ | ⟨e, hg⟩
      · exact absurd hn (nno x hx)
      · rw [other hp j e] at hl'
        exact okk hp _ ((g.tri hp).black j r o x hl' hg hx hn)
    · rcases down j o hg with ⟨_, rfl⟩ | ⟨e, hg⟩
      · rw [ndin] at hd; omega
      · show mlook p2.marks j ≠ none
        rw [other (ph0 h0) j e]
        exact (g.seen h0).seen j o hg hd hle
    · have hp : c.sk.ph = 1 := hp
      have hj : mlook p2.marks j = some (r, false) := hj
      rcases hshape with e | e | ⟨e, e'⟩
      · rw [e] at hj; exact g.nob hp j r hj
      · rw [e] at hj; exact g.nob hp j r (shade_black hj)
      · apply e'
        rcases h.cok.state with g | g | g | g | g | g <;> omega
  · have hst : c.st = 5 := hst
    have g := h.five hst
    have hp0 := hp5 hst
    have gu : ∀ j, Good s c j → Good s1 { c with p := p2 } j := fun j hj => ⟨upn _ hj.1, by rw [hp0]; exact hj.2⟩
    have gdn : ∀ j, j ≠ k → Good s1 { c with p := p2 } j → Good s c j := fun j e hj => by
      refine ⟨?_, by have := hj.2; rw [hp0] at this; exact this⟩
      have := hj.1
      rw [get, if_neg e] at this
      exact this
    refine ⟨by show c.e ≤ s1.last; have := g.last; omega, fun j o x hg ho' hx hn => ?_, fun r hr x hx hn => gu _ (g.slots r hr x hx hn), fun j o hg hd => ?_, fun j hj hle => ?_⟩
    · rcases down j o ho' with ⟨_, rfl⟩ | ⟨e, ho'⟩
      · exact absurd hn (nno x hx)
      · exact gu _ (g.refs j o x (gdn j e hg) ho' hx hn)
    · rcases down j o hg with ⟨_, rfl⟩ | ⟨e, hg⟩
      · rw [ndin] at hd; omega
      · exact gu _ (g.roots j o hg hd)
    · by_cases e : j = k
      · rw [e]; exact hgood hst
      · rw [get, if_neg e] at hj
        exact gu _ (g.swept j hj hle)
  · have hst : c.st ≠ 5 := hst
    have a : isOf c.sk.sc m = true := a
    have hph : 2 ≤ c.sk.ph := by
      have := h.cok.ph
      rcases Int.lt_or_le c.sk.ph 2 with hlt | hge
      · rw [h.flags.low (by omega)] at a; cases a
      · exact hge
    refine .inl ?_
    show mlook p2.marks k ≠ none
    rw [hopen hph hst]
    unfold pBlacken
    split
    · simp only; rw [mlook_mput, if_pos rfl]; simp
    · rename_i hh
      intro hl'
      exact hh ⟨hl', by rw [hk1]; simp⟩
/-- At first. -/
theorem YdOk.start {n most grey work : Int} {bl : Nat} (hn : 1 ≤ n ∧ n ≤ 4) (hg : 1 ≤ grey ∧ grey ≤ 64) (hw : 1 ≤ work ∧ work ≤ 64) {s : Hs} (ho : s.ok) (h1 : s.node = 1) (h2 : s.obs = []) : YdOk s (newCy n grey 3 work s.last) (List.replicate n.toNat [noId, noId, noId]) := by
  have hno : ∀ k o, hGet s k ≠ some o := fun k o e => by
    have := (hGet_mem e).1
    rw [h2] at this
    cases this
  refine ⟨ho, h1, newCy_ok hn hg (by omega) hw, by simp [newCy], ⟨fun _ _ => isOf_rep, fun h => absurd h (by simp [newCy]), fun h => absurd h (by simp [newCy])⟩, fun k o e => absurd e (hno k o), fun row hr => ?_, fun _ => ⟨fun k o e => absurd e (hno k o), fun row hr x hx hxn => ?_, fun h => absurd rfl h, fun h => absurd rfl h, fun h => absurd rfl h, fun h => absurd rfl h, fun h => absurd h (by simp [newCy])⟩, fun h => absurd h (by simp [newCy])⟩
  · rw [List.eq_of_mem_replicate hr]
    exact ⟨rfl, fun x hx => by simp at hx; exact .inl hx⟩
  · rw [List.eq_of_mem_replicate hr] at hx
    simp at hx
    rw [hx] at hxn
    cases hxn
/-- What can be reached. -/
def lives (s : Hs) (c : Cy) (k : Int) : Prop := if c.st = 5 then Good s c k else hGet s k ≠ none
theorem YdOk.lives (h : YdOk s c sl) : (∀ row ∈ sl, ∀ x ∈ row, x.n = 1 → lives s c x.s) ∧ (∀ k o, hGet s k = some o → 0 < o.din → lives s c k) ∧ (∀ k o x, lives s c k → hGet s k = some o → x ∈ o.refs → x.n = 1 → lives s c x.s) ∧ ∀ k, lives s c k → hGet s k ≠ none := by
  unfold Go.Proofs.YtojcacejgbnfkaaGreat.lives
  by_cases hst : c.st = 5
  · simp only [hst, if_true]
    have g := h.five hst
    exact ⟨g.slots, g.roots, g.refs, fun k hk => hk.1⟩
  · simp only [hst, if_false]
    have g := h.four hst
    exact ⟨g.slots, fun k o hg _ => by rw [hg]; simp, fun k o x _ hg hx hn => g.closed k o hg x hx hn, fun k hk => hk⟩
end
end Go.Proofs.YtojcacejgbnfkaaGreat

namespace Go.Proofs.YtojcacejgbnfkaaGreat
open Go
set_option linter.unusedVariables false
set_option maxRecDepth 100000
def B_cycle_New (h1 : Option Addr) (mutators2 : Int) (grey3 : Int) (suspect4 : Int) (work5 : Int) (H : Hp) (K : Value → Hp → Prop) : Prop :=
 (bif (Option.isNone (α := Addr) h1) then
 K (.tuple #[(.pointer none), (.int .i64 1)]) H
else
 (bif (decide ((suspect4 : Int) < 0)) then
 K (.tuple #[(.pointer none), (.int .i64 1)]) H
else
 (bif (decide ((suspect4 : Int) > 40)) then
 K (.tuple #[(.pointer none), (.int .i64 1)]) H
else
 (bif (decide ((work5 : Int) < 1)) then
 K (.tuple #[(.pointer none), (.int .i64 1)]) H
else
 (bif (decide ((work5 : Int) > 64)) then
 K (.tuple #[(.pointer none), (.int .i64 1)]) H
else
 hcall PR f_shake_New ⟨[(.int .i64 mutators2)]⟩ H fun v6 Hx7 =>
 tup2 v6 fun v8 v9 =>
 asP v8 fun t10 =>
 asI .i64 v9 fun t11 =>
 hcall PR f_paint_New ⟨[(.pointer h1), (.int .i64 grey3)]⟩ Hx7 fun v12 Hx13 =>
 tup2 v12 fun v14 v15 =>
 asP v14 fun t16 =>
 asI .i64 v15 fun t17 =>
 (bif ((t11 : Int) != 0) then
 K (.tuple #[(.pointer none), (.int .i64 1)]) Hx13
else
 (bif ((t17 : Int) != 0) then
 K (.tuple #[(.pointer none), (.int .i64 1)]) Hx13
else
 hcall PR f_heap_Heap_Node ⟨[(.pointer h1)]⟩ Hx13 fun v18 Hx19 =>
 asI .i64 v18 fun t20 =>
 newB (.cells #[(.pointer t10), (.pointer h1), (.pointer t16), (.pointer none), (.pointer none), (.pointer none), (.int .i64 t20), (.int .i64 0), (.int .i64 suspect4), (.int .i64 work5), (.int .u64 0), (.int .u64 0), (.int .u64 0), (.slice none 0 0), (.slice none 0 0), (.bool false)] ty_cycle_Cycle) Hx19 fun b21 Hx22 =>
 hcall PR f_mark_New ⟨[(.pointer h1), (.pointer t16)]⟩ Hx22 fun v23 Hx24 =>
 tup2 v23 fun v25 v26 =>
 asP v25 fun t27 =>
 asI .i64 v26 fun t28 =>
 st ⟨b21, 3, none⟩ (.pointer t27) Hx24 fun Hx29 =>
 hcall PR f_reach_New ⟨[(.pointer h1), (.pointer t16)]⟩ Hx29 fun v30 Hx31 =>
 tup2 v30 fun v32 v33 =>
 asP v32 fun t34 =>
 asI .i64 v33 fun t35 =>
 st ⟨b21, 4, none⟩ (.pointer t34) Hx31 fun Hx36 =>
 hcall PR f_sweep_New ⟨[(.pointer h1), (.pointer t16)]⟩ Hx36 fun v37 Hx38 =>
 tup2 v37 fun v39 v40 =>
 asP v39 fun t41 =>
 asI .i64 v40 fun t42 =>
 st ⟨b21, 5, none⟩ (.pointer t41) Hx38 fun Hx43 =>
 K (.tuple #[(.pointer (some ⟨b21, 0, none⟩)), (.int .i64 0)]) Hx43)))))))
theorem E_cycle_New (h1 : Option Addr) (mutators2 : Int) (grey3 : Int) (suspect4 : Int) (work5 : Int) (H : Hp) (K : Value → Hp → Prop) : B_cycle_New h1 mutators2 grey3 suspect4 work5 H K = denF Tryz.prog Tryz.f16 .n [(.pointer h1), (.int .i64 mutators2), (.int .i64 grey3), (.int .i64 suspect4), (.int .i64 work5)] H K := by kernel_rfl
theorem den_cycle_New {h1 : Option Addr} {mutators2 : Int} {grey3 : Int} {suspect4 : Int} {work5 : Int} {H : Hp} {K : Value → Hp → Prop} (h : B_cycle_New h1 mutators2 grey3 suspect4 work5 H K) : hcall PR f_cycle_New ⟨[(.pointer h1), (.int .i64 mutators2), (.int .i64 grey3), (.int .i64 suspect4), (.int .i64 work5)]⟩ H K := denF_call Tryz.func16 PR_mixed (Eq.mp (E_cycle_New h1 mutators2 grey3 suspect4 work5 H K) h)

def B_cycle_Cycle_Store (c1 : Option Addr) (m2 : Int) (oldNode3 : Int) (oldSerial4 : Int) (nowNode5 : Int) (nowSerial6 : Int) (H : Hp) (K : Value → Hp → Prop) : Prop :=
 newB (.cells #[(.int .i64 oldNode3), (.int .u64 oldSerial4)] ty_api_ID) H fun b7 Hx8 =>
 newB (.cells #[(.int .i64 nowNode5), (.int .u64 nowSerial6)] ty_api_ID) Hx8 fun b9 Hx10 =>
 hcall PR f_cycle_Cycle_open ⟨[(.pointer c1)]⟩ Hx10 fun v11 Hx12 =>
 asB v11 fun t13 =>
 (bif (!t13) then
 K (.tuple #[]) Hx12
else
 nilP c1 fun ca14 =>
 ldP ca14 Hx12 fun shaking15 =>
 hcall PR f_shake_Shake_IsArmed ⟨[(.pointer shaking15), (.int .i64 m2)]⟩ Hx12 fun v16 Hx17 =>
 asB v16 fun t18 =>
 (bif (!t18) then
 K (.tuple #[]) Hx17
else
 nilP c1 fun ca19 =>
 ldP (ca19.add 2) Hx17 fun paint20 =>
 ldI .i64 ⟨b7, 0, none⟩ Hx17 fun Node21 =>
 ldI .u64 ⟨b7, 1, none⟩ Hx17 fun Serial22 =>
 hcall PR f_paint_Paint_Shade ⟨[(.pointer paint20), (.agg #[(.int .i64 Node21), (.int .u64 Serial22)]), (.int .i64 0)]⟩ Hx17 fun v23 Hx24 =>
 nilP c1 fun ca25 =>
 ldP ca25 Hx24 fun shaking26 =>
 hcall PR f_shake_Shake_HasScanned ⟨[(.pointer shaking26), (.int .i64 m2)]⟩ Hx24 fun v27 Hx28 =>
 asB v27 fun t29 =>
 (bif (!t29) then
 nilP c1 fun ca30 =>
 ldP (ca30.add 2) Hx28 fun paint31 =>
 ldI .i64 ⟨b9, 0, none⟩ Hx28 fun Node32 =>
 ldI .u64 ⟨b9, 1, none⟩ Hx28 fun Serial33 =>
 hcall PR f_paint_Paint_Shade ⟨[(.pointer paint31), (.agg #[(.int .i64 Node32), (.int .u64 Serial33)]), (.int .i64 0)]⟩ Hx28 fun v34 Hx35 =>
 K (.tuple #[]) Hx35
else
 K (.tuple #[]) Hx28)))
theorem E_cycle_Cycle_Store (c1 : Option Addr) (m2 : Int) (oldNode3 : Int) (oldSerial4 : Int) (nowNode5 : Int) (nowSerial6 : Int) (H : Hp) (K : Value → Hp → Prop) : B_cycle_Cycle_Store c1 m2 oldNode3 oldSerial4 nowNode5 nowSerial6 H K = denF Tryz.prog Tryz.f17 .n [(.pointer c1), (.int .i64 m2), (.agg #[(.int .i64 oldNode3), (.int .u64 oldSerial4)]), (.agg #[(.int .i64 nowNode5), (.int .u64 nowSerial6)])] H K := by kernel_rfl
theorem den_cycle_Cycle_Store {c1 : Option Addr} {m2 : Int} {oldNode3 : Int} {oldSerial4 : Int} {nowNode5 : Int} {nowSerial6 : Int} {H : Hp} {K : Value → Hp → Prop} (h : B_cycle_Cycle_Store c1 m2 oldNode3 oldSerial4 nowNode5 nowSerial6 H K) : hcall PR f_cycle_Cycle_Store ⟨[(.pointer c1), (.int .i64 m2), (.agg #[(.int .i64 oldNode3), (.int .u64 oldSerial4)]), (.agg #[(.int .i64 nowNode5), (.int .u64 nowSerial6)])]⟩ H K := denF_call Tryz.func17 PR_mixed (Eq.mp (E_cycle_Cycle_Store c1 m2 oldNode3 oldSerial4 nowNode5 nowSerial6 H K) h)

def B_cycle_Cycle_Born (c1 : Option Addr) (m2 : Int) (serial3 : Int) (H : Hp) (K : Value → Hp → Prop) : Prop :=
 hcall PR f_cycle_Cycle_open ⟨[(.pointer c1)]⟩ H fun v4 Hx5 =>
 asB v4 fun t6 =>
 (bif (!t6) then
 K (.tuple #[]) Hx5
else
 nilP c1 fun ca7 =>
 ldP ca7 Hx5 fun shaking8 =>
 hcall PR f_shake_Shake_IsArmed ⟨[(.pointer shaking8), (.int .i64 m2)]⟩ Hx5 fun v9 Hx10 =>
 asB v9 fun t11 =>
 (bif (!t11) then
 K (.tuple #[]) Hx10
else
 hcall PR f_cycle_Cycle_State ⟨[(.pointer c1)]⟩ Hx10 fun v12 Hx13 =>
 asI .i64 v12 fun t14 =>
 (bif ((t14 : Int) == 1) then
 nilP c1 fun ca15 =>
 ldP (ca15.add 2) Hx13 fun paint16 =>
 nilP c1 fun ca17 =>
 ldI .i64 (ca17.add 6) Hx13 fun node18 =>
 hcall PR f_paint_Paint_Shade ⟨[(.pointer paint16), (.agg #[(.int .i64 node18), (.int .u64 serial3)]), (.int .i64 0)]⟩ Hx13 fun v19 Hx20 =>
 K (.tuple #[]) Hx20
else
 nilP c1 fun ca21 =>
 ldP (ca21.add 2) Hx13 fun paint22 =>
 hcall PR f_paint_Paint_Blacken ⟨[(.pointer paint22), (.int .u64 serial3)]⟩ Hx13 fun v23 Hx24 =>
 K (.tuple #[]) Hx24)))
theorem E_cycle_Cycle_Born (c1 : Option Addr) (m2 : Int) (serial3 : Int) (H : Hp) (K : Value → Hp → Prop) : B_cycle_Cycle_Born c1 m2 serial3 H K = denF Tryz.prog Tryz.f20 .n [(.pointer c1), (.int .i64 m2), (.int .u64 serial3)] H K := by kernel_rfl
theorem den_cycle_Cycle_Born {c1 : Option Addr} {m2 : Int} {serial3 : Int} {H : Hp} {K : Value → Hp → Prop} (h : B_cycle_Cycle_Born c1 m2 serial3 H K) : hcall PR f_cycle_Cycle_Born ⟨[(.pointer c1), (.int .i64 m2), (.int .u64 serial3)]⟩ H K := denF_call Tryz.func20 PR_mixed (Eq.mp (E_cycle_Cycle_Born c1 m2 serial3 H K) h)

def B_cycle_Cycle_Touch (c1 : Option Addr) (xNode2 : Int) (xSerial3 : Int) (H : Hp) (K : Value → Hp → Prop) : Prop :=
 newB (.cells #[(.int .i64 xNode2), (.int .u64 xSerial3)] ty_api_ID) H fun b4 Hx5 =>
 hcall PR f_cycle_Cycle_open ⟨[(.pointer c1)]⟩ Hx5 fun v6 Hx7 =>
 asB v6 fun t8 =>
 (bif t8 then
 nilP c1 fun ca9 =>
 ldP (ca9.add 2) Hx7 fun paint10 =>
 ldI .i64 ⟨b4, 0, none⟩ Hx7 fun Node11 =>
 ldI .u64 ⟨b4, 1, none⟩ Hx7 fun Serial12 =>
 hcall PR f_paint_Paint_Shade ⟨[(.pointer paint10), (.agg #[(.int .i64 Node11), (.int .u64 Serial12)]), (.int .i64 0)]⟩ Hx7 fun v13 Hx14 =>
 K (.tuple #[]) Hx14
else
 hcall PR f_cycle_Cycle_State ⟨[(.pointer c1)]⟩ Hx7 fun v15 Hx16 =>
 asI .i64 v15 fun t17 =>
 (bif ((t17 : Int) == 5) then
 ldI .i64 ⟨b4, 0, none⟩ Hx16 fun Node18 =>
 nilP c1 fun ca19 =>
 ldI .i64 (ca19.add 6) Hx16 fun node20 =>
 (bif ((Node18 : Int) != node20) then
 nilP c1 fun ca21 =>
 ldP (ca21.add 2) Hx16 fun paint22 =>
 ldI .i64 ⟨b4, 0, none⟩ Hx16 fun Node23 =>
 ldI .u64 ⟨b4, 1, none⟩ Hx16 fun Serial24 =>
 hcall PR f_paint_Paint_Shade ⟨[(.pointer paint22), (.agg #[(.int .i64 Node23), (.int .u64 Serial24)]), (.int .i64 0)]⟩ Hx16 fun v25 Hx26 =>
 K (.tuple #[]) Hx26
else
 K (.tuple #[]) Hx16)
else
 K (.tuple #[]) Hx16))
theorem E_cycle_Cycle_Touch (c1 : Option Addr) (xNode2 : Int) (xSerial3 : Int) (H : Hp) (K : Value → Hp → Prop) : B_cycle_Cycle_Touch c1 xNode2 xSerial3 H K = denF Tryz.prog Tryz.f21 .n [(.pointer c1), (.agg #[(.int .i64 xNode2), (.int .u64 xSerial3)])] H K := by kernel_rfl
theorem den_cycle_Cycle_Touch {c1 : Option Addr} {xNode2 : Int} {xSerial3 : Int} {H : Hp} {K : Value → Hp → Prop} (h : B_cycle_Cycle_Touch c1 xNode2 xSerial3 H K) : hcall PR f_cycle_Cycle_Touch ⟨[(.pointer c1), (.agg #[(.int .i64 xNode2), (.int .u64 xSerial3)])]⟩ H K := denF_call Tryz.func21 PR_mixed (Eq.mp (E_cycle_Cycle_Touch c1 xNode2 xSerial3 H K) h)

def B_cycle_Cycle_Shake (c1 : Option Addr) (m2 : Int) (heldP3 : Option Addr) (heldL4 : Nat) (heldC5 : Nat) (H : Hp) (K : Value → Hp → Prop) : Prop :=
 nilP c1 fun ca6 =>
 ldP ca6 H fun shaking7 =>
 hcall PR f_shake_Shake_Answer ⟨[(.pointer shaking7), (.int .i64 m2)]⟩ H fun v8 Hx9 =>
 asI .i64 v8 fun t10 =>
 ∀ R11 : Hp → Prop, (∀ Hx12 : Hp, (
 K (.bool ((t10 : Int) != 0)) Hx12) → R11 Hx12) →
 (bif ((t10 : Int) == 2) then
 ∃ (I13 : Int → Hp → Prop) (m14 : Int → Hp → Nat), I13 0 Hx9 ∧ ∀ t16 : Int, ∀ Hx15 : Hp, I13 t16 Hx15 →
 (bif (decide ((t16 : Int) < (heldL4 : Int))) then
 idxA heldP3 heldL4 t16 2 fun el17 =>
 ldI .i64 el17 Hx15 fun Node18 =>
 ldI .u64 (el17.add 1) Hx15 fun Serial19 =>
 newB (.cells #[(.int .i64 0), (.int .u64 0)] ty_api_ID) Hx15 fun b20 Hx21 =>
 st ⟨b20, 0, none⟩ (.int .i64 Node18) Hx21 fun Hx22 =>
 st ⟨b20, 1, none⟩ (.int .u64 Serial19) Hx22 fun Hx23 =>
 nilP c1 fun ca24 =>
 ldP (ca24.add 2) Hx23 fun paint25 =>
 ldI .i64 ⟨b20, 0, none⟩ Hx23 fun Node26 =>
 ldI .u64 ⟨b20, 1, none⟩ Hx23 fun Serial27 =>
 hcall PR f_paint_Paint_Shade ⟨[(.pointer paint25), (.agg #[(.int .i64 Node26), (.int .u64 Serial27)]), (.int .i64 0)]⟩ Hx23 fun v28 Hx29 =>
 I13 (IntKind.i64.wrap (t16 + 1)) Hx29 ∧ m14 (IntKind.i64.wrap (t16 + 1)) Hx29 < m14 t16 Hx15
else
 R11 Hx15)
else
 R11 Hx9)
theorem E_cycle_Cycle_Shake (c1 : Option Addr) (m2 : Int) (heldP3 : Option Addr) (heldL4 : Nat) (heldC5 : Nat) (H : Hp) (K : Value → Hp → Prop) : B_cycle_Cycle_Shake c1 m2 heldP3 heldL4 heldC5 H K = denF Tryz.prog Tryz.f22 (.seq none .n (.seq none .n (.seq (some ⟨[], [7]⟩) (.seq none .n (.two (.seq none .n (.sub (.loop ⟨[(20, .int .i64)], [0, 7, 18, 19]⟩ .n))) .n)) .n))) [(.pointer c1), (.int .i64 m2), (.slice heldP3 heldL4 heldC5)] H K := by kernel_rfl
theorem den_cycle_Cycle_Shake {c1 : Option Addr} {m2 : Int} {heldP3 : Option Addr} {heldL4 : Nat} {heldC5 : Nat} {H : Hp} {K : Value → Hp → Prop} (h : B_cycle_Cycle_Shake c1 m2 heldP3 heldL4 heldC5 H K) : hcall PR f_cycle_Cycle_Shake ⟨[(.pointer c1), (.int .i64 m2), (.slice heldP3 heldL4 heldC5)]⟩ H K := denF_call Tryz.func22 PR_mixed (Eq.mp (E_cycle_Cycle_Shake c1 m2 heldP3 heldL4 heldC5 H K) h)

def B_cycle_Cycle_State (c1 : Option Addr) (H : Hp) (K : Value → Hp → Prop) : Prop :=
 nilP c1 fun ca2 =>
 ldI .i64 (ca2.add 7) H fun state3 =>
 (bif ((state3 : Int) != 0) then
 nilP c1 fun ca4 =>
 ldI .i64 (ca4.add 7) H fun state5 =>
 K (.int .i64 state5) H
else
 nilP c1 fun ca6 =>
 ldP ca6 H fun shaking7 =>
 hcall PR f_shake_Shake_Phase ⟨[(.pointer shaking7)]⟩ H fun v8 Hx9 =>
 asI .i64 v8 fun t10 =>
 (bif ((t10 : Int) == 1) then
 K (.int .i64 1) Hx9
else
 nilP c1 fun ca11 =>
 ldP ca11 Hx9 fun shaking12 =>
 hcall PR f_shake_Shake_Phase ⟨[(.pointer shaking12)]⟩ Hx9 fun v13 Hx14 =>
 asI .i64 v13 fun t15 =>
 (bif ((t15 : Int) != 0) then
 K (.int .i64 2) Hx14
else
 K (.int .i64 0) Hx14)))
theorem E_cycle_Cycle_State (c1 : Option Addr) (H : Hp) (K : Value → Hp → Prop) : B_cycle_Cycle_State c1 H K = denF Tryz.prog Tryz.f25 .n [(.pointer c1)] H K := by kernel_rfl
theorem den_cycle_Cycle_State {c1 : Option Addr} {H : Hp} {K : Value → Hp → Prop} (h : B_cycle_Cycle_State c1 H K) : hcall PR f_cycle_Cycle_State ⟨[(.pointer c1)]⟩ H K := denF_call Tryz.func25 PR_mixed (Eq.mp (E_cycle_Cycle_State c1 H K) h)

def B_cycle_Cycle_Step (c1 : Option Addr) (stir2 : Int) (H : Hp) (K : Value → Hp → Prop) : Prop :=
 ∃ (I3 : Option Addr → Nat → Nat → Int → Hp → Prop) (m4 : Option Addr → Nat → Nat → Int → Hp → Nat), I3 none 0 0 0 H ∧ ∀ freedP6 : Option Addr, ∀ freedL7 : Nat, ∀ freedC8 : Nat, ∀ n9 : Int, ∀ Hx5 : Hp, I3 freedP6 freedL7 freedC8 n9 Hx5 →
 nilP c1 fun ca10 =>
 ldI .i64 (ca10.add 9) Hx5 fun work11 =>
 (bif (decide ((n9 : Int) < work11)) then
 ∀ R12 : Option Addr → Nat → Nat → Hp → Prop, (∀ freedP14 : Option Addr, ∀ freedL15 : Nat, ∀ freedC16 : Nat, ∀ Hx13 : Hp, (
 I3 freedP14 freedL15 freedC16 (IntKind.i64.wrap (n9 + 1)) Hx13 ∧ m4 freedP14 freedL15 freedC16 (IntKind.i64.wrap (n9 + 1)) Hx13 < m4 freedP6 freedL7 freedC8 n9 Hx5) → R12 freedP14 freedL15 freedC16 Hx13) →
 hcall PR f_cycle_Cycle_State ⟨[(.pointer c1)]⟩ Hx5 fun v17 Hx18 =>
 asI .i64 v17 fun t19 =>
 (bif ((t19 : Int) == 0) then
 nilP c1 fun ca20 =>
 ldP (ca20.add 2) Hx18 fun paint21 =>
 hcall PR f_paint_Paint_Turn ⟨[(.pointer paint21)]⟩ Hx18 fun v22 Hx23 =>
 nilP c1 fun ca24 =>
 ldP ca24 Hx23 fun shaking25 =>
 hcall PR f_shake_Shake_Begin ⟨[(.pointer shaking25)]⟩ Hx23 fun v26 Hx27 =>
 asI .i64 v26 fun t28 =>
 K (.tuple #[(.slice freedP6 freedL7 freedC8), (.bool false)]) Hx27
else
 ∀ R29 : Bool → Hp → Prop, (∀ t31 : Bool, ∀ Hx30 : Hp, (
 (bif t31 then
 nilP c1 fun ca32 =>
 ldP ca32 Hx30 fun shaking33 =>
 hcall PR f_shake_Shake_Phase ⟨[(.pointer shaking33)]⟩ Hx30 fun v34 Hx35 =>
 asI .i64 v34 fun t36 =>
 (bif ((t36 : Int) != 3) then
 K (.tuple #[(.slice freedP6 freedL7 freedC8), (.bool false)]) Hx35
else
 nilP c1 fun ca37 =>
 st (ca37.add 7) (.int .i64 3) Hx35 fun Hx38 =>
 nilP c1 fun ca39 =>
 ldP (ca39.add 3) Hx38 fun marker40 =>
 hcall PR f_mark_Marker_Begin ⟨[(.pointer marker40)]⟩ Hx38 fun v41 Hx42 =>
 hcall PR f_cycle_Cycle_marks ⟨[(.pointer c1), (.int .u64 stir2)]⟩ Hx42 fun v43 Hx44 =>
 R12 freedP6 freedL7 freedC8 Hx44)
else
 (bif ((t19 : Int) == 3) then
 hcall PR f_cycle_Cycle_marks ⟨[(.pointer c1), (.int .u64 stir2)]⟩ Hx30 fun v45 Hx46 =>
 R12 freedP6 freedL7 freedC8 Hx46
else
 (bif ((t19 : Int) == 4) then
 hcall PR f_cycle_Cycle_reaches ⟨[(.pointer c1)]⟩ Hx30 fun v47 Hx48 =>
 R12 freedP6 freedL7 freedC8 Hx48
else
 (bif ((t19 : Int) == 5) then
 nilP c1 fun ca49 =>
 ldP (ca49.add 5) Hx30 fun sweeper50 =>
 hcall PR f_sweep_Sweeper_Step ⟨[(.pointer sweeper50)]⟩ Hx30 fun v51 Hx52 =>
 tup2 v51 fun v53 v54 =>
 asI .u64 v53 fun t55 =>
 asB v54 fun t56 =>
 (bif (!t56) then
 nilP c1 fun ca57 =>
 ldP ca57 Hx52 fun shaking58 =>
 hcall PR f_shake_Shake_End ⟨[(.pointer shaking58)]⟩ Hx52 fun v59 Hx60 =>
 asI .i64 v59 fun t61 =>
 nilP c1 fun ca62 =>
 st (ca62.add 7) (.int .i64 0) Hx60 fun Hx63 =>
 K (.tuple #[(.slice freedP6 freedL7 freedC8), (.bool true)]) Hx63
else
 (bif ((t55 : Int) != 0) then
 newB (.cells #[(.int .u64 t55)] ty_uint64) Hx52 fun b64 Hx65 =>
 evW PR (Builtin.append_ #[ty_Suint64, ty_Suint64] ty_Suint64 #[(.slice freedP6 freedL7 freedC8), (.slice (some ⟨b64, 0, none⟩) 1 1)]) Hx65 fun v66 Hx67 =>
 asSl v66 fun tP68 tL69 tC70 =>
 R12 tP68 tL69 tC70 Hx67
else
 R12 freedP6 freedL7 freedC8 Hx52))
else
 R12 freedP6 freedL7 freedC8 Hx30))))) → R29 t31 Hx30) →
 (bif ((t19 : Int) == 1) then
 R29 ((t19 : Int) == 1) Hx18
else
 R29 ((t19 : Int) == 2) Hx18))
else
 K (.tuple #[(.slice freedP6 freedL7 freedC8), (.bool false)]) Hx5)
theorem E_cycle_Cycle_Step (c1 : Option Addr) (stir2 : Int) (H : Hp) (K : Value → Hp → Prop) : B_cycle_Cycle_Step c1 stir2 H K = denF Tryz.prog Tryz.f37 (.seq none .n (.seq none .n (.seq none (.seq none .n (.sub (.loop ⟨[(6, .sl), (7, .int .i64)], [0, 1]⟩ (.seq none .n (.seq (some ⟨[(6, .sl)], [0, 1, 7]⟩) (.sub (.seq none .n (.sub (.seq none .n (.two .n (.seq (some ⟨[(33, .bool)], [0, 1, 6, 7, 19]⟩) .n .n)))))) .n))))) .n))) [(.pointer c1), (.int .u64 stir2)] H K := by kernel_rfl
theorem den_cycle_Cycle_Step {c1 : Option Addr} {stir2 : Int} {H : Hp} {K : Value → Hp → Prop} (h : B_cycle_Cycle_Step c1 stir2 H K) : hcall PR f_cycle_Cycle_Step ⟨[(.pointer c1), (.int .u64 stir2)]⟩ H K := denF_call Tryz.func37 PR_mixed (Eq.mp (E_cycle_Cycle_Step c1 stir2 H K) h)

def B_cycle_Cycle_open (c1 : Option Addr) (H : Hp) (K : Value → Hp → Prop) : Prop :=
 hcall PR f_cycle_Cycle_State ⟨[(.pointer c1)]⟩ H fun v2 Hx3 =>
 asI .i64 v2 fun t4 =>
 (bif (decide ((t4 : Int) ≥ 1)) then
 hcall PR f_cycle_Cycle_State ⟨[(.pointer c1)]⟩ Hx3 fun v5 Hx6 =>
 asI .i64 v5 fun t7 =>
 K (.bool (decide ((t7 : Int) ≤ 4))) Hx6
else
 K (.bool false) Hx3)
theorem E_cycle_Cycle_open (c1 : Option Addr) (H : Hp) (K : Value → Hp → Prop) : B_cycle_Cycle_open c1 H K = denF Tryz.prog Tryz.f86 .n [(.pointer c1)] H K := by kernel_rfl
theorem den_cycle_Cycle_open {c1 : Option Addr} {H : Hp} {K : Value → Hp → Prop} (h : B_cycle_Cycle_open c1 H K) : hcall PR f_cycle_Cycle_open ⟨[(.pointer c1)]⟩ H K := denF_call Tryz.func86 PR_mixed (Eq.mp (E_cycle_Cycle_open c1 H K) h)

def B_cycle_Cycle_marks (c1 : Option Addr) (stir2 : Int) (H : Hp) (K : Value → Hp → Prop) : Prop :=
 nilP c1 fun ca3 =>
 ldP (ca3.add 3) H fun marker4 =>
 hcall PR f_mark_Marker_Step ⟨[(.pointer marker4)]⟩ H fun v5 Hx6 =>
 asB v5 fun t7 =>
 (bif t7 then
 K (.tuple #[]) Hx6
else
 nilP c1 fun ca8 =>
 st (ca8.add 10) (.int .u64 stir2) Hx6 fun Hx9 =>
 nilP c1 fun ca10 =>
 ldP (ca10.add 4) Hx9 fun reacher11 =>
 nilP c1 fun ca12 =>
 ldI .i64 (ca12.add 8) Hx9 fun suspect13 =>
 hcall PR f_reach_Reacher_Begin ⟨[(.pointer reacher11), (.int .i64 suspect13)]⟩ Hx9 fun v14 Hx15 =>
 nilP c1 fun ca16 =>
 st (ca16.add 7) (.int .i64 4) Hx15 fun Hx17 =>
 K (.tuple #[]) Hx17)
theorem E_cycle_Cycle_marks (c1 : Option Addr) (stir2 : Int) (H : Hp) (K : Value → Hp → Prop) : B_cycle_Cycle_marks c1 stir2 H K = denF Tryz.prog Tryz.f108 .n [(.pointer c1), (.int .u64 stir2)] H K := by kernel_rfl
theorem den_cycle_Cycle_marks {c1 : Option Addr} {stir2 : Int} {H : Hp} {K : Value → Hp → Prop} (h : B_cycle_Cycle_marks c1 stir2 H K) : hcall PR f_cycle_Cycle_marks ⟨[(.pointer c1), (.int .u64 stir2)]⟩ H K := denF_call Tryz.func108 PR_mixed (Eq.mp (E_cycle_Cycle_marks c1 stir2 H K) h)

def B_cycle_Cycle_reaches (c1 : Option Addr) (H : Hp) (K : Value → Hp → Prop) : Prop :=
 nilP c1 fun ca2 =>
 ldP (ca2.add 3) H fun marker3 =>
 hcall PR f_mark_Marker_Step ⟨[(.pointer marker3)]⟩ H fun v4 Hx5 =>
 asB v4 fun t6 =>
 (bif t6 then
 K (.tuple #[]) Hx5
else
 nilP c1 fun ca7 =>
 ldP (ca7.add 4) Hx5 fun reacher8 =>
 hcall PR f_reach_Reacher_Step ⟨[(.pointer reacher8)]⟩ Hx5 fun v9 Hx10 =>
 asB v9 fun t11 =>
 (bif t11 then
 K (.tuple #[]) Hx10
else
 nilP c1 fun ca12 =>
 ldI .u64 (ca12.add 10) Hx10 fun stir13 =>
 nilP c1 fun ca14 =>
 ldP (ca14.add 4) Hx10 fun reacher15 =>
 hcall PR f_reach_Reacher_Rows ⟨[(.pointer reacher15)]⟩ Hx10 fun v16 Hx17 =>
 asSl v16 fun tP18 tL19 tC20 =>
 (ldI .u64 (ca12.add 10) Hx17 fun stir21 =>
 ((.int .u64 stir21) : Value) = (.int .u64 stir13)) ∧
 nilP c1 fun ca22 =>
 st (ca22.add 12) (.int .u64 stir13) Hx17 fun Hx23 =>
 st ((ca22.add 12).add 1) (.slice tP18 tL19 tC20) Hx23 fun Hx24 =>
 st ((ca22.add 12).add 2) (.slice none 0 0) Hx24 fun Hx25 =>
 st ((ca22.add 12).add 3) (.bool true) Hx25 fun Hx26 =>
 nilP c1 fun ca27 =>
 ldP (ca27.add 2) Hx26 fun paint28 =>
 hcall PR f_paint_Paint_Outs ⟨[(.pointer paint28)]⟩ Hx26 fun v29 Hx30 =>
 asSl v29 fun tP31 tL32 tC33 =>
 ∃ (I34 : Int → Hp → Prop) (m35 : Int → Hp → Nat), I34 0 Hx30 ∧ ∀ t37 : Int, ∀ Hx36 : Hp, I34 t37 Hx36 →
 (bif (decide ((t37 : Int) < (tL32 : Int))) then
 ∀ R38 : Hp → Prop, (∀ Hx39 : Hp, (
 I34 (IntKind.i64.wrap (t37 + 1)) Hx39 ∧ m35 (IntKind.i64.wrap (t37 + 1)) Hx39 < m35 t37 Hx36) → R38 Hx39) →
 idxA tP31 tL32 t37 3 fun el40 =>
 ldI .i64 el40 Hx36 fun Node41 =>
 ldI .u64 (el40.add 1) Hx36 fun Serial42 =>
 ldI .i64 (el40.add 2) Hx36 fun Rank43 =>
 newB (.cells #[(.int .i64 0), (.int .u64 0), (.int .i64 0)] ty_api_Out) Hx36 fun b44 Hx45 =>
 st ⟨b44, 0, none⟩ (.int .i64 Node41) Hx45 fun Hx46 =>
 st ⟨b44, 1, none⟩ (.int .u64 Serial42) Hx46 fun Hx47 =>
 st ⟨b44, 2, none⟩ (.int .i64 Rank43) Hx47 fun Hx48 =>
 ldI .i64 ⟨b44, 2, none⟩ Hx48 fun Rank49 =>
 nilP c1 fun ca50 =>
 ldI .i64 (ca50.add 8) Hx48 fun suspect51 =>
 (bif (decide ((Rank49 : Int) > suspect51)) then
 nilP c1 fun ca52 =>
 ldSl ((ca52.add 12).add 2) Hx48 fun OutsP53 OutsL54 OutsC55 =>
 ldI .i64 ⟨b44, 0, none⟩ Hx48 fun Node56 =>
 ldI .u64 ⟨b44, 1, none⟩ Hx48 fun Serial57 =>
 ldI .i64 ⟨b44, 2, none⟩ Hx48 fun Rank58 =>
 newB (.cells #[(.int .i64 Node56), (.int .u64 Serial57), (.int .i64 Rank58)] ty_api_Out) Hx48 fun b59 Hx60 =>
 (ldSl ((ca52.add 12).add 2) Hx60 fun OutsP61 OutsL62 OutsC63 =>
 ((.slice OutsP61 OutsL62 OutsC63) : Value) = (.slice OutsP53 OutsL54 OutsC55)) ∧
 evW PR (Builtin.append_ #[ty_Sapi_Out, ty_Sapi_Out] ty_Sapi_Out #[(.slice OutsP53 OutsL54 OutsC55), (.slice (some ⟨b59, 0, none⟩) 1 1)]) Hx60 fun v64 Hx65 =>
 asSl v64 fun tP66 tL67 tC68 =>
 nilP c1 fun ca69 =>
 st ((ca69.add 12).add 2) (.slice tP66 tL67 tC68) Hx65 fun Hx70 =>
 R38 Hx70
else
 R38 Hx48)
else
 nilP c1 fun ca71 =>
 ldP (ca71.add 5) Hx36 fun sweeper72 =>
 hcall PR f_sweep_Sweeper_Begin ⟨[(.pointer sweeper72)]⟩ Hx36 fun v73 Hx74 =>
 nilP c1 fun ca75 =>
 ldP (ca75.add 1) Hx74 fun heap76 =>
 hcall PR f_heap_Heap_Last ⟨[(.pointer heap76)]⟩ Hx74 fun v77 Hx78 =>
 asI .u64 v77 fun t79 =>
 nilP c1 fun ca80 =>
 st (ca80.add 11) (.int .u64 t79) Hx78 fun Hx81 =>
 nilP c1 fun ca82 =>
 st (ca82.add 7) (.int .i64 5) Hx81 fun Hx83 =>
 K (.tuple #[]) Hx83)))
theorem E_cycle_Cycle_reaches (c1 : Option Addr) (H : Hp) (K : Value → Hp → Prop) : B_cycle_Cycle_reaches c1 H K = denF Tryz.prog Tryz.f109 (.seq none .n (.seq none .n (.seq none (.seq none .n (.sub (.loop ⟨[(35, .int .i64)], [0, 33, 34]⟩ (.seq none .n (.seq none .n (.seq (some ⟨[], [0, 33, 34, 35]⟩) .n .n)))))) .n))) [(.pointer c1)] H K := by kernel_rfl
theorem den_cycle_Cycle_reaches {c1 : Option Addr} {H : Hp} {K : Value → Hp → Prop} (h : B_cycle_Cycle_reaches c1 H K) : hcall PR f_cycle_Cycle_reaches ⟨[(.pointer c1)]⟩ H K := denF_call Tryz.func109 PR_mixed (Eq.mp (E_cycle_Cycle_reaches c1 H K) h)

end Go.Proofs.YtojcacejgbnfkaaGreat

namespace Go.Proofs.YtojcacejgbnfkaaGreat
set_option linter.unusedSimpArgs false
set_option linter.unusedVariables false
open Go
structure CyX where
  kb : Nat
  pb : Nat
  mb : Nat
  rb : Nat
  sb : Nat
  ST : Nat
  tp : Option Addr
  tc : Nat
  op : Option Addr
  oc : Nat
  T : Nat
def cyCells (hb : Nat) (c : Cy) (x : CyX) : Array Value := #[ptrV x.kb, ptrV hb, ptrV x.pb, ptrV x.mb, ptrV x.rb, ptrV x.sb, .int .i64 1, .int .i64 c.st, .int .i64 c.sus, .int .i64 c.work, .int .u64 c.stir, .int .u64 c.fin, .int .u64 c.told.stir, .slice x.tp c.told.rows.length x.tc, .slice x.op c.told.outs.length x.oc, .bool c.told.ok]
def cyParts (b hb : Nat) (c : Cy) (x : CyX) : List Prt :=
  [Prt.one b (.cells (cyCells hb c x) x.T (0, 0)), Shk x.kb c.sk, PaintP x.pb hb c.p, MkP x.mb hb x.pb c.m, RcP x.rb hb x.pb c.r, SwP x.ST x.sb hb x.pb c.pl c.e, RowsP x.tp x.tc c.told.rows, Prt.row 3 x.op c.told.outs.length x.oc (cel outC c.told.outs), Prt.pure c.ok]
/-- A collector of a heap of node 1. -/
def CyP (b hb : Nat) (c : Cy) : Prt := Prt.ex fun x => Prt.list (cyParts b hb c x)

section
variable {H0 H : Hp} {L M N : List Prt} {i j k b hb : Nat} {s : Hs} {c : Cy} {K : Value → Hp → Prop}
theorem cyOpened (h : St H0 L H) (hk : L[k]? = some (CyP b hb c)) : ∃ x, St H0 (cyParts b hb c x ++ L.set k .nil) H ∧ c.ok := by
  obtain ⟨x, h1⟩ := h.openEx hk
  exact ⟨x, h1, h1.fact (i := 8) rfl⟩
theorem cyShut {B : Prt} {x : CyX} (h : St H0 (N ++ (cyParts b hb c x ++ L.set k .nil)) H) (hk : L[k]? = some B) : St H0 (N ++ L.set k (CyP b hb c)) H := St.shutExN (A := cyParts b hb c) (N := N) x h hk
theorem cy_ok (h : St H0 L H) (hk : L[k]? = some (CyP b hb c)) : c.ok := let ⟨_, _, h⟩ := cyOpened h hk; h
theorem set_get_ne {A B : Prt} (hi : L[i]? = some A) (hik : i ≠ k) : (L.set k B)[i]? = some A := by rw [List.getElem?_set_ne (Ne.symm hik)]; exact hi

/-! ## The shaking, as a part -/
theorem shkPhaseC {kb : Nat} {q : Sk} (h : St H0 L H) (hi : L[i]? = some (Shk kb q)) (hK : K (.int .i64 q.ph) H) : hcall PR f_shake_Shake_Phase ⟨[.pointer (some ⟨kb, 0, none⟩)]⟩ H K := by
  obtain ⟨_, ha, _⟩ := h.at hi
  exact shakePhase_ok ha hK
theorem shkArmedC {kb : Nat} {q : Sk} {m : Int} (h : St H0 L H) (hi : L[i]? = some (Shk kb q)) (hK : K (.bool (isOf q.ar m)) H) : hcall PR f_shake_Shake_IsArmed ⟨[.pointer (some ⟨kb, 0, none⟩), .int .i64 m]⟩ H K := by
  obtain ⟨_, ha, _⟩ := h.at hi
  exact shakeIsArmed_ok ha hK
theorem shkScannedC {kb : Nat} {q : Sk} {m : Int} (h : St H0 L H) (hi : L[i]? = some (Shk kb q)) (hK : K (.bool (isOf q.sc m)) H) : hcall PR f_shake_Shake_HasScanned ⟨[.pointer (some ⟨kb, 0, none⟩), .int .i64 m]⟩ H K := by
  obtain ⟨_, ha, _⟩ := h.at hi
  exact shakeHasScanned_ok ha hK
theorem shkAnswerC {kb : Nat} {q : Sk} {m : Int} (h : St H0 L H) (hi : L[i]? = some (Shk kb q)) (hl : q.sc.length = q.ar.length) (hn : q.ar.length ≤ 100) (hK : ∀ H', St H0 (L.set i (Shk kb (q.ans m).1)) H' → K (.int .i64 (q.ans m).2) H') :
    hcall PR f_shake_Shake_Answer ⟨[.pointer (some ⟨kb, 0, none⟩), .int .i64 m]⟩ H K := by
  obtain ⟨Fi, ha, up⟩ := h.at hi
  exact shakeAnswer_ok ha hl (by omega) fun F' H' h' g => hK H' (up _ F' H' h' g)
theorem shkBeginC {kb : Nat} {q : Sk} (h : St H0 L H) (hi : L[i]? = some (Shk kb q)) (hn : 0 < q.ar.length ∧ q.ar.length ≤ 100) (hK : ∀ v H', St H0 (L.set i (Shk kb q.begun)) H' → K (.int .i64 v) H') :
    hcall PR f_shake_Shake_Begin ⟨[.pointer (some ⟨kb, 0, none⟩)]⟩ H K := by
  obtain ⟨Fi, ha, up⟩ := h.at hi
  by_cases hp : q.ph = 0
  · have e : q.begun = { q with ph := 1, ar := q.ar.set (q.ar.length - 1) true } := by unfold Sk.begun; rw [if_pos hp]
    rw [e] at hK
    exact shakeBegin_ok ha hp hn.1 (by omega) fun F' H' h' g => hK 0 H' (up _ F' H' h' g)
  · have e : q.begun = q := by unfold Sk.begun; rw [if_neg hp]
    rw [e] at hK
    refine shakeBegin_busy ha hp (hK 10 H ?_)
    rw [List.set_self hi]
    exact h
theorem shkEndC {kb : Nat} {q : Sk} (h : St H0 L H) (hi : L[i]? = some (Shk kb q)) (hK : ∀ v H', St H0 (L.set i (Shk kb q.ended)) H' → K (.int .i64 v) H') :
    hcall PR f_shake_Shake_End ⟨[.pointer (some ⟨kb, 0, none⟩)]⟩ H K := by
  obtain ⟨Fi, ha, up⟩ := h.at hi
  by_cases hp : q.ph = 3
  · have e : q.ended = ⟨0, List.replicate q.ar.length false, List.replicate q.sc.length false⟩ := by unfold Sk.ended; rw [if_pos hp]
    rw [e] at hK
    exact shakeEnd_ok ha hp fun F' H' h' g => hK 0 H' (up _ F' H' h' g)
  · have e : q.ended = q := by unfold Sk.ended; rw [if_neg hp]
    rw [e] at hK
    refine shakeEnd_busy ha hp (hK 10 H ?_)
    rw [List.set_self hi]
    exact h

/-! ## Asked -/
theorem cyStateP {x : CyX} (g : St H0 (cyParts b hb c x ++ M) H) (hK : K (.int .i64 c.state) H) : hcall PR f_cycle_Cycle_State ⟨[.pointer (some ⟨b, 0, none⟩)]⟩ H K := by
  apply den_cycle_Cycle_State
  unfold B_cycle_Cycle_State
  simp only [asI_mk', asB_mk, asP_mk, asA_mk, asM_mk, asSl_mk, asStr_mk, tup2_mk, tup3_mk, agg1_mk, agg2_mk, agg3_mk, agg4_mk, asAggm, unCons_mk, unNil_mk, asTup_mk, extractD0, extractD1, List.toList_toArray, nilP_mk, add_mk, Nat.zero_add, Nat.add_zero, condT, condF, Bool.not_true, Bool.not_false, Option.isNone_some, Option.isNone_none]
  unfold Cy.state at hK
  refine ldI_of (g.cell (i := 0) rfl rfl) ?_
  by_cases h0 : c.st = 0
  · rw [if_neg (by simpa using h0)] at hK
    refine bif_neqf h0 (ldP_of (g.cell (i := 0) rfl rfl) (shkPhaseC g (i := 1) rfl ?_))
    simp only [asI_mk', asB_mk, asP_mk, asA_mk, asM_mk, asSl_mk, asStr_mk, tup2_mk, tup3_mk, agg1_mk, agg2_mk, agg3_mk, agg4_mk, asAggm, unCons_mk, unNil_mk, asTup_mk, extractD0, extractD1, List.toList_toArray, nilP_mk, add_mk, Nat.zero_add, Nat.add_zero, condT, condF, Bool.not_true, Bool.not_false, Option.isNone_some, Option.isNone_none]
    by_cases h1 : c.sk.ph = 1
    · rw [if_pos h1] at hK
      exact bif_eq h1 hK
    · rw [if_neg h1] at hK
      refine bif_ne h1 (ldP_of (g.cell (i := 0) rfl rfl) (shkPhaseC g (i := 1) rfl ?_))
      simp only [asI_mk', asB_mk, asP_mk, asA_mk, asM_mk, asSl_mk, asStr_mk, tup2_mk, tup3_mk, agg1_mk, agg2_mk, agg3_mk, agg4_mk, asAggm, unCons_mk, unNil_mk, asTup_mk, extractD0, extractD1, List.toList_toArray, nilP_mk, add_mk, Nat.zero_add, Nat.add_zero, condT, condF, Bool.not_true, Bool.not_false, Option.isNone_some, Option.isNone_none]
      by_cases h2 : c.sk.ph = 0
      · rw [if_neg (by simpa using h2)] at hK
        exact bif_neqf h2 hK
      · rw [if_pos h2] at hK
        exact bif_neq h2 hK
  · rw [if_pos h0] at hK
    exact bif_neq h0 (ldI_of (g.cell (i := 0) rfl rfl) hK)
theorem cyStateC (h : St H0 L H) (hk : L[k]? = some (CyP b hb c)) (hK : K (.int .i64 c.state) H) : hcall PR f_cycle_Cycle_State ⟨[.pointer (some ⟨b, 0, none⟩)]⟩ H K := by
  obtain ⟨x, g, _⟩ := cyOpened h hk
  exact cyStateP g hK
theorem cyOpenP {x : CyX} (g : St H0 (cyParts b hb c x ++ M) H) (hK : K (.bool c.isOpen) H) : hcall PR f_cycle_Cycle_open ⟨[.pointer (some ⟨b, 0, none⟩)]⟩ H K := by
  apply den_cycle_Cycle_open
  unfold B_cycle_Cycle_open
  refine cyStateP g ?_
  simp only [asI_mk', asB_mk, asP_mk, asA_mk, asM_mk, asSl_mk, asStr_mk, tup2_mk, tup3_mk, agg1_mk, agg2_mk, agg3_mk, agg4_mk, asAggm, unCons_mk, unNil_mk, asTup_mk, extractD0, extractD1, List.toList_toArray, nilP_mk, add_mk, Nat.zero_add, Nat.add_zero, condT, condF, Bool.not_true, Bool.not_false, Option.isNone_some, Option.isNone_none]
  unfold Cy.isOpen at hK
  by_cases h1 : c.state ≥ 1
  · refine bif_pos h1 (cyStateP g ?_)
    simp only [asI_mk', asB_mk, asP_mk, asA_mk, asM_mk, asSl_mk, asStr_mk, tup2_mk, tup3_mk, agg1_mk, agg2_mk, agg3_mk, agg4_mk, asAggm, unCons_mk, unNil_mk, asTup_mk, extractD0, extractD1, List.toList_toArray, nilP_mk, add_mk, Nat.zero_add, Nat.add_zero, condT, condF, Bool.not_true, Bool.not_false, Option.isNone_some, Option.isNone_none]
    rw [decide_eq_true (show 1 ≤ c.state from h1), Bool.true_and] at hK
    exact hK
  · refine bif_neg h1 ?_
    rw [decide_eq_false (show ¬ 1 ≤ c.state from h1), Bool.false_and] at hK
    exact hK
theorem cyStoreC {m : Int} {old now : Id} (h : St H0 L H) (hi : L[i]? = some (HeapP hb s)) (hk : L[k]? = some (CyP b hb c)) (hik : i ≠ k) (hK : ∀ H', St H0 (L.set k (CyP b hb (cyStore s c m old now))) H' → K (.tuple #[]) H') :
    hcall PR f_cycle_Cycle_Store ⟨[.pointer (some ⟨b, 0, none⟩), .int .i64 m, .agg #[.int .i64 old.n, .int .u64 old.s], .agg #[.int .i64 now.n, .int .u64 now.s]]⟩ H K := by
  have hcok := (cy_ok h hk).store (s := s) (m := m) (old := old) (now := now)
  apply den_cycle_Cycle_Store
  unfold B_cycle_Cycle_Store
  intro b7 hb7
  have h1 := h.alloc (o := .cells #[.int .i64 old.n, .int .u64 old.s] ty_api_ID) hb7
  intro b9 hb9
  have h2 := h1.alloc (o := .cells #[.int .i64 now.n, .int .u64 now.s] ty_api_ID) hb9
  obtain ⟨B2, hB2⟩ : ∃ B2, B2 = [Prt.one b9 (.cells #[.int .i64 now.n, .int .u64 now.s] ty_api_ID (0, 0)), Prt.one b7 (.cells #[.int .i64 old.n, .int .u64 old.s] ty_api_ID (0, 0))] := ⟨_, rfl⟩
  have hk2 : (Prt.one b9 (.cells #[.int .i64 now.n, .int .u64 now.s] ty_api_ID (0, 0)) :: Prt.one b7 (.cells #[.int .i64 old.n, .int .u64 old.s] ty_api_ID (0, 0)) :: L)[k + 2]? = some (CyP b hb c) := hk
  obtain ⟨x, g, ho⟩ := cyOpened h2 hk2
  have g : St H0 (cyParts b hb c x ++ (Prt.one b9 (.cells #[.int .i64 now.n, .int .u64 now.s] ty_api_ID (0, 0)) :: Prt.one b7 (.cells #[.int .i64 old.n, .int .u64 old.s] ty_api_ID (0, 0)) :: L.set k .nil)) _ := g
  have done : ∀ c' H', c'.ok → cyStore s c m old now = c' → (∃ x', St H0 (cyParts b hb c' x' ++ (Prt.one b9 (.cells #[.int .i64 now.n, .int .u64 now.s] ty_api_ID (0, 0)) :: Prt.one b7 (.cells #[.int .i64 old.n, .int .u64 old.s] ty_api_ID (0, 0)) :: L.set k .nil)) H') → K (.tuple #[]) H' := fun c' H' _ e ⟨x', g'⟩ => by
    have h3 := cyShut (N := []) (L := Prt.one b9 (.cells #[.int .i64 now.n, .int .u64 now.s] ty_api_ID (0, 0)) :: Prt.one b7 (.cells #[.int .i64 old.n, .int .u64 old.s] ty_api_ID (0, 0)) :: L) (k := k + 2) g' hk2
    have h4 : St H0 (L.set k (CyP b hb c')) H' := St.lesses (M := [_, _]) h3
    rw [← e] at h4
    exact hK H' h4
  refine cyOpenP g ?_
  simp only [asI_mk', asB_mk, asP_mk, asA_mk, asM_mk, asSl_mk, asStr_mk, tup2_mk, tup3_mk, agg1_mk, agg2_mk, agg3_mk, agg4_mk, asAggm, unCons_mk, unNil_mk, asTup_mk, extractD0, extractD1, List.toList_toArray, nilP_mk, add_mk, Nat.zero_add, Nat.add_zero, condT, condF, Bool.not_true, Bool.not_false, Option.isNone_some, Option.isNone_none]
  cases hop : c.isOpen
  · simp only [Bool.not_false, condT]
    exact done c _ ho (by unfold cyStore; rw [if_neg (by rw [hop]; simp)]) ⟨x, g⟩
  simp only [Bool.not_true, condF]
  refine ldP_of (g.cell (i := 0) rfl rfl) (shkArmedC g (i := 1) rfl ?_)
  simp only [asI_mk', asB_mk, asP_mk, asA_mk, asM_mk, asSl_mk, asStr_mk, tup2_mk, tup3_mk, agg1_mk, agg2_mk, agg3_mk, agg4_mk, asAggm, unCons_mk, unNil_mk, asTup_mk, extractD0, extractD1, List.toList_toArray, nilP_mk, add_mk, Nat.zero_add, Nat.add_zero, condT, condF, Bool.not_true, Bool.not_false, Option.isNone_some, Option.isNone_none]
  cases har : isOf c.sk.ar m
  · simp only [Bool.not_false, condT]
    exact done c _ ho (by unfold cyStore; rw [if_neg (by rw [har]; simp)]) ⟨x, g⟩
  simp only [Bool.not_true, condF]
  have hi' : ∀ A B C D E F' G I J K' L' : Prt, (A :: B :: C :: D :: E :: F' :: G :: I :: J :: K' :: L' :: L.set k .nil)[i + 11]? = some (HeapP hb s) := fun _ _ _ _ _ _ _ _ _ _ _ => set_get_ne hi hik
  refine ldP_of (g.cell (i := 0) rfl rfl) (ldI_of (g.cell (i := 10) rfl rfl) (ldI_of (g.cell (i := 10) rfl rfl) (pShadeC (y := old) g (i := i + 11) (j := 2) (hi' _ _ _ _ _ _ _ _ _ _ _) rfl (by omega) fun H3 g3 => ?_)))
  refine ldP_of (g3.cell (i := 0) rfl rfl) (shkScannedC g3 (i := 1) rfl ?_)
  simp only [asI_mk', asB_mk, asP_mk, asA_mk, asM_mk, asSl_mk, asStr_mk, tup2_mk, tup3_mk, agg1_mk, agg2_mk, agg3_mk, agg4_mk, asAggm, unCons_mk, unNil_mk, asTup_mk, extractD0, extractD1, List.toList_toArray, nilP_mk, add_mk, Nat.zero_add, Nat.add_zero, condT, condF, Bool.not_true, Bool.not_false, Option.isNone_some, Option.isNone_none]
  cases hsc : isOf c.sk.sc m
  · simp only [Bool.not_false, condT]
    have e : cyStore s c m old now = { c with p := pShade s (pShade s c.p old 0) now 0 } := by unfold cyStore; rw [if_pos ⟨hop, har⟩, if_neg (by rw [hsc]; decide)]
    rw [e] at hcok
    refine ldP_of (g3.cell (i := 0) rfl rfl) (ldI_of (g3.cell (i := 9) rfl rfl) (ldI_of (g3.cell (i := 9) rfl rfl) (pShadeC (y := now) g3 (i := i + 11) (j := 2) (hi' _ _ _ _ _ _ _ _ _ _ _) rfl (by omega) fun H4 g4 => ?_)))
    have g5 := g4.refact (i := 8) (q := ({ c with p := pShade s (pShade s c.p old 0) now 0 } : Cy).ok) rfl hcok
    exact done _ H4 hcok e ⟨x, g5⟩
  · simp only [Bool.not_true, condF]
    have e : cyStore s c m old now = { c with p := pShade s c.p old 0 } := by unfold cyStore; rw [if_pos ⟨hop, har⟩, if_pos hsc]
    rw [e] at hcok
    have g5 := g3.refact (i := 8) (q := ({ c with p := pShade s c.p old 0 } : Cy).ok) rfl hcok
    exact done _ H3 hcok e ⟨x, g5⟩
theorem cyBornC {m q : Int} (h : St H0 L H) (hi : L[i]? = some (HeapP hb s)) (hk : L[k]? = some (CyP b hb c)) (hik : i ≠ k) (hn : s.node = 1) (hK : ∀ H', St H0 (L.set k (CyP b hb (cyBorn s c m q))) H' → K (.tuple #[]) H') :
    hcall PR f_cycle_Cycle_Born ⟨[.pointer (some ⟨b, 0, none⟩), .int .i64 m, .int .u64 q]⟩ H K := by
  have hcok := (cy_ok h hk).born (s := s) (m := m) (k := q)
  obtain ⟨x, g, ho⟩ := cyOpened h hk
  apply den_cycle_Cycle_Born
  unfold B_cycle_Cycle_Born
  have done : ∀ c' H', cyBorn s c m q = c' → (∃ x', St H0 (cyParts b hb c' x' ++ L.set k .nil) H') → K (.tuple #[]) H' := fun c' H' e ⟨x', g'⟩ => by
    have h3 : St H0 (L.set k (CyP b hb c')) H' := cyShut (N := []) g' hk
    rw [← e] at h3
    exact hK H' h3
  refine cyOpenP g ?_
  simp only [asI_mk', asB_mk, asP_mk, asA_mk, asM_mk, asSl_mk, asStr_mk, tup2_mk, tup3_mk, agg1_mk, agg2_mk, agg3_mk, agg4_mk, asAggm, unCons_mk, unNil_mk, asTup_mk, extractD0, extractD1, List.toList_toArray, nilP_mk, add_mk, Nat.zero_add, Nat.add_zero, condT, condF, Bool.not_true, Bool.not_false, Option.isNone_some, Option.isNone_none]
  cases hop : c.isOpen
  · simp only [Bool.not_false, condT]
    exact done c _ (by unfold cyBorn; rw [if_neg (by rw [hop]; simp)]) ⟨x, g⟩
  simp only [Bool.not_true, condF]
  refine ldP_of (g.cell (i := 0) rfl rfl) (shkArmedC g (i := 1) rfl ?_)
  simp only [asI_mk', asB_mk, asP_mk, asA_mk, asM_mk, asSl_mk, asStr_mk, tup2_mk, tup3_mk, agg1_mk, agg2_mk, agg3_mk, agg4_mk, asAggm, unCons_mk, unNil_mk, asTup_mk, extractD0, extractD1, List.toList_toArray, nilP_mk, add_mk, Nat.zero_add, Nat.add_zero, condT, condF, Bool.not_true, Bool.not_false, Option.isNone_some, Option.isNone_none]
  cases har : isOf c.sk.ar m
  · simp only [Bool.not_false, condT]
    exact done c _ (by unfold cyBorn; rw [if_neg (by rw [har]; simp)]) ⟨x, g⟩
  simp only [Bool.not_true, condF]
  refine cyStateP g ?_
  simp only [asI_mk', asB_mk, asP_mk, asA_mk, asM_mk, asSl_mk, asStr_mk, tup2_mk, tup3_mk, agg1_mk, agg2_mk, agg3_mk, agg4_mk, asAggm, unCons_mk, unNil_mk, asTup_mk, extractD0, extractD1, List.toList_toArray, nilP_mk, add_mk, Nat.zero_add, Nat.add_zero, condT, condF, Bool.not_true, Bool.not_false, Option.isNone_some, Option.isNone_none]
  by_cases hs1 : c.state = 1
  · have e : cyBorn s c m q = { c with p := pShade s c.p ⟨1, q⟩ 0 } := by unfold cyBorn; rw [if_pos ⟨hop, har⟩, if_pos hs1, hn]
    rw [e] at hcok
    refine bif_eq hs1 (ldP_of (g.cell (i := 0) rfl rfl) (ldI_of (g.cell (i := 0) rfl rfl) (pShadeC (y := ⟨1, q⟩) g (i := i + 9) (j := 2) (set_get_ne hi hik) rfl (by omega) fun H4 g4 => ?_)))
    have g5 := g4.refact (i := 8) (q := ({ c with p := pShade s c.p ⟨1, q⟩ 0 } : Cy).ok) rfl hcok
    exact done _ H4 e ⟨x, g5⟩
  · have e : cyBorn s c m q = { c with p := pBlacken s c.p q } := by unfold cyBorn; rw [if_pos ⟨hop, har⟩, if_neg hs1]
    rw [e] at hcok
    refine bif_ne hs1 (ldP_of (g.cell (i := 0) rfl rfl) (pBlackenC g (i := i + 9) (j := 2) (set_get_ne hi hik) rfl (by omega) fun H4 g4 => ?_))
    have g5 := g4.refact (i := 8) (q := ({ c with p := pBlacken s c.p q } : Cy).ok) rfl hcok
    exact done _ H4 e ⟨x, g5⟩
theorem cyTouchC {y : Id} (h : St H0 L H) (hi : L[i]? = some (HeapP hb s)) (hk : L[k]? = some (CyP b hb c)) (hik : i ≠ k) (hn : s.node = 1) (hK : ∀ H', St H0 (L.set k (CyP b hb (cyTouch s c y))) H' → K (.tuple #[]) H') :
    hcall PR f_cycle_Cycle_Touch ⟨[.pointer (some ⟨b, 0, none⟩), .agg #[.int .i64 y.n, .int .u64 y.s]]⟩ H K := by
  have hcok := (cy_ok h hk).touch (s := s) (x := y)
  apply den_cycle_Cycle_Touch
  unfold B_cycle_Cycle_Touch
  intro b4 hb4
  have h1 := h.alloc (o := .cells #[.int .i64 y.n, .int .u64 y.s] ty_api_ID) hb4
  have hk1 : (Prt.one b4 (.cells #[.int .i64 y.n, .int .u64 y.s] ty_api_ID (0, 0)) :: L)[k + 1]? = some (CyP b hb c) := hk
  obtain ⟨x, g, ho⟩ := cyOpened h1 hk1
  have g : St H0 (cyParts b hb c x ++ (Prt.one b4 (.cells #[.int .i64 y.n, .int .u64 y.s] ty_api_ID (0, 0)) :: L.set k .nil)) _ := g
  have done : ∀ c' H', cyTouch s c y = c' → (∃ x', St H0 (cyParts b hb c' x' ++ (Prt.one b4 (.cells #[.int .i64 y.n, .int .u64 y.s] ty_api_ID (0, 0)) :: L.set k .nil)) H') → K (.tuple #[]) H' := fun c' H' e ⟨x', g'⟩ => by
    have h3 := cyShut (N := []) (L := Prt.one b4 (.cells #[.int .i64 y.n, .int .u64 y.s] ty_api_ID (0, 0)) :: L) (k := k + 1) g' hk1
    have h4 : St H0 (L.set k (CyP b hb c')) H' := St.less h3
    rw [← e] at h4
    exact hK H' h4
  have shade : (c.isOpen = true ∨ (c.state = 5 ∧ y.n ≠ s.node)) → ∀ H', St H0 (cyParts b hb c x ++ (Prt.one b4 (.cells #[.int .i64 y.n, .int .u64 y.s] ty_api_ID (0, 0)) :: L.set k .nil)) H' → hcall PR f_paint_Paint_Shade ⟨[.pointer (some ⟨x.pb, 0, none⟩), .agg #[.int .i64 y.n, .int .u64 y.s], .int .i64 0]⟩ H' fun _ H'' => K (.tuple #[]) H'' := fun hc H' g' => by
    have e : cyTouch s c y = { c with p := pShade s c.p y 0 } := by unfold cyTouch; rw [if_pos hc]
    rw [e] at hcok
    refine pShadeC (y := y) g' (i := i + 10) (j := 2) (by show (L.set k .nil)[i]? = _; exact set_get_ne hi hik) rfl (by omega) fun H4 g4 => ?_
    have g5 := g4.refact (i := 8) (q := ({ c with p := pShade s c.p y 0 } : Cy).ok) rfl hcok
    exact done _ H4 e ⟨x, g5⟩
  refine cyOpenP g ?_
  simp only [asI_mk', asB_mk, asP_mk, asA_mk, asM_mk, asSl_mk, asStr_mk, tup2_mk, tup3_mk, agg1_mk, agg2_mk, agg3_mk, agg4_mk, asAggm, unCons_mk, unNil_mk, asTup_mk, extractD0, extractD1, List.toList_toArray, nilP_mk, add_mk, Nat.zero_add, Nat.add_zero, condT, condF, Bool.not_true, Bool.not_false, Option.isNone_some, Option.isNone_none]
  cases hop : c.isOpen
  · simp only [condF]
    refine cyStateP g ?_
    simp only [asI_mk', asB_mk, asP_mk, asA_mk, asM_mk, asSl_mk, asStr_mk, tup2_mk, tup3_mk, agg1_mk, agg2_mk, agg3_mk, agg4_mk, asAggm, unCons_mk, unNil_mk, asTup_mk, extractD0, extractD1, List.toList_toArray, nilP_mk, add_mk, Nat.zero_add, Nat.add_zero, condT, condF, Bool.not_true, Bool.not_false, Option.isNone_some, Option.isNone_none]
    by_cases h5 : c.state = 5
    · refine bif_eq h5 (ldI_of (g.cell (i := 9) rfl rfl) (ldI_of (g.cell (i := 0) rfl rfl) ?_))
      by_cases hy : y.n = 1
      · refine bif_neqf hy (done c _ ?_ ⟨x, g⟩)
        unfold cyTouch
        rw [if_neg (fun hh => hh.elim (fun hh => by rw [hop] at hh; cases hh) fun hh => hh.2 (by rw [hy, hn]))]
      · refine bif_neq hy (ldP_of (g.cell (i := 0) rfl rfl) (ldI_of (g.cell (i := 9) rfl rfl) (ldI_of (g.cell (i := 9) rfl rfl) ?_)))
        exact shade (.inr ⟨h5, by rw [hn]; exact hy⟩) _ g
    · refine bif_ne h5 (done c _ ?_ ⟨x, g⟩)
      unfold cyTouch
      rw [if_neg (fun hh => hh.elim (fun hh => by rw [hop] at hh; cases hh) fun hh => h5 hh.1)]
  · simp only [condT]
    refine ldP_of (g.cell (i := 0) rfl rfl) (ldI_of (g.cell (i := 9) rfl rfl) (ldI_of (g.cell (i := 9) rfl rfl) ?_))
    exact shade (.inl hop) _ g
theorem cyShakeC {m : Int} {hp : Option Addr} {hc : Nat} {held : List Id} (h : St H0 L H) (hi : L[i]? = some (HeapP hb s)) (hk : L[k]? = some (CyP b hb c)) (hik : i ≠ k) (hheld : ∀ N H', St H0 (N ++ L.set k .nil) H' → Rd H' 2 hp held.length (cel Id.cells held)) (hl : held.length ≤ 1000000)
    (hK : ∀ H', St H0 (L.set k (CyP b hb (cyShake s c m held).2)) H' → K (.bool (cyShake s c m held).1) H') : hcall PR f_cycle_Cycle_Shake ⟨[.pointer (some ⟨b, 0, none⟩), .int .i64 m, .slice hp held.length hc]⟩ H K := by
  have hco := cy_ok h hk
  have hcok := hco.shake (s := s) (m := m) (held := held)
  obtain ⟨x, g, ho⟩ := cyOpened h hk
  apply den_cycle_Cycle_Shake
  unfold B_cycle_Cycle_Shake
  simp only [asI_mk', asB_mk, asP_mk, asA_mk, asM_mk, asSl_mk, asStr_mk, tup2_mk, tup3_mk, agg1_mk, agg2_mk, agg3_mk, agg4_mk, asAggm, unCons_mk, unNil_mk, asTup_mk, extractD0, extractD1, List.toList_toArray, nilP_mk, add_mk, Nat.zero_add, Nat.add_zero, condT, condF, Bool.not_true, Bool.not_false, Option.isNone_some, Option.isNone_none]
  refine ldP_of (g.cell (i := 0) rfl rfl) (shkAnswerC g (i := 1) rfl hco.len (by have := hco.size; omega) fun H1 g1 => ?_)
  simp only [asI_mk', asB_mk, asP_mk, asA_mk, asM_mk, asSl_mk, asStr_mk, tup2_mk, tup3_mk, agg1_mk, agg2_mk, agg3_mk, agg4_mk, asAggm, unCons_mk, unNil_mk, asTup_mk, extractD0, extractD1, List.toList_toArray, nilP_mk, add_mk, Nat.zero_add, Nat.add_zero, condT, condF, Bool.not_true, Bool.not_false, Option.isNone_some, Option.isNone_none]
  intro R11 hR11
  have hR11 : ∀ c' v H', cyShake s c m held = (v, c') → decide ((c.sk.ans m).2 ≠ 0) = v → (∃ x', St H0 (cyParts b hb c' x' ++ L.set k .nil) H') → R11 H' := fun c' v H' e ev ⟨x', g'⟩ => by
    refine hR11 H' ?_
    have h3 : St H0 (L.set k (CyP b hb c')) H' := cyShut (N := []) g' hk
    have := hK H'
    rw [e] at this
    have := this h3
    simp only at this
    rw [← ev] at this
    rw [show ((c.sk.ans m).2 != 0) = decide ((c.sk.ans m).2 ≠ 0) by rw [bne]; cases hh : ((c.sk.ans m).2 == 0) <;> simp_all]
    exact this
  by_cases h2 : (c.sk.ans m).2 = 2
  rotate_left
  · refine bif_ne h2 ?_
    have e : cyShake s c m held = (decide ((c.sk.ans m).2 ≠ 0), { c with sk := (c.sk.ans m).1 }) := by unfold cyShake; rw [if_neg h2]
    rw [e] at hcok
    have g2 := g1.refact (i := 8) (q := ({ c with sk := (c.sk.ans m).1 } : Cy).ok) rfl hcok
    exact hR11 _ _ H1 e rfl ⟨x, g2⟩
  refine bif_eq h2 ?_
  have e : cyShake s c m held = (true, { c with sk := (c.sk.ans m).1, p := pShades s c.p held 0 }) := by unfold cyShake; rw [if_pos h2]
  rw [e] at hcok
  refine ⟨fun t H' => ∃ y : Nat, t = y ∧ y ≤ held.length ∧ St H0 (cyParts b hb { c with p := pShades s c.p (held.take y) 0 } x |>.set 1 (Shk x.kb (c.sk.ans m).1) |>.set 8 (Prt.pure c.ok) |> (· ++ L.set k .nil)) H', fun t _ => ((held.length : Int) - t).toNat, ⟨0, rfl, by omega, by rw [List.take_zero]; exact g1⟩, ?_⟩
  clear g1 g
  rintro t H2 ⟨y, rfl, hy, g2⟩
  have g2 : St H0 (Prt.one b (.cells (cyCells hb c x) x.T (0, 0)) :: Shk x.kb (c.sk.ans m).1 :: PaintP x.pb hb (pShades s c.p (held.take y) 0) :: MkP x.mb hb x.pb c.m :: RcP x.rb hb x.pb c.r :: SwP x.ST x.sb hb x.pb c.pl c.e :: RowsP x.tp x.tc c.told.rows :: Prt.row 3 x.op c.told.outs.length x.oc (cel outC c.told.outs) :: Prt.pure c.ok :: L.set k .nil) H2 := g2
  by_cases hcy : (y : Int) < ((held.length : Nat) : Int)
  rotate_left
  · obtain rfl : y = held.length := by omega
    rw [List.take_length] at g2
    refine bif_neg hcy ?_
    have g3 := g2.refact (i := 8) (q := ({ c with sk := (c.sk.ans m).1, p := pShades s c.p held 0 } : Cy).ok) rfl hcok
    exact hR11 _ _ H2 e (by rw [h2]; decide) ⟨x, g3⟩
  refine bif_pos hcy ?_
  have hrd := hheld [_, _, _, _, _, _, _, _, _] H2 g2
  refine idxS Id.len noId hrd (by omega) (by omega) hcy fun b1 o1 _ hl1 hcc => ?_
  have c0 := hcc 0 (by omega)
  have c1 := hcc 1 (by omega)
  simp only [asI_mk', asB_mk, asP_mk, asA_mk, asM_mk, asSl_mk, asStr_mk, tup2_mk, tup3_mk, agg1_mk, agg2_mk, agg3_mk, agg4_mk, asAggm, unCons_mk, unNil_mk, asTup_mk, extractD0, extractD1, List.toList_toArray, nilP_mk, add_mk, Nat.zero_add, Nat.add_zero, condT, condF, Bool.not_true, Bool.not_false, Option.isNone_some, Option.isNone_none]
  rw [Int.toNat_natCast] at c0 c1
  refine ldI_of c0 (ldI_of c1 (box2 g2 fun b20 H3 g3 => ?_))
  refine ldP_of (g3.cell (i := 1) rfl rfl) (ldI_of (g3.cell (i := 0) rfl rfl) (ldI_of (g3.cell (i := 0) rfl rfl) ?_))
  refine pShadeC (y := held.getD y noId) g3 (i := i + 10) (j := 3) (by show (L.set k .nil)[i]? = _; exact set_get_ne hi hik) rfl (by omega) fun H4 g4 => ?_
  rw [wrap_i64 (by omega) (by omega)]
  refine ⟨⟨y + 1, by omega, by omega, ?_⟩, by (try dsimp only); omega⟩
  rw [pShades_take (by omega)]
  exact g4.less
end
end Go.Proofs.YtojcacejgbnfkaaGreat

namespace Go.Proofs.YtojcacejgbnfkaaGreat
set_option linter.unusedSimpArgs false
set_option linter.unusedVariables false
open Go
/-- How much a collector may hold. -/
structure Cy.lt (c : Cy) (n : Nat) : Prop where
  p : c.p.lt n
  r : c.r.lt n
  rows : c.told.rows.length ≤ n
  rlen : ∀ r ∈ c.told.rows, r.2.length ≤ n
  outs : c.told.outs.length ≤ n

section
variable {s s1 : Hs} {c c1 : Cy} {stir f : Int} {n m : Nat} {v : Bool} {fr : List Int}
theorem cyMk_lt {p : Ps} {m : Mk} (ho : s.ok) (h : p.lt n) : (mkStep s p m).2.1.lt (n + 7) := by
  unfold mkStep
  split
  · exact h.pop.scan ho
  · split
    · exact h.scan ho
    · split
      · exact h.rest.mono (by omega)
      · split
        · exact h.mono (by omega)
        · simp only
          unfold mkSee
          split
          · split
            · exact h.shade.mono (by omega)
            · exact h.mono (by omega)
          · exact h.mono (by omega)
theorem Cy.lt.mono (h : c.lt n) (hm : n ≤ m) : c.lt m := ⟨h.p.mono hm, h.r.mono hm, by have := h.rows; omega, fun r hr => by have := h.rlen r hr; omega, by have := h.outs; omega⟩
theorem Cy.lt.marks (ho : s.ok) (h : c.lt n) : (cyMarks s c stir).lt (n + 7) := by
  have h1 := cyMk_lt (m := c.m) ho h.p
  have h2 := h.mono (m := n + 7) (by omega)
  unfold cyMarks
  split
  · exact ⟨h1, h2.r, h2.rows, h2.rlen, h2.outs⟩
  · exact ⟨h1, ⟨fun w hw => by (cases hw), Nat.zero_le _, fun r hr => by (cases hr)⟩, h2.rows, h2.rlen, h2.outs⟩
theorem Cy.lt.reaches (ho : s.ok) (hc : c.ok) (h : c.lt n) : (cyReaches s c).lt (n + 7) := by
  have h1 := cyMk_lt (m := c.m) ho h.p
  have h2 := h.mono (m := n + 7) (by omega)
  have h3 := h.r.step (p := (mkStep s c.p c.m).2.1) ho
  unfold cyReaches
  split
  · exact ⟨h1, h2.r, h2.rows, h2.rlen, h2.outs⟩
  · split
    · exact ⟨h1, h3, h2.rows, h2.rlen, h2.outs⟩
    · refine ⟨h1, h3, h3.rows, h3.outs, ?_⟩
      have h4 := (outsOf_ok (mkStep_ok ho hc.p hc.m).1).2.length_eq
      have h5 := List.length_filter_le (fun e : Id × Int => decide (c.sus < e.2)) (outsOf (mkStep s c.p c.m).2.1)
      have h6 := h1.2
      simp only
      omega
theorem cySw_lt {p : Ps} {pl e : Int} (h : p.lt n) : (swStep s p pl e).2.2.1.lt n := by
  unfold swStep
  split
  · exact h
  · split
    · exact h
    · exact h.forget
theorem unit0 (h : c.state = 0) : cyUnit s c stir = ⟨some false, 0, s, { c with p := pTurn c.p, sk := c.sk.begun }⟩ := by unfold cyUnit; rw [if_pos h]
theorem unit12 (h : c.state = 1 ∨ c.state = 2) (h3 : c.sk.ph ≠ 3) : cyUnit s c stir = ⟨some false, 0, s, c⟩ := by unfold cyUnit; rw [if_neg (by omega), if_pos h, if_pos h3]
theorem unit23 (h : c.state = 1 ∨ c.state = 2) (h3 : c.sk.ph = 3) : cyUnit s c stir = ⟨none, 0, s, cyMarks s { c with st := 3, m := ⟨0, false, 0⟩ } stir⟩ := by unfold cyUnit; rw [if_neg (by omega), if_pos h, if_neg (by omega)]
theorem unit3 (h : c.state = 3) : cyUnit s c stir = ⟨none, 0, s, cyMarks s c stir⟩ := by unfold cyUnit; rw [if_neg (by omega), if_neg (by omega), if_pos h]
theorem unit4 (h : c.state = 4) : cyUnit s c stir = ⟨none, 0, s, cyReaches s c⟩ := by unfold cyUnit; rw [if_neg (by omega), if_neg (by omega), if_neg (by omega), if_pos h]
theorem unit5 (h : c.state = 5) (hs : (swStep s c.p c.pl c.e).1.2 = false) : cyUnit s c stir = ⟨some true, 0, (swStep s c.p c.pl c.e).2.1, { c with p := (swStep s c.p c.pl c.e).2.2.1, pl := (swStep s c.p c.pl c.e).2.2.2, sk := c.sk.ended, st := 0 }⟩ := by
  unfold cyUnit; rw [if_neg (by omega), if_neg (by omega), if_neg (by omega), if_neg (by omega), if_pos h, if_pos hs]
theorem unit6 (h : c.state = 5) (hs : (swStep s c.p c.pl c.e).1.2 = true) : cyUnit s c stir = ⟨none, (swStep s c.p c.pl c.e).1.1, (swStep s c.p c.pl c.e).2.1, { c with p := (swStep s c.p c.pl c.e).2.2.1, pl := (swStep s c.p c.pl c.e).2.2.2 }⟩ := by
  unfold cyUnit; rw [if_neg (by omega), if_neg (by omega), if_neg (by omega), if_neg (by omega), if_pos h, if_neg (by rw [hs]; decide)]
theorem steps_stop (h : cyUnit s c stir = ⟨some v, f, s1, c1⟩) : cySteps stir (n + 1) s c fr = ((fr, v), s1, c1) := by unfold cySteps; rw [h]
theorem steps_go (h : cyUnit s c stir = ⟨none, f, s1, c1⟩) : cySteps stir (n + 1) s c fr = cySteps stir n s1 c1 (if f ≠ 0 then fr ++ [f] else fr) := by
  conv => lhs; unfold cySteps
  rw [h]
theorem marks_work : (cyMarks s c stir).work = c.work ∧ (cyMarks s c stir).sus = c.sus := by unfold cyMarks; split <;> exact ⟨rfl, rfl⟩
theorem reaches_work : (cyReaches s c).work = c.work ∧ (cyReaches s c).sus = c.sus := by
  unfold cyReaches
  split
  · exact ⟨rfl, rfl⟩
  · split <;> exact ⟨rfl, rfl⟩
theorem Cy.ok.sixth (hc : c.ok) : c.state = 0 ∨ ((c.state = 1 ∨ c.state = 2) ∧ c.sk.ph ≠ 3) ∨ ((c.state = 1 ∨ c.state = 2) ∧ c.sk.ph = 3) ∨ (c.state = 3 ∧ c.st = 3 ∧ c.sk.ph = 3) ∨ (c.state = 4 ∧ c.st = 4 ∧ c.sk.ph = 3) ∨ c.state = 5 := by
  have := hc.state
  omega
theorem unit_work (hc : c.ok) : (cyUnit s c stir).c.work = c.work ∧ (cyUnit s c stir).c.sus = c.sus := by
  rcases hc.sixth with h | ⟨h, h3⟩ | ⟨h, h3⟩ | ⟨h, _⟩ | ⟨h, _⟩ | h
  · rw [unit0 h]; exact ⟨rfl, rfl⟩
  · rw [unit12 h h3]; exact ⟨rfl, rfl⟩
  · rw [unit23 h h3]; exact marks_work (c := { c with st := 3, m := ⟨0, false, 0⟩ })
  · rw [unit3 h]; exact marks_work
  · rw [unit4 h]; exact reaches_work
  · cases hs : (swStep s c.p c.pl c.e).1.2
    · rw [unit5 h hs]; exact ⟨rfl, rfl⟩
    · rw [unit6 h hs]; exact ⟨rfl, rfl⟩
theorem Cy.lt.unit (ho : s.ok) (hc : c.ok) (h : c.lt n) : (cyUnit s c stir).c.lt (n + 7) := by
  have h2 := h.mono (m := n + 7) (by omega)
  rcases hc.sixth with e | ⟨e, h3⟩ | ⟨e, h3⟩ | ⟨e, _⟩ | ⟨e, _⟩ | e
  · rw [unit0 e]; exact ⟨h2.p.turn, h2.r, h2.rows, h2.rlen, h2.outs⟩
  · rw [unit12 e h3]; exact h2
  · rw [unit23 e h3]; exact Cy.lt.marks (c := { c with st := 3, m := ⟨0, false, 0⟩ }) ho ⟨h.p, h.r, h.rows, h.rlen, h.outs⟩
  · rw [unit3 e]; exact h.marks ho
  · rw [unit4 e]; exact h.reaches ho hc
  · cases hs : (swStep s c.p c.pl c.e).1.2
    · rw [unit5 e hs]; exact ⟨cySw_lt h2.p, h2.r, h2.rows, h2.rlen, h2.outs⟩
    · rw [unit6 e hs]; exact ⟨cySw_lt h2.p, h2.r, h2.rows, h2.rlen, h2.outs⟩
theorem Cy.lt.steps : ∀ {m : Nat} {s : Hs} {c : Cy} {fr : List Int} {n : Nat}, s.ok → c.ok → c.lt n → (cySteps stir m s c fr).2.2.lt (n + 7 * m)
  | 0, s, c, fr, n, _, _, h => h.mono (by omega)
  | m + 1, s, c, fr, n, ho, hc, h => by
    have h1 := hc.unit (stir := stir) ho
    have h2 := h.unit (stir := stir) ho hc
    unfold cySteps
    split
    · exact h2.mono (by omega)
    · exact (Cy.lt.steps h1.1 h1.2 h2).mono (by omega)
theorem steps_work : ∀ {m : Nat} {s : Hs} {c : Cy} {fr : List Int}, s.ok → c.ok → (cySteps stir m s c fr).2.2.work = c.work ∧ (cySteps stir m s c fr).2.2.sus = c.sus
  | 0, s, c, fr, _, _ => ⟨rfl, rfl⟩
  | m + 1, s, c, fr, ho, hc => by
    have h1 := hc.unit (stir := stir) ho
    have h2 := unit_work (s := s) (stir := stir) hc
    unfold cySteps
    split
    · exact h2
    · have := steps_work (m := m) (fr := if (cyUnit s c stir).freed ≠ 0 then fr ++ [(cyUnit s c stir).freed] else fr) h1.1 h1.2
      exact ⟨this.1.trans h2.1, this.2.trans h2.2⟩
theorem newCy_lt {a g u w l : Int} : (newCy a g u w l).lt n := ⟨newPs_lt, ⟨fun w hw => by (cases hw), Nat.zero_le _, fun r hr => by (cases hr)⟩, Nat.zero_le _, fun r hr => by (cases hr), Nat.zero_le _⟩
theorem Cy.lt.paint {p : Ps} (h : c.lt n) (hp : p.lt n) : ({ c with p := p } : Cy).lt n := ⟨hp, h.r, h.rows, h.rlen, h.outs⟩
theorem Cy.lt.store {m : Int} {old now : Id} (h : c.lt n) : (cyStore s c m old now).lt (n + 2) := by
  have h2 := h.mono (m := n + 2) (by omega)
  unfold cyStore
  split
  · refine h2.paint ?_
    split
    · exact h.p.shade.mono (by omega)
    · exact h.p.shade.shade
  · exact h2
theorem Cy.lt.born {m k : Int} (h : c.lt n) : (cyBorn s c m k).lt (n + 1) := by
  have h2 := h.mono (m := n + 1) (by omega)
  unfold cyBorn
  split
  · refine h2.paint ?_
    split
    · exact h.p.shade
    · exact h.p.blacken
  · exact h2
theorem Cy.lt.touch {x : Id} (h : c.lt n) : (cyTouch s c x).lt (n + 1) := by
  unfold cyTouch
  split
  · exact (h.mono (by omega)).paint h.p.shade
  · exact h.mono (by omega)
theorem Cy.lt.shake {m : Int} {held : List Id} (h : c.lt n) : (cyShake s c m held).2.lt (n + held.length) := by
  have h2 := h.mono (m := n + held.length) (by omega)
  unfold cyShake
  split
  · exact ⟨h.p.shades, h2.r, h2.rows, h2.rlen, h2.outs⟩
  · exact ⟨h2.p, h2.r, h2.rows, h2.rlen, h2.outs⟩
end
end Go.Proofs.YtojcacejgbnfkaaGreat

namespace Go.Proofs.YtojcacejgbnfkaaGreat
set_option linter.unusedSimpArgs false
set_option linter.unusedVariables false
open Go
section
variable {H0 H : Hp} {L M N : List Prt} {i j k b hb : Nat} {s : Hs} {c : Cy} {x : CyX} {stir : Int} {K : Value → Hp → Prop}
theorem cyMarksP (g : St H0 (cyParts b hb c x ++ M) H) (hi : M[i]? = some (HeapP hb s)) (hs : s.ok) (hcok : c.ok) (hst : c.st = 3 ∧ c.sk.ph = 3) (hK : ∀ H', St H0 (cyParts b hb (cyMarks s c stir) x ++ M) H' → K (.tuple #[]) H') :
    hcall PR f_cycle_Cycle_marks ⟨[.pointer (some ⟨b, 0, none⟩), .int .u64 stir]⟩ H K := by
  have hcok' := hcok.marks (stir := stir) hs hst
  apply den_cycle_Cycle_marks
  unfold B_cycle_Cycle_marks
  simp only [asI_mk', asB_mk, asP_mk, asA_mk, asM_mk, asSl_mk, asStr_mk, tup2_mk, tup3_mk, agg1_mk, agg2_mk, agg3_mk, agg4_mk, asAggm, unCons_mk, unNil_mk, asTup_mk, extractD0, extractD1, List.toList_toArray, nilP_mk, add_mk, Nat.zero_add, Nat.add_zero, condT, condF, Bool.not_true, Bool.not_false, Option.isNone_some, Option.isNone_none]
  refine ldP_of (g.cell (i := 0) rfl rfl) (mkStepC g (i := i + 9) (j := 2) (k := 3) hi rfl rfl (by omega) (by omega) (by omega) fun H1 g1 => ?_)
  simp only [asI_mk', asB_mk, asP_mk, asA_mk, asM_mk, asSl_mk, asStr_mk, tup2_mk, tup3_mk, agg1_mk, agg2_mk, agg3_mk, agg4_mk, asAggm, unCons_mk, unNil_mk, asTup_mk, extractD0, extractD1, List.toList_toArray, nilP_mk, add_mk, Nat.zero_add, Nat.add_zero, condT, condF, Bool.not_true, Bool.not_false, Option.isNone_some, Option.isNone_none]
  have g1 : St H0 (Prt.one b (.cells (cyCells hb c x) x.T (0, 0)) :: Shk x.kb c.sk :: PaintP x.pb hb (mkStep s c.p c.m).2.1 :: MkP x.mb hb x.pb (mkStep s c.p c.m).2.2 :: RcP x.rb hb x.pb c.r :: SwP x.ST x.sb hb x.pb c.pl c.e :: RowsP x.tp x.tc c.told.rows :: Prt.row 3 x.op c.told.outs.length x.oc (cel outC c.told.outs) :: Prt.pure c.ok :: M) H1 := g1
  cases hm : (mkStep s c.p c.m).1
  · have e : cyMarks s c stir = { c with p := (mkStep s c.p c.m).2.1, m := (mkStep s c.p c.m).2.2, stir := stir, r := rcNew c.sus, st := 4 } := by unfold cyMarks; rw [if_neg (by rw [hm]; decide)]
    rw [e] at hK hcok'
    simp only [condF]
    refine g1.put (i := 0) rfl (by simp [cyCells]) fun H2 g2 => ?_
    refine ldP_of (g2.cell (i := 0) rfl rfl) (ldI_of (g2.cell (i := 0) rfl rfl) ?_)
    refine rcBeginC g2 (k := 4) rfl fun H3 g3 => ?_
    refine g3.put (i := 0) rfl (by simp [cyCells]) fun H4 g4 => ?_
    have g5 := g4.refact (i := 8) rfl hcok'
    exact hK H4 g5
  · have e : cyMarks s c stir = { c with p := (mkStep s c.p c.m).2.1, m := (mkStep s c.p c.m).2.2 } := by unfold cyMarks; rw [if_pos hm]
    rw [e] at hK hcok'
    simp only [condT]
    have g2 := g1.refact (i := 8) rfl hcok'
    exact hK H1 g2

def outPick (u : Int) (l : List (Id × Int)) : List (Id × Int) := l.filter fun e => decide (u < e.2)
theorem outPick_take {u : Int} {l : List (Id × Int)} {y : Nat} (hy : y < l.length) : outPick u (l.take (y + 1)) = outPick u (l.take y) ++ if u < (l.getD y (noId, 0)).2 then [l.getD y (noId, 0)] else [] := by
  have e : l[y]? = some (l.getD y (noId, 0)) := by rw [List.getD_eq_getElem?_getD, List.getElem?_eq_getElem hy]; rfl
  unfold outPick
  rw [List.take_add_one, e, Option.toList_some, List.filter_append]
  congr 1
  by_cases h : u < (l.getD y (noId, 0)).2
  · rw [if_pos h, List.filter_cons_of_pos (by simpa using h)]; rfl
  · rw [if_neg h, List.filter_cons_of_neg (by simpa using h)]; rfl
theorem cyReachesP {n : Nat} (g : St H0 (cyParts b hb c x ++ M) H) (hi : M[i]? = some (HeapP hb s)) (hs : s.ok) (hcok : c.ok) (hst : c.st = 4 ∧ c.sk.ph = 3) (hlt : c.lt n) (hn : n ≤ 700000) (hK : ∀ x' H', St H0 (cyParts b hb (cyReaches s c) x' ++ M) H' → K (.tuple #[]) H') :
    hcall PR f_cycle_Cycle_reaches ⟨[.pointer (some ⟨b, 0, none⟩)]⟩ H K := by
  have hcok' := hcok.reaches hs hst
  have hlt' := hlt.reaches hs hcok
  have hmk := cyMk_lt (m := c.m) hs hlt.p
  have hrl := hlt.r.step (p := (mkStep s c.p c.m).2.1) hs
  apply den_cycle_Cycle_reaches
  unfold B_cycle_Cycle_reaches
  simp only [asI_mk', asB_mk, asP_mk, asA_mk, asM_mk, asSl_mk, asStr_mk, tup2_mk, tup3_mk, agg1_mk, agg2_mk, agg3_mk, agg4_mk, asAggm, unCons_mk, unNil_mk, asTup_mk, extractD0, extractD1, List.toList_toArray, nilP_mk, add_mk, Nat.zero_add, Nat.add_zero, condT, condF, Bool.not_true, Bool.not_false, Option.isNone_some, Option.isNone_none]
  refine ldP_of (g.cell (i := 0) rfl rfl) (mkStepC g (i := i + 9) (j := 2) (k := 3) hi rfl rfl (by omega) (by omega) (by omega) fun H1 g1 => ?_)
  simp only [asI_mk', asB_mk, asP_mk, asA_mk, asM_mk, asSl_mk, asStr_mk, tup2_mk, tup3_mk, agg1_mk, agg2_mk, agg3_mk, agg4_mk, asAggm, unCons_mk, unNil_mk, asTup_mk, extractD0, extractD1, List.toList_toArray, nilP_mk, add_mk, Nat.zero_add, Nat.add_zero, condT, condF, Bool.not_true, Bool.not_false, Option.isNone_some, Option.isNone_none]
  have g1 : St H0 (Prt.one b (.cells (cyCells hb c x) x.T (0, 0)) :: Shk x.kb c.sk :: PaintP x.pb hb (mkStep s c.p c.m).2.1 :: MkP x.mb hb x.pb (mkStep s c.p c.m).2.2 :: RcP x.rb hb x.pb c.r :: SwP x.ST x.sb hb x.pb c.pl c.e :: RowsP x.tp x.tc c.told.rows :: Prt.row 3 x.op c.told.outs.length x.oc (cel outC c.told.outs) :: Prt.pure c.ok :: M) H1 := g1
  cases hm : (mkStep s c.p c.m).1
  rotate_left
  · have e : cyReaches s c = { c with p := (mkStep s c.p c.m).2.1, m := (mkStep s c.p c.m).2.2 } := by unfold cyReaches; rw [if_pos hm]
    rw [e] at hK hcok'
    simp only [condT]
    have g2 := g1.refact (i := 8) rfl hcok'
    exact hK x H1 g2
  simp only [condF]
  refine ldP_of (g1.cell (i := 0) rfl rfl) (rcStepC g1 (i := i + 9) (j := 2) (k := 4) hi rfl rfl (by omega) (by omega) (by omega) (hlt.r.mono (by omega)) fun H2 g2 => ?_)
  simp only [asI_mk', asB_mk, asP_mk, asA_mk, asM_mk, asSl_mk, asStr_mk, tup2_mk, tup3_mk, agg1_mk, agg2_mk, agg3_mk, agg4_mk, asAggm, unCons_mk, unNil_mk, asTup_mk, extractD0, extractD1, List.toList_toArray, nilP_mk, add_mk, Nat.zero_add, Nat.add_zero, condT, condF, Bool.not_true, Bool.not_false, Option.isNone_some, Option.isNone_none]
  have g2 : St H0 (Prt.one b (.cells (cyCells hb c x) x.T (0, 0)) :: Shk x.kb c.sk :: PaintP x.pb hb (mkStep s c.p c.m).2.1 :: MkP x.mb hb x.pb (mkStep s c.p c.m).2.2 :: RcP x.rb hb x.pb (rcStep s (mkStep s c.p c.m).2.1 c.r).2 :: SwP x.ST x.sb hb x.pb c.pl c.e :: RowsP x.tp x.tc c.told.rows :: Prt.row 3 x.op c.told.outs.length x.oc (cel outC c.told.outs) :: Prt.pure c.ok :: M) H2 := g2
  cases hr : (rcStep s (mkStep s c.p c.m).2.1 c.r).1
  rotate_left
  · have e : cyReaches s c = { c with p := (mkStep s c.p c.m).2.1, m := (mkStep s c.p c.m).2.2, r := (rcStep s (mkStep s c.p c.m).2.1 c.r).2 } := by unfold cyReaches; rw [if_neg (by rw [hm]; decide), if_pos hr]
    rw [e] at hK hcok'
    simp only [condT]
    have g3 := g2.refact (i := 8) rfl hcok'
    exact hK x H2 g3
  simp only [condF]
  obtain ⟨p1, hp1⟩ : ∃ p1, p1 = (mkStep s c.p c.m).2.1 := ⟨_, rfl⟩
  obtain ⟨m1, hm1⟩ : ∃ m1, m1 = (mkStep s c.p c.m).2.2 := ⟨_, rfl⟩
  obtain ⟨r1, hr1⟩ : ∃ r1, r1 = (rcStep s p1 c.r).2 := ⟨_, rfl⟩
  have e : cyReaches s c = { c with p := p1, m := m1, r := r1, told := ⟨c.stir, r1.rows, outPick c.sus (outsOf p1), true⟩, pl := 0, e := s.last, fin := s.last, st := 5 } := by
    unfold cyReaches
    rw [if_neg (by rw [hm]; decide), if_neg (by rw [hr]; decide), hr1, hp1, hm1]
    rfl
  rw [e] at hK hcok'
  rw [← hp1] at g2 hmk hrl
  rw [← hr1] at g2 hrl
  rw [← hm1] at g2
  clear hr hm g1 g e
  refine ldI_of (g2.cell (i := 0) rfl rfl) (ldP_of (g2.cell (i := 0) rfl rfl) (rcRowsC g2 (k := 4) rfl (hrl.mono (by omega)) fun q1 n1 H3 g3 => ?_))
  simp only [asI_mk', asB_mk, asP_mk, asA_mk, asM_mk, asSl_mk, asStr_mk, tup2_mk, tup3_mk, agg1_mk, agg2_mk, agg3_mk, agg4_mk, asAggm, unCons_mk, unNil_mk, asTup_mk, extractD0, extractD1, List.toList_toArray, nilP_mk, add_mk, Nat.zero_add, Nat.add_zero, condT, condF, Bool.not_true, Bool.not_false, Option.isNone_some, Option.isNone_none]
  refine ⟨ldI_of (g3.cell (i := 1) rfl rfl) rfl, ?_⟩
  refine g3.put (i := 1) rfl (by simp [cyCells]) fun H4 g4 => g4.put (i := 1) rfl (by simp [cyCells]) fun H5 g5 => g5.put (i := 1) rfl (by simp [cyCells]) fun H6 g6 => g6.put (i := 1) rfl (by simp [cyCells]) fun H7 g7 => ?_
  have g8 := St.over (i := 6) g7 rfl
  have g9 := St.over (i := 7) (g8.row (H' := _) (Own.nil 3) ((Goes.refl Nothing _).less fun c hc => absurd hc blk_none)) rfl
  refine ldP_of (g9.cell (i := 0) rfl rfl) (pOutsC g9 (j := 2) rfl (by have := hmk.2; omega) fun q2 n2 H8 g10 => ?_)
  simp only [asI_mk', asB_mk, asP_mk, asA_mk, asM_mk, asSl_mk, asStr_mk, tup2_mk, tup3_mk, agg1_mk, agg2_mk, agg3_mk, agg4_mk, asAggm, unCons_mk, unNil_mk, asTup_mk, extractD0, extractD1, List.toList_toArray, nilP_mk, add_mk, Nat.zero_add, Nat.add_zero, condT, condF, Bool.not_true, Bool.not_false, Option.isNone_some, Option.isNone_none]
  have hol : (outsOf p1).length ≤ 800000 := by
    have h4 := (outsOf_ok (p := p1) hcok'.p).2.length_eq
    have h6 := hmk.2
    omega
  clear g3 g4 g5 g6 g7 g8 g9 g2
  refine ⟨fun t H' => ∃ (y : Nat) (op : Option Addr) (oc : Nat), t = y ∧ y ≤ (outsOf p1).length ∧
      St H0 (Prt.row 3 q2 (outsOf p1).length n2 (cel outC (outsOf p1)) :: Prt.one b (.cells (cyCells hb { c with told := ⟨c.stir, r1.rows, outPick c.sus ((outsOf p1).take y), true⟩ } { x with tp := q1, tc := n1, op := op, oc := oc }) x.T (0, 0)) :: Shk x.kb c.sk :: PaintP x.pb hb p1 :: MkP x.mb hb x.pb m1 :: RcP x.rb hb x.pb r1 :: SwP x.ST x.sb hb x.pb c.pl c.e :: RowsP q1 n1 r1.rows :: Prt.row 3 op (outPick c.sus ((outsOf p1).take y)).length oc (cel outC (outPick c.sus ((outsOf p1).take y))) :: Prt.pure c.ok :: M) H',
    fun t _ => (((outsOf p1).length : Int) - t).toNat, ⟨0, none, 0, rfl, by omega, ?_⟩, ?_⟩
  · rw [List.take_zero]
    exact g10
  clear g10
  rintro t H9 ⟨y, op, oc, rfl, hy, h1⟩
  have hfl := List.length_filter_le (fun e : Id × Int => decide (c.sus < e.2)) ((outsOf p1).take y)
  rw [List.length_take] at hfl
  have hfl : (outPick c.sus ((outsOf p1).take y)).length ≤ 800000 := by unfold outPick; omega
  by_cases hcy : (y : Int) < (((outsOf p1).length : Nat) : Int)
  rotate_left
  · obtain rfl : y = (outsOf p1).length := by omega
    rw [List.take_length] at h1
    refine bif_neg hcy ?_
    refine ldP_of (h1.cell (i := 1) rfl rfl) (swBeginC h1 (i := i + 10) (k := 6) hi rfl fun H10 h2 => ?_)
    refine ldP_of (h2.cell (i := 1) rfl rfl) (hLast h2 (i := i + 10) hi ?_)
    simp only [asI_mk', asB_mk, asP_mk, asA_mk, asM_mk, asSl_mk, asStr_mk, tup2_mk, tup3_mk, agg1_mk, agg2_mk, agg3_mk, agg4_mk, asAggm, unCons_mk, unNil_mk, asTup_mk, extractD0, extractD1, List.toList_toArray, nilP_mk, add_mk, Nat.zero_add, Nat.add_zero, condT, condF, Bool.not_true, Bool.not_false, Option.isNone_some, Option.isNone_none]
    refine h2.put (i := 1) rfl (by simp [cyCells]) fun H11 h3 => h3.put (i := 1) rfl (by simp [cyCells]) fun H12 h4 => ?_
    have h5 := (St.less h4).refact (i := 8) rfl hcok'
    exact hK { x with tp := q1, tc := n1, op := op, oc := oc } H12 h5
  refine bif_pos hcy ?_
  have hyl : y < (outsOf p1).length := by omega
  have htk := outPick_take (u := c.sus) hyl
  intro R38 hR38
  have next : ∀ op' oc' H', St H0 (Prt.row 3 q2 (outsOf p1).length n2 (cel outC (outsOf p1)) :: Prt.one b (.cells (cyCells hb { c with told := ⟨c.stir, r1.rows, outPick c.sus ((outsOf p1).take (y + 1)), true⟩ } { x with tp := q1, tc := n1, op := op', oc := oc' }) x.T (0, 0)) :: Shk x.kb c.sk :: PaintP x.pb hb p1 :: MkP x.mb hb x.pb m1 :: RcP x.rb hb x.pb r1 :: SwP x.ST x.sb hb x.pb c.pl c.e :: RowsP q1 n1 r1.rows :: Prt.row 3 op' (outPick c.sus ((outsOf p1).take (y + 1))).length oc' (cel outC (outPick c.sus ((outsOf p1).take (y + 1)))) :: Prt.pure c.ok :: M) H' → R38 H' := fun op' oc' H' h' => by
    refine hR38 H' ?_
    rw [wrap_i64 (by omega) (by omega)]
    exact ⟨⟨y + 1, op', oc', by omega, by omega, h'⟩, by (try dsimp only); omega⟩
  refine idxS outC_len (noId, 0) (h1.row_rd (i := 0) rfl) (by omega) (by omega) hcy fun b1 o1 _ hl1 hcc => ?_
  have c0 := hcc 0 (by omega)
  have c1 := hcc 1 (by omega)
  have c2 := hcc 2 (by omega)
  rw [Int.toNat_natCast] at c0 c1 c2
  generalize (outsOf p1).getD y (noId, 0) = el at c0 c1 c2 htk
  simp only [asI_mk', asB_mk, asP_mk, asA_mk, asM_mk, asSl_mk, asStr_mk, tup2_mk, tup3_mk, agg1_mk, agg2_mk, agg3_mk, agg4_mk, asAggm, unCons_mk, unNil_mk, asTup_mk, extractD0, extractD1, List.toList_toArray, nilP_mk, add_mk, Nat.zero_add, Nat.add_zero, condT, condF, Bool.not_true, Bool.not_false, Option.isNone_some, Option.isNone_none]
  refine ldI_of c0 (ldI_of c1 (ldI_of c2 ?_))
  intro b44 hb44
  have h2 := h1.alloc (o := .cells #[.int .i64 0, .int .u64 0, .int .i64 0] ty_api_Out) hb44
  refine h2.put (i := 0) rfl (by simp) fun H3 h3 => h3.put (i := 0) rfl (by simp) fun H4 h4 => h4.put (i := 0) rfl (by simp) fun H5 h5 => ?_
  refine ldI_of (h5.cell (i := 0) rfl rfl) (ldI_of (h5.cell (i := 2) rfl rfl) ?_)
  by_cases hgt : c.sus < el.2
  · rw [if_pos hgt] at htk
    refine bif_pos hgt ?_
    refine ldSl_of (h5.cell (i := 2) rfl rfl) (ldI_of (h5.cell (i := 0) rfl rfl) (ldI_of (h5.cell (i := 0) rfl rfl) (ldI_of (h5.cell (i := 0) rfl rfl) ?_)))
    intro b59 hb59
    have h6 := h5.alloc (o := .cells #[.int .i64 el.1.n, .int .u64 el.1.s, .int .i64 el.2] ty_api_Out) hb59
    refine ⟨ldSl_of (h6.cell (i := 3) rfl rfl) rfl, ?_⟩
    refine h6.app (i := 10) rfl tu_ty_Sapi_Out tu_ty_Sapi_Out ti_ty_api_Out rfl (by decide) (h6.one_rd (i := 0) (n := 1) rfl rfl) (fun z hz => by simp at hz; rcases hz with rfl | rfl | rfl <;> rfl) (by dsimp only; omega) fun p' cap' H7 h7 => ?_
    simp only [asI_mk', asB_mk, asP_mk, asA_mk, asM_mk, asSl_mk, asStr_mk, tup2_mk, tup3_mk, agg1_mk, agg2_mk, agg3_mk, agg4_mk, asAggm, unCons_mk, unNil_mk, asTup_mk, extractD0, extractD1, List.toList_toArray, nilP_mk, add_mk, Nat.zero_add, Nat.add_zero, condT, condF, Bool.not_true, Bool.not_false, Option.isNone_some, Option.isNone_none]
    refine h7.put (i := 3) rfl (by simp [cyCells]) fun H8 h8 => ?_
    have e2 : (outPick c.sus ((outsOf p1).take y)).length + 1 = (outPick c.sus ((outsOf p1).take (y + 1))).length := by rw [htk]; simp
    have e1 : cel outC (outPick c.sus ((outsOf p1).take y)) ++ (#[Value.int .i64 el.1.n, .int .u64 el.1.s, .int .i64 el.2] : Array Value).toList = cel outC (outPick c.sus ((outsOf p1).take (y + 1))) := by rw [htk, cel_append]; rfl
    rw [e1, e2] at h8
    exact next p' cap' H8 (St.less (St.less h8))
  · rw [if_neg hgt, List.append_nil] at htk
    refine bif_neg hgt ?_
    rw [← htk] at h5
    exact next op oc H5 (St.less h5)
end
end Go.Proofs.YtojcacejgbnfkaaGreat

namespace Go.Proofs.YtojcacejgbnfkaaGreat
set_option linter.unusedSimpArgs false
set_option linter.unusedVariables false
open Go
section
variable {H0 H : Hp} {L M N : List Prt} {i j k b hb : Nat} {s : Hs} {c : Cy} {x : CyX} {stir : Int} {K : Value → Hp → Prop}
theorem cyStepC {n : Nat} (h : St H0 L H) (hi : L[i]? = some (HeapP hb s)) (hk : L[k]? = some (CyP b hb c)) (hik : i ≠ k) (hlt : c.lt n) (hn : n ≤ 600000)
    (hK : ∀ fp fc H', St H0 (Prt.row 1 fp (cyStep s c stir).1.1.length fc ((cyStep s c stir).1.1.map (Value.int .u64)) :: (L.set i (HeapP hb (cyStep s c stir).2.1)).set k (CyP b hb (cyStep s c stir).2.2)) H' → K (.tuple #[.slice fp (cyStep s c stir).1.1.length fc, .bool (cyStep s c stir).1.2]) H') :
    hcall PR f_cycle_Cycle_Step ⟨[.pointer (some ⟨b, 0, none⟩), .int .u64 stir]⟩ H K := by
  have hs0 := heap_ok h hi
  have hc0 := cy_ok h hk
  have hwk := hc0.work
  have hil := ltOfGet hi
  have hkl := ltOfGet hk
  apply den_cycle_Cycle_Step
  unfold B_cycle_Cycle_Step
  refine ⟨fun fP fL fC t H' => ∃ (y : Nat) (fr : List Int) (s' : Hs) (c' : Cy), t = y ∧ (y : Int) ≤ c.work ∧ fL = fr.length ∧ fr.length ≤ y ∧ c'.lt (n + 7 * y) ∧ c'.work = c.work ∧ cySteps stir (c.work.toNat - y) s' c' fr = cyStep s c stir ∧
      St H0 (Prt.row 1 fP fr.length fC (fr.map (Value.int .u64)) :: (L.set i (HeapP hb s')).set k (CyP b hb c')) H',
    fun _ _ _ t _ => (c.work - t).toNat, ⟨0, [], s, c, rfl, by have := hc0.work; omega, rfl, by simp, hlt, rfl, rfl, ?_⟩, ?_⟩
  · have h1 := h.row (H' := _) (Own.nil 1) ((Goes.refl Nothing _).less fun c hc => absurd hc blk_none)
    rw [List.set_self hi, List.set_self hk]
    exact h1
  intro fP fL fC t H1
  rintro ⟨y, fr, s', c', rfl, hy, rfl, hfr, hlt', hw, hst, h1⟩
  have hi1 : ((L.set i (HeapP hb s')).set k (CyP b hb c'))[i]? = some (HeapP hb s') := by simp [List.getElem?_set, hil, hik, Ne.symm hik]
  have hk1 : (Prt.row 1 fP fr.length fC (fr.map (Value.int .u64)) :: (L.set i (HeapP hb s')).set k (CyP b hb c'))[k + 1]? = some (CyP b hb c') := by simp [List.getElem?_set, hkl]
  have hs1 := heap_ok (i := i + 1) h1 hi1
  have hc1 := cy_ok h1 hk1
  obtain ⟨x, g, _⟩ := cyOpened h1 hk1
  have g : St H0 (cyParts b hb c' x ++ (Prt.row 1 fP fr.length fC (fr.map (Value.int .u64)) :: ((L.set i (HeapP hb s')).set k (CyP b hb c')).set k .nil)) H1 := g
  rw [List.set_set] at g
  have hiM : ((L.set i (HeapP hb s')).set k .nil)[i]? = some (HeapP hb s') := by simp [List.getElem?_set, hil, hik, Ne.symm hik]
  have shut : ∀ (fP : Option Addr) (fr : List Int) (fC : Nat) (s2 : Hs) (c2 : Cy) (H' : Hp), (∃ x', St H0 (cyParts b hb c2 x' ++ (Prt.row 1 fP fr.length fC (fr.map (Value.int .u64)) :: (L.set i (HeapP hb s2)).set k .nil)) H') → St H0 (Prt.row 1 fP fr.length fC (fr.map (Value.int .u64)) :: (L.set i (HeapP hb s2)).set k (CyP b hb c2)) H' := fun fP fr fC s2 c2 H' ⟨x', g'⟩ => by
    have g'' : St H0 ([] ++ (cyParts b hb c2 x' ++ (Prt.row 1 fP fr.length fC (fr.map (Value.int .u64)) :: L.set i (HeapP hb s2)).set (k + 1) .nil)) H' := g'
    have h3 := cyShut (N := []) (k := k + 1) (B := (L.set i (HeapP hb s2))[k]?.getD .nil) g'' (by simp [List.getElem?_set, hkl, hik])
    exact h3
  simp only [asI_mk', asB_mk, asP_mk, asA_mk, asM_mk, asSl_mk, asStr_mk, tup2_mk, tup3_mk, agg1_mk, agg2_mk, agg3_mk, agg4_mk, asAggm, unCons_mk, unNil_mk, asTup_mk, extractD0, extractD1, List.toList_toArray, nilP_mk, add_mk, Nat.zero_add, Nat.add_zero, condT, condF, Bool.not_true, Bool.not_false, Option.isNone_some, Option.isNone_none]
  refine ldI_of (g.cell (i := 0) rfl rfl) ?_
  by_cases hyw : (y : Int) < c.work
  rotate_left
  · refine bif_neg (by rw [hw]; exact hyw) ?_
    have e0 : c.work.toNat - y = 0 := by omega
    rw [e0] at hst
    have e : cyStep s c stir = ((fr, false), s', c') := hst.symm
    rw [e] at hK
    exact hK fP fC H1 h1
  refine bif_pos (by rw [hw]; exact hyw) ?_
  have e1 : c.work.toNat - y = (c.work.toNat - (y + 1)) + 1 := by omega
  rw [e1] at hst
  intro R12 hR12
  have hult := hlt'.unit (stir := stir) hs1 hc1
  have huw := unit_work (s := s') (stir := stir) hc1
  have go : ∀ (f : Int) (s2 : Hs) (c2 : Cy) (fr' : List Int), cyUnit s' c' stir = ⟨none, f, s2, c2⟩ → fr' = (if f ≠ 0 then fr ++ [f] else fr) → ∀ (fP' : Option Addr) (fC' : Nat) (H' : Hp), (∃ x', St H0 (cyParts b hb c2 x' ++ (Prt.row 1 fP' fr'.length fC' (fr'.map (Value.int .u64)) :: (L.set i (HeapP hb s2)).set k .nil)) H') → R12 fP' fr'.length fC' H' := fun f s2 c2 fr' e ef fP' fC' H' g' => by
    rw [e] at hult huw
    rw [steps_go e] at hst
    refine hR12 fP' fr'.length fC' H' ?_
    rw [wrap_i64 (by omega) (by omega)]
    refine ⟨⟨y + 1, fr', s2, c2, by omega, by omega, rfl, ?_, hult.mono (by omega), huw.1.trans hw, by rw [ef]; exact hst, shut fP' fr' fC' s2 c2 H' g'⟩, by (try dsimp only); omega⟩
    rw [ef]
    split
    · simp; omega
    · omega
  have stop : ∀ (v : Bool) (s2 : Hs) (c2 : Cy), cyUnit s' c' stir = ⟨some v, 0, s2, c2⟩ → ∀ H' : Hp, (∃ x', St H0 (cyParts b hb c2 x' ++ (Prt.row 1 fP fr.length fC (fr.map (Value.int .u64)) :: (L.set i (HeapP hb s2)).set k .nil)) H') → K (.tuple #[.slice fP fr.length fC, .bool v]) H' := fun v s2 c2 e H' g' => by
    have e2 : cyStep s c stir = ((fr, v), s2, c2) := by rw [← hst]; exact steps_stop e
    rw [e2] at hK
    exact hK fP fC H' (shut fP fr fC s2 c2 H' g')
  have hlen := hc1.len
  have hsize := hc1.size
  have hok2 := (hc1.unit (stir := stir) hs1).2
  refine cyStateP g ?_
  simp only [asI_mk', asB_mk, asP_mk, asA_mk, asM_mk, asSl_mk, asStr_mk, tup2_mk, tup3_mk, agg1_mk, agg2_mk, agg3_mk, agg4_mk, asAggm, unCons_mk, unNil_mk, asTup_mk, extractD0, extractD1, List.toList_toArray, nilP_mk, add_mk, Nat.zero_add, Nat.add_zero, condT, condF, Bool.not_true, Bool.not_false, Option.isNone_some, Option.isNone_none]
  rcases hc1.sixth with e | ⟨e, h3⟩ | ⟨e, h3⟩ | ⟨e, e3⟩ | ⟨e, e4⟩ | e
  · -- it begins
    have eu := unit0 (s := s') (stir := stir) e
    rw [eu] at hok2
    refine bif_eq e ?_
    refine ldP_of (g.cell (i := 0) rfl rfl) (pTurnC g (j := 2) rfl fun H2 g2 => ?_)
    refine ldP_of (g2.cell (i := 0) rfl rfl) (shkBeginC g2 (i := 1) rfl (by omega) fun v H3 g3 => ?_)
    simp only [asI_mk', asB_mk, asP_mk, asA_mk, asM_mk, asSl_mk, asStr_mk, tup2_mk, tup3_mk, agg1_mk, agg2_mk, agg3_mk, agg4_mk, asAggm, unCons_mk, unNil_mk, asTup_mk, extractD0, extractD1, List.toList_toArray, nilP_mk, add_mk, Nat.zero_add, Nat.add_zero, condT, condF, Bool.not_true, Bool.not_false, Option.isNone_some, Option.isNone_none]
    have g4 := g3.refact (i := 8) rfl hok2
    exact stop false _ _ eu H3 ⟨x, g4⟩
  · have eu := unit12 (s := s') (stir := stir) e h3
    refine bif_ne (by omega) ?_
    intro R29 hR29
    have hR : R29 true H1 := by
      refine hR29 true H1 ?_
      simp only [asI_mk', asB_mk, asP_mk, asA_mk, asM_mk, asSl_mk, asStr_mk, tup2_mk, tup3_mk, agg1_mk, agg2_mk, agg3_mk, agg4_mk, asAggm, unCons_mk, unNil_mk, asTup_mk, extractD0, extractD1, List.toList_toArray, nilP_mk, add_mk, Nat.zero_add, Nat.add_zero, condT, condF, Bool.not_true, Bool.not_false, Option.isNone_some, Option.isNone_none]
      refine ldP_of (g.cell (i := 0) rfl rfl) (shkPhaseC g (i := 1) rfl ?_)
      simp only [asI_mk', asB_mk, asP_mk, asA_mk, asM_mk, asSl_mk, asStr_mk, tup2_mk, tup3_mk, agg1_mk, agg2_mk, agg3_mk, agg4_mk, asAggm, unCons_mk, unNil_mk, asTup_mk, extractD0, extractD1, List.toList_toArray, nilP_mk, add_mk, Nat.zero_add, Nat.add_zero, condT, condF, Bool.not_true, Bool.not_false, Option.isNone_some, Option.isNone_none]
      refine bif_neq h3 (stop false _ _ eu H1 ⟨x, g⟩)
    rcases e with e | e
    · refine bif_eq e ?_
      rw [show (c'.state == 1) = true by rw [e]; rfl]
      exact hR
    · refine bif_ne (by omega) ?_
      rw [show (c'.state == 2) = true by rw [e]; rfl]
      exact hR
  · have eu := unit23 (s := s') (stir := stir) e h3
    refine bif_ne (by omega) ?_
    intro R29 hR29
    have hR : R29 true H1 := by
      refine hR29 true H1 ?_
      simp only [asI_mk', asB_mk, asP_mk, asA_mk, asM_mk, asSl_mk, asStr_mk, tup2_mk, tup3_mk, agg1_mk, agg2_mk, agg3_mk, agg4_mk, asAggm, unCons_mk, unNil_mk, asTup_mk, extractD0, extractD1, List.toList_toArray, nilP_mk, add_mk, Nat.zero_add, Nat.add_zero, condT, condF, Bool.not_true, Bool.not_false, Option.isNone_some, Option.isNone_none]
      refine ldP_of (g.cell (i := 0) rfl rfl) (shkPhaseC g (i := 1) rfl ?_)
      simp only [asI_mk', asB_mk, asP_mk, asA_mk, asM_mk, asSl_mk, asStr_mk, tup2_mk, tup3_mk, agg1_mk, agg2_mk, agg3_mk, agg4_mk, asAggm, unCons_mk, unNil_mk, asTup_mk, extractD0, extractD1, List.toList_toArray, nilP_mk, add_mk, Nat.zero_add, Nat.add_zero, condT, condF, Bool.not_true, Bool.not_false, Option.isNone_some, Option.isNone_none]
      refine bif_neqf h3 ?_
      have hc3 : ({ c' with st := 3, m := ⟨0, false, 0⟩ } : Cy).ok := ⟨hc1.len, hc1.size, hc1.ph, .inr ⟨.inl rfl, h3⟩, hc1.sus, hc1.work, hc1.p, ⟨Int.le_refl _, Int.le_refl _⟩, hc1.r, hc1.pl⟩
      refine g.put (i := 0) rfl (by simp [cyCells]) fun H2 g2 => ?_
      refine ldP_of (g2.cell (i := 0) rfl rfl) (mkBeginC g2 (k := 3) rfl fun H3 g3 => ?_)
      have g4 := g3.refact (i := 8) rfl hc3
      refine cyMarksP (i := i + 1) (c := { c' with st := 3, m := ⟨0, false, 0⟩ }) (x := x) g4 hiM hs1 hc3 ⟨rfl, h3⟩ fun H4 g5 => ?_
      exact go 0 _ _ fr eu (by rw [if_neg (by simp)]) fP fC H4 ⟨x, g5⟩
    rcases e with e | e
    · refine bif_eq e ?_
      rw [show (c'.state == 1) = true by rw [e]; rfl]
      exact hR
    · refine bif_ne (by omega) ?_
      rw [show (c'.state == 2) = true by rw [e]; rfl]
      exact hR
  all_goals
    refine bif_ne (by omega) ?_
    intro R29 hR29
    refine bif_ne (by omega) ?_
    rw [show (c'.state == 2) = false by rw [beq_eq_false_iff_ne]; omega]
    refine hR29 false H1 ?_
    simp only [condF]
  · have eu := unit3 (s := s') (stir := stir) e
    refine bif_eq e (cyMarksP (i := i + 1) g hiM hs1 hc1 e3 fun H4 g5 => ?_)
    exact go 0 _ _ fr eu (by rw [if_neg (by simp)]) fP fC H4 ⟨x, g5⟩
  · have eu := unit4 (s := s') (stir := stir) e
    refine bif_ne (by omega) (bif_eq e (cyReachesP (i := i + 1) g hiM hs1 hc1 e4 hlt' (by have := hc0.work; omega) fun x' H4 g5 => ?_))
    exact go 0 _ _ fr eu (by rw [if_neg (by simp)]) fP fC H4 ⟨x', g5⟩
  · refine bif_ne (by omega) (bif_ne (by omega) (bif_eq e ?_))
    refine ldP_of (g.cell (i := 0) rfl rfl) (swStepC g (i := i + 10) (j := 2) (k := 5) hiM rfl rfl (by omega) (by omega) (by omega) fun H2 g2 => ?_)
    simp only [asI_mk', asB_mk, asP_mk, asA_mk, asM_mk, asSl_mk, asStr_mk, tup2_mk, tup3_mk, agg1_mk, agg2_mk, agg3_mk, agg4_mk, asAggm, unCons_mk, unNil_mk, asTup_mk, extractD0, extractD1, List.toList_toArray, nilP_mk, add_mk, Nat.zero_add, Nat.add_zero, condT, condF, Bool.not_true, Bool.not_false, Option.isNone_some, Option.isNone_none]
    have g2 : St H0 (Prt.one b (.cells (cyCells hb c' x) x.T (0, 0)) :: Shk x.kb c'.sk :: PaintP x.pb hb (swStep s' c'.p c'.pl c'.e).2.2.1 :: MkP x.mb hb x.pb c'.m :: RcP x.rb hb x.pb c'.r :: SwP x.ST x.sb hb x.pb (swStep s' c'.p c'.pl c'.e).2.2.2 c'.e :: RowsP x.tp x.tc c'.told.rows :: Prt.row 3 x.op c'.told.outs.length x.oc (cel outC c'.told.outs) :: Prt.pure c'.ok :: Prt.row 1 fP fr.length fC (fr.map (Value.int .u64)) :: ((L.set i (HeapP hb s')).set k .nil).set i (HeapP hb (swStep s' c'.p c'.pl c'.e).2.1)) H2 := g2
    rw [List.set_comm _ _ (Ne.symm hik), List.set_set] at g2
    cases hsw : (swStep s' c'.p c'.pl c'.e).1.2
    · have eu := unit5 (s := s') (stir := stir) e hsw
      rw [eu] at hok2
      simp only [Bool.not_false, condT]
      refine ldP_of (g2.cell (i := 0) rfl rfl) (shkEndC g2 (i := 1) rfl fun v H3 g3 => ?_)
      simp only [asI_mk', asB_mk, asP_mk, asA_mk, asM_mk, asSl_mk, asStr_mk, tup2_mk, tup3_mk, agg1_mk, agg2_mk, agg3_mk, agg4_mk, asAggm, unCons_mk, unNil_mk, asTup_mk, extractD0, extractD1, List.toList_toArray, nilP_mk, add_mk, Nat.zero_add, Nat.add_zero, condT, condF, Bool.not_true, Bool.not_false, Option.isNone_some, Option.isNone_none]
      refine g3.put (i := 0) rfl (by simp [cyCells]) fun H4 g4 => ?_
      have g5 := g4.refact (i := 8) rfl hok2
      exact stop true _ _ eu H4 ⟨x, g5⟩
    · have eu := unit6 (s := s') (stir := stir) e hsw
      rw [eu] at hok2
      simp only [Bool.not_true, condF]
      have g3 := g2.refact (i := 8) rfl hok2
      by_cases hf : (swStep s' c'.p c'.pl c'.e).1.1 = 0
      · refine bif_neqf hf ?_
        exact go _ _ _ fr eu (by rw [if_neg (by simpa using hf)]) fP fC H2 ⟨x, g3⟩
      · refine bif_neq hf ?_
        refine lit_ty_Suint64 (m := 1) (c := #[.int .u64 (swStep s' c'.p c'.pl c'.e).1.1]) (g3.row_own (i := 9) rfl) rfl (by intro z hz; simp at hz; rw [hz]; rfl) (by have := hc0.work; omega) fun p' cap' H4 ho hg => ?_
        simp only [asI_mk', asB_mk, asP_mk, asA_mk, asM_mk, asSl_mk, asStr_mk, tup2_mk, tup3_mk, agg1_mk, agg2_mk, agg3_mk, agg4_mk, asAggm, unCons_mk, unNil_mk, asTup_mk, extractD0, extractD1, List.toList_toArray, nilP_mk, add_mk, Nat.zero_add, Nat.add_zero, condT, condF, Bool.not_true, Bool.not_false, Option.isNone_some, Option.isNone_none]
        have g4 := g3.row_to (i := 9) rfl ho hg
        have := go _ _ _ (fr ++ [(swStep s' c'.p c'.pl c'.e).1.1]) eu (by rw [if_pos hf]) p' cap' H4 ⟨x, by rw [List.map_append, List.length_append]; exact g4⟩
        rw [List.length_append] at this
        exact this
end
end Go.Proofs.YtojcacejgbnfkaaGreat

namespace Go.Proofs.YtojcacejgbnfkaaGreat
set_option linter.unusedSimpArgs false
set_option linter.unusedVariables false
open Go
section
variable {H0 H : Hp} {L M N : List Prt} {i j k b hb : Nat} {s : Hs} {c : Cy} {x : CyX} {K : Value → Hp → Prop}
theorem cyNewC {n grey sus work : Int} (h : St H0 L H) (hi : L[i]? = some (HeapP hb s)) (hnode : s.node = 1) (hn : 1 ≤ n ∧ n ≤ 4) (hg : 1 ≤ grey ∧ grey ≤ 64) (hs : 0 ≤ sus ∧ sus ≤ 40) (hw : 1 ≤ work ∧ work ≤ 64)
    (hK : ∀ b H', St H0 (CyP b hb (newCy n grey sus work s.last) :: L) H' → K (.tuple #[.pointer (some ⟨b, 0, none⟩), .int .i64 0]) H') :
    hcall PR f_cycle_New ⟨[.pointer (some ⟨hb, 0, none⟩), .int .i64 n, .int .i64 grey, .int .i64 sus, .int .i64 work]⟩ H K := by
  apply den_cycle_New
  unfold B_cycle_New
  simp only [Option.isNone_some, condF]
  refine bif_neg (by omega) (bif_neg (by omega) (bif_neg (by omega) (bif_neg (by omega) ?_)))
  refine shakeNew_ok hn.1 hn.2 fun kb F H1 ha hg1 => ?_
  have h1 := h.new ha hg1
  simp only [asI_mk', asB_mk, asP_mk, asA_mk, asM_mk, asSl_mk, asStr_mk, tup2_mk, tup3_mk, agg1_mk, agg2_mk, agg3_mk, agg4_mk, asAggm, unCons_mk, unNil_mk, asTup_mk, extractD0, extractD1, List.toList_toArray, nilP_mk, add_mk, Nat.zero_add, Nat.add_zero, condT, condF, Bool.not_true, Bool.not_false, Option.isNone_some, Option.isNone_none]
  refine pNewOk h1 hg.1 hg.2 fun pb H2 h2 => ?_
  simp only [asI_mk', asB_mk, asP_mk, asA_mk, asM_mk, asSl_mk, asStr_mk, tup2_mk, tup3_mk, agg1_mk, agg2_mk, agg3_mk, agg4_mk, asAggm, unCons_mk, unNil_mk, asTup_mk, extractD0, extractD1, List.toList_toArray, nilP_mk, add_mk, Nat.zero_add, Nat.add_zero, condT, condF, Bool.not_true, Bool.not_false, Option.isNone_some, Option.isNone_none]
  refine bif_neqf rfl (bif_neqf rfl (hNode h2 (i := i + 2) hi ?_))
  simp only [asI_mk', asB_mk, asP_mk, asA_mk, asM_mk, asSl_mk, asStr_mk, tup2_mk, tup3_mk, agg1_mk, agg2_mk, agg3_mk, agg4_mk, asAggm, unCons_mk, unNil_mk, asTup_mk, extractD0, extractD1, List.toList_toArray, nilP_mk, add_mk, Nat.zero_add, Nat.add_zero, condT, condF, Bool.not_true, Bool.not_false, Option.isNone_some, Option.isNone_none]
  rw [hnode]
  intro b21 hb21
  have h3 := h2.alloc (o := .cells #[ptrV kb, ptrV hb, ptrV pb, .pointer none, .pointer none, .pointer none, .int .i64 1, .int .i64 0, .int .i64 sus, .int .i64 work, .int .u64 0, .int .u64 0, .int .u64 0, .slice none 0 0, .slice none 0 0, .bool false] ty_cycle_Cycle) hb21
  refine mkNewC h3 fun mb H4 h4 => ?_
  simp only [asI_mk', asB_mk, asP_mk, asA_mk, asM_mk, asSl_mk, asStr_mk, tup2_mk, tup3_mk, agg1_mk, agg2_mk, agg3_mk, agg4_mk, asAggm, unCons_mk, unNil_mk, asTup_mk, extractD0, extractD1, List.toList_toArray, nilP_mk, add_mk, Nat.zero_add, Nat.add_zero, condT, condF, Bool.not_true, Bool.not_false, Option.isNone_some, Option.isNone_none]
  refine h4.put (i := 1) rfl (by simp) fun H5 h5 => ?_
  refine rcNewC h5 fun rb H6 h6 => ?_
  simp only [asI_mk', asB_mk, asP_mk, asA_mk, asM_mk, asSl_mk, asStr_mk, tup2_mk, tup3_mk, agg1_mk, agg2_mk, agg3_mk, agg4_mk, asAggm, unCons_mk, unNil_mk, asTup_mk, extractD0, extractD1, List.toList_toArray, nilP_mk, add_mk, Nat.zero_add, Nat.add_zero, condT, condF, Bool.not_true, Bool.not_false, Option.isNone_some, Option.isNone_none]
  refine h6.put (i := 2) rfl (by simp) fun H7 h7 => ?_
  refine swNewC h7 (i := i + 5) (pb := pb) hi fun sb H8 h8 => ?_
  simp only [asI_mk', asB_mk, asP_mk, asA_mk, asM_mk, asSl_mk, asStr_mk, tup2_mk, tup3_mk, agg1_mk, agg2_mk, agg3_mk, agg4_mk, asAggm, unCons_mk, unNil_mk, asTup_mk, extractD0, extractD1, List.toList_toArray, nilP_mk, add_mk, Nat.zero_add, Nat.add_zero, condT, condF, Bool.not_true, Bool.not_false, Option.isNone_some, Option.isNone_none]
  refine h8.put (i := 3) rfl (by simp) fun H9 h9 => ?_
  have h10 := h9.say (p := (newCy n grey sus work s.last).ok) (newCy_ok hn hg hs hw)
  have h11 := h10.row (H' := _) (Own.nil 3) ((Goes.refl Nothing _).less fun c hc => absurd hc blk_none)
  have h12 := h11.say (p := ([] : List RcQ).map (·.1) = []) rfl
  have h13 := St.gather (M := []) h12
  have h14 := h13.row (H' := _) (Own.nil 2) ((Goes.refl Nothing _).less fun c hc => absurd hc blk_none)
  have h15 : St H0 (RowsP none 0 [] :: Prt.row 3 none 0 0 [] :: _) H9 := St.gatherEx (M := fun qs : List RcQ => [Prt.row 2 none qs.length 0 (cel rcRowC qs), Prt.list (qs.map rcRowP), Prt.pure (qs.map (·.1) = [])]) [] h14
  have h16 := h15.pick 9 [6, 8, 7, 5, 4, 3, 0, 1, 2] rfl rfl
  exact hK b21 H9 (St.gatherEx (M := cyParts b21 hb (newCy n grey sus work s.last)) ⟨kb, pb, mb, rb, sb, ty_sweep_Sweeper, none, 0, none, 0, ty_cycle_Cycle⟩ h16)

end
end Go.Proofs.YtojcacejgbnfkaaGreat

namespace Go.Proofs.YtojcacejgbnfkaaGreat
set_option linter.unusedSimpArgs false
set_option linter.unusedVariables false
open Go
section
variable {s : Hs} {c : Cy} {stir : Int} {n m : Nat} {fr : List Int}
theorem sw_true {p : Ps} {pl e : Int} (h : (swStep s p pl e).1.2 = true) : (hNext s pl).2 = true ∧ (hNext s pl).1 ≤ e ∧ (swStep s p pl e).2.2.2 = (hNext s pl).1 := by
  unfold swStep at h ⊢
  split at h
  · cases h
  · rename_i hc
    rw [if_neg hc]
    refine ⟨?_, ?_, ?_⟩
    · cases hq : (hNext s pl).2
      · exact absurd (.inl hq) hc
      · rfl
    · exact Int.not_lt.1 fun h' => hc (.inr h')
    · split <;> rfl
end
end Go.Proofs.YtojcacejgbnfkaaGreat

namespace Go.Proofs.YtojcacejgbnfkaaGreat
set_option linter.unusedSimpArgs false
set_option linter.unusedVariables false
open Go
def Low (p : Ps) : Prop := ∀ k r g, mlook p.marks k = some (r, g) → r ≤ 9
structure SkGood (k : Sk) : Prop where
  none : k.ph = 0 → ∀ m : Int, isOf k.ar m = false
  arm : k.ph = 1 → ∃ m : Int, 0 ≤ m ∧ m < k.ar.length ∧ isOf k.ar m = false
  scan : k.ph = 2 → ∃ m : Int, 0 ≤ m ∧ m < k.sc.length ∧ isOf k.sc m = false
def RowFew (s : Hs) (c : Rc) : Prop := ∀ w, c.now = some w → w.waits.length ≤ w.seen.length ∧ ∀ k ∈ w.seen, hGet s k ≠ none
/-- A yard's numbers. -/
structure Nine (s : Hs) (c : Cy) : Prop where
  most : s.most ≤ 27
  din : ∀ k o, hGet s k = some o → o.din ≤ 9
  low : Low c.p
  row : c.st = 4 → RowFew s c.r
  sk : SkGood c.sk

section
variable {s s' : Hs} {p q : Ps} {x : Id} {r k : Int} {m : Mk} {c : Cy} {sl : List (List Id)} {stir : Int} {w : RcRow} {u : Int}
theorem clamp_low (h : r ≤ 9) : clampR r ≤ 9 := by
  unfold clampR
  repeat' split
  all_goals omega
theorem Low.shade (h : Low p) (hr : r ≤ 9) : Low (pShade s p x r) := by
  intro k w g e
  have h9 := clamp_low hr
  rcases shade_marks (s := s) (p := p) (x := x) (r := r) with hm | ⟨a1, a2, a3, hm, _⟩
  · rw [hm] at e; exact h k w g e
  · rw [hm, mlook_mput] at e
    by_cases ea : k = x.s
    · rw [if_pos ea] at e; cases e; exact h9
    · rw [if_neg ea] at e; exact h k w g e
theorem Low.shades {l : List Id} (h : Low p) (hr : r ≤ 9) : Low (pShades s p l r) := by
  unfold pShades
  induction l generalizing p with
  | nil => exact h
  | cons y l ih => exact ih (h.shade hr)
theorem Low.same (h : Low p) (e : q.marks = p.marks) : Low q := fun k r g hk => h k r g (by rw [← e]; exact hk)
theorem Low.put (h : Low p) (hr : r ≤ 9) {g : Bool} : Low { p with marks := mput p.marks k (r, g) } := fun j w g' e => by
  simp only at e
  rw [mlook_mput] at e
  by_cases ea : j = k
  · rw [if_pos ea] at e; cases e; exact hr
  · rw [if_neg ea] at e; exact h j w g' e
theorem Low.scan (h : Low p) : Low (pScan s p k).2 := by
  unfold pScan
  split
  · rename_i o w hg hl
    exact (h.put (h k w true hl)).shades (h k w true hl)
  · exact h
theorem Low.see (h : Low p) (hd : ∀ k o, hGet s k = some o → o.din ≤ 9) : Low (mkSee s p k) := by
  unfold mkSee
  split
  · rename_i o hg
    split
    · exact h.shade (hd _ o hg)
    · exact h
  · exact h
theorem Low.step (h : Low p) (hd : ∀ k o, hGet s k = some o → o.din ≤ 9) : Low (mkStep s p m).2.1 := by
  unfold mkStep
  split
  · exact (h.same pPop_marks.1).scan
  · split
    · exact h.scan
    · split
      · exact h.same rfl
      · split
        · exact h
        · exact h.see hd
theorem Low.forget (h : Low p) : Low (pForget p k) := fun j r g e => by
  simp only [pForget] at e
  rw [mlook_mdel] at e
  split at e
  · cases e
  · exact h j r g e
theorem Low.blacken (h : Low p) : Low (pBlacken s p k) := by
  unfold pBlacken
  split
  · exact h.put (by omega)
  · exact h
theorem Low.turn : Low (pTurn p) := fun k r g e => by cases e

theorem isOf_not_all {l : List Bool} (h : l.all id ≠ true) : ∃ m : Int, 0 ≤ m ∧ m < l.length ∧ isOf l m = false := by
  have : ∃ x ∈ l, x = false := by
    refine Classical.byContradiction fun hno => h ?_
    rw [List.all_eq_true]
    intro x hx
    cases x
    · exact absurd ⟨false, hx, rfl⟩ hno
    · rfl
  obtain ⟨x, hx, rfl⟩ := this
  obtain ⟨j, hj, e⟩ := List.mem_iff_getElem.1 hx
  refine ⟨j, by omega, by omega, ?_⟩
  cases hi : isOf l (j : Int)
  · rfl
  · rw [isOf_iff] at hi
    have := hi.2.2
    rw [Int.toNat_natCast, List.getD_eq_getElem?_getD, List.getElem?_eq_getElem hj, e] at this
    cases this
theorem SkGood.ans {k : Sk} (h : SkGood k) (hf : Flags k) (hl : k.sc.length = k.ar.length) (m : Int) : SkGood (k.ans m).1 := by
  unfold Sk.ans
  split
  · exact h
  · rename_i hm
    split
    · rename_i hp
      split
      · exact h
      · refine ⟨fun h0 => ?_, fun h1 => ?_, fun h2 => ⟨m, by omega, by simp only; omega, hf.low (by omega) m⟩⟩
        · simp only at h0
          split at h0 <;> omega
        · simp only at h1 ⊢
          split at h1
          · omega
          · rename_i hall
            exact isOf_not_all hall
    · split
      · rename_i hp
        split
        · exact h
        · refine ⟨fun h0 => ?_, fun h1 => ?_, fun h2 => ?_⟩
          · simp only at h0
            split at h0 <;> omega
          · simp only at h1
            split at h1 <;> omega
          · simp only at h2 ⊢
            split at h2
            · omega
            · rename_i hall
              exact isOf_not_all hall
      · exact h
theorem SkGood.begun {k : Sk} (h : SkGood k) (h2 : 2 ≤ k.ar.length) : SkGood k.begun := by
  unfold Sk.begun
  split
  · rename_i h0
    refine ⟨fun h => by simp only at h; omega, fun _ => ⟨0, Int.le_refl _, by simp only [List.length_set]; omega, ?_⟩, fun h => by simp only at h; omega⟩
    simp only
    have e := isOf_set (l := k.ar) (m := ((k.ar.length - 1 : Nat) : Int)) (j := 0) ⟨by omega, by omega⟩
    rw [Int.toNat_natCast] at e
    rw [e, h.none h0 0, decide_eq_false (by omega)]
    rfl
  · exact h
theorem SkGood.ended {k : Sk} (h : SkGood k) : SkGood k.ended := by
  unfold Sk.ended
  split
  · exact ⟨fun _ m => isOf_rep, fun h => by simp only at h; omega, fun h => by simp only at h; omega⟩
  · exact h

theorem rcSee_few (h : w.waits.length ≤ w.seen.length) : (rcSee s p u w x).waits.length ≤ (rcSee s p u w x).seen.length := by
  unfold rcSee rcPut
  split
  · split
    · split
      · exact h
      · simp only [List.length_append, List.length_cons, List.length_nil]; omega
    · exact h
  · split
    · exact h
    · exact h
theorem rcSees_few : ∀ {l : List Id} {w : RcRow}, w.waits.length ≤ w.seen.length → (rcSees s p u w l).waits.length ≤ (rcSees s p u w l).seen.length
  | [], w, h => h
  | y :: l, w, h => rcSees_few (l := l) (w := rcSee s p u w y) (rcSee_few h)
theorem RowFew.step {c : Rc} (ho : s.ok) (h : RowFew s c) : RowFew s (rcStep s p c).2 := by
  have h1 := Rc.within.step (p := p) ho (fun w hw => (h w hw).2)
  refine fun w hw => ⟨?_, h1 w hw⟩
  clear h1
  have next : ∀ w, (rcNext s p c).2.now = some w → (∀ w, c.now = some w → w.waits.length ≤ w.seen.length) → w.waits.length ≤ w.seen.length := fun w hw hc => by
    unfold rcNext at hw
    split at hw
    · rw [rcEnd_now] at hw
      cases hw
    · split at hw
      · split at hw
        · cases hw; exact Nat.le_refl _
        · exact hc w hw
      · exact hc w hw
  have hc : ∀ w, c.now = some w → w.waits.length ≤ w.seen.length := fun w hw => (h w hw).1
  unfold rcStep at hw
  split at hw
  · rename_i w0 hw0
    split at hw
    · cases hw
      refine rcSees_few ?_
      have := hc w0 hw0
      simp only [List.length_dropLast]
      omega
    · exact next w hw hc
  · exact next w hw hc

theorem hFree_most : (hFree s k).2.most = s.most := by unfold hFree; split <;> rfl
theorem hFree_some {j : Int} {o : Ob} (h : hGet (hFree s k).2 j = some o) : hGet s j = some o := by
  rw [hFree_get] at h
  split at h
  · cases h
  · exact h
theorem Nine.unit (h : Nine s c) (hyd : YdOk s c sl) : Nine (cyUnit s c stir).s (cyUnit s c stir).c := by
  have hst := hyd.cok.state
  have hsz := hyd.cok.size
  have marks : ∀ c1 : Cy, Low c1.p → c1.st = 3 → SkGood c1.sk → Nine s (cyMarks s c1 stir) := fun c1 h1 h2 h3 => by
    unfold cyMarks
    split
    · exact ⟨h.most, h.din, h1.step h.din, fun h4 => by simp only at h4; omega, h3⟩
    · exact ⟨h.most, h.din, h1.step h.din, fun _ w hw => (by cases hw), h3⟩
  rcases hyd.cok.sixth with e | ⟨e, h3⟩ | ⟨e, h3⟩ | ⟨e, e1, _⟩ | ⟨e, e1, _⟩ | e
  · rw [unit0 e]
    exact ⟨h.most, h.din, Low.turn, fun h4 => by simp only at h4; omega, h.sk.begun (by omega)⟩
  · rw [unit12 e h3]; exact h
  · rw [unit23 e h3]; exact marks { c with st := 3, m := ⟨0, false, 0⟩ } h.low rfl h.sk
  · rw [unit3 e]; exact marks c h.low e1 h.sk
  · rw [unit4 e]
    unfold cyReaches
    split
    · exact ⟨h.most, h.din, h.low.step h.din, h.row, h.sk⟩
    · split
      · exact ⟨h.most, h.din, h.low.step h.din, fun h4 => (h.row h4).step hyd.ho, h.sk⟩
      · exact ⟨h.most, h.din, h.low.step h.din, fun h4 => by simp only at h4; omega, h.sk⟩
  · have sw : (swStep s c.p c.pl c.e).2.1.most ≤ 27 ∧ (∀ k o, hGet (swStep s c.p c.pl c.e).2.1 k = some o → o.din ≤ 9) ∧ Low (swStep s c.p c.pl c.e).2.2.1 := by
      unfold swStep
      split
      · exact ⟨h.most, h.din, h.low⟩
      · split
        · exact ⟨h.most, h.din, h.low⟩
        · exact ⟨by simp only; rw [hFree_most]; exact h.most, fun k o hg => h.din k o (hFree_some hg), h.low.forget⟩
    cases hs : (swStep s c.p c.pl c.e).1.2
    · rw [unit5 e hs]
      exact ⟨sw.1, sw.2.1, sw.2.2, fun h4 => by simp only at h4; omega, h.sk.ended⟩
    · rw [unit6 e hs]
      exact ⟨sw.1, sw.2.1, sw.2.2, fun h4 => by simp only at h4; omega, h.sk⟩
theorem Nine.steps : ∀ {n : Nat} {s : Hs} {c : Cy} {fr : List Int}, Nine s c → YdOk s c sl → Nine (cySteps stir n s c fr).2.1 (cySteps stir n s c fr).2.2
  | 0, s, c, fr, h, _ => h
  | n + 1, s, c, fr, h, hyd => by
    unfold cySteps
    split
    · exact h.unit hyd
    · exact Nine.steps (h.unit hyd) hyd.unit
theorem Nine.shake (h : Nine s c) (hyd : YdOk s c sl) {j : Int} {held : List Id} : Nine s (cyShake s c j held).2 := by
  have hs := h.sk.ans hyd.flags hyd.cok.len j
  unfold cyShake
  split
  · exact ⟨h.most, h.din, h.low.shades (by omega), h.row, hs⟩
  · exact ⟨h.most, h.din, h.low, h.row, hs⟩
/-- The heap changes, but loses none. -/
theorem Nine.grow (h : Nine s c) (h1 : s'.most = s.most) (h2 : ∀ k o, hGet s' k = some o → o.din ≤ 9) (h3 : ∀ k, hGet s k ≠ none → hGet s' k ≠ none) {p : Ps} (h4 : Low p) : Nine s' { c with p := p } :=
  ⟨by rw [h1]; exact h.most, h2, h4, fun h5 w hw => ⟨(h.row h5 w hw).1, fun k hk => h3 k ((h.row h5 w hw).2 k hk)⟩, h.sk⟩
theorem Nine.make (h : Nine s c) (ho : s.ok) {j : Int} (he : (hMake s 2 0).2.1 = 0) : Nine (hMake s 2 0).2.2 (cyBorn (hMake s 2 0).2.2 c j (hMake s 2 0).1) := by
  rcases hMake_split s 2 0 with ⟨hno, _⟩ | ⟨_, e1, e2, e3, e5, c0, e4⟩
  · exact absurd he hno
  have get := get_append ho e4 rfl
  have key : ∀ p, Low p → Nine (hMake s 2 0).2.2 { c with p := p } := fun p hp => h.grow e5 (fun k o hg => by
    rw [get] at hg
    split at hg
    · cases hg; simp
    · exact h.din k o hg) (fun k hk => by
    rw [get]
    split
    · simp
    · exact hk) hp
  unfold cyBorn
  split
  · refine key _ ?_
    split
    · exact h.low.shade (by omega)
    · exact h.low.blacken
  · exact key c.p h.low
theorem Nine.store (h : Nine s c) {j : Int} {z now : Id} {f : Int} {old : Id} : Nine (hSetRef s z.s f now).2.2 (cyStore (hSetRef s z.s f now).2.2 c j old now) := by
  have hh : (hSetRef s z.s f now).2.2.most = s.most ∧ (∀ k o, hGet (hSetRef s z.s f now).2.2 k = some o → o.din ≤ 9) ∧ (∀ k, hGet s k ≠ none → hGet (hSetRef s z.s f now).2.2 k ≠ none) := by
    unfold hSetRef
    split
    · exact ⟨rfl, h.din, fun _ hk => hk⟩
    · split
      · refine ⟨rfl, fun k o hg => ?_, fun k hk => (hPut_has (g := fun o => { o with refs := o.refs.set f.toNat now }) fun _ => rfl).2 hk⟩
        simp only at hg
        obtain ⟨o1, g1, ⟨_, g2⟩ | ⟨_, g2⟩⟩ := hPut_of (g := fun o => { o with refs := o.refs.set f.toNat now }) (fun _ => rfl) hg
        · rw [g2]; exact h.din k o1 g1
        · rw [g2]; exact h.din k o1 g1
      · exact ⟨rfl, h.din, fun _ hk => hk⟩
  unfold cyStore
  split
  · refine h.grow hh.1 hh.2.1 hh.2.2 ?_
    split
    · exact h.low.shade (by omega)
    · exact (h.low.shade (by omega)).shade (by omega)
  · exact h.grow hh.1 hh.2.1 hh.2.2 h.low
theorem Nine.setIn (h : Nine s c) {d : Int} (hd : 0 ≤ d ∧ d ≤ 9) : Nine (hSetIn s k d).2 c := by
  have hh : (hSetIn s k d).2.most = s.most ∧ (∀ j o, hGet (hSetIn s k d).2 j = some o → o.din ≤ 9) ∧ (∀ j, hGet s j ≠ none → hGet (hSetIn s k d).2 j ≠ none) := by
    unfold hSetIn
    split
    · exact ⟨rfl, h.din, fun _ hk => hk⟩
    · split
      · refine ⟨rfl, fun j o hg => ?_, fun j hj => (hPut_has (g := fun o => { o with din := d }) fun _ => rfl).2 hj⟩
        simp only at hg
        obtain ⟨o1, g1, ⟨_, g2⟩ | ⟨_, g2⟩⟩ := hPut_of (g := fun o => { o with din := d }) (fun _ => rfl) hg
        · rw [g2]; exact hd.2
        · rw [g2]; exact h.din j o1 g1
      · exact ⟨rfl, h.din, fun _ hk => hk⟩
  exact h.grow (p := c.p) hh.1 hh.2.1 hh.2.2 h.low
theorem Nine.touch (h : Nine s c) : Nine s (cyTouch s c x) := by
  unfold cyTouch
  split
  · exact h.grow rfl h.din (fun _ hk => hk) (h.low.shade (by omega))
  · exact h
theorem Nine.start {n grey work last : Int} (h1 : s.obs = []) (h2 : s.most ≤ 27) : Nine s (newCy n grey 3 work last) := by
  refine ⟨h2, fun k o e => ?_, fun k r g e => (by cases e), fun h => absurd h (by simp [newCy]), ⟨fun _ m => isOf_rep, fun h => absurd h (by simp [newCy]), fun h => absurd h (by simp [newCy])⟩⟩
  have := (hGet_mem e).1
  rw [h1] at this
  cases this
end
end Go.Proofs.YtojcacejgbnfkaaGreat

namespace Go.Proofs.YtojcacejgbnfkaaGreat
set_option linter.unusedSimpArgs false
set_option linter.unusedVariables false
open Go
theorem nodup_sub_le : ∀ {l m : List Int}, l.Nodup → (∀ x ∈ l, x ∈ m) → l.length ≤ m.length
  | [], _, _, _ => Nat.zero_le _
  | a :: l, m, hn, hs => by
    obtain ⟨h1, h2⟩ := List.nodup_cons.1 hn
    have ha := hs a (by simp)
    have := nodup_sub_le (l := l) (m := m.erase a) h2 fun x hx => (List.mem_erase_of_ne (fun e : x = a => h1 (by rw [← e]; exact hx))).2 (hs x (by simp [hx]))
    rw [List.length_erase_of_mem ha] at this
    have := List.length_pos_of_mem ha
    simp only [List.length_cons]
    omega
theorem filter_less {α : Type} {l : List α} {P Q : α → Bool} (h : ∀ x ∈ l, P x = true → Q x = true) : (l.filter P).length ≤ (l.filter Q).length := by
  induction l with
  | nil => simp
  | cons a l ih =>
    have h1 := ih fun x hx => h x (by simp [hx])
    have h2 := h a (by simp)
    cases hp : P a
    · rw [List.filter_cons_of_neg (by rw [hp]; decide)]
      cases hq : Q a
      · rw [List.filter_cons_of_neg (by rw [hq]; decide)]; exact h1
      · rw [List.filter_cons_of_pos hq]; simp only [List.length_cons]; omega
    · rw [List.filter_cons_of_pos hp, List.filter_cons_of_pos (h2 hp)]
      simp only [List.length_cons]; omega
theorem filter_lesser {α : Type} {l : List α} {P Q : α → Bool} (h : ∀ x ∈ l, P x = true → Q x = true) (hx : ∃ x ∈ l, Q x = true ∧ P x = false) : (l.filter P).length + 1 ≤ (l.filter Q).length := by
  induction l with
  | nil => obtain ⟨x, hx, _⟩ := hx; cases hx
  | cons a l ih =>
    have h2 := h a (by simp)
    have h3 := filter_less (l := l) (P := P) (Q := Q) fun x hx => h x (by simp [hx])
    obtain ⟨x, hm, hq, hp⟩ := hx
    rcases List.mem_cons.1 hm with rfl | hm
    · rw [List.filter_cons_of_neg (by rw [hp]; decide), List.filter_cons_of_pos hq]
      simp only [List.length_cons]; omega
    · have h1 := ih (fun x hx => h x (by simp [hx])) ⟨x, hm, hq, hp⟩
      cases hpa : P a
      · rw [List.filter_cons_of_neg (by rw [hpa]; decide)]
        cases hqa : Q a
        · rw [List.filter_cons_of_neg (by rw [hqa]; decide)]; exact h1
        · rw [List.filter_cons_of_pos hqa]; simp only [List.length_cons]; omega
      · rw [List.filter_cons_of_pos hpa, List.filter_cons_of_pos (h2 hpa)]
        simp only [List.length_cons]; omega

/-- How many lie above. -/
def up (s : Hs) (q : Int) : Nat := (s.obs.filter fun o => decide (q < o.ser)).length
def pot9 (p : Ps) (k : Int) : Nat := match mlook p.marks k with | none => 10 | some w => w.1.toNat
def total9 (s : Hs) (p : Ps) : Nat := (s.obs.map fun o => pot9 p o.ser).sum
def psi9 (s : Hs) (p : Ps) : Nat := (s.obs.length + 1) * total9 s p + p.stack.length + (if p.over then s.obs.length + 1 else 0)
def mkLeft9 (s : Hs) (p : Ps) (m : Mk) : Nat := psi9 s p + (if m.pass then up s m.at_ else 0) + up s m.place
def rcLeft9 (s : Hs) (c : Rc) : Nat := up s c.place * (s.obs.length + 2) + (match c.now with | none => 0 | some w => w.waits.length + (s.obs.length - w.seen.length) + 1)
def cyLeft9 (s : Hs) (c : Cy) : Nat :=
  if c.st = 0 then mkLeft9 s c.p ⟨0, false, 0⟩ + s.obs.length * (s.obs.length + 2) + s.obs.length + 3
  else if c.st = 3 then mkLeft9 s c.p c.m + s.obs.length * (s.obs.length + 2) + s.obs.length + 3
  else if c.st = 4 then mkLeft9 s c.p c.m + rcLeft9 s c.r + s.obs.length + 2
  else up s c.pl + 1

section
variable {s s' : Hs} {p q : Ps} {x : Id} {r k : Int} {m : Mk} {c : Cy} {sl : List (List Id)} {stir : Int} {w : RcRow} {u : Int}
theorem up_le {a : Int} : up s a ≤ s.obs.length := List.length_filter_le ..
theorem up_next {a : Int} (ho : s.ok) (h : (hNext s a).2 = true) : up s (hNext s a).1 + 1 ≤ up s a := by
  obtain ⟨h1, h2⟩ := hNext_range ho h
  unfold up
  refine filter_lesser (fun x _ hx => ?_) ?_
  · have : (hNext s a).1 < x.ser := by simpa using hx
    simp; omega
  · cases hg : hGet s (hNext s a).1 with
    | none => exact absurd hg h2
    | some o =>
      obtain ⟨g1, g2⟩ := hGet_mem hg
      exact ⟨o, g1, by simp; omega, by simp; omega⟩
theorem pot9_mput {k' : Int} {g : Bool} : pot9 { p with marks := mput p.marks k (r, g) } k' = if k' = k then r.toNat else pot9 p k' := by
  unfold pot9
  simp only
  rw [mlook_mput]
  by_cases e : k' = k
  · rw [if_pos e, if_pos e]
  · rw [if_neg e, if_neg e]
theorem total9_congr {q : Ps} (h : q.marks = p.marks) : total9 s q = total9 s p := by
  unfold total9
  congr 1
  exact List.map_congr_left fun o _ => by unfold pot9; rw [h]
theorem total9_less (hg : hGet s k ≠ none) {g : Bool} (h : r.toNat + 1 ≤ pot9 p k) : total9 s { p with marks := mput p.marks k (r, g) } + 1 ≤ total9 s p := by
  unfold total9
  refine sum_map_lt (fun o _ => ?_) ?_
  · rw [pot9_mput]
    split
    · rename_i e; rw [e]; omega
    · exact Nat.le_refl _
  · cases hgk : hGet s k with
    | none => exact absurd hgk hg
    | some o =>
      obtain ⟨h1, h2⟩ := hGet_mem hgk
      refine ⟨o, h1, ?_⟩
      rw [pot9_mput, if_pos h2, h2]
      exact h
theorem psi9_push_le {q : Ps} (h : total9 s q + 1 ≤ total9 s p) (hs : q.stack = p.stack) (ho : q.over = p.over) : psi9 s (pPush q k) ≤ psi9 s p := by
  have h1 : (s.obs.length + 1) * (total9 s q + 1) ≤ (s.obs.length + 1) * total9 s p := Nat.mul_le_mul_left _ h
  rw [Nat.mul_add, Nat.mul_one] at h1
  unfold psi9
  rw [total9_congr (pPush_marks (p := q) (k := k))]
  unfold pPush
  split
  · simp only [if_true]
    rw [hs]
    split <;> omega
  · simp only [List.length_append, List.length_cons, List.length_nil]
    rw [hs, ho]
    omega
theorem psi9_le {q : Ps} (h : total9 s q ≤ total9 s p) (hs : q.stack = p.stack) (ho : q.over = p.over) : psi9 s q ≤ psi9 s p := by
  have h1 : (s.obs.length + 1) * total9 s q ≤ (s.obs.length + 1) * total9 s p := Nat.mul_le_mul_left _ h
  unfold psi9
  rw [hs, ho]
  omega
theorem psi9_shade (ho : p.ok) (hr : r ≤ 9) : psi9 s (pShade s p x r) ≤ psi9 s p := by
  have hc := clampR_is (r := r)
  have hc9 := clamp_low hr
  unfold pShade
  split
  · exact Nat.le_refl _
  · split
    · split
      · exact Nat.le_refl _
      · split <;> exact Nat.le_refl _
    · split
      · exact Nat.le_refl _
      · rename_i hg
        split
        · rename_i hl
          refine psi9_push_le (total9_less hg ?_) rfl rfl
          unfold pot9
          rw [hl]
          simp only
          omega
        · rename_i was g hl
          have hw := mlook_ranks ho hl
          split
          · exact Nat.le_refl _
          · rename_i hlt
            have hpot : (clampR r).toNat + 1 ≤ pot9 p x.s := by
              unfold pot9
              rw [hl]
              simp only
              omega
            split
            · have := total9_less (g := true) hg hpot
              exact psi9_le (by omega) rfl rfl
            · exact psi9_push_le (total9_less hg hpot) rfl rfl
theorem psi9_shades {l : List Id} (ho : p.ok) (hr : r ≤ 9) : psi9 s (pShades s p l r) ≤ psi9 s p := by
  unfold pShades
  induction l generalizing p with
  | nil => exact Nat.le_refl _
  | cons y l ih => exact Nat.le_trans (ih ho.shade) (psi9_shade ho hr)
theorem psi9_scan (ho : p.ok) (hw : Low p) : psi9 s (pScan s p k).2 ≤ psi9 s p := by
  unfold pScan
  split
  · rename_i o r hg hl
    refine Nat.le_trans (psi9_shades (ho.mark (mlook_ranks ho hl)) (hw k r true hl)) (psi9_le ?_ rfl rfl)
    unfold total9
    refine sum_map_le fun o _ => ?_
    rw [pot9_mput]
    split
    · rename_i e
      unfold pot9
      rw [e, hl]
      exact Nat.le_refl _
    · exact Nat.le_refl _
  · exact Nat.le_refl _
theorem mkStep_less9 (ho : s.ok) (hp : p.ok) (hw : Low p) (hd : ∀ k o, hGet s k = some o → o.din ≤ 9) (h : (mkStep s p m).1 = true) : mkLeft9 s (mkStep s p m).2.1 (mkStep s p m).2.2 + 1 ≤ mkLeft9 s p m := by
  unfold mkStep at h ⊢
  split at h
  · rename_i k hk
    simp only
    have e : pPop p = ((k, true), { p with stack := p.stack.dropLast }) := by unfold pPop; rw [hk]
    rw [e]
    have hne : p.stack ≠ [] := fun e => by rw [e] at hk; cases hk
    have hpos : 0 < p.stack.length := List.length_pos_iff.2 hne
    have h1 := psi9_scan (s := s) (k := k) (p := { p with stack := p.stack.dropLast }) (by have := hp.pop; rw [e] at this; exact this) (hw.same rfl)
    have h2 : psi9 s { p with stack := p.stack.dropLast } + 1 = psi9 s p := by
      unfold psi9
      rw [show total9 s { p with stack := p.stack.dropLast } = total9 s p from total9_congr rfl]
      simp only [List.length_dropLast]
      omega
    unfold mkLeft9
    simp only
    omega
  · rename_i hk
    split at h
    · rename_i hc
      rw [if_pos hc]
      simp only
      have h1 := psi9_scan (s := s) (k := (hNext s m.at_).1) hp hw
      have h2 := up_next ho hc.2
      unfold mkLeft9
      rw [hc.1]
      simp only [if_true]
      omega
    · rename_i hc
      rw [if_neg hc]
      split at h
      · rename_i hov
        rw [if_pos hov]
        simp only
        have h1 : psi9 s (pRest p) + (s.obs.length + 1) = psi9 s p := by
          unfold psi9 pRest
          rw [show total9 s { p with over := false } = total9 s p from total9_congr rfl, hov]
          simp only [if_true, Bool.false_eq_true, if_false]
          omega
        have h2 := up_le (s := s) (a := 0)
        unfold mkLeft9
        simp only [if_true]
        split <;> omega
      · rename_i hov
        rw [if_neg hov]
        split at h
        · cases h
        · rename_i hn
          rw [if_neg hn]
          simp only
          have h2 := up_next ho (a := m.place) (by simpa using hn)
          have h1 : psi9 s (mkSee s p (hNext s m.place).1) ≤ psi9 s p := by
            unfold mkSee
            split
            · rename_i o hg
              split
              · exact psi9_shade hp (hd _ o hg)
              · exact Nat.le_refl _
            · exact Nat.le_refl _
          unfold mkLeft9
          simp only [Bool.false_eq_true, if_false]
          omega
theorem mk_same9 (h : (mkStep s p m).1 = false) : mkLeft9 s (mkStep s p m).2.1 (mkStep s p m).2.2 ≤ mkLeft9 s p m := by
  obtain ⟨h1, _⟩ := mkStep_end h
  rw [h1]
  unfold mkLeft9
  simp only [Bool.false_eq_true, if_false]
  split <;> omega

theorem seen_few (hn : w.seen.Nodup) (h : ∀ k ∈ w.seen, hGet s k ≠ none) : w.seen.length ≤ s.obs.length := by
  have := nodup_sub_le (m := s.obs.map (·.ser)) hn fun k hk => by
    cases hg : hGet s k with
    | none => exact absurd hg (h k hk)
    | some o =>
      obtain ⟨a1, a2⟩ := hGet_mem hg
      exact List.mem_map.2 ⟨o, a1, a2⟩
  rwa [List.length_map] at this
theorem see_left9 (hb : ∀ k ∈ w.seen, hGet s k ≠ none) (hw : w.ok) (hp : p.ok) : (rcSee s p u w x).waits.length + (s.obs.length - (rcSee s p u w x).seen.length) ≤ w.waits.length + (s.obs.length - w.seen.length) := by
  have hok := hw.see (s := s) (u := u) hp x
  have hle : (rcSee s p u w x).seen.length ≤ s.obs.length := seen_few hok.seen fun k hk => by
    rcases rcSee_seen hk with h | h
    · exact hb k h
    · exact (rcOwn_has h.2.2).1
  unfold rcSee rcPut at hle ⊢
  split
  · rename_i hn
    rw [if_pos hn] at hle
    split
    · rename_i ho
      rw [if_pos ho] at hle
      split
      · exact Nat.le_refl _
      · rename_i hs
        rw [if_neg hs] at hle
        simp only [List.length_append, List.length_cons, List.length_nil] at hle ⊢
        omega
    · exact Nat.le_refl _
  · split <;> exact Nat.le_refl _
theorem sees_left9 (hp : p.ok) : ∀ {l : List Id} {w : RcRow}, (∀ k ∈ w.seen, hGet s k ≠ none) → w.ok → (rcSees s p u w l).waits.length + (s.obs.length - (rcSees s p u w l).seen.length) ≤ w.waits.length + (s.obs.length - w.seen.length)
  | [], w, _, _ => Nat.le_refl _
  | y :: l, w, hb, hw => Nat.le_trans (sees_left9 hp (l := l) (w := rcSee s p u w y) (fun k hk => by
      rcases rcSee_seen hk with h | h
      · exact hb k h
      · exact (rcOwn_has h.2.2).1) (hw.see hp y)) (see_left9 hb hw hp)
theorem rcStep_less9 {c : Rc} (ho : s.ok) (hp : p.ok) (hc : c.ok) (hb : c.within s) (h : (rcStep s p c).1 = true) : rcLeft9 s (rcStep s p c).2 + 1 ≤ rcLeft9 s c := by
  have next : (∀ w, c.now = some w → w.waits = []) → (rcNext s p c).1 = true → rcLeft9 s (rcNext s p c).2 + 1 ≤ rcLeft9 s c := fun hno h => by
    unfold rcNext at h ⊢
    split at h
    · rename_i hn
      rw [if_pos hn]
      simp only at h ⊢
      unfold rcLeft9
      rw [rcEnd_place, rcEnd_now]
      cases hw : c.now with
      | none => rw [hw] at h; cases h
      | some w => simp only; omega
    · rename_i hn
      rw [if_neg hn]
      have hn := up_next ho (a := c.place) (by simpa using hn)
      have hup := up_le (s := s) (a := c.place)
      have hm : (up s (hNext s c.place).1 + 1) * (s.obs.length + 2) ≤ up s c.place * (s.obs.length + 2) := Nat.mul_le_mul_right _ (by omega)
      rw [Nat.add_mul, Nat.one_mul] at hm
      split
      · split
        · unfold rcLeft9
          simp only [rcEnd_place, List.length_cons, List.length_nil]
          split <;> omega
        · unfold rcLeft9
          simp only
          omega
      · unfold rcLeft9
        simp only
        omega
  unfold rcStep at h ⊢
  split at h
  · rename_i w hw
    split at h
    · rename_i k hk
      simp only
      unfold rcLeft9
      rw [hw]
      simp only
      have h1 := sees_left9 (u := c.suspect) hp (l := rcRefs s k) (w := { w with waits := w.waits.dropLast }) (hb w hw) (hc.now w hw).popped
      have hne : w.waits ≠ [] := fun e => by rw [e] at hk; cases hk
      have hpos : 0 < w.waits.length := List.length_pos_iff.2 hne
      simp only [List.length_dropLast] at h1
      unfold rcFollow
      omega
    · rename_i hk
      exact next (fun w' hw' => by rw [hw] at hw'; cases hw'; exact List.getLast?_eq_none_iff.1 hk) h
  · rename_i hw
    exact next (fun w' hw' => by rw [hw] at hw'; cases hw') h
theorem rcLeft9_new : rcLeft9 s (rcNew u) ≤ s.obs.length * (s.obs.length + 2) := by
  unfold rcLeft9 rcNew
  simp only [Nat.add_zero]
  exact Nat.mul_le_mul_right _ up_le

theorem Nine.len (h : Nine s c) (ho : s.ok) : s.obs.length ≤ 27 := by
  have := ho.len
  have := h.most
  omega
theorem psi9_all (hw : Low p) (hp : p.ok) (h27 : s.obs.length ≤ 27) : psi9 s p ≤ 7652 := by
  have h1 : total9 s p ≤ 10 * s.obs.length := by
    unfold total9
    have := sum_map_le (l := s.obs) (f := fun o => pot9 p o.ser) (g := fun _ => 10) fun o _ => by
      unfold pot9
      split
      · exact Nat.le_refl _
      · rename_i w hl
        obtain ⟨w1, w2⟩ := w
        have := hw _ w1 w2 hl
        simp only
        omega
    have e : (s.obs.map fun _ => 10).sum = 10 * s.obs.length := by
      clear this h27
      induction s.obs with
      | nil => rfl
      | cons a l ih => simp only [List.map_cons, List.sum_cons, List.length_cons]; omega
    omega
  have h2 : (s.obs.length + 1) * total9 s p ≤ 28 * 270 := Nat.mul_le_mul (by omega) (by omega)
  have h3 := hp.stack
  have h4 := hp.most
  unfold psi9
  split <;> omega
theorem mkLeft9_all {m : Mk} (hw : Low p) (hp : p.ok) (h27 : s.obs.length ≤ 27) : mkLeft9 s p m ≤ 7706 := by
  have h1 := psi9_all hw hp h27
  have h2 := up_le (s := s) (a := m.at_)
  have h3 := up_le (s := s) (a := m.place)
  unfold mkLeft9
  split <;> omega
theorem left9_all (h : Nine s c) (ho : s.ok) (hc : c.ok) : cyLeft9 s c ≤ 9000 := by
  have h27 := h.len ho
  have h1 := fun m => mkLeft9_all (m := m) h.low hc.p h27
  have h2 : s.obs.length * (s.obs.length + 2) ≤ 27 * 29 := Nat.mul_le_mul (by omega) (by omega)
  have h3 := up_le (s := s) (a := c.pl)
  unfold cyLeft9
  split
  · have := h1 ⟨0, false, 0⟩; omega
  · split
    · have := h1 c.m; omega
    · split
      · rename_i h4
        have h5 := h1 c.m
        have h6 : up s c.r.place * (s.obs.length + 2) ≤ 27 * 29 := Nat.mul_le_mul (by have := up_le (s := s) (a := c.r.place); omega) (by omega)
        have h7 : rcLeft9 s c.r ≤ 27 * 29 + 55 := by
          unfold rcLeft9
          cases hw : c.r.now with
          | none => simp only; omega
          | some w =>
            have h8 := h.row h4 w hw
            have h9 := seen_few ((hc.r.now w hw).seen) h8.2
            have := h8.1
            simp only
            omega
        omega
      · omega

theorem left_marks9 (ho : s.ok) (hc : c.ok) (h : Nine s c) (hst : c.st = 3) (hq : c.sk.ph = 3) : cyLeft9 s (cyMarks s c stir) + 1 ≤ mkLeft9 s c.p c.m + s.obs.length * (s.obs.length + 2) + s.obs.length + 3 ∧ (cyMarks s c stir).sk.ph = 3 := by
  unfold cyMarks
  cases he : (mkStep s c.p c.m).1
  · rw [if_neg (by decide)]
    have h1 := mk_same9 he
    refine ⟨?_, hq⟩
    have h2 := rcLeft9_new (s := s) (u := c.sus)
    unfold cyLeft9
    simp only
    rw [if_neg (by decide), if_neg (by decide), if_pos trivial]
    omega
  · rw [if_pos rfl]
    have h1 := mkStep_less9 ho hc.p h.low h.din he
    refine ⟨?_, hq⟩
    unfold cyLeft9
    simp only
    rw [if_neg (by omega), if_pos hst]
    omega
theorem left_reaches9 (ho : s.ok) (hc : c.ok) (h : Nine s c) (hst : c.st = 4) (hq : c.sk.ph = 3) : cyLeft9 s (cyReaches s c) + 1 ≤ mkLeft9 s c.p c.m + rcLeft9 s c.r + s.obs.length + 2 ∧ (cyReaches s c).sk.ph = 3 := by
  unfold cyReaches
  cases he : (mkStep s c.p c.m).1
  rotate_left
  · rw [if_pos rfl]
    have h1 := mkStep_less9 ho hc.p h.low h.din he
    refine ⟨?_, hq⟩
    unfold cyLeft9
    simp only
    rw [if_neg (by omega), if_neg (by omega), if_pos hst]
    omega
  rw [if_neg (by decide)]
  have h1 := mk_same9 he
  have hp1 := (mkStep_ok ho hc.p hc.m).1
  cases h2 : (rcStep s (mkStep s c.p c.m).2.1 c.r).1
  rotate_left
  · rw [if_pos rfl]
    have h3 := rcStep_less9 ho hp1 hc.r (fun w hw => (h.row hst w hw).2) h2
    refine ⟨?_, hq⟩
    unfold cyLeft9
    simp only
    rw [if_neg (by omega), if_neg (by omega), if_pos hst]
    omega
  rw [if_neg (by decide)]
  refine ⟨?_, hq⟩
  have h3 := up_le (s := s) (a := 0)
  unfold cyLeft9
  simp only
  rw [if_neg (by decide), if_neg (by decide), if_neg (by decide)]
  omega
theorem sw_up {pl e a : Int} : up (swStep s p pl e).2.1 a ≤ up s a := by
  unfold swStep
  split
  · exact Nat.le_refl _
  · split
    · exact Nat.le_refl _
    · simp only
      unfold up hFree
      split
      · simp only
        exact (List.filter_sublist.filter _).length_le
      · exact Nat.le_refl _
/-- A unit, all having answered twice: it ends there, or less is left. -/
theorem unit_quiet9 (ho : s.ok) (hc : c.ok) (h : Nine s c) (hph : c.sk.ph = 3) : ((cyUnit s c stir).stop = some true ∧ (cyUnit s c stir).c.st = 0 ∧ (cyUnit s c stir).c.sk.ph = 0) ∨ ((cyUnit s c stir).stop = none ∧ cyLeft9 (cyUnit s c stir).s (cyUnit s c stir).c + 1 ≤ cyLeft9 s c ∧ (cyUnit s c stir).c.sk.ph = 3) := by
  rcases hc.state with ⟨e, e1, e2⟩ | ⟨e, e1, e2⟩ | ⟨e, e1, e2⟩ | ⟨e, e1, e2⟩ | ⟨e, e1, e2⟩ | ⟨e, e1, e2⟩
  · omega
  · omega
  · rw [unit23 (.inr e) hph]
    have hc3 : ({ c with st := 3, m := ⟨0, false, 0⟩ } : Cy).ok := ⟨hc.len, hc.size, hc.ph, .inr ⟨.inl rfl, hph⟩, hc.sus, hc.work, hc.p, ⟨Int.le_refl _, Int.le_refl _⟩, hc.r, hc.pl⟩
    have h1 := left_marks9 (stir := stir) (c := { c with st := 3, m := ⟨0, false, 0⟩ }) ho hc3 ⟨h.most, h.din, h.low, fun h4 => by simp only at h4; omega, h.sk⟩ rfl hph
    refine .inr ⟨rfl, ?_, h1.2⟩
    have h2 : cyLeft9 s c = mkLeft9 s c.p ⟨0, false, 0⟩ + s.obs.length * (s.obs.length + 2) + s.obs.length + 3 := by unfold cyLeft9; rw [if_pos e1]
    rw [h2]
    exact h1.1
  · rw [unit3 e]
    have h1 := left_marks9 (stir := stir) ho hc h e1 hph
    refine .inr ⟨rfl, ?_, h1.2⟩
    have h2 : cyLeft9 s c = mkLeft9 s c.p c.m + s.obs.length * (s.obs.length + 2) + s.obs.length + 3 := by unfold cyLeft9; rw [if_neg (by omega), if_pos e1]
    rw [h2]
    exact h1.1
  · rw [unit4 e]
    have h1 := left_reaches9 ho hc h e1 hph
    refine .inr ⟨rfl, ?_, h1.2⟩
    have h2 : cyLeft9 s c = mkLeft9 s c.p c.m + rcLeft9 s c.r + s.obs.length + 2 := by unfold cyLeft9; rw [if_neg (by omega), if_neg (by omega), if_pos e1]
    rw [h2]
    exact h1.1
  · cases hs : (swStep s c.p c.pl c.e).1.2
    · rw [unit5 e hs]
      refine .inl ⟨rfl, rfl, ?_⟩
      simp only
      unfold Sk.ended
      rw [if_pos hph]
    · rw [unit6 e hs]
      obtain ⟨h1, h2, h3⟩ := sw_true hs
      have h4 := up_next ho h1
      have h5 := sw_up (s := s) (p := c.p) (pl := c.pl) (e := c.e) (a := (hNext s c.pl).1)
      refine .inr ⟨rfl, ?_, hph⟩
      unfold cyLeft9
      simp only
      rw [if_neg (by omega), if_neg (by omega), if_neg (by omega), if_neg (by omega), if_neg (by omega), if_neg (by omega), h3]
      omega
theorem steps_quiet9 : ∀ {m : Nat} {s : Hs} {c : Cy} {fr : List Int}, YdOk s c sl → Nine s c → c.sk.ph = 3 → (cySteps stir m s c fr).1.2 = true ∨ ((cySteps stir m s c fr).1.2 = false ∧ cyLeft9 (cySteps stir m s c fr).2.1 (cySteps stir m s c fr).2.2 + m ≤ cyLeft9 s c ∧ (cySteps stir m s c fr).2.2.sk.ph = 3)
  | 0, s, c, fr, _, _, hph => .inr ⟨rfl, Nat.le_refl _, hph⟩
  | m + 1, s, c, fr, hyd, h, hph => by
    unfold cySteps
    rcases unit_quiet9 (stir := stir) hyd.ho hyd.cok h hph with ⟨e, _⟩ | ⟨e, h2, h3⟩
    · rw [e]
      exact .inl rfl
    · rw [e]
      simp only
      rcases steps_quiet9 (m := m) (fr := if (cyUnit s c stir).freed ≠ 0 then fr ++ [(cyUnit s c stir).freed] else fr) hyd.unit (h.unit hyd) h3 with h4 | ⟨h4, h5, h6⟩
      · exact .inl h4
      · exact .inr ⟨h4, by omega, h6⟩
end
end Go.Proofs.YtojcacejgbnfkaaGreat

namespace Go.Proofs.YtojcacejgbnfkaaGreat
set_option linter.unusedSimpArgs false
set_option linter.unusedVariables false
open Go
/-- What can be reached. -/
inductive Rt (s : Hs) (sl : List (List Id)) : Int → Prop
  | slot {row : List Id} {x : Id} : row ∈ sl → x ∈ row → x.n = 1 → Rt s sl x.s
  | din {k : Int} {o : Ob} : hGet s k = some o → 0 < o.din → Rt s sl k
  | step {k : Int} {o : Ob} {x : Id} : Rt s sl k → hGet s k = some o → x ∈ o.refs → x.n = 1 → Rt s sl x.s
def Mkin (s : Hs) (sl : List (List Id)) (p : Ps) : Prop := ∀ k, mlook p.marks k ≠ none → Rt s sl k
structure Whole (s : Hs) (c : Cy) (sl : List (List Id)) : Prop where
  marks : c.sk.ph ≠ 0 → Mkin s sl c.p
  swept : c.st = 5 → (∀ k, hGet s k ≠ none → k ≤ c.pl → Rt s sl k) ∧ ∀ k, hGet s k ≠ none → k ≤ c.e
def AllR (s : Hs) (sl : List (List Id)) : Prop := ∀ k, hGet s k ≠ none → Rt s sl k
/-- So many ends are yet to come. -/
def Ends (n : Nat) (s : Hs) (c : Cy) (sl : List (List Id)) : Prop := (n ≤ 2 → Whole s c sl) ∧ (n ≤ 1 → AllR s sl)

section
variable {s s' : Hs} {p q : Ps} {x : Id} {r k j : Int} {m : Mk} {c c0 : Cy} {sl : List (List Id)} {stir : Int} {n : Nat}
theorem Rt.alive (hyd : YdOk s c sl) (h : Rt s sl k) : lives s c k := by
  obtain ⟨h1, h2, h3, h4⟩ := hyd.lives
  induction h with
  | slot a b d => exact h1 _ a _ b d
  | din a b => exact h2 _ _ a b
  | step _ a b d ih => exact h3 _ _ _ ih a b d
theorem Rt.free (hn : ¬ Rt s sl j) (h : Rt s sl k) : Rt (hFree s j).2 sl k := by
  have get : ∀ {a : Int} {o : Ob}, Rt s sl a → hGet s a = some o → hGet (hFree s j).2 a = some o := fun {a o} ha hg => by
    rw [hFree_get, if_neg (fun e => hn (by rw [← e]; exact ha))]
    exact hg
  induction h with
  | slot a b d => exact .slot a b d
  | din a b => exact .din (get (.din a b) a) b
  | step h0 a b d ih => exact .step ih (get h0 a) b d
theorem Mkin.shade (h : Mkin s sl p) (hx : isId x → x.n = s.node → Rt s sl x.s) : Mkin s sl (pShade s p x r) := by
  intro k e
  rcases shade_marks (s := s) (p := p) (x := x) (r := r) with hm | ⟨a1, a2, a3, hm, _⟩
  · rw [hm] at e; exact h k e
  · rw [hm, mlook_mput] at e
    by_cases ea : k = x.s
    · rw [ea]; exact hx a1 a2
    · rw [if_neg ea] at e; exact h k e
theorem Mkin.shades {l : List Id} (h : Mkin s sl p) (hx : ∀ x ∈ l, isId x → x.n = s.node → Rt s sl x.s) : Mkin s sl (pShades s p l r) := by
  unfold pShades
  induction l generalizing p with
  | nil => exact h
  | cons y l ih => exact ih (h.shade (hx y (by simp))) fun x hm => hx x (by simp [hm])
theorem Mkin.same (h : Mkin s sl p) (e : q.marks = p.marks) : Mkin s sl q := fun k hk => h k (by rw [← e]; exact hk)
theorem Mkin.scan (h : Mkin s sl p) (hn : s.node = 1) : Mkin s sl (pScan s p k).2 := by
  unfold pScan
  split
  · rename_i o w hg hl
    have hk := h k (by rw [hl]; simp)
    refine Mkin.shades (fun j e => ?_) fun y hy _ hy1 => .step hk hg hy (by rw [hy1, hn])
    simp only at e
    rw [mlook_mput] at e
    by_cases ea : j = k
    · rw [ea]; exact hk
    · rw [if_neg ea] at e; exact h j e
  · exact h
theorem Mkin.step (h : Mkin s sl p) (hn : s.node = 1) : Mkin s sl (mkStep s p m).2.1 := by
  unfold mkStep
  split
  · exact (h.same pPop_marks.1).scan hn
  · split
    · exact h.scan hn
    · split
      · exact h.same rfl
      · split
        · exact h
        · simp only
          unfold mkSee
          split
          · rename_i o hg
            split
            · rename_i hd
              exact h.shade fun _ _ => .din hg hd
            · exact h
          · exact h
theorem unit_ends (hc : c.ok) (h : (cyUnit s c stir).stop = some true) : (cyUnit s c stir).c.st = 0 ∧ (cyUnit s c stir).c.sk.ph = 0 ∧ c.st = 5 := by
  have hst := hc.state
  rcases hc.sixth with e | ⟨e, h3⟩ | ⟨e, h3⟩ | ⟨e, e1, _⟩ | ⟨e, e1, _⟩ | e
  · rw [unit0 e] at h; cases h
  · rw [unit12 e h3] at h; cases h
  · rw [unit23 e h3] at h; cases h
  · rw [unit3 e] at h; cases h
  · rw [unit4 e] at h; cases h
  · cases hs : (swStep s c.p c.pl c.e).1.2
    · rw [unit5 e hs]
      refine ⟨rfl, ?_, by omega⟩
      simp only
      unfold Sk.ended
      rw [if_pos (by omega)]
    · rw [unit6 e hs] at h; cases h
/-- What sweeping frees is not reached. -/
theorem freed_not (hyd : YdOk s c sl) (hst : c.st = 5) (hn : (hNext s c.pl).2 = true) (hle : (hNext s c.pl).1 ≤ c.e) (hm : ¬ (pMark s c.p (hNext s c.pl).1).2.2 = true) : ¬ Rt s sl (hNext s c.pl).1 := fun hr => by
  have hl := hr.alive hyd
  unfold lives at hl
  rw [if_pos hst] at hl
  rcases hl.2 with h6 | h6
  · apply hm
    unfold pMark
    cases hlk : mlook c.p.marks (hNext s c.pl).1 with
    | none => exact absurd hlk h6
    | some w => simp only; rw [if_neg hl.1]
  · omega
theorem sw_false (h : (swStep s p r k).1.2 = false) : swStep s p r k = ((0, false), s, p, r) ∧ ((hNext s r).2 = false ∨ (hNext s r).1 > k) := by
  unfold swStep at h ⊢
  split at h
  · rename_i hc
    rw [if_pos hc]
    exact ⟨rfl, hc⟩
  · split at h <;> cases h
theorem AllR.unit (hyd : YdOk s c sl) (h : AllR s sl) : AllR (cyUnit s c stir).s sl := by
  have hst := hyd.cok.state
  rcases hyd.cok.sixth with e | ⟨e, h3⟩ | ⟨e, h3⟩ | ⟨e, e1, _⟩ | ⟨e, e1, _⟩ | e
  · rw [unit0 e]; exact h
  · rw [unit12 e h3]; exact h
  · rw [unit23 e h3]; exact h
  · rw [unit3 e]; exact h
  · rw [unit4 e]; exact h
  · have sw : AllR (swStep s c.p c.pl c.e).2.1 sl := by
      unfold swStep
      split
      · exact h
      · rename_i hc
        have hn : (hNext s c.pl).2 = true := by
          cases hh : (hNext s c.pl).2
          · exact absurd (.inl hh) hc
          · rfl
        split
        · exact h
        · rename_i hm
          have hno := freed_not hyd (by omega) hn (by omega) hm
          exact absurd (h _ (hNext_range hyd.ho hn).2) hno
    cases hs : (swStep s c.p c.pl c.e).1.2
    · rw [unit5 e hs]; exact sw
    · rw [unit6 e hs]; exact sw
theorem Whole.unit (hyd : YdOk s c sl) (h : Whole s c sl) : Whole (cyUnit s c stir).s (cyUnit s c stir).c sl ∧ ((cyUnit s c stir).stop = some true → AllR (cyUnit s c stir).s sl) := by
  have hst := hyd.cok.state
  have hnode := hyd.node
  have mks : ∀ c1 : Cy, Mkin s sl c1.p → c1.st = 3 → Whole s (cyMarks s c1 stir) sl := fun c1 h1 h2 => by
    unfold cyMarks
    split
    · exact ⟨fun _ => h1.step hnode, fun h5 => by simp only at h5; omega⟩
    · exact ⟨fun _ => h1.step hnode, fun h5 => by simp only at h5; omega⟩
  rcases hyd.cok.sixth with e | ⟨e, h3⟩ | ⟨e, h3⟩ | ⟨e, e1, _⟩ | ⟨e, e1, _⟩ | e
  · rw [unit0 e]
    exact ⟨⟨fun _ k hk => absurd rfl hk, fun h5 => by simp only at h5; omega⟩, fun h => by cases h⟩
  · rw [unit12 e h3]; exact ⟨h, fun h => by cases h⟩
  · rw [unit23 e h3]; exact ⟨mks { c with st := 3, m := ⟨0, false, 0⟩ } (h.marks (by omega)) rfl, fun h => by cases h⟩
  · rw [unit3 e]; exact ⟨mks c (h.marks (by omega)) e1, fun h => by cases h⟩
  · rw [unit4 e]
    refine ⟨?_, fun h => by cases h⟩
    have h1 := (h.marks (by omega)).step (m := c.m) hnode
    unfold cyReaches
    split
    · exact ⟨fun _ => h1, fun h5 => by simp only at h5; omega⟩
    · split
      · exact ⟨fun _ => h1, fun h5 => by simp only at h5; omega⟩
      · exact ⟨fun _ => h1, fun _ => ⟨fun k hk hle => by have := get_ser hyd.ho hk; simp only at hle; omega, fun k hk => (get_ser hyd.ho hk).2⟩⟩
  · have h5 : c.st = 5 := by omega
    obtain ⟨w1, w2⟩ := h.swept h5
    have hmk := h.marks (by omega)
    cases hs : (swStep s c.p c.pl c.e).1.2
    · rw [unit5 e hs]
      obtain ⟨es, hc⟩ := sw_false hs
      have hall : AllR s sl := fun k hk => by
        rcases Int.lt_or_le c.pl k with hlt | hle
        · rcases hc with hc | hc
          · have := hNext_false hc hk; omega
          · have h6 := w2 k hk
            cases hn : (hNext s c.pl).2
            · have := hNext_false hn hk; omega
            · have := hNext_min hyd.ho hn hk hlt; omega
        · exact w1 k hk hle
      rw [es]
      have hph : c.sk.ended.ph = 0 := by unfold Sk.ended; rw [if_pos (by omega)]
      exact ⟨⟨fun h0 => absurd hph h0, fun h5 => by simp only at h5; omega⟩, fun _ => hall⟩
    · rw [unit6 e hs]
      refine ⟨?_, fun h => by cases h⟩
      obtain ⟨hn, hle, _⟩ := sw_true hs
      have hmin : ∀ k, hGet s k ≠ none → k ≤ (hNext s c.pl).1 → k ≤ c.pl ∨ k = (hNext s c.pl).1 := fun k hk hkn => by
        rcases Int.lt_or_le c.pl k with hlt | hge
        · have := hNext_min hyd.ho hn hk hlt
          exact .inr (by omega)
        · exact .inl hge
      by_cases hm : (pMark s c.p (hNext s c.pl).1).2.2 = true
      · have es : swStep s c.p c.pl c.e = ((0, true), s, c.p, (hNext s c.pl).1) := by unfold swStep; rw [if_neg (by rw [hn]; simp; omega), if_pos hm]
        rw [es]
        refine ⟨fun _ => hmk, fun _ => ⟨fun k hk hkn => ?_, w2⟩⟩
        rcases hmin k hk hkn with h6 | rfl
        · exact w1 k hk h6
        · refine hmk _ fun hl => ?_
          unfold pMark at hm
          rw [hl] at hm
          cases hm
      · have es : swStep s c.p c.pl c.e = (((hNext s c.pl).1, true), (hFree s (hNext s c.pl).1).2, pForget c.p (hNext s c.pl).1, (hNext s c.pl).1) := by unfold swStep; rw [if_neg (by rw [hn]; simp; omega), if_neg hm]
        have hno := freed_not hyd h5 hn hle hm
        rw [es]
        have sub : ∀ k, hGet (hFree s (hNext s c.pl).1).2 k ≠ none → k ≠ (hNext s c.pl).1 ∧ hGet s k ≠ none := fun k hk => by
          rw [hFree_get] at hk
          split at hk
          · exact absurd rfl hk
          · rename_i e; exact ⟨e, hk⟩
        refine ⟨fun _ k hk => ?_, fun _ => ⟨fun k hk hkn => ?_, fun k hk => w2 k (sub k hk).2⟩⟩
        · simp only [pForget] at hk
          rw [mlook_mdel] at hk
          split at hk
          · exact absurd rfl hk
          · exact (hmk k hk).free hno
        · obtain ⟨k1, k2⟩ := sub k hk
          rcases hmin k k2 hkn with h6 | h6
          · exact (w1 k k2 h6).free hno
          · exact absurd h6 k1
theorem Ends.steps : ∀ {m : Nat} {s : Hs} {c : Cy} {fr : List Int}, 1 ≤ n → YdOk s c sl → Ends n s c sl → Ends (if (cySteps stir m s c fr).1.2 = true then n - 1 else n) (cySteps stir m s c fr).2.1 (cySteps stir m s c fr).2.2 sl
  | 0, s, c, fr, _, _, h => h
  | m + 1, s, c, fr, hn, hyd, h => by
    unfold cySteps
    cases hs : (cyUnit s c stir).stop with
    | none => exact Ends.steps hn hyd.unit ⟨fun h2 => ((h.1 h2).unit hyd).1, fun h1 => (h.2 h1).unit hyd⟩
    | some b =>
      simp only
      cases b
      · exact ⟨fun h2 => ((h.1 h2).unit hyd).1, fun h1 => (h.2 h1).unit hyd⟩
      · rw [if_pos rfl]
        obtain ⟨e1, e2, _⟩ := unit_ends hyd.cok hs
        refine ⟨fun _ => ⟨fun h0 => absurd e2 h0, fun h5 => by omega⟩, fun h1 => ?_⟩
        exact ((h.1 (by omega)).unit hyd).2 hs
theorem shake_r {held : List Id} : (cyShake s c j held).2.r = c.r ∧ (cyShake s c j held).2.st = c.st ∧ (cyShake s c j held).2.pl = c.pl ∧ (cyShake s c j held).2.e = c.e ∧ (cyShake s c j held).2.work = c.work ∧ (cyShake s c j held).2.sk = (c.sk.ans j).1 := by
  unfold cyShake
  split <;> exact ⟨rfl, rfl, rfl, rfl, rfl, rfl⟩
theorem ans_zero {k : Sk} (h : k.ph ≠ 1 ∧ k.ph ≠ 2) : (k.ans j) = (k, 0) := by
  unfold Sk.ans
  split
  · rfl
  · rw [if_neg h.1, if_neg h.2]
theorem Ends.shake (hyd : YdOk s c sl) {held : List Id} (hh : ∀ x ∈ held, x.n = 1 → Rt s sl x.s) (h : Ends n s c sl) : Ends n s (cyShake s c j held).2 sl := by
  refine ⟨fun h2 => ?_, h.2⟩
  have hw := h.1 h2
  have hr := shake_r (s := s) (c := c) (j := j) (held := held)
  refine ⟨fun hp => ?_, fun h5 => ?_⟩
  · by_cases h0 : c.sk.ph = 0
    · rw [hr.2.2.2.2.2, ans_zero (by omega)] at hp
      exact absurd h0 hp
    · unfold cyShake
      split
      · exact (hw.marks h0).shades fun x hx _ hn => hh x hx (by rw [hn, hyd.node])
      · exact hw.marks h0
  · rw [hr.2.2.1, hr.2.2.2.1]
    exact hw.swept (by rw [← hr.2.1]; exact h5)

/-- All up to the y-th have been asked, in a round that began with c0. -/
structure Asked (c0 : Cy) (y : Nat) (c : Cy) : Prop where
  idle : c0.sk.ph = 0 ∨ c0.sk.ph = 3 → c = c0
  arm : c0.sk.ph = 1 → 2 ≤ c.sk.ph ∨ (c.sk.ph = 1 ∧ ∀ j : Int, 0 ≤ j → j < y → isOf c.sk.ar j = true)
  scan : c0.sk.ph = 2 → c.sk.ph = 3 ∨ (c.sk.ph = 2 ∧ ∀ j : Int, 0 ≤ j → j < y → isOf c.sk.sc j = true)
  st : c.st = c0.st
  work : c.work = c0.work
theorem Asked.start : Asked c 0 c := ⟨fun _ => rfl, fun h => .inr ⟨h, fun j h0 h1 => by omega⟩, fun h => .inr ⟨h, fun j h0 h1 => by omega⟩, rfl, rfl⟩
theorem cyShake_none {held : List Id} (h : c.sk.ans j = (c.sk, 0)) : (cyShake s c j held).2 = c := by
  unfold cyShake
  rw [h]
  rfl
theorem Asked.next (hok : c.ok) {y : Nat} (hy : (y : Int) < c.sk.ar.length) (h : Asked c0 y c) {held : List Id} : Asked c0 (y + 1) (cyShake s c y held).2 := by
  have hr := shake_r (s := s) (c := c) (j := y) (held := held)
  have hph := hok.ph
  have hp := ans_ph c.sk y hok.ph
  have hl := hok.len
  have hysc : (y : Int) < c.sk.sc.length := by omega
  refine ⟨fun h0 => ?_, fun h1 => ?_, fun h2 => ?_, hr.2.1.trans h.st, hr.2.2.2.2.1.trans h.work⟩
  · have e := h.idle h0
    rw [cyShake_none (ans_zero (by rw [e]; omega))]
    exact e
  · rw [hr.2.2.2.2.2]
    rcases h.arm h1 with h3 | ⟨h3, h4⟩
    · left
      unfold Sk.ans
      split
      · exact h3
      · rw [if_neg (by omega)]
        split
        · split
          · exact h3
          · simp only; split <;> omega
        · exact h3
    · unfold Sk.ans
      rw [if_neg (by omega), if_pos h3]
      split
      · rename_i ha
        refine .inr ⟨h3, fun j h0 hj => ?_⟩
        by_cases ej : j = y
        · rw [ej, isOf_iff]; exact ⟨by omega, hy, ha⟩
        · exact h4 j h0 (by omega)
      · simp only
        split
        · left; omega
        · refine .inr ⟨rfl, fun j h0 hj => ?_⟩
          rw [isOf_set ⟨by omega, hy⟩]
          by_cases ej : j = y
          · rw [ej]; simp
          · rw [h4 j h0 (by omega)]; simp
  · rw [hr.2.2.2.2.2]
    rcases h.scan h2 with h3 | ⟨h3, h4⟩
    · exact .inl (hp.2.2 h3)
    · unfold Sk.ans
      rw [if_neg (by omega), if_neg (by omega), if_pos h3]
      split
      · rename_i ha
        refine .inr ⟨h3, fun j h0 hj => ?_⟩
        by_cases ej : j = y
        · rw [ej, isOf_iff]; exact ⟨by omega, hysc, ha⟩
        · exact h4 j h0 (by omega)
      · simp only
        split
        · left; rfl
        · refine .inr ⟨rfl, fun j h0 hj => ?_⟩
          rw [isOf_set ⟨by omega, hysc⟩]
          by_cases ej : j = y
          · rw [ej]; simp
          · rw [h4 j h0 (by omega)]; simp
/-- How much may be spent till the next end. -/
def rnd (s : Hs) (c : Cy) : Nat := if c.sk.ph = 3 then cyLeft9 s c else 9000 + 64 * (3 - c.sk.ph).toNat
theorem rnd_all (h : Nine s c) (ho : s.ok) (hc : c.ok) : rnd s c ≤ 9192 := by
  have := left9_all h ho hc
  have := hc.ph
  unfold rnd
  split <;> omega
theorem cySteps_pos (h : 1 ≤ c.work) : ∃ m, c.work.toNat = m + 1 := ⟨c.work.toNat - 1, by omega⟩
/-- A round's step. -/
theorem round_step (hyd : YdOk s c sl) (h : Nine s c) (h0 : Nine s c0) (hc0 : c0.ok) (ha : Asked c0 c.sk.ar.length c) : (cyStep s c 0).1.2 = true ∨ ((cyStep s c 0).1.2 = false ∧ rnd (cyStep s c 0).2.1 (cyStep s c 0).2.2 + c.work.toNat ≤ rnd s c0) := by
  have hwk := hyd.cok.work
  obtain ⟨m, hm⟩ := cySteps_pos hwk.1
  have hst := hyd.cok.state
  have hph := hyd.cok.ph
  have hl9 := left9_all h hyd.ho hyd.cok
  have hl := hyd.cok.len
  have quiet : c.sk.ph = 3 → cyLeft9 s c ≤ rnd s c0 → (cyStep s c 0).1.2 = true ∨ ((cyStep s c 0).1.2 = false ∧ rnd (cyStep s c 0).2.1 (cyStep s c 0).2.2 + c.work.toNat ≤ rnd s c0) := fun h3 hle => by
    rcases steps_quiet9 (stir := 0) (m := c.work.toNat) (fr := []) hyd h h3 with g | ⟨g1, g2, g3⟩
    · exact .inl g
    · refine .inr ⟨g1, ?_⟩
      unfold cyStep rnd
      rw [if_pos g3]
      unfold rnd at hle
      omega
  have h0ph := hc0.ph
  by_cases p0 : c0.sk.ph = 0
  · obtain rfl := ha.idle (.inl p0)
    have e : c.state = 0 := by omega
    right
    unfold cyStep
    rw [hm, steps_stop (unit0 e)]
    refine ⟨rfl, ?_⟩
    have hb : c.sk.begun.ph = 1 := by unfold Sk.begun; rw [if_pos p0]
    unfold rnd
    simp only
    rw [hb, if_neg (by decide), if_neg (by omega), p0]
    show 9000 + 64 * 2 + (m + 1) ≤ 9000 + 64 * 3
    omega
  by_cases p3 : c0.sk.ph = 3
  · obtain rfl := ha.idle (.inr p3)
    exact quiet p3 (by unfold rnd; rw [if_pos p3]; exact Nat.le_refl _)
  by_cases p2 : c0.sk.ph = 2
  · rcases ha.scan p2 with g | ⟨g1, g2⟩
    · exact quiet g (by unfold rnd; rw [if_neg p3, p2]; show _ ≤ 9000 + 64 * 1; omega)
    · obtain ⟨j, j0, j1, j2⟩ := h.sk.scan g1
      rw [g2 j j0 (by omega)] at j2
      cases j2
  · have p1 : c0.sk.ph = 1 := by omega
    rcases ha.arm p1 with g | ⟨g1, g2⟩
    · by_cases g3 : c.sk.ph = 3
      · exact quiet g3 (by unfold rnd; rw [if_neg p3, p1]; show _ ≤ 9000 + 64 * 2; omega)
      · have g2 : c.sk.ph = 2 := by omega
        have e : c.state = 2 := by
          rcases hyd.cok.st with a | a <;> omega
        right
        unfold cyStep
        rw [hm, steps_stop (unit12 (.inr e) g3)]
        refine ⟨rfl, ?_⟩
        unfold rnd
        simp only
        rw [g2, if_neg (by decide), if_neg p3, p1]
        show 9000 + 64 * 1 + (m + 1) ≤ 9000 + 64 * 2
        omega
    · obtain ⟨j, j0, j1, j2⟩ := h.sk.arm g1
      rw [g2 j j0 (by omega)] at j2
      cases j2
end
end Go.Proofs.YtojcacejgbnfkaaGreat
