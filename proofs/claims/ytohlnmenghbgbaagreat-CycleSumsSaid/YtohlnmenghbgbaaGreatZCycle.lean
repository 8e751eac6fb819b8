/- Merged by merge.py: CyS, DenCycle, CyP, CyQ, CyP2, CyP3, CyP4, CyM, CyJ. No condition. -/
import Derived.Test.YtohlnmenghbgbaaGreatZReach
import Derived.Test.YtohlnmenghbgbaaGreatZSweep
import Derived.Test.YtohlnmenghbgbaaGreatZShake
import Derived.Test.YtohlnmenghbgbaaGreatZNum
import Derived.Test.YtohlnmenghbgbaaGreatZMark
import Derived.Test.YtohlnmenghbgbaaGreatZPaint

namespace Go.Proofs.YtohlnmenghbgbaaGreat
set_option linter.unusedSimpArgs false
set_option linter.unusedVariables false
open Go
/-- What a cycle found out. -/
structure Sm where
  stir : Int
  rows : List (Int × List Id)
  outs : List (Id × Int)
  ok : Bool
/-- A collector. -/
structure Cy where
  sk : Sk
  p : Ps
  m : Mk
  r : Rc
  pl : Int
  e : Int
  st : Int
  sus : Int
  work : Int
  stir : Int
  fin : Int
  told : Sm

def Sk.begun (s : Sk) : Sk := if s.ph = 0 then { s with ph := 1, ar := s.ar.set (s.ar.length - 1) true } else s
def Sk.ended (s : Sk) : Sk := if s.ph = 3 then ⟨0, List.replicate s.ar.length false, List.replicate s.sc.length false⟩ else s
def Cy.state (c : Cy) : Int := if c.st ≠ 0 then c.st else if c.sk.ph = 1 then 1 else if c.sk.ph ≠ 0 then 2 else 0

def cyMarks (s : Hs) (c : Cy) (stir : Int) : Cy :=
  if (mkStep s c.p c.m).1 = true then { c with p := (mkStep s c.p c.m).2.1, m := (mkStep s c.p c.m).2.2 }
  else { c with p := (mkStep s c.p c.m).2.1, m := (mkStep s c.p c.m).2.2, stir := stir, r := rcNew c.sus, st := 4 }
def cyReaches (s : Hs) (c : Cy) : Cy :=
  if (mkStep s c.p c.m).1 = true then { c with p := (mkStep s c.p c.m).2.1, m := (mkStep s c.p c.m).2.2 }
  else if (rcStep s (mkStep s c.p c.m).2.1 c.r).1 = true then { c with p := (mkStep s c.p c.m).2.1, m := (mkStep s c.p c.m).2.2, r := (rcStep s (mkStep s c.p c.m).2.1 c.r).2 }
  else { c with p := (mkStep s c.p c.m).2.1, m := (mkStep s c.p c.m).2.2, r := (rcStep s (mkStep s c.p c.m).2.1 c.r).2, told := ⟨c.stir, (rcStep s (mkStep s c.p c.m).2.1 c.r).2.rows, (outsOf (mkStep s c.p c.m).2.1).filter (fun e => decide (c.sus < e.2)), true⟩, pl := 0, e := s.last, fin := s.last, st := 5 }
/-- What a unit comes to: does the step end there, and the cycle; what was freed. -/
structure CyU where
  stop : Option Bool
  freed : Int
  s : Hs
  c : Cy
noncomputable def cyUnit (s : Hs) (c : Cy) (stir : Int) : CyU :=
  if c.state = 0 then ⟨some false, 0, s, { c with p := pTurn c.p, sk := c.sk.begun }⟩
  else if c.state = 1 ∨ c.state = 2 then if c.sk.ph ≠ 3 then ⟨some false, 0, s, c⟩ else ⟨none, 0, s, cyMarks s { c with st := 3, m := ⟨0, false, 0⟩ } stir⟩
  else if c.state = 3 then ⟨none, 0, s, cyMarks s c stir⟩
  else if c.state = 4 then ⟨none, 0, s, cyReaches s c⟩
  else if c.state = 5 then
    if (swStep s c.p c.pl c.e).1.2 = false then ⟨some true, 0, (swStep s c.p c.pl c.e).2.1, { c with p := (swStep s c.p c.pl c.e).2.2.1, pl := (swStep s c.p c.pl c.e).2.2.2, sk := c.sk.ended, st := 0 }⟩
    else ⟨none, (swStep s c.p c.pl c.e).1.1, (swStep s c.p c.pl c.e).2.1, { c with p := (swStep s c.p c.pl c.e).2.2.1, pl := (swStep s c.p c.pl c.e).2.2.2 }⟩
  else ⟨none, 0, s, c⟩
noncomputable def cySteps (stir : Int) : Nat → Hs → Cy → List Int → (List Int × Bool) × Hs × Cy
  | 0, s, c, fr => ((fr, false), s, c)
  | n + 1, s, c, fr => match (cyUnit s c stir).stop with
    | some b => ((fr, b), (cyUnit s c stir).s, (cyUnit s c stir).c)
    | none => cySteps stir n (cyUnit s c stir).s (cyUnit s c stir).c (if (cyUnit s c stir).freed ≠ 0 then fr ++ [(cyUnit s c stir).freed] else fr)
noncomputable def cyStep (s : Hs) (c : Cy) (stir : Int) : (List Int × Bool) × Hs × Cy := cySteps stir c.work.toNat s c []
def cyShake (s : Hs) (c : Cy) (m : Int) (held : List Id) : Bool × Cy :=
  if (c.sk.ans m).2 = 2 then (true, { c with sk := (c.sk.ans m).1, p := pShades s c.p held 0 }) else (decide ((c.sk.ans m).2 ≠ 0), { c with sk := (c.sk.ans m).1 })
def Cy.isOpen (c : Cy) : Bool := decide (1 ≤ c.state) && decide (c.state ≤ 4)
def cyStore (s : Hs) (c : Cy) (m : Int) (old now : Id) : Cy :=
  if c.isOpen = true ∧ isOf c.sk.ar m = true then { c with p := if isOf c.sk.sc m = true then pShade s c.p old 0 else pShade s (pShade s c.p old 0) now 0 } else c
def cyBorn (s : Hs) (c : Cy) (m k : Int) : Cy :=
  if c.isOpen = true ∧ isOf c.sk.ar m = true then { c with p := if c.state = 1 then pShade s c.p ⟨s.node, k⟩ 0 else pBlacken s c.p k } else c
def newCy (n grey sus work last : Int) : Cy := ⟨⟨0, List.replicate (n.toNat + 1) false, List.replicate (n.toNat + 1) false⟩, newPs grey, ⟨0, false, 0⟩, rcNew 0, 0, last, 0, sus, work, 0, 0, ⟨0, [], [], false⟩⟩

/-- What holds of the collector's own numbers. -/
structure Cy.ok (c : Cy) : Prop where
  len : c.sk.sc.length = c.sk.ar.length
  size : 2 ≤ c.sk.ar.length ∧ c.sk.ar.length ≤ 5
  ph : 0 ≤ c.sk.ph ∧ c.sk.ph ≤ 3
  st : c.st = 0 ∨ ((c.st = 3 ∨ c.st = 4 ∨ c.st = 5) ∧ c.sk.ph = 3)
  sus : 0 ≤ c.sus ∧ c.sus ≤ 40
  work : 1 ≤ c.work ∧ c.work ≤ 64
  p : c.p.ok
  m : c.m.ok
  r : c.r.ok
  pl : 0 ≤ c.pl

section
variable {s : Hs} {c : Cy} {stir : Int}
theorem Cy.ok.state (h : c.ok) : (c.state = 0 ∧ c.st = 0 ∧ c.sk.ph = 0) ∨ (c.state = 1 ∧ c.st = 0 ∧ c.sk.ph = 1) ∨ (c.state = 2 ∧ c.st = 0 ∧ (c.sk.ph = 2 ∨ c.sk.ph = 3)) ∨ (c.state = 3 ∧ c.st = 3 ∧ c.sk.ph = 3) ∨ (c.state = 4 ∧ c.st = 4 ∧ c.sk.ph = 3) ∨ (c.state = 5 ∧ c.st = 5 ∧ c.sk.ph = 3) := by
  have h1 := h.ph
  unfold Cy.state
  rcases h.st with h2 | ⟨h2, h3⟩
  · rw [if_neg (by omega)]
    by_cases e : c.sk.ph = 1
    · rw [if_pos e]; omega
    · rw [if_neg e]
      by_cases e0 : c.sk.ph = 0
      · rw [if_neg (by omega)]; omega
      · rw [if_pos e0]; omega
  · rw [if_pos (by omega)]; omega
theorem ans_len (k : Sk) (m : Int) : (k.ans m).1.ar.length = k.ar.length ∧ (k.ans m).1.sc.length = k.sc.length := by
  unfold Sk.ans
  split
  · exact ⟨rfl, rfl⟩
  · split
    · split
      · exact ⟨rfl, rfl⟩
      · exact ⟨by simp, rfl⟩
    · split
      · split
        · exact ⟨rfl, rfl⟩
        · exact ⟨rfl, by simp⟩
      · exact ⟨rfl, rfl⟩
theorem ans_ph (k : Sk) (m : Int) (h : 0 ≤ k.ph ∧ k.ph ≤ 3) : 0 ≤ (k.ans m).1.ph ∧ (k.ans m).1.ph ≤ 3 ∧ (k.ph = 3 → (k.ans m).1.ph = 3) := by
  unfold Sk.ans
  split
  · exact ⟨h.1, h.2, id⟩
  · split
    · split
      · exact ⟨h.1, h.2, id⟩
      · simp only; split <;> omega
    · split
      · split
        · exact ⟨h.1, h.2, id⟩
        · simp only; split <;> omega
      · exact ⟨h.1, h.2, id⟩
theorem begun_len (k : Sk) : k.begun.ar.length = k.ar.length ∧ k.begun.sc.length = k.sc.length := by
  unfold Sk.begun
  split
  · exact ⟨by simp, rfl⟩
  · exact ⟨rfl, rfl⟩
theorem ended_len (k : Sk) : k.ended.ar.length = k.ar.length ∧ k.ended.sc.length = k.sc.length := by
  unfold Sk.ended
  split
  · exact ⟨by simp, by simp⟩
  · exact ⟨rfl, rfl⟩
theorem Cy.ok.marks (ho : s.ok) (h : c.ok) (hst : c.st = 3 ∧ c.sk.ph = 3) : (cyMarks s c stir).ok := by
  have h1 := mkStep_ok ho h.p h.m
  unfold cyMarks
  split
  · exact ⟨h.len, h.size, h.ph, h.st, h.sus, h.work, h1.1, h1.2, h.r, h.pl⟩
  · exact ⟨h.len, h.size, h.ph, .inr ⟨.inr (.inl rfl), hst.2⟩, h.sus, h.work, h1.1, h1.2, rcNew_ok, h.pl⟩
theorem Cy.ok.reaches (ho : s.ok) (h : c.ok) (hst : c.st = 4 ∧ c.sk.ph = 3) : (cyReaches s c).ok := by
  have h1 := mkStep_ok ho h.p h.m
  have h2 := h.r.step (p := (mkStep s c.p c.m).2.1) ho h1.1
  unfold cyReaches
  split
  · exact ⟨h.len, h.size, h.ph, h.st, h.sus, h.work, h1.1, h1.2, h.r, h.pl⟩
  · split
    · exact ⟨h.len, h.size, h.ph, h.st, h.sus, h.work, h1.1, h1.2, h2, h.pl⟩
    · exact ⟨h.len, h.size, h.ph, .inr ⟨.inr (.inr rfl), hst.2⟩, h.sus, h.work, h1.1, h1.2, h2, Int.le_refl _⟩
theorem swStep_ok {p : Ps} {pl e : Int} (ho : s.ok) (hp : p.ok) (hpl : 0 ≤ pl) : (swStep s p pl e).2.1.ok ∧ (swStep s p pl e).2.2.1.ok ∧ 0 ≤ (swStep s p pl e).2.2.2 := by
  unfold swStep
  split
  · exact ⟨ho, hp, hpl⟩
  · rename_i hc
    have hn := hNext_pos ho (q := pl) (by
      cases h : (hNext s pl).2
      · exact absurd (.inl h) hc
      · rfl)
    split
    · exact ⟨ho, hp, by simp only; omega⟩
    · exact ⟨ho.free _, hp.forget, by simp only; omega⟩
theorem Cy.ok.unit (ho : s.ok) (h : c.ok) : (cyUnit s c stir).s.ok ∧ (cyUnit s c stir).c.ok := by
  unfold cyUnit
  rcases h.state with ⟨e, e1, e2⟩ | ⟨e, e1, e2⟩ | ⟨e, e1, e2⟩ | ⟨e, e1, e2⟩ | ⟨e, e1, e2⟩ | ⟨e, e1, e2⟩
  · rw [if_pos e]
    have hb := begun_len c.sk
    refine ⟨ho, ?_⟩
    have hph : 0 ≤ c.sk.begun.ph ∧ c.sk.begun.ph ≤ 3 := by unfold Sk.begun; rw [if_pos e2]; simp
    exact ⟨by simp only; rw [hb.1, hb.2]; exact h.len, by simp only; rw [hb.1]; exact h.size, hph, .inl e1, h.sus, h.work, h.p.turn, h.m, h.r, h.pl⟩
  · rw [if_neg (by omega), if_pos (.inl e)]
    rw [if_pos (by omega)]
    exact ⟨ho, h⟩
  · rw [if_neg (by omega), if_pos (.inr e)]
    split
    · exact ⟨ho, h⟩
    · rename_i h3
      have h3 : c.sk.ph = 3 := by omega
      refine ⟨ho, Cy.ok.marks (c := { c with st := 3, m := ⟨0, false, 0⟩ }) ho ⟨h.len, h.size, h.ph, .inr ⟨.inl rfl, h3⟩, h.sus, h.work, h.p, ⟨Int.le_refl _, Int.le_refl _⟩, h.r, h.pl⟩ ⟨rfl, h3⟩⟩
  · rw [if_neg (by omega), if_neg (by omega), if_pos e]
    exact ⟨ho, h.marks ho ⟨e1, e2⟩⟩
  · rw [if_neg (by omega), if_neg (by omega), if_neg (by omega), if_pos e]
    exact ⟨ho, h.reaches ho ⟨e1, e2⟩⟩
  · rw [if_neg (by omega), if_neg (by omega), if_neg (by omega), if_neg (by omega), if_pos e]
    have h1 := swStep_ok (e := c.e) ho h.p h.pl
    have hl := ended_len c.sk
    split
    · refine ⟨h1.1, ?_⟩
      have hph : 0 ≤ c.sk.ended.ph ∧ c.sk.ended.ph ≤ 3 := by unfold Sk.ended; rw [if_pos e2]; simp
      exact ⟨by simp only; rw [hl.1, hl.2]; exact h.len, by simp only; rw [hl.1]; exact h.size, hph, .inl rfl, h.sus, h.work, h1.2.1, h.m, h.r, h1.2.2⟩
    · exact ⟨h1.1, h.len, h.size, h.ph, h.st, h.sus, h.work, h1.2.1, h.m, h.r, h1.2.2⟩
theorem cySteps_ok : ∀ {n : Nat} {s : Hs} {c : Cy} {fr : List Int}, s.ok → c.ok → (cySteps stir n s c fr).2.1.ok ∧ (cySteps stir n s c fr).2.2.ok
  | 0, s, c, fr, ho, h => ⟨ho, h⟩
  | n + 1, s, c, fr, ho, h => by
    have h1 := h.unit (stir := stir) ho
    unfold cySteps
    split
    · exact h1
    · exact cySteps_ok h1.1 h1.2
theorem Cy.ok.step (ho : s.ok) (h : c.ok) : (cyStep s c stir).2.1.ok ∧ (cyStep s c stir).2.2.ok := cySteps_ok ho h
theorem Cy.ok.shake (h : c.ok) {m : Int} {held : List Id} : (cyShake s c m held).2.ok := by
  have h1 := ans_len c.sk m
  have h2 := ans_ph c.sk m h.ph
  have hst : c.st = 0 ∨ ((c.st = 3 ∨ c.st = 4 ∨ c.st = 5) ∧ (c.sk.ans m).1.ph = 3) := h.st.imp_right fun g => ⟨g.1, h2.2.2 g.2⟩
  unfold cyShake
  split
  · exact ⟨by simp only; rw [h1.1, h1.2]; exact h.len, by simp only; rw [h1.1]; exact h.size, ⟨h2.1, h2.2.1⟩, hst, h.sus, h.work, h.p.shades, h.m, h.r, h.pl⟩
  · exact ⟨by simp only; rw [h1.1, h1.2]; exact h.len, by simp only; rw [h1.1]; exact h.size, ⟨h2.1, h2.2.1⟩, hst, h.sus, h.work, h.p, h.m, h.r, h.pl⟩
theorem Cy.ok.paint (h : c.ok) {p : Ps} (hp : p.ok) : ({ c with p := p } : Cy).ok := ⟨h.len, h.size, h.ph, h.st, h.sus, h.work, hp, h.m, h.r, h.pl⟩
theorem Cy.ok.store (h : c.ok) {m : Int} {old now : Id} : (cyStore s c m old now).ok := by
  unfold cyStore
  split
  · refine h.paint ?_
    split
    · exact h.p.shade
    · exact h.p.shade.shade
  · exact h
theorem Cy.ok.born (h : c.ok) {m k : Int} : (cyBorn s c m k).ok := by
  unfold cyBorn
  split
  · refine h.paint ?_
    split
    · exact h.p.shade
    · exact h.p.blacken
  · exact h
theorem newCy_ok {n grey sus work last : Int} (hn : 1 ≤ n ∧ n ≤ 4) (hg : 1 ≤ grey ∧ grey ≤ 64) (hs : 0 ≤ sus ∧ sus ≤ 40) (hw : 1 ≤ work ∧ work ≤ 64) : (newCy n grey sus work last).ok :=
  ⟨by simp [newCy], by simp [newCy]; omega, by simp [newCy], .inl rfl, hs, hw, newPs_ok hg, ⟨Int.le_refl _, Int.le_refl _⟩, rcNew_ok, Int.le_refl _⟩
end
end Go.Proofs.YtohlnmenghbgbaaGreat

namespace Go.Proofs.YtohlnmenghbgbaaGreat
open Go
set_option linter.unusedVariables false
set_option maxRecDepth 100000
def B_cycle_New (h1 : Option Addr) (mutators2 : Int) (grey3 : Int) (suspect4 : Int) (work5 : Int) (H : Hp) (K : Value → Hp → Prop) : Prop :=
 (bif (Option.isNone (α := Addr) h1) then
 K (.tuple #[(.pointer none), (.int .i64 1)]) H
else
 (bif (decide ((suspect4 : Int) < 0)) then
 K (.tuple #[(.pointer none), (.int .i64 1)]) H
else
 (bif (decide ((suspect4 : Int) > 40)) then
 K (.tuple #[(.pointer none), (.int .i64 1)]) H
else
 (bif (decide ((work5 : Int) < 1)) then
 K (.tuple #[(.pointer none), (.int .i64 1)]) H
else
 (bif (decide ((work5 : Int) > 64)) then
 K (.tuple #[(.pointer none), (.int .i64 1)]) H
else
 hcall PR f_shake_New ⟨[(.int .i64 mutators2)]⟩ H fun v6 Hx7 =>
 tup2 v6 fun v8 v9 =>
 asP v8 fun t10 =>
 asI .i64 v9 fun t11 =>
 hcall PR f_paint_New ⟨[(.pointer h1), (.int .i64 grey3)]⟩ Hx7 fun v12 Hx13 =>
 tup2 v12 fun v14 v15 =>
 asP v14 fun t16 =>
 asI .i64 v15 fun t17 =>
 (bif ((t11 : Int) != 0) then
 K (.tuple #[(.pointer none), (.int .i64 1)]) Hx13
else
 (bif ((t17 : Int) != 0) then
 K (.tuple #[(.pointer none), (.int .i64 1)]) Hx13
else
 hcall PR f_heap_Heap_Node ⟨[(.pointer h1)]⟩ Hx13 fun v18 Hx19 =>
 asI .i64 v18 fun t20 =>
 newB (.cells #[(.pointer t10), (.pointer h1), (.pointer t16), (.pointer none), (.pointer none), (.pointer none), (.int .i64 t20), (.int .i64 0), (.int .i64 suspect4), (.int .i64 work5), (.int .u64 0), (.int .u64 0), (.int .u64 0), (.slice none 0 0), (.slice none 0 0), (.bool false)] ty_cycle_Cycle) Hx19 fun b21 Hx22 =>
 hcall PR f_mark_New ⟨[(.pointer h1), (.pointer t16)]⟩ Hx22 fun v23 Hx24 =>
 tup2 v23 fun v25 v26 =>
 asP v25 fun t27 =>
 asI .i64 v26 fun t28 =>
 st ⟨b21, 3, none⟩ (.pointer t27) Hx24 fun Hx29 =>
 hcall PR f_reach_New ⟨[(.pointer h1), (.pointer t16)]⟩ Hx29 fun v30 Hx31 =>
 tup2 v30 fun v32 v33 =>
 asP v32 fun t34 =>
 asI .i64 v33 fun t35 =>
 st ⟨b21, 4, none⟩ (.pointer t34) Hx31 fun Hx36 =>
 hcall PR f_sweep_New ⟨[(.pointer h1), (.pointer t16)]⟩ Hx36 fun v37 Hx38 =>
 tup2 v37 fun v39 v40 =>
 asP v39 fun t41 =>
 asI .i64 v40 fun t42 =>
 st ⟨b21, 5, none⟩ (.pointer t41) Hx38 fun Hx43 =>
 K (.tuple #[(.pointer (some ⟨b21, 0, none⟩)), (.int .i64 0)]) Hx43)))))))
theorem E_cycle_New (h1 : Option Addr) (mutators2 : Int) (grey3 : Int) (suspect4 : Int) (work5 : Int) (H : Hp) (K : Value → Hp → Prop) : B_cycle_New h1 mutators2 grey3 suspect4 work5 H K = denF Tryz.prog Tryz.f16 .n [(.pointer h1), (.int .i64 mutators2), (.int .i64 grey3), (.int .i64 suspect4), (.int .i64 work5)] H K := by kernel_rfl
theorem den_cycle_New {h1 : Option Addr} {mutators2 : Int} {grey3 : Int} {suspect4 : Int} {work5 : Int} {H : Hp} {K : Value → Hp → Prop} (h : B_cycle_New h1 mutators2 grey3 suspect4 work5 H K) : hcall PR f_cycle_New ⟨[(.pointer h1), (.int .i64 mutators2), (.int .i64 grey3), (.int .i64 suspect4), (.int .i64 work5)]⟩ H K := denF_call Tryz.func16 PR_mixed (Eq.mp (E_cycle_New h1 mutators2 grey3 suspect4 work5 H K) h)

def B_cycle_Cycle_Shake (c1 : Option Addr) (m2 : Int) (heldP3 : Option Addr) (heldL4 : Nat) (heldC5 : Nat) (H : Hp) (K : Value → Hp → Prop) : Prop :=
 nilP c1 fun ca6 =>
 ldP ca6 H fun shaking7 =>
 hcall PR f_shake_Shake_Answer ⟨[(.pointer shaking7), (.int .i64 m2)]⟩ H fun v8 Hx9 =>
 asI .i64 v8 fun t10 =>
 ∀ R11 : Hp → Prop, (∀ Hx12 : Hp, (
 K (.bool ((t10 : Int) != 0)) Hx12) → R11 Hx12) →
 (bif ((t10 : Int) == 2) then
 ∃ (I13 : Int → Hp → Prop) (m14 : Int → Hp → Nat), I13 0 Hx9 ∧ ∀ t16 : Int, ∀ Hx15 : Hp, I13 t16 Hx15 →
 (bif (decide ((t16 : Int) < (heldL4 : Int))) then
 idxA heldP3 heldL4 t16 2 fun el17 =>
 ldI .i64 el17 Hx15 fun Node18 =>
 ldI .u64 (el17.add 1) Hx15 fun Serial19 =>
 newB (.cells #[(.int .i64 0), (.int .u64 0)] ty_api_ID) Hx15 fun b20 Hx21 =>
 st ⟨b20, 0, none⟩ (.int .i64 Node18) Hx21 fun Hx22 =>
 st ⟨b20, 1, none⟩ (.int .u64 Serial19) Hx22 fun Hx23 =>
 nilP c1 fun ca24 =>
 ldP (ca24.add 2) Hx23 fun paint25 =>
 ldI .i64 ⟨b20, 0, none⟩ Hx23 fun Node26 =>
 ldI .u64 ⟨b20, 1, none⟩ Hx23 fun Serial27 =>
 hcall PR f_paint_Paint_Shade ⟨[(.pointer paint25), (.agg #[(.int .i64 Node26), (.int .u64 Serial27)]), (.int .i64 0)]⟩ Hx23 fun v28 Hx29 =>
 I13 (IntKind.i64.wrap (t16 + 1)) Hx29 ∧ m14 (IntKind.i64.wrap (t16 + 1)) Hx29 < m14 t16 Hx15
else
 R11 Hx15)
else
 R11 Hx9)
theorem E_cycle_Cycle_Shake (c1 : Option Addr) (m2 : Int) (heldP3 : Option Addr) (heldL4 : Nat) (heldC5 : Nat) (H : Hp) (K : Value → Hp → Prop) : B_cycle_Cycle_Shake c1 m2 heldP3 heldL4 heldC5 H K = denF Tryz.prog Tryz.f22 (.seq none .n (.seq none .n (.seq (some ⟨[], [7]⟩) (.seq none .n (.two (.seq none .n (.sub (.loop ⟨[(20, .int .i64)], [0, 7, 18, 19]⟩ .n))) .n)) .n))) [(.pointer c1), (.int .i64 m2), (.slice heldP3 heldL4 heldC5)] H K := by kernel_rfl
theorem den_cycle_Cycle_Shake {c1 : Option Addr} {m2 : Int} {heldP3 : Option Addr} {heldL4 : Nat} {heldC5 : Nat} {H : Hp} {K : Value → Hp → Prop} (h : B_cycle_Cycle_Shake c1 m2 heldP3 heldL4 heldC5 H K) : hcall PR f_cycle_Cycle_Shake ⟨[(.pointer c1), (.int .i64 m2), (.slice heldP3 heldL4 heldC5)]⟩ H K := denF_call Tryz.func22 PR_mixed (Eq.mp (E_cycle_Cycle_Shake c1 m2 heldP3 heldL4 heldC5 H K) h)

def B_cycle_Cycle_State (c1 : Option Addr) (H : Hp) (K : Value → Hp → Prop) : Prop :=
 nilP c1 fun ca2 =>
 ldI .i64 (ca2.add 7) H fun state3 =>
 (bif ((state3 : Int) != 0) then
 nilP c1 fun ca4 =>
 ldI .i64 (ca4.add 7) H fun state5 =>
 K (.int .i64 state5) H
else
 nilP c1 fun ca6 =>
 ldP ca6 H fun shaking7 =>
 hcall PR f_shake_Shake_Phase ⟨[(.pointer shaking7)]⟩ H fun v8 Hx9 =>
 asI .i64 v8 fun t10 =>
 (bif ((t10 : Int) == 1) then
 K (.int .i64 1) Hx9
else
 nilP c1 fun ca11 =>
 ldP ca11 Hx9 fun shaking12 =>
 hcall PR f_shake_Shake_Phase ⟨[(.pointer shaking12)]⟩ Hx9 fun v13 Hx14 =>
 asI .i64 v13 fun t15 =>
 (bif ((t15 : Int) != 0) then
 K (.int .i64 2) Hx14
else
 K (.int .i64 0) Hx14)))
theorem E_cycle_Cycle_State (c1 : Option Addr) (H : Hp) (K : Value → Hp → Prop) : B_cycle_Cycle_State c1 H K = denF Tryz.prog Tryz.f25 .n [(.pointer c1)] H K := by kernel_rfl
theorem den_cycle_Cycle_State {c1 : Option Addr} {H : Hp} {K : Value → Hp → Prop} (h : B_cycle_Cycle_State c1 H K) : hcall PR f_cycle_Cycle_State ⟨[(.pointer c1)]⟩ H K := denF_call Tryz.func25 PR_mixed (Eq.mp (E_cycle_Cycle_State c1 H K) h)

def B_cycle_Cycle_Step (c1 : Option Addr) (stir2 : Int) (H : Hp) (K : Value → Hp → Prop) : Prop :=
 ∃ (I3 : Option Addr → Nat → Nat → Int → Hp → Prop) (m4 : Option Addr → Nat → Nat → Int → Hp → Nat), I3 none 0 0 0 H ∧ ∀ freedP6 : Option Addr, ∀ freedL7 : Nat, ∀ freedC8 : Nat, ∀ n9 : Int, ∀ Hx5 : Hp, I3 freedP6 freedL7 freedC8 n9 Hx5 →
 nilP c1 fun ca10 =>
 ldI .i64 (ca10.add 9) Hx5 fun work11 =>
 (bif (decide ((n9 : Int) < work11)) then
 ∀ R12 : Option Addr → Nat → Nat → Hp → Prop, (∀ freedP14 : Option Addr, ∀ freedL15 : Nat, ∀ freedC16 : Nat, ∀ Hx13 : Hp, (
 I3 freedP14 freedL15 freedC16 (IntKind.i64.wrap (n9 + 1)) Hx13 ∧ m4 freedP14 freedL15 freedC16 (IntKind.i64.wrap (n9 + 1)) Hx13 < m4 freedP6 freedL7 freedC8 n9 Hx5) → R12 freedP14 freedL15 freedC16 Hx13) →
 hcall PR f_cycle_Cycle_State ⟨[(.pointer c1)]⟩ Hx5 fun v17 Hx18 =>
 asI .i64 v17 fun t19 =>
 (bif ((t19 : Int) == 0) then
 nilP c1 fun ca20 =>
 ldP (ca20.add 2) Hx18 fun paint21 =>
 hcall PR f_paint_Paint_Turn ⟨[(.pointer paint21)]⟩ Hx18 fun v22 Hx23 =>
 nilP c1 fun ca24 =>
 ldP ca24 Hx23 fun shaking25 =>
 hcall PR f_shake_Shake_Begin ⟨[(.pointer shaking25)]⟩ Hx23 fun v26 Hx27 =>
 asI .i64 v26 fun t28 =>
 K (.tuple #[(.slice freedP6 freedL7 freedC8), (.bool false)]) Hx27
else
 ∀ R29 : Bool → Hp → Prop, (∀ t31 : Bool, ∀ Hx30 : Hp, (
 (bif t31 then
 nilP c1 fun ca32 =>
 ldP ca32 Hx30 fun shaking33 =>
 hcall PR f_shake_Shake_Phase ⟨[(.pointer shaking33)]⟩ Hx30 fun v34 Hx35 =>
 asI .i64 v34 fun t36 =>
 (bif ((t36 : Int) != 3) then
 K (.tuple #[(.slice freedP6 freedL7 freedC8), (.bool false)]) Hx35
else
 nilP c1 fun ca37 =>
 st (ca37.add 7) (.int .i64 3) Hx35 fun Hx38 =>
 nilP c1 fun ca39 =>
 ldP (ca39.add 3) Hx38 fun marker40 =>
 hcall PR f_mark_Marker_Begin ⟨[(.pointer marker40)]⟩ Hx38 fun v41 Hx42 =>
 hcall PR f_cycle_Cycle_marks ⟨[(.pointer c1), (.int .u64 stir2)]⟩ Hx42 fun v43 Hx44 =>
 R12 freedP6 freedL7 freedC8 Hx44)
else
 (bif ((t19 : Int) == 3) then
 hcall PR f_cycle_Cycle_marks ⟨[(.pointer c1), (.int .u64 stir2)]⟩ Hx30 fun v45 Hx46 =>
 R12 freedP6 freedL7 freedC8 Hx46
else
 (bif ((t19 : Int) == 4) then
 hcall PR f_cycle_Cycle_reaches ⟨[(.pointer c1)]⟩ Hx30 fun v47 Hx48 =>
 R12 freedP6 freedL7 freedC8 Hx48
else
 (bif ((t19 : Int) == 5) then
 nilP c1 fun ca49 =>
 ldP (ca49.add 5) Hx30 fun sweeper50 =>
 hcall PR f_sweep_Sweeper_Step ⟨[(.pointer sweeper50)]⟩ Hx30 fun v51 Hx52 =>
 tup2 v51 fun v53 v54 =>
 asI .u64 v53 fun t55 =>
 asB v54 fun t56 =>
 (bif (!t56) then
 nilP c1 fun ca57 =>
 ldP ca57 Hx52 fun shaking58 =>
 hcall PR f_shake_Shake_End ⟨[(.pointer shaking58)]⟩ Hx52 fun v59 Hx60 =>
 asI .i64 v59 fun t61 =>
 nilP c1 fun ca62 =>
 st (ca62.add 7) (.int .i64 0) Hx60 fun Hx63 =>
 K (.tuple #[(.slice freedP6 freedL7 freedC8), (.bool true)]) Hx63
else
 (bif ((t55 : Int) != 0) then
 newB (.cells #[(.int .u64 t55)] ty_uint64) Hx52 fun b64 Hx65 =>
 evW PR (Builtin.append_ #[ty_Suint64, ty_Suint64] ty_Suint64 #[(.slice freedP6 freedL7 freedC8), (.slice (some ⟨b64, 0, none⟩) 1 1)]) Hx65 fun v66 Hx67 =>
 asSl v66 fun tP68 tL69 tC70 =>
 R12 tP68 tL69 tC70 Hx67
else
 R12 freedP6 freedL7 freedC8 Hx52))
else
 R12 freedP6 freedL7 freedC8 Hx30))))) → R29 t31 Hx30) →
 (bif ((t19 : Int) == 1) then
 R29 ((t19 : Int) == 1) Hx18
else
 R29 ((t19 : Int) == 2) Hx18))
else
 K (.tuple #[(.slice freedP6 freedL7 freedC8), (.bool false)]) Hx5)
theorem E_cycle_Cycle_Step (c1 : Option Addr) (stir2 : Int) (H : Hp) (K : Value → Hp → Prop) : B_cycle_Cycle_Step c1 stir2 H K = denF Tryz.prog Tryz.f37 (.seq none .n (.seq none .n (.seq none (.seq none .n (.sub (.loop ⟨[(6, .sl), (7, .int .i64)], [0, 1]⟩ (.seq none .n (.seq (some ⟨[(6, .sl)], [0, 1, 7]⟩) (.sub (.seq none .n (.sub (.seq none .n (.two .n (.seq (some ⟨[(33, .bool)], [0, 1, 6, 7, 19]⟩) .n .n)))))) .n))))) .n))) [(.pointer c1), (.int .u64 stir2)] H K := by kernel_rfl
theorem den_cycle_Cycle_Step {c1 : Option Addr} {stir2 : Int} {H : Hp} {K : Value → Hp → Prop} (h : B_cycle_Cycle_Step c1 stir2 H K) : hcall PR f_cycle_Cycle_Step ⟨[(.pointer c1), (.int .u64 stir2)]⟩ H K := denF_call Tryz.func37 PR_mixed (Eq.mp (E_cycle_Cycle_Step c1 stir2 H K) h)

def B_cycle_Cycle_Summary (c1 : Option Addr) (H : Hp) (K : Value → Hp → Prop) : Prop :=
 newB (.cells #[(.int .u64 0), (.slice none 0 0), (.slice none 0 0), (.bool false)] ty_cycle_Summary) H fun b2 Hx3 =>
 ∀ R4 : Option Addr → Hp → Prop, (∀ out6 : Option Addr, ∀ Hx5 : Hp, (
 nilP c1 fun ca7 =>
 ldSl ((ca7.add 12).add 1) Hx5 fun RowsP8 RowsL9 RowsC10 =>
 ∃ (I11 : Int → Hp → Prop) (m12 : Int → Hp → Nat), I11 0 Hx5 ∧ ∀ t14 : Int, ∀ Hx13 : Hp, I11 t14 Hx13 →
 (bif (decide ((t14 : Int) < (RowsL9 : Int))) then
 idxA RowsP8 RowsL9 t14 2 fun el15 =>
 ldI .u64 el15 Hx13 fun In16 =>
 ldSl (el15.add 1) Hx13 fun OutsP17 OutsL18 OutsC19 =>
 newB (.cells #[(.int .u64 0), (.slice none 0 0)] ty_api_Reach) Hx13 fun b20 Hx21 =>
 st ⟨b20, 0, none⟩ (.int .u64 In16) Hx21 fun Hx22 =>
 st ⟨b20, 1, none⟩ (.slice OutsP17 OutsL18 OutsC19) Hx22 fun Hx23 =>
 asA (.pointer out6) fun outa24 =>
 ldSl (outa24.add 1) Hx23 fun RowsP25 RowsL26 RowsC27 =>
 ldI .u64 ⟨b20, 0, none⟩ Hx23 fun In28 =>
 ldSl ⟨b20, 1, none⟩ Hx23 fun OutsP29 OutsL30 OutsC31 =>
 newB (.cells #[] ty_api_ID) Hx23 fun b32 Hx33 =>
 (ldSl ⟨b20, 1, none⟩ Hx33 fun OutsP34 OutsL35 OutsC36 =>
 ((.slice OutsP34 OutsL35 OutsC36) : Value) = (.slice OutsP29 OutsL30 OutsC31)) ∧
 (ldI .u64 ⟨b20, 0, none⟩ Hx33 fun In37 =>
 ((.int .u64 In37) : Value) = (.int .u64 In28)) ∧
 (ldSl (outa24.add 1) Hx33 fun RowsP38 RowsL39 RowsC40 =>
 ((.slice RowsP38 RowsL39 RowsC40) : Value) = (.slice RowsP25 RowsL26 RowsC27)) ∧
 evW PR (Builtin.append_ #[ty_Sapi_ID, ty_Sapi_ID] ty_Sapi_ID #[(.slice (some ⟨b32, 0, none⟩) 0 0), (.slice OutsP29 OutsL30 OutsC31)]) Hx33 fun v41 Hx42 =>
 asSl v41 fun tP43 tL44 tC45 =>
 (ldI .u64 ⟨b20, 0, none⟩ Hx42 fun In46 =>
 ((.int .u64 In46) : Value) = (.int .u64 In28)) ∧
 (ldSl (outa24.add 1) Hx42 fun RowsP47 RowsL48 RowsC49 =>
 ((.slice RowsP47 RowsL48 RowsC49) : Value) = (.slice RowsP25 RowsL26 RowsC27)) ∧
 newB (.cells #[(.int .u64 In28), (.slice tP43 tL44 tC45)] ty_api_Reach) Hx42 fun b50 Hx51 =>
 (ldSl (outa24.add 1) Hx51 fun RowsP52 RowsL53 RowsC54 =>
 ((.slice RowsP52 RowsL53 RowsC54) : Value) = (.slice RowsP25 RowsL26 RowsC27)) ∧
 evW PR (Builtin.append_ #[ty_Sapi_Reach, ty_Sapi_Reach] ty_Sapi_Reach #[(.slice RowsP25 RowsL26 RowsC27), (.slice (some ⟨b50, 0, none⟩) 1 1)]) Hx51 fun v55 Hx56 =>
 asSl v55 fun tP57 tL58 tC59 =>
 asA (.pointer out6) fun outa60 =>
 st (outa60.add 1) (.slice tP57 tL58 tC59) Hx56 fun Hx61 =>
 I11 (IntKind.i64.wrap (t14 + 1)) Hx61 ∧ m12 (IntKind.i64.wrap (t14 + 1)) Hx61 < m12 t14 Hx13
else
 asA (.pointer out6) fun outa62 =>
 ldI .u64 outa62 Hx13 fun Stir63 =>
 ldSl (outa62.add 1) Hx13 fun RowsP64 RowsL65 RowsC66 =>
 ldSl (outa62.add 2) Hx13 fun OutsP67 OutsL68 OutsC69 =>
 ldB (outa62.add 3) Hx13 fun Ok70 =>
 st ⟨b2, 0, none⟩ (.int .u64 Stir63) Hx13 fun Hx71 =>
 st ⟨b2, 1, none⟩ (.slice RowsP64 RowsL65 RowsC66) Hx71 fun Hx72 =>
 st ⟨b2, 2, none⟩ (.slice OutsP67 OutsL68 OutsC69) Hx72 fun Hx73 =>
 st ⟨b2, 3, none⟩ (.bool Ok70) Hx73 fun Hx74 =>
 ldI .u64 ⟨b2, 0, none⟩ Hx74 fun Stir75 =>
 ldSl ⟨b2, 1, none⟩ Hx74 fun RowsP76 RowsL77 RowsC78 =>
 ldSl ⟨b2, 2, none⟩ Hx74 fun OutsP79 OutsL80 OutsC81 =>
 ldB ⟨b2, 3, none⟩ Hx74 fun Ok82 =>
 K (.agg #[(.int .u64 Stir75), (.slice RowsP76 RowsL77 RowsC78), (.slice OutsP79 OutsL80 OutsC81), (.bool Ok82)]) Hx74)) → R4 out6 Hx5) →
 nilP c1 fun ca83 =>
 ldI .u64 (ca83.add 12) Hx3 fun Stir84 =>
 nilP c1 fun ca85 =>
 ldSl ((ca85.add 12).add 2) Hx3 fun OutsP86 OutsL87 OutsC88 =>
 nilP c1 fun ca89 =>
 ldB ((ca89.add 12).add 3) Hx3 fun Ok90 =>
 (newB (.cells #[] ty_api_Out) Hx3 fun b91 Hx92 =>
 (ldB ((ca89.add 12).add 3) Hx92 fun Ok93 =>
 ((.bool Ok93) : Value) = (.bool Ok90)) ∧
 (ldSl ((ca85.add 12).add 2) Hx92 fun OutsP94 OutsL95 OutsC96 =>
 ((.slice OutsP94 OutsL95 OutsC96) : Value) = (.slice OutsP86 OutsL87 OutsC88)) ∧
 (ldI .u64 (ca83.add 12) Hx92 fun Stir97 =>
 ((.int .u64 Stir97) : Value) = (.int .u64 Stir84)) ∧
 (evW PR (Builtin.append_ #[ty_Sapi_Out, ty_Sapi_Out] ty_Sapi_Out #[(.slice (some ⟨b91, 0, none⟩) 0 0), (.slice OutsP86 OutsL87 OutsC88)]) Hx92 fun v98 Hx99 =>
 asSl v98 fun tP100 tL101 tC102 =>
 (ldB ((ca89.add 12).add 3) Hx99 fun Ok103 =>
 ((.bool Ok103) : Value) = (.bool Ok90)) ∧
 (ldI .u64 (ca83.add 12) Hx99 fun Stir104 =>
 ((.int .u64 Stir104) : Value) = (.int .u64 Stir84)) ∧
 newB (.cells #[(.int .u64 0), (.slice none 0 0), (.slice none 0 0), (.bool false)] ty_cycle_Summary) Hx99 fun b105 Hx106 =>
 (ldB ((ca89.add 12).add 3) Hx106 fun Ok107 =>
 ((.bool Ok107) : Value) = (.bool Ok90)) ∧
 (ldI .u64 (ca83.add 12) Hx106 fun Stir108 =>
 ((.int .u64 Stir108) : Value) = (.int .u64 Stir84)) ∧
 st ⟨b105, 0, none⟩ (.int .u64 Stir84) Hx106 fun Hx109 =>
 st ⟨b105, 1, none⟩ (.slice none 0 0) Hx109 fun Hx110 =>
 st ⟨b105, 2, none⟩ (.slice tP100 tL101 tC102) Hx110 fun Hx111 =>
 st ⟨b105, 3, none⟩ (.bool Ok90) Hx111 fun Hx112 =>
 R4 (some ⟨b105, 0, none⟩) Hx112) ∧
 (newB (.cells #[(.int .u64 0), (.slice none 0 0), (.slice none 0 0), (.bool false)] ty_cycle_Summary) Hx92 fun b113 Hx114 =>
 (ldB ((ca89.add 12).add 3) Hx114 fun Ok115 =>
 ((.bool Ok115) : Value) = (.bool Ok90)) ∧
 (ldSl ((ca85.add 12).add 2) Hx114 fun OutsP116 OutsL117 OutsC118 =>
 ((.slice OutsP116 OutsL117 OutsC118) : Value) = (.slice OutsP86 OutsL87 OutsC88)) ∧
 (ldI .u64 (ca83.add 12) Hx114 fun Stir119 =>
 ((.int .u64 Stir119) : Value) = (.int .u64 Stir84)) ∧
 evW PR (Builtin.append_ #[ty_Sapi_Out, ty_Sapi_Out] ty_Sapi_Out #[(.slice (some ⟨b91, 0, none⟩) 0 0), (.slice OutsP86 OutsL87 OutsC88)]) Hx114 fun v120 Hx121 =>
 asSl v120 fun tP122 tL123 tC124 =>
 (ldB ((ca89.add 12).add 3) Hx121 fun Ok125 =>
 ((.bool Ok125) : Value) = (.bool Ok90)) ∧
 (ldI .u64 (ca83.add 12) Hx121 fun Stir126 =>
 ((.int .u64 Stir126) : Value) = (.int .u64 Stir84)) ∧
 st ⟨b113, 0, none⟩ (.int .u64 Stir84) Hx121 fun Hx127 =>
 st ⟨b113, 1, none⟩ (.slice none 0 0) Hx127 fun Hx128 =>
 st ⟨b113, 2, none⟩ (.slice tP122 tL123 tC124) Hx128 fun Hx129 =>
 st ⟨b113, 3, none⟩ (.bool Ok90) Hx129 fun Hx130 =>
 R4 (some ⟨b113, 0, none⟩) Hx130)) ∧
 (newB (.cells #[(.int .u64 0), (.slice none 0 0), (.slice none 0 0), (.bool false)] ty_cycle_Summary) Hx3 fun b131 Hx132 =>
 (ldB ((ca89.add 12).add 3) Hx132 fun Ok133 =>
 ((.bool Ok133) : Value) = (.bool Ok90)) ∧
 (ldSl ((ca85.add 12).add 2) Hx132 fun OutsP134 OutsL135 OutsC136 =>
 ((.slice OutsP134 OutsL135 OutsC136) : Value) = (.slice OutsP86 OutsL87 OutsC88)) ∧
 (ldI .u64 (ca83.add 12) Hx132 fun Stir137 =>
 ((.int .u64 Stir137) : Value) = (.int .u64 Stir84)) ∧
 newB (.cells #[] ty_api_Out) Hx132 fun b138 Hx139 =>
 (ldB ((ca89.add 12).add 3) Hx139 fun Ok140 =>
 ((.bool Ok140) : Value) = (.bool Ok90)) ∧
 (ldSl ((ca85.add 12).add 2) Hx139 fun OutsP141 OutsL142 OutsC143 =>
 ((.slice OutsP141 OutsL142 OutsC143) : Value) = (.slice OutsP86 OutsL87 OutsC88)) ∧
 (ldI .u64 (ca83.add 12) Hx139 fun Stir144 =>
 ((.int .u64 Stir144) : Value) = (.int .u64 Stir84)) ∧
 evW PR (Builtin.append_ #[ty_Sapi_Out, ty_Sapi_Out] ty_Sapi_Out #[(.slice (some ⟨b138, 0, none⟩) 0 0), (.slice OutsP86 OutsL87 OutsC88)]) Hx139 fun v145 Hx146 =>
 asSl v145 fun tP147 tL148 tC149 =>
 (ldB ((ca89.add 12).add 3) Hx146 fun Ok150 =>
 ((.bool Ok150) : Value) = (.bool Ok90)) ∧
 (ldI .u64 (ca83.add 12) Hx146 fun Stir151 =>
 ((.int .u64 Stir151) : Value) = (.int .u64 Stir84)) ∧
 st ⟨b131, 0, none⟩ (.int .u64 Stir84) Hx146 fun Hx152 =>
 st ⟨b131, 1, none⟩ (.slice none 0 0) Hx152 fun Hx153 =>
 st ⟨b131, 2, none⟩ (.slice tP147 tL148 tC149) Hx153 fun Hx154 =>
 st ⟨b131, 3, none⟩ (.bool Ok90) Hx154 fun Hx155 =>
 R4 (some ⟨b131, 0, none⟩) Hx155)
theorem E_cycle_Cycle_Summary (c1 : Option Addr) (H : Hp) (K : Value → Hp → Prop) : B_cycle_Cycle_Summary c1 H K = denF Tryz.prog Tryz.f70 (.seq none .n (.seq (some ⟨[(3, .ptr)], [0, 2]⟩) .n (.seq none (.seq none .n (.sub (.loop ⟨[(30, .int .i64)], [2, 3, 28, 29]⟩ .n))) .n))) [(.pointer c1)] H K := by kernel_rfl
theorem den_cycle_Cycle_Summary {c1 : Option Addr} {H : Hp} {K : Value → Hp → Prop} (h : B_cycle_Cycle_Summary c1 H K) : hcall PR f_cycle_Cycle_Summary ⟨[(.pointer c1)]⟩ H K := denF_call Tryz.func70 PR_mixed (Eq.mp (E_cycle_Cycle_Summary c1 H K) h)

def B_cycle_Cycle_marks (c1 : Option Addr) (stir2 : Int) (H : Hp) (K : Value → Hp → Prop) : Prop :=
 nilP c1 fun ca3 =>
 ldP (ca3.add 3) H fun marker4 =>
 hcall PR f_mark_Marker_Step ⟨[(.pointer marker4)]⟩ H fun v5 Hx6 =>
 asB v5 fun t7 =>
 (bif t7 then
 K (.tuple #[]) Hx6
else
 nilP c1 fun ca8 =>
 st (ca8.add 10) (.int .u64 stir2) Hx6 fun Hx9 =>
 nilP c1 fun ca10 =>
 ldP (ca10.add 4) Hx9 fun reacher11 =>
 nilP c1 fun ca12 =>
 ldI .i64 (ca12.add 8) Hx9 fun suspect13 =>
 hcall PR f_reach_Reacher_Begin ⟨[(.pointer reacher11), (.int .i64 suspect13)]⟩ Hx9 fun v14 Hx15 =>
 nilP c1 fun ca16 =>
 st (ca16.add 7) (.int .i64 4) Hx15 fun Hx17 =>
 K (.tuple #[]) Hx17)
theorem E_cycle_Cycle_marks (c1 : Option Addr) (stir2 : Int) (H : Hp) (K : Value → Hp → Prop) : B_cycle_Cycle_marks c1 stir2 H K = denF Tryz.prog Tryz.f108 .n [(.pointer c1), (.int .u64 stir2)] H K := by kernel_rfl
theorem den_cycle_Cycle_marks {c1 : Option Addr} {stir2 : Int} {H : Hp} {K : Value → Hp → Prop} (h : B_cycle_Cycle_marks c1 stir2 H K) : hcall PR f_cycle_Cycle_marks ⟨[(.pointer c1), (.int .u64 stir2)]⟩ H K := denF_call Tryz.func108 PR_mixed (Eq.mp (E_cycle_Cycle_marks c1 stir2 H K) h)

def B_cycle_Cycle_reaches (c1 : Option Addr) (H : Hp) (K : Value → Hp → Prop) : Prop :=
 nilP c1 fun ca2 =>
 ldP (ca2.add 3) H fun marker3 =>
 hcall PR f_mark_Marker_Step ⟨[(.pointer marker3)]⟩ H fun v4 Hx5 =>
 asB v4 fun t6 =>
 (bif t6 then
 K (.tuple #[]) Hx5
else
 nilP c1 fun ca7 =>
 ldP (ca7.add 4) Hx5 fun reacher8 =>
 hcall PR f_reach_Reacher_Step ⟨[(.pointer reacher8)]⟩ Hx5 fun v9 Hx10 =>
 asB v9 fun t11 =>
 (bif t11 then
 K (.tuple #[]) Hx10
else
 nilP c1 fun ca12 =>
 ldI .u64 (ca12.add 10) Hx10 fun stir13 =>
 nilP c1 fun ca14 =>
 ldP (ca14.add 4) Hx10 fun reacher15 =>
 hcall PR f_reach_Reacher_Rows ⟨[(.pointer reacher15)]⟩ Hx10 fun v16 Hx17 =>
 asSl v16 fun tP18 tL19 tC20 =>
 (ldI .u64 (ca12.add 10) Hx17 fun stir21 =>
 ((.int .u64 stir21) : Value) = (.int .u64 stir13)) ∧
 nilP c1 fun ca22 =>
 st (ca22.add 12) (.int .u64 stir13) Hx17 fun Hx23 =>
 st ((ca22.add 12).add 1) (.slice tP18 tL19 tC20) Hx23 fun Hx24 =>
 st ((ca22.add 12).add 2) (.slice none 0 0) Hx24 fun Hx25 =>
 st ((ca22.add 12).add 3) (.bool true) Hx25 fun Hx26 =>
 nilP c1 fun ca27 =>
 ldP (ca27.add 2) Hx26 fun paint28 =>
 hcall PR f_paint_Paint_Outs ⟨[(.pointer paint28)]⟩ Hx26 fun v29 Hx30 =>
 asSl v29 fun tP31 tL32 tC33 =>
 ∃ (I34 : Int → Hp → Prop) (m35 : Int → Hp → Nat), I34 0 Hx30 ∧ ∀ t37 : Int, ∀ Hx36 : Hp, I34 t37 Hx36 →
 (bif (decide ((t37 : Int) < (tL32 : Int))) then
 ∀ R38 : Hp → Prop, (∀ Hx39 : Hp, (
 I34 (IntKind.i64.wrap (t37 + 1)) Hx39 ∧ m35 (IntKind.i64.wrap (t37 + 1)) Hx39 < m35 t37 Hx36) → R38 Hx39) →
 idxA tP31 tL32 t37 3 fun el40 =>
 ldI .i64 el40 Hx36 fun Node41 =>
 ldI .u64 (el40.add 1) Hx36 fun Serial42 =>
 ldI .i64 (el40.add 2) Hx36 fun Rank43 =>
 newB (.cells #[(.int .i64 0), (.int .u64 0), (.int .i64 0)] ty_api_Out) Hx36 fun b44 Hx45 =>
 st ⟨b44, 0, none⟩ (.int .i64 Node41) Hx45 fun Hx46 =>
 st ⟨b44, 1, none⟩ (.int .u64 Serial42) Hx46 fun Hx47 =>
 st ⟨b44, 2, none⟩ (.int .i64 Rank43) Hx47 fun Hx48 =>
 ldI .i64 ⟨b44, 2, none⟩ Hx48 fun Rank49 =>
 nilP c1 fun ca50 =>
 ldI .i64 (ca50.add 8) Hx48 fun suspect51 =>
 (bif (decide ((Rank49 : Int) > suspect51)) then
 nilP c1 fun ca52 =>
 ldSl ((ca52.add 12).add 2) Hx48 fun OutsP53 OutsL54 OutsC55 =>
 ldI .i64 ⟨b44, 0, none⟩ Hx48 fun Node56 =>
 ldI .u64 ⟨b44, 1, none⟩ Hx48 fun Serial57 =>
 ldI .i64 ⟨b44, 2, none⟩ Hx48 fun Rank58 =>
 newB (.cells #[(.int .i64 Node56), (.int .u64 Serial57), (.int .i64 Rank58)] ty_api_Out) Hx48 fun b59 Hx60 =>
 (ldSl ((ca52.add 12).add 2) Hx60 fun OutsP61 OutsL62 OutsC63 =>
 ((.slice OutsP61 OutsL62 OutsC63) : Value) = (.slice OutsP53 OutsL54 OutsC55)) ∧
 evW PR (Builtin.append_ #[ty_Sapi_Out, ty_Sapi_Out] ty_Sapi_Out #[(.slice OutsP53 OutsL54 OutsC55), (.slice (some ⟨b59, 0, none⟩) 1 1)]) Hx60 fun v64 Hx65 =>
 asSl v64 fun tP66 tL67 tC68 =>
 nilP c1 fun ca69 =>
 st ((ca69.add 12).add 2) (.slice tP66 tL67 tC68) Hx65 fun Hx70 =>
 R38 Hx70
else
 R38 Hx48)
else
 nilP c1 fun ca71 =>
 ldP (ca71.add 5) Hx36 fun sweeper72 =>
 hcall PR f_sweep_Sweeper_Begin ⟨[(.pointer sweeper72)]⟩ Hx36 fun v73 Hx74 =>
 nilP c1 fun ca75 =>
 ldP (ca75.add 1) Hx74 fun heap76 =>
 hcall PR f_heap_Heap_Last ⟨[(.pointer heap76)]⟩ Hx74 fun v77 Hx78 =>
 asI .u64 v77 fun t79 =>
 nilP c1 fun ca80 =>
 st (ca80.add 11) (.int .u64 t79) Hx78 fun Hx81 =>
 nilP c1 fun ca82 =>
 st (ca82.add 7) (.int .i64 5) Hx81 fun Hx83 =>
 K (.tuple #[]) Hx83)))
theorem E_cycle_Cycle_reaches (c1 : Option Addr) (H : Hp) (K : Value → Hp → Prop) : B_cycle_Cycle_reaches c1 H K = denF Tryz.prog Tryz.f109 (.seq none .n (.seq none .n (.seq none (.seq none .n (.sub (.loop ⟨[(35, .int .i64)], [0, 33, 34]⟩ (.seq none .n (.seq none .n (.seq (some ⟨[], [0, 33, 34, 35]⟩) .n .n)))))) .n))) [(.pointer c1)] H K := by kernel_rfl
theorem den_cycle_Cycle_reaches {c1 : Option Addr} {H : Hp} {K : Value → Hp → Prop} (h : B_cycle_Cycle_reaches c1 H K) : hcall PR f_cycle_Cycle_reaches ⟨[(.pointer c1)]⟩ H K := denF_call Tryz.func109 PR_mixed (Eq.mp (E_cycle_Cycle_reaches c1 H K) h)

end Go.Proofs.YtohlnmenghbgbaaGreat

namespace Go.Proofs.YtohlnmenghbgbaaGreat
set_option linter.unusedSimpArgs false
set_option linter.unusedVariables false
open Go
structure CyX where
  kb : Nat
  pb : Nat
  mb : Nat
  rb : Nat
  sb : Nat
  ST : Nat
  tp : Option Addr
  tc : Nat
  op : Option Addr
  oc : Nat
  T : Nat
def cyCells (hb : Nat) (c : Cy) (x : CyX) : Array Value := #[ptrV x.kb, ptrV hb, ptrV x.pb, ptrV x.mb, ptrV x.rb, ptrV x.sb, .int .i64 1, .int .i64 c.st, .int .i64 c.sus, .int .i64 c.work, .int .u64 c.stir, .int .u64 c.fin, .int .u64 c.told.stir, .slice x.tp c.told.rows.length x.tc, .slice x.op c.told.outs.length x.oc, .bool c.told.ok]
def cyParts (b hb : Nat) (c : Cy) (x : CyX) : List Prt :=
  [Prt.one b (.cells (cyCells hb c x) x.T (0, 0)), Shk x.kb c.sk, PaintP x.pb hb c.p, MkP x.mb hb x.pb c.m, RcP x.rb hb x.pb c.r, SwP x.ST x.sb hb x.pb c.pl c.e, RowsP x.tp x.tc c.told.rows, Prt.row 3 x.op c.told.outs.length x.oc (cel outC c.told.outs), Prt.pure c.ok]
/-- A collector of a heap of node 1. -/
def CyP (b hb : Nat) (c : Cy) : Prt := Prt.ex fun x => Prt.list (cyParts b hb c x)

section
variable {H0 H : Hp} {L M N : List Prt} {i j k b hb : Nat} {s : Hs} {c : Cy} {K : Value → Hp → Prop}
theorem cyOpened (h : St H0 L H) (hk : L[k]? = some (CyP b hb c)) : ∃ x, St H0 (cyParts b hb c x ++ L.set k .nil) H ∧ c.ok := by
  obtain ⟨x, h1⟩ := h.openEx hk
  exact ⟨x, h1, h1.fact (i := 8) rfl⟩
theorem cyShut {B : Prt} {x : CyX} (h : St H0 (N ++ (cyParts b hb c x ++ L.set k .nil)) H) (hk : L[k]? = some B) : St H0 (N ++ L.set k (CyP b hb c)) H := St.shutExN (A := cyParts b hb c) (N := N) x h hk
theorem cy_ok (h : St H0 L H) (hk : L[k]? = some (CyP b hb c)) : c.ok := let ⟨_, _, h⟩ := cyOpened h hk; h
theorem set_get_ne {A B : Prt} (hi : L[i]? = some A) (hik : i ≠ k) : (L.set k B)[i]? = some A := by rw [List.getElem?_set_ne (Ne.symm hik)]; exact hi

/-! ## The shaking, as a part -/
theorem shkPhaseC {kb : Nat} {q : Sk} (h : St H0 L H) (hi : L[i]? = some (Shk kb q)) (hK : K (.int .i64 q.ph) H) : hcall PR f_shake_Shake_Phase ⟨[.pointer (some ⟨kb, 0, none⟩)]⟩ H K := by
  obtain ⟨_, ha, _⟩ := h.at hi
  exact shakePhase_ok ha hK
theorem shkAnswerC {kb : Nat} {q : Sk} {m : Int} (h : St H0 L H) (hi : L[i]? = some (Shk kb q)) (hl : q.sc.length = q.ar.length) (hn : q.ar.length ≤ 100) (hK : ∀ H', St H0 (L.set i (Shk kb (q.ans m).1)) H' → K (.int .i64 (q.ans m).2) H') :
    hcall PR f_shake_Shake_Answer ⟨[.pointer (some ⟨kb, 0, none⟩), .int .i64 m]⟩ H K := by
  obtain ⟨Fi, ha, up⟩ := h.at hi
  exact shakeAnswer_ok ha hl (by omega) fun F' H' h' g => hK H' (up _ F' H' h' g)
theorem shkBeginC {kb : Nat} {q : Sk} (h : St H0 L H) (hi : L[i]? = some (Shk kb q)) (hn : 0 < q.ar.length ∧ q.ar.length ≤ 100) (hK : ∀ v H', St H0 (L.set i (Shk kb q.begun)) H' → K (.int .i64 v) H') :
    hcall PR f_shake_Shake_Begin ⟨[.pointer (some ⟨kb, 0, none⟩)]⟩ H K := by
  obtain ⟨Fi, ha, up⟩ := h.at hi
  by_cases hp : q.ph = 0
  · have e : q.begun = { q with ph := 1, ar := q.ar.set (q.ar.length - 1) true } := by unfold Sk.begun; rw [if_pos hp]
    rw [e] at hK
    exact shakeBegin_ok ha hp hn.1 (by omega) fun F' H' h' g => hK 0 H' (up _ F' H' h' g)
  · have e : q.begun = q := by unfold Sk.begun; rw [if_neg hp]
    rw [e] at hK
    refine shakeBegin_busy ha hp (hK 10 H ?_)
    rw [List.set_self hi]
    exact h
theorem shkEndC {kb : Nat} {q : Sk} (h : St H0 L H) (hi : L[i]? = some (Shk kb q)) (hK : ∀ v H', St H0 (L.set i (Shk kb q.ended)) H' → K (.int .i64 v) H') :
    hcall PR f_shake_Shake_End ⟨[.pointer (some ⟨kb, 0, none⟩)]⟩ H K := by
  obtain ⟨Fi, ha, up⟩ := h.at hi
  by_cases hp : q.ph = 3
  · have e : q.ended = ⟨0, List.replicate q.ar.length false, List.replicate q.sc.length false⟩ := by unfold Sk.ended; rw [if_pos hp]
    rw [e] at hK
    exact shakeEnd_ok ha hp fun F' H' h' g => hK 0 H' (up _ F' H' h' g)
  · have e : q.ended = q := by unfold Sk.ended; rw [if_neg hp]
    rw [e] at hK
    refine shakeEnd_busy ha hp (hK 10 H ?_)
    rw [List.set_self hi]
    exact h

/-! ## Asked -/
theorem cyStateP {x : CyX} (g : St H0 (cyParts b hb c x ++ M) H) (hK : K (.int .i64 c.state) H) : hcall PR f_cycle_Cycle_State ⟨[.pointer (some ⟨b, 0, none⟩)]⟩ H K := by
  apply den_cycle_Cycle_State
  unfold B_cycle_Cycle_State
  simp only [asI_mk', asB_mk, asP_mk, asA_mk, asM_mk, asSl_mk, asStr_mk, tup2_mk, tup3_mk, agg1_mk, agg2_mk, agg3_mk, agg4_mk, asAggm, unCons_mk, unNil_mk, asTup_mk, extractD0, extractD1, List.toList_toArray, nilP_mk, add_mk, Nat.zero_add, Nat.add_zero, condT, condF, Bool.not_true, Bool.not_false, Option.isNone_some, Option.isNone_none]
  unfold Cy.state at hK
  refine ldI_of (g.cell (i := 0) rfl rfl) ?_
  by_cases h0 : c.st = 0
  · rw [if_neg (by simpa using h0)] at hK
    refine bif_neqf h0 (ldP_of (g.cell (i := 0) rfl rfl) (shkPhaseC g (i := 1) rfl ?_))
    simp only [asI_mk', asB_mk, asP_mk, asA_mk, asM_mk, asSl_mk, asStr_mk, tup2_mk, tup3_mk, agg1_mk, agg2_mk, agg3_mk, agg4_mk, asAggm, unCons_mk, unNil_mk, asTup_mk, extractD0, extractD1, List.toList_toArray, nilP_mk, add_mk, Nat.zero_add, Nat.add_zero, condT, condF, Bool.not_true, Bool.not_false, Option.isNone_some, Option.isNone_none]
    by_cases h1 : c.sk.ph = 1
    · rw [if_pos h1] at hK
      exact bif_eq h1 hK
    · rw [if_neg h1] at hK
      refine bif_ne h1 (ldP_of (g.cell (i := 0) rfl rfl) (shkPhaseC g (i := 1) rfl ?_))
      simp only [asI_mk', asB_mk, asP_mk, asA_mk, asM_mk, asSl_mk, asStr_mk, tup2_mk, tup3_mk, agg1_mk, agg2_mk, agg3_mk, agg4_mk, asAggm, unCons_mk, unNil_mk, asTup_mk, extractD0, extractD1, List.toList_toArray, nilP_mk, add_mk, Nat.zero_add, Nat.add_zero, condT, condF, Bool.not_true, Bool.not_false, Option.isNone_some, Option.isNone_none]
      by_cases h2 : c.sk.ph = 0
      · rw [if_neg (by simpa using h2)] at hK
        exact bif_neqf h2 hK
      · rw [if_pos h2] at hK
        exact bif_neq h2 hK
  · rw [if_pos h0] at hK
    exact bif_neq h0 (ldI_of (g.cell (i := 0) rfl rfl) hK)
theorem cyStateC (h : St H0 L H) (hk : L[k]? = some (CyP b hb c)) (hK : K (.int .i64 c.state) H) : hcall PR f_cycle_Cycle_State ⟨[.pointer (some ⟨b, 0, none⟩)]⟩ H K := by
  obtain ⟨x, g, _⟩ := cyOpened h hk
  exact cyStateP g hK
theorem cyShakeC {m : Int} {hp : Option Addr} {hc : Nat} {held : List Id} (h : St H0 L H) (hi : L[i]? = some (HeapP hb s)) (hk : L[k]? = some (CyP b hb c)) (hik : i ≠ k) (hheld : ∀ N H', St H0 (N ++ L.set k .nil) H' → Rd H' 2 hp held.length (cel Id.cells held)) (hl : held.length ≤ 1000000)
    (hK : ∀ H', St H0 (L.set k (CyP b hb (cyShake s c m held).2)) H' → K (.bool (cyShake s c m held).1) H') : hcall PR f_cycle_Cycle_Shake ⟨[.pointer (some ⟨b, 0, none⟩), .int .i64 m, .slice hp held.length hc]⟩ H K := by
  have hco := cy_ok h hk
  have hcok := hco.shake (s := s) (m := m) (held := held)
  obtain ⟨x, g, ho⟩ := cyOpened h hk
  apply den_cycle_Cycle_Shake
  unfold B_cycle_Cycle_Shake
  simp only [asI_mk', asB_mk, asP_mk, asA_mk, asM_mk, asSl_mk, asStr_mk, tup2_mk, tup3_mk, agg1_mk, agg2_mk, agg3_mk, agg4_mk, asAggm, unCons_mk, unNil_mk, asTup_mk, extractD0, extractD1, List.toList_toArray, nilP_mk, add_mk, Nat.zero_add, Nat.add_zero, condT, condF, Bool.not_true, Bool.not_false, Option.isNone_some, Option.isNone_none]
  refine ldP_of (g.cell (i := 0) rfl rfl) (shkAnswerC g (i := 1) rfl hco.len (by have := hco.size; omega) fun H1 g1 => ?_)
  simp only [asI_mk', asB_mk, asP_mk, asA_mk, asM_mk, asSl_mk, asStr_mk, tup2_mk, tup3_mk, agg1_mk, agg2_mk, agg3_mk, agg4_mk, asAggm, unCons_mk, unNil_mk, asTup_mk, extractD0, extractD1, List.toList_toArray, nilP_mk, add_mk, Nat.zero_add, Nat.add_zero, condT, condF, Bool.not_true, Bool.not_false, Option.isNone_some, Option.isNone_none]
  intro R11 hR11
  have hR11 : ∀ c' v H', cyShake s c m held = (v, c') → decide ((c.sk.ans m).2 ≠ 0) = v → (∃ x', St H0 (cyParts b hb c' x' ++ L.set k .nil) H') → R11 H' := fun c' v H' e ev ⟨x', g'⟩ => by
    refine hR11 H' ?_
    have h3 : St H0 (L.set k (CyP b hb c')) H' := cyShut (N := []) g' hk
    have := hK H'
    rw [e] at this
    have := this h3
    simp only at this
    rw [← ev] at this
    rw [show ((c.sk.ans m).2 != 0) = decide ((c.sk.ans m).2 ≠ 0) by rw [bne]; cases hh : ((c.sk.ans m).2 == 0) <;> simp_all]
    exact this
  by_cases h2 : (c.sk.ans m).2 = 2
  rotate_left
  · refine bif_ne h2 ?_
    have e : cyShake s c m held = (decide ((c.sk.ans m).2 ≠ 0), { c with sk := (c.sk.ans m).1 }) := by unfold cyShake; rw [if_neg h2]
    rw [e] at hcok
    have g2 := g1.refact (i := 8) (q := ({ c with sk := (c.sk.ans m).1 } : Cy).ok) rfl hcok
    exact hR11 _ _ H1 e rfl ⟨x, g2⟩
  refine bif_eq h2 ?_
  have e : cyShake s c m held = (true, { c with sk := (c.sk.ans m).1, p := pShades s c.p held 0 }) := by unfold cyShake; rw [if_pos h2]
  rw [e] at hcok
  refine ⟨fun t H' => ∃ y : Nat, t = y ∧ y ≤ held.length ∧ St H0 (cyParts b hb { c with p := pShades s c.p (held.take y) 0 } x |>.set 1 (Shk x.kb (c.sk.ans m).1) |>.set 8 (Prt.pure c.ok) |> (· ++ L.set k .nil)) H', fun t _ => ((held.length : Int) - t).toNat, ⟨0, rfl, by omega, by rw [List.take_zero]; exact g1⟩, ?_⟩
  clear g1 g
  rintro t H2 ⟨y, rfl, hy, g2⟩
  have g2 : St H0 (Prt.one b (.cells (cyCells hb c x) x.T (0, 0)) :: Shk x.kb (c.sk.ans m).1 :: PaintP x.pb hb (pShades s c.p (held.take y) 0) :: MkP x.mb hb x.pb c.m :: RcP x.rb hb x.pb c.r :: SwP x.ST x.sb hb x.pb c.pl c.e :: RowsP x.tp x.tc c.told.rows :: Prt.row 3 x.op c.told.outs.length x.oc (cel outC c.told.outs) :: Prt.pure c.ok :: L.set k .nil) H2 := g2
  by_cases hcy : (y : Int) < ((held.length : Nat) : Int)
  rotate_left
  · obtain rfl : y = held.length := by omega
    rw [List.take_length] at g2
    refine bif_neg hcy ?_
    have g3 := g2.refact (i := 8) (q := ({ c with sk := (c.sk.ans m).1, p := pShades s c.p held 0 } : Cy).ok) rfl hcok
    exact hR11 _ _ H2 e (by rw [h2]; decide) ⟨x, g3⟩
  refine bif_pos hcy ?_
  have hrd := hheld [_, _, _, _, _, _, _, _, _] H2 g2
  refine idxS Id.len noId hrd (by omega) (by omega) hcy fun b1 o1 _ hl1 hcc => ?_
  have c0 := hcc 0 (by omega)
  have c1 := hcc 1 (by omega)
  simp only [asI_mk', asB_mk, asP_mk, asA_mk, asM_mk, asSl_mk, asStr_mk, tup2_mk, tup3_mk, agg1_mk, agg2_mk, agg3_mk, agg4_mk, asAggm, unCons_mk, unNil_mk, asTup_mk, extractD0, extractD1, List.toList_toArray, nilP_mk, add_mk, Nat.zero_add, Nat.add_zero, condT, condF, Bool.not_true, Bool.not_false, Option.isNone_some, Option.isNone_none]
  rw [Int.toNat_natCast] at c0 c1
  refine ldI_of c0 (ldI_of c1 (box2 g2 fun b20 H3 g3 => ?_))
  refine ldP_of (g3.cell (i := 1) rfl rfl) (ldI_of (g3.cell (i := 0) rfl rfl) (ldI_of (g3.cell (i := 0) rfl rfl) ?_))
  refine pShadeC (y := held.getD y noId) g3 (i := i + 10) (j := 3) (by show (L.set k .nil)[i]? = _; exact set_get_ne hi hik) rfl (by omega) fun H4 g4 => ?_
  rw [wrap_i64 (by omega) (by omega)]
  refine ⟨⟨y + 1, by omega, by omega, ?_⟩, by (try dsimp only); omega⟩
  rw [pShades_take (by omega)]
  exact g4.less
end
end Go.Proofs.YtohlnmenghbgbaaGreat

namespace Go.Proofs.YtohlnmenghbgbaaGreat
set_option linter.unusedSimpArgs false
set_option linter.unusedVariables false
open Go
/-- How much a collector may hold. -/
structure Cy.lt (c : Cy) (n : Nat) : Prop where
  p : c.p.lt n
  r : c.r.lt n
  rows : c.told.rows.length ≤ n
  rlen : ∀ r ∈ c.told.rows, r.2.length ≤ n
  outs : c.told.outs.length ≤ n

section
variable {s s1 : Hs} {c c1 : Cy} {stir f : Int} {n m : Nat} {v : Bool} {fr : List Int}
theorem cyMk_lt {p : Ps} {m : Mk} (ho : s.ok) (h : p.lt n) : (mkStep s p m).2.1.lt (n + 7) := by
  unfold mkStep
  split
  · exact h.pop.scan ho
  · split
    · exact h.scan ho
    · split
      · exact h.rest.mono (by omega)
      · split
        · exact h.mono (by omega)
        · simp only
          unfold mkSee
          split
          · split
            · exact h.shade.mono (by omega)
            · exact h.mono (by omega)
          · exact h.mono (by omega)
theorem Cy.lt.mono (h : c.lt n) (hm : n ≤ m) : c.lt m := ⟨h.p.mono hm, h.r.mono hm, by have := h.rows; omega, fun r hr => by have := h.rlen r hr; omega, by have := h.outs; omega⟩
theorem Cy.lt.marks (ho : s.ok) (h : c.lt n) : (cyMarks s c stir).lt (n + 7) := by
  have h1 := cyMk_lt (m := c.m) ho h.p
  have h2 := h.mono (m := n + 7) (by omega)
  unfold cyMarks
  split
  · exact ⟨h1, h2.r, h2.rows, h2.rlen, h2.outs⟩
  · exact ⟨h1, ⟨fun w hw => by (cases hw), Nat.zero_le _, fun r hr => by (cases hr)⟩, h2.rows, h2.rlen, h2.outs⟩
theorem Cy.lt.reaches (ho : s.ok) (hc : c.ok) (h : c.lt n) : (cyReaches s c).lt (n + 7) := by
  have h1 := cyMk_lt (m := c.m) ho h.p
  have h2 := h.mono (m := n + 7) (by omega)
  have h3 := h.r.step (p := (mkStep s c.p c.m).2.1) ho
  unfold cyReaches
  split
  · exact ⟨h1, h2.r, h2.rows, h2.rlen, h2.outs⟩
  · split
    · exact ⟨h1, h3, h2.rows, h2.rlen, h2.outs⟩
    · refine ⟨h1, h3, h3.rows, h3.outs, ?_⟩
      have h4 := (outsOf_ok (mkStep_ok ho hc.p hc.m).1).2.length_eq
      have h5 := List.length_filter_le (fun e : Id × Int => decide (c.sus < e.2)) (outsOf (mkStep s c.p c.m).2.1)
      have h6 := h1.2
      simp only
      omega
theorem cySw_lt {p : Ps} {pl e : Int} (h : p.lt n) : (swStep s p pl e).2.2.1.lt n := by
  unfold swStep
  split
  · exact h
  · split
    · exact h
    · exact h.forget
theorem unit0 (h : c.state = 0) : cyUnit s c stir = ⟨some false, 0, s, { c with p := pTurn c.p, sk := c.sk.begun }⟩ := by unfold cyUnit; rw [if_pos h]
theorem unit12 (h : c.state = 1 ∨ c.state = 2) (h3 : c.sk.ph ≠ 3) : cyUnit s c stir = ⟨some false, 0, s, c⟩ := by unfold cyUnit; rw [if_neg (by omega), if_pos h, if_pos h3]
theorem unit23 (h : c.state = 1 ∨ c.state = 2) (h3 : c.sk.ph = 3) : cyUnit s c stir = ⟨none, 0, s, cyMarks s { c with st := 3, m := ⟨0, false, 0⟩ } stir⟩ := by unfold cyUnit; rw [if_neg (by omega), if_pos h, if_neg (by omega)]
theorem unit3 (h : c.state = 3) : cyUnit s c stir = ⟨none, 0, s, cyMarks s c stir⟩ := by unfold cyUnit; rw [if_neg (by omega), if_neg (by omega), if_pos h]
theorem unit4 (h : c.state = 4) : cyUnit s c stir = ⟨none, 0, s, cyReaches s c⟩ := by unfold cyUnit; rw [if_neg (by omega), if_neg (by omega), if_neg (by omega), if_pos h]
theorem unit5 (h : c.state = 5) (hs : (swStep s c.p c.pl c.e).1.2 = false) : cyUnit s c stir = ⟨some true, 0, (swStep s c.p c.pl c.e).2.1, { c with p := (swStep s c.p c.pl c.e).2.2.1, pl := (swStep s c.p c.pl c.e).2.2.2, sk := c.sk.ended, st := 0 }⟩ := by
  unfold cyUnit; rw [if_neg (by omega), if_neg (by omega), if_neg (by omega), if_neg (by omega), if_pos h, if_pos hs]
theorem unit6 (h : c.state = 5) (hs : (swStep s c.p c.pl c.e).1.2 = true) : cyUnit s c stir = ⟨none, (swStep s c.p c.pl c.e).1.1, (swStep s c.p c.pl c.e).2.1, { c with p := (swStep s c.p c.pl c.e).2.2.1, pl := (swStep s c.p c.pl c.e).2.2.2 }⟩ := by
  unfold cyUnit; rw [if_neg (by omega), if_neg (by omega), if_neg (by omega), if_neg (by omega), if_pos h, if_neg (by rw [hs]; decide)]
theorem steps_stop (h : cyUnit s c stir = ⟨some v, f, s1, c1⟩) : cySteps stir (n + 1) s c fr = ((fr, v), s1, c1) := by unfold cySteps; rw [h]
theorem steps_go (h : cyUnit s c stir = ⟨none, f, s1, c1⟩) : cySteps stir (n + 1) s c fr = cySteps stir n s1 c1 (if f ≠ 0 then fr ++ [f] else fr) := by
  conv => lhs; unfold cySteps
  rw [h]
theorem marks_work : (cyMarks s c stir).work = c.work ∧ (cyMarks s c stir).sus = c.sus := by unfold cyMarks; split <;> exact ⟨rfl, rfl⟩
theorem reaches_work : (cyReaches s c).work = c.work ∧ (cyReaches s c).sus = c.sus := by
  unfold cyReaches
  split
  · exact ⟨rfl, rfl⟩
  · split <;> exact ⟨rfl, rfl⟩
theorem Cy.ok.sixth (hc : c.ok) : c.state = 0 ∨ ((c.state = 1 ∨ c.state = 2) ∧ c.sk.ph ≠ 3) ∨ ((c.state = 1 ∨ c.state = 2) ∧ c.sk.ph = 3) ∨ (c.state = 3 ∧ c.st = 3 ∧ c.sk.ph = 3) ∨ (c.state = 4 ∧ c.st = 4 ∧ c.sk.ph = 3) ∨ c.state = 5 := by
  have := hc.state
  omega
theorem unit_work (hc : c.ok) : (cyUnit s c stir).c.work = c.work ∧ (cyUnit s c stir).c.sus = c.sus := by
  rcases hc.sixth with h | ⟨h, h3⟩ | ⟨h, h3⟩ | ⟨h, _⟩ | ⟨h, _⟩ | h
  · rw [unit0 h]; exact ⟨rfl, rfl⟩
  · rw [unit12 h h3]; exact ⟨rfl, rfl⟩
  · rw [unit23 h h3]; exact marks_work (c := { c with st := 3, m := ⟨0, false, 0⟩ })
  · rw [unit3 h]; exact marks_work
  · rw [unit4 h]; exact reaches_work
  · cases hs : (swStep s c.p c.pl c.e).1.2
    · rw [unit5 h hs]; exact ⟨rfl, rfl⟩
    · rw [unit6 h hs]; exact ⟨rfl, rfl⟩
theorem Cy.lt.unit (ho : s.ok) (hc : c.ok) (h : c.lt n) : (cyUnit s c stir).c.lt (n + 7) := by
  have h2 := h.mono (m := n + 7) (by omega)
  rcases hc.sixth with e | ⟨e, h3⟩ | ⟨e, h3⟩ | ⟨e, _⟩ | ⟨e, _⟩ | e
  · rw [unit0 e]; exact ⟨h2.p.turn, h2.r, h2.rows, h2.rlen, h2.outs⟩
  · rw [unit12 e h3]; exact h2
  · rw [unit23 e h3]; exact Cy.lt.marks (c := { c with st := 3, m := ⟨0, false, 0⟩ }) ho ⟨h.p, h.r, h.rows, h.rlen, h.outs⟩
  · rw [unit3 e]; exact h.marks ho
  · rw [unit4 e]; exact h.reaches ho hc
  · cases hs : (swStep s c.p c.pl c.e).1.2
    · rw [unit5 e hs]; exact ⟨cySw_lt h2.p, h2.r, h2.rows, h2.rlen, h2.outs⟩
    · rw [unit6 e hs]; exact ⟨cySw_lt h2.p, h2.r, h2.rows, h2.rlen, h2.outs⟩
theorem Cy.lt.steps : ∀ {m : Nat} {s : Hs} {c : Cy} {fr : List Int} {n : Nat}, s.ok → c.ok → c.lt n → (cySteps stir m s c fr).2.2.lt (n + 7 * m)
  | 0, s, c, fr, n, _, _, h => h.mono (by omega)
  | m + 1, s, c, fr, n, ho, hc, h => by
    have h1 := hc.unit (stir := stir) ho
    have h2 := h.unit (stir := stir) ho hc
    unfold cySteps
    split
    · exact h2.mono (by omega)
    · exact (Cy.lt.steps h1.1 h1.2 h2).mono (by omega)
theorem steps_work : ∀ {m : Nat} {s : Hs} {c : Cy} {fr : List Int}, s.ok → c.ok → (cySteps stir m s c fr).2.2.work = c.work ∧ (cySteps stir m s c fr).2.2.sus = c.sus
  | 0, s, c, fr, _, _ => ⟨rfl, rfl⟩
  | m + 1, s, c, fr, ho, hc => by
    have h1 := hc.unit (stir := stir) ho
    have h2 := unit_work (s := s) (stir := stir) hc
    unfold cySteps
    split
    · exact h2
    · have := steps_work (m := m) (fr := if (cyUnit s c stir).freed ≠ 0 then fr ++ [(cyUnit s c stir).freed] else fr) h1.1 h1.2
      exact ⟨this.1.trans h2.1, this.2.trans h2.2⟩
theorem newCy_lt {a g u w l : Int} : (newCy a g u w l).lt n := ⟨newPs_lt, ⟨fun w hw => by (cases hw), Nat.zero_le _, fun r hr => by (cases hr)⟩, Nat.zero_le _, fun r hr => by (cases hr), Nat.zero_le _⟩
theorem Cy.lt.paint {p : Ps} (h : c.lt n) (hp : p.lt n) : ({ c with p := p } : Cy).lt n := ⟨hp, h.r, h.rows, h.rlen, h.outs⟩
theorem Cy.lt.store {m : Int} {old now : Id} (h : c.lt n) : (cyStore s c m old now).lt (n + 2) := by
  have h2 := h.mono (m := n + 2) (by omega)
  unfold cyStore
  split
  · refine h2.paint ?_
    split
    · exact h.p.shade.mono (by omega)
    · exact h.p.shade.shade
  · exact h2
theorem Cy.lt.born {m k : Int} (h : c.lt n) : (cyBorn s c m k).lt (n + 1) := by
  have h2 := h.mono (m := n + 1) (by omega)
  unfold cyBorn
  split
  · refine h2.paint ?_
    split
    · exact h.p.shade
    · exact h.p.blacken
  · exact h2
theorem Cy.lt.shake {m : Int} {held : List Id} (h : c.lt n) : (cyShake s c m held).2.lt (n + held.length) := by
  have h2 := h.mono (m := n + held.length) (by omega)
  unfold cyShake
  split
  · exact ⟨h.p.shades, h2.r, h2.rows, h2.rlen, h2.outs⟩
  · exact ⟨h2.p, h2.r, h2.rows, h2.rlen, h2.outs⟩
end
end Go.Proofs.YtohlnmenghbgbaaGreat

namespace Go.Proofs.YtohlnmenghbgbaaGreat
set_option linter.unusedSimpArgs false
set_option linter.unusedVariables false
open Go
section
variable {H0 H : Hp} {L M N : List Prt} {i j k b hb : Nat} {s : Hs} {c : Cy} {x : CyX} {stir : Int} {K : Value → Hp → Prop}
theorem cyMarksP (g : St H0 (cyParts b hb c x ++ M) H) (hi : M[i]? = some (HeapP hb s)) (hs : s.ok) (hcok : c.ok) (hst : c.st = 3 ∧ c.sk.ph = 3) (hK : ∀ H', St H0 (cyParts b hb (cyMarks s c stir) x ++ M) H' → K (.tuple #[]) H') :
    hcall PR f_cycle_Cycle_marks ⟨[.pointer (some ⟨b, 0, none⟩), .int .u64 stir]⟩ H K := by
  have hcok' := hcok.marks (stir := stir) hs hst
  apply den_cycle_Cycle_marks
  unfold B_cycle_Cycle_marks
  simp only [asI_mk', asB_mk, asP_mk, asA_mk, asM_mk, asSl_mk, asStr_mk, tup2_mk, tup3_mk, agg1_mk, agg2_mk, agg3_mk, agg4_mk, asAggm, unCons_mk, unNil_mk, asTup_mk, extractD0, extractD1, List.toList_toArray, nilP_mk, add_mk, Nat.zero_add, Nat.add_zero, condT, condF, Bool.not_true, Bool.not_false, Option.isNone_some, Option.isNone_none]
  refine ldP_of (g.cell (i := 0) rfl rfl) (mkStepC g (i := i + 9) (j := 2) (k := 3) hi rfl rfl (by omega) (by omega) (by omega) fun H1 g1 => ?_)
  simp only [asI_mk', asB_mk, asP_mk, asA_mk, asM_mk, asSl_mk, asStr_mk, tup2_mk, tup3_mk, agg1_mk, agg2_mk, agg3_mk, agg4_mk, asAggm, unCons_mk, unNil_mk, asTup_mk, extractD0, extractD1, List.toList_toArray, nilP_mk, add_mk, Nat.zero_add, Nat.add_zero, condT, condF, Bool.not_true, Bool.not_false, Option.isNone_some, Option.isNone_none]
  have g1 : St H0 (Prt.one b (.cells (cyCells hb c x) x.T (0, 0)) :: Shk x.kb c.sk :: PaintP x.pb hb (mkStep s c.p c.m).2.1 :: MkP x.mb hb x.pb (mkStep s c.p c.m).2.2 :: RcP x.rb hb x.pb c.r :: SwP x.ST x.sb hb x.pb c.pl c.e :: RowsP x.tp x.tc c.told.rows :: Prt.row 3 x.op c.told.outs.length x.oc (cel outC c.told.outs) :: Prt.pure c.ok :: M) H1 := g1
  cases hm : (mkStep s c.p c.m).1
  · have e : cyMarks s c stir = { c with p := (mkStep s c.p c.m).2.1, m := (mkStep s c.p c.m).2.2, stir := stir, r := rcNew c.sus, st := 4 } := by unfold cyMarks; rw [if_neg (by rw [hm]; decide)]
    rw [e] at hK hcok'
    simp only [condF]
    refine g1.put (i := 0) rfl (by simp [cyCells]) fun H2 g2 => ?_
    refine ldP_of (g2.cell (i := 0) rfl rfl) (ldI_of (g2.cell (i := 0) rfl rfl) ?_)
    refine rcBeginC g2 (k := 4) rfl fun H3 g3 => ?_
    refine g3.put (i := 0) rfl (by simp [cyCells]) fun H4 g4 => ?_
    have g5 := g4.refact (i := 8) rfl hcok'
    exact hK H4 g5
  · have e : cyMarks s c stir = { c with p := (mkStep s c.p c.m).2.1, m := (mkStep s c.p c.m).2.2 } := by unfold cyMarks; rw [if_pos hm]
    rw [e] at hK hcok'
    simp only [condT]
    have g2 := g1.refact (i := 8) rfl hcok'
    exact hK H1 g2

def outPick (u : Int) (l : List (Id × Int)) : List (Id × Int) := l.filter fun e => decide (u < e.2)
theorem outPick_take {u : Int} {l : List (Id × Int)} {y : Nat} (hy : y < l.length) : outPick u (l.take (y + 1)) = outPick u (l.take y) ++ if u < (l.getD y (noId, 0)).2 then [l.getD y (noId, 0)] else [] := by
  have e : l[y]? = some (l.getD y (noId, 0)) := by rw [List.getD_eq_getElem?_getD, List.getElem?_eq_getElem hy]; rfl
  unfold outPick
  rw [List.take_add_one, e, Option.toList_some, List.filter_append]
  congr 1
  by_cases h : u < (l.getD y (noId, 0)).2
  · rw [if_pos h, List.filter_cons_of_pos (by simpa using h)]; rfl
  · rw [if_neg h, List.filter_cons_of_neg (by simpa using h)]; rfl
theorem cyReachesP {n : Nat} (g : St H0 (cyParts b hb c x ++ M) H) (hi : M[i]? = some (HeapP hb s)) (hs : s.ok) (hcok : c.ok) (hst : c.st = 4 ∧ c.sk.ph = 3) (hlt : c.lt n) (hn : n ≤ 700000) (hK : ∀ x' H', St H0 (cyParts b hb (cyReaches s c) x' ++ M) H' → K (.tuple #[]) H') :
    hcall PR f_cycle_Cycle_reaches ⟨[.pointer (some ⟨b, 0, none⟩)]⟩ H K := by
  have hcok' := hcok.reaches hs hst
  have hlt' := hlt.reaches hs hcok
  have hmk := cyMk_lt (m := c.m) hs hlt.p
  have hrl := hlt.r.step (p := (mkStep s c.p c.m).2.1) hs
  apply den_cycle_Cycle_reaches
  unfold B_cycle_Cycle_reaches
  simp only [asI_mk', asB_mk, asP_mk, asA_mk, asM_mk, asSl_mk, asStr_mk, tup2_mk, tup3_mk, agg1_mk, agg2_mk, agg3_mk, agg4_mk, asAggm, unCons_mk, unNil_mk, asTup_mk, extractD0, extractD1, List.toList_toArray, nilP_mk, add_mk, Nat.zero_add, Nat.add_zero, condT, condF, Bool.not_true, Bool.not_false, Option.isNone_some, Option.isNone_none]
  refine ldP_of (g.cell (i := 0) rfl rfl) (mkStepC g (i := i + 9) (j := 2) (k := 3) hi rfl rfl (by omega) (by omega) (by omega) fun H1 g1 => ?_)
  simp only [asI_mk', asB_mk, asP_mk, asA_mk, asM_mk, asSl_mk, asStr_mk, tup2_mk, tup3_mk, agg1_mk, agg2_mk, agg3_mk, agg4_mk, asAggm, unCons_mk, unNil_mk, asTup_mk, extractD0, extractD1, List.toList_toArray, nilP_mk, add_mk, Nat.zero_add, Nat.add_zero, condT, condF, Bool.not_true, Bool.not_false, Option.isNone_some, Option.isNone_none]
  have g1 : St H0 (Prt.one b (.cells (cyCells hb c x) x.T (0, 0)) :: Shk x.kb c.sk :: PaintP x.pb hb (mkStep s c.p c.m).2.1 :: MkP x.mb hb x.pb (mkStep s c.p c.m).2.2 :: RcP x.rb hb x.pb c.r :: SwP x.ST x.sb hb x.pb c.pl c.e :: RowsP x.tp x.tc c.told.rows :: Prt.row 3 x.op c.told.outs.length x.oc (cel outC c.told.outs) :: Prt.pure c.ok :: M) H1 := g1
  cases hm : (mkStep s c.p c.m).1
  rotate_left
  · have e : cyReaches s c = { c with p := (mkStep s c.p c.m).2.1, m := (mkStep s c.p c.m).2.2 } := by unfold cyReaches; rw [if_pos hm]
    rw [e] at hK hcok'
    simp only [condT]
    have g2 := g1.refact (i := 8) rfl hcok'
    exact hK x H1 g2
  simp only [condF]
  refine ldP_of (g1.cell (i := 0) rfl rfl) (rcStepC g1 (i := i + 9) (j := 2) (k := 4) hi rfl rfl (by omega) (by omega) (by omega) (hlt.r.mono (by omega)) fun H2 g2 => ?_)
  simp only [asI_mk', asB_mk, asP_mk, asA_mk, asM_mk, asSl_mk, asStr_mk, tup2_mk, tup3_mk, agg1_mk, agg2_mk, agg3_mk, agg4_mk, asAggm, unCons_mk, unNil_mk, asTup_mk, extractD0, extractD1, List.toList_toArray, nilP_mk, add_mk, Nat.zero_add, Nat.add_zero, condT, condF, Bool.not_true, Bool.not_false, Option.isNone_some, Option.isNone_none]
  have g2 : St H0 (Prt.one b (.cells (cyCells hb c x) x.T (0, 0)) :: Shk x.kb c.sk :: PaintP x.pb hb (mkStep s c.p c.m).2.1 :: MkP x.mb hb x.pb (mkStep s c.p c.m).2.2 :: RcP x.rb hb x.pb (rcStep s (mkStep s c.p c.m).2.1 c.r).2 :: SwP x.ST x.sb hb x.pb c.pl c.e :: RowsP x.tp x.tc c.told.rows :: Prt.row 3 x.op c.told.outs.length x.oc (cel outC c.told.outs) :: Prt.pure c.ok :: M) H2 := g2
  cases hr : (rcStep s (mkStep s c.p c.m).2.1 c.r).1
  rotate_left
  · have e : cyReaches s c = { c with p := (mkStep s c.p c.m).2.1, m := (mkStep s c.p c.m).2.2, r := (rcStep s (mkStep s c.p c.m).2.1 c.r).2 } := by unfold cyReaches; rw [if_neg (by rw [hm]; decide), if_pos hr]
    rw [e] at hK hcok'
    simp only [condT]
    have g3 := g2.refact (i := 8) rfl hcok'
    exact hK x H2 g3
  simp only [condF]
  obtain ⟨p1, hp1⟩ : ∃ p1, p1 = (mkStep s c.p c.m).2.1 := ⟨_, rfl⟩
  obtain ⟨m1, hm1⟩ : ∃ m1, m1 = (mkStep s c.p c.m).2.2 := ⟨_, rfl⟩
  obtain ⟨r1, hr1⟩ : ∃ r1, r1 = (rcStep s p1 c.r).2 := ⟨_, rfl⟩
  have e : cyReaches s c = { c with p := p1, m := m1, r := r1, told := ⟨c.stir, r1.rows, outPick c.sus (outsOf p1), true⟩, pl := 0, e := s.last, fin := s.last, st := 5 } := by
    unfold cyReaches
    rw [if_neg (by rw [hm]; decide), if_neg (by rw [hr]; decide), hr1, hp1, hm1]
    rfl
  rw [e] at hK hcok'
  rw [← hp1] at g2 hmk hrl
  rw [← hr1] at g2 hrl
  rw [← hm1] at g2
  clear hr hm g1 g e
  refine ldI_of (g2.cell (i := 0) rfl rfl) (ldP_of (g2.cell (i := 0) rfl rfl) (rcRowsC g2 (k := 4) rfl (hrl.mono (by omega)) fun q1 n1 H3 g3 => ?_))
  simp only [asI_mk', asB_mk, asP_mk, asA_mk, asM_mk, asSl_mk, asStr_mk, tup2_mk, tup3_mk, agg1_mk, agg2_mk, agg3_mk, agg4_mk, asAggm, unCons_mk, unNil_mk, asTup_mk, extractD0, extractD1, List.toList_toArray, nilP_mk, add_mk, Nat.zero_add, Nat.add_zero, condT, condF, Bool.not_true, Bool.not_false, Option.isNone_some, Option.isNone_none]
  refine ⟨ldI_of (g3.cell (i := 1) rfl rfl) rfl, ?_⟩
  refine g3.put (i := 1) rfl (by simp [cyCells]) fun H4 g4 => g4.put (i := 1) rfl (by simp [cyCells]) fun H5 g5 => g5.put (i := 1) rfl (by simp [cyCells]) fun H6 g6 => g6.put (i := 1) rfl (by simp [cyCells]) fun H7 g7 => ?_
  have g8 := St.over (i := 6) g7 rfl
  have g9 := St.over (i := 7) (g8.row (H' := _) (Own.nil 3) ((Goes.refl Nothing _).less fun c hc => absurd hc blk_none)) rfl
  refine ldP_of (g9.cell (i := 0) rfl rfl) (pOutsC g9 (j := 2) rfl (by have := hmk.2; omega) fun q2 n2 H8 g10 => ?_)
  simp only [asI_mk', asB_mk, asP_mk, asA_mk, asM_mk, asSl_mk, asStr_mk, tup2_mk, tup3_mk, agg1_mk, agg2_mk, agg3_mk, agg4_mk, asAggm, unCons_mk, unNil_mk, asTup_mk, extractD0, extractD1, List.toList_toArray, nilP_mk, add_mk, Nat.zero_add, Nat.add_zero, condT, condF, Bool.not_true, Bool.not_false, Option.isNone_some, Option.isNone_none]
  have hol : (outsOf p1).length ≤ 800000 := by
    have h4 := (outsOf_ok (p := p1) hcok'.p).2.length_eq
    have h6 := hmk.2
    omega
  clear g3 g4 g5 g6 g7 g8 g9 g2
  refine ⟨fun t H' => ∃ (y : Nat) (op : Option Addr) (oc : Nat), t = y ∧ y ≤ (outsOf p1).length ∧
      St H0 (Prt.row 3 q2 (outsOf p1).length n2 (cel outC (outsOf p1)) :: Prt.one b (.cells (cyCells hb { c with told := ⟨c.stir, r1.rows, outPick c.sus ((outsOf p1).take y), true⟩ } { x with tp := q1, tc := n1, op := op, oc := oc }) x.T (0, 0)) :: Shk x.kb c.sk :: PaintP x.pb hb p1 :: MkP x.mb hb x.pb m1 :: RcP x.rb hb x.pb r1 :: SwP x.ST x.sb hb x.pb c.pl c.e :: RowsP q1 n1 r1.rows :: Prt.row 3 op (outPick c.sus ((outsOf p1).take y)).length oc (cel outC (outPick c.sus ((outsOf p1).take y))) :: Prt.pure c.ok :: M) H',
    fun t _ => (((outsOf p1).length : Int) - t).toNat, ⟨0, none, 0, rfl, by omega, ?_⟩, ?_⟩
  · rw [List.take_zero]
    exact g10
  clear g10
  rintro t H9 ⟨y, op, oc, rfl, hy, h1⟩
  have hfl := List.length_filter_le (fun e : Id × Int => decide (c.sus < e.2)) ((outsOf p1).take y)
  rw [List.length_take] at hfl
  have hfl : (outPick c.sus ((outsOf p1).take y)).length ≤ 800000 := by unfold outPick; omega
  by_cases hcy : (y : Int) < (((outsOf p1).length : Nat) : Int)
  rotate_left
  · obtain rfl : y = (outsOf p1).length := by omega
    rw [List.take_length] at h1
    refine bif_neg hcy ?_
    refine ldP_of (h1.cell (i := 1) rfl rfl) (swBeginC h1 (i := i + 10) (k := 6) hi rfl fun H10 h2 => ?_)
    refine ldP_of (h2.cell (i := 1) rfl rfl) (hLast h2 (i := i + 10) hi ?_)
    simp only [asI_mk', asB_mk, asP_mk, asA_mk, asM_mk, asSl_mk, asStr_mk, tup2_mk, tup3_mk, agg1_mk, agg2_mk, agg3_mk, agg4_mk, asAggm, unCons_mk, unNil_mk, asTup_mk, extractD0, extractD1, List.toList_toArray, nilP_mk, add_mk, Nat.zero_add, Nat.add_zero, condT, condF, Bool.not_true, Bool.not_false, Option.isNone_some, Option.isNone_none]
    refine h2.put (i := 1) rfl (by simp [cyCells]) fun H11 h3 => h3.put (i := 1) rfl (by simp [cyCells]) fun H12 h4 => ?_
    have h5 := (St.less h4).refact (i := 8) rfl hcok'
    exact hK { x with tp := q1, tc := n1, op := op, oc := oc } H12 h5
  refine bif_pos hcy ?_
  have hyl : y < (outsOf p1).length := by omega
  have htk := outPick_take (u := c.sus) hyl
  intro R38 hR38
  have next : ∀ op' oc' H', St H0 (Prt.row 3 q2 (outsOf p1).length n2 (cel outC (outsOf p1)) :: Prt.one b (.cells (cyCells hb { c with told := ⟨c.stir, r1.rows, outPick c.sus ((outsOf p1).take (y + 1)), true⟩ } { x with tp := q1, tc := n1, op := op', oc := oc' }) x.T (0, 0)) :: Shk x.kb c.sk :: PaintP x.pb hb p1 :: MkP x.mb hb x.pb m1 :: RcP x.rb hb x.pb r1 :: SwP x.ST x.sb hb x.pb c.pl c.e :: RowsP q1 n1 r1.rows :: Prt.row 3 op' (outPick c.sus ((outsOf p1).take (y + 1))).length oc' (cel outC (outPick c.sus ((outsOf p1).take (y + 1)))) :: Prt.pure c.ok :: M) H' → R38 H' := fun op' oc' H' h' => by
    refine hR38 H' ?_
    rw [wrap_i64 (by omega) (by omega)]
    exact ⟨⟨y + 1, op', oc', by omega, by omega, h'⟩, by (try dsimp only); omega⟩
  refine idxS outC_len (noId, 0) (h1.row_rd (i := 0) rfl) (by omega) (by omega) hcy fun b1 o1 _ hl1 hcc => ?_
  have c0 := hcc 0 (by omega)
  have c1 := hcc 1 (by omega)
  have c2 := hcc 2 (by omega)
  rw [Int.toNat_natCast] at c0 c1 c2
  generalize (outsOf p1).getD y (noId, 0) = el at c0 c1 c2 htk
  simp only [asI_mk', asB_mk, asP_mk, asA_mk, asM_mk, asSl_mk, asStr_mk, tup2_mk, tup3_mk, agg1_mk, agg2_mk, agg3_mk, agg4_mk, asAggm, unCons_mk, unNil_mk, asTup_mk, extractD0, extractD1, List.toList_toArray, nilP_mk, add_mk, Nat.zero_add, Nat.add_zero, condT, condF, Bool.not_true, Bool.not_false, Option.isNone_some, Option.isNone_none]
  refine ldI_of c0 (ldI_of c1 (ldI_of c2 ?_))
  intro b44 hb44
  have h2 := h1.alloc (o := .cells #[.int .i64 0, .int .u64 0, .int .i64 0] ty_api_Out) hb44
  refine h2.put (i := 0) rfl (by simp) fun H3 h3 => h3.put (i := 0) rfl (by simp) fun H4 h4 => h4.put (i := 0) rfl (by simp) fun H5 h5 => ?_
  refine ldI_of (h5.cell (i := 0) rfl rfl) (ldI_of (h5.cell (i := 2) rfl rfl) ?_)
  by_cases hgt : c.sus < el.2
  · rw [if_pos hgt] at htk
    refine bif_pos hgt ?_
    refine ldSl_of (h5.cell (i := 2) rfl rfl) (ldI_of (h5.cell (i := 0) rfl rfl) (ldI_of (h5.cell (i := 0) rfl rfl) (ldI_of (h5.cell (i := 0) rfl rfl) ?_)))
    intro b59 hb59
    have h6 := h5.alloc (o := .cells #[.int .i64 el.1.n, .int .u64 el.1.s, .int .i64 el.2] ty_api_Out) hb59
    refine ⟨ldSl_of (h6.cell (i := 3) rfl rfl) rfl, ?_⟩
    refine h6.app (i := 10) rfl tu_ty_Sapi_Out tu_ty_Sapi_Out ti_ty_api_Out rfl (by decide) (h6.one_rd (i := 0) (n := 1) rfl rfl) (fun z hz => by simp at hz; rcases hz with rfl | rfl | rfl <;> rfl) (by dsimp only; omega) fun p' cap' H7 h7 => ?_
    simp only [asI_mk', asB_mk, asP_mk, asA_mk, asM_mk, asSl_mk, asStr_mk, tup2_mk, tup3_mk, agg1_mk, agg2_mk, agg3_mk, agg4_mk, asAggm, unCons_mk, unNil_mk, asTup_mk, extractD0, extractD1, List.toList_toArray, nilP_mk, add_mk, Nat.zero_add, Nat.add_zero, condT, condF, Bool.not_true, Bool.not_false, Option.isNone_some, Option.isNone_none]
    refine h7.put (i := 3) rfl (by simp [cyCells]) fun H8 h8 => ?_
    have e2 : (outPick c.sus ((outsOf p1).take y)).length + 1 = (outPick c.sus ((outsOf p1).take (y + 1))).length := by rw [htk]; simp
    have e1 : cel outC (outPick c.sus ((outsOf p1).take y)) ++ (#[Value.int .i64 el.1.n, .int .u64 el.1.s, .int .i64 el.2] : Array Value).toList = cel outC (outPick c.sus ((outsOf p1).take (y + 1))) := by rw [htk, cel_append]; rfl
    rw [e1, e2] at h8
    exact next p' cap' H8 (St.less (St.less h8))
  · rw [if_neg hgt, List.append_nil] at htk
    refine bif_neg hgt ?_
    rw [← htk] at h5
    exact next op oc H5 (St.less h5)
end
end Go.Proofs.YtohlnmenghbgbaaGreat

namespace Go.Proofs.YtohlnmenghbgbaaGreat
set_option linter.unusedSimpArgs false
set_option linter.unusedVariables false
open Go
section
variable {H0 H : Hp} {L M N : List Prt} {i j k b hb : Nat} {s : Hs} {c : Cy} {x : CyX} {stir : Int} {K : Value → Hp → Prop}
theorem cyStepC {n : Nat} (h : St H0 L H) (hi : L[i]? = some (HeapP hb s)) (hk : L[k]? = some (CyP b hb c)) (hik : i ≠ k) (hlt : c.lt n) (hn : n ≤ 600000)
    (hK : ∀ fp fc H', St H0 (Prt.row 1 fp (cyStep s c stir).1.1.length fc ((cyStep s c stir).1.1.map (Value.int .u64)) :: (L.set i (HeapP hb (cyStep s c stir).2.1)).set k (CyP b hb (cyStep s c stir).2.2)) H' → K (.tuple #[.slice fp (cyStep s c stir).1.1.length fc, .bool (cyStep s c stir).1.2]) H') :
    hcall PR f_cycle_Cycle_Step ⟨[.pointer (some ⟨b, 0, none⟩), .int .u64 stir]⟩ H K := by
  have hs0 := heap_ok h hi
  have hc0 := cy_ok h hk
  have hwk := hc0.work
  have hil := ltOfGet hi
  have hkl := ltOfGet hk
  apply den_cycle_Cycle_Step
  unfold B_cycle_Cycle_Step
  refine ⟨fun fP fL fC t H' => ∃ (y : Nat) (fr : List Int) (s' : Hs) (c' : Cy), t = y ∧ (y : Int) ≤ c.work ∧ fL = fr.length ∧ fr.length ≤ y ∧ c'.lt (n + 7 * y) ∧ c'.work = c.work ∧ cySteps stir (c.work.toNat - y) s' c' fr = cyStep s c stir ∧
      St H0 (Prt.row 1 fP fr.length fC (fr.map (Value.int .u64)) :: (L.set i (HeapP hb s')).set k (CyP b hb c')) H',
    fun _ _ _ t _ => (c.work - t).toNat, ⟨0, [], s, c, rfl, by have := hc0.work; omega, rfl, by simp, hlt, rfl, rfl, ?_⟩, ?_⟩
  · have h1 := h.row (H' := _) (Own.nil 1) ((Goes.refl Nothing _).less fun c hc => absurd hc blk_none)
    rw [List.set_self hi, List.set_self hk]
    exact h1
  intro fP fL fC t H1
  rintro ⟨y, fr, s', c', rfl, hy, rfl, hfr, hlt', hw, hst, h1⟩
  have hi1 : ((L.set i (HeapP hb s')).set k (CyP b hb c'))[i]? = some (HeapP hb s') := by simp [List.getElem?_set, hil, hik, Ne.symm hik]
  have hk1 : (Prt.row 1 fP fr.length fC (fr.map (Value.int .u64)) :: (L.set i (HeapP hb s')).set k (CyP b hb c'))[k + 1]? = some (CyP b hb c') := by simp [List.getElem?_set, hkl]
  have hs1 := heap_ok (i := i + 1) h1 hi1
  have hc1 := cy_ok h1 hk1
  obtain ⟨x, g, _⟩ := cyOpened h1 hk1
  have g : St H0 (cyParts b hb c' x ++ (Prt.row 1 fP fr.length fC (fr.map (Value.int .u64)) :: ((L.set i (HeapP hb s')).set k (CyP b hb c')).set k .nil)) H1 := g
  rw [List.set_set] at g
  have hiM : ((L.set i (HeapP hb s')).set k .nil)[i]? = some (HeapP hb s') := by simp [List.getElem?_set, hil, hik, Ne.symm hik]
  have shut : ∀ (fP : Option Addr) (fr : List Int) (fC : Nat) (s2 : Hs) (c2 : Cy) (H' : Hp), (∃ x', St H0 (cyParts b hb c2 x' ++ (Prt.row 1 fP fr.length fC (fr.map (Value.int .u64)) :: (L.set i (HeapP hb s2)).set k .nil)) H') → St H0 (Prt.row 1 fP fr.length fC (fr.map (Value.int .u64)) :: (L.set i (HeapP hb s2)).set k (CyP b hb c2)) H' := fun fP fr fC s2 c2 H' ⟨x', g'⟩ => by
    have g'' : St H0 ([] ++ (cyParts b hb c2 x' ++ (Prt.row 1 fP fr.length fC (fr.map (Value.int .u64)) :: L.set i (HeapP hb s2)).set (k + 1) .nil)) H' := g'
    have h3 := cyShut (N := []) (k := k + 1) (B := (L.set i (HeapP hb s2))[k]?.getD .nil) g'' (by simp [List.getElem?_set, hkl, hik])
    exact h3
  simp only [asI_mk', asB_mk, asP_mk, asA_mk, asM_mk, asSl_mk, asStr_mk, tup2_mk, tup3_mk, agg1_mk, agg2_mk, agg3_mk, agg4_mk, asAggm, unCons_mk, unNil_mk, asTup_mk, extractD0, extractD1, List.toList_toArray, nilP_mk, add_mk, Nat.zero_add, Nat.add_zero, condT, condF, Bool.not_true, Bool.not_false, Option.isNone_some, Option.isNone_none]
  refine ldI_of (g.cell (i := 0) rfl rfl) ?_
  by_cases hyw : (y : Int) < c.work
  rotate_left
  · refine bif_neg (by rw [hw]; exact hyw) ?_
    have e0 : c.work.toNat - y = 0 := by omega
    rw [e0] at hst
    have e : cyStep s c stir = ((fr, false), s', c') := hst.symm
    rw [e] at hK
    exact hK fP fC H1 h1
  refine bif_pos (by rw [hw]; exact hyw) ?_
  have e1 : c.work.toNat - y = (c.work.toNat - (y + 1)) + 1 := by omega
  rw [e1] at hst
  intro R12 hR12
  have hult := hlt'.unit (stir := stir) hs1 hc1
  have huw := unit_work (s := s') (stir := stir) hc1
  have go : ∀ (f : Int) (s2 : Hs) (c2 : Cy) (fr' : List Int), cyUnit s' c' stir = ⟨none, f, s2, c2⟩ → fr' = (if f ≠ 0 then fr ++ [f] else fr) → ∀ (fP' : Option Addr) (fC' : Nat) (H' : Hp), (∃ x', St H0 (cyParts b hb c2 x' ++ (Prt.row 1 fP' fr'.length fC' (fr'.map (Value.int .u64)) :: (L.set i (HeapP hb s2)).set k .nil)) H') → R12 fP' fr'.length fC' H' := fun f s2 c2 fr' e ef fP' fC' H' g' => by
    rw [e] at hult huw
    rw [steps_go e] at hst
    refine hR12 fP' fr'.length fC' H' ?_
    rw [wrap_i64 (by omega) (by omega)]
    refine ⟨⟨y + 1, fr', s2, c2, by omega, by omega, rfl, ?_, hult.mono (by omega), huw.1.trans hw, by rw [ef]; exact hst, shut fP' fr' fC' s2 c2 H' g'⟩, by (try dsimp only); omega⟩
    rw [ef]
    split
    · simp; omega
    · omega
  have stop : ∀ (v : Bool) (s2 : Hs) (c2 : Cy), cyUnit s' c' stir = ⟨some v, 0, s2, c2⟩ → ∀ H' : Hp, (∃ x', St H0 (cyParts b hb c2 x' ++ (Prt.row 1 fP fr.length fC (fr.map (Value.int .u64)) :: (L.set i (HeapP hb s2)).set k .nil)) H') → K (.tuple #[.slice fP fr.length fC, .bool v]) H' := fun v s2 c2 e H' g' => by
    have e2 : cyStep s c stir = ((fr, v), s2, c2) := by rw [← hst]; exact steps_stop e
    rw [e2] at hK
    exact hK fP fC H' (shut fP fr fC s2 c2 H' g')
  have hlen := hc1.len
  have hsize := hc1.size
  have hok2 := (hc1.unit (stir := stir) hs1).2
  refine cyStateP g ?_
  simp only [asI_mk', asB_mk, asP_mk, asA_mk, asM_mk, asSl_mk, asStr_mk, tup2_mk, tup3_mk, agg1_mk, agg2_mk, agg3_mk, agg4_mk, asAggm, unCons_mk, unNil_mk, asTup_mk, extractD0, extractD1, List.toList_toArray, nilP_mk, add_mk, Nat.zero_add, Nat.add_zero, condT, condF, Bool.not_true, Bool.not_false, Option.isNone_some, Option.isNone_none]
  rcases hc1.sixth with e | ⟨e, h3⟩ | ⟨e, h3⟩ | ⟨e, e3⟩ | ⟨e, e4⟩ | e
  · -- it begins
    have eu := unit0 (s := s') (stir := stir) e
    rw [eu] at hok2
    refine bif_eq e ?_
    refine ldP_of (g.cell (i := 0) rfl rfl) (pTurnC g (j := 2) rfl fun H2 g2 => ?_)
    refine ldP_of (g2.cell (i := 0) rfl rfl) (shkBeginC g2 (i := 1) rfl (by omega) fun v H3 g3 => ?_)
    simp only [asI_mk', asB_mk, asP_mk, asA_mk, asM_mk, asSl_mk, asStr_mk, tup2_mk, tup3_mk, agg1_mk, agg2_mk, agg3_mk, agg4_mk, asAggm, unCons_mk, unNil_mk, asTup_mk, extractD0, extractD1, List.toList_toArray, nilP_mk, add_mk, Nat.zero_add, Nat.add_zero, condT, condF, Bool.not_true, Bool.not_false, Option.isNone_some, Option.isNone_none]
    have g4 := g3.refact (i := 8) rfl hok2
    exact stop false _ _ eu H3 ⟨x, g4⟩
  · have eu := unit12 (s := s') (stir := stir) e h3
    refine bif_ne (by omega) ?_
    intro R29 hR29
    have hR : R29 true H1 := by
      refine hR29 true H1 ?_
      simp only [asI_mk', asB_mk, asP_mk, asA_mk, asM_mk, asSl_mk, asStr_mk, tup2_mk, tup3_mk, agg1_mk, agg2_mk, agg3_mk, agg4_mk, asAggm, unCons_mk, unNil_mk, asTup_mk, extractD0, extractD1, List.toList_toArray, nilP_mk, add_mk, Nat.zero_add, Nat.add_zero, condT, condF, Bool.not_true, Bool.not_false, Option.isNone_some, Option.isNone_none]
      refine ldP_of (g.cell (i := 0) rfl rfl) (shkPhaseC g (i := 1) rfl ?_)
      simp only [asI_mk', asB_mk, asP_mk, asA_mk, asM_mk, asSl_mk, asStr_mk, tup2_mk, tup3_mk, agg1_mk, agg2_mk, agg3_mk, agg4_mk, asAggm, unCons_mk, unNil_mk, asTup_mk, extractD0, extractD1, List.toList_toArray, nilP_mk, add_mk, Nat.zero_add, Nat.add_zero, condT, condF, Bool.not_true, Bool.not_false, Option.isNone_some, Option.isNone_none]
      refine bif_neq h3 (stop false _ _ eu H1 ⟨x, g⟩)
    rcases e with e | e
    · refine bif_eq e ?_
      rw [show (c'.state == 1) = true by rw [e]; rfl]
      exact hR
    · refine bif_ne (by omega) ?_
      rw [show (c'.state == 2) = true by rw [e]; rfl]
      exact hR
  · have eu := unit23 (s := s') (stir := stir) e h3
    refine bif_ne (by omega) ?_
    intro R29 hR29
    have hR : R29 true H1 := by
      refine hR29 true H1 ?_
      simp only [asI_mk', asB_mk, asP_mk, asA_mk, asM_mk, asSl_mk, asStr_mk, tup2_mk, tup3_mk, agg1_mk, agg2_mk, agg3_mk, agg4_mk, asAggm, unCons_mk, unNil_mk, asTup_mk, extractD0, extractD1, List.toList_toArray, nilP_mk, add_mk, Nat.zero_add, Nat.add_zero, condT, condF, Bool.not_true, Bool.not_false, Option.isNone_some, Option.isNone_none]
      refine ldP_of (g.cell (i := 0) rfl rfl) (shkPhaseC g (i := 1) rfl ?_)
      simp only [asI_mk', asB_mk, asP_mk, asA_mk, asM_mk, asSl_mk, asStr_mk, tup2_mk, tup3_mk, agg1_mk, agg2_mk, agg3_mk, agg4_mk, asAggm, unCons_mk, unNil_mk, asTup_mk, extractD0, extractD1, List.toList_toArray, nilP_mk, add_mk, Nat.zero_add, Nat.add_zero, condT, condF, Bool.not_true, Bool.not_false, Option.isNone_some, Option.isNone_none]
      refine bif_neqf h3 ?_
      have hc3 : ({ c' with st := 3, m := ⟨0, false, 0⟩ } : Cy).ok := ⟨hc1.len, hc1.size, hc1.ph, .inr ⟨.inl rfl, h3⟩, hc1.sus, hc1.work, hc1.p, ⟨Int.le_refl _, Int.le_refl _⟩, hc1.r, hc1.pl⟩
      refine g.put (i := 0) rfl (by simp [cyCells]) fun H2 g2 => ?_
      refine ldP_of (g2.cell (i := 0) rfl rfl) (mkBeginC g2 (k := 3) rfl fun H3 g3 => ?_)
      have g4 := g3.refact (i := 8) rfl hc3
      refine cyMarksP (i := i + 1) (c := { c' with st := 3, m := ⟨0, false, 0⟩ }) (x := x) g4 hiM hs1 hc3 ⟨rfl, h3⟩ fun H4 g5 => ?_
      exact go 0 _ _ fr eu (by rw [if_neg (by simp)]) fP fC H4 ⟨x, g5⟩
    rcases e with e | e
    · refine bif_eq e ?_
      rw [show (c'.state == 1) = true by rw [e]; rfl]
      exact hR
    · refine bif_ne (by omega) ?_
      rw [show (c'.state == 2) = true by rw [e]; rfl]
      exact hR
  all_goals
    refine bif_ne (by omega) ?_
    intro R29 hR29
    refine bif_ne (by omega) ?_
    rw [show (c'.state == 2) = false by rw [beq_eq_false_iff_ne]; omega]
    refine hR29 false H1 ?_
    simp only [condF]
  · have eu := unit3 (s := s') (stir := stir) e
    refine bif_eq e (cyMarksP (i := i + 1) g hiM hs1 hc1 e3 fun H4 g5 => ?_)
    exact go 0 _ _ fr eu (by rw [if_neg (by simp)]) fP fC H4 ⟨x, g5⟩
  · have eu := unit4 (s := s') (stir := stir) e
    refine bif_ne (by omega) (bif_eq e (cyReachesP (i := i + 1) g hiM hs1 hc1 e4 hlt' (by have := hc0.work; omega) fun x' H4 g5 => ?_))
    exact go 0 _ _ fr eu (by rw [if_neg (by simp)]) fP fC H4 ⟨x', g5⟩
  · refine bif_ne (by omega) (bif_ne (by omega) (bif_eq e ?_))
    refine ldP_of (g.cell (i := 0) rfl rfl) (swStepC g (i := i + 10) (j := 2) (k := 5) hiM rfl rfl (by omega) (by omega) (by omega) fun H2 g2 => ?_)
    simp only [asI_mk', asB_mk, asP_mk, asA_mk, asM_mk, asSl_mk, asStr_mk, tup2_mk, tup3_mk, agg1_mk, agg2_mk, agg3_mk, agg4_mk, asAggm, unCons_mk, unNil_mk, asTup_mk, extractD0, extractD1, List.toList_toArray, nilP_mk, add_mk, Nat.zero_add, Nat.add_zero, condT, condF, Bool.not_true, Bool.not_false, Option.isNone_some, Option.isNone_none]
    have g2 : St H0 (Prt.one b (.cells (cyCells hb c' x) x.T (0, 0)) :: Shk x.kb c'.sk :: PaintP x.pb hb (swStep s' c'.p c'.pl c'.e).2.2.1 :: MkP x.mb hb x.pb c'.m :: RcP x.rb hb x.pb c'.r :: SwP x.ST x.sb hb x.pb (swStep s' c'.p c'.pl c'.e).2.2.2 c'.e :: RowsP x.tp x.tc c'.told.rows :: Prt.row 3 x.op c'.told.outs.length x.oc (cel outC c'.told.outs) :: Prt.pure c'.ok :: Prt.row 1 fP fr.length fC (fr.map (Value.int .u64)) :: ((L.set i (HeapP hb s')).set k .nil).set i (HeapP hb (swStep s' c'.p c'.pl c'.e).2.1)) H2 := g2
    rw [List.set_comm _ _ (Ne.symm hik), List.set_set] at g2
    cases hsw : (swStep s' c'.p c'.pl c'.e).1.2
    · have eu := unit5 (s := s') (stir := stir) e hsw
      rw [eu] at hok2
      simp only [Bool.not_false, condT]
      refine ldP_of (g2.cell (i := 0) rfl rfl) (shkEndC g2 (i := 1) rfl fun v H3 g3 => ?_)
      simp only [asI_mk', asB_mk, asP_mk, asA_mk, asM_mk, asSl_mk, asStr_mk, tup2_mk, tup3_mk, agg1_mk, agg2_mk, agg3_mk, agg4_mk, asAggm, unCons_mk, unNil_mk, asTup_mk, extractD0, extractD1, List.toList_toArray, nilP_mk, add_mk, Nat.zero_add, Nat.add_zero, condT, condF, Bool.not_true, Bool.not_false, Option.isNone_some, Option.isNone_none]
      refine g3.put (i := 0) rfl (by simp [cyCells]) fun H4 g4 => ?_
      have g5 := g4.refact (i := 8) rfl hok2
      exact stop true _ _ eu H4 ⟨x, g5⟩
    · have eu := unit6 (s := s') (stir := stir) e hsw
      rw [eu] at hok2
      simp only [Bool.not_true, condF]
      have g3 := g2.refact (i := 8) rfl hok2
      by_cases hf : (swStep s' c'.p c'.pl c'.e).1.1 = 0
      · refine bif_neqf hf ?_
        exact go _ _ _ fr eu (by rw [if_neg (by simpa using hf)]) fP fC H2 ⟨x, g3⟩
      · refine bif_neq hf ?_
        refine lit_ty_Suint64 (m := 1) (c := #[.int .u64 (swStep s' c'.p c'.pl c'.e).1.1]) (g3.row_own (i := 9) rfl) rfl (by intro z hz; simp at hz; rw [hz]; rfl) (by have := hc0.work; omega) fun p' cap' H4 ho hg => ?_
        simp only [asI_mk', asB_mk, asP_mk, asA_mk, asM_mk, asSl_mk, asStr_mk, tup2_mk, tup3_mk, agg1_mk, agg2_mk, agg3_mk, agg4_mk, asAggm, unCons_mk, unNil_mk, asTup_mk, extractD0, extractD1, List.toList_toArray, nilP_mk, add_mk, Nat.zero_add, Nat.add_zero, condT, condF, Bool.not_true, Bool.not_false, Option.isNone_some, Option.isNone_none]
        have g4 := g3.row_to (i := 9) rfl ho hg
        have := go _ _ _ (fr ++ [(swStep s' c'.p c'.pl c'.e).1.1]) eu (by rw [if_pos hf]) p' cap' H4 ⟨x, by rw [List.map_append, List.length_append]; exact g4⟩
        rw [List.length_append] at this
        exact this
end
end Go.Proofs.YtohlnmenghbgbaaGreat

namespace Go.Proofs.YtohlnmenghbgbaaGreat
set_option linter.unusedSimpArgs false
set_option linter.unusedVariables false
open Go
section
variable {H0 H : Hp} {L M N : List Prt} {i j k b hb : Nat} {s : Hs} {c : Cy} {x : CyX} {K : Value → Hp → Prop}
theorem cyNewC {n grey sus work : Int} (h : St H0 L H) (hi : L[i]? = some (HeapP hb s)) (hnode : s.node = 1) (hn : 1 ≤ n ∧ n ≤ 4) (hg : 1 ≤ grey ∧ grey ≤ 64) (hs : 0 ≤ sus ∧ sus ≤ 40) (hw : 1 ≤ work ∧ work ≤ 64)
    (hK : ∀ b H', St H0 (CyP b hb (newCy n grey sus work s.last) :: L) H' → K (.tuple #[.pointer (some ⟨b, 0, none⟩), .int .i64 0]) H') :
    hcall PR f_cycle_New ⟨[.pointer (some ⟨hb, 0, none⟩), .int .i64 n, .int .i64 grey, .int .i64 sus, .int .i64 work]⟩ H K := by
  apply den_cycle_New
  unfold B_cycle_New
  simp only [Option.isNone_some, condF]
  refine bif_neg (by omega) (bif_neg (by omega) (bif_neg (by omega) (bif_neg (by omega) ?_)))
  refine shakeNew_ok hn.1 hn.2 fun kb F H1 ha hg1 => ?_
  have h1 := h.new ha hg1
  simp only [asI_mk', asB_mk, asP_mk, asA_mk, asM_mk, asSl_mk, asStr_mk, tup2_mk, tup3_mk, agg1_mk, agg2_mk, agg3_mk, agg4_mk, asAggm, unCons_mk, unNil_mk, asTup_mk, extractD0, extractD1, List.toList_toArray, nilP_mk, add_mk, Nat.zero_add, Nat.add_zero, condT, condF, Bool.not_true, Bool.not_false, Option.isNone_some, Option.isNone_none]
  refine pNewOk h1 hg.1 hg.2 fun pb H2 h2 => ?_
  simp only [asI_mk', asB_mk, asP_mk, asA_mk, asM_mk, asSl_mk, asStr_mk, tup2_mk, tup3_mk, agg1_mk, agg2_mk, agg3_mk, agg4_mk, asAggm, unCons_mk, unNil_mk, asTup_mk, extractD0, extractD1, List.toList_toArray, nilP_mk, add_mk, Nat.zero_add, Nat.add_zero, condT, condF, Bool.not_true, Bool.not_false, Option.isNone_some, Option.isNone_none]
  refine bif_neqf rfl (bif_neqf rfl (hNode h2 (i := i + 2) hi ?_))
  simp only [asI_mk', asB_mk, asP_mk, asA_mk, asM_mk, asSl_mk, asStr_mk, tup2_mk, tup3_mk, agg1_mk, agg2_mk, agg3_mk, agg4_mk, asAggm, unCons_mk, unNil_mk, asTup_mk, extractD0, extractD1, List.toList_toArray, nilP_mk, add_mk, Nat.zero_add, Nat.add_zero, condT, condF, Bool.not_true, Bool.not_false, Option.isNone_some, Option.isNone_none]
  rw [hnode]
  intro b21 hb21
  have h3 := h2.alloc (o := .cells #[ptrV kb, ptrV hb, ptrV pb, .pointer none, .pointer none, .pointer none, .int .i64 1, .int .i64 0, .int .i64 sus, .int .i64 work, .int .u64 0, .int .u64 0, .int .u64 0, .slice none 0 0, .slice none 0 0, .bool false] ty_cycle_Cycle) hb21
  refine mkNewC h3 fun mb H4 h4 => ?_
  simp only [asI_mk', asB_mk, asP_mk, asA_mk, asM_mk, asSl_mk, asStr_mk, tup2_mk, tup3_mk, agg1_mk, agg2_mk, agg3_mk, agg4_mk, asAggm, unCons_mk, unNil_mk, asTup_mk, extractD0, extractD1, List.toList_toArray, nilP_mk, add_mk, Nat.zero_add, Nat.add_zero, condT, condF, Bool.not_true, Bool.not_false, Option.isNone_some, Option.isNone_none]
  refine h4.put (i := 1) rfl (by simp) fun H5 h5 => ?_
  refine rcNewC h5 fun rb H6 h6 => ?_
  simp only [asI_mk', asB_mk, asP_mk, asA_mk, asM_mk, asSl_mk, asStr_mk, tup2_mk, tup3_mk, agg1_mk, agg2_mk, agg3_mk, agg4_mk, asAggm, unCons_mk, unNil_mk, asTup_mk, extractD0, extractD1, List.toList_toArray, nilP_mk, add_mk, Nat.zero_add, Nat.add_zero, condT, condF, Bool.not_true, Bool.not_false, Option.isNone_some, Option.isNone_none]
  refine h6.put (i := 2) rfl (by simp) fun H7 h7 => ?_
  refine swNewC h7 (i := i + 5) (pb := pb) hi fun sb H8 h8 => ?_
  simp only [asI_mk', asB_mk, asP_mk, asA_mk, asM_mk, asSl_mk, asStr_mk, tup2_mk, tup3_mk, agg1_mk, agg2_mk, agg3_mk, agg4_mk, asAggm, unCons_mk, unNil_mk, asTup_mk, extractD0, extractD1, List.toList_toArray, nilP_mk, add_mk, Nat.zero_add, Nat.add_zero, condT, condF, Bool.not_true, Bool.not_false, Option.isNone_some, Option.isNone_none]
  refine h8.put (i := 3) rfl (by simp) fun H9 h9 => ?_
  have h10 := h9.say (p := (newCy n grey sus work s.last).ok) (newCy_ok hn hg hs hw)
  have h11 := h10.row (H' := _) (Own.nil 3) ((Goes.refl Nothing _).less fun c hc => absurd hc blk_none)
  have h12 := h11.say (p := ([] : List RcQ).map (·.1) = []) rfl
  have h13 := St.gather (M := []) h12
  have h14 := h13.row (H' := _) (Own.nil 2) ((Goes.refl Nothing _).less fun c hc => absurd hc blk_none)
  have h15 : St H0 (RowsP none 0 [] :: Prt.row 3 none 0 0 [] :: _) H9 := St.gatherEx (M := fun qs : List RcQ => [Prt.row 2 none qs.length 0 (cel rcRowC qs), Prt.list (qs.map rcRowP), Prt.pure (qs.map (·.1) = [])]) [] h14
  have h16 := h15.pick 9 [6, 8, 7, 5, 4, 3, 0, 1, 2] rfl rfl
  exact hK b21 H9 (St.gatherEx (M := cyParts b21 hb (newCy n grey sus work s.last)) ⟨kb, pb, mb, rb, sb, ty_sweep_Sweeper, none, 0, none, 0, ty_cycle_Cycle⟩ h16)

theorem cySummaryC {n : Nat} (h : St H0 L H) (hk : L[k]? = some (CyP b hb c)) (hlt : c.lt n) (hn : n ≤ 700000)
    (hK : ∀ rp rc op oc H', St H0 (Prt.row 3 op c.told.outs.length oc (cel outC c.told.outs) :: RowsP rp rc c.told.rows :: L) H' → K (.agg #[.int .u64 c.told.stir, .slice rp c.told.rows.length rc, .slice op c.told.outs.length oc, .bool c.told.ok]) H') :
    hcall PR f_cycle_Cycle_Summary ⟨[.pointer (some ⟨b, 0, none⟩)]⟩ H K := by
  obtain ⟨x, g, ho⟩ := cyOpened h hk
  have hro := hlt.rows
  have hou := hlt.outs
  have done : ∀ rp rc op oc H', St H0 (Prt.row 3 op c.told.outs.length oc (cel outC c.told.outs) :: RowsP rp rc c.told.rows :: (cyParts b hb c x ++ L.set k .nil)) H' → K (.agg #[.int .u64 c.told.stir, .slice rp c.told.rows.length rc, .slice op c.told.outs.length oc, .bool c.told.ok]) H' := fun rp rc op oc H' g' => by
    have h1 := cyShut (N := [Prt.row 3 op c.told.outs.length oc (cel outC c.told.outs), RowsP rp rc c.told.rows]) (c := c) (x := x) g' hk
    rw [List.set_self hk] at h1
    exact hK rp rc op oc H' h1
  obtain ⟨qs, g0⟩ := g.openEx (i := 6) (M := fun qs : List RcQ => [Prt.row 2 x.tp qs.length x.tc (cel rcRowC qs), Prt.list (qs.map rcRowP), Prt.pure (qs.map (·.1) = c.told.rows)]) rfl
  have facts : ∀ (N : List Prt) H', St H0 (N ++ ([Prt.row 2 x.tp qs.length x.tc (cel rcRowC qs), Prt.list (qs.map rcRowP), Prt.pure (qs.map (·.1) = c.told.rows)] ++ (cyParts b hb c x ++ L.set k .nil).set 6 .nil)) H' →
      hcell H' ⟨b, 12, none⟩ = some (.int .u64 c.told.stir) ∧ hcell H' ⟨b, 13, none⟩ = some (.slice x.tp c.told.rows.length x.tc) ∧ hcell H' ⟨b, 14, none⟩ = some (.slice x.op c.told.outs.length x.oc) ∧ hcell H' ⟨b, 15, none⟩ = some (.bool c.told.ok) ∧ Rd H' 3 x.op c.told.outs.length (cel outC c.told.outs) ∧ RowsV H' x.tp c.told.rows qs := fun N H' h' => by
    have h'' := St.lesses (M := N) h'
    exact ⟨h''.cell (i := 3) rfl rfl, h''.cell (i := 3) rfl rfl, h''.cell (i := 3) rfl rfl, h''.cell (i := 3) rfl rfl, h''.row_rd (i := 10) rfl, h''.fact (i := 2) rfl, h''.row_rd (i := 0) rfl, rowsRd h'' (i := 1) rfl⟩
  have back : ∀ rp rc op oc H', St H0 (Prt.row 3 op c.told.outs.length oc (cel outC c.told.outs) :: RowsP rp rc c.told.rows :: ([Prt.row 2 x.tp qs.length x.tc (cel rcRowC qs), Prt.list (qs.map rcRowP), Prt.pure (qs.map (·.1) = c.told.rows)] ++ (cyParts b hb c x ++ L.set k .nil).set 6 .nil)) H' → K (.agg #[.int .u64 c.told.stir, .slice rp c.told.rows.length rc, .slice op c.told.outs.length oc, .bool c.told.ok]) H' := fun rp rc op oc H' h' => by
    have h1 := St.shutExN (A := fun qs : List RcQ => [Prt.row 2 x.tp qs.length x.tc (cel rcRowC qs), Prt.list (qs.map rcRowP), Prt.pure (qs.map (·.1) = c.told.rows)]) (N := [Prt.row 3 op c.told.outs.length oc (cel outC c.told.outs), RowsP rp rc c.told.rows]) qs h' (B := RowsP x.tp x.tc c.told.rows) rfl
    exact done rp rc op oc H' h1
  obtain ⟨B, hB⟩ : ∃ B, B = ([Prt.row 2 x.tp qs.length x.tc (cel rcRowC qs), Prt.list (qs.map rcRowP), Prt.pure (qs.map (·.1) = c.told.rows)] ++ (cyParts b hb c x ++ L.set k .nil).set 6 .nil) := ⟨_, rfl⟩
  have g0 : St H0 ([Prt.row 2 x.tp qs.length x.tc (cel rcRowC qs), Prt.list (qs.map rcRowP), Prt.pure (qs.map (·.1) = c.told.rows)] ++ (cyParts b hb c x ++ L.set k .nil).set 6 .nil) H := g0
  rw [← hB] at facts back g0
  have hqs := (facts [] H g0).2.2.2.2.2.len
  clear g hB done
  apply den_cycle_Cycle_Summary
  unfold B_cycle_Cycle_Summary
  intro b2 hb2
  have g1 := g0.alloc (o := .cells #[.int .u64 0, .slice none 0 0, .slice none 0 0, .bool false] ty_cycle_Summary) hb2
  intro R4 hR4
  have tell : ∀ bo op oc H', St H0 (Prt.one bo (.cells #[.int .u64 c.told.stir, .slice none 0 0, .slice op c.told.outs.length oc, .bool c.told.ok] ty_cycle_Summary (0, 0)) :: Prt.row 3 op c.told.outs.length oc (cel outC c.told.outs) :: Prt.one b2 (.cells #[.int .u64 0, .slice none 0 0, .slice none 0 0, .bool false] ty_cycle_Summary (0, 0)) :: B) H' → R4 (some ⟨bo, 0, none⟩) H' := by
    intro bo op oc H1 h1
    refine hR4 _ H1 ?_
    simp only [asI_mk', asB_mk, asP_mk, asA_mk, asM_mk, asSl_mk, asStr_mk, tup2_mk, tup3_mk, agg1_mk, agg2_mk, agg3_mk, agg4_mk, asAggm, unCons_mk, unNil_mk, asTup_mk, extractD0, extractD1, List.toList_toArray, nilP_mk, add_mk, Nat.zero_add, Nat.add_zero, condT, condF, Bool.not_true, Bool.not_false, Option.isNone_some, Option.isNone_none]
    refine ldSl_of (facts [_, _, _] H1 h1).2.1 ?_
    refine ⟨fun t H' => ∃ (y : Nat) (ns : List RcQ) (rp : Option Addr) (rc : Nat), t = y ∧ y ≤ c.told.rows.length ∧ ns.map (·.1) = c.told.rows.take y ∧
        St H0 (Prt.one bo (.cells #[.int .u64 c.told.stir, .slice rp ns.length rc, .slice op c.told.outs.length oc, .bool c.told.ok] ty_cycle_Summary (0, 0)) :: Prt.row 2 rp ns.length rc (cel rcRowC ns) :: Prt.list (ns.map rcRowP) :: Prt.row 3 op c.told.outs.length oc (cel outC c.told.outs) :: Prt.one b2 (.cells #[.int .u64 0, .slice none 0 0, .slice none 0 0, .bool false] ty_cycle_Summary (0, 0)) :: B) H',
      fun t _ => ((c.told.rows.length : Int) - t).toNat, ⟨0, [], none, 0, rfl, by omega, rfl, ?_⟩, ?_⟩
    · have h2 := h1.row (H' := _) (Own.nil 2) ((Goes.refl Nothing _).less fun c hc => absurd hc blk_none)
      have h3 := St.gather (M := []) h2
      exact h3.pick 3 [2, 1, 0] rfl rfl
    clear h1
    rintro t H2 ⟨y, ns, rp, rc, rfl, hy, hns, h2⟩
    have hnl : ns.length = y := by
      have := congrArg List.length hns
      rw [List.length_map, List.length_take] at this
      omega
    by_cases hc : (y : Int) < ((c.told.rows.length : Nat) : Int)
    rotate_left
    · obtain rfl : y = c.told.rows.length := by omega
      refine bif_neg hc ?_
      rw [List.take_length] at hns
      refine ldI_of (h2.cell (i := 0) rfl rfl) (ldSl_of (h2.cell (i := 0) rfl rfl) (ldSl_of (h2.cell (i := 0) rfl rfl) (ldB_of (h2.cell (i := 0) rfl rfl) ?_)))
      refine h2.put (i := 4) rfl (by simp) fun H3 h3 => h3.put (i := 4) rfl (by simp) fun H4 h4 => h4.put (i := 4) rfl (by simp) fun H5 h5 => h5.put (i := 4) rfl (by simp) fun H6 h6 => ?_
      refine ldI_of (h6.cell (i := 4) rfl rfl) (ldSl_of (h6.cell (i := 4) rfl rfl) (ldSl_of (h6.cell (i := 4) rfl rfl) (ldB_of (h6.cell (i := 4) rfl rfl) ?_)))
      have h7 := h6.say (p := ns.map (·.1) = c.told.rows) hns
      have h8 := h7.pick 6 [1, 5, 2, 3, 0, 4] rfl rfl
      have h9 := St.lesses (M := [_, _]) h8
      have h11 : St H0 (RowsP rp rc c.told.rows :: Prt.row 3 op c.told.outs.length oc (cel outC c.told.outs) :: B) H6 := St.gatherEx (M := fun qs : List RcQ => [Prt.row 2 rp qs.length rc (cel rcRowC qs), Prt.list (qs.map rcRowP), Prt.pure (qs.map (·.1) = c.told.rows)]) ns h9
      rw [hnl]
      exact back rp rc op oc H6 h11.flip
    refine bif_pos hc ?_
    have hyl : y < qs.length := by omega
    have v1 := (facts [_, _, _, _, _] H2 h2).2.2.2.2.2
    rw [← hqs]
    refine idxS rcRowC_len ((0, []), (none, 0)) v1.2.1 (by omega) (by omega) (by omega) fun bb oo _ hl1 hcc => ?_
    have c0 := hcc 0 (by omega)
    have c1 := hcc 1 (by omega)
    rw [Int.toNat_natCast] at c0 c1
    have hgd : qs.getD y ((0, []), (none, 0)) = qs[y] := by rw [List.getD_eq_getElem?_getD, List.getElem?_eq_getElem hyl]; rfl
    rw [hgd] at c0 c1
    obtain ⟨r, hr⟩ : ∃ r, r = qs[y] := ⟨_, rfl⟩
    rw [← hr] at c0 c1
    have hrm : r ∈ qs := by rw [hr]; exact List.getElem_mem hyl
    have hrr : r.1 ∈ c.told.rows := by rw [← v1.1]; exact List.mem_map.2 ⟨r, hrm, rfl⟩
    have hrl := hlt.rlen _ hrr
    have hry : c.told.rows[y]? = some r.1 := by rw [← v1.1, List.getElem?_map, List.getElem?_eq_getElem hyl, hr]; rfl
    simp only [asI_mk', asB_mk, asP_mk, asA_mk, asM_mk, asSl_mk, asStr_mk, tup2_mk, tup3_mk, agg1_mk, agg2_mk, agg3_mk, agg4_mk, asAggm, unCons_mk, unNil_mk, asTup_mk, extractD0, extractD1, List.toList_toArray, nilP_mk, add_mk, Nat.zero_add, Nat.add_zero, condT, condF, Bool.not_true, Bool.not_false, Option.isNone_some, Option.isNone_none]
    refine ldI_of c0 (ldSl_of c1 ?_)
    intro b20 hb20
    have h3 := h2.alloc (o := .cells #[.int .u64 0, .slice none 0 0] ty_api_Reach) hb20
    refine h3.put (i := 0) rfl (by simp) fun H3 h4 => h4.put (i := 0) rfl (by simp) fun H4 h5 => ?_
    refine ldSl_of (h5.cell (i := 1) rfl rfl) (ldI_of (h5.cell (i := 0) rfl rfl) (ldSl_of (h5.cell (i := 0) rfl rfl) ?_))
    intro b32 hb32
    have h6 := h5.alloc (o := .cells #[] ty_api_ID) hb32
    refine ⟨ldSl_of (h6.cell (i := 1) rfl rfl) rfl, ldI_of (h6.cell (i := 1) rfl rfl) rfl, ldSl_of (h6.cell (i := 2) rfl rfl) rfl, ?_⟩
    refine h6.copy (i := 0) rfl tu_ty_Sapi_ID tu_ty_Sapi_ID ti_ty_api_ID rfl (by decide) ((facts [_, _, _, _, _, _, _] _ h6).2.2.2.2.2.2.2 r hrm) (fun z hz => by
      unfold cel at hz
      rw [List.mem_flatten] at hz
      obtain ⟨l, hl, hz⟩ := hz
      obtain ⟨a, _, rfl⟩ := List.mem_map.1 hl
      simp [Id.cells] at hz
      rcases hz with rfl | rfl <;> rfl) (by omega) fun p' cap' H7 h7 => ?_
    simp only [asI_mk', asB_mk, asP_mk, asA_mk, asM_mk, asSl_mk, asStr_mk, tup2_mk, tup3_mk, agg1_mk, agg2_mk, agg3_mk, agg4_mk, asAggm, unCons_mk, unNil_mk, asTup_mk, extractD0, extractD1, List.toList_toArray, nilP_mk, add_mk, Nat.zero_add, Nat.add_zero, condT, condF, Bool.not_true, Bool.not_false, Option.isNone_some, Option.isNone_none]
    refine ⟨ldI_of (h7.cell (i := 1) rfl rfl) rfl, ldSl_of (h7.cell (i := 2) rfl rfl) rfl, ?_⟩
    intro b50 hb50
    have h8 := h7.alloc (o := .cells #[.int .u64 r.1.1, .slice p' r.1.2.length cap'] ty_api_Reach) hb50
    refine ⟨ldSl_of (h8.cell (i := 3) rfl rfl) rfl, ?_⟩
    refine h8.app (i := 4) rfl tu_ty_Sapi_Reach tu_ty_Sapi_Reach ti_ty_api_Reach rfl (by decide) (h8.one_rd (i := 0) (n := 1) rfl rfl) (fun z hz => by simp at hz; rcases hz with rfl | rfl <;> rfl) (by omega) fun q' cap2 H9 h9 => ?_
    simp only [asI_mk', asB_mk, asP_mk, asA_mk, asM_mk, asSl_mk, asStr_mk, tup2_mk, tup3_mk, agg1_mk, agg2_mk, agg3_mk, agg4_mk, asAggm, unCons_mk, unNil_mk, asTup_mk, extractD0, extractD1, List.toList_toArray, nilP_mk, add_mk, Nat.zero_add, Nat.add_zero, condT, condF, Bool.not_true, Bool.not_false, Option.isNone_some, Option.isNone_none]
    refine h9.put (i := 3) rfl (by simp) fun H10 h10 => ?_
    obtain ⟨nq, hnq⟩ : ∃ nq : RcQ, nq = (r.1, (p', cap')) := ⟨_, rfl⟩
    have e1 : cel rcRowC ns ++ (#[Value.int .u64 r.1.1, .slice p' r.1.2.length cap'] : Array Value).toList = cel rcRowC (ns ++ [nq]) := by rw [cel_append, hnq]; rfl
    have e2 : ns.length + 1 = (ns ++ [nq]).length := by simp
    rw [e1, e2] at h10
    have h11 := (St.less h10).pick 2 [0, 1] rfl rfl
    have h12 := h11.pick 2 [1, 0] rfl rfl
    have h13 := St.less h12
    have h14 := St.push (i := 2) (A := rcRowP nq) (M := ns.map rcRowP) (by rw [hnq]; exact h13) rfl
    rw [show ns.map rcRowP ++ [rcRowP nq] = (ns ++ [nq]).map rcRowP by simp] at h14
    rw [wrap_i64 (by omega) (by omega)]
    refine ⟨⟨y + 1, ns ++ [nq], q', cap2, by omega, by omega, ?_, h14⟩, by (try dsimp only); omega⟩
    rw [List.map_append, hns, List.take_add_one, hry, hnq]
    rfl
  simp only [asI_mk', asB_mk, asP_mk, asA_mk, asM_mk, asSl_mk, asStr_mk, tup2_mk, tup3_mk, agg1_mk, agg2_mk, agg3_mk, agg4_mk, asAggm, unCons_mk, unNil_mk, asTup_mk, extractD0, extractD1, List.toList_toArray, nilP_mk, add_mk, Nat.zero_add, Nat.add_zero, condT, condF, Bool.not_true, Bool.not_false, Option.isNone_some, Option.isNone_none]
  obtain ⟨a0, _, a2, a3, _⟩ := facts [_] _ g1
  have hone : ∀ z ∈ cel outC c.told.outs, one z = true := fun z hz => by
    unfold cel at hz
    rw [List.mem_flatten] at hz
    obtain ⟨l, hl, hz⟩ := hz
    obtain ⟨a, _, rfl⟩ := List.mem_map.1 hl
    simp [outC] at hz
    rcases hz with rfl | rfl | rfl <;> rfl
  refine ldI_of a0 (ldSl_of a2 (ldB_of a3 ⟨?_, ?_⟩))
  · intro b91 hb91
    have g2 := g1.alloc (o := .cells #[] ty_api_Out) hb91
    obtain ⟨a0, _, a2, a3, ao, _⟩ := facts [_, _] _ g2
    refine ⟨ldB_of a3 rfl, ldSl_of a2 rfl, ldI_of a0 rfl, ?_, ?_⟩
    · refine g2.copy (i := 0) rfl tu_ty_Sapi_Out tu_ty_Sapi_Out ti_ty_api_Out rfl (by decide) ao hone (by omega) fun op oc H3 g3 => ?_
      simp only [asI_mk', asB_mk, asP_mk, asA_mk, asM_mk, asSl_mk, asStr_mk, tup2_mk, tup3_mk, agg1_mk, agg2_mk, agg3_mk, agg4_mk, asAggm, unCons_mk, unNil_mk, asTup_mk, extractD0, extractD1, List.toList_toArray, nilP_mk, add_mk, Nat.zero_add, Nat.add_zero, condT, condF, Bool.not_true, Bool.not_false, Option.isNone_some, Option.isNone_none]
      obtain ⟨a0, _, a2, a3, ao, _⟩ := facts [_, _] _ g3
      refine ⟨ldB_of a3 rfl, ldI_of a0 rfl, ?_⟩
      intro b105 hb105
      have g4 := g3.alloc (o := .cells #[.int .u64 0, .slice none 0 0, .slice none 0 0, .bool false] ty_cycle_Summary) hb105
      obtain ⟨a0, _, a2, a3, ao, _⟩ := facts [_, _, _] _ g4
      refine ⟨ldB_of a3 rfl, ldI_of a0 rfl, ?_⟩
      exact g4.put (i := 0) rfl (by simp) fun H5 g5 => g5.put (i := 0) rfl (by simp) fun H6 g6 => g6.put (i := 0) rfl (by simp) fun H7 g7 => g7.put (i := 0) rfl (by simp) fun H8 g8 => tell b105 op oc H8 g8
    · intro b113 hb113
      have g3 := g2.alloc (o := .cells #[.int .u64 0, .slice none 0 0, .slice none 0 0, .bool false] ty_cycle_Summary) hb113
      obtain ⟨a0, _, a2, a3, ao, _⟩ := facts [_, _, _] _ g3
      refine ⟨ldB_of a3 rfl, ldSl_of a2 rfl, ldI_of a0 rfl, ?_⟩
      refine g3.copy (i := 1) rfl tu_ty_Sapi_Out tu_ty_Sapi_Out ti_ty_api_Out rfl (by decide) ao hone (by omega) fun op oc H4 g4 => ?_
      simp only [asI_mk', asB_mk, asP_mk, asA_mk, asM_mk, asSl_mk, asStr_mk, tup2_mk, tup3_mk, agg1_mk, agg2_mk, agg3_mk, agg4_mk, asAggm, unCons_mk, unNil_mk, asTup_mk, extractD0, extractD1, List.toList_toArray, nilP_mk, add_mk, Nat.zero_add, Nat.add_zero, condT, condF, Bool.not_true, Bool.not_false, Option.isNone_some, Option.isNone_none]
      obtain ⟨a0, _, a2, a3, ao, _⟩ := facts [_, _, _] _ g4
      refine ⟨ldB_of a3 rfl, ldI_of a0 rfl, ?_⟩
      exact g4.put (i := 0) rfl (by simp) fun H5 g5 => g5.put (i := 0) rfl (by simp) fun H6 g6 => g6.put (i := 0) rfl (by simp) fun H7 g7 => g7.put (i := 0) rfl (by simp) fun H8 g8 => tell b113 op oc H8 g8
  · intro b131 hb131
    have g2 := g1.alloc (o := .cells #[.int .u64 0, .slice none 0 0, .slice none 0 0, .bool false] ty_cycle_Summary) hb131
    obtain ⟨a0, _, a2, a3, ao, _⟩ := facts [_, _] _ g2
    refine ⟨ldB_of a3 rfl, ldSl_of a2 rfl, ldI_of a0 rfl, ?_⟩
    intro b138 hb138
    have g3 := g2.alloc (o := .cells #[] ty_api_Out) hb138
    obtain ⟨a0, _, a2, a3, ao, _⟩ := facts [_, _, _] _ g3
    refine ⟨ldB_of a3 rfl, ldSl_of a2 rfl, ldI_of a0 rfl, ?_⟩
    refine g3.copy (i := 0) rfl tu_ty_Sapi_Out tu_ty_Sapi_Out ti_ty_api_Out rfl (by decide) ao hone (by omega) fun op oc H4 g4 => ?_
    simp only [asI_mk', asB_mk, asP_mk, asA_mk, asM_mk, asSl_mk, asStr_mk, tup2_mk, tup3_mk, agg1_mk, agg2_mk, agg3_mk, agg4_mk, asAggm, unCons_mk, unNil_mk, asTup_mk, extractD0, extractD1, List.toList_toArray, nilP_mk, add_mk, Nat.zero_add, Nat.add_zero, condT, condF, Bool.not_true, Bool.not_false, Option.isNone_some, Option.isNone_none]
    obtain ⟨a0, _, a2, a3, ao, _⟩ := facts [_, _, _] _ g4
    refine ⟨ldB_of a3 rfl, ldI_of a0 rfl, ?_⟩
    exact g4.put (i := 1) rfl (by simp) fun H5 g5 => g5.put (i := 1) rfl (by simp) fun H6 g6 => g6.put (i := 1) rfl (by simp) fun H7 g7 => g7.put (i := 1) rfl (by simp) fun H8 g8 => tell b131 op oc H8 (St.flip g8)
end
end Go.Proofs.YtohlnmenghbgbaaGreat

namespace Go.Proofs.YtohlnmenghbgbaaGreat
set_option linter.unusedSimpArgs false
set_option linter.unusedVariables false
open Go
/-- All have answered twice. -/
structure Quiet (s : Hs) (c : Cy) : Prop where
  ph : c.sk.ph = 3
  r : c.st = 4 → c.r.within s
/-- How many units may yet be done. -/
def cyLeft (s : Hs) (n : Nat) (c : Cy) : Nat :=
  if c.st = 0 then mkLeft s n c.p ⟨0, false, 0⟩ + n * (n + 2) + n + 3
  else if c.st = 3 then mkLeft s n c.p c.m + n * (n + 2) + n + 3
  else if c.st = 4 then mkLeft s n c.p c.m + rcLeft n c.r + n + 2
  else ((n : Int) - c.pl).toNat + 1

section
variable {s : Hs} {c : Cy} {stir : Int} {n m : Nat} {fr : List Int}
theorem cyMk_same (h : (mkStep s c.p c.m).1 = false) : mkLeft s n (mkStep s c.p c.m).2.1 (mkStep s c.p c.m).2.2 ≤ mkLeft s n c.p c.m := by
  obtain ⟨h1, _⟩ := mkStep_end h
  rw [h1]
  unfold mkLeft
  simp only [Bool.false_eq_true, if_false]
  split <;> omega
theorem left_marks (ho : s.ok) (hl : s.last = n) (hc : c.ok) (hst : c.st = 3) (hq : c.sk.ph = 3) : cyLeft s n (cyMarks s c stir) + 1 ≤ mkLeft s n c.p c.m + n * (n + 2) + n + 3 ∧ Quiet s (cyMarks s c stir) := by
  unfold cyMarks
  cases h : (mkStep s c.p c.m).1
  · rw [if_neg (by decide)]
    have h1 := cyMk_same (n := n) h
    refine ⟨?_, hq, fun _ w hw => by cases hw⟩
    unfold cyLeft
    simp only
    rw [if_neg (by decide), if_neg (by decide), if_pos trivial, rcLeft_new]
    omega
  · rw [if_pos rfl]
    have h1 := mkStep_less ho hl hc.p hc.m h
    refine ⟨?_, hq, fun h4 => by simp only at h4; omega⟩
    unfold cyLeft
    simp only
    rw [if_neg (by omega), if_pos hst]
    omega
theorem left_reaches (ho : s.ok) (hl : s.last = n) (hc : c.ok) (hst : c.st = 4) (hq : Quiet s c) : cyLeft s n (cyReaches s c) + 1 ≤ mkLeft s n c.p c.m + rcLeft n c.r + n + 2 ∧ Quiet s (cyReaches s c) := by
  unfold cyReaches
  cases h : (mkStep s c.p c.m).1
  rotate_left
  · rw [if_pos rfl]
    have h1 := mkStep_less ho hl hc.p hc.m h
    refine ⟨?_, hq.ph, hq.r⟩
    unfold cyLeft
    simp only
    rw [if_neg (by omega), if_neg (by omega), if_pos hst]
    omega
  rw [if_neg (by decide)]
  have h1 := cyMk_same (n := n) h
  have hp1 := (mkStep_ok ho hc.p hc.m).1
  cases h2 : (rcStep s (mkStep s c.p c.m).2.1 c.r).1
  rotate_left
  · rw [if_pos rfl]
    have h3 := rcStep_less (n := n) ho hl hp1 hc.r (hq.r hst) h2
    refine ⟨?_, hq.ph, fun _ => (hq.r hst).step ho⟩
    unfold cyLeft
    simp only
    rw [if_neg (by omega), if_neg (by omega), if_pos hst]
    omega
  rw [if_neg (by decide)]
  refine ⟨?_, hq.ph, fun h4 => by simp only at h4; omega⟩
  unfold cyLeft
  simp only
  rw [if_neg (by decide), if_neg (by decide), if_neg (by decide)]
  omega
theorem sw_true {p : Ps} {pl e : Int} (h : (swStep s p pl e).1.2 = true) : (hNext s pl).2 = true ∧ (hNext s pl).1 ≤ e ∧ (swStep s p pl e).2.2.2 = (hNext s pl).1 := by
  unfold swStep at h ⊢
  split at h
  · cases h
  · rename_i hc
    rw [if_neg hc]
    refine ⟨?_, ?_, ?_⟩
    · cases hq : (hNext s pl).2
      · exact absurd (.inl hq) hc
      · rfl
    · exact Int.not_lt.1 fun h' => hc (.inr h')
    · split <;> rfl
theorem sw_last {p : Ps} {pl e : Int} : (swStep s p pl e).2.1.last = s.last ∧ (swStep s p pl e).2.1.node = s.node := by
  unfold swStep
  split
  · exact ⟨rfl, rfl⟩
  · split
    · exact ⟨rfl, rfl⟩
    · exact ⟨hFree_last, hFree_node⟩
theorem unit_last : (cyUnit s c stir).s.last = s.last ∧ (cyUnit s c stir).s.node = s.node := by
  unfold cyUnit
  split
  · exact ⟨rfl, rfl⟩
  · split
    · split <;> exact ⟨rfl, rfl⟩
    · split
      · exact ⟨rfl, rfl⟩
      · split
        · exact ⟨rfl, rfl⟩
        · split
          · split <;> exact sw_last
          · exact ⟨rfl, rfl⟩
/-- A unit of a quiet cycle: it ends there, or less is left. -/
theorem unit_quiet (ho : s.ok) (hl : s.last = n) (hc : c.ok) (hq : Quiet s c) : ((cyUnit s c stir).stop = some true ∧ (cyUnit s c stir).c.state = 0) ∨ ((cyUnit s c stir).stop = none ∧ cyLeft (cyUnit s c stir).s n (cyUnit s c stir).c + 1 ≤ cyLeft s n c ∧ Quiet (cyUnit s c stir).s (cyUnit s c stir).c) := by
  have hph := hq.ph
  rcases hc.state with ⟨e, e1, e2⟩ | ⟨e, e1, e2⟩ | ⟨e, e1, e2⟩ | ⟨e, e1, e2⟩ | ⟨e, e1, e2⟩ | ⟨e, e1, e2⟩
  · omega
  · omega
  · rw [unit23 (.inr e) hph]
    have hc3 : ({ c with st := 3, m := ⟨0, false, 0⟩ } : Cy).ok := ⟨hc.len, hc.size, hc.ph, .inr ⟨.inl rfl, hph⟩, hc.sus, hc.work, hc.p, ⟨Int.le_refl _, Int.le_refl _⟩, hc.r, hc.pl⟩
    have h1 := left_marks (stir := stir) ho hl hc3 rfl hph
    refine .inr ⟨rfl, ?_, h1.2⟩
    have h2 : cyLeft s n c = mkLeft s n c.p ⟨0, false, 0⟩ + n * (n + 2) + n + 3 := by unfold cyLeft; rw [if_pos e1]
    rw [h2]
    exact h1.1
  · rw [unit3 e]
    have h1 := left_marks (stir := stir) ho hl hc e1 hph
    refine .inr ⟨rfl, ?_, h1.2⟩
    have h2 : cyLeft s n c = mkLeft s n c.p c.m + n * (n + 2) + n + 3 := by unfold cyLeft; rw [if_neg (by omega), if_pos e1]
    rw [h2]
    exact h1.1
  · rw [unit4 e]
    have h1 := left_reaches ho hl hc e1 hq
    refine .inr ⟨rfl, ?_, h1.2⟩
    have h2 : cyLeft s n c = mkLeft s n c.p c.m + rcLeft n c.r + n + 2 := by unfold cyLeft; rw [if_neg (by omega), if_neg (by omega), if_pos e1]
    rw [h2]
    exact h1.1
  · cases hs : (swStep s c.p c.pl c.e).1.2
    · rw [unit5 e hs]
      refine .inl ⟨rfl, ?_⟩
      unfold Cy.state
      simp only
      have : c.sk.ended.ph = 0 := by unfold Sk.ended; rw [if_pos hph]
      rw [this]
      decide
    · rw [unit6 e hs]
      obtain ⟨h1, h2, h3⟩ := sw_true hs
      have h4 := hNext_pos ho h1
      refine .inr ⟨rfl, ?_, hph, fun h5 => by simp only at h5; omega⟩
      unfold cyLeft
      simp only
      rw [if_neg (by omega), if_neg (by omega), if_neg (by omega), if_neg (by omega), if_neg (by omega), if_neg (by omega), h3]
      omega
theorem left_pos : 1 ≤ cyLeft s n c := by
  unfold cyLeft
  split
  · omega
  · split
    · omega
    · split <;> omega
/-- Some units of a quiet cycle. -/
theorem steps_quiet : ∀ {m : Nat} {s : Hs} {c : Cy} {fr : List Int}, s.ok → s.last = n → c.ok → Quiet s c → ((cySteps stir m s c fr).1.2 = true ∧ (cySteps stir m s c fr).2.2.state = 0) ∨ ((cySteps stir m s c fr).1.2 = false ∧ cyLeft (cySteps stir m s c fr).2.1 n (cySteps stir m s c fr).2.2 + m ≤ cyLeft s n c ∧ Quiet (cySteps stir m s c fr).2.1 (cySteps stir m s c fr).2.2 ∧ (cySteps stir m s c fr).2.1.last = n)
  | 0, s, c, fr, ho, hl, hc, hq => .inr ⟨rfl, Nat.le_refl _, hq, hl⟩
  | m + 1, s, c, fr, ho, hl, hc, hq => by
    have h1 := hc.unit (stir := stir) ho
    unfold cySteps
    rcases unit_quiet (stir := stir) ho hl hc hq with ⟨e, h2⟩ | ⟨e, h2, h3⟩
    · rw [e]
      exact .inl ⟨rfl, h2⟩
    · rw [e]
      simp only
      rcases steps_quiet (m := m) (fr := if (cyUnit s c stir).freed ≠ 0 then fr ++ [(cyUnit s c stir).freed] else fr) h1.1 (unit_last.1.trans hl) h1.2 h3 with h4 | ⟨h4, h5, h6, h7⟩
      · exact .inl h4
      · exact .inr ⟨h4, by omega, h6, h7⟩
/-- The answers of the first turn. -/
def cyAnswered (c : Cy) : Cy := { c with p := pTurn c.p, sk := ⟨3, [true, true], [true, true]⟩ }
theorem left_new (hs : s.obs.length = n) {grey sus work : Int} : cyLeft s n (cyAnswered (newCy 1 grey sus work n)) ≤ 43 * ((n + 1) * (n + 3)) := by
  unfold cyLeft cyAnswered
  simp only [newCy]
  rw [if_pos trivial]
  have e : mkLeft s n (pTurn (newPs grey)) ⟨0, false, 0⟩ = mkLeft s n (newPs grey) ⟨0, false, 0⟩ := rfl
  rw [e, mkLeft_new hs]
  have a1 : (n + 1) * (41 * n) = 41 * (n * n) + 41 * n := by
    rw [Nat.add_mul, Nat.one_mul, Nat.mul_left_comm]
  have a2 : (n + 1) * (n + 3) = n * n + 4 * n + 3 := by
    rw [Nat.add_mul, Nat.one_mul, Nat.mul_add]; omega
  have a3 : n * (n + 2) = n * n + 2 * n := by rw [Nat.mul_add]; omega
  rw [a1, a2, a3]
  generalize n * n = q
  omega
theorem answered_quiet {grey sus work l : Int} : Quiet s (cyAnswered (newCy 1 grey sus work l)) := ⟨rfl, fun h => by exact absurd h (show ¬ ((0 : Int) = 4) by decide)⟩
end
end Go.Proofs.YtohlnmenghbgbaaGreat

namespace Go.Proofs.YtohlnmenghbgbaaGreat
set_option linter.unusedSimpArgs false
set_option linter.unusedVariables false
open Go
/-- The unmarked ones of the first q. -/
def unm (p : Ps) (q : Nat) : List Int := ((List.range q).map fun (k : Nat) => (k : Int) + 1).filter fun k => (mlook p.marks k).isNone
theorem unm_succ {p : Ps} {q : Nat} : unm p (q + 1) = unm p q ++ if (mlook p.marks ((q : Int) + 1)).isNone = true then [(q : Int) + 1] else [] := by
  unfold unm
  rw [List.range_succ, List.map_append, List.filter_append]
  congr 1
  simp only [List.map_cons, List.map_nil]
  by_cases h : (mlook p.marks ((q : Int) + 1)).isNone = true
  · rw [if_pos h, List.filter_cons, if_pos h]; rfl
  · rw [if_neg h, List.filter_cons, if_neg h]; rfl
/-- What a collector tells behind marks that are done. -/
structure Told (s0 : Hs) (rts : List Int) (stir : Int) (c : Cy) (pd : Ps) : Prop where
  done : Done s0 (grBase s0 rts) pd
  ok : pd.ok
  told : ∃ rows, c.told = ⟨stir, rows, (outsOf pd).filter (fun e => decide (c.sus < e.2)), true⟩ ∧ RcTold s0 pd c.sus rows
def JE (s0 : Hs) (n : Nat) (rts : List Int) (stir : Int) (c : Cy) (fr : List Int) : Prop := c.state = 0 ∧ ∃ pd, Told s0 rts stir c pd ∧ fr = unm pd n
def JS (s0 : Hs) (n : Nat) (rts : List Int) (stir : Int) (s : Hs) (c : Cy) (fr : List Int) : Prop := ∃ (pd : Ps) (q : Nat), Told s0 rts stir c pd ∧ c.pl = q ∧ q ≤ n ∧ c.e = n ∧ (∀ k, (q : Int) < k → hGet s k = hGet s0 k) ∧ (∀ k, (q : Int) < k → mlook c.p.marks k = mlook pd.marks k) ∧ fr = unm pd q
/-- A quiet cycle under way. -/
def J (s0 : Hs) (n : Nat) (rts : List Int) (stir : Int) (s : Hs) (c : Cy) (fr : List Int) : Prop :=
  c.sk.ph = 3 ∧ ((c.st = 0 ∧ s = s0 ∧ fr = [] ∧ MkBegun s0 n rts c.p) ∨ (c.st = 3 ∧ s = s0 ∧ fr = [] ∧ Mkd s0 (grBase s0 rts) (fun k => k ∈ rts) c.p c.m) ∨
    (c.st = 4 ∧ s = s0 ∧ fr = [] ∧ Done s0 (grBase s0 rts) c.p ∧ (mkStep s0 c.p c.m).1 = false ∧ c.stir = stir ∧ c.r.suspect = c.sus ∧ RcInv s0 c.p c.r) ∨
    (c.st = 5 ∧ JS s0 n rts stir s c fr))

section
variable {s0 s : Hs} {c : Cy} {stir : Int} {n : Nat} {rts : List Int} {fr : List Int}
theorem J.marks (ho : s0.ok) (hc : c.ok) (hph : c.sk.ph = 3) (hst : c.st = 3) (h : Mkd s0 (grBase s0 rts) (fun k => k ∈ rts) c.p c.m) : J s0 n rts stir s0 (cyMarks s0 c stir) [] := by
  unfold cyMarks
  cases e : (mkStep s0 c.p c.m).1
  · rw [if_neg (by decide)]
    obtain ⟨e1, _⟩ := mkStep_end e
    have hd := h.done ho e grBase_or
    have ha := mkStep_again e
    refine ⟨hph, .inr (.inr (.inl ⟨rfl, rfl, rfl, ?_, ha, rfl, rfl, RcInv.new ho⟩))⟩
    simp only
    rw [e1]
    exact hd
  · rw [if_pos rfl]
    exact ⟨hph, .inr (.inl ⟨hst, rfl, rfl, h.step ho hc.p hc.m grBase_din⟩)⟩
theorem J.reaches (ho : s0.ok) (hl : s0.last = n) (hc : c.ok) (hph : c.sk.ph = 3) (hst : c.st = 4) (hd : Done s0 (grBase s0 rts) c.p) (he : (mkStep s0 c.p c.m).1 = false) (hs : c.stir = stir) (hsu : c.r.suspect = c.sus) (hr : RcInv s0 c.p c.r) : J s0 n rts stir s0 (cyReaches s0 c) [] := by
  unfold cyReaches
  rw [if_neg (by rw [he]; decide)]
  obtain ⟨e1, _⟩ := mkStep_end he
  have ha := mkStep_again he
  have ep : (mkStep s0 c.p c.m).2.1 = c.p := by rw [e1]
  rw [ep] at ha
  rw [ep]
  cases e : (rcStep s0 c.p c.r).1
  · rw [if_neg (by decide)]
    obtain ⟨e2, _, _⟩ := rcStep_end e
    refine ⟨hph, .inr (.inr (.inr ⟨rfl, c.p, 0, ⟨hd, hc.p, (rcStep s0 c.p c.r).2.rows, ?_, ?_⟩, rfl, Nat.zero_le _, hl, fun k _ => rfl, fun k _ => rfl, rfl⟩))⟩
    · simp only
      rw [hs]
    · rw [e2]
      have := hr.told ho e
      rw [hsu] at this
      exact this
  · rw [if_pos rfl]
    refine ⟨hph, .inr (.inr (.inl ⟨hst, rfl, rfl, hd, ha, hs, ?_, ?_⟩))⟩
    · simp only
      rw [rcStep_suspect]
      exact hsu
    · exact hr.step ho hc.r
theorem Told.same {c' : Cy} {pd : Ps} (h : Told s0 rts stir c pd) (e : c'.told = c.told) (e2 : c'.sus = c.sus) : Told s0 rts stir c' pd := ⟨h.done, h.ok, by rw [e, e2]; exact h.told⟩
/-- A unit of a quiet cycle. -/
theorem J.unit (ho : s0.ok) (hl : s0.last = n) (hall : ∀ k : Int, 1 ≤ k ∧ k ≤ n → hGet s0 k ≠ none) (hos : s.ok) (hc : c.ok) (h : J s0 n rts stir s c fr) :
    ((cyUnit s c stir).stop = none ∧ J s0 n rts stir (cyUnit s c stir).s (cyUnit s c stir).c (if (cyUnit s c stir).freed ≠ 0 then fr ++ [(cyUnit s c stir).freed] else fr)) ∨ ((cyUnit s c stir).stop = some true ∧ JE s0 n rts stir (cyUnit s c stir).c fr) := by
  obtain ⟨hph, h⟩ := h
  rcases h with ⟨hst, rfl, rfl, h⟩ | ⟨hst, rfl, rfl, h⟩ | ⟨hst, rfl, rfl, hd, he, hs, hsu, hr⟩ | ⟨hst, pd, q, ht, hpl, hq, hce, hg, hm, rfl⟩
  · have e : c.state = 2 := by have := hc.state; omega
    rw [unit23 (.inr e) hph]
    have hc3 : ({ c with st := 3, m := ⟨0, false, 0⟩ } : Cy).ok := ⟨hc.len, hc.size, hc.ph, .inr ⟨.inl rfl, hph⟩, hc.sus, hc.work, hc.p, ⟨Int.le_refl _, Int.le_refl _⟩, hc.r, hc.pl⟩
    refine .inl ⟨rfl, ?_⟩
    rw [if_neg (by simp)]
    exact J.marks (c := { c with st := 3, m := ⟨0, false, 0⟩ }) ho hc3 hph rfl (h.mkd ho)
  · have e : c.state = 3 := by have := hc.state; omega
    rw [unit3 e]
    refine .inl ⟨rfl, ?_⟩
    rw [if_neg (by simp)]
    exact J.marks ho hc hph hst h
  · have e : c.state = 4 := by have := hc.state; omega
    rw [unit4 e]
    refine .inl ⟨rfl, ?_⟩
    rw [if_neg (by simp)]
    exact J.reaches ho hl hc hph hst hd he hs hsu hr
  · have e : c.state = 5 := by have := hc.state; omega
    by_cases hqn : q = n
    · have hno : hNext s c.pl = (0, false) := hNext_none hos fun k hk => by
        rw [hg k (by omega)]
        cases hgk : hGet s0 k with
        | none => rfl
        | some o => have := get_ser ho (m := k) (by rw [hgk]; simp); omega
      have es : swStep s c.p c.pl c.e = ((0, false), s, c.p, c.pl) := by unfold swStep; rw [hno, if_pos (.inl rfl)]
      rw [unit5 e (by rw [es])]
      refine .inr ⟨rfl, ?_, pd, ht.same rfl rfl, by rw [hqn]⟩
      unfold Cy.state
      simp only
      have : c.sk.ended.ph = 0 := by unfold Sk.ended; rw [if_pos hph]
      rw [this]
      decide
    · have hge : hGet s ((q : Int) + 1) ≠ none := by rw [hg _ (by omega)]; exact hall _ ⟨by omega, by omega⟩
      have hnx : hNext s c.pl = ((q : Int) + 1, true) := hNext_is hos hge (by omega) fun k h1 h2 => by omega
      cases hmk : mlook pd.marks ((q : Int) + 1) with
      | some w =>
        have ep : (pMark s c.p ((q : Int) + 1)).2.2 = true := by
          unfold pMark
          rw [hm _ (by omega), hmk]
          simp only
          rw [if_neg hge]
        have es : swStep s c.p c.pl c.e = ((0, true), s, c.p, (q : Int) + 1) := by
          unfold swStep
          rw [hnx, if_neg (fun hh => hh.elim (fun h => by cases h) fun h => by simp only at h; omega)]
          simp only
          rw [if_pos ep]
        rw [unit6 e (by rw [es]), es]
        refine .inl ⟨rfl, hph, .inr (.inr (.inr ⟨hst, pd, q + 1, ht.same rfl rfl, by simp only; omega, by omega, hce, fun k hk => hg k (by omega), fun k hk => hm k (by omega), ?_⟩))⟩
        rw [if_neg (by simp), unm_succ, hmk]
        simp
      | none =>
        have ep : (pMark s c.p ((q : Int) + 1)).2.2 = false := by
          unfold pMark
          rw [hm _ (by omega), hmk]
        have es : swStep s c.p c.pl c.e = (((q : Int) + 1, true), (hFree s ((q : Int) + 1)).2, pForget c.p ((q : Int) + 1), (q : Int) + 1) := by
          unfold swStep
          rw [hnx, if_neg (fun hh => hh.elim (fun h => by cases h) fun h => by simp only at h; omega)]
          simp only
          rw [if_neg (by rw [ep]; decide)]
        rw [unit6 e (by rw [es]), es]
        refine .inl ⟨rfl, hph, .inr (.inr (.inr ⟨hst, pd, q + 1, ht.same rfl rfl, by simp only; omega, by omega, hce, fun k hk => ?_, fun k hk => ?_, ?_⟩))⟩
        · simp only
          rw [hFree_get, if_neg (by omega)]
          exact hg k (by omega)
        · simp only [pForget]
          rw [mlook_mdel, if_neg (by omega)]
          exact hm k (by omega)
        · have hne : ((q : Int) + 1) ≠ 0 := by omega
          rw [if_pos hne, unm_succ, hmk]
          simp
theorem J.quiet (h : J s0 n rts stir s c fr) (hw : c.st = 4 → c.r.within s) : Quiet s c := ⟨h.1, hw⟩
/-- Some units of a quiet cycle. -/
theorem J.steps (ho : s0.ok) (hl : s0.last = n) (hall : ∀ k : Int, 1 ≤ k ∧ k ≤ n → hGet s0 k ≠ none) : ∀ {m : Nat} {s : Hs} {c : Cy} {fr pre : List Int}, s.ok → c.ok → J s0 n rts stir s c (pre ++ fr) →
    ((cySteps stir m s c fr).1.2 = true ∧ JE s0 n rts stir (cySteps stir m s c fr).2.2 (pre ++ (cySteps stir m s c fr).1.1)) ∨ ((cySteps stir m s c fr).1.2 = false ∧ J s0 n rts stir (cySteps stir m s c fr).2.1 (cySteps stir m s c fr).2.2 (pre ++ (cySteps stir m s c fr).1.1))
  | 0, s, c, fr, pre, hos, hc, h => .inr ⟨rfl, h⟩
  | m + 1, s, c, fr, pre, hos, hc, h => by
    have h1 := hc.unit (stir := stir) hos
    unfold cySteps
    rcases h.unit ho hl hall hos hc with ⟨e, h2⟩ | ⟨e, h2⟩
    · rw [e]
      simp only
      refine J.steps ho hl hall h1.1 h1.2 ?_
      split at h2
      · rename_i hf
        rw [if_pos hf, ← List.append_assoc]
        exact h2
      · rename_i hf
        rw [if_neg hf]
        exact h2
    · rw [e]
      exact .inl ⟨rfl, h2⟩
end
end Go.Proofs.YtohlnmenghbgbaaGreat
