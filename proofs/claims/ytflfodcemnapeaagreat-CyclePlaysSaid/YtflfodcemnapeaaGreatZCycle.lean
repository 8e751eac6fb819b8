/- Merged by merge.py: CyS, DenCycle, CyP, CyQ, CyP2, CyP3, CyP4, DenRef16, CyR, CyR2, CyR3, CyM. No condition. -/
import Derived.Test.YtflfodcemnapeaaGreatZReach
import Derived.Test.YtflfodcemnapeaaGreatZSweep
import Derived.Test.YtflfodcemnapeaaGreatZShake
import Derived.Test.YtflfodcemnapeaaGreatZNum
import Derived.Test.YtflfodcemnapeaaGreatZMark
import Derived.Test.YtflfodcemnapeaaGreatZPaint

namespace Go.Proofs.YtflfodcemnapeaaGreat
set_option linter.unusedSimpArgs false
set_option linter.unusedVariables false
open Go
/-- What a cycle found out. -/
structure Sm where
 stir : Int
 rows : List (Int × List Id)
 outs : List (Id × Int)
 ok : Bool
/-- A collector. -/
structure Cy where
 sk : Sk
 p : Ps
 m : Mk
 r : Rc
 pl : Int
 e : Int
 st : Int
 sus : Int
 work : Int
 stir : Int
 fin : Int
 told : Sm

def Sk.begun (s : Sk) : Sk := if s.ph = 0 then { s with ph := 1, ar := s.ar.set (s.ar.length - 1) true } else s
def Sk.ended (s : Sk) : Sk := if s.ph = 3 then ⟨0, List.replicate s.ar.length false, List.replicate s.sc.length false⟩ else s
def Cy.state (c : Cy) : Int := if c.st ≠ 0 then c.st else if c.sk.ph = 1 then 1 else if c.sk.ph ≠ 0 then 2 else 0

def cyMarks (s : Hs) (c : Cy) (stir : Int) : Cy :=
 if (mkStep s c.p c.m).1 = true then { c with p := (mkStep s c.p c.m).2.1, m := (mkStep s c.p c.m).2.2 }
 else { c with p := (mkStep s c.p c.m).2.1, m := (mkStep s c.p c.m).2.2, stir := stir, r := rcNew c.sus, st := 4 }
def cyReaches (s : Hs) (c : Cy) : Cy :=
 if (mkStep s c.p c.m).1 = true then { c with p := (mkStep s c.p c.m).2.1, m := (mkStep s c.p c.m).2.2 }
 else if (rcStep s (mkStep s c.p c.m).2.1 c.r).1 = true then { c with p := (mkStep s c.p c.m).2.1, m := (mkStep s c.p c.m).2.2, r := (rcStep s (mkStep s c.p c.m).2.1 c.r).2 }
 else { c with p := (mkStep s c.p c.m).2.1, m := (mkStep s c.p c.m).2.2, r := (rcStep s (mkStep s c.p c.m).2.1 c.r).2, told := ⟨c.stir, (rcStep s (mkStep s c.p c.m).2.1 c.r).2.rows, (outsOf (mkStep s c.p c.m).2.1).filter (fun e => decide (c.sus < e.2)), true⟩, pl := 0, e := s.last, fin := s.last, st := 5 }
/-- What a unit comes to: does the step end there, and the cycle; what was freed. -/
structure CyU where
 stop : Option Bool
 freed : Int
 s : Hs
 c : Cy
noncomputable def cyUnit (s : Hs) (c : Cy) (stir : Int) : CyU :=
 if c.state = 0 then ⟨some false, 0, s, { c with p := pTurn c.p, sk := c.sk.begun }⟩
 else if c.state = 1 ∨ c.state = 2 then if c.sk.ph ≠ 3 then ⟨some false, 0, s, c⟩ else ⟨none, 0, s, cyMarks s { c with st := 3, m := ⟨0, false, 0⟩ } stir⟩
 else if c.state = 3 then ⟨none, 0, s, cyMarks s c stir⟩
 else if c.state = 4 then ⟨none, 0, s, cyReaches s c⟩
 else if c.state = 5 then
  if (swStep s c.p c.pl c.e).1.2 = false then ⟨some true, 0, (swStep s c.p c.pl c.e).2.1, { c with p := (swStep s c.p c.pl c.e).2.2.1, pl := (swStep s c.p c.pl c.e).2.2.2, sk := c.sk.ended, st := 0 }⟩
  else ⟨none, (swStep s c.p c.pl c.e).1.1, (swStep s c.p c.pl c.e).2.1, { c with p := (swStep s c.p c.pl c.e).2.2.1, pl := (swStep s c.p c.pl c.e).2.2.2 }⟩
 else ⟨none, 0, s, c⟩
noncomputable def cySteps (stir : Int) : Nat → Hs → Cy → List Int → (List Int × Bool) × Hs × Cy
 | 0, s, c, fr => ((fr, false), s, c)
 | n + 1, s, c, fr => match (cyUnit s c stir).stop with
  | some b => ((fr, b), (cyUnit s c stir).s, (cyUnit s c stir).c)
  | none => cySteps stir n (cyUnit s c stir).s (cyUnit s c stir).c (if (cyUnit s c stir).freed ≠ 0 then fr ++ [(cyUnit s c stir).freed] else fr)
noncomputable def cyStep (s : Hs) (c : Cy) (stir : Int) : (List Int × Bool) × Hs × Cy := cySteps stir c.work.toNat s c []
def cyShake (s : Hs) (c : Cy) (m : Int) (held : List Id) : Bool × Cy :=
 if (c.sk.ans m).2 = 2 then (true, { c with sk := (c.sk.ans m).1, p := pShades s c.p held 0 }) else (decide ((c.sk.ans m).2 ≠ 0), { c with sk := (c.sk.ans m).1 })
def Cy.isOpen (c : Cy) : Bool := decide (1 ≤ c.state) && decide (c.state ≤ 4)
def cyStore (s : Hs) (c : Cy) (m : Int) (old now : Id) : Cy :=
 if c.isOpen = true ∧ isOf c.sk.ar m = true then { c with p := if isOf c.sk.sc m = true then pShade s c.p old 0 else pShade s (pShade s c.p old 0) now 0 } else c
def cyBorn (s : Hs) (c : Cy) (m k : Int) : Cy :=
 if c.isOpen = true ∧ isOf c.sk.ar m = true then { c with p := if c.state = 1 then pShade s c.p ⟨s.node, k⟩ 0 else pBlacken s c.p k } else c
def cyTouch (s : Hs) (c : Cy) (x : Id) : Cy := if c.isOpen = true ∨ (c.state = 5 ∧ x.n ≠ s.node) then { c with p := pShade s c.p x 0 } else c
def cyDoomed (s : Hs) (c : Cy) (k : Int) : Bool := decide (c.st = 5) && decide (k ≤ c.fin) && (hGet s k).isSome && !(pMark s c.p k).2.2
def newCy (n grey sus work last : Int) : Cy := ⟨⟨0, List.replicate (n.toNat + 1) false, List.replicate (n.toNat + 1) false⟩, newPs grey, ⟨0, false, 0⟩, rcNew 0, 0, last, 0, sus, work, 0, 0, ⟨0, [], [], false⟩⟩

/-- What holds of the collector's own numbers. -/
structure Cy.ok (c : Cy) : Prop where
 len : c.sk.sc.length = c.sk.ar.length
 size : 2 ≤ c.sk.ar.length ∧ c.sk.ar.length ≤ 5
 ph : 0 ≤ c.sk.ph ∧ c.sk.ph ≤ 3
 st : c.st = 0 ∨ ((c.st = 3 ∨ c.st = 4 ∨ c.st = 5) ∧ c.sk.ph = 3)
 sus : 0 ≤ c.sus ∧ c.sus ≤ 40
 work : 1 ≤ c.work ∧ c.work ≤ 64
 p : c.p.ok
 m : c.m.ok
 r : c.r.ok
 pl : 0 ≤ c.pl

section
variable {s : Hs} {c : Cy} {stir : Int}
theorem Cy.ok.state (h : c.ok) : (c.state = 0 ∧ c.st = 0 ∧ c.sk.ph = 0) ∨ (c.state = 1 ∧ c.st = 0 ∧ c.sk.ph = 1) ∨ (c.state = 2 ∧ c.st = 0 ∧ (c.sk.ph = 2 ∨ c.sk.ph = 3)) ∨ (c.state = 3 ∧ c.st = 3 ∧ c.sk.ph = 3) ∨ (c.state = 4 ∧ c.st = 4 ∧ c.sk.ph = 3) ∨ (c.state = 5 ∧ c.st = 5 ∧ c.sk.ph = 3) := by
 have h1 := h.ph
 unfold Cy.state
 rcases h.st with h2 | ⟨h2, h3⟩
 ·rw [if_neg (by omega)]
  by_cases e : c.sk.ph = 1
  ·rw [if_pos e]; omega
  ·rw [if_neg e]
   by_cases e0 : c.sk.ph = 0
   ·rw [if_neg (by omega)]; omega
   ·rw [if_pos e0]; omega
 ·rw [if_pos (by omega)]; omega
theorem ans_len (k : Sk) (m : Int) : (k.ans m).1.ar.length = k.ar.length ∧ (k.ans m).1.sc.length = k.sc.length := by
 unfold Sk.ans
 split
 ·exact ⟨rfl, rfl⟩
 ·split
  ·split
   ·exact ⟨rfl, rfl⟩
   ·exact ⟨by simp, rfl⟩
  ·split
   ·split
    ·exact ⟨rfl, rfl⟩
    ·exact ⟨rfl, by simp⟩
   ·exact ⟨rfl, rfl⟩
theorem ans_ph (k : Sk) (m : Int) (h : 0 ≤ k.ph ∧ k.ph ≤ 3) : 0 ≤ (k.ans m).1.ph ∧ (k.ans m).1.ph ≤ 3 ∧ (k.ph = 3 → (k.ans m).1.ph = 3) := by
 unfold Sk.ans
 split
 ·exact ⟨h.1, h.2, id⟩
 ·split
  ·split
   ·exact ⟨h.1, h.2, id⟩
   ·simp only; split <;> omega
  ·split
   ·split
    ·exact ⟨h.1, h.2, id⟩
    ·simp only; split <;> omega
   ·exact ⟨h.1, h.2, id⟩
theorem begun_len (k : Sk) : k.begun.ar.length = k.ar.length ∧ k.begun.sc.length = k.sc.length := by
 unfold Sk.begun
 split
 ·exact ⟨by simp, rfl⟩
 ·exact ⟨rfl, rfl⟩
theorem ended_len (k : Sk) : k.ended.ar.length = k.ar.length ∧ k.ended.sc.length = k.sc.length := by
 unfold Sk.ended
 split
 ·exact ⟨by simp, by simp⟩
 ·exact ⟨rfl, rfl⟩
theorem Cy.ok.marks (ho : s.ok) (h : c.ok) (hst : c.st = 3 ∧ c.sk.ph = 3) : (cyMarks s c stir).ok := by
 have h1 := mkStep_ok ho h.p h.m
 unfold cyMarks
 split
 ·exact ⟨h.len, h.size, h.ph, h.st, h.sus, h.work, h1.1, h1.2, h.r, h.pl⟩
 ·exact ⟨h.len, h.size, h.ph, .inr ⟨.inr (.inl rfl), hst.2⟩, h.sus, h.work, h1.1, h1.2, rcNew_ok, h.pl⟩
theorem Cy.ok.reaches (ho : s.ok) (h : c.ok) (hst : c.st = 4 ∧ c.sk.ph = 3) : (cyReaches s c).ok := by
 have h1 := mkStep_ok ho h.p h.m
 have h2 := h.r.step (p := (mkStep s c.p c.m).2.1) ho h1.1
 unfold cyReaches
 split
 ·exact ⟨h.len, h.size, h.ph, h.st, h.sus, h.work, h1.1, h1.2, h.r, h.pl⟩
 ·split
  ·exact ⟨h.len, h.size, h.ph, h.st, h.sus, h.work, h1.1, h1.2, h2, h.pl⟩
  ·exact ⟨h.len, h.size, h.ph, .inr ⟨.inr (.inr rfl), hst.2⟩, h.sus, h.work, h1.1, h1.2, h2, Int.le_refl _⟩
theorem swStep_ok {p : Ps} {pl e : Int} (ho : s.ok) (hp : p.ok) (hpl : 0 ≤ pl) : (swStep s p pl e).2.1.ok ∧ (swStep s p pl e).2.2.1.ok ∧ 0 ≤ (swStep s p pl e).2.2.2 := by
 unfold swStep
 split
 ·exact ⟨ho, hp, hpl⟩
 ·rename_i hc
  have hn := hNext_pos ho (q := pl) (by
   cases h : (hNext s pl).2
   ·exact absurd (.inl h) hc
   ·rfl)
  split
  ·exact ⟨ho, hp, by simp only; omega⟩
  ·exact ⟨ho.free _, hp.forget, by simp only; omega⟩
theorem Cy.ok.unit (ho : s.ok) (h : c.ok) : (cyUnit s c stir).s.ok ∧ (cyUnit s c stir).c.ok := by
 unfold cyUnit
 rcases h.state with ⟨e, e1, e2⟩ | ⟨e, e1, e2⟩ | ⟨e, e1, e2⟩ | ⟨e, e1, e2⟩ | ⟨e, e1, e2⟩ | ⟨e, e1, e2⟩
 ·rw [if_pos e]
  have hb := begun_len c.sk
  refine ⟨ho, ?_⟩
  have hph : 0 ≤ c.sk.begun.ph ∧ c.sk.begun.ph ≤ 3 := by unfold Sk.begun; rw [if_pos e2]; simp
  exact ⟨by simp only; rw [hb.1, hb.2]; exact h.len, by simp only; rw [hb.1]; exact h.size, hph, .inl e1, h.sus, h.work, h.p.turn, h.m, h.r, h.pl⟩
 ·rw [if_neg (by omega), if_pos (.inl e)]
  rw [if_pos (by omega)]
  exact ⟨ho, h⟩
 ·rw [if_neg (by omega), if_pos (.inr e)]
  split
  ·exact ⟨ho, h⟩
  ·rename_i h3
   have h3 : c.sk.ph = 3 := by omega
   refine ⟨ho, Cy.ok.marks (c := { c with st := 3, m := ⟨0, false, 0⟩ }) ho ⟨h.len, h.size, h.ph, .inr ⟨.inl rfl, h3⟩, h.sus, h.work, h.p, ⟨Int.le_refl _, Int.le_refl _⟩, h.r, h.pl⟩ ⟨rfl, h3⟩⟩
 ·rw [if_neg (by omega), if_neg (by omega), if_pos e]
  exact ⟨ho, h.marks ho ⟨e1, e2⟩⟩
 ·rw [if_neg (by omega), if_neg (by omega), if_neg (by omega), if_pos e]
  exact ⟨ho, h.reaches ho ⟨e1, e2⟩⟩
 ·rw [if_neg (by omega), if_neg (by omega), if_neg (by omega), if_neg (by omega), if_pos e]
  have h1 := swStep_ok (e := c.e) ho h.p h.pl
  have hl := ended_len c.sk
  split
  ·refine ⟨h1.1, ?_⟩
   have hph : 0 ≤ c.sk.ended.ph ∧ c.sk.ended.ph ≤ 3 := by unfold Sk.ended; rw [if_pos e2]; simp
   exact ⟨by simp only; rw [hl.1, hl.2]; exact h.len, by simp only; rw [hl.1]; exact h.size, hph, .inl rfl, h.sus, h.work, h1.2.1, h.m, h.r, h1.2.2⟩
  ·exact ⟨h1.1, h.len, h.size, h.ph, h.st, h.sus, h.work, h1.2.1, h.m, h.r, h1.2.2⟩
theorem Cy.ok.shake (h : c.ok) {m : Int} {held : List Id} : (cyShake s c m held).2.ok := by
 have h1 := ans_len c.sk m
 have h2 := ans_ph c.sk m h.ph
 have hst : c.st = 0 ∨ ((c.st = 3 ∨ c.st = 4 ∨ c.st = 5) ∧ (c.sk.ans m).1.ph = 3) := h.st.imp_right fun g => ⟨g.1, h2.2.2 g.2⟩
 unfold cyShake
 split
 ·exact ⟨by simp only; rw [h1.1, h1.2]; exact h.len, by simp only; rw [h1.1]; exact h.size, ⟨h2.1, h2.2.1⟩, hst, h.sus, h.work, h.p.shades, h.m, h.r, h.pl⟩
 ·exact ⟨by simp only; rw [h1.1, h1.2]; exact h.len, by simp only; rw [h1.1]; exact h.size, ⟨h2.1, h2.2.1⟩, hst, h.sus, h.work, h.p, h.m, h.r, h.pl⟩
theorem Cy.ok.paint (h : c.ok) {p : Ps} (hp : p.ok) : ({ c with p := p } : Cy).ok := ⟨h.len, h.size, h.ph, h.st, h.sus, h.work, hp, h.m, h.r, h.pl⟩
theorem Cy.ok.store (h : c.ok) {m : Int} {old now : Id} : (cyStore s c m old now).ok := by
 unfold cyStore
 split
 ·refine h.paint ?_
  split
  ·exact h.p.shade
  ·exact h.p.shade.shade
 ·exact h
theorem Cy.ok.born (h : c.ok) {m k : Int} : (cyBorn s c m k).ok := by
 unfold cyBorn
 split
 ·refine h.paint ?_
  split
  ·exact h.p.shade
  ·exact h.p.blacken
 ·exact h
theorem Cy.ok.touch (h : c.ok) {x : Id} : (cyTouch s c x).ok := by
 unfold cyTouch
 split
 ·exact h.paint h.p.shade
 ·exact h
theorem newCy_ok {n grey sus work last : Int} (hn : 1 ≤ n ∧ n ≤ 4) (hg : 1 ≤ grey ∧ grey ≤ 64) (hs : 0 ≤ sus ∧ sus ≤ 40) (hw : 1 ≤ work ∧ work ≤ 64) : (newCy n grey sus work last).ok :=
 ⟨by simp [newCy], by simp [newCy]; omega, by simp [newCy], .inl rfl, hs, hw, newPs_ok hg, ⟨Int.le_refl _, Int.le_refl _⟩, rcNew_ok, Int.le_refl _⟩
end
end Go.Proofs.YtflfodcemnapeaaGreat

namespace Go.Proofs.YtflfodcemnapeaaGreat
open Go
set_option linter.unusedVariables false
set_option maxRecDepth 100000
def B_cycle_New (h1 : Option Addr) (mutators2 : Int) (grey3 : Int) (suspect4 : Int) (work5 : Int) (H : Hp) (K : Value → Hp → Prop) : Prop :=
 (bif (Option.isNone (α := Addr) h1) then
 K (.tuple #[(.pointer none), (.int .i64 1)]) H
else
 (bif (decide ((suspect4 : Int) < 0)) then
 K (.tuple #[(.pointer none), (.int .i64 1)]) H
else
 (bif (decide ((suspect4 : Int) > 40)) then
 K (.tuple #[(.pointer none), (.int .i64 1)]) H
else
 (bif (decide ((work5 : Int) < 1)) then
 K (.tuple #[(.pointer none), (.int .i64 1)]) H
else
 (bif (decide ((work5 : Int) > 64)) then
 K (.tuple #[(.pointer none), (.int .i64 1)]) H
else
 hcall PR f_shake_New ⟨[(.int .i64 mutators2)]⟩ H fun v6 Hx7 =>
 tup2 v6 fun v8 v9 =>
 asP v8 fun t10 =>
 asI .i64 v9 fun t11 =>
 hcall PR f_paint_New ⟨[(.pointer h1), (.int .i64 grey3)]⟩ Hx7 fun v12 Hx13 =>
 tup2 v12 fun v14 v15 =>
 asP v14 fun t16 =>
 asI .i64 v15 fun t17 =>
 (bif ((t11 : Int) != 0) then
 K (.tuple #[(.pointer none), (.int .i64 1)]) Hx13
else
 (bif ((t17 : Int) != 0) then
 K (.tuple #[(.pointer none), (.int .i64 1)]) Hx13
else
 hcall PR f_heap_Heap_Node ⟨[(.pointer h1)]⟩ Hx13 fun v18 Hx19 =>
 asI .i64 v18 fun t20 =>
 newB (.cells #[(.pointer t10), (.pointer h1), (.pointer t16), (.pointer none), (.pointer none), (.pointer none), (.int .i64 t20), (.int .i64 0), (.int .i64 suspect4), (.int .i64 work5), (.int .u64 0), (.int .u64 0), (.int .u64 0), (.slice none 0 0), (.slice none 0 0), (.bool false)] ty_cycle_Cycle) Hx19 fun b21 Hx22 =>
 hcall PR f_mark_New ⟨[(.pointer h1), (.pointer t16)]⟩ Hx22 fun v23 Hx24 =>
 tup2 v23 fun v25 v26 =>
 asP v25 fun t27 =>
 asI .i64 v26 fun t28 =>
 st ⟨b21, 3, none⟩ (.pointer t27) Hx24 fun Hx29 =>
 hcall PR f_reach_New ⟨[(.pointer h1), (.pointer t16)]⟩ Hx29 fun v30 Hx31 =>
 tup2 v30 fun v32 v33 =>
 asP v32 fun t34 =>
 asI .i64 v33 fun t35 =>
 st ⟨b21, 4, none⟩ (.pointer t34) Hx31 fun Hx36 =>
 hcall PR f_sweep_New ⟨[(.pointer h1), (.pointer t16)]⟩ Hx36 fun v37 Hx38 =>
 tup2 v37 fun v39 v40 =>
 asP v39 fun t41 =>
 asI .i64 v40 fun t42 =>
 st ⟨b21, 5, none⟩ (.pointer t41) Hx38 fun Hx43 =>
 K (.tuple #[(.pointer (some ⟨b21, 0, none⟩)), (.int .i64 0)]) Hx43)))))))
theorem E_cycle_New (h1 : Option Addr) (mutators2 : Int) (grey3 : Int) (suspect4 : Int) (work5 : Int) (H : Hp) (K : Value → Hp → Prop) : B_cycle_New h1 mutators2 grey3 suspect4 work5 H K = denF Tryz.prog Tryz.f7 .n [(.pointer h1), (.int .i64 mutators2), (.int .i64 grey3), (.int .i64 suspect4), (.int .i64 work5)] H K := by kernel_rfl
theorem den_cycle_New {h1 : Option Addr} {mutators2 : Int} {grey3 : Int} {suspect4 : Int} {work5 : Int} {H : Hp} {K : Value → Hp → Prop} (h : B_cycle_New h1 mutators2 grey3 suspect4 work5 H K) : hcall PR f_cycle_New ⟨[(.pointer h1), (.int .i64 mutators2), (.int .i64 grey3), (.int .i64 suspect4), (.int .i64 work5)]⟩ H K := denF_call Tryz.func7 PR_mixed (Eq.mp (E_cycle_New h1 mutators2 grey3 suspect4 work5 H K) h)

def B_cycle_Cycle_Shake (c1 : Option Addr) (m2 : Int) (heldP3 : Option Addr) (heldL4 : Nat) (heldC5 : Nat) (H : Hp) (K : Value → Hp → Prop) : Prop :=
 nilP c1 fun ca6 =>
 ldP ca6 H fun shaking7 =>
 hcall PR f_shake_Shake_Answer ⟨[(.pointer shaking7), (.int .i64 m2)]⟩ H fun v8 Hx9 =>
 asI .i64 v8 fun t10 =>
 ∀ R11 : Hp → Prop, (∀ Hx12 : Hp, (
 K (.bool ((t10 : Int) != 0)) Hx12) → R11 Hx12) →
 (bif ((t10 : Int) == 2) then
 ∃ (I13 : Int → Hp → Prop) (m14 : Int → Hp → Nat), I13 0 Hx9 ∧ ∀ t16 : Int, ∀ Hx15 : Hp, I13 t16 Hx15 →
 (bif (decide ((t16 : Int) < (heldL4 : Int))) then
 idxA heldP3 heldL4 t16 2 fun el17 =>
 ldI .i64 el17 Hx15 fun Node18 =>
 ldI .u64 (el17.add 1) Hx15 fun Serial19 =>
 newB (.cells #[(.int .i64 0), (.int .u64 0)] ty_api_ID) Hx15 fun b20 Hx21 =>
 st ⟨b20, 0, none⟩ (.int .i64 Node18) Hx21 fun Hx22 =>
 st ⟨b20, 1, none⟩ (.int .u64 Serial19) Hx22 fun Hx23 =>
 nilP c1 fun ca24 =>
 ldP (ca24.add 2) Hx23 fun paint25 =>
 ldI .i64 ⟨b20, 0, none⟩ Hx23 fun Node26 =>
 ldI .u64 ⟨b20, 1, none⟩ Hx23 fun Serial27 =>
 hcall PR f_paint_Paint_Shade ⟨[(.pointer paint25), (.agg #[(.int .i64 Node26), (.int .u64 Serial27)]), (.int .i64 0)]⟩ Hx23 fun v28 Hx29 =>
 I13 (IntKind.i64.wrap (t16 + 1)) Hx29 ∧ m14 (IntKind.i64.wrap (t16 + 1)) Hx29 < m14 t16 Hx15
else
 R11 Hx15)
else
 R11 Hx9)
theorem E_cycle_Cycle_Shake (c1 : Option Addr) (m2 : Int) (heldP3 : Option Addr) (heldL4 : Nat) (heldC5 : Nat) (H : Hp) (K : Value → Hp → Prop) : B_cycle_Cycle_Shake c1 m2 heldP3 heldL4 heldC5 H K = denF Tryz.prog Tryz.f10 (.seq none .n (.seq none .n (.seq (some ⟨[], [7]⟩) (.seq none .n (.two (.seq none .n (.sub (.loop ⟨[(20, .int .i64)], [0, 7, 18, 19]⟩ .n))) .n)) .n))) [(.pointer c1), (.int .i64 m2), (.slice heldP3 heldL4 heldC5)] H K := by kernel_rfl
theorem den_cycle_Cycle_Shake {c1 : Option Addr} {m2 : Int} {heldP3 : Option Addr} {heldL4 : Nat} {heldC5 : Nat} {H : Hp} {K : Value → Hp → Prop} (h : B_cycle_Cycle_Shake c1 m2 heldP3 heldL4 heldC5 H K) : hcall PR f_cycle_Cycle_Shake ⟨[(.pointer c1), (.int .i64 m2), (.slice heldP3 heldL4 heldC5)]⟩ H K := denF_call Tryz.func10 PR_mixed (Eq.mp (E_cycle_Cycle_Shake c1 m2 heldP3 heldL4 heldC5 H K) h)

def B_cycle_Cycle_Store (c1 : Option Addr) (m2 : Int) (oldNode3 : Int) (oldSerial4 : Int) (nowNode5 : Int) (nowSerial6 : Int) (H : Hp) (K : Value → Hp → Prop) : Prop :=
 newB (.cells #[(.int .i64 oldNode3), (.int .u64 oldSerial4)] ty_api_ID) H fun b7 Hx8 =>
 newB (.cells #[(.int .i64 nowNode5), (.int .u64 nowSerial6)] ty_api_ID) Hx8 fun b9 Hx10 =>
 hcall PR f_cycle_Cycle_open ⟨[(.pointer c1)]⟩ Hx10 fun v11 Hx12 =>
 asB v11 fun t13 =>
 (bif (!t13) then
 K (.tuple #[]) Hx12
else
 nilP c1 fun ca14 =>
 ldP ca14 Hx12 fun shaking15 =>
 hcall PR f_shake_Shake_IsArmed ⟨[(.pointer shaking15), (.int .i64 m2)]⟩ Hx12 fun v16 Hx17 =>
 asB v16 fun t18 =>
 (bif (!t18) then
 K (.tuple #[]) Hx17
else
 nilP c1 fun ca19 =>
 ldP (ca19.add 2) Hx17 fun paint20 =>
 ldI .i64 ⟨b7, 0, none⟩ Hx17 fun Node21 =>
 ldI .u64 ⟨b7, 1, none⟩ Hx17 fun Serial22 =>
 hcall PR f_paint_Paint_Shade ⟨[(.pointer paint20), (.agg #[(.int .i64 Node21), (.int .u64 Serial22)]), (.int .i64 0)]⟩ Hx17 fun v23 Hx24 =>
 nilP c1 fun ca25 =>
 ldP ca25 Hx24 fun shaking26 =>
 hcall PR f_shake_Shake_HasScanned ⟨[(.pointer shaking26), (.int .i64 m2)]⟩ Hx24 fun v27 Hx28 =>
 asB v27 fun t29 =>
 (bif (!t29) then
 nilP c1 fun ca30 =>
 ldP (ca30.add 2) Hx28 fun paint31 =>
 ldI .i64 ⟨b9, 0, none⟩ Hx28 fun Node32 =>
 ldI .u64 ⟨b9, 1, none⟩ Hx28 fun Serial33 =>
 hcall PR f_paint_Paint_Shade ⟨[(.pointer paint31), (.agg #[(.int .i64 Node32), (.int .u64 Serial33)]), (.int .i64 0)]⟩ Hx28 fun v34 Hx35 =>
 K (.tuple #[]) Hx35
else
 K (.tuple #[]) Hx28)))
theorem E_cycle_Cycle_Store (c1 : Option Addr) (m2 : Int) (oldNode3 : Int) (oldSerial4 : Int) (nowNode5 : Int) (nowSerial6 : Int) (H : Hp) (K : Value → Hp → Prop) : B_cycle_Cycle_Store c1 m2 oldNode3 oldSerial4 nowNode5 nowSerial6 H K = denF Tryz.prog Tryz.f14 .n [(.pointer c1), (.int .i64 m2), (.agg #[(.int .i64 oldNode3), (.int .u64 oldSerial4)]), (.agg #[(.int .i64 nowNode5), (.int .u64 nowSerial6)])] H K := by kernel_rfl
theorem den_cycle_Cycle_Store {c1 : Option Addr} {m2 : Int} {oldNode3 : Int} {oldSerial4 : Int} {nowNode5 : Int} {nowSerial6 : Int} {H : Hp} {K : Value → Hp → Prop} (h : B_cycle_Cycle_Store c1 m2 oldNode3 oldSerial4 nowNode5 nowSerial6 H K) : hcall PR f_cycle_Cycle_Store ⟨[(.pointer c1), (.int .i64 m2), (.agg #[(.int .i64 oldNode3), (.int .u64 oldSerial4)]), (.agg #[(.int .i64 nowNode5), (.int .u64 nowSerial6)])]⟩ H K := denF_call Tryz.func14 PR_mixed (Eq.mp (E_cycle_Cycle_Store c1 m2 oldNode3 oldSerial4 nowNode5 nowSerial6 H K) h)

def B_cycle_Cycle_Born (c1 : Option Addr) (m2 : Int) (serial3 : Int) (H : Hp) (K : Value → Hp → Prop) : Prop :=
 hcall PR f_cycle_Cycle_open ⟨[(.pointer c1)]⟩ H fun v4 Hx5 =>
 asB v4 fun t6 =>
 (bif (!t6) then
 K (.tuple #[]) Hx5
else
 nilP c1 fun ca7 =>
 ldP ca7 Hx5 fun shaking8 =>
 hcall PR f_shake_Shake_IsArmed ⟨[(.pointer shaking8), (.int .i64 m2)]⟩ Hx5 fun v9 Hx10 =>
 asB v9 fun t11 =>
 (bif (!t11) then
 K (.tuple #[]) Hx10
else
 hcall PR f_cycle_Cycle_State ⟨[(.pointer c1)]⟩ Hx10 fun v12 Hx13 =>
 asI .i64 v12 fun t14 =>
 (bif ((t14 : Int) == 1) then
 nilP c1 fun ca15 =>
 ldP (ca15.add 2) Hx13 fun paint16 =>
 nilP c1 fun ca17 =>
 ldI .i64 (ca17.add 6) Hx13 fun node18 =>
 hcall PR f_paint_Paint_Shade ⟨[(.pointer paint16), (.agg #[(.int .i64 node18), (.int .u64 serial3)]), (.int .i64 0)]⟩ Hx13 fun v19 Hx20 =>
 K (.tuple #[]) Hx20
else
 nilP c1 fun ca21 =>
 ldP (ca21.add 2) Hx13 fun paint22 =>
 hcall PR f_paint_Paint_Blacken ⟨[(.pointer paint22), (.int .u64 serial3)]⟩ Hx13 fun v23 Hx24 =>
 K (.tuple #[]) Hx24)))
theorem E_cycle_Cycle_Born (c1 : Option Addr) (m2 : Int) (serial3 : Int) (H : Hp) (K : Value → Hp → Prop) : B_cycle_Cycle_Born c1 m2 serial3 H K = denF Tryz.prog Tryz.f18 .n [(.pointer c1), (.int .i64 m2), (.int .u64 serial3)] H K := by kernel_rfl
theorem den_cycle_Cycle_Born {c1 : Option Addr} {m2 : Int} {serial3 : Int} {H : Hp} {K : Value → Hp → Prop} (h : B_cycle_Cycle_Born c1 m2 serial3 H K) : hcall PR f_cycle_Cycle_Born ⟨[(.pointer c1), (.int .i64 m2), (.int .u64 serial3)]⟩ H K := denF_call Tryz.func18 PR_mixed (Eq.mp (E_cycle_Cycle_Born c1 m2 serial3 H K) h)

def B_cycle_Cycle_Touch (c1 : Option Addr) (xNode2 : Int) (xSerial3 : Int) (H : Hp) (K : Value → Hp → Prop) : Prop :=
 newB (.cells #[(.int .i64 xNode2), (.int .u64 xSerial3)] ty_api_ID) H fun b4 Hx5 =>
 hcall PR f_cycle_Cycle_open ⟨[(.pointer c1)]⟩ Hx5 fun v6 Hx7 =>
 asB v6 fun t8 =>
 (bif t8 then
 nilP c1 fun ca9 =>
 ldP (ca9.add 2) Hx7 fun paint10 =>
 ldI .i64 ⟨b4, 0, none⟩ Hx7 fun Node11 =>
 ldI .u64 ⟨b4, 1, none⟩ Hx7 fun Serial12 =>
 hcall PR f_paint_Paint_Shade ⟨[(.pointer paint10), (.agg #[(.int .i64 Node11), (.int .u64 Serial12)]), (.int .i64 0)]⟩ Hx7 fun v13 Hx14 =>
 K (.tuple #[]) Hx14
else
 hcall PR f_cycle_Cycle_State ⟨[(.pointer c1)]⟩ Hx7 fun v15 Hx16 =>
 asI .i64 v15 fun t17 =>
 (bif ((t17 : Int) == 5) then
 ldI .i64 ⟨b4, 0, none⟩ Hx16 fun Node18 =>
 nilP c1 fun ca19 =>
 ldI .i64 (ca19.add 6) Hx16 fun node20 =>
 (bif ((Node18 : Int) != node20) then
 nilP c1 fun ca21 =>
 ldP (ca21.add 2) Hx16 fun paint22 =>
 ldI .i64 ⟨b4, 0, none⟩ Hx16 fun Node23 =>
 ldI .u64 ⟨b4, 1, none⟩ Hx16 fun Serial24 =>
 hcall PR f_paint_Paint_Shade ⟨[(.pointer paint22), (.agg #[(.int .i64 Node23), (.int .u64 Serial24)]), (.int .i64 0)]⟩ Hx16 fun v25 Hx26 =>
 K (.tuple #[]) Hx26
else
 K (.tuple #[]) Hx16)
else
 K (.tuple #[]) Hx16))
theorem E_cycle_Cycle_Touch (c1 : Option Addr) (xNode2 : Int) (xSerial3 : Int) (H : Hp) (K : Value → Hp → Prop) : B_cycle_Cycle_Touch c1 xNode2 xSerial3 H K = denF Tryz.prog Tryz.f20 .n [(.pointer c1), (.agg #[(.int .i64 xNode2), (.int .u64 xSerial3)])] H K := by kernel_rfl
theorem den_cycle_Cycle_Touch {c1 : Option Addr} {xNode2 : Int} {xSerial3 : Int} {H : Hp} {K : Value → Hp → Prop} (h : B_cycle_Cycle_Touch c1 xNode2 xSerial3 H K) : hcall PR f_cycle_Cycle_Touch ⟨[(.pointer c1), (.agg #[(.int .i64 xNode2), (.int .u64 xSerial3)])]⟩ H K := denF_call Tryz.func20 PR_mixed (Eq.mp (E_cycle_Cycle_Touch c1 xNode2 xSerial3 H K) h)

def B_cycle_Cycle_Step (c1 : Option Addr) (stir2 : Int) (H : Hp) (K : Value → Hp → Prop) : Prop :=
 ∃ (I3 : Option Addr → Nat → Nat → Int → Hp → Prop) (m4 : Option Addr → Nat → Nat → Int → Hp → Nat), I3 none 0 0 0 H ∧ ∀ freedP6 : Option Addr, ∀ freedL7 : Nat, ∀ freedC8 : Nat, ∀ n9 : Int, ∀ Hx5 : Hp, I3 freedP6 freedL7 freedC8 n9 Hx5 →
 nilP c1 fun ca10 =>
 ldI .i64 (ca10.add 9) Hx5 fun work11 =>
 (bif (decide ((n9 : Int) < work11)) then
 ∀ R12 : Option Addr → Nat → Nat → Hp → Prop, (∀ freedP14 : Option Addr, ∀ freedL15 : Nat, ∀ freedC16 : Nat, ∀ Hx13 : Hp, (
 I3 freedP14 freedL15 freedC16 (IntKind.i64.wrap (n9 + 1)) Hx13 ∧ m4 freedP14 freedL15 freedC16 (IntKind.i64.wrap (n9 + 1)) Hx13 < m4 freedP6 freedL7 freedC8 n9 Hx5) → R12 freedP14 freedL15 freedC16 Hx13) →
 hcall PR f_cycle_Cycle_State ⟨[(.pointer c1)]⟩ Hx5 fun v17 Hx18 =>
 asI .i64 v17 fun t19 =>
 (bif ((t19 : Int) == 0) then
 nilP c1 fun ca20 =>
 ldP (ca20.add 2) Hx18 fun paint21 =>
 hcall PR f_paint_Paint_Turn ⟨[(.pointer paint21)]⟩ Hx18 fun v22 Hx23 =>
 nilP c1 fun ca24 =>
 ldP ca24 Hx23 fun shaking25 =>
 hcall PR f_shake_Shake_Begin ⟨[(.pointer shaking25)]⟩ Hx23 fun v26 Hx27 =>
 asI .i64 v26 fun t28 =>
 K (.tuple #[(.slice freedP6 freedL7 freedC8), (.bool false)]) Hx27
else
 ∀ R29 : Bool → Hp → Prop, (∀ t31 : Bool, ∀ Hx30 : Hp, (
 (bif t31 then
 nilP c1 fun ca32 =>
 ldP ca32 Hx30 fun shaking33 =>
 hcall PR f_shake_Shake_Phase ⟨[(.pointer shaking33)]⟩ Hx30 fun v34 Hx35 =>
 asI .i64 v34 fun t36 =>
 (bif ((t36 : Int) != 3) then
 K (.tuple #[(.slice freedP6 freedL7 freedC8), (.bool false)]) Hx35
else
 nilP c1 fun ca37 =>
 st (ca37.add 7) (.int .i64 3) Hx35 fun Hx38 =>
 nilP c1 fun ca39 =>
 ldP (ca39.add 3) Hx38 fun marker40 =>
 hcall PR f_mark_Marker_Begin ⟨[(.pointer marker40)]⟩ Hx38 fun v41 Hx42 =>
 hcall PR f_cycle_Cycle_marks ⟨[(.pointer c1), (.int .u64 stir2)]⟩ Hx42 fun v43 Hx44 =>
 R12 freedP6 freedL7 freedC8 Hx44)
else
 (bif ((t19 : Int) == 3) then
 hcall PR f_cycle_Cycle_marks ⟨[(.pointer c1), (.int .u64 stir2)]⟩ Hx30 fun v45 Hx46 =>
 R12 freedP6 freedL7 freedC8 Hx46
else
 (bif ((t19 : Int) == 4) then
 hcall PR f_cycle_Cycle_reaches ⟨[(.pointer c1)]⟩ Hx30 fun v47 Hx48 =>
 R12 freedP6 freedL7 freedC8 Hx48
else
 (bif ((t19 : Int) == 5) then
 nilP c1 fun ca49 =>
 ldP (ca49.add 5) Hx30 fun sweeper50 =>
 hcall PR f_sweep_Sweeper_Step ⟨[(.pointer sweeper50)]⟩ Hx30 fun v51 Hx52 =>
 tup2 v51 fun v53 v54 =>
 asI .u64 v53 fun t55 =>
 asB v54 fun t56 =>
 (bif (!t56) then
 nilP c1 fun ca57 =>
 ldP ca57 Hx52 fun shaking58 =>
 hcall PR f_shake_Shake_End ⟨[(.pointer shaking58)]⟩ Hx52 fun v59 Hx60 =>
 asI .i64 v59 fun t61 =>
 nilP c1 fun ca62 =>
 st (ca62.add 7) (.int .i64 0) Hx60 fun Hx63 =>
 K (.tuple #[(.slice freedP6 freedL7 freedC8), (.bool true)]) Hx63
else
 (bif ((t55 : Int) != 0) then
 newB (.cells #[(.int .u64 t55)] ty_uint64) Hx52 fun b64 Hx65 =>
 evW PR (Builtin.append_ #[ty_Suint64, ty_Suint64] ty_Suint64 #[(.slice freedP6 freedL7 freedC8), (.slice (some ⟨b64, 0, none⟩) 1 1)]) Hx65 fun v66 Hx67 =>
 asSl v66 fun tP68 tL69 tC70 =>
 R12 tP68 tL69 tC70 Hx67
else
 R12 freedP6 freedL7 freedC8 Hx52))
else
 R12 freedP6 freedL7 freedC8 Hx30))))) → R29 t31 Hx30) →
 (bif ((t19 : Int) == 1) then
 R29 ((t19 : Int) == 1) Hx18
else
 R29 ((t19 : Int) == 2) Hx18))
else
 K (.tuple #[(.slice freedP6 freedL7 freedC8), (.bool false)]) Hx5)
theorem E_cycle_Cycle_Step (c1 : Option Addr) (stir2 : Int) (H : Hp) (K : Value → Hp → Prop) : B_cycle_Cycle_Step c1 stir2 H K = denF Tryz.prog Tryz.f24 (.seq none .n (.seq none .n (.seq none (.seq none .n (.sub (.loop ⟨[(6, .sl), (7, .int .i64)], [0, 1]⟩ (.seq none .n (.seq (some ⟨[(6, .sl)], [0, 1, 7]⟩) (.sub (.seq none .n (.sub (.seq none .n (.two .n (.seq (some ⟨[(33, .bool)], [0, 1, 6, 7, 19]⟩) .n .n)))))) .n))))) .n))) [(.pointer c1), (.int .u64 stir2)] H K := by kernel_rfl
theorem den_cycle_Cycle_Step {c1 : Option Addr} {stir2 : Int} {H : Hp} {K : Value → Hp → Prop} (h : B_cycle_Cycle_Step c1 stir2 H K) : hcall PR f_cycle_Cycle_Step ⟨[(.pointer c1), (.int .u64 stir2)]⟩ H K := denF_call Tryz.func24 PR_mixed (Eq.mp (E_cycle_Cycle_Step c1 stir2 H K) h)

def B_cycle_Cycle_State (c1 : Option Addr) (H : Hp) (K : Value → Hp → Prop) : Prop :=
 nilP c1 fun ca2 =>
 ldI .i64 (ca2.add 7) H fun state3 =>
 (bif ((state3 : Int) != 0) then
 nilP c1 fun ca4 =>
 ldI .i64 (ca4.add 7) H fun state5 =>
 K (.int .i64 state5) H
else
 nilP c1 fun ca6 =>
 ldP ca6 H fun shaking7 =>
 hcall PR f_shake_Shake_Phase ⟨[(.pointer shaking7)]⟩ H fun v8 Hx9 =>
 asI .i64 v8 fun t10 =>
 (bif ((t10 : Int) == 1) then
 K (.int .i64 1) Hx9
else
 nilP c1 fun ca11 =>
 ldP ca11 Hx9 fun shaking12 =>
 hcall PR f_shake_Shake_Phase ⟨[(.pointer shaking12)]⟩ Hx9 fun v13 Hx14 =>
 asI .i64 v13 fun t15 =>
 (bif ((t15 : Int) != 0) then
 K (.int .i64 2) Hx14
else
 K (.int .i64 0) Hx14)))
theorem E_cycle_Cycle_State (c1 : Option Addr) (H : Hp) (K : Value → Hp → Prop) : B_cycle_Cycle_State c1 H K = denF Tryz.prog Tryz.f33 .n [(.pointer c1)] H K := by kernel_rfl
theorem den_cycle_Cycle_State {c1 : Option Addr} {H : Hp} {K : Value → Hp → Prop} (h : B_cycle_Cycle_State c1 H K) : hcall PR f_cycle_Cycle_State ⟨[(.pointer c1)]⟩ H K := denF_call Tryz.func33 PR_mixed (Eq.mp (E_cycle_Cycle_State c1 H K) h)

def B_cycle_Cycle_open (c1 : Option Addr) (H : Hp) (K : Value → Hp → Prop) : Prop :=
 hcall PR f_cycle_Cycle_State ⟨[(.pointer c1)]⟩ H fun v2 Hx3 =>
 asI .i64 v2 fun t4 =>
 (bif (decide ((t4 : Int) ≥ 1)) then
 hcall PR f_cycle_Cycle_State ⟨[(.pointer c1)]⟩ Hx3 fun v5 Hx6 =>
 asI .i64 v5 fun t7 =>
 K (.bool (decide ((t7 : Int) ≤ 4))) Hx6
else
 K (.bool false) Hx3)
theorem E_cycle_Cycle_open (c1 : Option Addr) (H : Hp) (K : Value → Hp → Prop) : B_cycle_Cycle_open c1 H K = denF Tryz.prog Tryz.f52 .n [(.pointer c1)] H K := by kernel_rfl
theorem den_cycle_Cycle_open {c1 : Option Addr} {H : Hp} {K : Value → Hp → Prop} (h : B_cycle_Cycle_open c1 H K) : hcall PR f_cycle_Cycle_open ⟨[(.pointer c1)]⟩ H K := denF_call Tryz.func52 PR_mixed (Eq.mp (E_cycle_Cycle_open c1 H K) h)

def B_cycle_Cycle_marks (c1 : Option Addr) (stir2 : Int) (H : Hp) (K : Value → Hp → Prop) : Prop :=
 nilP c1 fun ca3 =>
 ldP (ca3.add 3) H fun marker4 =>
 hcall PR f_mark_Marker_Step ⟨[(.pointer marker4)]⟩ H fun v5 Hx6 =>
 asB v5 fun t7 =>
 (bif t7 then
 K (.tuple #[]) Hx6
else
 nilP c1 fun ca8 =>
 st (ca8.add 10) (.int .u64 stir2) Hx6 fun Hx9 =>
 nilP c1 fun ca10 =>
 ldP (ca10.add 4) Hx9 fun reacher11 =>
 nilP c1 fun ca12 =>
 ldI .i64 (ca12.add 8) Hx9 fun suspect13 =>
 hcall PR f_reach_Reacher_Begin ⟨[(.pointer reacher11), (.int .i64 suspect13)]⟩ Hx9 fun v14 Hx15 =>
 nilP c1 fun ca16 =>
 st (ca16.add 7) (.int .i64 4) Hx15 fun Hx17 =>
 K (.tuple #[]) Hx17)
theorem E_cycle_Cycle_marks (c1 : Option Addr) (stir2 : Int) (H : Hp) (K : Value → Hp → Prop) : B_cycle_Cycle_marks c1 stir2 H K = denF Tryz.prog Tryz.f67 .n [(.pointer c1), (.int .u64 stir2)] H K := by kernel_rfl
theorem den_cycle_Cycle_marks {c1 : Option Addr} {stir2 : Int} {H : Hp} {K : Value → Hp → Prop} (h : B_cycle_Cycle_marks c1 stir2 H K) : hcall PR f_cycle_Cycle_marks ⟨[(.pointer c1), (.int .u64 stir2)]⟩ H K := denF_call Tryz.func67 PR_mixed (Eq.mp (E_cycle_Cycle_marks c1 stir2 H K) h)

def B_cycle_Cycle_reaches (c1 : Option Addr) (H : Hp) (K : Value → Hp → Prop) : Prop :=
 nilP c1 fun ca2 =>
 ldP (ca2.add 3) H fun marker3 =>
 hcall PR f_mark_Marker_Step ⟨[(.pointer marker3)]⟩ H fun v4 Hx5 =>
 asB v4 fun t6 =>
 (bif t6 then
 K (.tuple #[]) Hx5
else
 nilP c1 fun ca7 =>
 ldP (ca7.add 4) Hx5 fun reacher8 =>
 hcall PR f_reach_Reacher_Step ⟨[(.pointer reacher8)]⟩ Hx5 fun v9 Hx10 =>
 asB v9 fun t11 =>
 (bif t11 then
 K (.tuple #[]) Hx10
else
 nilP c1 fun ca12 =>
 ldI .u64 (ca12.add 10) Hx10 fun stir13 =>
 nilP c1 fun ca14 =>
 ldP (ca14.add 4) Hx10 fun reacher15 =>
 hcall PR f_reach_Reacher_Rows ⟨[(.pointer reacher15)]⟩ Hx10 fun v16 Hx17 =>
 asSl v16 fun tP18 tL19 tC20 =>
 (ldI .u64 (ca12.add 10) Hx17 fun stir21 =>
 ((.int .u64 stir21) : Value) = (.int .u64 stir13)) ∧
 nilP c1 fun ca22 =>
 st (ca22.add 12) (.int .u64 stir13) Hx17 fun Hx23 =>
 st ((ca22.add 12).add 1) (.slice tP18 tL19 tC20) Hx23 fun Hx24 =>
 st ((ca22.add 12).add 2) (.slice none 0 0) Hx24 fun Hx25 =>
 st ((ca22.add 12).add 3) (.bool true) Hx25 fun Hx26 =>
 nilP c1 fun ca27 =>
 ldP (ca27.add 2) Hx26 fun paint28 =>
 hcall PR f_paint_Paint_Outs ⟨[(.pointer paint28)]⟩ Hx26 fun v29 Hx30 =>
 asSl v29 fun tP31 tL32 tC33 =>
 ∃ (I34 : Int → Hp → Prop) (m35 : Int → Hp → Nat), I34 0 Hx30 ∧ ∀ t37 : Int, ∀ Hx36 : Hp, I34 t37 Hx36 →
 (bif (decide ((t37 : Int) < (tL32 : Int))) then
 ∀ R38 : Hp → Prop, (∀ Hx39 : Hp, (
 I34 (IntKind.i64.wrap (t37 + 1)) Hx39 ∧ m35 (IntKind.i64.wrap (t37 + 1)) Hx39 < m35 t37 Hx36) → R38 Hx39) →
 idxA tP31 tL32 t37 3 fun el40 =>
 ldI .i64 el40 Hx36 fun Node41 =>
 ldI .u64 (el40.add 1) Hx36 fun Serial42 =>
 ldI .i64 (el40.add 2) Hx36 fun Rank43 =>
 newB (.cells #[(.int .i64 0), (.int .u64 0), (.int .i64 0)] ty_api_Out) Hx36 fun b44 Hx45 =>
 st ⟨b44, 0, none⟩ (.int .i64 Node41) Hx45 fun Hx46 =>
 st ⟨b44, 1, none⟩ (.int .u64 Serial42) Hx46 fun Hx47 =>
 st ⟨b44, 2, none⟩ (.int .i64 Rank43) Hx47 fun Hx48 =>
 ldI .i64 ⟨b44, 2, none⟩ Hx48 fun Rank49 =>
 nilP c1 fun ca50 =>
 ldI .i64 (ca50.add 8) Hx48 fun suspect51 =>
 (bif (decide ((Rank49 : Int) > suspect51)) then
 nilP c1 fun ca52 =>
 ldSl ((ca52.add 12).add 2) Hx48 fun OutsP53 OutsL54 OutsC55 =>
 ldI .i64 ⟨b44, 0, none⟩ Hx48 fun Node56 =>
 ldI .u64 ⟨b44, 1, none⟩ Hx48 fun Serial57 =>
 ldI .i64 ⟨b44, 2, none⟩ Hx48 fun Rank58 =>
 newB (.cells #[(.int .i64 Node56), (.int .u64 Serial57), (.int .i64 Rank58)] ty_api_Out) Hx48 fun b59 Hx60 =>
 (ldSl ((ca52.add 12).add 2) Hx60 fun OutsP61 OutsL62 OutsC63 =>
 ((.slice OutsP61 OutsL62 OutsC63) : Value) = (.slice OutsP53 OutsL54 OutsC55)) ∧
 evW PR (Builtin.append_ #[ty_Sapi_Out, ty_Sapi_Out] ty_Sapi_Out #[(.slice OutsP53 OutsL54 OutsC55), (.slice (some ⟨b59, 0, none⟩) 1 1)]) Hx60 fun v64 Hx65 =>
 asSl v64 fun tP66 tL67 tC68 =>
 nilP c1 fun ca69 =>
 st ((ca69.add 12).add 2) (.slice tP66 tL67 tC68) Hx65 fun Hx70 =>
 R38 Hx70
else
 R38 Hx48)
else
 nilP c1 fun ca71 =>
 ldP (ca71.add 5) Hx36 fun sweeper72 =>
 hcall PR f_sweep_Sweeper_Begin ⟨[(.pointer sweeper72)]⟩ Hx36 fun v73 Hx74 =>
 nilP c1 fun ca75 =>
 ldP (ca75.add 1) Hx74 fun heap76 =>
 hcall PR f_heap_Heap_Last ⟨[(.pointer heap76)]⟩ Hx74 fun v77 Hx78 =>
 asI .u64 v77 fun t79 =>
 nilP c1 fun ca80 =>
 st (ca80.add 11) (.int .u64 t79) Hx78 fun Hx81 =>
 nilP c1 fun ca82 =>
 st (ca82.add 7) (.int .i64 5) Hx81 fun Hx83 =>
 K (.tuple #[]) Hx83)))
theorem E_cycle_Cycle_reaches (c1 : Option Addr) (H : Hp) (K : Value → Hp → Prop) : B_cycle_Cycle_reaches c1 H K = denF Tryz.prog Tryz.f68 (.seq none .n (.seq none .n (.seq none (.seq none .n (.sub (.loop ⟨[(35, .int .i64)], [0, 33, 34]⟩ (.seq none .n (.seq none .n (.seq (some ⟨[], [0, 33, 34, 35]⟩) .n .n)))))) .n))) [(.pointer c1)] H K := by kernel_rfl
theorem den_cycle_Cycle_reaches {c1 : Option Addr} {H : Hp} {K : Value → Hp → Prop} (h : B_cycle_Cycle_reaches c1 H K) : hcall PR f_cycle_Cycle_reaches ⟨[(.pointer c1)]⟩ H K := denF_call Tryz.func68 PR_mixed (Eq.mp (E_cycle_Cycle_reaches c1 H K) h)

def B_cycle_Cycle_Turns (c1 : Option Addr) (H : Hp) (K : Value → Hp → Prop) : Prop :=
 nilP c1 fun ca2 =>
 ldP (ca2.add 2) H fun paint3 =>
 hcall PR f_paint_Paint_Turns ⟨[(.pointer paint3)]⟩ H fun v4 Hx5 =>
 asI .u64 v4 fun t6 =>
 K (.int .u64 t6) Hx5
theorem E_cycle_Cycle_Turns (c1 : Option Addr) (H : Hp) (K : Value → Hp → Prop) : B_cycle_Cycle_Turns c1 H K = denF Tryz.prog Tryz.f72 .n [(.pointer c1)] H K := by kernel_rfl
theorem den_cycle_Cycle_Turns {c1 : Option Addr} {H : Hp} {K : Value → Hp → Prop} (h : B_cycle_Cycle_Turns c1 H K) : hcall PR f_cycle_Cycle_Turns ⟨[(.pointer c1)]⟩ H K := denF_call Tryz.func72 PR_mixed (Eq.mp (E_cycle_Cycle_Turns c1 H K) h)

def B_cycle_Cycle_Outs (c1 : Option Addr) (H : Hp) (K : Value → Hp → Prop) : Prop :=
 nilP c1 fun ca2 =>
 ldP (ca2.add 2) H fun paint3 =>
 hcall PR f_paint_Paint_Outs ⟨[(.pointer paint3)]⟩ H fun v4 Hx5 =>
 asSl v4 fun tP6 tL7 tC8 =>
 K (.slice tP6 tL7 tC8) Hx5
theorem E_cycle_Cycle_Outs (c1 : Option Addr) (H : Hp) (K : Value → Hp → Prop) : B_cycle_Cycle_Outs c1 H K = denF Tryz.prog Tryz.f74 .n [(.pointer c1)] H K := by kernel_rfl
theorem den_cycle_Cycle_Outs {c1 : Option Addr} {H : Hp} {K : Value → Hp → Prop} (h : B_cycle_Cycle_Outs c1 H K) : hcall PR f_cycle_Cycle_Outs ⟨[(.pointer c1)]⟩ H K := denF_call Tryz.func74 PR_mixed (Eq.mp (E_cycle_Cycle_Outs c1 H K) h)

def B_cycle_Cycle_Mark (c1 : Option Addr) (serial2 : Int) (H : Hp) (K : Value → Hp → Prop) : Prop :=
 nilP c1 fun ca3 =>
 ldP (ca3.add 2) H fun paint4 =>
 hcall PR f_paint_Paint_Mark ⟨[(.pointer paint4), (.int .u64 serial2)]⟩ H fun v5 Hx6 =>
 tup3 v5 fun v7 v8 v9 =>
 asI .i64 v7 fun t10 =>
 asB v8 fun t11 =>
 asB v9 fun t12 =>
 K (.tuple #[(.int .i64 t10), (.bool t11), (.bool t12)]) Hx6
theorem E_cycle_Cycle_Mark (c1 : Option Addr) (serial2 : Int) (H : Hp) (K : Value → Hp → Prop) : B_cycle_Cycle_Mark c1 serial2 H K = denF Tryz.prog Tryz.f76 .n [(.pointer c1), (.int .u64 serial2)] H K := by kernel_rfl
theorem den_cycle_Cycle_Mark {c1 : Option Addr} {serial2 : Int} {H : Hp} {K : Value → Hp → Prop} (h : B_cycle_Cycle_Mark c1 serial2 H K) : hcall PR f_cycle_Cycle_Mark ⟨[(.pointer c1), (.int .u64 serial2)]⟩ H K := denF_call Tryz.func76 PR_mixed (Eq.mp (E_cycle_Cycle_Mark c1 serial2 H K) h)

def B_cycle_Cycle_Doomed (c1 : Option Addr) (serial2 : Int) (H : Hp) (K : Value → Hp → Prop) : Prop :=
 nilP c1 fun ca3 =>
 ldI .i64 (ca3.add 7) H fun state4 =>
 (bif ((state4 : Int) != 5) then
 K (.bool false) H
else
 nilP c1 fun ca5 =>
 ldI .u64 (ca5.add 11) H fun endx6 =>
 (bif (decide ((serial2 : Int) > endx6)) then
 K (.bool false) H
else
 nilP c1 fun ca7 =>
 ldP (ca7.add 1) H fun heap8 =>
 hcall PR f_heap_Heap_Object ⟨[(.pointer heap8), (.int .u64 serial2)]⟩ H fun v9 Hx10 =>
 tup2 v9 fun v11 v12 =>
 asAgg' v11 fun cs13 =>
 unCons cs13.toList fun v14 r15 =>
 unCons r15 fun v16 r17 =>
 unCons r17 fun v18 r19 =>
 unCons r19 fun v20 r21 =>
 unCons r21 fun v22 r23 =>
 unNil r23 <|
 asI .u64 v14 fun Serial24 =>
 asI .i64 v16 fun Cell25 =>
 asSl v18 fun RefsP26 RefsL27 RefsC28 =>
 asSl v20 fun ValsP29 ValsL30 ValsC31 =>
 asI .i64 v22 fun In32 =>
 asB v12 fun t33 =>
 newB (.cells #[(.int .u64 0), (.int .i64 0), (.slice none 0 0), (.slice none 0 0), (.int .i64 0)] ty_api_Object) Hx10 fun b34 Hx35 =>
 st ⟨b34, 0, none⟩ (.int .u64 Serial24) Hx35 fun Hx36 =>
 st ⟨b34, 1, none⟩ (.int .i64 Cell25) Hx36 fun Hx37 =>
 st ⟨b34, 2, none⟩ (.slice RefsP26 RefsL27 RefsC28) Hx37 fun Hx38 =>
 st ⟨b34, 3, none⟩ (.slice ValsP29 ValsL30 ValsC31) Hx38 fun Hx39 =>
 st ⟨b34, 4, none⟩ (.int .i64 In32) Hx39 fun Hx40 =>
 nilP c1 fun ca41 =>
 ldP (ca41.add 2) Hx40 fun paint42 =>
 hcall PR f_paint_Paint_Mark ⟨[(.pointer paint42), (.int .u64 serial2)]⟩ Hx40 fun v43 Hx44 =>
 tup3 v43 fun v45 v46 v47 =>
 asI .i64 v45 fun t48 =>
 asB v46 fun t49 =>
 asB v47 fun t50 =>
 (bif t33 then
 K (.bool (!t50)) Hx44
else
 K (.bool false) Hx44)))
theorem E_cycle_Cycle_Doomed (c1 : Option Addr) (serial2 : Int) (H : Hp) (K : Value → Hp → Prop) : B_cycle_Cycle_Doomed c1 serial2 H K = denF Tryz.prog Tryz.f78 .n [(.pointer c1), (.int .u64 serial2)] H K := by kernel_rfl
theorem den_cycle_Cycle_Doomed {c1 : Option Addr} {serial2 : Int} {H : Hp} {K : Value → Hp → Prop} (h : B_cycle_Cycle_Doomed c1 serial2 H K) : hcall PR f_cycle_Cycle_Doomed ⟨[(.pointer c1), (.int .u64 serial2)]⟩ H K := denF_call Tryz.func78 PR_mixed (Eq.mp (E_cycle_Cycle_Doomed c1 serial2 H K) h)

def B_cycle_Cycle_Summary (c1 : Option Addr) (H : Hp) (K : Value → Hp → Prop) : Prop :=
 newB (.cells #[(.int .u64 0), (.slice none 0 0), (.slice none 0 0), (.bool false)] ty_cycle_Summary) H fun b2 Hx3 =>
 ∀ R4 : Option Addr → Hp → Prop, (∀ out6 : Option Addr, ∀ Hx5 : Hp, (
 nilP c1 fun ca7 =>
 ldSl ((ca7.add 12).add 1) Hx5 fun RowsP8 RowsL9 RowsC10 =>
 ∃ (I11 : Int → Hp → Prop) (m12 : Int → Hp → Nat), I11 0 Hx5 ∧ ∀ t14 : Int, ∀ Hx13 : Hp, I11 t14 Hx13 →
 (bif (decide ((t14 : Int) < (RowsL9 : Int))) then
 idxA RowsP8 RowsL9 t14 2 fun el15 =>
 ldI .u64 el15 Hx13 fun In16 =>
 ldSl (el15.add 1) Hx13 fun OutsP17 OutsL18 OutsC19 =>
 newB (.cells #[(.int .u64 0), (.slice none 0 0)] ty_api_Reach) Hx13 fun b20 Hx21 =>
 st ⟨b20, 0, none⟩ (.int .u64 In16) Hx21 fun Hx22 =>
 st ⟨b20, 1, none⟩ (.slice OutsP17 OutsL18 OutsC19) Hx22 fun Hx23 =>
 asA (.pointer out6) fun outa24 =>
 ldSl (outa24.add 1) Hx23 fun RowsP25 RowsL26 RowsC27 =>
 ldI .u64 ⟨b20, 0, none⟩ Hx23 fun In28 =>
 ldSl ⟨b20, 1, none⟩ Hx23 fun OutsP29 OutsL30 OutsC31 =>
 newB (.cells #[] ty_api_ID) Hx23 fun b32 Hx33 =>
 (ldSl ⟨b20, 1, none⟩ Hx33 fun OutsP34 OutsL35 OutsC36 =>
 ((.slice OutsP34 OutsL35 OutsC36) : Value) = (.slice OutsP29 OutsL30 OutsC31)) ∧
 (ldI .u64 ⟨b20, 0, none⟩ Hx33 fun In37 =>
 ((.int .u64 In37) : Value) = (.int .u64 In28)) ∧
 (ldSl (outa24.add 1) Hx33 fun RowsP38 RowsL39 RowsC40 =>
 ((.slice RowsP38 RowsL39 RowsC40) : Value) = (.slice RowsP25 RowsL26 RowsC27)) ∧
 evW PR (Builtin.append_ #[ty_Sapi_ID, ty_Sapi_ID] ty_Sapi_ID #[(.slice (some ⟨b32, 0, none⟩) 0 0), (.slice OutsP29 OutsL30 OutsC31)]) Hx33 fun v41 Hx42 =>
 asSl v41 fun tP43 tL44 tC45 =>
 (ldI .u64 ⟨b20, 0, none⟩ Hx42 fun In46 =>
 ((.int .u64 In46) : Value) = (.int .u64 In28)) ∧
 (ldSl (outa24.add 1) Hx42 fun RowsP47 RowsL48 RowsC49 =>
 ((.slice RowsP47 RowsL48 RowsC49) : Value) = (.slice RowsP25 RowsL26 RowsC27)) ∧
 newB (.cells #[(.int .u64 In28), (.slice tP43 tL44 tC45)] ty_api_Reach) Hx42 fun b50 Hx51 =>
 (ldSl (outa24.add 1) Hx51 fun RowsP52 RowsL53 RowsC54 =>
 ((.slice RowsP52 RowsL53 RowsC54) : Value) = (.slice RowsP25 RowsL26 RowsC27)) ∧
 evW PR (Builtin.append_ #[ty_Sapi_Reach, ty_Sapi_Reach] ty_Sapi_Reach #[(.slice RowsP25 RowsL26 RowsC27), (.slice (some ⟨b50, 0, none⟩) 1 1)]) Hx51 fun v55 Hx56 =>
 asSl v55 fun tP57 tL58 tC59 =>
 asA (.pointer out6) fun outa60 =>
 st (outa60.add 1) (.slice tP57 tL58 tC59) Hx56 fun Hx61 =>
 I11 (IntKind.i64.wrap (t14 + 1)) Hx61 ∧ m12 (IntKind.i64.wrap (t14 + 1)) Hx61 < m12 t14 Hx13
else
 asA (.pointer out6) fun outa62 =>
 ldI .u64 outa62 Hx13 fun Stir63 =>
 ldSl (outa62.add 1) Hx13 fun RowsP64 RowsL65 RowsC66 =>
 ldSl (outa62.add 2) Hx13 fun OutsP67 OutsL68 OutsC69 =>
 ldB (outa62.add 3) Hx13 fun Ok70 =>
 st ⟨b2, 0, none⟩ (.int .u64 Stir63) Hx13 fun Hx71 =>
 st ⟨b2, 1, none⟩ (.slice RowsP64 RowsL65 RowsC66) Hx71 fun Hx72 =>
 st ⟨b2, 2, none⟩ (.slice OutsP67 OutsL68 OutsC69) Hx72 fun Hx73 =>
 st ⟨b2, 3, none⟩ (.bool Ok70) Hx73 fun Hx74 =>
 ldI .u64 ⟨b2, 0, none⟩ Hx74 fun Stir75 =>
 ldSl ⟨b2, 1, none⟩ Hx74 fun RowsP76 RowsL77 RowsC78 =>
 ldSl ⟨b2, 2, none⟩ Hx74 fun OutsP79 OutsL80 OutsC81 =>
 ldB ⟨b2, 3, none⟩ Hx74 fun Ok82 =>
 K (.agg #[(.int .u64 Stir75), (.slice RowsP76 RowsL77 RowsC78), (.slice OutsP79 OutsL80 OutsC81), (.bool Ok82)]) Hx74)) → R4 out6 Hx5) →
 nilP c1 fun ca83 =>
 ldI .u64 (ca83.add 12) Hx3 fun Stir84 =>
 nilP c1 fun ca85 =>
 ldSl ((ca85.add 12).add 2) Hx3 fun OutsP86 OutsL87 OutsC88 =>
 nilP c1 fun ca89 =>
 ldB ((ca89.add 12).add 3) Hx3 fun Ok90 =>
 (newB (.cells #[] ty_api_Out) Hx3 fun b91 Hx92 =>
 (ldB ((ca89.add 12).add 3) Hx92 fun Ok93 =>
 ((.bool Ok93) : Value) = (.bool Ok90)) ∧
 (ldSl ((ca85.add 12).add 2) Hx92 fun OutsP94 OutsL95 OutsC96 =>
 ((.slice OutsP94 OutsL95 OutsC96) : Value) = (.slice OutsP86 OutsL87 OutsC88)) ∧
 (ldI .u64 (ca83.add 12) Hx92 fun Stir97 =>
 ((.int .u64 Stir97) : Value) = (.int .u64 Stir84)) ∧
 (evW PR (Builtin.append_ #[ty_Sapi_Out, ty_Sapi_Out] ty_Sapi_Out #[(.slice (some ⟨b91, 0, none⟩) 0 0), (.slice OutsP86 OutsL87 OutsC88)]) Hx92 fun v98 Hx99 =>
 asSl v98 fun tP100 tL101 tC102 =>
 (ldB ((ca89.add 12).add 3) Hx99 fun Ok103 =>
 ((.bool Ok103) : Value) = (.bool Ok90)) ∧
 (ldI .u64 (ca83.add 12) Hx99 fun Stir104 =>
 ((.int .u64 Stir104) : Value) = (.int .u64 Stir84)) ∧
 newB (.cells #[(.int .u64 0), (.slice none 0 0), (.slice none 0 0), (.bool false)] ty_cycle_Summary) Hx99 fun b105 Hx106 =>
 (ldB ((ca89.add 12).add 3) Hx106 fun Ok107 =>
 ((.bool Ok107) : Value) = (.bool Ok90)) ∧
 (ldI .u64 (ca83.add 12) Hx106 fun Stir108 =>
 ((.int .u64 Stir108) : Value) = (.int .u64 Stir84)) ∧
 st ⟨b105, 0, none⟩ (.int .u64 Stir84) Hx106 fun Hx109 =>
 st ⟨b105, 1, none⟩ (.slice none 0 0) Hx109 fun Hx110 =>
 st ⟨b105, 2, none⟩ (.slice tP100 tL101 tC102) Hx110 fun Hx111 =>
 st ⟨b105, 3, none⟩ (.bool Ok90) Hx111 fun Hx112 =>
 R4 (some ⟨b105, 0, none⟩) Hx112) ∧
 (newB (.cells #[(.int .u64 0), (.slice none 0 0), (.slice none 0 0), (.bool false)] ty_cycle_Summary) Hx92 fun b113 Hx114 =>
 (ldB ((ca89.add 12).add 3) Hx114 fun Ok115 =>
 ((.bool Ok115) : Value) = (.bool Ok90)) ∧
 (ldSl ((ca85.add 12).add 2) Hx114 fun OutsP116 OutsL117 OutsC118 =>
 ((.slice OutsP116 OutsL117 OutsC118) : Value) = (.slice OutsP86 OutsL87 OutsC88)) ∧
 (ldI .u64 (ca83.add 12) Hx114 fun Stir119 =>
 ((.int .u64 Stir119) : Value) = (.int .u64 Stir84)) ∧
 evW PR (Builtin.append_ #[ty_Sapi_Out, ty_Sapi_Out] ty_Sapi_Out #[(.slice (some ⟨b91, 0, none⟩) 0 0), (.slice OutsP86 OutsL87 OutsC88)]) Hx114 fun v120 Hx121 =>
 asSl v120 fun tP122 tL123 tC124 =>
 (ldB ((ca89.add 12).add 3) Hx121 fun Ok125 =>
 ((.bool Ok125) : Value) = (.bool Ok90)) ∧
 (ldI .u64 (ca83.add 12) Hx121 fun Stir126 =>
 ((.int .u64 Stir126) : Value) = (.int .u64 Stir84)) ∧
 st ⟨b113, 0, none⟩ (.int .u64 Stir84) Hx121 fun Hx127 =>
 st ⟨b113, 1, none⟩ (.slice none 0 0) Hx127 fun Hx128 =>
 st ⟨b113, 2, none⟩ (.slice tP122 tL123 tC124) Hx128 fun Hx129 =>
 st ⟨b113, 3, none⟩ (.bool Ok90) Hx129 fun Hx130 =>
 R4 (some ⟨b113, 0, none⟩) Hx130)) ∧
 (newB (.cells #[(.int .u64 0), (.slice none 0 0), (.slice none 0 0), (.bool false)] ty_cycle_Summary) Hx3 fun b131 Hx132 =>
 (ldB ((ca89.add 12).add 3) Hx132 fun Ok133 =>
 ((.bool Ok133) : Value) = (.bool Ok90)) ∧
 (ldSl ((ca85.add 12).add 2) Hx132 fun OutsP134 OutsL135 OutsC136 =>
 ((.slice OutsP134 OutsL135 OutsC136) : Value) = (.slice OutsP86 OutsL87 OutsC88)) ∧
 (ldI .u64 (ca83.add 12) Hx132 fun Stir137 =>
 ((.int .u64 Stir137) : Value) = (.int .u64 Stir84)) ∧
 newB (.cells #[] ty_api_Out) Hx132 fun b138 Hx139 =>
 (ldB ((ca89.add 12).add 3) Hx139 fun Ok140 =>
 ((.bool Ok140) : Value) = (.bool Ok90)) ∧
 (ldSl ((ca85.add 12).add 2) Hx139 fun OutsP141 OutsL142 OutsC143 =>
 ((.slice OutsP141 OutsL142 OutsC143) : Value) = (.slice OutsP86 OutsL87 OutsC88)) ∧
 (ldI .u64 (ca83.add 12) Hx139 fun Stir144 =>
 ((.int .u64 Stir144) : Value) = (.int .u64 Stir84)) ∧
 evW PR (Builtin.append_ #[ty_Sapi_Out, ty_Sapi_Out] ty_Sapi_Out #[(.slice (some ⟨b138, 0, none⟩) 0 0), (.slice OutsP86 OutsL87 OutsC88)]) Hx139 fun v145 Hx146 =>
 asSl v145 fun tP147 tL148 tC149 =>
 (ldB ((ca89.add 12).add 3) Hx146 fun Ok150 =>
 ((.bool Ok150) : Value) = (.bool Ok90)) ∧
 (ldI .u64 (ca83.add 12) Hx146 fun Stir151 =>
 ((.int .u64 Stir151) : Value) = (.int .u64 Stir84)) ∧
 st ⟨b131, 0, none⟩ (.int .u64 Stir84) Hx146 fun Hx152 =>
 st ⟨b131, 1, none⟩ (.slice none 0 0) Hx152 fun Hx153 =>
 st ⟨b131, 2, none⟩ (.slice tP147 tL148 tC149) Hx153 fun Hx154 =>
 st ⟨b131, 3, none⟩ (.bool Ok90) Hx154 fun Hx155 =>
 R4 (some ⟨b131, 0, none⟩) Hx155)
theorem E_cycle_Cycle_Summary (c1 : Option Addr) (H : Hp) (K : Value → Hp → Prop) : B_cycle_Cycle_Summary c1 H K = denF Tryz.prog Tryz.f80 (.seq none .n (.seq (some ⟨[(3, .ptr)], [0, 2]⟩) .n (.seq none (.seq none .n (.sub (.loop ⟨[(30, .int .i64)], [2, 3, 28, 29]⟩ .n))) .n))) [(.pointer c1)] H K := by kernel_rfl
theorem den_cycle_Cycle_Summary {c1 : Option Addr} {H : Hp} {K : Value → Hp → Prop} (h : B_cycle_Cycle_Summary c1 H K) : hcall PR f_cycle_Cycle_Summary ⟨[(.pointer c1)]⟩ H K := denF_call Tryz.func80 PR_mixed (Eq.mp (E_cycle_Cycle_Summary c1 H K) h)

end Go.Proofs.YtflfodcemnapeaaGreat

namespace Go.Proofs.YtflfodcemnapeaaGreat
set_option linter.unusedSimpArgs false
set_option linter.unusedVariables false
open Go
structure CyX where
 kb : Nat
 pb : Nat
 mb : Nat
 rb : Nat
 sb : Nat
 ST : Nat
 tp : Option Addr
 tc : Nat
 op : Option Addr
 oc : Nat
 T : Nat
def cyCells (hb : Nat) (c : Cy) (x : CyX) : Array Value := #[ptrV x.kb, ptrV hb, ptrV x.pb, ptrV x.mb, ptrV x.rb, ptrV x.sb, .int .i64 1, .int .i64 c.st, .int .i64 c.sus, .int .i64 c.work, .int .u64 c.stir, .int .u64 c.fin, .int .u64 c.told.stir, .slice x.tp c.told.rows.length x.tc, .slice x.op c.told.outs.length x.oc, .bool c.told.ok]
def cyParts (b hb : Nat) (c : Cy) (x : CyX) : List Prt :=
 [Prt.one b (.cells (cyCells hb c x) x.T (0, 0)), Shk x.kb c.sk, PaintP x.pb hb c.p, MkP x.mb hb x.pb c.m, RcP x.rb hb x.pb c.r, SwP x.ST x.sb hb x.pb c.pl c.e, RowsP x.tp x.tc c.told.rows, Prt.row 3 x.op c.told.outs.length x.oc (cel outC c.told.outs), Prt.pure c.ok]
/-- A collector of a heap of node 1. -/
def CyP (b hb : Nat) (c : Cy) : Prt := Prt.ex fun x => Prt.list (cyParts b hb c x)

section
variable {H0 H : Hp} {L M N : List Prt} {i j k b hb : Nat} {s : Hs} {c : Cy} {K : Value → Hp → Prop}
theorem cyOpened (h : St H0 L H) (hk : L[k]? = some (CyP b hb c)) : ∃ x, St H0 (cyParts b hb c x ++ L.set k .nil) H ∧ c.ok := by
 obtain ⟨x, h1⟩ := h.openEx hk
 exact ⟨x, h1, h1.fact (i := 8) rfl⟩
theorem cyShut {B : Prt} {x : CyX} (h : St H0 (N ++ (cyParts b hb c x ++ L.set k .nil)) H) (hk : L[k]? = some B) : St H0 (N ++ L.set k (CyP b hb c)) H := St.shutExN (A := cyParts b hb c) (N := N) x h hk
theorem cy_ok (h : St H0 L H) (hk : L[k]? = some (CyP b hb c)) : c.ok := let ⟨_, _, h⟩ := cyOpened h hk; h
theorem set_get_ne {A B : Prt} (hi : L[i]? = some A) (hik : i ≠ k) : (L.set k B)[i]? = some A := by rw [List.getElem?_set_ne (Ne.symm hik)]; exact hi

/-! ## The shaking, as a part -/
theorem shkPhaseC {kb : Nat} {q : Sk} (h : St H0 L H) (hi : L[i]? = some (Shk kb q)) (hK : K (.int .i64 q.ph) H) : hcall PR f_shake_Shake_Phase ⟨[.pointer (some ⟨kb, 0, none⟩)]⟩ H K := by
 obtain ⟨_, ha, _⟩ := h.at hi
 exact shakePhase_ok ha hK
theorem shkArmedC {kb : Nat} {q : Sk} {m : Int} (h : St H0 L H) (hi : L[i]? = some (Shk kb q)) (hK : K (.bool (isOf q.ar m)) H) : hcall PR f_shake_Shake_IsArmed ⟨[.pointer (some ⟨kb, 0, none⟩), .int .i64 m]⟩ H K := by
 obtain ⟨_, ha, _⟩ := h.at hi
 exact shakeIsArmed_ok ha hK
theorem shkScannedC {kb : Nat} {q : Sk} {m : Int} (h : St H0 L H) (hi : L[i]? = some (Shk kb q)) (hK : K (.bool (isOf q.sc m)) H) : hcall PR f_shake_Shake_HasScanned ⟨[.pointer (some ⟨kb, 0, none⟩), .int .i64 m]⟩ H K := by
 obtain ⟨_, ha, _⟩ := h.at hi
 exact shakeHasScanned_ok ha hK
theorem shkAnswerC {kb : Nat} {q : Sk} {m : Int} (h : St H0 L H) (hi : L[i]? = some (Shk kb q)) (hl : q.sc.length = q.ar.length) (hn : q.ar.length ≤ 100) (hK : ∀ H', St H0 (L.set i (Shk kb (q.ans m).1)) H' → K (.int .i64 (q.ans m).2) H') :
  hcall PR f_shake_Shake_Answer ⟨[.pointer (some ⟨kb, 0, none⟩), .int .i64 m]⟩ H K := by
 obtain ⟨Fi, ha, up⟩ := h.at hi
 exact shakeAnswer_ok ha hl (by omega) fun F' H' h' g => hK H' (up _ F' H' h' g)
theorem shkBeginC {kb : Nat} {q : Sk} (h : St H0 L H) (hi : L[i]? = some (Shk kb q)) (hn : 0 < q.ar.length ∧ q.ar.length ≤ 100) (hK : ∀ v H', St H0 (L.set i (Shk kb q.begun)) H' → K (.int .i64 v) H') :
  hcall PR f_shake_Shake_Begin ⟨[.pointer (some ⟨kb, 0, none⟩)]⟩ H K := by
 obtain ⟨Fi, ha, up⟩ := h.at hi
 by_cases hp : q.ph = 0
 ·have e : q.begun = { q with ph := 1, ar := q.ar.set (q.ar.length - 1) true } := by unfold Sk.begun; rw [if_pos hp]
  rw [e] at hK
  exact shakeBegin_ok ha hp hn.1 (by omega) fun F' H' h' g => hK 0 H' (up _ F' H' h' g)
 ·have e : q.begun = q := by unfold Sk.begun; rw [if_neg hp]
  rw [e] at hK
  refine shakeBegin_busy ha hp (hK 10 H ?_)
  rw [List.set_self hi]
  exact h
theorem shkEndC {kb : Nat} {q : Sk} (h : St H0 L H) (hi : L[i]? = some (Shk kb q)) (hK : ∀ v H', St H0 (L.set i (Shk kb q.ended)) H' → K (.int .i64 v) H') :
  hcall PR f_shake_Shake_End ⟨[.pointer (some ⟨kb, 0, none⟩)]⟩ H K := by
 obtain ⟨Fi, ha, up⟩ := h.at hi
 by_cases hp : q.ph = 3
 ·have e : q.ended = ⟨0, List.replicate q.ar.length false, List.replicate q.sc.length false⟩ := by unfold Sk.ended; rw [if_pos hp]
  rw [e] at hK
  exact shakeEnd_ok ha hp fun F' H' h' g => hK 0 H' (up _ F' H' h' g)
 ·have e : q.ended = q := by unfold Sk.ended; rw [if_neg hp]
  rw [e] at hK
  refine shakeEnd_busy ha hp (hK 10 H ?_)
  rw [List.set_self hi]
  exact h

/-! ## Asked -/
theorem cyStateP {x : CyX} (g : St H0 (cyParts b hb c x ++ M) H) (hK : K (.int .i64 c.state) H) : hcall PR f_cycle_Cycle_State ⟨[.pointer (some ⟨b, 0, none⟩)]⟩ H K := by
 apply den_cycle_Cycle_State
 unfold B_cycle_Cycle_State
 simp only [Za,Zb,Zc,Zd,Zf,Zh,Zi,Zk,Zl,Zm,Zn,Zo,Zp,Zr,Zs,Zx,Zt,Zu,Zy,Zz,Zv,Zw,ZA,ZB,ZC,ZD]
 unfold Cy.state at hK
 refine ldI_of (g.cell (i := 0) rfl rfl) ?_
 by_cases h0 : c.st = 0
 ·rw [if_neg (by simpa using h0)] at hK
  refine bif_neqf h0 (ldP_of (g.cell (i := 0) rfl rfl) (shkPhaseC g (i := 1) rfl ?_))
  simp only [Za,Zb,Zc,Zd,Zf,Zh,Zi,Zk,Zl,Zm,Zn,Zo,Zp,Zr,Zs,Zx,Zt,Zu,Zy,Zz,Zv,Zw,ZA,ZB,ZC,ZD]
  by_cases h1 : c.sk.ph = 1
  ·rw [if_pos h1] at hK
   exact bif_eq h1 hK
  ·rw [if_neg h1] at hK
   refine bif_ne h1 (ldP_of (g.cell (i := 0) rfl rfl) (shkPhaseC g (i := 1) rfl ?_))
   simp only [Za,Zb,Zc,Zd,Zf,Zh,Zi,Zk,Zl,Zm,Zn,Zo,Zp,Zr,Zs,Zx,Zt,Zu,Zy,Zz,Zv,Zw,ZA,ZB,ZC,ZD]
   by_cases h2 : c.sk.ph = 0
   ·rw [if_neg (by simpa using h2)] at hK
    exact bif_neqf h2 hK
   ·rw [if_pos h2] at hK
    exact bif_neq h2 hK
 ·rw [if_pos h0] at hK
  exact bif_neq h0 (ldI_of (g.cell (i := 0) rfl rfl) hK)
theorem cyStateC (h : St H0 L H) (hk : L[k]? = some (CyP b hb c)) (hK : K (.int .i64 c.state) H) : hcall PR f_cycle_Cycle_State ⟨[.pointer (some ⟨b, 0, none⟩)]⟩ H K := by
 obtain ⟨x, g, _⟩ := cyOpened h hk
 exact cyStateP g hK
theorem cyOpenP {x : CyX} (g : St H0 (cyParts b hb c x ++ M) H) (hK : K (.bool c.isOpen) H) : hcall PR f_cycle_Cycle_open ⟨[.pointer (some ⟨b, 0, none⟩)]⟩ H K := by
 apply den_cycle_Cycle_open
 unfold B_cycle_Cycle_open
 refine cyStateP g ?_
 simp only [Za,Zb,Zc,Zd,Zf,Zh,Zi,Zk,Zl,Zm,Zn,Zo,Zp,Zr,Zs,Zx,Zt,Zu,Zy,Zz,Zv,Zw,ZA,ZB,ZC,ZD]
 unfold Cy.isOpen at hK
 by_cases h1 : c.state ≥ 1
 ·refine bif_pos h1 (cyStateP g ?_)
  simp only [Za,Zb,Zc,Zd,Zf,Zh,Zi,Zk,Zl,Zm,Zn,Zo,Zp,Zr,Zs,Zx,Zt,Zu,Zy,Zz,Zv,Zw,ZA,ZB,ZC,ZD]
  rw [decide_eq_true (show 1 ≤ c.state from h1), Bool.true_and] at hK
  exact hK
 ·refine bif_neg h1 ?_
  rw [decide_eq_false (show ¬ 1 ≤ c.state from h1), Bool.false_and] at hK
  exact hK
theorem cyMarkC {q : Int} (h : St H0 L H) (hi : L[i]? = some (HeapP hb s)) (hk : L[k]? = some (CyP b hb c)) (hik : i ≠ k) (hK : ∀ H', St H0 L H' → K (.tuple #[.int .i64 (pMark s c.p q).1, .bool (pMark s c.p q).2.1, .bool (pMark s c.p q).2.2]) H') :
  hcall PR f_cycle_Cycle_Mark ⟨[.pointer (some ⟨b, 0, none⟩), .int .u64 q]⟩ H K := by
 obtain ⟨x, g, ho⟩ := cyOpened h hk
 apply den_cycle_Cycle_Mark
 unfold B_cycle_Cycle_Mark
 simp only [Za,Zb,Zc,Zd,Zf,Zh,Zi,Zk,Zl,Zm,Zn,Zo,Zp,Zr,Zs,Zx,Zt,Zu,Zy,Zz,Zv,Zw,ZA,ZB,ZC,ZD]
 refine ldP_of (g.cell (i := 0) rfl rfl) (pMarkC g (i := i + 9) (j := 2) (set_get_ne hi hik) rfl (by omega) fun H1 g1 => ?_)
 simp only [Za,Zb,Zc,Zd,Zf,Zh,Zi,Zk,Zl,Zm,Zn,Zo,Zp,Zr,Zs,Zx,Zt,Zu,Zy,Zz,Zv,Zw,ZA,ZB,ZC,ZD]
 have h1 := cyShut (N := []) g1 hk
 have h1 : St H0 (L.set k (CyP b hb c)) H1 := h1
 rw [List.set_self hk] at h1
 exact hK H1 h1
theorem cyOutsC (h : St H0 L H) (hk : L[k]? = some (CyP b hb c)) (hl : c.p.met.length ≤ 900000) (hK : ∀ q n H', St H0 (Prt.row 3 q (outsOf c.p).length n (cel outC (outsOf c.p)) :: L) H' → K (.slice q (outsOf c.p).length n) H') :
  hcall PR f_cycle_Cycle_Outs ⟨[.pointer (some ⟨b, 0, none⟩)]⟩ H K := by
 obtain ⟨x, g, ho⟩ := cyOpened h hk
 apply den_cycle_Cycle_Outs
 unfold B_cycle_Cycle_Outs
 simp only [Za,Zb,Zc,Zd,Zf,Zh,Zi,Zk,Zl,Zm,Zn,Zo,Zp,Zr,Zs,Zx,Zt,Zu,Zy,Zz,Zv,Zw,ZA,ZB,ZC,ZD]
 refine ldP_of (g.cell (i := 0) rfl rfl) (pOutsC g (j := 2) rfl hl fun q n H1 g1 => ?_)
 simp only [Za,Zb,Zc,Zd,Zf,Zh,Zi,Zk,Zl,Zm,Zn,Zo,Zp,Zr,Zs,Zx,Zt,Zu,Zy,Zz,Zv,Zw,ZA,ZB,ZC,ZD]
 have h1 := cyShut (N := [_]) g1 hk
 have h1 : St H0 (Prt.row 3 q (outsOf c.p).length n (cel outC (outsOf c.p)) :: L.set k (CyP b hb c)) H1 := h1
 rw [List.set_self hk] at h1
 exact hK q n H1 h1
theorem cyTurnsC (h : St H0 L H) (hk : L[k]? = some (CyP b hb c)) (hK : K (.int .u64 c.p.turns) H) : hcall PR f_cycle_Cycle_Turns ⟨[.pointer (some ⟨b, 0, none⟩)]⟩ H K := by
 obtain ⟨x, g, ho⟩ := cyOpened h hk
 apply den_cycle_Cycle_Turns
 unfold B_cycle_Cycle_Turns
 simp only [Za,Zb,Zc,Zd,Zf,Zh,Zi,Zk,Zl,Zm,Zn,Zo,Zp,Zr,Zs,Zx,Zt,Zu,Zy,Zz,Zv,Zw,ZA,ZB,ZC,ZD]
 refine ldP_of (g.cell (i := 0) rfl rfl) (pTurnsC g (j := 2) rfl ?_)
 simp only [Za,Zb,Zc,Zd,Zf,Zh,Zi,Zk,Zl,Zm,Zn,Zo,Zp,Zr,Zs,Zx,Zt,Zu,Zy,Zz,Zv,Zw,ZA,ZB,ZC,ZD]
 exact hK

theorem cyStoreC {m : Int} {old now : Id} (h : St H0 L H) (hi : L[i]? = some (HeapP hb s)) (hk : L[k]? = some (CyP b hb c)) (hik : i ≠ k) (hK : ∀ H', St H0 (L.set k (CyP b hb (cyStore s c m old now))) H' → K (.tuple #[]) H') :
  hcall PR f_cycle_Cycle_Store ⟨[.pointer (some ⟨b, 0, none⟩), .int .i64 m, .agg #[.int .i64 old.n, .int .u64 old.s], .agg #[.int .i64 now.n, .int .u64 now.s]]⟩ H K := by
 have hcok := (cy_ok h hk).store (s := s) (m := m) (old := old) (now := now)
 apply den_cycle_Cycle_Store
 unfold B_cycle_Cycle_Store
 intro b7 hb7
 have h1 := h.alloc (o := .cells #[.int .i64 old.n, .int .u64 old.s] ty_api_ID) hb7
 intro b9 hb9
 have h2 := h1.alloc (o := .cells #[.int .i64 now.n, .int .u64 now.s] ty_api_ID) hb9
 obtain ⟨B2, hB2⟩ : ∃ B2, B2 = [Prt.one b9 (.cells #[.int .i64 now.n, .int .u64 now.s] ty_api_ID (0, 0)), Prt.one b7 (.cells #[.int .i64 old.n, .int .u64 old.s] ty_api_ID (0, 0))] := ⟨_, rfl⟩
 have hk2 : (Prt.one b9 (.cells #[.int .i64 now.n, .int .u64 now.s] ty_api_ID (0, 0)) :: Prt.one b7 (.cells #[.int .i64 old.n, .int .u64 old.s] ty_api_ID (0, 0)) :: L)[k + 2]? = some (CyP b hb c) := hk
 obtain ⟨x, g, ho⟩ := cyOpened h2 hk2
 have g : St H0 (cyParts b hb c x ++ (Prt.one b9 (.cells #[.int .i64 now.n, .int .u64 now.s] ty_api_ID (0, 0)) :: Prt.one b7 (.cells #[.int .i64 old.n, .int .u64 old.s] ty_api_ID (0, 0)) :: L.set k .nil)) _ := g
 have done : ∀ c' H', c'.ok → cyStore s c m old now = c' → (∃ x', St H0 (cyParts b hb c' x' ++ (Prt.one b9 (.cells #[.int .i64 now.n, .int .u64 now.s] ty_api_ID (0, 0)) :: Prt.one b7 (.cells #[.int .i64 old.n, .int .u64 old.s] ty_api_ID (0, 0)) :: L.set k .nil)) H') → K (.tuple #[]) H' := fun c' H' _ e ⟨x', g'⟩ => by
  have h3 := cyShut (N := []) (L := Prt.one b9 (.cells #[.int .i64 now.n, .int .u64 now.s] ty_api_ID (0, 0)) :: Prt.one b7 (.cells #[.int .i64 old.n, .int .u64 old.s] ty_api_ID (0, 0)) :: L) (k := k + 2) g' hk2
  have h4 : St H0 (L.set k (CyP b hb c')) H' := St.lesses (M := [_, _]) h3
  rw [← e] at h4
  exact hK H' h4
 refine cyOpenP g ?_
 simp only [Za,Zb,Zc,Zd,Zf,Zh,Zi,Zk,Zl,Zm,Zn,Zo,Zp,Zr,Zs,Zx,Zt,Zu,Zy,Zz,Zv,Zw,ZA,ZB,ZC,ZD]
 cases hop : c.isOpen
 ·simp only [Bool.not_false, Zv]
  exact done c _ ho (by unfold cyStore; rw [if_neg (by rw [hop]; simp)]) ⟨x, g⟩
 simp only [Bool.not_true, Zw]
 refine ldP_of (g.cell (i := 0) rfl rfl) (shkArmedC g (i := 1) rfl ?_)
 simp only [Za,Zb,Zc,Zd,Zf,Zh,Zi,Zk,Zl,Zm,Zn,Zo,Zp,Zr,Zs,Zx,Zt,Zu,Zy,Zz,Zv,Zw,ZA,ZB,ZC,ZD]
 cases har : isOf c.sk.ar m
 ·simp only [Bool.not_false, Zv]
  exact done c _ ho (by unfold cyStore; rw [if_neg (by rw [har]; simp)]) ⟨x, g⟩
 simp only [Bool.not_true, Zw]
 have hi' : ∀ A B C D E F' G I J K' L' : Prt, (A :: B :: C :: D :: E :: F' :: G :: I :: J :: K' :: L' :: L.set k .nil)[i + 11]? = some (HeapP hb s) := fun _ _ _ _ _ _ _ _ _ _ _ => set_get_ne hi hik
 refine ldP_of (g.cell (i := 0) rfl rfl) (ldI_of (g.cell (i := 10) rfl rfl) (ldI_of (g.cell (i := 10) rfl rfl) (pShadeC (y := old) g (i := i + 11) (j := 2) (hi' _ _ _ _ _ _ _ _ _ _ _) rfl (by omega) fun H3 g3 => ?_)))
 refine ldP_of (g3.cell (i := 0) rfl rfl) (shkScannedC g3 (i := 1) rfl ?_)
 simp only [Za,Zb,Zc,Zd,Zf,Zh,Zi,Zk,Zl,Zm,Zn,Zo,Zp,Zr,Zs,Zx,Zt,Zu,Zy,Zz,Zv,Zw,ZA,ZB,ZC,ZD]
 cases hsc : isOf c.sk.sc m
 ·simp only [Bool.not_false, Zv]
  have e : cyStore s c m old now = { c with p := pShade s (pShade s c.p old 0) now 0 } := by unfold cyStore; rw [if_pos ⟨hop, har⟩, if_neg (by rw [hsc]; decide)]
  rw [e] at hcok
  refine ldP_of (g3.cell (i := 0) rfl rfl) (ldI_of (g3.cell (i := 9) rfl rfl) (ldI_of (g3.cell (i := 9) rfl rfl) (pShadeC (y := now) g3 (i := i + 11) (j := 2) (hi' _ _ _ _ _ _ _ _ _ _ _) rfl (by omega) fun H4 g4 => ?_)))
  have g5 := g4.refact (i := 8) (q := ({ c with p := pShade s (pShade s c.p old 0) now 0 } : Cy).ok) rfl hcok
  exact done _ H4 hcok e ⟨x, g5⟩
 ·simp only [Bool.not_true, Zw]
  have e : cyStore s c m old now = { c with p := pShade s c.p old 0 } := by unfold cyStore; rw [if_pos ⟨hop, har⟩, if_pos hsc]
  rw [e] at hcok
  have g5 := g3.refact (i := 8) (q := ({ c with p := pShade s c.p old 0 } : Cy).ok) rfl hcok
  exact done _ H3 hcok e ⟨x, g5⟩
theorem cyBornC {m q : Int} (h : St H0 L H) (hi : L[i]? = some (HeapP hb s)) (hk : L[k]? = some (CyP b hb c)) (hik : i ≠ k) (hn : s.node = 1) (hK : ∀ H', St H0 (L.set k (CyP b hb (cyBorn s c m q))) H' → K (.tuple #[]) H') :
  hcall PR f_cycle_Cycle_Born ⟨[.pointer (some ⟨b, 0, none⟩), .int .i64 m, .int .u64 q]⟩ H K := by
 have hcok := (cy_ok h hk).born (s := s) (m := m) (k := q)
 obtain ⟨x, g, ho⟩ := cyOpened h hk
 apply den_cycle_Cycle_Born
 unfold B_cycle_Cycle_Born
 have done : ∀ c' H', cyBorn s c m q = c' → (∃ x', St H0 (cyParts b hb c' x' ++ L.set k .nil) H') → K (.tuple #[]) H' := fun c' H' e ⟨x', g'⟩ => by
  have h3 : St H0 (L.set k (CyP b hb c')) H' := cyShut (N := []) g' hk
  rw [← e] at h3
  exact hK H' h3
 refine cyOpenP g ?_
 simp only [Za,Zb,Zc,Zd,Zf,Zh,Zi,Zk,Zl,Zm,Zn,Zo,Zp,Zr,Zs,Zx,Zt,Zu,Zy,Zz,Zv,Zw,ZA,ZB,ZC,ZD]
 cases hop : c.isOpen
 ·simp only [Bool.not_false, Zv]
  exact done c _ (by unfold cyBorn; rw [if_neg (by rw [hop]; simp)]) ⟨x, g⟩
 simp only [Bool.not_true, Zw]
 refine ldP_of (g.cell (i := 0) rfl rfl) (shkArmedC g (i := 1) rfl ?_)
 simp only [Za,Zb,Zc,Zd,Zf,Zh,Zi,Zk,Zl,Zm,Zn,Zo,Zp,Zr,Zs,Zx,Zt,Zu,Zy,Zz,Zv,Zw,ZA,ZB,ZC,ZD]
 cases har : isOf c.sk.ar m
 ·simp only [Bool.not_false, Zv]
  exact done c _ (by unfold cyBorn; rw [if_neg (by rw [har]; simp)]) ⟨x, g⟩
 simp only [Bool.not_true, Zw]
 refine cyStateP g ?_
 simp only [Za,Zb,Zc,Zd,Zf,Zh,Zi,Zk,Zl,Zm,Zn,Zo,Zp,Zr,Zs,Zx,Zt,Zu,Zy,Zz,Zv,Zw,ZA,ZB,ZC,ZD]
 by_cases hs1 : c.state = 1
 ·have e : cyBorn s c m q = { c with p := pShade s c.p ⟨1, q⟩ 0 } := by unfold cyBorn; rw [if_pos ⟨hop, har⟩, if_pos hs1, hn]
  rw [e] at hcok
  refine bif_eq hs1 (ldP_of (g.cell (i := 0) rfl rfl) (ldI_of (g.cell (i := 0) rfl rfl) (pShadeC (y := ⟨1, q⟩) g (i := i + 9) (j := 2) (set_get_ne hi hik) rfl (by omega) fun H4 g4 => ?_)))
  have g5 := g4.refact (i := 8) (q := ({ c with p := pShade s c.p ⟨1, q⟩ 0 } : Cy).ok) rfl hcok
  exact done _ H4 e ⟨x, g5⟩
 ·have e : cyBorn s c m q = { c with p := pBlacken s c.p q } := by unfold cyBorn; rw [if_pos ⟨hop, har⟩, if_neg hs1]
  rw [e] at hcok
  refine bif_ne hs1 (ldP_of (g.cell (i := 0) rfl rfl) (pBlackenC g (i := i + 9) (j := 2) (set_get_ne hi hik) rfl (by omega) fun H4 g4 => ?_))
  have g5 := g4.refact (i := 8) (q := ({ c with p := pBlacken s c.p q } : Cy).ok) rfl hcok
  exact done _ H4 e ⟨x, g5⟩
theorem cyTouchC {y : Id} (h : St H0 L H) (hi : L[i]? = some (HeapP hb s)) (hk : L[k]? = some (CyP b hb c)) (hik : i ≠ k) (hn : s.node = 1) (hK : ∀ H', St H0 (L.set k (CyP b hb (cyTouch s c y))) H' → K (.tuple #[]) H') :
  hcall PR f_cycle_Cycle_Touch ⟨[.pointer (some ⟨b, 0, none⟩), .agg #[.int .i64 y.n, .int .u64 y.s]]⟩ H K := by
 have hcok := (cy_ok h hk).touch (s := s) (x := y)
 apply den_cycle_Cycle_Touch
 unfold B_cycle_Cycle_Touch
 intro b4 hb4
 have h1 := h.alloc (o := .cells #[.int .i64 y.n, .int .u64 y.s] ty_api_ID) hb4
 have hk1 : (Prt.one b4 (.cells #[.int .i64 y.n, .int .u64 y.s] ty_api_ID (0, 0)) :: L)[k + 1]? = some (CyP b hb c) := hk
 obtain ⟨x, g, ho⟩ := cyOpened h1 hk1
 have g : St H0 (cyParts b hb c x ++ (Prt.one b4 (.cells #[.int .i64 y.n, .int .u64 y.s] ty_api_ID (0, 0)) :: L.set k .nil)) _ := g
 have done : ∀ c' H', cyTouch s c y = c' → (∃ x', St H0 (cyParts b hb c' x' ++ (Prt.one b4 (.cells #[.int .i64 y.n, .int .u64 y.s] ty_api_ID (0, 0)) :: L.set k .nil)) H') → K (.tuple #[]) H' := fun c' H' e ⟨x', g'⟩ => by
  have h3 := cyShut (N := []) (L := Prt.one b4 (.cells #[.int .i64 y.n, .int .u64 y.s] ty_api_ID (0, 0)) :: L) (k := k + 1) g' hk1
  have h4 : St H0 (L.set k (CyP b hb c')) H' := St.less h3
  rw [← e] at h4
  exact hK H' h4
 have shade : (c.isOpen = true ∨ (c.state = 5 ∧ y.n ≠ s.node)) → ∀ H', St H0 (cyParts b hb c x ++ (Prt.one b4 (.cells #[.int .i64 y.n, .int .u64 y.s] ty_api_ID (0, 0)) :: L.set k .nil)) H' → hcall PR f_paint_Paint_Shade ⟨[.pointer (some ⟨x.pb, 0, none⟩), .agg #[.int .i64 y.n, .int .u64 y.s], .int .i64 0]⟩ H' fun _ H'' => K (.tuple #[]) H'' := fun hc H' g' => by
  have e : cyTouch s c y = { c with p := pShade s c.p y 0 } := by unfold cyTouch; rw [if_pos hc]
  rw [e] at hcok
  refine pShadeC (y := y) g' (i := i + 10) (j := 2) (by show (L.set k .nil)[i]? = _; exact set_get_ne hi hik) rfl (by omega) fun H4 g4 => ?_
  have g5 := g4.refact (i := 8) (q := ({ c with p := pShade s c.p y 0 } : Cy).ok) rfl hcok
  exact done _ H4 e ⟨x, g5⟩
 refine cyOpenP g ?_
 simp only [Za,Zb,Zc,Zd,Zf,Zh,Zi,Zk,Zl,Zm,Zn,Zo,Zp,Zr,Zs,Zx,Zt,Zu,Zy,Zz,Zv,Zw,ZA,ZB,ZC,ZD]
 cases hop : c.isOpen
 ·simp only [Zw]
  refine cyStateP g ?_
  simp only [Za,Zb,Zc,Zd,Zf,Zh,Zi,Zk,Zl,Zm,Zn,Zo,Zp,Zr,Zs,Zx,Zt,Zu,Zy,Zz,Zv,Zw,ZA,ZB,ZC,ZD]
  by_cases h5 : c.state = 5
  ·refine bif_eq h5 (ldI_of (g.cell (i := 9) rfl rfl) (ldI_of (g.cell (i := 0) rfl rfl) ?_))
   by_cases hy : y.n = 1
   ·refine bif_neqf hy (done c _ ?_ ⟨x, g⟩)
    unfold cyTouch
    rw [if_neg (fun hh => hh.elim (fun hh => by rw [hop] at hh; cases hh) fun hh => hh.2 (by rw [hy, hn]))]
   ·refine bif_neq hy (ldP_of (g.cell (i := 0) rfl rfl) (ldI_of (g.cell (i := 9) rfl rfl) (ldI_of (g.cell (i := 9) rfl rfl) ?_)))
    exact shade (.inr ⟨h5, by rw [hn]; exact hy⟩) _ g
  ·refine bif_ne h5 (done c _ ?_ ⟨x, g⟩)
   unfold cyTouch
   rw [if_neg (fun hh => hh.elim (fun hh => by rw [hop] at hh; cases hh) fun hh => h5 hh.1)]
 ·simp only [Zv]
  refine ldP_of (g.cell (i := 0) rfl rfl) (ldI_of (g.cell (i := 9) rfl rfl) (ldI_of (g.cell (i := 9) rfl rfl) ?_))
  exact shade (.inl hop) _ g
theorem cyShakeC {m : Int} {hp : Option Addr} {hc : Nat} {held : List Id} (h : St H0 L H) (hi : L[i]? = some (HeapP hb s)) (hk : L[k]? = some (CyP b hb c)) (hik : i ≠ k) (hheld : ∀ N H', St H0 (N ++ L.set k .nil) H' → Rd H' 2 hp held.length (cel Id.cells held)) (hl : held.length ≤ 1000000)
  (hK : ∀ H', St H0 (L.set k (CyP b hb (cyShake s c m held).2)) H' → K (.bool (cyShake s c m held).1) H') : hcall PR f_cycle_Cycle_Shake ⟨[.pointer (some ⟨b, 0, none⟩), .int .i64 m, .slice hp held.length hc]⟩ H K := by
 have hco := cy_ok h hk
 have hcok := hco.shake (s := s) (m := m) (held := held)
 obtain ⟨x, g, ho⟩ := cyOpened h hk
 apply den_cycle_Cycle_Shake
 unfold B_cycle_Cycle_Shake
 simp only [Za,Zb,Zc,Zd,Zf,Zh,Zi,Zk,Zl,Zm,Zn,Zo,Zp,Zr,Zs,Zx,Zt,Zu,Zy,Zz,Zv,Zw,ZA,ZB,ZC,ZD]
 refine ldP_of (g.cell (i := 0) rfl rfl) (shkAnswerC g (i := 1) rfl hco.len (by have := hco.size; omega) fun H1 g1 => ?_)
 simp only [Za,Zb,Zc,Zd,Zf,Zh,Zi,Zk,Zl,Zm,Zn,Zo,Zp,Zr,Zs,Zx,Zt,Zu,Zy,Zz,Zv,Zw,ZA,ZB,ZC,ZD]
 intro R11 hR11
 have hR11 : ∀ c' v H', cyShake s c m held = (v, c') → decide ((c.sk.ans m).2 ≠ 0) = v → (∃ x', St H0 (cyParts b hb c' x' ++ L.set k .nil) H') → R11 H' := fun c' v H' e ev ⟨x', g'⟩ => by
  refine hR11 H' ?_
  have h3 : St H0 (L.set k (CyP b hb c')) H' := cyShut (N := []) g' hk
  have := hK H'
  rw [e] at this
  have := this h3
  simp only at this
  rw [← ev] at this
  rw [show ((c.sk.ans m).2 != 0) = decide ((c.sk.ans m).2 ≠ 0) by rw [bne]; cases hh : ((c.sk.ans m).2 == 0) <;> simp_all]
  exact this
 by_cases h2 : (c.sk.ans m).2 = 2
 rotate_left
 ·refine bif_ne h2 ?_
  have e : cyShake s c m held = (decide ((c.sk.ans m).2 ≠ 0), { c with sk := (c.sk.ans m).1 }) := by unfold cyShake; rw [if_neg h2]
  rw [e] at hcok
  have g2 := g1.refact (i := 8) (q := ({ c with sk := (c.sk.ans m).1 } : Cy).ok) rfl hcok
  exact hR11 _ _ H1 e rfl ⟨x, g2⟩
 refine bif_eq h2 ?_
 have e : cyShake s c m held = (true, { c with sk := (c.sk.ans m).1, p := pShades s c.p held 0 }) := by unfold cyShake; rw [if_pos h2]
 rw [e] at hcok
 refine ⟨fun t H' => ∃ y : Nat, t = y ∧ y ≤ held.length ∧ St H0 (cyParts b hb { c with p := pShades s c.p (held.take y) 0 } x |>.set 1 (Shk x.kb (c.sk.ans m).1) |>.set 8 (Prt.pure c.ok) |> (· ++ L.set k .nil)) H', fun t _ => ((held.length : Int) - t).toNat, ⟨0, rfl, by omega, by rw [List.take_zero]; exact g1⟩, ?_⟩
 clear g1 g
 rintro t H2 ⟨y, rfl, hy, g2⟩
 have g2 : St H0 (Prt.one b (.cells (cyCells hb c x) x.T (0, 0)) :: Shk x.kb (c.sk.ans m).1 :: PaintP x.pb hb (pShades s c.p (held.take y) 0) :: MkP x.mb hb x.pb c.m :: RcP x.rb hb x.pb c.r :: SwP x.ST x.sb hb x.pb c.pl c.e :: RowsP x.tp x.tc c.told.rows :: Prt.row 3 x.op c.told.outs.length x.oc (cel outC c.told.outs) :: Prt.pure c.ok :: L.set k .nil) H2 := g2
 by_cases hcy : (y : Int) < ((held.length : Nat) : Int)
 rotate_left
 ·obtain rfl : y = held.length := by omega
  rw [List.take_length] at g2
  refine bif_neg hcy ?_
  have g3 := g2.refact (i := 8) (q := ({ c with sk := (c.sk.ans m).1, p := pShades s c.p held 0 } : Cy).ok) rfl hcok
  exact hR11 _ _ H2 e (by rw [h2]; decide) ⟨x, g3⟩
 refine bif_pos hcy ?_
 have hrd := hheld [_, _, _, _, _, _, _, _, _] H2 g2
 refine idxS Id.len noId hrd (by omega) (by omega) hcy fun b1 o1 _ hl1 hcc => ?_
 have c0 := hcc 0 (by omega)
 have c1 := hcc 1 (by omega)
 simp only [Za,Zb,Zc,Zd,Zf,Zh,Zi,Zk,Zl,Zm,Zn,Zo,Zp,Zr,Zs,Zx,Zt,Zu,Zy,Zz,Zv,Zw,ZA,ZB,ZC,ZD]
 rw [Int.toNat_natCast] at c0 c1
 refine ldI_of c0 (ldI_of c1 (box2 g2 fun b20 H3 g3 => ?_))
 refine ldP_of (g3.cell (i := 1) rfl rfl) (ldI_of (g3.cell (i := 0) rfl rfl) (ldI_of (g3.cell (i := 0) rfl rfl) ?_))
 refine pShadeC (y := held.getD y noId) g3 (i := i + 10) (j := 3) (by show (L.set k .nil)[i]? = _; exact set_get_ne hi hik) rfl (by omega) fun H4 g4 => ?_
 rw [wrap_i64 (by omega) (by omega)]
 refine ⟨⟨y + 1, by omega, by omega, ?_⟩, by (try dsimp only); omega⟩
 rw [pShades_take (by omega)]
 exact g4.less
end
end Go.Proofs.YtflfodcemnapeaaGreat

namespace Go.Proofs.YtflfodcemnapeaaGreat
set_option linter.unusedSimpArgs false
set_option linter.unusedVariables false
open Go
/-- How much a collector may hold. -/
structure Cy.lt (c : Cy) (n : Nat) : Prop where
 p : c.p.lt n
 r : c.r.lt n
 rows : c.told.rows.length ≤ n
 rlen : ∀ r ∈ c.told.rows, r.2.length ≤ n
 outs : c.told.outs.length ≤ n

section
variable {s s1 : Hs} {c c1 : Cy} {stir f : Int} {n m : Nat} {v : Bool} {fr : List Int}
theorem cyMk_lt {p : Ps} {m : Mk} (ho : s.ok) (h : p.lt n) : (mkStep s p m).2.1.lt (n + 7) := by
 unfold mkStep
 split
 ·exact h.pop.scan ho
 ·split
  ·exact h.scan ho
  ·split
   ·exact h.rest.mono (by omega)
   ·split
    ·exact h.mono (by omega)
    ·simp only
     unfold mkSee
     split
     ·split
      ·exact h.shade.mono (by omega)
      ·exact h.mono (by omega)
     ·exact h.mono (by omega)
theorem Cy.lt.mono (h : c.lt n) (hm : n ≤ m) : c.lt m := ⟨h.p.mono hm, h.r.mono hm, by have := h.rows; omega, fun r hr => by have := h.rlen r hr; omega, by have := h.outs; omega⟩
theorem Cy.lt.marks (ho : s.ok) (h : c.lt n) : (cyMarks s c stir).lt (n + 7) := by
 have h1 := cyMk_lt (m := c.m) ho h.p
 have h2 := h.mono (m := n + 7) (by omega)
 unfold cyMarks
 split
 ·exact ⟨h1, h2.r, h2.rows, h2.rlen, h2.outs⟩
 ·exact ⟨h1, ⟨fun w hw => by (cases hw), Nat.zero_le _, fun r hr => by (cases hr)⟩, h2.rows, h2.rlen, h2.outs⟩
theorem Cy.lt.reaches (ho : s.ok) (hc : c.ok) (h : c.lt n) : (cyReaches s c).lt (n + 7) := by
 have h1 := cyMk_lt (m := c.m) ho h.p
 have h2 := h.mono (m := n + 7) (by omega)
 have h3 := h.r.step (p := (mkStep s c.p c.m).2.1) ho
 unfold cyReaches
 split
 ·exact ⟨h1, h2.r, h2.rows, h2.rlen, h2.outs⟩
 ·split
  ·exact ⟨h1, h3, h2.rows, h2.rlen, h2.outs⟩
  ·refine ⟨h1, h3, h3.rows, h3.outs, ?_⟩
   have h4 := (outsOf_ok (mkStep_ok ho hc.p hc.m).1).2.length_eq
   have h5 := List.length_filter_le (fun e : Id × Int => decide (c.sus < e.2)) (outsOf (mkStep s c.p c.m).2.1)
   have h6 := h1.2
   simp only
   omega
theorem cySw_lt {p : Ps} {pl e : Int} (h : p.lt n) : (swStep s p pl e).2.2.1.lt n := by
 unfold swStep
 split
 ·exact h
 ·split
  ·exact h
  ·exact h.forget
theorem unit0 (h : c.state = 0) : cyUnit s c stir = ⟨some false, 0, s, { c with p := pTurn c.p, sk := c.sk.begun }⟩ := by unfold cyUnit; rw [if_pos h]
theorem unit12 (h : c.state = 1 ∨ c.state = 2) (h3 : c.sk.ph ≠ 3) : cyUnit s c stir = ⟨some false, 0, s, c⟩ := by unfold cyUnit; rw [if_neg (by omega), if_pos h, if_pos h3]
theorem unit23 (h : c.state = 1 ∨ c.state = 2) (h3 : c.sk.ph = 3) : cyUnit s c stir = ⟨none, 0, s, cyMarks s { c with st := 3, m := ⟨0, false, 0⟩ } stir⟩ := by unfold cyUnit; rw [if_neg (by omega), if_pos h, if_neg (by omega)]
theorem unit3 (h : c.state = 3) : cyUnit s c stir = ⟨none, 0, s, cyMarks s c stir⟩ := by unfold cyUnit; rw [if_neg (by omega), if_neg (by omega), if_pos h]
theorem unit4 (h : c.state = 4) : cyUnit s c stir = ⟨none, 0, s, cyReaches s c⟩ := by unfold cyUnit; rw [if_neg (by omega), if_neg (by omega), if_neg (by omega), if_pos h]
theorem unit5 (h : c.state = 5) (hs : (swStep s c.p c.pl c.e).1.2 = false) : cyUnit s c stir = ⟨some true, 0, (swStep s c.p c.pl c.e).2.1, { c with p := (swStep s c.p c.pl c.e).2.2.1, pl := (swStep s c.p c.pl c.e).2.2.2, sk := c.sk.ended, st := 0 }⟩ := by
 unfold cyUnit; rw [if_neg (by omega), if_neg (by omega), if_neg (by omega), if_neg (by omega), if_pos h, if_pos hs]
theorem unit6 (h : c.state = 5) (hs : (swStep s c.p c.pl c.e).1.2 = true) : cyUnit s c stir = ⟨none, (swStep s c.p c.pl c.e).1.1, (swStep s c.p c.pl c.e).2.1, { c with p := (swStep s c.p c.pl c.e).2.2.1, pl := (swStep s c.p c.pl c.e).2.2.2 }⟩ := by
 unfold cyUnit; rw [if_neg (by omega), if_neg (by omega), if_neg (by omega), if_neg (by omega), if_pos h, if_neg (by rw [hs]; decide)]
theorem steps_stop (h : cyUnit s c stir = ⟨some v, f, s1, c1⟩) : cySteps stir (n + 1) s c fr = ((fr, v), s1, c1) := by unfold cySteps; rw [h]
theorem steps_go (h : cyUnit s c stir = ⟨none, f, s1, c1⟩) : cySteps stir (n + 1) s c fr = cySteps stir n s1 c1 (if f ≠ 0 then fr ++ [f] else fr) := by
 conv => lhs; unfold cySteps
 rw [h]
theorem marks_work : (cyMarks s c stir).work = c.work ∧ (cyMarks s c stir).sus = c.sus := by unfold cyMarks; split <;> exact ⟨rfl, rfl⟩
theorem reaches_work : (cyReaches s c).work = c.work ∧ (cyReaches s c).sus = c.sus := by
 unfold cyReaches
 split
 ·exact ⟨rfl, rfl⟩
 ·split <;> exact ⟨rfl, rfl⟩
theorem Cy.ok.sixth (hc : c.ok) : c.state = 0 ∨ ((c.state = 1 ∨ c.state = 2) ∧ c.sk.ph ≠ 3) ∨ ((c.state = 1 ∨ c.state = 2) ∧ c.sk.ph = 3) ∨ (c.state = 3 ∧ c.st = 3 ∧ c.sk.ph = 3) ∨ (c.state = 4 ∧ c.st = 4 ∧ c.sk.ph = 3) ∨ c.state = 5 := by
 have := hc.state
 omega
theorem unit_work (hc : c.ok) : (cyUnit s c stir).c.work = c.work ∧ (cyUnit s c stir).c.sus = c.sus := by
 rcases hc.sixth with h | ⟨h, h3⟩ | ⟨h, h3⟩ | ⟨h, _⟩ | ⟨h, _⟩ | h
 ·rw [unit0 h]; exact ⟨rfl, rfl⟩
 ·rw [unit12 h h3]; exact ⟨rfl, rfl⟩
 ·rw [unit23 h h3]; exact marks_work (c := { c with st := 3, m := ⟨0, false, 0⟩ })
 ·rw [unit3 h]; exact marks_work
 ·rw [unit4 h]; exact reaches_work
 ·cases hs : (swStep s c.p c.pl c.e).1.2
  ·rw [unit5 h hs]; exact ⟨rfl, rfl⟩
  ·rw [unit6 h hs]; exact ⟨rfl, rfl⟩
theorem Cy.lt.unit (ho : s.ok) (hc : c.ok) (h : c.lt n) : (cyUnit s c stir).c.lt (n + 7) := by
 have h2 := h.mono (m := n + 7) (by omega)
 rcases hc.sixth with e | ⟨e, h3⟩ | ⟨e, h3⟩ | ⟨e, _⟩ | ⟨e, _⟩ | e
 ·rw [unit0 e]; exact ⟨h2.p.turn, h2.r, h2.rows, h2.rlen, h2.outs⟩
 ·rw [unit12 e h3]; exact h2
 ·rw [unit23 e h3]; exact Cy.lt.marks (c := { c with st := 3, m := ⟨0, false, 0⟩ }) ho ⟨h.p, h.r, h.rows, h.rlen, h.outs⟩
 ·rw [unit3 e]; exact h.marks ho
 ·rw [unit4 e]; exact h.reaches ho hc
 ·cases hs : (swStep s c.p c.pl c.e).1.2
  ·rw [unit5 e hs]; exact ⟨cySw_lt h2.p, h2.r, h2.rows, h2.rlen, h2.outs⟩
  ·rw [unit6 e hs]; exact ⟨cySw_lt h2.p, h2.r, h2.rows, h2.rlen, h2.outs⟩
theorem Cy.lt.steps : ∀ {m : Nat} {s : Hs} {c : Cy} {fr : List Int} {n : Nat}, s.ok → c.ok → c.lt n → (cySteps stir m s c fr).2.2.lt (n + 7 * m)
 | 0, s, c, fr, n, _, _, h => h.mono (by omega)
 | m + 1, s, c, fr, n, ho, hc, h => by
  have h1 := hc.unit (stir := stir) ho
  have h2 := h.unit (stir := stir) ho hc
  unfold cySteps
  split
  ·exact h2.mono (by omega)
  ·exact (Cy.lt.steps h1.1 h1.2 h2).mono (by omega)
theorem newCy_lt {a g u w l : Int} : (newCy a g u w l).lt n := ⟨newPs_lt, ⟨fun w hw => by (cases hw), Nat.zero_le _, fun r hr => by (cases hr)⟩, Nat.zero_le _, fun r hr => by (cases hr), Nat.zero_le _⟩
theorem Cy.lt.paint {p : Ps} (h : c.lt n) (hp : p.lt n) : ({ c with p := p } : Cy).lt n := ⟨hp, h.r, h.rows, h.rlen, h.outs⟩
theorem Cy.lt.store {m : Int} {old now : Id} (h : c.lt n) : (cyStore s c m old now).lt (n + 2) := by
 have h2 := h.mono (m := n + 2) (by omega)
 unfold cyStore
 split
 ·refine h2.paint ?_
  split
  ·exact h.p.shade.mono (by omega)
  ·exact h.p.shade.shade
 ·exact h2
theorem Cy.lt.born {m k : Int} (h : c.lt n) : (cyBorn s c m k).lt (n + 1) := by
 have h2 := h.mono (m := n + 1) (by omega)
 unfold cyBorn
 split
 ·refine h2.paint ?_
  split
  ·exact h.p.shade
  ·exact h.p.blacken
 ·exact h2
theorem Cy.lt.touch {x : Id} (h : c.lt n) : (cyTouch s c x).lt (n + 1) := by
 unfold cyTouch
 split
 ·exact (h.mono (by omega)).paint h.p.shade
 ·exact h.mono (by omega)
theorem Cy.lt.shake {m : Int} {held : List Id} (h : c.lt n) : (cyShake s c m held).2.lt (n + held.length) := by
 have h2 := h.mono (m := n + held.length) (by omega)
 unfold cyShake
 split
 ·exact ⟨h.p.shades, h2.r, h2.rows, h2.rlen, h2.outs⟩
 ·exact ⟨h2.p, h2.r, h2.rows, h2.rlen, h2.outs⟩
end
end Go.Proofs.YtflfodcemnapeaaGreat

namespace Go.Proofs.YtflfodcemnapeaaGreat
set_option linter.unusedSimpArgs false
set_option linter.unusedVariables false
open Go
section
variable {H0 H : Hp} {L M N : List Prt} {i j k b hb : Nat} {s : Hs} {c : Cy} {x : CyX} {stir : Int} {K : Value → Hp → Prop}
theorem cyMarksP (g : St H0 (cyParts b hb c x ++ M) H) (hi : M[i]? = some (HeapP hb s)) (hs : s.ok) (hcok : c.ok) (hst : c.st = 3 ∧ c.sk.ph = 3) (hK : ∀ H', St H0 (cyParts b hb (cyMarks s c stir) x ++ M) H' → K (.tuple #[]) H') :
  hcall PR f_cycle_Cycle_marks ⟨[.pointer (some ⟨b, 0, none⟩), .int .u64 stir]⟩ H K := by
 have hcok' := hcok.marks (stir := stir) hs hst
 apply den_cycle_Cycle_marks
 unfold B_cycle_Cycle_marks
 simp only [Za,Zb,Zc,Zd,Zf,Zh,Zi,Zk,Zl,Zm,Zn,Zo,Zp,Zr,Zs,Zx,Zt,Zu,Zy,Zz,Zv,Zw,ZA,ZB,ZC,ZD]
 refine ldP_of (g.cell (i := 0) rfl rfl) (mkStepC g (i := i + 9) (j := 2) (k := 3) hi rfl rfl (by omega) (by omega) (by omega) fun H1 g1 => ?_)
 simp only [Za,Zb,Zc,Zd,Zf,Zh,Zi,Zk,Zl,Zm,Zn,Zo,Zp,Zr,Zs,Zx,Zt,Zu,Zy,Zz,Zv,Zw,ZA,ZB,ZC,ZD]
 have g1 : St H0 (Prt.one b (.cells (cyCells hb c x) x.T (0, 0)) :: Shk x.kb c.sk :: PaintP x.pb hb (mkStep s c.p c.m).2.1 :: MkP x.mb hb x.pb (mkStep s c.p c.m).2.2 :: RcP x.rb hb x.pb c.r :: SwP x.ST x.sb hb x.pb c.pl c.e :: RowsP x.tp x.tc c.told.rows :: Prt.row 3 x.op c.told.outs.length x.oc (cel outC c.told.outs) :: Prt.pure c.ok :: M) H1 := g1
 cases hm : (mkStep s c.p c.m).1
 ·have e : cyMarks s c stir = { c with p := (mkStep s c.p c.m).2.1, m := (mkStep s c.p c.m).2.2, stir := stir, r := rcNew c.sus, st := 4 } := by unfold cyMarks; rw [if_neg (by rw [hm]; decide)]
  rw [e] at hK hcok'
  simp only [Zw]
  refine g1.put (i := 0) rfl (by simp [cyCells]) fun H2 g2 => ?_
  refine ldP_of (g2.cell (i := 0) rfl rfl) (ldI_of (g2.cell (i := 0) rfl rfl) ?_)
  refine rcBeginC g2 (k := 4) rfl fun H3 g3 => ?_
  refine g3.put (i := 0) rfl (by simp [cyCells]) fun H4 g4 => ?_
  have g5 := g4.refact (i := 8) rfl hcok'
  exact hK H4 g5
 ·have e : cyMarks s c stir = { c with p := (mkStep s c.p c.m).2.1, m := (mkStep s c.p c.m).2.2 } := by unfold cyMarks; rw [if_pos hm]
  rw [e] at hK hcok'
  simp only [Zv]
  have g2 := g1.refact (i := 8) rfl hcok'
  exact hK H1 g2

def outPick (u : Int) (l : List (Id × Int)) : List (Id × Int) := l.filter fun e => decide (u < e.2)
theorem outPick_take {u : Int} {l : List (Id × Int)} {y : Nat} (hy : y < l.length) : outPick u (l.take (y + 1)) = outPick u (l.take y) ++ if u < (l.getD y (noId, 0)).2 then [l.getD y (noId, 0)] else [] := by
 have e : l[y]? = some (l.getD y (noId, 0)) := by rw [List.getD_eq_getElem?_getD, List.getElem?_eq_getElem hy]; rfl
 unfold outPick
 rw [List.take_add_one, e, Option.toList_some, List.filter_append]
 congr 1
 by_cases h : u < (l.getD y (noId, 0)).2
 ·rw [if_pos h, List.filter_cons_of_pos (by simpa using h)]; rfl
 ·rw [if_neg h, List.filter_cons_of_neg (by simpa using h)]; rfl
theorem cyReachesP {n : Nat} (g : St H0 (cyParts b hb c x ++ M) H) (hi : M[i]? = some (HeapP hb s)) (hs : s.ok) (hcok : c.ok) (hst : c.st = 4 ∧ c.sk.ph = 3) (hlt : c.lt n) (hn : n ≤ 700000) (hK : ∀ x' H', St H0 (cyParts b hb (cyReaches s c) x' ++ M) H' → K (.tuple #[]) H') :
  hcall PR f_cycle_Cycle_reaches ⟨[.pointer (some ⟨b, 0, none⟩)]⟩ H K := by
 have hcok' := hcok.reaches hs hst
 have hlt' := hlt.reaches hs hcok
 have hmk := cyMk_lt (m := c.m) hs hlt.p
 have hrl := hlt.r.step (p := (mkStep s c.p c.m).2.1) hs
 apply den_cycle_Cycle_reaches
 unfold B_cycle_Cycle_reaches
 simp only [Za,Zb,Zc,Zd,Zf,Zh,Zi,Zk,Zl,Zm,Zn,Zo,Zp,Zr,Zs,Zx,Zt,Zu,Zy,Zz,Zv,Zw,ZA,ZB,ZC,ZD]
 refine ldP_of (g.cell (i := 0) rfl rfl) (mkStepC g (i := i + 9) (j := 2) (k := 3) hi rfl rfl (by omega) (by omega) (by omega) fun H1 g1 => ?_)
 simp only [Za,Zb,Zc,Zd,Zf,Zh,Zi,Zk,Zl,Zm,Zn,Zo,Zp,Zr,Zs,Zx,Zt,Zu,Zy,Zz,Zv,Zw,ZA,ZB,ZC,ZD]
 have g1 : St H0 (Prt.one b (.cells (cyCells hb c x) x.T (0, 0)) :: Shk x.kb c.sk :: PaintP x.pb hb (mkStep s c.p c.m).2.1 :: MkP x.mb hb x.pb (mkStep s c.p c.m).2.2 :: RcP x.rb hb x.pb c.r :: SwP x.ST x.sb hb x.pb c.pl c.e :: RowsP x.tp x.tc c.told.rows :: Prt.row 3 x.op c.told.outs.length x.oc (cel outC c.told.outs) :: Prt.pure c.ok :: M) H1 := g1
 cases hm : (mkStep s c.p c.m).1
 rotate_left
 ·have e : cyReaches s c = { c with p := (mkStep s c.p c.m).2.1, m := (mkStep s c.p c.m).2.2 } := by unfold cyReaches; rw [if_pos hm]
  rw [e] at hK hcok'
  simp only [Zv]
  have g2 := g1.refact (i := 8) rfl hcok'
  exact hK x H1 g2
 simp only [Zw]
 refine ldP_of (g1.cell (i := 0) rfl rfl) (rcStepC g1 (i := i + 9) (j := 2) (k := 4) hi rfl rfl (by omega) (by omega) (by omega) (hlt.r.mono (by omega)) fun H2 g2 => ?_)
 simp only [Za,Zb,Zc,Zd,Zf,Zh,Zi,Zk,Zl,Zm,Zn,Zo,Zp,Zr,Zs,Zx,Zt,Zu,Zy,Zz,Zv,Zw,ZA,ZB,ZC,ZD]
 have g2 : St H0 (Prt.one b (.cells (cyCells hb c x) x.T (0, 0)) :: Shk x.kb c.sk :: PaintP x.pb hb (mkStep s c.p c.m).2.1 :: MkP x.mb hb x.pb (mkStep s c.p c.m).2.2 :: RcP x.rb hb x.pb (rcStep s (mkStep s c.p c.m).2.1 c.r).2 :: SwP x.ST x.sb hb x.pb c.pl c.e :: RowsP x.tp x.tc c.told.rows :: Prt.row 3 x.op c.told.outs.length x.oc (cel outC c.told.outs) :: Prt.pure c.ok :: M) H2 := g2
 cases hr : (rcStep s (mkStep s c.p c.m).2.1 c.r).1
 rotate_left
 ·have e : cyReaches s c = { c with p := (mkStep s c.p c.m).2.1, m := (mkStep s c.p c.m).2.2, r := (rcStep s (mkStep s c.p c.m).2.1 c.r).2 } := by unfold cyReaches; rw [if_neg (by rw [hm]; decide), if_pos hr]
  rw [e] at hK hcok'
  simp only [Zv]
  have g3 := g2.refact (i := 8) rfl hcok'
  exact hK x H2 g3
 simp only [Zw]
 obtain ⟨p1, hp1⟩ : ∃ p1, p1 = (mkStep s c.p c.m).2.1 := ⟨_, rfl⟩
 obtain ⟨m1, hm1⟩ : ∃ m1, m1 = (mkStep s c.p c.m).2.2 := ⟨_, rfl⟩
 obtain ⟨r1, hr1⟩ : ∃ r1, r1 = (rcStep s p1 c.r).2 := ⟨_, rfl⟩
 have e : cyReaches s c = { c with p := p1, m := m1, r := r1, told := ⟨c.stir, r1.rows, outPick c.sus (outsOf p1), true⟩, pl := 0, e := s.last, fin := s.last, st := 5 } := by
  unfold cyReaches
  rw [if_neg (by rw [hm]; decide), if_neg (by rw [hr]; decide), hr1, hp1, hm1]
  rfl
 rw [e] at hK hcok'
 rw [← hp1] at g2 hmk hrl
 rw [← hr1] at g2 hrl
 rw [← hm1] at g2
 clear hr hm g1 g e
 refine ldI_of (g2.cell (i := 0) rfl rfl) (ldP_of (g2.cell (i := 0) rfl rfl) (rcRowsC g2 (k := 4) rfl (hrl.mono (by omega)) fun q1 n1 H3 g3 => ?_))
 simp only [Za,Zb,Zc,Zd,Zf,Zh,Zi,Zk,Zl,Zm,Zn,Zo,Zp,Zr,Zs,Zx,Zt,Zu,Zy,Zz,Zv,Zw,ZA,ZB,ZC,ZD]
 refine ⟨ldI_of (g3.cell (i := 1) rfl rfl) rfl, ?_⟩
 refine g3.put (i := 1) rfl (by simp [cyCells]) fun H4 g4 => g4.put (i := 1) rfl (by simp [cyCells]) fun H5 g5 => g5.put (i := 1) rfl (by simp [cyCells]) fun H6 g6 => g6.put (i := 1) rfl (by simp [cyCells]) fun H7 g7 => ?_
 have g8 := St.over (i := 6) g7 rfl
 have g9 := St.over (i := 7) (g8.row (H' := _) (Own.nil 3) ((Goes.refl Nothing _).less fun c hc => absurd hc blk_none)) rfl
 refine ldP_of (g9.cell (i := 0) rfl rfl) (pOutsC g9 (j := 2) rfl (by have := hmk.2; omega) fun q2 n2 H8 g10 => ?_)
 simp only [Za,Zb,Zc,Zd,Zf,Zh,Zi,Zk,Zl,Zm,Zn,Zo,Zp,Zr,Zs,Zx,Zt,Zu,Zy,Zz,Zv,Zw,ZA,ZB,ZC,ZD]
 have hol : (outsOf p1).length ≤ 800000 := by
  have h4 := (outsOf_ok (p := p1) hcok'.p).2.length_eq
  have h6 := hmk.2
  omega
 clear g3 g4 g5 g6 g7 g8 g9 g2
 refine ⟨fun t H' => ∃ (y : Nat) (op : Option Addr) (oc : Nat), t = y ∧ y ≤ (outsOf p1).length ∧
   St H0 (Prt.row 3 q2 (outsOf p1).length n2 (cel outC (outsOf p1)) :: Prt.one b (.cells (cyCells hb { c with told := ⟨c.stir, r1.rows, outPick c.sus ((outsOf p1).take y), true⟩ } { x with tp := q1, tc := n1, op := op, oc := oc }) x.T (0, 0)) :: Shk x.kb c.sk :: PaintP x.pb hb p1 :: MkP x.mb hb x.pb m1 :: RcP x.rb hb x.pb r1 :: SwP x.ST x.sb hb x.pb c.pl c.e :: RowsP q1 n1 r1.rows :: Prt.row 3 op (outPick c.sus ((outsOf p1).take y)).length oc (cel outC (outPick c.sus ((outsOf p1).take y))) :: Prt.pure c.ok :: M) H',
  fun t _ => (((outsOf p1).length : Int) - t).toNat, ⟨0, none, 0, rfl, by omega, ?_⟩, ?_⟩
 ·rw [List.take_zero]
  exact g10
 clear g10
 rintro t H9 ⟨y, op, oc, rfl, hy, h1⟩
 have hfl := List.length_filter_le (fun e : Id × Int => decide (c.sus < e.2)) ((outsOf p1).take y)
 rw [List.length_take] at hfl
 have hfl : (outPick c.sus ((outsOf p1).take y)).length ≤ 800000 := by unfold outPick; omega
 by_cases hcy : (y : Int) < (((outsOf p1).length : Nat) : Int)
 rotate_left
 ·obtain rfl : y = (outsOf p1).length := by omega
  rw [List.take_length] at h1
  refine bif_neg hcy ?_
  refine ldP_of (h1.cell (i := 1) rfl rfl) (swBeginC h1 (i := i + 10) (k := 6) hi rfl fun H10 h2 => ?_)
  refine ldP_of (h2.cell (i := 1) rfl rfl) (hLast h2 (i := i + 10) hi ?_)
  simp only [Za,Zb,Zc,Zd,Zf,Zh,Zi,Zk,Zl,Zm,Zn,Zo,Zp,Zr,Zs,Zx,Zt,Zu,Zy,Zz,Zv,Zw,ZA,ZB,ZC,ZD]
  refine h2.put (i := 1) rfl (by simp [cyCells]) fun H11 h3 => h3.put (i := 1) rfl (by simp [cyCells]) fun H12 h4 => ?_
  have h5 := (St.less h4).refact (i := 8) rfl hcok'
  exact hK { x with tp := q1, tc := n1, op := op, oc := oc } H12 h5
 refine bif_pos hcy ?_
 have hyl : y < (outsOf p1).length := by omega
 have htk := outPick_take (u := c.sus) hyl
 intro R38 hR38
 have next : ∀ op' oc' H', St H0 (Prt.row 3 q2 (outsOf p1).length n2 (cel outC (outsOf p1)) :: Prt.one b (.cells (cyCells hb { c with told := ⟨c.stir, r1.rows, outPick c.sus ((outsOf p1).take (y + 1)), true⟩ } { x with tp := q1, tc := n1, op := op', oc := oc' }) x.T (0, 0)) :: Shk x.kb c.sk :: PaintP x.pb hb p1 :: MkP x.mb hb x.pb m1 :: RcP x.rb hb x.pb r1 :: SwP x.ST x.sb hb x.pb c.pl c.e :: RowsP q1 n1 r1.rows :: Prt.row 3 op' (outPick c.sus ((outsOf p1).take (y + 1))).length oc' (cel outC (outPick c.sus ((outsOf p1).take (y + 1)))) :: Prt.pure c.ok :: M) H' → R38 H' := fun op' oc' H' h' => by
  refine hR38 H' ?_
  rw [wrap_i64 (by omega) (by omega)]
  exact ⟨⟨y + 1, op', oc', by omega, by omega, h'⟩, by (try dsimp only); omega⟩
 refine idxS outC_len (noId, 0) (h1.row_rd (i := 0) rfl) (by omega) (by omega) hcy fun b1 o1 _ hl1 hcc => ?_
 have c0 := hcc 0 (by omega)
 have c1 := hcc 1 (by omega)
 have c2 := hcc 2 (by omega)
 rw [Int.toNat_natCast] at c0 c1 c2
 generalize (outsOf p1).getD y (noId, 0) = el at c0 c1 c2 htk
 simp only [Za,Zb,Zc,Zd,Zf,Zh,Zi,Zk,Zl,Zm,Zn,Zo,Zp,Zr,Zs,Zx,Zt,Zu,Zy,Zz,Zv,Zw,ZA,ZB,ZC,ZD]
 refine ldI_of c0 (ldI_of c1 (ldI_of c2 ?_))
 intro b44 hb44
 have h2 := h1.alloc (o := .cells #[.int .i64 0, .int .u64 0, .int .i64 0] ty_api_Out) hb44
 refine h2.put (i := 0) rfl (by simp) fun H3 h3 => h3.put (i := 0) rfl (by simp) fun H4 h4 => h4.put (i := 0) rfl (by simp) fun H5 h5 => ?_
 refine ldI_of (h5.cell (i := 0) rfl rfl) (ldI_of (h5.cell (i := 2) rfl rfl) ?_)
 by_cases hgt : c.sus < el.2
 ·rw [if_pos hgt] at htk
  refine bif_pos hgt ?_
  refine ldSl_of (h5.cell (i := 2) rfl rfl) (ldI_of (h5.cell (i := 0) rfl rfl) (ldI_of (h5.cell (i := 0) rfl rfl) (ldI_of (h5.cell (i := 0) rfl rfl) ?_)))
  intro b59 hb59
  have h6 := h5.alloc (o := .cells #[.int .i64 el.1.n, .int .u64 el.1.s, .int .i64 el.2] ty_api_Out) hb59
  refine ⟨ldSl_of (h6.cell (i := 3) rfl rfl) rfl, ?_⟩
  refine h6.app (i := 10) rfl tu_ty_Sapi_Out tu_ty_Sapi_Out ti_ty_api_Out rfl (by decide) (h6.one_rd (i := 0) (n := 1) rfl rfl) (fun z hz => by simp at hz; rcases hz with rfl | rfl | rfl <;> rfl) (by dsimp only; omega) fun p' cap' H7 h7 => ?_
  simp only [Za,Zb,Zc,Zd,Zf,Zh,Zi,Zk,Zl,Zm,Zn,Zo,Zp,Zr,Zs,Zx,Zt,Zu,Zy,Zz,Zv,Zw,ZA,ZB,ZC,ZD]
  refine h7.put (i := 3) rfl (by simp [cyCells]) fun H8 h8 => ?_
  have e2 : (outPick c.sus ((outsOf p1).take y)).length + 1 = (outPick c.sus ((outsOf p1).take (y + 1))).length := by rw [htk]; simp
  have e1 : cel outC (outPick c.sus ((outsOf p1).take y)) ++ (#[Value.int .i64 el.1.n, .int .u64 el.1.s, .int .i64 el.2] : Array Value).toList = cel outC (outPick c.sus ((outsOf p1).take (y + 1))) := by rw [htk, cel_append]; rfl
  rw [e1, e2] at h8
  exact next p' cap' H8 (St.less (St.less h8))
 ·rw [if_neg hgt, List.append_nil] at htk
  refine bif_neg hgt ?_
  rw [← htk] at h5
  exact next op oc H5 (St.less h5)
end
end Go.Proofs.YtflfodcemnapeaaGreat

namespace Go.Proofs.YtflfodcemnapeaaGreat
set_option linter.unusedSimpArgs false
set_option linter.unusedVariables false
open Go
section
variable {H0 H : Hp} {L M N : List Prt} {i j k b hb : Nat} {s : Hs} {c : Cy} {x : CyX} {stir : Int} {K : Value → Hp → Prop}
theorem cyStepC {n : Nat} (h : St H0 L H) (hi : L[i]? = some (HeapP hb s)) (hk : L[k]? = some (CyP b hb c)) (hik : i ≠ k) (hlt : c.lt n) (hn : n ≤ 600000)
  (hK : ∀ fp fc H', St H0 (Prt.row 1 fp (cyStep s c stir).1.1.length fc ((cyStep s c stir).1.1.map (Value.int .u64)) :: (L.set i (HeapP hb (cyStep s c stir).2.1)).set k (CyP b hb (cyStep s c stir).2.2)) H' → K (.tuple #[.slice fp (cyStep s c stir).1.1.length fc, .bool (cyStep s c stir).1.2]) H') :
  hcall PR f_cycle_Cycle_Step ⟨[.pointer (some ⟨b, 0, none⟩), .int .u64 stir]⟩ H K := by
 have hs0 := heap_ok h hi
 have hc0 := cy_ok h hk
 have hwk := hc0.work
 have hil := ltOfGet hi
 have hkl := ltOfGet hk
 apply den_cycle_Cycle_Step
 unfold B_cycle_Cycle_Step
 refine ⟨fun fP fL fC t H' => ∃ (y : Nat) (fr : List Int) (s' : Hs) (c' : Cy), t = y ∧ (y : Int) ≤ c.work ∧ fL = fr.length ∧ fr.length ≤ y ∧ c'.lt (n + 7 * y) ∧ c'.work = c.work ∧ cySteps stir (c.work.toNat - y) s' c' fr = cyStep s c stir ∧
   St H0 (Prt.row 1 fP fr.length fC (fr.map (Value.int .u64)) :: (L.set i (HeapP hb s')).set k (CyP b hb c')) H',
  fun _ _ _ t _ => (c.work - t).toNat, ⟨0, [], s, c, rfl, by have := hc0.work; omega, rfl, by simp, hlt, rfl, rfl, ?_⟩, ?_⟩
 ·have h1 := h.row (H' := _) (Own.nil 1) ((Goes.refl Nothing _).less fun c hc => absurd hc blk_none)
  rw [List.set_self hi, List.set_self hk]
  exact h1
 intro fP fL fC t H1
 rintro ⟨y, fr, s', c', rfl, hy, rfl, hfr, hlt', hw, hst, h1⟩
 have hi1 : ((L.set i (HeapP hb s')).set k (CyP b hb c'))[i]? = some (HeapP hb s') := by simp [List.getElem?_set, hil, hik, Ne.symm hik]
 have hk1 : (Prt.row 1 fP fr.length fC (fr.map (Value.int .u64)) :: (L.set i (HeapP hb s')).set k (CyP b hb c'))[k + 1]? = some (CyP b hb c') := by simp [List.getElem?_set, hkl]
 have hs1 := heap_ok (i := i + 1) h1 hi1
 have hc1 := cy_ok h1 hk1
 obtain ⟨x, g, _⟩ := cyOpened h1 hk1
 have g : St H0 (cyParts b hb c' x ++ (Prt.row 1 fP fr.length fC (fr.map (Value.int .u64)) :: ((L.set i (HeapP hb s')).set k (CyP b hb c')).set k .nil)) H1 := g
 rw [List.set_set] at g
 have hiM : ((L.set i (HeapP hb s')).set k .nil)[i]? = some (HeapP hb s') := by simp [List.getElem?_set, hil, hik, Ne.symm hik]
 have shut : ∀ (fP : Option Addr) (fr : List Int) (fC : Nat) (s2 : Hs) (c2 : Cy) (H' : Hp), (∃ x', St H0 (cyParts b hb c2 x' ++ (Prt.row 1 fP fr.length fC (fr.map (Value.int .u64)) :: (L.set i (HeapP hb s2)).set k .nil)) H') → St H0 (Prt.row 1 fP fr.length fC (fr.map (Value.int .u64)) :: (L.set i (HeapP hb s2)).set k (CyP b hb c2)) H' := fun fP fr fC s2 c2 H' ⟨x', g'⟩ => by
  have g'' : St H0 ([] ++ (cyParts b hb c2 x' ++ (Prt.row 1 fP fr.length fC (fr.map (Value.int .u64)) :: L.set i (HeapP hb s2)).set (k + 1) .nil)) H' := g'
  have h3 := cyShut (N := []) (k := k + 1) (B := (L.set i (HeapP hb s2))[k]?.getD .nil) g'' (by simp [List.getElem?_set, hkl, hik])
  exact h3
 simp only [Za,Zb,Zc,Zd,Zf,Zh,Zi,Zk,Zl,Zm,Zn,Zo,Zp,Zr,Zs,Zx,Zt,Zu,Zy,Zz,Zv,Zw,ZA,ZB,ZC,ZD]
 refine ldI_of (g.cell (i := 0) rfl rfl) ?_
 by_cases hyw : (y : Int) < c.work
 rotate_left
 ·refine bif_neg (by rw [hw]; exact hyw) ?_
  have e0 : c.work.toNat - y = 0 := by omega
  rw [e0] at hst
  have e : cyStep s c stir = ((fr, false), s', c') := hst.symm
  rw [e] at hK
  exact hK fP fC H1 h1
 refine bif_pos (by rw [hw]; exact hyw) ?_
 have e1 : c.work.toNat - y = (c.work.toNat - (y + 1)) + 1 := by omega
 rw [e1] at hst
 intro R12 hR12
 have hult := hlt'.unit (stir := stir) hs1 hc1
 have huw := unit_work (s := s') (stir := stir) hc1
 have go : ∀ (f : Int) (s2 : Hs) (c2 : Cy) (fr' : List Int), cyUnit s' c' stir = ⟨none, f, s2, c2⟩ → fr' = (if f ≠ 0 then fr ++ [f] else fr) → ∀ (fP' : Option Addr) (fC' : Nat) (H' : Hp), (∃ x', St H0 (cyParts b hb c2 x' ++ (Prt.row 1 fP' fr'.length fC' (fr'.map (Value.int .u64)) :: (L.set i (HeapP hb s2)).set k .nil)) H') → R12 fP' fr'.length fC' H' := fun f s2 c2 fr' e ef fP' fC' H' g' => by
  rw [e] at hult huw
  rw [steps_go e] at hst
  refine hR12 fP' fr'.length fC' H' ?_
  rw [wrap_i64 (by omega) (by omega)]
  refine ⟨⟨y + 1, fr', s2, c2, by omega, by omega, rfl, ?_, hult.mono (by omega), huw.1.trans hw, by rw [ef]; exact hst, shut fP' fr' fC' s2 c2 H' g'⟩, by (try dsimp only); omega⟩
  rw [ef]
  split
  ·simp; omega
  ·omega
 have stop : ∀ (v : Bool) (s2 : Hs) (c2 : Cy), cyUnit s' c' stir = ⟨some v, 0, s2, c2⟩ → ∀ H' : Hp, (∃ x', St H0 (cyParts b hb c2 x' ++ (Prt.row 1 fP fr.length fC (fr.map (Value.int .u64)) :: (L.set i (HeapP hb s2)).set k .nil)) H') → K (.tuple #[.slice fP fr.length fC, .bool v]) H' := fun v s2 c2 e H' g' => by
  have e2 : cyStep s c stir = ((fr, v), s2, c2) := by rw [← hst]; exact steps_stop e
  rw [e2] at hK
  exact hK fP fC H' (shut fP fr fC s2 c2 H' g')
 have hlen := hc1.len
 have hsize := hc1.size
 have hok2 := (hc1.unit (stir := stir) hs1).2
 refine cyStateP g ?_
 simp only [Za,Zb,Zc,Zd,Zf,Zh,Zi,Zk,Zl,Zm,Zn,Zo,Zp,Zr,Zs,Zx,Zt,Zu,Zy,Zz,Zv,Zw,ZA,ZB,ZC,ZD]
 rcases hc1.sixth with e | ⟨e, h3⟩ | ⟨e, h3⟩ | ⟨e, e3⟩ | ⟨e, e4⟩ | e
 · -- it begins
  have eu := unit0 (s := s') (stir := stir) e
  rw [eu] at hok2
  refine bif_eq e ?_
  refine ldP_of (g.cell (i := 0) rfl rfl) (pTurnC g (j := 2) rfl fun H2 g2 => ?_)
  refine ldP_of (g2.cell (i := 0) rfl rfl) (shkBeginC g2 (i := 1) rfl (by omega) fun v H3 g3 => ?_)
  simp only [Za,Zb,Zc,Zd,Zf,Zh,Zi,Zk,Zl,Zm,Zn,Zo,Zp,Zr,Zs,Zx,Zt,Zu,Zy,Zz,Zv,Zw,ZA,ZB,ZC,ZD]
  have g4 := g3.refact (i := 8) rfl hok2
  exact stop false _ _ eu H3 ⟨x, g4⟩
 ·have eu := unit12 (s := s') (stir := stir) e h3
  refine bif_ne (by omega) ?_
  intro R29 hR29
  have hR : R29 true H1 := by
   refine hR29 true H1 ?_
   simp only [Za,Zb,Zc,Zd,Zf,Zh,Zi,Zk,Zl,Zm,Zn,Zo,Zp,Zr,Zs,Zx,Zt,Zu,Zy,Zz,Zv,Zw,ZA,ZB,ZC,ZD]
   refine ldP_of (g.cell (i := 0) rfl rfl) (shkPhaseC g (i := 1) rfl ?_)
   simp only [Za,Zb,Zc,Zd,Zf,Zh,Zi,Zk,Zl,Zm,Zn,Zo,Zp,Zr,Zs,Zx,Zt,Zu,Zy,Zz,Zv,Zw,ZA,ZB,ZC,ZD]
   refine bif_neq h3 (stop false _ _ eu H1 ⟨x, g⟩)
  rcases e with e | e
  ·refine bif_eq e ?_
   rw [show (c'.state == 1) = true by rw [e]; rfl]
   exact hR
  ·refine bif_ne (by omega) ?_
   rw [show (c'.state == 2) = true by rw [e]; rfl]
   exact hR
 ·have eu := unit23 (s := s') (stir := stir) e h3
  refine bif_ne (by omega) ?_
  intro R29 hR29
  have hR : R29 true H1 := by
   refine hR29 true H1 ?_
   simp only [Za,Zb,Zc,Zd,Zf,Zh,Zi,Zk,Zl,Zm,Zn,Zo,Zp,Zr,Zs,Zx,Zt,Zu,Zy,Zz,Zv,Zw,ZA,ZB,ZC,ZD]
   refine ldP_of (g.cell (i := 0) rfl rfl) (shkPhaseC g (i := 1) rfl ?_)
   simp only [Za,Zb,Zc,Zd,Zf,Zh,Zi,Zk,Zl,Zm,Zn,Zo,Zp,Zr,Zs,Zx,Zt,Zu,Zy,Zz,Zv,Zw,ZA,ZB,ZC,ZD]
   refine bif_neqf h3 ?_
   have hc3 : ({ c' with st := 3, m := ⟨0, false, 0⟩ } : Cy).ok := ⟨hc1.len, hc1.size, hc1.ph, .inr ⟨.inl rfl, h3⟩, hc1.sus, hc1.work, hc1.p, ⟨Int.le_refl _, Int.le_refl _⟩, hc1.r, hc1.pl⟩
   refine g.put (i := 0) rfl (by simp [cyCells]) fun H2 g2 => ?_
   refine ldP_of (g2.cell (i := 0) rfl rfl) (mkBeginC g2 (k := 3) rfl fun H3 g3 => ?_)
   have g4 := g3.refact (i := 8) rfl hc3
   refine cyMarksP (i := i + 1) (c := { c' with st := 3, m := ⟨0, false, 0⟩ }) (x := x) g4 hiM hs1 hc3 ⟨rfl, h3⟩ fun H4 g5 => ?_
   exact go 0 _ _ fr eu (by rw [if_neg (by simp)]) fP fC H4 ⟨x, g5⟩
  rcases e with e | e
  ·refine bif_eq e ?_
   rw [show (c'.state == 1) = true by rw [e]; rfl]
   exact hR
  ·refine bif_ne (by omega) ?_
   rw [show (c'.state == 2) = true by rw [e]; rfl]
   exact hR
 all_goals
  refine bif_ne (by omega) ?_
  intro R29 hR29
  refine bif_ne (by omega) ?_
  rw [show (c'.state == 2) = false by rw [beq_eq_false_iff_ne]; omega]
  refine hR29 false H1 ?_
  simp only [Zw]
 ·have eu := unit3 (s := s') (stir := stir) e
  refine bif_eq e (cyMarksP (i := i + 1) g hiM hs1 hc1 e3 fun H4 g5 => ?_)
  exact go 0 _ _ fr eu (by rw [if_neg (by simp)]) fP fC H4 ⟨x, g5⟩
 ·have eu := unit4 (s := s') (stir := stir) e
  refine bif_ne (by omega) (bif_eq e (cyReachesP (i := i + 1) g hiM hs1 hc1 e4 hlt' (by have := hc0.work; omega) fun x' H4 g5 => ?_))
  exact go 0 _ _ fr eu (by rw [if_neg (by simp)]) fP fC H4 ⟨x', g5⟩
 ·refine bif_ne (by omega) (bif_ne (by omega) (bif_eq e ?_))
  refine ldP_of (g.cell (i := 0) rfl rfl) (swStepC g (i := i + 10) (j := 2) (k := 5) hiM rfl rfl (by omega) (by omega) (by omega) fun H2 g2 => ?_)
  simp only [Za,Zb,Zc,Zd,Zf,Zh,Zi,Zk,Zl,Zm,Zn,Zo,Zp,Zr,Zs,Zx,Zt,Zu,Zy,Zz,Zv,Zw,ZA,ZB,ZC,ZD]
  have g2 : St H0 (Prt.one b (.cells (cyCells hb c' x) x.T (0, 0)) :: Shk x.kb c'.sk :: PaintP x.pb hb (swStep s' c'.p c'.pl c'.e).2.2.1 :: MkP x.mb hb x.pb c'.m :: RcP x.rb hb x.pb c'.r :: SwP x.ST x.sb hb x.pb (swStep s' c'.p c'.pl c'.e).2.2.2 c'.e :: RowsP x.tp x.tc c'.told.rows :: Prt.row 3 x.op c'.told.outs.length x.oc (cel outC c'.told.outs) :: Prt.pure c'.ok :: Prt.row 1 fP fr.length fC (fr.map (Value.int .u64)) :: ((L.set i (HeapP hb s')).set k .nil).set i (HeapP hb (swStep s' c'.p c'.pl c'.e).2.1)) H2 := g2
  rw [List.set_comm _ _ (Ne.symm hik), List.set_set] at g2
  cases hsw : (swStep s' c'.p c'.pl c'.e).1.2
  ·have eu := unit5 (s := s') (stir := stir) e hsw
   rw [eu] at hok2
   simp only [Bool.not_false, Zv]
   refine ldP_of (g2.cell (i := 0) rfl rfl) (shkEndC g2 (i := 1) rfl fun v H3 g3 => ?_)
   simp only [Za,Zb,Zc,Zd,Zf,Zh,Zi,Zk,Zl,Zm,Zn,Zo,Zp,Zr,Zs,Zx,Zt,Zu,Zy,Zz,Zv,Zw,ZA,ZB,ZC,ZD]
   refine g3.put (i := 0) rfl (by simp [cyCells]) fun H4 g4 => ?_
   have g5 := g4.refact (i := 8) rfl hok2
   exact stop true _ _ eu H4 ⟨x, g5⟩
  ·have eu := unit6 (s := s') (stir := stir) e hsw
   rw [eu] at hok2
   simp only [Bool.not_true, Zw]
   have g3 := g2.refact (i := 8) rfl hok2
   by_cases hf : (swStep s' c'.p c'.pl c'.e).1.1 = 0
   ·refine bif_neqf hf ?_
    exact go _ _ _ fr eu (by rw [if_neg (by simpa using hf)]) fP fC H2 ⟨x, g3⟩
   ·refine bif_neq hf ?_
    refine lit_ty_Suint64 (m := 1) (c := #[.int .u64 (swStep s' c'.p c'.pl c'.e).1.1]) (g3.row_own (i := 9) rfl) rfl (by intro z hz; simp at hz; rw [hz]; rfl) (by have := hc0.work; omega) fun p' cap' H4 ho hg => ?_
    simp only [Za,Zb,Zc,Zd,Zf,Zh,Zi,Zk,Zl,Zm,Zn,Zo,Zp,Zr,Zs,Zx,Zt,Zu,Zy,Zz,Zv,Zw,ZA,ZB,ZC,ZD]
    have g4 := g3.row_to (i := 9) rfl ho hg
    have := go _ _ _ (fr ++ [(swStep s' c'.p c'.pl c'.e).1.1]) eu (by rw [if_pos hf]) p' cap' H4 ⟨x, by rw [List.map_append, List.length_append]; exact g4⟩
    rw [List.length_append] at this
    exact this
end
end Go.Proofs.YtflfodcemnapeaaGreat

namespace Go.Proofs.YtflfodcemnapeaaGreat
set_option linter.unusedSimpArgs false
set_option linter.unusedVariables false
open Go
section
variable {H0 H : Hp} {L M N : List Prt} {i j k b hb : Nat} {s : Hs} {c : Cy} {x : CyX} {K : Value → Hp → Prop}
theorem cyNewC {n grey sus work : Int} (h : St H0 L H) (hi : L[i]? = some (HeapP hb s)) (hnode : s.node = 1) (hn : 1 ≤ n ∧ n ≤ 4) (hg : 1 ≤ grey ∧ grey ≤ 64) (hs : 0 ≤ sus ∧ sus ≤ 40) (hw : 1 ≤ work ∧ work ≤ 64)
  (hK : ∀ b H', St H0 (CyP b hb (newCy n grey sus work s.last) :: L) H' → K (.tuple #[.pointer (some ⟨b, 0, none⟩), .int .i64 0]) H') :
  hcall PR f_cycle_New ⟨[.pointer (some ⟨hb, 0, none⟩), .int .i64 n, .int .i64 grey, .int .i64 sus, .int .i64 work]⟩ H K := by
 apply den_cycle_New
 unfold B_cycle_New
 simp only [Option.isNone_some, Zw]
 refine bif_neg (by omega) (bif_neg (by omega) (bif_neg (by omega) (bif_neg (by omega) ?_)))
 refine shakeNew_ok hn.1 hn.2 fun kb F H1 ha hg1 => ?_
 have h1 := h.new ha hg1
 simp only [Za,Zb,Zc,Zd,Zf,Zh,Zi,Zk,Zl,Zm,Zn,Zo,Zp,Zr,Zs,Zx,Zt,Zu,Zy,Zz,Zv,Zw,ZA,ZB,ZC,ZD]
 refine pNewOk h1 hg.1 hg.2 fun pb H2 h2 => ?_
 simp only [Za,Zb,Zc,Zd,Zf,Zh,Zi,Zk,Zl,Zm,Zn,Zo,Zp,Zr,Zs,Zx,Zt,Zu,Zy,Zz,Zv,Zw,ZA,ZB,ZC,ZD]
 refine bif_neqf rfl (bif_neqf rfl (hNode h2 (i := i + 2) hi ?_))
 simp only [Za,Zb,Zc,Zd,Zf,Zh,Zi,Zk,Zl,Zm,Zn,Zo,Zp,Zr,Zs,Zx,Zt,Zu,Zy,Zz,Zv,Zw,ZA,ZB,ZC,ZD]
 rw [hnode]
 intro b21 hb21
 have h3 := h2.alloc (o := .cells #[ptrV kb, ptrV hb, ptrV pb, .pointer none, .pointer none, .pointer none, .int .i64 1, .int .i64 0, .int .i64 sus, .int .i64 work, .int .u64 0, .int .u64 0, .int .u64 0, .slice none 0 0, .slice none 0 0, .bool false] ty_cycle_Cycle) hb21
 refine mkNewC h3 fun mb H4 h4 => ?_
 simp only [Za,Zb,Zc,Zd,Zf,Zh,Zi,Zk,Zl,Zm,Zn,Zo,Zp,Zr,Zs,Zx,Zt,Zu,Zy,Zz,Zv,Zw,ZA,ZB,ZC,ZD]
 refine h4.put (i := 1) rfl (by simp) fun H5 h5 => ?_
 refine rcNewC h5 fun rb H6 h6 => ?_
 simp only [Za,Zb,Zc,Zd,Zf,Zh,Zi,Zk,Zl,Zm,Zn,Zo,Zp,Zr,Zs,Zx,Zt,Zu,Zy,Zz,Zv,Zw,ZA,ZB,ZC,ZD]
 refine h6.put (i := 2) rfl (by simp) fun H7 h7 => ?_
 refine swNewC h7 (i := i + 5) (pb := pb) hi fun sb H8 h8 => ?_
 simp only [Za,Zb,Zc,Zd,Zf,Zh,Zi,Zk,Zl,Zm,Zn,Zo,Zp,Zr,Zs,Zx,Zt,Zu,Zy,Zz,Zv,Zw,ZA,ZB,ZC,ZD]
 refine h8.put (i := 3) rfl (by simp) fun H9 h9 => ?_
 have h10 := h9.say (p := (newCy n grey sus work s.last).ok) (newCy_ok hn hg hs hw)
 have h11 := h10.row (H' := _) (Own.nil 3) ((Goes.refl Nothing _).less fun c hc => absurd hc blk_none)
 have h12 := h11.say (p := ([] : List RcQ).map (·.1) = []) rfl
 have h13 := St.gather (M := []) h12
 have h14 := h13.row (H' := _) (Own.nil 2) ((Goes.refl Nothing _).less fun c hc => absurd hc blk_none)
 have h15 : St H0 (RowsP none 0 [] :: Prt.row 3 none 0 0 [] :: _) H9 := St.gatherEx (M := fun qs : List RcQ => [Prt.row 2 none qs.length 0 (cel rcRowC qs), Prt.list (qs.map rcRowP), Prt.pure (qs.map (·.1) = [])]) [] h14
 have h16 := h15.pick 9 [6, 8, 7, 5, 4, 3, 0, 1, 2] rfl rfl
 exact hK b21 H9 (St.gatherEx (M := cyParts b21 hb (newCy n grey sus work s.last)) ⟨kb, pb, mb, rb, sb, ty_sweep_Sweeper, none, 0, none, 0, ty_cycle_Cycle⟩ h16)

theorem cyDoomedC {q : Int} (h : St H0 L H) (hi : L[i]? = some (HeapP hb s)) (hk : L[k]? = some (CyP b hb c)) (hik : i ≠ k) (hK : ∀ H', St H0 L H' → K (.bool (cyDoomed s c q)) H') :
  hcall PR f_cycle_Cycle_Doomed ⟨[.pointer (some ⟨b, 0, none⟩), .int .u64 q]⟩ H K := by
 obtain ⟨x, g, ho⟩ := cyOpened h hk
 have done : ∀ v H', cyDoomed s c q = v → St H0 (cyParts b hb c x ++ L.set k .nil) H' → K (.bool v) H' := fun v H' e g' => by
  have h1 : St H0 (L.set k (CyP b hb c)) H' := cyShut (N := []) g' hk
  rw [List.set_self hk] at h1
  rw [← e]
  exact hK H' h1
 apply den_cycle_Cycle_Doomed
 unfold B_cycle_Cycle_Doomed
 simp only [Za,Zb,Zc,Zd,Zf,Zh,Zi,Zk,Zl,Zm,Zn,Zo,Zp,Zr,Zs,Zx,Zt,Zu,Zy,Zz,Zv,Zw,ZA,ZB,ZC,ZD]
 refine ldI_of (g.cell (i := 0) rfl rfl) ?_
 by_cases h5 : c.st = 5
 rotate_left
 ·exact bif_neq h5 (done false H (by unfold cyDoomed; rw [decide_eq_false h5]; rfl) g)
 refine bif_neqf h5 (ldI_of (g.cell (i := 0) rfl rfl) ?_)
 by_cases hq : q > c.fin
 ·exact bif_pos hq (done false H (by unfold cyDoomed; rw [decide_eq_false (show ¬ q ≤ c.fin by omega), Bool.and_false]; rfl) g)
 refine bif_neg hq (ldP_of (g.cell (i := 0) rfl rfl) (hObjC g (i := i + 9) (set_get_ne hi hik) (fun hg H1 g1 => ?_) fun o hg rp rc vp vc H1 g1 => ?_))
 ·simp only [Za,Zb,Zc,Zd,Zf,Zh,Zi,Zk,Zl,Zm,Zn,Zo,Zp,Zr,Zs,Zx,Zt,Zu,Zy,Zz,Zv,Zw,ZA,ZB,ZC,ZD]
  refine box5 g1 fun b34 H2 g2 => ?_
  refine ldP_of (g2.cell (i := 1) rfl rfl) (pMarkC g2 (i := i + 10) (j := 3) (by show (L.set k .nil)[i]? = _; exact set_get_ne hi hik) rfl (by omega) fun H3 g3 => ?_)
  simp only [Za,Zb,Zc,Zd,Zf,Zh,Zi,Zk,Zl,Zm,Zn,Zo,Zp,Zr,Zs,Zx,Zt,Zu,Zy,Zz,Zv,Zw,ZA,ZB,ZC,ZD]
  exact done false H3 (by unfold cyDoomed; rw [hg, Option.isSome_none, Bool.and_false, Bool.false_and]) (St.less g3)
 ·simp only [Za,Zb,Zc,Zd,Zf,Zh,Zi,Zk,Zl,Zm,Zn,Zo,Zp,Zr,Zs,Zx,Zt,Zu,Zy,Zz,Zv,Zw,ZA,ZB,ZC,ZD]
  refine box5 g1 fun b34 H2 g2 => ?_
  refine ldP_of (g2.cell (i := 3) rfl rfl) (pMarkC g2 (i := i + 12) (j := 5) (by show (L.set k .nil)[i]? = _; exact set_get_ne hi hik) rfl (by omega) fun H3 g3 => ?_)
  simp only [Za,Zb,Zc,Zd,Zf,Zh,Zi,Zk,Zl,Zm,Zn,Zo,Zp,Zr,Zs,Zx,Zt,Zu,Zy,Zz,Zv,Zw,ZA,ZB,ZC,ZD]
  exact done _ H3 (by unfold cyDoomed; rw [hg, Option.isSome_some, decide_eq_true h5, decide_eq_true (show q ≤ c.fin by omega)]; simp) (St.lesses (M := [_, _, _]) g3)

theorem cySummaryC {n : Nat} (h : St H0 L H) (hk : L[k]? = some (CyP b hb c)) (hlt : c.lt n) (hn : n ≤ 700000)
  (hK : ∀ rp rc op oc H', St H0 (Prt.row 3 op c.told.outs.length oc (cel outC c.told.outs) :: RowsP rp rc c.told.rows :: L) H' → K (.agg #[.int .u64 c.told.stir, .slice rp c.told.rows.length rc, .slice op c.told.outs.length oc, .bool c.told.ok]) H') :
  hcall PR f_cycle_Cycle_Summary ⟨[.pointer (some ⟨b, 0, none⟩)]⟩ H K := by
 obtain ⟨x, g, ho⟩ := cyOpened h hk
 have hro := hlt.rows
 have hou := hlt.outs
 have done : ∀ rp rc op oc H', St H0 (Prt.row 3 op c.told.outs.length oc (cel outC c.told.outs) :: RowsP rp rc c.told.rows :: (cyParts b hb c x ++ L.set k .nil)) H' → K (.agg #[.int .u64 c.told.stir, .slice rp c.told.rows.length rc, .slice op c.told.outs.length oc, .bool c.told.ok]) H' := fun rp rc op oc H' g' => by
  have h1 := cyShut (N := [Prt.row 3 op c.told.outs.length oc (cel outC c.told.outs), RowsP rp rc c.told.rows]) (c := c) (x := x) g' hk
  rw [List.set_self hk] at h1
  exact hK rp rc op oc H' h1
 obtain ⟨qs, g0⟩ := g.openEx (i := 6) (M := fun qs : List RcQ => [Prt.row 2 x.tp qs.length x.tc (cel rcRowC qs), Prt.list (qs.map rcRowP), Prt.pure (qs.map (·.1) = c.told.rows)]) rfl
 have facts : ∀ (N : List Prt) H', St H0 (N ++ ([Prt.row 2 x.tp qs.length x.tc (cel rcRowC qs), Prt.list (qs.map rcRowP), Prt.pure (qs.map (·.1) = c.told.rows)] ++ (cyParts b hb c x ++ L.set k .nil).set 6 .nil)) H' →
   hcell H' ⟨b, 12, none⟩ = some (.int .u64 c.told.stir) ∧ hcell H' ⟨b, 13, none⟩ = some (.slice x.tp c.told.rows.length x.tc) ∧ hcell H' ⟨b, 14, none⟩ = some (.slice x.op c.told.outs.length x.oc) ∧ hcell H' ⟨b, 15, none⟩ = some (.bool c.told.ok) ∧ Rd H' 3 x.op c.told.outs.length (cel outC c.told.outs) ∧ RowsV H' x.tp c.told.rows qs := fun N H' h' => by
  have h'' := St.lesses (M := N) h'
  exact ⟨h''.cell (i := 3) rfl rfl, h''.cell (i := 3) rfl rfl, h''.cell (i := 3) rfl rfl, h''.cell (i := 3) rfl rfl, h''.row_rd (i := 10) rfl, h''.fact (i := 2) rfl, h''.row_rd (i := 0) rfl, rowsRd h'' (i := 1) rfl⟩
 have back : ∀ rp rc op oc H', St H0 (Prt.row 3 op c.told.outs.length oc (cel outC c.told.outs) :: RowsP rp rc c.told.rows :: ([Prt.row 2 x.tp qs.length x.tc (cel rcRowC qs), Prt.list (qs.map rcRowP), Prt.pure (qs.map (·.1) = c.told.rows)] ++ (cyParts b hb c x ++ L.set k .nil).set 6 .nil)) H' → K (.agg #[.int .u64 c.told.stir, .slice rp c.told.rows.length rc, .slice op c.told.outs.length oc, .bool c.told.ok]) H' := fun rp rc op oc H' h' => by
  have h1 := St.shutExN (A := fun qs : List RcQ => [Prt.row 2 x.tp qs.length x.tc (cel rcRowC qs), Prt.list (qs.map rcRowP), Prt.pure (qs.map (·.1) = c.told.rows)]) (N := [Prt.row 3 op c.told.outs.length oc (cel outC c.told.outs), RowsP rp rc c.told.rows]) qs h' (B := RowsP x.tp x.tc c.told.rows) rfl
  exact done rp rc op oc H' h1
 obtain ⟨B, hB⟩ : ∃ B, B = ([Prt.row 2 x.tp qs.length x.tc (cel rcRowC qs), Prt.list (qs.map rcRowP), Prt.pure (qs.map (·.1) = c.told.rows)] ++ (cyParts b hb c x ++ L.set k .nil).set 6 .nil) := ⟨_, rfl⟩
 have g0 : St H0 ([Prt.row 2 x.tp qs.length x.tc (cel rcRowC qs), Prt.list (qs.map rcRowP), Prt.pure (qs.map (·.1) = c.told.rows)] ++ (cyParts b hb c x ++ L.set k .nil).set 6 .nil) H := g0
 rw [← hB] at facts back g0
 have hqs := (facts [] H g0).2.2.2.2.2.len
 clear g hB done
 apply den_cycle_Cycle_Summary
 unfold B_cycle_Cycle_Summary
 intro b2 hb2
 have g1 := g0.alloc (o := .cells #[.int .u64 0, .slice none 0 0, .slice none 0 0, .bool false] ty_cycle_Summary) hb2
 intro R4 hR4
 have tell : ∀ bo op oc H', St H0 (Prt.one bo (.cells #[.int .u64 c.told.stir, .slice none 0 0, .slice op c.told.outs.length oc, .bool c.told.ok] ty_cycle_Summary (0, 0)) :: Prt.row 3 op c.told.outs.length oc (cel outC c.told.outs) :: Prt.one b2 (.cells #[.int .u64 0, .slice none 0 0, .slice none 0 0, .bool false] ty_cycle_Summary (0, 0)) :: B) H' → R4 (some ⟨bo, 0, none⟩) H' := by
  intro bo op oc H1 h1
  refine hR4 _ H1 ?_
  simp only [Za,Zb,Zc,Zd,Zf,Zh,Zi,Zk,Zl,Zm,Zn,Zo,Zp,Zr,Zs,Zx,Zt,Zu,Zy,Zz,Zv,Zw,ZA,ZB,ZC,ZD]
  refine ldSl_of (facts [_, _, _] H1 h1).2.1 ?_
  refine ⟨fun t H' => ∃ (y : Nat) (ns : List RcQ) (rp : Option Addr) (rc : Nat), t = y ∧ y ≤ c.told.rows.length ∧ ns.map (·.1) = c.told.rows.take y ∧
    St H0 (Prt.one bo (.cells #[.int .u64 c.told.stir, .slice rp ns.length rc, .slice op c.told.outs.length oc, .bool c.told.ok] ty_cycle_Summary (0, 0)) :: Prt.row 2 rp ns.length rc (cel rcRowC ns) :: Prt.list (ns.map rcRowP) :: Prt.row 3 op c.told.outs.length oc (cel outC c.told.outs) :: Prt.one b2 (.cells #[.int .u64 0, .slice none 0 0, .slice none 0 0, .bool false] ty_cycle_Summary (0, 0)) :: B) H',
   fun t _ => ((c.told.rows.length : Int) - t).toNat, ⟨0, [], none, 0, rfl, by omega, rfl, ?_⟩, ?_⟩
  ·have h2 := h1.row (H' := _) (Own.nil 2) ((Goes.refl Nothing _).less fun c hc => absurd hc blk_none)
   have h3 := St.gather (M := []) h2
   exact h3.pick 3 [2, 1, 0] rfl rfl
  clear h1
  rintro t H2 ⟨y, ns, rp, rc, rfl, hy, hns, h2⟩
  have hnl : ns.length = y := by
   have := congrArg List.length hns
   rw [List.length_map, List.length_take] at this
   omega
  by_cases hc : (y : Int) < ((c.told.rows.length : Nat) : Int)
  rotate_left
  ·obtain rfl : y = c.told.rows.length := by omega
   refine bif_neg hc ?_
   rw [List.take_length] at hns
   refine ldI_of (h2.cell (i := 0) rfl rfl) (ldSl_of (h2.cell (i := 0) rfl rfl) (ldSl_of (h2.cell (i := 0) rfl rfl) (ldB_of (h2.cell (i := 0) rfl rfl) ?_)))
   refine h2.put (i := 4) rfl (by simp) fun H3 h3 => h3.put (i := 4) rfl (by simp) fun H4 h4 => h4.put (i := 4) rfl (by simp) fun H5 h5 => h5.put (i := 4) rfl (by simp) fun H6 h6 => ?_
   refine ldI_of (h6.cell (i := 4) rfl rfl) (ldSl_of (h6.cell (i := 4) rfl rfl) (ldSl_of (h6.cell (i := 4) rfl rfl) (ldB_of (h6.cell (i := 4) rfl rfl) ?_)))
   have h7 := h6.say (p := ns.map (·.1) = c.told.rows) hns
   have h8 := h7.pick 6 [1, 5, 2, 3, 0, 4] rfl rfl
   have h9 := St.lesses (M := [_, _]) h8
   have h11 : St H0 (RowsP rp rc c.told.rows :: Prt.row 3 op c.told.outs.length oc (cel outC c.told.outs) :: B) H6 := St.gatherEx (M := fun qs : List RcQ => [Prt.row 2 rp qs.length rc (cel rcRowC qs), Prt.list (qs.map rcRowP), Prt.pure (qs.map (·.1) = c.told.rows)]) ns h9
   rw [hnl]
   exact back rp rc op oc H6 h11.flip
  refine bif_pos hc ?_
  have hyl : y < qs.length := by omega
  have v1 := (facts [_, _, _, _, _] H2 h2).2.2.2.2.2
  rw [← hqs]
  refine idxS rcRowC_len ((0, []), (none, 0)) v1.2.1 (by omega) (by omega) (by omega) fun bb oo _ hl1 hcc => ?_
  have c0 := hcc 0 (by omega)
  have c1 := hcc 1 (by omega)
  rw [Int.toNat_natCast] at c0 c1
  have hgd : qs.getD y ((0, []), (none, 0)) = qs[y] := by rw [List.getD_eq_getElem?_getD, List.getElem?_eq_getElem hyl]; rfl
  rw [hgd] at c0 c1
  obtain ⟨r, hr⟩ : ∃ r, r = qs[y] := ⟨_, rfl⟩
  rw [← hr] at c0 c1
  have hrm : r ∈ qs := by rw [hr]; exact List.getElem_mem hyl
  have hrr : r.1 ∈ c.told.rows := by rw [← v1.1]; exact List.mem_map.2 ⟨r, hrm, rfl⟩
  have hrl := hlt.rlen _ hrr
  have hry : c.told.rows[y]? = some r.1 := by rw [← v1.1, List.getElem?_map, List.getElem?_eq_getElem hyl, hr]; rfl
  simp only [Za,Zb,Zc,Zd,Zf,Zh,Zi,Zk,Zl,Zm,Zn,Zo,Zp,Zr,Zs,Zx,Zt,Zu,Zy,Zz,Zv,Zw,ZA,ZB,ZC,ZD]
  refine ldI_of c0 (ldSl_of c1 ?_)
  intro b20 hb20
  have h3 := h2.alloc (o := .cells #[.int .u64 0, .slice none 0 0] ty_api_Reach) hb20
  refine h3.put (i := 0) rfl (by simp) fun H3 h4 => h4.put (i := 0) rfl (by simp) fun H4 h5 => ?_
  refine ldSl_of (h5.cell (i := 1) rfl rfl) (ldI_of (h5.cell (i := 0) rfl rfl) (ldSl_of (h5.cell (i := 0) rfl rfl) ?_))
  intro b32 hb32
  have h6 := h5.alloc (o := .cells #[] ty_api_ID) hb32
  refine ⟨ldSl_of (h6.cell (i := 1) rfl rfl) rfl, ldI_of (h6.cell (i := 1) rfl rfl) rfl, ldSl_of (h6.cell (i := 2) rfl rfl) rfl, ?_⟩
  refine h6.copy (i := 0) rfl tu_ty_Sapi_ID tu_ty_Sapi_ID ti_ty_api_ID rfl (by decide) ((facts [_, _, _, _, _, _, _] _ h6).2.2.2.2.2.2.2 r hrm) (fun z hz => by
   unfold cel at hz
   rw [List.mem_flatten] at hz
   obtain ⟨l, hl, hz⟩ := hz
   obtain ⟨a, _, rfl⟩ := List.mem_map.1 hl
   simp [Id.cells] at hz
   rcases hz with rfl | rfl <;> rfl) (by omega) fun p' cap' H7 h7 => ?_
  simp only [Za,Zb,Zc,Zd,Zf,Zh,Zi,Zk,Zl,Zm,Zn,Zo,Zp,Zr,Zs,Zx,Zt,Zu,Zy,Zz,Zv,Zw,ZA,ZB,ZC,ZD]
  refine ⟨ldI_of (h7.cell (i := 1) rfl rfl) rfl, ldSl_of (h7.cell (i := 2) rfl rfl) rfl, ?_⟩
  intro b50 hb50
  have h8 := h7.alloc (o := .cells #[.int .u64 r.1.1, .slice p' r.1.2.length cap'] ty_api_Reach) hb50
  refine ⟨ldSl_of (h8.cell (i := 3) rfl rfl) rfl, ?_⟩
  refine h8.app (i := 4) rfl tu_ty_Sapi_Reach tu_ty_Sapi_Reach ti_ty_api_Reach rfl (by decide) (h8.one_rd (i := 0) (n := 1) rfl rfl) (fun z hz => by simp at hz; rcases hz with rfl | rfl <;> rfl) (by omega) fun q' cap2 H9 h9 => ?_
  simp only [Za,Zb,Zc,Zd,Zf,Zh,Zi,Zk,Zl,Zm,Zn,Zo,Zp,Zr,Zs,Zx,Zt,Zu,Zy,Zz,Zv,Zw,ZA,ZB,ZC,ZD]
  refine h9.put (i := 3) rfl (by simp) fun H10 h10 => ?_
  obtain ⟨nq, hnq⟩ : ∃ nq : RcQ, nq = (r.1, (p', cap')) := ⟨_, rfl⟩
  have e1 : cel rcRowC ns ++ (#[Value.int .u64 r.1.1, .slice p' r.1.2.length cap'] : Array Value).toList = cel rcRowC (ns ++ [nq]) := by rw [cel_append, hnq]; rfl
  have e2 : ns.length + 1 = (ns ++ [nq]).length := by simp
  rw [e1, e2] at h10
  have h11 := (St.less h10).pick 2 [0, 1] rfl rfl
  have h12 := h11.pick 2 [1, 0] rfl rfl
  have h13 := St.less h12
  have h14 := St.push (i := 2) (A := rcRowP nq) (M := ns.map rcRowP) (by rw [hnq]; exact h13) rfl
  rw [show ns.map rcRowP ++ [rcRowP nq] = (ns ++ [nq]).map rcRowP by simp] at h14
  rw [wrap_i64 (by omega) (by omega)]
  refine ⟨⟨y + 1, ns ++ [nq], q', cap2, by omega, by omega, ?_, h14⟩, by (try dsimp only); omega⟩
  rw [List.map_append, hns, List.take_add_one, hry, hnq]
  rfl
 simp only [Za,Zb,Zc,Zd,Zf,Zh,Zi,Zk,Zl,Zm,Zn,Zo,Zp,Zr,Zs,Zx,Zt,Zu,Zy,Zz,Zv,Zw,ZA,ZB,ZC,ZD]
 obtain ⟨a0, _, a2, a3, _⟩ := facts [_] _ g1
 have hone : ∀ z ∈ cel outC c.told.outs, one z = true := fun z hz => by
  unfold cel at hz
  rw [List.mem_flatten] at hz
  obtain ⟨l, hl, hz⟩ := hz
  obtain ⟨a, _, rfl⟩ := List.mem_map.1 hl
  simp [outC] at hz
  rcases hz with rfl | rfl | rfl <;> rfl
 refine ldI_of a0 (ldSl_of a2 (ldB_of a3 ⟨?_, ?_⟩))
 ·intro b91 hb91
  have g2 := g1.alloc (o := .cells #[] ty_api_Out) hb91
  obtain ⟨a0, _, a2, a3, ao, _⟩ := facts [_, _] _ g2
  refine ⟨ldB_of a3 rfl, ldSl_of a2 rfl, ldI_of a0 rfl, ?_, ?_⟩
  ·refine g2.copy (i := 0) rfl tu_ty_Sapi_Out tu_ty_Sapi_Out ti_ty_api_Out rfl (by decide) ao hone (by omega) fun op oc H3 g3 => ?_
   simp only [Za,Zb,Zc,Zd,Zf,Zh,Zi,Zk,Zl,Zm,Zn,Zo,Zp,Zr,Zs,Zx,Zt,Zu,Zy,Zz,Zv,Zw,ZA,ZB,ZC,ZD]
   obtain ⟨a0, _, a2, a3, ao, _⟩ := facts [_, _] _ g3
   refine ⟨ldB_of a3 rfl, ldI_of a0 rfl, ?_⟩
   intro b105 hb105
   have g4 := g3.alloc (o := .cells #[.int .u64 0, .slice none 0 0, .slice none 0 0, .bool false] ty_cycle_Summary) hb105
   obtain ⟨a0, _, a2, a3, ao, _⟩ := facts [_, _, _] _ g4
   refine ⟨ldB_of a3 rfl, ldI_of a0 rfl, ?_⟩
   exact g4.put (i := 0) rfl (by simp) fun H5 g5 => g5.put (i := 0) rfl (by simp) fun H6 g6 => g6.put (i := 0) rfl (by simp) fun H7 g7 => g7.put (i := 0) rfl (by simp) fun H8 g8 => tell b105 op oc H8 g8
  ·intro b113 hb113
   have g3 := g2.alloc (o := .cells #[.int .u64 0, .slice none 0 0, .slice none 0 0, .bool false] ty_cycle_Summary) hb113
   obtain ⟨a0, _, a2, a3, ao, _⟩ := facts [_, _, _] _ g3
   refine ⟨ldB_of a3 rfl, ldSl_of a2 rfl, ldI_of a0 rfl, ?_⟩
   refine g3.copy (i := 1) rfl tu_ty_Sapi_Out tu_ty_Sapi_Out ti_ty_api_Out rfl (by decide) ao hone (by omega) fun op oc H4 g4 => ?_
   simp only [Za,Zb,Zc,Zd,Zf,Zh,Zi,Zk,Zl,Zm,Zn,Zo,Zp,Zr,Zs,Zx,Zt,Zu,Zy,Zz,Zv,Zw,ZA,ZB,ZC,ZD]
   obtain ⟨a0, _, a2, a3, ao, _⟩ := facts [_, _, _] _ g4
   refine ⟨ldB_of a3 rfl, ldI_of a0 rfl, ?_⟩
   exact g4.put (i := 0) rfl (by simp) fun H5 g5 => g5.put (i := 0) rfl (by simp) fun H6 g6 => g6.put (i := 0) rfl (by simp) fun H7 g7 => g7.put (i := 0) rfl (by simp) fun H8 g8 => tell b113 op oc H8 g8
 ·intro b131 hb131
  have g2 := g1.alloc (o := .cells #[.int .u64 0, .slice none 0 0, .slice none 0 0, .bool false] ty_cycle_Summary) hb131
  obtain ⟨a0, _, a2, a3, ao, _⟩ := facts [_, _] _ g2
  refine ⟨ldB_of a3 rfl, ldSl_of a2 rfl, ldI_of a0 rfl, ?_⟩
  intro b138 hb138
  have g3 := g2.alloc (o := .cells #[] ty_api_Out) hb138
  obtain ⟨a0, _, a2, a3, ao, _⟩ := facts [_, _, _] _ g3
  refine ⟨ldB_of a3 rfl, ldSl_of a2 rfl, ldI_of a0 rfl, ?_⟩
  refine g3.copy (i := 0) rfl tu_ty_Sapi_Out tu_ty_Sapi_Out ti_ty_api_Out rfl (by decide) ao hone (by omega) fun op oc H4 g4 => ?_
  simp only [Za,Zb,Zc,Zd,Zf,Zh,Zi,Zk,Zl,Zm,Zn,Zo,Zp,Zr,Zs,Zx,Zt,Zu,Zy,Zz,Zv,Zw,ZA,ZB,ZC,ZD]
  obtain ⟨a0, _, a2, a3, ao, _⟩ := facts [_, _, _] _ g4
  refine ⟨ldB_of a3 rfl, ldI_of a0 rfl, ?_⟩
  exact g4.put (i := 1) rfl (by simp) fun H5 g5 => g5.put (i := 1) rfl (by simp) fun H6 g6 => g6.put (i := 1) rfl (by simp) fun H7 g7 => g7.put (i := 1) rfl (by simp) fun H8 g8 => tell b131 op oc H8 (St.flip g8)
end
end Go.Proofs.YtflfodcemnapeaaGreat

namespace Go.Proofs.YtflfodcemnapeaaGreat
open Go
set_option linter.unusedVariables false
set_option maxRecDepth 100000
def B_ref16_New (h1 : Option Addr) (mutators2 : Int) (grey3 : Int) (suspect4 : Int) (work5 : Int) (H : Hp) (K : Value → Hp → Prop) : Prop :=
 (bif (Option.isNone (α := Addr) h1) then
 K (.pointer none) H
else
 (bif (decide ((mutators2 : Int) < 1)) then
 K (.pointer none) H
else
 (bif (decide ((mutators2 : Int) > 4)) then
 K (.pointer none) H
else
 (bif (decide ((grey3 : Int) < 1)) then
 K (.pointer none) H
else
 (bif (decide ((grey3 : Int) > 64)) then
 K (.pointer none) H
else
 (bif (decide ((suspect4 : Int) < 0)) then
 K (.pointer none) H
else
 (bif (decide ((suspect4 : Int) > 40)) then
 K (.pointer none) H
else
 (bif (decide ((work5 : Int) < 1)) then
 K (.pointer none) H
else
 (bif (decide ((work5 : Int) > 64)) then
 K (.pointer none) H
else
 hcall PR f_ref11_NewPaint ⟨[(.pointer h1), (.int .i64 grey3)]⟩ H fun v6 Hx7 =>
 asP v6 fun t8 =>
 hcall PR f_ref11_NewShake ⟨[(.int .i64 mutators2)]⟩ Hx7 fun v9 Hx10 =>
 asP v9 fun t11 =>
 newB (.cells #[(.pointer h1), (.pointer t8), (.pointer t11), (.pointer none), (.pointer none), (.pointer none), (.int .i64 mutators2), (.int .i64 suspect4), (.int .i64 work5), (.int .i64 0), (.int .u64 0), (.int .u64 0), (.slice none 0 0), (.slice none 0 0), (.bool false)] ty_ref16_Cycle) Hx10 fun b12 Hx13 =>
 newB (.cells #[(.pointer h1), (.pointer t8), (.int .u64 0), (.int .u64 0), (.bool false)] ty_ref11_Marker) Hx13 fun b14 Hx15 =>
 st ⟨b12, 3, none⟩ (.pointer (some ⟨b14, 0, none⟩)) Hx15 fun Hx16 =>
 newB (.cells #[(.pointer h1), (.pointer t8), (.slice none 0 0), (.int .u64 0), (.int .i64 0), (.bool false), (.int .u64 0), (.slice none 0 0), (.slice none 0 0), (.int .i64 0), (.slice none 0 0), (.slice none 0 0)] ty_ref11_Reacher) Hx16 fun b17 Hx18 =>
 st ⟨b12, 4, none⟩ (.pointer (some ⟨b17, 0, none⟩)) Hx18 fun Hx19 =>
 newB (.cells #[(.pointer h1), (.pointer t8), (.int .u64 0), (.int .u64 0)] ty_ref11_Sweeper) Hx19 fun b20 Hx21 =>
 st ⟨b12, 5, none⟩ (.pointer (some ⟨b20, 0, none⟩)) Hx21 fun Hx22 =>
 K (.pointer (some ⟨b12, 0, none⟩)) Hx22)))))))))
theorem E_ref16_New (h1 : Option Addr) (mutators2 : Int) (grey3 : Int) (suspect4 : Int) (work5 : Int) (H : Hp) (K : Value → Hp → Prop) : B_ref16_New h1 mutators2 grey3 suspect4 work5 H K = denF Tryz.prog Tryz.f8 .n [(.pointer h1), (.int .i64 mutators2), (.int .i64 grey3), (.int .i64 suspect4), (.int .i64 work5)] H K := by kernel_rfl
theorem den_ref16_New {h1 : Option Addr} {mutators2 : Int} {grey3 : Int} {suspect4 : Int} {work5 : Int} {H : Hp} {K : Value → Hp → Prop} (h : B_ref16_New h1 mutators2 grey3 suspect4 work5 H K) : hcall PR f_ref16_New ⟨[(.pointer h1), (.int .i64 mutators2), (.int .i64 grey3), (.int .i64 suspect4), (.int .i64 work5)]⟩ H K := denF_call Tryz.func8 PR_mixed (Eq.mp (E_ref16_New h1 mutators2 grey3 suspect4 work5 H K) h)

def B_ref16_Cycle_Shake (c1 : Option Addr) (m2 : Int) (heldP3 : Option Addr) (heldL4 : Nat) (heldC5 : Nat) (H : Hp) (K : Value → Hp → Prop) : Prop :=
 nilP c1 fun ca6 =>
 ldP (ca6.add 2) H fun S7 =>
 hcall PR f_ref11_Shake_Answer ⟨[(.pointer S7), (.int .i64 m2)]⟩ H fun v8 Hx9 =>
 asI .i64 v8 fun t10 =>
 (bif ((t10 : Int) == 1) then
 K (.bool true) Hx9
else
 (bif ((t10 : Int) == 2) then
 ∃ (I11 : Int → Hp → Prop) (m12 : Int → Hp → Nat), I11 0 Hx9 ∧ ∀ i14 : Int, ∀ Hx13 : Hp, I11 i14 Hx13 →
 (bif (decide ((i14 : Int) < (heldL4 : Int))) then
 nilP c1 fun ca15 =>
 ldP (ca15.add 1) Hx13 fun P16 =>
 idxA heldP3 heldL4 i14 2 fun el17 =>
 ldI .i64 el17 Hx13 fun Node18 =>
 ldI .u64 (el17.add 1) Hx13 fun Serial19 =>
 hcall PR f_ref11_Paint_Shade ⟨[(.pointer P16), (.agg #[(.int .i64 Node18), (.int .u64 Serial19)]), (.int .i64 0)]⟩ Hx13 fun v20 Hx21 =>
 I11 (IntKind.i64.wrap (i14 + 1)) Hx21 ∧ m12 (IntKind.i64.wrap (i14 + 1)) Hx21 < m12 i14 Hx13
else
 K (.bool true) Hx13)
else
 K (.bool false) Hx9))
theorem E_ref16_Cycle_Shake (c1 : Option Addr) (m2 : Int) (heldP3 : Option Addr) (heldL4 : Nat) (heldC5 : Nat) (H : Hp) (K : Value → Hp → Prop) : B_ref16_Cycle_Shake c1 m2 heldP3 heldL4 heldC5 H K = denF Tryz.prog Tryz.f11 (.seq none .n (.seq none (.seq none .n (.sub (.seq none .n (.two .n (.seq none .n (.two (.seq none (.seq none .n (.sub (.loop ⟨[(7, .int .i64)], [0, 2]⟩ .n))) .n) .n)))))) .n)) [(.pointer c1), (.int .i64 m2), (.slice heldP3 heldL4 heldC5)] H K := by kernel_rfl
theorem den_ref16_Cycle_Shake {c1 : Option Addr} {m2 : Int} {heldP3 : Option Addr} {heldL4 : Nat} {heldC5 : Nat} {H : Hp} {K : Value → Hp → Prop} (h : B_ref16_Cycle_Shake c1 m2 heldP3 heldL4 heldC5 H K) : hcall PR f_ref16_Cycle_Shake ⟨[(.pointer c1), (.int .i64 m2), (.slice heldP3 heldL4 heldC5)]⟩ H K := denF_call Tryz.func11 PR_mixed (Eq.mp (E_ref16_Cycle_Shake c1 m2 heldP3 heldL4 heldC5 H K) h)

def B_ref16_Cycle_Store (c1 : Option Addr) (m2 : Int) (oldNode3 : Int) (oldSerial4 : Int) (nowNode5 : Int) (nowSerial6 : Int) (H : Hp) (K : Value → Hp → Prop) : Prop :=
 newB (.cells #[(.int .i64 oldNode3), (.int .u64 oldSerial4)] ty_api_ID) H fun b7 Hx8 =>
 newB (.cells #[(.int .i64 nowNode5), (.int .u64 nowSerial6)] ty_api_ID) Hx8 fun b9 Hx10 =>
 hcall PR f_ref16_Cycle_on ⟨[(.pointer c1)]⟩ Hx10 fun v11 Hx12 =>
 asB v11 fun t13 =>
 (bif (!t13) then
 K (.tuple #[]) Hx12
else
 nilP c1 fun ca14 =>
 ldP (ca14.add 2) Hx12 fun S15 =>
 nilP S15 fun Sa16 =>
 ldSl (Sa16.add 2) Hx12 fun ArmedP17 ArmedL18 ArmedC19 =>
 hcall PR f_ref11_Is ⟨[(.slice ArmedP17 ArmedL18 ArmedC19), (.int .i64 m2)]⟩ Hx12 fun v20 Hx21 =>
 asB v20 fun t22 =>
 (bif (!t22) then
 K (.tuple #[]) Hx21
else
 nilP c1 fun ca23 =>
 ldP (ca23.add 1) Hx21 fun P24 =>
 ldI .i64 ⟨b7, 0, none⟩ Hx21 fun Node25 =>
 ldI .u64 ⟨b7, 1, none⟩ Hx21 fun Serial26 =>
 hcall PR f_ref11_Paint_Shade ⟨[(.pointer P24), (.agg #[(.int .i64 Node25), (.int .u64 Serial26)]), (.int .i64 0)]⟩ Hx21 fun v27 Hx28 =>
 nilP c1 fun ca29 =>
 ldP (ca29.add 2) Hx28 fun S30 =>
 nilP S30 fun Sa31 =>
 ldSl (Sa31.add 3) Hx28 fun ScannedP32 ScannedL33 ScannedC34 =>
 hcall PR f_ref11_Is ⟨[(.slice ScannedP32 ScannedL33 ScannedC34), (.int .i64 m2)]⟩ Hx28 fun v35 Hx36 =>
 asB v35 fun t37 =>
 (bif (!t37) then
 nilP c1 fun ca38 =>
 ldP (ca38.add 1) Hx36 fun P39 =>
 ldI .i64 ⟨b9, 0, none⟩ Hx36 fun Node40 =>
 ldI .u64 ⟨b9, 1, none⟩ Hx36 fun Serial41 =>
 hcall PR f_ref11_Paint_Shade ⟨[(.pointer P39), (.agg #[(.int .i64 Node40), (.int .u64 Serial41)]), (.int .i64 0)]⟩ Hx36 fun v42 Hx43 =>
 K (.tuple #[]) Hx43
else
 K (.tuple #[]) Hx36)))
theorem E_ref16_Cycle_Store (c1 : Option Addr) (m2 : Int) (oldNode3 : Int) (oldSerial4 : Int) (nowNode5 : Int) (nowSerial6 : Int) (H : Hp) (K : Value → Hp → Prop) : B_ref16_Cycle_Store c1 m2 oldNode3 oldSerial4 nowNode5 nowSerial6 H K = denF Tryz.prog Tryz.f15 .n [(.pointer c1), (.int .i64 m2), (.agg #[(.int .i64 oldNode3), (.int .u64 oldSerial4)]), (.agg #[(.int .i64 nowNode5), (.int .u64 nowSerial6)])] H K := by kernel_rfl
theorem den_ref16_Cycle_Store {c1 : Option Addr} {m2 : Int} {oldNode3 : Int} {oldSerial4 : Int} {nowNode5 : Int} {nowSerial6 : Int} {H : Hp} {K : Value → Hp → Prop} (h : B_ref16_Cycle_Store c1 m2 oldNode3 oldSerial4 nowNode5 nowSerial6 H K) : hcall PR f_ref16_Cycle_Store ⟨[(.pointer c1), (.int .i64 m2), (.agg #[(.int .i64 oldNode3), (.int .u64 oldSerial4)]), (.agg #[(.int .i64 nowNode5), (.int .u64 nowSerial6)])]⟩ H K := denF_call Tryz.func15 PR_mixed (Eq.mp (E_ref16_Cycle_Store c1 m2 oldNode3 oldSerial4 nowNode5 nowSerial6 H K) h)

def B_ref16_Cycle_Born (c1 : Option Addr) (m2 : Int) (serial3 : Int) (H : Hp) (K : Value → Hp → Prop) : Prop :=
 hcall PR f_ref16_Cycle_on ⟨[(.pointer c1)]⟩ H fun v4 Hx5 =>
 asB v4 fun t6 =>
 (bif (!t6) then
 K (.tuple #[]) Hx5
else
 nilP c1 fun ca7 =>
 ldP (ca7.add 2) Hx5 fun S8 =>
 nilP S8 fun Sa9 =>
 ldSl (Sa9.add 2) Hx5 fun ArmedP10 ArmedL11 ArmedC12 =>
 hcall PR f_ref11_Is ⟨[(.slice ArmedP10 ArmedL11 ArmedC12), (.int .i64 m2)]⟩ Hx5 fun v13 Hx14 =>
 asB v13 fun t15 =>
 (bif (!t15) then
 K (.tuple #[]) Hx14
else
 hcall PR f_ref16_Cycle_State ⟨[(.pointer c1)]⟩ Hx14 fun v16 Hx17 =>
 asI .i64 v16 fun t18 =>
 (bif ((t18 : Int) == 1) then
 nilP c1 fun ca19 =>
 ldP (ca19.add 1) Hx17 fun P20 =>
 nilP c1 fun ca21 =>
 ldP ca21 Hx17 fun Hx22 =>
 nilP Hx22 fun Hxa23 =>
 ldI .i64 Hxa23 Hx17 fun Node24 =>
 hcall PR f_ref11_Paint_Shade ⟨[(.pointer P20), (.agg #[(.int .i64 Node24), (.int .u64 serial3)]), (.int .i64 0)]⟩ Hx17 fun v25 Hx26 =>
 K (.tuple #[]) Hx26
else
 nilP c1 fun ca27 =>
 ldP (ca27.add 1) Hx17 fun P28 =>
 hcall PR f_ref11_Paint_Blacken ⟨[(.pointer P28), (.int .u64 serial3)]⟩ Hx17 fun v29 Hx30 =>
 K (.tuple #[]) Hx30)))
theorem E_ref16_Cycle_Born (c1 : Option Addr) (m2 : Int) (serial3 : Int) (H : Hp) (K : Value → Hp → Prop) : B_ref16_Cycle_Born c1 m2 serial3 H K = denF Tryz.prog Tryz.f19 .n [(.pointer c1), (.int .i64 m2), (.int .u64 serial3)] H K := by kernel_rfl
theorem den_ref16_Cycle_Born {c1 : Option Addr} {m2 : Int} {serial3 : Int} {H : Hp} {K : Value → Hp → Prop} (h : B_ref16_Cycle_Born c1 m2 serial3 H K) : hcall PR f_ref16_Cycle_Born ⟨[(.pointer c1), (.int .i64 m2), (.int .u64 serial3)]⟩ H K := denF_call Tryz.func19 PR_mixed (Eq.mp (E_ref16_Cycle_Born c1 m2 serial3 H K) h)

def B_ref16_Cycle_Touch (c1 : Option Addr) (xNode2 : Int) (xSerial3 : Int) (H : Hp) (K : Value → Hp → Prop) : Prop :=
 newB (.cells #[(.int .i64 xNode2), (.int .u64 xSerial3)] ty_api_ID) H fun b4 Hx5 =>
 hcall PR f_ref16_Cycle_on ⟨[(.pointer c1)]⟩ Hx5 fun v6 Hx7 =>
 asB v6 fun t8 =>
 (bif t8 then
 nilP c1 fun ca9 =>
 ldP (ca9.add 1) Hx7 fun P10 =>
 ldI .i64 ⟨b4, 0, none⟩ Hx7 fun Node11 =>
 ldI .u64 ⟨b4, 1, none⟩ Hx7 fun Serial12 =>
 hcall PR f_ref11_Paint_Shade ⟨[(.pointer P10), (.agg #[(.int .i64 Node11), (.int .u64 Serial12)]), (.int .i64 0)]⟩ Hx7 fun v13 Hx14 =>
 K (.tuple #[]) Hx14
else
 nilP c1 fun ca15 =>
 ldI .i64 (ca15.add 9) Hx7 fun state16 =>
 (bif ((state16 : Int) == 5) then
 ldI .i64 ⟨b4, 0, none⟩ Hx7 fun Node17 =>
 nilP c1 fun ca18 =>
 ldP ca18 Hx7 fun Hx19 =>
 nilP Hx19 fun Hxa20 =>
 ldI .i64 Hxa20 Hx7 fun Node21 =>
 (bif ((Node17 : Int) != Node21) then
 nilP c1 fun ca22 =>
 ldP (ca22.add 1) Hx7 fun P23 =>
 ldI .i64 ⟨b4, 0, none⟩ Hx7 fun Node24 =>
 ldI .u64 ⟨b4, 1, none⟩ Hx7 fun Serial25 =>
 hcall PR f_ref11_Paint_Shade ⟨[(.pointer P23), (.agg #[(.int .i64 Node24), (.int .u64 Serial25)]), (.int .i64 0)]⟩ Hx7 fun v26 Hx27 =>
 K (.tuple #[]) Hx27
else
 K (.tuple #[]) Hx7)
else
 K (.tuple #[]) Hx7))
theorem E_ref16_Cycle_Touch (c1 : Option Addr) (xNode2 : Int) (xSerial3 : Int) (H : Hp) (K : Value → Hp → Prop) : B_ref16_Cycle_Touch c1 xNode2 xSerial3 H K = denF Tryz.prog Tryz.f21 .n [(.pointer c1), (.agg #[(.int .i64 xNode2), (.int .u64 xSerial3)])] H K := by kernel_rfl
theorem den_ref16_Cycle_Touch {c1 : Option Addr} {xNode2 : Int} {xSerial3 : Int} {H : Hp} {K : Value → Hp → Prop} (h : B_ref16_Cycle_Touch c1 xNode2 xSerial3 H K) : hcall PR f_ref16_Cycle_Touch ⟨[(.pointer c1), (.agg #[(.int .i64 xNode2), (.int .u64 xSerial3)])]⟩ H K := denF_call Tryz.func21 PR_mixed (Eq.mp (E_ref16_Cycle_Touch c1 xNode2 xSerial3 H K) h)

def B_ref16_Cycle_Step (c1 : Option Addr) (stir2 : Int) (H : Hp) (K : Value → Hp → Prop) : Prop :=
 ∃ (I3 : Option Addr → Nat → Nat → Int → Hp → Prop) (m4 : Option Addr → Nat → Nat → Int → Hp → Nat), I3 none 0 0 0 H ∧ ∀ freedP6 : Option Addr, ∀ freedL7 : Nat, ∀ freedC8 : Nat, ∀ i9 : Int, ∀ Hx5 : Hp, I3 freedP6 freedL7 freedC8 i9 Hx5 →
 nilP c1 fun ca10 =>
 ldI .i64 (ca10.add 8) Hx5 fun work11 =>
 (bif (decide ((i9 : Int) < work11)) then
 hcall PR f_ref16_Cycle_unit ⟨[(.pointer c1), (.int .u64 stir2)]⟩ Hx5 fun v12 Hx13 =>
 tup3 v12 fun v14 v15 v16 =>
 asI .u64 v14 fun t17 =>
 asB v15 fun t18 =>
 asB v16 fun t19 =>
 ∀ R20 : Option Addr → Nat → Nat → Hp → Prop, (∀ freedP22 : Option Addr, ∀ freedL23 : Nat, ∀ freedC24 : Nat, ∀ Hx21 : Hp, (
 (bif t18 then
 K (.tuple #[(.slice freedP22 freedL23 freedC24), (.bool t19)]) Hx21
else
 I3 freedP22 freedL23 freedC24 (IntKind.i64.wrap (i9 + 1)) Hx21 ∧ m4 freedP22 freedL23 freedC24 (IntKind.i64.wrap (i9 + 1)) Hx21 < m4 freedP6 freedL7 freedC8 i9 Hx5)) → R20 freedP22 freedL23 freedC24 Hx21) →
 (bif (decide ((t17 : Int) > 0)) then
 newB (.cells #[(.int .u64 t17)] ty_uint64) Hx13 fun b25 Hx26 =>
 evW PR (Builtin.append_ #[ty_Suint64, ty_Suint64] ty_Suint64 #[(.slice freedP6 freedL7 freedC8), (.slice (some ⟨b25, 0, none⟩) 1 1)]) Hx26 fun v27 Hx28 =>
 asSl v27 fun tP29 tL30 tC31 =>
 R20 tP29 tL30 tC31 Hx28
else
 R20 freedP6 freedL7 freedC8 Hx13)
else
 K (.tuple #[(.slice freedP6 freedL7 freedC8), (.bool false)]) Hx5)
theorem E_ref16_Cycle_Step (c1 : Option Addr) (stir2 : Int) (H : Hp) (K : Value → Hp → Prop) : B_ref16_Cycle_Step c1 stir2 H K = denF Tryz.prog Tryz.f25 (.seq none .n (.seq none (.seq none .n (.sub (.loop ⟨[(4, .sl), (6, .int .i64)], [0, 1]⟩ (.seq none .n (.seq none (.sub (.seq none .n (.seq (some ⟨[(4, .sl)], [0, 1, 6, 8, 9]⟩) .n .n))) .n))))) .n)) [(.pointer c1), (.int .u64 stir2)] H K := by kernel_rfl
theorem den_ref16_Cycle_Step {c1 : Option Addr} {stir2 : Int} {H : Hp} {K : Value → Hp → Prop} (h : B_ref16_Cycle_Step c1 stir2 H K) : hcall PR f_ref16_Cycle_Step ⟨[(.pointer c1), (.int .u64 stir2)]⟩ H K := denF_call Tryz.func25 PR_mixed (Eq.mp (E_ref16_Cycle_Step c1 stir2 H K) h)

def B_ref16_Cycle_on (c1 : Option Addr) (H : Hp) (K : Value → Hp → Prop) : Prop :=
 nilP c1 fun ca2 =>
 ldI .i64 (ca2.add 9) H fun state3 =>
 (bif (decide ((state3 : Int) ≥ 1)) then
 nilP c1 fun ca4 =>
 ldI .i64 (ca4.add 9) H fun state5 =>
 K (.bool (decide ((state5 : Int) ≤ 4))) H
else
 K (.bool false) H)
theorem E_ref16_Cycle_on (c1 : Option Addr) (H : Hp) (K : Value → Hp → Prop) : B_ref16_Cycle_on c1 H K = denF Tryz.prog Tryz.f55 .n [(.pointer c1)] H K := by kernel_rfl
theorem den_ref16_Cycle_on {c1 : Option Addr} {H : Hp} {K : Value → Hp → Prop} (h : B_ref16_Cycle_on c1 H K) : hcall PR f_ref16_Cycle_on ⟨[(.pointer c1)]⟩ H K := denF_call Tryz.func55 PR_mixed (Eq.mp (E_ref16_Cycle_on c1 H K) h)

def B_ref16_Cycle_State (c1 : Option Addr) (H : Hp) (K : Value → Hp → Prop) : Prop :=
 ∀ R2 : Hp → Prop, (∀ Hx3 : Hp, (
 nilP c1 fun ca4 =>
 ldI .i64 (ca4.add 9) Hx3 fun state5 =>
 K (.int .i64 state5) Hx3) → R2 Hx3) →
 nilP c1 fun ca6 =>
 ldI .i64 (ca6.add 9) H fun state7 =>
 (bif ((state7 : Int) == 1) then
 nilP c1 fun ca8 =>
 ldP (ca8.add 2) H fun S9 =>
 nilP S9 fun Sa10 =>
 ldI .i64 (Sa10.add 1) H fun Phase11 =>
 (bif (decide ((Phase11 : Int) > 1)) then
 K (.int .i64 2) H
else
 R2 H)
else
 R2 H)
theorem E_ref16_Cycle_State (c1 : Option Addr) (H : Hp) (K : Value → Hp → Prop) : B_ref16_Cycle_State c1 H K = denF Tryz.prog Tryz.f61 (.seq none .n (.seq (some ⟨[], [0]⟩) .n .n)) [(.pointer c1)] H K := by kernel_rfl
theorem den_ref16_Cycle_State {c1 : Option Addr} {H : Hp} {K : Value → Hp → Prop} (h : B_ref16_Cycle_State c1 H K) : hcall PR f_ref16_Cycle_State ⟨[(.pointer c1)]⟩ H K := denF_call Tryz.func61 PR_mixed (Eq.mp (E_ref16_Cycle_State c1 H K) h)

def B_ref16_Cycle_unit (c1 : Option Addr) (stir2 : Int) (H : Hp) (K : Value → Hp → Prop) : Prop :=
 nilP c1 fun ca3 =>
 ldI .i64 (ca3.add 9) H fun state4 =>
 (bif ((state4 : Int) == 0) then
 nilP c1 fun ca5 =>
 ldP (ca5.add 1) H fun P6 =>
 hcall PR f_ref11_Paint_Turn ⟨[(.pointer P6)]⟩ H fun v7 Hx8 =>
 nilP c1 fun ca9 =>
 ldP (ca9.add 2) Hx8 fun S10 =>
 hcall PR f_ref11_Shake_Begin ⟨[(.pointer S10)]⟩ Hx8 fun v11 Hx12 =>
 asB v11 fun t13 =>
 nilP c1 fun ca14 =>
 st (ca14.add 9) (.int .i64 1) Hx12 fun Hx15 =>
 K (.tuple #[(.int .u64 0), (.bool true), (.bool false)]) Hx15
else
 (bif ((state4 : Int) == 1) then
 nilP c1 fun ca16 =>
 ldP (ca16.add 2) H fun S17 =>
 nilP S17 fun Sa18 =>
 ldI .i64 (Sa18.add 1) H fun Phase19 =>
 (bif ((Phase19 : Int) != 3) then
 K (.tuple #[(.int .u64 0), (.bool true), (.bool false)]) H
else
 nilP c1 fun ca20 =>
 st (ca20.add 9) (.int .i64 3) H fun Hx21 =>
 nilP c1 fun ca22 =>
 ldP (ca22.add 3) Hx21 fun M23 =>
 hcall PR f_ref11_Marker_Begin ⟨[(.pointer M23)]⟩ Hx21 fun v24 Hx25 =>
 hcall PR f_ref16_Cycle_marking ⟨[(.pointer c1), (.int .u64 stir2)]⟩ Hx25 fun v26 Hx27 =>
 K (.tuple #[(.int .u64 0), (.bool false), (.bool false)]) Hx27)
else
 (bif ((state4 : Int) == 3) then
 hcall PR f_ref16_Cycle_marking ⟨[(.pointer c1), (.int .u64 stir2)]⟩ H fun v28 Hx29 =>
 K (.tuple #[(.int .u64 0), (.bool false), (.bool false)]) Hx29
else
 (bif ((state4 : Int) == 4) then
 nilP c1 fun ca30 =>
 ldP (ca30.add 3) H fun M31 =>
 hcall PR f_ref11_Marker_Step ⟨[(.pointer M31)]⟩ H fun v32 Hx33 =>
 asB v32 fun t34 =>
 (bif (!t34) then
 nilP c1 fun ca35 =>
 ldP (ca35.add 4) Hx33 fun R36 =>
 hcall PR f_ref11_Reacher_Step ⟨[(.pointer R36)]⟩ Hx33 fun v37 Hx38 =>
 asB v37 fun t39 =>
 (bif (!t39) then
 hcall PR f_ref16_Cycle_summary ⟨[(.pointer c1)]⟩ Hx38 fun v40 Hx41 =>
 K (.tuple #[(.int .u64 0), (.bool false), (.bool false)]) Hx41
else
 K (.tuple #[(.int .u64 0), (.bool false), (.bool false)]) Hx38)
else
 K (.tuple #[(.int .u64 0), (.bool false), (.bool false)]) Hx33)
else
 (bif ((state4 : Int) == 5) then
 nilP c1 fun ca42 =>
 ldP (ca42.add 5) H fun W43 =>
 hcall PR f_ref11_Sweeper_Step ⟨[(.pointer W43)]⟩ H fun v44 Hx45 =>
 tup2 v44 fun v46 v47 =>
 asI .u64 v46 fun t48 =>
 asB v47 fun t49 =>
 (bif t49 then
 K (.tuple #[(.int .u64 t48), (.bool false), (.bool false)]) Hx45
else
 nilP c1 fun ca50 =>
 ldP (ca50.add 2) Hx45 fun S51 =>
 hcall PR f_ref11_Shake_End ⟨[(.pointer S51)]⟩ Hx45 fun v52 Hx53 =>
 asB v52 fun t54 =>
 nilP c1 fun ca55 =>
 st (ca55.add 9) (.int .i64 0) Hx53 fun Hx56 =>
 K (.tuple #[(.int .u64 0), (.bool true), (.bool true)]) Hx56)
else
 K (.tuple #[(.int .u64 0), (.bool false), (.bool false)]) H)))))
theorem E_ref16_Cycle_unit (c1 : Option Addr) (stir2 : Int) (H : Hp) (K : Value → Hp → Prop) : B_ref16_Cycle_unit c1 stir2 H K = denF Tryz.prog Tryz.f71 .n [(.pointer c1), (.int .u64 stir2)] H K := by kernel_rfl
theorem den_ref16_Cycle_unit {c1 : Option Addr} {stir2 : Int} {H : Hp} {K : Value → Hp → Prop} (h : B_ref16_Cycle_unit c1 stir2 H K) : hcall PR f_ref16_Cycle_unit ⟨[(.pointer c1), (.int .u64 stir2)]⟩ H K := denF_call Tryz.func71 PR_mixed (Eq.mp (E_ref16_Cycle_unit c1 stir2 H K) h)

def B_ref16_Cycle_Doomed (c1 : Option Addr) (serial2 : Int) (H : Hp) (K : Value → Hp → Prop) : Prop :=
 nilP c1 fun ca3 =>
 ldI .i64 (ca3.add 9) H fun state4 =>
 (bif ((state4 : Int) == 5) then
 nilP c1 fun ca5 =>
 ldP (ca5.add 5) H fun W6 =>
 hcall PR f_ref11_Sweeper_Will ⟨[(.pointer W6), (.int .u64 serial2)]⟩ H fun v7 Hx8 =>
 asB v7 fun t9 =>
 K (.bool t9) Hx8
else
 K (.bool false) H)
theorem E_ref16_Cycle_Doomed (c1 : Option Addr) (serial2 : Int) (H : Hp) (K : Value → Hp → Prop) : B_ref16_Cycle_Doomed c1 serial2 H K = denF Tryz.prog Tryz.f79 .n [(.pointer c1), (.int .u64 serial2)] H K := by kernel_rfl
theorem den_ref16_Cycle_Doomed {c1 : Option Addr} {serial2 : Int} {H : Hp} {K : Value → Hp → Prop} (h : B_ref16_Cycle_Doomed c1 serial2 H K) : hcall PR f_ref16_Cycle_Doomed ⟨[(.pointer c1), (.int .u64 serial2)]⟩ H K := denF_call Tryz.func79 PR_mixed (Eq.mp (E_ref16_Cycle_Doomed c1 serial2 H K) h)

def B_ref16_Cycle_marking (c1 : Option Addr) (stir2 : Int) (H : Hp) (K : Value → Hp → Prop) : Prop :=
 nilP c1 fun ca3 =>
 ldP (ca3.add 3) H fun M4 =>
 hcall PR f_ref11_Marker_Step ⟨[(.pointer M4)]⟩ H fun v5 Hx6 =>
 asB v5 fun t7 =>
 (bif (!t7) then
 nilP c1 fun ca8 =>
 st (ca8.add 10) (.int .u64 stir2) Hx6 fun Hx9 =>
 nilP c1 fun ca10 =>
 ldP (ca10.add 4) Hx9 fun R11 =>
 nilP c1 fun ca12 =>
 ldI .i64 (ca12.add 7) Hx9 fun suspect13 =>
 hcall PR f_ref11_Reacher_Begin ⟨[(.pointer R11), (.int .i64 suspect13)]⟩ Hx9 fun v14 Hx15 =>
 nilP c1 fun ca16 =>
 st (ca16.add 9) (.int .i64 4) Hx15 fun Hx17 =>
 K (.tuple #[]) Hx17
else
 K (.tuple #[]) Hx6)
theorem E_ref16_Cycle_marking (c1 : Option Addr) (stir2 : Int) (H : Hp) (K : Value → Hp → Prop) : B_ref16_Cycle_marking c1 stir2 H K = denF Tryz.prog Tryz.f116 .n [(.pointer c1), (.int .u64 stir2)] H K := by kernel_rfl
theorem den_ref16_Cycle_marking {c1 : Option Addr} {stir2 : Int} {H : Hp} {K : Value → Hp → Prop} (h : B_ref16_Cycle_marking c1 stir2 H K) : hcall PR f_ref16_Cycle_marking ⟨[(.pointer c1), (.int .u64 stir2)]⟩ H K := denF_call Tryz.func116 PR_mixed (Eq.mp (E_ref16_Cycle_marking c1 stir2 H K) h)

def B_ref16_Cycle_summary (c1 : Option Addr) (H : Hp) (K : Value → Hp → Prop) : Prop :=
 nilP c1 fun ca2 =>
 ldI .u64 (ca2.add 10) H fun stir3 =>
 nilP c1 fun ca4 =>
 ldP (ca4.add 4) H fun R5 =>
 nilP R5 fun Ra6 =>
 ldSl (Ra6.add 2) H fun RowsP7 RowsL8 RowsC9 =>
 nilP c1 fun ca10 =>
 st (ca10.add 11) (.int .u64 stir3) H fun Hx11 =>
 st ((ca10.add 11).add 1) (.slice RowsP7 RowsL8 RowsC9) Hx11 fun Hx12 =>
 st ((ca10.add 11).add 2) (.slice none 0 0) Hx12 fun Hx13 =>
 st ((ca10.add 11).add 3) (.bool true) Hx13 fun Hx14 =>
 nilP c1 fun ca15 =>
 ldP (ca15.add 1) Hx14 fun P16 =>
 hcall PR f_ref11_Paint_Outs ⟨[(.pointer P16)]⟩ Hx14 fun v17 Hx18 =>
 asSl v17 fun tP19 tL20 tC21 =>
 ∃ (I22 : Int → Hp → Prop) (m23 : Int → Hp → Nat), I22 0 Hx18 ∧ ∀ i25 : Int, ∀ Hx24 : Hp, I22 i25 Hx24 →
 (bif (decide ((i25 : Int) < (tL20 : Int))) then
 ∀ R26 : Hp → Prop, (∀ Hx27 : Hp, (
 I22 (IntKind.i64.wrap (i25 + 1)) Hx27 ∧ m23 (IntKind.i64.wrap (i25 + 1)) Hx27 < m23 i25 Hx24) → R26 Hx27) →
 idxA tP19 tL20 i25 3 fun el28 =>
 ldI .i64 (el28.add 2) Hx24 fun Rank29 =>
 nilP c1 fun ca30 =>
 ldI .i64 (ca30.add 7) Hx24 fun suspect31 =>
 (bif (decide ((Rank29 : Int) > suspect31)) then
 nilP c1 fun ca32 =>
 ldSl ((ca32.add 11).add 2) Hx24 fun OutsP33 OutsL34 OutsC35 =>
 idxA tP19 tL20 i25 3 fun el36 =>
 ldI .i64 el36 Hx24 fun Node37 =>
 ldI .u64 (el36.add 1) Hx24 fun Serial38 =>
 ldI .i64 (el36.add 2) Hx24 fun Rank39 =>
 newB (.cells #[(.int .i64 Node37), (.int .u64 Serial38), (.int .i64 Rank39)] ty_api_Out) Hx24 fun b40 Hx41 =>
 (ldSl ((ca32.add 11).add 2) Hx41 fun OutsP42 OutsL43 OutsC44 =>
 ((.slice OutsP42 OutsL43 OutsC44) : Value) = (.slice OutsP33 OutsL34 OutsC35)) ∧
 evW PR (Builtin.append_ #[ty_Sapi_Out, ty_Sapi_Out] ty_Sapi_Out #[(.slice OutsP33 OutsL34 OutsC35), (.slice (some ⟨b40, 0, none⟩) 1 1)]) Hx41 fun v45 Hx46 =>
 asSl v45 fun tP47 tL48 tC49 =>
 nilP c1 fun ca50 =>
 st ((ca50.add 11).add 2) (.slice tP47 tL48 tC49) Hx46 fun Hx51 =>
 R26 Hx51
else
 R26 Hx24)
else
 nilP c1 fun ca52 =>
 ldP (ca52.add 5) Hx24 fun W53 =>
 hcall PR f_ref11_Sweeper_Begin ⟨[(.pointer W53)]⟩ Hx24 fun v54 Hx55 =>
 nilP c1 fun ca56 =>
 st (ca56.add 9) (.int .i64 5) Hx55 fun Hx57 =>
 K (.tuple #[]) Hx57)
theorem E_ref16_Cycle_summary (c1 : Option Addr) (H : Hp) (K : Value → Hp → Prop) : B_ref16_Cycle_summary c1 H K = denF Tryz.prog Tryz.f119 (.seq none .n (.seq none .n (.seq none (.seq none .n (.sub (.loop ⟨[(3, .int .i64)], [0, 2]⟩ (.seq none .n (.seq (some ⟨[], [0, 2, 3]⟩) .n .n))))) .n))) [(.pointer c1)] H K := by kernel_rfl
theorem den_ref16_Cycle_summary {c1 : Option Addr} {H : Hp} {K : Value → Hp → Prop} (h : B_ref16_Cycle_summary c1 H K) : hcall PR f_ref16_Cycle_summary ⟨[(.pointer c1)]⟩ H K := denF_call Tryz.func119 PR_mixed (Eq.mp (E_ref16_Cycle_summary c1 H K) h)

end Go.Proofs.YtflfodcemnapeaaGreat

namespace Go.Proofs.YtflfodcemnapeaaGreat
set_option linter.unusedSimpArgs false
set_option linter.unusedVariables false
open Go
def Cy.dst (c : Cy) : Int := if c.st ≠ 0 then c.st else if c.sk.ph ≠ 0 then 1 else 0
/-- Where its parts lie, and what is loose in them. -/
structure RYX where
 qb : Nat
 kb : Nat
 mb : Nat
 rcb : Nat
 wb : Nat
 a : Int
 n : Int
 v1 : Value
 v2 : Value
 v3 : Value
 v4 : Value
 v5 : Value
 v6 : Value
 v7 : Value
 v8 : Value
 v9 : Value
 v10 : Value
 rT : Nat
 pl : Int
 e : Int
 tp : Option Addr
 tc : Nat
 op : Option Addr
 oc : Nat
 T : Nat
 wT : Nat
def ryCells (rb : Nat) (d : Int) (c : Cy) (x : RYX) : Array Value := #[ptrV rb, ptrV x.qb, ptrV x.kb, ptrV x.mb, ptrV x.rcb, ptrV x.wb, .int .i64 x.n, .int .i64 c.sus, .int .i64 c.work, .int .i64 d, .int .u64 c.stir, .int .u64 c.told.stir, .slice x.tp c.told.rows.length x.tc, .slice x.op c.told.outs.length x.oc, .bool c.told.ok]
def ryBare (rb : Nat) (x : RYX) : Prt := Prt.one x.rcb (.cells #[ptrV rb, ptrV x.qb, x.v1, x.v2, x.v3, x.v4, x.v5, x.v6, x.v7, x.v8, x.v9, x.v10] x.rT (0, 0))
def ryR (rb : Nat) (st : Int) (r : Rc) (x : RYX) : Prt := if st = 4 then RRc x.rcb rb x.qb r else ryBare rb x
/-- What holds beside. -/
structure RyOk (c : Cy) (x : RYX) : Prop where
 ok : c.ok
 n : x.n + 1 = c.sk.ar.length
 idle : c.sk.ph = 0 → c.sk.ar = List.replicate c.sk.ar.length false ∧ c.sk.sc = List.replicate c.sk.ar.length false
 a : c.m.pass = true → x.a = c.m.at_
 sw : c.st = 5 → x.pl = c.pl ∧ x.e = c.e ∧ c.e = c.fin
def ryL (b rb : Nat) (c : Cy) (x : RYX) : List Prt :=
 [Prt.one b (.cells (ryCells rb c.dst c x) x.T (0, 0)), RShk x.kb x.n c.sk, RPaint x.qb rb c.p, RMkP x.mb rb x.qb x.a c.m, ryR rb c.st c.r x, SwP x.wT x.wb rb x.qb x.pl x.e, RowsP x.tp x.tc c.told.rows, Prt.row 3 x.op c.told.outs.length x.oc (cel outC c.told.outs), Prt.pure (RyOk c x)]
/-- The document's collector, as one part. -/
def RyP (b rb : Nat) (c : Cy) : Prt := Prt.ex fun x => Prt.list (ryL b rb c x)
theorem Cy.ok.dst {c : Cy} (h : c.ok) : (c.state = 0 ∧ c.dst = 0 ∧ c.st = 0 ∧ c.sk.ph = 0) ∨ (c.state = 1 ∧ c.dst = 1 ∧ c.st = 0 ∧ c.sk.ph = 1) ∨ (c.state = 2 ∧ c.dst = 1 ∧ c.st = 0 ∧ (c.sk.ph = 2 ∨ c.sk.ph = 3)) ∨ (c.state = 3 ∧ c.dst = 3 ∧ c.st = 3 ∧ c.sk.ph = 3) ∨ (c.state = 4 ∧ c.dst = 4 ∧ c.st = 4 ∧ c.sk.ph = 3) ∨ (c.state = 5 ∧ c.dst = 5 ∧ c.st = 5 ∧ c.sk.ph = 3) := by
 unfold Cy.dst
 rcases h.state with ⟨e, e1, e2⟩ | ⟨e, e1, e2⟩ | ⟨e, e1, e2⟩ | ⟨e, e1, e2⟩ | ⟨e, e1, e2⟩ | ⟨e, e1, e2⟩
 ·rw [if_neg (by omega), if_neg (by omega)]; omega
 ·rw [if_neg (by omega), if_pos (by omega)]; omega
 ·rw [if_neg (by omega), if_pos (by omega)]; omega
 ·rw [if_pos (by omega)]; omega
 ·rw [if_pos (by omega)]; omega
 ·rw [if_pos (by omega)]; omega
theorem ans_idle (k : Sk) (m : Int) : ((k.ans m).1.ph = 0 ↔ k.ph = 0) ∧ (k.ph = 0 → (k.ans m).1 = k) := by
 unfold Sk.ans
 split
 ·exact ⟨Iff.rfl, fun _ => rfl⟩
 ·split
  ·split
   ·exact ⟨Iff.rfl, fun _ => rfl⟩
   ·refine ⟨?_, fun h => by omega⟩
    simp only
    split <;> omega
  ·split
   ·split
    ·exact ⟨Iff.rfl, fun _ => rfl⟩
    ·refine ⟨?_, fun h => by omega⟩
     simp only
     split <;> omega
   ·exact ⟨Iff.rfl, fun _ => rfl⟩
theorem RyOk.paint {c : Cy} {x : RYX} (h : RyOk c x) {p : Ps} (hp : p.ok) : RyOk { c with p := p } x := ⟨h.ok.paint hp, h.n, h.idle, h.a, h.sw⟩
theorem RyOk.shake {c : Cy} {x : RYX} (h : RyOk c x) {m : Int} (s : Hs) (held : List Id) : RyOk (cyShake s c m held).2 x ∧ ({ c with sk := (c.sk.ans m).1 } : Cy).dst = c.dst := by
 have h1 := ans_len c.sk m
 have h2 := ans_idle c.sk m
 refine ⟨?_, ?_⟩
 ·have hok := h.ok.shake (s := s) (m := m) (held := held)
  have idle : (c.sk.ans m).1.ph = 0 → (c.sk.ans m).1.ar = List.replicate (c.sk.ans m).1.ar.length false ∧ (c.sk.ans m).1.sc = List.replicate (c.sk.ans m).1.ar.length false := fun hp => by
   have hp0 := h2.1.1 hp
   rw [h2.2 hp0]
   exact h.idle hp0
  have hn : x.n + 1 = (c.sk.ans m).1.ar.length := by rw [h1.1]; exact h.n
  unfold cyShake at hok ⊢
  split
  ·rename_i hq
   rw [if_pos hq] at hok
   exact ⟨hok, hn, idle, h.a, h.sw⟩
  ·rename_i hq
   rw [if_neg hq] at hok
   exact ⟨hok, hn, idle, h.a, h.sw⟩
 ·unfold Cy.dst
  simp only
  by_cases hs : c.st ≠ 0
  ·rw [if_pos hs, if_pos hs]
  ·rw [if_neg hs, if_neg hs]
   by_cases hp : c.sk.ph = 0
   ·rw [if_neg (by rw [h2.1.2 hp]; decide), if_neg (by rw [hp]; decide)]
   ·rw [if_pos (fun e => hp (h2.1.1 e)), if_pos hp]

section
variable {H0 H : Hp} {L M N : List Prt} {i j k b rb : Nat} {x : RYX} {s : Hs} {c : Cy} {K : Value → Hp → Prop}
theorem rskV {n : Int} {q : Sk} {kb : Nat} (h : St H0 L H) (hi : L[i]? = some (RShk kb n q)) : hcell H ⟨kb, 1, none⟩ = some (.int .i64 q.ph) ∧ (∃ p cap, hcell H ⟨kb, 2, none⟩ = some (.slice p q.ar.length cap) ∧ Rd H 1 p q.ar.length (q.ar.map .bool)) ∧ ∃ p cap, hcell H ⟨kb, 3, none⟩ = some (.slice p q.sc.length cap) ∧ Rd H 1 p q.sc.length (q.sc.map .bool) := by
 obtain ⟨z, h1⟩ := h.openEx (M := fun (x : Option Addr × Nat × Option Addr × Nat × Nat) => [Prt.one kb (.cells #[.int .i64 n, .int .i64 q.ph, .slice x.1 q.ar.length x.2.1, .slice x.2.2.1 q.sc.length x.2.2.2.1] x.2.2.2.2 (0, 0)), Prt.row 1 x.1 q.ar.length x.2.1 (q.ar.map .bool), Prt.row 1 x.2.2.1 q.sc.length x.2.2.2.1 (q.sc.map .bool)]) hi
 exact ⟨h1.cell (i := 0) rfl rfl, ⟨_, _, h1.cell (i := 0) rfl rfl, h1.row_rd (i := 1) rfl⟩, _, _, h1.cell (i := 0) rfl rfl, h1.row_rd (i := 2) rfl⟩
theorem ryOpened (h : St H0 L H) (hk : L[k]? = some (RyP b rb c)) : ∃ x, St H0 (ryL b rb c x ++ L.set k .nil) H ∧ RyOk c x := by
 obtain ⟨x, h1⟩ := h.openEx hk
 exact ⟨x, h1, h1.fact (i := 8) rfl⟩
theorem ryShut {B : Prt} {x : RYX} (h : St H0 (N ++ (ryL b rb c x ++ L.set k .nil)) H) (hk : L[k]? = some B) : St H0 (N ++ L.set k (RyP b rb c)) H := St.shutExN (A := ryL b rb c) (N := N) x h hk
theorem ry_ok (h : St H0 L H) (hk : L[k]? = some (RyP b rb c)) : c.ok := let ⟨_, _, h⟩ := ryOpened h hk; h.ok

/-! ## Asked -/
theorem ryStateP (g : St H0 (ryL b rb c x ++ M) H) (ho : c.ok) (hK : K (.int .i64 c.state) H) : hcall PR f_ref16_Cycle_State ⟨[.pointer (some ⟨b, 0, none⟩)]⟩ H K := by
 apply den_ref16_Cycle_State
 unfold B_ref16_Cycle_State
 have hd := ho.dst
 intro R2 hR2
 have tell : c.dst = c.state → R2 H := fun e => hR2 H (by
  simp only [Za,Zb,Zc,Zd,Zf,Zh,Zi,Zk,Zl,Zm,Zn,Zo,Zp,Zr,Zs,Zx,Zt,Zu,Zy,Zz,Zv,Zw,ZA,ZB,ZC,ZD]
  refine ldI_of (g.cell (i := 0) rfl rfl) ?_
  rw [← e] at hK
  exact hK)
 simp only [Za,Zb,Zc,Zd,Zf,Zh,Zi,Zk,Zl,Zm,Zn,Zo,Zp,Zr,Zs,Zx,Zt,Zu,Zy,Zz,Zv,Zw,ZA,ZB,ZC,ZD]
 refine ldI_of (g.cell (i := 0) rfl rfl) ?_
 by_cases h1 : c.dst = 1
 ·refine bif_eq h1 (ldP_of (g.cell (i := 0) rfl rfl) ?_)
  simp only [Za,Zb,Zc,Zd,Zf,Zh,Zi,Zk,Zl,Zm,Zn,Zo,Zp,Zr,Zs,Zx,Zt,Zu,Zy,Zz,Zv,Zw,ZA,ZB,ZC,ZD]
  refine ldI_of (rskV g (i := 1) rfl).1 ?_
  by_cases h2 : c.sk.ph > 1
  ·refine bif_pos h2 ?_
   have e : c.state = 2 := by omega
   rw [e] at hK
   exact hK
  ·exact bif_neg h2 (tell (by omega))
 ·exact bif_ne h1 (tell (by omega))
theorem ryStateC (h : St H0 L H) (hk : L[k]? = some (RyP b rb c)) (hK : K (.int .i64 c.state) H) : hcall PR f_ref16_Cycle_State ⟨[.pointer (some ⟨b, 0, none⟩)]⟩ H K := by
 obtain ⟨x, g, ho⟩ := ryOpened h hk
 exact ryStateP g ho.ok hK
theorem ryOnP (g : St H0 (ryL b rb c x ++ M) H) (ho : c.ok) (hK : K (.bool c.isOpen) H) : hcall PR f_ref16_Cycle_on ⟨[.pointer (some ⟨b, 0, none⟩)]⟩ H K := by
 apply den_ref16_Cycle_on
 unfold B_ref16_Cycle_on
 have hd := ho.dst
 simp only [Za,Zb,Zc,Zd,Zf,Zh,Zi,Zk,Zl,Zm,Zn,Zo,Zp,Zr,Zs,Zx,Zt,Zu,Zy,Zz,Zv,Zw,ZA,ZB,ZC,ZD]
 refine ldI_of (g.cell (i := 0) rfl rfl) ?_
 unfold Cy.isOpen at hK
 by_cases h1 : c.dst ≥ 1
 ·refine bif_pos h1 (ldI_of (g.cell (i := 0) rfl rfl) ?_)
  rw [decide_eq_true (show 1 ≤ c.state by omega), Bool.true_and, decide_eq_decide.2 (show c.state ≤ 4 ↔ c.dst ≤ 4 by omega)] at hK
  exact hK
 ·refine bif_neg h1 ?_
  rw [decide_eq_false (show ¬ 1 ≤ c.state by omega), Bool.false_and] at hK
  exact hK
theorem rskArmedC {n : Int} {q : Sk} {kb : Nat} {m : Int} {Q : Prop} (h : St H0 L H) (hi : L[i]? = some (RShk kb n q)) (hQ : ∀ p cap, hcell H ⟨kb, 2, none⟩ = some (.slice p q.ar.length cap) → (∀ K : Value → Hp → Prop, K (.bool (isOf q.ar m)) H → hcall PR f_ref11_Is ⟨[.slice p q.ar.length cap, .int .i64 m]⟩ H K) → Q) : Q := by
 obtain ⟨_, ⟨p, cap, h1, h2⟩, _⟩ := rskV h hi
 exact hQ p cap h1 fun K hK => rIs_ok h2 hK
theorem rskScannedC {n : Int} {q : Sk} {kb : Nat} {m : Int} {Q : Prop} (h : St H0 L H) (hi : L[i]? = some (RShk kb n q)) (hQ : ∀ p cap, hcell H ⟨kb, 3, none⟩ = some (.slice p q.sc.length cap) → (∀ K : Value → Hp → Prop, K (.bool (isOf q.sc m)) H → hcall PR f_ref11_Is ⟨[.slice p q.sc.length cap, .int .i64 m]⟩ H K) → Q) : Q := by
 obtain ⟨_, _, p, cap, h1, h2⟩ := rskV h hi
 exact hQ p cap h1 fun K hK => rIs_ok h2 hK

/-! ## Told -/
theorem ryStoreC {m : Int} {old now : Id} (h : St H0 L H) (hi : L[i]? = some (RHeap rb s)) (hk : L[k]? = some (RyP b rb c)) (hik : i ≠ k) (hlt : c.p.lt 800000) (hK : ∀ H', St H0 (L.set k (RyP b rb (cyStore s c m old now))) H' → K (.tuple #[]) H') :
  hcall PR f_ref16_Cycle_Store ⟨[.pointer (some ⟨b, 0, none⟩), .int .i64 m, .agg #[.int .i64 old.n, .int .u64 old.s], .agg #[.int .i64 now.n, .int .u64 now.s]]⟩ H K := by
 apply den_ref16_Cycle_Store
 unfold B_ref16_Cycle_Store
 intro b7 hb7
 have h1 := h.alloc (o := .cells #[.int .i64 old.n, .int .u64 old.s] ty_api_ID) hb7
 intro b9 hb9
 have h2 := h1.alloc (o := .cells #[.int .i64 now.n, .int .u64 now.s] ty_api_ID) hb9
 have hk2 : (Prt.one b9 (.cells #[.int .i64 now.n, .int .u64 now.s] ty_api_ID (0, 0)) :: Prt.one b7 (.cells #[.int .i64 old.n, .int .u64 old.s] ty_api_ID (0, 0)) :: L)[k + 2]? = some (RyP b rb c) := hk
 obtain ⟨x, g, ho⟩ := ryOpened h2 hk2
 have g : St H0 (ryL b rb c x ++ (Prt.one b9 (.cells #[.int .i64 now.n, .int .u64 now.s] ty_api_ID (0, 0)) :: Prt.one b7 (.cells #[.int .i64 old.n, .int .u64 old.s] ty_api_ID (0, 0)) :: L.set k .nil)) _ := g
 have done : ∀ c' H', cyStore s c m old now = c' → (∃ x', St H0 (ryL b rb c' x' ++ (Prt.one b9 (.cells #[.int .i64 now.n, .int .u64 now.s] ty_api_ID (0, 0)) :: Prt.one b7 (.cells #[.int .i64 old.n, .int .u64 old.s] ty_api_ID (0, 0)) :: L.set k .nil)) H') → K (.tuple #[]) H' := fun c' H' e ⟨x', g'⟩ => by
  have h3 := ryShut (N := []) (L := Prt.one b9 (.cells #[.int .i64 now.n, .int .u64 now.s] ty_api_ID (0, 0)) :: Prt.one b7 (.cells #[.int .i64 old.n, .int .u64 old.s] ty_api_ID (0, 0)) :: L) (k := k + 2) g' hk2
  have h4 : St H0 (L.set k (RyP b rb c')) H' := St.lesses (M := [_, _]) h3
  rw [← e] at h4
  exact hK H' h4
 refine ryOnP g ho.ok ?_
 simp only [Za,Zb,Zc,Zd,Zf,Zh,Zi,Zk,Zl,Zm,Zn,Zo,Zp,Zr,Zs,Zx,Zt,Zu,Zy,Zz,Zv,Zw,ZA,ZB,ZC,ZD]
 cases hop : c.isOpen
 ·simp only [Bool.not_false, Zv]
  exact done c _ (by unfold cyStore; rw [if_neg (by rw [hop]; simp)]) ⟨x, g⟩
 simp only [Bool.not_true, Zw]
 refine ldP_of (g.cell (i := 0) rfl rfl) ?_
 simp only [Za,Zb,Zc,Zd,Zf,Zh,Zi,Zk,Zl,Zm,Zn,Zo,Zp,Zr,Zs,Zx,Zt,Zu,Zy,Zz,Zv,Zw,ZA,ZB,ZC,ZD]
 refine rskArmedC (m := m) g (i := 1) rfl fun ap ac ha har => ldSl_of ha (har _ ?_)
 simp only [Za,Zb,Zc,Zd,Zf,Zh,Zi,Zk,Zl,Zm,Zn,Zo,Zp,Zr,Zs,Zx,Zt,Zu,Zy,Zz,Zv,Zw,ZA,ZB,ZC,ZD]
 cases har : isOf c.sk.ar m
 ·simp only [Bool.not_false, Zv]
  exact done c _ (by unfold cyStore; rw [if_neg (by rw [har]; simp)]) ⟨x, g⟩
 simp only [Bool.not_true, Zw]
 have hi' : ∀ A B C D E F' G I J K' L' : Prt, (A :: B :: C :: D :: E :: F' :: G :: I :: J :: K' :: L' :: L.set k .nil)[i + 11]? = some (RHeap rb s) := fun _ _ _ _ _ _ _ _ _ _ _ => set_get_ne hi hik
 refine ldP_of (g.cell (i := 0) rfl rfl) (ldI_of (g.cell (i := 10) rfl rfl) (ldI_of (g.cell (i := 10) rfl rfl) (rShadeC (y := old) g (i := i + 11) (j := 2) (hi' _ _ _ _ _ _ _ _ _ _ _) rfl (by omega) (hlt.mono (by omega)) fun H3 g3 => ?_)))
 refine ldP_of (g3.cell (i := 0) rfl rfl) ?_
 simp only [Za,Zb,Zc,Zd,Zf,Zh,Zi,Zk,Zl,Zm,Zn,Zo,Zp,Zr,Zs,Zx,Zt,Zu,Zy,Zz,Zv,Zw,ZA,ZB,ZC,ZD]
 refine rskScannedC (m := m) g3 (i := 1) rfl fun ap ac ha hsn => ldSl_of ha (hsn _ ?_)
 simp only [Za,Zb,Zc,Zd,Zf,Zh,Zi,Zk,Zl,Zm,Zn,Zo,Zp,Zr,Zs,Zx,Zt,Zu,Zy,Zz,Zv,Zw,ZA,ZB,ZC,ZD]
 cases hsc : isOf c.sk.sc m
 ·simp only [Bool.not_false, Zv]
  have e : cyStore s c m old now = { c with p := pShade s (pShade s c.p old 0) now 0 } := by unfold cyStore; rw [if_pos ⟨hop, har⟩, if_neg (by rw [hsc]; decide)]
  refine ldP_of (g3.cell (i := 0) rfl rfl) (ldI_of (g3.cell (i := 9) rfl rfl) (ldI_of (g3.cell (i := 9) rfl rfl) (rShadeC (y := now) g3 (i := i + 11) (j := 2) (hi' _ _ _ _ _ _ _ _ _ _ _) rfl (by omega) (hlt.shade.mono (by omega)) fun H4 g4 => ?_)))
  have g5 := g4.refact (i := 8) (q := RyOk { c with p := pShade s (pShade s c.p old 0) now 0 } x) rfl (ho.paint ho.ok.p.shade.shade)
  exact done _ H4 e ⟨x, g5⟩
 ·simp only [Bool.not_true, Zw]
  have e : cyStore s c m old now = { c with p := pShade s c.p old 0 } := by unfold cyStore; rw [if_pos ⟨hop, har⟩, if_pos hsc]
  have g5 := g3.refact (i := 8) (q := RyOk { c with p := pShade s c.p old 0 } x) rfl (ho.paint ho.ok.p.shade)
  exact done _ H3 e ⟨x, g5⟩
theorem rHeapNode (h : St H0 L H) (hi : L[i]? = some (RHeap rb s)) : hcell H ⟨rb, 0, none⟩ = some (.int .i64 s.node) ∧ hcell H ⟨rb, 2, none⟩ = some (.int .u64 s.last) := by
 obtain ⟨y, N, gz, _, _⟩ := rheapOpenL h hi (.inl rfl)
 exact ⟨(rheapV gz).node, (rheapV gz).last⟩
theorem ryBornC {m q : Int} (h : St H0 L H) (hi : L[i]? = some (RHeap rb s)) (hk : L[k]? = some (RyP b rb c)) (hik : i ≠ k) (hlt : c.p.lt 800000) (hK : ∀ H', St H0 (L.set k (RyP b rb (cyBorn s c m q))) H' → K (.tuple #[]) H') :
  hcall PR f_ref16_Cycle_Born ⟨[.pointer (some ⟨b, 0, none⟩), .int .i64 m, .int .u64 q]⟩ H K := by
 obtain ⟨x, g, ho⟩ := ryOpened h hk
 apply den_ref16_Cycle_Born
 unfold B_ref16_Cycle_Born
 have done : ∀ c' H', cyBorn s c m q = c' → (∃ x', St H0 (ryL b rb c' x' ++ L.set k .nil) H') → K (.tuple #[]) H' := fun c' H' e ⟨x', g'⟩ => by
  have h3 : St H0 (L.set k (RyP b rb c')) H' := ryShut (N := []) g' hk
  rw [← e] at h3
  exact hK H' h3
 refine ryOnP g ho.ok ?_
 simp only [Za,Zb,Zc,Zd,Zf,Zh,Zi,Zk,Zl,Zm,Zn,Zo,Zp,Zr,Zs,Zx,Zt,Zu,Zy,Zz,Zv,Zw,ZA,ZB,ZC,ZD]
 cases hop : c.isOpen
 ·simp only [Bool.not_false, Zv]
  exact done c _ (by unfold cyBorn; rw [if_neg (by rw [hop]; simp)]) ⟨x, g⟩
 simp only [Bool.not_true, Zw]
 refine ldP_of (g.cell (i := 0) rfl rfl) ?_
 simp only [Za,Zb,Zc,Zd,Zf,Zh,Zi,Zk,Zl,Zm,Zn,Zo,Zp,Zr,Zs,Zx,Zt,Zu,Zy,Zz,Zv,Zw,ZA,ZB,ZC,ZD]
 refine rskArmedC (m := m) g (i := 1) rfl fun ap ac ha har => ldSl_of ha (har _ ?_)
 simp only [Za,Zb,Zc,Zd,Zf,Zh,Zi,Zk,Zl,Zm,Zn,Zo,Zp,Zr,Zs,Zx,Zt,Zu,Zy,Zz,Zv,Zw,ZA,ZB,ZC,ZD]
 cases har : isOf c.sk.ar m
 ·simp only [Bool.not_false, Zv]
  exact done c _ (by unfold cyBorn; rw [if_neg (by rw [har]; simp)]) ⟨x, g⟩
 simp only [Bool.not_true, Zw]
 refine ryStateP g ho.ok ?_
 simp only [Za,Zb,Zc,Zd,Zf,Zh,Zi,Zk,Zl,Zm,Zn,Zo,Zp,Zr,Zs,Zx,Zt,Zu,Zy,Zz,Zv,Zw,ZA,ZB,ZC,ZD]
 by_cases hs1 : c.state = 1
 ·have e : cyBorn s c m q = { c with p := pShade s c.p ⟨s.node, q⟩ 0 } := by unfold cyBorn; rw [if_pos ⟨hop, har⟩, if_pos hs1]
  refine bif_eq hs1 (ldP_of (g.cell (i := 0) rfl rfl) (ldP_of (g.cell (i := 0) rfl rfl) ?_))
  simp only [Za,Zb,Zc,Zd,Zf,Zh,Zi,Zk,Zl,Zm,Zn,Zo,Zp,Zr,Zs,Zx,Zt,Zu,Zy,Zz,Zv,Zw,ZA,ZB,ZC,ZD]
  refine ldI_of (rHeapNode g (i := i + 9) (set_get_ne hi hik)).1 (rShadeC (y := ⟨s.node, q⟩) g (i := i + 9) (j := 2) (set_get_ne hi hik) rfl (by omega) (hlt.mono (by omega)) fun H4 g4 => ?_)
  have g5 := g4.refact (i := 8) (q := RyOk { c with p := pShade s c.p ⟨s.node, q⟩ 0 } x) rfl (ho.paint ho.ok.p.shade)
  exact done _ H4 e ⟨x, g5⟩
 ·have e : cyBorn s c m q = { c with p := pBlacken s c.p q } := by unfold cyBorn; rw [if_pos ⟨hop, har⟩, if_neg hs1]
  refine bif_ne hs1 (ldP_of (g.cell (i := 0) rfl rfl) (rBlackenC g (i := i + 9) (j := 2) (set_get_ne hi hik) rfl (by omega) (hlt.mono (by omega)) fun H4 g4 => ?_))
  have g5 := g4.refact (i := 8) (q := RyOk { c with p := pBlacken s c.p q } x) rfl (ho.paint ho.ok.p.blacken)
  exact done _ H4 e ⟨x, g5⟩
theorem ryTouchC {y : Id} (h : St H0 L H) (hi : L[i]? = some (RHeap rb s)) (hk : L[k]? = some (RyP b rb c)) (hik : i ≠ k) (hlt : c.p.lt 800000) (hK : ∀ H', St H0 (L.set k (RyP b rb (cyTouch s c y))) H' → K (.tuple #[]) H') :
  hcall PR f_ref16_Cycle_Touch ⟨[.pointer (some ⟨b, 0, none⟩), .agg #[.int .i64 y.n, .int .u64 y.s]]⟩ H K := by
 apply den_ref16_Cycle_Touch
 unfold B_ref16_Cycle_Touch
 intro b4 hb4
 have h1 := h.alloc (o := .cells #[.int .i64 y.n, .int .u64 y.s] ty_api_ID) hb4
 have hk1 : (Prt.one b4 (.cells #[.int .i64 y.n, .int .u64 y.s] ty_api_ID (0, 0)) :: L)[k + 1]? = some (RyP b rb c) := hk
 obtain ⟨x, g, ho⟩ := ryOpened h1 hk1
 have g : St H0 (ryL b rb c x ++ (Prt.one b4 (.cells #[.int .i64 y.n, .int .u64 y.s] ty_api_ID (0, 0)) :: L.set k .nil)) _ := g
 have hd := ho.ok.dst
 have hi' : ∀ A B C D E F' G I J K' : Prt, (A :: B :: C :: D :: E :: F' :: G :: I :: J :: K' :: L.set k .nil)[i + 10]? = some (RHeap rb s) := fun _ _ _ _ _ _ _ _ _ _ => set_get_ne hi hik
 have done : ∀ c' H', cyTouch s c y = c' → (∃ x', St H0 (ryL b rb c' x' ++ (Prt.one b4 (.cells #[.int .i64 y.n, .int .u64 y.s] ty_api_ID (0, 0)) :: L.set k .nil)) H') → K (.tuple #[]) H' := fun c' H' e ⟨x', g'⟩ => by
  have h3 := ryShut (N := []) (L := Prt.one b4 (.cells #[.int .i64 y.n, .int .u64 y.s] ty_api_ID (0, 0)) :: L) (k := k + 1) g' hk1
  have h4 : St H0 (L.set k (RyP b rb c')) H' := St.less h3
  rw [← e] at h4
  exact hK H' h4
 have shade : (c.isOpen = true ∨ (c.state = 5 ∧ y.n ≠ s.node)) → ∀ H', St H0 (ryL b rb c x ++ (Prt.one b4 (.cells #[.int .i64 y.n, .int .u64 y.s] ty_api_ID (0, 0)) :: L.set k .nil)) H' → hcall PR f_ref11_Paint_Shade ⟨[.pointer (some ⟨x.qb, 0, none⟩), .agg #[.int .i64 y.n, .int .u64 y.s], .int .i64 0]⟩ H' fun _ H'' => K (.tuple #[]) H'' := fun hc H' g' => by
  have e : cyTouch s c y = { c with p := pShade s c.p y 0 } := by unfold cyTouch; rw [if_pos hc]
  refine rShadeC (y := y) g' (i := i + 10) (j := 2) (hi' _ _ _ _ _ _ _ _ _ _) rfl (by omega) (hlt.mono (by omega)) fun H4 g4 => ?_
  have g5 := g4.refact (i := 8) (q := RyOk { c with p := pShade s c.p y 0 } x) rfl (ho.paint ho.ok.p.shade)
  exact done _ H4 e ⟨x, g5⟩
 refine ryOnP g ho.ok ?_
 simp only [Za,Zb,Zc,Zd,Zf,Zh,Zi,Zk,Zl,Zm,Zn,Zo,Zp,Zr,Zs,Zx,Zt,Zu,Zy,Zz,Zv,Zw,ZA,ZB,ZC,ZD]
 cases hop : c.isOpen
 ·simp only [Zw]
  refine ldI_of (g.cell (i := 0) rfl rfl) ?_
  by_cases h5 : c.dst = 5
  ·refine bif_eq h5 (ldI_of (g.cell (i := 9) rfl rfl) (ldP_of (g.cell (i := 0) rfl rfl) ?_))
   simp only [Za,Zb,Zc,Zd,Zf,Zh,Zi,Zk,Zl,Zm,Zn,Zo,Zp,Zr,Zs,Zx,Zt,Zu,Zy,Zz,Zv,Zw,ZA,ZB,ZC,ZD]
   refine ldI_of (rHeapNode g (i := i + 10) (hi' _ _ _ _ _ _ _ _ _ _)).1 ?_
   by_cases hy : y.n = s.node
   ·refine bif_neqf hy (done c _ ?_ ⟨x, g⟩)
    unfold cyTouch
    rw [if_neg (fun hh => hh.elim (fun hh => by rw [hop] at hh; cases hh) fun hh => hh.2 hy)]
   ·refine bif_neq hy (ldP_of (g.cell (i := 0) rfl rfl) (ldI_of (g.cell (i := 9) rfl rfl) (ldI_of (g.cell (i := 9) rfl rfl) ?_)))
    exact shade (.inr ⟨by omega, hy⟩) _ g
  ·refine bif_ne h5 (done c _ ?_ ⟨x, g⟩)
   unfold cyTouch
   rw [if_neg (fun hh => hh.elim (fun hh => by rw [hop] at hh; cases hh) fun hh => h5 (by omega))]
 ·simp only [Zv]
  refine ldP_of (g.cell (i := 0) rfl rfl) (ldI_of (g.cell (i := 9) rfl rfl) (ldI_of (g.cell (i := 9) rfl rfl) ?_))
  exact shade (.inl hop) _ g
theorem rskAnswerC {n : Int} {q : Sk} {kb : Nat} {m : Int} (h : St H0 L H) (hi : L[i]? = some (RShk kb n q)) (ha : (q.ar.length : Int) = n + 1) (hl : q.sc.length = q.ar.length) (hn : n ≤ 4) (hK : ∀ H', St H0 (L.set i (RShk kb n (q.ans m).1)) H' → K (.int .i64 (q.ans m).2) H') :
  hcall PR f_ref11_Shake_Answer ⟨[.pointer (some ⟨kb, 0, none⟩), .int .i64 m]⟩ H K := by
 obtain ⟨Fi, hh, up⟩ := h.at hi
 exact rAnswer_ok hh ha hl hn fun F' H' h' g => hK H' (up _ F' H' h' g)
theorem ans_three (k : Sk) (m : Int) : (k.ans m).2 = 0 ∨ (k.ans m).2 = 1 ∨ (k.ans m).2 = 2 := by
 unfold Sk.ans
 split
 ·simp
 ·split
  ·split <;> simp
  ·split
   ·split <;> simp
   ·simp
theorem ryShakeC {m : Int} {hp : Option Addr} {hc : Nat} {held : List Id} (h : St H0 L H) (hi : L[i]? = some (RHeap rb s)) (hk : L[k]? = some (RyP b rb c)) (hik : i ≠ k) (hheld : ∀ N H', St H0 (N ++ L.set k .nil) H' → Rd H' 2 hp held.length (cel Id.cells held)) (hl : held.length ≤ 1000) (hlt : c.p.lt 800000)
  (hK : ∀ H', St H0 (L.set k (RyP b rb (cyShake s c m held).2)) H' → K (.bool (cyShake s c m held).1) H') : hcall PR f_ref16_Cycle_Shake ⟨[.pointer (some ⟨b, 0, none⟩), .int .i64 m, .slice hp held.length hc]⟩ H K := by
 obtain ⟨x, g, ho⟩ := ryOpened h hk
 have hsz := ho.ok.size
 have hxn := ho.n
 have h3w := ans_three c.sk m
 apply den_ref16_Cycle_Shake
 unfold B_ref16_Cycle_Shake
 simp only [Za,Zb,Zc,Zd,Zf,Zh,Zi,Zk,Zl,Zm,Zn,Zo,Zp,Zr,Zs,Zx,Zt,Zu,Zy,Zz,Zv,Zw,ZA,ZB,ZC,ZD]
 refine ldP_of (g.cell (i := 0) rfl rfl) (rskAnswerC g (i := 1) rfl (by omega) ho.ok.len (by omega) fun H1 g1 => ?_)
 simp only [Za,Zb,Zc,Zd,Zf,Zh,Zi,Zk,Zl,Zm,Zn,Zo,Zp,Zr,Zs,Zx,Zt,Zu,Zy,Zz,Zv,Zw,ZA,ZB,ZC,ZD]
 have hrk := ho.shake (m := m) s held
 have g1 : St H0 (Prt.one b (.cells (ryCells rb c.dst c x) x.T (0, 0)) :: RShk x.kb x.n (c.sk.ans m).1 :: RPaint x.qb rb c.p :: RMkP x.mb rb x.qb x.a c.m :: ryR rb c.st c.r x :: SwP x.wT x.wb rb x.qb x.pl x.e :: RowsP x.tp x.tc c.told.rows :: Prt.row 3 x.op c.told.outs.length x.oc (cel outC c.told.outs) :: Prt.pure (RyOk c x) :: L.set k .nil) H1 := g1
 rw [← hrk.2] at g1
 have done : ∀ v c' H', cyShake s c m held = (v, c') → (∃ x', St H0 (ryL b rb c' x' ++ L.set k .nil) H') → K (.bool v) H' := fun v c' H' e ⟨x', g'⟩ => by
  have h3 : St H0 (L.set k (RyP b rb c')) H' := ryShut (N := []) g' hk
  have := hK H'
  rw [e] at this
  exact this h3
 by_cases h2 : (c.sk.ans m).2 = 2
 rotate_left
 ·have e : cyShake s c m held = (decide ((c.sk.ans m).2 ≠ 0), { c with sk := (c.sk.ans m).1 }) := by unfold cyShake; rw [if_neg h2]
  have hr := hrk.1
  rw [e] at hr
  have g2 := g1.refact (i := 8) (q := RyOk { c with sk := (c.sk.ans m).1 } x) rfl hr
  by_cases h1 : (c.sk.ans m).2 = 1
  ·refine bif_eq h1 ?_
   refine done true { c with sk := (c.sk.ans m).1 } H1 (e.trans (by rw [h1]; rfl)) ⟨x, g2⟩
  ·refine bif_ne h1 (bif_ne h2 ?_)
   refine done false { c with sk := (c.sk.ans m).1 } H1 (e.trans (by rw [show (c.sk.ans m).2 = 0 by omega]; rfl)) ⟨x, g2⟩
 refine bif_ne (by omega) (bif_eq h2 ?_)
 have e : cyShake s c m held = (true, { c with sk := (c.sk.ans m).1, p := pShades s c.p held 0 }) := by unfold cyShake; rw [if_pos h2]
 have hr := hrk.1
 rw [e] at hr
 obtain ⟨d, hd⟩ : ∃ d, d = ({ c with sk := (c.sk.ans m).1 } : Cy).dst := ⟨_, rfl⟩
 rw [← hd] at g1
 refine ⟨fun t H' => ∃ y : Nat, t = y ∧ y ≤ held.length ∧ St H0 (Prt.one b (.cells (ryCells rb d c x) x.T (0, 0)) :: RShk x.kb x.n (c.sk.ans m).1 :: RPaint x.qb rb (pShades s c.p (held.take y) 0) :: RMkP x.mb rb x.qb x.a c.m :: ryR rb c.st c.r x :: SwP x.wT x.wb rb x.qb x.pl x.e :: RowsP x.tp x.tc c.told.rows :: Prt.row 3 x.op c.told.outs.length x.oc (cel outC c.told.outs) :: Prt.pure (RyOk c x) :: L.set k .nil) H', fun t _ => ((held.length : Int) - t).toNat, ⟨0, rfl, by omega, by rw [List.take_zero]; exact g1⟩, ?_⟩
 clear g1 g
 rintro t H2 ⟨y, rfl, hy, g2⟩
 by_cases hcy : (y : Int) < ((held.length : Nat) : Int)
 rotate_left
 ·obtain rfl : y = held.length := by omega
  rw [List.take_length] at g2
  refine bif_neg hcy ?_
  rw [hd] at g2
  have g3 := g2.refact (i := 8) (q := RyOk { c with sk := (c.sk.ans m).1, p := pShades s c.p held 0 } x) rfl hr
  exact done _ _ H2 e ⟨x, g3⟩
 refine bif_pos hcy ?_
 have hrd := hheld [_, _, _, _, _, _, _, _, _] H2 g2
 refine ldP_of (g2.cell (i := 0) rfl rfl) ?_
 refine idxS Id.len noId hrd (by omega) (by omega) hcy fun b1 o1 _ hl1 hcc => ?_
 have c0 := hcc 0 (by omega)
 have c1 := hcc 1 (by omega)
 simp only [Za,Zb,Zc,Zd,Zf,Zh,Zi,Zk,Zl,Zm,Zn,Zo,Zp,Zr,Zs,Zx,Zt,Zu,Zy,Zz,Zv,Zw,ZA,ZB,ZC,ZD]
 rw [Int.toNat_natCast] at c0 c1
 refine ldI_of c0 (ldI_of c1 ?_)
 have hplt : (pShades s c.p (held.take y) 0).lt 900000 := (hlt.shades (l := held.take y)).mono (by rw [List.length_take]; omega)
 refine rShadeC (y := held.getD y noId) g2 (i := i + 9) (j := 2) (set_get_ne hi hik) rfl (by omega) hplt fun H4 g4 => ?_
 rw [wrap_i64 (by omega) (by omega)]
 refine ⟨⟨y + 1, by omega, by omega, ?_⟩, by (try dsimp only); omega⟩
 rw [pShades_take (by omega)]
 exact g4
/-- The sweeper's, the collector's: is one doomed? -/
theorem rswWillC {T sb qb pl e q : _} {p : Ps} {j : Nat} (h : St H0 L H) (hi : L[i]? = some (RHeap rb s)) (hj : L[j]? = some (RPaint qb rb p)) (hk : L[k]? = some (SwP T sb rb qb pl e)) (hij : i ≠ j) (hlt : p.lt 900000) (hK : K (.bool (decide (q ≤ e) && (hGet s q).isSome && !(pMark s p q).2.2)) H) :
  hcall PR f_ref11_Sweeper_Will ⟨[.pointer (some ⟨sb, 0, none⟩), .int .u64 q]⟩ H K := by
 apply den_ref11_Sweeper_Will
 unfold B_ref11_Sweeper_Will
 simp only [Za,Zb,Zc,Zd,Zf,Zh,Zi,Zk,Zl,Zm,Zn,Zo,Zp,Zr,Zs,Zx,Zt,Zu,Zy,Zz,Zv,Zw,ZA,ZB,ZC,ZD]
 refine ldP_of (h.cell hk rfl) (rMarkC h hi hj hij hlt ?_)
 simp only [Za,Zb,Zc,Zd,Zf,Zh,Zi,Zk,Zl,Zm,Zn,Zo,Zp,Zr,Zs,Zx,Zt,Zu,Zy,Zz,Zv,Zw,ZA,ZB,ZC,ZD]
 refine ldI_of (h.cell hk rfl) ?_
 by_cases hq : q ≤ e
 rotate_left
 ·refine bif_neg hq ?_
  rw [decide_eq_false hq, Bool.false_and, Bool.false_and] at hK
  exact hK
 refine bif_pos hq (ldP_of (h.cell hk rfl) ?_)
 rw [decide_eq_true hq, Bool.true_and] at hK
 obtain ⟨y, N, gz, hp3, hs⟩ := rheapOpenL h hi (.inl rfl)
 refine rGetC gz hp3 hs (fun hg => ?_) fun jj o bo _ _ hg _ => ?_
 ·simp only [Za,Zb,Zc,Zd,Zf,Zh,Zi,Zk,Zl,Zm,Zn,Zo,Zp,Zr,Zs,Zx,Zt,Zu,Zy,Zz,Zv,Zw,ZA,ZB,ZC,ZD]
  rw [hg, Option.isSome_none, Bool.false_and] at hK
  exact hK
 ·simp only [Za,Zb,Zc,Zd,Zf,Zh,Zi,Zk,Zl,Zm,Zn,Zo,Zp,Zr,Zs,Zx,Zt,Zu,Zy,Zz,Zv,Zw,ZA,ZB,ZC,ZD]
  rw [hg, Option.isSome_some, Bool.true_and] at hK
  exact hK
theorem ryDoomedC {q : Int} (h : St H0 L H) (hi : L[i]? = some (RHeap rb s)) (hk : L[k]? = some (RyP b rb c)) (hik : i ≠ k) (hlt : c.p.lt 800000) (hK : K (.bool (cyDoomed s c q)) H) :
  hcall PR f_ref16_Cycle_Doomed ⟨[.pointer (some ⟨b, 0, none⟩), .int .u64 q]⟩ H K := by
 obtain ⟨x, g, ho⟩ := ryOpened h hk
 have hd := ho.ok.dst
 apply den_ref16_Cycle_Doomed
 unfold B_ref16_Cycle_Doomed
 unfold cyDoomed at hK
 simp only [Za,Zb,Zc,Zd,Zf,Zh,Zi,Zk,Zl,Zm,Zn,Zo,Zp,Zr,Zs,Zx,Zt,Zu,Zy,Zz,Zv,Zw,ZA,ZB,ZC,ZD]
 refine ldI_of (g.cell (i := 0) rfl rfl) ?_
 by_cases h5 : c.dst = 5
 rotate_left
 ·refine bif_ne h5 ?_
  rw [decide_eq_false (show ¬ c.st = 5 by omega), Bool.false_and, Bool.false_and, Bool.false_and] at hK
  exact hK
 obtain ⟨_, he, hf⟩ := ho.sw (by omega)
 rw [decide_eq_true (show c.st = 5 by omega), Bool.true_and, ← hf, ← he] at hK
 refine bif_eq h5 (ldP_of (g.cell (i := 0) rfl rfl) (rswWillC g (i := i + 9) (j := 2) (k := 5) (set_get_ne hi hik) rfl rfl (by omega) (hlt.mono (by omega)) ?_))
 simp only [Za,Zb,Zc,Zd,Zf,Zh,Zi,Zk,Zl,Zm,Zn,Zo,Zp,Zr,Zs,Zx,Zt,Zu,Zy,Zz,Zv,Zw,ZA,ZB,ZC,ZD]
 exact hK
end
end Go.Proofs.YtflfodcemnapeaaGreat

namespace Go.Proofs.YtflfodcemnapeaaGreat
set_option linter.unusedSimpArgs false
set_option linter.unusedVariables false
open Go
theorem dst_st {c : Cy} (h : c.st ≠ 0) : c.dst = c.st := if_pos h
section
variable {H0 H : Hp} {L M N : List Prt} {i j k b rb : Nat} {x : RYX} {s : Hs} {c : Cy} {stir : Int} {K : Value → Hp → Prop}
/-- A marking step; its end begins the reaching. The list's head may say any state d. -/
theorem ryMarkingP (g : St H0 (ryL b rb c x ++ M) H) (hi : M[i]? = some (RHeap rb s)) (hs : s.ok) (ho : RyOk c x) (hst : c.st = 3 ∧ c.sk.ph = 3) (hlt : c.p.lt 800000) (hK : ∀ x' H', RyOk (cyMarks s c stir) x' → St H0 (ryL b rb (cyMarks s c stir) x' ++ M) H' → K (.tuple #[]) H') :
  hcall PR f_ref16_Cycle_marking ⟨[.pointer (some ⟨b, 0, none⟩), .int .u64 stir]⟩ H K := by
 have hcok' := ho.ok.marks (stir := stir) hs hst
 have hdst := dst_st (c := c) (by omega)
 apply den_ref16_Cycle_marking
 unfold B_ref16_Cycle_marking
 (try simp only [Za,Zb,Zc,Zd,Zf,Zh,Zi,Zk,Zl,Zm,Zn,Zo,Zp,Zr,Zs,Zx,Zt,Zu,Zy,Zz,Zv,Zw,ZA,ZB,ZC,ZD])
 refine ldP_of (g.cell (i := 0) rfl rfl) (rmkStepC g (i := i + 9) (j := 2) (k := 3) hi rfl rfl (by omega) (by omega) (by omega) hlt ho.a fun a' H1 ha' g1 => ?_)
 (try simp only [Za,Zb,Zc,Zd,Zf,Zh,Zi,Zk,Zl,Zm,Zn,Zo,Zp,Zr,Zs,Zx,Zt,Zu,Zy,Zz,Zv,Zw,ZA,ZB,ZC,ZD])
 have g1 : St H0 (Prt.one b (.cells (ryCells rb c.dst c x) x.T (0, 0)) :: RShk x.kb x.n c.sk :: RPaint x.qb rb (mkStep s c.p c.m).2.1 :: RMkP x.mb rb x.qb a' (mkStep s c.p c.m).2.2 :: ryR rb c.st c.r x :: SwP x.wT x.wb rb x.qb x.pl x.e :: RowsP x.tp x.tc c.told.rows :: Prt.row 3 x.op c.told.outs.length x.oc (cel outC c.told.outs) :: Prt.pure (RyOk c x) :: M) H1 := g1
 cases hm : (mkStep s c.p c.m).1
 ·have e : cyMarks s c stir = { c with p := (mkStep s c.p c.m).2.1, m := (mkStep s c.p c.m).2.2, stir := stir, r := rcNew c.sus, st := 4 } := by unfold cyMarks; rw [if_neg (by rw [hm]; decide)]
  rw [e] at hK hcok'
  simp only [Bool.not_false, Zv]
  rw [hdst] at g1
  refine g1.put (i := 0) rfl (by simp [ryCells]) fun H2 g2 => ?_
  refine ldP_of (g2.cell (i := 0) rfl rfl) (ldI_of (g2.cell (i := 0) rfl rfl) ?_)
  have eb : ryR rb c.st c.r x = ryBare rb x := if_neg (by omega)
  rw [eb] at g2
  refine rrBeginC (q1 := .bool true) (q2 := .bool true) g2 (k := 4) rfl fun H3 g3 => ?_
  refine g3.put (i := 0) rfl (by simp [ryCells]) fun H4 g4 => ?_
  have hok : RyOk { c with p := (mkStep s c.p c.m).2.1, m := (mkStep s c.p c.m).2.2, stir := stir, r := rcNew c.sus, st := 4 } { x with a := a' } := ⟨hcok', ho.n, ho.idle, ha', fun h => by simp at h⟩
  have g5 := g4.refact (i := 8) rfl hok
  exact hK { x with a := a' } H4 hok g5
 ·have e : cyMarks s c stir = { c with p := (mkStep s c.p c.m).2.1, m := (mkStep s c.p c.m).2.2 } := by unfold cyMarks; rw [if_pos hm]
  rw [e] at hK hcok'
  simp only [Bool.not_true, Zw]
  have hok : RyOk { c with p := (mkStep s c.p c.m).2.1, m := (mkStep s c.p c.m).2.2 } { x with a := a' } := ⟨hcok', ho.n, ho.idle, ha', ho.sw⟩
  have g2 := g1.refact (i := 8) rfl hok
  exact hK { x with a := a' } H1 hok g2

/-- What the summary makes of it. -/
def cySums (s : Hs) (c : Cy) : Cy := { c with told := ⟨c.stir, c.r.rows, outPick c.sus (outsOf c.p), true⟩, pl := 0, e := s.last, fin := s.last, st := 5 }
theorem rySummaryP (g : St H0 (ryL b rb c x ++ M) H) (hi : M[i]? = some (RHeap rb s)) (ho : RyOk c x) (hst : c.st = 4 ∧ c.sk.ph = 3) (hlt : c.p.lt 800000) (hok' : (cySums s c).ok) (hK : ∀ x' H', RyOk (cySums s c) x' → St H0 (ryL b rb (cySums s c) x' ++ M) H' → K (.tuple #[]) H') :
  hcall PR f_ref16_Cycle_summary ⟨[.pointer (some ⟨b, 0, none⟩)]⟩ H K := by
 have hdst := dst_st (c := c) (by omega)
 have eb : ryR rb c.st c.r x = RRc x.rcb rb x.qb c.r := if_pos hst.1
 apply den_ref16_Cycle_summary
 unfold B_ref16_Cycle_summary
 have g : St H0 (Prt.one b (.cells (ryCells rb c.dst c x) x.T (0, 0)) :: RShk x.kb x.n c.sk :: RPaint x.qb rb c.p :: RMkP x.mb rb x.qb x.a c.m :: ryR rb c.st c.r x :: SwP x.wT x.wb rb x.qb x.pl x.e :: RowsP x.tp x.tc c.told.rows :: Prt.row 3 x.op c.told.outs.length x.oc (cel outC c.told.outs) :: Prt.pure (RyOk c x) :: M) H := g
 rw [eb, hdst, hst.1] at g
 obtain ⟨z, g0⟩ := g.openEx (i := 4) (M := fun z => rrP x.rcb rb x.qb c.r.suspect c.r.place c.r.rows c.r.now.isSome z (RrOk c.r z)) rfl
 clear g
 have g1 := g0.pick 16 [1, 2, 3, 4, 6, 11, 13, 7, 8, 9, 10, 0, 12, 5, 14, 15] rfl rfl
 have g2 := St.lesses (M := [_, _, _, _, _, _, _]) g1
 clear g0 g1
 obtain ⟨x1, hx1⟩ : ∃ x1 : RYX, x1 = { x with tp := z.rp, tc := z.rc, op := none, oc := 0, v1 := .slice z.rp c.r.rows.length z.rc, v2 := .int .u64 c.r.place, v3 := .int .i64 c.r.suspect, v4 := .bool c.r.now.isSome, v5 := .int .u64 z.in_, v6 := .slice z.sp z.seen.length z.sc, v7 := .slice z.wp z.waits.length z.wc, v8 := .int .i64 1048576, v9 := .slice z.kp z.t.length z.kc, v10 := .slice z.vp z.t.length z.vc, rT := z.T } := ⟨_, rfl⟩
 have g3 : St H0 (Prt.one b (.cells (ryCells rb 4 c x) x.T (0, 0)) :: RShk x.kb x.n c.sk :: RPaint x.qb rb c.p :: RMkP x.mb rb x.qb x.a c.m :: ryBare rb x1 :: SwP x.wT x.wb rb x.qb x.pl x.e :: RowsP z.rp z.rc c.r.rows :: Prt.row 3 x.op c.told.outs.length x.oc (cel outC c.told.outs) :: Prt.pure (RyOk c x) :: M) H := by rw [hx1]; exact g2
 clear g2
 have hbare : hcell H ⟨x.rcb, 2, none⟩ = some (.slice z.rp c.r.rows.length z.rc) := by
  rw [hx1] at g3
  exact g3.cell (i := 4) rfl rfl
 (try simp only [Za,Zb,Zc,Zd,Zf,Zh,Zi,Zk,Zl,Zm,Zn,Zo,Zp,Zr,Zs,Zx,Zt,Zu,Zy,Zz,Zv,Zw,ZA,ZB,ZC,ZD])
 refine ldI_of (g3.cell (i := 0) rfl rfl) (ldP_of (g3.cell (i := 0) rfl rfl) ?_)
 (try simp only [Za,Zb,Zc,Zd,Zf,Zh,Zi,Zk,Zl,Zm,Zn,Zo,Zp,Zr,Zs,Zx,Zt,Zu,Zy,Zz,Zv,Zw,ZA,ZB,ZC,ZD])
 refine ldSl_of hbare ?_
 refine g3.put (i := 0) rfl (by simp [ryCells]) fun H4 g4 => g4.put (i := 0) rfl (by simp [ryCells]) fun H5 g5 => g5.put (i := 0) rfl (by simp [ryCells]) fun H6 g6 => g6.put (i := 0) rfl (by simp [ryCells]) fun H7 g7 => ?_
 have g9 := St.over (i := 7) (g7.row (H' := _) (Own.nil 3) ((Goes.refl Nothing _).less fun c hc => absurd hc blk_none)) rfl
 have hpm := hlt.2
 refine ldP_of (g9.cell (i := 0) rfl rfl) (rOutsC g9 (j := 2) rfl (by omega) fun q2 n2 H8 g10 => ?_)
 (try simp only [Za,Zb,Zc,Zd,Zf,Zh,Zi,Zk,Zl,Zm,Zn,Zo,Zp,Zr,Zs,Zx,Zt,Zu,Zy,Zz,Zv,Zw,ZA,ZB,ZC,ZD])
 have hol : (outsOf c.p).length ≤ 800000 := by
  have h4 := (outsOf_ok (p := c.p) ho.ok.p).2.length_eq
  omega
 clear g3 g4 g5 g6 g7 g9
 obtain ⟨R, hR⟩ : ∃ R, R = ryBare rb x1 := ⟨_, rfl⟩
 rw [← hR] at g10
 refine ⟨fun t H' => ∃ (y : Nat) (op : Option Addr) (oc : Nat), t = y ∧ y ≤ (outsOf c.p).length ∧
   St H0 (Prt.row 3 q2 (outsOf c.p).length n2 (cel outC (outsOf c.p)) :: Prt.one b (.cells (ryCells rb 4 { c with told := ⟨c.stir, c.r.rows, outPick c.sus ((outsOf c.p).take y), true⟩ } { x with tp := z.rp, tc := z.rc, op := op, oc := oc }) x.T (0, 0)) :: RShk x.kb x.n c.sk :: RPaint x.qb rb c.p :: RMkP x.mb rb x.qb x.a c.m :: R :: SwP x.wT x.wb rb x.qb x.pl x.e :: RowsP z.rp z.rc c.r.rows :: Prt.row 3 op (outPick c.sus ((outsOf c.p).take y)).length oc (cel outC (outPick c.sus ((outsOf c.p).take y))) :: Prt.pure (RyOk c x) :: M) H',
  fun t _ => (((outsOf c.p).length : Int) - t).toNat, ⟨0, none, 0, rfl, by omega, ?_⟩, ?_⟩
 ·rw [List.take_zero]
  exact g10
 clear g10
 rintro t H9 ⟨y, op, oc, rfl, hy, h1⟩
 have hfl := List.length_filter_le (fun e : Id × Int => decide (c.sus < e.2)) ((outsOf c.p).take y)
 rw [List.length_take] at hfl
 have hfl : (outPick c.sus ((outsOf c.p).take y)).length ≤ 800000 := by unfold outPick; omega
 by_cases hcy : (y : Int) < (((outsOf c.p).length : Nat) : Int)
 rotate_left
 ·obtain rfl : y = (outsOf c.p).length := by omega
  rw [List.take_length] at h1
  refine bif_neg hcy ?_
  refine ldP_of (h1.cell (i := 1) rfl rfl) (rswBeginC h1 (i := i + 10) (k := 6) hi rfl (by omega) fun H10 h2 => ?_)
  refine h2.put (i := 1) rfl (by simp [ryCells]) fun H11 h3 => ?_
  have hok : RyOk (cySums s c) { x1 with pl := 0, e := s.last, op := op, oc := oc } := ⟨hok', by rw [hx1]; exact ho.n, ho.idle, by rw [hx1]; exact ho.a, fun _ => ⟨rfl, rfl, rfl⟩⟩
  have h5 := (St.less h3).refact (i := 8) rfl hok
  have er : ryR rb (cySums s c).st c.r { x1 with pl := 0, e := s.last, op := op, oc := oc } = R := by rw [hR]; exact if_neg (by show ¬ (5 : Int) = 4; decide)
  refine hK { x1 with pl := 0, e := s.last, op := op, oc := oc } H11 hok ?_
  unfold ryL
  rw [show (cySums s c).r = c.r from rfl, er, show (cySums s c).dst = 5 from dst_st (c := cySums s c) (by show (5 : Int) ≠ 0; decide)]
  rw [hx1] at h5 ⊢
  exact h5
 refine bif_pos hcy ?_
 have hyl : y < (outsOf c.p).length := by omega
 have htk := outPick_take (u := c.sus) hyl
 intro R38 hR38
 have next : ∀ op' oc' H', St H0 (Prt.row 3 q2 (outsOf c.p).length n2 (cel outC (outsOf c.p)) :: Prt.one b (.cells (ryCells rb 4 { c with told := ⟨c.stir, c.r.rows, outPick c.sus ((outsOf c.p).take (y + 1)), true⟩ } { x with tp := z.rp, tc := z.rc, op := op', oc := oc' }) x.T (0, 0)) :: RShk x.kb x.n c.sk :: RPaint x.qb rb c.p :: RMkP x.mb rb x.qb x.a c.m :: R :: SwP x.wT x.wb rb x.qb x.pl x.e :: RowsP z.rp z.rc c.r.rows :: Prt.row 3 op' (outPick c.sus ((outsOf c.p).take (y + 1))).length oc' (cel outC (outPick c.sus ((outsOf c.p).take (y + 1)))) :: Prt.pure (RyOk c x) :: M) H' → R38 H' := fun op' oc' H' h' => by
  refine hR38 H' ?_
  rw [wrap_i64 (by omega) (by omega)]
  exact ⟨⟨y + 1, op', oc', by omega, by omega, h'⟩, by (try dsimp only); omega⟩
 refine idxS outC_len (noId, 0) (h1.row_rd (i := 0) rfl) (by omega) (by omega) hcy fun b1 o1 _ hl1 hcc => ?_
 have c2 := hcc 2 (by omega)
 rw [Int.toNat_natCast] at c2
 refine ldI_of c2 (ldI_of (h1.cell (i := 1) rfl rfl) ?_)
 by_cases hgt : c.sus < ((outsOf c.p).getD y (noId, 0)).2
 ·rw [if_pos hgt] at htk
  refine bif_pos hgt ?_
  (try simp only [Za,Zb,Zc,Zd,Zf,Zh,Zi,Zk,Zl,Zm,Zn,Zo,Zp,Zr,Zs,Zx,Zt,Zu,Zy,Zz,Zv,Zw,ZA,ZB,ZC,ZD])
  refine ldSl_of (h1.cell (i := 1) rfl rfl) ?_
  refine idxS outC_len (noId, 0) (h1.row_rd (i := 0) rfl) (by omega) (by omega) hcy fun b1 o1 _ hl1 hcc => ?_
  have c0 := hcc 0 (by omega)
  have c1 := hcc 1 (by omega)
  have c2 := hcc 2 (by omega)
  rw [Int.toNat_natCast] at c0 c1 c2
  generalize (outsOf c.p).getD y (noId, 0) = el at c0 c1 c2 htk hgt
  (try simp only [Za,Zb,Zc,Zd,Zf,Zh,Zi,Zk,Zl,Zm,Zn,Zo,Zp,Zr,Zs,Zx,Zt,Zu,Zy,Zz,Zv,Zw,ZA,ZB,ZC,ZD])
  refine ldI_of c0 (ldI_of c1 (ldI_of c2 ?_))
  intro b40 hb40
  have h6 := h1.alloc (o := .cells #[.int .i64 el.1.n, .int .u64 el.1.s, .int .i64 el.2] ty_api_Out) hb40
  refine ⟨ldSl_of (h6.cell (i := 2) rfl rfl) rfl, ?_⟩
  refine h6.app (i := 9) rfl tu_ty_Sapi_Out tu_ty_Sapi_Out ti_ty_api_Out rfl (by decide) (h6.one_rd (i := 0) (n := 1) rfl rfl) (fun z hz => by simp at hz; rcases hz with rfl | rfl | rfl <;> rfl) (by (try dsimp only); omega) fun p' cap' H7 h7 => ?_
  (try simp only [Za,Zb,Zc,Zd,Zf,Zh,Zi,Zk,Zl,Zm,Zn,Zo,Zp,Zr,Zs,Zx,Zt,Zu,Zy,Zz,Zv,Zw,ZA,ZB,ZC,ZD])
  refine h7.put (i := 2) rfl (by simp [ryCells]) fun H8 h8 => ?_
  have e2 : (outPick c.sus ((outsOf c.p).take y)).length + 1 = (outPick c.sus ((outsOf c.p).take (y + 1))).length := by rw [htk]; simp
  have e1 : cel outC (outPick c.sus ((outsOf c.p).take y)) ++ (#[Value.int .i64 el.1.n, .int .u64 el.1.s, .int .i64 el.2] : Array Value).toList = cel outC (outPick c.sus ((outsOf c.p).take (y + 1))) := by rw [htk, cel_append]; rfl
  rw [e1, e2] at h8
  exact next p' cap' H8 (St.less h8)
 ·rw [if_neg hgt, List.append_nil] at htk
  refine bif_neg hgt ?_
  rw [← htk] at h1
  exact next op oc H9 h1
end
end Go.Proofs.YtflfodcemnapeaaGreat

namespace Go.Proofs.YtflfodcemnapeaaGreat
set_option linter.unusedSimpArgs false
set_option linter.unusedVariables false
open Go
theorem replicate_last {n : Nat} : (List.replicate (n + 1) false).set n true = (List.replicate (n + 1) false).set ((List.replicate (n + 1) false).length - 1) true := by simp
section
variable {H0 H : Hp} {L M N : List Prt} {i j k b rb : Nat} {x : RYX} {s : Hs} {c : Cy} {stir : Int} {K : Value → Hp → Prop}
theorem rskBeginC {n : Int} {q : Sk} {kb : Nat} (h : St H0 L H) (hi : L[i]? = some (RShk kb n q)) (hp : q.ph = 0) (hn : n + 1 = q.ar.length) (hn4 : n ≤ 4 ∧ 0 ≤ n) (hid : q.ar = List.replicate q.ar.length false ∧ q.sc = List.replicate q.ar.length false) (hK : ∀ H', St H0 (L.set i (RShk kb n q.begun)) H' → K (.bool true) H') :
  hcall PR f_ref11_Shake_Begin ⟨[.pointer (some ⟨kb, 0, none⟩)]⟩ H K := by
 obtain ⟨Fi, hh, up⟩ := h.at hi
 have e : q.begun = ⟨1, (List.replicate (n.toNat + 1) false).set n.toNat true, List.replicate (n.toNat + 1) false⟩ := by
  have el : q.ar.length = n.toNat + 1 := by omega
  unfold Sk.begun
  rw [if_pos hp, replicate_last, ← el, ← hid.1, hid.2.trans hid.1.symm]
 rw [e] at hK
 exact rBegin_ok hh hp hn4.2 hn4.1 fun F' H' h' g => hK H' (up _ F' H' h' g)
theorem rskEndC {n : Int} {q : Sk} {kb : Nat} (h : St H0 L H) (hi : L[i]? = some (RShk kb n q)) (hp : q.ph = 3) (hn : n + 1 = q.ar.length) (hn4 : n ≤ 4 ∧ 0 ≤ n) (hl : q.sc.length = q.ar.length) (hK : ∀ H', St H0 (L.set i (RShk kb n q.ended)) H' → K (.bool true) H') :
  hcall PR f_ref11_Shake_End ⟨[.pointer (some ⟨kb, 0, none⟩)]⟩ H K := by
 obtain ⟨Fi, hh, up⟩ := h.at hi
 have e : q.ended = ⟨0, List.replicate (n.toNat + 1) false, List.replicate (n.toNat + 1) false⟩ := by
  have el : q.ar.length = n.toNat + 1 := by omega
  unfold Sk.ended
  rw [if_pos hp, hl, el]
 rw [e] at hK
 exact rEnd_ok hh hp hn4.2 hn4.1 fun F' H' h' g => hK H' (up _ F' H' h' g)

theorem ryUnitP (g : St H0 (ryL b rb c x ++ M) H) (hi : M[i]? = some (RHeap rb s)) (hs : s.ok) (ho : RyOk c x) {n : Nat} (hlt : c.lt n) (hn : n ≤ 700000)
  (hK : ∀ x' H', St H0 (ryL b rb (cyUnit s c stir).c x' ++ M.set i (RHeap rb (cyUnit s c stir).s)) H' → K (.tuple #[.int .u64 (cyUnit s c stir).freed, .bool (cyUnit s c stir).stop.isSome, .bool ((cyUnit s c stir).stop.getD false)]) H') :
  hcall PR f_ref16_Cycle_unit ⟨[.pointer (some ⟨b, 0, none⟩), .int .u64 stir]⟩ H K := by
 have hd := ho.ok.dst
 have hsz := ho.ok.size
 have hxn := ho.n
 have hMi : M.set i (RHeap rb s) = M := List.set_self hi
 have hun := (ho.ok.unit (stir := stir) hs).2
 apply den_ref16_Cycle_unit
 unfold B_ref16_Cycle_unit
 (try simp only [Za,Zb,Zc,Zd,Zf,Zh,Zi,Zk,Zl,Zm,Zn,Zo,Zp,Zr,Zs,Zx,Zt,Zu,Zy,Zz,Zv,Zw,ZA,ZB,ZC,ZD])
 refine ldI_of (g.cell (i := 0) rfl rfl) ?_
 rcases ho.ok.sixth with e | ⟨e, h3⟩ | ⟨e, h3⟩ | ⟨e, hst, h3⟩ | ⟨e, hst, h3⟩ | e
 · -- it is idle
  have hst : c.st = 0 := by omega
  have hph : c.sk.ph = 0 := by omega
  have hd0 : c.dst = 0 := by omega
  have hu := unit0 (s := s) (stir := stir) e
  rw [hu] at hK hun
  simp only [hMi] at hK
  refine bif_eq hd0 (ldP_of (g.cell (i := 0) rfl rfl) (rTurnC g (j := 2) rfl fun H1 g1 => ?_))
  refine ldP_of (g1.cell (i := 0) rfl rfl) (rskBeginC g1 (i := 1) rfl hph hxn (by omega) (ho.idle hph) fun H2 g2 => ?_)
  (try simp only [Za,Zb,Zc,Zd,Zf,Zh,Zi,Zk,Zl,Zm,Zn,Zo,Zp,Zr,Zs,Zx,Zt,Zu,Zy,Zz,Zv,Zw,ZA,ZB,ZC,ZD])
  refine g2.put (i := 0) rfl (by simp [ryCells]) fun H3 g3 => ?_
  have hb := begun_len c.sk
  have hbp : c.sk.begun.ph = 1 := by unfold Sk.begun; rw [if_pos hph]
  have hok : RyOk { c with p := pTurn c.p, sk := c.sk.begun } x := ⟨hun, by simp only; rw [hb.1]; exact hxn, fun h => by simp only at h; omega, ho.a, ho.sw⟩
  have g4 := g3.refact (i := 8) rfl hok
  have edst : ({ c with p := pTurn c.p, sk := c.sk.begun } : Cy).dst = 1 := by
   unfold Cy.dst
   rw [if_neg (by simp only; omega), if_pos (by simp only; omega)]
  refine hK x H3 ?_
  unfold ryL
  rw [edst]
  exact g4
 ·have hd1 : c.dst = 1 := by omega
  have hu := unit12 (s := s) (stir := stir) e h3
  rw [hu] at hK
  simp only [hMi] at hK
  refine bif_ne (by omega) (bif_eq hd1 (ldP_of (g.cell (i := 0) rfl rfl) ?_))
  (try simp only [Za,Zb,Zc,Zd,Zf,Zh,Zi,Zk,Zl,Zm,Zn,Zo,Zp,Zr,Zs,Zx,Zt,Zu,Zy,Zz,Zv,Zw,ZA,ZB,ZC,ZD])
  refine ldI_of (rskV g (i := 1) rfl).1 (bif_neq h3 ?_)
  exact hK x H g
 ·have hd1 : c.dst = 1 := by omega
  have hu := unit23 (s := s) (stir := stir) e h3
  rw [hu] at hK
  simp only [hMi] at hK
  refine bif_ne (by omega) (bif_eq hd1 (ldP_of (g.cell (i := 0) rfl rfl) ?_))
  (try simp only [Za,Zb,Zc,Zd,Zf,Zh,Zi,Zk,Zl,Zm,Zn,Zo,Zp,Zr,Zs,Zx,Zt,Zu,Zy,Zz,Zv,Zw,ZA,ZB,ZC,ZD])
  refine ldI_of (rskV g (i := 1) rfl).1 (bif_neqf h3 ?_)
  refine g.put (i := 0) rfl (by simp [ryCells]) fun H1 g1 => ?_
  refine ldP_of (g1.cell (i := 0) rfl rfl) (rmkBeginC g1 (k := 3) rfl fun H2 g2 => ?_)
  obtain ⟨c1, hc1⟩ : ∃ c1 : Cy, c1 = { c with st := 3, m := ⟨0, false, 0⟩ } := ⟨_, rfl⟩
  have hst0 : c.st = 0 := by omega
  have hcok : c1.ok := by rw [hc1]; exact ⟨ho.ok.len, ho.ok.size, ho.ok.ph, .inr ⟨.inl rfl, h3⟩, ho.ok.sus, ho.ok.work, ho.ok.p, ⟨Int.le_refl _, Int.le_refl _⟩, ho.ok.r, ho.ok.pl⟩
  have hok : RyOk c1 x := by
   rw [hc1] at hcok ⊢
   exact ⟨hcok, ho.n, ho.idle, fun h => by (cases h), fun h => by simp at h⟩
  have edst : c1.dst = 3 := by rw [hc1]; exact dst_st (c := { c with st := 3, m := ⟨0, false, 0⟩ }) (by simp)
  have er : ryR rb c1.st c1.r x = ryR rb c.st c.r x := by rw [hc1]; exact (if_neg (by simp)).trans (if_neg (by omega)).symm
  have g3 := g2.refact (i := 8) rfl hok
  have g4 : St H0 (ryL b rb c1 x ++ M) H2 := by
   unfold ryL
   rw [edst, er]
   rw [hc1] at g3 ⊢
   exact g3
  have hl1 : c1.p.lt 800000 := by rw [hc1]; exact hlt.p.mono (by omega)
  refine ryMarkingP (stir := stir) g4 hi hs hok ⟨by rw [hc1], by rw [hc1]; exact h3⟩ hl1 fun x' H3 _ g5 => ?_
  rw [hc1] at g5
  exact hK x' H3 g5
 ·have hd1 : c.dst = 3 := by omega
  have hu := unit3 (s := s) (stir := stir) e
  rw [hu] at hK
  simp only [hMi] at hK
  refine bif_ne (by omega) (bif_ne (by omega) (bif_eq hd1 ?_))
  exact ryMarkingP (stir := stir) g hi hs ho ⟨hst, h3⟩ (hlt.p.mono (by omega)) fun x' H3 _ g5 => hK x' H3 g5
 ·have hd1 : c.dst = 4 := by omega
  have hu := unit4 (s := s) (stir := stir) e
  rw [hu] at hK hun
  simp only [hMi] at hK
  have hmk := mkStep_ok hs ho.ok.p ho.ok.m
  have hml := cyMk_lt (m := c.m) hs hlt.p
  refine bif_ne (by omega) (bif_ne (by omega) (bif_ne (by omega) (bif_eq hd1 ?_)))
  refine ldP_of (g.cell (i := 0) rfl rfl) (rmkStepC g (i := i + 9) (j := 2) (k := 3) hi rfl rfl (by omega) (by omega) (by omega) (hlt.p.mono (by omega)) ho.a fun a' H1 ha' g1 => ?_)
  (try simp only [Za,Zb,Zc,Zd,Zf,Zh,Zi,Zk,Zl,Zm,Zn,Zo,Zp,Zr,Zs,Zx,Zt,Zu,Zy,Zz,Zv,Zw,ZA,ZB,ZC,ZD])
  obtain ⟨c1, hc1⟩ : ∃ c1 : Cy, c1 = { c with p := (mkStep s c.p c.m).2.1, m := (mkStep s c.p c.m).2.2 } := ⟨_, rfl⟩
  have hcok : c1.ok := by rw [hc1]; exact ⟨ho.ok.len, ho.ok.size, ho.ok.ph, ho.ok.st, ho.ok.sus, ho.ok.work, hmk.1, hmk.2, ho.ok.r, ho.ok.pl⟩
  have hok : RyOk c1 { x with a := a' } := by
   rw [hc1] at hcok ⊢
   exact ⟨hcok, ho.n, ho.idle, ha', ho.sw⟩
  have g2 := g1.refact (i := 8) rfl hok
  have g3 : St H0 (ryL b rb c1 { x with a := a' } ++ M) H1 := by
   unfold ryL
   rw [show c1.dst = c.dst by rw [hc1]; rfl, show ryR rb c1.st c1.r { x with a := a' } = ryR rb c.st c.r x by rw [hc1]; rfl]
   rw [hc1] at g2 ⊢
   exact g2
  cases hm : (mkStep s c.p c.m).1
  rotate_left
  ·have e : cyReaches s c = c1 := by unfold cyReaches; rw [if_pos hm, hc1]
   simp only [Bool.not_true, Zw]
   rw [e] at hK
   exact hK _ H1 g3
  simp only [Bool.not_false, Zv]
  refine ldP_of (g3.cell (i := 0) rfl rfl) ?_
  have e4 : ryR rb c1.st c1.r { x with a := a' } = RRc x.rcb rb x.qb c1.r := if_pos (by rw [hc1]; exact hst)
  have hcr : c1.r = c.r := by rw [hc1]
  have hcp : c1.p = (mkStep s c.p c.m).2.1 := by rw [hc1]
  refine rrStepC g3 (i := i + 9) (j := 2) (k := 4) hi rfl (congrArg some e4) (by omega) (by omega) (by omega) (by rw [hcr]; exact hlt.r.mono (by omega)) (by rw [hcp]; exact hml.mono (by omega)) fun H2 g4 => ?_
  (try simp only [Za,Zb,Zc,Zd,Zf,Zh,Zi,Zk,Zl,Zm,Zn,Zo,Zp,Zr,Zs,Zx,Zt,Zu,Zy,Zz,Zv,Zw,ZA,ZB,ZC,ZD])
  have hrk := ho.ok.r.step (p := (mkStep s c.p c.m).2.1) hs hmk.1
  have hrl := hlt.r.step (p := (mkStep s c.p c.m).2.1) hs
  obtain ⟨c2, hc2⟩ : ∃ c2 : Cy, c2 = { c1 with r := (rcStep s c1.p c1.r).2 } := ⟨_, rfl⟩
  have hcok2 : c2.ok := by
   rw [hc2]
   exact ⟨hcok.len, hcok.size, hcok.ph, hcok.st, hcok.sus, hcok.work, hcok.p, hcok.m, by simp only; rw [hcr, hcp]; exact hrk, hcok.pl⟩
  have hok2 : RyOk c2 { x with a := a' } := by
   rw [hc2] at hcok2 ⊢
   exact ⟨hcok2, hok.n, hok.idle, hok.a, hok.sw⟩
  have g5 := g4.refact (i := 8) rfl hok2
  have g6 : St H0 (ryL b rb c2 { x with a := a' } ++ M) H2 := by
   unfold ryL
   rw [show c2.dst = c1.dst by rw [hc2]; rfl, show ryR rb c2.st c2.r { x with a := a' } = RRc x.rcb rb x.qb (rcStep s c1.p c1.r).2 by rw [hc2]; exact if_pos (by rw [hc1]; exact hst)]
   rw [hc2] at g5 ⊢
   exact g5
  cases hr : (rcStep s c1.p c1.r).1
  rotate_left
  ·have e : cyReaches s c = c2 := by
    unfold cyReaches
    rw [hcp, hcr] at hr
    rw [if_neg (by rw [hm]; decide), if_pos hr, hc2, hcp, hcr, hc1]
   simp only [Bool.not_true, Zw]
   rw [e] at hK
   exact hK _ H2 g6
  simp only [Bool.not_false, Zv]
  have e : cyReaches s c = cySums s c2 := by
   unfold cyReaches
   rw [hcp, hcr] at hr
   rw [if_neg (by rw [hm]; decide), if_neg (by rw [hr]; decide), hc2, hcp, hcr, hc1]
   rfl
  rw [e] at hK hun
  refine rySummaryP g6 hi hok2 ⟨by rw [hc2, hc1]; exact hst, by rw [hc2, hc1]; exact h3⟩ (by rw [hc2, hc1]; exact hml.mono (by omega)) hun fun x' H3 _ g7 => ?_
  exact hK x' H3 g7
 ·have hst : c.st = 5 := by omega
  have hph : c.sk.ph = 3 := by omega
  have hd5 : c.dst = 5 := by omega
  obtain ⟨hpl, he, hf⟩ := ho.sw hst
  have eb : ryR rb c.st c.r x = ryBare rb x := if_neg (by omega)
  refine bif_ne (by omega) (bif_ne (by omega) (bif_ne (by omega) (bif_ne (by omega) (bif_eq hd5 ?_))))
  refine ldP_of (g.cell (i := 0) rfl rfl) (rswStepC g (i := i + 9) (j := 2) (k := 5) hi rfl rfl (by omega) (by omega) (by omega) (hlt.p.mono (by omega)) fun H1 g1 => ?_)
  rw [hpl, he] at g1 ⊢
  (try simp only [Za,Zb,Zc,Zd,Zf,Zh,Zi,Zk,Zl,Zm,Zn,Zo,Zp,Zr,Zs,Zx,Zt,Zu,Zy,Zz,Zv,Zw,ZA,ZB,ZC,ZD])
  cases hsw : (swStep s c.p c.pl c.e).1.2
  ·have hu := unit5 (s := s) (stir := stir) e hsw
   rw [hu] at hK hun
   simp only [Zw]
   have g1 : St H0 (Prt.one b (.cells (ryCells rb c.dst c x) x.T (0, 0)) :: RShk x.kb x.n c.sk :: RPaint x.qb rb (swStep s c.p c.pl c.e).2.2.1 :: RMkP x.mb rb x.qb x.a c.m :: ryR rb c.st c.r x :: SwP x.wT x.wb rb x.qb (swStep s c.p c.pl c.e).2.2.2 c.e :: RowsP x.tp x.tc c.told.rows :: Prt.row 3 x.op c.told.outs.length x.oc (cel outC c.told.outs) :: Prt.pure (RyOk c x) :: M.set i (RHeap rb (swStep s c.p c.pl c.e).2.1)) H1 := g1
   rw [eb] at g1
   refine ldP_of (g1.cell (i := 0) rfl rfl) (rskEndC g1 (i := 1) rfl hph hxn (by omega) ho.ok.len fun H2 g2 => ?_)
   (try simp only [Za,Zb,Zc,Zd,Zf,Zh,Zi,Zk,Zl,Zm,Zn,Zo,Zp,Zr,Zs,Zx,Zt,Zu,Zy,Zz,Zv,Zw,ZA,ZB,ZC,ZD])
   refine g2.put (i := 0) rfl (by simp [ryCells]) fun H3 g3 => ?_
   have hl := ended_len c.sk
   have hep : c.sk.ended.ph = 0 := by unfold Sk.ended; rw [if_pos hph]
   have hidl : c.sk.ended.ar = List.replicate c.sk.ended.ar.length false ∧ c.sk.ended.sc = List.replicate c.sk.ended.ar.length false := by
    rw [hl.1]
    unfold Sk.ended
    rw [if_pos hph]
    exact ⟨rfl, by simp only; rw [ho.ok.len]⟩
   obtain ⟨c1, hc1⟩ : ∃ c1 : Cy, c1 = { c with p := (swStep s c.p c.pl c.e).2.2.1, pl := (swStep s c.p c.pl c.e).2.2.2, sk := c.sk.ended, st := 0 } := ⟨_, rfl⟩
   rw [← hc1] at hK hun
   have hok : RyOk c1 { x with pl := (swStep s c.p c.pl c.e).2.2.2, e := c.e } := by
    rw [hc1] at hun ⊢
    exact ⟨hun, by simp only; rw [hl.1]; exact hxn, fun _ => hidl, ho.a, fun h => by simp at h⟩
   have g4 := g3.refact (i := 8) rfl hok
   refine hK { x with pl := (swStep s c.p c.pl c.e).2.2.2, e := c.e } H3 ?_
   unfold ryL
   rw [show c1.dst = 0 by rw [hc1]; unfold Cy.dst; rw [if_neg (by simp), if_neg (by simp only; omega)], show ryR rb c1.st c1.r { x with pl := (swStep s c.p c.pl c.e).2.2.2, e := c.e } = ryBare rb x by rw [hc1]; exact if_neg (by simp)]
   rw [hc1] at g4 ⊢
   exact g4
  ·have hu := unit6 (s := s) (stir := stir) e hsw
   rw [hu] at hK hun
   simp only [Zv]
   obtain ⟨c1, hc1⟩ : ∃ c1 : Cy, c1 = { c with p := (swStep s c.p c.pl c.e).2.2.1, pl := (swStep s c.p c.pl c.e).2.2.2 } := ⟨_, rfl⟩
   rw [← hc1] at hK hun
   have hok : RyOk c1 { x with pl := (swStep s c.p c.pl c.e).2.2.2, e := c.e } := by
    rw [hc1] at hun ⊢
    exact ⟨hun, ho.n, ho.idle, ho.a, fun _ => ⟨rfl, rfl, hf⟩⟩
   have g4 := g1.refact (i := 8) rfl hok
   refine hK { x with pl := (swStep s c.p c.pl c.e).2.2.2, e := c.e } H1 ?_
   unfold ryL
   rw [show c1.dst = c.dst by rw [hc1]; rfl, show ryR rb c1.st c1.r { x with pl := (swStep s c.p c.pl c.e).2.2.2, e := c.e } = ryR rb c.st c.r x by rw [hc1]; rfl]
   rw [hc1] at g4 ⊢
   exact g4

theorem unit_freed (hs : s.ok) : 0 ≤ (cyUnit s c stir).freed := by
 unfold cyUnit
 split
 ·exact Int.le_refl _
 ·split
  ·split <;> exact Int.le_refl _
  ·split
   ·exact Int.le_refl _
   ·split
    ·exact Int.le_refl _
    ·split
     ·split
      ·exact Int.le_refl _
      ·unfold swStep
       split
       ·exact Int.le_refl _
       ·rename_i hc
        have hn := hNext_pos hs (q := c.pl) (by
         cases h : (hNext s c.pl).2
         ·exact absurd (.inl h) hc
         ·rfl)
        split
        ·exact Int.le_refl _
        ·simp only; omega
     ·exact Int.le_refl _
theorem ryStepC {n : Nat} (h : St H0 L H) (hi : L[i]? = some (RHeap rb s)) (hk : L[k]? = some (RyP b rb c)) (hik : i ≠ k) (hlt : c.lt n) (hn : n ≤ 600000)
  (hK : ∀ fp fc H', St H0 (Prt.row 1 fp (cyStep s c stir).1.1.length fc ((cyStep s c stir).1.1.map (Value.int .u64)) :: (L.set i (RHeap rb (cyStep s c stir).2.1)).set k (RyP b rb (cyStep s c stir).2.2)) H' → K (.tuple #[.slice fp (cyStep s c stir).1.1.length fc, .bool (cyStep s c stir).1.2]) H') :
  hcall PR f_ref16_Cycle_Step ⟨[.pointer (some ⟨b, 0, none⟩), .int .u64 stir]⟩ H K := by
 have hc0 := ry_ok h hk
 have hwk := hc0.work
 have hil := ltOfGet hi
 have hkl := ltOfGet hk
 apply den_ref16_Cycle_Step
 unfold B_ref16_Cycle_Step
 refine ⟨fun fP fL fC t H' => ∃ (y : Nat) (fr : List Int) (s' : Hs) (c' : Cy), t = y ∧ (y : Int) ≤ c.work ∧ fL = fr.length ∧ fr.length ≤ y ∧ c'.lt (n + 7 * y) ∧ c'.work = c.work ∧ cySteps stir (c.work.toNat - y) s' c' fr = cyStep s c stir ∧
   St H0 (Prt.row 1 fP fr.length fC (fr.map (Value.int .u64)) :: (L.set i (RHeap rb s')).set k (RyP b rb c')) H',
  fun _ _ _ t _ => (c.work - t).toNat, ⟨0, [], s, c, rfl, by have := hc0.work; omega, rfl, by simp, hlt, rfl, rfl, ?_⟩, ?_⟩
 ·have h1 := h.row (H' := _) (Own.nil 1) ((Goes.refl Nothing _).less fun c hc => absurd hc blk_none)
  rw [List.set_self hi, List.set_self hk]
  exact h1
 intro fP fL fC t H1
 rintro ⟨y, fr, s', c', rfl, hy, rfl, hfr, hlt', hw, hst, h1⟩
 have hi1 : ((L.set i (RHeap rb s')).set k (RyP b rb c'))[i]? = some (RHeap rb s') := by simp [List.getElem?_set, hil, hik, Ne.symm hik]
 have hk1 : (Prt.row 1 fP fr.length fC (fr.map (Value.int .u64)) :: (L.set i (RHeap rb s')).set k (RyP b rb c'))[k + 1]? = some (RyP b rb c') := by simp [List.getElem?_set, hkl]
 have hs1 := rheap_ok (i := i + 1) h1 hi1
 have hc1 := ry_ok h1 hk1
 obtain ⟨x, g, ho⟩ := ryOpened h1 hk1
 have g : St H0 (ryL b rb c' x ++ (Prt.row 1 fP fr.length fC (fr.map (Value.int .u64)) :: ((L.set i (RHeap rb s')).set k (RyP b rb c')).set k .nil)) H1 := g
 rw [List.set_set] at g
 have hiM : (Prt.row 1 fP fr.length fC (fr.map (Value.int .u64)) :: (L.set i (RHeap rb s')).set k .nil)[i + 1]? = some (RHeap rb s') := by simp [List.getElem?_set, hil, hik, Ne.symm hik]
 have shut : ∀ (fP : Option Addr) (fr : List Int) (fC : Nat) (s2 : Hs) (c2 : Cy) (H' : Hp), (∃ x', St H0 (ryL b rb c2 x' ++ (Prt.row 1 fP fr.length fC (fr.map (Value.int .u64)) :: (L.set i (RHeap rb s2)).set k .nil)) H') → St H0 (Prt.row 1 fP fr.length fC (fr.map (Value.int .u64)) :: (L.set i (RHeap rb s2)).set k (RyP b rb c2)) H' := fun fP fr fC s2 c2 H' ⟨x', g'⟩ => by
  have g'' : St H0 ([] ++ (ryL b rb c2 x' ++ (Prt.row 1 fP fr.length fC (fr.map (Value.int .u64)) :: L.set i (RHeap rb s2)).set (k + 1) .nil)) H' := g'
  have h3 := ryShut (N := []) (k := k + 1) (B := (L.set i (RHeap rb s2))[k]?.getD .nil) g'' (by simp [List.getElem?_set, hkl, hik])
  exact h3
 (try simp only [Za,Zb,Zc,Zd,Zf,Zh,Zi,Zk,Zl,Zm,Zn,Zo,Zp,Zr,Zs,Zx,Zt,Zu,Zy,Zz,Zv,Zw,ZA,ZB,ZC,ZD])
 refine ldI_of (g.cell (i := 0) rfl rfl) ?_
 by_cases hyw : (y : Int) < c.work
 rotate_left
 ·refine bif_neg (by rw [hw]; exact hyw) ?_
  have e0 : c.work.toNat - y = 0 := by omega
  rw [e0] at hst
  have e : cyStep s c stir = ((fr, false), s', c') := hst.symm
  rw [e] at hK
  exact hK fP fC H1 h1
 refine bif_pos (by rw [hw]; exact hyw) ?_
 have e1 : c.work.toNat - y = (c.work.toNat - (y + 1)) + 1 := by omega
 rw [e1] at hst
 have hult := hlt'.unit (stir := stir) hs1 hc1
 have huw := unit_work (s := s') (stir := stir) hc1
 have hfre := unit_freed (c := c') (stir := stir) hs1
 refine ryUnitP (stir := stir) g hiM hs1 ho hlt' (by omega) fun x' H2 g2 => ?_
 (try simp only [Za,Zb,Zc,Zd,Zf,Zh,Zi,Zk,Zl,Zm,Zn,Zo,Zp,Zr,Zs,Zx,Zt,Zu,Zy,Zz,Zv,Zw,ZA,ZB,ZC,ZD])
 generalize hU : cyUnit s' c' stir = U at *
 obtain ⟨stop, f, s2, c2⟩ := U
 simp only at g2 hult huw hfre ⊢
 have g2 : St H0 (ryL b rb c2 x' ++ (Prt.row 1 fP fr.length fC (fr.map (Value.int .u64)) :: ((L.set i (RHeap rb s')).set k .nil).set i (RHeap rb s2))) H2 := g2
 rw [List.set_comm _ _ (Ne.symm hik), List.set_set] at g2
 intro R20 hR20
 have next : ∀ (fP' : Option Addr) (fr' : List Int) (fC' : Nat) H', fr' = (if f ≠ 0 then fr ++ [f] else fr) → (stop.isSome = true → f = 0) → St H0 (Prt.row 1 fP' fr'.length fC' (fr'.map (Value.int .u64)) :: (L.set i (RHeap rb s2)).set k (RyP b rb c2)) H' → R20 fP' fr'.length fC' H' := fun fP' fr' fC' H' hfr' hsf h' => by
  refine hR20 fP' fr'.length fC' H' ?_
  cases stop with
  | some v =>
   have hf0 := hsf rfl
   rw [if_neg (by rw [hf0]; decide)] at hfr'
   subst hfr'
   rw [steps_stop hU] at hst
   rw [← hst] at hK
   simp only [Option.isSome_some, Zv, Option.getD_some]
   exact hK fP' fC' H' h'
  | none =>
   simp only [Option.isSome_none, Zw]
   rw [steps_go hU] at hst
   rw [wrap_i64 (by omega) (by omega)]
   refine ⟨⟨y + 1, fr', s2, c2, by omega, by omega, rfl, ?_, hult.mono (by omega), by rw [huw.1]; exact hw, by rw [hfr']; exact hst, h'⟩, by (try dsimp only); omega⟩
   rw [hfr']
   split
   ·rw [List.length_append]; simp; omega
   ·omega
 have hsf : stop.isSome = true → f = 0 := fun hh => by
  have h0 : (cyUnit s' c' stir).stop.isSome = true → (cyUnit s' c' stir).freed = 0 := by
   rcases hc1.sixth with h | ⟨h, h3⟩ | ⟨h, h3⟩ | ⟨h, _⟩ | ⟨h, _⟩ | h
   ·rw [unit0 h]; exact fun _ => rfl
   ·rw [unit12 h h3]; exact fun _ => rfl
   ·rw [unit23 h h3]; exact fun _ => rfl
   ·rw [unit3 h]; exact fun _ => rfl
   ·rw [unit4 h]; exact fun _ => rfl
   ·cases hsw : (swStep s' c'.p c'.pl c'.e).1.2
    ·rw [unit5 h hsw]; exact fun _ => rfl
    ·rw [unit6 h hsw]; exact fun hh => by (cases hh)
  rw [hU] at h0
  exact h0 hh
 by_cases hf : f > 0
 ·refine bif_pos hf ?_
  intro b25 hb25
  have g3 := g2.alloc (o := .cells #[.int .u64 f] ty_uint64) hb25
  refine g3.app (i := 10) rfl tu_ty_Suint64 tu_ty_Suint64 ti_ty_uint64 rfl (by decide) (g3.one_rd (i := 0) (n := 1) rfl rfl) (by intro z hz; simp at hz; rw [hz]; rfl) (by omega) fun p1 c1 H3 g4 => ?_
  (try simp only [Za,Zb,Zc,Zd,Zf,Zh,Zi,Zk,Zl,Zm,Zn,Zo,Zp,Zr,Zs,Zx,Zt,Zu,Zy,Zz,Zv,Zw,ZA,ZB,ZC,ZD])
  have g5 : St H0 (ryL b rb c2 x' ++ (Prt.row 1 p1 (fr.length + 1) c1 (fr.map (Value.int .u64) ++ [.int .u64 f]) :: (L.set i (RHeap rb s2)).set k .nil)) H3 := g4.less
  have ef : (fr ++ [f]).length = fr.length + 1 := by simp
  have em : (fr ++ [f]).map (Value.int .u64) = fr.map (Value.int .u64) ++ [.int .u64 f] := by simp
  rw [← ef, ← em] at g5
  rw [← ef]
  exact next p1 (fr ++ [f]) c1 H3 (by rw [if_pos (by omega)]) hsf (shut p1 (fr ++ [f]) c1 s2 c2 H3 ⟨x', g5⟩)
 ·refine bif_neg hf ?_
  exact next fP fr fC H2 (by rw [if_neg (by omega)]) hsf (shut fP fr fC s2 c2 H2 ⟨x', g2⟩)
end
end Go.Proofs.YtflfodcemnapeaaGreat

namespace Go.Proofs.YtflfodcemnapeaaGreat
set_option linter.unusedSimpArgs false
set_option linter.unusedVariables false
open Go
section
variable {s : Hs} {c : Cy} {stir : Int} {n m : Nat} {fr : List Int}
theorem sw_last {p : Ps} {pl e : Int} : (swStep s p pl e).2.1.last = s.last ∧ (swStep s p pl e).2.1.node = s.node := by
 unfold swStep
 split
 ·exact ⟨rfl, rfl⟩
 ·split
  ·exact ⟨rfl, rfl⟩
  ·exact ⟨hFree_last, hFree_node⟩
theorem unit_last : (cyUnit s c stir).s.last = s.last ∧ (cyUnit s c stir).s.node = s.node := by
 unfold cyUnit
 split
 ·exact ⟨rfl, rfl⟩
 ·split
  ·split <;> exact ⟨rfl, rfl⟩
  ·split
   ·exact ⟨rfl, rfl⟩
   ·split
    ·exact ⟨rfl, rfl⟩
    ·split
     ·split <;> exact sw_last
     ·exact ⟨rfl, rfl⟩
end
end Go.Proofs.YtflfodcemnapeaaGreat
