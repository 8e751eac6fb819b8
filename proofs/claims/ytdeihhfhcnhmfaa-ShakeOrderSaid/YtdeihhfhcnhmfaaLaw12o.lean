/- Chapter 12's statements, run: ShakeOrder. No condition. -/
import Derived.Test.YtdeihhfhcnhmfaaLaw12
namespace Go.Proofs.Ytdeihhfhcnhmfaa
set_option linter.unusedSimpArgs false
set_option linter.unusedVariables false
open Go

def trues : List Bool → Nat
  | [] => 0
  | b :: l => (if b then 1 else 0) + trues l

theorem trues_le : ∀ {l : List Bool}, trues l ≤ l.length
  | [] => Nat.le_refl _
  | b :: l => by have := trues_le (l := l); simp only [trues, List.length_cons]; split <;> omega
theorem trues_set : ∀ {l : List Bool} {m : Nat}, m < l.length → l.getD m false = false → trues (l.set m true) = trues l + 1
  | [], m, h, _ => absurd h (Nat.not_lt_zero m)
  | b :: l, 0, _, h => by simp at h; subst h; simp [trues]; omega
  | b :: l, m + 1, h, h2 => by
    have := trues_set (l := l) (m := m) (by simpa using h) (by simpa using h2)
    simp only [List.set_cons_succ, trues, this]
    omega
theorem trues_all : ∀ {l : List Bool}, l.all id = true ↔ trues l = l.length
  | [] => by simp [trues]
  | b :: l => by
    have h1 := trues_all (l := l)
    have h2 := trues_le (l := l)
    cases b
    · simp only [List.all_cons, id, Bool.false_and, trues, List.length_cons]
      constructor
      · intro h; cases h
      · intro h; simp at h; omega
    · simp only [List.all_cons, id, Bool.true_and, trues, List.length_cons, h1, if_true]
      omega
theorem trues_replicate : ∀ {k : Nat}, trues (List.replicate k false) = 0
  | 0 => rfl
  | k + 1 => by simp [List.replicate_succ, trues, trues_replicate]
theorem trues_take_succ : ∀ {l : List Bool} {m : Nat}, m < l.length → trues (l.take (m + 1)) = trues (l.take m) + if l.getD m false then 1 else 0
  | [], m, h => absurd h (Nat.not_lt_zero m)
  | b :: l, 0, _ => by simp [trues]
  | b :: l, m + 1, h => by
    have := trues_take_succ (l := l) (m := m) (by simpa using h)
    simp only [List.take_succ_cons, trues, this, List.getD_cons_succ]
    omega

/-- In which phase how many are armed and have scanned. -/
structure Sk.good (n : Int) (s : Sk) : Prop where
  ar : (s.ar.length : Int) = n + 1
  sc : (s.sc.length : Int) = n + 1
  ph : (s.ph = 0 ∧ trues s.ar = 0 ∧ trues s.sc = 0) ∨ (s.ph = 1 ∧ 1 ≤ trues s.ar ∧ trues s.ar < n + 1 ∧ trues s.sc = 0) ∨ (s.ph = 2 ∧ trues s.ar = n + 1 ∧ trues s.sc < n + 1) ∨ (s.ph = 3 ∧ trues s.ar = n + 1 ∧ trues s.sc = n + 1)

def Step (a b : Int) : Prop := b = a ∨ (a = 0 ∧ b = 1) ∨ (a = 1 ∧ b = 2) ∨ (a = 2 ∧ b = 3) ∨ (a = 3 ∧ b = 0)

theorem Sk.good_ans {n m : Int} {s : Sk} (h : s.good n) : (s.ans m).1.good n ∧ Step s.ph (s.ans m).1.ph := by
  have same : s.good n ∧ Step s.ph s.ph := ⟨h, .inl rfl⟩
  obtain ⟨ha, hs, hp⟩ := h
  unfold Sk.ans
  split
  · exact same
  rename_i hm
  split
  · rename_i h1
    split
    · exact same
    · rename_i he
      have ht := trues_set (l := s.ar) (m := m.toNat) (by omega) (by simpa using he)
      have hall := trues_all (l := s.ar.set m.toNat true)
      rw [List.length_set, ht] at hall
      have hp : 1 ≤ trues s.ar ∧ trues s.ar < n + 1 ∧ trues s.sc = 0 := by
        rcases hp with h | h | h | h
        · omega
        · exact h.2
        · omega
        · omega
      by_cases hc : (s.ar.set m.toNat true).all id = true
      · have := hall.1 hc
        refine ⟨⟨by simpa using ha, hs, .inr (.inr (.inl ?_))⟩, ?_⟩
        · simp only [if_pos hc, ht, true_and]
          omega
        · simp only [if_pos hc, h1]; exact .inr (.inr (.inl ⟨rfl, rfl⟩))
      · have hne : trues s.ar + 1 ≠ s.ar.length := fun e => hc (hall.2 e)
        have := trues_le (l := s.ar)
        refine ⟨⟨by simpa using ha, hs, .inr (.inl ?_)⟩, ?_⟩
        · simp only [if_neg hc, ht, true_and]; omega
        · simp only [if_neg hc, h1]; exact .inl rfl
  · split
    · rename_i h1 h2
      split
      · exact same
      · rename_i he
        have ht := trues_set (l := s.sc) (m := m.toNat) (by omega) (by simpa using he)
        have hall := trues_all (l := s.sc.set m.toNat true)
        rw [List.length_set, ht] at hall
        have hp : trues s.ar = n + 1 ∧ trues s.sc < n + 1 := by
          rcases hp with h | h | h | h
          · omega
          · omega
          · exact h.2
          · omega
        by_cases hc : (s.sc.set m.toNat true).all id = true
        · have := hall.1 hc
          refine ⟨⟨ha, by simpa using hs, .inr (.inr (.inr ?_))⟩, ?_⟩
          · simp only [if_pos hc, ht, true_and]; omega
          · simp only [if_pos hc, h2]; exact .inr (.inr (.inr (.inl ⟨rfl, rfl⟩)))
        · have hne : trues s.sc + 1 ≠ s.sc.length := fun e => hc (hall.2 e)
          have := trues_le (l := s.sc)
          refine ⟨⟨ha, by simpa using hs, .inr (.inr (.inl ?_))⟩, ?_⟩
          · simp only [if_neg hc, ht, true_and]; omega
          · simp only [if_neg hc, h2]; exact .inl rfl
    · exact same

theorem Sk.good_begin {n : Int} {s : Sk} (h : s.good n) (hn : 1 ≤ n) (h0 : s.ph = 0) : Sk.good n { s with ph := 1, ar := s.ar.set (s.ar.length - 1) true } := by
  obtain ⟨ha, hs, hp⟩ := h
  have hp : trues s.ar = 0 ∧ trues s.sc = 0 := by rcases hp with h | h | h | h <;> omega
  have hlast : s.ar.getD (s.ar.length - 1) false = false := by
    have : ∀ {l : List Bool}, trues l = 0 → ∀ i, l.getD i false = false := by
      intro l
      induction l with
      | nil => intro _ i; simp
      | cons b l ih =>
        intro h i
        cases b
        · cases i with
          | zero => simp
          | succ i => simpa using ih (by simpa [trues] using h) i
        · simp [trues] at h
    exact this hp.1 _
  have ht := trues_set (l := s.ar) (m := s.ar.length - 1) (by omega) hlast
  exact ⟨by simpa using ha, hs, .inr (.inl ⟨rfl, by simp only [ht]; omega, by simp only [ht]; omega, hp.2⟩)⟩

theorem isOf_nat {l : List Bool} {m : Nat} (h : m < l.length) : isOf l m = l.getD m false := by
  unfold isOf
  rw [decide_eq_true (by omega), decide_eq_true (by omega), Int.toNat_natCast]
  simp

set_option maxRecDepth 20000 in
set_option maxHeartbeats 4000000 in
theorem ShakeOrder_ok {q : Int} {p : Option Addr} {m c : Nat} {l : List Int} {H : Hp} {K : Value → Hp → Prop} (hk : IntKind.min .i64 ≤ q ∧ q ≤ IntKind.max .i64) (hl : Rd H 1 p m (l.map fun x => Value.int .i64 x)) (hm : m ≤ 9223372036854775807) (hQ : ∀ y ∈ l, IntKind.min .i64 ≤ y ∧ y ≤ IntKind.max .i64)
    (hK : ∀ H', Keep Nothing H H' → K (.bool true) H') : hcall PR f_law12_ShakeOrder ⟨[.int .i64 q, .slice p m c]⟩ H K := by
  have hln : l.length = m := by have := hl.1; simpa using this
  apply den_law12_ShakeOrder
  unfold B_law12_ShakeOrder
  refine Pick_ok (by omega) (by omega) ?_
  have hq := pick_lt (n := q) (m := 4) (by omega)
  generalize pick q 4 = t at hq
  simp only [asI_mk']
  have hw : IntKind.i64.wrap (1 + t) = 1 + t := wrap_i64 (by omega) (by omega)
  simp only [hw]
  generalize hnn : 1 + t = n
  have hn1 : 1 ≤ n := by omega
  have hn2 : n ≤ 4 := by omega
  clear hnn hw hq
  have hw1 : IntKind.i64.wrap (n + 1) = n + 1 := wrap_i64 (by omega) (by omega)
  have hw2 : IntKind.i64.wrap (n + 2) = n + 2 := wrap_i64 (by omega) (by omega)
  have hw4 : IntKind.i64.wrap (n + 4) = n + 4 := wrap_i64 (by omega) (by omega)
  simp only [hw1, hw2, hw4]
  refine shakeNew_ok hn1 hn2 fun b F1 H1 s1 g1 => ?_
  simp only [tup2_mk, asP_mk, asI_mk']
  refine known12_ok fun H2 k2 => ?_
  have s2 := (Shk _ _).still s1 ((Goes.of k2).less fun _ => id)
  have g2 := g1.trans ((Goes.of k2).part (F := F1) (F1 := F1) (fun _ h => h.elim) fun _ h => .inl h)
  simp only [asB_mk, Bool.not_true, cond_false, Option.isNone_some]
  refine bif_neqf rfl (shakePhase_ok s2 ?_)
  simp only [asI_mk']
  refine ⟨fun was i H' => ∃ (j : Nat) (F : Nat → Prop) (s : Sk), i = j ∧ j ≤ m ∧ (Shk b s).holds F H' ∧ Goes Nothing H F H' ∧ s.good n ∧ was = s.ph, fun was i _ => (m - i).toNat,
    ⟨0, F1, _, rfl, by omega, s2, g2, ⟨by simp; omega, by simp; omega, .inl ⟨rfl, by simp [trues_replicate], by simp [trues_replicate]⟩⟩, rfl⟩, ?_⟩
  rintro was i H6 ⟨j, F6, s, rfl, hj, s6, g6, hgood, rfl⟩
  by_cases hlt : (j : Int) < m
  rotate_left
  · exact bif_neg hlt (hK H6 g6.keep)
  refine bif_pos hlt ?_
  by_cases h300 : (j : Int) < 300
  rotate_left
  · exact bif_neg h300 (hK H6 g6.keep)
  refine bif_pos h300 ?_
  have hl6 := hl.keep g6.keep fun _ _ => id
  intro R25 hR25
  intro R28 hR28
  have hround : ∀ (H7 : Hp) (F7 : Nat → Prop) (s' : Sk), (Shk b s').holds F7 H7 → Goes Nothing H F7 H7 → s'.good n → Step s.ph s'.ph → R28 H7 := fun H7 F7 s' s7 g7 hg hstep => by
    refine hR28 H7 ?_
    have hla := hg.ar
    have hls := hg.sc
    refine ⟨fun a c k H' => H' = H7 ∧ ∃ x : Nat, k = x ∧ (x : Int) ≤ n + 1 ∧ a = trues (s'.ar.take x) ∧ c = trues (s'.sc.take x), fun a c k _ => (n + 2 - k).toNat, ⟨rfl, 0, rfl, by omega, rfl, rfl⟩, ?_⟩
    rintro a c k H8 ⟨hH, x, rfl, hx, rfl, rfl⟩
    subst hH
    by_cases hxn : (x : Int) ≤ n
    · refine bif_pos hxn ?_
      intro R36 hR36 R40 hR40
      have ta := trues_take_succ (l := s'.ar) (m := x) (by omega)
      have tc := trues_take_succ (l := s'.sc) (m := x) (by omega)
      have la := trues_le (l := s'.ar.take x)
      have lc := trues_le (l := s'.sc.take x)
      rw [List.length_take] at la lc
      have hnext : ∀ a c : Int, a = trues (s'.ar.take (x + 1)) → c = trues (s'.sc.take (x + 1)) → R36 a c H8 := fun a c ea ec => by
        refine hR36 a c H8 ?_
        rw [wrap_i64 (by omega) (by omega)]
        exact ⟨⟨rfl, x + 1, by omega, by omega, ea, ec⟩, by dsimp only; omega⟩
      have hsc : ∀ a : Int, a = trues (s'.ar.take (x + 1)) → R40 a H8 := fun a ea => by
        refine hR40 a H8 (shakeHasScanned_ok s7 ?_)
        simp only [asB_mk, isOf_nat (show x < s'.sc.length by omega)]
        cases hb : s'.sc.getD x false
        · rw [hb] at tc
          exact hnext a _ ea (by simp at tc; omega)
        · rw [hb] at tc
          rw [cond_true, wrap_i64 (by omega) (by omega)]
          exact hnext a _ ea (by simp at tc; omega)
      refine shakeIsArmed_ok s7 ?_
      simp only [asB_mk, isOf_nat (show x < s'.ar.length by omega)]
      cases hb : s'.ar.getD x false
      · rw [hb] at ta
        exact hsc _ (by simp at ta; omega)
      · rw [hb] at ta
        rw [cond_true, wrap_i64 (by omega) (by omega)]
        exact hsc _ (by simp at ta; omega)
    · refine bif_neg hxn (shakePhase_ok s7 ?_)
      simp only [asI_mk']
      have hxx : x = s'.ar.length := by omega
      have hxs : x = s'.sc.length := by omega
      rw [show s'.ar.take x = s'.ar by rw [hxx, List.take_length], show s'.sc.take x = s'.sc by rw [hxs, List.take_length]]
      have hgoal : R25 s'.ph H8 := by
        refine hR25 s'.ph H8 ?_
        rw [wrap_i64 (by omega) (by omega)]
        exact ⟨⟨j + 1, F7, s', by omega, by omega, s7, g7, hg, rfl⟩, by dsimp only; omega⟩
      have hp := hg.ph
      have hp0 := hgood.ph
      have hws : IntKind.i64.wrap (s.ph + 1) = s.ph + 1 := wrap_i64 (by omega) (by omega)
      rw [hws]
      refine ⟨by decide, ?_⟩
      generalize hA : ((trues s'.ar : Nat) : Int) = A at hp
      generalize hC : ((trues s'.sc : Nat) : Int) = C at hp
      have b2 : (s'.ph != s.ph) = true → (s'.ph != Int.tmod (s.ph + 1) 4) = false := by
        intro h
        have h' : s'.ph ≠ s.ph := by simpa using h
        have hs4 : s'.ph = Int.tmod (s.ph + 1) 4 := by
          rcases hstep with e | ⟨e1, e2⟩ | ⟨e1, e2⟩ | ⟨e1, e2⟩ | ⟨e1, e2⟩
          · exact absurd e h'
          all_goals (rw [e1, e2]; rfl)
        simp [hs4]
      have b3 : decide (C > 0) = true → decide (A ≤ n) = false := by
        intro h
        have h := of_decide_eq_true h
        exact decide_eq_false (by omega)
      have b4 : (!((s'.ph == 3) == (C == n + 1))) = false := by
        by_cases h3 : s'.ph = 3
        · rw [show (s'.ph == 3) = true by simp [h3], show (C == n + 1) = true by simp; omega]; rfl
        · rw [show (s'.ph == 3) = false by simp [h3], show (C == n + 1) = false by simp; omega]; rfl
      have b5 : (s'.ph == 0) = true → decide (A > 0) = false := by
        intro h
        have h : s'.ph = 0 := by simpa using h
        exact decide_eq_false (by omega)
      have b6 : (s'.ph == 2) = true → (A != n + 1) = false := by
        intro h
        have h : s'.ph = 2 := by simpa using h
        have : A = n + 1 := by omega
        simp [this]
      have b7 : (s'.ph == 3) = true → (A != n + 1) = false := by
        intro h
        have h : s'.ph = 3 := by simpa using h
        have : A = n + 1 := by omega
        simp [this]
      have b8 : (s'.ph == 1) = true → (A == 0) = false ∧ (A == n + 1) = false := by
        intro h
        have h : s'.ph = 1 := by simpa using h
        have h1 : A ≠ 0 := by omega
        have h2 : A ≠ n + 1 := by omega
        simp [h1, h2]
      clear hgood hp hp0 hstep hR25 hR28 hA hC hws
      generalize (s'.ph != s.ph) = x1 at b2
      generalize (s'.ph != Int.tmod (s.ph + 1) 4) = x2 at b2
      generalize decide (C > 0) = x3 at b3
      generalize decide (A ≤ n) = x4 at b3
      generalize (!((s'.ph == 3) == (C == n + 1))) = x5 at b4
      generalize (s'.ph == 3) = x6 at b7
      generalize (s'.ph == 0) = x7 at b5
      generalize (s'.ph == 2) = x8 at b6
      generalize (s'.ph == 1) = x9 at b8
      generalize decide (A > 0) = y1 at b5
      generalize (A != n + 1) = y2 at b6 b7
      generalize (A == 0) = y3 at b8
      generalize (A == n + 1) = y4 at b8
      subst b4
      cases x7 <;> simp at b5
      all_goals (try subst b5)
      all_goals cases x8 <;> simp at b6
      all_goals (try subst b6)
      all_goals cases x9 <;> simp at b8
      all_goals (try obtain ⟨rfl, rfl⟩ := b8)
      all_goals cases x3 <;> simp at b3
      all_goals (try subst b3)
      all_goals cases x1 <;> simp at b2
      all_goals (try subst b2)
      all_goals cases x6 <;> simp at b7
      all_goals (try subst b7)
      all_goals simpa only [cond_true, cond_false] using hgoal
  refine idx1 (g := fun x => Value.int .i64 x) (d := 0) hl6 (by omega) hlt fun b1 o1 hp1 hc1 => ldI_of hc1 (Pick_ok (by omega) (by omega) ?_)
  simp only [asI_mk', Int.toNat_natCast]
  have hpk := pick_lt (n := l.getD j 0) (m := n + 4) (by omega)
  by_cases h0 : pick (l.getD j 0) (n + 4) > n + 2
  · refine bif_pos h0 ?_
    by_cases hp0 : s.ph = 0
    · refine shakeBegin_ok s6 hp0 (by have := hgood.ar; omega) (by have := hgood.ar; omega) fun F7 H7 s7 g7 => ?_
      simp only [asI_mk']
      exact hround H7 F7 _ s7 (g6.trans g7) (Sk.good_begin hgood hn1 hp0) (.inr (.inl ⟨hp0, rfl⟩))
    · refine shakeBegin_busy s6 hp0 ?_
      simp only [asI_mk']
      exact hround H6 F6 s s6 g6 hgood (.inl rfl)
  refine bif_neg h0 ?_
  by_cases h1 : pick (l.getD j 0) (n + 4) = n + 2
  · refine bif_eq h1 ?_
    by_cases hp3 : s.ph = 3
    · refine shakeEnd_ok s6 hp3 fun F7 H7 s7 g7 => ?_
      simp only [asI_mk']
      exact hround H7 F7 _ s7 (g6.trans g7) ⟨by simpa using hgood.ar, by simpa using hgood.sc, .inl ⟨rfl, by simp [trues_replicate], by simp [trues_replicate]⟩⟩ (.inr (.inr (.inr (.inr ⟨hp3, rfl⟩))))
    · refine shakeEnd_busy s6 hp3 ?_
      simp only [asI_mk']
      exact hround H6 F6 s s6 g6 hgood (.inl rfl)
  refine bif_ne h1 (shakeAnswer_ok s6 (by have := hgood.ar; have := hgood.sc; omega) (by have := hgood.ar; omega) fun F7 H7 s7 g7 => ?_)
  simp only [asI_mk']
  exact hround H7 F7 _ s7 (g6.trans g7) (Sk.good_ans hgood).1 (Sk.good_ans hgood).2

end Go.Proofs.Ytdeihhfhcnhmfaa
