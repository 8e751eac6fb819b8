/- The document's shake, run. No condition. -/
import Derived.Test.YtdeihhfhcnhmfaaShake
namespace Go.Proofs.Ytdeihhfhcnhmfaa
set_option linter.unusedSimpArgs false
set_option linter.unusedVariables false
open Go

/-- The document's: n is how many mutators; the rows are one longer. -/
def RShk (b : Nat) (n : Int) (s : Sk) : Prt := Prt.ex fun (x : Option Addr × Nat × Option Addr × Nat × Nat) =>
  Prt.list [Prt.one b (.cells #[.int .i64 n, .int .i64 s.ph, .slice x.1 s.ar.length x.2.1, .slice x.2.2.1 s.sc.length x.2.2.2.1] x.2.2.2.2 (0, 0)), Prt.row 1 x.1 s.ar.length x.2.1 (s.ar.map .bool), Prt.row 1 x.2.2.1 s.sc.length x.2.2.2.1 (s.sc.map .bool)]

theorem rAll_ok {p : Option Addr} {n c : Nat} {l : List Bool} {H : Hp} {K : Value → Hp → Prop} (h : Rd H 1 p n (l.map .bool)) (hn : n < 4611686018427387904) (hK : K (.bool (l.all id)) H) : hcall PR f_ref11_all ⟨[.slice p n c]⟩ H K := by
  have hl : l.length = n := by have := h.1; simpa using this
  apply den_ref11_all
  unfold B_ref11_all
  refine ⟨fun i H' => H' = H ∧ ∃ j : Nat, i = j ∧ j ≤ n ∧ (l.take j).all id = true, fun i _ => (n - i).toNat, ⟨rfl, 0, rfl, by omega, rfl⟩, ?_⟩
  rintro i H' ⟨hH, j, rfl, hj, hall⟩
  subst hH
  by_cases hlt : (j : Int) < n
  · refine bif_pos hlt (idx1 (d := false) h (by omega) hlt fun b o _ hc => ldB_of hc ?_)
    rw [Int.toNat_natCast, List.getD_eq_getElem?_getD, List.getElem?_eq_getElem (by omega), Option.getD_some]
    by_cases he : l[j] = true
    · rw [he, Bool.not_true, cond_false, wrap_i64 (by omega) (by omega)]
      refine ⟨⟨rfl, j + 1, by omega, by omega, ?_⟩, by dsimp only; omega⟩
      rw [List.take_succ_eq_append_getElem (by omega), List.all_append, hall, he]
      rfl
    · have : l.all id = false := by
        rw [List.all_eq_false]
        exact ⟨l[j], List.getElem_mem _, he⟩
      rw [this] at hK
      rw [Bool.not_eq_true] at he
      rw [he]
      exact hK
  · refine bif_neg hlt ?_
    rw [List.take_of_length_le (by omega)] at hall
    rw [hall] at hK
    exact hK

theorem rIs_ok {p : Option Addr} {n c : Nat} {l : List Bool} {m : Int} {H : Hp} {K : Value → Hp → Prop} (h : Rd H 1 p n (l.map .bool)) (hK : K (.bool (isOf l m)) H) : hcall PR f_ref11_Is ⟨[.slice p n c, .int .i64 m]⟩ H K := by
  have hl : l.length = n := by have := h.1; simpa using this
  subst hl
  apply den_ref11_Is
  unfold B_ref11_Is
  unfold isOf at hK
  by_cases h0 : m ≥ 0
  · refine bif_pos h0 ?_
    by_cases h1 : m < l.length
    · refine bif_pos h1 (idx1 (d := false) h h0 h1 fun b o _ hc => ldB_of hc ?_)
      rw [decide_eq_true h0, decide_eq_true h1] at hK
      exact hK
    · refine bif_neg h1 ?_
      rw [decide_eq_false h1, Bool.and_false, Bool.false_and] at hK
      exact hK
  · refine bif_neg h0 ?_
    rw [decide_eq_false h0, Bool.false_and, Bool.false_and] at hK
    exact hK

theorem rNew_ok {m : Int} {H : Hp} {K : Value → Hp → Prop} (h1 : 1 ≤ m) (h2 : m ≤ 4)
    (hK : ∀ b F H', (RShk b m ⟨0, List.replicate (m.toNat + 1) false, List.replicate (m.toNat + 1) false⟩).holds F H' → Goes Nothing H F H' → K (.pointer (some ⟨b, 0, none⟩)) H') : hcall PR f_ref11_NewShake ⟨[.int .i64 m]⟩ H K := by
  apply den_ref11_NewShake
  unfold B_ref11_NewShake
  have hw : IntKind.i64.wrap (m + 1) = m + 1 := wrap_i64 (by omega) (by omega)
  have e : (m + 1).toNat = m.toNat + 1 := by omega
  have e47 : (2 : Int) ^ 47 = 140737488355328 := by decide
  have e62 : (2 : Int) ^ 62 = 4611686018427387904 := by decide
  rw [hw]
  constructor
  all_goals
    refine mko_ty_Sbool (by omega) (by omega) (by omega) fun p1 H1 o1 g1 => ?_
    rw [asSl_mk]
    refine mko_ty_Sbool (by omega) (by omega) (by omega) fun p2 H2 o2 g2 => ?_
    rw [asSl_mk]
    intro b hb
    obtain ⟨F1, l1, k1⟩ := Prt.more (Prt.list_nil H) (Prt.row_holds o1) g1
    obtain ⟨F2, l2, k2⟩ := Prt.more l1 (Prt.row_holds o2) g2
  · obtain ⟨F3, l3, k3⟩ := Prt.alloc (o := .cells #[.int .i64 m, .int .i64 0, .slice p1 (m + 1).toNat (m + 1).toNat, .slice p2 (m + 1).toNat (m + 1).toNat] ty_ref11_Shake (0, 0)) (Prt.flip l2) hb
    refine hK b F3 _ ⟨⟨p1, (m + 1).toNat, p2, (m + 1).toNat, ty_ref11_Shake⟩, ?_⟩ ((k1.trans k2).trans k3)
    simpa [e] using l3
  · obtain ⟨F3, l3, k3⟩ := Prt.alloc (o := .cells #[.int .i64 m, .int .i64 0, .slice p2 (m + 1).toNat (m + 1).toNat, .slice p1 (m + 1).toNat (m + 1).toNat] ty_ref11_Shake (0, 0)) l2 hb
    refine hK b F3 _ ⟨⟨p2, (m + 1).toNat, p1, (m + 1).toNat, ty_ref11_Shake⟩, ?_⟩ ((k1.trans k2).trans k3)
    simpa [e] using l3

theorem rBegin_busy {b : Nat} {n : Int} {s : Sk} {F : Nat → Prop} {H : Hp} {K : Value → Hp → Prop} (h : (RShk b n s).holds F H) (hp : s.ph ≠ 0) (hK : K (.bool false) H) : hcall PR f_ref11_Shake_Begin ⟨[.pointer (some ⟨b, 0, none⟩)]⟩ H K := by
  obtain ⟨x, h⟩ := h
  apply den_ref11_Shake_Begin
  unfold B_ref11_Shake_Begin
  simp only [nilP_mk, add_mk, Nat.zero_add]
  exact ldI_of (Prt.one_cell h (i := 0) rfl rfl) (bif_neq hp hK)

theorem rBegin_ok {b : Nat} {n : Int} {s : Sk} {F : Nat → Prop} {H : Hp} {K : Value → Hp → Prop} (h : (RShk b n s).holds F H) (hp : s.ph = 0) (hn : 0 ≤ n) (hn2 : n ≤ 4)
    (hK : ∀ F' H', (RShk b n ⟨1, (List.replicate (n.toNat + 1) false).set n.toNat true, List.replicate (n.toNat + 1) false⟩).holds F' H' → Goes F H F' H' → K (.bool true) H') : hcall PR f_ref11_Shake_Begin ⟨[.pointer (some ⟨b, 0, none⟩)]⟩ H K := by
  obtain ⟨x, h⟩ := h
  apply den_ref11_Shake_Begin
  unfold B_ref11_Shake_Begin
  have hw : IntKind.i64.wrap (n + 1) = n + 1 := wrap_i64 (by omega) (by omega)
  have e : (n + 1).toNat = n.toNat + 1 := by omega
  have e47 : (2 : Int) ^ 47 = 140737488355328 := by decide
  have e62 : (2 : Int) ^ 62 = 4611686018427387904 := by decide
  simp only [nilP_mk, add_mk, Nat.zero_add]
  refine ldI_of (Prt.one_cell h (i := 0) rfl rfl) (bif_neqf hp ?_)
  refine Prt.put h (i := 0) rfl (by simp) fun F1 H1 h1 g1 => ?_
  refine ldI_of (Prt.one_cell h1 (i := 0) rfl rfl) ?_
  rw [hw]
  refine mko_ty_Sbool (by omega) (by omega) (by omega) fun p1 H2 o2 k2 => ?_
  obtain ⟨F2, h2, g2⟩ := Prt.change h1 (i := 1) rfl (Prt.row_holds o2) k2
  rw [asSl_mk]
  refine Prt.put h2 (i := 0) rfl (by simp) fun F3 H3 h3 g3 => ?_
  refine ldI_of (Prt.one_cell h3 (i := 0) rfl rfl) ?_
  rw [hw]
  refine mko_ty_Sbool (by omega) (by omega) (by omega) fun p2 H4 o4 k4 => ?_
  obtain ⟨F4, h4, g4⟩ := Prt.change h3 (i := 2) rfl (Prt.row_holds o4) k4
  rw [asSl_mk]
  refine Prt.put h4 (i := 0) rfl (by simp) fun F5 H5 h5 g5 => ?_
  refine ldSl_of (Prt.one_cell h5 (i := 0) rfl rfl) (ldI_of (Prt.one_cell h5 (i := 0) rfl rfl) ?_)
  have hrow := Prt.row_rd h5 (i := 1) rfl
  rw [← List.map_replicate (f := Value.bool)] at hrow
  refine idx1 (d := false) hrow (by omega) (by omega) fun b' o hpp _ => ?_
  refine Prt.poke h5 (i := 1) rfl hpp (by omega) fun F6 H6 h6 g6 => ?_
  refine hK F6 H6 ⟨⟨p1, (n + 1).toNat, p2, (n + 1).toNat, x.2.2.2.2⟩, ?_⟩ (((((g1.trans g2).trans g3).trans g4).trans g5).trans g6)
  simpa [List.map_set, e] using h6

theorem rEnd_busy {b : Nat} {n : Int} {s : Sk} {F : Nat → Prop} {H : Hp} {K : Value → Hp → Prop} (h : (RShk b n s).holds F H) (hp : s.ph ≠ 3) (hK : K (.bool false) H) : hcall PR f_ref11_Shake_End ⟨[.pointer (some ⟨b, 0, none⟩)]⟩ H K := by
  obtain ⟨x, h⟩ := h
  apply den_ref11_Shake_End
  unfold B_ref11_Shake_End
  simp only [nilP_mk, add_mk, Nat.zero_add]
  exact ldI_of (Prt.one_cell h (i := 0) rfl rfl) (bif_neq hp hK)

theorem rEnd_ok {b : Nat} {n : Int} {s : Sk} {F : Nat → Prop} {H : Hp} {K : Value → Hp → Prop} (h : (RShk b n s).holds F H) (hp : s.ph = 3) (hn : 0 ≤ n) (hn2 : n ≤ 4)
    (hK : ∀ F' H', (RShk b n ⟨0, List.replicate (n.toNat + 1) false, List.replicate (n.toNat + 1) false⟩).holds F' H' → Goes F H F' H' → K (.bool true) H') : hcall PR f_ref11_Shake_End ⟨[.pointer (some ⟨b, 0, none⟩)]⟩ H K := by
  obtain ⟨x, h⟩ := h
  apply den_ref11_Shake_End
  unfold B_ref11_Shake_End
  have hw : IntKind.i64.wrap (n + 1) = n + 1 := wrap_i64 (by omega) (by omega)
  have e : (n + 1).toNat = n.toNat + 1 := by omega
  have e47 : (2 : Int) ^ 47 = 140737488355328 := by decide
  have e62 : (2 : Int) ^ 62 = 4611686018427387904 := by decide
  simp only [nilP_mk, add_mk, Nat.zero_add]
  refine ldI_of (Prt.one_cell h (i := 0) rfl rfl) (bif_neqf hp ?_)
  refine Prt.put h (i := 0) rfl (by simp) fun F1 H1 h1 g1 => ?_
  refine ldI_of (Prt.one_cell h1 (i := 0) rfl rfl) ?_
  rw [hw]
  refine mko_ty_Sbool (by omega) (by omega) (by omega) fun p1 H2 o2 k2 => ?_
  obtain ⟨F2, h2, g2⟩ := Prt.change h1 (i := 1) rfl (Prt.row_holds o2) k2
  rw [asSl_mk]
  refine Prt.put h2 (i := 0) rfl (by simp) fun F3 H3 h3 g3 => ?_
  refine ldI_of (Prt.one_cell h3 (i := 0) rfl rfl) ?_
  rw [hw]
  refine mko_ty_Sbool (by omega) (by omega) (by omega) fun p2 H4 o4 k4 => ?_
  obtain ⟨F4, h4, g4⟩ := Prt.change h3 (i := 2) rfl (Prt.row_holds o4) k4
  rw [asSl_mk]
  refine Prt.put h4 (i := 0) rfl (by simp) fun F5 H5 h5 g5 => ?_
  refine hK F5 H5 ⟨⟨p1, (n + 1).toNat, p2, (n + 1).toNat, x.2.2.2.2⟩, ?_⟩ ((((g1.trans g2).trans g3).trans g4).trans g5)
  simpa [e] using h5

theorem rAnswer_ok {b : Nat} {n : Int} {s : Sk} {m : Int} {F : Nat → Prop} {H : Hp} {K : Value → Hp → Prop} (h : (RShk b n s).holds F H) (ha : (s.ar.length : Int) = n + 1) (hl : s.sc.length = s.ar.length) (hn : n ≤ 4)
    (hK : ∀ F' H', (RShk b n (s.ans m).1).holds F' H' → Goes F H F' H' → K (.int .i64 (s.ans m).2) H') : hcall PR f_ref11_Shake_Answer ⟨[.pointer (some ⟨b, 0, none⟩), .int .i64 m]⟩ H K := by
  obtain ⟨x, h'⟩ := id h
  apply den_ref11_Shake_Answer
  unfold B_ref11_Shake_Answer
  simp only [nilP_mk, add_mk, Nat.zero_add]
  by_cases h0 : m < 0
  · rw [show s.ans m = (s, 0) by unfold Sk.ans; rw [if_pos (.inl h0)]] at hK
    exact bif_pos h0 (hK F H h (Goes.refl _ _))
  refine bif_neg h0 (ldI_of (Prt.one_cell h' (i := 0) rfl rfl) ?_)
  by_cases h1 : (s.ar.length : Int) ≤ m
  · rw [show s.ans m = (s, 0) by unfold Sk.ans; rw [if_pos (.inr h1)]] at hK
    exact bif_pos (by omega) (hK F H h (Goes.refl _ _))
  refine bif_neg (by omega) ?_
  have hc : ¬ (m < 0 ∨ (s.ar.length : Int) ≤ m) := by omega
  have ep := Prt.one_cell h' (i := 0) (o := 1) rfl rfl
  have e2 := Prt.one_cell h' (i := 0) (o := 2) rfl rfl
  have e3 := Prt.one_cell h' (i := 0) (o := 3) rfl rfl
  intro R5 hR5
  by_cases hp1 : s.ph = 1
  · refine ldI_of ep (bif_eq hp1 (ldSl_of e2 (idx1 (d := false) (Prt.row_rd h' (i := 1) rfl) (by omega) (by omega) fun b' o hpp hcc => ldB_of hcc ?_)))
    by_cases he : s.ar.getD m.toNat false = true
    · rw [he, Bool.not_true, cond_false]
      refine hR5 H (ldI_of ep (bif_ne (by omega) ?_))
      rw [show s.ans m = (s, 0) by unfold Sk.ans; rw [if_neg hc, if_pos hp1, if_pos he]] at hK
      exact hK F H h (Goes.refl _ _)
    · have he' := Bool.not_eq_true _ ▸ he
      rw [he', Bool.not_false, cond_true]
      rw [show s.ans m = (_, 1) by unfold Sk.ans; rw [if_neg hc, if_pos hp1, if_neg he]] at hK
      refine ldSl_of e2 (idx1 (d := false) (Prt.row_rd h' (i := 1) rfl) (by omega) (by omega) fun b' o hpp _ => ?_)
      refine Prt.poke h' (i := 1) rfl hpp (by omega) fun F1 H1 h1' g1 => ?_
      refine ldSl_of (Prt.one_cell h1' (i := 0) (o := 2) rfl rfl) ?_
      have hrow := Prt.row_rd h1' (i := 1) rfl
      rw [← List.map_set (f := Value.bool)] at hrow h1'
      refine rAll_ok hrow (by omega) ?_
      simp only [asB_mk]
      by_cases ha : (s.ar.set m.toNat true).all id = true
      · rw [ha, cond_true]
        refine Prt.put h1' (i := 0) rfl (by simp) fun F2 H2 h2 g2 => ?_
        refine hK F2 H2 ⟨x, ?_⟩ (g1.trans g2)
        rw [if_pos ha]
        simpa using h2
      · rw [Bool.not_eq_true] at ha
        rw [ha, cond_false]
        refine hK F1 H1 ⟨x, ?_⟩ g1
        rw [ha]
        simpa [hp1] using h1'
  · refine ldI_of ep (bif_ne hp1 (hR5 H (ldI_of ep ?_)))
    by_cases hp2 : s.ph = 2
    · refine bif_eq hp2 (ldSl_of e3 (idx1 (d := false) (Prt.row_rd h' (i := 2) rfl) (by omega) (by omega) fun b' o hpp hcc => ldB_of hcc ?_))
      by_cases he : s.sc.getD m.toNat false = true
      · rw [he, Bool.not_true, cond_false]
        rw [show s.ans m = (s, 0) by unfold Sk.ans; rw [if_neg hc, if_neg hp1, if_pos hp2, if_pos he]] at hK
        exact hK F H h (Goes.refl _ _)
      · have he' := Bool.not_eq_true _ ▸ he
        rw [he', Bool.not_false, cond_true]
        rw [show s.ans m = (_, 2) by unfold Sk.ans; rw [if_neg hc, if_neg hp1, if_pos hp2, if_neg he]] at hK
        refine ldSl_of e3 (idx1 (d := false) (Prt.row_rd h' (i := 2) rfl) (by omega) (by omega) fun b' o hpp _ => ?_)
        refine Prt.poke h' (i := 2) rfl hpp (by omega) fun F1 H1 h1' g1 => ?_
        refine ldSl_of (Prt.one_cell h1' (i := 0) (o := 3) rfl rfl) ?_
        have hrow := Prt.row_rd h1' (i := 2) rfl
        rw [← List.map_set (f := Value.bool)] at hrow h1'
        refine rAll_ok hrow (by omega) ?_
        simp only [asB_mk]
        by_cases ha : (s.sc.set m.toNat true).all id = true
        · rw [ha, cond_true]
          refine Prt.put h1' (i := 0) rfl (by simp) fun F2 H2 h2 g2 => ?_
          refine hK F2 H2 ⟨x, ?_⟩ (g1.trans g2)
          rw [if_pos ha]
          simpa using h2
        · rw [Bool.not_eq_true] at ha
          rw [ha, cond_false]
          refine hK F1 H1 ⟨x, ?_⟩ g1
          rw [ha]
          simpa [hp2] using h1'
    · rw [show s.ans m = (s, 0) by unfold Sk.ans; rw [if_neg hc, if_neg hp1, if_neg hp2]] at hK
      exact bif_ne hp2 (hK F H h (Goes.refl _ _))

end Go.Proofs.Ytdeihhfhcnhmfaa
