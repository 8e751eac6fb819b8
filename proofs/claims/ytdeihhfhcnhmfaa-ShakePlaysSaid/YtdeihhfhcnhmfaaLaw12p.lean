/- Chapter 12's statements, run: ShakePlays. No condition. -/
import Derived.Test.YtdeihhfhcnhmfaaLaw12
namespace Go.Proofs.Ytdeihhfhcnhmfaa
set_option linter.unusedSimpArgs false
set_option linter.unusedVariables false
open Go

theorem RShk.get {b : Nat} {n : Int} {s : Sk} {F : Nat → Prop} {H : Hp} (h : (RShk b n s).holds F H) :
    hcell H ⟨b, 1, none⟩ = some (.int .i64 s.ph) ∧ (∃ p c, hcell H ⟨b, 2, none⟩ = some (.slice p s.ar.length c) ∧ Rd H 1 p s.ar.length (s.ar.map .bool)) ∧ ∃ p c, hcell H ⟨b, 3, none⟩ = some (.slice p s.sc.length c) ∧ Rd H 1 p s.sc.length (s.sc.map .bool) := by
  obtain ⟨x, h⟩ := h
  exact ⟨Prt.one_cell h (i := 0) rfl rfl, ⟨_, _, Prt.one_cell h (i := 0) rfl rfl, Prt.row_rd h (i := 1) rfl⟩, _, _, Prt.one_cell h (i := 0) rfl rfl, Prt.row_rd h (i := 2) rfl⟩

theorem replicate_set_last {k : Nat} : (List.replicate (k + 1) false).set k true = (List.replicate (k + 1) false).set ((List.replicate (k + 1) false).length - 1) true := by simp

set_option maxRecDepth 20000 in
theorem ShakePlays_ok {n : Int} {p : Option Addr} {m c : Nat} {l : List Int} {H : Hp} {K : Value → Hp → Prop} (hk : IntKind.min .i64 ≤ n ∧ n ≤ IntKind.max .i64) (hl : Rd H 1 p m (l.map fun x => Value.int .i64 x)) (hm : m ≤ 9223372036854775807) (hQ : ∀ y ∈ l, IntKind.min .i64 ≤ y ∧ y ≤ IntKind.max .i64)
    (hK : ∀ H', Keep Nothing H H' → K (.bool true) H') : hcall PR f_law12_ShakePlays ⟨[.int .i64 n, .slice p m c]⟩ H K := by
  have hln : l.length = m := by have := hl.1; simpa using this
  apply den_law12_ShakePlays
  unfold B_law12_ShakePlays
  by_cases hn : n < 1 ∨ 4 < n
  · refine shakeNew_bad hn ?_
    simp only [tup2_mk, asP_mk, asI_mk']
    refine known12_ok fun H2 k2 => ?_
    simp only [asB_mk, Bool.not_true, cond_false, Option.isNone_none]
    by_cases h1 : n < 1
    · exact bif_pos h1 (bif_eq rfl (hK H2 k2))
    · exact bif_neg h1 (bif_pos (by omega) (bif_eq rfl (hK H2 k2)))
  have hn1 : 1 ≤ n := by omega
  have hn2 : n ≤ 4 := by omega
  have hw1 : IntKind.i64.wrap (n + 1) = n + 1 := wrap_i64 (by omega) (by omega)
  have hw3 : IntKind.i64.wrap (n + 3) = n + 3 := wrap_i64 (by omega) (by omega)
  refine shakeNew_ok hn1 hn2 fun b F1 H1 s1 g1 => ?_
  simp only [tup2_mk, asP_mk, asI_mk']
  refine known12_ok fun H2 k2 => ?_
  have s2 := (Shk _ _).still s1 ((Goes.of k2).less fun _ => id)
  have g2 := g1.trans ((Goes.of k2).part (F := F1) (F1 := F1) (fun _ h => h.elim) fun _ h => .inl h)
  simp only [asB_mk, Bool.not_true, cond_false, Option.isNone_some]
  refine bif_neg (by omega) (bif_neg (by omega) (bif_neqf rfl ?_))
  refine rNew_ok hn1 hn2 fun r F3 H3 s3 g3 => ?_
  simp only [asP_mk]
  obtain ⟨F4, s4, g4⟩ := Prt.more (Prt.list_nil H2) s3 g3
  obtain ⟨F5, s5, g5⟩ : ∃ F5, (Prt.list [Shk b ⟨0, List.replicate (n.toNat + 1) false, List.replicate (n.toNat + 1) false⟩, RShk r n ⟨0, List.replicate (n.toNat + 1) false, List.replicate (n.toNat + 1) false⟩]).holds F5 H3 ∧ Goes Nothing H F5 H3 := by
    refine ⟨fun c => F1 c ∨ F4 c, ⟨F1, F4, (Shk _ _).still s2 g4, s4, (Shk _ _).apart s2 g4 (fun _ _ => id), fun _ => Iff.rfl⟩, g2.trans (g4.part (fun _ h => h.elim) fun _ h => h)⟩
  refine ⟨fun i H' => ∃ (j : Nat) (F : Nat → Prop) (s : Sk), i = j ∧ j ≤ m ∧ (Prt.list [Shk b s, RShk r n s]).holds F H' ∧ Goes Nothing H F H' ∧ s.fine n, fun i _ => (m - i).toNat,
    ⟨0, F5, _, rfl, by omega, s5, g5, ⟨by simp; omega, by simp; omega, fun _ => ⟨rfl, rfl⟩⟩⟩, ?_⟩
  rintro i H6 ⟨j, F6, s, rfl, hj, s6, g6, hfine⟩
  by_cases hlt : (j : Int) < m
  rotate_left
  · exact bif_neg hlt (hK H6 g6.keep)
  refine bif_pos hlt ?_
  by_cases h300 : (j : Int) < 300
  rotate_left
  · exact bif_neg h300 (hK H6 g6.keep)
  refine bif_pos h300 ?_
  have hl6 := hl.keep g6.keep fun _ _ => id
  refine idx1 (g := fun x => Value.int .i64 x) (d := 0) hl6 (by omega) hlt fun b1 o1 hp1 hc1 => ldI_of hc1 ?_
  rw [Int.toNat_natCast]
  intro R23 hR23
  have hround : ∀ (H7 : Hp) (F7 : Nat → Prop) (s : Sk), (Prt.list [Shk b s, RShk r n s]).holds F7 H7 → Goes Nothing H F7 H7 → s.fine n → R23 true H7 := fun H7 F7 s s7 g7 hf => by
    refine hR23 true H7 ?_
    obtain ⟨FA, hA, _, _⟩ := Prt.at s7 (i := 0) rfl
    obtain ⟨FB, hB, _, _⟩ := Prt.at s7 (i := 1) rfl
    obtain ⟨e1, ⟨pa, ca, e2, ra⟩, pc, cc, e3, rc⟩ := RShk.get hB
    simp only [Bool.not_true, cond_false, nilP_mk, add_mk, Nat.zero_add]
    refine ldI_of e1 (shakePhase_ok hA ?_)
    simp only [asI_mk']
    refine ⟨ldI_of e1 rfl, bif_neqf rfl ?_⟩
    refine ⟨fun k H' => H' = H7 ∧ -1 ≤ k ∧ k ≤ n + 2, fun k _ => (n + 2 - k).toNat, ⟨rfl, by omega, by omega⟩, ?_⟩
    rintro k H8 ⟨hH, hk1, hk2⟩
    subst hH
    rw [hw1]
    by_cases hkn : k ≤ n + 1
    · refine bif_pos hkn (ldSl_of e2 (shakeIsArmed_ok hA ?_))
      simp only [asB_mk]
      refine ⟨ldSl_of e2 rfl, rIs_ok ra ?_⟩
      simp only [asB_mk, beq_self_eq_true, Bool.not_true, cond_false]
      refine ldSl_of e3 (shakeHasScanned_ok hA ?_)
      simp only [asB_mk]
      refine ⟨ldSl_of e3 rfl, rIs_ok rc ?_⟩
      simp only [asB_mk, beq_self_eq_true, Bool.not_true, cond_false]
      rw [wrap_i64 (by omega) (by omega)]
      exact ⟨⟨trivial, by omega, by omega⟩, by omega⟩
    · refine bif_neg hkn ?_
      rw [wrap_i64 (by omega) (by omega)]
      refine ⟨⟨j + 1, F7, s, by omega, by omega, s7, g7, hf⟩, by omega⟩
  refine idx1 (g := fun x => Value.int .i64 x) (d := 0) hl6 (by omega) hlt fun b1 o1 hp1 hc1 => ldI_of hc1 (Pick_ok (by omega) (by omega) ?_)
  simp only [asI_mk', Int.toNat_natCast]
  obtain ⟨FA, hA, _, upA⟩ := Prt.at s6 (i := 0) rfl
  by_cases h0 : pick (l.getD j 0) 12 = 0
  · refine bif_eq h0 ?_
    by_cases hp0 : s.ph = 0
    · obtain ⟨ea, es⟩ := hfine.idle hp0
      refine shakeBegin_ok hA hp0 (by have := hfine.ar; omega) (by have := hfine.ar; omega) fun FA' H7 hA' gA => ?_
      simp only [asI_mk']
      obtain ⟨F7, s7, g7⟩ := upA _ FA' H7 hA' gA
      obtain ⟨FB, hB, _, upB⟩ := Prt.at s7 (i := 1) rfl
      refine rBegin_ok hB hp0 (by omega) hn2 fun FB' H8 hB' gB => ?_
      simp only [asB_mk]
      obtain ⟨F8, s8, g8⟩ := upB _ FB' H8 hB' gB
      have e : (⟨1, (List.replicate (n.toNat + 1) false).set n.toNat true, List.replicate (n.toNat + 1) false⟩ : Sk) = { s with ph := 1, ar := s.ar.set (s.ar.length - 1) true } := by
        rw [ea, es, replicate_set_last]
      rw [e] at s8
      exact hround H8 F8 _ s8 ((g6.trans g7).trans g8) ⟨by simpa using hfine.ar, hfine.sc, fun h => absurd h (show ¬ (1 : Int) = 0 by decide)⟩
    · refine shakeBegin_busy hA hp0 ?_
      simp only [asI_mk']
      obtain ⟨FB, hB, _, upB⟩ := Prt.at s6 (i := 1) rfl
      refine rBegin_busy hB hp0 ?_
      simp only [asB_mk]
      exact hround H6 F6 s s6 g6 hfine
  refine bif_ne h0 ?_
  by_cases h1 : pick (l.getD j 0) 12 = 1
  · refine bif_eq h1 ?_
    by_cases hp3 : s.ph = 3
    · refine shakeEnd_ok hA hp3 fun FA' H7 hA' gA => ?_
      simp only [asI_mk']
      obtain ⟨F7, s7, g7⟩ := upA _ FA' H7 hA' gA
      obtain ⟨FB, hB, _, upB⟩ := Prt.at s7 (i := 1) rfl
      refine rEnd_ok hB hp3 (by omega) hn2 fun FB' H8 hB' gB => ?_
      simp only [asB_mk]
      obtain ⟨F8, s8, g8⟩ := upB _ FB' H8 hB' gB
      have ea : s.ar.length = n.toNat + 1 := by have := hfine.ar; omega
      have es : s.sc.length = n.toNat + 1 := by have := hfine.sc; omega
      rw [ea, es] at s8
      exact hround H8 F8 _ s8 ((g6.trans g7).trans g8) ⟨by simp; omega, by simp; omega, fun _ => ⟨rfl, rfl⟩⟩
    · refine shakeEnd_busy hA hp3 ?_
      simp only [asI_mk']
      obtain ⟨FB, hB, _, upB⟩ := Prt.at s6 (i := 1) rfl
      refine rEnd_busy hB hp3 ?_
      simp only [asB_mk]
      exact hround H6 F6 s s6 g6 hfine
  refine bif_ne h1 ?_
  intro R79 hR79
  have hans : ∀ x : Int, R79 x H6 := fun x => by
    refine hR79 x H6 ?_
    refine shakeAnswer_ok hA (by have := hfine.ar; have := hfine.sc; omega) (by have := hfine.ar; omega) fun FA' H7 hA' gA => ?_
    simp only [asI_mk']
    obtain ⟨F7, s7, g7⟩ := upA _ FA' H7 hA' gA
    obtain ⟨FB, hB, _, upB⟩ := Prt.at s7 (i := 1) rfl
    refine rAnswer_ok hB hfine.ar (by have := hfine.ar; have := hfine.sc; omega) hn2 fun FB' H8 hB' gB => ?_
    simp only [asI_mk']
    obtain ⟨F8, s8, g8⟩ := upB _ FB' H8 hB' gB
    rw [beq_self_eq_true]
    exact hround H8 F8 _ s8 ((g6.trans g7).trans g8) (Sk.fine_ans hfine)
  by_cases h2 : pick (l.getD j 0) 12 > 2
  · refine bif_pos h2 (idx1 (g := fun x => Value.int .i64 x) (d := 0) hl6 (by omega) hlt fun b1 o1 hp1 hc1 => ldI_of hc1 ⟨by decide, ?_⟩)
    rw [hw3]
    refine Pick_ok (by omega) (by omega) ?_
    simp only [asI_mk']
    exact hans _
  · exact bif_neg h2 (hans _)

end Go.Proofs.Ytdeihhfhcnhmfaa
