/- Chapter 12's statements, run: ShakeKnown, ShakePlays. No condition. -/
import Derived.Test.YtdeihhfhcnhmfaaRShake
import Derived.Test.YtdeihhfhcnhmfaaHand
namespace Go.Proofs.Ytdeihhfhcnhmfaa
set_option linter.unusedSimpArgs false
set_option linter.unusedVariables false
open Go

theorem known12_ok {H : Hp} {K : Value → Hp → Prop} (hK : ∀ H', Keep Nothing H H' → K (.bool true) H') : hcall PR f_law12_known ⟨[]⟩ H K := by
  apply den_law12_known
  unfold B_law12_known
  refine shakeNew_ok (by omega) (by omega) fun b F1 H1 s1 g1 => ?_
  simp only [tup2_mk, asP_mk, asI_mk', Option.isNone_some, cond_false]
  refine bif_neqf rfl ?_
  have s1 : (Shk b ⟨0, [false, false], [false, false]⟩).holds F1 H1 := s1
  refine shakeAnswer_ok s1 rfl (by decide) fun F2 H2 s2 g2 => ?_
  have s2 : (Shk b ⟨0, [false, false], [false, false]⟩).holds F2 H2 := s2
  simp only [asI_mk']
  refine shakeBegin_ok s2 rfl (by decide) (by decide) fun F3 H3 s3 g3 => ?_
  have s3 : (Shk b ⟨1, [false, true], [false, false]⟩).holds F3 H3 := s3
  simp only [asI_mk']
  refine shakeAnswer_ok s3 rfl (by decide) fun F4 H4 s4 g4 => ?_
  have s4 : (Shk b ⟨1, [false, true], [false, false]⟩).holds F4 H4 := s4
  simp only [asI_mk']
  refine shakeAnswer_ok s4 rfl (by decide) fun F5 H5 s5 g5 => ?_
  have s5 : (Shk b ⟨2, [true, true], [false, false]⟩).holds F5 H5 := s5
  simp only [asI_mk']
  refine shakeAnswer_ok s5 rfl (by decide) fun F6 H6 s6 g6 => ?_
  have s6 : (Shk b ⟨2, [true, true], [true, false]⟩).holds F6 H6 := s6
  simp only [asI_mk']
  refine shakeAnswer_ok s6 rfl (by decide) fun F7 H7 s7 g7 => ?_
  have s7 : (Shk b ⟨3, [true, true], [true, true]⟩).holds F7 H7 := s7
  simp only [asI_mk']
  refine bif_eq rfl (bif_eq rfl (bif_eq rfl (bif_eq rfl (bif_eq rfl (bif_eq rfl ?_)))))
  refine shakePhase_ok s7 ?_
  simp only [asI_mk']
  exact hK H7 ((((((g1.trans g2).trans g3).trans g4).trans g5).trans g6).trans g7).keep

theorem ShakeKnown_ok {H : Hp} {K : Value → Hp → Prop} (hK : ∀ H', Keep Nothing H H' → K (.bool true) H') : hcall PR f_law12_ShakeKnown ⟨[]⟩ H K := by
  apply den_law12_ShakeKnown
  unfold B_law12_ShakeKnown
  refine shakeNew_bad (.inl (by omega)) ?_
  simp only [tup2_mk, asP_mk, asI_mk']
  refine shakeNew_bad (.inr (by omega)) ?_
  simp only [tup2_mk, asP_mk, asI_mk']
  refine shakeNew_ok (by omega) (by omega) fun b F0 H0 s0 g0 => ?_
  simp only [tup2_mk, asP_mk, asI_mk', Option.isNone_some, cond_false]
  have s0 : (Shk b ⟨0, [false, false], [false, false]⟩).holds F0 H0 := s0
  refine known12_ok fun H1 k1 => ?_
  have s1 := (Shk _ _).still s0 ((Goes.of k1).less fun _ => id)
  have g1 := g0.trans ((Goes.of k1).part (F := F0) (F1 := F0) (fun _ h => h.elim) fun _ h => .inl h)
  simp only [asB_mk, Bool.not_true, cond_false]
  refine bif_neqf rfl (bif_neqf rfl (bif_neqf rfl ?_))
  refine shakeEnd_busy s1 (by decide) ?_
  simp only [asI_mk']
  refine shakeBegin_ok s1 rfl (by decide) (by decide) fun F3 H3 s3 g3 => ?_
  have s3 : (Shk b ⟨1, [false, true], [false, false]⟩).holds F3 H3 := s3
  simp only [asI_mk']
  refine shakeBegin_busy s3 (by decide) ?_
  simp only [asI_mk']
  refine shakeIsArmed_ok s3 ?_
  simp only [asB_mk]
  refine shakeAnswer_ok s3 rfl (by decide) fun F4 H4 s4 g4 => ?_
  have s4 : (Shk b ⟨2, [true, true], [false, false]⟩).holds F4 H4 := s4
  simp only [asI_mk']
  refine shakeAnswer_ok s4 rfl (by decide) fun F5 H5 s5 g5 => ?_
  have s5 : (Shk b ⟨2, [true, true], [true, false]⟩).holds F5 H5 := s5
  simp only [asI_mk']
  refine shakeAnswer_ok s5 rfl (by decide) fun F6 H6 s6 g6 => ?_
  have s6 : (Shk b ⟨3, [true, true], [true, true]⟩).holds F6 H6 := s6
  simp only [asI_mk']
  refine shakeEnd_ok s6 rfl fun F7 H7 s7 g7 => ?_
  have s7 : (Shk b ⟨0, [false, false], [false, false]⟩).holds F7 H7 := s7
  simp only [asI_mk']
  refine shakeEnd_busy s7 (by decide) ?_
  simp only [asI_mk']
  refine bif_eq rfl (bif_eq rfl ?_)
  rw [show isOf [false, true] 1 = true by decide, cond_true]
  refine bif_eq rfl (bif_eq rfl ?_)
  refine shakeIsArmed_ok s7 ?_
  simp only [asB_mk]
  rw [show isOf [false, false] 0 = false by decide, Bool.not_false, cond_true]
  refine shakeIsArmed_ok s7 ?_
  simp only [asB_mk]
  rw [show isOf [false, false] 1 = false by decide, Bool.not_false, cond_true]
  exact hK H7 (((((g1.trans g3).trans g4).trans g5).trans g6).trans g7).keep

theorem Sk.ans_len {s : Sk} {m : Int} : (s.ans m).1.ar.length = s.ar.length ∧ (s.ans m).1.sc.length = s.sc.length := by
  unfold Sk.ans
  split
  · exact ⟨rfl, rfl⟩
  · split
    · split <;> simp
    · split
      · split <;> simp
      · exact ⟨rfl, rfl⟩
theorem Sk.ans_ph {s : Sk} {m : Int} (h : s.ph ≠ 0) : (s.ans m).1.ph ≠ 0 := by
  unfold Sk.ans
  split
  · exact h
  · split
    · split
      · exact h
      · simp only; split <;> decide
    · split
      · split
        · exact h
        · simp only; split <;> decide
      · exact h
theorem Sk.ans_idle {s : Sk} {m : Int} (h : s.ph = 0) : s.ans m = (s, 0) := by
  unfold Sk.ans
  split
  · rfl
  · rw [if_neg (by omega), if_neg (by omega)]

/-- What holds of a shake at all times: its lengths; idle, nobody is armed. -/
structure Sk.fine (n : Int) (s : Sk) : Prop where
  ar : (s.ar.length : Int) = n + 1
  sc : (s.sc.length : Int) = n + 1
  idle : s.ph = 0 → s.ar = List.replicate (n.toNat + 1) false ∧ s.sc = List.replicate (n.toNat + 1) false

theorem Sk.fine_ans {n m : Int} {s : Sk} (h : s.fine n) : (s.ans m).1.fine n := by
  refine ⟨by rw [Sk.ans_len.1]; exact h.ar, by rw [Sk.ans_len.2]; exact h.sc, fun h0 => ?_⟩
  by_cases hp : s.ph = 0
  · rw [Sk.ans_idle hp]
    exact h.idle hp
  · exact absurd h0 (Sk.ans_ph hp)

end Go.Proofs.Ytdeihhfhcnhmfaa
