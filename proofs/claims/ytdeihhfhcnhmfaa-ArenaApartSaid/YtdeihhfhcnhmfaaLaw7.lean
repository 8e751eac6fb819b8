/- Chapter 7's statements, run: ArenaClasses, ArenaKnown. No condition. -/
import Derived.Test.YtdeihhfhcnhmfaaArena3
import Derived.Test.YtdeihhfhcnhmfaaHand
namespace Go.Proofs.Ytdeihhfhcnhmfaa
set_option linter.unusedSimpArgs false
set_option linter.unusedVariables false
set_option linter.unnecessarySimpa false
open Go

theorem allOk.set {l : List Blk} (h : allOk l) {i : Nat} {b : Blk} (hi : i < l.length) (hb : b.ok) : allOk (l.set i b) := fun j hj => by
  rw [getD_set_blk hi]
  split
  · exact hb
  · exact h j (by simpa using hj)
theorem allOk.took {l : List Blk} (h : allOk l) {c i k : Nat} (hc : isCls c) (hf : ArFits l c i k) : allOk (tookAt l c i k) := by
  obtain ⟨hi, hf⟩ := hf
  have hs := hc.small
  have hbit : ((l.getD i noBlk).t ||| 2 ^ k).testBit k = true := by rw [testBit_or_pow]; simp
  have hne : (l.getD i noBlk).t ||| 2 ^ k ≠ 0 := fun e => by rw [e] at hbit; simp at hbit
  refine h.set hi ⟨fun e => ?_, fun _ => ⟨hc, ?_, hne⟩⟩
  · simp only at e; omega
  · rcases hf with ⟨e, hk, hf, hfull⟩ | ⟨e, rfl, hf, hfull⟩
    · have h2 := ((h i hi).cls (by omega)).2.1
      rw [e] at h2
      exact Nat.or_lt_two_pow h2 (Nat.pow_lt_pow_right (by omega) hk)
    · rw [(h i hi).free e]
      show 0 ||| 2 ^ 0 < 2 ^ (16 / c)
      have : 2 ^ 1 ≤ 2 ^ (16 / c) := Nat.pow_le_pow_right (by omega) hs.2.2.1
      simp
      omega
theorem allOk.free {l : List Blk} (h : allOk l) {cell : Int} {b k : Nat} (hp : AtPlace l cell b k) : allOk (l.set b (freed (l.getD b noBlk) k)) := by
  refine h.set hp.lt ?_
  unfold freed
  split
  · exact ⟨fun _ => rfl, fun h => absurd rfl h⟩
  · rename_i hz
    obtain ⟨hc, ht, _⟩ := (h b hp.lt).cls hp.c0
    exact ⟨fun e => absurd e hp.c0, fun _ => ⟨hc, Nat.lt_of_le_of_lt Nat.and_le_left ht, hz⟩⟩
theorem allOk.new {n : Nat} : allOk (List.replicate n noBlk) := fun j hj => by
  rw [List.getD_eq_getElem?_getD, List.getElem?_replicate]
  split
  · exact ⟨fun _ => rfl, fun h => absurd rfl h⟩
  · exact ⟨fun _ => rfl, fun h => absurd rfl h⟩
theorem took_length {l : List Blk} {c i k : Nat} : (tookAt l c i k).length = l.length := by simp [tookAt]

theorem known7_ok {H : Hp} {K : Value → Hp → Prop} (hK : ∀ H', Keep Nothing H H' → K (.bool true) H') : hcall PR f_law7_known ⟨[]⟩ H K := by
  apply den_law7_known
  unfold B_law7_known
  refine arenaNew_ok (n := 2) (by omega) (by omega) fun a F1 H1 s1 g1 => ?_
  have k1 : allOk [noBlk, noBlk] := allOk.new (n := 2)
  have s1 : (Arn a [noBlk, noBlk]).holds F1 H1 := s1
  simp only [tup2_mk, asP_mk, asI_mk', Option.isNone_some, cond_false]
  refine bif_neqf rfl ?_
  have f1 : ArFits [noBlk, noBlk] (clsOf 3) 0 0 := by unfold ArFits First; decide
  refine Alloc_at s1 k1 (by decide) (by decide) f1 fun F2 H2 s2 g2 => ?_
  have k2 := k1.took (clsOf_cls (by decide)) f1
  have e2 : tookAt [noBlk, noBlk] (clsOf 3) 0 0 = [⟨4, 1⟩, noBlk] := by rfl
  rw [e2] at s2 k2
  simp only [tup2_mk, asI_mk']
  have f2 : ArFits [⟨4, 1⟩, noBlk] (clsOf 4) 0 1 := by unfold ArFits First; decide
  refine Alloc_at s2 k2 (by decide) (by decide) f2 fun F3 H3 s3 g3 => ?_
  have k3 := k2.took (clsOf_cls (by decide)) f2
  have e3 : tookAt [⟨4, 1⟩, noBlk] (clsOf 4) 0 1 = [⟨4, 3⟩, noBlk] := by rfl
  rw [e3] at s3 k3
  simp only [tup2_mk, asI_mk']
  have f3 : ArFits [⟨4, 3⟩, noBlk] (clsOf 9) 1 0 := by unfold ArFits First; decide
  refine Alloc_at s3 k3 (by decide) (by decide) f3 fun F4 H4 s4 g4 => ?_
  have k4 := k3.took (clsOf_cls (by decide)) f3
  have e4 : tookAt [⟨4, 3⟩, noBlk] (clsOf 9) 1 0 = [⟨4, 3⟩, ⟨16, 1⟩] := by rfl
  rw [e4] at s4 k4
  simp only [tup2_mk, asI_mk']
  refine Alloc_oom s4 k4 (by decide) (by decide) (by unfold ArNoFit; decide) ?_
  simp only [tup2_mk, asI_mk']
  refine bif_eq (by decide) (bif_eq (by decide) (bif_eq (by decide) (bif_eq rfl (bif_eq rfl (bif_eq rfl ?_)))))
  exact hK H4 (((g1.trans g2).trans g3).trans g4).keep

theorem rClass_ok {size : Int} {H : Hp} {K : Value → Hp → Prop} (hK : K (.int .i64 (clsOf size)) H) : hcall PR f_ref7_Class ⟨[.int .i64 size]⟩ H K := by
  apply den_ref7_Class
  unfold B_ref7_Class
  refine ⟨fun c H' => H' = H ∧ ((c = 1) ∨ (c = 2 ∧ ¬ (1 ≤ size ∧ size ≤ 1)) ∨ (c = 4 ∧ ¬ (1 ≤ size ∧ size ≤ 2)) ∨ (c = 8 ∧ ¬ (1 ≤ size ∧ size ≤ 4)) ∨ (c = 16 ∧ ¬ (1 ≤ size ∧ size ≤ 8)) ∨ (c = 32 ∧ ¬ (1 ≤ size ∧ size ≤ 16))), fun c _ => (32 - c).toNat, ⟨rfl, .inl rfl⟩, ?_⟩
  rintro c H' ⟨hH, hc⟩
  subst hH
  by_cases hle : c ≤ 16
  · refine bif_pos hle ?_
    intro R6 hR6
    have hnext : ¬ (1 ≤ size ∧ size ≤ c) → R6 H' := fun hn => by
      refine hR6 H' ?_
      rw [wrap_i64 (by omega) (by omega)]
      refine ⟨⟨rfl, by omega⟩, by dsimp only; omega⟩
    by_cases h1 : size ≥ 1
    · refine bif_pos h1 ?_
      by_cases h2 : size ≤ c
      · refine bif_pos h2 ?_
        have e : (clsOf size : Int) = c := by
          unfold clsOf
          rw [if_neg (by omega)]
          rcases hc with rfl | ⟨rfl, h⟩ | ⟨rfl, h⟩ | ⟨rfl, h⟩ | ⟨rfl, h⟩ | ⟨rfl, h⟩
          · rw [if_pos (by omega)]; rfl
          · rw [if_neg (by omega), if_pos (by omega)]; rfl
          · rw [if_neg (by omega), if_neg (by omega), if_pos (by omega)]; rfl
          · rw [if_neg (by omega), if_neg (by omega), if_neg (by omega), if_pos (by omega)]; rfl
          · rw [if_neg (by omega), if_neg (by omega), if_neg (by omega), if_neg (by omega)]; rfl
          · omega
        rw [e] at hK
        exact hK
      · exact bif_neg h2 (hnext (by omega))
    · exact bif_neg h1 (hnext (by omega))
  · refine bif_neg hle ?_
    rw [show clsOf size = 0 by unfold clsOf; rw [if_pos (by omega)]] at hK
    exact hK

theorem clsOf_zero {size : Int} : clsOf size = 0 ↔ size < 1 ∨ 16 < size := by
  unfold clsOf
  constructor
  · intro h
    refine Classical.byContradiction fun hn => ?_
    rw [if_neg hn] at h
    split at h
    · cases h
    · split at h
      · cases h
      · split at h
        · cases h
        · split at h <;> cases h
  · intro h; rw [if_pos h]
theorem clsOf_bounds {size : Int} (h : ¬ (size < 1 ∨ 16 < size)) : size ≤ (clsOf size : Int) ∧ (clsOf size : Int) < 2 * size := by
  unfold clsOf
  rw [if_neg h]
  split
  · omega
  · split
    · omega
    · split
      · omega
      · split <;> omega

theorem ArenaClasses_ok {size : Int} {H : Hp} {K : Value → Hp → Prop} (hs : IntKind.min .i64 ≤ size ∧ size ≤ IntKind.max .i64) (hK : ∀ H', Keep Nothing H H' → K (.bool true) H') : hcall PR f_law7_ArenaClasses ⟨[.int .i64 size]⟩ H K := by
  apply den_law7_ArenaClasses
  unfold B_law7_ArenaClasses
  refine Class_ok ?_
  simp only [asI_mk']
  refine known7_ok fun H1 k1 => ?_
  simp only [asB_mk, cond_true]
  refine rClass_ok ?_
  simp only [asI_mk']
  refine bif_eq rfl ?_
  have hz := clsOf_zero (size := size)
  by_cases h1 : size < 1
  · refine bif_pos h1 ?_
    rw [hz.2 (.inl h1)]
    simpa using hK H1 k1
  refine bif_neg h1 ?_
  by_cases h2 : size > 16
  · rw [hz.2 (.inr h2), decide_eq_true h2]
    simpa using hK H1 k1
  have hne : clsOf size ≠ 0 := fun e => by have := hz.1 e; omega
  have hb := clsOf_bounds (size := size) (by omega)
  rw [decide_eq_false h2, show (((clsOf size : Nat) : Int) == 0) = false by simpa using hne]
  simp only [beq_self_eq_true, cond_true, cond_false]
  refine bif_pos hb.1 ?_
  rw [wrap_i64 (by omega) (by omega), decide_eq_true hb.2]
  exact hK H1 k1

theorem ArenaKnown_ok {H : Hp} {K : Value → Hp → Prop} (hK : ∀ H', Keep Nothing H H' → K (.bool true) H') : hcall PR f_law7_ArenaKnown ⟨[]⟩ H K := by
  apply den_law7_ArenaKnown
  unfold B_law7_ArenaKnown
  refine arenaNew_bad (.inl (by omega)) ?_
  simp only [tup2_mk, asP_mk, asI_mk']
  refine arenaNew_bad (.inr (.inl (by omega))) ?_
  simp only [tup2_mk, asP_mk, asI_mk']
  refine arenaNew_bad (.inr (.inr (by decide))) ?_
  simp only [tup2_mk, asP_mk, asI_mk']
  refine arenaNew_ok (n := 2) (by omega) (by omega) fun a F0 H0 s0 g0 => ?_
  simp only [tup2_mk, asP_mk, asI_mk', Option.isNone_some, cond_false]
  refine known7_ok fun H1 kk => ?_
  have s1 := (Arn _ _).still s0 ((Goes.of kk).less fun _ => id)
  have g1 := g0.trans ((Goes.of kk).part (F := F0) (F1 := F0) (fun _ h => h.elim) fun _ h => .inl h)
  have k1 : allOk [noBlk, noBlk] := allOk.new (n := 2)
  have s1 : (Arn a [noBlk, noBlk]).holds F0 H1 := s1
  simp only [asB_mk, Bool.not_true, cond_false]
  refine bif_neqf rfl (bif_neqf rfl (bif_neqf rfl (bif_neqf rfl ?_)))
  have f1 : ArFits [noBlk, noBlk] (clsOf 3) 0 0 := by unfold ArFits First; decide
  refine Alloc_at s1 k1 (by decide) (by decide) f1 fun F2 H2 s2 g2 => ?_
  have k2 := k1.took (clsOf_cls (by decide)) f1
  have e2 : tookAt [noBlk, noBlk] (clsOf 3) 0 0 = [⟨4, 1⟩, noBlk] := by rfl
  rw [e2] at s2 k2
  simp only [tup2_mk, asI_mk']
  have f2 : ArFits [⟨4, 1⟩, noBlk] (clsOf 4) 0 1 := by unfold ArFits First; decide
  refine Alloc_at s2 k2 (by decide) (by decide) f2 fun F3 H3 s3 g3 => ?_
  have k3 := k2.took (clsOf_cls (by decide)) f2
  have e3 : tookAt [⟨4, 1⟩, noBlk] (clsOf 4) 0 1 = [⟨4, 3⟩, noBlk] := by rfl
  rw [e3] at s3 k3
  simp only [tup2_mk, asI_mk']
  have f3 : ArFits [⟨4, 3⟩, noBlk] (clsOf 9) 1 0 := by unfold ArFits First; decide
  refine Alloc_at s3 k3 (by decide) (by decide) f3 fun F4 H4 s4 g4 => ?_
  have k4 := k3.took (clsOf_cls (by decide)) f3
  have e4 : tookAt [⟨4, 3⟩, noBlk] (clsOf 9) 1 0 = [⟨4, 3⟩, ⟨16, 1⟩] := by rfl
  rw [e4] at s4 k4
  have g4 := ((g1.trans g2).trans g3).trans g4
  simp only [tup2_mk, asI_mk']
  refine Blocks_ok s4 (by decide) fun p cap H5 o5 g5 => ?_
  have s5 := (Arn _ _).still s4 g5
  simp only [asSl_mk]
  refine Class_ok ?_
  simp only [asI_mk']
  refine bif_eq (by decide) (Class_ok ?_)
  simp only [asI_mk']
  refine bif_eq (by decide) (Class_ok ?_)
  simp only [asI_mk']
  refine bif_eq (by decide) (Room_ok s5 k4 (by decide) (by decide) ?_)
  simp only [asI_mk']
  refine bif_eq (by decide) (Room_ok s5 k4 (by decide) (by decide) ?_)
  simp only [asI_mk']
  refine bif_eq (by decide) (bif_eq (by decide) ?_)
  refine idx1 (d := noBlk) o5.rd (by omega) (by decide) fun b' o hpp hcc => ldI_of hcc (bif_eq (by decide) ?_)
  refine idx1 (d := noBlk) o5.rd (by omega) (by decide) fun b' o hpp hcc => ldI_of hcc (bif_eq (by decide) ?_)
  refine Used_ok s5 k4 (by decide) ?_
  simp only [asI_mk']
  have p1 : AtPlace [⟨4, 3⟩, ⟨16, 1⟩] 4 0 1 := ⟨by decide, by decide, by decide, by decide, by decide⟩
  refine bif_eq (by decide) (Free_at s5 k4 (by decide) p1 fun F6 H6 s6 g6 => ?_)
  have k6 := k4.free p1
  have e6 : ([⟨4, 3⟩, ⟨16, 1⟩] : List Blk).set 0 (freed (([⟨4, 3⟩, ⟨16, 1⟩] : List Blk).getD 0 noBlk) 1) = [⟨4, 1⟩, ⟨16, 1⟩] := by rfl
  rw [e6] at s6 k6
  have no : ∀ cell : Int, (cell = 5 ∨ cell = 4) → ∀ b k, ¬ AtPlace [⟨4, 1⟩, ⟨16, 1⟩] cell b k := fun cell hc b k hp => by
    have hlt := hp.lt
    have hk := hp.k1
    have hat := hp.at_
    have hbit := hp.bit
    rcases b with _ | _ | b
    · simp at hk hat hbit
      rcases k with _ | _ | _ | _ | k
      · simp at hat; omega
      · exact absurd hbit (by decide)
      · exact absurd hbit (by decide)
      · exact absurd hbit (by decide)
      · omega
    · simp at hk hat hbit
      omega
    · simp at hlt; omega
  simp only [asI_mk']
  refine bif_eq rfl (Free_none s6 k6 (by decide) (no 5 (.inl rfl)) ?_)
  simp only [asI_mk']
  have p2 : AtPlace [⟨4, 1⟩, ⟨16, 1⟩] 0 0 0 := ⟨by decide, by decide, by decide, by decide, by decide⟩
  refine bif_eq rfl (At_at s6 k6 (by decide) p2 ?_)
  simp only [asI_mk']
  refine bif_eq rfl (At_none s6 k6 (by decide) (no 4 (.inr rfl)) ?_)
  simp only [asI_mk']
  have g5' : Goes Nothing H F4 H5 := g4.trans (g5.part (fun _ h => h.elim) fun _ h => .inl h)
  exact hK H6 (g5'.trans g6).keep

end Go.Proofs.Ytdeihhfhcnhmfaa
