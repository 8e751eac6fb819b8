/- An arena stays well formed; the class of a size, as the document runs it. No condition. -/
import Derived.Test.YtohlnmenghbgbaaArena3
import Derived.Test.YtohlnmenghbgbaaDenRef7
namespace Go.Proofs.Ytohlnmenghbgbaa
set_option linter.unusedSimpArgs false
set_option linter.unusedVariables false
set_option linter.unnecessarySimpa false
open Go

theorem allOk.set {l : List Blk} (h : allOk l) {i : Nat} {b : Blk} (hi : i < l.length) (hb : b.ok) : allOk (l.set i b) := fun j hj => by
  rw [getD_set_blk hi]
  split
  · exact hb
  · exact h j (by simpa using hj)
theorem allOk.took {l : List Blk} (h : allOk l) {c i k : Nat} (hc : isCls c) (hf : ArFits l c i k) : allOk (tookAt l c i k) := by
  obtain ⟨hi, hf⟩ := hf
  have hs := hc.small
  have hbit : ((l.getD i noBlk).t ||| 2 ^ k).testBit k = true := by rw [testBit_or_pow]; simp
  have hne : (l.getD i noBlk).t ||| 2 ^ k ≠ 0 := fun e => by rw [e] at hbit; simp at hbit
  refine h.set hi ⟨fun e => ?_, fun _ => ⟨hc, ?_, hne⟩⟩
  · simp only at e; omega
  · rcases hf with ⟨e, hk, hf, hfull⟩ | ⟨e, rfl, hf, hfull⟩
    · have h2 := ((h i hi).cls (by omega)).2.1
      rw [e] at h2
      exact Nat.or_lt_two_pow h2 (Nat.pow_lt_pow_right (by omega) hk)
    · rw [(h i hi).free e]
      show 0 ||| 2 ^ 0 < 2 ^ (16 / c)
      have : 2 ^ 1 ≤ 2 ^ (16 / c) := Nat.pow_le_pow_right (by omega) hs.2.2.1
      simp
      omega
theorem allOk.free {l : List Blk} (h : allOk l) {cell : Int} {b k : Nat} (hp : AtPlace l cell b k) : allOk (l.set b (freed (l.getD b noBlk) k)) := by
  refine h.set hp.lt ?_
  unfold freed
  split
  · exact ⟨fun _ => rfl, fun h => absurd rfl h⟩
  · rename_i hz
    obtain ⟨hc, ht, _⟩ := (h b hp.lt).cls hp.c0
    exact ⟨fun e => absurd e hp.c0, fun _ => ⟨hc, Nat.lt_of_le_of_lt Nat.and_le_left ht, hz⟩⟩
theorem allOk.new {n : Nat} : allOk (List.replicate n noBlk) := fun j hj => by
  rw [List.getD_eq_getElem?_getD, List.getElem?_replicate]
  split
  · exact ⟨fun _ => rfl, fun h => absurd rfl h⟩
  · exact ⟨fun _ => rfl, fun h => absurd rfl h⟩
theorem took_length {l : List Blk} {c i k : Nat} : (tookAt l c i k).length = l.length := by simp [tookAt]

theorem rClass_ok {size : Int} {H : Hp} {K : Value → Hp → Prop} (hK : K (.int .i64 (clsOf size)) H) : hcall PR f_ref7_Class ⟨[.int .i64 size]⟩ H K := by
  apply den_ref7_Class
  unfold B_ref7_Class
  refine ⟨fun c H' => H' = H ∧ ((c = 1) ∨ (c = 2 ∧ ¬ (1 ≤ size ∧ size ≤ 1)) ∨ (c = 4 ∧ ¬ (1 ≤ size ∧ size ≤ 2)) ∨ (c = 8 ∧ ¬ (1 ≤ size ∧ size ≤ 4)) ∨ (c = 16 ∧ ¬ (1 ≤ size ∧ size ≤ 8)) ∨ (c = 32 ∧ ¬ (1 ≤ size ∧ size ≤ 16))), fun c _ => (32 - c).toNat, ⟨rfl, .inl rfl⟩, ?_⟩
  rintro c H' ⟨hH, hc⟩
  subst hH
  by_cases hle : c ≤ 16
  · refine bif_pos hle ?_
    intro R6 hR6
    have hnext : ¬ (1 ≤ size ∧ size ≤ c) → R6 H' := fun hn => by
      refine hR6 H' ?_
      rw [wrap_i64 (by omega) (by omega)]
      refine ⟨⟨rfl, by omega⟩, by dsimp only; omega⟩
    by_cases h1 : size ≥ 1
    · refine bif_pos h1 ?_
      by_cases h2 : size ≤ c
      · refine bif_pos h2 ?_
        have e : (clsOf size : Int) = c := by
          unfold clsOf
          rw [if_neg (by omega)]
          rcases hc with rfl | ⟨rfl, h⟩ | ⟨rfl, h⟩ | ⟨rfl, h⟩ | ⟨rfl, h⟩ | ⟨rfl, h⟩
          · rw [if_pos (by omega)]; rfl
          · rw [if_neg (by omega), if_pos (by omega)]; rfl
          · rw [if_neg (by omega), if_neg (by omega), if_pos (by omega)]; rfl
          · rw [if_neg (by omega), if_neg (by omega), if_neg (by omega), if_pos (by omega)]; rfl
          · rw [if_neg (by omega), if_neg (by omega), if_neg (by omega), if_neg (by omega)]; rfl
          · omega
        rw [e] at hK
        exact hK
      · exact bif_neg h2 (hnext (by omega))
    · exact bif_neg h1 (hnext (by omega))
  · refine bif_neg hle ?_
    rw [show clsOf size = 0 by unfold clsOf; rw [if_pos (by omega)]] at hK
    exact hK

theorem clsOf_zero {size : Int} : clsOf size = 0 ↔ size < 1 ∨ 16 < size := by
  unfold clsOf
  constructor
  · intro h
    refine Classical.byContradiction fun hn => ?_
    rw [if_neg hn] at h
    split at h
    · cases h
    · split at h
      · cases h
      · split at h
        · cases h
        · split at h <;> cases h
  · intro h; rw [if_pos h]
theorem clsOf_bounds {size : Int} (h : ¬ (size < 1 ∨ 16 < size)) : size ≤ (clsOf size : Int) ∧ (clsOf size : Int) < 2 * size := by
  unfold clsOf
  rw [if_neg h]
  split
  · omega
  · split
    · omega
    · split
      · omega
      · split <;> omega

end Go.Proofs.Ytohlnmenghbgbaa
