/- Chapter 7's statements, run: ArenaApart. No condition. -/
import Derived.Test.YtdeihhfhcnhmfaaLaw7a
namespace Go.Proofs.Ytdeihhfhcnhmfaa
set_option linter.unusedSimpArgs false
set_option linter.unusedVariables false
set_option linter.unnecessarySimpa false
open Go

/-- What the law keeps: the places, how many cells of each are in use, who owns a cell. -/
structure Kept (n : Nat) (bl : List Blk) (ow at_ of_ : List Int) : Prop where
  ok : allOk bl
  len : bl.length = n
  li : Listed bl at_
  olen : ow.length = 16 * n
  same : of_.length = at_.length
  size : ∀ j, j < at_.length → ∀ b k, AtPlace bl (at_.getD j 0) b k → 1 ≤ of_.getD j 0 ∧ of_.getD j 0 ≤ (bl.getD b noBlk).c
  own : ∀ cell : Nat, ow.getD cell 0 ≠ 0 → ∃ j, j < at_.length ∧ at_.getD j 0 ≤ cell ∧ (cell : Int) < at_.getD j 0 + of_.getD j 0

theorem getD_setI {l : List Int} {m k : Nat} {v : Int} (hm : m < l.length) : (l.set m v).getD k 0 = if k = m then v else l.getD k 0 := by
  rw [List.getD_eq_getElem?_getD, List.getElem?_set, List.getD_eq_getElem?_getD]
  by_cases h : m = k
  · subst h; simp [hm]
  · simp [h, Ne.symm h]

theorem getD_append_last {l : List Int} {x : Int} : (l ++ [x]).getD l.length 0 = x := by simp [List.getD_eq_getElem?_getD]
theorem getD_append_old {l : List Int} {x : Int} {j : Nat} (h : j < l.length) : (l ++ [x]).getD j 0 = l.getD j 0 := by simp [List.getD_eq_getElem?_getD, List.getElem?_append_left h]
theorem getD_eraseIdx {l : List Int} {k j : Nat} : (l.eraseIdx k).getD j 0 = if j < k then l.getD j 0 else l.getD (j + 1) 0 := by
  rw [List.getD_eq_getElem?_getD, List.getElem?_eraseIdx]
  split <;> rw [List.getD_eq_getElem?_getD]

/-- A place just taken lies apart from those that were. -/
theorem Kept.fresh {n : Nat} {bl : List Blk} {ow at_ of_ : List Int} {c i k : Nat} {s : Int} (h : Kept n bl ow at_ of_) (hc : isCls c) (hf : ArFits bl c i k) (hs : s ≤ c) :
    ∀ cell : Nat, ((16 * i + k * c : Nat) : Int) ≤ cell → (cell : Int) < ((16 * i + k * c : Nat) : Int) + s → ow.getD cell 0 = 0 := fun cell h1 h2 => Classical.byContradiction fun hne => by
  obtain ⟨j, hj, h3, h4⟩ := h.own cell hne
  obtain ⟨b', k', hp⟩ := (h.li.mem (at_.getD j 0)).1 (by rw [int_getD hj]; exact List.getElem_mem hj)
  obtain ⟨s1, s2⟩ := h.size j hj b' k' hp
  obtain ⟨hc', _, _⟩ := (h.ok b' hp.lt).cls hp.c0
  have hs' := hc'.small
  have hs0 := hc.small
  have hat := hp.at_
  obtain ⟨hi, hff⟩ := id hf
  have hk16 : k < 16 / c := by
    rcases hff with ⟨_, h, _⟩ | ⟨_, rfl, _⟩
    · exact h
    · omega
  have p := place_split (b := i) hc hk16
  have p' := place_split (b := b') hc' hp.k1
  have up1 : k * c + c ≤ 16 := by
    have : (k + 1) * c ≤ 16 / c * c := Nat.mul_le_mul_right c (by omega)
    rw [Nat.succ_mul] at this
    omega
  have up2 : k' * (bl.getD b' noBlk).c + (bl.getD b' noBlk).c ≤ 16 := by
    have := hp.k1
    have : (k' + 1) * (bl.getD b' noBlk).c ≤ 16 / (bl.getD b' noBlk).c * (bl.getD b' noBlk).c := Nat.mul_le_mul_right _ (by omega)
    rw [Nat.succ_mul] at this
    omega
  have hbi : b' = i := by omega
  subst hbi
  rcases hff with ⟨e, _, hfirst, _⟩ | ⟨e, _⟩
  · rw [e] at hat s2
    rcases Nat.lt_trichotomy k k' with hlt | rfl | hlt
    · have : (k + 1) * c ≤ k' * c := Nat.mul_le_mul_right c (by omega)
      rw [Nat.succ_mul] at this
      omega
    · have hb := hp.bit
      rw [hfirst.1] at hb
      cases hb
    · have : (k' + 1) * c ≤ k * c := Nat.mul_le_mul_right c (by omega)
      rw [Nat.succ_mul] at this
      omega
  · exact hp.c0 e

theorem Kept.took {n : Nat} {bl : List Blk} {ow ow' at_ of_ : List Int} {c i k : Nat} {s : Int} (h : Kept n bl ow at_ of_) (hc : isCls c) (hf : ArFits bl c i k) (hs1 : 1 ≤ s) (hs : s ≤ c) (hl : ow'.length = 16 * n)
    (how : ∀ cell : Nat, ow'.getD cell 0 ≠ 0 → ow.getD cell 0 ≠ 0 ∨ (((16 * i + k * c : Nat) : Int) ≤ cell ∧ (cell : Int) < ((16 * i + k * c : Nat) : Int) + s)) :
    Kept n (tookAt bl c i k) ow' (at_ ++ [((16 * i + k * c : Nat) : Int)]) (of_ ++ [s]) := by
  have hli := h.li.took h.ok hc hf
  refine ⟨h.ok.took hc hf, by rw [took_length]; exact h.len, hli, hl, by simp [h.same], fun j hj b k' hp => ?_, fun cell hne => ?_⟩
  · have hg := getD_set_blk (l := bl) (i := i) (j := b) (b := ⟨c, (bl.getD i noBlk).t ||| 2 ^ k⟩) hf.1
    by_cases hja : j < at_.length
    · rw [getD_append_old hja] at hp
      rw [getD_append_old (by rw [h.same]; exact hja)]
      rcases (atPlace_took h.ok hc hf).1 hp with hp' | ⟨rfl, rfl, e⟩
      · have h1 := h.size j hja b k' hp'
        unfold tookAt
        rw [hg]
        split
        · rename_i e
          subst e
          obtain ⟨_, hff⟩ := id hf
          rcases hff with ⟨e, _⟩ | ⟨e, _⟩
          · rw [e] at h1; exact h1
          · exact absurd e hp'.c0
        · exact h1
      · have hn := hli.nodup
        rw [List.nodup_append] at hn
        have := hn.2.2 (at_.getD j 0) (by rw [int_getD hja]; exact List.getElem_mem hja) (((16 * b + k' * c : Nat) : Int)) (by simp)
        exact absurd e this
    · have hj' : j = at_.length := by simp at hj; omega
      subst hj'
      rw [getD_append_last] at hp
      have e1 : (of_ ++ [s]).getD at_.length 0 = s := by rw [← h.same]; exact getD_append_last
      rw [e1]
      have hp2 : AtPlace (tookAt bl c i k) ((16 * i + k * c : Nat) : Int) i k := (atPlace_took h.ok hc hf).2 (.inr ⟨rfl, rfl, rfl⟩)
      obtain ⟨rfl, rfl⟩ := hp.unique (h.ok.took hc hf) hp2
      unfold tookAt
      rw [hg, if_pos rfl]
      exact ⟨hs1, hs⟩
  · rcases how cell hne with h1 | h1
    · obtain ⟨j, hj, h2, h3⟩ := h.own cell h1
      exact ⟨j, by simp; omega, by rw [getD_append_old hj]; exact h2, by rw [getD_append_old hj, getD_append_old (by rw [h.same]; exact hj)]; exact h3⟩
    · refine ⟨at_.length, by simp, by rw [getD_append_last]; exact h1.1, ?_⟩
      have e1 : (of_ ++ [s]).getD at_.length 0 = s := by rw [← h.same]; exact getD_append_last
      rw [getD_append_last, e1]
      exact h1.2

theorem Kept.free {n : Nat} {bl : List Blk} {ow ow' at_ of_ : List Int} {z b k : Nat} (h : Kept n bl ow at_ of_) (hz : z < at_.length) (hp : AtPlace bl at_[z] b k) (hl : ow'.length = 16 * n)
    (how : ∀ cell : Nat, ow'.getD cell 0 ≠ 0 → ow.getD cell 0 ≠ 0 ∧ ¬ (at_.getD z 0 ≤ cell ∧ (cell : Int) < at_.getD z 0 + of_.getD z 0)) :
    Kept n (bl.set b (freed (bl.getD b noBlk) k)) ow' (at_.eraseIdx z) (of_.eraseIdx z) := by
  have hlen : (at_.eraseIdx z).length = at_.length - 1 := List.length_eraseIdx_of_lt hz
  have hlen2 : (of_.eraseIdx z).length = of_.length - 1 := List.length_eraseIdx_of_lt (by rw [h.same]; exact hz)
  refine ⟨h.ok.free hp, by simpa using h.len, h.li.free h.ok hz hp, hl, by rw [hlen, hlen2, h.same], fun j hj b' k' hp' => ?_, fun cell hne => ?_⟩
  · have hold : ∀ j', j' < at_.length → AtPlace (bl.set b (freed (bl.getD b noBlk) k)) (at_.getD j' 0) b' k' → 1 ≤ of_.getD j' 0 ∧ of_.getD j' 0 ≤ ((bl.set b (freed (bl.getD b noBlk) k)).getD b' noBlk).c := fun j' hj' hp' => by
      obtain ⟨hp2, hne⟩ := (atPlace_free h.ok hp).1 hp'
      have h1 := h.size j' hj' b' k' hp2
      have hg := getD_set_blk (l := bl) (i := b) (j := b') (b := freed (bl.getD b noBlk) k) hp.lt
      rw [hg]
      split
      · rename_i e
        subst e
        have hc0 := hp'.c0
        rw [hg, if_pos rfl] at hc0
        unfold freed at hc0 ⊢
        split
        · rename_i hzz
          rw [if_pos hzz] at hc0
          exact absurd rfl hc0
        · exact h1
      · exact h1
    rw [getD_eraseIdx] at hp' ⊢
    rw [hlen] at hj
    split
    · rename_i hjz
      rw [if_pos hjz] at hp'
      exact hold j (by omega) hp'
    · rename_i hjz
      rw [if_neg hjz] at hp'
      exact hold (j + 1) (by omega) hp'
  · obtain ⟨h1, h2⟩ := how cell hne
    obtain ⟨j, hj, h3, h4⟩ := h.own cell h1
    have hjz : j ≠ z := fun e => h2 (by subst e; exact ⟨h3, h4⟩)
    by_cases hlt : j < z
    · exact ⟨j, by omega, by rw [getD_eraseIdx, if_pos hlt]; exact h3, by rw [getD_eraseIdx, if_pos hlt, getD_eraseIdx, if_pos hlt]; exact h4⟩
    · refine ⟨j - 1, by omega, ?_, ?_⟩
      · rw [getD_eraseIdx, if_neg (by omega), show j - 1 + 1 = j by omega]; exact h3
      · rw [getD_eraseIdx, if_neg (by omega), getD_eraseIdx, if_neg (by omega), show j - 1 + 1 = j by omega]; exact h4

end Go.Proofs.Ytdeihhfhcnhmfaa
