/- More on heaps as what they hold: making one goes well as long as a block is free. No condition. -/
import Derived.Test.YtohlnmenghbgbaaHpS
namespace Go.Proofs.Ytohlnmenghbgbaa
set_option linter.unusedSimpArgs false
set_option linter.unusedVariables false
open Go

/-- How many blocks are free. -/
def frees (l : List Blk) : Nat := (l.filter fun b => decide (b.c = 0)).length
theorem frees_pos {l : List Blk} : 0 < frees l ↔ ∃ j, j < l.length ∧ (l.getD j noBlk).c = 0 := by
  unfold frees
  rw [List.length_pos_iff_exists_mem]
  constructor
  · rintro ⟨b, hb⟩
    obtain ⟨h1, h2⟩ := List.mem_filter.1 hb
    obtain ⟨j, hj, rfl⟩ := List.mem_iff_getElem.1 h1
    exact ⟨j, hj, by rw [List.getD_eq_getElem?_getD, List.getElem?_eq_getElem hj]; simpa using h2⟩
  · rintro ⟨j, hj, h⟩
    rw [List.getD_eq_getElem?_getD, List.getElem?_eq_getElem hj] at h
    exact ⟨l[j], List.mem_filter.2 ⟨List.getElem_mem hj, by simpa using h⟩⟩
theorem frees_set {l : List Blk} {i : Nat} {b : Blk} : frees l ≤ frees (l.set i b) + 1 := by
  unfold frees
  induction l generalizing i with
  | nil => simp
  | cons a l ih =>
    cases i with
    | zero =>
      rw [List.set_cons_zero, List.filter_cons, List.filter_cons]
      split <;> split <;> simp <;> omega
    | succ i =>
      rw [List.set_cons_succ, List.filter_cons, List.filter_cons]
      have := ih (i := i)
      split
      · simp only [List.length_cons]; omega
      · exact this
theorem frees_new {n : Nat} : frees (List.replicate n noBlk) = n := by simp [frees, noBlk]

theorem arAlloc_fit {l : List Blk} {n : Int} {i k : Nat} (hc : clsOf n ≠ 0) (hf : ArFits l (clsOf n) i k) : arAlloc l n = (((16 * i + k * clsOf n : Nat) : Int), 0, tookAt l (clsOf n) i k) := by
  unfold arAlloc
  rw [if_neg hc, arFind_fits hf]

/-- The first that is free. -/
theorem first_free {l : List Blk} (h : 0 < frees l) : ∃ i, i < l.length ∧ (l.getD i noBlk).c = 0 ∧ ∀ j, j < i → (l.getD j noBlk).c ≠ 0 := by
  obtain ⟨j, hj, hc⟩ := frees_pos.1 h
  induction j using Nat.strongRecOn with
  | _ j ih =>
    by_cases hall : ∀ y, y < j → (l.getD y noBlk).c ≠ 0
    · exact ⟨j, hj, hc, hall⟩
    · obtain ⟨y, hy⟩ := Classical.not_forall.1 hall
      obtain ⟨hy, hc'⟩ := Classical.not_imp.1 hy
      exact ih y hy (by omega) (Classical.not_not.1 hc')
theorem arFits_ex {l : List Blk} {c : Nat} (ho : allOk l) (hcls : isCls c) (h : 0 < frees l) : ∃ i k, ArFits l c i k := by
  obtain ⟨f, hf, hf0, hfn⟩ := first_free h
  by_cases hex : ∃ j, j < l.length ∧ (l.getD j noBlk).c = c ∧ (l.getD j noBlk).t ≠ fullOf c
  · obtain ⟨j, hj, hc, ht⟩ := hex
    induction j using Nat.strongRecOn with
    | _ j ih =>
      by_cases hall : ∀ y, y < j → (l.getD y noBlk).c = c → (l.getD y noBlk).t = fullOf c
      · have hs := hcls.small
        obtain ⟨_, h2, _⟩ := (ho j hj).cls (by omega)
        rw [hc] at h2
        obtain ⟨k, hk, hfirst⟩ := First.of h2 ht
        exact ⟨j, k, hj, .inl ⟨hc, hk, hfirst, hall⟩⟩
      · obtain ⟨y, hy⟩ := Classical.not_forall.1 hall
        obtain ⟨hy, hc'⟩ := Classical.not_imp.1 hy
        obtain ⟨hc', ht'⟩ := Classical.not_imp.1 hc'
        exact ih y hy (by omega) hc' ht'
  · exact ⟨f, 0, hf, .inr ⟨hf0, rfl, hfn, fun j hj hc => Classical.byContradiction fun ht => hex ⟨j, hj, hc, ht⟩⟩⟩
theorem arAlloc_good {l : List Blk} {n : Int} (ho : ArOk l) (hn : 1 ≤ n ∧ n ≤ 16) (h : 0 < frees l) : (arAlloc l n).2.1 = 0 := by
  have hc : clsOf n ≠ 0 := fun e => by have := clsOf_zero.1 e; omega
  obtain ⟨i, k, hf⟩ := arFits_ex ho.ok (clsOf_cls hc) h
  rw [arAlloc_fit hc hf]
theorem frees_alloc {l : List Blk} {n : Int} : frees l ≤ frees (arAlloc l n).2.2 + 1 := by
  unfold arAlloc
  split
  · simp
  · cases arFind l (clsOf n) with
    | none => simp
    | some p => exact frees_set

/-- What Make comes to. -/
theorem hMake_cases (s : Hs) (r v : Int) : ((hMake s r v).2.1 = 0 ∧ (hMake s r v).1 = s.last + 1 ∧ (hMake s r v).2.2.last = s.last + 1) ∨ ((hMake s r v).2.1 ≠ 0 ∧ (hMake s r v).1 = 0 ∧ (hMake s r v).2.2 = s) := by
  unfold hMake
  split
  · exact .inr ⟨by simp, rfl, rfl⟩
  · split
    · exact .inr ⟨by simp, rfl, rfl⟩
    · split
      · exact .inr ⟨by simp, rfl, rfl⟩
      · split
        · rename_i h; exact .inr ⟨h, rfl, rfl⟩
        · exact .inl ⟨rfl, rfl, rfl⟩
theorem hMake_top {s : Hs} {r v : Int} (hr : 0 ≤ r ∧ r ≤ 7) (hv : 0 ≤ v ∧ v ≤ 7) (hl : (s.obs.length : Int) < s.most) (hs : s.last = 72057594037927935) : hMake s r v = (0, 7, s) := by
  unfold hMake
  rw [if_neg (by omega), if_neg (by omega), if_pos hs]
/-- As long as there is room it goes well. -/
theorem hMake_good {s : Hs} {r v : Int} (ho : s.ok) (hr : 0 ≤ r ∧ r ≤ 7) (hv : 0 ≤ v ∧ v ≤ 7) (hl : (s.obs.length : Int) < s.most) (hs : s.last < 72057594037927935) (hf : 0 < frees s.ar) :
    hMake s r v = (s.last + 1, 0, { s with last := s.last + 1, ar := (arAlloc s.ar (1 + r + v)).2.2, obs := s.obs ++ [⟨s.last + 1, (arAlloc s.ar (1 + r + v)).1, List.replicate r.toNat noId, List.replicate v.toNat 0, 0⟩] }) := by
  unfold hMake
  rw [if_neg (by omega), if_neg (by omega), if_neg (by omega), if_neg]
  rw [arAlloc_good ho.ar (by omega) hf]
  simp

/-- Likewise, told shortly. -/
theorem hMake_good' {s : Hs} {r v : Int} (ho : s.ok) (hr : 0 ≤ r ∧ r ≤ 7) (hv : 0 ≤ v ∧ v ≤ 7) (hl : (s.obs.length : Int) < s.most) (hs : s.last < 72057594037927935) (hf : 0 < frees s.ar) :
    ∃ (s' : Hs) (c : Int), hMake s r v = (s.last + 1, 0, s') ∧ s'.last = s.last + 1 ∧ s'.most = s.most ∧ s'.node = s.node ∧ s'.obs = s.obs ++ [⟨s.last + 1, c, List.replicate r.toNat noId, List.replicate v.toNat 0, 0⟩] ∧ frees s.ar ≤ frees s'.ar + 1 ∧ s'.ok := by
  have h1 := hMake_good ho hr hv hl hs hf
  have h2 := ho.make r v
  rw [h1] at h2
  exact ⟨_, _, h1, rfl, rfl, rfl, rfl, frees_alloc, h2⟩

end Go.Proofs.Ytohlnmenghbgbaa
