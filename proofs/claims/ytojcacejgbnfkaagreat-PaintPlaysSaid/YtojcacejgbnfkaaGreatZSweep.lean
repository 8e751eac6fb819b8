/- Merged by merge.py: DenSweep, SwS, GphS. No condition. -/
import Derived.Test.YtojcacejgbnfkaaGreatZNum
import Derived.Test.YtojcacejgbnfkaaGreatZPaint
import Derived.Test.YtojcacejgbnfkaaGreatZGraph

namespace Go.Proofs.YtojcacejgbnfkaaGreat
open Go
set_option linter.unusedVariables false
set_option maxRecDepth 100000
end Go.Proofs.YtojcacejgbnfkaaGreat

namespace Go.Proofs.YtojcacejgbnfkaaGreat
set_option linter.unusedSimpArgs false
set_option linter.unusedVariables false
open Go
theorem hFree_last {s : Hs} {k : Int} : (hFree s k).2.last = s.last := by unfold hFree; split <;> rfl
theorem hMake_split (s : Hs) (r v : Int) : ((hMake s r v).2.1 ≠ 0 ∧ (hMake s r v).2.2 = s) ∨ ((hMake s r v).2.1 = 0 ∧ (hMake s r v).1 = s.last + 1 ∧ (hMake s r v).2.2.last = s.last + 1 ∧ (hMake s r v).2.2.node = s.node ∧ (hMake s r v).2.2.most = s.most ∧
    ∃ c, (hMake s r v).2.2.obs = s.obs ++ [⟨s.last + 1, c, List.replicate r.toNat noId, List.replicate v.toNat 0, 0⟩]) := by
  unfold hMake
  split
  · exact .inl ⟨by simp, rfl⟩
  · split
    · exact .inl ⟨by simp, rfl⟩
    · split
      · exact .inl ⟨by simp, rfl⟩
      · split
        · rename_i h
          exact .inl ⟨h, rfl⟩
        · exact .inr ⟨rfl, rfl, rfl, rfl, rfl, _, rfl⟩
theorem get_ser {s : Hs} (ho : s.ok) {m : Int} (h : hGet s m ≠ none) : 1 ≤ m ∧ m ≤ s.last := by
  cases hg : hGet s m with
  | none => exact absurd hg h
  | some o =>
    obtain ⟨h1, h2⟩ := hGet_mem hg
    have := ho.ser o h1
    omega
theorem hNext_range {s : Hs} (ho : s.ok) {q : Int} : (hNext s q).2 = true → q < (hNext s q).1 ∧ hGet s (hNext s q).1 ≠ none := by
  unfold hNext
  cases hf : s.obs.find? (fun o => decide (q < o.ser)) with
  | none => intro h; cases h
  | some o =>
    intro _
    refine ⟨by simpa using List.find?_some hf, fun hn => ?_⟩
    exact hGet_none.1 hn o (List.mem_of_find?_eq_some hf) rfl

section
variable {H0 H : Hp} {L M : List Prt} {i j k hb pb sb rb qb : Nat} {s : Hs} {p : Ps} {pl e : Int} {T : TypeId} {K : Value → Hp → Prop}
end
end Go.Proofs.YtojcacejgbnfkaaGreat

namespace Go.Proofs.YtojcacejgbnfkaaGreat
set_option linter.unusedSimpArgs false
set_option linter.unusedVariables false
open Go
theorem GrHs.get {g : Gr} {n : Nat} {s : Hs} (h : GrHs g n s) {m : Int} (hm : 1 ≤ m ∧ m ≤ n) : ∃ c, hGet s m = some ⟨m, c, grRefs g n (m.toNat - 1), [], grDist g (m.toNat - 1)⟩ := by
  obtain ⟨c, hc⟩ := h.obs (m.toNat - 1) (by omega)
  have e : ((m.toNat - 1 : Nat) : Int) + 1 = m := by omega
  rw [e] at hc
  exact ⟨c, hGet_at h.ok hc⟩
theorem GrHs.has {g : Gr} {n : Nat} {s : Hs} (h : GrHs g n s) {m : Int} : hGet s m ≠ none ↔ 1 ≤ m ∧ m ≤ n := by
  constructor
  · intro hg
    have := get_ser h.ok hg
    rw [h.last] at this
    exact this
  · intro hm
    obtain ⟨c, hc⟩ := h.get hm
    rw [hc]
    simp

end Go.Proofs.YtojcacejgbnfkaaGreat
