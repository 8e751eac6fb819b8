/- PRINTED by ety.py: what reads as a plain struct is one. No condition. -/
import Derived.Test.YtdeihhfhcnhmfabRow
import Derived.Test.YtdeihhfhcnhmfabEty
namespace Go.Proofs.Ytdeihhfhcnhmfab
set_option linter.unusedSimpArgs false
set_option linter.unusedVariables false
open Go
theorem WT_law7_Step {H : Hp} {xs : List Value} (h : ∃ fuel, WT PR H fuel 32 xs) : ∃ y : E_law7_Step, y.ok ∧ xs = y.cells := by
  obtain ⟨fuel, h⟩ := h
  have hl := WT_size (n := 3) (by kernel_rfl) h
  obtain ⟨f0_0, g0_0⟩ := WT_field (k := 0) (ft := 3) (off := 0) (n := 1) (by kernel_rfl) h
  obtain ⟨n0, b0, e0⟩ := WT_int Try.underlying3 ⟨f0_0, g0_0⟩
  obtain ⟨f1_0, g1_0⟩ := WT_field (k := 1) (ft := 3) (off := 1) (n := 1) (by kernel_rfl) h
  obtain ⟨n1, b1, e1⟩ := WT_int Try.underlying3 ⟨f1_0, g1_0⟩
  obtain ⟨f2_0, g2_0⟩ := WT_field (k := 2) (ft := 4) (off := 2) (n := 1) (by kernel_rfl) h
  obtain ⟨n2, b2, e2⟩ := WT_bool Try.underlying4 ⟨f2_0, g2_0⟩
  clear h g0_0 g1_0 g2_0
  rcases xs with _ | ⟨a0, _ | ⟨a1, _ | ⟨a2, _ | ⟨_, _⟩⟩⟩⟩ <;> simp at hl
  simp at e0
  simp at e1
  simp at e2
  subst e0 e1 e2
  exact ⟨⟨n0, n1, n2⟩, ⟨b0, b1⟩, rfl⟩

end Go.Proofs.Ytdeihhfhcnhmfab
