/- PRINTED by ety.py: what reads as a plain struct is one. No condition. -/
import Derived.Test.YtohlnmenghbgbaaRow
import Derived.Test.YtohlnmenghbgbaaEty
namespace Go.Proofs.Ytohlnmenghbgbaa
set_option linter.unusedSimpArgs false
set_option linter.unusedVariables false
open Go
theorem WT_api_ID {H : Hp} {xs : List Value} (h : ∃ fuel, WT PR H fuel 31 xs) : ∃ y : E_api_ID, y.ok ∧ xs = y.cells := by
  obtain ⟨fuel, h⟩ := h
  have hl := WT_size (n := 2) (by kernel_rfl) h
  obtain ⟨f0_0, g0_0⟩ := WT_field (k := 0) (ft := 3) (off := 0) (n := 1) (by kernel_rfl) h
  obtain ⟨n0, b0, e0⟩ := WT_int Try.underlying3 ⟨f0_0, g0_0⟩
  obtain ⟨f1_0, g1_0⟩ := WT_field (k := 1) (ft := 26) (off := 1) (n := 1) (by kernel_rfl) h
  obtain ⟨n1, b1, e1⟩ := WT_int Try.underlying26 ⟨f1_0, g1_0⟩
  clear h g0_0 g1_0
  rcases xs with _ | ⟨a0, _ | ⟨a1, _ | ⟨_, _⟩⟩⟩ <;> simp at hl
  simp at e0
  simp at e1
  subst e0 e1
  exact ⟨⟨n0, n1⟩, ⟨b0, b1⟩, rfl⟩

theorem WT_law8_Step {H : Hp} {xs : List Value} (h : ∃ fuel, WT PR H fuel 49 xs) : ∃ y : E_law8_Step, y.ok ∧ xs = y.cells := by
  obtain ⟨fuel, h⟩ := h
  have hl := WT_size (n := 8) (by kernel_rfl) h
  obtain ⟨f0_0, g0_0⟩ := WT_field (k := 0) (ft := 3) (off := 0) (n := 1) (by kernel_rfl) h
  obtain ⟨n0, b0, e0⟩ := WT_int Try.underlying3 ⟨f0_0, g0_0⟩
  obtain ⟨f1_0, g1_0⟩ := WT_field (k := 1) (ft := 3) (off := 1) (n := 1) (by kernel_rfl) h
  obtain ⟨n1, b1, e1⟩ := WT_int Try.underlying3 ⟨f1_0, g1_0⟩
  obtain ⟨f2_0, g2_0⟩ := WT_field (k := 2) (ft := 3) (off := 2) (n := 1) (by kernel_rfl) h
  obtain ⟨n2, b2, e2⟩ := WT_int Try.underlying3 ⟨f2_0, g2_0⟩
  obtain ⟨f3_0, g3_0⟩ := WT_field (k := 3) (ft := 26) (off := 3) (n := 1) (by kernel_rfl) h
  obtain ⟨n3, b3, e3⟩ := WT_int Try.underlying26 ⟨f3_0, g3_0⟩
  obtain ⟨f4_0, g4_0⟩ := WT_field (k := 4) (ft := 26) (off := 4) (n := 1) (by kernel_rfl) h
  obtain ⟨n4, b4, e4⟩ := WT_int Try.underlying26 ⟨f4_0, g4_0⟩
  obtain ⟨f5_0, g5_0⟩ := WT_field (k := 5) (ft := 31) (off := 5) (n := 2) (by kernel_rfl) h
  obtain ⟨f5_1, g5_1⟩ := WT_field (k := 0) (ft := 3) (off := 0) (n := 1) (by kernel_rfl) g5_0
  obtain ⟨n5, b5, e5⟩ := WT_int Try.underlying3 ⟨f5_1, g5_1⟩
  obtain ⟨f6_0, g6_0⟩ := WT_field (k := 5) (ft := 31) (off := 5) (n := 2) (by kernel_rfl) h
  obtain ⟨f6_1, g6_1⟩ := WT_field (k := 1) (ft := 26) (off := 1) (n := 1) (by kernel_rfl) g6_0
  obtain ⟨n6, b6, e6⟩ := WT_int Try.underlying26 ⟨f6_1, g6_1⟩
  obtain ⟨f7_0, g7_0⟩ := WT_field (k := 6) (ft := 4) (off := 7) (n := 1) (by kernel_rfl) h
  obtain ⟨n7, b7, e7⟩ := WT_bool Try.underlying4 ⟨f7_0, g7_0⟩
  clear h g0_0 g1_0 g2_0 g3_0 g4_0 g5_0 g5_1 g6_0 g6_1 g7_0
  rcases xs with _ | ⟨a0, _ | ⟨a1, _ | ⟨a2, _ | ⟨a3, _ | ⟨a4, _ | ⟨a5, _ | ⟨a6, _ | ⟨a7, _ | ⟨_, _⟩⟩⟩⟩⟩⟩⟩⟩⟩ <;> simp at hl
  simp at e0
  simp at e1
  simp at e2
  simp at e3
  simp at e4
  simp at e5
  simp at e6
  simp at e7
  subst e0 e1 e2 e3 e4 e5 e6 e7
  exact ⟨⟨n0, n1, n2, n3, n4, n5, n6, n7⟩, ⟨b0, b1, b2, b3, b4, b5, b6⟩, rfl⟩

theorem WT_law11_Step {H : Hp} {xs : List Value} (h : ∃ fuel, WT PR H fuel 82 xs) : ∃ y : E_law11_Step, y.ok ∧ xs = y.cells := by
  obtain ⟨fuel, h⟩ := h
  have hl := WT_size (n := 6) (by kernel_rfl) h
  obtain ⟨f0_0, g0_0⟩ := WT_field (k := 0) (ft := 3) (off := 0) (n := 1) (by kernel_rfl) h
  obtain ⟨n0, b0, e0⟩ := WT_int Try.underlying3 ⟨f0_0, g0_0⟩
  obtain ⟨f1_0, g1_0⟩ := WT_field (k := 1) (ft := 3) (off := 1) (n := 1) (by kernel_rfl) h
  obtain ⟨n1, b1, e1⟩ := WT_int Try.underlying3 ⟨f1_0, g1_0⟩
  obtain ⟨f2_0, g2_0⟩ := WT_field (k := 2) (ft := 26) (off := 2) (n := 1) (by kernel_rfl) h
  obtain ⟨n2, b2, e2⟩ := WT_int Try.underlying26 ⟨f2_0, g2_0⟩
  obtain ⟨f3_0, g3_0⟩ := WT_field (k := 3) (ft := 31) (off := 3) (n := 2) (by kernel_rfl) h
  obtain ⟨f3_1, g3_1⟩ := WT_field (k := 0) (ft := 3) (off := 0) (n := 1) (by kernel_rfl) g3_0
  obtain ⟨n3, b3, e3⟩ := WT_int Try.underlying3 ⟨f3_1, g3_1⟩
  obtain ⟨f4_0, g4_0⟩ := WT_field (k := 3) (ft := 31) (off := 3) (n := 2) (by kernel_rfl) h
  obtain ⟨f4_1, g4_1⟩ := WT_field (k := 1) (ft := 26) (off := 1) (n := 1) (by kernel_rfl) g4_0
  obtain ⟨n4, b4, e4⟩ := WT_int Try.underlying26 ⟨f4_1, g4_1⟩
  obtain ⟨f5_0, g5_0⟩ := WT_field (k := 4) (ft := 4) (off := 5) (n := 1) (by kernel_rfl) h
  obtain ⟨n5, b5, e5⟩ := WT_bool Try.underlying4 ⟨f5_0, g5_0⟩
  clear h g0_0 g1_0 g2_0 g3_0 g3_1 g4_0 g4_1 g5_0
  rcases xs with _ | ⟨a0, _ | ⟨a1, _ | ⟨a2, _ | ⟨a3, _ | ⟨a4, _ | ⟨a5, _ | ⟨_, _⟩⟩⟩⟩⟩⟩⟩ <;> simp at hl
  simp at e0
  simp at e1
  simp at e2
  simp at e3
  simp at e4
  simp at e5
  subst e0 e1 e2 e3 e4 e5
  exact ⟨⟨n0, n1, n2, n3, n4, n5⟩, ⟨b0, b1, b2, b3, b4⟩, rfl⟩

theorem WT_law15_Step {H : Hp} {xs : List Value} (h : ∃ fuel, WT PR H fuel 102 xs) : ∃ y : E_law15_Step, y.ok ∧ xs = y.cells := by
  obtain ⟨fuel, h⟩ := h
  have hl := WT_size (n := 2) (by kernel_rfl) h
  obtain ⟨f0_0, g0_0⟩ := WT_field (k := 0) (ft := 3) (off := 0) (n := 1) (by kernel_rfl) h
  obtain ⟨n0, b0, e0⟩ := WT_int Try.underlying3 ⟨f0_0, g0_0⟩
  obtain ⟨f1_0, g1_0⟩ := WT_field (k := 1) (ft := 26) (off := 1) (n := 1) (by kernel_rfl) h
  obtain ⟨n1, b1, e1⟩ := WT_int Try.underlying26 ⟨f1_0, g1_0⟩
  clear h g0_0 g1_0
  rcases xs with _ | ⟨a0, _ | ⟨a1, _ | ⟨_, _⟩⟩⟩ <;> simp at hl
  simp at e0
  simp at e1
  subst e0 e1
  exact ⟨⟨n0, n1⟩, ⟨b0, b1⟩, rfl⟩

theorem WT_law13_Step {H : Hp} {xs : List Value} (h : ∃ fuel, WT PR H fuel 123 xs) : ∃ y : E_law13_Step, y.ok ∧ xs = y.cells := by
  obtain ⟨fuel, h⟩ := h
  have hl := WT_size (n := 5) (by kernel_rfl) h
  obtain ⟨f0_0, g0_0⟩ := WT_field (k := 0) (ft := 3) (off := 0) (n := 1) (by kernel_rfl) h
  obtain ⟨n0, b0, e0⟩ := WT_int Try.underlying3 ⟨f0_0, g0_0⟩
  obtain ⟨f1_0, g1_0⟩ := WT_field (k := 1) (ft := 3) (off := 1) (n := 1) (by kernel_rfl) h
  obtain ⟨n1, b1, e1⟩ := WT_int Try.underlying3 ⟨f1_0, g1_0⟩
  obtain ⟨f2_0, g2_0⟩ := WT_field (k := 2) (ft := 26) (off := 2) (n := 1) (by kernel_rfl) h
  obtain ⟨n2, b2, e2⟩ := WT_int Try.underlying26 ⟨f2_0, g2_0⟩
  obtain ⟨f3_0, g3_0⟩ := WT_field (k := 3) (ft := 31) (off := 3) (n := 2) (by kernel_rfl) h
  obtain ⟨f3_1, g3_1⟩ := WT_field (k := 0) (ft := 3) (off := 0) (n := 1) (by kernel_rfl) g3_0
  obtain ⟨n3, b3, e3⟩ := WT_int Try.underlying3 ⟨f3_1, g3_1⟩
  obtain ⟨f4_0, g4_0⟩ := WT_field (k := 3) (ft := 31) (off := 3) (n := 2) (by kernel_rfl) h
  obtain ⟨f4_1, g4_1⟩ := WT_field (k := 1) (ft := 26) (off := 1) (n := 1) (by kernel_rfl) g4_0
  obtain ⟨n4, b4, e4⟩ := WT_int Try.underlying26 ⟨f4_1, g4_1⟩
  clear h g0_0 g1_0 g2_0 g3_0 g3_1 g4_0 g4_1
  rcases xs with _ | ⟨a0, _ | ⟨a1, _ | ⟨a2, _ | ⟨a3, _ | ⟨a4, _ | ⟨_, _⟩⟩⟩⟩⟩⟩ <;> simp at hl
  simp at e0
  simp at e1
  simp at e2
  simp at e3
  simp at e4
  subst e0 e1 e2 e3 e4
  exact ⟨⟨n0, n1, n2, n3, n4⟩, ⟨b0, b1, b2, b3, b4⟩, rfl⟩

theorem WT_law14_Way {H : Hp} {xs : List Value} (h : ∃ fuel, WT PR H fuel 203 xs) : ∃ y : E_law14_Way, y.ok ∧ xs = y.cells := by
  obtain ⟨fuel, h⟩ := h
  have hl := WT_size (n := 5) (by kernel_rfl) h
  obtain ⟨f0_0, g0_0⟩ := WT_field (k := 0) (ft := 26) (off := 0) (n := 1) (by kernel_rfl) h
  obtain ⟨n0, b0, e0⟩ := WT_int Try.underlying26 ⟨f0_0, g0_0⟩
  obtain ⟨f1_0, g1_0⟩ := WT_field (k := 1) (ft := 3) (off := 1) (n := 1) (by kernel_rfl) h
  obtain ⟨n1, b1, e1⟩ := WT_int Try.underlying3 ⟨f1_0, g1_0⟩
  obtain ⟨f2_0, g2_0⟩ := WT_field (k := 2) (ft := 31) (off := 2) (n := 2) (by kernel_rfl) h
  obtain ⟨f2_1, g2_1⟩ := WT_field (k := 0) (ft := 3) (off := 0) (n := 1) (by kernel_rfl) g2_0
  obtain ⟨n2, b2, e2⟩ := WT_int Try.underlying3 ⟨f2_1, g2_1⟩
  obtain ⟨f3_0, g3_0⟩ := WT_field (k := 2) (ft := 31) (off := 2) (n := 2) (by kernel_rfl) h
  obtain ⟨f3_1, g3_1⟩ := WT_field (k := 1) (ft := 26) (off := 1) (n := 1) (by kernel_rfl) g3_0
  obtain ⟨n3, b3, e3⟩ := WT_int Try.underlying26 ⟨f3_1, g3_1⟩
  obtain ⟨f4_0, g4_0⟩ := WT_field (k := 3) (ft := 4) (off := 4) (n := 1) (by kernel_rfl) h
  obtain ⟨n4, b4, e4⟩ := WT_bool Try.underlying4 ⟨f4_0, g4_0⟩
  clear h g0_0 g1_0 g2_0 g2_1 g3_0 g3_1 g4_0
  rcases xs with _ | ⟨a0, _ | ⟨a1, _ | ⟨a2, _ | ⟨a3, _ | ⟨a4, _ | ⟨_, _⟩⟩⟩⟩⟩⟩ <;> simp at hl
  simp at e0
  simp at e1
  simp at e2
  simp at e3
  simp at e4
  subst e0 e1 e2 e3 e4
  exact ⟨⟨n0, n1, n2, n3, n4⟩, ⟨b0, b1, b2, b3⟩, rfl⟩

end Go.Proofs.Ytohlnmenghbgbaa
