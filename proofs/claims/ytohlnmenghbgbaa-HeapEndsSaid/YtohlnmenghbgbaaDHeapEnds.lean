/- PRINTED by row.py: the statement on 'HeapEnds'. -/
import Derived.Test.YtohlnmenghbgbaaZLaw8HeapEnds
import Derived.Test.YtohlnmenghbgbaaZRow
namespace Go.Proofs.Ytohlnmenghbgbaa.HeapEnds
open Go
open Go.ChangeShapes Go.WideShapes Go.ChangeAt Go.RowKit Go.Proofs.Ytohlnmenghbgbaa
set_option linter.unusedSimpArgs false
set_option linter.unusedVariables false

set_option maxRecDepth 100000 in
theorem lifted (os : Os) (started : os.Started) (H : Type) (enc : TypeId × Value → H) :
    ReturnsInHanded {} Try.checked os 6 .any (Rows.heapEndsSpec.pre6 enc Try.prog Try.f6 Rows.heapEndsRow.domain false) (Rows.heapEndsSpec.post enc Try.prog Try.f6 false true false false) := by
  refine returnsInHanded_of_change (C := Try.checked) PR_own started (by kernel_rfl) Try.func6
    (ChangeSpec.witness6 (enc := enc) (C := Try.checked) false ⟨#[], #[.int .i64 0], []⟩ 8 (by kernel_rfl) (by kernel_rfl) (by kernel_rfl) (by kernel_rfl)) ?_
  intro W base args ds gs before hval hW _ _
  obtain ⟨p, q, hA, hV, hb, hfz⟩ := id hW
  have hA' := hA
  rw [Try.params6] at hA'
  obtain ⟨v0, vs0, d0, ds0, p0, q0, hargs, hds, hps, h0, hA'⟩ := trodAll_cons hA'
  obtain ⟨rfl, rfl, rfl⟩ := trodAll_nil hA'
  obtain rfl : args = #[v0] := by cases args; simp_all
  have hv0 := hval 0 3 v0 (by rw [Try.params6]; rfl) rfl
  obtain ⟨m0, rfl, hm0⟩ := WArg_int Try.underlying3 (okWide_int Try.underlying3 hv0) (warg_of h0)
  refine (HeapEnds_ok hm0 (K := fun v H' => v = .bool true ∧ Keep Nothing (hp W) H') (fun H' hk => ⟨rfl, hk⟩) W rfl).mono fun e W' ⟨v, he, hr, hv, hk⟩ => ?_
  subst hv
  exact ⟨_, he, post_of (t := 4) rfl (by rw [Try.params6]; decide +kernel) rfl Try.underlying4 hW (fun ds' h => by rcases ds' with _ | ⟨_, _ | _⟩ <;> first | exact ⟨rfl, rfl, rfl⟩ | (simp [Try.f6] at h)) (below_of hr hk)⟩

theorem lifts_eq : (Rows.heapEndsRow.lifted == Try.pinned.checked.prog.liftsFinal) = true := by
  rewrite [lifts_none]
  kernel_rfl
theorem make_eq : (Try.pinned.checked.prog.make == some Rows.heapEndsRow.make) = true := by
  rewrite [make_cut]
  kernel_rfl
theorem closed : joinedFacts Try.pinned.checked.prog 6 Try.f6 Rows.heapEndsSpec Rows.heapEndsRow = true := by
  unfold joinedFacts
  simp only [Bool.and_eq_true]
  repeat' apply And.intro
  all_goals first
    | with_reducible exact may_enter
    | with_reducible exact lifts_eq
    | with_reducible exact make_eq
    | kernel_rfl

theorem over : Rows.heapEndsRow.holds Try.pinned (OpenSpec.ofChange Rows.heapEndsSpec) :=
  OpenClaim.holds_of_wide 6 Try.f6 rfl rfl rfl rfl rfl rfl rfl ⟨rfl, rfl, rfl, rfl, rfl⟩ rfl rfl rfl rfl rfl (by kernel_rfl) Try.func6 closed
    (of_decide_eq_true (by kernel_rfl)) (by unfold Func.isWrapper; first | (rw [if_pos (by decide +kernel)]; kernel_rfl) | (rw [if_neg (by decide +kernel)]; exact ⟨rfl, rfl⟩))
    (fun os started H enc _ => lifted os started H enc)

theorem proved : Rows.HeapEndsSaid := over
 #print axioms proved
end Go.Proofs.Ytohlnmenghbgbaa.HeapEnds
