/- PRINTED by row.py: the statement on 'WitnessKnown'. -/
import Derived.Test.YtknejebggegfjaaZLaw22WitnessKnown
import Derived.Test.YtknejebggegfjaaZRow
namespace Go.Proofs.Ytknejebggegfjaa.WitnessKnown
open Go
open Go.ChangeShapes Go.WideShapes Go.ChangeAt Go.RowKit Go.Proofs.Ytknejebggegfjaa
set_option linter.unusedSimpArgs false
set_option linter.unusedVariables false

set_option maxRecDepth 100000 in
theorem lifted (os : Os) (started : os.Started) (H : Type) (enc : TypeId × Value → H) :
    ReturnsInHanded {} Try.checked os 4 .any (Rows.witnessKnownSpec.pre6 enc Try.prog Try.f4 Rows.witnessKnownRow.domain false) (Rows.witnessKnownSpec.post enc Try.prog Try.f4 false true false false) := by
  refine returnsInHanded_of_change (C := Try.checked) PR_own started (by kernel_rfl) Try.func4
    (ChangeSpec.witness6 (enc := enc) (C := Try.checked) false ⟨#[], #[], []⟩ 8 (by kernel_rfl) (by kernel_rfl) (by kernel_rfl) (by kernel_rfl)) ?_
  intro W base args ds gs before hval hW _ _
  obtain ⟨p, q, hA, hV, hb, hfz⟩ := id hW
  have hA' := hA
  rw [Try.params4] at hA'

  obtain ⟨hargs, rfl, rfl⟩ := trodAll_nil hA'
  obtain rfl : args = #[] := by cases args; simp_all

  refine (WitnessKnown_ok  (K := fun v H' => v = .bool true ∧ Keep Nothing (hp W) H') (fun H' hk => ⟨rfl, hk⟩) W rfl).mono fun e W' ⟨v, he, hr, hv, hk⟩ => ?_
  subst hv
  exact ⟨_, he, post_of (t := 4) rfl (by rw [Try.params4]; decide +kernel) rfl Try.underlying4 hW (fun ds' h => by rcases ds' with _ | _ <;> first | exact ⟨rfl, rfl, rfl⟩ | (simp [Try.f4] at h)) (below_of hr hk)⟩

theorem lifts_eq : (Rows.witnessKnownRow.lifted == Try.pinned.checked.prog.liftsFinal) = true := by
  rewrite [lifts_none]
  kernel_rfl
theorem make_eq : (Try.pinned.checked.prog.make == some Rows.witnessKnownRow.make) = true := by
  rewrite [make_cut]
  kernel_rfl
theorem closed : joinedFacts Try.pinned.checked.prog 4 Try.f4 Rows.witnessKnownSpec Rows.witnessKnownRow = true := by
  unfold joinedFacts
  simp only [Bool.and_eq_true]
  repeat' apply And.intro
  all_goals first
    | with_reducible exact may_enter
    | with_reducible exact lifts_eq
    | with_reducible exact make_eq
    | kernel_rfl

theorem over : Rows.witnessKnownRow.holds Try.pinned (OpenSpec.ofChange Rows.witnessKnownSpec) :=
  OpenClaim.holds_of_wide 4 Try.f4 rfl rfl rfl rfl rfl rfl rfl ⟨rfl, rfl, rfl, rfl, rfl⟩ rfl rfl rfl rfl rfl (by kernel_rfl) Try.func4 closed
    (of_decide_eq_true (by kernel_rfl)) (by unfold Func.isWrapper; first | (rw [if_pos (by decide +kernel)]; kernel_rfl) | (rw [if_neg (by decide +kernel)]; exact ⟨rfl, rfl⟩))
    (fun os started H enc _ => lifted os started H enc)

theorem proved : Rows.WitnessKnownSaid := over
 #print axioms proved
end Go.Proofs.Ytknejebggegfjaa.WitnessKnown
