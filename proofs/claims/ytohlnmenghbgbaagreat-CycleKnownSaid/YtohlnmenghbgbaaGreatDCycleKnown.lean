/- PRINTED by row.py: the statement on 'CycleKnown'. -/
import Derived.Test.YtohlnmenghbgbaaGreatZLaw16CycleKnown
import Derived.Test.YtohlnmenghbgbaaGreatZRow
namespace Go.Proofs.YtohlnmenghbgbaaGreat.CycleKnown
open Go
open Go.ChangeShapes Go.WideShapes Go.ChangeAt Go.RowKit Go.Proofs.YtohlnmenghbgbaaGreat
set_option linter.unusedSimpArgs false
set_option linter.unusedVariables false

set_option maxRecDepth 100000 in
theorem lifted (os : Os) (started : os.Started) (H : Type) (enc : TypeId × Value → H) :
    ReturnsInHanded {} Tryz.checked os 7 .any (Rows.cycleKnownSpec.pre6 enc Tryz.prog Tryz.f7 Rows.cycleKnownRow.domain false) (Rows.cycleKnownSpec.post enc Tryz.prog Tryz.f7 false true false false) := by
  refine returnsInHanded_of_change (C := Tryz.checked) PR_own started (by kernel_rfl) Tryz.func7
    (ChangeSpec.witness6 (enc := enc) (C := Tryz.checked) false ⟨#[], #[], []⟩ 8 (by kernel_rfl) (by kernel_rfl) (by kernel_rfl) (by kernel_rfl)) ?_
  intro W base args ds gs before hval hW _ _
  obtain ⟨p, q, hA, hV, hb, hfz⟩ := id hW
  have hA' := hA
  rw [Tryz.params7] at hA'

  obtain ⟨hargs, rfl, rfl⟩ := trodAll_nil hA'
  obtain rfl : args = #[] := by cases args; simp_all

  refine (CycleKnown_ok  (K := fun v H' => v = .bool true ∧ Keep Nothing (hp W) H') (fun H' hk => ⟨rfl, hk⟩) W rfl).mono fun e W' ⟨v, he, hr, hv, hk⟩ => ?_
  subst hv
  exact ⟨_, he, post_of (t := 4) rfl (by rw [Tryz.params7]; decide +kernel) rfl Tryz.underlying4 hW (fun ds' h => by rcases ds' with _ | _ <;> first | exact ⟨rfl, rfl, rfl⟩ | (simp [Tryz.f7] at h)) (below_of hr hk)⟩

theorem lifts_eq : (Rows.cycleKnownRow.lifted == Tryz.pinned.checked.prog.liftsFinal) = true := by
  rewrite [lifts_none]
  kernel_rfl
theorem make_eq : (Tryz.pinned.checked.prog.make == some Rows.cycleKnownRow.make) = true := by
  rewrite [make_cut]
  kernel_rfl
theorem closed : joinedFacts Tryz.pinned.checked.prog 7 Tryz.f7 Rows.cycleKnownSpec Rows.cycleKnownRow = true := by
  unfold joinedFacts
  simp only [Bool.and_eq_true]
  repeat' apply And.intro
  all_goals first
    | with_reducible exact may_enter
    | with_reducible exact lifts_eq
    | with_reducible exact make_eq
    | kernel_rfl

theorem over : Rows.cycleKnownRow.holds Tryz.pinned (OpenSpec.ofChange Rows.cycleKnownSpec) :=
  OpenClaim.holds_of_wide 7 Tryz.f7 rfl rfl rfl rfl rfl rfl rfl ⟨rfl, rfl, rfl, rfl, rfl⟩ rfl rfl rfl rfl rfl (by kernel_rfl) Tryz.func7 closed
    (of_decide_eq_true (by kernel_rfl)) (by unfold Func.isWrapper; first | (rw [if_pos (by decide +kernel)]; kernel_rfl) | (rw [if_neg (by decide +kernel)]; exact ⟨rfl, rfl⟩))
    (fun os started H enc _ => lifted os started H enc)

theorem proved : Rows.CycleKnownSaid := over
 #print axioms proved
end Go.Proofs.YtohlnmenghbgbaaGreat.CycleKnown
