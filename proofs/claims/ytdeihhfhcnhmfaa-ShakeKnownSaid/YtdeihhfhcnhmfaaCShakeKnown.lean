/- PRINTED by row.py: the statement on 'ShakeKnown'. -/
import Derived.Test.YtdeihhfhcnhmfaaLaw12
import Derived.Test.YtdeihhfhcnhmfaaRow
namespace Go.Proofs.Ytdeihhfhcnhmfaa.ShakeKnown
open Go
open Go.ChangeShapes Go.WideShapes Go.ChangeAt Go.RowKit Go.Proofs.Ytdeihhfhcnhmfaa
set_option linter.unusedSimpArgs false
set_option linter.unusedVariables false

theorem lifted (os : Os) (started : os.Started) (H : Type) (enc : TypeId × Value → H) :
    ReturnsInHanded {} Try.checked os 8 .any (Rows.shakeKnownSpec.pre6 enc Try.prog Try.f8 Rows.shakeKnownRow.domain false) (Rows.shakeKnownSpec.post enc Try.prog Try.f8 false true false false) := by
  refine returnsInHanded_of_change (C := Try.checked) PR_own started (by kernel_rfl) Try.func8
    (ChangeSpec.witness6 (enc := enc) (C := Try.checked) false ⟨#[], #[], []⟩ 8 (by kernel_rfl) (by kernel_rfl) (by kernel_rfl) (by kernel_rfl)) ?_
  intro W base args ds gs before hval hW _ _
  obtain ⟨p, q, hA, hV, hb, hfz⟩ := id hW
  have hA' := hA
  rw [Try.params8] at hA'

  obtain ⟨hargs, rfl, rfl⟩ := trodAll_nil hA'
  obtain rfl : args = #[] := by cases args; simp_all

  refine (ShakeKnown_ok  (K := fun v H' => v = .bool true ∧ Keep Nothing (hp W) H') (fun H' hk => ⟨rfl, hk⟩) W rfl).mono fun e W' ⟨v, he, hr, hv, hk⟩ => ?_
  subst hv
  exact ⟨_, he, post_of (t := 4) rfl (by rw [Try.params8]; decide +kernel) rfl Try.underlying4 hW (fun ds' h => by rcases ds' with _ | _ <;> first | exact ⟨rfl, rfl, rfl⟩ | (simp [Try.f8] at h)) (below_of hr hk)⟩

theorem over : Rows.shakeKnownRow.holds Try.pinned (OpenSpec.ofChange Rows.shakeKnownSpec) :=
  OpenClaim.holds_of_wide 8 Try.f8 rfl rfl rfl rfl rfl rfl rfl ⟨rfl, rfl, rfl, rfl, rfl⟩ rfl rfl rfl rfl rfl (by kernel_rfl) Try.func8 (by kernel_rfl)
    (of_decide_eq_true (by kernel_rfl)) (by unfold Func.isWrapper; first | (rw [if_pos (by decide +kernel)]; kernel_rfl) | (rw [if_neg (by decide +kernel)]; exact ⟨rfl, rfl⟩))
    (fun os started H enc _ => lifted os started H enc)

theorem proved : Rows.ShakeKnownSaid := over
#print axioms proved
end Go.Proofs.Ytdeihhfhcnhmfaa.ShakeKnown
