/- PRINTED by row.py: the statement on 'ArenaClasses'. -/
import Derived.Test.YtdeihhfhcnhmfaaLaw7
import Derived.Test.YtdeihhfhcnhmfaaRow
namespace Go.Proofs.Ytdeihhfhcnhmfaa.ArenaClasses
open Go
open Go.ChangeShapes Go.WideShapes Go.ChangeAt Go.RowKit Go.Proofs.Ytdeihhfhcnhmfaa
set_option linter.unusedSimpArgs false
set_option linter.unusedVariables false

theorem lifted (os : Os) (started : os.Started) (H : Type) (enc : TypeId × Value → H) :
    ReturnsInHanded {} Try.checked os 6 .any (Rows.arenaClassesSpec.pre6 enc Try.prog Try.f6 Rows.arenaClassesRow.domain false) (Rows.arenaClassesSpec.post enc Try.prog Try.f6 false true false false) := by
  refine returnsInHanded_of_change (C := Try.checked) PR_own started (by kernel_rfl) Try.func6
    (ChangeSpec.witness6 (enc := enc) (C := Try.checked) false ⟨#[], #[.int .i64 0], []⟩ 8 (by kernel_rfl) (by kernel_rfl) (by kernel_rfl) (by kernel_rfl)) ?_
  intro W base args ds gs before hval hW _ _
  obtain ⟨p, q, hA, hV, hb, hfz⟩ := id hW
  have hA' := hA
  rw [Try.params6] at hA'
  obtain ⟨v0, vs0, d0, ds0, p0, q0, hargs, hds, hps, h0, hA'⟩ := trodAll_cons hA'
  obtain ⟨rfl, rfl, rfl⟩ := trodAll_nil hA'
  obtain rfl : args = #[v0] := by cases args; simp_all
  have hv0 := hval 0 3 v0 (by rw [Try.params6]; rfl) rfl
  obtain ⟨m0, rfl, hm0⟩ := WArg_int Try.underlying3 (okWide_int Try.underlying3 hv0) (warg_of h0)
  refine (ArenaClasses_ok hm0 (K := fun v H' => v = .bool true ∧ Keep Nothing (hp W) H') (fun H' hk => ⟨rfl, hk⟩) W rfl).mono fun e W' ⟨v, he, hr, hv, hk⟩ => ?_
  subst hv
  exact ⟨_, he, post_of (t := 4) rfl (by rw [Try.params6]; decide +kernel) rfl Try.underlying4 hW (fun ds' h => by rcases ds' with _ | ⟨_, _ | _⟩ <;> first | exact ⟨rfl, rfl, rfl⟩ | (simp [Try.f6] at h)) (below_of hr hk)⟩

theorem over : Rows.arenaClassesRow.holds Try.pinned (OpenSpec.ofChange Rows.arenaClassesSpec) :=
  OpenClaim.holds_of_wide 6 Try.f6 rfl rfl rfl rfl rfl rfl rfl ⟨rfl, rfl, rfl, rfl, rfl⟩ rfl rfl rfl rfl rfl (by kernel_rfl) Try.func6 (by kernel_rfl)
    (of_decide_eq_true (by kernel_rfl)) (by unfold Func.isWrapper; first | (rw [if_pos (by decide +kernel)]; kernel_rfl) | (rw [if_neg (by decide +kernel)]; exact ⟨rfl, rfl⟩))
    (fun os started H enc _ => lifted os started H enc)

theorem proved : Rows.ArenaClassesSaid := over
#print axioms proved
end Go.Proofs.Ytdeihhfhcnhmfaa.ArenaClasses
