/- PRINTED by row.py: the statement on 'ModelOnce'. -/
import Derived.Test.YtknejebggegfjaaZLaw26ModelOnce
import Derived.Test.YtknejebggegfjaaZRow
namespace Go.Proofs.Ytknejebggegfjaa.ModelOnce
open Go
open Go.ChangeShapes Go.WideShapes Go.ChangeAt Go.RowKit Go.Proofs.Ytknejebggegfjaa
set_option linter.unusedSimpArgs false
set_option linter.unusedVariables false

set_option maxRecDepth 100000 in
theorem lifted (os : Os) (started : os.Started) (H : Type) (enc : TypeId × Value → H) :
    ReturnsInHanded {} Try.checked os 3 .any (Rows.modelOnceSpec.pre6 enc Try.prog Try.f3 Rows.modelOnceRow.domain false) (Rows.modelOnceSpec.post enc Try.prog Try.f3 false true false false) := by
  refine returnsInHanded_of_change_sized (C := Try.checked) PR_own started (by kernel_rfl) Try.func3
    (ChangeSpec.witness6 (enc := enc) (C := Try.checked) false ⟨#[], #[.agg #[.int .i64 0, .int .i64 0, .int .i64 0, .int .i64 0, .int .i64 0, .int .i64 0, .int .i64 0, .int .i64 0, .int .i64 0, .int .i64 0, .int .i64 0, .int .i64 0, .int .i64 0, .int .i64 0, .int .i64 0, .int .i64 0, .int .i64 0, .int .i64 0, .int .i64 0, .int .i64 0, .int .u64 0, .int .u64 0], .int .i64 0, .int .i64 0, .int .i64 0], []⟩ 8 (by kernel_rfl) (by kernel_rfl) (by kernel_rfl) (by kernel_rfl)) ?_
  intro W base args ds gs before hval hW _ hsz _
  obtain ⟨p, q, hA, hV, hb, hfz⟩ := id hW
  have hA' := hA
  rw [Try.params3] at hA'
  obtain ⟨v0, vs0, d0, ds0, p0, q0, hargs, hds, hps, h0, hA'⟩ := trodAll_cons hA'
  obtain ⟨v1, vs1, d1, ds1, p1, q1, rfl, rfl, rfl, h1, hA'⟩ := trodAll_cons hA'
  obtain ⟨v2, vs2, d2, ds2, p2, q2, rfl, rfl, rfl, h2, hA'⟩ := trodAll_cons hA'
  obtain ⟨v3, vs3, d3, ds3, p3, q3, rfl, rfl, rfl, h3, hA'⟩ := trodAll_cons hA'
  obtain ⟨rfl, rfl, rfl⟩ := trodAll_nil hA'
  obtain rfl : args = #[v0, v1, v2, v3] := by cases args; simp_all
  have hv0 := hval 0 24 v0 (by rw [Try.params3]; rfl) rfl
  obtain ⟨m0, hm0, rfl⟩ := WArg_plain (okWide_agg2 (n := 22) (by kernel_rfl) hv0) (fun xs hx => WT_hand_Raw hx) (warg_of h0)
  have hv1 := hval 1 3 v1 (by rw [Try.params3]; rfl) rfl
  obtain ⟨m1, rfl, hm1⟩ := WArg_int Try.underlying3 (okWide_int Try.underlying3 hv1) (warg_of h1)
  have hv2 := hval 2 3 v2 (by rw [Try.params3]; rfl) rfl
  obtain ⟨m2, rfl, hm2⟩ := WArg_int Try.underlying3 (okWide_int Try.underlying3 hv2) (warg_of h2)
  have hv3 := hval 3 3 v3 (by rw [Try.params3]; rfl) rfl
  obtain ⟨m3, rfl, hm3⟩ := WArg_int Try.underlying3 (okWide_int Try.underlying3 hv3) (warg_of h3)
  refine (ModelOnce_ok hm0 hm1 hm2 hm3 (K := fun v H' => v = .bool true ∧ Keep Nothing (hp W) H') (fun H' hk => ⟨rfl, hk⟩) W rfl).mono fun e W' ⟨v, he, hr, hv, hk⟩ => ?_
  subst hv
  exact ⟨_, he, post_of (t := 4) rfl (by rw [Try.params3]; decide +kernel) rfl Try.underlying4 hW (fun ds' h => by rcases ds' with _ | ⟨_, _ | ⟨_, _ | ⟨_, _ | ⟨_, _ | _⟩⟩⟩⟩ <;> first | exact ⟨rfl, rfl, rfl⟩ | (simp [Try.f3] at h)) (below_of hr hk)⟩

theorem lifts_eq : (Rows.modelOnceRow.lifted == Try.pinned.checked.prog.liftsFinal) = true := by
  rewrite [lifts_none]
  kernel_rfl
theorem make_eq : (Try.pinned.checked.prog.make == some Rows.modelOnceRow.make) = true := by
  rewrite [make_cut]
  kernel_rfl
theorem closed : joinedFacts Try.pinned.checked.prog 3 Try.f3 Rows.modelOnceSpec Rows.modelOnceRow = true := by
  unfold joinedFacts
  simp only [Bool.and_eq_true]
  repeat' apply And.intro
  all_goals first
    | with_reducible exact may_enter
    | with_reducible exact lifts_eq
    | with_reducible exact make_eq
    | kernel_rfl

theorem over : Rows.modelOnceRow.holds Try.pinned (OpenSpec.ofChange Rows.modelOnceSpec) :=
  OpenClaim.holds_of_wide 3 Try.f3 rfl rfl rfl rfl rfl rfl rfl ⟨rfl, rfl, rfl, rfl, rfl⟩ rfl rfl rfl rfl rfl (by kernel_rfl) Try.func3 closed
    (of_decide_eq_true (by kernel_rfl)) (by unfold Func.isWrapper; first | (rw [if_pos (by decide +kernel)]; kernel_rfl) | (rw [if_neg (by decide +kernel)]; exact ⟨rfl, rfl⟩))
    (fun os started H enc _ => lifted os started H enc)

theorem proved : Rows.ModelOnceSaid := over
 #print axioms proved
end Go.Proofs.Ytknejebggegfjaa.ModelOnce
