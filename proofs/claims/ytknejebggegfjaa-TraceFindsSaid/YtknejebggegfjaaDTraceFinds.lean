/- PRINTED by row.py: the statement on 'TraceFinds'. -/
import Derived.Test.YtknejebggegfjaaZLaw23TraceFinds
import Derived.Test.YtknejebggegfjaaZRow
namespace Go.Proofs.Ytknejebggegfjaa.TraceFinds
open Go
open Go.ChangeShapes Go.WideShapes Go.ChangeAt Go.RowKit Go.Proofs.Ytknejebggegfjaa
set_option linter.unusedSimpArgs false
set_option linter.unusedVariables false

set_option maxRecDepth 100000 in
theorem lifted (os : Os) (started : os.Started) (H : Type) (enc : TypeId × Value → H) :
    ReturnsInHanded {} Try.checked os 8 .any (Rows.traceFindsSpec.pre6 enc Try.prog Try.f8 Rows.traceFindsRow.domain false) (Rows.traceFindsSpec.post enc Try.prog Try.f8 false true false false) := by
  refine returnsInHanded_of_change (C := Try.checked) PR_own started (by kernel_rfl) Try.func8
    (ChangeSpec.witness6 (enc := enc) (C := Try.checked) false ⟨#[], #[.agg #[.int .i64 0, .int .i64 0, .int .i64 0, .int .i64 0, .int .i64 0, .int .i64 0, .int .i64 0, .int .i64 0, .int .i64 0, .int .i64 0, .int .i64 0, .int .i64 0, .int .i64 0, .int .i64 0, .int .i64 0, .int .i64 0, .int .i64 0, .int .i64 0, .int .i64 0, .int .i64 0, .int .u64 0, .int .u64 0], .agg #[.slice none 0 0, .slice none 0 0, .slice none 0 0, .slice none 0 0]], []⟩ 8 (by kernel_rfl) (by kernel_rfl) (by kernel_rfl) (by kernel_rfl)) ?_
  intro W base args ds gs before hval hW _ _
  obtain ⟨p, q, hA, hV, hb, hfz⟩ := id hW
  have hA' := hA
  rw [Try.params8] at hA'
  obtain ⟨v0, vs0, d0, ds0, p0, q0, hargs, hds, hps, h0, hA'⟩ := trodAll_cons hA'
  obtain ⟨v1, vs1, d1, ds1, p1, q1, rfl, rfl, rfl, h1, hA'⟩ := trodAll_cons hA'
  obtain ⟨rfl, rfl, rfl⟩ := trodAll_nil hA'
  obtain rfl : args = #[v0, v1] := by cases args; simp_all
  have hv0 := hval 0 24 v0 (by rw [Try.params8]; rfl) rfl
  obtain ⟨m0, hm0, rfl⟩ := WArg_plain (okWide_agg2 (n := 22) (by kernel_rfl) hv0) (fun xs hx => WT_hand_Raw hx) (warg_of h0)
  have hv1 := hval 1 75 v1 (by rw [Try.params8]; rfl) rfl
  obtain ⟨ip1, il1, ic1, op1, ol1, oc1, lp1, ll1, lc1, gp1, gl1, gc1, w1, rfl, wa1⟩ := WArg_web (okWide_agg2 (n := 4) (by kernel_rfl) hv1) (warg_of h1)
  refine (TraceFinds_ok hm0 wa1 (K := fun v H' => v = .bool true ∧ Keep Nothing (hp W) H') (fun H' hk => ⟨rfl, hk⟩) W rfl).mono fun e W' ⟨v, he, hr, hv, hk⟩ => ?_
  subst hv
  exact ⟨_, he, post_of (t := 4) rfl (by rw [Try.params8]; decide +kernel) rfl Try.underlying4 hW (fun ds' h => by rcases ds' with _ | ⟨_, _ | ⟨_, _ | _⟩⟩ <;> first | exact ⟨rfl, rfl, rfl⟩ | (simp [Try.f8] at h)) (below_of hr hk)⟩

theorem lifts_eq : (Rows.traceFindsRow.lifted == Try.pinned.checked.prog.liftsFinal) = true := by
  rewrite [lifts_none]
  kernel_rfl
theorem make_eq : (Try.pinned.checked.prog.make == some Rows.traceFindsRow.make) = true := by
  rewrite [make_cut]
  kernel_rfl
theorem closed : joinedFacts Try.pinned.checked.prog 8 Try.f8 Rows.traceFindsSpec Rows.traceFindsRow = true := by
  unfold joinedFacts
  simp only [Bool.and_eq_true]
  repeat' apply And.intro
  all_goals first
    | with_reducible exact may_enter
    | with_reducible exact lifts_eq
    | with_reducible exact make_eq
    | kernel_rfl

theorem over : Rows.traceFindsRow.holds Try.pinned (OpenSpec.ofChange Rows.traceFindsSpec) :=
  OpenClaim.holds_of_wide 8 Try.f8 rfl rfl rfl rfl rfl rfl rfl ⟨rfl, rfl, rfl, rfl, rfl⟩ rfl rfl rfl rfl rfl (by kernel_rfl) Try.func8 closed
    (of_decide_eq_true (by kernel_rfl)) (by unfold Func.isWrapper; first | (rw [if_pos (by decide +kernel)]; kernel_rfl) | (rw [if_neg (by decide +kernel)]; exact ⟨rfl, rfl⟩))
    (fun os started H enc _ => lifted os started H enc)

theorem proved : Rows.TraceFindsSaid := over
 #print axioms proved
end Go.Proofs.Ytknejebggegfjaa.TraceFinds
