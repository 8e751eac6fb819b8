/- PRINTED by row.py: the statement on 'TracePlays'. -/
import Derived.Test.YtknejebggegfjaaZLaw23TracePlays
import Derived.Test.YtknejebggegfjaaZRow
namespace Go.Proofs.Ytknejebggegfjaa.TracePlays
open Go
open Go.ChangeShapes Go.WideShapes Go.ChangeAt Go.RowKit Go.Proofs.Ytknejebggegfjaa
set_option linter.unusedSimpArgs false
set_option linter.unusedVariables false

set_option maxRecDepth 100000 in
theorem lifted (os : Os) (started : os.Started) (H : Type) (enc : TypeId × Value → H) :
    ReturnsInHanded {} Try.checked os 12 .any (Rows.tracePlaysSpec.pre6 enc Try.prog Try.f12 Rows.tracePlaysRow.domain false) (Rows.tracePlaysSpec.post enc Try.prog Try.f12 false true false false) := by
  refine returnsInHanded_of_change_sized (C := Try.checked) PR_own started (by kernel_rfl) Try.func12
    (ChangeSpec.witness6 (enc := enc) (C := Try.checked) false ⟨#[], #[.agg #[.int .i64 0, .int .i64 0, .int .i64 0, .int .i64 0, .int .i64 0, .int .i64 0, .int .i64 0, .int .i64 0, .int .i64 0, .int .i64 0, .int .i64 0, .int .i64 0, .int .i64 0, .int .i64 0, .int .i64 0, .int .i64 0, .int .i64 0, .int .i64 0, .int .i64 0, .int .i64 0, .int .u64 0, .int .u64 0], .int .i64 0, .int .u64 0, .slice none 0 0], []⟩ 8 (by kernel_rfl) (by kernel_rfl) (by kernel_rfl) (by kernel_rfl)) ?_
  intro W base args ds gs before hval hW _ hsz _
  obtain ⟨p, q, hA, hV, hb, hfz⟩ := id hW
  have hA' := hA
  rw [Try.params12] at hA'
  obtain ⟨v0, vs0, d0, ds0, p0, q0, hargs, hds, hps, h0, hA'⟩ := trodAll_cons hA'
  obtain ⟨v1, vs1, d1, ds1, p1, q1, rfl, rfl, rfl, h1, hA'⟩ := trodAll_cons hA'
  obtain ⟨v2, vs2, d2, ds2, p2, q2, rfl, rfl, rfl, h2, hA'⟩ := trodAll_cons hA'
  obtain ⟨v3, vs3, d3, ds3, p3, q3, rfl, rfl, rfl, h3, hA'⟩ := trodAll_cons hA'
  obtain ⟨rfl, rfl, rfl⟩ := trodAll_nil hA'
  obtain rfl : args = #[v0, v1, v2, v3] := by cases args; simp_all
  have hv0 := hval 0 24 v0 (by rw [Try.params12]; rfl) rfl
  obtain ⟨m0, hm0, rfl⟩ := WArg_plain (okWide_agg2 (n := 22) (by kernel_rfl) hv0) (fun xs hx => WT_hand_Raw hx) (warg_of h0)
  have hv1 := hval 1 3 v1 (by rw [Try.params12]; rfl) rfl
  obtain ⟨m1, rfl, hm1⟩ := WArg_int Try.underlying3 (okWide_int Try.underlying3 hv1) (warg_of h1)
  have hv2 := hval 2 22 v2 (by rw [Try.params12]; rfl) rfl
  obtain ⟨m2, rfl, hm2⟩ := WArg_int Try.underlying22 (okWide_int Try.underlying22 hv2) (warg_of h2)
  have hv3 := hval 3 102 v3 (by rw [Try.params12]; rfl) rfl
  obtain ⟨sp3, sl3, sc3, l3, rfl, hrd3, hn3, hg3⟩ := steps_of (okWide_slice Try.underlying102 hv3) (wsarg_of hsz (j := 3) (by rw [Try.params12]; rfl) (by rw [hds]; rfl) h3)
  refine (TracePlays_ok hm0 hm1 hm2 hrd3 hn3 hg3 (K := fun v H' => v = .bool true ∧ Keep Nothing (hp W) H') (fun H' hk => ⟨rfl, hk⟩) W rfl).mono fun e W' ⟨v, he, hr, hv, hk⟩ => ?_
  subst hv
  exact ⟨_, he, post_of (t := 4) rfl (by rw [Try.params12]; decide +kernel) rfl Try.underlying4 hW (fun ds' h => by rcases ds' with _ | ⟨_, _ | ⟨_, _ | ⟨_, _ | ⟨_, _ | _⟩⟩⟩⟩ <;> first | exact ⟨rfl, rfl, rfl⟩ | (simp [Try.f12] at h)) (below_of hr hk)⟩

theorem lifts_eq : (Rows.tracePlaysRow.lifted == Try.pinned.checked.prog.liftsFinal) = true := by
  rewrite [lifts_none]
  kernel_rfl
theorem make_eq : (Try.pinned.checked.prog.make == some Rows.tracePlaysRow.make) = true := by
  rewrite [make_cut]
  kernel_rfl
theorem closed : joinedFacts Try.pinned.checked.prog 12 Try.f12 Rows.tracePlaysSpec Rows.tracePlaysRow = true := by
  unfold joinedFacts
  simp only [Bool.and_eq_true]
  repeat' apply And.intro
  all_goals first
    | with_reducible exact may_enter
    | with_reducible exact lifts_eq
    | with_reducible exact make_eq
    | kernel_rfl

theorem over : Rows.tracePlaysRow.holds Try.pinned (OpenSpec.ofChange Rows.tracePlaysSpec) :=
  OpenClaim.holds_of_wide 12 Try.f12 rfl rfl rfl rfl rfl rfl rfl ⟨rfl, rfl, rfl, rfl, rfl⟩ rfl rfl rfl rfl rfl (by kernel_rfl) Try.func12 closed
    (of_decide_eq_true (by kernel_rfl)) (by unfold Func.isWrapper; first | (rw [if_pos (by decide +kernel)]; kernel_rfl) | (rw [if_neg (by decide +kernel)]; exact ⟨rfl, rfl⟩))
    (fun os started H enc _ => lifted os started H enc)

theorem proved : Rows.TracePlaysSaid := over
 #print axioms proved
end Go.Proofs.Ytknejebggegfjaa.TracePlays
