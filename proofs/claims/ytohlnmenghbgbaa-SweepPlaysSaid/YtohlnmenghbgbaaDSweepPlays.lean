/- PRINTED by row.py: the statement on 'SweepPlays'. -/
import Derived.Test.YtohlnmenghbgbaaZLaw15SweepPlays
import Derived.Test.YtohlnmenghbgbaaZRow
namespace Go.Proofs.Ytohlnmenghbgbaa.SweepPlays
open Go
open Go.ChangeShapes Go.WideShapes Go.ChangeAt Go.RowKit Go.Proofs.Ytohlnmenghbgbaa
set_option linter.unusedSimpArgs false
set_option linter.unusedVariables false

set_option maxRecDepth 100000 in
theorem lifted (os : Os) (started : os.Started) (H : Type) (enc : TypeId × Value → H) :
    ReturnsInHanded {} Try.checked os 13 .any (Rows.sweepPlaysSpec.pre6 enc Try.prog Try.f13 Rows.sweepPlaysRow.domain false) (Rows.sweepPlaysSpec.post enc Try.prog Try.f13 false true false false) := by
  refine returnsInHanded_of_change (C := Try.checked) PR_own started (by kernel_rfl) Try.func13
    (ChangeSpec.witness6 (enc := enc) (C := Try.checked) false ⟨#[], #[.int .i64 0, .slice none 0 0, .slice none 0 0], []⟩ 8 (by kernel_rfl) (by kernel_rfl) (by kernel_rfl) (by kernel_rfl)) ?_
  intro W base args ds gs before hval hW _ _
  obtain ⟨p, q, hA, hV, hb, hfz⟩ := id hW
  have hA' := hA
  rw [Try.params13] at hA'
  obtain ⟨v0, vs0, d0, ds0, p0, q0, hargs, hds, hps, h0, hA'⟩ := trodAll_cons hA'
  obtain ⟨v1, vs1, d1, ds1, p1, q1, rfl, rfl, rfl, h1, hA'⟩ := trodAll_cons hA'
  obtain ⟨v2, vs2, d2, ds2, p2, q2, rfl, rfl, rfl, h2, hA'⟩ := trodAll_cons hA'
  obtain ⟨rfl, rfl, rfl⟩ := trodAll_nil hA'
  obtain rfl : args = #[v0, v1, v2] := by cases args; simp_all
  have hv0 := hval 0 3 v0 (by rw [Try.params13]; rfl) rfl
  obtain ⟨m0, rfl, hm0⟩ := WArg_int Try.underlying3 (okWide_int Try.underlying3 hv0) (warg_of h0)
  have hv1 := hval 1 39 v1 (by rw [Try.params13]; rfl) rfl
  obtain ⟨pp1, n1, c1, xss1, rfl, hnc1, hc1, hlen1, hel1, hrd1⟩ := WArg_slice (k := 1) Try.underlying39 (by kernel_rfl) (by omega) (okWide_slice Try.underlying39 hv1) (warg_of h1)
  obtain ⟨l1, rfl, hl1⟩ := map_of (g := fun s => [.int .u64 s]) (Q := fun s : Int => IntKind.min .u64 ≤ s ∧ s ≤ IntKind.max .u64) fun xs hx => WT_int Try.underlying26 (hel1 xs hx).2
  rw [flatten_single] at hrd1
  have hn1 : n1 ≤ 9223372036854775807 := by have hmx : maxLen = 9223372036854775807 := (by decide); omega
  have hv2 := hval 2 95 v2 (by rw [Try.params13]; rfl) rfl
  obtain ⟨pp2, n2, c2, xss2, rfl, hnc2, hc2, hlen2, hel2, hrd2⟩ := WArg_slice (k := 2) Try.underlying95 (by kernel_rfl) (by omega) (okWide_slice Try.underlying95 hv2) (warg_of h2)
  obtain ⟨l2, rfl, hl2⟩ := map_of (g := E_law15_Step.cells) (Q := E_law15_Step.ok) fun xs hx => WT_law15_Step (hel2 xs hx).2
  have hn2 : n2 ≤ 9223372036854775807 := by have hmx : maxLen = 9223372036854775807 := (by decide); omega
  refine (SweepPlays_ok hm0 hrd1 hn1 hl1 hrd2 hn2 hl2 (K := fun v H' => v = .bool true ∧ Keep Nothing (hp W) H') (fun H' hk => ⟨rfl, hk⟩) W rfl).mono fun e W' ⟨v, he, hr, hv, hk⟩ => ?_
  subst hv
  exact ⟨_, he, post_of (t := 4) rfl (by rw [Try.params13]; decide +kernel) rfl Try.underlying4 hW (fun ds' h => by rcases ds' with _ | ⟨_, _ | ⟨_, _ | ⟨_, _ | _⟩⟩⟩ <;> first | exact ⟨rfl, rfl, rfl⟩ | (simp [Try.f13] at h)) (below_of hr hk)⟩

theorem lifts_eq : (Rows.sweepPlaysRow.lifted == Try.pinned.checked.prog.liftsFinal) = true := by
  rewrite [lifts_none]
  kernel_rfl
theorem make_eq : (Try.pinned.checked.prog.make == some Rows.sweepPlaysRow.make) = true := by
  rewrite [make_cut]
  kernel_rfl
theorem closed : joinedFacts Try.pinned.checked.prog 13 Try.f13 Rows.sweepPlaysSpec Rows.sweepPlaysRow = true := by
  unfold joinedFacts
  simp only [Bool.and_eq_true]
  repeat' apply And.intro
  all_goals first
    | with_reducible exact may_enter
    | with_reducible exact lifts_eq
    | with_reducible exact make_eq
    | kernel_rfl

theorem over : Rows.sweepPlaysRow.holds Try.pinned (OpenSpec.ofChange Rows.sweepPlaysSpec) :=
  OpenClaim.holds_of_wide 13 Try.f13 rfl rfl rfl rfl rfl rfl rfl ⟨rfl, rfl, rfl, rfl, rfl⟩ rfl rfl rfl rfl rfl (by kernel_rfl) Try.func13 closed
    (of_decide_eq_true (by kernel_rfl)) (by unfold Func.isWrapper; first | (rw [if_pos (by decide +kernel)]; kernel_rfl) | (rw [if_neg (by decide +kernel)]; exact ⟨rfl, rfl⟩))
    (fun os started H enc _ => lifted os started H enc)

theorem proved : Rows.SweepPlaysSaid := over
 #print axioms proved
end Go.Proofs.Ytohlnmenghbgbaa.SweepPlays
