/- PRINTED by row.py: the statement on 'HeapPlays'. -/
import Derived.Test.YtohlnmenghbgbaaZLaw8HeapPlays
import Derived.Test.YtohlnmenghbgbaaZRow
namespace Go.Proofs.Ytohlnmenghbgbaa.HeapPlays
open Go
open Go.ChangeShapes Go.WideShapes Go.ChangeAt Go.RowKit Go.Proofs.Ytohlnmenghbgbaa
set_option linter.unusedSimpArgs false
set_option linter.unusedVariables false

set_option maxRecDepth 100000 in
theorem lifted (os : Os) (started : os.Started) (H : Type) (enc : TypeId × Value → H) :
    ReturnsInHanded {} Try.checked os 8 .any (Rows.heapPlaysSpec.pre6 enc Try.prog Try.f8 Rows.heapPlaysRow.domain false) (Rows.heapPlaysSpec.post enc Try.prog Try.f8 false true false false) := by
  refine returnsInHanded_of_change (C := Try.checked) PR_own started (by kernel_rfl) Try.func8
    (ChangeSpec.witness6 (enc := enc) (C := Try.checked) false ⟨#[], #[.int .i64 0, .int .i64 0, .int .i64 0, .int .u64 0, .slice none 0 0], []⟩ 8 (by kernel_rfl) (by kernel_rfl) (by kernel_rfl) (by kernel_rfl)) ?_
  intro W base args ds gs before hval hW _ _
  obtain ⟨p, q, hA, hV, hb, hfz⟩ := id hW
  have hA' := hA
  rw [Try.params8] at hA'
  obtain ⟨v0, vs0, d0, ds0, p0, q0, hargs, hds, hps, h0, hA'⟩ := trodAll_cons hA'
  obtain ⟨v1, vs1, d1, ds1, p1, q1, rfl, rfl, rfl, h1, hA'⟩ := trodAll_cons hA'
  obtain ⟨v2, vs2, d2, ds2, p2, q2, rfl, rfl, rfl, h2, hA'⟩ := trodAll_cons hA'
  obtain ⟨v3, vs3, d3, ds3, p3, q3, rfl, rfl, rfl, h3, hA'⟩ := trodAll_cons hA'
  obtain ⟨v4, vs4, d4, ds4, p4, q4, rfl, rfl, rfl, h4, hA'⟩ := trodAll_cons hA'
  obtain ⟨rfl, rfl, rfl⟩ := trodAll_nil hA'
  obtain rfl : args = #[v0, v1, v2, v3, v4] := by cases args; simp_all
  have hv0 := hval 0 3 v0 (by rw [Try.params8]; rfl) rfl
  obtain ⟨m0, rfl, hm0⟩ := WArg_int Try.underlying3 (okWide_int Try.underlying3 hv0) (warg_of h0)
  have hv1 := hval 1 3 v1 (by rw [Try.params8]; rfl) rfl
  obtain ⟨m1, rfl, hm1⟩ := WArg_int Try.underlying3 (okWide_int Try.underlying3 hv1) (warg_of h1)
  have hv2 := hval 2 3 v2 (by rw [Try.params8]; rfl) rfl
  obtain ⟨m2, rfl, hm2⟩ := WArg_int Try.underlying3 (okWide_int Try.underlying3 hv2) (warg_of h2)
  have hv3 := hval 3 26 v3 (by rw [Try.params8]; rfl) rfl
  obtain ⟨m3, rfl, hm3⟩ := WArg_int Try.underlying26 (okWide_int Try.underlying26 hv3) (warg_of h3)
  have hv4 := hval 4 45 v4 (by rw [Try.params8]; rfl) rfl
  obtain ⟨pp4, n4, c4, xss4, rfl, hnc4, hc4, hlen4, hel4, hrd4⟩ := WArg_slice (k := 8) Try.underlying45 (by kernel_rfl) (by omega) (okWide_slice Try.underlying45 hv4) (warg_of h4)
  obtain ⟨l4, rfl, hl4⟩ := map_of (g := E_law8_Step.cells) (Q := E_law8_Step.ok) fun xs hx => WT_law8_Step (hel4 xs hx).2
  have hn4 : n4 ≤ 9223372036854775807 := by have hmx : maxLen = 9223372036854775807 := (by decide); omega
  refine (HeapPlays_ok hm0 hm1 hm2 hm3 hrd4 hn4 hl4 (K := fun v H' => v = .bool true ∧ Keep Nothing (hp W) H') (fun H' hk => ⟨rfl, hk⟩) W rfl).mono fun e W' ⟨v, he, hr, hv, hk⟩ => ?_
  subst hv
  exact ⟨_, he, post_of (t := 4) rfl (by rw [Try.params8]; decide +kernel) rfl Try.underlying4 hW (fun ds' h => by rcases ds' with _ | ⟨_, _ | ⟨_, _ | ⟨_, _ | ⟨_, _ | ⟨_, _ | _⟩⟩⟩⟩⟩ <;> first | exact ⟨rfl, rfl, rfl⟩ | (simp [Try.f8] at h)) (below_of hr hk)⟩

theorem lifts_eq : (Rows.heapPlaysRow.lifted == Try.pinned.checked.prog.liftsFinal) = true := by
  rewrite [lifts_none]
  kernel_rfl
theorem make_eq : (Try.pinned.checked.prog.make == some Rows.heapPlaysRow.make) = true := by
  rewrite [make_cut]
  kernel_rfl
theorem closed : joinedFacts Try.pinned.checked.prog 8 Try.f8 Rows.heapPlaysSpec Rows.heapPlaysRow = true := by
  unfold joinedFacts
  simp only [Bool.and_eq_true]
  repeat' apply And.intro
  all_goals first
    | with_reducible exact may_enter
    | with_reducible exact lifts_eq
    | with_reducible exact make_eq
    | kernel_rfl

theorem over : Rows.heapPlaysRow.holds Try.pinned (OpenSpec.ofChange Rows.heapPlaysSpec) :=
  OpenClaim.holds_of_wide 8 Try.f8 rfl rfl rfl rfl rfl rfl rfl ⟨rfl, rfl, rfl, rfl, rfl⟩ rfl rfl rfl rfl rfl (by kernel_rfl) Try.func8 closed
    (of_decide_eq_true (by kernel_rfl)) (by unfold Func.isWrapper; first | (rw [if_pos (by decide +kernel)]; kernel_rfl) | (rw [if_neg (by decide +kernel)]; exact ⟨rfl, rfl⟩))
    (fun os started H enc _ => lifted os started H enc)

theorem proved : Rows.HeapPlaysSaid := over
 #print axioms proved
end Go.Proofs.Ytohlnmenghbgbaa.HeapPlays
