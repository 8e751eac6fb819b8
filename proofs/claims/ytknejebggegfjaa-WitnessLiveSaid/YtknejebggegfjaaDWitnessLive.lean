/- PRINTED by row.py: the statement on 'WitnessLive'. -/
import Derived.Test.YtknejebggegfjaaZLaw22WitnessLive
import Derived.Test.YtknejebggegfjaaZRow
namespace Go.Proofs.Ytknejebggegfjaa.WitnessLive
open Go
open Go.ChangeShapes Go.WideShapes Go.ChangeAt Go.RowKit Go.Proofs.Ytknejebggegfjaa
set_option linter.unusedSimpArgs false
set_option linter.unusedVariables false

set_option maxRecDepth 100000 in
theorem lifted (os : Os) (started : os.Started) (H : Type) (enc : TypeId × Value → H) :
    ReturnsInHanded {} Try.checked os 7 .any (Rows.witnessLiveSpec.pre6 enc Try.prog Try.f7 Rows.witnessLiveRow.domain false) (Rows.witnessLiveSpec.post enc Try.prog Try.f7 false true false false) := by
  refine returnsInHanded_of_change_sized (C := Try.checked) PR_own started (by kernel_rfl) Try.func7
    (ChangeSpec.witness6 (enc := enc) (C := Try.checked) false ⟨#[], #[.agg #[.int .u64 0, .slice none 0 0, .slice none 0 0, .bool false], .int .u64 0, .int .u64 0, .agg #[.int .i64 0, .int .u64 0], .int .i64 0, .slice none 0 0, .bool false], []⟩ 8 (by kernel_rfl) (by kernel_rfl) (by kernel_rfl) (by kernel_rfl)) ?_
  intro W base args ds gs before hval hW _ hsz _
  obtain ⟨p, q, hA, hV, hb, hfz⟩ := id hW
  have hA' := hA
  rw [Try.params7] at hA'
  obtain ⟨v0, vs0, d0, ds0, p0, q0, hargs, hds, hps, h0, hA'⟩ := trodAll_cons hA'
  obtain ⟨v1, vs1, d1, ds1, p1, q1, rfl, rfl, rfl, h1, hA'⟩ := trodAll_cons hA'
  obtain ⟨v2, vs2, d2, ds2, p2, q2, rfl, rfl, rfl, h2, hA'⟩ := trodAll_cons hA'
  obtain ⟨v3, vs3, d3, ds3, p3, q3, rfl, rfl, rfl, h3, hA'⟩ := trodAll_cons hA'
  obtain ⟨v4, vs4, d4, ds4, p4, q4, rfl, rfl, rfl, h4, hA'⟩ := trodAll_cons hA'
  obtain ⟨v5, vs5, d5, ds5, p5, q5, rfl, rfl, rfl, h5, hA'⟩ := trodAll_cons hA'
  obtain ⟨v6, vs6, d6, ds6, p6, q6, rfl, rfl, rfl, h6, hA'⟩ := trodAll_cons hA'
  obtain ⟨rfl, rfl, rfl⟩ := trodAll_nil hA'
  obtain rfl : args = #[v0, v1, v2, v3, v4, v5, v6] := by cases args; simp_all
  have hv0 := hval 0 59 v0 (by rw [Try.params7]; rfl) rfl
  obtain ⟨su0, rp0, rl0, rc0, op0, ol0, oc0, ok0, ts0, ls0, os0, rfl, sa0⟩ := WArg_sum (okWide_agg2 (n := 4) (by kernel_rfl) hv0) (wsarg_of hsz (j := 0) (by rw [Try.params7]; rfl) (by rw [hds]; rfl) h0)
  have hv1 := hval 1 22 v1 (by rw [Try.params7]; rfl) rfl
  obtain ⟨m1, rfl, hm1⟩ := WArg_int Try.underlying22 (okWide_int Try.underlying22 hv1) (warg_of h1)
  have hv2 := hval 2 22 v2 (by rw [Try.params7]; rfl) rfl
  obtain ⟨m2, rfl, hm2⟩ := WArg_int Try.underlying22 (okWide_int Try.underlying22 hv2) (warg_of h2)
  have hv3 := hval 3 35 v3 (by rw [Try.params7]; rfl) rfl
  obtain ⟨m3, hm3, rfl⟩ := WArg_plain (okWide_agg2 (n := 2) (by kernel_rfl) hv3) (fun xs hx => WT_api_ID hx) (warg_of h3)
  have hv4 := hval 4 3 v4 (by rw [Try.params7]; rfl) rfl
  obtain ⟨m4, rfl, hm4⟩ := WArg_int Try.underlying3 (okWide_int Try.underlying3 hv4) (warg_of h4)
  have hv5 := hval 5 41 v5 (by rw [Try.params7]; rfl) rfl
  obtain ⟨pp5, n5, c5, xss5, rfl, hnc5, hc5, hlen5, hel5, hrd5⟩ := WArg_slice (k := 1) Try.underlying41 (by kernel_rfl) (by omega) (okWide_slice Try.underlying41 hv5) (warg_of h5)
  obtain ⟨l5, rfl, hl5⟩ := map_of (g := fun s => [.int .u64 s]) (Q := fun s : Int => IntKind.min .u64 ≤ s ∧ s ≤ IntKind.max .u64) fun xs hx => WT_int Try.underlying22 (hel5 xs hx).2
  rw [flatten_single] at hrd5
  have hn5 : n5 ≤ 9223372036854775807 := by have hmx : maxLen = 9223372036854775807 := (by decide); omega
  have hb5 := slice_reach hsz (j := 5) (B := 8) (by rw [Try.params7]; rfl) (by rw [hds]; rfl) Try.underlying41 (by kernel_rfl) h5
  have hv6 := hval 6 4 v6 (by rw [Try.params7]; rfl) rfl
  obtain ⟨m6, rfl⟩ := okWide_bool Try.underlying4 hv6
  refine (WitnessLive_ok sa0 hm1 hm2 hm3 hm4 hrd5 hb5 hl5  (K := fun v H' => v = .bool true ∧ Keep Nothing (hp W) H') (fun H' hk => ⟨rfl, hk⟩) W rfl).mono fun e W' ⟨v, he, hr, hv, hk⟩ => ?_
  subst hv
  exact ⟨_, he, post_of (t := 4) rfl (by rw [Try.params7]; decide +kernel) rfl Try.underlying4 hW (fun ds' h => by rcases ds' with _ | ⟨_, _ | ⟨_, _ | ⟨_, _ | ⟨_, _ | ⟨_, _ | ⟨_, _ | ⟨_, _ | _⟩⟩⟩⟩⟩⟩⟩ <;> first | exact ⟨rfl, rfl, rfl⟩ | (simp [Try.f7] at h)) (below_of hr hk)⟩

theorem lifts_eq : (Rows.witnessLiveRow.lifted == Try.pinned.checked.prog.liftsFinal) = true := by
  rewrite [lifts_none]
  kernel_rfl
theorem make_eq : (Try.pinned.checked.prog.make == some Rows.witnessLiveRow.make) = true := by
  rewrite [make_cut]
  kernel_rfl
theorem closed : joinedFacts Try.pinned.checked.prog 7 Try.f7 Rows.witnessLiveSpec Rows.witnessLiveRow = true := by
  unfold joinedFacts
  simp only [Bool.and_eq_true]
  repeat' apply And.intro
  all_goals first
    | with_reducible exact may_enter
    | with_reducible exact lifts_eq
    | with_reducible exact make_eq
    | kernel_rfl

theorem over : Rows.witnessLiveRow.holds Try.pinned (OpenSpec.ofChange Rows.witnessLiveSpec) :=
  OpenClaim.holds_of_wide 7 Try.f7 rfl rfl rfl rfl rfl rfl rfl ⟨rfl, rfl, rfl, rfl, rfl⟩ rfl rfl rfl rfl rfl (by kernel_rfl) Try.func7 closed
    (of_decide_eq_true (by kernel_rfl)) (by unfold Func.isWrapper; first | (rw [if_pos (by decide +kernel)]; kernel_rfl) | (rw [if_neg (by decide +kernel)]; exact ⟨rfl, rfl⟩))
    (fun os started H enc _ => lifted os started H enc)

theorem proved : Rows.WitnessLiveSaid := over
 #print axioms proved
end Go.Proofs.Ytknejebggegfjaa.WitnessLive
