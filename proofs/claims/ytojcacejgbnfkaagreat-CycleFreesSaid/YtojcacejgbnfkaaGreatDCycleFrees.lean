/- PRINTED by row.py: the statement on 'CycleFrees'. -/
import Derived.Test.YtojcacejgbnfkaaGreatZLaw16CycleFrees
import Derived.Test.YtojcacejgbnfkaaGreatZRow
namespace Go.Proofs.YtojcacejgbnfkaaGreat.CycleFrees
open Go
open Go.ChangeShapes Go.WideShapes Go.ChangeAt Go.RowKit Go.Proofs.YtojcacejgbnfkaaGreat
set_option linter.unusedSimpArgs false
set_option linter.unusedVariables false

set_option maxRecDepth 100000 in
theorem lifted (os : Os) (started : os.Started) (H : Type) (enc : TypeId × Value → H) :
    ReturnsInHanded {} Tryz.checked os 13 .any (Rows.cycleFreesSpec.pre6 enc Tryz.prog Tryz.f13 Rows.cycleFreesRow.domain false) (Rows.cycleFreesSpec.post enc Tryz.prog Tryz.f13 false true false false) := by
  refine returnsInHanded_of_change (C := Tryz.checked) PR_own started (by kernel_rfl) Tryz.func13
    (ChangeSpec.witness6 (enc := enc) (C := Tryz.checked) false ⟨#[], #[.int .i64 0, .int .i64 0, .int .i64 0, .int .i64 0, .slice none 0 0], []⟩ 8 (by kernel_rfl) (by kernel_rfl) (by kernel_rfl) (by kernel_rfl)) ?_
  intro W base args ds gs before hval hW _ _
  obtain ⟨p, q, hA, hV, hb, hfz⟩ := id hW
  have hA' := hA
  rw [Tryz.params13] at hA'
  obtain ⟨v0, vs0, d0, ds0, p0, q0, hargs, hds, hps, h0, hA'⟩ := trodAll_cons hA'
  obtain ⟨v1, vs1, d1, ds1, p1, q1, rfl, rfl, rfl, h1, hA'⟩ := trodAll_cons hA'
  obtain ⟨v2, vs2, d2, ds2, p2, q2, rfl, rfl, rfl, h2, hA'⟩ := trodAll_cons hA'
  obtain ⟨v3, vs3, d3, ds3, p3, q3, rfl, rfl, rfl, h3, hA'⟩ := trodAll_cons hA'
  obtain ⟨v4, vs4, d4, ds4, p4, q4, rfl, rfl, rfl, h4, hA'⟩ := trodAll_cons hA'
  obtain ⟨rfl, rfl, rfl⟩ := trodAll_nil hA'
  obtain rfl : args = #[v0, v1, v2, v3, v4] := by cases args; simp_all
  have hv0 := hval 0 3 v0 (by rw [Tryz.params13]; rfl) rfl
  obtain ⟨m0, rfl, hm0⟩ := WArg_int Tryz.underlying3 (okWide_int Tryz.underlying3 hv0) (warg_of h0)
  have hv1 := hval 1 3 v1 (by rw [Tryz.params13]; rfl) rfl
  obtain ⟨m1, rfl, hm1⟩ := WArg_int Tryz.underlying3 (okWide_int Tryz.underlying3 hv1) (warg_of h1)
  have hv2 := hval 2 3 v2 (by rw [Tryz.params13]; rfl) rfl
  obtain ⟨m2, rfl, hm2⟩ := WArg_int Tryz.underlying3 (okWide_int Tryz.underlying3 hv2) (warg_of h2)
  have hv3 := hval 3 3 v3 (by rw [Tryz.params13]; rfl) rfl
  obtain ⟨m3, rfl, hm3⟩ := WArg_int Tryz.underlying3 (okWide_int Tryz.underlying3 hv3) (warg_of h3)
  have hv4 := hval 4 129 v4 (by rw [Tryz.params13]; rfl) rfl
  obtain ⟨pp4, n4, c4, xss4, rfl, hnc4, hc4, hlen4, hel4, hrd4⟩ := WArg_slice (k := 5) Tryz.underlying129 (by kernel_rfl) (by omega) (okWide_slice Tryz.underlying129 hv4) (warg_of h4)
  obtain ⟨l4, rfl, hl4⟩ := map_of (g := E_law16_Move.cells) (Q := E_law16_Move.ok) fun xs hx => WT_law16_Move (hel4 xs hx).2
  have hn4 : n4 ≤ 9223372036854775807 := by have hmx : maxLen = 9223372036854775807 := (by decide); omega
  refine (CycleFrees_ok hm0 hm1 hm2 hm3 hrd4 hn4 hl4 (K := fun v H' => v = .bool true ∧ Keep Nothing (hp W) H') (fun H' hk => ⟨rfl, hk⟩) W rfl).mono fun e W' ⟨v, he, hr, hv, hk⟩ => ?_
  subst hv
  exact ⟨_, he, post_of (t := 4) rfl (by rw [Tryz.params13]; decide +kernel) rfl Tryz.underlying4 hW (fun ds' h => by rcases ds' with _ | ⟨_, _ | ⟨_, _ | ⟨_, _ | ⟨_, _ | ⟨_, _ | _⟩⟩⟩⟩⟩ <;> first | exact ⟨rfl, rfl, rfl⟩ | (simp [Tryz.f13] at h)) (below_of hr hk)⟩

theorem lifts_eq : (Rows.cycleFreesRow.lifted == Tryz.pinned.checked.prog.liftsFinal) = true := by
  rewrite [lifts_none]
  kernel_rfl
theorem make_eq : (Tryz.pinned.checked.prog.make == some Rows.cycleFreesRow.make) = true := by
  rewrite [make_cut]
  kernel_rfl
theorem closed : joinedFacts Tryz.pinned.checked.prog 13 Tryz.f13 Rows.cycleFreesSpec Rows.cycleFreesRow = true := by
  unfold joinedFacts
  simp only [Bool.and_eq_true]
  repeat' apply And.intro
  all_goals first
    | with_reducible exact may_enter
    | with_reducible exact lifts_eq
    | with_reducible exact make_eq
    | kernel_rfl

theorem over : Rows.cycleFreesRow.holds Tryz.pinned (OpenSpec.ofChange Rows.cycleFreesSpec) :=
  OpenClaim.holds_of_wide 13 Tryz.f13 rfl rfl rfl rfl rfl rfl rfl ⟨rfl, rfl, rfl, rfl, rfl⟩ rfl rfl rfl rfl rfl (by kernel_rfl) Tryz.func13 closed
    (of_decide_eq_true (by kernel_rfl)) (by unfold Func.isWrapper; first | (rw [if_pos (by decide +kernel)]; kernel_rfl) | (rw [if_neg (by decide +kernel)]; exact ⟨rfl, rfl⟩))
    (fun os started H enc _ => lifted os started H enc)

theorem proved : Rows.CycleFreesSaid := over
 #print axioms proved
end Go.Proofs.YtojcacejgbnfkaaGreat.CycleFrees
