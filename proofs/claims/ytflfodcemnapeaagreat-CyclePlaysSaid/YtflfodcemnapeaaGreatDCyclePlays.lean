/- PRINTED by row.py: the statement on 'CyclePlays'. -/
import Derived.Test.YtflfodcemnapeaaGreatZLaw16CyclePlays
import Derived.Test.YtflfodcemnapeaaGreatZRow
namespace Go.Proofs.YtflfodcemnapeaaGreat.CyclePlays
open Go
open Go.ChangeShapes Go.WideShapes Go.ChangeAt Go.RowKit Go.Proofs.YtflfodcemnapeaaGreat
set_option linter.unusedSimpArgs false
set_option linter.unusedVariables false

set_option maxRecDepth 100000 in
theorem lifted (os : Os) (started : os.Started) (H : Type) (enc : TypeId × Value → H) :
    ReturnsInHanded {} Tryz.checked os 3 .any (Rows.cyclePlaysSpec.pre6 enc Tryz.prog Tryz.f3 Rows.cyclePlaysRow.domain false) (Rows.cyclePlaysSpec.post enc Tryz.prog Tryz.f3 false true false false) := by
  refine returnsInHanded_of_change (C := Tryz.checked) PR_own started (by kernel_rfl) Tryz.func3
    (ChangeSpec.witness6 (enc := enc) (C := Tryz.checked) false ⟨#[], #[.agg #[.slice none 0 0, .slice none 0 0, .slice none 0 0], .int .i64 0, .int .i64 0, .int .i64 0, .int .i64 0, .slice none 0 0], []⟩ 8 (by kernel_rfl) (by kernel_rfl) (by kernel_rfl) (by kernel_rfl)) ?_
  intro W base args ds gs before hval hW _ _
  obtain ⟨p, q, hA, hV, hb, hfz⟩ := id hW
  have hA' := hA
  rw [Tryz.params3] at hA'
  obtain ⟨v0, vs0, d0, ds0, p0, q0, hargs, hds, hps, h0, hA'⟩ := trodAll_cons hA'
  obtain ⟨v1, vs1, d1, ds1, p1, q1, rfl, rfl, rfl, h1, hA'⟩ := trodAll_cons hA'
  obtain ⟨v2, vs2, d2, ds2, p2, q2, rfl, rfl, rfl, h2, hA'⟩ := trodAll_cons hA'
  obtain ⟨v3, vs3, d3, ds3, p3, q3, rfl, rfl, rfl, h3, hA'⟩ := trodAll_cons hA'
  obtain ⟨v4, vs4, d4, ds4, p4, q4, rfl, rfl, rfl, h4, hA'⟩ := trodAll_cons hA'
  obtain ⟨v5, vs5, d5, ds5, p5, q5, rfl, rfl, rfl, h5, hA'⟩ := trodAll_cons hA'
  obtain ⟨rfl, rfl, rfl⟩ := trodAll_nil hA'
  obtain rfl : args = #[v0, v1, v2, v3, v4, v5] := by cases args; simp_all
  have hv0 := hval 0 26 v0 (by rw [Tryz.params3]; rfl) rfl
  obtain ⟨rp0, rl0, rc0, op0, ol0, oc0, ip0, il0, ic0, g0, rfl, ga0, gok0⟩ := WArg_graph (okWide_agg (n := 3) (by kernel_rfl) hv0) (warg_of h0)
  have hv1 := hval 1 3 v1 (by rw [Tryz.params3]; rfl) rfl
  obtain ⟨m1, rfl, hm1⟩ := WArg_int Tryz.underlying3 (okWide_int Tryz.underlying3 hv1) (warg_of h1)
  have hv2 := hval 2 3 v2 (by rw [Tryz.params3]; rfl) rfl
  obtain ⟨m2, rfl, hm2⟩ := WArg_int Tryz.underlying3 (okWide_int Tryz.underlying3 hv2) (warg_of h2)
  have hv3 := hval 3 3 v3 (by rw [Tryz.params3]; rfl) rfl
  obtain ⟨m3, rfl, hm3⟩ := WArg_int Tryz.underlying3 (okWide_int Tryz.underlying3 hv3) (warg_of h3)
  have hv4 := hval 4 3 v4 (by rw [Tryz.params3]; rfl) rfl
  obtain ⟨m4, rfl, hm4⟩ := WArg_int Tryz.underlying3 (okWide_int Tryz.underlying3 hv4) (warg_of h4)
  have hv5 := hval 5 27 v5 (by rw [Tryz.params3]; rfl) rfl
  obtain ⟨pp5, n5, c5, xss5, rfl, hnc5, hc5, hlen5, hel5, hrd5⟩ := WArg_slice (k := 8) Tryz.underlying27 (by kernel_rfl) (by omega) (okWide_slice Tryz.underlying27 hv5) (warg_of h5)
  obtain ⟨l5, rfl, hl5⟩ := map_of (g := E_law16_Step.cells) (Q := E_law16_Step.ok) fun xs hx => WT_law16_Step (hel5 xs hx).2
  have hn5 : n5 ≤ 9223372036854775807 := by have hmx : maxLen = 9223372036854775807 := (by decide); omega
  refine (CyclePlays_ok ga0 gok0 hm1 hm2 hm3 hm4 hrd5 hn5 hl5 (K := fun v H' => v = .bool true ∧ Keep Nothing (hp W) H') (fun H' hk => ⟨rfl, hk⟩) W rfl).mono fun e W' ⟨v, he, hr, hv, hk⟩ => ?_
  subst hv
  exact ⟨_, he, post_of (t := 4) rfl (by rw [Tryz.params3]; decide +kernel) rfl Tryz.underlying4 hW (fun ds' h => by rcases ds' with _ | ⟨_, _ | ⟨_, _ | ⟨_, _ | ⟨_, _ | ⟨_, _ | ⟨_, _ | _⟩⟩⟩⟩⟩⟩ <;> first | exact ⟨rfl, rfl, rfl⟩ | (simp [Tryz.f3] at h)) (below_of hr hk)⟩

theorem lifts_eq : (Rows.cyclePlaysRow.lifted == Tryz.pinned.checked.prog.liftsFinal) = true := by
  rewrite [lifts_none]
  kernel_rfl
theorem make_eq : (Tryz.pinned.checked.prog.make == some Rows.cyclePlaysRow.make) = true := by
  rewrite [make_cut]
  kernel_rfl
theorem closed : joinedFacts Tryz.pinned.checked.prog 3 Tryz.f3 Rows.cyclePlaysSpec Rows.cyclePlaysRow = true := by
  unfold joinedFacts
  simp only [Bool.and_eq_true]
  repeat' apply And.intro
  all_goals first
    | with_reducible exact may_enter
    | with_reducible exact lifts_eq
    | with_reducible exact make_eq
    | kernel_rfl

theorem over : Rows.cyclePlaysRow.holds Tryz.pinned (OpenSpec.ofChange Rows.cyclePlaysSpec) :=
  OpenClaim.holds_of_wide 3 Tryz.f3 rfl rfl rfl rfl rfl rfl rfl ⟨rfl, rfl, rfl, rfl, rfl⟩ rfl rfl rfl rfl rfl (by kernel_rfl) Tryz.func3 closed
    (of_decide_eq_true (by kernel_rfl)) (by unfold Func.isWrapper; first | (rw [if_pos (by decide +kernel)]; kernel_rfl) | (rw [if_neg (by decide +kernel)]; exact ⟨rfl, rfl⟩))
    (fun os started H enc _ => lifted os started H enc)

theorem proved : Rows.CyclePlaysSaid := over
 #print axioms proved
end Go.Proofs.YtflfodcemnapeaaGreat.CyclePlays
