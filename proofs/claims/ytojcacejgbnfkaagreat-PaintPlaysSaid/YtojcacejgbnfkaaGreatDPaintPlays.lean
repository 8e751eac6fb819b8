/- PRINTED by row.py: the statement on 'PaintPlays'. -/
import Derived.Test.YtojcacejgbnfkaaGreatZLaw11PaintPlays
import Derived.Test.YtojcacejgbnfkaaGreatZRow
namespace Go.Proofs.YtojcacejgbnfkaaGreat.PaintPlays
open Go
open Go.ChangeShapes Go.WideShapes Go.ChangeAt Go.RowKit Go.Proofs.YtojcacejgbnfkaaGreat
set_option linter.unusedSimpArgs false
set_option linter.unusedVariables false

set_option maxRecDepth 100000 in
theorem lifted (os : Os) (started : os.Started) (H : Type) (enc : TypeId × Value → H) :
    ReturnsInHanded {} Tryz.checked os 5 .any (Rows.paintPlaysSpec.pre6 enc Tryz.prog Tryz.f5 Rows.paintPlaysRow.domain false) (Rows.paintPlaysSpec.post enc Tryz.prog Tryz.f5 false true false false) := by
  refine returnsInHanded_of_change (C := Tryz.checked) PR_own started (by kernel_rfl) Tryz.func5
    (ChangeSpec.witness6 (enc := enc) (C := Tryz.checked) false ⟨#[], #[.agg #[.slice none 0 0, .slice none 0 0, .slice none 0 0], .int .i64 0, .slice none 0 0], []⟩ 8 (by kernel_rfl) (by kernel_rfl) (by kernel_rfl) (by kernel_rfl)) ?_
  intro W base args ds gs before hval hW _ _
  obtain ⟨p, q, hA, hV, hb, hfz⟩ := id hW
  have hA' := hA
  rw [Tryz.params5] at hA'
  obtain ⟨v0, vs0, d0, ds0, p0, q0, hargs, hds, hps, h0, hA'⟩ := trodAll_cons hA'
  obtain ⟨v1, vs1, d1, ds1, p1, q1, rfl, rfl, rfl, h1, hA'⟩ := trodAll_cons hA'
  obtain ⟨v2, vs2, d2, ds2, p2, q2, rfl, rfl, rfl, h2, hA'⟩ := trodAll_cons hA'
  obtain ⟨rfl, rfl, rfl⟩ := trodAll_nil hA'
  obtain rfl : args = #[v0, v1, v2] := by cases args; simp_all
  have hv0 := hval 0 26 v0 (by rw [Tryz.params5]; rfl) rfl
  obtain ⟨rp0, rl0, rc0, op0, ol0, oc0, ip0, il0, ic0, g0, rfl, ga0, gok0⟩ := WArg_graph (okWide_agg (n := 3) (by kernel_rfl) hv0) (warg_of h0)
  have hv1 := hval 1 3 v1 (by rw [Tryz.params5]; rfl) rfl
  obtain ⟨m1, rfl, hm1⟩ := WArg_int Tryz.underlying3 (okWide_int Tryz.underlying3 hv1) (warg_of h1)
  have hv2 := hval 2 72 v2 (by rw [Tryz.params5]; rfl) rfl
  obtain ⟨pp2, n2, c2, xss2, rfl, hnc2, hc2, hlen2, hel2, hrd2⟩ := WArg_slice (k := 6) Tryz.underlying72 (by kernel_rfl) (by omega) (okWide_slice Tryz.underlying72 hv2) (warg_of h2)
  obtain ⟨l2, rfl, hl2⟩ := map_of (g := E_law11_Step.cells) (Q := E_law11_Step.ok) fun xs hx => WT_law11_Step (hel2 xs hx).2
  have hn2 : n2 ≤ 9223372036854775807 := by have hmx : maxLen = 9223372036854775807 := (by decide); omega
  refine (PaintPlays_ok ga0 gok0 hm1 hrd2 hn2 hl2 (K := fun v H' => v = .bool true ∧ Keep Nothing (hp W) H') (fun H' hk => ⟨rfl, hk⟩) W rfl).mono fun e W' ⟨v, he, hr, hv, hk⟩ => ?_
  subst hv
  exact ⟨_, he, post_of (t := 4) rfl (by rw [Tryz.params5]; decide +kernel) rfl Tryz.underlying4 hW (fun ds' h => by rcases ds' with _ | ⟨_, _ | ⟨_, _ | ⟨_, _ | _⟩⟩⟩ <;> first | exact ⟨rfl, rfl, rfl⟩ | (simp [Tryz.f5] at h)) (below_of hr hk)⟩

theorem lifts_eq : (Rows.paintPlaysRow.lifted == Tryz.pinned.checked.prog.liftsFinal) = true := by
  rewrite [lifts_none]
  kernel_rfl
theorem make_eq : (Tryz.pinned.checked.prog.make == some Rows.paintPlaysRow.make) = true := by
  rewrite [make_cut]
  kernel_rfl
theorem closed : joinedFacts Tryz.pinned.checked.prog 5 Tryz.f5 Rows.paintPlaysSpec Rows.paintPlaysRow = true := by
  unfold joinedFacts
  simp only [Bool.and_eq_true]
  repeat' apply And.intro
  all_goals first
    | with_reducible exact may_enter
    | with_reducible exact lifts_eq
    | with_reducible exact make_eq
    | kernel_rfl

theorem over : Rows.paintPlaysRow.holds Tryz.pinned (OpenSpec.ofChange Rows.paintPlaysSpec) :=
  OpenClaim.holds_of_wide 5 Tryz.f5 rfl rfl rfl rfl rfl rfl rfl ⟨rfl, rfl, rfl, rfl, rfl⟩ rfl rfl rfl rfl rfl (by kernel_rfl) Tryz.func5 closed
    (of_decide_eq_true (by kernel_rfl)) (by unfold Func.isWrapper; first | (rw [if_pos (by decide +kernel)]; kernel_rfl) | (rw [if_neg (by decide +kernel)]; exact ⟨rfl, rfl⟩))
    (fun os started H enc _ => lifted os started H enc)

theorem proved : Rows.PaintPlaysSaid := over
 #print axioms proved
end Go.Proofs.YtojcacejgbnfkaaGreat.PaintPlays
