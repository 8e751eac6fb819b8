/- Chapter 7's example, run. No condition. -/
import Derived.Test.YtdeihhfhcnhmfabArOk
import Derived.Test.YtdeihhfhcnhmfabHand
namespace Go.Proofs.Ytdeihhfhcnhmfab
set_option linter.unusedSimpArgs false
set_option linter.unusedVariables false
set_option linter.unnecessarySimpa false
open Go

theorem known7_ok {H : Hp} {K : Value → Hp → Prop} (hK : ∀ H', Keep Nothing H H' → K (.bool true) H') : hcall PR f_law7_known ⟨[]⟩ H K := by
  apply den_law7_known
  unfold B_law7_known
  refine arenaNew_ok (n := 2) (by omega) (by omega) fun a F1 H1 s1 g1 => ?_
  have k1 : allOk [noBlk, noBlk] := allOk.new (n := 2)
  have s1 : (Arn a [noBlk, noBlk]).holds F1 H1 := s1
  simp only [tup2_mk, asP_mk, asI_mk', Option.isNone_some, cond_false]
  refine bif_neqf rfl ?_
  have f1 : ArFits [noBlk, noBlk] (clsOf 3) 0 0 := by unfold ArFits First; decide
  refine Alloc_at s1 k1 (by decide) (by decide) f1 fun F2 H2 s2 g2 => ?_
  have k2 := k1.took (clsOf_cls (by decide)) f1
  have e2 : tookAt [noBlk, noBlk] (clsOf 3) 0 0 = [⟨4, 1⟩, noBlk] := by rfl
  rw [e2] at s2 k2
  simp only [tup2_mk, asI_mk']
  have f2 : ArFits [⟨4, 1⟩, noBlk] (clsOf 4) 0 1 := by unfold ArFits First; decide
  refine Alloc_at s2 k2 (by decide) (by decide) f2 fun F3 H3 s3 g3 => ?_
  have k3 := k2.took (clsOf_cls (by decide)) f2
  have e3 : tookAt [⟨4, 1⟩, noBlk] (clsOf 4) 0 1 = [⟨4, 3⟩, noBlk] := by rfl
  rw [e3] at s3 k3
  simp only [tup2_mk, asI_mk']
  have f3 : ArFits [⟨4, 3⟩, noBlk] (clsOf 9) 1 0 := by unfold ArFits First; decide
  refine Alloc_at s3 k3 (by decide) (by decide) f3 fun F4 H4 s4 g4 => ?_
  have k4 := k3.took (clsOf_cls (by decide)) f3
  have e4 : tookAt [⟨4, 3⟩, noBlk] (clsOf 9) 1 0 = [⟨4, 3⟩, ⟨16, 1⟩] := by rfl
  rw [e4] at s4 k4
  simp only [tup2_mk, asI_mk']
  refine Alloc_oom s4 k4 (by decide) (by decide) (by unfold ArNoFit; decide) ?_
  simp only [tup2_mk, asI_mk']
  refine bif_eq (by decide) (bif_eq (by decide) (bif_eq (by decide) (bif_eq rfl (bif_eq rfl (bif_eq rfl ?_)))))
  exact hK H4 (((g1.trans g2).trans g3).trans g4).keep

end Go.Proofs.Ytdeihhfhcnhmfab
