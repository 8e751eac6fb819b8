/- Equality of plain structs and arrays. No condition. -/
import Derived.Test.YtohlnmenghbgbaaShF0
import Derived.DeepKeys
namespace Go.Proofs.Ytohlnmenghbgbaa
set_option linter.unusedSimpArgs false
set_option linter.unusedVariables false
open Go

theorem aggEq_ok {P : Program} {t : TypeId} {m D D' : Nat} {xs ys : Array Value} {la lb : List Lit} {H : Hp} {K : Value → Prop} (hk : P.keyTypeAt m t = true) (hm : m ≤ 10000) (hg : P.eqGuardType P.depth t = false)
    (fx : (Value.agg xs).formed P t = true) (fy : (Value.agg ys).formed P t = true) (h1 : P.keyLits D t xs.toList = some la) (h2 : P.keyLits D' t ys.toList = some lb) (hK : ∀ r : Bool, (r = true ↔ la = lb) → K (.bool r)) :
    evR P (aggEq .eql t xs ys) H K := by
  have hrun : ∀ w : World, ∃ r : Bool, (aggEq .eql t xs ys).run P w = .ok (.bool r) w ∧ (r = true ↔ la = lb) := fun w => by
    obtain ⟨r, hr, hiff⟩ := run_equalIn_deep (10000 - m) m t hk w D D' (.agg xs) (.agg ys) la lb fx fy h1 h2
    have e : 10000 - m + m = 10000 := by omega
    rw [e] at hr
    have hr' : (Op.equal t (.agg xs) (.agg ys)).run P w = .ok r w := hr
    exact ⟨r, by simp [aggEq, eqGuard, binOp, hg, hr', Result.andThen], hiff⟩
  rcases Classical.em (la = lb) with h | h
  · exact ⟨.bool true, fun w _ => by
      obtain ⟨r, hr, hiff⟩ := hrun w
      rw [hr, hiff.2 h], hK true ⟨fun _ => h, fun _ => rfl⟩⟩
  · refine ⟨.bool false, fun w _ => ?_, hK false ⟨fun h0 => absurd h0 (by decide), fun h' => absurd h' h⟩⟩
    obtain ⟨r, hr, hiff⟩ := hrun w
    cases r
    · exact hr
    · exact absurd (hiff.1 rfl) h

end Go.Proofs.Ytohlnmenghbgbaa
