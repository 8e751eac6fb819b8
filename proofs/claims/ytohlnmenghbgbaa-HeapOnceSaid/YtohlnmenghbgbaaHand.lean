/- What several statements use: any number as one of 0 to m - 1. No condition. -/
import Derived.Test.YtohlnmenghbgbaaDenT
import Derived.Test.YtohlnmenghbgbaaDenHand
namespace Go.Proofs.Ytohlnmenghbgbaa
set_option linter.unusedSimpArgs false
set_option linter.unusedVariables false
open Go

/-- Any number as one of 0 to m - 1. -/
def pick (n m : Int) : Int := n % m

theorem pick_lt {n m : Int} (h : 0 < m) : 0 ≤ pick n m ∧ pick n m < m := ⟨Int.emod_nonneg _ (by omega), Int.emod_lt_of_pos _ h⟩

theorem Pick_ok {n m : Int} {H : Hp} {K : Value → Hp → Prop} (h0 : 0 < m) (h1 : m < 4611686018427387904) (hK : K (.int .i64 (pick n m)) H) : hcall PR f_hand_Pick ⟨[.int .i64 n, .int .i64 m]⟩ H K := by
  apply den_hand_Pick
  unfold B_hand_Pick
  have hm : m ≠ 0 := by omega
  refine ⟨hm, ?_⟩
  have ht := @Int.tmod_eq_emod n m
  have e1 := Int.emod_nonneg n hm
  have e2 := Int.emod_lt_of_pos n h0
  unfold pick at hK
  by_cases hc : 0 ≤ n ∨ m ∣ n
  · rw [if_pos hc, Int.natCast_zero, Int.sub_zero] at ht
    rw [ht]
    exact bif_neg (by omega) hK
  · rw [if_neg hc] at ht
    have hab : ((m.natAbs : Nat) : Int) = m := by omega
    rw [hab] at ht
    rw [ht]
    refine bif_pos (by omega) ?_
    have e : n % m - m + m = n % m := by omega
    rw [e, wrap_i64 (by omega) (by omega)]
    exact hK

end Go.Proofs.Ytohlnmenghbgbaa
