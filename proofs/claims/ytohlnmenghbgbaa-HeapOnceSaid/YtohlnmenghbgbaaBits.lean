/- Bits of small words. No condition. -/
import Derived.Test.YtohlnmenghbgbaaShF0
namespace Go.Proofs.Ytohlnmenghbgbaa
set_option linter.unusedSimpArgs false
set_option linter.unusedVariables false
set_option linter.unnecessarySimpa false
open Go

theorem shr16 {t k : Nat} (hk : k < 16) : shrI .u16 (t : Int) (k : Int) = ((t / 2 ^ k : Nat) : Int) := by
  unfold shrI
  rw [Int.toNat_natCast, show IntKind.u16.bits = 16 by rfl, Nat.min_eq_left (by omega)]
  rw [Int.fdiv_eq_ediv_of_nonneg _ (by exact_mod_cast Nat.zero_le _)]
  norm_cast

theorem wrap16 {t : Nat} (h : t < 65536) : IntKind.u16.wrap (t : Int) = t := by rw [wrap_u16]; omega

theorem and16_one {t : Nat} (h : t < 65536) : bitOp .and .u16 (t : Int) 1 = ((t % 2 : Nat) : Int) := by
  unfold bitOp
  have e : (BitVec.ofInt 16 (t : Int) &&& BitVec.ofInt 16 1).toNat = t % 2 := by
    rw [BitVec.toNat_and]
    simp only [BitVec.ofInt_natCast, BitVec.toNat_ofNat]
    rw [show (BitVec.ofInt 16 1).toNat = 1 by decide, Nat.mod_eq_of_lt (by omega), Nat.and_one_is_mod]
  show IntKind.u16.wrap ((BitVec.ofInt 16 (t : Int) &&& BitVec.ofInt 16 1).toNat : Int) = _
  rw [e]
  exact wrap16 (by omega)

/-- A bit, as the code reads it. -/
theorem bit16 {t k : Nat} (h : t < 65536) (hk : k < 16) : bitOp .and .u16 (shrI .u16 (t : Int) (k : Int)) 1 = if t.testBit k then 1 else 0 := by
  rw [shr16 hk, and16_one (Nat.lt_of_le_of_lt (Nat.div_le_self _ _) h), Nat.testBit_eq_decide_div_mod_eq]
  have := Nat.mod_two_eq_zero_or_one (t / 2 ^ k)
  rcases this with e | e <;> simp [e]

theorem shl16 {k : Nat} (hk : k < 16) : shlI .u16 1 (k : Int) = ((2 ^ k : Nat) : Int) := by
  unfold shlI
  rw [Int.toNat_natCast, show IntKind.u16.bits = 16 by rfl, Nat.min_eq_left (by omega), Int.one_mul]
  have h2 : 2 ^ k < 65536 := Nat.pow_lt_pow_right (by omega) (show k < 16 by omega)
  have e : ((2 : Int) ^ k) = ((2 ^ k : Nat) : Int) := by norm_cast
  rw [e]
  exact wrap16 h2

theorem or16 {t k : Nat} (h : t < 65536) (hk : k < 16) : bitOp .or .u16 (t : Int) (shlI .u16 1 (k : Int)) = ((t ||| 2 ^ k : Nat) : Int) := by
  have h2 : 2 ^ k < 65536 := Nat.pow_lt_pow_right (by omega) (show k < 16 by omega)
  rw [shl16 hk]
  show IntKind.u16.wrap ((BitVec.ofInt 16 (t : Int) ||| BitVec.ofInt 16 ((2 ^ k : Nat) : Int)).toNat : Int) = _
  have e : (BitVec.ofInt 16 (t : Int) ||| BitVec.ofInt 16 ((2 ^ k : Nat) : Int)).toNat = t ||| 2 ^ k := by
    rw [BitVec.toNat_or]
    simp only [BitVec.ofInt_natCast, BitVec.toNat_ofNat]
    rw [Nat.mod_eq_of_lt (by omega), Nat.mod_eq_of_lt (by omega)]
  rw [e]
  exact wrap16 (Nat.or_lt_two_pow (n := 16) h h2)

/-- A bit struck. -/
def strike (t k : Nat) : Nat := t &&& (65535 - 2 ^ k)
theorem andNot16 {t k : Nat} (h : t < 65536) (hk : k < 16) : bitOp .andNot .u16 (t : Int) (shlI .u16 1 (k : Int)) = ((strike t k : Nat) : Int) := by
  have h2 : 2 ^ k < 65536 := Nat.pow_lt_pow_right (by omega) (show k < 16 by omega)
  rw [shl16 hk]
  show IntKind.u16.wrap ((BitVec.ofInt 16 (t : Int) &&& ~~~ BitVec.ofInt 16 ((2 ^ k : Nat) : Int)).toNat : Int) = _
  have e : (BitVec.ofInt 16 (t : Int) &&& ~~~ BitVec.ofInt 16 ((2 ^ k : Nat) : Int)).toNat = strike t k := by
    rw [BitVec.toNat_and, BitVec.toNat_not]
    simp only [BitVec.ofInt_natCast, BitVec.toNat_ofNat]
    rw [Nat.mod_eq_of_lt (by omega), Nat.mod_eq_of_lt (by omega)]
    rfl
  rw [e]
  exact wrap16 (Nat.lt_of_le_of_lt Nat.and_le_left h)

theorem testBit_strike {t k j : Nat} (h : t < 65536) (hk : k < 16) : (strike t k).testBit j = (t.testBit j && decide (j ≠ k)) := by
  unfold strike
  rw [Nat.testBit_and]
  have h2 : 2 ^ k < 65536 := Nat.pow_lt_pow_right (by omega) (show k < 16 by omega)
  have e : (65535 - 2 ^ k).testBit j = (decide (j < 16) && !(2 ^ k).testBit j) := by
    have := @Nat.testBit_two_pow_sub_succ (2 ^ k) 16 (by omega) j
    rw [show (2 : Nat) ^ 16 - (2 ^ k + 1) = 65535 - 2 ^ k by omega] at this
    exact this
  rw [e, Nat.testBit_two_pow]
  by_cases hj : j < 16
  · by_cases hjk : k = j
    · subst hjk; simp
    · simp [hj, hjk, Ne.symm hjk]
  · have : t.testBit j = false := Nat.testBit_lt_two_pow (Nat.lt_of_lt_of_le h (by rw [show 65536 = 2 ^ 16 by rfl]; exact Nat.pow_le_pow_right (by omega) (by omega)))
    simp [this]

theorem testBit_or_pow {t k j : Nat} : (t ||| 2 ^ k).testBit j = (t.testBit j || decide (j = k)) := by
  rw [Nat.testBit_or, Nat.testBit_two_pow]
  by_cases h : k = j
  · subst h; simp
  · simp [h, Ne.symm h]

/-- How many bits. -/
def pop : Nat → Nat → Nat
  | 0, _ => 0
  | n + 1, t => t % 2 + pop n (t / 2)

theorem pop_zero : ∀ {n : Nat}, pop n 0 = 0
  | 0 => rfl
  | n + 1 => by simp [pop, pop_zero (n := n)]
theorem pop_le : ∀ {n t : Nat}, pop n t ≤ n
  | 0, _ => Nat.le_refl _
  | n + 1, t => by have := pop_le (n := n) (t := t / 2); simp only [pop]; omega
theorem pop_more : ∀ {n m t : Nat}, t < 2 ^ n → n ≤ m → pop m t = pop n t
  | 0, m, t, h, _ => by
    obtain rfl : t = 0 := by simpa using h
    rw [pop_zero, pop_zero]
  | n + 1, 0, t, _, hm => by omega
  | n + 1, m + 1, t, h, hm => by
    simp only [pop]
    rw [pop_more (n := n) (m := m) (by rw [Nat.pow_succ] at h; omega) (by omega)]
theorem pop_or : ∀ {n k t : Nat}, k < n → t.testBit k = false → pop n (t ||| 2 ^ k) = pop n t + 1
  | 0, k, t, h, _ => absurd h (Nat.not_lt_zero k)
  | n + 1, 0, t, _, hb => by
    rw [Nat.testBit_zero, decide_eq_false_iff_not] at hb
    have e1 : (t ||| 2 ^ 0) % 2 = 1 := by
      have := Nat.testBit_zero (t ||| 2 ^ 0)
      rw [testBit_or_pow] at this
      simpa using this.symm
    have e2 : (t ||| 2 ^ 0) / 2 = t / 2 := by
      apply Nat.eq_of_testBit_eq
      intro j
      rw [Nat.testBit_div_two, testBit_or_pow, Nat.testBit_div_two]
      simp
    simp only [pop, e1, e2]
    omega
  | n + 1, k + 1, t, h, hb => by
    have e1 : (t ||| 2 ^ (k + 1)) % 2 = t % 2 := by
      have h1 : decide ((t ||| 2 ^ (k + 1)) % 2 = 1) = decide (t % 2 = 1) := by
        have h1 := testBit_or_pow (t := t) (k := k + 1) (j := 0)
        rwa [Nat.testBit_zero, Nat.testBit_zero, show decide (0 = k + 1) = false by simp, Bool.or_false] at h1
      rw [decide_eq_decide] at h1
      have a := Nat.mod_two_eq_zero_or_one t
      have b := Nat.mod_two_eq_zero_or_one (t ||| 2 ^ (k + 1))
      omega
    have e2 : (t ||| 2 ^ (k + 1)) / 2 = t / 2 ||| 2 ^ k := by
      apply Nat.eq_of_testBit_eq
      intro j
      rw [Nat.testBit_div_two, testBit_or_pow, testBit_or_pow, Nat.testBit_div_two]
      simp
    have := pop_or (n := n) (k := k) (t := t / 2) (by omega) (by rw [Nat.testBit_div_two]; exact hb)
    simp only [pop, e1, e2, this]
    omega
theorem pop_strike {n k t : Nat} (hk : k < n) (hn : n ≤ 16) (ht : t < 65536) (hb : t.testBit k = true) : pop n (strike t k) + 1 = pop n t := by
  have e : strike t k ||| 2 ^ k = t := by
    apply Nat.eq_of_testBit_eq
    intro j
    rw [testBit_or_pow, testBit_strike ht (by omega)]
    by_cases h : j = k
    · subst h; simp [hb]
    · simp [h]
  have := pop_or (n := n) (k := k) (t := strike t k) hk (by rw [testBit_strike ht (by omega)]; simp)
  rw [e] at this
  omega
theorem pop_eq_zero : ∀ {n t : Nat}, t < 2 ^ n → (pop n t = 0 ↔ t = 0)
  | 0, t, h => by
    obtain rfl : t = 0 := by simpa using h
    simp [pop]
  | n + 1, t, h => by
    have := pop_eq_zero (n := n) (t := t / 2) (by rw [Nat.pow_succ] at h; omega)
    simp only [pop]
    omega
theorem pop_full : ∀ {n t : Nat}, t < 2 ^ n → (pop n t = n ↔ t = 2 ^ n - 1)
  | 0, t, h => by
    obtain rfl : t = 0 := by simpa using h
    simp [pop]
  | n + 1, t, h => by
    have h1 := pop_full (n := n) (t := t / 2) (by rw [Nat.pow_succ] at h; omega)
    have h2 := pop_le (n := n) (t := t / 2)
    have h3 := Nat.two_pow_pos n
    rw [Nat.pow_succ] at h ⊢
    simp only [pop]
    omega

end Go.Proofs.Ytohlnmenghbgbaa
