/- Chapter 10's statements, run: GreyBack, GreyKnown, GreyPlays answer true and turn nothing that was there. No condition. -/
import Derived.Test.YtdeihhfhcnhmfaaGrey
import Derived.Test.YtdeihhfhcnhmfaaHand
import Derived.Test.YtdeihhfhcnhmfaaRow
namespace Go.Proofs.Ytdeihhfhcnhmfaa
set_option linter.unusedSimpArgs false
set_option linter.unusedVariables false
open Go

theorem known10_ok {H : Hp} {K : Value → Hp → Prop} (hK : ∀ H', Keep Nothing H H' → K (.bool true) H') : hcall PR f_law10_known ⟨[]⟩ H K := by
  apply den_law10_known
  unfold B_law10_known
  refine New_int_ok (by omega) (by omega) fun b H1 F1 s1 k1 n1 => ?_
  simp only [tup2_mk, asP_mk, asI_mk', asB_mk, Option.isNone_some, cond_false]
  refine bif_neqf rfl ?_
  refine Push_int_ok (l := []) s1 (by omega) (fun h => absurd h (by decide)) fun _ H2 F2 s2 k2 n2 => ?_
  simp only [asB_mk]
  refine Push_int_ok s2 (by omega) (fun h => absurd h (by decide)) fun _ H3 F3 s3 k3 n3 => ?_
  simp only [asB_mk]
  refine Push_int_ok s3 (by omega) (fun _ H4 s4 k4 => ?_) (fun h => absurd h (by decide))
  simp only [asB_mk]
  refine Over_int_ok s4 ?_
  simp only [asB_mk]
  refine Pop_int_ok (l := [1]) s4 (by decide) fun H5 s5 k5 => ?_
  simp only [tup2_mk, asI_mk', asB_mk, cond_true, Bool.not_false]
  refine bif_eq rfl ?_
  refine Len_int_ok s5 ?_
  simp only [asI_mk']
  refine hK H5 ?_
  have e3 : ∀ c, F3 c → H c = none := fun c h => (n3 c h).elim (fun h => (n2 c h).elim (n1 c) fun h => Classical.byContradiction fun e => k1.dom c e h) fun h => Classical.byContradiction fun e => k2.dom c (k1.dom c e) h
  have e2 : ∀ c, F2 c → H c = none := fun c h => (n2 c h).elim (n1 c) fun h => Classical.byContradiction fun e => k1.dom c e h
  exact (((k1.trans k2 fun c h => .inr (n1 c h)).trans k3 fun c h => .inr (e2 c h)).trans k4 fun c h => .inr (e3 c h)).trans k5 fun c h => .inr (e3 c h)

/-- What is new stays new, seen from further back. -/
theorem Keep.fresh {F G G' : Nat → Prop} {H H' : Hp} (k : Keep F H H') (hn : ∀ c, G' c → G c ∨ H' c = none) (hg : ∀ c, G c → H c = none) : ∀ c, G' c → H c = none := fun c h =>
  (hn c h).elim (hg c) fun h => Classical.byContradiction fun e => k.dom c e h

theorem strs_get {l : List ByteArray} {i : Nat} (h : i < l.length) : (l.map fun x => Value.string x)[i]? = some (.string l[i]) := by
  rw [List.getElem?_map, List.getElem?_eq_getElem h]
  rfl

theorem GreyBack_ok {most : Int} {p : Option Addr} {n c : Nat} {l : List ByteArray} {H : Hp} {K : Value → Hp → Prop} (hm : IntKind.min .i64 ≤ most ∧ most ≤ IntKind.max .i64) (hl : Rd H 1 p n (l.map fun x => Value.string x)) (hn : n ≤ 9223372036854775807) (hQ : ∀ y ∈ l, y.size ≤ maxLen)
    (hK : ∀ H', Keep Nothing H H' → K (.bool true) H') : hcall PR f_law10_GreyBack ⟨[.int .i64 most, .slice p n c]⟩ H K := by
  have hln : l.length = n := by have := hl.1; simpa using this
  have hp := pick_lt (n := most) (m := 64) (by omega)
  have hw : IntKind.i64.wrap (1 + pick most 64) = 1 + pick most 64 := wrap_i64 (by omega) (by omega)
  apply den_law10_GreyBack
  unfold B_law10_GreyBack
  refine Pick_ok (by omega) (by omega) ?_
  simp only [asI_mk', hw]
  have hm1 : 1 ≤ 1 + pick most 64 := by omega
  have hm2 : 1 + pick most 64 ≤ 64 := by omega
  generalize 1 + pick most 64 = m at hm1 hm2
  refine New_string_ok hm1 hm2 fun b H1 F1 s1 k1 n1 => ?_
  simp only [tup2_mk, asP_mk, asI_mk', asB_mk, Option.isNone_some, cond_false]
  refine known10_ok fun H2 k2 => ?_
  simp only [asB_mk, Bool.not_true, cond_false]
  refine bif_neqf rfl ?_
  have s2 : Stk H2 b [] m false F1 := s1.frame fun c hc => k2.same c (s1.dom hc) id
  have k12 : Keep Nothing H H2 := k1.trans k2 fun c h => h.elim
  refine ⟨fun i H' => ∃ (j : Nat) (F : Nat → Prop), i = j ∧ j ≤ n ∧ Keep Nothing H H' ∧ (∀ c, F c → H c = none) ∧ Stk H' b ((l.take (min j m.toNat)).map fun x => Value.string x) m (decide (m.toNat < j)) F,
    fun i H' => (n - i).toNat, ⟨0, F1, rfl, by omega, k12, n1, by simpa using s2⟩, ?_⟩
  rintro i H3 ⟨j, F, rfl, hj, k3, n3, s3⟩
  have hlen : (l.take (min j m.toNat)).length = min j m.toNat := by rw [List.length_take]; omega
  have hl3 : Rd H3 1 p n (l.map fun x => Value.string x) := hl.keep k3 fun _ _ => id
  by_cases hlt : (j : Int) < n
  · refine bif_pos hlt ?_
    refine idxA_of hl3 (by omega) hlt fun b' o hpp hc => ?_
    have hc0 := hc 0 (by omega)
    simp only [Int.toNat_natCast, Nat.mul_one, Nat.add_zero] at hc0 ⊢
    rw [strs_get (by omega)] at hc0
    refine ldStr_of hc0 ?_
    have hwj : IntKind.i64.wrap ((j : Int) + 1) = ((j + 1 : Nat) : Int) := by rw [wrap_i64 (by omega) (by omega)]; omega
    simp only [hwj]
    refine Push_string_ok s3 hm2 (fun hfull H4 s4 k4 => ?_) (fun hroom H4 F4 s4 k4 n4 => ?_)
    · rw [hlen] at hfull
      simp only [asB_mk]
      have e1 : decide ((j : Int) < m) = false := by simp; omega
      have e2 : decide ((j : Int) ≥ m) = true := by simp; omega
      simp only [e1, beq_self_eq_true, Bool.not_true, cond_false]
      refine Over_string_ok s4 ?_
      simp only [asB_mk, e2, beq_self_eq_true, Bool.not_true, cond_false]
      refine ⟨⟨j + 1, F, rfl, by omega, k3.trans k4 (fun c h => .inr (n3 c h)), n3, ?_⟩, by omega⟩
      have e3 : min (j + 1) m.toNat = min j m.toNat := by omega
      have e4 : decide (m.toNat < j + 1) = true := by simp; omega
      rw [e3, e4]
      exact s4
    · rw [hlen] at hroom
      simp only [asB_mk]
      have e1 : decide ((j : Int) < m) = true := by simp; omega
      have e2 : decide ((j : Int) ≥ m) = false := by simp; omega
      have e5 : decide (m.toNat < j) = false := by simp; omega
      simp only [e1, beq_self_eq_true, Bool.not_true, cond_false]
      rw [e5] at s4
      refine Over_string_ok s4 ?_
      simp only [asB_mk, e2, beq_self_eq_true, Bool.not_true, cond_false]
      refine ⟨⟨j + 1, F4, rfl, by omega, k3.trans k4 (fun c h => .inr (n3 c h)), k3.fresh n4 n3, ?_⟩, by omega⟩
      have e3 : min (j + 1) m.toNat = j + 1 := by omega
      have e6 : min j m.toNat = j := by omega
      have e4 : decide (m.toNat < j + 1) = false := by simp; omega
      rw [e3, e4, List.take_succ_eq_append_getElem (by omega)]
      rw [e6] at s4
      exact s4
  · refine bif_neg hlt ?_
    have hjn : j = n := by omega
    subst hjn
    have hk : (if m < (j : Int) then m else (j : Int)) = ((min j m.toNat : Nat) : Int) := by split <;> omega
    have hwk : IntKind.i64.wrap (((min j m.toNat : Nat) : Int) - 1) = ((min j m.toNat : Nat) : Int) - 1 := wrap_i64 (by omega) (by omega)
    simp only [hk, hwk]
    refine ⟨fun i H' => ∃ (u : Nat) (F : Nat → Prop), i = (u : Int) - 1 ∧ u ≤ min j m.toNat ∧ Keep Nothing H H' ∧ (∀ c, F c → H c = none) ∧ Stk H' b ((l.take u).map fun x => Value.string x) m (decide (m.toNat < j)) F,
      fun i H' => (i + 1).toNat, ⟨min j m.toNat, F, rfl, Nat.le_refl _, k3, n3, s3⟩, ?_⟩
    rintro i H4 ⟨u, F4, rfl, hu, k4, n4, s4⟩
    have hl4 : Rd H4 1 p j (l.map fun x => Value.string x) := hl.keep k4 fun _ _ => id
    cases u with
    | zero =>
      refine bif_neg (by omega) ?_
      refine Pop_string_none (by simpa using s4) ?_
      simp only [tup2_mk, asStr_mk, asB_mk, Bool.not_false, cond_true]
      refine Over_string_ok s4 ?_
      simp only [asB_mk]
      have e : (decide (m.toNat < j) == decide ((j : Int) > m)) = true := by
        rw [beq_iff_eq]
        by_cases h : m.toNat < j
        · rw [decide_eq_true h, decide_eq_true (by omega)]
        · rw [decide_eq_false h, decide_eq_false (by omega)]
      rw [e]
      exact hK H4 k4
    | succ u =>
      have hul : u < l.length := by omega
      refine bif_pos (by omega) ?_
      rw [List.take_succ_eq_append_getElem hul] at s4
      refine Pop_string_ok s4 (by rw [List.length_take, show (2 : Int) ^ 62 = 4611686018427387904 by decide]; omega) fun H5 s5 k5 => ?_
      simp only [tup2_mk, asStr_mk, asB_mk, Bool.not_true, cond_false]
      have hl5 : Rd H5 1 p j (l.map fun x => Value.string x) := hl.keep (k4.trans k5 fun c h => .inr (n4 c h)) fun _ _ => id
      have hiu : ((u + 1 : Nat) : Int) - 1 = (u : Int) := by omega
      simp only [hiu]
      refine idxA_of hl5 (by omega) (by omega) fun b' o hpp hc => ?_
      have hc0 := hc 0 (by omega)
      simp only [Int.toNat_natCast, Nat.mul_one, Nat.add_zero] at hc0 ⊢
      rw [strs_get hul] at hc0
      refine ldStr_of hc0 ?_
      simp only [beq_self_eq_true, Bool.not_true, cond_false]
      have hwu : IntKind.i64.wrap ((u : Int) - 1) = (u : Int) - 1 := wrap_i64 (by omega) (by omega)
      rw [hwu]
      exact ⟨⟨u, F4, rfl, by omega, k4.trans k5 (fun c h => .inr (n4 c h)), n4, s5⟩, by omega⟩

end Go.Proofs.Ytdeihhfhcnhmfaa
