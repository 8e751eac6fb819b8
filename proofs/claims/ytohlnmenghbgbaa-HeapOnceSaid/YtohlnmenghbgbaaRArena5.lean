/- The document's arena, run: Room, Used. No condition. -/
import Derived.Test.YtohlnmenghbgbaaRArena4
namespace Go.Proofs.Ytohlnmenghbgbaa
set_option linter.unusedSimpArgs false
set_option linter.unusedVariables false
set_option linter.unnecessarySimpa false
open Go

theorem pop_succ : ∀ {k t : Nat}, pop (k + 1) t = pop k t + (t.testBit k).toNat
  | 0, t => by
    simp only [pop, Nat.testBit_zero]
    rcases Nat.mod_two_eq_zero_or_one t with h | h <;> simp [h]
  | k + 1, t => by
    have h := pop_succ (k := k) (t := t / 2)
    rw [Nat.testBit_div_two] at h
    rw [show pop (k + 1 + 1) t = t % 2 + pop (k + 1) (t / 2) from rfl, h, show pop (k + 1) t = t % 2 + pop k (t / 2) from rfl]
    omega

theorem rUsed_ok {a : Nat} {l : List Blk} {F : Nat → Prop} {H : Hp} {K : Value → Hp → Prop} (h : (RArn a l).holds F H) (hok : allOk l) (hl : l.length ≤ 256)
    (hK : K (.int .i64 (sumOf usedOf l)) H) : hcall PR f_ref7_Arena_Used ⟨[.pointer (some ⟨a, 0, none⟩)]⟩ H K := by
  apply den_ref7_Arena_Used
  unfold B_ref7_Arena_Used
  obtain ⟨x, h'⟩ := id h
  have e0 := Prt.one_cell h' (i := 0) (o := 0) rfl rfl
  have e1 := Prt.one_cell h' (i := 0) (o := 1) rfl rfl
  have r1 := Prt.row_rd h' (i := 1) rfl
  have r2 := Prt.row_rd h' (i := 2) rfl
  simp only [nilP_mk, add_mk, Nat.zero_add]
  refine ⟨fun n t H' => H' = H ∧ ∃ j : Nat, t = j ∧ j ≤ l.length ∧ n = sumOf usedOf (l.take j), fun _ t _ => (l.length - t).toNat, ⟨rfl, 0, rfl, by omega, rfl⟩, ?_⟩
  rintro n t H' ⟨hH, j, rfl, hj, rfl⟩
  subst hH
  refine ldSl_of e0 ?_
  by_cases hlt : (j : Int) < l.length
  · refine bif_pos hlt ?_
    have hsum := sumOf_take_succ (f := usedOf) (l := l) (j := j) (by omega)
    have hbound := sumOf_le (f := usedOf) (m := 16) (l := l.take j) fun b hb => (hok.mem (List.mem_of_mem_take hb)).pop
    have hlen : (l.take j).length ≤ 256 := by rw [List.length_take]; omega
    have hbok := hok j (by omega)
    have hp16 := hbok.pop
    have hc16 := hbok.small.2
    have hused : usedOf (l.getD j noBlk) = (l.getD j noBlk).c * pop 16 (l.getD j noBlk).t := rfl
    refine ⟨fun n i H'' => H'' = H' ∧ ∃ k : Nat, i = k ∧ k ≤ 16 ∧ n = ((sumOf usedOf (l.take j) + (l.getD j noBlk).c * pop k (l.getD j noBlk).t : Nat) : Int), fun _ i _ => (16 - i).toNat, ⟨rfl, 0, rfl, by omega, by simp [pop]⟩, ?_⟩
    rintro n i H'' ⟨hH, k, rfl, hk, rfl⟩
    subst hH
    have hck : (l.getD j noBlk).c * pop k (l.getD j noBlk).t ≤ 16 * 16 := Nat.mul_le_mul hc16 (Nat.le_trans pop_le hk)
    by_cases hk16 : (k : Int) < 16
    · refine bif_pos hk16 ?_
      intro R16 hR16
      have hstep : ∀ n' : Int, n' = ((sumOf usedOf (l.take j) + (l.getD j noBlk).c * pop (k + 1) (l.getD j noBlk).t : Nat) : Int) → R16 n' H'' := fun n' hn => by
        refine hR16 n' H'' ?_
        rw [wrap_i64 (by omega) (by omega)]
        exact ⟨⟨rfl, k + 1, by omega, by omega, hn⟩, by dsimp only; omega⟩
      refine ldSl_of e1 (idx16 r2 (by omega) hlt (by omega) hk16 fun b' o hpp hct => ldB_of hct ?_)
      simp only [Int.toNat_natCast]
      have hps := pop_succ (k := k) (t := (l.getD j noBlk).t)
      cases hb : (l.getD j noBlk).t.testBit k
      · simp only [cond_false]
        refine hstep _ ?_
        rw [hb] at hps
        simp only [Bool.toNat_false, Nat.add_zero] at hps
        rw [hps]
      · simp only [cond_true]
        refine ldSl_of e0 (idx1 (d := noBlk) r1 (by omega) hlt fun b' o hpp hcc => ldI_of hcc ?_)
        rw [Int.toNat_natCast, wrap_i64 (by omega) (by omega)]
        refine hstep _ ?_
        rw [hb] at hps
        simp only [Bool.toNat_true] at hps
        rw [hps, Nat.mul_add, Nat.mul_one]
        omega
    · refine bif_neg hk16 ?_
      obtain rfl : k = 16 := by omega
      rw [wrap_i64 (by omega) (by omega)]
      exact ⟨⟨rfl, j + 1, by omega, by omega, by rw [hsum, hused]⟩, by dsimp only; omega⟩
  · refine bif_neg hlt ?_
    obtain rfl : j = l.length := by omega
    rw [List.take_length]
    exact hK



end Go.Proofs.Ytohlnmenghbgbaa
