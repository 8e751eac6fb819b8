/- The document's arena, run: the calls. No condition. -/
import Derived.Test.YtohlnmenghbgbaaRArena
namespace Go.Proofs.Ytohlnmenghbgbaa
set_option linter.unusedSimpArgs false
set_option linter.unusedVariables false
set_option linter.unnecessarySimpa false
open Go

set_option maxRecDepth 20000 in
theorem rAlloc_ok {a : Nat} {l : List Blk} {size : Int} {F : Nat → Prop} {H : Hp} {K : Value → Hp → Prop} (h : (RArn a l).holds F H) (hok : allOk l) (hl : l.length ≤ 256)
    (harg : clsOf size = 0 → K (.tuple #[.int .i64 0, .int .i64 1]) H)
    (hfit : clsOf size ≠ 0 → ∀ i k, ArFits l (clsOf size) i k → ∀ F' H', (RArn a (tookAt l (clsOf size) i k)).holds F' H' → Goes F H F' H' → K (.tuple #[.int .i64 ((16 * i + k * clsOf size : Nat) : Int), .int .i64 0]) H')
    (hnone : clsOf size ≠ 0 → ArNoFit l (clsOf size) → K (.tuple #[.int .i64 0, .int .i64 2]) H) : hcall PR f_ref7_Arena_Alloc ⟨[.pointer (some ⟨a, 0, none⟩), .int .i64 size]⟩ H K := by
  apply den_ref7_Arena_Alloc
  unfold B_ref7_Arena_Alloc
  refine rClass_ok ?_
  simp only [asI_mk', nilP_mk, add_mk, Nat.zero_add]
  by_cases hc0 : clsOf size = 0
  · exact bif_eq (by omega) (harg hc0)
  have hcls := clsOf_cls hc0
  have hfit := hfit hc0
  have hnone := hnone hc0
  refine bif_ne (by omega) ?_
  generalize clsOf size = c at *
  clear harg hc0
  have hcs := hcls.small
  obtain ⟨x, h'⟩ := id h
  have e0 := Prt.one_cell h' (i := 0) (o := 0) rfl rfl
  have e1 := Prt.one_cell h' (i := 0) (o := 1) rfl rfl
  have r1 := Prt.row_rd h' (i := 1) rfl
  have r2 := Prt.row_rd h' (i := 2) rfl
  have e16 : Int.tdiv 16 (c : Int) = ((16 / c : Nat) : Int) := by rw [Int.tdiv_eq_ediv_of_nonneg (by omega)]; norm_cast
  have w16 : IntKind.i64.wrap ((16 / c : Nat) : Int) = ((16 / c : Nat) : Int) := wrap_i64 (by omega) (by omega)
  simp only [e16, w16]
  refine ⟨fun b H' => H' = H ∧ ∃ j : Nat, b = j ∧ j ≤ l.length ∧ (∀ i, i < j → (l.getD i noBlk).c = c → (l.getD i noBlk).t = fullOf c), fun b _ => (l.length - b).toNat, ⟨rfl, 0, rfl, by omega, fun i hi => absurd hi (Nat.not_lt_zero _)⟩, ?_⟩
  rintro b H' ⟨hH, j, rfl, hj, hfull⟩
  subst hH
  refine ldSl_of e0 ?_
  by_cases hlt : (j : Int) < l.length
  · refine bif_pos hlt ?_
    intro R14 hR14
    have hbok := hok j (by omega)
    have hbs := hbok.small
    have hnext : ((l.getD j noBlk).c = c → (l.getD j noBlk).t = fullOf c) → R14 H' := fun hf => by
      refine hR14 H' ?_
      rw [wrap_i64 (by omega) (by omega)]
      refine ⟨⟨rfl, j + 1, by omega, by omega, fun i hi hic => ?_⟩, by dsimp only; omega⟩
      by_cases hij : i = j
      · subst hij; exact hf hic
      · exact hfull i (by omega) hic
    refine ⟨fun i H'' => H'' = H' ∧ ∃ k : Nat, i = k ∧ k ≤ 16 / c ∧ ((l.getD j noBlk).c = c → ∀ y, y < k → (l.getD j noBlk).t.testBit y = true), fun i _ => (16 - i).toNat, ⟨rfl, 0, rfl, by omega, fun _ y hy => absurd hy (Nat.not_lt_zero y)⟩, ?_⟩
    rintro i H'' ⟨hH, k, rfl, hk, hbits⟩
    subst hH
    refine ldSl_of e0 (idx1 (d := noBlk) r1 (by omega) hlt fun b' o hpp hcc => ldI_of hcc ?_)
    rw [Int.toNat_natCast]
    by_cases hcc : (l.getD j noBlk).c = c
    rotate_left
    · exact bif_ne (by omega) (hnext fun h => absurd h hcc)
    refine bif_eq (by omega) ⟨by omega, ?_⟩
    have hbits := hbits hcc
    have ht := (hbok.cls (by omega)).2.1
    rw [hcc] at ht
    by_cases hk16 : (k : Int) < ((16 / c : Nat) : Int)
    rotate_left
    · refine bif_neg hk16 (hnext fun _ => ?_)
      refine Classical.byContradiction fun hne => ?_
      obtain ⟨y, hy, hf⟩ := First.of ht hne
      have := hbits y (by omega)
      rw [hf.1] at this
      cases this
    refine bif_pos hk16 (ldSl_of e1 (idx16 r2 (by omega) hlt (by omega) (by omega) fun b' o hpp hct => ldB_of hct ?_))
    simp only [Int.toNat_natCast]
    cases hbit : (l.getD j noBlk).t.testBit k
    · simp only [Bool.not_false, cond_true]
      refine ldSl_of e1 (idx16 r2 (by omega) hlt (by omega) (by omega) fun b' o hpp hct => ?_)
      simp only [Int.toNat_natCast]
      refine Prt.poke h' (i := 2) rfl hpp (by omega) fun F1 H1 h1 g1 => ?_
      have w1 : IntKind.i64.wrap (16 * (j : Int)) = 16 * (j : Int) := wrap_i64 (by omega) (by omega)
      have hmul : c * k ≤ 16 * 16 := Nat.mul_le_mul (by omega) (by omega)
      have w2 : IntKind.i64.wrap ((c : Int) * (k : Int)) = ((k * c : Nat) : Int) := by
        rw [← Int.natCast_mul, wrap_i64 (by omega) (by omega), Nat.mul_comm]
      have hkc : k * c ≤ 256 := by rw [Nat.mul_comm]; omega
      rw [w1, w2, wrap_i64 (by omega) (by omega), show 16 * (j : Int) + ((k * c : Nat) : Int) = ((16 * j + k * c : Nat) : Int) by omega]
      refine hfit j k ⟨by omega, .inl ⟨hcc, by omega, ⟨hbit, hbits⟩, hfull⟩⟩ F1 H1 (RArn.shut (p := x.1) (p2 := x.2.2.1) (c := x.2.1) (c2 := x.2.2.2.1) (T := x.2.2.2.2) ?_) g1
      unfold tookAt
      rw [set_same (f := fun b => Value.int .i64 b.c) (by omega) (by rw [hcc]), ← flatB_set (v := true) (i := k) (by omega) (by omega) fun y hy => by
        rw [testBit_or_pow]
        by_cases e : y = k
        · simp [e]
        · simp [e]]
      simpa using h1
    · simp only [Bool.not_true, cond_false]
      rw [wrap_i64 (by omega) (by omega)]
      refine ⟨⟨trivial, k + 1, by omega, by omega, fun _ y hy => ?_⟩, by omega⟩
      by_cases e : y = k
      · rw [e]; exact hbit
      · exact hbits y (by omega)
  · refine bif_neg hlt ?_
    obtain rfl : j = l.length := by omega
    refine ⟨fun b H'' => H'' = H' ∧ ∃ j : Nat, b = j ∧ j ≤ l.length ∧ (∀ i, i < j → (l.getD i noBlk).c ≠ 0), fun b _ => (l.length - b).toNat, ⟨rfl, 0, rfl, by omega, fun i hi => absurd hi (Nat.not_lt_zero _)⟩, ?_⟩
    rintro b H'' ⟨hH, j, rfl, hj', hno⟩
    subst hH
    refine ldSl_of e0 ?_
    by_cases hlt' : (j : Int) < l.length
    · refine bif_pos hlt' (ldSl_of e0 (idx1 (d := noBlk) r1 (by omega) hlt' fun b' o hpp hcc => ldI_of hcc ?_))
      rw [Int.toNat_natCast]
      by_cases hz : (l.getD j noBlk).c = 0
      · refine bif_eq (by omega) (ldSl_of e0 (idx1 (d := noBlk) r1 (by omega) hlt' fun b' o hpp hcc => ?_))
        rw [Int.toNat_natCast]
        refine Prt.poke h' (i := 1) rfl hpp (by omega) fun F1 H1 h1 g1 => ?_
        refine ldSl_of (Prt.one_cell h1 (i := 0) (o := 1) rfl rfl) (idx16 (Prt.row_rd h1 (i := 2) rfl) (by omega) hlt' (by omega) (by omega) fun b' o hpp hct => ?_)
        rw [Int.toNat_natCast]
        refine Prt.poke h1 (i := 2) rfl hpp (by omega) fun F2 H2 h2 g2 => ?_
        have ht0 : (l.getD j noBlk).t = 0 := (hok j (by omega)).free hz
        rw [wrap_i64 (by omega) (by omega), show 16 * (j : Int) = ((16 * j + 0 * c : Nat) : Int) by omega]
        refine hfit j 0 ⟨by omega, .inr ⟨hz, rfl, hno, fun i hi => hfull i hi⟩⟩ F2 H2 (RArn.shut (p := x.1) (p2 := x.2.2.1) (c := x.2.1) (c2 := x.2.2.2.1) (T := x.2.2.2.2) ?_) (g1.trans g2)
        unfold tookAt
        rw [← flatB_set (v := true) (i := 0) (by omega) (by omega) fun y hy => by
          rw [testBit_or_pow]
          by_cases e : y = 0
          · simp [e]
          · simp [e], ← blk_set (b := ⟨c, (l.getD j noBlk).t ||| 2 ^ 0⟩)]
        simpa using h2
      · refine bif_ne (by omega) ?_
        rw [wrap_i64 (by omega) (by omega)]
        refine ⟨⟨rfl, j + 1, by omega, by omega, fun i hi => ?_⟩, by dsimp only; omega⟩
        by_cases e : i = j
        · rw [e]; exact hz
        · exact hno i (by omega)
    · refine bif_neg hlt' (hnone fun i hi => ⟨hno i (by omega), hfull i hi⟩)

end Go.Proofs.Ytohlnmenghbgbaa
