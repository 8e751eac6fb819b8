/- Chapter 7's statements, run: ArenaRoom. No condition. -/
import Derived.Test.YtdeihhfhcnhmfaaLaw7
namespace Go.Proofs.Ytdeihhfhcnhmfaa
set_option linter.unusedSimpArgs false
set_option linter.unusedVariables false
set_option linter.unnecessarySimpa false
open Go

theorem sumOf_set {f : Blk → Nat} {b : Blk} : ∀ {l : List Blk} {i : Nat}, i < l.length → sumOf f (l.set i b) + f (l.getD i noBlk) = sumOf f l + f b
  | [], i, h => absurd h (Nat.not_lt_zero i)
  | a :: l, 0, _ => by simp [sumOf]; omega
  | a :: l, i + 1, h => by
    have := sumOf_set (f := f) (b := b) (l := l) (i := i) (by simpa using h)
    simp only [List.set_cons_succ, sumOf, List.getD_cons_succ]
    omega
theorem sumOf_zero {f : Blk → Nat} : ∀ {l : List Blk}, (∀ j, j < l.length → f (l.getD j noBlk) = 0) → sumOf f l = 0
  | [], _ => rfl
  | b :: l, h => by
    have h1 := h 0 (by simp)
    have h2 := sumOf_zero (f := f) (l := l) fun j hj => by simpa using h (j + 1) (by simpa using hj)
    simp at h1
    simp only [sumOf]; omega

theorem room_took {l : List Blk} {c i k : Nat} (hok : allOk l) (hc : isCls c) (hf : ArFits l c i k) : sumOf (roomOf c) (tookAt l c i k) + 1 = sumOf (roomOf c) l := by
  obtain ⟨hi, hf⟩ := hf
  have hs := hc.small
  have h := sumOf_set (f := roomOf c) (b := ⟨c, (l.getD i noBlk).t ||| 2 ^ k⟩) hi
  have hnew : roomOf c ⟨c, (l.getD i noBlk).t ||| 2 ^ k⟩ = 16 / c - pop 16 ((l.getD i noBlk).t ||| 2 ^ k) := by
    unfold roomOf
    rw [if_neg (by simp only; omega), if_pos rfl]
  unfold tookAt
  rcases hf with ⟨e, hk, hf, hfull⟩ | ⟨e, rfl, hf, hfull⟩
  · have ht := ((hok i hi).cls (by omega)).2.1
    rw [e] at ht
    have hold : roomOf c (l.getD i noBlk) = 16 / c - pop 16 (l.getD i noBlk).t := by
      unfold roomOf
      rw [if_neg (by omega), if_pos e]
    have hp := pop_or (n := 16) (t := (l.getD i noBlk).t) (k := k) (by omega) hf.1
    have hnf := hf.notFull hk
    have hpf := pop_full ht
    have hpm := pop_more ht hs.2.2.2.1
    have hple := pop_le (n := 16 / c) (t := (l.getD i noBlk).t)
    unfold fullOf at hnf
    have : pop (16 / c) (l.getD i noBlk).t ≠ 16 / c := fun e => hnf (hpf.1 e)
    omega
  · have hold : roomOf c (l.getD i noBlk) = 16 / c := by
      unfold roomOf
      rw [if_pos e]
    rw [(hok i hi).free e] at h hnew ⊢
    have : pop 16 (0 ||| 2 ^ 0) = 1 := by decide
    omega

theorem room_none {l : List Blk} {c : Nat} (hok : allOk l) (hc : isCls c) (hn : ArNoFit l c) : sumOf (roomOf c) l = 0 := by
  refine sumOf_zero fun j hj => ?_
  obtain ⟨h0, h1⟩ := hn j hj
  have hs := hc.small
  unfold roomOf
  rw [if_neg h0]
  split
  · rename_i e
    have ht := ((hok j hj).cls h0).2.1
    rw [e] at ht
    have hpf := (pop_full ht).2 (h1 e)
    rw [pop_more ht hs.2.2.2.1, hpf]
    omega
  · rfl

theorem blocks_wrap {t : Int} {m : Int} (h : 0 ≤ t ∧ t < m) (hm : m ≤ 16) : IntKind.i64.wrap (16 * IntKind.i64.wrap (1 + t)) = 16 * (((1 + t).toNat : Nat) : Int) ∧ IntKind.i64.wrap (1 + t) = (((1 + t).toNat : Nat) : Int) := by
  have e : IntKind.i64.wrap (1 + t) = 1 + t := wrap_i64 (by omega) (by omega)
  rw [e, wrap_i64 (by omega) (by omega)]
  omega

theorem clsOf_pick {t : Int} (h : 0 ≤ t ∧ t < 16) : clsOf (1 + t) ≠ 0 := fun e => by
  have := clsOf_zero.1 e
  omega

set_option maxRecDepth 20000 in
theorem ArenaRoom_ok {q : Int} {p : Option Addr} {m c : Nat} {l : List Int} {size : Int} {H : Hp} {K : Value → Hp → Prop} (hk : IntKind.min .i64 ≤ q ∧ q ≤ IntKind.max .i64) (hl : Rd H 1 p m (l.map fun x => Value.int .i64 x)) (hm : m ≤ 9223372036854775807) (hQ : ∀ y ∈ l, IntKind.min .i64 ≤ y ∧ y ≤ IntKind.max .i64)
    (hsz : IntKind.min .i64 ≤ size ∧ size ≤ IntKind.max .i64) (hK : ∀ H', Keep Nothing H H' → K (.bool true) H') : hcall PR f_law7_ArenaRoom ⟨[.int .i64 q, .slice p m c, .int .i64 size]⟩ H K := by
  have hln : l.length = m := by have := hl.1; simpa using this
  apply den_law7_ArenaRoom
  unfold B_law7_ArenaRoom
  refine Pick_ok (by omega) (by omega) ?_
  have hq := pick_lt (n := q) (m := 10) (by omega)
  generalize pick q 10 = t at hq
  simp only [asI_mk']
  refine Pick_ok (by omega) (by omega) ?_
  have hs := pick_lt (n := size) (m := 16) (by omega)
  generalize pick size 16 = u at hs
  simp only [asI_mk']
  obtain ⟨w1, w2⟩ := blocks_wrap hq (by omega)
  have w3 : IntKind.i64.wrap (1 + u) = 1 + u := wrap_i64 (by omega) (by omega)
  simp only [w1, w3]
  have hn1 : 1 ≤ (1 + t).toNat := by omega
  have hn2 : (1 + t).toNat ≤ 10 := by omega
  generalize (1 + t).toNat = n at *
  refine arenaNew_ok hn1 (by omega) fun a F1 H1 s1 g1 => ?_
  simp only [tup2_mk, asP_mk, asI_mk']
  refine known7_ok fun H2 k2 => ?_
  have s2 := (Arn _ _).still s1 ((Goes.of k2).less fun _ => id)
  have g2 := g1.trans ((Goes.of k2).part (F := F1) (F1 := F1) (fun _ h => h.elim) fun _ h => .inl h)
  simp only [asB_mk, Bool.not_true, cond_false, Option.isNone_some]
  refine bif_neqf rfl ?_
  intro R21 hR21
  have hcz := clsOf_pick hs
  have hcls := clsOf_cls hcz
  have hend : ∀ (H3 : Hp) (F3 : Nat → Prop) (bl : List Blk), (Arn a bl).holds F3 H3 → Goes Nothing H F3 H3 → allOk bl → bl.length = n → R21 H3 := fun H3 F3 bl s3 g3 ok3 len3 => by
    refine hR21 H3 (Room_ok s3 ok3 (by omega) hcz ?_)
    simp only [asI_mk']
    have hbound := sumOf_le (f := roomOf (clsOf (1 + u))) (m := 16) (l := bl) fun b hb => by
      have := hcls.small
      unfold roomOf
      split
      · omega
      · split <;> omega
    generalize hr : sumOf (roomOf (clsOf (1 + u))) bl = r at hbound
    refine ⟨fun i H' => ∃ (F : Nat → Prop) (bl : List Blk) (j : Nat), i = j ∧ j ≤ r ∧ (Arn a bl).holds F H' ∧ Goes Nothing H F H' ∧ allOk bl ∧ bl.length = n ∧ sumOf (roomOf (clsOf (1 + u))) bl + j = r, fun i _ => (r - i).toNat,
      ⟨F3, bl, 0, rfl, by omega, s3, g3, ok3, len3, by omega⟩, ?_⟩
    clear hr s3 g3 ok3
    rintro i H4 ⟨F4, bl', j, rfl, hj, s4, g4, ok4, len4, hsum⟩
    by_cases hlt : (j : Int) < r
    · refine bif_pos hlt (Alloc_ok s4 ok4 (by omega) (fun h => absurd h hcz) (fun _ i' k' hf F5 H5 s5 g5 => ?_) fun _ hn => ?_)
      · have ht := room_took ok4 hcls hf
        simp only [tup2_mk, asI_mk']
        refine bif_neqf rfl (Room_ok s5 (ok4.took hcls hf) (by rw [took_length]; omega) hcz ?_)
        simp only [asI_mk']
        have w4 : IntKind.i64.wrap ((r : Int) - (j : Int)) = (r : Int) - j := wrap_i64 (by omega) (by omega)
        rw [w4, wrap_i64 (by omega) (by omega), wrap_i64 (by omega) (by omega)]
        refine bif_neqf (by omega) ?_
        exact ⟨⟨F5, _, j + 1, by omega, by omega, s5, g4.trans g5, ok4.took hcls hf, by rw [took_length]; exact len4, by omega⟩, by omega⟩
      · have := room_none ok4 hcls hn
        omega
    · refine bif_neg hlt (Alloc_ok s4 ok4 (by omega) (fun h => absurd h hcz) (fun _ i' k' hf F5 H5 s5 g5 => ?_) fun _ hn => ?_)
      · have ht := room_took ok4 hcls hf
        omega
      · simp only [tup2_mk, asI_mk']
        refine bif_eq rfl ?_
        rw [decide_eq_true (by omega)]
        exact hK H4 g4.keep
  refine ⟨fun i H' => ∃ (j : Nat) (F : Nat → Prop) (bl : List Blk), i = j ∧ j ≤ m ∧ (Arn a bl).holds F H' ∧ Goes Nothing H F H' ∧ allOk bl ∧ bl.length = n, fun i _ => (m - i).toNat,
    ⟨0, F1, _, rfl, by omega, s2, g2, allOk.new, by simp⟩, ?_⟩
  rintro i H3 ⟨j, F3, bl, rfl, hj, s3, g3, ok3, len3⟩
  by_cases hlt : (j : Int) < m
  rotate_left
  · exact bif_neg hlt (hend H3 F3 bl s3 g3 ok3 len3)
  refine bif_pos hlt ?_
  by_cases h100 : (j : Int) < 100
  rotate_left
  · exact bif_neg h100 (hend H3 F3 bl s3 g3 ok3 len3)
  refine bif_pos h100 ?_
  refine idx1 (g := fun x => Value.int .i64 x) (d := 0) (hl.keep g3.keep fun _ _ => id) (by omega) hlt fun b1 o1 hp1 hc1 => ldI_of hc1 (Pick_ok (by omega) (by omega) ?_)
  simp only [asI_mk']
  have hz := pick_lt (n := l.getD (j : Int).toNat 0) (m := 16) (by omega)
  generalize pick (l.getD (j : Int).toNat 0) 16 = z at hz
  have w5 : IntKind.i64.wrap (1 + z) = 1 + z := wrap_i64 (by omega) (by omega)
  have w6 : IntKind.i64.wrap ((j : Int) + 1) = ((j + 1 : Nat) : Int) := by rw [wrap_i64 (by omega) (by omega)]; omega
  rw [w5, w6]
  have hcz := clsOf_pick hz
  refine Alloc_ok s3 ok3 (by omega) (fun h => absurd h hcz) (fun _ i' k' hf F5 H5 s5 g5 => ?_) fun _ hn => ?_
  · simp only [tup2_mk, asI_mk']
    exact ⟨⟨j + 1, F5, _, rfl, by omega, s5, g3.trans g5, ok3.took (clsOf_cls hcz) hf, by rw [took_length]; exact len3⟩, by omega⟩
  · simp only [tup2_mk, asI_mk']
    exact ⟨⟨j + 1, F3, bl, rfl, by omega, s3, g3, ok3, len3⟩, by omega⟩

end Go.Proofs.Ytdeihhfhcnhmfaa
