/- Package arena, run: room, use, blocks; what a place is, is one. No condition. -/
import Derived.Test.YtohlnmenghbgbaaArena2
namespace Go.Proofs.Ytohlnmenghbgbaa
set_option linter.unusedSimpArgs false
set_option linter.unusedVariables false
set_option linter.unnecessarySimpa false
open Go

theorem First.unique {t k k' : Nat} (h : First t k) (h' : First t k') : k = k' := by
  rcases Nat.lt_trichotomy k k' with e | e | e
  · have := h'.2 k e; rw [h.1] at this; cases this
  · exact e
  · have := h.2 k' e; rw [h'.1] at this; cases this

theorem First.notFull {c t k : Nat} (h : First t k) (hk : k < 16 / c) : t ≠ fullOf c := by
  rintro rfl
  have := h.1
  unfold fullOf at this
  rw [Nat.testBit_two_pow_sub_one] at this
  simp [hk] at this

theorem ArFits.unique {l : List Blk} {c i k i' k' : Nat} (h : ArFits l c i k) (h' : ArFits l c i' k') : i = i' ∧ k = k' := by
  obtain ⟨hi, h⟩ := h
  obtain ⟨hi', h'⟩ := h'
  rcases h with ⟨e, hk, hf, hfull⟩ | ⟨e, rfl, hf, hfull⟩
  · rcases h' with ⟨e', hk', hf', hfull'⟩ | ⟨e', rfl, hf', hfull'⟩
    · rcases Nat.lt_trichotomy i i' with hl | rfl | hl
      · exact absurd (hfull' i hl e) (hf.notFull hk)
      · exact ⟨rfl, hf.unique hf'⟩
      · exact absurd (hfull i' hl e') (hf'.notFull hk')
    · exact absurd (hfull' i hi e) (hf.notFull hk)
  · rcases h' with ⟨e', hk', hf', hfull'⟩ | ⟨e', rfl, hf', hfull'⟩
    · exact absurd (hfull i' hi' e') (hf'.notFull hk')
    · rcases Nat.lt_trichotomy i i' with hl | rfl | hl
      · exact absurd e (hf' i hl)
      · exact ⟨rfl, rfl⟩
      · exact absurd e' (hf i' hl)

theorem ArFits.notNo {l : List Blk} {c i k : Nat} (h : ArFits l c i k) : ¬ ArNoFit l c := fun hn => by
  obtain ⟨hi, h⟩ := h
  obtain ⟨h0, h1⟩ := hn i hi
  rcases h with ⟨e, hk, hf, hfull⟩ | ⟨e, rfl, hf, hfull⟩
  · exact hf.notFull hk (h1 e)
  · exact h0 e

theorem Alloc_at {a : Nat} {l : List Blk} {size : Int} {i k : Nat} {F : Nat → Prop} {H : Hp} {K : Value → Hp → Prop} (h : (Arn a l).holds F H) (hok : allOk l) (hl : l.length ≤ 256) (hc : clsOf size ≠ 0) (hf : ArFits l (clsOf size) i k)
    (hK : ∀ F' H', (Arn a (tookAt l (clsOf size) i k)).holds F' H' → Goes F H F' H' → K (.tuple #[.int .i64 ((16 * i + k * clsOf size : Nat) : Int), .int .i64 0]) H') : hcall PR f_arena_Arena_Alloc ⟨[.pointer (some ⟨a, 0, none⟩), .int .i64 size]⟩ H K :=
  Alloc_ok h hok hl (fun h => absurd h hc) (fun _ i' k' hf' F' H' h' g' => by
    obtain ⟨rfl, rfl⟩ := hf.unique hf'
    exact hK F' H' h' g') (fun _ hn => absurd hn hf.notNo)
theorem Alloc_oom {a : Nat} {l : List Blk} {size : Int} {F : Nat → Prop} {H : Hp} {K : Value → Hp → Prop} (h : (Arn a l).holds F H) (hok : allOk l) (hl : l.length ≤ 256) (hc : clsOf size ≠ 0) (hn : ArNoFit l (clsOf size))
    (hK : K (.tuple #[.int .i64 0, .int .i64 2]) H) : hcall PR f_arena_Arena_Alloc ⟨[.pointer (some ⟨a, 0, none⟩), .int .i64 size]⟩ H K :=
  Alloc_ok h hok hl (fun h => absurd h hc) (fun _ i' k' hf' F' H' h' g' => absurd hn hf'.notNo) (fun _ _ => hK)

theorem AtPlace.unique {l : List Blk} {cell : Int} {b k b' k' : Nat} (hok : allOk l) (h : AtPlace l cell b k) (h' : AtPlace l cell b' k') : b = b' ∧ k = k' := by
  obtain ⟨hc, _, _⟩ := (hok b h.lt).cls h.c0
  obtain ⟨hc', _, _⟩ := (hok b' h'.lt).cls h'.c0
  have p := place_split (b := b) hc h.k1
  have p' := place_split (b := b') hc' h'.k1
  have e := h.at_
  have e' := h'.at_
  obtain rfl : b = b' := by omega
  refine ⟨rfl, ?_⟩
  have : k * (l.getD b noBlk).c = k' * (l.getD b noBlk).c := by omega
  rw [← p.2.2.2, this, p'.2.2.2]

theorem Free_at {a : Nat} {l : List Blk} {cell : Int} {b k : Nat} {F : Nat → Prop} {H : Hp} {K : Value → Hp → Prop} (h : (Arn a l).holds F H) (hok : allOk l) (hl : l.length ≤ 256) (hp : AtPlace l cell b k)
    (hK : ∀ F' H', (Arn a (l.set b (freed (l.getD b noBlk) k))).holds F' H' → Goes F H F' H' → K (.int .i64 0) H') : hcall PR f_arena_Arena_Free ⟨[.pointer (some ⟨a, 0, none⟩), .int .i64 cell]⟩ H K :=
  Free_ok h hok hl (fun hn => absurd hp (hn b k)) fun b' k' hp' => by
    obtain ⟨rfl, rfl⟩ := hp.unique hok hp'
    exact hK
theorem Free_none {a : Nat} {l : List Blk} {cell : Int} {F : Nat → Prop} {H : Hp} {K : Value → Hp → Prop} (h : (Arn a l).holds F H) (hok : allOk l) (hl : l.length ≤ 256) (hp : ∀ b k, ¬ AtPlace l cell b k) (hK : K (.int .i64 9) H) :
    hcall PR f_arena_Arena_Free ⟨[.pointer (some ⟨a, 0, none⟩), .int .i64 cell]⟩ H K :=
  Free_ok h hok hl (fun _ => hK) fun b k h => absurd h (hp b k)

/-- How many more of a class a block takes. -/
def roomOf (c : Nat) (b : Blk) : Nat := if b.c = 0 then 16 / c else if b.c = c then 16 / c - pop 16 b.t else 0
def usedOf (b : Blk) : Nat := b.c * pop 16 b.t
def sumOf (f : Blk → Nat) : List Blk → Nat
  | [] => 0
  | b :: l => f b + sumOf f l
theorem sumOf_take_succ {f : Blk → Nat} : ∀ {l : List Blk} {j : Nat}, j < l.length → sumOf f (l.take (j + 1)) = sumOf f (l.take j) + f (l.getD j noBlk)
  | [], j, h => absurd h (Nat.not_lt_zero j)
  | b :: l, 0, _ => by simp [sumOf]
  | b :: l, j + 1, h => by
    have := sumOf_take_succ (f := f) (l := l) (j := j) (by simpa using h)
    simp only [List.take_succ_cons, sumOf, this, List.getD_cons_succ]
    omega
theorem sumOf_le {f : Blk → Nat} {m : Nat} : ∀ {l : List Blk}, (∀ b ∈ l, f b ≤ m) → sumOf f l ≤ l.length * m
  | [], _ => by simp [sumOf]
  | b :: l, h => by
    have h1 := h b (by simp)
    have h2 := sumOf_le (f := f) (m := m) (l := l) fun b hb => h b (by simp [hb])
    simp only [sumOf, List.length_cons, Nat.succ_mul]
    omega
theorem allOk.mem {l : List Blk} (h : allOk l) {b : Blk} (hb : b ∈ l) : b.ok := by
  obtain ⟨i, hi, rfl⟩ := List.mem_iff_getElem.1 hb
  have := h i hi
  rwa [List.getD_eq_getElem?_getD, List.getElem?_eq_getElem hi] at this
theorem Blk.ok.pop {b : Blk} (h : b.ok) : b.c * Go.Proofs.Ytohlnmenghbgbaa.pop 16 b.t ≤ 16 := by
  by_cases hc : b.c = 0
  · rw [hc]; omega
  · obtain ⟨h1, h2, _⟩ := h.cls hc
    have hs := h1.small
    rw [pop_more h2 hs.2.2.2.1]
    have := Nat.mul_le_mul_left b.c (pop_le (n := 16 / b.c) (t := b.t))
    rw [Nat.mul_comm b.c (16 / b.c), hs.2.2.2.2] at this
    exact this



theorem Used_ok {a : Nat} {l : List Blk} {F : Nat → Prop} {H : Hp} {K : Value → Hp → Prop} (h : (Arn a l).holds F H) (hok : allOk l) (hl : l.length ≤ 256)
    (hK : K (.int .i64 (sumOf usedOf l)) H) : hcall PR f_arena_Arena_Used ⟨[.pointer (some ⟨a, 0, none⟩)]⟩ H K := by
  apply den_arena_Arena_Used
  unfold B_arena_Arena_Used
  simp only [nilP_mk, add_mk, Nat.zero_add]
  obtain ⟨x, h'⟩ := id h
  have e0 := Prt.one_cell h' (i := 0) (o := 0) rfl rfl
  have e1 := Prt.one_cell h' (i := 0) (o := 1) rfl rfl
  have r1 := Prt.row_rd h' (i := 1) rfl
  have r2 := Prt.row_rd h' (i := 2) rfl
  refine ldSl_of e0 ?_
  refine ⟨fun n t H' => H' = H ∧ ∃ j : Nat, t = j ∧ j ≤ l.length ∧ n = sumOf usedOf (l.take j), fun _ t _ => (l.length - t).toNat, ⟨rfl, 0, rfl, by omega, rfl⟩, ?_⟩
  rintro n t H' ⟨hH, j, rfl, hj, rfl⟩
  subst hH
  by_cases hlt : (j : Int) < l.length
  · have hsum := sumOf_take_succ (f := usedOf) (l := l) (j := j) (by omega)
    have hbound := sumOf_le (f := usedOf) (m := 16) (l := l.take j) fun b hb => (hok.mem (List.mem_of_mem_take hb)).pop
    have hlen : (l.take j).length ≤ 256 := by rw [List.length_take]; omega
    have hbok := hok j (by omega)
    have hp16 := hbok.pop
    refine bif_pos hlt (idx1 (d := noBlk) r1 (by omega) hlt fun b' o hpp hcc => ldI_of hcc (ldSl_of e1 (idx1 (d := noBlk) r2 (by omega) hlt fun b' o hpp hct => ldI_of hct ?_)))
    rw [Int.toNat_natCast]
    refine bits_ok hbok.small.1 ?_
    simp only [asI_mk']
    have w1 : IntKind.i64.wrap (((l.getD j noBlk).c : Int) * (pop 16 (l.getD j noBlk).t : Int)) = ((usedOf (l.getD j noBlk) : Nat) : Int) := by
      rw [← Int.natCast_mul, wrap_i64 (by omega) (by omega)]
      rfl
    have hu : usedOf (l.getD j noBlk) ≤ 16 := hp16
    rw [w1, wrap_i64 (by omega) (by omega), wrap_i64 (by omega) (by omega)]
    exact ⟨⟨trivial, j + 1, by omega, by omega, by omega⟩, by omega⟩
  · refine bif_neg hlt ?_
    obtain rfl : j = l.length := by omega
    rw [List.take_length]
    exact hK


end Go.Proofs.Ytohlnmenghbgbaa
