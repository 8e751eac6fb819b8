/- Package arena, run. No condition. -/
import Derived.Test.YtohlnmenghbgbaaPrt
import Derived.Test.YtohlnmenghbgbaaBits
import Derived.Test.YtohlnmenghbgbaaDenT
import Derived.Test.YtohlnmenghbgbaaDenArena
namespace Go.Proofs.Ytohlnmenghbgbaa
set_option linter.unusedSimpArgs false
set_option linter.unusedVariables false
set_option linter.unnecessarySimpa false
open Go

/-- A block: its class, its bits. -/
structure Blk where
  c : Nat
  t : Nat

def isCls (c : Nat) : Prop := c = 1 ∨ c = 2 ∨ c = 4 ∨ c = 8 ∨ c = 16
def fullOf (c : Nat) : Nat := 2 ^ (16 / c) - 1
structure Blk.ok (b : Blk) : Prop where
  free : b.c = 0 → b.t = 0
  cls : b.c ≠ 0 → isCls b.c ∧ b.t < 2 ^ (16 / b.c) ∧ b.t ≠ 0

def clsOf (size : Int) : Nat := if size < 1 ∨ 16 < size then 0 else if size ≤ 1 then 1 else if size ≤ 2 then 2 else if size ≤ 4 then 4 else if size ≤ 8 then 8 else 16

theorem clsOf_cls {size : Int} (h : clsOf size ≠ 0) : isCls (clsOf size) := by
  unfold clsOf at h ⊢
  unfold isCls
  split
  · rename_i h'; rw [if_pos h'] at h; exact absurd rfl h
  · split <;> (try omega)
    split <;> (try omega)
    split <;> (try omega)
    split <;> omega

theorem isCls.small {c : Nat} (h : isCls c) : 1 ≤ c ∧ c ≤ 16 ∧ 1 ≤ 16 / c ∧ 16 / c ≤ 16 ∧ 16 / c * c = 16 := by
  rcases h with rfl | rfl | rfl | rfl | rfl <;> decide

/-- An arena: its block, its two rows. -/
def Arn (a : Nat) (l : List Blk) : Prt := Prt.ex fun (x : Option Addr × Nat × Option Addr × Nat × Nat) =>
  Prt.list [Prt.one a (.cells #[.slice x.1 l.length x.2.1, .slice x.2.2.1 l.length x.2.2.2.1] x.2.2.2.2 (0, 0)), Prt.row 1 x.1 l.length x.2.1 (l.map fun b => Value.int .i64 b.c), Prt.row 1 x.2.2.1 l.length x.2.2.2.1 (l.map fun b => Value.int .u16 b.t)]

def noBlk : Blk := ⟨0, 0⟩

theorem Class_ok {size : Int} {H : Hp} {K : Value → Hp → Prop} (hK : K (.int .i64 (clsOf size)) H) : hcall PR f_arena_Class ⟨[.int .i64 size]⟩ H K := by
  apply den_arena_Class
  unfold B_arena_Class
  by_cases h1 : size < 1
  · rw [show clsOf size = 0 by unfold clsOf; rw [if_pos (.inl h1)]] at hK
    exact bif_pos h1 hK
  by_cases h2 : size > 16
  · rw [show clsOf size = 0 by unfold clsOf; rw [if_pos (.inr h2)]] at hK
    exact bif_neg h1 (bif_pos h2 hK)
  refine bif_neg h1 (bif_neg h2 ?_)
  refine ⟨fun c H' => H' = H ∧ ((c = 1) ∨ (c = 2 ∧ 1 < size) ∨ (c = 4 ∧ 2 < size) ∨ (c = 8 ∧ 4 < size) ∨ (c = 16 ∧ 8 < size)), fun c _ => (16 - c).toNat, ⟨rfl, .inl rfl⟩, ?_⟩
  rintro c H' ⟨hH, hc⟩
  subst hH
  by_cases hlt : c < size
  · refine bif_pos hlt ⟨by decide, ?_⟩
    rcases hc with rfl | ⟨rfl, h⟩ | ⟨rfl, h⟩ | ⟨rfl, h⟩ | ⟨rfl, h⟩
    · rw [show shlI .i64 1 1 = 2 by decide]; exact ⟨⟨rfl, .inr (.inl ⟨rfl, hlt⟩)⟩, by dsimp only; decide⟩
    · rw [show shlI .i64 2 1 = 4 by decide]; exact ⟨⟨rfl, .inr (.inr (.inl ⟨rfl, hlt⟩))⟩, by dsimp only; decide⟩
    · rw [show shlI .i64 4 1 = 8 by decide]; exact ⟨⟨rfl, .inr (.inr (.inr (.inl ⟨rfl, hlt⟩)))⟩, by dsimp only; decide⟩
    · rw [show shlI .i64 8 1 = 16 by decide]; exact ⟨⟨rfl, .inr (.inr (.inr (.inr ⟨rfl, hlt⟩)))⟩, by dsimp only; decide⟩
    · omega
  · refine bif_neg hlt ?_
    have e : (clsOf size : Int) = c := by
      unfold clsOf
      rw [if_neg (by omega)]
      rcases hc with rfl | ⟨rfl, h⟩ | ⟨rfl, h⟩ | ⟨rfl, h⟩ | ⟨rfl, h⟩
      · rw [if_pos (by omega)]; rfl
      · rw [if_neg (by omega), if_pos (by omega)]; rfl
      · rw [if_neg (by omega), if_neg (by omega), if_pos (by omega)]; rfl
      · rw [if_neg (by omega), if_neg (by omega), if_neg (by omega), if_pos (by omega)]; rfl
      · rw [if_neg (by omega), if_neg (by omega), if_neg (by omega), if_neg (by omega)]; rfl
    rw [e] at hK
    exact hK

theorem full_ok {c : Nat} {H : Hp} {K : Value → Hp → Prop} (hc : isCls c) (hK : K (.int .u16 (fullOf c)) H) : hcall PR f_arena_full ⟨[.int .i64 c]⟩ H K := by
  apply den_arena_full
  unfold B_arena_full
  rcases hc with rfl | rfl | rfl | rfl | rfl
  all_goals
    refine ⟨by decide, by decide, ?_⟩
    exact hK

theorem arenaNew_bad {n : Int} {H : Hp} {K : Value → Hp → Prop} (hn : n < 16 ∨ 4096 < n ∨ Int.tmod n 16 ≠ 0) (hK : K (.tuple #[.pointer none, .int .i64 1]) H) : hcall PR f_arena_New ⟨[.int .i64 n]⟩ H K := by
  apply den_arena_New
  unfold B_arena_New
  by_cases h1 : n < 16
  · exact bif_pos h1 hK
  by_cases h2 : n > 4096
  · exact bif_neg h1 (bif_pos h2 hK)
  · exact bif_neg h1 (bif_neg h2 ⟨by decide, bif_neq (by omega) hK⟩)

theorem arenaNew_ok {n : Nat} {H : Hp} {K : Value → Hp → Prop} (h1 : 1 ≤ n) (h2 : n ≤ 256)
    (hK : ∀ a F H', (Arn a (List.replicate n noBlk)).holds F H' → Goes Nothing H F H' → K (.tuple #[.pointer (some ⟨a, 0, none⟩), .int .i64 0]) H') : hcall PR f_arena_New ⟨[.int .i64 (16 * (n : Int))]⟩ H K := by
  apply den_arena_New
  unfold B_arena_New
  have e1 : Int.tmod (16 * (n : Int)) 16 = 0 := by rw [Int.tmod_eq_emod_of_nonneg (by omega)]; omega
  have e2 : Int.tdiv (16 * (n : Int)) 16 = n := by rw [Int.tdiv_eq_ediv_of_nonneg (by omega)]; omega
  refine bif_neg (by omega) (bif_neg (by omega) ⟨by decide, bif_neqf e1 ⟨by decide, ?_⟩⟩)
  have hw : IntKind.i64.wrap (n : Int) = n := wrap_i64 (by omega) (by omega)
  have e47 : (2 : Int) ^ 47 = 140737488355328 := by decide
  have e62 : (2 : Int) ^ 62 = 4611686018427387904 := by decide
  rw [e2, hw]
  constructor
  · refine mko_ty_Sint (by omega) (by omega) (by omega) fun p1 H1 o1 g1 => ?_
    rw [asSl_mk]
    refine mko_ty_Suint16 (by omega) (by omega) (by omega) fun p2 H2 o2 g2 => ?_
    rw [asSl_mk]
    intro b hb
    obtain ⟨F1, l1, k1⟩ := Prt.more (Prt.list_nil H) (Prt.row_holds o1) g1
    obtain ⟨F2, l2, k2⟩ := Prt.more l1 (Prt.row_holds o2) g2
    obtain ⟨F3, l3, k3⟩ := Prt.alloc (o := .cells #[.slice p1 n n, .slice p2 n n] ty_arena_Arena (0, 0)) (Prt.flip l2) hb
    refine hK b F3 _ ⟨⟨p1, n, p2, n, ty_arena_Arena⟩, ?_⟩ ((k1.trans k2).trans k3)
    simpa [noBlk] using l3
  · refine mko_ty_Suint16 (by omega) (by omega) (by omega) fun p2 H1 o1 g1 => ?_
    rw [asSl_mk]
    refine mko_ty_Sint (by omega) (by omega) (by omega) fun p1 H2 o2 g2 => ?_
    rw [asSl_mk]
    intro b hb
    obtain ⟨F1, l1, k1⟩ := Prt.more (Prt.list_nil H) (Prt.row_holds o1) g1
    obtain ⟨F2, l2, k2⟩ := Prt.more l1 (Prt.row_holds o2) g2
    obtain ⟨F3, l3, k3⟩ := Prt.alloc (o := .cells #[.slice p1 n n, .slice p2 n n] ty_arena_Arena (0, 0)) l2 hb
    refine hK b F3 _ ⟨⟨p1, n, p2, n, ty_arena_Arena⟩, ?_⟩ ((k1.trans k2).trans k3)
    simpa [noBlk] using l3

/-- The first place that is not taken. -/
def First (t k : Nat) : Prop := t.testBit k = false ∧ ∀ j, j < k → t.testBit j = true

theorem First.of {t n : Nat} (h : t < 2 ^ n) (hf : t ≠ 2 ^ n - 1) : ∃ k, k < n ∧ First t k := by
  have hex : ∃ k, k < n ∧ t.testBit k = false := by
    refine Classical.byContradiction fun hno => hf ?_
    apply Nat.eq_of_testBit_eq
    intro j
    rw [Nat.testBit_two_pow_sub_one]
    by_cases hj : j < n
    · cases e : t.testBit j
      · exact absurd ⟨j, hj, e⟩ hno
      · simp [hj]
    · rw [Nat.testBit_lt_two_pow (Nat.lt_of_lt_of_le h (Nat.pow_le_pow_right (by omega) (by omega)))]
      simp [hj]
  obtain ⟨k, hk, hb⟩ := hex
  induction k using Nat.strongRecOn with
  | _ k ih =>
    by_cases hall : ∀ j, j < k → t.testBit j = true
    · exact ⟨k, hk, hb, hall⟩
    · obtain ⟨j, hj⟩ := Classical.not_forall.1 hall
      obtain ⟨hj, hb'⟩ := Classical.not_imp.1 hj
      exact ih j hj (by omega) (by simpa using hb')

theorem blk_set {l : List Blk} {i : Nat} {b : Blk} : (l.map fun b => Value.int .i64 b.c).set i (.int .i64 b.c) = (l.set i b).map (fun b => Value.int .i64 b.c) := by simp [List.map_set]
theorem blk_set' {l : List Blk} {i : Nat} {b : Blk} : (l.map fun b => Value.int .u16 b.t).set i (.int .u16 b.t) = (l.set i b).map (fun b => Value.int .u16 b.t) := by simp [List.map_set]

/-- The rows, opened. -/
theorem Arn.shut {a : Nat} {l : List Blk} {p p2 : Option Addr} {c c2 T : Nat} {F : Nat → Prop} {H : Hp}
    (h : (Prt.list [Prt.one a (.cells #[.slice p l.length c, .slice p2 l.length c2] T (0, 0)), Prt.row 1 p l.length c (l.map fun b => Value.int .i64 b.c), Prt.row 1 p2 l.length c2 (l.map fun b => Value.int .u16 b.t)]).holds F H) : (Arn a l).holds F H := ⟨⟨p, c, p2, c2, T⟩, h⟩

theorem set_same {l : List Blk} {i : Nat} {f : Blk → Value} {b : Blk} (hi : i < l.length) (h : f b = f (l.getD i noBlk)) : (l.set i b).map f = l.map f := by
  rw [List.map_set, h, List.getD_eq_getElem?_getD, List.getElem?_eq_getElem hi, Option.getD_some]
  apply List.ext_getElem
  · simp
  · intro j h1 h2
    rw [List.getElem_set]
    split
    · subst_vars; simp
    · rfl

theorem take_ok {a : Nat} {l : List Blk} {i k : Nat} {F : Nat → Prop} {H : Hp} {K : Value → Hp → Prop} (h : (Arn a l).holds F H) (hi : i < l.length) (hl : l.length ≤ 256) (ht : (l.getD i noBlk).t < 65536) (hk : First (l.getD i noBlk).t k) (hk16 : k < 16) (hc : (l.getD i noBlk).c ≤ 16)
    (hK : ∀ F' H', (Arn a (l.set i ⟨(l.getD i noBlk).c, (l.getD i noBlk).t ||| 2 ^ k⟩)).holds F' H' → Goes F H F' H' → K (.int .i64 ((16 * i + k * (l.getD i noBlk).c : Nat) : Int)) H') : hcall PR f_arena_Arena_take ⟨[.pointer (some ⟨a, 0, none⟩), .int .i64 i]⟩ H K := by
  obtain ⟨x, h⟩ := h
  apply den_arena_Arena_take
  unfold B_arena_Arena_take
  simp only [nilP_mk, add_mk, Nat.zero_add]
  have e0 := Prt.one_cell h (i := 0) (o := 0) rfl rfl
  have e1 := Prt.one_cell h (i := 0) (o := 1) rfl rfl
  have r2 := Prt.row_rd h (i := 2) rfl
  generalize hb : l.getD i noBlk = b at *
  refine ⟨fun j H' => H' = H ∧ ∃ m : Nat, j = m ∧ m ≤ k, fun j _ => (k - j).toNat, ⟨rfl, 0, rfl, by omega⟩, ?_⟩
  rintro j H' ⟨hH, m, rfl, hm⟩
  subst hH
  refine ldSl_of e1 (idx1 (d := noBlk) r2 (by omega) (by omega) fun b' o hpp hcc => ldI_of hcc ⟨by omega, ?_⟩)
  rw [Int.toNat_natCast, hb, bit16 ht (by omega)]
  by_cases hmk : m < k
  · rw [hk.2 m hmk, if_pos rfl]
    refine bif_eq rfl ?_
    rw [wrap_i64 (by omega) (by omega)]
    exact ⟨⟨rfl, m + 1, by omega, by omega⟩, by dsimp only; omega⟩
  · obtain rfl : k = m := by omega
    rw [hk.1, if_neg (by decide)]
    refine bif_ne (by decide) ?_
    refine ldSl_of e1 (idx1 (d := noBlk) r2 (by omega) (by omega) fun b' o hpp hcc => ldI_of hcc ⟨by omega, ?_⟩)
    rw [Int.toNat_natCast, hb, or16 ht hk16]
    refine idx1 (d := noBlk) r2 (by omega) (by omega) fun b' o hpp hcc => ?_
    rw [Int.toNat_natCast]
    refine Prt.poke h (i := 2) rfl hpp (by omega) fun F1 H1 h1 g1 => ?_
    refine ldSl_of (Prt.one_cell h1 (i := 0) (o := 0) rfl rfl) (idx1 (d := noBlk) (Prt.row_rd h1 (i := 1) rfl) (by omega) (by omega) fun b' o hpp hcc => ldI_of hcc ?_)
    rw [Int.toNat_natCast, hb]
    have hmul : k * b.c ≤ 16 * 16 := Nat.mul_le_mul (by omega) hc
    have w1 : IntKind.i64.wrap ((i : Int) * 16) = (i : Int) * 16 := wrap_i64 (by omega) (by omega)
    have w2 : IntKind.i64.wrap ((k : Int) * (b.c : Int)) = ((k * b.c : Nat) : Int) := by
      rw [wrap_i64 (by push_cast [← Int.natCast_mul]; omega) (by rw [← Int.natCast_mul]; omega)]
      push_cast; rfl
    rw [w1, w2, wrap_i64 (by omega) (by omega)]
    rw [show (i : Int) * 16 + ((k * b.c : Nat) : Int) = ((16 * i + k * b.c : Nat) : Int) by omega]
    refine hK F1 H1 (Arn.shut (p := x.1) (p2 := x.2.2.1) (c := x.2.1) (c2 := x.2.2.2.1) (T := x.2.2.2.2) ?_) g1
    rw [set_same (f := fun b => Value.int .i64 b.c) hi (by rw [hb]), ← blk_set' (b := ⟨b.c, b.t ||| 2 ^ k⟩)]
    simpa using h1

theorem bits_ok {t : Nat} {H : Hp} {K : Value → Hp → Prop} (ht : t < 65536) (hK : K (.int .i64 (pop 16 t)) H) : hcall PR f_arena_bits ⟨[.int .u16 t]⟩ H K := by
  apply den_arena_bits
  unfold B_arena_bits
  refine ⟨fun x n H' => H' = H ∧ ∃ u m : Nat, x = u ∧ u < 65536 ∧ n = m ∧ m + pop 16 u = pop 16 t, fun x _ _ => x.toNat, ⟨rfl, t, 0, rfl, ht, rfl, by omega⟩, ?_⟩
  rintro x n H' ⟨hH, u, m, rfl, hu, rfl, hp⟩
  subst hH
  have hple := pop_le (n := 16) (t := t)
  by_cases h0 : u = 0
  · subst h0
    refine bif_neqf rfl ?_
    rw [pop_zero] at hp
    rw [show m = pop 16 t by omega]
    exact hK
  · refine bif_neq (by omega) ⟨by decide, ?_⟩
    have e1 : shrI .u16 (u : Int) 1 = ((u / 2 : Nat) : Int) := shr16 (k := 1) (by omega)
    have e2 := and16_one hu
    have w1 : IntKind.i64.wrap ((u % 2 : Nat) : Int) = ((u % 2 : Nat) : Int) := wrap_i64 (by omega) (by omega)
    rw [e1, e2, w1, wrap_i64 (by omega) (by omega)]
    have hp2 : pop 16 u = u % 2 + pop 16 (u / 2) := by
      rw [show pop 16 u = u % 2 + pop 15 (u / 2) by rfl, pop_more (n := 15) (m := 16) (by omega) (by omega)]
    refine ⟨⟨rfl, u / 2, m + u % 2, rfl, by omega, by omega, by omega⟩, by dsimp only; omega⟩

/-- Where room is for a class: a block of the class that is not full, else a free one. -/
def ArFits (l : List Blk) (c i k : Nat) : Prop :=
  i < l.length ∧ (((l.getD i noBlk).c = c ∧ k < 16 / c ∧ First (l.getD i noBlk).t k ∧ ∀ j, j < i → (l.getD j noBlk).c = c → (l.getD j noBlk).t = fullOf c) ∨
    ((l.getD i noBlk).c = 0 ∧ k = 0 ∧ (∀ j, j < i → (l.getD j noBlk).c ≠ 0) ∧ ∀ j, j < l.length → (l.getD j noBlk).c = c → (l.getD j noBlk).t = fullOf c))
def ArNoFit (l : List Blk) (c : Nat) : Prop := ∀ j, j < l.length → (l.getD j noBlk).c ≠ 0 ∧ ((l.getD j noBlk).c = c → (l.getD j noBlk).t = fullOf c)

/-- The arena behind a place was taken. -/
def tookAt (l : List Blk) (c i k : Nat) : List Blk := l.set i ⟨c, (l.getD i noBlk).t ||| 2 ^ k⟩

end Go.Proofs.Ytohlnmenghbgbaa
