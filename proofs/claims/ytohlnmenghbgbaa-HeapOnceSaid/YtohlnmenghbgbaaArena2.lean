/- Package arena, run: the calls. No condition. -/
import Derived.Test.YtohlnmenghbgbaaArena
namespace Go.Proofs.Ytohlnmenghbgbaa
set_option linter.unusedSimpArgs false
set_option linter.unusedVariables false
set_option linter.unnecessarySimpa false
open Go

def allOk (l : List Blk) : Prop := ∀ j, j < l.length → (l.getD j noBlk).ok

theorem Blk.ok.small {b : Blk} (h : b.ok) : b.t < 65536 ∧ b.c ≤ 16 := by
  by_cases hc : b.c = 0
  · rw [h.free hc, hc]; exact ⟨by omega, by omega⟩
  · obtain ⟨h1, h2, h3⟩ := h.cls hc
    have h4 := h1.small
    have : 2 ^ (16 / b.c) ≤ 2 ^ 16 := Nat.pow_le_pow_right (by omega) h4.2.2.2.1
    have e : (2 : Nat) ^ 16 = 65536 := by decide
    exact ⟨by omega, h4.2.1⟩

theorem getD_set_blk {l : List Blk} {i j : Nat} {b : Blk} (hi : i < l.length) : (l.set i b).getD j noBlk = if j = i then b else l.getD j noBlk := by
  rw [List.getD_eq_getElem?_getD, List.getElem?_set, List.getD_eq_getElem?_getD]
  by_cases h : i = j
  · subst h; simp [hi]
  · simp [h, Ne.symm h]

set_option maxRecDepth 20000 in
theorem Alloc_ok {a : Nat} {l : List Blk} {size : Int} {F : Nat → Prop} {H : Hp} {K : Value → Hp → Prop} (h : (Arn a l).holds F H) (hok : allOk l) (hl : l.length ≤ 256)
    (harg : clsOf size = 0 → K (.tuple #[.int .i64 0, .int .i64 1]) H)
    (hfit : clsOf size ≠ 0 → ∀ i k, ArFits l (clsOf size) i k → ∀ F' H', (Arn a (tookAt l (clsOf size) i k)).holds F' H' → Goes F H F' H' → K (.tuple #[.int .i64 ((16 * i + k * clsOf size : Nat) : Int), .int .i64 0]) H')
    (hnone : clsOf size ≠ 0 → ArNoFit l (clsOf size) → K (.tuple #[.int .i64 0, .int .i64 2]) H) : hcall PR f_arena_Arena_Alloc ⟨[.pointer (some ⟨a, 0, none⟩), .int .i64 size]⟩ H K := by
  apply den_arena_Arena_Alloc
  unfold B_arena_Arena_Alloc
  refine Class_ok ?_
  simp only [asI_mk', nilP_mk, add_mk, Nat.zero_add]
  by_cases hc0 : clsOf size = 0
  · exact bif_eq (by omega) (harg hc0)
  have hcls := clsOf_cls hc0
  have hfit := hfit hc0
  have hnone := hnone hc0
  refine bif_ne (by omega) ?_
  generalize clsOf size = c at *
  clear harg hc0
  have hcs := hcls.small
  obtain ⟨x, h'⟩ := id h
  have e0 := Prt.one_cell h' (i := 0) (o := 0) rfl rfl
  have e1 := Prt.one_cell h' (i := 0) (o := 1) rfl rfl
  have r1 := Prt.row_rd h' (i := 1) rfl
  have r2 := Prt.row_rd h' (i := 2) rfl
  refine ldSl_of e0 ?_
  refine ⟨fun free t H' => H' = H ∧ ∃ j : Nat, t = j ∧ j ≤ l.length ∧ (∀ i, i < j → (l.getD i noBlk).c = c → (l.getD i noBlk).t = fullOf c) ∧
    ((free = -1 ∧ ∀ i, i < j → (l.getD i noBlk).c ≠ 0) ∨ ∃ f : Nat, free = f ∧ f < j ∧ (l.getD f noBlk).c = 0 ∧ ∀ i, i < f → (l.getD i noBlk).c ≠ 0),
    fun _ t _ => (l.length - t).toNat, ⟨rfl, 0, rfl, by omega, fun i hi => absurd hi (Nat.not_lt_zero _), .inl ⟨rfl, fun i hi => absurd hi (Nat.not_lt_zero _)⟩⟩, ?_⟩
  rintro free t H' ⟨hH, j, rfl, hj, hfull, hfree⟩
  subst hH
  by_cases hlt : (j : Int) < l.length
  · refine bif_pos hlt ?_
    intro R15 hR15
    refine idx1 (d := noBlk) r1 (by omega) hlt fun b' o hpp hcc => ldI_of hcc ?_
    rw [Int.toNat_natCast]
    have hbok := hok j (by omega)
    have hbs := hbok.small
    have hnext : ∀ free' : Int, ((l.getD j noBlk).c = c → (l.getD j noBlk).t = fullOf c) → ((free' = -1 ∧ ∀ i, i < j + 1 → (l.getD i noBlk).c ≠ 0) ∨ ∃ f : Nat, free' = f ∧ f < j + 1 ∧ (l.getD f noBlk).c = 0 ∧ ∀ i, i < f → (l.getD i noBlk).c ≠ 0) → R15 free' H' := fun free' hf hfr => by
      refine hR15 free' H' ?_
      rw [wrap_i64 (by omega) (by omega)]
      refine ⟨⟨rfl, j + 1, by omega, by omega, fun i hi hic => ?_, hfr⟩, by dsimp only; omega⟩
      by_cases hij : i = j
      · subst hij; exact hf hic
      · exact hfull i (by omega) hic
    intro R20 hR20
    have hgo : ((l.getD j noBlk).c = c → (l.getD j noBlk).t = fullOf c) → R20 H' := fun hf => by
      refine hR20 H' ?_
      by_cases hz : (l.getD j noBlk).c = 0
      · refine bif_eq (by omega) ?_
        rcases hfree with ⟨rfl, hno⟩ | ⟨f, rfl, hfj, hf0, hfn⟩
        · exact bif_pos (by decide) (hnext j hf (.inr ⟨j, rfl, by omega, hz, fun i hi => hno i hi⟩))
        · exact bif_neg (by omega) (hnext f hf (.inr ⟨f, rfl, by omega, hf0, hfn⟩))
      · refine bif_ne (by omega) (hnext free hf ?_)
        rcases hfree with ⟨rfl, hno⟩ | ⟨f, rfl, hfj, hf0, hfn⟩
        · refine .inl ⟨rfl, fun i hi => ?_⟩
          by_cases hij : i = j
          · subst hij; exact hz
          · exact hno i (by omega)
        · exact .inr ⟨f, rfl, by omega, hf0, hfn⟩
    by_cases hcc : (l.getD j noBlk).c = c
    · refine bif_eq (by omega) (ldSl_of e1 (idx1 (d := noBlk) r2 (by omega) hlt fun b' o hpp hct => ldI_of hct (full_ok hcls ?_)))
      simp only [asI_mk', Int.toNat_natCast] at hct ⊢
      refine ⟨ldI_of hct rfl, ldSl_of e1 rfl, ?_⟩
      by_cases hf : (l.getD j noBlk).t = fullOf c
      · exact bif_neqf (by omega) (hgo fun _ => hf)
      · refine bif_neq (by omega) ?_
        have hc0 : (l.getD j noBlk).c ≠ 0 := by omega
        obtain ⟨_, ht2, _⟩ := hbok.cls hc0
        rw [hcc] at ht2
        obtain ⟨k, hk, hfirst⟩ := First.of ht2 hf
        refine take_ok h (by omega) hl hbs.1 hfirst (by omega) hbs.2 fun F' H'' h'' g'' => ?_
        rw [hcc] at h'' ⊢
        simp only [asI_mk']
        exact hfit j k ⟨by omega, .inl ⟨hcc, hk, hfirst, fun i hi => hfull i hi⟩⟩ F' H'' h'' g''
    · exact bif_ne (by omega) (hgo fun h => absurd h hcc)
  · refine bif_neg hlt ?_
    obtain rfl : j = l.length := by omega
    rcases hfree with ⟨rfl, hno⟩ | ⟨f, rfl, hfj, hf0, hfn⟩
    · exact bif_pos (by decide) (hnone fun i hi => ⟨hno i hi, hfull i hi⟩)
    · refine bif_neg (by omega) (ldSl_of e0 (idx1 (d := noBlk) r1 (by omega) (by omega) fun b' o hpp hcc => ?_))
      rw [Int.toNat_natCast]
      refine Prt.poke h' (i := 1) rfl hpp (by omega) fun F1 H1 h1 g1 => ?_
      have ht0 : (l.getD f noBlk).t = 0 := (hok f (by omega)).free hf0
      have h2 : (Arn a (l.set f ⟨c, 0⟩)).holds F1 H1 := by
        refine Arn.shut (p := x.1) (p2 := x.2.2.1) (c := x.2.1) (c2 := x.2.2.2.1) (T := x.2.2.2.2) ?_
        rw [set_same (f := fun b => Value.int .u16 b.t) hfj (by rw [ht0]), ← blk_set (b := ⟨c, 0⟩)]
        simpa using h1
      have eg : (l.set f ⟨c, 0⟩).getD f noBlk = ⟨c, 0⟩ := by rw [getD_set_blk hfj, if_pos rfl]
      refine take_ok (k := 0) h2 (by simpa using hfj) (by simpa using hl) (by rw [eg]; show (0 : Nat) < 65536; omega) (by rw [eg]; exact ⟨by simp, fun i hi => absurd hi (Nat.not_lt_zero _)⟩) (by omega) (by rw [eg]; exact hcs.2.1) fun F' H'' h'' g'' => ?_
      rw [eg] at h'' ⊢
      simp only [asI_mk']
      refine hfit f 0 ⟨hfj, .inr ⟨hf0, rfl, hfn, fun i hi => hfull i hi⟩⟩ F' H'' ?_ (g1.trans g'')
      rw [List.set_set] at h''
      unfold tookAt
      rw [ht0]
      exact h''

/-- Where a place that is taken begins. -/
structure AtPlace (l : List Blk) (cell : Int) (b k : Nat) : Prop where
  lt : b < l.length
  c0 : (l.getD b noBlk).c ≠ 0
  k1 : k < 16 / (l.getD b noBlk).c
  at_ : cell = ((16 * b + k * (l.getD b noBlk).c : Nat) : Int)
  bit : (l.getD b noBlk).t.testBit k = true

theorem place_split {c k b : Nat} (hc : isCls c) (hk : k < 16 / c) : (16 * b + k * c) / 16 = b ∧ (16 * b + k * c) % 16 = k * c ∧ (k * c) % c = 0 ∧ (k * c) / c = k := by
  have hs := hc.small
  have h1 : k * c < 16 := by
    have : k * c < 16 / c * c := Nat.mul_lt_mul_of_pos_right hk (by omega)
    omega
  refine ⟨by omega, by omega, Nat.mul_mod_left k c, Nat.mul_div_cancel k (by omega)⟩

theorem place_ok {a : Nat} {l : List Blk} {cell : Int} {F : Nat → Prop} {H : Hp} {K : Value → Hp → Prop} (h : (Arn a l).holds F H) (hok : allOk l) (hl : l.length ≤ 256)
    (hno : (∀ b k, ¬ AtPlace l cell b k) → ∀ x y, K (.tuple #[.int .i64 x, .int .i64 y, .bool false]) H)
    (hyes : ∀ b k, AtPlace l cell b k → K (.tuple #[.int .i64 b, .int .i64 k, .bool true]) H) : hcall PR f_arena_Arena_place ⟨[.pointer (some ⟨a, 0, none⟩), .int .i64 cell]⟩ H K := by
  apply den_arena_Arena_place
  unfold B_arena_Arena_place
  simp only [nilP_mk, add_mk, Nat.zero_add]
  obtain ⟨x, h'⟩ := id h
  have e0 := Prt.one_cell h' (i := 0) (o := 0) rfl rfl
  have e1 := Prt.one_cell h' (i := 0) (o := 1) rfl rfl
  have r1 := Prt.row_rd h' (i := 1) rfl
  have r2 := Prt.row_rd h' (i := 2) rfl
  by_cases h0 : cell < 0
  · refine bif_pos h0 (hno (fun b k hp => ?_) _ _)
    have := hp.at_
    omega
  refine bif_neg h0 (ldSl_of e0 ?_)
  have w1 : IntKind.i64.wrap ((l.length : Int) * 16) = (l.length : Int) * 16 := wrap_i64 (by omega) (by omega)
  rw [w1]
  obtain ⟨n, rfl⟩ : ∃ n : Nat, cell = n := ⟨cell.toNat, by omega⟩
  by_cases h1 : (n : Int) ≥ (l.length : Int) * 16
  · refine bif_pos h1 (hno (fun b k hp => ?_) _ _)
    have h2 := hp.at_
    have h3 := hp.lt
    obtain ⟨hc, _, _⟩ := (hok b h3).cls hp.c0
    have := place_split (b := b) hc hp.k1
    omega
  refine bif_neg h1 ⟨by decide, by decide, ?_⟩
  have e2 : Int.tdiv (n : Int) 16 = ((n / 16 : Nat) : Int) := by rw [Int.tdiv_eq_ediv_of_nonneg (by omega)]; omega
  have e3 : Int.tmod (n : Int) 16 = ((n % 16 : Nat) : Int) := by rw [Int.tmod_eq_emod_of_nonneg (by omega)]; omega
  rw [e2, e3, wrap_i64 (by omega) (by omega)]
  have hb : n / 16 < l.length := by omega
  have hn : n = 16 * (n / 16) + n % 16 := by omega
  have hin : n % 16 < 16 := by omega
  generalize n / 16 = b at hb hn
  generalize n % 16 = i at hn hin
  refine ldSl_of e0 (idx1 (d := noBlk) r1 (by omega) (by omega) fun b' o hpp hcc => ldI_of hcc ?_)
  simp only [Int.toNat_natCast] at hcc ⊢
  have hbok := hok b hb
  by_cases hc0 : (l.getD b noBlk).c = 0
  · refine bif_eq (by omega) (hno (fun b' k hp => ?_) _ _)
    have h2 := hp.at_
    obtain ⟨hc, _, _⟩ := (hok b' hp.lt).cls hp.c0
    have h5 := place_split (b := b') hc hp.k1
    obtain rfl : b' = b := by omega
    exact hp.c0 hc0
  obtain ⟨hcls, ht, _⟩ := hbok.cls hc0
  have hs := hcls.small
  have hts := hbok.small
  refine bif_ne (by omega) (ldSl_of e0 (idx1 (d := noBlk) r1 (by omega) (by omega) fun b' o hpp hcc => ldI_of hcc ⟨by simp only [Int.toNat_natCast]; omega, ?_⟩))
  simp only [Int.toNat_natCast] at hcc ⊢
  have e4 : Int.tmod (i : Int) ((l.getD b noBlk).c : Int) = ((i % (l.getD b noBlk).c : Nat) : Int) := by rw [Int.tmod_eq_emod_of_nonneg (by omega)]; norm_cast
  have e5 : Int.tdiv (i : Int) ((l.getD b noBlk).c : Int) = ((i / (l.getD b noBlk).c : Nat) : Int) := by rw [Int.tdiv_eq_ediv_of_nonneg (by omega)]; norm_cast
  rw [e4]
  by_cases hm : i % (l.getD b noBlk).c = 0
  rotate_left
  · refine bif_neq (by omega) (hno (fun b' k hp => ?_) _ _)
    have h2 := hp.at_
    obtain ⟨hc, _, _⟩ := (hok b' hp.lt).cls hp.c0
    have h5 := place_split (b := b') hc hp.k1
    obtain rfl : b' = b := by omega
    obtain rfl : i = k * (l.getD b' noBlk).c := by omega
    exact hm h5.2.2.1
  refine bif_neqf (by omega) (ldSl_of e0 (idx1 (d := noBlk) r1 (by omega) (by omega) fun b' o hpp hcc => ldI_of hcc ⟨by simp only [Int.toNat_natCast]; omega, ?_⟩))
  simp only [Int.toNat_natCast] at hcc ⊢
  refine ldSl_of e1 (idx1 (d := noBlk) r2 (by omega) (by omega) fun b' o hpp hcc => ldI_of hcc ?_)
  simp only [Int.toNat_natCast] at hcc ⊢
  have hdiv : i / (l.getD b noBlk).c < 16 / (l.getD b noBlk).c := by
    rw [Nat.div_lt_iff_lt_mul (by omega)]
    omega
  have hik : i = i / (l.getD b noBlk).c * (l.getD b noBlk).c := by
    have := Nat.div_add_mod' i (l.getD b noBlk).c
    omega
  generalize hqd : i / (l.getD b noBlk).c = q at *
  rw [e5, wrap_i64 (by omega) (by omega)]
  refine ⟨by omega, ?_⟩
  rw [bit16 hts.1 (by omega)]
  cases hbit : (l.getD b noBlk).t.testBit q
  · rw [if_neg (by decide)]
    refine hno (fun b' k hp => ?_) _ _
    have h2 := hp.at_
    obtain ⟨hc, _, _⟩ := (hok b' hp.lt).cls hp.c0
    have h5 := place_split (b := b') hc hp.k1
    obtain rfl : b' = b := by omega
    have hi' : i = k * (l.getD b' noBlk).c := by omega
    rw [hi', h5.2.2.2] at hqd
    rw [← hqd, hp.bit] at hbit
    cases hbit
  · rw [if_pos rfl]
    refine hyes b q ⟨hb, hc0, hdiv, ?_, hbit⟩
    rw [← hik]
    omega

/-- A place struck. -/
def freed (b : Blk) (k : Nat) : Blk := if strike b.t k = 0 then noBlk else ⟨b.c, strike b.t k⟩


theorem Free_ok {a : Nat} {l : List Blk} {cell : Int} {F : Nat → Prop} {H : Hp} {K : Value → Hp → Prop} (h : (Arn a l).holds F H) (hok : allOk l) (hl : l.length ≤ 256)
    (hno : (∀ b k, ¬ AtPlace l cell b k) → K (.int .i64 9) H)
    (hyes : ∀ b k, AtPlace l cell b k → ∀ F' H', (Arn a (l.set b (freed (l.getD b noBlk) k))).holds F' H' → Goes F H F' H' → K (.int .i64 0) H') : hcall PR f_arena_Arena_Free ⟨[.pointer (some ⟨a, 0, none⟩), .int .i64 cell]⟩ H K := by
  apply den_arena_Arena_Free
  unfold B_arena_Arena_Free
  refine place_ok h hok hl (fun hp x y => ?_) fun b k hp => ?_
  · simp only [tup3_mk, asI_mk', asB_mk, Bool.not_false, cond_true]
    exact hno hp
  · simp only [tup3_mk, asI_mk', asB_mk, Bool.not_true, cond_false, nilP_mk, add_mk, Nat.zero_add]
    obtain ⟨x, h'⟩ := id h
    have hlt := hp.lt
    have hbok := hok b hlt
    have hs := hbok.small
    obtain ⟨hcls, _, _⟩ := hbok.cls hp.c0
    have hk16 : k < 16 := by have := hp.k1; have := hcls.small; omega
    have hyes := hyes b k hp
    have e1 := Prt.one_cell h' (i := 0) (o := 1) rfl rfl
    have r2 := Prt.row_rd h' (i := 2) rfl
    refine ldSl_of e1 (idx1 (d := noBlk) r2 (by omega) (by omega) fun b' o hpp hcc => ldI_of hcc ⟨by omega, ?_⟩)
    rw [Int.toNat_natCast]
    unfold freed at hyes
    generalize hbb : l.getD b noBlk = B at *
    rw [andNot16 hs.1 hk16]
    refine idx1 (d := noBlk) r2 (by omega) (by omega) fun b' o hpp hcc => ?_
    rw [Int.toNat_natCast]
    refine Prt.poke h' (i := 2) rfl hpp (by omega) fun F1 H1 h1 g1 => ?_
    have h2 : (Arn a (l.set b ⟨B.c, strike B.t k⟩)).holds F1 H1 := by
      refine Arn.shut (p := x.1) (p2 := x.2.2.1) (c := x.2.1) (c2 := x.2.2.2.1) (T := x.2.2.2.2) ?_
      rw [set_same (f := fun b => Value.int .i64 b.c) hlt (by rw [hbb]), ← blk_set' (b := ⟨B.c, strike B.t k⟩)]
      simpa using h1
    obtain ⟨y, h2'⟩ := id h2
    have hlen : (l.set b ⟨B.c, strike B.t k⟩).length = l.length := by simp
    have eg : (l.set b ⟨B.c, strike B.t k⟩).getD b noBlk = ⟨B.c, strike B.t k⟩ := by rw [getD_set_blk hlt, if_pos rfl]
    refine ldSl_of (Prt.one_cell h2' (i := 0) (o := 1) rfl rfl) (idx1 (d := noBlk) (Prt.row_rd h2' (i := 2) rfl) (by omega) (by omega) fun b' o hpp hcc => ldI_of hcc ?_)
    rw [Int.toNat_natCast, eg]
    by_cases hz : strike B.t k = 0
    · refine bif_eq (by rw [hz]; rfl) (ldSl_of (Prt.one_cell h2' (i := 0) (o := 0) rfl rfl) (idx1 (d := noBlk) (Prt.row_rd h2' (i := 1) rfl) (by omega) (by omega) fun b' o hpp hcc => ?_))
      rw [Int.toNat_natCast]
      refine Prt.poke h2' (i := 1) rfl hpp (by omega) fun F3 H3 h3 g3 => ?_
      refine hyes F3 H3 ?_ (g1.trans g3)
      rw [if_pos hz]
      refine Arn.shut (p := y.1) (p2 := y.2.2.1) (c := y.2.1) (c2 := y.2.2.2.1) (T := y.2.2.2.2) ?_
      have a1 : (l.set b noBlk).map (fun b => Value.int .i64 b.c) = ((l.set b ⟨B.c, strike B.t k⟩).map fun b => Value.int .i64 b.c).set b (.int .i64 0) := by
        rw [List.map_set, List.map_set, List.set_set]; rfl
      have a2 : (l.set b noBlk).map (fun b => Value.int .u16 b.t) = (l.set b ⟨B.c, strike B.t k⟩).map fun b => Value.int .u16 b.t := by
        rw [List.map_set, List.map_set, hz]; rfl
      rw [a1, a2]
      simpa using h3
    · refine bif_ne (show ((strike B.t k : Nat) : Int) ≠ 0 by omega) (hyes F1 H1 ?_ g1)
      rw [if_neg hz]
      exact h2

end Go.Proofs.Ytohlnmenghbgbaa
