/- Chapter 7's statements, run: ArenaAll. No condition. -/
import Derived.Test.YtdeihhfhcnhmfaaLaw7r
namespace Go.Proofs.Ytdeihhfhcnhmfaa
set_option linter.unusedSimpArgs false
set_option linter.unusedVariables false
set_option linter.unnecessarySimpa false
open Go

theorem atPlace_took {l : List Blk} {c i k : Nat} (hok : allOk l) (hc : isCls c) (hf : ArFits l c i k) {cell : Int} {b' k' : Nat} :
    AtPlace (tookAt l c i k) cell b' k' ↔ AtPlace l cell b' k' ∨ (b' = i ∧ k' = k ∧ cell = ((16 * i + k * c : Nat) : Int)) := by
  obtain ⟨hi, hf⟩ := hf
  have hs := hc.small
  have hg := fun j => getD_set_blk (l := l) (i := i) (j := j) (b := ⟨c, (l.getD i noBlk).t ||| 2 ^ k⟩) hi
  have hlen : (tookAt l c i k).length = l.length := took_length
  by_cases hb : b' = i
  · subst hb
    have hg := hg b'
    rw [if_pos rfl] at hg
    have hk16 : k < 16 / c := by
      rcases hf with ⟨_, h, _⟩ | ⟨_, rfl, _⟩
      · exact h
      · omega
    constructor
    · rintro ⟨h1, h2, h3, h4, h5⟩
      unfold tookAt at h2 h3 h4 h5
      rw [hg] at h2 h3 h4 h5
      simp only at h2 h3 h4 h5
      rw [testBit_or_pow] at h5
      by_cases hkk : k' = k
      · subst hkk
        exact .inr ⟨rfl, rfl, h4⟩
      · have h5 : (l.getD b' noBlk).t.testBit k' = true := by simpa [hkk] using h5
        rcases hf with ⟨e, _⟩ | ⟨e, _⟩
        · exact .inl ⟨hi, by rw [e]; omega, by rw [e]; exact h3, by rw [e]; exact h4, h5⟩
        · rw [(hok b' hi).free e] at h5
          simp at h5
    · rintro (⟨h1, h2, h3, h4, h5⟩ | ⟨_, rfl, h4⟩)
      · rcases hf with ⟨e, _⟩ | ⟨e, _⟩
        · rw [e] at h3 h4
          refine ⟨by rw [hlen]; exact hi, ?_, ?_, ?_, ?_⟩
          all_goals unfold tookAt; rw [hg]; simp only
          · omega
          · exact h3
          · exact h4
          · rw [testBit_or_pow, h5]; rfl
        · exact absurd e h2
      · refine ⟨by rw [hlen]; exact hi, ?_, ?_, ?_, ?_⟩
        all_goals unfold tookAt; rw [hg]; simp only
        · omega
        · exact hk16
        · exact h4
        · rw [testBit_or_pow]; simp
  · have hg := hg b'
    rw [if_neg hb] at hg
    constructor
    · rintro ⟨h1, h2, h3, h4, h5⟩
      unfold tookAt at h2 h3 h4 h5
      rw [hg] at h2 h3 h4 h5
      exact .inl ⟨by rw [hlen] at h1; exact h1, h2, h3, h4, h5⟩
    · rintro (⟨h1, h2, h3, h4, h5⟩ | ⟨h, _⟩)
      · refine ⟨by rw [hlen]; exact h1, ?_, ?_, ?_, ?_⟩
        all_goals unfold tookAt; rw [hg]; assumption
      · exact absurd h hb

theorem atPlace_free {l : List Blk} {x : Int} {b k : Nat} (hok : allOk l) (hp : AtPlace l x b k) {cell : Int} {b' k' : Nat} :
    AtPlace (l.set b (freed (l.getD b noBlk) k)) cell b' k' ↔ AtPlace l cell b' k' ∧ ¬ (b' = b ∧ k' = k) := by
  have hi := hp.lt
  have hbok := hok b hi
  have hts := hbok.small
  obtain ⟨hc, _, _⟩ := hbok.cls hp.c0
  have hk16 : k < 16 := by have := hp.k1; have := hc.small; omega
  have hg := getD_set_blk (l := l) (i := b) (j := b') (b := freed (l.getD b noBlk) k) hi
  have hst := fun j => testBit_strike (t := (l.getD b noBlk).t) (k := k) (j := j) hts.1 hk16
  by_cases hb : b' = b
  · subst hb
    rw [if_pos rfl] at hg
    by_cases hz : strike (l.getD b' noBlk).t k = 0
    · have hf : freed (l.getD b' noBlk) k = noBlk := by unfold freed; rw [if_pos hz]
      rw [hf] at hg ⊢
      constructor
      · rintro ⟨h1, h2, _⟩
        rw [hg] at h2
        exact absurd rfl h2
      · rintro ⟨⟨h1, h2, h3, h4, h5⟩, hn⟩
        have := hst k'
        rw [hz, h5] at this
        have hkk : k' ≠ k := fun e => hn ⟨rfl, e⟩
        simp [hkk] at this
    · have hf : freed (l.getD b' noBlk) k = ⟨(l.getD b' noBlk).c, strike (l.getD b' noBlk).t k⟩ := by unfold freed; rw [if_neg hz]
      rw [hf] at hg ⊢
      constructor
      · rintro ⟨h1, h2, h3, h4, h5⟩
        rw [hg] at h2 h3 h4 h5
        simp only at h2 h3 h4 h5
        rw [hst] at h5
        simp only [Bool.and_eq_true, decide_eq_true_eq] at h5
        exact ⟨⟨hi, h2, h3, h4, h5.1⟩, fun e => h5.2 e.2⟩
      · rintro ⟨⟨h1, h2, h3, h4, h5⟩, hn⟩
        refine ⟨by simpa using hi, ?_, ?_, ?_, ?_⟩
        all_goals rw [hg]; simp only
        · exact h2
        · exact h3
        · exact h4
        · rw [hst, h5]
          have hkk : k' ≠ k := fun e => hn ⟨rfl, e⟩
          simp [hkk]
  · rw [if_neg hb] at hg
    constructor
    · rintro ⟨h1, h2, h3, h4, h5⟩
      rw [hg] at h2 h3 h4 h5
      exact ⟨⟨by simpa using h1, h2, h3, h4, h5⟩, fun e => hb e.1⟩
    · rintro ⟨⟨h1, h2, h3, h4, h5⟩, hn⟩
      refine ⟨by simpa using h1, ?_, ?_, ?_, ?_⟩
      all_goals rw [hg]; assumption

/-- The places that are taken, listed. -/
structure Listed (l : List Blk) (at_ : List Int) : Prop where
  nodup : at_.Nodup
  mem : ∀ cell, cell ∈ at_ ↔ ∃ b k, AtPlace l cell b k

theorem Listed.took {l : List Blk} {at_ : List Int} {c i k : Nat} (h : Listed l at_) (hok : allOk l) (hc : isCls c) (hf : ArFits l c i k) : Listed (tookAt l c i k) (at_ ++ [((16 * i + k * c : Nat) : Int)]) := by
  have hnew : ((16 * i + k * c : Nat) : Int) ∉ at_ := fun hm => by
    obtain ⟨b', k', hp⟩ := (h.mem _).1 hm
    obtain ⟨hi, hff⟩ := id hf
    obtain ⟨hc', _, _⟩ := (hok b' hp.lt).cls hp.c0
    have p' := place_split (b := b') hc' hp.k1
    have hat := hp.at_
    have hk16 : k < 16 / c := by
      rcases hff with ⟨_, h, _⟩ | ⟨_, rfl, _⟩
      · exact h
      · have := hc.small; omega
    have p := place_split (b := i) hc hk16
    obtain rfl : b' = i := by omega
    rcases hff with ⟨e, _, hfirst, _⟩ | ⟨e, _⟩
    · rw [e] at hat
      have : k' * c = k * c := by omega
      have hkk : k' = k := by rw [← p.2.2.2, ← this, ← e, p'.2.2.2]
      subst hkk
      have hbit := hp.bit
      rw [hfirst.1] at hbit
      cases hbit
    · exact hp.c0 e
  refine ⟨?_, fun cell => ?_⟩
  · rw [List.nodup_append]
    refine ⟨h.nodup, by simp, fun a ha b hb => ?_⟩
    have hb := List.mem_singleton.1 hb
    subst hb
    exact fun e => hnew (e ▸ ha)
  · rw [List.mem_append, h.mem]
    simp only [List.mem_singleton]
    constructor
    · rintro (⟨b, k', hp⟩ | rfl)
      · exact ⟨b, k', (atPlace_took hok hc hf).2 (.inl hp)⟩
      · exact ⟨i, k, (atPlace_took hok hc hf).2 (.inr ⟨rfl, rfl, rfl⟩)⟩
    · rintro ⟨b, k', hp⟩
      rcases (atPlace_took hok hc hf).1 hp with hp | ⟨_, _, e⟩
      · exact .inl ⟨b, k', hp⟩
      · exact .inr e

theorem Listed.free {l : List Blk} {at_ : List Int} {j b k : Nat} (h : Listed l at_) (hok : allOk l) (hj : j < at_.length) (hp : AtPlace l at_[j] b k) : Listed (l.set b (freed (l.getD b noBlk) k)) (at_.eraseIdx j) := by
  refine ⟨h.nodup.sublist (List.eraseIdx_sublist at_ j), fun cell => ?_⟩
  have hw : cell ∈ at_.eraseIdx j ↔ cell ∈ at_ ∧ cell ≠ at_[j] := by
    rw [List.mem_eraseIdx_iff_getElem]
    constructor
    · rintro ⟨i, hi, hij, rfl⟩
      exact ⟨List.getElem_mem _, fun e => hij ((List.getElem_inj h.nodup).1 e)⟩
    · rintro ⟨h1, h2⟩
      obtain ⟨i, hi, rfl⟩ := List.mem_iff_getElem.1 h1
      exact ⟨i, hi, fun e => h2 (by subst e; rfl), rfl⟩
  rw [hw, h.mem]
  constructor
  · rintro ⟨⟨b', k', hp'⟩, hne⟩
    refine ⟨b', k', (atPlace_free hok hp).2 ⟨hp', fun e => hne ?_⟩⟩
    obtain ⟨rfl, rfl⟩ := e
    rw [hp'.at_, hp.at_]
  · rintro ⟨b', k', hp'⟩
    obtain ⟨hp', hne⟩ := (atPlace_free hok hp).1 hp'
    refine ⟨⟨b', k', hp'⟩, fun e => hne ?_⟩
    rw [e] at hp'
    exact hp'.unique hok hp

theorem Listed.none {l : List Blk} (h : Listed l []) (hok : allOk l) : ∀ j, j < l.length → (l.getD j noBlk).c = 0 ∧ (l.getD j noBlk).t = 0 := fun j hj => by
  have hc : (l.getD j noBlk).c = 0 := Classical.byContradiction fun hc => by
    obtain ⟨hcls, ht, hne⟩ := (hok j hj).cls hc
    have : ∃ k, k < 16 / (l.getD j noBlk).c ∧ (l.getD j noBlk).t.testBit k = true := Classical.byContradiction fun hno => hne (by
      apply Nat.eq_of_testBit_eq
      intro k
      rw [Nat.zero_testBit]
      by_cases hk : k < 16 / (l.getD j noBlk).c
      · cases e : (l.getD j noBlk).t.testBit k
        · rfl
        · exact absurd ⟨k, hk, e⟩ hno
      · exact Nat.testBit_lt_two_pow (Nat.lt_of_lt_of_le ht (Nat.pow_le_pow_right (by omega) (by omega))))
    obtain ⟨k, hk, hb⟩ := this
    have := (h.mem ((16 * j + k * (l.getD j noBlk).c : Nat) : Int)).2 ⟨j, k, hj, hc, hk, rfl, hb⟩
    cases this
  exact ⟨hc, (hok j hj).free hc⟩

theorem Listed.new {n : Nat} : Listed (List.replicate n noBlk) [] := by
  refine ⟨List.nodup_nil, fun cell => ⟨fun h => absurd h (by simp), ?_⟩⟩
  rintro ⟨b, k, hp⟩
  exfalso
  refine hp.c0 ?_
  rw [List.getD_eq_getElem?_getD, List.getElem?_replicate]
  split <;> rfl

theorem ones_ints {k : IntKind} {l : List Int} : ∀ y ∈ l.map (fun x => Value.int k x), one y = true := fun y hy => by
  obtain ⟨_, _, rfl⟩ := List.mem_map.1 hy
  rfl
theorem int_getD {l : List Int} {k : Nat} (h : k < l.length) : l.getD k 0 = l[k] := by
  rw [List.getD_eq_getElem?_getD, List.getElem?_eq_getElem h]
  rfl

set_option maxRecDepth 20000 in
theorem ArenaAll_ok {q : Int} {p p2 : Option Addr} {m c m2 c2 : Nat} {l l2 : List Int} {H : Hp} {K : Value → Hp → Prop} (hk : IntKind.min .i64 ≤ q ∧ q ≤ IntKind.max .i64)
    (hl : Rd H 1 p m (l.map fun x => Value.int .i64 x)) (hm : m ≤ 9223372036854775807) (hQ : ∀ y ∈ l, IntKind.min .i64 ≤ y ∧ y ≤ IntKind.max .i64)
    (hl2 : Rd H 1 p2 m2 (l2.map fun x => Value.int .i64 x)) (hm2 : m2 ≤ 9223372036854775807) (hQ2 : ∀ y ∈ l2, IntKind.min .i64 ≤ y ∧ y ≤ IntKind.max .i64)
    (hK : ∀ H', Keep Nothing H H' → K (.bool true) H') : hcall PR f_law7_ArenaAll ⟨[.int .i64 q, .slice p m c, .slice p2 m2 c2]⟩ H K := by
  have hln : l.length = m := by have := hl.1; simpa using this
  apply den_law7_ArenaAll
  unfold B_law7_ArenaAll
  refine Pick_ok (by omega) (by omega) ?_
  have hq := pick_lt (n := q) (m := 12) (by omega)
  generalize pick q 12 = t at hq
  simp only [asI_mk']
  obtain ⟨w1, w2⟩ := blocks_wrap hq (by omega)
  simp only [w1]
  simp only [w2]
  have hn1 : 1 ≤ (1 + t).toNat := by omega
  have hn2 : (1 + t).toNat ≤ 12 := by omega
  generalize (1 + t).toNat = n at *
  refine arenaNew_ok hn1 (by omega) fun a F1 H1 s1 g1 => ?_
  simp only [tup2_mk, asP_mk, asI_mk']
  refine known7_ok fun H2 k2 => ?_
  have s2 := (Arn _ _).still s1 ((Goes.of k2).less fun _ => id)
  have g2 := g1.trans ((Goes.of k2).part (F := F1) (F1 := F1) (fun _ h => h.elim) fun _ h => .inl h)
  simp only [asB_mk, Bool.not_true, cond_false, Option.isNone_some]
  refine bif_neqf rfl ?_
  intro R20 hR20
  have hend : ∀ (P : Option Addr) (C : Nat) (H3 : Hp) (F3 : Nat → Prop) (bl : List Blk) (at_ : List Int), (Prt.list [Arn a bl, Prt.row 1 P at_.length C (at_.map fun y => Value.int .i64 y)]).holds F3 H3 → Goes Nothing H F3 H3 → allOk bl → bl.length = n → Listed bl at_ → at_.length ≤ 300 → R20 P at_.length C H3 := fun P C H3 F3 bl at_ s3 g3 ok3 len3 li3 le3 => by
    refine hR20 P at_.length C H3 ?_
    refine ⟨fun P L C i H' => ∃ (F : Nat → Prop) (bl : List Blk) (at_ : List Int), L = at_.length ∧ 0 ≤ i ∧ i + L ≤ 300 ∧ (Prt.list [Arn a bl, Prt.row 1 P at_.length C (at_.map fun y => Value.int .i64 y)]).holds F H' ∧ Goes Nothing H F H' ∧ allOk bl ∧ bl.length = n ∧ Listed bl at_, fun P L C i _ => L,
      ⟨F3, bl, at_, rfl, by omega, by omega, s3, g3, ok3, len3, li3⟩, ?_⟩
    clear s3 g3 ok3 len3 li3 le3
    rintro P L C i H4 ⟨F4, bl, at_, rfl, hi0, hi1, s4, g4, ok4, len4, li4⟩
    by_cases hpos : (at_.length : Int) > 0
    · refine bif_pos hpos ?_
      intro R32 hR32
      have hstep : ∀ k : Nat, k < at_.length → R32 k H4 := fun k hk => by
        refine hR32 k H4 ?_
        have hrow := Prt.row_rd s4 (i := 1) rfl
        obtain ⟨FA, hA, _, upA⟩ := Prt.at s4 (i := 0) rfl
        obtain ⟨b', k', hp⟩ := (li4.mem at_[k]).1 (List.getElem_mem hk)
        refine idx1 (g := fun x => Value.int .i64 x) (d := 0) hrow (by omega) (by omega) fun b1 o1 hp1 hc1 => ldI_of hc1 ?_
        rw [Int.toNat_natCast, int_getD hk]
        refine Free_at hA ok4 (by omega) hp fun FA' H5 hA' gA => ?_
        obtain ⟨F5, s5, g5⟩ := upA _ FA' H5 hA' gA
        have ok5 := ok4.free hp
        have li5 := li4.free ok4 hk hp
        have len5 : (bl.set b' (freed (bl.getD b' noBlk) k')).length = n := by simpa using len4
        have no5 : ∀ b2 k2, ¬ AtPlace (bl.set b' (freed (bl.getD b' noBlk) k')) at_[k] b2 k2 := fun b'' k'' hp'' => by
          obtain ⟨hp3, hne⟩ := (atPlace_free ok4 hp).1 hp''
          exact hne (hp3.unique ok4 hp)
        simp only [asI_mk']
        refine bif_neqf rfl ?_
        have hrow5 := Prt.row_rd s5 (i := 1) rfl
        refine idx1 (g := fun x => Value.int .i64 x) (d := 0) hrow5 (by omega) (by omega) fun b1 o1 hp1 hc1 => ldI_of hc1 ?_
        rw [Int.toNat_natCast, int_getD hk]
        obtain ⟨FB, hB, _, _⟩ := Prt.at s5 (i := 0) rfl
        refine Free_none hB ok5 (by omega) no5 ?_
        simp only [asI_mk']
        refine bif_neqf rfl ?_
        have o7 := Prt.row_own s5 (i := 1) rfl
        have hcap := o7.2.1
        refine slc_to (by omega) (by omega) ?_
        rw [wrap_i64 (by omega) (by omega)]
        refine slc_from (by omega) (by omega) ?_
        rw [show ((k : Int) + 1).toNat = k + 1 by omega, Int.toNat_natCast]
        intro b1 hb1
        have r1 := o7.rd.take (m := k) (by omega)
        have r2 := o7.rd.drop (l := k + 1) (by omega) hcap
        rw [Nat.mul_one, ← List.map_take] at r1
        rw [Nat.mul_one, ← List.map_drop] at r2
        refine copy_ty_Sint hb1 r1 ones_ints (by omega) fun p2 c2 H8 o8 g8 => ?_
        simp only [asSl_mk]
        refine app_ty_Sint o8 (r2.keep g8.keep fun _ _ => id) ones_ints (by omega) fun p3 c3 H9 o9 k9 n9 => ?_
        simp only [asSl_mk]
        have g9 : Goes Nothing H5 (blk p3) H9 := g8.trans ⟨k9, n9⟩
        have hlen : (at_.eraseIdx k).length = at_.length - 1 := List.length_eraseIdx_of_lt hk
        have e1 : k + (at_.length - (k + 1)) = (at_.eraseIdx k).length := by omega
        rw [← List.map_append, ← List.eraseIdx_eq_take_drop_succ, e1] at o9
        obtain ⟨F9, s9, g9'⟩ := Prt.change s5 (i := 1) rfl (Prt.row_holds o9) g9
        rw [e1, wrap_i64 (by omega) (by omega)]
        exact ⟨⟨F9, _, at_.eraseIdx k, rfl, by omega, by omega, s9, (g4.trans g5).trans g9', ok5, len5, li5⟩, by omega⟩
      by_cases hio : i < m2
      · refine bif_pos hio ?_
        refine idx1 (g := fun x => Value.int .i64 x) (d := 0) (hl2.keep g4.keep fun _ _ => id) hi0 hio fun b1 o1 hp1 hc1 => ldI_of hc1 (Pick_ok (by omega) (by omega) ?_)
        simp only [asI_mk']
        generalize l2.getD i.toNat 0 = z
        have hz := pick_lt (n := z) (m := at_.length) (by omega)
        have := hstep (pick z at_.length).toNat (by omega)
        rwa [show (((pick z at_.length).toNat : Nat) : Int) = pick z at_.length by omega] at this
      · exact bif_neg hio (hstep 0 (by omega))
    · refine bif_neg hpos ?_
      obtain rfl : at_ = [] := List.length_eq_zero_iff.1 (by omega)
      have hnone := li4.none ok4
      obtain ⟨FA, hA, hsub, upA⟩ := Prt.at s4 (i := 0) rfl
      have gA := g4.less hsub
      refine Blocks_ok hA (by omega) fun P5 C5 H5 o5 g5 => ?_
      have s5 := (Arn _ _).still hA g5
      have g5' : Goes Nothing H FA H5 := gA.trans (g5.part (fun _ h => h.elim) fun _ h => .inl h)
      simp only [asSl_mk]
      refine ⟨fun i H' => H' = H5 ∧ ∃ j : Nat, i = j ∧ j ≤ bl.length, fun i _ => (bl.length - i).toNat, ⟨rfl, 0, rfl, by omega⟩, ?_⟩
      rintro i H' ⟨hH, j, rfl, hj⟩
      subst hH
      by_cases hlt : (j : Int) < bl.length
      · refine bif_pos hlt (idx1 (d := noBlk) o5.rd (by omega) hlt fun b1 o1 hp1 hc1 => ldI_of hc1 ?_)
        rw [Int.toNat_natCast, (hnone j (by omega)).1, wrap_i64 (by omega) (by omega)]
        exact bif_neqf rfl ⟨⟨rfl, j + 1, by omega, by omega⟩, by dsimp only; omega⟩
      · refine bif_neg hlt ?_
        have hfit : ArFits bl (clsOf 16) 0 0 := ⟨by omega, .inr ⟨(hnone 0 (by omega)).1, rfl, fun j hj => absurd hj (Nat.not_lt_zero j), fun j hj hc => absurd (hnone j hj).1 (by rw [hc]; decide)⟩⟩
        refine Alloc_at s5 ok4 (by omega) (by decide) hfit fun F6 H6 s6 g6 => ?_
        have ok6 := ok4.took (clsOf_cls (by decide)) hfit
        simp only [tup2_mk, asI_mk']
        refine bif_eq (by omega) (Used_ok s6 ok6 (by rw [took_length]; omega) ?_)
        simp only [asI_mk']
        have hu : sumOf usedOf (tookAt bl (clsOf 16) 0 0) = 16 := by
          have h := sumOf_set (f := usedOf) (b := ⟨clsOf 16, (bl.getD 0 noBlk).t ||| 2 ^ 0⟩) (l := bl) (i := 0) (by omega)
          have hz := sumOf_zero (f := usedOf) (l := bl) fun j hj => by unfold usedOf; rw [(hnone j hj).1, Nat.zero_mul]
          have h0 : usedOf (bl.getD 0 noBlk) = 0 := by unfold usedOf; rw [(hnone 0 (by omega)).1, Nat.zero_mul]
          have h1 : usedOf ⟨clsOf 16, (bl.getD 0 noBlk).t ||| 2 ^ 0⟩ = 16 := by rw [(hnone 0 (by omega)).2]; decide
          unfold tookAt
          omega
        rw [hu]
        refine bif_eq rfl (bif_eq (by decide) ?_)
        exact hK H6 (g5'.trans g6).keep
  refine ⟨fun P L C i H' => ∃ (j : Nat) (F : Nat → Prop) (bl : List Blk) (at_ : List Int), i = j ∧ j ≤ m ∧ j ≤ 300 ∧ L = at_.length ∧ at_.length ≤ j ∧ (Prt.list [Arn a bl, Prt.row 1 P at_.length C (at_.map fun y => Value.int .i64 y)]).holds F H' ∧ Goes Nothing H F H' ∧ allOk bl ∧ bl.length = n ∧ Listed bl at_, fun P L C i _ => (m - i).toNat, ?_, ?_⟩
  · obtain ⟨FR, sR, gR⟩ : ∃ F, (Prt.list [Prt.row 1 none 0 0 (([] : List Int).map fun y => Value.int .i64 y)]).holds F H2 ∧ Goes Nothing H2 F H2 :=
      ⟨blk none, ⟨blk none, Nothing, Prt.row_holds (Own.nil 1), Prt.list_nil H2, fun _ _ h => h, fun c => ⟨.inl, fun h => h.elim id fun h => h.elim⟩⟩, Keep.refl _ _, fun c h => absurd h blk_none⟩
    exact ⟨0, fun c => F1 c ∨ FR c, _, [], rfl, by omega, by omega, rfl, by simp, ⟨F1, FR, s2, sR, (Arn _ _).apart s2 gR (fun _ _ => id), fun _ => Iff.rfl⟩, g2.trans (gR.part (fun _ h => h.elim) fun _ h => h), allOk.new, by simp, Listed.new⟩
  rintro P L C i H3 ⟨j, F3, bl, at_, rfl, hj, hj3, rfl, hle, s3, g3, ok3, len3, li3⟩
  by_cases hlt : (j : Int) < m
  rotate_left
  · exact bif_neg hlt (hend P C H3 F3 bl at_ s3 g3 ok3 len3 li3 (by omega))
  refine bif_pos hlt ?_
  by_cases h300 : (j : Int) < 300
  rotate_left
  · exact bif_neg h300 (hend P C H3 F3 bl at_ s3 g3 ok3 len3 li3 (by omega))
  refine bif_pos h300 ?_
  intro R95 hR95
  refine idx1 (g := fun x => Value.int .i64 x) (d := 0) (hl.keep g3.keep fun _ _ => id) (by omega) hlt fun b1 o1 hp1 hc1 => ldI_of hc1 (Pick_ok (by omega) (by omega) ?_)
  simp only [asI_mk']
  have hz := pick_lt (n := l.getD (j : Int).toNat 0) (m := 16) (by omega)
  generalize pick (l.getD (j : Int).toNat 0) 16 = z at hz
  have w5 : IntKind.i64.wrap (1 + z) = 1 + z := wrap_i64 (by omega) (by omega)
  have w6 : IntKind.i64.wrap ((j : Int) + 1) = ((j + 1 : Nat) : Int) := by rw [wrap_i64 (by omega) (by omega)]; omega
  rw [w5]
  have hcz := clsOf_pick hz
  obtain ⟨FA, hA, _, upA⟩ := Prt.at s3 (i := 0) rfl
  refine Alloc_ok hA ok3 (by omega) (fun h => absurd h hcz) (fun _ i' k' hf FA' H5 hA' gA => ?_) fun _ hn => ?_
  · obtain ⟨F5, s5, g5⟩ := upA _ FA' H5 hA' gA
    have ok5 := ok3.took (clsOf_cls hcz) hf
    have li5 := li3.took ok3 (clsOf_cls hcz) hf
    have len5 : (tookAt bl (clsOf (1 + z)) i' k').length = n := by rw [took_length]; exact len3
    simp only [tup2_mk, asI_mk']
    refine bif_eq rfl ?_
    obtain ⟨FR, ⟨oR, hFR⟩, _, upR⟩ := Prt.at s5 (i := 1) rfl
    refine lit_ty_Sint oR (m := 1) (by simp) (by simp [one]) (by omega) fun P' C' H6 o6 g6 => ?_
    have hFR' : FR = blk P := funext fun c => propext (hFR c)
    obtain ⟨F6, s6, g6'⟩ := upR (Prt.row 1 P' (at_.length + 1) C' ((at_ ++ [((16 * i' + k' * clsOf (1 + z) : Nat) : Int)]).map fun y => Value.int .i64 y)) (blk P') H6 ⟨by rw [List.map_append]; exact o6, fun _ => Iff.rfl⟩ (by rw [hFR']; exact g6)
    simp only [asSl_mk]
    refine hR95 P' (at_.length + 1) C' H6 ?_
    rw [w6]
    exact ⟨⟨j + 1, F6, _, _, rfl, by omega, by omega, by simp, by simp; omega, by simpa using s6, (g3.trans g5).trans g6', ok5, len5, li5⟩, by dsimp only; omega⟩
  · simp only [tup2_mk, asI_mk']
    refine bif_ne (by decide) (hR95 P at_.length C H3 ?_)
    rw [w6]
    exact ⟨⟨j + 1, F3, bl, at_, rfl, by omega, by omega, rfl, by omega, s3, g3, ok3, len3, li3⟩, by dsimp only; omega⟩

end Go.Proofs.Ytdeihhfhcnhmfaa
