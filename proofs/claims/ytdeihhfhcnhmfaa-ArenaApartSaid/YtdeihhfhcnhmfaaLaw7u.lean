/- Chapter 7's statements, run: ArenaApart. No condition. -/
import Derived.Test.YtdeihhfhcnhmfaaLaw7t
namespace Go.Proofs.Ytdeihhfhcnhmfaa
set_option linter.unusedSimpArgs false
set_option linter.unusedVariables false
set_option linter.unnecessarySimpa false
open Go

abbrev ints64 (l : List Int) : List Value := l.map fun y => Value.int .i64 y

/-- Writing the same into cells that lie in a row, where each was read as 0: the law's own loop. -/
theorem Kept.new {n : Nat} : Kept n (List.replicate n noBlk) (List.replicate (16 * n) 0) [] [] :=
  ⟨allOk.new, by simp, Listed.new, by simp, rfl, fun j hj => absurd hj (Nat.not_lt_zero j), fun cell h => absurd (by rw [List.getD_eq_getElem?_getD, List.getElem?_replicate]; split <;> rfl) h⟩

theorem Alloc_any {a : Nat} {l : List Blk} {size : Int} {F : Nat → Prop} {H : Hp} {K : Value → Hp → Prop} (h : (Arn a l).holds F H) (hok : allOk l) (hl : l.length ≤ 256) (hc : clsOf size ≠ 0)
    (hK : ∀ (x e : Int) (F' : Nat → Prop) (H' : Hp) (bl : List Blk), (Arn a bl).holds F' H' → Goes F H F' H' → ((e = 0 ∧ ∃ i k, ArFits l (clsOf size) i k ∧ x = ((16 * i + k * clsOf size : Nat) : Int) ∧ bl = tookAt l (clsOf size) i k) ∨ (e = 2 ∧ bl = l)) → K (.tuple #[.int .i64 x, .int .i64 e]) H') :
    hcall PR f_arena_Arena_Alloc ⟨[.pointer (some ⟨a, 0, none⟩), .int .i64 size]⟩ H K :=
  Alloc_ok h hok hl (fun h => absurd h hc) (fun _ i k hf F' H' h' g' => hK _ _ F' H' _ h' g' (.inl ⟨rfl, i, k, hf, rfl, rfl⟩)) fun _ _ => hK _ _ F H l h (Goes.refl _ _) (.inr ⟨rfl, rfl⟩)

theorem Kept.place {n : Nat} {bl : List Blk} {ow at_ of_ : List Int} {z b k : Nat} (h : Kept n bl ow at_ of_) (hz : z < at_.length) (hp : AtPlace bl at_[z] b k) : 0 ≤ at_[z] ∧ 1 ≤ of_.getD z 0 ∧ at_[z] + of_.getD z 0 ≤ 16 * n := by
  have h1 := h.size z hz b k (by rw [int_getD hz]; exact hp)
  obtain ⟨hc, _, _⟩ := (h.ok b hp.lt).cls hp.c0
  have hs := hc.small
  have hat := hp.at_
  have hk := hp.k1
  have hl := h.len
  have hlt := hp.lt
  have : (k + 1) * (bl.getD b noBlk).c ≤ 16 / (bl.getD b noBlk).c * (bl.getD b noBlk).c := Nat.mul_le_mul_right _ (by omega)
  rw [Nat.succ_mul] at this
  omega

set_option maxRecDepth 20000 in
set_option maxHeartbeats 1000000 in
theorem ArenaApart_ok {q : Int} {p p2 : Option Addr} {m c m2 c2 : Nat} {l l2 : List Int} {H : Hp} {K : Value → Hp → Prop} (hk : IntKind.min .i64 ≤ q ∧ q ≤ IntKind.max .i64)
    (hl : Rd H 1 p m (l.map fun x => Value.int .i64 x)) (hm : m ≤ 9223372036854775807) (hQ : ∀ y ∈ l, IntKind.min .i64 ≤ y ∧ y ≤ IntKind.max .i64)
    (hl2 : Rd H 1 p2 m2 (l2.map fun x => Value.int .i64 x)) (hm2 : m2 ≤ 9223372036854775807) (hQ2 : ∀ y ∈ l2, IntKind.min .i64 ≤ y ∧ y ≤ IntKind.max .i64)
    (hK : ∀ H', Keep Nothing H H' → K (.bool true) H') : hcall PR f_law7_ArenaApart ⟨[.int .i64 q, .slice p m c, .slice p2 m2 c2]⟩ H K := by
  have hln : l.length = m := by have := hl.1; simpa using this
  apply den_law7_ArenaApart
  unfold B_law7_ArenaApart
  refine Pick_ok (by omega) (by omega) ?_
  have hq := pick_lt (n := q) (m := 12) (by omega)
  generalize pick q 12 = t at hq
  simp only [asI_mk']
  obtain ⟨w1, _⟩ := blocks_wrap hq (by omega)
  simp only [w1]
  have hn1 : 1 ≤ (1 + t).toNat := by omega
  have hn2 : (1 + t).toNat ≤ 12 := by omega
  generalize (1 + t).toNat = n at *
  refine arenaNew_ok hn1 (by omega) fun a F1 H1 s1 g1 => ?_
  simp only [tup2_mk, asP_mk, asI_mk']
  refine known7_ok fun H2 k2 => ?_
  have s2 := (Arn _ _).still s1 ((Goes.of k2).less fun _ => id)
  have g2 := g1.trans ((Goes.of k2).part (F := F1) (F1 := F1) (fun _ h => h.elim) fun _ h => .inl h)
  simp only [asB_mk, Bool.not_true, cond_false, Option.isNone_some]
  refine bif_neqf rfl ?_
  have e47 : (2 : Int) ^ 47 = 140737488355328 := by decide
  have e62 : (2 : Int) ^ 62 = 4611686018427387904 := by decide
  refine mko_ty_Sint (by omega) (by omega) (by omega) fun mp H3 o3 g3 => ?_
  have e16 : (16 * (n : Int)).toNat = 16 * n := by omega
  rw [e16] at o3 ⊢
  simp only [asSl_mk]
  refine ⟨fun P L C P' L' C' i H' => ∃ (j : Nat) (F : Nat → Prop) (bl : List Blk) (ow at_ of_ : List Int), i = j ∧ j ≤ m ∧ j ≤ 300 ∧ L = at_.length ∧ L' = at_.length ∧ at_.length ≤ j ∧
      (Prt.list [Arn a bl, Prt.row 1 mp (16 * n) (16 * n) (ow.map fun y => Value.int .i64 y), Prt.row 1 P at_.length C (at_.map fun y => Value.int .i64 y), Prt.row 1 P' at_.length C' (of_.map fun y => Value.int .i64 y)]).holds F H' ∧ Goes Nothing H F H' ∧ Kept n bl ow at_ of_,
    fun P L C P' L' C' i _ => (m - i).toNat, ?_, ?_⟩
  · have hnil : ∀ {H' : Hp}, (Prt.row 1 none 0 0 (([] : List Int).map fun y => Value.int .i64 y)).holds (blk none) H' := Prt.row_holds (Own.nil 1)
    have gnil : ∀ {H' : Hp}, Goes Nothing H' (blk none) H' := ⟨Keep.refl _ _, fun c h => absurd h blk_none⟩
    obtain ⟨G1, t1, q1⟩ := Prt.more (Prt.list_nil H3) (hnil (H' := H3)) gnil
    obtain ⟨G2, t2, q2⟩ := Prt.more t1 (hnil (H' := H3)) gnil
    have q12 := q1.trans q2
    obtain ⟨G0, t0, q0⟩ := Prt.more (Prt.list_nil H2) (Prt.row_holds o3) g3
    have e0 : List.replicate (16 * n) (Value.int .i64 0) = (List.replicate (16 * n) (0 : Int)).map fun y => Value.int .i64 y := by simp
    rw [e0] at o3
    obtain ⟨G3, t3, q3⟩ : ∃ F, (Prt.list [Prt.row 1 mp (16 * n) (16 * n) ((List.replicate (16 * n) (0 : Int)).map fun y => Value.int .i64 y), Prt.row 1 none 0 0 (([] : List Int).map fun y => Value.int .i64 y), Prt.row 1 none 0 0 (([] : List Int).map fun y => Value.int .i64 y)]).holds F H3 ∧ Goes Nothing H2 F H3 :=
      ⟨fun c => blk mp c ∨ G2 c, ⟨blk mp, G2, Prt.row_holds o3, t2, (Prt.row _ _ _ _ _).apart (Prt.row_holds o3) q12 (fun _ _ => id), fun _ => Iff.rfl⟩, g3.trans (q12.part (fun _ h => h.elim) fun _ h => h)⟩
    refine ⟨0, fun c => F1 c ∨ G3 c, _, _, [], [], rfl, by omega, by omega, rfl, rfl, by simp, ⟨F1, G3, (Arn _ _).still s2 q3, t3, (Arn _ _).apart s2 q3 (fun _ _ => id), fun _ => Iff.rfl⟩, g2.trans (q3.part (fun _ h => h.elim) fun _ h => h), Kept.new⟩
  clear s1 s2 g1 g2 g3 o3 k2
  rintro P L C P' L' C' i H4 ⟨j, F4, bl, ow, at_, of_, rfl, hj, hj3, rfl, rfl, hle, s4, g4, kp⟩
  by_cases hlt : (j : Int) < m
  rotate_left
  · exact bif_neg hlt (hK H4 g4.keep)
  refine bif_pos hlt ?_
  by_cases h300 : (j : Int) < 300
  rotate_left
  · exact bif_neg h300 (hK H4 g4.keep)
  refine bif_pos h300 ?_
  have w6 : IntKind.i64.wrap ((j : Int) + 1) = ((j + 1 : Nat) : Int) := by rw [wrap_i64 (by omega) (by omega)]; omega
  simp only [w6]
  intro R35 hR35
  have hnext : ∀ (P : Option Addr) (C : Nat) (P' : Option Addr) (C' : Nat) (F : Nat → Prop) (H' : Hp) (bl : List Blk) (ow at_ of_ : List Int), at_.length ≤ j + 1 →
      (Prt.list [Arn a bl, Prt.row 1 mp (16 * n) (16 * n) (ow.map fun y => Value.int .i64 y), Prt.row 1 P at_.length C (at_.map fun y => Value.int .i64 y), Prt.row 1 P' at_.length C' (of_.map fun y => Value.int .i64 y)]).holds F H' → Goes Nothing H F H' → Kept n bl ow at_ of_ → R35 P at_.length C P' at_.length C' H' := fun P C P' C' F H' bl ow at_ of_ h1 h2 h3 h4 => by
    refine hR35 _ _ _ _ _ _ _ ?_
    exact ⟨⟨j + 1, F, bl, ow, at_, of_, rfl, by omega, by omega, rfl, rfl, h1, h2, h3, h4⟩, by omega⟩
  refine idx1 (g := fun x => Value.int .i64 x) (d := 0) (hl.keep g4.keep fun _ _ => id) (by omega) hlt fun b1 o1 hp1 hc1 => ldI_of hc1 (Pick_ok (by omega) (by omega) ?_)
  simp only [asI_mk']
  have hz := pick_lt (n := l.getD (j : Int).toNat 0) (m := 16) (by omega)
  generalize pick (l.getD (j : Int).toNat 0) 16 = z at hz
  have w5 : IntKind.i64.wrap (1 + z) = 1 + z := wrap_i64 (by omega) (by omega)
  simp only [w5]
  have hcz := clsOf_pick hz
  have hcls := clsOf_cls hcz
  have hbz := clsOf_bounds (size := 1 + z) (by omega)
  have hcs := hcls.small
  obtain ⟨FA, hA, _, upA⟩ := Prt.at s4 (i := 0) rfl
  refine Alloc_any hA kp.ok (by have := kp.len; omega) hcz fun x e FA' H5 bl' hA' gA hcase => ?_
  obtain ⟨F5, s5, g5⟩ := upA _ FA' H5 hA' gA
  have g5 := g4.trans g5
  simp only [tup2_mk, asI_mk']
  intro R54 hR54
  have h54 : R54 H5 := by
    refine hR54 H5 ?_
    intro R56 hR56
    have hafter : ∀ (P : Option Addr) (C : Nat) (P' : Option Addr) (C' : Nat) (F : Nat → Prop) (H' : Hp) (bl : List Blk) (ow at_ of_ : List Int), at_.length ≤ j + 1 →
        (Prt.list [Arn a bl, Prt.row 1 mp (16 * n) (16 * n) (ow.map fun y => Value.int .i64 y), Prt.row 1 P at_.length C (at_.map fun y => Value.int .i64 y), Prt.row 1 P' at_.length C' (of_.map fun y => Value.int .i64 y)]).holds F H' → Goes Nothing H F H' → Kept n bl ow at_ of_ → R56 P at_.length C P' at_.length C' H' := fun P C P' C' F H' bl ow at_ of_ h1 h2 h3 h4 => by
      refine hR56 _ _ _ _ _ _ _ ?_
      have hl2' := hl2.keep h3.keep fun _ _ => id
      by_cases hjm : (j : Int) < m2
      rotate_left
      · exact bif_neg hjm (hnext P C P' C' F H' bl ow at_ of_ h1 h2 h3 h4)
      refine bif_pos hjm (idx1 (g := fun x => Value.int .i64 x) (d := 0) hl2' (by omega) hjm fun b1 o1 hp1 hc1 => ldI_of hc1 ⟨by decide, ?_⟩)
      generalize hv : l2.getD (j : Int).toNat 0 = v
      by_cases h3z : Int.tmod v 3 = 0
      rotate_left
      · exact bif_ne h3z (hnext P C P' C' F H' bl ow at_ of_ h1 h2 h3 h4)
      refine bif_eq h3z ?_
      by_cases hpos : (at_.length : Int) > 0
      rotate_left
      · exact bif_neg hpos (hnext P C P' C' F H' bl ow at_ of_ h1 h2 h3 h4)
      refine bif_pos hpos (idx1 (g := fun x => Value.int .i64 x) (d := 0) hl2' (by omega) hjm fun b1 o1 hp1 hc1 => ldI_of hc1 (Pick_ok (by omega) (by omega) ?_))
      simp only [asI_mk']
      rw [hv]
      have hpk := pick_lt (n := v) (m := at_.length) (by omega)
      obtain ⟨kk, hkk⟩ : ∃ kk : Nat, pick v at_.length = kk := ⟨(pick v at_.length).toNat, by omega⟩
      rw [hkk]
      have hk' : kk < at_.length := by omega
      have hlen := h4.len
      obtain ⟨b', k', hp⟩ := (h4.li.mem at_[kk]).1 (List.getElem_mem hk')
      obtain ⟨pl1, pl2, pl3⟩ := h4.place hk' hp
      refine idx1 (g := fun x => Value.int .i64 x) (d := 0) (Prt.row_rd h2 (i := 2) rfl) (by omega) (by omega) fun b1 o1 hp1 hc1 => ldI_of hc1 ?_
      rw [Int.toNat_natCast, int_getD hk']
      obtain ⟨FB, hB, _, upB⟩ := Prt.at h2 (i := 0) rfl
      refine Free_at hB h4.ok (by omega) hp fun FB' H6 hB' gB => ?_
      obtain ⟨F6, s6, g6⟩ := upB _ FB' H6 hB' gB
      have g6 := h3.trans g6
      have ok6 := h4.ok.free hp
      have len6 : (bl.set b' (freed (bl.getD b' noBlk) k')).length = n := by simpa using hlen
      have no6 : ∀ b2 k2, ¬ AtPlace (bl.set b' (freed (bl.getD b' noBlk) k')) at_[kk] b2 k2 := fun b2 k2 hp2 => by
        obtain ⟨hp3, hne⟩ := (atPlace_free h4.ok hp).1 hp2
        exact hne (hp3.unique h4.ok hp)
      simp only [asI_mk']
      refine bif_neqf rfl (idx1 (g := fun x => Value.int .i64 x) (d := 0) (Prt.row_rd s6 (i := 2) rfl) (by omega) (by omega) fun b1 o1 hp1 hc1 => ldI_of hc1 ?_)
      rw [Int.toNat_natCast, int_getD hk']
      obtain ⟨FC, hC, _, _⟩ := Prt.at s6 (i := 0) rfl
      refine At_none hC ok6 (by omega) no6 ?_
      simp only [asI_mk']
      refine bif_neqf rfl (idx1 (g := fun x => Value.int .i64 x) (d := 0) (Prt.row_rd s6 (i := 2) rfl) (by omega) (by omega) fun b1 o1 hp1 hc1 => ldI_of hc1 ?_)
      rw [Int.toNat_natCast, int_getD hk']
      refine ⟨fun jj H' => ∃ (y : Nat) (F : Nat → Prop) (ow' : List Int), jj = at_[kk] + y ∧ (y : Int) ≤ of_.getD kk 0 ∧
          (Prt.list [Arn a (bl.set b' (freed (bl.getD b' noBlk) k')), Prt.row 1 mp (16 * n) (16 * n) (ow'.map fun y => Value.int .i64 y), Prt.row 1 P at_.length C (at_.map fun y => Value.int .i64 y), Prt.row 1 P' at_.length C' (of_.map fun y => Value.int .i64 y)]).holds F H' ∧ Goes Nothing H F H' ∧ ow'.length = 16 * n ∧
          ∀ cell : Nat, ow'.getD cell 0 ≠ 0 → ow.getD cell 0 ≠ 0 ∧ ¬ (at_[kk] ≤ cell ∧ (cell : Int) < at_[kk] + y), fun jj _ => (16 * (n : Int) - jj).toNat,
        ⟨0, F6, ow, by omega, by omega, s6, g6, h4.olen, fun cell hne => ⟨hne, by omega⟩⟩, ?_⟩
      rintro jj H7 ⟨y, F7, ow', rfl, hy, s7, g7, hol, how⟩
      refine idx1 (g := fun x => Value.int .i64 x) (d := 0) (Prt.row_rd s7 (i := 2) rfl) (by omega) (by omega) fun b1 o1 hp1 hc1 => ldI_of hc1 ?_
      rw [Int.toNat_natCast, int_getD hk']
      refine idx1 (g := fun x => Value.int .i64 x) (d := 0) (Prt.row_rd s7 (i := 3) rfl) (by omega) (by omega) fun b1 o1 hp1 hc1 => ldI_of hc1 ?_
      rw [Int.toNat_natCast, wrap_i64 (by omega) (by omega)]
      by_cases hyo : at_[kk] + (y : Int) < at_[kk] + of_.getD kk 0
      · refine bif_pos hyo (idx1 (g := fun x => Value.int .i64 x) (d := 0) (Prt.row_rd s7 (i := 1) rfl) (by omega) (by omega) fun b1 o1 hp1 hc1 => ?_)
        refine Prt.poke s7 (i := 1) rfl hp1 (by omega) fun F8 H8 s8 g8 => ?_
        rw [wrap_i64 (by omega) (by omega)]
        refine ⟨⟨y + 1, F8, ow'.set (at_[kk] + (y : Int)).toNat 0, by omega, by omega, by simpa [List.map_set] using s8, g7.trans g8, by simpa using hol, fun cell hne => ?_⟩, by dsimp only; omega⟩
        rw [getD_setI (by omega)] at hne
        split at hne
        · exact absurd rfl hne
        · obtain ⟨a1, a2⟩ := how cell hne
          exact ⟨a1, by omega⟩
      · refine bif_neg hyo ?_
        have hkept : Kept n (bl.set b' (freed (bl.getD b' noBlk) k')) ow' (at_.eraseIdx kk) (of_.eraseIdx kk) := by
          refine h4.free hk' hp hol fun cell hne => ?_
          obtain ⟨a1, a2⟩ := how cell hne
          rw [int_getD hk']
          exact ⟨a1, by omega⟩
        have hlen1 : (at_.eraseIdx kk).length = at_.length - 1 := List.length_eraseIdx_of_lt hk'
        refine without_ok s7 (i := 2) rfl hk' (by omega) fun P2 C2 F8 H8 s8 g8 => ?_
        refine without_ok s8 (i := 3) rfl hk' (by omega) fun P3 C3 F9 H9 s9 g9 => ?_
        have := hnext P2 C2 P3 C3 F9 H9 _ ow' (at_.eraseIdx kk) (of_.eraseIdx kk) (by omega) (by rw [hlen1]; simpa using s9) ((g7.trans g8).trans g9) hkept
        rwa [hlen1] at this
    rcases hcase with ⟨rfl, i', k', hf, rfl, rfl⟩ | ⟨rfl, rfl⟩
    · have hok5 := kp.ok.took hcls hf
      have hfresh := kp.fresh hcls hf hbz.1
      have hp : AtPlace (tookAt bl (clsOf (1 + z)) i' k') ((16 * i' + k' * clsOf (1 + z) : Nat) : Int) i' k' := (atPlace_took kp.ok hcls hf).2 (.inr ⟨rfl, rfl, rfl⟩)
      have hgd : ((tookAt bl (clsOf (1 + z)) i' k').getD i' noBlk).c = clsOf (1 + z) := by unfold tookAt; rw [getD_set_blk hf.1, if_pos rfl]
      have hk16 : k' < 16 / clsOf (1 + z) := by have := hp.k1; rwa [hgd] at this
      have pl := place_split (b := i') hcls hk16
      have up : k' * clsOf (1 + z) + clsOf (1 + z) ≤ 16 := by
        have : (k' + 1) * clsOf (1 + z) ≤ 16 / clsOf (1 + z) * clsOf (1 + z) := Nat.mul_le_mul_right _ (by omega)
        rw [Nat.succ_mul] at this
        omega
      have hi' : i' < n := by have := hf.1; have := kp.len; omega
      have hlen5 : (tookAt bl (clsOf (1 + z)) i' k').length ≤ 256 := by rw [took_length]; have := kp.len; omega
      have hkept := fun (ow' : List Int) h1 h2 => kp.took (ow' := ow') (s := 1 + z) hcls hf (by omega) hbz.1 h1 h2
      generalize hX : 16 * i' + k' * clsOf (1 + z) = X at hp hfresh hkept pl ⊢
      have hXi : X / 16 = i' := pl.1
      have e1 : Int.tdiv (X : Int) 16 = i' := by rw [Int.tdiv_eq_ediv_of_nonneg (by omega)]; omega
      have e2 : Int.tdiv ((X : Int) + (1 + z) - 1) 16 = i' := by rw [Int.tdiv_eq_ediv_of_nonneg (by omega)]; omega
      have wX : IntKind.i64.wrap ((X : Int) + (1 + z)) = (X : Int) + (1 + z) := wrap_i64 (by omega) (by omega)
      have wX1 : IntKind.i64.wrap ((X : Int) + (1 + z) - 1) = (X : Int) + (1 + z) - 1 := wrap_i64 (by omega) (by omega)
      simp only [wX, wX1, e1, e2]
      refine bif_eq rfl (bif_neg (by omega) (bif_neg (by omega) ⟨by decide, by decide, bif_neqf rfl ?_⟩))
      obtain ⟨FC, hC, _, _⟩ := Prt.at s5 (i := 0) rfl
      refine At_at hC hok5 hlen5 hp ?_
      simp only [asI_mk']
      rw [hgd]
      refine bif_neg (by omega) ?_
      refine ⟨fun kk H' => ∃ (y : Nat) (F : Nat → Prop) (ow' : List Int), kk = X + y ∧ (y : Int) ≤ 1 + z ∧
          (Prt.list [Arn a (tookAt bl (clsOf (1 + z)) i' k'), Prt.row 1 mp (16 * n) (16 * n) (ow'.map fun y => Value.int .i64 y), Prt.row 1 P at_.length C (at_.map fun y => Value.int .i64 y), Prt.row 1 P' at_.length C' (of_.map fun y => Value.int .i64 y)]).holds F H' ∧ Goes Nothing H F H' ∧ ow'.length = 16 * n ∧
          (∀ cell : Nat, ow'.getD cell 0 ≠ 0 → ow.getD cell 0 ≠ 0 ∨ ((X : Int) ≤ cell ∧ (cell : Int) < X + y)), fun kk _ => (16 * (n : Int) - kk).toNat,
        ⟨0, F5, ow, by omega, by omega, s5, g5, kp.olen, fun cell hne => .inl hne⟩, ?_⟩
      rintro kk H7 ⟨y, F7, ow', rfl, hy, s7, g7, hol, how⟩
      by_cases hyo : (X : Int) + (y : Int) < (X : Int) + (1 + z)
      · have hz0 : ow'.getD (X + y) 0 = 0 := Classical.byContradiction fun hne => by
          rcases how (X + y) hne with h1 | h1
          · exact h1 (hfresh (X + y) (by omega) (by omega))
          · omega
        refine bif_pos hyo (idx1 (g := fun x => Value.int .i64 x) (d := 0) (Prt.row_rd s7 (i := 1) rfl) (by omega) (by omega) fun b1 o1 hp1 hc1 => ldI_of hc1 ?_)
        rw [show ((X : Int) + (y : Int)).toNat = X + y by omega, hz0]
        refine bif_neqf rfl (idx1 (g := fun x => Value.int .i64 x) (d := 0) (Prt.row_rd s7 (i := 1) rfl) (by omega) (by omega) fun b1 o1 hp1 hc1 => ?_)
        refine Prt.poke s7 (i := 1) rfl hp1 (by omega) fun F8 H8 s8 g8 => ?_
        rw [wrap_i64 (by omega) (by omega)]
        refine ⟨⟨y + 1, F8, ow'.set ((X : Int) + (y : Int)).toNat ((j + 1 : Nat) : Int), by omega, by omega, by simpa [List.map_set] using s8, g7.trans g8, by simpa using hol, fun cell hne => ?_⟩, by dsimp only; omega⟩
        rw [getD_setI (by omega)] at hne
        split at hne
        · exact .inr (by omega)
        · rcases how cell hne with h1 | h1
          · exact .inl h1
          · exact .inr (by omega)
      · refine bif_neg hyo ?_
        have hy' : (y : Int) = 1 + z := by omega
        rw [hy'] at how
        refine add_ok s7 (i := 2) rfl (by omega) fun P2 C2 F8 H8 s8 g8 => ?_
        refine add_ok s8 (i := 3) rfl (by omega) fun P3 C3 F9 H9 s9 g9 => ?_
        have := hafter P2 C2 P3 C3 F9 H9 _ ow' (at_ ++ [(X : Int)]) (of_ ++ [1 + z]) (by simp; omega) (by simpa using s9) ((g7.trans g8).trans g9) (hkept ow' hol how)
        simpa using this
    · exact bif_ne (by decide) (hafter P C P' C' F5 H5 bl' ow at_ of_ (by omega) (by simpa using s5) g5 kp)
  rcases hcase with ⟨rfl, _⟩ | ⟨rfl, _⟩
  · exact bif_neqf rfl h54
  · exact bif_neq (by decide) (bif_neqf rfl h54)

end Go.Proofs.Ytdeihhfhcnhmfaa
