/- ArenaPlays, run. No condition. -/
import Derived.Test.YtdeihhfhcnhmfabArS
import Derived.Test.YtdeihhfhcnhmfabLaw7k
import Derived.Test.YtdeihhfhcnhmfabEty
namespace Go.Proofs.Ytdeihhfhcnhmfab
set_option linter.unusedSimpArgs false
set_option linter.unusedVariables false
open Go

theorem sknown7 {H0 H : Hp} {L : List Prt} {K : Value → Hp → Prop} (h : St H0 L H) (hK : ∀ H', St H0 L H' → K (.bool true) H') : hcall PR f_law7_known ⟨[]⟩ H K :=
  known7_ok fun H' k => hK H' (h.still (Goes.of k))

theorem ints7_ok {H : Hp} {K : Value → Hp → Prop} {p q : Option Addr} {n m c d : Nat} {l : List Int} (ha : Rd H 1 p n (l.map (Value.int .i64))) (hb : Rd H 1 q m (l.map (Value.int .i64))) (hn : n < 4611686018427387904) (hK : K (.bool true) H) :
    hcall PR f_law7_ints ⟨[.slice p n c, .slice q m d]⟩ H K := by
  apply den_law7_ints
  unfold B_law7_ints
  have h1 := ha.len1
  have h2 := hb.len1
  refine bif_neqf (by omega) ?_
  refine ⟨fun i H' => H' = H ∧ ∃ j : Nat, i = j ∧ j ≤ n, fun i _ => (n - i).toNat, ⟨rfl, 0, rfl, by omega⟩, ?_⟩
  rintro i H' ⟨hH, j, rfl, hj⟩
  subst hH
  by_cases hlt : (j : Int) < n
  · refine bif_pos hlt (idx1 (d := 0) ha (by omega) hlt fun _ _ _ hc => ldI_of hc (idx1 (d := 0) hb (by omega) (by omega) fun _ _ _ hc' => ldI_of hc' (bif_neqf rfl ?_)))
    rw [wrap_i64 (by omega) (by omega)]
    exact ⟨⟨rfl, j + 1, by omega, by omega⟩, by (try dsimp only); omega⟩
  · exact bif_neg hlt hK

set_option maxRecDepth 20000 in
theorem ArenaPlays_ok {cells : Int} {lP : Option Addr} {lL lC : Nat} {l : List E_law7_Step} {H : Hp} {K : Value → Hp → Prop} (hc : IntKind.min .i64 ≤ cells ∧ cells ≤ IntKind.max .i64) (hr : Rd H 3 lP lL (cel E_law7_Step.cells l)) (hl : lL ≤ 9223372036854775807) (hok : ∀ x ∈ l, x.ok)
    (hK : ∀ H', Keep Nothing H H' → K (.bool true) H') : hcall PR f_law7_ArenaPlays ⟨[.int .i64 cells, .slice lP lL lC]⟩ H K := by
  apply den_law7_ArenaPlays
  unfold B_law7_ArenaPlays
  by_cases hbad : cells < 16 ∨ 4096 < cells ∨ Int.tmod cells 16 ≠ 0
  · refine sArNew_bad hbad ?_
    simp only [tup2_mk, asP_mk, asI_mk']
    refine known7_ok fun H1 k1 => ?_
    simp only [asB_mk, Bool.not_true, cond_false, beq_self_eq_true, cond_true, Option.isNone_none]
    by_cases h1 : cells < 16
    · exact bif_pos h1 (hK H1 k1)
    refine bif_neg h1 ?_
    by_cases h2 : cells > 4096
    · exact bif_pos h2 (hK H1 k1)
    exact bif_neg h2 ⟨by decide, bif_neq (by omega) (hK H1 k1)⟩
  · obtain ⟨m, hm, hm1, hm2⟩ : ∃ m : Nat, cells = 16 * (m : Int) ∧ 1 ≤ m ∧ m ≤ 256 := by
      have h3 : Int.tmod cells 16 = 0 := Classical.byContradiction fun h => hbad (.inr (.inr h))
      rw [Int.tmod_eq_emod_of_nonneg (by omega)] at h3
      exact ⟨(cells / 16).toNat, by omega, by omega, by omega⟩
    subst hm
    have hmod : Int.tmod (16 * (m : Int)) 16 = 0 := Classical.byContradiction fun h => hbad (.inr (.inr h))
    refine sArNew (St.start H) hm1 hm2 fun a H1 h1 => ?_
    simp only [tup2_mk, asP_mk, asI_mk']
    refine sknown7 h1 fun H2 h2 => ?_
    simp only [asB_mk, Bool.not_true, cond_false, Option.isNone_some]
    refine bif_neg (by omega) (bif_neg (by omega) ⟨by decide, bif_neqf hmod (bif_neqf rfl ?_)⟩)
    refine sRArNew h2 hm1 hm2 fun r H3 h3 => ?_
    simp only [asP_mk]
    intro R17 hR17
    have hend : ∀ (s : List Blk) (X : List Prt) (H' : Hp), ArOk s → St H (RArn r s :: Arn a s :: X) H' → R17 H' := fun s X H' ho h => by
      refine hR17 H' ?_
      clear hR17
      obtain ⟨_, ha, _⟩ := h.at (i := 1) rfl
      refine Blocks_ok ha ho.len fun p cap H4 o4 g4 => ?_
      simp only [asSl_mk, nilP_mk]
      have h4 := h.row o4 g4
      obtain ⟨x, h5⟩ := h4.openEx (i := 1) rfl
      have e0 := h5.cell (i := 0) (o := 0) rfl rfl
      have r1 := h5.row_rd (i := 1) rfl
      refine ldSl_of e0 ?_
      have hlen := ho.len
      refine ints7_ok (l := s.map fun b => (b.c : Int)) (by rw [List.map_map]; exact o4.rd) (by rw [List.map_map]; exact r1) (by omega) ?_
      simp only [asB_mk]
      refine ⟨fun i H' => (∃ ys, St H (Prt.row 1 p s.length cap ys :: RArn r s :: Arn a s :: X) H') ∧ ∃ j : Nat, i = j ∧ j ≤ s.length, fun i _ => (s.length - i).toNat, ⟨⟨_, h4⟩, 0, rfl, by omega⟩, ?_⟩
      rintro i H' ⟨⟨ys, h6⟩, j, rfl, hj⟩
      by_cases hlt : (j : Int) < s.length
      · refine bif_pos hlt ?_
        have r6 := h6.row_rd (i := 0) rfl
        refine idxA_of r6 (by omega) hlt fun b o hp _ => ?_
        rw [Nat.mul_one]
        refine h6.poke (i := 0) rfl hp (by omega) fun H7 h7 => ?_
        rw [wrap_i64 (by omega) (by omega)]
        exact ⟨⟨⟨_, h7⟩, j + 1, by omega, by omega⟩, by (try dsimp only); omega⟩
      · refine bif_neg hlt ?_
        simp only [cond_true]
        obtain ⟨x, h7⟩ := h6.openEx (i := 1) rfl
        have e0 := h7.cell (i := 0) (o := 0) rfl rfl
        refine ldSl_of e0 ?_
        obtain ⟨_, ha, _⟩ := h6.at (i := 2) rfl
        refine Blocks_ok ha ho.len fun p2 cap2 H8 o8 g8 => ?_
        simp only [asSl_mk]
        have h8 := h7.still g8
        have e0 := h8.cell (i := 0) (o := 0) rfl rfl
        refine ⟨ldSl_of e0 rfl, ?_⟩
        refine ints7_ok (l := s.map fun b => (b.c : Int)) (by rw [List.map_map]; exact o8.rd) (by rw [List.map_map]; exact h8.row_rd (i := 1) rfl) (by omega) ?_
        exact hK H8 h8.keep
    -- the loop over the calls
    refine ⟨fun tP tL tC i H' => (∃ (s : List Blk) (t : List Int), ArOk s ∧ (∀ x ∈ t, x ≤ 9223372036854775807) ∧ tL ≤ 400 + 0 ∧ (tL : Int) ≤ i ∧ St H [Prt.row 1 tP tL tC (t.map (Value.int .i64)), RArn r s, Arn a s] H') ∧ ∃ j : Nat, i = j ∧ j ≤ lL, fun _ _ _ i _ => (lL - i).toNat,
      ⟨⟨List.replicate m noBlk, [], ArOk.new hm2, fun x h => absurd h List.not_mem_nil, by omega, by omega, h3.row (Own.nil 1) ((Goes.refl _ _).less fun c h => (blk_none h).elim)⟩, 0, rfl, by omega⟩, ?_⟩
    rintro tP tL tC i H4 ⟨⟨s, t, ho, ht, htl, hti, h4⟩, j, rfl, hj⟩
    have h4' : St H [RArn r s, Arn a s, Prt.row 1 tP tL tC (t.map (Value.int .i64))] H4 := h4.perm (by
      exact ((List.Perm.swap _ _ _).trans ((List.Perm.swap _ _ _).cons _)))
    by_cases hlt : (j : Int) < lL
    rotate_left
    · exact bif_neg hlt (hend s _ H4 ho h4')
    refine bif_pos hlt ?_
    by_cases h400 : (j : Int) < 400
    rotate_left
    · exact bif_neg h400 (hend s _ H4 ho h4')
    refine bif_pos h400 ?_
    have rr := h4.rd hr
    refine idxS E_law7_Step.len ⟨0, 0, false⟩ rr (by omega) (by omega) hlt fun b o hp hjl hcs => ?_
    have hx := hok _ (List.getElem_mem hjl)
    have hgd : l.getD (j : Int).toNat ⟨0, 0, false⟩ = l[(j : Int).toNat] := by rw [List.getD_eq_getElem?_getD, List.getElem?_eq_getElem hjl]; rfl
    rw [← hgd] at hx
    generalize l.getD (j : Int).toNat ⟨0, 0, false⟩ = x at hx hcs
    have c0 := hcs 0 (by omega)
    have c1 := hcs 1 (by omega)
    have c2 := hcs 2 (by omega)
    rw [add_mk]
    refine ldI_of c1 ?_
    intro R61 hR61
    have hR61 : ∀ (tP' : Option Addr) (tL' tC' : Nat) (n : Int) (s' : List Blk) (t' : List Int) (H' : Hp), ArOk s' → (∀ x ∈ t', x ≤ 9223372036854775807) → (tL' : Int) ≤ j + 1 → St H [Prt.row 1 tP' tL' tC' (t'.map (Value.int .i64)), RArn r s', Arn a s'] H' → R61 tP' tL' tC' n H' := fun tP' tL' tC' n s' t' H' ho' ht' hle h' => by
      refine hR61 _ _ _ _ _ ?_
      refine sUsed h' (i := 2) rfl ho' ?_
      simp only [asI_mk']
      refine sRUsed h' (i := 1) rfl ho' ?_
      simp only [asI_mk']
      refine bif_neqf rfl (sRoom h' (i := 2) rfl ho' ?_)
      simp only [asI_mk']
      refine sRRoom h' (i := 1) rfl ho' ?_
      simp only [asI_mk']
      refine bif_neqf rfl ⟨by decide, sRoom h' (i := 2) rfl ho' ?_⟩
      simp only [asI_mk']
      refine ⟨by decide, sRRoom h' (i := 1) rfl ho' ?_⟩
      simp only [asI_mk']
      refine bif_neqf rfl ?_
      rw [wrap_i64 (by omega) (by omega)]
      exact ⟨⟨⟨s', t', ho', ht', by omega, by omega, h'⟩, j + 1, by omega, by omega⟩, by (try dsimp only); omega⟩
    refine idxA_of rr (by omega) hlt fun b' o' hp' _ => ?_
    obtain ⟨rfl, rfl⟩ : b = b' ∧ o = o' := by rw [hp] at hp'; simpa using hp'
    refine ldI_of c0 (Pick_ok (by omega) (by omega) ?_)
    have hpk := pick_lt (n := x.What) (m := 5) (by omega)
    simp only [asI_mk']
    by_cases hw : pick x.What 5 < 3
    · refine bif_pos hw ?_
      intro R90 hR90
      have hR90 : ∀ n : Int, R90 n H4 := fun n => by
        refine hR90 n H4 ?_
        refine sAlloc h4 (i := 2) rfl ho fun H5 h5 => ?_
        simp only [tup2_mk, asI_mk']
        refine sRAlloc h5 (i := 1) rfl ho fun H6 h6 => ?_
        simp only [tup2_mk, asI_mk']
        refine bif_neqf rfl (bif_neqf rfl ?_)
        have o6 := h6.row_own (i := 0) rfl
        refine lit_ty_Sint o6 rfl (by intro y hy; simp at hy; subst hy; rfl) (by omega) fun p' cap' H7 o7 g7 => ?_
        simp only [asSl_mk]
        have h7 := h6.row_to (i := 0) rfl o7 g7
        refine hR61 p' (tL + 1) cap' n (arAlloc s n).2.2 (t ++ [(arAlloc s n).1]) H7 (ho.alloc n) (fun y hy => ?_) (by omega) (by rw [List.map_append]; exact h7)
        rcases List.mem_append.1 hy with hy | hy
        · exact ht y hy
        · obtain rfl : y = (arAlloc s n).1 := by simpa using hy
          have := arAlloc_cell (l := s) (n := n) ho
          omega
      refine idxA_of rr (by omega) hlt fun b' o' hp' _ => ?_
      obtain ⟨rfl, rfl⟩ : b = b' ∧ o = o' := by rw [hp] at hp'; simpa using hp'
      rw [add_mk]
      refine ldB_of c2 ?_
      cases x.Near
      · exact hR90 _
      · simp only [cond_true]
        refine Pick_ok (by omega) (by omega) ?_
        simp only [asI_mk']
        exact hR90 _
    · refine bif_neg hw ?_
      intro R117 hR117
      have hR117 : ∀ n : Int, n ≤ 9223372036854775807 → R117 n H4 := fun n hn => by
        refine hR117 n H4 ?_
        refine sAt h4 (i := 2) rfl ho ?_
        simp only [asI_mk']
        refine sRAt h4 (i := 1) rfl ho hn ?_
        simp only [asI_mk']
        refine bif_neqf rfl (sFree h4 (i := 2) rfl ho fun H5 h5 => ?_)
        simp only [asI_mk']
        refine sRFree h5 (i := 1) rfl ho hn fun H6 h6 => ?_
        simp only [asI_mk']
        exact bif_neqf rfl (hR61 tP tL tC n _ t H6 (ho.free n) ht (by omega) h6)
      have hxN := hx.N.2
      have hmx : IntKind.max .i64 = 9223372036854775807 := by decide
      refine idxA_of rr (by omega) hlt fun b' o' hp' _ => ?_
      obtain ⟨rfl, rfl⟩ : b = b' ∧ o = o' := by rw [hp] at hp'; simpa using hp'
      rw [add_mk]
      refine ldB_of c2 ?_
      cases x.Near
      · exact hR117 _ (by omega)
      · simp only [cond_true]
        by_cases hz : (tL : Int) > 0
        · refine bif_pos hz (Pick_ok (by omega) (by omega) ?_)
          have hpk := pick_lt (n := x.N) (m := tL) (by omega)
          simp only [asI_mk']
          refine idx1 (d := 0) (h4.row_rd (i := 0) rfl) hpk.1 hpk.2 fun b' o' _ hc' => ldI_of hc' (hR117 _ ?_)
          rw [List.getD_eq_getElem?_getD]
          cases e : t[(pick x.N tL).toNat]? with
          | none => show (0 : Int) ≤ _; omega
          | some y => exact ht y (List.mem_of_getElem? e)
        · exact bif_neg hz (hR117 _ (by omega))

end Go.Proofs.Ytdeihhfhcnhmfab
