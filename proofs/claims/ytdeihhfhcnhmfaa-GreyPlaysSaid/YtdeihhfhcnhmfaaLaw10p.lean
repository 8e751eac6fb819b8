/- Chapter 10's statements, run: GreyKnown, GreyPlays. No condition. -/
import Derived.Test.YtdeihhfhcnhmfaaLaw10
namespace Go.Proofs.Ytdeihhfhcnhmfaa
open Go

def StkP (b : Nat) (xs : List Value) (most : Int) (over : Bool) : (Nat → Prop) → Hp → Prop := fun F H => Stk H b xs most over F
theorem StkP.part (b : Nat) (xs : List Value) (most : Int) (over : Bool) : Part (StkP b xs most over) := ⟨fun h hf => Stk.frame h hf, fun h _ hc => Stk.dom h hc⟩

theorem GreyKnown_ok {H : Hp} {K : Value → Hp → Prop} (hK : ∀ H', Keep Nothing H H' → K (.bool true) H') : hcall PR f_law10_GreyKnown ⟨[]⟩ H K := by
  apply den_law10_GreyKnown
  unfold B_law10_GreyKnown
  refine New_int_bad (.inl (by omega)) ?_
  simp only [tup2_mk, asP_mk, asI_mk']
  refine New_string_bad (.inr (by omega)) ?_
  simp only [tup2_mk, asP_mk, asI_mk']
  refine New_string_ok (by omega) (by omega) fun b H1 F1 s1 k1 n1 => ?_
  have g1 := Goes.new k1 n1
  simp only [tup2_mk, asP_mk, asI_mk', Option.isNone_some, cond_false]
  refine known10_ok fun H2 k2 => ?_
  have s2 := (StkP.part _ _ _ _).stays s1 (Goes.of k2) fun _ _ => id
  have g2 := g1.trans ((Goes.of k2).part (F := F1) (F1 := F1) (fun _ h => h.elim) fun _ h => .inl h)
  simp only [asB_mk, Bool.not_true, cond_false]
  refine bif_neqf rfl (bif_neqf rfl (bif_neqf rfl ?_))
  refine Push_string_ok (l := []) s2 (by omega) (fun h => absurd h (by decide)) fun _ H3 F3 s3 k3 n3 => ?_
  have g3 := g2.trans ⟨k3, n3⟩
  simp only [asB_mk]
  refine Push_string_ok s3 (by omega) (fun _ H4 s4 k4 => ?_) (fun h => absurd h (by decide))
  have g4 := g3.trans (Goes.of k4)
  simp only [asB_mk]
  refine Over_string_ok s4 ?_
  simp only [asB_mk]
  refine Rest_string_ok s4 fun _ H5 s5 k5 => ?_
  have g5 := g4.trans (Goes.of k5)
  refine Over_string_ok s5 ?_
  simp only [asB_mk]
  refine All_string_ok s5 (by decide) fun p n cap H6 r6 k6 n6 => ?_
  have hn : n = 1 := by have := r6.1; simpa using this.symm
  subst hn
  have s6 := (StkP.part _ _ _ _).stays s5 (Goes.of k6) fun _ _ => id
  have g6 := g5.trans ((Goes.of k6).part (F := F3) (F1 := F3) (fun _ h => h.elim) fun _ h => .inl h)
  simp only [asSl_mk]
  refine Clear_string_ok s6 fun _ H7 F7 s7 k7 n7 => ?_
  have g7 := g6.trans ⟨k7, fun c h => .inl (n7 c h)⟩
  have r7 := r6.keep k7 fun c hc h3 => (StkP.part _ _ _ _).dom s5 h3 (n6 c hc)
  refine Pop_string_none s7 ?_
  simp only [tup2_mk, asStr_mk, asB_mk, Bool.not_false, cond_true]
  refine bif_eq rfl ?_
  refine idxA_of r7.rd (by omega) (by omega) fun b' o _ hc => ?_
  have hc0 := hc 0 (by omega)
  simp only [Int.toNat_zero, Nat.zero_mul, Nat.add_zero] at hc0 ⊢
  refine ldStr_of hc0 ?_
  simp only [beq_self_eq_true, cond_true]
  refine Len_string_ok s7 ?_
  simp only [asI_mk']
  exact hK H7 g7.keep

/-- The document's stack. -/
def RStk (r : Nat) (l : List Int) (most : Int) (over : Bool) : (Nat → Prop) → Hp → Prop := fun F H =>
  ∃ p n cap T, Both (One r (.cells #[.int .i64 most, .slice p n cap, .bool over] T (0, 0))) (Row 1 p n cap (l.map fun x => .int .i64 x)) F H
theorem RStk.part (r : Nat) (l : List Int) (most : Int) (over : Bool) : Part (RStk r l most over) :=
  ⟨fun ⟨p, n, cap, T, h⟩ hf => ⟨p, n, cap, T, (Both.part (One.part _ _) (Row.part _ _ _ _ _)).frame h hf⟩, fun ⟨_, _, _, _, h⟩ _ hc => (Both.part (One.part _ _) (Row.part _ _ _ _ _)).dom h hc⟩
theorem RStk.over {r : Nat} {l : List Int} {most : Int} {over o : Bool} {F : Nat → Prop} {H : Hp} {K : Hp → Prop} (h : RStk r l most over F H) (hK : ∀ H', RStk r l most o F H' → Goes F H F H' → K H') : st ⟨r, 2, none⟩ (.bool o) H K := by
  obtain ⟨p, n, cap, T, F1, F2, ⟨hb, h1⟩, h2, hd, hF⟩ := h
  refine st_of hb (by simp) ?_
  obtain ⟨b, g⟩ := Both.first (A' := One r (.cells #[.int .i64 most, .slice p n cap, .bool o] T (0, 0))) (Row.part _ _ _ _ _) hF h2 hd ⟨upd_same, h1⟩ (Goes.of (Keep.upd.mono fun c h => .inl ((h1 c).2 h)))
  have e : (fun c => F1 c ∨ F2 c) = F := funext fun c => propext (hF c).symm
  rw [e] at b g
  exact hK _ ⟨p, n, cap, T, b⟩ g
theorem RStk.clear {r : Nat} {l : List Int} {most : Int} {over : Bool} {F : Nat → Prop} {H : Hp} {K : Hp → Prop} (h : RStk r l most over F H) (hK : ∀ H' F', RStk r [] most over F' H' → Goes F H F' H' → K H') : st ⟨r, 1, none⟩ (.slice none 0 0) H K := by
  obtain ⟨p, n, cap, T, F1, F2, ⟨hb, h1⟩, h2, hd, hF⟩ := h
  refine st_of hb (by simp) ?_
  refine hK _ (fun c => c = r) ⟨none, 0, 0, T, fun c => c = r, Nothing, ⟨upd_same, fun _ => Iff.rfl⟩, ⟨Own.nil 1, fun c => ⟨fun h => h.elim, fun h => absurd h blk_none⟩⟩, fun _ _ h => h, fun c => ⟨.inl, fun h => h.elim id fun h => h.elim⟩⟩ ?_
  exact Goes.upd.more fun c h => (hF c).2 (.inl ((h1 c).2 h))
theorem RStk.get {r : Nat} {l : List Int} {most : Int} {over : Bool} {F : Nat → Prop} {H : Hp} (h : RStk r l most over F H) :
    ∃ p cap, hcell H ⟨r, 1, none⟩ = some (.slice p l.length cap) ∧ Rd H 1 p l.length (l.map fun x => .int .i64 x) ∧ hcell H ⟨r, 2, none⟩ = some (.bool over) ∧ F r := by
  obtain ⟨p, n, cap, T, F1, F2, ⟨hb, h1⟩, h2, hd, hF⟩ := h
  have hn : l.length = n := by have := h2.1.1; simpa using this
  subst hn
  exact ⟨p, cap, hcell_blk hb rfl, h2.1.rd, hcell_blk hb rfl, (hF r).2 (.inl ((h1 r).2 rfl))⟩
theorem RStk.row {r : Nat} {l : List Int} {most : Int} {over : Bool} {F : Nat → Prop} {H : Hp} {K : Option Addr → Nat → Nat → Prop} (h : RStk r l most over F H) (hK : ∀ p cap, Rd H 1 p l.length (l.map fun x => .int .i64 x) → K p l.length cap) : ldSl ⟨r, 1, none⟩ H K := by
  obtain ⟨p, cap, h1, h2, _, _⟩ := h.get
  exact ldSl_of h1 (hK _ _ h2)
theorem RStk.isOver {r : Nat} {l : List Int} {most : Int} {over : Bool} {F : Nat → Prop} {H : Hp} {K : Bool → Prop} (h : RStk r l most over F H) (hK : K over) : ldB ⟨r, 2, none⟩ H K := by
  obtain ⟨p, n, cap, T, F1, F2, ⟨hb, h1⟩, h2, hd, hF⟩ := h
  exact ldB_of (hcell_blk hb rfl) hK
theorem RStk.new {r T : Nat} {most : Int} {H : Hp} (hr : H r = none) : RStk r [] most false (fun c => c = r) (upd H r (.cells #[.int .i64 most, .slice none 0 0, .bool false] T (0, 0))) :=
  ⟨none, 0, 0, T, fun c => c = r, Nothing, ⟨upd_same, fun _ => Iff.rfl⟩, ⟨Own.nil 1, fun c => ⟨fun h => h.elim, fun h => absurd h blk_none⟩⟩, fun _ _ h => h, fun c => ⟨.inl, fun h => h.elim id fun h => h.elim⟩⟩

theorem ints_ok {ap bp : Option Addr} {an ac bn bc : Nat} {a b : List Int} {H : Hp} {K : Value → Hp → Prop} (ha : Rd H 1 ap an (a.map fun x => .int .i64 x)) (hb : Rd H 1 bp bn (b.map fun x => .int .i64 x)) (hn : an < 4611686018427387904)
    (hK : K (.bool (decide (a = b))) H) : hcall PR f_law10_ints ⟨[.slice ap an ac, .slice bp bn bc]⟩ H K := by
  have hla : a.length = an := by have := ha.1; simpa using this
  have hlb : b.length = bn := by have := hb.1; simpa using this
  apply den_law10_ints
  unfold B_law10_ints
  by_cases hlen : an = bn
  · subst hlen
    refine bif_neqf rfl ?_
    refine ⟨fun i H' => H' = H ∧ ∃ j : Nat, i = j ∧ j ≤ an ∧ a.take j = b.take j, fun i _ => (an - i).toNat, ⟨rfl, 0, rfl, by omega, rfl⟩, ?_⟩
    rintro i _ ⟨rfl, j, rfl, hj, ht⟩
    by_cases hlt : (j : Int) < an
    · refine bif_pos hlt ?_
      refine idxA_of ha (by omega) hlt fun b1 o1 _ hc1 => ?_
      have hc1 := hc1 0 (by omega)
      simp only [Int.toNat_natCast, Nat.mul_one, Nat.add_zero, List.getElem?_map, List.getElem?_eq_getElem (show j < a.length by omega), Option.map_some] at hc1 ⊢
      refine ldI_of hc1 ?_
      refine idxA_of hb (by omega) hlt fun b2 o2 _ hc2 => ?_
      have hc2 := hc2 0 (by omega)
      simp only [Int.toNat_natCast, Nat.mul_one, Nat.add_zero, List.getElem?_map, List.getElem?_eq_getElem (show j < b.length by omega), Option.map_some] at hc2 ⊢
      refine ldI_of hc2 ?_
      by_cases he : a[j] = b[j]
      · refine bif_neqf he ?_
        have hw : IntKind.i64.wrap ((j : Int) + 1) = ((j + 1 : Nat) : Int) := by rw [wrap_i64 (by omega) (by omega)]; omega
        rw [hw]
        refine ⟨⟨trivial, j + 1, rfl, by omega, ?_⟩, by omega⟩
        rw [List.take_succ_eq_append_getElem (by omega), List.take_succ_eq_append_getElem (by omega), ht, he]
      · refine bif_neq he ?_
        have : a ≠ b := fun e => he (by subst e; rfl)
        rw [decide_eq_false this] at hK
        exact hK
    · refine bif_neg hlt ?_
      have hj : j = an := by omega
      subst hj
      have : a = b := by rwa [List.take_of_length_le (by omega), List.take_of_length_le (by omega)] at ht
      rw [decide_eq_true this] at hK
      exact hK
  · refine bif_neq (by omega) ?_
    have : a ≠ b := fun e => hlen (by rw [← hla, ← hlb, e])
    rw [decide_eq_false this] at hK
    exact hK

theorem ints_map_append {l : List Int} {x : Int} : (l ++ [x]).map (fun x => Value.int .i64 x) = l.map (fun x => Value.int .i64 x) ++ [.int .i64 x] := by simp

theorem RPush_ok {H : Hp} {r : Nat} {l : List Int} {most x : Int} {over : Bool} {F : Nat → Prop} {K : Value → Hp → Prop} (hs : RStk r l most over F H) (hm : most ≤ 64)
    (hfull : most ≤ l.length → ∀ H', RStk r l most true F H' → Goes F H F H' → K (.bool false) H')
    (hroom : (l.length : Int) < most → ∀ H' F', RStk r (l ++ [x]) most over F' H' → Goes F H F' H' → K (.bool true) H') :
    hcall PR f_ref4_IntStack_Push ⟨[.pointer (some ⟨r, 0, none⟩), .int .i64 x]⟩ H K := by
  apply den_ref4_IntStack_Push
  unfold B_ref4_IntStack_Push
  simp only [nilP_mk, add_mk, Nat.zero_add]
  obtain ⟨p, n, cap, T, h⟩ := id hs
  have hpt := Both.part (One.part r (.cells #[.int .i64 most, .slice p n cap, .bool over] T (0, 0))) (Row.part 1 p n cap (l.map fun x => .int .i64 x))
  obtain ⟨F1, F2, ⟨hb, h1⟩, h2, hd, hF⟩ := id h
  have hn : l.length = n := by have := h2.1.1; simpa using this
  refine ldSl_of (hcell_blk hb rfl) ?_
  refine ldI_of (hcell_blk hb rfl) ?_
  by_cases hf : most ≤ l.length
  · refine bif_pos (by omega) ?_
    exact hs.over fun H' h' g' => hfull hf H' h' g'
  · refine bif_neg (by omega) ?_
    intro b1 hb1
    have h' := hpt.stays h (Goes.alloc (o := .cells #[] ty_int) hb1) fun _ _ => id
    obtain ⟨_, _, ⟨hb', _⟩, _, _, _⟩ := h'
    refine ldSl_of (hcell_blk hb' rfl) ?_
    refine copy_ty_Sint hb1 h2.1.rd (by simp [one]) (by omega) fun p1 cap1 H2 o2 g2 => ?_
    simp only [asSl_mk]
    refine lit_ty_Sint o2 (m := 1) (by simp) (by simp [one]) (by omega) fun p2 cap2 H3 o3 g3 => ?_
    have g := g2.trans g3
    obtain ⟨_, _, ⟨hb3, _⟩, _, _, _⟩ := hpt.stays h g fun _ _ => id
    simp only [asSl_mk]
    refine st_of hb3 (by simp) ?_
    have hne : ¬ blk p2 r := g.there hb
    refine hroom (by omega) _ (fun c => c = r ∨ blk p2 c) ⟨p2, n + 1, cap2, T, fun c => c = r, blk p2, ⟨upd_same, fun _ => Iff.rfl⟩, ⟨?_, fun _ => Iff.rfl⟩, fun c h h' => hne (h ▸ h'), fun _ => Iff.rfl⟩ ?_
    · rw [ints_map_append]
      exact o3.frame fun c hc => upd_other fun e => hne (e ▸ hc)
    · have g4 : Goes (fun c => c = r) H3 (fun c => c = r) _ := Goes.upd (o := .cells #[.int .i64 most, .slice p2 (n + 1) cap2, .bool over] T (0, 0))
      exact ((g.part (F := fun c => c = r) (F1 := fun c => c = r ∨ blk p2 c) (fun _ h => h.elim) fun c h => h).trans (g4.part (fun c h => .inl h) fun c h => .inl h)).more fun c h => (hF c).2 (.inl ((h1 c).2 h))

theorem RPop_none {H : Hp} {r : Nat} {most : Int} {over : Bool} {F : Nat → Prop} {K : Value → Hp → Prop} (hs : RStk r [] most over F H) (hK : K (.tuple #[.int .i64 0, .bool false]) H) :
    hcall PR f_ref4_IntStack_Pop ⟨[.pointer (some ⟨r, 0, none⟩)]⟩ H K := by
  apply den_ref4_IntStack_Pop
  unfold B_ref4_IntStack_Pop
  simp only [nilP_mk, add_mk, Nat.zero_add]
  refine hs.row fun p cap h => ?_
  exact bif_eq rfl hK

theorem RPop_ok {H : Hp} {r : Nat} {l : List Int} {most x : Int} {over : Bool} {F : Nat → Prop} {K : Value → Hp → Prop} (hs : RStk r (l ++ [x]) most over F H) (hm : (l.length : Int) < 2 ^ 62)
    (hK : ∀ H', RStk r l most over F H' → Goes F H F H' → K (.tuple #[.int .i64 x, .bool true]) H') :
    hcall PR f_ref4_IntStack_Pop ⟨[.pointer (some ⟨r, 0, none⟩)]⟩ H K := by
  apply den_ref4_IntStack_Pop
  unfold B_ref4_IntStack_Pop
  simp only [nilP_mk, add_mk, Nat.zero_add]
  obtain ⟨p, n, cap, T, F1, F2, ⟨hb, h1⟩, h2, hd, hF⟩ := hs
  have hn : n = l.length + 1 := by have := h2.1.1; simp at this; omega
  have hle := h2.1.2.1
  subst hn
  rw [show (2 : Int) ^ 62 = 4611686018427387904 by decide] at hm
  have hw : IntKind.i64.wrap (((l.length + 1 : Nat) : Int) - 1) = l.length := by rw [wrap_i64 (by omega) (by omega)]; omega
  refine ldSl_of (hcell_blk hb rfl) (bif_ne (by omega) (ldSl_of (hcell_blk hb rfl) (ldSl_of (hcell_blk hb rfl) ?_)))
  simp only [hw]
  refine idxA_of h2.1.rd (by omega) (by omega) fun b1 o1 hp hc => ?_
  have hc0 : hcell H ⟨b1, o1 + l.length, none⟩ = some (.int .i64 x) := by
    have := hc 0 (by omega)
    simpa using this
  simp only [Int.toNat_natCast, Nat.mul_one]
  refine ldI_of hc0 (ldSl_of (hcell_blk hb rfl) (ldSl_of (hcell_blk hb rfl) ?_))
  simp only [hw]
  refine slc_to (by omega) (by omega) ?_
  rw [Int.toNat_natCast]
  have hrow' : Own H 1 p l.length cap (l.map fun x => .int .i64 x) := by
    have := Own.take (m := l.length) h2.1 (by omega)
    simpa using this
  refine st_of hb (by simp) ?_
  obtain ⟨b, g⟩ := Both.first (A' := One r (.cells #[.int .i64 most, .slice p l.length cap, .bool over] T (0, 0))) (Row.part _ _ _ _ _) hF ⟨hrow', h2.2⟩ hd ⟨upd_same, h1⟩ (Goes.of (Keep.upd.mono fun c h => .inl ((h1 c).2 h)))
  have e : (fun c => F1 c ∨ F2 c) = F := funext fun c => propext (hF c).symm
  rw [e] at b g
  exact hK _ ⟨p, l.length, cap, T, b⟩ g

theorem pick_cases {n : Int} {x : Int} (h : n = pick x 12) : 0 ≤ n ∧ n < 12 := h ▸ pick_lt (by omega)

/-- What a stack of the code and the document's one share. -/
def Pair (b r : Nat) (l : List Int) (most : Int) (over : Bool) : (Nat → Prop) → Hp → Prop := Both (StkP b (l.map fun x => .int .i64 x) most over) (RStk r l most over)

set_option maxRecDepth 20000 in
theorem GreyPlays_ok {most : Int} {p : Option Addr} {n c : Nat} {l : List Int} {H : Hp} {K : Value → Hp → Prop} (hk : IntKind.min .i64 ≤ most ∧ most ≤ IntKind.max .i64) (hl : Rd H 1 p n (l.map fun x => Value.int .i64 x)) (hn : n ≤ 9223372036854775807) (hQ : ∀ y ∈ l, IntKind.min .i64 ≤ y ∧ y ≤ IntKind.max .i64)
    (hK : ∀ H', Keep Nothing H H' → K (.bool true) H') : hcall PR f_law10_GreyPlays ⟨[.int .i64 most, .slice p n c]⟩ H K := by
  have hln : l.length = n := by have := hl.1; simpa using this
  apply den_law10_GreyPlays
  unfold B_law10_GreyPlays
  by_cases hm : most < 1 ∨ 64 < most
  · refine New_int_bad hm ?_
    simp only [tup2_mk, asP_mk, asI_mk']
    refine known10_ok fun H2 k2 => ?_
    simp only [asB_mk, Bool.not_true, cond_false, Option.isNone_none]
    by_cases h1 : most < 1
    · exact bif_pos h1 (bif_eq rfl (hK H2 k2))
    · exact bif_neg h1 (bif_pos (by omega) (bif_eq rfl (hK H2 k2)))
  have hm1 : 1 ≤ most := by omega
  have hm2 : most ≤ 64 := by omega
  refine New_int_ok hm1 hm2 fun b H1 F1 s1 k1 n1 => ?_
  have g1 := Goes.new k1 n1
  simp only [tup2_mk, asP_mk, asI_mk']
  refine known10_ok fun H2 k2 => ?_
  have s2 := (StkP.part _ _ _ _).stays s1 (Goes.of k2) fun _ _ => id
  have g2 := g1.trans ((Goes.of k2).part (F := F1) (F1 := F1) (fun _ h => h.elim) fun _ h => .inl h)
  simp only [asB_mk, Bool.not_true, cond_false, Option.isNone_some]
  refine bif_neg (by omega) (bif_neg (by omega) (bif_neqf rfl ?_))
  intro r hr
  obtain ⟨s3, g3⟩ := Both.new (B := RStk r [] most false) (StkP.part _ _ _ _) s2 (RStk.new (T := ty_ref4_IntStack) hr) (Goes.alloc hr)
  have g3 := g2.trans g3
  have hpt : ∀ lst over, Part (Pair b r lst most over) := fun lst over => Both.part (StkP.part _ _ _ _) (RStk.part _ _ _ _)
  have hw : ∀ j : Nat, j < n → IntKind.i64.wrap ((j : Int) + 1) = ((j + 1 : Nat) : Int) := fun j hj => by rw [wrap_i64 (by omega) (by omega)]; omega
  -- the end of it
  intro R16 hR16
  have hR : ∀ (H3 : Hp) (F : Nat → Prop) lst over, Pair b r lst most over F H3 → Goes Nothing H F H3 → (lst.length : Int) ≤ most → R16 H3 := fun H3 F lst over s3 g3 hlst => by
    refine hR16 H3 ?_
    obtain ⟨FA, FB, sA, sB, hd, hF⟩ := id s3
    refine All_int_ok sA (by omega) fun tp tn tc H4 o4 k4 n4 => ?_
    have htn : lst.length = tn := by have := o4.1; simpa using this
    have hw : ∀ j : Nat, j < tn → IntKind.i64.wrap ((j : Int) + 1) = ((j + 1 : Nat) : Int) := fun j hj => by rw [wrap_i64 (by omega) (by omega)]; omega
    have g4 := Goes.new k4 n4
    obtain ⟨s4, g4'⟩ := Both.new (B := Row 1 tp tn tc (lst.map fun x => .int .i64 x)) (hpt lst over) s3 ⟨o4, fun _ => Iff.rfl⟩ g4
    have g5 := g3.trans g4'
    simp only [asSl_mk]
    have sB4 := (RStk.part _ _ _ _).stays sB g4 fun _ _ => id
    refine sB4.row fun lp lc rl => ?_
    refine ints_ok o4.rd rl (by omega) ?_
    simp only [asB_mk, decide_true]
    refine ⟨fun i H' => ∃ (j : Nat) (F' : Nat → Prop) (xs : List Value), i = j ∧ j ≤ tn ∧ Both (Pair b r lst most over) (Row 1 tp tn tc xs) F' H' ∧ Goes Nothing H F' H', fun i _ => (tn - i).toNat, ⟨0, _, _, rfl, by omega, s4, g5⟩, ?_⟩
    rintro i H5 ⟨j, F5, xs, rfl, hj, s5, g5⟩
    obtain ⟨FP, FR, sP, ⟨oR, hFR⟩, hd5, hF5⟩ := id s5
    by_cases hlt : (j : Int) < tn
    · refine bif_pos hlt ?_
      refine idxA_of oR.rd (by omega) hlt fun b1 o1 hpp _ => ?_
      simp only [Int.toNat_natCast, Nat.mul_one]
      refine oR.st hpp (by omega) fun H6 o6 k6 => ?_
      obtain ⟨s6, g6⟩ := Both.second (B' := Row 1 tp tn tc (xs.set j (.int .i64 (-77)))) (hpt lst over) hF5 sP hd5 (F2' := FR) ⟨o6, hFR⟩ (Goes.of (k6.mono fun c h => .inl ((hFR c).2 h)))
      rw [hw j (by omega)]
      exact ⟨⟨j + 1, _, _, rfl, by omega, s6, g5.trans g6⟩, by omega⟩
    · refine bif_neg hlt ?_
      obtain ⟨GA, GB, sA5, sB5, hd5', hF5'⟩ := id sP
      obtain ⟨lp, lc, e1, rl, e2, _⟩ := sB5.get
      refine ldSl_of e1 ?_
      refine All_int_ok sA5 (by omega) fun up un uc H6 o6 k6 n6 => ?_
      simp only [asSl_mk]
      have g6 := Goes.new k6 n6
      refine ⟨ldSl_of (g6.cell e1 id) rfl, ?_⟩
      refine ints_ok o6.rd (rl.keep k6 fun _ _ => id) (by have := o6.1; simp at this; omega) ?_
      simp only [asB_mk, decide_true]
      exact hK _ (g5.keep.trans k6 fun c h => h.elim)
  -- the rounds
  refine ⟨fun i H' => ∃ (j : Nat) (F : Nat → Prop) (lst : List Int) (over : Bool), i = j ∧ j ≤ n ∧ Pair b r lst most over F H' ∧ Goes Nothing H F H' ∧ (lst.length : Int) ≤ most, fun i _ => (n - i).toNat,
    ⟨0, _, [], false, rfl, by omega, s3, g3, by simp; omega⟩, ?_⟩
  rintro i H4 ⟨j, F, lst, over, rfl, hj, s4, g4, hlst⟩
  by_cases hlt : (j : Int) < n
  · refine bif_pos hlt ?_
    by_cases h2000 : (j : Int) < 2000
    · refine bif_pos h2000 ?_
      intro R53 hR53
      have hround : ∀ (H5 : Hp) (F : Nat → Prop) (lst : List Int) (over : Bool), Pair b r lst most over F H5 → Goes Nothing H F H5 → (lst.length : Int) ≤ most → R53 true H5 := fun H5 F lst over s5 g5 hlst => by
        refine hR53 true H5 ?_
        obtain ⟨FA, FB, sA, sB, hd, hF⟩ := id s5
        obtain ⟨lp, lc, e1, rl, e2, _⟩ := sB.get
        simp only [Bool.not_true, cond_false]
        refine ldSl_of e1 (Len_int_ok sA ?_)
        simp only [asI_mk', List.length_map]
        refine ⟨ldSl_of e1 rfl, bif_neqf rfl (ldB_of e2 (Over_int_ok sA ?_))⟩
        simp only [asB_mk, beq_self_eq_true, Bool.not_true, cond_false]
        refine ⟨ldB_of e2 rfl, ?_⟩
        rw [hw j (by omega)]
        exact ⟨⟨j + 1, F, lst, over, rfl, by omega, s5, g5, hlst⟩, by omega⟩
      have hl4 := hl.keep g4.keep fun _ _ => id
      refine idxA_of hl4 (by omega) hlt fun b1 o1 _ hc => ?_
      have hc0 := hc 0 (by omega)
      simp only [Int.toNat_natCast, Nat.mul_one, Nat.add_zero, List.getElem?_map, List.getElem?_eq_getElem (show j < l.length by omega), Option.map_some] at hc0 ⊢
      refine ldI_of hc0 (Pick_ok (by omega) (by omega) ?_)
      simp only [asI_mk']
      have hp := pick_lt (n := l[j]) (m := 12) (by omega)
      generalize pick l[j] 12 = t at hp
      intro R75 hR75
      obtain ⟨FA, FB, sA, sB, hd, hF⟩ := id s4
      have hpop : R75 true H4 := by
        refine hR75 true H4 ?_
        simp only [cond_true]
        rcases List.eq_nil_or_concat lst with rfl | ⟨l', x, rfl⟩
        · refine Pop_int_none sA ?_
          simp only [tup2_mk, asI_mk', asB_mk]
          refine RPop_none sB ?_
          simp only [tup2_mk, asI_mk', asB_mk, beq_self_eq_true, cond_true]
          exact hround _ _ _ _ s4 g4 hlst
        · simp only [List.concat_eq_append] at sA sB s4 hlst
          have hl' : (l'.length : Int) < 64 := by simp at hlst; omega
          refine Pop_int_ok (l := l') (x := x) sA (by rw [show (2 : Int) ^ 62 = 4611686018427387904 by decide]; omega) fun H5 s5 k5 => ?_
          simp only [tup2_mk, asI_mk', asB_mk]
          obtain ⟨s5, g5⟩ := Both.first (A' := StkP b (l'.map fun x => .int .i64 x) most over) (RStk.part _ _ _ _) hF sB hd s5 (Goes.of k5)
          obtain ⟨GA, GB, sA5, sB5, hd5, hF5⟩ := id s5
          refine RPop_ok sB5 (by rw [show (2 : Int) ^ 62 = 4611686018427387904 by decide]; omega) fun H6 s6 g6 => ?_
          simp only [tup2_mk, asI_mk', asB_mk, beq_self_eq_true, cond_true]
          obtain ⟨s6, g6⟩ := Both.second (StkP.part _ _ _ _) hF5 sA5 hd5 s6 g6
          exact hround _ _ _ _ s6 (g4.trans (g5.trans g6)) (by simp at hlst; omega)
      have hother : ¬ t = 0 → ¬ t = 1 → ¬ t = 2 → ¬ t = 3 → R75 false H4 := fun h0 h1 h2 h3 => by
        refine hR75 false H4 ?_
        simp only [cond_false]
        by_cases h4 : t = 4
        · refine bif_eq h4 (Rest_int_ok sA fun _ H5 s5 k5 => ?_)
          obtain ⟨s5, g5⟩ := Both.first (A' := StkP b (lst.map fun x => .int .i64 x) most false) (RStk.part _ _ _ _) hF sB hd s5 (Goes.of k5)
          obtain ⟨GA, GB, sA5, sB5, hd5, hF5⟩ := id s5
          refine sB5.over fun H6 s6 g6 => ?_
          obtain ⟨s6, g6⟩ := Both.second (StkP.part _ _ _ _) hF5 sA5 hd5 s6 g6
          exact hround _ _ _ _ s6 (g4.trans (g5.trans g6)) hlst
        refine bif_ne h4 ?_
        by_cases h5 : t = 5
        · refine bif_eq h5 ?_
          refine idxA_of hl4 (by omega) hlt fun b1 o1 _ hc => ?_
          have hc0 := hc 0 (by omega)
          simp only [Int.toNat_natCast, Nat.mul_one, Nat.add_zero, List.getElem?_map, List.getElem?_eq_getElem (show j < l.length by omega), Option.map_some] at hc0 ⊢
          refine ldI_of hc0 ⟨by decide, ?_⟩
          by_cases h24 : Int.tmod l[j] 24 = 5
          · refine bif_eq h24 (Clear_int_ok sA fun _ H5 F5 s5 k5 n5 => ?_)
            obtain ⟨s5, g5⟩ := Both.first (A' := StkP b [] most false) (RStk.part _ _ _ _) hF sB hd s5 ⟨k5, fun c h => .inl (n5 c h)⟩
            obtain ⟨GA, GB, sA5, sB5, hd5, hF5⟩ := id s5
            refine sB5.clear fun H6 F6 s6 g6 => ?_
            obtain ⟨s6, g6⟩ := Both.second (StkP.part _ _ _ _) hF5 sA5 hd5 s6 g6
            obtain ⟨GA, GB, sA6, sB6, hd6, hF6⟩ := id s6
            refine sB6.over fun H7 s7 g7 => ?_
            obtain ⟨s7, g7⟩ := Both.second (StkP.part _ _ _ _) hF6 sA6 hd6 s7 g7
            exact hround _ _ [] false s7 (g4.trans (g5.trans (g6.trans g7))) (by simp; omega)
          · exact bif_ne h24 (hround _ _ _ _ s4 g4 hlst)
        refine bif_ne h5 ?_
        refine idxA_of hl4 (by omega) hlt fun b1 o1 _ hc => ?_
        have hc0 := hc 0 (by omega)
        simp only [Int.toNat_natCast, Nat.mul_one, Nat.add_zero, List.getElem?_map, List.getElem?_eq_getElem (show j < l.length by omega), Option.map_some] at hc0 ⊢
        refine ldI_of hc0 ?_
        refine idxA_of hl4 (by omega) hlt fun b2 o2 hp2 hd0 => ?_
        have hd0 := hd0 0 (by omega)
        simp only [Int.toNat_natCast, Nat.mul_one, Nat.add_zero, List.getElem?_map, List.getElem?_eq_getElem (show j < l.length by omega), Option.map_some] at hd0 ⊢
        refine ldI_of hd0 ?_
        have hstay : ∀ (H5 : Hp) (F5 : Nat → Prop), Goes Nothing H F5 H5 → hcell H5 ⟨b2, o2 + j, none⟩ = some (.int .i64 l[j]) := fun H5 F5 g5 => by
          have := (hl.keep g5.keep fun _ _ => id).cell hp2 (i := j) (by omega)
          rw [this, List.getElem?_map, List.getElem?_eq_getElem (show j < l.length by omega)]
          rfl
        refine Push_int_ok sA hm2 (fun hfull H5 s5 k5 => ?_) (fun hroom H5 F5 s5 k5 n5 => ?_)
        · obtain ⟨s5, g5⟩ := Both.first (A' := StkP b (lst.map fun x => .int .i64 x) most true) (RStk.part _ _ _ _) hF sB hd s5 (Goes.of k5)
          obtain ⟨GA, GB, sA5, sB5, hd5, hF5⟩ := id s5
          simp only [asB_mk]
          refine ⟨ldI_of (hstay _ _ (g4.trans g5)) rfl, ?_⟩
          refine RPush_ok sB5 hm2 (fun _ H6 s6 g6 => ?_) (fun h => absurd h (by omega))
          obtain ⟨s6, g6⟩ := Both.second (StkP.part _ _ _ _) hF5 sA5 hd5 s6 g6
          simp only [asB_mk, beq_self_eq_true]
          exact hround _ _ _ _ s6 (g4.trans (g5.trans g6)) hlst
        · obtain ⟨s5, g5⟩ := Both.first (A' := StkP b ((lst ++ [l[j]]).map fun x => .int .i64 x) most over) (RStk.part _ _ _ _) hF sB hd s5 ⟨k5, n5⟩
          obtain ⟨GA, GB, sA5, sB5, hd5, hF5⟩ := id s5
          simp only [asB_mk]
          refine ⟨ldI_of (hstay _ _ (g4.trans g5)) rfl, ?_⟩
          refine RPush_ok sB5 hm2 (fun h => absurd h (by omega)) (fun _ H6 F6 s6 g6 => ?_)
          obtain ⟨s6, g6⟩ := Both.second (StkP.part _ _ _ _) hF5 sA5 hd5 s6 g6
          simp only [asB_mk, beq_self_eq_true]
          exact hround _ _ _ _ s6 (g4.trans (g5.trans g6)) (by simp; omega)
      by_cases h0 : t = 0
      · exact bif_eq h0 (by rw [show (t == 0) = true by simp [h0]]; exact hpop)
      refine bif_ne h0 ?_
      by_cases h1 : t = 1
      · exact bif_eq h1 (by rw [show (t == 1) = true by simp [h1]]; exact hpop)
      refine bif_ne h1 ?_
      by_cases h2 : t = 2
      · exact bif_eq h2 (by rw [show (t == 2) = true by simp [h2]]; exact hpop)
      refine bif_ne h2 ?_
      by_cases h3 : t = 3
      · rw [show (t == 3) = true by simp [h3]]; exact hpop
      · rw [show (t == 3) = false by simp [h3]]; exact hother h0 h1 h2 h3
    · exact bif_neg h2000 (hR _ _ _ _ s4 g4 hlst)
  · exact bif_neg hlt (hR _ _ _ _ s4 g4 hlst)

end Go.Proofs.Ytdeihhfhcnhmfaa
