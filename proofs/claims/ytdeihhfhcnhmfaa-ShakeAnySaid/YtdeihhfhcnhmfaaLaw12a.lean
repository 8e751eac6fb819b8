/- Chapter 12's statements, run: ShakeAny. No condition. -/
import Derived.Test.YtdeihhfhcnhmfaaLaw12
namespace Go.Proofs.Ytdeihhfhcnhmfaa
set_option linter.unusedSimpArgs false
set_option linter.unusedVariables false
open Go

def Sk.rowOf (s : Sk) (r : Int) : List Bool := if r = 0 then s.ar else s.sc

structure AnyInv (n r : Int) (left : List Int) (s : Sk) : Prop where
  ar : (s.ar.length : Int) = n + 1
  sc : (s.sc.length : Int) = n + 1
  ph0 : left = [] → s.ph = r + 2
  ph1 : left ≠ [] → s.ph = r + 1
  row : ∀ k : Nat, (k : Int) < n + 1 → ((s.rowOf r).getD k false = false ↔ (k : Int) ∈ left)
  sc0 : r = 0 → s.sc = List.replicate (n.toNat + 1) false
  nodup : left.Nodup
  low : ∀ x ∈ left, 0 ≤ x ∧ x < n + 1

theorem all_iff {l : List Bool} : l.all id = true ↔ ∀ k, k < l.length → l.getD k false = true := by
  rw [List.all_eq_true]
  constructor
  · intro h k hk
    rw [List.getD_eq_getElem?_getD, List.getElem?_eq_getElem hk]
    exact h _ (List.getElem_mem hk)
  · intro h b hb
    obtain ⟨k, hk, rfl⟩ := List.mem_iff_getElem.1 hb
    have := h k hk
    rwa [List.getD_eq_getElem?_getD, List.getElem?_eq_getElem hk] at this

theorem mem_without {left : List Int} {k : Nat} (hn : left.Nodup) (hk : k < left.length) (y : Int) : y ∈ left.eraseIdx k ↔ y ∈ left ∧ y ≠ left[k] := by
  rw [List.mem_eraseIdx_iff_getElem]
  constructor
  · rintro ⟨i, h, hik, rfl⟩
    refine ⟨List.getElem_mem _, fun e => hik ?_⟩
    exact (List.getElem_inj hn).1 e
  · rintro ⟨h1, h2⟩
    obtain ⟨i, h, rfl⟩ := List.mem_iff_getElem.1 h1
    exact ⟨i, h, fun e => h2 (by subst e; rfl), rfl⟩

theorem getD_set {l : List Bool} {m k : Nat} (hm : m < l.length) : (l.set m true).getD k false = if k = m then true else l.getD k false := by
  rw [List.getD_eq_getElem?_getD, List.getElem?_set, List.getD_eq_getElem?_getD]
  by_cases h : m = k
  · subst h; simp [hm]
  · simp [h, Ne.symm h]

theorem AnyInv.step {n r : Int} {left : List Int} {s : Sk} (h : AnyInv n r left s) (hn : 1 ≤ n) (hr : r = 0 ∨ r = 1) {k : Nat} (hk : k < left.length) :
    (s.ans left[k]).2 = r + 1 ∧ AnyInv n r (left.eraseIdx k) (s.ans left[k]).1 ∧ (1 < left.length → (s.ans left[k]).1.ans left[k] = ((s.ans left[k]).1, 0)) := by
  have hmem : left[k] ∈ left := List.getElem_mem hk
  obtain ⟨l0, l1⟩ := h.low _ hmem
  have hne : left ≠ [] := fun e => by rw [e] at hk; exact absurd hk (Nat.not_lt_zero _)
  have hp := h.ph1 hne
  have hw := mem_without h.nodup hk
  have hlen : (left.eraseIdx k).length = left.length - 1 := List.length_eraseIdx_of_lt hk
  generalize left[k] = x at *
  have hx : ((x.toNat : Nat) : Int) = x := by omega
  have hf := (h.row x.toNat (by omega)).2 (by rw [hx]; exact hmem)
  have hnc : ¬ (x < 0 ∨ (s.ar.length : Int) ≤ x) := by have := h.ar; omega
  have nd : (left.eraseIdx k).Nodup := h.nodup.sublist (List.eraseIdx_sublist left k)
  have hlow : ∀ y ∈ left.eraseIdx k, 0 ≤ y ∧ y < n + 1 := fun y hy => h.low y ((hw y).1 hy).1
  have harl := h.ar
  have hscl := h.sc
  rcases hr with rfl | rfl
  · have hrow := h.row
    simp only [Sk.rowOf, if_true] at hf hrow
    have e : s.ans x = ({ s with ph := if (s.ar.set x.toNat true).all id then 2 else 1, ar := s.ar.set x.toNat true }, 1) := by
      unfold Sk.ans
      rw [if_neg hnc, if_pos (by omega), if_neg (by rw [hf]; decide)]
    have hset : ∀ j : Nat, (j : Int) < n + 1 → ((s.ar.set x.toNat true).getD j false = false ↔ (j : Int) ∈ left.eraseIdx k) := fun j hj => by
      rw [hw, getD_set (by omega), ← hrow j hj]
      by_cases hjx : j = x.toNat
      · subst hjx; simp [hx]
      · have : (j : Int) ≠ x := by omega
        simp [hjx, this]
    have hall : (s.ar.set x.toNat true).all id = true ↔ left.eraseIdx k = [] := by
      rw [all_iff, List.length_set]
      constructor
      · intro h1
        rw [List.eq_nil_iff_forall_not_mem]
        intro y hy
        obtain ⟨y0, y1⟩ := hlow y hy
        have := h1 y.toNat (by omega)
        have h2 := (hset y.toNat (by omega)).2 (by rw [show ((y.toNat : Nat) : Int) = y by omega]; exact hy)
        rw [h2] at this; cases this
      · intro h1 j hj
        have := hset j (by omega)
        rw [h1] at this
        simpa using this
    rw [e]
    refine ⟨rfl, ⟨by simpa using harl, hscl, fun h1 => ?_, fun h1 => ?_, fun j hj => ?_, h.sc0, nd, hlow⟩, fun h1 => ?_⟩
    · simp only [if_pos (hall.2 h1)]; decide
    · simp only [if_neg (fun h2 => h1 (hall.1 h2))]; decide
    · simpa only [Sk.rowOf, if_true] using hset j hj
    · have hne2 : left.eraseIdx k ≠ [] := fun h2 => by rw [h2] at hlen; simp at hlen; omega
      unfold Sk.ans
      simp only [List.length_set]
      rw [if_neg hnc, if_neg (fun h2 => hne2 (hall.1 h2)), if_pos rfl, if_pos (by rw [getD_set (by omega), if_pos rfl])]
  · have hrow := h.row
    simp only [Sk.rowOf, show ¬ ((1 : Int) = 0) by decide, if_false] at hf hrow
    have e : s.ans x = ({ s with ph := if (s.sc.set x.toNat true).all id then 3 else 2, sc := s.sc.set x.toNat true }, 2) := by
      unfold Sk.ans
      rw [if_neg hnc, if_neg (by omega), if_pos (by omega), if_neg (by rw [hf]; decide)]
    have hset : ∀ j : Nat, (j : Int) < n + 1 → ((s.sc.set x.toNat true).getD j false = false ↔ (j : Int) ∈ left.eraseIdx k) := fun j hj => by
      rw [hw, getD_set (by omega), ← hrow j hj]
      by_cases hjx : j = x.toNat
      · subst hjx; simp [hx]
      · have : (j : Int) ≠ x := by omega
        simp [hjx, this]
    have hall : (s.sc.set x.toNat true).all id = true ↔ left.eraseIdx k = [] := by
      rw [all_iff, List.length_set]
      constructor
      · intro h1
        rw [List.eq_nil_iff_forall_not_mem]
        intro y hy
        obtain ⟨y0, y1⟩ := hlow y hy
        have := h1 y.toNat (by omega)
        have h2 := (hset y.toNat (by omega)).2 (by rw [show ((y.toNat : Nat) : Int) = y by omega]; exact hy)
        rw [h2] at this; cases this
      · intro h1 j hj
        have := hset j (by omega)
        rw [h1] at this
        simpa using this
    rw [e]
    refine ⟨rfl, ⟨harl, by simpa using hscl, fun h1 => ?_, fun h1 => ?_, fun j hj => ?_, fun h1 => absurd h1 (by decide), nd, hlow⟩, fun h1 => ?_⟩
    · simp only [if_pos (hall.2 h1)]; decide
    · simp only [if_neg (fun h2 => h1 (hall.1 h2))]; decide
    · simpa only [Sk.rowOf, show ¬ ((1 : Int) = 0) by decide, if_false] using hset j hj
    · have hne2 : left.eraseIdx k ≠ [] := fun h2 => by rw [h2] at hlen; simp at hlen; omega
      unfold Sk.ans
      rw [if_neg hnc]
      simp only [if_neg (fun h2 => hne2 (hall.1 h2))]
      rw [if_neg (by decide), if_pos trivial, if_pos (by rw [getD_set (by omega), if_pos rfl])]

def upto (x : Nat) : List Int := (List.range x).map fun (i : Nat) => (i : Int)
theorem upto_succ {x : Nat} : upto (x + 1) = upto x ++ [(x : Int)] := by simp [upto, List.range_succ]
theorem mem_upto {x : Nat} {y : Int} : y ∈ upto x ↔ 0 ≤ y ∧ y < x := by
  simp only [upto, List.mem_map, List.mem_range]
  constructor
  · rintro ⟨a, h, rfl⟩; omega
  · rintro ⟨h0, h1⟩; exact ⟨y.toNat, by omega, by omega⟩
theorem nodup_upto {x : Nat} : (upto x).Nodup := by
  unfold upto
  rw [List.nodup_iff_pairwise_ne, List.pairwise_map]
  exact List.nodup_range.imp fun h => by omega
theorem length_upto {x : Nat} : (upto x).length = x := by simp [upto]

theorem getD_begin {n k : Nat} (h : k < n + 1) : ((List.replicate (n + 1) false).set ((List.replicate (n + 1) false).length - 1) true).getD k false = decide (k = n) := by
  rw [getD_set (by simp)]
  by_cases hk : k = n
  · subst hk; simp
  · simp [hk, List.getD_eq_getElem?_getD, List.getElem?_replicate, h]

theorem getD_falses {a k : Nat} : (List.replicate a false).getD k false = false := by
  rw [List.getD_eq_getElem?_getD, List.getElem?_replicate]
  split <;> rfl

theorem one_ints {k : IntKind} {l : List Int} : ∀ y ∈ l.map (fun x => Value.int k x), one y = true := fun y hy => by
  obtain ⟨_, _, rfl⟩ := List.mem_map.1 hy
  rfl

/-- Where a round stands. -/
def AnyAt (n r : Int) (s : Sk) : Prop :=
  (s.ar.length : Int) = n + 1 ∧ (s.sc.length : Int) = n + 1 ∧ ((r = 0 ∧ s = ⟨1, (List.replicate (n.toNat + 1) false).set ((List.replicate (n.toNat + 1) false).length - 1) true, List.replicate (n.toNat + 1) false⟩) ∨ (r = 1 ∧ s.ph = 2 ∧ s.sc = List.replicate (n.toNat + 1) false) ∨ (r = 2 ∧ s.ph = 3))

theorem AnyAt.inv {n r : Int} {s : Sk} (h : AnyAt n r s) (hn : 1 ≤ n) (hr : r = 0 ∨ r = 1) : AnyInv n r (upto (n + r).toNat) s := by
  obtain ⟨ha, hs, h⟩ := h
  have hne : upto (n + r).toNat ≠ [] := fun e => by
    have := congrArg List.length e
    rw [length_upto] at this
    simp at this
    omega
  rcases hr with rfl | rfl
  · rcases h with ⟨_, rfl⟩ | ⟨h, _⟩ | ⟨h, _⟩
    · refine ⟨ha, hs, fun h => absurd h hne, fun _ => rfl, fun k hk => ?_, fun _ => rfl, nodup_upto, fun x hx => ?_⟩
      · simp only [Sk.rowOf, if_true]
        rw [getD_begin (by omega), mem_upto, decide_eq_false_iff_not]
        omega
      · rw [mem_upto] at hx
        omega
    · exact absurd h (by decide)
    · exact absurd h (by decide)
  · rcases h with ⟨h, _⟩ | ⟨_, hp, hsc⟩ | ⟨h, _⟩
    · exact absurd h (by decide)
    · refine ⟨ha, hs, fun h => absurd h hne, fun _ => hp, fun k hk => ?_, fun h => absurd h (by decide), nodup_upto, fun x hx => ?_⟩
      · simp only [Sk.rowOf, show ¬ ((1 : Int) = 0) by decide, if_false]
        rw [hsc, mem_upto, getD_falses]
        exact ⟨fun _ => by omega, fun _ => rfl⟩
      · rw [mem_upto] at hx
        omega
    · exact absurd h (by decide)

theorem AnyInv.done {n r : Int} {s : Sk} (h : AnyInv n r [] s) (hr : r = 0 ∨ r = 1) : AnyAt n (r + 1) s := by
  rcases hr with rfl | rfl
  · exact ⟨h.ar, h.sc, .inr (.inl ⟨rfl, h.ph0 rfl, h.sc0 rfl⟩)⟩
  · exact ⟨h.ar, h.sc, .inr (.inr ⟨rfl, h.ph0 rfl⟩)⟩

theorem ints_getD {l : List Int} {k : Nat} (h : k < l.length) : l.getD k 0 = l[k] := by
  rw [List.getD_eq_getElem?_getD, List.getElem?_eq_getElem h]
  rfl

set_option maxRecDepth 20000 in
theorem ShakeAny_ok {q : Int} {p : Option Addr} {m c : Nat} {l : List Int} {H : Hp} {K : Value → Hp → Prop} (hk : IntKind.min .i64 ≤ q ∧ q ≤ IntKind.max .i64) (hl : Rd H 1 p m (l.map fun x => Value.int .i64 x)) (hm : m ≤ 9223372036854775807) (hQ : ∀ y ∈ l, IntKind.min .i64 ≤ y ∧ y ≤ IntKind.max .i64)
    (hK : ∀ H', Keep Nothing H H' → K (.bool true) H') : hcall PR f_law12_ShakeAny ⟨[.int .i64 q, .slice p m c]⟩ H K := by
  have hln : l.length = m := by have := hl.1; simpa using this
  apply den_law12_ShakeAny
  unfold B_law12_ShakeAny
  refine Pick_ok (by omega) (by omega) ?_
  have hq := pick_lt (n := q) (m := 4) (by omega)
  generalize pick q 4 = t at hq
  simp only [asI_mk']
  have hw : IntKind.i64.wrap (1 + t) = 1 + t := wrap_i64 (by omega) (by omega)
  simp only [hw]
  generalize hnn : 1 + t = n
  have hn1 : 1 ≤ n := by omega
  have hn2 : n ≤ 4 := by omega
  clear hnn hw hq
  refine shakeNew_ok hn1 hn2 fun b F1 H1 s1 g1 => ?_
  simp only [tup2_mk, asP_mk, asI_mk']
  refine known12_ok fun H2 k2 => ?_
  have s2 := (Shk _ _).still s1 ((Goes.of k2).less fun _ => id)
  have g2 := g1.trans ((Goes.of k2).part (F := F1) (F1 := F1) (fun _ h => h.elim) fun _ h => .inl h)
  simp only [asB_mk, Bool.not_true, cond_false, Option.isNone_some]
  refine bif_neqf rfl (shakeBegin_ok s2 rfl (by simp) (by simp; omega) fun F3 H3 s3 g3 => ?_)
  simp only [asI_mk']
  refine bif_neqf rfl ?_
  refine ⟨fun r H' => ∃ (F : Nat → Prop) (s : Sk), 0 ≤ r ∧ r ≤ 2 ∧ (Shk b s).holds F H' ∧ Goes Nothing H F H' ∧ AnyAt n r s, fun r _ => (2 - r).toNat, ⟨F3, _, by omega, by omega, s3, g2.trans g3, by simp; omega, by simp; omega, .inl ⟨rfl, rfl⟩⟩, ?_⟩
  rintro r H4 ⟨F4, s, hr0, hr2, s4, g4, hat⟩
  by_cases hlt : r < 2
  rotate_left
  · refine bif_neg hlt (shakePhase_ok s4 ?_)
    obtain rfl : r = 2 := by omega
    obtain ⟨ha, hs, h⟩ := hat
    have hp3 : s.ph = 3 := by rcases h with ⟨h, _⟩ | ⟨h, _⟩ | ⟨_, h⟩ <;> omega
    simp only [asI_mk']
    refine bif_eq hp3 (shakeEnd_ok s4 hp3 fun F5 H5 s5 g5 => ?_)
    simp only [asI_mk']
    refine bif_eq rfl (shakePhase_ok s5 ?_)
    simp only [asI_mk']
    exact hK H5 (g4.trans g5).keep
  refine bif_pos hlt ?_
  have hr : r = 0 ∨ r = 1 := by omega
  have hw0 : IntKind.i64.wrap (r * 0) = 0 := by rw [Int.mul_zero]; exact wrap_i64 (by omega) (by omega)
  have hwn : IntKind.i64.wrap (n + r) = n + r := wrap_i64 (by omega) (by omega)
  have hwr : IntKind.i64.wrap (r + 1) = r + 1 := wrap_i64 (by omega) (by omega)
  simp only [hw0, hwn, hwr]
  refine ⟨fun P L C k H' => ∃ (x : Nat) (F : Nat → Prop), k = x ∧ (x : Int) ≤ n + r ∧ L = x ∧ (Prt.list [Shk b s, Prt.row 1 P x C ((upto x).map fun y => Value.int .i64 y)]).holds F H' ∧ Goes Nothing H F H', fun P L C k _ => (n + r - k).toNat, ?_, ?_⟩
  · obtain ⟨FR, sR, gR⟩ : ∃ F, (Prt.list [Prt.row 1 none 0 0 ((upto 0).map fun y => Value.int .i64 y)]).holds F H4 ∧ Goes Nothing H4 F H4 :=
      ⟨blk none, ⟨blk none, Nothing, Prt.row_holds (Own.nil 1), Prt.list_nil H4, fun _ _ h => h, fun c => ⟨.inl, fun h => h.elim id fun h => h.elim⟩⟩, Keep.refl _ _, fun c h => absurd h blk_none⟩
    refine ⟨0, fun c => F4 c ∨ FR c, rfl, by omega, rfl, ⟨F4, FR, s4, sR, (Shk _ _).apart s4 gR (fun _ _ => id), fun _ => Iff.rfl⟩, g4.trans (gR.part (fun _ h => h.elim) fun _ h => h)⟩
  rintro P x C k H5 ⟨_, F5, rfl, hx, rfl, s5, g5⟩
  by_cases hxn : (x : Int) < n + r
  · refine bif_pos hxn ?_
    obtain ⟨FR, ⟨oR, hFR⟩, _, upR⟩ := Prt.at s5 (i := 1) rfl
    refine lit_ty_Sint oR (m := 1) (by simp) (by simp [one]) (by omega) fun P' C' H6 o6 g6 => ?_
    have hFR' : FR = blk P := funext fun c => propext (hFR c)
    obtain ⟨F6, s6, g6'⟩ := upR (Prt.row 1 P' (x + 1) C' ((upto (x + 1)).map fun y => Value.int .i64 y)) (blk P') H6 ⟨by rw [upto_succ, List.map_append]; exact o6, fun _ => Iff.rfl⟩ (by rw [hFR']; exact g6)
    simp only [asSl_mk]
    rw [wrap_i64 (by omega) (by omega)]
    exact ⟨⟨x + 1, F6, by omega, by omega, rfl, s6, g5.trans g6'⟩, by omega⟩
  refine bif_neg hxn ?_
  obtain rfl : x = (n + r).toNat := by omega
  have hinv := hat.inv hn1 hr
  have hl5 : (upto (n + r).toNat).length = (n + r).toNat := length_upto
  generalize upto (n + r).toNat = left at hinv hl5 s5
  refine ⟨fun P L C i H' => ∃ (left : List Int) (F : Nat → Prop) (s : Sk), L = left.length ∧ i = n + r - left.length ∧ 0 ≤ i ∧ (Prt.list [Shk b s, Prt.row 1 P left.length C (left.map fun y => Value.int .i64 y)]).holds F H' ∧ Goes Nothing H F H' ∧ AnyInv n r left s, fun P L C i _ => L,
    ⟨left, F5, s, by omega, by omega, by omega, by rw [hl5]; exact s5, g5, hinv⟩, ?_⟩
  clear s5 g5 hinv hl5 left hat s4 g4 hxn hx
  rintro P L C i H6 ⟨left, F6, s, rfl, rfl, hi0, s6, g6, hinv⟩
  by_cases hpos : (left.length : Int) > 0
  rotate_left
  · refine bif_neg hpos ?_
    obtain rfl : left = [] := List.length_eq_zero_iff.1 (by omega)
    obtain ⟨FA, hA, hsub, _⟩ := Prt.at s6 (i := 0) rfl
    exact ⟨⟨FA, s, by omega, by omega, hA, g6.less hsub, hinv.done hr⟩, by omega⟩
  refine bif_pos hpos ?_
  intro R45 hR45
  have hstep : ∀ k : Nat, k < left.length → R45 k H6 := fun k hk => by
    refine hR45 k H6 ?_
    intro R48 hR48
    have hwant : R48 (r + 1) H6 := by
      refine hR48 (r + 1) H6 ?_
      intro R51 hR51
      obtain ⟨FA, hA, _, upA⟩ := Prt.at s6 (i := 0) rfl
      obtain ⟨st1, st2, st3⟩ := hinv.step hn1 hr hk
      have hlast : ∀ (H7 : Hp) (F7 : Nat → Prop), (Prt.list [Shk b (s.ans left[k]).1, Prt.row 1 P left.length C (left.map fun y => Value.int .i64 y)]).holds F7 H7 → Goes Nothing H F7 H7 → R51 H7 := fun H7 F7 s7 g7 => by
        refine hR51 H7 ?_
        have o7 := Prt.row_own s7 (i := 1) rfl
        have hcap := o7.2.1
        refine slc_to (by omega) (by omega) ?_
        rw [wrap_i64 (by omega) (by omega)]
        refine slc_from (by omega) (by omega) ?_
        rw [show ((k : Int) + 1).toNat = k + 1 by omega, Int.toNat_natCast]
        intro b1 hb1
        have r1 := o7.rd.take (m := k) (by omega)
        have r2 := o7.rd.drop (l := k + 1) (by omega) hcap
        rw [Nat.mul_one, ← List.map_take] at r1
        rw [Nat.mul_one, ← List.map_drop] at r2
        refine copy_ty_Sint hb1 r1 one_ints (by omega) fun p2 c2 H8 o8 g8 => ?_
        simp only [asSl_mk]
        refine app_ty_Sint o8 (r2.keep g8.keep fun _ _ => id) one_ints (by omega) fun p3 c3 H9 o9 k9 n9 => ?_
        simp only [asSl_mk]
        have g9 : Goes Nothing H7 (blk p3) H9 := g8.trans ⟨k9, n9⟩
        have hlen : (left.eraseIdx k).length = left.length - 1 := List.length_eraseIdx_of_lt hk
        have e1 : k + (left.length - (k + 1)) = (left.eraseIdx k).length := by omega
        rw [← List.map_append, ← List.eraseIdx_eq_take_drop_succ, e1] at o9
        obtain ⟨F9, s9, g9'⟩ := Prt.change s7 (i := 1) rfl (Prt.row_holds o9) g9
        rw [e1, wrap_i64 (by omega) (by omega)]
        exact ⟨⟨left.eraseIdx k, F9, _, rfl, by omega, by omega, s9, g7.trans g9', st2⟩, by omega⟩
      have hrow := Prt.row_rd s6 (i := 1) rfl
      refine idx1 (g := fun x => Value.int .i64 x) (d := 0) hrow (by omega) (by omega) fun b1 o1 hp1 hc1 => ldI_of hc1 ?_
      rw [Int.toNat_natCast, ints_getD hk]
      refine shakeAnswer_ok hA (by have := hinv.ar; have := hinv.sc; omega) (by have := hinv.ar; omega) fun FA' H7 hA' gA => ?_
      obtain ⟨F7, s7, g7⟩ := upA _ FA' H7 hA' gA
      simp only [asI_mk']
      refine bif_neqf st1 ?_
      by_cases h1 : (left.length : Int) > 1
      · refine bif_pos h1 ?_
        have hrow7 := Prt.row_rd s7 (i := 1) rfl
        refine idx1 (g := fun x => Value.int .i64 x) (d := 0) hrow7 (by omega) (by omega) fun b1 o1 hp1 hc1 => ldI_of hc1 ?_
        rw [Int.toNat_natCast, ints_getD hk]
        obtain ⟨FB, hB, _, upB⟩ := Prt.at s7 (i := 0) rfl
        refine shakeAnswer_ok hB (by have := st2.ar; have := st2.sc; omega) (by have := st2.ar; omega) fun FB' H8 hB' gB => ?_
        obtain ⟨F8, s8, g8⟩ := upB _ FB' H8 hB' gB
        simp only [asI_mk']
        have e := st3 (by omega)
        rw [e] at s8 ⊢
        exact bif_neqf rfl (hlast H8 F8 s8 ((g6.trans g7).trans g8))
      · exact bif_neg h1 (hlast H7 F7 s7 (g6.trans g7))
    rcases hr with rfl | rfl
    · exact bif_ne (by decide) hwant
    · exact bif_eq rfl hwant
  by_cases hio : n + r - (left.length : Int) < m
  · refine bif_pos hio ?_
    refine idx1 (g := fun x => Value.int .i64 x) (d := 0) (hl.keep g6.keep fun _ _ => id) hi0 hio fun b1 o1 hp1 hc1 => ldI_of hc1 (Pick_ok (by omega) (by omega) ?_)
    simp only [asI_mk']
    generalize l.getD (n + r - (left.length : Int)).toNat 0 = z
    have hz := pick_lt (n := z) (m := left.length) (by omega)
    have := hstep (pick z left.length).toNat (by omega)
    rwa [show (((pick z left.length).toNat : Nat) : Int) = pick z left.length by omega] at this
  · exact bif_neg hio (hstep 0 (by omega))

end Go.Proofs.Ytdeihhfhcnhmfaa
