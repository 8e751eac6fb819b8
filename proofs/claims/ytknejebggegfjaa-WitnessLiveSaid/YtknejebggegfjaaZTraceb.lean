/- Merged by merge.py: Srt2, Srt8, Wit3. No condition. -/
import Derived.Test.YtknejebggegfjaaZTrace

namespace Go.Proofs.Ytknejebggegfjaa
set_option linter.unusedSimpArgs false
set_option linter.unusedVariables false
open Go
theorem cpt_mem : ∀ {l : List Int} {x : Int}, x ∈ cpt l ↔ x ∈ l
  | [], x => Iff.rfl
  | [a], x => Iff.rfl
  | a :: b :: l, x => by
    unfold cpt
    split
    next h => subst h; rw [cpt_mem]; simp
    next h => rw [List.mem_cons, cpt_mem, List.mem_cons (a := x) (b := a)]
theorem cpt_rise : ∀ {l : List Int}, l.Pairwise (· ≤ ·) → (cpt l).Pairwise (· < ·)
  | [], _ => by simp [cpt]
  | [a], _ => by simp [cpt]
  | a :: b :: l, h => by
    have h1 := (List.pairwise_cons.1 h).1
    have h2 := (List.pairwise_cons.1 h).2
    unfold cpt
    split
    next e => exact cpt_rise h2
    next e =>
      refine List.pairwise_cons.2 ⟨fun x hx => ?_, cpt_rise h2⟩
      have hx := cpt_mem.1 hx
      have hab := h1 b (by simp)
      rcases List.mem_cons.1 hx with rfl | hx
      · omega
      · have := (List.pairwise_cons.1 h2).1 x hx; omega
theorem cpt_snoc : ∀ {l : List Int} {a b : Int}, cpt (l ++ [a, b]) = if a = b then cpt (l ++ [a]) else cpt (l ++ [a]) ++ [b]
  | [], a, b => by
    simp only [List.nil_append, cpt]
    split
    next h => rw [h]
    · rfl
  | [c], a, b => by
    have := cpt_snoc (l := []) (a := a) (b := b)
    simp only [List.nil_append] at this
    show cpt (c :: a :: [b]) = if a = b then cpt (c :: a :: []) else cpt (c :: a :: []) ++ [b]
    unfold cpt
    rw [this]
    split <;> split <;> simp
  | c :: d :: l, a, b => by
    have := cpt_snoc (l := d :: l) (a := a) (b := b)
    show cpt (c :: d :: (l ++ [a, b])) = if a = b then cpt (c :: d :: (l ++ [a])) else cpt (c :: d :: (l ++ [a])) ++ [b]
    simp only [List.cons_append] at this
    unfold cpt
    rw [this]
    split <;> split <;> simp
theorem cpt_take {l : List Int} {k : Nat} (h0 : 0 < k) (hk : k < l.length) : cpt (l.take (k + 1)) = if l.getD (k - 1) 0 = l.getD k 0 then cpt (l.take k) else cpt (l.take k) ++ [l.getD k 0] := by
  obtain ⟨k, rfl⟩ : ∃ j, k = j + 1 := ⟨k - 1, by omega⟩
  rw [List.take_succ_eq_append_getElem hk, List.take_succ_eq_append_getElem (i := k) (by omega), List.append_assoc]
  rw [Nat.add_sub_cancel, List.getD_eq_getElem?_getD, List.getD_eq_getElem?_getD, List.getElem?_eq_getElem hk, List.getElem?_eq_getElem (show k < l.length by omega)]
  show cpt (List.take k l ++ [l[k], l[k + 1]]) = _
  rw [cpt_snoc]
  rfl
end Go.Proofs.Ytknejebggegfjaa

namespace Go.Proofs.Ytknejebggegfjaa
set_option linter.unusedSimpArgs false
set_option linter.unusedVariables false
set_option maxRecDepth 20000
open Go
/-- clear, of what is behind a place: what stands ahead of it stays. -/
theorem clear_part {P : Program} {sl e ty bytes cap : Nat} {z : Value} {n u : Nat} {p : Option Addr} {xs : List Value} {H : Hp} {K : Value → Hp → Prop}
    (hsl : P.underlying sl = some (.slice e)) (hi : (P.info? e).map (fun i => (i.zero, i.size, i.bytes)) = some (some z, 1, bytes)) (hz : z.cells = #[z]) (h1 : one z = true) (ho : Own H 1 p n cap xs) (hu : u ≤ n)
    (hK : ∀ H', Own H' 1 p u cap (xs.take u) → Goes (blk p) H (blk p) H' → K (.tuple #[]) H') : evW P (Builtin.clear_ #[sl] ty #[.slice (slcP p cap u 1) (n - u) (cap - u)]) H K := by
  have ht := ho.take hu
  rw [Nat.mul_one] at ht
  obtain ⟨inf, g1, g2, g3, rfl⟩ := info_at hi
  obtain ⟨hl, hle, h3⟩ := ho
  intro w hw
  subst hw
  by_cases hn0 : n - u = 0
  · rw [hn0]
    refine ⟨.tuple #[], w, ?_, .refl w, hK _ ht (Goes.refl _ _)⟩
    cases hp : slcP p cap u 1 with
    | none => simp [Builtin.clear_, run_underlying hsl, Result.andThen]
    | some a => simp [Builtin.clear_, run_underlying hsl, Result.andThen]
  cases p with
  | none =>
    simp only at h3
    omega
  | some a =>
    obtain ⟨b, o, s⟩ := a
    obtain ⟨hs, c, ee, hb, hsz, hc⟩ := h3
    simp only at hs hb hsz hc
    subst hs
    rw [slcP_some (by omega), Nat.mul_one]
    obtain ⟨w', c', r', s', e', z', h4, h5⟩ := hset_run (P := P) (a := ⟨b, o + u, none⟩) rfl (vs := List.replicate (n - u) z) (i := 0) (w := w) hb (by simp; omega) (fun v hv => by rw [(List.mem_replicate.1 hv).2]; exact h1)
    refine ⟨.tuple #[], w', ?_, s', hK _ ⟨by simp [hl]; omega, by omega, rfl, c', ee, by rw [e']; exact upd_same, by simp only; omega, fun i hi => ?_⟩ ?_⟩
    · obtain ⟨m, hm⟩ : ∃ m, n - u = m + 1 := ⟨n - u - 1, by omega⟩
      rw [hm] at r' ⊢
      have hzc : (Builtin.zeroCells z.cells (m + 1)).toList = List.replicate (m + 1) z := by
        rw [hz]
        apply List.ext_getElem?
        intro i
        by_cases hi : i < m + 1
        · simp [Builtin.zeroCells, List.getElem?_replicate, hi, Nat.mod_one]
        · simp [Builtin.zeroCells, List.getElem?_replicate, hi]
      simp [Builtin.clear_, run_underlying hsl, Result.andThen, zeroValue, run_typeInfo g1, g2, hzc, r']
    · simp only
      rw [h5 (o + i) (.inl (by simp only; omega)), hc i (by omega), List.getElem?_take, if_pos (by omega)]
    · rw [e']
      exact Goes.of (Keep.upd.mono fun c h => .inl (blk_some.2 h.symm))
section
variable {H0 H : Hp} {L : List Prt} {i n cap : Nat} {p : Option Addr} {l : List Int} {K : Value → Hp → Prop}
theorem Sr.sub {m : List Int} {k j : Nat} {t : Int} {Q : Int → Prop} (h : Sr H0 L i p n cap m H) (hk : k ≤ n) (ht : t = j) (hj : k + j < n) (hQ : Q (m.getD (k + j) 0)) : idxA (slcP p cap k 1) (n - k) t 1 fun a => ldI .u64 a H Q := by
  subst ht
  have ho := (h.st.row_own h.get).drop hk
  rw [Nat.mul_one, ← List.map_drop] at ho
  refine idx1 (d := (0 : Int)) ho.rd (by omega) (by omega) fun b o _ hcl => ?_
  rw [Int.toNat_natCast] at hcl ⊢
  refine ldI_of hcl ?_
  rw [List.getD_eq_getElem?_getD, List.getElem?_drop, ← List.getD_eq_getElem?_getD]
  exact hQ
theorem compactR (h : Sr H0 L i p n cap l H) (hK : ∀ n' H', Sr H0 L i p n' cap (cpt l) H' → K (.slice p n' cap) H') : hcall PR f_slices_Compact_Suint64_uint64 ⟨[.slice p n cap]⟩ H K := by
  apply den_slices_Compact_Suint64_uint64
  unfold B_slices_Compact_Suint64_uint64
  have hbig := h.big
  have hln := h.len
  have hil := h.lt
  by_cases hc : (n : Int) < 2
  · refine bif_pos hc (hK n H ?_)
    have : cpt l = l := by
      match l, hln with
      | [], _ => rfl
      | [a], _ => rfl
      | a :: b :: l, h => simp at h; omega
    rw [this]
    exact h
  refine bif_neg hc ?_
  refine ⟨fun t H' => ∃ k : Nat, t = k ∧ 1 ≤ k ∧ k ≤ n ∧ cpt (l.take k) = l.take k ∧ Sr H0 L i p n cap l H', fun t _ => ((n : Int) - t).toNat, ⟨1, rfl, by omega, by omega, ?_, h⟩, ?_⟩
  · match l, hln with
    | [], h => simp at h; omega
    | a :: l, _ => rfl
  clear h
  rintro t H1 ⟨k, rfl, hk1, hk, hct, h1⟩
  by_cases hkn : (k : Int) < (n : Int)
  rotate_left
  · refine bif_neg hkn (hK n H1 ?_)
    have : cpt l = l := by
      rw [List.take_of_length_le (by omega)] at hct
      exact hct
    rw [this]
    exact h1
  refine bif_pos hkn ?_
  have w1 : IntKind.i64.wrap ((k : Int) - 1) = ((k - 1 : Nat) : Int) := by rw [wrap_i64 (by omega) (by omega)]; omega
  rw [w1]
  refine h1.at rfl (by omega) (h1.at rfl (by omega) ?_)
  have hstep := cpt_take (l := l) (k := k) (by omega) (by omega)
  by_cases he : l.getD k 0 = l.getD (k - 1) 0
  rotate_left
  · refine bif_ne he ?_
    rw [wrap_i64 (by omega) (by omega)]
    rw [if_neg (fun h => he h.symm), hct] at hstep
    refine ⟨⟨k + 1, by omega, by omega, by omega, ?_, h1⟩, by (try dsimp only); omega⟩
    rw [hstep, List.take_succ_eq_append_getElem (by omega)]
    congr 2
    rw [List.getD_eq_getElem?_getD, List.getElem?_eq_getElem (by omega)]
    rfl
  rw [if_pos he.symm, hct] at hstep
  refine bif_eq he (slc_from (by omega) (by omega) ?_)
  rw [Int.toNat_natCast]
  have wk : ((n - k : Nat) : Int) = (n : Int) - k := by omega
  refine ⟨fun s t H' => ∃ (u w : Nat) (m : List Int), s = u ∧ t = w ∧ 1 ≤ w ∧ k + w ≤ n ∧ 1 ≤ u ∧ u + 1 ≤ k + w ∧ m.take u = cpt (l.take (k + w)) ∧ (∀ j, k + w ≤ j + 1 → m.getD j 0 = l.getD j 0) ∧ Sr H0 L i p n cap m H', fun _ t _ => ((n : Int) - t).toNat, ⟨k, 1, l, rfl, rfl, by omega, by omega, hk1, by omega, hstep.symm, fun _ _ => rfl, h1⟩, ?_⟩
  clear h1 w1 he hstep hct
  rintro s t H2 ⟨u, w, m, rfl, rfl, hw1, hwn, hu1, huw, htk, hr, h2⟩
  have hml := h2.len
  by_cases hwc : (w : Int) < ((n - k : Nat) : Int)
  · refine bif_pos hwc ?_
    have hstep := cpt_take (l := l) (k := k + w) (by omega) (by omega)
    intro R20 hR20
    have hQ20 : ∀ (u' : Nat) (m' : List Int) H', 1 ≤ u' → u' ≤ k + w → m'.take u' = cpt (l.take (k + w + 1)) → (∀ j, k + w ≤ j → m'.getD j 0 = l.getD j 0) → Sr H0 L i p n cap m' H' → R20 (u' : Int) H' := fun u' m' H' g1 g2 g3 g4 g5 => by
      refine hR20 _ H' ?_
      rw [wrap_i64 (by omega) (by omega)]
      exact ⟨⟨u', w + 1, m', rfl, by omega, by omega, by omega, g1, by omega, g3, fun j hj => g4 j (by omega), g5⟩, by (try dsimp only); omega⟩
    clear hR20
    have w2 : IntKind.i64.wrap ((w : Int) - 1) = ((w - 1 : Nat) : Int) := by rw [wrap_i64 (by omega) (by omega)]; omega
    rw [w2]
    refine h2.sub (j := w) (by omega) rfl (by omega) (h2.sub (j := w - 1) (by omega) rfl (by omega) ?_)
    rw [hr (k + w) (by omega), hr (k + (w - 1)) (by omega), show k + (w - 1) = k + w - 1 by omega]
    by_cases he : l.getD (k + w) 0 = l.getD (k + w - 1) 0
    · refine bif_neqf he (hQ20 u m H2 hu1 (by omega) ?_ (fun j hj => hr j (by omega)) h2)
      rw [if_pos he.symm] at hstep
      rw [hstep]
      exact htk
    · refine bif_neq he ?_
      rw [if_neg (fun h => he h.symm)] at hstep
      refine h2.sub (j := w) (by omega) rfl (by omega) ?_
      rw [hr (k + w) (by omega)]
      refine idxA_of (h2.st.row_rd h2.get) (by omega) (by omega) fun b o hpp _ => ?_
      simp only [Int.toNat_natCast]
      refine h2.st.poke (j := u * 1) h2.get hpp (by omega) fun H3 h3 => ?_
      rw [List.set_set, Nat.mul_one, ← List.map_set] at h3
      rw [wrap_i64 (by omega) (by omega)]
      refine hQ20 (u + 1) _ H3 (by omega) (by omega) ?_ (fun j hj => ?_) ⟨h3, hil, hbig⟩
      · rw [hstep, ← htk]
        rw [List.take_succ_eq_append_getElem (i := u) (l := m.set u (l.getD (k + w) 0)) (by rw [List.length_set]; omega), List.getElem_set_self, List.take_set_of_le (Nat.le_refl _)]
      · rw [getD_set (by omega), if_neg (by omega)]
        exact hr j (by omega)
  · refine bif_neg hwc (slc_from (by omega) (by omega) ?_)
    rw [Int.toNat_natCast]
    rw [show k + w = n by omega, List.take_of_length_le (i := n) (l := l) (by omega)] at htk
    obtain ⟨Fi, ha, up⟩ := h2.st.at h2.get
    refine clear_part tu_ty_Suint64 ti_ty_uint64 rfl (by decide) ha.1 (by omega) fun H3 ho hg => ?_
    refine slc_to (by omega) (by have := ha.1.2.1; omega) ?_
    rw [Int.toNat_natCast]
    rw [← List.map_take, htk] at ho
    have := h2.st.row_to h2.get ho hg
    rw [List.set_set] at this
    exact hK u H3 ⟨this, hil, by omega⟩
theorem sortOkN {m : Nat} (hm : m < 2305843009213693952) : SortOk H0 m := fun l p n cap L H K hl h hK => by
  have hln : l.length = n := by have := (h.row_own (i := 0) rfl).len1; simpa using this
  have h' : Sr H0 (Prt.row 1 p n cap (l.map (Value.int .u64)) :: L) 0 p n cap l H := ⟨h, by simp, by omega⟩
  refine sortR h' fun H2 h2 => compactR h2 fun n' H3 h3 => ?_
  exact hK p n' cap H3 h3.st
end
end Go.Proofs.Ytknejebggegfjaa

namespace Go.Proofs.Ytknejebggegfjaa
set_option linter.unusedSimpArgs false
set_option linter.unusedVariables false
set_option maxRecDepth 20000
open Go
section
variable {H0 H : Hp} {L : List Prt} {i k : Nat}
end
section
variable {H0 H : Hp} {L : List Prt} {K : Value → Hp → Prop}
end
end Go.Proofs.Ytknejebggegfjaa
