/- Merged by merge.py: Srt6, Srt7, Srt2, Srt8, Wit3. No condition. -/
import Derived.Test.YtknejebggegfjaaZTrace

namespace Go.Proofs.Ytknejebggegfjaa
set_option linter.unusedSimpArgs false
set_option linter.unusedVariables false
set_option maxRecDepth 20000
open Go
theorem Up2.snoc {m : List Int} {a y : Nat} (h : Up2 m a y) (hy : a < y) (hc : m.getD (y - 1) 0 ≤ m.getD y 0) : Up2 m a (y + 1) := fun u v h1 h2 h3 => by
  by_cases e : v = y
  · subst e
    by_cases e2 : u = v - 1
    · subst e2; exact hc
    · exact Int.le_trans (h u (v - 1) h1 (by omega) (by omega)) hc
  · exact h u v h1 h2 (by omega)
theorem Up2.swp {m : List Int} {a e x y : Nat} (h : Up2 m a e) (hx : e ≤ x) (hy : e ≤ y) (gx : x < m.length) (gy : y < m.length) : Up2 (swp m x y) a e := fun u v h1 h2 h3 => by
  rw [swp_get gx gy, swp_get gx gy, if_neg (by omega), if_neg (by omega), if_neg (by omega), if_neg (by omega)]
  exact h u v h1 h2 h3
section
variable {H0 H : Hp} {L : List Prt} {i n cap : Nat} {p : Option Addr} {m : List Int} {K : Value → Hp → Prop}
theorem pisC {a b : Nat} (h : Sr H0 L i p n cap m H) (hab : a < b) (hb : b ≤ n) (hlo : Lo m a b) (hK : ∀ (r : Bool) m' H', Reg a b m m' → (r = true → Up2 m' a b) → Sr H0 L i p n cap m' H' → K (.bool r) H') :
    hcall PR f_slices_partialInsertionSortOrdered_uint64 ⟨[.slice p n cap, .int .i64 a, .int .i64 b]⟩ H K := by
  apply den_slices_partialInsertionSortOrdered_uint64
  unfold B_slices_partialInsertionSortOrdered_uint64
  have hbig := h.big
  have hln := h.len
  refine ⟨fun t c H' => ∃ (y : Nat) (m1 : List Int), t = y ∧ 0 ≤ c ∧ c ≤ 5 ∧ a < y ∧ y ≤ b ∧ Up2 m1 a y ∧ Reg a b m m1 ∧ Sr H0 L i p n cap m1 H', fun t c _ => (5 - c).toNat, ⟨a + 1, m, by rw [wrap_i64 (by omega) (by omega)]; omega, by omega, by omega, by omega, by omega, fun u v h1 h2 h3 => by omega, .refl, h⟩, ?_⟩
  rintro t c H1 ⟨y, m1, rfl, hc0, hc5, hy, hyb, hup, hg, h1⟩
  by_cases hc : c < 5
  rotate_left
  · exact bif_neg hc (hK false m1 H1 hg (fun e => by cases e) h1)
  refine bif_pos hc ?_
  intro R11 hR11
  have hQ11 : ∀ (y' : Nat) (m' : List Int) H', a < y' → y' ≤ b → Up2 m' a y' → Reg a b m m' → Sr H0 L i p n cap m' H' → R11 (y' : Int) H' := fun y' m' H' g1 g2 g3 g4 g5 => by
    refine hR11 _ H' ?_
    rw [wrap_i64 (by omega) (by omega)]
    exact ⟨⟨y', m', rfl, by omega, by omega, g1, g2, g3, g4, g5⟩, by (try dsimp only); omega⟩
  clear hR11
  intro R14 hR14
  have hl1 := hg.len
  have hQ14 : ∀ (y' : Nat), a < y' → y' ≤ b → Up2 m1 a y' → R14 (y' : Int) H1 := fun y' g1 g2 g3 => by
    refine hR14 _ H1 ?_
    by_cases e : (y' : Int) = (b : Int)
    · refine bif_eq e (hK true m1 H1 hg (fun _ => ?_) h1)
      obtain rfl : y' = b := by omega
      exact g3
    refine bif_ne e ?_
    by_cases e5 : IntKind.i64.wrap ((b : Int) - (a : Int)) < 50
    · exact bif_pos e5 (hK false m1 H1 hg (fun e => by cases e) h1)
    refine bif_neg e5 ?_
    clear e5
    have w1 : IntKind.i64.wrap ((y' : Int) - 1) = ((y' - 1 : Nat) : Int) := by rw [wrap_i64 (by omega) (by omega)]; omega
    rw [w1]
    refine h1.swap rfl (by omega) rfl (by omega) fun H2 h2 => ?_
    have hg2 : Reg a b m (Go.Proofs.Ytknejebggegfjaa.swp m1 y' (y' - 1)) := hg.sw (by omega) (by omega) (by omega) (by omega) (by omega)
    intro R25 hR25
    have hQ25 : ∀ (m' : List Int) H', Up2 m' a y' → Reg a b m m' → Sr H0 L i p n cap m' H' → R25 H' := fun m' H' k1 k2 k3 => by
      refine hR25 H' ?_
      have w2 : IntKind.i64.wrap ((b : Int) - (y' : Int)) = ((b - y' : Nat) : Int) := by rw [wrap_i64 (by omega) (by omega)]; omega
      have w3 : IntKind.i64.wrap ((y' : Int) + 1) = ((y' + 1 : Nat) : Int) := by rw [wrap_i64 (by omega) (by omega)]; omega
      rw [w2, w3]
      by_cases e2 : ((b - y' : Nat) : Int) ≥ 2
      rotate_left
      · exact bif_neg e2 (hQ11 y' m' H' g1 g2 k1 k2 k3)
      refine bif_pos e2 ?_
      refine ⟨fun t H' => ∃ (w : Nat) (m' : List Int), t = w ∧ y' < w ∧ w ≤ b ∧ Up2 m' a y' ∧ Reg a b m m' ∧ Sr H0 L i p n cap m' H', fun t _ => ((b : Int) - t).toNat, ⟨y' + 1, m', rfl, by omega, by omega, k1, k2, k3⟩, ?_⟩
      clear k1 k2 k3
      clear m'
      rintro t H3 ⟨w, m', rfl, hw, hwb, k1, k2, k3⟩
      have hl3 := k2.len
      by_cases ew : (w : Int) < (b : Int)
      rotate_left
      · exact bif_neg ew (hQ11 y' m' H3 g1 g2 k1 k2 k3)
      refine bif_pos ew ?_
      have w4 : IntKind.i64.wrap ((w : Int) - 1) = ((w - 1 : Nat) : Int) := by rw [wrap_i64 (by omega) (by omega)]; omega
      rw [w4]
      refine k3.cmpN rfl (by omega) rfl (by omega) (fun _ => hQ11 y' m' H3 g1 g2 k1 k2 k3) fun _ => ?_
      refine k3.swap rfl (by omega) rfl (by omega) fun H4 h4 => ?_
      rw [wrap_i64 (by omega) (by omega)]
      exact ⟨⟨w + 1, _, by omega, by omega, by omega, k1.swp (by omega) (by omega) (by omega) (by omega), k2.sw (by omega) (by omega) (by omega) (by omega) (by omega), h4⟩, by (try dsimp only); omega⟩
    clear hR25
    have w2 : IntKind.i64.wrap ((y' : Int) - (a : Int)) = ((y' - a : Nat) : Int) := by rw [wrap_i64 (by omega) (by omega)]; omega
    rw [w2]
    by_cases e2 : ((y' - a : Nat) : Int) ≥ 2
    rotate_left
    · exact bif_neg e2 (hQ25 _ H2 (fun u v k1 k2 k3 => by omega) hg2 h2)
    refine bif_pos e2 ?_
    refine ⟨fun t H' => ∃ (w : Nat) (m' : List Int), t = w ∧ a ≤ w ∧ w < y' ∧ Hol m' a w y' ∧ Reg a b m m' ∧ Sr H0 L i p n cap m' H', fun t _ => t.toNat, ⟨y' - 1, _, rfl, by omega, by omega, ?_, hg2, h2⟩, ?_⟩
    · have := Hol.start (Up2.swp (m := m1) (a := a) (e := y' - 1) (x := y') (y := y' - 1) (fun u v k1 k2 k3 => g3 u v k1 k2 (by omega)) (by omega) (by omega) (by omega) (by omega))
      rw [show y' - 1 + 1 = y' by omega] at this
      exact this
    clear hg2 h2
    rintro t H3 ⟨w, m', rfl, hw, hwy, ho, k2, k3⟩
    have hl3 := k2.len
    by_cases ew : (w : Int) ≥ 1
    rotate_left
    · exact bif_neg ew (hQ25 m' H3 (ho.done (.inl (by omega))) k2 k3)
    refine bif_pos ew ?_
    have w4 : IntKind.i64.wrap ((w : Int) - 1) = ((w - 1 : Nat) : Int) := by rw [wrap_i64 (by omega) (by omega)]; omega
    rw [w4]
    refine k3.cmpN rfl (by omega) rfl (by omega) (fun hle => ?_) fun hlt => ?_
    · refine hQ25 m' H3 (ho.done ?_) k2 k3
      by_cases e : w = a
      · exact .inl e
      · exact .inr ⟨by omega, hle⟩
    have haw : a < w := by
      refine Nat.lt_of_le_of_ne hw fun e => ?_
      subst e
      have := hlo.reg k2 (by omega) a (by omega) hab
      omega
    refine k3.swap rfl (by omega) rfl (by omega) fun H4 h4 => ?_
    exact ⟨⟨w - 1, _, rfl, by omega, by omega, ho.step haw hwy (by omega) hlt, k2.sw (by omega) (by omega) (by omega) (by omega) (by omega), h4⟩, by (try dsimp only); omega⟩
  clear hR14
  refine ⟨fun t H' => ∃ (y' : Nat), t = y' ∧ a < y' ∧ y' ≤ b ∧ Up2 m1 a y' ∧ H' = H1, fun t _ => ((b : Int) - t).toNat, ⟨y, rfl, hy, hyb, hup, rfl⟩, ?_⟩
  rintro t H2 ⟨y', rfl, g1, g2, g3, rfl⟩
  by_cases ew : (y' : Int) < (b : Int)
  rotate_left
  · exact bif_neg ew (hQ14 y' g1 g2 g3)
  refine bif_pos ew ?_
  have w1 : IntKind.i64.wrap ((y' : Int) - 1) = ((y' - 1 : Nat) : Int) := by rw [wrap_i64 (by omega) (by omega)]; omega
  rw [w1]
  refine h1.cmpN rfl (by omega) rfl (by omega) (fun hle => ?_) fun _ => hQ14 y' g1 g2 g3
  rw [wrap_i64 (by omega) (by omega)]
  exact ⟨⟨y' + 1, by omega, by omega, by omega, g3.snoc g1 hle, rfl⟩, by (try dsimp only); omega⟩
end
/-- A range that is being parted. -/
structure Par (P Q : Int → Prop) (v : Int) (m : List Int) (a b i j : Nat) : Prop where
  piv : m.getD a 0 = v
  left : ∀ k, a < k → k < i → P (m.getD k 0)
  right : ∀ k, j < k → k < b → Q (m.getD k 0)
  lo : a < i
  hi : j < b
  ij : i ≤ j + 1
theorem Par.sw {P Q : Int → Prop} {v : Int} {m : List Int} {a b i j : Nat} (h : Par P Q v m a b i j) (hij : i < j) (hb : b ≤ m.length) (hp : P (m.getD j 0)) (hq : Q (m.getD i 0)) : Par P Q v (swp m i j) a b (i + 1) (j - 1) := by
  obtain ⟨h1, h2, h3, h4, h5, h6⟩ := h
  have hs : ∀ k, (swp m i j).getD k 0 = if k = j then m.getD i 0 else if k = i then m.getD j 0 else m.getD k 0 := fun k => swp_get (by omega) (by omega)
  refine ⟨by rw [hs, if_neg (by omega), if_neg (by omega), h1], fun k g1 g2 => ?_, fun k g1 g2 => ?_, by omega, by omega, by omega⟩
  · rw [hs, if_neg (by omega)]
    split
    · exact hp
    · exact h2 k g1 (by omega)
  · rw [hs]
    split
    · exact hq
    · rw [if_neg (by omega)]
      exact h3 k (by omega) g2
theorem Par.up {P Q : Int → Prop} {v : Int} {m : List Int} {a b i j : Nat} (h : Par P Q v m a b i j) (hij : i ≤ j) (hp : P (m.getD i 0)) : Par P Q v m a b (i + 1) j := by
  obtain ⟨h1, h2, h3, h4, h5, h6⟩ := h
  refine ⟨h1, fun k g1 g2 => ?_, h3, by omega, h5, by omega⟩
  by_cases e : k = i
  · subst e; exact hp
  · exact h2 k g1 (by omega)
theorem Par.down {P Q : Int → Prop} {v : Int} {m : List Int} {a b i j : Nat} (h : Par P Q v m a b i j) (hij : i ≤ j) (hq : Q (m.getD j 0)) : Par P Q v m a b i (j - 1) := by
  obtain ⟨h1, h2, h3, h4, h5, h6⟩ := h
  refine ⟨h1, h2, fun k g1 g2 => ?_, h4, by omega, by omega⟩
  by_cases e : k = j
  · subst e; exact hq
  · exact h3 k (by omega) g2
section
variable {H0 H : Hp} {L : List Prt} {x n cap : Nat} {p : Option Addr} {m : List Int} {K : Value → Hp → Prop} {v : Int} {a b i j : Nat} {R : Int → Hp → Prop}
/-- Up, as long as it is less. -/
theorem upI (h : Sr H0 L x p n cap m H) (hb : b ≤ n) (hp : Par (· < v) (v ≤ ·) v m a b i j) (hR : ∀ i' : Nat, i ≤ i' → Par (· < v) (v ≤ ·) v m a b i' j → (i' ≤ j → v ≤ m.getD i' 0) → R (i' : Int) H) :
    ∃ (I : Int → Hp → Prop) (mm : Int → Hp → Nat), I (i : Int) H ∧ ∀ t : Int, ∀ Hx : Hp, I t Hx →
      (bif (decide ((t : Int) ≤ (j : Int))) then
        idxA p n t 1 fun el1 => ldI .u64 el1 Hx fun t1 => idxA p n (a : Int) 1 fun el2 => ldI .u64 el2 Hx fun t2 =>
        hcall PR f_cmp_Less_uint64 ⟨[(.int .u64 t1), (.int .u64 t2)]⟩ Hx fun v3 Hx3 => asB v3 fun t3 =>
        (bif t3 then I (IntKind.i64.wrap (t + 1)) Hx3 ∧ mm (IntKind.i64.wrap (t + 1)) Hx3 < mm t Hx else R t Hx3)
      else R t Hx) := by
  have hbig := h.big
  refine ⟨fun t H' => ∃ i' : Nat, t = i' ∧ i ≤ i' ∧ Par (· < v) (v ≤ ·) v m a b i' j ∧ H' = H, fun t _ => ((j : Int) + 1 - t).toNat, ⟨i, rfl, Nat.le_refl _, hp, rfl⟩, ?_⟩
  rintro t H' ⟨i', rfl, hi, hq, rfl⟩
  have g1 := hq.lo; have g2 := hq.hi; have g3 := hq.piv
  by_cases hc : (i' : Int) ≤ (j : Int)
  · refine bif_pos hc (h.cmpT rfl (by omega) rfl (by omega) (fun hlt => ?_) fun hle => hR i' hi hq fun _ => by omega)
    rw [wrap_i64 (by omega) (by omega)]
    exact ⟨⟨i' + 1, by omega, by omega, hq.up (by omega) (by show _ < v; omega), rfl⟩, by (try dsimp only); omega⟩
  · exact bif_neg hc (hR i' hi hq fun _ => by omega)
theorem dnI (h : Sr H0 L x p n cap m H) (hb : b ≤ n) (hp : Par (· < v) (v ≤ ·) v m a b i j) (hR : ∀ j' : Nat, j' ≤ j → Par (· < v) (v ≤ ·) v m a b i j' → (i ≤ j' → m.getD j' 0 < v) → R (j' : Int) H) :
    ∃ (I : Int → Hp → Prop) (mm : Int → Hp → Nat), I (j : Int) H ∧ ∀ t : Int, ∀ Hx : Hp, I t Hx →
      (bif (decide ((i : Int) ≤ t)) then
        idxA p n t 1 fun el1 => ldI .u64 el1 Hx fun t1 => idxA p n (a : Int) 1 fun el2 => ldI .u64 el2 Hx fun t2 =>
        hcall PR f_cmp_Less_uint64 ⟨[(.int .u64 t1), (.int .u64 t2)]⟩ Hx fun v3 Hx3 => asB v3 fun t3 =>
        (bif (!t3) then I (IntKind.i64.wrap (t - 1)) Hx3 ∧ mm (IntKind.i64.wrap (t - 1)) Hx3 < mm t Hx else R t Hx3)
      else R t Hx) := by
  have hbig := h.big
  refine ⟨fun t H' => ∃ j' : Nat, t = j' ∧ j' ≤ j ∧ Par (· < v) (v ≤ ·) v m a b i j' ∧ H' = H, fun t _ => t.toNat, ⟨j, rfl, Nat.le_refl _, hp, rfl⟩, ?_⟩
  rintro t H' ⟨j', rfl, hi, hq, rfl⟩
  have g1 := hq.lo; have g2 := hq.hi; have g3 := hq.piv
  by_cases hc : (i : Int) ≤ (j' : Int)
  · refine bif_pos hc (h.cmpN rfl (by omega) rfl (by omega) (fun hle => ?_) fun hlt => hR j' hi hq fun _ => by omega)
    rw [wrap_i64 (by omega) (by omega)]
    exact ⟨⟨j' - 1, by omega, by omega, hq.down (by omega) (by show v ≤ _; omega), rfl⟩, by (try dsimp only); omega⟩
  · exact bif_neg hc (hR j' hi hq fun _ => by omega)
theorem upE (h : Sr H0 L x p n cap m H) (hb : b ≤ n) (hp : Par (· ≤ v) (v < ·) v m a b i j) (hR : ∀ i' : Nat, i ≤ i' → Par (· ≤ v) (v < ·) v m a b i' j → (i' ≤ j → v < m.getD i' 0) → R (i' : Int) H) :
    ∃ (I : Int → Hp → Prop) (mm : Int → Hp → Nat), I (i : Int) H ∧ ∀ t : Int, ∀ Hx : Hp, I t Hx →
      (bif (decide ((t : Int) ≤ (j : Int))) then
        idxA p n (a : Int) 1 fun el1 => ldI .u64 el1 Hx fun t1 => idxA p n t 1 fun el2 => ldI .u64 el2 Hx fun t2 =>
        hcall PR f_cmp_Less_uint64 ⟨[(.int .u64 t1), (.int .u64 t2)]⟩ Hx fun v3 Hx3 => asB v3 fun t3 =>
        (bif (!t3) then I (IntKind.i64.wrap (t + 1)) Hx3 ∧ mm (IntKind.i64.wrap (t + 1)) Hx3 < mm t Hx else R t Hx3)
      else R t Hx) := by
  have hbig := h.big
  refine ⟨fun t H' => ∃ i' : Nat, t = i' ∧ i ≤ i' ∧ Par (· ≤ v) (v < ·) v m a b i' j ∧ H' = H, fun t _ => ((j : Int) + 1 - t).toNat, ⟨i, rfl, Nat.le_refl _, hp, rfl⟩, ?_⟩
  rintro t H' ⟨i', rfl, hi, hq, rfl⟩
  have g1 := hq.lo; have g2 := hq.hi; have g3 := hq.piv
  by_cases hc : (i' : Int) ≤ (j : Int)
  · refine bif_pos hc (h.cmpN rfl (by omega) rfl (by omega) (fun hle => ?_) fun hlt => hR i' hi hq fun _ => by omega)
    rw [wrap_i64 (by omega) (by omega)]
    exact ⟨⟨i' + 1, by omega, by omega, hq.up (by omega) (by show _ ≤ v; omega), rfl⟩, by (try dsimp only); omega⟩
  · exact bif_neg hc (hR i' hi hq fun _ => by omega)
theorem dnE (h : Sr H0 L x p n cap m H) (hb : b ≤ n) (hp : Par (· ≤ v) (v < ·) v m a b i j) (hR : ∀ j' : Nat, j' ≤ j → Par (· ≤ v) (v < ·) v m a b i j' → (i ≤ j' → m.getD j' 0 ≤ v) → R (j' : Int) H) :
    ∃ (I : Int → Hp → Prop) (mm : Int → Hp → Nat), I (j : Int) H ∧ ∀ t : Int, ∀ Hx : Hp, I t Hx →
      (bif (decide ((i : Int) ≤ t)) then
        idxA p n (a : Int) 1 fun el1 => ldI .u64 el1 Hx fun t1 => idxA p n t 1 fun el2 => ldI .u64 el2 Hx fun t2 =>
        hcall PR f_cmp_Less_uint64 ⟨[(.int .u64 t1), (.int .u64 t2)]⟩ Hx fun v3 Hx3 => asB v3 fun t3 =>
        (bif t3 then I (IntKind.i64.wrap (t - 1)) Hx3 ∧ mm (IntKind.i64.wrap (t - 1)) Hx3 < mm t Hx else R t Hx3)
      else R t Hx) := by
  have hbig := h.big
  refine ⟨fun t H' => ∃ j' : Nat, t = j' ∧ j' ≤ j ∧ Par (· ≤ v) (v < ·) v m a b i j' ∧ H' = H, fun t _ => t.toNat, ⟨j, rfl, Nat.le_refl _, hp, rfl⟩, ?_⟩
  rintro t H' ⟨j', rfl, hi, hq, rfl⟩
  have g1 := hq.lo; have g2 := hq.hi; have g3 := hq.piv
  by_cases hc : (i : Int) ≤ (j' : Int)
  · refine bif_pos hc (h.cmpT rfl (by omega) rfl (by omega) (fun hlt => ?_) fun hle => hR j' hi hq fun _ => by omega)
    rw [wrap_i64 (by omega) (by omega)]
    exact ⟨⟨j' - 1, by omega, by omega, hq.down (by omega) (by show v < _; omega), rfl⟩, by (try dsimp only); omega⟩
  · exact bif_neg hc (hR j' hi hq fun _ => by omega)

theorem parEC {pv : Nat} (h : Sr H0 L x p n cap m H) (hab : a + 1 < b) (hb : b ≤ n) (hpa : a ≤ pv) (hpb : pv < b) (hK : ∀ (md : Nat) m' H', a < md → md ≤ b → Reg a b m m' → (∀ k, a ≤ k → k < md → m'.getD k 0 ≤ m.getD pv 0) → (∀ k, md ≤ k → k < b → m.getD pv 0 < m'.getD k 0) → Sr H0 L x p n cap m' H' → K (.int .i64 md) H') :
    hcall PR f_slices_partitionEqualOrdered_uint64 ⟨[.slice p n cap, .int .i64 a, .int .i64 b, .int .i64 pv]⟩ H K := by
  apply den_slices_partitionEqualOrdered_uint64
  unfold B_slices_partitionEqualOrdered_uint64
  have hbig := h.big
  have hln := h.len
  have w1 : IntKind.i64.wrap ((b : Int) - 1) = ((b - 1 : Nat) : Int) := by rw [wrap_i64 (by omega) (by omega)]; omega
  have w2 : IntKind.i64.wrap ((a : Int) + 1) = ((a + 1 : Nat) : Int) := by rw [wrap_i64 (by omega) (by omega)]; omega
  rw [w1, w2]
  refine h.swap rfl (by omega) rfl (by omega) fun H1 h1 => ?_
  obtain ⟨v, hv⟩ : ∃ v, v = m.getD pv 0 := ⟨_, rfl⟩
  rw [← hv] at hK
  have hg1 : Reg a b m (swp m a pv) := Reg.refl.sw (by omega) (by omega) (by omega) (by omega) (by omega)
  have hp1 : Par (· ≤ v) (v < ·) v (swp m a pv) a b (a + 1) (b - 1) := ⟨by
    rw [swp_get (by omega) (by omega)]
    split
    next e => rw [hv, ← e]
    · rw [if_pos rfl, hv], fun k g1 g2 => by omega, fun k g1 g2 => by omega, by omega, by omega, by omega⟩
  refine ⟨fun s t H' => ∃ (i j : Nat) (m1 : List Int), s = i ∧ t = j ∧ Par (· ≤ v) (v < ·) v m1 a b i j ∧ Reg a b m m1 ∧ Sr H0 L x p n cap m1 H', fun s t _ => (t + 1 - s).toNat, ⟨a + 1, b - 1, _, rfl, rfl, hp1, hg1, h1⟩, ?_⟩
  clear h1 hg1 hp1
  rintro s t H2 ⟨i, j, m1, rfl, rfl, hp, hg, h2⟩
  have hl1 := hg.len
  have ij := hp.ij; have plo := hp.lo; have phi := hp.hi
  intro R20 hR20
  refine upE h2 hb hp fun i' hi' hp' hq' => hR20 _ _ ?_
  intro R23 hR23
  refine dnE h2 hb hp' fun j' hj' hp'' hq'' => hR23 _ _ ?_
  have ij' := hp''.ij; have plo' := hp''.lo; have phi' := hp''.hi
  by_cases hc : (i' : Int) > (j' : Int)
  · refine bif_pos hc (hK i' m1 H2 (by omega) (by omega) hg (fun k g1 g2 => ?_) (fun k g1 g2 => hp''.right k (by omega) g2) h2)
    by_cases e : k = a
    · subst e; rw [hp''.piv]; exact Int.le_refl _
    · exact hp''.left k (by omega) g2
  · have q1 := hq' (by omega)
    have q2 := hq'' (by omega)
    have hne : i' ≠ j' := fun e => by subst e; omega
    refine bif_neg hc (h2.swap rfl (by omega) rfl (by omega) fun H3 h3 => ?_)
    rw [wrap_i64 (by omega) (by omega), wrap_i64 (by omega) (by omega)]
    exact ⟨⟨i' + 1, j' - 1, _, by omega, by omega, hp''.sw (by omega) (by omega) q2 q1, hg.sw (by omega) (by omega) (by omega) (by omega) (by omega), h3⟩, by (try dsimp only); omega⟩
theorem parC {pv : Nat} (h : Sr H0 L x p n cap m H) (hab : a + 1 < b) (hb : b ≤ n) (hpa : a ≤ pv) (hpb : pv < b) (hK : ∀ (md : Nat) (r : Bool) m' H', a ≤ md → md < b → Reg a b m m' → (∀ k, a ≤ k → k < md → m'.getD k 0 ≤ m'.getD md 0) → (∀ k, md < k → k < b → m'.getD md 0 ≤ m'.getD k 0) → Sr H0 L x p n cap m' H' → K (.tuple #[.int .i64 md, .bool r]) H') :
    hcall PR f_slices_partitionOrdered_uint64 ⟨[.slice p n cap, .int .i64 a, .int .i64 b, .int .i64 pv]⟩ H K := by
  apply den_slices_partitionOrdered_uint64
  unfold B_slices_partitionOrdered_uint64
  have hbig := h.big
  have hln := h.len
  have w1 : IntKind.i64.wrap ((b : Int) - 1) = ((b - 1 : Nat) : Int) := by rw [wrap_i64 (by omega) (by omega)]; omega
  have w2 : IntKind.i64.wrap ((a : Int) + 1) = ((a + 1 : Nat) : Int) := by rw [wrap_i64 (by omega) (by omega)]; omega
  rw [w1, w2]
  refine h.swap rfl (by omega) rfl (by omega) fun H1 h1 => ?_
  obtain ⟨v, hv⟩ : ∃ v, v = m.getD pv 0 := ⟨_, rfl⟩
  have hg1 : Reg a b m (swp m a pv) := Reg.refl.sw (by omega) (by omega) (by omega) (by omega) (by omega)
  have hp1 : Par (· < v) (v ≤ ·) v (swp m a pv) a b (a + 1) (b - 1) := ⟨by
    rw [swp_get (by omega) (by omega)]
    split
    next e => rw [hv, ← e]
    · rw [if_pos rfl, hv], fun k g1 g2 => by omega, fun k g1 g2 => by omega, by omega, by omega, by omega⟩
  have fin : ∀ (r : Bool) (i j : Nat) (m1 : List Int) H2, Par (· < v) (v ≤ ·) v m1 a b i j → Reg a b m m1 → j < i → Sr H0 L x p n cap (swp m1 j a) H2 → K (.tuple #[.int .i64 j, .bool r]) H2 := fun r i j m1 H2 hp hg hji h2 => by
    have hl1 := hg.len
    have ij := hp.ij; have plo := hp.lo; have phi := hp.hi; have piv := hp.piv
    have hs : ∀ k, (swp m1 j a).getD k 0 = if k = a then m1.getD j 0 else if k = j then m1.getD a 0 else m1.getD k 0 := fun k => swp_get (by omega) (by omega)
    have hj : (swp m1 j a).getD j 0 = v := by
      rw [hs]
      split
      next e => rw [e, piv]
      · rw [if_pos rfl, piv]
    refine hK j r _ H2 (by omega) phi (hg.sw (by omega) (by omega) (by omega) (by omega) (by omega)) (fun k g1 g2 => ?_) (fun k g1 g2 => ?_) h2
    · rw [hj, hs]
      split
      · exact Int.le_of_lt (hp.left j (by omega) (by omega))
      · rw [if_neg (by omega)]
        exact Int.le_of_lt (hp.left k (by omega) (by omega))
    · rw [hj, hs, if_neg (by omega), if_neg (by omega)]
      exact hp.right k g1 g2
  intro R15 hR15
  refine upI h1 hb hp1 fun i' hi' hp' hq' => hR15 _ _ ?_
  intro R18 hR18
  refine dnI h1 hb hp' fun j' hj' hp'' hq'' => hR18 _ _ ?_
  have ij' := hp''.ij; have plo' := hp''.lo; have phi' := hp''.hi
  have hl1 := hg1.len
  by_cases hc : (i' : Int) > (j' : Int)
  · refine bif_pos hc (h1.swap rfl (by omega) rfl (by omega) fun H3 h3 => ?_)
    exact fin true i' j' _ H3 hp'' hg1 (by omega) h3
  have q1 := hq' (by omega)
  have q2 := hq'' (by omega)
  have hne : i' ≠ j' := fun e => by subst e; omega
  refine bif_neg hc (h1.swap rfl (by omega) rfl (by omega) fun H3 h3 => ?_)
  rw [wrap_i64 (by omega) (by omega), wrap_i64 (by omega) (by omega)]
  refine ⟨fun s t H' => ∃ (i j : Nat) (m1 : List Int), s = i ∧ t = j ∧ Par (· < v) (v ≤ ·) v m1 a b i j ∧ Reg a b m m1 ∧ Sr H0 L x p n cap m1 H', fun s t _ => (t + 1 - s).toNat, ⟨i' + 1, j' - 1, _, by omega, by omega, hp''.sw (by omega) (by omega) q2 q1, hg1.sw (by omega) (by omega) (by omega) (by omega) (by omega), h3⟩, ?_⟩
  clear h1 hp1 hp' hq' hp'' hq'' hR15 hR18 q1 q2 hne h3 hc ij' plo' phi' hl1 hg1
  clear i' j' hi' hj'
  rintro s t H2 ⟨i, j, m1, rfl, rfl, hp, hg, h2⟩
  have hl1 := hg.len
  have ij := hp.ij; have plo := hp.lo; have phi := hp.hi
  intro R42 hR42
  refine upI h2 hb hp fun i' hi' hp' hq' => hR42 _ _ ?_
  intro R45 hR45
  refine dnI h2 hb hp' fun j' hj' hp'' hq'' => hR45 _ _ ?_
  have ij' := hp''.ij; have plo' := hp''.lo; have phi' := hp''.hi
  by_cases hc : (i' : Int) > (j' : Int)
  · refine bif_pos hc (h2.swap rfl (by omega) rfl (by omega) fun H3 h3 => ?_)
    exact fin false i' j' _ H3 hp'' hg (by omega) h3
  · have q1 := hq' (by omega)
    have q2 := hq'' (by omega)
    have hne : i' ≠ j' := fun e => by subst e; omega
    refine bif_neg hc (h2.swap rfl (by omega) rfl (by omega) fun H3 h3 => ?_)
    rw [wrap_i64 (by omega) (by omega), wrap_i64 (by omega) (by omega)]
    exact ⟨⟨i' + 1, j' - 1, _, by omega, by omega, hp''.sw (by omega) (by omega) q2 q1, hg.sw (by omega) (by omega) (by omega) (by omega) (by omega), h3⟩, by (try dsimp only); omega⟩
end
end Go.Proofs.Ytknejebggegfjaa

namespace Go.Proofs.Ytknejebggegfjaa
set_option linter.unusedSimpArgs false
set_option linter.unusedVariables false
set_option maxRecDepth 20000
open Go
theorem tup2I {a b : Value} {K : Value → Value → Prop} (h : K a b) : tup2 (.tuple #[a, b]) K := h
theorem Btw.left {m : List Int} {a0 b0 a b md : Nat} (h : Btw m a0 b0 a b) (h1 : a ≤ md) (h2 : md < b) (hl : ∀ k, a ≤ k → k < md → m.getD k 0 ≤ m.getD md 0) (hr : ∀ k, md < k → k < b → m.getD md 0 ≤ m.getD k 0) (hu : Up2 m a md) : Btw m a0 b0 (md + 1) b := fun x y g1 g2 g3 g4 => by
  by_cases hc : x < a ∨ b ≤ y
  · exact h x y g1 g2 g3 hc
  · by_cases e : x = md
    · subst e; exact hr y g2 (by omega)
    · by_cases e2 : y = md
      · subst e2; exact hl x (by omega) g2
      · by_cases e3 : y < md
        · exact hu x y (by omega) g2 e3
        · exact Int.le_trans (hl x (by omega) (by omega)) (hr y (by omega) (by omega))
theorem Btw.right {m : List Int} {a0 b0 a b md : Nat} (h : Btw m a0 b0 a b) (h1 : a ≤ md) (h2 : md < b) (hl : ∀ k, a ≤ k → k < md → m.getD k 0 ≤ m.getD md 0) (hr : ∀ k, md < k → k < b → m.getD md 0 ≤ m.getD k 0) (hu : Up2 m (md + 1) b) : Btw m a0 b0 a md := fun x y g1 g2 g3 g4 => by
  by_cases hc : x < a ∨ b ≤ y
  · exact h x y g1 g2 g3 hc
  · by_cases e : x = md
    · subst e; exact hr y g2 (by omega)
    · by_cases e2 : y = md
      · subst e2; exact hl x (by omega) g2
      · by_cases e3 : md < x
        · exact hu x y (by omega) g2 (by omega)
        · exact Int.le_trans (hl x (by omega) (by omega)) (hr y (by omega) (by omega))
section
variable {H0 : Hp} {L : List Prt} {i n cap : Nat} {p : Option Addr}
theorem pdqC (d : Nat) : ∀ {a b : Nat} {lim : Int} {m : List Int} {H : Hp} {K : Value → Hp → Prop}, b - a ≤ d → a ≤ b → b ≤ n → Lo m a b → Sr H0 L i p n cap m H → (∀ m' H', Reg a b m m' → Up2 m' a b → Sr H0 L i p n cap m' H' → K (.tuple #[]) H') →
    hcall PR f_slices_pdqsortOrdered_uint64 ⟨[.slice p n cap, .int .i64 a, .int .i64 b, .int .i64 lim]⟩ H K := by
  induction d using Nat.strongRecOn with
  | ind d ih =>
  intro a b lim m H K hd hab hbn hlo h hK
  apply den_slices_pdqsortOrdered_uint64
  unfold B_slices_pdqsortOrdered_uint64
  have hbig := h.big
  have hln := h.len
  refine ⟨fun s t lm wb wp H' => ∃ (x y : Nat) (m1 : List Int), s = x ∧ t = y ∧ a ≤ x ∧ x ≤ y ∧ y ≤ b ∧ Lo m1 x y ∧ Btw m1 a b x y ∧ Reg a b m m1 ∧ Sr H0 L i p n cap m1 H', fun s t _ _ _ _ => (t - s).toNat, ⟨a, b, m, rfl, rfl, by omega, hab, by omega, hlo, .start, .refl, h⟩, ?_⟩
  clear h
  rintro s t lm wb wp H1 ⟨x, y, m1, rfl, rfl, hx, hxy, hy, hl, hb, hg, h1⟩
  have w1 : IntKind.i64.wrap ((y : Int) - (x : Int)) = ((y - x : Nat) : Int) := by rw [wrap_i64 (by omega) (by omega)]; omega
  rw [w1]
  have fin : ∀ m2 H2, Reg x y m1 m2 → Up2 m2 x y → Sr H0 L i p n cap m2 H2 → K (.tuple #[]) H2 := fun m2 H2 g2 u2 h2 => hK m2 H2 (hg.trans (g2.wide hx hy)) ((hb.reg g2 hx hy).done u2) h2
  by_cases hc : ((y - x : Nat) : Int) ≤ 12
  · exact bif_pos hc (insR h1 hxy (by omega) fun m2 H2 g2 u2 h2 => fin m2 H2 g2 u2 h2)
  refine bif_neg hc ?_
  by_cases hl0 : lm = 0
  · exact bif_eq hl0 (heapC h1 (by omega) (by omega) fun m2 H2 g2 u2 h2 => fin m2 H2 g2 u2 h2)
  refine bif_ne hl0 ?_
  intro R19 hR19
  have hQ19 : ∀ (lm' : Int) (m2 : List Int) (H2 : Hp), Reg x y m1 m2 → Sr H0 L i p n cap m2 H2 → R19 lm' H2 := fun lm' m2 H2 g2 h2 => by
    refine hR19 _ H2 ?_
    refine pivC h2 (by omega) (by omega) fun pv hint H3 p1 p2 h3 => ?_
    refine tup2I (asI_mk (asI_mk ?_))
    intro R28 hR28
    have hQ28 : ∀ (pv' : Nat) (hint' : Int) (m3 : List Int) (H3 : Hp), x ≤ pv' → pv' < y → Reg x y m1 m3 → Sr H0 L i p n cap m3 H3 → R28 (pv' : Int) hint' H3 := fun pv' hint' m3 H3 q1 q2 g3 h3 => by
      refine hR28 _ _ H3 ?_
      intro R32 hR32
      have hQ32 : ∀ (m4 : List Int) (H4 : Hp), Reg x y m1 m4 → Sr H0 L i p n cap m4 H4 → R32 H4 := fun m4 H4 g4 h4 => by
        refine hR32 H4 ?_
        intro R34 hR34
        have hl4 := hl.reg g4
        have hb4 := hb.reg g4 hx hy
        have hgg4 := hg.trans (g4.wide hx hy)
        have hln4 := h4.len
        have hQ34 : R34 (x : Int) H4 := by
          refine hR34 _ H4 ?_
          refine parC h4 (by omega) (by omega) q1 q2 fun md r m5 H5 d1 d2 g5 l5 r5 h5 => ?_
          refine tup2I (asI_mk ?_)
          show (8 : Int) ≠ 0 ∧ _
          refine ⟨by decide, ?_⟩
          have hl5 := hl4.reg g5
          have hb5 := hb4.reg g5 hx hy
          have hgg5 := hgg4.trans (g5.wide hx hy)
          have w2 : IntKind.i64.wrap ((md : Int) + 1) = ((md + 1 : Nat) : Int) := by rw [wrap_i64 (by omega) (by omega)]; omega
          rw [w2]
          by_cases hs : IntKind.i64.wrap ((md : Int) - (x : Int)) < IntKind.i64.wrap ((y : Int) - (md : Int))
          · refine bif_pos hs (ih (md - x) (by omega) (Nat.le_refl _) d1 (by omega) (fun h0 k k1 k2 => hl5 h0 k k1 (by omega)) h5 fun m6 H6 g6 u6 h6 => ?_)
            have l6 : ∀ k, x ≤ k → k < md → m6.getD k 0 ≤ m6.getD md 0 := fun k k1 k2 => by
              rw [g6.out (k := md) (.inr (Nat.le_refl _))]
              exact g6.all (p := fun v => v ≤ m5.getD md 0) l5 k1 k2
            have r6 : ∀ k, md < k → k < y → m6.getD md 0 ≤ m6.getD k 0 := fun k k1 k2 => by
              rw [g6.out (k := md) (.inr (Nat.le_refl _)), g6.out (k := k) (.inr (by omega))]
              exact r5 k k1 k2
            exact ⟨⟨md + 1, y, m6, rfl, rfl, by omega, by omega, hy, fun _ k k1 k2 => by rw [Nat.add_sub_cancel]; exact r6 k (by omega) k2, (hb5.reg (g6.wide (Nat.le_refl _) (by omega)) hx hy).left d1 d2 l6 r6 u6, hgg5.trans (g6.wide hx (by omega)), h6⟩, by (try dsimp only); omega⟩
          · refine bif_neg hs (ih (y - (md + 1)) (by omega) (Nat.le_refl _) (by omega) (by omega) (fun _ k k1 k2 => by rw [Nat.add_sub_cancel]; exact r5 k (by omega) k2) h5 fun m6 H6 g6 u6 h6 => ?_)
            have l6 : ∀ k, x ≤ k → k < md → m6.getD k 0 ≤ m6.getD md 0 := fun k k1 k2 => by
              rw [g6.out (k := md) (.inl (by omega)), g6.out (k := k) (.inl (by omega))]
              exact l5 k k1 k2
            have r6 : ∀ k, md < k → k < y → m6.getD md 0 ≤ m6.getD k 0 := fun k k1 k2 => by
              rw [g6.out (k := md) (.inl (by omega))]
              exact g6.all (p := fun v => m5.getD md 0 ≤ v) (fun k k1 k2 => r5 k (by omega) k2) (by omega) k2
            have gw := g6.wide (a' := x) (b' := y) (by omega) (Nat.le_refl _)
            exact ⟨⟨x, md, m6, rfl, rfl, by omega, by omega, by omega, fun h0 k k1 k2 => hl5.reg gw h0 k k1 (by omega), (hb5.reg gw hx hy).right d1 d2 l6 r6 u6, hgg5.trans (gw.wide hx hy), h6⟩, by (try dsimp only); omega⟩
        clear hR34
        by_cases hx0 : (x : Int) > 0
        rotate_left
        · exact bif_neg hx0 hQ34
        refine bif_pos hx0 ?_
        have w2 : IntKind.i64.wrap ((x : Int) - 1) = ((x - 1 : Nat) : Int) := by rw [wrap_i64 (by omega) (by omega)]; omega
        rw [w2]
        refine h4.cmpN rfl (by omega) rfl (by omega) (fun hle => ?_) fun _ => hQ34
        refine parEC h4 (by omega) (by omega) q1 q2 fun md m5 H5 d1 d2 g5 l5 r5 h5 => ?_
        refine asI_mk ?_
        have hl5 := hl4.reg g5
        have hb5 := hb4.reg g5 hx hy
        have e5 : m5.getD (x - 1) 0 = m4.getD (x - 1) 0 := g5.out (.inl (by omega))
        refine ⟨⟨md, y, m5, rfl, rfl, by omega, d2, hy, fun _ k k1 k2 => ?_, fun u w k1 k2 k3 k4 => ?_, hgg4.trans (g5.wide hx hy), h5⟩, by (try dsimp only); omega⟩
        · exact Int.le_trans (l5 (md - 1) (by omega) (by omega)) (Int.le_of_lt (r5 k k1 k2))
        · by_cases hc : u < x ∨ y ≤ w
          · exact hb5 u w k1 k2 k3 hc
          · have h6 := l5 u (by omega) (by omega)
            by_cases hw : w < md
            · have := hl5 (by omega) w (by omega) (by omega)
              omega
            · have := r5 w (by omega) (by omega)
              omega
      clear hR32
      cases wb with
      | false => exact hQ32 m3 H3 g3 h3
      | true =>
        cases wp with
        | false => exact hQ32 m3 H3 g3 h3
        | true =>
          show cond (hint' == 1) _ _
          by_cases e1 : hint' = 1
          · refine bif_eq e1 (pisC h3 (by omega) (by omega) (hl.reg g3) fun r m4 H4 g4 u4 h4 => ?_)
            cases r with
            | false => exact hQ32 m4 H4 (g3.trans g4) h4
            | true => exact fin m4 H4 (g3.trans g4) (u4 rfl) h4
          · exact bif_ne e1 (hQ32 m3 H3 g3 h3)
    clear hR28
    by_cases e2 : hint = 2
    · refine bif_eq e2 (revC h3 (by omega) (by omega) fun m4 H4 g4 h4 => ?_)
      have w2 : IntKind.i64.wrap ((y : Int) - 1) = ((y - 1 : Nat) : Int) := by rw [wrap_i64 (by omega) (by omega)]; omega
      have w3 : IntKind.i64.wrap ((pv : Int) - (x : Int)) = ((pv - x : Nat) : Int) := by rw [wrap_i64 (by omega) (by omega)]; omega
      have w4 : IntKind.i64.wrap (((y - 1 : Nat) : Int) - ((pv - x : Nat) : Int)) = ((y - 1 - (pv - x) : Nat) : Int) := by rw [wrap_i64 (by omega) (by omega)]; omega
      show R28 _ 1 H4
      rw [w2, w3, w4]
      exact hQ28 _ 1 m4 H4 (by omega) (by omega) (g2.trans g4) h4
    · exact bif_ne e2 (hQ28 pv hint m2 H3 p1 p2 g2 h3)
  clear hR19
  cases wb with
  | false => exact brkC h1 (by omega) (by omega) fun m2 H2 g2 h2 => hQ19 _ m2 H2 g2 h2
  | true => exact hQ19 lm m1 H1 .refl h1
theorem sortR {l : List Int} {H : Hp} {K : Value → Hp → Prop} (h : Sr H0 L i p n cap l H) (hK : ∀ H', Sr H0 L i p n cap (rise1 l) H' → K (.tuple #[]) H') : hcall PR f_slices_Sort_Suint64_uint64 ⟨[.slice p n cap]⟩ H K := by
  apply den_slices_Sort_Suint64_uint64
  unfold B_slices_Sort_Suint64_uint64
  have hbig := h.big
  have hln := h.len
  rw [wrap_u64' (by omega) (by omega)]
  refine lenC (by omega) fun z _ _ => asI_mk ?_
  refine pdqC n (a := 0) (b := n) (by omega) (by omega) (Nat.le_refl _) (fun h0 => absurd h0 (by omega)) h fun m' H' g u h' => ?_
  refine hK H' ?_
  have hp := g.perm
  have : m' = rise1 l := by
    refine rise_is hp ?_
    rw [List.pairwise_iff_getElem]
    intro a b ha hb hab
    have := u a b (by omega) hab (by rw [← hln, ← g.len]; exact hb)
    rw [List.getD_eq_getElem?_getD, List.getD_eq_getElem?_getD, List.getElem?_eq_getElem ha, List.getElem?_eq_getElem hb] at this
    exact this
  rw [← this]
  exact h'
end
end Go.Proofs.Ytknejebggegfjaa

namespace Go.Proofs.Ytknejebggegfjaa
set_option linter.unusedSimpArgs false
set_option linter.unusedVariables false
open Go
/-- Put into a rising list, once. -/
def putL : List Int → Int → List Int
  | [], n => [n]
  | a :: l, n => if a < n then a :: putL l n else if a = n then a :: l else n :: a :: l
theorem putL_mem {l : List Int} {n x : Int} : x ∈ putL l n ↔ x = n ∨ x ∈ l := by
  induction l with
  | nil => simp [putL]
  | cons a l ih =>
    unfold putL
    split
    · simp only [List.mem_cons, ih]; exact or_left_comm
    · split
      next h => subst h; simp
      · simp only [List.mem_cons]
theorem putL_rise {l : List Int} {n : Int} (h : l.Pairwise (· < ·)) : (putL l n).Pairwise (· < ·) := by
  induction l with
  | nil => simp [putL]
  | cons a l ih =>
    have h1 := (List.pairwise_cons.1 h).1
    have h2 := (List.pairwise_cons.1 h).2
    unfold putL
    split
    next ha =>
      refine List.pairwise_cons.2 ⟨fun x hx => ?_, ih h2⟩
      rcases putL_mem.1 hx with rfl | hx
      · exact ha
      · exact h1 x hx
    next ha =>
      split
      · exact h
      next hb =>
        refine List.pairwise_cons.2 ⟨fun x hx => ?_, h⟩
        rcases List.mem_cons.1 hx with rfl | hx
        · omega
        · have := h1 x hx; omega
theorem putL_at {l : List Int} {n : Int} : ∀ {i : Nat}, i ≤ l.length → (∀ k, k < i → l.getD k 0 < n) → (i < l.length → n ≤ l.getD i 0) → putL l n = if i < l.length ∧ l.getD i 0 = n then l else l.take i ++ n :: l.drop i := by
  induction l with
  | nil => intro i hi _ _; simp at hi; subst hi; simp [putL]
  | cons a l ih =>
    intro i hi h1 h2
    cases i with
    | zero =>
      have := h2 (by simp)
      simp only [List.getD_cons_zero] at this
      unfold putL
      rw [if_neg (by omega)]
      simp only [List.length_cons, List.getD_cons_zero, List.take_zero, List.drop_zero, List.nil_append]
      by_cases h : a = n
      · rw [if_pos h, if_pos ⟨by omega, h⟩]
      · rw [if_neg h, if_neg (fun x => h x.2)]
    | succ i =>
      have h0 := h1 0 (by omega)
      simp only [List.getD_cons_zero] at h0
      unfold putL
      rw [if_pos h0, ih (i := i) (by simpa using hi) (fun k hk => by simpa using h1 (k + 1) (by omega)) (fun hk => by simpa using h2 (by simpa using hk))]
      simp only [List.length_cons, List.getD_cons_succ, List.take_succ_cons, List.drop_succ_cons, List.cons_append, Nat.add_lt_add_iff_right]
      split <;> rfl
theorem strict_eq : ∀ {a b : List Int}, a.Pairwise (· < ·) → b.Pairwise (· < ·) → (∀ x, x ∈ a ↔ x ∈ b) → a = b
  | [], [], _, _, _ => rfl
  | [], b :: bl, _, _, h => absurd ((h b).2 (by simp)) (by simp)
  | a :: al, [], _, _, h => absurd ((h a).1 (by simp)) (by simp)
  | a :: al, b :: bl, ha, hb, h => by
    have ha1 := (List.pairwise_cons.1 ha).1
    have hb1 := (List.pairwise_cons.1 hb).1
    have e : a = b := by
      rcases List.mem_cons.1 ((h a).1 (by simp)) with e | e
      · exact e
      · rcases List.mem_cons.1 ((h b).2 (by simp)) with e' | e'
        · exact e'.symm
        · have := ha1 b e'; have := hb1 a e; omega
    subst e
    rw [strict_eq (List.pairwise_cons.1 ha).2 (List.pairwise_cons.1 hb).2 fun x => ⟨fun hx => ?_, fun hx => ?_⟩]
    · rcases List.mem_cons.1 ((h x).1 (List.mem_cons_of_mem _ hx)) with e | e
      · have := ha1 x hx; omega
      · exact e
    · rcases List.mem_cons.1 ((h x).2 (List.mem_cons_of_mem _ hx)) with e | e
      · have := hb1 x hx; omega
      · exact e
theorem cpt_mem : ∀ {l : List Int} {x : Int}, x ∈ cpt l ↔ x ∈ l
  | [], x => Iff.rfl
  | [a], x => Iff.rfl
  | a :: b :: l, x => by
    unfold cpt
    split
    next h => subst h; rw [cpt_mem]; simp
    next h => rw [List.mem_cons, cpt_mem, List.mem_cons (a := x) (b := a)]
theorem cpt_rise : ∀ {l : List Int}, l.Pairwise (· ≤ ·) → (cpt l).Pairwise (· < ·)
  | [], _ => by simp [cpt]
  | [a], _ => by simp [cpt]
  | a :: b :: l, h => by
    have h1 := (List.pairwise_cons.1 h).1
    have h2 := (List.pairwise_cons.1 h).2
    unfold cpt
    split
    next e => exact cpt_rise h2
    next e =>
      refine List.pairwise_cons.2 ⟨fun x hx => ?_, cpt_rise h2⟩
      have hx := cpt_mem.1 hx
      have hab := h1 b (by simp)
      rcases List.mem_cons.1 hx with rfl | hx
      · omega
      · have := (List.pairwise_cons.1 h2).1 x hx; omega
/-- All put, one behind the other: what was put in order, each once. -/
theorem puts_eq {l : List Int} : l.foldl putL [] = cpt (rise1 l) := by
  have h : ∀ (l acc : List Int), acc.Pairwise (· < ·) → (l.foldl putL acc).Pairwise (· < ·) ∧ ∀ x, x ∈ l.foldl putL acc ↔ x ∈ acc ∨ x ∈ l := by
    intro l
    induction l with
    | nil => intro acc h; exact ⟨h, fun x => by simp⟩
    | cons a l ih =>
      intro acc h
      obtain ⟨h1, h2⟩ := ih (putL acc a) (putL_rise h)
      refine ⟨h1, fun x => ?_⟩
      rw [List.foldl_cons, h2, putL_mem, List.mem_cons, or_assoc, or_left_comm]
  refine strict_eq (h l [] List.Pairwise.nil).1 (cpt_rise rise1_rise) fun x => ?_
  rw [(h l [] List.Pairwise.nil).2, cpt_mem, rise1_perm.mem_iff]
  simp
theorem cpt_snoc : ∀ {l : List Int} {a b : Int}, cpt (l ++ [a, b]) = if a = b then cpt (l ++ [a]) else cpt (l ++ [a]) ++ [b]
  | [], a, b => by
    simp only [List.nil_append, cpt]
    split
    next h => rw [h]
    · rfl
  | [c], a, b => by
    have := cpt_snoc (l := []) (a := a) (b := b)
    simp only [List.nil_append] at this
    show cpt (c :: a :: [b]) = if a = b then cpt (c :: a :: []) else cpt (c :: a :: []) ++ [b]
    unfold cpt
    rw [this]
    split <;> split <;> simp
  | c :: d :: l, a, b => by
    have := cpt_snoc (l := d :: l) (a := a) (b := b)
    show cpt (c :: d :: (l ++ [a, b])) = if a = b then cpt (c :: d :: (l ++ [a])) else cpt (c :: d :: (l ++ [a])) ++ [b]
    simp only [List.cons_append] at this
    unfold cpt
    rw [this]
    split <;> split <;> simp
theorem cpt_take {l : List Int} {k : Nat} (h0 : 0 < k) (hk : k < l.length) : cpt (l.take (k + 1)) = if l.getD (k - 1) 0 = l.getD k 0 then cpt (l.take k) else cpt (l.take k) ++ [l.getD k 0] := by
  obtain ⟨k, rfl⟩ : ∃ j, k = j + 1 := ⟨k - 1, by omega⟩
  rw [List.take_succ_eq_append_getElem hk, List.take_succ_eq_append_getElem (i := k) (by omega), List.append_assoc]
  rw [Nat.add_sub_cancel, List.getD_eq_getElem?_getD, List.getD_eq_getElem?_getD, List.getElem?_eq_getElem hk, List.getElem?_eq_getElem (show k < l.length by omega)]
  show cpt (List.take k l ++ [l[k], l[k + 1]]) = _
  rw [cpt_snoc]
  rfl
theorem cpt_len : ∀ {l : List Int}, (cpt l).length ≤ l.length
  | [] => Nat.le_refl _
  | [a] => Nat.le_refl _
  | a :: b :: l => by
    unfold cpt
    have := cpt_len (l := b :: l)
    simp only [List.length_cons] at *
    split
    · omega
    · simp only [List.length_cons]; omega
end Go.Proofs.Ytknejebggegfjaa

namespace Go.Proofs.Ytknejebggegfjaa
set_option linter.unusedSimpArgs false
set_option linter.unusedVariables false
set_option maxRecDepth 20000
open Go
/-- clear, of what is behind a place: what stands ahead of it stays. -/
theorem clear_part {P : Program} {sl e ty bytes cap : Nat} {z : Value} {n u : Nat} {p : Option Addr} {xs : List Value} {H : Hp} {K : Value → Hp → Prop}
    (hsl : P.underlying sl = some (.slice e)) (hi : (P.info? e).map (fun i => (i.zero, i.size, i.bytes)) = some (some z, 1, bytes)) (hz : z.cells = #[z]) (h1 : one z = true) (ho : Own H 1 p n cap xs) (hu : u ≤ n)
    (hK : ∀ H', Own H' 1 p u cap (xs.take u) → Goes (blk p) H (blk p) H' → K (.tuple #[]) H') : evW P (Builtin.clear_ #[sl] ty #[.slice (slcP p cap u 1) (n - u) (cap - u)]) H K := by
  have ht := ho.take hu
  rw [Nat.mul_one] at ht
  obtain ⟨inf, g1, g2, g3, rfl⟩ := info_at hi
  obtain ⟨hl, hle, h3⟩ := ho
  intro w hw
  subst hw
  by_cases hn0 : n - u = 0
  · rw [hn0]
    refine ⟨.tuple #[], w, ?_, .refl w, hK _ ht (Goes.refl _ _)⟩
    cases hp : slcP p cap u 1 with
    | none => simp [Builtin.clear_, run_underlying hsl, Result.andThen]
    | some a => simp [Builtin.clear_, run_underlying hsl, Result.andThen]
  cases p with
  | none =>
    simp only at h3
    omega
  | some a =>
    obtain ⟨b, o, s⟩ := a
    obtain ⟨hs, c, ee, hb, hsz, hc⟩ := h3
    simp only at hs hb hsz hc
    subst hs
    rw [slcP_some (by omega), Nat.mul_one]
    obtain ⟨w', c', r', s', e', z', h4, h5⟩ := hset_run (P := P) (a := ⟨b, o + u, none⟩) rfl (vs := List.replicate (n - u) z) (i := 0) (w := w) hb (by simp; omega) (fun v hv => by rw [(List.mem_replicate.1 hv).2]; exact h1)
    refine ⟨.tuple #[], w', ?_, s', hK _ ⟨by simp [hl]; omega, by omega, rfl, c', ee, by rw [e']; exact upd_same, by simp only; omega, fun i hi => ?_⟩ ?_⟩
    · obtain ⟨m, hm⟩ : ∃ m, n - u = m + 1 := ⟨n - u - 1, by omega⟩
      rw [hm] at r' ⊢
      have hzc : (Builtin.zeroCells z.cells (m + 1)).toList = List.replicate (m + 1) z := by
        rw [hz]
        apply List.ext_getElem?
        intro i
        by_cases hi : i < m + 1
        · simp [Builtin.zeroCells, List.getElem?_replicate, hi, Nat.mod_one]
        · simp [Builtin.zeroCells, List.getElem?_replicate, hi]
      simp [Builtin.clear_, run_underlying hsl, Result.andThen, zeroValue, run_typeInfo g1, g2, hzc, r']
    · simp only
      rw [h5 (o + i) (.inl (by simp only; omega)), hc i (by omega), List.getElem?_take, if_pos (by omega)]
    · rw [e']
      exact Goes.of (Keep.upd.mono fun c h => .inl (blk_some.2 h.symm))
section
variable {H0 H : Hp} {L : List Prt} {i n cap : Nat} {p : Option Addr} {l : List Int} {K : Value → Hp → Prop}
theorem Sr.sub {m : List Int} {k j : Nat} {t : Int} {Q : Int → Prop} (h : Sr H0 L i p n cap m H) (hk : k ≤ n) (ht : t = j) (hj : k + j < n) (hQ : Q (m.getD (k + j) 0)) : idxA (slcP p cap k 1) (n - k) t 1 fun a => ldI .u64 a H Q := by
  subst ht
  have ho := (h.st.row_own h.get).drop hk
  rw [Nat.mul_one, ← List.map_drop] at ho
  refine idx1 (d := (0 : Int)) ho.rd (by omega) (by omega) fun b o _ hcl => ?_
  rw [Int.toNat_natCast] at hcl ⊢
  refine ldI_of hcl ?_
  rw [List.getD_eq_getElem?_getD, List.getElem?_drop, ← List.getD_eq_getElem?_getD]
  exact hQ
theorem compactR (h : Sr H0 L i p n cap l H) (hK : ∀ n' H', Sr H0 L i p n' cap (cpt l) H' → K (.slice p n' cap) H') : hcall PR f_slices_Compact_Suint64_uint64 ⟨[.slice p n cap]⟩ H K := by
  apply den_slices_Compact_Suint64_uint64
  unfold B_slices_Compact_Suint64_uint64
  have hbig := h.big
  have hln := h.len
  have hil := h.lt
  by_cases hc : (n : Int) < 2
  · refine bif_pos hc (hK n H ?_)
    have : cpt l = l := by
      match l, hln with
      | [], _ => rfl
      | [a], _ => rfl
      | a :: b :: l, h => simp at h; omega
    rw [this]
    exact h
  refine bif_neg hc ?_
  refine ⟨fun t H' => ∃ k : Nat, t = k ∧ 1 ≤ k ∧ k ≤ n ∧ cpt (l.take k) = l.take k ∧ Sr H0 L i p n cap l H', fun t _ => ((n : Int) - t).toNat, ⟨1, rfl, by omega, by omega, ?_, h⟩, ?_⟩
  · match l, hln with
    | [], h => simp at h; omega
    | a :: l, _ => rfl
  clear h
  rintro t H1 ⟨k, rfl, hk1, hk, hct, h1⟩
  by_cases hkn : (k : Int) < (n : Int)
  rotate_left
  · refine bif_neg hkn (hK n H1 ?_)
    have : cpt l = l := by
      rw [List.take_of_length_le (by omega)] at hct
      exact hct
    rw [this]
    exact h1
  refine bif_pos hkn ?_
  have w1 : IntKind.i64.wrap ((k : Int) - 1) = ((k - 1 : Nat) : Int) := by rw [wrap_i64 (by omega) (by omega)]; omega
  rw [w1]
  refine h1.at rfl (by omega) (h1.at rfl (by omega) ?_)
  have hstep := cpt_take (l := l) (k := k) (by omega) (by omega)
  by_cases he : l.getD k 0 = l.getD (k - 1) 0
  rotate_left
  · refine bif_ne he ?_
    rw [wrap_i64 (by omega) (by omega)]
    rw [if_neg (fun h => he h.symm), hct] at hstep
    refine ⟨⟨k + 1, by omega, by omega, by omega, ?_, h1⟩, by (try dsimp only); omega⟩
    rw [hstep, List.take_succ_eq_append_getElem (by omega)]
    congr 2
    rw [List.getD_eq_getElem?_getD, List.getElem?_eq_getElem (by omega)]
    rfl
  rw [if_pos he.symm, hct] at hstep
  refine bif_eq he (slc_from (by omega) (by omega) ?_)
  rw [Int.toNat_natCast]
  have wk : ((n - k : Nat) : Int) = (n : Int) - k := by omega
  refine ⟨fun s t H' => ∃ (u w : Nat) (m : List Int), s = u ∧ t = w ∧ 1 ≤ w ∧ k + w ≤ n ∧ 1 ≤ u ∧ u + 1 ≤ k + w ∧ m.take u = cpt (l.take (k + w)) ∧ (∀ j, k + w ≤ j + 1 → m.getD j 0 = l.getD j 0) ∧ Sr H0 L i p n cap m H', fun _ t _ => ((n : Int) - t).toNat, ⟨k, 1, l, rfl, rfl, by omega, by omega, hk1, by omega, hstep.symm, fun _ _ => rfl, h1⟩, ?_⟩
  clear h1 w1 he hstep hct
  rintro s t H2 ⟨u, w, m, rfl, rfl, hw1, hwn, hu1, huw, htk, hr, h2⟩
  have hml := h2.len
  by_cases hwc : (w : Int) < ((n - k : Nat) : Int)
  · refine bif_pos hwc ?_
    have hstep := cpt_take (l := l) (k := k + w) (by omega) (by omega)
    intro R20 hR20
    have hQ20 : ∀ (u' : Nat) (m' : List Int) H', 1 ≤ u' → u' ≤ k + w → m'.take u' = cpt (l.take (k + w + 1)) → (∀ j, k + w ≤ j → m'.getD j 0 = l.getD j 0) → Sr H0 L i p n cap m' H' → R20 (u' : Int) H' := fun u' m' H' g1 g2 g3 g4 g5 => by
      refine hR20 _ H' ?_
      rw [wrap_i64 (by omega) (by omega)]
      exact ⟨⟨u', w + 1, m', rfl, by omega, by omega, by omega, g1, by omega, g3, fun j hj => g4 j (by omega), g5⟩, by (try dsimp only); omega⟩
    clear hR20
    have w2 : IntKind.i64.wrap ((w : Int) - 1) = ((w - 1 : Nat) : Int) := by rw [wrap_i64 (by omega) (by omega)]; omega
    rw [w2]
    refine h2.sub (j := w) (by omega) rfl (by omega) (h2.sub (j := w - 1) (by omega) rfl (by omega) ?_)
    rw [hr (k + w) (by omega), hr (k + (w - 1)) (by omega), show k + (w - 1) = k + w - 1 by omega]
    by_cases he : l.getD (k + w) 0 = l.getD (k + w - 1) 0
    · refine bif_neqf he (hQ20 u m H2 hu1 (by omega) ?_ (fun j hj => hr j (by omega)) h2)
      rw [if_pos he.symm] at hstep
      rw [hstep]
      exact htk
    · refine bif_neq he ?_
      rw [if_neg (fun h => he h.symm)] at hstep
      refine h2.sub (j := w) (by omega) rfl (by omega) ?_
      rw [hr (k + w) (by omega)]
      refine idxA_of (h2.st.row_rd h2.get) (by omega) (by omega) fun b o hpp _ => ?_
      simp only [Int.toNat_natCast]
      refine h2.st.poke (j := u * 1) h2.get hpp (by omega) fun H3 h3 => ?_
      rw [List.set_set, Nat.mul_one, ← List.map_set] at h3
      rw [wrap_i64 (by omega) (by omega)]
      refine hQ20 (u + 1) _ H3 (by omega) (by omega) ?_ (fun j hj => ?_) ⟨h3, hil, hbig⟩
      · rw [hstep, ← htk]
        rw [List.take_succ_eq_append_getElem (i := u) (l := m.set u (l.getD (k + w) 0)) (by rw [List.length_set]; omega), List.getElem_set_self, List.take_set_of_le (Nat.le_refl _)]
      · rw [getD_set (by omega), if_neg (by omega)]
        exact hr j (by omega)
  · refine bif_neg hwc (slc_from (by omega) (by omega) ?_)
    rw [Int.toNat_natCast]
    rw [show k + w = n by omega, List.take_of_length_le (i := n) (l := l) (by omega)] at htk
    obtain ⟨Fi, ha, up⟩ := h2.st.at h2.get
    refine clear_part tu_ty_Suint64 ti_ty_uint64 rfl (by decide) ha.1 (by omega) fun H3 ho hg => ?_
    refine slc_to (by omega) (by have := ha.1.2.1; omega) ?_
    rw [Int.toNat_natCast]
    rw [← List.map_take, htk] at ho
    have := h2.st.row_to h2.get ho hg
    rw [List.set_set] at this
    exact hK u H3 ⟨this, hil, by omega⟩
theorem sortOkN {m : Nat} (hm : m < 2305843009213693952) : SortOk H0 m := fun l p n cap L H K hl h hK => by
  have hln : l.length = n := by have := (h.row_own (i := 0) rfl).len1; simpa using this
  have h' : Sr H0 (Prt.row 1 p n cap (l.map (Value.int .u64)) :: L) 0 p n cap l H := ⟨h, by simp, by omega⟩
  refine sortR h' fun H2 h2 => compactR h2 fun n' H3 h3 => ?_
  exact hK p n' cap H3 h3.st
end
end Go.Proofs.Ytknejebggegfjaa

namespace Go.Proofs.Ytknejebggegfjaa
set_option linter.unusedSimpArgs false
set_option linter.unusedVariables false
set_option maxRecDepth 20000
open Go
theorem putL_len {l : List Int} {v : Int} : (putL l v).length ≤ l.length + 1 := by
  induction l with
  | nil => simp [putL]
  | cons a l ih =>
    unfold putL
    split
    · simp only [List.length_cons]; omega
    · split
      · simp only [List.length_cons]; omega
      · simp only [List.length_cons]; omega
theorem puts_rise {l : List Int} : (l.foldl putL []).Pairwise (· < ·) := by
  rw [puts_eq]
  exact cpt_rise rise1_rise
theorem puts_len {l : List Int} : (l.foldl putL []).length ≤ l.length := by
  rw [puts_eq]
  exact Nat.le_trans cpt_len (Nat.le_of_eq rise1_perm.length_eq)
theorem putL_twice {l : List Int} {v : Int} (h : l.Pairwise (· < ·)) : putL (putL l v) v = putL l v :=
  strict_eq (putL_rise (putL_rise h)) (putL_rise h) fun x => by
    rw [putL_mem, putL_mem]
    exact ⟨fun h => h.elim .inl id, .inr⟩
theorem insOf_len {rs : List (Int × List Id)} {x : Id} : (insOf rs x).length ≤ rs.length := by
  unfold insOf
  rw [List.length_map]
  exact List.length_filter_le _ _
section
variable {H0 H : Hp} {L : List Prt} {i k : Nat}
theorem insPB {p : Option Addr} {n cap : Nat} {l : List Int} {j : Nat} {b : Nat} {Q : Value → Hp → Prop} (h : St H0 L H) (hi : L[i]? = some (Prt.row 1 p n cap (l.map (Value.int .u64)))) (hb : L[k]? = some (Prt.one b (.cells #[] ty_uint64 (0, 0)))) (hj : j ≤ n) (hn : n ≤ 4398046511104)
    (hQ : ∀ p' cap' H', St H0 (L.set k (Prt.row 1 p' j cap' ((l.take j).map (Value.int .u64)))) H' → Q (.slice p' j cap') H') :
    evW PR (Builtin.append_ #[ty_Suint64, ty_Suint64] ty_Suint64 #[.slice (some ⟨b, 0, none⟩) 0 0, .slice p (j : Int).toNat cap]) H Q := by
  have hrd := (h.row_rd hi).take (m := j) hj
  rw [Nat.mul_one, ← List.map_take] at hrd
  rw [Int.toNat_natCast]
  exact h.copy hb tu_ty_Suint64 tu_ty_Suint64 ti_ty_uint64 rfl (by decide) hrd u_one (by omega) hQ
theorem insVB {p : Option Addr} {n cap : Nat} {l : List Int} {v : Int} {b : Nat} {Q : Value → Hp → Prop} (h : St H0 L H) (hi : L[i]? = some (Prt.row 1 p n cap (l.map (Value.int .u64)))) (hb : L[k]? = some (Prt.one b (.cells #[.int .u64 v] ty_uint64 (0, 0)))) (hn : n ≤ 4398046511104)
    (hQ : ∀ p' cap' H', St H0 (L.set i (Prt.row 1 p' (n + 1) cap' ((l ++ [v]).map (Value.int .u64)))) H' → Q (.slice p' (n + 1) cap') H') :
    evW PR (Builtin.append_ #[ty_Suint64, ty_Suint64] ty_Suint64 #[.slice p n cap, .slice (some ⟨b, 0, none⟩) 1 1]) H Q := by
  refine h.app hi tu_ty_Suint64 tu_ty_Suint64 ti_ty_uint64 rfl (by decide) (h.one_rd (n := 1) hb rfl) (fun z hz => by simp at hz; rw [hz]; rfl) (by omega) fun p' cap' H' h' => hQ p' cap' H' ?_
  have e : l.map (Value.int .u64) ++ (#[Value.int .u64 v] : Array Value).toList = (l ++ [v]).map (Value.int .u64) := by simp
  rw [e] at h'
  exact h'
theorem insSB {p p0 : Option Addr} {n cap n0 cap0 : Nat} {l l0 : List Int} {j : Nat} {Q : Value → Hp → Prop} (h : St H0 L H) (hi : L[i]? = some (Prt.row 1 p n cap (l.map (Value.int .u64)))) (h0 : L[k]? = some (Prt.row 1 p0 n0 cap0 (l0.map (Value.int .u64)))) (hj : j ≤ n0) (hn : n ≤ 4398046511105) (hn0 : n0 ≤ 4398046511104)
    (hQ : ∀ p' cap' H', St H0 (L.set i (Prt.row 1 p' (n + (n0 - j)) cap' ((l ++ l0.drop j).map (Value.int .u64)))) H' → Q (.slice p' (n + (n0 - j)) cap') H') :
    evW PR (Builtin.append_ #[ty_Suint64, ty_Suint64] ty_Suint64 #[.slice p n cap, .slice (slcP p0 cap0 (j : Int).toNat 1) (n0 - (j : Int).toNat) (cap0 - (j : Int).toNat)]) H Q := by
  have hrd := ((h.row_own h0).drop (l := j) hj).rd
  rw [Nat.mul_one, ← List.map_drop] at hrd
  rw [Int.toNat_natCast]
  refine h.app hi tu_ty_Suint64 tu_ty_Suint64 ti_ty_uint64 rfl (by decide) hrd u_one (by omega) fun p' cap' H' h' => hQ p' cap' H' ?_
  rw [← List.map_append] at h'
  exact h'
theorem putC {p : Option Addr} {n cap : Nat} {l : List Int} {v : Int} {K : Value → Hp → Prop} (h : St H0 (Prt.row 1 p n cap (l.map (Value.int .u64)) :: L) H) (hn : n ≤ 4398046511104)
    (hK : ∀ p' n' cap' H', n' = (putL l v).length → St H0 (Prt.row 1 p' n' cap' ((putL l v).map (Value.int .u64)) :: L) H' → K (.slice p' n' cap') H') :
    hcall PR f_ref22_put ⟨[.slice p n cap, .int .u64 v]⟩ H K := by
  apply den_ref22_put
  unfold B_ref22_put
  have hln : l.length = n := by have := (h.row_own (i := 0) rfl).len1; simpa using this
  have hcap : n ≤ cap := (h.row_own (i := 0) rfl).2.1
  intro R5 hR5
  have hQ5 : ∀ j : Nat, j ≤ n → (∀ k, k < j → l.getD k 0 < v) → (j < n → v ≤ l.getD j 0) → R5 (j : Int) H := fun j hj hlo hhi => by
    refine hR5 _ H ?_
    have hput := putL_at (l := l) (n := v) (i := j) (by omega) hlo (fun h => hhi (by omega))
    intro R8 hR8
    have hQ8 : ¬ (j < n ∧ l.getD j 0 = v) → R8 H := fun hne => by
      rw [if_neg (by rw [hln]; exact hne)] at hput
      have hput : putL l v = l.take j ++ [v] ++ l.drop j := by rw [hput, List.append_assoc]; rfl
      refine hR8 H ?_
      refine slc_to (by omega) (by omega) ?_
      refine slc_from (by omega) (by omega) ?_
      have fin : ∀ p' cap' H', St H0 (Prt.row 1 p' (j + 1 + (n - j)) cap' ((l.take j ++ [v] ++ l.drop j).map (Value.int .u64)) :: L) H' → K (.slice p' (j + 1 + (n - j)) cap') H' := fun p' cap' H' g => by
        rw [← hput] at g
        exact hK p' _ cap' H' (by have := (g.row_own (i := 0) rfl).len1; simpa using this.symm) g
      refine ⟨fun b16 hb16 => ?_, fun b52 hb52 => ?_⟩
      · have g1 := h.alloc (o := .cells #[] ty_uint64) hb16
        refine ⟨?_, fun b35 hb35 => ?_⟩
        · refine insPB g1 (i := 1) (k := 0) rfl rfl hj hn fun p1 c1 H1 h1 => ?_
          (try simp only [asI_mk', asB_mk, asP_mk, asA_mk, asM_mk, asSl_mk, asStr_mk, tup2_mk, tup3_mk, agg1_mk, agg2_mk, agg3_mk, agg4_mk, asAggm, unCons_mk, unNil_mk, asTup_mk, extractD0, extractD1, List.toList_toArray, nilP_mk, add_mk, Nat.zero_add, Nat.add_zero, condT, condF, Bool.not_true, Bool.not_false, Option.isNone_some, Option.isNone_none])
          intro b23 hb23
          have h2 := St.alloc (o := .cells #[.int .u64 v] ty_uint64) h1 hb23
          refine insVB h2 (i := 1) (k := 0) rfl rfl (by omega) fun p2 c2 H2 h3 => ?_
          (try simp only [asI_mk', asB_mk, asP_mk, asA_mk, asM_mk, asSl_mk, asStr_mk, tup2_mk, tup3_mk, agg1_mk, agg2_mk, agg3_mk, agg4_mk, asAggm, unCons_mk, unNil_mk, asTup_mk, extractD0, extractD1, List.toList_toArray, nilP_mk, add_mk, Nat.zero_add, Nat.add_zero, condT, condF, Bool.not_true, Bool.not_false, Option.isNone_some, Option.isNone_none])
          refine insSB h3 (i := 1) (k := 2) rfl rfl hj (by omega) hn fun p3 c3 H3 h4 => ?_
          (try simp only [asI_mk', asB_mk, asP_mk, asA_mk, asM_mk, asSl_mk, asStr_mk, tup2_mk, tup3_mk, agg1_mk, agg2_mk, agg3_mk, agg4_mk, asAggm, unCons_mk, unNil_mk, asTup_mk, extractD0, extractD1, List.toList_toArray, nilP_mk, add_mk, Nat.zero_add, Nat.add_zero, condT, condF, Bool.not_true, Bool.not_false, Option.isNone_some, Option.isNone_none])
          exact fin p3 c3 H3 (St.less (St.flip (St.less h4)))
        · have g2 := g1.alloc (o := .cells #[.int .u64 v] ty_uint64) hb35
          refine insPB g2 (i := 2) (k := 1) rfl rfl hj hn fun p1 c1 H1 h1 => ?_
          (try simp only [asI_mk', asB_mk, asP_mk, asA_mk, asM_mk, asSl_mk, asStr_mk, tup2_mk, tup3_mk, agg1_mk, agg2_mk, agg3_mk, agg4_mk, asAggm, unCons_mk, unNil_mk, asTup_mk, extractD0, extractD1, List.toList_toArray, nilP_mk, add_mk, Nat.zero_add, Nat.add_zero, condT, condF, Bool.not_true, Bool.not_false, Option.isNone_some, Option.isNone_none])
          refine insVB h1 (i := 1) (k := 0) rfl rfl (by omega) fun p2 c2 H2 h3 => ?_
          (try simp only [asI_mk', asB_mk, asP_mk, asA_mk, asM_mk, asSl_mk, asStr_mk, tup2_mk, tup3_mk, agg1_mk, agg2_mk, agg3_mk, agg4_mk, asAggm, unCons_mk, unNil_mk, asTup_mk, extractD0, extractD1, List.toList_toArray, nilP_mk, add_mk, Nat.zero_add, Nat.add_zero, condT, condF, Bool.not_true, Bool.not_false, Option.isNone_some, Option.isNone_none])
          refine insSB h3 (i := 1) (k := 2) rfl rfl hj (by omega) hn fun p3 c3 H3 h4 => ?_
          (try simp only [asI_mk', asB_mk, asP_mk, asA_mk, asM_mk, asSl_mk, asStr_mk, tup2_mk, tup3_mk, agg1_mk, agg2_mk, agg3_mk, agg4_mk, asAggm, unCons_mk, unNil_mk, asTup_mk, extractD0, extractD1, List.toList_toArray, nilP_mk, add_mk, Nat.zero_add, Nat.add_zero, condT, condF, Bool.not_true, Bool.not_false, Option.isNone_some, Option.isNone_none])
          exact fin p3 c3 H3 (St.less (St.flip (St.less h4)))
      · have g1 := h.alloc (o := .cells #[.int .u64 v] ty_uint64) hb52
        intro b54 hb54
        have g2 := g1.alloc (o := .cells #[] ty_uint64) hb54
        refine insPB g2 (i := 2) (k := 0) rfl rfl hj hn fun p1 c1 H1 h1 => ?_
        (try simp only [asI_mk', asB_mk, asP_mk, asA_mk, asM_mk, asSl_mk, asStr_mk, tup2_mk, tup3_mk, agg1_mk, agg2_mk, agg3_mk, agg4_mk, asAggm, unCons_mk, unNil_mk, asTup_mk, extractD0, extractD1, List.toList_toArray, nilP_mk, add_mk, Nat.zero_add, Nat.add_zero, condT, condF, Bool.not_true, Bool.not_false, Option.isNone_some, Option.isNone_none])
        refine insVB h1 (i := 0) (k := 1) rfl rfl (by omega) fun p2 c2 H2 h3 => ?_
        (try simp only [asI_mk', asB_mk, asP_mk, asA_mk, asM_mk, asSl_mk, asStr_mk, tup2_mk, tup3_mk, agg1_mk, agg2_mk, agg3_mk, agg4_mk, asAggm, unCons_mk, unNil_mk, asTup_mk, extractD0, extractD1, List.toList_toArray, nilP_mk, add_mk, Nat.zero_add, Nat.add_zero, condT, condF, Bool.not_true, Bool.not_false, Option.isNone_some, Option.isNone_none])
        refine insSB h3 (i := 0) (k := 2) rfl rfl hj (by omega) hn fun p3 c3 H3 h4 => ?_
        (try simp only [asI_mk', asB_mk, asP_mk, asA_mk, asM_mk, asSl_mk, asStr_mk, tup2_mk, tup3_mk, agg1_mk, agg2_mk, agg3_mk, agg4_mk, asAggm, unCons_mk, unNil_mk, asTup_mk, extractD0, extractD1, List.toList_toArray, nilP_mk, add_mk, Nat.zero_add, Nat.add_zero, condT, condF, Bool.not_true, Bool.not_false, Option.isNone_some, Option.isNone_none])
        exact fin p3 c3 H3 (St.less (St.flip (St.less (St.flip h4))))
    clear hR8
    by_cases hc : (j : Int) < (n : Int)
    · refine bif_pos hc ?_
      refine idx1 (d := (0 : Int)) (h.row_rd (i := 0) rfl) (by omega) (by omega) fun b o _ hcl => ?_
      rw [Int.toNat_natCast] at hcl ⊢
      refine ldI_of hcl ?_
      by_cases he : l.getD j 0 = v
      · refine bif_eq he ?_
        rw [if_pos ⟨by omega, he⟩] at hput
        refine hK p n cap H (by rw [hput, hln]) ?_
        rw [hput]
        exact h
      · exact bif_ne he (hQ8 fun h => he h.2)
    · exact bif_neg hc (hQ8 fun h => hc (by omega))
  clear hR5
  refine ⟨fun t H' => ∃ j : Nat, t = j ∧ j ≤ n ∧ (∀ k, k < j → l.getD k 0 < v) ∧ H' = H, fun t _ => ((n : Int) - t).toNat, ⟨0, rfl, by omega, fun k hk => absurd hk (Nat.not_lt_zero _), rfl⟩, ?_⟩
  rintro t H1 ⟨j, rfl, hj, hlo, rfl⟩
  by_cases hc : (j : Int) < (n : Int)
  · refine bif_pos hc ?_
    refine idx1 (d := (0 : Int)) (h.row_rd (i := 0) rfl) (by omega) (by omega) fun b o _ hcl => ?_
    rw [Int.toNat_natCast] at hcl ⊢
    refine ldI_of hcl ?_
    by_cases hl : l.getD j 0 < v
    · refine bif_pos hl ?_
      rw [wrap_i64 (by omega) (by omega)]
      refine ⟨⟨j + 1, by omega, by omega, fun k hk => ?_, rfl⟩, by (try dsimp only); omega⟩
      by_cases e : k = j
      · subst e; exact hl
      · exact hlo k (by omega)
    · exact bif_neg hl (hQ5 j hj hlo fun _ => by omega)
  · exact bif_neg hc (hQ5 j hj hlo fun h => absurd h (by omega))
end
section
variable {H0 H : Hp} {L : List Prt} {K : Value → Hp → Prop}
theorem refOutC {rp op : Option Addr} {rl rc ol oc : Nat} {s stir state : Int} {ok pinned : Bool} {x : Id} {ts : List RwT} {ls : List (List Id)} {os : List (Id × Int)} (h : St H0 L H) (hrl : rl * 32 ≤ 140737488351232) (hol : ol ≤ 9223372036854775807)
    (hrr : ∀ N H', St H0 (N ++ L) H' → Rd H' 2 rp rl (cel rwC ts)) (hlen : ts.length = ls.length) (hel : ∀ (j : Nat) (r : RwT) (l : List Id), ts[j]? = some r → ls[j]? = some l → r.2.2.1 ≤ 9223372036854775807 ∧ ∀ N H', St H0 (N ++ L) H' → Rd H' 2 r.2.1 r.2.2.1 (cel wId l))
    (hor : ∀ N H', St H0 (N ++ L) H' → Rd H' 3 op ol (cel ouC os))
    (hK : ∀ p n cap H', St H0 (Prt.row 1 p n cap ((outS ok s stir (os.map (·.1)) (insOf ((ts.map (·.1)).zip ls) x) x state pinned).2.map (Value.int .u64)) :: L) H' → K (.tuple #[.int .i64 (outS ok s stir (os.map (·.1)) (insOf ((ts.map (·.1)).zip ls) x) x state pinned).1, .slice p n cap]) H') :
    hcall PR f_ref22_Out ⟨[.agg #[.int .u64 s, .slice rp rl rc, .slice op ol oc, .bool ok], .int .u64 stir, .agg #[.int .i64 x.n, .int .u64 x.s], .int .i64 state, .bool pinned]⟩ H K := by
  apply den_ref22_Out
  unfold B_ref22_Out
  have htl : ts.length = rl := by
    have := (hrr [] H h).1
    rw [cel_len rwC_len] at this
    omega
  have hotl : os.length = ol := by
    have := (hor [] H h).1
    rw [cel_len ouC_len] at this
    omega
  obtain ⟨rs, hrs⟩ : ∃ rs, rs = (ts.map (·.1)).zip ls := ⟨_, rfl⟩
  rw [← hrs] at hK
  have hrsl : rs.length = rl := by rw [hrs, List.length_zip, List.length_map, ← hlen]; omega
  intro b14 hb14
  have g1 := h.alloc (o := .cells #[.int .u64 s, .slice rp rl rc, .slice op ol oc, .bool ok] ty_cycle_Summary) hb14
  intro b16 hb16
  have g2 := g1.alloc (o := .cells #[.int .i64 x.n, .int .u64 x.s] ty_api_ID) hb16
  have g2 : St H0 (Prt.one b16 (.cells #[.int .i64 x.n, .int .u64 x.s] ty_api_ID (0, 0)) :: Prt.one b14 (.cells #[.int .u64 s, .slice rp rl rc, .slice op ol oc, .bool ok] ty_cycle_Summary (0, 0)) :: L) _ := g2
  clear g1
  have nil : ∀ (A B : Prt) (c : Int) H', outS ok s stir (os.map (·.1)) (insOf rs x) x state pinned = (c, []) → St H0 (A :: B :: L) H' → K (.tuple #[.int .i64 c, .slice none 0 0]) H' := fun A B c H' e g => by
    have := hK none 0 0 H'
    rw [e] at this
    exact this (g.less.less.row (H' := _) (Own.nil 1) ((Goes.refl Nothing _).less fun c hc => absurd hc blk_none))
  refine ldB_of (g2.cell (i := 1) rfl rfl) ?_
  cases ok
  · simp only [Bool.not_false, condT]
    exact nil _ _ 1 _ rfl g2
  simp only [Bool.not_true, condF]
  refine ldI_of (g2.cell (i := 1) rfl rfl) ?_
  have e0 : outS true s stir (os.map (·.1)) (insOf rs x) x state pinned = if s ≠ stir then (1, []) else if pinned then (1, []) else if state = 1 then (1, []) else if state ≠ 2 then (0, []) else if (os.map (·.1)).any (fun y => decide (y = x)) = false then (1, []) else if (cpt (rise1 (insOf rs x))).length > 64 then (1, []) else (2, cpt (rise1 (insOf rs x))) := rfl
  rw [← puts_eq] at e0
  by_cases hs : s = stir
  rotate_left
  · exact bif_neq hs (nil _ _ 1 _ (by rw [e0, if_pos hs]) g2)
  refine bif_neqf hs ?_
  rw [if_neg (fun h => h hs)] at e0
  cases pinned
  rotate_left
  · simp only [condT]
    exact nil _ _ 1 _ (by rw [e0, if_pos rfl]) g2
  simp only [condF]
  rw [if_neg (by decide)] at e0
  by_cases h1 : state = 1
  · exact bif_eq h1 (nil _ _ 1 _ (by rw [e0, if_pos h1]) g2)
  refine bif_ne h1 ?_
  rw [if_neg h1] at e0
  by_cases h2 : state = 2
  rotate_left
  · exact bif_neq h2 (nil _ _ 0 _ (by rw [e0, if_pos h2]) g2)
  refine bif_neqf h2 ?_
  rw [if_neg (fun h => h h2)] at e0
  refine ⟨fun kn q H' => ∃ m : Nat, q = m ∧ m ≤ ol ∧ kn = ((os.take m).map (·.1)).any (fun y => decide (y = x)) ∧ St H0 (Prt.one b16 (.cells #[.int .i64 x.n, .int .u64 x.s] ty_api_ID (0, 0)) :: Prt.one b14 (.cells #[.int .u64 s, .slice rp rl rc, .slice op ol oc, .bool true] ty_cycle_Summary (0, 0)) :: L) H', fun _ q _ => ((ol : Int) - q).toNat, ⟨0, rfl, by omega, rfl, g2⟩, ?_⟩
  clear g2 h
  rintro kn q H3 ⟨m, rfl, hm, rfl, g3⟩
  refine ldSl_of (g3.cell (i := 1) rfl rfl) ?_
  by_cases hc : (m : Int) < (ol : Int)
  · refine bif_pos hc ?_
    have hml : m < os.length := by omega
    have hme := List.getElem?_eq_getElem hml
    intro R28 hR28
    have htk : ((os.take (m + 1)).map (·.1)).any (fun y => decide (y = x)) = (((os.take m).map (·.1)).any (fun y => decide (y = x)) || decide (os[m].1 = x)) := by
      rw [List.take_succ_eq_append_getElem hml, List.map_append, List.any_append]
      simp
    have hQ28 : R28 (((os.take (m + 1)).map (·.1)).any (fun y => decide (y = x))) H3 := by
      refine hR28 _ H3 ?_
      rw [wrap_i64 (by omega) (by omega)]
      exact ⟨⟨m + 1, by omega, by omega, rfl, g3⟩, by (try dsimp only); omega⟩
    clear hR28
    rw [htk] at hQ28
    cases hkn : ((os.take m).map (·.1)).any (fun y => decide (y = x))
    · rw [hkn, Bool.false_or] at hQ28
      simp only [condF]
      have hgd : os.getD (m : Int).toNat (noId, 0) = os[m] := by rw [Int.toNat_natCast, List.getD_eq_getElem?_getD, hme]; rfl
      refine ldSl_of (g3.cell (i := 1) rfl rfl) (idxS ouC_len (noId, 0) (hor [_, _] H3 g3) (by omega) (by omega) hc fun b' o' _ _ hcc => ?_)
      rw [hgd] at hcc
      (try simp only [asI_mk', asB_mk, asP_mk, asA_mk, asM_mk, asSl_mk, asStr_mk, tup2_mk, tup3_mk, agg1_mk, agg2_mk, agg3_mk, agg4_mk, asAggm, unCons_mk, unNil_mk, asTup_mk, extractD0, extractD1, List.toList_toArray, nilP_mk, add_mk, Nat.zero_add, Nat.add_zero, condT, condF, Bool.not_true, Bool.not_false, Option.isNone_some, Option.isNone_none])
      refine ldI_of (hcc 0 (by omega)) (ldI_of (hcc 1 (by omega)) (ldI_of (g3.cell (i := 0) rfl rfl) (ldI_of (g3.cell (i := 0) rfl rfl) (idEq ?_))))
      (try simp only [asI_mk', asB_mk, asP_mk, asA_mk, asM_mk, asSl_mk, asStr_mk, tup2_mk, tup3_mk, agg1_mk, agg2_mk, agg3_mk, agg4_mk, asAggm, unCons_mk, unNil_mk, asTup_mk, extractD0, extractD1, List.toList_toArray, nilP_mk, add_mk, Nat.zero_add, Nat.add_zero, condT, condF, Bool.not_true, Bool.not_false, Option.isNone_some, Option.isNone_none])
      exact hQ28
    · rw [hkn, Bool.true_or] at hQ28
      simp only [condT]
      exact hQ28
  refine bif_neg hc ?_
  obtain rfl : m = ol := by omega
  rw [List.take_of_length_le (by omega)]
  obtain ⟨kn, hkn⟩ : ∃ kn, kn = (os.map (·.1)).any (fun y => decide (y = x)) := ⟨_, rfl⟩
  rw [← hkn] at e0 ⊢
  clear hc hm
  refine ⟨fun p n cap q H' => ∃ j : Nat, q = j ∧ j ≤ rl ∧ n = ((insOf (rs.take j) x).foldl putL []).length ∧ St H0 (Prt.row 1 p n cap (((insOf (rs.take j) x).foldl putL []).map (Value.int .u64)) :: Prt.one b16 (.cells #[.int .i64 x.n, .int .u64 x.s] ty_api_ID (0, 0)) :: Prt.one b14 (.cells #[.int .u64 s, .slice rp rl rc, .slice op m oc, .bool true] ty_cycle_Summary (0, 0)) :: L) H', fun _ _ _ q _ => ((rl : Int) - q).toNat, ⟨0, rfl, by omega, rfl, g3.row (H' := _) (Own.nil 1) ((Goes.refl Nothing _).less fun c hc => absurd hc blk_none)⟩, ?_⟩
  clear g3
  rintro p n cap q H4 ⟨j, rfl, hj, hn, g4⟩
  refine ldSl_of (g4.cell (i := 2) rfl rfl) ?_
  have hnj : n ≤ j := by
    rw [hn]
    refine Nat.le_trans puts_len (Nat.le_trans insOf_len ?_)
    rw [List.length_take]
    omega
  by_cases hc : (j : Int) < (rl : Int)
  rotate_left
  · refine bif_neg hc ?_
    obtain rfl : j = rl := by omega
    rw [List.take_of_length_le (by omega)] at g4 hn
    cases kn
    · simp only [Bool.not_false, condT]
      rw [if_pos rfl] at e0
      exact nil _ _ 1 H4 e0 g4.less
    simp only [Bool.not_true, condF]
    rw [if_neg (by decide)] at e0
    by_cases h64 : (n : Int) > 64
    · rw [if_pos (by omega)] at e0
      exact bif_pos h64 (nil _ _ 1 H4 e0 g4.less)
    · rw [if_neg (by omega)] at e0
      refine bif_neg h64 ?_
      have := hK p n cap H4
      rw [e0] at this
      exact this (St.keep1 (N := [_, _]) g4)
  refine bif_pos hc ?_
  have hml : j < ts.length := by omega
  have hme := List.getElem?_eq_getElem hml
  have hll : j < ls.length := by rw [← hlen]; exact hml
  have hmr : j < rs.length := by omega
  obtain ⟨hsz, hrd⟩ := hel j ts[j] ls[j] hme (List.getElem?_eq_getElem hll)
  have hrm : rs[j] = (ts[j].1, ls[j]) := by
    have : rs[j]? = some (ts[j].1, ls[j]) := by
      rw [hrs, List.getElem?_zip_eq_some]
      exact ⟨by rw [List.getElem?_map, hme]; rfl, List.getElem?_eq_getElem hll⟩
    rw [List.getElem?_eq_getElem hmr] at this
    exact Option.some.inj this
  have htk := insOf_take (x := x) hmr
  rw [hrm] at htk
  have hlj : ts[j].2.2.1 = ls[j].length := by
    have := (hrd [_, _, _] H4 g4).1
    rw [cel_len wId_len] at this
    omega
  have hgd : ts.getD (j : Int).toNat (0, (none, 0, 0)) = ts[j] := by rw [Int.toNat_natCast, List.getD_eq_getElem?_getD, hme]; rfl
  obtain ⟨acc, hacc⟩ : ∃ acc, acc = (insOf (rs.take j) x).foldl putL [] := ⟨_, rfl⟩
  have hrise : acc.Pairwise (· < ·) := by rw [hacc]; exact puts_rise
  rw [← hacc] at g4 hn
  refine ⟨fun p n cap q H' => ∃ (k : Nat) (out : List Int), q = k ∧ k ≤ ts[j].2.2.1 ∧ out = (if (ls[j].take k).any (fun y => decide (y = x)) then putL acc ts[j].1 else acc) ∧ n = out.length ∧ St H0 (Prt.row 1 p n cap (out.map (Value.int .u64)) :: Prt.one b16 (.cells #[.int .i64 x.n, .int .u64 x.s] ty_api_ID (0, 0)) :: Prt.one b14 (.cells #[.int .u64 s, .slice rp rl rc, .slice op m oc, .bool true] ty_cycle_Summary (0, 0)) :: L) H', fun _ _ _ q _ => ((ts[j].2.2.1 : Int) - q).toNat, ⟨0, acc, rfl, by omega, rfl, hn, g4⟩, ?_⟩
  have hnacc : acc.length ≤ j := by omega
  clear g4
  rintro p2 n2 cap2 q H5 ⟨k, out, rfl, hk, hout, hn2, g5⟩
  have hn2b : n2 ≤ j + 1 := by
    rw [hn2, hout]
    split
    · exact Nat.le_trans putL_len (by omega)
    · omega
  refine ldSl_of (g5.cell (i := 2) rfl rfl) (idxS rwC_len (0, (none, 0, 0)) (hrr [_, _, _] H5 g5) (by omega) (by omega) hc fun b' o' _ _ hcc => ?_)
  rw [hgd] at hcc
  (try simp only [asI_mk', asB_mk, asP_mk, asA_mk, asM_mk, asSl_mk, asStr_mk, tup2_mk, tup3_mk, agg1_mk, agg2_mk, agg3_mk, agg4_mk, asAggm, unCons_mk, unNil_mk, asTup_mk, extractD0, extractD1, List.toList_toArray, nilP_mk, add_mk, Nat.zero_add, Nat.add_zero, condT, condF, Bool.not_true, Bool.not_false, Option.isNone_some, Option.isNone_none])
  refine ldSl_of (hcc 1 (by omega)) ?_
  clear hcc
  by_cases hkc : (k : Int) < (ts[j].2.2.1 : Int)
  rotate_left
  · refine bif_neg hkc ?_
    obtain rfl : k = ts[j].2.2.1 := by omega
    rw [List.take_of_length_le (by omega)] at hout
    have hfin : out = (insOf (rs.take (j + 1)) x).foldl putL [] := by
      rw [htk, List.foldl_append, ← hacc, hout]
      split <;> rfl
    rw [wrap_i64 (by omega) (by omega)]
    refine ⟨⟨j + 1, by omega, by omega, by rw [hn2, hfin], ?_⟩, by (try dsimp only); omega⟩
    rw [← hfin]
    exact g5
  refine bif_pos hkc ?_
  have hkl : k < ls[j].length := by omega
  have hke := List.getElem?_eq_getElem hkl
  have htk2 : (ls[j].take (k + 1)).any (fun y => decide (y = x)) = ((ls[j].take k).any (fun y => decide (y = x)) || decide (ls[j][k] = x)) := by
    rw [List.take_succ_eq_append_getElem hkl, List.any_append]
    simp
  intro R65 hR65
  have hQ65 : ∀ p' n' cap' H' (out' : List Int), out' = (if (ls[j].take (k + 1)).any (fun y => decide (y = x)) then putL acc ts[j].1 else acc) → n' = out'.length → St H0 (Prt.row 1 p' n' cap' (out'.map (Value.int .u64)) :: Prt.one b16 (.cells #[.int .i64 x.n, .int .u64 x.s] ty_api_ID (0, 0)) :: Prt.one b14 (.cells #[.int .u64 s, .slice rp rl rc, .slice op m oc, .bool true] ty_cycle_Summary (0, 0)) :: L) H' → R65 p' n' cap' H' := fun p' n' cap' H' out' e1 e2 g => by
    refine hR65 p' n' cap' H' ?_
    rw [wrap_i64 (by omega) (by omega)]
    exact ⟨⟨k + 1, out', by omega, by omega, e1, e2, g⟩, by (try dsimp only); omega⟩
  clear hR65
  refine ldSl_of (g5.cell (i := 2) rfl rfl) (idxS rwC_len (0, (none, 0, 0)) (hrr [_, _, _] H5 g5) (by omega) (by omega) hc fun b2 o2 _ _ hcc => ?_)
  rw [hgd] at hcc
  (try simp only [asI_mk', asB_mk, asP_mk, asA_mk, asM_mk, asSl_mk, asStr_mk, tup2_mk, tup3_mk, agg1_mk, agg2_mk, agg3_mk, agg4_mk, asAggm, unCons_mk, unNil_mk, asTup_mk, extractD0, extractD1, List.toList_toArray, nilP_mk, add_mk, Nat.zero_add, Nat.add_zero, condT, condF, Bool.not_true, Bool.not_false, Option.isNone_some, Option.isNone_none])
  refine ldSl_of (hcc 1 (by omega)) ?_
  have hgk : ls[j].getD (k : Int).toNat noId = ls[j][k] := by rw [Int.toNat_natCast, List.getD_eq_getElem?_getD, hke]; rfl
  refine idxS wId_len noId (hrd [_, _, _] H5 g5) (by omega) (by omega) hkc fun b3 o3 _ _ hc3 => ?_
  rw [hgk] at hc3
  (try simp only [asI_mk', asB_mk, asP_mk, asA_mk, asM_mk, asSl_mk, asStr_mk, tup2_mk, tup3_mk, agg1_mk, agg2_mk, agg3_mk, agg4_mk, asAggm, unCons_mk, unNil_mk, asTup_mk, extractD0, extractD1, List.toList_toArray, nilP_mk, add_mk, Nat.zero_add, Nat.add_zero, condT, condF, Bool.not_true, Bool.not_false, Option.isNone_some, Option.isNone_none])
  refine ldI_of (hc3 0 (by omega)) (ldI_of (hc3 1 (by omega)) (ldI_of (g5.cell (i := 1) rfl rfl) (ldI_of (g5.cell (i := 1) rfl rfl) (idEq ?_))))
  (try simp only [asI_mk', asB_mk, asP_mk, asA_mk, asM_mk, asSl_mk, asStr_mk, tup2_mk, tup3_mk, agg1_mk, agg2_mk, agg3_mk, agg4_mk, asAggm, unCons_mk, unNil_mk, asTup_mk, extractD0, extractD1, List.toList_toArray, nilP_mk, add_mk, Nat.zero_add, Nat.add_zero, condT, condF, Bool.not_true, Bool.not_false, Option.isNone_some, Option.isNone_none])
  by_cases hx : ls[j][k] = x
  · rw [decide_eq_true (show (⟨ls[j][k].n, ls[j][k].s⟩ : Id) = ⟨x.n, x.s⟩ from hx)]
    simp only [condT]
    refine ldSl_of (g5.cell (i := 2) rfl rfl) (idxS rwC_len (0, (none, 0, 0)) (hrr [_, _, _] H5 g5) (by omega) (by omega) hc fun b4 o4 _ _ hc4 => ?_)
    rw [hgd] at hc4
    (try simp only [asI_mk', asB_mk, asP_mk, asA_mk, asM_mk, asSl_mk, asStr_mk, tup2_mk, tup3_mk, agg1_mk, agg2_mk, agg3_mk, agg4_mk, asAggm, unCons_mk, unNil_mk, asTup_mk, extractD0, extractD1, List.toList_toArray, nilP_mk, add_mk, Nat.zero_add, Nat.add_zero, condT, condF, Bool.not_true, Bool.not_false, Option.isNone_some, Option.isNone_none])
    refine ldI_of (hc4 0 (by omega)) ?_
    refine putC g5 (by omega) fun p' n' cap' H' hn' g' => ?_
    (try simp only [asI_mk', asB_mk, asP_mk, asA_mk, asM_mk, asSl_mk, asStr_mk, tup2_mk, tup3_mk, agg1_mk, agg2_mk, agg3_mk, agg4_mk, asAggm, unCons_mk, unNil_mk, asTup_mk, extractD0, extractD1, List.toList_toArray, nilP_mk, add_mk, Nat.zero_add, Nat.add_zero, condT, condF, Bool.not_true, Bool.not_false, Option.isNone_some, Option.isNone_none])
    refine hQ65 p' n' cap' H' _ ?_ hn' g'
    rw [htk2, decide_eq_true hx, Bool.or_true, if_pos rfl, hout]
    split
    · exact putL_twice hrise
    · rfl
  · rw [decide_eq_false (show ¬ (⟨ls[j][k].n, ls[j][k].s⟩ : Id) = ⟨x.n, x.s⟩ from hx)]
    simp only [condF]
    refine hQ65 p2 n2 cap2 H5 out ?_ hn2 g5
    rw [htk2, decide_eq_false hx, Bool.or_false]
    exact hout
end
end Go.Proofs.Ytknejebggegfjaa
