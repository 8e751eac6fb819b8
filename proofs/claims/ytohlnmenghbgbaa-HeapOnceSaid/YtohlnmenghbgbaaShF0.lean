/- Laws for running a shallow reading: cells, rows, frames, append, make. No condition. -/
import Derived.Test.YtohlnmenghbgbaaShE2
namespace Go.Proofs.Ytohlnmenghbgbaa
set_option linter.unusedSimpArgs false
set_option linter.unusedVariables false
open Go

variable {P : Program} {H H' H1 H2 : Hp}

/-! ## Cells -/

theorem hcell_blk {b o : Nat} {c : Array Value} {e : TypeId} {f : Nat × Nat} {v : Value} (hb : H b = some (.cells c e f)) (h : c[o]? = some v) : hcell H ⟨b, o, none⟩ = some v := by
  simp [hcell, hb, h]
theorem ld_of {a : Addr} {v : Value} {K : Value → Prop} (h : hcell H a = some v) (k : K v) : ld a H K := by
  unfold ld; rw [h]; exact k
theorem ldI_of {kd : IntKind} {a : Addr} {n : Int} {K : Int → Prop} (h : hcell H a = some (.int kd n)) (k : K n) : ldI kd a H K := ld_of h (asI_mk k)
theorem ldB_of {a : Addr} {n : Bool} {K : Bool → Prop} (h : hcell H a = some (.bool n)) (k : K n) : ldB a H K := ld_of h k
theorem ldStr_of {a : Addr} {n : ByteArray} {K : ByteArray → Prop} (h : hcell H a = some (.string n)) (k : K n) : ldStr a H K := ld_of h k
theorem ldP_of {a : Addr} {n : Option Addr} {K : Option Addr → Prop} (h : hcell H a = some (.pointer n)) (k : K n) : ldP a H K := ld_of h k
theorem ldM_of {a : Addr} {n : Option Nat} {K : Option Nat → Prop} (h : hcell H a = some (.map n)) (k : K n) : ldM a H K := ld_of h k
theorem ldSl_of {a : Addr} {p : Option Addr} {l c : Nat} {K : Option Addr → Nat → Nat → Prop} (h : hcell H a = some (.slice p l c)) (k : K p l c) : ldSl a H K := ld_of h k

theorem upd_same {b : Nat} {o : Obj} : upd H b o b = some o := by simp [upd]
theorem upd_other {b c : Nat} {o : Obj} (h : c ≠ b) : upd H b o c = H c := by simp [upd, h]

theorem st_of {b o : Nat} {c : Array Value} {e : TypeId} {v : Value} {K : Hp → Prop} (hb : H b = some (.cells c e (0, 0))) (ho : o < c.size) (k : K (upd H b (.cells (c.setIfInBounds o v) e (0, 0)))) :
    st ⟨b, o, none⟩ v H K := by
  unfold st
  simp only [hb]
  exact ⟨trivial, ho, by simp [frz], k⟩

theorem add_eq {a : Addr} (h : a.spot = none) (n : Nat) : a.add n = ⟨a.block, a.off + n, none⟩ := by
  unfold Addr.add
  split
  · rename_i e
    subst e
    obtain ⟨b, o, s⟩ := a
    simp at h
    simp [h]
  · rfl
@[simp] theorem add_mk (b o n : Nat) : (⟨b, o, none⟩ : Addr).add n = ⟨b, o + n, none⟩ := add_eq rfl n

/-! ## Frames -/

/-- Of what was there nothing has turned but for what F names; nothing has gone. -/
structure Keep (F : Nat → Prop) (H H' : Hp) : Prop where
  dom : ∀ b, H b ≠ none → H' b ≠ none
  same : ∀ b, H b ≠ none → ¬ F b → H' b = H b

theorem Keep.refl (F : Nat → Prop) (H : Hp) : Keep F H H := ⟨fun _ h => h, fun _ _ _ => rfl⟩
theorem Keep.trans {F G : Nat → Prop} (h : Keep F H H1) (k : Keep G H1 H2) (hs : ∀ b, G b → F b ∨ H b = none) : Keep F H H2 :=
  ⟨fun b hb => k.dom b (h.dom b hb), fun b hb hf => by
    rw [k.same b (h.dom b hb) (fun hg => (hs b hg).elim hf hb), h.same b hb hf]⟩
theorem Keep.mono {F G : Nat → Prop} (h : Keep F H H') (hs : ∀ b, F b → G b ∨ H b = none) : Keep G H H' :=
  ⟨h.dom, fun b hb hg => h.same b hb fun hf => (hs b hf).elim hg hb⟩
theorem Keep.upd {b : Nat} {o : Obj} : Keep (fun c => c = b) H (upd H b o) :=
  ⟨fun c hc => by by_cases e : c = b <;> simp [Go.Proofs.Ytohlnmenghbgbaa.upd, e, hc], fun c _ hf => upd_other hf⟩
theorem Keep.new {b : Nat} {o : Obj} (hb : H b = none) (F : Nat → Prop) : Keep F H (Go.Proofs.Ytohlnmenghbgbaa.upd H b o) :=
  Keep.upd.mono fun c e => .inr (by rw [e]; exact hb)

/-! ## Rows -/

/-- Cells that can be read: a slice's, n elements of k cells. -/
def Rd (H : Hp) (k : Nat) (p : Option Addr) (n : Nat) (xs : List Value) : Prop :=
  xs.length = n * k ∧ match p with
  | none => n = 0
  | some a => (n ≠ 0 → a.spot = none) ∧ ∀ i, i < n * k → hcell H ⟨a.block, a.off + i, none⟩ = xs[i]?

/-- A row of the call's own: it may be written, up to its capacity. -/
def Own (H : Hp) (k : Nat) (p : Option Addr) (n cap : Nat) (xs : List Value) : Prop :=
  xs.length = n * k ∧ n ≤ cap ∧ match p with
  | none => cap = 0
  | some a => a.spot = none ∧ ∃ c e, H a.block = some (.cells c e (0, 0)) ∧ a.off + cap * k ≤ c.size ∧ ∀ i, i < n * k → c[a.off + i]? = xs[i]?

/-- The block that a pointer leads into. -/
def blk (p : Option Addr) (b : Nat) : Prop := ∃ a, p = some a ∧ a.block = b
theorem blk_none {b : Nat} : ¬ blk none b := fun ⟨_, h, _⟩ => by cases h
theorem blk_some {a : Addr} {b : Nat} : blk (some a) b ↔ a.block = b := ⟨fun ⟨_, h, e⟩ => by cases h; exact e, fun h => ⟨a, rfl, h⟩⟩

theorem Own.rd {k : Nat} {p : Option Addr} {n cap : Nat} {xs : List Value} (h : Own H k p n cap xs) : Rd H k p n xs := by
  obtain ⟨h1, h2, h3⟩ := h
  refine ⟨h1, ?_⟩
  cases p with
  | none => simp only at h3 ⊢; omega
  | some a =>
    obtain ⟨hs, c, e, hb, _, hc⟩ := h3
    refine ⟨fun _ => hs, fun i hi => ?_⟩
    have hi' : i < xs.length := by omega
    rw [hcell_blk hb (v := xs[i]) (by rw [hc i hi]; simp [hi'])]
    simp [hi']
theorem Own.dom {k : Nat} {p : Option Addr} {n cap : Nat} {xs : List Value} (h : Own H k p n cap xs) {b : Nat} (hb : blk p b) : H b ≠ none := by
  obtain ⟨a, rfl, rfl⟩ := hb
  obtain ⟨_, _, _, c, e, hb, _⟩ := h
  rw [hb]; simp
theorem Own.frame {k : Nat} {p : Option Addr} {n cap : Nat} {xs : List Value} (h : Own H k p n cap xs) (hf : ∀ b, blk p b → H' b = H b) : Own H' k p n cap xs := by
  obtain ⟨h1, h2, h3⟩ := h
  refine ⟨h1, h2, ?_⟩
  cases p with
  | none => exact h3
  | some a =>
    obtain ⟨hs, c, e, hb, hr⟩ := h3
    exact ⟨hs, c, e, by rw [hf _ (blk_some.2 rfl)]; exact hb, hr⟩
theorem Own.keep {k : Nat} {p : Option Addr} {n cap : Nat} {xs : List Value} {F : Nat → Prop} (h : Own H k p n cap xs) (hk : Keep F H H') (hd : ∀ b, blk p b → ¬ F b) : Own H' k p n cap xs :=
  h.frame fun b hb => hk.same b (h.dom hb) (hd b hb)
theorem Rd.frame {k : Nat} {p : Option Addr} {n : Nat} {xs : List Value} (h : Rd H k p n xs) (hf : ∀ b, blk p b → H' b = H b) : Rd H' k p n xs := by
  obtain ⟨h1, h3⟩ := h
  refine ⟨h1, ?_⟩
  cases p with
  | none => exact h3
  | some a =>
    obtain ⟨hs, hr⟩ := h3
    exact ⟨hs, fun i hi => by rw [← hr i hi]; simp only [hcell]; rw [hf _ (blk_some.2 rfl)]⟩

theorem Rd.keep {k : Nat} {p : Option Addr} {n : Nat} {xs : List Value} {F : Nat → Prop} (h : Rd H k p n xs) (hk : Keep F H H') (hd : ∀ b, blk p b → ¬ F b) : Rd H' k p n xs := by
  obtain ⟨h1, h3⟩ := h
  refine ⟨h1, ?_⟩
  cases p with
  | none => exact h3
  | some a =>
    obtain ⟨hs, hr⟩ := h3
    refine ⟨hs, fun i hi => ?_⟩
    have h4 := hr i hi
    have h5 : H a.block ≠ none := by
      intro e
      have hi' : i < xs.length := by omega
      simp [hcell, e, hi'] at h4
    rw [← h4]
    simp only [hcell]
    rw [hk.same _ h5 (hd _ (blk_some.2 rfl))]

theorem Own.nil (k : Nat) : Own H k none 0 0 [] := ⟨by simp, Nat.le_refl _, rfl⟩

/-- Reading an element. -/
theorem idxA_of {k : Nat} {p : Option Addr} {n : Nat} {xs : List Value} {i : Int} {K : Addr → Prop} (h : Rd H k p n xs) (h0 : 0 ≤ i) (hi : i < (n : Int))
    (hk : ∀ b o, p = some ⟨b, o, none⟩ → (∀ j, j < k → hcell H ⟨b, o + i.toNat * k + j, none⟩ = xs[i.toNat * k + j]?) → K ⟨b, o + i.toNat * k, none⟩) : idxA p n i k K := by
  obtain ⟨h1, h3⟩ := h
  cases p with
  | none => simp only at h3; omega
  | some a =>
    obtain ⟨b, o, s⟩ := a
    obtain ⟨hs, hr⟩ := h3
    simp only at hs hr
    have hs := hs (by omega)
    subst hs
    refine ⟨⟨h0, hi⟩, ?_⟩
    rw [add_mk]
    refine hk b o rfl fun j hj => ?_
    have hlt : i.toNat * k + j < n * k := by
      have h5 : i.toNat + 1 ≤ n := by omega
      have h6 := Nat.mul_le_mul_right k h5
      rw [Nat.add_mul, Nat.one_mul] at h6
      omega
    rw [← hr _ hlt, Nat.add_assoc]

/-- Writing one cell of a row of one's own. -/
theorem Own.st {p : Option Addr} {n cap : Nat} {xs : List Value} {k : Nat} {b o i : Nat} {v : Value} {K : Hp → Prop} (h : Own H k p n cap xs) (hp : p = some ⟨b, o, none⟩) (hi : i < n * k)
    (hK : ∀ H', Own H' k p n cap (xs.set i v) → Keep (blk p) H H' → K H') : st ⟨b, o + i, none⟩ v H K := by
  subst hp
  obtain ⟨h1, h2, _, c, e, hb, hsz, hc⟩ := h
  simp only at hb hsz hc
  have hle : n * k ≤ cap * k := Nat.mul_le_mul_right k h2
  refine st_of hb (by omega) (hK _ ⟨by simp [h1], h2, rfl, c.setIfInBounds (o + i) v, e, upd_same, by simp; omega, fun j hj => ?_⟩ ?_)
  · simp only
    by_cases e' : j = i
    · subst e'
      rw [Array.getElem?_setIfInBounds_self_of_lt (by omega), List.getElem?_set_self (by omega)]
    · rw [Array.getElem?_setIfInBounds_ne (by omega), List.getElem?_set_ne (fun h => e' h.symm)]
      exact hc j hj
  · exact Keep.upd.mono fun c hc => .inl (blk_some.2 hc.symm)

/-! ## Append, make -/

theorem run_loadCellsFrom {a : Addr} {ys : List Value} {w : World} : ∀ {i : Nat} {acc : Array Value}, (∀ j, j < ys.length → hcell (hp w) (a.add (i + j)) = ys[j]?) →
    (loadCellsFrom a i ys.length acc).run P w = .ok (acc ++ ys.toArray) w := by
  induction ys with
  | nil => intro i acc _; simp [loadCellsFrom]
  | cons y ys ih =>
    intro i acc h
    have h0 := h 0 (by simp)
    simp only [Nat.add_zero, List.getElem?_cons_zero] at h0
    simp only [List.length_cons, loadCellsFrom, Sem.run_bind, run_load_some h0, Result.andThen_ok]
    rw [ih (fun j hj => by
      have := h (j + 1) (by simp; omega)
      rw [List.getElem?_cons_succ] at this
      rw [← this]
      congr 2
      omega)]
    simp

theorem run_firstCells {k m : Nat} {q : Option Addr} {ys : List Value} {w : World} (h : Rd (hp w) k q m ys) (c : Nat) : (Builtin.firstCells k m (.slice q m c)).run P w = .ok ys.toArray w := by
  obtain ⟨h1, h2⟩ := h
  cases q with
  | none =>
    simp only at h2
    subst h2
    have : ys = [] := by simpa using h1
    subst this
    rfl
  | some a =>
    obtain ⟨hs, hr⟩ := h2
    simp only [Builtin.firstCells, loadCells]
    rw [← h1, run_loadCellsFrom (fun j hj => ?_)]
    · simp
    · rw [Nat.zero_add, add_eq (hs (by rintro rfl; rw [Nat.zero_mul] at h1; omega))]
      exact hr j (by omega)

theorem hset_run {a : Addr} (hs : a.spot = none) : ∀ {vs : List Value} {i : Nat} {w : World} {c : Array Value} {e : TypeId}, hp w a.block = some (.cells c e (0, 0)) → a.off + i + vs.length ≤ c.size →
    (∀ v ∈ vs, one v = true) → ∃ w' c', (storeCells a vs i).run P w = .ok () w' ∧ Rest w w' ∧ hp w' = upd (hp w) a.block (.cells c' e (0, 0)) ∧ c'.size = c.size ∧
      (∀ j, j < vs.length → c'[a.off + i + j]? = vs[j]?) ∧ (∀ j, (j < a.off + i ∨ a.off + i + vs.length ≤ j) → c'[j]? = c[j]?) := by
  intro vs
  induction vs with
  | nil =>
    intro i w c e hb _ _
    refine ⟨w, c, rfl, .refl w, ?_, rfl, fun j hj => by simp at hj, fun _ _ => rfl⟩
    funext b
    by_cases hbb : b = a.block
    · subst hbb; rw [upd_same, hb]
    · rw [upd_other hbb]
  | cons v vs ih =>
    intro i w c e hb hsz hone
    rw [List.length_cons] at hsz
    have h1 := hone v (by simp)
    obtain ⟨w1, r1, s1, e1⟩ := st_run (P := P) (w := w) (a := a.add i) (v := v) (K := fun H => H = upd (hp w) a.block (.cells (c.setIfInBounds (a.off + i) v) e (0, 0))) h1 (by
      rw [add_eq hs]
      exact st_of (H := hp w) hb (by omega) rfl)
    have hb1 : hp w1 a.block = some (.cells (c.setIfInBounds (a.off + i) v) e (0, 0)) := by rw [e1, upd_same]
    obtain ⟨w2, c2, r2, s2, e2, z2, h2, h3⟩ := ih (i := i + 1) hb1 (by simp; omega) (fun u hu => hone u (by simp [hu]))
    refine ⟨w2, c2, ?_, s1.trans s2, ?_, by rw [z2]; simp, fun j hj => ?_, fun j hj => ?_⟩
    · simp only [storeCells, Sem.run_bind, r1, Result.andThen_ok, r2]
    · rw [e2, e1]
      funext b
      by_cases hbb : b = a.block
      · subst hbb; rw [upd_same, upd_same]
      · rw [upd_other hbb, upd_other hbb, upd_other hbb]
    · cases j with
      | zero =>
        rw [h3 (a.off + i + 0) (.inl (by omega)), Nat.add_zero, Array.getElem?_setIfInBounds_self_of_lt (by omega)]
        rfl
      | succ j =>
        have := h2 j (by simpa using hj)
        rw [List.getElem?_cons_succ, ← this]
        congr 1
        omega
    · rw [List.length_cons] at hj
      rw [h3 j (by omega), Array.getElem?_setIfInBounds_ne (by omega)]

theorem growBy_le (need : Nat) : ∀ (r c : Nat), c ≤ need → Builtin.growBy need r c ≤ need + (need + 768) / 4 := by
  intro r
  induction r with
  | zero => intro c h; simp [Builtin.growBy]; omega
  | succ r ih =>
    intro c h
    unfold Builtin.growBy
    split
    · omega
    · by_cases h2 : c + (c + 768) / 4 ≤ need
      · exact ih _ h2
      · cases r with
        | zero => simp [Builtin.growBy]; omega
        | succ r =>
          unfold Builtin.growBy
          rw [if_pos (by omega)]
          omega

theorem nextslicecap_le {need cap : Nat} (h : cap < need) : Builtin.nextslicecap need cap ≤ 2 * need + 512 := by
  unfold Builtin.nextslicecap
  split
  · omega
  · split
    · omega
    · have := growBy_le need 4 cap (by omega)
      omega

/-- append to a row of one's own, of what can be read. -/
theorem append_own {sl xt ty e : TypeId} {inf : TypeInfo} {z : Value} {p q : Option Addr} {n cap m qc : Nat} {xs ys : List Value} {K : Value → Hp → Prop}
    (hsl : P.underlying sl = some (.slice e)) (hxt : ∃ e', P.underlying xt = some (.slice e')) (hi : P.info? e = some inf) (hz : inf.zero = some z) (hzs : z.cells.size = inf.size)
    (h : Own H inf.size p n cap xs) (hq : Rd H inf.size q m ys) (hone : ∀ y ∈ ys, one y = true) (hroom : (2 * (n + m) + 512) * inf.bytes ≤ 2 ^ 48) (hbytes : inf.bytes ≠ 0)
    (hK : ∀ p' cap' H', Own H' inf.size p' (n + m) cap' (xs ++ ys) → Keep (blk p) H H' → (∀ b, blk p' b → blk p b ∨ H b = none) → K (.slice p' (n + m) cap') H') :
    evW P (Builtin.append_ #[sl, xt] ty #[.slice p n cap, .slice q m qc]) H K := by
  intro w hw
  subst hw
  obtain ⟨e', hxt⟩ := hxt
  obtain ⟨h1, h2, h3⟩ := h
  have hnew := run_firstCells (P := P) hq qc
  have hyl : ys.length = m * inf.size := hq.1
  by_cases hc : n + m ≤ cap
  · -- there is room
    have hrun : (Builtin.append_ #[sl, xt] ty #[.slice p n cap, .slice q m qc]).run P w =
        ((do if let some a := p then storeCells (a.add (n * inf.size)) ys
             pure (.slice p (n + m) cap)) : Sem Value).run P w := by
      simp [Builtin.append_, run_underlying hsl, run_underlying hxt, run_sizeOf hi, Builtin.lenOf, hc, hnew]
      cases p <;> rfl
    rw [hrun]
    cases p with
    | none =>
      simp only at h3
      have hn : n = 0 := by omega
      have hm : m = 0 := by omega
      subst hn hm h3
      have : ys = [] := by simpa using hyl
      subst this
      have : xs = [] := by simpa using h1
      subst this
      exact ⟨_, w, rfl, .refl w, hK none 0 (hp w) ⟨by simp, Nat.le_refl _, rfl⟩ (Keep.refl _ _) (fun b hb => absurd hb blk_none)⟩
    | some a =>
      obtain ⟨b, o, s⟩ := a
      obtain ⟨hs, c, e1, hb, hsz, hcell⟩ := h3
      simp only at hs hb hsz hcell
      subst hs
      have hle : (n + m) * inf.size ≤ cap * inf.size := Nat.mul_le_mul_right _ hc
      rw [Nat.add_mul] at hle
      obtain ⟨w', c', hr, hs', he, hz', hin, hout⟩ := hset_run (P := P) (a := ⟨b, o + n * inf.size, none⟩) rfl (vs := ys) (i := 0) (w := w) hb (by simp only; omega) hone
      refine ⟨.slice (some ⟨b, o, none⟩) (n + m) cap, w', ?_, hs', hK _ _ _ ⟨by rw [List.length_append, h1, hyl, Nat.add_mul], hc, rfl, c', e1, by rw [he, upd_same], by simp only; omega, fun i hi => ?_⟩ ?_ (fun b hb => .inl hb)⟩
      · simp only [add_mk, Sem.run_bind, hr, Result.andThen_ok, Sem.run_pure]
      · simp only
        rw [Nat.add_mul] at hi
        by_cases hlt : i < n * inf.size
        · rw [hout (o + i) (.inl (by simp only; omega)), hcell i hlt, List.getElem?_append_left (by omega)]
        · rw [List.getElem?_append_right (by omega), h1]
          have := hin (i - n * inf.size) (by omega)
          simp only at this
          rw [← this]
          congr 1
          omega
      · rw [he]
        exact Keep.upd.mono fun x hx => .inl (blk_some.2 hx.symm)
  · -- it grows
    have hcap : cap < n + m := by omega
    have hnc := nextslicecap_le hcap
    have hb48 : Builtin.nextslicecap (n + m) cap * inf.bytes ≤ 2 ^ 48 := Nat.le_trans (Nat.mul_le_mul_right _ hnc) hroom
    have hold : ∀ w', hp w' = hp w → (Builtin.firstCells inf.size n (.slice p n cap)).run P w' = .ok xs.toArray w' := fun w' e => run_firstCells (P := P) (Own.rd ⟨h1, h2, by rw [e]; exact h3⟩) cap
    have hnew' : ∀ w', hp w' = hp w → (Builtin.firstCells inf.size m (.slice q m qc)).run P w' = .ok ys.toArray w' := fun w' e => run_firstCells (P := P) (by rw [e]; exact hq) qc
    let w1 : World := { w with drawn := w.drawn + 1 }
    let nc := (Question.appendCap (n + m) cap e).cut (w.tape w.drawn (.appendCap (n + m) cap e))
    have hnc' : n + m ≤ nc := by simp [nc, Question.cut]
    let cs := xs.toArray ++ ys.toArray ++ Builtin.zeroCells z.cells (nc - (n + m))
    have hrun : (Builtin.append_ #[sl, xt] ty #[.slice p n cap, .slice q m qc]).run P w = .ok (.slice (some ⟨w.heap.size, 0, none⟩) (n + m) nc) { w1 with heap := w1.heap.push (.cells cs e) } := by
      have hint : ¬ (inf.bytes = 0) := hbytes
      have hb48' : ¬ (2 ^ 48 < Builtin.nextslicecap (n + m) cap * inf.bytes) := by omega
      simp only [Builtin.append_, List.getElem?_toArray, List.getElem?_cons_zero, List.getElem?_cons_succ, Sem.run_bind, Sem.run_pure, run_underlying hsl, run_underlying hxt, run_sizeOf hi, Result.andThen_ok, Builtin.lenOf, Bool.false_eq_true, if_false, hc,
        run_typeInfo hi, hint, or_self, and_false, gt_iff_lt, hb48', run_choose, Question.forced, run_askRoom]
      rw [hold w1 rfl]
      simp only [Result.andThen_ok, Bool.not_false, if_true]
      rw [hnew' w1 rfl]
      simp only [Result.andThen_ok, zeroValue, Sem.run_bind, run_typeInfo hi, hz, Sem.run_pure, newRow, run_newObj]
      rfl
    rw [hrun]
    refine ⟨_, _, rfl, ⟨rfl, rfl, rfl, by simp [w1]⟩, ?_⟩
    have hhp : hp { w1 with heap := w1.heap.push (.cells cs e) } = upd (hp w) w.heap.size (.cells cs e) := hp_push w1 _
    have hfresh : hp w w.heap.size = none := by simp [hp]
    rw [hhp]
    have hzl : (Builtin.zeroCells z.cells (nc - (n + m))).size = (nc - (n + m)) * inf.size := by simp [Builtin.zeroCells, hzs]
    have hcs : cs.size = nc * inf.size := by
      simp only [cs, Array.size_append, List.size_toArray, hzl, h1, hyl]
      rw [← Nat.add_mul, ← Nat.add_mul]
      congr 1
      omega
    refine hK _ _ _ ⟨by rw [List.length_append, h1, hyl, Nat.add_mul], hnc', rfl, cs, e, upd_same, by simp only [hcs]; omega, fun i hi => ?_⟩ (Keep.new hfresh _) (fun b hb => .inr ?_)
    · simp only [Nat.zero_add]
      have hl : i < (xs ++ ys).length := by rw [List.length_append, h1, hyl, ← Nat.add_mul]; exact hi
      have : cs = (xs ++ ys).toArray ++ Builtin.zeroCells z.cells (nc - (n + m)) := by
        show xs.toArray ++ ys.toArray ++ _ = _
        congr 1
        simp
      rw [this, Array.getElem?_append_left (by simpa using hl)]
      simp
    · rw [← blk_some.1 hb]
      exact hfresh

theorem wrap_i64 {n : Int} (h0 : -9223372036854775808 ≤ n) (h1 : n < 9223372036854775808) : IntKind.i64.wrap n = n := by
  have e1 : (2 : Int) ^ IntKind.i64.bits = 18446744073709551616 := by decide
  have e2 : (2 : Int) ^ (IntKind.i64.bits - 1) = 9223372036854775808 := by decide
  unfold IntKind.wrap
  simp only [e1, e2, show IntKind.i64.signed = true from rfl, Bool.true_and, decide_eq_true_eq, ge_iff_le]
  split <;> omega
theorem wrap_u64 {n : Int} : IntKind.u64.wrap n = n % 18446744073709551616 := by
  have e1 : (2 : Int) ^ IntKind.u64.bits = 18446744073709551616 := by decide
  unfold IntKind.wrap
  simp [e1, show IntKind.u64.signed = false from rfl]
theorem wrap_u16 {n : Int} : IntKind.u16.wrap n = n % 65536 := by
  have e1 : (2 : Int) ^ IntKind.u16.bits = 65536 := by decide
  unfold IntKind.wrap
  simp [e1, show IntKind.u16.signed = false from rfl]

theorem info_at {t : TypeId} {z : Value} {k b : Nat} (h : (P.info? t).map (fun i => (i.zero, i.size, i.bytes)) = some (some z, k, b)) : ∃ inf, P.info? t = some inf ∧ inf.zero = some z ∧ inf.size = k ∧ inf.bytes = b := by
  cases hi : P.info? t with
  | none => rw [hi] at h; cases h
  | some inf =>
    rw [hi] at h
    simp only [Option.map_some, Option.some.injEq, Prod.mk.injEq] at h
    exact ⟨inf, rfl, h.1, h.2.1, h.2.2⟩

theorem append_at {sl xt ty e k bytes : Nat} {z : Value} {p q : Option Addr} {n cap m qc : Nat} {xs ys : List Value} {K : Value → Hp → Prop}
    (hsl : P.underlying sl = some (.slice e)) (hxt : P.underlying xt = some (.slice e)) (hi : (P.info? e).map (fun i => (i.zero, i.size, i.bytes)) = some (some z, k, bytes)) (hzs : z.cells.size = k)
    (hbytes : bytes ≠ 0) (h : Own H k p n cap xs) (hq : Rd H k q m ys) (hone : ∀ y ∈ ys, one y = true) (hroom : (2 * (n + m) + 512) * bytes ≤ 2 ^ 48)
    (hK : ∀ p' cap' H', Own H' k p' (n + m) cap' (xs ++ ys) → Keep (blk p) H H' → (∀ b, blk p' b → blk p b ∨ H b = none) → K (.slice p' (n + m) cap') H') :
    evW P (Builtin.append_ #[sl, xt] ty #[.slice p n cap, .slice q m qc]) H K := by
  obtain ⟨inf, h1, h2, rfl, rfl⟩ := info_at hi
  exact append_own hsl ⟨e, hxt⟩ h1 h2 hzs h hq hone hroom hbytes hK

theorem Own.new {b k n : Nat} {c : Array Value} {e : TypeId} (hs : c.size = n * k) : Own (upd H b (.cells c e (0, 0))) k (some ⟨b, 0, none⟩) n n c.toList :=
  ⟨by simpa using hs, Nat.le_refl _, rfl, c, e, upd_same, by simp only [hs]; omega, fun i _ => by simp⟩

/-- make, of as many as are wanted. -/
theorem make_at {sl e k bytes : Nat} {z : Value} {n : Int} {K : Value → Hp → Prop}
    (hsl : P.underlying sl = some (.slice e)) (hi : (P.info? e).map (fun i => (i.zero, i.size, i.bytes)) = some (some z, k, bytes)) (h0 : 0 ≤ n) (h1 : n * bytes ≤ 2 ^ 47) (h2 : n < 2 ^ 62)
    (hzs : z.cells.size = k) (hk : k ≠ 0)
    (hK : ∀ b cs, H b = none → cs.size = n.toNat * k → (∀ i, i < n.toNat * k → cs[i]? = z.cells[i % k]?) → K (.slice (some ⟨b, 0, none⟩) n.toNat n.toNat) (upd H b (.cells cs e (0, 0)))) :
    evW P (Instr.makeSlice sl (.int .i64 n) (.int .i64 n)) H K := by
  obtain ⟨inf, g1, g2, rfl, rfl⟩ := info_at hi
  intro w hw
  subst hw
  have hw64 : IntKind.i64.wrap n = n := wrap_i64 (by omega) (by
    have h3 : (2 : Int) ^ 62 = 4611686018427387904 := by decide
    omega)
  let cs : Array Value := (Array.range (n.toNat * inf.size)).map fun i => (if n.toNat * inf.size = 0 then (#[] : Array Value) else z.cells)[i % (if n.toNat * inf.size = 0 then (#[] : Array Value) else z.cells).size]!
  have hrun : (Instr.makeSlice sl (.int .i64 n) (.int .i64 n)).run P w = .ok (.slice (some ⟨w.heap.size, 0, none⟩) n.toNat n.toNat) { w with heap := w.heap.push (.cells cs e) } := by
    have c1 : ¬ (n < 0) := by omega
    have c2 : ¬ (2 ^ 48 < (inf.bytes : Int) * n) := by
      have : (inf.bytes : Int) * n = n * inf.bytes := Int.mul_comm _ _
      rw [this]
      have h47 : (2 : Int) ^ 47 < 2 ^ 48 := by decide
      omega
    simp only [Instr.makeSlice, Sem.run_bind, run_underlying hsl, Result.andThen_ok, asInt, asIntOf, Sem.run_pure, run_typeInfo g1, hw64, c1, gt_iff_lt, c2, decide_false, Bool.or_false, Bool.false_or,
      Int.lt_irrefl, Bool.false_eq_true, if_false, run_askRoom, run_sizeOf g1]
    by_cases hz : n.toNat * inf.size = 0
    · simp [cs, hz, newRow]
    · simp only [if_neg hz, zeroValue, Sem.run_bind, run_typeInfo g1, Result.andThen_ok, g2, Sem.run_pure, newRow, run_newObj, cs]
  refine ⟨_, _, hrun, rest_push _ _, ?_⟩
  rw [hp_push]
  refine hK w.heap.size cs (by simp [hp]) (by simp [cs]) fun i hi' => ?_
  have hz : n.toNat * inf.size ≠ 0 := by omega
  have hlt : i % inf.size < z.cells.size := by rw [hzs]; exact Nat.mod_lt _ (by omega)
  have hlt' : i % z.cells.size < z.cells.size := by rw [hzs]; rwa [hzs] at hlt
  simp only [cs, if_neg hz, Array.getElem?_map]
  rw [Array.getElem?_range]
  rw [if_pos hi', Option.map_some, ← hzs]
  rw [getElem!_pos z.cells _ hlt', Array.getElem?_eq_getElem hlt']

/-! ## Small steps that are known -/

theorem asI_mk' {k : IntKind} {m : Int} {K : Int → Prop} : asI k (.int k m) K = K m := by
  show cond (kindEq k k) _ _ = _
  rw [kindEq_refl, cond_true]
theorem asB_mk {b : Bool} {K : Bool → Prop} : asB (.bool b) K = K b := propext Iff.rfl
theorem asStr_mk {b : ByteArray} {K : ByteArray → Prop} : asStr (.string b) K = K b := propext Iff.rfl
theorem asP_mk {b : Option Addr} {K : Option Addr → Prop} : asP (.pointer b) K = K b := propext Iff.rfl
theorem asA_mk {b : Addr} {K : Addr → Prop} : asA (.pointer (some b)) K = K b := propext Iff.rfl
theorem asM_mk {b : Option Nat} {K : Option Nat → Prop} : asM (.map b) K = K b := propext Iff.rfl
theorem asSl_mk {p : Option Addr} {l c : Nat} {K : Option Addr → Nat → Nat → Prop} : asSl (.slice p l c) K = K p l c := propext Iff.rfl
theorem tup2_mk {a b : Value} {K : Value → Value → Prop} : tup2 (.tuple #[a, b]) K = K a b := propext Iff.rfl
theorem tup3_mk {a b c : Value} {K : Value → Value → Value → Prop} : tup3 (.tuple #[a, b, c]) K = K a b c := propext Iff.rfl
theorem agg1_mk {a : Value} {K : Value → Prop} : agg1 (.agg #[a]) K = K a := propext Iff.rfl
theorem agg2_mk {a b : Value} {K : Value → Value → Prop} : agg2 (.agg #[a, b]) K = K a b := propext Iff.rfl
theorem agg3_mk {a b c : Value} {K : Value → Value → Value → Prop} : agg3 (.agg #[a, b, c]) K = K a b c := propext Iff.rfl
theorem agg4_mk {a b c d : Value} {K : Value → Value → Value → Value → Prop} : agg4 (.agg #[a, b, c, d]) K = K a b c d := propext Iff.rfl
theorem nilP_mk {a : Addr} {K : Addr → Prop} : nilP (some a) K = K a := propext Iff.rfl

theorem condT {A B : Prop} : cond true A B = A := propext Iff.rfl
theorem condF {A B : Prop} : cond false A B = B := propext Iff.rfl
theorem bif_pos {c : Prop} [Decidable c] {A B : Prop} (h : c) (a : A) : cond (decide c) A B := by rw [decide_eq_true h]; exact a
theorem bif_neg {c : Prop} [Decidable c] {A B : Prop} (h : ¬ c) (b : B) : cond (decide c) A B := by rw [decide_eq_false h]; exact b
theorem bif_eq {x y : Int} {A B : Prop} (h : x = y) (a : A) : cond (x == y) A B := by rw [beq_iff_eq.2 h]; exact a
theorem bif_ne {x y : Int} {A B : Prop} (h : x ≠ y) (b : B) : cond (x == y) A B := by rw [beq_eq_false_iff_ne.2 h]; exact b
theorem bif_neq {x y : Int} {A B : Prop} (h : x ≠ y) (a : A) : cond (x != y) A B := by rw [bne_iff_ne.2 h]; exact a
theorem bif_neqf {x y : Int} {A B : Prop} (h : x = y) (b : B) : cond (x != y) A B := by rw [show (x != y) = false by simp [h]]; exact b

/-- A value that is one cell, in a block of its own. -/
theorem rd_new {b : Nat} {c : Array Value} {e : TypeId} {k n : Nat} (hs : c.size = n * k) : Rd (upd H b (.cells c e (0, 0))) k (some ⟨b, 0, none⟩) n c.toList := (Own.new hs).rd

theorem one_int {k : IntKind} (l : List Int) : ∀ y ∈ l.map (Value.int k), one y = true := by
  intro y hy
  obtain ⟨x, _, rfl⟩ := List.mem_map.1 hy
  rfl

/-! ## Pieces of rows -/

theorem slcP_zero {p : Option Addr} {cap k : Nat} : slcP p cap 0 k = p := by
  unfold slcP
  split
  · rfl
  · cases p with
    | none => rfl
    | some a => simp [Addr.add]

theorem slc_to {p : Option Addr} {len cap k : Nat} {h : Int} {K : Option Addr → Nat → Nat → Prop} (h0 : 0 ≤ h) (h1 : h ≤ cap) (hK : K p h.toNat cap) : slcD p len cap none (some h) k K :=
  ⟨⟨h0, h1⟩, by rw [slcP_zero]; exact hK⟩
theorem slc_from {p : Option Addr} {len cap k : Nat} {l : Int} {K : Option Addr → Nat → Nat → Prop} (h0 : 0 ≤ l) (h1 : l ≤ len) (hK : K (slcP p cap l.toNat k) (len - l.toNat) (cap - l.toNat)) : slcD p len cap (some l) none k K :=
  ⟨⟨h0, h1⟩, hK⟩

theorem Own.take {k : Nat} {p : Option Addr} {n m cap : Nat} {xs : List Value} (h : Own H k p n cap xs) (hm : m ≤ n) : Own H k p m cap (xs.take (m * k)) := by
  obtain ⟨h1, h2, h3⟩ := h
  have hle : m * k ≤ n * k := Nat.mul_le_mul_right _ hm
  refine ⟨by rw [List.length_take, h1]; omega, by omega, ?_⟩
  cases p with
  | none => exact h3
  | some a =>
    obtain ⟨hs, c, e, hb, hz, hc⟩ := h3
    exact ⟨hs, c, e, hb, hz, fun i hi => by rw [hc i (by omega), List.getElem?_take_of_lt hi]⟩

theorem Rd.take {k : Nat} {p : Option Addr} {n m : Nat} {xs : List Value} (h : Rd H k p n xs) (hm : m ≤ n) : Rd H k p m (xs.take (m * k)) := by
  obtain ⟨h1, h3⟩ := h
  have hle : m * k ≤ n * k := Nat.mul_le_mul_right _ hm
  refine ⟨by rw [List.length_take, h1]; omega, ?_⟩
  cases p with
  | none => simp only at h3 ⊢; omega
  | some a =>
    obtain ⟨hs, hc⟩ := h3
    exact ⟨fun h => hs (by omega), fun i hi => by rw [hc i (by omega), List.getElem?_take_of_lt hi]⟩

theorem slcP_blk {p : Option Addr} {cap l k b : Nat} : blk (slcP p cap l k) b ↔ blk p b := by
  unfold slcP
  split
  · exact Iff.rfl
  · cases p with
    | none => simp [blk]
    | some a =>
      rw [Option.map_some, blk_some, blk_some]
      unfold Addr.add
      split <;> exact Iff.rfl

theorem slcP_eq {p : Option Addr} {cap k : Nat} : slcP p cap cap k = p := if_pos rfl
theorem slcP_none {cap l k : Nat} : slcP none cap l k = none := by unfold slcP; split <;> rfl
theorem slcP_some {b o cap l k : Nat} (h : cap ≠ l) : slcP (some ⟨b, o, none⟩) cap l k = some ⟨b, o + l * k, none⟩ := by
  unfold slcP
  rw [if_neg h, Option.map_some, add_mk]

theorem Own.drop {k : Nat} {p : Option Addr} {n l cap : Nat} {xs : List Value} (h : Own H k p n cap xs) (hl : l ≤ n) : Own H k (slcP p cap l k) (n - l) (cap - l) (xs.drop (l * k)) := by
  obtain ⟨h1, h2, h3⟩ := h
  have hle : l * k ≤ n * k := Nat.mul_le_mul_right _ hl
  have hsub : n * k - l * k = (n - l) * k := (Nat.sub_mul n l k).symm
  refine ⟨by rw [List.length_drop, h1, hsub], by omega, ?_⟩
  cases p with
  | none => rw [slcP_none]; simp only at h3 ⊢; omega
  | some a =>
    obtain ⟨b, o, s⟩ := a
    obtain ⟨hs, c, e, hb, hz, hc⟩ := h3
    simp only at hs hb hz hc
    subst hs
    by_cases e1 : cap = l
    · subst e1
      rw [slcP_eq]
      refine ⟨rfl, c, e, hb, by rw [Nat.sub_self, Nat.zero_mul]; simp only; omega, fun i hi => ?_⟩
      have : n - cap = 0 := by omega
      rw [this, Nat.zero_mul] at hi
      omega
    · rw [slcP_some e1]
      have h5 : l * k + (cap - l) * k = cap * k := by rw [← Nat.add_mul]; congr 1; omega
      refine ⟨rfl, c, e, hb, by simp only; omega, fun i hi => ?_⟩
      simp only
      rw [List.getElem?_drop, ← hc (l * k + i) (by rw [← hsub] at hi; omega)]
      congr 1
      omega

theorem Rd.drop {k : Nat} {p : Option Addr} {n l cap : Nat} {xs : List Value} (h : Rd H k p n xs) (hl : l ≤ n) (hcap : n ≤ cap) : Rd H k (slcP p cap l k) (n - l) (xs.drop (l * k)) := by
  obtain ⟨h1, h3⟩ := h
  have hle : l * k ≤ n * k := Nat.mul_le_mul_right _ hl
  have hsub : n * k - l * k = (n - l) * k := (Nat.sub_mul n l k).symm
  refine ⟨by rw [List.length_drop, h1, hsub], ?_⟩
  cases p with
  | none => rw [slcP_none]; simp only at h3 ⊢; omega
  | some a =>
    obtain ⟨b, o, s⟩ := a
    obtain ⟨hs, hc⟩ := h3
    simp only at hs hc
    by_cases h0 : n = 0
    · have e0 : n - l = 0 := by omega
      simp only [e0, Nat.zero_mul]
      split
      · trivial
      · exact ⟨fun h => absurd rfl h, fun i hi => absurd hi (Nat.not_lt_zero i)⟩
    have hs := hs h0
    subst hs
    by_cases e1 : cap = l
    · subst e1
      rw [slcP_eq]
      refine ⟨fun _ => rfl, fun i hi => ?_⟩
      have : n - cap = 0 := by omega
      rw [this, Nat.zero_mul] at hi
      omega
    · rw [slcP_some e1]
      refine ⟨fun _ => rfl, fun i hi => ?_⟩
      simp only
      rw [List.getElem?_drop, ← hc (l * k + i) (by rw [← hsub] at hi; omega), Nat.add_assoc]

end Go.Proofs.Ytohlnmenghbgbaa
