/- Parts that are lists of parts; pure parts; rows of several cells made and written. No condition. -/
import Derived.Test.YtohlnmenghbgbaaKeq
namespace Go.Proofs.Ytohlnmenghbgbaa
set_option linter.unusedSimpArgs false
set_option linter.unusedVariables false
open Go

/-- A fact, as a part. -/
def Prt.pure (p : Prop) : Prt := ⟨fun F _ => (∀ c, ¬ F c) ∧ p, fun ⟨h, hp⟩ _ => ⟨h, hp⟩, fun ⟨h, _⟩ _ hc => absurd hc (h _)⟩

section
variable {H0 H H' : Hp} {L M : List Prt} {A B : Prt} {i k : Nat}

theorem ltOfGet {α : Type} {L : List α} {i : Nat} {A : α} (h : L[i]? = some A) : i < L.length := by
  rcases Nat.lt_or_ge i L.length with hl | hl
  · exact hl
  · rw [List.getElem?_eq_none hl] at h; cases h
theorem getOfLt {α : Type} {L : List α} {i : Nat} (h : i < L.length) : ∃ A, L[i]? = some A := ⟨_, List.getElem?_eq_getElem h⟩

theorem St.fact (h : St H0 L H) {p : Prop} (hi : L[i]? = some (Prt.pure p)) : p := by
  obtain ⟨_, ha, _⟩ := h.at hi
  exact ha.2
theorem St.say (h : St H0 L H) {p : Prop} (hp : p) : St H0 (Prt.pure p :: L) H :=
  h.new (A := Prt.pure p) (FA := Nothing) ⟨fun _ h => h, hp⟩ (Goes.refl _ _)
theorem St.refact (h : St H0 L H) {p q : Prop} (hi : L[i]? = some (Prt.pure p)) (hq : q) : St H0 (L.set i (Prt.pure q)) H := by
  obtain ⟨Fi, ha, up⟩ := h.at hi
  exact up _ Fi H ⟨ha.1, hq⟩ (Goes.refl _ _)
theorem St.saynil (h : St H0 L H) : St H0 (Prt.nil :: L) H := h.new (A := Prt.nil) (FA := Nothing) (fun _ h => h) (Goes.refl _ _)

/-- Out of a list that is a part, and back into it. -/
theorem St.sub (h : St H0 L H) (hi : L[i]? = some (Prt.list M)) (hk : M[k]? = some A) : St H0 (A :: L.set i (Prt.list (M.set k .nil))) H := by
  obtain ⟨F, hl, g⟩ := h
  have h1 := (Prt.list_set_nil hi).1 hl
  obtain ⟨F1, F2, a1, a2, ad, aF⟩ := h1
  obtain ⟨G1, G2, b1, b2, bd, bF⟩ := (Prt.list_set_nil hk).1 a1
  have hi' : (L.set i (Prt.list (M.set k .nil)))[i]? = some (Prt.list (M.set k .nil)) := by simp [List.getElem?_set, ltOfGet hi]
  refine ⟨F, ⟨G1, fun c => G2 c ∨ F2 c, b1, (Prt.list_set_nil hi').2 ?_, fun c h k => k.elim (bd c h) (ad c ((bF c).2 (.inl h))), fun c => ?_⟩, g⟩
  · rw [List.set_set]
    exact ⟨G2, F2, b2, a2, fun c h => ad c ((bF c).2 (.inr h)), fun _ => Iff.rfl⟩
  · rw [aF c, bF c]
    exact or_assoc
theorem St.unsub (h : St H0 (A :: L) H) (hi : L[i]? = some (Prt.list M)) (hk : M[k]? = some .nil) : St H0 (L.set i (Prt.list (M.set k A))) H := by
  obtain ⟨F, hl, g⟩ := h
  obtain ⟨G1, G3, b1, c1, cd, cF⟩ := hl
  obtain ⟨G2, F2, b2, a2, bd, bF⟩ := (Prt.list_set_nil hi).1 c1
  have hi' : (L.set i (Prt.list (M.set k A)))[i]? = some (Prt.list (M.set k A)) := by simp [List.getElem?_set, ltOfGet hi]
  have hk' : (M.set k A)[k]? = some A := by simp [List.getElem?_set, ltOfGet hk]
  have e : (M.set k A).set k .nil = M := by rw [List.set_set]; exact List.set_self hk
  refine ⟨F, (Prt.list_set_nil hi').2 ?_, g⟩
  rw [List.set_set]
  refine ⟨fun c => G1 c ∨ G2 c, F2, (Prt.list_set_nil hk').2 ?_, a2, fun c h k => h.elim (fun h => cd c h ((bF c).2 (.inr k))) fun h => bd c h k, fun c => ?_⟩
  · rw [e]
    exact ⟨G1, G2, b1, b2, fun c h k => cd c h ((bF c).2 (.inl k)), fun _ => Iff.rfl⟩
  · rw [cF c, bF c]
    exact or_assoc.symm
/-- One more at its end. -/
theorem St.push (h : St H0 (A :: L) H) (hi : L[i]? = some (Prt.list M)) : St H0 (L.set i (Prt.list (M ++ [A]))) H := by
  obtain ⟨F, hl, g⟩ := h
  obtain ⟨G1, G3, b1, c1, cd, cF⟩ := hl
  obtain ⟨G2, F2, b2, a2, bd, bF⟩ := (Prt.list_set_nil hi).1 c1
  have hi' : (L.set i (Prt.list (M ++ [A])))[i]? = some (Prt.list (M ++ [A])) := by simp [List.getElem?_set, ltOfGet hi]
  refine ⟨F, (Prt.list_set_nil hi').2 ?_, g⟩
  rw [List.set_set]
  refine ⟨fun c => G1 c ∨ G2 c, F2, Prt.list_perm (List.perm_append_comm (l₁ := [A])) ?_, a2, fun c h k => h.elim (fun h => cd c h ((bF c).2 (.inr k))) fun h => bd c h k, fun c => ?_⟩
  · exact ⟨G1, G2, b1, b2, fun c h k => cd c h ((bF c).2 (.inl k)), fun _ => Iff.rfl⟩
  · rw [cF c, bF c]
    exact or_assoc.symm

theorem Prt.list_erase {L : List Prt} : ∀ {i : Nat} {F : Nat → Prop} {H : Hp}, L[i]? = some .nil → (Prt.list L).holds F H → (Prt.list (L.eraseIdx i)).holds F H := by
  induction L with
  | nil => intro i F H h; simp at h
  | cons B L ih =>
    intro i F H h hl
    cases i with
    | zero =>
      simp at h
      subst h
      obtain ⟨F1, F2, h1, h2, hd, hF⟩ := hl
      have : F = F2 := funext fun c => propext ⟨fun h => ((hF c).1 h).elim (fun h => absurd h (h1 c)) id, fun h => (hF c).2 (.inr h)⟩
      rw [this]
      exact h2
    | succ i =>
      obtain ⟨F1, F2, h1, h2, hd, hF⟩ := hl
      exact ⟨F1, F2, h1, ih (by simpa using h) h2, hd, hF⟩
/-- One less. -/
theorem St.erase (h : St H0 L H) (hi : L[i]? = some (Prt.list M)) (hk : M[k]? = some A) : St H0 (L.set i (Prt.list (M.eraseIdx k))) H := by
  have h1 := (h.sub hi hk).less
  have hi1 : (L.set i (Prt.list (M.set k .nil)))[i]? = some (Prt.list (M.set k .nil)) := by simp [List.getElem?_set, ltOfGet hi]
  obtain ⟨Fi, ha, up⟩ := h1.at hi1
  have hk1 : (M.set k .nil)[k]? = some .nil := set_nil_get hk
  have := up _ Fi H (Prt.list_erase hk1 ha) (Goes.refl _ _)
  rw [List.set_set] at this
  have e : (M.set k Prt.nil).eraseIdx k = M.eraseIdx k := by
    apply List.ext_getElem?
    intro j
    simp only [List.getElem?_eraseIdx, List.getElem?_set]
    by_cases hj : j < k
    · simp [hj, Nat.ne_of_gt hj]
    · simp [hj, show ¬ k = j + 1 by omega]
  rwa [e] at this
end

/-! ## Small steps -/
theorem asAggm {c : Array Value} {K : Array Value → Prop} : asAgg' (.agg c) K = K c := propext Iff.rfl
theorem asTup_mk {c : Array Value} {K : Array Value → Prop} : asTup (.tuple c) K = K c := propext Iff.rfl
theorem unCons_mk {v : Value} {r : List Value} {K : Value → List Value → Prop} : unCons (v :: r) K = K v r := propext Iff.rfl
theorem unNil_mk {K : Prop} : unNil [] K = K := propext Iff.rfl
theorem extractD0 {a : Value} {r : List Value} {K : Value → Prop} : extractD (.tuple ⟨a :: r⟩) 0 K = K a := propext Iff.rfl
theorem extractD1 {a b : Value} {r : List Value} {K : Value → Prop} : extractD (.tuple ⟨a :: b :: r⟩) 1 K = K b := propext Iff.rfl
theorem nextC_over {A : Prop} {B : Value → Value → Prop} (h : A) : nextC (.tuple #[.bool false]) A B := h
theorem nextC_more {k x : Value} {A : Prop} {B : Value → Value → Prop} (h : B k x) : nextC (.tuple #[.bool true, k, x]) A B := h

section
variable {H0 H : Hp} {L : List Prt} {i : Nat}
/-- What is left of a map that is gone over, by the heap. -/
def leftOf (H : Hp) (m it : Nat) : Nat := match H m, H it with
  | some (.map a _), some (.mapIter _ _ seen _) => (a.toList.filter fun e => !seen.contains e.born).length
  | _, _ => 0
theorem St.mleft (h : St H0 L H) {b it : Nat} {es todo : List (Value × Value)} {cur : Option (Value × Value)} (hi : L[i]? = some (Prt.mpit b it es todo cur)) : leftOf H b it = todo.length := by
  obtain ⟨Fi, ⟨⟨hne, o, oi, hb, hib, a, clock, seen, rfl, ha, hnd, hlt, rfl, htodo, hcur⟩, hF⟩, up⟩ := h.at hi
  unfold leftOf
  rw [hb, hib, htodo]
  simp
theorem St.mnextT {P : Program} {κ ν : Type} {enc : κ → Value} {f : ν → Value} (h : St H0 L H) {b it : Nat} {es : List (Value × Value)} {tl : List (κ × ν)} {cur : Option (Value × Value)} (hi : L[i]? = some (Prt.mpit b it es (ments enc f tl) cur)) {ty : TypeId} {Q : Value → Hp → Prop}
    (hover : tl = [] → Q (.tuple #[.bool false]) H)
    (hmore : ∀ p A B, tl = A ++ p :: B → ∀ H', St H0 (L.set i (Prt.mpit b it es (ments enc f (A ++ B)) (some (enc p.1, f p.2)))) H' → Q (.tuple #[.bool true, enc p.1, f p.2]) H') : evW P (Instr.next (.pointer (some ⟨it, 0, none⟩)) false ty) H Q := by
  refine h.mnext hi (fun e => hover ?_) fun k v A B e H' h' => ?_
  · unfold ments at e
    exact List.map_eq_nil_iff.1 e
  · unfold ments at e
    obtain ⟨A', B', rfl, rfl, e2⟩ := List.map_eq_append_iff.1 e
    obtain ⟨p, B'', rfl, hp, rfl⟩ := List.map_eq_cons_iff.1 e2
    cases hp
    refine hmore p A' B'' rfl H' ?_
    unfold ments
    rw [List.map_append]
    exact h'
/-- A row of nothing takes another one's elements: a copy. -/
theorem St.copy {P : Program} {sl xt ty e k bytes m qc b : Nat} {e0 : TypeId} {z : Value} {q : Option Addr} {ys : List Value} {K : Value → Hp → Prop} (h : St H0 L H) (hi : L[i]? = some (Prt.one b (.cells #[] e0 (0, 0))))
    (hsl : P.underlying sl = some (.slice e)) (hxt : P.underlying xt = some (.slice e)) (hif : (P.info? e).map (fun i => (i.zero, i.size, i.bytes)) = some (some z, k, bytes)) (hzs : z.cells.size = k)
    (hbytes : bytes ≠ 0) (hq : Rd H k q m ys) (hone : ∀ y ∈ ys, Go.Proofs.Ytohlnmenghbgbaa.one y = true) (hroom : (2 * m + 512) * bytes ≤ 2 ^ 48)
    (hK : ∀ p' cap' H', St H0 (L.set i (Prt.row k p' m cap' ys)) H' → K (.slice p' m cap') H') :
    evW P (Builtin.append_ #[sl, xt] ty #[.slice (some ⟨b, 0, none⟩) 0 0, .slice q m qc]) H K := by
  obtain ⟨Fi, ha, up⟩ := h.at hi
  have ho : Own H k (some ⟨b, 0, none⟩) 0 0 [] := ⟨by simp, Nat.le_refl _, rfl, #[], e0, ha.1, by simp, fun i hi => by omega⟩
  refine append_at (xs := []) hsl hxt hif hzs hbytes ho hq hone (by simpa using hroom) fun p' cap' H' o' hk hn => ?_
  rw [Nat.zero_add] at o' ⊢
  refine hK _ _ _ (up _ (blk p') H' (Prt.row_holds o') ?_)
  have e : Fi = blk (some ⟨b, 0, none⟩) := funext fun c => propext ((ha.2 c).trans ⟨fun h => blk_some.2 h.symm, fun h => (blk_some.1 h).symm⟩)
  rw [e]
  exact ⟨hk, hn⟩
/-- Appending to a row. -/
theorem St.app {P : Program} {sl xt ty e k bytes m qc n cap : Nat} {z : Value} {p q : Option Addr} {xs ys : List Value} {K : Value → Hp → Prop} (h : St H0 L H) (hi : L[i]? = some (Prt.row k p n cap xs))
    (hsl : P.underlying sl = some (.slice e)) (hxt : P.underlying xt = some (.slice e)) (hif : (P.info? e).map (fun i => (i.zero, i.size, i.bytes)) = some (some z, k, bytes)) (hzs : z.cells.size = k)
    (hbytes : bytes ≠ 0) (hq : Rd H k q m ys) (hone : ∀ y ∈ ys, Go.Proofs.Ytohlnmenghbgbaa.one y = true) (hroom : (2 * (n + m) + 512) * bytes ≤ 2 ^ 48)
    (hK : ∀ p' cap' H', St H0 (L.set i (Prt.row k p' (n + m) cap' (xs ++ ys))) H' → K (.slice p' (n + m) cap') H') :
    evW P (Builtin.append_ #[sl, xt] ty #[.slice p n cap, .slice q m qc]) H K :=
  append_at hsl hxt hif hzs hbytes (h.row_own hi) hq hone hroom fun p' cap' H' o' hk hn => hK _ _ _ (h.row_to hi o' ⟨hk, hn⟩)
/-- What is handed back stands in a block of two cells. -/
theorem fin2 {b : Nat} {c : Array Value} {e : TypeId} {x y : Int} {K : Int → Int → Hp → Prop} (h : St H0 L H) (hi : L[i]? = some (Prt.one b (.cells c e (0, 0)))) (hc : c.size = 2) (hK : ∀ H', St H0 (L.set i (Prt.one b (.cells #[.int .i64 x, .int .u64 y] e (0, 0)))) H' → K x y H') :
    st ⟨b, 0, none⟩ (.int .i64 x) H fun H1 => st ⟨b, 1, none⟩ (.int .u64 y) H1 fun H2 => ldI .i64 ⟨b, 0, none⟩ H2 fun n => ldI .u64 ⟨b, 1, none⟩ H2 fun s => K n s H2 := by
  refine h.put hi (by omega) fun H1 h1 => ?_
  have hi1 : (L.set i (Prt.one b (.cells (c.setIfInBounds 0 (.int .i64 x)) e (0, 0))))[i]? = some (Prt.one b (.cells (c.setIfInBounds 0 (.int .i64 x)) e (0, 0))) := by simp [List.getElem?_set, ltOfGet hi]
  refine h1.put hi1 (by simp [hc]) fun H2 h2 => ?_
  rw [List.set_set] at h2
  have e2 : (c.setIfInBounds 0 (.int .i64 x)).setIfInBounds 1 (.int .u64 y) = #[.int .i64 x, .int .u64 y] := by
    obtain ⟨c⟩ := c
    rcases c with _ | ⟨a0, _ | ⟨a1, _ | ⟨a2, c⟩⟩⟩ <;> simp at hc
    rfl
  rw [e2] at h2
  have hi2 : (L.set i (Prt.one b (.cells #[.int .i64 x, .int .u64 y] e (0, 0))))[i]? = some (Prt.one b (.cells #[.int .i64 x, .int .u64 y] e (0, 0))) := by simp [List.getElem?_set, ltOfGet hi]
  exact ldI_of (h2.cell hi2 (o := 0) rfl) (ldI_of (h2.cell hi2 (o := 1) rfl) (hK H2 h2))
/-- Likewise, of an object's five cells. -/
theorem fin5 {b : Nat} {cs : Array Value} {T : TypeId} {x y z : Int} {p q : Option Addr} {n c m d : Nat} {K : Int → Int → Option Addr → Nat → Nat → Option Addr → Nat → Nat → Int → Hp → Prop} (h : St H0 L H) (hi : L[i]? = some (Prt.one b (.cells cs T (0, 0)))) (hc : cs.size = 5)
    (hK : ∀ H', St H0 (L.set i (Prt.one b (.cells #[.int .u64 x, .int .i64 y, .slice p n c, .slice q m d, .int .i64 z] T (0, 0)))) H' → K x y p n c q m d z H') :
    st ⟨b, 0, none⟩ (.int .u64 x) H fun H1 => st ⟨b, 1, none⟩ (.int .i64 y) H1 fun H2 => st ⟨b, 2, none⟩ (.slice p n c) H2 fun H3 => st ⟨b, 3, none⟩ (.slice q m d) H3 fun H4 => st ⟨b, 4, none⟩ (.int .i64 z) H4 fun H5 =>
      ldI .u64 ⟨b, 0, none⟩ H5 fun x => ldI .i64 ⟨b, 1, none⟩ H5 fun y => ldSl ⟨b, 2, none⟩ H5 fun p n c => ldSl ⟨b, 3, none⟩ H5 fun q m d => ldI .i64 ⟨b, 4, none⟩ H5 fun z => K x y p n c q m d z H5 := by
  have hl := ltOfGet hi
  have hget : ∀ A : Prt, (L.set i A)[i]? = some A := fun A => by simp [List.getElem?_set, hl]
  refine h.put hi (by omega) fun H1 h1 => ?_
  refine h1.put (hget _) (by simp [hc]) fun H2 h2 => ?_
  rw [List.set_set] at h2
  refine h2.put (hget _) (by simp [hc]) fun H3 h3 => ?_
  rw [List.set_set] at h3
  refine h3.put (hget _) (by simp [hc]) fun H4 h4 => ?_
  rw [List.set_set] at h4
  refine h4.put (hget _) (by simp [hc]) fun H5 h5 => ?_
  rw [List.set_set] at h5
  have e2 : ((((cs.setIfInBounds 0 (.int .u64 x)).setIfInBounds 1 (.int .i64 y)).setIfInBounds 2 (.slice p n c)).setIfInBounds 3 (.slice q m d)).setIfInBounds 4 (.int .i64 z) = #[.int .u64 x, .int .i64 y, .slice p n c, .slice q m d, .int .i64 z] := by
    obtain ⟨cs⟩ := cs
    rcases cs with _ | ⟨a0, _ | ⟨a1, _ | ⟨a2, _ | ⟨a3, _ | ⟨a4, _ | ⟨a5, cs⟩⟩⟩⟩⟩⟩ <;> simp at hc
    rfl
  rw [e2] at h5
  exact ldI_of (h5.cell (hget _) (o := 0) rfl) (ldI_of (h5.cell (hget _) (o := 1) rfl) (ldSl_of (h5.cell (hget _) (o := 2) rfl) (ldSl_of (h5.cell (hget _) (o := 3) rfl) (ldI_of (h5.cell (hget _) (o := 4) rfl) (hK H5 h5)))))
/-- A variable of two cells, written as it is laid. -/
theorem box2 {T : TypeId} {x y a c : Int} {K : Nat → Hp → Prop} (h : St H0 L H) (hK : ∀ b H', St H0 (Prt.one b (.cells #[.int .i64 x, .int .u64 y] T (0, 0)) :: L) H' → K b H') :
    newB (.cells #[.int .i64 a, .int .u64 c] T) H fun b H1 => st ⟨b, 0, none⟩ (.int .i64 x) H1 fun H2 => st ⟨b, 1, none⟩ (.int .u64 y) H2 fun H3 => K b H3 := by
  intro b hb
  have h1 := h.alloc (o := .cells #[.int .i64 a, .int .u64 c] T) hb
  exact h1.put (i := 0) rfl (by simp) fun H2 h2 => h2.put (i := 0) rfl (by simp) fun H3 h3 => hK b H3 h3
theorem box5 {T : TypeId} {x y z a1 a2 a3 : Int} {p q p' q' : Option Addr} {n c m d n' c' m' d' : Nat} {K : Nat → Hp → Prop} (h : St H0 L H)
    (hK : ∀ b H', St H0 (Prt.one b (.cells #[.int .u64 x, .int .i64 y, .slice p n c, .slice q m d, .int .i64 z] T (0, 0)) :: L) H' → K b H') :
    newB (.cells #[.int .u64 a1, .int .i64 a2, .slice p' n' c', .slice q' m' d', .int .i64 a3] T) H fun b H1 => st ⟨b, 0, none⟩ (.int .u64 x) H1 fun H2 => st ⟨b, 1, none⟩ (.int .i64 y) H2 fun H3 => st ⟨b, 2, none⟩ (.slice p n c) H3 fun H4 =>
      st ⟨b, 3, none⟩ (.slice q m d) H4 fun H5 => st ⟨b, 4, none⟩ (.int .i64 z) H5 fun H6 => K b H6 := by
  intro b hb
  have h1 := h.alloc (o := .cells #[.int .u64 a1, .int .i64 a2, .slice p' n' c', .slice q' m' d', .int .i64 a3] T) hb
  exact h1.put (i := 0) rfl (by simp) fun H2 h2 => h2.put (i := 0) rfl (by simp) fun H3 h3 => h3.put (i := 0) rfl (by simp) fun H4 h4 => h4.put (i := 0) rfl (by simp) fun H5 h5 => h5.put (i := 0) rfl (by simp) fun H6 h6 => hK b H6 h6
end

/-- The first n parts, in another order. -/
theorem St.pick {H0 H : Hp} {L : List Prt} (h : St H0 L H) (n : Nat) (is : List Nat) (hn : (L.take n).length = n) (hp : (List.range n).isPerm is = true) : St H0 (is.map (fun i => L.getD i .nil) ++ L.drop n) H := by
  refine h.perm ?_
  have e : L = (List.range n).map (fun i => L.getD i .nil) ++ L.drop n := by
    have e1 : (List.range n).map (fun i => L.getD i .nil) = L.take n := by
      apply List.ext_getElem?
      intro j
      rw [List.getElem?_map]
      by_cases hj : j < n
      · have : j < L.length := by rw [List.length_take] at hn; omega
        rw [List.getElem?_range hj, List.getElem?_take_of_lt hj, List.getElem?_eq_getElem this]
        simp [List.getD_eq_getElem?_getD, List.getElem?_eq_getElem this]
      · rw [List.getElem?_eq_none (by simpa using hj), List.getElem?_eq_none (by omega)]
        rfl
    rw [e1, List.take_append_drop]
  have := ((List.isPerm_iff.1 hp).map (fun i => L.getD i .nil)).append_right (L.drop n)
  rwa [← e] at this

/-! ## Rows of several cells -/

section
variable {α : Type} {g : α → List Value} {k : Nat}

theorem cel_ext (hg : ∀ x, (g x).length = k) {l : List α} {xs : List Value} (d : α) (hl : xs.length = l.length * k) (h : ∀ i j, i < l.length → j < k → xs[i * k + j]? = (g (l.getD i d))[j]?) : xs = cel g l := by
  apply List.ext_getElem?
  intro y
  by_cases hy : y < l.length * k
  · have hk0 : 0 < k := by
      rcases Nat.eq_zero_or_pos k with e | e
      · subst e; simp at hy
      · exact e
    have h1 : y / k < l.length := (Nat.div_lt_iff_lt_mul hk0).2 hy
    have h2 := Nat.mod_lt y hk0
    have e : y / k * k + y % k = y := Nat.div_add_mod' y k
    rw [← e, h _ _ h1 h2, cel_get hg d h1 h2]
  · rw [List.getElem?_eq_none (by omega), List.getElem?_eq_none (by rw [cel_len hg]; omega)]

theorem cel_set2 (hg : ∀ x, (g x).length = 2) {l : List α} {i : Nat} {y : α} {a b : Value} (d : α) (hi : i < l.length) (hy : g y = [a, b]) : ((cel g l).set (i * 2) a).set (i * 2 + 1) b = cel g (l.set i y) := by
  refine cel_ext hg d (by simp [cel_len hg]) fun i' j hi' hj => ?_
  rw [List.length_set] at hi'
  simp only [List.getElem?_set, List.length_set, cel_len hg]
  have hgd : (l.set i y).getD i' d = if i' = i then y else l.getD i' d := by
    simp only [List.getD_eq_getElem?_getD, List.getElem?_set]
    by_cases e : i = i'
    · subst e; simp [hi]
    · simp [e, Ne.symm e]
  rw [hgd]
  by_cases e : i' = i
  · subst e
    rw [if_pos rfl, hy]
    rcases j with _ | _ | j
    · rw [if_neg (by omega), if_pos (by omega), if_pos (by omega)]; rfl
    · rw [if_pos (by omega), if_pos (by omega)]; rfl
    · omega
  · rw [if_neg (by omega), if_neg (by omega), if_neg e, cel_get hg d hi' hj]
theorem cel_set3 (hg : ∀ x, (g x).length = 3) {l : List α} {i : Nat} {y : α} {a b c : Value} (d : α) (hi : i < l.length) (hy : g y = [a, b, c]) : (((cel g l).set (i * 3) a).set (i * 3 + 1) b).set (i * 3 + 2) c = cel g (l.set i y) := by
  refine cel_ext hg d (by simp [cel_len hg]) fun i' j hi' hj => ?_
  rw [List.length_set] at hi'
  simp only [List.getElem?_set, List.length_set, cel_len hg]
  have hgd : (l.set i y).getD i' d = if i' = i then y else l.getD i' d := by
    simp only [List.getD_eq_getElem?_getD, List.getElem?_set]
    by_cases e : i = i'
    · subst e; simp [hi]
    · simp [e, Ne.symm e]
  rw [hgd]
  by_cases e : i' = i
  · subst e
    rw [if_pos rfl, hy]
    rcases j with _ | _ | _ | j
    · rw [if_neg (by omega), if_neg (by omega), if_pos (by omega), if_pos (by omega)]; rfl
    · rw [if_neg (by omega), if_pos (by omega), if_pos (by omega)]; rfl
    · rw [if_pos (by omega), if_pos (by omega)]; rfl
    · omega
  · rw [if_neg (by omega), if_neg (by omega), if_neg (by omega), if_neg e, cel_get hg d hi' hj]

theorem cel_set1 (hg : ∀ x, (g x).length = k) {l : List α} {i j : Nat} {y : α} {v : Value} (d : α) (hi : i < l.length) (hj : j < k) (hy : g y = (g (l.getD i d)).set j v) : (cel g l).set (i * k + j) v = cel g (l.set i y) := by
  refine cel_ext hg d (by simp [cel_len hg]) fun i' j' hi' hj' => ?_
  rw [List.length_set] at hi'
  have hgd : (l.set i y).getD i' d = if i' = i then y else l.getD i' d := by
    simp only [List.getD_eq_getElem?_getD, List.getElem?_set]
    by_cases e : i = i'
    · subst e; simp [hi]
    · simp [e, Ne.symm e]
  have hlt : i * k + j < l.length * k := by
    have := Nat.mul_le_mul_right k (show i + 1 ≤ l.length by omega)
    rw [Nat.add_mul, Nat.one_mul] at this
    omega
  rw [hgd, List.getElem?_set, cel_len hg, if_pos hlt]
  by_cases e : i' = i
  · subst e
    rw [if_pos rfl, hy, List.getElem?_set, hg, if_pos hj]
    by_cases e2 : j = j'
    · subst e2; rw [if_pos rfl, if_pos rfl]
    · rw [if_neg (by omega), if_neg e2, cel_get hg d hi' hj']
  · rw [if_neg e, if_neg, cel_get hg d hi' hj']
    intro h
    rcases Nat.lt_or_gt_of_ne e with h' | h'
    · have := Nat.mul_le_mul_right k (show i' + 1 ≤ i by omega)
      rw [Nat.add_mul, Nat.one_mul] at this
      omega
    · have := Nat.mul_le_mul_right k (show i + 1 ≤ i' by omega)
      rw [Nat.add_mul, Nat.one_mul] at this
      omega
/-- make, of elements of several cells: a new row. -/
theorem makeK {P : Program} {sl e bytes : Nat} {z : Value} {n : Int} {H : Hp} {K : Value → Hp → Prop} (hg : ∀ x, (g x).length = k) (d : α)
    (hsl : P.underlying sl = some (.slice e)) (hi : (P.info? e).map (fun i => (i.zero, i.size, i.bytes)) = some (some z, k, bytes)) (hz : z.cells.toList = g d) (hk : k ≠ 0) (h0 : 0 ≤ n) (h1 : n * bytes ≤ 2 ^ 47) (h2 : n < 2 ^ 62)
    (hK : ∀ p H', Own H' k p n.toNat n.toNat (cel g (List.replicate n.toNat d)) → Goes Nothing H (blk p) H' → K (.slice p n.toNat n.toNat) H') : evW P (Instr.makeSlice sl (.int .i64 n) (.int .i64 n)) H K := by
  have hzs : z.cells.size = k := by rw [← Array.length_toList, hz, hg]
  refine make_at (z := z) hsl hi h0 h1 h2 hzs hk fun b cs hb hs hc => ?_
  have gg := (Goes.alloc (o := .cells cs e (0, 0)) hb).less (F2 := blk (some ⟨b, 0, none⟩)) fun c h => (blk_some.1 h).symm
  refine hK _ _ ?_ gg
  have ho := Own.new (H := H) (b := b) (k := k) (n := n.toNat) (c := cs) (e := e) hs
  have e1 : cs.toList = cel g (List.replicate n.toNat d) := by
    refine cel_ext hg d (by simpa using hs) fun i j hi hj => ?_
    rw [List.length_replicate] at hi
    have hlt : i * k + j < n.toNat * k := by
      have := Nat.mul_le_mul_right k (show i + 1 ≤ n.toNat by omega)
      rw [Nat.add_mul, Nat.one_mul] at this
      omega
    rw [Array.getElem?_toList, hc _ hlt, Nat.mul_comm i k, Nat.mul_add_mod, Nat.mod_eq_of_lt hj, ← Array.getElem?_toList, hz]
    simp [List.getD_eq_getElem?_getD, hi]
  rw [e1] at ho
  exact ho
end

end Go.Proofs.Ytohlnmenghbgbaa
