/- A call's own blocks as a list of parts, from its start on: one word for what a run has come to. No condition. -/
import Derived.Test.YtohlnmenghbgbaaPrt
namespace Go.Proofs.Ytohlnmenghbgbaa
set_option linter.unusedSimpArgs false
set_option linter.unusedVariables false
open Go

/-- From H0 on: all that there was is as it was; the own blocks are these parts. -/
def St (H0 : Hp) (L : List Prt) (H : Hp) : Prop := ∃ F, (Prt.list L).holds F H ∧ Goes Nothing H0 F H

section
variable {H0 H H' : Hp} {L : List Prt} {A B : Prt} {i : Nat}

theorem St.start (H : Hp) : St H [] H := ⟨Nothing, Prt.list_nil H, Goes.refl _ _⟩
theorem St.keep (h : St H0 L H) : Keep Nothing H0 H := let ⟨_, _, g⟩ := h; g.keep
theorem St.rd (h : St H0 L H) {k n : Nat} {p : Option Addr} {xs : List Value} (r : Rd H0 k p n xs) : Rd H k p n xs := r.keep h.keep fun _ _ => id
theorem St.arg (h : St H0 L H) {p : Addr} {v : Value} (c : hcell H0 p = some v) : hcell H p = some v := by
  obtain ⟨_, _, g⟩ := h
  have hb : H0 p.block ≠ none := fun e => by simp [hcell, e] at c
  simp only [hcell, g.keep.same _ hb id] at c ⊢
  exact c
theorem St.arg_block (h : St H0 L H) {b : Nat} {o : Obj} (c : H0 b = some o) : H b = some o := by
  rw [h.keep.same b (by rw [c]; simp) id, c]

/-- One part, and back. -/
theorem St.at (h : St H0 L H) (hi : L[i]? = some A) : ∃ Fi, A.holds Fi H ∧ ∀ (A' : Prt) (Fi' : Nat → Prop) (H' : Hp), A'.holds Fi' H' → Goes Fi H Fi' H' → St H0 (L.set i A') H' := by
  obtain ⟨F, hl, g⟩ := h
  obtain ⟨Fi, ha, _, up⟩ := Prt.at hl hi
  refine ⟨Fi, ha, fun A' Fi' H' h' g' => ?_⟩
  obtain ⟨F', hl', gl⟩ := up A' Fi' H' h' g'
  exact ⟨F', hl', g.trans gl⟩
/-- A part more. -/
theorem St.new (h : St H0 L H) {FA : Nat → Prop} (ha : A.holds FA H') (g : Goes Nothing H FA H') : St H0 (A :: L) H' := by
  obtain ⟨F, hl, g0⟩ := h
  obtain ⟨F', hl', gl⟩ := Prt.more hl ha g
  exact ⟨F', hl', g0.trans gl⟩
theorem St.alloc (h : St H0 L H) {b : Nat} {o : Obj} (hb : H b = none) : St H0 (Prt.one b o :: L) (upd H b o) :=
  h.new (A := Prt.one b o) (Prt.one_holds upd_same) (Goes.alloc hb)
theorem St.row (h : St H0 L H) {k n cap : Nat} {p : Option Addr} {xs : List Value} (ho : Own H' k p n cap xs) (g : Goes Nothing H (blk p) H') : St H0 (Prt.row k p n cap xs :: L) H' :=
  h.new (Prt.row_holds ho) g
/-- What turns nothing and lays nothing of the own. -/
theorem St.still (h : St H0 L H) {G : Nat → Prop} (g : Goes Nothing H G H') : St H0 L H' := by
  obtain ⟨F, hl, g0⟩ := h
  exact ⟨F, (Prt.list L).still hl g, g0.trans (g.part (fun _ h => h.elim) fun _ h => .inl h)⟩
theorem St.less (h : St H0 (A :: L) H) : St H0 L H := by
  obtain ⟨F, hl, g⟩ := h
  obtain ⟨F', hl', g'⟩ := Prt.less hl
  exact ⟨F', hl', g.trans g'⟩
theorem St.lesses {M : List Prt} (h : St H0 (M ++ L) H) : St H0 L H := by
  induction M with
  | nil => exact h
  | cons A M ih => exact ih (St.less h)
theorem St.flip (h : St H0 (A :: B :: L) H) : St H0 (B :: A :: L) H := by
  obtain ⟨F, hl, g⟩ := h
  exact ⟨F, Prt.flip hl, g⟩

theorem Prt.list_perm {L M : List Prt} (p : L.Perm M) : ∀ {F : Nat → Prop} {H : Hp}, (Prt.list L).holds F H → (Prt.list M).holds F H := by
  induction p with
  | nil => exact fun h => h
  | cons A _ ih => rintro F H ⟨F1, F2, h1, h2, hd, hF⟩; exact ⟨F1, F2, h1, ih h2, hd, hF⟩
  | swap A B l => exact fun h => Prt.flip h
  | trans _ _ ih1 ih2 => exact fun h => ih2 (ih1 h)
theorem St.perm {M : List Prt} (h : St H0 L H) (p : L.Perm M) : St H0 M H := let ⟨F, hl, g⟩ := h; ⟨F, Prt.list_perm p hl, g⟩

theorem Prt.list_append {L M : List Prt} : ∀ {F : Nat → Prop} {H : Hp}, (Prt.list (Prt.list L :: M)).holds F H ↔ (Prt.list (L ++ M)).holds F H := by
  induction L with
  | nil =>
    intro F H
    constructor
    · rintro ⟨F1, F2, h1, h2, hd, hF⟩
      refine (Prt.list M).frame (F := F) ?_ fun _ _ => rfl
      have : F = F2 := funext fun c => propext ⟨fun h => ((hF c).1 h).elim (fun h => absurd h (h1 c)) id, fun h => (hF c).2 (.inr h)⟩
      rw [this]; exact h2
    · intro h
      exact ⟨Nothing, F, fun _ h => h, h, fun _ h => h.elim, fun c => ⟨.inr, fun h => h.elim (fun h => h.elim) id⟩⟩
  | cons A L ih =>
    intro F H
    constructor
    · rintro ⟨F1, F2, ⟨G1, G2, a1, a2, ad, aF⟩, h2, hd, hF⟩
      refine ⟨G1, fun c => G2 c ∨ F2 c, a1, ih.1 ⟨G2, F2, a2, h2, fun c h => hd c ((aF c).2 (.inr h)), fun _ => Iff.rfl⟩, fun c h k => k.elim (ad c h) (hd c ((aF c).2 (.inl h))), fun c => ?_⟩
      rw [hF c, aF c]
      exact or_assoc
    · rintro ⟨G1, G2, a1, a2, ad, aF⟩
      obtain ⟨K1, K2, b1, b2, bd, bF⟩ := ih.2 a2
      refine ⟨fun c => G1 c ∨ K1 c, K2, ⟨G1, K1, a1, b1, fun c h k => ad c h ((bF c).2 (.inl k)), fun _ => Iff.rfl⟩, b2, fun c h k => h.elim (fun h => ad c h ((bF c).2 (.inr k))) fun h => bd c h k, fun c => ?_⟩
      rw [aF c, bF c]
      exact or_assoc.symm

theorem Prt.list_set_nil {L : List Prt} {A : Prt} {i : Nat} : ∀ {F : Nat → Prop} {H : Hp}, L[i]? = some A → ((Prt.list L).holds F H ↔ (Prt.list (A :: L.set i .nil)).holds F H) := by
  induction L generalizing i with
  | nil => intro F H h; simp at h
  | cons B L ih =>
    intro F H h
    cases i with
    | zero =>
      simp at h
      subst h
      constructor
      · rintro ⟨F1, F2, h1, h2, hd, hF⟩
        exact ⟨F1, F2, h1, ⟨Nothing, F2, fun _ h => h, h2, fun _ h => h.elim, fun c => ⟨.inr, fun h => h.elim (fun h => h.elim) id⟩⟩, hd, hF⟩
      · rintro ⟨F1, F2, h1, ⟨G1, G2, g1, g2, gd, gF⟩, hd, hF⟩
        refine ⟨F1, G2, h1, g2, fun c h k => hd c h ((gF c).2 (.inr k)), fun c => ?_⟩
        rw [hF c, gF c]
        exact ⟨fun h => h.elim .inl fun h => h.elim (fun h => absurd h (g1 c)) .inr, fun h => h.elim .inl fun h => .inr (.inr h)⟩
    | succ i =>
      have h : L[i]? = some A := by simpa using h
      constructor
      · rintro ⟨F1, F2, h1, h2, hd, hF⟩
        have := (ih h).1 h2
        exact Prt.flip ⟨F1, F2, h1, this, hd, hF⟩
      · intro h0
        obtain ⟨F1, F2, h1, h2, hd, hF⟩ := Prt.flip h0
        exact ⟨F1, F2, h1, (ih h).2 h2, hd, hF⟩

theorem set_nil_get {L : List Prt} {i : Nat} {A : Prt} (hi : L[i]? = some A) : (L.set i .nil)[i]? = some .nil := by
  have : i < L.length := by
    rcases Nat.lt_or_ge i L.length with h | h
    · exact h
    · rw [List.getElem?_eq_none h] at hi; cases hi
  simp [List.getElem?_set, this]

/-- A part is opened: its parts stand in front. -/
theorem St.open (h : St H0 L H) {M : List Prt} (hi : L[i]? = some (Prt.list M)) : St H0 (M ++ L.set i .nil) H := by
  obtain ⟨F, hl, g⟩ := h
  exact ⟨F, Prt.list_append.1 ((Prt.list_set_nil hi).1 hl), g⟩
theorem St.openEx (h : St H0 L H) {α : Type} {M : α → List Prt} (hi : L[i]? = some (Prt.ex fun x => Prt.list (M x))) : ∃ x, St H0 (M x ++ L.set i .nil) H := by
  obtain ⟨F, hl, g⟩ := h
  obtain ⟨F1, F2, ⟨x, h1⟩, h2, hd, hF⟩ := (Prt.list_set_nil hi).1 hl
  exact ⟨x, F, Prt.list_append.1 ⟨F1, F2, h1, h2, hd, hF⟩, g⟩
/-- A place that is free takes a part. -/
theorem St.shutAt (h : St H0 (A :: L) H) (hi : L[i]? = some .nil) : St H0 (L.set i A) H := by
  obtain ⟨F, hl, g⟩ := h
  have hlt : i < L.length := by
    rcases Nat.lt_or_ge i L.length with h | h
    · exact h
    · rw [List.getElem?_eq_none h] at hi; cases hi
  have e : (L.set i A).set i .nil = L := by
    rw [List.set_set]
    apply List.ext_getElem?
    intro j
    rw [List.getElem?_set]
    split
    · rename_i hj; subst hj; rw [hi]
    · rfl
  exact ⟨F, (Prt.list_set_nil (L := L.set i A) (i := i) (A := A) (by simp [hlt])).2 (by rw [e]; exact hl), g⟩
theorem St.gather {M : List Prt} (h : St H0 (M ++ L) H) : St H0 (Prt.list M :: L) H := let ⟨F, hl, g⟩ := h; ⟨F, Prt.list_append.2 hl, g⟩
theorem St.gatherEx {α : Type} {M : α → List Prt} (x : α) (h : St H0 (M x ++ L) H) : St H0 ((Prt.ex fun x => Prt.list (M x)) :: L) H := by
  obtain ⟨F, hl, g⟩ := h.gather
  obtain ⟨F1, F2, h1, h2, hd, hF⟩ := hl
  exact ⟨F, ⟨F1, F2, ⟨x, h1⟩, h2, hd, hF⟩, g⟩
theorem St.shut (h : St H0 L H) {M M' : List Prt} {L' : List Prt} (e : L = M ++ L'.set i .nil) (hi : L'[i]? = some B) : St H0 (L'.set i (Prt.list M)) H := by
  subst e
  have := St.shutAt h.gather (set_nil_get hi)
  rwa [List.set_set] at this
theorem St.shutEx {α : Type} {M : α → List Prt} {L' : List Prt} (x : α) (h : St H0 (M x ++ L'.set i .nil) H) (hi : L'[i]? = some B) : St H0 (L'.set i (Prt.ex fun x => Prt.list (M x))) H := by
  have := St.shutAt (St.gatherEx x h) (set_nil_get hi)
  rwa [List.set_set] at this

theorem List.set_self {α : Type} {L : List α} {A : α} (hi : L[i]? = some A) : L.set i A = L := by
  apply List.ext_getElem?
  intro j
  rw [List.getElem?_set]
  split
  · rename_i hj
    subst hj
    have hlt : i < L.length := by
      rcases Nat.lt_or_ge i L.length with h | h
      · exact h
      · rw [List.getElem?_eq_none h] at hi; cases hi
    simp [hlt] at hi ⊢
    exact hi.symm
  · rfl

/-- A run within a run: what it owns comes in front. -/
theorem St.join {H1 : Hp} {M : List Prt} (h : St H0 L H1) (g : St H1 M H) : St H0 (M ++ L) H := by
  obtain ⟨FM, hm, gm⟩ := g
  obtain ⟨F, hl, g'⟩ := h.new (A := Prt.list M) hm gm
  exact ⟨F, Prt.list_append.1 hl, g'⟩

/-! ## Reading and writing -/
theorem St.one (h : St H0 L H) {b : Nat} {o : Obj} (hi : L[i]? = some (Prt.one b o)) : H b = some o := by
  obtain ⟨_, ha, _⟩ := h.at hi
  exact ha.1
theorem St.cell (h : St H0 L H) {b o : Nat} {c : Array Value} {e : TypeId} {f : Nat × Nat} {v : Value} (hi : L[i]? = some (Prt.one b (.cells c e f))) (hv : c[o]? = some v) : hcell H ⟨b, o, none⟩ = some v :=
  hcell_blk (h.one hi) hv
theorem St.row_rd (h : St H0 L H) {k n cap : Nat} {p : Option Addr} {xs : List Value} (hi : L[i]? = some (Prt.row k p n cap xs)) : Rd H k p n xs := by
  obtain ⟨_, ha, _⟩ := h.at hi
  exact ha.1.rd
theorem St.row_own (h : St H0 L H) {k n cap : Nat} {p : Option Addr} {xs : List Value} (hi : L[i]? = some (Prt.row k p n cap xs)) : Own H k p n cap xs := by
  obtain ⟨_, ha, _⟩ := h.at hi
  exact ha.1
/-- A field is written. -/
theorem St.put (h : St H0 L H) {b o : Nat} {c : Array Value} {e : TypeId} {v : Value} {K : Hp → Prop} (hi : L[i]? = some (Prt.one b (.cells c e (0, 0)))) (ho : o < c.size)
    (hK : ∀ H', St H0 (L.set i (Prt.one b (.cells (c.setIfInBounds o v) e (0, 0)))) H' → K H') : st ⟨b, o, none⟩ v H K := by
  obtain ⟨Fi, ha, up⟩ := h.at hi
  exact st_of ha.1 ho (hK _ (up (Prt.one b (.cells (c.setIfInBounds o v) e (0, 0))) Fi _ ⟨upd_same, ha.2⟩ (Goes.of (Keep.upd.mono fun c h => .inl ((ha.2 c).2 h)))))
/-- An element is written. -/
theorem St.poke (h : St H0 L H) {k n cap b o j : Nat} {p : Option Addr} {xs : List Value} {v : Value} {K : Hp → Prop} (hi : L[i]? = some (Prt.row k p n cap xs)) (hp : p = some ⟨b, o, none⟩) (hj : j < n * k)
    (hK : ∀ H', St H0 (L.set i (Prt.row k p n cap (xs.set j v))) H' → K H') : Go.Proofs.Ytohlnmenghbgbaa.st ⟨b, o + j, none⟩ v H K := by
  obtain ⟨Fi, ha, up⟩ := h.at hi
  exact ha.1.st hp hj fun H' h' k' => hK H' (up (Prt.row k p n cap (xs.set j v)) Fi H' ⟨h', ha.2⟩ (Goes.of (k'.mono fun c h => .inl ((ha.2 c).2 h))))
/-- A row, by what a law of rows made of it. -/
theorem St.row_to (h : St H0 L H) {k n cap k' n' cap' : Nat} {p p' : Option Addr} {xs xs' : List Value} (hi : L[i]? = some (Prt.row k p n cap xs)) (ho : Own H' k' p' n' cap' xs') (g : Goes (blk p) H (blk p') H') :
    St H0 (L.set i (Prt.row k' p' n' cap' xs')) H' := by
  obtain ⟨Fi, ha, up⟩ := h.at hi
  refine up _ (blk p') H' (Prt.row_holds ho) ?_
  have : Fi = blk p := funext fun c => propext (ha.2 c)
  rw [this]; exact g
end

end Go.Proofs.Ytohlnmenghbgbaa
