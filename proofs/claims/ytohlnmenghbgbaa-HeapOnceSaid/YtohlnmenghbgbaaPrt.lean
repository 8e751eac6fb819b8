/- The parts of what a call owns, as a list: a part is read and worked on in its place. No condition. -/
import Derived.Test.YtohlnmenghbgbaaSep
namespace Go.Proofs.Ytohlnmenghbgbaa
set_option linter.unusedSimpArgs false
set_option linter.unusedVariables false
open Go

/-- What holds of some blocks alone. -/
structure Prt where
  holds : (Nat → Prop) → Hp → Prop
  frame : ∀ {F : Nat → Prop} {H H' : Hp}, holds F H → (∀ c, F c → H' c = H c) → holds F H'
  dom : ∀ {F : Nat → Prop} {H : Hp}, holds F H → ∀ {c : Nat}, F c → H c ≠ none

theorem Prt.stays (A : Prt) {F G G' : Nat → Prop} {H H' : Hp} (h : A.holds F H) (a : Goes G H G' H') (d : ∀ c, F c → ¬ G c) : A.holds F H' :=
  A.frame h fun c hc => a.keep.same c (A.dom h hc) (d c hc)
theorem Prt.apart (A : Prt) {F G G' : Nat → Prop} {H H' : Hp} (h : A.holds F H) (a : Goes G H G' H') (d : ∀ c, F c → ¬ G c) : ∀ c, F c → ¬ G' c := fun c hc hg =>
  (a.fresh c hg).elim (d c hc) (A.dom h hc)
/-- Behind work that turned nothing that was there. -/
theorem Prt.still (A : Prt) {F G' : Nat → Prop} {H H' : Hp} (h : A.holds F H) (a : Goes Nothing H G' H') : A.holds F H' := A.stays h a fun _ _ => id

def Prt.one (b : Nat) (o : Obj) : Prt := ⟨One b o, fun h => (One.part b o).frame h, fun h _ => (One.part b o).dom h⟩
def Prt.row (k : Nat) (p : Option Addr) (n cap : Nat) (xs : List Value) : Prt := ⟨Row k p n cap xs, fun h => (Row.part k p n cap xs).frame h, fun h _ => (Row.part k p n cap xs).dom h⟩
def Prt.nil : Prt := ⟨fun F _ => ∀ c, ¬ F c, fun h _ => h, fun h _ hc => absurd hc (h _)⟩
def Prt.both (A B : Prt) : Prt :=
  ⟨Both A.holds B.holds, fun h => (Both.part ⟨A.frame, A.dom⟩ ⟨B.frame, B.dom⟩).frame h, fun h _ => (Both.part ⟨A.frame, A.dom⟩ ⟨B.frame, B.dom⟩).dom h⟩
def Prt.ex {α : Type} (A : α → Prt) : Prt := ⟨fun F H => ∃ x, (A x).holds F H, fun ⟨x, h⟩ hf => ⟨x, (A x).frame h hf⟩, fun ⟨x, h⟩ _ hc => (A x).dom h hc⟩
def Prt.with (A : Prt) (p : Prop) : Prt := ⟨fun F H => A.holds F H ∧ p, fun ⟨h, hp⟩ hf => ⟨A.frame h hf, hp⟩, fun ⟨h, _⟩ _ hc => A.dom h hc⟩
def Prt.list : List Prt → Prt
  | [] => Prt.nil
  | A :: L => A.both (Prt.list L)

/-- Work on one of the parts. -/
theorem Prt.at {L : List Prt} {A : Prt} : ∀ {i : Nat} {F : Nat → Prop} {H : Hp}, (Prt.list L).holds F H → L[i]? = some A →
    ∃ Fi, A.holds Fi H ∧ (∀ c, Fi c → F c) ∧ ∀ (A' : Prt) (Fi' : Nat → Prop) (H' : Hp), A'.holds Fi' H' → Goes Fi H Fi' H' → ∃ F', (Prt.list (L.set i A')).holds F' H' ∧ Goes F H F' H' := by
  induction L with
  | nil => intro i F H _ hi; simp at hi
  | cons B L ih =>
    intro i F H h hi
    obtain ⟨F1, F2, h1, h2, hd, hF⟩ := h
    cases i with
    | zero =>
      simp at hi
      subst hi
      refine ⟨F1, h1, fun c hc => (hF c).2 (.inl hc), fun A' Fi' H' h' g => ?_⟩
      have hd' : ∀ c, F2 c → ¬ F1 c := fun c h2 h1 => hd c h1 h2
      exact ⟨fun c => Fi' c ∨ F2 c, ⟨Fi', F2, h', (Prt.list L).stays h2 g hd', fun c h1 h3 => (Prt.list L).apart h2 g hd' c h3 h1, fun _ => Iff.rfl⟩,
        g.part (fun c h => (hF c).2 (.inl h)) fun c h => h.elim .inr fun h => .inl ((hF c).2 (.inr h))⟩
    | succ i =>
      obtain ⟨Fi, ha, hs, hup⟩ := ih h2 (by simpa using hi)
      refine ⟨Fi, ha, fun c hc => (hF c).2 (.inr (hs c hc)), fun A' Fi' H' h' g => ?_⟩
      obtain ⟨F2', h2', g2⟩ := hup A' Fi' H' h' g
      exact ⟨fun c => F1 c ∨ F2' c, ⟨F1, F2', B.stays h1 g2 hd, h2', B.apart h1 g2 hd, fun _ => Iff.rfl⟩,
        g2.part (fun c h => (hF c).2 (.inr h)) fun c h => h.elim (fun h => .inl ((hF c).2 (.inl h))) .inr⟩

theorem Prt.list_nil (H : Hp) : (Prt.list []).holds Nothing H := fun _ h => h
/-- One part more. -/
theorem Prt.more {L : List Prt} {A : Prt} {F FA : Nat → Prop} {H H' : Hp} (h : (Prt.list L).holds F H) (ha : A.holds FA H') (g : Goes Nothing H FA H') : ∃ F', (Prt.list (A :: L)).holds F' H' ∧ Goes F H F' H' :=
  ⟨fun c => FA c ∨ F c, ⟨FA, F, ha, (Prt.list L).stays h g fun _ _ => id, fun c h1 h2 => (Prt.list L).apart h g (fun _ _ => id) c h2 h1, fun _ => Iff.rfl⟩, g.part (fun _ h => h.elim) fun _ h => h.elim .inr .inl⟩
/-- A part less. -/
theorem Prt.less {L : List Prt} {A : Prt} {F : Nat → Prop} {H : Hp} (h : (Prt.list (A :: L)).holds F H) : ∃ F', (Prt.list L).holds F' H ∧ Goes F H F' H := by
  obtain ⟨F1, F2, h1, h2, hd, hF⟩ := h
  exact ⟨F2, h2, (Goes.refl F H).less fun c h => (hF c).2 (.inr h)⟩
/-- The first two change places. -/
theorem Prt.flip {L : List Prt} {A B : Prt} {F : Nat → Prop} {H : Hp} (h : (Prt.list (A :: B :: L)).holds F H) : (Prt.list (B :: A :: L)).holds F H := by
  obtain ⟨F1, G, h1, ⟨F2, F3, h2, h3, hd2, hG⟩, hd1, hF⟩ := h
  refine ⟨F2, fun c => F1 c ∨ F3 c, h2, ⟨F1, F3, h1, h3, fun c a b => hd1 c a ((hG c).2 (.inr b)), fun _ => Iff.rfl⟩, fun c a b => b.elim (fun b => hd1 c b ((hG c).2 (.inl a))) (hd2 c a), fun c => ?_⟩
  rw [hF c, hG c]
  exact ⟨fun h => h.elim (fun h => .inr (.inl h)) fun h => h.elim .inl fun h => .inr (.inr h), fun h => h.elim (fun h => .inr (.inl h)) fun h => h.elim .inl fun h => .inr (.inr h)⟩
/-- A new block beside what there is. -/
theorem Prt.alloc {L : List Prt} {F : Nat → Prop} {H : Hp} {b : Nat} {o : Obj} (h : (Prt.list L).holds F H) (hb : H b = none) : ∃ F', (Prt.list (Prt.one b o :: L)).holds F' (upd H b o) ∧ Goes F H F' (upd H b o) :=
  Prt.more h (A := Prt.one b o) ⟨upd_same, fun _ => Iff.rfl⟩ (Goes.alloc hb)

theorem Prt.one_cell {L : List Prt} {F : Nat → Prop} {H : Hp} {i b o : Nat} {c : Array Value} {e : TypeId} {f : Nat × Nat} {v : Value} (h : (Prt.list L).holds F H) (hi : L[i]? = some (Prt.one b (.cells c e f))) (hv : c[o]? = some v) :
    hcell H ⟨b, o, none⟩ = some v := by
  obtain ⟨Fi, h1, _, _⟩ := Prt.at h hi
  exact hcell_blk h1.1 hv
theorem Prt.row_rd {L : List Prt} {F : Nat → Prop} {H : Hp} {i k n cap : Nat} {p : Option Addr} {xs : List Value} (h : (Prt.list L).holds F H) (hi : L[i]? = some (Prt.row k p n cap xs)) : Rd H k p n xs := by
  obtain ⟨Fi, h1, _, _⟩ := Prt.at h hi
  exact h1.1.rd
theorem Prt.row_own {L : List Prt} {F : Nat → Prop} {H : Hp} {i k n cap : Nat} {p : Option Addr} {xs : List Value} (h : (Prt.list L).holds F H) (hi : L[i]? = some (Prt.row k p n cap xs)) : Own H k p n cap xs := by
  obtain ⟨Fi, h1, _, _⟩ := Prt.at h hi
  exact h1.1
/-- A field is written. -/
theorem Prt.put {L : List Prt} {F : Nat → Prop} {H : Hp} {i b o : Nat} {c : Array Value} {e : TypeId} {v : Value} {K : Hp → Prop} (h : (Prt.list L).holds F H) (hi : L[i]? = some (Prt.one b (.cells c e (0, 0)))) (ho : o < c.size)
    (hK : ∀ F' H', (Prt.list (L.set i (Prt.one b (.cells (c.setIfInBounds o v) e (0, 0))))).holds F' H' → Goes F H F' H' → K H') : st ⟨b, o, none⟩ v H K := by
  obtain ⟨Fi, h1, _, hup⟩ := Prt.at h hi
  obtain ⟨F', h', g'⟩ := hup (Prt.one b (.cells (c.setIfInBounds o v) e (0, 0))) Fi _ ⟨upd_same, h1.2⟩ (Goes.of (Keep.upd.mono fun c h => .inl ((h1.2 c).2 h)))
  exact st_of h1.1 ho (hK F' _ h' g')
/-- An element is written. -/
theorem Prt.poke {L : List Prt} {F : Nat → Prop} {H : Hp} {i k n cap b o j : Nat} {p : Option Addr} {xs : List Value} {v : Value} {K : Hp → Prop} (h : (Prt.list L).holds F H) (hi : L[i]? = some (Prt.row k p n cap xs)) (hp : p = some ⟨b, o, none⟩) (hj : j < n * k)
    (hK : ∀ F' H', (Prt.list (L.set i (Prt.row k p n cap (xs.set j v)))).holds F' H' → Goes F H F' H' → K H') : st ⟨b, o + j, none⟩ v H K := by
  obtain ⟨Fi, h1, _, hup⟩ := Prt.at h hi
  refine h1.1.st hp hj fun H' h' k' => ?_
  obtain ⟨F', h', g'⟩ := hup (Prt.row k p n cap (xs.set j v)) Fi _ ⟨h', h1.2⟩ (Goes.of (k'.mono fun c h => .inl ((h1.2 c).2 h)))
  exact hK F' _ h' g'
/-- A row takes another one's place. -/
theorem Prt.change {L : List Prt} {A A' : Prt} {F FA : Nat → Prop} {H H' : Hp} {i : Nat} (h : (Prt.list L).holds F H) (hi : L[i]? = some A) (ha : A'.holds FA H') (g : Goes Nothing H FA H') : ∃ F', (Prt.list (L.set i A')).holds F' H' ∧ Goes F H F' H' := by
  obtain ⟨Fi, h1, _, hup⟩ := Prt.at h hi
  exact hup A' FA H' ha (g.more fun _ h => h.elim)

theorem Prt.row_holds {H : Hp} {k n cap : Nat} {p : Option Addr} {xs : List Value} (h : Own H k p n cap xs) : (Prt.row k p n cap xs).holds (blk p) H := ⟨h, fun _ => Iff.rfl⟩
theorem Prt.one_holds {H : Hp} {b : Nat} {o : Obj} (h : H b = some o) : (Prt.one b o).holds (fun c => c = b) H := ⟨h, fun _ => Iff.rfl⟩

/-- An element of a row of single cells. -/
theorem idx1 {α : Type} {g : α → Value} {d : α} {H : Hp} {p : Option Addr} {n : Nat} {l : List α} {i : Int} {K : Addr → Prop} (h : Rd H 1 p n (l.map g)) (h0 : 0 ≤ i) (hi : i < (n : Int))
    (hk : ∀ b o, p = some ⟨b, o, none⟩ → hcell H ⟨b, o + i.toNat, none⟩ = some (g (l.getD i.toNat d)) → K ⟨b, o + i.toNat, none⟩) : idxA p n i 1 K := by
  have hl : l.length = n := by have := h.1; simpa using this
  refine idxA_of h h0 hi fun b o hp hc => ?_
  have hc0 := hc 0 (by omega)
  have hlt : i.toNat < l.length := by omega
  simp only [Nat.mul_one, Nat.add_zero, List.getElem?_map, List.getElem?_eq_getElem hlt, Option.map_some] at hc0 ⊢
  refine hk b o hp ?_
  rw [hc0, List.getD_eq_getElem?_getD, List.getElem?_eq_getElem hlt]
  rfl

end Go.Proofs.Ytohlnmenghbgbaa
