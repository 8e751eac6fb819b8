/- Merged by merge.py: Sep, Prt, St, Bits, AggEq, Els, Mp, Keq, Big. No condition. -/
import Derived.Test.YtflfodcemnapeaaGreatZSh
import Derived.DeepKeys
import Derived.MapKept
import Derived.Laws.StructEq
import Derived.ChangeKeysEq
import Derived.WideKeyRuns

namespace Go.Proofs.YtflfodcemnapeaaGreat
set_option linter.unusedSimpArgs false
set_option linter.unusedVariables false
open Go
abbrev Nothing : Nat → Prop := fun _ => False

/-- From a heap with own blocks F to one with own blocks F': nothing else turned, and what is new among the own is new. -/
structure Goes (F : Nat → Prop) (H : Hp) (F' : Nat → Prop) (H' : Hp) : Prop where
 keep : Keep F H H'
 fresh : ∀ c, F' c → F c ∨ H c = none

theorem Goes.refl (F : Nat → Prop) (H : Hp) : Goes F H F H := ⟨Keep.refl F H, fun _ h => .inl h⟩
theorem Goes.trans {F F1 F2 : Nat → Prop} {H H1 H2 : Hp} (a : Goes F H F1 H1) (b : Goes F1 H1 F2 H2) : Goes F H F2 H2 :=
 ⟨a.keep.trans b.keep a.fresh, fun c h => (b.fresh c h).elim (a.fresh c) fun e => .inr (Classical.byContradiction fun h => a.keep.dom c h e)⟩
theorem Goes.of {F : Nat → Prop} {H H' : Hp} (k : Keep F H H') : Goes F H F H' := ⟨k, fun _ h => .inl h⟩
theorem Goes.new {F : Nat → Prop} {H H' : Hp} (k : Keep Nothing H H') (n : ∀ c, F c → H c = none) : Goes Nothing H F H' := ⟨k, fun c h => .inr (n c h)⟩
/-- Fewer are the call's own afterwards. -/
theorem Goes.less {F F1 F2 : Nat → Prop} {H H1 : Hp} (a : Goes F H F1 H1) (s : ∀ c, F2 c → F1 c) : Goes F H F2 H1 := ⟨a.keep, fun c h => a.fresh c (s c h)⟩
/-- More were the call's own before. -/
theorem Goes.more {F F0 F1 : Nat → Prop} {H H1 : Hp} (a : Goes F H F1 H1) (s : ∀ c, F c → F0 c) : Goes F0 H F1 H1 := ⟨a.keep.mono fun c h => .inl (s c h), fun c h => (a.fresh c h).imp_left (s c)⟩
/-- A part of the own blocks is worked on. -/
theorem Goes.part {F F1 G G' : Nat → Prop} {H H' : Hp} (a : Goes G H G' H') (s : ∀ c, G c → F c) (s1 : ∀ c, F1 c → F c ∨ G' c) : Goes F H F1 H' :=
 ⟨a.keep.mono fun c h => .inl (s c h), fun c h => (s1 c h).elim .inl fun h => (a.fresh c h).imp_left (s c)⟩

/-- What holds of some blocks alone. -/
structure Part (A : (Nat → Prop) → Hp → Prop) : Prop where
 frame : ∀ {F : Nat → Prop} {H H' : Hp}, A F H → (∀ c, F c → H' c = H c) → A F H'
 dom : ∀ {F : Nat → Prop} {H : Hp}, A F H → ∀ {c : Nat}, F c → H c ≠ none

/-- Two parts, apart. -/
def Both (A B : (Nat → Prop) → Hp → Prop) : (Nat → Prop) → Hp → Prop := fun F H => ∃ F1 F2, A F1 H ∧ B F2 H ∧ (∀ c, F1 c → ¬ F2 c) ∧ ∀ c, F c ↔ F1 c ∨ F2 c

theorem Both.part {A B : (Nat → Prop) → Hp → Prop} (a : Part A) (b : Part B) : Part (Both A B) :=
 ⟨fun h hf => by
  obtain ⟨F1, F2, h1, h2, hd, hF⟩ := h
  exact ⟨F1, F2, a.frame h1 fun c hc => hf c ((hF c).2 (.inl hc)), b.frame h2 fun c hc => hf c ((hF c).2 (.inr hc)), hd, hF⟩,
 fun h c hc => by
  obtain ⟨F1, F2, h1, h2, hd, hF⟩ := h
  exact ((hF c).1 hc).elim (a.dom h1) (b.dom h2)⟩

/-- One block. -/
def One (b : Nat) (o : Obj) : (Nat → Prop) → Hp → Prop := fun F H => H b = some o ∧ ∀ c, F c ↔ c = b
theorem One.part (b : Nat) (o : Obj) : Part (One b o) :=
 ⟨fun h hf => ⟨by rw [hf b ((h.2 b).2 rfl)]; exact h.1, h.2⟩, fun h c hc => by rw [(h.2 c).1 hc, h.1]; simp⟩
/-- A row. -/
def Row (k : Nat) (p : Option Addr) (n cap : Nat) (xs : List Value) : (Nat → Prop) → Hp → Prop := fun F H => Own H k p n cap xs ∧ ∀ c, F c ↔ blk p c
theorem Row.part (k : Nat) (p : Option Addr) (n cap : Nat) (xs : List Value) : Part (Row k p n cap xs) :=
 ⟨fun h hf => ⟨h.1.frame fun c hc => hf c ((h.2 c).2 hc), h.2⟩, fun h c hc => h.1.dom ((h.2 c).1 hc)⟩

theorem Goes.alloc {H : Hp} {b : Nat} {o : Obj} (hb : H b = none) : Goes Nothing H (fun c => c = b) (upd H b o) :=
 Goes.new (Keep.new hb Nothing) fun c h => by rw [h]; exact hb
theorem Rd.cell {H : Hp} {k n b o i : Nat} {p : Option Addr} {xs : List Value} (h : Rd H k p n xs) (hp : p = some ⟨b, o, none⟩) (hi : i < n * k) : hcell H ⟨b, o + i, none⟩ = xs[i]? := by
 subst hp
 exact h.2.2 i hi

/-- Appending what stands there, letter by letter: the row of those is of no more use. -/
theorem app_lit {P : Program} {sl xt ty e k bytes m : Nat} {e0 : TypeId} {z : Value} {p : Option Addr} {n cap : Nat} {xs : List Value} {c : Array Value} {H : Hp} {K : Value → Hp → Prop}
  (hsl : P.underlying sl = some (.slice e)) (hxt : P.underlying xt = some (.slice e)) (hi : (P.info? e).map (fun i => (i.zero, i.size, i.bytes)) = some (some z, k, bytes)) (hzs : z.cells.size = k)
  (hbytes : bytes ≠ 0) (h : Own H k p n cap xs) (hs : c.size = m * k) (hone : ∀ y ∈ c.toList, one y = true) (hroom : (2 * (n + m) + 512) * bytes ≤ 2 ^ 48)
  (hK : ∀ p' cap' H', Own H' k p' (n + m) cap' (xs ++ c.toList) → Goes (blk p) H (blk p') H' → K (.slice p' (n + m) cap') H') :
  newB (.cells c e0) H fun b H1 => evW P (Builtin.append_ #[sl, xt] ty #[.slice p n cap, .slice (some ⟨b, 0, none⟩) m m]) H1 K := by
 intro b hb
 have g := Goes.alloc (o := .cells c e0) hb
 refine append_at hsl hxt hi hzs hbytes (h.keep g.keep fun _ _ => id) (rd_new hs) hone hroom fun p' cap' H' ho hk hn => hK _ _ _ ho ?_
 exact ((g.more fun _ h => h.elim).less (fun _ h => h) |> fun (g : Goes (blk p) H (fun c => c = b) _) => (⟨g.keep, fun c h => .inl h⟩ : Goes (blk p) H (blk p) _)).trans ⟨hk, hn⟩

/-- make, of single cells: a new row. -/
theorem make_own {P : Program} {sl e bytes : Nat} {z : Value} {n : Int} {H : Hp} {K : Value → Hp → Prop}
  (hsl : P.underlying sl = some (.slice e)) (hi : (P.info? e).map (fun i => (i.zero, i.size, i.bytes)) = some (some z, 1, bytes)) (hz : z.cells = #[z]) (h0 : 0 ≤ n) (h1 : n * bytes ≤ 2 ^ 47) (h2 : n < 2 ^ 62)
  (hK : ∀ p H', Own H' 1 p n.toNat n.toNat (List.replicate n.toNat z) → Goes Nothing H (blk p) H' → K (.slice p n.toNat n.toNat) H') : evW P (Instr.makeSlice sl (.int .i64 n) (.int .i64 n)) H K := by
 refine make_at (z := z) hsl hi h0 h1 h2 (by rw [hz]; rfl) (by decide) fun b cs hb hs hc => ?_
 have g := (Goes.alloc (o := .cells cs e (0, 0)) hb).less (F2 := blk (some ⟨b, 0, none⟩)) fun c h => (blk_some.1 h).symm
 refine hK _ _ ?_ g
 have ho := Own.new (H := H) (b := b) (k := 1) (n := n.toNat) (c := cs) (e := e) (by simpa using hs)
 have e1 : cs.toList = List.replicate n.toNat z := by
  apply List.ext_getElem?
  intro i
  rw [Array.getElem?_toList]
  by_cases hi : i < n.toNat
  ·rw [hc i (by omega), hz, List.getElem?_replicate, if_pos hi, Nat.mod_one]
   rfl
  ·rw [Array.getElem?_eq_none (by omega), List.getElem?_replicate, if_neg hi]
 rw [e1] at ho
 exact ho

/-- clear, of single cells. -/
theorem clear_own {P : Program} {sl e ty bytes cap : Nat} {z : Value} {n : Nat} {p : Option Addr} {xs : List Value} {H : Hp} {K : Value → Hp → Prop}
  (hsl : P.underlying sl = some (.slice e)) (hi : (P.info? e).map (fun i => (i.zero, i.size, i.bytes)) = some (some z, 1, bytes)) (hz : z.cells = #[z]) (h1 : one z = true) (ho : Own H 1 p n cap xs)
  (hK : ∀ H', Own H' 1 p n cap (List.replicate n z) → Goes (blk p) H (blk p) H' → K (.tuple #[]) H') : evW P (Builtin.clear_ #[sl] ty #[.slice p n cap]) H K := by
 obtain ⟨inf, g1, g2, g3, rfl⟩ := info_at hi
 obtain ⟨hl, hle, h3⟩ := ho
 intro w hw
 subst hw
 cases p with
 | none =>
  simp only at h3
  have hn0 : n = 0 := by omega
  subst hn0
  refine ⟨.tuple #[], w, ?_, .refl w, hK _ ⟨rfl, hle, by simpa using h3⟩ (Goes.refl _ _)⟩
  simp [Builtin.clear_, run_underlying hsl, Result.andThen]
 | some a =>
  obtain ⟨hs, c, ee, hb, hsz, hc⟩ := h3
  by_cases hn0 : n = 0
  ·subst hn0
   refine ⟨.tuple #[], w, ?_, .refl w, hK _ ⟨rfl, hle, hs, c, ee, hb, hsz, fun i hi => by omega⟩ (Goes.refl _ _)⟩
   simp [Builtin.clear_, run_underlying hsl, Result.andThen]
  ·obtain ⟨w', c', r', s', e', z', h4, h5⟩ := hset_run (P := P) hs (vs := List.replicate n z) (i := 0) (w := w) hb (by simp; omega) (fun v hv => by rw [(List.mem_replicate.1 hv).2]; exact h1)
   refine ⟨.tuple #[], w', ?_, s', hK _ ⟨by simp, hle, hs, c', ee, by rw [e']; exact upd_same, by omega, fun i hi => ?_⟩ ?_⟩
   ·obtain ⟨m, rfl⟩ : ∃ m, n = m + 1 := ⟨n - 1, by omega⟩
    have hzc : (Builtin.zeroCells z.cells (m + 1)).toList = List.replicate (m + 1) z := by
     rw [hz]
     apply List.ext_getElem?
     intro i
     by_cases hi : i < m + 1
     ·simp [Builtin.zeroCells, List.getElem?_replicate, hi, Nat.mod_one]
     ·simp [Builtin.zeroCells, List.getElem?_replicate, hi]
    simp [Builtin.clear_, run_underlying hsl, Result.andThen, zeroValue, run_typeInfo g1, g2, hzc, r']
   ·have := h4 i (by simp; omega)
    simpa using this
   ·rw [e']
    exact Goes.of (Keep.upd.mono fun c h => .inl (blk_some.2 h.symm))

end Go.Proofs.YtflfodcemnapeaaGreat

namespace Go.Proofs.YtflfodcemnapeaaGreat
set_option linter.unusedSimpArgs false
set_option linter.unusedVariables false
open Go
/-- What holds of some blocks alone. -/
structure Prt where
 holds : (Nat → Prop) → Hp → Prop
 frame : ∀ {F : Nat → Prop} {H H' : Hp}, holds F H → (∀ c, F c → H' c = H c) → holds F H'
 dom : ∀ {F : Nat → Prop} {H : Hp}, holds F H → ∀ {c : Nat}, F c → H c ≠ none

theorem Prt.stays (A : Prt) {F G G' : Nat → Prop} {H H' : Hp} (h : A.holds F H) (a : Goes G H G' H') (d : ∀ c, F c → ¬ G c) : A.holds F H' :=
 A.frame h fun c hc => a.keep.same c (A.dom h hc) (d c hc)
theorem Prt.apart (A : Prt) {F G G' : Nat → Prop} {H H' : Hp} (h : A.holds F H) (a : Goes G H G' H') (d : ∀ c, F c → ¬ G c) : ∀ c, F c → ¬ G' c := fun c hc hg =>
 (a.fresh c hg).elim (d c hc) (A.dom h hc)
def Prt.one (b : Nat) (o : Obj) : Prt := ⟨One b o, fun h => (One.part b o).frame h, fun h _ => (One.part b o).dom h⟩
def Prt.row (k : Nat) (p : Option Addr) (n cap : Nat) (xs : List Value) : Prt := ⟨Row k p n cap xs, fun h => (Row.part k p n cap xs).frame h, fun h _ => (Row.part k p n cap xs).dom h⟩
def Prt.nil : Prt := ⟨fun F _ => ∀ c, ¬ F c, fun h _ => h, fun h _ hc => absurd hc (h _)⟩
def Prt.both (A B : Prt) : Prt :=
 ⟨Both A.holds B.holds, fun h => (Both.part ⟨A.frame, A.dom⟩ ⟨B.frame, B.dom⟩).frame h, fun h _ => (Both.part ⟨A.frame, A.dom⟩ ⟨B.frame, B.dom⟩).dom h⟩
def Prt.ex {α : Type} (A : α → Prt) : Prt := ⟨fun F H => ∃ x, (A x).holds F H, fun ⟨x, h⟩ hf => ⟨x, (A x).frame h hf⟩, fun ⟨x, h⟩ _ hc => (A x).dom h hc⟩
def Prt.list : List Prt → Prt
 | [] => Prt.nil
 | A :: L => A.both (Prt.list L)

/-- Work on one of the parts. -/
theorem Prt.at {L : List Prt} {A : Prt} : ∀ {i : Nat} {F : Nat → Prop} {H : Hp}, (Prt.list L).holds F H → L[i]? = some A →
  ∃ Fi, A.holds Fi H ∧ (∀ c, Fi c → F c) ∧ ∀ (A' : Prt) (Fi' : Nat → Prop) (H' : Hp), A'.holds Fi' H' → Goes Fi H Fi' H' → ∃ F', (Prt.list (L.set i A')).holds F' H' ∧ Goes F H F' H' := by
 induction L with
 | nil => intro i F H _ hi; simp at hi
 | cons B L ih =>
  intro i F H h hi
  obtain ⟨F1, F2, h1, h2, hd, hF⟩ := h
  cases i with
  | zero =>
   simp at hi
   subst hi
   refine ⟨F1, h1, fun c hc => (hF c).2 (.inl hc), fun A' Fi' H' h' g => ?_⟩
   have hd' : ∀ c, F2 c → ¬ F1 c := fun c h2 h1 => hd c h1 h2
   exact ⟨fun c => Fi' c ∨ F2 c, ⟨Fi', F2, h', (Prt.list L).stays h2 g hd', fun c h1 h3 => (Prt.list L).apart h2 g hd' c h3 h1, fun _ => Iff.rfl⟩,
    g.part (fun c h => (hF c).2 (.inl h)) fun c h => h.elim .inr fun h => .inl ((hF c).2 (.inr h))⟩
  | succ i =>
   obtain ⟨Fi, ha, hs, hup⟩ := ih h2 (by simpa using hi)
   refine ⟨Fi, ha, fun c hc => (hF c).2 (.inr (hs c hc)), fun A' Fi' H' h' g => ?_⟩
   obtain ⟨F2', h2', g2⟩ := hup A' Fi' H' h' g
   exact ⟨fun c => F1 c ∨ F2' c, ⟨F1, F2', B.stays h1 g2 hd, h2', B.apart h1 g2 hd, fun _ => Iff.rfl⟩,
    g2.part (fun c h => (hF c).2 (.inr h)) fun c h => h.elim (fun h => .inl ((hF c).2 (.inl h))) .inr⟩

theorem Prt.list_nil (H : Hp) : (Prt.list []).holds Nothing H := fun _ h => h
/-- One part more. -/
theorem Prt.more {L : List Prt} {A : Prt} {F FA : Nat → Prop} {H H' : Hp} (h : (Prt.list L).holds F H) (ha : A.holds FA H') (g : Goes Nothing H FA H') : ∃ F', (Prt.list (A :: L)).holds F' H' ∧ Goes F H F' H' :=
 ⟨fun c => FA c ∨ F c, ⟨FA, F, ha, (Prt.list L).stays h g fun _ _ => id, fun c h1 h2 => (Prt.list L).apart h g (fun _ _ => id) c h2 h1, fun _ => Iff.rfl⟩, g.part (fun _ h => h.elim) fun _ h => h.elim .inr .inl⟩
/-- A part less. -/
theorem Prt.less {L : List Prt} {A : Prt} {F : Nat → Prop} {H : Hp} (h : (Prt.list (A :: L)).holds F H) : ∃ F', (Prt.list L).holds F' H ∧ Goes F H F' H := by
 obtain ⟨F1, F2, h1, h2, hd, hF⟩ := h
 exact ⟨F2, h2, (Goes.refl F H).less fun c h => (hF c).2 (.inr h)⟩
/-- The first two change places. -/
theorem Prt.flip {L : List Prt} {A B : Prt} {F : Nat → Prop} {H : Hp} (h : (Prt.list (A :: B :: L)).holds F H) : (Prt.list (B :: A :: L)).holds F H := by
 obtain ⟨F1, G, h1, ⟨F2, F3, h2, h3, hd2, hG⟩, hd1, hF⟩ := h
 refine ⟨F2, fun c => F1 c ∨ F3 c, h2, ⟨F1, F3, h1, h3, fun c a b => hd1 c a ((hG c).2 (.inr b)), fun _ => Iff.rfl⟩, fun c a b => b.elim (fun b => hd1 c b ((hG c).2 (.inl a))) (hd2 c a), fun c => ?_⟩
 rw [hF c, hG c]
 exact ⟨fun h => h.elim (fun h => .inr (.inl h)) fun h => h.elim .inl fun h => .inr (.inr h), fun h => h.elim (fun h => .inr (.inl h)) fun h => h.elim .inl fun h => .inr (.inr h)⟩
/-- A new block beside what there is. -/
theorem Prt.alloc {L : List Prt} {F : Nat → Prop} {H : Hp} {b : Nat} {o : Obj} (h : (Prt.list L).holds F H) (hb : H b = none) : ∃ F', (Prt.list (Prt.one b o :: L)).holds F' (upd H b o) ∧ Goes F H F' (upd H b o) :=
 Prt.more h (A := Prt.one b o) ⟨upd_same, fun _ => Iff.rfl⟩ (Goes.alloc hb)

theorem Prt.one_cell {L : List Prt} {F : Nat → Prop} {H : Hp} {i b o : Nat} {c : Array Value} {e : TypeId} {f : Nat × Nat} {v : Value} (h : (Prt.list L).holds F H) (hi : L[i]? = some (Prt.one b (.cells c e f))) (hv : c[o]? = some v) :
  hcell H ⟨b, o, none⟩ = some v := by
 obtain ⟨Fi, h1, _, _⟩ := Prt.at h hi
 exact hcell_blk h1.1 hv
theorem Prt.row_rd {L : List Prt} {F : Nat → Prop} {H : Hp} {i k n cap : Nat} {p : Option Addr} {xs : List Value} (h : (Prt.list L).holds F H) (hi : L[i]? = some (Prt.row k p n cap xs)) : Rd H k p n xs := by
 obtain ⟨Fi, h1, _, _⟩ := Prt.at h hi
 exact h1.1.rd
/-- A field is written. -/
theorem Prt.put {L : List Prt} {F : Nat → Prop} {H : Hp} {i b o : Nat} {c : Array Value} {e : TypeId} {v : Value} {K : Hp → Prop} (h : (Prt.list L).holds F H) (hi : L[i]? = some (Prt.one b (.cells c e (0, 0)))) (ho : o < c.size)
  (hK : ∀ F' H', (Prt.list (L.set i (Prt.one b (.cells (c.setIfInBounds o v) e (0, 0))))).holds F' H' → Goes F H F' H' → K H') : st ⟨b, o, none⟩ v H K := by
 obtain ⟨Fi, h1, _, hup⟩ := Prt.at h hi
 obtain ⟨F', h', g'⟩ := hup (Prt.one b (.cells (c.setIfInBounds o v) e (0, 0))) Fi _ ⟨upd_same, h1.2⟩ (Goes.of (Keep.upd.mono fun c h => .inl ((h1.2 c).2 h)))
 exact st_of h1.1 ho (hK F' _ h' g')
/-- An element is written. -/
theorem Prt.poke {L : List Prt} {F : Nat → Prop} {H : Hp} {i k n cap b o j : Nat} {p : Option Addr} {xs : List Value} {v : Value} {K : Hp → Prop} (h : (Prt.list L).holds F H) (hi : L[i]? = some (Prt.row k p n cap xs)) (hp : p = some ⟨b, o, none⟩) (hj : j < n * k)
  (hK : ∀ F' H', (Prt.list (L.set i (Prt.row k p n cap (xs.set j v)))).holds F' H' → Goes F H F' H' → K H') : st ⟨b, o + j, none⟩ v H K := by
 obtain ⟨Fi, h1, _, hup⟩ := Prt.at h hi
 refine h1.1.st hp hj fun H' h' k' => ?_
 obtain ⟨F', h', g'⟩ := hup (Prt.row k p n cap (xs.set j v)) Fi _ ⟨h', h1.2⟩ (Goes.of (k'.mono fun c h => .inl ((h1.2 c).2 h)))
 exact hK F' _ h' g'
/-- A row takes another one's place. -/
theorem Prt.change {L : List Prt} {A A' : Prt} {F FA : Nat → Prop} {H H' : Hp} {i : Nat} (h : (Prt.list L).holds F H) (hi : L[i]? = some A) (ha : A'.holds FA H') (g : Goes Nothing H FA H') : ∃ F', (Prt.list (L.set i A')).holds F' H' ∧ Goes F H F' H' := by
 obtain ⟨Fi, h1, _, hup⟩ := Prt.at h hi
 exact hup A' FA H' ha (g.more fun _ h => h.elim)

theorem Prt.row_holds {H : Hp} {k n cap : Nat} {p : Option Addr} {xs : List Value} (h : Own H k p n cap xs) : (Prt.row k p n cap xs).holds (blk p) H := ⟨h, fun _ => Iff.rfl⟩
theorem Prt.one_holds {H : Hp} {b : Nat} {o : Obj} (h : H b = some o) : (Prt.one b o).holds (fun c => c = b) H := ⟨h, fun _ => Iff.rfl⟩

/-- An element of a row of single cells. -/
theorem idx1 {α : Type} {g : α → Value} {d : α} {H : Hp} {p : Option Addr} {n : Nat} {l : List α} {i : Int} {K : Addr → Prop} (h : Rd H 1 p n (l.map g)) (h0 : 0 ≤ i) (hi : i < (n : Int))
  (hk : ∀ b o, p = some ⟨b, o, none⟩ → hcell H ⟨b, o + i.toNat, none⟩ = some (g (l.getD i.toNat d)) → K ⟨b, o + i.toNat, none⟩) : idxA p n i 1 K := by
 have hl : l.length = n := by have := h.1; simpa using this
 refine idxA_of h h0 hi fun b o hp hc => ?_
 have hc0 := hc 0 (by omega)
 have hlt : i.toNat < l.length := by omega
 simp only [Nat.mul_one, Nat.add_zero, List.getElem?_map, List.getElem?_eq_getElem hlt, Option.map_some] at hc0 ⊢
 refine hk b o hp ?_
 rw [hc0, List.getD_eq_getElem?_getD, List.getElem?_eq_getElem hlt]
 rfl

end Go.Proofs.YtflfodcemnapeaaGreat

namespace Go.Proofs.YtflfodcemnapeaaGreat
set_option linter.unusedSimpArgs false
set_option linter.unusedVariables false
open Go
/-- From H0 on: all that there was is as it was; the own blocks are these parts. -/
def St (H0 : Hp) (L : List Prt) (H : Hp) : Prop := ∃ F, (Prt.list L).holds F H ∧ Goes Nothing H0 F H

section
variable {H0 H H' : Hp} {L : List Prt} {A B : Prt} {i : Nat}
theorem St.start (H : Hp) : St H [] H := ⟨Nothing, Prt.list_nil H, Goes.refl _ _⟩
theorem St.keep (h : St H0 L H) : Keep Nothing H0 H := let ⟨_, _, g⟩ := h; g.keep
theorem St.rd (h : St H0 L H) {k n : Nat} {p : Option Addr} {xs : List Value} (r : Rd H0 k p n xs) : Rd H k p n xs := r.keep h.keep fun _ _ => id
theorem St.arg (h : St H0 L H) {p : Addr} {v : Value} (c : hcell H0 p = some v) : hcell H p = some v := by
 obtain ⟨_, _, g⟩ := h
 have hb : H0 p.block ≠ none := fun e => by simp [hcell, e] at c
 simp only [hcell, g.keep.same _ hb id] at c ⊢
 exact c
/-- One part, and back. -/
theorem St.at (h : St H0 L H) (hi : L[i]? = some A) : ∃ Fi, A.holds Fi H ∧ ∀ (A' : Prt) (Fi' : Nat → Prop) (H' : Hp), A'.holds Fi' H' → Goes Fi H Fi' H' → St H0 (L.set i A') H' := by
 obtain ⟨F, hl, g⟩ := h
 obtain ⟨Fi, ha, _, up⟩ := Prt.at hl hi
 refine ⟨Fi, ha, fun A' Fi' H' h' g' => ?_⟩
 obtain ⟨F', hl', gl⟩ := up A' Fi' H' h' g'
 exact ⟨F', hl', g.trans gl⟩
/-- A part more. -/
theorem St.new (h : St H0 L H) {FA : Nat → Prop} (ha : A.holds FA H') (g : Goes Nothing H FA H') : St H0 (A :: L) H' := by
 obtain ⟨F, hl, g0⟩ := h
 obtain ⟨F', hl', gl⟩ := Prt.more hl ha g
 exact ⟨F', hl', g0.trans gl⟩
theorem St.alloc (h : St H0 L H) {b : Nat} {o : Obj} (hb : H b = none) : St H0 (Prt.one b o :: L) (upd H b o) :=
 h.new (A := Prt.one b o) (Prt.one_holds upd_same) (Goes.alloc hb)
theorem St.row (h : St H0 L H) {k n cap : Nat} {p : Option Addr} {xs : List Value} (ho : Own H' k p n cap xs) (g : Goes Nothing H (blk p) H') : St H0 (Prt.row k p n cap xs :: L) H' :=
 h.new (Prt.row_holds ho) g
theorem St.less (h : St H0 (A :: L) H) : St H0 L H := by
 obtain ⟨F, hl, g⟩ := h
 obtain ⟨F', hl', g'⟩ := Prt.less hl
 exact ⟨F', hl', g.trans g'⟩
theorem St.lesses {M : List Prt} (h : St H0 (M ++ L) H) : St H0 L H := by
 induction M with
 | nil => exact h
 | cons A M ih => exact ih (St.less h)
theorem St.flip (h : St H0 (A :: B :: L) H) : St H0 (B :: A :: L) H := by
 obtain ⟨F, hl, g⟩ := h
 exact ⟨F, Prt.flip hl, g⟩

theorem Prt.list_perm {L M : List Prt} (p : L.Perm M) : ∀ {F : Nat → Prop} {H : Hp}, (Prt.list L).holds F H → (Prt.list M).holds F H := by
 induction p with
 | nil => exact fun h => h
 | cons A _ ih => rintro F H ⟨F1, F2, h1, h2, hd, hF⟩; exact ⟨F1, F2, h1, ih h2, hd, hF⟩
 | swap A B l => exact fun h => Prt.flip h
 | trans _ _ ih1 ih2 => exact fun h => ih2 (ih1 h)
theorem St.perm {M : List Prt} (h : St H0 L H) (p : L.Perm M) : St H0 M H := let ⟨F, hl, g⟩ := h; ⟨F, Prt.list_perm p hl, g⟩

theorem Prt.list_append {L M : List Prt} : ∀ {F : Nat → Prop} {H : Hp}, (Prt.list (Prt.list L :: M)).holds F H ↔ (Prt.list (L ++ M)).holds F H := by
 induction L with
 | nil =>
  intro F H
  constructor
  ·rintro ⟨F1, F2, h1, h2, hd, hF⟩
   refine (Prt.list M).frame (F := F) ?_ fun _ _ => rfl
   have : F = F2 := funext fun c => propext ⟨fun h => ((hF c).1 h).elim (fun h => absurd h (h1 c)) id, fun h => (hF c).2 (.inr h)⟩
   rw [this]; exact h2
  ·intro h
   exact ⟨Nothing, F, fun _ h => h, h, fun _ h => h.elim, fun c => ⟨.inr, fun h => h.elim (fun h => h.elim) id⟩⟩
 | cons A L ih =>
  intro F H
  constructor
  ·rintro ⟨F1, F2, ⟨G1, G2, a1, a2, ad, aF⟩, h2, hd, hF⟩
   refine ⟨G1, fun c => G2 c ∨ F2 c, a1, ih.1 ⟨G2, F2, a2, h2, fun c h => hd c ((aF c).2 (.inr h)), fun _ => Iff.rfl⟩, fun c h k => k.elim (ad c h) (hd c ((aF c).2 (.inl h))), fun c => ?_⟩
   rw [hF c, aF c]
   exact or_assoc
  ·rintro ⟨G1, G2, a1, a2, ad, aF⟩
   obtain ⟨K1, K2, b1, b2, bd, bF⟩ := ih.2 a2
   refine ⟨fun c => G1 c ∨ K1 c, K2, ⟨G1, K1, a1, b1, fun c h k => ad c h ((bF c).2 (.inl k)), fun _ => Iff.rfl⟩, b2, fun c h k => h.elim (fun h => ad c h ((bF c).2 (.inr k))) fun h => bd c h k, fun c => ?_⟩
   rw [aF c, bF c]
   exact or_assoc.symm

theorem Prt.list_set_nil {L : List Prt} {A : Prt} {i : Nat} : ∀ {F : Nat → Prop} {H : Hp}, L[i]? = some A → ((Prt.list L).holds F H ↔ (Prt.list (A :: L.set i .nil)).holds F H) := by
 induction L generalizing i with
 | nil => intro F H h; simp at h
 | cons B L ih =>
  intro F H h
  cases i with
  | zero =>
   simp at h
   subst h
   constructor
   ·rintro ⟨F1, F2, h1, h2, hd, hF⟩
    exact ⟨F1, F2, h1, ⟨Nothing, F2, fun _ h => h, h2, fun _ h => h.elim, fun c => ⟨.inr, fun h => h.elim (fun h => h.elim) id⟩⟩, hd, hF⟩
   ·rintro ⟨F1, F2, h1, ⟨G1, G2, g1, g2, gd, gF⟩, hd, hF⟩
    refine ⟨F1, G2, h1, g2, fun c h k => hd c h ((gF c).2 (.inr k)), fun c => ?_⟩
    rw [hF c, gF c]
    exact ⟨fun h => h.elim .inl fun h => h.elim (fun h => absurd h (g1 c)) .inr, fun h => h.elim .inl fun h => .inr (.inr h)⟩
  | succ i =>
   have h : L[i]? = some A := by simpa using h
   constructor
   ·rintro ⟨F1, F2, h1, h2, hd, hF⟩
    have := (ih h).1 h2
    exact Prt.flip ⟨F1, F2, h1, this, hd, hF⟩
   ·intro h0
    obtain ⟨F1, F2, h1, h2, hd, hF⟩ := Prt.flip h0
    exact ⟨F1, F2, h1, (ih h).2 h2, hd, hF⟩

theorem set_nil_get {L : List Prt} {i : Nat} {A : Prt} (hi : L[i]? = some A) : (L.set i .nil)[i]? = some .nil := by
 have : i < L.length := by
  rcases Nat.lt_or_ge i L.length with h | h
  ·exact h
  ·rw [List.getElem?_eq_none h] at hi; cases hi
 simp [List.getElem?_set, this]

/-- A part is opened: its parts stand in front. -/
theorem St.open (h : St H0 L H) {M : List Prt} (hi : L[i]? = some (Prt.list M)) : St H0 (M ++ L.set i .nil) H := by
 obtain ⟨F, hl, g⟩ := h
 exact ⟨F, Prt.list_append.1 ((Prt.list_set_nil hi).1 hl), g⟩
theorem St.openEx (h : St H0 L H) {α : Type} {M : α → List Prt} (hi : L[i]? = some (Prt.ex fun x => Prt.list (M x))) : ∃ x, St H0 (M x ++ L.set i .nil) H := by
 obtain ⟨F, hl, g⟩ := h
 obtain ⟨F1, F2, ⟨x, h1⟩, h2, hd, hF⟩ := (Prt.list_set_nil hi).1 hl
 exact ⟨x, F, Prt.list_append.1 ⟨F1, F2, h1, h2, hd, hF⟩, g⟩
/-- A place that is free takes a part. -/
theorem St.shutAt (h : St H0 (A :: L) H) (hi : L[i]? = some .nil) : St H0 (L.set i A) H := by
 obtain ⟨F, hl, g⟩ := h
 have hlt : i < L.length := by
  rcases Nat.lt_or_ge i L.length with h | h
  ·exact h
  ·rw [List.getElem?_eq_none h] at hi; cases hi
 have e : (L.set i A).set i .nil = L := by
  rw [List.set_set]
  apply List.ext_getElem?
  intro j
  rw [List.getElem?_set]
  split
  ·rename_i hj; subst hj; rw [hi]
  ·rfl
 exact ⟨F, (Prt.list_set_nil (L := L.set i A) (i := i) (A := A) (by simp [hlt])).2 (by rw [e]; exact hl), g⟩
theorem St.gather {M : List Prt} (h : St H0 (M ++ L) H) : St H0 (Prt.list M :: L) H := let ⟨F, hl, g⟩ := h; ⟨F, Prt.list_append.2 hl, g⟩
theorem St.gatherEx {α : Type} {M : α → List Prt} (x : α) (h : St H0 (M x ++ L) H) : St H0 ((Prt.ex fun x => Prt.list (M x)) :: L) H := by
 obtain ⟨F, hl, g⟩ := h.gather
 obtain ⟨F1, F2, h1, h2, hd, hF⟩ := hl
 exact ⟨F, ⟨F1, F2, ⟨x, h1⟩, h2, hd, hF⟩, g⟩
theorem St.shutEx {α : Type} {M : α → List Prt} {L' : List Prt} (x : α) (h : St H0 (M x ++ L'.set i .nil) H) (hi : L'[i]? = some B) : St H0 (L'.set i (Prt.ex fun x => Prt.list (M x))) H := by
 have := St.shutAt (St.gatherEx x h) (set_nil_get hi)
 rwa [List.set_set] at this

theorem List.set_self {α : Type} {L : List α} {A : α} (hi : L[i]? = some A) : L.set i A = L := by
 apply List.ext_getElem?
 intro j
 rw [List.getElem?_set]
 split
 ·rename_i hj
  subst hj
  have hlt : i < L.length := by
   rcases Nat.lt_or_ge i L.length with h | h
   ·exact h
   ·rw [List.getElem?_eq_none h] at hi; cases hi
  simp [hlt] at hi ⊢
  exact hi.symm
 ·rfl

/-- A run within a run: what it owns comes in front. -/
theorem St.join {H1 : Hp} {M : List Prt} (h : St H0 L H1) (g : St H1 M H) : St H0 (M ++ L) H := by
 obtain ⟨FM, hm, gm⟩ := g
 obtain ⟨F, hl, g'⟩ := h.new (A := Prt.list M) hm gm
 exact ⟨F, Prt.list_append.1 hl, g'⟩

/-! ## Reading and writing -/
theorem St.one (h : St H0 L H) {b : Nat} {o : Obj} (hi : L[i]? = some (Prt.one b o)) : H b = some o := by
 obtain ⟨_, ha, _⟩ := h.at hi
 exact ha.1
theorem St.cell (h : St H0 L H) {b o : Nat} {c : Array Value} {e : TypeId} {f : Nat × Nat} {v : Value} (hi : L[i]? = some (Prt.one b (.cells c e f))) (hv : c[o]? = some v) : hcell H ⟨b, o, none⟩ = some v :=
 hcell_blk (h.one hi) hv
theorem St.row_rd (h : St H0 L H) {k n cap : Nat} {p : Option Addr} {xs : List Value} (hi : L[i]? = some (Prt.row k p n cap xs)) : Rd H k p n xs := by
 obtain ⟨_, ha, _⟩ := h.at hi
 exact ha.1.rd
theorem St.row_own (h : St H0 L H) {k n cap : Nat} {p : Option Addr} {xs : List Value} (hi : L[i]? = some (Prt.row k p n cap xs)) : Own H k p n cap xs := by
 obtain ⟨_, ha, _⟩ := h.at hi
 exact ha.1
/-- A field is written. -/
theorem St.put (h : St H0 L H) {b o : Nat} {c : Array Value} {e : TypeId} {v : Value} {K : Hp → Prop} (hi : L[i]? = some (Prt.one b (.cells c e (0, 0)))) (ho : o < c.size)
  (hK : ∀ H', St H0 (L.set i (Prt.one b (.cells (c.setIfInBounds o v) e (0, 0)))) H' → K H') : st ⟨b, o, none⟩ v H K := by
 obtain ⟨Fi, ha, up⟩ := h.at hi
 exact st_of ha.1 ho (hK _ (up (Prt.one b (.cells (c.setIfInBounds o v) e (0, 0))) Fi _ ⟨upd_same, ha.2⟩ (Goes.of (Keep.upd.mono fun c h => .inl ((ha.2 c).2 h)))))
/-- An element is written. -/
theorem St.poke (h : St H0 L H) {k n cap b o j : Nat} {p : Option Addr} {xs : List Value} {v : Value} {K : Hp → Prop} (hi : L[i]? = some (Prt.row k p n cap xs)) (hp : p = some ⟨b, o, none⟩) (hj : j < n * k)
  (hK : ∀ H', St H0 (L.set i (Prt.row k p n cap (xs.set j v))) H' → K H') : Go.Proofs.YtflfodcemnapeaaGreat.st ⟨b, o + j, none⟩ v H K := by
 obtain ⟨Fi, ha, up⟩ := h.at hi
 exact ha.1.st hp hj fun H' h' k' => hK H' (up (Prt.row k p n cap (xs.set j v)) Fi H' ⟨h', ha.2⟩ (Goes.of (k'.mono fun c h => .inl ((ha.2 c).2 h))))
/-- A row, by what a law of rows made of it. -/
theorem St.row_to (h : St H0 L H) {k n cap k' n' cap' : Nat} {p p' : Option Addr} {xs xs' : List Value} (hi : L[i]? = some (Prt.row k p n cap xs)) (ho : Own H' k' p' n' cap' xs') (g : Goes (blk p) H (blk p') H') :
  St H0 (L.set i (Prt.row k' p' n' cap' xs')) H' := by
 obtain ⟨Fi, ha, up⟩ := h.at hi
 refine up _ (blk p') H' (Prt.row_holds ho) ?_
 have : Fi = blk p := funext fun c => propext (ha.2 c)
 rw [this]; exact g
end
end Go.Proofs.YtflfodcemnapeaaGreat

namespace Go.Proofs.YtflfodcemnapeaaGreat
set_option linter.unusedSimpArgs false
set_option linter.unusedVariables false
set_option linter.unnecessarySimpa false
open Go
theorem shr16 {t k : Nat} (hk : k < 16) : shrI .u16 (t : Int) (k : Int) = ((t / 2 ^ k : Nat) : Int) := by
 unfold shrI
 rw [Int.toNat_natCast, show IntKind.u16.bits = 16 by rfl, Nat.min_eq_left (by omega)]
 rw [Int.fdiv_eq_ediv_of_nonneg _ (by exact_mod_cast Nat.zero_le _)]
 norm_cast

theorem wrap16 {t : Nat} (h : t < 65536) : IntKind.u16.wrap (t : Int) = t := by rw [wrap_u16]; omega

theorem and16_one {t : Nat} (h : t < 65536) : bitOp .and .u16 (t : Int) 1 = ((t % 2 : Nat) : Int) := by
 unfold bitOp
 have e : (BitVec.ofInt 16 (t : Int) &&& BitVec.ofInt 16 1).toNat = t % 2 := by
  rw [BitVec.toNat_and]
  simp only [BitVec.ofInt_natCast, BitVec.toNat_ofNat]
  rw [show (BitVec.ofInt 16 1).toNat = 1 by decide, Nat.mod_eq_of_lt (by omega), Nat.and_one_is_mod]
 show IntKind.u16.wrap ((BitVec.ofInt 16 (t : Int) &&& BitVec.ofInt 16 1).toNat : Int) = _
 rw [e]
 exact wrap16 (by omega)

/-- A bit, as the code reads it. -/
theorem bit16 {t k : Nat} (h : t < 65536) (hk : k < 16) : bitOp .and .u16 (shrI .u16 (t : Int) (k : Int)) 1 = if t.testBit k then 1 else 0 := by
 rw [shr16 hk, and16_one (Nat.lt_of_le_of_lt (Nat.div_le_self _ _) h), Nat.testBit_eq_decide_div_mod_eq]
 have := Nat.mod_two_eq_zero_or_one (t / 2 ^ k)
 rcases this with e | e <;> simp [e]

theorem shl16 {k : Nat} (hk : k < 16) : shlI .u16 1 (k : Int) = ((2 ^ k : Nat) : Int) := by
 unfold shlI
 rw [Int.toNat_natCast, show IntKind.u16.bits = 16 by rfl, Nat.min_eq_left (by omega), Int.one_mul]
 have h2 : 2 ^ k < 65536 := Nat.pow_lt_pow_right (by omega) (show k < 16 by omega)
 have e : ((2 : Int) ^ k) = ((2 ^ k : Nat) : Int) := by norm_cast
 rw [e]
 exact wrap16 h2

theorem or16 {t k : Nat} (h : t < 65536) (hk : k < 16) : bitOp .or .u16 (t : Int) (shlI .u16 1 (k : Int)) = ((t ||| 2 ^ k : Nat) : Int) := by
 have h2 : 2 ^ k < 65536 := Nat.pow_lt_pow_right (by omega) (show k < 16 by omega)
 rw [shl16 hk]
 show IntKind.u16.wrap ((BitVec.ofInt 16 (t : Int) ||| BitVec.ofInt 16 ((2 ^ k : Nat) : Int)).toNat : Int) = _
 have e : (BitVec.ofInt 16 (t : Int) ||| BitVec.ofInt 16 ((2 ^ k : Nat) : Int)).toNat = t ||| 2 ^ k := by
  rw [BitVec.toNat_or]
  simp only [BitVec.ofInt_natCast, BitVec.toNat_ofNat]
  rw [Nat.mod_eq_of_lt (by omega), Nat.mod_eq_of_lt (by omega)]
 rw [e]
 exact wrap16 (Nat.or_lt_two_pow (n := 16) h h2)

/-- A bit struck. -/
def strike (t k : Nat) : Nat := t &&& (65535 - 2 ^ k)
theorem andNot16 {t k : Nat} (h : t < 65536) (hk : k < 16) : bitOp .andNot .u16 (t : Int) (shlI .u16 1 (k : Int)) = ((strike t k : Nat) : Int) := by
 have h2 : 2 ^ k < 65536 := Nat.pow_lt_pow_right (by omega) (show k < 16 by omega)
 rw [shl16 hk]
 show IntKind.u16.wrap ((BitVec.ofInt 16 (t : Int) &&& ~~~ BitVec.ofInt 16 ((2 ^ k : Nat) : Int)).toNat : Int) = _
 have e : (BitVec.ofInt 16 (t : Int) &&& ~~~ BitVec.ofInt 16 ((2 ^ k : Nat) : Int)).toNat = strike t k := by
  rw [BitVec.toNat_and, BitVec.toNat_not]
  simp only [BitVec.ofInt_natCast, BitVec.toNat_ofNat]
  rw [Nat.mod_eq_of_lt (by omega), Nat.mod_eq_of_lt (by omega)]
  rfl
 rw [e]
 exact wrap16 (Nat.lt_of_le_of_lt Nat.and_le_left h)

theorem testBit_strike {t k j : Nat} (h : t < 65536) (hk : k < 16) : (strike t k).testBit j = (t.testBit j && decide (j ≠ k)) := by
 unfold strike
 rw [Nat.testBit_and]
 have h2 : 2 ^ k < 65536 := Nat.pow_lt_pow_right (by omega) (show k < 16 by omega)
 have e : (65535 - 2 ^ k).testBit j = (decide (j < 16) && !(2 ^ k).testBit j) := by
  have := @Nat.testBit_two_pow_sub_succ (2 ^ k) 16 (by omega) j
  rw [show (2 : Nat) ^ 16 - (2 ^ k + 1) = 65535 - 2 ^ k by omega] at this
  exact this
 rw [e, Nat.testBit_two_pow]
 by_cases hj : j < 16
 ·by_cases hjk : k = j
  ·subst hjk; simp
  ·simp [hj, hjk, Ne.symm hjk]
 ·have : t.testBit j = false := Nat.testBit_lt_two_pow (Nat.lt_of_lt_of_le h (by rw [show 65536 = 2 ^ 16 by rfl]; exact Nat.pow_le_pow_right (by omega) (by omega)))
  simp [this]

theorem testBit_or_pow {t k j : Nat} : (t ||| 2 ^ k).testBit j = (t.testBit j || decide (j = k)) := by
 rw [Nat.testBit_or, Nat.testBit_two_pow]
 by_cases h : k = j
 ·subst h; simp
 ·simp [h, Ne.symm h]

/-- How many bits. -/
def pop : Nat → Nat → Nat
 | 0, _ => 0
 | n + 1, t => t % 2 + pop n (t / 2)

end Go.Proofs.YtflfodcemnapeaaGreat

namespace Go.Proofs.YtflfodcemnapeaaGreat
set_option linter.unusedSimpArgs false
set_option linter.unusedVariables false
open Go
theorem aggEq_ok {P : Program} {t : TypeId} {m D D' : Nat} {xs ys : Array Value} {la lb : List Lit} {H : Hp} {K : Value → Prop} (hk : P.keyTypeAt m t = true) (hm : m ≤ 10000) (hg : P.eqGuardType P.depth t = false)
  (fx : (Value.agg xs).formed P t = true) (fy : (Value.agg ys).formed P t = true) (h1 : P.keyLits D t xs.toList = some la) (h2 : P.keyLits D' t ys.toList = some lb) (hK : ∀ r : Bool, (r = true ↔ la = lb) → K (.bool r)) :
  evR P (aggEq .eql t xs ys) H K := by
 have hrun : ∀ w : World, ∃ r : Bool, (aggEq .eql t xs ys).run P w = .ok (.bool r) w ∧ (r = true ↔ la = lb) := fun w => by
  obtain ⟨r, hr, hiff⟩ := run_equalIn_deep (10000 - m) m t hk w D D' (.agg xs) (.agg ys) la lb fx fy h1 h2
  have e : 10000 - m + m = 10000 := by omega
  rw [e] at hr
  have hr' : (Op.equal t (.agg xs) (.agg ys)).run P w = .ok r w := hr
  exact ⟨r, by simp [aggEq, eqGuard, binOp, hg, hr', Result.andThen], hiff⟩
 rcases Classical.em (la = lb) with h | h
 ·exact ⟨.bool true, fun w _ => by
   obtain ⟨r, hr, hiff⟩ := hrun w
   rw [hr, hiff.2 h], hK true ⟨fun _ => h, fun _ => rfl⟩⟩
 ·refine ⟨.bool false, fun w _ => ?_, hK false ⟨fun h0 => absurd h0 (by decide), fun h' => absurd h' h⟩⟩
  obtain ⟨r, hr, hiff⟩ := hrun w
  cases r
  ·exact hr
  ·exact absurd (hiff.1 rfl) h

end Go.Proofs.YtflfodcemnapeaaGreat

namespace Go.Proofs.YtflfodcemnapeaaGreat
set_option linter.unusedSimpArgs false
set_option linter.unusedVariables false
open Go
theorem flatten_single {α : Type} {g : α → Value} : ∀ {l : List α}, (l.map fun x => [g x]).flatten = l.map g
 | [] => rfl
 | x :: l => by simp [flatten_single (l := l)]

theorem flatten_get {k : Nat} : ∀ {xss : List (List Value)}, (∀ xs ∈ xss, xs.length = k) → ∀ {i j : Nat}, i < xss.length → j < k → xss.flatten[i * k + j]? = (xss[i]?.getD [])[j]?
 | [], _, i, j, hi, _ => absurd hi (Nat.not_lt_zero i)
 | xs :: xss, h, 0, j, _, hj => by
  have := h xs (by simp)
  rw [Nat.zero_mul, Nat.zero_add, List.flatten_cons, List.getElem?_append_left (by omega)]
  simp
 | xs :: xss, h, i + 1, j, hi, hj => by
  have h1 := h xs (by simp)
  have e : (i + 1) * k + j - xs.length = i * k + j := by rw [Nat.succ_mul]; omega
  rw [List.flatten_cons, List.getElem?_append_right (by rw [Nat.succ_mul]; omega), e, flatten_get (fun y hy => h y (by simp [hy])) (by simpa using hi) hj]
  simp

theorem flatten_len {k : Nat} : ∀ {xss : List (List Value)}, (∀ xs ∈ xss, xs.length = k) → xss.flatten.length = xss.length * k
 | [], _ => by simp
 | xs :: xss, h => by
  rw [List.flatten_cons, List.length_append, h xs (by simp), flatten_len fun y hy => h y (by simp [hy]), List.length_cons, Nat.succ_mul]
  omega

/-- Elements as cells. -/
def cel {α : Type} (g : α → List Value) (l : List α) : List Value := (l.map g).flatten

section
variable {α : Type} {g : α → List Value} {k : Nat}
theorem cel_len (hg : ∀ x, (g x).length = k) {l : List α} : (cel g l).length = l.length * k := by
 unfold cel
 rw [flatten_len (k := k) fun xs hx => by obtain ⟨x, _, rfl⟩ := List.mem_map.1 hx; exact hg x]
 simp
theorem cel_get (hg : ∀ x, (g x).length = k) {l : List α} {i j : Nat} (d : α) (hi : i < l.length) (hj : j < k) : (cel g l)[i * k + j]? = (g (l.getD i d))[j]? := by
 unfold cel
 rw [flatten_get (k := k) (fun xs hx => by obtain ⟨x, _, rfl⟩ := List.mem_map.1 hx; exact hg x) (by simpa using hi) hj]
 rw [List.getElem?_map, List.getElem?_eq_getElem hi, List.getD_eq_getElem?_getD, List.getElem?_eq_getElem hi]
 rfl
theorem cel_append {l m : List α} : cel g (l ++ m) = cel g l ++ cel g m := by simp [cel]
theorem cel_cons {x : α} {l : List α} : cel g (x :: l) = g x ++ cel g l := rfl
theorem cel_take (hg : ∀ x, (g x).length = k) : ∀ {l : List α} {n : Nat}, (cel g l).take (n * k) = cel g (l.take n)
 | [], n => by simp [cel]
 | x :: l, 0 => by simp [cel]
 | x :: l, n + 1 => by
  have := cel_take hg (l := l) (n := n)
  rw [List.take_succ_cons, cel_cons, cel_cons, ← this, List.take_append]
  rw [List.take_of_length_le (by rw [hg, Nat.succ_mul]; omega), hg, Nat.succ_mul, Nat.add_sub_cancel]
theorem cel_drop (hg : ∀ x, (g x).length = k) : ∀ {l : List α} {n : Nat}, (cel g l).drop (n * k) = cel g (l.drop n)
 | [], n => by simp [cel]
 | x :: l, 0 => by simp
 | x :: l, n + 1 => by
  have := cel_drop hg (l := l) (n := n)
  rw [List.drop_succ_cons, cel_cons, ← this, List.drop_append]
  rw [List.drop_of_length_le (by rw [hg, Nat.succ_mul]; omega), hg, Nat.succ_mul, Nat.add_sub_cancel, List.nil_append]
/-- Reading an element of several cells. -/
theorem idxS {H : Hp} {p : Option Addr} {n : Nat} {l : List α} {i : Int} {K : Addr → Prop} (hg : ∀ x, (g x).length = k) (d : α) (h : Rd H k p n (cel g l)) (hk0 : 0 < k) (h0 : 0 ≤ i) (hi : i < (n : Int))
  (hk : ∀ b o, p = some ⟨b, o, none⟩ → i.toNat < l.length → (∀ j, j < k → hcell H ⟨b, o + i.toNat * k + j, none⟩ = (g (l.getD i.toNat d))[j]?) → K ⟨b, o + i.toNat * k, none⟩) : idxA p n i k K := by
 have hlen := h.1
 rw [cel_len hg] at hlen
 have hl : l.length = n := Nat.eq_of_mul_eq_mul_right hk0 hlen
 have hlt : i.toNat < l.length := by omega
 refine idxA_of h h0 hi fun b o hp hc => hk b o hp hlt fun j hj => ?_
 rw [hc j hj, cel_get hg d hlt hj]
end
theorem Rd.len1 {H : Hp} {p : Option Addr} {n : Nat} {xs : List Value} (h : Rd H 1 p n xs) : xs.length = n := by have := h.1; omega
end Go.Proofs.YtflfodcemnapeaaGreat

namespace Go.Proofs.YtflfodcemnapeaaGreat
set_option linter.unusedSimpArgs false
set_option linter.unusedVariables false
open Go
open Go.MapKept
/-! ## Keys -/
/-- What a map asks of its keys. -/
structure KeyK (P : Program) (kt : TypeId) {κ : Type} (enc : κ → Value) : Prop where
 inj : ∀ {a b : κ}, enc a = enc b → a = b
 check : ∀ (w : World) (em : Bool) (a : κ), (Instr.checkKey em 10000 kt (enc a)).run P w = .ok () w
 find : ∀ (w : World) (x : κ) (es : List MapEntry), (∀ e ∈ es, ∃ a, e.key = enc a) →
  ((Instr.findKey kt (enc x) es).run P w = .ok none w ∧ ∀ e ∈ es, e.key ≠ enc x) ∨ ∃ j e, (Instr.findKey kt (enc x) es).run P w = .ok (some (j, e.val)) w ∧ es[j]? = some e ∧ e.key = enc x
 stays : ∀ (w : World) (a : κ), (Instr.keyThatStays (enc a) (enc a)).run P w = .ok (enc a) w

theorem KeyK.int {P : Program} {kt : TypeId} {k : IntKind} (h : P.underlying kt = some (.int k)) : KeyK P kt (Value.int k) where
 inj := fun e => by cases e; rfl
 check := fun w em a => run_checkKey (d := .int k) (k := .int k a) h rfl em 9999
 find := fun w x es hes => by
  have hk : ∀ e ∈ es, IsKey (.int k) e.key := fun e he => by obtain ⟨a, ha⟩ := hes e he; rw [ha]; rfl
  rcases findNow_spec (d := .int k) (k := .int k x) rfl es 0 hk with ⟨h1, h2⟩ | ⟨j, e, h1, h2, h3⟩
  ·exact .inl ⟨run_findKey h h1, h2⟩
  ·exact .inr ⟨j, e, by rw [Nat.zero_add] at h1; exact run_findKey h h1, h2, h3⟩
 stays := fun w a => run_keyThatStays (d := .int k) (k := .int k a) rfl

section
variable {κ ν : Type} [DecidableEq κ]
def mlook (l : List (κ × ν)) (k : κ) : Option ν := (l.find? fun p => p.1 = k).map (·.2)
def mhas (l : List (κ × ν)) (k : κ) : Bool := l.any fun p => p.1 = k
def mput (l : List (κ × ν)) (k : κ) (x : ν) : List (κ × ν) := if mhas l k then l.map fun p => if p.1 = k then (k, x) else p else l ++ [(k, x)]
def mdel (l : List (κ × ν)) (k : κ) : List (κ × ν) := l.filter fun p => !decide (p.1 = k)
def mnod (l : List (κ × ν)) : Prop := (l.map (·.1)).Nodup

theorem mlook_none {l : List (κ × ν)} {k : κ} : mlook l k = none ↔ ∀ p ∈ l, p.1 ≠ k := by simp [mlook]
theorem mhas_false {l : List (κ × ν)} {k : κ} : mhas l k = false ↔ ∀ p ∈ l, p.1 ≠ k := by simp [mhas]
theorem mhas_look {l : List (κ × ν)} {k : κ} : mhas l k = (mlook l k).isSome := by
 rw [Bool.eq_iff_iff]
 cases h : mlook l k with
 | none => rw [mhas_false.2 (mlook_none.1 h)]; simp
 | some x =>
  simp only [Option.isSome_some, iff_true]
  refine Classical.byContradiction fun hn => ?_
  rw [mlook_none.2 (mhas_false.1 (by simpa using hn))] at h
  cases h
theorem mlook_mem {l : List (κ × ν)} {k : κ} {x : ν} (h : mlook l k = some x) : (k, x) ∈ l := by
 unfold mlook at h
 rw [Option.map_eq_some_iff] at h
 obtain ⟨p, hp, rfl⟩ := h
 have h1 := List.find?_some hp
 have h2 := List.mem_of_find?_eq_some hp
 simp at h1
 rw [← h1]
 exact h2
theorem mlook_of {l : List (κ × ν)} (hn : mnod l) {k : κ} {x : ν} (h : (k, x) ∈ l) : mlook l k = some x := by
 induction l with
 | nil => cases h
 | cons p l ih =>
  unfold mnod at hn
  rw [List.map_cons, List.nodup_cons] at hn
  rcases List.mem_cons.1 h with rfl | h
  ·simp [mlook]
  ·have hne : p.1 ≠ k := fun e => hn.1 (e ▸ List.mem_map.2 ⟨_, h, rfl⟩)
   have := ih hn.2 h
   simp only [mlook, List.find?_cons, hne, decide_false] at this ⊢
   exact this
theorem mput_keys_has {l : List (κ × ν)} {k : κ} {x : ν} (h : mhas l k = true) : (mput l k x).map (·.1) = l.map (·.1) := by
 unfold mput
 rw [if_pos h, List.map_map]
 apply List.map_congr_left
 intro p _
 simp only [Function.comp]
 split
 ·rename_i e; exact e.symm
 ·rfl
theorem mput_nod {l : List (κ × ν)} (hn : mnod l) (k : κ) (x : ν) : mnod (mput l k x) := by
 unfold mnod
 cases h : mhas l k
 ·unfold mput
  rw [h, if_neg (by decide), List.map_append, List.nodup_append]
  refine ⟨hn, by simp, fun a ha b hb => ?_⟩
  obtain ⟨p, hp, rfl⟩ := List.mem_map.1 ha
  simp at hb
  subst hb
  exact mhas_false.1 h p hp
 ·rw [mput_keys_has h]
  exact hn
theorem mdel_nod {l : List (κ × ν)} (hn : mnod l) (k : κ) : mnod (mdel l k) := by
 unfold mnod mdel
 exact (List.filter_sublist.map _).nodup hn
theorem mdel_none {l : List (κ × ν)} {k : κ} (h : mhas l k = false) : mdel l k = l := by
 unfold mdel
 rw [List.filter_eq_self]
 intro q hq
 simp [mhas_false.1 h q hq]

theorem mdel_erase {l : List (κ × ν)} (hn : mnod l) {j : Nat} {p : κ × ν} (h3 : l[j]? = some p) : mdel l p.1 = l.eraseIdx j := by
 unfold mdel
 induction l generalizing j with
 | nil => simp at h3
 | cons q l ih =>
  unfold mnod at hn
  rw [List.map_cons, List.nodup_cons] at hn
  cases j with
  | zero =>
   simp at h3
   subst h3
   rw [List.filter_cons_of_neg (by simp), List.eraseIdx_cons_zero, List.filter_eq_self]
   intro r hr
   have : r.1 ≠ q.1 := fun h => hn.1 (h ▸ List.mem_map.2 ⟨r, hr, rfl⟩)
   simp [this]
  | succ j =>
   have h3 : l[j]? = some p := by simpa using h3
   have : q.1 ≠ p.1 := fun h => hn.1 (h ▸ List.mem_map.2 ⟨p, List.mem_of_getElem? h3, rfl⟩)
   rw [List.filter_cons_of_pos (by simp [this]), List.eraseIdx_cons_succ, ih hn.2 h3]

/-- As cells: keys and what is there. -/
def ments (enc : κ → Value) (f : ν → Value) (l : List (κ × ν)) : List (Value × Value) := l.map fun p => (enc p.1, f p.2)
end
theorem map_eraseIdx' {α β : Type} {f : α → β} : ∀ {l : List α} {j : Nat}, (l.eraseIdx j).map f = (l.map f).eraseIdx j
 | [], _ => rfl
 | _ :: _, 0 => rfl
 | x :: l, j + 1 => by simp [map_eraseIdx' (l := l)]

/-! ## The block -/
def MapAt (es : List (Value × Value)) (o : Obj) : Prop :=
 ∃ (a : Array MapEntry) (clock : Nat), o = .map a clock ∧ a.toList.map (fun e => (e.key, e.val)) = es ∧ (a.toList.map (·.born)).Nodup ∧ ∀ e ∈ a.toList, e.born < clock

def Prt.mp (b : Nat) (es : List (Value × Value)) : Prt :=
  ⟨fun F H => (∃ o, H b = some o ∧ MapAt es o) ∧ ∀ c, F c ↔ c = b,
   fun ⟨⟨o, h, m⟩, hF⟩ hf => ⟨⟨o, by rw [hf b ((hF b).2 rfl)]; exact h, m⟩, hF⟩,
   fun ⟨⟨o, h, m⟩, hF⟩ c hc => by rw [(hF c).1 hc, h]; simp⟩

/-- A map that is gone over: what is left of it, where it is. -/
def IterAt (m : Nat) (es todo : List (Value × Value)) (cur : Option (Value × Value)) (o oi : Obj) : Prop :=
 ∃ (a : Array MapEntry) (clock : Nat) (seen : Array Nat), o = .map a clock ∧ a.toList.map (fun e => (e.key, e.val)) = es ∧ (a.toList.map (·.born)).Nodup ∧ (∀ e ∈ a.toList, e.born < clock) ∧
  oi = .mapIter (some m) clock seen clock ∧ todo = ((a.toList.filter fun e => !seen.contains e.born).map fun e => (e.key, e.val)) ∧
  ∀ k v, cur = some (k, v) → ∃ e ∈ a.toList, seen.back? = some e.born ∧ e.key = k ∧ e.val = v

def Prt.mpit (m it : Nat) (es todo : List (Value × Value)) (cur : Option (Value × Value)) : Prt :=
  ⟨fun F H => (m ≠ it ∧ ∃ o oi, H m = some o ∧ H it = some oi ∧ IterAt m es todo cur o oi) ∧ ∀ c, F c ↔ c = m ∨ c = it,
   fun ⟨⟨hne, o, oi, h, hi, m⟩, hF⟩ hf => ⟨⟨hne, o, oi, by rw [hf _ ((hF _).2 (.inl rfl))]; exact h, by rw [hf _ ((hF _).2 (.inr rfl))]; exact hi, m⟩, hF⟩,
   fun ⟨⟨hne, o, oi, h, hi, m⟩, hF⟩ c hc => by rcases (hF c).1 hc with rfl | rfl <;> simp [h, hi]⟩

section
variable {P : Program} {H0 H : Hp} {L : List Prt} {i b : Nat}
theorem getObj_run {w : World} {b : Nat} {o : Obj} (h : hp w b = some o) (hm : (∃ a c, o = .map a c) ∨ ∃ m s n t, o = .mapIter m s n t) : (getObj b).run P w = .ok o w := by
 have hb : w.heap[b]? = some o := h
 rcases hm with ⟨a, c, rfl⟩ | ⟨m, s, n, t, rfl⟩ <;> simp [getObj, Sem.run, hb]
theorem setObj_run {w : World} {b : Nat} {o o' : Obj} (h : hp w b = some o) (hm : (∃ a c, o = .map a c) ∨ ∃ m s n t, o = .mapIter m s n t) :
  (setObj b o').run P w = .ok () { w with heap := w.heap.setIfInBounds b o' } ∧ hp { w with heap := w.heap.setIfInBounds b o' } = upd (hp w) b o' ∧ Rest w { w with heap := w.heap.setIfInBounds b o' } := by
 have hb : w.heap[b]? = some o := h
 have hlt : b < w.heap.size := (Array.getElem?_eq_some_iff.1 hb).1
 refine ⟨?_, ?_, ⟨rfl, rfl, rfl, by simp, Nat.le_refl _⟩⟩
 ·rcases hm with ⟨a, c, rfl⟩ | ⟨m, s, n, t, rfl⟩ <;> simp [setObj, Sem.run, hb]
 ·funext c
  simp only [hp, upd, Array.getElem?_setIfInBounds]
  by_cases e : c = b
  ·subst e; simp [hlt]
  ·simp [e, Ne.symm e]

theorem map_keys {κ ν : Type} {enc : κ → Value} {f : ν → Value} {l : List (κ × ν)} {a : Array MapEntry} (h : a.toList.map (fun e => (e.key, e.val)) = ments enc f l) : ∀ e ∈ a.toList, ∃ k, e.key = enc k := by
 intro e he
 have : (e.key, e.val) ∈ ments enc f l := h ▸ List.mem_map.2 ⟨e, he, rfl⟩
 obtain ⟨p, _, hp⟩ := List.mem_map.1 this
 simp only [Prod.mk.injEq] at hp
 exact ⟨p.1, hp.1.symm⟩

variable {κ ν : Type} [DecidableEq κ] {enc : κ → Value} {f : ν → Value} {l : List (κ × ν)} {kt et t : TypeId}
/-- What finding comes to. -/
theorem find_run (K : KeyK P kt enc) {a : Array MapEntry} (ha : a.toList.map (fun e => (e.key, e.val)) = ments enc f l) (k : κ) (w : World) :
  (mlook l k = none ∧ (Instr.findKey kt (enc k) a.toList).run P w = .ok none w) ∨
   ∃ (j : Nat) (p : κ × ν) (e : MapEntry), p.1 = k ∧ (Instr.findKey kt (enc k) a.toList).run P w = .ok (some (j, f p.2)) w ∧ l[j]? = some p ∧ a.toList[j]? = some e ∧ e.key = enc k := by
 rcases K.find w k a.toList (map_keys ha) with ⟨h1, h2⟩ | ⟨j, e, h1, h2, h3⟩
 ·refine .inl ⟨mlook_none.2 fun p hp he => ?_, h1⟩
  have : (enc p.1, f p.2) ∈ a.toList.map (fun e => (e.key, e.val)) := ha ▸ List.mem_map.2 ⟨p, hp, rfl⟩
  obtain ⟨e, hm, heq⟩ := List.mem_map.1 this
  simp only [Prod.mk.injEq] at heq
  exact h2 e hm (by rw [heq.1, he])
 ·have hj : (a.toList.map fun e => (e.key, e.val))[j]? = some (e.key, e.val) := by simp [List.getElem?_map, h2]
  rw [ha] at hj
  unfold ments at hj
  rw [List.getElem?_map, Option.map_eq_some_iff] at hj
  obtain ⟨p, hp, hpe⟩ := hj
  simp only [Prod.mk.injEq] at hpe
  refine .inr ⟨j, p, e, K.inj (by rw [hpe.1, h3]), by rw [hpe.2]; exact h1, hp, h2, h3⟩

theorem mlook_at (hn : mnod l) {j : Nat} {p : κ × ν} (h : l[j]? = some p) : mlook l p.1 = some p.2 := mlook_of hn (List.mem_of_getElem? h)

theorem mp_lookup (K : KeyK P kt enc) (ht : P.underlying t = some (.map kt et)) {z : Value} (hz : ((P.info? et).bind (·.zero)) = some z) {o : Obj} (hb : H b = some o) (hm : MapAt (ments enc f l) o) (hn : mnod l) (k : κ) (ok : Bool) {Q : Value → Prop}
  (hQ : Q (if ok then .tuple #[((mlook l k).map f).getD z, .bool (mlook l k).isSome] else ((mlook l k).map f).getD z)) : evR P (Instr.lookup t (.map (some b)) (enc k) ok) H Q := by
 obtain ⟨a, clock, rfl, ha, _, _⟩ := hm
 refine ⟨_, fun w hw => ?_, hQ⟩
 subst hw
 simp only [Instr.lookup, Sem.run_bind, run_underlying ht, Result.andThen_ok, getObj_run hb (.inl ⟨_, _, rfl⟩), Sem.run_pure, K.check]
 rcases find_run K ha k w with ⟨h1, h2⟩ | ⟨j, p, e, rfl, h2, h3, h4, h5⟩
 ·rw [h2]
  have hzr : (zeroValue et).run P w = .ok z w := by
   cases hi : P.info? et with
   | none => rw [hi] at hz; cases hz
   | some inf =>
    rw [hi] at hz
    simp only [Option.bind_some] at hz
    simp [zeroValue, run_typeInfo hi, hz, Result.andThen]
  cases ok <;> simp [h1, hzr, Result.andThen]
 ·rw [h2, mlook_at hn h3]
  cases ok <;> simp [Result.andThen]

 omit [DecidableEq κ] in
theorem mp_len {o : Obj} (ht : P.underlying t = some (.map kt et)) {ty : TypeId} (hb : H b = some o) (hm : MapAt (ments enc f l) o) {Q : Value → Prop} (hQ : Q (.int .i64 l.length)) : evR P (Builtin.len_ #[t] ty #[.map (some b)]) H Q := by
  obtain ⟨a, clock, rfl, ha, _, _⟩ := hm
  have hl : a.size = l.length := by
    have := congrArg List.length ha
    simpa [ments] using this
  refine ⟨_, fun w hw => ?_, hQ⟩
  subst hw
  simp [Builtin.len_, run_underlying ht, Result.andThen, getObj_run hb (.inl ⟨_, _, rfl⟩), hl, goInt]

theorem mp_update (K : KeyK P kt enc) (ht : P.underlying t = some (.map kt et)) {o : Obj} (hb : H b = some o) (hm : MapAt (ments enc f l) o) (hn : mnod l) (k : κ) (x : ν) {Q : Unit → Hp → Prop}
  (hQ : ∀ o', MapAt (ments enc f (mput l k x)) o' → Q () (upd H b o')) : evW P (Instr.mapUpdate t (.map (some b)) (enc k) (f x)) H Q := by
 obtain ⟨a, clock, rfl, ha, hnd, hlt⟩ := hm
 intro w hw
 subst hw
 simp only [Instr.mapUpdate, Sem.run_bind, run_underlying ht, Result.andThen_ok, getObj_run hb (.inl ⟨_, _, rfl⟩), K.check]
 rcases find_run K ha k w with ⟨h1, h2⟩ | ⟨j, p, e, rfl, h2, h3, h4, h5⟩
 ·rw [h2]
  obtain ⟨r1, r2, r3⟩ := setObj_run (P := P) (o' := .map (a.push { key := enc k, val := f x, born := clock }) (clock + 1)) hb (.inl ⟨_, _, rfl⟩)
  simp only [Result.andThen_ok, r1]
  refine ⟨(), _, rfl, r3, ?_⟩
  rw [r2]
  refine hQ _ ⟨_, _, rfl, ?_, ?_, ?_⟩
  ·have : mhas l k = false := by rw [mhas_look, h1]; rfl
   simp [mput, this, ments, ha]
  ·rw [Array.toList_push, List.map_append, List.nodup_append]
   refine ⟨hnd, by simp, fun y hy z hz => ?_⟩
   obtain ⟨e, he, rfl⟩ := List.mem_map.1 hy
   simp at hz
   subst hz
   exact Nat.ne_of_lt (hlt e he)
  ·intro e he
   rw [Array.toList_push, List.mem_append] at he
   rcases he with he | he
   ·have := hlt e he; omega
   ·simp at he; subst he; simp
 ·rw [h2]
  have hkey : ((a[j]?).map (·.key)).getD (enc p.1) = enc p.1 := by
   rw [← Array.getElem?_toList, h4]; simp [h5]
  obtain ⟨r1, r2, r3⟩ := setObj_run (P := P) (o' := .map (a.modify j fun e => { e with key := enc p.1, val := f x }) clock) hb (.inl ⟨_, _, rfl⟩)
  simp only [Sem.run_bind, Result.andThen_ok, hkey, K.stays, r1]
  refine ⟨(), _, rfl, r3, ?_⟩
  rw [r2]
  have hlj : j < a.size := by
   rw [← Array.length_toList]
   rcases Nat.lt_or_ge j a.toList.length with h | h
   ·exact h
   ·rw [List.getElem?_eq_none h] at h4; cases h4
  have hmod : (a.modify j fun e => { e with key := enc p.1, val := f x }).toList = a.toList.modify j fun e => { e with key := enc p.1, val := f x } := by simp
  refine hQ _ ⟨_, _, rfl, ?_, ?_, ?_⟩
  ·have hhas : mhas l p.1 = true := by rw [mhas_look, mlook_at hn h3]; rfl
   rw [hmod]
   unfold mput
   rw [if_pos hhas]
   apply List.ext_getElem?
   intro y
   have hay : (a.toList.map fun e => (e.key, e.val))[y]? = (ments enc f l)[y]? := by rw [ha]
   simp only [ments, List.getElem?_map, List.getElem?_modify] at hay ⊢
   by_cases hy : j = y
   ·subst hy
    simp [h3, h4]
   ·simp only [if_neg hy]
    cases hl : l[y]? with
    | none => rw [hl] at hay; simpa using hay
    | some q =>
     rw [hl] at hay
     have hne : q.1 ≠ p.1 := fun heq => hy (by
      have hi1 : (l.map (·.1))[j]? = some p.1 := by simp [List.getElem?_map, h3]
      have hi2 : (l.map (·.1))[y]? = some p.1 := by simp [List.getElem?_map, hl, heq]
      have hj' : j < (l.map (·.1)).length := by
       rcases Nat.lt_or_ge j (l.map (·.1)).length with h | h
       ·exact h
       ·rw [List.getElem?_eq_none h] at hi1; cases hi1
      exact (List.getElem?_inj hj' hn).1 (by rw [hi1, hi2]))
     simpa [hne] using hay
  ·rw [hmod]
   have : (a.toList.modify j fun e => { e with key := enc p.1, val := f x }).map (·.born) = a.toList.map (·.born) := by
    apply List.ext_getElem?
    intro y
    simp only [List.getElem?_map, List.getElem?_modify]
    split
    ·cases a.toList[y]? <;> rfl
    ·cases a.toList[y]? <;> rfl
   rw [this]
   exact hnd
  ·rw [hmod]
   intro e' he'
   obtain ⟨y, hy, rfl⟩ := List.mem_iff_getElem.1 he'
   rw [List.length_modify] at hy
   simp only [List.getElem_modify]
   have := hlt (a.toList[y]) (List.getElem_mem hy)
   split
   ·exact this
   ·exact this

theorem mp_delete (K : KeyK P kt enc) (ht : P.underlying t = some (.map kt et)) {ty : TypeId} {o : Obj} (hb : H b = some o) (hm : MapAt (ments enc f l) o) (hn : mnod l) (k : κ) {Q : Value → Hp → Prop}
  (hQ : ∀ o', MapAt (ments enc f (mdel l k)) o' → Q (.tuple #[]) (upd H b o')) : evW P (Builtin.delete_ #[t, kt] ty #[.map (some b), enc k]) H Q := by
 obtain ⟨a, clock, rfl, ha, hnd, hlt⟩ := hm
 intro w hw
 subst hw
 rcases find_run K ha k w with ⟨h1, h2⟩ | ⟨j, p, e, rfl, h2, h3, h4, h5⟩
 ·obtain ⟨r1, r2, r3⟩ := setObj_run (P := P) (o' := .map a clock) hb (.inl ⟨_, _, rfl⟩)
  refine ⟨.tuple #[], _, ?_, r3, ?_⟩
  ·simp only [Builtin.delete_, List.getElem?_toArray, List.getElem?_cons_zero, List.getElem?_cons_succ, Sem.run_bind, run_underlying ht, Result.andThen_ok, getObj_run hb (.inl ⟨_, _, rfl⟩), K.check, h2, r1, Sem.run_pure]
  ·rw [r2]
   exact hQ _ ⟨_, _, rfl, by rw [mdel_none (by rw [mhas_look, h1]; rfl)]; exact ha, hnd, hlt⟩
 ·obtain ⟨r1, r2, r3⟩ := setObj_run (P := P) (o' := .map (a.eraseIdxIfInBounds j) clock) hb (.inl ⟨_, _, rfl⟩)
  refine ⟨.tuple #[], _, ?_, r3, ?_⟩
  ·simp only [Builtin.delete_, List.getElem?_toArray, List.getElem?_cons_zero, List.getElem?_cons_succ, Sem.run_bind, run_underlying ht, Result.andThen_ok, getObj_run hb (.inl ⟨_, _, rfl⟩), K.check, h2, r1, Sem.run_pure]
  ·rw [r2]
   have he : (a.eraseIdxIfInBounds j).toList = a.toList.eraseIdx j := by simp
   have hdel := mdel_erase hn h3
   refine hQ _ ⟨_, _, rfl, ?_, ?_, ?_⟩
   ·rw [he, hdel]
    unfold ments at ha ⊢
    rw [map_eraseIdx', ha, map_eraseIdx']
   ·rw [he]
    exact ((List.eraseIdx_sublist _ _).map _).nodup hnd
   ·rw [he]
    exact fun e' he' => hlt e' (List.mem_of_mem_eraseIdx he')

/-! ## The same, of a run's parts -/
theorem St.mpAt (h : St H0 L H) {es : List (Value × Value)} (hi : L[i]? = some (Prt.mp b es)) : ∃ o, H b = some o ∧ MapAt es o := by
 obtain ⟨_, ha, _⟩ := h.at hi
 exact ha.1
theorem St.mpSet (h : St H0 L H) {es es' : List (Value × Value)} (hi : L[i]? = some (Prt.mp b es)) {o' : Obj} (hm : MapAt es' o') : St H0 (L.set i (Prt.mp b es')) (upd H b o') := by
 obtain ⟨Fi, ha, up⟩ := h.at hi
 exact up (Prt.mp b es') Fi _ ⟨⟨o', upd_same, hm⟩, ha.2⟩ (Goes.of (Keep.upd.mono fun c h => .inl ((ha.2 c).2 h)))
theorem St.mpNew (h : St H0 L H) (hb : H b = none) : St H0 (Prt.mp b [] :: L) (upd H b (.map #[] 0)) :=
 h.new (A := Prt.mp b []) (FA := fun c => c = b) ⟨⟨_, upd_same, #[], 0, rfl, rfl, by simp, fun e he => by simp at he⟩, fun _ => Iff.rfl⟩ (Goes.alloc hb)

theorem St.look (h : St H0 L H) (hi : L[i]? = some (Prt.mp b (ments enc f l))) (K : KeyK P kt enc) (ht : P.underlying t = some (.map kt et)) {z : Value} (hz : ((P.info? et).bind (·.zero)) = some z) (hn : mnod l) (k : κ) (ok : Bool) {Q : Value → Prop}
  (hQ : Q (if ok then .tuple #[((mlook l k).map f).getD z, .bool (mlook l k).isSome] else ((mlook l k).map f).getD z)) : evR P (Instr.lookup t (.map (some b)) (enc k) ok) H Q := by
 obtain ⟨o, hb, hm⟩ := h.mpAt hi
 exact mp_lookup K ht hz hb hm hn k ok hQ
 omit [DecidableEq κ] in
theorem St.mlen (h : St H0 L H) (hi : L[i]? = some (Prt.mp b (ments enc f l))) (ht : P.underlying t = some (.map kt et)) {ty : TypeId} {Q : Value → Prop} (hQ : Q (.int .i64 l.length)) : evR P (Builtin.len_ #[t] ty #[.map (some b)]) H Q := by
  obtain ⟨o, hb, hm⟩ := h.mpAt hi
  exact mp_len ht hb hm hQ
theorem St.mupd (h : St H0 L H) (hi : L[i]? = some (Prt.mp b (ments enc f l))) (K : KeyK P kt enc) (ht : P.underlying t = some (.map kt et)) (hn : mnod l) (k : κ) (x : ν) {v : Value} (hv : v = f x) {Q : Unit → Hp → Prop}
  (hQ : ∀ H', St H0 (L.set i (Prt.mp b (ments enc f (mput l k x)))) H' → Q () H') : evW P (Instr.mapUpdate t (.map (some b)) (enc k) v) H Q := by
 subst hv
 obtain ⟨o, hb, hm⟩ := h.mpAt hi
 exact mp_update K ht hb hm hn k x fun o' hm' => hQ _ (h.mpSet hi hm')
theorem St.mdelete (h : St H0 L H) (hi : L[i]? = some (Prt.mp b (ments enc f l))) (K : KeyK P kt enc) (ht : P.underlying t = some (.map kt et)) {ty : TypeId} (hn : mnod l) (k : κ) {Q : Value → Hp → Prop}
  (hQ : ∀ H', St H0 (L.set i (Prt.mp b (ments enc f (mdel l k)))) H' → Q (.tuple #[]) H') : evW P (Builtin.delete_ #[t, kt] ty #[.map (some b), enc k]) H Q := by
 obtain ⟨o, hb, hm⟩ := h.mpAt hi
 exact mp_delete K ht hb hm hn k fun o' hm' => hQ _ (h.mpSet hi hm')

/-- Going over a map begins. -/
theorem St.mrange (h : St H0 L H) {es : List (Value × Value)} (hi : L[i]? = some (Prt.mp b es)) (ht : P.underlying t = some (.map kt et)) {Q : Value → Hp → Prop}
  (hQ : ∀ it H', St H0 (L.set i (Prt.mpit b it es es none)) H' → Q (.pointer (some ⟨it, 0, none⟩)) H') : evW P (Instr.range t (.map (some b))) H Q := by
 obtain ⟨Fi, ⟨⟨o, hb, a, clock, rfl, ha, hnd, hlt⟩, hF⟩, up⟩ := h.at hi
 intro w hw
 subst hw
 refine ⟨.pointer (some ⟨w.heap.size, 0, none⟩), { w with heap := w.heap.push (.mapIter (some b) clock #[] clock) }, ?_, rest_push _ _, ?_⟩
 rotate_left
 ·rw [hp_push]
  have hne : b ≠ w.heap.size := fun e => by
   rw [e] at hb
   simp [hp] at hb
  refine hQ w.heap.size _ (up (Prt.mpit b w.heap.size es es none) (fun c => c = b ∨ c = w.heap.size) _ ⟨⟨hne, _, _, by rw [upd_other hne]; exact hb, upd_same, a, clock, #[], rfl, ha, hnd, hlt, rfl, ?_, fun _ _ h => by cases h⟩, fun _ => Iff.rfl⟩ ⟨Keep.new (by simp [hp]) _, fun c hc => hc.elim (fun e => .inl ((hF c).2 e)) fun e => .inr (by rw [e]; simp [hp])⟩)
  rw [← ha]
  congr 1
  symm
  rw [List.filter_eq_self]
  intro e _
  simp
 ·simp only [Instr.range, Sem.run_bind, run_underlying ht, Result.andThen_ok, getObj_run hb (.inl ⟨_, _, rfl⟩), Sem.run_pure, run_newObj]

/-- A step of it. -/
theorem St.mnext (h : St H0 L H) {it : Nat} {es todo : List (Value × Value)} {cur : Option (Value × Value)} (hi : L[i]? = some (Prt.mpit b it es todo cur)) {ty : TypeId} {Q : Value → Hp → Prop}
  (hover : todo = [] → Q (.tuple #[.bool false]) H)
  (hmore : ∀ k v A B, todo = A ++ (k, v) :: B → ∀ H', St H0 (L.set i (Prt.mpit b it es (A ++ B) (some (k, v)))) H' → Q (.tuple #[.bool true, k, v]) H') : evW P (Instr.next (.pointer (some ⟨it, 0, none⟩)) false ty) H Q := by
 obtain ⟨Fi, ⟨⟨hne, o, oi, hb, hib, a, clock, seen, rfl, ha, hnd, hlt, rfl, htodo, hcur⟩, hF⟩, up⟩ := h.at hi
 intro w hw
 subst hw
 have hguard : (!seen.isEmpty && !a.isEmpty && a.all (fun e => decide (e.born ≥ clock))) = false := by
  cases he : a.isEmpty
  ·have : a.all (fun e => decide (e.born ≥ clock)) = false := by
    rw [← Bool.not_eq_true, Array.all_eq_true]
    intro hall
    have h0 : 0 < a.size := by
     rcases Nat.eq_zero_or_pos a.size with h | h
     ·rw [Array.isEmpty_iff_size_eq_zero.2 h] at he; cases he
     ·exact h
    have h1 := hall 0 h0
    have h2 := hlt a[0] (by simp)
    simp at h1
    omega
   simp [this]
  ·simp
 have hold : (a.filter fun e => !seen.contains e.born).filter (fun e => decide (e.born < clock)) = a.filter fun e => !seen.contains e.born := by
  rw [Array.filter_eq_self]
  intro e he
  have := hlt e (by simpa using (Array.mem_filter.1 he).1)
  simpa using this
 have hnew : (a.filter fun e => !seen.contains e.born).filter (fun e => decide (e.born ≥ clock)) = #[] := by
  rw [Array.filter_eq_empty_iff]
  intro e he
  have := hlt e (by simpa using (Array.mem_filter.1 he).1)
  simpa using this
 have hleft : (a.filter fun e => !seen.contains e.born).toList = a.toList.filter fun e => !seen.contains e.born := by simp
 generalize hlf : (a.filter fun e => !seen.contains e.born) = left at *
 by_cases hemp : left = #[]
 ·have h0 : todo = [] := by rw [htodo, ← hleft, hemp]; rfl
  refine ⟨.tuple #[.bool false], w, ?_, .refl w, hover h0⟩
  simp only [Instr.next, Sem.run_bind, getObj_run hib (.inr ⟨_, _, _, _, rfl⟩), Result.andThen_ok, getObj_run hb (.inl ⟨_, _, rfl⟩), hguard, Bool.false_eq_true, if_false, Sem.run_pure, hlf, hold, hnew, run_choose]
  simp [hemp, Question.forced, Result.andThen]
 ·have hne0 : left.isEmpty = false := by
   cases he : left.isEmpty
   ·rfl
   ·exact absurd (by simpa using he) hemp
  have hpos : 0 < left.size := by
   rcases Nat.eq_zero_or_pos left.size with h | h
   ·exact absurd (Array.size_eq_zero_iff.1 h) hemp
   ·exact h
  have hpick : ∃ (n : Nat) (w1 : World), n < left.size ∧ (choose (.mapNext left.size)).run P w = .ok n w1 ∧ hp w1 = hp w ∧ Rest w w1 := by
   rw [run_choose]
   by_cases hf : (Question.mapNext left.size).forced = true
   ·exact ⟨0, w, hpos, by rw [if_pos hf], rfl, .refl w⟩
   ·exact ⟨(w.tape w.drawn (.mapNext left.size)) % left.size, { w with drawn := w.drawn + 1 }, Nat.mod_lt _ hpos, by rw [if_neg hf]; rfl, rfl, ⟨rfl, rfl, rfl, Nat.le_refl _, Nat.le_succ _⟩⟩
  obtain ⟨n, w1, hn, hch, hw1, hr1⟩ := hpick
  have hib1 : hp w1 it = some (.mapIter (some b) clock seen clock) := by rw [hw1]; exact hib
  obtain ⟨r1, r2, r3⟩ := setObj_run (P := P) (o' := .mapIter (some b) clock (seen.push left[n].born) clock) hib1 (.inr ⟨_, _, _, _, rfl⟩)
  refine ⟨.tuple #[.bool true, left[n].key, left[n].val], _, ?_, hr1.trans r3, ?_⟩
  ·simp only [Instr.next, Sem.run_bind, getObj_run hib (.inr ⟨_, _, _, _, rfl⟩), Result.andThen_ok, getObj_run hb (.inl ⟨_, _, rfl⟩), hguard, Bool.false_eq_true, if_false, Sem.run_pure, hlf, hold, hnew, hne0, Array.append_empty, Array.empty_append, Array.size_map, hch, Array.getElem?_map, Array.getElem?_eq_getElem hn, Option.map_some, r1]
  ·rw [r2, hw1]
   have hmem : left[n] ∈ a.toList := by
    have : left[n] ∈ left.toList := by rw [← Array.getElem_toList hn]; exact List.getElem_mem _
    rw [hleft] at this
    exact (List.mem_filter.1 this).1
   have hnl : n < left.toList.length := by simpa using hn
   have hsplit : left.toList = left.toList.take n ++ left[n] :: left.toList.drop (n + 1) := by
    rw [← Array.getElem_toList hn, ← List.drop_eq_getElem_cons hnl, List.take_append_drop]
   refine hmore _ _ ((left.toList.take n).map fun e => (e.key, e.val)) ((left.toList.drop (n + 1)).map fun e => (e.key, e.val)) ?_ _ ?_
   ·rw [htodo, ← hleft]
    conv => lhs; rw [hsplit]
    simp
   ·refine up (Prt.mpit b it es _ _) Fi _ ⟨⟨hne, _, _, by rw [upd_other hne]; exact hb, upd_same, a, clock, seen.push left[n].born, rfl, ha, hnd, hlt, rfl, ?_, fun k v h => by cases h; exact ⟨left[n], hmem, by simp, rfl, rfl⟩⟩, hF⟩ (Goes.of (Keep.upd.mono fun c h => .inl ((hF c).2 (.inr h))))
    have hnd2 : (left.toList.map (·.born)).Nodup := by
     rw [hleft]
     exact (List.filter_sublist.map _).nodup hnd
    rw [← List.map_append]
    congr 1
    have h1 : a.toList.filter (fun e => !(seen.push left[n].born).contains e.born) = (a.toList.filter fun e => !seen.contains e.born).filter fun e => !decide (e.born = left[n].born) := by
     rw [List.filter_filter]
     apply List.filter_congr
     intro e _
     rw [Array.contains_push]
     by_cases hc : e.born = left[n].born
     ·simp [hc]
     ·simp [hc]
    rw [h1, ← hleft]
    conv => rhs; rw [hsplit]
    rw [hsplit, List.map_append, List.map_cons, List.nodup_append, List.nodup_cons] at hnd2
    obtain ⟨d1, ⟨d2, d3⟩, d4⟩ := hnd2
    rw [List.filter_append, List.filter_cons_of_neg (by simp)]
    congr 1
    ·symm
     rw [List.filter_eq_self]
     intro e he
     have := d4 e.born (List.mem_map.2 ⟨e, he, rfl⟩) left[n].born (by simp)
     simpa using this
    ·symm
     rw [List.filter_eq_self]
     intro e he
     have : e.born ≠ left[n].born := fun h => d2 (h ▸ List.mem_map.2 ⟨e, he, rfl⟩)
     simpa using this

/-- Where it is, read again. -/
theorem St.mentry (h : St H0 L H) {it : Nat} {es todo : List (Value × Value)} {k v : Value} (hi : L[i]? = some (Prt.mpit b it es todo (some (k, v)))) {Q : Value → Hp → Prop} (hQ : Q (.tuple #[k, v]) H) : evW P (Instr.entry (.pointer (some ⟨it, 0, none⟩))) H Q := by
 obtain ⟨Fi, ⟨⟨hne, o, oi, hb, hib, a, clock, seen, rfl, ha, hnd, hlt, rfl, htodo, hcur⟩, hF⟩, up⟩ := h.at hi
 obtain ⟨e, he, hs, rfl, rfl⟩ := hcur k v rfl
 intro w hw
 subst hw
 have hfind : a.find? (fun x => x.born == e.born) = some e := by
  rw [← Array.find?_toList]
  cases hf : a.toList.find? (fun x => x.born == e.born) with
  | none =>
   rw [List.find?_eq_none] at hf
   exact absurd (hf e he) (by simp)
  | some x =>
   have h1 := List.find?_some hf
   have h2 := List.mem_of_find?_eq_some hf
   simp at h1
   obtain ⟨y, hy, rfl⟩ := List.mem_iff_getElem.1 h2
   obtain ⟨z, hz, rfl⟩ := List.mem_iff_getElem.1 he
   have : y = z := (List.getElem_inj (h₀ := by simpa using hy) (h₁ := by simpa using hz) hnd).1 (by simpa using h1)
   subst this
   rfl
 refine ⟨.tuple #[e.key, e.val], w, ?_, .refl w, hQ⟩
 simp only [Instr.entry, Sem.run_bind, getObj_run hib (.inr ⟨_, _, _, _, rfl⟩), Result.andThen_ok, hs, getObj_run hb (.inl ⟨_, _, rfl⟩), bne_self_eq_false, Bool.false_eq_true, if_false, hfind, Sem.run_pure]

/-- Going over it ends. -/
theorem St.mleave (h : St H0 L H) {it : Nat} {es todo : List (Value × Value)} {cur : Option (Value × Value)} (hi : L[i]? = some (Prt.mpit b it es todo cur)) : St H0 (L.set i (Prt.mp b es)) H := by
 obtain ⟨Fi, ⟨⟨hne, o, oi, hb, hib, a, clock, seen, rfl, ha, hnd, hlt, rfl, htodo, hcur⟩, hF⟩, up⟩ := h.at hi
 exact up (Prt.mp b es) (fun c => c = b) H ⟨⟨_, hb, a, clock, rfl, ha, hnd, hlt⟩, fun _ => Iff.rfl⟩ ((Goes.refl Fi H).less fun c e => (hF c).2 (.inl e))
end
end Go.Proofs.YtflfodcemnapeaaGreat

namespace Go.Proofs.YtflfodcemnapeaaGreat
set_option linter.unusedSimpArgs false
set_option linter.unusedVariables false
open Go
open Go.MapKept
/-- The kinds of a struct's fields, all of them integers, each a cell. -/
def intFs (P : Program) : Nat → List Field → Option (List IntKind)
 | _, [] => some []
 | i, f :: fs => match P.underlying f.type with
  | some (.int k) => cond (f.name != "_" && Nat.beq f.offset i) ((intFs P (i + 1) fs).map (k :: ·)) none
  | _ => none
def intsOf (P : Program) (t : TypeId) : Option (List IntKind) := match P.underlying t with
 | some (.struct fs) => cond (P.stoodInHeld t) none (intFs P 0 fs.toList)
 | _ => none

/-- As a value. -/
def icells (ks : List IntKind) (ns : List Int) : List Value := List.zipWith Value.int ks ns
def ival (ks : List IntKind) (ns : List Int) : Value := .agg ⟨icells ks ns⟩

theorem intFs_cons {P : Program} {i : Nat} {f : Field} {fs : List Field} {ks : List IntKind} (h : intFs P i (f :: fs) = some ks) :
  ∃ k ks', ks = k :: ks' ∧ P.underlying f.type = some (.int k) ∧ f.name ≠ "_" ∧ f.offset = i ∧ intFs P (i + 1) fs = some ks' := by
 unfold intFs at h
 split at h
 ·rename_i k hu
  cases hc : (f.name != "_" && Nat.beq f.offset i)
  ·rw [hc] at h; cases h
  ·rw [hc, cond_true, Option.map_eq_some_iff] at h
   obtain ⟨ks', h1, rfl⟩ := h
   simp only [Bool.and_eq_true, bne_iff_ne, ne_eq] at hc
   exact ⟨k, ks', rfl, hu, hc.1, Nat.eq_of_beq_eq_true hc.2, h1⟩
 ·cases h

theorem plainKey_int {P : Program} {t : TypeId} {k : IntKind} (h : P.underlying t = some (.int k)) : P.plainKey t = true := by
 unfold Program.plainKey
 rw [h]

theorem eqFields_ints {P : Program} {w : World} {d : Nat} {xs ys : Array Value} : ∀ {fs : List Field} {i : Nat} {ks : List IntKind} {ns ms : List Int}, intFs P i fs = some ks → ns.length = ks.length → ms.length = ks.length →
  (∀ j, j < ks.length → xs[i + j]? = (icells ks ns)[j]?) → (∀ j, j < ks.length → ys[i + j]? = (icells ks ms)[j]?) → (Op.eqFields (d + 1) xs ys fs).run P w = .ok (decide (ns = ms)) w
 | [], i, ks, ns, ms, h, h1, h2, hx, hy => by
  cases h
  obtain rfl : ns = [] := List.length_eq_zero_iff.1 h1
  obtain rfl : ms = [] := List.length_eq_zero_iff.1 h2
  rfl
 | f :: fs, i, ks, ns, ms, h, h1, h2, hx, hy => by
  obtain ⟨k, ks', rfl, hu, hn, ho, h'⟩ := intFs_cons h
  obtain ⟨n, ns, rfl⟩ : ∃ n ns', ns = n :: ns' := by cases ns with | nil => simp at h1 | cons n ns => exact ⟨n, ns, rfl⟩
  obtain ⟨m, ms, rfl⟩ : ∃ n ns', ms = n :: ns' := by cases ms with | nil => simp at h2 | cons n ns => exact ⟨n, ns, rfl⟩
  have hx0 : xs[f.offset]? = some (.int k n) := by have := hx 0 (by simp); rw [ho]; simpa [icells] using this
  have hy0 : ys[f.offset]? = some (.int k m) := by have := hy 0 (by simp); rw [ho]; simpa [icells] using this
  have ih := eqFields_ints (P := P) (w := w) (d := d) (xs := xs) (ys := ys) (ns := ns) (ms := ms) h' (by simpa using h1) (by simpa using h2)
   (fun j hj => by have := hx (j + 1) (by simpa using hj); rw [show i + 1 + j = i + (j + 1) by omega, this]; simp [icells])
   (fun j hj => by have := hy (j + 1) (by simpa using hj); rw [show i + 1 + j = i + (j + 1) by omega, this]; simp [icells])
  unfold Op.eqFields
  rw [if_pos hn]
  simp only [Sem.run_bind, run_part_plain w (plainKey_int hu) hx0, run_part_plain w (plainKey_int hu) hy0, Result.andThen_ok, run_equalIn_int w d f.type k k n m hu]
  by_cases e : n = m
  ·subst e
   simp only [beq_self_eq_true, Bool.not_true, Bool.false_eq_true, if_false]
   rw [ih]
   simp
  ·have : (n == m) = false := by simpa using e
   simp [this, e]

theorem intsOf_spec {P : Program} {t : TypeId} {ks : List IntKind} (h : intsOf P t = some ks) : ∃ fs, P.underlying t = some (.struct fs) ∧ P.fieldsOf t = fs ∧ P.stoodInHeld t = false ∧ intFs P 0 fs.toList = some ks := by
 unfold intsOf at h
 split at h
 ·rename_i fs hu
  cases hs : P.stoodInHeld t
  ·rw [hs, cond_false] at h
   exact ⟨fs, hu, by simp [Program.fieldsOf, hu], rfl, h⟩
  ·rw [hs] at h; cases h
 ·cases h

theorem equal_ints {P : Program} {w : World} {t : TypeId} {ks : List IntKind} {ns ms : List Int} (h : intsOf P t = some ks) (h1 : ns.length = ks.length) (h2 : ms.length = ks.length) :
  (Op.equal t (ival ks ns) (ival ks ms)).run P w = .ok (decide (ns = ms)) w := by
 obtain ⟨fs, hu, hf, hs, hi⟩ := intsOf_spec h
 show (Op.equalIn (9999 + 1) t (.agg _) (.agg _)).run P w = _
 rw [run_equalIn_struct w 9999 t _ _ (by rw [hf]; exact hu) hs, hf]
 exact eqFields_ints (d := 9998) hi h1 h2 (fun j hj => by simp) (fun j hj => by simp)

/-- == and != of such. -/
theorem aggEq_ints {P : Program} {t : TypeId} {ks : List IntKind} {ns ms : List Int} {H : Hp} {K : Value → Prop} (h : intsOf P t = some ks) (hg : P.eqGuardType P.depth t = false) (h1 : ns.length = ks.length) (h2 : ms.length = ks.length) (hK : K (.bool (decide (ns = ms)))) :
  evR P (aggEq .eql t ⟨icells ks ns⟩ ⟨icells ks ms⟩) H K := by
 refine ⟨_, fun w _ => ?_, hK⟩
 have := equal_ints (w := w) h h1 h2
 have this : (Op.equal t (.agg ⟨icells ks ns⟩) (.agg ⟨icells ks ms⟩)).run P w = .ok (decide (ns = ms)) w := this
 simp [aggEq, eqGuard, binOp, hg, this, Result.andThen]
theorem aggNe_ints {P : Program} {t : TypeId} {ks : List IntKind} {ns ms : List Int} {H : Hp} {K : Value → Prop} (h : intsOf P t = some ks) (hg : P.eqGuardType P.depth t = false) (h1 : ns.length = ks.length) (h2 : ms.length = ks.length) (hK : K (.bool (!decide (ns = ms)))) :
  evR P (aggEq .neq t ⟨icells ks ns⟩ ⟨icells ks ms⟩) H K := by
 refine ⟨_, fun w _ => ?_, hK⟩
 have this : (Op.equal t (.agg ⟨icells ks ns⟩) (.agg ⟨icells ks ms⟩)).run P w = .ok (decide (ns = ms)) w := equal_ints (w := w) h h1 h2
 simp [aggEq, eqGuard, binOp, hg, this, Result.andThen]

theorem checkKey_fields {P : Program} {w : World} {em : Bool} {d : Nat} {xs : Array Value} : ∀ {fs : List Field} {i : Nat} {ks : List IntKind} {ns : List Int}, intFs P i fs = some ks → ns.length = ks.length →
    (∀ j, j < ks.length → xs[i + j]? = (icells ks ns)[j]?) →
    (forIn fs PUnit.unit fun f (_ : PUnit) => (do if f.name ≠ "_" then Instr.checkKey em (d + 1) f.type (← part f.type xs f.offset)
                                                  pure (ForInStep.yield PUnit.unit) : Sem (ForInStep PUnit))).run P w = .ok PUnit.unit w
  | [], i, ks, ns, h, h1, hx => by simp
  | f :: fs, i, ks, ns, h, h1, hx => by
    obtain ⟨k, ks', rfl, hu, hn, ho, h'⟩ := intFs_cons h
    obtain ⟨n, ns, rfl⟩ : ∃ n ns', ns = n :: ns' := by cases ns with | nil => simp at h1 | cons n ns => exact ⟨n, ns, rfl⟩
    have hx0 : xs[f.offset]? = some (.int k n) := by have := hx 0 (by simp); rw [ho]; simpa [icells] using this
    have ih := checkKey_fields (P := P) (w := w) (em := em) (d := d) (xs := xs) (ns := ns) h' (by simpa using h1)
      (fun j hj => by have := hx (j + 1) (by simpa using hj); rw [show i + 1 + j = i + (j + 1) by omega, this]; simp [icells])
    have hck : (Instr.checkKey em (d + 1) f.type (.int k n)).run P w = .ok () w := run_checkKey (d := .int k) (k := .int k n) hu rfl em d
    simp only [List.forIn_cons, Sem.run_bind, if_pos hn, run_part_plain w (plainKey_int hu) hx0, Result.andThen_ok, hck, Sem.run_pure]
    exact ih

theorem KeyK.ints {P : Program} {t : TypeId} {ks : List IntKind} {κ : Type} {g : κ → List Int} (h : intsOf P t = some ks) (hl : ∀ a, (g a).length = ks.length) (hinj : ∀ a b, g a = g b → a = b) : KeyK P t (fun a => ival ks (g a)) := by
 obtain ⟨fs, hu, hf, hs, hi⟩ := intsOf_spec h
 have hcell : ∀ ns ms : List Int, ns.length = ks.length → ms.length = ks.length → icells ks ns = icells ks ms → ns = ms := fun ns ms h1 h2 e => by
  apply List.ext_getElem?
  intro i
  by_cases hik : i < ks.length
  ·have := congrArg (·[i]?) e
   simp only [icells, List.getElem?_zipWith, List.getElem?_eq_getElem hik, List.getElem?_eq_getElem (show i < ns.length by omega), List.getElem?_eq_getElem (show i < ms.length by omega)] at this ⊢
   simpa using this
  ·rw [List.getElem?_eq_none (by omega), List.getElem?_eq_none (by omega)]
 have hinj' : ∀ {a b : κ}, ival ks (g a) = ival ks (g b) → a = b := fun {a b} e => by
  refine hinj a b (hcell _ _ (hl a) (hl b) ?_)
  unfold ival at e
  simpa using e
 refine ⟨hinj', fun w em a => ?_, fun w x es hes => ?_, fun w a => ?_⟩
 ·show (Instr.checkKey em (9999 + 1) t (ival ks (g a))).run P w = _
  unfold Instr.checkKey ival
  simp only [Sem.run_bind, run_underlying hu, Result.andThen_ok]
  rw [← Array.forIn_toList]
  have := checkKey_fields (P := P) (w := w) (em := em) (d := 9998) (xs := ⟨icells ks (g a)⟩) hi (hl a) (fun j hj => by simp)
  simp only [Sem.run_bind] at this ⊢
  first | exact this | (rw [this]; rfl) | simp [this]
 ·rw [run_findKey_eq w (by rw [hu])]
  have key : ∀ (es : List MapEntry) (i : Nat), (∀ e ∈ es, ∃ a, e.key = ival ks (g a)) →
    ((Instr.findAsking t (ival ks (g x)) es i).run P w = .ok none w ∧ ∀ e ∈ es, e.key ≠ ival ks (g x)) ∨ ∃ j e, (Instr.findAsking t (ival ks (g x)) es i).run P w = .ok (some (i + j, e.val)) w ∧ es[j]? = some e ∧ e.key = ival ks (g x) := by
   intro es
   induction es with
   | nil => intro i _; exact .inl ⟨by simp [Instr.findAsking], by simp⟩
   | cons e es ih =>
    intro i hall
    obtain ⟨a, ha⟩ := hall e (by simp)
    have he := equal_ints (w := w) h (hl x) (hl a)
    rw [← ha] at he
    by_cases hxa : g x = g a
    ·refine .inr ⟨0, e, by unfold Instr.findAsking; simp only [Sem.run_bind, he, Result.andThen_ok]; simp [hxa], rfl, by rw [ha, hxa]⟩
    ·rcases ih (i + 1) (fun y hy => hall y (by simp [hy])) with ⟨h1, h2⟩ | ⟨j, e', h1, h2, h3⟩
     ·refine .inl ⟨by simp [Instr.findAsking, he, hxa, Result.andThen, h1], fun y hy => ?_⟩
      rcases List.mem_cons.1 hy with rfl | hy
      ·rw [ha]
       intro e1
       exact hxa (by rw [hinj' e1])
      ·exact h2 y hy
     ·exact .inr ⟨j + 1, e', by simp [Instr.findAsking, he, hxa, Result.andThen, h1, Nat.add_assoc, Nat.add_comm 1 j], by simpa using h2, h3⟩
  rcases key es 0 hes with h1 | ⟨j, e, h1, h2, h3⟩
  ·exact .inl h1
  ·exact .inr ⟨j, e, by simpa using h1, h2, h3⟩
 ·have hs : Instr.sameBits 10000 (ival ks (g a)) (ival ks (g a)) = true := by
   show Instr.sameBits (9999 + 1) (.agg _) (.agg _) = true
   simp only [Instr.sameBits, beq_self_eq_true, Bool.true_and, List.all_eq_true]
   rintro ⟨x, y⟩ hxy
   rw [List.mem_iff_getElem] at hxy
   obtain ⟨i, hi', hxy⟩ := hxy
   simp only [List.getElem_zip, Prod.mk.injEq] at hxy
   obtain ⟨rfl, rfl⟩ := hxy
   simp [icells, Instr.sameBits]
  simp [Instr.keyThatStays, hs]

end Go.Proofs.YtflfodcemnapeaaGreat

namespace Go.Proofs.YtflfodcemnapeaaGreat
set_option linter.unusedSimpArgs false
set_option linter.unusedVariables false
open Go
/-- A fact, as a part. -/
def Prt.pure (p : Prop) : Prt := ⟨fun F _ => (∀ c, ¬ F c) ∧ p, fun ⟨h, hp⟩ _ => ⟨h, hp⟩, fun ⟨h, _⟩ _ hc => absurd hc (h _)⟩

section
variable {H0 H H' : Hp} {L M : List Prt} {A B : Prt} {i k : Nat}
theorem ltOfGet {α : Type} {L : List α} {i : Nat} {A : α} (h : L[i]? = some A) : i < L.length := by
 rcases Nat.lt_or_ge i L.length with hl | hl
 ·exact hl
 ·rw [List.getElem?_eq_none hl] at h; cases h
theorem St.fact (h : St H0 L H) {p : Prop} (hi : L[i]? = some (Prt.pure p)) : p := by
 obtain ⟨_, ha, _⟩ := h.at hi
 exact ha.2
theorem St.say (h : St H0 L H) {p : Prop} (hp : p) : St H0 (Prt.pure p :: L) H :=
 h.new (A := Prt.pure p) (FA := Nothing) ⟨fun _ h => h, hp⟩ (Goes.refl _ _)
theorem St.refact (h : St H0 L H) {p q : Prop} (hi : L[i]? = some (Prt.pure p)) (hq : q) : St H0 (L.set i (Prt.pure q)) H := by
 obtain ⟨Fi, ha, up⟩ := h.at hi
 exact up _ Fi H ⟨ha.1, hq⟩ (Goes.refl _ _)
theorem St.saynil (h : St H0 L H) : St H0 (Prt.nil :: L) H := h.new (A := Prt.nil) (FA := Nothing) (fun _ h => h) (Goes.refl _ _)

/-- Out of a list that is a part, and back into it. -/
theorem St.sub (h : St H0 L H) (hi : L[i]? = some (Prt.list M)) (hk : M[k]? = some A) : St H0 (A :: L.set i (Prt.list (M.set k .nil))) H := by
 obtain ⟨F, hl, g⟩ := h
 have h1 := (Prt.list_set_nil hi).1 hl
 obtain ⟨F1, F2, a1, a2, ad, aF⟩ := h1
 obtain ⟨G1, G2, b1, b2, bd, bF⟩ := (Prt.list_set_nil hk).1 a1
 have hi' : (L.set i (Prt.list (M.set k .nil)))[i]? = some (Prt.list (M.set k .nil)) := by simp [List.getElem?_set, ltOfGet hi]
 refine ⟨F, ⟨G1, fun c => G2 c ∨ F2 c, b1, (Prt.list_set_nil hi').2 ?_, fun c h k => k.elim (bd c h) (ad c ((bF c).2 (.inl h))), fun c => ?_⟩, g⟩
 ·rw [List.set_set]
  exact ⟨G2, F2, b2, a2, fun c h => ad c ((bF c).2 (.inr h)), fun _ => Iff.rfl⟩
 ·rw [aF c, bF c]
  exact or_assoc
theorem St.unsub (h : St H0 (A :: L) H) (hi : L[i]? = some (Prt.list M)) (hk : M[k]? = some .nil) : St H0 (L.set i (Prt.list (M.set k A))) H := by
 obtain ⟨F, hl, g⟩ := h
 obtain ⟨G1, G3, b1, c1, cd, cF⟩ := hl
 obtain ⟨G2, F2, b2, a2, bd, bF⟩ := (Prt.list_set_nil hi).1 c1
 have hi' : (L.set i (Prt.list (M.set k A)))[i]? = some (Prt.list (M.set k A)) := by simp [List.getElem?_set, ltOfGet hi]
 have hk' : (M.set k A)[k]? = some A := by simp [List.getElem?_set, ltOfGet hk]
 have e : (M.set k A).set k .nil = M := by rw [List.set_set]; exact List.set_self hk
 refine ⟨F, (Prt.list_set_nil hi').2 ?_, g⟩
 rw [List.set_set]
 refine ⟨fun c => G1 c ∨ G2 c, F2, (Prt.list_set_nil hk').2 ?_, a2, fun c h k => h.elim (fun h => cd c h ((bF c).2 (.inr k))) fun h => bd c h k, fun c => ?_⟩
 ·rw [e]
  exact ⟨G1, G2, b1, b2, fun c h k => cd c h ((bF c).2 (.inl k)), fun _ => Iff.rfl⟩
 ·rw [cF c, bF c]
  exact or_assoc.symm
/-- One more at its end. -/
theorem St.push (h : St H0 (A :: L) H) (hi : L[i]? = some (Prt.list M)) : St H0 (L.set i (Prt.list (M ++ [A]))) H := by
 obtain ⟨F, hl, g⟩ := h
 obtain ⟨G1, G3, b1, c1, cd, cF⟩ := hl
 obtain ⟨G2, F2, b2, a2, bd, bF⟩ := (Prt.list_set_nil hi).1 c1
 have hi' : (L.set i (Prt.list (M ++ [A])))[i]? = some (Prt.list (M ++ [A])) := by simp [List.getElem?_set, ltOfGet hi]
 refine ⟨F, (Prt.list_set_nil hi').2 ?_, g⟩
 rw [List.set_set]
 refine ⟨fun c => G1 c ∨ G2 c, F2, Prt.list_perm (List.perm_append_comm (l₁ := [A])) ?_, a2, fun c h k => h.elim (fun h => cd c h ((bF c).2 (.inr k))) fun h => bd c h k, fun c => ?_⟩
 ·exact ⟨G1, G2, b1, b2, fun c h k => cd c h ((bF c).2 (.inl k)), fun _ => Iff.rfl⟩
 ·rw [cF c, bF c]
  exact or_assoc.symm

theorem Prt.list_erase {L : List Prt} : ∀ {i : Nat} {F : Nat → Prop} {H : Hp}, L[i]? = some .nil → (Prt.list L).holds F H → (Prt.list (L.eraseIdx i)).holds F H := by
 induction L with
 | nil => intro i F H h; simp at h
 | cons B L ih =>
  intro i F H h hl
  cases i with
  | zero =>
   simp at h
   subst h
   obtain ⟨F1, F2, h1, h2, hd, hF⟩ := hl
   have : F = F2 := funext fun c => propext ⟨fun h => ((hF c).1 h).elim (fun h => absurd h (h1 c)) id, fun h => (hF c).2 (.inr h)⟩
   rw [this]
   exact h2
  | succ i =>
   obtain ⟨F1, F2, h1, h2, hd, hF⟩ := hl
   exact ⟨F1, F2, h1, ih (by simpa using h) h2, hd, hF⟩
/-- One less. -/
theorem St.erase (h : St H0 L H) (hi : L[i]? = some (Prt.list M)) (hk : M[k]? = some A) : St H0 (L.set i (Prt.list (M.eraseIdx k))) H := by
 have h1 := (h.sub hi hk).less
 have hi1 : (L.set i (Prt.list (M.set k .nil)))[i]? = some (Prt.list (M.set k .nil)) := by simp [List.getElem?_set, ltOfGet hi]
 obtain ⟨Fi, ha, up⟩ := h1.at hi1
 have hk1 : (M.set k .nil)[k]? = some .nil := set_nil_get hk
 have := up _ Fi H (Prt.list_erase hk1 ha) (Goes.refl _ _)
 rw [List.set_set] at this
 have e : (M.set k Prt.nil).eraseIdx k = M.eraseIdx k := by
  apply List.ext_getElem?
  intro j
  simp only [List.getElem?_eraseIdx, List.getElem?_set]
  by_cases hj : j < k
  ·simp [hj, Nat.ne_of_gt hj]
  ·simp [hj, show ¬ k = j + 1 by omega]
 rwa [e] at this
end
/-! ## Small steps -/
theorem Zn {c : Array Value} {K : Array Value → Prop} : asAgg' (.agg c) K = K c := propext Iff.rfl
theorem Zq {c : Array Value} {K : Array Value → Prop} : asTup (.tuple c) K = K c := propext Iff.rfl
theorem Zx {α : Type} {l : List α} : l.toArray.toList = l := List.toList_toArray
theorem Zy (n : Nat) : 0 + n = n := Nat.zero_add n
theorem Zz (n : Nat) : n + 0 = n := rfl
theorem ZA : (!true) = false := rfl
theorem ZB : (!false) = true := rfl
theorem ZC {α : Type} {a : α} : (some a).isNone = false := rfl
theorem ZD {α : Type} : (none : Option α).isNone = true := rfl
theorem Zo {v : Value} {r : List Value} {K : Value → List Value → Prop} : unCons (v :: r) K = K v r := propext Iff.rfl
theorem Zp {K : Prop} : unNil [] K = K := propext Iff.rfl
theorem Zr {a : Value} {r : List Value} {K : Value → Prop} : extractD (.tuple ⟨a :: r⟩) 0 K = K a := propext Iff.rfl
theorem Zs {a b : Value} {r : List Value} {K : Value → Prop} : extractD (.tuple ⟨a :: b :: r⟩) 1 K = K b := propext Iff.rfl
theorem nextC_over {A : Prop} {B : Value → Value → Prop} (h : A) : nextC (.tuple #[.bool false]) A B := h
theorem nextC_more {k x : Value} {A : Prop} {B : Value → Value → Prop} (h : B k x) : nextC (.tuple #[.bool true, k, x]) A B := h

section
variable {H0 H : Hp} {L : List Prt} {i : Nat}
/-- What is left of a map that is gone over, by the heap. -/
def leftOf (H : Hp) (m it : Nat) : Nat := match H m, H it with
 | some (.map a _), some (.mapIter _ _ seen _) => (a.toList.filter fun e => !seen.contains e.born).length
 | _, _ => 0
theorem St.mleft (h : St H0 L H) {b it : Nat} {es todo : List (Value × Value)} {cur : Option (Value × Value)} (hi : L[i]? = some (Prt.mpit b it es todo cur)) : leftOf H b it = todo.length := by
 obtain ⟨Fi, ⟨⟨hne, o, oi, hb, hib, a, clock, seen, rfl, ha, hnd, hlt, rfl, htodo, hcur⟩, hF⟩, up⟩ := h.at hi
 unfold leftOf
 rw [hb, hib, htodo]
 simp
theorem St.mnextT {P : Program} {κ ν : Type} {enc : κ → Value} {f : ν → Value} (h : St H0 L H) {b it : Nat} {es : List (Value × Value)} {tl : List (κ × ν)} {cur : Option (Value × Value)} (hi : L[i]? = some (Prt.mpit b it es (ments enc f tl) cur)) {ty : TypeId} {Q : Value → Hp → Prop}
  (hover : tl = [] → Q (.tuple #[.bool false]) H)
  (hmore : ∀ p A B, tl = A ++ p :: B → ∀ H', St H0 (L.set i (Prt.mpit b it es (ments enc f (A ++ B)) (some (enc p.1, f p.2)))) H' → Q (.tuple #[.bool true, enc p.1, f p.2]) H') : evW P (Instr.next (.pointer (some ⟨it, 0, none⟩)) false ty) H Q := by
 refine h.mnext hi (fun e => hover ?_) fun k v A B e H' h' => ?_
 ·unfold ments at e
  exact List.map_eq_nil_iff.1 e
 ·unfold ments at e
  obtain ⟨A', B', rfl, rfl, e2⟩ := List.map_eq_append_iff.1 e
  obtain ⟨p, B'', rfl, hp, rfl⟩ := List.map_eq_cons_iff.1 e2
  cases hp
  refine hmore p A' B'' rfl H' ?_
  unfold ments
  rw [List.map_append]
  exact h'
/-- A row of nothing takes another one's elements: a copy. -/
theorem St.copy {P : Program} {sl xt ty e k bytes m qc b : Nat} {e0 : TypeId} {z : Value} {q : Option Addr} {ys : List Value} {K : Value → Hp → Prop} (h : St H0 L H) (hi : L[i]? = some (Prt.one b (.cells #[] e0 (0, 0))))
  (hsl : P.underlying sl = some (.slice e)) (hxt : P.underlying xt = some (.slice e)) (hif : (P.info? e).map (fun i => (i.zero, i.size, i.bytes)) = some (some z, k, bytes)) (hzs : z.cells.size = k)
  (hbytes : bytes ≠ 0) (hq : Rd H k q m ys) (hone : ∀ y ∈ ys, Go.Proofs.YtflfodcemnapeaaGreat.one y = true) (hroom : (2 * m + 512) * bytes ≤ 2 ^ 48)
  (hK : ∀ p' cap' H', St H0 (L.set i (Prt.row k p' m cap' ys)) H' → K (.slice p' m cap') H') :
  evW P (Builtin.append_ #[sl, xt] ty #[.slice (some ⟨b, 0, none⟩) 0 0, .slice q m qc]) H K := by
 obtain ⟨Fi, ha, up⟩ := h.at hi
 have ho : Own H k (some ⟨b, 0, none⟩) 0 0 [] := ⟨by simp, Nat.le_refl _, rfl, #[], e0, ha.1, by simp, fun i hi => by omega⟩
 refine append_at (xs := []) hsl hxt hif hzs hbytes ho hq hone (by simpa using hroom) fun p' cap' H' o' hk hn => ?_
 rw [Nat.zero_add] at o' ⊢
 refine hK _ _ _ (up _ (blk p') H' (Prt.row_holds o') ?_)
 have e : Fi = blk (some ⟨b, 0, none⟩) := funext fun c => propext ((ha.2 c).trans ⟨fun h => blk_some.2 h.symm, fun h => (blk_some.1 h).symm⟩)
 rw [e]
 exact ⟨hk, hn⟩
/-- Appending to a row. -/
theorem St.app {P : Program} {sl xt ty e k bytes m qc n cap : Nat} {z : Value} {p q : Option Addr} {xs ys : List Value} {K : Value → Hp → Prop} (h : St H0 L H) (hi : L[i]? = some (Prt.row k p n cap xs))
  (hsl : P.underlying sl = some (.slice e)) (hxt : P.underlying xt = some (.slice e)) (hif : (P.info? e).map (fun i => (i.zero, i.size, i.bytes)) = some (some z, k, bytes)) (hzs : z.cells.size = k)
  (hbytes : bytes ≠ 0) (hq : Rd H k q m ys) (hone : ∀ y ∈ ys, Go.Proofs.YtflfodcemnapeaaGreat.one y = true) (hroom : (2 * (n + m) + 512) * bytes ≤ 2 ^ 48)
  (hK : ∀ p' cap' H', St H0 (L.set i (Prt.row k p' (n + m) cap' (xs ++ ys))) H' → K (.slice p' (n + m) cap') H') :
  evW P (Builtin.append_ #[sl, xt] ty #[.slice p n cap, .slice q m qc]) H K :=
 append_at hsl hxt hif hzs hbytes (h.row_own hi) hq hone hroom fun p' cap' H' o' hk hn => hK _ _ _ (h.row_to hi o' ⟨hk, hn⟩)
/-- What is handed back stands in a block of two cells. -/
theorem fin2 {b : Nat} {c : Array Value} {e : TypeId} {x y : Int} {K : Int → Int → Hp → Prop} (h : St H0 L H) (hi : L[i]? = some (Prt.one b (.cells c e (0, 0)))) (hc : c.size = 2) (hK : ∀ H', St H0 (L.set i (Prt.one b (.cells #[.int .i64 x, .int .u64 y] e (0, 0)))) H' → K x y H') :
  st ⟨b, 0, none⟩ (.int .i64 x) H fun H1 => st ⟨b, 1, none⟩ (.int .u64 y) H1 fun H2 => ldI .i64 ⟨b, 0, none⟩ H2 fun n => ldI .u64 ⟨b, 1, none⟩ H2 fun s => K n s H2 := by
 refine h.put hi (by omega) fun H1 h1 => ?_
 have hi1 : (L.set i (Prt.one b (.cells (c.setIfInBounds 0 (.int .i64 x)) e (0, 0))))[i]? = some (Prt.one b (.cells (c.setIfInBounds 0 (.int .i64 x)) e (0, 0))) := by simp [List.getElem?_set, ltOfGet hi]
 refine h1.put hi1 (by simp [hc]) fun H2 h2 => ?_
 rw [List.set_set] at h2
 have e2 : (c.setIfInBounds 0 (.int .i64 x)).setIfInBounds 1 (.int .u64 y) = #[.int .i64 x, .int .u64 y] := by
  obtain ⟨c⟩ := c
  rcases c with _ | ⟨a0, _ | ⟨a1, _ | ⟨a2, c⟩⟩⟩ <;> simp at hc
  rfl
 rw [e2] at h2
 have hi2 : (L.set i (Prt.one b (.cells #[.int .i64 x, .int .u64 y] e (0, 0))))[i]? = some (Prt.one b (.cells #[.int .i64 x, .int .u64 y] e (0, 0))) := by simp [List.getElem?_set, ltOfGet hi]
 exact ldI_of (h2.cell hi2 (o := 0) rfl) (ldI_of (h2.cell hi2 (o := 1) rfl) (hK H2 h2))
/-- Likewise, of an object's five cells. -/
theorem fin5 {b : Nat} {cs : Array Value} {T : TypeId} {x y z : Int} {p q : Option Addr} {n c m d : Nat} {K : Int → Int → Option Addr → Nat → Nat → Option Addr → Nat → Nat → Int → Hp → Prop} (h : St H0 L H) (hi : L[i]? = some (Prt.one b (.cells cs T (0, 0)))) (hc : cs.size = 5)
  (hK : ∀ H', St H0 (L.set i (Prt.one b (.cells #[.int .u64 x, .int .i64 y, .slice p n c, .slice q m d, .int .i64 z] T (0, 0)))) H' → K x y p n c q m d z H') :
  st ⟨b, 0, none⟩ (.int .u64 x) H fun H1 => st ⟨b, 1, none⟩ (.int .i64 y) H1 fun H2 => st ⟨b, 2, none⟩ (.slice p n c) H2 fun H3 => st ⟨b, 3, none⟩ (.slice q m d) H3 fun H4 => st ⟨b, 4, none⟩ (.int .i64 z) H4 fun H5 =>
   ldI .u64 ⟨b, 0, none⟩ H5 fun x => ldI .i64 ⟨b, 1, none⟩ H5 fun y => ldSl ⟨b, 2, none⟩ H5 fun p n c => ldSl ⟨b, 3, none⟩ H5 fun q m d => ldI .i64 ⟨b, 4, none⟩ H5 fun z => K x y p n c q m d z H5 := by
 have hl := ltOfGet hi
 have hget : ∀ A : Prt, (L.set i A)[i]? = some A := fun A => by simp [List.getElem?_set, hl]
 refine h.put hi (by omega) fun H1 h1 => ?_
 refine h1.put (hget _) (by simp [hc]) fun H2 h2 => ?_
 rw [List.set_set] at h2
 refine h2.put (hget _) (by simp [hc]) fun H3 h3 => ?_
 rw [List.set_set] at h3
 refine h3.put (hget _) (by simp [hc]) fun H4 h4 => ?_
 rw [List.set_set] at h4
 refine h4.put (hget _) (by simp [hc]) fun H5 h5 => ?_
 rw [List.set_set] at h5
 have e2 : ((((cs.setIfInBounds 0 (.int .u64 x)).setIfInBounds 1 (.int .i64 y)).setIfInBounds 2 (.slice p n c)).setIfInBounds 3 (.slice q m d)).setIfInBounds 4 (.int .i64 z) = #[.int .u64 x, .int .i64 y, .slice p n c, .slice q m d, .int .i64 z] := by
  obtain ⟨cs⟩ := cs
  rcases cs with _ | ⟨a0, _ | ⟨a1, _ | ⟨a2, _ | ⟨a3, _ | ⟨a4, _ | ⟨a5, cs⟩⟩⟩⟩⟩⟩ <;> simp at hc
  rfl
 rw [e2] at h5
 exact ldI_of (h5.cell (hget _) (o := 0) rfl) (ldI_of (h5.cell (hget _) (o := 1) rfl) (ldSl_of (h5.cell (hget _) (o := 2) rfl) (ldSl_of (h5.cell (hget _) (o := 3) rfl) (ldI_of (h5.cell (hget _) (o := 4) rfl) (hK H5 h5)))))
/-- A variable of two cells, written as it is laid. -/
theorem box2 {T : TypeId} {x y a c : Int} {K : Nat → Hp → Prop} (h : St H0 L H) (hK : ∀ b H', St H0 (Prt.one b (.cells #[.int .i64 x, .int .u64 y] T (0, 0)) :: L) H' → K b H') :
  newB (.cells #[.int .i64 a, .int .u64 c] T) H fun b H1 => st ⟨b, 0, none⟩ (.int .i64 x) H1 fun H2 => st ⟨b, 1, none⟩ (.int .u64 y) H2 fun H3 => K b H3 := by
 intro b hb
 have h1 := h.alloc (o := .cells #[.int .i64 a, .int .u64 c] T) hb
 exact h1.put (i := 0) rfl (by simp) fun H2 h2 => h2.put (i := 0) rfl (by simp) fun H3 h3 => hK b H3 h3
theorem box5 {T : TypeId} {x y z a1 a2 a3 : Int} {p q p' q' : Option Addr} {n c m d n' c' m' d' : Nat} {K : Nat → Hp → Prop} (h : St H0 L H)
  (hK : ∀ b H', St H0 (Prt.one b (.cells #[.int .u64 x, .int .i64 y, .slice p n c, .slice q m d, .int .i64 z] T (0, 0)) :: L) H' → K b H') :
  newB (.cells #[.int .u64 a1, .int .i64 a2, .slice p' n' c', .slice q' m' d', .int .i64 a3] T) H fun b H1 => st ⟨b, 0, none⟩ (.int .u64 x) H1 fun H2 => st ⟨b, 1, none⟩ (.int .i64 y) H2 fun H3 => st ⟨b, 2, none⟩ (.slice p n c) H3 fun H4 =>
   st ⟨b, 3, none⟩ (.slice q m d) H4 fun H5 => st ⟨b, 4, none⟩ (.int .i64 z) H5 fun H6 => K b H6 := by
 intro b hb
 have h1 := h.alloc (o := .cells #[.int .u64 a1, .int .i64 a2, .slice p' n' c', .slice q' m' d', .int .i64 a3] T) hb
 exact h1.put (i := 0) rfl (by simp) fun H2 h2 => h2.put (i := 0) rfl (by simp) fun H3 h3 => h3.put (i := 0) rfl (by simp) fun H4 h4 => h4.put (i := 0) rfl (by simp) fun H5 h5 => h5.put (i := 0) rfl (by simp) fun H6 h6 => hK b H6 h6
end
/-- The first n parts, in another order. -/
theorem St.pick {H0 H : Hp} {L : List Prt} (h : St H0 L H) (n : Nat) (is : List Nat) (hn : (L.take n).length = n) (hp : (List.range n).isPerm is = true) : St H0 (is.map (fun i => L.getD i .nil) ++ L.drop n) H := by
 refine h.perm ?_
 have e : L = (List.range n).map (fun i => L.getD i .nil) ++ L.drop n := by
  have e1 : (List.range n).map (fun i => L.getD i .nil) = L.take n := by
   apply List.ext_getElem?
   intro j
   rw [List.getElem?_map]
   by_cases hj : j < n
   ·have : j < L.length := by rw [List.length_take] at hn; omega
    rw [List.getElem?_range hj, List.getElem?_take_of_lt hj, List.getElem?_eq_getElem this]
    simp [List.getD_eq_getElem?_getD, List.getElem?_eq_getElem this]
   ·rw [List.getElem?_eq_none (by simpa using hj), List.getElem?_eq_none (by omega)]
    rfl
  rw [e1, List.take_append_drop]
 have := ((List.isPerm_iff.1 hp).map (fun i => L.getD i .nil)).append_right (L.drop n)
 rwa [← e] at this

section
variable {α : Type} {g : α → List Value} {k : Nat}
theorem cel_ext (hg : ∀ x, (g x).length = k) {l : List α} {xs : List Value} (d : α) (hl : xs.length = l.length * k) (h : ∀ i j, i < l.length → j < k → xs[i * k + j]? = (g (l.getD i d))[j]?) : xs = cel g l := by
 apply List.ext_getElem?
 intro y
 by_cases hy : y < l.length * k
 ·have hk0 : 0 < k := by
   rcases Nat.eq_zero_or_pos k with e | e
   ·subst e; simp at hy
   ·exact e
  have h1 : y / k < l.length := (Nat.div_lt_iff_lt_mul hk0).2 hy
  have h2 := Nat.mod_lt y hk0
  have e : y / k * k + y % k = y := Nat.div_add_mod' y k
  rw [← e, h _ _ h1 h2, cel_get hg d h1 h2]
 ·rw [List.getElem?_eq_none (by omega), List.getElem?_eq_none (by rw [cel_len hg]; omega)]

theorem cel_set2 (hg : ∀ x, (g x).length = 2) {l : List α} {i : Nat} {y : α} {a b : Value} (d : α) (hi : i < l.length) (hy : g y = [a, b]) : ((cel g l).set (i * 2) a).set (i * 2 + 1) b = cel g (l.set i y) := by
 refine cel_ext hg d (by simp [cel_len hg]) fun i' j hi' hj => ?_
 rw [List.length_set] at hi'
 simp only [List.getElem?_set, List.length_set, cel_len hg]
 have hgd : (l.set i y).getD i' d = if i' = i then y else l.getD i' d := by
  simp only [List.getD_eq_getElem?_getD, List.getElem?_set]
  by_cases e : i = i'
  ·subst e; simp [hi]
  ·simp [e, Ne.symm e]
 rw [hgd]
 by_cases e : i' = i
 ·subst e
  rw [if_pos rfl, hy]
  rcases j with _ | _ | j
  ·rw [if_neg (by omega), if_pos (by omega), if_pos (by omega)]; rfl
  ·rw [if_pos (by omega), if_pos (by omega)]; rfl
  ·omega
 ·rw [if_neg (by omega), if_neg (by omega), if_neg e, cel_get hg d hi' hj]
theorem cel_set3 (hg : ∀ x, (g x).length = 3) {l : List α} {i : Nat} {y : α} {a b c : Value} (d : α) (hi : i < l.length) (hy : g y = [a, b, c]) : (((cel g l).set (i * 3) a).set (i * 3 + 1) b).set (i * 3 + 2) c = cel g (l.set i y) := by
 refine cel_ext hg d (by simp [cel_len hg]) fun i' j hi' hj => ?_
 rw [List.length_set] at hi'
 simp only [List.getElem?_set, List.length_set, cel_len hg]
 have hgd : (l.set i y).getD i' d = if i' = i then y else l.getD i' d := by
  simp only [List.getD_eq_getElem?_getD, List.getElem?_set]
  by_cases e : i = i'
  ·subst e; simp [hi]
  ·simp [e, Ne.symm e]
 rw [hgd]
 by_cases e : i' = i
 ·subst e
  rw [if_pos rfl, hy]
  rcases j with _ | _ | _ | j
  ·rw [if_neg (by omega), if_neg (by omega), if_pos (by omega), if_pos (by omega)]; rfl
  ·rw [if_neg (by omega), if_pos (by omega), if_pos (by omega)]; rfl
  ·rw [if_pos (by omega), if_pos (by omega)]; rfl
  ·omega
 ·rw [if_neg (by omega), if_neg (by omega), if_neg (by omega), if_neg e, cel_get hg d hi' hj]

theorem cel_set1 (hg : ∀ x, (g x).length = k) {l : List α} {i j : Nat} {y : α} {v : Value} (d : α) (hi : i < l.length) (hj : j < k) (hy : g y = (g (l.getD i d)).set j v) : (cel g l).set (i * k + j) v = cel g (l.set i y) := by
 refine cel_ext hg d (by simp [cel_len hg]) fun i' j' hi' hj' => ?_
 rw [List.length_set] at hi'
 have hgd : (l.set i y).getD i' d = if i' = i then y else l.getD i' d := by
  simp only [List.getD_eq_getElem?_getD, List.getElem?_set]
  by_cases e : i = i'
  ·subst e; simp [hi]
  ·simp [e, Ne.symm e]
 have hlt : i * k + j < l.length * k := by
  have := Nat.mul_le_mul_right k (show i + 1 ≤ l.length by omega)
  rw [Nat.add_mul, Nat.one_mul] at this
  omega
 rw [hgd, List.getElem?_set, cel_len hg, if_pos hlt]
 by_cases e : i' = i
 ·subst e
  rw [if_pos rfl, hy, List.getElem?_set, hg, if_pos hj]
  by_cases e2 : j = j'
  ·subst e2; rw [if_pos rfl, if_pos rfl]
  ·rw [if_neg (by omega), if_neg e2, cel_get hg d hi' hj']
 ·rw [if_neg e, if_neg, cel_get hg d hi' hj']
  intro h
  rcases Nat.lt_or_gt_of_ne e with h' | h'
  ·have := Nat.mul_le_mul_right k (show i' + 1 ≤ i by omega)
   rw [Nat.add_mul, Nat.one_mul] at this
   omega
  ·have := Nat.mul_le_mul_right k (show i + 1 ≤ i' by omega)
   rw [Nat.add_mul, Nat.one_mul] at this
   omega
/-- make, of elements of several cells: a new row. -/
theorem makeK {P : Program} {sl e bytes : Nat} {z : Value} {n : Int} {H : Hp} {K : Value → Hp → Prop} (hg : ∀ x, (g x).length = k) (d : α)
  (hsl : P.underlying sl = some (.slice e)) (hi : (P.info? e).map (fun i => (i.zero, i.size, i.bytes)) = some (some z, k, bytes)) (hz : z.cells.toList = g d) (hk : k ≠ 0) (h0 : 0 ≤ n) (h1 : n * bytes ≤ 2 ^ 47) (h2 : n < 2 ^ 62)
  (hK : ∀ p H', Own H' k p n.toNat n.toNat (cel g (List.replicate n.toNat d)) → Goes Nothing H (blk p) H' → K (.slice p n.toNat n.toNat) H') : evW P (Instr.makeSlice sl (.int .i64 n) (.int .i64 n)) H K := by
 have hzs : z.cells.size = k := by rw [← Array.length_toList, hz, hg]
 refine make_at (z := z) hsl hi h0 h1 h2 hzs hk fun b cs hb hs hc => ?_
 have gg := (Goes.alloc (o := .cells cs e (0, 0)) hb).less (F2 := blk (some ⟨b, 0, none⟩)) fun c h => (blk_some.1 h).symm
 refine hK _ _ ?_ gg
 have ho := Own.new (H := H) (b := b) (k := k) (n := n.toNat) (c := cs) (e := e) hs
 have e1 : cs.toList = cel g (List.replicate n.toNat d) := by
  refine cel_ext hg d (by simpa using hs) fun i j hi hj => ?_
  rw [List.length_replicate] at hi
  have hlt : i * k + j < n.toNat * k := by
   have := Nat.mul_le_mul_right k (show i + 1 ≤ n.toNat by omega)
   rw [Nat.add_mul, Nat.one_mul] at this
   omega
  rw [Array.getElem?_toList, hc _ hlt, Nat.mul_comm i k, Nat.mul_add_mod, Nat.mod_eq_of_lt hj, ← Array.getElem?_toList, hz]
  simp [List.getD_eq_getElem?_getD, hi]
 rw [e1] at ho
 exact ho
end
end Go.Proofs.YtflfodcemnapeaaGreat
