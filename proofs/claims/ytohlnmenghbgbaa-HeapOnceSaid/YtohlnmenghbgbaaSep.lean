/- A call's own blocks, parted: what a call may turn, and what it has made. No condition. -/
import Derived.Test.YtohlnmenghbgbaaShF0
namespace Go.Proofs.Ytohlnmenghbgbaa
set_option linter.unusedSimpArgs false
set_option linter.unusedVariables false
open Go

abbrev Nothing : Nat → Prop := fun _ => False

/-- From a heap with own blocks F to one with own blocks F': nothing else turned, and what is new among the own is new. -/
structure Goes (F : Nat → Prop) (H : Hp) (F' : Nat → Prop) (H' : Hp) : Prop where
  keep : Keep F H H'
  fresh : ∀ c, F' c → F c ∨ H c = none

theorem Goes.refl (F : Nat → Prop) (H : Hp) : Goes F H F H := ⟨Keep.refl F H, fun _ h => .inl h⟩
theorem Goes.trans {F F1 F2 : Nat → Prop} {H H1 H2 : Hp} (a : Goes F H F1 H1) (b : Goes F1 H1 F2 H2) : Goes F H F2 H2 :=
  ⟨a.keep.trans b.keep a.fresh, fun c h => (b.fresh c h).elim (a.fresh c) fun e => .inr (Classical.byContradiction fun h => a.keep.dom c h e)⟩
theorem Goes.of {F : Nat → Prop} {H H' : Hp} (k : Keep F H H') : Goes F H F H' := ⟨k, fun _ h => .inl h⟩
theorem Goes.new {F : Nat → Prop} {H H' : Hp} (k : Keep Nothing H H') (n : ∀ c, F c → H c = none) : Goes Nothing H F H' := ⟨k, fun c h => .inr (n c h)⟩
/-- Fewer are the call's own afterwards. -/
theorem Goes.less {F F1 F2 : Nat → Prop} {H H1 : Hp} (a : Goes F H F1 H1) (s : ∀ c, F2 c → F1 c) : Goes F H F2 H1 := ⟨a.keep, fun c h => a.fresh c (s c h)⟩
/-- More were the call's own before. -/
theorem Goes.more {F F0 F1 : Nat → Prop} {H H1 : Hp} (a : Goes F H F1 H1) (s : ∀ c, F c → F0 c) : Goes F0 H F1 H1 := ⟨a.keep.mono fun c h => .inl (s c h), fun c h => (a.fresh c h).imp_left (s c)⟩
/-- A part of the own blocks is worked on. -/
theorem Goes.part {F F1 G G' : Nat → Prop} {H H' : Hp} (a : Goes G H G' H') (s : ∀ c, G c → F c) (s1 : ∀ c, F1 c → F c ∨ G' c) : Goes F H F1 H' :=
  ⟨a.keep.mono fun c h => .inl (s c h), fun c h => (s1 c h).elim .inl fun h => (a.fresh c h).imp_left (s c)⟩

/-- From nothing: all that there was is as it was. -/
theorem Goes.start (H : Hp) : Goes Nothing H Nothing H := Goes.refl _ _
theorem Goes.all {F : Nat → Prop} {H H' : Hp} (a : Goes Nothing H F H') : Keep Nothing H H' := a.keep
theorem Goes.isNew {F : Nat → Prop} {H H' : Hp} (a : Goes Nothing H F H') {c : Nat} (h : F c) : H c = none := (a.fresh c h).elim (fun h => h.elim) id

/-- What holds of some blocks alone. -/
structure Part (A : (Nat → Prop) → Hp → Prop) : Prop where
  frame : ∀ {F : Nat → Prop} {H H' : Hp}, A F H → (∀ c, F c → H' c = H c) → A F H'
  dom : ∀ {F : Nat → Prop} {H : Hp}, A F H → ∀ {c : Nat}, F c → H c ≠ none

/-- Behind work on other own blocks it holds still. -/
theorem Part.stays {A : (Nat → Prop) → Hp → Prop} (p : Part A) {F G G' : Nat → Prop} {H H' : Hp} (h : A F H) (a : Goes G H G' H') (d : ∀ c, F c → ¬ G c) : A F H' :=
  p.frame h fun c hc => a.keep.same c (p.dom h hc) (d c hc)
/-- And the own blocks stay parted. -/
theorem Part.apart {A : (Nat → Prop) → Hp → Prop} (p : Part A) {F G G' : Nat → Prop} {H H' : Hp} (h : A F H) (a : Goes G H G' H') (d : ∀ c, F c → ¬ G c) : ∀ c, F c → ¬ G' c := fun c hc hg =>
  (a.fresh c hg).elim (d c hc) (p.dom h hc)

/-- Two parts, apart. -/
def Both (A B : (Nat → Prop) → Hp → Prop) : (Nat → Prop) → Hp → Prop := fun F H => ∃ F1 F2, A F1 H ∧ B F2 H ∧ (∀ c, F1 c → ¬ F2 c) ∧ ∀ c, F c ↔ F1 c ∨ F2 c

theorem Both.part {A B : (Nat → Prop) → Hp → Prop} (a : Part A) (b : Part B) : Part (Both A B) :=
  ⟨fun h hf => by
    obtain ⟨F1, F2, h1, h2, hd, hF⟩ := h
    exact ⟨F1, F2, a.frame h1 fun c hc => hf c ((hF c).2 (.inl hc)), b.frame h2 fun c hc => hf c ((hF c).2 (.inr hc)), hd, hF⟩,
  fun h c hc => by
    obtain ⟨F1, F2, h1, h2, hd, hF⟩ := h
    exact ((hF c).1 hc).elim (a.dom h1) (b.dom h2)⟩

/-- Work on the first. -/
theorem Both.first {A' B : (Nat → Prop) → Hp → Prop} (b : Part B) {F F1 F2 F1' : Nat → Prop} {H H' : Hp} (hF : ∀ c, F c ↔ F1 c ∨ F2 c) (hb : B F2 H) (hd : ∀ c, F1 c → ¬ F2 c) (ha : A' F1' H') (g : Goes F1 H F1' H') :
    Both A' B (fun c => F1' c ∨ F2 c) H' ∧ Goes F H (fun c => F1' c ∨ F2 c) H' :=
  have hd' : ∀ c, F2 c → ¬ F1 c := fun c h2 h1 => hd c h1 h2
  ⟨⟨F1', F2, ha, b.stays hb g hd', fun c h1 h2 => b.apart hb g hd' c h2 h1, fun _ => Iff.rfl⟩, g.part (fun c h => (hF c).2 (.inl h)) fun c h => h.elim .inr fun h => .inl ((hF c).2 (.inr h))⟩
/-- Work on the second. -/
theorem Both.second {A B' : (Nat → Prop) → Hp → Prop} (a : Part A) {F F1 F2 F2' : Nat → Prop} {H H' : Hp} (hF : ∀ c, F c ↔ F1 c ∨ F2 c) (ha : A F1 H) (hd : ∀ c, F1 c → ¬ F2 c) (hb : B' F2' H') (g : Goes F2 H F2' H') :
    Both A B' (fun c => F1 c ∨ F2' c) H' ∧ Goes F H (fun c => F1 c ∨ F2' c) H' :=
  ⟨⟨F1, F2', a.stays ha g hd, hb, a.apart ha g hd, fun _ => Iff.rfl⟩, g.part (fun c h => (hF c).2 (.inr h)) fun c h => h.elim (fun h => .inl ((hF c).2 (.inl h))) .inr⟩
/-- A new part beside what there is. -/
theorem Both.new {A B : (Nat → Prop) → Hp → Prop} (a : Part A) {F1 F2 : Nat → Prop} {H H' : Hp} (ha : A F1 H) (hb : B F2 H') (g : Goes Nothing H F2 H') : Both A B (fun c => F1 c ∨ F2 c) H' ∧ Goes F1 H (fun c => F1 c ∨ F2 c) H' :=
  ⟨⟨F1, F2, a.stays ha g (fun _ _ h => h), hb, a.apart ha g (fun _ _ h => h), fun _ => Iff.rfl⟩, g.part (fun _ h => h.elim) fun _ h => h.elim .inl .inr⟩

/-- One block. -/
def One (b : Nat) (o : Obj) : (Nat → Prop) → Hp → Prop := fun F H => H b = some o ∧ ∀ c, F c ↔ c = b
theorem One.part (b : Nat) (o : Obj) : Part (One b o) :=
  ⟨fun h hf => ⟨by rw [hf b ((h.2 b).2 rfl)]; exact h.1, h.2⟩, fun h c hc => by rw [(h.2 c).1 hc, h.1]; simp⟩
/-- A row. -/
def Row (k : Nat) (p : Option Addr) (n cap : Nat) (xs : List Value) : (Nat → Prop) → Hp → Prop := fun F H => Own H k p n cap xs ∧ ∀ c, F c ↔ blk p c
theorem Row.part (k : Nat) (p : Option Addr) (n cap : Nat) (xs : List Value) : Part (Row k p n cap xs) :=
  ⟨fun h hf => ⟨h.1.frame fun c hc => hf c ((h.2 c).2 hc), h.2⟩, fun h c hc => h.1.dom ((h.2 c).1 hc)⟩

theorem Goes.alloc {H : Hp} {b : Nat} {o : Obj} (hb : H b = none) : Goes Nothing H (fun c => c = b) (upd H b o) :=
  Goes.new (Keep.new hb Nothing) fun c h => by rw [h]; exact hb
theorem Goes.upd {H : Hp} {b : Nat} {o : Obj} : Goes (fun c => c = b) H (fun c => c = b) (Go.Proofs.Ytohlnmenghbgbaa.upd H b o) := Goes.of Keep.upd
theorem Goes.keeps {F F1 : Nat → Prop} {H H1 : Hp} (a : Goes F H F1 H1) {c : Nat} {o : Obj} (h : H c = some o) (hc : ¬ F c) : H1 c = some o := by rw [a.keep.same c (by rw [h]; simp) hc, h]
theorem Goes.there {F : Nat → Prop} {H H1 : Hp} (a : Goes Nothing H F H1) {c : Nat} {o : Obj} (h : H c = some o) : ¬ F c := fun hc => by have := a.isNew hc; rw [h] at this; cases this

theorem Goes.cell {F F1 : Nat → Prop} {H H1 : Hp} (a : Goes F H F1 H1) {p : Addr} {v : Value} (h : hcell H p = some v) (hc : ¬ F p.block) : hcell H1 p = some v := by
  have : H p.block ≠ none := fun e => by simp [hcell, e] at h
  simp only [hcell, a.keep.same _ this hc] at h ⊢
  exact h
theorem Goes.fresh_cell {F F1 : Nat → Prop} {H H1 : Hp} (a : Goes F H F1 H1) (hF : ∀ c, ¬ F c) {p : Addr} {v : Value} (h : hcell H p = some v) : hcell H1 p = some v := a.cell h (hF _)

theorem Rd.cell {H : Hp} {k n b o i : Nat} {p : Option Addr} {xs : List Value} (h : Rd H k p n xs) (hp : p = some ⟨b, o, none⟩) (hi : i < n * k) : hcell H ⟨b, o + i, none⟩ = xs[i]? := by
  subst hp
  exact h.2.2 i hi

/-- Appending what stands there, letter by letter: the row of those is of no more use. -/
theorem app_lit {P : Program} {sl xt ty e k bytes m : Nat} {e0 : TypeId} {z : Value} {p : Option Addr} {n cap : Nat} {xs : List Value} {c : Array Value} {H : Hp} {K : Value → Hp → Prop}
    (hsl : P.underlying sl = some (.slice e)) (hxt : P.underlying xt = some (.slice e)) (hi : (P.info? e).map (fun i => (i.zero, i.size, i.bytes)) = some (some z, k, bytes)) (hzs : z.cells.size = k)
    (hbytes : bytes ≠ 0) (h : Own H k p n cap xs) (hs : c.size = m * k) (hone : ∀ y ∈ c.toList, one y = true) (hroom : (2 * (n + m) + 512) * bytes ≤ 2 ^ 48)
    (hK : ∀ p' cap' H', Own H' k p' (n + m) cap' (xs ++ c.toList) → Goes (blk p) H (blk p') H' → K (.slice p' (n + m) cap') H') :
    newB (.cells c e0) H fun b H1 => evW P (Builtin.append_ #[sl, xt] ty #[.slice p n cap, .slice (some ⟨b, 0, none⟩) m m]) H1 K := by
  intro b hb
  have g := Goes.alloc (o := .cells c e0) hb
  refine append_at hsl hxt hi hzs hbytes (h.keep g.keep fun _ _ => id) (rd_new hs) hone hroom fun p' cap' H' ho hk hn => hK _ _ _ ho ?_
  exact ((g.more fun _ h => h.elim).less (fun _ h => h) |> fun (g : Goes (blk p) H (fun c => c = b) _) => (⟨g.keep, fun c h => .inl h⟩ : Goes (blk p) H (blk p) _)).trans ⟨hk, hn⟩

/-- Appending to a new row: a copy. -/
theorem app_copy {P : Program} {sl xt ty e k bytes m qc : Nat} {e0 : TypeId} {z : Value} {b : Nat} {q : Option Addr} {ys : List Value} {H : Hp} {K : Value → Hp → Prop}
    (hsl : P.underlying sl = some (.slice e)) (hxt : P.underlying xt = some (.slice e)) (hi : (P.info? e).map (fun i => (i.zero, i.size, i.bytes)) = some (some z, k, bytes)) (hzs : z.cells.size = k)
    (hbytes : bytes ≠ 0) (hb : H b = none) (hq : Rd H k q m ys) (hone : ∀ y ∈ ys, one y = true) (hroom : (2 * m + 512) * bytes ≤ 2 ^ 48)
    (hK : ∀ p' cap' H', Own H' k p' m cap' ys → Goes Nothing H (blk p') H' → K (.slice p' m cap') H') :
    evW P (Builtin.append_ #[sl, xt] ty #[.slice (some ⟨b, 0, none⟩) 0 0, .slice q m qc]) (upd H b (.cells #[] e0)) K := by
  have g := Goes.alloc (o := .cells #[] e0) hb
  refine append_at (xs := []) hsl hxt hi hzs hbytes (Own.new (by simp)) (hq.keep g.keep fun _ _ => id) hone (by simpa using hroom) fun p' cap' H' ho hk hn => ?_
  rw [Nat.zero_add] at ho ⊢
  have g2 : Goes (blk (some ⟨b, 0, none⟩)) _ (blk p') H' := ⟨hk, hn⟩
  exact hK _ _ _ ho ((g.less fun c h => (blk_some.1 h).symm).trans g2)

/-- make, of single cells: a new row. -/
theorem make_own {P : Program} {sl e bytes : Nat} {z : Value} {n : Int} {H : Hp} {K : Value → Hp → Prop}
    (hsl : P.underlying sl = some (.slice e)) (hi : (P.info? e).map (fun i => (i.zero, i.size, i.bytes)) = some (some z, 1, bytes)) (hz : z.cells = #[z]) (h0 : 0 ≤ n) (h1 : n * bytes ≤ 2 ^ 47) (h2 : n < 2 ^ 62)
    (hK : ∀ p H', Own H' 1 p n.toNat n.toNat (List.replicate n.toNat z) → Goes Nothing H (blk p) H' → K (.slice p n.toNat n.toNat) H') : evW P (Instr.makeSlice sl (.int .i64 n) (.int .i64 n)) H K := by
  refine make_at (z := z) hsl hi h0 h1 h2 (by rw [hz]; rfl) (by decide) fun b cs hb hs hc => ?_
  have g := (Goes.alloc (o := .cells cs e (0, 0)) hb).less (F2 := blk (some ⟨b, 0, none⟩)) fun c h => (blk_some.1 h).symm
  refine hK _ _ ?_ g
  have ho := Own.new (H := H) (b := b) (k := 1) (n := n.toNat) (c := cs) (e := e) (by simpa using hs)
  have e1 : cs.toList = List.replicate n.toNat z := by
    apply List.ext_getElem?
    intro i
    rw [Array.getElem?_toList]
    by_cases hi : i < n.toNat
    · rw [hc i (by omega), hz, List.getElem?_replicate, if_pos hi, Nat.mod_one]
      rfl
    · rw [Array.getElem?_eq_none (by omega), List.getElem?_replicate, if_neg hi]
  rw [e1] at ho
  exact ho

/-- clear, of single cells. -/
theorem clear_own {P : Program} {sl e ty bytes cap : Nat} {z : Value} {n : Nat} {p : Option Addr} {xs : List Value} {H : Hp} {K : Value → Hp → Prop}
    (hsl : P.underlying sl = some (.slice e)) (hi : (P.info? e).map (fun i => (i.zero, i.size, i.bytes)) = some (some z, 1, bytes)) (hz : z.cells = #[z]) (h1 : one z = true) (ho : Own H 1 p n cap xs)
    (hK : ∀ H', Own H' 1 p n cap (List.replicate n z) → Goes (blk p) H (blk p) H' → K (.tuple #[]) H') : evW P (Builtin.clear_ #[sl] ty #[.slice p n cap]) H K := by
  obtain ⟨inf, g1, g2, g3, rfl⟩ := info_at hi
  obtain ⟨hl, hle, h3⟩ := ho
  intro w hw
  subst hw
  cases p with
  | none =>
    simp only at h3
    have hn0 : n = 0 := by omega
    subst hn0
    refine ⟨.tuple #[], w, ?_, .refl w, hK _ ⟨rfl, hle, by simpa using h3⟩ (Goes.refl _ _)⟩
    simp [Builtin.clear_, run_underlying hsl, Result.andThen]
  | some a =>
    obtain ⟨hs, c, ee, hb, hsz, hc⟩ := h3
    by_cases hn0 : n = 0
    · subst hn0
      refine ⟨.tuple #[], w, ?_, .refl w, hK _ ⟨rfl, hle, hs, c, ee, hb, hsz, fun i hi => by omega⟩ (Goes.refl _ _)⟩
      simp [Builtin.clear_, run_underlying hsl, Result.andThen]
    · obtain ⟨w', c', r', s', e', z', h4, h5⟩ := hset_run (P := P) hs (vs := List.replicate n z) (i := 0) (w := w) hb (by simp; omega) (fun v hv => by rw [(List.mem_replicate.1 hv).2]; exact h1)
      refine ⟨.tuple #[], w', ?_, s', hK _ ⟨by simp, hle, hs, c', ee, by rw [e']; exact upd_same, by omega, fun i hi => ?_⟩ ?_⟩
      · obtain ⟨m, rfl⟩ : ∃ m, n = m + 1 := ⟨n - 1, by omega⟩
        have hzc : (Builtin.zeroCells z.cells (m + 1)).toList = List.replicate (m + 1) z := by
          rw [hz]
          apply List.ext_getElem?
          intro i
          by_cases hi : i < m + 1
          · simp [Builtin.zeroCells, List.getElem?_replicate, hi, Nat.mod_one]
          · simp [Builtin.zeroCells, List.getElem?_replicate, hi]
        simp [Builtin.clear_, run_underlying hsl, Result.andThen, zeroValue, run_typeInfo g1, g2, hzc, r']
      · have := h4 i (by simp; omega)
        simpa using this
      · rw [e']
        exact Goes.of (Keep.upd.mono fun c h => .inl (blk_some.2 h.symm))

end Go.Proofs.Ytohlnmenghbgbaa
