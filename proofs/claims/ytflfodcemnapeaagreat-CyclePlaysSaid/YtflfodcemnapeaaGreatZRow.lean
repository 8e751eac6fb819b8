/- Merged by merge.py: Row, RowE, RowG, DenI. No condition. -/
import Derived.Test.YtflfodcemnapeaaGreatRows
import Derived.Test.YtflfodcemnapeaaGreatZNum
import Derived.Test.YtflfodcemnapeaaGreatZBase
import Derived.WalkKit
import Derived.ProofKit
import Derived.OpenShut
import Derived.SizedLaws
import Derived.Test.YtflfodcemnapeaaGreatZGraph
import Derived.KernelRfl
import Derived.JoinedOf

namespace Go.Proofs.YtflfodcemnapeaaGreat
set_option linter.unusedSimpArgs false
set_option linter.unusedVariables false
open Go
open Go.ChangeShapes Go.WideShapes Go.ChangeAt Go.RowKit
theorem PR_own : ownKnob PR.godebug = none := by kernel_rfl
theorem PR_laid : laidOutB PR = true := by kernel_rfl

/-- Some cells in a row. -/
def rdN (H : Hp) (a : Addr) : Nat → List Value → Prop := fun n xs => xs.length = n ∧ ∀ i, i < n → hcell H (a.add i) = xs[i]?

/-- What reads as data of a type. -/
def WT (P : Program) (H : Hp) : Nat → TypeId → List Value → Prop
 | 0, _, _ => False
 | fuel + 1, t, cs =>
  match P.underlying t with
  | some .bool => ∃ b, cs = [.bool b]
  | some (.int k) => ∃ n, cs = [.int k n] ∧ (Lit.int k n).wf = true
  | some .string => ∃ s, cs = [.string s] ∧ s.size ≤ maxLen
  | some (.slice e) => cs = [.slice none 0 0] ∨ ∃ a len cap, cs = [.slice (some a) len cap] ∧ len ≤ cap ∧ cap ≤ maxLen ∧ ∀ i, i < len → ∃ xs, rdN H (a.add (i * P.cellsOf e)) (P.cellsOf e) xs ∧ WT P H fuel e xs
  | some (.struct fs) => cs.length = P.cellsOf t ∧ ∀ f ∈ fs.toList, WT P H fuel f.type ((cs.drop f.offset).take (P.cellsOf f.type))
  | _ => True

theorem mapM_some_get {α β : Type} {f : α → Option β} : ∀ {l : List α} {r : List β}, l.mapM f = some r → r.length = l.length ∧ ∀ (i : Nat) x, l[i]? = some x → ∃ y, r[i]? = some y ∧ f x = some y := by
 intro l
 induction l with
 | nil => intro r h; simp at h; subst h; exact ⟨rfl, fun i x hx => by simp at hx⟩
 | cons a l ih =>
  intro r h
  rw [List.mapM_cons] at h
  simp only [Option.bind_eq_bind, Option.bind_eq_some_iff, Option.pure_def, Option.some.injEq] at h
  obtain ⟨y, hy, r', hr, rfl⟩ := h
  obtain ⟨h1, h2⟩ := ih hr
  refine ⟨by simp [h1], fun i x hx => ?_⟩
  cases i with
  | zero => simp at hx; subst hx; exact ⟨y, by simp, hy⟩
  | succ i => simpa using h2 i x (by simpa using hx)

theorem cells?_rdN {w : World} {base : Nat} {a : Addr} {n : Nat} {xs : List Value} (h : w.cells? base a n = some xs) : rdN (hp w) a n xs := by
 unfold World.cells? at h
 split at h
 ·obtain ⟨h1, h2⟩ := mapM_some_get h
  refine ⟨by simpa using h1, fun i hi => ?_⟩
  obtain ⟨y, hy, hc⟩ := h2 i i (by simp [hi])
  rw [hy, ← hc, cell?_hp]
 ·cases h

theorem WT_of_trod {H : Type} {enc : TypeId × Value → H} {w : World} {base : Nat} {spare : Nat → Bool} {held : Bool} : ∀ {fuel : Nat} {t : TypeId} {cs : List Value} {x : DataW H × List MemPlace},
  DataW.trod enc PR w base spare held fuel t cs = some x → WT PR (hp w) fuel t cs := by
 intro fuel
 induction fuel with
 | zero => intro t cs x h; simp [DataW.trod] at h
 | succ fuel ih =>
  intro t cs x h
  unfold WT
  split
  ·rename_i hu
   obtain ⟨b, hb, _⟩ := DataW.trod_bool hu h
   exact ⟨b, hb⟩
  ·rename_i k hu
   obtain ⟨n, hn, _, hw⟩ := DataW.trod_int hu h
   exact ⟨n, hn, hw⟩
  ·rename_i hu
   obtain ⟨s, hs, _, hl⟩ := DataW.trod_string hu h
   exact ⟨s, hs, hl⟩
  ·rename_i e hu
   rcases DataW.trod_slice hu h with ⟨rfl, _⟩ | ⟨a, len, cap, elems, rest, n, hn, rfl, rfl, hb, hl, hm, hlen, hel, hsp, hns⟩
   ·exact .inl rfl
   ·refine .inr ⟨a, len, cap, rfl, hl, hm, fun i hi => ?_⟩
    have h1 := hel i hi
    rw [List.getElem?_eq_getElem (by omega), Option.bind_eq_some_iff] at h1
    obtain ⟨xs, h2, h3⟩ := h1
    obtain rfl : fuel = n := by omega
    exact ⟨xs, cells?_rdN h2, ih h3⟩
  ·rename_i fs hu
   obtain ⟨xs, n, hn, _, hc, hxs, hf⟩ := DataW.trod_struct hu h
   obtain rfl : fuel = n := by omega
   refine ⟨hc, fun f hf' => ?_⟩
   obtain ⟨i, hi, rfl⟩ := List.mem_iff_getElem.1 hf'
   have hi' : i < fs.size := by simpa using hi
   have h1 := hf i fs[i] (by simp [hi'])
   rw [List.getElem?_eq_getElem (by omega)] at h1
   exact ih (by simpa using h1)
  ·trivial

/-- What reads as an argument of a type. -/
def WArg (P : Program) (H : Hp) (t : TypeId) (v : Value) : Prop := ∃ fuel, WT P H fuel t v.cells.toList

theorem WArg_int {H : Hp} {t : TypeId} {k : IntKind} {v : Value} (hu : PR.underlying t = some (.int k)) (hv : ∃ n, v = .int k n) (h : WArg PR H t v) : ∃ n, v = .int k n ∧ k.min ≤ n ∧ n ≤ k.max := by
 obtain ⟨n, rfl⟩ := hv
 obtain ⟨fuel, h⟩ := h
 cases fuel with
 | zero => exact h.elim
 | succ fuel =>
  simp only [WT, hu] at h
  obtain ⟨m, hm, hw⟩ := h
  simp only [Value.cells, List.cons.injEq, Value.int.injEq, true_and, and_true] at hm
  subst hm
  simp only [Lit.wf, Bool.and_eq_true, decide_eq_true_eq] at hw
  exact ⟨n, rfl, hw.1, hw.2⟩

theorem map_of {α : Type} {g : α → List Value} {Q : α → Prop} : ∀ {xss : List (List Value)}, (∀ xs ∈ xss, ∃ y, Q y ∧ xs = g y) → ∃ l : List α, xss = l.map g ∧ ∀ y ∈ l, Q y
 | [], _ => ⟨[], rfl, fun y h => by cases h⟩
 | xs :: xss, h => by
  obtain ⟨y, hy, rfl⟩ := h xs (by simp)
  obtain ⟨l, rfl, hl⟩ := map_of (xss := xss) fun xs hx => h xs (by simp [hx])
  exact ⟨y :: l, rfl, fun z hz => (List.mem_cons.1 hz).elim (fun e => e ▸ hy) (hl z)⟩

theorem WArg_slice {H : Hp} {t e : TypeId} {k : Nat} {v : Value} (hu : PR.underlying t = some (.slice e)) (hk : PR.cellsOf e = k) (hk0 : 0 < k) (hv : ∃ a len cap, v = .slice a len cap) (h : WArg PR H t v) :
  ∃ (p : Option Addr) (n c : Nat) (xss : List (List Value)), v = .slice p n c ∧ n ≤ c ∧ c ≤ maxLen ∧ xss.length = n ∧ (∀ xs ∈ xss, xs.length = k ∧ ∃ fuel, WT PR H fuel e xs) ∧ Rd H k p n xss.flatten := by
 obtain ⟨a0, len0, cap0, rfl⟩ := hv
 obtain ⟨fuel, h⟩ := h
 cases fuel with
 | zero => exact h.elim
 | succ fuel =>
  simp only [WT, hu, hk] at h
  rcases h with h | ⟨a, len, cap, h, hl, hm, hel⟩
  ·simp only [Value.cells, List.cons.injEq, Value.slice.injEq, and_true] at h
   obtain ⟨rfl, rfl, rfl⟩ := h
   exact ⟨none, 0, 0, [], rfl, by omega, by omega, rfl, fun xs h => absurd h (by simp), by simp, rfl⟩
  ·simp only [Value.cells, List.cons.injEq, Value.slice.injEq, and_true] at h
   obtain ⟨rfl, rfl, rfl⟩ := h
   have : ∃ f : Nat → List Value, ∀ i, i < len0 → rdN H (a.add (i * k)) k (f i) ∧ WT PR H fuel e (f i) := by
    have hc : ∀ i, ∃ xs, i < len0 → rdN H (a.add (i * k)) k xs ∧ WT PR H fuel e xs := fun i => by
     by_cases hi : i < len0
     ·obtain ⟨xs, h⟩ := hel i hi
      exact ⟨xs, fun _ => h⟩
     ·exact ⟨[], fun h => absurd h hi⟩
    exact ⟨fun i => Classical.choose (hc i), fun i => Classical.choose_spec (hc i)⟩
   obtain ⟨f, hf⟩ := this
   have hlen : ∀ xs ∈ (List.range len0).map f, xs.length = k := by
    intro xs hx
    obtain ⟨i, hi, rfl⟩ := List.mem_map.1 hx
    exact (hf i (List.mem_range.1 hi)).1.1
   have hs0 : len0 ≠ 0 → a.spot = none := by
    intro h0
    obtain ⟨⟨h1, h2⟩, h3⟩ := hf 0 (by omega)
    have h4 := h2 0 hk0
    rw [List.getElem?_eq_getElem (by omega)] at h4
    obtain ⟨b, o, s⟩ := a
    cases s with
    | none => rfl
    | some s =>
     simp only [hcell, Addr.add] at h4
     split at h4
     ·simp at h4
     ·cases h4
   refine ⟨some a, len0, cap0, (List.range len0).map f, rfl, hl, hm, by simp, fun xs hx => ⟨hlen xs hx, ?_⟩, ?_, ?_, ?_⟩
   ·obtain ⟨i, hi, rfl⟩ := List.mem_map.1 hx
    exact ⟨fuel, (hf i (List.mem_range.1 hi)).2⟩
   ·rw [flatten_len hlen]
    simp
   ·exact hs0
   ·intro i hi
    have hk1 : i / k < len0 := (Nat.div_lt_iff_lt_mul hk0).2 hi
    have hk2 : i % k < k := Nat.mod_lt _ hk0
    have hs : a.spot = none := hs0 (by rintro rfl; omega)
    obtain ⟨⟨h1, h2⟩, h3⟩ := hf (i / k) hk1
    have h4 := h2 (i % k) hk2
    have e0 : i / k * k + i % k = i := Nat.div_add_mod' i k
    have h5 := flatten_get hlen (i := i / k) (j := i % k) (by simpa using hk1) hk2
    rw [e0] at h5
    rw [h5, List.getElem?_map, List.getElem?_range hk1]
    simp only [Option.map_some, Option.getD_some]
    rw [← h4]
    obtain ⟨b, o, s⟩ := a
    simp only at hs
    subst hs
    rw [Zu, Zu, ← e0]
    simp only [e0, Nat.add_assoc]

theorem WT_bool {H : Hp} {t : TypeId} {xs : List Value} (hu : PR.underlying t = some .bool) (h : ∃ fuel, WT PR H fuel t xs) : ∃ b : Bool, True ∧ xs = [.bool b] := by
 obtain ⟨fuel, h⟩ := h
 cases fuel with
 | zero => exact h.elim
 | succ fuel =>
  simp only [WT, hu] at h
  obtain ⟨b, h1⟩ := h
  exact ⟨b, trivial, h1⟩
theorem WT_int {H : Hp} {t : TypeId} {k : IntKind} {xs : List Value} (hu : PR.underlying t = some (.int k)) (h : ∃ fuel, WT PR H fuel t xs) : ∃ n : Int, (k.min ≤ n ∧ n ≤ k.max) ∧ xs = [.int k n] := by
 obtain ⟨fuel, h⟩ := h
 cases fuel with
 | zero => exact h.elim
 | succ fuel =>
  simp only [WT, hu] at h
  obtain ⟨n, h1, h2⟩ := h
  simp only [Lit.wf, Bool.and_eq_true, decide_eq_true_eq] at h2
  exact ⟨n, h2, h1⟩

/-- A field of what reads as a struct. -/
def fieldOf (P : Program) (t : TypeId) (k : Nat) : Option (TypeId × Nat × Nat) := match P.underlying t with
 | some (.struct fs) => fs[k]?.map fun f => (f.type, f.offset, P.cellsOf f.type)
 | _ => none
def structSize (P : Program) (t : TypeId) : Option Nat := match P.underlying t with
 | some (.struct _) => some (P.cellsOf t)
 | _ => none
theorem WT_field {H : Hp} {fuel : Nat} {t ft off n : Nat} {k : Nat} {cs : List Value} (hf : fieldOf PR t k = some (ft, off, n)) (h : WT PR H fuel t cs) : ∃ fuel, WT PR H fuel ft ((cs.drop off).take n) := by
 cases fuel with
 | zero => exact h.elim
 | succ fuel =>
  unfold fieldOf at hf
  unfold WT at h
  split at hf
  ·rename_i fs hu
   rw [hu] at h
   rw [Option.map_eq_some_iff] at hf
   obtain ⟨f, hf, e⟩ := hf
   simp only [Prod.mk.injEq] at e
   obtain ⟨e1, e2, e3⟩ := e
   rw [← e1, ← e2, ← e3]
   have hm : f ∈ fs.toList := by
    rw [← Array.getElem?_toList] at hf
    exact List.mem_of_getElem? hf
   exact ⟨fuel, h.2 f hm⟩
  ·cases hf
theorem WT_size {H : Hp} {fuel : Nat} {t n : Nat} {cs : List Value} (hf : structSize PR t = some n) (h : WT PR H fuel t cs) : cs.length = n := by
 cases fuel with
 | zero => exact h.elim
 | succ fuel =>
  unfold structSize at hf
  unfold WT at h
  split at hf
  ·rename_i fs hu
   rw [hu] at h
   have e := Option.some.inj hf
   rw [← e]
   exact h.1
  ·cases hf
/-- The arguments read as they did behind a call that turned nothing that was there. -/
theorem warg_of {H : Type} {enc : TypeId × Value → H} {W : World} {base : Nat} {sp : Nat → Bool} {held : Bool} {t : TypeId} {v : Value} {d : DataW H} {ps : List MemPlace} (h : DataW.Trod enc PR W base sp held t v d ps) : WArg PR (hp W) t v := by
 obtain ⟨fuel, h⟩ := h
 exact ⟨fuel, WT_of_trod h⟩

theorem args_stay {H : Type} {enc : TypeId × Value → H} {W W' : World} (hb : Below W.heap.size W W') : ∀ {ts : List TypeId} {vs : List Value} {ds : List (DataW H)} {ps : List MemPlace}, (∀ t ∈ ts, PR.readableRec t = true ∧ t < PR.types.size) →
  DataW.TrodAll enc PR W 0 (fun _ => true) true ts vs ds ps → DataW.TrodAll enc PR W' 0 (fun b => decide (b < W.heap.size)) true ts vs ds ps
 | [], [], [], _, _, h => h
 | _ :: _, _ :: _, _ :: _, _, ht, h => by
  have hlt := h.lt
  obtain ⟨p, q, h1, h2, rfl⟩ := h
  exact ⟨p, q, h1 |> fun h => Below.trod PR_laid (ht _ (by simp)).1 (ht _ (by simp)).2 h hb fun x hx => hlt x (by simp [hx]), args_stay hb (fun t h => ht t (by simp [h])) h2, rfl⟩

theorem below_of {w w' : World} (h : Rest w w') (k : Keep Nothing (hp w) (hp w')) : Below w.heap.size w w' :=
 ⟨h.os, h.tape, h.output, h.size, fun b hb => k.same b (by simp [hp, hb]) id⟩

/-- What a law's row asks of a run. -/
theorem post_of {H : Type} {enc : TypeId × Value → H} {f : Func} {s : ChangeSpec} {W W' : World} {args : Array Value} {ds gs : List (DataW H)} {before : List MemPlace} {t : TypeId} (hs : s.vars = [])
  (ht : ∀ t ∈ f.params.toList, PR.readableRec t = true ∧ t < PR.types.size) (hr : f.resultTypes = #[t]) (hb : PR.underlying t = some .bool)
  (hW : DataW.Whole enc PR f.params.toList s.vars false W args.toList ds gs before) (hf : ∀ ds' : List (DataW H), ds'.length = f.params.size → (s.fn H ds').results = [.lit (.bool true)] ∧ (s.fn H ds').args = ds' ∧ (s.fn H ds').vars = [])
  (hB : Below W.heap.size W W') : s.post enc PR f false true false false W args (.bool true) W' := by
 have hW' := hW
 obtain ⟨p, q, hA, hV, rfl, -⟩ := hW'
 rw [hs] at hV
 obtain ⟨rfl, rfl⟩ := trodVars_none hV
 have hlen : ds.length = f.params.size := by
  have : ∀ {ts : List TypeId} {vs : List Value} {ds : List (DataW H)} {ps : List MemPlace}, DataW.TrodAll enc PR W 0 (fun _ => true) true ts vs ds ps → ds.length = ts.length := by
   intro ts
   induction ts with
   | nil => intro vs ds ps h; cases vs <;> cases ds <;> simp_all [DataW.TrodAll]
   | cons t ts ih =>
    intro vs ds ps h
    obtain ⟨_, _, _, _, _, _, rfl, rfl, rfl, _, h2⟩ := trodAll_cons h
    simp [ih h2]
  simpa using this hA
 obtain ⟨e1, e2, e3⟩ := hf ds hlen
 refine ⟨ds, [], p ++ [], [], p, [], hW, ?_, ?_, ?_, hB.frame _, fun h => by cases h⟩
 ·simp only [List.append_nil, e1, hr]
  exact trodAll_cons_mk (shut_bool hb _) trodAll_mk0
 ·simp only [List.append_nil, e2]
  exact args_stay hB ht hA
 ·simp only [List.append_nil, e3, hs]
  exact (rfl : ([] : List MemPlace) = [])

end Go.Proofs.YtflfodcemnapeaaGreat

namespace Go.Proofs.YtflfodcemnapeaaGreat
set_option linter.unusedSimpArgs false
set_option linter.unusedVariables false
open Go
theorem WT_law16_Step {H : Hp} {xs : List Value} (h : ∃ fuel, WT PR H fuel 44 xs) : ∃ y : E_law16_Step, y.ok ∧ xs = y.cells := by
 obtain ⟨fuel, h⟩ := h
 have hl := WT_size (n := 8) (by kernel_rfl) h
 obtain ⟨f0_0, g0_0⟩ := WT_field (k := 0) (ft := 3) (off := 0) (n := 1) (by kernel_rfl) h
 obtain ⟨n0, b0, e0⟩ := WT_int Tryz.underlying3 ⟨f0_0, g0_0⟩
 obtain ⟨f1_0, g1_0⟩ := WT_field (k := 1) (ft := 3) (off := 1) (n := 1) (by kernel_rfl) h
 obtain ⟨n1, b1, e1⟩ := WT_int Tryz.underlying3 ⟨f1_0, g1_0⟩
 obtain ⟨f2_0, g2_0⟩ := WT_field (k := 2) (ft := 3) (off := 2) (n := 1) (by kernel_rfl) h
 obtain ⟨n2, b2, e2⟩ := WT_int Tryz.underlying3 ⟨f2_0, g2_0⟩
 obtain ⟨f3_0, g3_0⟩ := WT_field (k := 3) (ft := 40) (off := 3) (n := 1) (by kernel_rfl) h
 obtain ⟨n3, b3, e3⟩ := WT_int Tryz.underlying40 ⟨f3_0, g3_0⟩
 obtain ⟨f4_0, g4_0⟩ := WT_field (k := 4) (ft := 42) (off := 4) (n := 2) (by kernel_rfl) h
 obtain ⟨f4_1, g4_1⟩ := WT_field (k := 0) (ft := 3) (off := 0) (n := 1) (by kernel_rfl) g4_0
 obtain ⟨n4, b4, e4⟩ := WT_int Tryz.underlying3 ⟨f4_1, g4_1⟩
 obtain ⟨f5_0, g5_0⟩ := WT_field (k := 4) (ft := 42) (off := 4) (n := 2) (by kernel_rfl) h
 obtain ⟨f5_1, g5_1⟩ := WT_field (k := 1) (ft := 40) (off := 1) (n := 1) (by kernel_rfl) g5_0
 obtain ⟨n5, b5, e5⟩ := WT_int Tryz.underlying40 ⟨f5_1, g5_1⟩
 obtain ⟨f6_0, g6_0⟩ := WT_field (k := 5) (ft := 42) (off := 6) (n := 2) (by kernel_rfl) h
 obtain ⟨f6_1, g6_1⟩ := WT_field (k := 0) (ft := 3) (off := 0) (n := 1) (by kernel_rfl) g6_0
 obtain ⟨n6, b6, e6⟩ := WT_int Tryz.underlying3 ⟨f6_1, g6_1⟩
 obtain ⟨f7_0, g7_0⟩ := WT_field (k := 5) (ft := 42) (off := 6) (n := 2) (by kernel_rfl) h
 obtain ⟨f7_1, g7_1⟩ := WT_field (k := 1) (ft := 40) (off := 1) (n := 1) (by kernel_rfl) g7_0
 obtain ⟨n7, b7, e7⟩ := WT_int Tryz.underlying40 ⟨f7_1, g7_1⟩
 clear h g0_0 g1_0 g2_0 g3_0 g4_0 g4_1 g5_0 g5_1 g6_0 g6_1 g7_0 g7_1
 rcases xs with _ | ⟨a0, _ | ⟨a1, _ | ⟨a2, _ | ⟨a3, _ | ⟨a4, _ | ⟨a5, _ | ⟨a6, _ | ⟨a7, _ | ⟨_, _⟩⟩⟩⟩⟩⟩⟩⟩⟩ <;> simp at hl
 simp at e0
 simp at e1
 simp at e2
 simp at e3
 simp at e4
 simp at e5
 simp at e6
 simp at e7
 subst e0 e1 e2 e3 e4 e5 e6 e7
 exact ⟨⟨n0, n1, n2, n3, n4, n5, n6, n7⟩, ⟨b0, b1, b2, b3, b4, b5, b6, b7⟩, rfl⟩

end Go.Proofs.YtflfodcemnapeaaGreat

namespace Go.Proofs.YtflfodcemnapeaaGreat
set_option linter.unusedSimpArgs false
set_option linter.unusedVariables false
open Go
open Go.ChangeShapes Go.WideShapes Go.ChangeAt Go.RowKit
theorem gu_SSint : PR.underlying ty_SSint = some (.slice ty_Sint) := by kernel_rfl
theorem okWide_agg {P : Program} {w : World} {r : Reach} {base : Nat} {t : TypeId} {v : Value} {n : Nat} (hu : structSize P t = some n) (h : Value.okWide P w r base t v) : ∃ cs, v = .agg cs := by
 unfold structSize at hu
 unfold Value.okWide at h
 split at hu
 ·rename_i fs hf
  rw [hf] at h
  obtain ⟨cs, h, _⟩ := h
  exact ⟨cs, h⟩
 ·cases hu
theorem WArg_of {P : Program} {H : Hp} {fuel : Nat} {t : TypeId} {v : Value} {cs : List Value} (h : WT P H fuel t cs) (e : v.cells.toList = cs) : WArg P H t v := ⟨fuel, by rw [e]; exact h⟩
theorem WT_sl {H : Hp} {t e : TypeId} {cs : List Value} (hu : PR.underlying t = some (.slice e)) (h : ∃ fuel, WT PR H fuel t cs) : ∃ v, cs = [v] ∧ (∃ a len cap, v = .slice a len cap) ∧ WArg PR H t v := by
 obtain ⟨fuel, h⟩ := h
 obtain ⟨fuel2, hf2⟩ : ∃ f2, f2 = fuel := ⟨_, rfl⟩
 have h0 : WT PR H fuel2 t cs := by rw [hf2]; exact h
 cases fuel with
 | zero => exact h.elim
 | succ fuel =>
  simp only [WT, hu] at h
  have key : ∀ a len cap, cs = [.slice a len cap] → ∃ v, cs = [v] ∧ (∃ a len cap, v = .slice a len cap) ∧ WArg PR H t v := fun a len cap e => by
   exact ⟨.slice a len cap, e, ⟨_, _, _, rfl⟩, WArg_of h0 (by rw [e]; rfl)⟩
  rcases h with h | ⟨a, len, cap, h, _⟩
  ·exact key _ _ _ h
  ·exact key _ _ _ h
theorem ints_of {H : Hp} {t e : TypeId} {k : IntKind} {v : Value} (hu : PR.underlying t = some (.slice e)) (hk : PR.cellsOf e = 1) (he : PR.underlying e = some (.int k)) (hv : ∃ a len cap, v = .slice a len cap) (h : WArg PR H t v) :
  ∃ (p : Option Addr) (n c : Nat) (l : List Int), v = .slice p n c ∧ n = l.length ∧ n ≤ 9223372036854775807 ∧ Rd H 1 p n (l.map (Value.int k)) ∧ ∀ x ∈ l, k.min ≤ x ∧ x ≤ k.max := by
 obtain ⟨p, n, c, xss, hv, hnc, hc, hlen, hel, hrd⟩ := WArg_slice (k := 1) hu hk (by omega) hv h
 obtain ⟨l, rfl, hl⟩ := map_of (g := fun s => [.int k s]) (Q := fun s : Int => k.min ≤ s ∧ s ≤ k.max) fun xs hx => WT_int he (hel xs hx).2
 rw [flatten_single] at hrd
 have hmx : maxLen = 9223372036854775807 := by decide
 exact ⟨p, n, c, l, hv, by rw [← hlen]; simp, by omega, hrd, hl⟩

theorem WArg_graph {H : Hp} {v : Value} (hv : ∃ cs, v = .agg cs) (h : WArg PR H ty_hand_Graph v) :
  ∃ (rp : Option Addr) (rl rc : Nat) (op : Option Addr) (ol oc : Nat) (ip : Option Addr) (il ic : Nat) (g : Gr), v = .agg #[.slice rp rl rc, .slice op ol oc, .slice ip il ic] ∧ GrA H rp rl op ol ip il g ∧ g.ok := by
 obtain ⟨cs, rfl⟩ := hv
 obtain ⟨fuel, h⟩ := h
 have hmx : maxLen = 9223372036854775807 := by decide
 have hsz := WT_size (n := 3) (by kernel_rfl) h
 have f0 := WT_field (k := 0) (ft := ty_SSint) (off := 0) (n := 1) (by kernel_rfl) h
 have f1 := WT_field (k := 1) (ft := ty_Sbool) (off := 1) (n := 1) (by kernel_rfl) h
 have f2 := WT_field (k := 2) (ft := ty_Sint) (off := 2) (n := 1) (by kernel_rfl) h
 obtain ⟨l⟩ := cs
 simp only [Value.cells] at hsz f0 f1 f2
 match l, hsz, f0, f1, f2 with
 | [a, b, c], _, f0, f1, f2 =>
  simp only [List.drop_zero, List.drop_succ_cons, List.take_succ_cons, List.take_zero] at f0 f1 f2
  obtain ⟨v0, e0, hv0, w0⟩ := WT_sl gu_SSint f0
  obtain ⟨v1, e1, hv1, w1⟩ := WT_sl tu_ty_Sbool f1
  obtain ⟨v2, e2, hv2, w2⟩ := WT_sl tu_ty_Sint f2
  simp only [List.cons.injEq, and_true] at e0 e1 e2
  subst e0 e1 e2
  obtain ⟨ip, il, ic, ll, rfl, hll, hil, hir, hik⟩ := ints_of tu_ty_Sint (by kernel_rfl) (show PR.underlying ty_int = some (.int .i64) by kernel_rfl) hv2 w2
  obtain ⟨op, ol, oc, xss, rfl, hnc, hc, hlen, hel, hrd⟩ := WArg_slice (k := 1) tu_ty_Sbool (by kernel_rfl) (by omega) hv1 w1
  obtain ⟨lb, rfl, _⟩ := map_of (g := fun s => [.bool s]) (Q := fun _ : Bool => True) fun xs hx => WT_bool (show PR.underlying ty_bool = some .bool by kernel_rfl) (hel xs hx).2
  rw [flatten_single] at hrd
  obtain ⟨rp, rl, rc, yss, rfl, hnc2, hc2, hlen2, hel2, hrd2⟩ := WArg_slice (k := 1) gu_SSint (by kernel_rfl) (by omega) hv0 w0
  obtain ⟨rows, rfl, hrows⟩ := map_of (g := fun a : (Option Addr × Nat × Nat) × List Int => [slV a.1]) (Q := fun a : (Option Addr × Nat × Nat) × List Int => a.1.2.1 = a.2.length ∧ a.1.2.1 ≤ 9223372036854775807 ∧ Rd H 1 a.1.1 a.1.2.1 (a.2.map (Value.int .i64)) ∧ ∀ x ∈ a.2, IntKind.min .i64 ≤ x ∧ x ≤ IntKind.max .i64) (xss := yss) fun xs hx => by
   obtain ⟨v, e, hv, w⟩ := WT_sl tu_ty_Sint (hel2 xs hx).2
   obtain ⟨p, n, c, l, rfl, h1, h2, h3, h4⟩ := ints_of tu_ty_Sint (by kernel_rfl) (show PR.underlying ty_int = some (.int .i64) by kernel_rfl) hv w
   exact ⟨((p, n, c), l), ⟨h1, h2, h3, h4⟩, e⟩
  rw [flatten_single] at hrd2
  simp only [List.length_map] at hlen hlen2
  refine ⟨rp, rl, rc, op, ol, oc, ip, il, ic, ⟨rows.map (·.2), lb, ll⟩, rfl, ⟨⟨rows.map (·.1), by rw [List.map_map]; exact hrd2, by simp, fun i t l ht hl => ?_⟩, hrd, hir⟩, ?_⟩
  ·rw [List.getElem?_map, Option.map_eq_some_iff] at ht hl
   obtain ⟨a, ha, rfl⟩ := ht
   obtain ⟨a', ha', rfl⟩ := hl
   rw [ha] at ha'
   cases ha'
   have := hrows a (List.mem_of_getElem? ha)
   exact ⟨this.1, this.2.2.1⟩
  ·refine ⟨by simp only [List.length_map]; omega, fun l hl => ?_, by simp only; omega, by simp only; omega⟩
   obtain ⟨a, ha, rfl⟩ := List.mem_map.1 hl
   have := hrows a ha
   exact ⟨by omega, this.2.2.2⟩

end Go.Proofs.YtflfodcemnapeaaGreat

namespace Go.Proofs.YtflfodcemnapeaaGreat
open Go
set_option maxRecDepth 100000
theorem words_z {r : List Char} {z : List (List Char)} (hz : wordsSigns r = z) {w : List Char} (h : w.all (fun c => c != Char.ofNat 32) = true) : wordsSigns (w ++ Char.ofNat 32 :: r) = w :: z := by
 induction w with
 | nil =>
  show [] :: wordsSigns r = _
  rw [hz]
 | cons c w ih =>
  rw [List.all_cons, Bool.and_eq_true, bne_iff_ne] at h
  have ih := ih h.2
  rw [List.cons_append]
  generalize w ++ Char.ofNat 32 :: r = y at *
  unfold wordsSigns
  split
  ·rename_i e; cases e
  ·rename_i e; cases e; exact absurd rfl h.1
  ·rename_i e1 e2; cases e2; rw [ih]
theorem words_one {w r : List Char} (h : w.all (fun c => c != Char.ofNat 32) = true) : wordsSigns (w ++ Char.ofNat 32 :: r) = w :: wordsSigns r := words_z rfl h
theorem init_is : Tryz.pinned.checked.prog.initOrder = String.ofList (([104, 97, 114, 110, 101, 115, 115].map Char.ofNat) ++ Char.ofNat 32 :: (([102, 49, 49, 98, 49, 49, 101, 51, 48, 52, 49, 49, 102, 53, 97, 55, 100, 56, 53, 99, 100, 57, 48, 55, 101, 56, 55, 102, 99, 100, 57, 48, 99, 53, 49, 50, 48, 50, 102, 98, 100, 57, 56, 54, 97, 100, 99, 54, 57, 48, 52, 98, 100, 49, 51, 56, 53, 102, 48, 98, 55, 51, 57, 54].map Char.ofNat) ++ Char.ofNat 32 :: (([99, 117, 116].map Char.ofNat) ++ Char.ofNat 32 :: ([97, 116, 32, 109, 111, 111, 114, 105, 110, 103, 47, 109, 111, 111, 114, 105, 110, 103, 108, 97, 119, 49, 54, 46, 67, 121, 99, 108, 101, 80, 108, 97, 121, 115].map Char.ofNat)))) := by kernel_rfl
theorem init_words : ∃ X, wordsSigns Tryz.pinned.checked.prog.initOrder.toList = ([104, 97, 114, 110, 101, 115, 115].map Char.ofNat) :: ([102, 49, 49, 98, 49, 49, 101, 51, 48, 52, 49, 49, 102, 53, 97, 55, 100, 56, 53, 99, 100, 57, 48, 55, 101, 56, 55, 102, 99, 100, 57, 48, 99, 53, 49, 50, 48, 50, 102, 98, 100, 57, 56, 54, 97, 100, 99, 54, 57, 48, 52, 98, 100, 49, 51, 56, 53, 102, 48, 98, 55, 51, 57, 54].map Char.ofNat) :: ([99, 117, 116].map Char.ofNat) :: X := by
 rw [init_is, String.toList_ofList, words_one (by kernel_rfl), words_one (by kernel_rfl), words_one (by kernel_rfl)]
 exact ⟨_, rfl⟩
theorem may_of {P : Program} {X : List (List Char)} (h : wordsSigns P.initOrder.toList = ([104, 97, 114, 110, 101, 115, 115].map Char.ofNat) :: ([102, 49, 49, 98, 49, 49, 101, 51, 48, 52, 49, 49, 102, 53, 97, 55, 100, 56, 53, 99, 100, 57, 48, 55, 101, 56, 55, 102, 99, 100, 57, 48, 99, 53, 49, 50, 48, 50, 102, 98, 100, 57, 56, 54, 97, 100, 99, 54, 57, 48, 52, 98, 100, 49, 51, 56, 53, 102, 48, 98, 55, 51, 57, 54].map Char.ofNat) :: ([99, 117, 116].map Char.ofNat) :: X) (h1 : P.laysLater = false) (h2 : P.bearsReflect = false) (h3 : P.doorFits [] = true) : P.mayEnter = true := by
 unfold Program.mayEnter
 have hs : behindMainWord (([104, 97, 114, 110, 101, 115, 115].map Char.ofNat) :: ([102, 49, 49, 98, 49, 49, 101, 51, 48, 52, 49, 49, 102, 53, 97, 55, 100, 56, 53, 99, 100, 57, 48, 55, 101, 56, 55, 102, 99, 100, 57, 48, 99, 53, 49, 50, 48, 50, 102, 98, 100, 57, 56, 54, 97, 100, 99, 54, 57, 48, 52, 98, 100, 49, 51, 56, 53, 102, 48, 98, 55, 51, 57, 54].map Char.ofNat) :: ([99, 117, 116].map Char.ofNat) :: X) = ([99, 117, 116].map Char.ofNat) :: X := by kernel_rfl
 have hl : stripLifts liftWords (([99, 117, 116].map Char.ofNat) :: X) = ([], ([99, 117, 116].map Char.ofNat) :: X) := by kernel_rfl
 rw [h, hs]
 simp only [hl, h1, h2, h3]
 change _ = true
 kernel_rfl
theorem lifts_of {P : Program} {X : List (List Char)} (h : wordsSigns P.initOrder.toList = ([104, 97, 114, 110, 101, 115, 115].map Char.ofNat) :: ([102, 49, 49, 98, 49, 49, 101, 51, 48, 52, 49, 49, 102, 53, 97, 55, 100, 56, 53, 99, 100, 57, 48, 55, 101, 56, 55, 102, 99, 100, 57, 48, 99, 53, 49, 50, 48, 50, 102, 98, 100, 57, 56, 54, 97, 100, 99, 54, 57, 48, 52, 98, 100, 49, 51, 56, 53, 102, 48, 98, 55, 51, 57, 54].map Char.ofNat) :: ([99, 117, 116].map Char.ofNat) :: X) : P.liftsFinal = false := by
 unfold Program.liftsFinal Program.headLifts
 have hs : behindMainWord (([104, 97, 114, 110, 101, 115, 115].map Char.ofNat) :: ([102, 49, 49, 98, 49, 49, 101, 51, 48, 52, 49, 49, 102, 53, 97, 55, 100, 56, 53, 99, 100, 57, 48, 55, 101, 56, 55, 102, 99, 100, 57, 48, 99, 53, 49, 50, 48, 50, 102, 98, 100, 57, 56, 54, 97, 100, 99, 54, 57, 48, 52, 98, 100, 49, 51, 56, 53, 102, 48, 98, 55, 51, 57, 54].map Char.ofNat) :: ([99, 117, 116].map Char.ofNat) :: X) = ([99, 117, 116].map Char.ofNat) :: X := by kernel_rfl
 have hl : stripLifts liftWords (([99, 117, 116].map Char.ofNat) :: X) = ([], ([99, 117, 116].map Char.ofNat) :: X) := by kernel_rfl
 rw [h, hs]
 simp only [hl]
 change _ = false
 kernel_rfl
theorem may_enter : Tryz.pinned.checked.prog.mayEnter = true := init_words.elim fun X h => may_of h (by kernel_rfl) (by kernel_rfl) (by kernel_rfl)
theorem lifts_none : Tryz.pinned.checked.prog.liftsFinal = false := init_words.elim fun X h => lifts_of h
theorem make_of {P : Program} {X : List (List Char)} (h : wordsSigns P.initOrder.toList = ([104, 97, 114, 110, 101, 115, 115].map Char.ofNat) :: ([102, 49, 49, 98, 49, 49, 101, 51, 48, 52, 49, 49, 102, 53, 97, 55, 100, 56, 53, 99, 100, 57, 48, 55, 101, 56, 55, 102, 99, 100, 57, 48, 99, 53, 49, 50, 48, 50, 102, 98, 100, 57, 56, 54, 97, 100, 99, 54, 57, 48, 52, 98, 100, 49, 51, 56, 53, 102, 48, 98, 55, 51, 57, 54].map Char.ofNat) :: ([99, 117, 116].map Char.ofNat) :: X) : P.make = some .cut := by
 unfold Program.make
 have hs : behindMainWord (([104, 97, 114, 110, 101, 115, 115].map Char.ofNat) :: ([102, 49, 49, 98, 49, 49, 101, 51, 48, 52, 49, 49, 102, 53, 97, 55, 100, 56, 53, 99, 100, 57, 48, 55, 101, 56, 55, 102, 99, 100, 57, 48, 99, 53, 49, 50, 48, 50, 102, 98, 100, 57, 56, 54, 97, 100, 99, 54, 57, 48, 52, 98, 100, 49, 51, 56, 53, 102, 48, 98, 55, 51, 57, 54].map Char.ofNat) :: ([99, 117, 116].map Char.ofNat) :: X) = ([99, 117, 116].map Char.ofNat) :: X := by kernel_rfl
 have hl : stripLifts liftWords (([99, 117, 116].map Char.ofNat) :: X) = ([], ([99, 117, 116].map Char.ofNat) :: X) := by kernel_rfl
 rw [h, hs]
 change (if _ then _ else _) = _
 rw [if_neg (by decide), if_pos (by simp)]
theorem make_cut : Tryz.pinned.checked.prog.make = some .cut := init_words.elim fun X h => make_of h
end Go.Proofs.YtflfodcemnapeaaGreat
