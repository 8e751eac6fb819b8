/- Merged by merge.py: Row, RowE, RowS, DenI. No condition. -/
import Derived.Test.YtknejebggegfjaaRows
import Derived.Test.YtknejebggegfjaaZNum
import Derived.Test.YtknejebggegfjaaZBase
import Derived.WalkKit
import Derived.ProofKit
import Derived.OpenShut
import Derived.SizedLaws
import Derived.KernelRfl
import Derived.JoinedOf

namespace Go.Proofs.Ytknejebggegfjaa
set_option linter.unusedSimpArgs false
set_option linter.unusedVariables false
open Go
open Go.ChangeShapes Go.WideShapes Go.ChangeAt Go.RowKit
theorem PR_own : ownKnob PR.godebug = none := by kernel_rfl
theorem PR_laid : laidOutB PR = true := by kernel_rfl

/-- Some cells in a row. -/
def rdN (H : Hp) (a : Addr) : Nat → List Value → Prop := fun n xs => xs.length = n ∧ ∀ i, i < n → hcell H (a.add i) = xs[i]?

/-- What reads as data of a type. -/
def WT (P : Program) (H : Hp) : Nat → TypeId → List Value → Prop
  | 0, _, _ => False
  | fuel + 1, t, cs =>
    match P.underlying t with
    | some .bool => ∃ b, cs = [.bool b]
    | some (.int k) => ∃ n, cs = [.int k n] ∧ (Lit.int k n).wf = true
    | some .string => ∃ s, cs = [.string s] ∧ s.size ≤ maxLen
    | some (.slice e) => cs = [.slice none 0 0] ∨ ∃ a len cap, cs = [.slice (some a) len cap] ∧ len ≤ cap ∧ cap ≤ maxLen ∧ ∀ i, i < len → ∃ xs, rdN H (a.add (i * P.cellsOf e)) (P.cellsOf e) xs ∧ WT P H fuel e xs
    | some (.struct fs) => cs.length = P.cellsOf t ∧ ∀ f ∈ fs.toList, WT P H fuel f.type ((cs.drop f.offset).take (P.cellsOf f.type))
    | _ => True

theorem mapM_some_get {α β : Type} {f : α → Option β} : ∀ {l : List α} {r : List β}, l.mapM f = some r → r.length = l.length ∧ ∀ (i : Nat) x, l[i]? = some x → ∃ y, r[i]? = some y ∧ f x = some y := by
  intro l
  induction l with
  | nil => intro r h; simp at h; subst h; exact ⟨rfl, fun i x hx => by simp at hx⟩
  | cons a l ih =>
    intro r h
    rw [List.mapM_cons] at h
    simp only [Option.bind_eq_bind, Option.bind_eq_some_iff, Option.pure_def, Option.some.injEq] at h
    obtain ⟨y, hy, r', hr, rfl⟩ := h
    obtain ⟨h1, h2⟩ := ih hr
    refine ⟨by simp [h1], fun i x hx => ?_⟩
    cases i with
    | zero => simp at hx; subst hx; exact ⟨y, by simp, hy⟩
    | succ i => simpa using h2 i x (by simpa using hx)

theorem cells?_rdN {w : World} {base : Nat} {a : Addr} {n : Nat} {xs : List Value} (h : w.cells? base a n = some xs) : rdN (hp w) a n xs := by
  unfold World.cells? at h
  split at h
  · obtain ⟨h1, h2⟩ := mapM_some_get h
    refine ⟨by simpa using h1, fun i hi => ?_⟩
    obtain ⟨y, hy, hc⟩ := h2 i i (by simp [hi])
    rw [hy, ← hc, cell?_hp]
  · cases h

theorem WT_of_trod {H : Type} {enc : TypeId × Value → H} {w : World} {base : Nat} {spare : Nat → Bool} {held : Bool} : ∀ {fuel : Nat} {t : TypeId} {cs : List Value} {x : DataW H × List MemPlace},
    DataW.trod enc PR w base spare held fuel t cs = some x → WT PR (hp w) fuel t cs := by
  intro fuel
  induction fuel with
  | zero => intro t cs x h; simp [DataW.trod] at h
  | succ fuel ih =>
    intro t cs x h
    unfold WT
    split
    · rename_i hu
      obtain ⟨b, hb, _⟩ := DataW.trod_bool hu h
      exact ⟨b, hb⟩
    · rename_i k hu
      obtain ⟨n, hn, _, hw⟩ := DataW.trod_int hu h
      exact ⟨n, hn, hw⟩
    · rename_i hu
      obtain ⟨s, hs, _, hl⟩ := DataW.trod_string hu h
      exact ⟨s, hs, hl⟩
    · rename_i e hu
      rcases DataW.trod_slice hu h with ⟨rfl, _⟩ | ⟨a, len, cap, elems, rest, n, hn, rfl, rfl, hb, hl, hm, hlen, hel, hsp, hns⟩
      · exact .inl rfl
      · refine .inr ⟨a, len, cap, rfl, hl, hm, fun i hi => ?_⟩
        have h1 := hel i hi
        rw [List.getElem?_eq_getElem (by omega), Option.bind_eq_some_iff] at h1
        obtain ⟨xs, h2, h3⟩ := h1
        obtain rfl : fuel = n := by omega
        exact ⟨xs, cells?_rdN h2, ih h3⟩
    · rename_i fs hu
      obtain ⟨xs, n, hn, _, hc, hxs, hf⟩ := DataW.trod_struct hu h
      obtain rfl : fuel = n := by omega
      refine ⟨hc, fun f hf' => ?_⟩
      obtain ⟨i, hi, rfl⟩ := List.mem_iff_getElem.1 hf'
      have hi' : i < fs.size := by simpa using hi
      have h1 := hf i fs[i] (by simp [hi'])
      rw [List.getElem?_eq_getElem (by omega)] at h1
      exact ih (by simpa using h1)
    · trivial

/-- What reads as an argument of a type. -/
def WArg (P : Program) (H : Hp) (t : TypeId) (v : Value) : Prop := ∃ fuel, WT P H fuel t v.cells.toList

theorem WArg_int {H : Hp} {t : TypeId} {k : IntKind} {v : Value} (hu : PR.underlying t = some (.int k)) (hv : ∃ n, v = .int k n) (h : WArg PR H t v) : ∃ n, v = .int k n ∧ k.min ≤ n ∧ n ≤ k.max := by
  obtain ⟨n, rfl⟩ := hv
  obtain ⟨fuel, h⟩ := h
  cases fuel with
  | zero => exact h.elim
  | succ fuel =>
    simp only [WT, hu] at h
    obtain ⟨m, hm, hw⟩ := h
    simp only [Value.cells, List.cons.injEq, Value.int.injEq, true_and, and_true] at hm
    subst hm
    simp only [Lit.wf, Bool.and_eq_true, decide_eq_true_eq] at hw
    exact ⟨n, rfl, hw.1, hw.2⟩

theorem WT_int {H : Hp} {t : TypeId} {k : IntKind} {xs : List Value} (hu : PR.underlying t = some (.int k)) (h : ∃ fuel, WT PR H fuel t xs) : ∃ n : Int, (k.min ≤ n ∧ n ≤ k.max) ∧ xs = [.int k n] := by
  obtain ⟨fuel, h⟩ := h
  cases fuel with
  | zero => exact h.elim
  | succ fuel =>
    simp only [WT, hu] at h
    obtain ⟨n, h1, h2⟩ := h
    simp only [Lit.wf, Bool.and_eq_true, decide_eq_true_eq] at h2
    exact ⟨n, h2, h1⟩

/-- A field of what reads as a struct. -/
def fieldOf (P : Program) (t : TypeId) (k : Nat) : Option (TypeId × Nat × Nat) := match P.underlying t with
  | some (.struct fs) => fs[k]?.map fun f => (f.type, f.offset, P.cellsOf f.type)
  | _ => none
def structSize (P : Program) (t : TypeId) : Option Nat := match P.underlying t with
  | some (.struct _) => some (P.cellsOf t)
  | _ => none
theorem WT_field {H : Hp} {fuel : Nat} {t ft off n : Nat} {k : Nat} {cs : List Value} (hf : fieldOf PR t k = some (ft, off, n)) (h : WT PR H fuel t cs) : ∃ fuel, WT PR H fuel ft ((cs.drop off).take n) := by
  cases fuel with
  | zero => exact h.elim
  | succ fuel =>
    unfold fieldOf at hf
    unfold WT at h
    split at hf
    · rename_i fs hu
      rw [hu] at h
      rw [Option.map_eq_some_iff] at hf
      obtain ⟨f, hf, e⟩ := hf
      simp only [Prod.mk.injEq] at e
      obtain ⟨e1, e2, e3⟩ := e
      rw [← e1, ← e2, ← e3]
      have hm : f ∈ fs.toList := by
        rw [← Array.getElem?_toList] at hf
        exact List.mem_of_getElem? hf
      exact ⟨fuel, h.2 f hm⟩
    · cases hf
theorem WT_size {H : Hp} {fuel : Nat} {t n : Nat} {cs : List Value} (hf : structSize PR t = some n) (h : WT PR H fuel t cs) : cs.length = n := by
  cases fuel with
  | zero => exact h.elim
  | succ fuel =>
    unfold structSize at hf
    unfold WT at h
    split at hf
    · rename_i fs hu
      rw [hu] at h
      have e := Option.some.inj hf
      rw [← e]
      exact h.1
    · cases hf
/-- The arguments read as they did behind a call that turned nothing that was there. -/
theorem warg_of {H : Type} {enc : TypeId × Value → H} {W : World} {base : Nat} {sp : Nat → Bool} {held : Bool} {t : TypeId} {v : Value} {d : DataW H} {ps : List MemPlace} (h : DataW.Trod enc PR W base sp held t v d ps) : WArg PR (hp W) t v := by
  obtain ⟨fuel, h⟩ := h
  exact ⟨fuel, WT_of_trod h⟩

theorem args_stay {H : Type} {enc : TypeId × Value → H} {W W' : World} (hb : Below W.heap.size W W') : ∀ {ts : List TypeId} {vs : List Value} {ds : List (DataW H)} {ps : List MemPlace}, (∀ t ∈ ts, PR.readableRec t = true ∧ t < PR.types.size) →
    DataW.TrodAll enc PR W 0 (fun _ => true) true ts vs ds ps → DataW.TrodAll enc PR W' 0 (fun b => decide (b < W.heap.size)) true ts vs ds ps
  | [], [], [], _, _, h => h
  | _ :: _, _ :: _, _ :: _, _, ht, h => by
    have hlt := h.lt
    obtain ⟨p, q, h1, h2, rfl⟩ := h
    exact ⟨p, q, h1 |> fun h => Below.trod PR_laid (ht _ (by simp)).1 (ht _ (by simp)).2 h hb fun x hx => hlt x (by simp [hx]), args_stay hb (fun t h => ht t (by simp [h])) h2, rfl⟩

theorem below_of {w w' : World} (h : Rest w w') (k : Keep Nothing (hp w) (hp w')) : Below w.heap.size w w' :=
  ⟨h.os, h.tape, h.output, h.size, fun b hb => k.same b (by simp [hp, hb]) id⟩

/-- What a law's row asks of a run. -/
theorem post_of {H : Type} {enc : TypeId × Value → H} {f : Func} {s : ChangeSpec} {W W' : World} {args : Array Value} {ds gs : List (DataW H)} {before : List MemPlace} {t : TypeId} (hs : s.vars = [])
    (ht : ∀ t ∈ f.params.toList, PR.readableRec t = true ∧ t < PR.types.size) (hr : f.resultTypes = #[t]) (hb : PR.underlying t = some .bool)
    (hW : DataW.Whole enc PR f.params.toList s.vars false W args.toList ds gs before) (hf : ∀ ds' : List (DataW H), ds'.length = f.params.size → (s.fn H ds').results = [.lit (.bool true)] ∧ (s.fn H ds').args = ds' ∧ (s.fn H ds').vars = [])
    (hB : Below W.heap.size W W') : s.post enc PR f false true false false W args (.bool true) W' := by
  have hW' := hW
  obtain ⟨p, q, hA, hV, rfl, -⟩ := hW'
  rw [hs] at hV
  obtain ⟨rfl, rfl⟩ := trodVars_none hV
  have hlen : ds.length = f.params.size := by
    have : ∀ {ts : List TypeId} {vs : List Value} {ds : List (DataW H)} {ps : List MemPlace}, DataW.TrodAll enc PR W 0 (fun _ => true) true ts vs ds ps → ds.length = ts.length := by
      intro ts
      induction ts with
      | nil => intro vs ds ps h; cases vs <;> cases ds <;> simp_all [DataW.TrodAll]
      | cons t ts ih =>
        intro vs ds ps h
        obtain ⟨_, _, _, _, _, _, rfl, rfl, rfl, _, h2⟩ := trodAll_cons h
        simp [ih h2]
    simpa using this hA
  obtain ⟨e1, e2, e3⟩ := hf ds hlen
  refine ⟨ds, [], p ++ [], [], p, [], hW, ?_, ?_, ?_, hB.frame _, fun h => by cases h⟩
  · simp only [List.append_nil, e1, hr]
    exact trodAll_cons_mk (shut_bool hb _) trodAll_mk0
  · simp only [List.append_nil, e2]
    exact args_stay hB ht hA
  · simp only [List.append_nil, e3, hs]
    exact (rfl : ([] : List MemPlace) = [])

end Go.Proofs.Ytknejebggegfjaa

namespace Go.Proofs.Ytknejebggegfjaa
set_option linter.unusedSimpArgs false
set_option linter.unusedVariables false
open Go
theorem WT_hand_Raw {H : Hp} {xs : List Value} (h : ∃ fuel, WT PR H fuel 24 xs) : ∃ y : E_hand_Raw, y.ok ∧ xs = y.cells := by
  obtain ⟨fuel, h⟩ := h
  have hl := WT_size (n := 22) (by kernel_rfl) h
  obtain ⟨f0_0, g0_0⟩ := WT_field (k := 0) (ft := 3) (off := 0) (n := 1) (by kernel_rfl) h
  obtain ⟨n0, b0, e0⟩ := WT_int Try.underlying3 ⟨f0_0, g0_0⟩
  obtain ⟨f1_0, g1_0⟩ := WT_field (k := 1) (ft := 3) (off := 1) (n := 1) (by kernel_rfl) h
  obtain ⟨n1, b1, e1⟩ := WT_int Try.underlying3 ⟨f1_0, g1_0⟩
  obtain ⟨f2_0, g2_0⟩ := WT_field (k := 2) (ft := 3) (off := 2) (n := 1) (by kernel_rfl) h
  obtain ⟨n2, b2, e2⟩ := WT_int Try.underlying3 ⟨f2_0, g2_0⟩
  obtain ⟨f3_0, g3_0⟩ := WT_field (k := 3) (ft := 3) (off := 3) (n := 1) (by kernel_rfl) h
  obtain ⟨n3, b3, e3⟩ := WT_int Try.underlying3 ⟨f3_0, g3_0⟩
  obtain ⟨f4_0, g4_0⟩ := WT_field (k := 4) (ft := 3) (off := 4) (n := 1) (by kernel_rfl) h
  obtain ⟨n4, b4, e4⟩ := WT_int Try.underlying3 ⟨f4_0, g4_0⟩
  obtain ⟨f5_0, g5_0⟩ := WT_field (k := 5) (ft := 3) (off := 5) (n := 1) (by kernel_rfl) h
  obtain ⟨n5, b5, e5⟩ := WT_int Try.underlying3 ⟨f5_0, g5_0⟩
  obtain ⟨f6_0, g6_0⟩ := WT_field (k := 6) (ft := 3) (off := 6) (n := 1) (by kernel_rfl) h
  obtain ⟨n6, b6, e6⟩ := WT_int Try.underlying3 ⟨f6_0, g6_0⟩
  obtain ⟨f7_0, g7_0⟩ := WT_field (k := 7) (ft := 3) (off := 7) (n := 1) (by kernel_rfl) h
  obtain ⟨n7, b7, e7⟩ := WT_int Try.underlying3 ⟨f7_0, g7_0⟩
  obtain ⟨f8_0, g8_0⟩ := WT_field (k := 8) (ft := 3) (off := 8) (n := 1) (by kernel_rfl) h
  obtain ⟨n8, b8, e8⟩ := WT_int Try.underlying3 ⟨f8_0, g8_0⟩
  obtain ⟨f9_0, g9_0⟩ := WT_field (k := 9) (ft := 3) (off := 9) (n := 1) (by kernel_rfl) h
  obtain ⟨n9, b9, e9⟩ := WT_int Try.underlying3 ⟨f9_0, g9_0⟩
  obtain ⟨f10_0, g10_0⟩ := WT_field (k := 10) (ft := 3) (off := 10) (n := 1) (by kernel_rfl) h
  obtain ⟨n10, b10, e10⟩ := WT_int Try.underlying3 ⟨f10_0, g10_0⟩
  obtain ⟨f11_0, g11_0⟩ := WT_field (k := 11) (ft := 3) (off := 11) (n := 1) (by kernel_rfl) h
  obtain ⟨n11, b11, e11⟩ := WT_int Try.underlying3 ⟨f11_0, g11_0⟩
  obtain ⟨f12_0, g12_0⟩ := WT_field (k := 12) (ft := 3) (off := 12) (n := 1) (by kernel_rfl) h
  obtain ⟨n12, b12, e12⟩ := WT_int Try.underlying3 ⟨f12_0, g12_0⟩
  obtain ⟨f13_0, g13_0⟩ := WT_field (k := 13) (ft := 3) (off := 13) (n := 1) (by kernel_rfl) h
  obtain ⟨n13, b13, e13⟩ := WT_int Try.underlying3 ⟨f13_0, g13_0⟩
  obtain ⟨f14_0, g14_0⟩ := WT_field (k := 14) (ft := 3) (off := 14) (n := 1) (by kernel_rfl) h
  obtain ⟨n14, b14, e14⟩ := WT_int Try.underlying3 ⟨f14_0, g14_0⟩
  obtain ⟨f15_0, g15_0⟩ := WT_field (k := 15) (ft := 3) (off := 15) (n := 1) (by kernel_rfl) h
  obtain ⟨n15, b15, e15⟩ := WT_int Try.underlying3 ⟨f15_0, g15_0⟩
  obtain ⟨f16_0, g16_0⟩ := WT_field (k := 16) (ft := 3) (off := 16) (n := 1) (by kernel_rfl) h
  obtain ⟨n16, b16, e16⟩ := WT_int Try.underlying3 ⟨f16_0, g16_0⟩
  obtain ⟨f17_0, g17_0⟩ := WT_field (k := 17) (ft := 3) (off := 17) (n := 1) (by kernel_rfl) h
  obtain ⟨n17, b17, e17⟩ := WT_int Try.underlying3 ⟨f17_0, g17_0⟩
  obtain ⟨f18_0, g18_0⟩ := WT_field (k := 18) (ft := 3) (off := 18) (n := 1) (by kernel_rfl) h
  obtain ⟨n18, b18, e18⟩ := WT_int Try.underlying3 ⟨f18_0, g18_0⟩
  obtain ⟨f19_0, g19_0⟩ := WT_field (k := 19) (ft := 3) (off := 19) (n := 1) (by kernel_rfl) h
  obtain ⟨n19, b19, e19⟩ := WT_int Try.underlying3 ⟨f19_0, g19_0⟩
  obtain ⟨f20_0, g20_0⟩ := WT_field (k := 20) (ft := 22) (off := 20) (n := 1) (by kernel_rfl) h
  obtain ⟨n20, b20, e20⟩ := WT_int Try.underlying22 ⟨f20_0, g20_0⟩
  obtain ⟨f21_0, g21_0⟩ := WT_field (k := 21) (ft := 22) (off := 21) (n := 1) (by kernel_rfl) h
  obtain ⟨n21, b21, e21⟩ := WT_int Try.underlying22 ⟨f21_0, g21_0⟩
  clear h g0_0 g1_0 g2_0 g3_0 g4_0 g5_0 g6_0 g7_0 g8_0 g9_0 g10_0 g11_0 g12_0 g13_0 g14_0 g15_0 g16_0 g17_0 g18_0 g19_0 g20_0 g21_0
  rcases xs with _ | ⟨a0, _ | ⟨a1, _ | ⟨a2, _ | ⟨a3, _ | ⟨a4, _ | ⟨a5, _ | ⟨a6, _ | ⟨a7, _ | ⟨a8, _ | ⟨a9, _ | ⟨a10, _ | ⟨a11, _ | ⟨a12, _ | ⟨a13, _ | ⟨a14, _ | ⟨a15, _ | ⟨a16, _ | ⟨a17, _ | ⟨a18, _ | ⟨a19, _ | ⟨a20, _ | ⟨a21, _ | ⟨_, _⟩⟩⟩⟩⟩⟩⟩⟩⟩⟩⟩⟩⟩⟩⟩⟩⟩⟩⟩⟩⟩⟩⟩ <;> simp at hl
  simp at e0
  simp at e1
  simp at e2
  simp at e3
  simp at e4
  simp at e5
  simp at e6
  simp at e7
  simp at e8
  simp at e9
  simp at e10
  simp at e11
  simp at e12
  simp at e13
  simp at e14
  simp at e15
  simp at e16
  simp at e17
  simp at e18
  simp at e19
  simp at e20
  simp at e21
  subst e0 e1 e2 e3 e4 e5 e6 e7 e8 e9 e10 e11 e12 e13 e14 e15 e16 e17 e18 e19 e20 e21
  exact ⟨⟨n0, n1, n2, n3, n4, n5, n6, n7, n8, n9, n10, n11, n12, n13, n14, n15, n16, n17, n18, n19, n20, n21⟩, ⟨b0, b1, b2, b3, b4, b5, b6, b7, b8, b9, b10, b11, b12, b13, b14, b15, b16, b17, b18, b19, b20, b21⟩, rfl⟩

end Go.Proofs.Ytknejebggegfjaa

namespace Go.Proofs.Ytknejebggegfjaa
set_option linter.unusedSimpArgs false
set_option linter.unusedVariables false
open Go
open Go.ChangeShapes Go.WideShapes Go.ChangeAt Go.RowKit
theorem okWide_agg2 {P : Program} {w : World} {r : Reach} {base : Nat} {t : TypeId} {v : Value} {n : Nat} (hu : structSize P t = some n) (h : Value.okWide P w r base t v) : ∃ cs, v = .agg cs := by
  unfold structSize at hu
  unfold Value.okWide at h
  split at hu
  · rename_i fs hf
    rw [hf] at h
    obtain ⟨cs, h, _⟩ := h
    exact ⟨cs, h⟩
  · cases hu
theorem WArg_plain {H : Hp} {t : TypeId} {v : Value} {α : Type} {g : α → List Value} {Q : α → Prop} (hv : ∃ cs, v = .agg cs) (hw : ∀ xs, (∃ fuel, WT PR H fuel t xs) → ∃ y, Q y ∧ xs = g y) (h : WArg PR H t v) : ∃ y, Q y ∧ v = .agg (g y).toArray := by
  obtain ⟨cs, rfl⟩ := hv
  obtain ⟨y, hy, e⟩ := hw _ h
  refine ⟨y, hy, ?_⟩
  simp only [Value.cells] at e
  rw [← e]

end Go.Proofs.Ytknejebggegfjaa

namespace Go.Proofs.Ytknejebggegfjaa
open Go
set_option maxRecDepth 100000
theorem words_z {r : List Char} {z : List (List Char)} (hz : wordsSigns r = z) {w : List Char} (h : w.all (fun c => c != Char.ofNat 32) = true) : wordsSigns (w ++ Char.ofNat 32 :: r) = w :: z := by
  induction w with
  | nil =>
    show [] :: wordsSigns r = _
    rw [hz]
  | cons c w ih =>
    rw [List.all_cons, Bool.and_eq_true, bne_iff_ne] at h
    have ih := ih h.2
    rw [List.cons_append]
    generalize w ++ Char.ofNat 32 :: r = y at *
    unfold wordsSigns
    split
    · rename_i e; cases e
    · rename_i e; cases e; exact absurd rfl h.1
    · rename_i e1 e2; cases e2; rw [ih]
theorem words_one {w r : List Char} (h : w.all (fun c => c != Char.ofNat 32) = true) : wordsSigns (w ++ Char.ofNat 32 :: r) = w :: wordsSigns r := words_z rfl h
theorem init_is : Try.pinned.checked.prog.initOrder = String.ofList (([104, 97, 114, 110, 101, 115, 115].map Char.ofNat) ++ Char.ofNat 32 :: (([57, 48, 101, 50, 102, 50, 52, 101, 48, 97, 98, 57, 100, 52, 49, 97, 53, 102, 97, 98, 51, 57, 56, 101, 57, 50, 102, 56, 48, 51, 50, 48, 56, 48, 101, 101, 56, 54, 55, 51, 101, 101, 48, 99, 56, 49, 53, 48, 51, 49, 48, 54, 55, 100, 48, 52, 98, 97, 98, 52, 55, 56, 51, 53].map Char.ofNat) ++ Char.ofNat 32 :: (([99, 117, 116].map Char.ofNat) ++ Char.ofNat 32 :: ([97, 116, 32, 109, 111, 111, 114, 105, 110, 103, 47, 109, 111, 111, 114, 105, 110, 103, 108, 97, 119, 50, 54, 46, 77, 111, 100, 101, 108, 79, 110, 99, 101, 32, 109, 111, 111, 114, 105, 110, 103, 47, 109, 111, 111, 114, 105, 110, 103, 108, 97, 119, 50, 50, 46, 87, 105, 116, 110, 101, 115, 115, 75, 110, 111, 119, 110, 32, 109, 111, 111, 114, 105, 110, 103, 47, 109, 111, 111, 114, 105, 110, 103, 108, 97, 119, 50, 50, 46, 87, 105, 116, 110, 101, 115, 115, 73, 110, 32, 109, 111, 111, 114, 105, 110, 103, 47, 109, 111, 111, 114, 105, 110, 103, 108, 97, 119, 50, 50, 46, 87, 105, 116, 110, 101, 115, 115, 79, 117, 116, 32, 109, 111, 111, 114, 105, 110, 103, 47, 109, 111, 111, 114, 105, 110, 103, 108, 97, 119, 50, 50, 46, 87, 105, 116, 110, 101, 115, 115, 76, 105, 118, 101, 32, 109, 111, 111, 114, 105, 110, 103, 47, 109, 111, 111, 114, 105, 110, 103, 108, 97, 119, 50, 51, 46, 84, 114, 97, 99, 101, 70, 105, 110, 100, 115, 32, 109, 111, 111, 114, 105, 110, 103, 47, 109, 111, 111, 114, 105, 110, 103, 108, 97, 119, 50, 51, 46, 84, 114, 97, 99, 101, 83, 116, 105, 114, 115, 32, 109, 111, 111, 114, 105, 110, 103, 47, 109, 111, 111, 114, 105, 110, 103, 108, 97, 119, 50, 51, 46, 84, 114, 97, 99, 101, 87, 97, 105, 116, 115, 32, 109, 111, 111, 114, 105, 110, 103, 47, 109, 111, 111, 114, 105, 110, 103, 108, 97, 119, 50, 51, 46, 84, 114, 97, 99, 101, 75, 110, 111, 119, 110, 32, 109, 111, 111, 114, 105, 110, 103, 47, 109, 111, 111, 114, 105, 110, 103, 108, 97, 119, 50, 51, 46, 84, 114, 97, 99, 101, 80, 108, 97, 121, 115, 32, 109, 111, 111, 114, 105, 110, 103, 47, 109, 111, 111, 114, 105, 110, 103, 108, 97, 119, 50, 51, 46, 84, 114, 97, 99, 101, 83, 116, 97, 108, 101].map Char.ofNat)))) := by kernel_rfl
theorem init_words : ∃ X, wordsSigns Try.pinned.checked.prog.initOrder.toList = ([104, 97, 114, 110, 101, 115, 115].map Char.ofNat) :: ([57, 48, 101, 50, 102, 50, 52, 101, 48, 97, 98, 57, 100, 52, 49, 97, 53, 102, 97, 98, 51, 57, 56, 101, 57, 50, 102, 56, 48, 51, 50, 48, 56, 48, 101, 101, 56, 54, 55, 51, 101, 101, 48, 99, 56, 49, 53, 48, 51, 49, 48, 54, 55, 100, 48, 52, 98, 97, 98, 52, 55, 56, 51, 53].map Char.ofNat) :: ([99, 117, 116].map Char.ofNat) :: X := by
  rw [init_is, String.toList_ofList, words_one (by kernel_rfl), words_one (by kernel_rfl), words_one (by kernel_rfl)]
  exact ⟨_, rfl⟩
theorem may_of {P : Program} {X : List (List Char)} (h : wordsSigns P.initOrder.toList = ([104, 97, 114, 110, 101, 115, 115].map Char.ofNat) :: ([57, 48, 101, 50, 102, 50, 52, 101, 48, 97, 98, 57, 100, 52, 49, 97, 53, 102, 97, 98, 51, 57, 56, 101, 57, 50, 102, 56, 48, 51, 50, 48, 56, 48, 101, 101, 56, 54, 55, 51, 101, 101, 48, 99, 56, 49, 53, 48, 51, 49, 48, 54, 55, 100, 48, 52, 98, 97, 98, 52, 55, 56, 51, 53].map Char.ofNat) :: ([99, 117, 116].map Char.ofNat) :: X) (h1 : P.laysLater = false) (h2 : P.bearsReflect = false) (h3 : P.doorFits [] = true) : P.mayEnter = true := by
  unfold Program.mayEnter
  have hs : behindMainWord (([104, 97, 114, 110, 101, 115, 115].map Char.ofNat) :: ([57, 48, 101, 50, 102, 50, 52, 101, 48, 97, 98, 57, 100, 52, 49, 97, 53, 102, 97, 98, 51, 57, 56, 101, 57, 50, 102, 56, 48, 51, 50, 48, 56, 48, 101, 101, 56, 54, 55, 51, 101, 101, 48, 99, 56, 49, 53, 48, 51, 49, 48, 54, 55, 100, 48, 52, 98, 97, 98, 52, 55, 56, 51, 53].map Char.ofNat) :: ([99, 117, 116].map Char.ofNat) :: X) = ([99, 117, 116].map Char.ofNat) :: X := by kernel_rfl
  have hl : stripLifts liftWords (([99, 117, 116].map Char.ofNat) :: X) = ([], ([99, 117, 116].map Char.ofNat) :: X) := by kernel_rfl
  rw [h, hs]
  simp only [hl, h1, h2, h3]
  change _ = true
  kernel_rfl
theorem lifts_of {P : Program} {X : List (List Char)} (h : wordsSigns P.initOrder.toList = ([104, 97, 114, 110, 101, 115, 115].map Char.ofNat) :: ([57, 48, 101, 50, 102, 50, 52, 101, 48, 97, 98, 57, 100, 52, 49, 97, 53, 102, 97, 98, 51, 57, 56, 101, 57, 50, 102, 56, 48, 51, 50, 48, 56, 48, 101, 101, 56, 54, 55, 51, 101, 101, 48, 99, 56, 49, 53, 48, 51, 49, 48, 54, 55, 100, 48, 52, 98, 97, 98, 52, 55, 56, 51, 53].map Char.ofNat) :: ([99, 117, 116].map Char.ofNat) :: X) : P.liftsFinal = false := by
  unfold Program.liftsFinal Program.headLifts
  have hs : behindMainWord (([104, 97, 114, 110, 101, 115, 115].map Char.ofNat) :: ([57, 48, 101, 50, 102, 50, 52, 101, 48, 97, 98, 57, 100, 52, 49, 97, 53, 102, 97, 98, 51, 57, 56, 101, 57, 50, 102, 56, 48, 51, 50, 48, 56, 48, 101, 101, 56, 54, 55, 51, 101, 101, 48, 99, 56, 49, 53, 48, 51, 49, 48, 54, 55, 100, 48, 52, 98, 97, 98, 52, 55, 56, 51, 53].map Char.ofNat) :: ([99, 117, 116].map Char.ofNat) :: X) = ([99, 117, 116].map Char.ofNat) :: X := by kernel_rfl
  have hl : stripLifts liftWords (([99, 117, 116].map Char.ofNat) :: X) = ([], ([99, 117, 116].map Char.ofNat) :: X) := by kernel_rfl
  rw [h, hs]
  simp only [hl]
  change _ = false
  kernel_rfl
theorem may_enter : Try.pinned.checked.prog.mayEnter = true := init_words.elim fun X h => may_of h (by kernel_rfl) (by kernel_rfl) (by kernel_rfl)
theorem lifts_none : Try.pinned.checked.prog.liftsFinal = false := init_words.elim fun X h => lifts_of h
theorem make_of {P : Program} {X : List (List Char)} (h : wordsSigns P.initOrder.toList = ([104, 97, 114, 110, 101, 115, 115].map Char.ofNat) :: ([57, 48, 101, 50, 102, 50, 52, 101, 48, 97, 98, 57, 100, 52, 49, 97, 53, 102, 97, 98, 51, 57, 56, 101, 57, 50, 102, 56, 48, 51, 50, 48, 56, 48, 101, 101, 56, 54, 55, 51, 101, 101, 48, 99, 56, 49, 53, 48, 51, 49, 48, 54, 55, 100, 48, 52, 98, 97, 98, 52, 55, 56, 51, 53].map Char.ofNat) :: ([99, 117, 116].map Char.ofNat) :: X) : P.make = some .cut := by
  unfold Program.make
  have hs : behindMainWord (([104, 97, 114, 110, 101, 115, 115].map Char.ofNat) :: ([57, 48, 101, 50, 102, 50, 52, 101, 48, 97, 98, 57, 100, 52, 49, 97, 53, 102, 97, 98, 51, 57, 56, 101, 57, 50, 102, 56, 48, 51, 50, 48, 56, 48, 101, 101, 56, 54, 55, 51, 101, 101, 48, 99, 56, 49, 53, 48, 51, 49, 48, 54, 55, 100, 48, 52, 98, 97, 98, 52, 55, 56, 51, 53].map Char.ofNat) :: ([99, 117, 116].map Char.ofNat) :: X) = ([99, 117, 116].map Char.ofNat) :: X := by kernel_rfl
  have hl : stripLifts liftWords (([99, 117, 116].map Char.ofNat) :: X) = ([], ([99, 117, 116].map Char.ofNat) :: X) := by kernel_rfl
  rw [h, hs]
  change (if _ then _ else _) = _
  rw [if_neg (by decide), if_pos (by simp)]
theorem make_cut : Try.pinned.checked.prog.make = some .cut := init_words.elim fun X h => make_of h
end Go.Proofs.Ytknejebggegfjaa
