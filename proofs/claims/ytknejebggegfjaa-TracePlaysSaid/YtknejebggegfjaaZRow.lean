/- Merged by merge.py: Row, RowS, RowZ, RowE, RowM, RowT, DenI. No condition. -/
import Derived.Test.YtknejebggegfjaaRows
import Derived.Test.YtknejebggegfjaaZNum
import Derived.Test.YtknejebggegfjaaZBase
import Derived.WalkKit
import Derived.ProofKit
import Derived.OpenShut
import Derived.SizedLaws
import Derived.Test.YtknejebggegfjaaZTracec
import Derived.Test.YtknejebggegfjaaZTraceb
import Derived.KernelRfl
import Derived.JoinedOf

namespace Go.Proofs.Ytknejebggegfjaa
set_option linter.unusedSimpArgs false
set_option linter.unusedVariables false
open Go
open Go.ChangeShapes Go.WideShapes Go.ChangeAt Go.RowKit
theorem PR_own : ownKnob PR.godebug = none := by kernel_rfl
theorem PR_laid : laidOutB PR = true := by kernel_rfl

/-- Some cells in a row. -/
def rdN (H : Hp) (a : Addr) : Nat → List Value → Prop := fun n xs => xs.length = n ∧ ∀ i, i < n → hcell H (a.add i) = xs[i]?

/-- What reads as data of a type. -/
def WT (P : Program) (H : Hp) : Nat → TypeId → List Value → Prop
  | 0, _, _ => False
  | fuel + 1, t, cs =>
    match P.underlying t with
    | some .bool => ∃ b, cs = [.bool b]
    | some (.int k) => ∃ n, cs = [.int k n] ∧ (Lit.int k n).wf = true
    | some .string => ∃ s, cs = [.string s] ∧ s.size ≤ maxLen
    | some (.slice e) => cs = [.slice none 0 0] ∨ ∃ a len cap, cs = [.slice (some a) len cap] ∧ len ≤ cap ∧ cap ≤ maxLen ∧ ∀ i, i < len → ∃ xs, rdN H (a.add (i * P.cellsOf e)) (P.cellsOf e) xs ∧ WT P H fuel e xs
    | some (.struct fs) => cs.length = P.cellsOf t ∧ ∀ f ∈ fs.toList, WT P H fuel f.type ((cs.drop f.offset).take (P.cellsOf f.type))
    | _ => True

theorem mapM_some_get {α β : Type} {f : α → Option β} : ∀ {l : List α} {r : List β}, l.mapM f = some r → r.length = l.length ∧ ∀ (i : Nat) x, l[i]? = some x → ∃ y, r[i]? = some y ∧ f x = some y := by
  intro l
  induction l with
  | nil => intro r h; simp at h; subst h; exact ⟨rfl, fun i x hx => by simp at hx⟩
  | cons a l ih =>
    intro r h
    rw [List.mapM_cons] at h
    simp only [Option.bind_eq_bind, Option.bind_eq_some_iff, Option.pure_def, Option.some.injEq] at h
    obtain ⟨y, hy, r', hr, rfl⟩ := h
    obtain ⟨h1, h2⟩ := ih hr
    refine ⟨by simp [h1], fun i x hx => ?_⟩
    cases i with
    | zero => simp at hx; subst hx; exact ⟨y, by simp, hy⟩
    | succ i => simpa using h2 i x (by simpa using hx)

theorem cells?_rdN {w : World} {base : Nat} {a : Addr} {n : Nat} {xs : List Value} (h : w.cells? base a n = some xs) : rdN (hp w) a n xs := by
  unfold World.cells? at h
  split at h
  · obtain ⟨h1, h2⟩ := mapM_some_get h
    refine ⟨by simpa using h1, fun i hi => ?_⟩
    obtain ⟨y, hy, hc⟩ := h2 i i (by simp [hi])
    rw [hy, ← hc, cell?_hp]
  · cases h

theorem WT_of_trod {H : Type} {enc : TypeId × Value → H} {w : World} {base : Nat} {spare : Nat → Bool} {held : Bool} : ∀ {fuel : Nat} {t : TypeId} {cs : List Value} {x : DataW H × List MemPlace},
    DataW.trod enc PR w base spare held fuel t cs = some x → WT PR (hp w) fuel t cs := by
  intro fuel
  induction fuel with
  | zero => intro t cs x h; simp [DataW.trod] at h
  | succ fuel ih =>
    intro t cs x h
    unfold WT
    split
    · rename_i hu
      obtain ⟨b, hb, _⟩ := DataW.trod_bool hu h
      exact ⟨b, hb⟩
    · rename_i k hu
      obtain ⟨n, hn, _, hw⟩ := DataW.trod_int hu h
      exact ⟨n, hn, hw⟩
    · rename_i hu
      obtain ⟨s, hs, _, hl⟩ := DataW.trod_string hu h
      exact ⟨s, hs, hl⟩
    · rename_i e hu
      rcases DataW.trod_slice hu h with ⟨rfl, _⟩ | ⟨a, len, cap, elems, rest, n, hn, rfl, rfl, hb, hl, hm, hlen, hel, hsp, hns⟩
      · exact .inl rfl
      · refine .inr ⟨a, len, cap, rfl, hl, hm, fun i hi => ?_⟩
        have h1 := hel i hi
        rw [List.getElem?_eq_getElem (by omega), Option.bind_eq_some_iff] at h1
        obtain ⟨xs, h2, h3⟩ := h1
        obtain rfl : fuel = n := by omega
        exact ⟨xs, cells?_rdN h2, ih h3⟩
    · rename_i fs hu
      obtain ⟨xs, n, hn, _, hc, hxs, hf⟩ := DataW.trod_struct hu h
      obtain rfl : fuel = n := by omega
      refine ⟨hc, fun f hf' => ?_⟩
      obtain ⟨i, hi, rfl⟩ := List.mem_iff_getElem.1 hf'
      have hi' : i < fs.size := by simpa using hi
      have h1 := hf i fs[i] (by simp [hi'])
      rw [List.getElem?_eq_getElem (by omega)] at h1
      exact ih (by simpa using h1)
    · trivial

/-- What reads as an argument of a type. -/
def WArg (P : Program) (H : Hp) (t : TypeId) (v : Value) : Prop := ∃ fuel, WT P H fuel t v.cells.toList

theorem WArg_int {H : Hp} {t : TypeId} {k : IntKind} {v : Value} (hu : PR.underlying t = some (.int k)) (hv : ∃ n, v = .int k n) (h : WArg PR H t v) : ∃ n, v = .int k n ∧ k.min ≤ n ∧ n ≤ k.max := by
  obtain ⟨n, rfl⟩ := hv
  obtain ⟨fuel, h⟩ := h
  cases fuel with
  | zero => exact h.elim
  | succ fuel =>
    simp only [WT, hu] at h
    obtain ⟨m, hm, hw⟩ := h
    simp only [Value.cells, List.cons.injEq, Value.int.injEq, true_and, and_true] at hm
    subst hm
    simp only [Lit.wf, Bool.and_eq_true, decide_eq_true_eq] at hw
    exact ⟨n, rfl, hw.1, hw.2⟩

theorem map_of {α : Type} {g : α → List Value} {Q : α → Prop} : ∀ {xss : List (List Value)}, (∀ xs ∈ xss, ∃ y, Q y ∧ xs = g y) → ∃ l : List α, xss = l.map g ∧ ∀ y ∈ l, Q y
  | [], _ => ⟨[], rfl, fun y h => by cases h⟩
  | xs :: xss, h => by
    obtain ⟨y, hy, rfl⟩ := h xs (by simp)
    obtain ⟨l, rfl, hl⟩ := map_of (xss := xss) fun xs hx => h xs (by simp [hx])
    exact ⟨y :: l, rfl, fun z hz => (List.mem_cons.1 hz).elim (fun e => e ▸ hy) (hl z)⟩

theorem WT_bool {H : Hp} {t : TypeId} {xs : List Value} (hu : PR.underlying t = some .bool) (h : ∃ fuel, WT PR H fuel t xs) : ∃ b : Bool, True ∧ xs = [.bool b] := by
  obtain ⟨fuel, h⟩ := h
  cases fuel with
  | zero => exact h.elim
  | succ fuel =>
    simp only [WT, hu] at h
    obtain ⟨b, h1⟩ := h
    exact ⟨b, trivial, h1⟩
theorem WT_int {H : Hp} {t : TypeId} {k : IntKind} {xs : List Value} (hu : PR.underlying t = some (.int k)) (h : ∃ fuel, WT PR H fuel t xs) : ∃ n : Int, (k.min ≤ n ∧ n ≤ k.max) ∧ xs = [.int k n] := by
  obtain ⟨fuel, h⟩ := h
  cases fuel with
  | zero => exact h.elim
  | succ fuel =>
    simp only [WT, hu] at h
    obtain ⟨n, h1, h2⟩ := h
    simp only [Lit.wf, Bool.and_eq_true, decide_eq_true_eq] at h2
    exact ⟨n, h2, h1⟩

/-- A field of what reads as a struct. -/
def fieldOf (P : Program) (t : TypeId) (k : Nat) : Option (TypeId × Nat × Nat) := match P.underlying t with
  | some (.struct fs) => fs[k]?.map fun f => (f.type, f.offset, P.cellsOf f.type)
  | _ => none
def structSize (P : Program) (t : TypeId) : Option Nat := match P.underlying t with
  | some (.struct _) => some (P.cellsOf t)
  | _ => none
theorem WT_field {H : Hp} {fuel : Nat} {t ft off n : Nat} {k : Nat} {cs : List Value} (hf : fieldOf PR t k = some (ft, off, n)) (h : WT PR H fuel t cs) : ∃ fuel, WT PR H fuel ft ((cs.drop off).take n) := by
  cases fuel with
  | zero => exact h.elim
  | succ fuel =>
    unfold fieldOf at hf
    unfold WT at h
    split at hf
    · rename_i fs hu
      rw [hu] at h
      rw [Option.map_eq_some_iff] at hf
      obtain ⟨f, hf, e⟩ := hf
      simp only [Prod.mk.injEq] at e
      obtain ⟨e1, e2, e3⟩ := e
      rw [← e1, ← e2, ← e3]
      have hm : f ∈ fs.toList := by
        rw [← Array.getElem?_toList] at hf
        exact List.mem_of_getElem? hf
      exact ⟨fuel, h.2 f hm⟩
    · cases hf
theorem WT_size {H : Hp} {fuel : Nat} {t n : Nat} {cs : List Value} (hf : structSize PR t = some n) (h : WT PR H fuel t cs) : cs.length = n := by
  cases fuel with
  | zero => exact h.elim
  | succ fuel =>
    unfold structSize at hf
    unfold WT at h
    split at hf
    · rename_i fs hu
      rw [hu] at h
      have e := Option.some.inj hf
      rw [← e]
      exact h.1
    · cases hf
/-- The arguments read as they did behind a call that turned nothing that was there. -/
theorem warg_of {H : Type} {enc : TypeId × Value → H} {W : World} {base : Nat} {sp : Nat → Bool} {held : Bool} {t : TypeId} {v : Value} {d : DataW H} {ps : List MemPlace} (h : DataW.Trod enc PR W base sp held t v d ps) : WArg PR (hp W) t v := by
  obtain ⟨fuel, h⟩ := h
  exact ⟨fuel, WT_of_trod h⟩

theorem args_stay {H : Type} {enc : TypeId × Value → H} {W W' : World} (hb : Below W.heap.size W W') : ∀ {ts : List TypeId} {vs : List Value} {ds : List (DataW H)} {ps : List MemPlace}, (∀ t ∈ ts, PR.readableRec t = true ∧ t < PR.types.size) →
    DataW.TrodAll enc PR W 0 (fun _ => true) true ts vs ds ps → DataW.TrodAll enc PR W' 0 (fun b => decide (b < W.heap.size)) true ts vs ds ps
  | [], [], [], _, _, h => h
  | _ :: _, _ :: _, _ :: _, _, ht, h => by
    have hlt := h.lt
    obtain ⟨p, q, h1, h2, rfl⟩ := h
    exact ⟨p, q, h1 |> fun h => Below.trod PR_laid (ht _ (by simp)).1 (ht _ (by simp)).2 h hb fun x hx => hlt x (by simp [hx]), args_stay hb (fun t h => ht t (by simp [h])) h2, rfl⟩

theorem below_of {w w' : World} (h : Rest w w') (k : Keep Nothing (hp w) (hp w')) : Below w.heap.size w w' :=
  ⟨h.os, h.tape, h.output, h.size, fun b hb => k.same b (by simp [hp, hb]) id⟩

/-- What a law's row asks of a run. -/
theorem post_of {H : Type} {enc : TypeId × Value → H} {f : Func} {s : ChangeSpec} {W W' : World} {args : Array Value} {ds gs : List (DataW H)} {before : List MemPlace} {t : TypeId} (hs : s.vars = [])
    (ht : ∀ t ∈ f.params.toList, PR.readableRec t = true ∧ t < PR.types.size) (hr : f.resultTypes = #[t]) (hb : PR.underlying t = some .bool)
    (hW : DataW.Whole enc PR f.params.toList s.vars false W args.toList ds gs before) (hf : ∀ ds' : List (DataW H), ds'.length = f.params.size → (s.fn H ds').results = [.lit (.bool true)] ∧ (s.fn H ds').args = ds' ∧ (s.fn H ds').vars = [])
    (hB : Below W.heap.size W W') : s.post enc PR f false true false false W args (.bool true) W' := by
  have hW' := hW
  obtain ⟨p, q, hA, hV, rfl, -⟩ := hW'
  rw [hs] at hV
  obtain ⟨rfl, rfl⟩ := trodVars_none hV
  have hlen : ds.length = f.params.size := by
    have : ∀ {ts : List TypeId} {vs : List Value} {ds : List (DataW H)} {ps : List MemPlace}, DataW.TrodAll enc PR W 0 (fun _ => true) true ts vs ds ps → ds.length = ts.length := by
      intro ts
      induction ts with
      | nil => intro vs ds ps h; cases vs <;> cases ds <;> simp_all [DataW.TrodAll]
      | cons t ts ih =>
        intro vs ds ps h
        obtain ⟨_, _, _, _, _, _, rfl, rfl, rfl, _, h2⟩ := trodAll_cons h
        simp [ih h2]
    simpa using this hA
  obtain ⟨e1, e2, e3⟩ := hf ds hlen
  refine ⟨ds, [], p ++ [], [], p, [], hW, ?_, ?_, ?_, hB.frame _, fun h => by cases h⟩
  · simp only [List.append_nil, e1, hr]
    exact trodAll_cons_mk (shut_bool hb _) trodAll_mk0
  · simp only [List.append_nil, e2]
    exact args_stay hB ht hA
  · simp only [List.append_nil, e3, hs]
    exact (rfl : ([] : List MemPlace) = [])

end Go.Proofs.Ytknejebggegfjaa

namespace Go.Proofs.Ytknejebggegfjaa
set_option linter.unusedSimpArgs false
set_option linter.unusedVariables false
open Go
open Go.ChangeShapes Go.WideShapes Go.ChangeAt Go.RowKit
theorem okWide_agg2 {P : Program} {w : World} {r : Reach} {base : Nat} {t : TypeId} {v : Value} {n : Nat} (hu : structSize P t = some n) (h : Value.okWide P w r base t v) : ∃ cs, v = .agg cs := by
  unfold structSize at hu
  unfold Value.okWide at h
  split at hu
  · rename_i fs hf
    rw [hf] at h
    obtain ⟨cs, h, _⟩ := h
    exact ⟨cs, h⟩
  · cases hu
theorem WArg_plain {H : Hp} {t : TypeId} {v : Value} {α : Type} {g : α → List Value} {Q : α → Prop} (hv : ∃ cs, v = .agg cs) (hw : ∀ xs, (∃ fuel, WT PR H fuel t xs) → ∃ y, Q y ∧ xs = g y) (h : WArg PR H t v) : ∃ y, Q y ∧ v = .agg (g y).toArray := by
  obtain ⟨cs, rfl⟩ := hv
  obtain ⟨y, hy, e⟩ := hw _ h
  refine ⟨y, hy, ?_⟩
  simp only [Value.cells] at e
  rw [← e]

end Go.Proofs.Ytknejebggegfjaa

namespace Go.Proofs.Ytknejebggegfjaa
set_option linter.unusedSimpArgs false
set_option linter.unusedVariables false
open Go
open Go.ChangeShapes Go.WideShapes Go.ChangeAt Go.RowKit
/-- What reads as data of a type, no list of it larger than may be. -/
def WS (P : Program) (H : Hp) : Nat → TypeId → List Value → Prop
  | 0, _, _ => False
  | fuel + 1, t, cs =>
    match P.underlying t with
    | some .bool => ∃ b, cs = [.bool b]
    | some (.int k) => ∃ n, cs = [.int k n] ∧ (Lit.int k n).wf = true
    | some .string => ∃ s, cs = [.string s] ∧ s.size ≤ maxLen
    | some (.slice e) => cs = [.slice none 0 0] ∨ ∃ a len cap, cs = [.slice (some a) len cap] ∧ len ≤ cap ∧ (cap ≤ maxLen ∧ len * P.bytesOf e ≤ reachBytes) ∧ ∀ i, i < len → ∃ xs, rdN H (a.add (i * P.cellsOf e)) (P.cellsOf e) xs ∧ WS P H fuel e xs
    | some (.struct fs) => cs.length = P.cellsOf t ∧ ∀ f ∈ fs.toList, WS P H fuel f.type ((cs.drop f.offset).take (P.cellsOf f.type))
    | _ => True
theorem WS.wt {P : Program} {H : Hp} : ∀ {fuel : Nat} {t : TypeId} {cs : List Value}, WS P H fuel t cs → WT P H fuel t cs := by
  intro fuel
  induction fuel with
  | zero => intro t cs h; exact h
  | succ fuel ih =>
    intro t cs h
    unfold WS at h
    unfold WT
    split at h <;> rename_i hu <;> (try rw [hu])
    · exact h
    · exact h
    · exact h
    · rcases h with h | ⟨a, len, cap, h1, h2, h3, h4⟩
      · exact .inl h
      · exact .inr ⟨a, len, cap, h1, h2, h3.1, fun i hi => let ⟨xs, h5, h6⟩ := h4 i hi; ⟨xs, h5, ih h6⟩⟩
    · exact ⟨h.1, fun f hf => ih (h.2 f hf)⟩
    · first | trivial | exact h | (split <;> first | trivial | (exfalso; simp_all))
def small {H : Type} (P : Program) (t : TypeId) (d : DataW H) : Prop := ∀ n ∈ d.weights P t, n ≤ reachBytes
theorem small_all {H : Type} {P : Program} {e : TypeId} : ∀ {l : List (DataW H)}, (∀ n ∈ DataW.weightsAll P e l, n ≤ reachBytes) → ∀ d ∈ l, small P e d
  | [], _, d, hd => by cases hd
  | a :: l, h, d, hd => by
    rcases List.mem_cons.1 hd with rfl | hd
    · exact fun n hn => h n (by rw [DataW.weightsAll]; exact List.mem_append.2 (.inl hn))
    · exact small_all (fun n hn => h n (by rw [DataW.weightsAll]; exact List.mem_append.2 (.inr hn))) d hd
theorem small_each {H : Type} {P : Program} : ∀ {ts : List TypeId} {l : List (DataW H)}, (∀ n ∈ DataW.weightsEach P ts l, n ≤ reachBytes) → ∀ (j : Nat) (t : TypeId) (d : DataW H), ts[j]? = some t → l[j]? = some d → small P t d
  | [], _, _, j, t, d, ht, _ => by simp at ht
  | _ :: _, [], _, j, t, d, _, hd => by simp at hd
  | t0 :: ts, d0 :: l, h, 0, t, d, ht, hd => by
    simp at ht hd
    subst ht hd
    exact fun n hn => h n (by rw [DataW.weightsEach]; exact List.mem_append.2 (.inl hn))
  | t0 :: ts, d0 :: l, h, j + 1, t, d, ht, hd => by
    simp at ht hd
    exact small_each (fun n hn => h n (by rw [DataW.weightsEach]; exact List.mem_append.2 (.inr hn))) j t d ht hd
theorem WS_of_trod {H : Type} {enc : TypeId × Value → H} {w : World} {base : Nat} {spare : Nat → Bool} {held : Bool} : ∀ {fuel : Nat} {t : TypeId} {cs : List Value} {x : DataW H × List MemPlace},
    DataW.trod enc PR w base spare held fuel t cs = some x → small PR t x.1 → WS PR (hp w) fuel t cs := by
  intro fuel
  induction fuel with
  | zero => intro t cs x h; simp [DataW.trod] at h
  | succ fuel ih =>
    intro t cs x h hsm
    unfold WS
    split
    · rename_i hu
      obtain ⟨b, hb, _⟩ := DataW.trod_bool hu h
      exact ⟨b, hb⟩
    · rename_i k hu
      obtain ⟨n, hn, _, hw⟩ := DataW.trod_int hu h
      exact ⟨n, hn, hw⟩
    · rename_i hu
      obtain ⟨s, hs, _, hl⟩ := DataW.trod_string hu h
      exact ⟨s, hs, hl⟩
    · rename_i e hu
      rcases DataW.trod_slice hu h with ⟨rfl, _⟩ | ⟨a, len, cap, elems, rest, n, hn, rfl, hx, hb, hl, hm, hlen, hel, hsp, hns⟩
      · exact .inl rfl
      · have hx1 : x.1 = .slice (elems.map (·.1)) (rest.map (·.1)) := by
          have := congrArg Prod.fst hx
          simpa using this
        rw [hx1] at hsm
        unfold small at hsm
        rw [DataW.weights, hu] at hsm
        simp only at hsm
        have h0 := hsm _ (List.mem_cons_self ..)
        have hal := small_all (P := PR) (e := e) (l := elems.map (·.1)) fun n hn => hsm n (List.mem_cons_of_mem _ (List.mem_append.2 (.inl hn)))
        rw [List.length_map, hlen] at h0
        refine .inr ⟨a, len, cap, rfl, hl, ⟨hm, Nat.le_trans (Nat.mul_le_mul_right _ (Nat.le_add_right _ _)) h0⟩, fun i hi => ?_⟩
        have h1 := hel i hi
        rw [List.getElem?_eq_getElem (by omega), Option.bind_eq_some_iff] at h1
        obtain ⟨xs, h2, h3⟩ := h1
        obtain rfl : fuel = n := by omega
        exact ⟨xs, cells?_rdN h2, ih h3 (hal _ (List.mem_map.2 ⟨_, List.getElem_mem _, rfl⟩))⟩
    · rename_i fs hu
      obtain ⟨xs, n, hn, hx, hc, hxs, hf⟩ := DataW.trod_struct hu h
      obtain rfl : fuel = n := by omega
      have hx1 : x.1 = .agg (xs.map (·.1)) := by
        have := congrArg Prod.fst hx
        simpa using this
      rw [hx1] at hsm
      unfold small at hsm
      rw [DataW.weights, hu] at hsm
      simp only at hsm
      have hea := small_each (P := PR) hsm
      refine ⟨hc, fun f hf' => ?_⟩
      obtain ⟨i, hi, rfl⟩ := List.mem_iff_getElem.1 hf'
      have hi' : i < fs.size := by simpa using hi
      have h1 := hf i fs[i] (by simp [hi'])
      rw [List.getElem?_eq_getElem (by omega)] at h1
      refine ih (by simpa using h1) (hea i _ _ ?_ ?_)
      · rw [List.getElem?_map, List.getElem?_eq_getElem hi]; rfl
      · rw [List.getElem?_map, List.getElem?_eq_getElem (by omega)]; rfl
    · trivial

/-- What reads as an argument of a type, with how large it is. -/
def WSArg (P : Program) (H : Hp) (t : TypeId) (v : Value) : Prop := ∃ fuel, WS P H fuel t v.cells.toList
theorem WSArg.wt {P : Program} {H : Hp} {t : TypeId} {v : Value} (h : WSArg P H t v) : WArg P H t v := let ⟨f, h⟩ := h; ⟨f, h.wt⟩
theorem WSlice {H : Hp} {t e : TypeId} {k : Nat} {v : Value} (hu : PR.underlying t = some (.slice e)) (hk : PR.cellsOf e = k) (hk0 : 0 < k) (hv : ∃ a len cap, v = .slice a len cap) (h : WSArg PR H t v) :
    ∃ (p : Option Addr) (n c : Nat) (xss : List (List Value)), v = .slice p n c ∧ n ≤ c ∧ (c ≤ maxLen ∧ n * PR.bytesOf e ≤ reachBytes) ∧ xss.length = n ∧ (∀ xs ∈ xss, xs.length = k ∧ ∃ fuel, WS PR H fuel e xs) ∧ Rd H k p n xss.flatten := by
  obtain ⟨a0, len0, cap0, rfl⟩ := hv
  obtain ⟨fuel, h⟩ := h
  cases fuel with
  | zero => exact h.elim
  | succ fuel =>
    simp only [WS, hu, hk] at h
    rcases h with h | ⟨a, len, cap, h, hl, hm, hel⟩
    · simp only [Value.cells, List.cons.injEq, Value.slice.injEq, and_true] at h
      obtain ⟨rfl, rfl, rfl⟩ := h
      exact ⟨none, 0, 0, [], rfl, by omega, ⟨by omega, by simp⟩, rfl, fun xs h => absurd h (by simp), by simp, rfl⟩
    · simp only [Value.cells, List.cons.injEq, Value.slice.injEq, and_true] at h
      obtain ⟨rfl, rfl, rfl⟩ := h
      have : ∃ f : Nat → List Value, ∀ i, i < len0 → rdN H (a.add (i * k)) k (f i) ∧ WS PR H fuel e (f i) := by
        have hc : ∀ i, ∃ xs, i < len0 → rdN H (a.add (i * k)) k xs ∧ WS PR H fuel e xs := fun i => by
          by_cases hi : i < len0
          · obtain ⟨xs, h⟩ := hel i hi
            exact ⟨xs, fun _ => h⟩
          · exact ⟨[], fun h => absurd h hi⟩
        exact ⟨fun i => Classical.choose (hc i), fun i => Classical.choose_spec (hc i)⟩
      obtain ⟨f, hf⟩ := this
      have hlen : ∀ xs ∈ (List.range len0).map f, xs.length = k := by
        intro xs hx
        obtain ⟨i, hi, rfl⟩ := List.mem_map.1 hx
        exact (hf i (List.mem_range.1 hi)).1.1
      have hs0 : len0 ≠ 0 → a.spot = none := by
        intro h0
        obtain ⟨⟨h1, h2⟩, h3⟩ := hf 0 (by omega)
        have h4 := h2 0 hk0
        rw [List.getElem?_eq_getElem (by omega)] at h4
        obtain ⟨b, o, s⟩ := a
        cases s with
        | none => rfl
        | some s =>
          simp only [hcell, Addr.add] at h4
          split at h4
          · simp at h4
          · cases h4
      refine ⟨some a, len0, cap0, (List.range len0).map f, rfl, hl, hm, by simp, fun xs hx => ⟨hlen xs hx, ?_⟩, ?_, ?_, ?_⟩
      · obtain ⟨i, hi, rfl⟩ := List.mem_map.1 hx
        exact ⟨fuel, (hf i (List.mem_range.1 hi)).2⟩
      · rw [flatten_len hlen]
        simp
      · exact hs0
      · intro i hi
        have hk1 : i / k < len0 := (Nat.div_lt_iff_lt_mul hk0).2 hi
        have hk2 : i % k < k := Nat.mod_lt _ hk0
        have hs : a.spot = none := hs0 (by rintro rfl; omega)
        obtain ⟨⟨h1, h2⟩, h3⟩ := hf (i / k) hk1
        have h4 := h2 (i % k) hk2
        have e0 : i / k * k + i % k = i := Nat.div_add_mod' i k
        have h5 := flatten_get hlen (i := i / k) (j := i % k) (by simpa using hk1) hk2
        rw [e0] at h5
        rw [h5, List.getElem?_map, List.getElem?_range hk1]
        simp only [Option.map_some, Option.getD_some]
        rw [← h4]
        obtain ⟨b, o, s⟩ := a
        simp only at hs
        subst hs
        rw [add_mk, add_mk, ← e0]
        simp only [e0, Nat.add_assoc]

theorem WS_field {H : Hp} {fuel : Nat} {t ft off n : Nat} {k : Nat} {cs : List Value} (hf : fieldOf PR t k = some (ft, off, n)) (h : WS PR H fuel t cs) : ∃ fuel, WS PR H fuel ft ((cs.drop off).take n) := by
  cases fuel with
  | zero => exact h.elim
  | succ fuel =>
    unfold fieldOf at hf
    unfold WS at h
    split at hf
    · rename_i fs hu
      rw [hu] at h
      rw [Option.map_eq_some_iff] at hf
      obtain ⟨f, hf, e⟩ := hf
      simp only [Prod.mk.injEq] at e
      obtain ⟨e1, e2, e3⟩ := e
      rw [← e1, ← e2, ← e3]
      have hm : f ∈ fs.toList := by
        rw [← Array.getElem?_toList] at hf
        exact List.mem_of_getElem? hf
      exact ⟨fuel, h.2 f hm⟩
    · cases hf
theorem wsarg_of {H : Type} {enc : TypeId × Value → H} {W : World} {base : Nat} {sp : Nat → Bool} {held : Bool} {ts : List TypeId} {ds : List (DataW H)} {t j : Nat} {v : Value} {d : DataW H} {ps : List MemPlace}
    (hsz : (DataW.weightsEach PR ts ds).all (· ≤ reachBytes) = true) (ht : ts[j]? = some t) (hd : ds[j]? = some d) (h : DataW.Trod enc PR W base sp held t v d ps) : WSArg PR (hp W) t v := by
  obtain ⟨fuel, h⟩ := h
  exact ⟨fuel, WS_of_trod h (small_each (fun n hn => by simpa using List.all_eq_true.1 hsz n hn) j t d ht hd)⟩
end Go.Proofs.Ytknejebggegfjaa

namespace Go.Proofs.Ytknejebggegfjaa
set_option linter.unusedSimpArgs false
set_option linter.unusedVariables false
open Go
theorem WT_hand_Raw {H : Hp} {xs : List Value} (h : ∃ fuel, WT PR H fuel 24 xs) : ∃ y : E_hand_Raw, y.ok ∧ xs = y.cells := by
  obtain ⟨fuel, h⟩ := h
  have hl := WT_size (n := 22) (by kernel_rfl) h
  obtain ⟨f0_0, g0_0⟩ := WT_field (k := 0) (ft := 3) (off := 0) (n := 1) (by kernel_rfl) h
  obtain ⟨n0, b0, e0⟩ := WT_int Try.underlying3 ⟨f0_0, g0_0⟩
  obtain ⟨f1_0, g1_0⟩ := WT_field (k := 1) (ft := 3) (off := 1) (n := 1) (by kernel_rfl) h
  obtain ⟨n1, b1, e1⟩ := WT_int Try.underlying3 ⟨f1_0, g1_0⟩
  obtain ⟨f2_0, g2_0⟩ := WT_field (k := 2) (ft := 3) (off := 2) (n := 1) (by kernel_rfl) h
  obtain ⟨n2, b2, e2⟩ := WT_int Try.underlying3 ⟨f2_0, g2_0⟩
  obtain ⟨f3_0, g3_0⟩ := WT_field (k := 3) (ft := 3) (off := 3) (n := 1) (by kernel_rfl) h
  obtain ⟨n3, b3, e3⟩ := WT_int Try.underlying3 ⟨f3_0, g3_0⟩
  obtain ⟨f4_0, g4_0⟩ := WT_field (k := 4) (ft := 3) (off := 4) (n := 1) (by kernel_rfl) h
  obtain ⟨n4, b4, e4⟩ := WT_int Try.underlying3 ⟨f4_0, g4_0⟩
  obtain ⟨f5_0, g5_0⟩ := WT_field (k := 5) (ft := 3) (off := 5) (n := 1) (by kernel_rfl) h
  obtain ⟨n5, b5, e5⟩ := WT_int Try.underlying3 ⟨f5_0, g5_0⟩
  obtain ⟨f6_0, g6_0⟩ := WT_field (k := 6) (ft := 3) (off := 6) (n := 1) (by kernel_rfl) h
  obtain ⟨n6, b6, e6⟩ := WT_int Try.underlying3 ⟨f6_0, g6_0⟩
  obtain ⟨f7_0, g7_0⟩ := WT_field (k := 7) (ft := 3) (off := 7) (n := 1) (by kernel_rfl) h
  obtain ⟨n7, b7, e7⟩ := WT_int Try.underlying3 ⟨f7_0, g7_0⟩
  obtain ⟨f8_0, g8_0⟩ := WT_field (k := 8) (ft := 3) (off := 8) (n := 1) (by kernel_rfl) h
  obtain ⟨n8, b8, e8⟩ := WT_int Try.underlying3 ⟨f8_0, g8_0⟩
  obtain ⟨f9_0, g9_0⟩ := WT_field (k := 9) (ft := 3) (off := 9) (n := 1) (by kernel_rfl) h
  obtain ⟨n9, b9, e9⟩ := WT_int Try.underlying3 ⟨f9_0, g9_0⟩
  obtain ⟨f10_0, g10_0⟩ := WT_field (k := 10) (ft := 3) (off := 10) (n := 1) (by kernel_rfl) h
  obtain ⟨n10, b10, e10⟩ := WT_int Try.underlying3 ⟨f10_0, g10_0⟩
  obtain ⟨f11_0, g11_0⟩ := WT_field (k := 11) (ft := 3) (off := 11) (n := 1) (by kernel_rfl) h
  obtain ⟨n11, b11, e11⟩ := WT_int Try.underlying3 ⟨f11_0, g11_0⟩
  obtain ⟨f12_0, g12_0⟩ := WT_field (k := 12) (ft := 3) (off := 12) (n := 1) (by kernel_rfl) h
  obtain ⟨n12, b12, e12⟩ := WT_int Try.underlying3 ⟨f12_0, g12_0⟩
  obtain ⟨f13_0, g13_0⟩ := WT_field (k := 13) (ft := 3) (off := 13) (n := 1) (by kernel_rfl) h
  obtain ⟨n13, b13, e13⟩ := WT_int Try.underlying3 ⟨f13_0, g13_0⟩
  obtain ⟨f14_0, g14_0⟩ := WT_field (k := 14) (ft := 3) (off := 14) (n := 1) (by kernel_rfl) h
  obtain ⟨n14, b14, e14⟩ := WT_int Try.underlying3 ⟨f14_0, g14_0⟩
  obtain ⟨f15_0, g15_0⟩ := WT_field (k := 15) (ft := 3) (off := 15) (n := 1) (by kernel_rfl) h
  obtain ⟨n15, b15, e15⟩ := WT_int Try.underlying3 ⟨f15_0, g15_0⟩
  obtain ⟨f16_0, g16_0⟩ := WT_field (k := 16) (ft := 3) (off := 16) (n := 1) (by kernel_rfl) h
  obtain ⟨n16, b16, e16⟩ := WT_int Try.underlying3 ⟨f16_0, g16_0⟩
  obtain ⟨f17_0, g17_0⟩ := WT_field (k := 17) (ft := 3) (off := 17) (n := 1) (by kernel_rfl) h
  obtain ⟨n17, b17, e17⟩ := WT_int Try.underlying3 ⟨f17_0, g17_0⟩
  obtain ⟨f18_0, g18_0⟩ := WT_field (k := 18) (ft := 3) (off := 18) (n := 1) (by kernel_rfl) h
  obtain ⟨n18, b18, e18⟩ := WT_int Try.underlying3 ⟨f18_0, g18_0⟩
  obtain ⟨f19_0, g19_0⟩ := WT_field (k := 19) (ft := 3) (off := 19) (n := 1) (by kernel_rfl) h
  obtain ⟨n19, b19, e19⟩ := WT_int Try.underlying3 ⟨f19_0, g19_0⟩
  obtain ⟨f20_0, g20_0⟩ := WT_field (k := 20) (ft := 22) (off := 20) (n := 1) (by kernel_rfl) h
  obtain ⟨n20, b20, e20⟩ := WT_int Try.underlying22 ⟨f20_0, g20_0⟩
  obtain ⟨f21_0, g21_0⟩ := WT_field (k := 21) (ft := 22) (off := 21) (n := 1) (by kernel_rfl) h
  obtain ⟨n21, b21, e21⟩ := WT_int Try.underlying22 ⟨f21_0, g21_0⟩
  clear h g0_0 g1_0 g2_0 g3_0 g4_0 g5_0 g6_0 g7_0 g8_0 g9_0 g10_0 g11_0 g12_0 g13_0 g14_0 g15_0 g16_0 g17_0 g18_0 g19_0 g20_0 g21_0
  rcases xs with _ | ⟨a0, _ | ⟨a1, _ | ⟨a2, _ | ⟨a3, _ | ⟨a4, _ | ⟨a5, _ | ⟨a6, _ | ⟨a7, _ | ⟨a8, _ | ⟨a9, _ | ⟨a10, _ | ⟨a11, _ | ⟨a12, _ | ⟨a13, _ | ⟨a14, _ | ⟨a15, _ | ⟨a16, _ | ⟨a17, _ | ⟨a18, _ | ⟨a19, _ | ⟨a20, _ | ⟨a21, _ | ⟨_, _⟩⟩⟩⟩⟩⟩⟩⟩⟩⟩⟩⟩⟩⟩⟩⟩⟩⟩⟩⟩⟩⟩⟩ <;> simp at hl
  simp at e0
  simp at e1
  simp at e2
  simp at e3
  simp at e4
  simp at e5
  simp at e6
  simp at e7
  simp at e8
  simp at e9
  simp at e10
  simp at e11
  simp at e12
  simp at e13
  simp at e14
  simp at e15
  simp at e16
  simp at e17
  simp at e18
  simp at e19
  simp at e20
  simp at e21
  subst e0 e1 e2 e3 e4 e5 e6 e7 e8 e9 e10 e11 e12 e13 e14 e15 e16 e17 e18 e19 e20 e21
  exact ⟨⟨n0, n1, n2, n3, n4, n5, n6, n7, n8, n9, n10, n11, n12, n13, n14, n15, n16, n17, n18, n19, n20, n21⟩, ⟨b0, b1, b2, b3, b4, b5, b6, b7, b8, b9, b10, b11, b12, b13, b14, b15, b16, b17, b18, b19, b20, b21⟩, rfl⟩

theorem WT_api_ID {H : Hp} {xs : List Value} (h : ∃ fuel, WT PR H fuel 35 xs) : ∃ y : E_api_ID, y.ok ∧ xs = y.cells := by
  obtain ⟨fuel, h⟩ := h
  have hl := WT_size (n := 2) (by kernel_rfl) h
  obtain ⟨f0_0, g0_0⟩ := WT_field (k := 0) (ft := 3) (off := 0) (n := 1) (by kernel_rfl) h
  obtain ⟨n0, b0, e0⟩ := WT_int Try.underlying3 ⟨f0_0, g0_0⟩
  obtain ⟨f1_0, g1_0⟩ := WT_field (k := 1) (ft := 22) (off := 1) (n := 1) (by kernel_rfl) h
  obtain ⟨n1, b1, e1⟩ := WT_int Try.underlying22 ⟨f1_0, g1_0⟩
  clear h g0_0 g1_0
  rcases xs with _ | ⟨a0, _ | ⟨a1, _ | ⟨_, _⟩⟩⟩ <;> simp at hl
  simp at e0
  simp at e1
  subst e0 e1
  exact ⟨⟨n0, n1⟩, ⟨b0, b1⟩, rfl⟩

end Go.Proofs.Ytknejebggegfjaa

namespace Go.Proofs.Ytknejebggegfjaa
set_option linter.unusedSimpArgs false
set_option linter.unusedVariables false
open Go
open Go.ChangeShapes Go.WideShapes Go.ChangeAt Go.RowKit
theorem WS_sl {H : Hp} {t e : TypeId} {cs : List Value} (hu : PR.underlying t = some (.slice e)) (h : ∃ fuel, WS PR H fuel t cs) : ∃ v, cs = [v] ∧ (∃ a len cap, v = .slice a len cap) ∧ WSArg PR H t v := by
  obtain ⟨fuel, h⟩ := h
  obtain ⟨fuel2, hf2⟩ : ∃ f2, f2 = fuel := ⟨_, rfl⟩
  have h0 : WS PR H fuel2 t cs := by rw [hf2]; exact h
  have key : ∀ a len cap, cs = [.slice a len cap] → ∃ v, cs = [v] ∧ (∃ a len cap, v = .slice a len cap) ∧ WSArg PR H t v := fun a len cap e => ⟨.slice a len cap, e, ⟨_, _, _, rfl⟩, ⟨fuel2, by show WS PR H fuel2 t [.slice a len cap]; rw [← e]; exact h0⟩⟩
  cases fuel with
  | zero => exact h.elim
  | succ fuel =>
    simp only [WS, hu] at h
    rcases h with h | ⟨a, len, cap, h, _⟩
    · exact key _ _ _ h
    · exact key _ _ _ h
end Go.Proofs.Ytknejebggegfjaa

namespace Go.Proofs.Ytknejebggegfjaa
set_option linter.unusedSimpArgs false
set_option linter.unusedVariables false
set_option maxRecDepth 20000
open Go
open Go.ChangeShapes Go.WideShapes Go.ChangeAt Go.RowKit
/-- A step, whole. -/
structure Stp where
  what : Int
  code : Int
  off : Int
  stamp : Int
  n : Int
  lp : Option Addr
  ll : Nat
  lc : Nat
  near : Bool
  l : List Int
  g : Mg
def Stp.cells (x : Stp) : List Value := [.int .i64 x.what, .int .i64 x.code, .int .i64 x.off, .int .u64 x.stamp, .int .u64 x.n, .slice x.lp x.ll x.lc, .bool x.near, .int .i64 x.g.m.kind, .int .i64 x.g.m.frm, .int .i64 x.g.m.to, .int .u64 x.g.m.call, .int .u64 x.g.f4, .int .i64 x.g.f5, .int .i64 x.g.f6, .int .i64 x.g.m.item, .int .i64 x.g.f8, .int .u64 x.g.f9, .slice x.g.rp x.g.rl x.g.rc, .int .u64 x.g.f11, .int .i64 x.g.m.code, .int .u64 x.g.f13, .int .i64 x.g.f14, .int .u64 x.g.f15, .int .i64 x.g.f16, .int .u64 x.g.m.stamp, .slice x.g.lp x.g.ll x.g.lc]
def Stp.val (x : Stp) : Value := .agg #[.int .i64 x.what, .int .i64 x.code, .int .i64 x.off, .int .u64 x.stamp, .int .u64 x.n, .slice x.lp x.ll x.lc, .bool x.near, .int .i64 x.g.m.kind, .int .i64 x.g.m.frm, .int .i64 x.g.m.to, .int .u64 x.g.m.call, .int .u64 x.g.f4, .int .i64 x.g.f5, .int .i64 x.g.f6, .int .i64 x.g.m.item, .int .i64 x.g.f8, .int .u64 x.g.f9, .slice x.g.rp x.g.rl x.g.rc, .int .u64 x.g.f11, .int .i64 x.g.m.code, .int .u64 x.g.f13, .int .i64 x.g.f14, .int .u64 x.g.f15, .int .i64 x.g.f16, .int .u64 x.g.m.stamp, .slice x.g.lp x.g.ll x.g.lc]
theorem Stp.len (x : Stp) : x.cells.length = 26 := rfl
/-- What is read of it. -/
structure Stp.good (H : Hp) (x : Stp) : Prop where
  rd : Rd H 1 x.lp x.ll (x.l.map (Value.int .u64))
  sz : x.ll * 8 ≤ 140737488351232
  pos : ∀ v ∈ x.l, 0 ≤ v ∧ v < 18446744073709551616
  rdm : Rd H 1 x.g.lp x.g.ll (x.g.m.list.map (Value.int .u64))
  szm : x.g.ll * 8 ≤ 140737488351232
  posm : ∀ v ∈ x.g.m.list, 0 ≤ v ∧ v < 18446744073709551616

theorem unc {α : Type} {n : Nat} {xs : List α} (h : xs.length = n + 1) : ∃ a l, xs = a :: l ∧ l.length = n := by
  cases xs with
  | nil => cases h
  | cons a l => exact ⟨a, l, rfl, by simpa using h⟩
theorem wt1 {H : Hp} {t : TypeId} {xs : List Value} (h : ∃ fuel, WS PR H fuel t xs) : ∃ fuel, WT PR H fuel t xs := let ⟨f, h⟩ := h; ⟨f, h.wt⟩
theorem nums_of {H : Hp} {v : Value} (hv : ∃ a len cap, v = .slice a len cap) (h : WSArg PR H ty_Suint64 v) : ∃ (p : Option Addr) (n c : Nat) (l : List Int), v = .slice p n c ∧ Rd H 1 p n (l.map (Value.int .u64)) ∧ n * 8 ≤ 140737488351232 ∧ ∀ x ∈ l, 0 ≤ x ∧ x < 18446744073709551616 := by
  obtain ⟨p, n, c, xss, rfl, hnc, hsz, hlen, hel, hrd⟩ := WSlice (k := 1) tu_ty_Suint64 (by kernel_rfl) (by omega) hv h
  obtain ⟨l, rfl, hl⟩ := map_of (g := fun s => [.int .u64 s]) (Q := fun s : Int => IntKind.min .u64 ≤ s ∧ s ≤ IntKind.max .u64) fun xs hx => WT_int (show PR.underlying ty_uint64 = some (.int .u64) by kernel_rfl) (wt1 (hel xs hx).2)
  rw [flatten_single] at hrd
  have h2 : PR.bytesOf ty_uint64 = 8 := by kernel_rfl
  have h3 : reachBytes = 140737488351232 := by decide
  rw [h2, h3] at hsz
  refine ⟨p, n, c, l, rfl, hrd, hsz.2, fun x hx => ?_⟩
  have := hl x hx
  have m1 : IntKind.min .u64 = 0 := by decide
  have m2 : IntKind.max .u64 = 18446744073709551615 := by decide
  omega
theorem step_of {H : Hp} {xs : List Value} (hl : xs.length = 26) (h : ∃ fuel, WS PR H fuel ty_law23_Step xs) : ∃ x : Stp, x.good H ∧ xs = x.cells := by
  obtain ⟨fuel, h⟩ := h
  obtain ⟨x0, xs0, e0, hl0⟩ := unc hl
  subst e0
  obtain ⟨x1, xs1, e1, hl1⟩ := unc hl0
  subst e1
  obtain ⟨x2, xs2, e2, hl2⟩ := unc hl1
  subst e2
  obtain ⟨x3, xs3, e3, hl3⟩ := unc hl2
  subst e3
  obtain ⟨x4, xs4, e4, hl4⟩ := unc hl3
  subst e4
  obtain ⟨x5, xs5, e5, hl5⟩ := unc hl4
  subst e5
  obtain ⟨x6, xs6, e6, hl6⟩ := unc hl5
  subst e6
  obtain ⟨x7, xs7, e7, hl7⟩ := unc hl6
  subst e7
  obtain ⟨x8, xs8, e8, hl8⟩ := unc hl7
  subst e8
  obtain ⟨x9, xs9, e9, hl9⟩ := unc hl8
  subst e9
  obtain ⟨x10, xs10, e10, hl10⟩ := unc hl9
  subst e10
  obtain ⟨x11, xs11, e11, hl11⟩ := unc hl10
  subst e11
  obtain ⟨x12, xs12, e12, hl12⟩ := unc hl11
  subst e12
  obtain ⟨x13, xs13, e13, hl13⟩ := unc hl12
  subst e13
  obtain ⟨x14, xs14, e14, hl14⟩ := unc hl13
  subst e14
  obtain ⟨x15, xs15, e15, hl15⟩ := unc hl14
  subst e15
  obtain ⟨x16, xs16, e16, hl16⟩ := unc hl15
  subst e16
  obtain ⟨x17, xs17, e17, hl17⟩ := unc hl16
  subst e17
  obtain ⟨x18, xs18, e18, hl18⟩ := unc hl17
  subst e18
  obtain ⟨x19, xs19, e19, hl19⟩ := unc hl18
  subst e19
  obtain ⟨x20, xs20, e20, hl20⟩ := unc hl19
  subst e20
  obtain ⟨x21, xs21, e21, hl21⟩ := unc hl20
  subst e21
  obtain ⟨x22, xs22, e22, hl22⟩ := unc hl21
  subst e22
  obtain ⟨x23, xs23, e23, hl23⟩ := unc hl22
  subst e23
  obtain ⟨x24, xs24, e24, hl24⟩ := unc hl23
  subst e24
  obtain ⟨x25, xs25, e25, hl25⟩ := unc hl24
  subst e25
  obtain rfl : xs25 = [] := List.eq_nil_of_length_eq_zero hl25
  have f0 := WS_field (k := 0) (ft := ty_int) (off := 0) (n := 1) (by kernel_rfl) h
  have f1 := WS_field (k := 1) (ft := ty_int) (off := 1) (n := 1) (by kernel_rfl) h
  have f2 := WS_field (k := 2) (ft := ty_int) (off := 2) (n := 1) (by kernel_rfl) h
  have f3 := WS_field (k := 3) (ft := ty_uint64) (off := 3) (n := 1) (by kernel_rfl) h
  have f4 := WS_field (k := 4) (ft := ty_uint64) (off := 4) (n := 1) (by kernel_rfl) h
  have f5 := WS_field (k := 5) (ft := ty_Suint64) (off := 5) (n := 1) (by kernel_rfl) h
  have f6 := WS_field (k := 6) (ft := ty_bool) (off := 6) (n := 1) (by kernel_rfl) h
  have f7 := WS_field (k := 7) (ft := ty_api_Msg) (off := 7) (n := 19) (by kernel_rfl) h
  simp only [List.drop_zero, List.drop_succ_cons, List.take_succ_cons, List.take_zero] at f0 f1 f2 f3 f4 f5 f6 f7
  obtain ⟨fuel2, f7⟩ := f7
  have m0 := WS_field (k := 0) (ft := ty_int) (off := 0) (n := 1) (by kernel_rfl) f7
  have m1 := WS_field (k := 1) (ft := ty_int) (off := 1) (n := 1) (by kernel_rfl) f7
  have m2 := WS_field (k := 2) (ft := ty_int) (off := 2) (n := 1) (by kernel_rfl) f7
  have m3 := WS_field (k := 3) (ft := ty_uint64) (off := 3) (n := 1) (by kernel_rfl) f7
  have m4 := WS_field (k := 4) (ft := ty_uint64) (off := 4) (n := 1) (by kernel_rfl) f7
  have m5 := WS_field (k := 5) (ft := ty_int) (off := 5) (n := 1) (by kernel_rfl) f7
  have m6 := WS_field (k := 6) (ft := ty_int) (off := 6) (n := 1) (by kernel_rfl) f7
  have m7 := WS_field (k := 7) (ft := ty_int) (off := 7) (n := 1) (by kernel_rfl) f7
  have m8 := WS_field (k := 8) (ft := ty_api_ID) (off := 8) (n := 2) (by kernel_rfl) f7
  have m9 := WS_field (k := 9) (ft := ty_Sapi_ID) (off := 10) (n := 1) (by kernel_rfl) f7
  have m10 := WS_field (k := 10) (ft := ty_uint64) (off := 11) (n := 1) (by kernel_rfl) f7
  have m11 := WS_field (k := 11) (ft := ty_int) (off := 12) (n := 1) (by kernel_rfl) f7
  have m12 := WS_field (k := 12) (ft := ty_uint64) (off := 13) (n := 1) (by kernel_rfl) f7
  have m13 := WS_field (k := 13) (ft := ty_int) (off := 14) (n := 1) (by kernel_rfl) f7
  have m14 := WS_field (k := 14) (ft := ty_uint64) (off := 15) (n := 1) (by kernel_rfl) f7
  have m15 := WS_field (k := 15) (ft := ty_int) (off := 16) (n := 1) (by kernel_rfl) f7
  have m16 := WS_field (k := 16) (ft := ty_uint64) (off := 17) (n := 1) (by kernel_rfl) f7
  have m17 := WS_field (k := 17) (ft := ty_Suint64) (off := 18) (n := 1) (by kernel_rfl) f7
  simp only [List.drop_zero, List.drop_succ_cons, List.take_succ_cons, List.take_zero] at m0 m1 m2 m3 m4 m5 m6 m7 m8 m9 m10 m11 m12 m13 m14 m15 m16 m17
  clear f7 h
  obtain ⟨a0, _, e_a0⟩ := WT_int (show PR.underlying ty_int = some (.int .i64) by kernel_rfl) (wt1 f0)
  obtain ⟨a1, _, e_a1⟩ := WT_int (show PR.underlying ty_int = some (.int .i64) by kernel_rfl) (wt1 f1)
  obtain ⟨a2, _, e_a2⟩ := WT_int (show PR.underlying ty_int = some (.int .i64) by kernel_rfl) (wt1 f2)
  obtain ⟨a3, _, e_a3⟩ := WT_int (show PR.underlying ty_uint64 = some (.int .u64) by kernel_rfl) (wt1 f3)
  obtain ⟨a4, _, e_a4⟩ := WT_int (show PR.underlying ty_uint64 = some (.int .u64) by kernel_rfl) (wt1 f4)
  obtain ⟨v5, e_v5, hv5, w5⟩ := WS_sl tu_ty_Suint64 f5
  obtain ⟨lp, ll, lc, l, e_l, r1, r2, r3⟩ := nums_of hv5 w5
  subst e_l
  obtain ⟨nr, _, e_nr⟩ := WT_bool (show PR.underlying ty_bool = some .bool by kernel_rfl) (wt1 f6)
  obtain ⟨b0, _, e_b0⟩ := WT_int (show PR.underlying ty_int = some (.int .i64) by kernel_rfl) (wt1 m0)
  obtain ⟨b1, _, e_b1⟩ := WT_int (show PR.underlying ty_int = some (.int .i64) by kernel_rfl) (wt1 m1)
  obtain ⟨b2, _, e_b2⟩ := WT_int (show PR.underlying ty_int = some (.int .i64) by kernel_rfl) (wt1 m2)
  obtain ⟨b3, _, e_b3⟩ := WT_int (show PR.underlying ty_uint64 = some (.int .u64) by kernel_rfl) (wt1 m3)
  obtain ⟨b4, _, e_b4⟩ := WT_int (show PR.underlying ty_uint64 = some (.int .u64) by kernel_rfl) (wt1 m4)
  obtain ⟨b5, _, e_b5⟩ := WT_int (show PR.underlying ty_int = some (.int .i64) by kernel_rfl) (wt1 m5)
  obtain ⟨b6, _, e_b6⟩ := WT_int (show PR.underlying ty_int = some (.int .i64) by kernel_rfl) (wt1 m6)
  obtain ⟨b7, _, e_b7⟩ := WT_int (show PR.underlying ty_int = some (.int .i64) by kernel_rfl) (wt1 m7)
  obtain ⟨y, _, e_y⟩ := WT_api_ID (wt1 m8)
  obtain ⟨yn, ys⟩ := y
  obtain ⟨v100, e_r, ⟨rp, rl, rc, e_v100⟩, _⟩ := WS_sl tu_ty_Sapi_ID m9
  subst e_v100
  obtain ⟨b10, _, e_b10⟩ := WT_int (show PR.underlying ty_uint64 = some (.int .u64) by kernel_rfl) (wt1 m10)
  obtain ⟨b11, _, e_b11⟩ := WT_int (show PR.underlying ty_int = some (.int .i64) by kernel_rfl) (wt1 m11)
  obtain ⟨b12, _, e_b12⟩ := WT_int (show PR.underlying ty_uint64 = some (.int .u64) by kernel_rfl) (wt1 m12)
  obtain ⟨b13, _, e_b13⟩ := WT_int (show PR.underlying ty_int = some (.int .i64) by kernel_rfl) (wt1 m13)
  obtain ⟨b14, _, e_b14⟩ := WT_int (show PR.underlying ty_uint64 = some (.int .u64) by kernel_rfl) (wt1 m14)
  obtain ⟨b15, _, e_b15⟩ := WT_int (show PR.underlying ty_int = some (.int .i64) by kernel_rfl) (wt1 m15)
  obtain ⟨b16, _, e_b16⟩ := WT_int (show PR.underlying ty_uint64 = some (.int .u64) by kernel_rfl) (wt1 m16)
  obtain ⟨v101, e_v101, hv101, w101⟩ := WS_sl tu_ty_Suint64 m17
  obtain ⟨gp, gl, gc, ml, e_ml, s1, s2, s3⟩ := nums_of hv101 w101
  subst e_ml
  simp only [E_api_ID.cells] at e_y
  simp only [List.cons.injEq, and_true] at e_y e_a0 e_a1 e_a2 e_a3 e_a4 e_v5 e_nr e_r e_v101 e_b0 e_b1 e_b2 e_b3 e_b4 e_b5 e_b6 e_b7 e_b10 e_b11 e_b12 e_b13 e_b14 e_b15 e_b16
  obtain ⟨e_y1, e_y2⟩ := e_y
  subst e_y1 e_y2 e_a0 e_a1 e_a2 e_a3 e_a4 e_v5 e_nr e_r e_v101 e_b0 e_b1 e_b2 e_b3 e_b4 e_b5 e_b6 e_b7 e_b10 e_b11 e_b12 e_b13 e_b14 e_b15 e_b16
  exact ⟨⟨a0, a1, a2, a3, a4, lp, ll, lc, nr, l, ⟨⟨b0, b1, b2, b3, b7, b11, b16, ml⟩, b4, b5, b6, yn, ys, b10, b12, b13, b14, b15, rp, rl, rc, gp, gl, gc⟩⟩, ⟨r1, r2, r3, s1, s2, s3⟩, rfl⟩
theorem steps_of {H : Hp} {v : Value} (hv : ∃ a len cap, v = .slice a len cap) (h : WSArg PR H ty_Smooringlaw23_Step v) : ∃ (p : Option Addr) (n c : Nat) (l : List Stp), v = .slice p n c ∧ Rd H 26 p n (cel Stp.cells l) ∧ n ≤ 9223372036854775807 ∧ ∀ x ∈ l, x.good H := by
  obtain ⟨p, n, c, xss, rfl, hnc, hsz, hlen, hel, hrd⟩ := WSlice (k := 26) (show PR.underlying ty_Smooringlaw23_Step = some (.slice ty_law23_Step) by kernel_rfl) (by kernel_rfl) (by omega) hv h
  obtain ⟨l, rfl, hl⟩ := map_of (g := Stp.cells) (Q := Stp.good H) fun xs hx => step_of (hel xs hx).1 (hel xs hx).2
  have hmx : maxLen = 9223372036854775807 := (by decide)
  exact ⟨p, n, c, l, rfl, hrd, by omega, hl⟩

end Go.Proofs.Ytknejebggegfjaa

namespace Go.Proofs.Ytknejebggegfjaa
open Go
set_option maxRecDepth 100000
theorem words_z {r : List Char} {z : List (List Char)} (hz : wordsSigns r = z) {w : List Char} (h : w.all (fun c => c != Char.ofNat 32) = true) : wordsSigns (w ++ Char.ofNat 32 :: r) = w :: z := by
  induction w with
  | nil =>
    show [] :: wordsSigns r = _
    rw [hz]
  | cons c w ih =>
    rw [List.all_cons, Bool.and_eq_true, bne_iff_ne] at h
    have ih := ih h.2
    rw [List.cons_append]
    generalize w ++ Char.ofNat 32 :: r = y at *
    unfold wordsSigns
    split
    · rename_i e; cases e
    · rename_i e; cases e; exact absurd rfl h.1
    · rename_i e1 e2; cases e2; rw [ih]
theorem words_one {w r : List Char} (h : w.all (fun c => c != Char.ofNat 32) = true) : wordsSigns (w ++ Char.ofNat 32 :: r) = w :: wordsSigns r := words_z rfl h
theorem init_is : Try.pinned.checked.prog.initOrder = String.ofList (([104, 97, 114, 110, 101, 115, 115].map Char.ofNat) ++ Char.ofNat 32 :: (([57, 48, 101, 50, 102, 50, 52, 101, 48, 97, 98, 57, 100, 52, 49, 97, 53, 102, 97, 98, 51, 57, 56, 101, 57, 50, 102, 56, 48, 51, 50, 48, 56, 48, 101, 101, 56, 54, 55, 51, 101, 101, 48, 99, 56, 49, 53, 48, 51, 49, 48, 54, 55, 100, 48, 52, 98, 97, 98, 52, 55, 56, 51, 53].map Char.ofNat) ++ Char.ofNat 32 :: (([99, 117, 116].map Char.ofNat) ++ Char.ofNat 32 :: ([97, 116, 32, 109, 111, 111, 114, 105, 110, 103, 47, 109, 111, 111, 114, 105, 110, 103, 108, 97, 119, 50, 54, 46, 77, 111, 100, 101, 108, 79, 110, 99, 101, 32, 109, 111, 111, 114, 105, 110, 103, 47, 109, 111, 111, 114, 105, 110, 103, 108, 97, 119, 50, 50, 46, 87, 105, 116, 110, 101, 115, 115, 75, 110, 111, 119, 110, 32, 109, 111, 111, 114, 105, 110, 103, 47, 109, 111, 111, 114, 105, 110, 103, 108, 97, 119, 50, 50, 46, 87, 105, 116, 110, 101, 115, 115, 73, 110, 32, 109, 111, 111, 114, 105, 110, 103, 47, 109, 111, 111, 114, 105, 110, 103, 108, 97, 119, 50, 50, 46, 87, 105, 116, 110, 101, 115, 115, 79, 117, 116, 32, 109, 111, 111, 114, 105, 110, 103, 47, 109, 111, 111, 114, 105, 110, 103, 108, 97, 119, 50, 50, 46, 87, 105, 116, 110, 101, 115, 115, 76, 105, 118, 101, 32, 109, 111, 111, 114, 105, 110, 103, 47, 109, 111, 111, 114, 105, 110, 103, 108, 97, 119, 50, 51, 46, 84, 114, 97, 99, 101, 70, 105, 110, 100, 115, 32, 109, 111, 111, 114, 105, 110, 103, 47, 109, 111, 111, 114, 105, 110, 103, 108, 97, 119, 50, 51, 46, 84, 114, 97, 99, 101, 83, 116, 105, 114, 115, 32, 109, 111, 111, 114, 105, 110, 103, 47, 109, 111, 111, 114, 105, 110, 103, 108, 97, 119, 50, 51, 46, 84, 114, 97, 99, 101, 87, 97, 105, 116, 115, 32, 109, 111, 111, 114, 105, 110, 103, 47, 109, 111, 111, 114, 105, 110, 103, 108, 97, 119, 50, 51, 46, 84, 114, 97, 99, 101, 75, 110, 111, 119, 110, 32, 109, 111, 111, 114, 105, 110, 103, 47, 109, 111, 111, 114, 105, 110, 103, 108, 97, 119, 50, 51, 46, 84, 114, 97, 99, 101, 80, 108, 97, 121, 115, 32, 109, 111, 111, 114, 105, 110, 103, 47, 109, 111, 111, 114, 105, 110, 103, 108, 97, 119, 50, 51, 46, 84, 114, 97, 99, 101, 83, 116, 97, 108, 101].map Char.ofNat)))) := by kernel_rfl
theorem init_words : ∃ X, wordsSigns Try.pinned.checked.prog.initOrder.toList = ([104, 97, 114, 110, 101, 115, 115].map Char.ofNat) :: ([57, 48, 101, 50, 102, 50, 52, 101, 48, 97, 98, 57, 100, 52, 49, 97, 53, 102, 97, 98, 51, 57, 56, 101, 57, 50, 102, 56, 48, 51, 50, 48, 56, 48, 101, 101, 56, 54, 55, 51, 101, 101, 48, 99, 56, 49, 53, 48, 51, 49, 48, 54, 55, 100, 48, 52, 98, 97, 98, 52, 55, 56, 51, 53].map Char.ofNat) :: ([99, 117, 116].map Char.ofNat) :: X := by
  rw [init_is, String.toList_ofList, words_one (by kernel_rfl), words_one (by kernel_rfl), words_one (by kernel_rfl)]
  exact ⟨_, rfl⟩
theorem may_of {P : Program} {X : List (List Char)} (h : wordsSigns P.initOrder.toList = ([104, 97, 114, 110, 101, 115, 115].map Char.ofNat) :: ([57, 48, 101, 50, 102, 50, 52, 101, 48, 97, 98, 57, 100, 52, 49, 97, 53, 102, 97, 98, 51, 57, 56, 101, 57, 50, 102, 56, 48, 51, 50, 48, 56, 48, 101, 101, 56, 54, 55, 51, 101, 101, 48, 99, 56, 49, 53, 48, 51, 49, 48, 54, 55, 100, 48, 52, 98, 97, 98, 52, 55, 56, 51, 53].map Char.ofNat) :: ([99, 117, 116].map Char.ofNat) :: X) (h1 : P.laysLater = false) (h2 : P.bearsReflect = false) (h3 : P.doorFits [] = true) : P.mayEnter = true := by
  unfold Program.mayEnter
  have hs : behindMainWord (([104, 97, 114, 110, 101, 115, 115].map Char.ofNat) :: ([57, 48, 101, 50, 102, 50, 52, 101, 48, 97, 98, 57, 100, 52, 49, 97, 53, 102, 97, 98, 51, 57, 56, 101, 57, 50, 102, 56, 48, 51, 50, 48, 56, 48, 101, 101, 56, 54, 55, 51, 101, 101, 48, 99, 56, 49, 53, 48, 51, 49, 48, 54, 55, 100, 48, 52, 98, 97, 98, 52, 55, 56, 51, 53].map Char.ofNat) :: ([99, 117, 116].map Char.ofNat) :: X) = ([99, 117, 116].map Char.ofNat) :: X := by kernel_rfl
  have hl : stripLifts liftWords (([99, 117, 116].map Char.ofNat) :: X) = ([], ([99, 117, 116].map Char.ofNat) :: X) := by kernel_rfl
  rw [h, hs]
  simp only [hl, h1, h2, h3]
  change _ = true
  kernel_rfl
theorem lifts_of {P : Program} {X : List (List Char)} (h : wordsSigns P.initOrder.toList = ([104, 97, 114, 110, 101, 115, 115].map Char.ofNat) :: ([57, 48, 101, 50, 102, 50, 52, 101, 48, 97, 98, 57, 100, 52, 49, 97, 53, 102, 97, 98, 51, 57, 56, 101, 57, 50, 102, 56, 48, 51, 50, 48, 56, 48, 101, 101, 56, 54, 55, 51, 101, 101, 48, 99, 56, 49, 53, 48, 51, 49, 48, 54, 55, 100, 48, 52, 98, 97, 98, 52, 55, 56, 51, 53].map Char.ofNat) :: ([99, 117, 116].map Char.ofNat) :: X) : P.liftsFinal = false := by
  unfold Program.liftsFinal Program.headLifts
  have hs : behindMainWord (([104, 97, 114, 110, 101, 115, 115].map Char.ofNat) :: ([57, 48, 101, 50, 102, 50, 52, 101, 48, 97, 98, 57, 100, 52, 49, 97, 53, 102, 97, 98, 51, 57, 56, 101, 57, 50, 102, 56, 48, 51, 50, 48, 56, 48, 101, 101, 56, 54, 55, 51, 101, 101, 48, 99, 56, 49, 53, 48, 51, 49, 48, 54, 55, 100, 48, 52, 98, 97, 98, 52, 55, 56, 51, 53].map Char.ofNat) :: ([99, 117, 116].map Char.ofNat) :: X) = ([99, 117, 116].map Char.ofNat) :: X := by kernel_rfl
  have hl : stripLifts liftWords (([99, 117, 116].map Char.ofNat) :: X) = ([], ([99, 117, 116].map Char.ofNat) :: X) := by kernel_rfl
  rw [h, hs]
  simp only [hl]
  change _ = false
  kernel_rfl
theorem may_enter : Try.pinned.checked.prog.mayEnter = true := init_words.elim fun X h => may_of h (by kernel_rfl) (by kernel_rfl) (by kernel_rfl)
theorem lifts_none : Try.pinned.checked.prog.liftsFinal = false := init_words.elim fun X h => lifts_of h
theorem make_of {P : Program} {X : List (List Char)} (h : wordsSigns P.initOrder.toList = ([104, 97, 114, 110, 101, 115, 115].map Char.ofNat) :: ([57, 48, 101, 50, 102, 50, 52, 101, 48, 97, 98, 57, 100, 52, 49, 97, 53, 102, 97, 98, 51, 57, 56, 101, 57, 50, 102, 56, 48, 51, 50, 48, 56, 48, 101, 101, 56, 54, 55, 51, 101, 101, 48, 99, 56, 49, 53, 48, 51, 49, 48, 54, 55, 100, 48, 52, 98, 97, 98, 52, 55, 56, 51, 53].map Char.ofNat) :: ([99, 117, 116].map Char.ofNat) :: X) : P.make = some .cut := by
  unfold Program.make
  have hs : behindMainWord (([104, 97, 114, 110, 101, 115, 115].map Char.ofNat) :: ([57, 48, 101, 50, 102, 50, 52, 101, 48, 97, 98, 57, 100, 52, 49, 97, 53, 102, 97, 98, 51, 57, 56, 101, 57, 50, 102, 56, 48, 51, 50, 48, 56, 48, 101, 101, 56, 54, 55, 51, 101, 101, 48, 99, 56, 49, 53, 48, 51, 49, 48, 54, 55, 100, 48, 52, 98, 97, 98, 52, 55, 56, 51, 53].map Char.ofNat) :: ([99, 117, 116].map Char.ofNat) :: X) = ([99, 117, 116].map Char.ofNat) :: X := by kernel_rfl
  have hl : stripLifts liftWords (([99, 117, 116].map Char.ofNat) :: X) = ([], ([99, 117, 116].map Char.ofNat) :: X) := by kernel_rfl
  rw [h, hs]
  change (if _ then _ else _) = _
  rw [if_neg (by decide), if_pos (by simp)]
theorem make_cut : Try.pinned.checked.prog.make = some .cut := init_words.elim fun X h => make_of h
end Go.Proofs.Ytknejebggegfjaa
