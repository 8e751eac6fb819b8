/- Merged by merge.py: Row, RowE, DenI. No condition. -/
import Derived.Test.YtknejebggegfjaaRows
import Derived.Test.YtknejebggegfjaaZNum
import Derived.Test.YtknejebggegfjaaZBase
import Derived.WalkKit
import Derived.ProofKit
import Derived.OpenShut
import Derived.SizedLaws
import Derived.KernelRfl
import Derived.JoinedOf

namespace Go.Proofs.Ytknejebggegfjaa
set_option linter.unusedSimpArgs false
set_option linter.unusedVariables false
open Go
open Go.ChangeShapes Go.WideShapes Go.ChangeAt Go.RowKit
theorem PR_own : ownKnob PR.godebug = none := by kernel_rfl
theorem PR_laid : laidOutB PR = true := by kernel_rfl

theorem args_stay {H : Type} {enc : TypeId × Value → H} {W W' : World} (hb : Below W.heap.size W W') : ∀ {ts : List TypeId} {vs : List Value} {ds : List (DataW H)} {ps : List MemPlace}, (∀ t ∈ ts, PR.readableRec t = true ∧ t < PR.types.size) →
    DataW.TrodAll enc PR W 0 (fun _ => true) true ts vs ds ps → DataW.TrodAll enc PR W' 0 (fun b => decide (b < W.heap.size)) true ts vs ds ps
  | [], [], [], _, _, h => h
  | _ :: _, _ :: _, _ :: _, _, ht, h => by
    have hlt := h.lt
    obtain ⟨p, q, h1, h2, rfl⟩ := h
    exact ⟨p, q, h1 |> fun h => Below.trod PR_laid (ht _ (by simp)).1 (ht _ (by simp)).2 h hb fun x hx => hlt x (by simp [hx]), args_stay hb (fun t h => ht t (by simp [h])) h2, rfl⟩

theorem below_of {w w' : World} (h : Rest w w') (k : Keep Nothing (hp w) (hp w')) : Below w.heap.size w w' :=
  ⟨h.os, h.tape, h.output, h.size, fun b hb => k.same b (by simp [hp, hb]) id⟩

/-- What a law's row asks of a run. -/
theorem post_of {H : Type} {enc : TypeId × Value → H} {f : Func} {s : ChangeSpec} {W W' : World} {args : Array Value} {ds gs : List (DataW H)} {before : List MemPlace} {t : TypeId} (hs : s.vars = [])
    (ht : ∀ t ∈ f.params.toList, PR.readableRec t = true ∧ t < PR.types.size) (hr : f.resultTypes = #[t]) (hb : PR.underlying t = some .bool)
    (hW : DataW.Whole enc PR f.params.toList s.vars false W args.toList ds gs before) (hf : ∀ ds' : List (DataW H), ds'.length = f.params.size → (s.fn H ds').results = [.lit (.bool true)] ∧ (s.fn H ds').args = ds' ∧ (s.fn H ds').vars = [])
    (hB : Below W.heap.size W W') : s.post enc PR f false true false false W args (.bool true) W' := by
  have hW' := hW
  obtain ⟨p, q, hA, hV, rfl, -⟩ := hW'
  rw [hs] at hV
  obtain ⟨rfl, rfl⟩ := trodVars_none hV
  have hlen : ds.length = f.params.size := by
    have : ∀ {ts : List TypeId} {vs : List Value} {ds : List (DataW H)} {ps : List MemPlace}, DataW.TrodAll enc PR W 0 (fun _ => true) true ts vs ds ps → ds.length = ts.length := by
      intro ts
      induction ts with
      | nil => intro vs ds ps h; cases vs <;> cases ds <;> simp_all [DataW.TrodAll]
      | cons t ts ih =>
        intro vs ds ps h
        obtain ⟨_, _, _, _, _, _, rfl, rfl, rfl, _, h2⟩ := trodAll_cons h
        simp [ih h2]
    simpa using this hA
  obtain ⟨e1, e2, e3⟩ := hf ds hlen
  refine ⟨ds, [], p ++ [], [], p, [], hW, ?_, ?_, ?_, hB.frame _, fun h => by cases h⟩
  · simp only [List.append_nil, e1, hr]
    exact trodAll_cons_mk (shut_bool hb _) trodAll_mk0
  · simp only [List.append_nil, e2]
    exact args_stay hB ht hA
  · simp only [List.append_nil, e3, hs]
    exact (rfl : ([] : List MemPlace) = [])

end Go.Proofs.Ytknejebggegfjaa

namespace Go.Proofs.Ytknejebggegfjaa
set_option linter.unusedSimpArgs false
set_option linter.unusedVariables false
open Go
end Go.Proofs.Ytknejebggegfjaa

namespace Go.Proofs.Ytknejebggegfjaa
open Go
set_option maxRecDepth 100000
theorem words_z {r : List Char} {z : List (List Char)} (hz : wordsSigns r = z) {w : List Char} (h : w.all (fun c => c != Char.ofNat 32) = true) : wordsSigns (w ++ Char.ofNat 32 :: r) = w :: z := by
  induction w with
  | nil =>
    show [] :: wordsSigns r = _
    rw [hz]
  | cons c w ih =>
    rw [List.all_cons, Bool.and_eq_true, bne_iff_ne] at h
    have ih := ih h.2
    rw [List.cons_append]
    generalize w ++ Char.ofNat 32 :: r = y at *
    unfold wordsSigns
    split
    · rename_i e; cases e
    · rename_i e; cases e; exact absurd rfl h.1
    · rename_i e1 e2; cases e2; rw [ih]
theorem words_one {w r : List Char} (h : w.all (fun c => c != Char.ofNat 32) = true) : wordsSigns (w ++ Char.ofNat 32 :: r) = w :: wordsSigns r := words_z rfl h
theorem init_is : Try.pinned.checked.prog.initOrder = String.ofList (([104, 97, 114, 110, 101, 115, 115].map Char.ofNat) ++ Char.ofNat 32 :: (([57, 48, 101, 50, 102, 50, 52, 101, 48, 97, 98, 57, 100, 52, 49, 97, 53, 102, 97, 98, 51, 57, 56, 101, 57, 50, 102, 56, 48, 51, 50, 48, 56, 48, 101, 101, 56, 54, 55, 51, 101, 101, 48, 99, 56, 49, 53, 48, 51, 49, 48, 54, 55, 100, 48, 52, 98, 97, 98, 52, 55, 56, 51, 53].map Char.ofNat) ++ Char.ofNat 32 :: (([99, 117, 116].map Char.ofNat) ++ Char.ofNat 32 :: ([97, 116, 32, 109, 111, 111, 114, 105, 110, 103, 47, 109, 111, 111, 114, 105, 110, 103, 108, 97, 119, 50, 54, 46, 77, 111, 100, 101, 108, 79, 110, 99, 101, 32, 109, 111, 111, 114, 105, 110, 103, 47, 109, 111, 111, 114, 105, 110, 103, 108, 97, 119, 50, 50, 46, 87, 105, 116, 110, 101, 115, 115, 75, 110, 111, 119, 110, 32, 109, 111, 111, 114, 105, 110, 103, 47, 109, 111, 111, 114, 105, 110, 103, 108, 97, 119, 50, 50, 46, 87, 105, 116, 110, 101, 115, 115, 73, 110, 32, 109, 111, 111, 114, 105, 110, 103, 47, 109, 111, 111, 114, 105, 110, 103, 108, 97, 119, 50, 50, 46, 87, 105, 116, 110, 101, 115, 115, 79, 117, 116, 32, 109, 111, 111, 114, 105, 110, 103, 47, 109, 111, 111, 114, 105, 110, 103, 108, 97, 119, 50, 50, 46, 87, 105, 116, 110, 101, 115, 115, 76, 105, 118, 101, 32, 109, 111, 111, 114, 105, 110, 103, 47, 109, 111, 111, 114, 105, 110, 103, 108, 97, 119, 50, 51, 46, 84, 114, 97, 99, 101, 70, 105, 110, 100, 115, 32, 109, 111, 111, 114, 105, 110, 103, 47, 109, 111, 111, 114, 105, 110, 103, 108, 97, 119, 50, 51, 46, 84, 114, 97, 99, 101, 83, 116, 105, 114, 115, 32, 109, 111, 111, 114, 105, 110, 103, 47, 109, 111, 111, 114, 105, 110, 103, 108, 97, 119, 50, 51, 46, 84, 114, 97, 99, 101, 87, 97, 105, 116, 115, 32, 109, 111, 111, 114, 105, 110, 103, 47, 109, 111, 111, 114, 105, 110, 103, 108, 97, 119, 50, 51, 46, 84, 114, 97, 99, 101, 75, 110, 111, 119, 110, 32, 109, 111, 111, 114, 105, 110, 103, 47, 109, 111, 111, 114, 105, 110, 103, 108, 97, 119, 50, 51, 46, 84, 114, 97, 99, 101, 80, 108, 97, 121, 115, 32, 109, 111, 111, 114, 105, 110, 103, 47, 109, 111, 111, 114, 105, 110, 103, 108, 97, 119, 50, 51, 46, 84, 114, 97, 99, 101, 83, 116, 97, 108, 101].map Char.ofNat)))) := by kernel_rfl
theorem init_words : ∃ X, wordsSigns Try.pinned.checked.prog.initOrder.toList = ([104, 97, 114, 110, 101, 115, 115].map Char.ofNat) :: ([57, 48, 101, 50, 102, 50, 52, 101, 48, 97, 98, 57, 100, 52, 49, 97, 53, 102, 97, 98, 51, 57, 56, 101, 57, 50, 102, 56, 48, 51, 50, 48, 56, 48, 101, 101, 56, 54, 55, 51, 101, 101, 48, 99, 56, 49, 53, 48, 51, 49, 48, 54, 55, 100, 48, 52, 98, 97, 98, 52, 55, 56, 51, 53].map Char.ofNat) :: ([99, 117, 116].map Char.ofNat) :: X := by
  rw [init_is, String.toList_ofList, words_one (by kernel_rfl), words_one (by kernel_rfl), words_one (by kernel_rfl)]
  exact ⟨_, rfl⟩
theorem may_of {P : Program} {X : List (List Char)} (h : wordsSigns P.initOrder.toList = ([104, 97, 114, 110, 101, 115, 115].map Char.ofNat) :: ([57, 48, 101, 50, 102, 50, 52, 101, 48, 97, 98, 57, 100, 52, 49, 97, 53, 102, 97, 98, 51, 57, 56, 101, 57, 50, 102, 56, 48, 51, 50, 48, 56, 48, 101, 101, 56, 54, 55, 51, 101, 101, 48, 99, 56, 49, 53, 48, 51, 49, 48, 54, 55, 100, 48, 52, 98, 97, 98, 52, 55, 56, 51, 53].map Char.ofNat) :: ([99, 117, 116].map Char.ofNat) :: X) (h1 : P.laysLater = false) (h2 : P.bearsReflect = false) (h3 : P.doorFits [] = true) : P.mayEnter = true := by
  unfold Program.mayEnter
  have hs : behindMainWord (([104, 97, 114, 110, 101, 115, 115].map Char.ofNat) :: ([57, 48, 101, 50, 102, 50, 52, 101, 48, 97, 98, 57, 100, 52, 49, 97, 53, 102, 97, 98, 51, 57, 56, 101, 57, 50, 102, 56, 48, 51, 50, 48, 56, 48, 101, 101, 56, 54, 55, 51, 101, 101, 48, 99, 56, 49, 53, 48, 51, 49, 48, 54, 55, 100, 48, 52, 98, 97, 98, 52, 55, 56, 51, 53].map Char.ofNat) :: ([99, 117, 116].map Char.ofNat) :: X) = ([99, 117, 116].map Char.ofNat) :: X := by kernel_rfl
  have hl : stripLifts liftWords (([99, 117, 116].map Char.ofNat) :: X) = ([], ([99, 117, 116].map Char.ofNat) :: X) := by kernel_rfl
  rw [h, hs]
  simp only [hl, h1, h2, h3]
  change _ = true
  kernel_rfl
theorem lifts_of {P : Program} {X : List (List Char)} (h : wordsSigns P.initOrder.toList = ([104, 97, 114, 110, 101, 115, 115].map Char.ofNat) :: ([57, 48, 101, 50, 102, 50, 52, 101, 48, 97, 98, 57, 100, 52, 49, 97, 53, 102, 97, 98, 51, 57, 56, 101, 57, 50, 102, 56, 48, 51, 50, 48, 56, 48, 101, 101, 56, 54, 55, 51, 101, 101, 48, 99, 56, 49, 53, 48, 51, 49, 48, 54, 55, 100, 48, 52, 98, 97, 98, 52, 55, 56, 51, 53].map Char.ofNat) :: ([99, 117, 116].map Char.ofNat) :: X) : P.liftsFinal = false := by
  unfold Program.liftsFinal Program.headLifts
  have hs : behindMainWord (([104, 97, 114, 110, 101, 115, 115].map Char.ofNat) :: ([57, 48, 101, 50, 102, 50, 52, 101, 48, 97, 98, 57, 100, 52, 49, 97, 53, 102, 97, 98, 51, 57, 56, 101, 57, 50, 102, 56, 48, 51, 50, 48, 56, 48, 101, 101, 56, 54, 55, 51, 101, 101, 48, 99, 56, 49, 53, 48, 51, 49, 48, 54, 55, 100, 48, 52, 98, 97, 98, 52, 55, 56, 51, 53].map Char.ofNat) :: ([99, 117, 116].map Char.ofNat) :: X) = ([99, 117, 116].map Char.ofNat) :: X := by kernel_rfl
  have hl : stripLifts liftWords (([99, 117, 116].map Char.ofNat) :: X) = ([], ([99, 117, 116].map Char.ofNat) :: X) := by kernel_rfl
  rw [h, hs]
  simp only [hl]
  change _ = false
  kernel_rfl
theorem may_enter : Try.pinned.checked.prog.mayEnter = true := init_words.elim fun X h => may_of h (by kernel_rfl) (by kernel_rfl) (by kernel_rfl)
theorem lifts_none : Try.pinned.checked.prog.liftsFinal = false := init_words.elim fun X h => lifts_of h
theorem make_of {P : Program} {X : List (List Char)} (h : wordsSigns P.initOrder.toList = ([104, 97, 114, 110, 101, 115, 115].map Char.ofNat) :: ([57, 48, 101, 50, 102, 50, 52, 101, 48, 97, 98, 57, 100, 52, 49, 97, 53, 102, 97, 98, 51, 57, 56, 101, 57, 50, 102, 56, 48, 51, 50, 48, 56, 48, 101, 101, 56, 54, 55, 51, 101, 101, 48, 99, 56, 49, 53, 48, 51, 49, 48, 54, 55, 100, 48, 52, 98, 97, 98, 52, 55, 56, 51, 53].map Char.ofNat) :: ([99, 117, 116].map Char.ofNat) :: X) : P.make = some .cut := by
  unfold Program.make
  have hs : behindMainWord (([104, 97, 114, 110, 101, 115, 115].map Char.ofNat) :: ([57, 48, 101, 50, 102, 50, 52, 101, 48, 97, 98, 57, 100, 52, 49, 97, 53, 102, 97, 98, 51, 57, 56, 101, 57, 50, 102, 56, 48, 51, 50, 48, 56, 48, 101, 101, 56, 54, 55, 51, 101, 101, 48, 99, 56, 49, 53, 48, 51, 49, 48, 54, 55, 100, 48, 52, 98, 97, 98, 52, 55, 56, 51, 53].map Char.ofNat) :: ([99, 117, 116].map Char.ofNat) :: X) = ([99, 117, 116].map Char.ofNat) :: X := by kernel_rfl
  have hl : stripLifts liftWords (([99, 117, 116].map Char.ofNat) :: X) = ([], ([99, 117, 116].map Char.ofNat) :: X) := by kernel_rfl
  rw [h, hs]
  change (if _ then _ else _) = _
  rw [if_neg (by decide), if_pos (by simp)]
theorem make_cut : Try.pinned.checked.prog.make = some .cut := init_words.elim fun X h => make_of h
end Go.Proofs.Ytknejebggegfjaa
