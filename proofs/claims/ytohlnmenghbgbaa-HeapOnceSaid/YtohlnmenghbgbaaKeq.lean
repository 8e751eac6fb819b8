/- Structs of integers: equality, and as a map's keys. No condition. -/
import Derived.Test.YtohlnmenghbgbaaMp
import Derived.Laws.StructEq
import Derived.ChangeKeysEq
import Derived.WideKeyRuns
namespace Go.Proofs.Ytohlnmenghbgbaa
set_option linter.unusedSimpArgs false
set_option linter.unusedVariables false
open Go
open Go.MapKept

/-- The kinds of a struct's fields, all of them integers, each a cell. -/
def intFs (P : Program) : Nat → List Field → Option (List IntKind)
  | _, [] => some []
  | i, f :: fs => match P.underlying f.type with
    | some (.int k) => cond (f.name != "_" && Nat.beq f.offset i) ((intFs P (i + 1) fs).map (k :: ·)) none
    | _ => none
def intsOf (P : Program) (t : TypeId) : Option (List IntKind) := match P.underlying t with
  | some (.struct fs) => cond (P.stoodInHeld t) none (intFs P 0 fs.toList)
  | _ => none

/-- As a value. -/
def icells (ks : List IntKind) (ns : List Int) : List Value := List.zipWith Value.int ks ns
def ival (ks : List IntKind) (ns : List Int) : Value := .agg ⟨icells ks ns⟩

theorem intFs_cons {P : Program} {i : Nat} {f : Field} {fs : List Field} {ks : List IntKind} (h : intFs P i (f :: fs) = some ks) :
    ∃ k ks', ks = k :: ks' ∧ P.underlying f.type = some (.int k) ∧ f.name ≠ "_" ∧ f.offset = i ∧ intFs P (i + 1) fs = some ks' := by
  unfold intFs at h
  split at h
  · rename_i k hu
    cases hc : (f.name != "_" && Nat.beq f.offset i)
    · rw [hc] at h; cases h
    · rw [hc, cond_true, Option.map_eq_some_iff] at h
      obtain ⟨ks', h1, rfl⟩ := h
      simp only [Bool.and_eq_true, bne_iff_ne, ne_eq] at hc
      exact ⟨k, ks', rfl, hu, hc.1, Nat.eq_of_beq_eq_true hc.2, h1⟩
  · cases h

theorem plainKey_int {P : Program} {t : TypeId} {k : IntKind} (h : P.underlying t = some (.int k)) : P.plainKey t = true := by
  unfold Program.plainKey
  rw [h]

theorem eqFields_ints {P : Program} {w : World} {d : Nat} {xs ys : Array Value} : ∀ {fs : List Field} {i : Nat} {ks : List IntKind} {ns ms : List Int}, intFs P i fs = some ks → ns.length = ks.length → ms.length = ks.length →
    (∀ j, j < ks.length → xs[i + j]? = (icells ks ns)[j]?) → (∀ j, j < ks.length → ys[i + j]? = (icells ks ms)[j]?) → (Op.eqFields (d + 1) xs ys fs).run P w = .ok (decide (ns = ms)) w
  | [], i, ks, ns, ms, h, h1, h2, hx, hy => by
    cases h
    obtain rfl : ns = [] := List.length_eq_zero_iff.1 h1
    obtain rfl : ms = [] := List.length_eq_zero_iff.1 h2
    rfl
  | f :: fs, i, ks, ns, ms, h, h1, h2, hx, hy => by
    obtain ⟨k, ks', rfl, hu, hn, ho, h'⟩ := intFs_cons h
    obtain ⟨n, ns, rfl⟩ : ∃ n ns', ns = n :: ns' := by cases ns with | nil => simp at h1 | cons n ns => exact ⟨n, ns, rfl⟩
    obtain ⟨m, ms, rfl⟩ : ∃ n ns', ms = n :: ns' := by cases ms with | nil => simp at h2 | cons n ns => exact ⟨n, ns, rfl⟩
    have hx0 : xs[f.offset]? = some (.int k n) := by have := hx 0 (by simp); rw [ho]; simpa [icells] using this
    have hy0 : ys[f.offset]? = some (.int k m) := by have := hy 0 (by simp); rw [ho]; simpa [icells] using this
    have ih := eqFields_ints (P := P) (w := w) (d := d) (xs := xs) (ys := ys) (ns := ns) (ms := ms) h' (by simpa using h1) (by simpa using h2)
      (fun j hj => by have := hx (j + 1) (by simpa using hj); rw [show i + 1 + j = i + (j + 1) by omega, this]; simp [icells])
      (fun j hj => by have := hy (j + 1) (by simpa using hj); rw [show i + 1 + j = i + (j + 1) by omega, this]; simp [icells])
    unfold Op.eqFields
    rw [if_pos hn]
    simp only [Sem.run_bind, run_part_plain w (plainKey_int hu) hx0, run_part_plain w (plainKey_int hu) hy0, Result.andThen_ok, run_equalIn_int w d f.type k k n m hu]
    by_cases e : n = m
    · subst e
      simp only [beq_self_eq_true, Bool.not_true, Bool.false_eq_true, if_false]
      rw [ih]
      simp
    · have : (n == m) = false := by simpa using e
      simp [this, e]

theorem intsOf_spec {P : Program} {t : TypeId} {ks : List IntKind} (h : intsOf P t = some ks) : ∃ fs, P.underlying t = some (.struct fs) ∧ P.fieldsOf t = fs ∧ P.stoodInHeld t = false ∧ intFs P 0 fs.toList = some ks := by
  unfold intsOf at h
  split at h
  · rename_i fs hu
    cases hs : P.stoodInHeld t
    · rw [hs, cond_false] at h
      exact ⟨fs, hu, by simp [Program.fieldsOf, hu], rfl, h⟩
    · rw [hs] at h; cases h
  · cases h

theorem icells_len {ks : List IntKind} {ns : List Int} (h : ns.length = ks.length) : (icells ks ns).length = ks.length := by simp [icells, h]

theorem equal_ints {P : Program} {w : World} {t : TypeId} {ks : List IntKind} {ns ms : List Int} (h : intsOf P t = some ks) (h1 : ns.length = ks.length) (h2 : ms.length = ks.length) :
    (Op.equal t (ival ks ns) (ival ks ms)).run P w = .ok (decide (ns = ms)) w := by
  obtain ⟨fs, hu, hf, hs, hi⟩ := intsOf_spec h
  show (Op.equalIn (9999 + 1) t (.agg _) (.agg _)).run P w = _
  rw [run_equalIn_struct w 9999 t _ _ (by rw [hf]; exact hu) hs, hf]
  exact eqFields_ints (d := 9998) hi h1 h2 (fun j hj => by simp) (fun j hj => by simp)

/-- == and != of such. -/
theorem aggEq_ints {P : Program} {t : TypeId} {ks : List IntKind} {ns ms : List Int} {H : Hp} {K : Value → Prop} (h : intsOf P t = some ks) (hg : P.eqGuardType P.depth t = false) (h1 : ns.length = ks.length) (h2 : ms.length = ks.length) (hK : K (.bool (decide (ns = ms)))) :
    evR P (aggEq .eql t ⟨icells ks ns⟩ ⟨icells ks ms⟩) H K := by
  refine ⟨_, fun w _ => ?_, hK⟩
  have := equal_ints (w := w) h h1 h2
  have this : (Op.equal t (.agg ⟨icells ks ns⟩) (.agg ⟨icells ks ms⟩)).run P w = .ok (decide (ns = ms)) w := this
  simp [aggEq, eqGuard, binOp, hg, this, Result.andThen]
theorem aggNe_ints {P : Program} {t : TypeId} {ks : List IntKind} {ns ms : List Int} {H : Hp} {K : Value → Prop} (h : intsOf P t = some ks) (hg : P.eqGuardType P.depth t = false) (h1 : ns.length = ks.length) (h2 : ms.length = ks.length) (hK : K (.bool (!decide (ns = ms)))) :
    evR P (aggEq .neq t ⟨icells ks ns⟩ ⟨icells ks ms⟩) H K := by
  refine ⟨_, fun w _ => ?_, hK⟩
  have this : (Op.equal t (.agg ⟨icells ks ns⟩) (.agg ⟨icells ks ms⟩)).run P w = .ok (decide (ns = ms)) w := equal_ints (w := w) h h1 h2
  simp [aggEq, eqGuard, binOp, hg, this, Result.andThen]

theorem checkKey_fields {P : Program} {w : World} {em : Bool} {d : Nat} {xs : Array Value} : ∀ {fs : List Field} {i : Nat} {ks : List IntKind} {ns : List Int}, intFs P i fs = some ks → ns.length = ks.length →
    (∀ j, j < ks.length → xs[i + j]? = (icells ks ns)[j]?) →
    (forIn fs PUnit.unit fun f (_ : PUnit) => (do if f.name ≠ "_" then Instr.checkKey em (d + 1) f.type (← part f.type xs f.offset)
                                                  pure (ForInStep.yield PUnit.unit) : Sem (ForInStep PUnit))).run P w = .ok PUnit.unit w
  | [], i, ks, ns, h, h1, hx => by simp
  | f :: fs, i, ks, ns, h, h1, hx => by
    obtain ⟨k, ks', rfl, hu, hn, ho, h'⟩ := intFs_cons h
    obtain ⟨n, ns, rfl⟩ : ∃ n ns', ns = n :: ns' := by cases ns with | nil => simp at h1 | cons n ns => exact ⟨n, ns, rfl⟩
    have hx0 : xs[f.offset]? = some (.int k n) := by have := hx 0 (by simp); rw [ho]; simpa [icells] using this
    have ih := checkKey_fields (P := P) (w := w) (em := em) (d := d) (xs := xs) (ns := ns) h' (by simpa using h1)
      (fun j hj => by have := hx (j + 1) (by simpa using hj); rw [show i + 1 + j = i + (j + 1) by omega, this]; simp [icells])
    have hck : (Instr.checkKey em (d + 1) f.type (.int k n)).run P w = .ok () w := run_checkKey (d := .int k) (k := .int k n) hu rfl em d
    simp only [List.forIn_cons, Sem.run_bind, if_pos hn, run_part_plain w (plainKey_int hu) hx0, Result.andThen_ok, hck, Sem.run_pure]
    exact ih

theorem KeyK.ints {P : Program} {t : TypeId} {ks : List IntKind} {κ : Type} {g : κ → List Int} (h : intsOf P t = some ks) (hl : ∀ a, (g a).length = ks.length) (hinj : ∀ a b, g a = g b → a = b) : KeyK P t (fun a => ival ks (g a)) := by
  obtain ⟨fs, hu, hf, hs, hi⟩ := intsOf_spec h
  have hcell : ∀ ns ms : List Int, ns.length = ks.length → ms.length = ks.length → icells ks ns = icells ks ms → ns = ms := fun ns ms h1 h2 e => by
    apply List.ext_getElem?
    intro i
    by_cases hik : i < ks.length
    · have := congrArg (·[i]?) e
      simp only [icells, List.getElem?_zipWith, List.getElem?_eq_getElem hik, List.getElem?_eq_getElem (show i < ns.length by omega), List.getElem?_eq_getElem (show i < ms.length by omega)] at this ⊢
      simpa using this
    · rw [List.getElem?_eq_none (by omega), List.getElem?_eq_none (by omega)]
  have hinj' : ∀ {a b : κ}, ival ks (g a) = ival ks (g b) → a = b := fun {a b} e => by
    refine hinj a b (hcell _ _ (hl a) (hl b) ?_)
    unfold ival at e
    simpa using e
  refine ⟨hinj', fun w em a => ?_, fun w x es hes => ?_, fun w a => ?_⟩
  · show (Instr.checkKey em (9999 + 1) t (ival ks (g a))).run P w = _
    unfold Instr.checkKey ival
    simp only [Sem.run_bind, run_underlying hu, Result.andThen_ok]
    rw [← Array.forIn_toList]
    have := checkKey_fields (P := P) (w := w) (em := em) (d := 9998) (xs := ⟨icells ks (g a)⟩) hi (hl a) (fun j hj => by simp)
    simp only [Sem.run_bind] at this ⊢
    first | exact this | (rw [this]; rfl) | simp [this]
  · rw [run_findKey_eq w (by rw [hu])]
    have key : ∀ (es : List MapEntry) (i : Nat), (∀ e ∈ es, ∃ a, e.key = ival ks (g a)) →
        ((Instr.findAsking t (ival ks (g x)) es i).run P w = .ok none w ∧ ∀ e ∈ es, e.key ≠ ival ks (g x)) ∨ ∃ j e, (Instr.findAsking t (ival ks (g x)) es i).run P w = .ok (some (i + j, e.val)) w ∧ es[j]? = some e ∧ e.key = ival ks (g x) := by
      intro es
      induction es with
      | nil => intro i _; exact .inl ⟨by simp [Instr.findAsking], by simp⟩
      | cons e es ih =>
        intro i hall
        obtain ⟨a, ha⟩ := hall e (by simp)
        have he := equal_ints (w := w) h (hl x) (hl a)
        rw [← ha] at he
        by_cases hxa : g x = g a
        · refine .inr ⟨0, e, by unfold Instr.findAsking; simp only [Sem.run_bind, he, Result.andThen_ok]; simp [hxa], rfl, by rw [ha, hxa]⟩
        · rcases ih (i + 1) (fun y hy => hall y (by simp [hy])) with ⟨h1, h2⟩ | ⟨j, e', h1, h2, h3⟩
          · refine .inl ⟨by simp [Instr.findAsking, he, hxa, Result.andThen, h1], fun y hy => ?_⟩
            rcases List.mem_cons.1 hy with rfl | hy
            · rw [ha]
              intro e1
              exact hxa (by rw [hinj' e1])
            · exact h2 y hy
          · exact .inr ⟨j + 1, e', by simp [Instr.findAsking, he, hxa, Result.andThen, h1, Nat.add_assoc, Nat.add_comm 1 j], by simpa using h2, h3⟩
    rcases key es 0 hes with h1 | ⟨j, e, h1, h2, h3⟩
    · exact .inl h1
    · exact .inr ⟨j, e, by simpa using h1, h2, h3⟩
  · have hs : Instr.sameBits 10000 (ival ks (g a)) (ival ks (g a)) = true := by
      show Instr.sameBits (9999 + 1) (.agg _) (.agg _) = true
      simp only [Instr.sameBits, beq_self_eq_true, Bool.true_and, List.all_eq_true]
      rintro ⟨x, y⟩ hxy
      rw [List.mem_iff_getElem] at hxy
      obtain ⟨i, hi', hxy⟩ := hxy
      simp only [List.getElem_zip, Prod.mk.injEq] at hxy
      obtain ⟨rfl, rfl⟩ := hxy
      simp [icells, Instr.sameBits]
    simp [Instr.keyThatStays, hs]

end Go.Proofs.Ytohlnmenghbgbaa
