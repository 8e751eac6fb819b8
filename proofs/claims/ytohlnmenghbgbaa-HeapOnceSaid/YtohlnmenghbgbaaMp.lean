/- Maps of a call's own: looking up, writing, striking, counting, going over. No condition. -/
import Derived.Test.YtohlnmenghbgbaaEls
import Derived.MapKept
namespace Go.Proofs.Ytohlnmenghbgbaa
set_option linter.unusedSimpArgs false
set_option linter.unusedVariables false
open Go
open Go.MapKept

/-! ## Keys -/

/-- What a map asks of its keys. -/
structure KeyK (P : Program) (kt : TypeId) {κ : Type} (enc : κ → Value) : Prop where
  inj : ∀ {a b : κ}, enc a = enc b → a = b
  check : ∀ (w : World) (em : Bool) (a : κ), (Instr.checkKey em 10000 kt (enc a)).run P w = .ok () w
  find : ∀ (w : World) (x : κ) (es : List MapEntry), (∀ e ∈ es, ∃ a, e.key = enc a) →
    ((Instr.findKey kt (enc x) es).run P w = .ok none w ∧ ∀ e ∈ es, e.key ≠ enc x) ∨ ∃ j e, (Instr.findKey kt (enc x) es).run P w = .ok (some (j, e.val)) w ∧ es[j]? = some e ∧ e.key = enc x
  stays : ∀ (w : World) (a : κ), (Instr.keyThatStays (enc a) (enc a)).run P w = .ok (enc a) w

theorem KeyK.int {P : Program} {kt : TypeId} {k : IntKind} (h : P.underlying kt = some (.int k)) : KeyK P kt (Value.int k) where
  inj := fun e => by cases e; rfl
  check := fun w em a => run_checkKey (d := .int k) (k := .int k a) h rfl em 9999
  find := fun w x es hes => by
    have hk : ∀ e ∈ es, IsKey (.int k) e.key := fun e he => by obtain ⟨a, ha⟩ := hes e he; rw [ha]; rfl
    rcases findNow_spec (d := .int k) (k := .int k x) rfl es 0 hk with ⟨h1, h2⟩ | ⟨j, e, h1, h2, h3⟩
    · exact .inl ⟨run_findKey h h1, h2⟩
    · exact .inr ⟨j, e, by rw [Nat.zero_add] at h1; exact run_findKey h h1, h2, h3⟩
  stays := fun w a => run_keyThatStays (d := .int k) (k := .int k a) rfl

/-! ## What a map holds, as a list -/

section
variable {κ ν : Type} [DecidableEq κ]
def mlook (l : List (κ × ν)) (k : κ) : Option ν := (l.find? fun p => p.1 = k).map (·.2)
def mhas (l : List (κ × ν)) (k : κ) : Bool := l.any fun p => p.1 = k
def mput (l : List (κ × ν)) (k : κ) (x : ν) : List (κ × ν) := if mhas l k then l.map fun p => if p.1 = k then (k, x) else p else l ++ [(k, x)]
def mdel (l : List (κ × ν)) (k : κ) : List (κ × ν) := l.filter fun p => !decide (p.1 = k)
def mnod (l : List (κ × ν)) : Prop := (l.map (·.1)).Nodup

theorem mlook_none {l : List (κ × ν)} {k : κ} : mlook l k = none ↔ ∀ p ∈ l, p.1 ≠ k := by simp [mlook]
theorem mhas_false {l : List (κ × ν)} {k : κ} : mhas l k = false ↔ ∀ p ∈ l, p.1 ≠ k := by simp [mhas]
theorem mhas_look {l : List (κ × ν)} {k : κ} : mhas l k = (mlook l k).isSome := by
  rw [Bool.eq_iff_iff]
  cases h : mlook l k with
  | none => rw [mhas_false.2 (mlook_none.1 h)]; simp
  | some x =>
    simp only [Option.isSome_some, iff_true]
    refine Classical.byContradiction fun hn => ?_
    rw [mlook_none.2 (mhas_false.1 (by simpa using hn))] at h
    cases h
theorem mlook_mem {l : List (κ × ν)} {k : κ} {x : ν} (h : mlook l k = some x) : (k, x) ∈ l := by
  unfold mlook at h
  rw [Option.map_eq_some_iff] at h
  obtain ⟨p, hp, rfl⟩ := h
  have h1 := List.find?_some hp
  have h2 := List.mem_of_find?_eq_some hp
  simp at h1
  rw [← h1]
  exact h2
theorem mlook_of {l : List (κ × ν)} (hn : mnod l) {k : κ} {x : ν} (h : (k, x) ∈ l) : mlook l k = some x := by
  induction l with
  | nil => cases h
  | cons p l ih =>
    unfold mnod at hn
    rw [List.map_cons, List.nodup_cons] at hn
    rcases List.mem_cons.1 h with rfl | h
    · simp [mlook]
    · have hne : p.1 ≠ k := fun e => hn.1 (e ▸ List.mem_map.2 ⟨_, h, rfl⟩)
      have := ih hn.2 h
      simp only [mlook, List.find?_cons, hne, decide_false] at this ⊢
      exact this
theorem mput_keys_has {l : List (κ × ν)} {k : κ} {x : ν} (h : mhas l k = true) : (mput l k x).map (·.1) = l.map (·.1) := by
  unfold mput
  rw [if_pos h, List.map_map]
  apply List.map_congr_left
  intro p _
  simp only [Function.comp]
  split
  · rename_i e; exact e.symm
  · rfl
theorem mput_nod {l : List (κ × ν)} (hn : mnod l) (k : κ) (x : ν) : mnod (mput l k x) := by
  unfold mnod
  cases h : mhas l k
  · unfold mput
    rw [h, if_neg (by decide), List.map_append, List.nodup_append]
    refine ⟨hn, by simp, fun a ha b hb => ?_⟩
    obtain ⟨p, hp, rfl⟩ := List.mem_map.1 ha
    simp at hb
    subst hb
    exact mhas_false.1 h p hp
  · rw [mput_keys_has h]
    exact hn
theorem mdel_nod {l : List (κ × ν)} (hn : mnod l) (k : κ) : mnod (mdel l k) := by
  unfold mnod mdel
  exact (List.filter_sublist.map _).nodup hn
theorem mlook_mput {l : List (κ × ν)} {k k' : κ} {x : ν} : mlook (mput l k x) k' = if k' = k then some x else mlook l k' := by
  cases h : mhas l k
  · unfold mput
    rw [h, if_neg (by decide)]
    unfold mlook
    rw [List.find?_append]
    by_cases e : k' = k
    · subst e
      have : l.find? (fun p => decide (p.1 = k')) = none := by simpa using mhas_false.1 h
      simp [this]
    · simp [e, Ne.symm e]
  · unfold mput
    rw [h, if_pos rfl]
    have hex : ∃ p ∈ l, p.1 = k := by simpa [mhas] using h
    clear h
    induction l with
    | nil => obtain ⟨p, hp, _⟩ := hex; cases hp
    | cons p l ih =>
      by_cases e : p.1 = k
      · by_cases e' : k' = k
        · subst e'; simp [mlook, e]
        · have hne : p.1 ≠ k' := by rw [e]; exact Ne.symm e'
          rw [if_neg e']
          by_cases hl : ∃ p ∈ l, p.1 = k
          · have := ih hl
            rw [if_neg e'] at this
            simp only [mlook, List.map_cons, e, if_true, List.find?_cons, Ne.symm e', decide_false] at this ⊢
            exact this
          · have hmap : l.map (fun p => if p.1 = k then (k, x) else p) = l := by
              rw [show l = l.map id by simp] 
              simp only [List.map_map]
              apply List.map_congr_left
              intro p hp
              have : p.1 ≠ k := fun e => hl ⟨p, hp, e⟩
              simp [this]
            simp [mlook, e, hmap, Ne.symm e']
      · have hl : ∃ p ∈ l, p.1 = k := by
          obtain ⟨q, hq, hk⟩ := hex
          rcases List.mem_cons.1 hq with rfl | hq
          · exact absurd hk e
          · exact ⟨q, hq, hk⟩
        have := ih hl
        simp only [mlook, List.map_cons, e, if_false, List.find?_cons] at this ⊢
        split
        · rename_i hp
          simp at hp
          rw [if_neg (by rw [← hp]; exact e)]
        · exact this
theorem mlook_mdel {l : List (κ × ν)} {k k' : κ} : mlook (mdel l k) k' = if k' = k then none else mlook l k' := by
  unfold mdel mlook
  induction l with
  | nil => simp
  | cons p l ih =>
    by_cases e : p.1 = k
    · rw [List.filter_cons_of_neg (by simp [e]), ih]
      by_cases e' : k' = k
      · simp [e']
      · simp [e', e, Ne.symm e']
    · rw [List.filter_cons_of_pos (by simp [e])]
      simp only [List.find?_cons]
      split
      · rename_i hp
        simp at hp
        subst hp
        simp [e]
      · exact ih
theorem mdel_length {l : List (κ × ν)} (hn : mnod l) {k : κ} (h : mhas l k = true) : (mdel l k).length + 1 = l.length := by
  induction l with
  | nil => simp [mhas] at h
  | cons p l ih =>
    unfold mnod at hn
    rw [List.map_cons, List.nodup_cons] at hn
    by_cases e : p.1 = k
    · have : mdel l k = l := by
        unfold mdel
        rw [List.filter_eq_self]
        intro q hq
        have : q.1 ≠ k := fun h => hn.1 (by rw [e, ← h]; exact List.mem_map.2 ⟨q, hq, rfl⟩)
        simp [this]
      unfold mdel at this ⊢
      rw [List.filter_cons_of_neg (by simp [e]), this]
      rfl
    · have := ih hn.2 (by simpa [mhas, e] using h)
      unfold mdel at this ⊢
      rw [List.filter_cons_of_pos (by simp [e])]
      simp only [List.length_cons]
      omega
theorem mdel_none {l : List (κ × ν)} {k : κ} (h : mhas l k = false) : mdel l k = l := by
  unfold mdel
  rw [List.filter_eq_self]
  intro q hq
  simp [mhas_false.1 h q hq]

theorem mdel_erase {l : List (κ × ν)} (hn : mnod l) {j : Nat} {p : κ × ν} (h3 : l[j]? = some p) : mdel l p.1 = l.eraseIdx j := by
  unfold mdel
  induction l generalizing j with
  | nil => simp at h3
  | cons q l ih =>
    unfold mnod at hn
    rw [List.map_cons, List.nodup_cons] at hn
    cases j with
    | zero =>
      simp at h3
      subst h3
      rw [List.filter_cons_of_neg (by simp), List.eraseIdx_cons_zero, List.filter_eq_self]
      intro r hr
      have : r.1 ≠ q.1 := fun h => hn.1 (h ▸ List.mem_map.2 ⟨r, hr, rfl⟩)
      simp [this]
    | succ j =>
      have h3 : l[j]? = some p := by simpa using h3
      have : q.1 ≠ p.1 := fun h => hn.1 (h ▸ List.mem_map.2 ⟨p, List.mem_of_getElem? h3, rfl⟩)
      rw [List.filter_cons_of_pos (by simp [this]), List.eraseIdx_cons_succ, ih hn.2 h3]

/-- As cells: keys and what is there. -/
def ments (enc : κ → Value) (f : ν → Value) (l : List (κ × ν)) : List (Value × Value) := l.map fun p => (enc p.1, f p.2)
end

theorem map_eraseIdx' {α β : Type} {f : α → β} : ∀ {l : List α} {j : Nat}, (l.eraseIdx j).map f = (l.map f).eraseIdx j
  | [], _ => rfl
  | _ :: _, 0 => rfl
  | x :: l, j + 1 => by simp [map_eraseIdx' (l := l)]

/-! ## The block -/

def MapAt (es : List (Value × Value)) (o : Obj) : Prop :=
  ∃ (a : Array MapEntry) (clock : Nat), o = .map a clock ∧ a.toList.map (fun e => (e.key, e.val)) = es ∧ (a.toList.map (·.born)).Nodup ∧ ∀ e ∈ a.toList, e.born < clock

def Prt.mp (b : Nat) (es : List (Value × Value)) : Prt :=
  ⟨fun F H => (∃ o, H b = some o ∧ MapAt es o) ∧ ∀ c, F c ↔ c = b,
   fun ⟨⟨o, h, m⟩, hF⟩ hf => ⟨⟨o, by rw [hf b ((hF b).2 rfl)]; exact h, m⟩, hF⟩,
   fun ⟨⟨o, h, m⟩, hF⟩ c hc => by rw [(hF c).1 hc, h]; simp⟩

/-- A map that is gone over: what is left of it, where it is. -/
def IterAt (m : Nat) (es todo : List (Value × Value)) (cur : Option (Value × Value)) (o oi : Obj) : Prop :=
  ∃ (a : Array MapEntry) (clock : Nat) (seen : Array Nat), o = .map a clock ∧ a.toList.map (fun e => (e.key, e.val)) = es ∧ (a.toList.map (·.born)).Nodup ∧ (∀ e ∈ a.toList, e.born < clock) ∧
    oi = .mapIter (some m) clock seen clock ∧ todo = ((a.toList.filter fun e => !seen.contains e.born).map fun e => (e.key, e.val)) ∧
    ∀ k v, cur = some (k, v) → ∃ e ∈ a.toList, seen.back? = some e.born ∧ e.key = k ∧ e.val = v

def Prt.mpit (m it : Nat) (es todo : List (Value × Value)) (cur : Option (Value × Value)) : Prt :=
  ⟨fun F H => (m ≠ it ∧ ∃ o oi, H m = some o ∧ H it = some oi ∧ IterAt m es todo cur o oi) ∧ ∀ c, F c ↔ c = m ∨ c = it,
   fun ⟨⟨hne, o, oi, h, hi, m⟩, hF⟩ hf => ⟨⟨hne, o, oi, by rw [hf _ ((hF _).2 (.inl rfl))]; exact h, by rw [hf _ ((hF _).2 (.inr rfl))]; exact hi, m⟩, hF⟩,
   fun ⟨⟨hne, o, oi, h, hi, m⟩, hF⟩ c hc => by rcases (hF c).1 hc with rfl | rfl <;> simp [h, hi]⟩

section
variable {P : Program} {H0 H : Hp} {L : List Prt} {i b : Nat}

theorem getObj_run {w : World} {b : Nat} {o : Obj} (h : hp w b = some o) (hm : (∃ a c, o = .map a c) ∨ ∃ m s n t, o = .mapIter m s n t) : (getObj b).run P w = .ok o w := by
  have hb : w.heap[b]? = some o := h
  rcases hm with ⟨a, c, rfl⟩ | ⟨m, s, n, t, rfl⟩ <;> simp [getObj, Sem.run, hb]
theorem setObj_run {w : World} {b : Nat} {o o' : Obj} (h : hp w b = some o) (hm : (∃ a c, o = .map a c) ∨ ∃ m s n t, o = .mapIter m s n t) :
    (setObj b o').run P w = .ok () { w with heap := w.heap.setIfInBounds b o' } ∧ hp { w with heap := w.heap.setIfInBounds b o' } = upd (hp w) b o' ∧ Rest w { w with heap := w.heap.setIfInBounds b o' } := by
  have hb : w.heap[b]? = some o := h
  have hlt : b < w.heap.size := (Array.getElem?_eq_some_iff.1 hb).1
  refine ⟨?_, ?_, ⟨rfl, rfl, rfl, by simp⟩⟩
  · rcases hm with ⟨a, c, rfl⟩ | ⟨m, s, n, t, rfl⟩ <;> simp [setObj, Sem.run, hb]
  · funext c
    simp only [hp, upd, Array.getElem?_setIfInBounds]
    by_cases e : c = b
    · subst e; simp [hlt]
    · simp [e, Ne.symm e]

theorem map_keys {κ ν : Type} {enc : κ → Value} {f : ν → Value} {l : List (κ × ν)} {a : Array MapEntry} (h : a.toList.map (fun e => (e.key, e.val)) = ments enc f l) : ∀ e ∈ a.toList, ∃ k, e.key = enc k := by
  intro e he
  have : (e.key, e.val) ∈ ments enc f l := h ▸ List.mem_map.2 ⟨e, he, rfl⟩
  obtain ⟨p, _, hp⟩ := List.mem_map.1 this
  simp only [Prod.mk.injEq] at hp
  exact ⟨p.1, hp.1.symm⟩

variable {κ ν : Type} [DecidableEq κ] {enc : κ → Value} {f : ν → Value} {l : List (κ × ν)} {kt et t : TypeId}

/-- What finding comes to. -/
theorem find_run (K : KeyK P kt enc) {a : Array MapEntry} (ha : a.toList.map (fun e => (e.key, e.val)) = ments enc f l) (k : κ) (w : World) :
    (mlook l k = none ∧ (Instr.findKey kt (enc k) a.toList).run P w = .ok none w) ∨
      ∃ (j : Nat) (p : κ × ν) (e : MapEntry), p.1 = k ∧ (Instr.findKey kt (enc k) a.toList).run P w = .ok (some (j, f p.2)) w ∧ l[j]? = some p ∧ a.toList[j]? = some e ∧ e.key = enc k := by
  rcases K.find w k a.toList (map_keys ha) with ⟨h1, h2⟩ | ⟨j, e, h1, h2, h3⟩
  · refine .inl ⟨mlook_none.2 fun p hp he => ?_, h1⟩
    have : (enc p.1, f p.2) ∈ a.toList.map (fun e => (e.key, e.val)) := ha ▸ List.mem_map.2 ⟨p, hp, rfl⟩
    obtain ⟨e, hm, heq⟩ := List.mem_map.1 this
    simp only [Prod.mk.injEq] at heq
    exact h2 e hm (by rw [heq.1, he])
  · have hj : (a.toList.map fun e => (e.key, e.val))[j]? = some (e.key, e.val) := by simp [List.getElem?_map, h2]
    rw [ha] at hj
    unfold ments at hj
    rw [List.getElem?_map, Option.map_eq_some_iff] at hj
    obtain ⟨p, hp, hpe⟩ := hj
    simp only [Prod.mk.injEq] at hpe
    refine .inr ⟨j, p, e, K.inj (by rw [hpe.1, h3]), by rw [hpe.2]; exact h1, hp, h2, h3⟩

theorem mlook_at (hn : mnod l) {j : Nat} {p : κ × ν} (h : l[j]? = some p) : mlook l p.1 = some p.2 := mlook_of hn (List.mem_of_getElem? h)

theorem mp_lookup (K : KeyK P kt enc) (ht : P.underlying t = some (.map kt et)) {z : Value} (hz : ((P.info? et).bind (·.zero)) = some z) {o : Obj} (hb : H b = some o) (hm : MapAt (ments enc f l) o) (hn : mnod l) (k : κ) (ok : Bool) {Q : Value → Prop}
    (hQ : Q (if ok then .tuple #[((mlook l k).map f).getD z, .bool (mlook l k).isSome] else ((mlook l k).map f).getD z)) : evR P (Instr.lookup t (.map (some b)) (enc k) ok) H Q := by
  obtain ⟨a, clock, rfl, ha, _, _⟩ := hm
  refine ⟨_, fun w hw => ?_, hQ⟩
  subst hw
  simp only [Instr.lookup, Sem.run_bind, run_underlying ht, Result.andThen_ok, getObj_run hb (.inl ⟨_, _, rfl⟩), Sem.run_pure, K.check]
  rcases find_run K ha k w with ⟨h1, h2⟩ | ⟨j, p, e, rfl, h2, h3, h4, h5⟩
  · rw [h2]
    have hzr : (zeroValue et).run P w = .ok z w := by
      cases hi : P.info? et with
      | none => rw [hi] at hz; cases hz
      | some inf =>
        rw [hi] at hz
        simp only [Option.bind_some] at hz
        simp [zeroValue, run_typeInfo hi, hz, Result.andThen]
    cases ok <;> simp [h1, hzr, Result.andThen]
  · rw [h2, mlook_at hn h3]
    cases ok <;> simp [Result.andThen]

omit [DecidableEq κ] in
theorem mp_len {o : Obj} (ht : P.underlying t = some (.map kt et)) {ty : TypeId} (hb : H b = some o) (hm : MapAt (ments enc f l) o) {Q : Value → Prop} (hQ : Q (.int .i64 l.length)) : evR P (Builtin.len_ #[t] ty #[.map (some b)]) H Q := by
  obtain ⟨a, clock, rfl, ha, _, _⟩ := hm
  have hl : a.size = l.length := by
    have := congrArg List.length ha
    simpa [ments] using this
  refine ⟨_, fun w hw => ?_, hQ⟩
  subst hw
  simp [Builtin.len_, run_underlying ht, Result.andThen, getObj_run hb (.inl ⟨_, _, rfl⟩), hl, goInt]

theorem mp_update (K : KeyK P kt enc) (ht : P.underlying t = some (.map kt et)) {o : Obj} (hb : H b = some o) (hm : MapAt (ments enc f l) o) (hn : mnod l) (k : κ) (x : ν) {Q : Unit → Hp → Prop}
    (hQ : ∀ o', MapAt (ments enc f (mput l k x)) o' → Q () (upd H b o')) : evW P (Instr.mapUpdate t (.map (some b)) (enc k) (f x)) H Q := by
  obtain ⟨a, clock, rfl, ha, hnd, hlt⟩ := hm
  intro w hw
  subst hw
  simp only [Instr.mapUpdate, Sem.run_bind, run_underlying ht, Result.andThen_ok, getObj_run hb (.inl ⟨_, _, rfl⟩), K.check]
  rcases find_run K ha k w with ⟨h1, h2⟩ | ⟨j, p, e, rfl, h2, h3, h4, h5⟩
  · rw [h2]
    obtain ⟨r1, r2, r3⟩ := setObj_run (P := P) (o' := .map (a.push { key := enc k, val := f x, born := clock }) (clock + 1)) hb (.inl ⟨_, _, rfl⟩)
    simp only [Result.andThen_ok, r1]
    refine ⟨(), _, rfl, r3, ?_⟩
    rw [r2]
    refine hQ _ ⟨_, _, rfl, ?_, ?_, ?_⟩
    · have : mhas l k = false := by rw [mhas_look, h1]; rfl
      simp [mput, this, ments, ha]
    · rw [Array.toList_push, List.map_append, List.nodup_append]
      refine ⟨hnd, by simp, fun y hy z hz => ?_⟩
      obtain ⟨e, he, rfl⟩ := List.mem_map.1 hy
      simp at hz
      subst hz
      exact Nat.ne_of_lt (hlt e he)
    · intro e he
      rw [Array.toList_push, List.mem_append] at he
      rcases he with he | he
      · have := hlt e he; omega
      · simp at he; subst he; simp
  · rw [h2]
    have hkey : ((a[j]?).map (·.key)).getD (enc p.1) = enc p.1 := by
      rw [← Array.getElem?_toList, h4]; simp [h5]
    obtain ⟨r1, r2, r3⟩ := setObj_run (P := P) (o' := .map (a.modify j fun e => { e with key := enc p.1, val := f x }) clock) hb (.inl ⟨_, _, rfl⟩)
    simp only [Sem.run_bind, Result.andThen_ok, hkey, K.stays, r1]
    refine ⟨(), _, rfl, r3, ?_⟩
    rw [r2]
    have hlj : j < a.size := by
      rw [← Array.length_toList]
      rcases Nat.lt_or_ge j a.toList.length with h | h
      · exact h
      · rw [List.getElem?_eq_none h] at h4; cases h4
    have hmod : (a.modify j fun e => { e with key := enc p.1, val := f x }).toList = a.toList.modify j fun e => { e with key := enc p.1, val := f x } := by simp
    refine hQ _ ⟨_, _, rfl, ?_, ?_, ?_⟩
    · have hhas : mhas l p.1 = true := by rw [mhas_look, mlook_at hn h3]; rfl
      rw [hmod]
      unfold mput
      rw [if_pos hhas]
      apply List.ext_getElem?
      intro y
      have hay : (a.toList.map fun e => (e.key, e.val))[y]? = (ments enc f l)[y]? := by rw [ha]
      simp only [ments, List.getElem?_map, List.getElem?_modify] at hay ⊢
      by_cases hy : j = y
      · subst hy
        simp [h3, h4]
      · simp only [if_neg hy]
        cases hl : l[y]? with
        | none => rw [hl] at hay; simpa using hay
        | some q =>
          rw [hl] at hay
          have hne : q.1 ≠ p.1 := fun heq => hy (by
            have hi1 : (l.map (·.1))[j]? = some p.1 := by simp [List.getElem?_map, h3]
            have hi2 : (l.map (·.1))[y]? = some p.1 := by simp [List.getElem?_map, hl, heq]
            have hj' : j < (l.map (·.1)).length := by
              rcases Nat.lt_or_ge j (l.map (·.1)).length with h | h
              · exact h
              · rw [List.getElem?_eq_none h] at hi1; cases hi1
            exact (List.getElem?_inj hj' hn).1 (by rw [hi1, hi2]))
          simpa [hne] using hay
    · rw [hmod]
      have : (a.toList.modify j fun e => { e with key := enc p.1, val := f x }).map (·.born) = a.toList.map (·.born) := by
        apply List.ext_getElem?
        intro y
        simp only [List.getElem?_map, List.getElem?_modify]
        split
        · cases a.toList[y]? <;> rfl
        · cases a.toList[y]? <;> rfl
      rw [this]
      exact hnd
    · rw [hmod]
      intro e' he'
      obtain ⟨y, hy, rfl⟩ := List.mem_iff_getElem.1 he'
      rw [List.length_modify] at hy
      simp only [List.getElem_modify]
      have := hlt (a.toList[y]) (List.getElem_mem hy)
      split
      · exact this
      · exact this

theorem mp_delete (K : KeyK P kt enc) (ht : P.underlying t = some (.map kt et)) {ty : TypeId} {o : Obj} (hb : H b = some o) (hm : MapAt (ments enc f l) o) (hn : mnod l) (k : κ) {Q : Value → Hp → Prop}
    (hQ : ∀ o', MapAt (ments enc f (mdel l k)) o' → Q (.tuple #[]) (upd H b o')) : evW P (Builtin.delete_ #[t, kt] ty #[.map (some b), enc k]) H Q := by
  obtain ⟨a, clock, rfl, ha, hnd, hlt⟩ := hm
  intro w hw
  subst hw
  rcases find_run K ha k w with ⟨h1, h2⟩ | ⟨j, p, e, rfl, h2, h3, h4, h5⟩
  · obtain ⟨r1, r2, r3⟩ := setObj_run (P := P) (o' := .map a clock) hb (.inl ⟨_, _, rfl⟩)
    refine ⟨.tuple #[], _, ?_, r3, ?_⟩
    · simp only [Builtin.delete_, List.getElem?_toArray, List.getElem?_cons_zero, List.getElem?_cons_succ, Sem.run_bind, run_underlying ht, Result.andThen_ok, getObj_run hb (.inl ⟨_, _, rfl⟩), K.check, h2, r1, Sem.run_pure]
    · rw [r2]
      exact hQ _ ⟨_, _, rfl, by rw [mdel_none (by rw [mhas_look, h1]; rfl)]; exact ha, hnd, hlt⟩
  · obtain ⟨r1, r2, r3⟩ := setObj_run (P := P) (o' := .map (a.eraseIdxIfInBounds j) clock) hb (.inl ⟨_, _, rfl⟩)
    refine ⟨.tuple #[], _, ?_, r3, ?_⟩
    · simp only [Builtin.delete_, List.getElem?_toArray, List.getElem?_cons_zero, List.getElem?_cons_succ, Sem.run_bind, run_underlying ht, Result.andThen_ok, getObj_run hb (.inl ⟨_, _, rfl⟩), K.check, h2, r1, Sem.run_pure]
    · rw [r2]
      have he : (a.eraseIdxIfInBounds j).toList = a.toList.eraseIdx j := by simp
      have hdel := mdel_erase hn h3
      refine hQ _ ⟨_, _, rfl, ?_, ?_, ?_⟩
      · rw [he, hdel]
        unfold ments at ha ⊢
        rw [map_eraseIdx', ha, map_eraseIdx']
      · rw [he]
        exact ((List.eraseIdx_sublist _ _).map _).nodup hnd
      · rw [he]
        exact fun e' he' => hlt e' (List.mem_of_mem_eraseIdx he')

/-! ## The same, of a run's parts -/

theorem St.mpAt (h : St H0 L H) {es : List (Value × Value)} (hi : L[i]? = some (Prt.mp b es)) : ∃ o, H b = some o ∧ MapAt es o := by
  obtain ⟨_, ha, _⟩ := h.at hi
  exact ha.1
theorem St.mpSet (h : St H0 L H) {es es' : List (Value × Value)} (hi : L[i]? = some (Prt.mp b es)) {o' : Obj} (hm : MapAt es' o') : St H0 (L.set i (Prt.mp b es')) (upd H b o') := by
  obtain ⟨Fi, ha, up⟩ := h.at hi
  exact up (Prt.mp b es') Fi _ ⟨⟨o', upd_same, hm⟩, ha.2⟩ (Goes.of (Keep.upd.mono fun c h => .inl ((ha.2 c).2 h)))
theorem St.mpNew (h : St H0 L H) (hb : H b = none) : St H0 (Prt.mp b [] :: L) (upd H b (.map #[] 0)) :=
  h.new (A := Prt.mp b []) (FA := fun c => c = b) ⟨⟨_, upd_same, #[], 0, rfl, rfl, by simp, fun e he => by simp at he⟩, fun _ => Iff.rfl⟩ (Goes.alloc hb)

theorem St.look (h : St H0 L H) (hi : L[i]? = some (Prt.mp b (ments enc f l))) (K : KeyK P kt enc) (ht : P.underlying t = some (.map kt et)) {z : Value} (hz : ((P.info? et).bind (·.zero)) = some z) (hn : mnod l) (k : κ) (ok : Bool) {Q : Value → Prop}
    (hQ : Q (if ok then .tuple #[((mlook l k).map f).getD z, .bool (mlook l k).isSome] else ((mlook l k).map f).getD z)) : evR P (Instr.lookup t (.map (some b)) (enc k) ok) H Q := by
  obtain ⟨o, hb, hm⟩ := h.mpAt hi
  exact mp_lookup K ht hz hb hm hn k ok hQ
omit [DecidableEq κ] in
theorem St.mlen (h : St H0 L H) (hi : L[i]? = some (Prt.mp b (ments enc f l))) (ht : P.underlying t = some (.map kt et)) {ty : TypeId} {Q : Value → Prop} (hQ : Q (.int .i64 l.length)) : evR P (Builtin.len_ #[t] ty #[.map (some b)]) H Q := by
  obtain ⟨o, hb, hm⟩ := h.mpAt hi
  exact mp_len ht hb hm hQ
theorem St.mupd (h : St H0 L H) (hi : L[i]? = some (Prt.mp b (ments enc f l))) (K : KeyK P kt enc) (ht : P.underlying t = some (.map kt et)) (hn : mnod l) (k : κ) (x : ν) {v : Value} (hv : v = f x) {Q : Unit → Hp → Prop}
    (hQ : ∀ H', St H0 (L.set i (Prt.mp b (ments enc f (mput l k x)))) H' → Q () H') : evW P (Instr.mapUpdate t (.map (some b)) (enc k) v) H Q := by
  subst hv
  obtain ⟨o, hb, hm⟩ := h.mpAt hi
  exact mp_update K ht hb hm hn k x fun o' hm' => hQ _ (h.mpSet hi hm')
theorem St.mdelete (h : St H0 L H) (hi : L[i]? = some (Prt.mp b (ments enc f l))) (K : KeyK P kt enc) (ht : P.underlying t = some (.map kt et)) {ty : TypeId} (hn : mnod l) (k : κ) {Q : Value → Hp → Prop}
    (hQ : ∀ H', St H0 (L.set i (Prt.mp b (ments enc f (mdel l k)))) H' → Q (.tuple #[]) H') : evW P (Builtin.delete_ #[t, kt] ty #[.map (some b), enc k]) H Q := by
  obtain ⟨o, hb, hm⟩ := h.mpAt hi
  exact mp_delete K ht hb hm hn k fun o' hm' => hQ _ (h.mpSet hi hm')

/-- Going over a map begins. -/
theorem St.mrange (h : St H0 L H) {es : List (Value × Value)} (hi : L[i]? = some (Prt.mp b es)) (ht : P.underlying t = some (.map kt et)) {Q : Value → Hp → Prop}
    (hQ : ∀ it H', St H0 (L.set i (Prt.mpit b it es es none)) H' → Q (.pointer (some ⟨it, 0, none⟩)) H') : evW P (Instr.range t (.map (some b))) H Q := by
  obtain ⟨Fi, ⟨⟨o, hb, a, clock, rfl, ha, hnd, hlt⟩, hF⟩, up⟩ := h.at hi
  intro w hw
  subst hw
  refine ⟨.pointer (some ⟨w.heap.size, 0, none⟩), { w with heap := w.heap.push (.mapIter (some b) clock #[] clock) }, ?_, rest_push _ _, ?_⟩
  rotate_left
  · rw [hp_push]
    have hne : b ≠ w.heap.size := fun e => by
      rw [e] at hb
      simp [hp] at hb
    refine hQ w.heap.size _ (up (Prt.mpit b w.heap.size es es none) (fun c => c = b ∨ c = w.heap.size) _ ⟨⟨hne, _, _, by rw [upd_other hne]; exact hb, upd_same, a, clock, #[], rfl, ha, hnd, hlt, rfl, ?_, fun _ _ h => by cases h⟩, fun _ => Iff.rfl⟩ ⟨Keep.new (by simp [hp]) _, fun c hc => hc.elim (fun e => .inl ((hF c).2 e)) fun e => .inr (by rw [e]; simp [hp])⟩)
    rw [← ha]
    congr 1
    symm
    rw [List.filter_eq_self]
    intro e _
    simp
  · simp only [Instr.range, Sem.run_bind, run_underlying ht, Result.andThen_ok, getObj_run hb (.inl ⟨_, _, rfl⟩), Sem.run_pure, run_newObj]

/-- A step of it. -/
theorem St.mnext (h : St H0 L H) {it : Nat} {es todo : List (Value × Value)} {cur : Option (Value × Value)} (hi : L[i]? = some (Prt.mpit b it es todo cur)) {ty : TypeId} {Q : Value → Hp → Prop}
    (hover : todo = [] → Q (.tuple #[.bool false]) H)
    (hmore : ∀ k v A B, todo = A ++ (k, v) :: B → ∀ H', St H0 (L.set i (Prt.mpit b it es (A ++ B) (some (k, v)))) H' → Q (.tuple #[.bool true, k, v]) H') : evW P (Instr.next (.pointer (some ⟨it, 0, none⟩)) false ty) H Q := by
  obtain ⟨Fi, ⟨⟨hne, o, oi, hb, hib, a, clock, seen, rfl, ha, hnd, hlt, rfl, htodo, hcur⟩, hF⟩, up⟩ := h.at hi
  intro w hw
  subst hw
  have hguard : (!seen.isEmpty && !a.isEmpty && a.all (fun e => decide (e.born ≥ clock))) = false := by
    cases he : a.isEmpty
    · have : a.all (fun e => decide (e.born ≥ clock)) = false := by
        rw [← Bool.not_eq_true, Array.all_eq_true]
        intro hall
        have h0 : 0 < a.size := by
          rcases Nat.eq_zero_or_pos a.size with h | h
          · rw [Array.isEmpty_iff_size_eq_zero.2 h] at he; cases he
          · exact h
        have h1 := hall 0 h0
        have h2 := hlt a[0] (by simp)
        simp at h1
        omega
      simp [this]
    · simp
  have hold : (a.filter fun e => !seen.contains e.born).filter (fun e => decide (e.born < clock)) = a.filter fun e => !seen.contains e.born := by
    rw [Array.filter_eq_self]
    intro e he
    have := hlt e (by simpa using (Array.mem_filter.1 he).1)
    simpa using this
  have hnew : (a.filter fun e => !seen.contains e.born).filter (fun e => decide (e.born ≥ clock)) = #[] := by
    rw [Array.filter_eq_empty_iff]
    intro e he
    have := hlt e (by simpa using (Array.mem_filter.1 he).1)
    simpa using this
  have hleft : (a.filter fun e => !seen.contains e.born).toList = a.toList.filter fun e => !seen.contains e.born := by simp
  generalize hlf : (a.filter fun e => !seen.contains e.born) = left at *
  by_cases hemp : left = #[]
  · have h0 : todo = [] := by rw [htodo, ← hleft, hemp]; rfl
    refine ⟨.tuple #[.bool false], w, ?_, .refl w, hover h0⟩
    simp only [Instr.next, Sem.run_bind, getObj_run hib (.inr ⟨_, _, _, _, rfl⟩), Result.andThen_ok, getObj_run hb (.inl ⟨_, _, rfl⟩), hguard, Bool.false_eq_true, if_false, Sem.run_pure, hlf, hold, hnew, run_choose]
    simp [hemp, Question.forced, Result.andThen]
  · have hne0 : left.isEmpty = false := by
      cases he : left.isEmpty
      · rfl
      · exact absurd (by simpa using he) hemp
    have hpos : 0 < left.size := by
      rcases Nat.eq_zero_or_pos left.size with h | h
      · exact absurd (Array.size_eq_zero_iff.1 h) hemp
      · exact h
    have hpick : ∃ (n : Nat) (w1 : World), n < left.size ∧ (choose (.mapNext left.size)).run P w = .ok n w1 ∧ hp w1 = hp w ∧ Rest w w1 := by
      rw [run_choose]
      by_cases hf : (Question.mapNext left.size).forced = true
      · exact ⟨0, w, hpos, by rw [if_pos hf], rfl, .refl w⟩
      · exact ⟨(w.tape w.drawn (.mapNext left.size)) % left.size, { w with drawn := w.drawn + 1 }, Nat.mod_lt _ hpos, by rw [if_neg hf]; rfl, rfl, ⟨rfl, rfl, rfl, Nat.le_refl _⟩⟩
    obtain ⟨n, w1, hn, hch, hw1, hr1⟩ := hpick
    have hib1 : hp w1 it = some (.mapIter (some b) clock seen clock) := by rw [hw1]; exact hib
    obtain ⟨r1, r2, r3⟩ := setObj_run (P := P) (o' := .mapIter (some b) clock (seen.push left[n].born) clock) hib1 (.inr ⟨_, _, _, _, rfl⟩)
    refine ⟨.tuple #[.bool true, left[n].key, left[n].val], _, ?_, hr1.trans r3, ?_⟩
    · simp only [Instr.next, Sem.run_bind, getObj_run hib (.inr ⟨_, _, _, _, rfl⟩), Result.andThen_ok, getObj_run hb (.inl ⟨_, _, rfl⟩), hguard, Bool.false_eq_true, if_false, Sem.run_pure, hlf, hold, hnew, hne0, Array.append_empty, Array.empty_append, Array.size_map, hch, Array.getElem?_map, Array.getElem?_eq_getElem hn, Option.map_some, r1]
    · rw [r2, hw1]
      have hmem : left[n] ∈ a.toList := by
        have : left[n] ∈ left.toList := by rw [← Array.getElem_toList hn]; exact List.getElem_mem _
        rw [hleft] at this
        exact (List.mem_filter.1 this).1
      have hnl : n < left.toList.length := by simpa using hn
      have hsplit : left.toList = left.toList.take n ++ left[n] :: left.toList.drop (n + 1) := by
        rw [← Array.getElem_toList hn, ← List.drop_eq_getElem_cons hnl, List.take_append_drop]
      refine hmore _ _ ((left.toList.take n).map fun e => (e.key, e.val)) ((left.toList.drop (n + 1)).map fun e => (e.key, e.val)) ?_ _ ?_
      · rw [htodo, ← hleft]
        conv => lhs; rw [hsplit]
        simp
      · refine up (Prt.mpit b it es _ _) Fi _ ⟨⟨hne, _, _, by rw [upd_other hne]; exact hb, upd_same, a, clock, seen.push left[n].born, rfl, ha, hnd, hlt, rfl, ?_, fun k v h => by cases h; exact ⟨left[n], hmem, by simp, rfl, rfl⟩⟩, hF⟩ (Goes.of (Keep.upd.mono fun c h => .inl ((hF c).2 (.inr h))))
        have hnd2 : (left.toList.map (·.born)).Nodup := by
          rw [hleft]
          exact (List.filter_sublist.map _).nodup hnd
        rw [← List.map_append]
        congr 1
        have h1 : a.toList.filter (fun e => !(seen.push left[n].born).contains e.born) = (a.toList.filter fun e => !seen.contains e.born).filter fun e => !decide (e.born = left[n].born) := by
          rw [List.filter_filter]
          apply List.filter_congr
          intro e _
          rw [Array.contains_push]
          by_cases hc : e.born = left[n].born
          · simp [hc]
          · simp [hc]
        rw [h1, ← hleft]
        conv => rhs; rw [hsplit]
        rw [hsplit, List.map_append, List.map_cons, List.nodup_append, List.nodup_cons] at hnd2
        obtain ⟨d1, ⟨d2, d3⟩, d4⟩ := hnd2
        rw [List.filter_append, List.filter_cons_of_neg (by simp)]
        congr 1
        · symm
          rw [List.filter_eq_self]
          intro e he
          have := d4 e.born (List.mem_map.2 ⟨e, he, rfl⟩) left[n].born (by simp)
          simpa using this
        · symm
          rw [List.filter_eq_self]
          intro e he
          have : e.born ≠ left[n].born := fun h => d2 (h ▸ List.mem_map.2 ⟨e, he, rfl⟩)
          simpa using this

/-- Where it is, read again. -/
theorem St.mentry (h : St H0 L H) {it : Nat} {es todo : List (Value × Value)} {k v : Value} (hi : L[i]? = some (Prt.mpit b it es todo (some (k, v)))) {Q : Value → Hp → Prop} (hQ : Q (.tuple #[k, v]) H) : evW P (Instr.entry (.pointer (some ⟨it, 0, none⟩))) H Q := by
  obtain ⟨Fi, ⟨⟨hne, o, oi, hb, hib, a, clock, seen, rfl, ha, hnd, hlt, rfl, htodo, hcur⟩, hF⟩, up⟩ := h.at hi
  obtain ⟨e, he, hs, rfl, rfl⟩ := hcur k v rfl
  intro w hw
  subst hw
  have hfind : a.find? (fun x => x.born == e.born) = some e := by
    rw [← Array.find?_toList]
    cases hf : a.toList.find? (fun x => x.born == e.born) with
    | none =>
      rw [List.find?_eq_none] at hf
      exact absurd (hf e he) (by simp)
    | some x =>
      have h1 := List.find?_some hf
      have h2 := List.mem_of_find?_eq_some hf
      simp at h1
      obtain ⟨y, hy, rfl⟩ := List.mem_iff_getElem.1 h2
      obtain ⟨z, hz, rfl⟩ := List.mem_iff_getElem.1 he
      have : y = z := (List.getElem_inj (h₀ := by simpa using hy) (h₁ := by simpa using hz) hnd).1 (by simpa using h1)
      subst this
      rfl
  refine ⟨.tuple #[e.key, e.val], w, ?_, .refl w, hQ⟩
  simp only [Instr.entry, Sem.run_bind, getObj_run hib (.inr ⟨_, _, _, _, rfl⟩), Result.andThen_ok, hs, getObj_run hb (.inl ⟨_, _, rfl⟩), bne_self_eq_false, Bool.false_eq_true, if_false, hfind, Sem.run_pure]

/-- Going over it ends. -/
theorem St.mleave (h : St H0 L H) {it : Nat} {es todo : List (Value × Value)} {cur : Option (Value × Value)} (hi : L[i]? = some (Prt.mpit b it es todo cur)) : St H0 (L.set i (Prt.mp b es)) H := by
  obtain ⟨Fi, ⟨⟨hne, o, oi, hb, hib, a, clock, seen, rfl, ha, hnd, hlt, rfl, htodo, hcur⟩, hF⟩, up⟩ := h.at hi
  exact up (Prt.mp b es) (fun c => c = b) H ⟨⟨_, hb, a, clock, rfl, ha, hnd, hlt⟩, fun _ => Iff.rfl⟩ ((Goes.refl Fi H).less fun c e => (hF c).2 (.inl e))
end

end Go.Proofs.Ytohlnmenghbgbaa
