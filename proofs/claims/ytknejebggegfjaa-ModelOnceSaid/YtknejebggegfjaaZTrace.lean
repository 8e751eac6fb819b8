/- Merged by merge.py: DenSlices, DenCmp, DenMath, TrB, TrS, DenTrace, DenClock, DenLease, TrP, TrP2, TrP3, TrP4, TrP5, TrC, DenLaw23, TrD, TrW, TrW2, DenLaw23WebIns, DenLaw23WebHolders, DenLaw23WebAnswer, TrV, DenWitness, DenRef22, DenLaw22, Wit. No condition. -/
import Derived.Test.YtknejebggegfjaaZNum
import Derived.Test.YtknejebggegfjaaZHeap
import Derived.Test.YtknejebggegfjaaZBase
import Derived.Test.YtknejebggegfjaaZPaint

namespace Go.Proofs.Ytknejebggegfjaa
open Go
set_option linter.unusedVariables false
set_option maxRecDepth 100000
def B_slices_Equal_Sapi_ID_api_ID (s1P1 : Option Addr) (s1L2 : Nat) (s1C3 : Nat) (s2P4 : Option Addr) (s2L5 : Nat) (s2C6 : Nat) (H : Hp) (K : Value → Hp → Prop) : Prop :=
 (bif (((s1L2 : Int) : Int) != (s2L5 : Int)) then
 K (.bool false) H
else
 ∃ (I7 : Int → Hp → Prop) (m8 : Int → Hp → Nat), I7 0 H ∧ ∀ t10 : Int, ∀ Hx9 : Hp, I7 t10 Hx9 →
 (bif (decide ((t10 : Int) < (s1L2 : Int))) then
 idxA s1P1 s1L2 t10 2 fun el11 =>
 ldI .i64 el11 Hx9 fun Node12 =>
 ldI .u64 (el11.add 1) Hx9 fun Serial13 =>
 idxA s2P4 s2L5 t10 2 fun el14 =>
 ldI .i64 el14 Hx9 fun Node15 =>
 ldI .u64 (el14.add 1) Hx9 fun Serial16 =>
 evR PR (aggEq .neq ty_api_ID #[(.int .i64 Node12), (.int .u64 Serial13)] #[(.int .i64 Node15), (.int .u64 Serial16)]) Hx9 fun v17 =>
 asB v17 fun eq18 =>
 (bif eq18 then
 K (.bool false) Hx9
else
 I7 (IntKind.i64.wrap (t10 + 1)) Hx9 ∧ m8 (IntKind.i64.wrap (t10 + 1)) Hx9 < m8 t10 Hx9)
else
 K (.bool true) Hx9))
theorem E_slices_Equal_Sapi_ID_api_ID (s1P1 : Option Addr) (s1L2 : Nat) (s1C3 : Nat) (s2P4 : Option Addr) (s2L5 : Nat) (s2C6 : Nat) (H : Hp) (K : Value → Hp → Prop) : B_slices_Equal_Sapi_ID_api_ID s1P1 s1L2 s1C3 s2P4 s2L5 s2C6 H K = denF Try.prog Try.f88 (.seq none .n (.seq none .n (.seq none (.seq none .n (.sub (.loop ⟨[(13, .int .i64)], [0, 1, 12]⟩ .n))) .n))) [(.slice s1P1 s1L2 s1C3), (.slice s2P4 s2L5 s2C6)] H K := by kernel_rfl
theorem den_slices_Equal_Sapi_ID_api_ID {s1P1 : Option Addr} {s1L2 : Nat} {s1C3 : Nat} {s2P4 : Option Addr} {s2L5 : Nat} {s2C6 : Nat} {H : Hp} {K : Value → Hp → Prop} (h : B_slices_Equal_Sapi_ID_api_ID s1P1 s1L2 s1C3 s2P4 s2L5 s2C6 H K) : hcall PR f_slices_Equal_Sapi_ID_api_ID ⟨[(.slice s1P1 s1L2 s1C3), (.slice s2P4 s2L5 s2C6)]⟩ H K := denF_call Try.func88 PR_mixed (Eq.mp (E_slices_Equal_Sapi_ID_api_ID s1P1 s1L2 s1C3 s2P4 s2L5 s2C6 H K) h)

end Go.Proofs.Ytknejebggegfjaa

namespace Go.Proofs.Ytknejebggegfjaa
open Go
set_option linter.unusedVariables false
set_option maxRecDepth 100000
end Go.Proofs.Ytknejebggegfjaa

namespace Go.Proofs.Ytknejebggegfjaa
open Go
set_option linter.unusedVariables false
set_option maxRecDepth 100000
end Go.Proofs.Ytknejebggegfjaa

namespace Go.Proofs.Ytknejebggegfjaa
set_option linter.unusedSimpArgs false
set_option linter.unusedVariables false
open Go
/-- A reference. -/
structure Id where
  n : Int
  s : Int
instance : DecidableEq Id := fun a b => decidable_of_iff (a.n = b.n ∧ a.s = b.s) ⟨fun h => by cases a; cases b; simp_all, fun h => by rw [h]; exact ⟨rfl, rfl⟩⟩
abbrev noId : Id := ⟨0, 0⟩
def Id.cells (x : Id) : List Value := [.int .i64 x.n, .int .u64 x.s]
theorem Id.len (x : Id) : x.cells.length = 2 := rfl
theorem id_ints : intsOf PR ty_api_ID = some [.i64, .u64] := by kernel_rfl
theorem id_guard : PR.eqGuardType PR.depth ty_api_ID = false := by kernel_rfl
theorem idEq {H : Hp} {a b c d : Int} {Q : Value → Prop} (hQ : Q (.bool (decide ((⟨a, b⟩ : Id) = ⟨c, d⟩)))) : evR PR (aggEq .eql ty_api_ID #[.int .i64 a, .int .u64 b] #[.int .i64 c, .int .u64 d]) H Q := by
  refine aggEq_ints (ks := [.i64, .u64]) (ns := [a, b]) (ms := [c, d]) id_ints id_guard rfl rfl ?_
  rw [show decide ([a, b] = [c, d]) = decide ((⟨a, b⟩ : Id) = ⟨c, d⟩) by simp]
  exact hQ
theorem idNe {H : Hp} {a b c d : Int} {Q : Value → Prop} (hQ : Q (.bool (!decide ((⟨a, b⟩ : Id) = ⟨c, d⟩)))) : evR PR (aggEq .neq ty_api_ID #[.int .i64 a, .int .u64 b] #[.int .i64 c, .int .u64 d]) H Q := by
  refine aggNe_ints (ks := [.i64, .u64]) (ns := [a, b]) (ms := [c, d]) id_ints id_guard rfl rfl ?_
  rw [show decide ([a, b] = [c, d]) = decide ((⟨a, b⟩ : Id) = ⟨c, d⟩) by simp]
  exact hQ

theorem wrap_u64' {n : Int} (h0 : 0 ≤ n) (h1 : n < 18446744073709551616) : IntKind.u64.wrap n = n := by rw [wrap_u64]; omega
/-! ## Stores in a row -/
def sts (b o : Nat) : List Value → Hp → (Hp → Prop) → Prop
  | [], H, K => K H
  | v :: vs, H, K => st ⟨b, o, none⟩ v H fun H' => sts b (o + 1) vs H' K
def setsA (c : Array Value) : Nat → List Value → Array Value
  | _, [] => c
  | o, v :: vs => setsA (c.setIfInBounds o v) (o + 1) vs
theorem setsA_get : ∀ {vs : List Value} {c : Array Value} {o i : Nat}, o + vs.length ≤ c.size → (setsA c o vs)[i]? = if o ≤ i ∧ i < o + vs.length then vs[i - o]? else c[i]?
  | [], c, o, i, h => by simp [setsA]; omega
  | v :: vs, c, o, i, h => by
    unfold setsA
    simp only [List.length_cons] at h
    rw [setsA_get (by simp; omega)]
    simp only [List.length_cons]
    by_cases h1 : o + 1 ≤ i ∧ i < o + 1 + vs.length
    · rw [if_pos h1, if_pos (by omega), show i - o = (i - (o + 1)) + 1 by omega, List.getElem?_cons_succ]
    · rw [if_neg h1, Array.getElem?_setIfInBounds]
      by_cases h2 : o = i
      · subst h2
        rw [if_pos rfl, if_pos (by omega), if_pos (by omega), Nat.sub_self]
        rfl
      · rw [if_neg h2, if_neg (by omega)]
theorem setsA_all {vs : List Value} {c : Array Value} (h : vs.length = c.size) : setsA c 0 vs = vs.toArray := by
  apply Array.ext_getElem?
  intro i
  rw [setsA_get (by omega)]
  by_cases hi : i < vs.length
  · rw [if_pos (by omega)]; simp
  · rw [if_neg (by omega), Array.getElem?_eq_none (by omega), Array.getElem?_eq_none (by simp; omega)]

section
variable {H0 H : Hp} {L M : List Prt} {i : Nat}
theorem St.sets {b : Nat} {e : TypeId} {K : Hp → Prop} : ∀ {vs : List Value} {c : Array Value} {o : Nat} {H : Hp} {L : List Prt}, St H0 L H → L[i]? = some (Prt.one b (.cells c e (0, 0))) → o + vs.length ≤ c.size →
    (∀ H', St H0 (L.set i (Prt.one b (.cells (setsA c o vs) e (0, 0)))) H' → K H') → sts b o vs H K
  | [], c, o, H, L, h, hi, hl, hK => hK H (by unfold setsA; rw [List.set_self hi]; exact h)
  | v :: vs, c, o, H, L, h, hi, hl, hK => by
    unfold sts
    simp only [List.length_cons] at hl
    have hil := ltOfGet hi
    refine h.put hi (by omega) fun H1 h1 => St.sets (o := o + 1) h1 (by simp [hil]; rfl) (by simp; omega) fun H2 h2 => hK H2 ?_
    rw [List.set_set] at h2
    exact h2
/-- A new block, all of it stored. -/
theorem boxs {T : TypeId} {c vs : List Value} {K : Nat → Hp → Prop} (h : St H0 L H) (hl : vs.length = c.length) (hK : ∀ b H', St H0 (Prt.one b (.cells vs.toArray T (0, 0)) :: L) H' → K b H') :
    newB (.cells c.toArray T) H fun b H1 => sts b 0 vs H1 (K b) := by
  intro b hb
  have h1 := h.alloc (o := .cells c.toArray T) hb
  refine St.sets (i := 0) h1 rfl (by simp [hl]) fun H2 h2 => hK b H2 ?_
  rw [setsA_all (by simp [hl])] at h2
  exact h2
end
section
variable {H0 H : Hp} {L M : List Prt} {i j : Nat}
/-- A part is given up. -/
theorem St.void {A : Prt} (h : St H0 L H) (hi : L[i]? = some A) : St H0 (L.set i .nil) H := by
  obtain ⟨Fi, ha, up⟩ := h.at hi
  exact up .nil Nothing H (fun _ h => h) ((Goes.refl Fi H).less fun c h => h.elim)
/-- A new part takes an old one's place. -/
theorem St.over {A B : Prt} (h : St H0 (B :: L) H) (hi : L[i]? = some A) : St H0 (L.set i B) H := by
  have h1 := St.void (i := i + 1) h hi
  have h2 := St.shutAt (L := L.set i .nil) (i := i) h1 (set_nil_get hi)
  rwa [List.set_set] at h2
end
/-! ## Rising lists -/
def put1 (x : Int) : List Int → List Int
  | [] => [x]
  | y :: l => if x ≤ y then x :: y :: l else y :: put1 x l
def rise1 : List Int → List Int
  | [] => []
  | x :: l => put1 x (rise1 l)
theorem put1_perm {x : Int} : ∀ {l : List Int}, (put1 x l).Perm (x :: l)
  | [] => List.Perm.refl _
  | y :: l => by
    unfold put1
    split
    · exact List.Perm.refl _
    · exact ((put1_perm (l := l)).cons y).trans (List.Perm.swap x y l)
theorem rise1_perm : ∀ {l : List Int}, (rise1 l).Perm l
  | [] => List.Perm.refl _
  | x :: l => put1_perm.trans (rise1_perm.cons x)
section
variable {H0 H : Hp} {L M : List Prt} {i : Nat}
end
end Go.Proofs.Ytknejebggegfjaa

namespace Go.Proofs.Ytknejebggegfjaa
set_option linter.unusedSimpArgs false
set_option linter.unusedVariables false
open Go
/-- An item. -/
structure It where
  inn : Bool
  node : Int
  id : Id
  code : Int
instance : Inhabited It := ⟨⟨false, 0, noId, 0⟩⟩
abbrev noIt : It := ⟨false, 0, noId, 0⟩
def It.cells (x : It) : List Value := [.bool x.inn, .int .i64 x.node, .int .i64 x.id.n, .int .u64 x.id.s, .int .i64 x.code]
theorem It.len (x : It) : x.cells.length = 5 := rfl
/-- The same item, whatever was told of it. -/
def It.same (a b : It) : Bool := (a.inn == b.inn) && decide (a.node = b.node) && decide (a.id = b.id)
/-- A trace. -/
structure Tr where
  node : Int
  num : Int
  found : Int
  st : Int
  items : List It
  sm : List (Int × Int)
  opn : Int
  todo : List Int
  sent : Int
  wait : Int
/-- A question. -/
structure Qn where
  kind : Int
  frm : Int
  to : Int
  call : Int
  op : Int
  item : Int
  tgt : Id
  stamp : Int

def Tr.over (t : Tr) : Tr := { t with st := 0, items := [], sm := [], todo := [], opn := 0, sent := 0, wait := 0 }
def Tr.finds (t : Tr) : Tr := Tr.over { t with found := IntKind.i64.wrap (t.found + 1) }
def Tr.next (t : Tr) : Tr := { t with opn := IntKind.i64.wrap (t.opn + 1), sent := 0, wait := 0 }
def lWait (w a b : Int) : Int := if w = 0 then (if b < a then b else a) else if w > IntKind.u64.wrap (Int.tdiv b 2) then b else IntKind.u64.wrap (2 * w)
def pastB (a s n : Int) : Bool := decide (n ≥ a) && decide (IntKind.u64.wrap (n - a) ≥ s)
def Tr.q (t : Tr) : Qn :=
  if t.st = 1 then ⟨8, t.node, (t.items.getD t.opn.toNat noIt).node, t.num, if (t.items.getD t.opn.toNat noIt).inn then 1 else 2, t.opn, (t.items.getD t.opn.toNat noIt).id, 0⟩
  else if t.st = 2 then ⟨8, t.node, t.todo.getD 0 0, t.num, 3, t.opn, noId, 0⟩
  else ⟨10, t.node, (t.items.getD (t.todo.getD 0 0).toNat noIt).node, t.num, 0, t.opn, (t.items.getD (t.todo.getD 0 0).toNat noIt).id, (mlook t.sm (t.items.getD (t.todo.getD 0 0).toNat noIt).node).getD 0⟩
def Tr.told (t : Tr) (a b now : Int) : Tr := { t with sent := now, wait := lWait t.wait a b }
/-- What an answer leads to. -/
def moreIt (nodes : Int) (x : It) (n : Int) : Option It :=
  if n < 1 then none else if n > 72057594037927935 then none else if x.inn then (if n > nodes then none else if n = x.id.n then none else some ⟨false, n, x.id, 0⟩) else some ⟨true, x.node, ⟨x.node, n⟩, 0⟩
def moreL (nodes : Int) (x : It) : List Int → List It → Bool × List It
  | [], l => (true, l)
  | n :: r, l => match moreIt nodes x n with
    | none => (false, l)
    | some y => if l.any (fun z => z.same y) then moreL nodes x r l else if 1000 ≤ l.length then (false, l) else moreL nodes x r (l ++ [y])
def Tr.onward (t : Tr) : Tr :=
  if (t.next).opn < t.items.length then t.next
  else if t.sm.length = 0 then Tr.finds t.next else { t.next with todo := rise1 (t.sm.map (·.1)), st := 2 }
def Tr.code (t : Tr) (c : Int) : Tr := { t with items := t.items.set t.opn.toNat { t.items.getD t.opn.toNat noIt with code := c } }
def Tr.asked (nodes : Int) (t : Tr) (code stamp : Int) (l : List Int) : Tr :=
  if code = 0 then (t.code 0).onward
  else if code = 2 then
    if (mlook t.sm (t.items.getD t.opn.toNat noIt).node).isSome ∧ (mlook t.sm (t.items.getD t.opn.toNat noIt).node).getD 0 ≠ stamp then t.over
    else if (moreL nodes (t.items.getD t.opn.toNat noIt) l (t.code 2).items).1 = false then t.over
    else Tr.onward { t with items := (moreL nodes (t.items.getD t.opn.toNat noIt) l (t.code 2).items).2, sm := mput t.sm (t.items.getD t.opn.toNat noIt).node stamp }
  else t.over
/-- The items that are to be buried, by place. -/
def buryFrom : Nat → List It → List Int
  | _, [] => []
  | k, x :: l => if x.inn = true ∧ x.code = 2 then (k : Int) :: buryFrom (k + 1) l else buryFrom (k + 1) l
def Tr.checked (t : Tr) (stamp : Int) : Tr :=
  if stamp ≠ (mlook t.sm (t.todo.getD 0 0)).getD 0 then t.over
  else if 1 < t.todo.length then { t.next with todo := t.todo.tail }
  else if (buryFrom 0 t.items).length = 0 then Tr.finds t.next
  else { t.next with todo := buryFrom 0 t.items, st := 3 }
def Tr.buried (t : Tr) : Tr := if t.todo.length ≤ 1 then Tr.finds t.next else { t.next with todo := t.todo.tail }
/-- What is heard. -/
structure Ms where
  kind : Int
  frm : Int
  to : Int
  call : Int
  item : Int
  code : Int
  stamp : Int
  list : List Int
def Tr.heeds (t : Tr) (m : Ms) : Bool := !decide (t.st = 0) && (decide (m.kind = if t.st = 3 then 11 else 9) && (decide (m.call = t.q.call) && (decide (m.item = t.q.item) && (decide (m.frm = t.q.to) && decide (m.to = t.node)))))
def Tr.hear (nodes : Int) (t : Tr) (m : Ms) : Tr :=
  if t.heeds m = false then t else if t.st = 1 then t.asked nodes m.code m.stamp m.list else if t.st = 2 then t.checked m.stamp else t.buried

/-- What holds of a trace. -/
structure Tr.ok (nodes : Int) (t : Tr) : Prop where
  st : 0 ≤ t.st ∧ t.st ≤ 3
  items : t.items.length ≤ 1000
  nds : ∀ x ∈ t.items, 1 ≤ x.node ∧ x.node ≤ nodes
  sm : mnod t.sm
  keys : ∀ e ∈ t.sm, 1 ≤ e.1 ∧ e.1 ≤ nodes
  one : t.st = 1 → 0 ≤ t.opn ∧ t.opn < t.items.length ∧ t.todo = []
  two : t.st = 2 → t.todo ≠ [] ∧ t.todo.length ≤ 64
  three : t.st = 3 → t.todo ≠ [] ∧ t.todo.length ≤ 1000 ∧ ∀ i ∈ t.todo, 0 ≤ i ∧ i < t.items.length
section
variable {nodes : Int} {t : Tr}
theorem Tr.over_ok : t.over.ok nodes := ⟨by simp [Tr.over], by simp [Tr.over], fun x hx => (by cases hx), List.Pairwise.nil, fun e he => (by cases he), fun h => absurd h (by simp [Tr.over]), fun h => absurd h (by simp [Tr.over]), fun h => absurd h (by simp [Tr.over])⟩
theorem Tr.finds_ok : t.finds.ok nodes := Tr.over_ok
theorem mput_in {l : List (Int × Int)} {k v : Int} {e : Int × Int} (h : e ∈ mput l k v) : e = (k, v) ∨ e ∈ l := by
  unfold mput at h
  split at h
  · obtain ⟨a, ha, rfl⟩ := List.mem_map.1 h
    split
    · exact .inl rfl
    · exact .inr ha
  · rcases List.mem_append.1 h with h | h
    · exact .inr h
    · simp at h; exact .inl h
theorem keys_few {l : List (Int × Int)} {k : Nat} (hn : mnod l) (h : ∀ e ∈ l, 1 ≤ e.1 ∧ e.1 ≤ (k : Int)) : l.length ≤ k := by
  induction k generalizing l with
  | zero =>
    cases l with
    | nil => simp
    | cons a l => have := h a (by simp); omega
  | succ k ih =>
    have h1 := ih (l := l.filter fun e => decide (e.1 ≠ ((k + 1 : Nat) : Int))) (by
      unfold mnod at hn ⊢
      exact hn.sublist (List.filter_sublist.map _)) fun e he => by
      rw [List.mem_filter] at he
      have := h e he.1
      have : e.1 ≠ ((k + 1 : Nat) : Int) := by simpa using he.2
      omega
    have h2 : l.length ≤ (l.filter fun e => decide (e.1 ≠ ((k + 1 : Nat) : Int))).length + 1 := by
      clear h1 h ih
      induction l with
      | nil => simp
      | cons a l ih =>
        unfold mnod at hn ih
        rw [List.map_cons, List.nodup_cons] at hn
        by_cases e : a.1 = ((k + 1 : Nat) : Int)
        · rw [List.filter_cons_of_neg (by simpa using e)]
          have : l.filter (fun e => decide (e.1 ≠ ((k + 1 : Nat) : Int))) = l := List.filter_eq_self.2 fun b hb => by
            have : b.1 ≠ a.1 := fun e => hn.1 (e ▸ List.mem_map.2 ⟨b, hb, rfl⟩)
            rw [e] at this
            simpa using this
          rw [this]; simp
        · rw [List.filter_cons_of_pos (by simpa using e)]
          have := ih hn.2
          simp only [List.length_cons]
          omega
    omega
theorem bury_mem : ∀ {l : List It} {k : Nat} {i : Int}, i ∈ buryFrom k l → (k : Int) ≤ i ∧ i < (k : Int) + l.length
  | [], k, i, h => by cases h
  | x :: l, k, i, h => by
    unfold buryFrom at h
    simp only [List.length_cons]
    split at h
    · rcases List.mem_cons.1 h with rfl | h
      · omega
      · have := bury_mem h; omega
    · have := bury_mem h; omega
theorem bury_len : ∀ {l : List It} {k : Nat}, (buryFrom k l).length ≤ l.length
  | [], _ => Nat.le_refl _
  | x :: l, k => by
    unfold buryFrom
    have := bury_len (l := l) (k := k + 1)
    split <;> simp only [List.length_cons] <;> omega
theorem more_ok {x : It} (hx : 1 ≤ x.node ∧ x.node ≤ nodes) : ∀ {r : List Int} {l : List It}, l.length ≤ 1000 → (∀ y ∈ l, 1 ≤ y.node ∧ y.node ≤ nodes) → (moreL nodes x r l).2.length ≤ 1000 ∧ (∀ y ∈ (moreL nodes x r l).2, 1 ≤ y.node ∧ y.node ≤ nodes) ∧ l.length ≤ (moreL nodes x r l).2.length
  | [], l, h1, h2 => ⟨h1, h2, Nat.le_refl _⟩
  | n :: r, l, h1, h2 => by
    unfold moreL
    split
    · exact ⟨h1, h2, Nat.le_refl _⟩
    · rename_i y hy
      split
      · exact more_ok hx h1 h2
      · split
        · exact ⟨h1, h2, Nat.le_refl _⟩
        · have hyn : 1 ≤ y.node ∧ y.node ≤ nodes := by
            unfold moreIt at hy
            split at hy
            · cases hy
            · split at hy
              · cases hy
              · split at hy
                · split at hy
                  · cases hy
                  · split at hy
                    · cases hy
                    · cases hy; exact ⟨by simp only; omega, by simp only; omega⟩
                · cases hy; exact hx
          have := more_ok hx (r := r) (l := l ++ [y]) (by simp; omega) fun z hz => by
            rcases List.mem_append.1 hz with hz | hz
            · exact h2 z hz
            · simp at hz; rw [hz]; exact hyn
          refine ⟨this.1, this.2.1, ?_⟩
          have := this.2.2
          simp at this
          omega
theorem Tr.ok.onward (hn : 1 ≤ nodes ∧ nodes ≤ 12) (h : t.ok nodes) (h1 : t.st = 1) : t.onward.ok nodes := by
  obtain ⟨o1, o2, o3⟩ := h.one h1
  have hi := h.items
  have hw : t.next.opn = t.opn + 1 := by unfold Tr.next; exact wrap_i64 (by omega) (by omega)
  unfold Tr.onward
  split
  · rename_i hlt
    exact ⟨h.st, h.items, h.nds, h.sm, h.keys, fun _ => ⟨by rw [hw]; omega, hlt, o3⟩, fun h2 => absurd h2 (by show ¬ t.st = 2; omega), fun h3 => absurd h3 (by show ¬ t.st = 3; omega)⟩
  · split
    · exact Tr.finds_ok
    · rename_i hs
      have hk := keys_few (k := nodes.toNat) h.sm fun e he => by have := h.keys e he; omega
      have hp := rise1_perm (l := t.sm.map (·.1))
      have hpl := hp.length_eq
      rw [List.length_map] at hpl
      refine ⟨by simp, h.items, h.nds, h.sm, h.keys, fun h2 => absurd h2 (by simp), fun _ => ⟨fun e => ?_, by simp only; omega⟩, fun h3 => absurd h3 (by simp)⟩
      simp only at e
      rw [e] at hpl
      simp at hpl
      omega
theorem Tr.code_ok {c : Int} (h : t.ok nodes) (h1 : t.st = 1) : (t.code c).ok nodes := by
  obtain ⟨o1, o2, o3⟩ := h.one h1
  refine ⟨h.st, by simp [Tr.code]; exact h.items, fun x hx => ?_, h.sm, h.keys, fun _ => ⟨o1, by simp [Tr.code]; omega, o3⟩, fun h2 => absurd h2 (by show ¬ t.st = 2; omega), fun h3 => absurd h3 (by show ¬ t.st = 3; omega)⟩
  unfold Tr.code at hx
  rcases List.mem_or_eq_of_mem_set hx with hx | rfl
  · exact h.nds x hx
  · simp only
    have hm : t.items.getD t.opn.toNat noIt ∈ t.items := by
      rw [List.getD_eq_getElem?_getD, List.getElem?_eq_getElem (by omega)]
      exact List.getElem_mem _
    exact h.nds _ hm
theorem Tr.ok.asked (hn : 1 ≤ nodes ∧ nodes ≤ 12) (h : t.ok nodes) (h1 : t.st = 1) {code stamp : Int} {l : List Int} : (t.asked nodes code stamp l).ok nodes := by
  obtain ⟨o1, o2, o3⟩ := h.one h1
  have hm : t.items.getD t.opn.toNat noIt ∈ t.items := by
    rw [List.getD_eq_getElem?_getD, List.getElem?_eq_getElem (by omega)]
    exact List.getElem_mem _
  have hx := h.nds _ hm
  unfold Tr.asked
  split
  · exact (Tr.code_ok h h1).onward hn h1
  · split
    · split
      · exact Tr.over_ok
      · split
        · exact Tr.over_ok
        · have hc := Tr.code_ok (c := 2) h h1
          have hmo := more_ok hx (r := l) hc.items hc.nds
          have hcl : (t.code 2).items.length = t.items.length := by simp [Tr.code]
          refine Tr.ok.onward hn ⟨h.st, hmo.1, hmo.2.1, mput_nod h.sm _ _, fun e he => ?_, fun _ => ⟨o1, by simp only; omega, o3⟩, fun h2 => absurd h2 (by show ¬ t.st = 2; omega), fun h3 => absurd h3 (by show ¬ t.st = 3; omega)⟩ h1
          rcases mput_in he with rfl | he
          · exact hx
          · exact h.keys e he
    · exact Tr.over_ok
theorem Tr.ok.checked (h : t.ok nodes) (h2 : t.st = 2) {stamp : Int} : (t.checked stamp).ok nodes := by
  obtain ⟨o1, o2⟩ := h.two h2
  unfold Tr.checked
  split
  · exact Tr.over_ok
  · split
    · rename_i hl
      refine ⟨h.st, h.items, h.nds, h.sm, h.keys, fun h3 => absurd h3 (by show ¬ t.st = 1; omega), fun _ => ⟨fun e => ?_, by simp only [List.length_tail]; omega⟩, fun h3 => absurd h3 (by show ¬ t.st = 3; omega)⟩
      have := congrArg List.length e
      simp at this
      omega
    · split
      · exact Tr.finds_ok
      · rename_i hb
        have := bury_len (l := t.items) (k := 0)
        have hi := h.items
        refine ⟨by simp, h.items, h.nds, h.sm, h.keys, fun h3 => absurd h3 (by simp), fun h3 => absurd h3 (by simp), fun _ => ⟨fun e => hb (by rw [show buryFrom 0 t.items = [] from e]; rfl), by simp only; omega, fun i hi => ?_⟩⟩
        have := bury_mem hi
        show 0 ≤ i ∧ i < (t.items.length : Int)
        omega
theorem Tr.ok.buried (h : t.ok nodes) (h3 : t.st = 3) : t.buried.ok nodes := by
  obtain ⟨o1, o2, o3⟩ := h.three h3
  unfold Tr.buried
  split
  · exact Tr.finds_ok
  · rename_i hl
    refine ⟨h.st, h.items, h.nds, h.sm, h.keys, fun h2 => absurd h2 (by show ¬ t.st = 1; omega), fun h2 => absurd h2 (by show ¬ t.st = 2; omega), fun _ => ⟨fun e => ?_, by simp only [List.length_tail]; omega, fun i hi => o3 i (List.mem_of_mem_tail hi)⟩⟩
    have := congrArg List.length e
    simp at this
    omega
theorem Tr.ok.hear (hn : 1 ≤ nodes ∧ nodes ≤ 12) (h : t.ok nodes) {m : Ms} : (t.hear nodes m).ok nodes := by
  unfold Tr.hear
  split
  · exact h
  · rename_i hh
    split
    · rename_i h1; exact h.asked hn h1
    · split
      · rename_i h2; exact h.checked h2
      · rename_i h1 h2
        have h0 : t.st ≠ 0 := fun e => hh (by unfold Tr.heeds; rw [e]; rfl)
        have := h.st
        exact h.buried (by omega)
theorem Tr.ok.told (h : t.ok nodes) {a b now : Int} : (t.told a b now).ok nodes := ⟨h.st, h.items, h.nds, h.sm, h.keys, h.one, h.two, h.three⟩
end
end Go.Proofs.Ytknejebggegfjaa

namespace Go.Proofs.Ytknejebggegfjaa
open Go
set_option linter.unusedVariables false
set_option maxRecDepth 100000
end Go.Proofs.Ytknejebggegfjaa

namespace Go.Proofs.Ytknejebggegfjaa
open Go
set_option linter.unusedVariables false
set_option maxRecDepth 100000
end Go.Proofs.Ytknejebggegfjaa

namespace Go.Proofs.Ytknejebggegfjaa
open Go
set_option linter.unusedVariables false
set_option maxRecDepth 100000
end Go.Proofs.Ytknejebggegfjaa

namespace Go.Proofs.Ytknejebggegfjaa
set_option linter.unusedSimpArgs false
set_option linter.unusedVariables false
open Go
/-- A config. -/
structure Cf where
  a0 : Int
  a1 : Int
  a2 : Int
  a3 : Int
  a4 : Int
  a5 : Int
  a6 : Int
  a7 : Int
  a8 : Int
  a9 : Int
  a10 : Int
  a11 : Int
  a12 : Int
  a13 : Int
  a14 : Int
  a15 : Int
  a16 : Int
  a17 : Int
  a18 : Int
  a19 : Int
  a20 : Int
  a21 : Int
def Cf.val (c : Cf) : Value := .agg #[.int .i64 c.a0, .int .i64 c.a1, .int .i64 c.a2, .int .i64 c.a3, .int .i64 c.a4, .int .i64 c.a5, .int .i64 c.a6, .int .i64 c.a7, .int .i64 c.a8, .int .i64 c.a9, .int .i64 c.a10, .int .u64 c.a11, .int .u64 c.a12, .int .u64 c.a13, .int .u64 c.a14, .int .u64 c.a15, .int .u64 c.a16, .int .i64 c.a17, .int .i64 c.a18, .int .i64 c.a19, .int .u64 c.a20, .int .u64 c.a21]
structure TrX where
  ip : Option Addr
  ic : Nat
  mb : Nat
  tp : Option Addr
  tc : Nat
  T : Nat
def Qn.val (q : Qn) : Value := .agg #[.int .i64 q.kind, .int .i64 q.frm, .int .i64 q.to, .int .u64 q.call, .int .u64 0, .int .i64 q.op, .int .i64 0, .int .i64 q.item, .int .i64 q.tgt.n, .int .u64 q.tgt.s, .slice none 0 0, .int .u64 0, .int .i64 0, .int .u64 0, .int .i64 0, .int .u64 0, .int .i64 0, .int .u64 q.stamp, .slice none 0 0]
def Qn.cells (q : Qn) : List Value := [.int .i64 q.kind, .int .i64 q.frm, .int .i64 q.to, .int .u64 q.call, .int .u64 0, .int .i64 q.op, .int .i64 0, .int .i64 q.item, .int .i64 q.tgt.n, .int .u64 q.tgt.s, .slice none 0 0, .int .u64 0, .int .i64 0, .int .u64 0, .int .i64 0, .int .u64 0, .int .i64 0, .int .u64 q.stamp, .slice none 0 0]

section
variable {H0 H : Hp} {L M : List Prt} {i k tb : Nat} {c : Cf} {t : Tr} {x : TrX} {mv : Value} {mp : Prt} {F : Prop} {K : Value → Hp → Prop}
end
end Go.Proofs.Ytknejebggegfjaa

namespace Go.Proofs.Ytknejebggegfjaa
set_option linter.unusedSimpArgs false
set_option linter.unusedVariables false
open Go
section
variable {H0 H : Hp} {L M : List Prt} {i k tb : Nat} {c : Cf} {t : Tr} {x : TrX} {mv : Value} {mp : Prt} {F : Prop} {K : Value → Hp → Prop}
theorem St.one_rd (h : St H0 L H) {b n k : Nat} {c : Array Value} {e : TypeId} (hi : L[i]? = some (Prt.one b (.cells c e (0, 0)))) (hs : c.size = n * k) : Rd H k (some ⟨b, 0, none⟩) n c.toList := by
  have hb := h.one hi
  exact (show Own H k (some ⟨b, 0, none⟩) n n c.toList from ⟨by simpa using hs, Nat.le_refl _, rfl, c, e, hb, by simp only [hs]; omega, fun i _ => by simp⟩).rd
theorem it_same {a b : It} : a.same b = true ↔ a.inn = b.inn ∧ a.node = b.node ∧ a.id = b.id := by
  unfold It.same
  rw [Bool.and_eq_true, Bool.and_eq_true, beq_iff_eq, decide_eq_true_iff, decide_eq_true_iff, and_assoc]
end
end Go.Proofs.Ytknejebggegfjaa

namespace Go.Proofs.Ytknejebggegfjaa
set_option linter.unusedSimpArgs false
set_option linter.unusedVariables false
open Go
section
variable {H0 H : Hp} {L M : List Prt} {i k tb : Nat} {c : Cf} {t : Tr} {x : TrX} {m : Ms} {F : Prop} {K : Value → Hp → Prop}
end
end Go.Proofs.Ytknejebggegfjaa

namespace Go.Proofs.Ytknejebggegfjaa
set_option linter.unusedSimpArgs false
set_option linter.unusedVariables false
open Go
section
variable {H0 H : Hp} {L M N : List Prt} {i k tb : Nat} {c : Cf} {t : Tr} {x : TrX} {m : Ms} {mv : Value} {mp : Prt} {F : Prop} {K : Value → Hp → Prop}
end
end Go.Proofs.Ytknejebggegfjaa

namespace Go.Proofs.Ytknejebggegfjaa
set_option linter.unusedSimpArgs false
set_option linter.unusedVariables false
open Go
def Tr.asks (t : Tr) (now : Int) : Bool := !decide (t.st = 0) && pastB t.sent t.wait now
def Tr.begun (t : Tr) (n s now : Int) : Tr := { t with num := IntKind.u64.wrap (t.num + 1), st := 1, items := [⟨false, t.node, ⟨n, s⟩, 0⟩], sm := [], opn := 0, todo := [], sent := now, wait := 0 }
def newTr (node last : Int) : Tr := ⟨node, last, 0, 0, [], [], 0, [], 0, 0⟩
theorem Tr.begun_ok {nodes : Int} {t : Tr} {n s now : Int} (h : 1 ≤ t.node ∧ t.node ≤ nodes) : (t.begun n s now).ok nodes :=
  ⟨by simp [Tr.begun], by simp [Tr.begun], fun x hx => (by simp [Tr.begun] at hx; rw [hx]; exact h), List.Pairwise.nil, fun e he => (by cases he), fun _ => ⟨by simp [Tr.begun], by simp [Tr.begun], rfl⟩, fun h => absurd h (by simp [Tr.begun]), fun h => absurd h (by simp [Tr.begun])⟩

section
variable {H0 H : Hp} {L M N : List Prt} {i k tb : Nat} {c : Cf} {t : Tr} {m : Ms} {K : Value → Hp → Prop}
theorem St.midless {A : Prt} (h : St H0 (N ++ (A :: M)) H) : St H0 (N ++ M) H := (h.perm List.perm_middle).less
end
end Go.Proofs.Ytknejebggegfjaa

namespace Go.Proofs.Ytknejebggegfjaa
set_option linter.unusedSimpArgs false
set_option linter.unusedVariables false
set_option maxRecDepth 20000
open Go
/-- A raw config: the same 22 numbers. -/
def Cf.raw (r : Cf) : Value := .agg #[.int .i64 r.a0, .int .i64 r.a1, .int .i64 r.a2, .int .i64 r.a3, .int .i64 r.a4, .int .i64 r.a5, .int .i64 r.a6, .int .i64 r.a7, .int .i64 r.a8, .int .i64 r.a9, .int .i64 r.a10, .int .i64 r.a11, .int .i64 r.a12, .int .i64 r.a13, .int .i64 r.a14, .int .i64 r.a15, .int .i64 r.a16, .int .i64 r.a17, .int .i64 r.a18, .int .i64 r.a19, .int .u64 r.a20, .int .u64 r.a21]
def cUnit (r : Cf) : Int := IntKind.u64.wrap (IntKind.i64.wrap (4 + pick r.a11 20))
def cWait (r : Cf) : Int := IntKind.u64.wrap (IntKind.i64.wrap (1 + pick r.a14 30))
def cSusp (r : Cf) : Int := IntKind.i64.wrap (1 + pick r.a17 4)
/-- What is made of it. -/
def confOf (r : Cf) : Cf where
  a0 := IntKind.i64.wrap (2 + pick r.a0 3)
  a1 := IntKind.i64.wrap (1 + pick r.a1 3)
  a2 := IntKind.i64.wrap (2 + pick r.a2 4)
  a3 := IntKind.i64.wrap (16 * (IntKind.i64.wrap (1 + pick r.a3 8)))
  a4 := IntKind.i64.wrap (2 + pick r.a4 14)
  a5 := IntKind.i64.wrap (2 + pick r.a5 10)
  a6 := IntKind.i64.wrap (1 + pick r.a6 6)
  a7 := IntKind.i64.wrap (1 + pick r.a7 4)
  a8 := IntKind.i64.wrap (1 + pick r.a8 8)
  a9 := IntKind.i64.wrap (4 + pick r.a9 60)
  a10 := IntKind.i64.wrap (1 + pick r.a10 4)
  a11 := cUnit r
  a12 := IntKind.u64.wrap (pick r.a12 (IntKind.i64.wrap (Int.tdiv (IntKind.i64.wrap (cUnit r)) 2)))
  a13 := IntKind.u64.wrap (cUnit r * (IntKind.u64.wrap (IntKind.i64.wrap (40 + pick r.a13 200))))
  a14 := cWait r
  a15 := IntKind.u64.wrap (cWait r + (IntKind.u64.wrap (pick r.a15 60)))
  a16 := IntKind.u64.wrap (cUnit r * (IntKind.u64.wrap (IntKind.i64.wrap (1 + pick r.a16 60))))
  a17 := cSusp r
  a18 := IntKind.i64.wrap ((IntKind.i64.wrap (cSusp r + 1)) + pick r.a18 4)
  a19 := IntKind.i64.wrap (1 + pick r.a19 12)
  a20 := Int.tmod r.a20 1000
  a21 := Int.tmod r.a21 1000
structure Cf.good (c : Cf) : Prop where
  a0 : 2 ≤ c.a0 ∧ c.a0 ≤ 4
  a1 : 1 ≤ c.a1 ∧ c.a1 ≤ 4
  a2 : 1 ≤ c.a2 ∧ c.a2 ≤ 8
  a3 : 1 ≤ c.a3 ∧ c.a3 ≤ 4096 ∧ Int.tmod c.a3 16 = 0
  a4 : 1 ≤ c.a4 ∧ c.a4 ≤ 64
  a5 : 1 ≤ c.a5 ∧ c.a5 ≤ 64
  a6 : 1 ≤ c.a6 ∧ c.a6 ≤ 16
  a7 : 1 ≤ c.a7 ∧ c.a7 ≤ 8
  a8 : 1 ≤ c.a8 ∧ c.a8 ≤ 64
  a9 : 1 ≤ c.a9 ∧ c.a9 ≤ 256
  a10 : 1 ≤ c.a10 ∧ c.a10 ≤ 16
  a11 : 4 ≤ c.a11 ∧ c.a11 ≤ 23
  a12 : 0 ≤ c.a12 ∧ c.a12 < c.a11
  a13 : 0 ≤ c.a13 ∧ c.a13 ≤ 5497 ∧ 16 * c.a11 ≤ c.a13
  a14 : 1 ≤ c.a14 ∧ c.a14 ≤ 30
  a15 : c.a14 ≤ c.a15 ∧ c.a15 ≤ 89
  a16 : 1 ≤ c.a16 ∧ c.a16 ≤ 1380
  a17 : 1 ≤ c.a17 ∧ c.a17 ≤ 4
  a18 : c.a17 < c.a18 ∧ c.a18 < 40
  a19 : 1 ≤ c.a19 ∧ c.a19 ≤ 64
  a20 : 0 ≤ c.a20 ∧ c.a20 < 1000
  a21 : 0 ≤ c.a21 ∧ c.a21 < 1000
theorem cUnit_is (r : Cf) : 4 ≤ cUnit r ∧ cUnit r ≤ 23 := by
  have h := @pick_lt r.a11 20 (by decide)
  unfold cUnit
  rw [wrap_i64 (by omega) (by omega), wrap_u64' (by omega) (by omega)]
  omega
theorem cWait_is (r : Cf) : 1 ≤ cWait r ∧ cWait r ≤ 30 := by
  have h := @pick_lt r.a14 30 (by decide)
  unfold cWait
  rw [wrap_i64 (by omega) (by omega), wrap_u64' (by omega) (by omega)]
  omega
theorem cSusp_is (r : Cf) : 1 ≤ cSusp r ∧ cSusp r ≤ 4 := by
  have h := @pick_lt r.a17 4 (by decide)
  unfold cSusp
  rw [wrap_i64 (by omega) (by omega)]
  omega
theorem cHalf_is (r : Cf) : 2 ≤ IntKind.i64.wrap (Int.tdiv (IntKind.i64.wrap (cUnit r)) 2) ∧ IntKind.i64.wrap (Int.tdiv (IntKind.i64.wrap (cUnit r)) 2) ≤ 11 := by
  have h := cUnit_is r
  rw [wrap_i64 (n := cUnit r) (by omega) (by omega), Int.tdiv_eq_ediv_of_nonneg (by omega)]
  rw [wrap_i64 (by omega) (by omega)]
  omega
theorem conf_good {r : Cf} (h20 : 0 ≤ r.a20) (h21 : 0 ≤ r.a21) : (confOf r).good := by
  have hu := cUnit_is r
  have hw := cWait_is r
  have hs := cSusp_is r
  have hh := cHalf_is r
  refine ⟨?_, ?_, ?_, ?_, ?_, ?_, ?_, ?_, ?_, ?_, ?_, hu, ?_, ?_, hw, ?_, ?_, hs, ?_, ?_, ?_, ?_⟩
  · have h := @pick_lt r.a0 3 (by decide)
    simp only [confOf]
    rw [wrap_i64 (by omega) (by omega)]
    omega
  · have h := @pick_lt r.a1 3 (by decide)
    simp only [confOf]
    rw [wrap_i64 (by omega) (by omega)]
    omega
  · have h := @pick_lt r.a2 4 (by decide)
    simp only [confOf]
    rw [wrap_i64 (by omega) (by omega)]
    omega
  · have h := @pick_lt r.a3 8 (by decide)
    simp only [confOf]
    rw [wrap_i64 (n := 1 + pick r.a3 8) (by omega) (by omega), wrap_i64 (by omega) (by omega)]
    refine ⟨by omega, by omega, ?_⟩
    rw [Int.tmod_eq_emod_of_nonneg (by omega)]
    omega
  · have h := @pick_lt r.a4 14 (by decide)
    simp only [confOf]
    rw [wrap_i64 (by omega) (by omega)]
    omega
  · have h := @pick_lt r.a5 10 (by decide)
    simp only [confOf]
    rw [wrap_i64 (by omega) (by omega)]
    omega
  · have h := @pick_lt r.a6 6 (by decide)
    simp only [confOf]
    rw [wrap_i64 (by omega) (by omega)]
    omega
  · have h := @pick_lt r.a7 4 (by decide)
    simp only [confOf]
    rw [wrap_i64 (by omega) (by omega)]
    omega
  · have h := @pick_lt r.a8 8 (by decide)
    simp only [confOf]
    rw [wrap_i64 (by omega) (by omega)]
    omega
  · have h := @pick_lt r.a9 60 (by decide)
    simp only [confOf]
    rw [wrap_i64 (by omega) (by omega)]
    omega
  · have h := @pick_lt r.a10 4 (by decide)
    simp only [confOf]
    rw [wrap_i64 (by omega) (by omega)]
    omega
  · have h := @pick_lt r.a12 _ (Int.lt_of_lt_of_le (by decide) hh.1)
    simp only [confOf]
    rw [wrap_u64' (by omega) (by omega)]
    refine ⟨h.1, ?_⟩
    have h1 := h.2
    have h2 : IntKind.i64.wrap (Int.tdiv (IntKind.i64.wrap (cUnit r)) 2) ≤ cUnit r := by
      rw [wrap_i64 (n := cUnit r) (by omega) (by omega), Int.tdiv_eq_ediv_of_nonneg (by omega)]
      rw [wrap_i64 (by omega) (by omega)]
      omega
    omega
  · have h := @pick_lt r.a13 200 (by decide)
    simp only [confOf]
    rw [wrap_i64 (n := 40 + pick r.a13 200) (by omega) (by omega), wrap_u64' (n := 40 + pick r.a13 200) (by omega) (by omega)]
    have h1 : cUnit r * (40 + pick r.a13 200) ≤ 23 * 239 := Int.mul_le_mul (by omega) (by omega) (by omega) (by decide)
    have h2 : cUnit r * 40 ≤ cUnit r * (40 + pick r.a13 200) := Int.mul_le_mul_of_nonneg_left (by omega) (by omega)
    rw [wrap_u64' (by omega) (by omega)]
    omega
  · have h := @pick_lt r.a15 60 (by decide)
    simp only [confOf]
    rw [wrap_u64' (n := pick r.a15 60) (by omega) (by omega), wrap_u64' (by omega) (by omega)]
    omega
  · have h := @pick_lt r.a16 60 (by decide)
    simp only [confOf]
    rw [wrap_i64 (n := 1 + pick r.a16 60) (by omega) (by omega), wrap_u64' (n := 1 + pick r.a16 60) (by omega) (by omega)]
    have h1 : cUnit r * (1 + pick r.a16 60) ≤ 23 * 60 := Int.mul_le_mul (by omega) (by omega) (by omega) (by decide)
    have h2 : cUnit r * 1 ≤ cUnit r * (1 + pick r.a16 60) := Int.mul_le_mul_of_nonneg_left (by omega) (by omega)
    rw [wrap_u64' (by omega) (by omega)]
    omega
  · have h := @pick_lt r.a18 4 (by decide)
    simp only [confOf]
    rw [wrap_i64 (n := cSusp r + 1) (by omega) (by omega), wrap_i64 (by omega) (by omega)]
    omega
  · have h := @pick_lt r.a19 12 (by decide)
    simp only [confOf]
    rw [wrap_i64 (by omega) (by omega)]
    omega
  · simp only [confOf]
    rw [Int.tmod_eq_emod_of_nonneg h20]
    omega
  · simp only [confOf]
    rw [Int.tmod_eq_emod_of_nonneg h21]
    omega

section
variable {H0 H : Hp} {L M N : List Prt} {i k tb : Nat} {r c : Cf} {K : Value → Hp → Prop}
theorem inC {n m : Int} (hK : K (.bool (decide (n ≥ 1) && decide (n ≤ m))) H) : hcall PR f_api_in ⟨[.int .i64 n, .int .i64 m]⟩ H K := by
  apply den_api_in
  unfold B_api_in
  by_cases h : n ≥ 1
  · rw [decide_eq_true h, Bool.true_and] at hK
    exact bif_pos h hK
  · rw [decide_eq_false h, Bool.false_and] at hK
    exact bif_neg h hK
theorem inT {n m : Int} (h : 1 ≤ n ∧ n ≤ m) (hK : K (.bool true) H) : hcall PR f_api_in ⟨[.int .i64 n, .int .i64 m]⟩ H K := inC (by rw [decide_eq_true h.1, decide_eq_true h.2]; exact hK)
theorem mayC (hg : c.good) (h : St H0 L H) (hK : ∀ H', St H0 L H' → K (.bool true) H') : hcall PR f_api_May ⟨[c.val]⟩ H K := by
  apply den_api_May
  unfold B_api_May
  intro b23 hb23
  have g := h.alloc (o := .cells #[.int .i64 c.a0, .int .i64 c.a1, .int .i64 c.a2, .int .i64 c.a3, .int .i64 c.a4, .int .i64 c.a5, .int .i64 c.a6, .int .i64 c.a7, .int .i64 c.a8, .int .i64 c.a9, .int .i64 c.a10, .int .u64 c.a11, .int .u64 c.a12, .int .u64 c.a13, .int .u64 c.a14, .int .u64 c.a15, .int .u64 c.a16, .int .i64 c.a17, .int .i64 c.a18, .int .i64 c.a19, .int .u64 c.a20, .int .u64 c.a21] ty_api_Config) hb23
  have hK := hK _ g.less
  intro R25 hR25
  have hR25 := hR25 true _ (by
    intro R28 hR28
    have hR28 := hR28 true _ (by
      intro R31 hR31
      have hR31 := hR31 true _ (by
        intro R34 hR34
        have hR34 := hR34 true _ (by
          simp only [condT]
          refine ldI_of (g.cell (i := 0) rfl rfl) (inT ⟨hg.a17.1, by have := hg.a17.2; omega⟩ ?_)
          (try simp only [asI_mk', asB_mk, asP_mk, asA_mk, asM_mk, asSl_mk, asStr_mk, tup2_mk, tup3_mk, agg1_mk, agg2_mk, agg3_mk, agg4_mk, asAggm, unCons_mk, unNil_mk, asTup_mk, extractD0, extractD1, List.toList_toArray, nilP_mk, add_mk, Nat.zero_add, Nat.add_zero, condT, condF, Bool.not_true, Bool.not_false, Option.isNone_some, Option.isNone_none])
          refine ldI_of (g.cell (i := 0) rfl rfl) (ldI_of (g.cell (i := 0) rfl rfl) (bif_pos (by have := hg.a18.1; omega) (ldI_of (g.cell (i := 0) rfl rfl) (bif_pos hg.a18.2 ?_))))
          refine ldI_of (g.cell (i := 0) rfl rfl) (inT hg.a19 ?_)
          (try simp only [asI_mk', asB_mk, asP_mk, asA_mk, asM_mk, asSl_mk, asStr_mk, tup2_mk, tup3_mk, agg1_mk, agg2_mk, agg3_mk, agg4_mk, asAggm, unCons_mk, unNil_mk, asTup_mk, extractD0, extractD1, List.toList_toArray, nilP_mk, add_mk, Nat.zero_add, Nat.add_zero, condT, condF, Bool.not_true, Bool.not_false, Option.isNone_some, Option.isNone_none])
          refine ldI_of (g.cell (i := 0) rfl rfl) (bif_pos (by have := hg.a20.2; omega) (ldI_of (g.cell (i := 0) rfl rfl) ?_))
          rw [decide_eq_true (by have := hg.a21.2; omega : c.a21 ≤ 72057594037927935)]
          exact hK)
        have e := hg.a15
        have e2 := hg.a16
        have e3 := hg.a14
        refine ldI_of (g.cell (i := 0) rfl rfl) (bif_pos (by omega) (ldI_of (g.cell (i := 0) rfl rfl) (ldI_of (g.cell (i := 0) rfl rfl) (bif_pos e.1 (ldI_of (g.cell (i := 0) rfl rfl) (bif_pos (by omega) (ldI_of (g.cell (i := 0) rfl rfl) (bif_pos (by omega) (ldI_of (g.cell (i := 0) rfl rfl) ?_)))))))))
        rw [decide_eq_true (by omega : c.a16 ≤ 4294967295)]
        exact hR34)
      have e := hg.a11
      have e2 := hg.a12
      have e3 := hg.a13
      refine ldI_of (g.cell (i := 0) rfl rfl) (bif_pos (by omega) (ldI_of (g.cell (i := 0) rfl rfl) (bif_pos (by omega) (ldI_of (g.cell (i := 0) rfl rfl) (ldI_of (g.cell (i := 0) rfl rfl) (bif_pos e2.2 (ldI_of (g.cell (i := 0) rfl rfl) (bif_pos (by omega) ?_))))))))
      refine ldI_of (g.cell (i := 0) rfl rfl) (ldI_of (g.cell (i := 0) rfl rfl) (ldI_of (g.cell (i := 0) rfl rfl) (ldI_of (g.cell (i := 0) rfl rfl) (ldI_of (g.cell (i := 0) rfl rfl) ?_))))
      have h1 : c.a13 * 1 ≤ c.a13 * (c.a11 - c.a12) := Int.mul_le_mul_of_nonneg_left (by omega) (by omega)
      have h2 : c.a13 * (c.a11 - c.a12) ≤ 5497 * 23 := Int.mul_le_mul (by omega) (by omega) (by omega) (by decide)
      rw [wrap_u64' (n := c.a11 - c.a12) (by omega) (by omega), wrap_u64' (n := c.a11 + c.a12) (by omega) (by omega), wrap_u64' (n := 8 * (c.a11 + c.a12)) (by omega) (by omega), wrap_u64' (n := c.a13 * (c.a11 - c.a12)) (by omega) (by omega)]
      rw [decide_eq_true (by omega : c.a13 * (c.a11 - c.a12) ≥ 8 * (c.a11 + c.a12))]
      exact hR31)
    refine ldI_of (g.cell (i := 0) rfl rfl) (inT hg.a4 ?_)
    (try simp only [asI_mk', asB_mk, asP_mk, asA_mk, asM_mk, asSl_mk, asStr_mk, tup2_mk, tup3_mk, agg1_mk, agg2_mk, agg3_mk, agg4_mk, asAggm, unCons_mk, unNil_mk, asTup_mk, extractD0, extractD1, List.toList_toArray, nilP_mk, add_mk, Nat.zero_add, Nat.add_zero, condT, condF, Bool.not_true, Bool.not_false, Option.isNone_some, Option.isNone_none])
    refine ldI_of (g.cell (i := 0) rfl rfl) (inT hg.a5 ?_)
    (try simp only [asI_mk', asB_mk, asP_mk, asA_mk, asM_mk, asSl_mk, asStr_mk, tup2_mk, tup3_mk, agg1_mk, agg2_mk, agg3_mk, agg4_mk, asAggm, unCons_mk, unNil_mk, asTup_mk, extractD0, extractD1, List.toList_toArray, nilP_mk, add_mk, Nat.zero_add, Nat.add_zero, condT, condF, Bool.not_true, Bool.not_false, Option.isNone_some, Option.isNone_none])
    refine ldI_of (g.cell (i := 0) rfl rfl) (inT hg.a6 ?_)
    (try simp only [asI_mk', asB_mk, asP_mk, asA_mk, asM_mk, asSl_mk, asStr_mk, tup2_mk, tup3_mk, agg1_mk, agg2_mk, agg3_mk, agg4_mk, asAggm, unCons_mk, unNil_mk, asTup_mk, extractD0, extractD1, List.toList_toArray, nilP_mk, add_mk, Nat.zero_add, Nat.add_zero, condT, condF, Bool.not_true, Bool.not_false, Option.isNone_some, Option.isNone_none])
    refine ldI_of (g.cell (i := 0) rfl rfl) (inT hg.a7 ?_)
    (try simp only [asI_mk', asB_mk, asP_mk, asA_mk, asM_mk, asSl_mk, asStr_mk, tup2_mk, tup3_mk, agg1_mk, agg2_mk, agg3_mk, agg4_mk, asAggm, unCons_mk, unNil_mk, asTup_mk, extractD0, extractD1, List.toList_toArray, nilP_mk, add_mk, Nat.zero_add, Nat.add_zero, condT, condF, Bool.not_true, Bool.not_false, Option.isNone_some, Option.isNone_none])
    refine ldI_of (g.cell (i := 0) rfl rfl) (inT hg.a8 ?_)
    (try simp only [asI_mk', asB_mk, asP_mk, asA_mk, asM_mk, asSl_mk, asStr_mk, tup2_mk, tup3_mk, agg1_mk, agg2_mk, agg3_mk, agg4_mk, asAggm, unCons_mk, unNil_mk, asTup_mk, extractD0, extractD1, List.toList_toArray, nilP_mk, add_mk, Nat.zero_add, Nat.add_zero, condT, condF, Bool.not_true, Bool.not_false, Option.isNone_some, Option.isNone_none])
    refine ldI_of (g.cell (i := 0) rfl rfl) (inT hg.a9 ?_)
    (try simp only [asI_mk', asB_mk, asP_mk, asA_mk, asM_mk, asSl_mk, asStr_mk, tup2_mk, tup3_mk, agg1_mk, agg2_mk, agg3_mk, agg4_mk, asAggm, unCons_mk, unNil_mk, asTup_mk, extractD0, extractD1, List.toList_toArray, nilP_mk, add_mk, Nat.zero_add, Nat.add_zero, condT, condF, Bool.not_true, Bool.not_false, Option.isNone_some, Option.isNone_none])
    refine ldI_of (g.cell (i := 0) rfl rfl) (inT hg.a10 ?_)
    (try simp only [asI_mk', asB_mk, asP_mk, asA_mk, asM_mk, asSl_mk, asStr_mk, tup2_mk, tup3_mk, agg1_mk, agg2_mk, agg3_mk, agg4_mk, asAggm, unCons_mk, unNil_mk, asTup_mk, extractD0, extractD1, List.toList_toArray, nilP_mk, add_mk, Nat.zero_add, Nat.add_zero, condT, condF, Bool.not_true, Bool.not_false, Option.isNone_some, Option.isNone_none])
    exact hR28)
  refine ldI_of (g.cell (i := 0) rfl rfl) (inT ⟨by have := hg.a0; omega, by have := hg.a0; omega⟩ ?_)
  (try simp only [asI_mk', asB_mk, asP_mk, asA_mk, asM_mk, asSl_mk, asStr_mk, tup2_mk, tup3_mk, agg1_mk, agg2_mk, agg3_mk, agg4_mk, asAggm, unCons_mk, unNil_mk, asTup_mk, extractD0, extractD1, List.toList_toArray, nilP_mk, add_mk, Nat.zero_add, Nat.add_zero, condT, condF, Bool.not_true, Bool.not_false, Option.isNone_some, Option.isNone_none])
  refine ldI_of (g.cell (i := 0) rfl rfl) (inT hg.a1 ?_)
  (try simp only [asI_mk', asB_mk, asP_mk, asA_mk, asM_mk, asSl_mk, asStr_mk, tup2_mk, tup3_mk, agg1_mk, agg2_mk, agg3_mk, agg4_mk, asAggm, unCons_mk, unNil_mk, asTup_mk, extractD0, extractD1, List.toList_toArray, nilP_mk, add_mk, Nat.zero_add, Nat.add_zero, condT, condF, Bool.not_true, Bool.not_false, Option.isNone_some, Option.isNone_none])
  refine ldI_of (g.cell (i := 0) rfl rfl) (inT hg.a2 ?_)
  (try simp only [asI_mk', asB_mk, asP_mk, asA_mk, asM_mk, asSl_mk, asStr_mk, tup2_mk, tup3_mk, agg1_mk, agg2_mk, agg3_mk, agg4_mk, asAggm, unCons_mk, unNil_mk, asTup_mk, extractD0, extractD1, List.toList_toArray, nilP_mk, add_mk, Nat.zero_add, Nat.add_zero, condT, condF, Bool.not_true, Bool.not_false, Option.isNone_some, Option.isNone_none])
  refine ldI_of (g.cell (i := 0) rfl rfl) (inT ⟨hg.a3.1, hg.a3.2.1⟩ ?_)
  (try simp only [asI_mk', asB_mk, asP_mk, asA_mk, asM_mk, asSl_mk, asStr_mk, tup2_mk, tup3_mk, agg1_mk, agg2_mk, agg3_mk, agg4_mk, asAggm, unCons_mk, unNil_mk, asTup_mk, extractD0, extractD1, List.toList_toArray, nilP_mk, add_mk, Nat.zero_add, Nat.add_zero, condT, condF, Bool.not_true, Bool.not_false, Option.isNone_some, Option.isNone_none])
  refine ldI_of (g.cell (i := 0) rfl rfl) ⟨by decide, ?_⟩
  rw [show ((Int.tmod c.a3 16) == 0) = true by rw [hg.a3.2.2]; rfl]
  exact hR25
theorem configC (h : St H0 L H) (hK : ∀ H', St H0 L H' → K (confOf r).val H') : hcall PR f_hand_Config ⟨[r.raw]⟩ H K := by
  apply den_hand_Config
  unfold B_hand_Config
  intro b23 hb23
  have g1 := h.alloc (o := .cells #[.int .i64 r.a0, .int .i64 r.a1, .int .i64 r.a2, .int .i64 r.a3, .int .i64 r.a4, .int .i64 r.a5, .int .i64 r.a6, .int .i64 r.a7, .int .i64 r.a8, .int .i64 r.a9, .int .i64 r.a10, .int .i64 r.a11, .int .i64 r.a12, .int .i64 r.a13, .int .i64 r.a14, .int .i64 r.a15, .int .i64 r.a16, .int .i64 r.a17, .int .i64 r.a18, .int .i64 r.a19, .int .u64 r.a20, .int .u64 r.a21] ty_hand_Raw) hb23
  intro b25 hb25
  have g2 := g1.alloc (o := .cells #[.int .i64 0, .int .i64 0, .int .i64 0, .int .i64 0, .int .i64 0, .int .i64 0, .int .i64 0, .int .i64 0, .int .i64 0, .int .i64 0, .int .i64 0, .int .u64 0, .int .u64 0, .int .u64 0, .int .u64 0, .int .u64 0, .int .u64 0, .int .i64 0, .int .i64 0, .int .i64 0, .int .u64 0, .int .u64 0] ty_api_Config) hb25
  have g2 : St H0 (Prt.one b25 (.cells #[.int .i64 0, .int .i64 0, .int .i64 0, .int .i64 0, .int .i64 0, .int .i64 0, .int .i64 0, .int .i64 0, .int .i64 0, .int .i64 0, .int .i64 0, .int .u64 0, .int .u64 0, .int .u64 0, .int .u64 0, .int .u64 0, .int .u64 0, .int .i64 0, .int .i64 0, .int .i64 0, .int .u64 0, .int .u64 0] ty_api_Config (0, 0)) :: Prt.one b23 (.cells #[.int .i64 r.a0, .int .i64 r.a1, .int .i64 r.a2, .int .i64 r.a3, .int .i64 r.a4, .int .i64 r.a5, .int .i64 r.a6, .int .i64 r.a7, .int .i64 r.a8, .int .i64 r.a9, .int .i64 r.a10, .int .i64 r.a11, .int .i64 r.a12, .int .i64 r.a13, .int .i64 r.a14, .int .i64 r.a15, .int .i64 r.a16, .int .i64 r.a17, .int .i64 r.a18, .int .i64 r.a19, .int .u64 r.a20, .int .u64 r.a21] ty_hand_Raw (0, 0)) :: L) _ := g2
  clear g1 h
  intro R27 hR27
  have hR27 : ∀ bc H', St H0 (Prt.one bc (.cells #[.int .i64 (confOf r).a0, .int .i64 (confOf r).a1, .int .i64 (confOf r).a2, .int .i64 (confOf r).a3, .int .i64 0, .int .i64 0, .int .i64 0, .int .i64 0, .int .i64 0, .int .i64 0, .int .i64 0, .int .u64 0, .int .u64 0, .int .u64 0, .int .u64 0, .int .u64 0, .int .u64 0, .int .i64 0, .int .i64 0, .int .i64 0, .int .u64 0, .int .u64 0] ty_api_Config (0, 0)) :: Prt.one b25 (.cells #[.int .i64 0, .int .i64 0, .int .i64 0, .int .i64 0, .int .i64 0, .int .i64 0, .int .i64 0, .int .i64 0, .int .i64 0, .int .i64 0, .int .i64 0, .int .u64 0, .int .u64 0, .int .u64 0, .int .u64 0, .int .u64 0, .int .u64 0, .int .i64 0, .int .i64 0, .int .i64 0, .int .u64 0, .int .u64 0] ty_api_Config (0, 0)) :: Prt.one b23 (.cells #[.int .i64 r.a0, .int .i64 r.a1, .int .i64 r.a2, .int .i64 r.a3, .int .i64 r.a4, .int .i64 r.a5, .int .i64 r.a6, .int .i64 r.a7, .int .i64 r.a8, .int .i64 r.a9, .int .i64 r.a10, .int .i64 r.a11, .int .i64 r.a12, .int .i64 r.a13, .int .i64 r.a14, .int .i64 r.a15, .int .i64 r.a16, .int .i64 r.a17, .int .i64 r.a18, .int .i64 r.a19, .int .u64 r.a20, .int .u64 r.a21] ty_hand_Raw (0, 0)) :: L) H' → R27 (some ⟨bc, 0, none⟩) H' := fun bc H' g4 => by
    refine hR27 _ H' ?_
    clear hR27 g2
    (try simp only [asI_mk', asB_mk, asP_mk, asA_mk, asM_mk, asSl_mk, asStr_mk, tup2_mk, tup3_mk, agg1_mk, agg2_mk, agg3_mk, agg4_mk, asAggm, unCons_mk, unNil_mk, asTup_mk, extractD0, extractD1, List.toList_toArray, nilP_mk, add_mk, Nat.zero_add, Nat.add_zero, condT, condF, Bool.not_true, Bool.not_false, Option.isNone_some, Option.isNone_none])
    refine ldI_of (g4.cell (i := 2) rfl rfl) (Pick_ok (by decide) (by decide) ?_)
    (try simp only [asI_mk', asB_mk, asP_mk, asA_mk, asM_mk, asSl_mk, asStr_mk, tup2_mk, tup3_mk, agg1_mk, agg2_mk, agg3_mk, agg4_mk, asAggm, unCons_mk, unNil_mk, asTup_mk, extractD0, extractD1, List.toList_toArray, nilP_mk, add_mk, Nat.zero_add, Nat.add_zero, condT, condF, Bool.not_true, Bool.not_false, Option.isNone_some, Option.isNone_none])
    refine g4.put (i := 0) rfl (show 4 < 22 by decide) fun H5 g5 => ?_
    have g5 : St H0 (Prt.one bc (.cells #[.int .i64 (confOf r).a0, .int .i64 (confOf r).a1, .int .i64 (confOf r).a2, .int .i64 (confOf r).a3, .int .i64 (confOf r).a4, .int .i64 0, .int .i64 0, .int .i64 0, .int .i64 0, .int .i64 0, .int .i64 0, .int .u64 0, .int .u64 0, .int .u64 0, .int .u64 0, .int .u64 0, .int .u64 0, .int .i64 0, .int .i64 0, .int .i64 0, .int .u64 0, .int .u64 0] ty_api_Config (0, 0)) :: Prt.one b25 (.cells #[.int .i64 0, .int .i64 0, .int .i64 0, .int .i64 0, .int .i64 0, .int .i64 0, .int .i64 0, .int .i64 0, .int .i64 0, .int .i64 0, .int .i64 0, .int .u64 0, .int .u64 0, .int .u64 0, .int .u64 0, .int .u64 0, .int .u64 0, .int .i64 0, .int .i64 0, .int .i64 0, .int .u64 0, .int .u64 0] ty_api_Config (0, 0)) :: Prt.one b23 (.cells #[.int .i64 r.a0, .int .i64 r.a1, .int .i64 r.a2, .int .i64 r.a3, .int .i64 r.a4, .int .i64 r.a5, .int .i64 r.a6, .int .i64 r.a7, .int .i64 r.a8, .int .i64 r.a9, .int .i64 r.a10, .int .i64 r.a11, .int .i64 r.a12, .int .i64 r.a13, .int .i64 r.a14, .int .i64 r.a15, .int .i64 r.a16, .int .i64 r.a17, .int .i64 r.a18, .int .i64 r.a19, .int .u64 r.a20, .int .u64 r.a21] ty_hand_Raw (0, 0)) :: L) H5 := g5
    refine ldI_of (g5.cell (i := 2) rfl rfl) (Pick_ok (by decide) (by decide) ?_)
    (try simp only [asI_mk', asB_mk, asP_mk, asA_mk, asM_mk, asSl_mk, asStr_mk, tup2_mk, tup3_mk, agg1_mk, agg2_mk, agg3_mk, agg4_mk, asAggm, unCons_mk, unNil_mk, asTup_mk, extractD0, extractD1, List.toList_toArray, nilP_mk, add_mk, Nat.zero_add, Nat.add_zero, condT, condF, Bool.not_true, Bool.not_false, Option.isNone_some, Option.isNone_none])
    refine g5.put (i := 0) rfl (show 5 < 22 by decide) fun H6 g6 => ?_
    have g6 : St H0 (Prt.one bc (.cells #[.int .i64 (confOf r).a0, .int .i64 (confOf r).a1, .int .i64 (confOf r).a2, .int .i64 (confOf r).a3, .int .i64 (confOf r).a4, .int .i64 (confOf r).a5, .int .i64 0, .int .i64 0, .int .i64 0, .int .i64 0, .int .i64 0, .int .u64 0, .int .u64 0, .int .u64 0, .int .u64 0, .int .u64 0, .int .u64 0, .int .i64 0, .int .i64 0, .int .i64 0, .int .u64 0, .int .u64 0] ty_api_Config (0, 0)) :: Prt.one b25 (.cells #[.int .i64 0, .int .i64 0, .int .i64 0, .int .i64 0, .int .i64 0, .int .i64 0, .int .i64 0, .int .i64 0, .int .i64 0, .int .i64 0, .int .i64 0, .int .u64 0, .int .u64 0, .int .u64 0, .int .u64 0, .int .u64 0, .int .u64 0, .int .i64 0, .int .i64 0, .int .i64 0, .int .u64 0, .int .u64 0] ty_api_Config (0, 0)) :: Prt.one b23 (.cells #[.int .i64 r.a0, .int .i64 r.a1, .int .i64 r.a2, .int .i64 r.a3, .int .i64 r.a4, .int .i64 r.a5, .int .i64 r.a6, .int .i64 r.a7, .int .i64 r.a8, .int .i64 r.a9, .int .i64 r.a10, .int .i64 r.a11, .int .i64 r.a12, .int .i64 r.a13, .int .i64 r.a14, .int .i64 r.a15, .int .i64 r.a16, .int .i64 r.a17, .int .i64 r.a18, .int .i64 r.a19, .int .u64 r.a20, .int .u64 r.a21] ty_hand_Raw (0, 0)) :: L) H6 := g6
    refine ldI_of (g6.cell (i := 2) rfl rfl) (Pick_ok (by decide) (by decide) ?_)
    (try simp only [asI_mk', asB_mk, asP_mk, asA_mk, asM_mk, asSl_mk, asStr_mk, tup2_mk, tup3_mk, agg1_mk, agg2_mk, agg3_mk, agg4_mk, asAggm, unCons_mk, unNil_mk, asTup_mk, extractD0, extractD1, List.toList_toArray, nilP_mk, add_mk, Nat.zero_add, Nat.add_zero, condT, condF, Bool.not_true, Bool.not_false, Option.isNone_some, Option.isNone_none])
    refine g6.put (i := 0) rfl (show 6 < 22 by decide) fun H7 g7 => ?_
    have g7 : St H0 (Prt.one bc (.cells #[.int .i64 (confOf r).a0, .int .i64 (confOf r).a1, .int .i64 (confOf r).a2, .int .i64 (confOf r).a3, .int .i64 (confOf r).a4, .int .i64 (confOf r).a5, .int .i64 (confOf r).a6, .int .i64 0, .int .i64 0, .int .i64 0, .int .i64 0, .int .u64 0, .int .u64 0, .int .u64 0, .int .u64 0, .int .u64 0, .int .u64 0, .int .i64 0, .int .i64 0, .int .i64 0, .int .u64 0, .int .u64 0] ty_api_Config (0, 0)) :: Prt.one b25 (.cells #[.int .i64 0, .int .i64 0, .int .i64 0, .int .i64 0, .int .i64 0, .int .i64 0, .int .i64 0, .int .i64 0, .int .i64 0, .int .i64 0, .int .i64 0, .int .u64 0, .int .u64 0, .int .u64 0, .int .u64 0, .int .u64 0, .int .u64 0, .int .i64 0, .int .i64 0, .int .i64 0, .int .u64 0, .int .u64 0] ty_api_Config (0, 0)) :: Prt.one b23 (.cells #[.int .i64 r.a0, .int .i64 r.a1, .int .i64 r.a2, .int .i64 r.a3, .int .i64 r.a4, .int .i64 r.a5, .int .i64 r.a6, .int .i64 r.a7, .int .i64 r.a8, .int .i64 r.a9, .int .i64 r.a10, .int .i64 r.a11, .int .i64 r.a12, .int .i64 r.a13, .int .i64 r.a14, .int .i64 r.a15, .int .i64 r.a16, .int .i64 r.a17, .int .i64 r.a18, .int .i64 r.a19, .int .u64 r.a20, .int .u64 r.a21] ty_hand_Raw (0, 0)) :: L) H7 := g7
    refine ldI_of (g7.cell (i := 2) rfl rfl) (Pick_ok (by decide) (by decide) ?_)
    (try simp only [asI_mk', asB_mk, asP_mk, asA_mk, asM_mk, asSl_mk, asStr_mk, tup2_mk, tup3_mk, agg1_mk, agg2_mk, agg3_mk, agg4_mk, asAggm, unCons_mk, unNil_mk, asTup_mk, extractD0, extractD1, List.toList_toArray, nilP_mk, add_mk, Nat.zero_add, Nat.add_zero, condT, condF, Bool.not_true, Bool.not_false, Option.isNone_some, Option.isNone_none])
    refine g7.put (i := 0) rfl (show 7 < 22 by decide) fun H8 g8 => ?_
    have g8 : St H0 (Prt.one bc (.cells #[.int .i64 (confOf r).a0, .int .i64 (confOf r).a1, .int .i64 (confOf r).a2, .int .i64 (confOf r).a3, .int .i64 (confOf r).a4, .int .i64 (confOf r).a5, .int .i64 (confOf r).a6, .int .i64 (confOf r).a7, .int .i64 0, .int .i64 0, .int .i64 0, .int .u64 0, .int .u64 0, .int .u64 0, .int .u64 0, .int .u64 0, .int .u64 0, .int .i64 0, .int .i64 0, .int .i64 0, .int .u64 0, .int .u64 0] ty_api_Config (0, 0)) :: Prt.one b25 (.cells #[.int .i64 0, .int .i64 0, .int .i64 0, .int .i64 0, .int .i64 0, .int .i64 0, .int .i64 0, .int .i64 0, .int .i64 0, .int .i64 0, .int .i64 0, .int .u64 0, .int .u64 0, .int .u64 0, .int .u64 0, .int .u64 0, .int .u64 0, .int .i64 0, .int .i64 0, .int .i64 0, .int .u64 0, .int .u64 0] ty_api_Config (0, 0)) :: Prt.one b23 (.cells #[.int .i64 r.a0, .int .i64 r.a1, .int .i64 r.a2, .int .i64 r.a3, .int .i64 r.a4, .int .i64 r.a5, .int .i64 r.a6, .int .i64 r.a7, .int .i64 r.a8, .int .i64 r.a9, .int .i64 r.a10, .int .i64 r.a11, .int .i64 r.a12, .int .i64 r.a13, .int .i64 r.a14, .int .i64 r.a15, .int .i64 r.a16, .int .i64 r.a17, .int .i64 r.a18, .int .i64 r.a19, .int .u64 r.a20, .int .u64 r.a21] ty_hand_Raw (0, 0)) :: L) H8 := g8
    refine ldI_of (g8.cell (i := 2) rfl rfl) (Pick_ok (by decide) (by decide) ?_)
    (try simp only [asI_mk', asB_mk, asP_mk, asA_mk, asM_mk, asSl_mk, asStr_mk, tup2_mk, tup3_mk, agg1_mk, agg2_mk, agg3_mk, agg4_mk, asAggm, unCons_mk, unNil_mk, asTup_mk, extractD0, extractD1, List.toList_toArray, nilP_mk, add_mk, Nat.zero_add, Nat.add_zero, condT, condF, Bool.not_true, Bool.not_false, Option.isNone_some, Option.isNone_none])
    refine g8.put (i := 0) rfl (show 8 < 22 by decide) fun H9 g9 => ?_
    have g9 : St H0 (Prt.one bc (.cells #[.int .i64 (confOf r).a0, .int .i64 (confOf r).a1, .int .i64 (confOf r).a2, .int .i64 (confOf r).a3, .int .i64 (confOf r).a4, .int .i64 (confOf r).a5, .int .i64 (confOf r).a6, .int .i64 (confOf r).a7, .int .i64 (confOf r).a8, .int .i64 0, .int .i64 0, .int .u64 0, .int .u64 0, .int .u64 0, .int .u64 0, .int .u64 0, .int .u64 0, .int .i64 0, .int .i64 0, .int .i64 0, .int .u64 0, .int .u64 0] ty_api_Config (0, 0)) :: Prt.one b25 (.cells #[.int .i64 0, .int .i64 0, .int .i64 0, .int .i64 0, .int .i64 0, .int .i64 0, .int .i64 0, .int .i64 0, .int .i64 0, .int .i64 0, .int .i64 0, .int .u64 0, .int .u64 0, .int .u64 0, .int .u64 0, .int .u64 0, .int .u64 0, .int .i64 0, .int .i64 0, .int .i64 0, .int .u64 0, .int .u64 0] ty_api_Config (0, 0)) :: Prt.one b23 (.cells #[.int .i64 r.a0, .int .i64 r.a1, .int .i64 r.a2, .int .i64 r.a3, .int .i64 r.a4, .int .i64 r.a5, .int .i64 r.a6, .int .i64 r.a7, .int .i64 r.a8, .int .i64 r.a9, .int .i64 r.a10, .int .i64 r.a11, .int .i64 r.a12, .int .i64 r.a13, .int .i64 r.a14, .int .i64 r.a15, .int .i64 r.a16, .int .i64 r.a17, .int .i64 r.a18, .int .i64 r.a19, .int .u64 r.a20, .int .u64 r.a21] ty_hand_Raw (0, 0)) :: L) H9 := g9
    refine ldI_of (g9.cell (i := 2) rfl rfl) (Pick_ok (by decide) (by decide) ?_)
    (try simp only [asI_mk', asB_mk, asP_mk, asA_mk, asM_mk, asSl_mk, asStr_mk, tup2_mk, tup3_mk, agg1_mk, agg2_mk, agg3_mk, agg4_mk, asAggm, unCons_mk, unNil_mk, asTup_mk, extractD0, extractD1, List.toList_toArray, nilP_mk, add_mk, Nat.zero_add, Nat.add_zero, condT, condF, Bool.not_true, Bool.not_false, Option.isNone_some, Option.isNone_none])
    refine g9.put (i := 0) rfl (show 9 < 22 by decide) fun H10 g10 => ?_
    have g10 : St H0 (Prt.one bc (.cells #[.int .i64 (confOf r).a0, .int .i64 (confOf r).a1, .int .i64 (confOf r).a2, .int .i64 (confOf r).a3, .int .i64 (confOf r).a4, .int .i64 (confOf r).a5, .int .i64 (confOf r).a6, .int .i64 (confOf r).a7, .int .i64 (confOf r).a8, .int .i64 (confOf r).a9, .int .i64 0, .int .u64 0, .int .u64 0, .int .u64 0, .int .u64 0, .int .u64 0, .int .u64 0, .int .i64 0, .int .i64 0, .int .i64 0, .int .u64 0, .int .u64 0] ty_api_Config (0, 0)) :: Prt.one b25 (.cells #[.int .i64 0, .int .i64 0, .int .i64 0, .int .i64 0, .int .i64 0, .int .i64 0, .int .i64 0, .int .i64 0, .int .i64 0, .int .i64 0, .int .i64 0, .int .u64 0, .int .u64 0, .int .u64 0, .int .u64 0, .int .u64 0, .int .u64 0, .int .i64 0, .int .i64 0, .int .i64 0, .int .u64 0, .int .u64 0] ty_api_Config (0, 0)) :: Prt.one b23 (.cells #[.int .i64 r.a0, .int .i64 r.a1, .int .i64 r.a2, .int .i64 r.a3, .int .i64 r.a4, .int .i64 r.a5, .int .i64 r.a6, .int .i64 r.a7, .int .i64 r.a8, .int .i64 r.a9, .int .i64 r.a10, .int .i64 r.a11, .int .i64 r.a12, .int .i64 r.a13, .int .i64 r.a14, .int .i64 r.a15, .int .i64 r.a16, .int .i64 r.a17, .int .i64 r.a18, .int .i64 r.a19, .int .u64 r.a20, .int .u64 r.a21] ty_hand_Raw (0, 0)) :: L) H10 := g10
    refine ldI_of (g10.cell (i := 2) rfl rfl) (Pick_ok (by decide) (by decide) ?_)
    (try simp only [asI_mk', asB_mk, asP_mk, asA_mk, asM_mk, asSl_mk, asStr_mk, tup2_mk, tup3_mk, agg1_mk, agg2_mk, agg3_mk, agg4_mk, asAggm, unCons_mk, unNil_mk, asTup_mk, extractD0, extractD1, List.toList_toArray, nilP_mk, add_mk, Nat.zero_add, Nat.add_zero, condT, condF, Bool.not_true, Bool.not_false, Option.isNone_some, Option.isNone_none])
    refine g10.put (i := 0) rfl (show 10 < 22 by decide) fun H11 g11 => ?_
    have g11 : St H0 (Prt.one bc (.cells #[.int .i64 (confOf r).a0, .int .i64 (confOf r).a1, .int .i64 (confOf r).a2, .int .i64 (confOf r).a3, .int .i64 (confOf r).a4, .int .i64 (confOf r).a5, .int .i64 (confOf r).a6, .int .i64 (confOf r).a7, .int .i64 (confOf r).a8, .int .i64 (confOf r).a9, .int .i64 (confOf r).a10, .int .u64 0, .int .u64 0, .int .u64 0, .int .u64 0, .int .u64 0, .int .u64 0, .int .i64 0, .int .i64 0, .int .i64 0, .int .u64 0, .int .u64 0] ty_api_Config (0, 0)) :: Prt.one b25 (.cells #[.int .i64 0, .int .i64 0, .int .i64 0, .int .i64 0, .int .i64 0, .int .i64 0, .int .i64 0, .int .i64 0, .int .i64 0, .int .i64 0, .int .i64 0, .int .u64 0, .int .u64 0, .int .u64 0, .int .u64 0, .int .u64 0, .int .u64 0, .int .i64 0, .int .i64 0, .int .i64 0, .int .u64 0, .int .u64 0] ty_api_Config (0, 0)) :: Prt.one b23 (.cells #[.int .i64 r.a0, .int .i64 r.a1, .int .i64 r.a2, .int .i64 r.a3, .int .i64 r.a4, .int .i64 r.a5, .int .i64 r.a6, .int .i64 r.a7, .int .i64 r.a8, .int .i64 r.a9, .int .i64 r.a10, .int .i64 r.a11, .int .i64 r.a12, .int .i64 r.a13, .int .i64 r.a14, .int .i64 r.a15, .int .i64 r.a16, .int .i64 r.a17, .int .i64 r.a18, .int .i64 r.a19, .int .u64 r.a20, .int .u64 r.a21] ty_hand_Raw (0, 0)) :: L) H11 := g11
    refine ldI_of (g11.cell (i := 2) rfl rfl) (Pick_ok (by decide) (by decide) ?_)
    (try simp only [asI_mk', asB_mk, asP_mk, asA_mk, asM_mk, asSl_mk, asStr_mk, tup2_mk, tup3_mk, agg1_mk, agg2_mk, agg3_mk, agg4_mk, asAggm, unCons_mk, unNil_mk, asTup_mk, extractD0, extractD1, List.toList_toArray, nilP_mk, add_mk, Nat.zero_add, Nat.add_zero, condT, condF, Bool.not_true, Bool.not_false, Option.isNone_some, Option.isNone_none])
    refine g11.put (i := 0) rfl (show 11 < 22 by decide) fun H12 g12 => ?_
    have g12 : St H0 (Prt.one bc (.cells #[.int .i64 (confOf r).a0, .int .i64 (confOf r).a1, .int .i64 (confOf r).a2, .int .i64 (confOf r).a3, .int .i64 (confOf r).a4, .int .i64 (confOf r).a5, .int .i64 (confOf r).a6, .int .i64 (confOf r).a7, .int .i64 (confOf r).a8, .int .i64 (confOf r).a9, .int .i64 (confOf r).a10, .int .u64 (confOf r).a11, .int .u64 0, .int .u64 0, .int .u64 0, .int .u64 0, .int .u64 0, .int .i64 0, .int .i64 0, .int .i64 0, .int .u64 0, .int .u64 0] ty_api_Config (0, 0)) :: Prt.one b25 (.cells #[.int .i64 0, .int .i64 0, .int .i64 0, .int .i64 0, .int .i64 0, .int .i64 0, .int .i64 0, .int .i64 0, .int .i64 0, .int .i64 0, .int .i64 0, .int .u64 0, .int .u64 0, .int .u64 0, .int .u64 0, .int .u64 0, .int .u64 0, .int .i64 0, .int .i64 0, .int .i64 0, .int .u64 0, .int .u64 0] ty_api_Config (0, 0)) :: Prt.one b23 (.cells #[.int .i64 r.a0, .int .i64 r.a1, .int .i64 r.a2, .int .i64 r.a3, .int .i64 r.a4, .int .i64 r.a5, .int .i64 r.a6, .int .i64 r.a7, .int .i64 r.a8, .int .i64 r.a9, .int .i64 r.a10, .int .i64 r.a11, .int .i64 r.a12, .int .i64 r.a13, .int .i64 r.a14, .int .i64 r.a15, .int .i64 r.a16, .int .i64 r.a17, .int .i64 r.a18, .int .i64 r.a19, .int .u64 r.a20, .int .u64 r.a21] ty_hand_Raw (0, 0)) :: L) H12 := g12
    refine ldI_of (g12.cell (i := 2) rfl rfl) (ldI_of (g12.cell (i := 0) rfl rfl) ⟨by decide, Pick_ok (m := IntKind.i64.wrap (Int.tdiv (IntKind.i64.wrap (cUnit r)) 2)) (by have := cHalf_is r; omega) (by have := cHalf_is r; omega) ?_⟩)
    (try simp only [asI_mk', asB_mk, asP_mk, asA_mk, asM_mk, asSl_mk, asStr_mk, tup2_mk, tup3_mk, agg1_mk, agg2_mk, agg3_mk, agg4_mk, asAggm, unCons_mk, unNil_mk, asTup_mk, extractD0, extractD1, List.toList_toArray, nilP_mk, add_mk, Nat.zero_add, Nat.add_zero, condT, condF, Bool.not_true, Bool.not_false, Option.isNone_some, Option.isNone_none])
    refine g12.put (i := 0) rfl (show 12 < 22 by decide) fun H13 g13 => ?_
    have g13 : St H0 (Prt.one bc (.cells #[.int .i64 (confOf r).a0, .int .i64 (confOf r).a1, .int .i64 (confOf r).a2, .int .i64 (confOf r).a3, .int .i64 (confOf r).a4, .int .i64 (confOf r).a5, .int .i64 (confOf r).a6, .int .i64 (confOf r).a7, .int .i64 (confOf r).a8, .int .i64 (confOf r).a9, .int .i64 (confOf r).a10, .int .u64 (confOf r).a11, .int .u64 (confOf r).a12, .int .u64 0, .int .u64 0, .int .u64 0, .int .u64 0, .int .i64 0, .int .i64 0, .int .i64 0, .int .u64 0, .int .u64 0] ty_api_Config (0, 0)) :: Prt.one b25 (.cells #[.int .i64 0, .int .i64 0, .int .i64 0, .int .i64 0, .int .i64 0, .int .i64 0, .int .i64 0, .int .i64 0, .int .i64 0, .int .i64 0, .int .i64 0, .int .u64 0, .int .u64 0, .int .u64 0, .int .u64 0, .int .u64 0, .int .u64 0, .int .i64 0, .int .i64 0, .int .i64 0, .int .u64 0, .int .u64 0] ty_api_Config (0, 0)) :: Prt.one b23 (.cells #[.int .i64 r.a0, .int .i64 r.a1, .int .i64 r.a2, .int .i64 r.a3, .int .i64 r.a4, .int .i64 r.a5, .int .i64 r.a6, .int .i64 r.a7, .int .i64 r.a8, .int .i64 r.a9, .int .i64 r.a10, .int .i64 r.a11, .int .i64 r.a12, .int .i64 r.a13, .int .i64 r.a14, .int .i64 r.a15, .int .i64 r.a16, .int .i64 r.a17, .int .i64 r.a18, .int .i64 r.a19, .int .u64 r.a20, .int .u64 r.a21] ty_hand_Raw (0, 0)) :: L) H13 := g13
    refine ldI_of (g13.cell (i := 0) rfl rfl) (ldI_of (g13.cell (i := 2) rfl rfl) (Pick_ok (by decide) (by decide) ?_))
    (try simp only [asI_mk', asB_mk, asP_mk, asA_mk, asM_mk, asSl_mk, asStr_mk, tup2_mk, tup3_mk, agg1_mk, agg2_mk, agg3_mk, agg4_mk, asAggm, unCons_mk, unNil_mk, asTup_mk, extractD0, extractD1, List.toList_toArray, nilP_mk, add_mk, Nat.zero_add, Nat.add_zero, condT, condF, Bool.not_true, Bool.not_false, Option.isNone_some, Option.isNone_none])
    refine ⟨ldI_of (g13.cell (i := 0) rfl rfl) rfl, ?_⟩
    refine g13.put (i := 0) rfl (show 13 < 22 by decide) fun H14 g14 => ?_
    have g14 : St H0 (Prt.one bc (.cells #[.int .i64 (confOf r).a0, .int .i64 (confOf r).a1, .int .i64 (confOf r).a2, .int .i64 (confOf r).a3, .int .i64 (confOf r).a4, .int .i64 (confOf r).a5, .int .i64 (confOf r).a6, .int .i64 (confOf r).a7, .int .i64 (confOf r).a8, .int .i64 (confOf r).a9, .int .i64 (confOf r).a10, .int .u64 (confOf r).a11, .int .u64 (confOf r).a12, .int .u64 (confOf r).a13, .int .u64 0, .int .u64 0, .int .u64 0, .int .i64 0, .int .i64 0, .int .i64 0, .int .u64 0, .int .u64 0] ty_api_Config (0, 0)) :: Prt.one b25 (.cells #[.int .i64 0, .int .i64 0, .int .i64 0, .int .i64 0, .int .i64 0, .int .i64 0, .int .i64 0, .int .i64 0, .int .i64 0, .int .i64 0, .int .i64 0, .int .u64 0, .int .u64 0, .int .u64 0, .int .u64 0, .int .u64 0, .int .u64 0, .int .i64 0, .int .i64 0, .int .i64 0, .int .u64 0, .int .u64 0] ty_api_Config (0, 0)) :: Prt.one b23 (.cells #[.int .i64 r.a0, .int .i64 r.a1, .int .i64 r.a2, .int .i64 r.a3, .int .i64 r.a4, .int .i64 r.a5, .int .i64 r.a6, .int .i64 r.a7, .int .i64 r.a8, .int .i64 r.a9, .int .i64 r.a10, .int .i64 r.a11, .int .i64 r.a12, .int .i64 r.a13, .int .i64 r.a14, .int .i64 r.a15, .int .i64 r.a16, .int .i64 r.a17, .int .i64 r.a18, .int .i64 r.a19, .int .u64 r.a20, .int .u64 r.a21] ty_hand_Raw (0, 0)) :: L) H14 := g14
    refine ldI_of (g14.cell (i := 2) rfl rfl) (Pick_ok (by decide) (by decide) ?_)
    (try simp only [asI_mk', asB_mk, asP_mk, asA_mk, asM_mk, asSl_mk, asStr_mk, tup2_mk, tup3_mk, agg1_mk, agg2_mk, agg3_mk, agg4_mk, asAggm, unCons_mk, unNil_mk, asTup_mk, extractD0, extractD1, List.toList_toArray, nilP_mk, add_mk, Nat.zero_add, Nat.add_zero, condT, condF, Bool.not_true, Bool.not_false, Option.isNone_some, Option.isNone_none])
    refine g14.put (i := 0) rfl (show 14 < 22 by decide) fun H15 g15 => ?_
    have g15 : St H0 (Prt.one bc (.cells #[.int .i64 (confOf r).a0, .int .i64 (confOf r).a1, .int .i64 (confOf r).a2, .int .i64 (confOf r).a3, .int .i64 (confOf r).a4, .int .i64 (confOf r).a5, .int .i64 (confOf r).a6, .int .i64 (confOf r).a7, .int .i64 (confOf r).a8, .int .i64 (confOf r).a9, .int .i64 (confOf r).a10, .int .u64 (confOf r).a11, .int .u64 (confOf r).a12, .int .u64 (confOf r).a13, .int .u64 (confOf r).a14, .int .u64 0, .int .u64 0, .int .i64 0, .int .i64 0, .int .i64 0, .int .u64 0, .int .u64 0] ty_api_Config (0, 0)) :: Prt.one b25 (.cells #[.int .i64 0, .int .i64 0, .int .i64 0, .int .i64 0, .int .i64 0, .int .i64 0, .int .i64 0, .int .i64 0, .int .i64 0, .int .i64 0, .int .i64 0, .int .u64 0, .int .u64 0, .int .u64 0, .int .u64 0, .int .u64 0, .int .u64 0, .int .i64 0, .int .i64 0, .int .i64 0, .int .u64 0, .int .u64 0] ty_api_Config (0, 0)) :: Prt.one b23 (.cells #[.int .i64 r.a0, .int .i64 r.a1, .int .i64 r.a2, .int .i64 r.a3, .int .i64 r.a4, .int .i64 r.a5, .int .i64 r.a6, .int .i64 r.a7, .int .i64 r.a8, .int .i64 r.a9, .int .i64 r.a10, .int .i64 r.a11, .int .i64 r.a12, .int .i64 r.a13, .int .i64 r.a14, .int .i64 r.a15, .int .i64 r.a16, .int .i64 r.a17, .int .i64 r.a18, .int .i64 r.a19, .int .u64 r.a20, .int .u64 r.a21] ty_hand_Raw (0, 0)) :: L) H15 := g15
    refine ldI_of (g15.cell (i := 0) rfl rfl) (ldI_of (g15.cell (i := 2) rfl rfl) (Pick_ok (by decide) (by decide) ?_))
    (try simp only [asI_mk', asB_mk, asP_mk, asA_mk, asM_mk, asSl_mk, asStr_mk, tup2_mk, tup3_mk, agg1_mk, agg2_mk, agg3_mk, agg4_mk, asAggm, unCons_mk, unNil_mk, asTup_mk, extractD0, extractD1, List.toList_toArray, nilP_mk, add_mk, Nat.zero_add, Nat.add_zero, condT, condF, Bool.not_true, Bool.not_false, Option.isNone_some, Option.isNone_none])
    refine ⟨ldI_of (g15.cell (i := 0) rfl rfl) rfl, ?_⟩
    refine g15.put (i := 0) rfl (show 15 < 22 by decide) fun H16 g16 => ?_
    have g16 : St H0 (Prt.one bc (.cells #[.int .i64 (confOf r).a0, .int .i64 (confOf r).a1, .int .i64 (confOf r).a2, .int .i64 (confOf r).a3, .int .i64 (confOf r).a4, .int .i64 (confOf r).a5, .int .i64 (confOf r).a6, .int .i64 (confOf r).a7, .int .i64 (confOf r).a8, .int .i64 (confOf r).a9, .int .i64 (confOf r).a10, .int .u64 (confOf r).a11, .int .u64 (confOf r).a12, .int .u64 (confOf r).a13, .int .u64 (confOf r).a14, .int .u64 (confOf r).a15, .int .u64 0, .int .i64 0, .int .i64 0, .int .i64 0, .int .u64 0, .int .u64 0] ty_api_Config (0, 0)) :: Prt.one b25 (.cells #[.int .i64 0, .int .i64 0, .int .i64 0, .int .i64 0, .int .i64 0, .int .i64 0, .int .i64 0, .int .i64 0, .int .i64 0, .int .i64 0, .int .i64 0, .int .u64 0, .int .u64 0, .int .u64 0, .int .u64 0, .int .u64 0, .int .u64 0, .int .i64 0, .int .i64 0, .int .i64 0, .int .u64 0, .int .u64 0] ty_api_Config (0, 0)) :: Prt.one b23 (.cells #[.int .i64 r.a0, .int .i64 r.a1, .int .i64 r.a2, .int .i64 r.a3, .int .i64 r.a4, .int .i64 r.a5, .int .i64 r.a6, .int .i64 r.a7, .int .i64 r.a8, .int .i64 r.a9, .int .i64 r.a10, .int .i64 r.a11, .int .i64 r.a12, .int .i64 r.a13, .int .i64 r.a14, .int .i64 r.a15, .int .i64 r.a16, .int .i64 r.a17, .int .i64 r.a18, .int .i64 r.a19, .int .u64 r.a20, .int .u64 r.a21] ty_hand_Raw (0, 0)) :: L) H16 := g16
    refine ldI_of (g16.cell (i := 0) rfl rfl) (ldI_of (g16.cell (i := 2) rfl rfl) (Pick_ok (by decide) (by decide) ?_))
    (try simp only [asI_mk', asB_mk, asP_mk, asA_mk, asM_mk, asSl_mk, asStr_mk, tup2_mk, tup3_mk, agg1_mk, agg2_mk, agg3_mk, agg4_mk, asAggm, unCons_mk, unNil_mk, asTup_mk, extractD0, extractD1, List.toList_toArray, nilP_mk, add_mk, Nat.zero_add, Nat.add_zero, condT, condF, Bool.not_true, Bool.not_false, Option.isNone_some, Option.isNone_none])
    refine ⟨ldI_of (g16.cell (i := 0) rfl rfl) rfl, ?_⟩
    refine g16.put (i := 0) rfl (show 16 < 22 by decide) fun H17 g17 => ?_
    have g17 : St H0 (Prt.one bc (.cells #[.int .i64 (confOf r).a0, .int .i64 (confOf r).a1, .int .i64 (confOf r).a2, .int .i64 (confOf r).a3, .int .i64 (confOf r).a4, .int .i64 (confOf r).a5, .int .i64 (confOf r).a6, .int .i64 (confOf r).a7, .int .i64 (confOf r).a8, .int .i64 (confOf r).a9, .int .i64 (confOf r).a10, .int .u64 (confOf r).a11, .int .u64 (confOf r).a12, .int .u64 (confOf r).a13, .int .u64 (confOf r).a14, .int .u64 (confOf r).a15, .int .u64 (confOf r).a16, .int .i64 0, .int .i64 0, .int .i64 0, .int .u64 0, .int .u64 0] ty_api_Config (0, 0)) :: Prt.one b25 (.cells #[.int .i64 0, .int .i64 0, .int .i64 0, .int .i64 0, .int .i64 0, .int .i64 0, .int .i64 0, .int .i64 0, .int .i64 0, .int .i64 0, .int .i64 0, .int .u64 0, .int .u64 0, .int .u64 0, .int .u64 0, .int .u64 0, .int .u64 0, .int .i64 0, .int .i64 0, .int .i64 0, .int .u64 0, .int .u64 0] ty_api_Config (0, 0)) :: Prt.one b23 (.cells #[.int .i64 r.a0, .int .i64 r.a1, .int .i64 r.a2, .int .i64 r.a3, .int .i64 r.a4, .int .i64 r.a5, .int .i64 r.a6, .int .i64 r.a7, .int .i64 r.a8, .int .i64 r.a9, .int .i64 r.a10, .int .i64 r.a11, .int .i64 r.a12, .int .i64 r.a13, .int .i64 r.a14, .int .i64 r.a15, .int .i64 r.a16, .int .i64 r.a17, .int .i64 r.a18, .int .i64 r.a19, .int .u64 r.a20, .int .u64 r.a21] ty_hand_Raw (0, 0)) :: L) H17 := g17
    refine ldI_of (g17.cell (i := 2) rfl rfl) (Pick_ok (by decide) (by decide) ?_)
    (try simp only [asI_mk', asB_mk, asP_mk, asA_mk, asM_mk, asSl_mk, asStr_mk, tup2_mk, tup3_mk, agg1_mk, agg2_mk, agg3_mk, agg4_mk, asAggm, unCons_mk, unNil_mk, asTup_mk, extractD0, extractD1, List.toList_toArray, nilP_mk, add_mk, Nat.zero_add, Nat.add_zero, condT, condF, Bool.not_true, Bool.not_false, Option.isNone_some, Option.isNone_none])
    refine g17.put (i := 0) rfl (show 17 < 22 by decide) fun H18 g18 => ?_
    have g18 : St H0 (Prt.one bc (.cells #[.int .i64 (confOf r).a0, .int .i64 (confOf r).a1, .int .i64 (confOf r).a2, .int .i64 (confOf r).a3, .int .i64 (confOf r).a4, .int .i64 (confOf r).a5, .int .i64 (confOf r).a6, .int .i64 (confOf r).a7, .int .i64 (confOf r).a8, .int .i64 (confOf r).a9, .int .i64 (confOf r).a10, .int .u64 (confOf r).a11, .int .u64 (confOf r).a12, .int .u64 (confOf r).a13, .int .u64 (confOf r).a14, .int .u64 (confOf r).a15, .int .u64 (confOf r).a16, .int .i64 (confOf r).a17, .int .i64 0, .int .i64 0, .int .u64 0, .int .u64 0] ty_api_Config (0, 0)) :: Prt.one b25 (.cells #[.int .i64 0, .int .i64 0, .int .i64 0, .int .i64 0, .int .i64 0, .int .i64 0, .int .i64 0, .int .i64 0, .int .i64 0, .int .i64 0, .int .i64 0, .int .u64 0, .int .u64 0, .int .u64 0, .int .u64 0, .int .u64 0, .int .u64 0, .int .i64 0, .int .i64 0, .int .i64 0, .int .u64 0, .int .u64 0] ty_api_Config (0, 0)) :: Prt.one b23 (.cells #[.int .i64 r.a0, .int .i64 r.a1, .int .i64 r.a2, .int .i64 r.a3, .int .i64 r.a4, .int .i64 r.a5, .int .i64 r.a6, .int .i64 r.a7, .int .i64 r.a8, .int .i64 r.a9, .int .i64 r.a10, .int .i64 r.a11, .int .i64 r.a12, .int .i64 r.a13, .int .i64 r.a14, .int .i64 r.a15, .int .i64 r.a16, .int .i64 r.a17, .int .i64 r.a18, .int .i64 r.a19, .int .u64 r.a20, .int .u64 r.a21] ty_hand_Raw (0, 0)) :: L) H18 := g18
    refine ldI_of (g18.cell (i := 0) rfl rfl) (ldI_of (g18.cell (i := 2) rfl rfl) (Pick_ok (by decide) (by decide) ?_))
    (try simp only [asI_mk', asB_mk, asP_mk, asA_mk, asM_mk, asSl_mk, asStr_mk, tup2_mk, tup3_mk, agg1_mk, agg2_mk, agg3_mk, agg4_mk, asAggm, unCons_mk, unNil_mk, asTup_mk, extractD0, extractD1, List.toList_toArray, nilP_mk, add_mk, Nat.zero_add, Nat.add_zero, condT, condF, Bool.not_true, Bool.not_false, Option.isNone_some, Option.isNone_none])
    refine ⟨ldI_of (g18.cell (i := 0) rfl rfl) rfl, ?_⟩
    refine g18.put (i := 0) rfl (show 18 < 22 by decide) fun H19 g19 => ?_
    have g19 : St H0 (Prt.one bc (.cells #[.int .i64 (confOf r).a0, .int .i64 (confOf r).a1, .int .i64 (confOf r).a2, .int .i64 (confOf r).a3, .int .i64 (confOf r).a4, .int .i64 (confOf r).a5, .int .i64 (confOf r).a6, .int .i64 (confOf r).a7, .int .i64 (confOf r).a8, .int .i64 (confOf r).a9, .int .i64 (confOf r).a10, .int .u64 (confOf r).a11, .int .u64 (confOf r).a12, .int .u64 (confOf r).a13, .int .u64 (confOf r).a14, .int .u64 (confOf r).a15, .int .u64 (confOf r).a16, .int .i64 (confOf r).a17, .int .i64 (confOf r).a18, .int .i64 0, .int .u64 0, .int .u64 0] ty_api_Config (0, 0)) :: Prt.one b25 (.cells #[.int .i64 0, .int .i64 0, .int .i64 0, .int .i64 0, .int .i64 0, .int .i64 0, .int .i64 0, .int .i64 0, .int .i64 0, .int .i64 0, .int .i64 0, .int .u64 0, .int .u64 0, .int .u64 0, .int .u64 0, .int .u64 0, .int .u64 0, .int .i64 0, .int .i64 0, .int .i64 0, .int .u64 0, .int .u64 0] ty_api_Config (0, 0)) :: Prt.one b23 (.cells #[.int .i64 r.a0, .int .i64 r.a1, .int .i64 r.a2, .int .i64 r.a3, .int .i64 r.a4, .int .i64 r.a5, .int .i64 r.a6, .int .i64 r.a7, .int .i64 r.a8, .int .i64 r.a9, .int .i64 r.a10, .int .i64 r.a11, .int .i64 r.a12, .int .i64 r.a13, .int .i64 r.a14, .int .i64 r.a15, .int .i64 r.a16, .int .i64 r.a17, .int .i64 r.a18, .int .i64 r.a19, .int .u64 r.a20, .int .u64 r.a21] ty_hand_Raw (0, 0)) :: L) H19 := g19
    refine ldI_of (g19.cell (i := 2) rfl rfl) (Pick_ok (by decide) (by decide) ?_)
    (try simp only [asI_mk', asB_mk, asP_mk, asA_mk, asM_mk, asSl_mk, asStr_mk, tup2_mk, tup3_mk, agg1_mk, agg2_mk, agg3_mk, agg4_mk, asAggm, unCons_mk, unNil_mk, asTup_mk, extractD0, extractD1, List.toList_toArray, nilP_mk, add_mk, Nat.zero_add, Nat.add_zero, condT, condF, Bool.not_true, Bool.not_false, Option.isNone_some, Option.isNone_none])
    refine g19.put (i := 0) rfl (show 19 < 22 by decide) fun H20 g20 => ?_
    have g20 : St H0 (Prt.one bc (.cells #[.int .i64 (confOf r).a0, .int .i64 (confOf r).a1, .int .i64 (confOf r).a2, .int .i64 (confOf r).a3, .int .i64 (confOf r).a4, .int .i64 (confOf r).a5, .int .i64 (confOf r).a6, .int .i64 (confOf r).a7, .int .i64 (confOf r).a8, .int .i64 (confOf r).a9, .int .i64 (confOf r).a10, .int .u64 (confOf r).a11, .int .u64 (confOf r).a12, .int .u64 (confOf r).a13, .int .u64 (confOf r).a14, .int .u64 (confOf r).a15, .int .u64 (confOf r).a16, .int .i64 (confOf r).a17, .int .i64 (confOf r).a18, .int .i64 (confOf r).a19, .int .u64 0, .int .u64 0] ty_api_Config (0, 0)) :: Prt.one b25 (.cells #[.int .i64 0, .int .i64 0, .int .i64 0, .int .i64 0, .int .i64 0, .int .i64 0, .int .i64 0, .int .i64 0, .int .i64 0, .int .i64 0, .int .i64 0, .int .u64 0, .int .u64 0, .int .u64 0, .int .u64 0, .int .u64 0, .int .u64 0, .int .i64 0, .int .i64 0, .int .i64 0, .int .u64 0, .int .u64 0] ty_api_Config (0, 0)) :: Prt.one b23 (.cells #[.int .i64 r.a0, .int .i64 r.a1, .int .i64 r.a2, .int .i64 r.a3, .int .i64 r.a4, .int .i64 r.a5, .int .i64 r.a6, .int .i64 r.a7, .int .i64 r.a8, .int .i64 r.a9, .int .i64 r.a10, .int .i64 r.a11, .int .i64 r.a12, .int .i64 r.a13, .int .i64 r.a14, .int .i64 r.a15, .int .i64 r.a16, .int .i64 r.a17, .int .i64 r.a18, .int .i64 r.a19, .int .u64 r.a20, .int .u64 r.a21] ty_hand_Raw (0, 0)) :: L) H20 := g20
    refine ldI_of (g20.cell (i := 2) rfl rfl) ⟨by decide, ?_⟩
    (try simp only [asI_mk', asB_mk, asP_mk, asA_mk, asM_mk, asSl_mk, asStr_mk, tup2_mk, tup3_mk, agg1_mk, agg2_mk, agg3_mk, agg4_mk, asAggm, unCons_mk, unNil_mk, asTup_mk, extractD0, extractD1, List.toList_toArray, nilP_mk, add_mk, Nat.zero_add, Nat.add_zero, condT, condF, Bool.not_true, Bool.not_false, Option.isNone_some, Option.isNone_none])
    refine g20.put (i := 0) rfl (show 20 < 22 by decide) fun H21 g21 => ?_
    have g21 : St H0 (Prt.one bc (.cells #[.int .i64 (confOf r).a0, .int .i64 (confOf r).a1, .int .i64 (confOf r).a2, .int .i64 (confOf r).a3, .int .i64 (confOf r).a4, .int .i64 (confOf r).a5, .int .i64 (confOf r).a6, .int .i64 (confOf r).a7, .int .i64 (confOf r).a8, .int .i64 (confOf r).a9, .int .i64 (confOf r).a10, .int .u64 (confOf r).a11, .int .u64 (confOf r).a12, .int .u64 (confOf r).a13, .int .u64 (confOf r).a14, .int .u64 (confOf r).a15, .int .u64 (confOf r).a16, .int .i64 (confOf r).a17, .int .i64 (confOf r).a18, .int .i64 (confOf r).a19, .int .u64 (confOf r).a20, .int .u64 0] ty_api_Config (0, 0)) :: Prt.one b25 (.cells #[.int .i64 0, .int .i64 0, .int .i64 0, .int .i64 0, .int .i64 0, .int .i64 0, .int .i64 0, .int .i64 0, .int .i64 0, .int .i64 0, .int .i64 0, .int .u64 0, .int .u64 0, .int .u64 0, .int .u64 0, .int .u64 0, .int .u64 0, .int .i64 0, .int .i64 0, .int .i64 0, .int .u64 0, .int .u64 0] ty_api_Config (0, 0)) :: Prt.one b23 (.cells #[.int .i64 r.a0, .int .i64 r.a1, .int .i64 r.a2, .int .i64 r.a3, .int .i64 r.a4, .int .i64 r.a5, .int .i64 r.a6, .int .i64 r.a7, .int .i64 r.a8, .int .i64 r.a9, .int .i64 r.a10, .int .i64 r.a11, .int .i64 r.a12, .int .i64 r.a13, .int .i64 r.a14, .int .i64 r.a15, .int .i64 r.a16, .int .i64 r.a17, .int .i64 r.a18, .int .i64 r.a19, .int .u64 r.a20, .int .u64 r.a21] ty_hand_Raw (0, 0)) :: L) H21 := g21
    refine ldI_of (g21.cell (i := 2) rfl rfl) ⟨by decide, ?_⟩
    (try simp only [asI_mk', asB_mk, asP_mk, asA_mk, asM_mk, asSl_mk, asStr_mk, tup2_mk, tup3_mk, agg1_mk, agg2_mk, agg3_mk, agg4_mk, asAggm, unCons_mk, unNil_mk, asTup_mk, extractD0, extractD1, List.toList_toArray, nilP_mk, add_mk, Nat.zero_add, Nat.add_zero, condT, condF, Bool.not_true, Bool.not_false, Option.isNone_some, Option.isNone_none])
    refine g21.put (i := 0) rfl (show 21 < 22 by decide) fun H22 g22 => ?_
    have g22 : St H0 (Prt.one bc (.cells #[.int .i64 (confOf r).a0, .int .i64 (confOf r).a1, .int .i64 (confOf r).a2, .int .i64 (confOf r).a3, .int .i64 (confOf r).a4, .int .i64 (confOf r).a5, .int .i64 (confOf r).a6, .int .i64 (confOf r).a7, .int .i64 (confOf r).a8, .int .i64 (confOf r).a9, .int .i64 (confOf r).a10, .int .u64 (confOf r).a11, .int .u64 (confOf r).a12, .int .u64 (confOf r).a13, .int .u64 (confOf r).a14, .int .u64 (confOf r).a15, .int .u64 (confOf r).a16, .int .i64 (confOf r).a17, .int .i64 (confOf r).a18, .int .i64 (confOf r).a19, .int .u64 (confOf r).a20, .int .u64 (confOf r).a21] ty_api_Config (0, 0)) :: Prt.one b25 (.cells #[.int .i64 0, .int .i64 0, .int .i64 0, .int .i64 0, .int .i64 0, .int .i64 0, .int .i64 0, .int .i64 0, .int .i64 0, .int .i64 0, .int .i64 0, .int .u64 0, .int .u64 0, .int .u64 0, .int .u64 0, .int .u64 0, .int .u64 0, .int .i64 0, .int .i64 0, .int .i64 0, .int .u64 0, .int .u64 0] ty_api_Config (0, 0)) :: Prt.one b23 (.cells #[.int .i64 r.a0, .int .i64 r.a1, .int .i64 r.a2, .int .i64 r.a3, .int .i64 r.a4, .int .i64 r.a5, .int .i64 r.a6, .int .i64 r.a7, .int .i64 r.a8, .int .i64 r.a9, .int .i64 r.a10, .int .i64 r.a11, .int .i64 r.a12, .int .i64 r.a13, .int .i64 r.a14, .int .i64 r.a15, .int .i64 r.a16, .int .i64 r.a17, .int .i64 r.a18, .int .i64 r.a19, .int .u64 r.a20, .int .u64 r.a21] ty_hand_Raw (0, 0)) :: L) H22 := g22
    refine ldI_of (g22.cell (i := 0) rfl rfl) (ldI_of (g22.cell (i := 0) rfl rfl) (ldI_of (g22.cell (i := 0) rfl rfl) (ldI_of (g22.cell (i := 0) rfl rfl) (ldI_of (g22.cell (i := 0) rfl rfl) (ldI_of (g22.cell (i := 0) rfl rfl) (ldI_of (g22.cell (i := 0) rfl rfl) (ldI_of (g22.cell (i := 0) rfl rfl) (ldI_of (g22.cell (i := 0) rfl rfl) (ldI_of (g22.cell (i := 0) rfl rfl) (ldI_of (g22.cell (i := 0) rfl rfl) (ldI_of (g22.cell (i := 0) rfl rfl) (ldI_of (g22.cell (i := 0) rfl rfl) (ldI_of (g22.cell (i := 0) rfl rfl) (ldI_of (g22.cell (i := 0) rfl rfl) (ldI_of (g22.cell (i := 0) rfl rfl) (ldI_of (g22.cell (i := 0) rfl rfl) (ldI_of (g22.cell (i := 0) rfl rfl) (ldI_of (g22.cell (i := 0) rfl rfl) (ldI_of (g22.cell (i := 0) rfl rfl) (ldI_of (g22.cell (i := 0) rfl rfl) (ldI_of (g22.cell (i := 0) rfl rfl) (?_))))))))))))))))))))))
    refine St.sets (i := 1) (o := 0) (vs := [.int .i64 (confOf r).a0, .int .i64 (confOf r).a1, .int .i64 (confOf r).a2, .int .i64 (confOf r).a3, .int .i64 (confOf r).a4, .int .i64 (confOf r).a5, .int .i64 (confOf r).a6, .int .i64 (confOf r).a7, .int .i64 (confOf r).a8, .int .i64 (confOf r).a9, .int .i64 (confOf r).a10, .int .u64 (confOf r).a11, .int .u64 (confOf r).a12, .int .u64 (confOf r).a13, .int .u64 (confOf r).a14, .int .u64 (confOf r).a15, .int .u64 (confOf r).a16, .int .i64 (confOf r).a17, .int .i64 (confOf r).a18, .int .i64 (confOf r).a19, .int .u64 (confOf r).a20, .int .u64 (confOf r).a21]) g22 rfl (by simp) fun H23 g23 => ?_
    rw [setsA_all (by rfl)] at g23
    have g23 : St H0 (Prt.one bc (.cells #[.int .i64 (confOf r).a0, .int .i64 (confOf r).a1, .int .i64 (confOf r).a2, .int .i64 (confOf r).a3, .int .i64 (confOf r).a4, .int .i64 (confOf r).a5, .int .i64 (confOf r).a6, .int .i64 (confOf r).a7, .int .i64 (confOf r).a8, .int .i64 (confOf r).a9, .int .i64 (confOf r).a10, .int .u64 (confOf r).a11, .int .u64 (confOf r).a12, .int .u64 (confOf r).a13, .int .u64 (confOf r).a14, .int .u64 (confOf r).a15, .int .u64 (confOf r).a16, .int .i64 (confOf r).a17, .int .i64 (confOf r).a18, .int .i64 (confOf r).a19, .int .u64 (confOf r).a20, .int .u64 (confOf r).a21] ty_api_Config (0, 0)) :: Prt.one b25 (.cells #[.int .i64 (confOf r).a0, .int .i64 (confOf r).a1, .int .i64 (confOf r).a2, .int .i64 (confOf r).a3, .int .i64 (confOf r).a4, .int .i64 (confOf r).a5, .int .i64 (confOf r).a6, .int .i64 (confOf r).a7, .int .i64 (confOf r).a8, .int .i64 (confOf r).a9, .int .i64 (confOf r).a10, .int .u64 (confOf r).a11, .int .u64 (confOf r).a12, .int .u64 (confOf r).a13, .int .u64 (confOf r).a14, .int .u64 (confOf r).a15, .int .u64 (confOf r).a16, .int .i64 (confOf r).a17, .int .i64 (confOf r).a18, .int .i64 (confOf r).a19, .int .u64 (confOf r).a20, .int .u64 (confOf r).a21] ty_api_Config (0, 0)) :: Prt.one b23 (.cells #[.int .i64 r.a0, .int .i64 r.a1, .int .i64 r.a2, .int .i64 r.a3, .int .i64 r.a4, .int .i64 r.a5, .int .i64 r.a6, .int .i64 r.a7, .int .i64 r.a8, .int .i64 r.a9, .int .i64 r.a10, .int .i64 r.a11, .int .i64 r.a12, .int .i64 r.a13, .int .i64 r.a14, .int .i64 r.a15, .int .i64 r.a16, .int .i64 r.a17, .int .i64 r.a18, .int .i64 r.a19, .int .u64 r.a20, .int .u64 r.a21] ty_hand_Raw (0, 0)) :: L) H23 := g23
    refine ldI_of (g23.cell (i := 1) rfl rfl) (ldI_of (g23.cell (i := 1) rfl rfl) (ldI_of (g23.cell (i := 1) rfl rfl) (ldI_of (g23.cell (i := 1) rfl rfl) (ldI_of (g23.cell (i := 1) rfl rfl) (ldI_of (g23.cell (i := 1) rfl rfl) (ldI_of (g23.cell (i := 1) rfl rfl) (ldI_of (g23.cell (i := 1) rfl rfl) (ldI_of (g23.cell (i := 1) rfl rfl) (ldI_of (g23.cell (i := 1) rfl rfl) (ldI_of (g23.cell (i := 1) rfl rfl) (ldI_of (g23.cell (i := 1) rfl rfl) (ldI_of (g23.cell (i := 1) rfl rfl) (ldI_of (g23.cell (i := 1) rfl rfl) (ldI_of (g23.cell (i := 1) rfl rfl) (ldI_of (g23.cell (i := 1) rfl rfl) (ldI_of (g23.cell (i := 1) rfl rfl) (ldI_of (g23.cell (i := 1) rfl rfl) (ldI_of (g23.cell (i := 1) rfl rfl) (ldI_of (g23.cell (i := 1) rfl rfl) (ldI_of (g23.cell (i := 1) rfl rfl) (ldI_of (g23.cell (i := 1) rfl rfl) (?_))))))))))))))))))))))
    exact hK H23 (St.lesses (M := [_, _, _]) g23)
  have fin : ∀ bc H', St H0 (Prt.one bc (.cells #[.int .i64 0, .int .i64 0, .int .i64 0, .int .i64 0, .int .i64 0, .int .i64 0, .int .i64 0, .int .i64 0, .int .i64 0, .int .i64 0, .int .i64 0, .int .u64 0, .int .u64 0, .int .u64 0, .int .u64 0, .int .u64 0, .int .u64 0, .int .i64 0, .int .i64 0, .int .i64 0, .int .u64 0, .int .u64 0] ty_api_Config (0, 0)) :: Prt.one b25 (.cells #[.int .i64 0, .int .i64 0, .int .i64 0, .int .i64 0, .int .i64 0, .int .i64 0, .int .i64 0, .int .i64 0, .int .i64 0, .int .i64 0, .int .i64 0, .int .u64 0, .int .u64 0, .int .u64 0, .int .u64 0, .int .u64 0, .int .u64 0, .int .i64 0, .int .i64 0, .int .i64 0, .int .u64 0, .int .u64 0] ty_api_Config (0, 0)) :: Prt.one b23 (.cells #[.int .i64 r.a0, .int .i64 r.a1, .int .i64 r.a2, .int .i64 r.a3, .int .i64 r.a4, .int .i64 r.a5, .int .i64 r.a6, .int .i64 r.a7, .int .i64 r.a8, .int .i64 r.a9, .int .i64 r.a10, .int .i64 r.a11, .int .i64 r.a12, .int .i64 r.a13, .int .i64 r.a14, .int .i64 r.a15, .int .i64 r.a16, .int .i64 r.a17, .int .i64 r.a18, .int .i64 r.a19, .int .u64 r.a20, .int .u64 r.a21] ty_hand_Raw (0, 0)) :: L) H' → sts bc 0 [.int .i64 (confOf r).a0, .int .i64 (confOf r).a1, .int .i64 (confOf r).a2, .int .i64 (confOf r).a3, .int .i64 0, .int .i64 0, .int .i64 0, .int .i64 0, .int .i64 0, .int .i64 0, .int .i64 0, .int .u64 0, .int .u64 0, .int .u64 0, .int .u64 0, .int .u64 0, .int .u64 0, .int .i64 0, .int .i64 0, .int .i64 0, .int .u64 0, .int .u64 0] H' fun H'' => R27 (some ⟨bc, 0, none⟩) H'' := fun bc H' g => by
    refine St.sets (i := 0) g rfl (by simp) fun H2 g2 => ?_
    rw [setsA_all (by rfl)] at g2
    exact hR27 bc H2 g2
  clear hR27
  refine ldI_of (g2.cell (i := 1) rfl rfl) (ldI_of (g2.cell (i := 1) rfl rfl) (ldI_of (g2.cell (i := 1) rfl rfl) (ldI_of (g2.cell (i := 1) rfl rfl) ?_)))
  have pk0 : ∀ {n m : Int} {H : Hp} {K : Value → Hp → Prop}, 0 < m → m < 4611686018427387904 → K (.int .i64 (pick n m)) H → hcall PR f_hand_Pick ⟨[.int .i64 n, .int .i64 m]⟩ H K := fun h0 h1 h2 => Pick_ok h0 h1 h2
  refine ⟨Pick_ok (by decide) (by decide) ?_, ?_⟩
  · (try simp only [asI_mk', asB_mk, asP_mk, asA_mk, asM_mk, asSl_mk, asStr_mk, tup2_mk, tup3_mk, agg1_mk, agg2_mk, agg3_mk, agg4_mk, asAggm, unCons_mk, unNil_mk, asTup_mk, extractD0, extractD1, List.toList_toArray, nilP_mk, add_mk, Nat.zero_add, Nat.add_zero, condT, condF, Bool.not_true, Bool.not_false, Option.isNone_some, Option.isNone_none])
    refine ⟨ldI_of (g2.cell (i := 1) rfl rfl) rfl, ldI_of (g2.cell (i := 1) rfl rfl) rfl, ldI_of (g2.cell (i := 1) rfl rfl) rfl, ?_, ?_⟩
    · refine Pick_ok (by decide) (by decide) ?_
      (try simp only [asI_mk', asB_mk, asP_mk, asA_mk, asM_mk, asSl_mk, asStr_mk, tup2_mk, tup3_mk, agg1_mk, agg2_mk, agg3_mk, agg4_mk, asAggm, unCons_mk, unNil_mk, asTup_mk, extractD0, extractD1, List.toList_toArray, nilP_mk, add_mk, Nat.zero_add, Nat.add_zero, condT, condF, Bool.not_true, Bool.not_false, Option.isNone_some, Option.isNone_none])
      refine ⟨ldI_of (g2.cell (i := 1) rfl rfl) rfl, ldI_of (g2.cell (i := 1) rfl rfl) rfl, ?_, ?_⟩
      · refine Pick_ok (by decide) (by decide) ?_
        (try simp only [asI_mk', asB_mk, asP_mk, asA_mk, asM_mk, asSl_mk, asStr_mk, tup2_mk, tup3_mk, agg1_mk, agg2_mk, agg3_mk, agg4_mk, asAggm, unCons_mk, unNil_mk, asTup_mk, extractD0, extractD1, List.toList_toArray, nilP_mk, add_mk, Nat.zero_add, Nat.add_zero, condT, condF, Bool.not_true, Bool.not_false, Option.isNone_some, Option.isNone_none])
        refine ⟨ldI_of (g2.cell (i := 1) rfl rfl) rfl, ?_, ?_⟩
        · refine Pick_ok (by decide) (by decide) ?_
          (try simp only [asI_mk', asB_mk, asP_mk, asA_mk, asM_mk, asSl_mk, asStr_mk, tup2_mk, tup3_mk, agg1_mk, agg2_mk, agg3_mk, agg4_mk, asAggm, unCons_mk, unNil_mk, asTup_mk, extractD0, extractD1, List.toList_toArray, nilP_mk, add_mk, Nat.zero_add, Nat.add_zero, condT, condF, Bool.not_true, Bool.not_false, Option.isNone_some, Option.isNone_none])
          intro bc hbc
          have g3 := g2.alloc (o := .cells #[.int .i64 0, .int .i64 0, .int .i64 0, .int .i64 0, .int .i64 0, .int .i64 0, .int .i64 0, .int .i64 0, .int .i64 0, .int .i64 0, .int .i64 0, .int .u64 0, .int .u64 0, .int .u64 0, .int .u64 0, .int .u64 0, .int .u64 0, .int .i64 0, .int .i64 0, .int .i64 0, .int .u64 0, .int .u64 0] ty_api_Config) hbc
          exact fin bc _ g3
        · intro bc hbc
          have g3 := g2.alloc (o := .cells #[.int .i64 0, .int .i64 0, .int .i64 0, .int .i64 0, .int .i64 0, .int .i64 0, .int .i64 0, .int .i64 0, .int .i64 0, .int .i64 0, .int .i64 0, .int .u64 0, .int .u64 0, .int .u64 0, .int .u64 0, .int .u64 0, .int .u64 0, .int .i64 0, .int .i64 0, .int .i64 0, .int .u64 0, .int .u64 0] ty_api_Config) hbc
          refine ⟨ldI_of (g3.cell (i := 2) rfl rfl) rfl, Pick_ok (by decide) (by decide) ?_⟩
          (try simp only [asI_mk', asB_mk, asP_mk, asA_mk, asM_mk, asSl_mk, asStr_mk, tup2_mk, tup3_mk, agg1_mk, agg2_mk, agg3_mk, agg4_mk, asAggm, unCons_mk, unNil_mk, asTup_mk, extractD0, extractD1, List.toList_toArray, nilP_mk, add_mk, Nat.zero_add, Nat.add_zero, condT, condF, Bool.not_true, Bool.not_false, Option.isNone_some, Option.isNone_none])
          exact fin bc _ g3
      · intro bc hbc
        have g3 := g2.alloc (o := .cells #[.int .i64 0, .int .i64 0, .int .i64 0, .int .i64 0, .int .i64 0, .int .i64 0, .int .i64 0, .int .i64 0, .int .i64 0, .int .i64 0, .int .i64 0, .int .u64 0, .int .u64 0, .int .u64 0, .int .u64 0, .int .u64 0, .int .u64 0, .int .i64 0, .int .i64 0, .int .i64 0, .int .u64 0, .int .u64 0] ty_api_Config) hbc
        refine ⟨ldI_of (g3.cell (i := 2) rfl rfl) rfl, ldI_of (g3.cell (i := 2) rfl rfl) rfl, Pick_ok (by decide) (by decide) ?_⟩
        (try simp only [asI_mk', asB_mk, asP_mk, asA_mk, asM_mk, asSl_mk, asStr_mk, tup2_mk, tup3_mk, agg1_mk, agg2_mk, agg3_mk, agg4_mk, asAggm, unCons_mk, unNil_mk, asTup_mk, extractD0, extractD1, List.toList_toArray, nilP_mk, add_mk, Nat.zero_add, Nat.add_zero, condT, condF, Bool.not_true, Bool.not_false, Option.isNone_some, Option.isNone_none])
        refine ⟨ldI_of (g3.cell (i := 2) rfl rfl) rfl, Pick_ok (by decide) (by decide) ?_⟩
        (try simp only [asI_mk', asB_mk, asP_mk, asA_mk, asM_mk, asSl_mk, asStr_mk, tup2_mk, tup3_mk, agg1_mk, agg2_mk, agg3_mk, agg4_mk, asAggm, unCons_mk, unNil_mk, asTup_mk, extractD0, extractD1, List.toList_toArray, nilP_mk, add_mk, Nat.zero_add, Nat.add_zero, condT, condF, Bool.not_true, Bool.not_false, Option.isNone_some, Option.isNone_none])
        exact fin bc _ g3
    · intro bc hbc
      have g3 := g2.alloc (o := .cells #[.int .i64 0, .int .i64 0, .int .i64 0, .int .i64 0, .int .i64 0, .int .i64 0, .int .i64 0, .int .i64 0, .int .i64 0, .int .i64 0, .int .i64 0, .int .u64 0, .int .u64 0, .int .u64 0, .int .u64 0, .int .u64 0, .int .u64 0, .int .i64 0, .int .i64 0, .int .i64 0, .int .u64 0, .int .u64 0] ty_api_Config) hbc
      refine ⟨ldI_of (g3.cell (i := 2) rfl rfl) rfl, ldI_of (g3.cell (i := 2) rfl rfl) rfl, ldI_of (g3.cell (i := 2) rfl rfl) rfl, Pick_ok (by decide) (by decide) ?_⟩
      (try simp only [asI_mk', asB_mk, asP_mk, asA_mk, asM_mk, asSl_mk, asStr_mk, tup2_mk, tup3_mk, agg1_mk, agg2_mk, agg3_mk, agg4_mk, asAggm, unCons_mk, unNil_mk, asTup_mk, extractD0, extractD1, List.toList_toArray, nilP_mk, add_mk, Nat.zero_add, Nat.add_zero, condT, condF, Bool.not_true, Bool.not_false, Option.isNone_some, Option.isNone_none])
      refine ⟨ldI_of (g3.cell (i := 2) rfl rfl) rfl, ldI_of (g3.cell (i := 2) rfl rfl) rfl, Pick_ok (by decide) (by decide) ?_⟩
      (try simp only [asI_mk', asB_mk, asP_mk, asA_mk, asM_mk, asSl_mk, asStr_mk, tup2_mk, tup3_mk, agg1_mk, agg2_mk, agg3_mk, agg4_mk, asAggm, unCons_mk, unNil_mk, asTup_mk, extractD0, extractD1, List.toList_toArray, nilP_mk, add_mk, Nat.zero_add, Nat.add_zero, condT, condF, Bool.not_true, Bool.not_false, Option.isNone_some, Option.isNone_none])
      refine ⟨ldI_of (g3.cell (i := 2) rfl rfl) rfl, Pick_ok (by decide) (by decide) ?_⟩
      (try simp only [asI_mk', asB_mk, asP_mk, asA_mk, asM_mk, asSl_mk, asStr_mk, tup2_mk, tup3_mk, agg1_mk, agg2_mk, agg3_mk, agg4_mk, asAggm, unCons_mk, unNil_mk, asTup_mk, extractD0, extractD1, List.toList_toArray, nilP_mk, add_mk, Nat.zero_add, Nat.add_zero, condT, condF, Bool.not_true, Bool.not_false, Option.isNone_some, Option.isNone_none])
      exact fin bc _ g3
  · intro bc hbc
    have g3 := g2.alloc (o := .cells #[.int .i64 0, .int .i64 0, .int .i64 0, .int .i64 0, .int .i64 0, .int .i64 0, .int .i64 0, .int .i64 0, .int .i64 0, .int .i64 0, .int .i64 0, .int .u64 0, .int .u64 0, .int .u64 0, .int .u64 0, .int .u64 0, .int .u64 0, .int .i64 0, .int .i64 0, .int .i64 0, .int .u64 0, .int .u64 0] ty_api_Config) hbc
    refine ⟨ldI_of (g3.cell (i := 2) rfl rfl) rfl, ldI_of (g3.cell (i := 2) rfl rfl) rfl, ldI_of (g3.cell (i := 2) rfl rfl) rfl, ldI_of (g3.cell (i := 2) rfl rfl) rfl, Pick_ok (by decide) (by decide) ?_⟩
    (try simp only [asI_mk', asB_mk, asP_mk, asA_mk, asM_mk, asSl_mk, asStr_mk, tup2_mk, tup3_mk, agg1_mk, agg2_mk, agg3_mk, agg4_mk, asAggm, unCons_mk, unNil_mk, asTup_mk, extractD0, extractD1, List.toList_toArray, nilP_mk, add_mk, Nat.zero_add, Nat.add_zero, condT, condF, Bool.not_true, Bool.not_false, Option.isNone_some, Option.isNone_none])
    refine ⟨ldI_of (g3.cell (i := 2) rfl rfl) rfl, ldI_of (g3.cell (i := 2) rfl rfl) rfl, ldI_of (g3.cell (i := 2) rfl rfl) rfl, Pick_ok (by decide) (by decide) ?_⟩
    (try simp only [asI_mk', asB_mk, asP_mk, asA_mk, asM_mk, asSl_mk, asStr_mk, tup2_mk, tup3_mk, agg1_mk, agg2_mk, agg3_mk, agg4_mk, asAggm, unCons_mk, unNil_mk, asTup_mk, extractD0, extractD1, List.toList_toArray, nilP_mk, add_mk, Nat.zero_add, Nat.add_zero, condT, condF, Bool.not_true, Bool.not_false, Option.isNone_some, Option.isNone_none])
    refine ⟨ldI_of (g3.cell (i := 2) rfl rfl) rfl, ldI_of (g3.cell (i := 2) rfl rfl) rfl, Pick_ok (by decide) (by decide) ?_⟩
    (try simp only [asI_mk', asB_mk, asP_mk, asA_mk, asM_mk, asSl_mk, asStr_mk, tup2_mk, tup3_mk, agg1_mk, agg2_mk, agg3_mk, agg4_mk, asAggm, unCons_mk, unNil_mk, asTup_mk, extractD0, extractD1, List.toList_toArray, nilP_mk, add_mk, Nat.zero_add, Nat.add_zero, condT, condF, Bool.not_true, Bool.not_false, Option.isNone_some, Option.isNone_none])
    refine ⟨ldI_of (g3.cell (i := 2) rfl rfl) rfl, Pick_ok (by decide) (by decide) ?_⟩
    (try simp only [asI_mk', asB_mk, asP_mk, asA_mk, asM_mk, asSl_mk, asStr_mk, tup2_mk, tup3_mk, agg1_mk, agg2_mk, agg3_mk, agg4_mk, asAggm, unCons_mk, unNil_mk, asTup_mk, extractD0, extractD1, List.toList_toArray, nilP_mk, add_mk, Nat.zero_add, Nat.add_zero, condT, condF, Bool.not_true, Bool.not_false, Option.isNone_some, Option.isNone_none])
    exact fin bc _ g3
end
end Go.Proofs.Ytknejebggegfjaa

namespace Go.Proofs.Ytknejebggegfjaa
open Go
set_option linter.unusedVariables false
set_option maxRecDepth 100000
end Go.Proofs.Ytknejebggegfjaa

namespace Go.Proofs.Ytknejebggegfjaa
set_option linter.unusedSimpArgs false
set_option linter.unusedVariables false
set_option maxRecDepth 20000
open Go
section
variable {H0 H : Hp} {L M N : List Prt} {i k tb : Nat} {c : Cf} {t : Tr} {K : Value → Hp → Prop}
/-- Cells written one behind the other, and no more than that. -/
def stz (b : Nat) : Nat → List Value → Hp → (Hp → Prop) → Prop
  | _, [], H, K => K H
  | o, [v], H, K => st ⟨b, o, none⟩ v H K
  | o, v :: w :: r, H, K => st ⟨b, o, none⟩ v H fun H' => stz b (o + 1) (w :: r) H' K
theorem stz_of {b : Nat} : ∀ {vs : List Value} {o : Nat} {H : Hp} {K : Hp → Prop}, sts b o vs H K → stz b o vs H K
  | [], _, _, _, h => h
  | [v], o, H, K, h => h
  | v :: w :: r, o, H, K, h => by
    have h : st ⟨b, o, none⟩ v H fun H' => sts b (o + 1) (w :: r) H' K := h
    show st ⟨b, o, none⟩ v H fun H' => stz b (o + 1) (w :: r) H' K
    unfold st at h ⊢
    split at h
    · exact ⟨h.1, h.2.1, h.2.2.1, stz_of h.2.2.2⟩
    · exact h
theorem boxz {T : TypeId} {c vs : List Value} {K : Nat → Hp → Prop} (h : St H0 L H) (hl : vs.length = c.length) (hK : ∀ b H', St H0 (Prt.one b (.cells vs.toArray T (0, 0)) :: L) H' → K b H') :
    newB (.cells c.toArray T) H fun b H1 => stz b 0 vs H1 (K b) := by
  intro b hb
  exact stz_of (boxs (T := T) (c := c) (vs := vs) (K := K) h hl hK b hb)
def zeroRaw : Cf := ⟨0, 0, 0, 0, 0, 0, 0, 0, 0, 0, 0, 0, 0, 0, 0, 0, 0, 0, 0, 0, 0, 0⟩
end
end Go.Proofs.Ytknejebggegfjaa

namespace Go.Proofs.Ytknejebggegfjaa
set_option linter.unusedSimpArgs false
set_option linter.unusedVariables false
open Go
/-- A web. -/
structure Web where
  ins : List (List Int)
  outs : List (List Int)
  live : List Int
  gone : List Int
def insW (w : Web) (node : Int) (x : Id) : List Int :=
  if w.ins.length = 0 then [] else [1, 2, 3, 4].filter fun s => ((w.ins.getD (Int.tmod (7 * node + x.s) w.ins.length).toNat []).take 3).any fun v => decide (1 + Int.tmod v 4 = s)
def upto4 (nodes : Int) : List Int := [1, 2, 3, 4].filter fun n => decide (n ≤ nodes)
def holdW (w : Web) (nodes : Int) (x : Id) : List Int :=
  if w.outs.length = 0 then [] else (upto4 nodes).filter fun n => decide (n ≠ x.n) && ((w.outs.getD (Int.tmod (5 * x.n + x.s) w.outs.length).toNat []).take 3).any fun v => decide (1 + Int.tmod v nodes = n)
def amongW (l : List Int) (n : Int) : Bool := l.any fun v => decide (pick v 60 = n)
def numW (inn : Bool) (node : Int) (x : Id) : Int := Int.tmod (12 * node + 4 * x.n + x.s + if inn then 1 else 0) 60
def ansW (w : Web) (nodes : Int) (q : Qn) : Ms :=
  if q.kind = 10 then ⟨11, q.to, q.frm, q.call, q.item, 0, 0, []⟩
  else if q.op = 3 then ⟨9, q.to, q.frm, q.call, q.item, 2, 10 + q.to, []⟩
  else if amongW w.live (numW (q.op == 1) q.to q.tgt) then ⟨9, q.to, q.frm, q.call, q.item, 1, 10 + q.to, []⟩
  else if amongW w.gone (numW (q.op == 1) q.to q.tgt) then ⟨9, q.to, q.frm, q.call, q.item, 0, 10 + q.to, []⟩
  else if q.op = 1 then ⟨9, q.to, q.frm, q.call, q.item, 2, 10 + q.to, holdW w nodes q.tgt⟩
  else ⟨9, q.to, q.frm, q.call, q.item, 2, 10 + q.to, insW w q.to q.tgt⟩

/-- What can be asked about. -/
def inU (nodes : Int) (x : It) : Prop :=
  (x.inn = true ∧ x.node = x.id.n ∧ (1 ≤ x.node ∧ x.node ≤ nodes) ∧ (1 ≤ x.id.s ∧ x.id.s ≤ 4)) ∨
  (x.inn = false ∧ (1 ≤ x.node ∧ x.node ≤ nodes) ∧ x.node ≠ x.id.n ∧ (1 ≤ x.id.n ∧ x.id.n ≤ nodes) ∧ ((1 ≤ x.id.s ∧ x.id.s ≤ 4) ∨ (x.node = 1 ∧ x.id.n = 2 ∧ x.id.s = 7)))
def apart (l : List It) : Prop := l.Pairwise fun a b => a.same b = false
def itNo (x : It) : Int := if x.inn then (x.node - 1) * 4 + (x.id.s - 1) else 16 + ((x.node - 1) * 4 + (x.id.n - 1)) * 8 + (x.id.s - 1)
section
variable {nodes : Int} {w : Web} {t : Tr} {m : Ms} {i : Nat}
theorem id_ext {a b : Id} (h1 : a.n = b.n) (h2 : a.s = b.s) : a = b := by
  cases a; cases b; simp only at h1 h2; rw [h1, h2]
theorem itNo_inj (hn : nodes ≤ 4) {a b : It} (ha : inU nodes a) (hb : inU nodes b) (h : itNo a = itNo b) : a.same b = true := by
  rw [it_same]
  unfold itNo at h
  unfold inU at ha hb
  cases h1 : a.inn <;> cases h2 : b.inn <;> simp only [h1, h2, if_true, if_false, Bool.false_eq_true] at h ha hb <;> simp only [true_and, false_and, or_false, false_or, reduceCtorEq] at ha hb ⊢
  · obtain ⟨a1, a2, a3, a4⟩ := ha
    obtain ⟨b1, b2, b3, b4⟩ := hb
    have : a.node = b.node ∧ a.id.n = b.id.n ∧ a.id.s = b.id.s := by
      rcases a4 with a4 | a4 <;> rcases b4 with b4 | b4 <;> omega
    exact ⟨this.1, id_ext this.2.1 this.2.2⟩
  · obtain ⟨a1, a2, a3, a4⟩ := ha
    omega
  · obtain ⟨b1, b2, b3, b4⟩ := hb
    omega
  · have : a.node = b.node ∧ a.id.n = b.id.n ∧ a.id.s = b.id.s := by omega
    exact ⟨this.1, id_ext this.2.1 this.2.2⟩
theorem itNo_lt (hn : nodes ≤ 4) {a : It} (ha : inU nodes a) : 0 ≤ itNo a ∧ itNo a < 144 := by
  unfold itNo
  rcases ha with ⟨h1, h2, h3, h4⟩ | ⟨h1, h2, h3, h4, h5⟩
  · rw [h1, if_pos rfl]; omega
  · rw [h1, if_neg (by decide)]; omega
theorem few_items (hn : nodes ≤ 4) {l : List It} (hu : ∀ x ∈ l, inU nodes x) (ha : apart l) : l.length ≤ 144 := by
  have h := keys_few (k := 144) (l := l.map fun x => (itNo x + 1, (0 : Int))) (by
    unfold mnod
    rw [List.map_map]
    unfold List.Nodup
    rw [List.pairwise_map]
    refine List.Pairwise.imp_of_mem (fun {a b} ha hb h e => ?_) ha
    have e : itNo a + 1 = itNo b + 1 := e
    rw [itNo_inj hn (hu a ha) (hu b hb) (by omega)] at h
    cases h) fun e he => by
      obtain ⟨x, hx, rfl⟩ := List.mem_map.1 he
      have := itNo_lt hn (hu x hx)
      show 1 ≤ itNo x + 1 ∧ itNo x + 1 ≤ _
      omega
  simpa using h

/-- What is told of an item, as items; all of a list, added. -/
def tells (nodes : Int) (w : Web) (x : It) : List It :=
  if x.inn then (holdW w nodes x.id).map fun n => ⟨false, n, x.id, 0⟩ else (insW w x.node x.id).map fun s => ⟨true, x.node, ⟨x.node, s⟩, 0⟩
def addAll : List It → List It → List It
  | l, [] => l
  | l, y :: r => addAll (if l.any (fun z => z.same y) then l else l ++ [y]) r
theorem ins_in {node : Int} {x : Id} {s : Int} (h : s ∈ insW w node x) : 1 ≤ s ∧ s ≤ 4 := by
  unfold insW at h
  split at h
  · cases h
  · have := (List.mem_filter.1 h).1
    simp at this
    omega
theorem hold_in {x : Id} {n : Int} (h : n ∈ holdW w nodes x) : (1 ≤ n ∧ n ≤ 4) ∧ n ≤ nodes ∧ n ≠ x.n := by
  unfold holdW at h
  split at h
  · cases h
  · obtain ⟨h1, h2⟩ := List.mem_filter.1 h
    unfold upto4 at h1
    obtain ⟨h3, h4⟩ := List.mem_filter.1 h1
    rw [Bool.and_eq_true] at h2
    have h2 := of_decide_eq_true h2.1
    have h4 := of_decide_eq_true h4
    simp at h3
    exact ⟨by omega, h4, h2⟩
theorem tells_in {x y : It} (hx : inU nodes x) (h : y ∈ tells nodes w x) : inU nodes y ∧ y.code = 0 := by
  unfold tells at h
  rcases hx with ⟨h1, h2, h3, h4⟩ | ⟨h1, h2, h3, h4, h5⟩
  · rw [h1, if_pos rfl] at h
    obtain ⟨n, hn, rfl⟩ := List.mem_map.1 h
    obtain ⟨n1, n2, n3⟩ := hold_in hn
    exact ⟨.inr ⟨rfl, ⟨n1.1, n2⟩, n3, by simp only; omega, .inl h4⟩, rfl⟩
  · rw [h1, if_neg (by decide)] at h
    obtain ⟨s, hs, rfl⟩ := List.mem_map.1 h
    have := ins_in hs
    exact ⟨.inl ⟨rfl, rfl, h2, this⟩, rfl⟩
theorem add_in : ∀ {r l : List It}, (∀ x ∈ l, inU nodes x) → apart l → (∀ y ∈ r, inU nodes y) → (∀ x ∈ addAll l r, inU nodes x) ∧ apart (addAll l r)
  | [], l, h1, h2, h3 => ⟨h1, h2⟩
  | y :: r, l, h1, h2, h3 => by
    unfold addAll
    split
    · exact add_in h1 h2 fun z hz => h3 z (by simp [hz])
    · rename_i hno
      refine add_in (fun x hx => ?_) ?_ fun z hz => h3 z (by simp [hz])
      · rcases List.mem_append.1 hx with hx | hx
        · exact h1 x hx
        · simp at hx; rw [hx]; exact h3 y (by simp)
      · unfold apart
        rw [List.pairwise_append]
        refine ⟨h2, by simp, fun a ha b hb => ?_⟩
        simp at hb
        rw [hb]
        cases hs : a.same y
        · rfl
        · exact absurd (List.any_eq_true.2 ⟨a, ha, hs⟩) hno
theorem add_grow : ∀ {r l : List It}, ∃ r', addAll l r = l ++ r'
  | [], l => ⟨[], by simp [addAll]⟩
  | y :: r, l => by
    unfold addAll
    split
    · exact add_grow
    · obtain ⟨r', h⟩ := add_grow (r := r) (l := l ++ [y])
      exact ⟨y :: r', by rw [h]; simp⟩
theorem more_tells (hn : nodes ≤ 4) {x : It} (hx : inU nodes x) {f : Int → It} : ∀ {r : List Int} {l : List It}, (∀ n ∈ r, moreIt nodes x n = some (f n) ∧ inU nodes (f n)) → (∀ x ∈ l, inU nodes x) → apart l → moreL nodes x r l = (true, addAll l (r.map f))
  | [], l, h, h1, h2 => rfl
  | n :: r, l, h, h1, h2 => by
    obtain ⟨h3, h4⟩ := h n (by simp)
    unfold moreL
    rw [h3, List.map_cons]
    unfold addAll
    have hl := few_items hn h1 h2
    simp only
    by_cases ha : l.any (fun z => z.same (f n)) = true
    · rw [if_pos ha, if_pos ha]
      exact more_tells hn hx (fun n hn => h n (by simp [hn])) h1 h2
    · rw [if_neg ha, if_neg ha, if_neg (by omega)]
      have := add_in (r := [f n]) h1 h2 (by simpa using h4)
      unfold addAll at this
      rw [if_neg ha] at this
      unfold addAll at this
      exact more_tells hn hx (fun n hn => h n (by simp [hn])) this.1 this.2
theorem more_web (hn : 2 ≤ nodes ∧ nodes ≤ 4) {x : It} (hx : inU nodes x) {l : List It} (h1 : ∀ x ∈ l, inU nodes x) (h2 : apart l) :
    moreL nodes x (if x.inn then holdW w nodes x.id else insW w x.node x.id) l = (true, addAll l (tells nodes w x)) := by
  unfold tells
  cases hi : x.inn
  · rw [if_neg (by decide), if_neg (by decide)]
    refine more_tells hn.2 hx (fun s hs => ?_) h1 h2
    have hs' := ins_in hs
    have hu : inU nodes (⟨true, x.node, ⟨x.node, s⟩, 0⟩ : It) := (tells_in (w := w) hx (y := ⟨true, x.node, ⟨x.node, s⟩, 0⟩) (by unfold tells; rw [hi, if_neg (by decide)]; exact List.mem_map.2 ⟨s, hs, rfl⟩)).1
    refine ⟨?_, hu⟩
    unfold moreIt
    rw [if_neg (by omega), if_neg (by omega), hi, if_neg (by decide)]
  · rw [if_pos rfl, if_pos rfl]
    refine more_tells hn.2 hx (fun n hn' => ?_) h1 h2
    obtain ⟨n1, n2, n3⟩ := hold_in hn'
    have hu : inU nodes (⟨false, n, x.id, 0⟩ : It) := (tells_in (w := w) hx (y := ⟨false, n, x.id, 0⟩) (by unfold tells; rw [hi, if_pos rfl]; exact List.mem_map.2 ⟨n, hn', rfl⟩)).1
    refine ⟨?_, hu⟩
    unfold moreIt
    rw [if_neg (by omega), if_neg (by omega), hi, if_pos rfl, if_neg (by omega), if_neg n3]
end
end Go.Proofs.Ytknejebggegfjaa

namespace Go.Proofs.Ytknejebggegfjaa
set_option linter.unusedSimpArgs false
set_option linter.unusedVariables false
open Go
/-- At the i-th question. -/
structure Wi (nodes : Int) (w : Web) (i : Nat) (t : Tr) : Prop where
  ok : t.ok nodes
  node : t.node = 1
  num : t.num = 1
  sw : t.st ≠ 0 → t.sent = 0 ∧ t.wait = 0
  opn : t.st ≠ 0 → t.opn = i
  us : ∀ x ∈ t.items, inU nodes x
  ap : apart t.items
  sm : ∀ e ∈ t.sm, e.2 = 10 + e.1
  two : t.st = 2 → (∀ n ∈ t.todo, mlook t.sm n = some (10 + n)) ∧ i + t.todo.length ≤ t.items.length + 4
  three : t.st = 3 → i + t.todo.length ≤ 2 * t.items.length + 4
def isLive (w : Web) (x : It) : Bool := amongW w.live (numW x.inn x.node x.id)
def isGone (w : Web) (x : It) : Bool := amongW w.gone (numW x.inn x.node x.id)
section
variable {nodes : Int} {w : Web} {t : Tr} {m : Ms} {i : Nat}
theorem Wi.lt (hn : nodes ≤ 4) (h : Wi nodes w i t) (h0 : t.st ≠ 0) : i < 292 := by
  have hf := few_items hn h.us h.ap
  have hs := h.ok.st
  by_cases h1 : t.st = 1
  · have := h.ok.one h1
    have := h.opn h0
    omega
  by_cases h2 : t.st = 2
  · have h3 := h.two h2
    have := List.length_pos_iff.2 (h.ok.two h2).1
    omega
  · have h3 := h.three (by omega)
    have := List.length_pos_iff.2 (h.ok.three (by omega)).1
    omega
theorem Wi.asks (h : Wi nodes w i t) (h0 : t.st ≠ 0) : t.asks 1099511627776 = true := by
  obtain ⟨h1, h2⟩ := h.sw h0
  unfold Tr.asks pastB
  rw [decide_eq_false h0, h1, h2]
  decide
theorem Wi.over (h : Wi nodes w i t) : Wi nodes w (i + 1) t.over :=
  ⟨Tr.over_ok, h.node, h.num, fun h => absurd rfl h, fun h => absurd rfl h, fun x hx => (by cases hx), List.Pairwise.nil, fun e he => (by cases he), fun h => absurd h (by simp [Tr.over]), fun h => absurd h (by simp [Tr.over])⟩
theorem Wi.finds' (h1 : t.node = 1) (h2 : t.num = 1) : Wi nodes w (i + 1) t.finds :=
  ⟨Tr.finds_ok, h1, h2, fun h => absurd rfl h, fun h => absurd rfl h, fun x hx => (by cases hx), List.Pairwise.nil, fun e he => (by cases he), fun h => absurd h (by simp [Tr.finds, Tr.over]), fun h => absurd h (by simp [Tr.finds, Tr.over])⟩
theorem next_opn (ho : t.opn = i) (hi : i < 100000) : t.next.opn = ((i + 1 : Nat) : Int) := by
  unfold Tr.next
  simp only
  rw [ho, wrap_i64 (by omega) (by omega)]
  omega
theorem apart_set {l : List It} {j : Nat} {c : Int} (h : apart l) : apart (l.set j { l.getD j noIt with code := c }) := by
  obtain ⟨y, hy⟩ : ∃ y, y = l.getD j noIt := ⟨_, rfl⟩
  rw [← hy]
  unfold apart at h ⊢
  rw [List.pairwise_iff_getElem] at h ⊢
  intro a b ha hb hab
  simp only [List.length_set] at ha hb
  have := h a b ha hb hab
  rw [List.getElem_set, List.getElem_set]
  have gd : ∀ (hj : j < l.length), y = l[j] := fun hj => by rw [hy, List.getD_eq_getElem?_getD, List.getElem?_eq_getElem hj]; rfl
  by_cases e1 : j = a
  · rw [if_pos e1, if_neg (by omega)]
    show y.same l[b] = false
    have e : y = l[a] := by subst e1; exact gd ha
    rw [e]
    exact this
  · rw [if_neg e1]
    by_cases e2 : j = b
    · rw [if_pos e2]
      show l[a].same y = false
      have e : y = l[b] := by subst e2; exact gd hb
      rw [e]
      exact this
    · rw [if_neg e2]
      exact this
theorem inU_code {x : It} {c : Int} (h : inU nodes x) : inU nodes { x with code := c } := h
theorem inU_set {l : List It} {j : Nat} {c : Int} (hj : j < l.length) (h : ∀ x ∈ l, inU nodes x) : ∀ x ∈ l.set j { l.getD j noIt with code := c }, inU nodes x := fun x hx => by
  rcases List.mem_or_eq_of_mem_set hx with hx | rfl
  · exact h x hx
  · have : l.getD j noIt ∈ l := by
      rw [List.getD_eq_getElem?_getD, List.getElem?_eq_getElem hj]
      exact List.getElem_mem _
    exact inU_code (h _ this)
/-- Onward, at the i-th. -/
theorem Wi.onward (hn : 2 ≤ nodes ∧ nodes ≤ 4) (ho : t.ok nodes) (h1 : t.st = 1) (hnd : t.node = 1) (hnm : t.num = 1) (hop : t.opn = i) (us : ∀ x ∈ t.items, inU nodes x) (ap : apart t.items) (sm : ∀ e ∈ t.sm, e.2 = 10 + e.1) : Wi nodes w (i + 1) t.onward := by
  have hf := few_items hn.2 us ap
  obtain ⟨o1, o2, o3⟩ := ho.one h1
  have hno := next_opn hop (by omega)
  have hok := ho.onward (by omega) h1
  unfold Tr.onward at hok ⊢
  by_cases hlt : t.next.opn < t.items.length
  · rw [if_pos hlt] at hok ⊢
    exact ⟨hok, hnd, hnm, fun _ => ⟨rfl, rfl⟩, fun _ => hno, us, ap, sm, fun h => absurd h (by show ¬ t.st = 2; omega), fun h => absurd h (by show ¬ t.st = 3; omega)⟩
  rw [if_neg hlt] at hok ⊢
  by_cases hz : t.sm.length = 0
  · rw [if_pos hz]
    exact Wi.finds' hnd hnm
  rw [if_neg hz] at hok ⊢
  have hk := keys_few (k := nodes.toNat) ho.sm fun e he => by have := ho.keys e he; omega
  have hl : (rise1 (t.sm.map (·.1))).length = t.sm.length := by rw [rise1_perm.length_eq, List.length_map]
  refine ⟨hok, hnd, hnm, fun _ => ⟨rfl, rfl⟩, fun _ => hno, us, ap, sm, fun _ => ⟨fun n hn' => ?_, ?_⟩, fun h => absurd h (by show ¬ (2 : Int) = 3; decide)⟩
  · have hm : n ∈ t.sm.map (·.1) := rise1_perm.mem_iff.1 hn'
    obtain ⟨e, he, rfl⟩ := List.mem_map.1 hm
    have := sm e he
    exact mlook_of ho.sm (by rw [← this]; exact he)
  · show i + 1 + (rise1 (t.sm.map (·.1))).length ≤ t.items.length + 4
    rw [hl]
    omega
/-- The question, and what is answered, while it asks. -/
theorem Wi.q1 (h : Wi nodes w i t) (h1 : t.st = 1) : t.q = ⟨8, 1, (t.items.getD i noIt).node, 1, if (t.items.getD i noIt).inn then 1 else 2, i, (t.items.getD i noIt).id, 0⟩ := by
  have ho := h.opn (by omega)
  unfold Tr.q
  rw [if_pos h1, h.node, h.num, ho, Int.toNat_natCast]
theorem ans1 {x : It} : ansW w nodes ⟨8, 1, x.node, 1, if x.inn then 1 else 2, i, x.id, 0⟩ =
    if isLive w x then ⟨9, x.node, 1, 1, i, 1, 10 + x.node, []⟩ else if isGone w x then ⟨9, x.node, 1, 1, i, 0, 10 + x.node, []⟩
    else ⟨9, x.node, 1, 1, i, 2, 10 + x.node, if x.inn then holdW w nodes x.id else insW w x.node x.id⟩ := by
  unfold ansW isLive isGone
  cases hx : x.inn <;> rfl
theorem Wi.mem (h : Wi nodes w i t) (h1 : t.st = 1) : i < t.items.length ∧ t.items.getD i noIt ∈ t.items := by
  have ho := h.opn (by omega)
  obtain ⟨o1, o2, o3⟩ := h.ok.one h1
  have hi : i < t.items.length := by omega
  refine ⟨hi, ?_⟩
  rw [List.getD_eq_getElem?_getD, List.getElem?_eq_getElem hi]
  exact List.getElem_mem _
theorem Wi.heeds1 (h : Wi nodes w i t) (h1 : t.st = 1) {c s : Int} {l : List Int} : t.heeds ⟨9, (t.items.getD i noIt).node, 1, 1, i, c, s, l⟩ = true := by
  unfold Tr.heeds
  rw [h.q1 h1, h1, h.node]
  simp
theorem Wi.hear1 (h : Wi nodes w i t) (h1 : t.st = 1) {c s : Int} {l : List Int} : t.hear nodes ⟨9, (t.items.getD i noIt).node, 1, 1, i, c, s, l⟩ = t.asked nodes c s l := by
  unfold Tr.hear
  rw [if_neg (by rw [h.heeds1 h1]; decide), if_pos h1]
/-- What comes of it. -/
def Tr.more1 (nodes : Int) (w : Web) (i : Nat) (t : Tr) : Tr :=
  { t with items := addAll (t.code 2).items (tells nodes w (t.items.getD i noIt)), sm := mput t.sm (t.items.getD i noIt).node (10 + (t.items.getD i noIt).node) }
theorem Wi.step1 (hn : 2 ≤ nodes ∧ nodes ≤ 4) (h : Wi nodes w i t) (h1 : t.st = 1) : t.heeds (ansW w nodes t.q) = true ∧
    t.hear nodes (ansW w nodes t.q) = if isLive w (t.items.getD i noIt) then t.over else if isGone w (t.items.getD i noIt) then (t.code 0).onward else (t.more1 nodes w i).onward := by
  obtain ⟨hi, hm⟩ := h.mem h1
  have ho := h.opn (by omega)
  have hx := h.us _ hm
  rw [h.q1 h1, ans1]
  by_cases hl : isLive w (t.items.getD i noIt) = true
  · rw [if_pos hl, if_pos hl, h.hear1 h1]
    exact ⟨h.heeds1 h1, by unfold Tr.asked; rw [if_neg (by decide), if_neg (by decide)]⟩
  rw [if_neg hl, if_neg hl]
  by_cases hg : isGone w (t.items.getD i noIt) = true
  · rw [if_pos hg, if_pos hg, h.hear1 h1]
    exact ⟨h.heeds1 h1, by unfold Tr.asked; rw [if_pos rfl]⟩
  rw [if_neg hg, if_neg hg, h.hear1 h1]
  refine ⟨h.heeds1 h1, ?_⟩
  have hto : t.opn.toNat = i := by omega
  unfold Tr.asked
  rw [if_neg (by decide), if_pos rfl, hto]
  have hsm : ¬ ((mlook t.sm (t.items.getD i noIt).node).isSome ∧ (mlook t.sm (t.items.getD i noIt).node).getD 0 ≠ 10 + (t.items.getD i noIt).node) := by
    rintro ⟨a, b⟩
    obtain ⟨v, hv⟩ := Option.isSome_iff_exists.1 a
    have := h.sm _ (mlook_mem hv)
    rw [hv] at b
    exact b this
  rw [if_neg hsm]
  have ec : (t.code 2).items = t.items.set i { t.items.getD i noIt with code := 2 } := by unfold Tr.code; rw [ho, Int.toNat_natCast]
  have hmo := more_web (w := w) hn hx (l := (t.code 2).items) (by rw [ec]; exact inU_set hi h.us) (by rw [ec]; exact apart_set h.ap)
  rw [hmo, if_neg (by simp)]
  rfl
theorem Wi.code (hn : 2 ≤ nodes ∧ nodes ≤ 4) (h : Wi nodes w i t) (h1 : t.st = 1) {c : Int} : Wi nodes w (i + 1) (t.code c).onward := by
  obtain ⟨hi, hm⟩ := h.mem h1
  have ho := h.opn (by omega)
  have ec : (t.code c).items = t.items.set i { t.items.getD i noIt with code := c } := by unfold Tr.code; rw [ho, Int.toNat_natCast]
  exact Wi.onward hn (Tr.code_ok h.ok h1) h1 h.node h.num ho (by rw [ec]; exact inU_set hi h.us) (by rw [ec]; exact apart_set h.ap) h.sm
theorem Wi.more1 (hn : 2 ≤ nodes ∧ nodes ≤ 4) (h : Wi nodes w i t) (h1 : t.st = 1) : (t.more1 nodes w i).ok nodes ∧ Wi nodes w (i + 1) (t.more1 nodes w i).onward := by
  obtain ⟨hi, hm⟩ := h.mem h1
  have ho := h.opn (by omega)
  have hx := h.us _ hm
  have ec : (t.code 2).items = t.items.set i { t.items.getD i noIt with code := 2 } := by unfold Tr.code; rw [ho, Int.toNat_natCast]
  have hadd := add_in (r := tells nodes w (t.items.getD i noIt)) (l := (t.code 2).items) (by rw [ec]; exact inU_set hi h.us) (by rw [ec]; exact apart_set h.ap) fun y hy => (tells_in hx hy).1
  have hf := few_items hn.2 hadd.1 hadd.2
  obtain ⟨r', hr'⟩ := add_grow (r := tells nodes w (t.items.getD i noIt)) (l := (t.code 2).items)
  obtain ⟨o1, o2, o3⟩ := h.ok.one h1
  have hxn : 1 ≤ (t.items.getD i noIt).node ∧ (t.items.getD i noIt).node ≤ nodes := h.ok.nds _ hm
  have hok : (t.more1 nodes w i).ok nodes := by
    refine ⟨h.ok.st, by show (addAll _ _).length ≤ 1000; omega, fun x hx' => ?_, mput_nod h.ok.sm _ _, fun e he => ?_, fun _ => ⟨o1, ?_, o3⟩, fun h2 => absurd h2 (by show ¬ t.st = 2; omega), fun h3 => absurd h3 (by show ¬ t.st = 3; omega)⟩
    · rcases hadd.1 x hx' with ⟨_, _, h3, _⟩ | ⟨_, h3, _⟩ <;> exact h3
    · rcases mput_in he with rfl | he
      · exact hxn
      · exact h.ok.keys e he
    · show t.opn < ((addAll _ _).length : Int)
      rw [hr', List.length_append, ec, List.length_set]
      omega
  refine ⟨hok, Wi.onward hn hok h1 h.node h.num ho hadd.1 hadd.2 fun e he => ?_⟩
  rcases mput_in he with rfl | he
  · rfl
  · exact h.sm e he
/-- While it checks. -/
theorem Wi.q2 (h : Wi nodes w i t) (h2 : t.st = 2) : t.q = ⟨8, 1, t.todo.getD 0 0, 1, 3, i, noId, 0⟩ := by
  have ho := h.opn (by omega)
  unfold Tr.q
  rw [if_neg (by omega), if_pos h2, h.node, h.num, ho]
theorem Wi.step2 (h : Wi nodes w i t) (h2 : t.st = 2) {l : List Int} {s : Int} : t.heeds ⟨9, t.todo.getD 0 0, 1, 1, i, 2, s, l⟩ = true ∧
    t.hear nodes ⟨9, t.todo.getD 0 0, 1, 1, i, 2, s, l⟩ = if s ≠ 10 + t.todo.getD 0 0 then t.over else if 1 < t.todo.length then { t.next with todo := t.todo.tail }
      else if (buryFrom 0 t.items).length = 0 then Tr.finds t.next else { t.next with todo := buryFrom 0 t.items, st := 3 } := by
  have hh : t.heeds ⟨9, t.todo.getD 0 0, 1, 1, i, 2, s, l⟩ = true := by
    unfold Tr.heeds
    rw [h.q2 h2, h2, h.node]
    simp
  refine ⟨hh, ?_⟩
  unfold Tr.hear
  rw [if_neg (by rw [hh]; decide), if_neg (by omega), if_pos h2]
  unfold Tr.checked
  have hpos := List.length_pos_iff.2 (h.ok.two h2).1
  have hmem : t.todo.getD 0 0 ∈ t.todo := by
    rw [List.getD_eq_getElem?_getD, List.getElem?_eq_getElem hpos]
    exact List.getElem_mem _
  rw [(h.two h2).1 _ hmem]
  rfl
theorem ans2 {n : Int} : ansW w nodes ⟨8, 1, n, 1, 3, i, noId, 0⟩ = ⟨9, n, 1, 1, i, 2, 10 + n, []⟩ := by
  unfold ansW
  rw [if_neg (show ¬ (8 : Int) = 10 by decide), if_pos (show (3 : Int) = 3 from rfl)]
theorem Wi.two1 (hn : nodes ≤ 4) (h : Wi nodes w i t) (h2 : t.st = 2) (hl : 1 < t.todo.length) : Wi nodes w (i + 1) { t.next with todo := t.todo.tail } := by
  have hi := h.lt hn (by omega)
  have hno := next_opn (h.opn (by omega)) (i := i) (by omega)
  have hok : Tr.ok nodes { t.next with todo := t.todo.tail } := by
    refine ⟨h.ok.st, h.ok.items, h.ok.nds, h.ok.sm, h.ok.keys, fun h3 => absurd h3 (by show ¬ t.st = 1; omega), fun _ => ⟨fun e => ?_, ?_⟩, fun h3 => absurd h3 (by show ¬ t.st = 3; omega)⟩
    · have := congrArg List.length e
      simp at this
      omega
    · have := (h.ok.two h2).2
      simp only [List.length_tail]
      omega
  have h3 := (h.two h2).2
  refine ⟨hok, h.node, h.num, fun _ => ⟨rfl, rfl⟩, fun _ => hno, h.us, h.ap, h.sm, fun _ => ⟨fun n hn' => (h.two h2).1 n (List.mem_of_mem_tail hn'), ?_⟩, fun h3 => absurd h3 (by show ¬ t.st = 3; omega)⟩
  show i + 1 + t.todo.tail.length ≤ t.items.length + 4
  rw [List.length_tail]
  omega
theorem Wi.two2 (hn : nodes ≤ 4) (h : Wi nodes w i t) (h2 : t.st = 2) (hl : ¬ 1 < t.todo.length) (hb : ¬ (buryFrom 0 t.items).length = 0) : Wi nodes w (i + 1) { t.next with todo := buryFrom 0 t.items, st := 3 } := by
  have hi := h.lt hn (by omega)
  have hno := next_opn (h.opn (by omega)) (i := i) (by omega)
  have hbl := bury_len (l := t.items) (k := 0)
  have hit := h.ok.items
  have hpos := List.length_pos_iff.2 (h.ok.two h2).1
  have h3 := (h.two h2).2
  have hok : Tr.ok nodes { t.next with todo := buryFrom 0 t.items, st := 3 } := by
    refine ⟨by simp, h.ok.items, h.ok.nds, h.ok.sm, h.ok.keys, fun h3 => absurd h3 (by simp), fun h3 => absurd h3 (by simp), fun _ => ⟨fun e => hb (by rw [show buryFrom 0 t.items = [] from e]; rfl), by simp only; omega, fun i hi => ?_⟩⟩
    have := bury_mem hi
    show 0 ≤ i ∧ i < (t.items.length : Int)
    omega
  refine ⟨hok, h.node, h.num, fun _ => ⟨rfl, rfl⟩, fun _ => hno, h.us, h.ap, h.sm, fun h3 => absurd h3 (by show ¬ (3 : Int) = 2; decide), fun _ => ?_⟩
  show i + 1 + (buryFrom 0 t.items).length ≤ 2 * t.items.length + 4
  omega
/-- While it buries. -/
theorem Wi.q3 (h : Wi nodes w i t) (h3 : t.st = 3) : t.q = ⟨10, 1, (t.items.getD (t.todo.getD 0 0).toNat noIt).node, 1, 0, i, (t.items.getD (t.todo.getD 0 0).toNat noIt).id, (mlook t.sm (t.items.getD (t.todo.getD 0 0).toNat noIt).node).getD 0⟩ := by
  have ho := h.opn (by omega)
  unfold Tr.q
  rw [if_neg (by omega), if_neg (by omega), h.node, h.num, ho]
theorem ans3 {n s : Int} {x : Id} : ansW w nodes ⟨10, 1, n, 1, 0, i, x, s⟩ = ⟨11, n, 1, 1, i, 0, 0, []⟩ := by
  unfold ansW
  rw [if_pos (show (10 : Int) = 10 from rfl)]
theorem Wi.step3 (h : Wi nodes w i t) (h3 : t.st = 3) : t.heeds (ansW w nodes t.q) = true ∧ t.hear nodes (ansW w nodes t.q) = t.buried := by
  rw [h.q3 h3, ans3]
  have hh : t.heeds ⟨11, (t.items.getD (t.todo.getD 0 0).toNat noIt).node, 1, 1, i, 0, 0, []⟩ = true := by
    unfold Tr.heeds
    rw [h.q3 h3, h3, h.node]
    simp
  refine ⟨hh, ?_⟩
  unfold Tr.hear
  rw [if_neg (by rw [hh]; decide), if_neg (by omega), if_neg (by omega)]
theorem Wi.three1 (hn : nodes ≤ 4) (h : Wi nodes w i t) (h3 : t.st = 3) : Wi nodes w (i + 1) t.buried := by
  have hi := h.lt hn (by omega)
  have hno := next_opn (h.opn (by omega)) (i := i) (by omega)
  have hok := h.ok.buried h3
  unfold Tr.buried at hok ⊢
  split
  · exact Wi.finds' h.node h.num
  · rename_i hl
    rw [if_neg hl] at hok
    have h4 := h.three h3
    refine ⟨hok, h.node, h.num, fun _ => ⟨rfl, rfl⟩, fun _ => hno, h.us, h.ap, h.sm, fun h2 => absurd h2 (by show ¬ t.st = 2; omega), fun _ => ?_⟩
    show i + 1 + t.todo.tail.length ≤ 2 * t.items.length + 4
    rw [List.length_tail]
    omega
/-- Whatever it asks, the web's answer is heard, and it goes on. -/
theorem Wi.step (hn : 2 ≤ nodes ∧ nodes ≤ 4) (h : Wi nodes w i t) (h0 : t.st ≠ 0) : t.heeds (ansW w nodes t.q) = true ∧ Wi nodes w (i + 1) (t.hear nodes (ansW w nodes t.q)) := by
  have hs := h.ok.st
  by_cases h1 : t.st = 1
  · obtain ⟨a, b⟩ := h.step1 hn h1
    refine ⟨a, ?_⟩
    rw [b]
    split
    · exact h.over
    · split
      · exact h.code hn h1
      · exact (h.more1 hn h1).2
  by_cases h2 : t.st = 2
  · rw [h.q2 h2, ans2]
    obtain ⟨a, b⟩ := h.step2 h2 (s := 10 + t.todo.getD 0 0) (l := [])
    refine ⟨a, ?_⟩
    rw [b, if_neg (fun h => h rfl)]
    split
    · rename_i hl; exact h.two1 hn.2 h2 hl
    · split
      · exact Wi.finds' h.node h.num
      · rename_i hl hb; exact h.two2 hn.2 h2 hl hb
  · have h3 : t.st = 3 := by omega
    obtain ⟨a, b⟩ := h.step3 h3
    refine ⟨a, ?_⟩
    rw [b]
    exact h.three1 hn.2 h3
theorem Wi.start (hn : 2 ≤ nodes ∧ nodes ≤ 4) : Wi nodes w 0 ((newTr 1 0).begun 2 7 0) := by
  refine ⟨Tr.begun_ok (by simp only [newTr]; omega), rfl, by rfl, fun _ => ⟨rfl, rfl⟩, fun _ => rfl, fun x hx => ?_, ?_, fun e he => (by cases he), fun h => absurd h (by simp [Tr.begun]), fun h => absurd h (by simp [Tr.begun])⟩
  · simp [Tr.begun, newTr] at hx
    rw [hx]
    refine .inr ⟨rfl, ⟨by decide, by simp only; omega⟩, by decide, ⟨by decide, hn.1⟩, .inr ⟨rfl, rfl, rfl⟩⟩
  · unfold apart
    simp [Tr.begun]
end
end Go.Proofs.Ytknejebggegfjaa

namespace Go.Proofs.Ytknejebggegfjaa
open Go
set_option linter.unusedVariables false
set_option maxRecDepth 100000
end Go.Proofs.Ytknejebggegfjaa

namespace Go.Proofs.Ytknejebggegfjaa
open Go
set_option linter.unusedVariables false
set_option maxRecDepth 100000
end Go.Proofs.Ytknejebggegfjaa

namespace Go.Proofs.Ytknejebggegfjaa
open Go
set_option linter.unusedVariables false
set_option maxRecDepth 100000
end Go.Proofs.Ytknejebggegfjaa

namespace Go.Proofs.Ytknejebggegfjaa
set_option linter.unusedSimpArgs false
set_option linter.unusedVariables false
set_option maxRecDepth 20000
open Go
/-- A message, whole. -/
structure Mg where
  m : Ms
  f4 : Int
  f5 : Int
  f6 : Int
  f8 : Int
  f9 : Int
  f11 : Int
  f13 : Int
  f14 : Int
  f15 : Int
  f16 : Int
  rp : Option Addr
  rl : Nat
  rc : Nat
  lp : Option Addr
  ll : Nat
  lc : Nat
def Mg.cells (g : Mg) : List Value := [.int .i64 g.m.kind, .int .i64 g.m.frm, .int .i64 g.m.to, .int .u64 g.m.call, .int .u64 g.f4, .int .i64 g.f5, .int .i64 g.f6, .int .i64 g.m.item, .int .i64 g.f8, .int .u64 g.f9, .slice g.rp g.rl g.rc, .int .u64 g.f11, .int .i64 g.m.code, .int .u64 g.f13, .int .i64 g.f14, .int .u64 g.f15, .int .i64 g.f16, .int .u64 g.m.stamp, .slice g.lp g.ll g.lc]
def Mg.val (g : Mg) : Value := .agg #[.int .i64 g.m.kind, .int .i64 g.m.frm, .int .i64 g.m.to, .int .u64 g.m.call, .int .u64 g.f4, .int .i64 g.f5, .int .i64 g.f6, .int .i64 g.m.item, .int .i64 g.f8, .int .u64 g.f9, .slice g.rp g.rl g.rc, .int .u64 g.f11, .int .i64 g.m.code, .int .u64 g.f13, .int .i64 g.f14, .int .u64 g.f15, .int .i64 g.f16, .int .u64 g.m.stamp, .slice g.lp g.ll g.lc]
abbrev SlT := Option Addr × Nat × Nat
def slW (t : SlT) : Value := .slice t.1 t.2.1 t.2.2
section
variable {H0 H : Hp} {L M N : List Prt} {i k tb : Nat} {c : Cf} {t : Tr} {w : Web} {K : Value → Hp → Prop} {ip op lp gp : Option Addr} {il ic ol oc ll lc gl gc : Nat}
end
end Go.Proofs.Ytknejebggegfjaa

namespace Go.Proofs.Ytknejebggegfjaa
open Go
set_option linter.unusedVariables false
set_option maxRecDepth 100000
end Go.Proofs.Ytknejebggegfjaa

namespace Go.Proofs.Ytknejebggegfjaa
open Go
set_option linter.unusedVariables false
set_option maxRecDepth 100000
end Go.Proofs.Ytknejebggegfjaa

namespace Go.Proofs.Ytknejebggegfjaa
open Go
set_option linter.unusedVariables false
set_option maxRecDepth 100000
end Go.Proofs.Ytknejebggegfjaa

namespace Go.Proofs.Ytknejebggegfjaa
set_option linter.unusedSimpArgs false
set_option linter.unusedVariables false
set_option maxRecDepth 20000
open Go
def wId (x : Id) : List Value := [.int .i64 x.n, .int .u64 x.s]
theorem wId_len (x : Id) : (wId x).length = 2 := rfl
section
variable {H0 H : Hp} {L M N : List Prt} {i k : Nat} {K : Value → Hp → Prop}
theorem id_one {l : List Id} : ∀ z ∈ cel wId l, one z = true := fun z hz => by
  unfold cel at hz
  rw [List.mem_flatten] at hz
  obtain ⟨x, hx, hz⟩ := hz
  obtain ⟨r, _, rfl⟩ := List.mem_map.1 hx
  simp [wId] at hz
  rcases hz with rfl | rfl <;> rfl
end
end Go.Proofs.Ytknejebggegfjaa
