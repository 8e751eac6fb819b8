/- Rows of elements of several cells. No condition. -/
import Derived.Test.YtohlnmenghbgbaaSt
namespace Go.Proofs.Ytohlnmenghbgbaa
set_option linter.unusedSimpArgs false
set_option linter.unusedVariables false
open Go

theorem flatten_single {α : Type} {g : α → Value} : ∀ {l : List α}, (l.map fun x => [g x]).flatten = l.map g
  | [] => rfl
  | x :: l => by simp [flatten_single (l := l)]

theorem flatten_get {k : Nat} : ∀ {xss : List (List Value)}, (∀ xs ∈ xss, xs.length = k) → ∀ {i j : Nat}, i < xss.length → j < k → xss.flatten[i * k + j]? = (xss[i]?.getD [])[j]?
  | [], _, i, j, hi, _ => absurd hi (Nat.not_lt_zero i)
  | xs :: xss, h, 0, j, _, hj => by
    have := h xs (by simp)
    rw [Nat.zero_mul, Nat.zero_add, List.flatten_cons, List.getElem?_append_left (by omega)]
    simp
  | xs :: xss, h, i + 1, j, hi, hj => by
    have h1 := h xs (by simp)
    have e : (i + 1) * k + j - xs.length = i * k + j := by rw [Nat.succ_mul]; omega
    rw [List.flatten_cons, List.getElem?_append_right (by rw [Nat.succ_mul]; omega), e, flatten_get (fun y hy => h y (by simp [hy])) (by simpa using hi) hj]
    simp

theorem flatten_len {k : Nat} : ∀ {xss : List (List Value)}, (∀ xs ∈ xss, xs.length = k) → xss.flatten.length = xss.length * k
  | [], _ => by simp
  | xs :: xss, h => by
    rw [List.flatten_cons, List.length_append, h xs (by simp), flatten_len fun y hy => h y (by simp [hy]), List.length_cons, Nat.succ_mul]
    omega

/-- Elements as cells. -/
def cel {α : Type} (g : α → List Value) (l : List α) : List Value := (l.map g).flatten

section
variable {α : Type} {g : α → List Value} {k : Nat}
theorem cel_len (hg : ∀ x, (g x).length = k) {l : List α} : (cel g l).length = l.length * k := by
  unfold cel
  rw [flatten_len (k := k) fun xs hx => by obtain ⟨x, _, rfl⟩ := List.mem_map.1 hx; exact hg x]
  simp
theorem cel_get (hg : ∀ x, (g x).length = k) {l : List α} {i j : Nat} (d : α) (hi : i < l.length) (hj : j < k) : (cel g l)[i * k + j]? = (g (l.getD i d))[j]? := by
  unfold cel
  rw [flatten_get (k := k) (fun xs hx => by obtain ⟨x, _, rfl⟩ := List.mem_map.1 hx; exact hg x) (by simpa using hi) hj]
  rw [List.getElem?_map, List.getElem?_eq_getElem hi, List.getD_eq_getElem?_getD, List.getElem?_eq_getElem hi]
  rfl
theorem cel_append {l m : List α} : cel g (l ++ m) = cel g l ++ cel g m := by simp [cel]
theorem cel_nil : cel g [] = [] := rfl
theorem cel_cons {x : α} {l : List α} : cel g (x :: l) = g x ++ cel g l := rfl
theorem cel_one {g : α → Value} {l : List α} : cel (fun x => [g x]) l = l.map g := flatten_single
theorem cel_map {β : Type} {f : β → α} {l : List β} : cel g (l.map f) = cel (fun x => g (f x)) l := by simp [cel, Function.comp_def]
theorem cel_take (hg : ∀ x, (g x).length = k) : ∀ {l : List α} {n : Nat}, (cel g l).take (n * k) = cel g (l.take n)
  | [], n => by simp [cel]
  | x :: l, 0 => by simp [cel]
  | x :: l, n + 1 => by
    have := cel_take hg (l := l) (n := n)
    rw [List.take_succ_cons, cel_cons, cel_cons, ← this, List.take_append]
    rw [List.take_of_length_le (by rw [hg, Nat.succ_mul]; omega), hg, Nat.succ_mul, Nat.add_sub_cancel]
theorem cel_drop (hg : ∀ x, (g x).length = k) : ∀ {l : List α} {n : Nat}, (cel g l).drop (n * k) = cel g (l.drop n)
  | [], n => by simp [cel]
  | x :: l, 0 => by simp
  | x :: l, n + 1 => by
    have := cel_drop hg (l := l) (n := n)
    rw [List.drop_succ_cons, cel_cons, ← this, List.drop_append]
    rw [List.drop_of_length_le (by rw [hg, Nat.succ_mul]; omega), hg, Nat.succ_mul, Nat.add_sub_cancel, List.nil_append]
/-- An element's cells are written one by one: this is one of them. -/
theorem cel_set (hg : ∀ x, (g x).length = k) {l : List α} {i : Nat} {y : α} (d : α) (hi : i < l.length) : cel g (l.set i y) = (cel g l).take (i * k) ++ g y ++ (cel g l).drop ((i + 1) * k) := by
  rw [cel_take hg, cel_drop hg, ← List.take_append_drop i (l.set i y)]
  have e : (l.set i y).drop i = y :: l.drop (i + 1) := by
    rw [List.drop_eq_getElem_cons (by simpa using hi), List.drop_set_of_lt (by omega)]
    simp
  rw [e, List.take_set_of_le (Nat.le_refl _), cel_append, cel_cons, List.append_assoc]

/-- Reading an element of several cells. -/
theorem idxS {H : Hp} {p : Option Addr} {n : Nat} {l : List α} {i : Int} {K : Addr → Prop} (hg : ∀ x, (g x).length = k) (d : α) (h : Rd H k p n (cel g l)) (hk0 : 0 < k) (h0 : 0 ≤ i) (hi : i < (n : Int))
    (hk : ∀ b o, p = some ⟨b, o, none⟩ → i.toNat < l.length → (∀ j, j < k → hcell H ⟨b, o + i.toNat * k + j, none⟩ = (g (l.getD i.toNat d))[j]?) → K ⟨b, o + i.toNat * k, none⟩) : idxA p n i k K := by
  have hlen := h.1
  rw [cel_len hg] at hlen
  have hl : l.length = n := Nat.eq_of_mul_eq_mul_right hk0 hlen
  have hlt : i.toNat < l.length := by omega
  refine idxA_of h h0 hi fun b o hp hc => hk b o hp hlt fun j hj => ?_
  rw [hc j hj, cel_get hg d hlt hj]
end

theorem Rd.len1 {H : Hp} {p : Option Addr} {n : Nat} {xs : List Value} (h : Rd H 1 p n xs) : xs.length = n := by have := h.1; omega
theorem Own.len1 {H : Hp} {p : Option Addr} {n cap : Nat} {xs : List Value} (h : Own H 1 p n cap xs) : xs.length = n := by have := h.1; omega

end Go.Proofs.Ytohlnmenghbgbaa
