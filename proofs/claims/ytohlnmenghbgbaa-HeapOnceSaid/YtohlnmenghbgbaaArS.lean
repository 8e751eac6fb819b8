/- The arena's calls as functions of what it holds; the program's and the document's both answer them. No condition. -/
import Derived.Test.YtohlnmenghbgbaaSt
import Derived.Test.YtohlnmenghbgbaaRArena5
namespace Go.Proofs.Ytohlnmenghbgbaa
set_option linter.unusedSimpArgs false
set_option linter.unusedVariables false
open Go

open Classical in
noncomputable def arFind (l : List Blk) (c : Nat) : Option (Nat × Nat) := if h : ∃ p : Nat × Nat, ArFits l c p.1 p.2 then some (Classical.choose h) else none
open Classical in
noncomputable def arPlace (l : List Blk) (cell : Int) : Option (Nat × Nat) := if h : ∃ p : Nat × Nat, AtPlace l cell p.1 p.2 then some (Classical.choose h) else none

theorem arFind_fits {l : List Blk} {c i k : Nat} (h : ArFits l c i k) : arFind l c = some (i, k) := by
  have hex : ∃ p : Nat × Nat, ArFits l c p.1 p.2 := ⟨(i, k), h⟩
  unfold arFind
  rw [dif_pos hex]
  have := (Classical.choose_spec hex).unique h
  exact congrArg some (Prod.ext this.1 this.2)
theorem arFind_no {l : List Blk} {c : Nat} (h : ArNoFit l c) : arFind l c = none := by
  unfold arFind
  rw [dif_neg fun ⟨p, hp⟩ => hp.notNo h]
theorem arFind_some {l : List Blk} {c : Nat} {p : Nat × Nat} (h : arFind l c = some p) : ArFits l c p.1 p.2 := by
  unfold arFind at h
  split at h
  · rename_i hex
    cases h
    exact Classical.choose_spec hex
  · cases h
theorem arPlace_at {l : List Blk} {cell : Int} {b k : Nat} (ho : allOk l) (h : AtPlace l cell b k) : arPlace l cell = some (b, k) := by
  have hex : ∃ p : Nat × Nat, AtPlace l cell p.1 p.2 := ⟨(b, k), h⟩
  unfold arPlace
  rw [dif_pos hex]
  have := AtPlace.unique ho (Classical.choose_spec hex) h
  exact congrArg some (Prod.ext this.1 this.2)
theorem arPlace_no {l : List Blk} {cell : Int} (h : ∀ b k, ¬ AtPlace l cell b k) : arPlace l cell = none := by
  unfold arPlace
  rw [dif_neg fun ⟨p, hp⟩ => h _ _ hp]
theorem arPlace_some {l : List Blk} {cell : Int} {p : Nat × Nat} (h : arPlace l cell = some p) : AtPlace l cell p.1 p.2 := by
  unfold arPlace at h
  split at h
  · rename_i hex
    cases h
    exact Classical.choose_spec hex
  · cases h

/-- What Alloc answers: the cell, how it went, what is left. -/
noncomputable def arAlloc (l : List Blk) (size : Int) : Int × Int × List Blk :=
  if clsOf size = 0 then (0, 1, l) else match arFind l (clsOf size) with
    | some p => (((16 * p.1 + p.2 * clsOf size : Nat) : Int), 0, tookAt l (clsOf size) p.1 p.2)
    | none => (0, 2, l)
noncomputable def arFree (l : List Blk) (cell : Int) : Int × List Blk := match arPlace l cell with
  | some p => (0, l.set p.1 (freed (l.getD p.1 noBlk) p.2))
  | none => (9, l)
noncomputable def arAt (l : List Blk) (cell : Int) : Int := match arPlace l cell with
  | some p => (l.getD p.1 noBlk).c
  | none => 0
def arRoom (l : List Blk) (size : Int) : Nat := if clsOf size = 0 then 0 else sumOf (roomOf (clsOf size)) l
def arUsed (l : List Blk) : Nat := sumOf usedOf l

structure ArOk (l : List Blk) : Prop where
  ok : allOk l
  len : l.length ≤ 256
theorem ArOk.alloc {l : List Blk} (h : ArOk l) (n : Int) : ArOk (arAlloc l n).2.2 := by
  unfold arAlloc
  split
  · exact h
  · rename_i hc
    cases hf : arFind l (clsOf n) with
    | none => exact h
    | some p => exact ⟨h.ok.took (clsOf_cls hc) (arFind_some hf), by rw [took_length]; exact h.len⟩
theorem ArOk.free {l : List Blk} (h : ArOk l) (n : Int) : ArOk (arFree l n).2 := by
  unfold arFree
  cases hf : arPlace l n with
  | none => exact h
  | some p => exact ⟨h.ok.free (arPlace_some hf), by simpa using h.len⟩
theorem ArOk.new {n : Nat} (h : n ≤ 256) : ArOk (List.replicate n noBlk) := ⟨allOk.new, by simpa using h⟩
theorem arAlloc_cell {l : List Blk} {n : Int} (h : ArOk l) : 0 ≤ (arAlloc l n).1 ∧ (arAlloc l n).1 < 4096 + 256 := by
  unfold arAlloc
  split
  · exact ⟨by show (0 : Int) ≤ 0; omega, by show (0 : Int) < _; omega⟩
  · rename_i hc
    have hs := (clsOf_cls hc).small
    cases hf : arFind l (clsOf n) with
    | none => exact ⟨by show (0 : Int) ≤ 0; omega, by show (0 : Int) < _; omega⟩
    | some p =>
      obtain ⟨h1, h2⟩ := arFind_some hf
      have hl := h.len
      have hk : p.2 ≤ 15 := by
        rcases h2 with ⟨_, h2, _⟩ | ⟨_, h2, _⟩ <;> omega
      have hm : p.2 * clsOf n ≤ 15 * 16 := Nat.mul_le_mul hk hs.2.1
      exact ⟨by show (0 : Int) ≤ ((16 * p.1 + p.2 * clsOf n : Nat) : Int); omega, by show ((16 * p.1 + p.2 * clsOf n : Nat) : Int) < _; omega⟩
theorem arAlloc_len {l : List Blk} {n : Int} : (arAlloc l n).2.2.length = l.length := by
  unfold arAlloc
  split
  · rfl
  · cases arFind l (clsOf n) with
    | none => rfl
    | some p => exact took_length
theorem arFree_len {l : List Blk} {n : Int} : (arFree l n).2.length = l.length := by
  unfold arFree
  cases arPlace l n with
  | none => rfl
  | some p => simp

section
variable {H0 H : Hp} {L : List Prt} {i a : Nat} {l : List Blk} {n : Int} {K : Value → Hp → Prop}

theorem sArNew_bad (hn : n < 16 ∨ 4096 < n ∨ Int.tmod n 16 ≠ 0) (hK : K (.tuple #[.pointer none, .int .i64 1]) H) : hcall PR f_arena_New ⟨[.int .i64 n]⟩ H K := arenaNew_bad hn hK
theorem sArNew (h : St H0 L H) {m : Nat} (h1 : 1 ≤ m) (h2 : m ≤ 256) (hK : ∀ a H', St H0 (Arn a (List.replicate m noBlk) :: L) H' → K (.tuple #[.pointer (some ⟨a, 0, none⟩), .int .i64 0]) H') :
    hcall PR f_arena_New ⟨[.int .i64 (16 * (m : Int))]⟩ H K := arenaNew_ok h1 h2 fun a F H' s g => hK a H' (h.new s g)
theorem sAlloc (h : St H0 L H) (hi : L[i]? = some (Arn a l)) (ho : ArOk l)
    (hK : ∀ H', St H0 (L.set i (Arn a (arAlloc l n).2.2)) H' → K (.tuple #[.int .i64 (arAlloc l n).1, .int .i64 (arAlloc l n).2.1]) H') : hcall PR f_arena_Arena_Alloc ⟨[.pointer (some ⟨a, 0, none⟩), .int .i64 n]⟩ H K := by
  obtain ⟨Fi, ha, up⟩ := h.at hi
  unfold arAlloc at hK
  refine Alloc_ok ha ho.ok ho.len (fun e => ?_) (fun e i' k' hf F' H' h' g' => ?_) fun e hn => ?_
  · rw [if_pos e] at hK
    exact hK H (by rw [List.set_self hi]; exact h)
  · rw [if_neg e, arFind_fits hf] at hK
    exact hK H' (up _ F' H' h' g')
  · rw [if_neg e, arFind_no hn] at hK
    exact hK H (by rw [List.set_self hi]; exact h)
theorem sFree (h : St H0 L H) (hi : L[i]? = some (Arn a l)) (ho : ArOk l)
    (hK : ∀ H', St H0 (L.set i (Arn a (arFree l n).2)) H' → K (.int .i64 (arFree l n).1) H') : hcall PR f_arena_Arena_Free ⟨[.pointer (some ⟨a, 0, none⟩), .int .i64 n]⟩ H K := by
  obtain ⟨Fi, ha, up⟩ := h.at hi
  unfold arFree at hK
  refine Free_ok ha ho.ok ho.len (fun e => ?_) fun b k hp F' H' h' g' => ?_
  · rw [arPlace_no e] at hK
    exact hK H (by rw [List.set_self hi]; exact h)
  · rw [arPlace_at ho.ok hp] at hK
    exact hK H' (up _ F' H' h' g')
theorem sUsed (h : St H0 L H) (hi : L[i]? = some (Arn a l)) (ho : ArOk l) (hK : K (.int .i64 (arUsed l)) H) : hcall PR f_arena_Arena_Used ⟨[.pointer (some ⟨a, 0, none⟩)]⟩ H K := by
  obtain ⟨Fi, ha, up⟩ := h.at hi
  exact Used_ok ha ho.ok ho.len hK

theorem sRArNew (h : St H0 L H) {m : Nat} (h1 : 1 ≤ m) (h2 : m ≤ 256) (hK : ∀ a H', St H0 (RArn a (List.replicate m noBlk) :: L) H' → K (.pointer (some ⟨a, 0, none⟩)) H') :
    hcall PR f_ref7_New ⟨[.int .i64 (16 * (m : Int))]⟩ H K := rArenaNew_ok h1 h2 fun a F H' s g => hK a H' (h.new s g)
theorem sRAlloc (h : St H0 L H) (hi : L[i]? = some (RArn a l)) (ho : ArOk l)
    (hK : ∀ H', St H0 (L.set i (RArn a (arAlloc l n).2.2)) H' → K (.tuple #[.int .i64 (arAlloc l n).1, .int .i64 (arAlloc l n).2.1]) H') : hcall PR f_ref7_Arena_Alloc ⟨[.pointer (some ⟨a, 0, none⟩), .int .i64 n]⟩ H K := by
  obtain ⟨Fi, ha, up⟩ := h.at hi
  unfold arAlloc at hK
  refine rAlloc_ok ha ho.ok ho.len (fun e => ?_) (fun e i' k' hf F' H' h' g' => ?_) fun e hn => ?_
  · rw [if_pos e] at hK
    exact hK H (by rw [List.set_self hi]; exact h)
  · rw [if_neg e, arFind_fits hf] at hK
    exact hK H' (up _ F' H' h' g')
  · rw [if_neg e, arFind_no hn] at hK
    exact hK H (by rw [List.set_self hi]; exact h)
theorem sRFree (h : St H0 L H) (hi : L[i]? = some (RArn a l)) (ho : ArOk l) (hn : n ≤ 9223372036854775807)
    (hK : ∀ H', St H0 (L.set i (RArn a (arFree l n).2)) H' → K (.int .i64 (arFree l n).1) H') : hcall PR f_ref7_Arena_Free ⟨[.pointer (some ⟨a, 0, none⟩), .int .i64 n]⟩ H K := by
  obtain ⟨Fi, ha, up⟩ := h.at hi
  unfold arFree at hK
  refine rFree_ok ha ho.ok ho.len hn (fun e => ?_) fun b k hp F' H' h' g' => ?_
  · rw [arPlace_no e] at hK
    exact hK H (by rw [List.set_self hi]; exact h)
  · rw [arPlace_at ho.ok hp] at hK
    exact hK H' (up _ F' H' h' g')
theorem sRAt (h : St H0 L H) (hi : L[i]? = some (RArn a l)) (ho : ArOk l) (hn : n ≤ 9223372036854775807) (hK : K (.int .i64 (arAt l n)) H) : hcall PR f_ref7_Arena_At ⟨[.pointer (some ⟨a, 0, none⟩), .int .i64 n]⟩ H K := by
  obtain ⟨Fi, ha, up⟩ := h.at hi
  unfold arAt at hK
  refine rAt_ok ha ho.ok ho.len hn (fun e => ?_) fun b k hp => ?_
  · rw [arPlace_no e] at hK
    exact hK
  · rw [arPlace_at ho.ok hp] at hK
    exact hK
theorem sRUsed (h : St H0 L H) (hi : L[i]? = some (RArn a l)) (ho : ArOk l) (hK : K (.int .i64 (arUsed l)) H) : hcall PR f_ref7_Arena_Used ⟨[.pointer (some ⟨a, 0, none⟩)]⟩ H K := by
  obtain ⟨Fi, ha, up⟩ := h.at hi
  exact rUsed_ok ha ho.ok ho.len hK
end

end Go.Proofs.Ytohlnmenghbgbaa
