/- The stack of package grey: what each of its functions does. No condition. -/
import Derived.Test.YtdeihhfhcnhmfaaDenT
import Derived.Test.YtdeihhfhcnhmfaaDenAll
namespace Go.Proofs.Ytdeihhfhcnhmfaa
set_option linter.unusedSimpArgs false
set_option linter.unusedVariables false
open Go

/-- A stack: its fields, its row. -/
def Stk (H : Hp) (b : Nat) (xs : List Value) (most : Int) (over : Bool) (F : Nat → Prop) : Prop :=
  ∃ p n cap T, H b = some (.cells #[.slice p n cap, .int .i64 most, .bool over] T (0, 0)) ∧ Own H 1 p n cap xs ∧ (∀ c, F c ↔ c = b ∨ blk p c) ∧ ¬ blk p b

theorem Stk.dom {H : Hp} {b : Nat} {xs : List Value} {most : Int} {over : Bool} {F : Nat → Prop} (h : Stk H b xs most over F) {c : Nat} (hc : F c) : H c ≠ none := by
  obtain ⟨p, n, cap, T, hb, hrow, hF, hne⟩ := h
  rcases (hF c).1 hc with rfl | e
  · rw [hb]; simp
  · exact hrow.dom e
theorem Stk.frame {H H' : Hp} {b : Nat} {xs : List Value} {most : Int} {over : Bool} {F : Nat → Prop} (h : Stk H b xs most over F) (hf : ∀ c, F c → H' c = H c) : Stk H' b xs most over F := by
  obtain ⟨p, n, cap, T, hb, hrow, hF, hne⟩ := h
  exact ⟨p, n, cap, T, by rw [hf b ((hF b).2 (.inl rfl))]; exact hb, hrow.frame fun c hc => hf c ((hF c).2 (.inr hc)), hF, hne⟩

theorem New_int_bad {m : Int} {H : Hp} {K : Value → Hp → Prop} (hm : m < 1 ∨ 64 < m) (hK : K (.tuple #[.pointer none, .int .i64 1]) H) : hcall PR f_grey_New_int ⟨[.int .i64 m]⟩ H K := by
  apply den_grey_New_int
  unfold B_grey_New_int
  by_cases h : m < 1
  · exact bif_pos h hK
  · exact bif_neg h (bif_pos (by omega) hK)
theorem New_int_ok {m : Int} {H : Hp} {K : Value → Hp → Prop} (h1 : 1 ≤ m) (h2 : m ≤ 64)
    (hK : ∀ b H' F, Stk H' b [] m false F → Keep (fun _ => False) H H' → (∀ c, F c → H c = none) → K (.tuple #[.pointer (some ⟨b, 0, none⟩), .int .i64 0]) H') : hcall PR f_grey_New_int ⟨[.int .i64 m]⟩ H K := by
  apply den_grey_New_int
  unfold B_grey_New_int
  refine bif_neg (by omega) (bif_neg (by omega) ?_)
  intro b hb
  exact hK b _ (fun c => c = b) ⟨none, 0, 0, _, upd_same, Own.nil 1, fun c => ⟨.inl, fun h => h.resolve_right blk_none⟩, blk_none⟩ (Keep.new hb _) (fun c e => by rw [e]; exact hb)

theorem Push_int_ok {H : Hp} {b : Nat} {l : List Int} {most : Int} {over : Bool} {F : Nat → Prop} {x : Int} {K : Value → Hp → Prop} (hs : Stk H b (l.map fun x => .int .i64 x) most over F) (hm : most ≤ 64)
    (hfull : most ≤ l.length → ∀ H', Stk H' b (l.map fun x => .int .i64 x) most true F → Keep F H H' → K (.bool false) H')
    (hroom : (l.length : Int) < most → ∀ H' F', Stk H' b ((l ++ [x]).map fun x => .int .i64 x) most over F' → Keep F H H' → (∀ c, F' c → F c ∨ H c = none) → K (.bool true) H') :
    hcall PR f_grey_Stack_int_Push ⟨[.pointer (some ⟨b, 0, none⟩), .int .i64 x]⟩ H K := by
  obtain ⟨p, n, cap, T, hb, hrow, hF, hne⟩ := hs
  have hn : l.length = n := by have := hrow.1; simpa using this
  apply den_grey_Stack_int_Push
  unfold B_grey_Stack_int_Push
  simp only [nilP_mk, add_mk]
  refine ldSl_of (hcell_blk hb rfl) (ldI_of (hcell_blk hb rfl) ?_)
  by_cases h : (n : Int) ≥ most
  · refine bif_pos h (st_of hb (by simp) ?_)
    refine hfull (by omega) _ ⟨p, n, cap, T, upd_same, hrow.frame fun c hc => upd_other fun e => hne (e ▸ hc), hF, hne⟩ (Keep.upd.mono fun c e => .inl ((hF c).2 (.inl e)))
  · refine bif_neg h (ldSl_of (hcell_blk hb rfl) ?_)
    intro b1 hb1
    have hbb1 : b ≠ b1 := fun e => by rw [← e, hb] at hb1; cases hb1
    have hfr : ∀ c, c ≠ b1 → upd H b1 (Obj.cells #[.int .i64 x] ty_int) c = H c := fun c hc => upd_other hc
    have hrow1 : Own (upd H b1 (.cells #[.int .i64 x] ty_int)) 1 p n cap (l.map fun x => .int .i64 x) := hrow.frame fun c hc => hfr c fun e => hrow.dom hc (e ▸ hb1)
    refine app_ty_Sint (ys := [.int .i64 x]) hrow1 (rd_new (by simp)) (by simp [one]) (by omega) fun p' cap' H2 ho2 hk2 hb2 => ?_
    have hb' : H2 b = some (.cells #[.slice p n cap, .int .i64 most, .bool over] T (0, 0)) := by
      rw [hk2.same b (by rw [hfr b hbb1, hb]; simp) hne, hfr b hbb1, hb]
    have hne' : ¬ blk p' b := fun e => (hb2 b e).elim hne fun e' => by rw [hfr b hbb1, hb] at e'; cases e'
    rw [asSl_mk]
    refine st_of hb' (by simp) ?_
    refine hroom (by omega) _ (fun c => c = b ∨ blk p' c) ⟨p', n + 1, cap', T, upd_same, ?_, fun c => Iff.rfl, hne'⟩ ?_ ?_
    · rw [List.map_append]
      exact ho2.frame fun c hc => upd_other fun e => hne' (e ▸ hc)
    · refine ((Keep.new hb1 F).trans (G := F) (hk2.mono fun c e => .inl ((hF c).2 (.inr e))) fun c e => .inl e).trans Keep.upd fun c e => .inl ((hF c).2 (.inl e))
    · intro c hc
      rcases hc with rfl | hc
      · exact .inl ((hF _).2 (.inl rfl))
      · rcases hb2 c hc with e | e
        · exact .inl ((hF _).2 (.inr e))
        · by_cases e' : c = b1
          · subst e'; exact .inr hb1
          · rw [hfr c e'] at e; exact .inr e

theorem Over_int_ok {H : Hp} {b : Nat} {xs : List Value} {most : Int} {over : Bool} {F : Nat → Prop} {K : Value → Hp → Prop} (hs : Stk H b xs most over F) (hK : K (.bool over) H) :
    hcall PR f_grey_Stack_int_Over ⟨[.pointer (some ⟨b, 0, none⟩)]⟩ H K := by
  obtain ⟨p, n, cap, T, hb, hrow, hF, hne⟩ := hs
  apply den_grey_Stack_int_Over
  unfold B_grey_Stack_int_Over
  simp only [nilP_mk, add_mk]
  exact ldB_of (hcell_blk hb rfl) hK

theorem Len_int_ok {H : Hp} {b : Nat} {xs : List Value} {most : Int} {over : Bool} {F : Nat → Prop} {K : Value → Hp → Prop} (hs : Stk H b xs most over F) (hK : K (.int .i64 xs.length) H) :
    hcall PR f_grey_Stack_int_Len ⟨[.pointer (some ⟨b, 0, none⟩)]⟩ H K := by
  obtain ⟨p, n, cap, T, hb, hrow, hF, hne⟩ := hs
  have hn : xs.length = n := by have := hrow.1; simpa using this
  apply den_grey_Stack_int_Len
  unfold B_grey_Stack_int_Len
  simp only [nilP_mk]
  rw [hn] at hK
  exact ldSl_of (hcell_blk hb rfl) hK

theorem Rest_int_ok {H : Hp} {b : Nat} {xs : List Value} {most : Int} {over : Bool} {F : Nat → Prop} {K : Value → Hp → Prop} (hs : Stk H b xs most over F)
    (hK : ∀ v H', Stk H' b xs most false F → Keep F H H' → K v H') : hcall PR f_grey_Stack_int_Rest ⟨[.pointer (some ⟨b, 0, none⟩)]⟩ H K := by
  obtain ⟨p, n, cap, T, hb, hrow, hF, hne⟩ := hs
  apply den_grey_Stack_int_Rest
  unfold B_grey_Stack_int_Rest
  simp only [nilP_mk, add_mk]
  refine st_of hb (by simp) (hK _ _ ⟨p, n, cap, T, upd_same, hrow.frame fun c hc => upd_other fun e => hne (e ▸ hc), hF, hne⟩ (Keep.upd.mono fun c e => .inl ((hF c).2 (.inl e))))

theorem Clear_int_ok {H : Hp} {b : Nat} {xs : List Value} {most : Int} {over : Bool} {F : Nat → Prop} {K : Value → Hp → Prop} (hs : Stk H b xs most over F)
    (hK : ∀ v H' F', Stk H' b [] most false F' → Keep F H H' → (∀ c, F' c → F c) → K v H') : hcall PR f_grey_Stack_int_Clear ⟨[.pointer (some ⟨b, 0, none⟩)]⟩ H K := by
  obtain ⟨p, n, cap, T, hb, hrow, hF, hne⟩ := hs
  apply den_grey_Stack_int_Clear
  unfold B_grey_Stack_int_Clear
  simp only [nilP_mk, add_mk]
  refine st_of hb (by simp) (st_of upd_same (by simp) ?_)
  refine hK _ _ (fun c => c = b) ⟨none, 0, 0, T, upd_same, Own.nil 1, fun c => ⟨.inl, fun h => h.resolve_right blk_none⟩, blk_none⟩ ?_ (fun c e => (hF c).2 (.inl e))
  exact Keep.trans (F := F) (Keep.upd.mono fun c e => .inl ((hF c).2 (.inl e))) Keep.upd fun c e => .inl ((hF c).2 (.inl e))

theorem Pop_int_none {H : Hp} {b : Nat} {most : Int} {over : Bool} {F : Nat → Prop} {K : Value → Hp → Prop} (hs : Stk H b [] most over F) (hK : K (.tuple #[.int .i64 0, .bool false]) H) :
    hcall PR f_grey_Stack_int_Pop ⟨[.pointer (some ⟨b, 0, none⟩)]⟩ H K := by
  obtain ⟨p, n, cap, T, hb, hrow, hF, hne⟩ := hs
  have hn : n = 0 := by have := hrow.1; simp at this; omega
  subst hn
  apply den_grey_Stack_int_Pop
  unfold B_grey_Stack_int_Pop
  simp only [nilP_mk, add_mk]
  exact ldSl_of (hcell_blk hb rfl) (bif_eq rfl hK)

theorem Pop_int_ok {H : Hp} {b : Nat} {l : List Int} {x : Int} {most : Int} {over : Bool} {F : Nat → Prop} {K : Value → Hp → Prop} (hs : Stk H b ((l ++ [x]).map fun x => .int .i64 x) most over F) (hm : (l.length : Int) < 2 ^ 62)
    (hK : ∀ H', Stk H' b (l.map fun x => .int .i64 x) most over F → Keep F H H' → K (.tuple #[.int .i64 x, .bool true]) H') :
    hcall PR f_grey_Stack_int_Pop ⟨[.pointer (some ⟨b, 0, none⟩)]⟩ H K := by
  obtain ⟨p, n, cap, T, hb, hrow, hF, hne⟩ := hs
  have hn : n = l.length + 1 := by have := hrow.1; simp at this; omega
  subst hn
  have hw : IntKind.i64.wrap (((l.length + 1 : Nat) : Int) - 1) = l.length := by
    have e : (2 : Int) ^ 62 = 4611686018427387904 := by decide
    rw [wrap_i64 (by omega) (by omega)]; omega
  apply den_grey_Stack_int_Pop
  unfold B_grey_Stack_int_Pop
  simp only [nilP_mk, hw]
  refine ldSl_of (hcell_blk hb rfl) (bif_ne (by omega) (ldSl_of (hcell_blk hb rfl) (ldSl_of (hcell_blk hb rfl) ?_)))
  simp only [hw]
  obtain ⟨h1, h2, h3⟩ := hrow
  refine idxA_of (Own.rd ⟨h1, h2, h3⟩) (by omega) (by omega) fun b1 o1 hp hc => ?_
  have hc0 : hcell H ⟨b1, o1 + l.length, none⟩ = some (.int .i64 x) := by
    have := hc 0 (by omega)
    simpa using this
  simp only [Int.toNat_natCast, Nat.mul_one]
  refine ldI_of hc0 (ldSl_of (hcell_blk hb rfl) (slc_to (by omega) (by omega) ?_))
  have hrow' : Own H 1 p l.length cap (l.map fun x => .int .i64 x) := by
    have := Own.take (m := l.length) ⟨h1, h2, h3⟩ (by omega)
    simpa using this
  rw [Int.toNat_natCast]
  refine st_of hb (by simp) (hK _ ⟨p, l.length, cap, T, upd_same, hrow'.frame fun c hc => upd_other fun e => hne (e ▸ hc), hF, hne⟩ (Keep.upd.mono fun c e => .inl ((hF c).2 (.inl e))))

theorem All_int_ok {H : Hp} {b : Nat} {l : List Int} {most : Int} {over : Bool} {F : Nat → Prop} {K : Value → Hp → Prop} (hs : Stk H b (l.map fun x => .int .i64 x) most over F) (hm : l.length ≤ 64)
    (hK : ∀ p n cap H', Own H' 1 p n cap (l.map fun x => .int .i64 x) → Keep (fun _ => False) H H' → (∀ c, blk p c → H c = none) → K (.slice p n cap) H') : hcall PR f_grey_Stack_int_All ⟨[.pointer (some ⟨b, 0, none⟩)]⟩ H K := by
  obtain ⟨p, n, cap, T, hb, hrow, hF, hne⟩ := hs
  have hn : l.length = n := by have := hrow.1; simpa using this
  apply den_grey_Stack_int_All
  unfold B_grey_Stack_int_All
  simp only [nilP_mk, asSl_mk]
  intro b1 hb1
  have hbb1 : b ≠ b1 := fun e => by rw [← e, hb] at hb1; cases hb1
  have hfr : ∀ c, c ≠ b1 → upd H b1 (Obj.cells #[] ty_int) c = H c := fun c hc => upd_other hc
  refine ldSl_of (hcell_blk (by rw [hfr b hbb1]; exact hb) rfl) ?_
  have hq : Rd (upd H b1 (Obj.cells #[] ty_int)) 1 p n (l.map fun x => .int .i64 x) := hrow.rd.frame fun c hc => hfr c fun e => hrow.dom hc (e ▸ hb1)
  refine app_ty_Sint (xs := []) (Own.new (by simp)) hq (by intro y hy; obtain ⟨x, _, rfl⟩ := List.mem_map.1 hy; rfl) (by omega) fun p' cap' H2 ho2 hk2 hb2 => ?_
  rw [asSl_mk]
  simp only [List.nil_append] at ho2
  refine hK _ _ _ _ ho2 ((Keep.new hb1 _).trans hk2 fun c e => .inr ?_) fun c hc => ?_
  · rw [← blk_some.1 e]; exact hb1
  · rcases hb2 c hc with e | e
    · rw [← blk_some.1 e]; exact hb1
    · by_cases e' : c = b1
      · subst e'; exact hb1
      · rw [hfr c e'] at e; exact e

theorem New_string_bad {m : Int} {H : Hp} {K : Value → Hp → Prop} (hm : m < 1 ∨ 64 < m) (hK : K (.tuple #[.pointer none, .int .i64 1]) H) : hcall PR f_grey_New_string ⟨[.int .i64 m]⟩ H K := by
  apply den_grey_New_string
  unfold B_grey_New_string
  by_cases h : m < 1
  · exact bif_pos h hK
  · exact bif_neg h (bif_pos (by omega) hK)
theorem New_string_ok {m : Int} {H : Hp} {K : Value → Hp → Prop} (h1 : 1 ≤ m) (h2 : m ≤ 64)
    (hK : ∀ b H' F, Stk H' b [] m false F → Keep (fun _ => False) H H' → (∀ c, F c → H c = none) → K (.tuple #[.pointer (some ⟨b, 0, none⟩), .int .i64 0]) H') : hcall PR f_grey_New_string ⟨[.int .i64 m]⟩ H K := by
  apply den_grey_New_string
  unfold B_grey_New_string
  refine bif_neg (by omega) (bif_neg (by omega) ?_)
  intro b hb
  exact hK b _ (fun c => c = b) ⟨none, 0, 0, _, upd_same, Own.nil 1, fun c => ⟨.inl, fun h => h.resolve_right blk_none⟩, blk_none⟩ (Keep.new hb _) (fun c e => by rw [e]; exact hb)

theorem Push_string_ok {H : Hp} {b : Nat} {l : List ByteArray} {most : Int} {over : Bool} {F : Nat → Prop} {x : ByteArray} {K : Value → Hp → Prop} (hs : Stk H b (l.map fun x => .string x) most over F) (hm : most ≤ 64)
    (hfull : most ≤ l.length → ∀ H', Stk H' b (l.map fun x => .string x) most true F → Keep F H H' → K (.bool false) H')
    (hroom : (l.length : Int) < most → ∀ H' F', Stk H' b ((l ++ [x]).map fun x => .string x) most over F' → Keep F H H' → (∀ c, F' c → F c ∨ H c = none) → K (.bool true) H') :
    hcall PR f_grey_Stack_string_Push ⟨[.pointer (some ⟨b, 0, none⟩), .string x]⟩ H K := by
  obtain ⟨p, n, cap, T, hb, hrow, hF, hne⟩ := hs
  have hn : l.length = n := by have := hrow.1; simpa using this
  apply den_grey_Stack_string_Push
  unfold B_grey_Stack_string_Push
  simp only [nilP_mk, add_mk]
  refine ldSl_of (hcell_blk hb rfl) (ldI_of (hcell_blk hb rfl) ?_)
  by_cases h : (n : Int) ≥ most
  · refine bif_pos h (st_of hb (by simp) ?_)
    refine hfull (by omega) _ ⟨p, n, cap, T, upd_same, hrow.frame fun c hc => upd_other fun e => hne (e ▸ hc), hF, hne⟩ (Keep.upd.mono fun c e => .inl ((hF c).2 (.inl e)))
  · refine bif_neg h (ldSl_of (hcell_blk hb rfl) ?_)
    intro b1 hb1
    have hbb1 : b ≠ b1 := fun e => by rw [← e, hb] at hb1; cases hb1
    have hfr : ∀ c, c ≠ b1 → upd H b1 (Obj.cells #[.string x] ty_string) c = H c := fun c hc => upd_other hc
    have hrow1 : Own (upd H b1 (.cells #[.string x] ty_string)) 1 p n cap (l.map fun x => .string x) := hrow.frame fun c hc => hfr c fun e => hrow.dom hc (e ▸ hb1)
    refine app_ty_Sstring (ys := [.string x]) hrow1 (rd_new (by simp)) (by simp [one]) (by omega) fun p' cap' H2 ho2 hk2 hb2 => ?_
    have hb' : H2 b = some (.cells #[.slice p n cap, .int .i64 most, .bool over] T (0, 0)) := by
      rw [hk2.same b (by rw [hfr b hbb1, hb]; simp) hne, hfr b hbb1, hb]
    have hne' : ¬ blk p' b := fun e => (hb2 b e).elim hne fun e' => by rw [hfr b hbb1, hb] at e'; cases e'
    rw [asSl_mk]
    refine st_of hb' (by simp) ?_
    refine hroom (by omega) _ (fun c => c = b ∨ blk p' c) ⟨p', n + 1, cap', T, upd_same, ?_, fun c => Iff.rfl, hne'⟩ ?_ ?_
    · rw [List.map_append]
      exact ho2.frame fun c hc => upd_other fun e => hne' (e ▸ hc)
    · refine ((Keep.new hb1 F).trans (G := F) (hk2.mono fun c e => .inl ((hF c).2 (.inr e))) fun c e => .inl e).trans Keep.upd fun c e => .inl ((hF c).2 (.inl e))
    · intro c hc
      rcases hc with rfl | hc
      · exact .inl ((hF _).2 (.inl rfl))
      · rcases hb2 c hc with e | e
        · exact .inl ((hF _).2 (.inr e))
        · by_cases e' : c = b1
          · subst e'; exact .inr hb1
          · rw [hfr c e'] at e; exact .inr e

theorem Over_string_ok {H : Hp} {b : Nat} {xs : List Value} {most : Int} {over : Bool} {F : Nat → Prop} {K : Value → Hp → Prop} (hs : Stk H b xs most over F) (hK : K (.bool over) H) :
    hcall PR f_grey_Stack_string_Over ⟨[.pointer (some ⟨b, 0, none⟩)]⟩ H K := by
  obtain ⟨p, n, cap, T, hb, hrow, hF, hne⟩ := hs
  apply den_grey_Stack_string_Over
  unfold B_grey_Stack_string_Over
  simp only [nilP_mk, add_mk]
  exact ldB_of (hcell_blk hb rfl) hK

theorem Len_string_ok {H : Hp} {b : Nat} {xs : List Value} {most : Int} {over : Bool} {F : Nat → Prop} {K : Value → Hp → Prop} (hs : Stk H b xs most over F) (hK : K (.int .i64 xs.length) H) :
    hcall PR f_grey_Stack_string_Len ⟨[.pointer (some ⟨b, 0, none⟩)]⟩ H K := by
  obtain ⟨p, n, cap, T, hb, hrow, hF, hne⟩ := hs
  have hn : xs.length = n := by have := hrow.1; simpa using this
  apply den_grey_Stack_string_Len
  unfold B_grey_Stack_string_Len
  simp only [nilP_mk]
  rw [hn] at hK
  exact ldSl_of (hcell_blk hb rfl) hK

theorem Rest_string_ok {H : Hp} {b : Nat} {xs : List Value} {most : Int} {over : Bool} {F : Nat → Prop} {K : Value → Hp → Prop} (hs : Stk H b xs most over F)
    (hK : ∀ v H', Stk H' b xs most false F → Keep F H H' → K v H') : hcall PR f_grey_Stack_string_Rest ⟨[.pointer (some ⟨b, 0, none⟩)]⟩ H K := by
  obtain ⟨p, n, cap, T, hb, hrow, hF, hne⟩ := hs
  apply den_grey_Stack_string_Rest
  unfold B_grey_Stack_string_Rest
  simp only [nilP_mk, add_mk]
  refine st_of hb (by simp) (hK _ _ ⟨p, n, cap, T, upd_same, hrow.frame fun c hc => upd_other fun e => hne (e ▸ hc), hF, hne⟩ (Keep.upd.mono fun c e => .inl ((hF c).2 (.inl e))))

theorem Clear_string_ok {H : Hp} {b : Nat} {xs : List Value} {most : Int} {over : Bool} {F : Nat → Prop} {K : Value → Hp → Prop} (hs : Stk H b xs most over F)
    (hK : ∀ v H' F', Stk H' b [] most false F' → Keep F H H' → (∀ c, F' c → F c) → K v H') : hcall PR f_grey_Stack_string_Clear ⟨[.pointer (some ⟨b, 0, none⟩)]⟩ H K := by
  obtain ⟨p, n, cap, T, hb, hrow, hF, hne⟩ := hs
  apply den_grey_Stack_string_Clear
  unfold B_grey_Stack_string_Clear
  simp only [nilP_mk, add_mk]
  refine st_of hb (by simp) (st_of upd_same (by simp) ?_)
  refine hK _ _ (fun c => c = b) ⟨none, 0, 0, T, upd_same, Own.nil 1, fun c => ⟨.inl, fun h => h.resolve_right blk_none⟩, blk_none⟩ ?_ (fun c e => (hF c).2 (.inl e))
  exact Keep.trans (F := F) (Keep.upd.mono fun c e => .inl ((hF c).2 (.inl e))) Keep.upd fun c e => .inl ((hF c).2 (.inl e))

theorem Pop_string_none {H : Hp} {b : Nat} {most : Int} {over : Bool} {F : Nat → Prop} {K : Value → Hp → Prop} (hs : Stk H b [] most over F) (hK : K (.tuple #[.string ⟨#[]⟩, .bool false]) H) :
    hcall PR f_grey_Stack_string_Pop ⟨[.pointer (some ⟨b, 0, none⟩)]⟩ H K := by
  obtain ⟨p, n, cap, T, hb, hrow, hF, hne⟩ := hs
  have hn : n = 0 := by have := hrow.1; simp at this; omega
  subst hn
  apply den_grey_Stack_string_Pop
  unfold B_grey_Stack_string_Pop
  simp only [nilP_mk, add_mk]
  exact ldSl_of (hcell_blk hb rfl) (bif_eq rfl hK)

theorem Pop_string_ok {H : Hp} {b : Nat} {l : List ByteArray} {x : ByteArray} {most : Int} {over : Bool} {F : Nat → Prop} {K : Value → Hp → Prop} (hs : Stk H b ((l ++ [x]).map fun x => .string x) most over F) (hm : (l.length : Int) < 2 ^ 62)
    (hK : ∀ H', Stk H' b (l.map fun x => .string x) most over F → Keep F H H' → K (.tuple #[.string x, .bool true]) H') :
    hcall PR f_grey_Stack_string_Pop ⟨[.pointer (some ⟨b, 0, none⟩)]⟩ H K := by
  obtain ⟨p, n, cap, T, hb, hrow, hF, hne⟩ := hs
  have hn : n = l.length + 1 := by have := hrow.1; simp at this; omega
  subst hn
  have hw : IntKind.i64.wrap (((l.length + 1 : Nat) : Int) - 1) = l.length := by
    have e : (2 : Int) ^ 62 = 4611686018427387904 := by decide
    rw [wrap_i64 (by omega) (by omega)]; omega
  apply den_grey_Stack_string_Pop
  unfold B_grey_Stack_string_Pop
  simp only [nilP_mk, hw]
  refine ldSl_of (hcell_blk hb rfl) (bif_ne (by omega) (ldSl_of (hcell_blk hb rfl) (ldSl_of (hcell_blk hb rfl) ?_)))
  simp only [hw]
  obtain ⟨h1, h2, h3⟩ := hrow
  refine idxA_of (Own.rd ⟨h1, h2, h3⟩) (by omega) (by omega) fun b1 o1 hp hc => ?_
  have hc0 : hcell H ⟨b1, o1 + l.length, none⟩ = some (.string x) := by
    have := hc 0 (by omega)
    simpa using this
  simp only [Int.toNat_natCast, Nat.mul_one]
  refine ldStr_of hc0 (ldSl_of (hcell_blk hb rfl) (slc_to (by omega) (by omega) ?_))
  have hrow' : Own H 1 p l.length cap (l.map fun x => .string x) := by
    have := Own.take (m := l.length) ⟨h1, h2, h3⟩ (by omega)
    simpa using this
  rw [Int.toNat_natCast]
  refine st_of hb (by simp) (hK _ ⟨p, l.length, cap, T, upd_same, hrow'.frame fun c hc => upd_other fun e => hne (e ▸ hc), hF, hne⟩ (Keep.upd.mono fun c e => .inl ((hF c).2 (.inl e))))

theorem All_string_ok {H : Hp} {b : Nat} {l : List ByteArray} {most : Int} {over : Bool} {F : Nat → Prop} {K : Value → Hp → Prop} (hs : Stk H b (l.map fun x => .string x) most over F) (hm : l.length ≤ 64)
    (hK : ∀ p n cap H', Own H' 1 p n cap (l.map fun x => .string x) → Keep (fun _ => False) H H' → (∀ c, blk p c → H c = none) → K (.slice p n cap) H') : hcall PR f_grey_Stack_string_All ⟨[.pointer (some ⟨b, 0, none⟩)]⟩ H K := by
  obtain ⟨p, n, cap, T, hb, hrow, hF, hne⟩ := hs
  have hn : l.length = n := by have := hrow.1; simpa using this
  apply den_grey_Stack_string_All
  unfold B_grey_Stack_string_All
  simp only [nilP_mk, asSl_mk]
  intro b1 hb1
  have hbb1 : b ≠ b1 := fun e => by rw [← e, hb] at hb1; cases hb1
  have hfr : ∀ c, c ≠ b1 → upd H b1 (Obj.cells #[] ty_string) c = H c := fun c hc => upd_other hc
  refine ldSl_of (hcell_blk (by rw [hfr b hbb1]; exact hb) rfl) ?_
  have hq : Rd (upd H b1 (Obj.cells #[] ty_string)) 1 p n (l.map fun x => .string x) := hrow.rd.frame fun c hc => hfr c fun e => hrow.dom hc (e ▸ hb1)
  refine app_ty_Sstring (xs := []) (Own.new (by simp)) hq (by intro y hy; obtain ⟨x, _, rfl⟩ := List.mem_map.1 hy; rfl) (by omega) fun p' cap' H2 ho2 hk2 hb2 => ?_
  rw [asSl_mk]
  simp only [List.nil_append] at ho2
  refine hK _ _ _ _ ho2 ((Keep.new hb1 _).trans hk2 fun c e => .inr ?_) fun c hc => ?_
  · rw [← blk_some.1 e]; exact hb1
  · rcases hb2 c hc with e | e
    · rw [← blk_some.1 e]; exact hb1
    · by_cases e' : c = b1
      · subst e'; exact hb1
      · rw [hfr c e'] at e; exact e

end Go.Proofs.Ytdeihhfhcnhmfaa
