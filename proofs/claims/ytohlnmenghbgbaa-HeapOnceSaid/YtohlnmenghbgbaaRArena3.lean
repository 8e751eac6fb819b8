/- The document's arena, run: At, Free. No condition. -/
import Derived.Test.YtohlnmenghbgbaaRArena2
namespace Go.Proofs.Ytohlnmenghbgbaa
set_option linter.unusedSimpArgs false
set_option linter.unusedVariables false
set_option linter.unnecessarySimpa false
open Go

theorem ldN_of {H : Hp} {b o : Nat} : ∀ {n i : Nat} {vs : List Value} {K : List Value → Prop}, vs.length = n → (∀ j, j < n → hcell H ⟨b, o + (i + j), none⟩ = vs[j]?) → K vs → ldN ⟨b, o, none⟩ H i n K
  | 0, i, vs, K, hl, _, hK => by
    obtain rfl : vs = [] := List.length_eq_zero_iff.1 hl
    exact hK
  | n + 1, i, [], K, hl, _, hK => by simp at hl
  | n + 1, i, v :: vs, K, hl, h, hK => by
    have h0 := h 0 (by omega)
    simp at h0
    unfold ldN
    rw [add_mk]
    refine ld_of h0 ?_
    refine ldN_of (i := i + 1) (by simpa using hl) (fun j hj => ?_) hK
    have := h (j + 1) (by omega)
    rw [show i + 1 + j = i + (j + 1) by omega, this]
    simp

theorem rAt_ok {a : Nat} {l : List Blk} {cell : Int} {F : Nat → Prop} {H : Hp} {K : Value → Hp → Prop} (h : (RArn a l).holds F H) (hok : allOk l) (hl : l.length ≤ 256) (hcell : cell ≤ 9223372036854775807)
    (hno : (∀ b k, ¬ AtPlace l cell b k) → K (.int .i64 0) H) (hyes : ∀ b k, AtPlace l cell b k → K (.int .i64 (l.getD b noBlk).c) H) : hcall PR f_ref7_Arena_At ⟨[.pointer (some ⟨a, 0, none⟩), .int .i64 cell]⟩ H K := by
  apply den_ref7_Arena_At
  unfold B_ref7_Arena_At
  simp only [nilP_mk, add_mk, Nat.zero_add]
  obtain ⟨x, h'⟩ := id h
  have e0 := Prt.one_cell h' (i := 0) (o := 0) rfl rfl
  have e1 := Prt.one_cell h' (i := 0) (o := 1) rfl rfl
  have r1 := Prt.row_rd h' (i := 1) rfl
  have r2 := Prt.row_rd h' (i := 2) rfl
  by_cases h0 : cell < 0
  · refine bif_pos h0 (hno fun b k hp => ?_)
    have := hp.at_
    omega
  refine bif_neg h0 ⟨by decide, ldSl_of e0 ?_⟩
  obtain ⟨n, rfl⟩ : ∃ n : Nat, cell = n := ⟨cell.toNat, by omega⟩
  have e2 : Int.tdiv (n : Int) 16 = ((n / 16 : Nat) : Int) := by rw [Int.tdiv_eq_ediv_of_nonneg (by omega)]; omega
  have e3 : Int.tmod (n : Int) 16 = ((n % 16 : Nat) : Int) := by rw [Int.tmod_eq_emod_of_nonneg (by omega)]; omega
  have w2 : IntKind.i64.wrap ((n / 16 : Nat) : Int) = ((n / 16 : Nat) : Int) := wrap_i64 (by omega) (by omega)
  simp only [e2, e3, w2]
  by_cases h1 : ((n / 16 : Nat) : Int) ≥ (l.length : Int)
  · refine bif_pos h1 (hno fun b k hp => ?_)
    have h2 := hp.at_
    have h3 := hp.lt
    obtain ⟨hc, _, _⟩ := (hok b h3).cls hp.c0
    have := place_split (b := b) hc hp.k1
    omega
  refine bif_neg h1 (ldSl_of e0 ⟨by decide, ?_⟩)
  have hb : n / 16 < l.length := by omega
  have hn : n = 16 * (n / 16) + n % 16 := by omega
  have hin : n % 16 < 16 := by omega
  generalize n / 16 = b at hb hn
  generalize n % 16 = i at hn hin
  refine idx1 (d := noBlk) r1 (by omega) (by omega) fun b' o hpp hcc => ldI_of hcc ?_
  simp only [Int.toNat_natCast] at hcc ⊢
  have hbok := hok b hb
  by_cases hc0 : (l.getD b noBlk).c = 0
  · refine bif_eq (by omega) (hno fun b' k hp => ?_)
    have h2 := hp.at_
    obtain ⟨hc, _, _⟩ := (hok b' hp.lt).cls hp.c0
    have h5 := place_split (b := b') hc hp.k1
    obtain rfl : b' = b := by omega
    exact hp.c0 hc0
  obtain ⟨hcls, ht, _⟩ := hbok.cls hc0
  have hs := hcls.small
  have hts := hbok.small
  refine bif_ne (by omega) ⟨by decide, by omega, ?_⟩
  have e4 : Int.tmod (i : Int) ((l.getD b noBlk).c : Int) = ((i % (l.getD b noBlk).c : Nat) : Int) := by rw [Int.tmod_eq_emod_of_nonneg (by omega)]; norm_cast
  have e5 : Int.tdiv (i : Int) ((l.getD b noBlk).c : Int) = ((i / (l.getD b noBlk).c : Nat) : Int) := by rw [Int.tdiv_eq_ediv_of_nonneg (by omega)]; norm_cast
  rw [e4]
  by_cases hm : i % (l.getD b noBlk).c = 0
  rotate_left
  · refine bif_neq (by omega) (hno fun b' k hp => ?_)
    have h2 := hp.at_
    obtain ⟨hc, _, _⟩ := (hok b' hp.lt).cls hp.c0
    have h5 := place_split (b := b') hc hp.k1
    obtain rfl : b' = b := by omega
    obtain rfl : i = k * (l.getD b' noBlk).c := by omega
    exact hm h5.2.2.1
  have hdiv : i / (l.getD b noBlk).c < 16 / (l.getD b noBlk).c := by
    rw [Nat.div_lt_iff_lt_mul (by omega)]
    omega
  have hik : i = i / (l.getD b noBlk).c * (l.getD b noBlk).c := by
    have := Nat.div_add_mod' i (l.getD b noBlk).c
    omega
  generalize hqd : i / (l.getD b noBlk).c = q at *
  have w5 : IntKind.i64.wrap (q : Int) = q := wrap_i64 (by omega) (by omega)
  rw [e5, w5]
  refine bif_neqf (by omega) (ldSl_of e1 ⟨by decide, by decide, by omega, idx16 r2 (by omega) (by omega) (by omega) (by omega) fun b' o hpp hct => ldB_of hct ?_⟩)
  simp only [Int.toNat_natCast]
  cases hbit : (l.getD b noBlk).t.testBit q
  · simp only [Bool.not_false, cond_true]
    refine hno fun b' k hp => ?_
    have h2 := hp.at_
    obtain ⟨hc, _, _⟩ := (hok b' hp.lt).cls hp.c0
    have h5 := place_split (b := b') hc hp.k1
    obtain rfl : b' = b := by omega
    have hi' : i = k * (l.getD b' noBlk).c := by omega
    rw [hi', h5.2.2.2] at hqd
    rw [← hqd, hp.bit] at hbit
    cases hbit
  · simp only [Bool.not_true, cond_false]
    refine hyes b q ⟨hb, hc0, hdiv, ?_, hbit⟩
    rw [← hik]
    omega

theorem falses16 {xs ys : List Bool} (hx : xs.length = 16) : PR.keyLits 2 ty_16_bool (xs.map Value.bool) = some (xs.map Lit.bool) := by
  rcases xs with _ | ⟨a0, _ | ⟨a1, _ | ⟨a2, _ | ⟨a3, _ | ⟨a4, _ | ⟨a5, _ | ⟨a6, _ | ⟨a7, _ | ⟨a8, _ | ⟨a9, _ | ⟨a10, _ | ⟨a11, _ | ⟨a12, _ | ⟨a13, _ | ⟨a14, _ | ⟨a15, _ | ⟨a16, xs⟩⟩⟩⟩⟩⟩⟩⟩⟩⟩⟩⟩⟩⟩⟩⟩⟩ <;> simp at hx
  have hu : PR.underlying ty_16_bool = some (.array 16 4) := by kernel_rfl
  have hu4 : PR.underlying 4 = some .bool := by kernel_rfl
  have hc : PR.cellsOf ty_16_bool = 16 := by kernel_rfl
  have hc4 : PR.cellsOf 4 = 1 := by kernel_rfl
  simp [Program.keyLits, hu, hu4, hc, hc4, List.range_succ]

end Go.Proofs.Ytohlnmenghbgbaa
