/- The document's arena, run: Free, Room, Used. No condition. -/
import Derived.Test.YtohlnmenghbgbaaRArena3
namespace Go.Proofs.Ytohlnmenghbgbaa
set_option linter.unusedSimpArgs false
set_option linter.unusedVariables false
set_option linter.unnecessarySimpa false
open Go

set_option maxRecDepth 20000 in
theorem aggEq16 {xs : List Bool} {H : Hp} {K : Value → Prop} (hx : xs.length = 16) (hK : K (.bool (xs.all (!·)))) :
    evR PR (aggEq .eql ty_16_bool ⟨xs.map Value.bool⟩ #[.bool false, .bool false, .bool false, .bool false, .bool false, .bool false, .bool false, .bool false, .bool false, .bool false, .bool false, .bool false, .bool false, .bool false, .bool false, .bool false]) H K := by
  have hu : PR.underlying ty_16_bool = some (.array 16 4) := by kernel_rfl
  have hc : PR.cellsOf ty_16_bool = 16 := by kernel_rfl
  have h2 := falses16 (xs := List.replicate 16 false) (ys := []) (by simp)
  refine aggEq_ok (m := 2) (by kernel_rfl) (by omega) (by kernel_rfl) ?_ ?_ (falses16 (ys := []) hx) h2 fun r hr => ?_
  · simp [Value.formed, hu, hc, hx]
  · simp [Value.formed, hu, hc]
  · have : r = xs.all (!·) := by
      rw [Bool.eq_iff_iff, hr]
      constructor
      · intro h
        have hinj : xs = List.replicate 16 false := by
          apply List.map_inj_right (f := Lit.bool) (fun a b h => by cases h; rfl) |>.1 h
        rw [hinj]; rfl
      · intro h
        rw [List.all_eq_true] at h
        congr 1
        rw [List.eq_replicate_iff]
        exact ⟨hx, fun b hb => by simpa using h b hb⟩
    rw [this]
    exact hK

def bits16 (t : Nat) : List Bool := (List.range 16).map t.testBit
theorem bits16_zero {t : Nat} (h : t < 65536) : (bits16 t).all (!·) = decide (t = 0) := by
  rw [Bool.eq_iff_iff, decide_eq_true_eq, List.all_eq_true]
  constructor
  · intro hall
    apply Nat.eq_of_testBit_eq
    intro j
    rw [Nat.zero_testBit]
    by_cases hj : j < 16
    · have := hall (t.testBit j) (List.mem_map.2 ⟨j, List.mem_range.2 hj, rfl⟩)
      simpa using this
    · exact Nat.testBit_lt_two_pow (Nat.lt_of_lt_of_le h (by rw [show 65536 = 2 ^ 16 by rfl]; exact Nat.pow_le_pow_right (by omega) (by omega)))
  · rintro rfl b hb
    obtain ⟨j, _, rfl⟩ := List.mem_map.1 hb
    simp

theorem rFree_ok {a : Nat} {l : List Blk} {cell : Int} {F : Nat → Prop} {H : Hp} {K : Value → Hp → Prop} (h : (RArn a l).holds F H) (hok : allOk l) (hl : l.length ≤ 256) (hcell : cell ≤ 9223372036854775807)
    (hno : (∀ b k, ¬ AtPlace l cell b k) → K (.int .i64 9) H)
    (hyes : ∀ b k, AtPlace l cell b k → ∀ F' H', (RArn a (l.set b (freed (l.getD b noBlk) k))).holds F' H' → Goes F H F' H' → K (.int .i64 0) H') : hcall PR f_ref7_Arena_Free ⟨[.pointer (some ⟨a, 0, none⟩), .int .i64 cell]⟩ H K := by
  apply den_ref7_Arena_Free
  unfold B_ref7_Arena_Free
  refine rAt_ok h hok hl hcell (fun hp => ?_) fun b k hp => ?_
  · simp only [asI_mk']
    exact bif_eq rfl (hno hp)
  · have hc0 := hp.c0
    simp only [asI_mk', nilP_mk, add_mk, Nat.zero_add]
    obtain ⟨x, h'⟩ := id h
    have hlt := hp.lt
    have hbok := hok b hlt
    have hs := hbok.small
    obtain ⟨hcls, _, _⟩ := hbok.cls hc0
    have hcs := hcls.small
    have hk16 : k < 16 := by have := hp.k1; omega
    have hyes := hyes b k hp
    have hat := hp.at_
    have pl := place_split (b := b) hcls hp.k1
    have e1 := Prt.one_cell h' (i := 0) (o := 1) rfl rfl
    have r2 := Prt.row_rd h' (i := 2) rfl
    unfold freed at hyes
    generalize hbb : l.getD b noBlk = B at *
    have t1 : Int.tdiv cell 16 = (b : Int) := by rw [hat, Int.tdiv_eq_ediv_of_nonneg (by omega)]; omega
    have t2 : Int.tmod cell 16 = ((k * B.c : Nat) : Int) := by rw [hat, Int.tmod_eq_emod_of_nonneg (by omega)]; omega
    have t3 : Int.tdiv ((k * B.c : Nat) : Int) (B.c : Int) = (k : Int) := by rw [Int.tdiv_eq_ediv_of_nonneg (by omega), ← Int.natCast_ediv, pl.2.2.2]
    have w1 : IntKind.i64.wrap (b : Int) = b := wrap_i64 (by omega) (by omega)
    have w2 : IntKind.i64.wrap (k : Int) = k := wrap_i64 (by omega) (by omega)
    simp only [t1, t2, t3, w1, w2]
    refine bif_ne (by omega) ⟨by decide, ldSl_of e1 ⟨by decide, by omega, idx16 r2 (by omega) (by omega) (by omega) (by omega) fun b' o hpp hct => ?_⟩⟩
    simp only [Int.toNat_natCast]
    refine Prt.poke h' (i := 2) rfl hpp (by omega) fun F1 H1 h1 g1 => ?_
    have h2 : (RArn a (l.set b ⟨B.c, strike B.t k⟩)).holds F1 H1 := by
      refine RArn.shut (p := x.1) (p2 := x.2.2.1) (c := x.2.1) (c2 := x.2.2.2.1) (T := x.2.2.2.2) ?_
      rw [set_same (f := fun b => Value.int .i64 b.c) hlt (by rw [hbb]), ← flatB_set (v := false) (i := k) hlt hk16 fun y hy => by
        rw [hbb, testBit_strike hs.1 hk16]
        by_cases e : y = k
        · simp [e]
        · simp [e]]
      simpa using h1
    obtain ⟨y, h2'⟩ := id h2
    have hlen : (l.set b ⟨B.c, strike B.t k⟩).length = l.length := by simp
    have eg : (l.set b ⟨B.c, strike B.t k⟩).getD b noBlk = ⟨B.c, strike B.t k⟩ := by rw [getD_set_blk hlt, if_pos rfl]
    have r3 := Prt.row_rd h2' (i := 2) rfl
    refine ldSl_of (Prt.one_cell h2' (i := 0) (o := 1) rfl rfl) (idxA_of r3 (by omega) (by omega) fun b' o hpp hcc => ?_)
    simp only [Int.toNat_natCast] at hcc ⊢
    refine ldN_of (vs := (bits16 (strike B.t k)).map Value.bool) (by simp [bits16]) (fun j hj => ?_) ?_
    · rw [Nat.zero_add, hcc j hj, flatB_get (by omega) hj, eg]
      simp [bits16, hj]
    · refine aggEq16 (by simp [bits16]) ?_
      simp only [asB_mk]
      rw [bits16_zero (t := strike B.t k) (Nat.lt_of_le_of_lt (show strike B.t k ≤ B.t from Nat.and_le_left) hs.1)]
      by_cases hz : strike B.t k = 0
      · refine bif_pos hz (ldSl_of (Prt.one_cell h2' (i := 0) (o := 0) rfl rfl) (idx1 (d := noBlk) (Prt.row_rd h2' (i := 1) rfl) (by omega) (by omega) fun b' o hpp hcc => ?_))
        rw [Int.toNat_natCast]
        refine Prt.poke h2' (i := 1) rfl hpp (by omega) fun F3 H3 h3 g3 => ?_
        refine hyes F3 H3 ?_ (g1.trans g3)
        rw [if_pos hz]
        refine RArn.shut (p := y.1) (p2 := y.2.2.1) (c := y.2.1) (c2 := y.2.2.2.1) (T := y.2.2.2.2) ?_
        have a1 : (l.set b noBlk).map (fun b => Value.int .i64 b.c) = ((l.set b ⟨B.c, strike B.t k⟩).map fun b => Value.int .i64 b.c).set b (.int .i64 0) := by
          rw [List.map_set, List.map_set, List.set_set]; rfl
        have a2 : flatB (l.set b noBlk) = flatB (l.set b ⟨B.c, strike B.t k⟩) := by
          unfold flatB
          simp only [List.length_set]
          apply List.map_congr_left
          intro j hj
          rw [getD_set_blk hlt, getD_set_blk hlt]
          split
          · rw [hz]; rfl
          · rfl
        rw [a1, a2]
        simpa using h3
      · refine bif_neg hz (hyes F1 H1 ?_ g1)
        rw [if_neg hz]
        exact h2

end Go.Proofs.Ytohlnmenghbgbaa
