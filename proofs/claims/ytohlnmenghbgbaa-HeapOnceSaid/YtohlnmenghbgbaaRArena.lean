/- The document's arena, run. No condition. -/
import Derived.Test.YtohlnmenghbgbaaArOk
import Derived.Test.YtohlnmenghbgbaaAggEq
namespace Go.Proofs.Ytohlnmenghbgbaa
set_option linter.unusedSimpArgs false
set_option linter.unusedVariables false
set_option linter.unnecessarySimpa false
open Go

/-- All bits of all blocks, sixteen a block. -/
def flatB (l : List Blk) : List Value := (List.range (l.length * 16)).map fun j => .bool ((l.getD (j / 16) noBlk).t.testBit (j % 16))

theorem flatB_length {l : List Blk} : (flatB l).length = l.length * 16 := by simp [flatB]
theorem flatB_get {l : List Blk} {b i : Nat} (hb : b < l.length) (hi : i < 16) : (flatB l)[b * 16 + i]? = some (.bool ((l.getD b noBlk).t.testBit i)) := by
  unfold flatB
  rw [List.getElem?_map, List.getElem?_range (by omega), Option.map_some, show (b * 16 + i) / 16 = b by omega, show (b * 16 + i) % 16 = i by omega]
theorem flatB_set {l : List Blk} {b i : Nat} {B : Blk} {v : Bool} (hb : b < l.length) (hi : i < 16) (h : ∀ k, k < 16 → B.t.testBit k = if k = i then v else (l.getD b noBlk).t.testBit k) :
    (flatB l).set (b * 16 + i) (.bool v) = flatB (l.set b B) := by
  apply List.ext_getElem?
  intro j
  rw [List.getElem?_set]
  have hlen : (l.set b B).length = l.length := by simp
  by_cases hj : j < l.length * 16
  · have e : j = j / 16 * 16 + j % 16 := by omega
    have g1 := flatB_get (l := l) (b := j / 16) (i := j % 16) (by omega) (by omega)
    have g2 := flatB_get (l := l.set b B) (b := j / 16) (i := j % 16) (by omega) (by omega)
    rw [← e] at g1 g2
    rw [g1, g2, getD_set_blk hb, flatB_length]
    by_cases hbb : j / 16 = b
    · rw [if_pos hbb, h _ (by omega)]
      by_cases hii : j % 16 = i
      · rw [if_pos (by omega), if_pos hii]
        simp
        omega
      · rw [if_neg (by omega), if_neg hii, hbb]
    · rw [if_neg (by omega), if_neg hbb]
  · have n1 : (flatB l)[j]? = none := List.getElem?_eq_none (by rw [flatB_length]; omega)
    have n2 : (flatB (l.set b B))[j]? = none := List.getElem?_eq_none (by rw [flatB_length, hlen]; omega)
    rw [n1, n2, if_neg (by omega)]

def RArn (a : Nat) (l : List Blk) : Prt := Prt.ex fun (x : Option Addr × Nat × Option Addr × Nat × Nat) =>
  Prt.list [Prt.one a (.cells #[.slice x.1 l.length x.2.1, .slice x.2.2.1 l.length x.2.2.2.1] x.2.2.2.2 (0, 0)), Prt.row 1 x.1 l.length x.2.1 (l.map fun b => Value.int .i64 b.c), Prt.row 16 x.2.2.1 l.length x.2.2.2.1 (flatB l)]

theorem RArn.shut {a : Nat} {l : List Blk} {p p2 : Option Addr} {c c2 T : Nat} {F : Nat → Prop} {H : Hp}
    (h : (Prt.list [Prt.one a (.cells #[.slice p l.length c, .slice p2 l.length c2] T (0, 0)), Prt.row 1 p l.length c (l.map fun b => Value.int .i64 b.c), Prt.row 16 p2 l.length c2 (flatB l)]).holds F H) : (RArn a l).holds F H := ⟨⟨p, c, p2, c2, T⟩, h⟩

/-- A bit of a block. -/
theorem idx16 {H : Hp} {p : Option Addr} {l : List Blk} {b i : Int} {K : Addr → Prop} (h : Rd H 16 p l.length (flatB l)) (hb0 : 0 ≤ b) (hb : b < l.length) (hi0 : 0 ≤ i) (hi : i < 16)
    (hK : ∀ blk o, p = some ⟨blk, o, none⟩ → hcell H ⟨blk, o + (b.toNat * 16 + i.toNat), none⟩ = some (.bool ((l.getD b.toNat noBlk).t.testBit i.toNat)) → K ⟨blk, o + (b.toNat * 16 + i.toNat), none⟩) :
    idxA p l.length b 16 fun el => idxA (some el) 16 i 1 K := by
  refine idxA_of h hb0 hb fun blk o hp _ => ?_
  unfold idxA
  refine ⟨⟨hi0, hi⟩, ?_⟩
  rw [add_mk, Nat.mul_one, Nat.add_assoc]
  refine hK blk o hp ?_
  rw [h.cell hp (i := b.toNat * 16 + i.toNat) (by omega), flatB_get (by omega) (by omega)]

theorem flatB_new {n : Nat} : flatB (List.replicate n noBlk) = List.replicate (n * 16) (.bool false) := by
  apply List.ext_getElem?
  intro j
  by_cases hj : j < n * 16
  · have e : j = j / 16 * 16 + j % 16 := by omega
    have g := flatB_get (l := List.replicate n noBlk) (b := j / 16) (i := j % 16) (by simp; omega) (by omega)
    rw [← e] at g
    rw [g, List.getElem?_replicate, if_pos hj, List.getD_eq_getElem?_getD, List.getElem?_replicate, if_pos (by omega)]
    simp [noBlk]
  · rw [List.getElem?_eq_none (by rw [flatB_length]; simp; omega), List.getElem?_replicate, if_neg hj]

theorem make16 {n : Nat} {H : Hp} {K : Value → Hp → Prop} (h : n ≤ 256) (hK : ∀ p H', Own H' 16 p n n (List.replicate (n * 16) (.bool false)) → Goes Nothing H (blk p) H' → K (.slice p n n) H') :
    evW PR (Instr.makeSlice ty_S_16_bool (.int .i64 (n : Int)) (.int .i64 (n : Int))) H K := by
  have e47 : (2 : Int) ^ 47 = 140737488355328 := by decide
  have e62 : (2 : Int) ^ 62 = 4611686018427387904 := by decide
  refine mk_ty_S_16_bool (by omega) (by omega) (by omega) fun b cs hb hs hc => ?_
  have g := (Goes.alloc (o := .cells cs ty_16_bool (0, 0)) hb).less (F2 := blk (some ⟨b, 0, none⟩)) fun c h => (blk_some.1 h).symm
  refine hK _ _ ?_ g
  rw [Int.toNat_natCast] at hs hc
  have ho := Own.new (H := H) (b := b) (k := 16) (n := n) (c := cs) (e := ty_16_bool) hs
  have e1 : cs.toList = List.replicate (n * 16) (.bool false) := by
    apply List.ext_getElem?
    intro i
    rw [Array.getElem?_toList]
    by_cases hi : i < n * 16
    · rw [hc i hi, List.getElem?_replicate, if_pos hi]
      have : i % 16 < 16 := Nat.mod_lt _ (by omega)
      generalize i % 16 = m at this
      rcases m with _ | _ | _ | _ | _ | _ | _ | _ | _ | _ | _ | _ | _ | _ | _ | _ | m <;> first | rfl | omega
    · rw [Array.getElem?_eq_none (by omega), List.getElem?_replicate, if_neg hi]
  rw [e1] at ho
  exact ho

theorem rArenaNew_ok {n : Nat} {H : Hp} {K : Value → Hp → Prop} (h1 : 1 ≤ n) (h2 : n ≤ 256)
    (hK : ∀ a F H', (RArn a (List.replicate n noBlk)).holds F H' → Goes Nothing H F H' → K (.pointer (some ⟨a, 0, none⟩)) H') : hcall PR f_ref7_New ⟨[.int .i64 (16 * (n : Int))]⟩ H K := by
  apply den_ref7_New
  unfold B_ref7_New
  have e2 : Int.tdiv (16 * (n : Int)) 16 = n := by rw [Int.tdiv_eq_ediv_of_nonneg (by omega)]; omega
  refine ⟨by decide, by decide, ?_⟩
  have hw : IntKind.i64.wrap (n : Int) = n := wrap_i64 (by omega) (by omega)
  have e47 : (2 : Int) ^ 47 = 140737488355328 := by decide
  have e62 : (2 : Int) ^ 62 = 4611686018427387904 := by decide
  rw [e2, hw]
  constructor
  · refine mko_ty_Sint (by omega) (by omega) (by omega) fun p1 H1 o1 g1 => ?_
    rw [asSl_mk]
    refine make16 h2 fun p2 H2 o2 g2 => ?_
    rw [asSl_mk]
    intro b hb
    obtain ⟨F1, l1, k1⟩ := Prt.more (Prt.list_nil H) (Prt.row_holds o1) g1
    obtain ⟨F2, l2, k2⟩ := Prt.more l1 (Prt.row_holds o2) g2
    obtain ⟨F3, l3, k3⟩ := Prt.alloc (o := .cells #[.slice p1 n n, .slice p2 n n] ty_ref7_Arena (0, 0)) (Prt.flip l2) hb
    refine hK b F3 _ ⟨⟨p1, n, p2, n, ty_ref7_Arena⟩, ?_⟩ ((k1.trans k2).trans k3)
    have e3 := flatB_new (n := n)
    simp only [noBlk] at e3
    simpa [noBlk, e3] using l3
  · refine make16 h2 fun p2 H1 o1 g1 => ?_
    rw [asSl_mk]
    refine mko_ty_Sint (by omega) (by omega) (by omega) fun p1 H2 o2 g2 => ?_
    rw [asSl_mk]
    intro b hb
    obtain ⟨F1, l1, k1⟩ := Prt.more (Prt.list_nil H) (Prt.row_holds o1) g1
    obtain ⟨F2, l2, k2⟩ := Prt.more l1 (Prt.row_holds o2) g2
    obtain ⟨F3, l3, k3⟩ := Prt.alloc (o := .cells #[.slice p1 n n, .slice p2 n n] ty_ref7_Arena (0, 0)) l2 hb
    refine hK b F3 _ ⟨⟨p1, n, p2, n, ty_ref7_Arena⟩, ?_⟩ ((k1.trans k2).trans k3)
    have e3 := flatB_new (n := n)
    simp only [noBlk] at e3
    simpa [noBlk, e3] using l3

end Go.Proofs.Ytohlnmenghbgbaa
