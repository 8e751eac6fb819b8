/- Merged by merge.py: Gph, Gph2. No condition. -/
import Derived.Test.YtflfodcemnapeaaGreatZHeap

namespace Go.Proofs.YtflfodcemnapeaaGreat
set_option linter.unusedSimpArgs false
set_option linter.unusedVariables false
open Go
/-- A graph, raw. -/
structure Gr where
 refs : List (List Int)
 out : List Bool
 inn : List Int
def slV (t : Option Addr × Nat × Nat) : Value := .slice t.1 t.2.1 t.2.2
structure GrA (H : Hp) (rp : Option Addr) (rl : Nat) (op : Option Addr) (ol : Nat) (ip : Option Addr) (il : Nat) (g : Gr) : Prop where
 rows : ∃ sl : List (Option Addr × Nat × Nat), Rd H 1 rp rl (sl.map slV) ∧ sl.length = g.refs.length ∧ ∀ (i : Nat) (t : Option Addr × Nat × Nat) (l : List Int), sl[i]? = some t → g.refs[i]? = some l → t.2.1 = l.length ∧ Rd H 1 t.1 t.2.1 (l.map (Value.int .i64))
 out : Rd H 1 op ol (g.out.map Value.bool)
 inn : Rd H 1 ip il (g.inn.map (Value.int .i64))
structure Gr.ok (g : Gr) : Prop where
 len : g.refs.length ≤ 9223372036854775807
 row : ∀ l ∈ g.refs, l.length ≤ 9223372036854775807 ∧ ∀ x ∈ l, IntKind.min .i64 ≤ x ∧ x ≤ IntKind.max .i64
 out : g.out.length ≤ 9223372036854775807
 inn : g.inn.length ≤ 9223372036854775807

def grOut (g : Gr) (i k : Nat) : Bool := if g.out.length = 0 then false else g.out.getD (pick (7 * (i : Int) + k) g.out.length).toNat false
def grTarget (g : Gr) (n : Int) (i k : Nat) : Id :=
 if Int.tmod ((g.refs.getD i []).getD k 0) 5 = 0 then noId
 else if grOut g i k then ⟨2 + pick ((g.refs.getD i []).getD k 0) 2, 1 + pick (Int.tdiv ((g.refs.getD i []).getD k 0) 2) 4⟩
 else ⟨1, 1 + pick ((g.refs.getD i []).getD k 0) n⟩
def grDist (g : Gr) (i : Nat) : Int := if g.inn.length = 0 then 0 else (if 0 < pick (g.inn.getD (i % g.inn.length) 0) 14 - 6 then pick (g.inn.getD (i % g.inn.length) 0) 14 - 6 else 0)
def grDeg (g : Gr) (i : Nat) : Nat := if 7 < (g.refs.getD i []).length then 7 else (g.refs.getD i []).length
def grSize (g : Gr) (most : Nat) : Nat := if most < g.refs.length then most else g.refs.length

theorem Pick_ok' {n m : Int} {H : Hp} {K : Value → Hp → Prop} (h0 : 0 < m) (h1 : m ≤ 9223372036854775807) (hK : K (.int .i64 (pick n m)) H) : hcall PR f_hand_Pick ⟨[.int .i64 n, .int .i64 m]⟩ H K := by
 apply den_hand_Pick
 unfold B_hand_Pick
 have hm : m ≠ 0 := by omega
 refine ⟨hm, ?_⟩
 have ht := @Int.tmod_eq_emod n m
 have e1 := Int.emod_nonneg n hm
 have e2 := Int.emod_lt_of_pos n h0
 unfold pick at hK
 by_cases hc : 0 ≤ n ∨ m ∣ n
 ·rw [if_pos hc, Int.natCast_zero, Int.sub_zero] at ht
  rw [ht]
  exact bif_neg (by omega) hK
 ·rw [if_neg hc] at ht
  have hab : ((m.natAbs : Nat) : Int) = m := by omega
  rw [hab] at ht
  rw [ht]
  refine bif_pos (by omega) ?_
  have e : n % m - m + m = n % m := by omega
  rw [e, wrap_i64 (by omega) (by omega)]
  exact hK

theorem grTarget_ok {g : Gr} {n : Int} (hn : 1 ≤ n ∧ n ≤ 64) {i k : Nat} : grTarget g n i k = noId ∨ (1 ≤ (grTarget g n i k).n ∧ (grTarget g n i k).n ≤ 3 ∧ 1 ≤ (grTarget g n i k).s ∧ (grTarget g n i k).s ≤ 64) := by
 unfold grTarget
 have p1 := pick_lt (n := (g.refs.getD i []).getD k 0) (m := 2) (by omega)
 have p2 := pick_lt (n := Int.tdiv ((g.refs.getD i []).getD k 0) 2) (m := 4) (by omega)
 have p3 := pick_lt (n := (g.refs.getD i []).getD k 0) (m := n) (by omega)
 split
 ·exact .inl rfl
 ·split
  ·exact .inr ⟨by show 1 ≤ 2 + _; omega, by show 2 + _ ≤ 3; omega, by show 1 ≤ 1 + _; omega, by show 1 + _ ≤ 64; omega⟩
  ·exact .inr ⟨Int.le_refl _, by show (1 : Int) ≤ 3; omega, by show 1 ≤ 1 + _; omega, by show 1 + _ ≤ 64; omega⟩
theorem grTarget_okId {g : Gr} {n : Int} (hn : 1 ≤ n ∧ n ≤ 64) {i k : Nat} : okId (grTarget g n i k) = true := by
 rw [okId_iff]
 rcases grTarget_ok (g := g) hn (i := i) (k := k) with h | h
 ·exact .inl h
 ·exact .inr (by omega)
theorem grDist_ok {g : Gr} {i : Nat} : 0 ≤ grDist g i ∧ grDist g i ≤ 7 := by
 unfold grDist
 split
 ·omega
 ·have := pick_lt (n := g.inn.getD (i % g.inn.length) 0) (m := 14) (by omega)
  split <;> omega

section
variable {H0 H : Hp} {L : List Prt} {K : Value → Hp → Prop} {rp op ip : Option Addr} {rl rc ol oc il ic : Nat} {g : Gr}
theorem GrA.len (ga : GrA H rp rl op ol ip il g) : rl = g.refs.length ∧ ol = g.out.length ∧ il = g.inn.length := by
 obtain ⟨sl, h1, h2, _⟩ := ga.rows
 have e1 := h1.1
 have e2 := ga.out.1
 have e3 := ga.inn.1
 simp at e1 e2 e3
 omega
theorem GrA.st (ga : GrA H0 rp rl op ol ip il g) (h : St H0 L H) : GrA H rp rl op ol ip il g := by
 obtain ⟨sl, h1, h2, h3⟩ := ga.rows
 exact ⟨⟨sl, h.rd h1, h2, fun i t l ht hl => ⟨(h3 i t l ht hl).1, h.rd (h3 i t l ht hl).2⟩⟩, h.rd ga.out, h.rd ga.inn⟩

theorem SizeC {most : Nat} (h : St H0 L H) (hl : rl = g.refs.length) (hK : ∀ H', St H0 L H' → K (.int .i64 (grSize g most)) H') :
  hcall PR f_hand_Graph_Size ⟨[.agg #[.slice rp rl rc, .slice op ol oc, .slice ip il ic], .int .i64 most]⟩ H K := by
 apply den_hand_Graph_Size
 unfold B_hand_Graph_Size
 intro b hb
 have h1 := h.alloc (o := .cells #[.slice rp rl rc, .slice op ol oc, .slice ip il ic] ty_hand_Graph) hb
 refine ldSl_of (h1.cell (i := 0) rfl rfl) ?_
 have hK := hK _ h1.less
 have e : ((grSize g most : Nat) : Int) = if (most : Int) < (rl : Int) then (most : Int) else (rl : Int) := by
  unfold grSize
  rw [hl]
  split
  ·rw [if_pos (by omega)]
  ·rw [if_neg (by omega)]
 rw [e] at hK
 exact hK

/-- The i-th row is read. -/
theorem GrA.row (ga : GrA H rp rl op ol ip il g) {i : Nat} (hi : i < g.refs.length) {Q : Addr → Prop}
  (hQ : ∀ a p c, hcell H a = some (.slice p (g.refs.getD i []).length c) → Rd H 1 p (g.refs.getD i []).length ((g.refs.getD i []).map (Value.int .i64)) → Q a) : idxA rp rl (i : Int) 1 Q := by
 obtain ⟨sl, h1, h2, h3⟩ := ga.rows
 have hl := ga.len.1
 refine idx1 (d := (none, 0, 0)) h1 (by omega) (by omega) fun b o _ hc => ?_
 rw [Int.toNat_natCast] at hc ⊢
 have e1 := List.getElem?_eq_getElem (show i < sl.length by omega)
 have e2 := List.getElem?_eq_getElem hi
 have e3 := h3 i _ _ e1 e2
 rw [List.getD_eq_getElem?_getD, e1] at hc
 have e4 : g.refs.getD i [] = g.refs[i] := by rw [List.getD_eq_getElem?_getD, e2]; rfl
 rw [e4] at hQ
 refine hQ _ sl[i].1 sl[i].2.2 ?_ ?_
 ·rw [hc, ← e3.1]; rfl
 ·have := e3.2
  rw [e3.1] at this
  exact this

theorem TargetC {n : Int} {i k : Nat} (h : St H0 L H) (ga : GrA H0 rp rl op ol ip il g) (gok : g.ok) (hi : i < g.refs.length) (hi64 : i ≤ 64) (hk : k < (g.refs.getD i []).length) (hk7 : k ≤ 64) (hn : 1 ≤ n ∧ n ≤ 64)
  (hK : ∀ H', St H0 L H' → K (.agg #[.int .i64 (grTarget g n i k).n, .int .u64 (grTarget g n i k).s]) H') :
  hcall PR f_hand_Graph_Target ⟨[.agg #[.slice rp rl rc, .slice op ol oc, .slice ip il ic], .int .i64 i, .int .i64 k, .int .i64 n]⟩ H K := by
 apply den_hand_Graph_Target
 unfold B_hand_Graph_Target
 intro b13 hb13
 have h1 := h.alloc (o := .cells #[.slice rp rl rc, .slice op ol oc, .slice ip il ic] ty_hand_Graph) hb13
 intro b15 hb15
 have h2 := h1.alloc (o := .cells #[.int .i64 0, .int .u64 0] ty_api_ID) hb15
 refine ldSl_of (h2.cell (i := 1) rfl rfl) ((ga.st h2).row hi fun a p c ha hr => ldSl_of ha ?_)
 refine idx1 (d := (0 : Int)) hr (by omega) (by omega) fun b o _ hc => ldI_of hc ?_
 rw [Int.toNat_natCast]
 have hraw : IntKind.min .i64 ≤ (g.refs.getD i []).getD k 0 ∧ (g.refs.getD i []).getD k 0 ≤ IntKind.max .i64 := by
  have e2 := List.getElem?_eq_getElem hi
  have e4 : g.refs.getD i [] = g.refs[i] := by rw [List.getD_eq_getElem?_getD, e2]; rfl
  rw [e4] at hk ⊢
  have e5 := List.getElem?_eq_getElem hk
  rw [List.getD_eq_getElem?_getD, e5]
  exact (gok.row _ (List.getElem_mem hi)).2 _ (List.getElem_mem hk)
 have hgt : grTarget g n i k = if Int.tmod ((g.refs.getD i []).getD k 0) 5 = 0 then noId else if grOut g i k then ⟨2 + pick ((g.refs.getD i []).getD k 0) 2, 1 + pick (Int.tdiv ((g.refs.getD i []).getD k 0) 2) 4⟩ else ⟨1, 1 + pick ((g.refs.getD i []).getD k 0) n⟩ := rfl
 generalize (g.refs.getD i []).getD k 0 = raw at *
 intro R26 hR26
 have hR26 : ∀ H', St H0 (Prt.one b15 (.cells #[.int .i64 0, .int .u64 0] ty_api_ID (0, 0)) :: Prt.one b13 (.cells #[.slice rp rl rc, .slice op ol oc, .slice ip il ic] ty_hand_Graph (0, 0)) :: L) H' → R26 (grOut g i k) H' := fun H' h' => by
  refine hR26 _ H' ⟨by decide, ?_⟩
  clear hR26
  by_cases h5 : Int.tmod raw 5 = 0
  ·refine bif_eq h5 (h'.put (i := 0) rfl (by simp) fun H3 h3 => h3.put (i := 0) rfl (by simp) fun H4 h4 => ldI_of (h4.cell (i := 0) rfl rfl) (ldI_of (h4.cell (i := 0) rfl rfl) ?_))
   rw [hgt, if_pos h5] at hK
   exact hK H4 h4.less.less
  ·rw [hgt, if_neg h5] at hK
   refine bif_ne h5 ?_
   have p1 := pick_lt (n := raw) (m := 2) (by omega)
   have p2 := pick_lt (n := Int.tdiv raw 2) (m := 4) (by omega)
   have p3 := pick_lt (n := raw) (m := n) (by omega)
   have m0 : IntKind.min .i64 = -9223372036854775808 := by decide
   have m1 : IntKind.max .i64 = 9223372036854775807 := by decide
   cases ho : grOut g i k
   ·rw [ho, if_neg (by decide)] at hK
    simp only [Zw]
    refine Pick_ok' (by omega) (by omega) ?_
    simp only [Za,Zb,Zc,Zd,Zf,Zh,Zi,Zk,Zl,Zm,Zn,Zo,Zp,Zr,Zs,Zx,Zt,Zu,Zy,Zz,Zv,Zw,ZA,ZB,ZC,ZD]
    refine h'.put (i := 0) rfl (by simp) fun H3 h3 => h3.put (i := 0) rfl (by simp) fun H4 h4 => ldI_of (h4.cell (i := 0) rfl rfl) (ldI_of (h4.cell (i := 0) rfl rfl) ?_)
    have w1 : IntKind.i64.wrap (1 + pick raw n) = 1 + pick raw n := wrap_i64 (by omega) (by omega)
    have w2 : IntKind.u64.wrap (1 + pick raw n) = 1 + pick raw n := wrap_u64' (by omega) (by omega)
    rw [w1, w2]
    exact hK H4 h4.less.less
   ·rw [ho, if_pos rfl] at hK
    simp only [Zv]
    refine Pick_ok' (by omega) (by omega) ?_
    simp only [Za,Zb,Zc,Zd,Zf,Zh,Zi,Zk,Zl,Zm,Zn,Zo,Zp,Zr,Zs,Zx,Zt,Zu,Zy,Zz,Zv,Zw,ZA,ZB,ZC,ZD]
    refine ⟨by decide, ?_⟩
    have hd : Int.tdiv raw 2 ≤ 9223372036854775807 ∧ -9223372036854775808 ≤ Int.tdiv raw 2 := by
     have e := Int.mul_tdiv_add_tmod raw 2
     have e1 : Int.tmod raw 2 = 0 ∨ Int.tmod raw 2 = 1 ∨ Int.tmod raw 2 = -1 := by
      have := @Int.tmod_eq_emod raw 2
      split at this <;> omega
     omega
    have w0 : IntKind.i64.wrap (Int.tdiv raw 2) = Int.tdiv raw 2 := wrap_i64 (by omega) (by omega)
    rw [w0]
    refine Pick_ok' (by omega) (by omega) ?_
    simp only [Za,Zb,Zc,Zd,Zf,Zh,Zi,Zk,Zl,Zm,Zn,Zo,Zp,Zr,Zs,Zx,Zt,Zu,Zy,Zz,Zv,Zw,ZA,ZB,ZC,ZD]
    refine h'.put (i := 0) rfl (by simp) fun H3 h3 => h3.put (i := 0) rfl (by simp) fun H4 h4 => ldI_of (h4.cell (i := 0) rfl rfl) (ldI_of (h4.cell (i := 0) rfl rfl) ?_)
    have w1 : IntKind.i64.wrap (2 + pick raw 2) = 2 + pick raw 2 := wrap_i64 (by omega) (by omega)
    have w2 : IntKind.i64.wrap (1 + pick (Int.tdiv raw 2) 4) = 1 + pick (Int.tdiv raw 2) 4 := wrap_i64 (by omega) (by omega)
    have w3 : IntKind.u64.wrap (1 + pick (Int.tdiv raw 2) 4) = 1 + pick (Int.tdiv raw 2) 4 := wrap_u64' (by omega) (by omega)
    rw [w1, w2, w3]
    exact hK H4 h4.less.less
 have hol := ga.len.2.1
 have hgo := gok.out
 refine ldSl_of (h2.cell (i := 1) rfl rfl) ?_
 by_cases hO : ((ol : Nat) : Int) > 0
 ·refine bif_pos hO (ldSl_of (h2.cell (i := 1) rfl rfl) (ldSl_of (h2.cell (i := 1) rfl rfl) ?_))
  have w1 : IntKind.i64.wrap (7 * (i : Int)) = 7 * i := wrap_i64 (by omega) (by omega)
  have w2 : IntKind.i64.wrap (7 * (i : Int) + k) = 7 * i + k := wrap_i64 (by omega) (by omega)
  rw [w1, w2]
  refine Pick_ok' (by omega) (by omega) ?_
  simp only [Za,Zb,Zc,Zd,Zf,Zh,Zi,Zk,Zl,Zm,Zn,Zo,Zp,Zr,Zs,Zx,Zt,Zu,Zy,Zz,Zv,Zw,ZA,ZB,ZC,ZD]
  have p1 := pick_lt (n := 7 * (i : Int) + k) (m := (ol : Int)) (by omega)
  refine ⟨ldSl_of (h2.cell (i := 1) rfl rfl) rfl, idx1 (d := false) (ga.st h2).out (by omega) (by omega) fun b o _ hc => ldB_of hc ?_⟩
  have e : grOut g i k = g.out.getD (pick (7 * (i : Int) + k) (ol : Int)).toNat false := by
   unfold grOut
   rw [if_neg (by omega), hol]
  rw [← e]
  exact hR26 _ h2
 ·refine bif_neg hO ?_
  have e : grOut g i k = false := by
   unfold grOut
   rw [if_pos (by omega)]
  have := hR26 _ h2
  rw [e] at this
  exact this

theorem DistC {i : Nat} (h : St H0 L H) (ga : GrA H0 rp rl op ol ip il g) (gok : g.ok) (hi : i ≤ 64) (hK : ∀ H', St H0 L H' → K (.int .i64 (grDist g i)) H') :
  hcall PR f_hand_Graph_Dist ⟨[.agg #[.slice rp rl rc, .slice op ol oc, .slice ip il ic], .int .i64 i]⟩ H K := by
 apply den_hand_Graph_Dist
 unfold B_hand_Graph_Dist
 intro b11 hb11
 have h1 := h.alloc (o := .cells #[.slice rp rl rc, .slice op ol oc, .slice ip il ic] ty_hand_Graph) hb11
 have hK := hK _ h1.less
 have hil := ga.len.2.2
 refine ldSl_of (h1.cell (i := 0) rfl rfl) ?_
 unfold grDist at hK
 by_cases h0 : g.inn.length = 0
 ·rw [if_pos h0] at hK
  exact bif_eq (by omega) hK
 ·rw [if_neg h0] at hK
  refine bif_ne (by omega) (ldSl_of (h1.cell (i := 0) rfl rfl) (ldSl_of (h1.cell (i := 0) rfl rfl) ⟨by omega, ?_⟩))
  have hm : Int.tmod (i : Int) (il : Int) = ((i % g.inn.length : Nat) : Int) := by
   rw [hil, Int.tmod_eq_emod_of_nonneg (by omega)]
   exact (Int.natCast_emod _ _).symm
  rw [hm]
  have hlt : i % g.inn.length < g.inn.length := Nat.mod_lt _ (by omega)
  refine idx1 (d := (0 : Int)) (ga.st h1).inn (by omega) (by omega) fun b o _ hc => ldI_of hc (Pick_ok (by omega) (by omega) ?_)
  rw [Int.toNat_natCast]
  simp only [Za,Zb,Zc,Zd,Zf,Zh,Zi,Zk,Zl,Zm,Zn,Zo,Zp,Zr,Zs,Zx,Zt,Zu,Zy,Zz,Zv,Zw,ZA,ZB,ZC,ZD]
  have := pick_lt (n := g.inn.getD (i % g.inn.length) 0) (m := 14) (by omega)
  rw [wrap_i64 (by omega) (by omega)]
  exact hK
end
end Go.Proofs.YtflfodcemnapeaaGreat

namespace Go.Proofs.YtflfodcemnapeaaGreat
set_option linter.unusedSimpArgs false
set_option linter.unusedVariables false
open Go
def gRefsAt (g : Gr) (n i m : Nat) : List Id := (List.range (grDeg g i)).map fun y => if y < m then grTarget g n i y else noId
def grRefs (g : Gr) (n i : Nat) : List Id := (List.range (grDeg g i)).map fun y => grTarget g n i y
theorem gRefsAt_len {g : Gr} {n i m : Nat} : (gRefsAt g n i m).length = grDeg g i := by simp [gRefsAt]
theorem grDeg_le {g : Gr} {i : Nat} : grDeg g i ≤ 7 ∧ grDeg g i ≤ (g.refs.getD i []).length := by unfold grDeg; split <;> omega
theorem gRefsAt_zero {g : Gr} {n i : Nat} : gRefsAt g n i 0 = List.replicate (grDeg g i) noId := by
 apply List.ext_getElem?
 intro y
 by_cases h : y < grDeg g i <;> simp [gRefsAt, h]
theorem gRefsAt_all {g : Gr} {n i m : Nat} (h : grDeg g i ≤ m) : gRefsAt g n i m = grRefs g n i := by
 apply List.ext_getElem?
 intro y
 by_cases hy : y < grDeg g i
 ·simp [gRefsAt, grRefs, hy, show y < m by omega]
 ·simp [gRefsAt, grRefs, hy]
theorem gRefsAt_set {g : Gr} {n i m : Nat} (h : m < grDeg g i) : (gRefsAt g n i m).set m (grTarget g n i m) = gRefsAt g n i (m + 1) := by
 apply List.ext_getElem?
 intro y
 rw [List.getElem?_set]
 by_cases hy : y < grDeg g i
 ·by_cases e : m = y
  ·subst e
   simp [gRefsAt, hy]
  ·simp [gRefsAt, hy, e]
   by_cases h' : y < m
   ·rw [if_pos h', if_pos (by omega)]
   ·rw [if_neg h', if_neg (by omega)]
 ·simp [gRefsAt, hy]
  intro e
  omega

/-- The heap on its way. -/
structure GrMid (g : Gr) (n j k : Nat) (s : Hs) : Prop where
 ok : s.ok
 node : s.node = 1
 most : s.most = 64
 last : s.last = n
 len : s.obs.length = n
 room : 256 ≤ frees s.ar + n
 obs : ∀ i, i < n → ∃ c, s.obs[i]? = some ⟨i + 1, c, gRefsAt g n i (if i < j then 7 else if i = j then k else 0), [], if i < j then grDist g i else 0⟩
/-- The heap that a graph says. -/
structure GrHs (g : Gr) (n : Nat) (s : Hs) : Prop where
 ok : s.ok
 node : s.node = 1
 most : s.most = 64
 last : s.last = n
 len : s.obs.length = n
 room : 256 ≤ frees s.ar + n
 obs : ∀ i, i < n → ∃ c, s.obs[i]? = some ⟨i + 1, c, grRefs g n i, [], grDist g i⟩

theorem put_set {s : Hs} (ho : s.ok) {j : Nat} {o : Ob} (hj : s.obs[j]? = some o) (f : Ob → Ob) : (hPut s o.ser f).obs = s.obs.set j (f o) := map_if_set ho.rise hj

theorem GrMid.setRef {g : Gr} {n j k : Nat} {s : Hs} (h : GrMid g n j k s) (hn : 1 ≤ n ∧ n ≤ 64) (hj : j < n) (hk : k < grDeg g j) : GrMid g n j (k + 1) (hSetRef s ((j : Int) + 1) k (grTarget g n j k)).2.2 := by
 obtain ⟨c, hc⟩ := h.obs j hj
 rw [if_neg (by omega), if_pos rfl, if_neg (by omega)] at hc
 have hg := hGet_at h.ok hc
 have hg : hGet s ((j : Int) + 1) = some ⟨(j : Int) + 1, c, gRefsAt g n j k, [], 0⟩ := hg
 have hr : (hRef s ((j : Int) + 1) k).2 = 0 := by
  unfold hRef
  rw [hg]
  simp only
  rw [gRefsAt_len, if_pos (by omega)]
 have ok' := h.ok.setRef ((j : Int) + 1) k (grTarget g n j k)
 have e : (hSetRef s ((j : Int) + 1) k (grTarget g n j k)).2.2 = hPut s ((j : Int) + 1) fun o => { o with refs := o.refs.set (k : Int).toNat (grTarget g n j k) } := by
  unfold hSetRef
  rw [if_neg (by rw [grTarget_okId (by omega)]; decide), if_pos hr]
 rw [e] at ok' ⊢
 have hobs := put_set h.ok hc fun o => { o with refs := o.refs.set (k : Int).toNat (grTarget g n j k) }
 refine ⟨ok', h.node, h.most, h.last, by rw [show (hPut s ((j : Int) + 1) fun o => { o with refs := o.refs.set (k : Int).toNat (grTarget g n j k) }).obs = _ from hobs, List.length_set]; exact h.len, h.room, fun i hi => ?_⟩
 rw [show (hPut s ((j : Int) + 1) fun o => { o with refs := o.refs.set (k : Int).toNat (grTarget g n j k) }).obs = _ from hobs, List.getElem?_set]
 by_cases e2 : j = i
 ·subst e2
  rw [if_pos rfl, if_pos (by rw [h.len]; exact hi), if_neg (by omega), if_pos rfl, if_neg (by omega)]
  refine ⟨c, ?_⟩
  simp only [Int.toNat_natCast]
  rw [gRefsAt_set hk]
 ·rw [if_neg e2]
  obtain ⟨c', hc'⟩ := h.obs i hi
  rw [if_neg (Ne.symm e2)] at hc' ⊢
  exact ⟨c', hc'⟩
theorem GrMid.setIn {g : Gr} {n j k : Nat} {s : Hs} (h : GrMid g n j k s) (hj : j < n) (hk : grDeg g j ≤ k) : GrMid g n (j + 1) 0 (hSetIn s ((j : Int) + 1) (grDist g j)).2 := by
 obtain ⟨c, hc⟩ := h.obs j hj
 rw [if_neg (by omega), if_pos rfl, if_neg (by omega)] at hc
 have hg := hGet_at h.ok hc
 have hg : hGet s ((j : Int) + 1) = some ⟨(j : Int) + 1, c, gRefsAt g n j k, [], 0⟩ := hg
 have hd := grDist_ok (g := g) (i := j)
 have ok' := h.ok.setIn ((j : Int) + 1) (grDist g j)
 have e : (hSetIn s ((j : Int) + 1) (grDist g j)).2 = hPut s ((j : Int) + 1) fun o => { o with din := grDist g j } := by
  unfold hSetIn
  rw [if_neg (by omega), hg]
 rw [e] at ok' ⊢
 have hobs := put_set h.ok hc fun o => { o with din := grDist g j }
 refine ⟨ok', h.node, h.most, h.last, by rw [show (hPut s ((j : Int) + 1) fun o => { o with din := grDist g j }).obs = _ from hobs, List.length_set]; exact h.len, h.room, fun i hi => ?_⟩
 rw [show (hPut s ((j : Int) + 1) fun o => { o with din := grDist g j }).obs = _ from hobs, List.getElem?_set]
 by_cases e2 : j = i
 ·subst e2
  rw [if_pos rfl, if_pos (by rw [h.len]; exact hi), if_pos (by omega), if_pos (by omega)]
  refine ⟨c, ?_⟩
  simp only
  have h7 := (grDeg_le (g := g) (i := j)).1
  rw [gRefsAt_all hk, gRefsAt_all h7]
 ·rw [if_neg e2]
  obtain ⟨c', hc'⟩ := h.obs i hi
  refine ⟨c', ?_⟩
  rw [hc']
  by_cases h1 : i < j
  ·rw [if_pos h1, if_pos h1, if_pos (by omega), if_pos (by omega)]
  ·simp only [h1, Ne.symm e2, if_false, show ¬ i < j + 1 by omega, ite_self]
theorem GrMid.done {g : Gr} {n : Nat} {s : Hs} (h : GrMid g n n 0 s) : GrHs g n s :=
 ⟨h.ok, h.node, h.most, h.last, h.len, h.room, fun i hi => by
  obtain ⟨c, hc⟩ := h.obs i hi
  rw [if_pos hi, if_pos hi, gRefsAt_all grDeg_le.1] at hc
  exact ⟨c, hc⟩⟩

set_option maxRecDepth 20000 in
theorem HeapsC {H : Hp} {K : Value → Hp → Prop} {rp op ip : Option Addr} {rl rc ol oc il ic most : Nat} {g : Gr} (ga : GrA H rp rl op ol ip il g) (gok : g.ok) (hm : most ≤ 50)
  (hK : ∀ hb rb s H', GrHs g (grSize g most) s → St H [HeapP hb s, RHeap rb s] H' → K (.tuple #[.pointer (some ⟨hb, 0, none⟩), .pointer (some ⟨rb, 0, none⟩)]) H') :
  hcall PR f_hand_Graph_Heaps ⟨[.agg #[.slice rp rl rc, .slice op ol oc, .slice ip il ic], .int .i64 most]⟩ H K := by
 apply den_hand_Graph_Heaps
 unfold B_hand_Graph_Heaps
 intro b11 hb11
 have h1 := (St.start H).alloc (o := .cells #[.slice rp rl rc, .slice op ol oc, .slice ip il ic] ty_hand_Graph) hb11
 refine ldSl_of (h1.cell (i := 0) rfl rfl) (ldSl_of (h1.cell (i := 0) rfl rfl) (ldSl_of (h1.cell (i := 0) rfl rfl) (SizeC h1 ga.len.1 fun H2 h2 => ?_)))
 simp only [Za,Zb,Zc,Zd,Zf,Zh,Zi,Zk,Zl,Zm,Zn,Zo,Zp,Zr,Zs,Zx,Zt,Zu,Zy,Zz,Zv,Zw,ZA,ZB,ZC,ZD]
 have hn : grSize g most ≤ most ∧ grSize g most ≤ g.refs.length := by unfold grSize; split <;> omega
 generalize grSize g most = n at *
 refine hNewOk (m := 256) (by decide) (by decide) (by decide) (by decide) (by decide) h2 fun hb H3 h3 => ?_
 simp only [Za,Zb,Zc,Zd,Zf,Zh,Zi,Zk,Zl,Zm,Zn,Zo,Zp,Zr,Zs,Zx,Zt,Zu,Zy,Zz,Zv,Zw,ZA,ZB,ZC,ZD]
 refine rNewOk (m := 256) (by decide) (by decide) (by decide) (by decide) (by decide) h3 fun rb H4 h4 => ?_
 simp only [Za,Zb,Zc,Zd,Zf,Zh,Zi,Zk,Zl,Zm,Zn,Zo,Zp,Zr,Zs,Zx,Zt,Zu,Zy,Zz,Zv,Zw,ZA,ZB,ZC,ZD]
 refine bif_neqf rfl ?_
 refine ⟨fun i H' => ∃ (j : Nat) (s : Hs), i = j ∧ j ≤ n ∧ s.node = 1 ∧ s.most = 64 ∧ s.last = j ∧ s.obs.length = j ∧ 256 ≤ frees s.ar + j ∧ (∀ i, i < j → ∃ c, s.obs[i]? = some ⟨i + 1, c, List.replicate (grDeg g i) noId, [], 0⟩) ∧
   St H [RHeap rb s, HeapP hb s, Prt.one b11 (.cells #[.slice rp rl rc, .slice op ol oc, .slice ip il ic] ty_hand_Graph (0, 0))] H', fun i _ => (n - i).toNat,
  ⟨0, _, rfl, by omega, rfl, rfl, rfl, rfl, by show 256 ≤ frees (List.replicate 256 noBlk) + 0; rw [frees_new]; omega, fun i hi => by omega, h4⟩, ?_⟩
 clear h1 h2 h3 h4
 rintro i H5 ⟨j, s, rfl, hj, e1, e2, e3, e4, e5, e6, h5⟩
 have hsok := heap_ok h5 (i := 1) rfl
 have d7 := grDeg_le (g := g) (i := j)
 by_cases hlt : (j : Int) < n
 ·refine bif_pos hlt (ldSl_of (h5.cell (i := 2) rfl rfl) ((ga.st h5).row (i := j) (by omega) fun a p c ha hr => ldSl_of ha ?_))
  have hd : (if 7 < (((g.refs.getD j []).length : Nat) : Int) then 7 else (((g.refs.getD j []).length : Nat) : Int)) = ((grDeg g j : Nat) : Int) := by
   unfold grDeg
   split
   ·rw [if_pos (by omega)]; rfl
   ·rw [if_neg (by omega)]
  rw [hd]
  have m0 : IntKind.min .i64 = -9223372036854775808 := by decide
  have m1 : IntKind.max .i64 = 9223372036854775807 := by decide
  obtain ⟨s', c', g0, g1, g2, g3, g4, g5, g6⟩ := hMake_good' (r := (grDeg g j : Int)) (v := 0) hsok (by omega) (by omega) (by omega) (by omega) (by omega)
  refine hMakeC h5 (i := 1) rfl (by omega) (by omega) fun H6 h6 => ?_
  rw [g0] at h6 ⊢
  simp only [Za,Zb,Zc,Zd,Zf,Zh,Zi,Zk,Zl,Zm,Zn,Zo,Zp,Zr,Zs,Zx,Zt,Zu,Zy,Zz,Zv,Zw,ZA,ZB,ZC,ZD]
  refine rMakeC h6 (i := 0) rfl (by omega) (by omega) fun H7 h7 => ?_
  rw [g0] at h7 ⊢
  simp only [Za,Zb,Zc,Zd,Zf,Zh,Zi,Zk,Zl,Zm,Zn,Zo,Zp,Zr,Zs,Zx,Zt,Zu,Zy,Zz,Zv,Zw,ZA,ZB,ZC,ZD]
  refine bif_neqf rfl (bif_neqf rfl ?_)
  rw [wrap_i64 (by omega) (by omega)]
  refine ⟨⟨j + 1, s', by omega, by omega, by rw [g3, e1], by rw [g2, e2], by omega, by rw [g4]; simp [e4], by omega, fun i hi => ?_, h7⟩, by (try dsimp only); omega⟩
  rw [g4]
  by_cases hij : i < j
  ·rw [List.getElem?_append_left (by omega)]
   exact e6 i hij
  ·obtain rfl : i = j := by omega
   rw [List.getElem?_append_right (by omega), e4, Nat.sub_self]
   refine ⟨c', ?_⟩
   rw [e3]
   simp
 obtain rfl : j = n := by omega
 refine bif_neg hlt ?_
 have hmid : GrMid g j 0 0 s := ⟨hsok, e1, e2, e3, e4, e5, fun i hi => by
  obtain ⟨c, hc⟩ := e6 i hi
  refine ⟨c, ?_⟩
  rw [hc]
  simp only [Nat.not_lt_zero, if_false, ite_self]
  rw [gRefsAt_zero]⟩
 refine ⟨fun i H' => ∃ (k : Nat) (s : Hs), i = k ∧ k ≤ j ∧ GrMid g j k 0 s ∧ St H [RHeap rb s, HeapP hb s, Prt.one b11 (.cells #[.slice rp rl rc, .slice op ol oc, .slice ip il ic] ty_hand_Graph (0, 0))] H', fun i _ => (j - i).toNat,
  ⟨0, s, rfl, by omega, hmid, h5⟩, ?_⟩
 clear h5 hmid e1 e2 e3 e4 e5 e6 hsok hlt d7 s
 rintro i H6 ⟨k, s, rfl, hk, hmid, h6⟩
 have d7 := grDeg_le (g := g) (i := k)
 by_cases hlt : (k : Int) < j
 rotate_left
 ·obtain rfl : k = j := by omega
  refine bif_neg hlt (hK hb rb s H6 hmid.done ?_)
  exact (h6.pick 3 [2, 1, 0] rfl rfl).less
 refine bif_pos hlt ?_
 have w1 : IntKind.i64.wrap ((k : Int) + 1) = k + 1 := wrap_i64 (by omega) (by omega)
 have w2 : IntKind.u64.wrap ((k : Int) + 1) = k + 1 := wrap_u64' (by omega) (by omega)
 intro R61 hR61
 have hR61 : ∀ s m H', grDeg g k ≤ m → GrMid g j k m s → St H [RHeap rb s, HeapP hb s, Prt.one b11 (.cells #[.slice rp rl rc, .slice op ol oc, .slice ip il ic] ty_hand_Graph (0, 0))] H' → R61 H' := fun s m H' hm hmid h' => by
  refine hR61 H' ?_
  clear hR61
  refine ldSl_of (h'.cell (i := 2) rfl rfl) (ldSl_of (h'.cell (i := 2) rfl rfl) (ldSl_of (h'.cell (i := 2) rfl rfl) (DistC h' ga gok (by omega) fun H7 h7 => ?_)))
  simp only [Za,Zb,Zc,Zd,Zf,Zh,Zi,Zk,Zl,Zm,Zn,Zo,Zp,Zr,Zs,Zx,Zt,Zu,Zy,Zz,Zv,Zw,ZA,ZB,ZC,ZD]
  rw [w1, w2]
  refine hSetInC h7 (i := 1) rfl fun H8 h8 => ?_
  simp only [Za,Zb,Zc,Zd,Zf,Zh,Zi,Zk,Zl,Zm,Zn,Zo,Zp,Zr,Zs,Zx,Zt,Zu,Zy,Zz,Zv,Zw,ZA,ZB,ZC,ZD]
  refine ldSl_of (h8.cell (i := 2) rfl rfl) (ldSl_of (h8.cell (i := 2) rfl rfl) (ldSl_of (h8.cell (i := 2) rfl rfl) (DistC h8 ga gok (by omega) fun H9 h9 => ?_)))
  simp only [Za,Zb,Zc,Zd,Zf,Zh,Zi,Zk,Zl,Zm,Zn,Zo,Zp,Zr,Zs,Zx,Zt,Zu,Zy,Zz,Zv,Zw,ZA,ZB,ZC,ZD]
  refine rSetInC h9 (i := 0) rfl fun H10 h10 => ?_
  simp only [Za,Zb,Zc,Zd,Zf,Zh,Zi,Zk,Zl,Zm,Zn,Zo,Zp,Zr,Zs,Zx,Zt,Zu,Zy,Zz,Zv,Zw,ZA,ZB,ZC,ZD]
  exact ⟨⟨k + 1, _, by omega, by omega, hmid.setIn (by omega) hm, h10⟩, by (try dsimp only); omega⟩
 refine ⟨fun m H' => ∃ (y : Nat) (s : Hs), m = y ∧ y ≤ grDeg g k ∧ GrMid g j k y s ∧ St H [RHeap rb s, HeapP hb s, Prt.one b11 (.cells #[.slice rp rl rc, .slice op ol oc, .slice ip il ic] ty_hand_Graph (0, 0))] H', fun m _ => (8 - m).toNat,
  ⟨0, s, rfl, by omega, hmid, h6⟩, ?_⟩
 clear h6 hmid s
 rintro m H7 ⟨y, s, rfl, hy, hmid, h7⟩
 refine ldSl_of (h7.cell (i := 2) rfl rfl) ((ga.st h7).row (i := k) (by omega) fun a p c ha hr => ldSl_of ha ?_)
 by_cases hl : (y : Int) < (((g.refs.getD k []).length : Nat) : Int)
 rotate_left
 ·exact bif_neg hl (hR61 s y H7 (by unfold grDeg; split <;> omega) hmid h7)
 refine bif_pos hl ?_
 by_cases h77 : (y : Int) < 7
 rotate_left
 ·exact bif_neg h77 (hR61 s y H7 (by omega) hmid h7)
 have hyd : y < grDeg g k := by unfold grDeg; split <;> omega
 refine bif_pos h77 (ldSl_of (h7.cell (i := 2) rfl rfl) (ldSl_of (h7.cell (i := 2) rfl rfl) (ldSl_of (h7.cell (i := 2) rfl rfl) (TargetC h7 ga gok (by omega) (by omega) (by omega) (by omega) (by omega) fun H8 h8 => ?_))))
 simp only [Za,Zb,Zc,Zd,Zf,Zh,Zi,Zk,Zl,Zm,Zn,Zo,Zp,Zr,Zs,Zx,Zt,Zu,Zy,Zz,Zv,Zw,ZA,ZB,ZC,ZD]
 refine box2 h8 fun b119 H9 h9 => ?_
 refine ldI_of (h9.cell (i := 0) rfl rfl) (ldI_of (h9.cell (i := 0) rfl rfl) ?_)
 rw [w1, w2]
 refine hSetRefC h9 (i := 2) rfl fun H10 h10 => ?_
 simp only [Za,Zb,Zc,Zd,Zf,Zh,Zi,Zk,Zl,Zm,Zn,Zo,Zp,Zr,Zs,Zx,Zt,Zu,Zy,Zz,Zv,Zw,ZA,ZB,ZC,ZD]
 refine ldI_of (h10.cell (i := 0) rfl rfl) (ldI_of (h10.cell (i := 0) rfl rfl) (rSetRefC h10 (i := 1) rfl fun H11 h11 => ?_))
 simp only [Za,Zb,Zc,Zd,Zf,Zh,Zi,Zk,Zl,Zm,Zn,Zo,Zp,Zr,Zs,Zx,Zt,Zu,Zy,Zz,Zv,Zw,ZA,ZB,ZC,ZD]
 have w3 : IntKind.i64.wrap ((y : Int) + 1) = y + 1 := wrap_i64 (by omega) (by omega)
 rw [w3]
 exact ⟨⟨y + 1, _, by omega, by omega, hmid.setRef (by omega) (by omega) hyd, h11.less⟩, by (try dsimp only); omega⟩

end Go.Proofs.YtflfodcemnapeaaGreat
