/- Merged by merge.py: TrV, DenLaw23WebBack. No condition. -/
import Derived.Test.YtknejebggegfjaaZTraceb
import Derived.Test.YtknejebggegfjaaZNum

namespace Go.Proofs.Ytknejebggegfjaa
set_option linter.unusedSimpArgs false
set_option linter.unusedVariables false
set_option maxRecDepth 20000
open Go
/-- A message, whole. -/
structure Mg where
  m : Ms
  f4 : Int
  f5 : Int
  f6 : Int
  f8 : Int
  f9 : Int
  f11 : Int
  f13 : Int
  f14 : Int
  f15 : Int
  f16 : Int
  rp : Option Addr
  rl : Nat
  rc : Nat
  lp : Option Addr
  ll : Nat
  lc : Nat
def Mg.cells (g : Mg) : List Value := [.int .i64 g.m.kind, .int .i64 g.m.frm, .int .i64 g.m.to, .int .u64 g.m.call, .int .u64 g.f4, .int .i64 g.f5, .int .i64 g.f6, .int .i64 g.m.item, .int .i64 g.f8, .int .u64 g.f9, .slice g.rp g.rl g.rc, .int .u64 g.f11, .int .i64 g.m.code, .int .u64 g.f13, .int .i64 g.f14, .int .u64 g.f15, .int .i64 g.f16, .int .u64 g.m.stamp, .slice g.lp g.ll g.lc]
def Mg.val (g : Mg) : Value := .agg #[.int .i64 g.m.kind, .int .i64 g.m.frm, .int .i64 g.m.to, .int .u64 g.m.call, .int .u64 g.f4, .int .i64 g.f5, .int .i64 g.f6, .int .i64 g.m.item, .int .i64 g.f8, .int .u64 g.f9, .slice g.rp g.rl g.rc, .int .u64 g.f11, .int .i64 g.m.code, .int .u64 g.f13, .int .i64 g.f14, .int .u64 g.f15, .int .i64 g.f16, .int .u64 g.m.stamp, .slice g.lp g.ll g.lc]
def mgOf (m : Ms) (p : Option Addr) (n c : Nat) : Mg := ⟨m, 0, 0, 0, 0, 0, 0, 0, 0, 0, 0, none, 0, 0, p, n, c⟩
abbrev SlT := Option Addr × Nat × Nat
def slW (t : SlT) : Value := .slice t.1 t.2.1 t.2.2
structure LsA (H : Hp) (p : Option Addr) (n : Nat) (ls : List (List Int)) : Prop where
  rd : ∃ ts : List SlT, Rd H 1 p n (ts.map slW) ∧ ∀ (j : Nat) (t : SlT) (l : List Int), ts[j]? = some t → ls[j]? = some l → Rd H 1 t.1 t.2.1 (l.map (Value.int .u64))
  len : ls.length = n
  few : n ≤ 9223372036854775807
  pos : ∀ l ∈ ls, ∀ v ∈ l, 0 ≤ v ∧ v < 18446744073709551616
structure WebA (H : Hp) (ip : Option Addr) (il : Nat) (op : Option Addr) (ol : Nat) (lp : Option Addr) (ll : Nat) (gp : Option Addr) (gl : Nat) (w : Web) : Prop where
  ins : LsA H ip il w.ins
  outs : LsA H op ol w.outs
  live : Rd H 1 lp ll (w.live.map (Value.int .i64)) ∧ ll ≤ 9223372036854775807
  gone : Rd H 1 gp gl (w.gone.map (Value.int .i64)) ∧ gl ≤ 9223372036854775807
section
variable {H0 H : Hp} {L M N : List Prt} {i k tb : Nat} {c : Cf} {t : Tr} {w : Web} {K : Value → Hp → Prop} {ip op lp gp : Option Addr} {il ic ol oc ll lc gl gc : Nat}
theorem St.keep1 {A : Prt} (h : St H0 (A :: (N ++ L)) H) : St H0 (A :: L) H := St.lesses (M := N) (h.perm List.perm_middle.symm)
theorem amongC {p : Option Addr} {n cap : Nat} {l : List Int} {v : Int} (h : Rd H 1 p n (l.map (Value.int .i64))) (hn : n ≤ 9223372036854775807) (hK : K (.bool (amongW l v)) H) : hcall PR f_law23_among ⟨[.slice p n cap, .int .i64 v]⟩ H K := by
  apply den_law23_among
  unfold B_law23_among
  have e1 : l.length = n := by simpa using h.1
  refine ⟨fun q H' => H' = H ∧ ∃ m : Nat, q = m ∧ m ≤ n ∧ ∀ x ∈ l.take m, pick x 60 ≠ v, fun q _ => ((n : Int) - q).toNat, ⟨rfl, 0, rfl, by omega, fun x hx => by simp at hx⟩, ?_⟩
  rintro q H' ⟨rfl, m, rfl, hm, hno⟩
  by_cases hml : (m : Int) < (n : Int)
  · refine bif_pos hml (idx1 (d := (0 : Int)) h (by omega) hml fun b o _ c1 => ldI_of c1 (Pick_ok (by decide) (by decide) ?_))
    (try simp only [asI_mk', asB_mk, asP_mk, asA_mk, asM_mk, asSl_mk, asStr_mk, tup2_mk, tup3_mk, agg1_mk, agg2_mk, agg3_mk, agg4_mk, asAggm, unCons_mk, unNil_mk, asTup_mk, extractD0, extractD1, List.toList_toArray, nilP_mk, add_mk, Nat.zero_add, Nat.add_zero, condT, condF, Bool.not_true, Bool.not_false, Option.isNone_some, Option.isNone_none])
    have ha : m < l.length := by omega
    have ga : l.getD m 0 = l[m] := by rw [List.getD_eq_getElem?_getD, List.getElem?_eq_getElem ha]; rfl
    by_cases hv : pick (l.getD m 0) 60 = v
    · refine bif_eq hv ?_
      have : amongW l v = true := List.any_eq_true.2 ⟨l[m], List.getElem_mem ha, by rw [ga] at hv; exact decide_eq_true hv⟩
      rw [this] at hK
      exact hK
    · refine bif_ne hv ?_
      rw [wrap_i64 (by omega) (by omega)]
      refine ⟨⟨by trivial, m + 1, by omega, by omega, fun x hx => ?_⟩, by (try dsimp only); omega⟩
      rw [List.take_succ_eq_append_getElem ha] at hx
      rcases List.mem_append.1 hx with hx | hx
      · exact hno x hx
      · simp at hx; rw [hx, ← ga]; exact hv
  · refine bif_neg hml ?_
    rw [List.take_of_length_le (by omega)] at hno
    have : amongW l v = false := by
      unfold amongW
      rw [List.any_eq_false]
      intro x hx
      simpa using hno x hx
    rw [this] at hK
    exact hK
theorem numberC {inn : Bool} {node : Int} {x : Id} (hn : 0 ≤ node ∧ node ≤ 8) (h1 : 0 ≤ x.n ∧ x.n ≤ 8) (h2 : 0 ≤ x.s ∧ x.s ≤ 8) (h : St H0 L H) (hK : ∀ H', St H0 L H' → K (.int .i64 (numW inn node x)) H') :
    hcall PR f_law23_number ⟨[.bool inn, .int .i64 node, .agg #[.int .i64 x.n, .int .u64 x.s]]⟩ H K := by
  apply den_law23_number
  unfold B_law23_number
  intro b5 hb5
  have g1 := h.alloc (o := .cells #[.int .i64 x.n, .int .u64 x.s] ty_api_ID) hb5
  have hK := hK _ g1.less
  unfold numW at hK
  refine ldI_of (g1.cell (i := 0) rfl rfl) (ldI_of (g1.cell (i := 0) rfl rfl) ?_)
  intro R9 hR9
  have hR9 := fun n => hR9 n (upd H b5 (.cells #[.int .i64 x.n, .int .u64 x.s] ty_api_ID))
  rw [wrap_i64 (n := 12 * node) (by omega) (by omega), wrap_i64 (n := 4 * x.n) (by omega) (by omega), wrap_i64 (n := 12 * node + 4 * x.n) (by omega) (by omega), wrap_i64 (n := x.s) (by omega) (by omega), wrap_i64 (n := 12 * node + 4 * x.n + x.s) (by omega) (by omega)]
  cases inn
  · simp only [condF]
    refine hR9 _ ⟨by decide, ?_⟩
    rw [if_neg (by decide), Int.add_zero] at hK
    exact hK
  · simp only [condT]
    rw [wrap_i64 (by omega) (by omega)]
    refine hR9 _ ⟨by decide, ?_⟩
    rw [if_pos rfl] at hK
    exact hK
theorem take4 {k : Nat} (h : k < 4) : ([1, 2, 3, 4] : List Int).take (k + 1) = ([1, 2, 3, 4] : List Int).take k ++ [((k + 1 : Nat) : Int)] := by
  match k, h with
  | 0, _ => rfl
  | 1, _ => rfl
  | 2, _ => rfl
  | 3, _ => rfl
theorem take3_any {l : List Int} {f : Int → Bool} {j : Nat} (h : ∀ x ∈ l.take j, f x = false) (hj : j ≤ 3) (hc : ¬ (j < l.length ∧ j < 3)) : (l.take 3).any f = false := by
  rw [List.any_eq_false]
  intro x hx
  rw [Bool.not_eq_true]
  refine h x ?_
  rcases Nat.lt_or_ge j 3 with h3 | h3
  · rw [List.take_of_length_le (by omega)]
    exact List.mem_of_mem_take hx
  · have : j = 3 := by omega
    rw [this]; exact hx
theorem take3_hit {l : List Int} {f : Int → Bool} {j : Nat} (hj : j < l.length) (h3 : j < 3) (h : f (l.getD j 0) = true) : (l.take 3).any f = true := by
  refine List.any_eq_true.2 ⟨l.getD j 0, ?_, h⟩
  rw [List.getD_eq_getElem?_getD, List.getElem?_eq_getElem hj]
  exact List.mem_iff_getElem.2 ⟨j, by rw [List.length_take]; omega, by rw [List.getElem_take]; rfl⟩
theorem push1 {p : Option Addr} {n cap : Nat} {xs : List Int} {v : Int} {Q : Value → Hp → Prop} (h : St H0 L H) (hi : L[i]? = some (Prt.row 1 p n cap (xs.map (Value.int .u64)))) (hn : n ≤ 1000)
    (hQ : ∀ p' n' cap' H', St H0 (L.set i (Prt.row 1 p' n' cap' ((xs ++ [v]).map (Value.int .u64)))) H' → n' = n + 1 → Q (.slice p' n' cap') H') :
    newB (.cells #[.int .u64 v] ty_uint64) H fun b H1 => evW PR (Builtin.append_ #[ty_Suint64, ty_Suint64] ty_Suint64 #[.slice p n cap, .slice (some ⟨b, 0, none⟩) 1 1]) H1 Q := by
  intro b hb
  have g := h.alloc (o := .cells #[.int .u64 v] ty_uint64) hb
  refine g.app (i := i + 1) (by rw [List.getElem?_cons_succ]; exact hi) tu_ty_Suint64 tu_ty_Suint64 ti_ty_uint64 rfl (by decide) (g.one_rd (i := 0) (n := 1) rfl rfl) (fun z hz => by simp at hz; rw [hz]; rfl) (by omega) fun p' cap' H' g' => ?_
  refine hQ p' (n + 1) cap' H' ?_ rfl
  have e : xs.map (Value.int .u64) ++ (#[Value.int .u64 v] : Array Value).toList = (xs ++ [v]).map (Value.int .u64) := by simp
  rw [e] at g'
  exact g'.less
theorem wInsC {node : Int} {x : Id} (hw : WebA H0 ip il op ol lp ll gp gl w) (hn : 0 ≤ node ∧ node ≤ 8) (h2 : 0 ≤ x.s ∧ x.s ≤ 8) (h : St H0 L H)
    (hK : ∀ p n cap H', St H0 (Prt.row 1 p n cap ((insW w node x).map (Value.int .u64)) :: L) H' → K (.slice p n cap) H') :
    hcall PR f_law23_Web_ins ⟨[.agg #[.slice ip il ic, .slice op ol oc, .slice lp ll lc, .slice gp gl gc], .int .i64 node, .agg #[.int .i64 x.n, .int .u64 x.s]]⟩ H K := by
  apply den_law23_Web_ins
  unfold B_law23_Web_ins
  intro bw hbw
  have g1 := h.alloc (o := .cells #[.slice ip il ic, .slice op ol oc, .slice lp ll lc, .slice gp gl gc] ty_law23_Web) hbw
  intro bx hbx
  have g2 := g1.alloc (o := .cells #[.int .i64 x.n, .int .u64 x.s] ty_api_ID) hbx
  have g2 : St H0 (Prt.one bx (.cells #[.int .i64 x.n, .int .u64 x.s] ty_api_ID (0, 0)) :: Prt.one bw (.cells #[.slice ip il ic, .slice op ol oc, .slice lp ll lc, .slice gp gl gc] ty_law23_Web (0, 0)) :: L) _ := g2
  refine ldSl_of (g2.cell (i := 1) rfl rfl) ?_
  have hlen := hw.ins.len
  have hfew := hw.ins.few
  by_cases h0 : (il : Int) = 0
  · refine bif_eq h0 ?_
    have e : insW w node x = [] := by unfold insW; rw [if_pos (by omega)]
    rw [e] at hK
    exact hK none 0 0 _ (g2.less.less.row (H' := _) (Own.nil 1) ((Goes.refl Nothing _).less fun c hc => absurd hc blk_none))
  refine bif_ne h0 (ldSl_of (g2.cell (i := 1) rfl rfl) (ldI_of (g2.cell (i := 0) rfl rfl) (ldSl_of (g2.cell (i := 1) rfl rfl) ⟨h0, ?_⟩)))
  rw [wrap_i64 (n := 7 * node) (by omega) (by omega), wrap_i64 (n := x.s) (by omega) (by omega), wrap_i64 (n := 7 * node + x.s) (by omega) (by omega)]
  obtain ⟨ts, hts, hel⟩ := hw.ins.rd
  have htl : ts.length = il := by simpa using hts.1
  obtain ⟨q, hq⟩ : ∃ q, q = Int.tmod (7 * node + x.s) il := ⟨_, rfl⟩
  rw [← hq]
  have hqb : 0 ≤ q ∧ q < il := by
    rw [hq, Int.tmod_eq_emod_of_nonneg (by omega)]
    exact ⟨Int.emod_nonneg _ (by omega), Int.emod_lt_of_pos _ (by omega)⟩
  obtain ⟨l, hl⟩ : ∃ l, l = w.ins.getD q.toNat [] := ⟨_, rfl⟩
  have e : insW w node x = [1, 2, 3, 4].filter fun s => (l.take 3).any fun v => decide (1 + Int.tmod v 4 = s) := by
    unfold insW
    rw [if_neg (by omega), hlen, ← hq, ← hl]
  rw [e] at hK
  have hql : q.toNat < w.ins.length := by omega
  have hlm : w.ins[q.toNat]? = some l := by rw [hl, List.getD_eq_getElem?_getD, List.getElem?_eq_getElem hql]; rfl
  refine idx1 (d := ((none, 0, 0) : SlT)) (g2.rd hts) hqb.1 hqb.2 fun b o _ hc => ldSl_of hc ?_
  obtain ⟨t, ht⟩ : ∃ t, t = ts.getD q.toNat (none, 0, 0) := ⟨_, rfl⟩
  rw [← ht]
  have htm : ts[q.toNat]? = some t := by rw [ht, List.getD_eq_getElem?_getD, List.getElem?_eq_getElem (by omega)]; rfl
  have hrd := hel _ _ _ htm hlm
  have hll : l.length = t.2.1 := by simpa using hrd.1
  have hpos : ∀ v ∈ l, 0 ≤ v ∧ v < 18446744073709551616 := hw.ins.pos l (List.mem_of_getElem? hlm)
  let f : Int → Bool := fun s => (l.take 3).any fun v => decide (1 + Int.tmod v 4 = s)
  refine ⟨fun p n cap s H' => ∃ k : Nat, s = ((k + 1 : Nat) : Int) ∧ k ≤ 4 ∧ n ≤ k ∧ St H0 (Prt.row 1 p n cap (((([1, 2, 3, 4] : List Int).take k).filter f).map (Value.int .u64)) :: L) H', fun _ _ _ s _ => (5 - s).toNat, ⟨0, rfl, by omega, by omega, g2.less.less.row (H' := _) (Own.nil 1) ((Goes.refl Nothing _).less fun c hc => absurd hc blk_none)⟩, ?_⟩
  rintro p n cap s H3 ⟨k, rfl, hk, hnk, g3⟩
  by_cases hs : ((k + 1 : Nat) : Int) ≤ 4
  rotate_left
  · refine bif_neg hs ?_
    have : k = 4 := by omega
    subst this
    exact hK p n cap H3 g3
  refine bif_pos hs ?_
  intro R41 hR41
  have hQ41 : ∀ p' n' cap' H', n' ≤ k + 1 → St H0 (Prt.row 1 p' n' cap' (((([1, 2, 3, 4] : List Int).take (k + 1)).filter f).map (Value.int .u64)) :: L) H' → R41 p' n' cap' H' := fun p' n' cap' H' hn' h' => by
    refine hR41 p' n' cap' H' ?_
    rw [wrap_u64' (n := ((k + 1 : Nat) : Int) + 1) (by omega) (by omega)]
    exact ⟨⟨k + 1, by omega, by omega, hn', h'⟩, by (try dsimp only); omega⟩
  have hno : f ((k + 1 : Nat) : Int) = false → R41 p n cap H3 := fun hf => by
    refine hQ41 p n cap H3 (by omega) ?_
    rw [take4 (by omega), List.filter_append, List.filter_cons_of_neg (by rw [hf]; decide), List.filter_nil, List.append_nil]
    exact g3
  refine ⟨fun p' n' cap' i H' => p' = p ∧ n' = n ∧ cap' = cap ∧ H' = H3 ∧ ∃ j : Nat, i = j ∧ j ≤ 3 ∧ j ≤ t.2.1 ∧ ∀ v ∈ l.take j, decide (1 + Int.tmod v 4 = ((k + 1 : Nat) : Int)) = false, fun _ _ _ i _ => (4 - i).toNat, ⟨rfl, rfl, rfl, rfl, 0, rfl, by omega, by omega, fun v hv => by simp at hv⟩, ?_⟩
  rintro p' n' cap' i H' ⟨rfl, rfl, rfl, rfl, j, rfl, hj3, hjl, hnj⟩
  by_cases c1 : (j : Int) < (t.2.1 : Int)
  rotate_left
  · exact bif_neg c1 (hno (take3_any hnj hj3 (by omega)))
  by_cases c2 : (j : Int) < 3
  rotate_left
  · exact bif_pos c1 (bif_neg c2 (hno (take3_any hnj hj3 (by omega))))
  refine bif_pos c1 (bif_pos c2 (idx1 (d := (0 : Int)) (g3.rd hrd) (by omega) c1 fun b o _ c3 => ldI_of c3 ⟨by decide, ?_⟩))
  rw [Int.toNat_natCast]
  have hjm : l.getD j 0 ∈ l := by
    rw [List.getD_eq_getElem?_getD, List.getElem?_eq_getElem (by omega)]
    exact List.getElem_mem _
  have hv0 := hpos _ hjm
  have hmod : 0 ≤ Int.tmod (l.getD j 0) 4 ∧ Int.tmod (l.getD j 0) 4 < 4 := by
    rw [Int.tmod_eq_emod_of_nonneg hv0.1]
    omega
  rw [wrap_u64' (n := 1 + Int.tmod (l.getD j 0) 4) (by omega) (by omega)]
  by_cases hv : 1 + Int.tmod (l.getD j 0) 4 = ((k + 1 : Nat) : Int)
  · refine bif_eq hv (push1 (i := 0) g3 rfl (by omega) fun p2 n2 cap2 H4 g4 e2 => ?_)
    (try simp only [asI_mk', asB_mk, asP_mk, asA_mk, asM_mk, asSl_mk, asStr_mk, tup2_mk, tup3_mk, agg1_mk, agg2_mk, agg3_mk, agg4_mk, asAggm, unCons_mk, unNil_mk, asTup_mk, extractD0, extractD1, List.toList_toArray, nilP_mk, add_mk, Nat.zero_add, Nat.add_zero, condT, condF, Bool.not_true, Bool.not_false, Option.isNone_some, Option.isNone_none])
    refine hQ41 p2 n2 cap2 H4 (by omega) ?_
    have hf : f ((k + 1 : Nat) : Int) = true := take3_hit (by omega) (by omega) (decide_eq_true hv)
    rw [take4 (by omega), List.filter_append, List.filter_cons_of_pos hf, List.filter_nil]
    exact g4
  · refine bif_ne hv ?_
    rw [wrap_i64 (by omega) (by omega)]
    refine ⟨⟨by trivial, by trivial, by trivial, by trivial, j + 1, by omega, by omega, by omega, fun v hv' => ?_⟩, by (try dsimp only); omega⟩
    rw [List.take_succ_eq_append_getElem (by omega)] at hv'
    rcases List.mem_append.1 hv' with hv' | hv'
    · exact hnj v hv'
    · simp at hv'
      rw [hv']
      rw [List.getD_eq_getElem?_getD, List.getElem?_eq_getElem (by omega)] at hv
      exact decide_eq_false hv
theorem holdC {x : Id} (hw : WebA H0 ip il op ol lp ll gp gl w) (hg : c.good) (h1 : 0 ≤ x.n ∧ x.n ≤ 8) (h2 : 0 ≤ x.s ∧ x.s ≤ 8) (h : St H0 L H)
    (hK : ∀ p n cap H', St H0 (Prt.row 1 p n cap ((holdW w c.a0 x).map (Value.int .u64)) :: L) H' → K (.slice p n cap) H') :
    hcall PR f_law23_Web_holders ⟨[.agg #[.slice ip il ic, .slice op ol oc, .slice lp ll lc, .slice gp gl gc], c.val, .agg #[.int .i64 x.n, .int .u64 x.s]]⟩ H K := by
  apply den_law23_Web_holders
  unfold B_law23_Web_holders
  intro bw hbw
  have g1 := h.alloc (o := .cells #[.slice ip il ic, .slice op ol oc, .slice lp ll lc, .slice gp gl gc] ty_law23_Web) hbw
  intro bc hbc
  have g1 := g1.alloc (o := .cells #[.int .i64 c.a0, .int .i64 c.a1, .int .i64 c.a2, .int .i64 c.a3, .int .i64 c.a4, .int .i64 c.a5, .int .i64 c.a6, .int .i64 c.a7, .int .i64 c.a8, .int .i64 c.a9, .int .i64 c.a10, .int .u64 c.a11, .int .u64 c.a12, .int .u64 c.a13, .int .u64 c.a14, .int .u64 c.a15, .int .u64 c.a16, .int .i64 c.a17, .int .i64 c.a18, .int .i64 c.a19, .int .u64 c.a20, .int .u64 c.a21] ty_api_Config) hbc
  intro bx hbx
  have g2 := g1.alloc (o := .cells #[.int .i64 x.n, .int .u64 x.s] ty_api_ID) hbx
  have g2 : St H0 (Prt.one bx (.cells #[.int .i64 x.n, .int .u64 x.s] ty_api_ID (0, 0)) :: Prt.one bc (.cells #[.int .i64 c.a0, .int .i64 c.a1, .int .i64 c.a2, .int .i64 c.a3, .int .i64 c.a4, .int .i64 c.a5, .int .i64 c.a6, .int .i64 c.a7, .int .i64 c.a8, .int .i64 c.a9, .int .i64 c.a10, .int .u64 c.a11, .int .u64 c.a12, .int .u64 c.a13, .int .u64 c.a14, .int .u64 c.a15, .int .u64 c.a16, .int .i64 c.a17, .int .i64 c.a18, .int .i64 c.a19, .int .u64 c.a20, .int .u64 c.a21] ty_api_Config (0, 0)) :: Prt.one bw (.cells #[.slice ip il ic, .slice op ol oc, .slice lp ll lc, .slice gp gl gc] ty_law23_Web (0, 0)) :: L) _ := g2
  refine ldSl_of (g2.cell (i := 2) rfl rfl) ?_
  have hlen := hw.outs.len
  have hfew := hw.outs.few
  have ha0 := hg.a0
  by_cases h0 : (ol : Int) = 0
  · refine bif_eq h0 ?_
    have e : holdW w c.a0 x = [] := by unfold holdW; rw [if_pos (by omega)]
    rw [e] at hK
    exact hK none 0 0 _ ((St.lesses (M := [_, _, _]) g2).row (H' := _) (Own.nil 1) ((Goes.refl Nothing _).less fun c hc => absurd hc blk_none))
  refine bif_ne h0 (ldSl_of (g2.cell (i := 2) rfl rfl) (ldI_of (g2.cell (i := 0) rfl rfl) (ldI_of (g2.cell (i := 0) rfl rfl) (ldSl_of (g2.cell (i := 2) rfl rfl) ⟨h0, ?_⟩))))
  rw [wrap_i64 (n := 5 * x.n) (by omega) (by omega), wrap_i64 (n := x.s) (by omega) (by omega), wrap_i64 (n := 5 * x.n + x.s) (by omega) (by omega)]
  obtain ⟨ts, hts, hel⟩ := hw.outs.rd
  have htl : ts.length = ol := by simpa using hts.1
  obtain ⟨q, hq⟩ : ∃ q, q = Int.tmod (5 * x.n + x.s) ol := ⟨_, rfl⟩
  rw [← hq]
  have hqb : 0 ≤ q ∧ q < ol := by
    rw [hq, Int.tmod_eq_emod_of_nonneg (by omega)]
    exact ⟨Int.emod_nonneg _ (by omega), Int.emod_lt_of_pos _ (by omega)⟩
  obtain ⟨l, hl⟩ : ∃ l, l = w.outs.getD q.toNat [] := ⟨_, rfl⟩
  let f : Int → Bool := fun n => decide (n ≠ x.n) && (l.take 3).any fun v => decide (1 + Int.tmod v c.a0 = n)
  have e : holdW w c.a0 x = (upto4 c.a0).filter f := by
    unfold holdW
    rw [if_neg (by omega), hlen, ← hq, ← hl]
  have hup : ∀ k : Nat, (k : Int) = c.a0 → upto4 c.a0 = ([1, 2, 3, 4] : List Int).take k := fun k hk => by
    unfold upto4
    rw [← hk]
    have : k = 2 ∨ k = 3 ∨ k = 4 := by omega
    rcases this with rfl | rfl | rfl <;> rfl
  rw [e] at hK
  have hql : q.toNat < w.outs.length := by omega
  have hlm : w.outs[q.toNat]? = some l := by rw [hl, List.getD_eq_getElem?_getD, List.getElem?_eq_getElem hql]; rfl
  refine idx1 (d := ((none, 0, 0) : SlT)) (g2.rd hts) hqb.1 hqb.2 fun b o _ hc => ldSl_of hc ?_
  obtain ⟨t, ht⟩ : ∃ t, t = ts.getD q.toNat (none, 0, 0) := ⟨_, rfl⟩
  rw [← ht]
  have htm : ts[q.toNat]? = some t := by rw [ht, List.getD_eq_getElem?_getD, List.getElem?_eq_getElem (by omega)]; rfl
  have hrd := hel _ _ _ htm hlm
  have hll : l.length = t.2.1 := by simpa using hrd.1
  have hpos : ∀ v ∈ l, 0 ≤ v ∧ v < 18446744073709551616 := hw.outs.pos l (List.mem_of_getElem? hlm)
  refine ⟨fun p n cap s H' => ∃ k : Nat, s = ((k + 1 : Nat) : Int) ∧ (k : Int) ≤ c.a0 ∧ n ≤ k ∧ St H0 (Prt.row 1 p n cap (((([1, 2, 3, 4] : List Int).take k).filter f).map (Value.int .u64)) :: Prt.one bx (.cells #[.int .i64 x.n, .int .u64 x.s] ty_api_ID (0, 0)) :: Prt.one bc (.cells #[.int .i64 c.a0, .int .i64 c.a1, .int .i64 c.a2, .int .i64 c.a3, .int .i64 c.a4, .int .i64 c.a5, .int .i64 c.a6, .int .i64 c.a7, .int .i64 c.a8, .int .i64 c.a9, .int .i64 c.a10, .int .u64 c.a11, .int .u64 c.a12, .int .u64 c.a13, .int .u64 c.a14, .int .u64 c.a15, .int .u64 c.a16, .int .i64 c.a17, .int .i64 c.a18, .int .i64 c.a19, .int .u64 c.a20, .int .u64 c.a21] ty_api_Config (0, 0)) :: Prt.one bw (.cells #[.slice ip il ic, .slice op ol oc, .slice lp ll lc, .slice gp gl gc] ty_law23_Web (0, 0)) :: L) H', fun _ _ _ s _ => (5 - s).toNat, ⟨0, rfl, by omega, by omega, g2.row (H' := _) (Own.nil 1) ((Goes.refl Nothing _).less fun c hc => absurd hc blk_none)⟩, ?_⟩
  rintro p n cap s H3 ⟨k, rfl, hk, hnk, g3⟩
  refine ldI_of (g3.cell (i := 2) rfl rfl) ?_
  by_cases hs : ((k + 1 : Nat) : Int) ≤ c.a0
  rotate_left
  · refine bif_neg hs ?_
    rw [hup k (by omega)] at hK
    exact hK p n cap H3 (St.keep1 (N := [_, _, _]) g3)
  refine bif_pos hs ?_
  intro R66 hR66
  have hQ66 : ∀ p' n' cap' H', n' ≤ k + 1 → St H0 (Prt.row 1 p' n' cap' (((([1, 2, 3, 4] : List Int).take (k + 1)).filter f).map (Value.int .u64)) :: Prt.one bx (.cells #[.int .i64 x.n, .int .u64 x.s] ty_api_ID (0, 0)) :: Prt.one bc (.cells #[.int .i64 c.a0, .int .i64 c.a1, .int .i64 c.a2, .int .i64 c.a3, .int .i64 c.a4, .int .i64 c.a5, .int .i64 c.a6, .int .i64 c.a7, .int .i64 c.a8, .int .i64 c.a9, .int .i64 c.a10, .int .u64 c.a11, .int .u64 c.a12, .int .u64 c.a13, .int .u64 c.a14, .int .u64 c.a15, .int .u64 c.a16, .int .i64 c.a17, .int .i64 c.a18, .int .i64 c.a19, .int .u64 c.a20, .int .u64 c.a21] ty_api_Config (0, 0)) :: Prt.one bw (.cells #[.slice ip il ic, .slice op ol oc, .slice lp ll lc, .slice gp gl gc] ty_law23_Web (0, 0)) :: L) H' → R66 p' n' cap' H' := fun p' n' cap' H' hn' h' => by
    refine hR66 p' n' cap' H' ?_
    rw [wrap_i64 (by omega) (by omega)]
    exact ⟨⟨k + 1, by omega, by omega, hn', h'⟩, by (try dsimp only); omega⟩
  have hno : f ((k + 1 : Nat) : Int) = false → R66 p n cap H3 := fun hf => by
    refine hQ66 p n cap H3 (by omega) ?_
    rw [take4 (by omega), List.filter_append, List.filter_cons_of_neg (by rw [hf]; decide), List.filter_nil, List.append_nil]
    exact g3
  have hnf : (l.take 3).any (fun v => decide (1 + Int.tmod v c.a0 = ((k + 1 : Nat) : Int))) = false → f ((k + 1 : Nat) : Int) = false := fun h => by
    show (decide _ && _) = false
    rw [h, Bool.and_false]
  refine ⟨fun p' n' cap' i H' => p' = p ∧ n' = n ∧ cap' = cap ∧ H' = H3 ∧ ∃ j : Nat, i = j ∧ j ≤ 3 ∧ j ≤ t.2.1 ∧ ∀ v ∈ l.take j, (decide (((k + 1 : Nat) : Int) ≠ x.n) && decide (1 + Int.tmod v c.a0 = ((k + 1 : Nat) : Int))) = false, fun _ _ _ i _ => (4 - i).toNat, ⟨rfl, rfl, rfl, rfl, 0, rfl, by omega, by omega, fun v hv => by simp at hv⟩, ?_⟩
  have fin : ∀ j : Nat, j ≤ 3 → ¬ (j < l.length ∧ j < 3) → (∀ v ∈ l.take j, (decide (((k + 1 : Nat) : Int) ≠ x.n) && decide (1 + Int.tmod v c.a0 = ((k + 1 : Nat) : Int))) = false) → f ((k + 1 : Nat) : Int) = false := fun j h3 hc hn => by
    by_cases hx : ((k + 1 : Nat) : Int) = x.n
    · show (decide _ && _) = false
      rw [decide_eq_false (fun h => h hx), Bool.false_and]
    · rw [decide_eq_true hx] at hn
      simp only [Bool.true_and] at hn
      exact hnf (take3_any hn h3 hc)
  rintro p' n' cap' i H' ⟨rfl, rfl, rfl, rfl, j, rfl, hj3, hjl, hnj⟩
  by_cases c1 : (j : Int) < (t.2.1 : Int)
  rotate_left
  · exact bif_neg c1 (hno (fin j hj3 (by omega) hnj))
  by_cases c2 : (j : Int) < 3
  rotate_left
  · exact bif_pos c1 (bif_neg c2 (hno (fin j hj3 (by omega) hnj)))
  refine bif_pos c1 (bif_pos c2 ?_)
  have hstep : (decide (((k + 1 : Nat) : Int) ≠ x.n) && decide (1 + Int.tmod (l.getD j 0) c.a0 = ((k + 1 : Nat) : Int))) = false → ∀ v ∈ l.take (j + 1), (decide (((k + 1 : Nat) : Int) ≠ x.n) && decide (1 + Int.tmod v c.a0 = ((k + 1 : Nat) : Int))) = false := fun hz v hv' => by
    rw [List.take_succ_eq_append_getElem (by omega)] at hv'
    rcases List.mem_append.1 hv' with hv' | hv'
    · exact hnj v hv'
    · simp only [List.mem_singleton] at hv'
      rw [hv']
      rw [List.getD_eq_getElem?_getD, List.getElem?_eq_getElem (by omega)] at hz
      exact hz
  intro R78 hR78
  have hQ78 : (decide (((k + 1 : Nat) : Int) ≠ x.n) && decide (1 + Int.tmod (l.getD j 0) c.a0 = ((k + 1 : Nat) : Int))) = false → R78 p' n' cap' H' := fun hz => by
    refine hR78 p' n' cap' H' ?_
    rw [wrap_i64 (by omega) (by omega)]
    exact ⟨⟨by trivial, by trivial, by trivial, by trivial, j + 1, by omega, by omega, by omega, hstep hz⟩, by (try dsimp only); omega⟩
  refine idx1 (d := (0 : Int)) (g3.rd hrd) (by omega) c1 fun b o _ c3 => ldI_of c3 (ldI_of (g3.cell (i := 2) rfl rfl) ?_)
  rw [wrap_u64' (n := c.a0) (by omega) (by omega)]
  refine ⟨by omega, ?_⟩
  rw [Int.toNat_natCast]
  have hjm : l.getD j 0 ∈ l := by
    rw [List.getD_eq_getElem?_getD, List.getElem?_eq_getElem (by omega)]
    exact List.getElem_mem _
  have hv0 := hpos _ hjm
  have hmod : 0 ≤ Int.tmod (l.getD j 0) c.a0 ∧ Int.tmod (l.getD j 0) c.a0 < 4 := by
    rw [Int.tmod_eq_emod_of_nonneg hv0.1]
    have := Int.emod_lt_of_pos (l.getD j 0) (b := c.a0) (by omega)
    exact ⟨Int.emod_nonneg _ (by omega), by omega⟩
  rw [wrap_i64 (n := Int.tmod (l.getD j 0) c.a0) (by omega) (by omega), wrap_i64 (n := 1 + Int.tmod (l.getD j 0) c.a0) (by omega) (by omega)]
  by_cases hv : 1 + Int.tmod (l.getD j 0) c.a0 = ((k + 1 : Nat) : Int)
  rotate_left
  · exact bif_ne hv (hQ78 (by rw [decide_eq_false hv, Bool.and_false]))
  refine bif_eq hv (ldI_of (g3.cell (i := 1) rfl rfl) ?_)
  by_cases hx : ((k + 1 : Nat) : Int) = x.n
  · exact bif_neqf hx (hQ78 (by rw [decide_eq_false (fun h => h hx), Bool.false_and]))
  refine bif_neq hx ?_
  rw [wrap_u64' (n := ((k + 1 : Nat) : Int)) (by omega) (by omega)]
  refine push1 (i := 0) g3 rfl (by omega) fun p2 n2 cap2 H4 g4 e2 => ?_
  (try simp only [asI_mk', asB_mk, asP_mk, asA_mk, asM_mk, asSl_mk, asStr_mk, tup2_mk, tup3_mk, agg1_mk, agg2_mk, agg3_mk, agg4_mk, asAggm, unCons_mk, unNil_mk, asTup_mk, extractD0, extractD1, List.toList_toArray, nilP_mk, add_mk, Nat.zero_add, Nat.add_zero, condT, condF, Bool.not_true, Bool.not_false, Option.isNone_some, Option.isNone_none])
  refine hQ66 p2 n2 cap2 H4 (by omega) ?_
  have hf : f ((k + 1 : Nat) : Int) = true := by
    show (decide _ && _) = true
    rw [decide_eq_true hx, Bool.true_and]
    exact take3_hit (by omega) (by omega) (decide_eq_true hv)
  rw [take4 (by omega), List.filter_append, List.filter_cons_of_pos hf, List.filter_nil]
  exact g4
theorem answerC {q : Qn} (hw : WebA H0 ip il op ol lp ll gp gl w) (hg : c.good) (hto : 0 ≤ q.to ∧ q.to ≤ 8) (htg : q.kind ≠ 10 → q.op ≠ 3 → (0 ≤ q.tgt.n ∧ q.tgt.n ≤ 8) ∧ (0 ≤ q.tgt.s ∧ q.tgt.s ≤ 8)) (h : St H0 L H)
    (hK : ∀ p n cap H', St H0 (Prt.row 1 p n cap ((ansW w c.a0 q).list.map (Value.int .u64)) :: L) H' → K (mgOf (ansW w c.a0 q) p n cap).val H') :
    hcall PR f_law23_Web_answer ⟨[.agg #[.slice ip il ic, .slice op ol oc, .slice lp ll lc, .slice gp gl gc], c.val, q.val]⟩ H K := by
  apply den_law23_Web_answer
  unfold B_law23_Web_answer
  intro bw hbw
  have g1 := h.alloc (o := .cells #[.slice ip il ic, .slice op ol oc, .slice lp ll lc, .slice gp gl gc] ty_law23_Web) hbw
  intro bc hbc
  have g2 := g1.alloc (o := .cells #[.int .i64 c.a0, .int .i64 c.a1, .int .i64 c.a2, .int .i64 c.a3, .int .i64 c.a4, .int .i64 c.a5, .int .i64 c.a6, .int .i64 c.a7, .int .i64 c.a8, .int .i64 c.a9, .int .i64 c.a10, .int .u64 c.a11, .int .u64 c.a12, .int .u64 c.a13, .int .u64 c.a14, .int .u64 c.a15, .int .u64 c.a16, .int .i64 c.a17, .int .i64 c.a18, .int .i64 c.a19, .int .u64 c.a20, .int .u64 c.a21] ty_api_Config) hbc
  intro bq hbq
  have g3 := g2.alloc (o := .cells #[.int .i64 q.kind, .int .i64 q.frm, .int .i64 q.to, .int .u64 q.call, .int .u64 0, .int .i64 q.op, .int .i64 0, .int .i64 q.item, .int .i64 q.tgt.n, .int .u64 q.tgt.s, .slice none 0 0, .int .u64 0, .int .i64 0, .int .u64 0, .int .i64 0, .int .u64 0, .int .i64 0, .int .u64 q.stamp, .slice none 0 0] ty_api_Msg) hbq
  intro bz hbz
  have g4 := g3.alloc (o := .cells #[.int .i64 0, .int .i64 0, .int .i64 0, .int .u64 0, .int .u64 0, .int .i64 0, .int .i64 0, .int .i64 0, .int .i64 0, .int .u64 0, .slice none 0 0, .int .u64 0, .int .i64 0, .int .u64 0, .int .i64 0, .int .u64 0, .int .i64 0, .int .u64 0, .slice none 0 0] ty_api_Msg) hbz
  refine ldI_of (g4.cell (i := 1) rfl rfl) (ldI_of (g4.cell (i := 1) rfl rfl) (ldI_of (g4.cell (i := 1) rfl rfl) (ldI_of (g4.cell (i := 1) rfl rfl) (ldI_of (g4.cell (i := 1) rfl rfl) ?_))))
  rw [wrap_i64 (n := 10 + q.to) (by omega) (by omega), wrap_u64' (n := 10 + q.to) (by omega) (by omega)]
  refine boxs (c := [.int .i64 0, .int .i64 0, .int .i64 0, .int .u64 0, .int .u64 0, .int .i64 0, .int .i64 0, .int .i64 0, .int .i64 0, .int .u64 0, .slice none 0 0, .int .u64 0, .int .i64 0, .int .u64 0, .int .i64 0, .int .u64 0, .int .i64 0, .int .u64 0, .slice none 0 0]) (vs := [.int .i64 9, .int .i64 q.to, .int .i64 q.frm, .int .u64 q.call, .int .u64 0, .int .i64 0, .int .i64 0, .int .i64 q.item, .int .i64 0, .int .u64 0, .slice none 0 0, .int .u64 0, .int .i64 2, .int .u64 0, .int .i64 0, .int .u64 0, .int .i64 0, .int .u64 (10 + q.to), .slice none 0 0]) g4 rfl fun ba H5 g5 => ?_
  have g5 : St H0 (Prt.one ba (.cells #[.int .i64 9, .int .i64 q.to, .int .i64 q.frm, .int .u64 q.call, .int .u64 0, .int .i64 0, .int .i64 0, .int .i64 q.item, .int .i64 0, .int .u64 0, .slice none 0 0, .int .u64 0, .int .i64 2, .int .u64 0, .int .i64 0, .int .u64 0, .int .i64 0, .int .u64 (10 + q.to), .slice none 0 0] ty_api_Msg (0, 0)) :: Prt.one bz (.cells #[.int .i64 0, .int .i64 0, .int .i64 0, .int .u64 0, .int .u64 0, .int .i64 0, .int .i64 0, .int .i64 0, .int .i64 0, .int .u64 0, .slice none 0 0, .int .u64 0, .int .i64 0, .int .u64 0, .int .i64 0, .int .u64 0, .int .i64 0, .int .u64 0, .slice none 0 0] ty_api_Msg (0, 0)) :: Prt.one bq (.cells #[.int .i64 q.kind, .int .i64 q.frm, .int .i64 q.to, .int .u64 q.call, .int .u64 0, .int .i64 q.op, .int .i64 0, .int .i64 q.item, .int .i64 q.tgt.n, .int .u64 q.tgt.s, .slice none 0 0, .int .u64 0, .int .i64 0, .int .u64 0, .int .i64 0, .int .u64 0, .int .i64 0, .int .u64 q.stamp, .slice none 0 0] ty_api_Msg (0, 0)) :: Prt.one bc (.cells #[.int .i64 c.a0, .int .i64 c.a1, .int .i64 c.a2, .int .i64 c.a3, .int .i64 c.a4, .int .i64 c.a5, .int .i64 c.a6, .int .i64 c.a7, .int .i64 c.a8, .int .i64 c.a9, .int .i64 c.a10, .int .u64 c.a11, .int .u64 c.a12, .int .u64 c.a13, .int .u64 c.a14, .int .u64 c.a15, .int .u64 c.a16, .int .i64 c.a17, .int .i64 c.a18, .int .i64 c.a19, .int .u64 c.a20, .int .u64 c.a21] ty_api_Config (0, 0)) :: Prt.one bw (.cells #[.slice ip il ic, .slice op ol oc, .slice lp ll lc, .slice gp gl gc] ty_law23_Web (0, 0)) :: L) H5 := g5
  clear g1 g2 g3 g4 h
  refine ldI_of (g5.cell (i := 2) rfl rfl) ?_
  intro R93 hR93
  have hR93 : ∀ (m : Ms) p n cap H', m = ansW w c.a0 q → St H0 (Prt.row 1 p n cap (m.list.map (Value.int .u64)) :: Prt.one ba (.cells (mgOf m p n cap).cells.toArray ty_api_Msg (0, 0)) :: Prt.one bz (.cells #[.int .i64 0, .int .i64 0, .int .i64 0, .int .u64 0, .int .u64 0, .int .i64 0, .int .i64 0, .int .i64 0, .int .i64 0, .int .u64 0, .slice none 0 0, .int .u64 0, .int .i64 0, .int .u64 0, .int .i64 0, .int .u64 0, .int .i64 0, .int .u64 0, .slice none 0 0] ty_api_Msg (0, 0)) :: Prt.one bq (.cells #[.int .i64 q.kind, .int .i64 q.frm, .int .i64 q.to, .int .u64 q.call, .int .u64 0, .int .i64 q.op, .int .i64 0, .int .i64 q.item, .int .i64 q.tgt.n, .int .u64 q.tgt.s, .slice none 0 0, .int .u64 0, .int .i64 0, .int .u64 0, .int .i64 0, .int .u64 0, .int .i64 0, .int .u64 q.stamp, .slice none 0 0] ty_api_Msg (0, 0)) :: Prt.one bc (.cells #[.int .i64 c.a0, .int .i64 c.a1, .int .i64 c.a2, .int .i64 c.a3, .int .i64 c.a4, .int .i64 c.a5, .int .i64 c.a6, .int .i64 c.a7, .int .i64 c.a8, .int .i64 c.a9, .int .i64 c.a10, .int .u64 c.a11, .int .u64 c.a12, .int .u64 c.a13, .int .u64 c.a14, .int .u64 c.a15, .int .u64 c.a16, .int .i64 c.a17, .int .i64 c.a18, .int .i64 c.a19, .int .u64 c.a20, .int .u64 c.a21] ty_api_Config (0, 0)) :: Prt.one bw (.cells #[.slice ip il ic, .slice op ol oc, .slice lp ll lc, .slice gp gl gc] ty_law23_Web (0, 0)) :: L) H' → R93 H' := fun m p n cap H' hm g => by
    refine hR93 H' ?_
    clear hR93
    refine ldI_of (g.cell (i := 1) rfl rfl) (ldI_of (g.cell (i := 1) rfl rfl) (ldI_of (g.cell (i := 1) rfl rfl) (ldI_of (g.cell (i := 1) rfl rfl) (ldI_of (g.cell (i := 1) rfl rfl) (ldI_of (g.cell (i := 1) rfl rfl) (ldI_of (g.cell (i := 1) rfl rfl) (ldI_of (g.cell (i := 1) rfl rfl) (ldI_of (g.cell (i := 1) rfl rfl) (ldI_of (g.cell (i := 1) rfl rfl) (ldSl_of (g.cell (i := 1) rfl rfl) (ldI_of (g.cell (i := 1) rfl rfl) (ldI_of (g.cell (i := 1) rfl rfl) (ldI_of (g.cell (i := 1) rfl rfl) (ldI_of (g.cell (i := 1) rfl rfl) (ldI_of (g.cell (i := 1) rfl rfl) (ldI_of (g.cell (i := 1) rfl rfl) (ldI_of (g.cell (i := 1) rfl rfl) (ldSl_of (g.cell (i := 1) rfl rfl) (?_)))))))))))))))))))
    refine St.sets (i := 2) (o := 0) (vs := (mgOf m p n cap).cells) g rfl (by simp [Mg.cells, mgOf]) fun H6 g6 => ?_
    rw [setsA_all (by rfl)] at g6
    have g6 : St H0 (Prt.row 1 p n cap (m.list.map (Value.int .u64)) :: Prt.one ba (.cells (mgOf m p n cap).cells.toArray ty_api_Msg (0, 0)) :: Prt.one bz (.cells (mgOf m p n cap).cells.toArray ty_api_Msg (0, 0)) :: Prt.one bq (.cells #[.int .i64 q.kind, .int .i64 q.frm, .int .i64 q.to, .int .u64 q.call, .int .u64 0, .int .i64 q.op, .int .i64 0, .int .i64 q.item, .int .i64 q.tgt.n, .int .u64 q.tgt.s, .slice none 0 0, .int .u64 0, .int .i64 0, .int .u64 0, .int .i64 0, .int .u64 0, .int .i64 0, .int .u64 q.stamp, .slice none 0 0] ty_api_Msg (0, 0)) :: Prt.one bc (.cells #[.int .i64 c.a0, .int .i64 c.a1, .int .i64 c.a2, .int .i64 c.a3, .int .i64 c.a4, .int .i64 c.a5, .int .i64 c.a6, .int .i64 c.a7, .int .i64 c.a8, .int .i64 c.a9, .int .i64 c.a10, .int .u64 c.a11, .int .u64 c.a12, .int .u64 c.a13, .int .u64 c.a14, .int .u64 c.a15, .int .u64 c.a16, .int .i64 c.a17, .int .i64 c.a18, .int .i64 c.a19, .int .u64 c.a20, .int .u64 c.a21] ty_api_Config (0, 0)) :: Prt.one bw (.cells #[.slice ip il ic, .slice op ol oc, .slice lp ll lc, .slice gp gl gc] ty_law23_Web (0, 0)) :: L) H6 := g6
    refine ldI_of (g6.cell (i := 2) rfl rfl) (ldI_of (g6.cell (i := 2) rfl rfl) (ldI_of (g6.cell (i := 2) rfl rfl) (ldI_of (g6.cell (i := 2) rfl rfl) (ldI_of (g6.cell (i := 2) rfl rfl) (ldI_of (g6.cell (i := 2) rfl rfl) (ldI_of (g6.cell (i := 2) rfl rfl) (ldI_of (g6.cell (i := 2) rfl rfl) (ldI_of (g6.cell (i := 2) rfl rfl) (ldI_of (g6.cell (i := 2) rfl rfl) (ldSl_of (g6.cell (i := 2) rfl rfl) (ldI_of (g6.cell (i := 2) rfl rfl) (ldI_of (g6.cell (i := 2) rfl rfl) (ldI_of (g6.cell (i := 2) rfl rfl) (ldI_of (g6.cell (i := 2) rfl rfl) (ldI_of (g6.cell (i := 2) rfl rfl) (ldI_of (g6.cell (i := 2) rfl rfl) (ldI_of (g6.cell (i := 2) rfl rfl) (ldSl_of (g6.cell (i := 2) rfl rfl) (?_)))))))))))))))))))
    have := hK p n cap H6
    rw [← hm] at this
    exact this (St.keep1 (N := [_, _, _, _, _]) g6)
  have nil : ∀ (m : Ms) H', m = ansW w c.a0 q → m.list = [] → St H0 (Prt.one ba (.cells (mgOf m none 0 0).cells.toArray ty_api_Msg (0, 0)) :: Prt.one bz (.cells #[.int .i64 0, .int .i64 0, .int .i64 0, .int .u64 0, .int .u64 0, .int .i64 0, .int .i64 0, .int .i64 0, .int .i64 0, .int .u64 0, .slice none 0 0, .int .u64 0, .int .i64 0, .int .u64 0, .int .i64 0, .int .u64 0, .int .i64 0, .int .u64 0, .slice none 0 0] ty_api_Msg (0, 0)) :: Prt.one bq (.cells #[.int .i64 q.kind, .int .i64 q.frm, .int .i64 q.to, .int .u64 q.call, .int .u64 0, .int .i64 q.op, .int .i64 0, .int .i64 q.item, .int .i64 q.tgt.n, .int .u64 q.tgt.s, .slice none 0 0, .int .u64 0, .int .i64 0, .int .u64 0, .int .i64 0, .int .u64 0, .int .i64 0, .int .u64 q.stamp, .slice none 0 0] ty_api_Msg (0, 0)) :: Prt.one bc (.cells #[.int .i64 c.a0, .int .i64 c.a1, .int .i64 c.a2, .int .i64 c.a3, .int .i64 c.a4, .int .i64 c.a5, .int .i64 c.a6, .int .i64 c.a7, .int .i64 c.a8, .int .i64 c.a9, .int .i64 c.a10, .int .u64 c.a11, .int .u64 c.a12, .int .u64 c.a13, .int .u64 c.a14, .int .u64 c.a15, .int .u64 c.a16, .int .i64 c.a17, .int .i64 c.a18, .int .i64 c.a19, .int .u64 c.a20, .int .u64 c.a21] ty_api_Config (0, 0)) :: Prt.one bw (.cells #[.slice ip il ic, .slice op ol oc, .slice lp ll lc, .slice gp gl gc] ty_law23_Web (0, 0)) :: L) H' → R93 H' := fun m H' hm hl g => by
    refine hR93 m none 0 0 H' hm ?_
    rw [hl]
    exact g.row (H' := _) (Own.nil 1) ((Goes.refl Nothing _).less fun c hc => absurd hc blk_none)
  refine ldI_of (g5.cell (i := 2) rfl rfl) ?_
  by_cases k1 : q.kind = 10
  · refine bif_eq k1 (ldI_of (g5.cell (i := 2) rfl rfl) (ldI_of (g5.cell (i := 2) rfl rfl) (ldI_of (g5.cell (i := 2) rfl rfl) (ldI_of (g5.cell (i := 2) rfl rfl) ?_))))
    refine St.sets (i := 0) (o := 0) (vs := [.int .i64 11, .int .i64 q.to, .int .i64 q.frm, .int .u64 q.call, .int .u64 0, .int .i64 0, .int .i64 0, .int .i64 q.item, .int .i64 0, .int .u64 0, .slice none 0 0, .int .u64 0, .int .i64 0, .int .u64 0, .int .i64 0, .int .u64 0, .int .i64 0, .int .u64 0, .slice none 0 0]) g5 rfl (by simp) fun H6 g6 => ?_
    rw [setsA_all (by rfl)] at g6
    exact nil ⟨11, q.to, q.frm, q.call, q.item, 0, 0, []⟩ H6 (by unfold ansW; rw [if_pos k1]) rfl g6
  refine bif_ne k1 (ldI_of (g5.cell (i := 2) rfl rfl) ?_)
  by_cases k2 : q.op = 3
  · refine bif_eq k2 ?_
    exact nil ⟨9, q.to, q.frm, q.call, q.item, 2, 10 + q.to, []⟩ H5 (by unfold ansW; rw [if_neg k1, if_pos k2]) rfl g5
  obtain ⟨t1, t2⟩ := htg k1 k2
  refine bif_ne k2 (ldSl_of (g5.cell (i := 4) rfl rfl) (ldI_of (g5.cell (i := 2) rfl rfl) (ldI_of (g5.cell (i := 2) rfl rfl) (ldI_of (g5.cell (i := 2) rfl rfl) (numberC hto t1 t2 g5 fun H6 g6 => ?_)))))
  (try simp only [asI_mk', asB_mk, asP_mk, asA_mk, asM_mk, asSl_mk, asStr_mk, tup2_mk, tup3_mk, agg1_mk, agg2_mk, agg3_mk, agg4_mk, asAggm, unCons_mk, unNil_mk, asTup_mk, extractD0, extractD1, List.toList_toArray, nilP_mk, add_mk, Nat.zero_add, Nat.add_zero, condT, condF, Bool.not_true, Bool.not_false, Option.isNone_some, Option.isNone_none])
  refine ⟨ldSl_of (g6.cell (i := 4) rfl rfl) rfl, amongC (g6.rd hw.live.1) hw.live.2 ?_⟩
  (try simp only [asI_mk', asB_mk, asP_mk, asA_mk, asM_mk, asSl_mk, asStr_mk, tup2_mk, tup3_mk, agg1_mk, agg2_mk, agg3_mk, agg4_mk, asAggm, unCons_mk, unNil_mk, asTup_mk, extractD0, extractD1, List.toList_toArray, nilP_mk, add_mk, Nat.zero_add, Nat.add_zero, condT, condF, Bool.not_true, Bool.not_false, Option.isNone_some, Option.isNone_none])
  have hb : ansW w c.a0 q = if amongW w.live (numW (q.op == 1) q.to q.tgt) then ⟨9, q.to, q.frm, q.call, q.item, 1, 10 + q.to, []⟩ else if amongW w.gone (numW (q.op == 1) q.to q.tgt) then ⟨9, q.to, q.frm, q.call, q.item, 0, 10 + q.to, []⟩ else if q.op = 1 then ⟨9, q.to, q.frm, q.call, q.item, 2, 10 + q.to, holdW w c.a0 q.tgt⟩ else ⟨9, q.to, q.frm, q.call, q.item, 2, 10 + q.to, insW w q.to q.tgt⟩ := by
    unfold ansW
    rw [if_neg k1, if_neg k2]
  cases hlv : amongW w.live (numW (q.op == 1) q.to q.tgt)
  rotate_left
  · rw [hlv, if_pos rfl] at hb
    simp only [condT]
    refine g6.put (i := 0) rfl (show 12 < 19 by decide) fun H7 g7 => ?_
    exact nil ⟨9, q.to, q.frm, q.call, q.item, 1, 10 + q.to, []⟩ H7 hb.symm rfl g7
  rw [hlv, if_neg (by decide)] at hb
  simp only [condF]
  refine ldSl_of (g6.cell (i := 4) rfl rfl) (ldI_of (g6.cell (i := 2) rfl rfl) (ldI_of (g6.cell (i := 2) rfl rfl) (ldI_of (g6.cell (i := 2) rfl rfl) (numberC hto t1 t2 g6 fun H7 g7 => ?_))))
  (try simp only [asI_mk', asB_mk, asP_mk, asA_mk, asM_mk, asSl_mk, asStr_mk, tup2_mk, tup3_mk, agg1_mk, agg2_mk, agg3_mk, agg4_mk, asAggm, unCons_mk, unNil_mk, asTup_mk, extractD0, extractD1, List.toList_toArray, nilP_mk, add_mk, Nat.zero_add, Nat.add_zero, condT, condF, Bool.not_true, Bool.not_false, Option.isNone_some, Option.isNone_none])
  refine ⟨ldSl_of (g7.cell (i := 4) rfl rfl) rfl, amongC (g7.rd hw.gone.1) hw.gone.2 ?_⟩
  (try simp only [asI_mk', asB_mk, asP_mk, asA_mk, asM_mk, asSl_mk, asStr_mk, tup2_mk, tup3_mk, agg1_mk, agg2_mk, agg3_mk, agg4_mk, asAggm, unCons_mk, unNil_mk, asTup_mk, extractD0, extractD1, List.toList_toArray, nilP_mk, add_mk, Nat.zero_add, Nat.add_zero, condT, condF, Bool.not_true, Bool.not_false, Option.isNone_some, Option.isNone_none])
  cases hgn : amongW w.gone (numW (q.op == 1) q.to q.tgt)
  rotate_left
  · rw [hgn, if_pos rfl] at hb
    simp only [condT]
    refine g7.put (i := 0) rfl (show 12 < 19 by decide) fun H8 g8 => ?_
    exact nil ⟨9, q.to, q.frm, q.call, q.item, 0, 10 + q.to, []⟩ H8 hb.symm rfl g8
  rw [hgn, if_neg (by decide)] at hb
  simp only [condF]
  by_cases k3 : q.op = 1
  · rw [if_pos k3] at hb
    refine bif_eq k3 (ldSl_of (g7.cell (i := 4) rfl rfl) (ldSl_of (g7.cell (i := 4) rfl rfl) (ldSl_of (g7.cell (i := 4) rfl rfl) (ldSl_of (g7.cell (i := 4) rfl rfl) ?_))))
    refine ldI_of (g7.cell (i := 3) rfl rfl) (ldI_of (g7.cell (i := 3) rfl rfl) (ldI_of (g7.cell (i := 3) rfl rfl) (ldI_of (g7.cell (i := 3) rfl rfl) (ldI_of (g7.cell (i := 3) rfl rfl) (ldI_of (g7.cell (i := 3) rfl rfl) (ldI_of (g7.cell (i := 3) rfl rfl) (ldI_of (g7.cell (i := 3) rfl rfl) (ldI_of (g7.cell (i := 3) rfl rfl) (ldI_of (g7.cell (i := 3) rfl rfl) (ldI_of (g7.cell (i := 3) rfl rfl) (ldI_of (g7.cell (i := 3) rfl rfl) (ldI_of (g7.cell (i := 3) rfl rfl) (ldI_of (g7.cell (i := 3) rfl rfl) (ldI_of (g7.cell (i := 3) rfl rfl) (ldI_of (g7.cell (i := 3) rfl rfl) (ldI_of (g7.cell (i := 3) rfl rfl) (ldI_of (g7.cell (i := 3) rfl rfl) (ldI_of (g7.cell (i := 3) rfl rfl) (ldI_of (g7.cell (i := 3) rfl rfl) (ldI_of (g7.cell (i := 3) rfl rfl) (ldI_of (g7.cell (i := 3) rfl rfl) (?_))))))))))))))))))))))
    refine ldI_of (g7.cell (i := 2) rfl rfl) (ldI_of (g7.cell (i := 2) rfl rfl) (holdC hw hg t1 t2 g7 fun p n cap H8 g8 => ?_))
    (try simp only [asI_mk', asB_mk, asP_mk, asA_mk, asM_mk, asSl_mk, asStr_mk, tup2_mk, tup3_mk, agg1_mk, agg2_mk, agg3_mk, agg4_mk, asAggm, unCons_mk, unNil_mk, asTup_mk, extractD0, extractD1, List.toList_toArray, nilP_mk, add_mk, Nat.zero_add, Nat.add_zero, condT, condF, Bool.not_true, Bool.not_false, Option.isNone_some, Option.isNone_none])
    refine g8.put (i := 1) rfl (show 18 < 19 by decide) fun H9 g9 => ?_
    exact hR93 ⟨9, q.to, q.frm, q.call, q.item, 2, 10 + q.to, holdW w c.a0 q.tgt⟩ p n cap H9 hb.symm g9
  · rw [if_neg k3] at hb
    refine bif_ne k3 (ldSl_of (g7.cell (i := 4) rfl rfl) (ldSl_of (g7.cell (i := 4) rfl rfl) (ldSl_of (g7.cell (i := 4) rfl rfl) (ldSl_of (g7.cell (i := 4) rfl rfl) ?_))))
    refine ldI_of (g7.cell (i := 2) rfl rfl) (ldI_of (g7.cell (i := 2) rfl rfl) (ldI_of (g7.cell (i := 2) rfl rfl) (wInsC hw hto t2 g7 fun p n cap H8 g8 => ?_)))
    (try simp only [asI_mk', asB_mk, asP_mk, asA_mk, asM_mk, asSl_mk, asStr_mk, tup2_mk, tup3_mk, agg1_mk, agg2_mk, agg3_mk, agg4_mk, asAggm, unCons_mk, unNil_mk, asTup_mk, extractD0, extractD1, List.toList_toArray, nilP_mk, add_mk, Nat.zero_add, Nat.add_zero, condT, condF, Bool.not_true, Bool.not_false, Option.isNone_some, Option.isNone_none])
    refine g8.put (i := 1) rfl (show 18 < 19 by decide) fun H9 g9 => ?_
    exact hR93 ⟨9, q.to, q.frm, q.call, q.item, 2, 10 + q.to, insW w q.to q.tgt⟩ p n cap H9 hb.symm g9
end
end Go.Proofs.Ytknejebggegfjaa

namespace Go.Proofs.Ytknejebggegfjaa
open Go
set_option linter.unusedVariables false
set_option maxRecDepth 100000
def B_law23_Web_back (wInsP1 : Option Addr) (wInsL2 : Nat) (wInsC3 : Nat) (wOutsP4 : Option Addr) (wOutsL5 : Nat) (wOutsC6 : Nat) (wLiveP7 : Option Addr) (wLiveL8 : Nat) (wLiveC9 : Nat) (wGoneP10 : Option Addr) (wGoneL11 : Nat) (wGoneC12 : Nat) (cNodes13 : Int) (cMutators14 : Int) (cSlots15 : Int) (cCells16 : Int) (cObjects17 : Int) (cStubs18 : Int) (cCalls19 : Int) (cWindow20 : Int) (cGrey21 : Int) (cBag22 : Int) (cInbox23 : Int) (cUnit24 : Int) (cDrift25 : Int) (cLease26 : Int) (cWait27 : Int) (cMost28 : Int) (cPatience29 : Int) (cSuspect30 : Int) (cTrace31 : Int) (cWork32 : Int) (cStart33 : Int) (cLast34 : Int) (H : Hp) (K : Value → Hp → Prop) : Prop :=
 newB (.cells #[(.slice wInsP1 wInsL2 wInsC3), (.slice wOutsP4 wOutsL5 wOutsC6), (.slice wLiveP7 wLiveL8 wLiveC9), (.slice wGoneP10 wGoneL11 wGoneC12)] ty_law23_Web) H fun b35 Hx36 =>
 newB (.cells #[(.int .i64 cNodes13), (.int .i64 cMutators14), (.int .i64 cSlots15), (.int .i64 cCells16), (.int .i64 cObjects17), (.int .i64 cStubs18), (.int .i64 cCalls19), (.int .i64 cWindow20), (.int .i64 cGrey21), (.int .i64 cBag22), (.int .i64 cInbox23), (.int .u64 cUnit24), (.int .u64 cDrift25), (.int .u64 cLease26), (.int .u64 cWait27), (.int .u64 cMost28), (.int .u64 cPatience29), (.int .i64 cSuspect30), (.int .i64 cTrace31), (.int .i64 cWork32), (.int .u64 cStart33), (.int .u64 cLast34)] ty_api_Config) Hx36 fun b37 Hx38 =>
 hcall PR f_law23_stub ⟨[]⟩ Hx38 fun v39 Hx40 =>
 agg2 v39 fun v41 v42 =>
 asI .i64 v41 fun Node43 =>
 asI .u64 v42 fun Serial44 =>
 newB (.cells #[(.bool false), (.int .i64 1), (.int .i64 Node43), (.int .u64 Serial44), (.int .i64 0)] ty_trace_Item) Hx40 fun b45 Hx46 =>
 ∃ (I47 : Option Addr → Nat → Nat → Bool → Int → Hp → Prop) (m48 : Option Addr → Nat → Nat → Bool → Int → Hp → Nat), I47 (some ⟨b45, 0, none⟩) 1 1 false 0 Hx46 ∧ ∀ lP50 : Option Addr, ∀ lL51 : Nat, ∀ lC52 : Nat, ∀ live53 : Bool, ∀ i54 : Int, ∀ Hx49 : Hp, I47 lP50 lL51 lC52 live53 i54 Hx49 →
 (bif (decide ((i54 : Int) < (lL51 : Int))) then
 ∀ R55 : Option Addr → Nat → Nat → Bool → Hp → Prop, (∀ lP57 : Option Addr, ∀ lL58 : Nat, ∀ lC59 : Nat, ∀ live60 : Bool, ∀ Hx56 : Hp, (
 I47 lP57 lL58 lC59 live60 (IntKind.i64.wrap (i54 + 1)) Hx56 ∧ m48 lP57 lL58 lC59 live60 (IntKind.i64.wrap (i54 + 1)) Hx56 < m48 lP50 lL51 lC52 live53 i54 Hx49) → R55 lP57 lL58 lC59 live60 Hx56) →
 idxA lP50 lL51 i54 5 fun el61 =>
 ldB el61 Hx49 fun In62 =>
 ldI .i64 (el61.add 1) Hx49 fun Node63 =>
 ldI .i64 (el61.add 2) Hx49 fun Node64 =>
 ldI .u64 (el61.add 3) Hx49 fun Serial65 =>
 ldI .i64 (el61.add 4) Hx49 fun Code66 =>
 newB (.cells #[(.bool false), (.int .i64 0), (.int .i64 0), (.int .u64 0), (.int .i64 0)] ty_trace_Item) Hx49 fun b67 Hx68 =>
 st ⟨b67, 0, none⟩ (.bool In62) Hx68 fun Hx69 =>
 st ⟨b67, 1, none⟩ (.int .i64 Node63) Hx69 fun Hx70 =>
 st ⟨b67, 2, none⟩ (.int .i64 Node64) Hx70 fun Hx71 =>
 st ⟨b67, 3, none⟩ (.int .u64 Serial65) Hx71 fun Hx72 =>
 st ⟨b67, 4, none⟩ (.int .i64 Code66) Hx72 fun Hx73 =>
 ldSl ⟨b35, 2, none⟩ Hx73 fun LiveP74 LiveL75 LiveC76 =>
 ldB ⟨b67, 0, none⟩ Hx73 fun In77 =>
 ldI .i64 ⟨b67, 1, none⟩ Hx73 fun Node78 =>
 ldI .i64 ⟨b67, 2, none⟩ Hx73 fun Node79 =>
 ldI .u64 ⟨b67, 3, none⟩ Hx73 fun Serial80 =>
 hcall PR f_law23_number ⟨[(.bool In77), (.int .i64 Node78), (.agg #[(.int .i64 Node79), (.int .u64 Serial80)])]⟩ Hx73 fun v81 Hx82 =>
 asI .i64 v81 fun t83 =>
 (ldSl ⟨b35, 2, none⟩ Hx82 fun LiveP84 LiveL85 LiveC86 =>
 ((.slice LiveP84 LiveL85 LiveC86) : Value) = (.slice LiveP74 LiveL75 LiveC76)) ∧
 hcall PR f_law23_among ⟨[(.slice LiveP74 LiveL75 LiveC76), (.int .i64 t83)]⟩ Hx82 fun v87 Hx88 =>
 asB v87 fun t89 =>
 (bif t89 then
 R55 lP50 lL51 lC52 true Hx88
else
 ldSl ⟨b35, 3, none⟩ Hx88 fun GoneP90 GoneL91 GoneC92 =>
 ldB ⟨b67, 0, none⟩ Hx88 fun In93 =>
 ldI .i64 ⟨b67, 1, none⟩ Hx88 fun Node94 =>
 ldI .i64 ⟨b67, 2, none⟩ Hx88 fun Node95 =>
 ldI .u64 ⟨b67, 3, none⟩ Hx88 fun Serial96 =>
 hcall PR f_law23_number ⟨[(.bool In93), (.int .i64 Node94), (.agg #[(.int .i64 Node95), (.int .u64 Serial96)])]⟩ Hx88 fun v97 Hx98 =>
 asI .i64 v97 fun t99 =>
 (ldSl ⟨b35, 3, none⟩ Hx98 fun GoneP100 GoneL101 GoneC102 =>
 ((.slice GoneP100 GoneL101 GoneC102) : Value) = (.slice GoneP90 GoneL91 GoneC92)) ∧
 hcall PR f_law23_among ⟨[(.slice GoneP90 GoneL91 GoneC92), (.int .i64 t99)]⟩ Hx98 fun v103 Hx104 =>
 asB v103 fun t105 =>
 (bif t105 then
 R55 lP50 lL51 lC52 live53 Hx104
else
 ∀ R106 : Option Addr → Nat → Nat → Hp → Prop, (∀ moreP108 : Option Addr, ∀ moreL109 : Nat, ∀ moreC110 : Nat, ∀ Hx107 : Hp, (
 ∃ (I111 : Option Addr → Nat → Nat → Int → Hp → Prop) (m112 : Option Addr → Nat → Nat → Int → Hp → Nat), I111 lP50 lL51 lC52 0 Hx107 ∧ ∀ lP114 : Option Addr, ∀ lL115 : Nat, ∀ lC116 : Nat, ∀ k117 : Int, ∀ Hx113 : Hp, I111 lP114 lL115 lC116 k117 Hx113 →
 (bif (decide ((k117 : Int) < (moreL109 : Int))) then
 ∀ R118 : Option Addr → Nat → Nat → Hp → Prop, (∀ lP120 : Option Addr, ∀ lL121 : Nat, ∀ lC122 : Nat, ∀ Hx119 : Hp, (
 I111 lP120 lL121 lC122 (IntKind.i64.wrap (k117 + 1)) Hx119 ∧ m112 lP120 lL121 lC122 (IntKind.i64.wrap (k117 + 1)) Hx119 < m112 lP114 lL115 lC116 k117 Hx113) → R118 lP120 lL121 lC122 Hx119) →
 ∃ (I123 : Bool → Int → Hp → Prop) (m124 : Bool → Int → Hp → Nat), I123 false 0 Hx113 ∧ ∀ has126 : Bool, ∀ j127 : Int, ∀ Hx125 : Hp, I123 has126 j127 Hx125 →
 (bif (decide ((j127 : Int) < (lL115 : Int))) then
 ∀ R128 : Bool → Hp → Prop, (∀ has130 : Bool, ∀ Hx129 : Hp, (
 I123 has130 (IntKind.i64.wrap (j127 + 1)) Hx129 ∧ m124 has130 (IntKind.i64.wrap (j127 + 1)) Hx129 < m124 has126 j127 Hx125) → R128 has130 Hx129) →
 (bif has126 then
 R128 true Hx125
else
 idxA lP114 lL115 j127 5 fun el131 =>
 ldB el131 Hx125 fun In132 =>
 idxA moreP108 moreL109 k117 5 fun el133 =>
 ldB el133 Hx125 fun In134 =>
 (bif (In132 == In134) then
 idxA lP114 lL115 j127 5 fun el135 =>
 ldI .i64 (el135.add 1) Hx125 fun Node136 =>
 idxA moreP108 moreL109 k117 5 fun el137 =>
 ldI .i64 (el137.add 1) Hx125 fun Node138 =>
 (bif ((Node136 : Int) == Node138) then
 idxA lP114 lL115 j127 5 fun el139 =>
 ldI .i64 (el139.add 2) Hx125 fun Node140 =>
 ldI .u64 ((el139.add 2).add 1) Hx125 fun Serial141 =>
 idxA moreP108 moreL109 k117 5 fun el142 =>
 ldI .i64 (el142.add 2) Hx125 fun Node143 =>
 ldI .u64 ((el142.add 2).add 1) Hx125 fun Serial144 =>
 evR PR (aggEq .eql ty_api_ID #[(.int .i64 Node140), (.int .u64 Serial141)] #[(.int .i64 Node143), (.int .u64 Serial144)]) Hx125 fun v145 =>
 asB v145 fun eq146 =>
 R128 eq146 Hx125
else
 R128 false Hx125)
else
 R128 false Hx125))
else
 (bif (!has126) then
 idxA moreP108 moreL109 k117 5 fun el147 =>
 ldB el147 Hx125 fun In148 =>
 ldI .i64 (el147.add 1) Hx125 fun Node149 =>
 ldI .i64 (el147.add 2) Hx125 fun Node150 =>
 ldI .u64 (el147.add 3) Hx125 fun Serial151 =>
 ldI .i64 (el147.add 4) Hx125 fun Code152 =>
 newB (.cells #[(.bool In148), (.int .i64 Node149), (.int .i64 Node150), (.int .u64 Serial151), (.int .i64 Code152)] ty_trace_Item) Hx125 fun b153 Hx154 =>
 evW PR (Builtin.append_ #[ty_Strace_Item, ty_Strace_Item] ty_Strace_Item #[(.slice lP114 lL115 lC116), (.slice (some ⟨b153, 0, none⟩) 1 1)]) Hx154 fun v155 Hx156 =>
 asSl v155 fun tP157 tL158 tC159 =>
 R118 tP157 tL158 tC159 Hx156
else
 R118 lP114 lL115 lC116 Hx125))
else
 R55 lP114 lL115 lC116 live53 Hx113)) → R106 moreP108 moreL109 moreC110 Hx107) →
 ldB ⟨b67, 0, none⟩ Hx104 fun In160 =>
 (bif In160 then
 ldSl ⟨b35, 0, none⟩ Hx104 fun InsP161 InsL162 InsC163 =>
 ldSl ⟨b35, 1, none⟩ Hx104 fun OutsP164 OutsL165 OutsC166 =>
 ldSl ⟨b35, 2, none⟩ Hx104 fun LiveP167 LiveL168 LiveC169 =>
 ldSl ⟨b35, 3, none⟩ Hx104 fun GoneP170 GoneL171 GoneC172 =>
 ldI .i64 ⟨b37, 0, none⟩ Hx104 fun Nodes173 =>
 ldI .i64 ⟨b37, 1, none⟩ Hx104 fun Mutators174 =>
 ldI .i64 ⟨b37, 2, none⟩ Hx104 fun Slots175 =>
 ldI .i64 ⟨b37, 3, none⟩ Hx104 fun Cells176 =>
 ldI .i64 ⟨b37, 4, none⟩ Hx104 fun Objects177 =>
 ldI .i64 ⟨b37, 5, none⟩ Hx104 fun Stubs178 =>
 ldI .i64 ⟨b37, 6, none⟩ Hx104 fun Calls179 =>
 ldI .i64 ⟨b37, 7, none⟩ Hx104 fun Window180 =>
 ldI .i64 ⟨b37, 8, none⟩ Hx104 fun Grey181 =>
 ldI .i64 ⟨b37, 9, none⟩ Hx104 fun Bag182 =>
 ldI .i64 ⟨b37, 10, none⟩ Hx104 fun Inbox183 =>
 ldI .u64 ⟨b37, 11, none⟩ Hx104 fun Unit184 =>
 ldI .u64 ⟨b37, 12, none⟩ Hx104 fun Drift185 =>
 ldI .u64 ⟨b37, 13, none⟩ Hx104 fun Lease186 =>
 ldI .u64 ⟨b37, 14, none⟩ Hx104 fun Wait187 =>
 ldI .u64 ⟨b37, 15, none⟩ Hx104 fun Most188 =>
 ldI .u64 ⟨b37, 16, none⟩ Hx104 fun Patience189 =>
 ldI .i64 ⟨b37, 17, none⟩ Hx104 fun Suspect190 =>
 ldI .i64 ⟨b37, 18, none⟩ Hx104 fun Trace191 =>
 ldI .i64 ⟨b37, 19, none⟩ Hx104 fun Work192 =>
 ldI .u64 ⟨b37, 20, none⟩ Hx104 fun Start193 =>
 ldI .u64 ⟨b37, 21, none⟩ Hx104 fun Last194 =>
 ldI .i64 ⟨b67, 2, none⟩ Hx104 fun Node195 =>
 ldI .u64 ⟨b67, 3, none⟩ Hx104 fun Serial196 =>
 hcall PR f_law23_Web_holders ⟨[(.agg #[(.slice InsP161 InsL162 InsC163), (.slice OutsP164 OutsL165 OutsC166), (.slice LiveP167 LiveL168 LiveC169), (.slice GoneP170 GoneL171 GoneC172)]), (.agg #[(.int .i64 Nodes173), (.int .i64 Mutators174), (.int .i64 Slots175), (.int .i64 Cells176), (.int .i64 Objects177), (.int .i64 Stubs178), (.int .i64 Calls179), (.int .i64 Window180), (.int .i64 Grey181), (.int .i64 Bag182), (.int .i64 Inbox183), (.int .u64 Unit184), (.int .u64 Drift185), (.int .u64 Lease186), (.int .u64 Wait187), (.int .u64 Most188), (.int .u64 Patience189), (.int .i64 Suspect190), (.int .i64 Trace191), (.int .i64 Work192), (.int .u64 Start193), (.int .u64 Last194)]), (.agg #[(.int .i64 Node195), (.int .u64 Serial196)])]⟩ Hx104 fun v197 Hx198 =>
 asSl v197 fun tP199 tL200 tC201 =>
 ∃ (I202 : Option Addr → Nat → Nat → Int → Hp → Prop) (m203 : Option Addr → Nat → Nat → Int → Hp → Nat), I202 none 0 0 0 Hx198 ∧ ∀ moreP205 : Option Addr, ∀ moreL206 : Nat, ∀ moreC207 : Nat, ∀ k208 : Int, ∀ Hx204 : Hp, I202 moreP205 moreL206 moreC207 k208 Hx204 →
 (bif (decide ((k208 : Int) < (tL200 : Int))) then
 idxA tP199 tL200 k208 1 fun el209 =>
 ldI .u64 el209 Hx204 fun t210 =>
 ldI .i64 ⟨b67, 2, none⟩ Hx204 fun Node211 =>
 ldI .u64 ⟨b67, 3, none⟩ Hx204 fun Serial212 =>
 newB (.cells #[(.bool false), (.int .i64 (IntKind.i64.wrap t210)), (.int .i64 Node211), (.int .u64 Serial212), (.int .i64 0)] ty_trace_Item) Hx204 fun b213 Hx214 =>
 evW PR (Builtin.append_ #[ty_Strace_Item, ty_Strace_Item] ty_Strace_Item #[(.slice moreP205 moreL206 moreC207), (.slice (some ⟨b213, 0, none⟩) 1 1)]) Hx214 fun v215 Hx216 =>
 asSl v215 fun tP217 tL218 tC219 =>
 I202 tP217 tL218 tC219 (IntKind.i64.wrap (k208 + 1)) Hx216 ∧ m203 tP217 tL218 tC219 (IntKind.i64.wrap (k208 + 1)) Hx216 < m203 moreP205 moreL206 moreC207 k208 Hx204
else
 R106 moreP205 moreL206 moreC207 Hx204)
else
 ldSl ⟨b35, 0, none⟩ Hx104 fun InsP220 InsL221 InsC222 =>
 ldSl ⟨b35, 1, none⟩ Hx104 fun OutsP223 OutsL224 OutsC225 =>
 ldSl ⟨b35, 2, none⟩ Hx104 fun LiveP226 LiveL227 LiveC228 =>
 ldSl ⟨b35, 3, none⟩ Hx104 fun GoneP229 GoneL230 GoneC231 =>
 ldI .i64 ⟨b67, 1, none⟩ Hx104 fun Node232 =>
 ldI .i64 ⟨b67, 2, none⟩ Hx104 fun Node233 =>
 ldI .u64 ⟨b67, 3, none⟩ Hx104 fun Serial234 =>
 hcall PR f_law23_Web_ins ⟨[(.agg #[(.slice InsP220 InsL221 InsC222), (.slice OutsP223 OutsL224 OutsC225), (.slice LiveP226 LiveL227 LiveC228), (.slice GoneP229 GoneL230 GoneC231)]), (.int .i64 Node232), (.agg #[(.int .i64 Node233), (.int .u64 Serial234)])]⟩ Hx104 fun v235 Hx236 =>
 asSl v235 fun tP237 tL238 tC239 =>
 ∃ (I240 : Option Addr → Nat → Nat → Int → Hp → Prop) (m241 : Option Addr → Nat → Nat → Int → Hp → Nat), I240 none 0 0 0 Hx236 ∧ ∀ moreP243 : Option Addr, ∀ moreL244 : Nat, ∀ moreC245 : Nat, ∀ k246 : Int, ∀ Hx242 : Hp, I240 moreP243 moreL244 moreC245 k246 Hx242 →
 (bif (decide ((k246 : Int) < (tL238 : Int))) then
 ldI .i64 ⟨b67, 1, none⟩ Hx242 fun Node247 =>
 ldI .i64 ⟨b67, 1, none⟩ Hx242 fun Node248 =>
 idxA tP237 tL238 k246 1 fun el249 =>
 ldI .u64 el249 Hx242 fun t250 =>
 newB (.cells #[(.bool true), (.int .i64 Node247), (.int .i64 Node248), (.int .u64 t250), (.int .i64 0)] ty_trace_Item) Hx242 fun b251 Hx252 =>
 evW PR (Builtin.append_ #[ty_Strace_Item, ty_Strace_Item] ty_Strace_Item #[(.slice moreP243 moreL244 moreC245), (.slice (some ⟨b251, 0, none⟩) 1 1)]) Hx252 fun v253 Hx254 =>
 asSl v253 fun tP255 tL256 tC257 =>
 I240 tP255 tL256 tC257 (IntKind.i64.wrap (k246 + 1)) Hx254 ∧ m241 tP255 tL256 tC257 (IntKind.i64.wrap (k246 + 1)) Hx254 < m241 moreP243 moreL244 moreC245 k246 Hx242
else
 R106 moreP243 moreL244 moreC245 Hx242))))
else
 K (.tuple #[(.slice lP50 lL51 lC52), (.bool live53)]) Hx49)
theorem E_law23_Web_back (wInsP1 : Option Addr) (wInsL2 : Nat) (wInsC3 : Nat) (wOutsP4 : Option Addr) (wOutsL5 : Nat) (wOutsC6 : Nat) (wLiveP7 : Option Addr) (wLiveL8 : Nat) (wLiveC9 : Nat) (wGoneP10 : Option Addr) (wGoneL11 : Nat) (wGoneC12 : Nat) (cNodes13 : Int) (cMutators14 : Int) (cSlots15 : Int) (cCells16 : Int) (cObjects17 : Int) (cStubs18 : Int) (cCalls19 : Int) (cWindow20 : Int) (cGrey21 : Int) (cBag22 : Int) (cInbox23 : Int) (cUnit24 : Int) (cDrift25 : Int) (cLease26 : Int) (cWait27 : Int) (cMost28 : Int) (cPatience29 : Int) (cSuspect30 : Int) (cTrace31 : Int) (cWork32 : Int) (cStart33 : Int) (cLast34 : Int) (H : Hp) (K : Value → Hp → Prop) : B_law23_Web_back wInsP1 wInsL2 wInsC3 wOutsP4 wOutsL5 wOutsC6 wLiveP7 wLiveL8 wLiveC9 wGoneP10 wGoneL11 wGoneC12 cNodes13 cMutators14 cSlots15 cCells16 cObjects17 cStubs18 cCalls19 cWindow20 cGrey21 cBag22 cInbox23 cUnit24 cDrift25 cLease26 cWait27 cMost28 cPatience29 cSuspect30 cTrace31 cWork32 cStart33 cLast34 H K = denF Try.prog Try.f31 (.seq none .n (.seq none .n (.seq none .n (.seq none (.seq none .n (.sub (.loop ⟨[(6, .sl), (7, .bool), (8, .int .i64)], [2, 3]⟩ (.seq none .n (.seq (some ⟨[(6, .sl), (7, .bool)], [2, 3, 8]⟩) (.sub (.seq none .n (.seq none .n (.seq none .n (.seq none .n (.seq (some ⟨[(10, .sl)], [2, 3, 6, 7, 8]⟩) (.seq none .n (.two (.seq none .n (.seq none .n (.sub (.loop ⟨[(10, .sl), (12, .int .i64)], [2, 3, 6, 7, 8, 9, 11]⟩ .n)))) (.seq none .n (.seq none .n (.sub (.loop ⟨[(10, .sl), (14, .int .i64)], [2, 3, 6, 7, 8, 9, 13]⟩ .n)))))) (.seq none .n (.sub (.loop ⟨[(6, .sl), (15, .int .i64)], [2, 3, 7, 8, 10]⟩ (.seq none .n (.seq (some ⟨[(6, .sl)], [2, 3, 7, 8, 10, 15]⟩) (.sub (.seq none .n (.seq none (.seq none .n (.sub (.loop ⟨[(16, .bool), (17, .int .i64)], [2, 3, 6, 7, 8, 10, 15]⟩ (.seq none .n (.seq (some ⟨[(16, .bool)], [2, 3, 6, 7, 8, 10, 15, 17]⟩) .n .n))))) .n))) .n))))))))))) .n))))) .n)))) [(.agg #[(.slice wInsP1 wInsL2 wInsC3), (.slice wOutsP4 wOutsL5 wOutsC6), (.slice wLiveP7 wLiveL8 wLiveC9), (.slice wGoneP10 wGoneL11 wGoneC12)]), (.agg #[(.int .i64 cNodes13), (.int .i64 cMutators14), (.int .i64 cSlots15), (.int .i64 cCells16), (.int .i64 cObjects17), (.int .i64 cStubs18), (.int .i64 cCalls19), (.int .i64 cWindow20), (.int .i64 cGrey21), (.int .i64 cBag22), (.int .i64 cInbox23), (.int .u64 cUnit24), (.int .u64 cDrift25), (.int .u64 cLease26), (.int .u64 cWait27), (.int .u64 cMost28), (.int .u64 cPatience29), (.int .i64 cSuspect30), (.int .i64 cTrace31), (.int .i64 cWork32), (.int .u64 cStart33), (.int .u64 cLast34)])] H K := by kernel_rfl
theorem den_law23_Web_back {wInsP1 : Option Addr} {wInsL2 : Nat} {wInsC3 : Nat} {wOutsP4 : Option Addr} {wOutsL5 : Nat} {wOutsC6 : Nat} {wLiveP7 : Option Addr} {wLiveL8 : Nat} {wLiveC9 : Nat} {wGoneP10 : Option Addr} {wGoneL11 : Nat} {wGoneC12 : Nat} {cNodes13 : Int} {cMutators14 : Int} {cSlots15 : Int} {cCells16 : Int} {cObjects17 : Int} {cStubs18 : Int} {cCalls19 : Int} {cWindow20 : Int} {cGrey21 : Int} {cBag22 : Int} {cInbox23 : Int} {cUnit24 : Int} {cDrift25 : Int} {cLease26 : Int} {cWait27 : Int} {cMost28 : Int} {cPatience29 : Int} {cSuspect30 : Int} {cTrace31 : Int} {cWork32 : Int} {cStart33 : Int} {cLast34 : Int} {H : Hp} {K : Value → Hp → Prop} (h : B_law23_Web_back wInsP1 wInsL2 wInsC3 wOutsP4 wOutsL5 wOutsC6 wLiveP7 wLiveL8 wLiveC9 wGoneP10 wGoneL11 wGoneC12 cNodes13 cMutators14 cSlots15 cCells16 cObjects17 cStubs18 cCalls19 cWindow20 cGrey21 cBag22 cInbox23 cUnit24 cDrift25 cLease26 cWait27 cMost28 cPatience29 cSuspect30 cTrace31 cWork32 cStart33 cLast34 H K) : hcall PR f_law23_Web_back ⟨[(.agg #[(.slice wInsP1 wInsL2 wInsC3), (.slice wOutsP4 wOutsL5 wOutsC6), (.slice wLiveP7 wLiveL8 wLiveC9), (.slice wGoneP10 wGoneL11 wGoneC12)]), (.agg #[(.int .i64 cNodes13), (.int .i64 cMutators14), (.int .i64 cSlots15), (.int .i64 cCells16), (.int .i64 cObjects17), (.int .i64 cStubs18), (.int .i64 cCalls19), (.int .i64 cWindow20), (.int .i64 cGrey21), (.int .i64 cBag22), (.int .i64 cInbox23), (.int .u64 cUnit24), (.int .u64 cDrift25), (.int .u64 cLease26), (.int .u64 cWait27), (.int .u64 cMost28), (.int .u64 cPatience29), (.int .i64 cSuspect30), (.int .i64 cTrace31), (.int .i64 cWork32), (.int .u64 cStart33), (.int .u64 cLast34)])]⟩ H K := denF_call Try.func31 PR_mixed (Eq.mp (E_law23_Web_back wInsP1 wInsL2 wInsC3 wOutsP4 wOutsL5 wOutsC6 wLiveP7 wLiveL8 wLiveC9 wGoneP10 wGoneL11 wGoneC12 cNodes13 cMutators14 cSlots15 cCells16 cObjects17 cStubs18 cCalls19 cWindow20 cGrey21 cBag22 cInbox23 cUnit24 cDrift25 cLease26 cWait27 cMost28 cPatience29 cSuspect30 cTrace31 cWork32 cStart33 cLast34 H K) h)

end Go.Proofs.Ytknejebggegfjaa
