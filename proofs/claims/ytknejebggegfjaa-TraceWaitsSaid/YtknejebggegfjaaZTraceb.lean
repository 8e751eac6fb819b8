/- Merged by merge.py: TrP5, TrC, DenLaw23, TrD. No condition. -/
import Derived.Test.YtknejebggegfjaaZTrace
import Derived.Test.YtknejebggegfjaaZPaint
import Derived.Test.YtknejebggegfjaaZHeap
import Derived.Test.YtknejebggegfjaaZNum

namespace Go.Proofs.Ytknejebggegfjaa
set_option linter.unusedSimpArgs false
set_option linter.unusedVariables false
open Go
def Tr.asks (t : Tr) (now : Int) : Bool := !decide (t.st = 0) && pastB t.sent t.wait now
def Tr.beginE (nodes : Int) (t : Tr) (n s : Int) : Int :=
  if t.st ≠ 0 then 10 else if n < 1 then 1 else if n > nodes then 1 else if n = t.node then 1 else if s < 1 then 1 else if s > 72057594037927935 then 1 else if t.num = 72057594037927935 then 7 else 0
def Tr.begun (t : Tr) (n s now : Int) : Tr := { t with num := IntKind.u64.wrap (t.num + 1), st := 1, items := [⟨false, t.node, ⟨n, s⟩, 0⟩], sm := [], opn := 0, todo := [], sent := now, wait := 0 }
def newTr (node last : Int) : Tr := ⟨node, last, 0, 0, [], [], 0, [], 0, 0⟩
theorem newTr_ok {nodes node last : Int} : (newTr node last).ok nodes := ⟨by simp [newTr], by simp [newTr], fun x hx => (by cases hx), List.Pairwise.nil, fun e he => (by cases he), fun h => absurd h (by simp [newTr]), fun h => absurd h (by simp [newTr]), fun h => absurd h (by simp [newTr])⟩
theorem Tr.begun_ok {nodes : Int} {t : Tr} {n s now : Int} (h : 1 ≤ t.node ∧ t.node ≤ nodes) : (t.begun n s now).ok nodes :=
  ⟨by simp [Tr.begun], by simp [Tr.begun], fun x hx => (by simp [Tr.begun] at hx; rw [hx]; exact h), List.Pairwise.nil, fun e he => (by cases he), fun _ => ⟨by simp [Tr.begun], by simp [Tr.begun], rfl⟩, fun h => absurd h (by simp [Tr.begun]), fun h => absurd h (by simp [Tr.begun])⟩

section
variable {H0 H : Hp} {L M N : List Prt} {i k tb : Nat} {c : Cf} {t : Tr} {m : Ms} {K : Value → Hp → Prop}
theorem St.midin {A : Prt} (h : St H0 (A :: (N ++ M)) H) : St H0 (N ++ (A :: M)) H := h.perm List.perm_middle.symm
theorem St.midless {A : Prt} (h : St H0 (N ++ (A :: M)) H) : St H0 (N ++ M) H := (h.perm List.perm_middle).less
theorem St.oneRow {b q n : Nat} {c : Array Value} {e : TypeId} (h : St H0 L H) (hi : L[i]? = some (Prt.one b (.cells c e (0, 0)))) (hs : c.size = n * q) : St H0 (L.set i (Prt.row q (some ⟨b, 0, none⟩) n n c.toList)) H := by
  obtain ⟨Fi, ha, up⟩ := h.at hi
  have ho : Own H q (some ⟨b, 0, none⟩) n n c.toList := ⟨by simpa using hs, Nat.le_refl _, rfl, c, e, ha.1, by simp only [hs]; omega, fun i hi => by simp⟩
  have e : Fi = blk (some ⟨b, 0, none⟩) := funext fun c => propext ((ha.2 c).trans ⟨fun h => blk_some.2 h.symm, fun h => (blk_some.1 h).symm⟩)
  refine up _ (blk (some ⟨b, 0, none⟩)) H (Prt.row_holds ho) ?_
  rw [e]
  exact Goes.refl _ _

theorem trStateC (h : St H0 L H) (hk : L[k]? = some (TrP tb c t)) (hK : K (.int .i64 t.st) H) : hcall PR f_trace_Trace_State ⟨[.pointer (some ⟨tb, 0, none⟩)]⟩ H K := by
  apply den_trace_Trace_State
  unfold B_trace_Trace_State
  obtain ⟨x, M, g, ho, hot, shut⟩ := trTake h hk
  exact ldI_of (g.cell (i := 0) rfl rfl) hK
theorem trCountC (h : St H0 L H) (hk : L[k]? = some (TrP tb c t)) (hK : K (.tuple #[.int .u64 t.num, .int .i64 t.found]) H) : hcall PR f_trace_Trace_Count ⟨[.pointer (some ⟨tb, 0, none⟩)]⟩ H K := by
  apply den_trace_Trace_Count
  unfold B_trace_Trace_Count
  obtain ⟨x, M, g, ho, hot, shut⟩ := trTake h hk
  exact ldI_of (g.cell (i := 0) rfl rfl) (ldI_of (g.cell (i := 0) rfl rfl) hK)
theorem trStepC {now : Int} (h : St H0 L H) (hk : L[k]? = some (TrP tb c t))
    (hN : t.asks now = false → ∀ H', St H0 L H' → K (.tuple #[.agg #[.int .i64 0, .int .i64 0, .int .i64 0, .int .u64 0, .int .u64 0, .int .i64 0, .int .i64 0, .int .i64 0, .int .i64 0, .int .u64 0, .slice none 0 0, .int .u64 0, .int .i64 0, .int .u64 0, .int .i64 0, .int .u64 0, .int .i64 0, .int .u64 0, .slice none 0 0], .bool false]) H')
    (hK : t.asks now = true → ∀ H', St H0 (L.set k (TrP tb c (t.told c.a14 c.a15 now))) H' → K (.tuple #[t.q.val, .bool true]) H') :
    hcall PR f_trace_Trace_Step ⟨[.pointer (some ⟨tb, 0, none⟩), .int .u64 now]⟩ H K := by
  apply den_trace_Trace_Step
  unfold B_trace_Trace_Step
  obtain ⟨x, M, g, ho, hot, shut⟩ := trTake h hk
  intro b3 hb3
  have g1 := g.alloc (o := .cells #[.int .i64 0, .int .i64 0, .int .i64 0, .int .u64 0, .int .u64 0, .int .i64 0, .int .i64 0, .int .i64 0, .int .i64 0, .int .u64 0, .slice none 0 0, .int .u64 0, .int .i64 0, .int .u64 0, .int .i64 0, .int .u64 0, .int .i64 0, .int .u64 0, .slice none 0 0] ty_api_Msg) hb3
  have no : t.asks now = false → ∀ H2, St H0 (Prt.one b3 (.cells #[.int .i64 0, .int .i64 0, .int .i64 0, .int .u64 0, .int .u64 0, .int .i64 0, .int .i64 0, .int .i64 0, .int .i64 0, .int .u64 0, .slice none 0 0, .int .u64 0, .int .i64 0, .int .u64 0, .int .i64 0, .int .u64 0, .int .i64 0, .int .u64 0, .slice none 0 0] ty_api_Msg (0, 0)) :: (trRaw tb c t x (smV t x) (smP t x) True ++ M)) H2 → K (.tuple #[.agg #[.int .i64 0, .int .i64 0, .int .i64 0, .int .u64 0, .int .u64 0, .int .i64 0, .int .i64 0, .int .i64 0, .int .i64 0, .int .u64 0, .slice none 0 0, .int .u64 0, .int .i64 0, .int .u64 0, .int .i64 0, .int .u64 0, .int .i64 0, .int .u64 0, .slice none 0 0], .bool false]) H2 := fun hf H2 g2 => by
    refine hN hf H2 ?_
    have := shut [] t x H2 ho g2.less
    rw [List.set_self hk] at this
    exact this
  (try simp only [asI_mk', asB_mk, asP_mk, asA_mk, asM_mk, asSl_mk, asStr_mk, tup2_mk, tup3_mk, agg1_mk, agg2_mk, agg3_mk, agg4_mk, asAggm, unCons_mk, unNil_mk, asTup_mk, extractD0, extractD1, List.toList_toArray, nilP_mk, add_mk, Nat.zero_add, Nat.add_zero, condT, condF, Bool.not_true, Bool.not_false, Option.isNone_some, Option.isNone_none])
  refine ldI_of (g1.cell (i := 1) rfl rfl) ?_
  by_cases h0 : t.st = 0
  · refine bif_eq h0 ?_
    refine St.sets (i := 0) (o := 0) (vs := [.int .i64 0, .int .i64 0, .int .i64 0, .int .u64 0, .int .u64 0, .int .i64 0, .int .i64 0, .int .i64 0, .int .i64 0, .int .u64 0, .slice none 0 0, .int .u64 0, .int .i64 0, .int .u64 0, .int .i64 0, .int .u64 0, .int .i64 0, .int .u64 0, .slice none 0 0]) g1 rfl (by simp) fun H2 g2 => ?_
    rw [setsA_all (by rfl)] at g2
    have g2 : St H0 (Prt.one b3 (.cells #[.int .i64 0, .int .i64 0, .int .i64 0, .int .u64 0, .int .u64 0, .int .i64 0, .int .i64 0, .int .i64 0, .int .i64 0, .int .u64 0, .slice none 0 0, .int .u64 0, .int .i64 0, .int .u64 0, .int .i64 0, .int .u64 0, .int .i64 0, .int .u64 0, .slice none 0 0] ty_api_Msg (0, 0)) :: (trRaw tb c t x (smV t x) (smP t x) True ++ M)) H2 := g2
    refine ldI_of (g2.cell (i := 0) rfl rfl) (ldI_of (g2.cell (i := 0) rfl rfl) (ldI_of (g2.cell (i := 0) rfl rfl) (ldI_of (g2.cell (i := 0) rfl rfl) (ldI_of (g2.cell (i := 0) rfl rfl) (ldI_of (g2.cell (i := 0) rfl rfl) (ldI_of (g2.cell (i := 0) rfl rfl) (ldI_of (g2.cell (i := 0) rfl rfl) (ldI_of (g2.cell (i := 0) rfl rfl) (ldI_of (g2.cell (i := 0) rfl rfl) (ldSl_of (g2.cell (i := 0) rfl rfl) (ldI_of (g2.cell (i := 0) rfl rfl) (ldI_of (g2.cell (i := 0) rfl rfl) (ldI_of (g2.cell (i := 0) rfl rfl) (ldI_of (g2.cell (i := 0) rfl rfl) (ldI_of (g2.cell (i := 0) rfl rfl) (ldI_of (g2.cell (i := 0) rfl rfl) (ldI_of (g2.cell (i := 0) rfl rfl) (ldSl_of (g2.cell (i := 0) rfl rfl) (?_)))))))))))))))))))
    exact no (by unfold Tr.asks; rw [decide_eq_true h0]; rfl) H2 g2
  refine bif_ne h0 (ldI_of (g1.cell (i := 1) rfl rfl) (ldI_of (g1.cell (i := 1) rfl rfl) (pastC ?_)))
  (try simp only [asI_mk', asB_mk, asP_mk, asA_mk, asM_mk, asSl_mk, asStr_mk, tup2_mk, tup3_mk, agg1_mk, agg2_mk, agg3_mk, agg4_mk, asAggm, unCons_mk, unNil_mk, asTup_mk, extractD0, extractD1, List.toList_toArray, nilP_mk, add_mk, Nat.zero_add, Nat.add_zero, condT, condF, Bool.not_true, Bool.not_false, Option.isNone_some, Option.isNone_none])
  have hask : t.asks now = pastB t.sent t.wait now := by unfold Tr.asks; rw [decide_eq_false h0]; rfl
  cases hp : pastB t.sent t.wait now
  · simp only [Bool.not_false, condT]
    refine St.sets (i := 0) (o := 0) (vs := [.int .i64 0, .int .i64 0, .int .i64 0, .int .u64 0, .int .u64 0, .int .i64 0, .int .i64 0, .int .i64 0, .int .i64 0, .int .u64 0, .slice none 0 0, .int .u64 0, .int .i64 0, .int .u64 0, .int .i64 0, .int .u64 0, .int .i64 0, .int .u64 0, .slice none 0 0]) g1 rfl (by simp) fun H2 g2 => ?_
    rw [setsA_all (by rfl)] at g2
    have g2 : St H0 (Prt.one b3 (.cells #[.int .i64 0, .int .i64 0, .int .i64 0, .int .u64 0, .int .u64 0, .int .i64 0, .int .i64 0, .int .i64 0, .int .i64 0, .int .u64 0, .slice none 0 0, .int .u64 0, .int .i64 0, .int .u64 0, .int .i64 0, .int .u64 0, .int .i64 0, .int .u64 0, .slice none 0 0] ty_api_Msg (0, 0)) :: (trRaw tb c t x (smV t x) (smP t x) True ++ M)) H2 := g2
    refine ldI_of (g2.cell (i := 0) rfl rfl) (ldI_of (g2.cell (i := 0) rfl rfl) (ldI_of (g2.cell (i := 0) rfl rfl) (ldI_of (g2.cell (i := 0) rfl rfl) (ldI_of (g2.cell (i := 0) rfl rfl) (ldI_of (g2.cell (i := 0) rfl rfl) (ldI_of (g2.cell (i := 0) rfl rfl) (ldI_of (g2.cell (i := 0) rfl rfl) (ldI_of (g2.cell (i := 0) rfl rfl) (ldI_of (g2.cell (i := 0) rfl rfl) (ldSl_of (g2.cell (i := 0) rfl rfl) (ldI_of (g2.cell (i := 0) rfl rfl) (ldI_of (g2.cell (i := 0) rfl rfl) (ldI_of (g2.cell (i := 0) rfl rfl) (ldI_of (g2.cell (i := 0) rfl rfl) (ldI_of (g2.cell (i := 0) rfl rfl) (ldI_of (g2.cell (i := 0) rfl rfl) (ldI_of (g2.cell (i := 0) rfl rfl) (ldSl_of (g2.cell (i := 0) rfl rfl) (?_)))))))))))))))))))
    exact no (by rw [hask, hp]) H2 g2
  simp only [Bool.not_true, condF]
  refine g1.put (i := 1) rfl (show 30 < 32 by decide) fun H2 g2 => ?_
  have g2 : St H0 (Prt.one b3 (.cells #[.int .i64 0, .int .i64 0, .int .i64 0, .int .u64 0, .int .u64 0, .int .i64 0, .int .i64 0, .int .i64 0, .int .i64 0, .int .u64 0, .slice none 0 0, .int .u64 0, .int .i64 0, .int .u64 0, .int .i64 0, .int .u64 0, .int .i64 0, .int .u64 0, .slice none 0 0] ty_api_Msg (0, 0)) :: (trRaw tb c { t with sent := now } x (smV t x) (smP t x) True ++ M)) H2 := g2
  refine ldI_of (g2.cell (i := 1) rfl rfl) (ldI_of (g2.cell (i := 1) rfl rfl) (ldI_of (g2.cell (i := 1) rfl rfl) (lWaitC ?_)))
  (try simp only [asI_mk', asB_mk, asP_mk, asA_mk, asM_mk, asSl_mk, asStr_mk, tup2_mk, tup3_mk, agg1_mk, agg2_mk, agg3_mk, agg4_mk, asAggm, unCons_mk, unNil_mk, asTup_mk, extractD0, extractD1, List.toList_toArray, nilP_mk, add_mk, Nat.zero_add, Nat.add_zero, condT, condF, Bool.not_true, Bool.not_false, Option.isNone_some, Option.isNone_none])
  refine g2.put (i := 1) rfl (show 31 < 32 by decide) fun H3 g3 => ?_
  have g3 : St H0 (Prt.one b3 (.cells #[.int .i64 0, .int .i64 0, .int .i64 0, .int .u64 0, .int .u64 0, .int .i64 0, .int .i64 0, .int .i64 0, .int .i64 0, .int .u64 0, .slice none 0 0, .int .u64 0, .int .i64 0, .int .u64 0, .int .i64 0, .int .u64 0, .int .i64 0, .int .u64 0, .slice none 0 0] ty_api_Msg (0, 0)) :: (trRaw tb c (t.told c.a14 c.a15 now) x (smV t x) (smP t x) True ++ M)) H3 := g3
  refine trQuestionC (t := t.told c.a14 c.a15 now) (M := Prt.one b3 (.cells #[.int .i64 0, .int .i64 0, .int .i64 0, .int .u64 0, .int .u64 0, .int .i64 0, .int .i64 0, .int .i64 0, .int .i64 0, .int .u64 0, .slice none 0 0, .int .u64 0, .int .i64 0, .int .u64 0, .int .i64 0, .int .u64 0, .int .i64 0, .int .u64 0, .slice none 0 0] ty_api_Msg (0, 0)) :: M) g3.midin ho.told h0 (smV_on h0) (smP_on h0) fun H4 g4 => ?_
  (try simp only [asI_mk', asB_mk, asP_mk, asA_mk, asM_mk, asSl_mk, asStr_mk, tup2_mk, tup3_mk, agg1_mk, agg2_mk, agg3_mk, agg4_mk, asAggm, unCons_mk, unNil_mk, asTup_mk, extractD0, extractD1, List.toList_toArray, nilP_mk, add_mk, Nat.zero_add, Nat.add_zero, condT, condF, Bool.not_true, Bool.not_false, Option.isNone_some, Option.isNone_none])
  have hq : (t.told c.a14 c.a15 now).q = t.q := rfl
  rw [hq]
  refine St.sets (i := 5) (o := 0) (vs := t.q.cells) g4 rfl (by simp [Qn.cells]) fun H5 g5 => ?_
  rw [setsA_all (by rfl)] at g5
  have g5 : St H0 (trRaw tb c (t.told c.a14 c.a15 now) x (smV t x) (smP t x) True ++ (Prt.one b3 (.cells t.q.cells.toArray ty_api_Msg (0, 0)) :: M)) H5 := g5
  refine ldI_of (g5.cell (i := 5) rfl rfl) (ldI_of (g5.cell (i := 5) rfl rfl) (ldI_of (g5.cell (i := 5) rfl rfl) (ldI_of (g5.cell (i := 5) rfl rfl) (ldI_of (g5.cell (i := 5) rfl rfl) (ldI_of (g5.cell (i := 5) rfl rfl) (ldI_of (g5.cell (i := 5) rfl rfl) (ldI_of (g5.cell (i := 5) rfl rfl) (ldI_of (g5.cell (i := 5) rfl rfl) (ldI_of (g5.cell (i := 5) rfl rfl) (ldSl_of (g5.cell (i := 5) rfl rfl) (ldI_of (g5.cell (i := 5) rfl rfl) (ldI_of (g5.cell (i := 5) rfl rfl) (ldI_of (g5.cell (i := 5) rfl rfl) (ldI_of (g5.cell (i := 5) rfl rfl) (ldI_of (g5.cell (i := 5) rfl rfl) (ldI_of (g5.cell (i := 5) rfl rfl) (ldI_of (g5.cell (i := 5) rfl rfl) (ldSl_of (g5.cell (i := 5) rfl rfl) (?_)))))))))))))))))))
  exact hK (by rw [hask, hp]) H5 (shut [] (t.told c.a14 c.a15 now) x H5 ho.told g5.midless)

theorem trHearC {f4 f5 f6 f8 f9 f11 f13 f14 f15 f16 : Int} {rp lp : Option Addr} {rl rc ll lc : Nat} (h : St H0 L H) (hk : L[k]? = some (TrP tb c t)) (hn : 1 ≤ c.a0 ∧ c.a0 ≤ 12) (hll : ll = m.list.length) (hlb : ll ≤ 4611686018427387903) (hm0 : ∀ n ∈ m.list, 0 ≤ n ∧ n < 18446744073709551616)
    (hrd : ∀ N M H', (∀ i A, L[i]? = some A → i ≠ k → M[i]? = some A) → St H0 (N ++ M) H' → Rd H' 1 lp ll (m.list.map (Value.int .u64)))
    (hK : ∀ H', St H0 (L.set k (TrP tb c (t.hear c.a0 m))) H' → K (.bool (t.heeds m)) H') :
    hcall PR f_trace_Trace_Hear ⟨[.pointer (some ⟨tb, 0, none⟩), .agg #[.int .i64 m.kind, .int .i64 m.frm, .int .i64 m.to, .int .u64 m.call, .int .u64 f4, .int .i64 f5, .int .i64 f6, .int .i64 m.item, .int .i64 f8, .int .u64 f9, .slice rp rl rc, .int .u64 f11, .int .i64 m.code, .int .u64 f13, .int .i64 f14, .int .u64 f15, .int .i64 f16, .int .u64 m.stamp, .slice lp ll lc]]⟩ H K := by
  apply den_trace_Trace_Hear
  unfold B_trace_Trace_Hear
  obtain ⟨x, M, g, ho, hot, shut⟩ := trTake h hk
  have hrd := fun N H' h' => hrd N M H' hot h'
  clear hot
  intro b25 hb25
  have g1 := g.alloc (o := .cells #[.int .i64 m.kind, .int .i64 m.frm, .int .i64 m.to, .int .u64 m.call, .int .u64 f4, .int .i64 f5, .int .i64 f6, .int .i64 m.item, .int .i64 f8, .int .u64 f9, .slice rp rl rc, .int .u64 f11, .int .i64 m.code, .int .u64 f13, .int .i64 f14, .int .u64 f15, .int .i64 f16, .int .u64 m.stamp, .slice lp ll lc] ty_api_Msg) hb25
  have g1 : St H0 (trRaw tb c t x (smV t x) (smP t x) True ++ (Prt.one b25 (.cells #[.int .i64 m.kind, .int .i64 m.frm, .int .i64 m.to, .int .u64 m.call, .int .u64 f4, .int .i64 f5, .int .i64 f6, .int .i64 m.item, .int .i64 f8, .int .u64 f9, .slice rp rl rc, .int .u64 f11, .int .i64 m.code, .int .u64 f13, .int .i64 f14, .int .u64 f15, .int .i64 f16, .int .u64 m.stamp, .slice lp ll lc] ty_api_Msg (0, 0)) :: M)) _ := g1.midin
  have no : t.heeds m = false → ∀ H2, St H0 (trRaw tb c t x (smV t x) (smP t x) True ++ (Prt.one b25 (.cells #[.int .i64 m.kind, .int .i64 m.frm, .int .i64 m.to, .int .u64 m.call, .int .u64 f4, .int .i64 f5, .int .i64 f6, .int .i64 m.item, .int .i64 f8, .int .u64 f9, .slice rp rl rc, .int .u64 f11, .int .i64 m.code, .int .u64 f13, .int .i64 f14, .int .u64 f15, .int .i64 f16, .int .u64 m.stamp, .slice lp ll lc] ty_api_Msg (0, 0)) :: M)) H2 → K (.bool false) H2 := fun hf H2 g2 => by
    have e : t.hear c.a0 m = t := by unfold Tr.hear; rw [if_pos hf]
    rw [e, hf] at hK
    exact hK H2 (shut [] t x H2 ho g2.midless)
  (try simp only [asI_mk', asB_mk, asP_mk, asA_mk, asM_mk, asSl_mk, asStr_mk, tup2_mk, tup3_mk, agg1_mk, agg2_mk, agg3_mk, agg4_mk, asAggm, unCons_mk, unNil_mk, asTup_mk, extractD0, extractD1, List.toList_toArray, nilP_mk, add_mk, Nat.zero_add, Nat.add_zero, condT, condF, Bool.not_true, Bool.not_false, Option.isNone_some, Option.isNone_none])
  refine ldI_of (g1.cell (i := 0) rfl rfl) ?_
  by_cases h0 : t.st = 0
  · exact bif_eq h0 (no (by unfold Tr.heeds; rw [decide_eq_true h0]; rfl) _ g1)
  refine bif_ne h0 (trQuestionC g1 ho h0 (smV_on h0) (smP_on h0) fun H2 g2 => ?_)
  (try simp only [asI_mk', asB_mk, asP_mk, asA_mk, asM_mk, asSl_mk, asStr_mk, tup2_mk, tup3_mk, agg1_mk, agg2_mk, agg3_mk, agg4_mk, asAggm, unCons_mk, unNil_mk, asTup_mk, extractD0, extractD1, List.toList_toArray, nilP_mk, add_mk, Nat.zero_add, Nat.add_zero, condT, condF, Bool.not_true, Bool.not_false, Option.isNone_some, Option.isNone_none])
  have he : t.heeds m = (decide (m.kind = if t.st = 3 then 11 else 9) && (decide (m.call = t.q.call) && (decide (m.item = t.q.item) && (decide (m.frm = t.q.to) && decide (m.to = t.node))))) := by unfold Tr.heeds; rw [decide_eq_false h0]; rfl
  clear g1
  intro b93 hb93
  have g3 := g2.alloc (o := .cells #[.int .i64 0, .int .i64 0, .int .i64 0, .int .u64 0, .int .u64 0, .int .i64 0, .int .i64 0, .int .i64 0, .int .i64 0, .int .u64 0, .slice none 0 0, .int .u64 0, .int .i64 0, .int .u64 0, .int .i64 0, .int .u64 0, .int .i64 0, .int .u64 0, .slice none 0 0] ty_api_Msg) hb93
  refine St.sets (i := 0) (o := 0) (vs := t.q.cells) g3 rfl (by simp [Qn.cells]) fun H4 g4 => ?_
  rw [setsA_all (by rfl)] at g4
  have g4 : St H0 (Prt.one b93 (.cells t.q.cells.toArray ty_api_Msg (0, 0)) :: (trRaw tb c t x (smV t x) (smP t x) True ++ (Prt.one b25 (.cells #[.int .i64 m.kind, .int .i64 m.frm, .int .i64 m.to, .int .u64 m.call, .int .u64 f4, .int .i64 f5, .int .i64 f6, .int .i64 m.item, .int .i64 f8, .int .u64 f9, .slice rp rl rc, .int .u64 f11, .int .i64 m.code, .int .u64 f13, .int .i64 f14, .int .u64 f15, .int .i64 f16, .int .u64 m.stamp, .slice lp ll lc] ty_api_Msg (0, 0)) :: M))) H4 := g4
  clear g3 g2
  intro R114 hR114
  have hR114 : R114 (if t.st = 3 then 11 else 9) H4 := by
    refine hR114 _ H4 ?_
    refine ldI_of (g4.cell (i := 6) rfl rfl) ?_
    by_cases q1 : m.kind = if t.st = 3 then 11 else 9
    rotate_left
    · exact bif_neq q1 (no (by rw [he, decide_eq_false q1]; rfl) _ g4.less)
    rw [decide_eq_true q1, Bool.true_and] at he
    refine bif_neqf q1 (ldI_of (g4.cell (i := 6) rfl rfl) (ldI_of (g4.cell (i := 0) rfl rfl) ?_))
    by_cases q2 : m.call = t.q.call
    rotate_left
    · exact bif_neq q2 (no (by rw [he, decide_eq_false q2]; rfl) _ g4.less)
    rw [decide_eq_true q2, Bool.true_and] at he
    refine bif_neqf q2 (ldI_of (g4.cell (i := 6) rfl rfl) (ldI_of (g4.cell (i := 0) rfl rfl) ?_))
    by_cases q3 : m.item = t.q.item
    rotate_left
    · exact bif_neq q3 (no (by rw [he, decide_eq_false q3]; rfl) _ g4.less)
    rw [decide_eq_true q3, Bool.true_and] at he
    refine bif_neqf q3 (ldI_of (g4.cell (i := 6) rfl rfl) (ldI_of (g4.cell (i := 0) rfl rfl) ?_))
    by_cases q4 : m.frm = t.q.to
    rotate_left
    · exact bif_neq q4 (no (by rw [he, decide_eq_false q4]; rfl) _ g4.less)
    rw [decide_eq_true q4, Bool.true_and] at he
    refine bif_neqf q4 (ldI_of (g4.cell (i := 6) rfl rfl) (ldI_of (g4.cell (i := 1) rfl rfl) ?_))
    by_cases q5 : m.to = t.node
    rotate_left
    · exact bif_neq q5 (no (by rw [he, decide_eq_false q5]) _ g4.less)
    rw [decide_eq_true q5] at he
    refine bif_neqf q5 (ldI_of (g4.cell (i := 1) rfl rfl) ?_)
    have hh : t.hear c.a0 m = if t.st = 1 then t.asked c.a0 m.code m.stamp m.list else if t.st = 2 then t.checked m.stamp else t.buried := by unfold Tr.hear; rw [if_neg (by rw [he]; decide)]
    rw [he] at hK
    have g4 : St H0 (Prt.one b93 (.cells t.q.cells.toArray ty_api_Msg (0, 0)) :: (trRaw tb c t x (.map (some x.mb)) (Prt.mp x.mb (ments (Value.int .i64) (Value.int .u64) t.sm)) True ++ (Prt.one b25 (.cells #[.int .i64 m.kind, .int .i64 m.frm, .int .i64 m.to, .int .u64 m.call, .int .u64 f4, .int .i64 f5, .int .i64 f6, .int .i64 m.item, .int .i64 f8, .int .u64 f9, .slice rp rl rc, .int .u64 f11, .int .i64 m.code, .int .u64 f13, .int .i64 f14, .int .u64 f15, .int .i64 f16, .int .u64 m.stamp, .slice lp ll lc] ty_api_Msg (0, 0)) :: M))) H4 := by
      rw [smV_on h0, smP_on h0] at g4
      exact g4
    by_cases s1 : t.st = 1
    · rw [if_pos s1] at hh
      refine bif_eq s1 ?_
      refine ldI_of (g4.cell (i := 6) rfl rfl) (ldI_of (g4.cell (i := 6) rfl rfl) (ldI_of (g4.cell (i := 6) rfl rfl) (ldI_of (g4.cell (i := 6) rfl rfl) (ldI_of (g4.cell (i := 6) rfl rfl) (ldI_of (g4.cell (i := 6) rfl rfl) (ldI_of (g4.cell (i := 6) rfl rfl) (ldI_of (g4.cell (i := 6) rfl rfl) (ldI_of (g4.cell (i := 6) rfl rfl) (ldI_of (g4.cell (i := 6) rfl rfl) (ldSl_of (g4.cell (i := 6) rfl rfl) (ldI_of (g4.cell (i := 6) rfl rfl) (ldI_of (g4.cell (i := 6) rfl rfl) (ldI_of (g4.cell (i := 6) rfl rfl) (ldI_of (g4.cell (i := 6) rfl rfl) (ldI_of (g4.cell (i := 6) rfl rfl) (ldI_of (g4.cell (i := 6) rfl rfl) (ldI_of (g4.cell (i := 6) rfl rfl) (ldSl_of (g4.cell (i := 6) rfl rfl) (?_)))))))))))))))))))
      refine trAskedC (M := Prt.one b25 (.cells #[.int .i64 m.kind, .int .i64 m.frm, .int .i64 m.to, .int .u64 m.call, .int .u64 f4, .int .i64 f5, .int .i64 f6, .int .i64 m.item, .int .i64 f8, .int .u64 f9, .slice rp rl rc, .int .u64 f11, .int .i64 m.code, .int .u64 f13, .int .i64 f14, .int .u64 f15, .int .i64 f16, .int .u64 m.stamp, .slice lp ll lc] ty_api_Msg (0, 0)) :: M) hn ho s1 hll hlb hm0 g4.less (fun N H' h' => hrd (N ++ [_]) H' (by rw [List.append_assoc]; exact h')) fun x' H5 g5 => ?_
      (try simp only [asI_mk', asB_mk, asP_mk, asA_mk, asM_mk, asSl_mk, asStr_mk, tup2_mk, tup3_mk, agg1_mk, agg2_mk, agg3_mk, agg4_mk, asAggm, unCons_mk, unNil_mk, asTup_mk, extractD0, extractD1, List.toList_toArray, nilP_mk, add_mk, Nat.zero_add, Nat.add_zero, condT, condF, Bool.not_true, Bool.not_false, Option.isNone_some, Option.isNone_none])
      refine hK H5 ?_
      rw [hh]
      exact shut [] _ x' H5 (ho.asked hn s1) g5.midless
    refine bif_ne s1 ?_
    rw [if_neg s1] at hh
    by_cases s2 : t.st = 2
    · rw [if_pos s2] at hh
      refine bif_eq s2 ?_
      refine ldI_of (g4.cell (i := 6) rfl rfl) (ldI_of (g4.cell (i := 6) rfl rfl) (ldI_of (g4.cell (i := 6) rfl rfl) (ldI_of (g4.cell (i := 6) rfl rfl) (ldI_of (g4.cell (i := 6) rfl rfl) (ldI_of (g4.cell (i := 6) rfl rfl) (ldI_of (g4.cell (i := 6) rfl rfl) (ldI_of (g4.cell (i := 6) rfl rfl) (ldI_of (g4.cell (i := 6) rfl rfl) (ldI_of (g4.cell (i := 6) rfl rfl) (ldSl_of (g4.cell (i := 6) rfl rfl) (ldI_of (g4.cell (i := 6) rfl rfl) (ldI_of (g4.cell (i := 6) rfl rfl) (ldI_of (g4.cell (i := 6) rfl rfl) (ldI_of (g4.cell (i := 6) rfl rfl) (ldI_of (g4.cell (i := 6) rfl rfl) (ldI_of (g4.cell (i := 6) rfl rfl) (ldI_of (g4.cell (i := 6) rfl rfl) (ldSl_of (g4.cell (i := 6) rfl rfl) (?_)))))))))))))))))))
      refine trCheckedC (M := Prt.one b25 (.cells #[.int .i64 m.kind, .int .i64 m.frm, .int .i64 m.to, .int .u64 m.call, .int .u64 f4, .int .i64 f5, .int .i64 f6, .int .i64 m.item, .int .i64 f8, .int .u64 f9, .slice rp rl rc, .int .u64 f11, .int .i64 m.code, .int .u64 f13, .int .i64 f14, .int .u64 f15, .int .i64 f16, .int .u64 m.stamp, .slice lp ll lc] ty_api_Msg (0, 0)) :: M) ho s2 g4.less fun x' H5 g5 => ?_
      (try simp only [asI_mk', asB_mk, asP_mk, asA_mk, asM_mk, asSl_mk, asStr_mk, tup2_mk, tup3_mk, agg1_mk, agg2_mk, agg3_mk, agg4_mk, asAggm, unCons_mk, unNil_mk, asTup_mk, extractD0, extractD1, List.toList_toArray, nilP_mk, add_mk, Nat.zero_add, Nat.add_zero, condT, condF, Bool.not_true, Bool.not_false, Option.isNone_some, Option.isNone_none])
      refine hK H5 ?_
      rw [hh]
      exact shut [] _ x' H5 (ho.checked s2) g5.midless
    rw [if_neg s2] at hh
    have hst := ho.st
    have s3 : t.st = 3 := by omega
    refine bif_ne s2 (bif_eq s3 ?_)
    refine trBuriedC (M := Prt.one b25 (.cells #[.int .i64 m.kind, .int .i64 m.frm, .int .i64 m.to, .int .u64 m.call, .int .u64 f4, .int .i64 f5, .int .i64 f6, .int .i64 m.item, .int .i64 f8, .int .u64 f9, .slice rp rl rc, .int .u64 f11, .int .i64 m.code, .int .u64 f13, .int .i64 f14, .int .u64 f15, .int .i64 f16, .int .u64 m.stamp, .slice lp ll lc] ty_api_Msg (0, 0)) :: M) ho s3 g4.less fun x' H5 g5 => ?_
    (try simp only [asI_mk', asB_mk, asP_mk, asA_mk, asM_mk, asSl_mk, asStr_mk, tup2_mk, tup3_mk, agg1_mk, agg2_mk, agg3_mk, agg4_mk, asAggm, unCons_mk, unNil_mk, asTup_mk, extractD0, extractD1, List.toList_toArray, nilP_mk, add_mk, Nat.zero_add, Nat.add_zero, condT, condF, Bool.not_true, Bool.not_false, Option.isNone_some, Option.isNone_none])
    refine hK H5 ?_
    rw [hh]
    exact shut [] _ x' H5 (ho.buried s3) g5.midless
  refine ldI_of (g4.cell (i := 1) rfl rfl) ?_
  by_cases s3 : t.st = 3
  · rw [if_pos s3] at hR114
    exact bif_eq s3 hR114
  · rw [if_neg s3] at hR114
    exact bif_ne s3 hR114

theorem trBeginC {n s now : Int} (h : St H0 L H) (hk : L[k]? = some (TrP tb c t)) (hnd : 1 ≤ t.node ∧ t.node ≤ c.a0)
    (hN : t.beginE c.a0 n s ≠ 0 → ∀ H', St H0 L H' → K (.int .i64 (t.beginE c.a0 n s)) H')
    (hK : t.beginE c.a0 n s = 0 → ∀ H', St H0 (L.set k (TrP tb c (t.begun n s now))) H' → K (.int .i64 0) H') :
    hcall PR f_trace_Trace_Begin ⟨[.pointer (some ⟨tb, 0, none⟩), .agg #[.int .i64 n, .int .u64 s], .int .u64 now]⟩ H K := by
  apply den_trace_Trace_Begin
  unfold B_trace_Trace_Begin
  obtain ⟨x, M, g, ho, hot, shut⟩ := trTake h hk
  intro b5 hb5
  have g1 := g.alloc (o := .cells #[.int .i64 n, .int .u64 s] ty_api_ID) hb5
  have g1 : St H0 (trRaw tb c t x (smV t x) (smP t x) True ++ (Prt.one b5 (.cells #[.int .i64 n, .int .u64 s] ty_api_ID (0, 0)) :: M)) _ := g1.midin
  have no : ∀ e : Int, t.beginE c.a0 n s = e → e ≠ 0 → K (.int .i64 e) (upd H b5 (.cells #[.int .i64 n, .int .u64 s] ty_api_ID)) := fun e he hne => by
    rw [he] at hN
    refine hN hne _ ?_
    have := shut [] t x _ ho g1.midless
    rw [List.set_self hk] at this
    exact this
  (try simp only [asI_mk', asB_mk, asP_mk, asA_mk, asM_mk, asSl_mk, asStr_mk, tup2_mk, tup3_mk, agg1_mk, agg2_mk, agg3_mk, agg4_mk, asAggm, unCons_mk, unNil_mk, asTup_mk, extractD0, extractD1, List.toList_toArray, nilP_mk, add_mk, Nat.zero_add, Nat.add_zero, condT, condF, Bool.not_true, Bool.not_false, Option.isNone_some, Option.isNone_none])
  have hb : t.beginE c.a0 n s = t.beginE c.a0 n s := rfl
  conv at hb => rhs; unfold Tr.beginE
  refine ldI_of (g1.cell (i := 0) rfl rfl) ?_
  by_cases q1 : t.st ≠ 0
  · rw [if_pos q1] at hb
    exact bif_neq q1 (no 10 hb (by decide))
  rw [if_neg q1] at hb
  have q1' : t.st = 0 := Classical.byContradiction q1
  refine bif_neqf q1' (ldI_of (g1.cell (i := 5) rfl rfl) ?_)
  by_cases q2 : n < 1
  · rw [if_pos q2] at hb
    exact bif_pos q2 (no 1 hb (by decide))
  rw [if_neg q2] at hb
  refine bif_neg q2 (ldI_of (g1.cell (i := 5) rfl rfl) (ldI_of (g1.cell (i := 0) rfl rfl) ?_))
  by_cases q3 : n > c.a0
  · rw [if_pos q3] at hb
    exact bif_pos q3 (no 1 hb (by decide))
  rw [if_neg q3] at hb
  refine bif_neg q3 (ldI_of (g1.cell (i := 5) rfl rfl) (ldI_of (g1.cell (i := 0) rfl rfl) ?_))
  by_cases q4 : n = t.node
  · rw [if_pos q4] at hb
    exact bif_eq q4 (no 1 hb (by decide))
  rw [if_neg q4] at hb
  refine bif_ne q4 (ldI_of (g1.cell (i := 5) rfl rfl) ?_)
  by_cases q5 : s < 1
  · rw [if_pos q5] at hb
    exact bif_pos q5 (no 1 hb (by decide))
  rw [if_neg q5] at hb
  refine bif_neg q5 (ldI_of (g1.cell (i := 5) rfl rfl) ?_)
  by_cases q6 : s > 72057594037927935
  · rw [if_pos q6] at hb
    exact bif_pos q6 (no 1 hb (by decide))
  rw [if_neg q6] at hb
  refine bif_neg q6 (ldI_of (g1.cell (i := 0) rfl rfl) ?_)
  by_cases q7 : t.num = 72057594037927935
  · rw [if_pos q7] at hb
    exact bif_eq q7 (no 7 hb (by decide))
  rw [if_neg q7] at hb
  have hK := hK hb
  clear no hN hb
  refine bif_ne q7 (ldI_of (g1.cell (i := 0) rfl rfl) ?_)
  refine g1.put (i := 0) rfl (show 23 < 32 by decide) fun J0 k0 => ?_
  have k0 : St H0 (trB tb c t.node (IntKind.u64.wrap (t.num + 1)) t.found t.st (.slice x.ip t.items.length x.ic) (smV t x) t.opn (.slice x.tp t.todo.length x.tc) t.sent t.wait x.T :: Prt.row 5 x.ip t.items.length x.ic (cel It.cells t.items) :: smP t x :: Prt.row 1 x.tp t.todo.length x.tc (t.todo.map (Value.int .i64)) :: Prt.pure True :: Prt.one b5 (.cells #[.int .i64 n, .int .u64 s] ty_api_ID (0, 0)) :: M) J0 := k0
  clear g1 g
  intro R24 hR24
  have hfin : ∀ bi bm H', St H0 (Prt.one bi (.cells #[.bool false, .int .i64 t.node, .int .i64 n, .int .u64 s, .int .i64 0] ty_trace_Item (0, 0)) :: Prt.mp bm [] :: trB tb c t.node (IntKind.u64.wrap (t.num + 1)) t.found 1 (.slice (some ⟨bi, 0, none⟩) 1 1) (.map (some bm)) 0 (.slice none 0 0) t.sent t.wait x.T :: Prt.row 5 x.ip t.items.length x.ic (cel It.cells t.items) :: smP t x :: Prt.row 1 x.tp t.todo.length x.tc (t.todo.map (Value.int .i64)) :: Prt.pure True :: Prt.one b5 (.cells #[.int .i64 n, .int .u64 s] ty_api_ID (0, 0)) :: M) H' → R24 H' := fun bi bm H' g2 => by
    refine hR24 H' ?_
    refine g2.put (i := 2) rfl (show 30 < 32 by decide) fun H3 g3 => ?_
    have g3 : St H0 (Prt.one bi (.cells #[.bool false, .int .i64 t.node, .int .i64 n, .int .u64 s, .int .i64 0] ty_trace_Item (0, 0)) :: Prt.mp bm [] :: trB tb c t.node (IntKind.u64.wrap (t.num + 1)) t.found 1 (.slice (some ⟨bi, 0, none⟩) 1 1) (.map (some bm)) 0 (.slice none 0 0) now t.wait x.T :: Prt.row 5 x.ip t.items.length x.ic (cel It.cells t.items) :: smP t x :: Prt.row 1 x.tp t.todo.length x.tc (t.todo.map (Value.int .i64)) :: Prt.pure True :: Prt.one b5 (.cells #[.int .i64 n, .int .u64 s] ty_api_ID (0, 0)) :: M) H3 := g3
    refine g3.put (i := 2) rfl (show 31 < 32 by decide) fun H4 g4 => ?_
    have g4 : St H0 (Prt.one bi (.cells #[.bool false, .int .i64 t.node, .int .i64 n, .int .u64 s, .int .i64 0] ty_trace_Item (0, 0)) :: Prt.mp bm [] :: trB tb c t.node (IntKind.u64.wrap (t.num + 1)) t.found 1 (.slice (some ⟨bi, 0, none⟩) 1 1) (.map (some bm)) 0 (.slice none 0 0) now 0 x.T :: Prt.row 5 x.ip t.items.length x.ic (cel It.cells t.items) :: smP t x :: Prt.row 1 x.tp t.todo.length x.tc (t.todo.map (Value.int .i64)) :: Prt.pure True :: Prt.one b5 (.cells #[.int .i64 n, .int .u64 s] ty_api_ID (0, 0)) :: M) H4 := g4
    refine hK H4 ?_
    have g5 := g4.oneRow (i := 0) (q := 5) (n := 1) rfl rfl
    have g6 := g5.row (H' := _) (Own.nil 1) ((Goes.refl Nothing _).less fun c hc => absurd hc blk_none)
    have g7 : St H0 (Prt.row 1 none 0 0 [] :: Prt.row 5 (some ⟨bi, 0, none⟩) 1 1 (cel It.cells [⟨false, t.node, ⟨n, s⟩, 0⟩]) :: Prt.mp bm [] :: trB tb c t.node (IntKind.u64.wrap (t.num + 1)) t.found 1 (.slice (some ⟨bi, 0, none⟩) 1 1) (.map (some bm)) 0 (.slice none 0 0) now 0 x.T :: Prt.row 5 x.ip t.items.length x.ic (cel It.cells t.items) :: smP t x :: Prt.row 1 x.tp t.todo.length x.tc (t.todo.map (Value.int .i64)) :: Prt.pure True :: Prt.one b5 (.cells #[.int .i64 n, .int .u64 s] ty_api_ID (0, 0)) :: M) H4 := g6
    have g8 := g7.pick 9 [3, 1, 2, 0, 7, 4, 5, 6, 8] rfl rfl
    refine shut [] (t.begun n s now) ⟨some ⟨bi, 0, none⟩, 1, bm, none, 0, x.T⟩ H4 (Tr.begun_ok hnd) ?_
    rw [smV_on (by show (1 : Int) ≠ 0; decide), smP_on (by show (1 : Int) ≠ 0; decide)]
    exact St.lesses (M := [_, _, _, _]) (g8.perm (by
      show List.Perm ([_, _, _, _, _] ++ ([_, _, _, _] ++ M)) ([_, _, _, _] ++ ([_, _, _, _, _] ++ M))
      rw [← List.append_assoc, ← List.append_assoc]
      exact List.perm_append_comm.append_right M))
  clear hR24
  refine ldI_of (k0.cell (i := 0) rfl rfl) (ldI_of (k0.cell (i := 5) rfl rfl) (ldI_of (k0.cell (i := 5) rfl rfl) ?_))
  refine ⟨?_, ?_, ?_⟩
  · intro bi hbi
    have k1 := k0.alloc (o := .cells #[.bool false, .int .i64 t.node, .int .i64 n, .int .u64 s, .int .i64 0] ty_trace_Item) hbi
    refine ⟨?_, ?_⟩
    · intro bm hbm
      have k2 := k1.mpNew hbm
      refine k2.put (i := 2) rfl (show 25 < 32 by decide) fun J3 k3 => ?_
      have k3 : St H0 (Prt.mp bm [] :: Prt.one bi (.cells #[.bool false, .int .i64 t.node, .int .i64 n, .int .u64 s, .int .i64 0] ty_trace_Item (0, 0)) :: trB tb c t.node (IntKind.u64.wrap (t.num + 1)) t.found 1 (.slice x.ip t.items.length x.ic) (smV t x) t.opn (.slice x.tp t.todo.length x.tc) t.sent t.wait x.T :: Prt.row 5 x.ip t.items.length x.ic (cel It.cells t.items) :: smP t x :: Prt.row 1 x.tp t.todo.length x.tc (t.todo.map (Value.int .i64)) :: Prt.pure True :: Prt.one b5 (.cells #[.int .i64 n, .int .u64 s] ty_api_ID (0, 0)) :: M) J3 := k3
      refine k3.put (i := 2) rfl (show 26 < 32 by decide) fun J4 k4 => ?_
      have k4 : St H0 (Prt.mp bm [] :: Prt.one bi (.cells #[.bool false, .int .i64 t.node, .int .i64 n, .int .u64 s, .int .i64 0] ty_trace_Item (0, 0)) :: trB tb c t.node (IntKind.u64.wrap (t.num + 1)) t.found 1 (.slice (some ⟨bi, 0, none⟩) 1 1) (smV t x) t.opn (.slice x.tp t.todo.length x.tc) t.sent t.wait x.T :: Prt.row 5 x.ip t.items.length x.ic (cel It.cells t.items) :: smP t x :: Prt.row 1 x.tp t.todo.length x.tc (t.todo.map (Value.int .i64)) :: Prt.pure True :: Prt.one b5 (.cells #[.int .i64 n, .int .u64 s] ty_api_ID (0, 0)) :: M) J4 := k4
      refine k4.put (i := 2) rfl (show 27 < 32 by decide) fun J5 k5 => ?_
      have k5 : St H0 (Prt.mp bm [] :: Prt.one bi (.cells #[.bool false, .int .i64 t.node, .int .i64 n, .int .u64 s, .int .i64 0] ty_trace_Item (0, 0)) :: trB tb c t.node (IntKind.u64.wrap (t.num + 1)) t.found 1 (.slice (some ⟨bi, 0, none⟩) 1 1) (.map (some bm)) t.opn (.slice x.tp t.todo.length x.tc) t.sent t.wait x.T :: Prt.row 5 x.ip t.items.length x.ic (cel It.cells t.items) :: smP t x :: Prt.row 1 x.tp t.todo.length x.tc (t.todo.map (Value.int .i64)) :: Prt.pure True :: Prt.one b5 (.cells #[.int .i64 n, .int .u64 s] ty_api_ID (0, 0)) :: M) J5 := k5
      refine k5.put (i := 2) rfl (show 28 < 32 by decide) fun J6 k6 => ?_
      have k6 : St H0 (Prt.mp bm [] :: Prt.one bi (.cells #[.bool false, .int .i64 t.node, .int .i64 n, .int .u64 s, .int .i64 0] ty_trace_Item (0, 0)) :: trB tb c t.node (IntKind.u64.wrap (t.num + 1)) t.found 1 (.slice (some ⟨bi, 0, none⟩) 1 1) (.map (some bm)) 0 (.slice x.tp t.todo.length x.tc) t.sent t.wait x.T :: Prt.row 5 x.ip t.items.length x.ic (cel It.cells t.items) :: smP t x :: Prt.row 1 x.tp t.todo.length x.tc (t.todo.map (Value.int .i64)) :: Prt.pure True :: Prt.one b5 (.cells #[.int .i64 n, .int .u64 s] ty_api_ID (0, 0)) :: M) J6 := k6
      refine k6.put (i := 2) rfl (show 29 < 32 by decide) fun J7 k7 => ?_
      have k7 : St H0 (Prt.mp bm [] :: Prt.one bi (.cells #[.bool false, .int .i64 t.node, .int .i64 n, .int .u64 s, .int .i64 0] ty_trace_Item (0, 0)) :: trB tb c t.node (IntKind.u64.wrap (t.num + 1)) t.found 1 (.slice (some ⟨bi, 0, none⟩) 1 1) (.map (some bm)) 0 (.slice none 0 0) t.sent t.wait x.T :: Prt.row 5 x.ip t.items.length x.ic (cel It.cells t.items) :: smP t x :: Prt.row 1 x.tp t.todo.length x.tc (t.todo.map (Value.int .i64)) :: Prt.pure True :: Prt.one b5 (.cells #[.int .i64 n, .int .u64 s] ty_api_ID (0, 0)) :: M) J7 := k7
      exact hfin bi bm _ k7.flip
    · refine k1.put (i := 1) rfl (show 25 < 32 by decide) fun J2 k2 => ?_
      have k2 : St H0 (Prt.one bi (.cells #[.bool false, .int .i64 t.node, .int .i64 n, .int .u64 s, .int .i64 0] ty_trace_Item (0, 0)) :: trB tb c t.node (IntKind.u64.wrap (t.num + 1)) t.found 1 (.slice x.ip t.items.length x.ic) (smV t x) t.opn (.slice x.tp t.todo.length x.tc) t.sent t.wait x.T :: Prt.row 5 x.ip t.items.length x.ic (cel It.cells t.items) :: smP t x :: Prt.row 1 x.tp t.todo.length x.tc (t.todo.map (Value.int .i64)) :: Prt.pure True :: Prt.one b5 (.cells #[.int .i64 n, .int .u64 s] ty_api_ID (0, 0)) :: M) J2 := k2
      refine ⟨?_, ?_⟩
      · intro bm hbm
        have k3 := k2.mpNew hbm
        refine k3.put (i := 2) rfl (show 26 < 32 by decide) fun J4 k4 => ?_
        have k4 : St H0 (Prt.mp bm [] :: Prt.one bi (.cells #[.bool false, .int .i64 t.node, .int .i64 n, .int .u64 s, .int .i64 0] ty_trace_Item (0, 0)) :: trB tb c t.node (IntKind.u64.wrap (t.num + 1)) t.found 1 (.slice (some ⟨bi, 0, none⟩) 1 1) (smV t x) t.opn (.slice x.tp t.todo.length x.tc) t.sent t.wait x.T :: Prt.row 5 x.ip t.items.length x.ic (cel It.cells t.items) :: smP t x :: Prt.row 1 x.tp t.todo.length x.tc (t.todo.map (Value.int .i64)) :: Prt.pure True :: Prt.one b5 (.cells #[.int .i64 n, .int .u64 s] ty_api_ID (0, 0)) :: M) J4 := k4
        refine k4.put (i := 2) rfl (show 27 < 32 by decide) fun J5 k5 => ?_
        have k5 : St H0 (Prt.mp bm [] :: Prt.one bi (.cells #[.bool false, .int .i64 t.node, .int .i64 n, .int .u64 s, .int .i64 0] ty_trace_Item (0, 0)) :: trB tb c t.node (IntKind.u64.wrap (t.num + 1)) t.found 1 (.slice (some ⟨bi, 0, none⟩) 1 1) (.map (some bm)) t.opn (.slice x.tp t.todo.length x.tc) t.sent t.wait x.T :: Prt.row 5 x.ip t.items.length x.ic (cel It.cells t.items) :: smP t x :: Prt.row 1 x.tp t.todo.length x.tc (t.todo.map (Value.int .i64)) :: Prt.pure True :: Prt.one b5 (.cells #[.int .i64 n, .int .u64 s] ty_api_ID (0, 0)) :: M) J5 := k5
        refine k5.put (i := 2) rfl (show 28 < 32 by decide) fun J6 k6 => ?_
        have k6 : St H0 (Prt.mp bm [] :: Prt.one bi (.cells #[.bool false, .int .i64 t.node, .int .i64 n, .int .u64 s, .int .i64 0] ty_trace_Item (0, 0)) :: trB tb c t.node (IntKind.u64.wrap (t.num + 1)) t.found 1 (.slice (some ⟨bi, 0, none⟩) 1 1) (.map (some bm)) 0 (.slice x.tp t.todo.length x.tc) t.sent t.wait x.T :: Prt.row 5 x.ip t.items.length x.ic (cel It.cells t.items) :: smP t x :: Prt.row 1 x.tp t.todo.length x.tc (t.todo.map (Value.int .i64)) :: Prt.pure True :: Prt.one b5 (.cells #[.int .i64 n, .int .u64 s] ty_api_ID (0, 0)) :: M) J6 := k6
        refine k6.put (i := 2) rfl (show 29 < 32 by decide) fun J7 k7 => ?_
        have k7 : St H0 (Prt.mp bm [] :: Prt.one bi (.cells #[.bool false, .int .i64 t.node, .int .i64 n, .int .u64 s, .int .i64 0] ty_trace_Item (0, 0)) :: trB tb c t.node (IntKind.u64.wrap (t.num + 1)) t.found 1 (.slice (some ⟨bi, 0, none⟩) 1 1) (.map (some bm)) 0 (.slice none 0 0) t.sent t.wait x.T :: Prt.row 5 x.ip t.items.length x.ic (cel It.cells t.items) :: smP t x :: Prt.row 1 x.tp t.todo.length x.tc (t.todo.map (Value.int .i64)) :: Prt.pure True :: Prt.one b5 (.cells #[.int .i64 n, .int .u64 s] ty_api_ID (0, 0)) :: M) J7 := k7
        exact hfin bi bm _ k7.flip
      · refine k2.put (i := 1) rfl (show 26 < 32 by decide) fun J3 k3 => ?_
        have k3 : St H0 (Prt.one bi (.cells #[.bool false, .int .i64 t.node, .int .i64 n, .int .u64 s, .int .i64 0] ty_trace_Item (0, 0)) :: trB tb c t.node (IntKind.u64.wrap (t.num + 1)) t.found 1 (.slice (some ⟨bi, 0, none⟩) 1 1) (smV t x) t.opn (.slice x.tp t.todo.length x.tc) t.sent t.wait x.T :: Prt.row 5 x.ip t.items.length x.ic (cel It.cells t.items) :: smP t x :: Prt.row 1 x.tp t.todo.length x.tc (t.todo.map (Value.int .i64)) :: Prt.pure True :: Prt.one b5 (.cells #[.int .i64 n, .int .u64 s] ty_api_ID (0, 0)) :: M) J3 := k3
        intro bm hbm
        have k4 := k3.mpNew hbm
        refine k4.put (i := 2) rfl (show 27 < 32 by decide) fun J5 k5 => ?_
        have k5 : St H0 (Prt.mp bm [] :: Prt.one bi (.cells #[.bool false, .int .i64 t.node, .int .i64 n, .int .u64 s, .int .i64 0] ty_trace_Item (0, 0)) :: trB tb c t.node (IntKind.u64.wrap (t.num + 1)) t.found 1 (.slice (some ⟨bi, 0, none⟩) 1 1) (.map (some bm)) t.opn (.slice x.tp t.todo.length x.tc) t.sent t.wait x.T :: Prt.row 5 x.ip t.items.length x.ic (cel It.cells t.items) :: smP t x :: Prt.row 1 x.tp t.todo.length x.tc (t.todo.map (Value.int .i64)) :: Prt.pure True :: Prt.one b5 (.cells #[.int .i64 n, .int .u64 s] ty_api_ID (0, 0)) :: M) J5 := k5
        refine k5.put (i := 2) rfl (show 28 < 32 by decide) fun J6 k6 => ?_
        have k6 : St H0 (Prt.mp bm [] :: Prt.one bi (.cells #[.bool false, .int .i64 t.node, .int .i64 n, .int .u64 s, .int .i64 0] ty_trace_Item (0, 0)) :: trB tb c t.node (IntKind.u64.wrap (t.num + 1)) t.found 1 (.slice (some ⟨bi, 0, none⟩) 1 1) (.map (some bm)) 0 (.slice x.tp t.todo.length x.tc) t.sent t.wait x.T :: Prt.row 5 x.ip t.items.length x.ic (cel It.cells t.items) :: smP t x :: Prt.row 1 x.tp t.todo.length x.tc (t.todo.map (Value.int .i64)) :: Prt.pure True :: Prt.one b5 (.cells #[.int .i64 n, .int .u64 s] ty_api_ID (0, 0)) :: M) J6 := k6
        refine k6.put (i := 2) rfl (show 29 < 32 by decide) fun J7 k7 => ?_
        have k7 : St H0 (Prt.mp bm [] :: Prt.one bi (.cells #[.bool false, .int .i64 t.node, .int .i64 n, .int .u64 s, .int .i64 0] ty_trace_Item (0, 0)) :: trB tb c t.node (IntKind.u64.wrap (t.num + 1)) t.found 1 (.slice (some ⟨bi, 0, none⟩) 1 1) (.map (some bm)) 0 (.slice none 0 0) t.sent t.wait x.T :: Prt.row 5 x.ip t.items.length x.ic (cel It.cells t.items) :: smP t x :: Prt.row 1 x.tp t.todo.length x.tc (t.todo.map (Value.int .i64)) :: Prt.pure True :: Prt.one b5 (.cells #[.int .i64 n, .int .u64 s] ty_api_ID (0, 0)) :: M) J7 := k7
        exact hfin bi bm _ k7.flip
  · intro bm hbm
    have k1 := k0.mpNew hbm
    refine ⟨ldI_of (k1.cell (i := 6) rfl rfl) (ldI_of (k1.cell (i := 6) rfl rfl) rfl), ldI_of (k1.cell (i := 1) rfl rfl) rfl, ?_, ?_⟩
    · intro bi hbi
      have k2 := k1.alloc (o := .cells #[.bool false, .int .i64 t.node, .int .i64 n, .int .u64 s, .int .i64 0] ty_trace_Item) hbi
      refine k2.put (i := 2) rfl (show 25 < 32 by decide) fun J3 k3 => ?_
      have k3 : St H0 (Prt.one bi (.cells #[.bool false, .int .i64 t.node, .int .i64 n, .int .u64 s, .int .i64 0] ty_trace_Item (0, 0)) :: Prt.mp bm [] :: trB tb c t.node (IntKind.u64.wrap (t.num + 1)) t.found 1 (.slice x.ip t.items.length x.ic) (smV t x) t.opn (.slice x.tp t.todo.length x.tc) t.sent t.wait x.T :: Prt.row 5 x.ip t.items.length x.ic (cel It.cells t.items) :: smP t x :: Prt.row 1 x.tp t.todo.length x.tc (t.todo.map (Value.int .i64)) :: Prt.pure True :: Prt.one b5 (.cells #[.int .i64 n, .int .u64 s] ty_api_ID (0, 0)) :: M) J3 := k3
      refine k3.put (i := 2) rfl (show 26 < 32 by decide) fun J4 k4 => ?_
      have k4 : St H0 (Prt.one bi (.cells #[.bool false, .int .i64 t.node, .int .i64 n, .int .u64 s, .int .i64 0] ty_trace_Item (0, 0)) :: Prt.mp bm [] :: trB tb c t.node (IntKind.u64.wrap (t.num + 1)) t.found 1 (.slice (some ⟨bi, 0, none⟩) 1 1) (smV t x) t.opn (.slice x.tp t.todo.length x.tc) t.sent t.wait x.T :: Prt.row 5 x.ip t.items.length x.ic (cel It.cells t.items) :: smP t x :: Prt.row 1 x.tp t.todo.length x.tc (t.todo.map (Value.int .i64)) :: Prt.pure True :: Prt.one b5 (.cells #[.int .i64 n, .int .u64 s] ty_api_ID (0, 0)) :: M) J4 := k4
      refine k4.put (i := 2) rfl (show 27 < 32 by decide) fun J5 k5 => ?_
      have k5 : St H0 (Prt.one bi (.cells #[.bool false, .int .i64 t.node, .int .i64 n, .int .u64 s, .int .i64 0] ty_trace_Item (0, 0)) :: Prt.mp bm [] :: trB tb c t.node (IntKind.u64.wrap (t.num + 1)) t.found 1 (.slice (some ⟨bi, 0, none⟩) 1 1) (.map (some bm)) t.opn (.slice x.tp t.todo.length x.tc) t.sent t.wait x.T :: Prt.row 5 x.ip t.items.length x.ic (cel It.cells t.items) :: smP t x :: Prt.row 1 x.tp t.todo.length x.tc (t.todo.map (Value.int .i64)) :: Prt.pure True :: Prt.one b5 (.cells #[.int .i64 n, .int .u64 s] ty_api_ID (0, 0)) :: M) J5 := k5
      refine k5.put (i := 2) rfl (show 28 < 32 by decide) fun J6 k6 => ?_
      have k6 : St H0 (Prt.one bi (.cells #[.bool false, .int .i64 t.node, .int .i64 n, .int .u64 s, .int .i64 0] ty_trace_Item (0, 0)) :: Prt.mp bm [] :: trB tb c t.node (IntKind.u64.wrap (t.num + 1)) t.found 1 (.slice (some ⟨bi, 0, none⟩) 1 1) (.map (some bm)) 0 (.slice x.tp t.todo.length x.tc) t.sent t.wait x.T :: Prt.row 5 x.ip t.items.length x.ic (cel It.cells t.items) :: smP t x :: Prt.row 1 x.tp t.todo.length x.tc (t.todo.map (Value.int .i64)) :: Prt.pure True :: Prt.one b5 (.cells #[.int .i64 n, .int .u64 s] ty_api_ID (0, 0)) :: M) J6 := k6
      refine k6.put (i := 2) rfl (show 29 < 32 by decide) fun J7 k7 => ?_
      have k7 : St H0 (Prt.one bi (.cells #[.bool false, .int .i64 t.node, .int .i64 n, .int .u64 s, .int .i64 0] ty_trace_Item (0, 0)) :: Prt.mp bm [] :: trB tb c t.node (IntKind.u64.wrap (t.num + 1)) t.found 1 (.slice (some ⟨bi, 0, none⟩) 1 1) (.map (some bm)) 0 (.slice none 0 0) t.sent t.wait x.T :: Prt.row 5 x.ip t.items.length x.ic (cel It.cells t.items) :: smP t x :: Prt.row 1 x.tp t.todo.length x.tc (t.todo.map (Value.int .i64)) :: Prt.pure True :: Prt.one b5 (.cells #[.int .i64 n, .int .u64 s] ty_api_ID (0, 0)) :: M) J7 := k7
      exact hfin bi bm _ k7
    · refine k1.put (i := 1) rfl (show 25 < 32 by decide) fun J2 k2 => ?_
      have k2 : St H0 (Prt.mp bm [] :: trB tb c t.node (IntKind.u64.wrap (t.num + 1)) t.found 1 (.slice x.ip t.items.length x.ic) (smV t x) t.opn (.slice x.tp t.todo.length x.tc) t.sent t.wait x.T :: Prt.row 5 x.ip t.items.length x.ic (cel It.cells t.items) :: smP t x :: Prt.row 1 x.tp t.todo.length x.tc (t.todo.map (Value.int .i64)) :: Prt.pure True :: Prt.one b5 (.cells #[.int .i64 n, .int .u64 s] ty_api_ID (0, 0)) :: M) J2 := k2
      refine ⟨ldI_of (k2.cell (i := 6) rfl rfl) (ldI_of (k2.cell (i := 6) rfl rfl) rfl), ?_⟩
      intro bi hbi
      have k4 := k2.alloc (o := .cells #[.bool false, .int .i64 t.node, .int .i64 n, .int .u64 s, .int .i64 0] ty_trace_Item) hbi
      refine k4.put (i := 2) rfl (show 26 < 32 by decide) fun J5 k5 => ?_
      have k5 : St H0 (Prt.one bi (.cells #[.bool false, .int .i64 t.node, .int .i64 n, .int .u64 s, .int .i64 0] ty_trace_Item (0, 0)) :: Prt.mp bm [] :: trB tb c t.node (IntKind.u64.wrap (t.num + 1)) t.found 1 (.slice (some ⟨bi, 0, none⟩) 1 1) (smV t x) t.opn (.slice x.tp t.todo.length x.tc) t.sent t.wait x.T :: Prt.row 5 x.ip t.items.length x.ic (cel It.cells t.items) :: smP t x :: Prt.row 1 x.tp t.todo.length x.tc (t.todo.map (Value.int .i64)) :: Prt.pure True :: Prt.one b5 (.cells #[.int .i64 n, .int .u64 s] ty_api_ID (0, 0)) :: M) J5 := k5
      refine k5.put (i := 2) rfl (show 27 < 32 by decide) fun J6 k6 => ?_
      have k6 : St H0 (Prt.one bi (.cells #[.bool false, .int .i64 t.node, .int .i64 n, .int .u64 s, .int .i64 0] ty_trace_Item (0, 0)) :: Prt.mp bm [] :: trB tb c t.node (IntKind.u64.wrap (t.num + 1)) t.found 1 (.slice (some ⟨bi, 0, none⟩) 1 1) (.map (some bm)) t.opn (.slice x.tp t.todo.length x.tc) t.sent t.wait x.T :: Prt.row 5 x.ip t.items.length x.ic (cel It.cells t.items) :: smP t x :: Prt.row 1 x.tp t.todo.length x.tc (t.todo.map (Value.int .i64)) :: Prt.pure True :: Prt.one b5 (.cells #[.int .i64 n, .int .u64 s] ty_api_ID (0, 0)) :: M) J6 := k6
      refine k6.put (i := 2) rfl (show 28 < 32 by decide) fun J7 k7 => ?_
      have k7 : St H0 (Prt.one bi (.cells #[.bool false, .int .i64 t.node, .int .i64 n, .int .u64 s, .int .i64 0] ty_trace_Item (0, 0)) :: Prt.mp bm [] :: trB tb c t.node (IntKind.u64.wrap (t.num + 1)) t.found 1 (.slice (some ⟨bi, 0, none⟩) 1 1) (.map (some bm)) 0 (.slice x.tp t.todo.length x.tc) t.sent t.wait x.T :: Prt.row 5 x.ip t.items.length x.ic (cel It.cells t.items) :: smP t x :: Prt.row 1 x.tp t.todo.length x.tc (t.todo.map (Value.int .i64)) :: Prt.pure True :: Prt.one b5 (.cells #[.int .i64 n, .int .u64 s] ty_api_ID (0, 0)) :: M) J7 := k7
      refine k7.put (i := 2) rfl (show 29 < 32 by decide) fun J8 k8 => ?_
      have k8 : St H0 (Prt.one bi (.cells #[.bool false, .int .i64 t.node, .int .i64 n, .int .u64 s, .int .i64 0] ty_trace_Item (0, 0)) :: Prt.mp bm [] :: trB tb c t.node (IntKind.u64.wrap (t.num + 1)) t.found 1 (.slice (some ⟨bi, 0, none⟩) 1 1) (.map (some bm)) 0 (.slice none 0 0) t.sent t.wait x.T :: Prt.row 5 x.ip t.items.length x.ic (cel It.cells t.items) :: smP t x :: Prt.row 1 x.tp t.todo.length x.tc (t.todo.map (Value.int .i64)) :: Prt.pure True :: Prt.one b5 (.cells #[.int .i64 n, .int .u64 s] ty_api_ID (0, 0)) :: M) J8 := k8
      exact hfin bi bm _ k8
  · refine k0.put (i := 0) rfl (show 25 < 32 by decide) fun J1 k1 => ?_
    have k1 : St H0 (trB tb c t.node (IntKind.u64.wrap (t.num + 1)) t.found 1 (.slice x.ip t.items.length x.ic) (smV t x) t.opn (.slice x.tp t.todo.length x.tc) t.sent t.wait x.T :: Prt.row 5 x.ip t.items.length x.ic (cel It.cells t.items) :: smP t x :: Prt.row 1 x.tp t.todo.length x.tc (t.todo.map (Value.int .i64)) :: Prt.pure True :: Prt.one b5 (.cells #[.int .i64 n, .int .u64 s] ty_api_ID (0, 0)) :: M) J1 := k1
    refine ⟨ldI_of (k1.cell (i := 5) rfl rfl) (ldI_of (k1.cell (i := 5) rfl rfl) rfl), ?_, ?_⟩
    · intro bi hbi
      have k2 := k1.alloc (o := .cells #[.bool false, .int .i64 t.node, .int .i64 n, .int .u64 s, .int .i64 0] ty_trace_Item) hbi
      refine ⟨?_, ?_⟩
      · intro bm hbm
        have k3 := k2.mpNew hbm
        refine k3.put (i := 2) rfl (show 26 < 32 by decide) fun J4 k4 => ?_
        have k4 : St H0 (Prt.mp bm [] :: Prt.one bi (.cells #[.bool false, .int .i64 t.node, .int .i64 n, .int .u64 s, .int .i64 0] ty_trace_Item (0, 0)) :: trB tb c t.node (IntKind.u64.wrap (t.num + 1)) t.found 1 (.slice (some ⟨bi, 0, none⟩) 1 1) (smV t x) t.opn (.slice x.tp t.todo.length x.tc) t.sent t.wait x.T :: Prt.row 5 x.ip t.items.length x.ic (cel It.cells t.items) :: smP t x :: Prt.row 1 x.tp t.todo.length x.tc (t.todo.map (Value.int .i64)) :: Prt.pure True :: Prt.one b5 (.cells #[.int .i64 n, .int .u64 s] ty_api_ID (0, 0)) :: M) J4 := k4
        refine k4.put (i := 2) rfl (show 27 < 32 by decide) fun J5 k5 => ?_
        have k5 : St H0 (Prt.mp bm [] :: Prt.one bi (.cells #[.bool false, .int .i64 t.node, .int .i64 n, .int .u64 s, .int .i64 0] ty_trace_Item (0, 0)) :: trB tb c t.node (IntKind.u64.wrap (t.num + 1)) t.found 1 (.slice (some ⟨bi, 0, none⟩) 1 1) (.map (some bm)) t.opn (.slice x.tp t.todo.length x.tc) t.sent t.wait x.T :: Prt.row 5 x.ip t.items.length x.ic (cel It.cells t.items) :: smP t x :: Prt.row 1 x.tp t.todo.length x.tc (t.todo.map (Value.int .i64)) :: Prt.pure True :: Prt.one b5 (.cells #[.int .i64 n, .int .u64 s] ty_api_ID (0, 0)) :: M) J5 := k5
        refine k5.put (i := 2) rfl (show 28 < 32 by decide) fun J6 k6 => ?_
        have k6 : St H0 (Prt.mp bm [] :: Prt.one bi (.cells #[.bool false, .int .i64 t.node, .int .i64 n, .int .u64 s, .int .i64 0] ty_trace_Item (0, 0)) :: trB tb c t.node (IntKind.u64.wrap (t.num + 1)) t.found 1 (.slice (some ⟨bi, 0, none⟩) 1 1) (.map (some bm)) 0 (.slice x.tp t.todo.length x.tc) t.sent t.wait x.T :: Prt.row 5 x.ip t.items.length x.ic (cel It.cells t.items) :: smP t x :: Prt.row 1 x.tp t.todo.length x.tc (t.todo.map (Value.int .i64)) :: Prt.pure True :: Prt.one b5 (.cells #[.int .i64 n, .int .u64 s] ty_api_ID (0, 0)) :: M) J6 := k6
        refine k6.put (i := 2) rfl (show 29 < 32 by decide) fun J7 k7 => ?_
        have k7 : St H0 (Prt.mp bm [] :: Prt.one bi (.cells #[.bool false, .int .i64 t.node, .int .i64 n, .int .u64 s, .int .i64 0] ty_trace_Item (0, 0)) :: trB tb c t.node (IntKind.u64.wrap (t.num + 1)) t.found 1 (.slice (some ⟨bi, 0, none⟩) 1 1) (.map (some bm)) 0 (.slice none 0 0) t.sent t.wait x.T :: Prt.row 5 x.ip t.items.length x.ic (cel It.cells t.items) :: smP t x :: Prt.row 1 x.tp t.todo.length x.tc (t.todo.map (Value.int .i64)) :: Prt.pure True :: Prt.one b5 (.cells #[.int .i64 n, .int .u64 s] ty_api_ID (0, 0)) :: M) J7 := k7
        exact hfin bi bm _ k7.flip
      · refine k2.put (i := 1) rfl (show 26 < 32 by decide) fun J3 k3 => ?_
        have k3 : St H0 (Prt.one bi (.cells #[.bool false, .int .i64 t.node, .int .i64 n, .int .u64 s, .int .i64 0] ty_trace_Item (0, 0)) :: trB tb c t.node (IntKind.u64.wrap (t.num + 1)) t.found 1 (.slice (some ⟨bi, 0, none⟩) 1 1) (smV t x) t.opn (.slice x.tp t.todo.length x.tc) t.sent t.wait x.T :: Prt.row 5 x.ip t.items.length x.ic (cel It.cells t.items) :: smP t x :: Prt.row 1 x.tp t.todo.length x.tc (t.todo.map (Value.int .i64)) :: Prt.pure True :: Prt.one b5 (.cells #[.int .i64 n, .int .u64 s] ty_api_ID (0, 0)) :: M) J3 := k3
        intro bm hbm
        have k4 := k3.mpNew hbm
        refine k4.put (i := 2) rfl (show 27 < 32 by decide) fun J5 k5 => ?_
        have k5 : St H0 (Prt.mp bm [] :: Prt.one bi (.cells #[.bool false, .int .i64 t.node, .int .i64 n, .int .u64 s, .int .i64 0] ty_trace_Item (0, 0)) :: trB tb c t.node (IntKind.u64.wrap (t.num + 1)) t.found 1 (.slice (some ⟨bi, 0, none⟩) 1 1) (.map (some bm)) t.opn (.slice x.tp t.todo.length x.tc) t.sent t.wait x.T :: Prt.row 5 x.ip t.items.length x.ic (cel It.cells t.items) :: smP t x :: Prt.row 1 x.tp t.todo.length x.tc (t.todo.map (Value.int .i64)) :: Prt.pure True :: Prt.one b5 (.cells #[.int .i64 n, .int .u64 s] ty_api_ID (0, 0)) :: M) J5 := k5
        refine k5.put (i := 2) rfl (show 28 < 32 by decide) fun J6 k6 => ?_
        have k6 : St H0 (Prt.mp bm [] :: Prt.one bi (.cells #[.bool false, .int .i64 t.node, .int .i64 n, .int .u64 s, .int .i64 0] ty_trace_Item (0, 0)) :: trB tb c t.node (IntKind.u64.wrap (t.num + 1)) t.found 1 (.slice (some ⟨bi, 0, none⟩) 1 1) (.map (some bm)) 0 (.slice x.tp t.todo.length x.tc) t.sent t.wait x.T :: Prt.row 5 x.ip t.items.length x.ic (cel It.cells t.items) :: smP t x :: Prt.row 1 x.tp t.todo.length x.tc (t.todo.map (Value.int .i64)) :: Prt.pure True :: Prt.one b5 (.cells #[.int .i64 n, .int .u64 s] ty_api_ID (0, 0)) :: M) J6 := k6
        refine k6.put (i := 2) rfl (show 29 < 32 by decide) fun J7 k7 => ?_
        have k7 : St H0 (Prt.mp bm [] :: Prt.one bi (.cells #[.bool false, .int .i64 t.node, .int .i64 n, .int .u64 s, .int .i64 0] ty_trace_Item (0, 0)) :: trB tb c t.node (IntKind.u64.wrap (t.num + 1)) t.found 1 (.slice (some ⟨bi, 0, none⟩) 1 1) (.map (some bm)) 0 (.slice none 0 0) t.sent t.wait x.T :: Prt.row 5 x.ip t.items.length x.ic (cel It.cells t.items) :: smP t x :: Prt.row 1 x.tp t.todo.length x.tc (t.todo.map (Value.int .i64)) :: Prt.pure True :: Prt.one b5 (.cells #[.int .i64 n, .int .u64 s] ty_api_ID (0, 0)) :: M) J7 := k7
        exact hfin bi bm _ k7.flip
    · intro bm hbm
      have k2 := k1.mpNew hbm
      refine ⟨ldI_of (k2.cell (i := 6) rfl rfl) (ldI_of (k2.cell (i := 6) rfl rfl) rfl), ?_⟩
      intro bi hbi
      have k4 := k2.alloc (o := .cells #[.bool false, .int .i64 t.node, .int .i64 n, .int .u64 s, .int .i64 0] ty_trace_Item) hbi
      refine k4.put (i := 2) rfl (show 26 < 32 by decide) fun J5 k5 => ?_
      have k5 : St H0 (Prt.one bi (.cells #[.bool false, .int .i64 t.node, .int .i64 n, .int .u64 s, .int .i64 0] ty_trace_Item (0, 0)) :: Prt.mp bm [] :: trB tb c t.node (IntKind.u64.wrap (t.num + 1)) t.found 1 (.slice (some ⟨bi, 0, none⟩) 1 1) (smV t x) t.opn (.slice x.tp t.todo.length x.tc) t.sent t.wait x.T :: Prt.row 5 x.ip t.items.length x.ic (cel It.cells t.items) :: smP t x :: Prt.row 1 x.tp t.todo.length x.tc (t.todo.map (Value.int .i64)) :: Prt.pure True :: Prt.one b5 (.cells #[.int .i64 n, .int .u64 s] ty_api_ID (0, 0)) :: M) J5 := k5
      refine k5.put (i := 2) rfl (show 27 < 32 by decide) fun J6 k6 => ?_
      have k6 : St H0 (Prt.one bi (.cells #[.bool false, .int .i64 t.node, .int .i64 n, .int .u64 s, .int .i64 0] ty_trace_Item (0, 0)) :: Prt.mp bm [] :: trB tb c t.node (IntKind.u64.wrap (t.num + 1)) t.found 1 (.slice (some ⟨bi, 0, none⟩) 1 1) (.map (some bm)) t.opn (.slice x.tp t.todo.length x.tc) t.sent t.wait x.T :: Prt.row 5 x.ip t.items.length x.ic (cel It.cells t.items) :: smP t x :: Prt.row 1 x.tp t.todo.length x.tc (t.todo.map (Value.int .i64)) :: Prt.pure True :: Prt.one b5 (.cells #[.int .i64 n, .int .u64 s] ty_api_ID (0, 0)) :: M) J6 := k6
      refine k6.put (i := 2) rfl (show 28 < 32 by decide) fun J7 k7 => ?_
      have k7 : St H0 (Prt.one bi (.cells #[.bool false, .int .i64 t.node, .int .i64 n, .int .u64 s, .int .i64 0] ty_trace_Item (0, 0)) :: Prt.mp bm [] :: trB tb c t.node (IntKind.u64.wrap (t.num + 1)) t.found 1 (.slice (some ⟨bi, 0, none⟩) 1 1) (.map (some bm)) 0 (.slice x.tp t.todo.length x.tc) t.sent t.wait x.T :: Prt.row 5 x.ip t.items.length x.ic (cel It.cells t.items) :: smP t x :: Prt.row 1 x.tp t.todo.length x.tc (t.todo.map (Value.int .i64)) :: Prt.pure True :: Prt.one b5 (.cells #[.int .i64 n, .int .u64 s] ty_api_ID (0, 0)) :: M) J7 := k7
      refine k7.put (i := 2) rfl (show 29 < 32 by decide) fun J8 k8 => ?_
      have k8 : St H0 (Prt.one bi (.cells #[.bool false, .int .i64 t.node, .int .i64 n, .int .u64 s, .int .i64 0] ty_trace_Item (0, 0)) :: Prt.mp bm [] :: trB tb c t.node (IntKind.u64.wrap (t.num + 1)) t.found 1 (.slice (some ⟨bi, 0, none⟩) 1 1) (.map (some bm)) 0 (.slice none 0 0) t.sent t.wait x.T :: Prt.row 5 x.ip t.items.length x.ic (cel It.cells t.items) :: smP t x :: Prt.row 1 x.tp t.todo.length x.tc (t.todo.map (Value.int .i64)) :: Prt.pure True :: Prt.one b5 (.cells #[.int .i64 n, .int .u64 s] ty_api_ID (0, 0)) :: M) J8 := k8
      exact hfin bi bm _ k8
end
end Go.Proofs.Ytknejebggegfjaa

namespace Go.Proofs.Ytknejebggegfjaa
set_option linter.unusedSimpArgs false
set_option linter.unusedVariables false
set_option maxRecDepth 20000
open Go
/-- A raw config: the same 22 numbers. -/
def Cf.raw (r : Cf) : Value := .agg #[.int .i64 r.a0, .int .i64 r.a1, .int .i64 r.a2, .int .i64 r.a3, .int .i64 r.a4, .int .i64 r.a5, .int .i64 r.a6, .int .i64 r.a7, .int .i64 r.a8, .int .i64 r.a9, .int .i64 r.a10, .int .i64 r.a11, .int .i64 r.a12, .int .i64 r.a13, .int .i64 r.a14, .int .i64 r.a15, .int .i64 r.a16, .int .i64 r.a17, .int .i64 r.a18, .int .i64 r.a19, .int .u64 r.a20, .int .u64 r.a21]
def cUnit (r : Cf) : Int := IntKind.u64.wrap (IntKind.i64.wrap (4 + pick r.a11 20))
def cWait (r : Cf) : Int := IntKind.u64.wrap (IntKind.i64.wrap (1 + pick r.a14 30))
def cSusp (r : Cf) : Int := IntKind.i64.wrap (1 + pick r.a17 4)
/-- What is made of it. -/
def confOf (r : Cf) : Cf where
  a0 := IntKind.i64.wrap (2 + pick r.a0 3)
  a1 := IntKind.i64.wrap (1 + pick r.a1 3)
  a2 := IntKind.i64.wrap (2 + pick r.a2 4)
  a3 := IntKind.i64.wrap (16 * (IntKind.i64.wrap (1 + pick r.a3 8)))
  a4 := IntKind.i64.wrap (2 + pick r.a4 14)
  a5 := IntKind.i64.wrap (2 + pick r.a5 10)
  a6 := IntKind.i64.wrap (1 + pick r.a6 6)
  a7 := IntKind.i64.wrap (1 + pick r.a7 4)
  a8 := IntKind.i64.wrap (1 + pick r.a8 8)
  a9 := IntKind.i64.wrap (4 + pick r.a9 60)
  a10 := IntKind.i64.wrap (1 + pick r.a10 4)
  a11 := cUnit r
  a12 := IntKind.u64.wrap (pick r.a12 (IntKind.i64.wrap (Int.tdiv (IntKind.i64.wrap (cUnit r)) 2)))
  a13 := IntKind.u64.wrap (cUnit r * (IntKind.u64.wrap (IntKind.i64.wrap (40 + pick r.a13 200))))
  a14 := cWait r
  a15 := IntKind.u64.wrap (cWait r + (IntKind.u64.wrap (pick r.a15 60)))
  a16 := IntKind.u64.wrap (cUnit r * (IntKind.u64.wrap (IntKind.i64.wrap (1 + pick r.a16 60))))
  a17 := cSusp r
  a18 := IntKind.i64.wrap ((IntKind.i64.wrap (cSusp r + 1)) + pick r.a18 4)
  a19 := IntKind.i64.wrap (1 + pick r.a19 12)
  a20 := Int.tmod r.a20 1000
  a21 := Int.tmod r.a21 1000
structure Cf.good (c : Cf) : Prop where
  a0 : 2 ≤ c.a0 ∧ c.a0 ≤ 4
  a1 : 1 ≤ c.a1 ∧ c.a1 ≤ 4
  a2 : 1 ≤ c.a2 ∧ c.a2 ≤ 8
  a3 : 1 ≤ c.a3 ∧ c.a3 ≤ 4096 ∧ Int.tmod c.a3 16 = 0
  a4 : 1 ≤ c.a4 ∧ c.a4 ≤ 64
  a5 : 1 ≤ c.a5 ∧ c.a5 ≤ 64
  a6 : 1 ≤ c.a6 ∧ c.a6 ≤ 16
  a7 : 1 ≤ c.a7 ∧ c.a7 ≤ 8
  a8 : 1 ≤ c.a8 ∧ c.a8 ≤ 64
  a9 : 1 ≤ c.a9 ∧ c.a9 ≤ 256
  a10 : 1 ≤ c.a10 ∧ c.a10 ≤ 16
  a11 : 4 ≤ c.a11 ∧ c.a11 ≤ 23
  a12 : 0 ≤ c.a12 ∧ c.a12 < c.a11
  a13 : 0 ≤ c.a13 ∧ c.a13 ≤ 5497 ∧ 16 * c.a11 ≤ c.a13
  a14 : 1 ≤ c.a14 ∧ c.a14 ≤ 30
  a15 : c.a14 ≤ c.a15 ∧ c.a15 ≤ 89
  a16 : 1 ≤ c.a16 ∧ c.a16 ≤ 1380
  a17 : 1 ≤ c.a17 ∧ c.a17 ≤ 4
  a18 : c.a17 < c.a18 ∧ c.a18 < 40
  a19 : 1 ≤ c.a19 ∧ c.a19 ≤ 64
  a20 : 0 ≤ c.a20 ∧ c.a20 < 1000
  a21 : 0 ≤ c.a21 ∧ c.a21 < 1000
theorem cUnit_is (r : Cf) : 4 ≤ cUnit r ∧ cUnit r ≤ 23 := by
  have h := @pick_lt r.a11 20 (by decide)
  unfold cUnit
  rw [wrap_i64 (by omega) (by omega), wrap_u64' (by omega) (by omega)]
  omega
theorem cWait_is (r : Cf) : 1 ≤ cWait r ∧ cWait r ≤ 30 := by
  have h := @pick_lt r.a14 30 (by decide)
  unfold cWait
  rw [wrap_i64 (by omega) (by omega), wrap_u64' (by omega) (by omega)]
  omega
theorem cSusp_is (r : Cf) : 1 ≤ cSusp r ∧ cSusp r ≤ 4 := by
  have h := @pick_lt r.a17 4 (by decide)
  unfold cSusp
  rw [wrap_i64 (by omega) (by omega)]
  omega
theorem cHalf_is (r : Cf) : 2 ≤ IntKind.i64.wrap (Int.tdiv (IntKind.i64.wrap (cUnit r)) 2) ∧ IntKind.i64.wrap (Int.tdiv (IntKind.i64.wrap (cUnit r)) 2) ≤ 11 := by
  have h := cUnit_is r
  rw [wrap_i64 (n := cUnit r) (by omega) (by omega), Int.tdiv_eq_ediv_of_nonneg (by omega)]
  rw [wrap_i64 (by omega) (by omega)]
  omega
theorem conf_good {r : Cf} (h20 : 0 ≤ r.a20) (h21 : 0 ≤ r.a21) : (confOf r).good := by
  have hu := cUnit_is r
  have hw := cWait_is r
  have hs := cSusp_is r
  have hh := cHalf_is r
  refine ⟨?_, ?_, ?_, ?_, ?_, ?_, ?_, ?_, ?_, ?_, ?_, hu, ?_, ?_, hw, ?_, ?_, hs, ?_, ?_, ?_, ?_⟩
  · have h := @pick_lt r.a0 3 (by decide)
    simp only [confOf]
    rw [wrap_i64 (by omega) (by omega)]
    omega
  · have h := @pick_lt r.a1 3 (by decide)
    simp only [confOf]
    rw [wrap_i64 (by omega) (by omega)]
    omega
  · have h := @pick_lt r.a2 4 (by decide)
    simp only [confOf]
    rw [wrap_i64 (by omega) (by omega)]
    omega
  · have h := @pick_lt r.a3 8 (by decide)
    simp only [confOf]
    rw [wrap_i64 (n := 1 + pick r.a3 8) (by omega) (by omega), wrap_i64 (by omega) (by omega)]
    refine ⟨by omega, by omega, ?_⟩
    rw [Int.tmod_eq_emod_of_nonneg (by omega)]
    omega
  · have h := @pick_lt r.a4 14 (by decide)
    simp only [confOf]
    rw [wrap_i64 (by omega) (by omega)]
    omega
  · have h := @pick_lt r.a5 10 (by decide)
    simp only [confOf]
    rw [wrap_i64 (by omega) (by omega)]
    omega
  · have h := @pick_lt r.a6 6 (by decide)
    simp only [confOf]
    rw [wrap_i64 (by omega) (by omega)]
    omega
  · have h := @pick_lt r.a7 4 (by decide)
    simp only [confOf]
    rw [wrap_i64 (by omega) (by omega)]
    omega
  · have h := @pick_lt r.a8 8 (by decide)
    simp only [confOf]
    rw [wrap_i64 (by omega) (by omega)]
    omega
  · have h := @pick_lt r.a9 60 (by decide)
    simp only [confOf]
    rw [wrap_i64 (by omega) (by omega)]
    omega
  · have h := @pick_lt r.a10 4 (by decide)
    simp only [confOf]
    rw [wrap_i64 (by omega) (by omega)]
    omega
  · have h := @pick_lt r.a12 _ (Int.lt_of_lt_of_le (by decide) hh.1)
    simp only [confOf]
    rw [wrap_u64' (by omega) (by omega)]
    refine ⟨h.1, ?_⟩
    have h1 := h.2
    have h2 : IntKind.i64.wrap (Int.tdiv (IntKind.i64.wrap (cUnit r)) 2) ≤ cUnit r := by
      rw [wrap_i64 (n := cUnit r) (by omega) (by omega), Int.tdiv_eq_ediv_of_nonneg (by omega)]
      rw [wrap_i64 (by omega) (by omega)]
      omega
    omega
  · have h := @pick_lt r.a13 200 (by decide)
    simp only [confOf]
    rw [wrap_i64 (n := 40 + pick r.a13 200) (by omega) (by omega), wrap_u64' (n := 40 + pick r.a13 200) (by omega) (by omega)]
    have h1 : cUnit r * (40 + pick r.a13 200) ≤ 23 * 239 := Int.mul_le_mul (by omega) (by omega) (by omega) (by decide)
    have h2 : cUnit r * 40 ≤ cUnit r * (40 + pick r.a13 200) := Int.mul_le_mul_of_nonneg_left (by omega) (by omega)
    rw [wrap_u64' (by omega) (by omega)]
    omega
  · have h := @pick_lt r.a15 60 (by decide)
    simp only [confOf]
    rw [wrap_u64' (n := pick r.a15 60) (by omega) (by omega), wrap_u64' (by omega) (by omega)]
    omega
  · have h := @pick_lt r.a16 60 (by decide)
    simp only [confOf]
    rw [wrap_i64 (n := 1 + pick r.a16 60) (by omega) (by omega), wrap_u64' (n := 1 + pick r.a16 60) (by omega) (by omega)]
    have h1 : cUnit r * (1 + pick r.a16 60) ≤ 23 * 60 := Int.mul_le_mul (by omega) (by omega) (by omega) (by decide)
    have h2 : cUnit r * 1 ≤ cUnit r * (1 + pick r.a16 60) := Int.mul_le_mul_of_nonneg_left (by omega) (by omega)
    rw [wrap_u64' (by omega) (by omega)]
    omega
  · have h := @pick_lt r.a18 4 (by decide)
    simp only [confOf]
    rw [wrap_i64 (n := cSusp r + 1) (by omega) (by omega), wrap_i64 (by omega) (by omega)]
    omega
  · have h := @pick_lt r.a19 12 (by decide)
    simp only [confOf]
    rw [wrap_i64 (by omega) (by omega)]
    omega
  · simp only [confOf]
    rw [Int.tmod_eq_emod_of_nonneg h20]
    omega
  · simp only [confOf]
    rw [Int.tmod_eq_emod_of_nonneg h21]
    omega

section
variable {H0 H : Hp} {L M N : List Prt} {i k tb : Nat} {r c : Cf} {K : Value → Hp → Prop}
theorem inC {n m : Int} (hK : K (.bool (decide (n ≥ 1) && decide (n ≤ m))) H) : hcall PR f_api_in ⟨[.int .i64 n, .int .i64 m]⟩ H K := by
  apply den_api_in
  unfold B_api_in
  by_cases h : n ≥ 1
  · rw [decide_eq_true h, Bool.true_and] at hK
    exact bif_pos h hK
  · rw [decide_eq_false h, Bool.false_and] at hK
    exact bif_neg h hK
theorem inT {n m : Int} (h : 1 ≤ n ∧ n ≤ m) (hK : K (.bool true) H) : hcall PR f_api_in ⟨[.int .i64 n, .int .i64 m]⟩ H K := inC (by rw [decide_eq_true h.1, decide_eq_true h.2]; exact hK)
theorem mayC (hg : c.good) (h : St H0 L H) (hK : ∀ H', St H0 L H' → K (.bool true) H') : hcall PR f_api_May ⟨[c.val]⟩ H K := by
  apply den_api_May
  unfold B_api_May
  intro b23 hb23
  have g := h.alloc (o := .cells #[.int .i64 c.a0, .int .i64 c.a1, .int .i64 c.a2, .int .i64 c.a3, .int .i64 c.a4, .int .i64 c.a5, .int .i64 c.a6, .int .i64 c.a7, .int .i64 c.a8, .int .i64 c.a9, .int .i64 c.a10, .int .u64 c.a11, .int .u64 c.a12, .int .u64 c.a13, .int .u64 c.a14, .int .u64 c.a15, .int .u64 c.a16, .int .i64 c.a17, .int .i64 c.a18, .int .i64 c.a19, .int .u64 c.a20, .int .u64 c.a21] ty_api_Config) hb23
  have hK := hK _ g.less
  intro R25 hR25
  have hR25 := hR25 true _ (by
    intro R28 hR28
    have hR28 := hR28 true _ (by
      intro R31 hR31
      have hR31 := hR31 true _ (by
        intro R34 hR34
        have hR34 := hR34 true _ (by
          simp only [condT]
          refine ldI_of (g.cell (i := 0) rfl rfl) (inT ⟨hg.a17.1, by have := hg.a17.2; omega⟩ ?_)
          (try simp only [asI_mk', asB_mk, asP_mk, asA_mk, asM_mk, asSl_mk, asStr_mk, tup2_mk, tup3_mk, agg1_mk, agg2_mk, agg3_mk, agg4_mk, asAggm, unCons_mk, unNil_mk, asTup_mk, extractD0, extractD1, List.toList_toArray, nilP_mk, add_mk, Nat.zero_add, Nat.add_zero, condT, condF, Bool.not_true, Bool.not_false, Option.isNone_some, Option.isNone_none])
          refine ldI_of (g.cell (i := 0) rfl rfl) (ldI_of (g.cell (i := 0) rfl rfl) (bif_pos (by have := hg.a18.1; omega) (ldI_of (g.cell (i := 0) rfl rfl) (bif_pos hg.a18.2 ?_))))
          refine ldI_of (g.cell (i := 0) rfl rfl) (inT hg.a19 ?_)
          (try simp only [asI_mk', asB_mk, asP_mk, asA_mk, asM_mk, asSl_mk, asStr_mk, tup2_mk, tup3_mk, agg1_mk, agg2_mk, agg3_mk, agg4_mk, asAggm, unCons_mk, unNil_mk, asTup_mk, extractD0, extractD1, List.toList_toArray, nilP_mk, add_mk, Nat.zero_add, Nat.add_zero, condT, condF, Bool.not_true, Bool.not_false, Option.isNone_some, Option.isNone_none])
          refine ldI_of (g.cell (i := 0) rfl rfl) (bif_pos (by have := hg.a20.2; omega) (ldI_of (g.cell (i := 0) rfl rfl) ?_))
          rw [decide_eq_true (by have := hg.a21.2; omega : c.a21 ≤ 72057594037927935)]
          exact hK)
        have e := hg.a15
        have e2 := hg.a16
        have e3 := hg.a14
        refine ldI_of (g.cell (i := 0) rfl rfl) (bif_pos (by omega) (ldI_of (g.cell (i := 0) rfl rfl) (ldI_of (g.cell (i := 0) rfl rfl) (bif_pos e.1 (ldI_of (g.cell (i := 0) rfl rfl) (bif_pos (by omega) (ldI_of (g.cell (i := 0) rfl rfl) (bif_pos (by omega) (ldI_of (g.cell (i := 0) rfl rfl) ?_)))))))))
        rw [decide_eq_true (by omega : c.a16 ≤ 4294967295)]
        exact hR34)
      have e := hg.a11
      have e2 := hg.a12
      have e3 := hg.a13
      refine ldI_of (g.cell (i := 0) rfl rfl) (bif_pos (by omega) (ldI_of (g.cell (i := 0) rfl rfl) (bif_pos (by omega) (ldI_of (g.cell (i := 0) rfl rfl) (ldI_of (g.cell (i := 0) rfl rfl) (bif_pos e2.2 (ldI_of (g.cell (i := 0) rfl rfl) (bif_pos (by omega) ?_))))))))
      refine ldI_of (g.cell (i := 0) rfl rfl) (ldI_of (g.cell (i := 0) rfl rfl) (ldI_of (g.cell (i := 0) rfl rfl) (ldI_of (g.cell (i := 0) rfl rfl) (ldI_of (g.cell (i := 0) rfl rfl) ?_))))
      have h1 : c.a13 * 1 ≤ c.a13 * (c.a11 - c.a12) := Int.mul_le_mul_of_nonneg_left (by omega) (by omega)
      have h2 : c.a13 * (c.a11 - c.a12) ≤ 5497 * 23 := Int.mul_le_mul (by omega) (by omega) (by omega) (by decide)
      rw [wrap_u64' (n := c.a11 - c.a12) (by omega) (by omega), wrap_u64' (n := c.a11 + c.a12) (by omega) (by omega), wrap_u64' (n := 8 * (c.a11 + c.a12)) (by omega) (by omega), wrap_u64' (n := c.a13 * (c.a11 - c.a12)) (by omega) (by omega)]
      rw [decide_eq_true (by omega : c.a13 * (c.a11 - c.a12) ≥ 8 * (c.a11 + c.a12))]
      exact hR31)
    refine ldI_of (g.cell (i := 0) rfl rfl) (inT hg.a4 ?_)
    (try simp only [asI_mk', asB_mk, asP_mk, asA_mk, asM_mk, asSl_mk, asStr_mk, tup2_mk, tup3_mk, agg1_mk, agg2_mk, agg3_mk, agg4_mk, asAggm, unCons_mk, unNil_mk, asTup_mk, extractD0, extractD1, List.toList_toArray, nilP_mk, add_mk, Nat.zero_add, Nat.add_zero, condT, condF, Bool.not_true, Bool.not_false, Option.isNone_some, Option.isNone_none])
    refine ldI_of (g.cell (i := 0) rfl rfl) (inT hg.a5 ?_)
    (try simp only [asI_mk', asB_mk, asP_mk, asA_mk, asM_mk, asSl_mk, asStr_mk, tup2_mk, tup3_mk, agg1_mk, agg2_mk, agg3_mk, agg4_mk, asAggm, unCons_mk, unNil_mk, asTup_mk, extractD0, extractD1, List.toList_toArray, nilP_mk, add_mk, Nat.zero_add, Nat.add_zero, condT, condF, Bool.not_true, Bool.not_false, Option.isNone_some, Option.isNone_none])
    refine ldI_of (g.cell (i := 0) rfl rfl) (inT hg.a6 ?_)
    (try simp only [asI_mk', asB_mk, asP_mk, asA_mk, asM_mk, asSl_mk, asStr_mk, tup2_mk, tup3_mk, agg1_mk, agg2_mk, agg3_mk, agg4_mk, asAggm, unCons_mk, unNil_mk, asTup_mk, extractD0, extractD1, List.toList_toArray, nilP_mk, add_mk, Nat.zero_add, Nat.add_zero, condT, condF, Bool.not_true, Bool.not_false, Option.isNone_some, Option.isNone_none])
    refine ldI_of (g.cell (i := 0) rfl rfl) (inT hg.a7 ?_)
    (try simp only [asI_mk', asB_mk, asP_mk, asA_mk, asM_mk, asSl_mk, asStr_mk, tup2_mk, tup3_mk, agg1_mk, agg2_mk, agg3_mk, agg4_mk, asAggm, unCons_mk, unNil_mk, asTup_mk, extractD0, extractD1, List.toList_toArray, nilP_mk, add_mk, Nat.zero_add, Nat.add_zero, condT, condF, Bool.not_true, Bool.not_false, Option.isNone_some, Option.isNone_none])
    refine ldI_of (g.cell (i := 0) rfl rfl) (inT hg.a8 ?_)
    (try simp only [asI_mk', asB_mk, asP_mk, asA_mk, asM_mk, asSl_mk, asStr_mk, tup2_mk, tup3_mk, agg1_mk, agg2_mk, agg3_mk, agg4_mk, asAggm, unCons_mk, unNil_mk, asTup_mk, extractD0, extractD1, List.toList_toArray, nilP_mk, add_mk, Nat.zero_add, Nat.add_zero, condT, condF, Bool.not_true, Bool.not_false, Option.isNone_some, Option.isNone_none])
    refine ldI_of (g.cell (i := 0) rfl rfl) (inT hg.a9 ?_)
    (try simp only [asI_mk', asB_mk, asP_mk, asA_mk, asM_mk, asSl_mk, asStr_mk, tup2_mk, tup3_mk, agg1_mk, agg2_mk, agg3_mk, agg4_mk, asAggm, unCons_mk, unNil_mk, asTup_mk, extractD0, extractD1, List.toList_toArray, nilP_mk, add_mk, Nat.zero_add, Nat.add_zero, condT, condF, Bool.not_true, Bool.not_false, Option.isNone_some, Option.isNone_none])
    refine ldI_of (g.cell (i := 0) rfl rfl) (inT hg.a10 ?_)
    (try simp only [asI_mk', asB_mk, asP_mk, asA_mk, asM_mk, asSl_mk, asStr_mk, tup2_mk, tup3_mk, agg1_mk, agg2_mk, agg3_mk, agg4_mk, asAggm, unCons_mk, unNil_mk, asTup_mk, extractD0, extractD1, List.toList_toArray, nilP_mk, add_mk, Nat.zero_add, Nat.add_zero, condT, condF, Bool.not_true, Bool.not_false, Option.isNone_some, Option.isNone_none])
    exact hR28)
  refine ldI_of (g.cell (i := 0) rfl rfl) (inT ⟨by have := hg.a0; omega, by have := hg.a0; omega⟩ ?_)
  (try simp only [asI_mk', asB_mk, asP_mk, asA_mk, asM_mk, asSl_mk, asStr_mk, tup2_mk, tup3_mk, agg1_mk, agg2_mk, agg3_mk, agg4_mk, asAggm, unCons_mk, unNil_mk, asTup_mk, extractD0, extractD1, List.toList_toArray, nilP_mk, add_mk, Nat.zero_add, Nat.add_zero, condT, condF, Bool.not_true, Bool.not_false, Option.isNone_some, Option.isNone_none])
  refine ldI_of (g.cell (i := 0) rfl rfl) (inT hg.a1 ?_)
  (try simp only [asI_mk', asB_mk, asP_mk, asA_mk, asM_mk, asSl_mk, asStr_mk, tup2_mk, tup3_mk, agg1_mk, agg2_mk, agg3_mk, agg4_mk, asAggm, unCons_mk, unNil_mk, asTup_mk, extractD0, extractD1, List.toList_toArray, nilP_mk, add_mk, Nat.zero_add, Nat.add_zero, condT, condF, Bool.not_true, Bool.not_false, Option.isNone_some, Option.isNone_none])
  refine ldI_of (g.cell (i := 0) rfl rfl) (inT hg.a2 ?_)
  (try simp only [asI_mk', asB_mk, asP_mk, asA_mk, asM_mk, asSl_mk, asStr_mk, tup2_mk, tup3_mk, agg1_mk, agg2_mk, agg3_mk, agg4_mk, asAggm, unCons_mk, unNil_mk, asTup_mk, extractD0, extractD1, List.toList_toArray, nilP_mk, add_mk, Nat.zero_add, Nat.add_zero, condT, condF, Bool.not_true, Bool.not_false, Option.isNone_some, Option.isNone_none])
  refine ldI_of (g.cell (i := 0) rfl rfl) (inT ⟨hg.a3.1, hg.a3.2.1⟩ ?_)
  (try simp only [asI_mk', asB_mk, asP_mk, asA_mk, asM_mk, asSl_mk, asStr_mk, tup2_mk, tup3_mk, agg1_mk, agg2_mk, agg3_mk, agg4_mk, asAggm, unCons_mk, unNil_mk, asTup_mk, extractD0, extractD1, List.toList_toArray, nilP_mk, add_mk, Nat.zero_add, Nat.add_zero, condT, condF, Bool.not_true, Bool.not_false, Option.isNone_some, Option.isNone_none])
  refine ldI_of (g.cell (i := 0) rfl rfl) ⟨by decide, ?_⟩
  rw [show ((Int.tmod c.a3 16) == 0) = true by rw [hg.a3.2.2]; rfl]
  exact hR25
theorem configC (h : St H0 L H) (hK : ∀ H', St H0 L H' → K (confOf r).val H') : hcall PR f_hand_Config ⟨[r.raw]⟩ H K := by
  apply den_hand_Config
  unfold B_hand_Config
  intro b23 hb23
  have g1 := h.alloc (o := .cells #[.int .i64 r.a0, .int .i64 r.a1, .int .i64 r.a2, .int .i64 r.a3, .int .i64 r.a4, .int .i64 r.a5, .int .i64 r.a6, .int .i64 r.a7, .int .i64 r.a8, .int .i64 r.a9, .int .i64 r.a10, .int .i64 r.a11, .int .i64 r.a12, .int .i64 r.a13, .int .i64 r.a14, .int .i64 r.a15, .int .i64 r.a16, .int .i64 r.a17, .int .i64 r.a18, .int .i64 r.a19, .int .u64 r.a20, .int .u64 r.a21] ty_hand_Raw) hb23
  intro b25 hb25
  have g2 := g1.alloc (o := .cells #[.int .i64 0, .int .i64 0, .int .i64 0, .int .i64 0, .int .i64 0, .int .i64 0, .int .i64 0, .int .i64 0, .int .i64 0, .int .i64 0, .int .i64 0, .int .u64 0, .int .u64 0, .int .u64 0, .int .u64 0, .int .u64 0, .int .u64 0, .int .i64 0, .int .i64 0, .int .i64 0, .int .u64 0, .int .u64 0] ty_api_Config) hb25
  have g2 : St H0 (Prt.one b25 (.cells #[.int .i64 0, .int .i64 0, .int .i64 0, .int .i64 0, .int .i64 0, .int .i64 0, .int .i64 0, .int .i64 0, .int .i64 0, .int .i64 0, .int .i64 0, .int .u64 0, .int .u64 0, .int .u64 0, .int .u64 0, .int .u64 0, .int .u64 0, .int .i64 0, .int .i64 0, .int .i64 0, .int .u64 0, .int .u64 0] ty_api_Config (0, 0)) :: Prt.one b23 (.cells #[.int .i64 r.a0, .int .i64 r.a1, .int .i64 r.a2, .int .i64 r.a3, .int .i64 r.a4, .int .i64 r.a5, .int .i64 r.a6, .int .i64 r.a7, .int .i64 r.a8, .int .i64 r.a9, .int .i64 r.a10, .int .i64 r.a11, .int .i64 r.a12, .int .i64 r.a13, .int .i64 r.a14, .int .i64 r.a15, .int .i64 r.a16, .int .i64 r.a17, .int .i64 r.a18, .int .i64 r.a19, .int .u64 r.a20, .int .u64 r.a21] ty_hand_Raw (0, 0)) :: L) _ := g2
  clear g1 h
  intro R27 hR27
  have hR27 : ∀ bc H', St H0 (Prt.one bc (.cells #[.int .i64 (confOf r).a0, .int .i64 (confOf r).a1, .int .i64 (confOf r).a2, .int .i64 (confOf r).a3, .int .i64 0, .int .i64 0, .int .i64 0, .int .i64 0, .int .i64 0, .int .i64 0, .int .i64 0, .int .u64 0, .int .u64 0, .int .u64 0, .int .u64 0, .int .u64 0, .int .u64 0, .int .i64 0, .int .i64 0, .int .i64 0, .int .u64 0, .int .u64 0] ty_api_Config (0, 0)) :: Prt.one b25 (.cells #[.int .i64 0, .int .i64 0, .int .i64 0, .int .i64 0, .int .i64 0, .int .i64 0, .int .i64 0, .int .i64 0, .int .i64 0, .int .i64 0, .int .i64 0, .int .u64 0, .int .u64 0, .int .u64 0, .int .u64 0, .int .u64 0, .int .u64 0, .int .i64 0, .int .i64 0, .int .i64 0, .int .u64 0, .int .u64 0] ty_api_Config (0, 0)) :: Prt.one b23 (.cells #[.int .i64 r.a0, .int .i64 r.a1, .int .i64 r.a2, .int .i64 r.a3, .int .i64 r.a4, .int .i64 r.a5, .int .i64 r.a6, .int .i64 r.a7, .int .i64 r.a8, .int .i64 r.a9, .int .i64 r.a10, .int .i64 r.a11, .int .i64 r.a12, .int .i64 r.a13, .int .i64 r.a14, .int .i64 r.a15, .int .i64 r.a16, .int .i64 r.a17, .int .i64 r.a18, .int .i64 r.a19, .int .u64 r.a20, .int .u64 r.a21] ty_hand_Raw (0, 0)) :: L) H' → R27 (some ⟨bc, 0, none⟩) H' := fun bc H' g4 => by
    refine hR27 _ H' ?_
    clear hR27 g2
    (try simp only [asI_mk', asB_mk, asP_mk, asA_mk, asM_mk, asSl_mk, asStr_mk, tup2_mk, tup3_mk, agg1_mk, agg2_mk, agg3_mk, agg4_mk, asAggm, unCons_mk, unNil_mk, asTup_mk, extractD0, extractD1, List.toList_toArray, nilP_mk, add_mk, Nat.zero_add, Nat.add_zero, condT, condF, Bool.not_true, Bool.not_false, Option.isNone_some, Option.isNone_none])
    refine ldI_of (g4.cell (i := 2) rfl rfl) (Pick_ok (by decide) (by decide) ?_)
    (try simp only [asI_mk', asB_mk, asP_mk, asA_mk, asM_mk, asSl_mk, asStr_mk, tup2_mk, tup3_mk, agg1_mk, agg2_mk, agg3_mk, agg4_mk, asAggm, unCons_mk, unNil_mk, asTup_mk, extractD0, extractD1, List.toList_toArray, nilP_mk, add_mk, Nat.zero_add, Nat.add_zero, condT, condF, Bool.not_true, Bool.not_false, Option.isNone_some, Option.isNone_none])
    refine g4.put (i := 0) rfl (show 4 < 22 by decide) fun H5 g5 => ?_
    have g5 : St H0 (Prt.one bc (.cells #[.int .i64 (confOf r).a0, .int .i64 (confOf r).a1, .int .i64 (confOf r).a2, .int .i64 (confOf r).a3, .int .i64 (confOf r).a4, .int .i64 0, .int .i64 0, .int .i64 0, .int .i64 0, .int .i64 0, .int .i64 0, .int .u64 0, .int .u64 0, .int .u64 0, .int .u64 0, .int .u64 0, .int .u64 0, .int .i64 0, .int .i64 0, .int .i64 0, .int .u64 0, .int .u64 0] ty_api_Config (0, 0)) :: Prt.one b25 (.cells #[.int .i64 0, .int .i64 0, .int .i64 0, .int .i64 0, .int .i64 0, .int .i64 0, .int .i64 0, .int .i64 0, .int .i64 0, .int .i64 0, .int .i64 0, .int .u64 0, .int .u64 0, .int .u64 0, .int .u64 0, .int .u64 0, .int .u64 0, .int .i64 0, .int .i64 0, .int .i64 0, .int .u64 0, .int .u64 0] ty_api_Config (0, 0)) :: Prt.one b23 (.cells #[.int .i64 r.a0, .int .i64 r.a1, .int .i64 r.a2, .int .i64 r.a3, .int .i64 r.a4, .int .i64 r.a5, .int .i64 r.a6, .int .i64 r.a7, .int .i64 r.a8, .int .i64 r.a9, .int .i64 r.a10, .int .i64 r.a11, .int .i64 r.a12, .int .i64 r.a13, .int .i64 r.a14, .int .i64 r.a15, .int .i64 r.a16, .int .i64 r.a17, .int .i64 r.a18, .int .i64 r.a19, .int .u64 r.a20, .int .u64 r.a21] ty_hand_Raw (0, 0)) :: L) H5 := g5
    refine ldI_of (g5.cell (i := 2) rfl rfl) (Pick_ok (by decide) (by decide) ?_)
    (try simp only [asI_mk', asB_mk, asP_mk, asA_mk, asM_mk, asSl_mk, asStr_mk, tup2_mk, tup3_mk, agg1_mk, agg2_mk, agg3_mk, agg4_mk, asAggm, unCons_mk, unNil_mk, asTup_mk, extractD0, extractD1, List.toList_toArray, nilP_mk, add_mk, Nat.zero_add, Nat.add_zero, condT, condF, Bool.not_true, Bool.not_false, Option.isNone_some, Option.isNone_none])
    refine g5.put (i := 0) rfl (show 5 < 22 by decide) fun H6 g6 => ?_
    have g6 : St H0 (Prt.one bc (.cells #[.int .i64 (confOf r).a0, .int .i64 (confOf r).a1, .int .i64 (confOf r).a2, .int .i64 (confOf r).a3, .int .i64 (confOf r).a4, .int .i64 (confOf r).a5, .int .i64 0, .int .i64 0, .int .i64 0, .int .i64 0, .int .i64 0, .int .u64 0, .int .u64 0, .int .u64 0, .int .u64 0, .int .u64 0, .int .u64 0, .int .i64 0, .int .i64 0, .int .i64 0, .int .u64 0, .int .u64 0] ty_api_Config (0, 0)) :: Prt.one b25 (.cells #[.int .i64 0, .int .i64 0, .int .i64 0, .int .i64 0, .int .i64 0, .int .i64 0, .int .i64 0, .int .i64 0, .int .i64 0, .int .i64 0, .int .i64 0, .int .u64 0, .int .u64 0, .int .u64 0, .int .u64 0, .int .u64 0, .int .u64 0, .int .i64 0, .int .i64 0, .int .i64 0, .int .u64 0, .int .u64 0] ty_api_Config (0, 0)) :: Prt.one b23 (.cells #[.int .i64 r.a0, .int .i64 r.a1, .int .i64 r.a2, .int .i64 r.a3, .int .i64 r.a4, .int .i64 r.a5, .int .i64 r.a6, .int .i64 r.a7, .int .i64 r.a8, .int .i64 r.a9, .int .i64 r.a10, .int .i64 r.a11, .int .i64 r.a12, .int .i64 r.a13, .int .i64 r.a14, .int .i64 r.a15, .int .i64 r.a16, .int .i64 r.a17, .int .i64 r.a18, .int .i64 r.a19, .int .u64 r.a20, .int .u64 r.a21] ty_hand_Raw (0, 0)) :: L) H6 := g6
    refine ldI_of (g6.cell (i := 2) rfl rfl) (Pick_ok (by decide) (by decide) ?_)
    (try simp only [asI_mk', asB_mk, asP_mk, asA_mk, asM_mk, asSl_mk, asStr_mk, tup2_mk, tup3_mk, agg1_mk, agg2_mk, agg3_mk, agg4_mk, asAggm, unCons_mk, unNil_mk, asTup_mk, extractD0, extractD1, List.toList_toArray, nilP_mk, add_mk, Nat.zero_add, Nat.add_zero, condT, condF, Bool.not_true, Bool.not_false, Option.isNone_some, Option.isNone_none])
    refine g6.put (i := 0) rfl (show 6 < 22 by decide) fun H7 g7 => ?_
    have g7 : St H0 (Prt.one bc (.cells #[.int .i64 (confOf r).a0, .int .i64 (confOf r).a1, .int .i64 (confOf r).a2, .int .i64 (confOf r).a3, .int .i64 (confOf r).a4, .int .i64 (confOf r).a5, .int .i64 (confOf r).a6, .int .i64 0, .int .i64 0, .int .i64 0, .int .i64 0, .int .u64 0, .int .u64 0, .int .u64 0, .int .u64 0, .int .u64 0, .int .u64 0, .int .i64 0, .int .i64 0, .int .i64 0, .int .u64 0, .int .u64 0] ty_api_Config (0, 0)) :: Prt.one b25 (.cells #[.int .i64 0, .int .i64 0, .int .i64 0, .int .i64 0, .int .i64 0, .int .i64 0, .int .i64 0, .int .i64 0, .int .i64 0, .int .i64 0, .int .i64 0, .int .u64 0, .int .u64 0, .int .u64 0, .int .u64 0, .int .u64 0, .int .u64 0, .int .i64 0, .int .i64 0, .int .i64 0, .int .u64 0, .int .u64 0] ty_api_Config (0, 0)) :: Prt.one b23 (.cells #[.int .i64 r.a0, .int .i64 r.a1, .int .i64 r.a2, .int .i64 r.a3, .int .i64 r.a4, .int .i64 r.a5, .int .i64 r.a6, .int .i64 r.a7, .int .i64 r.a8, .int .i64 r.a9, .int .i64 r.a10, .int .i64 r.a11, .int .i64 r.a12, .int .i64 r.a13, .int .i64 r.a14, .int .i64 r.a15, .int .i64 r.a16, .int .i64 r.a17, .int .i64 r.a18, .int .i64 r.a19, .int .u64 r.a20, .int .u64 r.a21] ty_hand_Raw (0, 0)) :: L) H7 := g7
    refine ldI_of (g7.cell (i := 2) rfl rfl) (Pick_ok (by decide) (by decide) ?_)
    (try simp only [asI_mk', asB_mk, asP_mk, asA_mk, asM_mk, asSl_mk, asStr_mk, tup2_mk, tup3_mk, agg1_mk, agg2_mk, agg3_mk, agg4_mk, asAggm, unCons_mk, unNil_mk, asTup_mk, extractD0, extractD1, List.toList_toArray, nilP_mk, add_mk, Nat.zero_add, Nat.add_zero, condT, condF, Bool.not_true, Bool.not_false, Option.isNone_some, Option.isNone_none])
    refine g7.put (i := 0) rfl (show 7 < 22 by decide) fun H8 g8 => ?_
    have g8 : St H0 (Prt.one bc (.cells #[.int .i64 (confOf r).a0, .int .i64 (confOf r).a1, .int .i64 (confOf r).a2, .int .i64 (confOf r).a3, .int .i64 (confOf r).a4, .int .i64 (confOf r).a5, .int .i64 (confOf r).a6, .int .i64 (confOf r).a7, .int .i64 0, .int .i64 0, .int .i64 0, .int .u64 0, .int .u64 0, .int .u64 0, .int .u64 0, .int .u64 0, .int .u64 0, .int .i64 0, .int .i64 0, .int .i64 0, .int .u64 0, .int .u64 0] ty_api_Config (0, 0)) :: Prt.one b25 (.cells #[.int .i64 0, .int .i64 0, .int .i64 0, .int .i64 0, .int .i64 0, .int .i64 0, .int .i64 0, .int .i64 0, .int .i64 0, .int .i64 0, .int .i64 0, .int .u64 0, .int .u64 0, .int .u64 0, .int .u64 0, .int .u64 0, .int .u64 0, .int .i64 0, .int .i64 0, .int .i64 0, .int .u64 0, .int .u64 0] ty_api_Config (0, 0)) :: Prt.one b23 (.cells #[.int .i64 r.a0, .int .i64 r.a1, .int .i64 r.a2, .int .i64 r.a3, .int .i64 r.a4, .int .i64 r.a5, .int .i64 r.a6, .int .i64 r.a7, .int .i64 r.a8, .int .i64 r.a9, .int .i64 r.a10, .int .i64 r.a11, .int .i64 r.a12, .int .i64 r.a13, .int .i64 r.a14, .int .i64 r.a15, .int .i64 r.a16, .int .i64 r.a17, .int .i64 r.a18, .int .i64 r.a19, .int .u64 r.a20, .int .u64 r.a21] ty_hand_Raw (0, 0)) :: L) H8 := g8
    refine ldI_of (g8.cell (i := 2) rfl rfl) (Pick_ok (by decide) (by decide) ?_)
    (try simp only [asI_mk', asB_mk, asP_mk, asA_mk, asM_mk, asSl_mk, asStr_mk, tup2_mk, tup3_mk, agg1_mk, agg2_mk, agg3_mk, agg4_mk, asAggm, unCons_mk, unNil_mk, asTup_mk, extractD0, extractD1, List.toList_toArray, nilP_mk, add_mk, Nat.zero_add, Nat.add_zero, condT, condF, Bool.not_true, Bool.not_false, Option.isNone_some, Option.isNone_none])
    refine g8.put (i := 0) rfl (show 8 < 22 by decide) fun H9 g9 => ?_
    have g9 : St H0 (Prt.one bc (.cells #[.int .i64 (confOf r).a0, .int .i64 (confOf r).a1, .int .i64 (confOf r).a2, .int .i64 (confOf r).a3, .int .i64 (confOf r).a4, .int .i64 (confOf r).a5, .int .i64 (confOf r).a6, .int .i64 (confOf r).a7, .int .i64 (confOf r).a8, .int .i64 0, .int .i64 0, .int .u64 0, .int .u64 0, .int .u64 0, .int .u64 0, .int .u64 0, .int .u64 0, .int .i64 0, .int .i64 0, .int .i64 0, .int .u64 0, .int .u64 0] ty_api_Config (0, 0)) :: Prt.one b25 (.cells #[.int .i64 0, .int .i64 0, .int .i64 0, .int .i64 0, .int .i64 0, .int .i64 0, .int .i64 0, .int .i64 0, .int .i64 0, .int .i64 0, .int .i64 0, .int .u64 0, .int .u64 0, .int .u64 0, .int .u64 0, .int .u64 0, .int .u64 0, .int .i64 0, .int .i64 0, .int .i64 0, .int .u64 0, .int .u64 0] ty_api_Config (0, 0)) :: Prt.one b23 (.cells #[.int .i64 r.a0, .int .i64 r.a1, .int .i64 r.a2, .int .i64 r.a3, .int .i64 r.a4, .int .i64 r.a5, .int .i64 r.a6, .int .i64 r.a7, .int .i64 r.a8, .int .i64 r.a9, .int .i64 r.a10, .int .i64 r.a11, .int .i64 r.a12, .int .i64 r.a13, .int .i64 r.a14, .int .i64 r.a15, .int .i64 r.a16, .int .i64 r.a17, .int .i64 r.a18, .int .i64 r.a19, .int .u64 r.a20, .int .u64 r.a21] ty_hand_Raw (0, 0)) :: L) H9 := g9
    refine ldI_of (g9.cell (i := 2) rfl rfl) (Pick_ok (by decide) (by decide) ?_)
    (try simp only [asI_mk', asB_mk, asP_mk, asA_mk, asM_mk, asSl_mk, asStr_mk, tup2_mk, tup3_mk, agg1_mk, agg2_mk, agg3_mk, agg4_mk, asAggm, unCons_mk, unNil_mk, asTup_mk, extractD0, extractD1, List.toList_toArray, nilP_mk, add_mk, Nat.zero_add, Nat.add_zero, condT, condF, Bool.not_true, Bool.not_false, Option.isNone_some, Option.isNone_none])
    refine g9.put (i := 0) rfl (show 9 < 22 by decide) fun H10 g10 => ?_
    have g10 : St H0 (Prt.one bc (.cells #[.int .i64 (confOf r).a0, .int .i64 (confOf r).a1, .int .i64 (confOf r).a2, .int .i64 (confOf r).a3, .int .i64 (confOf r).a4, .int .i64 (confOf r).a5, .int .i64 (confOf r).a6, .int .i64 (confOf r).a7, .int .i64 (confOf r).a8, .int .i64 (confOf r).a9, .int .i64 0, .int .u64 0, .int .u64 0, .int .u64 0, .int .u64 0, .int .u64 0, .int .u64 0, .int .i64 0, .int .i64 0, .int .i64 0, .int .u64 0, .int .u64 0] ty_api_Config (0, 0)) :: Prt.one b25 (.cells #[.int .i64 0, .int .i64 0, .int .i64 0, .int .i64 0, .int .i64 0, .int .i64 0, .int .i64 0, .int .i64 0, .int .i64 0, .int .i64 0, .int .i64 0, .int .u64 0, .int .u64 0, .int .u64 0, .int .u64 0, .int .u64 0, .int .u64 0, .int .i64 0, .int .i64 0, .int .i64 0, .int .u64 0, .int .u64 0] ty_api_Config (0, 0)) :: Prt.one b23 (.cells #[.int .i64 r.a0, .int .i64 r.a1, .int .i64 r.a2, .int .i64 r.a3, .int .i64 r.a4, .int .i64 r.a5, .int .i64 r.a6, .int .i64 r.a7, .int .i64 r.a8, .int .i64 r.a9, .int .i64 r.a10, .int .i64 r.a11, .int .i64 r.a12, .int .i64 r.a13, .int .i64 r.a14, .int .i64 r.a15, .int .i64 r.a16, .int .i64 r.a17, .int .i64 r.a18, .int .i64 r.a19, .int .u64 r.a20, .int .u64 r.a21] ty_hand_Raw (0, 0)) :: L) H10 := g10
    refine ldI_of (g10.cell (i := 2) rfl rfl) (Pick_ok (by decide) (by decide) ?_)
    (try simp only [asI_mk', asB_mk, asP_mk, asA_mk, asM_mk, asSl_mk, asStr_mk, tup2_mk, tup3_mk, agg1_mk, agg2_mk, agg3_mk, agg4_mk, asAggm, unCons_mk, unNil_mk, asTup_mk, extractD0, extractD1, List.toList_toArray, nilP_mk, add_mk, Nat.zero_add, Nat.add_zero, condT, condF, Bool.not_true, Bool.not_false, Option.isNone_some, Option.isNone_none])
    refine g10.put (i := 0) rfl (show 10 < 22 by decide) fun H11 g11 => ?_
    have g11 : St H0 (Prt.one bc (.cells #[.int .i64 (confOf r).a0, .int .i64 (confOf r).a1, .int .i64 (confOf r).a2, .int .i64 (confOf r).a3, .int .i64 (confOf r).a4, .int .i64 (confOf r).a5, .int .i64 (confOf r).a6, .int .i64 (confOf r).a7, .int .i64 (confOf r).a8, .int .i64 (confOf r).a9, .int .i64 (confOf r).a10, .int .u64 0, .int .u64 0, .int .u64 0, .int .u64 0, .int .u64 0, .int .u64 0, .int .i64 0, .int .i64 0, .int .i64 0, .int .u64 0, .int .u64 0] ty_api_Config (0, 0)) :: Prt.one b25 (.cells #[.int .i64 0, .int .i64 0, .int .i64 0, .int .i64 0, .int .i64 0, .int .i64 0, .int .i64 0, .int .i64 0, .int .i64 0, .int .i64 0, .int .i64 0, .int .u64 0, .int .u64 0, .int .u64 0, .int .u64 0, .int .u64 0, .int .u64 0, .int .i64 0, .int .i64 0, .int .i64 0, .int .u64 0, .int .u64 0] ty_api_Config (0, 0)) :: Prt.one b23 (.cells #[.int .i64 r.a0, .int .i64 r.a1, .int .i64 r.a2, .int .i64 r.a3, .int .i64 r.a4, .int .i64 r.a5, .int .i64 r.a6, .int .i64 r.a7, .int .i64 r.a8, .int .i64 r.a9, .int .i64 r.a10, .int .i64 r.a11, .int .i64 r.a12, .int .i64 r.a13, .int .i64 r.a14, .int .i64 r.a15, .int .i64 r.a16, .int .i64 r.a17, .int .i64 r.a18, .int .i64 r.a19, .int .u64 r.a20, .int .u64 r.a21] ty_hand_Raw (0, 0)) :: L) H11 := g11
    refine ldI_of (g11.cell (i := 2) rfl rfl) (Pick_ok (by decide) (by decide) ?_)
    (try simp only [asI_mk', asB_mk, asP_mk, asA_mk, asM_mk, asSl_mk, asStr_mk, tup2_mk, tup3_mk, agg1_mk, agg2_mk, agg3_mk, agg4_mk, asAggm, unCons_mk, unNil_mk, asTup_mk, extractD0, extractD1, List.toList_toArray, nilP_mk, add_mk, Nat.zero_add, Nat.add_zero, condT, condF, Bool.not_true, Bool.not_false, Option.isNone_some, Option.isNone_none])
    refine g11.put (i := 0) rfl (show 11 < 22 by decide) fun H12 g12 => ?_
    have g12 : St H0 (Prt.one bc (.cells #[.int .i64 (confOf r).a0, .int .i64 (confOf r).a1, .int .i64 (confOf r).a2, .int .i64 (confOf r).a3, .int .i64 (confOf r).a4, .int .i64 (confOf r).a5, .int .i64 (confOf r).a6, .int .i64 (confOf r).a7, .int .i64 (confOf r).a8, .int .i64 (confOf r).a9, .int .i64 (confOf r).a10, .int .u64 (confOf r).a11, .int .u64 0, .int .u64 0, .int .u64 0, .int .u64 0, .int .u64 0, .int .i64 0, .int .i64 0, .int .i64 0, .int .u64 0, .int .u64 0] ty_api_Config (0, 0)) :: Prt.one b25 (.cells #[.int .i64 0, .int .i64 0, .int .i64 0, .int .i64 0, .int .i64 0, .int .i64 0, .int .i64 0, .int .i64 0, .int .i64 0, .int .i64 0, .int .i64 0, .int .u64 0, .int .u64 0, .int .u64 0, .int .u64 0, .int .u64 0, .int .u64 0, .int .i64 0, .int .i64 0, .int .i64 0, .int .u64 0, .int .u64 0] ty_api_Config (0, 0)) :: Prt.one b23 (.cells #[.int .i64 r.a0, .int .i64 r.a1, .int .i64 r.a2, .int .i64 r.a3, .int .i64 r.a4, .int .i64 r.a5, .int .i64 r.a6, .int .i64 r.a7, .int .i64 r.a8, .int .i64 r.a9, .int .i64 r.a10, .int .i64 r.a11, .int .i64 r.a12, .int .i64 r.a13, .int .i64 r.a14, .int .i64 r.a15, .int .i64 r.a16, .int .i64 r.a17, .int .i64 r.a18, .int .i64 r.a19, .int .u64 r.a20, .int .u64 r.a21] ty_hand_Raw (0, 0)) :: L) H12 := g12
    refine ldI_of (g12.cell (i := 2) rfl rfl) (ldI_of (g12.cell (i := 0) rfl rfl) ⟨by decide, Pick_ok (m := IntKind.i64.wrap (Int.tdiv (IntKind.i64.wrap (cUnit r)) 2)) (by have := cHalf_is r; omega) (by have := cHalf_is r; omega) ?_⟩)
    (try simp only [asI_mk', asB_mk, asP_mk, asA_mk, asM_mk, asSl_mk, asStr_mk, tup2_mk, tup3_mk, agg1_mk, agg2_mk, agg3_mk, agg4_mk, asAggm, unCons_mk, unNil_mk, asTup_mk, extractD0, extractD1, List.toList_toArray, nilP_mk, add_mk, Nat.zero_add, Nat.add_zero, condT, condF, Bool.not_true, Bool.not_false, Option.isNone_some, Option.isNone_none])
    refine g12.put (i := 0) rfl (show 12 < 22 by decide) fun H13 g13 => ?_
    have g13 : St H0 (Prt.one bc (.cells #[.int .i64 (confOf r).a0, .int .i64 (confOf r).a1, .int .i64 (confOf r).a2, .int .i64 (confOf r).a3, .int .i64 (confOf r).a4, .int .i64 (confOf r).a5, .int .i64 (confOf r).a6, .int .i64 (confOf r).a7, .int .i64 (confOf r).a8, .int .i64 (confOf r).a9, .int .i64 (confOf r).a10, .int .u64 (confOf r).a11, .int .u64 (confOf r).a12, .int .u64 0, .int .u64 0, .int .u64 0, .int .u64 0, .int .i64 0, .int .i64 0, .int .i64 0, .int .u64 0, .int .u64 0] ty_api_Config (0, 0)) :: Prt.one b25 (.cells #[.int .i64 0, .int .i64 0, .int .i64 0, .int .i64 0, .int .i64 0, .int .i64 0, .int .i64 0, .int .i64 0, .int .i64 0, .int .i64 0, .int .i64 0, .int .u64 0, .int .u64 0, .int .u64 0, .int .u64 0, .int .u64 0, .int .u64 0, .int .i64 0, .int .i64 0, .int .i64 0, .int .u64 0, .int .u64 0] ty_api_Config (0, 0)) :: Prt.one b23 (.cells #[.int .i64 r.a0, .int .i64 r.a1, .int .i64 r.a2, .int .i64 r.a3, .int .i64 r.a4, .int .i64 r.a5, .int .i64 r.a6, .int .i64 r.a7, .int .i64 r.a8, .int .i64 r.a9, .int .i64 r.a10, .int .i64 r.a11, .int .i64 r.a12, .int .i64 r.a13, .int .i64 r.a14, .int .i64 r.a15, .int .i64 r.a16, .int .i64 r.a17, .int .i64 r.a18, .int .i64 r.a19, .int .u64 r.a20, .int .u64 r.a21] ty_hand_Raw (0, 0)) :: L) H13 := g13
    refine ldI_of (g13.cell (i := 0) rfl rfl) (ldI_of (g13.cell (i := 2) rfl rfl) (Pick_ok (by decide) (by decide) ?_))
    (try simp only [asI_mk', asB_mk, asP_mk, asA_mk, asM_mk, asSl_mk, asStr_mk, tup2_mk, tup3_mk, agg1_mk, agg2_mk, agg3_mk, agg4_mk, asAggm, unCons_mk, unNil_mk, asTup_mk, extractD0, extractD1, List.toList_toArray, nilP_mk, add_mk, Nat.zero_add, Nat.add_zero, condT, condF, Bool.not_true, Bool.not_false, Option.isNone_some, Option.isNone_none])
    refine ⟨ldI_of (g13.cell (i := 0) rfl rfl) rfl, ?_⟩
    refine g13.put (i := 0) rfl (show 13 < 22 by decide) fun H14 g14 => ?_
    have g14 : St H0 (Prt.one bc (.cells #[.int .i64 (confOf r).a0, .int .i64 (confOf r).a1, .int .i64 (confOf r).a2, .int .i64 (confOf r).a3, .int .i64 (confOf r).a4, .int .i64 (confOf r).a5, .int .i64 (confOf r).a6, .int .i64 (confOf r).a7, .int .i64 (confOf r).a8, .int .i64 (confOf r).a9, .int .i64 (confOf r).a10, .int .u64 (confOf r).a11, .int .u64 (confOf r).a12, .int .u64 (confOf r).a13, .int .u64 0, .int .u64 0, .int .u64 0, .int .i64 0, .int .i64 0, .int .i64 0, .int .u64 0, .int .u64 0] ty_api_Config (0, 0)) :: Prt.one b25 (.cells #[.int .i64 0, .int .i64 0, .int .i64 0, .int .i64 0, .int .i64 0, .int .i64 0, .int .i64 0, .int .i64 0, .int .i64 0, .int .i64 0, .int .i64 0, .int .u64 0, .int .u64 0, .int .u64 0, .int .u64 0, .int .u64 0, .int .u64 0, .int .i64 0, .int .i64 0, .int .i64 0, .int .u64 0, .int .u64 0] ty_api_Config (0, 0)) :: Prt.one b23 (.cells #[.int .i64 r.a0, .int .i64 r.a1, .int .i64 r.a2, .int .i64 r.a3, .int .i64 r.a4, .int .i64 r.a5, .int .i64 r.a6, .int .i64 r.a7, .int .i64 r.a8, .int .i64 r.a9, .int .i64 r.a10, .int .i64 r.a11, .int .i64 r.a12, .int .i64 r.a13, .int .i64 r.a14, .int .i64 r.a15, .int .i64 r.a16, .int .i64 r.a17, .int .i64 r.a18, .int .i64 r.a19, .int .u64 r.a20, .int .u64 r.a21] ty_hand_Raw (0, 0)) :: L) H14 := g14
    refine ldI_of (g14.cell (i := 2) rfl rfl) (Pick_ok (by decide) (by decide) ?_)
    (try simp only [asI_mk', asB_mk, asP_mk, asA_mk, asM_mk, asSl_mk, asStr_mk, tup2_mk, tup3_mk, agg1_mk, agg2_mk, agg3_mk, agg4_mk, asAggm, unCons_mk, unNil_mk, asTup_mk, extractD0, extractD1, List.toList_toArray, nilP_mk, add_mk, Nat.zero_add, Nat.add_zero, condT, condF, Bool.not_true, Bool.not_false, Option.isNone_some, Option.isNone_none])
    refine g14.put (i := 0) rfl (show 14 < 22 by decide) fun H15 g15 => ?_
    have g15 : St H0 (Prt.one bc (.cells #[.int .i64 (confOf r).a0, .int .i64 (confOf r).a1, .int .i64 (confOf r).a2, .int .i64 (confOf r).a3, .int .i64 (confOf r).a4, .int .i64 (confOf r).a5, .int .i64 (confOf r).a6, .int .i64 (confOf r).a7, .int .i64 (confOf r).a8, .int .i64 (confOf r).a9, .int .i64 (confOf r).a10, .int .u64 (confOf r).a11, .int .u64 (confOf r).a12, .int .u64 (confOf r).a13, .int .u64 (confOf r).a14, .int .u64 0, .int .u64 0, .int .i64 0, .int .i64 0, .int .i64 0, .int .u64 0, .int .u64 0] ty_api_Config (0, 0)) :: Prt.one b25 (.cells #[.int .i64 0, .int .i64 0, .int .i64 0, .int .i64 0, .int .i64 0, .int .i64 0, .int .i64 0, .int .i64 0, .int .i64 0, .int .i64 0, .int .i64 0, .int .u64 0, .int .u64 0, .int .u64 0, .int .u64 0, .int .u64 0, .int .u64 0, .int .i64 0, .int .i64 0, .int .i64 0, .int .u64 0, .int .u64 0] ty_api_Config (0, 0)) :: Prt.one b23 (.cells #[.int .i64 r.a0, .int .i64 r.a1, .int .i64 r.a2, .int .i64 r.a3, .int .i64 r.a4, .int .i64 r.a5, .int .i64 r.a6, .int .i64 r.a7, .int .i64 r.a8, .int .i64 r.a9, .int .i64 r.a10, .int .i64 r.a11, .int .i64 r.a12, .int .i64 r.a13, .int .i64 r.a14, .int .i64 r.a15, .int .i64 r.a16, .int .i64 r.a17, .int .i64 r.a18, .int .i64 r.a19, .int .u64 r.a20, .int .u64 r.a21] ty_hand_Raw (0, 0)) :: L) H15 := g15
    refine ldI_of (g15.cell (i := 0) rfl rfl) (ldI_of (g15.cell (i := 2) rfl rfl) (Pick_ok (by decide) (by decide) ?_))
    (try simp only [asI_mk', asB_mk, asP_mk, asA_mk, asM_mk, asSl_mk, asStr_mk, tup2_mk, tup3_mk, agg1_mk, agg2_mk, agg3_mk, agg4_mk, asAggm, unCons_mk, unNil_mk, asTup_mk, extractD0, extractD1, List.toList_toArray, nilP_mk, add_mk, Nat.zero_add, Nat.add_zero, condT, condF, Bool.not_true, Bool.not_false, Option.isNone_some, Option.isNone_none])
    refine ⟨ldI_of (g15.cell (i := 0) rfl rfl) rfl, ?_⟩
    refine g15.put (i := 0) rfl (show 15 < 22 by decide) fun H16 g16 => ?_
    have g16 : St H0 (Prt.one bc (.cells #[.int .i64 (confOf r).a0, .int .i64 (confOf r).a1, .int .i64 (confOf r).a2, .int .i64 (confOf r).a3, .int .i64 (confOf r).a4, .int .i64 (confOf r).a5, .int .i64 (confOf r).a6, .int .i64 (confOf r).a7, .int .i64 (confOf r).a8, .int .i64 (confOf r).a9, .int .i64 (confOf r).a10, .int .u64 (confOf r).a11, .int .u64 (confOf r).a12, .int .u64 (confOf r).a13, .int .u64 (confOf r).a14, .int .u64 (confOf r).a15, .int .u64 0, .int .i64 0, .int .i64 0, .int .i64 0, .int .u64 0, .int .u64 0] ty_api_Config (0, 0)) :: Prt.one b25 (.cells #[.int .i64 0, .int .i64 0, .int .i64 0, .int .i64 0, .int .i64 0, .int .i64 0, .int .i64 0, .int .i64 0, .int .i64 0, .int .i64 0, .int .i64 0, .int .u64 0, .int .u64 0, .int .u64 0, .int .u64 0, .int .u64 0, .int .u64 0, .int .i64 0, .int .i64 0, .int .i64 0, .int .u64 0, .int .u64 0] ty_api_Config (0, 0)) :: Prt.one b23 (.cells #[.int .i64 r.a0, .int .i64 r.a1, .int .i64 r.a2, .int .i64 r.a3, .int .i64 r.a4, .int .i64 r.a5, .int .i64 r.a6, .int .i64 r.a7, .int .i64 r.a8, .int .i64 r.a9, .int .i64 r.a10, .int .i64 r.a11, .int .i64 r.a12, .int .i64 r.a13, .int .i64 r.a14, .int .i64 r.a15, .int .i64 r.a16, .int .i64 r.a17, .int .i64 r.a18, .int .i64 r.a19, .int .u64 r.a20, .int .u64 r.a21] ty_hand_Raw (0, 0)) :: L) H16 := g16
    refine ldI_of (g16.cell (i := 0) rfl rfl) (ldI_of (g16.cell (i := 2) rfl rfl) (Pick_ok (by decide) (by decide) ?_))
    (try simp only [asI_mk', asB_mk, asP_mk, asA_mk, asM_mk, asSl_mk, asStr_mk, tup2_mk, tup3_mk, agg1_mk, agg2_mk, agg3_mk, agg4_mk, asAggm, unCons_mk, unNil_mk, asTup_mk, extractD0, extractD1, List.toList_toArray, nilP_mk, add_mk, Nat.zero_add, Nat.add_zero, condT, condF, Bool.not_true, Bool.not_false, Option.isNone_some, Option.isNone_none])
    refine ⟨ldI_of (g16.cell (i := 0) rfl rfl) rfl, ?_⟩
    refine g16.put (i := 0) rfl (show 16 < 22 by decide) fun H17 g17 => ?_
    have g17 : St H0 (Prt.one bc (.cells #[.int .i64 (confOf r).a0, .int .i64 (confOf r).a1, .int .i64 (confOf r).a2, .int .i64 (confOf r).a3, .int .i64 (confOf r).a4, .int .i64 (confOf r).a5, .int .i64 (confOf r).a6, .int .i64 (confOf r).a7, .int .i64 (confOf r).a8, .int .i64 (confOf r).a9, .int .i64 (confOf r).a10, .int .u64 (confOf r).a11, .int .u64 (confOf r).a12, .int .u64 (confOf r).a13, .int .u64 (confOf r).a14, .int .u64 (confOf r).a15, .int .u64 (confOf r).a16, .int .i64 0, .int .i64 0, .int .i64 0, .int .u64 0, .int .u64 0] ty_api_Config (0, 0)) :: Prt.one b25 (.cells #[.int .i64 0, .int .i64 0, .int .i64 0, .int .i64 0, .int .i64 0, .int .i64 0, .int .i64 0, .int .i64 0, .int .i64 0, .int .i64 0, .int .i64 0, .int .u64 0, .int .u64 0, .int .u64 0, .int .u64 0, .int .u64 0, .int .u64 0, .int .i64 0, .int .i64 0, .int .i64 0, .int .u64 0, .int .u64 0] ty_api_Config (0, 0)) :: Prt.one b23 (.cells #[.int .i64 r.a0, .int .i64 r.a1, .int .i64 r.a2, .int .i64 r.a3, .int .i64 r.a4, .int .i64 r.a5, .int .i64 r.a6, .int .i64 r.a7, .int .i64 r.a8, .int .i64 r.a9, .int .i64 r.a10, .int .i64 r.a11, .int .i64 r.a12, .int .i64 r.a13, .int .i64 r.a14, .int .i64 r.a15, .int .i64 r.a16, .int .i64 r.a17, .int .i64 r.a18, .int .i64 r.a19, .int .u64 r.a20, .int .u64 r.a21] ty_hand_Raw (0, 0)) :: L) H17 := g17
    refine ldI_of (g17.cell (i := 2) rfl rfl) (Pick_ok (by decide) (by decide) ?_)
    (try simp only [asI_mk', asB_mk, asP_mk, asA_mk, asM_mk, asSl_mk, asStr_mk, tup2_mk, tup3_mk, agg1_mk, agg2_mk, agg3_mk, agg4_mk, asAggm, unCons_mk, unNil_mk, asTup_mk, extractD0, extractD1, List.toList_toArray, nilP_mk, add_mk, Nat.zero_add, Nat.add_zero, condT, condF, Bool.not_true, Bool.not_false, Option.isNone_some, Option.isNone_none])
    refine g17.put (i := 0) rfl (show 17 < 22 by decide) fun H18 g18 => ?_
    have g18 : St H0 (Prt.one bc (.cells #[.int .i64 (confOf r).a0, .int .i64 (confOf r).a1, .int .i64 (confOf r).a2, .int .i64 (confOf r).a3, .int .i64 (confOf r).a4, .int .i64 (confOf r).a5, .int .i64 (confOf r).a6, .int .i64 (confOf r).a7, .int .i64 (confOf r).a8, .int .i64 (confOf r).a9, .int .i64 (confOf r).a10, .int .u64 (confOf r).a11, .int .u64 (confOf r).a12, .int .u64 (confOf r).a13, .int .u64 (confOf r).a14, .int .u64 (confOf r).a15, .int .u64 (confOf r).a16, .int .i64 (confOf r).a17, .int .i64 0, .int .i64 0, .int .u64 0, .int .u64 0] ty_api_Config (0, 0)) :: Prt.one b25 (.cells #[.int .i64 0, .int .i64 0, .int .i64 0, .int .i64 0, .int .i64 0, .int .i64 0, .int .i64 0, .int .i64 0, .int .i64 0, .int .i64 0, .int .i64 0, .int .u64 0, .int .u64 0, .int .u64 0, .int .u64 0, .int .u64 0, .int .u64 0, .int .i64 0, .int .i64 0, .int .i64 0, .int .u64 0, .int .u64 0] ty_api_Config (0, 0)) :: Prt.one b23 (.cells #[.int .i64 r.a0, .int .i64 r.a1, .int .i64 r.a2, .int .i64 r.a3, .int .i64 r.a4, .int .i64 r.a5, .int .i64 r.a6, .int .i64 r.a7, .int .i64 r.a8, .int .i64 r.a9, .int .i64 r.a10, .int .i64 r.a11, .int .i64 r.a12, .int .i64 r.a13, .int .i64 r.a14, .int .i64 r.a15, .int .i64 r.a16, .int .i64 r.a17, .int .i64 r.a18, .int .i64 r.a19, .int .u64 r.a20, .int .u64 r.a21] ty_hand_Raw (0, 0)) :: L) H18 := g18
    refine ldI_of (g18.cell (i := 0) rfl rfl) (ldI_of (g18.cell (i := 2) rfl rfl) (Pick_ok (by decide) (by decide) ?_))
    (try simp only [asI_mk', asB_mk, asP_mk, asA_mk, asM_mk, asSl_mk, asStr_mk, tup2_mk, tup3_mk, agg1_mk, agg2_mk, agg3_mk, agg4_mk, asAggm, unCons_mk, unNil_mk, asTup_mk, extractD0, extractD1, List.toList_toArray, nilP_mk, add_mk, Nat.zero_add, Nat.add_zero, condT, condF, Bool.not_true, Bool.not_false, Option.isNone_some, Option.isNone_none])
    refine ⟨ldI_of (g18.cell (i := 0) rfl rfl) rfl, ?_⟩
    refine g18.put (i := 0) rfl (show 18 < 22 by decide) fun H19 g19 => ?_
    have g19 : St H0 (Prt.one bc (.cells #[.int .i64 (confOf r).a0, .int .i64 (confOf r).a1, .int .i64 (confOf r).a2, .int .i64 (confOf r).a3, .int .i64 (confOf r).a4, .int .i64 (confOf r).a5, .int .i64 (confOf r).a6, .int .i64 (confOf r).a7, .int .i64 (confOf r).a8, .int .i64 (confOf r).a9, .int .i64 (confOf r).a10, .int .u64 (confOf r).a11, .int .u64 (confOf r).a12, .int .u64 (confOf r).a13, .int .u64 (confOf r).a14, .int .u64 (confOf r).a15, .int .u64 (confOf r).a16, .int .i64 (confOf r).a17, .int .i64 (confOf r).a18, .int .i64 0, .int .u64 0, .int .u64 0] ty_api_Config (0, 0)) :: Prt.one b25 (.cells #[.int .i64 0, .int .i64 0, .int .i64 0, .int .i64 0, .int .i64 0, .int .i64 0, .int .i64 0, .int .i64 0, .int .i64 0, .int .i64 0, .int .i64 0, .int .u64 0, .int .u64 0, .int .u64 0, .int .u64 0, .int .u64 0, .int .u64 0, .int .i64 0, .int .i64 0, .int .i64 0, .int .u64 0, .int .u64 0] ty_api_Config (0, 0)) :: Prt.one b23 (.cells #[.int .i64 r.a0, .int .i64 r.a1, .int .i64 r.a2, .int .i64 r.a3, .int .i64 r.a4, .int .i64 r.a5, .int .i64 r.a6, .int .i64 r.a7, .int .i64 r.a8, .int .i64 r.a9, .int .i64 r.a10, .int .i64 r.a11, .int .i64 r.a12, .int .i64 r.a13, .int .i64 r.a14, .int .i64 r.a15, .int .i64 r.a16, .int .i64 r.a17, .int .i64 r.a18, .int .i64 r.a19, .int .u64 r.a20, .int .u64 r.a21] ty_hand_Raw (0, 0)) :: L) H19 := g19
    refine ldI_of (g19.cell (i := 2) rfl rfl) (Pick_ok (by decide) (by decide) ?_)
    (try simp only [asI_mk', asB_mk, asP_mk, asA_mk, asM_mk, asSl_mk, asStr_mk, tup2_mk, tup3_mk, agg1_mk, agg2_mk, agg3_mk, agg4_mk, asAggm, unCons_mk, unNil_mk, asTup_mk, extractD0, extractD1, List.toList_toArray, nilP_mk, add_mk, Nat.zero_add, Nat.add_zero, condT, condF, Bool.not_true, Bool.not_false, Option.isNone_some, Option.isNone_none])
    refine g19.put (i := 0) rfl (show 19 < 22 by decide) fun H20 g20 => ?_
    have g20 : St H0 (Prt.one bc (.cells #[.int .i64 (confOf r).a0, .int .i64 (confOf r).a1, .int .i64 (confOf r).a2, .int .i64 (confOf r).a3, .int .i64 (confOf r).a4, .int .i64 (confOf r).a5, .int .i64 (confOf r).a6, .int .i64 (confOf r).a7, .int .i64 (confOf r).a8, .int .i64 (confOf r).a9, .int .i64 (confOf r).a10, .int .u64 (confOf r).a11, .int .u64 (confOf r).a12, .int .u64 (confOf r).a13, .int .u64 (confOf r).a14, .int .u64 (confOf r).a15, .int .u64 (confOf r).a16, .int .i64 (confOf r).a17, .int .i64 (confOf r).a18, .int .i64 (confOf r).a19, .int .u64 0, .int .u64 0] ty_api_Config (0, 0)) :: Prt.one b25 (.cells #[.int .i64 0, .int .i64 0, .int .i64 0, .int .i64 0, .int .i64 0, .int .i64 0, .int .i64 0, .int .i64 0, .int .i64 0, .int .i64 0, .int .i64 0, .int .u64 0, .int .u64 0, .int .u64 0, .int .u64 0, .int .u64 0, .int .u64 0, .int .i64 0, .int .i64 0, .int .i64 0, .int .u64 0, .int .u64 0] ty_api_Config (0, 0)) :: Prt.one b23 (.cells #[.int .i64 r.a0, .int .i64 r.a1, .int .i64 r.a2, .int .i64 r.a3, .int .i64 r.a4, .int .i64 r.a5, .int .i64 r.a6, .int .i64 r.a7, .int .i64 r.a8, .int .i64 r.a9, .int .i64 r.a10, .int .i64 r.a11, .int .i64 r.a12, .int .i64 r.a13, .int .i64 r.a14, .int .i64 r.a15, .int .i64 r.a16, .int .i64 r.a17, .int .i64 r.a18, .int .i64 r.a19, .int .u64 r.a20, .int .u64 r.a21] ty_hand_Raw (0, 0)) :: L) H20 := g20
    refine ldI_of (g20.cell (i := 2) rfl rfl) ⟨by decide, ?_⟩
    (try simp only [asI_mk', asB_mk, asP_mk, asA_mk, asM_mk, asSl_mk, asStr_mk, tup2_mk, tup3_mk, agg1_mk, agg2_mk, agg3_mk, agg4_mk, asAggm, unCons_mk, unNil_mk, asTup_mk, extractD0, extractD1, List.toList_toArray, nilP_mk, add_mk, Nat.zero_add, Nat.add_zero, condT, condF, Bool.not_true, Bool.not_false, Option.isNone_some, Option.isNone_none])
    refine g20.put (i := 0) rfl (show 20 < 22 by decide) fun H21 g21 => ?_
    have g21 : St H0 (Prt.one bc (.cells #[.int .i64 (confOf r).a0, .int .i64 (confOf r).a1, .int .i64 (confOf r).a2, .int .i64 (confOf r).a3, .int .i64 (confOf r).a4, .int .i64 (confOf r).a5, .int .i64 (confOf r).a6, .int .i64 (confOf r).a7, .int .i64 (confOf r).a8, .int .i64 (confOf r).a9, .int .i64 (confOf r).a10, .int .u64 (confOf r).a11, .int .u64 (confOf r).a12, .int .u64 (confOf r).a13, .int .u64 (confOf r).a14, .int .u64 (confOf r).a15, .int .u64 (confOf r).a16, .int .i64 (confOf r).a17, .int .i64 (confOf r).a18, .int .i64 (confOf r).a19, .int .u64 (confOf r).a20, .int .u64 0] ty_api_Config (0, 0)) :: Prt.one b25 (.cells #[.int .i64 0, .int .i64 0, .int .i64 0, .int .i64 0, .int .i64 0, .int .i64 0, .int .i64 0, .int .i64 0, .int .i64 0, .int .i64 0, .int .i64 0, .int .u64 0, .int .u64 0, .int .u64 0, .int .u64 0, .int .u64 0, .int .u64 0, .int .i64 0, .int .i64 0, .int .i64 0, .int .u64 0, .int .u64 0] ty_api_Config (0, 0)) :: Prt.one b23 (.cells #[.int .i64 r.a0, .int .i64 r.a1, .int .i64 r.a2, .int .i64 r.a3, .int .i64 r.a4, .int .i64 r.a5, .int .i64 r.a6, .int .i64 r.a7, .int .i64 r.a8, .int .i64 r.a9, .int .i64 r.a10, .int .i64 r.a11, .int .i64 r.a12, .int .i64 r.a13, .int .i64 r.a14, .int .i64 r.a15, .int .i64 r.a16, .int .i64 r.a17, .int .i64 r.a18, .int .i64 r.a19, .int .u64 r.a20, .int .u64 r.a21] ty_hand_Raw (0, 0)) :: L) H21 := g21
    refine ldI_of (g21.cell (i := 2) rfl rfl) ⟨by decide, ?_⟩
    (try simp only [asI_mk', asB_mk, asP_mk, asA_mk, asM_mk, asSl_mk, asStr_mk, tup2_mk, tup3_mk, agg1_mk, agg2_mk, agg3_mk, agg4_mk, asAggm, unCons_mk, unNil_mk, asTup_mk, extractD0, extractD1, List.toList_toArray, nilP_mk, add_mk, Nat.zero_add, Nat.add_zero, condT, condF, Bool.not_true, Bool.not_false, Option.isNone_some, Option.isNone_none])
    refine g21.put (i := 0) rfl (show 21 < 22 by decide) fun H22 g22 => ?_
    have g22 : St H0 (Prt.one bc (.cells #[.int .i64 (confOf r).a0, .int .i64 (confOf r).a1, .int .i64 (confOf r).a2, .int .i64 (confOf r).a3, .int .i64 (confOf r).a4, .int .i64 (confOf r).a5, .int .i64 (confOf r).a6, .int .i64 (confOf r).a7, .int .i64 (confOf r).a8, .int .i64 (confOf r).a9, .int .i64 (confOf r).a10, .int .u64 (confOf r).a11, .int .u64 (confOf r).a12, .int .u64 (confOf r).a13, .int .u64 (confOf r).a14, .int .u64 (confOf r).a15, .int .u64 (confOf r).a16, .int .i64 (confOf r).a17, .int .i64 (confOf r).a18, .int .i64 (confOf r).a19, .int .u64 (confOf r).a20, .int .u64 (confOf r).a21] ty_api_Config (0, 0)) :: Prt.one b25 (.cells #[.int .i64 0, .int .i64 0, .int .i64 0, .int .i64 0, .int .i64 0, .int .i64 0, .int .i64 0, .int .i64 0, .int .i64 0, .int .i64 0, .int .i64 0, .int .u64 0, .int .u64 0, .int .u64 0, .int .u64 0, .int .u64 0, .int .u64 0, .int .i64 0, .int .i64 0, .int .i64 0, .int .u64 0, .int .u64 0] ty_api_Config (0, 0)) :: Prt.one b23 (.cells #[.int .i64 r.a0, .int .i64 r.a1, .int .i64 r.a2, .int .i64 r.a3, .int .i64 r.a4, .int .i64 r.a5, .int .i64 r.a6, .int .i64 r.a7, .int .i64 r.a8, .int .i64 r.a9, .int .i64 r.a10, .int .i64 r.a11, .int .i64 r.a12, .int .i64 r.a13, .int .i64 r.a14, .int .i64 r.a15, .int .i64 r.a16, .int .i64 r.a17, .int .i64 r.a18, .int .i64 r.a19, .int .u64 r.a20, .int .u64 r.a21] ty_hand_Raw (0, 0)) :: L) H22 := g22
    refine ldI_of (g22.cell (i := 0) rfl rfl) (ldI_of (g22.cell (i := 0) rfl rfl) (ldI_of (g22.cell (i := 0) rfl rfl) (ldI_of (g22.cell (i := 0) rfl rfl) (ldI_of (g22.cell (i := 0) rfl rfl) (ldI_of (g22.cell (i := 0) rfl rfl) (ldI_of (g22.cell (i := 0) rfl rfl) (ldI_of (g22.cell (i := 0) rfl rfl) (ldI_of (g22.cell (i := 0) rfl rfl) (ldI_of (g22.cell (i := 0) rfl rfl) (ldI_of (g22.cell (i := 0) rfl rfl) (ldI_of (g22.cell (i := 0) rfl rfl) (ldI_of (g22.cell (i := 0) rfl rfl) (ldI_of (g22.cell (i := 0) rfl rfl) (ldI_of (g22.cell (i := 0) rfl rfl) (ldI_of (g22.cell (i := 0) rfl rfl) (ldI_of (g22.cell (i := 0) rfl rfl) (ldI_of (g22.cell (i := 0) rfl rfl) (ldI_of (g22.cell (i := 0) rfl rfl) (ldI_of (g22.cell (i := 0) rfl rfl) (ldI_of (g22.cell (i := 0) rfl rfl) (ldI_of (g22.cell (i := 0) rfl rfl) (?_))))))))))))))))))))))
    refine St.sets (i := 1) (o := 0) (vs := [.int .i64 (confOf r).a0, .int .i64 (confOf r).a1, .int .i64 (confOf r).a2, .int .i64 (confOf r).a3, .int .i64 (confOf r).a4, .int .i64 (confOf r).a5, .int .i64 (confOf r).a6, .int .i64 (confOf r).a7, .int .i64 (confOf r).a8, .int .i64 (confOf r).a9, .int .i64 (confOf r).a10, .int .u64 (confOf r).a11, .int .u64 (confOf r).a12, .int .u64 (confOf r).a13, .int .u64 (confOf r).a14, .int .u64 (confOf r).a15, .int .u64 (confOf r).a16, .int .i64 (confOf r).a17, .int .i64 (confOf r).a18, .int .i64 (confOf r).a19, .int .u64 (confOf r).a20, .int .u64 (confOf r).a21]) g22 rfl (by simp) fun H23 g23 => ?_
    rw [setsA_all (by rfl)] at g23
    have g23 : St H0 (Prt.one bc (.cells #[.int .i64 (confOf r).a0, .int .i64 (confOf r).a1, .int .i64 (confOf r).a2, .int .i64 (confOf r).a3, .int .i64 (confOf r).a4, .int .i64 (confOf r).a5, .int .i64 (confOf r).a6, .int .i64 (confOf r).a7, .int .i64 (confOf r).a8, .int .i64 (confOf r).a9, .int .i64 (confOf r).a10, .int .u64 (confOf r).a11, .int .u64 (confOf r).a12, .int .u64 (confOf r).a13, .int .u64 (confOf r).a14, .int .u64 (confOf r).a15, .int .u64 (confOf r).a16, .int .i64 (confOf r).a17, .int .i64 (confOf r).a18, .int .i64 (confOf r).a19, .int .u64 (confOf r).a20, .int .u64 (confOf r).a21] ty_api_Config (0, 0)) :: Prt.one b25 (.cells #[.int .i64 (confOf r).a0, .int .i64 (confOf r).a1, .int .i64 (confOf r).a2, .int .i64 (confOf r).a3, .int .i64 (confOf r).a4, .int .i64 (confOf r).a5, .int .i64 (confOf r).a6, .int .i64 (confOf r).a7, .int .i64 (confOf r).a8, .int .i64 (confOf r).a9, .int .i64 (confOf r).a10, .int .u64 (confOf r).a11, .int .u64 (confOf r).a12, .int .u64 (confOf r).a13, .int .u64 (confOf r).a14, .int .u64 (confOf r).a15, .int .u64 (confOf r).a16, .int .i64 (confOf r).a17, .int .i64 (confOf r).a18, .int .i64 (confOf r).a19, .int .u64 (confOf r).a20, .int .u64 (confOf r).a21] ty_api_Config (0, 0)) :: Prt.one b23 (.cells #[.int .i64 r.a0, .int .i64 r.a1, .int .i64 r.a2, .int .i64 r.a3, .int .i64 r.a4, .int .i64 r.a5, .int .i64 r.a6, .int .i64 r.a7, .int .i64 r.a8, .int .i64 r.a9, .int .i64 r.a10, .int .i64 r.a11, .int .i64 r.a12, .int .i64 r.a13, .int .i64 r.a14, .int .i64 r.a15, .int .i64 r.a16, .int .i64 r.a17, .int .i64 r.a18, .int .i64 r.a19, .int .u64 r.a20, .int .u64 r.a21] ty_hand_Raw (0, 0)) :: L) H23 := g23
    refine ldI_of (g23.cell (i := 1) rfl rfl) (ldI_of (g23.cell (i := 1) rfl rfl) (ldI_of (g23.cell (i := 1) rfl rfl) (ldI_of (g23.cell (i := 1) rfl rfl) (ldI_of (g23.cell (i := 1) rfl rfl) (ldI_of (g23.cell (i := 1) rfl rfl) (ldI_of (g23.cell (i := 1) rfl rfl) (ldI_of (g23.cell (i := 1) rfl rfl) (ldI_of (g23.cell (i := 1) rfl rfl) (ldI_of (g23.cell (i := 1) rfl rfl) (ldI_of (g23.cell (i := 1) rfl rfl) (ldI_of (g23.cell (i := 1) rfl rfl) (ldI_of (g23.cell (i := 1) rfl rfl) (ldI_of (g23.cell (i := 1) rfl rfl) (ldI_of (g23.cell (i := 1) rfl rfl) (ldI_of (g23.cell (i := 1) rfl rfl) (ldI_of (g23.cell (i := 1) rfl rfl) (ldI_of (g23.cell (i := 1) rfl rfl) (ldI_of (g23.cell (i := 1) rfl rfl) (ldI_of (g23.cell (i := 1) rfl rfl) (ldI_of (g23.cell (i := 1) rfl rfl) (ldI_of (g23.cell (i := 1) rfl rfl) (?_))))))))))))))))))))))
    exact hK H23 (St.lesses (M := [_, _, _]) g23)
  have fin : ∀ bc H', St H0 (Prt.one bc (.cells #[.int .i64 0, .int .i64 0, .int .i64 0, .int .i64 0, .int .i64 0, .int .i64 0, .int .i64 0, .int .i64 0, .int .i64 0, .int .i64 0, .int .i64 0, .int .u64 0, .int .u64 0, .int .u64 0, .int .u64 0, .int .u64 0, .int .u64 0, .int .i64 0, .int .i64 0, .int .i64 0, .int .u64 0, .int .u64 0] ty_api_Config (0, 0)) :: Prt.one b25 (.cells #[.int .i64 0, .int .i64 0, .int .i64 0, .int .i64 0, .int .i64 0, .int .i64 0, .int .i64 0, .int .i64 0, .int .i64 0, .int .i64 0, .int .i64 0, .int .u64 0, .int .u64 0, .int .u64 0, .int .u64 0, .int .u64 0, .int .u64 0, .int .i64 0, .int .i64 0, .int .i64 0, .int .u64 0, .int .u64 0] ty_api_Config (0, 0)) :: Prt.one b23 (.cells #[.int .i64 r.a0, .int .i64 r.a1, .int .i64 r.a2, .int .i64 r.a3, .int .i64 r.a4, .int .i64 r.a5, .int .i64 r.a6, .int .i64 r.a7, .int .i64 r.a8, .int .i64 r.a9, .int .i64 r.a10, .int .i64 r.a11, .int .i64 r.a12, .int .i64 r.a13, .int .i64 r.a14, .int .i64 r.a15, .int .i64 r.a16, .int .i64 r.a17, .int .i64 r.a18, .int .i64 r.a19, .int .u64 r.a20, .int .u64 r.a21] ty_hand_Raw (0, 0)) :: L) H' → sts bc 0 [.int .i64 (confOf r).a0, .int .i64 (confOf r).a1, .int .i64 (confOf r).a2, .int .i64 (confOf r).a3, .int .i64 0, .int .i64 0, .int .i64 0, .int .i64 0, .int .i64 0, .int .i64 0, .int .i64 0, .int .u64 0, .int .u64 0, .int .u64 0, .int .u64 0, .int .u64 0, .int .u64 0, .int .i64 0, .int .i64 0, .int .i64 0, .int .u64 0, .int .u64 0] H' fun H'' => R27 (some ⟨bc, 0, none⟩) H'' := fun bc H' g => by
    refine St.sets (i := 0) g rfl (by simp) fun H2 g2 => ?_
    rw [setsA_all (by rfl)] at g2
    exact hR27 bc H2 g2
  clear hR27
  refine ldI_of (g2.cell (i := 1) rfl rfl) (ldI_of (g2.cell (i := 1) rfl rfl) (ldI_of (g2.cell (i := 1) rfl rfl) (ldI_of (g2.cell (i := 1) rfl rfl) ?_)))
  have pk0 : ∀ {n m : Int} {H : Hp} {K : Value → Hp → Prop}, 0 < m → m < 4611686018427387904 → K (.int .i64 (pick n m)) H → hcall PR f_hand_Pick ⟨[.int .i64 n, .int .i64 m]⟩ H K := fun h0 h1 h2 => Pick_ok h0 h1 h2
  refine ⟨Pick_ok (by decide) (by decide) ?_, ?_⟩
  · (try simp only [asI_mk', asB_mk, asP_mk, asA_mk, asM_mk, asSl_mk, asStr_mk, tup2_mk, tup3_mk, agg1_mk, agg2_mk, agg3_mk, agg4_mk, asAggm, unCons_mk, unNil_mk, asTup_mk, extractD0, extractD1, List.toList_toArray, nilP_mk, add_mk, Nat.zero_add, Nat.add_zero, condT, condF, Bool.not_true, Bool.not_false, Option.isNone_some, Option.isNone_none])
    refine ⟨ldI_of (g2.cell (i := 1) rfl rfl) rfl, ldI_of (g2.cell (i := 1) rfl rfl) rfl, ldI_of (g2.cell (i := 1) rfl rfl) rfl, ?_, ?_⟩
    · refine Pick_ok (by decide) (by decide) ?_
      (try simp only [asI_mk', asB_mk, asP_mk, asA_mk, asM_mk, asSl_mk, asStr_mk, tup2_mk, tup3_mk, agg1_mk, agg2_mk, agg3_mk, agg4_mk, asAggm, unCons_mk, unNil_mk, asTup_mk, extractD0, extractD1, List.toList_toArray, nilP_mk, add_mk, Nat.zero_add, Nat.add_zero, condT, condF, Bool.not_true, Bool.not_false, Option.isNone_some, Option.isNone_none])
      refine ⟨ldI_of (g2.cell (i := 1) rfl rfl) rfl, ldI_of (g2.cell (i := 1) rfl rfl) rfl, ?_, ?_⟩
      · refine Pick_ok (by decide) (by decide) ?_
        (try simp only [asI_mk', asB_mk, asP_mk, asA_mk, asM_mk, asSl_mk, asStr_mk, tup2_mk, tup3_mk, agg1_mk, agg2_mk, agg3_mk, agg4_mk, asAggm, unCons_mk, unNil_mk, asTup_mk, extractD0, extractD1, List.toList_toArray, nilP_mk, add_mk, Nat.zero_add, Nat.add_zero, condT, condF, Bool.not_true, Bool.not_false, Option.isNone_some, Option.isNone_none])
        refine ⟨ldI_of (g2.cell (i := 1) rfl rfl) rfl, ?_, ?_⟩
        · refine Pick_ok (by decide) (by decide) ?_
          (try simp only [asI_mk', asB_mk, asP_mk, asA_mk, asM_mk, asSl_mk, asStr_mk, tup2_mk, tup3_mk, agg1_mk, agg2_mk, agg3_mk, agg4_mk, asAggm, unCons_mk, unNil_mk, asTup_mk, extractD0, extractD1, List.toList_toArray, nilP_mk, add_mk, Nat.zero_add, Nat.add_zero, condT, condF, Bool.not_true, Bool.not_false, Option.isNone_some, Option.isNone_none])
          intro bc hbc
          have g3 := g2.alloc (o := .cells #[.int .i64 0, .int .i64 0, .int .i64 0, .int .i64 0, .int .i64 0, .int .i64 0, .int .i64 0, .int .i64 0, .int .i64 0, .int .i64 0, .int .i64 0, .int .u64 0, .int .u64 0, .int .u64 0, .int .u64 0, .int .u64 0, .int .u64 0, .int .i64 0, .int .i64 0, .int .i64 0, .int .u64 0, .int .u64 0] ty_api_Config) hbc
          exact fin bc _ g3
        · intro bc hbc
          have g3 := g2.alloc (o := .cells #[.int .i64 0, .int .i64 0, .int .i64 0, .int .i64 0, .int .i64 0, .int .i64 0, .int .i64 0, .int .i64 0, .int .i64 0, .int .i64 0, .int .i64 0, .int .u64 0, .int .u64 0, .int .u64 0, .int .u64 0, .int .u64 0, .int .u64 0, .int .i64 0, .int .i64 0, .int .i64 0, .int .u64 0, .int .u64 0] ty_api_Config) hbc
          refine ⟨ldI_of (g3.cell (i := 2) rfl rfl) rfl, Pick_ok (by decide) (by decide) ?_⟩
          (try simp only [asI_mk', asB_mk, asP_mk, asA_mk, asM_mk, asSl_mk, asStr_mk, tup2_mk, tup3_mk, agg1_mk, agg2_mk, agg3_mk, agg4_mk, asAggm, unCons_mk, unNil_mk, asTup_mk, extractD0, extractD1, List.toList_toArray, nilP_mk, add_mk, Nat.zero_add, Nat.add_zero, condT, condF, Bool.not_true, Bool.not_false, Option.isNone_some, Option.isNone_none])
          exact fin bc _ g3
      · intro bc hbc
        have g3 := g2.alloc (o := .cells #[.int .i64 0, .int .i64 0, .int .i64 0, .int .i64 0, .int .i64 0, .int .i64 0, .int .i64 0, .int .i64 0, .int .i64 0, .int .i64 0, .int .i64 0, .int .u64 0, .int .u64 0, .int .u64 0, .int .u64 0, .int .u64 0, .int .u64 0, .int .i64 0, .int .i64 0, .int .i64 0, .int .u64 0, .int .u64 0] ty_api_Config) hbc
        refine ⟨ldI_of (g3.cell (i := 2) rfl rfl) rfl, ldI_of (g3.cell (i := 2) rfl rfl) rfl, Pick_ok (by decide) (by decide) ?_⟩
        (try simp only [asI_mk', asB_mk, asP_mk, asA_mk, asM_mk, asSl_mk, asStr_mk, tup2_mk, tup3_mk, agg1_mk, agg2_mk, agg3_mk, agg4_mk, asAggm, unCons_mk, unNil_mk, asTup_mk, extractD0, extractD1, List.toList_toArray, nilP_mk, add_mk, Nat.zero_add, Nat.add_zero, condT, condF, Bool.not_true, Bool.not_false, Option.isNone_some, Option.isNone_none])
        refine ⟨ldI_of (g3.cell (i := 2) rfl rfl) rfl, Pick_ok (by decide) (by decide) ?_⟩
        (try simp only [asI_mk', asB_mk, asP_mk, asA_mk, asM_mk, asSl_mk, asStr_mk, tup2_mk, tup3_mk, agg1_mk, agg2_mk, agg3_mk, agg4_mk, asAggm, unCons_mk, unNil_mk, asTup_mk, extractD0, extractD1, List.toList_toArray, nilP_mk, add_mk, Nat.zero_add, Nat.add_zero, condT, condF, Bool.not_true, Bool.not_false, Option.isNone_some, Option.isNone_none])
        exact fin bc _ g3
    · intro bc hbc
      have g3 := g2.alloc (o := .cells #[.int .i64 0, .int .i64 0, .int .i64 0, .int .i64 0, .int .i64 0, .int .i64 0, .int .i64 0, .int .i64 0, .int .i64 0, .int .i64 0, .int .i64 0, .int .u64 0, .int .u64 0, .int .u64 0, .int .u64 0, .int .u64 0, .int .u64 0, .int .i64 0, .int .i64 0, .int .i64 0, .int .u64 0, .int .u64 0] ty_api_Config) hbc
      refine ⟨ldI_of (g3.cell (i := 2) rfl rfl) rfl, ldI_of (g3.cell (i := 2) rfl rfl) rfl, ldI_of (g3.cell (i := 2) rfl rfl) rfl, Pick_ok (by decide) (by decide) ?_⟩
      (try simp only [asI_mk', asB_mk, asP_mk, asA_mk, asM_mk, asSl_mk, asStr_mk, tup2_mk, tup3_mk, agg1_mk, agg2_mk, agg3_mk, agg4_mk, asAggm, unCons_mk, unNil_mk, asTup_mk, extractD0, extractD1, List.toList_toArray, nilP_mk, add_mk, Nat.zero_add, Nat.add_zero, condT, condF, Bool.not_true, Bool.not_false, Option.isNone_some, Option.isNone_none])
      refine ⟨ldI_of (g3.cell (i := 2) rfl rfl) rfl, ldI_of (g3.cell (i := 2) rfl rfl) rfl, Pick_ok (by decide) (by decide) ?_⟩
      (try simp only [asI_mk', asB_mk, asP_mk, asA_mk, asM_mk, asSl_mk, asStr_mk, tup2_mk, tup3_mk, agg1_mk, agg2_mk, agg3_mk, agg4_mk, asAggm, unCons_mk, unNil_mk, asTup_mk, extractD0, extractD1, List.toList_toArray, nilP_mk, add_mk, Nat.zero_add, Nat.add_zero, condT, condF, Bool.not_true, Bool.not_false, Option.isNone_some, Option.isNone_none])
      refine ⟨ldI_of (g3.cell (i := 2) rfl rfl) rfl, Pick_ok (by decide) (by decide) ?_⟩
      (try simp only [asI_mk', asB_mk, asP_mk, asA_mk, asM_mk, asSl_mk, asStr_mk, tup2_mk, tup3_mk, agg1_mk, agg2_mk, agg3_mk, agg4_mk, asAggm, unCons_mk, unNil_mk, asTup_mk, extractD0, extractD1, List.toList_toArray, nilP_mk, add_mk, Nat.zero_add, Nat.add_zero, condT, condF, Bool.not_true, Bool.not_false, Option.isNone_some, Option.isNone_none])
      exact fin bc _ g3
  · intro bc hbc
    have g3 := g2.alloc (o := .cells #[.int .i64 0, .int .i64 0, .int .i64 0, .int .i64 0, .int .i64 0, .int .i64 0, .int .i64 0, .int .i64 0, .int .i64 0, .int .i64 0, .int .i64 0, .int .u64 0, .int .u64 0, .int .u64 0, .int .u64 0, .int .u64 0, .int .u64 0, .int .i64 0, .int .i64 0, .int .i64 0, .int .u64 0, .int .u64 0] ty_api_Config) hbc
    refine ⟨ldI_of (g3.cell (i := 2) rfl rfl) rfl, ldI_of (g3.cell (i := 2) rfl rfl) rfl, ldI_of (g3.cell (i := 2) rfl rfl) rfl, ldI_of (g3.cell (i := 2) rfl rfl) rfl, Pick_ok (by decide) (by decide) ?_⟩
    (try simp only [asI_mk', asB_mk, asP_mk, asA_mk, asM_mk, asSl_mk, asStr_mk, tup2_mk, tup3_mk, agg1_mk, agg2_mk, agg3_mk, agg4_mk, asAggm, unCons_mk, unNil_mk, asTup_mk, extractD0, extractD1, List.toList_toArray, nilP_mk, add_mk, Nat.zero_add, Nat.add_zero, condT, condF, Bool.not_true, Bool.not_false, Option.isNone_some, Option.isNone_none])
    refine ⟨ldI_of (g3.cell (i := 2) rfl rfl) rfl, ldI_of (g3.cell (i := 2) rfl rfl) rfl, ldI_of (g3.cell (i := 2) rfl rfl) rfl, Pick_ok (by decide) (by decide) ?_⟩
    (try simp only [asI_mk', asB_mk, asP_mk, asA_mk, asM_mk, asSl_mk, asStr_mk, tup2_mk, tup3_mk, agg1_mk, agg2_mk, agg3_mk, agg4_mk, asAggm, unCons_mk, unNil_mk, asTup_mk, extractD0, extractD1, List.toList_toArray, nilP_mk, add_mk, Nat.zero_add, Nat.add_zero, condT, condF, Bool.not_true, Bool.not_false, Option.isNone_some, Option.isNone_none])
    refine ⟨ldI_of (g3.cell (i := 2) rfl rfl) rfl, ldI_of (g3.cell (i := 2) rfl rfl) rfl, Pick_ok (by decide) (by decide) ?_⟩
    (try simp only [asI_mk', asB_mk, asP_mk, asA_mk, asM_mk, asSl_mk, asStr_mk, tup2_mk, tup3_mk, agg1_mk, agg2_mk, agg3_mk, agg4_mk, asAggm, unCons_mk, unNil_mk, asTup_mk, extractD0, extractD1, List.toList_toArray, nilP_mk, add_mk, Nat.zero_add, Nat.add_zero, condT, condF, Bool.not_true, Bool.not_false, Option.isNone_some, Option.isNone_none])
    refine ⟨ldI_of (g3.cell (i := 2) rfl rfl) rfl, Pick_ok (by decide) (by decide) ?_⟩
    (try simp only [asI_mk', asB_mk, asP_mk, asA_mk, asM_mk, asSl_mk, asStr_mk, tup2_mk, tup3_mk, agg1_mk, agg2_mk, agg3_mk, agg4_mk, asAggm, unCons_mk, unNil_mk, asTup_mk, extractD0, extractD1, List.toList_toArray, nilP_mk, add_mk, Nat.zero_add, Nat.add_zero, condT, condF, Bool.not_true, Bool.not_false, Option.isNone_some, Option.isNone_none])
    exact fin bc _ g3
end
end Go.Proofs.Ytknejebggegfjaa

namespace Go.Proofs.Ytknejebggegfjaa
open Go
set_option linter.unusedVariables false
set_option maxRecDepth 100000
def B_law23_known  (H : Hp) (K : Value → Hp → Prop) : Prop :=
 hcall PR f_hand_Config ⟨[(.agg #[(.int .i64 0), (.int .i64 0), (.int .i64 0), (.int .i64 0), (.int .i64 0), (.int .i64 0), (.int .i64 0), (.int .i64 0), (.int .i64 0), (.int .i64 0), (.int .i64 0), (.int .i64 0), (.int .i64 0), (.int .i64 0), (.int .i64 0), (.int .i64 0), (.int .i64 0), (.int .i64 0), (.int .i64 0), (.int .i64 0), (.int .u64 0), (.int .u64 0)])]⟩ H fun v1 Hx2 =>
 asAgg' v1 fun cs3 =>
 unCons cs3.toList fun v4 r5 =>
 unCons r5 fun v6 r7 =>
 unCons r7 fun v8 r9 =>
 unCons r9 fun v10 r11 =>
 unCons r11 fun v12 r13 =>
 unCons r13 fun v14 r15 =>
 unCons r15 fun v16 r17 =>
 unCons r17 fun v18 r19 =>
 unCons r19 fun v20 r21 =>
 unCons r21 fun v22 r23 =>
 unCons r23 fun v24 r25 =>
 unCons r25 fun v26 r27 =>
 unCons r27 fun v28 r29 =>
 unCons r29 fun v30 r31 =>
 unCons r31 fun v32 r33 =>
 unCons r33 fun v34 r35 =>
 unCons r35 fun v36 r37 =>
 unCons r37 fun v38 r39 =>
 unCons r39 fun v40 r41 =>
 unCons r41 fun v42 r43 =>
 unCons r43 fun v44 r45 =>
 unCons r45 fun v46 r47 =>
 unNil r47 <|
 asI .i64 v4 fun Nodes48 =>
 asI .i64 v6 fun Mutators49 =>
 asI .i64 v8 fun Slots50 =>
 asI .i64 v10 fun Cells51 =>
 asI .i64 v12 fun Objects52 =>
 asI .i64 v14 fun Stubs53 =>
 asI .i64 v16 fun Calls54 =>
 asI .i64 v18 fun Window55 =>
 asI .i64 v20 fun Grey56 =>
 asI .i64 v22 fun Bag57 =>
 asI .i64 v24 fun Inbox58 =>
 asI .u64 v26 fun Unit59 =>
 asI .u64 v28 fun Drift60 =>
 asI .u64 v30 fun Lease61 =>
 asI .u64 v32 fun Wait62 =>
 asI .u64 v34 fun Most63 =>
 asI .u64 v36 fun Patience64 =>
 asI .i64 v38 fun Suspect65 =>
 asI .i64 v40 fun Trace66 =>
 asI .i64 v42 fun Work67 =>
 asI .u64 v44 fun Start68 =>
 asI .u64 v46 fun Last69 =>
 hcall PR f_trace_New ⟨[(.agg #[(.int .i64 Nodes48), (.int .i64 Mutators49), (.int .i64 Slots50), (.int .i64 Cells51), (.int .i64 Objects52), (.int .i64 Stubs53), (.int .i64 Calls54), (.int .i64 Window55), (.int .i64 Grey56), (.int .i64 Bag57), (.int .i64 Inbox58), (.int .u64 Unit59), (.int .u64 Drift60), (.int .u64 Lease61), (.int .u64 Wait62), (.int .u64 Most63), (.int .u64 Patience64), (.int .i64 Suspect65), (.int .i64 Trace66), (.int .i64 Work67), (.int .u64 Start68), (.int .u64 Last69)]), (.int .i64 1), (.int .u64 0)]⟩ Hx2 fun v70 Hx71 =>
 tup2 v70 fun v72 v73 =>
 asP v72 fun t74 =>
 asI .i64 v73 fun t75 =>
 (bif ((t75 : Int) != 0) then
 K (.bool false) Hx71
else
 (bif (Option.isNone (α := Addr) t74) then
 K (.bool false) Hx71
else
 hcall PR f_law23_stub ⟨[]⟩ Hx71 fun v76 Hx77 =>
 agg2 v76 fun v78 v79 =>
 asI .i64 v78 fun Node80 =>
 asI .u64 v79 fun Serial81 =>
 hcall PR f_trace_Trace_Begin ⟨[(.pointer t74), (.agg #[(.int .i64 Node80), (.int .u64 Serial81)]), (.int .u64 5)]⟩ Hx77 fun v82 Hx83 =>
 asI .i64 v82 fun t84 =>
 (bif ((t84 : Int) != 0) then
 K (.bool false) Hx83
else
 hcall PR f_trace_Trace_Step ⟨[(.pointer t74), (.int .u64 5)]⟩ Hx83 fun v85 Hx86 =>
 tup2 v85 fun v87 v88 =>
 asAgg' v87 fun cs89 =>
 unCons cs89.toList fun v90 r91 =>
 unCons r91 fun v92 r93 =>
 unCons r93 fun v94 r95 =>
 unCons r95 fun v96 r97 =>
 unCons r97 fun v98 r99 =>
 unCons r99 fun v100 r101 =>
 unCons r101 fun v102 r103 =>
 unCons r103 fun v104 r105 =>
 unCons r105 fun v106 r107 =>
 unCons r107 fun v108 r109 =>
 unCons r109 fun v110 r111 =>
 unCons r111 fun v112 r113 =>
 unCons r113 fun v114 r115 =>
 unCons r115 fun v116 r117 =>
 unCons r117 fun v118 r119 =>
 unCons r119 fun v120 r121 =>
 unCons r121 fun v122 r123 =>
 unCons r123 fun v124 r125 =>
 unCons r125 fun v126 r127 =>
 unNil r127 <|
 asI .i64 v90 fun Kind128 =>
 asI .i64 v92 fun From129 =>
 asI .i64 v94 fun To130 =>
 asI .u64 v96 fun Call131 =>
 asI .u64 v98 fun Floor132 =>
 asI .i64 v100 fun Op133 =>
 asI .i64 v102 fun Field134 =>
 asI .i64 v104 fun Item135 =>
 asI .i64 v106 fun Node136 =>
 asI .u64 v108 fun Serial137 =>
 asSl v110 fun RefsP138 RefsL139 RefsC140 =>
 asI .u64 v112 fun Value141 =>
 asI .i64 v114 fun Code142 =>
 asI .u64 v116 fun Seq143 =>
 asI .i64 v118 fun Voucher144 =>
 asI .u64 v120 fun At145 =>
 asI .i64 v122 fun Dist146 =>
 asI .u64 v124 fun Stamp147 =>
 asSl v126 fun ListP148 ListL149 ListC150 =>
 asB v88 fun t151 =>
 newB (.cells #[(.int .i64 0), (.int .i64 0), (.int .i64 0), (.int .u64 0), (.int .u64 0), (.int .i64 0), (.int .i64 0), (.int .i64 0), (.int .i64 0), (.int .u64 0), (.slice none 0 0), (.int .u64 0), (.int .i64 0), (.int .u64 0), (.int .i64 0), (.int .u64 0), (.int .i64 0), (.int .u64 0), (.slice none 0 0)] ty_api_Msg) Hx86 fun b152 Hx153 =>
 st ⟨b152, 0, none⟩ (.int .i64 Kind128) Hx153 fun Hx154 =>
 st ⟨b152, 1, none⟩ (.int .i64 From129) Hx154 fun Hx155 =>
 st ⟨b152, 2, none⟩ (.int .i64 To130) Hx155 fun Hx156 =>
 st ⟨b152, 3, none⟩ (.int .u64 Call131) Hx156 fun Hx157 =>
 st ⟨b152, 4, none⟩ (.int .u64 Floor132) Hx157 fun Hx158 =>
 st ⟨b152, 5, none⟩ (.int .i64 Op133) Hx158 fun Hx159 =>
 st ⟨b152, 6, none⟩ (.int .i64 Field134) Hx159 fun Hx160 =>
 st ⟨b152, 7, none⟩ (.int .i64 Item135) Hx160 fun Hx161 =>
 st ⟨b152, 8, none⟩ (.int .i64 Node136) Hx161 fun Hx162 =>
 st ⟨b152, 9, none⟩ (.int .u64 Serial137) Hx162 fun Hx163 =>
 st ⟨b152, 10, none⟩ (.slice RefsP138 RefsL139 RefsC140) Hx163 fun Hx164 =>
 st ⟨b152, 11, none⟩ (.int .u64 Value141) Hx164 fun Hx165 =>
 st ⟨b152, 12, none⟩ (.int .i64 Code142) Hx165 fun Hx166 =>
 st ⟨b152, 13, none⟩ (.int .u64 Seq143) Hx166 fun Hx167 =>
 st ⟨b152, 14, none⟩ (.int .i64 Voucher144) Hx167 fun Hx168 =>
 st ⟨b152, 15, none⟩ (.int .u64 At145) Hx168 fun Hx169 =>
 st ⟨b152, 16, none⟩ (.int .i64 Dist146) Hx169 fun Hx170 =>
 st ⟨b152, 17, none⟩ (.int .u64 Stamp147) Hx170 fun Hx171 =>
 st ⟨b152, 18, none⟩ (.slice ListP148 ListL149 ListC150) Hx171 fun Hx172 =>
 newB (.cells #[(.int .u64 4)] ty_uint64) Hx172 fun b173 Hx174 =>
 hcall PR f_trace_Trace_Hear ⟨[(.pointer t74), (.agg #[(.int .i64 9), (.int .i64 1), (.int .i64 1), (.int .u64 1), (.int .u64 0), (.int .i64 0), (.int .i64 0), (.int .i64 0), (.int .i64 0), (.int .u64 0), (.slice none 0 0), (.int .u64 0), (.int .i64 2), (.int .u64 0), (.int .i64 0), (.int .u64 0), (.int .i64 0), (.int .u64 3), (.slice (some ⟨b173, 0, none⟩) 1 1)])]⟩ Hx174 fun v175 Hx176 =>
 asB v175 fun t177 =>
 hcall PR f_trace_Trace_Step ⟨[(.pointer t74), (.int .u64 5)]⟩ Hx176 fun v178 Hx179 =>
 tup2 v178 fun v180 v181 =>
 asAgg' v180 fun cs182 =>
 unCons cs182.toList fun v183 r184 =>
 unCons r184 fun v185 r186 =>
 unCons r186 fun v187 r188 =>
 unCons r188 fun v189 r190 =>
 unCons r190 fun v191 r192 =>
 unCons r192 fun v193 r194 =>
 unCons r194 fun v195 r196 =>
 unCons r196 fun v197 r198 =>
 unCons r198 fun v199 r200 =>
 unCons r200 fun v201 r202 =>
 unCons r202 fun v203 r204 =>
 unCons r204 fun v205 r206 =>
 unCons r206 fun v207 r208 =>
 unCons r208 fun v209 r210 =>
 unCons r210 fun v211 r212 =>
 unCons r212 fun v213 r214 =>
 unCons r214 fun v215 r216 =>
 unCons r216 fun v217 r218 =>
 unCons r218 fun v219 r220 =>
 unNil r220 <|
 asI .i64 v183 fun Kind221 =>
 asI .i64 v185 fun From222 =>
 asI .i64 v187 fun To223 =>
 asI .u64 v189 fun Call224 =>
 asI .u64 v191 fun Floor225 =>
 asI .i64 v193 fun Op226 =>
 asI .i64 v195 fun Field227 =>
 asI .i64 v197 fun Item228 =>
 asI .i64 v199 fun Node229 =>
 asI .u64 v201 fun Serial230 =>
 asSl v203 fun RefsP231 RefsL232 RefsC233 =>
 asI .u64 v205 fun Value234 =>
 asI .i64 v207 fun Code235 =>
 asI .u64 v209 fun Seq236 =>
 asI .i64 v211 fun Voucher237 =>
 asI .u64 v213 fun At238 =>
 asI .i64 v215 fun Dist239 =>
 asI .u64 v217 fun Stamp240 =>
 asSl v219 fun ListP241 ListL242 ListC243 =>
 asB v181 fun t244 =>
 newB (.cells #[(.int .i64 0), (.int .i64 0), (.int .i64 0), (.int .u64 0), (.int .u64 0), (.int .i64 0), (.int .i64 0), (.int .i64 0), (.int .i64 0), (.int .u64 0), (.slice none 0 0), (.int .u64 0), (.int .i64 0), (.int .u64 0), (.int .i64 0), (.int .u64 0), (.int .i64 0), (.int .u64 0), (.slice none 0 0)] ty_api_Msg) Hx179 fun b245 Hx246 =>
 st ⟨b245, 0, none⟩ (.int .i64 Kind221) Hx246 fun Hx247 =>
 st ⟨b245, 1, none⟩ (.int .i64 From222) Hx247 fun Hx248 =>
 st ⟨b245, 2, none⟩ (.int .i64 To223) Hx248 fun Hx249 =>
 st ⟨b245, 3, none⟩ (.int .u64 Call224) Hx249 fun Hx250 =>
 st ⟨b245, 4, none⟩ (.int .u64 Floor225) Hx250 fun Hx251 =>
 st ⟨b245, 5, none⟩ (.int .i64 Op226) Hx251 fun Hx252 =>
 st ⟨b245, 6, none⟩ (.int .i64 Field227) Hx252 fun Hx253 =>
 st ⟨b245, 7, none⟩ (.int .i64 Item228) Hx253 fun Hx254 =>
 st ⟨b245, 8, none⟩ (.int .i64 Node229) Hx254 fun Hx255 =>
 st ⟨b245, 9, none⟩ (.int .u64 Serial230) Hx255 fun Hx256 =>
 st ⟨b245, 10, none⟩ (.slice RefsP231 RefsL232 RefsC233) Hx256 fun Hx257 =>
 st ⟨b245, 11, none⟩ (.int .u64 Value234) Hx257 fun Hx258 =>
 st ⟨b245, 12, none⟩ (.int .i64 Code235) Hx258 fun Hx259 =>
 st ⟨b245, 13, none⟩ (.int .u64 Seq236) Hx259 fun Hx260 =>
 st ⟨b245, 14, none⟩ (.int .i64 Voucher237) Hx260 fun Hx261 =>
 st ⟨b245, 15, none⟩ (.int .u64 At238) Hx261 fun Hx262 =>
 st ⟨b245, 16, none⟩ (.int .i64 Dist239) Hx262 fun Hx263 =>
 st ⟨b245, 17, none⟩ (.int .u64 Stamp240) Hx263 fun Hx264 =>
 st ⟨b245, 18, none⟩ (.slice ListP241 ListL242 ListC243) Hx264 fun Hx265 =>
 hcall PR f_trace_Trace_Hear ⟨[(.pointer t74), (.agg #[(.int .i64 9), (.int .i64 1), (.int .i64 1), (.int .u64 1), (.int .u64 0), (.int .i64 0), (.int .i64 0), (.int .i64 1), (.int .i64 0), (.int .u64 0), (.slice none 0 0), (.int .u64 0), (.int .i64 0), (.int .u64 0), (.int .i64 0), (.int .u64 0), (.int .i64 0), (.int .u64 0), (.slice none 0 0)])]⟩ Hx265 fun v266 Hx267 =>
 asB v266 fun t268 =>
 hcall PR f_trace_Trace_State ⟨[(.pointer t74)]⟩ Hx267 fun v269 Hx270 =>
 asI .i64 v269 fun t271 =>
 hcall PR f_trace_Trace_Hear ⟨[(.pointer t74), (.agg #[(.int .i64 9), (.int .i64 1), (.int .i64 1), (.int .u64 1), (.int .u64 0), (.int .i64 0), (.int .i64 0), (.int .i64 2), (.int .i64 0), (.int .u64 0), (.slice none 0 0), (.int .u64 0), (.int .i64 2), (.int .u64 0), (.int .i64 0), (.int .u64 0), (.int .i64 0), (.int .u64 3), (.slice none 0 0)])]⟩ Hx270 fun v272 Hx273 =>
 asB v272 fun t274 =>
 hcall PR f_trace_Trace_Count ⟨[(.pointer t74)]⟩ Hx273 fun v275 Hx276 =>
 tup2 v275 fun v277 v278 =>
 asI .u64 v277 fun t279 =>
 asI .i64 v278 fun t280 =>
 (bif t151 then
 ldI .i64 ⟨b152, 0, none⟩ Hx276 fun Kind281 =>
 (bif ((Kind281 : Int) == 8) then
 ldI .i64 ⟨b152, 5, none⟩ Hx276 fun Op282 =>
 (bif ((Op282 : Int) == 2) then
 ldI .i64 ⟨b152, 2, none⟩ Hx276 fun To283 =>
 (bif ((To283 : Int) == 1) then
 ldI .i64 ⟨b152, 7, none⟩ Hx276 fun Item284 =>
 (bif ((Item284 : Int) == 0) then
 (bif t177 then
 (bif t244 then
 ldI .i64 ⟨b245, 5, none⟩ Hx276 fun Op285 =>
 (bif ((Op285 : Int) == 1) then
 ldI .i64 ⟨b245, 8, none⟩ Hx276 fun Node286 =>
 ldI .u64 ⟨b245, 9, none⟩ Hx276 fun Serial287 =>
 evR PR (aggEq .eql ty_api_ID #[(.int .i64 Node286), (.int .u64 Serial287)] #[(.int .i64 1), (.int .u64 4)]) Hx276 fun v288 =>
 asB v288 fun eq289 =>
 (bif eq289 then
 ldI .i64 ⟨b245, 7, none⟩ Hx276 fun Item290 =>
 (bif ((Item290 : Int) == 1) then
 (bif t268 then
 (bif ((t271 : Int) == 2) then
 (bif t274 then
 hcall PR f_trace_Trace_State ⟨[(.pointer t74)]⟩ Hx276 fun v291 Hx292 =>
 asI .i64 v291 fun t293 =>
 (bif ((t293 : Int) == 0) then
 (bif ((t279 : Int) == 1) then
 K (.bool ((t280 : Int) == 1)) Hx292
else
 K (.bool false) Hx292)
else
 K (.bool false) Hx292)
else
 K (.bool false) Hx276)
else
 K (.bool false) Hx276)
else
 K (.bool false) Hx276)
else
 K (.bool false) Hx276)
else
 K (.bool false) Hx276)
else
 K (.bool false) Hx276)
else
 K (.bool false) Hx276)
else
 K (.bool false) Hx276)
else
 K (.bool false) Hx276)
else
 K (.bool false) Hx276)
else
 K (.bool false) Hx276)
else
 K (.bool false) Hx276)
else
 K (.bool false) Hx276))))
theorem E_law23_known  (H : Hp) (K : Value → Hp → Prop) : B_law23_known  H K = denF Try.prog Try.f28 .n [] H K := by kernel_rfl
theorem den_law23_known  {H : Hp} {K : Value → Hp → Prop} (h : B_law23_known  H K) : hcall PR f_law23_known ⟨[]⟩ H K := denF_call Try.func28 PR_mixed (Eq.mp (E_law23_known  H K) h)

def B_law23_stub  (H : Hp) (K : Value → Hp → Prop) : Prop :=
 newB (.cells #[(.int .i64 0), (.int .u64 0)] ty_api_ID) H fun b1 Hx2 =>
 st ⟨b1, 0, none⟩ (.int .i64 2) Hx2 fun Hx3 =>
 st ⟨b1, 1, none⟩ (.int .u64 7) Hx3 fun Hx4 =>
 ldI .i64 ⟨b1, 0, none⟩ Hx4 fun Node5 =>
 ldI .u64 ⟨b1, 1, none⟩ Hx4 fun Serial6 =>
 K (.agg #[(.int .i64 Node5), (.int .u64 Serial6)]) Hx4
theorem E_law23_stub  (H : Hp) (K : Value → Hp → Prop) : B_law23_stub  H K = denF Try.prog Try.f30 .n [] H K := by kernel_rfl
theorem den_law23_stub  {H : Hp} {K : Value → Hp → Prop} (h : B_law23_stub  H K) : hcall PR f_law23_stub ⟨[]⟩ H K := denF_call Try.func30 PR_mixed (Eq.mp (E_law23_stub  H K) h)

end Go.Proofs.Ytknejebggegfjaa

namespace Go.Proofs.Ytknejebggegfjaa
set_option linter.unusedSimpArgs false
set_option linter.unusedVariables false
set_option maxRecDepth 20000
open Go
section
variable {H0 H : Hp} {L M N : List Prt} {i k tb : Nat} {c : Cf} {t : Tr} {K : Value → Hp → Prop}
/-- Cells written one behind the other, and no more than that. -/
def stz (b : Nat) : Nat → List Value → Hp → (Hp → Prop) → Prop
  | _, [], H, K => K H
  | o, [v], H, K => st ⟨b, o, none⟩ v H K
  | o, v :: w :: r, H, K => st ⟨b, o, none⟩ v H fun H' => stz b (o + 1) (w :: r) H' K
theorem stz_of {b : Nat} : ∀ {vs : List Value} {o : Nat} {H : Hp} {K : Hp → Prop}, sts b o vs H K → stz b o vs H K
  | [], _, _, _, h => h
  | [v], o, H, K, h => h
  | v :: w :: r, o, H, K, h => by
    have h : st ⟨b, o, none⟩ v H fun H' => sts b (o + 1) (w :: r) H' K := h
    show st ⟨b, o, none⟩ v H fun H' => stz b (o + 1) (w :: r) H' K
    unfold st at h ⊢
    split at h
    · exact ⟨h.1, h.2.1, h.2.2.1, stz_of h.2.2.2⟩
    · exact h
theorem boxz {T : TypeId} {c vs : List Value} {K : Nat → Hp → Prop} (h : St H0 L H) (hl : vs.length = c.length) (hK : ∀ b H', St H0 (Prt.one b (.cells vs.toArray T (0, 0)) :: L) H' → K b H') :
    newB (.cells c.toArray T) H fun b H1 => stz b 0 vs H1 (K b) := by
  intro b hb
  exact stz_of (boxs (T := T) (c := c) (vs := vs) (K := K) h hl hK b hb)
theorem trMake {node last : Int} (h : St H0 L H) (hb : H tb = none) : St H0 (TrP tb c (newTr node last) :: L) (upd H tb (.cells #[.int .i64 c.a0, .int .i64 c.a1, .int .i64 c.a2, .int .i64 c.a3, .int .i64 c.a4, .int .i64 c.a5, .int .i64 c.a6, .int .i64 c.a7, .int .i64 c.a8, .int .i64 c.a9, .int .i64 c.a10, .int .u64 c.a11, .int .u64 c.a12, .int .u64 c.a13, .int .u64 c.a14, .int .u64 c.a15, .int .u64 c.a16, .int .i64 c.a17, .int .i64 c.a18, .int .i64 c.a19, .int .u64 c.a20, .int .u64 c.a21, .int .i64 node, .int .u64 last, .int .i64 0, .int .i64 0, .slice none 0 0, .map none, .int .i64 0, .slice none 0 0, .int .u64 0, .int .u64 0] ty_trace_Trace)) := by
  have g1 := h.saynil
  have g2 := g1.say (p := (newTr node last).ok c.a0) newTr_ok
  have g3 := g2.row (H' := _) (Own.nil 1) ((Goes.refl Nothing _).less fun c hc => absurd hc blk_none)
  have g4 := g3.saynil
  have g5 := g4.row (H' := _) (Own.nil 5) ((Goes.refl Nothing _).less fun c hc => absurd hc blk_none)
  have g6 := g5.alloc (o := .cells #[.int .i64 c.a0, .int .i64 c.a1, .int .i64 c.a2, .int .i64 c.a3, .int .i64 c.a4, .int .i64 c.a5, .int .i64 c.a6, .int .i64 c.a7, .int .i64 c.a8, .int .i64 c.a9, .int .i64 c.a10, .int .u64 c.a11, .int .u64 c.a12, .int .u64 c.a13, .int .u64 c.a14, .int .u64 c.a15, .int .u64 c.a16, .int .i64 c.a17, .int .i64 c.a18, .int .i64 c.a19, .int .u64 c.a20, .int .u64 c.a21, .int .i64 node, .int .u64 last, .int .i64 0, .int .i64 0, .slice none 0 0, .map none, .int .i64 0, .slice none 0 0, .int .u64 0, .int .u64 0] ty_trace_Trace) hb
  have g7 : St H0 (trRaw tb c (newTr node last) ⟨none, 0, 0, none, 0, ty_trace_Trace⟩ (.map none) .nil ((newTr node last).ok c.a0) ++ (Prt.nil :: L)) (upd H tb (.cells #[.int .i64 c.a0, .int .i64 c.a1, .int .i64 c.a2, .int .i64 c.a3, .int .i64 c.a4, .int .i64 c.a5, .int .i64 c.a6, .int .i64 c.a7, .int .i64 c.a8, .int .i64 c.a9, .int .i64 c.a10, .int .u64 c.a11, .int .u64 c.a12, .int .u64 c.a13, .int .u64 c.a14, .int .u64 c.a15, .int .u64 c.a16, .int .i64 c.a17, .int .i64 c.a18, .int .i64 c.a19, .int .u64 c.a20, .int .u64 c.a21, .int .i64 node, .int .u64 last, .int .i64 0, .int .i64 0, .slice none 0 0, .map none, .int .i64 0, .slice none 0 0, .int .u64 0, .int .u64 0] ty_trace_Trace)) := g6
  have g8 := g7.midless
  exact St.gatherEx (M := fun x => trRaw tb c (newTr node last) x (smV (newTr node last) x) (smP (newTr node last) x) ((newTr node last).ok c.a0)) ⟨none, 0, 0, none, 0, ty_trace_Trace⟩ (by
    rw [smV_off rfl, smP_off rfl]
    exact g8)
theorem newC {node last : Int} (hg : c.good) (h : St H0 L H)
    (hno : (node < 1 ∨ node > c.a0 ∨ last > 72057594037927935) → ∀ H', St H0 L H' → K (.tuple #[.pointer none, .int .i64 1]) H')
    (hK : 1 ≤ node ∧ node ≤ c.a0 → last ≤ 72057594037927935 → ∀ tb H', St H0 (TrP tb c (newTr node last) :: L) H' → K (.tuple #[.pointer (some ⟨tb, 0, none⟩), .int .i64 0]) H') :
    hcall PR f_trace_New ⟨[c.val, .int .i64 node, .int .u64 last]⟩ H K := by
  apply den_trace_New
  unfold B_trace_New
  intro b25 hb25
  have g1 := h.alloc (o := .cells #[.int .i64 c.a0, .int .i64 c.a1, .int .i64 c.a2, .int .i64 c.a3, .int .i64 c.a4, .int .i64 c.a5, .int .i64 c.a6, .int .i64 c.a7, .int .i64 c.a8, .int .i64 c.a9, .int .i64 c.a10, .int .u64 c.a11, .int .u64 c.a12, .int .u64 c.a13, .int .u64 c.a14, .int .u64 c.a15, .int .u64 c.a16, .int .i64 c.a17, .int .i64 c.a18, .int .i64 c.a19, .int .u64 c.a20, .int .u64 c.a21] ty_api_Config) hb25
  refine ldI_of (g1.cell (i := 0) rfl rfl) (ldI_of (g1.cell (i := 0) rfl rfl) (ldI_of (g1.cell (i := 0) rfl rfl) (ldI_of (g1.cell (i := 0) rfl rfl) (ldI_of (g1.cell (i := 0) rfl rfl) (ldI_of (g1.cell (i := 0) rfl rfl) (ldI_of (g1.cell (i := 0) rfl rfl) (ldI_of (g1.cell (i := 0) rfl rfl) (ldI_of (g1.cell (i := 0) rfl rfl) (ldI_of (g1.cell (i := 0) rfl rfl) (ldI_of (g1.cell (i := 0) rfl rfl) (ldI_of (g1.cell (i := 0) rfl rfl) (ldI_of (g1.cell (i := 0) rfl rfl) (ldI_of (g1.cell (i := 0) rfl rfl) (ldI_of (g1.cell (i := 0) rfl rfl) (ldI_of (g1.cell (i := 0) rfl rfl) (ldI_of (g1.cell (i := 0) rfl rfl) (ldI_of (g1.cell (i := 0) rfl rfl) (ldI_of (g1.cell (i := 0) rfl rfl) (ldI_of (g1.cell (i := 0) rfl rfl) (ldI_of (g1.cell (i := 0) rfl rfl) (ldI_of (g1.cell (i := 0) rfl rfl) (?_))))))))))))))))))))))
  refine mayC hg g1 fun H2 g2 => ?_
  (try simp only [asI_mk', asB_mk, asP_mk, asA_mk, asM_mk, asSl_mk, asStr_mk, tup2_mk, tup3_mk, agg1_mk, agg2_mk, agg3_mk, agg4_mk, asAggm, unCons_mk, unNil_mk, asTup_mk, extractD0, extractD1, List.toList_toArray, nilP_mk, add_mk, Nat.zero_add, Nat.add_zero, condT, condF, Bool.not_true, Bool.not_false, Option.isNone_some, Option.isNone_none])
  by_cases h1 : node < 1
  · exact bif_pos h1 (hno (.inl h1) H2 g2.less)
  refine bif_neg h1 (ldI_of (g2.cell (i := 0) rfl rfl) ?_)
  by_cases h2 : node > c.a0
  · exact bif_pos h2 (hno (.inr (.inl h2)) H2 g2.less)
  refine bif_neg h2 ?_
  by_cases h3 : last > 72057594037927935
  · exact bif_pos h3 (hno (.inr (.inr h3)) H2 g2.less)
  refine bif_neg h3 ?_
  refine ldI_of (g2.cell (i := 0) rfl rfl) (ldI_of (g2.cell (i := 0) rfl rfl) (ldI_of (g2.cell (i := 0) rfl rfl) (ldI_of (g2.cell (i := 0) rfl rfl) (ldI_of (g2.cell (i := 0) rfl rfl) (ldI_of (g2.cell (i := 0) rfl rfl) (ldI_of (g2.cell (i := 0) rfl rfl) (ldI_of (g2.cell (i := 0) rfl rfl) (ldI_of (g2.cell (i := 0) rfl rfl) (ldI_of (g2.cell (i := 0) rfl rfl) (ldI_of (g2.cell (i := 0) rfl rfl) (ldI_of (g2.cell (i := 0) rfl rfl) (ldI_of (g2.cell (i := 0) rfl rfl) (ldI_of (g2.cell (i := 0) rfl rfl) (ldI_of (g2.cell (i := 0) rfl rfl) (ldI_of (g2.cell (i := 0) rfl rfl) (ldI_of (g2.cell (i := 0) rfl rfl) (ldI_of (g2.cell (i := 0) rfl rfl) (ldI_of (g2.cell (i := 0) rfl rfl) (ldI_of (g2.cell (i := 0) rfl rfl) (ldI_of (g2.cell (i := 0) rfl rfl) (ldI_of (g2.cell (i := 0) rfl rfl) (?_))))))))))))))))))))))
  intro b75 hb75
  refine hK ⟨by omega, by omega⟩ (by omega) b75 _ ?_
  have := trMake (c := c) (node := node) (last := last) g2 hb75
  exact St.less (St.flip this)
theorem stubC (h : St H0 L H) (hK : ∀ H', St H0 L H' → K (.agg #[.int .i64 2, .int .u64 7]) H') : hcall PR f_law23_stub ⟨[]⟩ H K := by
  apply den_law23_stub
  unfold B_law23_stub
  refine boxz (c := [.int .i64 0, .int .u64 0]) (vs := [.int .i64 2, .int .u64 7]) h rfl fun b H2 g2 => ?_
  exact ldI_of (g2.cell (i := 0) rfl rfl) (ldI_of (g2.cell (i := 0) rfl rfl) (hK H2 g2.less))

theorem idsNone {a b : Nat} (h : K (.bool true) H) : hcall PR f_ref2_IDs ⟨[.slice none 0 a, .slice none 0 b]⟩ H K := by
  apply den_ref2_IDs
  unfold B_ref2_IDs
  refine bif_neqf rfl ⟨fun q H' => q = 0 ∧ H' = H, fun _ _ => 0, ⟨rfl, rfl⟩, ?_⟩
  rintro q H' ⟨rfl, rfl⟩
  exact bif_neg (by decide) h
theorem numbersC {p p' : Option Addr} {n a n' b : Nat} {l l' : List Int} (h1 : Rd H 1 p n (l.map (Value.int .u64))) (h2 : Rd H 1 p' n' (l'.map (Value.int .u64))) (hn : n ≤ 9223372036854775807) (hn' : n' ≤ 9223372036854775807) (h : K (.bool (decide (l = l'))) H) : hcall PR f_ref2_Numbers ⟨[.slice p n a, .slice p' n' b]⟩ H K := by
  apply den_ref2_Numbers
  unfold B_ref2_Numbers
  have e1 : l.length = n := by simpa using h1.1
  have e2 : l'.length = n' := by simpa using h2.1
  by_cases hc : (n : Int) = n'
  rotate_left
  · rw [decide_eq_false (by rintro rfl; omega)] at h
    exact bif_neq hc h
  have hc : n = n' := by omega
  subst hc
  refine bif_neqf rfl ⟨fun q H' => H' = H ∧ ∃ m : Nat, q = m ∧ m ≤ n ∧ l.take m = l'.take m, fun q _ => ((n : Int) - q).toNat, ⟨rfl, 0, rfl, by omega, rfl⟩, ?_⟩
  rintro q H' ⟨rfl, m, rfl, hm, ht⟩
  by_cases hml : (m : Int) < (n : Int)
  · refine bif_pos hml (idx1 (d := (0 : Int)) h1 (by omega) hml fun b o _ c1 => ldI_of c1 (idx1 (d := (0 : Int)) h2 (by omega) hml fun b' o' _ c2 => ldI_of c2 ?_))
    rw [Int.toNat_natCast]
    have ha : m < l.length := by omega
    have hb : m < l'.length := by omega
    have ga : l.getD m 0 = l[m] := by rw [List.getD_eq_getElem?_getD, List.getElem?_eq_getElem ha]; rfl
    have gb : l'.getD m 0 = l'[m] := by rw [List.getD_eq_getElem?_getD, List.getElem?_eq_getElem hb]; rfl
    by_cases hv : l.getD m 0 = l'.getD m 0
    · refine bif_neqf hv ?_
      rw [wrap_i64 (by omega) (by omega)]
      refine ⟨⟨rfl, m + 1, by omega, by omega, ?_⟩, by (try dsimp only); omega⟩
      rw [List.take_succ_eq_append_getElem ha, List.take_succ_eq_append_getElem hb, ht, ← ga, ← gb, hv]
    · rw [decide_eq_false (by rintro rfl; exact hv rfl)] at h
      exact bif_neq hv h
  · refine bif_neg hml ?_
    rw [List.take_of_length_le (by omega), List.take_of_length_le (by omega)] at ht
    rw [decide_eq_true ht] at h
    exact h
theorem sameC {q : Qn} (h : St H0 L H) (hK : ∀ H', St H0 L H' → K (.bool true) H') : hcall PR f_ref2_Same ⟨[q.val, q.val]⟩ H K := by
  unfold Qn.val
  apply den_ref2_Same
  unfold B_ref2_Same
  intro b47 hb47
  have g1 := h.alloc (o := .cells q.cells.toArray ty_api_Msg) hb47
  intro b49 hb49
  have g2 := g1.alloc (o := .cells q.cells.toArray ty_api_Msg) hb49
  have hK := hK _ g2.less.less
  have g : St H0 (Prt.one b49 (.cells q.cells.toArray ty_api_Msg (0, 0)) :: Prt.one b47 (.cells q.cells.toArray ty_api_Msg (0, 0)) :: L) _ := g2
  have rd : Rd (upd (upd H b47 (.cells q.cells.toArray ty_api_Msg)) b49 (.cells q.cells.toArray ty_api_Msg)) 1 none 0 (([] : List Int).map (Value.int .u64)) := ⟨rfl, rfl⟩
  refine ldI_of (g.cell (i := 1) rfl rfl) (ldI_of (g.cell (i := 0) rfl rfl) (bif_neqf rfl ?_))
  refine ldI_of (g.cell (i := 1) rfl rfl) (ldI_of (g.cell (i := 0) rfl rfl) (bif_neqf rfl ?_))
  refine ldI_of (g.cell (i := 1) rfl rfl) (ldI_of (g.cell (i := 0) rfl rfl) (bif_neqf rfl ?_))
  refine ldI_of (g.cell (i := 1) rfl rfl) (ldI_of (g.cell (i := 0) rfl rfl) (bif_neqf rfl ?_))
  refine ldI_of (g.cell (i := 1) rfl rfl) (ldI_of (g.cell (i := 0) rfl rfl) (bif_neqf rfl ?_))
  refine ldI_of (g.cell (i := 1) rfl rfl) (ldI_of (g.cell (i := 0) rfl rfl) (bif_neqf rfl ?_))
  refine ldI_of (g.cell (i := 1) rfl rfl) (ldI_of (g.cell (i := 0) rfl rfl) (bif_neqf rfl ?_))
  refine ldI_of (g.cell (i := 1) rfl rfl) (ldI_of (g.cell (i := 0) rfl rfl) (bif_neqf rfl ?_))
  refine ldI_of (g.cell (i := 1) rfl rfl) (ldI_of (g.cell (i := 1) rfl rfl) (ldI_of (g.cell (i := 0) rfl rfl) (ldI_of (g.cell (i := 0) rfl rfl) (idNe ?_))))
  rw [decide_eq_true rfl]
  (try simp only [asI_mk', asB_mk, asP_mk, asA_mk, asM_mk, asSl_mk, asStr_mk, tup2_mk, tup3_mk, agg1_mk, agg2_mk, agg3_mk, agg4_mk, asAggm, unCons_mk, unNil_mk, asTup_mk, extractD0, extractD1, List.toList_toArray, nilP_mk, add_mk, Nat.zero_add, Nat.add_zero, condT, condF, Bool.not_true, Bool.not_false, Option.isNone_some, Option.isNone_none])
  refine ldI_of (g.cell (i := 1) rfl rfl) (ldI_of (g.cell (i := 0) rfl rfl) (bif_neqf rfl ?_))
  refine ldI_of (g.cell (i := 1) rfl rfl) (ldI_of (g.cell (i := 0) rfl rfl) (bif_neqf rfl ?_))
  refine ldI_of (g.cell (i := 1) rfl rfl) (ldI_of (g.cell (i := 0) rfl rfl) (bif_eq rfl ?_))
  refine ldI_of (g.cell (i := 1) rfl rfl) (ldI_of (g.cell (i := 0) rfl rfl) (bif_eq rfl ?_))
  refine ldI_of (g.cell (i := 1) rfl rfl) (ldI_of (g.cell (i := 0) rfl rfl) (bif_eq rfl ?_))
  refine ldI_of (g.cell (i := 1) rfl rfl) (ldI_of (g.cell (i := 0) rfl rfl) (bif_eq rfl ?_))
  refine ldI_of (g.cell (i := 1) rfl rfl) (ldI_of (g.cell (i := 0) rfl rfl) (bif_eq rfl ?_))
  refine ldSl_of (g.cell (i := 1) rfl rfl) (ldSl_of (g.cell (i := 0) rfl rfl) (idsNone ?_))
  (try simp only [asI_mk', asB_mk, asP_mk, asA_mk, asM_mk, asSl_mk, asStr_mk, tup2_mk, tup3_mk, agg1_mk, agg2_mk, agg3_mk, agg4_mk, asAggm, unCons_mk, unNil_mk, asTup_mk, extractD0, extractD1, List.toList_toArray, nilP_mk, add_mk, Nat.zero_add, Nat.add_zero, condT, condF, Bool.not_true, Bool.not_false, Option.isNone_some, Option.isNone_none])
  refine ldSl_of (g.cell (i := 1) rfl rfl) (ldSl_of (g.cell (i := 0) rfl rfl) (numbersC rd rd (by decide) (by decide) ?_))
  rw [decide_eq_true rfl]
  exact hK

def zeroRaw : Cf := ⟨0, 0, 0, 0, 0, 0, 0, 0, 0, 0, 0, 0, 0, 0, 0, 0, 0, 0, 0, 0, 0, 0⟩
theorem zero_a0 : (confOf zeroRaw).a0 = 2 := by
  show IntKind.i64.wrap (2 + pick 0 3) = 2
  decide
def kn1 : Tr := ⟨1, 1, 0, 1, [⟨false, 1, ⟨2, 7⟩, 0⟩], [], 0, [], 5, 0⟩
def kn2 : Tr := ⟨1, 1, 0, 1, [⟨false, 1, ⟨2, 7⟩, 2⟩, ⟨true, 1, ⟨1, 4⟩, 0⟩], [(1, 3)], 1, [], 0, 0⟩
def kn3 : Tr := ⟨1, 1, 0, 2, [⟨false, 1, ⟨2, 7⟩, 2⟩, ⟨true, 1, ⟨1, 4⟩, 0⟩], [(1, 3)], 2, [1], 0, 0⟩
def kn4 : Tr := ⟨1, 1, 1, 0, [], [], 0, [], 0, 0⟩
theorem knB : (newTr 1 0).begun 2 7 5 = kn1 := by rfl
theorem kn12 {a b : Int} : (kn1.told a b 5).hear 2 ⟨9, 1, 1, 1, 0, 2, 3, [4]⟩ = kn2 ∧ (kn1.told a b 5).heeds ⟨9, 1, 1, 1, 0, 2, 3, [4]⟩ = true := ⟨by rfl, by rfl⟩
theorem kn23 {a b : Int} : (kn2.told a b 5).hear 2 ⟨9, 1, 1, 1, 1, 0, 0, []⟩ = kn3 ∧ (kn2.told a b 5).heeds ⟨9, 1, 1, 1, 1, 0, 0, []⟩ = true := ⟨by rfl, by rfl⟩
theorem kn34 : kn3.hear 2 ⟨9, 1, 1, 1, 2, 2, 3, []⟩ = kn4 ∧ kn3.heeds ⟨9, 1, 1, 1, 2, 2, 3, []⟩ = true := ⟨by rfl, by rfl⟩
theorem rdNil {H : Hp} : Rd H 1 none 0 (([] : List Int).map (Value.int .u64)) := ⟨rfl, rfl⟩
theorem knownC (h : St H0 L H) (hK : ∀ H', St H0 L H' → K (.bool true) H') : hcall PR f_law23_known ⟨[]⟩ H K := by
  apply den_law23_known
  unfold B_law23_known
  have hg : (confOf zeroRaw).good := conf_good (by decide) (by decide)
  have h0 := zero_a0
  refine configC (r := zeroRaw) h fun H1 g1 => ?_
  generalize confOf zeroRaw = c at *
  unfold Cf.val
  (try simp only [asI_mk', asB_mk, asP_mk, asA_mk, asM_mk, asSl_mk, asStr_mk, tup2_mk, tup3_mk, agg1_mk, agg2_mk, agg3_mk, agg4_mk, asAggm, unCons_mk, unNil_mk, asTup_mk, extractD0, extractD1, List.toList_toArray, nilP_mk, add_mk, Nat.zero_add, Nat.add_zero, condT, condF, Bool.not_true, Bool.not_false, Option.isNone_some, Option.isNone_none])
  refine newC hg g1 (fun h => absurd h (by omega)) fun _ _ tb H2 g2 => ?_
  (try simp only [asI_mk', asB_mk, asP_mk, asA_mk, asM_mk, asSl_mk, asStr_mk, tup2_mk, tup3_mk, agg1_mk, agg2_mk, agg3_mk, agg4_mk, asAggm, unCons_mk, unNil_mk, asTup_mk, extractD0, extractD1, List.toList_toArray, nilP_mk, add_mk, Nat.zero_add, Nat.add_zero, condT, condF, Bool.not_true, Bool.not_false, Option.isNone_some, Option.isNone_none])
  refine bif_neqf rfl ?_
  (try simp only [Option.isNone, condF])
  refine stubC g2 fun H3 g3 => ?_
  (try simp only [asI_mk', asB_mk, asP_mk, asA_mk, asM_mk, asSl_mk, asStr_mk, tup2_mk, tup3_mk, agg1_mk, agg2_mk, agg3_mk, agg4_mk, asAggm, unCons_mk, unNil_mk, asTup_mk, extractD0, extractD1, List.toList_toArray, nilP_mk, add_mk, Nat.zero_add, Nat.add_zero, condT, condF, Bool.not_true, Bool.not_false, Option.isNone_some, Option.isNone_none])
  have hb0 : (newTr 1 0).beginE c.a0 2 7 = 0 := by rw [h0]; rfl
  refine trBeginC g3 (k := 0) rfl (by simp only [newTr]; omega) (fun h => absurd hb0 h) fun _ H4 g4 => ?_
  rw [knB] at g4
  (try simp only [asI_mk', asB_mk, asP_mk, asA_mk, asM_mk, asSl_mk, asStr_mk, tup2_mk, tup3_mk, agg1_mk, agg2_mk, agg3_mk, agg4_mk, asAggm, unCons_mk, unNil_mk, asTup_mk, extractD0, extractD1, List.toList_toArray, nilP_mk, add_mk, Nat.zero_add, Nat.add_zero, condT, condF, Bool.not_true, Bool.not_false, Option.isNone_some, Option.isNone_none])
  refine bif_neqf rfl ?_
  refine trStepC g4 (k := 0) rfl (fun h => absurd h (by decide)) fun _ H5 g5 => ?_
  have hq : kn1.q = ⟨8, 1, 1, 1, 2, 0, ⟨2, 7⟩, 0⟩ := by rfl
  rw [hq]
  unfold Qn.val
  (try simp only [asI_mk', asB_mk, asP_mk, asA_mk, asM_mk, asSl_mk, asStr_mk, tup2_mk, tup3_mk, agg1_mk, agg2_mk, agg3_mk, agg4_mk, asAggm, unCons_mk, unNil_mk, asTup_mk, extractD0, extractD1, List.toList_toArray, nilP_mk, add_mk, Nat.zero_add, Nat.add_zero, condT, condF, Bool.not_true, Bool.not_false, Option.isNone_some, Option.isNone_none])
  refine boxz (c := [.int .i64 0, .int .i64 0, .int .i64 0, .int .u64 0, .int .u64 0, .int .i64 0, .int .i64 0, .int .i64 0, .int .i64 0, .int .u64 0, .slice none 0 0, .int .u64 0, .int .i64 0, .int .u64 0, .int .i64 0, .int .u64 0, .int .i64 0, .int .u64 0, .slice none 0 0]) (vs := Qn.cells ⟨8, 1, 1, 1, 2, 0, ⟨2, 7⟩, 0⟩) g5 rfl fun b152 H6 g6 => ?_
  intro b173 hb173
  have g7 := g6.alloc (o := .cells #[.int .u64 4] ty_uint64) hb173
  have g7 : St H0 (Prt.one b173 (.cells #[.int .u64 4] ty_uint64 (0, 0)) :: Prt.one b152 (.cells (Qn.cells ⟨8, 1, 1, 1, 2, 0, ⟨2, 7⟩, 0⟩).toArray ty_api_Msg (0, 0)) :: TrP tb c (kn1.told c.a14 c.a15 5) :: L) _ := g7
  refine trHearC (m := ⟨9, 1, 1, 1, 0, 2, 3, [4]⟩) (k := 2) g7 rfl (by omega) rfl (by decide) (fun n hn => by simp at hn; omega) (fun N M H' hot h' => (St.lesses (M := N) h').one_rd (n := 1) (k := 1) (hot 0 _ rfl (by decide)) rfl) fun H8 g8 => ?_
  rw [h0, kn12.1] at g8
  rw [kn12.2]
  (try simp only [asI_mk', asB_mk, asP_mk, asA_mk, asM_mk, asSl_mk, asStr_mk, tup2_mk, tup3_mk, agg1_mk, agg2_mk, agg3_mk, agg4_mk, asAggm, unCons_mk, unNil_mk, asTup_mk, extractD0, extractD1, List.toList_toArray, nilP_mk, add_mk, Nat.zero_add, Nat.add_zero, condT, condF, Bool.not_true, Bool.not_false, Option.isNone_some, Option.isNone_none])
  refine trStepC g8 (k := 2) rfl (fun h => absurd h (by decide)) fun _ H9 g9 => ?_
  have hq : kn2.q = ⟨8, 1, 1, 1, 1, 1, ⟨1, 4⟩, 0⟩ := by rfl
  rw [hq]
  unfold Qn.val
  (try simp only [asI_mk', asB_mk, asP_mk, asA_mk, asM_mk, asSl_mk, asStr_mk, tup2_mk, tup3_mk, agg1_mk, agg2_mk, agg3_mk, agg4_mk, asAggm, unCons_mk, unNil_mk, asTup_mk, extractD0, extractD1, List.toList_toArray, nilP_mk, add_mk, Nat.zero_add, Nat.add_zero, condT, condF, Bool.not_true, Bool.not_false, Option.isNone_some, Option.isNone_none])
  refine boxz (c := [.int .i64 0, .int .i64 0, .int .i64 0, .int .u64 0, .int .u64 0, .int .i64 0, .int .i64 0, .int .i64 0, .int .i64 0, .int .u64 0, .slice none 0 0, .int .u64 0, .int .i64 0, .int .u64 0, .int .i64 0, .int .u64 0, .int .i64 0, .int .u64 0, .slice none 0 0]) (vs := Qn.cells ⟨8, 1, 1, 1, 1, 1, ⟨1, 4⟩, 0⟩) g9 rfl fun b245 H10 g10 => ?_
  refine trHearC (m := ⟨9, 1, 1, 1, 1, 0, 0, []⟩) (k := 3) g10 rfl (by omega) rfl (by decide) (fun n hn => by cases hn) (fun N M H' hot h' => rdNil) fun H11 g11 => ?_
  rw [h0, kn23.1] at g11
  rw [kn23.2]
  (try simp only [asI_mk', asB_mk, asP_mk, asA_mk, asM_mk, asSl_mk, asStr_mk, tup2_mk, tup3_mk, agg1_mk, agg2_mk, agg3_mk, agg4_mk, asAggm, unCons_mk, unNil_mk, asTup_mk, extractD0, extractD1, List.toList_toArray, nilP_mk, add_mk, Nat.zero_add, Nat.add_zero, condT, condF, Bool.not_true, Bool.not_false, Option.isNone_some, Option.isNone_none])
  refine trStateC g11 (k := 3) rfl ?_
  (try simp only [asI_mk', asB_mk, asP_mk, asA_mk, asM_mk, asSl_mk, asStr_mk, tup2_mk, tup3_mk, agg1_mk, agg2_mk, agg3_mk, agg4_mk, asAggm, unCons_mk, unNil_mk, asTup_mk, extractD0, extractD1, List.toList_toArray, nilP_mk, add_mk, Nat.zero_add, Nat.add_zero, condT, condF, Bool.not_true, Bool.not_false, Option.isNone_some, Option.isNone_none])
  refine trHearC (m := ⟨9, 1, 1, 1, 2, 2, 3, []⟩) (k := 3) g11 rfl (by omega) rfl (by decide) (fun n hn => by cases hn) (fun N M H' hot h' => rdNil) fun H12 g12 => ?_
  rw [h0, kn34.1] at g12
  rw [kn34.2]
  (try simp only [asI_mk', asB_mk, asP_mk, asA_mk, asM_mk, asSl_mk, asStr_mk, tup2_mk, tup3_mk, agg1_mk, agg2_mk, agg3_mk, agg4_mk, asAggm, unCons_mk, unNil_mk, asTup_mk, extractD0, extractD1, List.toList_toArray, nilP_mk, add_mk, Nat.zero_add, Nat.add_zero, condT, condF, Bool.not_true, Bool.not_false, Option.isNone_some, Option.isNone_none])
  refine trCountC g12 (k := 3) rfl ?_
  have g : St H0 (Prt.one b245 (.cells (Qn.cells ⟨8, 1, 1, 1, 1, 1, ⟨1, 4⟩, 0⟩).toArray ty_api_Msg (0, 0)) :: Prt.one b173 (.cells #[.int .u64 4] ty_uint64 (0, 0)) :: Prt.one b152 (.cells (Qn.cells ⟨8, 1, 1, 1, 2, 0, ⟨2, 7⟩, 0⟩).toArray ty_api_Msg (0, 0)) :: TrP tb c kn4 :: L) H12 := g12
  (try simp only [asI_mk', asB_mk, asP_mk, asA_mk, asM_mk, asSl_mk, asStr_mk, tup2_mk, tup3_mk, agg1_mk, agg2_mk, agg3_mk, agg4_mk, asAggm, unCons_mk, unNil_mk, asTup_mk, extractD0, extractD1, List.toList_toArray, nilP_mk, add_mk, Nat.zero_add, Nat.add_zero, condT, condF, Bool.not_true, Bool.not_false, Option.isNone_some, Option.isNone_none])
  refine ldI_of (g.cell (i := 2) rfl rfl) (bif_eq rfl (ldI_of (g.cell (i := 2) rfl rfl) (bif_eq rfl (ldI_of (g.cell (i := 2) rfl rfl) (bif_eq rfl (ldI_of (g.cell (i := 2) rfl rfl) (bif_eq rfl ?_)))))))
  (try simp only [asI_mk', asB_mk, asP_mk, asA_mk, asM_mk, asSl_mk, asStr_mk, tup2_mk, tup3_mk, agg1_mk, agg2_mk, agg3_mk, agg4_mk, asAggm, unCons_mk, unNil_mk, asTup_mk, extractD0, extractD1, List.toList_toArray, nilP_mk, add_mk, Nat.zero_add, Nat.add_zero, condT, condF, Bool.not_true, Bool.not_false, Option.isNone_some, Option.isNone_none])
  refine ldI_of (g.cell (i := 0) rfl rfl) (bif_eq rfl (ldI_of (g.cell (i := 0) rfl rfl) (ldI_of (g.cell (i := 0) rfl rfl) (idEq ?_))))
  rw [decide_eq_true rfl]
  (try simp only [asI_mk', asB_mk, asP_mk, asA_mk, asM_mk, asSl_mk, asStr_mk, tup2_mk, tup3_mk, agg1_mk, agg2_mk, agg3_mk, agg4_mk, asAggm, unCons_mk, unNil_mk, asTup_mk, extractD0, extractD1, List.toList_toArray, nilP_mk, add_mk, Nat.zero_add, Nat.add_zero, condT, condF, Bool.not_true, Bool.not_false, Option.isNone_some, Option.isNone_none])
  refine ldI_of (g.cell (i := 0) rfl rfl) (bif_eq rfl ?_)
  (try simp only [asI_mk', asB_mk, asP_mk, asA_mk, asM_mk, asSl_mk, asStr_mk, tup2_mk, tup3_mk, agg1_mk, agg2_mk, agg3_mk, agg4_mk, asAggm, unCons_mk, unNil_mk, asTup_mk, extractD0, extractD1, List.toList_toArray, nilP_mk, add_mk, Nat.zero_add, Nat.add_zero, condT, condF, Bool.not_true, Bool.not_false, Option.isNone_some, Option.isNone_none])
  refine bif_eq rfl ?_
  (try simp only [asI_mk', asB_mk, asP_mk, asA_mk, asM_mk, asSl_mk, asStr_mk, tup2_mk, tup3_mk, agg1_mk, agg2_mk, agg3_mk, agg4_mk, asAggm, unCons_mk, unNil_mk, asTup_mk, extractD0, extractD1, List.toList_toArray, nilP_mk, add_mk, Nat.zero_add, Nat.add_zero, condT, condF, Bool.not_true, Bool.not_false, Option.isNone_some, Option.isNone_none])
  refine trStateC g (k := 3) rfl ?_
  (try simp only [asI_mk', asB_mk, asP_mk, asA_mk, asM_mk, asSl_mk, asStr_mk, tup2_mk, tup3_mk, agg1_mk, agg2_mk, agg3_mk, agg4_mk, asAggm, unCons_mk, unNil_mk, asTup_mk, extractD0, extractD1, List.toList_toArray, nilP_mk, add_mk, Nat.zero_add, Nat.add_zero, condT, condF, Bool.not_true, Bool.not_false, Option.isNone_some, Option.isNone_none])
  exact hK H12 (St.lesses (M := [_, _, _, _]) g)
end
end Go.Proofs.Ytknejebggegfjaa
