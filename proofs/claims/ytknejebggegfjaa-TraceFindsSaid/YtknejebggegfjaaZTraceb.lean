/- Merged by merge.py: TrP5, TrC, DenLaw23, TrD, TrW, TrW2, TrW3, DenLaw23WebIns, DenLaw23WebHolders, DenLaw23WebAnswer. No condition. -/
import Derived.Test.YtknejebggegfjaaZTrace
import Derived.Test.YtknejebggegfjaaZPaint
import Derived.Test.YtknejebggegfjaaZHeap
import Derived.Test.YtknejebggegfjaaZNum

namespace Go.Proofs.Ytknejebggegfjaa
set_option linter.unusedSimpArgs false
set_option linter.unusedVariables false
open Go
def Tr.asks (t : Tr) (now : Int) : Bool := !decide (t.st = 0) && pastB t.sent t.wait now
def Tr.beginE (nodes : Int) (t : Tr) (n s : Int) : Int :=
  if t.st ≠ 0 then 10 else if n < 1 then 1 else if n > nodes then 1 else if n = t.node then 1 else if s < 1 then 1 else if s > 72057594037927935 then 1 else if t.num = 72057594037927935 then 7 else 0
def Tr.begun (t : Tr) (n s now : Int) : Tr := { t with num := IntKind.u64.wrap (t.num + 1), st := 1, items := [⟨false, t.node, ⟨n, s⟩, 0⟩], sm := [], opn := 0, todo := [], sent := now, wait := 0 }
def newTr (node last : Int) : Tr := ⟨node, last, 0, 0, [], [], 0, [], 0, 0⟩
theorem newTr_ok {nodes node last : Int} : (newTr node last).ok nodes := ⟨by simp [newTr], by simp [newTr], fun x hx => (by cases hx), List.Pairwise.nil, fun e he => (by cases he), fun h => absurd h (by simp [newTr]), fun h => absurd h (by simp [newTr]), fun h => absurd h (by simp [newTr])⟩
theorem Tr.begun_ok {nodes : Int} {t : Tr} {n s now : Int} (h : 1 ≤ t.node ∧ t.node ≤ nodes) : (t.begun n s now).ok nodes :=
  ⟨by simp [Tr.begun], by simp [Tr.begun], fun x hx => (by simp [Tr.begun] at hx; rw [hx]; exact h), List.Pairwise.nil, fun e he => (by cases he), fun _ => ⟨by simp [Tr.begun], by simp [Tr.begun], rfl⟩, fun h => absurd h (by simp [Tr.begun]), fun h => absurd h (by simp [Tr.begun])⟩

section
variable {H0 H : Hp} {L M N : List Prt} {i k tb : Nat} {c : Cf} {t : Tr} {m : Ms} {K : Value → Hp → Prop}
theorem St.midin {A : Prt} (h : St H0 (A :: (N ++ M)) H) : St H0 (N ++ (A :: M)) H := h.perm List.perm_middle.symm
theorem St.midless {A : Prt} (h : St H0 (N ++ (A :: M)) H) : St H0 (N ++ M) H := (h.perm List.perm_middle).less
theorem St.oneRow {b q n : Nat} {c : Array Value} {e : TypeId} (h : St H0 L H) (hi : L[i]? = some (Prt.one b (.cells c e (0, 0)))) (hs : c.size = n * q) : St H0 (L.set i (Prt.row q (some ⟨b, 0, none⟩) n n c.toList)) H := by
  obtain ⟨Fi, ha, up⟩ := h.at hi
  have ho : Own H q (some ⟨b, 0, none⟩) n n c.toList := ⟨by simpa using hs, Nat.le_refl _, rfl, c, e, ha.1, by simp only [hs]; omega, fun i hi => by simp⟩
  have e : Fi = blk (some ⟨b, 0, none⟩) := funext fun c => propext ((ha.2 c).trans ⟨fun h => blk_some.2 h.symm, fun h => (blk_some.1 h).symm⟩)
  refine up _ (blk (some ⟨b, 0, none⟩)) H (Prt.row_holds ho) ?_
  rw [e]
  exact Goes.refl _ _

theorem trStateC (h : St H0 L H) (hk : L[k]? = some (TrP tb c t)) (hK : K (.int .i64 t.st) H) : hcall PR f_trace_Trace_State ⟨[.pointer (some ⟨tb, 0, none⟩)]⟩ H K := by
  apply den_trace_Trace_State
  unfold B_trace_Trace_State
  obtain ⟨x, M, g, ho, hot, shut⟩ := trTake h hk
  exact ldI_of (g.cell (i := 0) rfl rfl) hK
theorem trCountC (h : St H0 L H) (hk : L[k]? = some (TrP tb c t)) (hK : K (.tuple #[.int .u64 t.num, .int .i64 t.found]) H) : hcall PR f_trace_Trace_Count ⟨[.pointer (some ⟨tb, 0, none⟩)]⟩ H K := by
  apply den_trace_Trace_Count
  unfold B_trace_Trace_Count
  obtain ⟨x, M, g, ho, hot, shut⟩ := trTake h hk
  exact ldI_of (g.cell (i := 0) rfl rfl) (ldI_of (g.cell (i := 0) rfl rfl) hK)
theorem trStepC {now : Int} (h : St H0 L H) (hk : L[k]? = some (TrP tb c t))
    (hN : t.asks now = false → ∀ H', St H0 L H' → K (.tuple #[.agg #[.int .i64 0, .int .i64 0, .int .i64 0, .int .u64 0, .int .u64 0, .int .i64 0, .int .i64 0, .int .i64 0, .int .i64 0, .int .u64 0, .slice none 0 0, .int .u64 0, .int .i64 0, .int .u64 0, .int .i64 0, .int .u64 0, .int .i64 0, .int .u64 0, .slice none 0 0], .bool false]) H')
    (hK : t.asks now = true → ∀ H', St H0 (L.set k (TrP tb c (t.told c.a14 c.a15 now))) H' → K (.tuple #[t.q.val, .bool true]) H') :
    hcall PR f_trace_Trace_Step ⟨[.pointer (some ⟨tb, 0, none⟩), .int .u64 now]⟩ H K := by
  apply den_trace_Trace_Step
  unfold B_trace_Trace_Step
  obtain ⟨x, M, g, ho, hot, shut⟩ := trTake h hk
  intro b3 hb3
  have g1 := g.alloc (o := .cells #[.int .i64 0, .int .i64 0, .int .i64 0, .int .u64 0, .int .u64 0, .int .i64 0, .int .i64 0, .int .i64 0, .int .i64 0, .int .u64 0, .slice none 0 0, .int .u64 0, .int .i64 0, .int .u64 0, .int .i64 0, .int .u64 0, .int .i64 0, .int .u64 0, .slice none 0 0] ty_api_Msg) hb3
  have no : t.asks now = false → ∀ H2, St H0 (Prt.one b3 (.cells #[.int .i64 0, .int .i64 0, .int .i64 0, .int .u64 0, .int .u64 0, .int .i64 0, .int .i64 0, .int .i64 0, .int .i64 0, .int .u64 0, .slice none 0 0, .int .u64 0, .int .i64 0, .int .u64 0, .int .i64 0, .int .u64 0, .int .i64 0, .int .u64 0, .slice none 0 0] ty_api_Msg (0, 0)) :: (trRaw tb c t x (smV t x) (smP t x) True ++ M)) H2 → K (.tuple #[.agg #[.int .i64 0, .int .i64 0, .int .i64 0, .int .u64 0, .int .u64 0, .int .i64 0, .int .i64 0, .int .i64 0, .int .i64 0, .int .u64 0, .slice none 0 0, .int .u64 0, .int .i64 0, .int .u64 0, .int .i64 0, .int .u64 0, .int .i64 0, .int .u64 0, .slice none 0 0], .bool false]) H2 := fun hf H2 g2 => by
    refine hN hf H2 ?_
    have := shut [] t x H2 ho g2.less
    rw [List.set_self hk] at this
    exact this
  (try simp only [asI_mk', asB_mk, asP_mk, asA_mk, asM_mk, asSl_mk, asStr_mk, tup2_mk, tup3_mk, agg1_mk, agg2_mk, agg3_mk, agg4_mk, asAggm, unCons_mk, unNil_mk, asTup_mk, extractD0, extractD1, List.toList_toArray, nilP_mk, add_mk, Nat.zero_add, Nat.add_zero, condT, condF, Bool.not_true, Bool.not_false, Option.isNone_some, Option.isNone_none])
  refine ldI_of (g1.cell (i := 1) rfl rfl) ?_
  by_cases h0 : t.st = 0
  · refine bif_eq h0 ?_
    refine St.sets (i := 0) (o := 0) (vs := [.int .i64 0, .int .i64 0, .int .i64 0, .int .u64 0, .int .u64 0, .int .i64 0, .int .i64 0, .int .i64 0, .int .i64 0, .int .u64 0, .slice none 0 0, .int .u64 0, .int .i64 0, .int .u64 0, .int .i64 0, .int .u64 0, .int .i64 0, .int .u64 0, .slice none 0 0]) g1 rfl (by simp) fun H2 g2 => ?_
    rw [setsA_all (by rfl)] at g2
    have g2 : St H0 (Prt.one b3 (.cells #[.int .i64 0, .int .i64 0, .int .i64 0, .int .u64 0, .int .u64 0, .int .i64 0, .int .i64 0, .int .i64 0, .int .i64 0, .int .u64 0, .slice none 0 0, .int .u64 0, .int .i64 0, .int .u64 0, .int .i64 0, .int .u64 0, .int .i64 0, .int .u64 0, .slice none 0 0] ty_api_Msg (0, 0)) :: (trRaw tb c t x (smV t x) (smP t x) True ++ M)) H2 := g2
    refine ldI_of (g2.cell (i := 0) rfl rfl) (ldI_of (g2.cell (i := 0) rfl rfl) (ldI_of (g2.cell (i := 0) rfl rfl) (ldI_of (g2.cell (i := 0) rfl rfl) (ldI_of (g2.cell (i := 0) rfl rfl) (ldI_of (g2.cell (i := 0) rfl rfl) (ldI_of (g2.cell (i := 0) rfl rfl) (ldI_of (g2.cell (i := 0) rfl rfl) (ldI_of (g2.cell (i := 0) rfl rfl) (ldI_of (g2.cell (i := 0) rfl rfl) (ldSl_of (g2.cell (i := 0) rfl rfl) (ldI_of (g2.cell (i := 0) rfl rfl) (ldI_of (g2.cell (i := 0) rfl rfl) (ldI_of (g2.cell (i := 0) rfl rfl) (ldI_of (g2.cell (i := 0) rfl rfl) (ldI_of (g2.cell (i := 0) rfl rfl) (ldI_of (g2.cell (i := 0) rfl rfl) (ldI_of (g2.cell (i := 0) rfl rfl) (ldSl_of (g2.cell (i := 0) rfl rfl) (?_)))))))))))))))))))
    exact no (by unfold Tr.asks; rw [decide_eq_true h0]; rfl) H2 g2
  refine bif_ne h0 (ldI_of (g1.cell (i := 1) rfl rfl) (ldI_of (g1.cell (i := 1) rfl rfl) (pastC ?_)))
  (try simp only [asI_mk', asB_mk, asP_mk, asA_mk, asM_mk, asSl_mk, asStr_mk, tup2_mk, tup3_mk, agg1_mk, agg2_mk, agg3_mk, agg4_mk, asAggm, unCons_mk, unNil_mk, asTup_mk, extractD0, extractD1, List.toList_toArray, nilP_mk, add_mk, Nat.zero_add, Nat.add_zero, condT, condF, Bool.not_true, Bool.not_false, Option.isNone_some, Option.isNone_none])
  have hask : t.asks now = pastB t.sent t.wait now := by unfold Tr.asks; rw [decide_eq_false h0]; rfl
  cases hp : pastB t.sent t.wait now
  · simp only [Bool.not_false, condT]
    refine St.sets (i := 0) (o := 0) (vs := [.int .i64 0, .int .i64 0, .int .i64 0, .int .u64 0, .int .u64 0, .int .i64 0, .int .i64 0, .int .i64 0, .int .i64 0, .int .u64 0, .slice none 0 0, .int .u64 0, .int .i64 0, .int .u64 0, .int .i64 0, .int .u64 0, .int .i64 0, .int .u64 0, .slice none 0 0]) g1 rfl (by simp) fun H2 g2 => ?_
    rw [setsA_all (by rfl)] at g2
    have g2 : St H0 (Prt.one b3 (.cells #[.int .i64 0, .int .i64 0, .int .i64 0, .int .u64 0, .int .u64 0, .int .i64 0, .int .i64 0, .int .i64 0, .int .i64 0, .int .u64 0, .slice none 0 0, .int .u64 0, .int .i64 0, .int .u64 0, .int .i64 0, .int .u64 0, .int .i64 0, .int .u64 0, .slice none 0 0] ty_api_Msg (0, 0)) :: (trRaw tb c t x (smV t x) (smP t x) True ++ M)) H2 := g2
    refine ldI_of (g2.cell (i := 0) rfl rfl) (ldI_of (g2.cell (i := 0) rfl rfl) (ldI_of (g2.cell (i := 0) rfl rfl) (ldI_of (g2.cell (i := 0) rfl rfl) (ldI_of (g2.cell (i := 0) rfl rfl) (ldI_of (g2.cell (i := 0) rfl rfl) (ldI_of (g2.cell (i := 0) rfl rfl) (ldI_of (g2.cell (i := 0) rfl rfl) (ldI_of (g2.cell (i := 0) rfl rfl) (ldI_of (g2.cell (i := 0) rfl rfl) (ldSl_of (g2.cell (i := 0) rfl rfl) (ldI_of (g2.cell (i := 0) rfl rfl) (ldI_of (g2.cell (i := 0) rfl rfl) (ldI_of (g2.cell (i := 0) rfl rfl) (ldI_of (g2.cell (i := 0) rfl rfl) (ldI_of (g2.cell (i := 0) rfl rfl) (ldI_of (g2.cell (i := 0) rfl rfl) (ldI_of (g2.cell (i := 0) rfl rfl) (ldSl_of (g2.cell (i := 0) rfl rfl) (?_)))))))))))))))))))
    exact no (by rw [hask, hp]) H2 g2
  simp only [Bool.not_true, condF]
  refine g1.put (i := 1) rfl (show 30 < 32 by decide) fun H2 g2 => ?_
  have g2 : St H0 (Prt.one b3 (.cells #[.int .i64 0, .int .i64 0, .int .i64 0, .int .u64 0, .int .u64 0, .int .i64 0, .int .i64 0, .int .i64 0, .int .i64 0, .int .u64 0, .slice none 0 0, .int .u64 0, .int .i64 0, .int .u64 0, .int .i64 0, .int .u64 0, .int .i64 0, .int .u64 0, .slice none 0 0] ty_api_Msg (0, 0)) :: (trRaw tb c { t with sent := now } x (smV t x) (smP t x) True ++ M)) H2 := g2
  refine ldI_of (g2.cell (i := 1) rfl rfl) (ldI_of (g2.cell (i := 1) rfl rfl) (ldI_of (g2.cell (i := 1) rfl rfl) (lWaitC ?_)))
  (try simp only [asI_mk', asB_mk, asP_mk, asA_mk, asM_mk, asSl_mk, asStr_mk, tup2_mk, tup3_mk, agg1_mk, agg2_mk, agg3_mk, agg4_mk, asAggm, unCons_mk, unNil_mk, asTup_mk, extractD0, extractD1, List.toList_toArray, nilP_mk, add_mk, Nat.zero_add, Nat.add_zero, condT, condF, Bool.not_true, Bool.not_false, Option.isNone_some, Option.isNone_none])
  refine g2.put (i := 1) rfl (show 31 < 32 by decide) fun H3 g3 => ?_
  have g3 : St H0 (Prt.one b3 (.cells #[.int .i64 0, .int .i64 0, .int .i64 0, .int .u64 0, .int .u64 0, .int .i64 0, .int .i64 0, .int .i64 0, .int .i64 0, .int .u64 0, .slice none 0 0, .int .u64 0, .int .i64 0, .int .u64 0, .int .i64 0, .int .u64 0, .int .i64 0, .int .u64 0, .slice none 0 0] ty_api_Msg (0, 0)) :: (trRaw tb c (t.told c.a14 c.a15 now) x (smV t x) (smP t x) True ++ M)) H3 := g3
  refine trQuestionC (t := t.told c.a14 c.a15 now) (M := Prt.one b3 (.cells #[.int .i64 0, .int .i64 0, .int .i64 0, .int .u64 0, .int .u64 0, .int .i64 0, .int .i64 0, .int .i64 0, .int .i64 0, .int .u64 0, .slice none 0 0, .int .u64 0, .int .i64 0, .int .u64 0, .int .i64 0, .int .u64 0, .int .i64 0, .int .u64 0, .slice none 0 0] ty_api_Msg (0, 0)) :: M) g3.midin ho.told h0 (smV_on h0) (smP_on h0) fun H4 g4 => ?_
  (try simp only [asI_mk', asB_mk, asP_mk, asA_mk, asM_mk, asSl_mk, asStr_mk, tup2_mk, tup3_mk, agg1_mk, agg2_mk, agg3_mk, agg4_mk, asAggm, unCons_mk, unNil_mk, asTup_mk, extractD0, extractD1, List.toList_toArray, nilP_mk, add_mk, Nat.zero_add, Nat.add_zero, condT, condF, Bool.not_true, Bool.not_false, Option.isNone_some, Option.isNone_none])
  have hq : (t.told c.a14 c.a15 now).q = t.q := rfl
  rw [hq]
  refine St.sets (i := 5) (o := 0) (vs := t.q.cells) g4 rfl (by simp [Qn.cells]) fun H5 g5 => ?_
  rw [setsA_all (by rfl)] at g5
  have g5 : St H0 (trRaw tb c (t.told c.a14 c.a15 now) x (smV t x) (smP t x) True ++ (Prt.one b3 (.cells t.q.cells.toArray ty_api_Msg (0, 0)) :: M)) H5 := g5
  refine ldI_of (g5.cell (i := 5) rfl rfl) (ldI_of (g5.cell (i := 5) rfl rfl) (ldI_of (g5.cell (i := 5) rfl rfl) (ldI_of (g5.cell (i := 5) rfl rfl) (ldI_of (g5.cell (i := 5) rfl rfl) (ldI_of (g5.cell (i := 5) rfl rfl) (ldI_of (g5.cell (i := 5) rfl rfl) (ldI_of (g5.cell (i := 5) rfl rfl) (ldI_of (g5.cell (i := 5) rfl rfl) (ldI_of (g5.cell (i := 5) rfl rfl) (ldSl_of (g5.cell (i := 5) rfl rfl) (ldI_of (g5.cell (i := 5) rfl rfl) (ldI_of (g5.cell (i := 5) rfl rfl) (ldI_of (g5.cell (i := 5) rfl rfl) (ldI_of (g5.cell (i := 5) rfl rfl) (ldI_of (g5.cell (i := 5) rfl rfl) (ldI_of (g5.cell (i := 5) rfl rfl) (ldI_of (g5.cell (i := 5) rfl rfl) (ldSl_of (g5.cell (i := 5) rfl rfl) (?_)))))))))))))))))))
  exact hK (by rw [hask, hp]) H5 (shut [] (t.told c.a14 c.a15 now) x H5 ho.told g5.midless)

theorem trHearG {f4 f5 f6 f8 f9 f11 f13 f14 f15 f16 : Int} {rp lp : Option Addr} {rl rc ll lc : Nat} (h : St H0 L H) (hk : L[k]? = some (TrP tb c t)) (hn : 1 ≤ c.a0 ∧ c.a0 ≤ 12)
    (hgd : t.heeds m = true → t.st = 1 → ll = m.list.length ∧ ll ≤ 4611686018427387903 ∧ (∀ n ∈ m.list, 0 ≤ n ∧ n < 18446744073709551616) ∧ ∀ N M H', (∀ i A, L[i]? = some A → i ≠ k → M[i]? = some A) → St H0 (N ++ M) H' → Rd H' 1 lp ll (m.list.map (Value.int .u64)))
    (hK : ∀ H', St H0 (L.set k (TrP tb c (t.hear c.a0 m))) H' → K (.bool (t.heeds m)) H') :
    hcall PR f_trace_Trace_Hear ⟨[.pointer (some ⟨tb, 0, none⟩), .agg #[.int .i64 m.kind, .int .i64 m.frm, .int .i64 m.to, .int .u64 m.call, .int .u64 f4, .int .i64 f5, .int .i64 f6, .int .i64 m.item, .int .i64 f8, .int .u64 f9, .slice rp rl rc, .int .u64 f11, .int .i64 m.code, .int .u64 f13, .int .i64 f14, .int .u64 f15, .int .i64 f16, .int .u64 m.stamp, .slice lp ll lc]]⟩ H K := by
  apply den_trace_Trace_Hear
  unfold B_trace_Trace_Hear
  obtain ⟨x, M, g, ho, hot, shut⟩ := trTake h hk
  intro b25 hb25
  have g1 := g.alloc (o := .cells #[.int .i64 m.kind, .int .i64 m.frm, .int .i64 m.to, .int .u64 m.call, .int .u64 f4, .int .i64 f5, .int .i64 f6, .int .i64 m.item, .int .i64 f8, .int .u64 f9, .slice rp rl rc, .int .u64 f11, .int .i64 m.code, .int .u64 f13, .int .i64 f14, .int .u64 f15, .int .i64 f16, .int .u64 m.stamp, .slice lp ll lc] ty_api_Msg) hb25
  have g1 : St H0 (trRaw tb c t x (smV t x) (smP t x) True ++ (Prt.one b25 (.cells #[.int .i64 m.kind, .int .i64 m.frm, .int .i64 m.to, .int .u64 m.call, .int .u64 f4, .int .i64 f5, .int .i64 f6, .int .i64 m.item, .int .i64 f8, .int .u64 f9, .slice rp rl rc, .int .u64 f11, .int .i64 m.code, .int .u64 f13, .int .i64 f14, .int .u64 f15, .int .i64 f16, .int .u64 m.stamp, .slice lp ll lc] ty_api_Msg (0, 0)) :: M)) _ := g1.midin
  have no : t.heeds m = false → ∀ H2, St H0 (trRaw tb c t x (smV t x) (smP t x) True ++ (Prt.one b25 (.cells #[.int .i64 m.kind, .int .i64 m.frm, .int .i64 m.to, .int .u64 m.call, .int .u64 f4, .int .i64 f5, .int .i64 f6, .int .i64 m.item, .int .i64 f8, .int .u64 f9, .slice rp rl rc, .int .u64 f11, .int .i64 m.code, .int .u64 f13, .int .i64 f14, .int .u64 f15, .int .i64 f16, .int .u64 m.stamp, .slice lp ll lc] ty_api_Msg (0, 0)) :: M)) H2 → K (.bool false) H2 := fun hf H2 g2 => by
    have e : t.hear c.a0 m = t := by unfold Tr.hear; rw [if_pos hf]
    rw [e, hf] at hK
    exact hK H2 (shut [] t x H2 ho g2.midless)
  (try simp only [asI_mk', asB_mk, asP_mk, asA_mk, asM_mk, asSl_mk, asStr_mk, tup2_mk, tup3_mk, agg1_mk, agg2_mk, agg3_mk, agg4_mk, asAggm, unCons_mk, unNil_mk, asTup_mk, extractD0, extractD1, List.toList_toArray, nilP_mk, add_mk, Nat.zero_add, Nat.add_zero, condT, condF, Bool.not_true, Bool.not_false, Option.isNone_some, Option.isNone_none])
  refine ldI_of (g1.cell (i := 0) rfl rfl) ?_
  by_cases h0 : t.st = 0
  · exact bif_eq h0 (no (by unfold Tr.heeds; rw [decide_eq_true h0]; rfl) _ g1)
  refine bif_ne h0 (trQuestionC g1 ho h0 (smV_on h0) (smP_on h0) fun H2 g2 => ?_)
  (try simp only [asI_mk', asB_mk, asP_mk, asA_mk, asM_mk, asSl_mk, asStr_mk, tup2_mk, tup3_mk, agg1_mk, agg2_mk, agg3_mk, agg4_mk, asAggm, unCons_mk, unNil_mk, asTup_mk, extractD0, extractD1, List.toList_toArray, nilP_mk, add_mk, Nat.zero_add, Nat.add_zero, condT, condF, Bool.not_true, Bool.not_false, Option.isNone_some, Option.isNone_none])
  have he : t.heeds m = (decide (m.kind = if t.st = 3 then 11 else 9) && (decide (m.call = t.q.call) && (decide (m.item = t.q.item) && (decide (m.frm = t.q.to) && decide (m.to = t.node))))) := by unfold Tr.heeds; rw [decide_eq_false h0]; rfl
  clear g1
  intro b93 hb93
  have g3 := g2.alloc (o := .cells #[.int .i64 0, .int .i64 0, .int .i64 0, .int .u64 0, .int .u64 0, .int .i64 0, .int .i64 0, .int .i64 0, .int .i64 0, .int .u64 0, .slice none 0 0, .int .u64 0, .int .i64 0, .int .u64 0, .int .i64 0, .int .u64 0, .int .i64 0, .int .u64 0, .slice none 0 0] ty_api_Msg) hb93
  refine St.sets (i := 0) (o := 0) (vs := t.q.cells) g3 rfl (by simp [Qn.cells]) fun H4 g4 => ?_
  rw [setsA_all (by rfl)] at g4
  have g4 : St H0 (Prt.one b93 (.cells t.q.cells.toArray ty_api_Msg (0, 0)) :: (trRaw tb c t x (smV t x) (smP t x) True ++ (Prt.one b25 (.cells #[.int .i64 m.kind, .int .i64 m.frm, .int .i64 m.to, .int .u64 m.call, .int .u64 f4, .int .i64 f5, .int .i64 f6, .int .i64 m.item, .int .i64 f8, .int .u64 f9, .slice rp rl rc, .int .u64 f11, .int .i64 m.code, .int .u64 f13, .int .i64 f14, .int .u64 f15, .int .i64 f16, .int .u64 m.stamp, .slice lp ll lc] ty_api_Msg (0, 0)) :: M))) H4 := g4
  clear g3 g2
  intro R114 hR114
  have hR114 : R114 (if t.st = 3 then 11 else 9) H4 := by
    refine hR114 _ H4 ?_
    refine ldI_of (g4.cell (i := 6) rfl rfl) ?_
    by_cases q1 : m.kind = if t.st = 3 then 11 else 9
    rotate_left
    · exact bif_neq q1 (no (by rw [he, decide_eq_false q1]; rfl) _ g4.less)
    rw [decide_eq_true q1, Bool.true_and] at he
    refine bif_neqf q1 (ldI_of (g4.cell (i := 6) rfl rfl) (ldI_of (g4.cell (i := 0) rfl rfl) ?_))
    by_cases q2 : m.call = t.q.call
    rotate_left
    · exact bif_neq q2 (no (by rw [he, decide_eq_false q2]; rfl) _ g4.less)
    rw [decide_eq_true q2, Bool.true_and] at he
    refine bif_neqf q2 (ldI_of (g4.cell (i := 6) rfl rfl) (ldI_of (g4.cell (i := 0) rfl rfl) ?_))
    by_cases q3 : m.item = t.q.item
    rotate_left
    · exact bif_neq q3 (no (by rw [he, decide_eq_false q3]; rfl) _ g4.less)
    rw [decide_eq_true q3, Bool.true_and] at he
    refine bif_neqf q3 (ldI_of (g4.cell (i := 6) rfl rfl) (ldI_of (g4.cell (i := 0) rfl rfl) ?_))
    by_cases q4 : m.frm = t.q.to
    rotate_left
    · exact bif_neq q4 (no (by rw [he, decide_eq_false q4]; rfl) _ g4.less)
    rw [decide_eq_true q4, Bool.true_and] at he
    refine bif_neqf q4 (ldI_of (g4.cell (i := 6) rfl rfl) (ldI_of (g4.cell (i := 1) rfl rfl) ?_))
    by_cases q5 : m.to = t.node
    rotate_left
    · exact bif_neq q5 (no (by rw [he, decide_eq_false q5]) _ g4.less)
    rw [decide_eq_true q5] at he
    refine bif_neqf q5 (ldI_of (g4.cell (i := 1) rfl rfl) ?_)
    have hh : t.hear c.a0 m = if t.st = 1 then t.asked c.a0 m.code m.stamp m.list else if t.st = 2 then t.checked m.stamp else t.buried := by unfold Tr.hear; rw [if_neg (by rw [he]; decide)]
    rw [he] at hK
    have g4 : St H0 (Prt.one b93 (.cells t.q.cells.toArray ty_api_Msg (0, 0)) :: (trRaw tb c t x (.map (some x.mb)) (Prt.mp x.mb (ments (Value.int .i64) (Value.int .u64) t.sm)) True ++ (Prt.one b25 (.cells #[.int .i64 m.kind, .int .i64 m.frm, .int .i64 m.to, .int .u64 m.call, .int .u64 f4, .int .i64 f5, .int .i64 f6, .int .i64 m.item, .int .i64 f8, .int .u64 f9, .slice rp rl rc, .int .u64 f11, .int .i64 m.code, .int .u64 f13, .int .i64 f14, .int .u64 f15, .int .i64 f16, .int .u64 m.stamp, .slice lp ll lc] ty_api_Msg (0, 0)) :: M))) H4 := by
      rw [smV_on h0, smP_on h0] at g4
      exact g4
    by_cases s1 : t.st = 1
    · rw [if_pos s1] at hh
      obtain ⟨hll, hlb, hm0, hrd⟩ := hgd he s1
      have hrd := fun N H' h' => hrd N M H' hot h'
      refine bif_eq s1 ?_
      refine ldI_of (g4.cell (i := 6) rfl rfl) (ldI_of (g4.cell (i := 6) rfl rfl) (ldI_of (g4.cell (i := 6) rfl rfl) (ldI_of (g4.cell (i := 6) rfl rfl) (ldI_of (g4.cell (i := 6) rfl rfl) (ldI_of (g4.cell (i := 6) rfl rfl) (ldI_of (g4.cell (i := 6) rfl rfl) (ldI_of (g4.cell (i := 6) rfl rfl) (ldI_of (g4.cell (i := 6) rfl rfl) (ldI_of (g4.cell (i := 6) rfl rfl) (ldSl_of (g4.cell (i := 6) rfl rfl) (ldI_of (g4.cell (i := 6) rfl rfl) (ldI_of (g4.cell (i := 6) rfl rfl) (ldI_of (g4.cell (i := 6) rfl rfl) (ldI_of (g4.cell (i := 6) rfl rfl) (ldI_of (g4.cell (i := 6) rfl rfl) (ldI_of (g4.cell (i := 6) rfl rfl) (ldI_of (g4.cell (i := 6) rfl rfl) (ldSl_of (g4.cell (i := 6) rfl rfl) (?_)))))))))))))))))))
      refine trAskedC (M := Prt.one b25 (.cells #[.int .i64 m.kind, .int .i64 m.frm, .int .i64 m.to, .int .u64 m.call, .int .u64 f4, .int .i64 f5, .int .i64 f6, .int .i64 m.item, .int .i64 f8, .int .u64 f9, .slice rp rl rc, .int .u64 f11, .int .i64 m.code, .int .u64 f13, .int .i64 f14, .int .u64 f15, .int .i64 f16, .int .u64 m.stamp, .slice lp ll lc] ty_api_Msg (0, 0)) :: M) hn ho s1 hll hlb hm0 g4.less (fun N H' h' => hrd (N ++ [_]) H' (by rw [List.append_assoc]; exact h')) fun x' H5 g5 => ?_
      (try simp only [asI_mk', asB_mk, asP_mk, asA_mk, asM_mk, asSl_mk, asStr_mk, tup2_mk, tup3_mk, agg1_mk, agg2_mk, agg3_mk, agg4_mk, asAggm, unCons_mk, unNil_mk, asTup_mk, extractD0, extractD1, List.toList_toArray, nilP_mk, add_mk, Nat.zero_add, Nat.add_zero, condT, condF, Bool.not_true, Bool.not_false, Option.isNone_some, Option.isNone_none])
      refine hK H5 ?_
      rw [hh]
      exact shut [] _ x' H5 (ho.asked hn s1) g5.midless
    refine bif_ne s1 ?_
    rw [if_neg s1] at hh
    by_cases s2 : t.st = 2
    · rw [if_pos s2] at hh
      refine bif_eq s2 ?_
      refine ldI_of (g4.cell (i := 6) rfl rfl) (ldI_of (g4.cell (i := 6) rfl rfl) (ldI_of (g4.cell (i := 6) rfl rfl) (ldI_of (g4.cell (i := 6) rfl rfl) (ldI_of (g4.cell (i := 6) rfl rfl) (ldI_of (g4.cell (i := 6) rfl rfl) (ldI_of (g4.cell (i := 6) rfl rfl) (ldI_of (g4.cell (i := 6) rfl rfl) (ldI_of (g4.cell (i := 6) rfl rfl) (ldI_of (g4.cell (i := 6) rfl rfl) (ldSl_of (g4.cell (i := 6) rfl rfl) (ldI_of (g4.cell (i := 6) rfl rfl) (ldI_of (g4.cell (i := 6) rfl rfl) (ldI_of (g4.cell (i := 6) rfl rfl) (ldI_of (g4.cell (i := 6) rfl rfl) (ldI_of (g4.cell (i := 6) rfl rfl) (ldI_of (g4.cell (i := 6) rfl rfl) (ldI_of (g4.cell (i := 6) rfl rfl) (ldSl_of (g4.cell (i := 6) rfl rfl) (?_)))))))))))))))))))
      refine trCheckedC (M := Prt.one b25 (.cells #[.int .i64 m.kind, .int .i64 m.frm, .int .i64 m.to, .int .u64 m.call, .int .u64 f4, .int .i64 f5, .int .i64 f6, .int .i64 m.item, .int .i64 f8, .int .u64 f9, .slice rp rl rc, .int .u64 f11, .int .i64 m.code, .int .u64 f13, .int .i64 f14, .int .u64 f15, .int .i64 f16, .int .u64 m.stamp, .slice lp ll lc] ty_api_Msg (0, 0)) :: M) ho s2 g4.less fun x' H5 g5 => ?_
      (try simp only [asI_mk', asB_mk, asP_mk, asA_mk, asM_mk, asSl_mk, asStr_mk, tup2_mk, tup3_mk, agg1_mk, agg2_mk, agg3_mk, agg4_mk, asAggm, unCons_mk, unNil_mk, asTup_mk, extractD0, extractD1, List.toList_toArray, nilP_mk, add_mk, Nat.zero_add, Nat.add_zero, condT, condF, Bool.not_true, Bool.not_false, Option.isNone_some, Option.isNone_none])
      refine hK H5 ?_
      rw [hh]
      exact shut [] _ x' H5 (ho.checked s2) g5.midless
    rw [if_neg s2] at hh
    have hst := ho.st
    have s3 : t.st = 3 := by omega
    refine bif_ne s2 (bif_eq s3 ?_)
    refine trBuriedC (M := Prt.one b25 (.cells #[.int .i64 m.kind, .int .i64 m.frm, .int .i64 m.to, .int .u64 m.call, .int .u64 f4, .int .i64 f5, .int .i64 f6, .int .i64 m.item, .int .i64 f8, .int .u64 f9, .slice rp rl rc, .int .u64 f11, .int .i64 m.code, .int .u64 f13, .int .i64 f14, .int .u64 f15, .int .i64 f16, .int .u64 m.stamp, .slice lp ll lc] ty_api_Msg (0, 0)) :: M) ho s3 g4.less fun x' H5 g5 => ?_
    (try simp only [asI_mk', asB_mk, asP_mk, asA_mk, asM_mk, asSl_mk, asStr_mk, tup2_mk, tup3_mk, agg1_mk, agg2_mk, agg3_mk, agg4_mk, asAggm, unCons_mk, unNil_mk, asTup_mk, extractD0, extractD1, List.toList_toArray, nilP_mk, add_mk, Nat.zero_add, Nat.add_zero, condT, condF, Bool.not_true, Bool.not_false, Option.isNone_some, Option.isNone_none])
    refine hK H5 ?_
    rw [hh]
    exact shut [] _ x' H5 (ho.buried s3) g5.midless
  refine ldI_of (g4.cell (i := 1) rfl rfl) ?_
  by_cases s3 : t.st = 3
  · rw [if_pos s3] at hR114
    exact bif_eq s3 hR114
  · rw [if_neg s3] at hR114
    exact bif_ne s3 hR114

theorem trHearC {f4 f5 f6 f8 f9 f11 f13 f14 f15 f16 : Int} {rp lp : Option Addr} {rl rc ll lc : Nat} (h : St H0 L H) (hk : L[k]? = some (TrP tb c t)) (hn : 1 ≤ c.a0 ∧ c.a0 ≤ 12) (hll : ll = m.list.length) (hlb : ll ≤ 4611686018427387903) (hm0 : ∀ n ∈ m.list, 0 ≤ n ∧ n < 18446744073709551616)
    (hrd : ∀ N M H', (∀ i A, L[i]? = some A → i ≠ k → M[i]? = some A) → St H0 (N ++ M) H' → Rd H' 1 lp ll (m.list.map (Value.int .u64)))
    (hK : ∀ H', St H0 (L.set k (TrP tb c (t.hear c.a0 m))) H' → K (.bool (t.heeds m)) H') :
    hcall PR f_trace_Trace_Hear ⟨[.pointer (some ⟨tb, 0, none⟩), .agg #[.int .i64 m.kind, .int .i64 m.frm, .int .i64 m.to, .int .u64 m.call, .int .u64 f4, .int .i64 f5, .int .i64 f6, .int .i64 m.item, .int .i64 f8, .int .u64 f9, .slice rp rl rc, .int .u64 f11, .int .i64 m.code, .int .u64 f13, .int .i64 f14, .int .u64 f15, .int .i64 f16, .int .u64 m.stamp, .slice lp ll lc]]⟩ H K := trHearG h hk hn (fun _ _ => ⟨hll, hlb, hm0, hrd⟩) hK
theorem trBeginC {n s now : Int} (h : St H0 L H) (hk : L[k]? = some (TrP tb c t)) (hnd : 1 ≤ t.node ∧ t.node ≤ c.a0)
    (hN : t.beginE c.a0 n s ≠ 0 → ∀ H', St H0 L H' → K (.int .i64 (t.beginE c.a0 n s)) H')
    (hK : t.beginE c.a0 n s = 0 → ∀ H', St H0 (L.set k (TrP tb c (t.begun n s now))) H' → K (.int .i64 0) H') :
    hcall PR f_trace_Trace_Begin ⟨[.pointer (some ⟨tb, 0, none⟩), .agg #[.int .i64 n, .int .u64 s], .int .u64 now]⟩ H K := by
  apply den_trace_Trace_Begin
  unfold B_trace_Trace_Begin
  obtain ⟨x, M, g, ho, hot, shut⟩ := trTake h hk
  intro b5 hb5
  have g1 := g.alloc (o := .cells #[.int .i64 n, .int .u64 s] ty_api_ID) hb5
  have g1 : St H0 (trRaw tb c t x (smV t x) (smP t x) True ++ (Prt.one b5 (.cells #[.int .i64 n, .int .u64 s] ty_api_ID (0, 0)) :: M)) _ := g1.midin
  have no : ∀ e : Int, t.beginE c.a0 n s = e → e ≠ 0 → K (.int .i64 e) (upd H b5 (.cells #[.int .i64 n, .int .u64 s] ty_api_ID)) := fun e he hne => by
    rw [he] at hN
    refine hN hne _ ?_
    have := shut [] t x _ ho g1.midless
    rw [List.set_self hk] at this
    exact this
  (try simp only [asI_mk', asB_mk, asP_mk, asA_mk, asM_mk, asSl_mk, asStr_mk, tup2_mk, tup3_mk, agg1_mk, agg2_mk, agg3_mk, agg4_mk, asAggm, unCons_mk, unNil_mk, asTup_mk, extractD0, extractD1, List.toList_toArray, nilP_mk, add_mk, Nat.zero_add, Nat.add_zero, condT, condF, Bool.not_true, Bool.not_false, Option.isNone_some, Option.isNone_none])
  have hb : t.beginE c.a0 n s = t.beginE c.a0 n s := rfl
  conv at hb => rhs; unfold Tr.beginE
  refine ldI_of (g1.cell (i := 0) rfl rfl) ?_
  by_cases q1 : t.st ≠ 0
  · rw [if_pos q1] at hb
    exact bif_neq q1 (no 10 hb (by decide))
  rw [if_neg q1] at hb
  have q1' : t.st = 0 := Classical.byContradiction q1
  refine bif_neqf q1' (ldI_of (g1.cell (i := 5) rfl rfl) ?_)
  by_cases q2 : n < 1
  · rw [if_pos q2] at hb
    exact bif_pos q2 (no 1 hb (by decide))
  rw [if_neg q2] at hb
  refine bif_neg q2 (ldI_of (g1.cell (i := 5) rfl rfl) (ldI_of (g1.cell (i := 0) rfl rfl) ?_))
  by_cases q3 : n > c.a0
  · rw [if_pos q3] at hb
    exact bif_pos q3 (no 1 hb (by decide))
  rw [if_neg q3] at hb
  refine bif_neg q3 (ldI_of (g1.cell (i := 5) rfl rfl) (ldI_of (g1.cell (i := 0) rfl rfl) ?_))
  by_cases q4 : n = t.node
  · rw [if_pos q4] at hb
    exact bif_eq q4 (no 1 hb (by decide))
  rw [if_neg q4] at hb
  refine bif_ne q4 (ldI_of (g1.cell (i := 5) rfl rfl) ?_)
  by_cases q5 : s < 1
  · rw [if_pos q5] at hb
    exact bif_pos q5 (no 1 hb (by decide))
  rw [if_neg q5] at hb
  refine bif_neg q5 (ldI_of (g1.cell (i := 5) rfl rfl) ?_)
  by_cases q6 : s > 72057594037927935
  · rw [if_pos q6] at hb
    exact bif_pos q6 (no 1 hb (by decide))
  rw [if_neg q6] at hb
  refine bif_neg q6 (ldI_of (g1.cell (i := 0) rfl rfl) ?_)
  by_cases q7 : t.num = 72057594037927935
  · rw [if_pos q7] at hb
    exact bif_eq q7 (no 7 hb (by decide))
  rw [if_neg q7] at hb
  have hK := hK hb
  clear no hN hb
  refine bif_ne q7 (ldI_of (g1.cell (i := 0) rfl rfl) ?_)
  refine g1.put (i := 0) rfl (show 23 < 32 by decide) fun J0 k0 => ?_
  have k0 : St H0 (trB tb c t.node (IntKind.u64.wrap (t.num + 1)) t.found t.st (.slice x.ip t.items.length x.ic) (smV t x) t.opn (.slice x.tp t.todo.length x.tc) t.sent t.wait x.T :: Prt.row 5 x.ip t.items.length x.ic (cel It.cells t.items) :: smP t x :: Prt.row 1 x.tp t.todo.length x.tc (t.todo.map (Value.int .i64)) :: Prt.pure True :: Prt.one b5 (.cells #[.int .i64 n, .int .u64 s] ty_api_ID (0, 0)) :: M) J0 := k0
  clear g1 g
  intro R24 hR24
  have hfin : ∀ bi bm H', St H0 (Prt.one bi (.cells #[.bool false, .int .i64 t.node, .int .i64 n, .int .u64 s, .int .i64 0] ty_trace_Item (0, 0)) :: Prt.mp bm [] :: trB tb c t.node (IntKind.u64.wrap (t.num + 1)) t.found 1 (.slice (some ⟨bi, 0, none⟩) 1 1) (.map (some bm)) 0 (.slice none 0 0) t.sent t.wait x.T :: Prt.row 5 x.ip t.items.length x.ic (cel It.cells t.items) :: smP t x :: Prt.row 1 x.tp t.todo.length x.tc (t.todo.map (Value.int .i64)) :: Prt.pure True :: Prt.one b5 (.cells #[.int .i64 n, .int .u64 s] ty_api_ID (0, 0)) :: M) H' → R24 H' := fun bi bm H' g2 => by
    refine hR24 H' ?_
    refine g2.put (i := 2) rfl (show 30 < 32 by decide) fun H3 g3 => ?_
    have g3 : St H0 (Prt.one bi (.cells #[.bool false, .int .i64 t.node, .int .i64 n, .int .u64 s, .int .i64 0] ty_trace_Item (0, 0)) :: Prt.mp bm [] :: trB tb c t.node (IntKind.u64.wrap (t.num + 1)) t.found 1 (.slice (some ⟨bi, 0, none⟩) 1 1) (.map (some bm)) 0 (.slice none 0 0) now t.wait x.T :: Prt.row 5 x.ip t.items.length x.ic (cel It.cells t.items) :: smP t x :: Prt.row 1 x.tp t.todo.length x.tc (t.todo.map (Value.int .i64)) :: Prt.pure True :: Prt.one b5 (.cells #[.int .i64 n, .int .u64 s] ty_api_ID (0, 0)) :: M) H3 := g3
    refine g3.put (i := 2) rfl (show 31 < 32 by decide) fun H4 g4 => ?_
    have g4 : St H0 (Prt.one bi (.cells #[.bool false, .int .i64 t.node, .int .i64 n, .int .u64 s, .int .i64 0] ty_trace_Item (0, 0)) :: Prt.mp bm [] :: trB tb c t.node (IntKind.u64.wrap (t.num + 1)) t.found 1 (.slice (some ⟨bi, 0, none⟩) 1 1) (.map (some bm)) 0 (.slice none 0 0) now 0 x.T :: Prt.row 5 x.ip t.items.length x.ic (cel It.cells t.items) :: smP t x :: Prt.row 1 x.tp t.todo.length x.tc (t.todo.map (Value.int .i64)) :: Prt.pure True :: Prt.one b5 (.cells #[.int .i64 n, .int .u64 s] ty_api_ID (0, 0)) :: M) H4 := g4
    refine hK H4 ?_
    have g5 := g4.oneRow (i := 0) (q := 5) (n := 1) rfl rfl
    have g6 := g5.row (H' := _) (Own.nil 1) ((Goes.refl Nothing _).less fun c hc => absurd hc blk_none)
    have g7 : St H0 (Prt.row 1 none 0 0 [] :: Prt.row 5 (some ⟨bi, 0, none⟩) 1 1 (cel It.cells [⟨false, t.node, ⟨n, s⟩, 0⟩]) :: Prt.mp bm [] :: trB tb c t.node (IntKind.u64.wrap (t.num + 1)) t.found 1 (.slice (some ⟨bi, 0, none⟩) 1 1) (.map (some bm)) 0 (.slice none 0 0) now 0 x.T :: Prt.row 5 x.ip t.items.length x.ic (cel It.cells t.items) :: smP t x :: Prt.row 1 x.tp t.todo.length x.tc (t.todo.map (Value.int .i64)) :: Prt.pure True :: Prt.one b5 (.cells #[.int .i64 n, .int .u64 s] ty_api_ID (0, 0)) :: M) H4 := g6
    have g8 := g7.pick 9 [3, 1, 2, 0, 7, 4, 5, 6, 8] rfl rfl
    refine shut [] (t.begun n s now) ⟨some ⟨bi, 0, none⟩, 1, bm, none, 0, x.T⟩ H4 (Tr.begun_ok hnd) ?_
    rw [smV_on (by show (1 : Int) ≠ 0; decide), smP_on (by show (1 : Int) ≠ 0; decide)]
    exact St.lesses (M := [_, _, _, _]) (g8.perm (by
      show List.Perm ([_, _, _, _, _] ++ ([_, _, _, _] ++ M)) ([_, _, _, _] ++ ([_, _, _, _, _] ++ M))
      rw [← List.append_assoc, ← List.append_assoc]
      exact List.perm_append_comm.append_right M))
  clear hR24
  refine ldI_of (k0.cell (i := 0) rfl rfl) (ldI_of (k0.cell (i := 5) rfl rfl) (ldI_of (k0.cell (i := 5) rfl rfl) ?_))
  refine ⟨?_, ?_, ?_⟩
  · intro bi hbi
    have k1 := k0.alloc (o := .cells #[.bool false, .int .i64 t.node, .int .i64 n, .int .u64 s, .int .i64 0] ty_trace_Item) hbi
    refine ⟨?_, ?_⟩
    · intro bm hbm
      have k2 := k1.mpNew hbm
      refine k2.put (i := 2) rfl (show 25 < 32 by decide) fun J3 k3 => ?_
      have k3 : St H0 (Prt.mp bm [] :: Prt.one bi (.cells #[.bool false, .int .i64 t.node, .int .i64 n, .int .u64 s, .int .i64 0] ty_trace_Item (0, 0)) :: trB tb c t.node (IntKind.u64.wrap (t.num + 1)) t.found 1 (.slice x.ip t.items.length x.ic) (smV t x) t.opn (.slice x.tp t.todo.length x.tc) t.sent t.wait x.T :: Prt.row 5 x.ip t.items.length x.ic (cel It.cells t.items) :: smP t x :: Prt.row 1 x.tp t.todo.length x.tc (t.todo.map (Value.int .i64)) :: Prt.pure True :: Prt.one b5 (.cells #[.int .i64 n, .int .u64 s] ty_api_ID (0, 0)) :: M) J3 := k3
      refine k3.put (i := 2) rfl (show 26 < 32 by decide) fun J4 k4 => ?_
      have k4 : St H0 (Prt.mp bm [] :: Prt.one bi (.cells #[.bool false, .int .i64 t.node, .int .i64 n, .int .u64 s, .int .i64 0] ty_trace_Item (0, 0)) :: trB tb c t.node (IntKind.u64.wrap (t.num + 1)) t.found 1 (.slice (some ⟨bi, 0, none⟩) 1 1) (smV t x) t.opn (.slice x.tp t.todo.length x.tc) t.sent t.wait x.T :: Prt.row 5 x.ip t.items.length x.ic (cel It.cells t.items) :: smP t x :: Prt.row 1 x.tp t.todo.length x.tc (t.todo.map (Value.int .i64)) :: Prt.pure True :: Prt.one b5 (.cells #[.int .i64 n, .int .u64 s] ty_api_ID (0, 0)) :: M) J4 := k4
      refine k4.put (i := 2) rfl (show 27 < 32 by decide) fun J5 k5 => ?_
      have k5 : St H0 (Prt.mp bm [] :: Prt.one bi (.cells #[.bool false, .int .i64 t.node, .int .i64 n, .int .u64 s, .int .i64 0] ty_trace_Item (0, 0)) :: trB tb c t.node (IntKind.u64.wrap (t.num + 1)) t.found 1 (.slice (some ⟨bi, 0, none⟩) 1 1) (.map (some bm)) t.opn (.slice x.tp t.todo.length x.tc) t.sent t.wait x.T :: Prt.row 5 x.ip t.items.length x.ic (cel It.cells t.items) :: smP t x :: Prt.row 1 x.tp t.todo.length x.tc (t.todo.map (Value.int .i64)) :: Prt.pure True :: Prt.one b5 (.cells #[.int .i64 n, .int .u64 s] ty_api_ID (0, 0)) :: M) J5 := k5
      refine k5.put (i := 2) rfl (show 28 < 32 by decide) fun J6 k6 => ?_
      have k6 : St H0 (Prt.mp bm [] :: Prt.one bi (.cells #[.bool false, .int .i64 t.node, .int .i64 n, .int .u64 s, .int .i64 0] ty_trace_Item (0, 0)) :: trB tb c t.node (IntKind.u64.wrap (t.num + 1)) t.found 1 (.slice (some ⟨bi, 0, none⟩) 1 1) (.map (some bm)) 0 (.slice x.tp t.todo.length x.tc) t.sent t.wait x.T :: Prt.row 5 x.ip t.items.length x.ic (cel It.cells t.items) :: smP t x :: Prt.row 1 x.tp t.todo.length x.tc (t.todo.map (Value.int .i64)) :: Prt.pure True :: Prt.one b5 (.cells #[.int .i64 n, .int .u64 s] ty_api_ID (0, 0)) :: M) J6 := k6
      refine k6.put (i := 2) rfl (show 29 < 32 by decide) fun J7 k7 => ?_
      have k7 : St H0 (Prt.mp bm [] :: Prt.one bi (.cells #[.bool false, .int .i64 t.node, .int .i64 n, .int .u64 s, .int .i64 0] ty_trace_Item (0, 0)) :: trB tb c t.node (IntKind.u64.wrap (t.num + 1)) t.found 1 (.slice (some ⟨bi, 0, none⟩) 1 1) (.map (some bm)) 0 (.slice none 0 0) t.sent t.wait x.T :: Prt.row 5 x.ip t.items.length x.ic (cel It.cells t.items) :: smP t x :: Prt.row 1 x.tp t.todo.length x.tc (t.todo.map (Value.int .i64)) :: Prt.pure True :: Prt.one b5 (.cells #[.int .i64 n, .int .u64 s] ty_api_ID (0, 0)) :: M) J7 := k7
      exact hfin bi bm _ k7.flip
    · refine k1.put (i := 1) rfl (show 25 < 32 by decide) fun J2 k2 => ?_
      have k2 : St H0 (Prt.one bi (.cells #[.bool false, .int .i64 t.node, .int .i64 n, .int .u64 s, .int .i64 0] ty_trace_Item (0, 0)) :: trB tb c t.node (IntKind.u64.wrap (t.num + 1)) t.found 1 (.slice x.ip t.items.length x.ic) (smV t x) t.opn (.slice x.tp t.todo.length x.tc) t.sent t.wait x.T :: Prt.row 5 x.ip t.items.length x.ic (cel It.cells t.items) :: smP t x :: Prt.row 1 x.tp t.todo.length x.tc (t.todo.map (Value.int .i64)) :: Prt.pure True :: Prt.one b5 (.cells #[.int .i64 n, .int .u64 s] ty_api_ID (0, 0)) :: M) J2 := k2
      refine ⟨?_, ?_⟩
      · intro bm hbm
        have k3 := k2.mpNew hbm
        refine k3.put (i := 2) rfl (show 26 < 32 by decide) fun J4 k4 => ?_
        have k4 : St H0 (Prt.mp bm [] :: Prt.one bi (.cells #[.bool false, .int .i64 t.node, .int .i64 n, .int .u64 s, .int .i64 0] ty_trace_Item (0, 0)) :: trB tb c t.node (IntKind.u64.wrap (t.num + 1)) t.found 1 (.slice (some ⟨bi, 0, none⟩) 1 1) (smV t x) t.opn (.slice x.tp t.todo.length x.tc) t.sent t.wait x.T :: Prt.row 5 x.ip t.items.length x.ic (cel It.cells t.items) :: smP t x :: Prt.row 1 x.tp t.todo.length x.tc (t.todo.map (Value.int .i64)) :: Prt.pure True :: Prt.one b5 (.cells #[.int .i64 n, .int .u64 s] ty_api_ID (0, 0)) :: M) J4 := k4
        refine k4.put (i := 2) rfl (show 27 < 32 by decide) fun J5 k5 => ?_
        have k5 : St H0 (Prt.mp bm [] :: Prt.one bi (.cells #[.bool false, .int .i64 t.node, .int .i64 n, .int .u64 s, .int .i64 0] ty_trace_Item (0, 0)) :: trB tb c t.node (IntKind.u64.wrap (t.num + 1)) t.found 1 (.slice (some ⟨bi, 0, none⟩) 1 1) (.map (some bm)) t.opn (.slice x.tp t.todo.length x.tc) t.sent t.wait x.T :: Prt.row 5 x.ip t.items.length x.ic (cel It.cells t.items) :: smP t x :: Prt.row 1 x.tp t.todo.length x.tc (t.todo.map (Value.int .i64)) :: Prt.pure True :: Prt.one b5 (.cells #[.int .i64 n, .int .u64 s] ty_api_ID (0, 0)) :: M) J5 := k5
        refine k5.put (i := 2) rfl (show 28 < 32 by decide) fun J6 k6 => ?_
        have k6 : St H0 (Prt.mp bm [] :: Prt.one bi (.cells #[.bool false, .int .i64 t.node, .int .i64 n, .int .u64 s, .int .i64 0] ty_trace_Item (0, 0)) :: trB tb c t.node (IntKind.u64.wrap (t.num + 1)) t.found 1 (.slice (some ⟨bi, 0, none⟩) 1 1) (.map (some bm)) 0 (.slice x.tp t.todo.length x.tc) t.sent t.wait x.T :: Prt.row 5 x.ip t.items.length x.ic (cel It.cells t.items) :: smP t x :: Prt.row 1 x.tp t.todo.length x.tc (t.todo.map (Value.int .i64)) :: Prt.pure True :: Prt.one b5 (.cells #[.int .i64 n, .int .u64 s] ty_api_ID (0, 0)) :: M) J6 := k6
        refine k6.put (i := 2) rfl (show 29 < 32 by decide) fun J7 k7 => ?_
        have k7 : St H0 (Prt.mp bm [] :: Prt.one bi (.cells #[.bool false, .int .i64 t.node, .int .i64 n, .int .u64 s, .int .i64 0] ty_trace_Item (0, 0)) :: trB tb c t.node (IntKind.u64.wrap (t.num + 1)) t.found 1 (.slice (some ⟨bi, 0, none⟩) 1 1) (.map (some bm)) 0 (.slice none 0 0) t.sent t.wait x.T :: Prt.row 5 x.ip t.items.length x.ic (cel It.cells t.items) :: smP t x :: Prt.row 1 x.tp t.todo.length x.tc (t.todo.map (Value.int .i64)) :: Prt.pure True :: Prt.one b5 (.cells #[.int .i64 n, .int .u64 s] ty_api_ID (0, 0)) :: M) J7 := k7
        exact hfin bi bm _ k7.flip
      · refine k2.put (i := 1) rfl (show 26 < 32 by decide) fun J3 k3 => ?_
        have k3 : St H0 (Prt.one bi (.cells #[.bool false, .int .i64 t.node, .int .i64 n, .int .u64 s, .int .i64 0] ty_trace_Item (0, 0)) :: trB tb c t.node (IntKind.u64.wrap (t.num + 1)) t.found 1 (.slice (some ⟨bi, 0, none⟩) 1 1) (smV t x) t.opn (.slice x.tp t.todo.length x.tc) t.sent t.wait x.T :: Prt.row 5 x.ip t.items.length x.ic (cel It.cells t.items) :: smP t x :: Prt.row 1 x.tp t.todo.length x.tc (t.todo.map (Value.int .i64)) :: Prt.pure True :: Prt.one b5 (.cells #[.int .i64 n, .int .u64 s] ty_api_ID (0, 0)) :: M) J3 := k3
        intro bm hbm
        have k4 := k3.mpNew hbm
        refine k4.put (i := 2) rfl (show 27 < 32 by decide) fun J5 k5 => ?_
        have k5 : St H0 (Prt.mp bm [] :: Prt.one bi (.cells #[.bool false, .int .i64 t.node, .int .i64 n, .int .u64 s, .int .i64 0] ty_trace_Item (0, 0)) :: trB tb c t.node (IntKind.u64.wrap (t.num + 1)) t.found 1 (.slice (some ⟨bi, 0, none⟩) 1 1) (.map (some bm)) t.opn (.slice x.tp t.todo.length x.tc) t.sent t.wait x.T :: Prt.row 5 x.ip t.items.length x.ic (cel It.cells t.items) :: smP t x :: Prt.row 1 x.tp t.todo.length x.tc (t.todo.map (Value.int .i64)) :: Prt.pure True :: Prt.one b5 (.cells #[.int .i64 n, .int .u64 s] ty_api_ID (0, 0)) :: M) J5 := k5
        refine k5.put (i := 2) rfl (show 28 < 32 by decide) fun J6 k6 => ?_
        have k6 : St H0 (Prt.mp bm [] :: Prt.one bi (.cells #[.bool false, .int .i64 t.node, .int .i64 n, .int .u64 s, .int .i64 0] ty_trace_Item (0, 0)) :: trB tb c t.node (IntKind.u64.wrap (t.num + 1)) t.found 1 (.slice (some ⟨bi, 0, none⟩) 1 1) (.map (some bm)) 0 (.slice x.tp t.todo.length x.tc) t.sent t.wait x.T :: Prt.row 5 x.ip t.items.length x.ic (cel It.cells t.items) :: smP t x :: Prt.row 1 x.tp t.todo.length x.tc (t.todo.map (Value.int .i64)) :: Prt.pure True :: Prt.one b5 (.cells #[.int .i64 n, .int .u64 s] ty_api_ID (0, 0)) :: M) J6 := k6
        refine k6.put (i := 2) rfl (show 29 < 32 by decide) fun J7 k7 => ?_
        have k7 : St H0 (Prt.mp bm [] :: Prt.one bi (.cells #[.bool false, .int .i64 t.node, .int .i64 n, .int .u64 s, .int .i64 0] ty_trace_Item (0, 0)) :: trB tb c t.node (IntKind.u64.wrap (t.num + 1)) t.found 1 (.slice (some ⟨bi, 0, none⟩) 1 1) (.map (some bm)) 0 (.slice none 0 0) t.sent t.wait x.T :: Prt.row 5 x.ip t.items.length x.ic (cel It.cells t.items) :: smP t x :: Prt.row 1 x.tp t.todo.length x.tc (t.todo.map (Value.int .i64)) :: Prt.pure True :: Prt.one b5 (.cells #[.int .i64 n, .int .u64 s] ty_api_ID (0, 0)) :: M) J7 := k7
        exact hfin bi bm _ k7.flip
  · intro bm hbm
    have k1 := k0.mpNew hbm
    refine ⟨ldI_of (k1.cell (i := 6) rfl rfl) (ldI_of (k1.cell (i := 6) rfl rfl) rfl), ldI_of (k1.cell (i := 1) rfl rfl) rfl, ?_, ?_⟩
    · intro bi hbi
      have k2 := k1.alloc (o := .cells #[.bool false, .int .i64 t.node, .int .i64 n, .int .u64 s, .int .i64 0] ty_trace_Item) hbi
      refine k2.put (i := 2) rfl (show 25 < 32 by decide) fun J3 k3 => ?_
      have k3 : St H0 (Prt.one bi (.cells #[.bool false, .int .i64 t.node, .int .i64 n, .int .u64 s, .int .i64 0] ty_trace_Item (0, 0)) :: Prt.mp bm [] :: trB tb c t.node (IntKind.u64.wrap (t.num + 1)) t.found 1 (.slice x.ip t.items.length x.ic) (smV t x) t.opn (.slice x.tp t.todo.length x.tc) t.sent t.wait x.T :: Prt.row 5 x.ip t.items.length x.ic (cel It.cells t.items) :: smP t x :: Prt.row 1 x.tp t.todo.length x.tc (t.todo.map (Value.int .i64)) :: Prt.pure True :: Prt.one b5 (.cells #[.int .i64 n, .int .u64 s] ty_api_ID (0, 0)) :: M) J3 := k3
      refine k3.put (i := 2) rfl (show 26 < 32 by decide) fun J4 k4 => ?_
      have k4 : St H0 (Prt.one bi (.cells #[.bool false, .int .i64 t.node, .int .i64 n, .int .u64 s, .int .i64 0] ty_trace_Item (0, 0)) :: Prt.mp bm [] :: trB tb c t.node (IntKind.u64.wrap (t.num + 1)) t.found 1 (.slice (some ⟨bi, 0, none⟩) 1 1) (smV t x) t.opn (.slice x.tp t.todo.length x.tc) t.sent t.wait x.T :: Prt.row 5 x.ip t.items.length x.ic (cel It.cells t.items) :: smP t x :: Prt.row 1 x.tp t.todo.length x.tc (t.todo.map (Value.int .i64)) :: Prt.pure True :: Prt.one b5 (.cells #[.int .i64 n, .int .u64 s] ty_api_ID (0, 0)) :: M) J4 := k4
      refine k4.put (i := 2) rfl (show 27 < 32 by decide) fun J5 k5 => ?_
      have k5 : St H0 (Prt.one bi (.cells #[.bool false, .int .i64 t.node, .int .i64 n, .int .u64 s, .int .i64 0] ty_trace_Item (0, 0)) :: Prt.mp bm [] :: trB tb c t.node (IntKind.u64.wrap (t.num + 1)) t.found 1 (.slice (some ⟨bi, 0, none⟩) 1 1) (.map (some bm)) t.opn (.slice x.tp t.todo.length x.tc) t.sent t.wait x.T :: Prt.row 5 x.ip t.items.length x.ic (cel It.cells t.items) :: smP t x :: Prt.row 1 x.tp t.todo.length x.tc (t.todo.map (Value.int .i64)) :: Prt.pure True :: Prt.one b5 (.cells #[.int .i64 n, .int .u64 s] ty_api_ID (0, 0)) :: M) J5 := k5
      refine k5.put (i := 2) rfl (show 28 < 32 by decide) fun J6 k6 => ?_
      have k6 : St H0 (Prt.one bi (.cells #[.bool false, .int .i64 t.node, .int .i64 n, .int .u64 s, .int .i64 0] ty_trace_Item (0, 0)) :: Prt.mp bm [] :: trB tb c t.node (IntKind.u64.wrap (t.num + 1)) t.found 1 (.slice (some ⟨bi, 0, none⟩) 1 1) (.map (some bm)) 0 (.slice x.tp t.todo.length x.tc) t.sent t.wait x.T :: Prt.row 5 x.ip t.items.length x.ic (cel It.cells t.items) :: smP t x :: Prt.row 1 x.tp t.todo.length x.tc (t.todo.map (Value.int .i64)) :: Prt.pure True :: Prt.one b5 (.cells #[.int .i64 n, .int .u64 s] ty_api_ID (0, 0)) :: M) J6 := k6
      refine k6.put (i := 2) rfl (show 29 < 32 by decide) fun J7 k7 => ?_
      have k7 : St H0 (Prt.one bi (.cells #[.bool false, .int .i64 t.node, .int .i64 n, .int .u64 s, .int .i64 0] ty_trace_Item (0, 0)) :: Prt.mp bm [] :: trB tb c t.node (IntKind.u64.wrap (t.num + 1)) t.found 1 (.slice (some ⟨bi, 0, none⟩) 1 1) (.map (some bm)) 0 (.slice none 0 0) t.sent t.wait x.T :: Prt.row 5 x.ip t.items.length x.ic (cel It.cells t.items) :: smP t x :: Prt.row 1 x.tp t.todo.length x.tc (t.todo.map (Value.int .i64)) :: Prt.pure True :: Prt.one b5 (.cells #[.int .i64 n, .int .u64 s] ty_api_ID (0, 0)) :: M) J7 := k7
      exact hfin bi bm _ k7
    · refine k1.put (i := 1) rfl (show 25 < 32 by decide) fun J2 k2 => ?_
      have k2 : St H0 (Prt.mp bm [] :: trB tb c t.node (IntKind.u64.wrap (t.num + 1)) t.found 1 (.slice x.ip t.items.length x.ic) (smV t x) t.opn (.slice x.tp t.todo.length x.tc) t.sent t.wait x.T :: Prt.row 5 x.ip t.items.length x.ic (cel It.cells t.items) :: smP t x :: Prt.row 1 x.tp t.todo.length x.tc (t.todo.map (Value.int .i64)) :: Prt.pure True :: Prt.one b5 (.cells #[.int .i64 n, .int .u64 s] ty_api_ID (0, 0)) :: M) J2 := k2
      refine ⟨ldI_of (k2.cell (i := 6) rfl rfl) (ldI_of (k2.cell (i := 6) rfl rfl) rfl), ?_⟩
      intro bi hbi
      have k4 := k2.alloc (o := .cells #[.bool false, .int .i64 t.node, .int .i64 n, .int .u64 s, .int .i64 0] ty_trace_Item) hbi
      refine k4.put (i := 2) rfl (show 26 < 32 by decide) fun J5 k5 => ?_
      have k5 : St H0 (Prt.one bi (.cells #[.bool false, .int .i64 t.node, .int .i64 n, .int .u64 s, .int .i64 0] ty_trace_Item (0, 0)) :: Prt.mp bm [] :: trB tb c t.node (IntKind.u64.wrap (t.num + 1)) t.found 1 (.slice (some ⟨bi, 0, none⟩) 1 1) (smV t x) t.opn (.slice x.tp t.todo.length x.tc) t.sent t.wait x.T :: Prt.row 5 x.ip t.items.length x.ic (cel It.cells t.items) :: smP t x :: Prt.row 1 x.tp t.todo.length x.tc (t.todo.map (Value.int .i64)) :: Prt.pure True :: Prt.one b5 (.cells #[.int .i64 n, .int .u64 s] ty_api_ID (0, 0)) :: M) J5 := k5
      refine k5.put (i := 2) rfl (show 27 < 32 by decide) fun J6 k6 => ?_
      have k6 : St H0 (Prt.one bi (.cells #[.bool false, .int .i64 t.node, .int .i64 n, .int .u64 s, .int .i64 0] ty_trace_Item (0, 0)) :: Prt.mp bm [] :: trB tb c t.node (IntKind.u64.wrap (t.num + 1)) t.found 1 (.slice (some ⟨bi, 0, none⟩) 1 1) (.map (some bm)) t.opn (.slice x.tp t.todo.length x.tc) t.sent t.wait x.T :: Prt.row 5 x.ip t.items.length x.ic (cel It.cells t.items) :: smP t x :: Prt.row 1 x.tp t.todo.length x.tc (t.todo.map (Value.int .i64)) :: Prt.pure True :: Prt.one b5 (.cells #[.int .i64 n, .int .u64 s] ty_api_ID (0, 0)) :: M) J6 := k6
      refine k6.put (i := 2) rfl (show 28 < 32 by decide) fun J7 k7 => ?_
      have k7 : St H0 (Prt.one bi (.cells #[.bool false, .int .i64 t.node, .int .i64 n, .int .u64 s, .int .i64 0] ty_trace_Item (0, 0)) :: Prt.mp bm [] :: trB tb c t.node (IntKind.u64.wrap (t.num + 1)) t.found 1 (.slice (some ⟨bi, 0, none⟩) 1 1) (.map (some bm)) 0 (.slice x.tp t.todo.length x.tc) t.sent t.wait x.T :: Prt.row 5 x.ip t.items.length x.ic (cel It.cells t.items) :: smP t x :: Prt.row 1 x.tp t.todo.length x.tc (t.todo.map (Value.int .i64)) :: Prt.pure True :: Prt.one b5 (.cells #[.int .i64 n, .int .u64 s] ty_api_ID (0, 0)) :: M) J7 := k7
      refine k7.put (i := 2) rfl (show 29 < 32 by decide) fun J8 k8 => ?_
      have k8 : St H0 (Prt.one bi (.cells #[.bool false, .int .i64 t.node, .int .i64 n, .int .u64 s, .int .i64 0] ty_trace_Item (0, 0)) :: Prt.mp bm [] :: trB tb c t.node (IntKind.u64.wrap (t.num + 1)) t.found 1 (.slice (some ⟨bi, 0, none⟩) 1 1) (.map (some bm)) 0 (.slice none 0 0) t.sent t.wait x.T :: Prt.row 5 x.ip t.items.length x.ic (cel It.cells t.items) :: smP t x :: Prt.row 1 x.tp t.todo.length x.tc (t.todo.map (Value.int .i64)) :: Prt.pure True :: Prt.one b5 (.cells #[.int .i64 n, .int .u64 s] ty_api_ID (0, 0)) :: M) J8 := k8
      exact hfin bi bm _ k8
  · refine k0.put (i := 0) rfl (show 25 < 32 by decide) fun J1 k1 => ?_
    have k1 : St H0 (trB tb c t.node (IntKind.u64.wrap (t.num + 1)) t.found 1 (.slice x.ip t.items.length x.ic) (smV t x) t.opn (.slice x.tp t.todo.length x.tc) t.sent t.wait x.T :: Prt.row 5 x.ip t.items.length x.ic (cel It.cells t.items) :: smP t x :: Prt.row 1 x.tp t.todo.length x.tc (t.todo.map (Value.int .i64)) :: Prt.pure True :: Prt.one b5 (.cells #[.int .i64 n, .int .u64 s] ty_api_ID (0, 0)) :: M) J1 := k1
    refine ⟨ldI_of (k1.cell (i := 5) rfl rfl) (ldI_of (k1.cell (i := 5) rfl rfl) rfl), ?_, ?_⟩
    · intro bi hbi
      have k2 := k1.alloc (o := .cells #[.bool false, .int .i64 t.node, .int .i64 n, .int .u64 s, .int .i64 0] ty_trace_Item) hbi
      refine ⟨?_, ?_⟩
      · intro bm hbm
        have k3 := k2.mpNew hbm
        refine k3.put (i := 2) rfl (show 26 < 32 by decide) fun J4 k4 => ?_
        have k4 : St H0 (Prt.mp bm [] :: Prt.one bi (.cells #[.bool false, .int .i64 t.node, .int .i64 n, .int .u64 s, .int .i64 0] ty_trace_Item (0, 0)) :: trB tb c t.node (IntKind.u64.wrap (t.num + 1)) t.found 1 (.slice (some ⟨bi, 0, none⟩) 1 1) (smV t x) t.opn (.slice x.tp t.todo.length x.tc) t.sent t.wait x.T :: Prt.row 5 x.ip t.items.length x.ic (cel It.cells t.items) :: smP t x :: Prt.row 1 x.tp t.todo.length x.tc (t.todo.map (Value.int .i64)) :: Prt.pure True :: Prt.one b5 (.cells #[.int .i64 n, .int .u64 s] ty_api_ID (0, 0)) :: M) J4 := k4
        refine k4.put (i := 2) rfl (show 27 < 32 by decide) fun J5 k5 => ?_
        have k5 : St H0 (Prt.mp bm [] :: Prt.one bi (.cells #[.bool false, .int .i64 t.node, .int .i64 n, .int .u64 s, .int .i64 0] ty_trace_Item (0, 0)) :: trB tb c t.node (IntKind.u64.wrap (t.num + 1)) t.found 1 (.slice (some ⟨bi, 0, none⟩) 1 1) (.map (some bm)) t.opn (.slice x.tp t.todo.length x.tc) t.sent t.wait x.T :: Prt.row 5 x.ip t.items.length x.ic (cel It.cells t.items) :: smP t x :: Prt.row 1 x.tp t.todo.length x.tc (t.todo.map (Value.int .i64)) :: Prt.pure True :: Prt.one b5 (.cells #[.int .i64 n, .int .u64 s] ty_api_ID (0, 0)) :: M) J5 := k5
        refine k5.put (i := 2) rfl (show 28 < 32 by decide) fun J6 k6 => ?_
        have k6 : St H0 (Prt.mp bm [] :: Prt.one bi (.cells #[.bool false, .int .i64 t.node, .int .i64 n, .int .u64 s, .int .i64 0] ty_trace_Item (0, 0)) :: trB tb c t.node (IntKind.u64.wrap (t.num + 1)) t.found 1 (.slice (some ⟨bi, 0, none⟩) 1 1) (.map (some bm)) 0 (.slice x.tp t.todo.length x.tc) t.sent t.wait x.T :: Prt.row 5 x.ip t.items.length x.ic (cel It.cells t.items) :: smP t x :: Prt.row 1 x.tp t.todo.length x.tc (t.todo.map (Value.int .i64)) :: Prt.pure True :: Prt.one b5 (.cells #[.int .i64 n, .int .u64 s] ty_api_ID (0, 0)) :: M) J6 := k6
        refine k6.put (i := 2) rfl (show 29 < 32 by decide) fun J7 k7 => ?_
        have k7 : St H0 (Prt.mp bm [] :: Prt.one bi (.cells #[.bool false, .int .i64 t.node, .int .i64 n, .int .u64 s, .int .i64 0] ty_trace_Item (0, 0)) :: trB tb c t.node (IntKind.u64.wrap (t.num + 1)) t.found 1 (.slice (some ⟨bi, 0, none⟩) 1 1) (.map (some bm)) 0 (.slice none 0 0) t.sent t.wait x.T :: Prt.row 5 x.ip t.items.length x.ic (cel It.cells t.items) :: smP t x :: Prt.row 1 x.tp t.todo.length x.tc (t.todo.map (Value.int .i64)) :: Prt.pure True :: Prt.one b5 (.cells #[.int .i64 n, .int .u64 s] ty_api_ID (0, 0)) :: M) J7 := k7
        exact hfin bi bm _ k7.flip
      · refine k2.put (i := 1) rfl (show 26 < 32 by decide) fun J3 k3 => ?_
        have k3 : St H0 (Prt.one bi (.cells #[.bool false, .int .i64 t.node, .int .i64 n, .int .u64 s, .int .i64 0] ty_trace_Item (0, 0)) :: trB tb c t.node (IntKind.u64.wrap (t.num + 1)) t.found 1 (.slice (some ⟨bi, 0, none⟩) 1 1) (smV t x) t.opn (.slice x.tp t.todo.length x.tc) t.sent t.wait x.T :: Prt.row 5 x.ip t.items.length x.ic (cel It.cells t.items) :: smP t x :: Prt.row 1 x.tp t.todo.length x.tc (t.todo.map (Value.int .i64)) :: Prt.pure True :: Prt.one b5 (.cells #[.int .i64 n, .int .u64 s] ty_api_ID (0, 0)) :: M) J3 := k3
        intro bm hbm
        have k4 := k3.mpNew hbm
        refine k4.put (i := 2) rfl (show 27 < 32 by decide) fun J5 k5 => ?_
        have k5 : St H0 (Prt.mp bm [] :: Prt.one bi (.cells #[.bool false, .int .i64 t.node, .int .i64 n, .int .u64 s, .int .i64 0] ty_trace_Item (0, 0)) :: trB tb c t.node (IntKind.u64.wrap (t.num + 1)) t.found 1 (.slice (some ⟨bi, 0, none⟩) 1 1) (.map (some bm)) t.opn (.slice x.tp t.todo.length x.tc) t.sent t.wait x.T :: Prt.row 5 x.ip t.items.length x.ic (cel It.cells t.items) :: smP t x :: Prt.row 1 x.tp t.todo.length x.tc (t.todo.map (Value.int .i64)) :: Prt.pure True :: Prt.one b5 (.cells #[.int .i64 n, .int .u64 s] ty_api_ID (0, 0)) :: M) J5 := k5
        refine k5.put (i := 2) rfl (show 28 < 32 by decide) fun J6 k6 => ?_
        have k6 : St H0 (Prt.mp bm [] :: Prt.one bi (.cells #[.bool false, .int .i64 t.node, .int .i64 n, .int .u64 s, .int .i64 0] ty_trace_Item (0, 0)) :: trB tb c t.node (IntKind.u64.wrap (t.num + 1)) t.found 1 (.slice (some ⟨bi, 0, none⟩) 1 1) (.map (some bm)) 0 (.slice x.tp t.todo.length x.tc) t.sent t.wait x.T :: Prt.row 5 x.ip t.items.length x.ic (cel It.cells t.items) :: smP t x :: Prt.row 1 x.tp t.todo.length x.tc (t.todo.map (Value.int .i64)) :: Prt.pure True :: Prt.one b5 (.cells #[.int .i64 n, .int .u64 s] ty_api_ID (0, 0)) :: M) J6 := k6
        refine k6.put (i := 2) rfl (show 29 < 32 by decide) fun J7 k7 => ?_
        have k7 : St H0 (Prt.mp bm [] :: Prt.one bi (.cells #[.bool false, .int .i64 t.node, .int .i64 n, .int .u64 s, .int .i64 0] ty_trace_Item (0, 0)) :: trB tb c t.node (IntKind.u64.wrap (t.num + 1)) t.found 1 (.slice (some ⟨bi, 0, none⟩) 1 1) (.map (some bm)) 0 (.slice none 0 0) t.sent t.wait x.T :: Prt.row 5 x.ip t.items.length x.ic (cel It.cells t.items) :: smP t x :: Prt.row 1 x.tp t.todo.length x.tc (t.todo.map (Value.int .i64)) :: Prt.pure True :: Prt.one b5 (.cells #[.int .i64 n, .int .u64 s] ty_api_ID (0, 0)) :: M) J7 := k7
        exact hfin bi bm _ k7.flip
    · intro bm hbm
      have k2 := k1.mpNew hbm
      refine ⟨ldI_of (k2.cell (i := 6) rfl rfl) (ldI_of (k2.cell (i := 6) rfl rfl) rfl), ?_⟩
      intro bi hbi
      have k4 := k2.alloc (o := .cells #[.bool false, .int .i64 t.node, .int .i64 n, .int .u64 s, .int .i64 0] ty_trace_Item) hbi
      refine k4.put (i := 2) rfl (show 26 < 32 by decide) fun J5 k5 => ?_
      have k5 : St H0 (Prt.one bi (.cells #[.bool false, .int .i64 t.node, .int .i64 n, .int .u64 s, .int .i64 0] ty_trace_Item (0, 0)) :: Prt.mp bm [] :: trB tb c t.node (IntKind.u64.wrap (t.num + 1)) t.found 1 (.slice (some ⟨bi, 0, none⟩) 1 1) (smV t x) t.opn (.slice x.tp t.todo.length x.tc) t.sent t.wait x.T :: Prt.row 5 x.ip t.items.length x.ic (cel It.cells t.items) :: smP t x :: Prt.row 1 x.tp t.todo.length x.tc (t.todo.map (Value.int .i64)) :: Prt.pure True :: Prt.one b5 (.cells #[.int .i64 n, .int .u64 s] ty_api_ID (0, 0)) :: M) J5 := k5
      refine k5.put (i := 2) rfl (show 27 < 32 by decide) fun J6 k6 => ?_
      have k6 : St H0 (Prt.one bi (.cells #[.bool false, .int .i64 t.node, .int .i64 n, .int .u64 s, .int .i64 0] ty_trace_Item (0, 0)) :: Prt.mp bm [] :: trB tb c t.node (IntKind.u64.wrap (t.num + 1)) t.found 1 (.slice (some ⟨bi, 0, none⟩) 1 1) (.map (some bm)) t.opn (.slice x.tp t.todo.length x.tc) t.sent t.wait x.T :: Prt.row 5 x.ip t.items.length x.ic (cel It.cells t.items) :: smP t x :: Prt.row 1 x.tp t.todo.length x.tc (t.todo.map (Value.int .i64)) :: Prt.pure True :: Prt.one b5 (.cells #[.int .i64 n, .int .u64 s] ty_api_ID (0, 0)) :: M) J6 := k6
      refine k6.put (i := 2) rfl (show 28 < 32 by decide) fun J7 k7 => ?_
      have k7 : St H0 (Prt.one bi (.cells #[.bool false, .int .i64 t.node, .int .i64 n, .int .u64 s, .int .i64 0] ty_trace_Item (0, 0)) :: Prt.mp bm [] :: trB tb c t.node (IntKind.u64.wrap (t.num + 1)) t.found 1 (.slice (some ⟨bi, 0, none⟩) 1 1) (.map (some bm)) 0 (.slice x.tp t.todo.length x.tc) t.sent t.wait x.T :: Prt.row 5 x.ip t.items.length x.ic (cel It.cells t.items) :: smP t x :: Prt.row 1 x.tp t.todo.length x.tc (t.todo.map (Value.int .i64)) :: Prt.pure True :: Prt.one b5 (.cells #[.int .i64 n, .int .u64 s] ty_api_ID (0, 0)) :: M) J7 := k7
      refine k7.put (i := 2) rfl (show 29 < 32 by decide) fun J8 k8 => ?_
      have k8 : St H0 (Prt.one bi (.cells #[.bool false, .int .i64 t.node, .int .i64 n, .int .u64 s, .int .i64 0] ty_trace_Item (0, 0)) :: Prt.mp bm [] :: trB tb c t.node (IntKind.u64.wrap (t.num + 1)) t.found 1 (.slice (some ⟨bi, 0, none⟩) 1 1) (.map (some bm)) 0 (.slice none 0 0) t.sent t.wait x.T :: Prt.row 5 x.ip t.items.length x.ic (cel It.cells t.items) :: smP t x :: Prt.row 1 x.tp t.todo.length x.tc (t.todo.map (Value.int .i64)) :: Prt.pure True :: Prt.one b5 (.cells #[.int .i64 n, .int .u64 s] ty_api_ID (0, 0)) :: M) J8 := k8
      exact hfin bi bm _ k8
end
end Go.Proofs.Ytknejebggegfjaa

namespace Go.Proofs.Ytknejebggegfjaa
set_option linter.unusedSimpArgs false
set_option linter.unusedVariables false
set_option maxRecDepth 20000
open Go
/-- A raw config: the same 22 numbers. -/
def Cf.raw (r : Cf) : Value := .agg #[.int .i64 r.a0, .int .i64 r.a1, .int .i64 r.a2, .int .i64 r.a3, .int .i64 r.a4, .int .i64 r.a5, .int .i64 r.a6, .int .i64 r.a7, .int .i64 r.a8, .int .i64 r.a9, .int .i64 r.a10, .int .i64 r.a11, .int .i64 r.a12, .int .i64 r.a13, .int .i64 r.a14, .int .i64 r.a15, .int .i64 r.a16, .int .i64 r.a17, .int .i64 r.a18, .int .i64 r.a19, .int .u64 r.a20, .int .u64 r.a21]
def cUnit (r : Cf) : Int := IntKind.u64.wrap (IntKind.i64.wrap (4 + pick r.a11 20))
def cWait (r : Cf) : Int := IntKind.u64.wrap (IntKind.i64.wrap (1 + pick r.a14 30))
def cSusp (r : Cf) : Int := IntKind.i64.wrap (1 + pick r.a17 4)
/-- What is made of it. -/
def confOf (r : Cf) : Cf where
  a0 := IntKind.i64.wrap (2 + pick r.a0 3)
  a1 := IntKind.i64.wrap (1 + pick r.a1 3)
  a2 := IntKind.i64.wrap (2 + pick r.a2 4)
  a3 := IntKind.i64.wrap (16 * (IntKind.i64.wrap (1 + pick r.a3 8)))
  a4 := IntKind.i64.wrap (2 + pick r.a4 14)
  a5 := IntKind.i64.wrap (2 + pick r.a5 10)
  a6 := IntKind.i64.wrap (1 + pick r.a6 6)
  a7 := IntKind.i64.wrap (1 + pick r.a7 4)
  a8 := IntKind.i64.wrap (1 + pick r.a8 8)
  a9 := IntKind.i64.wrap (4 + pick r.a9 60)
  a10 := IntKind.i64.wrap (1 + pick r.a10 4)
  a11 := cUnit r
  a12 := IntKind.u64.wrap (pick r.a12 (IntKind.i64.wrap (Int.tdiv (IntKind.i64.wrap (cUnit r)) 2)))
  a13 := IntKind.u64.wrap (cUnit r * (IntKind.u64.wrap (IntKind.i64.wrap (40 + pick r.a13 200))))
  a14 := cWait r
  a15 := IntKind.u64.wrap (cWait r + (IntKind.u64.wrap (pick r.a15 60)))
  a16 := IntKind.u64.wrap (cUnit r * (IntKind.u64.wrap (IntKind.i64.wrap (1 + pick r.a16 60))))
  a17 := cSusp r
  a18 := IntKind.i64.wrap ((IntKind.i64.wrap (cSusp r + 1)) + pick r.a18 4)
  a19 := IntKind.i64.wrap (1 + pick r.a19 12)
  a20 := Int.tmod r.a20 1000
  a21 := Int.tmod r.a21 1000
structure Cf.good (c : Cf) : Prop where
  a0 : 2 ≤ c.a0 ∧ c.a0 ≤ 4
  a1 : 1 ≤ c.a1 ∧ c.a1 ≤ 4
  a2 : 1 ≤ c.a2 ∧ c.a2 ≤ 8
  a3 : 1 ≤ c.a3 ∧ c.a3 ≤ 4096 ∧ Int.tmod c.a3 16 = 0
  a4 : 1 ≤ c.a4 ∧ c.a4 ≤ 64
  a5 : 1 ≤ c.a5 ∧ c.a5 ≤ 64
  a6 : 1 ≤ c.a6 ∧ c.a6 ≤ 16
  a7 : 1 ≤ c.a7 ∧ c.a7 ≤ 8
  a8 : 1 ≤ c.a8 ∧ c.a8 ≤ 64
  a9 : 1 ≤ c.a9 ∧ c.a9 ≤ 256
  a10 : 1 ≤ c.a10 ∧ c.a10 ≤ 16
  a11 : 4 ≤ c.a11 ∧ c.a11 ≤ 23
  a12 : 0 ≤ c.a12 ∧ c.a12 < c.a11
  a13 : 0 ≤ c.a13 ∧ c.a13 ≤ 5497 ∧ 16 * c.a11 ≤ c.a13
  a14 : 1 ≤ c.a14 ∧ c.a14 ≤ 30
  a15 : c.a14 ≤ c.a15 ∧ c.a15 ≤ 89
  a16 : 1 ≤ c.a16 ∧ c.a16 ≤ 1380
  a17 : 1 ≤ c.a17 ∧ c.a17 ≤ 4
  a18 : c.a17 < c.a18 ∧ c.a18 < 40
  a19 : 1 ≤ c.a19 ∧ c.a19 ≤ 64
  a20 : 0 ≤ c.a20 ∧ c.a20 < 1000
  a21 : 0 ≤ c.a21 ∧ c.a21 < 1000
theorem cUnit_is (r : Cf) : 4 ≤ cUnit r ∧ cUnit r ≤ 23 := by
  have h := @pick_lt r.a11 20 (by decide)
  unfold cUnit
  rw [wrap_i64 (by omega) (by omega), wrap_u64' (by omega) (by omega)]
  omega
theorem cWait_is (r : Cf) : 1 ≤ cWait r ∧ cWait r ≤ 30 := by
  have h := @pick_lt r.a14 30 (by decide)
  unfold cWait
  rw [wrap_i64 (by omega) (by omega), wrap_u64' (by omega) (by omega)]
  omega
theorem cSusp_is (r : Cf) : 1 ≤ cSusp r ∧ cSusp r ≤ 4 := by
  have h := @pick_lt r.a17 4 (by decide)
  unfold cSusp
  rw [wrap_i64 (by omega) (by omega)]
  omega
theorem cHalf_is (r : Cf) : 2 ≤ IntKind.i64.wrap (Int.tdiv (IntKind.i64.wrap (cUnit r)) 2) ∧ IntKind.i64.wrap (Int.tdiv (IntKind.i64.wrap (cUnit r)) 2) ≤ 11 := by
  have h := cUnit_is r
  rw [wrap_i64 (n := cUnit r) (by omega) (by omega), Int.tdiv_eq_ediv_of_nonneg (by omega)]
  rw [wrap_i64 (by omega) (by omega)]
  omega
theorem conf_good {r : Cf} (h20 : 0 ≤ r.a20) (h21 : 0 ≤ r.a21) : (confOf r).good := by
  have hu := cUnit_is r
  have hw := cWait_is r
  have hs := cSusp_is r
  have hh := cHalf_is r
  refine ⟨?_, ?_, ?_, ?_, ?_, ?_, ?_, ?_, ?_, ?_, ?_, hu, ?_, ?_, hw, ?_, ?_, hs, ?_, ?_, ?_, ?_⟩
  · have h := @pick_lt r.a0 3 (by decide)
    simp only [confOf]
    rw [wrap_i64 (by omega) (by omega)]
    omega
  · have h := @pick_lt r.a1 3 (by decide)
    simp only [confOf]
    rw [wrap_i64 (by omega) (by omega)]
    omega
  · have h := @pick_lt r.a2 4 (by decide)
    simp only [confOf]
    rw [wrap_i64 (by omega) (by omega)]
    omega
  · have h := @pick_lt r.a3 8 (by decide)
    simp only [confOf]
    rw [wrap_i64 (n := 1 + pick r.a3 8) (by omega) (by omega), wrap_i64 (by omega) (by omega)]
    refine ⟨by omega, by omega, ?_⟩
    rw [Int.tmod_eq_emod_of_nonneg (by omega)]
    omega
  · have h := @pick_lt r.a4 14 (by decide)
    simp only [confOf]
    rw [wrap_i64 (by omega) (by omega)]
    omega
  · have h := @pick_lt r.a5 10 (by decide)
    simp only [confOf]
    rw [wrap_i64 (by omega) (by omega)]
    omega
  · have h := @pick_lt r.a6 6 (by decide)
    simp only [confOf]
    rw [wrap_i64 (by omega) (by omega)]
    omega
  · have h := @pick_lt r.a7 4 (by decide)
    simp only [confOf]
    rw [wrap_i64 (by omega) (by omega)]
    omega
  · have h := @pick_lt r.a8 8 (by decide)
    simp only [confOf]
    rw [wrap_i64 (by omega) (by omega)]
    omega
  · have h := @pick_lt r.a9 60 (by decide)
    simp only [confOf]
    rw [wrap_i64 (by omega) (by omega)]
    omega
  · have h := @pick_lt r.a10 4 (by decide)
    simp only [confOf]
    rw [wrap_i64 (by omega) (by omega)]
    omega
  · have h := @pick_lt r.a12 _ (Int.lt_of_lt_of_le (by decide) hh.1)
    simp only [confOf]
    rw [wrap_u64' (by omega) (by omega)]
    refine ⟨h.1, ?_⟩
    have h1 := h.2
    have h2 : IntKind.i64.wrap (Int.tdiv (IntKind.i64.wrap (cUnit r)) 2) ≤ cUnit r := by
      rw [wrap_i64 (n := cUnit r) (by omega) (by omega), Int.tdiv_eq_ediv_of_nonneg (by omega)]
      rw [wrap_i64 (by omega) (by omega)]
      omega
    omega
  · have h := @pick_lt r.a13 200 (by decide)
    simp only [confOf]
    rw [wrap_i64 (n := 40 + pick r.a13 200) (by omega) (by omega), wrap_u64' (n := 40 + pick r.a13 200) (by omega) (by omega)]
    have h1 : cUnit r * (40 + pick r.a13 200) ≤ 23 * 239 := Int.mul_le_mul (by omega) (by omega) (by omega) (by decide)
    have h2 : cUnit r * 40 ≤ cUnit r * (40 + pick r.a13 200) := Int.mul_le_mul_of_nonneg_left (by omega) (by omega)
    rw [wrap_u64' (by omega) (by omega)]
    omega
  · have h := @pick_lt r.a15 60 (by decide)
    simp only [confOf]
    rw [wrap_u64' (n := pick r.a15 60) (by omega) (by omega), wrap_u64' (by omega) (by omega)]
    omega
  · have h := @pick_lt r.a16 60 (by decide)
    simp only [confOf]
    rw [wrap_i64 (n := 1 + pick r.a16 60) (by omega) (by omega), wrap_u64' (n := 1 + pick r.a16 60) (by omega) (by omega)]
    have h1 : cUnit r * (1 + pick r.a16 60) ≤ 23 * 60 := Int.mul_le_mul (by omega) (by omega) (by omega) (by decide)
    have h2 : cUnit r * 1 ≤ cUnit r * (1 + pick r.a16 60) := Int.mul_le_mul_of_nonneg_left (by omega) (by omega)
    rw [wrap_u64' (by omega) (by omega)]
    omega
  · have h := @pick_lt r.a18 4 (by decide)
    simp only [confOf]
    rw [wrap_i64 (n := cSusp r + 1) (by omega) (by omega), wrap_i64 (by omega) (by omega)]
    omega
  · have h := @pick_lt r.a19 12 (by decide)
    simp only [confOf]
    rw [wrap_i64 (by omega) (by omega)]
    omega
  · simp only [confOf]
    rw [Int.tmod_eq_emod_of_nonneg h20]
    omega
  · simp only [confOf]
    rw [Int.tmod_eq_emod_of_nonneg h21]
    omega

section
variable {H0 H : Hp} {L M N : List Prt} {i k tb : Nat} {r c : Cf} {K : Value → Hp → Prop}
theorem inC {n m : Int} (hK : K (.bool (decide (n ≥ 1) && decide (n ≤ m))) H) : hcall PR f_api_in ⟨[.int .i64 n, .int .i64 m]⟩ H K := by
  apply den_api_in
  unfold B_api_in
  by_cases h : n ≥ 1
  · rw [decide_eq_true h, Bool.true_and] at hK
    exact bif_pos h hK
  · rw [decide_eq_false h, Bool.false_and] at hK
    exact bif_neg h hK
theorem inT {n m : Int} (h : 1 ≤ n ∧ n ≤ m) (hK : K (.bool true) H) : hcall PR f_api_in ⟨[.int .i64 n, .int .i64 m]⟩ H K := inC (by rw [decide_eq_true h.1, decide_eq_true h.2]; exact hK)
theorem mayC (hg : c.good) (h : St H0 L H) (hK : ∀ H', St H0 L H' → K (.bool true) H') : hcall PR f_api_May ⟨[c.val]⟩ H K := by
  apply den_api_May
  unfold B_api_May
  intro b23 hb23
  have g := h.alloc (o := .cells #[.int .i64 c.a0, .int .i64 c.a1, .int .i64 c.a2, .int .i64 c.a3, .int .i64 c.a4, .int .i64 c.a5, .int .i64 c.a6, .int .i64 c.a7, .int .i64 c.a8, .int .i64 c.a9, .int .i64 c.a10, .int .u64 c.a11, .int .u64 c.a12, .int .u64 c.a13, .int .u64 c.a14, .int .u64 c.a15, .int .u64 c.a16, .int .i64 c.a17, .int .i64 c.a18, .int .i64 c.a19, .int .u64 c.a20, .int .u64 c.a21] ty_api_Config) hb23
  have hK := hK _ g.less
  intro R25 hR25
  have hR25 := hR25 true _ (by
    intro R28 hR28
    have hR28 := hR28 true _ (by
      intro R31 hR31
      have hR31 := hR31 true _ (by
        intro R34 hR34
        have hR34 := hR34 true _ (by
          simp only [condT]
          refine ldI_of (g.cell (i := 0) rfl rfl) (inT ⟨hg.a17.1, by have := hg.a17.2; omega⟩ ?_)
          (try simp only [asI_mk', asB_mk, asP_mk, asA_mk, asM_mk, asSl_mk, asStr_mk, tup2_mk, tup3_mk, agg1_mk, agg2_mk, agg3_mk, agg4_mk, asAggm, unCons_mk, unNil_mk, asTup_mk, extractD0, extractD1, List.toList_toArray, nilP_mk, add_mk, Nat.zero_add, Nat.add_zero, condT, condF, Bool.not_true, Bool.not_false, Option.isNone_some, Option.isNone_none])
          refine ldI_of (g.cell (i := 0) rfl rfl) (ldI_of (g.cell (i := 0) rfl rfl) (bif_pos (by have := hg.a18.1; omega) (ldI_of (g.cell (i := 0) rfl rfl) (bif_pos hg.a18.2 ?_))))
          refine ldI_of (g.cell (i := 0) rfl rfl) (inT hg.a19 ?_)
          (try simp only [asI_mk', asB_mk, asP_mk, asA_mk, asM_mk, asSl_mk, asStr_mk, tup2_mk, tup3_mk, agg1_mk, agg2_mk, agg3_mk, agg4_mk, asAggm, unCons_mk, unNil_mk, asTup_mk, extractD0, extractD1, List.toList_toArray, nilP_mk, add_mk, Nat.zero_add, Nat.add_zero, condT, condF, Bool.not_true, Bool.not_false, Option.isNone_some, Option.isNone_none])
          refine ldI_of (g.cell (i := 0) rfl rfl) (bif_pos (by have := hg.a20.2; omega) (ldI_of (g.cell (i := 0) rfl rfl) ?_))
          rw [decide_eq_true (by have := hg.a21.2; omega : c.a21 ≤ 72057594037927935)]
          exact hK)
        have e := hg.a15
        have e2 := hg.a16
        have e3 := hg.a14
        refine ldI_of (g.cell (i := 0) rfl rfl) (bif_pos (by omega) (ldI_of (g.cell (i := 0) rfl rfl) (ldI_of (g.cell (i := 0) rfl rfl) (bif_pos e.1 (ldI_of (g.cell (i := 0) rfl rfl) (bif_pos (by omega) (ldI_of (g.cell (i := 0) rfl rfl) (bif_pos (by omega) (ldI_of (g.cell (i := 0) rfl rfl) ?_)))))))))
        rw [decide_eq_true (by omega : c.a16 ≤ 4294967295)]
        exact hR34)
      have e := hg.a11
      have e2 := hg.a12
      have e3 := hg.a13
      refine ldI_of (g.cell (i := 0) rfl rfl) (bif_pos (by omega) (ldI_of (g.cell (i := 0) rfl rfl) (bif_pos (by omega) (ldI_of (g.cell (i := 0) rfl rfl) (ldI_of (g.cell (i := 0) rfl rfl) (bif_pos e2.2 (ldI_of (g.cell (i := 0) rfl rfl) (bif_pos (by omega) ?_))))))))
      refine ldI_of (g.cell (i := 0) rfl rfl) (ldI_of (g.cell (i := 0) rfl rfl) (ldI_of (g.cell (i := 0) rfl rfl) (ldI_of (g.cell (i := 0) rfl rfl) (ldI_of (g.cell (i := 0) rfl rfl) ?_))))
      have h1 : c.a13 * 1 ≤ c.a13 * (c.a11 - c.a12) := Int.mul_le_mul_of_nonneg_left (by omega) (by omega)
      have h2 : c.a13 * (c.a11 - c.a12) ≤ 5497 * 23 := Int.mul_le_mul (by omega) (by omega) (by omega) (by decide)
      rw [wrap_u64' (n := c.a11 - c.a12) (by omega) (by omega), wrap_u64' (n := c.a11 + c.a12) (by omega) (by omega), wrap_u64' (n := 8 * (c.a11 + c.a12)) (by omega) (by omega), wrap_u64' (n := c.a13 * (c.a11 - c.a12)) (by omega) (by omega)]
      rw [decide_eq_true (by omega : c.a13 * (c.a11 - c.a12) ≥ 8 * (c.a11 + c.a12))]
      exact hR31)
    refine ldI_of (g.cell (i := 0) rfl rfl) (inT hg.a4 ?_)
    (try simp only [asI_mk', asB_mk, asP_mk, asA_mk, asM_mk, asSl_mk, asStr_mk, tup2_mk, tup3_mk, agg1_mk, agg2_mk, agg3_mk, agg4_mk, asAggm, unCons_mk, unNil_mk, asTup_mk, extractD0, extractD1, List.toList_toArray, nilP_mk, add_mk, Nat.zero_add, Nat.add_zero, condT, condF, Bool.not_true, Bool.not_false, Option.isNone_some, Option.isNone_none])
    refine ldI_of (g.cell (i := 0) rfl rfl) (inT hg.a5 ?_)
    (try simp only [asI_mk', asB_mk, asP_mk, asA_mk, asM_mk, asSl_mk, asStr_mk, tup2_mk, tup3_mk, agg1_mk, agg2_mk, agg3_mk, agg4_mk, asAggm, unCons_mk, unNil_mk, asTup_mk, extractD0, extractD1, List.toList_toArray, nilP_mk, add_mk, Nat.zero_add, Nat.add_zero, condT, condF, Bool.not_true, Bool.not_false, Option.isNone_some, Option.isNone_none])
    refine ldI_of (g.cell (i := 0) rfl rfl) (inT hg.a6 ?_)
    (try simp only [asI_mk', asB_mk, asP_mk, asA_mk, asM_mk, asSl_mk, asStr_mk, tup2_mk, tup3_mk, agg1_mk, agg2_mk, agg3_mk, agg4_mk, asAggm, unCons_mk, unNil_mk, asTup_mk, extractD0, extractD1, List.toList_toArray, nilP_mk, add_mk, Nat.zero_add, Nat.add_zero, condT, condF, Bool.not_true, Bool.not_false, Option.isNone_some, Option.isNone_none])
    refine ldI_of (g.cell (i := 0) rfl rfl) (inT hg.a7 ?_)
    (try simp only [asI_mk', asB_mk, asP_mk, asA_mk, asM_mk, asSl_mk, asStr_mk, tup2_mk, tup3_mk, agg1_mk, agg2_mk, agg3_mk, agg4_mk, asAggm, unCons_mk, unNil_mk, asTup_mk, extractD0, extractD1, List.toList_toArray, nilP_mk, add_mk, Nat.zero_add, Nat.add_zero, condT, condF, Bool.not_true, Bool.not_false, Option.isNone_some, Option.isNone_none])
    refine ldI_of (g.cell (i := 0) rfl rfl) (inT hg.a8 ?_)
    (try simp only [asI_mk', asB_mk, asP_mk, asA_mk, asM_mk, asSl_mk, asStr_mk, tup2_mk, tup3_mk, agg1_mk, agg2_mk, agg3_mk, agg4_mk, asAggm, unCons_mk, unNil_mk, asTup_mk, extractD0, extractD1, List.toList_toArray, nilP_mk, add_mk, Nat.zero_add, Nat.add_zero, condT, condF, Bool.not_true, Bool.not_false, Option.isNone_some, Option.isNone_none])
    refine ldI_of (g.cell (i := 0) rfl rfl) (inT hg.a9 ?_)
    (try simp only [asI_mk', asB_mk, asP_mk, asA_mk, asM_mk, asSl_mk, asStr_mk, tup2_mk, tup3_mk, agg1_mk, agg2_mk, agg3_mk, agg4_mk, asAggm, unCons_mk, unNil_mk, asTup_mk, extractD0, extractD1, List.toList_toArray, nilP_mk, add_mk, Nat.zero_add, Nat.add_zero, condT, condF, Bool.not_true, Bool.not_false, Option.isNone_some, Option.isNone_none])
    refine ldI_of (g.cell (i := 0) rfl rfl) (inT hg.a10 ?_)
    (try simp only [asI_mk', asB_mk, asP_mk, asA_mk, asM_mk, asSl_mk, asStr_mk, tup2_mk, tup3_mk, agg1_mk, agg2_mk, agg3_mk, agg4_mk, asAggm, unCons_mk, unNil_mk, asTup_mk, extractD0, extractD1, List.toList_toArray, nilP_mk, add_mk, Nat.zero_add, Nat.add_zero, condT, condF, Bool.not_true, Bool.not_false, Option.isNone_some, Option.isNone_none])
    exact hR28)
  refine ldI_of (g.cell (i := 0) rfl rfl) (inT ⟨by have := hg.a0; omega, by have := hg.a0; omega⟩ ?_)
  (try simp only [asI_mk', asB_mk, asP_mk, asA_mk, asM_mk, asSl_mk, asStr_mk, tup2_mk, tup3_mk, agg1_mk, agg2_mk, agg3_mk, agg4_mk, asAggm, unCons_mk, unNil_mk, asTup_mk, extractD0, extractD1, List.toList_toArray, nilP_mk, add_mk, Nat.zero_add, Nat.add_zero, condT, condF, Bool.not_true, Bool.not_false, Option.isNone_some, Option.isNone_none])
  refine ldI_of (g.cell (i := 0) rfl rfl) (inT hg.a1 ?_)
  (try simp only [asI_mk', asB_mk, asP_mk, asA_mk, asM_mk, asSl_mk, asStr_mk, tup2_mk, tup3_mk, agg1_mk, agg2_mk, agg3_mk, agg4_mk, asAggm, unCons_mk, unNil_mk, asTup_mk, extractD0, extractD1, List.toList_toArray, nilP_mk, add_mk, Nat.zero_add, Nat.add_zero, condT, condF, Bool.not_true, Bool.not_false, Option.isNone_some, Option.isNone_none])
  refine ldI_of (g.cell (i := 0) rfl rfl) (inT hg.a2 ?_)
  (try simp only [asI_mk', asB_mk, asP_mk, asA_mk, asM_mk, asSl_mk, asStr_mk, tup2_mk, tup3_mk, agg1_mk, agg2_mk, agg3_mk, agg4_mk, asAggm, unCons_mk, unNil_mk, asTup_mk, extractD0, extractD1, List.toList_toArray, nilP_mk, add_mk, Nat.zero_add, Nat.add_zero, condT, condF, Bool.not_true, Bool.not_false, Option.isNone_some, Option.isNone_none])
  refine ldI_of (g.cell (i := 0) rfl rfl) (inT ⟨hg.a3.1, hg.a3.2.1⟩ ?_)
  (try simp only [asI_mk', asB_mk, asP_mk, asA_mk, asM_mk, asSl_mk, asStr_mk, tup2_mk, tup3_mk, agg1_mk, agg2_mk, agg3_mk, agg4_mk, asAggm, unCons_mk, unNil_mk, asTup_mk, extractD0, extractD1, List.toList_toArray, nilP_mk, add_mk, Nat.zero_add, Nat.add_zero, condT, condF, Bool.not_true, Bool.not_false, Option.isNone_some, Option.isNone_none])
  refine ldI_of (g.cell (i := 0) rfl rfl) ⟨by decide, ?_⟩
  rw [show ((Int.tmod c.a3 16) == 0) = true by rw [hg.a3.2.2]; rfl]
  exact hR25
theorem configC (h : St H0 L H) (hK : ∀ H', St H0 L H' → K (confOf r).val H') : hcall PR f_hand_Config ⟨[r.raw]⟩ H K := by
  apply den_hand_Config
  unfold B_hand_Config
  intro b23 hb23
  have g1 := h.alloc (o := .cells #[.int .i64 r.a0, .int .i64 r.a1, .int .i64 r.a2, .int .i64 r.a3, .int .i64 r.a4, .int .i64 r.a5, .int .i64 r.a6, .int .i64 r.a7, .int .i64 r.a8, .int .i64 r.a9, .int .i64 r.a10, .int .i64 r.a11, .int .i64 r.a12, .int .i64 r.a13, .int .i64 r.a14, .int .i64 r.a15, .int .i64 r.a16, .int .i64 r.a17, .int .i64 r.a18, .int .i64 r.a19, .int .u64 r.a20, .int .u64 r.a21] ty_hand_Raw) hb23
  intro b25 hb25
  have g2 := g1.alloc (o := .cells #[.int .i64 0, .int .i64 0, .int .i64 0, .int .i64 0, .int .i64 0, .int .i64 0, .int .i64 0, .int .i64 0, .int .i64 0, .int .i64 0, .int .i64 0, .int .u64 0, .int .u64 0, .int .u64 0, .int .u64 0, .int .u64 0, .int .u64 0, .int .i64 0, .int .i64 0, .int .i64 0, .int .u64 0, .int .u64 0] ty_api_Config) hb25
  have g2 : St H0 (Prt.one b25 (.cells #[.int .i64 0, .int .i64 0, .int .i64 0, .int .i64 0, .int .i64 0, .int .i64 0, .int .i64 0, .int .i64 0, .int .i64 0, .int .i64 0, .int .i64 0, .int .u64 0, .int .u64 0, .int .u64 0, .int .u64 0, .int .u64 0, .int .u64 0, .int .i64 0, .int .i64 0, .int .i64 0, .int .u64 0, .int .u64 0] ty_api_Config (0, 0)) :: Prt.one b23 (.cells #[.int .i64 r.a0, .int .i64 r.a1, .int .i64 r.a2, .int .i64 r.a3, .int .i64 r.a4, .int .i64 r.a5, .int .i64 r.a6, .int .i64 r.a7, .int .i64 r.a8, .int .i64 r.a9, .int .i64 r.a10, .int .i64 r.a11, .int .i64 r.a12, .int .i64 r.a13, .int .i64 r.a14, .int .i64 r.a15, .int .i64 r.a16, .int .i64 r.a17, .int .i64 r.a18, .int .i64 r.a19, .int .u64 r.a20, .int .u64 r.a21] ty_hand_Raw (0, 0)) :: L) _ := g2
  clear g1 h
  intro R27 hR27
  have hR27 : ∀ bc H', St H0 (Prt.one bc (.cells #[.int .i64 (confOf r).a0, .int .i64 (confOf r).a1, .int .i64 (confOf r).a2, .int .i64 (confOf r).a3, .int .i64 0, .int .i64 0, .int .i64 0, .int .i64 0, .int .i64 0, .int .i64 0, .int .i64 0, .int .u64 0, .int .u64 0, .int .u64 0, .int .u64 0, .int .u64 0, .int .u64 0, .int .i64 0, .int .i64 0, .int .i64 0, .int .u64 0, .int .u64 0] ty_api_Config (0, 0)) :: Prt.one b25 (.cells #[.int .i64 0, .int .i64 0, .int .i64 0, .int .i64 0, .int .i64 0, .int .i64 0, .int .i64 0, .int .i64 0, .int .i64 0, .int .i64 0, .int .i64 0, .int .u64 0, .int .u64 0, .int .u64 0, .int .u64 0, .int .u64 0, .int .u64 0, .int .i64 0, .int .i64 0, .int .i64 0, .int .u64 0, .int .u64 0] ty_api_Config (0, 0)) :: Prt.one b23 (.cells #[.int .i64 r.a0, .int .i64 r.a1, .int .i64 r.a2, .int .i64 r.a3, .int .i64 r.a4, .int .i64 r.a5, .int .i64 r.a6, .int .i64 r.a7, .int .i64 r.a8, .int .i64 r.a9, .int .i64 r.a10, .int .i64 r.a11, .int .i64 r.a12, .int .i64 r.a13, .int .i64 r.a14, .int .i64 r.a15, .int .i64 r.a16, .int .i64 r.a17, .int .i64 r.a18, .int .i64 r.a19, .int .u64 r.a20, .int .u64 r.a21] ty_hand_Raw (0, 0)) :: L) H' → R27 (some ⟨bc, 0, none⟩) H' := fun bc H' g4 => by
    refine hR27 _ H' ?_
    clear hR27 g2
    (try simp only [asI_mk', asB_mk, asP_mk, asA_mk, asM_mk, asSl_mk, asStr_mk, tup2_mk, tup3_mk, agg1_mk, agg2_mk, agg3_mk, agg4_mk, asAggm, unCons_mk, unNil_mk, asTup_mk, extractD0, extractD1, List.toList_toArray, nilP_mk, add_mk, Nat.zero_add, Nat.add_zero, condT, condF, Bool.not_true, Bool.not_false, Option.isNone_some, Option.isNone_none])
    refine ldI_of (g4.cell (i := 2) rfl rfl) (Pick_ok (by decide) (by decide) ?_)
    (try simp only [asI_mk', asB_mk, asP_mk, asA_mk, asM_mk, asSl_mk, asStr_mk, tup2_mk, tup3_mk, agg1_mk, agg2_mk, agg3_mk, agg4_mk, asAggm, unCons_mk, unNil_mk, asTup_mk, extractD0, extractD1, List.toList_toArray, nilP_mk, add_mk, Nat.zero_add, Nat.add_zero, condT, condF, Bool.not_true, Bool.not_false, Option.isNone_some, Option.isNone_none])
    refine g4.put (i := 0) rfl (show 4 < 22 by decide) fun H5 g5 => ?_
    have g5 : St H0 (Prt.one bc (.cells #[.int .i64 (confOf r).a0, .int .i64 (confOf r).a1, .int .i64 (confOf r).a2, .int .i64 (confOf r).a3, .int .i64 (confOf r).a4, .int .i64 0, .int .i64 0, .int .i64 0, .int .i64 0, .int .i64 0, .int .i64 0, .int .u64 0, .int .u64 0, .int .u64 0, .int .u64 0, .int .u64 0, .int .u64 0, .int .i64 0, .int .i64 0, .int .i64 0, .int .u64 0, .int .u64 0] ty_api_Config (0, 0)) :: Prt.one b25 (.cells #[.int .i64 0, .int .i64 0, .int .i64 0, .int .i64 0, .int .i64 0, .int .i64 0, .int .i64 0, .int .i64 0, .int .i64 0, .int .i64 0, .int .i64 0, .int .u64 0, .int .u64 0, .int .u64 0, .int .u64 0, .int .u64 0, .int .u64 0, .int .i64 0, .int .i64 0, .int .i64 0, .int .u64 0, .int .u64 0] ty_api_Config (0, 0)) :: Prt.one b23 (.cells #[.int .i64 r.a0, .int .i64 r.a1, .int .i64 r.a2, .int .i64 r.a3, .int .i64 r.a4, .int .i64 r.a5, .int .i64 r.a6, .int .i64 r.a7, .int .i64 r.a8, .int .i64 r.a9, .int .i64 r.a10, .int .i64 r.a11, .int .i64 r.a12, .int .i64 r.a13, .int .i64 r.a14, .int .i64 r.a15, .int .i64 r.a16, .int .i64 r.a17, .int .i64 r.a18, .int .i64 r.a19, .int .u64 r.a20, .int .u64 r.a21] ty_hand_Raw (0, 0)) :: L) H5 := g5
    refine ldI_of (g5.cell (i := 2) rfl rfl) (Pick_ok (by decide) (by decide) ?_)
    (try simp only [asI_mk', asB_mk, asP_mk, asA_mk, asM_mk, asSl_mk, asStr_mk, tup2_mk, tup3_mk, agg1_mk, agg2_mk, agg3_mk, agg4_mk, asAggm, unCons_mk, unNil_mk, asTup_mk, extractD0, extractD1, List.toList_toArray, nilP_mk, add_mk, Nat.zero_add, Nat.add_zero, condT, condF, Bool.not_true, Bool.not_false, Option.isNone_some, Option.isNone_none])
    refine g5.put (i := 0) rfl (show 5 < 22 by decide) fun H6 g6 => ?_
    have g6 : St H0 (Prt.one bc (.cells #[.int .i64 (confOf r).a0, .int .i64 (confOf r).a1, .int .i64 (confOf r).a2, .int .i64 (confOf r).a3, .int .i64 (confOf r).a4, .int .i64 (confOf r).a5, .int .i64 0, .int .i64 0, .int .i64 0, .int .i64 0, .int .i64 0, .int .u64 0, .int .u64 0, .int .u64 0, .int .u64 0, .int .u64 0, .int .u64 0, .int .i64 0, .int .i64 0, .int .i64 0, .int .u64 0, .int .u64 0] ty_api_Config (0, 0)) :: Prt.one b25 (.cells #[.int .i64 0, .int .i64 0, .int .i64 0, .int .i64 0, .int .i64 0, .int .i64 0, .int .i64 0, .int .i64 0, .int .i64 0, .int .i64 0, .int .i64 0, .int .u64 0, .int .u64 0, .int .u64 0, .int .u64 0, .int .u64 0, .int .u64 0, .int .i64 0, .int .i64 0, .int .i64 0, .int .u64 0, .int .u64 0] ty_api_Config (0, 0)) :: Prt.one b23 (.cells #[.int .i64 r.a0, .int .i64 r.a1, .int .i64 r.a2, .int .i64 r.a3, .int .i64 r.a4, .int .i64 r.a5, .int .i64 r.a6, .int .i64 r.a7, .int .i64 r.a8, .int .i64 r.a9, .int .i64 r.a10, .int .i64 r.a11, .int .i64 r.a12, .int .i64 r.a13, .int .i64 r.a14, .int .i64 r.a15, .int .i64 r.a16, .int .i64 r.a17, .int .i64 r.a18, .int .i64 r.a19, .int .u64 r.a20, .int .u64 r.a21] ty_hand_Raw (0, 0)) :: L) H6 := g6
    refine ldI_of (g6.cell (i := 2) rfl rfl) (Pick_ok (by decide) (by decide) ?_)
    (try simp only [asI_mk', asB_mk, asP_mk, asA_mk, asM_mk, asSl_mk, asStr_mk, tup2_mk, tup3_mk, agg1_mk, agg2_mk, agg3_mk, agg4_mk, asAggm, unCons_mk, unNil_mk, asTup_mk, extractD0, extractD1, List.toList_toArray, nilP_mk, add_mk, Nat.zero_add, Nat.add_zero, condT, condF, Bool.not_true, Bool.not_false, Option.isNone_some, Option.isNone_none])
    refine g6.put (i := 0) rfl (show 6 < 22 by decide) fun H7 g7 => ?_
    have g7 : St H0 (Prt.one bc (.cells #[.int .i64 (confOf r).a0, .int .i64 (confOf r).a1, .int .i64 (confOf r).a2, .int .i64 (confOf r).a3, .int .i64 (confOf r).a4, .int .i64 (confOf r).a5, .int .i64 (confOf r).a6, .int .i64 0, .int .i64 0, .int .i64 0, .int .i64 0, .int .u64 0, .int .u64 0, .int .u64 0, .int .u64 0, .int .u64 0, .int .u64 0, .int .i64 0, .int .i64 0, .int .i64 0, .int .u64 0, .int .u64 0] ty_api_Config (0, 0)) :: Prt.one b25 (.cells #[.int .i64 0, .int .i64 0, .int .i64 0, .int .i64 0, .int .i64 0, .int .i64 0, .int .i64 0, .int .i64 0, .int .i64 0, .int .i64 0, .int .i64 0, .int .u64 0, .int .u64 0, .int .u64 0, .int .u64 0, .int .u64 0, .int .u64 0, .int .i64 0, .int .i64 0, .int .i64 0, .int .u64 0, .int .u64 0] ty_api_Config (0, 0)) :: Prt.one b23 (.cells #[.int .i64 r.a0, .int .i64 r.a1, .int .i64 r.a2, .int .i64 r.a3, .int .i64 r.a4, .int .i64 r.a5, .int .i64 r.a6, .int .i64 r.a7, .int .i64 r.a8, .int .i64 r.a9, .int .i64 r.a10, .int .i64 r.a11, .int .i64 r.a12, .int .i64 r.a13, .int .i64 r.a14, .int .i64 r.a15, .int .i64 r.a16, .int .i64 r.a17, .int .i64 r.a18, .int .i64 r.a19, .int .u64 r.a20, .int .u64 r.a21] ty_hand_Raw (0, 0)) :: L) H7 := g7
    refine ldI_of (g7.cell (i := 2) rfl rfl) (Pick_ok (by decide) (by decide) ?_)
    (try simp only [asI_mk', asB_mk, asP_mk, asA_mk, asM_mk, asSl_mk, asStr_mk, tup2_mk, tup3_mk, agg1_mk, agg2_mk, agg3_mk, agg4_mk, asAggm, unCons_mk, unNil_mk, asTup_mk, extractD0, extractD1, List.toList_toArray, nilP_mk, add_mk, Nat.zero_add, Nat.add_zero, condT, condF, Bool.not_true, Bool.not_false, Option.isNone_some, Option.isNone_none])
    refine g7.put (i := 0) rfl (show 7 < 22 by decide) fun H8 g8 => ?_
    have g8 : St H0 (Prt.one bc (.cells #[.int .i64 (confOf r).a0, .int .i64 (confOf r).a1, .int .i64 (confOf r).a2, .int .i64 (confOf r).a3, .int .i64 (confOf r).a4, .int .i64 (confOf r).a5, .int .i64 (confOf r).a6, .int .i64 (confOf r).a7, .int .i64 0, .int .i64 0, .int .i64 0, .int .u64 0, .int .u64 0, .int .u64 0, .int .u64 0, .int .u64 0, .int .u64 0, .int .i64 0, .int .i64 0, .int .i64 0, .int .u64 0, .int .u64 0] ty_api_Config (0, 0)) :: Prt.one b25 (.cells #[.int .i64 0, .int .i64 0, .int .i64 0, .int .i64 0, .int .i64 0, .int .i64 0, .int .i64 0, .int .i64 0, .int .i64 0, .int .i64 0, .int .i64 0, .int .u64 0, .int .u64 0, .int .u64 0, .int .u64 0, .int .u64 0, .int .u64 0, .int .i64 0, .int .i64 0, .int .i64 0, .int .u64 0, .int .u64 0] ty_api_Config (0, 0)) :: Prt.one b23 (.cells #[.int .i64 r.a0, .int .i64 r.a1, .int .i64 r.a2, .int .i64 r.a3, .int .i64 r.a4, .int .i64 r.a5, .int .i64 r.a6, .int .i64 r.a7, .int .i64 r.a8, .int .i64 r.a9, .int .i64 r.a10, .int .i64 r.a11, .int .i64 r.a12, .int .i64 r.a13, .int .i64 r.a14, .int .i64 r.a15, .int .i64 r.a16, .int .i64 r.a17, .int .i64 r.a18, .int .i64 r.a19, .int .u64 r.a20, .int .u64 r.a21] ty_hand_Raw (0, 0)) :: L) H8 := g8
    refine ldI_of (g8.cell (i := 2) rfl rfl) (Pick_ok (by decide) (by decide) ?_)
    (try simp only [asI_mk', asB_mk, asP_mk, asA_mk, asM_mk, asSl_mk, asStr_mk, tup2_mk, tup3_mk, agg1_mk, agg2_mk, agg3_mk, agg4_mk, asAggm, unCons_mk, unNil_mk, asTup_mk, extractD0, extractD1, List.toList_toArray, nilP_mk, add_mk, Nat.zero_add, Nat.add_zero, condT, condF, Bool.not_true, Bool.not_false, Option.isNone_some, Option.isNone_none])
    refine g8.put (i := 0) rfl (show 8 < 22 by decide) fun H9 g9 => ?_
    have g9 : St H0 (Prt.one bc (.cells #[.int .i64 (confOf r).a0, .int .i64 (confOf r).a1, .int .i64 (confOf r).a2, .int .i64 (confOf r).a3, .int .i64 (confOf r).a4, .int .i64 (confOf r).a5, .int .i64 (confOf r).a6, .int .i64 (confOf r).a7, .int .i64 (confOf r).a8, .int .i64 0, .int .i64 0, .int .u64 0, .int .u64 0, .int .u64 0, .int .u64 0, .int .u64 0, .int .u64 0, .int .i64 0, .int .i64 0, .int .i64 0, .int .u64 0, .int .u64 0] ty_api_Config (0, 0)) :: Prt.one b25 (.cells #[.int .i64 0, .int .i64 0, .int .i64 0, .int .i64 0, .int .i64 0, .int .i64 0, .int .i64 0, .int .i64 0, .int .i64 0, .int .i64 0, .int .i64 0, .int .u64 0, .int .u64 0, .int .u64 0, .int .u64 0, .int .u64 0, .int .u64 0, .int .i64 0, .int .i64 0, .int .i64 0, .int .u64 0, .int .u64 0] ty_api_Config (0, 0)) :: Prt.one b23 (.cells #[.int .i64 r.a0, .int .i64 r.a1, .int .i64 r.a2, .int .i64 r.a3, .int .i64 r.a4, .int .i64 r.a5, .int .i64 r.a6, .int .i64 r.a7, .int .i64 r.a8, .int .i64 r.a9, .int .i64 r.a10, .int .i64 r.a11, .int .i64 r.a12, .int .i64 r.a13, .int .i64 r.a14, .int .i64 r.a15, .int .i64 r.a16, .int .i64 r.a17, .int .i64 r.a18, .int .i64 r.a19, .int .u64 r.a20, .int .u64 r.a21] ty_hand_Raw (0, 0)) :: L) H9 := g9
    refine ldI_of (g9.cell (i := 2) rfl rfl) (Pick_ok (by decide) (by decide) ?_)
    (try simp only [asI_mk', asB_mk, asP_mk, asA_mk, asM_mk, asSl_mk, asStr_mk, tup2_mk, tup3_mk, agg1_mk, agg2_mk, agg3_mk, agg4_mk, asAggm, unCons_mk, unNil_mk, asTup_mk, extractD0, extractD1, List.toList_toArray, nilP_mk, add_mk, Nat.zero_add, Nat.add_zero, condT, condF, Bool.not_true, Bool.not_false, Option.isNone_some, Option.isNone_none])
    refine g9.put (i := 0) rfl (show 9 < 22 by decide) fun H10 g10 => ?_
    have g10 : St H0 (Prt.one bc (.cells #[.int .i64 (confOf r).a0, .int .i64 (confOf r).a1, .int .i64 (confOf r).a2, .int .i64 (confOf r).a3, .int .i64 (confOf r).a4, .int .i64 (confOf r).a5, .int .i64 (confOf r).a6, .int .i64 (confOf r).a7, .int .i64 (confOf r).a8, .int .i64 (confOf r).a9, .int .i64 0, .int .u64 0, .int .u64 0, .int .u64 0, .int .u64 0, .int .u64 0, .int .u64 0, .int .i64 0, .int .i64 0, .int .i64 0, .int .u64 0, .int .u64 0] ty_api_Config (0, 0)) :: Prt.one b25 (.cells #[.int .i64 0, .int .i64 0, .int .i64 0, .int .i64 0, .int .i64 0, .int .i64 0, .int .i64 0, .int .i64 0, .int .i64 0, .int .i64 0, .int .i64 0, .int .u64 0, .int .u64 0, .int .u64 0, .int .u64 0, .int .u64 0, .int .u64 0, .int .i64 0, .int .i64 0, .int .i64 0, .int .u64 0, .int .u64 0] ty_api_Config (0, 0)) :: Prt.one b23 (.cells #[.int .i64 r.a0, .int .i64 r.a1, .int .i64 r.a2, .int .i64 r.a3, .int .i64 r.a4, .int .i64 r.a5, .int .i64 r.a6, .int .i64 r.a7, .int .i64 r.a8, .int .i64 r.a9, .int .i64 r.a10, .int .i64 r.a11, .int .i64 r.a12, .int .i64 r.a13, .int .i64 r.a14, .int .i64 r.a15, .int .i64 r.a16, .int .i64 r.a17, .int .i64 r.a18, .int .i64 r.a19, .int .u64 r.a20, .int .u64 r.a21] ty_hand_Raw (0, 0)) :: L) H10 := g10
    refine ldI_of (g10.cell (i := 2) rfl rfl) (Pick_ok (by decide) (by decide) ?_)
    (try simp only [asI_mk', asB_mk, asP_mk, asA_mk, asM_mk, asSl_mk, asStr_mk, tup2_mk, tup3_mk, agg1_mk, agg2_mk, agg3_mk, agg4_mk, asAggm, unCons_mk, unNil_mk, asTup_mk, extractD0, extractD1, List.toList_toArray, nilP_mk, add_mk, Nat.zero_add, Nat.add_zero, condT, condF, Bool.not_true, Bool.not_false, Option.isNone_some, Option.isNone_none])
    refine g10.put (i := 0) rfl (show 10 < 22 by decide) fun H11 g11 => ?_
    have g11 : St H0 (Prt.one bc (.cells #[.int .i64 (confOf r).a0, .int .i64 (confOf r).a1, .int .i64 (confOf r).a2, .int .i64 (confOf r).a3, .int .i64 (confOf r).a4, .int .i64 (confOf r).a5, .int .i64 (confOf r).a6, .int .i64 (confOf r).a7, .int .i64 (confOf r).a8, .int .i64 (confOf r).a9, .int .i64 (confOf r).a10, .int .u64 0, .int .u64 0, .int .u64 0, .int .u64 0, .int .u64 0, .int .u64 0, .int .i64 0, .int .i64 0, .int .i64 0, .int .u64 0, .int .u64 0] ty_api_Config (0, 0)) :: Prt.one b25 (.cells #[.int .i64 0, .int .i64 0, .int .i64 0, .int .i64 0, .int .i64 0, .int .i64 0, .int .i64 0, .int .i64 0, .int .i64 0, .int .i64 0, .int .i64 0, .int .u64 0, .int .u64 0, .int .u64 0, .int .u64 0, .int .u64 0, .int .u64 0, .int .i64 0, .int .i64 0, .int .i64 0, .int .u64 0, .int .u64 0] ty_api_Config (0, 0)) :: Prt.one b23 (.cells #[.int .i64 r.a0, .int .i64 r.a1, .int .i64 r.a2, .int .i64 r.a3, .int .i64 r.a4, .int .i64 r.a5, .int .i64 r.a6, .int .i64 r.a7, .int .i64 r.a8, .int .i64 r.a9, .int .i64 r.a10, .int .i64 r.a11, .int .i64 r.a12, .int .i64 r.a13, .int .i64 r.a14, .int .i64 r.a15, .int .i64 r.a16, .int .i64 r.a17, .int .i64 r.a18, .int .i64 r.a19, .int .u64 r.a20, .int .u64 r.a21] ty_hand_Raw (0, 0)) :: L) H11 := g11
    refine ldI_of (g11.cell (i := 2) rfl rfl) (Pick_ok (by decide) (by decide) ?_)
    (try simp only [asI_mk', asB_mk, asP_mk, asA_mk, asM_mk, asSl_mk, asStr_mk, tup2_mk, tup3_mk, agg1_mk, agg2_mk, agg3_mk, agg4_mk, asAggm, unCons_mk, unNil_mk, asTup_mk, extractD0, extractD1, List.toList_toArray, nilP_mk, add_mk, Nat.zero_add, Nat.add_zero, condT, condF, Bool.not_true, Bool.not_false, Option.isNone_some, Option.isNone_none])
    refine g11.put (i := 0) rfl (show 11 < 22 by decide) fun H12 g12 => ?_
    have g12 : St H0 (Prt.one bc (.cells #[.int .i64 (confOf r).a0, .int .i64 (confOf r).a1, .int .i64 (confOf r).a2, .int .i64 (confOf r).a3, .int .i64 (confOf r).a4, .int .i64 (confOf r).a5, .int .i64 (confOf r).a6, .int .i64 (confOf r).a7, .int .i64 (confOf r).a8, .int .i64 (confOf r).a9, .int .i64 (confOf r).a10, .int .u64 (confOf r).a11, .int .u64 0, .int .u64 0, .int .u64 0, .int .u64 0, .int .u64 0, .int .i64 0, .int .i64 0, .int .i64 0, .int .u64 0, .int .u64 0] ty_api_Config (0, 0)) :: Prt.one b25 (.cells #[.int .i64 0, .int .i64 0, .int .i64 0, .int .i64 0, .int .i64 0, .int .i64 0, .int .i64 0, .int .i64 0, .int .i64 0, .int .i64 0, .int .i64 0, .int .u64 0, .int .u64 0, .int .u64 0, .int .u64 0, .int .u64 0, .int .u64 0, .int .i64 0, .int .i64 0, .int .i64 0, .int .u64 0, .int .u64 0] ty_api_Config (0, 0)) :: Prt.one b23 (.cells #[.int .i64 r.a0, .int .i64 r.a1, .int .i64 r.a2, .int .i64 r.a3, .int .i64 r.a4, .int .i64 r.a5, .int .i64 r.a6, .int .i64 r.a7, .int .i64 r.a8, .int .i64 r.a9, .int .i64 r.a10, .int .i64 r.a11, .int .i64 r.a12, .int .i64 r.a13, .int .i64 r.a14, .int .i64 r.a15, .int .i64 r.a16, .int .i64 r.a17, .int .i64 r.a18, .int .i64 r.a19, .int .u64 r.a20, .int .u64 r.a21] ty_hand_Raw (0, 0)) :: L) H12 := g12
    refine ldI_of (g12.cell (i := 2) rfl rfl) (ldI_of (g12.cell (i := 0) rfl rfl) ⟨by decide, Pick_ok (m := IntKind.i64.wrap (Int.tdiv (IntKind.i64.wrap (cUnit r)) 2)) (by have := cHalf_is r; omega) (by have := cHalf_is r; omega) ?_⟩)
    (try simp only [asI_mk', asB_mk, asP_mk, asA_mk, asM_mk, asSl_mk, asStr_mk, tup2_mk, tup3_mk, agg1_mk, agg2_mk, agg3_mk, agg4_mk, asAggm, unCons_mk, unNil_mk, asTup_mk, extractD0, extractD1, List.toList_toArray, nilP_mk, add_mk, Nat.zero_add, Nat.add_zero, condT, condF, Bool.not_true, Bool.not_false, Option.isNone_some, Option.isNone_none])
    refine g12.put (i := 0) rfl (show 12 < 22 by decide) fun H13 g13 => ?_
    have g13 : St H0 (Prt.one bc (.cells #[.int .i64 (confOf r).a0, .int .i64 (confOf r).a1, .int .i64 (confOf r).a2, .int .i64 (confOf r).a3, .int .i64 (confOf r).a4, .int .i64 (confOf r).a5, .int .i64 (confOf r).a6, .int .i64 (confOf r).a7, .int .i64 (confOf r).a8, .int .i64 (confOf r).a9, .int .i64 (confOf r).a10, .int .u64 (confOf r).a11, .int .u64 (confOf r).a12, .int .u64 0, .int .u64 0, .int .u64 0, .int .u64 0, .int .i64 0, .int .i64 0, .int .i64 0, .int .u64 0, .int .u64 0] ty_api_Config (0, 0)) :: Prt.one b25 (.cells #[.int .i64 0, .int .i64 0, .int .i64 0, .int .i64 0, .int .i64 0, .int .i64 0, .int .i64 0, .int .i64 0, .int .i64 0, .int .i64 0, .int .i64 0, .int .u64 0, .int .u64 0, .int .u64 0, .int .u64 0, .int .u64 0, .int .u64 0, .int .i64 0, .int .i64 0, .int .i64 0, .int .u64 0, .int .u64 0] ty_api_Config (0, 0)) :: Prt.one b23 (.cells #[.int .i64 r.a0, .int .i64 r.a1, .int .i64 r.a2, .int .i64 r.a3, .int .i64 r.a4, .int .i64 r.a5, .int .i64 r.a6, .int .i64 r.a7, .int .i64 r.a8, .int .i64 r.a9, .int .i64 r.a10, .int .i64 r.a11, .int .i64 r.a12, .int .i64 r.a13, .int .i64 r.a14, .int .i64 r.a15, .int .i64 r.a16, .int .i64 r.a17, .int .i64 r.a18, .int .i64 r.a19, .int .u64 r.a20, .int .u64 r.a21] ty_hand_Raw (0, 0)) :: L) H13 := g13
    refine ldI_of (g13.cell (i := 0) rfl rfl) (ldI_of (g13.cell (i := 2) rfl rfl) (Pick_ok (by decide) (by decide) ?_))
    (try simp only [asI_mk', asB_mk, asP_mk, asA_mk, asM_mk, asSl_mk, asStr_mk, tup2_mk, tup3_mk, agg1_mk, agg2_mk, agg3_mk, agg4_mk, asAggm, unCons_mk, unNil_mk, asTup_mk, extractD0, extractD1, List.toList_toArray, nilP_mk, add_mk, Nat.zero_add, Nat.add_zero, condT, condF, Bool.not_true, Bool.not_false, Option.isNone_some, Option.isNone_none])
    refine ⟨ldI_of (g13.cell (i := 0) rfl rfl) rfl, ?_⟩
    refine g13.put (i := 0) rfl (show 13 < 22 by decide) fun H14 g14 => ?_
    have g14 : St H0 (Prt.one bc (.cells #[.int .i64 (confOf r).a0, .int .i64 (confOf r).a1, .int .i64 (confOf r).a2, .int .i64 (confOf r).a3, .int .i64 (confOf r).a4, .int .i64 (confOf r).a5, .int .i64 (confOf r).a6, .int .i64 (confOf r).a7, .int .i64 (confOf r).a8, .int .i64 (confOf r).a9, .int .i64 (confOf r).a10, .int .u64 (confOf r).a11, .int .u64 (confOf r).a12, .int .u64 (confOf r).a13, .int .u64 0, .int .u64 0, .int .u64 0, .int .i64 0, .int .i64 0, .int .i64 0, .int .u64 0, .int .u64 0] ty_api_Config (0, 0)) :: Prt.one b25 (.cells #[.int .i64 0, .int .i64 0, .int .i64 0, .int .i64 0, .int .i64 0, .int .i64 0, .int .i64 0, .int .i64 0, .int .i64 0, .int .i64 0, .int .i64 0, .int .u64 0, .int .u64 0, .int .u64 0, .int .u64 0, .int .u64 0, .int .u64 0, .int .i64 0, .int .i64 0, .int .i64 0, .int .u64 0, .int .u64 0] ty_api_Config (0, 0)) :: Prt.one b23 (.cells #[.int .i64 r.a0, .int .i64 r.a1, .int .i64 r.a2, .int .i64 r.a3, .int .i64 r.a4, .int .i64 r.a5, .int .i64 r.a6, .int .i64 r.a7, .int .i64 r.a8, .int .i64 r.a9, .int .i64 r.a10, .int .i64 r.a11, .int .i64 r.a12, .int .i64 r.a13, .int .i64 r.a14, .int .i64 r.a15, .int .i64 r.a16, .int .i64 r.a17, .int .i64 r.a18, .int .i64 r.a19, .int .u64 r.a20, .int .u64 r.a21] ty_hand_Raw (0, 0)) :: L) H14 := g14
    refine ldI_of (g14.cell (i := 2) rfl rfl) (Pick_ok (by decide) (by decide) ?_)
    (try simp only [asI_mk', asB_mk, asP_mk, asA_mk, asM_mk, asSl_mk, asStr_mk, tup2_mk, tup3_mk, agg1_mk, agg2_mk, agg3_mk, agg4_mk, asAggm, unCons_mk, unNil_mk, asTup_mk, extractD0, extractD1, List.toList_toArray, nilP_mk, add_mk, Nat.zero_add, Nat.add_zero, condT, condF, Bool.not_true, Bool.not_false, Option.isNone_some, Option.isNone_none])
    refine g14.put (i := 0) rfl (show 14 < 22 by decide) fun H15 g15 => ?_
    have g15 : St H0 (Prt.one bc (.cells #[.int .i64 (confOf r).a0, .int .i64 (confOf r).a1, .int .i64 (confOf r).a2, .int .i64 (confOf r).a3, .int .i64 (confOf r).a4, .int .i64 (confOf r).a5, .int .i64 (confOf r).a6, .int .i64 (confOf r).a7, .int .i64 (confOf r).a8, .int .i64 (confOf r).a9, .int .i64 (confOf r).a10, .int .u64 (confOf r).a11, .int .u64 (confOf r).a12, .int .u64 (confOf r).a13, .int .u64 (confOf r).a14, .int .u64 0, .int .u64 0, .int .i64 0, .int .i64 0, .int .i64 0, .int .u64 0, .int .u64 0] ty_api_Config (0, 0)) :: Prt.one b25 (.cells #[.int .i64 0, .int .i64 0, .int .i64 0, .int .i64 0, .int .i64 0, .int .i64 0, .int .i64 0, .int .i64 0, .int .i64 0, .int .i64 0, .int .i64 0, .int .u64 0, .int .u64 0, .int .u64 0, .int .u64 0, .int .u64 0, .int .u64 0, .int .i64 0, .int .i64 0, .int .i64 0, .int .u64 0, .int .u64 0] ty_api_Config (0, 0)) :: Prt.one b23 (.cells #[.int .i64 r.a0, .int .i64 r.a1, .int .i64 r.a2, .int .i64 r.a3, .int .i64 r.a4, .int .i64 r.a5, .int .i64 r.a6, .int .i64 r.a7, .int .i64 r.a8, .int .i64 r.a9, .int .i64 r.a10, .int .i64 r.a11, .int .i64 r.a12, .int .i64 r.a13, .int .i64 r.a14, .int .i64 r.a15, .int .i64 r.a16, .int .i64 r.a17, .int .i64 r.a18, .int .i64 r.a19, .int .u64 r.a20, .int .u64 r.a21] ty_hand_Raw (0, 0)) :: L) H15 := g15
    refine ldI_of (g15.cell (i := 0) rfl rfl) (ldI_of (g15.cell (i := 2) rfl rfl) (Pick_ok (by decide) (by decide) ?_))
    (try simp only [asI_mk', asB_mk, asP_mk, asA_mk, asM_mk, asSl_mk, asStr_mk, tup2_mk, tup3_mk, agg1_mk, agg2_mk, agg3_mk, agg4_mk, asAggm, unCons_mk, unNil_mk, asTup_mk, extractD0, extractD1, List.toList_toArray, nilP_mk, add_mk, Nat.zero_add, Nat.add_zero, condT, condF, Bool.not_true, Bool.not_false, Option.isNone_some, Option.isNone_none])
    refine ⟨ldI_of (g15.cell (i := 0) rfl rfl) rfl, ?_⟩
    refine g15.put (i := 0) rfl (show 15 < 22 by decide) fun H16 g16 => ?_
    have g16 : St H0 (Prt.one bc (.cells #[.int .i64 (confOf r).a0, .int .i64 (confOf r).a1, .int .i64 (confOf r).a2, .int .i64 (confOf r).a3, .int .i64 (confOf r).a4, .int .i64 (confOf r).a5, .int .i64 (confOf r).a6, .int .i64 (confOf r).a7, .int .i64 (confOf r).a8, .int .i64 (confOf r).a9, .int .i64 (confOf r).a10, .int .u64 (confOf r).a11, .int .u64 (confOf r).a12, .int .u64 (confOf r).a13, .int .u64 (confOf r).a14, .int .u64 (confOf r).a15, .int .u64 0, .int .i64 0, .int .i64 0, .int .i64 0, .int .u64 0, .int .u64 0] ty_api_Config (0, 0)) :: Prt.one b25 (.cells #[.int .i64 0, .int .i64 0, .int .i64 0, .int .i64 0, .int .i64 0, .int .i64 0, .int .i64 0, .int .i64 0, .int .i64 0, .int .i64 0, .int .i64 0, .int .u64 0, .int .u64 0, .int .u64 0, .int .u64 0, .int .u64 0, .int .u64 0, .int .i64 0, .int .i64 0, .int .i64 0, .int .u64 0, .int .u64 0] ty_api_Config (0, 0)) :: Prt.one b23 (.cells #[.int .i64 r.a0, .int .i64 r.a1, .int .i64 r.a2, .int .i64 r.a3, .int .i64 r.a4, .int .i64 r.a5, .int .i64 r.a6, .int .i64 r.a7, .int .i64 r.a8, .int .i64 r.a9, .int .i64 r.a10, .int .i64 r.a11, .int .i64 r.a12, .int .i64 r.a13, .int .i64 r.a14, .int .i64 r.a15, .int .i64 r.a16, .int .i64 r.a17, .int .i64 r.a18, .int .i64 r.a19, .int .u64 r.a20, .int .u64 r.a21] ty_hand_Raw (0, 0)) :: L) H16 := g16
    refine ldI_of (g16.cell (i := 0) rfl rfl) (ldI_of (g16.cell (i := 2) rfl rfl) (Pick_ok (by decide) (by decide) ?_))
    (try simp only [asI_mk', asB_mk, asP_mk, asA_mk, asM_mk, asSl_mk, asStr_mk, tup2_mk, tup3_mk, agg1_mk, agg2_mk, agg3_mk, agg4_mk, asAggm, unCons_mk, unNil_mk, asTup_mk, extractD0, extractD1, List.toList_toArray, nilP_mk, add_mk, Nat.zero_add, Nat.add_zero, condT, condF, Bool.not_true, Bool.not_false, Option.isNone_some, Option.isNone_none])
    refine ⟨ldI_of (g16.cell (i := 0) rfl rfl) rfl, ?_⟩
    refine g16.put (i := 0) rfl (show 16 < 22 by decide) fun H17 g17 => ?_
    have g17 : St H0 (Prt.one bc (.cells #[.int .i64 (confOf r).a0, .int .i64 (confOf r).a1, .int .i64 (confOf r).a2, .int .i64 (confOf r).a3, .int .i64 (confOf r).a4, .int .i64 (confOf r).a5, .int .i64 (confOf r).a6, .int .i64 (confOf r).a7, .int .i64 (confOf r).a8, .int .i64 (confOf r).a9, .int .i64 (confOf r).a10, .int .u64 (confOf r).a11, .int .u64 (confOf r).a12, .int .u64 (confOf r).a13, .int .u64 (confOf r).a14, .int .u64 (confOf r).a15, .int .u64 (confOf r).a16, .int .i64 0, .int .i64 0, .int .i64 0, .int .u64 0, .int .u64 0] ty_api_Config (0, 0)) :: Prt.one b25 (.cells #[.int .i64 0, .int .i64 0, .int .i64 0, .int .i64 0, .int .i64 0, .int .i64 0, .int .i64 0, .int .i64 0, .int .i64 0, .int .i64 0, .int .i64 0, .int .u64 0, .int .u64 0, .int .u64 0, .int .u64 0, .int .u64 0, .int .u64 0, .int .i64 0, .int .i64 0, .int .i64 0, .int .u64 0, .int .u64 0] ty_api_Config (0, 0)) :: Prt.one b23 (.cells #[.int .i64 r.a0, .int .i64 r.a1, .int .i64 r.a2, .int .i64 r.a3, .int .i64 r.a4, .int .i64 r.a5, .int .i64 r.a6, .int .i64 r.a7, .int .i64 r.a8, .int .i64 r.a9, .int .i64 r.a10, .int .i64 r.a11, .int .i64 r.a12, .int .i64 r.a13, .int .i64 r.a14, .int .i64 r.a15, .int .i64 r.a16, .int .i64 r.a17, .int .i64 r.a18, .int .i64 r.a19, .int .u64 r.a20, .int .u64 r.a21] ty_hand_Raw (0, 0)) :: L) H17 := g17
    refine ldI_of (g17.cell (i := 2) rfl rfl) (Pick_ok (by decide) (by decide) ?_)
    (try simp only [asI_mk', asB_mk, asP_mk, asA_mk, asM_mk, asSl_mk, asStr_mk, tup2_mk, tup3_mk, agg1_mk, agg2_mk, agg3_mk, agg4_mk, asAggm, unCons_mk, unNil_mk, asTup_mk, extractD0, extractD1, List.toList_toArray, nilP_mk, add_mk, Nat.zero_add, Nat.add_zero, condT, condF, Bool.not_true, Bool.not_false, Option.isNone_some, Option.isNone_none])
    refine g17.put (i := 0) rfl (show 17 < 22 by decide) fun H18 g18 => ?_
    have g18 : St H0 (Prt.one bc (.cells #[.int .i64 (confOf r).a0, .int .i64 (confOf r).a1, .int .i64 (confOf r).a2, .int .i64 (confOf r).a3, .int .i64 (confOf r).a4, .int .i64 (confOf r).a5, .int .i64 (confOf r).a6, .int .i64 (confOf r).a7, .int .i64 (confOf r).a8, .int .i64 (confOf r).a9, .int .i64 (confOf r).a10, .int .u64 (confOf r).a11, .int .u64 (confOf r).a12, .int .u64 (confOf r).a13, .int .u64 (confOf r).a14, .int .u64 (confOf r).a15, .int .u64 (confOf r).a16, .int .i64 (confOf r).a17, .int .i64 0, .int .i64 0, .int .u64 0, .int .u64 0] ty_api_Config (0, 0)) :: Prt.one b25 (.cells #[.int .i64 0, .int .i64 0, .int .i64 0, .int .i64 0, .int .i64 0, .int .i64 0, .int .i64 0, .int .i64 0, .int .i64 0, .int .i64 0, .int .i64 0, .int .u64 0, .int .u64 0, .int .u64 0, .int .u64 0, .int .u64 0, .int .u64 0, .int .i64 0, .int .i64 0, .int .i64 0, .int .u64 0, .int .u64 0] ty_api_Config (0, 0)) :: Prt.one b23 (.cells #[.int .i64 r.a0, .int .i64 r.a1, .int .i64 r.a2, .int .i64 r.a3, .int .i64 r.a4, .int .i64 r.a5, .int .i64 r.a6, .int .i64 r.a7, .int .i64 r.a8, .int .i64 r.a9, .int .i64 r.a10, .int .i64 r.a11, .int .i64 r.a12, .int .i64 r.a13, .int .i64 r.a14, .int .i64 r.a15, .int .i64 r.a16, .int .i64 r.a17, .int .i64 r.a18, .int .i64 r.a19, .int .u64 r.a20, .int .u64 r.a21] ty_hand_Raw (0, 0)) :: L) H18 := g18
    refine ldI_of (g18.cell (i := 0) rfl rfl) (ldI_of (g18.cell (i := 2) rfl rfl) (Pick_ok (by decide) (by decide) ?_))
    (try simp only [asI_mk', asB_mk, asP_mk, asA_mk, asM_mk, asSl_mk, asStr_mk, tup2_mk, tup3_mk, agg1_mk, agg2_mk, agg3_mk, agg4_mk, asAggm, unCons_mk, unNil_mk, asTup_mk, extractD0, extractD1, List.toList_toArray, nilP_mk, add_mk, Nat.zero_add, Nat.add_zero, condT, condF, Bool.not_true, Bool.not_false, Option.isNone_some, Option.isNone_none])
    refine ⟨ldI_of (g18.cell (i := 0) rfl rfl) rfl, ?_⟩
    refine g18.put (i := 0) rfl (show 18 < 22 by decide) fun H19 g19 => ?_
    have g19 : St H0 (Prt.one bc (.cells #[.int .i64 (confOf r).a0, .int .i64 (confOf r).a1, .int .i64 (confOf r).a2, .int .i64 (confOf r).a3, .int .i64 (confOf r).a4, .int .i64 (confOf r).a5, .int .i64 (confOf r).a6, .int .i64 (confOf r).a7, .int .i64 (confOf r).a8, .int .i64 (confOf r).a9, .int .i64 (confOf r).a10, .int .u64 (confOf r).a11, .int .u64 (confOf r).a12, .int .u64 (confOf r).a13, .int .u64 (confOf r).a14, .int .u64 (confOf r).a15, .int .u64 (confOf r).a16, .int .i64 (confOf r).a17, .int .i64 (confOf r).a18, .int .i64 0, .int .u64 0, .int .u64 0] ty_api_Config (0, 0)) :: Prt.one b25 (.cells #[.int .i64 0, .int .i64 0, .int .i64 0, .int .i64 0, .int .i64 0, .int .i64 0, .int .i64 0, .int .i64 0, .int .i64 0, .int .i64 0, .int .i64 0, .int .u64 0, .int .u64 0, .int .u64 0, .int .u64 0, .int .u64 0, .int .u64 0, .int .i64 0, .int .i64 0, .int .i64 0, .int .u64 0, .int .u64 0] ty_api_Config (0, 0)) :: Prt.one b23 (.cells #[.int .i64 r.a0, .int .i64 r.a1, .int .i64 r.a2, .int .i64 r.a3, .int .i64 r.a4, .int .i64 r.a5, .int .i64 r.a6, .int .i64 r.a7, .int .i64 r.a8, .int .i64 r.a9, .int .i64 r.a10, .int .i64 r.a11, .int .i64 r.a12, .int .i64 r.a13, .int .i64 r.a14, .int .i64 r.a15, .int .i64 r.a16, .int .i64 r.a17, .int .i64 r.a18, .int .i64 r.a19, .int .u64 r.a20, .int .u64 r.a21] ty_hand_Raw (0, 0)) :: L) H19 := g19
    refine ldI_of (g19.cell (i := 2) rfl rfl) (Pick_ok (by decide) (by decide) ?_)
    (try simp only [asI_mk', asB_mk, asP_mk, asA_mk, asM_mk, asSl_mk, asStr_mk, tup2_mk, tup3_mk, agg1_mk, agg2_mk, agg3_mk, agg4_mk, asAggm, unCons_mk, unNil_mk, asTup_mk, extractD0, extractD1, List.toList_toArray, nilP_mk, add_mk, Nat.zero_add, Nat.add_zero, condT, condF, Bool.not_true, Bool.not_false, Option.isNone_some, Option.isNone_none])
    refine g19.put (i := 0) rfl (show 19 < 22 by decide) fun H20 g20 => ?_
    have g20 : St H0 (Prt.one bc (.cells #[.int .i64 (confOf r).a0, .int .i64 (confOf r).a1, .int .i64 (confOf r).a2, .int .i64 (confOf r).a3, .int .i64 (confOf r).a4, .int .i64 (confOf r).a5, .int .i64 (confOf r).a6, .int .i64 (confOf r).a7, .int .i64 (confOf r).a8, .int .i64 (confOf r).a9, .int .i64 (confOf r).a10, .int .u64 (confOf r).a11, .int .u64 (confOf r).a12, .int .u64 (confOf r).a13, .int .u64 (confOf r).a14, .int .u64 (confOf r).a15, .int .u64 (confOf r).a16, .int .i64 (confOf r).a17, .int .i64 (confOf r).a18, .int .i64 (confOf r).a19, .int .u64 0, .int .u64 0] ty_api_Config (0, 0)) :: Prt.one b25 (.cells #[.int .i64 0, .int .i64 0, .int .i64 0, .int .i64 0, .int .i64 0, .int .i64 0, .int .i64 0, .int .i64 0, .int .i64 0, .int .i64 0, .int .i64 0, .int .u64 0, .int .u64 0, .int .u64 0, .int .u64 0, .int .u64 0, .int .u64 0, .int .i64 0, .int .i64 0, .int .i64 0, .int .u64 0, .int .u64 0] ty_api_Config (0, 0)) :: Prt.one b23 (.cells #[.int .i64 r.a0, .int .i64 r.a1, .int .i64 r.a2, .int .i64 r.a3, .int .i64 r.a4, .int .i64 r.a5, .int .i64 r.a6, .int .i64 r.a7, .int .i64 r.a8, .int .i64 r.a9, .int .i64 r.a10, .int .i64 r.a11, .int .i64 r.a12, .int .i64 r.a13, .int .i64 r.a14, .int .i64 r.a15, .int .i64 r.a16, .int .i64 r.a17, .int .i64 r.a18, .int .i64 r.a19, .int .u64 r.a20, .int .u64 r.a21] ty_hand_Raw (0, 0)) :: L) H20 := g20
    refine ldI_of (g20.cell (i := 2) rfl rfl) ⟨by decide, ?_⟩
    (try simp only [asI_mk', asB_mk, asP_mk, asA_mk, asM_mk, asSl_mk, asStr_mk, tup2_mk, tup3_mk, agg1_mk, agg2_mk, agg3_mk, agg4_mk, asAggm, unCons_mk, unNil_mk, asTup_mk, extractD0, extractD1, List.toList_toArray, nilP_mk, add_mk, Nat.zero_add, Nat.add_zero, condT, condF, Bool.not_true, Bool.not_false, Option.isNone_some, Option.isNone_none])
    refine g20.put (i := 0) rfl (show 20 < 22 by decide) fun H21 g21 => ?_
    have g21 : St H0 (Prt.one bc (.cells #[.int .i64 (confOf r).a0, .int .i64 (confOf r).a1, .int .i64 (confOf r).a2, .int .i64 (confOf r).a3, .int .i64 (confOf r).a4, .int .i64 (confOf r).a5, .int .i64 (confOf r).a6, .int .i64 (confOf r).a7, .int .i64 (confOf r).a8, .int .i64 (confOf r).a9, .int .i64 (confOf r).a10, .int .u64 (confOf r).a11, .int .u64 (confOf r).a12, .int .u64 (confOf r).a13, .int .u64 (confOf r).a14, .int .u64 (confOf r).a15, .int .u64 (confOf r).a16, .int .i64 (confOf r).a17, .int .i64 (confOf r).a18, .int .i64 (confOf r).a19, .int .u64 (confOf r).a20, .int .u64 0] ty_api_Config (0, 0)) :: Prt.one b25 (.cells #[.int .i64 0, .int .i64 0, .int .i64 0, .int .i64 0, .int .i64 0, .int .i64 0, .int .i64 0, .int .i64 0, .int .i64 0, .int .i64 0, .int .i64 0, .int .u64 0, .int .u64 0, .int .u64 0, .int .u64 0, .int .u64 0, .int .u64 0, .int .i64 0, .int .i64 0, .int .i64 0, .int .u64 0, .int .u64 0] ty_api_Config (0, 0)) :: Prt.one b23 (.cells #[.int .i64 r.a0, .int .i64 r.a1, .int .i64 r.a2, .int .i64 r.a3, .int .i64 r.a4, .int .i64 r.a5, .int .i64 r.a6, .int .i64 r.a7, .int .i64 r.a8, .int .i64 r.a9, .int .i64 r.a10, .int .i64 r.a11, .int .i64 r.a12, .int .i64 r.a13, .int .i64 r.a14, .int .i64 r.a15, .int .i64 r.a16, .int .i64 r.a17, .int .i64 r.a18, .int .i64 r.a19, .int .u64 r.a20, .int .u64 r.a21] ty_hand_Raw (0, 0)) :: L) H21 := g21
    refine ldI_of (g21.cell (i := 2) rfl rfl) ⟨by decide, ?_⟩
    (try simp only [asI_mk', asB_mk, asP_mk, asA_mk, asM_mk, asSl_mk, asStr_mk, tup2_mk, tup3_mk, agg1_mk, agg2_mk, agg3_mk, agg4_mk, asAggm, unCons_mk, unNil_mk, asTup_mk, extractD0, extractD1, List.toList_toArray, nilP_mk, add_mk, Nat.zero_add, Nat.add_zero, condT, condF, Bool.not_true, Bool.not_false, Option.isNone_some, Option.isNone_none])
    refine g21.put (i := 0) rfl (show 21 < 22 by decide) fun H22 g22 => ?_
    have g22 : St H0 (Prt.one bc (.cells #[.int .i64 (confOf r).a0, .int .i64 (confOf r).a1, .int .i64 (confOf r).a2, .int .i64 (confOf r).a3, .int .i64 (confOf r).a4, .int .i64 (confOf r).a5, .int .i64 (confOf r).a6, .int .i64 (confOf r).a7, .int .i64 (confOf r).a8, .int .i64 (confOf r).a9, .int .i64 (confOf r).a10, .int .u64 (confOf r).a11, .int .u64 (confOf r).a12, .int .u64 (confOf r).a13, .int .u64 (confOf r).a14, .int .u64 (confOf r).a15, .int .u64 (confOf r).a16, .int .i64 (confOf r).a17, .int .i64 (confOf r).a18, .int .i64 (confOf r).a19, .int .u64 (confOf r).a20, .int .u64 (confOf r).a21] ty_api_Config (0, 0)) :: Prt.one b25 (.cells #[.int .i64 0, .int .i64 0, .int .i64 0, .int .i64 0, .int .i64 0, .int .i64 0, .int .i64 0, .int .i64 0, .int .i64 0, .int .i64 0, .int .i64 0, .int .u64 0, .int .u64 0, .int .u64 0, .int .u64 0, .int .u64 0, .int .u64 0, .int .i64 0, .int .i64 0, .int .i64 0, .int .u64 0, .int .u64 0] ty_api_Config (0, 0)) :: Prt.one b23 (.cells #[.int .i64 r.a0, .int .i64 r.a1, .int .i64 r.a2, .int .i64 r.a3, .int .i64 r.a4, .int .i64 r.a5, .int .i64 r.a6, .int .i64 r.a7, .int .i64 r.a8, .int .i64 r.a9, .int .i64 r.a10, .int .i64 r.a11, .int .i64 r.a12, .int .i64 r.a13, .int .i64 r.a14, .int .i64 r.a15, .int .i64 r.a16, .int .i64 r.a17, .int .i64 r.a18, .int .i64 r.a19, .int .u64 r.a20, .int .u64 r.a21] ty_hand_Raw (0, 0)) :: L) H22 := g22
    refine ldI_of (g22.cell (i := 0) rfl rfl) (ldI_of (g22.cell (i := 0) rfl rfl) (ldI_of (g22.cell (i := 0) rfl rfl) (ldI_of (g22.cell (i := 0) rfl rfl) (ldI_of (g22.cell (i := 0) rfl rfl) (ldI_of (g22.cell (i := 0) rfl rfl) (ldI_of (g22.cell (i := 0) rfl rfl) (ldI_of (g22.cell (i := 0) rfl rfl) (ldI_of (g22.cell (i := 0) rfl rfl) (ldI_of (g22.cell (i := 0) rfl rfl) (ldI_of (g22.cell (i := 0) rfl rfl) (ldI_of (g22.cell (i := 0) rfl rfl) (ldI_of (g22.cell (i := 0) rfl rfl) (ldI_of (g22.cell (i := 0) rfl rfl) (ldI_of (g22.cell (i := 0) rfl rfl) (ldI_of (g22.cell (i := 0) rfl rfl) (ldI_of (g22.cell (i := 0) rfl rfl) (ldI_of (g22.cell (i := 0) rfl rfl) (ldI_of (g22.cell (i := 0) rfl rfl) (ldI_of (g22.cell (i := 0) rfl rfl) (ldI_of (g22.cell (i := 0) rfl rfl) (ldI_of (g22.cell (i := 0) rfl rfl) (?_))))))))))))))))))))))
    refine St.sets (i := 1) (o := 0) (vs := [.int .i64 (confOf r).a0, .int .i64 (confOf r).a1, .int .i64 (confOf r).a2, .int .i64 (confOf r).a3, .int .i64 (confOf r).a4, .int .i64 (confOf r).a5, .int .i64 (confOf r).a6, .int .i64 (confOf r).a7, .int .i64 (confOf r).a8, .int .i64 (confOf r).a9, .int .i64 (confOf r).a10, .int .u64 (confOf r).a11, .int .u64 (confOf r).a12, .int .u64 (confOf r).a13, .int .u64 (confOf r).a14, .int .u64 (confOf r).a15, .int .u64 (confOf r).a16, .int .i64 (confOf r).a17, .int .i64 (confOf r).a18, .int .i64 (confOf r).a19, .int .u64 (confOf r).a20, .int .u64 (confOf r).a21]) g22 rfl (by simp) fun H23 g23 => ?_
    rw [setsA_all (by rfl)] at g23
    have g23 : St H0 (Prt.one bc (.cells #[.int .i64 (confOf r).a0, .int .i64 (confOf r).a1, .int .i64 (confOf r).a2, .int .i64 (confOf r).a3, .int .i64 (confOf r).a4, .int .i64 (confOf r).a5, .int .i64 (confOf r).a6, .int .i64 (confOf r).a7, .int .i64 (confOf r).a8, .int .i64 (confOf r).a9, .int .i64 (confOf r).a10, .int .u64 (confOf r).a11, .int .u64 (confOf r).a12, .int .u64 (confOf r).a13, .int .u64 (confOf r).a14, .int .u64 (confOf r).a15, .int .u64 (confOf r).a16, .int .i64 (confOf r).a17, .int .i64 (confOf r).a18, .int .i64 (confOf r).a19, .int .u64 (confOf r).a20, .int .u64 (confOf r).a21] ty_api_Config (0, 0)) :: Prt.one b25 (.cells #[.int .i64 (confOf r).a0, .int .i64 (confOf r).a1, .int .i64 (confOf r).a2, .int .i64 (confOf r).a3, .int .i64 (confOf r).a4, .int .i64 (confOf r).a5, .int .i64 (confOf r).a6, .int .i64 (confOf r).a7, .int .i64 (confOf r).a8, .int .i64 (confOf r).a9, .int .i64 (confOf r).a10, .int .u64 (confOf r).a11, .int .u64 (confOf r).a12, .int .u64 (confOf r).a13, .int .u64 (confOf r).a14, .int .u64 (confOf r).a15, .int .u64 (confOf r).a16, .int .i64 (confOf r).a17, .int .i64 (confOf r).a18, .int .i64 (confOf r).a19, .int .u64 (confOf r).a20, .int .u64 (confOf r).a21] ty_api_Config (0, 0)) :: Prt.one b23 (.cells #[.int .i64 r.a0, .int .i64 r.a1, .int .i64 r.a2, .int .i64 r.a3, .int .i64 r.a4, .int .i64 r.a5, .int .i64 r.a6, .int .i64 r.a7, .int .i64 r.a8, .int .i64 r.a9, .int .i64 r.a10, .int .i64 r.a11, .int .i64 r.a12, .int .i64 r.a13, .int .i64 r.a14, .int .i64 r.a15, .int .i64 r.a16, .int .i64 r.a17, .int .i64 r.a18, .int .i64 r.a19, .int .u64 r.a20, .int .u64 r.a21] ty_hand_Raw (0, 0)) :: L) H23 := g23
    refine ldI_of (g23.cell (i := 1) rfl rfl) (ldI_of (g23.cell (i := 1) rfl rfl) (ldI_of (g23.cell (i := 1) rfl rfl) (ldI_of (g23.cell (i := 1) rfl rfl) (ldI_of (g23.cell (i := 1) rfl rfl) (ldI_of (g23.cell (i := 1) rfl rfl) (ldI_of (g23.cell (i := 1) rfl rfl) (ldI_of (g23.cell (i := 1) rfl rfl) (ldI_of (g23.cell (i := 1) rfl rfl) (ldI_of (g23.cell (i := 1) rfl rfl) (ldI_of (g23.cell (i := 1) rfl rfl) (ldI_of (g23.cell (i := 1) rfl rfl) (ldI_of (g23.cell (i := 1) rfl rfl) (ldI_of (g23.cell (i := 1) rfl rfl) (ldI_of (g23.cell (i := 1) rfl rfl) (ldI_of (g23.cell (i := 1) rfl rfl) (ldI_of (g23.cell (i := 1) rfl rfl) (ldI_of (g23.cell (i := 1) rfl rfl) (ldI_of (g23.cell (i := 1) rfl rfl) (ldI_of (g23.cell (i := 1) rfl rfl) (ldI_of (g23.cell (i := 1) rfl rfl) (ldI_of (g23.cell (i := 1) rfl rfl) (?_))))))))))))))))))))))
    exact hK H23 (St.lesses (M := [_, _, _]) g23)
  have fin : ∀ bc H', St H0 (Prt.one bc (.cells #[.int .i64 0, .int .i64 0, .int .i64 0, .int .i64 0, .int .i64 0, .int .i64 0, .int .i64 0, .int .i64 0, .int .i64 0, .int .i64 0, .int .i64 0, .int .u64 0, .int .u64 0, .int .u64 0, .int .u64 0, .int .u64 0, .int .u64 0, .int .i64 0, .int .i64 0, .int .i64 0, .int .u64 0, .int .u64 0] ty_api_Config (0, 0)) :: Prt.one b25 (.cells #[.int .i64 0, .int .i64 0, .int .i64 0, .int .i64 0, .int .i64 0, .int .i64 0, .int .i64 0, .int .i64 0, .int .i64 0, .int .i64 0, .int .i64 0, .int .u64 0, .int .u64 0, .int .u64 0, .int .u64 0, .int .u64 0, .int .u64 0, .int .i64 0, .int .i64 0, .int .i64 0, .int .u64 0, .int .u64 0] ty_api_Config (0, 0)) :: Prt.one b23 (.cells #[.int .i64 r.a0, .int .i64 r.a1, .int .i64 r.a2, .int .i64 r.a3, .int .i64 r.a4, .int .i64 r.a5, .int .i64 r.a6, .int .i64 r.a7, .int .i64 r.a8, .int .i64 r.a9, .int .i64 r.a10, .int .i64 r.a11, .int .i64 r.a12, .int .i64 r.a13, .int .i64 r.a14, .int .i64 r.a15, .int .i64 r.a16, .int .i64 r.a17, .int .i64 r.a18, .int .i64 r.a19, .int .u64 r.a20, .int .u64 r.a21] ty_hand_Raw (0, 0)) :: L) H' → sts bc 0 [.int .i64 (confOf r).a0, .int .i64 (confOf r).a1, .int .i64 (confOf r).a2, .int .i64 (confOf r).a3, .int .i64 0, .int .i64 0, .int .i64 0, .int .i64 0, .int .i64 0, .int .i64 0, .int .i64 0, .int .u64 0, .int .u64 0, .int .u64 0, .int .u64 0, .int .u64 0, .int .u64 0, .int .i64 0, .int .i64 0, .int .i64 0, .int .u64 0, .int .u64 0] H' fun H'' => R27 (some ⟨bc, 0, none⟩) H'' := fun bc H' g => by
    refine St.sets (i := 0) g rfl (by simp) fun H2 g2 => ?_
    rw [setsA_all (by rfl)] at g2
    exact hR27 bc H2 g2
  clear hR27
  refine ldI_of (g2.cell (i := 1) rfl rfl) (ldI_of (g2.cell (i := 1) rfl rfl) (ldI_of (g2.cell (i := 1) rfl rfl) (ldI_of (g2.cell (i := 1) rfl rfl) ?_)))
  have pk0 : ∀ {n m : Int} {H : Hp} {K : Value → Hp → Prop}, 0 < m → m < 4611686018427387904 → K (.int .i64 (pick n m)) H → hcall PR f_hand_Pick ⟨[.int .i64 n, .int .i64 m]⟩ H K := fun h0 h1 h2 => Pick_ok h0 h1 h2
  refine ⟨Pick_ok (by decide) (by decide) ?_, ?_⟩
  · (try simp only [asI_mk', asB_mk, asP_mk, asA_mk, asM_mk, asSl_mk, asStr_mk, tup2_mk, tup3_mk, agg1_mk, agg2_mk, agg3_mk, agg4_mk, asAggm, unCons_mk, unNil_mk, asTup_mk, extractD0, extractD1, List.toList_toArray, nilP_mk, add_mk, Nat.zero_add, Nat.add_zero, condT, condF, Bool.not_true, Bool.not_false, Option.isNone_some, Option.isNone_none])
    refine ⟨ldI_of (g2.cell (i := 1) rfl rfl) rfl, ldI_of (g2.cell (i := 1) rfl rfl) rfl, ldI_of (g2.cell (i := 1) rfl rfl) rfl, ?_, ?_⟩
    · refine Pick_ok (by decide) (by decide) ?_
      (try simp only [asI_mk', asB_mk, asP_mk, asA_mk, asM_mk, asSl_mk, asStr_mk, tup2_mk, tup3_mk, agg1_mk, agg2_mk, agg3_mk, agg4_mk, asAggm, unCons_mk, unNil_mk, asTup_mk, extractD0, extractD1, List.toList_toArray, nilP_mk, add_mk, Nat.zero_add, Nat.add_zero, condT, condF, Bool.not_true, Bool.not_false, Option.isNone_some, Option.isNone_none])
      refine ⟨ldI_of (g2.cell (i := 1) rfl rfl) rfl, ldI_of (g2.cell (i := 1) rfl rfl) rfl, ?_, ?_⟩
      · refine Pick_ok (by decide) (by decide) ?_
        (try simp only [asI_mk', asB_mk, asP_mk, asA_mk, asM_mk, asSl_mk, asStr_mk, tup2_mk, tup3_mk, agg1_mk, agg2_mk, agg3_mk, agg4_mk, asAggm, unCons_mk, unNil_mk, asTup_mk, extractD0, extractD1, List.toList_toArray, nilP_mk, add_mk, Nat.zero_add, Nat.add_zero, condT, condF, Bool.not_true, Bool.not_false, Option.isNone_some, Option.isNone_none])
        refine ⟨ldI_of (g2.cell (i := 1) rfl rfl) rfl, ?_, ?_⟩
        · refine Pick_ok (by decide) (by decide) ?_
          (try simp only [asI_mk', asB_mk, asP_mk, asA_mk, asM_mk, asSl_mk, asStr_mk, tup2_mk, tup3_mk, agg1_mk, agg2_mk, agg3_mk, agg4_mk, asAggm, unCons_mk, unNil_mk, asTup_mk, extractD0, extractD1, List.toList_toArray, nilP_mk, add_mk, Nat.zero_add, Nat.add_zero, condT, condF, Bool.not_true, Bool.not_false, Option.isNone_some, Option.isNone_none])
          intro bc hbc
          have g3 := g2.alloc (o := .cells #[.int .i64 0, .int .i64 0, .int .i64 0, .int .i64 0, .int .i64 0, .int .i64 0, .int .i64 0, .int .i64 0, .int .i64 0, .int .i64 0, .int .i64 0, .int .u64 0, .int .u64 0, .int .u64 0, .int .u64 0, .int .u64 0, .int .u64 0, .int .i64 0, .int .i64 0, .int .i64 0, .int .u64 0, .int .u64 0] ty_api_Config) hbc
          exact fin bc _ g3
        · intro bc hbc
          have g3 := g2.alloc (o := .cells #[.int .i64 0, .int .i64 0, .int .i64 0, .int .i64 0, .int .i64 0, .int .i64 0, .int .i64 0, .int .i64 0, .int .i64 0, .int .i64 0, .int .i64 0, .int .u64 0, .int .u64 0, .int .u64 0, .int .u64 0, .int .u64 0, .int .u64 0, .int .i64 0, .int .i64 0, .int .i64 0, .int .u64 0, .int .u64 0] ty_api_Config) hbc
          refine ⟨ldI_of (g3.cell (i := 2) rfl rfl) rfl, Pick_ok (by decide) (by decide) ?_⟩
          (try simp only [asI_mk', asB_mk, asP_mk, asA_mk, asM_mk, asSl_mk, asStr_mk, tup2_mk, tup3_mk, agg1_mk, agg2_mk, agg3_mk, agg4_mk, asAggm, unCons_mk, unNil_mk, asTup_mk, extractD0, extractD1, List.toList_toArray, nilP_mk, add_mk, Nat.zero_add, Nat.add_zero, condT, condF, Bool.not_true, Bool.not_false, Option.isNone_some, Option.isNone_none])
          exact fin bc _ g3
      · intro bc hbc
        have g3 := g2.alloc (o := .cells #[.int .i64 0, .int .i64 0, .int .i64 0, .int .i64 0, .int .i64 0, .int .i64 0, .int .i64 0, .int .i64 0, .int .i64 0, .int .i64 0, .int .i64 0, .int .u64 0, .int .u64 0, .int .u64 0, .int .u64 0, .int .u64 0, .int .u64 0, .int .i64 0, .int .i64 0, .int .i64 0, .int .u64 0, .int .u64 0] ty_api_Config) hbc
        refine ⟨ldI_of (g3.cell (i := 2) rfl rfl) rfl, ldI_of (g3.cell (i := 2) rfl rfl) rfl, Pick_ok (by decide) (by decide) ?_⟩
        (try simp only [asI_mk', asB_mk, asP_mk, asA_mk, asM_mk, asSl_mk, asStr_mk, tup2_mk, tup3_mk, agg1_mk, agg2_mk, agg3_mk, agg4_mk, asAggm, unCons_mk, unNil_mk, asTup_mk, extractD0, extractD1, List.toList_toArray, nilP_mk, add_mk, Nat.zero_add, Nat.add_zero, condT, condF, Bool.not_true, Bool.not_false, Option.isNone_some, Option.isNone_none])
        refine ⟨ldI_of (g3.cell (i := 2) rfl rfl) rfl, Pick_ok (by decide) (by decide) ?_⟩
        (try simp only [asI_mk', asB_mk, asP_mk, asA_mk, asM_mk, asSl_mk, asStr_mk, tup2_mk, tup3_mk, agg1_mk, agg2_mk, agg3_mk, agg4_mk, asAggm, unCons_mk, unNil_mk, asTup_mk, extractD0, extractD1, List.toList_toArray, nilP_mk, add_mk, Nat.zero_add, Nat.add_zero, condT, condF, Bool.not_true, Bool.not_false, Option.isNone_some, Option.isNone_none])
        exact fin bc _ g3
    · intro bc hbc
      have g3 := g2.alloc (o := .cells #[.int .i64 0, .int .i64 0, .int .i64 0, .int .i64 0, .int .i64 0, .int .i64 0, .int .i64 0, .int .i64 0, .int .i64 0, .int .i64 0, .int .i64 0, .int .u64 0, .int .u64 0, .int .u64 0, .int .u64 0, .int .u64 0, .int .u64 0, .int .i64 0, .int .i64 0, .int .i64 0, .int .u64 0, .int .u64 0] ty_api_Config) hbc
      refine ⟨ldI_of (g3.cell (i := 2) rfl rfl) rfl, ldI_of (g3.cell (i := 2) rfl rfl) rfl, ldI_of (g3.cell (i := 2) rfl rfl) rfl, Pick_ok (by decide) (by decide) ?_⟩
      (try simp only [asI_mk', asB_mk, asP_mk, asA_mk, asM_mk, asSl_mk, asStr_mk, tup2_mk, tup3_mk, agg1_mk, agg2_mk, agg3_mk, agg4_mk, asAggm, unCons_mk, unNil_mk, asTup_mk, extractD0, extractD1, List.toList_toArray, nilP_mk, add_mk, Nat.zero_add, Nat.add_zero, condT, condF, Bool.not_true, Bool.not_false, Option.isNone_some, Option.isNone_none])
      refine ⟨ldI_of (g3.cell (i := 2) rfl rfl) rfl, ldI_of (g3.cell (i := 2) rfl rfl) rfl, Pick_ok (by decide) (by decide) ?_⟩
      (try simp only [asI_mk', asB_mk, asP_mk, asA_mk, asM_mk, asSl_mk, asStr_mk, tup2_mk, tup3_mk, agg1_mk, agg2_mk, agg3_mk, agg4_mk, asAggm, unCons_mk, unNil_mk, asTup_mk, extractD0, extractD1, List.toList_toArray, nilP_mk, add_mk, Nat.zero_add, Nat.add_zero, condT, condF, Bool.not_true, Bool.not_false, Option.isNone_some, Option.isNone_none])
      refine ⟨ldI_of (g3.cell (i := 2) rfl rfl) rfl, Pick_ok (by decide) (by decide) ?_⟩
      (try simp only [asI_mk', asB_mk, asP_mk, asA_mk, asM_mk, asSl_mk, asStr_mk, tup2_mk, tup3_mk, agg1_mk, agg2_mk, agg3_mk, agg4_mk, asAggm, unCons_mk, unNil_mk, asTup_mk, extractD0, extractD1, List.toList_toArray, nilP_mk, add_mk, Nat.zero_add, Nat.add_zero, condT, condF, Bool.not_true, Bool.not_false, Option.isNone_some, Option.isNone_none])
      exact fin bc _ g3
  · intro bc hbc
    have g3 := g2.alloc (o := .cells #[.int .i64 0, .int .i64 0, .int .i64 0, .int .i64 0, .int .i64 0, .int .i64 0, .int .i64 0, .int .i64 0, .int .i64 0, .int .i64 0, .int .i64 0, .int .u64 0, .int .u64 0, .int .u64 0, .int .u64 0, .int .u64 0, .int .u64 0, .int .i64 0, .int .i64 0, .int .i64 0, .int .u64 0, .int .u64 0] ty_api_Config) hbc
    refine ⟨ldI_of (g3.cell (i := 2) rfl rfl) rfl, ldI_of (g3.cell (i := 2) rfl rfl) rfl, ldI_of (g3.cell (i := 2) rfl rfl) rfl, ldI_of (g3.cell (i := 2) rfl rfl) rfl, Pick_ok (by decide) (by decide) ?_⟩
    (try simp only [asI_mk', asB_mk, asP_mk, asA_mk, asM_mk, asSl_mk, asStr_mk, tup2_mk, tup3_mk, agg1_mk, agg2_mk, agg3_mk, agg4_mk, asAggm, unCons_mk, unNil_mk, asTup_mk, extractD0, extractD1, List.toList_toArray, nilP_mk, add_mk, Nat.zero_add, Nat.add_zero, condT, condF, Bool.not_true, Bool.not_false, Option.isNone_some, Option.isNone_none])
    refine ⟨ldI_of (g3.cell (i := 2) rfl rfl) rfl, ldI_of (g3.cell (i := 2) rfl rfl) rfl, ldI_of (g3.cell (i := 2) rfl rfl) rfl, Pick_ok (by decide) (by decide) ?_⟩
    (try simp only [asI_mk', asB_mk, asP_mk, asA_mk, asM_mk, asSl_mk, asStr_mk, tup2_mk, tup3_mk, agg1_mk, agg2_mk, agg3_mk, agg4_mk, asAggm, unCons_mk, unNil_mk, asTup_mk, extractD0, extractD1, List.toList_toArray, nilP_mk, add_mk, Nat.zero_add, Nat.add_zero, condT, condF, Bool.not_true, Bool.not_false, Option.isNone_some, Option.isNone_none])
    refine ⟨ldI_of (g3.cell (i := 2) rfl rfl) rfl, ldI_of (g3.cell (i := 2) rfl rfl) rfl, Pick_ok (by decide) (by decide) ?_⟩
    (try simp only [asI_mk', asB_mk, asP_mk, asA_mk, asM_mk, asSl_mk, asStr_mk, tup2_mk, tup3_mk, agg1_mk, agg2_mk, agg3_mk, agg4_mk, asAggm, unCons_mk, unNil_mk, asTup_mk, extractD0, extractD1, List.toList_toArray, nilP_mk, add_mk, Nat.zero_add, Nat.add_zero, condT, condF, Bool.not_true, Bool.not_false, Option.isNone_some, Option.isNone_none])
    refine ⟨ldI_of (g3.cell (i := 2) rfl rfl) rfl, Pick_ok (by decide) (by decide) ?_⟩
    (try simp only [asI_mk', asB_mk, asP_mk, asA_mk, asM_mk, asSl_mk, asStr_mk, tup2_mk, tup3_mk, agg1_mk, agg2_mk, agg3_mk, agg4_mk, asAggm, unCons_mk, unNil_mk, asTup_mk, extractD0, extractD1, List.toList_toArray, nilP_mk, add_mk, Nat.zero_add, Nat.add_zero, condT, condF, Bool.not_true, Bool.not_false, Option.isNone_some, Option.isNone_none])
    exact fin bc _ g3
end
end Go.Proofs.Ytknejebggegfjaa

namespace Go.Proofs.Ytknejebggegfjaa
open Go
set_option linter.unusedVariables false
set_option maxRecDepth 100000
def B_law23_known  (H : Hp) (K : Value → Hp → Prop) : Prop :=
 hcall PR f_hand_Config ⟨[(.agg #[(.int .i64 0), (.int .i64 0), (.int .i64 0), (.int .i64 0), (.int .i64 0), (.int .i64 0), (.int .i64 0), (.int .i64 0), (.int .i64 0), (.int .i64 0), (.int .i64 0), (.int .i64 0), (.int .i64 0), (.int .i64 0), (.int .i64 0), (.int .i64 0), (.int .i64 0), (.int .i64 0), (.int .i64 0), (.int .i64 0), (.int .u64 0), (.int .u64 0)])]⟩ H fun v1 Hx2 =>
 asAgg' v1 fun cs3 =>
 unCons cs3.toList fun v4 r5 =>
 unCons r5 fun v6 r7 =>
 unCons r7 fun v8 r9 =>
 unCons r9 fun v10 r11 =>
 unCons r11 fun v12 r13 =>
 unCons r13 fun v14 r15 =>
 unCons r15 fun v16 r17 =>
 unCons r17 fun v18 r19 =>
 unCons r19 fun v20 r21 =>
 unCons r21 fun v22 r23 =>
 unCons r23 fun v24 r25 =>
 unCons r25 fun v26 r27 =>
 unCons r27 fun v28 r29 =>
 unCons r29 fun v30 r31 =>
 unCons r31 fun v32 r33 =>
 unCons r33 fun v34 r35 =>
 unCons r35 fun v36 r37 =>
 unCons r37 fun v38 r39 =>
 unCons r39 fun v40 r41 =>
 unCons r41 fun v42 r43 =>
 unCons r43 fun v44 r45 =>
 unCons r45 fun v46 r47 =>
 unNil r47 <|
 asI .i64 v4 fun Nodes48 =>
 asI .i64 v6 fun Mutators49 =>
 asI .i64 v8 fun Slots50 =>
 asI .i64 v10 fun Cells51 =>
 asI .i64 v12 fun Objects52 =>
 asI .i64 v14 fun Stubs53 =>
 asI .i64 v16 fun Calls54 =>
 asI .i64 v18 fun Window55 =>
 asI .i64 v20 fun Grey56 =>
 asI .i64 v22 fun Bag57 =>
 asI .i64 v24 fun Inbox58 =>
 asI .u64 v26 fun Unit59 =>
 asI .u64 v28 fun Drift60 =>
 asI .u64 v30 fun Lease61 =>
 asI .u64 v32 fun Wait62 =>
 asI .u64 v34 fun Most63 =>
 asI .u64 v36 fun Patience64 =>
 asI .i64 v38 fun Suspect65 =>
 asI .i64 v40 fun Trace66 =>
 asI .i64 v42 fun Work67 =>
 asI .u64 v44 fun Start68 =>
 asI .u64 v46 fun Last69 =>
 hcall PR f_trace_New ⟨[(.agg #[(.int .i64 Nodes48), (.int .i64 Mutators49), (.int .i64 Slots50), (.int .i64 Cells51), (.int .i64 Objects52), (.int .i64 Stubs53), (.int .i64 Calls54), (.int .i64 Window55), (.int .i64 Grey56), (.int .i64 Bag57), (.int .i64 Inbox58), (.int .u64 Unit59), (.int .u64 Drift60), (.int .u64 Lease61), (.int .u64 Wait62), (.int .u64 Most63), (.int .u64 Patience64), (.int .i64 Suspect65), (.int .i64 Trace66), (.int .i64 Work67), (.int .u64 Start68), (.int .u64 Last69)]), (.int .i64 1), (.int .u64 0)]⟩ Hx2 fun v70 Hx71 =>
 tup2 v70 fun v72 v73 =>
 asP v72 fun t74 =>
 asI .i64 v73 fun t75 =>
 (bif ((t75 : Int) != 0) then
 K (.bool false) Hx71
else
 (bif (Option.isNone (α := Addr) t74) then
 K (.bool false) Hx71
else
 hcall PR f_law23_stub ⟨[]⟩ Hx71 fun v76 Hx77 =>
 agg2 v76 fun v78 v79 =>
 asI .i64 v78 fun Node80 =>
 asI .u64 v79 fun Serial81 =>
 hcall PR f_trace_Trace_Begin ⟨[(.pointer t74), (.agg #[(.int .i64 Node80), (.int .u64 Serial81)]), (.int .u64 5)]⟩ Hx77 fun v82 Hx83 =>
 asI .i64 v82 fun t84 =>
 (bif ((t84 : Int) != 0) then
 K (.bool false) Hx83
else
 hcall PR f_trace_Trace_Step ⟨[(.pointer t74), (.int .u64 5)]⟩ Hx83 fun v85 Hx86 =>
 tup2 v85 fun v87 v88 =>
 asAgg' v87 fun cs89 =>
 unCons cs89.toList fun v90 r91 =>
 unCons r91 fun v92 r93 =>
 unCons r93 fun v94 r95 =>
 unCons r95 fun v96 r97 =>
 unCons r97 fun v98 r99 =>
 unCons r99 fun v100 r101 =>
 unCons r101 fun v102 r103 =>
 unCons r103 fun v104 r105 =>
 unCons r105 fun v106 r107 =>
 unCons r107 fun v108 r109 =>
 unCons r109 fun v110 r111 =>
 unCons r111 fun v112 r113 =>
 unCons r113 fun v114 r115 =>
 unCons r115 fun v116 r117 =>
 unCons r117 fun v118 r119 =>
 unCons r119 fun v120 r121 =>
 unCons r121 fun v122 r123 =>
 unCons r123 fun v124 r125 =>
 unCons r125 fun v126 r127 =>
 unNil r127 <|
 asI .i64 v90 fun Kind128 =>
 asI .i64 v92 fun From129 =>
 asI .i64 v94 fun To130 =>
 asI .u64 v96 fun Call131 =>
 asI .u64 v98 fun Floor132 =>
 asI .i64 v100 fun Op133 =>
 asI .i64 v102 fun Field134 =>
 asI .i64 v104 fun Item135 =>
 asI .i64 v106 fun Node136 =>
 asI .u64 v108 fun Serial137 =>
 asSl v110 fun RefsP138 RefsL139 RefsC140 =>
 asI .u64 v112 fun Value141 =>
 asI .i64 v114 fun Code142 =>
 asI .u64 v116 fun Seq143 =>
 asI .i64 v118 fun Voucher144 =>
 asI .u64 v120 fun At145 =>
 asI .i64 v122 fun Dist146 =>
 asI .u64 v124 fun Stamp147 =>
 asSl v126 fun ListP148 ListL149 ListC150 =>
 asB v88 fun t151 =>
 newB (.cells #[(.int .i64 0), (.int .i64 0), (.int .i64 0), (.int .u64 0), (.int .u64 0), (.int .i64 0), (.int .i64 0), (.int .i64 0), (.int .i64 0), (.int .u64 0), (.slice none 0 0), (.int .u64 0), (.int .i64 0), (.int .u64 0), (.int .i64 0), (.int .u64 0), (.int .i64 0), (.int .u64 0), (.slice none 0 0)] ty_api_Msg) Hx86 fun b152 Hx153 =>
 st ⟨b152, 0, none⟩ (.int .i64 Kind128) Hx153 fun Hx154 =>
 st ⟨b152, 1, none⟩ (.int .i64 From129) Hx154 fun Hx155 =>
 st ⟨b152, 2, none⟩ (.int .i64 To130) Hx155 fun Hx156 =>
 st ⟨b152, 3, none⟩ (.int .u64 Call131) Hx156 fun Hx157 =>
 st ⟨b152, 4, none⟩ (.int .u64 Floor132) Hx157 fun Hx158 =>
 st ⟨b152, 5, none⟩ (.int .i64 Op133) Hx158 fun Hx159 =>
 st ⟨b152, 6, none⟩ (.int .i64 Field134) Hx159 fun Hx160 =>
 st ⟨b152, 7, none⟩ (.int .i64 Item135) Hx160 fun Hx161 =>
 st ⟨b152, 8, none⟩ (.int .i64 Node136) Hx161 fun Hx162 =>
 st ⟨b152, 9, none⟩ (.int .u64 Serial137) Hx162 fun Hx163 =>
 st ⟨b152, 10, none⟩ (.slice RefsP138 RefsL139 RefsC140) Hx163 fun Hx164 =>
 st ⟨b152, 11, none⟩ (.int .u64 Value141) Hx164 fun Hx165 =>
 st ⟨b152, 12, none⟩ (.int .i64 Code142) Hx165 fun Hx166 =>
 st ⟨b152, 13, none⟩ (.int .u64 Seq143) Hx166 fun Hx167 =>
 st ⟨b152, 14, none⟩ (.int .i64 Voucher144) Hx167 fun Hx168 =>
 st ⟨b152, 15, none⟩ (.int .u64 At145) Hx168 fun Hx169 =>
 st ⟨b152, 16, none⟩ (.int .i64 Dist146) Hx169 fun Hx170 =>
 st ⟨b152, 17, none⟩ (.int .u64 Stamp147) Hx170 fun Hx171 =>
 st ⟨b152, 18, none⟩ (.slice ListP148 ListL149 ListC150) Hx171 fun Hx172 =>
 newB (.cells #[(.int .u64 4)] ty_uint64) Hx172 fun b173 Hx174 =>
 hcall PR f_trace_Trace_Hear ⟨[(.pointer t74), (.agg #[(.int .i64 9), (.int .i64 1), (.int .i64 1), (.int .u64 1), (.int .u64 0), (.int .i64 0), (.int .i64 0), (.int .i64 0), (.int .i64 0), (.int .u64 0), (.slice none 0 0), (.int .u64 0), (.int .i64 2), (.int .u64 0), (.int .i64 0), (.int .u64 0), (.int .i64 0), (.int .u64 3), (.slice (some ⟨b173, 0, none⟩) 1 1)])]⟩ Hx174 fun v175 Hx176 =>
 asB v175 fun t177 =>
 hcall PR f_trace_Trace_Step ⟨[(.pointer t74), (.int .u64 5)]⟩ Hx176 fun v178 Hx179 =>
 tup2 v178 fun v180 v181 =>
 asAgg' v180 fun cs182 =>
 unCons cs182.toList fun v183 r184 =>
 unCons r184 fun v185 r186 =>
 unCons r186 fun v187 r188 =>
 unCons r188 fun v189 r190 =>
 unCons r190 fun v191 r192 =>
 unCons r192 fun v193 r194 =>
 unCons r194 fun v195 r196 =>
 unCons r196 fun v197 r198 =>
 unCons r198 fun v199 r200 =>
 unCons r200 fun v201 r202 =>
 unCons r202 fun v203 r204 =>
 unCons r204 fun v205 r206 =>
 unCons r206 fun v207 r208 =>
 unCons r208 fun v209 r210 =>
 unCons r210 fun v211 r212 =>
 unCons r212 fun v213 r214 =>
 unCons r214 fun v215 r216 =>
 unCons r216 fun v217 r218 =>
 unCons r218 fun v219 r220 =>
 unNil r220 <|
 asI .i64 v183 fun Kind221 =>
 asI .i64 v185 fun From222 =>
 asI .i64 v187 fun To223 =>
 asI .u64 v189 fun Call224 =>
 asI .u64 v191 fun Floor225 =>
 asI .i64 v193 fun Op226 =>
 asI .i64 v195 fun Field227 =>
 asI .i64 v197 fun Item228 =>
 asI .i64 v199 fun Node229 =>
 asI .u64 v201 fun Serial230 =>
 asSl v203 fun RefsP231 RefsL232 RefsC233 =>
 asI .u64 v205 fun Value234 =>
 asI .i64 v207 fun Code235 =>
 asI .u64 v209 fun Seq236 =>
 asI .i64 v211 fun Voucher237 =>
 asI .u64 v213 fun At238 =>
 asI .i64 v215 fun Dist239 =>
 asI .u64 v217 fun Stamp240 =>
 asSl v219 fun ListP241 ListL242 ListC243 =>
 asB v181 fun t244 =>
 newB (.cells #[(.int .i64 0), (.int .i64 0), (.int .i64 0), (.int .u64 0), (.int .u64 0), (.int .i64 0), (.int .i64 0), (.int .i64 0), (.int .i64 0), (.int .u64 0), (.slice none 0 0), (.int .u64 0), (.int .i64 0), (.int .u64 0), (.int .i64 0), (.int .u64 0), (.int .i64 0), (.int .u64 0), (.slice none 0 0)] ty_api_Msg) Hx179 fun b245 Hx246 =>
 st ⟨b245, 0, none⟩ (.int .i64 Kind221) Hx246 fun Hx247 =>
 st ⟨b245, 1, none⟩ (.int .i64 From222) Hx247 fun Hx248 =>
 st ⟨b245, 2, none⟩ (.int .i64 To223) Hx248 fun Hx249 =>
 st ⟨b245, 3, none⟩ (.int .u64 Call224) Hx249 fun Hx250 =>
 st ⟨b245, 4, none⟩ (.int .u64 Floor225) Hx250 fun Hx251 =>
 st ⟨b245, 5, none⟩ (.int .i64 Op226) Hx251 fun Hx252 =>
 st ⟨b245, 6, none⟩ (.int .i64 Field227) Hx252 fun Hx253 =>
 st ⟨b245, 7, none⟩ (.int .i64 Item228) Hx253 fun Hx254 =>
 st ⟨b245, 8, none⟩ (.int .i64 Node229) Hx254 fun Hx255 =>
 st ⟨b245, 9, none⟩ (.int .u64 Serial230) Hx255 fun Hx256 =>
 st ⟨b245, 10, none⟩ (.slice RefsP231 RefsL232 RefsC233) Hx256 fun Hx257 =>
 st ⟨b245, 11, none⟩ (.int .u64 Value234) Hx257 fun Hx258 =>
 st ⟨b245, 12, none⟩ (.int .i64 Code235) Hx258 fun Hx259 =>
 st ⟨b245, 13, none⟩ (.int .u64 Seq236) Hx259 fun Hx260 =>
 st ⟨b245, 14, none⟩ (.int .i64 Voucher237) Hx260 fun Hx261 =>
 st ⟨b245, 15, none⟩ (.int .u64 At238) Hx261 fun Hx262 =>
 st ⟨b245, 16, none⟩ (.int .i64 Dist239) Hx262 fun Hx263 =>
 st ⟨b245, 17, none⟩ (.int .u64 Stamp240) Hx263 fun Hx264 =>
 st ⟨b245, 18, none⟩ (.slice ListP241 ListL242 ListC243) Hx264 fun Hx265 =>
 hcall PR f_trace_Trace_Hear ⟨[(.pointer t74), (.agg #[(.int .i64 9), (.int .i64 1), (.int .i64 1), (.int .u64 1), (.int .u64 0), (.int .i64 0), (.int .i64 0), (.int .i64 1), (.int .i64 0), (.int .u64 0), (.slice none 0 0), (.int .u64 0), (.int .i64 0), (.int .u64 0), (.int .i64 0), (.int .u64 0), (.int .i64 0), (.int .u64 0), (.slice none 0 0)])]⟩ Hx265 fun v266 Hx267 =>
 asB v266 fun t268 =>
 hcall PR f_trace_Trace_State ⟨[(.pointer t74)]⟩ Hx267 fun v269 Hx270 =>
 asI .i64 v269 fun t271 =>
 hcall PR f_trace_Trace_Hear ⟨[(.pointer t74), (.agg #[(.int .i64 9), (.int .i64 1), (.int .i64 1), (.int .u64 1), (.int .u64 0), (.int .i64 0), (.int .i64 0), (.int .i64 2), (.int .i64 0), (.int .u64 0), (.slice none 0 0), (.int .u64 0), (.int .i64 2), (.int .u64 0), (.int .i64 0), (.int .u64 0), (.int .i64 0), (.int .u64 3), (.slice none 0 0)])]⟩ Hx270 fun v272 Hx273 =>
 asB v272 fun t274 =>
 hcall PR f_trace_Trace_Count ⟨[(.pointer t74)]⟩ Hx273 fun v275 Hx276 =>
 tup2 v275 fun v277 v278 =>
 asI .u64 v277 fun t279 =>
 asI .i64 v278 fun t280 =>
 (bif t151 then
 ldI .i64 ⟨b152, 0, none⟩ Hx276 fun Kind281 =>
 (bif ((Kind281 : Int) == 8) then
 ldI .i64 ⟨b152, 5, none⟩ Hx276 fun Op282 =>
 (bif ((Op282 : Int) == 2) then
 ldI .i64 ⟨b152, 2, none⟩ Hx276 fun To283 =>
 (bif ((To283 : Int) == 1) then
 ldI .i64 ⟨b152, 7, none⟩ Hx276 fun Item284 =>
 (bif ((Item284 : Int) == 0) then
 (bif t177 then
 (bif t244 then
 ldI .i64 ⟨b245, 5, none⟩ Hx276 fun Op285 =>
 (bif ((Op285 : Int) == 1) then
 ldI .i64 ⟨b245, 8, none⟩ Hx276 fun Node286 =>
 ldI .u64 ⟨b245, 9, none⟩ Hx276 fun Serial287 =>
 evR PR (aggEq .eql ty_api_ID #[(.int .i64 Node286), (.int .u64 Serial287)] #[(.int .i64 1), (.int .u64 4)]) Hx276 fun v288 =>
 asB v288 fun eq289 =>
 (bif eq289 then
 ldI .i64 ⟨b245, 7, none⟩ Hx276 fun Item290 =>
 (bif ((Item290 : Int) == 1) then
 (bif t268 then
 (bif ((t271 : Int) == 2) then
 (bif t274 then
 hcall PR f_trace_Trace_State ⟨[(.pointer t74)]⟩ Hx276 fun v291 Hx292 =>
 asI .i64 v291 fun t293 =>
 (bif ((t293 : Int) == 0) then
 (bif ((t279 : Int) == 1) then
 K (.bool ((t280 : Int) == 1)) Hx292
else
 K (.bool false) Hx292)
else
 K (.bool false) Hx292)
else
 K (.bool false) Hx276)
else
 K (.bool false) Hx276)
else
 K (.bool false) Hx276)
else
 K (.bool false) Hx276)
else
 K (.bool false) Hx276)
else
 K (.bool false) Hx276)
else
 K (.bool false) Hx276)
else
 K (.bool false) Hx276)
else
 K (.bool false) Hx276)
else
 K (.bool false) Hx276)
else
 K (.bool false) Hx276)
else
 K (.bool false) Hx276)
else
 K (.bool false) Hx276))))
theorem E_law23_known  (H : Hp) (K : Value → Hp → Prop) : B_law23_known  H K = denF Try.prog Try.f28 .n [] H K := by kernel_rfl
theorem den_law23_known  {H : Hp} {K : Value → Hp → Prop} (h : B_law23_known  H K) : hcall PR f_law23_known ⟨[]⟩ H K := denF_call Try.func28 PR_mixed (Eq.mp (E_law23_known  H K) h)

def B_law23_stub  (H : Hp) (K : Value → Hp → Prop) : Prop :=
 newB (.cells #[(.int .i64 0), (.int .u64 0)] ty_api_ID) H fun b1 Hx2 =>
 st ⟨b1, 0, none⟩ (.int .i64 2) Hx2 fun Hx3 =>
 st ⟨b1, 1, none⟩ (.int .u64 7) Hx3 fun Hx4 =>
 ldI .i64 ⟨b1, 0, none⟩ Hx4 fun Node5 =>
 ldI .u64 ⟨b1, 1, none⟩ Hx4 fun Serial6 =>
 K (.agg #[(.int .i64 Node5), (.int .u64 Serial6)]) Hx4
theorem E_law23_stub  (H : Hp) (K : Value → Hp → Prop) : B_law23_stub  H K = denF Try.prog Try.f30 .n [] H K := by kernel_rfl
theorem den_law23_stub  {H : Hp} {K : Value → Hp → Prop} (h : B_law23_stub  H K) : hcall PR f_law23_stub ⟨[]⟩ H K := denF_call Try.func30 PR_mixed (Eq.mp (E_law23_stub  H K) h)

def B_law23_among (lP1 : Option Addr) (lL2 : Nat) (lC3 : Nat) (n4 : Int) (H : Hp) (K : Value → Hp → Prop) : Prop :=
 ∃ (I5 : Int → Hp → Prop) (m6 : Int → Hp → Nat), I5 0 H ∧ ∀ i8 : Int, ∀ Hx7 : Hp, I5 i8 Hx7 →
 (bif (decide ((i8 : Int) < (lL2 : Int))) then
 idxA lP1 lL2 i8 1 fun el9 =>
 ldI .i64 el9 Hx7 fun t10 =>
 hcall PR f_hand_Pick ⟨[(.int .i64 t10), (.int .i64 60)]⟩ Hx7 fun v11 Hx12 =>
 asI .i64 v11 fun t13 =>
 (bif ((t13 : Int) == n4) then
 K (.bool true) Hx12
else
 I5 (IntKind.i64.wrap (i8 + 1)) Hx12 ∧ m6 (IntKind.i64.wrap (i8 + 1)) Hx12 < m6 i8 Hx7)
else
 K (.bool false) Hx7)
theorem E_law23_among (lP1 : Option Addr) (lL2 : Nat) (lC3 : Nat) (n4 : Int) (H : Hp) (K : Value → Hp → Prop) : B_law23_among lP1 lL2 lC3 n4 H K = denF Try.prog Try.f37 (.seq none .n (.seq none (.seq none .n (.sub (.loop ⟨[(5, .int .i64)], [0, 1]⟩ .n))) .n)) [(.slice lP1 lL2 lC3), (.int .i64 n4)] H K := by kernel_rfl
theorem den_law23_among {lP1 : Option Addr} {lL2 : Nat} {lC3 : Nat} {n4 : Int} {H : Hp} {K : Value → Hp → Prop} (h : B_law23_among lP1 lL2 lC3 n4 H K) : hcall PR f_law23_among ⟨[(.slice lP1 lL2 lC3), (.int .i64 n4)]⟩ H K := denF_call Try.func37 PR_mixed (Eq.mp (E_law23_among lP1 lL2 lC3 n4 H K) h)

def B_law23_number (inx1 : Bool) (node2 : Int) (xNode3 : Int) (xSerial4 : Int) (H : Hp) (K : Value → Hp → Prop) : Prop :=
 newB (.cells #[(.int .i64 xNode3), (.int .u64 xSerial4)] ty_api_ID) H fun b5 Hx6 =>
 ldI .i64 ⟨b5, 0, none⟩ Hx6 fun Node7 =>
 ldI .u64 ⟨b5, 1, none⟩ Hx6 fun Serial8 =>
 ∀ R9 : Int → Hp → Prop, (∀ n11 : Int, ∀ Hx10 : Hp, (
 (60 : Int) ≠ 0 ∧
 K (.int .i64 (Int.tmod n11 60)) Hx10) → R9 n11 Hx10) →
 (bif inx1 then
 R9 (IntKind.i64.wrap ((IntKind.i64.wrap ((IntKind.i64.wrap ((IntKind.i64.wrap (12 * node2)) + (IntKind.i64.wrap (4 * Node7)))) + (IntKind.i64.wrap Serial8))) + 1)) Hx6
else
 R9 (IntKind.i64.wrap ((IntKind.i64.wrap ((IntKind.i64.wrap (12 * node2)) + (IntKind.i64.wrap (4 * Node7)))) + (IntKind.i64.wrap Serial8))) Hx6)
theorem E_law23_number (inx1 : Bool) (node2 : Int) (xNode3 : Int) (xSerial4 : Int) (H : Hp) (K : Value → Hp → Prop) : B_law23_number inx1 node2 xNode3 xSerial4 H K = denF Try.prog Try.f38 (.seq none .n (.seq none .n (.seq (some ⟨[(7, .int .i64)], []⟩) .n .n))) [(.bool inx1), (.int .i64 node2), (.agg #[(.int .i64 xNode3), (.int .u64 xSerial4)])] H K := by kernel_rfl
theorem den_law23_number {inx1 : Bool} {node2 : Int} {xNode3 : Int} {xSerial4 : Int} {H : Hp} {K : Value → Hp → Prop} (h : B_law23_number inx1 node2 xNode3 xSerial4 H K) : hcall PR f_law23_number ⟨[(.bool inx1), (.int .i64 node2), (.agg #[(.int .i64 xNode3), (.int .u64 xSerial4)])]⟩ H K := denF_call Try.func38 PR_mixed (Eq.mp (E_law23_number inx1 node2 xNode3 xSerial4 H K) h)

end Go.Proofs.Ytknejebggegfjaa

namespace Go.Proofs.Ytknejebggegfjaa
set_option linter.unusedSimpArgs false
set_option linter.unusedVariables false
set_option maxRecDepth 20000
open Go
section
variable {H0 H : Hp} {L M N : List Prt} {i k tb : Nat} {c : Cf} {t : Tr} {K : Value → Hp → Prop}
/-- Cells written one behind the other, and no more than that. -/
def stz (b : Nat) : Nat → List Value → Hp → (Hp → Prop) → Prop
  | _, [], H, K => K H
  | o, [v], H, K => st ⟨b, o, none⟩ v H K
  | o, v :: w :: r, H, K => st ⟨b, o, none⟩ v H fun H' => stz b (o + 1) (w :: r) H' K
theorem stz_of {b : Nat} : ∀ {vs : List Value} {o : Nat} {H : Hp} {K : Hp → Prop}, sts b o vs H K → stz b o vs H K
  | [], _, _, _, h => h
  | [v], o, H, K, h => h
  | v :: w :: r, o, H, K, h => by
    have h : st ⟨b, o, none⟩ v H fun H' => sts b (o + 1) (w :: r) H' K := h
    show st ⟨b, o, none⟩ v H fun H' => stz b (o + 1) (w :: r) H' K
    unfold st at h ⊢
    split at h
    · exact ⟨h.1, h.2.1, h.2.2.1, stz_of h.2.2.2⟩
    · exact h
theorem boxz {T : TypeId} {c vs : List Value} {K : Nat → Hp → Prop} (h : St H0 L H) (hl : vs.length = c.length) (hK : ∀ b H', St H0 (Prt.one b (.cells vs.toArray T (0, 0)) :: L) H' → K b H') :
    newB (.cells c.toArray T) H fun b H1 => stz b 0 vs H1 (K b) := by
  intro b hb
  exact stz_of (boxs (T := T) (c := c) (vs := vs) (K := K) h hl hK b hb)
theorem trMake {node last : Int} (h : St H0 L H) (hb : H tb = none) : St H0 (TrP tb c (newTr node last) :: L) (upd H tb (.cells #[.int .i64 c.a0, .int .i64 c.a1, .int .i64 c.a2, .int .i64 c.a3, .int .i64 c.a4, .int .i64 c.a5, .int .i64 c.a6, .int .i64 c.a7, .int .i64 c.a8, .int .i64 c.a9, .int .i64 c.a10, .int .u64 c.a11, .int .u64 c.a12, .int .u64 c.a13, .int .u64 c.a14, .int .u64 c.a15, .int .u64 c.a16, .int .i64 c.a17, .int .i64 c.a18, .int .i64 c.a19, .int .u64 c.a20, .int .u64 c.a21, .int .i64 node, .int .u64 last, .int .i64 0, .int .i64 0, .slice none 0 0, .map none, .int .i64 0, .slice none 0 0, .int .u64 0, .int .u64 0] ty_trace_Trace)) := by
  have g1 := h.saynil
  have g2 := g1.say (p := (newTr node last).ok c.a0) newTr_ok
  have g3 := g2.row (H' := _) (Own.nil 1) ((Goes.refl Nothing _).less fun c hc => absurd hc blk_none)
  have g4 := g3.saynil
  have g5 := g4.row (H' := _) (Own.nil 5) ((Goes.refl Nothing _).less fun c hc => absurd hc blk_none)
  have g6 := g5.alloc (o := .cells #[.int .i64 c.a0, .int .i64 c.a1, .int .i64 c.a2, .int .i64 c.a3, .int .i64 c.a4, .int .i64 c.a5, .int .i64 c.a6, .int .i64 c.a7, .int .i64 c.a8, .int .i64 c.a9, .int .i64 c.a10, .int .u64 c.a11, .int .u64 c.a12, .int .u64 c.a13, .int .u64 c.a14, .int .u64 c.a15, .int .u64 c.a16, .int .i64 c.a17, .int .i64 c.a18, .int .i64 c.a19, .int .u64 c.a20, .int .u64 c.a21, .int .i64 node, .int .u64 last, .int .i64 0, .int .i64 0, .slice none 0 0, .map none, .int .i64 0, .slice none 0 0, .int .u64 0, .int .u64 0] ty_trace_Trace) hb
  have g7 : St H0 (trRaw tb c (newTr node last) ⟨none, 0, 0, none, 0, ty_trace_Trace⟩ (.map none) .nil ((newTr node last).ok c.a0) ++ (Prt.nil :: L)) (upd H tb (.cells #[.int .i64 c.a0, .int .i64 c.a1, .int .i64 c.a2, .int .i64 c.a3, .int .i64 c.a4, .int .i64 c.a5, .int .i64 c.a6, .int .i64 c.a7, .int .i64 c.a8, .int .i64 c.a9, .int .i64 c.a10, .int .u64 c.a11, .int .u64 c.a12, .int .u64 c.a13, .int .u64 c.a14, .int .u64 c.a15, .int .u64 c.a16, .int .i64 c.a17, .int .i64 c.a18, .int .i64 c.a19, .int .u64 c.a20, .int .u64 c.a21, .int .i64 node, .int .u64 last, .int .i64 0, .int .i64 0, .slice none 0 0, .map none, .int .i64 0, .slice none 0 0, .int .u64 0, .int .u64 0] ty_trace_Trace)) := g6
  have g8 := g7.midless
  exact St.gatherEx (M := fun x => trRaw tb c (newTr node last) x (smV (newTr node last) x) (smP (newTr node last) x) ((newTr node last).ok c.a0)) ⟨none, 0, 0, none, 0, ty_trace_Trace⟩ (by
    rw [smV_off rfl, smP_off rfl]
    exact g8)
theorem newC {node last : Int} (hg : c.good) (h : St H0 L H)
    (hno : (node < 1 ∨ node > c.a0 ∨ last > 72057594037927935) → ∀ H', St H0 L H' → K (.tuple #[.pointer none, .int .i64 1]) H')
    (hK : 1 ≤ node ∧ node ≤ c.a0 → last ≤ 72057594037927935 → ∀ tb H', St H0 (TrP tb c (newTr node last) :: L) H' → K (.tuple #[.pointer (some ⟨tb, 0, none⟩), .int .i64 0]) H') :
    hcall PR f_trace_New ⟨[c.val, .int .i64 node, .int .u64 last]⟩ H K := by
  apply den_trace_New
  unfold B_trace_New
  intro b25 hb25
  have g1 := h.alloc (o := .cells #[.int .i64 c.a0, .int .i64 c.a1, .int .i64 c.a2, .int .i64 c.a3, .int .i64 c.a4, .int .i64 c.a5, .int .i64 c.a6, .int .i64 c.a7, .int .i64 c.a8, .int .i64 c.a9, .int .i64 c.a10, .int .u64 c.a11, .int .u64 c.a12, .int .u64 c.a13, .int .u64 c.a14, .int .u64 c.a15, .int .u64 c.a16, .int .i64 c.a17, .int .i64 c.a18, .int .i64 c.a19, .int .u64 c.a20, .int .u64 c.a21] ty_api_Config) hb25
  refine ldI_of (g1.cell (i := 0) rfl rfl) (ldI_of (g1.cell (i := 0) rfl rfl) (ldI_of (g1.cell (i := 0) rfl rfl) (ldI_of (g1.cell (i := 0) rfl rfl) (ldI_of (g1.cell (i := 0) rfl rfl) (ldI_of (g1.cell (i := 0) rfl rfl) (ldI_of (g1.cell (i := 0) rfl rfl) (ldI_of (g1.cell (i := 0) rfl rfl) (ldI_of (g1.cell (i := 0) rfl rfl) (ldI_of (g1.cell (i := 0) rfl rfl) (ldI_of (g1.cell (i := 0) rfl rfl) (ldI_of (g1.cell (i := 0) rfl rfl) (ldI_of (g1.cell (i := 0) rfl rfl) (ldI_of (g1.cell (i := 0) rfl rfl) (ldI_of (g1.cell (i := 0) rfl rfl) (ldI_of (g1.cell (i := 0) rfl rfl) (ldI_of (g1.cell (i := 0) rfl rfl) (ldI_of (g1.cell (i := 0) rfl rfl) (ldI_of (g1.cell (i := 0) rfl rfl) (ldI_of (g1.cell (i := 0) rfl rfl) (ldI_of (g1.cell (i := 0) rfl rfl) (ldI_of (g1.cell (i := 0) rfl rfl) (?_))))))))))))))))))))))
  refine mayC hg g1 fun H2 g2 => ?_
  (try simp only [asI_mk', asB_mk, asP_mk, asA_mk, asM_mk, asSl_mk, asStr_mk, tup2_mk, tup3_mk, agg1_mk, agg2_mk, agg3_mk, agg4_mk, asAggm, unCons_mk, unNil_mk, asTup_mk, extractD0, extractD1, List.toList_toArray, nilP_mk, add_mk, Nat.zero_add, Nat.add_zero, condT, condF, Bool.not_true, Bool.not_false, Option.isNone_some, Option.isNone_none])
  by_cases h1 : node < 1
  · exact bif_pos h1 (hno (.inl h1) H2 g2.less)
  refine bif_neg h1 (ldI_of (g2.cell (i := 0) rfl rfl) ?_)
  by_cases h2 : node > c.a0
  · exact bif_pos h2 (hno (.inr (.inl h2)) H2 g2.less)
  refine bif_neg h2 ?_
  by_cases h3 : last > 72057594037927935
  · exact bif_pos h3 (hno (.inr (.inr h3)) H2 g2.less)
  refine bif_neg h3 ?_
  refine ldI_of (g2.cell (i := 0) rfl rfl) (ldI_of (g2.cell (i := 0) rfl rfl) (ldI_of (g2.cell (i := 0) rfl rfl) (ldI_of (g2.cell (i := 0) rfl rfl) (ldI_of (g2.cell (i := 0) rfl rfl) (ldI_of (g2.cell (i := 0) rfl rfl) (ldI_of (g2.cell (i := 0) rfl rfl) (ldI_of (g2.cell (i := 0) rfl rfl) (ldI_of (g2.cell (i := 0) rfl rfl) (ldI_of (g2.cell (i := 0) rfl rfl) (ldI_of (g2.cell (i := 0) rfl rfl) (ldI_of (g2.cell (i := 0) rfl rfl) (ldI_of (g2.cell (i := 0) rfl rfl) (ldI_of (g2.cell (i := 0) rfl rfl) (ldI_of (g2.cell (i := 0) rfl rfl) (ldI_of (g2.cell (i := 0) rfl rfl) (ldI_of (g2.cell (i := 0) rfl rfl) (ldI_of (g2.cell (i := 0) rfl rfl) (ldI_of (g2.cell (i := 0) rfl rfl) (ldI_of (g2.cell (i := 0) rfl rfl) (ldI_of (g2.cell (i := 0) rfl rfl) (ldI_of (g2.cell (i := 0) rfl rfl) (?_))))))))))))))))))))))
  intro b75 hb75
  refine hK ⟨by omega, by omega⟩ (by omega) b75 _ ?_
  have := trMake (c := c) (node := node) (last := last) g2 hb75
  exact St.less (St.flip this)
theorem stubC (h : St H0 L H) (hK : ∀ H', St H0 L H' → K (.agg #[.int .i64 2, .int .u64 7]) H') : hcall PR f_law23_stub ⟨[]⟩ H K := by
  apply den_law23_stub
  unfold B_law23_stub
  refine boxz (c := [.int .i64 0, .int .u64 0]) (vs := [.int .i64 2, .int .u64 7]) h rfl fun b H2 g2 => ?_
  exact ldI_of (g2.cell (i := 0) rfl rfl) (ldI_of (g2.cell (i := 0) rfl rfl) (hK H2 g2.less))

def zeroRaw : Cf := ⟨0, 0, 0, 0, 0, 0, 0, 0, 0, 0, 0, 0, 0, 0, 0, 0, 0, 0, 0, 0, 0, 0⟩
theorem zero_a0 : (confOf zeroRaw).a0 = 2 := by
  show IntKind.i64.wrap (2 + pick 0 3) = 2
  decide
def kn1 : Tr := ⟨1, 1, 0, 1, [⟨false, 1, ⟨2, 7⟩, 0⟩], [], 0, [], 5, 0⟩
def kn2 : Tr := ⟨1, 1, 0, 1, [⟨false, 1, ⟨2, 7⟩, 2⟩, ⟨true, 1, ⟨1, 4⟩, 0⟩], [(1, 3)], 1, [], 0, 0⟩
def kn3 : Tr := ⟨1, 1, 0, 2, [⟨false, 1, ⟨2, 7⟩, 2⟩, ⟨true, 1, ⟨1, 4⟩, 0⟩], [(1, 3)], 2, [1], 0, 0⟩
def kn4 : Tr := ⟨1, 1, 1, 0, [], [], 0, [], 0, 0⟩
theorem knB : (newTr 1 0).begun 2 7 5 = kn1 := by rfl
theorem kn12 {a b : Int} : (kn1.told a b 5).hear 2 ⟨9, 1, 1, 1, 0, 2, 3, [4]⟩ = kn2 ∧ (kn1.told a b 5).heeds ⟨9, 1, 1, 1, 0, 2, 3, [4]⟩ = true := ⟨by rfl, by rfl⟩
theorem kn23 {a b : Int} : (kn2.told a b 5).hear 2 ⟨9, 1, 1, 1, 1, 0, 0, []⟩ = kn3 ∧ (kn2.told a b 5).heeds ⟨9, 1, 1, 1, 1, 0, 0, []⟩ = true := ⟨by rfl, by rfl⟩
theorem kn34 : kn3.hear 2 ⟨9, 1, 1, 1, 2, 2, 3, []⟩ = kn4 ∧ kn3.heeds ⟨9, 1, 1, 1, 2, 2, 3, []⟩ = true := ⟨by rfl, by rfl⟩
theorem rdNil {H : Hp} : Rd H 1 none 0 (([] : List Int).map (Value.int .u64)) := ⟨rfl, rfl⟩
theorem knownC (h : St H0 L H) (hK : ∀ H', St H0 L H' → K (.bool true) H') : hcall PR f_law23_known ⟨[]⟩ H K := by
  apply den_law23_known
  unfold B_law23_known
  have hg : (confOf zeroRaw).good := conf_good (by decide) (by decide)
  have h0 := zero_a0
  refine configC (r := zeroRaw) h fun H1 g1 => ?_
  generalize confOf zeroRaw = c at *
  unfold Cf.val
  (try simp only [asI_mk', asB_mk, asP_mk, asA_mk, asM_mk, asSl_mk, asStr_mk, tup2_mk, tup3_mk, agg1_mk, agg2_mk, agg3_mk, agg4_mk, asAggm, unCons_mk, unNil_mk, asTup_mk, extractD0, extractD1, List.toList_toArray, nilP_mk, add_mk, Nat.zero_add, Nat.add_zero, condT, condF, Bool.not_true, Bool.not_false, Option.isNone_some, Option.isNone_none])
  refine newC hg g1 (fun h => absurd h (by omega)) fun _ _ tb H2 g2 => ?_
  (try simp only [asI_mk', asB_mk, asP_mk, asA_mk, asM_mk, asSl_mk, asStr_mk, tup2_mk, tup3_mk, agg1_mk, agg2_mk, agg3_mk, agg4_mk, asAggm, unCons_mk, unNil_mk, asTup_mk, extractD0, extractD1, List.toList_toArray, nilP_mk, add_mk, Nat.zero_add, Nat.add_zero, condT, condF, Bool.not_true, Bool.not_false, Option.isNone_some, Option.isNone_none])
  refine bif_neqf rfl ?_
  (try simp only [Option.isNone, condF])
  refine stubC g2 fun H3 g3 => ?_
  (try simp only [asI_mk', asB_mk, asP_mk, asA_mk, asM_mk, asSl_mk, asStr_mk, tup2_mk, tup3_mk, agg1_mk, agg2_mk, agg3_mk, agg4_mk, asAggm, unCons_mk, unNil_mk, asTup_mk, extractD0, extractD1, List.toList_toArray, nilP_mk, add_mk, Nat.zero_add, Nat.add_zero, condT, condF, Bool.not_true, Bool.not_false, Option.isNone_some, Option.isNone_none])
  have hb0 : (newTr 1 0).beginE c.a0 2 7 = 0 := by rw [h0]; rfl
  refine trBeginC g3 (k := 0) rfl (by simp only [newTr]; omega) (fun h => absurd hb0 h) fun _ H4 g4 => ?_
  rw [knB] at g4
  (try simp only [asI_mk', asB_mk, asP_mk, asA_mk, asM_mk, asSl_mk, asStr_mk, tup2_mk, tup3_mk, agg1_mk, agg2_mk, agg3_mk, agg4_mk, asAggm, unCons_mk, unNil_mk, asTup_mk, extractD0, extractD1, List.toList_toArray, nilP_mk, add_mk, Nat.zero_add, Nat.add_zero, condT, condF, Bool.not_true, Bool.not_false, Option.isNone_some, Option.isNone_none])
  refine bif_neqf rfl ?_
  refine trStepC g4 (k := 0) rfl (fun h => absurd h (by decide)) fun _ H5 g5 => ?_
  have hq : kn1.q = ⟨8, 1, 1, 1, 2, 0, ⟨2, 7⟩, 0⟩ := by rfl
  rw [hq]
  unfold Qn.val
  (try simp only [asI_mk', asB_mk, asP_mk, asA_mk, asM_mk, asSl_mk, asStr_mk, tup2_mk, tup3_mk, agg1_mk, agg2_mk, agg3_mk, agg4_mk, asAggm, unCons_mk, unNil_mk, asTup_mk, extractD0, extractD1, List.toList_toArray, nilP_mk, add_mk, Nat.zero_add, Nat.add_zero, condT, condF, Bool.not_true, Bool.not_false, Option.isNone_some, Option.isNone_none])
  refine boxz (c := [.int .i64 0, .int .i64 0, .int .i64 0, .int .u64 0, .int .u64 0, .int .i64 0, .int .i64 0, .int .i64 0, .int .i64 0, .int .u64 0, .slice none 0 0, .int .u64 0, .int .i64 0, .int .u64 0, .int .i64 0, .int .u64 0, .int .i64 0, .int .u64 0, .slice none 0 0]) (vs := Qn.cells ⟨8, 1, 1, 1, 2, 0, ⟨2, 7⟩, 0⟩) g5 rfl fun b152 H6 g6 => ?_
  intro b173 hb173
  have g7 := g6.alloc (o := .cells #[.int .u64 4] ty_uint64) hb173
  have g7 : St H0 (Prt.one b173 (.cells #[.int .u64 4] ty_uint64 (0, 0)) :: Prt.one b152 (.cells (Qn.cells ⟨8, 1, 1, 1, 2, 0, ⟨2, 7⟩, 0⟩).toArray ty_api_Msg (0, 0)) :: TrP tb c (kn1.told c.a14 c.a15 5) :: L) _ := g7
  refine trHearC (m := ⟨9, 1, 1, 1, 0, 2, 3, [4]⟩) (k := 2) g7 rfl (by omega) rfl (by decide) (fun n hn => by simp at hn; omega) (fun N M H' hot h' => (St.lesses (M := N) h').one_rd (n := 1) (k := 1) (hot 0 _ rfl (by decide)) rfl) fun H8 g8 => ?_
  rw [h0, kn12.1] at g8
  rw [kn12.2]
  (try simp only [asI_mk', asB_mk, asP_mk, asA_mk, asM_mk, asSl_mk, asStr_mk, tup2_mk, tup3_mk, agg1_mk, agg2_mk, agg3_mk, agg4_mk, asAggm, unCons_mk, unNil_mk, asTup_mk, extractD0, extractD1, List.toList_toArray, nilP_mk, add_mk, Nat.zero_add, Nat.add_zero, condT, condF, Bool.not_true, Bool.not_false, Option.isNone_some, Option.isNone_none])
  refine trStepC g8 (k := 2) rfl (fun h => absurd h (by decide)) fun _ H9 g9 => ?_
  have hq : kn2.q = ⟨8, 1, 1, 1, 1, 1, ⟨1, 4⟩, 0⟩ := by rfl
  rw [hq]
  unfold Qn.val
  (try simp only [asI_mk', asB_mk, asP_mk, asA_mk, asM_mk, asSl_mk, asStr_mk, tup2_mk, tup3_mk, agg1_mk, agg2_mk, agg3_mk, agg4_mk, asAggm, unCons_mk, unNil_mk, asTup_mk, extractD0, extractD1, List.toList_toArray, nilP_mk, add_mk, Nat.zero_add, Nat.add_zero, condT, condF, Bool.not_true, Bool.not_false, Option.isNone_some, Option.isNone_none])
  refine boxz (c := [.int .i64 0, .int .i64 0, .int .i64 0, .int .u64 0, .int .u64 0, .int .i64 0, .int .i64 0, .int .i64 0, .int .i64 0, .int .u64 0, .slice none 0 0, .int .u64 0, .int .i64 0, .int .u64 0, .int .i64 0, .int .u64 0, .int .i64 0, .int .u64 0, .slice none 0 0]) (vs := Qn.cells ⟨8, 1, 1, 1, 1, 1, ⟨1, 4⟩, 0⟩) g9 rfl fun b245 H10 g10 => ?_
  refine trHearC (m := ⟨9, 1, 1, 1, 1, 0, 0, []⟩) (k := 3) g10 rfl (by omega) rfl (by decide) (fun n hn => by cases hn) (fun N M H' hot h' => rdNil) fun H11 g11 => ?_
  rw [h0, kn23.1] at g11
  rw [kn23.2]
  (try simp only [asI_mk', asB_mk, asP_mk, asA_mk, asM_mk, asSl_mk, asStr_mk, tup2_mk, tup3_mk, agg1_mk, agg2_mk, agg3_mk, agg4_mk, asAggm, unCons_mk, unNil_mk, asTup_mk, extractD0, extractD1, List.toList_toArray, nilP_mk, add_mk, Nat.zero_add, Nat.add_zero, condT, condF, Bool.not_true, Bool.not_false, Option.isNone_some, Option.isNone_none])
  refine trStateC g11 (k := 3) rfl ?_
  (try simp only [asI_mk', asB_mk, asP_mk, asA_mk, asM_mk, asSl_mk, asStr_mk, tup2_mk, tup3_mk, agg1_mk, agg2_mk, agg3_mk, agg4_mk, asAggm, unCons_mk, unNil_mk, asTup_mk, extractD0, extractD1, List.toList_toArray, nilP_mk, add_mk, Nat.zero_add, Nat.add_zero, condT, condF, Bool.not_true, Bool.not_false, Option.isNone_some, Option.isNone_none])
  refine trHearC (m := ⟨9, 1, 1, 1, 2, 2, 3, []⟩) (k := 3) g11 rfl (by omega) rfl (by decide) (fun n hn => by cases hn) (fun N M H' hot h' => rdNil) fun H12 g12 => ?_
  rw [h0, kn34.1] at g12
  rw [kn34.2]
  (try simp only [asI_mk', asB_mk, asP_mk, asA_mk, asM_mk, asSl_mk, asStr_mk, tup2_mk, tup3_mk, agg1_mk, agg2_mk, agg3_mk, agg4_mk, asAggm, unCons_mk, unNil_mk, asTup_mk, extractD0, extractD1, List.toList_toArray, nilP_mk, add_mk, Nat.zero_add, Nat.add_zero, condT, condF, Bool.not_true, Bool.not_false, Option.isNone_some, Option.isNone_none])
  refine trCountC g12 (k := 3) rfl ?_
  have g : St H0 (Prt.one b245 (.cells (Qn.cells ⟨8, 1, 1, 1, 1, 1, ⟨1, 4⟩, 0⟩).toArray ty_api_Msg (0, 0)) :: Prt.one b173 (.cells #[.int .u64 4] ty_uint64 (0, 0)) :: Prt.one b152 (.cells (Qn.cells ⟨8, 1, 1, 1, 2, 0, ⟨2, 7⟩, 0⟩).toArray ty_api_Msg (0, 0)) :: TrP tb c kn4 :: L) H12 := g12
  (try simp only [asI_mk', asB_mk, asP_mk, asA_mk, asM_mk, asSl_mk, asStr_mk, tup2_mk, tup3_mk, agg1_mk, agg2_mk, agg3_mk, agg4_mk, asAggm, unCons_mk, unNil_mk, asTup_mk, extractD0, extractD1, List.toList_toArray, nilP_mk, add_mk, Nat.zero_add, Nat.add_zero, condT, condF, Bool.not_true, Bool.not_false, Option.isNone_some, Option.isNone_none])
  refine ldI_of (g.cell (i := 2) rfl rfl) (bif_eq rfl (ldI_of (g.cell (i := 2) rfl rfl) (bif_eq rfl (ldI_of (g.cell (i := 2) rfl rfl) (bif_eq rfl (ldI_of (g.cell (i := 2) rfl rfl) (bif_eq rfl ?_)))))))
  (try simp only [asI_mk', asB_mk, asP_mk, asA_mk, asM_mk, asSl_mk, asStr_mk, tup2_mk, tup3_mk, agg1_mk, agg2_mk, agg3_mk, agg4_mk, asAggm, unCons_mk, unNil_mk, asTup_mk, extractD0, extractD1, List.toList_toArray, nilP_mk, add_mk, Nat.zero_add, Nat.add_zero, condT, condF, Bool.not_true, Bool.not_false, Option.isNone_some, Option.isNone_none])
  refine ldI_of (g.cell (i := 0) rfl rfl) (bif_eq rfl (ldI_of (g.cell (i := 0) rfl rfl) (ldI_of (g.cell (i := 0) rfl rfl) (idEq ?_))))
  rw [decide_eq_true rfl]
  (try simp only [asI_mk', asB_mk, asP_mk, asA_mk, asM_mk, asSl_mk, asStr_mk, tup2_mk, tup3_mk, agg1_mk, agg2_mk, agg3_mk, agg4_mk, asAggm, unCons_mk, unNil_mk, asTup_mk, extractD0, extractD1, List.toList_toArray, nilP_mk, add_mk, Nat.zero_add, Nat.add_zero, condT, condF, Bool.not_true, Bool.not_false, Option.isNone_some, Option.isNone_none])
  refine ldI_of (g.cell (i := 0) rfl rfl) (bif_eq rfl ?_)
  (try simp only [asI_mk', asB_mk, asP_mk, asA_mk, asM_mk, asSl_mk, asStr_mk, tup2_mk, tup3_mk, agg1_mk, agg2_mk, agg3_mk, agg4_mk, asAggm, unCons_mk, unNil_mk, asTup_mk, extractD0, extractD1, List.toList_toArray, nilP_mk, add_mk, Nat.zero_add, Nat.add_zero, condT, condF, Bool.not_true, Bool.not_false, Option.isNone_some, Option.isNone_none])
  refine bif_eq rfl ?_
  (try simp only [asI_mk', asB_mk, asP_mk, asA_mk, asM_mk, asSl_mk, asStr_mk, tup2_mk, tup3_mk, agg1_mk, agg2_mk, agg3_mk, agg4_mk, asAggm, unCons_mk, unNil_mk, asTup_mk, extractD0, extractD1, List.toList_toArray, nilP_mk, add_mk, Nat.zero_add, Nat.add_zero, condT, condF, Bool.not_true, Bool.not_false, Option.isNone_some, Option.isNone_none])
  refine trStateC g (k := 3) rfl ?_
  (try simp only [asI_mk', asB_mk, asP_mk, asA_mk, asM_mk, asSl_mk, asStr_mk, tup2_mk, tup3_mk, agg1_mk, agg2_mk, agg3_mk, agg4_mk, asAggm, unCons_mk, unNil_mk, asTup_mk, extractD0, extractD1, List.toList_toArray, nilP_mk, add_mk, Nat.zero_add, Nat.add_zero, condT, condF, Bool.not_true, Bool.not_false, Option.isNone_some, Option.isNone_none])
  exact hK H12 (St.lesses (M := [_, _, _, _]) g)
end
end Go.Proofs.Ytknejebggegfjaa

namespace Go.Proofs.Ytknejebggegfjaa
set_option linter.unusedSimpArgs false
set_option linter.unusedVariables false
open Go
/-- A web. -/
structure Web where
  ins : List (List Int)
  outs : List (List Int)
  live : List Int
  gone : List Int
def insW (w : Web) (node : Int) (x : Id) : List Int :=
  if w.ins.length = 0 then [] else [1, 2, 3, 4].filter fun s => ((w.ins.getD (Int.tmod (7 * node + x.s) w.ins.length).toNat []).take 3).any fun v => decide (1 + Int.tmod v 4 = s)
def upto4 (nodes : Int) : List Int := [1, 2, 3, 4].filter fun n => decide (n ≤ nodes)
def holdW (w : Web) (nodes : Int) (x : Id) : List Int :=
  if w.outs.length = 0 then [] else (upto4 nodes).filter fun n => decide (n ≠ x.n) && ((w.outs.getD (Int.tmod (5 * x.n + x.s) w.outs.length).toNat []).take 3).any fun v => decide (1 + Int.tmod v nodes = n)
def amongW (l : List Int) (n : Int) : Bool := l.any fun v => decide (pick v 60 = n)
def numW (inn : Bool) (node : Int) (x : Id) : Int := Int.tmod (12 * node + 4 * x.n + x.s + if inn then 1 else 0) 60
def ansW (w : Web) (nodes : Int) (q : Qn) : Ms :=
  if q.kind = 10 then ⟨11, q.to, q.frm, q.call, q.item, 0, 0, []⟩
  else if q.op = 3 then ⟨9, q.to, q.frm, q.call, q.item, 2, 10 + q.to, []⟩
  else if amongW w.live (numW (q.op == 1) q.to q.tgt) then ⟨9, q.to, q.frm, q.call, q.item, 1, 10 + q.to, []⟩
  else if amongW w.gone (numW (q.op == 1) q.to q.tgt) then ⟨9, q.to, q.frm, q.call, q.item, 0, 10 + q.to, []⟩
  else if q.op = 1 then ⟨9, q.to, q.frm, q.call, q.item, 2, 10 + q.to, holdW w nodes q.tgt⟩
  else ⟨9, q.to, q.frm, q.call, q.item, 2, 10 + q.to, insW w q.to q.tgt⟩

/-- What can be asked about. -/
def inU (nodes : Int) (x : It) : Prop :=
  (x.inn = true ∧ x.node = x.id.n ∧ (1 ≤ x.node ∧ x.node ≤ nodes) ∧ (1 ≤ x.id.s ∧ x.id.s ≤ 4)) ∨
  (x.inn = false ∧ (1 ≤ x.node ∧ x.node ≤ nodes) ∧ x.node ≠ x.id.n ∧ (1 ≤ x.id.n ∧ x.id.n ≤ nodes) ∧ ((1 ≤ x.id.s ∧ x.id.s ≤ 4) ∨ (x.node = 1 ∧ x.id.n = 2 ∧ x.id.s = 7)))
def apart (l : List It) : Prop := l.Pairwise fun a b => a.same b = false
def itNo (x : It) : Int := if x.inn then (x.node - 1) * 4 + (x.id.s - 1) else 16 + ((x.node - 1) * 4 + (x.id.n - 1)) * 8 + (x.id.s - 1)
section
variable {nodes : Int} {w : Web} {t : Tr} {m : Ms} {i : Nat}
theorem id_ext {a b : Id} (h1 : a.n = b.n) (h2 : a.s = b.s) : a = b := by
  cases a; cases b; simp only at h1 h2; rw [h1, h2]
theorem itNo_inj (hn : nodes ≤ 4) {a b : It} (ha : inU nodes a) (hb : inU nodes b) (h : itNo a = itNo b) : a.same b = true := by
  rw [it_same]
  unfold itNo at h
  unfold inU at ha hb
  cases h1 : a.inn <;> cases h2 : b.inn <;> simp only [h1, h2, if_true, if_false, Bool.false_eq_true] at h ha hb <;> simp only [true_and, false_and, or_false, false_or, reduceCtorEq] at ha hb ⊢
  · obtain ⟨a1, a2, a3, a4⟩ := ha
    obtain ⟨b1, b2, b3, b4⟩ := hb
    have : a.node = b.node ∧ a.id.n = b.id.n ∧ a.id.s = b.id.s := by
      rcases a4 with a4 | a4 <;> rcases b4 with b4 | b4 <;> omega
    exact ⟨this.1, id_ext this.2.1 this.2.2⟩
  · obtain ⟨a1, a2, a3, a4⟩ := ha
    omega
  · obtain ⟨b1, b2, b3, b4⟩ := hb
    omega
  · have : a.node = b.node ∧ a.id.n = b.id.n ∧ a.id.s = b.id.s := by omega
    exact ⟨this.1, id_ext this.2.1 this.2.2⟩
theorem itNo_lt (hn : nodes ≤ 4) {a : It} (ha : inU nodes a) : 0 ≤ itNo a ∧ itNo a < 144 := by
  unfold itNo
  rcases ha with ⟨h1, h2, h3, h4⟩ | ⟨h1, h2, h3, h4, h5⟩
  · rw [h1, if_pos rfl]; omega
  · rw [h1, if_neg (by decide)]; omega
theorem few_items (hn : nodes ≤ 4) {l : List It} (hu : ∀ x ∈ l, inU nodes x) (ha : apart l) : l.length ≤ 144 := by
  have h := keys_few (k := 144) (l := l.map fun x => (itNo x + 1, (0 : Int))) (by
    unfold mnod
    rw [List.map_map]
    unfold List.Nodup
    rw [List.pairwise_map]
    refine List.Pairwise.imp_of_mem (fun {a b} ha hb h e => ?_) ha
    have e : itNo a + 1 = itNo b + 1 := e
    rw [itNo_inj hn (hu a ha) (hu b hb) (by omega)] at h
    cases h) fun e he => by
      obtain ⟨x, hx, rfl⟩ := List.mem_map.1 he
      have := itNo_lt hn (hu x hx)
      show 1 ≤ itNo x + 1 ∧ itNo x + 1 ≤ _
      omega
  simpa using h

/-- What is told of an item, as items; all of a list, added. -/
def tells (nodes : Int) (w : Web) (x : It) : List It :=
  if x.inn then (holdW w nodes x.id).map fun n => ⟨false, n, x.id, 0⟩ else (insW w x.node x.id).map fun s => ⟨true, x.node, ⟨x.node, s⟩, 0⟩
def addAll : List It → List It → List It
  | l, [] => l
  | l, y :: r => addAll (if l.any (fun z => z.same y) then l else l ++ [y]) r
theorem ins_in {node : Int} {x : Id} {s : Int} (h : s ∈ insW w node x) : 1 ≤ s ∧ s ≤ 4 := by
  unfold insW at h
  split at h
  · cases h
  · have := (List.mem_filter.1 h).1
    simp at this
    omega
theorem hold_in {x : Id} {n : Int} (h : n ∈ holdW w nodes x) : (1 ≤ n ∧ n ≤ 4) ∧ n ≤ nodes ∧ n ≠ x.n := by
  unfold holdW at h
  split at h
  · cases h
  · obtain ⟨h1, h2⟩ := List.mem_filter.1 h
    unfold upto4 at h1
    obtain ⟨h3, h4⟩ := List.mem_filter.1 h1
    rw [Bool.and_eq_true] at h2
    have h2 := of_decide_eq_true h2.1
    have h4 := of_decide_eq_true h4
    simp at h3
    exact ⟨by omega, h4, h2⟩
theorem tells_in {x y : It} (hx : inU nodes x) (h : y ∈ tells nodes w x) : inU nodes y ∧ y.code = 0 := by
  unfold tells at h
  rcases hx with ⟨h1, h2, h3, h4⟩ | ⟨h1, h2, h3, h4, h5⟩
  · rw [h1, if_pos rfl] at h
    obtain ⟨n, hn, rfl⟩ := List.mem_map.1 h
    obtain ⟨n1, n2, n3⟩ := hold_in hn
    exact ⟨.inr ⟨rfl, ⟨n1.1, n2⟩, n3, by simp only; omega, .inl h4⟩, rfl⟩
  · rw [h1, if_neg (by decide)] at h
    obtain ⟨s, hs, rfl⟩ := List.mem_map.1 h
    have := ins_in hs
    exact ⟨.inl ⟨rfl, rfl, h2, this⟩, rfl⟩
theorem add_in : ∀ {r l : List It}, (∀ x ∈ l, inU nodes x) → apart l → (∀ y ∈ r, inU nodes y) → (∀ x ∈ addAll l r, inU nodes x) ∧ apart (addAll l r)
  | [], l, h1, h2, h3 => ⟨h1, h2⟩
  | y :: r, l, h1, h2, h3 => by
    unfold addAll
    split
    · exact add_in h1 h2 fun z hz => h3 z (by simp [hz])
    · rename_i hno
      refine add_in (fun x hx => ?_) ?_ fun z hz => h3 z (by simp [hz])
      · rcases List.mem_append.1 hx with hx | hx
        · exact h1 x hx
        · simp at hx; rw [hx]; exact h3 y (by simp)
      · unfold apart
        rw [List.pairwise_append]
        refine ⟨h2, by simp, fun a ha b hb => ?_⟩
        simp at hb
        rw [hb]
        cases hs : a.same y
        · rfl
        · exact absurd (List.any_eq_true.2 ⟨a, ha, hs⟩) hno
theorem add_grow : ∀ {r l : List It}, ∃ r', addAll l r = l ++ r'
  | [], l => ⟨[], by simp [addAll]⟩
  | y :: r, l => by
    unfold addAll
    split
    · exact add_grow
    · obtain ⟨r', h⟩ := add_grow (r := r) (l := l ++ [y])
      exact ⟨y :: r', by rw [h]; simp⟩
theorem more_tells (hn : nodes ≤ 4) {x : It} (hx : inU nodes x) {f : Int → It} : ∀ {r : List Int} {l : List It}, (∀ n ∈ r, moreIt nodes x n = some (f n) ∧ inU nodes (f n)) → (∀ x ∈ l, inU nodes x) → apart l → moreL nodes x r l = (true, addAll l (r.map f))
  | [], l, h, h1, h2 => rfl
  | n :: r, l, h, h1, h2 => by
    obtain ⟨h3, h4⟩ := h n (by simp)
    unfold moreL
    rw [h3, List.map_cons]
    unfold addAll
    have hl := few_items hn h1 h2
    simp only
    by_cases ha : l.any (fun z => z.same (f n)) = true
    · rw [if_pos ha, if_pos ha]
      exact more_tells hn hx (fun n hn => h n (by simp [hn])) h1 h2
    · rw [if_neg ha, if_neg ha, if_neg (by omega)]
      have := add_in (r := [f n]) h1 h2 (by simpa using h4)
      unfold addAll at this
      rw [if_neg ha] at this
      unfold addAll at this
      exact more_tells hn hx (fun n hn => h n (by simp [hn])) this.1 this.2
theorem more_web (hn : 2 ≤ nodes ∧ nodes ≤ 4) {x : It} (hx : inU nodes x) {l : List It} (h1 : ∀ x ∈ l, inU nodes x) (h2 : apart l) :
    moreL nodes x (if x.inn then holdW w nodes x.id else insW w x.node x.id) l = (true, addAll l (tells nodes w x)) := by
  unfold tells
  cases hi : x.inn
  · rw [if_neg (by decide), if_neg (by decide)]
    refine more_tells hn.2 hx (fun s hs => ?_) h1 h2
    have hs' := ins_in hs
    have hu : inU nodes (⟨true, x.node, ⟨x.node, s⟩, 0⟩ : It) := (tells_in (w := w) hx (y := ⟨true, x.node, ⟨x.node, s⟩, 0⟩) (by unfold tells; rw [hi, if_neg (by decide)]; exact List.mem_map.2 ⟨s, hs, rfl⟩)).1
    refine ⟨?_, hu⟩
    unfold moreIt
    rw [if_neg (by omega), if_neg (by omega), hi, if_neg (by decide)]
  · rw [if_pos rfl, if_pos rfl]
    refine more_tells hn.2 hx (fun n hn' => ?_) h1 h2
    obtain ⟨n1, n2, n3⟩ := hold_in hn'
    have hu : inU nodes (⟨false, n, x.id, 0⟩ : It) := (tells_in (w := w) hx (y := ⟨false, n, x.id, 0⟩) (by unfold tells; rw [hi, if_pos rfl]; exact List.mem_map.2 ⟨n, hn', rfl⟩)).1
    refine ⟨?_, hu⟩
    unfold moreIt
    rw [if_neg (by omega), if_neg (by omega), hi, if_pos rfl, if_neg (by omega), if_neg n3]
end
end Go.Proofs.Ytknejebggegfjaa

namespace Go.Proofs.Ytknejebggegfjaa
set_option linter.unusedSimpArgs false
set_option linter.unusedVariables false
open Go
/-- At the i-th question. -/
structure Wi (nodes : Int) (w : Web) (i : Nat) (t : Tr) : Prop where
  ok : t.ok nodes
  node : t.node = 1
  num : t.num = 1
  sw : t.st ≠ 0 → t.sent = 0 ∧ t.wait = 0
  opn : t.st ≠ 0 → t.opn = i
  us : ∀ x ∈ t.items, inU nodes x
  ap : apart t.items
  sm : ∀ e ∈ t.sm, e.2 = 10 + e.1
  two : t.st = 2 → (∀ n ∈ t.todo, mlook t.sm n = some (10 + n)) ∧ i + t.todo.length ≤ t.items.length + 4
  three : t.st = 3 → i + t.todo.length ≤ 2 * t.items.length + 4
def isLive (w : Web) (x : It) : Bool := amongW w.live (numW x.inn x.node x.id)
def isGone (w : Web) (x : It) : Bool := amongW w.gone (numW x.inn x.node x.id)
section
variable {nodes : Int} {w : Web} {t : Tr} {m : Ms} {i : Nat}
theorem Wi.lt (hn : nodes ≤ 4) (h : Wi nodes w i t) (h0 : t.st ≠ 0) : i < 292 := by
  have hf := few_items hn h.us h.ap
  have hs := h.ok.st
  by_cases h1 : t.st = 1
  · have := h.ok.one h1
    have := h.opn h0
    omega
  by_cases h2 : t.st = 2
  · have h3 := h.two h2
    have := List.length_pos_iff.2 (h.ok.two h2).1
    omega
  · have h3 := h.three (by omega)
    have := List.length_pos_iff.2 (h.ok.three (by omega)).1
    omega
theorem Wi.asks (h : Wi nodes w i t) (h0 : t.st ≠ 0) : t.asks 1099511627776 = true := by
  obtain ⟨h1, h2⟩ := h.sw h0
  unfold Tr.asks pastB
  rw [decide_eq_false h0, h1, h2]
  decide
theorem Wi.over (h : Wi nodes w i t) : Wi nodes w (i + 1) t.over :=
  ⟨Tr.over_ok, h.node, h.num, fun h => absurd rfl h, fun h => absurd rfl h, fun x hx => (by cases hx), List.Pairwise.nil, fun e he => (by cases he), fun h => absurd h (by simp [Tr.over]), fun h => absurd h (by simp [Tr.over])⟩
theorem Wi.finds' (h1 : t.node = 1) (h2 : t.num = 1) : Wi nodes w (i + 1) t.finds :=
  ⟨Tr.finds_ok, h1, h2, fun h => absurd rfl h, fun h => absurd rfl h, fun x hx => (by cases hx), List.Pairwise.nil, fun e he => (by cases he), fun h => absurd h (by simp [Tr.finds, Tr.over]), fun h => absurd h (by simp [Tr.finds, Tr.over])⟩
theorem next_opn (ho : t.opn = i) (hi : i < 100000) : t.next.opn = ((i + 1 : Nat) : Int) := by
  unfold Tr.next
  simp only
  rw [ho, wrap_i64 (by omega) (by omega)]
  omega
theorem apart_set {l : List It} {j : Nat} {c : Int} (h : apart l) : apart (l.set j { l.getD j noIt with code := c }) := by
  obtain ⟨y, hy⟩ : ∃ y, y = l.getD j noIt := ⟨_, rfl⟩
  rw [← hy]
  unfold apart at h ⊢
  rw [List.pairwise_iff_getElem] at h ⊢
  intro a b ha hb hab
  simp only [List.length_set] at ha hb
  have := h a b ha hb hab
  rw [List.getElem_set, List.getElem_set]
  have gd : ∀ (hj : j < l.length), y = l[j] := fun hj => by rw [hy, List.getD_eq_getElem?_getD, List.getElem?_eq_getElem hj]; rfl
  by_cases e1 : j = a
  · rw [if_pos e1, if_neg (by omega)]
    show y.same l[b] = false
    have e : y = l[a] := by subst e1; exact gd ha
    rw [e]
    exact this
  · rw [if_neg e1]
    by_cases e2 : j = b
    · rw [if_pos e2]
      show l[a].same y = false
      have e : y = l[b] := by subst e2; exact gd hb
      rw [e]
      exact this
    · rw [if_neg e2]
      exact this
theorem inU_code {x : It} {c : Int} (h : inU nodes x) : inU nodes { x with code := c } := h
theorem inU_set {l : List It} {j : Nat} {c : Int} (hj : j < l.length) (h : ∀ x ∈ l, inU nodes x) : ∀ x ∈ l.set j { l.getD j noIt with code := c }, inU nodes x := fun x hx => by
  rcases List.mem_or_eq_of_mem_set hx with hx | rfl
  · exact h x hx
  · have : l.getD j noIt ∈ l := by
      rw [List.getD_eq_getElem?_getD, List.getElem?_eq_getElem hj]
      exact List.getElem_mem _
    exact inU_code (h _ this)
/-- Onward, at the i-th. -/
theorem Wi.onward (hn : 2 ≤ nodes ∧ nodes ≤ 4) (ho : t.ok nodes) (h1 : t.st = 1) (hnd : t.node = 1) (hnm : t.num = 1) (hop : t.opn = i) (us : ∀ x ∈ t.items, inU nodes x) (ap : apart t.items) (sm : ∀ e ∈ t.sm, e.2 = 10 + e.1) : Wi nodes w (i + 1) t.onward := by
  have hf := few_items hn.2 us ap
  obtain ⟨o1, o2, o3⟩ := ho.one h1
  have hno := next_opn hop (by omega)
  have hok := ho.onward (by omega) h1
  unfold Tr.onward at hok ⊢
  by_cases hlt : t.next.opn < t.items.length
  · rw [if_pos hlt] at hok ⊢
    exact ⟨hok, hnd, hnm, fun _ => ⟨rfl, rfl⟩, fun _ => hno, us, ap, sm, fun h => absurd h (by show ¬ t.st = 2; omega), fun h => absurd h (by show ¬ t.st = 3; omega)⟩
  rw [if_neg hlt] at hok ⊢
  by_cases hz : t.sm.length = 0
  · rw [if_pos hz]
    exact Wi.finds' hnd hnm
  rw [if_neg hz] at hok ⊢
  have hk := keys_few (k := nodes.toNat) ho.sm fun e he => by have := ho.keys e he; omega
  have hl : (rise1 (t.sm.map (·.1))).length = t.sm.length := by rw [rise1_perm.length_eq, List.length_map]
  refine ⟨hok, hnd, hnm, fun _ => ⟨rfl, rfl⟩, fun _ => hno, us, ap, sm, fun _ => ⟨fun n hn' => ?_, ?_⟩, fun h => absurd h (by show ¬ (2 : Int) = 3; decide)⟩
  · have hm : n ∈ t.sm.map (·.1) := rise1_perm.mem_iff.1 hn'
    obtain ⟨e, he, rfl⟩ := List.mem_map.1 hm
    have := sm e he
    exact mlook_of ho.sm (by rw [← this]; exact he)
  · show i + 1 + (rise1 (t.sm.map (·.1))).length ≤ t.items.length + 4
    rw [hl]
    omega
/-- The question, and what is answered, while it asks. -/
theorem Wi.q1 (h : Wi nodes w i t) (h1 : t.st = 1) : t.q = ⟨8, 1, (t.items.getD i noIt).node, 1, if (t.items.getD i noIt).inn then 1 else 2, i, (t.items.getD i noIt).id, 0⟩ := by
  have ho := h.opn (by omega)
  unfold Tr.q
  rw [if_pos h1, h.node, h.num, ho, Int.toNat_natCast]
theorem ans1 {x : It} : ansW w nodes ⟨8, 1, x.node, 1, if x.inn then 1 else 2, i, x.id, 0⟩ =
    if isLive w x then ⟨9, x.node, 1, 1, i, 1, 10 + x.node, []⟩ else if isGone w x then ⟨9, x.node, 1, 1, i, 0, 10 + x.node, []⟩
    else ⟨9, x.node, 1, 1, i, 2, 10 + x.node, if x.inn then holdW w nodes x.id else insW w x.node x.id⟩ := by
  unfold ansW isLive isGone
  cases hx : x.inn <;> rfl
theorem Wi.mem (h : Wi nodes w i t) (h1 : t.st = 1) : i < t.items.length ∧ t.items.getD i noIt ∈ t.items := by
  have ho := h.opn (by omega)
  obtain ⟨o1, o2, o3⟩ := h.ok.one h1
  have hi : i < t.items.length := by omega
  refine ⟨hi, ?_⟩
  rw [List.getD_eq_getElem?_getD, List.getElem?_eq_getElem hi]
  exact List.getElem_mem _
theorem Wi.heeds1 (h : Wi nodes w i t) (h1 : t.st = 1) {c s : Int} {l : List Int} : t.heeds ⟨9, (t.items.getD i noIt).node, 1, 1, i, c, s, l⟩ = true := by
  unfold Tr.heeds
  rw [h.q1 h1, h1, h.node]
  simp
theorem Wi.hear1 (h : Wi nodes w i t) (h1 : t.st = 1) {c s : Int} {l : List Int} : t.hear nodes ⟨9, (t.items.getD i noIt).node, 1, 1, i, c, s, l⟩ = t.asked nodes c s l := by
  unfold Tr.hear
  rw [if_neg (by rw [h.heeds1 h1]; decide), if_pos h1]
/-- What comes of it. -/
def Tr.more1 (nodes : Int) (w : Web) (i : Nat) (t : Tr) : Tr :=
  { t with items := addAll (t.code 2).items (tells nodes w (t.items.getD i noIt)), sm := mput t.sm (t.items.getD i noIt).node (10 + (t.items.getD i noIt).node) }
theorem Wi.step1 (hn : 2 ≤ nodes ∧ nodes ≤ 4) (h : Wi nodes w i t) (h1 : t.st = 1) : t.heeds (ansW w nodes t.q) = true ∧
    t.hear nodes (ansW w nodes t.q) = if isLive w (t.items.getD i noIt) then t.over else if isGone w (t.items.getD i noIt) then (t.code 0).onward else (t.more1 nodes w i).onward := by
  obtain ⟨hi, hm⟩ := h.mem h1
  have ho := h.opn (by omega)
  have hx := h.us _ hm
  rw [h.q1 h1, ans1]
  by_cases hl : isLive w (t.items.getD i noIt) = true
  · rw [if_pos hl, if_pos hl, h.hear1 h1]
    exact ⟨h.heeds1 h1, by unfold Tr.asked; rw [if_neg (by decide), if_neg (by decide)]⟩
  rw [if_neg hl, if_neg hl]
  by_cases hg : isGone w (t.items.getD i noIt) = true
  · rw [if_pos hg, if_pos hg, h.hear1 h1]
    exact ⟨h.heeds1 h1, by unfold Tr.asked; rw [if_pos rfl]⟩
  rw [if_neg hg, if_neg hg, h.hear1 h1]
  refine ⟨h.heeds1 h1, ?_⟩
  have hto : t.opn.toNat = i := by omega
  unfold Tr.asked
  rw [if_neg (by decide), if_pos rfl, hto]
  have hsm : ¬ ((mlook t.sm (t.items.getD i noIt).node).isSome ∧ (mlook t.sm (t.items.getD i noIt).node).getD 0 ≠ 10 + (t.items.getD i noIt).node) := by
    rintro ⟨a, b⟩
    obtain ⟨v, hv⟩ := Option.isSome_iff_exists.1 a
    have := h.sm _ (mlook_mem hv)
    rw [hv] at b
    exact b this
  rw [if_neg hsm]
  have ec : (t.code 2).items = t.items.set i { t.items.getD i noIt with code := 2 } := by unfold Tr.code; rw [ho, Int.toNat_natCast]
  have hmo := more_web (w := w) hn hx (l := (t.code 2).items) (by rw [ec]; exact inU_set hi h.us) (by rw [ec]; exact apart_set h.ap)
  rw [hmo, if_neg (by simp)]
  rfl
theorem Wi.code (hn : 2 ≤ nodes ∧ nodes ≤ 4) (h : Wi nodes w i t) (h1 : t.st = 1) {c : Int} : Wi nodes w (i + 1) (t.code c).onward := by
  obtain ⟨hi, hm⟩ := h.mem h1
  have ho := h.opn (by omega)
  have ec : (t.code c).items = t.items.set i { t.items.getD i noIt with code := c } := by unfold Tr.code; rw [ho, Int.toNat_natCast]
  exact Wi.onward hn (Tr.code_ok h.ok h1) h1 h.node h.num ho (by rw [ec]; exact inU_set hi h.us) (by rw [ec]; exact apart_set h.ap) h.sm
theorem Wi.more1 (hn : 2 ≤ nodes ∧ nodes ≤ 4) (h : Wi nodes w i t) (h1 : t.st = 1) : (t.more1 nodes w i).ok nodes ∧ Wi nodes w (i + 1) (t.more1 nodes w i).onward := by
  obtain ⟨hi, hm⟩ := h.mem h1
  have ho := h.opn (by omega)
  have hx := h.us _ hm
  have ec : (t.code 2).items = t.items.set i { t.items.getD i noIt with code := 2 } := by unfold Tr.code; rw [ho, Int.toNat_natCast]
  have hadd := add_in (r := tells nodes w (t.items.getD i noIt)) (l := (t.code 2).items) (by rw [ec]; exact inU_set hi h.us) (by rw [ec]; exact apart_set h.ap) fun y hy => (tells_in hx hy).1
  have hf := few_items hn.2 hadd.1 hadd.2
  obtain ⟨r', hr'⟩ := add_grow (r := tells nodes w (t.items.getD i noIt)) (l := (t.code 2).items)
  obtain ⟨o1, o2, o3⟩ := h.ok.one h1
  have hxn : 1 ≤ (t.items.getD i noIt).node ∧ (t.items.getD i noIt).node ≤ nodes := h.ok.nds _ hm
  have hok : (t.more1 nodes w i).ok nodes := by
    refine ⟨h.ok.st, by show (addAll _ _).length ≤ 1000; omega, fun x hx' => ?_, mput_nod h.ok.sm _ _, fun e he => ?_, fun _ => ⟨o1, ?_, o3⟩, fun h2 => absurd h2 (by show ¬ t.st = 2; omega), fun h3 => absurd h3 (by show ¬ t.st = 3; omega)⟩
    · rcases hadd.1 x hx' with ⟨_, _, h3, _⟩ | ⟨_, h3, _⟩ <;> exact h3
    · rcases mput_in he with rfl | he
      · exact hxn
      · exact h.ok.keys e he
    · show t.opn < ((addAll _ _).length : Int)
      rw [hr', List.length_append, ec, List.length_set]
      omega
  refine ⟨hok, Wi.onward hn hok h1 h.node h.num ho hadd.1 hadd.2 fun e he => ?_⟩
  rcases mput_in he with rfl | he
  · rfl
  · exact h.sm e he
/-- While it checks. -/
theorem Wi.q2 (h : Wi nodes w i t) (h2 : t.st = 2) : t.q = ⟨8, 1, t.todo.getD 0 0, 1, 3, i, noId, 0⟩ := by
  have ho := h.opn (by omega)
  unfold Tr.q
  rw [if_neg (by omega), if_pos h2, h.node, h.num, ho]
theorem Wi.step2 (h : Wi nodes w i t) (h2 : t.st = 2) {l : List Int} {s : Int} : t.heeds ⟨9, t.todo.getD 0 0, 1, 1, i, 2, s, l⟩ = true ∧
    t.hear nodes ⟨9, t.todo.getD 0 0, 1, 1, i, 2, s, l⟩ = if s ≠ 10 + t.todo.getD 0 0 then t.over else if 1 < t.todo.length then { t.next with todo := t.todo.tail }
      else if (buryFrom 0 t.items).length = 0 then Tr.finds t.next else { t.next with todo := buryFrom 0 t.items, st := 3 } := by
  have hh : t.heeds ⟨9, t.todo.getD 0 0, 1, 1, i, 2, s, l⟩ = true := by
    unfold Tr.heeds
    rw [h.q2 h2, h2, h.node]
    simp
  refine ⟨hh, ?_⟩
  unfold Tr.hear
  rw [if_neg (by rw [hh]; decide), if_neg (by omega), if_pos h2]
  unfold Tr.checked
  have hpos := List.length_pos_iff.2 (h.ok.two h2).1
  have hmem : t.todo.getD 0 0 ∈ t.todo := by
    rw [List.getD_eq_getElem?_getD, List.getElem?_eq_getElem hpos]
    exact List.getElem_mem _
  rw [(h.two h2).1 _ hmem]
  rfl
theorem ans2 {n : Int} : ansW w nodes ⟨8, 1, n, 1, 3, i, noId, 0⟩ = ⟨9, n, 1, 1, i, 2, 10 + n, []⟩ := by
  unfold ansW
  rw [if_neg (show ¬ (8 : Int) = 10 by decide), if_pos (show (3 : Int) = 3 from rfl)]
theorem Wi.two1 (hn : nodes ≤ 4) (h : Wi nodes w i t) (h2 : t.st = 2) (hl : 1 < t.todo.length) : Wi nodes w (i + 1) { t.next with todo := t.todo.tail } := by
  have hi := h.lt hn (by omega)
  have hno := next_opn (h.opn (by omega)) (i := i) (by omega)
  have hok : Tr.ok nodes { t.next with todo := t.todo.tail } := by
    refine ⟨h.ok.st, h.ok.items, h.ok.nds, h.ok.sm, h.ok.keys, fun h3 => absurd h3 (by show ¬ t.st = 1; omega), fun _ => ⟨fun e => ?_, ?_⟩, fun h3 => absurd h3 (by show ¬ t.st = 3; omega)⟩
    · have := congrArg List.length e
      simp at this
      omega
    · have := (h.ok.two h2).2
      simp only [List.length_tail]
      omega
  have h3 := (h.two h2).2
  refine ⟨hok, h.node, h.num, fun _ => ⟨rfl, rfl⟩, fun _ => hno, h.us, h.ap, h.sm, fun _ => ⟨fun n hn' => (h.two h2).1 n (List.mem_of_mem_tail hn'), ?_⟩, fun h3 => absurd h3 (by show ¬ t.st = 3; omega)⟩
  show i + 1 + t.todo.tail.length ≤ t.items.length + 4
  rw [List.length_tail]
  omega
theorem Wi.two2 (hn : nodes ≤ 4) (h : Wi nodes w i t) (h2 : t.st = 2) (hl : ¬ 1 < t.todo.length) (hb : ¬ (buryFrom 0 t.items).length = 0) : Wi nodes w (i + 1) { t.next with todo := buryFrom 0 t.items, st := 3 } := by
  have hi := h.lt hn (by omega)
  have hno := next_opn (h.opn (by omega)) (i := i) (by omega)
  have hbl := bury_len (l := t.items) (k := 0)
  have hit := h.ok.items
  have hpos := List.length_pos_iff.2 (h.ok.two h2).1
  have h3 := (h.two h2).2
  have hok : Tr.ok nodes { t.next with todo := buryFrom 0 t.items, st := 3 } := by
    refine ⟨by simp, h.ok.items, h.ok.nds, h.ok.sm, h.ok.keys, fun h3 => absurd h3 (by simp), fun h3 => absurd h3 (by simp), fun _ => ⟨fun e => hb (by rw [show buryFrom 0 t.items = [] from e]; rfl), by simp only; omega, fun i hi => ?_⟩⟩
    have := bury_mem hi
    show 0 ≤ i ∧ i < (t.items.length : Int)
    omega
  refine ⟨hok, h.node, h.num, fun _ => ⟨rfl, rfl⟩, fun _ => hno, h.us, h.ap, h.sm, fun h3 => absurd h3 (by show ¬ (3 : Int) = 2; decide), fun _ => ?_⟩
  show i + 1 + (buryFrom 0 t.items).length ≤ 2 * t.items.length + 4
  omega
/-- While it buries. -/
theorem Wi.q3 (h : Wi nodes w i t) (h3 : t.st = 3) : t.q = ⟨10, 1, (t.items.getD (t.todo.getD 0 0).toNat noIt).node, 1, 0, i, (t.items.getD (t.todo.getD 0 0).toNat noIt).id, (mlook t.sm (t.items.getD (t.todo.getD 0 0).toNat noIt).node).getD 0⟩ := by
  have ho := h.opn (by omega)
  unfold Tr.q
  rw [if_neg (by omega), if_neg (by omega), h.node, h.num, ho]
theorem ans3 {n s : Int} {x : Id} : ansW w nodes ⟨10, 1, n, 1, 0, i, x, s⟩ = ⟨11, n, 1, 1, i, 0, 0, []⟩ := by
  unfold ansW
  rw [if_pos (show (10 : Int) = 10 from rfl)]
theorem Wi.step3 (h : Wi nodes w i t) (h3 : t.st = 3) : t.heeds (ansW w nodes t.q) = true ∧ t.hear nodes (ansW w nodes t.q) = t.buried := by
  rw [h.q3 h3, ans3]
  have hh : t.heeds ⟨11, (t.items.getD (t.todo.getD 0 0).toNat noIt).node, 1, 1, i, 0, 0, []⟩ = true := by
    unfold Tr.heeds
    rw [h.q3 h3, h3, h.node]
    simp
  refine ⟨hh, ?_⟩
  unfold Tr.hear
  rw [if_neg (by rw [hh]; decide), if_neg (by omega), if_neg (by omega)]
theorem Wi.three1 (hn : nodes ≤ 4) (h : Wi nodes w i t) (h3 : t.st = 3) : Wi nodes w (i + 1) t.buried := by
  have hi := h.lt hn (by omega)
  have hno := next_opn (h.opn (by omega)) (i := i) (by omega)
  have hok := h.ok.buried h3
  unfold Tr.buried at hok ⊢
  split
  · exact Wi.finds' h.node h.num
  · rename_i hl
    rw [if_neg hl] at hok
    have h4 := h.three h3
    refine ⟨hok, h.node, h.num, fun _ => ⟨rfl, rfl⟩, fun _ => hno, h.us, h.ap, h.sm, fun h2 => absurd h2 (by show ¬ t.st = 2; omega), fun _ => ?_⟩
    show i + 1 + t.todo.tail.length ≤ 2 * t.items.length + 4
    rw [List.length_tail]
    omega
/-- Whatever it asks, the web's answer is heard, and it goes on. -/
theorem Wi.step (hn : 2 ≤ nodes ∧ nodes ≤ 4) (h : Wi nodes w i t) (h0 : t.st ≠ 0) : t.heeds (ansW w nodes t.q) = true ∧ Wi nodes w (i + 1) (t.hear nodes (ansW w nodes t.q)) := by
  have hs := h.ok.st
  by_cases h1 : t.st = 1
  · obtain ⟨a, b⟩ := h.step1 hn h1
    refine ⟨a, ?_⟩
    rw [b]
    split
    · exact h.over
    · split
      · exact h.code hn h1
      · exact (h.more1 hn h1).2
  by_cases h2 : t.st = 2
  · rw [h.q2 h2, ans2]
    obtain ⟨a, b⟩ := h.step2 h2 (s := 10 + t.todo.getD 0 0) (l := [])
    refine ⟨a, ?_⟩
    rw [b, if_neg (fun h => h rfl)]
    split
    · rename_i hl; exact h.two1 hn.2 h2 hl
    · split
      · exact Wi.finds' h.node h.num
      · rename_i hl hb; exact h.two2 hn.2 h2 hl hb
  · have h3 : t.st = 3 := by omega
    obtain ⟨a, b⟩ := h.step3 h3
    refine ⟨a, ?_⟩
    rw [b]
    exact h.three1 hn.2 h3
theorem Wi.start (hn : 2 ≤ nodes ∧ nodes ≤ 4) : Wi nodes w 0 ((newTr 1 0).begun 2 7 0) := by
  refine ⟨Tr.begun_ok (by simp only [newTr]; omega), rfl, by rfl, fun _ => ⟨rfl, rfl⟩, fun _ => rfl, fun x hx => ?_, ?_, fun e he => (by cases he), fun h => absurd h (by simp [Tr.begun]), fun h => absurd h (by simp [Tr.begun])⟩
  · simp [Tr.begun, newTr] at hx
    rw [hx]
    refine .inr ⟨rfl, ⟨by decide, by simp only; omega⟩, by decide, ⟨by decide, hn.1⟩, .inr ⟨rfl, rfl, rfl⟩⟩
  · unfold apart
    simp [Tr.begun]
end
end Go.Proofs.Ytknejebggegfjaa

namespace Go.Proofs.Ytknejebggegfjaa
set_option linter.unusedSimpArgs false
set_option linter.unusedVariables false
open Go
def It.nc (x : It) : It := { x with code := 0 }
def backAt (nodes : Int) (w : Web) (s : List It × Bool) (i : Nat) : List It × Bool :=
  if isLive w (s.1.getD i noIt) then (s.1, true) else if isGone w (s.1.getD i noIt) then s else (addAll s.1 (tells nodes w (s.1.getD i noIt)), s.2)
def bk (nodes : Int) (w : Web) : Nat → List It × Bool
  | 0 => ([⟨false, 1, ⟨2, 7⟩, 0⟩], false)
  | i + 1 => if i < (bk nodes w i).1.length then backAt nodes w (bk nodes w i) i else bk nodes w i
def wanted (w : Web) (l : List It) : List Id := (l.filter fun x => x.inn && !isGone w x).map (·.id)
section
variable {nodes : Int} {w : Web} {t : Tr} {i m : Nat}
theorem bk_in (hn : 2 ≤ nodes ∧ nodes ≤ 4) : ∀ i, (∀ x ∈ (bk nodes w i).1, inU nodes x ∧ x.code = 0) ∧ apart (bk nodes w i).1
  | 0 => by
    refine ⟨fun x hx => ?_, by unfold apart; simp [bk]⟩
    simp [bk] at hx
    rw [hx]
    exact ⟨.inr ⟨rfl, ⟨by decide, by simp only; omega⟩, by decide, ⟨by decide, hn.1⟩, .inr ⟨rfl, rfl, rfl⟩⟩, rfl⟩
  | i + 1 => by
    obtain ⟨h1, h2⟩ := bk_in hn i
    unfold bk
    split
    · rename_i hlt
      unfold backAt
      split
      · exact ⟨h1, h2⟩
      · split
        · exact ⟨h1, h2⟩
        · have hx : inU nodes ((bk nodes w i).1.getD i noIt) := by
            refine (h1 _ ?_).1
            rw [List.getD_eq_getElem?_getD, List.getElem?_eq_getElem hlt]
            exact List.getElem_mem _
          have h3 := add_in (r := tells nodes w ((bk nodes w i).1.getD i noIt)) (fun x hx => (h1 x hx).1) h2 fun y hy => (tells_in hx hy).1
          refine ⟨fun y hy => ⟨h3.1 y hy, ?_⟩, h3.2⟩
          have : ∀ (r l : List It), (∀ x ∈ l, x.code = 0) → (∀ x ∈ r, x.code = 0) → ∀ y ∈ addAll l r, y.code = 0 := fun r => by
            induction r with
            | nil => intro l hl _ y hy; exact hl y hy
            | cons z r ih =>
              intro l hl hr y hy
              unfold addAll at hy
              refine ih _ (fun x hx => ?_) (fun x hx => hr x (by simp [hx])) y hy
              split at hx
              · exact hl x hx
              · rcases List.mem_append.1 hx with hx | hx
                · exact hl x hx
                · simp at hx; rw [hx]; exact hr z (by simp)
          exact this _ _ (fun x hx => (h1 x hx).2) (fun x h => (tells_in hx h).2) y hy
    · exact ⟨h1, h2⟩
theorem bk_grow : ∀ i, (bk nodes w i).1.length ≤ (bk nodes w (i + 1)).1.length ∧ ((bk nodes w i).2 = true → (bk nodes w (i + 1)).2 = true) := fun i => by
  show _ ≤ (if i < (bk nodes w i).1.length then backAt nodes w (bk nodes w i) i else bk nodes w i).1.length ∧ (_ → (if i < (bk nodes w i).1.length then backAt nodes w (bk nodes w i) i else bk nodes w i).2 = true)
  split
  · unfold backAt
    split
    · exact ⟨Nat.le_refl _, fun _ => rfl⟩
    · split
      · exact ⟨Nat.le_refl _, id⟩
      · obtain ⟨r', hr'⟩ := add_grow (r := tells nodes w ((bk nodes w i).1.getD i noIt)) (l := (bk nodes w i).1)
        refine ⟨?_, id⟩
        show _ ≤ (addAll _ _).length
        rw [hr', List.length_append]
        omega
  · exact ⟨Nat.le_refl _, id⟩
theorem bk_live {i j : Nat} (h : i ≤ j) (hl : (bk nodes w i).2 = true) : (bk nodes w j).2 = true := by
  induction h with
  | refl => exact hl
  | step _ ih => exact (bk_grow _).2 ih
theorem bk_stay {p j : Nat} (h : p ≤ j) (hp : (bk nodes w p).1.length ≤ p) : bk nodes w j = bk nodes w p := by
  induction h with
  | refl => rfl
  | @step j h ih =>
    show (if j < (bk nodes w j).1.length then backAt nodes w (bk nodes w j) j else bk nodes w j) = _
    have h' : p ≤ j := h
    rw [ih, if_neg (by omega)]
theorem bk_fin {p m : Nat} (hp : (bk nodes w p).1.length = p) (hm : (bk nodes w m).1.length = m) : bk nodes w p = bk nodes w m := by
  rcases Nat.le_total p m with h | h
  · exact (bk_stay h (by omega)).symm
  · exact bk_stay h (by omega)
theorem add_nc : ∀ {r l : List It}, (∀ x ∈ r, x.code = 0) → (addAll l r).map It.nc = addAll (l.map It.nc) r
  | [], l, h => rfl
  | y :: r, l, h => by
    unfold addAll
    have hy : y.nc = y := by
      have := h y (by simp)
      cases y
      simp only at this
      unfold It.nc
      rw [this]
    have e : (l.map It.nc).any (fun z => z.same y) = l.any (fun z => z.same y) := by
      rw [List.any_map]
      rfl
    rw [e, add_nc fun x hx => h x (by simp [hx])]
    split
    · rfl
    · rw [List.map_append, List.map_singleton, hy]
theorem nc_get {l : List It} {j : Nat} (hj : j < l.length) : (l.map It.nc).getD j noIt = (l.getD j noIt).nc := by
  rw [List.getD_eq_getElem?_getD, List.getElem?_map, List.getElem?_eq_getElem hj, List.getD_eq_getElem?_getD, List.getElem?_eq_getElem hj]
  rfl
theorem nc_set {l : List It} {j : Nat} {c : Int} : (l.set j { l.getD j noIt with code := c }).map It.nc = l.map It.nc := by
  rcases Nat.lt_or_ge j l.length with h | h
  · rw [List.map_set]
    have : (({ l.getD j noIt with code := c } : It)).nc = (l.map It.nc)[j]'(by simpa using h) := by
      rw [List.getElem_map, List.getD_eq_getElem?_getD, List.getElem?_eq_getElem h]
      rfl
    rw [this, List.set_getElem_self]
  · rw [List.set_eq_of_length_le h]
/-- What was coded. -/
def coded (w : Web) (sm : List (Int × Int)) (i : Nat) (l : List It) : Prop := ∀ j, j < i → j < l.length → (l.getD j noIt).code = (if isGone w (l.getD j noIt) then 0 else 2) ∧ ((l.getD j noIt).code = 2 → mlook sm (l.getD j noIt).node = some (10 + (l.getD j noIt).node))
/-- At the i-th question: what is found, and what was buried. -/
structure Fi (nodes : Int) (w : Web) (m : Nat) (i : Nat) (t : Tr) (bur : List Id) : Prop where
  wi : Wi nodes w i t
  one : t.st = 1 → t.items.map It.nc = (bk nodes w i).1 ∧ (bk nodes w i).2 = false ∧ t.found = 0 ∧ bur = [] ∧ coded w t.sm i t.items
  two : t.st = 2 → t.items.map It.nc = (bk nodes w m).1 ∧ (bk nodes w m).2 = false ∧ t.found = 0 ∧ bur = [] ∧ coded w t.sm t.items.length t.items
  three : t.st = 3 → t.items.map It.nc = (bk nodes w m).1 ∧ (bk nodes w m).2 = false ∧ t.found = 0 ∧ bur ++ t.todo.map (fun k => (t.items.getD k.toNat noIt).id) = wanted w (bk nodes w m).1 ∧ ∀ k ∈ t.todo, mlook t.sm (t.items.getD k.toNat noIt).node = some (10 + (t.items.getD k.toNat noIt).node)
  zero : t.st = 0 → (t.found = 1 ∧ (bk nodes w m).2 = false ∧ bur = wanted w (bk nodes w m).1) ∨ (t.found = 0 ∧ (bk nodes w m).2 = true ∧ bur = [])
theorem bury_ids : ∀ {l pre : List It}, (buryFrom pre.length l).map (fun k => ((pre ++ l).getD k.toNat noIt).id) = (l.filter fun x => x.inn && decide (x.code = 2)).map (·.id)
  | [], pre => rfl
  | x :: l, pre => by
    have ih := bury_ids (l := l) (pre := pre ++ [x])
    rw [List.append_assoc, List.singleton_append, List.length_append, List.length_singleton] at ih
    unfold buryFrom
    by_cases h : x.inn = true ∧ x.code = 2
    · rw [if_pos h, List.map_cons, ih, List.filter_cons_of_pos (by rw [h.1, h.2]; rfl), List.map_cons, Int.toNat_natCast]
      congr 1
      rw [List.getD_eq_getElem?_getD, List.getElem?_append_right (Nat.le_refl _), Nat.sub_self]
      rfl
    · rw [if_neg h, ih, List.filter_cons_of_neg (fun h' => h (by
        rw [Bool.and_eq_true, decide_eq_true_iff] at h'
        exact h'))]
theorem bury_code : ∀ {l : List It} {k : Nat} {j : Int}, j ∈ buryFrom k l → (l.getD (j.toNat - k) noIt).code = 2
  | [], k, j, h => by cases h
  | x :: l, k, j, h => by
    unfold buryFrom at h
    have rest : j ∈ buryFrom (k + 1) l → ((x :: l).getD (j.toNat - k) noIt).code = 2 := fun h => by
      have h1 := bury_code h
      have h2 := bury_mem h
      have : j.toNat - k = (j.toNat - (k + 1)) + 1 := by omega
      rw [this]
      exact h1
    split at h
    · rename_i hx
      rcases List.mem_cons.1 h with rfl | h
      · rw [Int.toNat_natCast, Nat.sub_self]
        exact hx.2
      · exact rest h
    · exact rest h
theorem wanted_of {l : List It} {sm : List (Int × Int)} (hc : coded w sm l.length l) : (buryFrom 0 l).map (fun k => (l.getD k.toNat noIt).id) = wanted w (l.map It.nc) := by
  have h := bury_ids (l := l) (pre := [])
  rw [List.length_nil, List.nil_append] at h
  rw [h]
  unfold wanted
  rw [List.filter_map, List.map_map]
  have e : l.filter (fun x => x.inn && decide (x.code = 2)) = l.filter ((fun x => x.inn && !isGone w x) ∘ It.nc) := by
    refine List.filter_congr fun x hx => ?_
    obtain ⟨j, hj, rfl⟩ := List.mem_iff_getElem.1 hx
    have := (hc j hj hj).1
    rw [List.getD_eq_getElem?_getD, List.getElem?_eq_getElem hj, Option.getD_some] at this
    show (l[j].inn && decide (l[j].code = 2)) = (l[j].inn && !isGone w l[j])
    rw [this]
    cases isGone w l[j] <;> simp
  rw [e]
  rfl
theorem Fi.start (hn : 2 ≤ nodes ∧ nodes ≤ 4) : Fi nodes w m 0 ((newTr 1 0).begun 2 7 0) [] :=
  ⟨Wi.start hn, fun _ => ⟨rfl, rfl, rfl, rfl, fun j hj => absurd hj (Nat.not_lt_zero _)⟩, fun h => absurd h (by show ¬ (1 : Int) = 2; decide), fun h => absurd h (by show ¬ (1 : Int) = 3; decide), fun h => absurd h (by show ¬ (1 : Int) = 0; decide)⟩
/-- Onward. -/
theorem Fi.onward (hm : (bk nodes w m).1.length = m) (hi : i < 100000) (hw : Wi nodes w (i + 1) t.onward) (h1 : t.st = 1) (hop : t.opn = i) (hil : i < t.items.length) (hf : t.found = 0) (hb1 : t.items.map It.nc = (bk nodes w (i + 1)).1) (hb2 : (bk nodes w (i + 1)).2 = false) (hc : coded w t.sm (i + 1) t.items) : Fi nodes w m (i + 1) t.onward [] := by
  have hno := next_opn hop hi
  have hlen : t.items.length = (bk nodes w (i + 1)).1.length := by rw [← hb1, List.length_map]
  unfold Tr.onward at hw ⊢
  by_cases hlt : t.next.opn < t.items.length
  · rw [if_pos hlt] at hw ⊢
    exact ⟨hw, fun _ => ⟨hb1, hb2, hf, rfl, hc⟩, fun h => absurd h (by show ¬ t.st = 2; omega), fun h => absurd h (by show ¬ t.st = 3; omega), fun h => absurd h (by show ¬ t.st = 0; omega)⟩
  rw [if_neg hlt] at hw ⊢
  have hl1 : t.items.length = i + 1 := by omega
  have hfin := bk_fin (p := i + 1) (by omega) hm
  rw [hfin] at hb1 hb2
  by_cases hz : t.sm.length = 0
  · rw [if_pos hz] at hw ⊢
    refine ⟨hw, fun h => absurd h (by show ¬ (0 : Int) = 1; decide), fun h => absurd h (by show ¬ (0 : Int) = 2; decide), fun h => absurd h (by show ¬ (0 : Int) = 3; decide), fun _ => .inl ⟨?_, hb2, ?_⟩⟩
    · show IntKind.i64.wrap (t.found + 1) = 1
      rw [hf]; rfl
    · rw [← hb1, ← wanted_of (by rw [hl1]; exact hc)]
      have : buryFrom 0 t.items = [] := by
        rcases List.eq_nil_or_concat (buryFrom 0 t.items) with h | ⟨L, j, h⟩
        · exact h
        · have hj : j ∈ buryFrom 0 t.items := by rw [h]; simp
          have h2 := bury_code hj
          have h3 := bury_mem hj
          rw [Nat.sub_zero] at h2
          have h4 := (hc j.toNat (by omega) (by omega)).2 h2
          rw [List.length_eq_zero_iff.1 hz] at h4
          cases h4
      rw [this]
      rfl
  rw [if_neg hz] at hw ⊢
  exact ⟨hw, fun h => absurd h (by show ¬ (2 : Int) = 1; decide), fun _ => ⟨hb1, hb2, hf, rfl, by show coded w t.sm t.items.length t.items; rw [hl1]; exact hc⟩, fun h => absurd h (by show ¬ (2 : Int) = 3; decide), fun h => absurd h (by show ¬ (2 : Int) = 0; decide)⟩
theorem coded_set {sm sm' : List (Int × Int)} {l : List It} {c : Int} (hc : coded w sm i l) (hi : i < l.length) (hcc : c = if isGone w (l.getD i noIt) then 0 else 2) (hk : ∀ n v, mlook sm n = some v → v = 10 + n → mlook sm' n = some v) (hs : c = 2 → mlook sm' (l.getD i noIt).node = some (10 + (l.getD i noIt).node)) : coded w sm' (i + 1) (l.set i { l.getD i noIt with code := c }) := fun j hj hjl => by
  rw [List.length_set] at hjl
  have gd : ∀ (l : List It) (k : Nat) (h : k < l.length), l.getD k noIt = l[k] := fun l k h => by rw [List.getD_eq_getElem?_getD, List.getElem?_eq_getElem h]; rfl
  rw [gd _ j (by rw [List.length_set]; exact hjl), List.getElem_set]
  by_cases e : i = j
  · subst e
    rw [if_pos rfl]
    exact ⟨hcc, hs⟩
  · rw [if_neg e, ← gd l j hjl]
    obtain ⟨a, b⟩ := hc j (by omega) hjl
    exact ⟨a, fun h => hk _ _ (b h) rfl⟩
theorem coded_more {sm : List (Int × Int)} {l r : List It} (hc : coded w sm (i + 1) l) (hi : i < l.length) : coded w sm (i + 1) (l ++ r) := fun j hj hjl => by
  have : (l ++ r).getD j noIt = l.getD j noIt := by
    rw [List.getD_eq_getElem?_getD, List.getElem?_append_left (by omega), List.getD_eq_getElem?_getD]
  rw [this]
  exact hc j hj (by omega)
/-- From question to question. -/
theorem Fi.step (hn : 2 ≤ nodes ∧ nodes ≤ 4) (hm : (bk nodes w m).1.length = m) {bur : List Id} (h : Fi nodes w m i t bur) (h0 : t.st ≠ 0) :
    Fi nodes w m (i + 1) (t.hear nodes (ansW w nodes t.q)) (if t.q.kind = 10 then bur ++ [t.q.tgt] else bur) ∧ (t.q.kind = 10 → t.q.stamp = 10 + t.q.to) := by
  have hw := h.wi
  have hlt := hw.lt hn.2 h0
  have hst := (hw.step hn h0).2
  have hs := hw.ok.st
  by_cases h1 : t.st = 1
  · obtain ⟨b1, b2, b3, b4, b5⟩ := h.one h1
    obtain ⟨hi, hmem⟩ := hw.mem h1
    have ho := hw.opn h0
    have hk : t.q.kind = 8 := by rw [hw.q1 h1]
    rw [hk, if_neg (by decide)]
    refine ⟨?_, fun h => absurd h (by decide)⟩
    rw [(hw.step1 hn h1).2] at hst ⊢
    have hbl : (bk nodes w i).1.length = t.items.length := by rw [← b1, List.length_map]
    have hbx : (bk nodes w i).1.getD i noIt = (t.items.getD i noIt).nc := by rw [← b1, nc_get hi]
    have hb' : bk nodes w (i + 1) = backAt nodes w (bk nodes w i) i := by
      show (if i < (bk nodes w i).1.length then backAt nodes w (bk nodes w i) i else bk nodes w i) = _
      rw [if_pos (by omega)]
    have hb2 : backAt nodes w (bk nodes w i) i = if isLive w (t.items.getD i noIt) then ((bk nodes w i).1, true) else if isGone w (t.items.getD i noIt) then bk nodes w i else (addAll (bk nodes w i).1 (tells nodes w (t.items.getD i noIt)), (bk nodes w i).2) := by
      unfold backAt
      rw [hbx]
      rfl
    rw [hb2] at hb'
    have ec : ∀ c, (t.code c).items = t.items.set i { t.items.getD i noIt with code := c } := fun c => by unfold Tr.code; rw [ho, Int.toNat_natCast]
    by_cases hl : isLive w (t.items.getD i noIt) = true
    · rw [if_pos hl] at hst ⊢
      rw [if_pos hl] at hb'
      have hlv : (bk nodes w m).2 = true := by
        rcases Nat.lt_or_ge i m with hc | hc
        · exact bk_live hc (by rw [hb'])
        · have := bk_stay (nodes := nodes) (w := w) hc (by omega)
          rw [this] at hbl
          omega
      exact ⟨hst, fun h => absurd h (by show ¬ (0 : Int) = 1; decide), fun h => absurd h (by show ¬ (0 : Int) = 2; decide), fun h => absurd h (by show ¬ (0 : Int) = 3; decide), fun _ => .inr ⟨b3, hlv, b4⟩⟩
    rw [if_neg hl] at hst ⊢
    rw [if_neg hl] at hb'
    rw [b4]
    by_cases hg : isGone w (t.items.getD i noIt) = true
    · rw [if_pos hg] at hst ⊢
      rw [if_pos hg] at hb'
      refine Fi.onward hm (by omega) hst h1 ho (by rw [ec, List.length_set]; exact hi) b3 (by rw [ec, nc_set, hb', b1]) (by rw [hb', b2]) ?_
      rw [ec]
      exact coded_set b5 hi (by rw [if_pos hg]) (fun n v h _ => h) (fun h => absurd h (by decide))
    · rw [if_neg hg] at hst ⊢
      rw [if_neg hg] at hb'
      have hx := hw.us _ hmem
      obtain ⟨r', hr'⟩ := add_grow (r := tells nodes w (t.items.getD i noIt)) (l := (t.code 2).items)
      refine Fi.onward hm (by omega) hst h1 ho ?_ b3 ?_ (by rw [hb', b2]) ?_
      · show i < (addAll _ _).length
        rw [hr', List.length_append, ec, List.length_set]
        omega
      · show (addAll _ _).map It.nc = _
        rw [add_nc fun y hy => (tells_in hx hy).2, ec, nc_set, b1, hb']
      · show coded w (mput t.sm _ _) (i + 1) (addAll _ _)
        rw [hr']
        refine coded_more ?_ (by rw [ec, List.length_set]; exact hi)
        rw [ec]
        refine coded_set b5 hi (by rw [if_neg hg]) (fun n v h hv => ?_) (fun _ => ?_)
        · rw [mlook_mput]
          split
          · rename_i e; rw [← e, ← hv]
          · exact h
        · rw [mlook_mput, if_pos rfl]
  by_cases h2 : t.st = 2
  · obtain ⟨b1, b2, b3, b4, b5⟩ := h.two h2
    have hk : t.q.kind = 8 := by rw [hw.q2 h2]
    rw [hk, if_neg (by decide)]
    refine ⟨?_, fun h => absurd h (by decide)⟩
    have e := (hw.step2 h2 (s := 10 + t.todo.getD 0 0) (l := [])).2
    rw [if_neg (fun h => h rfl), ← ans2 (w := w) (nodes := nodes), ← hw.q2 h2] at e
    rw [e] at hst ⊢
    by_cases hl : 1 < t.todo.length
    · rw [if_pos hl] at hst ⊢
      exact ⟨hst, fun h => absurd h (by show ¬ t.st = 1; omega), fun _ => ⟨b1, b2, b3, b4, b5⟩, fun h => absurd h (by show ¬ t.st = 3; omega), fun h => absurd h (by show ¬ t.st = 0; omega)⟩
    rw [if_neg hl] at hst ⊢
    by_cases hb : (buryFrom 0 t.items).length = 0
    · rw [if_pos hb] at hst ⊢
      refine ⟨hst, fun h => absurd h (by show ¬ (0 : Int) = 1; decide), fun h => absurd h (by show ¬ (0 : Int) = 2; decide), fun h => absurd h (by show ¬ (0 : Int) = 3; decide), fun _ => .inl ⟨?_, b2, ?_⟩⟩
      · show IntKind.i64.wrap (t.found + 1) = 1
        rw [b3]; rfl
      · rw [b4, ← b1, ← wanted_of b5, List.length_eq_zero_iff.1 hb]
        rfl
    rw [if_neg hb] at hst ⊢
    refine ⟨hst, fun h => absurd h (by show ¬ (3 : Int) = 1; decide), fun h => absurd h (by show ¬ (3 : Int) = 2; decide), fun _ => ⟨b1, b2, b3, ?_, fun k hk => ?_⟩, fun h => absurd h (by show ¬ (3 : Int) = 0; decide)⟩
    · rw [b4, List.nil_append, ← b1]
      exact wanted_of b5
    · have h2 := bury_code hk
      have h3 := bury_mem hk
      rw [Nat.sub_zero] at h2
      exact (b5 k.toNat (by omega) (by omega)).2 h2
  · have h3 : t.st = 3 := by omega
    obtain ⟨b1, b2, b3, b4, b5⟩ := h.three h3
    have hpos := List.length_pos_iff.2 (hw.ok.three h3).1
    have hmem : t.todo.getD 0 0 ∈ t.todo := by
      rw [List.getD_eq_getElem?_getD, List.getElem?_eq_getElem hpos]
      exact List.getElem_mem _
    have hq := hw.q3 h3
    have hk : t.q.kind = 10 := by rw [hq]
    have htg : t.q.tgt = (t.items.getD (t.todo.getD 0 0).toNat noIt).id := by rw [hq]
    rw [hk, if_pos rfl, htg]
    refine ⟨?_, fun _ => ?_⟩
    rotate_left
    · rw [hq, b5 _ hmem]
      rfl
    rw [(hw.step3 h3).2] at hst ⊢
    unfold Tr.buried at hst ⊢
    obtain ⟨y, r, hyr⟩ : ∃ y r, t.todo = y :: r := by
      cases htd : t.todo with
      | nil => rw [htd] at hpos; simp at hpos
      | cons y r => exact ⟨y, r, rfl⟩
    rw [hyr] at b4
    by_cases hl : t.todo.length ≤ 1
    · rw [if_pos hl] at hst ⊢
      refine ⟨hst, fun h => absurd h (by show ¬ (0 : Int) = 1; decide), fun h => absurd h (by show ¬ (0 : Int) = 2; decide), fun h => absurd h (by show ¬ (0 : Int) = 3; decide), fun _ => .inl ⟨?_, b2, ?_⟩⟩
      · show IntKind.i64.wrap (t.found + 1) = 1
        rw [b3]; rfl
      · have hr : r = [] := List.length_eq_zero_iff.1 (by rw [hyr, List.length_cons] at hl; omega)
        rw [hr] at b4
        rw [hyr]
        exact b4
    · rw [if_neg hl] at hst ⊢
      refine ⟨hst, fun h => absurd h (by show ¬ t.st = 1; omega), fun h => absurd h (by show ¬ t.st = 2; omega), fun _ => ⟨b1, b2, b3, ?_, fun k hk => b5 k (List.mem_of_mem_tail hk)⟩, fun h => absurd h (by show ¬ t.st = 0; omega)⟩
      rw [← b4]
      show bur ++ [(t.items.getD (t.todo.getD 0 0).toNat noIt).id] ++ t.todo.tail.map (fun k => (t.items.getD k.toNat noIt).id) = _
      rw [hyr, List.append_assoc]
      rfl
theorem wanted_nodup {l : List It} (hu : ∀ x ∈ l, inU nodes x) (ha : apart l) : (wanted w l).Nodup := by
  unfold wanted List.Nodup
  rw [List.pairwise_map]
  refine (List.Pairwise.filter _ ha).imp_of_mem fun {a b} hx hy hab e => ?_
  have ha' := List.mem_filter.1 hx
  have hb' := List.mem_filter.1 hy
  rw [Bool.and_eq_true] at ha' hb'
  have key : ∀ x : It, inU nodes x → x.inn = true → x.node = x.id.n := fun x h hi => by
    rcases h with ⟨_, h, _⟩ | ⟨h, _⟩
    · exact h
    · rw [hi] at h; cases h
  have : a.same b = true := it_same.2 ⟨by rw [ha'.2.1, hb'.2.1], by rw [key a (hu a ha'.1) ha'.2.1, key b (hu b hb'.1) hb'.2.1, e], e⟩
  rw [this] at hab
  cases hab
end
end Go.Proofs.Ytknejebggegfjaa

namespace Go.Proofs.Ytknejebggegfjaa
open Go
set_option linter.unusedVariables false
set_option maxRecDepth 100000
def B_law23_Web_ins (wInsP1 : Option Addr) (wInsL2 : Nat) (wInsC3 : Nat) (wOutsP4 : Option Addr) (wOutsL5 : Nat) (wOutsC6 : Nat) (wLiveP7 : Option Addr) (wLiveL8 : Nat) (wLiveC9 : Nat) (wGoneP10 : Option Addr) (wGoneL11 : Nat) (wGoneC12 : Nat) (node13 : Int) (xNode14 : Int) (xSerial15 : Int) (H : Hp) (K : Value → Hp → Prop) : Prop :=
 newB (.cells #[(.slice wInsP1 wInsL2 wInsC3), (.slice wOutsP4 wOutsL5 wOutsC6), (.slice wLiveP7 wLiveL8 wLiveC9), (.slice wGoneP10 wGoneL11 wGoneC12)] ty_law23_Web) H fun b16 Hx17 =>
 newB (.cells #[(.int .i64 xNode14), (.int .u64 xSerial15)] ty_api_ID) Hx17 fun b18 Hx19 =>
 ldSl ⟨b16, 0, none⟩ Hx19 fun InsP20 InsL21 InsC22 =>
 (bif (((InsL21 : Int) : Int) == 0) then
 K (.slice none 0 0) Hx19
else
 ldSl ⟨b16, 0, none⟩ Hx19 fun InsP23 InsL24 InsC25 =>
 ldI .u64 ⟨b18, 1, none⟩ Hx19 fun Serial26 =>
 ldSl ⟨b16, 0, none⟩ Hx19 fun InsP27 InsL28 InsC29 =>
 ((InsL28 : Int) : Int) ≠ 0 ∧
 idxA InsP23 InsL24 (Int.tmod (IntKind.i64.wrap ((IntKind.i64.wrap (7 * node13)) + (IntKind.i64.wrap Serial26))) (InsL28 : Int)) 1 fun el30 =>
 ldSl el30 Hx19 fun tP31 tL32 tC33 =>
 ∃ (I34 : Option Addr → Nat → Nat → Int → Hp → Prop) (m35 : Option Addr → Nat → Nat → Int → Hp → Nat), I34 none 0 0 1 Hx19 ∧ ∀ outP37 : Option Addr, ∀ outL38 : Nat, ∀ outC39 : Nat, ∀ s40 : Int, ∀ Hx36 : Hp, I34 outP37 outL38 outC39 s40 Hx36 →
 (bif (decide ((s40 : Int) ≤ 4)) then
 ∀ R41 : Option Addr → Nat → Nat → Hp → Prop, (∀ outP43 : Option Addr, ∀ outL44 : Nat, ∀ outC45 : Nat, ∀ Hx42 : Hp, (
 I34 outP43 outL44 outC45 (IntKind.u64.wrap (s40 + 1)) Hx42 ∧ m35 outP43 outL44 outC45 (IntKind.u64.wrap (s40 + 1)) Hx42 < m35 outP37 outL38 outC39 s40 Hx36) → R41 outP43 outL44 outC45 Hx42) →
 ∃ (I46 : Option Addr → Nat → Nat → Int → Hp → Prop) (m47 : Option Addr → Nat → Nat → Int → Hp → Nat), I46 outP37 outL38 outC39 0 Hx36 ∧ ∀ outP49 : Option Addr, ∀ outL50 : Nat, ∀ outC51 : Nat, ∀ i52 : Int, ∀ Hx48 : Hp, I46 outP49 outL50 outC51 i52 Hx48 →
 (bif (decide ((i52 : Int) < (tL32 : Int))) then
 (bif (decide ((i52 : Int) < 3)) then
 idxA tP31 tL32 i52 1 fun el53 =>
 ldI .u64 el53 Hx48 fun t54 =>
 (4 : Int) ≠ 0 ∧
 (bif (((IntKind.u64.wrap (1 + (Int.tmod t54 4))) : Int) == s40) then
 newB (.cells #[(.int .u64 s40)] ty_uint64) Hx48 fun b55 Hx56 =>
 evW PR (Builtin.append_ #[ty_Suint64, ty_Suint64] ty_Suint64 #[(.slice outP49 outL50 outC51), (.slice (some ⟨b55, 0, none⟩) 1 1)]) Hx56 fun v57 Hx58 =>
 asSl v57 fun tP59 tL60 tC61 =>
 R41 tP59 tL60 tC61 Hx58
else
 I46 outP49 outL50 outC51 (IntKind.i64.wrap (i52 + 1)) Hx48 ∧ m47 outP49 outL50 outC51 (IntKind.i64.wrap (i52 + 1)) Hx48 < m47 outP49 outL50 outC51 i52 Hx48)
else
 R41 outP49 outL50 outC51 Hx48)
else
 R41 outP49 outL50 outC51 Hx48)
else
 K (.slice outP37 outL38 outC39) Hx36))
theorem E_law23_Web_ins (wInsP1 : Option Addr) (wInsL2 : Nat) (wInsC3 : Nat) (wOutsP4 : Option Addr) (wOutsL5 : Nat) (wOutsC6 : Nat) (wLiveP7 : Option Addr) (wLiveL8 : Nat) (wLiveC9 : Nat) (wGoneP10 : Option Addr) (wGoneL11 : Nat) (wGoneC12 : Nat) (node13 : Int) (xNode14 : Int) (xSerial15 : Int) (H : Hp) (K : Value → Hp → Prop) : B_law23_Web_ins wInsP1 wInsL2 wInsC3 wOutsP4 wOutsL5 wOutsC6 wLiveP7 wLiveL8 wLiveC9 wGoneP10 wGoneL11 wGoneC12 node13 xNode14 xSerial15 H K = denF Try.prog Try.f62 (.seq none .n (.seq none .n (.seq none .n (.seq none .n (.seq none (.seq none .n (.sub (.loop ⟨[(7, .sl), (9, .int .u64)], [8]⟩ (.seq none .n (.seq (some ⟨[(7, .sl)], [8, 9]⟩) (.sub (.seq none .n (.sub (.loop ⟨[(7, .sl), (10, .int .i64)], [8, 9]⟩ .n)))) .n))))) .n))))) [(.agg #[(.slice wInsP1 wInsL2 wInsC3), (.slice wOutsP4 wOutsL5 wOutsC6), (.slice wLiveP7 wLiveL8 wLiveC9), (.slice wGoneP10 wGoneL11 wGoneC12)]), (.int .i64 node13), (.agg #[(.int .i64 xNode14), (.int .u64 xSerial15)])] H K := by kernel_rfl
theorem den_law23_Web_ins {wInsP1 : Option Addr} {wInsL2 : Nat} {wInsC3 : Nat} {wOutsP4 : Option Addr} {wOutsL5 : Nat} {wOutsC6 : Nat} {wLiveP7 : Option Addr} {wLiveL8 : Nat} {wLiveC9 : Nat} {wGoneP10 : Option Addr} {wGoneL11 : Nat} {wGoneC12 : Nat} {node13 : Int} {xNode14 : Int} {xSerial15 : Int} {H : Hp} {K : Value → Hp → Prop} (h : B_law23_Web_ins wInsP1 wInsL2 wInsC3 wOutsP4 wOutsL5 wOutsC6 wLiveP7 wLiveL8 wLiveC9 wGoneP10 wGoneL11 wGoneC12 node13 xNode14 xSerial15 H K) : hcall PR f_law23_Web_ins ⟨[(.agg #[(.slice wInsP1 wInsL2 wInsC3), (.slice wOutsP4 wOutsL5 wOutsC6), (.slice wLiveP7 wLiveL8 wLiveC9), (.slice wGoneP10 wGoneL11 wGoneC12)]), (.int .i64 node13), (.agg #[(.int .i64 xNode14), (.int .u64 xSerial15)])]⟩ H K := denF_call Try.func62 PR_mixed (Eq.mp (E_law23_Web_ins wInsP1 wInsL2 wInsC3 wOutsP4 wOutsL5 wOutsC6 wLiveP7 wLiveL8 wLiveC9 wGoneP10 wGoneL11 wGoneC12 node13 xNode14 xSerial15 H K) h)

end Go.Proofs.Ytknejebggegfjaa

namespace Go.Proofs.Ytknejebggegfjaa
open Go
set_option linter.unusedVariables false
set_option maxRecDepth 100000
def B_law23_Web_holders (wInsP1 : Option Addr) (wInsL2 : Nat) (wInsC3 : Nat) (wOutsP4 : Option Addr) (wOutsL5 : Nat) (wOutsC6 : Nat) (wLiveP7 : Option Addr) (wLiveL8 : Nat) (wLiveC9 : Nat) (wGoneP10 : Option Addr) (wGoneL11 : Nat) (wGoneC12 : Nat) (cNodes13 : Int) (cMutators14 : Int) (cSlots15 : Int) (cCells16 : Int) (cObjects17 : Int) (cStubs18 : Int) (cCalls19 : Int) (cWindow20 : Int) (cGrey21 : Int) (cBag22 : Int) (cInbox23 : Int) (cUnit24 : Int) (cDrift25 : Int) (cLease26 : Int) (cWait27 : Int) (cMost28 : Int) (cPatience29 : Int) (cSuspect30 : Int) (cTrace31 : Int) (cWork32 : Int) (cStart33 : Int) (cLast34 : Int) (xNode35 : Int) (xSerial36 : Int) (H : Hp) (K : Value → Hp → Prop) : Prop :=
 newB (.cells #[(.slice wInsP1 wInsL2 wInsC3), (.slice wOutsP4 wOutsL5 wOutsC6), (.slice wLiveP7 wLiveL8 wLiveC9), (.slice wGoneP10 wGoneL11 wGoneC12)] ty_law23_Web) H fun b37 Hx38 =>
 newB (.cells #[(.int .i64 cNodes13), (.int .i64 cMutators14), (.int .i64 cSlots15), (.int .i64 cCells16), (.int .i64 cObjects17), (.int .i64 cStubs18), (.int .i64 cCalls19), (.int .i64 cWindow20), (.int .i64 cGrey21), (.int .i64 cBag22), (.int .i64 cInbox23), (.int .u64 cUnit24), (.int .u64 cDrift25), (.int .u64 cLease26), (.int .u64 cWait27), (.int .u64 cMost28), (.int .u64 cPatience29), (.int .i64 cSuspect30), (.int .i64 cTrace31), (.int .i64 cWork32), (.int .u64 cStart33), (.int .u64 cLast34)] ty_api_Config) Hx38 fun b39 Hx40 =>
 newB (.cells #[(.int .i64 xNode35), (.int .u64 xSerial36)] ty_api_ID) Hx40 fun b41 Hx42 =>
 ldSl ⟨b37, 1, none⟩ Hx42 fun OutsP43 OutsL44 OutsC45 =>
 (bif (((OutsL44 : Int) : Int) == 0) then
 K (.slice none 0 0) Hx42
else
 ldSl ⟨b37, 1, none⟩ Hx42 fun OutsP46 OutsL47 OutsC48 =>
 ldI .i64 ⟨b41, 0, none⟩ Hx42 fun Node49 =>
 ldI .u64 ⟨b41, 1, none⟩ Hx42 fun Serial50 =>
 ldSl ⟨b37, 1, none⟩ Hx42 fun OutsP51 OutsL52 OutsC53 =>
 ((OutsL52 : Int) : Int) ≠ 0 ∧
 idxA OutsP46 OutsL47 (Int.tmod (IntKind.i64.wrap ((IntKind.i64.wrap (5 * Node49)) + (IntKind.i64.wrap Serial50))) (OutsL52 : Int)) 1 fun el54 =>
 ldSl el54 Hx42 fun tP55 tL56 tC57 =>
 ∃ (I58 : Option Addr → Nat → Nat → Int → Hp → Prop) (m59 : Option Addr → Nat → Nat → Int → Hp → Nat), I58 none 0 0 1 Hx42 ∧ ∀ outP61 : Option Addr, ∀ outL62 : Nat, ∀ outC63 : Nat, ∀ n64 : Int, ∀ Hx60 : Hp, I58 outP61 outL62 outC63 n64 Hx60 →
 ldI .i64 ⟨b39, 0, none⟩ Hx60 fun Nodes65 =>
 (bif (decide ((n64 : Int) ≤ Nodes65)) then
 ∀ R66 : Option Addr → Nat → Nat → Hp → Prop, (∀ outP68 : Option Addr, ∀ outL69 : Nat, ∀ outC70 : Nat, ∀ Hx67 : Hp, (
 I58 outP68 outL69 outC70 (IntKind.i64.wrap (n64 + 1)) Hx67 ∧ m59 outP68 outL69 outC70 (IntKind.i64.wrap (n64 + 1)) Hx67 < m59 outP61 outL62 outC63 n64 Hx60) → R66 outP68 outL69 outC70 Hx67) →
 ∃ (I71 : Option Addr → Nat → Nat → Int → Hp → Prop) (m72 : Option Addr → Nat → Nat → Int → Hp → Nat), I71 outP61 outL62 outC63 0 Hx60 ∧ ∀ outP74 : Option Addr, ∀ outL75 : Nat, ∀ outC76 : Nat, ∀ i77 : Int, ∀ Hx73 : Hp, I71 outP74 outL75 outC76 i77 Hx73 →
 (bif (decide ((i77 : Int) < (tL56 : Int))) then
 (bif (decide ((i77 : Int) < 3)) then
 ∀ R78 : Option Addr → Nat → Nat → Hp → Prop, (∀ outP80 : Option Addr, ∀ outL81 : Nat, ∀ outC82 : Nat, ∀ Hx79 : Hp, (
 I71 outP80 outL81 outC82 (IntKind.i64.wrap (i77 + 1)) Hx79 ∧ m72 outP80 outL81 outC82 (IntKind.i64.wrap (i77 + 1)) Hx79 < m72 outP74 outL75 outC76 i77 Hx73) → R78 outP80 outL81 outC82 Hx79) →
 idxA tP55 tL56 i77 1 fun el83 =>
 ldI .u64 el83 Hx73 fun t84 =>
 ldI .i64 ⟨b39, 0, none⟩ Hx73 fun Nodes85 =>
 ((IntKind.u64.wrap Nodes85) : Int) ≠ 0 ∧
 (bif (((IntKind.i64.wrap (1 + (IntKind.i64.wrap (Int.tmod t84 (IntKind.u64.wrap Nodes85))))) : Int) == n64) then
 ldI .i64 ⟨b41, 0, none⟩ Hx73 fun Node86 =>
 (bif ((n64 : Int) != Node86) then
 newB (.cells #[(.int .u64 (IntKind.u64.wrap n64))] ty_uint64) Hx73 fun b87 Hx88 =>
 evW PR (Builtin.append_ #[ty_Suint64, ty_Suint64] ty_Suint64 #[(.slice outP74 outL75 outC76), (.slice (some ⟨b87, 0, none⟩) 1 1)]) Hx88 fun v89 Hx90 =>
 asSl v89 fun tP91 tL92 tC93 =>
 R66 tP91 tL92 tC93 Hx90
else
 R78 outP74 outL75 outC76 Hx73)
else
 R78 outP74 outL75 outC76 Hx73)
else
 R66 outP74 outL75 outC76 Hx73)
else
 R66 outP74 outL75 outC76 Hx73)
else
 K (.slice outP61 outL62 outC63) Hx60))
theorem E_law23_Web_holders (wInsP1 : Option Addr) (wInsL2 : Nat) (wInsC3 : Nat) (wOutsP4 : Option Addr) (wOutsL5 : Nat) (wOutsC6 : Nat) (wLiveP7 : Option Addr) (wLiveL8 : Nat) (wLiveC9 : Nat) (wGoneP10 : Option Addr) (wGoneL11 : Nat) (wGoneC12 : Nat) (cNodes13 : Int) (cMutators14 : Int) (cSlots15 : Int) (cCells16 : Int) (cObjects17 : Int) (cStubs18 : Int) (cCalls19 : Int) (cWindow20 : Int) (cGrey21 : Int) (cBag22 : Int) (cInbox23 : Int) (cUnit24 : Int) (cDrift25 : Int) (cLease26 : Int) (cWait27 : Int) (cMost28 : Int) (cPatience29 : Int) (cSuspect30 : Int) (cTrace31 : Int) (cWork32 : Int) (cStart33 : Int) (cLast34 : Int) (xNode35 : Int) (xSerial36 : Int) (H : Hp) (K : Value → Hp → Prop) : B_law23_Web_holders wInsP1 wInsL2 wInsC3 wOutsP4 wOutsL5 wOutsC6 wLiveP7 wLiveL8 wLiveC9 wGoneP10 wGoneL11 wGoneC12 cNodes13 cMutators14 cSlots15 cCells16 cObjects17 cStubs18 cCalls19 cWindow20 cGrey21 cBag22 cInbox23 cUnit24 cDrift25 cLease26 cWait27 cMost28 cPatience29 cSuspect30 cTrace31 cWork32 cStart33 cLast34 xNode35 xSerial36 H K = denF Try.prog Try.f61 (.seq none .n (.seq none .n (.seq none .n (.seq none .n (.seq none (.seq none .n (.sub (.loop ⟨[(7, .sl), (9, .int .i64)], [4, 5, 8]⟩ (.seq none .n (.seq (some ⟨[(7, .sl)], [4, 5, 8, 9]⟩) (.sub (.seq none .n (.sub (.loop ⟨[(7, .sl), (10, .int .i64)], [4, 5, 8, 9]⟩ (.seq none .n (.seq (some ⟨[(7, .sl)], [4, 5, 8, 9, 10]⟩) .n .n)))))) .n))))) .n))))) [(.agg #[(.slice wInsP1 wInsL2 wInsC3), (.slice wOutsP4 wOutsL5 wOutsC6), (.slice wLiveP7 wLiveL8 wLiveC9), (.slice wGoneP10 wGoneL11 wGoneC12)]), (.agg #[(.int .i64 cNodes13), (.int .i64 cMutators14), (.int .i64 cSlots15), (.int .i64 cCells16), (.int .i64 cObjects17), (.int .i64 cStubs18), (.int .i64 cCalls19), (.int .i64 cWindow20), (.int .i64 cGrey21), (.int .i64 cBag22), (.int .i64 cInbox23), (.int .u64 cUnit24), (.int .u64 cDrift25), (.int .u64 cLease26), (.int .u64 cWait27), (.int .u64 cMost28), (.int .u64 cPatience29), (.int .i64 cSuspect30), (.int .i64 cTrace31), (.int .i64 cWork32), (.int .u64 cStart33), (.int .u64 cLast34)]), (.agg #[(.int .i64 xNode35), (.int .u64 xSerial36)])] H K := by kernel_rfl
theorem den_law23_Web_holders {wInsP1 : Option Addr} {wInsL2 : Nat} {wInsC3 : Nat} {wOutsP4 : Option Addr} {wOutsL5 : Nat} {wOutsC6 : Nat} {wLiveP7 : Option Addr} {wLiveL8 : Nat} {wLiveC9 : Nat} {wGoneP10 : Option Addr} {wGoneL11 : Nat} {wGoneC12 : Nat} {cNodes13 : Int} {cMutators14 : Int} {cSlots15 : Int} {cCells16 : Int} {cObjects17 : Int} {cStubs18 : Int} {cCalls19 : Int} {cWindow20 : Int} {cGrey21 : Int} {cBag22 : Int} {cInbox23 : Int} {cUnit24 : Int} {cDrift25 : Int} {cLease26 : Int} {cWait27 : Int} {cMost28 : Int} {cPatience29 : Int} {cSuspect30 : Int} {cTrace31 : Int} {cWork32 : Int} {cStart33 : Int} {cLast34 : Int} {xNode35 : Int} {xSerial36 : Int} {H : Hp} {K : Value → Hp → Prop} (h : B_law23_Web_holders wInsP1 wInsL2 wInsC3 wOutsP4 wOutsL5 wOutsC6 wLiveP7 wLiveL8 wLiveC9 wGoneP10 wGoneL11 wGoneC12 cNodes13 cMutators14 cSlots15 cCells16 cObjects17 cStubs18 cCalls19 cWindow20 cGrey21 cBag22 cInbox23 cUnit24 cDrift25 cLease26 cWait27 cMost28 cPatience29 cSuspect30 cTrace31 cWork32 cStart33 cLast34 xNode35 xSerial36 H K) : hcall PR f_law23_Web_holders ⟨[(.agg #[(.slice wInsP1 wInsL2 wInsC3), (.slice wOutsP4 wOutsL5 wOutsC6), (.slice wLiveP7 wLiveL8 wLiveC9), (.slice wGoneP10 wGoneL11 wGoneC12)]), (.agg #[(.int .i64 cNodes13), (.int .i64 cMutators14), (.int .i64 cSlots15), (.int .i64 cCells16), (.int .i64 cObjects17), (.int .i64 cStubs18), (.int .i64 cCalls19), (.int .i64 cWindow20), (.int .i64 cGrey21), (.int .i64 cBag22), (.int .i64 cInbox23), (.int .u64 cUnit24), (.int .u64 cDrift25), (.int .u64 cLease26), (.int .u64 cWait27), (.int .u64 cMost28), (.int .u64 cPatience29), (.int .i64 cSuspect30), (.int .i64 cTrace31), (.int .i64 cWork32), (.int .u64 cStart33), (.int .u64 cLast34)]), (.agg #[(.int .i64 xNode35), (.int .u64 xSerial36)])]⟩ H K := denF_call Try.func61 PR_mixed (Eq.mp (E_law23_Web_holders wInsP1 wInsL2 wInsC3 wOutsP4 wOutsL5 wOutsC6 wLiveP7 wLiveL8 wLiveC9 wGoneP10 wGoneL11 wGoneC12 cNodes13 cMutators14 cSlots15 cCells16 cObjects17 cStubs18 cCalls19 cWindow20 cGrey21 cBag22 cInbox23 cUnit24 cDrift25 cLease26 cWait27 cMost28 cPatience29 cSuspect30 cTrace31 cWork32 cStart33 cLast34 xNode35 xSerial36 H K) h)

end Go.Proofs.Ytknejebggegfjaa

namespace Go.Proofs.Ytknejebggegfjaa
open Go
set_option linter.unusedVariables false
set_option maxRecDepth 100000
def B_law23_Web_answer (wInsP1 : Option Addr) (wInsL2 : Nat) (wInsC3 : Nat) (wOutsP4 : Option Addr) (wOutsL5 : Nat) (wOutsC6 : Nat) (wLiveP7 : Option Addr) (wLiveL8 : Nat) (wLiveC9 : Nat) (wGoneP10 : Option Addr) (wGoneL11 : Nat) (wGoneC12 : Nat) (cNodes13 : Int) (cMutators14 : Int) (cSlots15 : Int) (cCells16 : Int) (cObjects17 : Int) (cStubs18 : Int) (cCalls19 : Int) (cWindow20 : Int) (cGrey21 : Int) (cBag22 : Int) (cInbox23 : Int) (cUnit24 : Int) (cDrift25 : Int) (cLease26 : Int) (cWait27 : Int) (cMost28 : Int) (cPatience29 : Int) (cSuspect30 : Int) (cTrace31 : Int) (cWork32 : Int) (cStart33 : Int) (cLast34 : Int) (qKind35 : Int) (qFrom36 : Int) (qTo37 : Int) (qCall38 : Int) (qFloor39 : Int) (qOp40 : Int) (qField41 : Int) (qItem42 : Int) (qNode43 : Int) (qSerial44 : Int) (qRefsP45 : Option Addr) (qRefsL46 : Nat) (qRefsC47 : Nat) (qValue48 : Int) (qCode49 : Int) (qSeq50 : Int) (qVoucher51 : Int) (qAt52 : Int) (qDist53 : Int) (qStamp54 : Int) (qListP55 : Option Addr) (qListL56 : Nat) (qListC57 : Nat) (H : Hp) (K : Value → Hp → Prop) : Prop :=
 newB (.cells #[(.slice wInsP1 wInsL2 wInsC3), (.slice wOutsP4 wOutsL5 wOutsC6), (.slice wLiveP7 wLiveL8 wLiveC9), (.slice wGoneP10 wGoneL11 wGoneC12)] ty_law23_Web) H fun b58 Hx59 =>
 newB (.cells #[(.int .i64 cNodes13), (.int .i64 cMutators14), (.int .i64 cSlots15), (.int .i64 cCells16), (.int .i64 cObjects17), (.int .i64 cStubs18), (.int .i64 cCalls19), (.int .i64 cWindow20), (.int .i64 cGrey21), (.int .i64 cBag22), (.int .i64 cInbox23), (.int .u64 cUnit24), (.int .u64 cDrift25), (.int .u64 cLease26), (.int .u64 cWait27), (.int .u64 cMost28), (.int .u64 cPatience29), (.int .i64 cSuspect30), (.int .i64 cTrace31), (.int .i64 cWork32), (.int .u64 cStart33), (.int .u64 cLast34)] ty_api_Config) Hx59 fun b60 Hx61 =>
 newB (.cells #[(.int .i64 qKind35), (.int .i64 qFrom36), (.int .i64 qTo37), (.int .u64 qCall38), (.int .u64 qFloor39), (.int .i64 qOp40), (.int .i64 qField41), (.int .i64 qItem42), (.int .i64 qNode43), (.int .u64 qSerial44), (.slice qRefsP45 qRefsL46 qRefsC47), (.int .u64 qValue48), (.int .i64 qCode49), (.int .u64 qSeq50), (.int .i64 qVoucher51), (.int .u64 qAt52), (.int .i64 qDist53), (.int .u64 qStamp54), (.slice qListP55 qListL56 qListC57)] ty_api_Msg) Hx61 fun b62 Hx63 =>
 newB (.cells #[(.int .i64 0), (.int .i64 0), (.int .i64 0), (.int .u64 0), (.int .u64 0), (.int .i64 0), (.int .i64 0), (.int .i64 0), (.int .i64 0), (.int .u64 0), (.slice none 0 0), (.int .u64 0), (.int .i64 0), (.int .u64 0), (.int .i64 0), (.int .u64 0), (.int .i64 0), (.int .u64 0), (.slice none 0 0)] ty_api_Msg) Hx63 fun b64 Hx65 =>
 ldI .i64 ⟨b62, 2, none⟩ Hx65 fun To66 =>
 ldI .i64 ⟨b62, 1, none⟩ Hx65 fun From67 =>
 ldI .u64 ⟨b62, 3, none⟩ Hx65 fun Call68 =>
 ldI .i64 ⟨b62, 7, none⟩ Hx65 fun Item69 =>
 ldI .i64 ⟨b62, 2, none⟩ Hx65 fun To70 =>
 newB (.cells #[(.int .i64 0), (.int .i64 0), (.int .i64 0), (.int .u64 0), (.int .u64 0), (.int .i64 0), (.int .i64 0), (.int .i64 0), (.int .i64 0), (.int .u64 0), (.slice none 0 0), (.int .u64 0), (.int .i64 0), (.int .u64 0), (.int .i64 0), (.int .u64 0), (.int .i64 0), (.int .u64 0), (.slice none 0 0)] ty_api_Msg) Hx65 fun b71 Hx72 =>
 st ⟨b71, 0, none⟩ (.int .i64 9) Hx72 fun Hx73 =>
 st ⟨b71, 1, none⟩ (.int .i64 To66) Hx73 fun Hx74 =>
 st ⟨b71, 2, none⟩ (.int .i64 From67) Hx74 fun Hx75 =>
 st ⟨b71, 3, none⟩ (.int .u64 Call68) Hx75 fun Hx76 =>
 st ⟨b71, 4, none⟩ (.int .u64 0) Hx76 fun Hx77 =>
 st ⟨b71, 5, none⟩ (.int .i64 0) Hx77 fun Hx78 =>
 st ⟨b71, 6, none⟩ (.int .i64 0) Hx78 fun Hx79 =>
 st ⟨b71, 7, none⟩ (.int .i64 Item69) Hx79 fun Hx80 =>
 st ⟨b71, 8, none⟩ (.int .i64 0) Hx80 fun Hx81 =>
 st ⟨b71, 9, none⟩ (.int .u64 0) Hx81 fun Hx82 =>
 st ⟨b71, 10, none⟩ (.slice none 0 0) Hx82 fun Hx83 =>
 st ⟨b71, 11, none⟩ (.int .u64 0) Hx83 fun Hx84 =>
 st ⟨b71, 12, none⟩ (.int .i64 2) Hx84 fun Hx85 =>
 st ⟨b71, 13, none⟩ (.int .u64 0) Hx85 fun Hx86 =>
 st ⟨b71, 14, none⟩ (.int .i64 0) Hx86 fun Hx87 =>
 st ⟨b71, 15, none⟩ (.int .u64 0) Hx87 fun Hx88 =>
 st ⟨b71, 16, none⟩ (.int .i64 0) Hx88 fun Hx89 =>
 st ⟨b71, 17, none⟩ (.int .u64 (IntKind.u64.wrap (IntKind.i64.wrap (10 + To70)))) Hx89 fun Hx90 =>
 st ⟨b71, 18, none⟩ (.slice none 0 0) Hx90 fun Hx91 =>
 ldI .i64 ⟨b62, 5, none⟩ Hx91 fun Op92 =>
 ∀ R93 : Hp → Prop, (∀ Hx94 : Hp, (
 ldI .i64 ⟨b71, 0, none⟩ Hx94 fun Kind95 =>
 ldI .i64 ⟨b71, 1, none⟩ Hx94 fun From96 =>
 ldI .i64 ⟨b71, 2, none⟩ Hx94 fun To97 =>
 ldI .u64 ⟨b71, 3, none⟩ Hx94 fun Call98 =>
 ldI .u64 ⟨b71, 4, none⟩ Hx94 fun Floor99 =>
 ldI .i64 ⟨b71, 5, none⟩ Hx94 fun Op100 =>
 ldI .i64 ⟨b71, 6, none⟩ Hx94 fun Field101 =>
 ldI .i64 ⟨b71, 7, none⟩ Hx94 fun Item102 =>
 ldI .i64 ⟨b71, 8, none⟩ Hx94 fun Node103 =>
 ldI .u64 ⟨b71, 9, none⟩ Hx94 fun Serial104 =>
 ldSl ⟨b71, 10, none⟩ Hx94 fun RefsP105 RefsL106 RefsC107 =>
 ldI .u64 ⟨b71, 11, none⟩ Hx94 fun Value108 =>
 ldI .i64 ⟨b71, 12, none⟩ Hx94 fun Code109 =>
 ldI .u64 ⟨b71, 13, none⟩ Hx94 fun Seq110 =>
 ldI .i64 ⟨b71, 14, none⟩ Hx94 fun Voucher111 =>
 ldI .u64 ⟨b71, 15, none⟩ Hx94 fun At112 =>
 ldI .i64 ⟨b71, 16, none⟩ Hx94 fun Dist113 =>
 ldI .u64 ⟨b71, 17, none⟩ Hx94 fun Stamp114 =>
 ldSl ⟨b71, 18, none⟩ Hx94 fun ListP115 ListL116 ListC117 =>
 st ⟨b64, 0, none⟩ (.int .i64 Kind95) Hx94 fun Hx118 =>
 st ⟨b64, 1, none⟩ (.int .i64 From96) Hx118 fun Hx119 =>
 st ⟨b64, 2, none⟩ (.int .i64 To97) Hx119 fun Hx120 =>
 st ⟨b64, 3, none⟩ (.int .u64 Call98) Hx120 fun Hx121 =>
 st ⟨b64, 4, none⟩ (.int .u64 Floor99) Hx121 fun Hx122 =>
 st ⟨b64, 5, none⟩ (.int .i64 Op100) Hx122 fun Hx123 =>
 st ⟨b64, 6, none⟩ (.int .i64 Field101) Hx123 fun Hx124 =>
 st ⟨b64, 7, none⟩ (.int .i64 Item102) Hx124 fun Hx125 =>
 st ⟨b64, 8, none⟩ (.int .i64 Node103) Hx125 fun Hx126 =>
 st ⟨b64, 9, none⟩ (.int .u64 Serial104) Hx126 fun Hx127 =>
 st ⟨b64, 10, none⟩ (.slice RefsP105 RefsL106 RefsC107) Hx127 fun Hx128 =>
 st ⟨b64, 11, none⟩ (.int .u64 Value108) Hx128 fun Hx129 =>
 st ⟨b64, 12, none⟩ (.int .i64 Code109) Hx129 fun Hx130 =>
 st ⟨b64, 13, none⟩ (.int .u64 Seq110) Hx130 fun Hx131 =>
 st ⟨b64, 14, none⟩ (.int .i64 Voucher111) Hx131 fun Hx132 =>
 st ⟨b64, 15, none⟩ (.int .u64 At112) Hx132 fun Hx133 =>
 st ⟨b64, 16, none⟩ (.int .i64 Dist113) Hx133 fun Hx134 =>
 st ⟨b64, 17, none⟩ (.int .u64 Stamp114) Hx134 fun Hx135 =>
 st ⟨b64, 18, none⟩ (.slice ListP115 ListL116 ListC117) Hx135 fun Hx136 =>
 ldI .i64 ⟨b64, 0, none⟩ Hx136 fun Kind137 =>
 ldI .i64 ⟨b64, 1, none⟩ Hx136 fun From138 =>
 ldI .i64 ⟨b64, 2, none⟩ Hx136 fun To139 =>
 ldI .u64 ⟨b64, 3, none⟩ Hx136 fun Call140 =>
 ldI .u64 ⟨b64, 4, none⟩ Hx136 fun Floor141 =>
 ldI .i64 ⟨b64, 5, none⟩ Hx136 fun Op142 =>
 ldI .i64 ⟨b64, 6, none⟩ Hx136 fun Field143 =>
 ldI .i64 ⟨b64, 7, none⟩ Hx136 fun Item144 =>
 ldI .i64 ⟨b64, 8, none⟩ Hx136 fun Node145 =>
 ldI .u64 ⟨b64, 9, none⟩ Hx136 fun Serial146 =>
 ldSl ⟨b64, 10, none⟩ Hx136 fun RefsP147 RefsL148 RefsC149 =>
 ldI .u64 ⟨b64, 11, none⟩ Hx136 fun Value150 =>
 ldI .i64 ⟨b64, 12, none⟩ Hx136 fun Code151 =>
 ldI .u64 ⟨b64, 13, none⟩ Hx136 fun Seq152 =>
 ldI .i64 ⟨b64, 14, none⟩ Hx136 fun Voucher153 =>
 ldI .u64 ⟨b64, 15, none⟩ Hx136 fun At154 =>
 ldI .i64 ⟨b64, 16, none⟩ Hx136 fun Dist155 =>
 ldI .u64 ⟨b64, 17, none⟩ Hx136 fun Stamp156 =>
 ldSl ⟨b64, 18, none⟩ Hx136 fun ListP157 ListL158 ListC159 =>
 K (.agg #[(.int .i64 Kind137), (.int .i64 From138), (.int .i64 To139), (.int .u64 Call140), (.int .u64 Floor141), (.int .i64 Op142), (.int .i64 Field143), (.int .i64 Item144), (.int .i64 Node145), (.int .u64 Serial146), (.slice RefsP147 RefsL148 RefsC149), (.int .u64 Value150), (.int .i64 Code151), (.int .u64 Seq152), (.int .i64 Voucher153), (.int .u64 At154), (.int .i64 Dist155), (.int .u64 Stamp156), (.slice ListP157 ListL158 ListC159)]) Hx136) → R93 Hx94) →
 ldI .i64 ⟨b62, 0, none⟩ Hx91 fun Kind160 =>
 (bif ((Kind160 : Int) == 10) then
 ldI .i64 ⟨b62, 2, none⟩ Hx91 fun To161 =>
 ldI .i64 ⟨b62, 1, none⟩ Hx91 fun From162 =>
 ldI .u64 ⟨b62, 3, none⟩ Hx91 fun Call163 =>
 ldI .i64 ⟨b62, 7, none⟩ Hx91 fun Item164 =>
 st ⟨b71, 0, none⟩ (.int .i64 11) Hx91 fun Hx165 =>
 st ⟨b71, 1, none⟩ (.int .i64 To161) Hx165 fun Hx166 =>
 st ⟨b71, 2, none⟩ (.int .i64 From162) Hx166 fun Hx167 =>
 st ⟨b71, 3, none⟩ (.int .u64 Call163) Hx167 fun Hx168 =>
 st ⟨b71, 4, none⟩ (.int .u64 0) Hx168 fun Hx169 =>
 st ⟨b71, 5, none⟩ (.int .i64 0) Hx169 fun Hx170 =>
 st ⟨b71, 6, none⟩ (.int .i64 0) Hx170 fun Hx171 =>
 st ⟨b71, 7, none⟩ (.int .i64 Item164) Hx171 fun Hx172 =>
 st ⟨b71, 8, none⟩ (.int .i64 0) Hx172 fun Hx173 =>
 st ⟨b71, 9, none⟩ (.int .u64 0) Hx173 fun Hx174 =>
 st ⟨b71, 10, none⟩ (.slice none 0 0) Hx174 fun Hx175 =>
 st ⟨b71, 11, none⟩ (.int .u64 0) Hx175 fun Hx176 =>
 st ⟨b71, 12, none⟩ (.int .i64 0) Hx176 fun Hx177 =>
 st ⟨b71, 13, none⟩ (.int .u64 0) Hx177 fun Hx178 =>
 st ⟨b71, 14, none⟩ (.int .i64 0) Hx178 fun Hx179 =>
 st ⟨b71, 15, none⟩ (.int .u64 0) Hx179 fun Hx180 =>
 st ⟨b71, 16, none⟩ (.int .i64 0) Hx180 fun Hx181 =>
 st ⟨b71, 17, none⟩ (.int .u64 0) Hx181 fun Hx182 =>
 st ⟨b71, 18, none⟩ (.slice none 0 0) Hx182 fun Hx183 =>
 R93 Hx183
else
 ldI .i64 ⟨b62, 5, none⟩ Hx91 fun Op184 =>
 (bif ((Op184 : Int) == 3) then
 R93 Hx91
else
 ldSl ⟨b58, 2, none⟩ Hx91 fun LiveP185 LiveL186 LiveC187 =>
 ldI .i64 ⟨b62, 2, none⟩ Hx91 fun To188 =>
 ldI .i64 ⟨b62, 8, none⟩ Hx91 fun Node189 =>
 ldI .u64 ⟨b62, 9, none⟩ Hx91 fun Serial190 =>
 hcall PR f_law23_number ⟨[(.bool ((Op92 : Int) == 1)), (.int .i64 To188), (.agg #[(.int .i64 Node189), (.int .u64 Serial190)])]⟩ Hx91 fun v191 Hx192 =>
 asI .i64 v191 fun t193 =>
 (ldSl ⟨b58, 2, none⟩ Hx192 fun LiveP194 LiveL195 LiveC196 =>
 ((.slice LiveP194 LiveL195 LiveC196) : Value) = (.slice LiveP185 LiveL186 LiveC187)) ∧
 hcall PR f_law23_among ⟨[(.slice LiveP185 LiveL186 LiveC187), (.int .i64 t193)]⟩ Hx192 fun v197 Hx198 =>
 asB v197 fun t199 =>
 (bif t199 then
 st ⟨b71, 12, none⟩ (.int .i64 1) Hx198 fun Hx200 =>
 R93 Hx200
else
 ldSl ⟨b58, 3, none⟩ Hx198 fun GoneP201 GoneL202 GoneC203 =>
 ldI .i64 ⟨b62, 2, none⟩ Hx198 fun To204 =>
 ldI .i64 ⟨b62, 8, none⟩ Hx198 fun Node205 =>
 ldI .u64 ⟨b62, 9, none⟩ Hx198 fun Serial206 =>
 hcall PR f_law23_number ⟨[(.bool ((Op92 : Int) == 1)), (.int .i64 To204), (.agg #[(.int .i64 Node205), (.int .u64 Serial206)])]⟩ Hx198 fun v207 Hx208 =>
 asI .i64 v207 fun t209 =>
 (ldSl ⟨b58, 3, none⟩ Hx208 fun GoneP210 GoneL211 GoneC212 =>
 ((.slice GoneP210 GoneL211 GoneC212) : Value) = (.slice GoneP201 GoneL202 GoneC203)) ∧
 hcall PR f_law23_among ⟨[(.slice GoneP201 GoneL202 GoneC203), (.int .i64 t209)]⟩ Hx208 fun v213 Hx214 =>
 asB v213 fun t215 =>
 (bif t215 then
 st ⟨b71, 12, none⟩ (.int .i64 0) Hx214 fun Hx216 =>
 R93 Hx216
else
 (bif ((Op92 : Int) == 1) then
 ldSl ⟨b58, 0, none⟩ Hx214 fun InsP217 InsL218 InsC219 =>
 ldSl ⟨b58, 1, none⟩ Hx214 fun OutsP220 OutsL221 OutsC222 =>
 ldSl ⟨b58, 2, none⟩ Hx214 fun LiveP223 LiveL224 LiveC225 =>
 ldSl ⟨b58, 3, none⟩ Hx214 fun GoneP226 GoneL227 GoneC228 =>
 ldI .i64 ⟨b60, 0, none⟩ Hx214 fun Nodes229 =>
 ldI .i64 ⟨b60, 1, none⟩ Hx214 fun Mutators230 =>
 ldI .i64 ⟨b60, 2, none⟩ Hx214 fun Slots231 =>
 ldI .i64 ⟨b60, 3, none⟩ Hx214 fun Cells232 =>
 ldI .i64 ⟨b60, 4, none⟩ Hx214 fun Objects233 =>
 ldI .i64 ⟨b60, 5, none⟩ Hx214 fun Stubs234 =>
 ldI .i64 ⟨b60, 6, none⟩ Hx214 fun Calls235 =>
 ldI .i64 ⟨b60, 7, none⟩ Hx214 fun Window236 =>
 ldI .i64 ⟨b60, 8, none⟩ Hx214 fun Grey237 =>
 ldI .i64 ⟨b60, 9, none⟩ Hx214 fun Bag238 =>
 ldI .i64 ⟨b60, 10, none⟩ Hx214 fun Inbox239 =>
 ldI .u64 ⟨b60, 11, none⟩ Hx214 fun Unit240 =>
 ldI .u64 ⟨b60, 12, none⟩ Hx214 fun Drift241 =>
 ldI .u64 ⟨b60, 13, none⟩ Hx214 fun Lease242 =>
 ldI .u64 ⟨b60, 14, none⟩ Hx214 fun Wait243 =>
 ldI .u64 ⟨b60, 15, none⟩ Hx214 fun Most244 =>
 ldI .u64 ⟨b60, 16, none⟩ Hx214 fun Patience245 =>
 ldI .i64 ⟨b60, 17, none⟩ Hx214 fun Suspect246 =>
 ldI .i64 ⟨b60, 18, none⟩ Hx214 fun Trace247 =>
 ldI .i64 ⟨b60, 19, none⟩ Hx214 fun Work248 =>
 ldI .u64 ⟨b60, 20, none⟩ Hx214 fun Start249 =>
 ldI .u64 ⟨b60, 21, none⟩ Hx214 fun Last250 =>
 ldI .i64 ⟨b62, 8, none⟩ Hx214 fun Node251 =>
 ldI .u64 ⟨b62, 9, none⟩ Hx214 fun Serial252 =>
 hcall PR f_law23_Web_holders ⟨[(.agg #[(.slice InsP217 InsL218 InsC219), (.slice OutsP220 OutsL221 OutsC222), (.slice LiveP223 LiveL224 LiveC225), (.slice GoneP226 GoneL227 GoneC228)]), (.agg #[(.int .i64 Nodes229), (.int .i64 Mutators230), (.int .i64 Slots231), (.int .i64 Cells232), (.int .i64 Objects233), (.int .i64 Stubs234), (.int .i64 Calls235), (.int .i64 Window236), (.int .i64 Grey237), (.int .i64 Bag238), (.int .i64 Inbox239), (.int .u64 Unit240), (.int .u64 Drift241), (.int .u64 Lease242), (.int .u64 Wait243), (.int .u64 Most244), (.int .u64 Patience245), (.int .i64 Suspect246), (.int .i64 Trace247), (.int .i64 Work248), (.int .u64 Start249), (.int .u64 Last250)]), (.agg #[(.int .i64 Node251), (.int .u64 Serial252)])]⟩ Hx214 fun v253 Hx254 =>
 asSl v253 fun tP255 tL256 tC257 =>
 st ⟨b71, 18, none⟩ (.slice tP255 tL256 tC257) Hx254 fun Hx258 =>
 R93 Hx258
else
 ldSl ⟨b58, 0, none⟩ Hx214 fun InsP259 InsL260 InsC261 =>
 ldSl ⟨b58, 1, none⟩ Hx214 fun OutsP262 OutsL263 OutsC264 =>
 ldSl ⟨b58, 2, none⟩ Hx214 fun LiveP265 LiveL266 LiveC267 =>
 ldSl ⟨b58, 3, none⟩ Hx214 fun GoneP268 GoneL269 GoneC270 =>
 ldI .i64 ⟨b62, 2, none⟩ Hx214 fun To271 =>
 ldI .i64 ⟨b62, 8, none⟩ Hx214 fun Node272 =>
 ldI .u64 ⟨b62, 9, none⟩ Hx214 fun Serial273 =>
 hcall PR f_law23_Web_ins ⟨[(.agg #[(.slice InsP259 InsL260 InsC261), (.slice OutsP262 OutsL263 OutsC264), (.slice LiveP265 LiveL266 LiveC267), (.slice GoneP268 GoneL269 GoneC270)]), (.int .i64 To271), (.agg #[(.int .i64 Node272), (.int .u64 Serial273)])]⟩ Hx214 fun v274 Hx275 =>
 asSl v274 fun tP276 tL277 tC278 =>
 st ⟨b71, 18, none⟩ (.slice tP276 tL277 tC278) Hx275 fun Hx279 =>
 R93 Hx279)))))
theorem E_law23_Web_answer (wInsP1 : Option Addr) (wInsL2 : Nat) (wInsC3 : Nat) (wOutsP4 : Option Addr) (wOutsL5 : Nat) (wOutsC6 : Nat) (wLiveP7 : Option Addr) (wLiveL8 : Nat) (wLiveC9 : Nat) (wGoneP10 : Option Addr) (wGoneL11 : Nat) (wGoneC12 : Nat) (cNodes13 : Int) (cMutators14 : Int) (cSlots15 : Int) (cCells16 : Int) (cObjects17 : Int) (cStubs18 : Int) (cCalls19 : Int) (cWindow20 : Int) (cGrey21 : Int) (cBag22 : Int) (cInbox23 : Int) (cUnit24 : Int) (cDrift25 : Int) (cLease26 : Int) (cWait27 : Int) (cMost28 : Int) (cPatience29 : Int) (cSuspect30 : Int) (cTrace31 : Int) (cWork32 : Int) (cStart33 : Int) (cLast34 : Int) (qKind35 : Int) (qFrom36 : Int) (qTo37 : Int) (qCall38 : Int) (qFloor39 : Int) (qOp40 : Int) (qField41 : Int) (qItem42 : Int) (qNode43 : Int) (qSerial44 : Int) (qRefsP45 : Option Addr) (qRefsL46 : Nat) (qRefsC47 : Nat) (qValue48 : Int) (qCode49 : Int) (qSeq50 : Int) (qVoucher51 : Int) (qAt52 : Int) (qDist53 : Int) (qStamp54 : Int) (qListP55 : Option Addr) (qListL56 : Nat) (qListC57 : Nat) (H : Hp) (K : Value → Hp → Prop) : B_law23_Web_answer wInsP1 wInsL2 wInsC3 wOutsP4 wOutsL5 wOutsC6 wLiveP7 wLiveL8 wLiveC9 wGoneP10 wGoneL11 wGoneC12 cNodes13 cMutators14 cSlots15 cCells16 cObjects17 cStubs18 cCalls19 cWindow20 cGrey21 cBag22 cInbox23 cUnit24 cDrift25 cLease26 cWait27 cMost28 cPatience29 cSuspect30 cTrace31 cWork32 cStart33 cLast34 qKind35 qFrom36 qTo37 qCall38 qFloor39 qOp40 qField41 qItem42 qNode43 qSerial44 qRefsP45 qRefsL46 qRefsC47 qValue48 qCode49 qSeq50 qVoucher51 qAt52 qDist53 qStamp54 qListP55 qListL56 qListC57 H K = denF Try.prog Try.f35 (.seq none .n (.seq none .n (.seq none .n (.seq (some ⟨[], [6, 7]⟩) .n .n)))) [(.agg #[(.slice wInsP1 wInsL2 wInsC3), (.slice wOutsP4 wOutsL5 wOutsC6), (.slice wLiveP7 wLiveL8 wLiveC9), (.slice wGoneP10 wGoneL11 wGoneC12)]), (.agg #[(.int .i64 cNodes13), (.int .i64 cMutators14), (.int .i64 cSlots15), (.int .i64 cCells16), (.int .i64 cObjects17), (.int .i64 cStubs18), (.int .i64 cCalls19), (.int .i64 cWindow20), (.int .i64 cGrey21), (.int .i64 cBag22), (.int .i64 cInbox23), (.int .u64 cUnit24), (.int .u64 cDrift25), (.int .u64 cLease26), (.int .u64 cWait27), (.int .u64 cMost28), (.int .u64 cPatience29), (.int .i64 cSuspect30), (.int .i64 cTrace31), (.int .i64 cWork32), (.int .u64 cStart33), (.int .u64 cLast34)]), (.agg #[(.int .i64 qKind35), (.int .i64 qFrom36), (.int .i64 qTo37), (.int .u64 qCall38), (.int .u64 qFloor39), (.int .i64 qOp40), (.int .i64 qField41), (.int .i64 qItem42), (.int .i64 qNode43), (.int .u64 qSerial44), (.slice qRefsP45 qRefsL46 qRefsC47), (.int .u64 qValue48), (.int .i64 qCode49), (.int .u64 qSeq50), (.int .i64 qVoucher51), (.int .u64 qAt52), (.int .i64 qDist53), (.int .u64 qStamp54), (.slice qListP55 qListL56 qListC57)])] H K := by kernel_rfl
theorem den_law23_Web_answer {wInsP1 : Option Addr} {wInsL2 : Nat} {wInsC3 : Nat} {wOutsP4 : Option Addr} {wOutsL5 : Nat} {wOutsC6 : Nat} {wLiveP7 : Option Addr} {wLiveL8 : Nat} {wLiveC9 : Nat} {wGoneP10 : Option Addr} {wGoneL11 : Nat} {wGoneC12 : Nat} {cNodes13 : Int} {cMutators14 : Int} {cSlots15 : Int} {cCells16 : Int} {cObjects17 : Int} {cStubs18 : Int} {cCalls19 : Int} {cWindow20 : Int} {cGrey21 : Int} {cBag22 : Int} {cInbox23 : Int} {cUnit24 : Int} {cDrift25 : Int} {cLease26 : Int} {cWait27 : Int} {cMost28 : Int} {cPatience29 : Int} {cSuspect30 : Int} {cTrace31 : Int} {cWork32 : Int} {cStart33 : Int} {cLast34 : Int} {qKind35 : Int} {qFrom36 : Int} {qTo37 : Int} {qCall38 : Int} {qFloor39 : Int} {qOp40 : Int} {qField41 : Int} {qItem42 : Int} {qNode43 : Int} {qSerial44 : Int} {qRefsP45 : Option Addr} {qRefsL46 : Nat} {qRefsC47 : Nat} {qValue48 : Int} {qCode49 : Int} {qSeq50 : Int} {qVoucher51 : Int} {qAt52 : Int} {qDist53 : Int} {qStamp54 : Int} {qListP55 : Option Addr} {qListL56 : Nat} {qListC57 : Nat} {H : Hp} {K : Value → Hp → Prop} (h : B_law23_Web_answer wInsP1 wInsL2 wInsC3 wOutsP4 wOutsL5 wOutsC6 wLiveP7 wLiveL8 wLiveC9 wGoneP10 wGoneL11 wGoneC12 cNodes13 cMutators14 cSlots15 cCells16 cObjects17 cStubs18 cCalls19 cWindow20 cGrey21 cBag22 cInbox23 cUnit24 cDrift25 cLease26 cWait27 cMost28 cPatience29 cSuspect30 cTrace31 cWork32 cStart33 cLast34 qKind35 qFrom36 qTo37 qCall38 qFloor39 qOp40 qField41 qItem42 qNode43 qSerial44 qRefsP45 qRefsL46 qRefsC47 qValue48 qCode49 qSeq50 qVoucher51 qAt52 qDist53 qStamp54 qListP55 qListL56 qListC57 H K) : hcall PR f_law23_Web_answer ⟨[(.agg #[(.slice wInsP1 wInsL2 wInsC3), (.slice wOutsP4 wOutsL5 wOutsC6), (.slice wLiveP7 wLiveL8 wLiveC9), (.slice wGoneP10 wGoneL11 wGoneC12)]), (.agg #[(.int .i64 cNodes13), (.int .i64 cMutators14), (.int .i64 cSlots15), (.int .i64 cCells16), (.int .i64 cObjects17), (.int .i64 cStubs18), (.int .i64 cCalls19), (.int .i64 cWindow20), (.int .i64 cGrey21), (.int .i64 cBag22), (.int .i64 cInbox23), (.int .u64 cUnit24), (.int .u64 cDrift25), (.int .u64 cLease26), (.int .u64 cWait27), (.int .u64 cMost28), (.int .u64 cPatience29), (.int .i64 cSuspect30), (.int .i64 cTrace31), (.int .i64 cWork32), (.int .u64 cStart33), (.int .u64 cLast34)]), (.agg #[(.int .i64 qKind35), (.int .i64 qFrom36), (.int .i64 qTo37), (.int .u64 qCall38), (.int .u64 qFloor39), (.int .i64 qOp40), (.int .i64 qField41), (.int .i64 qItem42), (.int .i64 qNode43), (.int .u64 qSerial44), (.slice qRefsP45 qRefsL46 qRefsC47), (.int .u64 qValue48), (.int .i64 qCode49), (.int .u64 qSeq50), (.int .i64 qVoucher51), (.int .u64 qAt52), (.int .i64 qDist53), (.int .u64 qStamp54), (.slice qListP55 qListL56 qListC57)])]⟩ H K := denF_call Try.func35 PR_mixed (Eq.mp (E_law23_Web_answer wInsP1 wInsL2 wInsC3 wOutsP4 wOutsL5 wOutsC6 wLiveP7 wLiveL8 wLiveC9 wGoneP10 wGoneL11 wGoneC12 cNodes13 cMutators14 cSlots15 cCells16 cObjects17 cStubs18 cCalls19 cWindow20 cGrey21 cBag22 cInbox23 cUnit24 cDrift25 cLease26 cWait27 cMost28 cPatience29 cSuspect30 cTrace31 cWork32 cStart33 cLast34 qKind35 qFrom36 qTo37 qCall38 qFloor39 qOp40 qField41 qItem42 qNode43 qSerial44 qRefsP45 qRefsL46 qRefsC47 qValue48 qCode49 qSeq50 qVoucher51 qAt52 qDist53 qStamp54 qListP55 qListL56 qListC57 H K) h)

end Go.Proofs.Ytknejebggegfjaa
