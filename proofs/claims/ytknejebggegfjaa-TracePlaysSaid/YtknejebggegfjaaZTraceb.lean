/- Merged by merge.py: TrP5, TrC, DenLaw23, TrD, TrW, TrW2, DenLaw23WebIns, DenLaw23WebHolders, DenLaw23WebAnswer, TrV, DenWitness. No condition. -/
import Derived.Test.YtknejebggegfjaaZTrace
import Derived.Test.YtknejebggegfjaaZPaint
import Derived.Test.YtknejebggegfjaaZHeap
import Derived.Test.YtknejebggegfjaaZNum

namespace Go.Proofs.Ytknejebggegfjaa
set_option linter.unusedSimpArgs false
set_option linter.unusedVariables false
open Go
def Tr.asks (t : Tr) (now : Int) : Bool := !decide (t.st = 0) && pastB t.sent t.wait now
def Tr.beginE (nodes : Int) (t : Tr) (n s : Int) : Int :=
  if t.st ≠ 0 then 10 else if n < 1 then 1 else if n > nodes then 1 else if n = t.node then 1 else if s < 1 then 1 else if s > 72057594037927935 then 1 else if t.num = 72057594037927935 then 7 else 0
def Tr.begun (t : Tr) (n s now : Int) : Tr := { t with num := IntKind.u64.wrap (t.num + 1), st := 1, items := [⟨false, t.node, ⟨n, s⟩, 0⟩], sm := [], opn := 0, todo := [], sent := now, wait := 0 }
def newTr (node last : Int) : Tr := ⟨node, last, 0, 0, [], [], 0, [], 0, 0⟩
theorem newTr_ok {nodes node last : Int} : (newTr node last).ok nodes := ⟨by simp [newTr], by simp [newTr], fun x hx => (by cases hx), List.Pairwise.nil, fun e he => (by cases he), fun h => absurd h (by simp [newTr]), fun h => absurd h (by simp [newTr]), fun h => absurd h (by simp [newTr])⟩
theorem Tr.begun_ok {nodes : Int} {t : Tr} {n s now : Int} (h : 1 ≤ t.node ∧ t.node ≤ nodes) : (t.begun n s now).ok nodes :=
  ⟨by simp [Tr.begun], by simp [Tr.begun], fun x hx => (by simp [Tr.begun] at hx; rw [hx]; exact h), List.Pairwise.nil, fun e he => (by cases he), fun _ => ⟨by simp [Tr.begun], by simp [Tr.begun], rfl⟩, fun h => absurd h (by simp [Tr.begun]), fun h => absurd h (by simp [Tr.begun])⟩

section
variable {H0 H : Hp} {L M N : List Prt} {i k tb : Nat} {c : Cf} {t : Tr} {m : Ms} {K : Value → Hp → Prop}
theorem St.midin {A : Prt} (h : St H0 (A :: (N ++ M)) H) : St H0 (N ++ (A :: M)) H := h.perm List.perm_middle.symm
theorem St.midless {A : Prt} (h : St H0 (N ++ (A :: M)) H) : St H0 (N ++ M) H := (h.perm List.perm_middle).less
theorem St.oneRow {b q n : Nat} {c : Array Value} {e : TypeId} (h : St H0 L H) (hi : L[i]? = some (Prt.one b (.cells c e (0, 0)))) (hs : c.size = n * q) : St H0 (L.set i (Prt.row q (some ⟨b, 0, none⟩) n n c.toList)) H := by
  obtain ⟨Fi, ha, up⟩ := h.at hi
  have ho : Own H q (some ⟨b, 0, none⟩) n n c.toList := ⟨by simpa using hs, Nat.le_refl _, rfl, c, e, ha.1, by simp only [hs]; omega, fun i hi => by simp⟩
  have e : Fi = blk (some ⟨b, 0, none⟩) := funext fun c => propext ((ha.2 c).trans ⟨fun h => blk_some.2 h.symm, fun h => (blk_some.1 h).symm⟩)
  refine up _ (blk (some ⟨b, 0, none⟩)) H (Prt.row_holds ho) ?_
  rw [e]
  exact Goes.refl _ _

theorem trStateC (h : St H0 L H) (hk : L[k]? = some (TrP tb c t)) (hK : K (.int .i64 t.st) H) : hcall PR f_trace_Trace_State ⟨[.pointer (some ⟨tb, 0, none⟩)]⟩ H K := by
  apply den_trace_Trace_State
  unfold B_trace_Trace_State
  obtain ⟨x, M, g, ho, hot, shut⟩ := trTake h hk
  exact ldI_of (g.cell (i := 0) rfl rfl) hK
theorem trCountC (h : St H0 L H) (hk : L[k]? = some (TrP tb c t)) (hK : K (.tuple #[.int .u64 t.num, .int .i64 t.found]) H) : hcall PR f_trace_Trace_Count ⟨[.pointer (some ⟨tb, 0, none⟩)]⟩ H K := by
  apply den_trace_Trace_Count
  unfold B_trace_Trace_Count
  obtain ⟨x, M, g, ho, hot, shut⟩ := trTake h hk
  exact ldI_of (g.cell (i := 0) rfl rfl) (ldI_of (g.cell (i := 0) rfl rfl) hK)
theorem trItemsC (h : St H0 L H) (hk : L[k]? = some (TrP tb c t)) (hK : ∀ p cap H', St H0 (Prt.row 5 p t.items.length cap (cel It.cells t.items) :: L) H' → K (.slice p t.items.length cap) H') : hcall PR f_trace_Trace_Items ⟨[.pointer (some ⟨tb, 0, none⟩)]⟩ H K := by
  apply den_trace_Trace_Items
  unfold B_trace_Trace_Items
  obtain ⟨x, M, g, ho, hot, shut⟩ := trTake h hk
  have hil := ho.items
  intro b2 hb2
  have g1 := g.alloc (o := .cells #[] ty_trace_Item) hb2
  refine ldSl_of (g1.cell (i := 1) rfl rfl) ?_
  refine g1.copy (i := 0) rfl tu_ty_Strace_Item tu_ty_Strace_Item ti_ty_trace_Item rfl (by decide) (g1.row_rd (i := 2) rfl) (fun z hz => by
    unfold cel at hz
    rw [List.mem_flatten] at hz
    obtain ⟨l, hl, hz⟩ := hz
    obtain ⟨a, _, rfl⟩ := List.mem_map.1 hl
    simp [It.cells] at hz
    rcases hz with rfl | rfl | rfl | rfl | rfl <;> rfl) (by omega) fun p cap H2 g2 => ?_
  (try simp only [asI_mk', asB_mk, asP_mk, asA_mk, asM_mk, asSl_mk, asStr_mk, tup2_mk, tup3_mk, agg1_mk, agg2_mk, agg3_mk, agg4_mk, asAggm, unCons_mk, unNil_mk, asTup_mk, extractD0, extractD1, List.toList_toArray, nilP_mk, add_mk, Nat.zero_add, Nat.add_zero, condT, condF, Bool.not_true, Bool.not_false, Option.isNone_some, Option.isNone_none])
  refine hK p cap H2 ?_
  have := shut [_] t x H2 ho g2
  rw [List.set_self hk] at this
  exact this

theorem trStepC {now : Int} (h : St H0 L H) (hk : L[k]? = some (TrP tb c t))
    (hN : t.asks now = false → ∀ H', St H0 L H' → K (.tuple #[.agg #[.int .i64 0, .int .i64 0, .int .i64 0, .int .u64 0, .int .u64 0, .int .i64 0, .int .i64 0, .int .i64 0, .int .i64 0, .int .u64 0, .slice none 0 0, .int .u64 0, .int .i64 0, .int .u64 0, .int .i64 0, .int .u64 0, .int .i64 0, .int .u64 0, .slice none 0 0], .bool false]) H')
    (hK : t.asks now = true → ∀ H', St H0 (L.set k (TrP tb c (t.told c.a14 c.a15 now))) H' → K (.tuple #[t.q.val, .bool true]) H') :
    hcall PR f_trace_Trace_Step ⟨[.pointer (some ⟨tb, 0, none⟩), .int .u64 now]⟩ H K := by
  apply den_trace_Trace_Step
  unfold B_trace_Trace_Step
  obtain ⟨x, M, g, ho, hot, shut⟩ := trTake h hk
  intro b3 hb3
  have g1 := g.alloc (o := .cells #[.int .i64 0, .int .i64 0, .int .i64 0, .int .u64 0, .int .u64 0, .int .i64 0, .int .i64 0, .int .i64 0, .int .i64 0, .int .u64 0, .slice none 0 0, .int .u64 0, .int .i64 0, .int .u64 0, .int .i64 0, .int .u64 0, .int .i64 0, .int .u64 0, .slice none 0 0] ty_api_Msg) hb3
  have no : t.asks now = false → ∀ H2, St H0 (Prt.one b3 (.cells #[.int .i64 0, .int .i64 0, .int .i64 0, .int .u64 0, .int .u64 0, .int .i64 0, .int .i64 0, .int .i64 0, .int .i64 0, .int .u64 0, .slice none 0 0, .int .u64 0, .int .i64 0, .int .u64 0, .int .i64 0, .int .u64 0, .int .i64 0, .int .u64 0, .slice none 0 0] ty_api_Msg (0, 0)) :: (trRaw tb c t x (smV t x) (smP t x) True ++ M)) H2 → K (.tuple #[.agg #[.int .i64 0, .int .i64 0, .int .i64 0, .int .u64 0, .int .u64 0, .int .i64 0, .int .i64 0, .int .i64 0, .int .i64 0, .int .u64 0, .slice none 0 0, .int .u64 0, .int .i64 0, .int .u64 0, .int .i64 0, .int .u64 0, .int .i64 0, .int .u64 0, .slice none 0 0], .bool false]) H2 := fun hf H2 g2 => by
    refine hN hf H2 ?_
    have := shut [] t x H2 ho g2.less
    rw [List.set_self hk] at this
    exact this
  (try simp only [asI_mk', asB_mk, asP_mk, asA_mk, asM_mk, asSl_mk, asStr_mk, tup2_mk, tup3_mk, agg1_mk, agg2_mk, agg3_mk, agg4_mk, asAggm, unCons_mk, unNil_mk, asTup_mk, extractD0, extractD1, List.toList_toArray, nilP_mk, add_mk, Nat.zero_add, Nat.add_zero, condT, condF, Bool.not_true, Bool.not_false, Option.isNone_some, Option.isNone_none])
  refine ldI_of (g1.cell (i := 1) rfl rfl) ?_
  by_cases h0 : t.st = 0
  · refine bif_eq h0 ?_
    refine St.sets (i := 0) (o := 0) (vs := [.int .i64 0, .int .i64 0, .int .i64 0, .int .u64 0, .int .u64 0, .int .i64 0, .int .i64 0, .int .i64 0, .int .i64 0, .int .u64 0, .slice none 0 0, .int .u64 0, .int .i64 0, .int .u64 0, .int .i64 0, .int .u64 0, .int .i64 0, .int .u64 0, .slice none 0 0]) g1 rfl (by simp) fun H2 g2 => ?_
    rw [setsA_all (by rfl)] at g2
    have g2 : St H0 (Prt.one b3 (.cells #[.int .i64 0, .int .i64 0, .int .i64 0, .int .u64 0, .int .u64 0, .int .i64 0, .int .i64 0, .int .i64 0, .int .i64 0, .int .u64 0, .slice none 0 0, .int .u64 0, .int .i64 0, .int .u64 0, .int .i64 0, .int .u64 0, .int .i64 0, .int .u64 0, .slice none 0 0] ty_api_Msg (0, 0)) :: (trRaw tb c t x (smV t x) (smP t x) True ++ M)) H2 := g2
    refine ldI_of (g2.cell (i := 0) rfl rfl) (ldI_of (g2.cell (i := 0) rfl rfl) (ldI_of (g2.cell (i := 0) rfl rfl) (ldI_of (g2.cell (i := 0) rfl rfl) (ldI_of (g2.cell (i := 0) rfl rfl) (ldI_of (g2.cell (i := 0) rfl rfl) (ldI_of (g2.cell (i := 0) rfl rfl) (ldI_of (g2.cell (i := 0) rfl rfl) (ldI_of (g2.cell (i := 0) rfl rfl) (ldI_of (g2.cell (i := 0) rfl rfl) (ldSl_of (g2.cell (i := 0) rfl rfl) (ldI_of (g2.cell (i := 0) rfl rfl) (ldI_of (g2.cell (i := 0) rfl rfl) (ldI_of (g2.cell (i := 0) rfl rfl) (ldI_of (g2.cell (i := 0) rfl rfl) (ldI_of (g2.cell (i := 0) rfl rfl) (ldI_of (g2.cell (i := 0) rfl rfl) (ldI_of (g2.cell (i := 0) rfl rfl) (ldSl_of (g2.cell (i := 0) rfl rfl) (?_)))))))))))))))))))
    exact no (by unfold Tr.asks; rw [decide_eq_true h0]; rfl) H2 g2
  refine bif_ne h0 (ldI_of (g1.cell (i := 1) rfl rfl) (ldI_of (g1.cell (i := 1) rfl rfl) (pastC ?_)))
  (try simp only [asI_mk', asB_mk, asP_mk, asA_mk, asM_mk, asSl_mk, asStr_mk, tup2_mk, tup3_mk, agg1_mk, agg2_mk, agg3_mk, agg4_mk, asAggm, unCons_mk, unNil_mk, asTup_mk, extractD0, extractD1, List.toList_toArray, nilP_mk, add_mk, Nat.zero_add, Nat.add_zero, condT, condF, Bool.not_true, Bool.not_false, Option.isNone_some, Option.isNone_none])
  have hask : t.asks now = pastB t.sent t.wait now := by unfold Tr.asks; rw [decide_eq_false h0]; rfl
  cases hp : pastB t.sent t.wait now
  · simp only [Bool.not_false, condT]
    refine St.sets (i := 0) (o := 0) (vs := [.int .i64 0, .int .i64 0, .int .i64 0, .int .u64 0, .int .u64 0, .int .i64 0, .int .i64 0, .int .i64 0, .int .i64 0, .int .u64 0, .slice none 0 0, .int .u64 0, .int .i64 0, .int .u64 0, .int .i64 0, .int .u64 0, .int .i64 0, .int .u64 0, .slice none 0 0]) g1 rfl (by simp) fun H2 g2 => ?_
    rw [setsA_all (by rfl)] at g2
    have g2 : St H0 (Prt.one b3 (.cells #[.int .i64 0, .int .i64 0, .int .i64 0, .int .u64 0, .int .u64 0, .int .i64 0, .int .i64 0, .int .i64 0, .int .i64 0, .int .u64 0, .slice none 0 0, .int .u64 0, .int .i64 0, .int .u64 0, .int .i64 0, .int .u64 0, .int .i64 0, .int .u64 0, .slice none 0 0] ty_api_Msg (0, 0)) :: (trRaw tb c t x (smV t x) (smP t x) True ++ M)) H2 := g2
    refine ldI_of (g2.cell (i := 0) rfl rfl) (ldI_of (g2.cell (i := 0) rfl rfl) (ldI_of (g2.cell (i := 0) rfl rfl) (ldI_of (g2.cell (i := 0) rfl rfl) (ldI_of (g2.cell (i := 0) rfl rfl) (ldI_of (g2.cell (i := 0) rfl rfl) (ldI_of (g2.cell (i := 0) rfl rfl) (ldI_of (g2.cell (i := 0) rfl rfl) (ldI_of (g2.cell (i := 0) rfl rfl) (ldI_of (g2.cell (i := 0) rfl rfl) (ldSl_of (g2.cell (i := 0) rfl rfl) (ldI_of (g2.cell (i := 0) rfl rfl) (ldI_of (g2.cell (i := 0) rfl rfl) (ldI_of (g2.cell (i := 0) rfl rfl) (ldI_of (g2.cell (i := 0) rfl rfl) (ldI_of (g2.cell (i := 0) rfl rfl) (ldI_of (g2.cell (i := 0) rfl rfl) (ldI_of (g2.cell (i := 0) rfl rfl) (ldSl_of (g2.cell (i := 0) rfl rfl) (?_)))))))))))))))))))
    exact no (by rw [hask, hp]) H2 g2
  simp only [Bool.not_true, condF]
  refine g1.put (i := 1) rfl (show 30 < 32 by decide) fun H2 g2 => ?_
  have g2 : St H0 (Prt.one b3 (.cells #[.int .i64 0, .int .i64 0, .int .i64 0, .int .u64 0, .int .u64 0, .int .i64 0, .int .i64 0, .int .i64 0, .int .i64 0, .int .u64 0, .slice none 0 0, .int .u64 0, .int .i64 0, .int .u64 0, .int .i64 0, .int .u64 0, .int .i64 0, .int .u64 0, .slice none 0 0] ty_api_Msg (0, 0)) :: (trRaw tb c { t with sent := now } x (smV t x) (smP t x) True ++ M)) H2 := g2
  refine ldI_of (g2.cell (i := 1) rfl rfl) (ldI_of (g2.cell (i := 1) rfl rfl) (ldI_of (g2.cell (i := 1) rfl rfl) (lWaitC ?_)))
  (try simp only [asI_mk', asB_mk, asP_mk, asA_mk, asM_mk, asSl_mk, asStr_mk, tup2_mk, tup3_mk, agg1_mk, agg2_mk, agg3_mk, agg4_mk, asAggm, unCons_mk, unNil_mk, asTup_mk, extractD0, extractD1, List.toList_toArray, nilP_mk, add_mk, Nat.zero_add, Nat.add_zero, condT, condF, Bool.not_true, Bool.not_false, Option.isNone_some, Option.isNone_none])
  refine g2.put (i := 1) rfl (show 31 < 32 by decide) fun H3 g3 => ?_
  have g3 : St H0 (Prt.one b3 (.cells #[.int .i64 0, .int .i64 0, .int .i64 0, .int .u64 0, .int .u64 0, .int .i64 0, .int .i64 0, .int .i64 0, .int .i64 0, .int .u64 0, .slice none 0 0, .int .u64 0, .int .i64 0, .int .u64 0, .int .i64 0, .int .u64 0, .int .i64 0, .int .u64 0, .slice none 0 0] ty_api_Msg (0, 0)) :: (trRaw tb c (t.told c.a14 c.a15 now) x (smV t x) (smP t x) True ++ M)) H3 := g3
  refine trQuestionC (t := t.told c.a14 c.a15 now) (M := Prt.one b3 (.cells #[.int .i64 0, .int .i64 0, .int .i64 0, .int .u64 0, .int .u64 0, .int .i64 0, .int .i64 0, .int .i64 0, .int .i64 0, .int .u64 0, .slice none 0 0, .int .u64 0, .int .i64 0, .int .u64 0, .int .i64 0, .int .u64 0, .int .i64 0, .int .u64 0, .slice none 0 0] ty_api_Msg (0, 0)) :: M) g3.midin ho.told h0 (smV_on h0) (smP_on h0) fun H4 g4 => ?_
  (try simp only [asI_mk', asB_mk, asP_mk, asA_mk, asM_mk, asSl_mk, asStr_mk, tup2_mk, tup3_mk, agg1_mk, agg2_mk, agg3_mk, agg4_mk, asAggm, unCons_mk, unNil_mk, asTup_mk, extractD0, extractD1, List.toList_toArray, nilP_mk, add_mk, Nat.zero_add, Nat.add_zero, condT, condF, Bool.not_true, Bool.not_false, Option.isNone_some, Option.isNone_none])
  have hq : (t.told c.a14 c.a15 now).q = t.q := rfl
  rw [hq]
  refine St.sets (i := 5) (o := 0) (vs := t.q.cells) g4 rfl (by simp [Qn.cells]) fun H5 g5 => ?_
  rw [setsA_all (by rfl)] at g5
  have g5 : St H0 (trRaw tb c (t.told c.a14 c.a15 now) x (smV t x) (smP t x) True ++ (Prt.one b3 (.cells t.q.cells.toArray ty_api_Msg (0, 0)) :: M)) H5 := g5
  refine ldI_of (g5.cell (i := 5) rfl rfl) (ldI_of (g5.cell (i := 5) rfl rfl) (ldI_of (g5.cell (i := 5) rfl rfl) (ldI_of (g5.cell (i := 5) rfl rfl) (ldI_of (g5.cell (i := 5) rfl rfl) (ldI_of (g5.cell (i := 5) rfl rfl) (ldI_of (g5.cell (i := 5) rfl rfl) (ldI_of (g5.cell (i := 5) rfl rfl) (ldI_of (g5.cell (i := 5) rfl rfl) (ldI_of (g5.cell (i := 5) rfl rfl) (ldSl_of (g5.cell (i := 5) rfl rfl) (ldI_of (g5.cell (i := 5) rfl rfl) (ldI_of (g5.cell (i := 5) rfl rfl) (ldI_of (g5.cell (i := 5) rfl rfl) (ldI_of (g5.cell (i := 5) rfl rfl) (ldI_of (g5.cell (i := 5) rfl rfl) (ldI_of (g5.cell (i := 5) rfl rfl) (ldI_of (g5.cell (i := 5) rfl rfl) (ldSl_of (g5.cell (i := 5) rfl rfl) (?_)))))))))))))))))))
  exact hK (by rw [hask, hp]) H5 (shut [] (t.told c.a14 c.a15 now) x H5 ho.told g5.midless)

theorem trHearG {f4 f5 f6 f8 f9 f11 f13 f14 f15 f16 : Int} {rp lp : Option Addr} {rl rc ll lc : Nat} (h : St H0 L H) (hk : L[k]? = some (TrP tb c t)) (hn : 1 ≤ c.a0 ∧ c.a0 ≤ 12)
    (hgd : t.heeds m = true → t.st = 1 → ll = m.list.length ∧ ll ≤ 4611686018427387903 ∧ (∀ n ∈ m.list, 0 ≤ n ∧ n < 18446744073709551616) ∧ ∀ N M H', (∀ i A, L[i]? = some A → i ≠ k → M[i]? = some A) → St H0 (N ++ M) H' → Rd H' 1 lp ll (m.list.map (Value.int .u64)))
    (hK : ∀ H', St H0 (L.set k (TrP tb c (t.hear c.a0 m))) H' → K (.bool (t.heeds m)) H') :
    hcall PR f_trace_Trace_Hear ⟨[.pointer (some ⟨tb, 0, none⟩), .agg #[.int .i64 m.kind, .int .i64 m.frm, .int .i64 m.to, .int .u64 m.call, .int .u64 f4, .int .i64 f5, .int .i64 f6, .int .i64 m.item, .int .i64 f8, .int .u64 f9, .slice rp rl rc, .int .u64 f11, .int .i64 m.code, .int .u64 f13, .int .i64 f14, .int .u64 f15, .int .i64 f16, .int .u64 m.stamp, .slice lp ll lc]]⟩ H K := by
  apply den_trace_Trace_Hear
  unfold B_trace_Trace_Hear
  obtain ⟨x, M, g, ho, hot, shut⟩ := trTake h hk
  intro b25 hb25
  have g1 := g.alloc (o := .cells #[.int .i64 m.kind, .int .i64 m.frm, .int .i64 m.to, .int .u64 m.call, .int .u64 f4, .int .i64 f5, .int .i64 f6, .int .i64 m.item, .int .i64 f8, .int .u64 f9, .slice rp rl rc, .int .u64 f11, .int .i64 m.code, .int .u64 f13, .int .i64 f14, .int .u64 f15, .int .i64 f16, .int .u64 m.stamp, .slice lp ll lc] ty_api_Msg) hb25
  have g1 : St H0 (trRaw tb c t x (smV t x) (smP t x) True ++ (Prt.one b25 (.cells #[.int .i64 m.kind, .int .i64 m.frm, .int .i64 m.to, .int .u64 m.call, .int .u64 f4, .int .i64 f5, .int .i64 f6, .int .i64 m.item, .int .i64 f8, .int .u64 f9, .slice rp rl rc, .int .u64 f11, .int .i64 m.code, .int .u64 f13, .int .i64 f14, .int .u64 f15, .int .i64 f16, .int .u64 m.stamp, .slice lp ll lc] ty_api_Msg (0, 0)) :: M)) _ := g1.midin
  have no : t.heeds m = false → ∀ H2, St H0 (trRaw tb c t x (smV t x) (smP t x) True ++ (Prt.one b25 (.cells #[.int .i64 m.kind, .int .i64 m.frm, .int .i64 m.to, .int .u64 m.call, .int .u64 f4, .int .i64 f5, .int .i64 f6, .int .i64 m.item, .int .i64 f8, .int .u64 f9, .slice rp rl rc, .int .u64 f11, .int .i64 m.code, .int .u64 f13, .int .i64 f14, .int .u64 f15, .int .i64 f16, .int .u64 m.stamp, .slice lp ll lc] ty_api_Msg (0, 0)) :: M)) H2 → K (.bool false) H2 := fun hf H2 g2 => by
    have e : t.hear c.a0 m = t := by unfold Tr.hear; rw [if_pos hf]
    rw [e, hf] at hK
    exact hK H2 (shut [] t x H2 ho g2.midless)
  (try simp only [asI_mk', asB_mk, asP_mk, asA_mk, asM_mk, asSl_mk, asStr_mk, tup2_mk, tup3_mk, agg1_mk, agg2_mk, agg3_mk, agg4_mk, asAggm, unCons_mk, unNil_mk, asTup_mk, extractD0, extractD1, List.toList_toArray, nilP_mk, add_mk, Nat.zero_add, Nat.add_zero, condT, condF, Bool.not_true, Bool.not_false, Option.isNone_some, Option.isNone_none])
  refine ldI_of (g1.cell (i := 0) rfl rfl) ?_
  by_cases h0 : t.st = 0
  · exact bif_eq h0 (no (by unfold Tr.heeds; rw [decide_eq_true h0]; rfl) _ g1)
  refine bif_ne h0 (trQuestionC g1 ho h0 (smV_on h0) (smP_on h0) fun H2 g2 => ?_)
  (try simp only [asI_mk', asB_mk, asP_mk, asA_mk, asM_mk, asSl_mk, asStr_mk, tup2_mk, tup3_mk, agg1_mk, agg2_mk, agg3_mk, agg4_mk, asAggm, unCons_mk, unNil_mk, asTup_mk, extractD0, extractD1, List.toList_toArray, nilP_mk, add_mk, Nat.zero_add, Nat.add_zero, condT, condF, Bool.not_true, Bool.not_false, Option.isNone_some, Option.isNone_none])
  have he : t.heeds m = (decide (m.kind = if t.st = 3 then 11 else 9) && (decide (m.call = t.q.call) && (decide (m.item = t.q.item) && (decide (m.frm = t.q.to) && decide (m.to = t.node))))) := by unfold Tr.heeds; rw [decide_eq_false h0]; rfl
  clear g1
  intro b93 hb93
  have g3 := g2.alloc (o := .cells #[.int .i64 0, .int .i64 0, .int .i64 0, .int .u64 0, .int .u64 0, .int .i64 0, .int .i64 0, .int .i64 0, .int .i64 0, .int .u64 0, .slice none 0 0, .int .u64 0, .int .i64 0, .int .u64 0, .int .i64 0, .int .u64 0, .int .i64 0, .int .u64 0, .slice none 0 0] ty_api_Msg) hb93
  refine St.sets (i := 0) (o := 0) (vs := t.q.cells) g3 rfl (by simp [Qn.cells]) fun H4 g4 => ?_
  rw [setsA_all (by rfl)] at g4
  have g4 : St H0 (Prt.one b93 (.cells t.q.cells.toArray ty_api_Msg (0, 0)) :: (trRaw tb c t x (smV t x) (smP t x) True ++ (Prt.one b25 (.cells #[.int .i64 m.kind, .int .i64 m.frm, .int .i64 m.to, .int .u64 m.call, .int .u64 f4, .int .i64 f5, .int .i64 f6, .int .i64 m.item, .int .i64 f8, .int .u64 f9, .slice rp rl rc, .int .u64 f11, .int .i64 m.code, .int .u64 f13, .int .i64 f14, .int .u64 f15, .int .i64 f16, .int .u64 m.stamp, .slice lp ll lc] ty_api_Msg (0, 0)) :: M))) H4 := g4
  clear g3 g2
  intro R114 hR114
  have hR114 : R114 (if t.st = 3 then 11 else 9) H4 := by
    refine hR114 _ H4 ?_
    refine ldI_of (g4.cell (i := 6) rfl rfl) ?_
    by_cases q1 : m.kind = if t.st = 3 then 11 else 9
    rotate_left
    · exact bif_neq q1 (no (by rw [he, decide_eq_false q1]; rfl) _ g4.less)
    rw [decide_eq_true q1, Bool.true_and] at he
    refine bif_neqf q1 (ldI_of (g4.cell (i := 6) rfl rfl) (ldI_of (g4.cell (i := 0) rfl rfl) ?_))
    by_cases q2 : m.call = t.q.call
    rotate_left
    · exact bif_neq q2 (no (by rw [he, decide_eq_false q2]; rfl) _ g4.less)
    rw [decide_eq_true q2, Bool.true_and] at he
    refine bif_neqf q2 (ldI_of (g4.cell (i := 6) rfl rfl) (ldI_of (g4.cell (i := 0) rfl rfl) ?_))
    by_cases q3 : m.item = t.q.item
    rotate_left
    · exact bif_neq q3 (no (by rw [he, decide_eq_false q3]; rfl) _ g4.less)
    rw [decide_eq_true q3, Bool.true_and] at he
    refine bif_neqf q3 (ldI_of (g4.cell (i := 6) rfl rfl) (ldI_of (g4.cell (i := 0) rfl rfl) ?_))
    by_cases q4 : m.frm = t.q.to
    rotate_left
    · exact bif_neq q4 (no (by rw [he, decide_eq_false q4]; rfl) _ g4.less)
    rw [decide_eq_true q4, Bool.true_and] at he
    refine bif_neqf q4 (ldI_of (g4.cell (i := 6) rfl rfl) (ldI_of (g4.cell (i := 1) rfl rfl) ?_))
    by_cases q5 : m.to = t.node
    rotate_left
    · exact bif_neq q5 (no (by rw [he, decide_eq_false q5]) _ g4.less)
    rw [decide_eq_true q5] at he
    refine bif_neqf q5 (ldI_of (g4.cell (i := 1) rfl rfl) ?_)
    have hh : t.hear c.a0 m = if t.st = 1 then t.asked c.a0 m.code m.stamp m.list else if t.st = 2 then t.checked m.stamp else t.buried := by unfold Tr.hear; rw [if_neg (by rw [he]; decide)]
    rw [he] at hK
    have g4 : St H0 (Prt.one b93 (.cells t.q.cells.toArray ty_api_Msg (0, 0)) :: (trRaw tb c t x (.map (some x.mb)) (Prt.mp x.mb (ments (Value.int .i64) (Value.int .u64) t.sm)) True ++ (Prt.one b25 (.cells #[.int .i64 m.kind, .int .i64 m.frm, .int .i64 m.to, .int .u64 m.call, .int .u64 f4, .int .i64 f5, .int .i64 f6, .int .i64 m.item, .int .i64 f8, .int .u64 f9, .slice rp rl rc, .int .u64 f11, .int .i64 m.code, .int .u64 f13, .int .i64 f14, .int .u64 f15, .int .i64 f16, .int .u64 m.stamp, .slice lp ll lc] ty_api_Msg (0, 0)) :: M))) H4 := by
      rw [smV_on h0, smP_on h0] at g4
      exact g4
    by_cases s1 : t.st = 1
    · rw [if_pos s1] at hh
      obtain ⟨hll, hlb, hm0, hrd⟩ := hgd he s1
      have hrd := fun N H' h' => hrd N M H' hot h'
      refine bif_eq s1 ?_
      refine ldI_of (g4.cell (i := 6) rfl rfl) (ldI_of (g4.cell (i := 6) rfl rfl) (ldI_of (g4.cell (i := 6) rfl rfl) (ldI_of (g4.cell (i := 6) rfl rfl) (ldI_of (g4.cell (i := 6) rfl rfl) (ldI_of (g4.cell (i := 6) rfl rfl) (ldI_of (g4.cell (i := 6) rfl rfl) (ldI_of (g4.cell (i := 6) rfl rfl) (ldI_of (g4.cell (i := 6) rfl rfl) (ldI_of (g4.cell (i := 6) rfl rfl) (ldSl_of (g4.cell (i := 6) rfl rfl) (ldI_of (g4.cell (i := 6) rfl rfl) (ldI_of (g4.cell (i := 6) rfl rfl) (ldI_of (g4.cell (i := 6) rfl rfl) (ldI_of (g4.cell (i := 6) rfl rfl) (ldI_of (g4.cell (i := 6) rfl rfl) (ldI_of (g4.cell (i := 6) rfl rfl) (ldI_of (g4.cell (i := 6) rfl rfl) (ldSl_of (g4.cell (i := 6) rfl rfl) (?_)))))))))))))))))))
      refine trAskedC (M := Prt.one b25 (.cells #[.int .i64 m.kind, .int .i64 m.frm, .int .i64 m.to, .int .u64 m.call, .int .u64 f4, .int .i64 f5, .int .i64 f6, .int .i64 m.item, .int .i64 f8, .int .u64 f9, .slice rp rl rc, .int .u64 f11, .int .i64 m.code, .int .u64 f13, .int .i64 f14, .int .u64 f15, .int .i64 f16, .int .u64 m.stamp, .slice lp ll lc] ty_api_Msg (0, 0)) :: M) hn ho s1 hll hlb hm0 g4.less (fun N H' h' => hrd (N ++ [_]) H' (by rw [List.append_assoc]; exact h')) fun x' H5 g5 => ?_
      (try simp only [asI_mk', asB_mk, asP_mk, asA_mk, asM_mk, asSl_mk, asStr_mk, tup2_mk, tup3_mk, agg1_mk, agg2_mk, agg3_mk, agg4_mk, asAggm, unCons_mk, unNil_mk, asTup_mk, extractD0, extractD1, List.toList_toArray, nilP_mk, add_mk, Nat.zero_add, Nat.add_zero, condT, condF, Bool.not_true, Bool.not_false, Option.isNone_some, Option.isNone_none])
      refine hK H5 ?_
      rw [hh]
      exact shut [] _ x' H5 (ho.asked hn s1) g5.midless
    refine bif_ne s1 ?_
    rw [if_neg s1] at hh
    by_cases s2 : t.st = 2
    · rw [if_pos s2] at hh
      refine bif_eq s2 ?_
      refine ldI_of (g4.cell (i := 6) rfl rfl) (ldI_of (g4.cell (i := 6) rfl rfl) (ldI_of (g4.cell (i := 6) rfl rfl) (ldI_of (g4.cell (i := 6) rfl rfl) (ldI_of (g4.cell (i := 6) rfl rfl) (ldI_of (g4.cell (i := 6) rfl rfl) (ldI_of (g4.cell (i := 6) rfl rfl) (ldI_of (g4.cell (i := 6) rfl rfl) (ldI_of (g4.cell (i := 6) rfl rfl) (ldI_of (g4.cell (i := 6) rfl rfl) (ldSl_of (g4.cell (i := 6) rfl rfl) (ldI_of (g4.cell (i := 6) rfl rfl) (ldI_of (g4.cell (i := 6) rfl rfl) (ldI_of (g4.cell (i := 6) rfl rfl) (ldI_of (g4.cell (i := 6) rfl rfl) (ldI_of (g4.cell (i := 6) rfl rfl) (ldI_of (g4.cell (i := 6) rfl rfl) (ldI_of (g4.cell (i := 6) rfl rfl) (ldSl_of (g4.cell (i := 6) rfl rfl) (?_)))))))))))))))))))
      refine trCheckedC (M := Prt.one b25 (.cells #[.int .i64 m.kind, .int .i64 m.frm, .int .i64 m.to, .int .u64 m.call, .int .u64 f4, .int .i64 f5, .int .i64 f6, .int .i64 m.item, .int .i64 f8, .int .u64 f9, .slice rp rl rc, .int .u64 f11, .int .i64 m.code, .int .u64 f13, .int .i64 f14, .int .u64 f15, .int .i64 f16, .int .u64 m.stamp, .slice lp ll lc] ty_api_Msg (0, 0)) :: M) ho s2 g4.less fun x' H5 g5 => ?_
      (try simp only [asI_mk', asB_mk, asP_mk, asA_mk, asM_mk, asSl_mk, asStr_mk, tup2_mk, tup3_mk, agg1_mk, agg2_mk, agg3_mk, agg4_mk, asAggm, unCons_mk, unNil_mk, asTup_mk, extractD0, extractD1, List.toList_toArray, nilP_mk, add_mk, Nat.zero_add, Nat.add_zero, condT, condF, Bool.not_true, Bool.not_false, Option.isNone_some, Option.isNone_none])
      refine hK H5 ?_
      rw [hh]
      exact shut [] _ x' H5 (ho.checked s2) g5.midless
    rw [if_neg s2] at hh
    have hst := ho.st
    have s3 : t.st = 3 := by omega
    refine bif_ne s2 (bif_eq s3 ?_)
    refine trBuriedC (M := Prt.one b25 (.cells #[.int .i64 m.kind, .int .i64 m.frm, .int .i64 m.to, .int .u64 m.call, .int .u64 f4, .int .i64 f5, .int .i64 f6, .int .i64 m.item, .int .i64 f8, .int .u64 f9, .slice rp rl rc, .int .u64 f11, .int .i64 m.code, .int .u64 f13, .int .i64 f14, .int .u64 f15, .int .i64 f16, .int .u64 m.stamp, .slice lp ll lc] ty_api_Msg (0, 0)) :: M) ho s3 g4.less fun x' H5 g5 => ?_
    (try simp only [asI_mk', asB_mk, asP_mk, asA_mk, asM_mk, asSl_mk, asStr_mk, tup2_mk, tup3_mk, agg1_mk, agg2_mk, agg3_mk, agg4_mk, asAggm, unCons_mk, unNil_mk, asTup_mk, extractD0, extractD1, List.toList_toArray, nilP_mk, add_mk, Nat.zero_add, Nat.add_zero, condT, condF, Bool.not_true, Bool.not_false, Option.isNone_some, Option.isNone_none])
    refine hK H5 ?_
    rw [hh]
    exact shut [] _ x' H5 (ho.buried s3) g5.midless
  refine ldI_of (g4.cell (i := 1) rfl rfl) ?_
  by_cases s3 : t.st = 3
  · rw [if_pos s3] at hR114
    exact bif_eq s3 hR114
  · rw [if_neg s3] at hR114
    exact bif_ne s3 hR114

theorem trHearC {f4 f5 f6 f8 f9 f11 f13 f14 f15 f16 : Int} {rp lp : Option Addr} {rl rc ll lc : Nat} (h : St H0 L H) (hk : L[k]? = some (TrP tb c t)) (hn : 1 ≤ c.a0 ∧ c.a0 ≤ 12) (hll : ll = m.list.length) (hlb : ll ≤ 4611686018427387903) (hm0 : ∀ n ∈ m.list, 0 ≤ n ∧ n < 18446744073709551616)
    (hrd : ∀ N M H', (∀ i A, L[i]? = some A → i ≠ k → M[i]? = some A) → St H0 (N ++ M) H' → Rd H' 1 lp ll (m.list.map (Value.int .u64)))
    (hK : ∀ H', St H0 (L.set k (TrP tb c (t.hear c.a0 m))) H' → K (.bool (t.heeds m)) H') :
    hcall PR f_trace_Trace_Hear ⟨[.pointer (some ⟨tb, 0, none⟩), .agg #[.int .i64 m.kind, .int .i64 m.frm, .int .i64 m.to, .int .u64 m.call, .int .u64 f4, .int .i64 f5, .int .i64 f6, .int .i64 m.item, .int .i64 f8, .int .u64 f9, .slice rp rl rc, .int .u64 f11, .int .i64 m.code, .int .u64 f13, .int .i64 f14, .int .u64 f15, .int .i64 f16, .int .u64 m.stamp, .slice lp ll lc]]⟩ H K := trHearG h hk hn (fun _ _ => ⟨hll, hlb, hm0, hrd⟩) hK
theorem trBeginC {n s now : Int} (h : St H0 L H) (hk : L[k]? = some (TrP tb c t)) (hnd : 1 ≤ t.node ∧ t.node ≤ c.a0)
    (hN : t.beginE c.a0 n s ≠ 0 → ∀ H', St H0 L H' → K (.int .i64 (t.beginE c.a0 n s)) H')
    (hK : t.beginE c.a0 n s = 0 → ∀ H', St H0 (L.set k (TrP tb c (t.begun n s now))) H' → K (.int .i64 0) H') :
    hcall PR f_trace_Trace_Begin ⟨[.pointer (some ⟨tb, 0, none⟩), .agg #[.int .i64 n, .int .u64 s], .int .u64 now]⟩ H K := by
  apply den_trace_Trace_Begin
  unfold B_trace_Trace_Begin
  obtain ⟨x, M, g, ho, hot, shut⟩ := trTake h hk
  intro b5 hb5
  have g1 := g.alloc (o := .cells #[.int .i64 n, .int .u64 s] ty_api_ID) hb5
  have g1 : St H0 (trRaw tb c t x (smV t x) (smP t x) True ++ (Prt.one b5 (.cells #[.int .i64 n, .int .u64 s] ty_api_ID (0, 0)) :: M)) _ := g1.midin
  have no : ∀ e : Int, t.beginE c.a0 n s = e → e ≠ 0 → K (.int .i64 e) (upd H b5 (.cells #[.int .i64 n, .int .u64 s] ty_api_ID)) := fun e he hne => by
    rw [he] at hN
    refine hN hne _ ?_
    have := shut [] t x _ ho g1.midless
    rw [List.set_self hk] at this
    exact this
  (try simp only [asI_mk', asB_mk, asP_mk, asA_mk, asM_mk, asSl_mk, asStr_mk, tup2_mk, tup3_mk, agg1_mk, agg2_mk, agg3_mk, agg4_mk, asAggm, unCons_mk, unNil_mk, asTup_mk, extractD0, extractD1, List.toList_toArray, nilP_mk, add_mk, Nat.zero_add, Nat.add_zero, condT, condF, Bool.not_true, Bool.not_false, Option.isNone_some, Option.isNone_none])
  have hb : t.beginE c.a0 n s = t.beginE c.a0 n s := rfl
  conv at hb => rhs; unfold Tr.beginE
  refine ldI_of (g1.cell (i := 0) rfl rfl) ?_
  by_cases q1 : t.st ≠ 0
  · rw [if_pos q1] at hb
    exact bif_neq q1 (no 10 hb (by decide))
  rw [if_neg q1] at hb
  have q1' : t.st = 0 := Classical.byContradiction q1
  refine bif_neqf q1' (ldI_of (g1.cell (i := 5) rfl rfl) ?_)
  by_cases q2 : n < 1
  · rw [if_pos q2] at hb
    exact bif_pos q2 (no 1 hb (by decide))
  rw [if_neg q2] at hb
  refine bif_neg q2 (ldI_of (g1.cell (i := 5) rfl rfl) (ldI_of (g1.cell (i := 0) rfl rfl) ?_))
  by_cases q3 : n > c.a0
  · rw [if_pos q3] at hb
    exact bif_pos q3 (no 1 hb (by decide))
  rw [if_neg q3] at hb
  refine bif_neg q3 (ldI_of (g1.cell (i := 5) rfl rfl) (ldI_of (g1.cell (i := 0) rfl rfl) ?_))
  by_cases q4 : n = t.node
  · rw [if_pos q4] at hb
    exact bif_eq q4 (no 1 hb (by decide))
  rw [if_neg q4] at hb
  refine bif_ne q4 (ldI_of (g1.cell (i := 5) rfl rfl) ?_)
  by_cases q5 : s < 1
  · rw [if_pos q5] at hb
    exact bif_pos q5 (no 1 hb (by decide))
  rw [if_neg q5] at hb
  refine bif_neg q5 (ldI_of (g1.cell (i := 5) rfl rfl) ?_)
  by_cases q6 : s > 72057594037927935
  · rw [if_pos q6] at hb
    exact bif_pos q6 (no 1 hb (by decide))
  rw [if_neg q6] at hb
  refine bif_neg q6 (ldI_of (g1.cell (i := 0) rfl rfl) ?_)
  by_cases q7 : t.num = 72057594037927935
  · rw [if_pos q7] at hb
    exact bif_eq q7 (no 7 hb (by decide))
  rw [if_neg q7] at hb
  have hK := hK hb
  clear no hN hb
  refine bif_ne q7 (ldI_of (g1.cell (i := 0) rfl rfl) ?_)
  refine g1.put (i := 0) rfl (show 23 < 32 by decide) fun J0 k0 => ?_
  have k0 : St H0 (trB tb c t.node (IntKind.u64.wrap (t.num + 1)) t.found t.st (.slice x.ip t.items.length x.ic) (smV t x) t.opn (.slice x.tp t.todo.length x.tc) t.sent t.wait x.T :: Prt.row 5 x.ip t.items.length x.ic (cel It.cells t.items) :: smP t x :: Prt.row 1 x.tp t.todo.length x.tc (t.todo.map (Value.int .i64)) :: Prt.pure True :: Prt.one b5 (.cells #[.int .i64 n, .int .u64 s] ty_api_ID (0, 0)) :: M) J0 := k0
  clear g1 g
  intro R24 hR24
  have hfin : ∀ bi bm H', St H0 (Prt.one bi (.cells #[.bool false, .int .i64 t.node, .int .i64 n, .int .u64 s, .int .i64 0] ty_trace_Item (0, 0)) :: Prt.mp bm [] :: trB tb c t.node (IntKind.u64.wrap (t.num + 1)) t.found 1 (.slice (some ⟨bi, 0, none⟩) 1 1) (.map (some bm)) 0 (.slice none 0 0) t.sent t.wait x.T :: Prt.row 5 x.ip t.items.length x.ic (cel It.cells t.items) :: smP t x :: Prt.row 1 x.tp t.todo.length x.tc (t.todo.map (Value.int .i64)) :: Prt.pure True :: Prt.one b5 (.cells #[.int .i64 n, .int .u64 s] ty_api_ID (0, 0)) :: M) H' → R24 H' := fun bi bm H' g2 => by
    refine hR24 H' ?_
    refine g2.put (i := 2) rfl (show 30 < 32 by decide) fun H3 g3 => ?_
    have g3 : St H0 (Prt.one bi (.cells #[.bool false, .int .i64 t.node, .int .i64 n, .int .u64 s, .int .i64 0] ty_trace_Item (0, 0)) :: Prt.mp bm [] :: trB tb c t.node (IntKind.u64.wrap (t.num + 1)) t.found 1 (.slice (some ⟨bi, 0, none⟩) 1 1) (.map (some bm)) 0 (.slice none 0 0) now t.wait x.T :: Prt.row 5 x.ip t.items.length x.ic (cel It.cells t.items) :: smP t x :: Prt.row 1 x.tp t.todo.length x.tc (t.todo.map (Value.int .i64)) :: Prt.pure True :: Prt.one b5 (.cells #[.int .i64 n, .int .u64 s] ty_api_ID (0, 0)) :: M) H3 := g3
    refine g3.put (i := 2) rfl (show 31 < 32 by decide) fun H4 g4 => ?_
    have g4 : St H0 (Prt.one bi (.cells #[.bool false, .int .i64 t.node, .int .i64 n, .int .u64 s, .int .i64 0] ty_trace_Item (0, 0)) :: Prt.mp bm [] :: trB tb c t.node (IntKind.u64.wrap (t.num + 1)) t.found 1 (.slice (some ⟨bi, 0, none⟩) 1 1) (.map (some bm)) 0 (.slice none 0 0) now 0 x.T :: Prt.row 5 x.ip t.items.length x.ic (cel It.cells t.items) :: smP t x :: Prt.row 1 x.tp t.todo.length x.tc (t.todo.map (Value.int .i64)) :: Prt.pure True :: Prt.one b5 (.cells #[.int .i64 n, .int .u64 s] ty_api_ID (0, 0)) :: M) H4 := g4
    refine hK H4 ?_
    have g5 := g4.oneRow (i := 0) (q := 5) (n := 1) rfl rfl
    have g6 := g5.row (H' := _) (Own.nil 1) ((Goes.refl Nothing _).less fun c hc => absurd hc blk_none)
    have g7 : St H0 (Prt.row 1 none 0 0 [] :: Prt.row 5 (some ⟨bi, 0, none⟩) 1 1 (cel It.cells [⟨false, t.node, ⟨n, s⟩, 0⟩]) :: Prt.mp bm [] :: trB tb c t.node (IntKind.u64.wrap (t.num + 1)) t.found 1 (.slice (some ⟨bi, 0, none⟩) 1 1) (.map (some bm)) 0 (.slice none 0 0) now 0 x.T :: Prt.row 5 x.ip t.items.length x.ic (cel It.cells t.items) :: smP t x :: Prt.row 1 x.tp t.todo.length x.tc (t.todo.map (Value.int .i64)) :: Prt.pure True :: Prt.one b5 (.cells #[.int .i64 n, .int .u64 s] ty_api_ID (0, 0)) :: M) H4 := g6
    have g8 := g7.pick 9 [3, 1, 2, 0, 7, 4, 5, 6, 8] rfl rfl
    refine shut [] (t.begun n s now) ⟨some ⟨bi, 0, none⟩, 1, bm, none, 0, x.T⟩ H4 (Tr.begun_ok hnd) ?_
    rw [smV_on (by show (1 : Int) ≠ 0; decide), smP_on (by show (1 : Int) ≠ 0; decide)]
    exact St.lesses (M := [_, _, _, _]) (g8.perm (by
      show List.Perm ([_, _, _, _, _] ++ ([_, _, _, _] ++ M)) ([_, _, _, _] ++ ([_, _, _, _, _] ++ M))
      rw [← List.append_assoc, ← List.append_assoc]
      exact List.perm_append_comm.append_right M))
  clear hR24
  refine ldI_of (k0.cell (i := 0) rfl rfl) (ldI_of (k0.cell (i := 5) rfl rfl) (ldI_of (k0.cell (i := 5) rfl rfl) ?_))
  refine ⟨?_, ?_, ?_⟩
  · intro bi hbi
    have k1 := k0.alloc (o := .cells #[.bool false, .int .i64 t.node, .int .i64 n, .int .u64 s, .int .i64 0] ty_trace_Item) hbi
    refine ⟨?_, ?_⟩
    · intro bm hbm
      have k2 := k1.mpNew hbm
      refine k2.put (i := 2) rfl (show 25 < 32 by decide) fun J3 k3 => ?_
      have k3 : St H0 (Prt.mp bm [] :: Prt.one bi (.cells #[.bool false, .int .i64 t.node, .int .i64 n, .int .u64 s, .int .i64 0] ty_trace_Item (0, 0)) :: trB tb c t.node (IntKind.u64.wrap (t.num + 1)) t.found 1 (.slice x.ip t.items.length x.ic) (smV t x) t.opn (.slice x.tp t.todo.length x.tc) t.sent t.wait x.T :: Prt.row 5 x.ip t.items.length x.ic (cel It.cells t.items) :: smP t x :: Prt.row 1 x.tp t.todo.length x.tc (t.todo.map (Value.int .i64)) :: Prt.pure True :: Prt.one b5 (.cells #[.int .i64 n, .int .u64 s] ty_api_ID (0, 0)) :: M) J3 := k3
      refine k3.put (i := 2) rfl (show 26 < 32 by decide) fun J4 k4 => ?_
      have k4 : St H0 (Prt.mp bm [] :: Prt.one bi (.cells #[.bool false, .int .i64 t.node, .int .i64 n, .int .u64 s, .int .i64 0] ty_trace_Item (0, 0)) :: trB tb c t.node (IntKind.u64.wrap (t.num + 1)) t.found 1 (.slice (some ⟨bi, 0, none⟩) 1 1) (smV t x) t.opn (.slice x.tp t.todo.length x.tc) t.sent t.wait x.T :: Prt.row 5 x.ip t.items.length x.ic (cel It.cells t.items) :: smP t x :: Prt.row 1 x.tp t.todo.length x.tc (t.todo.map (Value.int .i64)) :: Prt.pure True :: Prt.one b5 (.cells #[.int .i64 n, .int .u64 s] ty_api_ID (0, 0)) :: M) J4 := k4
      refine k4.put (i := 2) rfl (show 27 < 32 by decide) fun J5 k5 => ?_
      have k5 : St H0 (Prt.mp bm [] :: Prt.one bi (.cells #[.bool false, .int .i64 t.node, .int .i64 n, .int .u64 s, .int .i64 0] ty_trace_Item (0, 0)) :: trB tb c t.node (IntKind.u64.wrap (t.num + 1)) t.found 1 (.slice (some ⟨bi, 0, none⟩) 1 1) (.map (some bm)) t.opn (.slice x.tp t.todo.length x.tc) t.sent t.wait x.T :: Prt.row 5 x.ip t.items.length x.ic (cel It.cells t.items) :: smP t x :: Prt.row 1 x.tp t.todo.length x.tc (t.todo.map (Value.int .i64)) :: Prt.pure True :: Prt.one b5 (.cells #[.int .i64 n, .int .u64 s] ty_api_ID (0, 0)) :: M) J5 := k5
      refine k5.put (i := 2) rfl (show 28 < 32 by decide) fun J6 k6 => ?_
      have k6 : St H0 (Prt.mp bm [] :: Prt.one bi (.cells #[.bool false, .int .i64 t.node, .int .i64 n, .int .u64 s, .int .i64 0] ty_trace_Item (0, 0)) :: trB tb c t.node (IntKind.u64.wrap (t.num + 1)) t.found 1 (.slice (some ⟨bi, 0, none⟩) 1 1) (.map (some bm)) 0 (.slice x.tp t.todo.length x.tc) t.sent t.wait x.T :: Prt.row 5 x.ip t.items.length x.ic (cel It.cells t.items) :: smP t x :: Prt.row 1 x.tp t.todo.length x.tc (t.todo.map (Value.int .i64)) :: Prt.pure True :: Prt.one b5 (.cells #[.int .i64 n, .int .u64 s] ty_api_ID (0, 0)) :: M) J6 := k6
      refine k6.put (i := 2) rfl (show 29 < 32 by decide) fun J7 k7 => ?_
      have k7 : St H0 (Prt.mp bm [] :: Prt.one bi (.cells #[.bool false, .int .i64 t.node, .int .i64 n, .int .u64 s, .int .i64 0] ty_trace_Item (0, 0)) :: trB tb c t.node (IntKind.u64.wrap (t.num + 1)) t.found 1 (.slice (some ⟨bi, 0, none⟩) 1 1) (.map (some bm)) 0 (.slice none 0 0) t.sent t.wait x.T :: Prt.row 5 x.ip t.items.length x.ic (cel It.cells t.items) :: smP t x :: Prt.row 1 x.tp t.todo.length x.tc (t.todo.map (Value.int .i64)) :: Prt.pure True :: Prt.one b5 (.cells #[.int .i64 n, .int .u64 s] ty_api_ID (0, 0)) :: M) J7 := k7
      exact hfin bi bm _ k7.flip
    · refine k1.put (i := 1) rfl (show 25 < 32 by decide) fun J2 k2 => ?_
      have k2 : St H0 (Prt.one bi (.cells #[.bool false, .int .i64 t.node, .int .i64 n, .int .u64 s, .int .i64 0] ty_trace_Item (0, 0)) :: trB tb c t.node (IntKind.u64.wrap (t.num + 1)) t.found 1 (.slice x.ip t.items.length x.ic) (smV t x) t.opn (.slice x.tp t.todo.length x.tc) t.sent t.wait x.T :: Prt.row 5 x.ip t.items.length x.ic (cel It.cells t.items) :: smP t x :: Prt.row 1 x.tp t.todo.length x.tc (t.todo.map (Value.int .i64)) :: Prt.pure True :: Prt.one b5 (.cells #[.int .i64 n, .int .u64 s] ty_api_ID (0, 0)) :: M) J2 := k2
      refine ⟨?_, ?_⟩
      · intro bm hbm
        have k3 := k2.mpNew hbm
        refine k3.put (i := 2) rfl (show 26 < 32 by decide) fun J4 k4 => ?_
        have k4 : St H0 (Prt.mp bm [] :: Prt.one bi (.cells #[.bool false, .int .i64 t.node, .int .i64 n, .int .u64 s, .int .i64 0] ty_trace_Item (0, 0)) :: trB tb c t.node (IntKind.u64.wrap (t.num + 1)) t.found 1 (.slice (some ⟨bi, 0, none⟩) 1 1) (smV t x) t.opn (.slice x.tp t.todo.length x.tc) t.sent t.wait x.T :: Prt.row 5 x.ip t.items.length x.ic (cel It.cells t.items) :: smP t x :: Prt.row 1 x.tp t.todo.length x.tc (t.todo.map (Value.int .i64)) :: Prt.pure True :: Prt.one b5 (.cells #[.int .i64 n, .int .u64 s] ty_api_ID (0, 0)) :: M) J4 := k4
        refine k4.put (i := 2) rfl (show 27 < 32 by decide) fun J5 k5 => ?_
        have k5 : St H0 (Prt.mp bm [] :: Prt.one bi (.cells #[.bool false, .int .i64 t.node, .int .i64 n, .int .u64 s, .int .i64 0] ty_trace_Item (0, 0)) :: trB tb c t.node (IntKind.u64.wrap (t.num + 1)) t.found 1 (.slice (some ⟨bi, 0, none⟩) 1 1) (.map (some bm)) t.opn (.slice x.tp t.todo.length x.tc) t.sent t.wait x.T :: Prt.row 5 x.ip t.items.length x.ic (cel It.cells t.items) :: smP t x :: Prt.row 1 x.tp t.todo.length x.tc (t.todo.map (Value.int .i64)) :: Prt.pure True :: Prt.one b5 (.cells #[.int .i64 n, .int .u64 s] ty_api_ID (0, 0)) :: M) J5 := k5
        refine k5.put (i := 2) rfl (show 28 < 32 by decide) fun J6 k6 => ?_
        have k6 : St H0 (Prt.mp bm [] :: Prt.one bi (.cells #[.bool false, .int .i64 t.node, .int .i64 n, .int .u64 s, .int .i64 0] ty_trace_Item (0, 0)) :: trB tb c t.node (IntKind.u64.wrap (t.num + 1)) t.found 1 (.slice (some ⟨bi, 0, none⟩) 1 1) (.map (some bm)) 0 (.slice x.tp t.todo.length x.tc) t.sent t.wait x.T :: Prt.row 5 x.ip t.items.length x.ic (cel It.cells t.items) :: smP t x :: Prt.row 1 x.tp t.todo.length x.tc (t.todo.map (Value.int .i64)) :: Prt.pure True :: Prt.one b5 (.cells #[.int .i64 n, .int .u64 s] ty_api_ID (0, 0)) :: M) J6 := k6
        refine k6.put (i := 2) rfl (show 29 < 32 by decide) fun J7 k7 => ?_
        have k7 : St H0 (Prt.mp bm [] :: Prt.one bi (.cells #[.bool false, .int .i64 t.node, .int .i64 n, .int .u64 s, .int .i64 0] ty_trace_Item (0, 0)) :: trB tb c t.node (IntKind.u64.wrap (t.num + 1)) t.found 1 (.slice (some ⟨bi, 0, none⟩) 1 1) (.map (some bm)) 0 (.slice none 0 0) t.sent t.wait x.T :: Prt.row 5 x.ip t.items.length x.ic (cel It.cells t.items) :: smP t x :: Prt.row 1 x.tp t.todo.length x.tc (t.todo.map (Value.int .i64)) :: Prt.pure True :: Prt.one b5 (.cells #[.int .i64 n, .int .u64 s] ty_api_ID (0, 0)) :: M) J7 := k7
        exact hfin bi bm _ k7.flip
      · refine k2.put (i := 1) rfl (show 26 < 32 by decide) fun J3 k3 => ?_
        have k3 : St H0 (Prt.one bi (.cells #[.bool false, .int .i64 t.node, .int .i64 n, .int .u64 s, .int .i64 0] ty_trace_Item (0, 0)) :: trB tb c t.node (IntKind.u64.wrap (t.num + 1)) t.found 1 (.slice (some ⟨bi, 0, none⟩) 1 1) (smV t x) t.opn (.slice x.tp t.todo.length x.tc) t.sent t.wait x.T :: Prt.row 5 x.ip t.items.length x.ic (cel It.cells t.items) :: smP t x :: Prt.row 1 x.tp t.todo.length x.tc (t.todo.map (Value.int .i64)) :: Prt.pure True :: Prt.one b5 (.cells #[.int .i64 n, .int .u64 s] ty_api_ID (0, 0)) :: M) J3 := k3
        intro bm hbm
        have k4 := k3.mpNew hbm
        refine k4.put (i := 2) rfl (show 27 < 32 by decide) fun J5 k5 => ?_
        have k5 : St H0 (Prt.mp bm [] :: Prt.one bi (.cells #[.bool false, .int .i64 t.node, .int .i64 n, .int .u64 s, .int .i64 0] ty_trace_Item (0, 0)) :: trB tb c t.node (IntKind.u64.wrap (t.num + 1)) t.found 1 (.slice (some ⟨bi, 0, none⟩) 1 1) (.map (some bm)) t.opn (.slice x.tp t.todo.length x.tc) t.sent t.wait x.T :: Prt.row 5 x.ip t.items.length x.ic (cel It.cells t.items) :: smP t x :: Prt.row 1 x.tp t.todo.length x.tc (t.todo.map (Value.int .i64)) :: Prt.pure True :: Prt.one b5 (.cells #[.int .i64 n, .int .u64 s] ty_api_ID (0, 0)) :: M) J5 := k5
        refine k5.put (i := 2) rfl (show 28 < 32 by decide) fun J6 k6 => ?_
        have k6 : St H0 (Prt.mp bm [] :: Prt.one bi (.cells #[.bool false, .int .i64 t.node, .int .i64 n, .int .u64 s, .int .i64 0] ty_trace_Item (0, 0)) :: trB tb c t.node (IntKind.u64.wrap (t.num + 1)) t.found 1 (.slice (some ⟨bi, 0, none⟩) 1 1) (.map (some bm)) 0 (.slice x.tp t.todo.length x.tc) t.sent t.wait x.T :: Prt.row 5 x.ip t.items.length x.ic (cel It.cells t.items) :: smP t x :: Prt.row 1 x.tp t.todo.length x.tc (t.todo.map (Value.int .i64)) :: Prt.pure True :: Prt.one b5 (.cells #[.int .i64 n, .int .u64 s] ty_api_ID (0, 0)) :: M) J6 := k6
        refine k6.put (i := 2) rfl (show 29 < 32 by decide) fun J7 k7 => ?_
        have k7 : St H0 (Prt.mp bm [] :: Prt.one bi (.cells #[.bool false, .int .i64 t.node, .int .i64 n, .int .u64 s, .int .i64 0] ty_trace_Item (0, 0)) :: trB tb c t.node (IntKind.u64.wrap (t.num + 1)) t.found 1 (.slice (some ⟨bi, 0, none⟩) 1 1) (.map (some bm)) 0 (.slice none 0 0) t.sent t.wait x.T :: Prt.row 5 x.ip t.items.length x.ic (cel It.cells t.items) :: smP t x :: Prt.row 1 x.tp t.todo.length x.tc (t.todo.map (Value.int .i64)) :: Prt.pure True :: Prt.one b5 (.cells #[.int .i64 n, .int .u64 s] ty_api_ID (0, 0)) :: M) J7 := k7
        exact hfin bi bm _ k7.flip
  · intro bm hbm
    have k1 := k0.mpNew hbm
    refine ⟨ldI_of (k1.cell (i := 6) rfl rfl) (ldI_of (k1.cell (i := 6) rfl rfl) rfl), ldI_of (k1.cell (i := 1) rfl rfl) rfl, ?_, ?_⟩
    · intro bi hbi
      have k2 := k1.alloc (o := .cells #[.bool false, .int .i64 t.node, .int .i64 n, .int .u64 s, .int .i64 0] ty_trace_Item) hbi
      refine k2.put (i := 2) rfl (show 25 < 32 by decide) fun J3 k3 => ?_
      have k3 : St H0 (Prt.one bi (.cells #[.bool false, .int .i64 t.node, .int .i64 n, .int .u64 s, .int .i64 0] ty_trace_Item (0, 0)) :: Prt.mp bm [] :: trB tb c t.node (IntKind.u64.wrap (t.num + 1)) t.found 1 (.slice x.ip t.items.length x.ic) (smV t x) t.opn (.slice x.tp t.todo.length x.tc) t.sent t.wait x.T :: Prt.row 5 x.ip t.items.length x.ic (cel It.cells t.items) :: smP t x :: Prt.row 1 x.tp t.todo.length x.tc (t.todo.map (Value.int .i64)) :: Prt.pure True :: Prt.one b5 (.cells #[.int .i64 n, .int .u64 s] ty_api_ID (0, 0)) :: M) J3 := k3
      refine k3.put (i := 2) rfl (show 26 < 32 by decide) fun J4 k4 => ?_
      have k4 : St H0 (Prt.one bi (.cells #[.bool false, .int .i64 t.node, .int .i64 n, .int .u64 s, .int .i64 0] ty_trace_Item (0, 0)) :: Prt.mp bm [] :: trB tb c t.node (IntKind.u64.wrap (t.num + 1)) t.found 1 (.slice (some ⟨bi, 0, none⟩) 1 1) (smV t x) t.opn (.slice x.tp t.todo.length x.tc) t.sent t.wait x.T :: Prt.row 5 x.ip t.items.length x.ic (cel It.cells t.items) :: smP t x :: Prt.row 1 x.tp t.todo.length x.tc (t.todo.map (Value.int .i64)) :: Prt.pure True :: Prt.one b5 (.cells #[.int .i64 n, .int .u64 s] ty_api_ID (0, 0)) :: M) J4 := k4
      refine k4.put (i := 2) rfl (show 27 < 32 by decide) fun J5 k5 => ?_
      have k5 : St H0 (Prt.one bi (.cells #[.bool false, .int .i64 t.node, .int .i64 n, .int .u64 s, .int .i64 0] ty_trace_Item (0, 0)) :: Prt.mp bm [] :: trB tb c t.node (IntKind.u64.wrap (t.num + 1)) t.found 1 (.slice (some ⟨bi, 0, none⟩) 1 1) (.map (some bm)) t.opn (.slice x.tp t.todo.length x.tc) t.sent t.wait x.T :: Prt.row 5 x.ip t.items.length x.ic (cel It.cells t.items) :: smP t x :: Prt.row 1 x.tp t.todo.length x.tc (t.todo.map (Value.int .i64)) :: Prt.pure True :: Prt.one b5 (.cells #[.int .i64 n, .int .u64 s] ty_api_ID (0, 0)) :: M) J5 := k5
      refine k5.put (i := 2) rfl (show 28 < 32 by decide) fun J6 k6 => ?_
      have k6 : St H0 (Prt.one bi (.cells #[.bool false, .int .i64 t.node, .int .i64 n, .int .u64 s, .int .i64 0] ty_trace_Item (0, 0)) :: Prt.mp bm [] :: trB tb c t.node (IntKind.u64.wrap (t.num + 1)) t.found 1 (.slice (some ⟨bi, 0, none⟩) 1 1) (.map (some bm)) 0 (.slice x.tp t.todo.length x.tc) t.sent t.wait x.T :: Prt.row 5 x.ip t.items.length x.ic (cel It.cells t.items) :: smP t x :: Prt.row 1 x.tp t.todo.length x.tc (t.todo.map (Value.int .i64)) :: Prt.pure True :: Prt.one b5 (.cells #[.int .i64 n, .int .u64 s] ty_api_ID (0, 0)) :: M) J6 := k6
      refine k6.put (i := 2) rfl (show 29 < 32 by decide) fun J7 k7 => ?_
      have k7 : St H0 (Prt.one bi (.cells #[.bool false, .int .i64 t.node, .int .i64 n, .int .u64 s, .int .i64 0] ty_trace_Item (0, 0)) :: Prt.mp bm [] :: trB tb c t.node (IntKind.u64.wrap (t.num + 1)) t.found 1 (.slice (some ⟨bi, 0, none⟩) 1 1) (.map (some bm)) 0 (.slice none 0 0) t.sent t.wait x.T :: Prt.row 5 x.ip t.items.length x.ic (cel It.cells t.items) :: smP t x :: Prt.row 1 x.tp t.todo.length x.tc (t.todo.map (Value.int .i64)) :: Prt.pure True :: Prt.one b5 (.cells #[.int .i64 n, .int .u64 s] ty_api_ID (0, 0)) :: M) J7 := k7
      exact hfin bi bm _ k7
    · refine k1.put (i := 1) rfl (show 25 < 32 by decide) fun J2 k2 => ?_
      have k2 : St H0 (Prt.mp bm [] :: trB tb c t.node (IntKind.u64.wrap (t.num + 1)) t.found 1 (.slice x.ip t.items.length x.ic) (smV t x) t.opn (.slice x.tp t.todo.length x.tc) t.sent t.wait x.T :: Prt.row 5 x.ip t.items.length x.ic (cel It.cells t.items) :: smP t x :: Prt.row 1 x.tp t.todo.length x.tc (t.todo.map (Value.int .i64)) :: Prt.pure True :: Prt.one b5 (.cells #[.int .i64 n, .int .u64 s] ty_api_ID (0, 0)) :: M) J2 := k2
      refine ⟨ldI_of (k2.cell (i := 6) rfl rfl) (ldI_of (k2.cell (i := 6) rfl rfl) rfl), ?_⟩
      intro bi hbi
      have k4 := k2.alloc (o := .cells #[.bool false, .int .i64 t.node, .int .i64 n, .int .u64 s, .int .i64 0] ty_trace_Item) hbi
      refine k4.put (i := 2) rfl (show 26 < 32 by decide) fun J5 k5 => ?_
      have k5 : St H0 (Prt.one bi (.cells #[.bool false, .int .i64 t.node, .int .i64 n, .int .u64 s, .int .i64 0] ty_trace_Item (0, 0)) :: Prt.mp bm [] :: trB tb c t.node (IntKind.u64.wrap (t.num + 1)) t.found 1 (.slice (some ⟨bi, 0, none⟩) 1 1) (smV t x) t.opn (.slice x.tp t.todo.length x.tc) t.sent t.wait x.T :: Prt.row 5 x.ip t.items.length x.ic (cel It.cells t.items) :: smP t x :: Prt.row 1 x.tp t.todo.length x.tc (t.todo.map (Value.int .i64)) :: Prt.pure True :: Prt.one b5 (.cells #[.int .i64 n, .int .u64 s] ty_api_ID (0, 0)) :: M) J5 := k5
      refine k5.put (i := 2) rfl (show 27 < 32 by decide) fun J6 k6 => ?_
      have k6 : St H0 (Prt.one bi (.cells #[.bool false, .int .i64 t.node, .int .i64 n, .int .u64 s, .int .i64 0] ty_trace_Item (0, 0)) :: Prt.mp bm [] :: trB tb c t.node (IntKind.u64.wrap (t.num + 1)) t.found 1 (.slice (some ⟨bi, 0, none⟩) 1 1) (.map (some bm)) t.opn (.slice x.tp t.todo.length x.tc) t.sent t.wait x.T :: Prt.row 5 x.ip t.items.length x.ic (cel It.cells t.items) :: smP t x :: Prt.row 1 x.tp t.todo.length x.tc (t.todo.map (Value.int .i64)) :: Prt.pure True :: Prt.one b5 (.cells #[.int .i64 n, .int .u64 s] ty_api_ID (0, 0)) :: M) J6 := k6
      refine k6.put (i := 2) rfl (show 28 < 32 by decide) fun J7 k7 => ?_
      have k7 : St H0 (Prt.one bi (.cells #[.bool false, .int .i64 t.node, .int .i64 n, .int .u64 s, .int .i64 0] ty_trace_Item (0, 0)) :: Prt.mp bm [] :: trB tb c t.node (IntKind.u64.wrap (t.num + 1)) t.found 1 (.slice (some ⟨bi, 0, none⟩) 1 1) (.map (some bm)) 0 (.slice x.tp t.todo.length x.tc) t.sent t.wait x.T :: Prt.row 5 x.ip t.items.length x.ic (cel It.cells t.items) :: smP t x :: Prt.row 1 x.tp t.todo.length x.tc (t.todo.map (Value.int .i64)) :: Prt.pure True :: Prt.one b5 (.cells #[.int .i64 n, .int .u64 s] ty_api_ID (0, 0)) :: M) J7 := k7
      refine k7.put (i := 2) rfl (show 29 < 32 by decide) fun J8 k8 => ?_
      have k8 : St H0 (Prt.one bi (.cells #[.bool false, .int .i64 t.node, .int .i64 n, .int .u64 s, .int .i64 0] ty_trace_Item (0, 0)) :: Prt.mp bm [] :: trB tb c t.node (IntKind.u64.wrap (t.num + 1)) t.found 1 (.slice (some ⟨bi, 0, none⟩) 1 1) (.map (some bm)) 0 (.slice none 0 0) t.sent t.wait x.T :: Prt.row 5 x.ip t.items.length x.ic (cel It.cells t.items) :: smP t x :: Prt.row 1 x.tp t.todo.length x.tc (t.todo.map (Value.int .i64)) :: Prt.pure True :: Prt.one b5 (.cells #[.int .i64 n, .int .u64 s] ty_api_ID (0, 0)) :: M) J8 := k8
      exact hfin bi bm _ k8
  · refine k0.put (i := 0) rfl (show 25 < 32 by decide) fun J1 k1 => ?_
    have k1 : St H0 (trB tb c t.node (IntKind.u64.wrap (t.num + 1)) t.found 1 (.slice x.ip t.items.length x.ic) (smV t x) t.opn (.slice x.tp t.todo.length x.tc) t.sent t.wait x.T :: Prt.row 5 x.ip t.items.length x.ic (cel It.cells t.items) :: smP t x :: Prt.row 1 x.tp t.todo.length x.tc (t.todo.map (Value.int .i64)) :: Prt.pure True :: Prt.one b5 (.cells #[.int .i64 n, .int .u64 s] ty_api_ID (0, 0)) :: M) J1 := k1
    refine ⟨ldI_of (k1.cell (i := 5) rfl rfl) (ldI_of (k1.cell (i := 5) rfl rfl) rfl), ?_, ?_⟩
    · intro bi hbi
      have k2 := k1.alloc (o := .cells #[.bool false, .int .i64 t.node, .int .i64 n, .int .u64 s, .int .i64 0] ty_trace_Item) hbi
      refine ⟨?_, ?_⟩
      · intro bm hbm
        have k3 := k2.mpNew hbm
        refine k3.put (i := 2) rfl (show 26 < 32 by decide) fun J4 k4 => ?_
        have k4 : St H0 (Prt.mp bm [] :: Prt.one bi (.cells #[.bool false, .int .i64 t.node, .int .i64 n, .int .u64 s, .int .i64 0] ty_trace_Item (0, 0)) :: trB tb c t.node (IntKind.u64.wrap (t.num + 1)) t.found 1 (.slice (some ⟨bi, 0, none⟩) 1 1) (smV t x) t.opn (.slice x.tp t.todo.length x.tc) t.sent t.wait x.T :: Prt.row 5 x.ip t.items.length x.ic (cel It.cells t.items) :: smP t x :: Prt.row 1 x.tp t.todo.length x.tc (t.todo.map (Value.int .i64)) :: Prt.pure True :: Prt.one b5 (.cells #[.int .i64 n, .int .u64 s] ty_api_ID (0, 0)) :: M) J4 := k4
        refine k4.put (i := 2) rfl (show 27 < 32 by decide) fun J5 k5 => ?_
        have k5 : St H0 (Prt.mp bm [] :: Prt.one bi (.cells #[.bool false, .int .i64 t.node, .int .i64 n, .int .u64 s, .int .i64 0] ty_trace_Item (0, 0)) :: trB tb c t.node (IntKind.u64.wrap (t.num + 1)) t.found 1 (.slice (some ⟨bi, 0, none⟩) 1 1) (.map (some bm)) t.opn (.slice x.tp t.todo.length x.tc) t.sent t.wait x.T :: Prt.row 5 x.ip t.items.length x.ic (cel It.cells t.items) :: smP t x :: Prt.row 1 x.tp t.todo.length x.tc (t.todo.map (Value.int .i64)) :: Prt.pure True :: Prt.one b5 (.cells #[.int .i64 n, .int .u64 s] ty_api_ID (0, 0)) :: M) J5 := k5
        refine k5.put (i := 2) rfl (show 28 < 32 by decide) fun J6 k6 => ?_
        have k6 : St H0 (Prt.mp bm [] :: Prt.one bi (.cells #[.bool false, .int .i64 t.node, .int .i64 n, .int .u64 s, .int .i64 0] ty_trace_Item (0, 0)) :: trB tb c t.node (IntKind.u64.wrap (t.num + 1)) t.found 1 (.slice (some ⟨bi, 0, none⟩) 1 1) (.map (some bm)) 0 (.slice x.tp t.todo.length x.tc) t.sent t.wait x.T :: Prt.row 5 x.ip t.items.length x.ic (cel It.cells t.items) :: smP t x :: Prt.row 1 x.tp t.todo.length x.tc (t.todo.map (Value.int .i64)) :: Prt.pure True :: Prt.one b5 (.cells #[.int .i64 n, .int .u64 s] ty_api_ID (0, 0)) :: M) J6 := k6
        refine k6.put (i := 2) rfl (show 29 < 32 by decide) fun J7 k7 => ?_
        have k7 : St H0 (Prt.mp bm [] :: Prt.one bi (.cells #[.bool false, .int .i64 t.node, .int .i64 n, .int .u64 s, .int .i64 0] ty_trace_Item (0, 0)) :: trB tb c t.node (IntKind.u64.wrap (t.num + 1)) t.found 1 (.slice (some ⟨bi, 0, none⟩) 1 1) (.map (some bm)) 0 (.slice none 0 0) t.sent t.wait x.T :: Prt.row 5 x.ip t.items.length x.ic (cel It.cells t.items) :: smP t x :: Prt.row 1 x.tp t.todo.length x.tc (t.todo.map (Value.int .i64)) :: Prt.pure True :: Prt.one b5 (.cells #[.int .i64 n, .int .u64 s] ty_api_ID (0, 0)) :: M) J7 := k7
        exact hfin bi bm _ k7.flip
      · refine k2.put (i := 1) rfl (show 26 < 32 by decide) fun J3 k3 => ?_
        have k3 : St H0 (Prt.one bi (.cells #[.bool false, .int .i64 t.node, .int .i64 n, .int .u64 s, .int .i64 0] ty_trace_Item (0, 0)) :: trB tb c t.node (IntKind.u64.wrap (t.num + 1)) t.found 1 (.slice (some ⟨bi, 0, none⟩) 1 1) (smV t x) t.opn (.slice x.tp t.todo.length x.tc) t.sent t.wait x.T :: Prt.row 5 x.ip t.items.length x.ic (cel It.cells t.items) :: smP t x :: Prt.row 1 x.tp t.todo.length x.tc (t.todo.map (Value.int .i64)) :: Prt.pure True :: Prt.one b5 (.cells #[.int .i64 n, .int .u64 s] ty_api_ID (0, 0)) :: M) J3 := k3
        intro bm hbm
        have k4 := k3.mpNew hbm
        refine k4.put (i := 2) rfl (show 27 < 32 by decide) fun J5 k5 => ?_
        have k5 : St H0 (Prt.mp bm [] :: Prt.one bi (.cells #[.bool false, .int .i64 t.node, .int .i64 n, .int .u64 s, .int .i64 0] ty_trace_Item (0, 0)) :: trB tb c t.node (IntKind.u64.wrap (t.num + 1)) t.found 1 (.slice (some ⟨bi, 0, none⟩) 1 1) (.map (some bm)) t.opn (.slice x.tp t.todo.length x.tc) t.sent t.wait x.T :: Prt.row 5 x.ip t.items.length x.ic (cel It.cells t.items) :: smP t x :: Prt.row 1 x.tp t.todo.length x.tc (t.todo.map (Value.int .i64)) :: Prt.pure True :: Prt.one b5 (.cells #[.int .i64 n, .int .u64 s] ty_api_ID (0, 0)) :: M) J5 := k5
        refine k5.put (i := 2) rfl (show 28 < 32 by decide) fun J6 k6 => ?_
        have k6 : St H0 (Prt.mp bm [] :: Prt.one bi (.cells #[.bool false, .int .i64 t.node, .int .i64 n, .int .u64 s, .int .i64 0] ty_trace_Item (0, 0)) :: trB tb c t.node (IntKind.u64.wrap (t.num + 1)) t.found 1 (.slice (some ⟨bi, 0, none⟩) 1 1) (.map (some bm)) 0 (.slice x.tp t.todo.length x.tc) t.sent t.wait x.T :: Prt.row 5 x.ip t.items.length x.ic (cel It.cells t.items) :: smP t x :: Prt.row 1 x.tp t.todo.length x.tc (t.todo.map (Value.int .i64)) :: Prt.pure True :: Prt.one b5 (.cells #[.int .i64 n, .int .u64 s] ty_api_ID (0, 0)) :: M) J6 := k6
        refine k6.put (i := 2) rfl (show 29 < 32 by decide) fun J7 k7 => ?_
        have k7 : St H0 (Prt.mp bm [] :: Prt.one bi (.cells #[.bool false, .int .i64 t.node, .int .i64 n, .int .u64 s, .int .i64 0] ty_trace_Item (0, 0)) :: trB tb c t.node (IntKind.u64.wrap (t.num + 1)) t.found 1 (.slice (some ⟨bi, 0, none⟩) 1 1) (.map (some bm)) 0 (.slice none 0 0) t.sent t.wait x.T :: Prt.row 5 x.ip t.items.length x.ic (cel It.cells t.items) :: smP t x :: Prt.row 1 x.tp t.todo.length x.tc (t.todo.map (Value.int .i64)) :: Prt.pure True :: Prt.one b5 (.cells #[.int .i64 n, .int .u64 s] ty_api_ID (0, 0)) :: M) J7 := k7
        exact hfin bi bm _ k7.flip
    · intro bm hbm
      have k2 := k1.mpNew hbm
      refine ⟨ldI_of (k2.cell (i := 6) rfl rfl) (ldI_of (k2.cell (i := 6) rfl rfl) rfl), ?_⟩
      intro bi hbi
      have k4 := k2.alloc (o := .cells #[.bool false, .int .i64 t.node, .int .i64 n, .int .u64 s, .int .i64 0] ty_trace_Item) hbi
      refine k4.put (i := 2) rfl (show 26 < 32 by decide) fun J5 k5 => ?_
      have k5 : St H0 (Prt.one bi (.cells #[.bool false, .int .i64 t.node, .int .i64 n, .int .u64 s, .int .i64 0] ty_trace_Item (0, 0)) :: Prt.mp bm [] :: trB tb c t.node (IntKind.u64.wrap (t.num + 1)) t.found 1 (.slice (some ⟨bi, 0, none⟩) 1 1) (smV t x) t.opn (.slice x.tp t.todo.length x.tc) t.sent t.wait x.T :: Prt.row 5 x.ip t.items.length x.ic (cel It.cells t.items) :: smP t x :: Prt.row 1 x.tp t.todo.length x.tc (t.todo.map (Value.int .i64)) :: Prt.pure True :: Prt.one b5 (.cells #[.int .i64 n, .int .u64 s] ty_api_ID (0, 0)) :: M) J5 := k5
      refine k5.put (i := 2) rfl (show 27 < 32 by decide) fun J6 k6 => ?_
      have k6 : St H0 (Prt.one bi (.cells #[.bool false, .int .i64 t.node, .int .i64 n, .int .u64 s, .int .i64 0] ty_trace_Item (0, 0)) :: Prt.mp bm [] :: trB tb c t.node (IntKind.u64.wrap (t.num + 1)) t.found 1 (.slice (some ⟨bi, 0, none⟩) 1 1) (.map (some bm)) t.opn (.slice x.tp t.todo.length x.tc) t.sent t.wait x.T :: Prt.row 5 x.ip t.items.length x.ic (cel It.cells t.items) :: smP t x :: Prt.row 1 x.tp t.todo.length x.tc (t.todo.map (Value.int .i64)) :: Prt.pure True :: Prt.one b5 (.cells #[.int .i64 n, .int .u64 s] ty_api_ID (0, 0)) :: M) J6 := k6
      refine k6.put (i := 2) rfl (show 28 < 32 by decide) fun J7 k7 => ?_
      have k7 : St H0 (Prt.one bi (.cells #[.bool false, .int .i64 t.node, .int .i64 n, .int .u64 s, .int .i64 0] ty_trace_Item (0, 0)) :: Prt.mp bm [] :: trB tb c t.node (IntKind.u64.wrap (t.num + 1)) t.found 1 (.slice (some ⟨bi, 0, none⟩) 1 1) (.map (some bm)) 0 (.slice x.tp t.todo.length x.tc) t.sent t.wait x.T :: Prt.row 5 x.ip t.items.length x.ic (cel It.cells t.items) :: smP t x :: Prt.row 1 x.tp t.todo.length x.tc (t.todo.map (Value.int .i64)) :: Prt.pure True :: Prt.one b5 (.cells #[.int .i64 n, .int .u64 s] ty_api_ID (0, 0)) :: M) J7 := k7
      refine k7.put (i := 2) rfl (show 29 < 32 by decide) fun J8 k8 => ?_
      have k8 : St H0 (Prt.one bi (.cells #[.bool false, .int .i64 t.node, .int .i64 n, .int .u64 s, .int .i64 0] ty_trace_Item (0, 0)) :: Prt.mp bm [] :: trB tb c t.node (IntKind.u64.wrap (t.num + 1)) t.found 1 (.slice (some ⟨bi, 0, none⟩) 1 1) (.map (some bm)) 0 (.slice none 0 0) t.sent t.wait x.T :: Prt.row 5 x.ip t.items.length x.ic (cel It.cells t.items) :: smP t x :: Prt.row 1 x.tp t.todo.length x.tc (t.todo.map (Value.int .i64)) :: Prt.pure True :: Prt.one b5 (.cells #[.int .i64 n, .int .u64 s] ty_api_ID (0, 0)) :: M) J8 := k8
      exact hfin bi bm _ k8
end
end Go.Proofs.Ytknejebggegfjaa

namespace Go.Proofs.Ytknejebggegfjaa
set_option linter.unusedSimpArgs false
set_option linter.unusedVariables false
set_option maxRecDepth 20000
open Go
/-- A raw config: the same 22 numbers. -/
def Cf.raw (r : Cf) : Value := .agg #[.int .i64 r.a0, .int .i64 r.a1, .int .i64 r.a2, .int .i64 r.a3, .int .i64 r.a4, .int .i64 r.a5, .int .i64 r.a6, .int .i64 r.a7, .int .i64 r.a8, .int .i64 r.a9, .int .i64 r.a10, .int .i64 r.a11, .int .i64 r.a12, .int .i64 r.a13, .int .i64 r.a14, .int .i64 r.a15, .int .i64 r.a16, .int .i64 r.a17, .int .i64 r.a18, .int .i64 r.a19, .int .u64 r.a20, .int .u64 r.a21]
def cUnit (r : Cf) : Int := IntKind.u64.wrap (IntKind.i64.wrap (4 + pick r.a11 20))
def cWait (r : Cf) : Int := IntKind.u64.wrap (IntKind.i64.wrap (1 + pick r.a14 30))
def cSusp (r : Cf) : Int := IntKind.i64.wrap (1 + pick r.a17 4)
/-- What is made of it. -/
def confOf (r : Cf) : Cf where
  a0 := IntKind.i64.wrap (2 + pick r.a0 3)
  a1 := IntKind.i64.wrap (1 + pick r.a1 3)
  a2 := IntKind.i64.wrap (2 + pick r.a2 4)
  a3 := IntKind.i64.wrap (16 * (IntKind.i64.wrap (1 + pick r.a3 8)))
  a4 := IntKind.i64.wrap (2 + pick r.a4 14)
  a5 := IntKind.i64.wrap (2 + pick r.a5 10)
  a6 := IntKind.i64.wrap (1 + pick r.a6 6)
  a7 := IntKind.i64.wrap (1 + pick r.a7 4)
  a8 := IntKind.i64.wrap (1 + pick r.a8 8)
  a9 := IntKind.i64.wrap (4 + pick r.a9 60)
  a10 := IntKind.i64.wrap (1 + pick r.a10 4)
  a11 := cUnit r
  a12 := IntKind.u64.wrap (pick r.a12 (IntKind.i64.wrap (Int.tdiv (IntKind.i64.wrap (cUnit r)) 2)))
  a13 := IntKind.u64.wrap (cUnit r * (IntKind.u64.wrap (IntKind.i64.wrap (40 + pick r.a13 200))))
  a14 := cWait r
  a15 := IntKind.u64.wrap (cWait r + (IntKind.u64.wrap (pick r.a15 60)))
  a16 := IntKind.u64.wrap (cUnit r * (IntKind.u64.wrap (IntKind.i64.wrap (1 + pick r.a16 60))))
  a17 := cSusp r
  a18 := IntKind.i64.wrap ((IntKind.i64.wrap (cSusp r + 1)) + pick r.a18 4)
  a19 := IntKind.i64.wrap (1 + pick r.a19 12)
  a20 := Int.tmod r.a20 1000
  a21 := Int.tmod r.a21 1000
structure Cf.good (c : Cf) : Prop where
  a0 : 2 ≤ c.a0 ∧ c.a0 ≤ 4
  a1 : 1 ≤ c.a1 ∧ c.a1 ≤ 4
  a2 : 1 ≤ c.a2 ∧ c.a2 ≤ 8
  a3 : 1 ≤ c.a3 ∧ c.a3 ≤ 4096 ∧ Int.tmod c.a3 16 = 0
  a4 : 1 ≤ c.a4 ∧ c.a4 ≤ 64
  a5 : 1 ≤ c.a5 ∧ c.a5 ≤ 64
  a6 : 1 ≤ c.a6 ∧ c.a6 ≤ 16
  a7 : 1 ≤ c.a7 ∧ c.a7 ≤ 8
  a8 : 1 ≤ c.a8 ∧ c.a8 ≤ 64
  a9 : 1 ≤ c.a9 ∧ c.a9 ≤ 256
  a10 : 1 ≤ c.a10 ∧ c.a10 ≤ 16
  a11 : 4 ≤ c.a11 ∧ c.a11 ≤ 23
  a12 : 0 ≤ c.a12 ∧ c.a12 < c.a11
  a13 : 0 ≤ c.a13 ∧ c.a13 ≤ 5497 ∧ 16 * c.a11 ≤ c.a13
  a14 : 1 ≤ c.a14 ∧ c.a14 ≤ 30
  a15 : c.a14 ≤ c.a15 ∧ c.a15 ≤ 89
  a16 : 1 ≤ c.a16 ∧ c.a16 ≤ 1380
  a17 : 1 ≤ c.a17 ∧ c.a17 ≤ 4
  a18 : c.a17 < c.a18 ∧ c.a18 < 40
  a19 : 1 ≤ c.a19 ∧ c.a19 ≤ 64
  a20 : 0 ≤ c.a20 ∧ c.a20 < 1000
  a21 : 0 ≤ c.a21 ∧ c.a21 < 1000
theorem cUnit_is (r : Cf) : 4 ≤ cUnit r ∧ cUnit r ≤ 23 := by
  have h := @pick_lt r.a11 20 (by decide)
  unfold cUnit
  rw [wrap_i64 (by omega) (by omega), wrap_u64' (by omega) (by omega)]
  omega
theorem cWait_is (r : Cf) : 1 ≤ cWait r ∧ cWait r ≤ 30 := by
  have h := @pick_lt r.a14 30 (by decide)
  unfold cWait
  rw [wrap_i64 (by omega) (by omega), wrap_u64' (by omega) (by omega)]
  omega
theorem cSusp_is (r : Cf) : 1 ≤ cSusp r ∧ cSusp r ≤ 4 := by
  have h := @pick_lt r.a17 4 (by decide)
  unfold cSusp
  rw [wrap_i64 (by omega) (by omega)]
  omega
theorem cHalf_is (r : Cf) : 2 ≤ IntKind.i64.wrap (Int.tdiv (IntKind.i64.wrap (cUnit r)) 2) ∧ IntKind.i64.wrap (Int.tdiv (IntKind.i64.wrap (cUnit r)) 2) ≤ 11 := by
  have h := cUnit_is r
  rw [wrap_i64 (n := cUnit r) (by omega) (by omega), Int.tdiv_eq_ediv_of_nonneg (by omega)]
  rw [wrap_i64 (by omega) (by omega)]
  omega
theorem conf_good {r : Cf} (h20 : 0 ≤ r.a20) (h21 : 0 ≤ r.a21) : (confOf r).good := by
  have hu := cUnit_is r
  have hw := cWait_is r
  have hs := cSusp_is r
  have hh := cHalf_is r
  refine ⟨?_, ?_, ?_, ?_, ?_, ?_, ?_, ?_, ?_, ?_, ?_, hu, ?_, ?_, hw, ?_, ?_, hs, ?_, ?_, ?_, ?_⟩
  · have h := @pick_lt r.a0 3 (by decide)
    simp only [confOf]
    rw [wrap_i64 (by omega) (by omega)]
    omega
  · have h := @pick_lt r.a1 3 (by decide)
    simp only [confOf]
    rw [wrap_i64 (by omega) (by omega)]
    omega
  · have h := @pick_lt r.a2 4 (by decide)
    simp only [confOf]
    rw [wrap_i64 (by omega) (by omega)]
    omega
  · have h := @pick_lt r.a3 8 (by decide)
    simp only [confOf]
    rw [wrap_i64 (n := 1 + pick r.a3 8) (by omega) (by omega), wrap_i64 (by omega) (by omega)]
    refine ⟨by omega, by omega, ?_⟩
    rw [Int.tmod_eq_emod_of_nonneg (by omega)]
    omega
  · have h := @pick_lt r.a4 14 (by decide)
    simp only [confOf]
    rw [wrap_i64 (by omega) (by omega)]
    omega
  · have h := @pick_lt r.a5 10 (by decide)
    simp only [confOf]
    rw [wrap_i64 (by omega) (by omega)]
    omega
  · have h := @pick_lt r.a6 6 (by decide)
    simp only [confOf]
    rw [wrap_i64 (by omega) (by omega)]
    omega
  · have h := @pick_lt r.a7 4 (by decide)
    simp only [confOf]
    rw [wrap_i64 (by omega) (by omega)]
    omega
  · have h := @pick_lt r.a8 8 (by decide)
    simp only [confOf]
    rw [wrap_i64 (by omega) (by omega)]
    omega
  · have h := @pick_lt r.a9 60 (by decide)
    simp only [confOf]
    rw [wrap_i64 (by omega) (by omega)]
    omega
  · have h := @pick_lt r.a10 4 (by decide)
    simp only [confOf]
    rw [wrap_i64 (by omega) (by omega)]
    omega
  · have h := @pick_lt r.a12 _ (Int.lt_of_lt_of_le (by decide) hh.1)
    simp only [confOf]
    rw [wrap_u64' (by omega) (by omega)]
    refine ⟨h.1, ?_⟩
    have h1 := h.2
    have h2 : IntKind.i64.wrap (Int.tdiv (IntKind.i64.wrap (cUnit r)) 2) ≤ cUnit r := by
      rw [wrap_i64 (n := cUnit r) (by omega) (by omega), Int.tdiv_eq_ediv_of_nonneg (by omega)]
      rw [wrap_i64 (by omega) (by omega)]
      omega
    omega
  · have h := @pick_lt r.a13 200 (by decide)
    simp only [confOf]
    rw [wrap_i64 (n := 40 + pick r.a13 200) (by omega) (by omega), wrap_u64' (n := 40 + pick r.a13 200) (by omega) (by omega)]
    have h1 : cUnit r * (40 + pick r.a13 200) ≤ 23 * 239 := Int.mul_le_mul (by omega) (by omega) (by omega) (by decide)
    have h2 : cUnit r * 40 ≤ cUnit r * (40 + pick r.a13 200) := Int.mul_le_mul_of_nonneg_left (by omega) (by omega)
    rw [wrap_u64' (by omega) (by omega)]
    omega
  · have h := @pick_lt r.a15 60 (by decide)
    simp only [confOf]
    rw [wrap_u64' (n := pick r.a15 60) (by omega) (by omega), wrap_u64' (by omega) (by omega)]
    omega
  · have h := @pick_lt r.a16 60 (by decide)
    simp only [confOf]
    rw [wrap_i64 (n := 1 + pick r.a16 60) (by omega) (by omega), wrap_u64' (n := 1 + pick r.a16 60) (by omega) (by omega)]
    have h1 : cUnit r * (1 + pick r.a16 60) ≤ 23 * 60 := Int.mul_le_mul (by omega) (by omega) (by omega) (by decide)
    have h2 : cUnit r * 1 ≤ cUnit r * (1 + pick r.a16 60) := Int.mul_le_mul_of_nonneg_left (by omega) (by omega)
    rw [wrap_u64' (by omega) (by omega)]
    omega
  · have h := @pick_lt r.a18 4 (by decide)
    simp only [confOf]
    rw [wrap_i64 (n := cSusp r + 1) (by omega) (by omega), wrap_i64 (by omega) (by omega)]
    omega
  · have h := @pick_lt r.a19 12 (by decide)
    simp only [confOf]
    rw [wrap_i64 (by omega) (by omega)]
    omega
  · simp only [confOf]
    rw [Int.tmod_eq_emod_of_nonneg h20]
    omega
  · simp only [confOf]
    rw [Int.tmod_eq_emod_of_nonneg h21]
    omega

section
variable {H0 H : Hp} {L M N : List Prt} {i k tb : Nat} {r c : Cf} {K : Value → Hp → Prop}
theorem inC {n m : Int} (hK : K (.bool (decide (n ≥ 1) && decide (n ≤ m))) H) : hcall PR f_api_in ⟨[.int .i64 n, .int .i64 m]⟩ H K := by
  apply den_api_in
  unfold B_api_in
  by_cases h : n ≥ 1
  · rw [decide_eq_true h, Bool.true_and] at hK
    exact bif_pos h hK
  · rw [decide_eq_false h, Bool.false_and] at hK
    exact bif_neg h hK
theorem inT {n m : Int} (h : 1 ≤ n ∧ n ≤ m) (hK : K (.bool true) H) : hcall PR f_api_in ⟨[.int .i64 n, .int .i64 m]⟩ H K := inC (by rw [decide_eq_true h.1, decide_eq_true h.2]; exact hK)
theorem mayC (hg : c.good) (h : St H0 L H) (hK : ∀ H', St H0 L H' → K (.bool true) H') : hcall PR f_api_May ⟨[c.val]⟩ H K := by
  apply den_api_May
  unfold B_api_May
  intro b23 hb23
  have g := h.alloc (o := .cells #[.int .i64 c.a0, .int .i64 c.a1, .int .i64 c.a2, .int .i64 c.a3, .int .i64 c.a4, .int .i64 c.a5, .int .i64 c.a6, .int .i64 c.a7, .int .i64 c.a8, .int .i64 c.a9, .int .i64 c.a10, .int .u64 c.a11, .int .u64 c.a12, .int .u64 c.a13, .int .u64 c.a14, .int .u64 c.a15, .int .u64 c.a16, .int .i64 c.a17, .int .i64 c.a18, .int .i64 c.a19, .int .u64 c.a20, .int .u64 c.a21] ty_api_Config) hb23
  have hK := hK _ g.less
  intro R25 hR25
  have hR25 := hR25 true _ (by
    intro R28 hR28
    have hR28 := hR28 true _ (by
      intro R31 hR31
      have hR31 := hR31 true _ (by
        intro R34 hR34
        have hR34 := hR34 true _ (by
          simp only [condT]
          refine ldI_of (g.cell (i := 0) rfl rfl) (inT ⟨hg.a17.1, by have := hg.a17.2; omega⟩ ?_)
          (try simp only [asI_mk', asB_mk, asP_mk, asA_mk, asM_mk, asSl_mk, asStr_mk, tup2_mk, tup3_mk, agg1_mk, agg2_mk, agg3_mk, agg4_mk, asAggm, unCons_mk, unNil_mk, asTup_mk, extractD0, extractD1, List.toList_toArray, nilP_mk, add_mk, Nat.zero_add, Nat.add_zero, condT, condF, Bool.not_true, Bool.not_false, Option.isNone_some, Option.isNone_none])
          refine ldI_of (g.cell (i := 0) rfl rfl) (ldI_of (g.cell (i := 0) rfl rfl) (bif_pos (by have := hg.a18.1; omega) (ldI_of (g.cell (i := 0) rfl rfl) (bif_pos hg.a18.2 ?_))))
          refine ldI_of (g.cell (i := 0) rfl rfl) (inT hg.a19 ?_)
          (try simp only [asI_mk', asB_mk, asP_mk, asA_mk, asM_mk, asSl_mk, asStr_mk, tup2_mk, tup3_mk, agg1_mk, agg2_mk, agg3_mk, agg4_mk, asAggm, unCons_mk, unNil_mk, asTup_mk, extractD0, extractD1, List.toList_toArray, nilP_mk, add_mk, Nat.zero_add, Nat.add_zero, condT, condF, Bool.not_true, Bool.not_false, Option.isNone_some, Option.isNone_none])
          refine ldI_of (g.cell (i := 0) rfl rfl) (bif_pos (by have := hg.a20.2; omega) (ldI_of (g.cell (i := 0) rfl rfl) ?_))
          rw [decide_eq_true (by have := hg.a21.2; omega : c.a21 ≤ 72057594037927935)]
          exact hK)
        have e := hg.a15
        have e2 := hg.a16
        have e3 := hg.a14
        refine ldI_of (g.cell (i := 0) rfl rfl) (bif_pos (by omega) (ldI_of (g.cell (i := 0) rfl rfl) (ldI_of (g.cell (i := 0) rfl rfl) (bif_pos e.1 (ldI_of (g.cell (i := 0) rfl rfl) (bif_pos (by omega) (ldI_of (g.cell (i := 0) rfl rfl) (bif_pos (by omega) (ldI_of (g.cell (i := 0) rfl rfl) ?_)))))))))
        rw [decide_eq_true (by omega : c.a16 ≤ 4294967295)]
        exact hR34)
      have e := hg.a11
      have e2 := hg.a12
      have e3 := hg.a13
      refine ldI_of (g.cell (i := 0) rfl rfl) (bif_pos (by omega) (ldI_of (g.cell (i := 0) rfl rfl) (bif_pos (by omega) (ldI_of (g.cell (i := 0) rfl rfl) (ldI_of (g.cell (i := 0) rfl rfl) (bif_pos e2.2 (ldI_of (g.cell (i := 0) rfl rfl) (bif_pos (by omega) ?_))))))))
      refine ldI_of (g.cell (i := 0) rfl rfl) (ldI_of (g.cell (i := 0) rfl rfl) (ldI_of (g.cell (i := 0) rfl rfl) (ldI_of (g.cell (i := 0) rfl rfl) (ldI_of (g.cell (i := 0) rfl rfl) ?_))))
      have h1 : c.a13 * 1 ≤ c.a13 * (c.a11 - c.a12) := Int.mul_le_mul_of_nonneg_left (by omega) (by omega)
      have h2 : c.a13 * (c.a11 - c.a12) ≤ 5497 * 23 := Int.mul_le_mul (by omega) (by omega) (by omega) (by decide)
      rw [wrap_u64' (n := c.a11 - c.a12) (by omega) (by omega), wrap_u64' (n := c.a11 + c.a12) (by omega) (by omega), wrap_u64' (n := 8 * (c.a11 + c.a12)) (by omega) (by omega), wrap_u64' (n := c.a13 * (c.a11 - c.a12)) (by omega) (by omega)]
      rw [decide_eq_true (by omega : c.a13 * (c.a11 - c.a12) ≥ 8 * (c.a11 + c.a12))]
      exact hR31)
    refine ldI_of (g.cell (i := 0) rfl rfl) (inT hg.a4 ?_)
    (try simp only [asI_mk', asB_mk, asP_mk, asA_mk, asM_mk, asSl_mk, asStr_mk, tup2_mk, tup3_mk, agg1_mk, agg2_mk, agg3_mk, agg4_mk, asAggm, unCons_mk, unNil_mk, asTup_mk, extractD0, extractD1, List.toList_toArray, nilP_mk, add_mk, Nat.zero_add, Nat.add_zero, condT, condF, Bool.not_true, Bool.not_false, Option.isNone_some, Option.isNone_none])
    refine ldI_of (g.cell (i := 0) rfl rfl) (inT hg.a5 ?_)
    (try simp only [asI_mk', asB_mk, asP_mk, asA_mk, asM_mk, asSl_mk, asStr_mk, tup2_mk, tup3_mk, agg1_mk, agg2_mk, agg3_mk, agg4_mk, asAggm, unCons_mk, unNil_mk, asTup_mk, extractD0, extractD1, List.toList_toArray, nilP_mk, add_mk, Nat.zero_add, Nat.add_zero, condT, condF, Bool.not_true, Bool.not_false, Option.isNone_some, Option.isNone_none])
    refine ldI_of (g.cell (i := 0) rfl rfl) (inT hg.a6 ?_)
    (try simp only [asI_mk', asB_mk, asP_mk, asA_mk, asM_mk, asSl_mk, asStr_mk, tup2_mk, tup3_mk, agg1_mk, agg2_mk, agg3_mk, agg4_mk, asAggm, unCons_mk, unNil_mk, asTup_mk, extractD0, extractD1, List.toList_toArray, nilP_mk, add_mk, Nat.zero_add, Nat.add_zero, condT, condF, Bool.not_true, Bool.not_false, Option.isNone_some, Option.isNone_none])
    refine ldI_of (g.cell (i := 0) rfl rfl) (inT hg.a7 ?_)
    (try simp only [asI_mk', asB_mk, asP_mk, asA_mk, asM_mk, asSl_mk, asStr_mk, tup2_mk, tup3_mk, agg1_mk, agg2_mk, agg3_mk, agg4_mk, asAggm, unCons_mk, unNil_mk, asTup_mk, extractD0, extractD1, List.toList_toArray, nilP_mk, add_mk, Nat.zero_add, Nat.add_zero, condT, condF, Bool.not_true, Bool.not_false, Option.isNone_some, Option.isNone_none])
    refine ldI_of (g.cell (i := 0) rfl rfl) (inT hg.a8 ?_)
    (try simp only [asI_mk', asB_mk, asP_mk, asA_mk, asM_mk, asSl_mk, asStr_mk, tup2_mk, tup3_mk, agg1_mk, agg2_mk, agg3_mk, agg4_mk, asAggm, unCons_mk, unNil_mk, asTup_mk, extractD0, extractD1, List.toList_toArray, nilP_mk, add_mk, Nat.zero_add, Nat.add_zero, condT, condF, Bool.not_true, Bool.not_false, Option.isNone_some, Option.isNone_none])
    refine ldI_of (g.cell (i := 0) rfl rfl) (inT hg.a9 ?_)
    (try simp only [asI_mk', asB_mk, asP_mk, asA_mk, asM_mk, asSl_mk, asStr_mk, tup2_mk, tup3_mk, agg1_mk, agg2_mk, agg3_mk, agg4_mk, asAggm, unCons_mk, unNil_mk, asTup_mk, extractD0, extractD1, List.toList_toArray, nilP_mk, add_mk, Nat.zero_add, Nat.add_zero, condT, condF, Bool.not_true, Bool.not_false, Option.isNone_some, Option.isNone_none])
    refine ldI_of (g.cell (i := 0) rfl rfl) (inT hg.a10 ?_)
    (try simp only [asI_mk', asB_mk, asP_mk, asA_mk, asM_mk, asSl_mk, asStr_mk, tup2_mk, tup3_mk, agg1_mk, agg2_mk, agg3_mk, agg4_mk, asAggm, unCons_mk, unNil_mk, asTup_mk, extractD0, extractD1, List.toList_toArray, nilP_mk, add_mk, Nat.zero_add, Nat.add_zero, condT, condF, Bool.not_true, Bool.not_false, Option.isNone_some, Option.isNone_none])
    exact hR28)
  refine ldI_of (g.cell (i := 0) rfl rfl) (inT ⟨by have := hg.a0; omega, by have := hg.a0; omega⟩ ?_)
  (try simp only [asI_mk', asB_mk, asP_mk, asA_mk, asM_mk, asSl_mk, asStr_mk, tup2_mk, tup3_mk, agg1_mk, agg2_mk, agg3_mk, agg4_mk, asAggm, unCons_mk, unNil_mk, asTup_mk, extractD0, extractD1, List.toList_toArray, nilP_mk, add_mk, Nat.zero_add, Nat.add_zero, condT, condF, Bool.not_true, Bool.not_false, Option.isNone_some, Option.isNone_none])
  refine ldI_of (g.cell (i := 0) rfl rfl) (inT hg.a1 ?_)
  (try simp only [asI_mk', asB_mk, asP_mk, asA_mk, asM_mk, asSl_mk, asStr_mk, tup2_mk, tup3_mk, agg1_mk, agg2_mk, agg3_mk, agg4_mk, asAggm, unCons_mk, unNil_mk, asTup_mk, extractD0, extractD1, List.toList_toArray, nilP_mk, add_mk, Nat.zero_add, Nat.add_zero, condT, condF, Bool.not_true, Bool.not_false, Option.isNone_some, Option.isNone_none])
  refine ldI_of (g.cell (i := 0) rfl rfl) (inT hg.a2 ?_)
  (try simp only [asI_mk', asB_mk, asP_mk, asA_mk, asM_mk, asSl_mk, asStr_mk, tup2_mk, tup3_mk, agg1_mk, agg2_mk, agg3_mk, agg4_mk, asAggm, unCons_mk, unNil_mk, asTup_mk, extractD0, extractD1, List.toList_toArray, nilP_mk, add_mk, Nat.zero_add, Nat.add_zero, condT, condF, Bool.not_true, Bool.not_false, Option.isNone_some, Option.isNone_none])
  refine ldI_of (g.cell (i := 0) rfl rfl) (inT ⟨hg.a3.1, hg.a3.2.1⟩ ?_)
  (try simp only [asI_mk', asB_mk, asP_mk, asA_mk, asM_mk, asSl_mk, asStr_mk, tup2_mk, tup3_mk, agg1_mk, agg2_mk, agg3_mk, agg4_mk, asAggm, unCons_mk, unNil_mk, asTup_mk, extractD0, extractD1, List.toList_toArray, nilP_mk, add_mk, Nat.zero_add, Nat.add_zero, condT, condF, Bool.not_true, Bool.not_false, Option.isNone_some, Option.isNone_none])
  refine ldI_of (g.cell (i := 0) rfl rfl) ⟨by decide, ?_⟩
  rw [show ((Int.tmod c.a3 16) == 0) = true by rw [hg.a3.2.2]; rfl]
  exact hR25
theorem configC (h : St H0 L H) (hK : ∀ H', St H0 L H' → K (confOf r).val H') : hcall PR f_hand_Config ⟨[r.raw]⟩ H K := by
  apply den_hand_Config
  unfold B_hand_Config
  intro b23 hb23
  have g1 := h.alloc (o := .cells #[.int .i64 r.a0, .int .i64 r.a1, .int .i64 r.a2, .int .i64 r.a3, .int .i64 r.a4, .int .i64 r.a5, .int .i64 r.a6, .int .i64 r.a7, .int .i64 r.a8, .int .i64 r.a9, .int .i64 r.a10, .int .i64 r.a11, .int .i64 r.a12, .int .i64 r.a13, .int .i64 r.a14, .int .i64 r.a15, .int .i64 r.a16, .int .i64 r.a17, .int .i64 r.a18, .int .i64 r.a19, .int .u64 r.a20, .int .u64 r.a21] ty_hand_Raw) hb23
  intro b25 hb25
  have g2 := g1.alloc (o := .cells #[.int .i64 0, .int .i64 0, .int .i64 0, .int .i64 0, .int .i64 0, .int .i64 0, .int .i64 0, .int .i64 0, .int .i64 0, .int .i64 0, .int .i64 0, .int .u64 0, .int .u64 0, .int .u64 0, .int .u64 0, .int .u64 0, .int .u64 0, .int .i64 0, .int .i64 0, .int .i64 0, .int .u64 0, .int .u64 0] ty_api_Config) hb25
  have g2 : St H0 (Prt.one b25 (.cells #[.int .i64 0, .int .i64 0, .int .i64 0, .int .i64 0, .int .i64 0, .int .i64 0, .int .i64 0, .int .i64 0, .int .i64 0, .int .i64 0, .int .i64 0, .int .u64 0, .int .u64 0, .int .u64 0, .int .u64 0, .int .u64 0, .int .u64 0, .int .i64 0, .int .i64 0, .int .i64 0, .int .u64 0, .int .u64 0] ty_api_Config (0, 0)) :: Prt.one b23 (.cells #[.int .i64 r.a0, .int .i64 r.a1, .int .i64 r.a2, .int .i64 r.a3, .int .i64 r.a4, .int .i64 r.a5, .int .i64 r.a6, .int .i64 r.a7, .int .i64 r.a8, .int .i64 r.a9, .int .i64 r.a10, .int .i64 r.a11, .int .i64 r.a12, .int .i64 r.a13, .int .i64 r.a14, .int .i64 r.a15, .int .i64 r.a16, .int .i64 r.a17, .int .i64 r.a18, .int .i64 r.a19, .int .u64 r.a20, .int .u64 r.a21] ty_hand_Raw (0, 0)) :: L) _ := g2
  clear g1 h
  intro R27 hR27
  have hR27 : ∀ bc H', St H0 (Prt.one bc (.cells #[.int .i64 (confOf r).a0, .int .i64 (confOf r).a1, .int .i64 (confOf r).a2, .int .i64 (confOf r).a3, .int .i64 0, .int .i64 0, .int .i64 0, .int .i64 0, .int .i64 0, .int .i64 0, .int .i64 0, .int .u64 0, .int .u64 0, .int .u64 0, .int .u64 0, .int .u64 0, .int .u64 0, .int .i64 0, .int .i64 0, .int .i64 0, .int .u64 0, .int .u64 0] ty_api_Config (0, 0)) :: Prt.one b25 (.cells #[.int .i64 0, .int .i64 0, .int .i64 0, .int .i64 0, .int .i64 0, .int .i64 0, .int .i64 0, .int .i64 0, .int .i64 0, .int .i64 0, .int .i64 0, .int .u64 0, .int .u64 0, .int .u64 0, .int .u64 0, .int .u64 0, .int .u64 0, .int .i64 0, .int .i64 0, .int .i64 0, .int .u64 0, .int .u64 0] ty_api_Config (0, 0)) :: Prt.one b23 (.cells #[.int .i64 r.a0, .int .i64 r.a1, .int .i64 r.a2, .int .i64 r.a3, .int .i64 r.a4, .int .i64 r.a5, .int .i64 r.a6, .int .i64 r.a7, .int .i64 r.a8, .int .i64 r.a9, .int .i64 r.a10, .int .i64 r.a11, .int .i64 r.a12, .int .i64 r.a13, .int .i64 r.a14, .int .i64 r.a15, .int .i64 r.a16, .int .i64 r.a17, .int .i64 r.a18, .int .i64 r.a19, .int .u64 r.a20, .int .u64 r.a21] ty_hand_Raw (0, 0)) :: L) H' → R27 (some ⟨bc, 0, none⟩) H' := fun bc H' g4 => by
    refine hR27 _ H' ?_
    clear hR27 g2
    (try simp only [asI_mk', asB_mk, asP_mk, asA_mk, asM_mk, asSl_mk, asStr_mk, tup2_mk, tup3_mk, agg1_mk, agg2_mk, agg3_mk, agg4_mk, asAggm, unCons_mk, unNil_mk, asTup_mk, extractD0, extractD1, List.toList_toArray, nilP_mk, add_mk, Nat.zero_add, Nat.add_zero, condT, condF, Bool.not_true, Bool.not_false, Option.isNone_some, Option.isNone_none])
    refine ldI_of (g4.cell (i := 2) rfl rfl) (Pick_ok (by decide) (by decide) ?_)
    (try simp only [asI_mk', asB_mk, asP_mk, asA_mk, asM_mk, asSl_mk, asStr_mk, tup2_mk, tup3_mk, agg1_mk, agg2_mk, agg3_mk, agg4_mk, asAggm, unCons_mk, unNil_mk, asTup_mk, extractD0, extractD1, List.toList_toArray, nilP_mk, add_mk, Nat.zero_add, Nat.add_zero, condT, condF, Bool.not_true, Bool.not_false, Option.isNone_some, Option.isNone_none])
    refine g4.put (i := 0) rfl (show 4 < 22 by decide) fun H5 g5 => ?_
    have g5 : St H0 (Prt.one bc (.cells #[.int .i64 (confOf r).a0, .int .i64 (confOf r).a1, .int .i64 (confOf r).a2, .int .i64 (confOf r).a3, .int .i64 (confOf r).a4, .int .i64 0, .int .i64 0, .int .i64 0, .int .i64 0, .int .i64 0, .int .i64 0, .int .u64 0, .int .u64 0, .int .u64 0, .int .u64 0, .int .u64 0, .int .u64 0, .int .i64 0, .int .i64 0, .int .i64 0, .int .u64 0, .int .u64 0] ty_api_Config (0, 0)) :: Prt.one b25 (.cells #[.int .i64 0, .int .i64 0, .int .i64 0, .int .i64 0, .int .i64 0, .int .i64 0, .int .i64 0, .int .i64 0, .int .i64 0, .int .i64 0, .int .i64 0, .int .u64 0, .int .u64 0, .int .u64 0, .int .u64 0, .int .u64 0, .int .u64 0, .int .i64 0, .int .i64 0, .int .i64 0, .int .u64 0, .int .u64 0] ty_api_Config (0, 0)) :: Prt.one b23 (.cells #[.int .i64 r.a0, .int .i64 r.a1, .int .i64 r.a2, .int .i64 r.a3, .int .i64 r.a4, .int .i64 r.a5, .int .i64 r.a6, .int .i64 r.a7, .int .i64 r.a8, .int .i64 r.a9, .int .i64 r.a10, .int .i64 r.a11, .int .i64 r.a12, .int .i64 r.a13, .int .i64 r.a14, .int .i64 r.a15, .int .i64 r.a16, .int .i64 r.a17, .int .i64 r.a18, .int .i64 r.a19, .int .u64 r.a20, .int .u64 r.a21] ty_hand_Raw (0, 0)) :: L) H5 := g5
    refine ldI_of (g5.cell (i := 2) rfl rfl) (Pick_ok (by decide) (by decide) ?_)
    (try simp only [asI_mk', asB_mk, asP_mk, asA_mk, asM_mk, asSl_mk, asStr_mk, tup2_mk, tup3_mk, agg1_mk, agg2_mk, agg3_mk, agg4_mk, asAggm, unCons_mk, unNil_mk, asTup_mk, extractD0, extractD1, List.toList_toArray, nilP_mk, add_mk, Nat.zero_add, Nat.add_zero, condT, condF, Bool.not_true, Bool.not_false, Option.isNone_some, Option.isNone_none])
    refine g5.put (i := 0) rfl (show 5 < 22 by decide) fun H6 g6 => ?_
    have g6 : St H0 (Prt.one bc (.cells #[.int .i64 (confOf r).a0, .int .i64 (confOf r).a1, .int .i64 (confOf r).a2, .int .i64 (confOf r).a3, .int .i64 (confOf r).a4, .int .i64 (confOf r).a5, .int .i64 0, .int .i64 0, .int .i64 0, .int .i64 0, .int .i64 0, .int .u64 0, .int .u64 0, .int .u64 0, .int .u64 0, .int .u64 0, .int .u64 0, .int .i64 0, .int .i64 0, .int .i64 0, .int .u64 0, .int .u64 0] ty_api_Config (0, 0)) :: Prt.one b25 (.cells #[.int .i64 0, .int .i64 0, .int .i64 0, .int .i64 0, .int .i64 0, .int .i64 0, .int .i64 0, .int .i64 0, .int .i64 0, .int .i64 0, .int .i64 0, .int .u64 0, .int .u64 0, .int .u64 0, .int .u64 0, .int .u64 0, .int .u64 0, .int .i64 0, .int .i64 0, .int .i64 0, .int .u64 0, .int .u64 0] ty_api_Config (0, 0)) :: Prt.one b23 (.cells #[.int .i64 r.a0, .int .i64 r.a1, .int .i64 r.a2, .int .i64 r.a3, .int .i64 r.a4, .int .i64 r.a5, .int .i64 r.a6, .int .i64 r.a7, .int .i64 r.a8, .int .i64 r.a9, .int .i64 r.a10, .int .i64 r.a11, .int .i64 r.a12, .int .i64 r.a13, .int .i64 r.a14, .int .i64 r.a15, .int .i64 r.a16, .int .i64 r.a17, .int .i64 r.a18, .int .i64 r.a19, .int .u64 r.a20, .int .u64 r.a21] ty_hand_Raw (0, 0)) :: L) H6 := g6
    refine ldI_of (g6.cell (i := 2) rfl rfl) (Pick_ok (by decide) (by decide) ?_)
    (try simp only [asI_mk', asB_mk, asP_mk, asA_mk, asM_mk, asSl_mk, asStr_mk, tup2_mk, tup3_mk, agg1_mk, agg2_mk, agg3_mk, agg4_mk, asAggm, unCons_mk, unNil_mk, asTup_mk, extractD0, extractD1, List.toList_toArray, nilP_mk, add_mk, Nat.zero_add, Nat.add_zero, condT, condF, Bool.not_true, Bool.not_false, Option.isNone_some, Option.isNone_none])
    refine g6.put (i := 0) rfl (show 6 < 22 by decide) fun H7 g7 => ?_
    have g7 : St H0 (Prt.one bc (.cells #[.int .i64 (confOf r).a0, .int .i64 (confOf r).a1, .int .i64 (confOf r).a2, .int .i64 (confOf r).a3, .int .i64 (confOf r).a4, .int .i64 (confOf r).a5, .int .i64 (confOf r).a6, .int .i64 0, .int .i64 0, .int .i64 0, .int .i64 0, .int .u64 0, .int .u64 0, .int .u64 0, .int .u64 0, .int .u64 0, .int .u64 0, .int .i64 0, .int .i64 0, .int .i64 0, .int .u64 0, .int .u64 0] ty_api_Config (0, 0)) :: Prt.one b25 (.cells #[.int .i64 0, .int .i64 0, .int .i64 0, .int .i64 0, .int .i64 0, .int .i64 0, .int .i64 0, .int .i64 0, .int .i64 0, .int .i64 0, .int .i64 0, .int .u64 0, .int .u64 0, .int .u64 0, .int .u64 0, .int .u64 0, .int .u64 0, .int .i64 0, .int .i64 0, .int .i64 0, .int .u64 0, .int .u64 0] ty_api_Config (0, 0)) :: Prt.one b23 (.cells #[.int .i64 r.a0, .int .i64 r.a1, .int .i64 r.a2, .int .i64 r.a3, .int .i64 r.a4, .int .i64 r.a5, .int .i64 r.a6, .int .i64 r.a7, .int .i64 r.a8, .int .i64 r.a9, .int .i64 r.a10, .int .i64 r.a11, .int .i64 r.a12, .int .i64 r.a13, .int .i64 r.a14, .int .i64 r.a15, .int .i64 r.a16, .int .i64 r.a17, .int .i64 r.a18, .int .i64 r.a19, .int .u64 r.a20, .int .u64 r.a21] ty_hand_Raw (0, 0)) :: L) H7 := g7
    refine ldI_of (g7.cell (i := 2) rfl rfl) (Pick_ok (by decide) (by decide) ?_)
    (try simp only [asI_mk', asB_mk, asP_mk, asA_mk, asM_mk, asSl_mk, asStr_mk, tup2_mk, tup3_mk, agg1_mk, agg2_mk, agg3_mk, agg4_mk, asAggm, unCons_mk, unNil_mk, asTup_mk, extractD0, extractD1, List.toList_toArray, nilP_mk, add_mk, Nat.zero_add, Nat.add_zero, condT, condF, Bool.not_true, Bool.not_false, Option.isNone_some, Option.isNone_none])
    refine g7.put (i := 0) rfl (show 7 < 22 by decide) fun H8 g8 => ?_
    have g8 : St H0 (Prt.one bc (.cells #[.int .i64 (confOf r).a0, .int .i64 (confOf r).a1, .int .i64 (confOf r).a2, .int .i64 (confOf r).a3, .int .i64 (confOf r).a4, .int .i64 (confOf r).a5, .int .i64 (confOf r).a6, .int .i64 (confOf r).a7, .int .i64 0, .int .i64 0, .int .i64 0, .int .u64 0, .int .u64 0, .int .u64 0, .int .u64 0, .int .u64 0, .int .u64 0, .int .i64 0, .int .i64 0, .int .i64 0, .int .u64 0, .int .u64 0] ty_api_Config (0, 0)) :: Prt.one b25 (.cells #[.int .i64 0, .int .i64 0, .int .i64 0, .int .i64 0, .int .i64 0, .int .i64 0, .int .i64 0, .int .i64 0, .int .i64 0, .int .i64 0, .int .i64 0, .int .u64 0, .int .u64 0, .int .u64 0, .int .u64 0, .int .u64 0, .int .u64 0, .int .i64 0, .int .i64 0, .int .i64 0, .int .u64 0, .int .u64 0] ty_api_Config (0, 0)) :: Prt.one b23 (.cells #[.int .i64 r.a0, .int .i64 r.a1, .int .i64 r.a2, .int .i64 r.a3, .int .i64 r.a4, .int .i64 r.a5, .int .i64 r.a6, .int .i64 r.a7, .int .i64 r.a8, .int .i64 r.a9, .int .i64 r.a10, .int .i64 r.a11, .int .i64 r.a12, .int .i64 r.a13, .int .i64 r.a14, .int .i64 r.a15, .int .i64 r.a16, .int .i64 r.a17, .int .i64 r.a18, .int .i64 r.a19, .int .u64 r.a20, .int .u64 r.a21] ty_hand_Raw (0, 0)) :: L) H8 := g8
    refine ldI_of (g8.cell (i := 2) rfl rfl) (Pick_ok (by decide) (by decide) ?_)
    (try simp only [asI_mk', asB_mk, asP_mk, asA_mk, asM_mk, asSl_mk, asStr_mk, tup2_mk, tup3_mk, agg1_mk, agg2_mk, agg3_mk, agg4_mk, asAggm, unCons_mk, unNil_mk, asTup_mk, extractD0, extractD1, List.toList_toArray, nilP_mk, add_mk, Nat.zero_add, Nat.add_zero, condT, condF, Bool.not_true, Bool.not_false, Option.isNone_some, Option.isNone_none])
    refine g8.put (i := 0) rfl (show 8 < 22 by decide) fun H9 g9 => ?_
    have g9 : St H0 (Prt.one bc (.cells #[.int .i64 (confOf r).a0, .int .i64 (confOf r).a1, .int .i64 (confOf r).a2, .int .i64 (confOf r).a3, .int .i64 (confOf r).a4, .int .i64 (confOf r).a5, .int .i64 (confOf r).a6, .int .i64 (confOf r).a7, .int .i64 (confOf r).a8, .int .i64 0, .int .i64 0, .int .u64 0, .int .u64 0, .int .u64 0, .int .u64 0, .int .u64 0, .int .u64 0, .int .i64 0, .int .i64 0, .int .i64 0, .int .u64 0, .int .u64 0] ty_api_Config (0, 0)) :: Prt.one b25 (.cells #[.int .i64 0, .int .i64 0, .int .i64 0, .int .i64 0, .int .i64 0, .int .i64 0, .int .i64 0, .int .i64 0, .int .i64 0, .int .i64 0, .int .i64 0, .int .u64 0, .int .u64 0, .int .u64 0, .int .u64 0, .int .u64 0, .int .u64 0, .int .i64 0, .int .i64 0, .int .i64 0, .int .u64 0, .int .u64 0] ty_api_Config (0, 0)) :: Prt.one b23 (.cells #[.int .i64 r.a0, .int .i64 r.a1, .int .i64 r.a2, .int .i64 r.a3, .int .i64 r.a4, .int .i64 r.a5, .int .i64 r.a6, .int .i64 r.a7, .int .i64 r.a8, .int .i64 r.a9, .int .i64 r.a10, .int .i64 r.a11, .int .i64 r.a12, .int .i64 r.a13, .int .i64 r.a14, .int .i64 r.a15, .int .i64 r.a16, .int .i64 r.a17, .int .i64 r.a18, .int .i64 r.a19, .int .u64 r.a20, .int .u64 r.a21] ty_hand_Raw (0, 0)) :: L) H9 := g9
    refine ldI_of (g9.cell (i := 2) rfl rfl) (Pick_ok (by decide) (by decide) ?_)
    (try simp only [asI_mk', asB_mk, asP_mk, asA_mk, asM_mk, asSl_mk, asStr_mk, tup2_mk, tup3_mk, agg1_mk, agg2_mk, agg3_mk, agg4_mk, asAggm, unCons_mk, unNil_mk, asTup_mk, extractD0, extractD1, List.toList_toArray, nilP_mk, add_mk, Nat.zero_add, Nat.add_zero, condT, condF, Bool.not_true, Bool.not_false, Option.isNone_some, Option.isNone_none])
    refine g9.put (i := 0) rfl (show 9 < 22 by decide) fun H10 g10 => ?_
    have g10 : St H0 (Prt.one bc (.cells #[.int .i64 (confOf r).a0, .int .i64 (confOf r).a1, .int .i64 (confOf r).a2, .int .i64 (confOf r).a3, .int .i64 (confOf r).a4, .int .i64 (confOf r).a5, .int .i64 (confOf r).a6, .int .i64 (confOf r).a7, .int .i64 (confOf r).a8, .int .i64 (confOf r).a9, .int .i64 0, .int .u64 0, .int .u64 0, .int .u64 0, .int .u64 0, .int .u64 0, .int .u64 0, .int .i64 0, .int .i64 0, .int .i64 0, .int .u64 0, .int .u64 0] ty_api_Config (0, 0)) :: Prt.one b25 (.cells #[.int .i64 0, .int .i64 0, .int .i64 0, .int .i64 0, .int .i64 0, .int .i64 0, .int .i64 0, .int .i64 0, .int .i64 0, .int .i64 0, .int .i64 0, .int .u64 0, .int .u64 0, .int .u64 0, .int .u64 0, .int .u64 0, .int .u64 0, .int .i64 0, .int .i64 0, .int .i64 0, .int .u64 0, .int .u64 0] ty_api_Config (0, 0)) :: Prt.one b23 (.cells #[.int .i64 r.a0, .int .i64 r.a1, .int .i64 r.a2, .int .i64 r.a3, .int .i64 r.a4, .int .i64 r.a5, .int .i64 r.a6, .int .i64 r.a7, .int .i64 r.a8, .int .i64 r.a9, .int .i64 r.a10, .int .i64 r.a11, .int .i64 r.a12, .int .i64 r.a13, .int .i64 r.a14, .int .i64 r.a15, .int .i64 r.a16, .int .i64 r.a17, .int .i64 r.a18, .int .i64 r.a19, .int .u64 r.a20, .int .u64 r.a21] ty_hand_Raw (0, 0)) :: L) H10 := g10
    refine ldI_of (g10.cell (i := 2) rfl rfl) (Pick_ok (by decide) (by decide) ?_)
    (try simp only [asI_mk', asB_mk, asP_mk, asA_mk, asM_mk, asSl_mk, asStr_mk, tup2_mk, tup3_mk, agg1_mk, agg2_mk, agg3_mk, agg4_mk, asAggm, unCons_mk, unNil_mk, asTup_mk, extractD0, extractD1, List.toList_toArray, nilP_mk, add_mk, Nat.zero_add, Nat.add_zero, condT, condF, Bool.not_true, Bool.not_false, Option.isNone_some, Option.isNone_none])
    refine g10.put (i := 0) rfl (show 10 < 22 by decide) fun H11 g11 => ?_
    have g11 : St H0 (Prt.one bc (.cells #[.int .i64 (confOf r).a0, .int .i64 (confOf r).a1, .int .i64 (confOf r).a2, .int .i64 (confOf r).a3, .int .i64 (confOf r).a4, .int .i64 (confOf r).a5, .int .i64 (confOf r).a6, .int .i64 (confOf r).a7, .int .i64 (confOf r).a8, .int .i64 (confOf r).a9, .int .i64 (confOf r).a10, .int .u64 0, .int .u64 0, .int .u64 0, .int .u64 0, .int .u64 0, .int .u64 0, .int .i64 0, .int .i64 0, .int .i64 0, .int .u64 0, .int .u64 0] ty_api_Config (0, 0)) :: Prt.one b25 (.cells #[.int .i64 0, .int .i64 0, .int .i64 0, .int .i64 0, .int .i64 0, .int .i64 0, .int .i64 0, .int .i64 0, .int .i64 0, .int .i64 0, .int .i64 0, .int .u64 0, .int .u64 0, .int .u64 0, .int .u64 0, .int .u64 0, .int .u64 0, .int .i64 0, .int .i64 0, .int .i64 0, .int .u64 0, .int .u64 0] ty_api_Config (0, 0)) :: Prt.one b23 (.cells #[.int .i64 r.a0, .int .i64 r.a1, .int .i64 r.a2, .int .i64 r.a3, .int .i64 r.a4, .int .i64 r.a5, .int .i64 r.a6, .int .i64 r.a7, .int .i64 r.a8, .int .i64 r.a9, .int .i64 r.a10, .int .i64 r.a11, .int .i64 r.a12, .int .i64 r.a13, .int .i64 r.a14, .int .i64 r.a15, .int .i64 r.a16, .int .i64 r.a17, .int .i64 r.a18, .int .i64 r.a19, .int .u64 r.a20, .int .u64 r.a21] ty_hand_Raw (0, 0)) :: L) H11 := g11
    refine ldI_of (g11.cell (i := 2) rfl rfl) (Pick_ok (by decide) (by decide) ?_)
    (try simp only [asI_mk', asB_mk, asP_mk, asA_mk, asM_mk, asSl_mk, asStr_mk, tup2_mk, tup3_mk, agg1_mk, agg2_mk, agg3_mk, agg4_mk, asAggm, unCons_mk, unNil_mk, asTup_mk, extractD0, extractD1, List.toList_toArray, nilP_mk, add_mk, Nat.zero_add, Nat.add_zero, condT, condF, Bool.not_true, Bool.not_false, Option.isNone_some, Option.isNone_none])
    refine g11.put (i := 0) rfl (show 11 < 22 by decide) fun H12 g12 => ?_
    have g12 : St H0 (Prt.one bc (.cells #[.int .i64 (confOf r).a0, .int .i64 (confOf r).a1, .int .i64 (confOf r).a2, .int .i64 (confOf r).a3, .int .i64 (confOf r).a4, .int .i64 (confOf r).a5, .int .i64 (confOf r).a6, .int .i64 (confOf r).a7, .int .i64 (confOf r).a8, .int .i64 (confOf r).a9, .int .i64 (confOf r).a10, .int .u64 (confOf r).a11, .int .u64 0, .int .u64 0, .int .u64 0, .int .u64 0, .int .u64 0, .int .i64 0, .int .i64 0, .int .i64 0, .int .u64 0, .int .u64 0] ty_api_Config (0, 0)) :: Prt.one b25 (.cells #[.int .i64 0, .int .i64 0, .int .i64 0, .int .i64 0, .int .i64 0, .int .i64 0, .int .i64 0, .int .i64 0, .int .i64 0, .int .i64 0, .int .i64 0, .int .u64 0, .int .u64 0, .int .u64 0, .int .u64 0, .int .u64 0, .int .u64 0, .int .i64 0, .int .i64 0, .int .i64 0, .int .u64 0, .int .u64 0] ty_api_Config (0, 0)) :: Prt.one b23 (.cells #[.int .i64 r.a0, .int .i64 r.a1, .int .i64 r.a2, .int .i64 r.a3, .int .i64 r.a4, .int .i64 r.a5, .int .i64 r.a6, .int .i64 r.a7, .int .i64 r.a8, .int .i64 r.a9, .int .i64 r.a10, .int .i64 r.a11, .int .i64 r.a12, .int .i64 r.a13, .int .i64 r.a14, .int .i64 r.a15, .int .i64 r.a16, .int .i64 r.a17, .int .i64 r.a18, .int .i64 r.a19, .int .u64 r.a20, .int .u64 r.a21] ty_hand_Raw (0, 0)) :: L) H12 := g12
    refine ldI_of (g12.cell (i := 2) rfl rfl) (ldI_of (g12.cell (i := 0) rfl rfl) ⟨by decide, Pick_ok (m := IntKind.i64.wrap (Int.tdiv (IntKind.i64.wrap (cUnit r)) 2)) (by have := cHalf_is r; omega) (by have := cHalf_is r; omega) ?_⟩)
    (try simp only [asI_mk', asB_mk, asP_mk, asA_mk, asM_mk, asSl_mk, asStr_mk, tup2_mk, tup3_mk, agg1_mk, agg2_mk, agg3_mk, agg4_mk, asAggm, unCons_mk, unNil_mk, asTup_mk, extractD0, extractD1, List.toList_toArray, nilP_mk, add_mk, Nat.zero_add, Nat.add_zero, condT, condF, Bool.not_true, Bool.not_false, Option.isNone_some, Option.isNone_none])
    refine g12.put (i := 0) rfl (show 12 < 22 by decide) fun H13 g13 => ?_
    have g13 : St H0 (Prt.one bc (.cells #[.int .i64 (confOf r).a0, .int .i64 (confOf r).a1, .int .i64 (confOf r).a2, .int .i64 (confOf r).a3, .int .i64 (confOf r).a4, .int .i64 (confOf r).a5, .int .i64 (confOf r).a6, .int .i64 (confOf r).a7, .int .i64 (confOf r).a8, .int .i64 (confOf r).a9, .int .i64 (confOf r).a10, .int .u64 (confOf r).a11, .int .u64 (confOf r).a12, .int .u64 0, .int .u64 0, .int .u64 0, .int .u64 0, .int .i64 0, .int .i64 0, .int .i64 0, .int .u64 0, .int .u64 0] ty_api_Config (0, 0)) :: Prt.one b25 (.cells #[.int .i64 0, .int .i64 0, .int .i64 0, .int .i64 0, .int .i64 0, .int .i64 0, .int .i64 0, .int .i64 0, .int .i64 0, .int .i64 0, .int .i64 0, .int .u64 0, .int .u64 0, .int .u64 0, .int .u64 0, .int .u64 0, .int .u64 0, .int .i64 0, .int .i64 0, .int .i64 0, .int .u64 0, .int .u64 0] ty_api_Config (0, 0)) :: Prt.one b23 (.cells #[.int .i64 r.a0, .int .i64 r.a1, .int .i64 r.a2, .int .i64 r.a3, .int .i64 r.a4, .int .i64 r.a5, .int .i64 r.a6, .int .i64 r.a7, .int .i64 r.a8, .int .i64 r.a9, .int .i64 r.a10, .int .i64 r.a11, .int .i64 r.a12, .int .i64 r.a13, .int .i64 r.a14, .int .i64 r.a15, .int .i64 r.a16, .int .i64 r.a17, .int .i64 r.a18, .int .i64 r.a19, .int .u64 r.a20, .int .u64 r.a21] ty_hand_Raw (0, 0)) :: L) H13 := g13
    refine ldI_of (g13.cell (i := 0) rfl rfl) (ldI_of (g13.cell (i := 2) rfl rfl) (Pick_ok (by decide) (by decide) ?_))
    (try simp only [asI_mk', asB_mk, asP_mk, asA_mk, asM_mk, asSl_mk, asStr_mk, tup2_mk, tup3_mk, agg1_mk, agg2_mk, agg3_mk, agg4_mk, asAggm, unCons_mk, unNil_mk, asTup_mk, extractD0, extractD1, List.toList_toArray, nilP_mk, add_mk, Nat.zero_add, Nat.add_zero, condT, condF, Bool.not_true, Bool.not_false, Option.isNone_some, Option.isNone_none])
    refine ⟨ldI_of (g13.cell (i := 0) rfl rfl) rfl, ?_⟩
    refine g13.put (i := 0) rfl (show 13 < 22 by decide) fun H14 g14 => ?_
    have g14 : St H0 (Prt.one bc (.cells #[.int .i64 (confOf r).a0, .int .i64 (confOf r).a1, .int .i64 (confOf r).a2, .int .i64 (confOf r).a3, .int .i64 (confOf r).a4, .int .i64 (confOf r).a5, .int .i64 (confOf r).a6, .int .i64 (confOf r).a7, .int .i64 (confOf r).a8, .int .i64 (confOf r).a9, .int .i64 (confOf r).a10, .int .u64 (confOf r).a11, .int .u64 (confOf r).a12, .int .u64 (confOf r).a13, .int .u64 0, .int .u64 0, .int .u64 0, .int .i64 0, .int .i64 0, .int .i64 0, .int .u64 0, .int .u64 0] ty_api_Config (0, 0)) :: Prt.one b25 (.cells #[.int .i64 0, .int .i64 0, .int .i64 0, .int .i64 0, .int .i64 0, .int .i64 0, .int .i64 0, .int .i64 0, .int .i64 0, .int .i64 0, .int .i64 0, .int .u64 0, .int .u64 0, .int .u64 0, .int .u64 0, .int .u64 0, .int .u64 0, .int .i64 0, .int .i64 0, .int .i64 0, .int .u64 0, .int .u64 0] ty_api_Config (0, 0)) :: Prt.one b23 (.cells #[.int .i64 r.a0, .int .i64 r.a1, .int .i64 r.a2, .int .i64 r.a3, .int .i64 r.a4, .int .i64 r.a5, .int .i64 r.a6, .int .i64 r.a7, .int .i64 r.a8, .int .i64 r.a9, .int .i64 r.a10, .int .i64 r.a11, .int .i64 r.a12, .int .i64 r.a13, .int .i64 r.a14, .int .i64 r.a15, .int .i64 r.a16, .int .i64 r.a17, .int .i64 r.a18, .int .i64 r.a19, .int .u64 r.a20, .int .u64 r.a21] ty_hand_Raw (0, 0)) :: L) H14 := g14
    refine ldI_of (g14.cell (i := 2) rfl rfl) (Pick_ok (by decide) (by decide) ?_)
    (try simp only [asI_mk', asB_mk, asP_mk, asA_mk, asM_mk, asSl_mk, asStr_mk, tup2_mk, tup3_mk, agg1_mk, agg2_mk, agg3_mk, agg4_mk, asAggm, unCons_mk, unNil_mk, asTup_mk, extractD0, extractD1, List.toList_toArray, nilP_mk, add_mk, Nat.zero_add, Nat.add_zero, condT, condF, Bool.not_true, Bool.not_false, Option.isNone_some, Option.isNone_none])
    refine g14.put (i := 0) rfl (show 14 < 22 by decide) fun H15 g15 => ?_
    have g15 : St H0 (Prt.one bc (.cells #[.int .i64 (confOf r).a0, .int .i64 (confOf r).a1, .int .i64 (confOf r).a2, .int .i64 (confOf r).a3, .int .i64 (confOf r).a4, .int .i64 (confOf r).a5, .int .i64 (confOf r).a6, .int .i64 (confOf r).a7, .int .i64 (confOf r).a8, .int .i64 (confOf r).a9, .int .i64 (confOf r).a10, .int .u64 (confOf r).a11, .int .u64 (confOf r).a12, .int .u64 (confOf r).a13, .int .u64 (confOf r).a14, .int .u64 0, .int .u64 0, .int .i64 0, .int .i64 0, .int .i64 0, .int .u64 0, .int .u64 0] ty_api_Config (0, 0)) :: Prt.one b25 (.cells #[.int .i64 0, .int .i64 0, .int .i64 0, .int .i64 0, .int .i64 0, .int .i64 0, .int .i64 0, .int .i64 0, .int .i64 0, .int .i64 0, .int .i64 0, .int .u64 0, .int .u64 0, .int .u64 0, .int .u64 0, .int .u64 0, .int .u64 0, .int .i64 0, .int .i64 0, .int .i64 0, .int .u64 0, .int .u64 0] ty_api_Config (0, 0)) :: Prt.one b23 (.cells #[.int .i64 r.a0, .int .i64 r.a1, .int .i64 r.a2, .int .i64 r.a3, .int .i64 r.a4, .int .i64 r.a5, .int .i64 r.a6, .int .i64 r.a7, .int .i64 r.a8, .int .i64 r.a9, .int .i64 r.a10, .int .i64 r.a11, .int .i64 r.a12, .int .i64 r.a13, .int .i64 r.a14, .int .i64 r.a15, .int .i64 r.a16, .int .i64 r.a17, .int .i64 r.a18, .int .i64 r.a19, .int .u64 r.a20, .int .u64 r.a21] ty_hand_Raw (0, 0)) :: L) H15 := g15
    refine ldI_of (g15.cell (i := 0) rfl rfl) (ldI_of (g15.cell (i := 2) rfl rfl) (Pick_ok (by decide) (by decide) ?_))
    (try simp only [asI_mk', asB_mk, asP_mk, asA_mk, asM_mk, asSl_mk, asStr_mk, tup2_mk, tup3_mk, agg1_mk, agg2_mk, agg3_mk, agg4_mk, asAggm, unCons_mk, unNil_mk, asTup_mk, extractD0, extractD1, List.toList_toArray, nilP_mk, add_mk, Nat.zero_add, Nat.add_zero, condT, condF, Bool.not_true, Bool.not_false, Option.isNone_some, Option.isNone_none])
    refine ⟨ldI_of (g15.cell (i := 0) rfl rfl) rfl, ?_⟩
    refine g15.put (i := 0) rfl (show 15 < 22 by decide) fun H16 g16 => ?_
    have g16 : St H0 (Prt.one bc (.cells #[.int .i64 (confOf r).a0, .int .i64 (confOf r).a1, .int .i64 (confOf r).a2, .int .i64 (confOf r).a3, .int .i64 (confOf r).a4, .int .i64 (confOf r).a5, .int .i64 (confOf r).a6, .int .i64 (confOf r).a7, .int .i64 (confOf r).a8, .int .i64 (confOf r).a9, .int .i64 (confOf r).a10, .int .u64 (confOf r).a11, .int .u64 (confOf r).a12, .int .u64 (confOf r).a13, .int .u64 (confOf r).a14, .int .u64 (confOf r).a15, .int .u64 0, .int .i64 0, .int .i64 0, .int .i64 0, .int .u64 0, .int .u64 0] ty_api_Config (0, 0)) :: Prt.one b25 (.cells #[.int .i64 0, .int .i64 0, .int .i64 0, .int .i64 0, .int .i64 0, .int .i64 0, .int .i64 0, .int .i64 0, .int .i64 0, .int .i64 0, .int .i64 0, .int .u64 0, .int .u64 0, .int .u64 0, .int .u64 0, .int .u64 0, .int .u64 0, .int .i64 0, .int .i64 0, .int .i64 0, .int .u64 0, .int .u64 0] ty_api_Config (0, 0)) :: Prt.one b23 (.cells #[.int .i64 r.a0, .int .i64 r.a1, .int .i64 r.a2, .int .i64 r.a3, .int .i64 r.a4, .int .i64 r.a5, .int .i64 r.a6, .int .i64 r.a7, .int .i64 r.a8, .int .i64 r.a9, .int .i64 r.a10, .int .i64 r.a11, .int .i64 r.a12, .int .i64 r.a13, .int .i64 r.a14, .int .i64 r.a15, .int .i64 r.a16, .int .i64 r.a17, .int .i64 r.a18, .int .i64 r.a19, .int .u64 r.a20, .int .u64 r.a21] ty_hand_Raw (0, 0)) :: L) H16 := g16
    refine ldI_of (g16.cell (i := 0) rfl rfl) (ldI_of (g16.cell (i := 2) rfl rfl) (Pick_ok (by decide) (by decide) ?_))
    (try simp only [asI_mk', asB_mk, asP_mk, asA_mk, asM_mk, asSl_mk, asStr_mk, tup2_mk, tup3_mk, agg1_mk, agg2_mk, agg3_mk, agg4_mk, asAggm, unCons_mk, unNil_mk, asTup_mk, extractD0, extractD1, List.toList_toArray, nilP_mk, add_mk, Nat.zero_add, Nat.add_zero, condT, condF, Bool.not_true, Bool.not_false, Option.isNone_some, Option.isNone_none])
    refine ⟨ldI_of (g16.cell (i := 0) rfl rfl) rfl, ?_⟩
    refine g16.put (i := 0) rfl (show 16 < 22 by decide) fun H17 g17 => ?_
    have g17 : St H0 (Prt.one bc (.cells #[.int .i64 (confOf r).a0, .int .i64 (confOf r).a1, .int .i64 (confOf r).a2, .int .i64 (confOf r).a3, .int .i64 (confOf r).a4, .int .i64 (confOf r).a5, .int .i64 (confOf r).a6, .int .i64 (confOf r).a7, .int .i64 (confOf r).a8, .int .i64 (confOf r).a9, .int .i64 (confOf r).a10, .int .u64 (confOf r).a11, .int .u64 (confOf r).a12, .int .u64 (confOf r).a13, .int .u64 (confOf r).a14, .int .u64 (confOf r).a15, .int .u64 (confOf r).a16, .int .i64 0, .int .i64 0, .int .i64 0, .int .u64 0, .int .u64 0] ty_api_Config (0, 0)) :: Prt.one b25 (.cells #[.int .i64 0, .int .i64 0, .int .i64 0, .int .i64 0, .int .i64 0, .int .i64 0, .int .i64 0, .int .i64 0, .int .i64 0, .int .i64 0, .int .i64 0, .int .u64 0, .int .u64 0, .int .u64 0, .int .u64 0, .int .u64 0, .int .u64 0, .int .i64 0, .int .i64 0, .int .i64 0, .int .u64 0, .int .u64 0] ty_api_Config (0, 0)) :: Prt.one b23 (.cells #[.int .i64 r.a0, .int .i64 r.a1, .int .i64 r.a2, .int .i64 r.a3, .int .i64 r.a4, .int .i64 r.a5, .int .i64 r.a6, .int .i64 r.a7, .int .i64 r.a8, .int .i64 r.a9, .int .i64 r.a10, .int .i64 r.a11, .int .i64 r.a12, .int .i64 r.a13, .int .i64 r.a14, .int .i64 r.a15, .int .i64 r.a16, .int .i64 r.a17, .int .i64 r.a18, .int .i64 r.a19, .int .u64 r.a20, .int .u64 r.a21] ty_hand_Raw (0, 0)) :: L) H17 := g17
    refine ldI_of (g17.cell (i := 2) rfl rfl) (Pick_ok (by decide) (by decide) ?_)
    (try simp only [asI_mk', asB_mk, asP_mk, asA_mk, asM_mk, asSl_mk, asStr_mk, tup2_mk, tup3_mk, agg1_mk, agg2_mk, agg3_mk, agg4_mk, asAggm, unCons_mk, unNil_mk, asTup_mk, extractD0, extractD1, List.toList_toArray, nilP_mk, add_mk, Nat.zero_add, Nat.add_zero, condT, condF, Bool.not_true, Bool.not_false, Option.isNone_some, Option.isNone_none])
    refine g17.put (i := 0) rfl (show 17 < 22 by decide) fun H18 g18 => ?_
    have g18 : St H0 (Prt.one bc (.cells #[.int .i64 (confOf r).a0, .int .i64 (confOf r).a1, .int .i64 (confOf r).a2, .int .i64 (confOf r).a3, .int .i64 (confOf r).a4, .int .i64 (confOf r).a5, .int .i64 (confOf r).a6, .int .i64 (confOf r).a7, .int .i64 (confOf r).a8, .int .i64 (confOf r).a9, .int .i64 (confOf r).a10, .int .u64 (confOf r).a11, .int .u64 (confOf r).a12, .int .u64 (confOf r).a13, .int .u64 (confOf r).a14, .int .u64 (confOf r).a15, .int .u64 (confOf r).a16, .int .i64 (confOf r).a17, .int .i64 0, .int .i64 0, .int .u64 0, .int .u64 0] ty_api_Config (0, 0)) :: Prt.one b25 (.cells #[.int .i64 0, .int .i64 0, .int .i64 0, .int .i64 0, .int .i64 0, .int .i64 0, .int .i64 0, .int .i64 0, .int .i64 0, .int .i64 0, .int .i64 0, .int .u64 0, .int .u64 0, .int .u64 0, .int .u64 0, .int .u64 0, .int .u64 0, .int .i64 0, .int .i64 0, .int .i64 0, .int .u64 0, .int .u64 0] ty_api_Config (0, 0)) :: Prt.one b23 (.cells #[.int .i64 r.a0, .int .i64 r.a1, .int .i64 r.a2, .int .i64 r.a3, .int .i64 r.a4, .int .i64 r.a5, .int .i64 r.a6, .int .i64 r.a7, .int .i64 r.a8, .int .i64 r.a9, .int .i64 r.a10, .int .i64 r.a11, .int .i64 r.a12, .int .i64 r.a13, .int .i64 r.a14, .int .i64 r.a15, .int .i64 r.a16, .int .i64 r.a17, .int .i64 r.a18, .int .i64 r.a19, .int .u64 r.a20, .int .u64 r.a21] ty_hand_Raw (0, 0)) :: L) H18 := g18
    refine ldI_of (g18.cell (i := 0) rfl rfl) (ldI_of (g18.cell (i := 2) rfl rfl) (Pick_ok (by decide) (by decide) ?_))
    (try simp only [asI_mk', asB_mk, asP_mk, asA_mk, asM_mk, asSl_mk, asStr_mk, tup2_mk, tup3_mk, agg1_mk, agg2_mk, agg3_mk, agg4_mk, asAggm, unCons_mk, unNil_mk, asTup_mk, extractD0, extractD1, List.toList_toArray, nilP_mk, add_mk, Nat.zero_add, Nat.add_zero, condT, condF, Bool.not_true, Bool.not_false, Option.isNone_some, Option.isNone_none])
    refine ⟨ldI_of (g18.cell (i := 0) rfl rfl) rfl, ?_⟩
    refine g18.put (i := 0) rfl (show 18 < 22 by decide) fun H19 g19 => ?_
    have g19 : St H0 (Prt.one bc (.cells #[.int .i64 (confOf r).a0, .int .i64 (confOf r).a1, .int .i64 (confOf r).a2, .int .i64 (confOf r).a3, .int .i64 (confOf r).a4, .int .i64 (confOf r).a5, .int .i64 (confOf r).a6, .int .i64 (confOf r).a7, .int .i64 (confOf r).a8, .int .i64 (confOf r).a9, .int .i64 (confOf r).a10, .int .u64 (confOf r).a11, .int .u64 (confOf r).a12, .int .u64 (confOf r).a13, .int .u64 (confOf r).a14, .int .u64 (confOf r).a15, .int .u64 (confOf r).a16, .int .i64 (confOf r).a17, .int .i64 (confOf r).a18, .int .i64 0, .int .u64 0, .int .u64 0] ty_api_Config (0, 0)) :: Prt.one b25 (.cells #[.int .i64 0, .int .i64 0, .int .i64 0, .int .i64 0, .int .i64 0, .int .i64 0, .int .i64 0, .int .i64 0, .int .i64 0, .int .i64 0, .int .i64 0, .int .u64 0, .int .u64 0, .int .u64 0, .int .u64 0, .int .u64 0, .int .u64 0, .int .i64 0, .int .i64 0, .int .i64 0, .int .u64 0, .int .u64 0] ty_api_Config (0, 0)) :: Prt.one b23 (.cells #[.int .i64 r.a0, .int .i64 r.a1, .int .i64 r.a2, .int .i64 r.a3, .int .i64 r.a4, .int .i64 r.a5, .int .i64 r.a6, .int .i64 r.a7, .int .i64 r.a8, .int .i64 r.a9, .int .i64 r.a10, .int .i64 r.a11, .int .i64 r.a12, .int .i64 r.a13, .int .i64 r.a14, .int .i64 r.a15, .int .i64 r.a16, .int .i64 r.a17, .int .i64 r.a18, .int .i64 r.a19, .int .u64 r.a20, .int .u64 r.a21] ty_hand_Raw (0, 0)) :: L) H19 := g19
    refine ldI_of (g19.cell (i := 2) rfl rfl) (Pick_ok (by decide) (by decide) ?_)
    (try simp only [asI_mk', asB_mk, asP_mk, asA_mk, asM_mk, asSl_mk, asStr_mk, tup2_mk, tup3_mk, agg1_mk, agg2_mk, agg3_mk, agg4_mk, asAggm, unCons_mk, unNil_mk, asTup_mk, extractD0, extractD1, List.toList_toArray, nilP_mk, add_mk, Nat.zero_add, Nat.add_zero, condT, condF, Bool.not_true, Bool.not_false, Option.isNone_some, Option.isNone_none])
    refine g19.put (i := 0) rfl (show 19 < 22 by decide) fun H20 g20 => ?_
    have g20 : St H0 (Prt.one bc (.cells #[.int .i64 (confOf r).a0, .int .i64 (confOf r).a1, .int .i64 (confOf r).a2, .int .i64 (confOf r).a3, .int .i64 (confOf r).a4, .int .i64 (confOf r).a5, .int .i64 (confOf r).a6, .int .i64 (confOf r).a7, .int .i64 (confOf r).a8, .int .i64 (confOf r).a9, .int .i64 (confOf r).a10, .int .u64 (confOf r).a11, .int .u64 (confOf r).a12, .int .u64 (confOf r).a13, .int .u64 (confOf r).a14, .int .u64 (confOf r).a15, .int .u64 (confOf r).a16, .int .i64 (confOf r).a17, .int .i64 (confOf r).a18, .int .i64 (confOf r).a19, .int .u64 0, .int .u64 0] ty_api_Config (0, 0)) :: Prt.one b25 (.cells #[.int .i64 0, .int .i64 0, .int .i64 0, .int .i64 0, .int .i64 0, .int .i64 0, .int .i64 0, .int .i64 0, .int .i64 0, .int .i64 0, .int .i64 0, .int .u64 0, .int .u64 0, .int .u64 0, .int .u64 0, .int .u64 0, .int .u64 0, .int .i64 0, .int .i64 0, .int .i64 0, .int .u64 0, .int .u64 0] ty_api_Config (0, 0)) :: Prt.one b23 (.cells #[.int .i64 r.a0, .int .i64 r.a1, .int .i64 r.a2, .int .i64 r.a3, .int .i64 r.a4, .int .i64 r.a5, .int .i64 r.a6, .int .i64 r.a7, .int .i64 r.a8, .int .i64 r.a9, .int .i64 r.a10, .int .i64 r.a11, .int .i64 r.a12, .int .i64 r.a13, .int .i64 r.a14, .int .i64 r.a15, .int .i64 r.a16, .int .i64 r.a17, .int .i64 r.a18, .int .i64 r.a19, .int .u64 r.a20, .int .u64 r.a21] ty_hand_Raw (0, 0)) :: L) H20 := g20
    refine ldI_of (g20.cell (i := 2) rfl rfl) ⟨by decide, ?_⟩
    (try simp only [asI_mk', asB_mk, asP_mk, asA_mk, asM_mk, asSl_mk, asStr_mk, tup2_mk, tup3_mk, agg1_mk, agg2_mk, agg3_mk, agg4_mk, asAggm, unCons_mk, unNil_mk, asTup_mk, extractD0, extractD1, List.toList_toArray, nilP_mk, add_mk, Nat.zero_add, Nat.add_zero, condT, condF, Bool.not_true, Bool.not_false, Option.isNone_some, Option.isNone_none])
    refine g20.put (i := 0) rfl (show 20 < 22 by decide) fun H21 g21 => ?_
    have g21 : St H0 (Prt.one bc (.cells #[.int .i64 (confOf r).a0, .int .i64 (confOf r).a1, .int .i64 (confOf r).a2, .int .i64 (confOf r).a3, .int .i64 (confOf r).a4, .int .i64 (confOf r).a5, .int .i64 (confOf r).a6, .int .i64 (confOf r).a7, .int .i64 (confOf r).a8, .int .i64 (confOf r).a9, .int .i64 (confOf r).a10, .int .u64 (confOf r).a11, .int .u64 (confOf r).a12, .int .u64 (confOf r).a13, .int .u64 (confOf r).a14, .int .u64 (confOf r).a15, .int .u64 (confOf r).a16, .int .i64 (confOf r).a17, .int .i64 (confOf r).a18, .int .i64 (confOf r).a19, .int .u64 (confOf r).a20, .int .u64 0] ty_api_Config (0, 0)) :: Prt.one b25 (.cells #[.int .i64 0, .int .i64 0, .int .i64 0, .int .i64 0, .int .i64 0, .int .i64 0, .int .i64 0, .int .i64 0, .int .i64 0, .int .i64 0, .int .i64 0, .int .u64 0, .int .u64 0, .int .u64 0, .int .u64 0, .int .u64 0, .int .u64 0, .int .i64 0, .int .i64 0, .int .i64 0, .int .u64 0, .int .u64 0] ty_api_Config (0, 0)) :: Prt.one b23 (.cells #[.int .i64 r.a0, .int .i64 r.a1, .int .i64 r.a2, .int .i64 r.a3, .int .i64 r.a4, .int .i64 r.a5, .int .i64 r.a6, .int .i64 r.a7, .int .i64 r.a8, .int .i64 r.a9, .int .i64 r.a10, .int .i64 r.a11, .int .i64 r.a12, .int .i64 r.a13, .int .i64 r.a14, .int .i64 r.a15, .int .i64 r.a16, .int .i64 r.a17, .int .i64 r.a18, .int .i64 r.a19, .int .u64 r.a20, .int .u64 r.a21] ty_hand_Raw (0, 0)) :: L) H21 := g21
    refine ldI_of (g21.cell (i := 2) rfl rfl) ⟨by decide, ?_⟩
    (try simp only [asI_mk', asB_mk, asP_mk, asA_mk, asM_mk, asSl_mk, asStr_mk, tup2_mk, tup3_mk, agg1_mk, agg2_mk, agg3_mk, agg4_mk, asAggm, unCons_mk, unNil_mk, asTup_mk, extractD0, extractD1, List.toList_toArray, nilP_mk, add_mk, Nat.zero_add, Nat.add_zero, condT, condF, Bool.not_true, Bool.not_false, Option.isNone_some, Option.isNone_none])
    refine g21.put (i := 0) rfl (show 21 < 22 by decide) fun H22 g22 => ?_
    have g22 : St H0 (Prt.one bc (.cells #[.int .i64 (confOf r).a0, .int .i64 (confOf r).a1, .int .i64 (confOf r).a2, .int .i64 (confOf r).a3, .int .i64 (confOf r).a4, .int .i64 (confOf r).a5, .int .i64 (confOf r).a6, .int .i64 (confOf r).a7, .int .i64 (confOf r).a8, .int .i64 (confOf r).a9, .int .i64 (confOf r).a10, .int .u64 (confOf r).a11, .int .u64 (confOf r).a12, .int .u64 (confOf r).a13, .int .u64 (confOf r).a14, .int .u64 (confOf r).a15, .int .u64 (confOf r).a16, .int .i64 (confOf r).a17, .int .i64 (confOf r).a18, .int .i64 (confOf r).a19, .int .u64 (confOf r).a20, .int .u64 (confOf r).a21] ty_api_Config (0, 0)) :: Prt.one b25 (.cells #[.int .i64 0, .int .i64 0, .int .i64 0, .int .i64 0, .int .i64 0, .int .i64 0, .int .i64 0, .int .i64 0, .int .i64 0, .int .i64 0, .int .i64 0, .int .u64 0, .int .u64 0, .int .u64 0, .int .u64 0, .int .u64 0, .int .u64 0, .int .i64 0, .int .i64 0, .int .i64 0, .int .u64 0, .int .u64 0] ty_api_Config (0, 0)) :: Prt.one b23 (.cells #[.int .i64 r.a0, .int .i64 r.a1, .int .i64 r.a2, .int .i64 r.a3, .int .i64 r.a4, .int .i64 r.a5, .int .i64 r.a6, .int .i64 r.a7, .int .i64 r.a8, .int .i64 r.a9, .int .i64 r.a10, .int .i64 r.a11, .int .i64 r.a12, .int .i64 r.a13, .int .i64 r.a14, .int .i64 r.a15, .int .i64 r.a16, .int .i64 r.a17, .int .i64 r.a18, .int .i64 r.a19, .int .u64 r.a20, .int .u64 r.a21] ty_hand_Raw (0, 0)) :: L) H22 := g22
    refine ldI_of (g22.cell (i := 0) rfl rfl) (ldI_of (g22.cell (i := 0) rfl rfl) (ldI_of (g22.cell (i := 0) rfl rfl) (ldI_of (g22.cell (i := 0) rfl rfl) (ldI_of (g22.cell (i := 0) rfl rfl) (ldI_of (g22.cell (i := 0) rfl rfl) (ldI_of (g22.cell (i := 0) rfl rfl) (ldI_of (g22.cell (i := 0) rfl rfl) (ldI_of (g22.cell (i := 0) rfl rfl) (ldI_of (g22.cell (i := 0) rfl rfl) (ldI_of (g22.cell (i := 0) rfl rfl) (ldI_of (g22.cell (i := 0) rfl rfl) (ldI_of (g22.cell (i := 0) rfl rfl) (ldI_of (g22.cell (i := 0) rfl rfl) (ldI_of (g22.cell (i := 0) rfl rfl) (ldI_of (g22.cell (i := 0) rfl rfl) (ldI_of (g22.cell (i := 0) rfl rfl) (ldI_of (g22.cell (i := 0) rfl rfl) (ldI_of (g22.cell (i := 0) rfl rfl) (ldI_of (g22.cell (i := 0) rfl rfl) (ldI_of (g22.cell (i := 0) rfl rfl) (ldI_of (g22.cell (i := 0) rfl rfl) (?_))))))))))))))))))))))
    refine St.sets (i := 1) (o := 0) (vs := [.int .i64 (confOf r).a0, .int .i64 (confOf r).a1, .int .i64 (confOf r).a2, .int .i64 (confOf r).a3, .int .i64 (confOf r).a4, .int .i64 (confOf r).a5, .int .i64 (confOf r).a6, .int .i64 (confOf r).a7, .int .i64 (confOf r).a8, .int .i64 (confOf r).a9, .int .i64 (confOf r).a10, .int .u64 (confOf r).a11, .int .u64 (confOf r).a12, .int .u64 (confOf r).a13, .int .u64 (confOf r).a14, .int .u64 (confOf r).a15, .int .u64 (confOf r).a16, .int .i64 (confOf r).a17, .int .i64 (confOf r).a18, .int .i64 (confOf r).a19, .int .u64 (confOf r).a20, .int .u64 (confOf r).a21]) g22 rfl (by simp) fun H23 g23 => ?_
    rw [setsA_all (by rfl)] at g23
    have g23 : St H0 (Prt.one bc (.cells #[.int .i64 (confOf r).a0, .int .i64 (confOf r).a1, .int .i64 (confOf r).a2, .int .i64 (confOf r).a3, .int .i64 (confOf r).a4, .int .i64 (confOf r).a5, .int .i64 (confOf r).a6, .int .i64 (confOf r).a7, .int .i64 (confOf r).a8, .int .i64 (confOf r).a9, .int .i64 (confOf r).a10, .int .u64 (confOf r).a11, .int .u64 (confOf r).a12, .int .u64 (confOf r).a13, .int .u64 (confOf r).a14, .int .u64 (confOf r).a15, .int .u64 (confOf r).a16, .int .i64 (confOf r).a17, .int .i64 (confOf r).a18, .int .i64 (confOf r).a19, .int .u64 (confOf r).a20, .int .u64 (confOf r).a21] ty_api_Config (0, 0)) :: Prt.one b25 (.cells #[.int .i64 (confOf r).a0, .int .i64 (confOf r).a1, .int .i64 (confOf r).a2, .int .i64 (confOf r).a3, .int .i64 (confOf r).a4, .int .i64 (confOf r).a5, .int .i64 (confOf r).a6, .int .i64 (confOf r).a7, .int .i64 (confOf r).a8, .int .i64 (confOf r).a9, .int .i64 (confOf r).a10, .int .u64 (confOf r).a11, .int .u64 (confOf r).a12, .int .u64 (confOf r).a13, .int .u64 (confOf r).a14, .int .u64 (confOf r).a15, .int .u64 (confOf r).a16, .int .i64 (confOf r).a17, .int .i64 (confOf r).a18, .int .i64 (confOf r).a19, .int .u64 (confOf r).a20, .int .u64 (confOf r).a21] ty_api_Config (0, 0)) :: Prt.one b23 (.cells #[.int .i64 r.a0, .int .i64 r.a1, .int .i64 r.a2, .int .i64 r.a3, .int .i64 r.a4, .int .i64 r.a5, .int .i64 r.a6, .int .i64 r.a7, .int .i64 r.a8, .int .i64 r.a9, .int .i64 r.a10, .int .i64 r.a11, .int .i64 r.a12, .int .i64 r.a13, .int .i64 r.a14, .int .i64 r.a15, .int .i64 r.a16, .int .i64 r.a17, .int .i64 r.a18, .int .i64 r.a19, .int .u64 r.a20, .int .u64 r.a21] ty_hand_Raw (0, 0)) :: L) H23 := g23
    refine ldI_of (g23.cell (i := 1) rfl rfl) (ldI_of (g23.cell (i := 1) rfl rfl) (ldI_of (g23.cell (i := 1) rfl rfl) (ldI_of (g23.cell (i := 1) rfl rfl) (ldI_of (g23.cell (i := 1) rfl rfl) (ldI_of (g23.cell (i := 1) rfl rfl) (ldI_of (g23.cell (i := 1) rfl rfl) (ldI_of (g23.cell (i := 1) rfl rfl) (ldI_of (g23.cell (i := 1) rfl rfl) (ldI_of (g23.cell (i := 1) rfl rfl) (ldI_of (g23.cell (i := 1) rfl rfl) (ldI_of (g23.cell (i := 1) rfl rfl) (ldI_of (g23.cell (i := 1) rfl rfl) (ldI_of (g23.cell (i := 1) rfl rfl) (ldI_of (g23.cell (i := 1) rfl rfl) (ldI_of (g23.cell (i := 1) rfl rfl) (ldI_of (g23.cell (i := 1) rfl rfl) (ldI_of (g23.cell (i := 1) rfl rfl) (ldI_of (g23.cell (i := 1) rfl rfl) (ldI_of (g23.cell (i := 1) rfl rfl) (ldI_of (g23.cell (i := 1) rfl rfl) (ldI_of (g23.cell (i := 1) rfl rfl) (?_))))))))))))))))))))))
    exact hK H23 (St.lesses (M := [_, _, _]) g23)
  have fin : ∀ bc H', St H0 (Prt.one bc (.cells #[.int .i64 0, .int .i64 0, .int .i64 0, .int .i64 0, .int .i64 0, .int .i64 0, .int .i64 0, .int .i64 0, .int .i64 0, .int .i64 0, .int .i64 0, .int .u64 0, .int .u64 0, .int .u64 0, .int .u64 0, .int .u64 0, .int .u64 0, .int .i64 0, .int .i64 0, .int .i64 0, .int .u64 0, .int .u64 0] ty_api_Config (0, 0)) :: Prt.one b25 (.cells #[.int .i64 0, .int .i64 0, .int .i64 0, .int .i64 0, .int .i64 0, .int .i64 0, .int .i64 0, .int .i64 0, .int .i64 0, .int .i64 0, .int .i64 0, .int .u64 0, .int .u64 0, .int .u64 0, .int .u64 0, .int .u64 0, .int .u64 0, .int .i64 0, .int .i64 0, .int .i64 0, .int .u64 0, .int .u64 0] ty_api_Config (0, 0)) :: Prt.one b23 (.cells #[.int .i64 r.a0, .int .i64 r.a1, .int .i64 r.a2, .int .i64 r.a3, .int .i64 r.a4, .int .i64 r.a5, .int .i64 r.a6, .int .i64 r.a7, .int .i64 r.a8, .int .i64 r.a9, .int .i64 r.a10, .int .i64 r.a11, .int .i64 r.a12, .int .i64 r.a13, .int .i64 r.a14, .int .i64 r.a15, .int .i64 r.a16, .int .i64 r.a17, .int .i64 r.a18, .int .i64 r.a19, .int .u64 r.a20, .int .u64 r.a21] ty_hand_Raw (0, 0)) :: L) H' → sts bc 0 [.int .i64 (confOf r).a0, .int .i64 (confOf r).a1, .int .i64 (confOf r).a2, .int .i64 (confOf r).a3, .int .i64 0, .int .i64 0, .int .i64 0, .int .i64 0, .int .i64 0, .int .i64 0, .int .i64 0, .int .u64 0, .int .u64 0, .int .u64 0, .int .u64 0, .int .u64 0, .int .u64 0, .int .i64 0, .int .i64 0, .int .i64 0, .int .u64 0, .int .u64 0] H' fun H'' => R27 (some ⟨bc, 0, none⟩) H'' := fun bc H' g => by
    refine St.sets (i := 0) g rfl (by simp) fun H2 g2 => ?_
    rw [setsA_all (by rfl)] at g2
    exact hR27 bc H2 g2
  clear hR27
  refine ldI_of (g2.cell (i := 1) rfl rfl) (ldI_of (g2.cell (i := 1) rfl rfl) (ldI_of (g2.cell (i := 1) rfl rfl) (ldI_of (g2.cell (i := 1) rfl rfl) ?_)))
  have pk0 : ∀ {n m : Int} {H : Hp} {K : Value → Hp → Prop}, 0 < m → m < 4611686018427387904 → K (.int .i64 (pick n m)) H → hcall PR f_hand_Pick ⟨[.int .i64 n, .int .i64 m]⟩ H K := fun h0 h1 h2 => Pick_ok h0 h1 h2
  refine ⟨Pick_ok (by decide) (by decide) ?_, ?_⟩
  · (try simp only [asI_mk', asB_mk, asP_mk, asA_mk, asM_mk, asSl_mk, asStr_mk, tup2_mk, tup3_mk, agg1_mk, agg2_mk, agg3_mk, agg4_mk, asAggm, unCons_mk, unNil_mk, asTup_mk, extractD0, extractD1, List.toList_toArray, nilP_mk, add_mk, Nat.zero_add, Nat.add_zero, condT, condF, Bool.not_true, Bool.not_false, Option.isNone_some, Option.isNone_none])
    refine ⟨ldI_of (g2.cell (i := 1) rfl rfl) rfl, ldI_of (g2.cell (i := 1) rfl rfl) rfl, ldI_of (g2.cell (i := 1) rfl rfl) rfl, ?_, ?_⟩
    · refine Pick_ok (by decide) (by decide) ?_
      (try simp only [asI_mk', asB_mk, asP_mk, asA_mk, asM_mk, asSl_mk, asStr_mk, tup2_mk, tup3_mk, agg1_mk, agg2_mk, agg3_mk, agg4_mk, asAggm, unCons_mk, unNil_mk, asTup_mk, extractD0, extractD1, List.toList_toArray, nilP_mk, add_mk, Nat.zero_add, Nat.add_zero, condT, condF, Bool.not_true, Bool.not_false, Option.isNone_some, Option.isNone_none])
      refine ⟨ldI_of (g2.cell (i := 1) rfl rfl) rfl, ldI_of (g2.cell (i := 1) rfl rfl) rfl, ?_, ?_⟩
      · refine Pick_ok (by decide) (by decide) ?_
        (try simp only [asI_mk', asB_mk, asP_mk, asA_mk, asM_mk, asSl_mk, asStr_mk, tup2_mk, tup3_mk, agg1_mk, agg2_mk, agg3_mk, agg4_mk, asAggm, unCons_mk, unNil_mk, asTup_mk, extractD0, extractD1, List.toList_toArray, nilP_mk, add_mk, Nat.zero_add, Nat.add_zero, condT, condF, Bool.not_true, Bool.not_false, Option.isNone_some, Option.isNone_none])
        refine ⟨ldI_of (g2.cell (i := 1) rfl rfl) rfl, ?_, ?_⟩
        · refine Pick_ok (by decide) (by decide) ?_
          (try simp only [asI_mk', asB_mk, asP_mk, asA_mk, asM_mk, asSl_mk, asStr_mk, tup2_mk, tup3_mk, agg1_mk, agg2_mk, agg3_mk, agg4_mk, asAggm, unCons_mk, unNil_mk, asTup_mk, extractD0, extractD1, List.toList_toArray, nilP_mk, add_mk, Nat.zero_add, Nat.add_zero, condT, condF, Bool.not_true, Bool.not_false, Option.isNone_some, Option.isNone_none])
          intro bc hbc
          have g3 := g2.alloc (o := .cells #[.int .i64 0, .int .i64 0, .int .i64 0, .int .i64 0, .int .i64 0, .int .i64 0, .int .i64 0, .int .i64 0, .int .i64 0, .int .i64 0, .int .i64 0, .int .u64 0, .int .u64 0, .int .u64 0, .int .u64 0, .int .u64 0, .int .u64 0, .int .i64 0, .int .i64 0, .int .i64 0, .int .u64 0, .int .u64 0] ty_api_Config) hbc
          exact fin bc _ g3
        · intro bc hbc
          have g3 := g2.alloc (o := .cells #[.int .i64 0, .int .i64 0, .int .i64 0, .int .i64 0, .int .i64 0, .int .i64 0, .int .i64 0, .int .i64 0, .int .i64 0, .int .i64 0, .int .i64 0, .int .u64 0, .int .u64 0, .int .u64 0, .int .u64 0, .int .u64 0, .int .u64 0, .int .i64 0, .int .i64 0, .int .i64 0, .int .u64 0, .int .u64 0] ty_api_Config) hbc
          refine ⟨ldI_of (g3.cell (i := 2) rfl rfl) rfl, Pick_ok (by decide) (by decide) ?_⟩
          (try simp only [asI_mk', asB_mk, asP_mk, asA_mk, asM_mk, asSl_mk, asStr_mk, tup2_mk, tup3_mk, agg1_mk, agg2_mk, agg3_mk, agg4_mk, asAggm, unCons_mk, unNil_mk, asTup_mk, extractD0, extractD1, List.toList_toArray, nilP_mk, add_mk, Nat.zero_add, Nat.add_zero, condT, condF, Bool.not_true, Bool.not_false, Option.isNone_some, Option.isNone_none])
          exact fin bc _ g3
      · intro bc hbc
        have g3 := g2.alloc (o := .cells #[.int .i64 0, .int .i64 0, .int .i64 0, .int .i64 0, .int .i64 0, .int .i64 0, .int .i64 0, .int .i64 0, .int .i64 0, .int .i64 0, .int .i64 0, .int .u64 0, .int .u64 0, .int .u64 0, .int .u64 0, .int .u64 0, .int .u64 0, .int .i64 0, .int .i64 0, .int .i64 0, .int .u64 0, .int .u64 0] ty_api_Config) hbc
        refine ⟨ldI_of (g3.cell (i := 2) rfl rfl) rfl, ldI_of (g3.cell (i := 2) rfl rfl) rfl, Pick_ok (by decide) (by decide) ?_⟩
        (try simp only [asI_mk', asB_mk, asP_mk, asA_mk, asM_mk, asSl_mk, asStr_mk, tup2_mk, tup3_mk, agg1_mk, agg2_mk, agg3_mk, agg4_mk, asAggm, unCons_mk, unNil_mk, asTup_mk, extractD0, extractD1, List.toList_toArray, nilP_mk, add_mk, Nat.zero_add, Nat.add_zero, condT, condF, Bool.not_true, Bool.not_false, Option.isNone_some, Option.isNone_none])
        refine ⟨ldI_of (g3.cell (i := 2) rfl rfl) rfl, Pick_ok (by decide) (by decide) ?_⟩
        (try simp only [asI_mk', asB_mk, asP_mk, asA_mk, asM_mk, asSl_mk, asStr_mk, tup2_mk, tup3_mk, agg1_mk, agg2_mk, agg3_mk, agg4_mk, asAggm, unCons_mk, unNil_mk, asTup_mk, extractD0, extractD1, List.toList_toArray, nilP_mk, add_mk, Nat.zero_add, Nat.add_zero, condT, condF, Bool.not_true, Bool.not_false, Option.isNone_some, Option.isNone_none])
        exact fin bc _ g3
    · intro bc hbc
      have g3 := g2.alloc (o := .cells #[.int .i64 0, .int .i64 0, .int .i64 0, .int .i64 0, .int .i64 0, .int .i64 0, .int .i64 0, .int .i64 0, .int .i64 0, .int .i64 0, .int .i64 0, .int .u64 0, .int .u64 0, .int .u64 0, .int .u64 0, .int .u64 0, .int .u64 0, .int .i64 0, .int .i64 0, .int .i64 0, .int .u64 0, .int .u64 0] ty_api_Config) hbc
      refine ⟨ldI_of (g3.cell (i := 2) rfl rfl) rfl, ldI_of (g3.cell (i := 2) rfl rfl) rfl, ldI_of (g3.cell (i := 2) rfl rfl) rfl, Pick_ok (by decide) (by decide) ?_⟩
      (try simp only [asI_mk', asB_mk, asP_mk, asA_mk, asM_mk, asSl_mk, asStr_mk, tup2_mk, tup3_mk, agg1_mk, agg2_mk, agg3_mk, agg4_mk, asAggm, unCons_mk, unNil_mk, asTup_mk, extractD0, extractD1, List.toList_toArray, nilP_mk, add_mk, Nat.zero_add, Nat.add_zero, condT, condF, Bool.not_true, Bool.not_false, Option.isNone_some, Option.isNone_none])
      refine ⟨ldI_of (g3.cell (i := 2) rfl rfl) rfl, ldI_of (g3.cell (i := 2) rfl rfl) rfl, Pick_ok (by decide) (by decide) ?_⟩
      (try simp only [asI_mk', asB_mk, asP_mk, asA_mk, asM_mk, asSl_mk, asStr_mk, tup2_mk, tup3_mk, agg1_mk, agg2_mk, agg3_mk, agg4_mk, asAggm, unCons_mk, unNil_mk, asTup_mk, extractD0, extractD1, List.toList_toArray, nilP_mk, add_mk, Nat.zero_add, Nat.add_zero, condT, condF, Bool.not_true, Bool.not_false, Option.isNone_some, Option.isNone_none])
      refine ⟨ldI_of (g3.cell (i := 2) rfl rfl) rfl, Pick_ok (by decide) (by decide) ?_⟩
      (try simp only [asI_mk', asB_mk, asP_mk, asA_mk, asM_mk, asSl_mk, asStr_mk, tup2_mk, tup3_mk, agg1_mk, agg2_mk, agg3_mk, agg4_mk, asAggm, unCons_mk, unNil_mk, asTup_mk, extractD0, extractD1, List.toList_toArray, nilP_mk, add_mk, Nat.zero_add, Nat.add_zero, condT, condF, Bool.not_true, Bool.not_false, Option.isNone_some, Option.isNone_none])
      exact fin bc _ g3
  · intro bc hbc
    have g3 := g2.alloc (o := .cells #[.int .i64 0, .int .i64 0, .int .i64 0, .int .i64 0, .int .i64 0, .int .i64 0, .int .i64 0, .int .i64 0, .int .i64 0, .int .i64 0, .int .i64 0, .int .u64 0, .int .u64 0, .int .u64 0, .int .u64 0, .int .u64 0, .int .u64 0, .int .i64 0, .int .i64 0, .int .i64 0, .int .u64 0, .int .u64 0] ty_api_Config) hbc
    refine ⟨ldI_of (g3.cell (i := 2) rfl rfl) rfl, ldI_of (g3.cell (i := 2) rfl rfl) rfl, ldI_of (g3.cell (i := 2) rfl rfl) rfl, ldI_of (g3.cell (i := 2) rfl rfl) rfl, Pick_ok (by decide) (by decide) ?_⟩
    (try simp only [asI_mk', asB_mk, asP_mk, asA_mk, asM_mk, asSl_mk, asStr_mk, tup2_mk, tup3_mk, agg1_mk, agg2_mk, agg3_mk, agg4_mk, asAggm, unCons_mk, unNil_mk, asTup_mk, extractD0, extractD1, List.toList_toArray, nilP_mk, add_mk, Nat.zero_add, Nat.add_zero, condT, condF, Bool.not_true, Bool.not_false, Option.isNone_some, Option.isNone_none])
    refine ⟨ldI_of (g3.cell (i := 2) rfl rfl) rfl, ldI_of (g3.cell (i := 2) rfl rfl) rfl, ldI_of (g3.cell (i := 2) rfl rfl) rfl, Pick_ok (by decide) (by decide) ?_⟩
    (try simp only [asI_mk', asB_mk, asP_mk, asA_mk, asM_mk, asSl_mk, asStr_mk, tup2_mk, tup3_mk, agg1_mk, agg2_mk, agg3_mk, agg4_mk, asAggm, unCons_mk, unNil_mk, asTup_mk, extractD0, extractD1, List.toList_toArray, nilP_mk, add_mk, Nat.zero_add, Nat.add_zero, condT, condF, Bool.not_true, Bool.not_false, Option.isNone_some, Option.isNone_none])
    refine ⟨ldI_of (g3.cell (i := 2) rfl rfl) rfl, ldI_of (g3.cell (i := 2) rfl rfl) rfl, Pick_ok (by decide) (by decide) ?_⟩
    (try simp only [asI_mk', asB_mk, asP_mk, asA_mk, asM_mk, asSl_mk, asStr_mk, tup2_mk, tup3_mk, agg1_mk, agg2_mk, agg3_mk, agg4_mk, asAggm, unCons_mk, unNil_mk, asTup_mk, extractD0, extractD1, List.toList_toArray, nilP_mk, add_mk, Nat.zero_add, Nat.add_zero, condT, condF, Bool.not_true, Bool.not_false, Option.isNone_some, Option.isNone_none])
    refine ⟨ldI_of (g3.cell (i := 2) rfl rfl) rfl, Pick_ok (by decide) (by decide) ?_⟩
    (try simp only [asI_mk', asB_mk, asP_mk, asA_mk, asM_mk, asSl_mk, asStr_mk, tup2_mk, tup3_mk, agg1_mk, agg2_mk, agg3_mk, agg4_mk, asAggm, unCons_mk, unNil_mk, asTup_mk, extractD0, extractD1, List.toList_toArray, nilP_mk, add_mk, Nat.zero_add, Nat.add_zero, condT, condF, Bool.not_true, Bool.not_false, Option.isNone_some, Option.isNone_none])
    exact fin bc _ g3
end
end Go.Proofs.Ytknejebggegfjaa

namespace Go.Proofs.Ytknejebggegfjaa
open Go
set_option linter.unusedVariables false
set_option maxRecDepth 100000
def B_law23_known  (H : Hp) (K : Value → Hp → Prop) : Prop :=
 hcall PR f_hand_Config ⟨[(.agg #[(.int .i64 0), (.int .i64 0), (.int .i64 0), (.int .i64 0), (.int .i64 0), (.int .i64 0), (.int .i64 0), (.int .i64 0), (.int .i64 0), (.int .i64 0), (.int .i64 0), (.int .i64 0), (.int .i64 0), (.int .i64 0), (.int .i64 0), (.int .i64 0), (.int .i64 0), (.int .i64 0), (.int .i64 0), (.int .i64 0), (.int .u64 0), (.int .u64 0)])]⟩ H fun v1 Hx2 =>
 asAgg' v1 fun cs3 =>
 unCons cs3.toList fun v4 r5 =>
 unCons r5 fun v6 r7 =>
 unCons r7 fun v8 r9 =>
 unCons r9 fun v10 r11 =>
 unCons r11 fun v12 r13 =>
 unCons r13 fun v14 r15 =>
 unCons r15 fun v16 r17 =>
 unCons r17 fun v18 r19 =>
 unCons r19 fun v20 r21 =>
 unCons r21 fun v22 r23 =>
 unCons r23 fun v24 r25 =>
 unCons r25 fun v26 r27 =>
 unCons r27 fun v28 r29 =>
 unCons r29 fun v30 r31 =>
 unCons r31 fun v32 r33 =>
 unCons r33 fun v34 r35 =>
 unCons r35 fun v36 r37 =>
 unCons r37 fun v38 r39 =>
 unCons r39 fun v40 r41 =>
 unCons r41 fun v42 r43 =>
 unCons r43 fun v44 r45 =>
 unCons r45 fun v46 r47 =>
 unNil r47 <|
 asI .i64 v4 fun Nodes48 =>
 asI .i64 v6 fun Mutators49 =>
 asI .i64 v8 fun Slots50 =>
 asI .i64 v10 fun Cells51 =>
 asI .i64 v12 fun Objects52 =>
 asI .i64 v14 fun Stubs53 =>
 asI .i64 v16 fun Calls54 =>
 asI .i64 v18 fun Window55 =>
 asI .i64 v20 fun Grey56 =>
 asI .i64 v22 fun Bag57 =>
 asI .i64 v24 fun Inbox58 =>
 asI .u64 v26 fun Unit59 =>
 asI .u64 v28 fun Drift60 =>
 asI .u64 v30 fun Lease61 =>
 asI .u64 v32 fun Wait62 =>
 asI .u64 v34 fun Most63 =>
 asI .u64 v36 fun Patience64 =>
 asI .i64 v38 fun Suspect65 =>
 asI .i64 v40 fun Trace66 =>
 asI .i64 v42 fun Work67 =>
 asI .u64 v44 fun Start68 =>
 asI .u64 v46 fun Last69 =>
 hcall PR f_trace_New ⟨[(.agg #[(.int .i64 Nodes48), (.int .i64 Mutators49), (.int .i64 Slots50), (.int .i64 Cells51), (.int .i64 Objects52), (.int .i64 Stubs53), (.int .i64 Calls54), (.int .i64 Window55), (.int .i64 Grey56), (.int .i64 Bag57), (.int .i64 Inbox58), (.int .u64 Unit59), (.int .u64 Drift60), (.int .u64 Lease61), (.int .u64 Wait62), (.int .u64 Most63), (.int .u64 Patience64), (.int .i64 Suspect65), (.int .i64 Trace66), (.int .i64 Work67), (.int .u64 Start68), (.int .u64 Last69)]), (.int .i64 1), (.int .u64 0)]⟩ Hx2 fun v70 Hx71 =>
 tup2 v70 fun v72 v73 =>
 asP v72 fun t74 =>
 asI .i64 v73 fun t75 =>
 (bif ((t75 : Int) != 0) then
 K (.bool false) Hx71
else
 (bif (Option.isNone (α := Addr) t74) then
 K (.bool false) Hx71
else
 hcall PR f_law23_stub ⟨[]⟩ Hx71 fun v76 Hx77 =>
 agg2 v76 fun v78 v79 =>
 asI .i64 v78 fun Node80 =>
 asI .u64 v79 fun Serial81 =>
 hcall PR f_trace_Trace_Begin ⟨[(.pointer t74), (.agg #[(.int .i64 Node80), (.int .u64 Serial81)]), (.int .u64 5)]⟩ Hx77 fun v82 Hx83 =>
 asI .i64 v82 fun t84 =>
 (bif ((t84 : Int) != 0) then
 K (.bool false) Hx83
else
 hcall PR f_trace_Trace_Step ⟨[(.pointer t74), (.int .u64 5)]⟩ Hx83 fun v85 Hx86 =>
 tup2 v85 fun v87 v88 =>
 asAgg' v87 fun cs89 =>
 unCons cs89.toList fun v90 r91 =>
 unCons r91 fun v92 r93 =>
 unCons r93 fun v94 r95 =>
 unCons r95 fun v96 r97 =>
 unCons r97 fun v98 r99 =>
 unCons r99 fun v100 r101 =>
 unCons r101 fun v102 r103 =>
 unCons r103 fun v104 r105 =>
 unCons r105 fun v106 r107 =>
 unCons r107 fun v108 r109 =>
 unCons r109 fun v110 r111 =>
 unCons r111 fun v112 r113 =>
 unCons r113 fun v114 r115 =>
 unCons r115 fun v116 r117 =>
 unCons r117 fun v118 r119 =>
 unCons r119 fun v120 r121 =>
 unCons r121 fun v122 r123 =>
 unCons r123 fun v124 r125 =>
 unCons r125 fun v126 r127 =>
 unNil r127 <|
 asI .i64 v90 fun Kind128 =>
 asI .i64 v92 fun From129 =>
 asI .i64 v94 fun To130 =>
 asI .u64 v96 fun Call131 =>
 asI .u64 v98 fun Floor132 =>
 asI .i64 v100 fun Op133 =>
 asI .i64 v102 fun Field134 =>
 asI .i64 v104 fun Item135 =>
 asI .i64 v106 fun Node136 =>
 asI .u64 v108 fun Serial137 =>
 asSl v110 fun RefsP138 RefsL139 RefsC140 =>
 asI .u64 v112 fun Value141 =>
 asI .i64 v114 fun Code142 =>
 asI .u64 v116 fun Seq143 =>
 asI .i64 v118 fun Voucher144 =>
 asI .u64 v120 fun At145 =>
 asI .i64 v122 fun Dist146 =>
 asI .u64 v124 fun Stamp147 =>
 asSl v126 fun ListP148 ListL149 ListC150 =>
 asB v88 fun t151 =>
 newB (.cells #[(.int .i64 0), (.int .i64 0), (.int .i64 0), (.int .u64 0), (.int .u64 0), (.int .i64 0), (.int .i64 0), (.int .i64 0), (.int .i64 0), (.int .u64 0), (.slice none 0 0), (.int .u64 0), (.int .i64 0), (.int .u64 0), (.int .i64 0), (.int .u64 0), (.int .i64 0), (.int .u64 0), (.slice none 0 0)] ty_api_Msg) Hx86 fun b152 Hx153 =>
 st ⟨b152, 0, none⟩ (.int .i64 Kind128) Hx153 fun Hx154 =>
 st ⟨b152, 1, none⟩ (.int .i64 From129) Hx154 fun Hx155 =>
 st ⟨b152, 2, none⟩ (.int .i64 To130) Hx155 fun Hx156 =>
 st ⟨b152, 3, none⟩ (.int .u64 Call131) Hx156 fun Hx157 =>
 st ⟨b152, 4, none⟩ (.int .u64 Floor132) Hx157 fun Hx158 =>
 st ⟨b152, 5, none⟩ (.int .i64 Op133) Hx158 fun Hx159 =>
 st ⟨b152, 6, none⟩ (.int .i64 Field134) Hx159 fun Hx160 =>
 st ⟨b152, 7, none⟩ (.int .i64 Item135) Hx160 fun Hx161 =>
 st ⟨b152, 8, none⟩ (.int .i64 Node136) Hx161 fun Hx162 =>
 st ⟨b152, 9, none⟩ (.int .u64 Serial137) Hx162 fun Hx163 =>
 st ⟨b152, 10, none⟩ (.slice RefsP138 RefsL139 RefsC140) Hx163 fun Hx164 =>
 st ⟨b152, 11, none⟩ (.int .u64 Value141) Hx164 fun Hx165 =>
 st ⟨b152, 12, none⟩ (.int .i64 Code142) Hx165 fun Hx166 =>
 st ⟨b152, 13, none⟩ (.int .u64 Seq143) Hx166 fun Hx167 =>
 st ⟨b152, 14, none⟩ (.int .i64 Voucher144) Hx167 fun Hx168 =>
 st ⟨b152, 15, none⟩ (.int .u64 At145) Hx168 fun Hx169 =>
 st ⟨b152, 16, none⟩ (.int .i64 Dist146) Hx169 fun Hx170 =>
 st ⟨b152, 17, none⟩ (.int .u64 Stamp147) Hx170 fun Hx171 =>
 st ⟨b152, 18, none⟩ (.slice ListP148 ListL149 ListC150) Hx171 fun Hx172 =>
 newB (.cells #[(.int .u64 4)] ty_uint64) Hx172 fun b173 Hx174 =>
 hcall PR f_trace_Trace_Hear ⟨[(.pointer t74), (.agg #[(.int .i64 9), (.int .i64 1), (.int .i64 1), (.int .u64 1), (.int .u64 0), (.int .i64 0), (.int .i64 0), (.int .i64 0), (.int .i64 0), (.int .u64 0), (.slice none 0 0), (.int .u64 0), (.int .i64 2), (.int .u64 0), (.int .i64 0), (.int .u64 0), (.int .i64 0), (.int .u64 3), (.slice (some ⟨b173, 0, none⟩) 1 1)])]⟩ Hx174 fun v175 Hx176 =>
 asB v175 fun t177 =>
 hcall PR f_trace_Trace_Step ⟨[(.pointer t74), (.int .u64 5)]⟩ Hx176 fun v178 Hx179 =>
 tup2 v178 fun v180 v181 =>
 asAgg' v180 fun cs182 =>
 unCons cs182.toList fun v183 r184 =>
 unCons r184 fun v185 r186 =>
 unCons r186 fun v187 r188 =>
 unCons r188 fun v189 r190 =>
 unCons r190 fun v191 r192 =>
 unCons r192 fun v193 r194 =>
 unCons r194 fun v195 r196 =>
 unCons r196 fun v197 r198 =>
 unCons r198 fun v199 r200 =>
 unCons r200 fun v201 r202 =>
 unCons r202 fun v203 r204 =>
 unCons r204 fun v205 r206 =>
 unCons r206 fun v207 r208 =>
 unCons r208 fun v209 r210 =>
 unCons r210 fun v211 r212 =>
 unCons r212 fun v213 r214 =>
 unCons r214 fun v215 r216 =>
 unCons r216 fun v217 r218 =>
 unCons r218 fun v219 r220 =>
 unNil r220 <|
 asI .i64 v183 fun Kind221 =>
 asI .i64 v185 fun From222 =>
 asI .i64 v187 fun To223 =>
 asI .u64 v189 fun Call224 =>
 asI .u64 v191 fun Floor225 =>
 asI .i64 v193 fun Op226 =>
 asI .i64 v195 fun Field227 =>
 asI .i64 v197 fun Item228 =>
 asI .i64 v199 fun Node229 =>
 asI .u64 v201 fun Serial230 =>
 asSl v203 fun RefsP231 RefsL232 RefsC233 =>
 asI .u64 v205 fun Value234 =>
 asI .i64 v207 fun Code235 =>
 asI .u64 v209 fun Seq236 =>
 asI .i64 v211 fun Voucher237 =>
 asI .u64 v213 fun At238 =>
 asI .i64 v215 fun Dist239 =>
 asI .u64 v217 fun Stamp240 =>
 asSl v219 fun ListP241 ListL242 ListC243 =>
 asB v181 fun t244 =>
 newB (.cells #[(.int .i64 0), (.int .i64 0), (.int .i64 0), (.int .u64 0), (.int .u64 0), (.int .i64 0), (.int .i64 0), (.int .i64 0), (.int .i64 0), (.int .u64 0), (.slice none 0 0), (.int .u64 0), (.int .i64 0), (.int .u64 0), (.int .i64 0), (.int .u64 0), (.int .i64 0), (.int .u64 0), (.slice none 0 0)] ty_api_Msg) Hx179 fun b245 Hx246 =>
 st ⟨b245, 0, none⟩ (.int .i64 Kind221) Hx246 fun Hx247 =>
 st ⟨b245, 1, none⟩ (.int .i64 From222) Hx247 fun Hx248 =>
 st ⟨b245, 2, none⟩ (.int .i64 To223) Hx248 fun Hx249 =>
 st ⟨b245, 3, none⟩ (.int .u64 Call224) Hx249 fun Hx250 =>
 st ⟨b245, 4, none⟩ (.int .u64 Floor225) Hx250 fun Hx251 =>
 st ⟨b245, 5, none⟩ (.int .i64 Op226) Hx251 fun Hx252 =>
 st ⟨b245, 6, none⟩ (.int .i64 Field227) Hx252 fun Hx253 =>
 st ⟨b245, 7, none⟩ (.int .i64 Item228) Hx253 fun Hx254 =>
 st ⟨b245, 8, none⟩ (.int .i64 Node229) Hx254 fun Hx255 =>
 st ⟨b245, 9, none⟩ (.int .u64 Serial230) Hx255 fun Hx256 =>
 st ⟨b245, 10, none⟩ (.slice RefsP231 RefsL232 RefsC233) Hx256 fun Hx257 =>
 st ⟨b245, 11, none⟩ (.int .u64 Value234) Hx257 fun Hx258 =>
 st ⟨b245, 12, none⟩ (.int .i64 Code235) Hx258 fun Hx259 =>
 st ⟨b245, 13, none⟩ (.int .u64 Seq236) Hx259 fun Hx260 =>
 st ⟨b245, 14, none⟩ (.int .i64 Voucher237) Hx260 fun Hx261 =>
 st ⟨b245, 15, none⟩ (.int .u64 At238) Hx261 fun Hx262 =>
 st ⟨b245, 16, none⟩ (.int .i64 Dist239) Hx262 fun Hx263 =>
 st ⟨b245, 17, none⟩ (.int .u64 Stamp240) Hx263 fun Hx264 =>
 st ⟨b245, 18, none⟩ (.slice ListP241 ListL242 ListC243) Hx264 fun Hx265 =>
 hcall PR f_trace_Trace_Hear ⟨[(.pointer t74), (.agg #[(.int .i64 9), (.int .i64 1), (.int .i64 1), (.int .u64 1), (.int .u64 0), (.int .i64 0), (.int .i64 0), (.int .i64 1), (.int .i64 0), (.int .u64 0), (.slice none 0 0), (.int .u64 0), (.int .i64 0), (.int .u64 0), (.int .i64 0), (.int .u64 0), (.int .i64 0), (.int .u64 0), (.slice none 0 0)])]⟩ Hx265 fun v266 Hx267 =>
 asB v266 fun t268 =>
 hcall PR f_trace_Trace_State ⟨[(.pointer t74)]⟩ Hx267 fun v269 Hx270 =>
 asI .i64 v269 fun t271 =>
 hcall PR f_trace_Trace_Hear ⟨[(.pointer t74), (.agg #[(.int .i64 9), (.int .i64 1), (.int .i64 1), (.int .u64 1), (.int .u64 0), (.int .i64 0), (.int .i64 0), (.int .i64 2), (.int .i64 0), (.int .u64 0), (.slice none 0 0), (.int .u64 0), (.int .i64 2), (.int .u64 0), (.int .i64 0), (.int .u64 0), (.int .i64 0), (.int .u64 3), (.slice none 0 0)])]⟩ Hx270 fun v272 Hx273 =>
 asB v272 fun t274 =>
 hcall PR f_trace_Trace_Count ⟨[(.pointer t74)]⟩ Hx273 fun v275 Hx276 =>
 tup2 v275 fun v277 v278 =>
 asI .u64 v277 fun t279 =>
 asI .i64 v278 fun t280 =>
 (bif t151 then
 ldI .i64 ⟨b152, 0, none⟩ Hx276 fun Kind281 =>
 (bif ((Kind281 : Int) == 8) then
 ldI .i64 ⟨b152, 5, none⟩ Hx276 fun Op282 =>
 (bif ((Op282 : Int) == 2) then
 ldI .i64 ⟨b152, 2, none⟩ Hx276 fun To283 =>
 (bif ((To283 : Int) == 1) then
 ldI .i64 ⟨b152, 7, none⟩ Hx276 fun Item284 =>
 (bif ((Item284 : Int) == 0) then
 (bif t177 then
 (bif t244 then
 ldI .i64 ⟨b245, 5, none⟩ Hx276 fun Op285 =>
 (bif ((Op285 : Int) == 1) then
 ldI .i64 ⟨b245, 8, none⟩ Hx276 fun Node286 =>
 ldI .u64 ⟨b245, 9, none⟩ Hx276 fun Serial287 =>
 evR PR (aggEq .eql ty_api_ID #[(.int .i64 Node286), (.int .u64 Serial287)] #[(.int .i64 1), (.int .u64 4)]) Hx276 fun v288 =>
 asB v288 fun eq289 =>
 (bif eq289 then
 ldI .i64 ⟨b245, 7, none⟩ Hx276 fun Item290 =>
 (bif ((Item290 : Int) == 1) then
 (bif t268 then
 (bif ((t271 : Int) == 2) then
 (bif t274 then
 hcall PR f_trace_Trace_State ⟨[(.pointer t74)]⟩ Hx276 fun v291 Hx292 =>
 asI .i64 v291 fun t293 =>
 (bif ((t293 : Int) == 0) then
 (bif ((t279 : Int) == 1) then
 K (.bool ((t280 : Int) == 1)) Hx292
else
 K (.bool false) Hx292)
else
 K (.bool false) Hx292)
else
 K (.bool false) Hx276)
else
 K (.bool false) Hx276)
else
 K (.bool false) Hx276)
else
 K (.bool false) Hx276)
else
 K (.bool false) Hx276)
else
 K (.bool false) Hx276)
else
 K (.bool false) Hx276)
else
 K (.bool false) Hx276)
else
 K (.bool false) Hx276)
else
 K (.bool false) Hx276)
else
 K (.bool false) Hx276)
else
 K (.bool false) Hx276)
else
 K (.bool false) Hx276))))
theorem E_law23_known  (H : Hp) (K : Value → Hp → Prop) : B_law23_known  H K = denF Try.prog Try.f28 .n [] H K := by kernel_rfl
theorem den_law23_known  {H : Hp} {K : Value → Hp → Prop} (h : B_law23_known  H K) : hcall PR f_law23_known ⟨[]⟩ H K := denF_call Try.func28 PR_mixed (Eq.mp (E_law23_known  H K) h)

def B_law23_stub  (H : Hp) (K : Value → Hp → Prop) : Prop :=
 newB (.cells #[(.int .i64 0), (.int .u64 0)] ty_api_ID) H fun b1 Hx2 =>
 st ⟨b1, 0, none⟩ (.int .i64 2) Hx2 fun Hx3 =>
 st ⟨b1, 1, none⟩ (.int .u64 7) Hx3 fun Hx4 =>
 ldI .i64 ⟨b1, 0, none⟩ Hx4 fun Node5 =>
 ldI .u64 ⟨b1, 1, none⟩ Hx4 fun Serial6 =>
 K (.agg #[(.int .i64 Node5), (.int .u64 Serial6)]) Hx4
theorem E_law23_stub  (H : Hp) (K : Value → Hp → Prop) : B_law23_stub  H K = denF Try.prog Try.f30 .n [] H K := by kernel_rfl
theorem den_law23_stub  {H : Hp} {K : Value → Hp → Prop} (h : B_law23_stub  H K) : hcall PR f_law23_stub ⟨[]⟩ H K := denF_call Try.func30 PR_mixed (Eq.mp (E_law23_stub  H K) h)

def B_law23_told (cNodes1 : Int) (cMutators2 : Int) (cSlots3 : Int) (cCells4 : Int) (cObjects5 : Int) (cStubs6 : Int) (cCalls7 : Int) (cWindow8 : Int) (cGrey9 : Int) (cBag10 : Int) (cInbox11 : Int) (cUnit12 : Int) (cDrift13 : Int) (cLease14 : Int) (cWait15 : Int) (cMost16 : Int) (cPatience17 : Int) (cSuspect18 : Int) (cTrace19 : Int) (cWork20 : Int) (cStart21 : Int) (cLast22 : Int) (qKind23 : Int) (qFrom24 : Int) (qTo25 : Int) (qCall26 : Int) (qFloor27 : Int) (qOp28 : Int) (qField29 : Int) (qItem30 : Int) (qNode31 : Int) (qSerial32 : Int) (qRefsP33 : Option Addr) (qRefsL34 : Nat) (qRefsC35 : Nat) (qValue36 : Int) (qCode37 : Int) (qSeq38 : Int) (qVoucher39 : Int) (qAt40 : Int) (qDist41 : Int) (qStamp42 : Int) (qListP43 : Option Addr) (qListL44 : Nat) (qListC45 : Nat) (xWhat46 : Int) (xCode47 : Int) (xOff48 : Int) (xStamp49 : Int) (xN50 : Int) (xListP51 : Option Addr) (xListL52 : Nat) (xListC53 : Nat) (xNear54 : Bool) (xKind55 : Int) (xFrom56 : Int) (xTo57 : Int) (xCall58 : Int) (xFloor59 : Int) (xOp60 : Int) (xField61 : Int) (xItem62 : Int) (xNode63 : Int) (xSerial64 : Int) (xRefsP65 : Option Addr) (xRefsL66 : Nat) (xRefsC67 : Nat) (xValue68 : Int) (xCode69 : Int) (xSeq70 : Int) (xVoucher71 : Int) (xAt72 : Int) (xDist73 : Int) (xStamp74 : Int) (xListP75 : Option Addr) (xListL76 : Nat) (xListC77 : Nat) (H : Hp) (K : Value → Hp → Prop) : Prop :=
 newB (.cells #[(.int .i64 cNodes1), (.int .i64 cMutators2), (.int .i64 cSlots3), (.int .i64 cCells4), (.int .i64 cObjects5), (.int .i64 cStubs6), (.int .i64 cCalls7), (.int .i64 cWindow8), (.int .i64 cGrey9), (.int .i64 cBag10), (.int .i64 cInbox11), (.int .u64 cUnit12), (.int .u64 cDrift13), (.int .u64 cLease14), (.int .u64 cWait15), (.int .u64 cMost16), (.int .u64 cPatience17), (.int .i64 cSuspect18), (.int .i64 cTrace19), (.int .i64 cWork20), (.int .u64 cStart21), (.int .u64 cLast22)] ty_api_Config) H fun b78 Hx79 =>
 newB (.cells #[(.int .i64 qKind23), (.int .i64 qFrom24), (.int .i64 qTo25), (.int .u64 qCall26), (.int .u64 qFloor27), (.int .i64 qOp28), (.int .i64 qField29), (.int .i64 qItem30), (.int .i64 qNode31), (.int .u64 qSerial32), (.slice qRefsP33 qRefsL34 qRefsC35), (.int .u64 qValue36), (.int .i64 qCode37), (.int .u64 qSeq38), (.int .i64 qVoucher39), (.int .u64 qAt40), (.int .i64 qDist41), (.int .u64 qStamp42), (.slice qListP43 qListL44 qListC45)] ty_api_Msg) Hx79 fun b80 Hx81 =>
 newB (.cells #[(.int .i64 xWhat46), (.int .i64 xCode47), (.int .i64 xOff48), (.int .u64 xStamp49), (.int .u64 xN50), (.slice xListP51 xListL52 xListC53), (.bool xNear54), (.int .i64 xKind55), (.int .i64 xFrom56), (.int .i64 xTo57), (.int .u64 xCall58), (.int .u64 xFloor59), (.int .i64 xOp60), (.int .i64 xField61), (.int .i64 xItem62), (.int .i64 xNode63), (.int .u64 xSerial64), (.slice xRefsP65 xRefsL66 xRefsC67), (.int .u64 xValue68), (.int .i64 xCode69), (.int .u64 xSeq70), (.int .i64 xVoucher71), (.int .u64 xAt72), (.int .i64 xDist73), (.int .u64 xStamp74), (.slice xListP75 xListL76 xListC77)] ty_law23_Step) Hx81 fun b82 Hx83 =>
 newB (.cells #[(.int .i64 0), (.int .i64 0), (.int .i64 0), (.int .u64 0), (.int .u64 0), (.int .i64 0), (.int .i64 0), (.int .i64 0), (.int .i64 0), (.int .u64 0), (.slice none 0 0), (.int .u64 0), (.int .i64 0), (.int .u64 0), (.int .i64 0), (.int .u64 0), (.int .i64 0), (.int .u64 0), (.slice none 0 0)] ty_api_Msg) Hx83 fun b84 Hx85 =>
 ∀ R86 : Option Addr → Hp → Prop, (∀ m88 : Option Addr, ∀ Hx87 : Hp, (
 ∀ R89 : Hp → Prop, (∀ Hx90 : Hp, (
 ∀ R91 : Hp → Prop, (∀ Hx92 : Hp, (
 ∀ R93 : Hp → Prop, (∀ Hx94 : Hp, (
 ∀ R95 : Hp → Prop, (∀ Hx96 : Hp, (
 asA (.pointer m88) fun ma97 =>
 ldI .i64 ma97 Hx96 fun Kind98 =>
 ldI .i64 (ma97.add 1) Hx96 fun From99 =>
 ldI .i64 (ma97.add 2) Hx96 fun To100 =>
 ldI .u64 (ma97.add 3) Hx96 fun Call101 =>
 ldI .u64 (ma97.add 4) Hx96 fun Floor102 =>
 ldI .i64 (ma97.add 5) Hx96 fun Op103 =>
 ldI .i64 (ma97.add 6) Hx96 fun Field104 =>
 ldI .i64 (ma97.add 7) Hx96 fun Item105 =>
 ldI .i64 (ma97.add 8) Hx96 fun Node106 =>
 ldI .u64 (ma97.add 9) Hx96 fun Serial107 =>
 ldSl (ma97.add 10) Hx96 fun RefsP108 RefsL109 RefsC110 =>
 ldI .u64 (ma97.add 11) Hx96 fun Value111 =>
 ldI .i64 (ma97.add 12) Hx96 fun Code112 =>
 ldI .u64 (ma97.add 13) Hx96 fun Seq113 =>
 ldI .i64 (ma97.add 14) Hx96 fun Voucher114 =>
 ldI .u64 (ma97.add 15) Hx96 fun At115 =>
 ldI .i64 (ma97.add 16) Hx96 fun Dist116 =>
 ldI .u64 (ma97.add 17) Hx96 fun Stamp117 =>
 ldSl (ma97.add 18) Hx96 fun ListP118 ListL119 ListC120 =>
 st ⟨b84, 0, none⟩ (.int .i64 Kind98) Hx96 fun Hx121 =>
 st ⟨b84, 1, none⟩ (.int .i64 From99) Hx121 fun Hx122 =>
 st ⟨b84, 2, none⟩ (.int .i64 To100) Hx122 fun Hx123 =>
 st ⟨b84, 3, none⟩ (.int .u64 Call101) Hx123 fun Hx124 =>
 st ⟨b84, 4, none⟩ (.int .u64 Floor102) Hx124 fun Hx125 =>
 st ⟨b84, 5, none⟩ (.int .i64 Op103) Hx125 fun Hx126 =>
 st ⟨b84, 6, none⟩ (.int .i64 Field104) Hx126 fun Hx127 =>
 st ⟨b84, 7, none⟩ (.int .i64 Item105) Hx127 fun Hx128 =>
 st ⟨b84, 8, none⟩ (.int .i64 Node106) Hx128 fun Hx129 =>
 st ⟨b84, 9, none⟩ (.int .u64 Serial107) Hx129 fun Hx130 =>
 st ⟨b84, 10, none⟩ (.slice RefsP108 RefsL109 RefsC110) Hx130 fun Hx131 =>
 st ⟨b84, 11, none⟩ (.int .u64 Value111) Hx131 fun Hx132 =>
 st ⟨b84, 12, none⟩ (.int .i64 Code112) Hx132 fun Hx133 =>
 st ⟨b84, 13, none⟩ (.int .u64 Seq113) Hx133 fun Hx134 =>
 st ⟨b84, 14, none⟩ (.int .i64 Voucher114) Hx134 fun Hx135 =>
 st ⟨b84, 15, none⟩ (.int .u64 At115) Hx135 fun Hx136 =>
 st ⟨b84, 16, none⟩ (.int .i64 Dist116) Hx136 fun Hx137 =>
 st ⟨b84, 17, none⟩ (.int .u64 Stamp117) Hx137 fun Hx138 =>
 st ⟨b84, 18, none⟩ (.slice ListP118 ListL119 ListC120) Hx138 fun Hx139 =>
 ldI .i64 ⟨b84, 0, none⟩ Hx139 fun Kind140 =>
 ldI .i64 ⟨b84, 1, none⟩ Hx139 fun From141 =>
 ldI .i64 ⟨b84, 2, none⟩ Hx139 fun To142 =>
 ldI .u64 ⟨b84, 3, none⟩ Hx139 fun Call143 =>
 ldI .u64 ⟨b84, 4, none⟩ Hx139 fun Floor144 =>
 ldI .i64 ⟨b84, 5, none⟩ Hx139 fun Op145 =>
 ldI .i64 ⟨b84, 6, none⟩ Hx139 fun Field146 =>
 ldI .i64 ⟨b84, 7, none⟩ Hx139 fun Item147 =>
 ldI .i64 ⟨b84, 8, none⟩ Hx139 fun Node148 =>
 ldI .u64 ⟨b84, 9, none⟩ Hx139 fun Serial149 =>
 ldSl ⟨b84, 10, none⟩ Hx139 fun RefsP150 RefsL151 RefsC152 =>
 ldI .u64 ⟨b84, 11, none⟩ Hx139 fun Value153 =>
 ldI .i64 ⟨b84, 12, none⟩ Hx139 fun Code154 =>
 ldI .u64 ⟨b84, 13, none⟩ Hx139 fun Seq155 =>
 ldI .i64 ⟨b84, 14, none⟩ Hx139 fun Voucher156 =>
 ldI .u64 ⟨b84, 15, none⟩ Hx139 fun At157 =>
 ldI .i64 ⟨b84, 16, none⟩ Hx139 fun Dist158 =>
 ldI .u64 ⟨b84, 17, none⟩ Hx139 fun Stamp159 =>
 ldSl ⟨b84, 18, none⟩ Hx139 fun ListP160 ListL161 ListC162 =>
 K (.agg #[(.int .i64 Kind140), (.int .i64 From141), (.int .i64 To142), (.int .u64 Call143), (.int .u64 Floor144), (.int .i64 Op145), (.int .i64 Field146), (.int .i64 Item147), (.int .i64 Node148), (.int .u64 Serial149), (.slice RefsP150 RefsL151 RefsC152), (.int .u64 Value153), (.int .i64 Code154), (.int .u64 Seq155), (.int .i64 Voucher156), (.int .u64 At157), (.int .i64 Dist158), (.int .u64 Stamp159), (.slice ListP160 ListL161 ListC162)]) Hx139) → R95 Hx96) →
 ldI .i64 ⟨b82, 2, none⟩ Hx94 fun Off163 =>
 hcall PR f_hand_Pick ⟨[(.int .i64 Off163), (.int .i64 24)]⟩ Hx94 fun v164 Hx165 =>
 asI .i64 v164 fun t166 =>
 (bif ((t166 : Int) == 1) then
 asA (.pointer m88) fun ma167 =>
 st (ma167.add 17) (.int .u64 4) Hx165 fun Hx168 =>
 R95 Hx168
else
 (bif ((t166 : Int) == 2) then
 asA (.pointer m88) fun ma169 =>
 ldI .i64 (ma169.add 7) Hx165 fun Item170 =>
 asA (.pointer m88) fun ma171 =>
 st (ma171.add 7) (.int .i64 (IntKind.i64.wrap (Item170 + 1))) Hx165 fun Hx172 =>
 R95 Hx172
else
 (bif ((t166 : Int) == 3) then
 asA (.pointer m88) fun ma173 =>
 ldI .u64 (ma173.add 3) Hx165 fun Call174 =>
 asA (.pointer m88) fun ma175 =>
 st (ma175.add 3) (.int .u64 (IntKind.u64.wrap (Call174 + 1))) Hx165 fun Hx176 =>
 R95 Hx176
else
 (bif ((t166 : Int) == 4) then
 asA (.pointer m88) fun ma177 =>
 ldI .i64 (ma177.add 1) Hx165 fun From178 =>
 ldI .i64 ⟨b78, 0, none⟩ Hx165 fun Nodes179 =>
 (Nodes179 : Int) ≠ 0 ∧
 asA (.pointer m88) fun ma180 =>
 st (ma180.add 1) (.int .i64 (IntKind.i64.wrap (1 + (Int.tmod From178 Nodes179)))) Hx165 fun Hx181 =>
 R95 Hx181
else
 (bif ((t166 : Int) == 5) then
 asA (.pointer m88) fun ma182 =>
 st ma182 (.int .i64 11) Hx165 fun Hx183 =>
 R95 Hx183
else
 (bif ((t166 : Int) == 6) then
 asA (.pointer m88) fun ma184 =>
 ldI .i64 (ma184.add 2) Hx165 fun To185 =>
 asA (.pointer m88) fun ma186 =>
 st (ma186.add 2) (.int .i64 (IntKind.i64.wrap (To185 + 1))) Hx165 fun Hx187 =>
 R95 Hx187
else
 R95 Hx165))))))) → R93 Hx94) →
 ∃ (I188 : Int → Hp → Prop) (m189 : Int → Hp → Nat), I188 0 Hx92 ∧ ∀ i191 : Int, ∀ Hx190 : Hp, I188 i191 Hx190 →
 ldSl ⟨b82, 5, none⟩ Hx190 fun ListP192 ListL193 ListC194 =>
 (bif (decide ((i191 : Int) < (ListL193 : Int))) then
 (bif (decide ((i191 : Int) < 4)) then
 ∀ R195 : Hp → Prop, (∀ Hx196 : Hp, (
 I188 (IntKind.i64.wrap (i191 + 1)) Hx196 ∧ m189 (IntKind.i64.wrap (i191 + 1)) Hx196 < m189 i191 Hx190) → R195 Hx196) →
 ldI .i64 ⟨b80, 5, none⟩ Hx190 fun Op197 =>
 (bif ((Op197 : Int) == 1) then
 asA (.pointer m88) fun ma198 =>
 ldSl (ma198.add 18) Hx190 fun ListP199 ListL200 ListC201 =>
 ldSl ⟨b82, 5, none⟩ Hx190 fun ListP202 ListL203 ListC204 =>
 idxA ListP202 ListL203 i191 1 fun el205 =>
 ldI .u64 el205 Hx190 fun t206 =>
 ldI .i64 ⟨b78, 0, none⟩ Hx190 fun Nodes207 =>
 ((IntKind.u64.wrap (IntKind.i64.wrap (Nodes207 + 1))) : Int) ≠ 0 ∧
 newB (.cells #[(.int .u64 (Int.tmod t206 (IntKind.u64.wrap (IntKind.i64.wrap (Nodes207 + 1)))))] ty_uint64) Hx190 fun b208 Hx209 =>
 (ldSl (ma198.add 18) Hx209 fun ListP210 ListL211 ListC212 =>
 ((.slice ListP210 ListL211 ListC212) : Value) = (.slice ListP199 ListL200 ListC201)) ∧
 evW PR (Builtin.append_ #[ty_Suint64, ty_Suint64] ty_Suint64 #[(.slice ListP199 ListL200 ListC201), (.slice (some ⟨b208, 0, none⟩) 1 1)]) Hx209 fun v213 Hx214 =>
 asSl v213 fun tP215 tL216 tC217 =>
 asA (.pointer m88) fun ma218 =>
 st (ma218.add 18) (.slice tP215 tL216 tC217) Hx214 fun Hx219 =>
 R195 Hx219
else
 asA (.pointer m88) fun ma220 =>
 ldSl (ma220.add 18) Hx190 fun ListP221 ListL222 ListC223 =>
 ldSl ⟨b82, 5, none⟩ Hx190 fun ListP224 ListL225 ListC226 =>
 idxA ListP224 ListL225 i191 1 fun el227 =>
 ldI .u64 el227 Hx190 fun t228 =>
 (4 : Int) ≠ 0 ∧
 newB (.cells #[(.int .u64 (IntKind.u64.wrap (1 + (Int.tmod t228 4))))] ty_uint64) Hx190 fun b229 Hx230 =>
 (ldSl (ma220.add 18) Hx230 fun ListP231 ListL232 ListC233 =>
 ((.slice ListP231 ListL232 ListC233) : Value) = (.slice ListP221 ListL222 ListC223)) ∧
 evW PR (Builtin.append_ #[ty_Suint64, ty_Suint64] ty_Suint64 #[(.slice ListP221 ListL222 ListC223), (.slice (some ⟨b229, 0, none⟩) 1 1)]) Hx230 fun v234 Hx235 =>
 asSl v234 fun tP236 tL237 tC238 =>
 asA (.pointer m88) fun ma239 =>
 st (ma239.add 18) (.slice tP236 tL237 tC238) Hx235 fun Hx240 =>
 R195 Hx240)
else
 R93 Hx190)
else
 R93 Hx190)) → R91 Hx92) →
 asA (.pointer m88) fun ma241 =>
 ldI .i64 (ma241.add 12) Hx90 fun Code242 =>
 (bif (decide ((Code242 : Int) > 3)) then
 asA (.pointer m88) fun ma243 =>
 st (ma243.add 12) (.int .i64 2) Hx90 fun Hx244 =>
 R91 Hx244
else
 R91 Hx90)) → R89 Hx90) →
 ldI .i64 ⟨b80, 0, none⟩ Hx87 fun Kind245 =>
 (bif ((Kind245 : Int) == 10) then
 asA (.pointer m88) fun ma246 =>
 st ma246 (.int .i64 11) Hx87 fun Hx247 =>
 R89 Hx247
else
 R89 Hx87)) → R86 m88 Hx87) →
 ldI .i64 ⟨b80, 2, none⟩ Hx85 fun To248 =>
 ldI .i64 ⟨b80, 1, none⟩ Hx85 fun From249 =>
 ldI .u64 ⟨b80, 3, none⟩ Hx85 fun Call250 =>
 ldI .i64 ⟨b80, 7, none⟩ Hx85 fun Item251 =>
 ldI .i64 ⟨b82, 1, none⟩ Hx85 fun Code252 =>
 (hcall PR f_hand_Pick ⟨[(.int .i64 Code252), (.int .i64 8)]⟩ Hx85 fun v253 Hx254 =>
 asI .i64 v253 fun t255 =>
 (ldI .i64 ⟨b80, 7, none⟩ Hx254 fun Item256 =>
 ((.int .i64 Item256) : Value) = (.int .i64 Item251)) ∧
 (ldI .u64 ⟨b80, 3, none⟩ Hx254 fun Call257 =>
 ((.int .u64 Call257) : Value) = (.int .u64 Call250)) ∧
 (ldI .i64 ⟨b80, 1, none⟩ Hx254 fun From258 =>
 ((.int .i64 From258) : Value) = (.int .i64 From249)) ∧
 (ldI .i64 ⟨b80, 2, none⟩ Hx254 fun To259 =>
 ((.int .i64 To259) : Value) = (.int .i64 To248)) ∧
 newB (.cells #[(.int .i64 0), (.int .i64 0), (.int .i64 0), (.int .u64 0), (.int .u64 0), (.int .i64 0), (.int .i64 0), (.int .i64 0), (.int .i64 0), (.int .u64 0), (.slice none 0 0), (.int .u64 0), (.int .i64 0), (.int .u64 0), (.int .i64 0), (.int .u64 0), (.int .i64 0), (.int .u64 0), (.slice none 0 0)] ty_api_Msg) Hx254 fun b260 Hx261 =>
 (ldI .i64 ⟨b80, 7, none⟩ Hx261 fun Item262 =>
 ((.int .i64 Item262) : Value) = (.int .i64 Item251)) ∧
 (ldI .u64 ⟨b80, 3, none⟩ Hx261 fun Call263 =>
 ((.int .u64 Call263) : Value) = (.int .u64 Call250)) ∧
 (ldI .i64 ⟨b80, 1, none⟩ Hx261 fun From264 =>
 ((.int .i64 From264) : Value) = (.int .i64 From249)) ∧
 (ldI .i64 ⟨b80, 2, none⟩ Hx261 fun To265 =>
 ((.int .i64 To265) : Value) = (.int .i64 To248)) ∧
 st ⟨b260, 0, none⟩ (.int .i64 9) Hx261 fun Hx266 =>
 st ⟨b260, 1, none⟩ (.int .i64 To248) Hx266 fun Hx267 =>
 st ⟨b260, 2, none⟩ (.int .i64 From249) Hx267 fun Hx268 =>
 st ⟨b260, 3, none⟩ (.int .u64 Call250) Hx268 fun Hx269 =>
 st ⟨b260, 4, none⟩ (.int .u64 0) Hx269 fun Hx270 =>
 st ⟨b260, 5, none⟩ (.int .i64 0) Hx270 fun Hx271 =>
 st ⟨b260, 6, none⟩ (.int .i64 0) Hx271 fun Hx272 =>
 st ⟨b260, 7, none⟩ (.int .i64 Item251) Hx272 fun Hx273 =>
 st ⟨b260, 8, none⟩ (.int .i64 0) Hx273 fun Hx274 =>
 st ⟨b260, 9, none⟩ (.int .u64 0) Hx274 fun Hx275 =>
 st ⟨b260, 10, none⟩ (.slice none 0 0) Hx275 fun Hx276 =>
 st ⟨b260, 11, none⟩ (.int .u64 0) Hx276 fun Hx277 =>
 st ⟨b260, 12, none⟩ (.int .i64 t255) Hx277 fun Hx278 =>
 st ⟨b260, 13, none⟩ (.int .u64 0) Hx278 fun Hx279 =>
 st ⟨b260, 14, none⟩ (.int .i64 0) Hx279 fun Hx280 =>
 st ⟨b260, 15, none⟩ (.int .u64 0) Hx280 fun Hx281 =>
 st ⟨b260, 16, none⟩ (.int .i64 0) Hx281 fun Hx282 =>
 st ⟨b260, 17, none⟩ (.int .u64 3) Hx282 fun Hx283 =>
 st ⟨b260, 18, none⟩ (.slice none 0 0) Hx283 fun Hx284 =>
 R86 (some ⟨b260, 0, none⟩) Hx284) ∧
 (newB (.cells #[(.int .i64 0), (.int .i64 0), (.int .i64 0), (.int .u64 0), (.int .u64 0), (.int .i64 0), (.int .i64 0), (.int .i64 0), (.int .i64 0), (.int .u64 0), (.slice none 0 0), (.int .u64 0), (.int .i64 0), (.int .u64 0), (.int .i64 0), (.int .u64 0), (.int .i64 0), (.int .u64 0), (.slice none 0 0)] ty_api_Msg) Hx85 fun b285 Hx286 =>
 (ldI .i64 ⟨b82, 1, none⟩ Hx286 fun Code287 =>
 ((.int .i64 Code287) : Value) = (.int .i64 Code252)) ∧
 (ldI .i64 ⟨b80, 7, none⟩ Hx286 fun Item288 =>
 ((.int .i64 Item288) : Value) = (.int .i64 Item251)) ∧
 (ldI .u64 ⟨b80, 3, none⟩ Hx286 fun Call289 =>
 ((.int .u64 Call289) : Value) = (.int .u64 Call250)) ∧
 (ldI .i64 ⟨b80, 1, none⟩ Hx286 fun From290 =>
 ((.int .i64 From290) : Value) = (.int .i64 From249)) ∧
 (ldI .i64 ⟨b80, 2, none⟩ Hx286 fun To291 =>
 ((.int .i64 To291) : Value) = (.int .i64 To248)) ∧
 hcall PR f_hand_Pick ⟨[(.int .i64 Code252), (.int .i64 8)]⟩ Hx286 fun v292 Hx293 =>
 asI .i64 v292 fun t294 =>
 (ldI .i64 ⟨b80, 7, none⟩ Hx293 fun Item295 =>
 ((.int .i64 Item295) : Value) = (.int .i64 Item251)) ∧
 (ldI .u64 ⟨b80, 3, none⟩ Hx293 fun Call296 =>
 ((.int .u64 Call296) : Value) = (.int .u64 Call250)) ∧
 (ldI .i64 ⟨b80, 1, none⟩ Hx293 fun From297 =>
 ((.int .i64 From297) : Value) = (.int .i64 From249)) ∧
 (ldI .i64 ⟨b80, 2, none⟩ Hx293 fun To298 =>
 ((.int .i64 To298) : Value) = (.int .i64 To248)) ∧
 st ⟨b285, 0, none⟩ (.int .i64 9) Hx293 fun Hx299 =>
 st ⟨b285, 1, none⟩ (.int .i64 To248) Hx299 fun Hx300 =>
 st ⟨b285, 2, none⟩ (.int .i64 From249) Hx300 fun Hx301 =>
 st ⟨b285, 3, none⟩ (.int .u64 Call250) Hx301 fun Hx302 =>
 st ⟨b285, 4, none⟩ (.int .u64 0) Hx302 fun Hx303 =>
 st ⟨b285, 5, none⟩ (.int .i64 0) Hx303 fun Hx304 =>
 st ⟨b285, 6, none⟩ (.int .i64 0) Hx304 fun Hx305 =>
 st ⟨b285, 7, none⟩ (.int .i64 Item251) Hx305 fun Hx306 =>
 st ⟨b285, 8, none⟩ (.int .i64 0) Hx306 fun Hx307 =>
 st ⟨b285, 9, none⟩ (.int .u64 0) Hx307 fun Hx308 =>
 st ⟨b285, 10, none⟩ (.slice none 0 0) Hx308 fun Hx309 =>
 st ⟨b285, 11, none⟩ (.int .u64 0) Hx309 fun Hx310 =>
 st ⟨b285, 12, none⟩ (.int .i64 t294) Hx310 fun Hx311 =>
 st ⟨b285, 13, none⟩ (.int .u64 0) Hx311 fun Hx312 =>
 st ⟨b285, 14, none⟩ (.int .i64 0) Hx312 fun Hx313 =>
 st ⟨b285, 15, none⟩ (.int .u64 0) Hx313 fun Hx314 =>
 st ⟨b285, 16, none⟩ (.int .i64 0) Hx314 fun Hx315 =>
 st ⟨b285, 17, none⟩ (.int .u64 3) Hx315 fun Hx316 =>
 st ⟨b285, 18, none⟩ (.slice none 0 0) Hx316 fun Hx317 =>
 R86 (some ⟨b285, 0, none⟩) Hx317)
theorem E_law23_told (cNodes1 : Int) (cMutators2 : Int) (cSlots3 : Int) (cCells4 : Int) (cObjects5 : Int) (cStubs6 : Int) (cCalls7 : Int) (cWindow8 : Int) (cGrey9 : Int) (cBag10 : Int) (cInbox11 : Int) (cUnit12 : Int) (cDrift13 : Int) (cLease14 : Int) (cWait15 : Int) (cMost16 : Int) (cPatience17 : Int) (cSuspect18 : Int) (cTrace19 : Int) (cWork20 : Int) (cStart21 : Int) (cLast22 : Int) (qKind23 : Int) (qFrom24 : Int) (qTo25 : Int) (qCall26 : Int) (qFloor27 : Int) (qOp28 : Int) (qField29 : Int) (qItem30 : Int) (qNode31 : Int) (qSerial32 : Int) (qRefsP33 : Option Addr) (qRefsL34 : Nat) (qRefsC35 : Nat) (qValue36 : Int) (qCode37 : Int) (qSeq38 : Int) (qVoucher39 : Int) (qAt40 : Int) (qDist41 : Int) (qStamp42 : Int) (qListP43 : Option Addr) (qListL44 : Nat) (qListC45 : Nat) (xWhat46 : Int) (xCode47 : Int) (xOff48 : Int) (xStamp49 : Int) (xN50 : Int) (xListP51 : Option Addr) (xListL52 : Nat) (xListC53 : Nat) (xNear54 : Bool) (xKind55 : Int) (xFrom56 : Int) (xTo57 : Int) (xCall58 : Int) (xFloor59 : Int) (xOp60 : Int) (xField61 : Int) (xItem62 : Int) (xNode63 : Int) (xSerial64 : Int) (xRefsP65 : Option Addr) (xRefsL66 : Nat) (xRefsC67 : Nat) (xValue68 : Int) (xCode69 : Int) (xSeq70 : Int) (xVoucher71 : Int) (xAt72 : Int) (xDist73 : Int) (xStamp74 : Int) (xListP75 : Option Addr) (xListL76 : Nat) (xListC77 : Nat) (H : Hp) (K : Value → Hp → Prop) : B_law23_told cNodes1 cMutators2 cSlots3 cCells4 cObjects5 cStubs6 cCalls7 cWindow8 cGrey9 cBag10 cInbox11 cUnit12 cDrift13 cLease14 cWait15 cMost16 cPatience17 cSuspect18 cTrace19 cWork20 cStart21 cLast22 qKind23 qFrom24 qTo25 qCall26 qFloor27 qOp28 qField29 qItem30 qNode31 qSerial32 qRefsP33 qRefsL34 qRefsC35 qValue36 qCode37 qSeq38 qVoucher39 qAt40 qDist41 qStamp42 qListP43 qListL44 qListC45 xWhat46 xCode47 xOff48 xStamp49 xN50 xListP51 xListL52 xListC53 xNear54 xKind55 xFrom56 xTo57 xCall58 xFloor59 xOp60 xField61 xItem62 xNode63 xSerial64 xRefsP65 xRefsL66 xRefsC67 xValue68 xCode69 xSeq70 xVoucher71 xAt72 xDist73 xStamp74 xListP75 xListL76 xListC77 H K = denF Try.prog Try.f43 (.seq none .n (.seq (some ⟨[(7, .ptr)], [3, 4, 5, 6]⟩) .n (.seq (some ⟨[], [3, 4, 5, 6, 7]⟩) .n (.seq (some ⟨[], [3, 4, 5, 6, 7]⟩) .n (.seq (some ⟨[], [3, 5, 6, 7]⟩) (.seq none .n (.sub (.loop ⟨[(8, .int .i64)], [3, 4, 5, 6, 7]⟩ (.seq none .n (.seq (some ⟨[], [3, 4, 5, 6, 7, 8]⟩) .n .n))))) (.seq (some ⟨[], [6, 7]⟩) .n .n)))))) [(.agg #[(.int .i64 cNodes1), (.int .i64 cMutators2), (.int .i64 cSlots3), (.int .i64 cCells4), (.int .i64 cObjects5), (.int .i64 cStubs6), (.int .i64 cCalls7), (.int .i64 cWindow8), (.int .i64 cGrey9), (.int .i64 cBag10), (.int .i64 cInbox11), (.int .u64 cUnit12), (.int .u64 cDrift13), (.int .u64 cLease14), (.int .u64 cWait15), (.int .u64 cMost16), (.int .u64 cPatience17), (.int .i64 cSuspect18), (.int .i64 cTrace19), (.int .i64 cWork20), (.int .u64 cStart21), (.int .u64 cLast22)]), (.agg #[(.int .i64 qKind23), (.int .i64 qFrom24), (.int .i64 qTo25), (.int .u64 qCall26), (.int .u64 qFloor27), (.int .i64 qOp28), (.int .i64 qField29), (.int .i64 qItem30), (.int .i64 qNode31), (.int .u64 qSerial32), (.slice qRefsP33 qRefsL34 qRefsC35), (.int .u64 qValue36), (.int .i64 qCode37), (.int .u64 qSeq38), (.int .i64 qVoucher39), (.int .u64 qAt40), (.int .i64 qDist41), (.int .u64 qStamp42), (.slice qListP43 qListL44 qListC45)]), (.agg #[(.int .i64 xWhat46), (.int .i64 xCode47), (.int .i64 xOff48), (.int .u64 xStamp49), (.int .u64 xN50), (.slice xListP51 xListL52 xListC53), (.bool xNear54), (.int .i64 xKind55), (.int .i64 xFrom56), (.int .i64 xTo57), (.int .u64 xCall58), (.int .u64 xFloor59), (.int .i64 xOp60), (.int .i64 xField61), (.int .i64 xItem62), (.int .i64 xNode63), (.int .u64 xSerial64), (.slice xRefsP65 xRefsL66 xRefsC67), (.int .u64 xValue68), (.int .i64 xCode69), (.int .u64 xSeq70), (.int .i64 xVoucher71), (.int .u64 xAt72), (.int .i64 xDist73), (.int .u64 xStamp74), (.slice xListP75 xListL76 xListC77)])] H K := by kernel_rfl
theorem den_law23_told {cNodes1 : Int} {cMutators2 : Int} {cSlots3 : Int} {cCells4 : Int} {cObjects5 : Int} {cStubs6 : Int} {cCalls7 : Int} {cWindow8 : Int} {cGrey9 : Int} {cBag10 : Int} {cInbox11 : Int} {cUnit12 : Int} {cDrift13 : Int} {cLease14 : Int} {cWait15 : Int} {cMost16 : Int} {cPatience17 : Int} {cSuspect18 : Int} {cTrace19 : Int} {cWork20 : Int} {cStart21 : Int} {cLast22 : Int} {qKind23 : Int} {qFrom24 : Int} {qTo25 : Int} {qCall26 : Int} {qFloor27 : Int} {qOp28 : Int} {qField29 : Int} {qItem30 : Int} {qNode31 : Int} {qSerial32 : Int} {qRefsP33 : Option Addr} {qRefsL34 : Nat} {qRefsC35 : Nat} {qValue36 : Int} {qCode37 : Int} {qSeq38 : Int} {qVoucher39 : Int} {qAt40 : Int} {qDist41 : Int} {qStamp42 : Int} {qListP43 : Option Addr} {qListL44 : Nat} {qListC45 : Nat} {xWhat46 : Int} {xCode47 : Int} {xOff48 : Int} {xStamp49 : Int} {xN50 : Int} {xListP51 : Option Addr} {xListL52 : Nat} {xListC53 : Nat} {xNear54 : Bool} {xKind55 : Int} {xFrom56 : Int} {xTo57 : Int} {xCall58 : Int} {xFloor59 : Int} {xOp60 : Int} {xField61 : Int} {xItem62 : Int} {xNode63 : Int} {xSerial64 : Int} {xRefsP65 : Option Addr} {xRefsL66 : Nat} {xRefsC67 : Nat} {xValue68 : Int} {xCode69 : Int} {xSeq70 : Int} {xVoucher71 : Int} {xAt72 : Int} {xDist73 : Int} {xStamp74 : Int} {xListP75 : Option Addr} {xListL76 : Nat} {xListC77 : Nat} {H : Hp} {K : Value → Hp → Prop} (h : B_law23_told cNodes1 cMutators2 cSlots3 cCells4 cObjects5 cStubs6 cCalls7 cWindow8 cGrey9 cBag10 cInbox11 cUnit12 cDrift13 cLease14 cWait15 cMost16 cPatience17 cSuspect18 cTrace19 cWork20 cStart21 cLast22 qKind23 qFrom24 qTo25 qCall26 qFloor27 qOp28 qField29 qItem30 qNode31 qSerial32 qRefsP33 qRefsL34 qRefsC35 qValue36 qCode37 qSeq38 qVoucher39 qAt40 qDist41 qStamp42 qListP43 qListL44 qListC45 xWhat46 xCode47 xOff48 xStamp49 xN50 xListP51 xListL52 xListC53 xNear54 xKind55 xFrom56 xTo57 xCall58 xFloor59 xOp60 xField61 xItem62 xNode63 xSerial64 xRefsP65 xRefsL66 xRefsC67 xValue68 xCode69 xSeq70 xVoucher71 xAt72 xDist73 xStamp74 xListP75 xListL76 xListC77 H K) : hcall PR f_law23_told ⟨[(.agg #[(.int .i64 cNodes1), (.int .i64 cMutators2), (.int .i64 cSlots3), (.int .i64 cCells4), (.int .i64 cObjects5), (.int .i64 cStubs6), (.int .i64 cCalls7), (.int .i64 cWindow8), (.int .i64 cGrey9), (.int .i64 cBag10), (.int .i64 cInbox11), (.int .u64 cUnit12), (.int .u64 cDrift13), (.int .u64 cLease14), (.int .u64 cWait15), (.int .u64 cMost16), (.int .u64 cPatience17), (.int .i64 cSuspect18), (.int .i64 cTrace19), (.int .i64 cWork20), (.int .u64 cStart21), (.int .u64 cLast22)]), (.agg #[(.int .i64 qKind23), (.int .i64 qFrom24), (.int .i64 qTo25), (.int .u64 qCall26), (.int .u64 qFloor27), (.int .i64 qOp28), (.int .i64 qField29), (.int .i64 qItem30), (.int .i64 qNode31), (.int .u64 qSerial32), (.slice qRefsP33 qRefsL34 qRefsC35), (.int .u64 qValue36), (.int .i64 qCode37), (.int .u64 qSeq38), (.int .i64 qVoucher39), (.int .u64 qAt40), (.int .i64 qDist41), (.int .u64 qStamp42), (.slice qListP43 qListL44 qListC45)]), (.agg #[(.int .i64 xWhat46), (.int .i64 xCode47), (.int .i64 xOff48), (.int .u64 xStamp49), (.int .u64 xN50), (.slice xListP51 xListL52 xListC53), (.bool xNear54), (.int .i64 xKind55), (.int .i64 xFrom56), (.int .i64 xTo57), (.int .u64 xCall58), (.int .u64 xFloor59), (.int .i64 xOp60), (.int .i64 xField61), (.int .i64 xItem62), (.int .i64 xNode63), (.int .u64 xSerial64), (.slice xRefsP65 xRefsL66 xRefsC67), (.int .u64 xValue68), (.int .i64 xCode69), (.int .u64 xSeq70), (.int .i64 xVoucher71), (.int .u64 xAt72), (.int .i64 xDist73), (.int .u64 xStamp74), (.slice xListP75 xListL76 xListC77)])]⟩ H K := denF_call Try.func43 PR_mixed (Eq.mp (E_law23_told cNodes1 cMutators2 cSlots3 cCells4 cObjects5 cStubs6 cCalls7 cWindow8 cGrey9 cBag10 cInbox11 cUnit12 cDrift13 cLease14 cWait15 cMost16 cPatience17 cSuspect18 cTrace19 cWork20 cStart21 cLast22 qKind23 qFrom24 qTo25 qCall26 qFloor27 qOp28 qField29 qItem30 qNode31 qSerial32 qRefsP33 qRefsL34 qRefsC35 qValue36 qCode37 qSeq38 qVoucher39 qAt40 qDist41 qStamp42 qListP43 qListL44 qListC45 xWhat46 xCode47 xOff48 xStamp49 xN50 xListP51 xListL52 xListC53 xNear54 xKind55 xFrom56 xTo57 xCall58 xFloor59 xOp60 xField61 xItem62 xNode63 xSerial64 xRefsP65 xRefsL66 xRefsC67 xValue68 xCode69 xSeq70 xVoucher71 xAt72 xDist73 xStamp74 xListP75 xListL76 xListC77 H K) h)

def B_law23_items (aP1 : Option Addr) (aL2 : Nat) (aC3 : Nat) (bP4 : Option Addr) (bL5 : Nat) (bC6 : Nat) (H : Hp) (K : Value → Hp → Prop) : Prop :=
 (bif (((aL2 : Int) : Int) != (bL5 : Int)) then
 K (.bool false) H
else
 ∃ (I7 : Int → Hp → Prop) (m8 : Int → Hp → Nat), I7 0 H ∧ ∀ i10 : Int, ∀ Hx9 : Hp, I7 i10 Hx9 →
 (bif (decide ((i10 : Int) < (aL2 : Int))) then
 idxA aP1 aL2 i10 5 fun el11 =>
 ldB el11 Hx9 fun In12 =>
 idxA bP4 bL5 i10 5 fun el13 =>
 ldB el13 Hx9 fun In14 =>
 (bif (!(In12 == In14)) then
 K (.bool false) Hx9
else
 idxA aP1 aL2 i10 5 fun el15 =>
 ldI .i64 (el15.add 1) Hx9 fun Node16 =>
 idxA bP4 bL5 i10 5 fun el17 =>
 ldI .i64 (el17.add 1) Hx9 fun Node18 =>
 (bif ((Node16 : Int) != Node18) then
 K (.bool false) Hx9
else
 idxA aP1 aL2 i10 5 fun el19 =>
 ldI .i64 (el19.add 2) Hx9 fun Node20 =>
 ldI .u64 ((el19.add 2).add 1) Hx9 fun Serial21 =>
 idxA bP4 bL5 i10 5 fun el22 =>
 ldI .i64 (el22.add 2) Hx9 fun Node23 =>
 ldI .u64 ((el22.add 2).add 1) Hx9 fun Serial24 =>
 evR PR (aggEq .neq ty_api_ID #[(.int .i64 Node20), (.int .u64 Serial21)] #[(.int .i64 Node23), (.int .u64 Serial24)]) Hx9 fun v25 =>
 asB v25 fun eq26 =>
 (bif eq26 then
 K (.bool false) Hx9
else
 idxA aP1 aL2 i10 5 fun el27 =>
 ldI .i64 (el27.add 4) Hx9 fun Code28 =>
 idxA bP4 bL5 i10 5 fun el29 =>
 ldI .i64 (el29.add 4) Hx9 fun Code30 =>
 (bif ((Code28 : Int) != Code30) then
 K (.bool false) Hx9
else
 I7 (IntKind.i64.wrap (i10 + 1)) Hx9 ∧ m8 (IntKind.i64.wrap (i10 + 1)) Hx9 < m8 i10 Hx9))))
else
 K (.bool true) Hx9))
theorem E_law23_items (aP1 : Option Addr) (aL2 : Nat) (aC3 : Nat) (bP4 : Option Addr) (bL5 : Nat) (bC6 : Nat) (H : Hp) (K : Value → Hp → Prop) : B_law23_items aP1 aL2 aC3 bP4 bL5 bC6 H K = denF Try.prog Try.f46 (.seq none .n (.seq none .n (.seq none (.seq none .n (.sub (.loop ⟨[(5, .int .i64)], [0, 1]⟩ .n))) .n))) [(.slice aP1 aL2 aC3), (.slice bP4 bL5 bC6)] H K := by kernel_rfl
theorem den_law23_items {aP1 : Option Addr} {aL2 : Nat} {aC3 : Nat} {bP4 : Option Addr} {bL5 : Nat} {bC6 : Nat} {H : Hp} {K : Value → Hp → Prop} (h : B_law23_items aP1 aL2 aC3 bP4 bL5 bC6 H K) : hcall PR f_law23_items ⟨[(.slice aP1 aL2 aC3), (.slice bP4 bL5 bC6)]⟩ H K := denF_call Try.func46 PR_mixed (Eq.mp (E_law23_items aP1 aL2 aC3 bP4 bL5 bC6 H K) h)

end Go.Proofs.Ytknejebggegfjaa

namespace Go.Proofs.Ytknejebggegfjaa
set_option linter.unusedSimpArgs false
set_option linter.unusedVariables false
set_option maxRecDepth 20000
open Go
section
variable {H0 H : Hp} {L M N : List Prt} {i k tb : Nat} {c : Cf} {t : Tr} {K : Value → Hp → Prop}
/-- Cells written one behind the other, and no more than that. -/
def stz (b : Nat) : Nat → List Value → Hp → (Hp → Prop) → Prop
  | _, [], H, K => K H
  | o, [v], H, K => st ⟨b, o, none⟩ v H K
  | o, v :: w :: r, H, K => st ⟨b, o, none⟩ v H fun H' => stz b (o + 1) (w :: r) H' K
theorem stz_of {b : Nat} : ∀ {vs : List Value} {o : Nat} {H : Hp} {K : Hp → Prop}, sts b o vs H K → stz b o vs H K
  | [], _, _, _, h => h
  | [v], o, H, K, h => h
  | v :: w :: r, o, H, K, h => by
    have h : st ⟨b, o, none⟩ v H fun H' => sts b (o + 1) (w :: r) H' K := h
    show st ⟨b, o, none⟩ v H fun H' => stz b (o + 1) (w :: r) H' K
    unfold st at h ⊢
    split at h
    · exact ⟨h.1, h.2.1, h.2.2.1, stz_of h.2.2.2⟩
    · exact h
theorem boxz {T : TypeId} {c vs : List Value} {K : Nat → Hp → Prop} (h : St H0 L H) (hl : vs.length = c.length) (hK : ∀ b H', St H0 (Prt.one b (.cells vs.toArray T (0, 0)) :: L) H' → K b H') :
    newB (.cells c.toArray T) H fun b H1 => stz b 0 vs H1 (K b) := by
  intro b hb
  exact stz_of (boxs (T := T) (c := c) (vs := vs) (K := K) h hl hK b hb)
theorem trMake {node last : Int} (h : St H0 L H) (hb : H tb = none) : St H0 (TrP tb c (newTr node last) :: L) (upd H tb (.cells #[.int .i64 c.a0, .int .i64 c.a1, .int .i64 c.a2, .int .i64 c.a3, .int .i64 c.a4, .int .i64 c.a5, .int .i64 c.a6, .int .i64 c.a7, .int .i64 c.a8, .int .i64 c.a9, .int .i64 c.a10, .int .u64 c.a11, .int .u64 c.a12, .int .u64 c.a13, .int .u64 c.a14, .int .u64 c.a15, .int .u64 c.a16, .int .i64 c.a17, .int .i64 c.a18, .int .i64 c.a19, .int .u64 c.a20, .int .u64 c.a21, .int .i64 node, .int .u64 last, .int .i64 0, .int .i64 0, .slice none 0 0, .map none, .int .i64 0, .slice none 0 0, .int .u64 0, .int .u64 0] ty_trace_Trace)) := by
  have g1 := h.saynil
  have g2 := g1.say (p := (newTr node last).ok c.a0) newTr_ok
  have g3 := g2.row (H' := _) (Own.nil 1) ((Goes.refl Nothing _).less fun c hc => absurd hc blk_none)
  have g4 := g3.saynil
  have g5 := g4.row (H' := _) (Own.nil 5) ((Goes.refl Nothing _).less fun c hc => absurd hc blk_none)
  have g6 := g5.alloc (o := .cells #[.int .i64 c.a0, .int .i64 c.a1, .int .i64 c.a2, .int .i64 c.a3, .int .i64 c.a4, .int .i64 c.a5, .int .i64 c.a6, .int .i64 c.a7, .int .i64 c.a8, .int .i64 c.a9, .int .i64 c.a10, .int .u64 c.a11, .int .u64 c.a12, .int .u64 c.a13, .int .u64 c.a14, .int .u64 c.a15, .int .u64 c.a16, .int .i64 c.a17, .int .i64 c.a18, .int .i64 c.a19, .int .u64 c.a20, .int .u64 c.a21, .int .i64 node, .int .u64 last, .int .i64 0, .int .i64 0, .slice none 0 0, .map none, .int .i64 0, .slice none 0 0, .int .u64 0, .int .u64 0] ty_trace_Trace) hb
  have g7 : St H0 (trRaw tb c (newTr node last) ⟨none, 0, 0, none, 0, ty_trace_Trace⟩ (.map none) .nil ((newTr node last).ok c.a0) ++ (Prt.nil :: L)) (upd H tb (.cells #[.int .i64 c.a0, .int .i64 c.a1, .int .i64 c.a2, .int .i64 c.a3, .int .i64 c.a4, .int .i64 c.a5, .int .i64 c.a6, .int .i64 c.a7, .int .i64 c.a8, .int .i64 c.a9, .int .i64 c.a10, .int .u64 c.a11, .int .u64 c.a12, .int .u64 c.a13, .int .u64 c.a14, .int .u64 c.a15, .int .u64 c.a16, .int .i64 c.a17, .int .i64 c.a18, .int .i64 c.a19, .int .u64 c.a20, .int .u64 c.a21, .int .i64 node, .int .u64 last, .int .i64 0, .int .i64 0, .slice none 0 0, .map none, .int .i64 0, .slice none 0 0, .int .u64 0, .int .u64 0] ty_trace_Trace)) := g6
  have g8 := g7.midless
  exact St.gatherEx (M := fun x => trRaw tb c (newTr node last) x (smV (newTr node last) x) (smP (newTr node last) x) ((newTr node last).ok c.a0)) ⟨none, 0, 0, none, 0, ty_trace_Trace⟩ (by
    rw [smV_off rfl, smP_off rfl]
    exact g8)
theorem newC {node last : Int} (hg : c.good) (h : St H0 L H)
    (hno : (node < 1 ∨ node > c.a0 ∨ last > 72057594037927935) → ∀ H', St H0 L H' → K (.tuple #[.pointer none, .int .i64 1]) H')
    (hK : 1 ≤ node ∧ node ≤ c.a0 → last ≤ 72057594037927935 → ∀ tb H', St H0 (TrP tb c (newTr node last) :: L) H' → K (.tuple #[.pointer (some ⟨tb, 0, none⟩), .int .i64 0]) H') :
    hcall PR f_trace_New ⟨[c.val, .int .i64 node, .int .u64 last]⟩ H K := by
  apply den_trace_New
  unfold B_trace_New
  intro b25 hb25
  have g1 := h.alloc (o := .cells #[.int .i64 c.a0, .int .i64 c.a1, .int .i64 c.a2, .int .i64 c.a3, .int .i64 c.a4, .int .i64 c.a5, .int .i64 c.a6, .int .i64 c.a7, .int .i64 c.a8, .int .i64 c.a9, .int .i64 c.a10, .int .u64 c.a11, .int .u64 c.a12, .int .u64 c.a13, .int .u64 c.a14, .int .u64 c.a15, .int .u64 c.a16, .int .i64 c.a17, .int .i64 c.a18, .int .i64 c.a19, .int .u64 c.a20, .int .u64 c.a21] ty_api_Config) hb25
  refine ldI_of (g1.cell (i := 0) rfl rfl) (ldI_of (g1.cell (i := 0) rfl rfl) (ldI_of (g1.cell (i := 0) rfl rfl) (ldI_of (g1.cell (i := 0) rfl rfl) (ldI_of (g1.cell (i := 0) rfl rfl) (ldI_of (g1.cell (i := 0) rfl rfl) (ldI_of (g1.cell (i := 0) rfl rfl) (ldI_of (g1.cell (i := 0) rfl rfl) (ldI_of (g1.cell (i := 0) rfl rfl) (ldI_of (g1.cell (i := 0) rfl rfl) (ldI_of (g1.cell (i := 0) rfl rfl) (ldI_of (g1.cell (i := 0) rfl rfl) (ldI_of (g1.cell (i := 0) rfl rfl) (ldI_of (g1.cell (i := 0) rfl rfl) (ldI_of (g1.cell (i := 0) rfl rfl) (ldI_of (g1.cell (i := 0) rfl rfl) (ldI_of (g1.cell (i := 0) rfl rfl) (ldI_of (g1.cell (i := 0) rfl rfl) (ldI_of (g1.cell (i := 0) rfl rfl) (ldI_of (g1.cell (i := 0) rfl rfl) (ldI_of (g1.cell (i := 0) rfl rfl) (ldI_of (g1.cell (i := 0) rfl rfl) (?_))))))))))))))))))))))
  refine mayC hg g1 fun H2 g2 => ?_
  (try simp only [asI_mk', asB_mk, asP_mk, asA_mk, asM_mk, asSl_mk, asStr_mk, tup2_mk, tup3_mk, agg1_mk, agg2_mk, agg3_mk, agg4_mk, asAggm, unCons_mk, unNil_mk, asTup_mk, extractD0, extractD1, List.toList_toArray, nilP_mk, add_mk, Nat.zero_add, Nat.add_zero, condT, condF, Bool.not_true, Bool.not_false, Option.isNone_some, Option.isNone_none])
  by_cases h1 : node < 1
  · exact bif_pos h1 (hno (.inl h1) H2 g2.less)
  refine bif_neg h1 (ldI_of (g2.cell (i := 0) rfl rfl) ?_)
  by_cases h2 : node > c.a0
  · exact bif_pos h2 (hno (.inr (.inl h2)) H2 g2.less)
  refine bif_neg h2 ?_
  by_cases h3 : last > 72057594037927935
  · exact bif_pos h3 (hno (.inr (.inr h3)) H2 g2.less)
  refine bif_neg h3 ?_
  refine ldI_of (g2.cell (i := 0) rfl rfl) (ldI_of (g2.cell (i := 0) rfl rfl) (ldI_of (g2.cell (i := 0) rfl rfl) (ldI_of (g2.cell (i := 0) rfl rfl) (ldI_of (g2.cell (i := 0) rfl rfl) (ldI_of (g2.cell (i := 0) rfl rfl) (ldI_of (g2.cell (i := 0) rfl rfl) (ldI_of (g2.cell (i := 0) rfl rfl) (ldI_of (g2.cell (i := 0) rfl rfl) (ldI_of (g2.cell (i := 0) rfl rfl) (ldI_of (g2.cell (i := 0) rfl rfl) (ldI_of (g2.cell (i := 0) rfl rfl) (ldI_of (g2.cell (i := 0) rfl rfl) (ldI_of (g2.cell (i := 0) rfl rfl) (ldI_of (g2.cell (i := 0) rfl rfl) (ldI_of (g2.cell (i := 0) rfl rfl) (ldI_of (g2.cell (i := 0) rfl rfl) (ldI_of (g2.cell (i := 0) rfl rfl) (ldI_of (g2.cell (i := 0) rfl rfl) (ldI_of (g2.cell (i := 0) rfl rfl) (ldI_of (g2.cell (i := 0) rfl rfl) (ldI_of (g2.cell (i := 0) rfl rfl) (?_))))))))))))))))))))))
  intro b75 hb75
  refine hK ⟨by omega, by omega⟩ (by omega) b75 _ ?_
  have := trMake (c := c) (node := node) (last := last) g2 hb75
  exact St.less (St.flip this)
theorem stubC (h : St H0 L H) (hK : ∀ H', St H0 L H' → K (.agg #[.int .i64 2, .int .u64 7]) H') : hcall PR f_law23_stub ⟨[]⟩ H K := by
  apply den_law23_stub
  unfold B_law23_stub
  refine boxz (c := [.int .i64 0, .int .u64 0]) (vs := [.int .i64 2, .int .u64 7]) h rfl fun b H2 g2 => ?_
  exact ldI_of (g2.cell (i := 0) rfl rfl) (ldI_of (g2.cell (i := 0) rfl rfl) (hK H2 g2.less))

theorem idsNone {a b : Nat} (h : K (.bool true) H) : hcall PR f_ref2_IDs ⟨[.slice none 0 a, .slice none 0 b]⟩ H K := by
  apply den_ref2_IDs
  unfold B_ref2_IDs
  refine bif_neqf rfl ⟨fun q H' => q = 0 ∧ H' = H, fun _ _ => 0, ⟨rfl, rfl⟩, ?_⟩
  rintro q H' ⟨rfl, rfl⟩
  exact bif_neg (by decide) h
theorem numbersC {p p' : Option Addr} {n a n' b : Nat} {l l' : List Int} (h1 : Rd H 1 p n (l.map (Value.int .u64))) (h2 : Rd H 1 p' n' (l'.map (Value.int .u64))) (hn : n ≤ 9223372036854775807) (hn' : n' ≤ 9223372036854775807) (h : K (.bool (decide (l = l'))) H) : hcall PR f_ref2_Numbers ⟨[.slice p n a, .slice p' n' b]⟩ H K := by
  apply den_ref2_Numbers
  unfold B_ref2_Numbers
  have e1 : l.length = n := by simpa using h1.1
  have e2 : l'.length = n' := by simpa using h2.1
  by_cases hc : (n : Int) = n'
  rotate_left
  · rw [decide_eq_false (by rintro rfl; omega)] at h
    exact bif_neq hc h
  have hc : n = n' := by omega
  subst hc
  refine bif_neqf rfl ⟨fun q H' => H' = H ∧ ∃ m : Nat, q = m ∧ m ≤ n ∧ l.take m = l'.take m, fun q _ => ((n : Int) - q).toNat, ⟨rfl, 0, rfl, by omega, rfl⟩, ?_⟩
  rintro q H' ⟨rfl, m, rfl, hm, ht⟩
  by_cases hml : (m : Int) < (n : Int)
  · refine bif_pos hml (idx1 (d := (0 : Int)) h1 (by omega) hml fun b o _ c1 => ldI_of c1 (idx1 (d := (0 : Int)) h2 (by omega) hml fun b' o' _ c2 => ldI_of c2 ?_))
    rw [Int.toNat_natCast]
    have ha : m < l.length := by omega
    have hb : m < l'.length := by omega
    have ga : l.getD m 0 = l[m] := by rw [List.getD_eq_getElem?_getD, List.getElem?_eq_getElem ha]; rfl
    have gb : l'.getD m 0 = l'[m] := by rw [List.getD_eq_getElem?_getD, List.getElem?_eq_getElem hb]; rfl
    by_cases hv : l.getD m 0 = l'.getD m 0
    · refine bif_neqf hv ?_
      rw [wrap_i64 (by omega) (by omega)]
      refine ⟨⟨rfl, m + 1, by omega, by omega, ?_⟩, by (try dsimp only); omega⟩
      rw [List.take_succ_eq_append_getElem ha, List.take_succ_eq_append_getElem hb, ht, ← ga, ← gb, hv]
    · rw [decide_eq_false (by rintro rfl; exact hv rfl)] at h
      exact bif_neq hv h
  · refine bif_neg hml ?_
    rw [List.take_of_length_le (by omega), List.take_of_length_le (by omega)] at ht
    rw [decide_eq_true ht] at h
    exact h
theorem sameC {q : Qn} (h : St H0 L H) (hK : ∀ H', St H0 L H' → K (.bool true) H') : hcall PR f_ref2_Same ⟨[q.val, q.val]⟩ H K := by
  unfold Qn.val
  apply den_ref2_Same
  unfold B_ref2_Same
  intro b47 hb47
  have g1 := h.alloc (o := .cells q.cells.toArray ty_api_Msg) hb47
  intro b49 hb49
  have g2 := g1.alloc (o := .cells q.cells.toArray ty_api_Msg) hb49
  have hK := hK _ g2.less.less
  have g : St H0 (Prt.one b49 (.cells q.cells.toArray ty_api_Msg (0, 0)) :: Prt.one b47 (.cells q.cells.toArray ty_api_Msg (0, 0)) :: L) _ := g2
  have rd : Rd (upd (upd H b47 (.cells q.cells.toArray ty_api_Msg)) b49 (.cells q.cells.toArray ty_api_Msg)) 1 none 0 (([] : List Int).map (Value.int .u64)) := ⟨rfl, rfl⟩
  refine ldI_of (g.cell (i := 1) rfl rfl) (ldI_of (g.cell (i := 0) rfl rfl) (bif_neqf rfl ?_))
  refine ldI_of (g.cell (i := 1) rfl rfl) (ldI_of (g.cell (i := 0) rfl rfl) (bif_neqf rfl ?_))
  refine ldI_of (g.cell (i := 1) rfl rfl) (ldI_of (g.cell (i := 0) rfl rfl) (bif_neqf rfl ?_))
  refine ldI_of (g.cell (i := 1) rfl rfl) (ldI_of (g.cell (i := 0) rfl rfl) (bif_neqf rfl ?_))
  refine ldI_of (g.cell (i := 1) rfl rfl) (ldI_of (g.cell (i := 0) rfl rfl) (bif_neqf rfl ?_))
  refine ldI_of (g.cell (i := 1) rfl rfl) (ldI_of (g.cell (i := 0) rfl rfl) (bif_neqf rfl ?_))
  refine ldI_of (g.cell (i := 1) rfl rfl) (ldI_of (g.cell (i := 0) rfl rfl) (bif_neqf rfl ?_))
  refine ldI_of (g.cell (i := 1) rfl rfl) (ldI_of (g.cell (i := 0) rfl rfl) (bif_neqf rfl ?_))
  refine ldI_of (g.cell (i := 1) rfl rfl) (ldI_of (g.cell (i := 1) rfl rfl) (ldI_of (g.cell (i := 0) rfl rfl) (ldI_of (g.cell (i := 0) rfl rfl) (idNe ?_))))
  rw [decide_eq_true rfl]
  (try simp only [asI_mk', asB_mk, asP_mk, asA_mk, asM_mk, asSl_mk, asStr_mk, tup2_mk, tup3_mk, agg1_mk, agg2_mk, agg3_mk, agg4_mk, asAggm, unCons_mk, unNil_mk, asTup_mk, extractD0, extractD1, List.toList_toArray, nilP_mk, add_mk, Nat.zero_add, Nat.add_zero, condT, condF, Bool.not_true, Bool.not_false, Option.isNone_some, Option.isNone_none])
  refine ldI_of (g.cell (i := 1) rfl rfl) (ldI_of (g.cell (i := 0) rfl rfl) (bif_neqf rfl ?_))
  refine ldI_of (g.cell (i := 1) rfl rfl) (ldI_of (g.cell (i := 0) rfl rfl) (bif_neqf rfl ?_))
  refine ldI_of (g.cell (i := 1) rfl rfl) (ldI_of (g.cell (i := 0) rfl rfl) (bif_eq rfl ?_))
  refine ldI_of (g.cell (i := 1) rfl rfl) (ldI_of (g.cell (i := 0) rfl rfl) (bif_eq rfl ?_))
  refine ldI_of (g.cell (i := 1) rfl rfl) (ldI_of (g.cell (i := 0) rfl rfl) (bif_eq rfl ?_))
  refine ldI_of (g.cell (i := 1) rfl rfl) (ldI_of (g.cell (i := 0) rfl rfl) (bif_eq rfl ?_))
  refine ldI_of (g.cell (i := 1) rfl rfl) (ldI_of (g.cell (i := 0) rfl rfl) (bif_eq rfl ?_))
  refine ldSl_of (g.cell (i := 1) rfl rfl) (ldSl_of (g.cell (i := 0) rfl rfl) (idsNone ?_))
  (try simp only [asI_mk', asB_mk, asP_mk, asA_mk, asM_mk, asSl_mk, asStr_mk, tup2_mk, tup3_mk, agg1_mk, agg2_mk, agg3_mk, agg4_mk, asAggm, unCons_mk, unNil_mk, asTup_mk, extractD0, extractD1, List.toList_toArray, nilP_mk, add_mk, Nat.zero_add, Nat.add_zero, condT, condF, Bool.not_true, Bool.not_false, Option.isNone_some, Option.isNone_none])
  refine ldSl_of (g.cell (i := 1) rfl rfl) (ldSl_of (g.cell (i := 0) rfl rfl) (numbersC rd rd (by decide) (by decide) ?_))
  rw [decide_eq_true rfl]
  exact hK

def zeroRaw : Cf := ⟨0, 0, 0, 0, 0, 0, 0, 0, 0, 0, 0, 0, 0, 0, 0, 0, 0, 0, 0, 0, 0, 0⟩
theorem zero_a0 : (confOf zeroRaw).a0 = 2 := by
  show IntKind.i64.wrap (2 + pick 0 3) = 2
  decide
def kn1 : Tr := ⟨1, 1, 0, 1, [⟨false, 1, ⟨2, 7⟩, 0⟩], [], 0, [], 5, 0⟩
def kn2 : Tr := ⟨1, 1, 0, 1, [⟨false, 1, ⟨2, 7⟩, 2⟩, ⟨true, 1, ⟨1, 4⟩, 0⟩], [(1, 3)], 1, [], 0, 0⟩
def kn3 : Tr := ⟨1, 1, 0, 2, [⟨false, 1, ⟨2, 7⟩, 2⟩, ⟨true, 1, ⟨1, 4⟩, 0⟩], [(1, 3)], 2, [1], 0, 0⟩
def kn4 : Tr := ⟨1, 1, 1, 0, [], [], 0, [], 0, 0⟩
theorem knB : (newTr 1 0).begun 2 7 5 = kn1 := by rfl
theorem kn12 {a b : Int} : (kn1.told a b 5).hear 2 ⟨9, 1, 1, 1, 0, 2, 3, [4]⟩ = kn2 ∧ (kn1.told a b 5).heeds ⟨9, 1, 1, 1, 0, 2, 3, [4]⟩ = true := ⟨by rfl, by rfl⟩
theorem kn23 {a b : Int} : (kn2.told a b 5).hear 2 ⟨9, 1, 1, 1, 1, 0, 0, []⟩ = kn3 ∧ (kn2.told a b 5).heeds ⟨9, 1, 1, 1, 1, 0, 0, []⟩ = true := ⟨by rfl, by rfl⟩
theorem kn34 : kn3.hear 2 ⟨9, 1, 1, 1, 2, 2, 3, []⟩ = kn4 ∧ kn3.heeds ⟨9, 1, 1, 1, 2, 2, 3, []⟩ = true := ⟨by rfl, by rfl⟩
theorem rdNil {H : Hp} : Rd H 1 none 0 (([] : List Int).map (Value.int .u64)) := ⟨rfl, rfl⟩
theorem knownC (h : St H0 L H) (hK : ∀ H', St H0 L H' → K (.bool true) H') : hcall PR f_law23_known ⟨[]⟩ H K := by
  apply den_law23_known
  unfold B_law23_known
  have hg : (confOf zeroRaw).good := conf_good (by decide) (by decide)
  have h0 := zero_a0
  refine configC (r := zeroRaw) h fun H1 g1 => ?_
  generalize confOf zeroRaw = c at *
  unfold Cf.val
  (try simp only [asI_mk', asB_mk, asP_mk, asA_mk, asM_mk, asSl_mk, asStr_mk, tup2_mk, tup3_mk, agg1_mk, agg2_mk, agg3_mk, agg4_mk, asAggm, unCons_mk, unNil_mk, asTup_mk, extractD0, extractD1, List.toList_toArray, nilP_mk, add_mk, Nat.zero_add, Nat.add_zero, condT, condF, Bool.not_true, Bool.not_false, Option.isNone_some, Option.isNone_none])
  refine newC hg g1 (fun h => absurd h (by omega)) fun _ _ tb H2 g2 => ?_
  (try simp only [asI_mk', asB_mk, asP_mk, asA_mk, asM_mk, asSl_mk, asStr_mk, tup2_mk, tup3_mk, agg1_mk, agg2_mk, agg3_mk, agg4_mk, asAggm, unCons_mk, unNil_mk, asTup_mk, extractD0, extractD1, List.toList_toArray, nilP_mk, add_mk, Nat.zero_add, Nat.add_zero, condT, condF, Bool.not_true, Bool.not_false, Option.isNone_some, Option.isNone_none])
  refine bif_neqf rfl ?_
  (try simp only [Option.isNone, condF])
  refine stubC g2 fun H3 g3 => ?_
  (try simp only [asI_mk', asB_mk, asP_mk, asA_mk, asM_mk, asSl_mk, asStr_mk, tup2_mk, tup3_mk, agg1_mk, agg2_mk, agg3_mk, agg4_mk, asAggm, unCons_mk, unNil_mk, asTup_mk, extractD0, extractD1, List.toList_toArray, nilP_mk, add_mk, Nat.zero_add, Nat.add_zero, condT, condF, Bool.not_true, Bool.not_false, Option.isNone_some, Option.isNone_none])
  have hb0 : (newTr 1 0).beginE c.a0 2 7 = 0 := by rw [h0]; rfl
  refine trBeginC g3 (k := 0) rfl (by simp only [newTr]; omega) (fun h => absurd hb0 h) fun _ H4 g4 => ?_
  rw [knB] at g4
  (try simp only [asI_mk', asB_mk, asP_mk, asA_mk, asM_mk, asSl_mk, asStr_mk, tup2_mk, tup3_mk, agg1_mk, agg2_mk, agg3_mk, agg4_mk, asAggm, unCons_mk, unNil_mk, asTup_mk, extractD0, extractD1, List.toList_toArray, nilP_mk, add_mk, Nat.zero_add, Nat.add_zero, condT, condF, Bool.not_true, Bool.not_false, Option.isNone_some, Option.isNone_none])
  refine bif_neqf rfl ?_
  refine trStepC g4 (k := 0) rfl (fun h => absurd h (by decide)) fun _ H5 g5 => ?_
  have hq : kn1.q = ⟨8, 1, 1, 1, 2, 0, ⟨2, 7⟩, 0⟩ := by rfl
  rw [hq]
  unfold Qn.val
  (try simp only [asI_mk', asB_mk, asP_mk, asA_mk, asM_mk, asSl_mk, asStr_mk, tup2_mk, tup3_mk, agg1_mk, agg2_mk, agg3_mk, agg4_mk, asAggm, unCons_mk, unNil_mk, asTup_mk, extractD0, extractD1, List.toList_toArray, nilP_mk, add_mk, Nat.zero_add, Nat.add_zero, condT, condF, Bool.not_true, Bool.not_false, Option.isNone_some, Option.isNone_none])
  refine boxz (c := [.int .i64 0, .int .i64 0, .int .i64 0, .int .u64 0, .int .u64 0, .int .i64 0, .int .i64 0, .int .i64 0, .int .i64 0, .int .u64 0, .slice none 0 0, .int .u64 0, .int .i64 0, .int .u64 0, .int .i64 0, .int .u64 0, .int .i64 0, .int .u64 0, .slice none 0 0]) (vs := Qn.cells ⟨8, 1, 1, 1, 2, 0, ⟨2, 7⟩, 0⟩) g5 rfl fun b152 H6 g6 => ?_
  intro b173 hb173
  have g7 := g6.alloc (o := .cells #[.int .u64 4] ty_uint64) hb173
  have g7 : St H0 (Prt.one b173 (.cells #[.int .u64 4] ty_uint64 (0, 0)) :: Prt.one b152 (.cells (Qn.cells ⟨8, 1, 1, 1, 2, 0, ⟨2, 7⟩, 0⟩).toArray ty_api_Msg (0, 0)) :: TrP tb c (kn1.told c.a14 c.a15 5) :: L) _ := g7
  refine trHearC (m := ⟨9, 1, 1, 1, 0, 2, 3, [4]⟩) (k := 2) g7 rfl (by omega) rfl (by decide) (fun n hn => by simp at hn; omega) (fun N M H' hot h' => (St.lesses (M := N) h').one_rd (n := 1) (k := 1) (hot 0 _ rfl (by decide)) rfl) fun H8 g8 => ?_
  rw [h0, kn12.1] at g8
  rw [kn12.2]
  (try simp only [asI_mk', asB_mk, asP_mk, asA_mk, asM_mk, asSl_mk, asStr_mk, tup2_mk, tup3_mk, agg1_mk, agg2_mk, agg3_mk, agg4_mk, asAggm, unCons_mk, unNil_mk, asTup_mk, extractD0, extractD1, List.toList_toArray, nilP_mk, add_mk, Nat.zero_add, Nat.add_zero, condT, condF, Bool.not_true, Bool.not_false, Option.isNone_some, Option.isNone_none])
  refine trStepC g8 (k := 2) rfl (fun h => absurd h (by decide)) fun _ H9 g9 => ?_
  have hq : kn2.q = ⟨8, 1, 1, 1, 1, 1, ⟨1, 4⟩, 0⟩ := by rfl
  rw [hq]
  unfold Qn.val
  (try simp only [asI_mk', asB_mk, asP_mk, asA_mk, asM_mk, asSl_mk, asStr_mk, tup2_mk, tup3_mk, agg1_mk, agg2_mk, agg3_mk, agg4_mk, asAggm, unCons_mk, unNil_mk, asTup_mk, extractD0, extractD1, List.toList_toArray, nilP_mk, add_mk, Nat.zero_add, Nat.add_zero, condT, condF, Bool.not_true, Bool.not_false, Option.isNone_some, Option.isNone_none])
  refine boxz (c := [.int .i64 0, .int .i64 0, .int .i64 0, .int .u64 0, .int .u64 0, .int .i64 0, .int .i64 0, .int .i64 0, .int .i64 0, .int .u64 0, .slice none 0 0, .int .u64 0, .int .i64 0, .int .u64 0, .int .i64 0, .int .u64 0, .int .i64 0, .int .u64 0, .slice none 0 0]) (vs := Qn.cells ⟨8, 1, 1, 1, 1, 1, ⟨1, 4⟩, 0⟩) g9 rfl fun b245 H10 g10 => ?_
  refine trHearC (m := ⟨9, 1, 1, 1, 1, 0, 0, []⟩) (k := 3) g10 rfl (by omega) rfl (by decide) (fun n hn => by cases hn) (fun N M H' hot h' => rdNil) fun H11 g11 => ?_
  rw [h0, kn23.1] at g11
  rw [kn23.2]
  (try simp only [asI_mk', asB_mk, asP_mk, asA_mk, asM_mk, asSl_mk, asStr_mk, tup2_mk, tup3_mk, agg1_mk, agg2_mk, agg3_mk, agg4_mk, asAggm, unCons_mk, unNil_mk, asTup_mk, extractD0, extractD1, List.toList_toArray, nilP_mk, add_mk, Nat.zero_add, Nat.add_zero, condT, condF, Bool.not_true, Bool.not_false, Option.isNone_some, Option.isNone_none])
  refine trStateC g11 (k := 3) rfl ?_
  (try simp only [asI_mk', asB_mk, asP_mk, asA_mk, asM_mk, asSl_mk, asStr_mk, tup2_mk, tup3_mk, agg1_mk, agg2_mk, agg3_mk, agg4_mk, asAggm, unCons_mk, unNil_mk, asTup_mk, extractD0, extractD1, List.toList_toArray, nilP_mk, add_mk, Nat.zero_add, Nat.add_zero, condT, condF, Bool.not_true, Bool.not_false, Option.isNone_some, Option.isNone_none])
  refine trHearC (m := ⟨9, 1, 1, 1, 2, 2, 3, []⟩) (k := 3) g11 rfl (by omega) rfl (by decide) (fun n hn => by cases hn) (fun N M H' hot h' => rdNil) fun H12 g12 => ?_
  rw [h0, kn34.1] at g12
  rw [kn34.2]
  (try simp only [asI_mk', asB_mk, asP_mk, asA_mk, asM_mk, asSl_mk, asStr_mk, tup2_mk, tup3_mk, agg1_mk, agg2_mk, agg3_mk, agg4_mk, asAggm, unCons_mk, unNil_mk, asTup_mk, extractD0, extractD1, List.toList_toArray, nilP_mk, add_mk, Nat.zero_add, Nat.add_zero, condT, condF, Bool.not_true, Bool.not_false, Option.isNone_some, Option.isNone_none])
  refine trCountC g12 (k := 3) rfl ?_
  have g : St H0 (Prt.one b245 (.cells (Qn.cells ⟨8, 1, 1, 1, 1, 1, ⟨1, 4⟩, 0⟩).toArray ty_api_Msg (0, 0)) :: Prt.one b173 (.cells #[.int .u64 4] ty_uint64 (0, 0)) :: Prt.one b152 (.cells (Qn.cells ⟨8, 1, 1, 1, 2, 0, ⟨2, 7⟩, 0⟩).toArray ty_api_Msg (0, 0)) :: TrP tb c kn4 :: L) H12 := g12
  (try simp only [asI_mk', asB_mk, asP_mk, asA_mk, asM_mk, asSl_mk, asStr_mk, tup2_mk, tup3_mk, agg1_mk, agg2_mk, agg3_mk, agg4_mk, asAggm, unCons_mk, unNil_mk, asTup_mk, extractD0, extractD1, List.toList_toArray, nilP_mk, add_mk, Nat.zero_add, Nat.add_zero, condT, condF, Bool.not_true, Bool.not_false, Option.isNone_some, Option.isNone_none])
  refine ldI_of (g.cell (i := 2) rfl rfl) (bif_eq rfl (ldI_of (g.cell (i := 2) rfl rfl) (bif_eq rfl (ldI_of (g.cell (i := 2) rfl rfl) (bif_eq rfl (ldI_of (g.cell (i := 2) rfl rfl) (bif_eq rfl ?_)))))))
  (try simp only [asI_mk', asB_mk, asP_mk, asA_mk, asM_mk, asSl_mk, asStr_mk, tup2_mk, tup3_mk, agg1_mk, agg2_mk, agg3_mk, agg4_mk, asAggm, unCons_mk, unNil_mk, asTup_mk, extractD0, extractD1, List.toList_toArray, nilP_mk, add_mk, Nat.zero_add, Nat.add_zero, condT, condF, Bool.not_true, Bool.not_false, Option.isNone_some, Option.isNone_none])
  refine ldI_of (g.cell (i := 0) rfl rfl) (bif_eq rfl (ldI_of (g.cell (i := 0) rfl rfl) (ldI_of (g.cell (i := 0) rfl rfl) (idEq ?_))))
  rw [decide_eq_true rfl]
  (try simp only [asI_mk', asB_mk, asP_mk, asA_mk, asM_mk, asSl_mk, asStr_mk, tup2_mk, tup3_mk, agg1_mk, agg2_mk, agg3_mk, agg4_mk, asAggm, unCons_mk, unNil_mk, asTup_mk, extractD0, extractD1, List.toList_toArray, nilP_mk, add_mk, Nat.zero_add, Nat.add_zero, condT, condF, Bool.not_true, Bool.not_false, Option.isNone_some, Option.isNone_none])
  refine ldI_of (g.cell (i := 0) rfl rfl) (bif_eq rfl ?_)
  (try simp only [asI_mk', asB_mk, asP_mk, asA_mk, asM_mk, asSl_mk, asStr_mk, tup2_mk, tup3_mk, agg1_mk, agg2_mk, agg3_mk, agg4_mk, asAggm, unCons_mk, unNil_mk, asTup_mk, extractD0, extractD1, List.toList_toArray, nilP_mk, add_mk, Nat.zero_add, Nat.add_zero, condT, condF, Bool.not_true, Bool.not_false, Option.isNone_some, Option.isNone_none])
  refine bif_eq rfl ?_
  (try simp only [asI_mk', asB_mk, asP_mk, asA_mk, asM_mk, asSl_mk, asStr_mk, tup2_mk, tup3_mk, agg1_mk, agg2_mk, agg3_mk, agg4_mk, asAggm, unCons_mk, unNil_mk, asTup_mk, extractD0, extractD1, List.toList_toArray, nilP_mk, add_mk, Nat.zero_add, Nat.add_zero, condT, condF, Bool.not_true, Bool.not_false, Option.isNone_some, Option.isNone_none])
  refine trStateC g (k := 3) rfl ?_
  (try simp only [asI_mk', asB_mk, asP_mk, asA_mk, asM_mk, asSl_mk, asStr_mk, tup2_mk, tup3_mk, agg1_mk, agg2_mk, agg3_mk, agg4_mk, asAggm, unCons_mk, unNil_mk, asTup_mk, extractD0, extractD1, List.toList_toArray, nilP_mk, add_mk, Nat.zero_add, Nat.add_zero, condT, condF, Bool.not_true, Bool.not_false, Option.isNone_some, Option.isNone_none])
  exact hK H12 (St.lesses (M := [_, _, _, _]) g)
end
end Go.Proofs.Ytknejebggegfjaa

namespace Go.Proofs.Ytknejebggegfjaa
set_option linter.unusedSimpArgs false
set_option linter.unusedVariables false
open Go
/-- A web. -/
structure Web where
  ins : List (List Int)
  outs : List (List Int)
  live : List Int
  gone : List Int
def insW (w : Web) (node : Int) (x : Id) : List Int :=
  if w.ins.length = 0 then [] else [1, 2, 3, 4].filter fun s => ((w.ins.getD (Int.tmod (7 * node + x.s) w.ins.length).toNat []).take 3).any fun v => decide (1 + Int.tmod v 4 = s)
def upto4 (nodes : Int) : List Int := [1, 2, 3, 4].filter fun n => decide (n ≤ nodes)
def holdW (w : Web) (nodes : Int) (x : Id) : List Int :=
  if w.outs.length = 0 then [] else (upto4 nodes).filter fun n => decide (n ≠ x.n) && ((w.outs.getD (Int.tmod (5 * x.n + x.s) w.outs.length).toNat []).take 3).any fun v => decide (1 + Int.tmod v nodes = n)
def amongW (l : List Int) (n : Int) : Bool := l.any fun v => decide (pick v 60 = n)
def numW (inn : Bool) (node : Int) (x : Id) : Int := Int.tmod (12 * node + 4 * x.n + x.s + if inn then 1 else 0) 60
def ansW (w : Web) (nodes : Int) (q : Qn) : Ms :=
  if q.kind = 10 then ⟨11, q.to, q.frm, q.call, q.item, 0, 0, []⟩
  else if q.op = 3 then ⟨9, q.to, q.frm, q.call, q.item, 2, 10 + q.to, []⟩
  else if amongW w.live (numW (q.op == 1) q.to q.tgt) then ⟨9, q.to, q.frm, q.call, q.item, 1, 10 + q.to, []⟩
  else if amongW w.gone (numW (q.op == 1) q.to q.tgt) then ⟨9, q.to, q.frm, q.call, q.item, 0, 10 + q.to, []⟩
  else if q.op = 1 then ⟨9, q.to, q.frm, q.call, q.item, 2, 10 + q.to, holdW w nodes q.tgt⟩
  else ⟨9, q.to, q.frm, q.call, q.item, 2, 10 + q.to, insW w q.to q.tgt⟩

/-- What can be asked about. -/
def inU (nodes : Int) (x : It) : Prop :=
  (x.inn = true ∧ x.node = x.id.n ∧ (1 ≤ x.node ∧ x.node ≤ nodes) ∧ (1 ≤ x.id.s ∧ x.id.s ≤ 4)) ∨
  (x.inn = false ∧ (1 ≤ x.node ∧ x.node ≤ nodes) ∧ x.node ≠ x.id.n ∧ (1 ≤ x.id.n ∧ x.id.n ≤ nodes) ∧ ((1 ≤ x.id.s ∧ x.id.s ≤ 4) ∨ (x.node = 1 ∧ x.id.n = 2 ∧ x.id.s = 7)))
def apart (l : List It) : Prop := l.Pairwise fun a b => a.same b = false
def itNo (x : It) : Int := if x.inn then (x.node - 1) * 4 + (x.id.s - 1) else 16 + ((x.node - 1) * 4 + (x.id.n - 1)) * 8 + (x.id.s - 1)
section
variable {nodes : Int} {w : Web} {t : Tr} {m : Ms} {i : Nat}
theorem id_ext {a b : Id} (h1 : a.n = b.n) (h2 : a.s = b.s) : a = b := by
  cases a; cases b; simp only at h1 h2; rw [h1, h2]
theorem itNo_inj (hn : nodes ≤ 4) {a b : It} (ha : inU nodes a) (hb : inU nodes b) (h : itNo a = itNo b) : a.same b = true := by
  rw [it_same]
  unfold itNo at h
  unfold inU at ha hb
  cases h1 : a.inn <;> cases h2 : b.inn <;> simp only [h1, h2, if_true, if_false, Bool.false_eq_true] at h ha hb <;> simp only [true_and, false_and, or_false, false_or, reduceCtorEq] at ha hb ⊢
  · obtain ⟨a1, a2, a3, a4⟩ := ha
    obtain ⟨b1, b2, b3, b4⟩ := hb
    have : a.node = b.node ∧ a.id.n = b.id.n ∧ a.id.s = b.id.s := by
      rcases a4 with a4 | a4 <;> rcases b4 with b4 | b4 <;> omega
    exact ⟨this.1, id_ext this.2.1 this.2.2⟩
  · obtain ⟨a1, a2, a3, a4⟩ := ha
    omega
  · obtain ⟨b1, b2, b3, b4⟩ := hb
    omega
  · have : a.node = b.node ∧ a.id.n = b.id.n ∧ a.id.s = b.id.s := by omega
    exact ⟨this.1, id_ext this.2.1 this.2.2⟩
theorem itNo_lt (hn : nodes ≤ 4) {a : It} (ha : inU nodes a) : 0 ≤ itNo a ∧ itNo a < 144 := by
  unfold itNo
  rcases ha with ⟨h1, h2, h3, h4⟩ | ⟨h1, h2, h3, h4, h5⟩
  · rw [h1, if_pos rfl]; omega
  · rw [h1, if_neg (by decide)]; omega
theorem few_items (hn : nodes ≤ 4) {l : List It} (hu : ∀ x ∈ l, inU nodes x) (ha : apart l) : l.length ≤ 144 := by
  have h := keys_few (k := 144) (l := l.map fun x => (itNo x + 1, (0 : Int))) (by
    unfold mnod
    rw [List.map_map]
    unfold List.Nodup
    rw [List.pairwise_map]
    refine List.Pairwise.imp_of_mem (fun {a b} ha hb h e => ?_) ha
    have e : itNo a + 1 = itNo b + 1 := e
    rw [itNo_inj hn (hu a ha) (hu b hb) (by omega)] at h
    cases h) fun e he => by
      obtain ⟨x, hx, rfl⟩ := List.mem_map.1 he
      have := itNo_lt hn (hu x hx)
      show 1 ≤ itNo x + 1 ∧ itNo x + 1 ≤ _
      omega
  simpa using h

/-- What is told of an item, as items; all of a list, added. -/
def tells (nodes : Int) (w : Web) (x : It) : List It :=
  if x.inn then (holdW w nodes x.id).map fun n => ⟨false, n, x.id, 0⟩ else (insW w x.node x.id).map fun s => ⟨true, x.node, ⟨x.node, s⟩, 0⟩
def addAll : List It → List It → List It
  | l, [] => l
  | l, y :: r => addAll (if l.any (fun z => z.same y) then l else l ++ [y]) r
theorem ins_in {node : Int} {x : Id} {s : Int} (h : s ∈ insW w node x) : 1 ≤ s ∧ s ≤ 4 := by
  unfold insW at h
  split at h
  · cases h
  · have := (List.mem_filter.1 h).1
    simp at this
    omega
theorem hold_in {x : Id} {n : Int} (h : n ∈ holdW w nodes x) : (1 ≤ n ∧ n ≤ 4) ∧ n ≤ nodes ∧ n ≠ x.n := by
  unfold holdW at h
  split at h
  · cases h
  · obtain ⟨h1, h2⟩ := List.mem_filter.1 h
    unfold upto4 at h1
    obtain ⟨h3, h4⟩ := List.mem_filter.1 h1
    rw [Bool.and_eq_true] at h2
    have h2 := of_decide_eq_true h2.1
    have h4 := of_decide_eq_true h4
    simp at h3
    exact ⟨by omega, h4, h2⟩
theorem tells_in {x y : It} (hx : inU nodes x) (h : y ∈ tells nodes w x) : inU nodes y ∧ y.code = 0 := by
  unfold tells at h
  rcases hx with ⟨h1, h2, h3, h4⟩ | ⟨h1, h2, h3, h4, h5⟩
  · rw [h1, if_pos rfl] at h
    obtain ⟨n, hn, rfl⟩ := List.mem_map.1 h
    obtain ⟨n1, n2, n3⟩ := hold_in hn
    exact ⟨.inr ⟨rfl, ⟨n1.1, n2⟩, n3, by simp only; omega, .inl h4⟩, rfl⟩
  · rw [h1, if_neg (by decide)] at h
    obtain ⟨s, hs, rfl⟩ := List.mem_map.1 h
    have := ins_in hs
    exact ⟨.inl ⟨rfl, rfl, h2, this⟩, rfl⟩
theorem add_in : ∀ {r l : List It}, (∀ x ∈ l, inU nodes x) → apart l → (∀ y ∈ r, inU nodes y) → (∀ x ∈ addAll l r, inU nodes x) ∧ apart (addAll l r)
  | [], l, h1, h2, h3 => ⟨h1, h2⟩
  | y :: r, l, h1, h2, h3 => by
    unfold addAll
    split
    · exact add_in h1 h2 fun z hz => h3 z (by simp [hz])
    · rename_i hno
      refine add_in (fun x hx => ?_) ?_ fun z hz => h3 z (by simp [hz])
      · rcases List.mem_append.1 hx with hx | hx
        · exact h1 x hx
        · simp at hx; rw [hx]; exact h3 y (by simp)
      · unfold apart
        rw [List.pairwise_append]
        refine ⟨h2, by simp, fun a ha b hb => ?_⟩
        simp at hb
        rw [hb]
        cases hs : a.same y
        · rfl
        · exact absurd (List.any_eq_true.2 ⟨a, ha, hs⟩) hno
theorem add_grow : ∀ {r l : List It}, ∃ r', addAll l r = l ++ r'
  | [], l => ⟨[], by simp [addAll]⟩
  | y :: r, l => by
    unfold addAll
    split
    · exact add_grow
    · obtain ⟨r', h⟩ := add_grow (r := r) (l := l ++ [y])
      exact ⟨y :: r', by rw [h]; simp⟩
theorem more_tells (hn : nodes ≤ 4) {x : It} (hx : inU nodes x) {f : Int → It} : ∀ {r : List Int} {l : List It}, (∀ n ∈ r, moreIt nodes x n = some (f n) ∧ inU nodes (f n)) → (∀ x ∈ l, inU nodes x) → apart l → moreL nodes x r l = (true, addAll l (r.map f))
  | [], l, h, h1, h2 => rfl
  | n :: r, l, h, h1, h2 => by
    obtain ⟨h3, h4⟩ := h n (by simp)
    unfold moreL
    rw [h3, List.map_cons]
    unfold addAll
    have hl := few_items hn h1 h2
    simp only
    by_cases ha : l.any (fun z => z.same (f n)) = true
    · rw [if_pos ha, if_pos ha]
      exact more_tells hn hx (fun n hn => h n (by simp [hn])) h1 h2
    · rw [if_neg ha, if_neg ha, if_neg (by omega)]
      have := add_in (r := [f n]) h1 h2 (by simpa using h4)
      unfold addAll at this
      rw [if_neg ha] at this
      unfold addAll at this
      exact more_tells hn hx (fun n hn => h n (by simp [hn])) this.1 this.2
theorem more_web (hn : 2 ≤ nodes ∧ nodes ≤ 4) {x : It} (hx : inU nodes x) {l : List It} (h1 : ∀ x ∈ l, inU nodes x) (h2 : apart l) :
    moreL nodes x (if x.inn then holdW w nodes x.id else insW w x.node x.id) l = (true, addAll l (tells nodes w x)) := by
  unfold tells
  cases hi : x.inn
  · rw [if_neg (by decide), if_neg (by decide)]
    refine more_tells hn.2 hx (fun s hs => ?_) h1 h2
    have hs' := ins_in hs
    have hu : inU nodes (⟨true, x.node, ⟨x.node, s⟩, 0⟩ : It) := (tells_in (w := w) hx (y := ⟨true, x.node, ⟨x.node, s⟩, 0⟩) (by unfold tells; rw [hi, if_neg (by decide)]; exact List.mem_map.2 ⟨s, hs, rfl⟩)).1
    refine ⟨?_, hu⟩
    unfold moreIt
    rw [if_neg (by omega), if_neg (by omega), hi, if_neg (by decide)]
  · rw [if_pos rfl, if_pos rfl]
    refine more_tells hn.2 hx (fun n hn' => ?_) h1 h2
    obtain ⟨n1, n2, n3⟩ := hold_in hn'
    have hu : inU nodes (⟨false, n, x.id, 0⟩ : It) := (tells_in (w := w) hx (y := ⟨false, n, x.id, 0⟩) (by unfold tells; rw [hi, if_pos rfl]; exact List.mem_map.2 ⟨n, hn', rfl⟩)).1
    refine ⟨?_, hu⟩
    unfold moreIt
    rw [if_neg (by omega), if_neg (by omega), hi, if_pos rfl, if_neg (by omega), if_neg n3]
end
end Go.Proofs.Ytknejebggegfjaa

namespace Go.Proofs.Ytknejebggegfjaa
set_option linter.unusedSimpArgs false
set_option linter.unusedVariables false
open Go
/-- At the i-th question. -/
structure Wi (nodes : Int) (w : Web) (i : Nat) (t : Tr) : Prop where
  ok : t.ok nodes
  node : t.node = 1
  num : t.num = 1
  sw : t.st ≠ 0 → t.sent = 0 ∧ t.wait = 0
  opn : t.st ≠ 0 → t.opn = i
  us : ∀ x ∈ t.items, inU nodes x
  ap : apart t.items
  sm : ∀ e ∈ t.sm, e.2 = 10 + e.1
  two : t.st = 2 → (∀ n ∈ t.todo, mlook t.sm n = some (10 + n)) ∧ i + t.todo.length ≤ t.items.length + 4
  three : t.st = 3 → i + t.todo.length ≤ 2 * t.items.length + 4
def isLive (w : Web) (x : It) : Bool := amongW w.live (numW x.inn x.node x.id)
def isGone (w : Web) (x : It) : Bool := amongW w.gone (numW x.inn x.node x.id)
section
variable {nodes : Int} {w : Web} {t : Tr} {m : Ms} {i : Nat}
theorem Wi.lt (hn : nodes ≤ 4) (h : Wi nodes w i t) (h0 : t.st ≠ 0) : i < 292 := by
  have hf := few_items hn h.us h.ap
  have hs := h.ok.st
  by_cases h1 : t.st = 1
  · have := h.ok.one h1
    have := h.opn h0
    omega
  by_cases h2 : t.st = 2
  · have h3 := h.two h2
    have := List.length_pos_iff.2 (h.ok.two h2).1
    omega
  · have h3 := h.three (by omega)
    have := List.length_pos_iff.2 (h.ok.three (by omega)).1
    omega
theorem Wi.asks (h : Wi nodes w i t) (h0 : t.st ≠ 0) : t.asks 1099511627776 = true := by
  obtain ⟨h1, h2⟩ := h.sw h0
  unfold Tr.asks pastB
  rw [decide_eq_false h0, h1, h2]
  decide
theorem Wi.over (h : Wi nodes w i t) : Wi nodes w (i + 1) t.over :=
  ⟨Tr.over_ok, h.node, h.num, fun h => absurd rfl h, fun h => absurd rfl h, fun x hx => (by cases hx), List.Pairwise.nil, fun e he => (by cases he), fun h => absurd h (by simp [Tr.over]), fun h => absurd h (by simp [Tr.over])⟩
theorem Wi.finds' (h1 : t.node = 1) (h2 : t.num = 1) : Wi nodes w (i + 1) t.finds :=
  ⟨Tr.finds_ok, h1, h2, fun h => absurd rfl h, fun h => absurd rfl h, fun x hx => (by cases hx), List.Pairwise.nil, fun e he => (by cases he), fun h => absurd h (by simp [Tr.finds, Tr.over]), fun h => absurd h (by simp [Tr.finds, Tr.over])⟩
theorem next_opn (ho : t.opn = i) (hi : i < 100000) : t.next.opn = ((i + 1 : Nat) : Int) := by
  unfold Tr.next
  simp only
  rw [ho, wrap_i64 (by omega) (by omega)]
  omega
theorem apart_set {l : List It} {j : Nat} {c : Int} (h : apart l) : apart (l.set j { l.getD j noIt with code := c }) := by
  obtain ⟨y, hy⟩ : ∃ y, y = l.getD j noIt := ⟨_, rfl⟩
  rw [← hy]
  unfold apart at h ⊢
  rw [List.pairwise_iff_getElem] at h ⊢
  intro a b ha hb hab
  simp only [List.length_set] at ha hb
  have := h a b ha hb hab
  rw [List.getElem_set, List.getElem_set]
  have gd : ∀ (hj : j < l.length), y = l[j] := fun hj => by rw [hy, List.getD_eq_getElem?_getD, List.getElem?_eq_getElem hj]; rfl
  by_cases e1 : j = a
  · rw [if_pos e1, if_neg (by omega)]
    show y.same l[b] = false
    have e : y = l[a] := by subst e1; exact gd ha
    rw [e]
    exact this
  · rw [if_neg e1]
    by_cases e2 : j = b
    · rw [if_pos e2]
      show l[a].same y = false
      have e : y = l[b] := by subst e2; exact gd hb
      rw [e]
      exact this
    · rw [if_neg e2]
      exact this
theorem inU_code {x : It} {c : Int} (h : inU nodes x) : inU nodes { x with code := c } := h
theorem inU_set {l : List It} {j : Nat} {c : Int} (hj : j < l.length) (h : ∀ x ∈ l, inU nodes x) : ∀ x ∈ l.set j { l.getD j noIt with code := c }, inU nodes x := fun x hx => by
  rcases List.mem_or_eq_of_mem_set hx with hx | rfl
  · exact h x hx
  · have : l.getD j noIt ∈ l := by
      rw [List.getD_eq_getElem?_getD, List.getElem?_eq_getElem hj]
      exact List.getElem_mem _
    exact inU_code (h _ this)
/-- Onward, at the i-th. -/
theorem Wi.onward (hn : 2 ≤ nodes ∧ nodes ≤ 4) (ho : t.ok nodes) (h1 : t.st = 1) (hnd : t.node = 1) (hnm : t.num = 1) (hop : t.opn = i) (us : ∀ x ∈ t.items, inU nodes x) (ap : apart t.items) (sm : ∀ e ∈ t.sm, e.2 = 10 + e.1) : Wi nodes w (i + 1) t.onward := by
  have hf := few_items hn.2 us ap
  obtain ⟨o1, o2, o3⟩ := ho.one h1
  have hno := next_opn hop (by omega)
  have hok := ho.onward (by omega) h1
  unfold Tr.onward at hok ⊢
  by_cases hlt : t.next.opn < t.items.length
  · rw [if_pos hlt] at hok ⊢
    exact ⟨hok, hnd, hnm, fun _ => ⟨rfl, rfl⟩, fun _ => hno, us, ap, sm, fun h => absurd h (by show ¬ t.st = 2; omega), fun h => absurd h (by show ¬ t.st = 3; omega)⟩
  rw [if_neg hlt] at hok ⊢
  by_cases hz : t.sm.length = 0
  · rw [if_pos hz]
    exact Wi.finds' hnd hnm
  rw [if_neg hz] at hok ⊢
  have hk := keys_few (k := nodes.toNat) ho.sm fun e he => by have := ho.keys e he; omega
  have hl : (rise1 (t.sm.map (·.1))).length = t.sm.length := by rw [rise1_perm.length_eq, List.length_map]
  refine ⟨hok, hnd, hnm, fun _ => ⟨rfl, rfl⟩, fun _ => hno, us, ap, sm, fun _ => ⟨fun n hn' => ?_, ?_⟩, fun h => absurd h (by show ¬ (2 : Int) = 3; decide)⟩
  · have hm : n ∈ t.sm.map (·.1) := rise1_perm.mem_iff.1 hn'
    obtain ⟨e, he, rfl⟩ := List.mem_map.1 hm
    have := sm e he
    exact mlook_of ho.sm (by rw [← this]; exact he)
  · show i + 1 + (rise1 (t.sm.map (·.1))).length ≤ t.items.length + 4
    rw [hl]
    omega
/-- The question, and what is answered, while it asks. -/
theorem Wi.q1 (h : Wi nodes w i t) (h1 : t.st = 1) : t.q = ⟨8, 1, (t.items.getD i noIt).node, 1, if (t.items.getD i noIt).inn then 1 else 2, i, (t.items.getD i noIt).id, 0⟩ := by
  have ho := h.opn (by omega)
  unfold Tr.q
  rw [if_pos h1, h.node, h.num, ho, Int.toNat_natCast]
theorem ans1 {x : It} : ansW w nodes ⟨8, 1, x.node, 1, if x.inn then 1 else 2, i, x.id, 0⟩ =
    if isLive w x then ⟨9, x.node, 1, 1, i, 1, 10 + x.node, []⟩ else if isGone w x then ⟨9, x.node, 1, 1, i, 0, 10 + x.node, []⟩
    else ⟨9, x.node, 1, 1, i, 2, 10 + x.node, if x.inn then holdW w nodes x.id else insW w x.node x.id⟩ := by
  unfold ansW isLive isGone
  cases hx : x.inn <;> rfl
theorem Wi.mem (h : Wi nodes w i t) (h1 : t.st = 1) : i < t.items.length ∧ t.items.getD i noIt ∈ t.items := by
  have ho := h.opn (by omega)
  obtain ⟨o1, o2, o3⟩ := h.ok.one h1
  have hi : i < t.items.length := by omega
  refine ⟨hi, ?_⟩
  rw [List.getD_eq_getElem?_getD, List.getElem?_eq_getElem hi]
  exact List.getElem_mem _
theorem Wi.heeds1 (h : Wi nodes w i t) (h1 : t.st = 1) {c s : Int} {l : List Int} : t.heeds ⟨9, (t.items.getD i noIt).node, 1, 1, i, c, s, l⟩ = true := by
  unfold Tr.heeds
  rw [h.q1 h1, h1, h.node]
  simp
theorem Wi.hear1 (h : Wi nodes w i t) (h1 : t.st = 1) {c s : Int} {l : List Int} : t.hear nodes ⟨9, (t.items.getD i noIt).node, 1, 1, i, c, s, l⟩ = t.asked nodes c s l := by
  unfold Tr.hear
  rw [if_neg (by rw [h.heeds1 h1]; decide), if_pos h1]
/-- What comes of it. -/
def Tr.more1 (nodes : Int) (w : Web) (i : Nat) (t : Tr) : Tr :=
  { t with items := addAll (t.code 2).items (tells nodes w (t.items.getD i noIt)), sm := mput t.sm (t.items.getD i noIt).node (10 + (t.items.getD i noIt).node) }
theorem Wi.step1 (hn : 2 ≤ nodes ∧ nodes ≤ 4) (h : Wi nodes w i t) (h1 : t.st = 1) : t.heeds (ansW w nodes t.q) = true ∧
    t.hear nodes (ansW w nodes t.q) = if isLive w (t.items.getD i noIt) then t.over else if isGone w (t.items.getD i noIt) then (t.code 0).onward else (t.more1 nodes w i).onward := by
  obtain ⟨hi, hm⟩ := h.mem h1
  have ho := h.opn (by omega)
  have hx := h.us _ hm
  rw [h.q1 h1, ans1]
  by_cases hl : isLive w (t.items.getD i noIt) = true
  · rw [if_pos hl, if_pos hl, h.hear1 h1]
    exact ⟨h.heeds1 h1, by unfold Tr.asked; rw [if_neg (by decide), if_neg (by decide)]⟩
  rw [if_neg hl, if_neg hl]
  by_cases hg : isGone w (t.items.getD i noIt) = true
  · rw [if_pos hg, if_pos hg, h.hear1 h1]
    exact ⟨h.heeds1 h1, by unfold Tr.asked; rw [if_pos rfl]⟩
  rw [if_neg hg, if_neg hg, h.hear1 h1]
  refine ⟨h.heeds1 h1, ?_⟩
  have hto : t.opn.toNat = i := by omega
  unfold Tr.asked
  rw [if_neg (by decide), if_pos rfl, hto]
  have hsm : ¬ ((mlook t.sm (t.items.getD i noIt).node).isSome ∧ (mlook t.sm (t.items.getD i noIt).node).getD 0 ≠ 10 + (t.items.getD i noIt).node) := by
    rintro ⟨a, b⟩
    obtain ⟨v, hv⟩ := Option.isSome_iff_exists.1 a
    have := h.sm _ (mlook_mem hv)
    rw [hv] at b
    exact b this
  rw [if_neg hsm]
  have ec : (t.code 2).items = t.items.set i { t.items.getD i noIt with code := 2 } := by unfold Tr.code; rw [ho, Int.toNat_natCast]
  have hmo := more_web (w := w) hn hx (l := (t.code 2).items) (by rw [ec]; exact inU_set hi h.us) (by rw [ec]; exact apart_set h.ap)
  rw [hmo, if_neg (by simp)]
  rfl
theorem Wi.code (hn : 2 ≤ nodes ∧ nodes ≤ 4) (h : Wi nodes w i t) (h1 : t.st = 1) {c : Int} : Wi nodes w (i + 1) (t.code c).onward := by
  obtain ⟨hi, hm⟩ := h.mem h1
  have ho := h.opn (by omega)
  have ec : (t.code c).items = t.items.set i { t.items.getD i noIt with code := c } := by unfold Tr.code; rw [ho, Int.toNat_natCast]
  exact Wi.onward hn (Tr.code_ok h.ok h1) h1 h.node h.num ho (by rw [ec]; exact inU_set hi h.us) (by rw [ec]; exact apart_set h.ap) h.sm
theorem Wi.more1 (hn : 2 ≤ nodes ∧ nodes ≤ 4) (h : Wi nodes w i t) (h1 : t.st = 1) : (t.more1 nodes w i).ok nodes ∧ Wi nodes w (i + 1) (t.more1 nodes w i).onward := by
  obtain ⟨hi, hm⟩ := h.mem h1
  have ho := h.opn (by omega)
  have hx := h.us _ hm
  have ec : (t.code 2).items = t.items.set i { t.items.getD i noIt with code := 2 } := by unfold Tr.code; rw [ho, Int.toNat_natCast]
  have hadd := add_in (r := tells nodes w (t.items.getD i noIt)) (l := (t.code 2).items) (by rw [ec]; exact inU_set hi h.us) (by rw [ec]; exact apart_set h.ap) fun y hy => (tells_in hx hy).1
  have hf := few_items hn.2 hadd.1 hadd.2
  obtain ⟨r', hr'⟩ := add_grow (r := tells nodes w (t.items.getD i noIt)) (l := (t.code 2).items)
  obtain ⟨o1, o2, o3⟩ := h.ok.one h1
  have hxn : 1 ≤ (t.items.getD i noIt).node ∧ (t.items.getD i noIt).node ≤ nodes := h.ok.nds _ hm
  have hok : (t.more1 nodes w i).ok nodes := by
    refine ⟨h.ok.st, by show (addAll _ _).length ≤ 1000; omega, fun x hx' => ?_, mput_nod h.ok.sm _ _, fun e he => ?_, fun _ => ⟨o1, ?_, o3⟩, fun h2 => absurd h2 (by show ¬ t.st = 2; omega), fun h3 => absurd h3 (by show ¬ t.st = 3; omega)⟩
    · rcases hadd.1 x hx' with ⟨_, _, h3, _⟩ | ⟨_, h3, _⟩ <;> exact h3
    · rcases mput_in he with rfl | he
      · exact hxn
      · exact h.ok.keys e he
    · show t.opn < ((addAll _ _).length : Int)
      rw [hr', List.length_append, ec, List.length_set]
      omega
  refine ⟨hok, Wi.onward hn hok h1 h.node h.num ho hadd.1 hadd.2 fun e he => ?_⟩
  rcases mput_in he with rfl | he
  · rfl
  · exact h.sm e he
/-- While it checks. -/
theorem Wi.q2 (h : Wi nodes w i t) (h2 : t.st = 2) : t.q = ⟨8, 1, t.todo.getD 0 0, 1, 3, i, noId, 0⟩ := by
  have ho := h.opn (by omega)
  unfold Tr.q
  rw [if_neg (by omega), if_pos h2, h.node, h.num, ho]
theorem Wi.step2 (h : Wi nodes w i t) (h2 : t.st = 2) {l : List Int} {s : Int} : t.heeds ⟨9, t.todo.getD 0 0, 1, 1, i, 2, s, l⟩ = true ∧
    t.hear nodes ⟨9, t.todo.getD 0 0, 1, 1, i, 2, s, l⟩ = if s ≠ 10 + t.todo.getD 0 0 then t.over else if 1 < t.todo.length then { t.next with todo := t.todo.tail }
      else if (buryFrom 0 t.items).length = 0 then Tr.finds t.next else { t.next with todo := buryFrom 0 t.items, st := 3 } := by
  have hh : t.heeds ⟨9, t.todo.getD 0 0, 1, 1, i, 2, s, l⟩ = true := by
    unfold Tr.heeds
    rw [h.q2 h2, h2, h.node]
    simp
  refine ⟨hh, ?_⟩
  unfold Tr.hear
  rw [if_neg (by rw [hh]; decide), if_neg (by omega), if_pos h2]
  unfold Tr.checked
  have hpos := List.length_pos_iff.2 (h.ok.two h2).1
  have hmem : t.todo.getD 0 0 ∈ t.todo := by
    rw [List.getD_eq_getElem?_getD, List.getElem?_eq_getElem hpos]
    exact List.getElem_mem _
  rw [(h.two h2).1 _ hmem]
  rfl
theorem ans2 {n : Int} : ansW w nodes ⟨8, 1, n, 1, 3, i, noId, 0⟩ = ⟨9, n, 1, 1, i, 2, 10 + n, []⟩ := by
  unfold ansW
  rw [if_neg (show ¬ (8 : Int) = 10 by decide), if_pos (show (3 : Int) = 3 from rfl)]
theorem Wi.two1 (hn : nodes ≤ 4) (h : Wi nodes w i t) (h2 : t.st = 2) (hl : 1 < t.todo.length) : Wi nodes w (i + 1) { t.next with todo := t.todo.tail } := by
  have hi := h.lt hn (by omega)
  have hno := next_opn (h.opn (by omega)) (i := i) (by omega)
  have hok : Tr.ok nodes { t.next with todo := t.todo.tail } := by
    refine ⟨h.ok.st, h.ok.items, h.ok.nds, h.ok.sm, h.ok.keys, fun h3 => absurd h3 (by show ¬ t.st = 1; omega), fun _ => ⟨fun e => ?_, ?_⟩, fun h3 => absurd h3 (by show ¬ t.st = 3; omega)⟩
    · have := congrArg List.length e
      simp at this
      omega
    · have := (h.ok.two h2).2
      simp only [List.length_tail]
      omega
  have h3 := (h.two h2).2
  refine ⟨hok, h.node, h.num, fun _ => ⟨rfl, rfl⟩, fun _ => hno, h.us, h.ap, h.sm, fun _ => ⟨fun n hn' => (h.two h2).1 n (List.mem_of_mem_tail hn'), ?_⟩, fun h3 => absurd h3 (by show ¬ t.st = 3; omega)⟩
  show i + 1 + t.todo.tail.length ≤ t.items.length + 4
  rw [List.length_tail]
  omega
theorem Wi.two2 (hn : nodes ≤ 4) (h : Wi nodes w i t) (h2 : t.st = 2) (hl : ¬ 1 < t.todo.length) (hb : ¬ (buryFrom 0 t.items).length = 0) : Wi nodes w (i + 1) { t.next with todo := buryFrom 0 t.items, st := 3 } := by
  have hi := h.lt hn (by omega)
  have hno := next_opn (h.opn (by omega)) (i := i) (by omega)
  have hbl := bury_len (l := t.items) (k := 0)
  have hit := h.ok.items
  have hpos := List.length_pos_iff.2 (h.ok.two h2).1
  have h3 := (h.two h2).2
  have hok : Tr.ok nodes { t.next with todo := buryFrom 0 t.items, st := 3 } := by
    refine ⟨by simp, h.ok.items, h.ok.nds, h.ok.sm, h.ok.keys, fun h3 => absurd h3 (by simp), fun h3 => absurd h3 (by simp), fun _ => ⟨fun e => hb (by rw [show buryFrom 0 t.items = [] from e]; rfl), by simp only; omega, fun i hi => ?_⟩⟩
    have := bury_mem hi
    show 0 ≤ i ∧ i < (t.items.length : Int)
    omega
  refine ⟨hok, h.node, h.num, fun _ => ⟨rfl, rfl⟩, fun _ => hno, h.us, h.ap, h.sm, fun h3 => absurd h3 (by show ¬ (3 : Int) = 2; decide), fun _ => ?_⟩
  show i + 1 + (buryFrom 0 t.items).length ≤ 2 * t.items.length + 4
  omega
/-- While it buries. -/
theorem Wi.q3 (h : Wi nodes w i t) (h3 : t.st = 3) : t.q = ⟨10, 1, (t.items.getD (t.todo.getD 0 0).toNat noIt).node, 1, 0, i, (t.items.getD (t.todo.getD 0 0).toNat noIt).id, (mlook t.sm (t.items.getD (t.todo.getD 0 0).toNat noIt).node).getD 0⟩ := by
  have ho := h.opn (by omega)
  unfold Tr.q
  rw [if_neg (by omega), if_neg (by omega), h.node, h.num, ho]
theorem ans3 {n s : Int} {x : Id} : ansW w nodes ⟨10, 1, n, 1, 0, i, x, s⟩ = ⟨11, n, 1, 1, i, 0, 0, []⟩ := by
  unfold ansW
  rw [if_pos (show (10 : Int) = 10 from rfl)]
theorem Wi.step3 (h : Wi nodes w i t) (h3 : t.st = 3) : t.heeds (ansW w nodes t.q) = true ∧ t.hear nodes (ansW w nodes t.q) = t.buried := by
  rw [h.q3 h3, ans3]
  have hh : t.heeds ⟨11, (t.items.getD (t.todo.getD 0 0).toNat noIt).node, 1, 1, i, 0, 0, []⟩ = true := by
    unfold Tr.heeds
    rw [h.q3 h3, h3, h.node]
    simp
  refine ⟨hh, ?_⟩
  unfold Tr.hear
  rw [if_neg (by rw [hh]; decide), if_neg (by omega), if_neg (by omega)]
theorem Wi.three1 (hn : nodes ≤ 4) (h : Wi nodes w i t) (h3 : t.st = 3) : Wi nodes w (i + 1) t.buried := by
  have hi := h.lt hn (by omega)
  have hno := next_opn (h.opn (by omega)) (i := i) (by omega)
  have hok := h.ok.buried h3
  unfold Tr.buried at hok ⊢
  split
  · exact Wi.finds' h.node h.num
  · rename_i hl
    rw [if_neg hl] at hok
    have h4 := h.three h3
    refine ⟨hok, h.node, h.num, fun _ => ⟨rfl, rfl⟩, fun _ => hno, h.us, h.ap, h.sm, fun h2 => absurd h2 (by show ¬ t.st = 2; omega), fun _ => ?_⟩
    show i + 1 + t.todo.tail.length ≤ 2 * t.items.length + 4
    rw [List.length_tail]
    omega
/-- Whatever it asks, the web's answer is heard, and it goes on. -/
theorem Wi.step (hn : 2 ≤ nodes ∧ nodes ≤ 4) (h : Wi nodes w i t) (h0 : t.st ≠ 0) : t.heeds (ansW w nodes t.q) = true ∧ Wi nodes w (i + 1) (t.hear nodes (ansW w nodes t.q)) := by
  have hs := h.ok.st
  by_cases h1 : t.st = 1
  · obtain ⟨a, b⟩ := h.step1 hn h1
    refine ⟨a, ?_⟩
    rw [b]
    split
    · exact h.over
    · split
      · exact h.code hn h1
      · exact (h.more1 hn h1).2
  by_cases h2 : t.st = 2
  · rw [h.q2 h2, ans2]
    obtain ⟨a, b⟩ := h.step2 h2 (s := 10 + t.todo.getD 0 0) (l := [])
    refine ⟨a, ?_⟩
    rw [b, if_neg (fun h => h rfl)]
    split
    · rename_i hl; exact h.two1 hn.2 h2 hl
    · split
      · exact Wi.finds' h.node h.num
      · rename_i hl hb; exact h.two2 hn.2 h2 hl hb
  · have h3 : t.st = 3 := by omega
    obtain ⟨a, b⟩ := h.step3 h3
    refine ⟨a, ?_⟩
    rw [b]
    exact h.three1 hn.2 h3
theorem Wi.start (hn : 2 ≤ nodes ∧ nodes ≤ 4) : Wi nodes w 0 ((newTr 1 0).begun 2 7 0) := by
  refine ⟨Tr.begun_ok (by simp only [newTr]; omega), rfl, by rfl, fun _ => ⟨rfl, rfl⟩, fun _ => rfl, fun x hx => ?_, ?_, fun e he => (by cases he), fun h => absurd h (by simp [Tr.begun]), fun h => absurd h (by simp [Tr.begun])⟩
  · simp [Tr.begun, newTr] at hx
    rw [hx]
    refine .inr ⟨rfl, ⟨by decide, by simp only; omega⟩, by decide, ⟨by decide, hn.1⟩, .inr ⟨rfl, rfl, rfl⟩⟩
  · unfold apart
    simp [Tr.begun]
end
end Go.Proofs.Ytknejebggegfjaa

namespace Go.Proofs.Ytknejebggegfjaa
open Go
set_option linter.unusedVariables false
set_option maxRecDepth 100000
end Go.Proofs.Ytknejebggegfjaa

namespace Go.Proofs.Ytknejebggegfjaa
open Go
set_option linter.unusedVariables false
set_option maxRecDepth 100000
end Go.Proofs.Ytknejebggegfjaa

namespace Go.Proofs.Ytknejebggegfjaa
open Go
set_option linter.unusedVariables false
set_option maxRecDepth 100000
end Go.Proofs.Ytknejebggegfjaa

namespace Go.Proofs.Ytknejebggegfjaa
set_option linter.unusedSimpArgs false
set_option linter.unusedVariables false
set_option maxRecDepth 20000
open Go
/-- A message, whole. -/
structure Mg where
  m : Ms
  f4 : Int
  f5 : Int
  f6 : Int
  f8 : Int
  f9 : Int
  f11 : Int
  f13 : Int
  f14 : Int
  f15 : Int
  f16 : Int
  rp : Option Addr
  rl : Nat
  rc : Nat
  lp : Option Addr
  ll : Nat
  lc : Nat
def Mg.cells (g : Mg) : List Value := [.int .i64 g.m.kind, .int .i64 g.m.frm, .int .i64 g.m.to, .int .u64 g.m.call, .int .u64 g.f4, .int .i64 g.f5, .int .i64 g.f6, .int .i64 g.m.item, .int .i64 g.f8, .int .u64 g.f9, .slice g.rp g.rl g.rc, .int .u64 g.f11, .int .i64 g.m.code, .int .u64 g.f13, .int .i64 g.f14, .int .u64 g.f15, .int .i64 g.f16, .int .u64 g.m.stamp, .slice g.lp g.ll g.lc]
def Mg.val (g : Mg) : Value := .agg #[.int .i64 g.m.kind, .int .i64 g.m.frm, .int .i64 g.m.to, .int .u64 g.m.call, .int .u64 g.f4, .int .i64 g.f5, .int .i64 g.f6, .int .i64 g.m.item, .int .i64 g.f8, .int .u64 g.f9, .slice g.rp g.rl g.rc, .int .u64 g.f11, .int .i64 g.m.code, .int .u64 g.f13, .int .i64 g.f14, .int .u64 g.f15, .int .i64 g.f16, .int .u64 g.m.stamp, .slice g.lp g.ll g.lc]
def mgOf (m : Ms) (p : Option Addr) (n c : Nat) : Mg := ⟨m, 0, 0, 0, 0, 0, 0, 0, 0, 0, 0, none, 0, 0, p, n, c⟩
def mg0 : Mg := mgOf ⟨0, 0, 0, 0, 0, 0, 0, []⟩ none 0 0
section
variable {H0 H : Hp} {L M N : List Prt} {i k tb : Nat} {c : Cf} {t : Tr} {w : Web} {K : Value → Hp → Prop} {ip op lp gp : Option Addr} {il ic ol oc ll lc gl gc : Nat}
theorem St.keep1 {A : Prt} (h : St H0 (A :: (N ++ L)) H) : St H0 (A :: L) H := St.lesses (M := N) (h.perm List.perm_middle.symm)
end
end Go.Proofs.Ytknejebggegfjaa

namespace Go.Proofs.Ytknejebggegfjaa
open Go
set_option linter.unusedVariables false
set_option maxRecDepth 100000
end Go.Proofs.Ytknejebggegfjaa
