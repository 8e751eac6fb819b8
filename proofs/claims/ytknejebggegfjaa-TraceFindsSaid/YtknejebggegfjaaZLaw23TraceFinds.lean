/- Merged by merge.py: DenLaw23TraceKnown, DenLaw23TraceWaits, Law23k, DenLaw23TraceStale, DenLaw23TraceStirs, Law23s, DenLaw23TraceFinds, Law23f. No condition. -/
import Derived.Test.YtknejebggegfjaaZNum
import Derived.Test.YtknejebggegfjaaZTraceb
import Derived.Test.YtknejebggegfjaaZTracec

namespace Go.Proofs.Ytknejebggegfjaa
open Go
set_option linter.unusedVariables false
set_option maxRecDepth 100000
end Go.Proofs.Ytknejebggegfjaa

namespace Go.Proofs.Ytknejebggegfjaa
open Go
set_option linter.unusedVariables false
set_option maxRecDepth 100000
end Go.Proofs.Ytknejebggegfjaa

namespace Go.Proofs.Ytknejebggegfjaa
set_option linter.unusedSimpArgs false
set_option linter.unusedVariables false
set_option maxRecDepth 20000
open Go
def rawOf (x : E_hand_Raw) : Cf := ⟨x.Nodes, x.Mutators, x.Slots, x.Cells, x.Objects, x.Stubs, x.Calls, x.Window, x.Grey, x.Bag, x.Inbox, x.Unit, x.Drift, x.Lease, x.Wait, x.Most, x.Patience, x.Suspect, x.Trace, x.Work, x.Start, x.Last⟩
end Go.Proofs.Ytknejebggegfjaa

namespace Go.Proofs.Ytknejebggegfjaa
open Go
set_option linter.unusedVariables false
set_option maxRecDepth 100000
end Go.Proofs.Ytknejebggegfjaa

namespace Go.Proofs.Ytknejebggegfjaa
open Go
set_option linter.unusedVariables false
set_option maxRecDepth 100000
end Go.Proofs.Ytknejebggegfjaa

namespace Go.Proofs.Ytknejebggegfjaa
set_option linter.unusedSimpArgs false
set_option linter.unusedVariables false
set_option maxRecDepth 20000
open Go
section
variable {H0 H : Hp} {L M N : List Prt} {i k tb : Nat} {nodes : Int} {c : Cf} {t : Tr} {w : Web} {K : Value → Hp → Prop} {ip op lp gp : Option Addr} {il ic ol oc ll lc gl gc : Nat}
/-- Whom it asks, and what of. -/
theorem Wi.tob (hn : 2 ≤ nodes ∧ nodes ≤ 4) (h : Wi nodes w i t) (h0 : t.st ≠ 0) : (0 ≤ t.q.to ∧ t.q.to ≤ 8) ∧ (t.q.kind ≠ 10 → t.q.op ≠ 3 → (0 ≤ t.q.tgt.n ∧ t.q.tgt.n ≤ 8) ∧ (0 ≤ t.q.tgt.s ∧ t.q.tgt.s ≤ 8)) ∧ (0 ≤ t.q.frm ∧ t.q.frm = 1) ∧ 1 ≤ t.q.to ∧ t.q.to ≤ nodes := by
  have hs := h.ok.st
  by_cases h1 : t.st = 1
  · obtain ⟨hi, hm⟩ := h.mem h1
    have hx := h.us _ hm
    rw [h.q1 h1]
    simp only
    rcases hx with ⟨a, b, c, d⟩ | ⟨a, b, c, d, e⟩
    · exact ⟨by omega, fun _ _ => by omega, by simp, by omega⟩
    · exact ⟨by omega, fun _ _ => ⟨by omega, by rcases e with e | e <;> omega⟩, by simp, by omega⟩
  by_cases h2 : t.st = 2
  · rw [h.q2 h2]
    simp only
    have hpos := List.length_pos_iff.2 (h.ok.two h2).1
    have hmem : t.todo.getD 0 0 ∈ t.todo := by
      rw [List.getD_eq_getElem?_getD, List.getElem?_eq_getElem hpos]
      exact List.getElem_mem _
    have := h.ok.keys _ (mlook_mem ((h.two h2).1 _ hmem))
    simp only at this
    exact ⟨by omega, fun _ h => absurd rfl h, by simp, by omega⟩
  · have h3 : t.st = 3 := by omega
    rw [h.q3 h3]
    simp only
    obtain ⟨o1, o2, o3⟩ := h.ok.three h3
    have hpos := List.length_pos_iff.2 o1
    have hmem : t.todo.getD 0 0 ∈ t.todo := by
      rw [List.getD_eq_getElem?_getD, List.getElem?_eq_getElem hpos]
      exact List.getElem_mem _
    have hb := o3 _ hmem
    have hm : t.items.getD (t.todo.getD 0 0).toNat noIt ∈ t.items := by
      rw [List.getD_eq_getElem?_getD, List.getElem?_eq_getElem (by omega)]
      exact List.getElem_mem _
    have := h.ok.nds _ hm
    exact ⟨by omega, fun h => absurd rfl h, by simp, by omega⟩
theorem Wi.item (h : Wi nodes w i t) (h0 : t.st ≠ 0) : t.q.item = i ∧ t.q.call = 1 := by
  have hs := h.ok.st
  by_cases h1 : t.st = 1
  · rw [h.q1 h1]; exact ⟨rfl, rfl⟩
  by_cases h2 : t.st = 2
  · rw [h.q2 h2]; exact ⟨rfl, rfl⟩
  · rw [h.q3 (by omega)]; exact ⟨rfl, rfl⟩
theorem ans_list {q : Qn} : ∀ n ∈ (ansW w nodes q).list, 0 ≤ n ∧ n < 18446744073709551616 := fun n hn => by
  have key : n ∈ insW w q.to q.tgt ∨ n ∈ holdW w nodes q.tgt := by
    unfold ansW at hn
    split at hn
    · cases hn
    split at hn
    · cases hn
    split at hn
    · cases hn
    split at hn
    · cases hn
    split at hn
    · exact .inr hn
    · exact .inl hn
  rcases key with h | h
  · have := ins_in h; omega
  · have := (hold_in h).1; omega
theorem ans_few {q : Qn} : (ansW w nodes q).list.length ≤ 4 := by
  have h1 : (insW w q.to q.tgt).length ≤ 4 := by
    unfold insW
    split
    · exact Nat.zero_le _
    · exact List.length_filter_le _ [1, 2, 3, 4]
  have h2 : (holdW w nodes q.tgt).length ≤ 4 := by
    unfold holdW
    split
    · exact Nat.zero_le _
    · refine Nat.le_trans (List.length_filter_le _ _) ?_
      unfold upto4
      exact List.length_filter_le _ [1, 2, 3, 4]
  unfold ansW
  split
  · exact Nat.zero_le _
  split
  · exact Nat.zero_le _
  split
  · exact Nat.zero_le _
  split
  · exact Nat.zero_le _
  split
  · exact h2
  · exact h1
theorem told_hear {a b n : Int} {m : Ms} (h : t.heeds m = true) : (t.told a b n).hear nodes m = t.hear nodes m := by
  unfold Tr.hear
  rw [if_neg (show ¬ (t.told a b n).heeds m = false by rw [show (t.told a b n).heeds m = t.heeds m from rfl, h]; decide), if_neg (show ¬ t.heeds m = false by rw [h]; decide)]
  rfl
end
theorem live0 {w : Web} {x : It} : isLive { w with live := [] } x = false := rfl
theorem Wi.found {nodes : Int} {w : Web} {i : Nat} {t : Tr} (hn : 2 ≤ nodes ∧ nodes ≤ 4) (h : Wi nodes { w with live := [] } i t) (h0 : t.st ≠ 0) (hf : t.found = 0) :
    ((t.hear nodes (ansW { w with live := [] } nodes t.q)).st = 0 → (t.hear nodes (ansW { w with live := [] } nodes t.q)).found = 1) ∧ ((t.hear nodes (ansW { w with live := [] } nodes t.q)).st ≠ 0 → (t.hear nodes (ansW { w with live := [] } nodes t.q)).found = 0) := by
  have fin1 : ∀ t : Tr, t.found = 0 → (t.finds.st = 0 → t.finds.found = 1) ∧ (t.finds.st ≠ 0 → t.finds.found = 0) := fun t hf => by
    refine ⟨fun _ => ?_, fun h => absurd rfl h⟩
    show IntKind.i64.wrap (t.found + 1) = 1
    rw [hf]; rfl
  have onw : ∀ t : Tr, t.found = 0 → t.st = 1 → (t.onward.st = 0 → t.onward.found = 1) ∧ (t.onward.st ≠ 0 → t.onward.found = 0) := fun t hf h1 => by
    unfold Tr.onward
    split
    · exact ⟨fun h => absurd h (by show ¬ t.st = 0; omega), fun _ => hf⟩
    · split
      · exact fin1 t.next hf
      · exact ⟨fun h => absurd h (by show ¬ (2 : Int) = 0; decide), fun _ => hf⟩
  have hs := h.ok.st
  by_cases h1 : t.st = 1
  · rw [(h.step1 hn h1).2, live0, if_neg (by decide)]
    split
    · exact onw (t.code 0) hf h1
    · exact onw (t.more1 nodes _ i) hf h1
  by_cases h2 : t.st = 2
  · rw [h.q2 h2, ans2, (h.step2 h2).2, if_neg (fun h => h rfl)]
    split
    · exact ⟨fun h => absurd h (by show ¬ t.st = 0; omega), fun _ => hf⟩
    · split
      · exact fin1 t.next hf
      · exact ⟨fun h => absurd h (by show ¬ (3 : Int) = 0; decide), fun _ => hf⟩
  · have h3 : t.st = 3 := by omega
    rw [(h.step3 h3).2]
    unfold Tr.buried
    split
    · exact fin1 t.next hf
    · exact ⟨fun h => absurd h (by show ¬ t.st = 0; omega), fun _ => hf⟩
end Go.Proofs.Ytknejebggegfjaa

namespace Go.Proofs.Ytknejebggegfjaa
open Go
set_option linter.unusedVariables false
set_option maxRecDepth 100000
def B_law23_TraceFinds (rawNodes1 : Int) (rawMutators2 : Int) (rawSlots3 : Int) (rawCells4 : Int) (rawObjects5 : Int) (rawStubs6 : Int) (rawCalls7 : Int) (rawWindow8 : Int) (rawGrey9 : Int) (rawBag10 : Int) (rawInbox11 : Int) (rawUnit12 : Int) (rawDrift13 : Int) (rawLease14 : Int) (rawWait15 : Int) (rawMost16 : Int) (rawPatience17 : Int) (rawSuspect18 : Int) (rawTrace19 : Int) (rawWork20 : Int) (rawStart21 : Int) (rawLast22 : Int) (wInsP23 : Option Addr) (wInsL24 : Nat) (wInsC25 : Nat) (wOutsP26 : Option Addr) (wOutsL27 : Nat) (wOutsC28 : Nat) (wLiveP29 : Option Addr) (wLiveL30 : Nat) (wLiveC31 : Nat) (wGoneP32 : Option Addr) (wGoneL33 : Nat) (wGoneC34 : Nat) (H : Hp) (K : Value → Hp → Prop) : Prop :=
 newB (.cells #[(.int .i64 rawNodes1), (.int .i64 rawMutators2), (.int .i64 rawSlots3), (.int .i64 rawCells4), (.int .i64 rawObjects5), (.int .i64 rawStubs6), (.int .i64 rawCalls7), (.int .i64 rawWindow8), (.int .i64 rawGrey9), (.int .i64 rawBag10), (.int .i64 rawInbox11), (.int .i64 rawUnit12), (.int .i64 rawDrift13), (.int .i64 rawLease14), (.int .i64 rawWait15), (.int .i64 rawMost16), (.int .i64 rawPatience17), (.int .i64 rawSuspect18), (.int .i64 rawTrace19), (.int .i64 rawWork20), (.int .u64 rawStart21), (.int .u64 rawLast22)] ty_hand_Raw) H fun b35 Hx36 =>
 newB (.cells #[(.slice wInsP23 wInsL24 wInsC25), (.slice wOutsP26 wOutsL27 wOutsC28), (.slice wLiveP29 wLiveL30 wLiveC31), (.slice wGoneP32 wGoneL33 wGoneC34)] ty_law23_Web) Hx36 fun b37 Hx38 =>
 ldI .i64 ⟨b35, 0, none⟩ Hx38 fun Nodes39 =>
 ldI .i64 ⟨b35, 1, none⟩ Hx38 fun Mutators40 =>
 ldI .i64 ⟨b35, 2, none⟩ Hx38 fun Slots41 =>
 ldI .i64 ⟨b35, 3, none⟩ Hx38 fun Cells42 =>
 ldI .i64 ⟨b35, 4, none⟩ Hx38 fun Objects43 =>
 ldI .i64 ⟨b35, 5, none⟩ Hx38 fun Stubs44 =>
 ldI .i64 ⟨b35, 6, none⟩ Hx38 fun Calls45 =>
 ldI .i64 ⟨b35, 7, none⟩ Hx38 fun Window46 =>
 ldI .i64 ⟨b35, 8, none⟩ Hx38 fun Grey47 =>
 ldI .i64 ⟨b35, 9, none⟩ Hx38 fun Bag48 =>
 ldI .i64 ⟨b35, 10, none⟩ Hx38 fun Inbox49 =>
 ldI .i64 ⟨b35, 11, none⟩ Hx38 fun Unit50 =>
 ldI .i64 ⟨b35, 12, none⟩ Hx38 fun Drift51 =>
 ldI .i64 ⟨b35, 13, none⟩ Hx38 fun Lease52 =>
 ldI .i64 ⟨b35, 14, none⟩ Hx38 fun Wait53 =>
 ldI .i64 ⟨b35, 15, none⟩ Hx38 fun Most54 =>
 ldI .i64 ⟨b35, 16, none⟩ Hx38 fun Patience55 =>
 ldI .i64 ⟨b35, 17, none⟩ Hx38 fun Suspect56 =>
 ldI .i64 ⟨b35, 18, none⟩ Hx38 fun Trace57 =>
 ldI .i64 ⟨b35, 19, none⟩ Hx38 fun Work58 =>
 ldI .u64 ⟨b35, 20, none⟩ Hx38 fun Start59 =>
 ldI .u64 ⟨b35, 21, none⟩ Hx38 fun Last60 =>
 hcall PR f_hand_Config ⟨[(.agg #[(.int .i64 Nodes39), (.int .i64 Mutators40), (.int .i64 Slots41), (.int .i64 Cells42), (.int .i64 Objects43), (.int .i64 Stubs44), (.int .i64 Calls45), (.int .i64 Window46), (.int .i64 Grey47), (.int .i64 Bag48), (.int .i64 Inbox49), (.int .i64 Unit50), (.int .i64 Drift51), (.int .i64 Lease52), (.int .i64 Wait53), (.int .i64 Most54), (.int .i64 Patience55), (.int .i64 Suspect56), (.int .i64 Trace57), (.int .i64 Work58), (.int .u64 Start59), (.int .u64 Last60)])]⟩ Hx38 fun v61 Hx62 =>
 asAgg' v61 fun cs63 =>
 unCons cs63.toList fun v64 r65 =>
 unCons r65 fun v66 r67 =>
 unCons r67 fun v68 r69 =>
 unCons r69 fun v70 r71 =>
 unCons r71 fun v72 r73 =>
 unCons r73 fun v74 r75 =>
 unCons r75 fun v76 r77 =>
 unCons r77 fun v78 r79 =>
 unCons r79 fun v80 r81 =>
 unCons r81 fun v82 r83 =>
 unCons r83 fun v84 r85 =>
 unCons r85 fun v86 r87 =>
 unCons r87 fun v88 r89 =>
 unCons r89 fun v90 r91 =>
 unCons r91 fun v92 r93 =>
 unCons r93 fun v94 r95 =>
 unCons r95 fun v96 r97 =>
 unCons r97 fun v98 r99 =>
 unCons r99 fun v100 r101 =>
 unCons r101 fun v102 r103 =>
 unCons r103 fun v104 r105 =>
 unCons r105 fun v106 r107 =>
 unNil r107 <|
 asI .i64 v64 fun Nodes108 =>
 asI .i64 v66 fun Mutators109 =>
 asI .i64 v68 fun Slots110 =>
 asI .i64 v70 fun Cells111 =>
 asI .i64 v72 fun Objects112 =>
 asI .i64 v74 fun Stubs113 =>
 asI .i64 v76 fun Calls114 =>
 asI .i64 v78 fun Window115 =>
 asI .i64 v80 fun Grey116 =>
 asI .i64 v82 fun Bag117 =>
 asI .i64 v84 fun Inbox118 =>
 asI .u64 v86 fun Unit119 =>
 asI .u64 v88 fun Drift120 =>
 asI .u64 v90 fun Lease121 =>
 asI .u64 v92 fun Wait122 =>
 asI .u64 v94 fun Most123 =>
 asI .u64 v96 fun Patience124 =>
 asI .i64 v98 fun Suspect125 =>
 asI .i64 v100 fun Trace126 =>
 asI .i64 v102 fun Work127 =>
 asI .u64 v104 fun Start128 =>
 asI .u64 v106 fun Last129 =>
 newB (.cells #[(.int .i64 0), (.int .i64 0), (.int .i64 0), (.int .i64 0), (.int .i64 0), (.int .i64 0), (.int .i64 0), (.int .i64 0), (.int .i64 0), (.int .i64 0), (.int .i64 0), (.int .u64 0), (.int .u64 0), (.int .u64 0), (.int .u64 0), (.int .u64 0), (.int .u64 0), (.int .i64 0), (.int .i64 0), (.int .i64 0), (.int .u64 0), (.int .u64 0)] ty_api_Config) Hx62 fun b130 Hx131 =>
 st ⟨b130, 0, none⟩ (.int .i64 Nodes108) Hx131 fun Hx132 =>
 st ⟨b130, 1, none⟩ (.int .i64 Mutators109) Hx132 fun Hx133 =>
 st ⟨b130, 2, none⟩ (.int .i64 Slots110) Hx133 fun Hx134 =>
 st ⟨b130, 3, none⟩ (.int .i64 Cells111) Hx134 fun Hx135 =>
 st ⟨b130, 4, none⟩ (.int .i64 Objects112) Hx135 fun Hx136 =>
 st ⟨b130, 5, none⟩ (.int .i64 Stubs113) Hx136 fun Hx137 =>
 st ⟨b130, 6, none⟩ (.int .i64 Calls114) Hx137 fun Hx138 =>
 st ⟨b130, 7, none⟩ (.int .i64 Window115) Hx138 fun Hx139 =>
 st ⟨b130, 8, none⟩ (.int .i64 Grey116) Hx139 fun Hx140 =>
 st ⟨b130, 9, none⟩ (.int .i64 Bag117) Hx140 fun Hx141 =>
 st ⟨b130, 10, none⟩ (.int .i64 Inbox118) Hx141 fun Hx142 =>
 st ⟨b130, 11, none⟩ (.int .u64 Unit119) Hx142 fun Hx143 =>
 st ⟨b130, 12, none⟩ (.int .u64 Drift120) Hx143 fun Hx144 =>
 st ⟨b130, 13, none⟩ (.int .u64 Lease121) Hx144 fun Hx145 =>
 st ⟨b130, 14, none⟩ (.int .u64 Wait122) Hx145 fun Hx146 =>
 st ⟨b130, 15, none⟩ (.int .u64 Most123) Hx146 fun Hx147 =>
 st ⟨b130, 16, none⟩ (.int .u64 Patience124) Hx147 fun Hx148 =>
 st ⟨b130, 17, none⟩ (.int .i64 Suspect125) Hx148 fun Hx149 =>
 st ⟨b130, 18, none⟩ (.int .i64 Trace126) Hx149 fun Hx150 =>
 st ⟨b130, 19, none⟩ (.int .i64 Work127) Hx150 fun Hx151 =>
 st ⟨b130, 20, none⟩ (.int .u64 Start128) Hx151 fun Hx152 =>
 st ⟨b130, 21, none⟩ (.int .u64 Last129) Hx152 fun Hx153 =>
 ldI .i64 ⟨b130, 0, none⟩ Hx153 fun Nodes154 =>
 ldI .i64 ⟨b130, 1, none⟩ Hx153 fun Mutators155 =>
 ldI .i64 ⟨b130, 2, none⟩ Hx153 fun Slots156 =>
 ldI .i64 ⟨b130, 3, none⟩ Hx153 fun Cells157 =>
 ldI .i64 ⟨b130, 4, none⟩ Hx153 fun Objects158 =>
 ldI .i64 ⟨b130, 5, none⟩ Hx153 fun Stubs159 =>
 ldI .i64 ⟨b130, 6, none⟩ Hx153 fun Calls160 =>
 ldI .i64 ⟨b130, 7, none⟩ Hx153 fun Window161 =>
 ldI .i64 ⟨b130, 8, none⟩ Hx153 fun Grey162 =>
 ldI .i64 ⟨b130, 9, none⟩ Hx153 fun Bag163 =>
 ldI .i64 ⟨b130, 10, none⟩ Hx153 fun Inbox164 =>
 ldI .u64 ⟨b130, 11, none⟩ Hx153 fun Unit165 =>
 ldI .u64 ⟨b130, 12, none⟩ Hx153 fun Drift166 =>
 ldI .u64 ⟨b130, 13, none⟩ Hx153 fun Lease167 =>
 ldI .u64 ⟨b130, 14, none⟩ Hx153 fun Wait168 =>
 ldI .u64 ⟨b130, 15, none⟩ Hx153 fun Most169 =>
 ldI .u64 ⟨b130, 16, none⟩ Hx153 fun Patience170 =>
 ldI .i64 ⟨b130, 17, none⟩ Hx153 fun Suspect171 =>
 ldI .i64 ⟨b130, 18, none⟩ Hx153 fun Trace172 =>
 ldI .i64 ⟨b130, 19, none⟩ Hx153 fun Work173 =>
 ldI .u64 ⟨b130, 20, none⟩ Hx153 fun Start174 =>
 ldI .u64 ⟨b130, 21, none⟩ Hx153 fun Last175 =>
 hcall PR f_trace_New ⟨[(.agg #[(.int .i64 Nodes154), (.int .i64 Mutators155), (.int .i64 Slots156), (.int .i64 Cells157), (.int .i64 Objects158), (.int .i64 Stubs159), (.int .i64 Calls160), (.int .i64 Window161), (.int .i64 Grey162), (.int .i64 Bag163), (.int .i64 Inbox164), (.int .u64 Unit165), (.int .u64 Drift166), (.int .u64 Lease167), (.int .u64 Wait168), (.int .u64 Most169), (.int .u64 Patience170), (.int .i64 Suspect171), (.int .i64 Trace172), (.int .i64 Work173), (.int .u64 Start174), (.int .u64 Last175)]), (.int .i64 1), (.int .u64 0)]⟩ Hx153 fun v176 Hx177 =>
 tup2 v176 fun v178 v179 =>
 asP v178 fun t180 =>
 asI .i64 v179 fun t181 =>
 hcall PR f_law23_known ⟨[]⟩ Hx177 fun v182 Hx183 =>
 asB v182 fun t184 =>
 (bif (!t184) then
 K (.bool false) Hx183
else
 (bif ((t181 : Int) != 0) then
 K (.bool false) Hx183
else
 (bif (Option.isNone (α := Addr) t180) then
 K (.bool false) Hx183
else
 hcall PR f_law23_stub ⟨[]⟩ Hx183 fun v185 Hx186 =>
 agg2 v185 fun v187 v188 =>
 asI .i64 v187 fun Node189 =>
 asI .u64 v188 fun Serial190 =>
 hcall PR f_trace_Trace_Begin ⟨[(.pointer t180), (.agg #[(.int .i64 Node189), (.int .u64 Serial190)]), (.int .u64 0)]⟩ Hx186 fun v191 Hx192 =>
 asI .i64 v191 fun t193 =>
 (bif ((t193 : Int) != 0) then
 K (.bool false) Hx192
else
 ldSl ⟨b37, 0, none⟩ Hx192 fun InsP194 InsL195 InsC196 =>
 ldSl ⟨b37, 1, none⟩ Hx192 fun OutsP197 OutsL198 OutsC199 =>
 ldSl ⟨b37, 2, none⟩ Hx192 fun LiveP200 LiveL201 LiveC202 =>
 ldSl ⟨b37, 3, none⟩ Hx192 fun GoneP203 GoneL204 GoneC205 =>
 ldI .i64 ⟨b130, 0, none⟩ Hx192 fun Nodes206 =>
 ldI .i64 ⟨b130, 1, none⟩ Hx192 fun Mutators207 =>
 ldI .i64 ⟨b130, 2, none⟩ Hx192 fun Slots208 =>
 ldI .i64 ⟨b130, 3, none⟩ Hx192 fun Cells209 =>
 ldI .i64 ⟨b130, 4, none⟩ Hx192 fun Objects210 =>
 ldI .i64 ⟨b130, 5, none⟩ Hx192 fun Stubs211 =>
 ldI .i64 ⟨b130, 6, none⟩ Hx192 fun Calls212 =>
 ldI .i64 ⟨b130, 7, none⟩ Hx192 fun Window213 =>
 ldI .i64 ⟨b130, 8, none⟩ Hx192 fun Grey214 =>
 ldI .i64 ⟨b130, 9, none⟩ Hx192 fun Bag215 =>
 ldI .i64 ⟨b130, 10, none⟩ Hx192 fun Inbox216 =>
 ldI .u64 ⟨b130, 11, none⟩ Hx192 fun Unit217 =>
 ldI .u64 ⟨b130, 12, none⟩ Hx192 fun Drift218 =>
 ldI .u64 ⟨b130, 13, none⟩ Hx192 fun Lease219 =>
 ldI .u64 ⟨b130, 14, none⟩ Hx192 fun Wait220 =>
 ldI .u64 ⟨b130, 15, none⟩ Hx192 fun Most221 =>
 ldI .u64 ⟨b130, 16, none⟩ Hx192 fun Patience222 =>
 ldI .i64 ⟨b130, 17, none⟩ Hx192 fun Suspect223 =>
 ldI .i64 ⟨b130, 18, none⟩ Hx192 fun Trace224 =>
 ldI .i64 ⟨b130, 19, none⟩ Hx192 fun Work225 =>
 ldI .u64 ⟨b130, 20, none⟩ Hx192 fun Start226 =>
 ldI .u64 ⟨b130, 21, none⟩ Hx192 fun Last227 =>
 hcall PR f_law23_Web_back ⟨[(.agg #[(.slice InsP194 InsL195 InsC196), (.slice OutsP197 OutsL198 OutsC199), (.slice LiveP200 LiveL201 LiveC202), (.slice GoneP203 GoneL204 GoneC205)]), (.agg #[(.int .i64 Nodes206), (.int .i64 Mutators207), (.int .i64 Slots208), (.int .i64 Cells209), (.int .i64 Objects210), (.int .i64 Stubs211), (.int .i64 Calls212), (.int .i64 Window213), (.int .i64 Grey214), (.int .i64 Bag215), (.int .i64 Inbox216), (.int .u64 Unit217), (.int .u64 Drift218), (.int .u64 Lease219), (.int .u64 Wait220), (.int .u64 Most221), (.int .u64 Patience222), (.int .i64 Suspect223), (.int .i64 Trace224), (.int .i64 Work225), (.int .u64 Start226), (.int .u64 Last227)])]⟩ Hx192 fun v228 Hx229 =>
 tup2 v228 fun v230 v231 =>
 asSl v230 fun tP232 tL233 tC234 =>
 asB v231 fun t235 =>
 ∀ R236 : Option Addr → Nat → Nat → Hp → Prop, (∀ buriedP238 : Option Addr, ∀ buriedL239 : Nat, ∀ buriedC240 : Nat, ∀ Hx237 : Hp, (
 hcall PR f_trace_Trace_Count ⟨[(.pointer t180)]⟩ Hx237 fun v241 Hx242 =>
 tup2 v241 fun v243 v244 =>
 asI .u64 v243 fun t245 =>
 asI .i64 v244 fun t246 =>
 hcall PR f_trace_Trace_State ⟨[(.pointer t180)]⟩ Hx242 fun v247 Hx248 =>
 asI .i64 v247 fun t249 =>
 (bif ((t249 : Int) != 0) then
 K (.bool false) Hx248
else
 (bif (((t246 : Int) == 1) == t235) then
 K (.bool false) Hx248
else
 ∀ R250 : Int → Hp → Prop, (∀ n252 : Int, ∀ Hx251 : Hp, (
 K (.bool ((n252 : Int) == (buriedL239 : Int))) Hx251) → R250 n252 Hx251) →
 ∃ (I253 : Int → Int → Hp → Prop) (m254 : Int → Int → Hp → Nat), I253 0 0 Hx248 ∧ ∀ n256 : Int, ∀ i257 : Int, ∀ Hx255 : Hp, I253 n256 i257 Hx255 →
 (bif (decide ((i257 : Int) < (tL233 : Int))) then
 (bif (!t235) then
 ∀ R258 : Int → Hp → Prop, (∀ n260 : Int, ∀ Hx259 : Hp, (
 I253 n260 (IntKind.i64.wrap (i257 + 1)) Hx259 ∧ m254 n260 (IntKind.i64.wrap (i257 + 1)) Hx259 < m254 n256 i257 Hx255) → R258 n260 Hx259) →
 idxA tP232 tL233 i257 5 fun el261 =>
 ldB el261 Hx255 fun In262 =>
 (bif (!In262) then
 R258 n256 Hx255
else
 ldSl ⟨b37, 3, none⟩ Hx255 fun GoneP263 GoneL264 GoneC265 =>
 idxA tP232 tL233 i257 5 fun el266 =>
 ldI .i64 (el266.add 1) Hx255 fun Node267 =>
 idxA tP232 tL233 i257 5 fun el268 =>
 ldI .i64 (el268.add 2) Hx255 fun Node269 =>
 ldI .u64 ((el268.add 2).add 1) Hx255 fun Serial270 =>
 hcall PR f_law23_number ⟨[(.bool true), (.int .i64 Node267), (.agg #[(.int .i64 Node269), (.int .u64 Serial270)])]⟩ Hx255 fun v271 Hx272 =>
 asI .i64 v271 fun t273 =>
 (ldSl ⟨b37, 3, none⟩ Hx272 fun GoneP274 GoneL275 GoneC276 =>
 ((.slice GoneP274 GoneL275 GoneC276) : Value) = (.slice GoneP263 GoneL264 GoneC265)) ∧
 hcall PR f_law23_among ⟨[(.slice GoneP263 GoneL264 GoneC265), (.int .i64 t273)]⟩ Hx272 fun v277 Hx278 =>
 asB v277 fun t279 =>
 (bif t279 then
 R258 n256 Hx278
else
 ∃ (I280 : Int → Int → Hp → Prop) (m281 : Int → Int → Hp → Nat), I280 0 0 Hx278 ∧ ∀ times283 : Int, ∀ k284 : Int, ∀ Hx282 : Hp, I280 times283 k284 Hx282 →
 (bif (decide ((k284 : Int) < (buriedL239 : Int))) then
 ∀ R285 : Int → Hp → Prop, (∀ times287 : Int, ∀ Hx286 : Hp, (
 I280 times287 (IntKind.i64.wrap (k284 + 1)) Hx286 ∧ m281 times287 (IntKind.i64.wrap (k284 + 1)) Hx286 < m281 times283 k284 Hx282) → R285 times287 Hx286) →
 idxA buriedP238 buriedL239 k284 2 fun el288 =>
 ldI .i64 el288 Hx282 fun Node289 =>
 ldI .u64 (el288.add 1) Hx282 fun Serial290 =>
 idxA tP232 tL233 i257 5 fun el291 =>
 ldI .i64 (el291.add 2) Hx282 fun Node292 =>
 ldI .u64 ((el291.add 2).add 1) Hx282 fun Serial293 =>
 evR PR (aggEq .eql ty_api_ID #[(.int .i64 Node289), (.int .u64 Serial290)] #[(.int .i64 Node292), (.int .u64 Serial293)]) Hx282 fun v294 =>
 asB v294 fun eq295 =>
 (bif eq295 then
 R285 (IntKind.i64.wrap (times283 + 1)) Hx282
else
 R285 times283 Hx282)
else
 (bif ((times283 : Int) != 1) then
 K (.bool false) Hx282
else
 R258 (IntKind.i64.wrap (n256 + 1)) Hx282))))
else
 R250 n256 Hx255)
else
 R250 n256 Hx255)))) → R236 buriedP238 buriedL239 buriedC240 Hx237) →
 ∃ (I296 : Option Addr → Nat → Nat → Int → Hp → Prop) (m297 : Option Addr → Nat → Nat → Int → Hp → Nat), I296 none 0 0 0 Hx229 ∧ ∀ buriedP299 : Option Addr, ∀ buriedL300 : Nat, ∀ buriedC301 : Nat, ∀ i302 : Int, ∀ Hx298 : Hp, I296 buriedP299 buriedL300 buriedC301 i302 Hx298 →
 (bif (decide ((i302 : Int) < 2000)) then
 hcall PR f_trace_Trace_State ⟨[(.pointer t180)]⟩ Hx298 fun v303 Hx304 =>
 asI .i64 v303 fun t305 =>
 (bif ((t305 : Int) != 0) then
 hcall PR f_trace_Trace_Step ⟨[(.pointer t180), (.int .u64 1099511627776)]⟩ Hx304 fun v306 Hx307 =>
 tup2 v306 fun v308 v309 =>
 asAgg' v308 fun cs310 =>
 unCons cs310.toList fun v311 r312 =>
 unCons r312 fun v313 r314 =>
 unCons r314 fun v315 r316 =>
 unCons r316 fun v317 r318 =>
 unCons r318 fun v319 r320 =>
 unCons r320 fun v321 r322 =>
 unCons r322 fun v323 r324 =>
 unCons r324 fun v325 r326 =>
 unCons r326 fun v327 r328 =>
 unCons r328 fun v329 r330 =>
 unCons r330 fun v331 r332 =>
 unCons r332 fun v333 r334 =>
 unCons r334 fun v335 r336 =>
 unCons r336 fun v337 r338 =>
 unCons r338 fun v339 r340 =>
 unCons r340 fun v341 r342 =>
 unCons r342 fun v343 r344 =>
 unCons r344 fun v345 r346 =>
 unCons r346 fun v347 r348 =>
 unNil r348 <|
 asI .i64 v311 fun Kind349 =>
 asI .i64 v313 fun From350 =>
 asI .i64 v315 fun To351 =>
 asI .u64 v317 fun Call352 =>
 asI .u64 v319 fun Floor353 =>
 asI .i64 v321 fun Op354 =>
 asI .i64 v323 fun Field355 =>
 asI .i64 v325 fun Item356 =>
 asI .i64 v327 fun Node357 =>
 asI .u64 v329 fun Serial358 =>
 asSl v331 fun RefsP359 RefsL360 RefsC361 =>
 asI .u64 v333 fun Value362 =>
 asI .i64 v335 fun Code363 =>
 asI .u64 v337 fun Seq364 =>
 asI .i64 v339 fun Voucher365 =>
 asI .u64 v341 fun At366 =>
 asI .i64 v343 fun Dist367 =>
 asI .u64 v345 fun Stamp368 =>
 asSl v347 fun ListP369 ListL370 ListC371 =>
 asB v309 fun t372 =>
 newB (.cells #[(.int .i64 0), (.int .i64 0), (.int .i64 0), (.int .u64 0), (.int .u64 0), (.int .i64 0), (.int .i64 0), (.int .i64 0), (.int .i64 0), (.int .u64 0), (.slice none 0 0), (.int .u64 0), (.int .i64 0), (.int .u64 0), (.int .i64 0), (.int .u64 0), (.int .i64 0), (.int .u64 0), (.slice none 0 0)] ty_api_Msg) Hx307 fun b373 Hx374 =>
 st ⟨b373, 0, none⟩ (.int .i64 Kind349) Hx374 fun Hx375 =>
 st ⟨b373, 1, none⟩ (.int .i64 From350) Hx375 fun Hx376 =>
 st ⟨b373, 2, none⟩ (.int .i64 To351) Hx376 fun Hx377 =>
 st ⟨b373, 3, none⟩ (.int .u64 Call352) Hx377 fun Hx378 =>
 st ⟨b373, 4, none⟩ (.int .u64 Floor353) Hx378 fun Hx379 =>
 st ⟨b373, 5, none⟩ (.int .i64 Op354) Hx379 fun Hx380 =>
 st ⟨b373, 6, none⟩ (.int .i64 Field355) Hx380 fun Hx381 =>
 st ⟨b373, 7, none⟩ (.int .i64 Item356) Hx381 fun Hx382 =>
 st ⟨b373, 8, none⟩ (.int .i64 Node357) Hx382 fun Hx383 =>
 st ⟨b373, 9, none⟩ (.int .u64 Serial358) Hx383 fun Hx384 =>
 st ⟨b373, 10, none⟩ (.slice RefsP359 RefsL360 RefsC361) Hx384 fun Hx385 =>
 st ⟨b373, 11, none⟩ (.int .u64 Value362) Hx385 fun Hx386 =>
 st ⟨b373, 12, none⟩ (.int .i64 Code363) Hx386 fun Hx387 =>
 st ⟨b373, 13, none⟩ (.int .u64 Seq364) Hx387 fun Hx388 =>
 st ⟨b373, 14, none⟩ (.int .i64 Voucher365) Hx388 fun Hx389 =>
 st ⟨b373, 15, none⟩ (.int .u64 At366) Hx389 fun Hx390 =>
 st ⟨b373, 16, none⟩ (.int .i64 Dist367) Hx390 fun Hx391 =>
 st ⟨b373, 17, none⟩ (.int .u64 Stamp368) Hx391 fun Hx392 =>
 st ⟨b373, 18, none⟩ (.slice ListP369 ListL370 ListC371) Hx392 fun Hx393 =>
 (bif (!t372) then
 K (.bool false) Hx393
else
 ∀ R394 : Option Addr → Nat → Nat → Hp → Prop, (∀ buriedP396 : Option Addr, ∀ buriedL397 : Nat, ∀ buriedC398 : Nat, ∀ Hx395 : Hp, (
 ldSl ⟨b37, 0, none⟩ Hx395 fun InsP399 InsL400 InsC401 =>
 ldSl ⟨b37, 1, none⟩ Hx395 fun OutsP402 OutsL403 OutsC404 =>
 ldSl ⟨b37, 2, none⟩ Hx395 fun LiveP405 LiveL406 LiveC407 =>
 ldSl ⟨b37, 3, none⟩ Hx395 fun GoneP408 GoneL409 GoneC410 =>
 ldI .i64 ⟨b130, 0, none⟩ Hx395 fun Nodes411 =>
 ldI .i64 ⟨b130, 1, none⟩ Hx395 fun Mutators412 =>
 ldI .i64 ⟨b130, 2, none⟩ Hx395 fun Slots413 =>
 ldI .i64 ⟨b130, 3, none⟩ Hx395 fun Cells414 =>
 ldI .i64 ⟨b130, 4, none⟩ Hx395 fun Objects415 =>
 ldI .i64 ⟨b130, 5, none⟩ Hx395 fun Stubs416 =>
 ldI .i64 ⟨b130, 6, none⟩ Hx395 fun Calls417 =>
 ldI .i64 ⟨b130, 7, none⟩ Hx395 fun Window418 =>
 ldI .i64 ⟨b130, 8, none⟩ Hx395 fun Grey419 =>
 ldI .i64 ⟨b130, 9, none⟩ Hx395 fun Bag420 =>
 ldI .i64 ⟨b130, 10, none⟩ Hx395 fun Inbox421 =>
 ldI .u64 ⟨b130, 11, none⟩ Hx395 fun Unit422 =>
 ldI .u64 ⟨b130, 12, none⟩ Hx395 fun Drift423 =>
 ldI .u64 ⟨b130, 13, none⟩ Hx395 fun Lease424 =>
 ldI .u64 ⟨b130, 14, none⟩ Hx395 fun Wait425 =>
 ldI .u64 ⟨b130, 15, none⟩ Hx395 fun Most426 =>
 ldI .u64 ⟨b130, 16, none⟩ Hx395 fun Patience427 =>
 ldI .i64 ⟨b130, 17, none⟩ Hx395 fun Suspect428 =>
 ldI .i64 ⟨b130, 18, none⟩ Hx395 fun Trace429 =>
 ldI .i64 ⟨b130, 19, none⟩ Hx395 fun Work430 =>
 ldI .u64 ⟨b130, 20, none⟩ Hx395 fun Start431 =>
 ldI .u64 ⟨b130, 21, none⟩ Hx395 fun Last432 =>
 ldI .i64 ⟨b373, 0, none⟩ Hx395 fun Kind433 =>
 ldI .i64 ⟨b373, 1, none⟩ Hx395 fun From434 =>
 ldI .i64 ⟨b373, 2, none⟩ Hx395 fun To435 =>
 ldI .u64 ⟨b373, 3, none⟩ Hx395 fun Call436 =>
 ldI .u64 ⟨b373, 4, none⟩ Hx395 fun Floor437 =>
 ldI .i64 ⟨b373, 5, none⟩ Hx395 fun Op438 =>
 ldI .i64 ⟨b373, 6, none⟩ Hx395 fun Field439 =>
 ldI .i64 ⟨b373, 7, none⟩ Hx395 fun Item440 =>
 ldI .i64 ⟨b373, 8, none⟩ Hx395 fun Node441 =>
 ldI .u64 ⟨b373, 9, none⟩ Hx395 fun Serial442 =>
 ldSl ⟨b373, 10, none⟩ Hx395 fun RefsP443 RefsL444 RefsC445 =>
 ldI .u64 ⟨b373, 11, none⟩ Hx395 fun Value446 =>
 ldI .i64 ⟨b373, 12, none⟩ Hx395 fun Code447 =>
 ldI .u64 ⟨b373, 13, none⟩ Hx395 fun Seq448 =>
 ldI .i64 ⟨b373, 14, none⟩ Hx395 fun Voucher449 =>
 ldI .u64 ⟨b373, 15, none⟩ Hx395 fun At450 =>
 ldI .i64 ⟨b373, 16, none⟩ Hx395 fun Dist451 =>
 ldI .u64 ⟨b373, 17, none⟩ Hx395 fun Stamp452 =>
 ldSl ⟨b373, 18, none⟩ Hx395 fun ListP453 ListL454 ListC455 =>
 hcall PR f_law23_Web_answer ⟨[(.agg #[(.slice InsP399 InsL400 InsC401), (.slice OutsP402 OutsL403 OutsC404), (.slice LiveP405 LiveL406 LiveC407), (.slice GoneP408 GoneL409 GoneC410)]), (.agg #[(.int .i64 Nodes411), (.int .i64 Mutators412), (.int .i64 Slots413), (.int .i64 Cells414), (.int .i64 Objects415), (.int .i64 Stubs416), (.int .i64 Calls417), (.int .i64 Window418), (.int .i64 Grey419), (.int .i64 Bag420), (.int .i64 Inbox421), (.int .u64 Unit422), (.int .u64 Drift423), (.int .u64 Lease424), (.int .u64 Wait425), (.int .u64 Most426), (.int .u64 Patience427), (.int .i64 Suspect428), (.int .i64 Trace429), (.int .i64 Work430), (.int .u64 Start431), (.int .u64 Last432)]), (.agg #[(.int .i64 Kind433), (.int .i64 From434), (.int .i64 To435), (.int .u64 Call436), (.int .u64 Floor437), (.int .i64 Op438), (.int .i64 Field439), (.int .i64 Item440), (.int .i64 Node441), (.int .u64 Serial442), (.slice RefsP443 RefsL444 RefsC445), (.int .u64 Value446), (.int .i64 Code447), (.int .u64 Seq448), (.int .i64 Voucher449), (.int .u64 At450), (.int .i64 Dist451), (.int .u64 Stamp452), (.slice ListP453 ListL454 ListC455)])]⟩ Hx395 fun v456 Hx457 =>
 asAgg' v456 fun cs458 =>
 unCons cs458.toList fun v459 r460 =>
 unCons r460 fun v461 r462 =>
 unCons r462 fun v463 r464 =>
 unCons r464 fun v465 r466 =>
 unCons r466 fun v467 r468 =>
 unCons r468 fun v469 r470 =>
 unCons r470 fun v471 r472 =>
 unCons r472 fun v473 r474 =>
 unCons r474 fun v475 r476 =>
 unCons r476 fun v477 r478 =>
 unCons r478 fun v479 r480 =>
 unCons r480 fun v481 r482 =>
 unCons r482 fun v483 r484 =>
 unCons r484 fun v485 r486 =>
 unCons r486 fun v487 r488 =>
 unCons r488 fun v489 r490 =>
 unCons r490 fun v491 r492 =>
 unCons r492 fun v493 r494 =>
 unCons r494 fun v495 r496 =>
 unNil r496 <|
 asI .i64 v459 fun Kind497 =>
 asI .i64 v461 fun From498 =>
 asI .i64 v463 fun To499 =>
 asI .u64 v465 fun Call500 =>
 asI .u64 v467 fun Floor501 =>
 asI .i64 v469 fun Op502 =>
 asI .i64 v471 fun Field503 =>
 asI .i64 v473 fun Item504 =>
 asI .i64 v475 fun Node505 =>
 asI .u64 v477 fun Serial506 =>
 asSl v479 fun RefsP507 RefsL508 RefsC509 =>
 asI .u64 v481 fun Value510 =>
 asI .i64 v483 fun Code511 =>
 asI .u64 v485 fun Seq512 =>
 asI .i64 v487 fun Voucher513 =>
 asI .u64 v489 fun At514 =>
 asI .i64 v491 fun Dist515 =>
 asI .u64 v493 fun Stamp516 =>
 asSl v495 fun ListP517 ListL518 ListC519 =>
 hcall PR f_trace_Trace_Hear ⟨[(.pointer t180), (.agg #[(.int .i64 Kind497), (.int .i64 From498), (.int .i64 To499), (.int .u64 Call500), (.int .u64 Floor501), (.int .i64 Op502), (.int .i64 Field503), (.int .i64 Item504), (.int .i64 Node505), (.int .u64 Serial506), (.slice RefsP507 RefsL508 RefsC509), (.int .u64 Value510), (.int .i64 Code511), (.int .u64 Seq512), (.int .i64 Voucher513), (.int .u64 At514), (.int .i64 Dist515), (.int .u64 Stamp516), (.slice ListP517 ListL518 ListC519)])]⟩ Hx457 fun v520 Hx521 =>
 asB v520 fun t522 =>
 (bif (!t522) then
 K (.bool false) Hx521
else
 I296 buriedP396 buriedL397 buriedC398 (IntKind.i64.wrap (i302 + 1)) Hx521 ∧ m297 buriedP396 buriedL397 buriedC398 (IntKind.i64.wrap (i302 + 1)) Hx521 < m297 buriedP299 buriedL300 buriedC301 i302 Hx298)) → R394 buriedP396 buriedL397 buriedC398 Hx395) →
 ldI .i64 ⟨b373, 0, none⟩ Hx393 fun Kind523 =>
 (bif ((Kind523 : Int) == 10) then
 ldI .i64 ⟨b373, 8, none⟩ Hx393 fun Node524 =>
 ldI .u64 ⟨b373, 9, none⟩ Hx393 fun Serial525 =>
 newB (.cells #[(.int .i64 Node524), (.int .u64 Serial525)] ty_api_ID) Hx393 fun b526 Hx527 =>
 evW PR (Builtin.append_ #[ty_Sapi_ID, ty_Sapi_ID] ty_Sapi_ID #[(.slice buriedP299 buriedL300 buriedC301), (.slice (some ⟨b526, 0, none⟩) 1 1)]) Hx527 fun v528 Hx529 =>
 asSl v528 fun tP530 tL531 tC532 =>
 ldI .u64 ⟨b373, 17, none⟩ Hx529 fun Stamp533 =>
 ldI .i64 ⟨b373, 2, none⟩ Hx529 fun To534 =>
 (bif ((Stamp533 : Int) != (IntKind.u64.wrap (IntKind.i64.wrap (10 + To534)))) then
 K (.bool false) Hx529
else
 R394 tP530 tL531 tC532 Hx529)
else
 R394 buriedP299 buriedL300 buriedC301 Hx393))
else
 R236 buriedP299 buriedL300 buriedC301 Hx304)
else
 R236 buriedP299 buriedL300 buriedC301 Hx298)))))
theorem E_law23_TraceFinds (rawNodes1 : Int) (rawMutators2 : Int) (rawSlots3 : Int) (rawCells4 : Int) (rawObjects5 : Int) (rawStubs6 : Int) (rawCalls7 : Int) (rawWindow8 : Int) (rawGrey9 : Int) (rawBag10 : Int) (rawInbox11 : Int) (rawUnit12 : Int) (rawDrift13 : Int) (rawLease14 : Int) (rawWait15 : Int) (rawMost16 : Int) (rawPatience17 : Int) (rawSuspect18 : Int) (rawTrace19 : Int) (rawWork20 : Int) (rawStart21 : Int) (rawLast22 : Int) (wInsP23 : Option Addr) (wInsL24 : Nat) (wInsC25 : Nat) (wOutsP26 : Option Addr) (wOutsL27 : Nat) (wOutsC28 : Nat) (wLiveP29 : Option Addr) (wLiveL30 : Nat) (wLiveC31 : Nat) (wGoneP32 : Option Addr) (wGoneL33 : Nat) (wGoneC34 : Nat) (H : Hp) (K : Value → Hp → Prop) : B_law23_TraceFinds rawNodes1 rawMutators2 rawSlots3 rawCells4 rawObjects5 rawStubs6 rawCalls7 rawWindow8 rawGrey9 rawBag10 rawInbox11 rawUnit12 rawDrift13 rawLease14 rawWait15 rawMost16 rawPatience17 rawSuspect18 rawTrace19 rawWork20 rawStart21 rawLast22 wInsP23 wInsL24 wInsC25 wOutsP26 wOutsL27 wOutsC28 wLiveP29 wLiveL30 wLiveC31 wGoneP32 wGoneL33 wGoneC34 H K = denF Try.prog Try.f8 (.seq none .n (.seq none .n (.seq none .n (.seq none .n (.seq none .n (.seq none .n (.seq (some ⟨[(10, .sl)], [3, 6, 8, 9]⟩) (.seq none .n (.sub (.loop ⟨[(10, .sl), (11, .int .i64)], [3, 5, 6, 8, 9]⟩ (.seq none .n (.seq none (.sub (.seq none .n (.seq none .n (.seq (some ⟨[(10, .sl)], [3, 5, 6, 8, 9, 11, 12]⟩) .n .n)))) .n))))) (.seq none .n (.seq none .n (.seq none .n (.seq (some ⟨[(16, .int .i64)], [10]⟩) (.seq none .n (.sub (.loop ⟨[(16, .int .i64), (17, .int .i64)], [3, 8, 9, 10]⟩ (.seq none .n (.seq (some ⟨[(16, .int .i64)], [3, 8, 9, 10, 17]⟩) (.sub (.seq none .n (.seq none .n (.seq none .n (.seq none (.seq none .n (.sub (.loop ⟨[(18, .int .i64), (19, .int .i64)], [3, 8, 9, 10, 16, 17]⟩ (.seq none .n (.seq (some ⟨[(18, .int .i64)], [3, 8, 9, 10, 16, 17, 19]⟩) .n .n))))) .n))))) .n))))) .n))))))))))) [(.agg #[(.int .i64 rawNodes1), (.int .i64 rawMutators2), (.int .i64 rawSlots3), (.int .i64 rawCells4), (.int .i64 rawObjects5), (.int .i64 rawStubs6), (.int .i64 rawCalls7), (.int .i64 rawWindow8), (.int .i64 rawGrey9), (.int .i64 rawBag10), (.int .i64 rawInbox11), (.int .i64 rawUnit12), (.int .i64 rawDrift13), (.int .i64 rawLease14), (.int .i64 rawWait15), (.int .i64 rawMost16), (.int .i64 rawPatience17), (.int .i64 rawSuspect18), (.int .i64 rawTrace19), (.int .i64 rawWork20), (.int .u64 rawStart21), (.int .u64 rawLast22)]), (.agg #[(.slice wInsP23 wInsL24 wInsC25), (.slice wOutsP26 wOutsL27 wOutsC28), (.slice wLiveP29 wLiveL30 wLiveC31), (.slice wGoneP32 wGoneL33 wGoneC34)])] H K := by kernel_rfl
theorem den_law23_TraceFinds {rawNodes1 : Int} {rawMutators2 : Int} {rawSlots3 : Int} {rawCells4 : Int} {rawObjects5 : Int} {rawStubs6 : Int} {rawCalls7 : Int} {rawWindow8 : Int} {rawGrey9 : Int} {rawBag10 : Int} {rawInbox11 : Int} {rawUnit12 : Int} {rawDrift13 : Int} {rawLease14 : Int} {rawWait15 : Int} {rawMost16 : Int} {rawPatience17 : Int} {rawSuspect18 : Int} {rawTrace19 : Int} {rawWork20 : Int} {rawStart21 : Int} {rawLast22 : Int} {wInsP23 : Option Addr} {wInsL24 : Nat} {wInsC25 : Nat} {wOutsP26 : Option Addr} {wOutsL27 : Nat} {wOutsC28 : Nat} {wLiveP29 : Option Addr} {wLiveL30 : Nat} {wLiveC31 : Nat} {wGoneP32 : Option Addr} {wGoneL33 : Nat} {wGoneC34 : Nat} {H : Hp} {K : Value → Hp → Prop} (h : B_law23_TraceFinds rawNodes1 rawMutators2 rawSlots3 rawCells4 rawObjects5 rawStubs6 rawCalls7 rawWindow8 rawGrey9 rawBag10 rawInbox11 rawUnit12 rawDrift13 rawLease14 rawWait15 rawMost16 rawPatience17 rawSuspect18 rawTrace19 rawWork20 rawStart21 rawLast22 wInsP23 wInsL24 wInsC25 wOutsP26 wOutsL27 wOutsC28 wLiveP29 wLiveL30 wLiveC31 wGoneP32 wGoneL33 wGoneC34 H K) : hcall PR f_law23_TraceFinds ⟨[(.agg #[(.int .i64 rawNodes1), (.int .i64 rawMutators2), (.int .i64 rawSlots3), (.int .i64 rawCells4), (.int .i64 rawObjects5), (.int .i64 rawStubs6), (.int .i64 rawCalls7), (.int .i64 rawWindow8), (.int .i64 rawGrey9), (.int .i64 rawBag10), (.int .i64 rawInbox11), (.int .i64 rawUnit12), (.int .i64 rawDrift13), (.int .i64 rawLease14), (.int .i64 rawWait15), (.int .i64 rawMost16), (.int .i64 rawPatience17), (.int .i64 rawSuspect18), (.int .i64 rawTrace19), (.int .i64 rawWork20), (.int .u64 rawStart21), (.int .u64 rawLast22)]), (.agg #[(.slice wInsP23 wInsL24 wInsC25), (.slice wOutsP26 wOutsL27 wOutsC28), (.slice wLiveP29 wLiveL30 wLiveC31), (.slice wGoneP32 wGoneL33 wGoneC34)])]⟩ H K := denF_call Try.func8 PR_mixed (Eq.mp (E_law23_TraceFinds rawNodes1 rawMutators2 rawSlots3 rawCells4 rawObjects5 rawStubs6 rawCalls7 rawWindow8 rawGrey9 rawBag10 rawInbox11 rawUnit12 rawDrift13 rawLease14 rawWait15 rawMost16 rawPatience17 rawSuspect18 rawTrace19 rawWork20 rawStart21 rawLast22 wInsP23 wInsL24 wInsC25 wOutsP26 wOutsL27 wOutsC28 wLiveP29 wLiveL30 wLiveC31 wGoneP32 wGoneL33 wGoneC34 H K) h)

end Go.Proofs.Ytknejebggegfjaa

namespace Go.Proofs.Ytknejebggegfjaa
set_option linter.unusedSimpArgs false
set_option linter.unusedVariables false
set_option maxRecDepth 20000
open Go
def idC (x : Id) : List Value := [.int .i64 x.n, .int .u64 x.s]
theorem idC_len (x : Id) : (idC x).length = 2 := rfl
theorem add_take {y : It} : ∀ {r l : List It}, addAll l (r ++ [y]) = if (addAll l r).any (fun z => z.same y) then addAll l r else addAll l r ++ [y]
  | [], l => by
    show addAll _ [] = _
    rfl
  | z :: r, l => by
    rw [List.cons_append]
    unfold addAll
    exact add_take
theorem one_of {l : List Id} {a : Id} (hn : l.Nodup) (h : a ∈ l) : (l.filter fun y => decide (y = a)).length = 1 := by
  induction l with
  | nil => cases h
  | cons b l ih =>
    rw [List.nodup_cons] at hn
    by_cases e : b = a
    · rw [List.filter_cons_of_pos (by simpa using e), List.length_cons]
      have : l.filter (fun y => decide (y = a)) = [] := List.filter_eq_nil_iff.2 fun y hy h' => hn.1 (by rw [e, ← of_decide_eq_true h']; exact hy)
      rw [this]
      rfl
    · rw [List.filter_cons_of_neg (by simpa using e)]
      exact ih hn.2 ((List.mem_cons.1 h).resolve_left fun h => e h.symm)
theorem wanted_take {w : Web} {l : List It} {j : Nat} (hj : j < l.length) : wanted w (l.take (j + 1)) = wanted w (l.take j) ++ (if (l.getD j noIt).inn && !isGone w (l.getD j noIt) then [(l.getD j noIt).id] else []) := by
  unfold wanted
  have : l.take (j + 1) = l.take j ++ [l.getD j noIt] := by
    rw [List.getD_eq_getElem?_getD, List.getElem?_eq_getElem hj, List.take_succ_eq_append_getElem hj]; rfl
  rw [this, List.filter_append, List.map_append]
  congr 1
  by_cases h : ((l.getD j noIt).inn && !isGone w (l.getD j noIt)) = true
  · rw [if_pos h, List.filter_cons_of_pos (p := fun x => x.inn && !isGone w x) h]; rfl
  · rw [if_neg h, List.filter_cons_of_neg (p := fun x => x.inn && !isGone w x) h]; rfl
theorem tells_few {nodes : Int} {w : Web} {x : It} : (tells nodes w x).length ≤ 4 := by
  unfold tells
  split
  · rw [List.length_map]
    unfold holdW
    split
    · exact Nat.zero_le _
    · refine Nat.le_trans (List.length_filter_le _ _) ?_
      unfold upto4
      exact List.length_filter_le _ [1, 2, 3, 4]
  · rw [List.length_map]
    unfold insW
    split
    · exact Nat.zero_le _
    · exact List.length_filter_le _ [1, 2, 3, 4]

section
variable {H0 H : Hp} {L M N : List Prt} {i k tb : Nat} {nodes : Int} {c : Cf} {t : Tr} {w : Web} {K : Value → Hp → Prop} {ip op lp gp : Option Addr} {il ic ol oc ll lc gl gc : Nat}
theorem pushIt {p : Option Addr} {n cap : Nat} {l : List It} {y : It} {Q : Value → Hp → Prop} (h : St H0 L H) (hi : L[i]? = some (Prt.row 5 p n cap (cel It.cells l))) (hn : n = l.length) (hl : n ≤ 100000)
    (hQ : ∀ p' cap' H', St H0 (L.set i (Prt.row 5 p' (l ++ [y]).length cap' (cel It.cells (l ++ [y])))) H' → Q (.slice p' (l ++ [y]).length cap') H') :
    newB (.cells #[.bool y.inn, .int .i64 y.node, .int .i64 y.id.n, .int .u64 y.id.s, .int .i64 y.code] ty_trace_Item) H fun b H1 => evW PR (Builtin.append_ #[ty_Strace_Item, ty_Strace_Item] ty_Strace_Item #[.slice p n cap, .slice (some ⟨b, 0, none⟩) 1 1]) H1 Q := by
  intro b hb
  have g := h.alloc (o := .cells #[.bool y.inn, .int .i64 y.node, .int .i64 y.id.n, .int .u64 y.id.s, .int .i64 y.code] ty_trace_Item) hb
  refine g.app (i := i + 1) (by rw [List.getElem?_cons_succ]; exact hi) tu_ty_Strace_Item tu_ty_Strace_Item ti_ty_trace_Item rfl (by decide) (g.one_rd (i := 0) (n := 1) rfl rfl) (fun z hz => by simp at hz; rcases hz with rfl | rfl | rfl | rfl | rfl <;> rfl) (by omega) fun p' cap' H' g' => ?_
  have e2 : n + 1 = (l ++ [y]).length := by rw [hn]; simp
  have e1 : cel It.cells l ++ (#[.bool y.inn, .int .i64 y.node, .int .i64 y.id.n, .int .u64 y.id.s, .int .i64 y.code] : Array Value).toList = cel It.cells (l ++ [y]) := by rw [cel_append]; rfl
  rw [e2] at g' ⊢
  rw [e1] at g'
  exact hQ p' cap' H' g'.less
theorem backC (hw : WebA H0 ip il op ol lp ll gp gl w) (hg : c.good) (h : St H0 L H)
    (hK : ∀ p cap H' (m : Nat), (bk c.a0 w m).1.length = m → St H0 (Prt.row 5 p (bk c.a0 w m).1.length cap (cel It.cells (bk c.a0 w m).1) :: L) H' → K (.tuple #[.slice p (bk c.a0 w m).1.length cap, .bool (bk c.a0 w m).2]) H') :
    hcall PR f_law23_Web_back ⟨[.agg #[.slice ip il ic, .slice op ol oc, .slice lp ll lc, .slice gp gl gc], c.val]⟩ H K := by
  apply den_law23_Web_back
  unfold B_law23_Web_back
  have ha0 := hg.a0
  intro bw hbw
  have g1 := h.alloc (o := .cells #[.slice ip il ic, .slice op ol oc, .slice lp ll lc, .slice gp gl gc] ty_law23_Web) hbw
  intro bc hbc
  have g2 := g1.alloc (o := .cells #[.int .i64 c.a0, .int .i64 c.a1, .int .i64 c.a2, .int .i64 c.a3, .int .i64 c.a4, .int .i64 c.a5, .int .i64 c.a6, .int .i64 c.a7, .int .i64 c.a8, .int .i64 c.a9, .int .i64 c.a10, .int .u64 c.a11, .int .u64 c.a12, .int .u64 c.a13, .int .u64 c.a14, .int .u64 c.a15, .int .u64 c.a16, .int .i64 c.a17, .int .i64 c.a18, .int .i64 c.a19, .int .u64 c.a20, .int .u64 c.a21] ty_api_Config) hbc
  refine stubC g2 fun H3 g3 => ?_
  (try simp only [asI_mk', asB_mk, asP_mk, asA_mk, asM_mk, asSl_mk, asStr_mk, tup2_mk, tup3_mk, agg1_mk, agg2_mk, agg3_mk, agg4_mk, asAggm, unCons_mk, unNil_mk, asTup_mk, extractD0, extractD1, List.toList_toArray, nilP_mk, add_mk, Nat.zero_add, Nat.add_zero, condT, condF, Bool.not_true, Bool.not_false, Option.isNone_some, Option.isNone_none])
  intro b45 hb45
  have g4 := g3.alloc (o := .cells #[.bool false, .int .i64 1, .int .i64 2, .int .u64 7, .int .i64 0] ty_trace_Item) hb45
  have g5 := g4.oneRow (i := 0) (q := 5) (n := 1) rfl rfl
  have fin : ∀ p cap m H', (bk c.a0 w m).1.length = m → St H0 (Prt.row 5 p (bk c.a0 w m).1.length cap (cel It.cells (bk c.a0 w m).1) :: Prt.one bc (.cells #[.int .i64 c.a0, .int .i64 c.a1, .int .i64 c.a2, .int .i64 c.a3, .int .i64 c.a4, .int .i64 c.a5, .int .i64 c.a6, .int .i64 c.a7, .int .i64 c.a8, .int .i64 c.a9, .int .i64 c.a10, .int .u64 c.a11, .int .u64 c.a12, .int .u64 c.a13, .int .u64 c.a14, .int .u64 c.a15, .int .u64 c.a16, .int .i64 c.a17, .int .i64 c.a18, .int .i64 c.a19, .int .u64 c.a20, .int .u64 c.a21] ty_api_Config (0, 0)) :: Prt.one bw (.cells #[.slice ip il ic, .slice op ol oc, .slice lp ll lc, .slice gp gl gc] ty_law23_Web (0, 0)) :: L) H' → K (.tuple #[.slice p (bk c.a0 w m).1.length cap, .bool (bk c.a0 w m).2]) H' := fun p cap m H' hm g => hK p cap H' m hm (St.keep1 (N := [_, _]) g)
  clear hK
  refine ⟨fun p n cap live i H' => ∃ j : Nat, i = j ∧ j ≤ (bk c.a0 w j).1.length ∧ n = (bk c.a0 w j).1.length ∧ live = (bk c.a0 w j).2 ∧ St H0 (Prt.row 5 p n cap (cel It.cells (bk c.a0 w j).1) :: Prt.one bc (.cells #[.int .i64 c.a0, .int .i64 c.a1, .int .i64 c.a2, .int .i64 c.a3, .int .i64 c.a4, .int .i64 c.a5, .int .i64 c.a6, .int .i64 c.a7, .int .i64 c.a8, .int .i64 c.a9, .int .i64 c.a10, .int .u64 c.a11, .int .u64 c.a12, .int .u64 c.a13, .int .u64 c.a14, .int .u64 c.a15, .int .u64 c.a16, .int .i64 c.a17, .int .i64 c.a18, .int .i64 c.a19, .int .u64 c.a20, .int .u64 c.a21] ty_api_Config (0, 0)) :: Prt.one bw (.cells #[.slice ip il ic, .slice op ol oc, .slice lp ll lc, .slice gp gl gc] ty_law23_Web (0, 0)) :: L) H', fun _ _ _ _ i _ => (1000 - i).toNat, ⟨0, rfl, Nat.zero_le _, rfl, rfl, g5⟩, ?_⟩
  clear g1 g2 g3 g4 g5 h
  rintro lP lL lC live i H6 ⟨j, rfl, hj, hlL, hlive, g6⟩
  obtain ⟨hbu, hba⟩ := bk_in (w := w) (nodes := c.a0) (by omega) j
  have hbl := few_items (by omega) (fun x hx => (hbu x hx).1) hba
  by_cases hc : (j : Int) < (lL : Int)
  rotate_left
  · refine bif_neg hc ?_
    rw [hlive]
    subst hlL
    exact fin lP lC j H6 (by omega) g6
  clear fin
  have hjl : j < (bk c.a0 w j).1.length := by omega
  obtain ⟨l, hl⟩ : ∃ l, l = (bk c.a0 w j).1 := ⟨_, rfl⟩
  obtain ⟨x, hx⟩ : ∃ x, x = l.getD j noIt := ⟨_, rfl⟩
  have hb' : bk c.a0 w (j + 1) = if isLive w x then (l, true) else if isGone w x then (l, live) else (addAll l (tells c.a0 w x), live) := by
    show (if j < (bk c.a0 w j).1.length then backAt c.a0 w (bk c.a0 w j) j else bk c.a0 w j) = _
    rw [if_pos hjl]
    unfold backAt
    rw [hlive, ← hl, ← hx]
    split
    · rfl
    · split
      · rw [hl]
      · rfl
  rw [← hl] at hlL g6 hbu hba hbl hjl
  have hxm : x ∈ l := by
    rw [hx, List.getD_eq_getElem?_getD, List.getElem?_eq_getElem hjl]
    exact List.getElem_mem _
  have hxu := (hbu x hxm).1
  have hxb : (0 ≤ x.node ∧ x.node ≤ 8) ∧ (0 ≤ x.id.n ∧ x.id.n ≤ 8) ∧ (0 ≤ x.id.s ∧ x.id.s ≤ 8) := by
    rcases hxu with ⟨a, b, c, d⟩ | ⟨a, b, c, d, e⟩
    · omega
    · exact ⟨by omega, by omega, by rcases e with e | e <;> omega⟩
  refine bif_pos hc ?_
  intro R55 hR55
  have hQ55 : ∀ p n cap l' live' H', bk c.a0 w (j + 1) = (l', live') → n = l'.length → St H0 (Prt.row 5 p n cap (cel It.cells l') :: Prt.one bc (.cells #[.int .i64 c.a0, .int .i64 c.a1, .int .i64 c.a2, .int .i64 c.a3, .int .i64 c.a4, .int .i64 c.a5, .int .i64 c.a6, .int .i64 c.a7, .int .i64 c.a8, .int .i64 c.a9, .int .i64 c.a10, .int .u64 c.a11, .int .u64 c.a12, .int .u64 c.a13, .int .u64 c.a14, .int .u64 c.a15, .int .u64 c.a16, .int .i64 c.a17, .int .i64 c.a18, .int .i64 c.a19, .int .u64 c.a20, .int .u64 c.a21] ty_api_Config (0, 0)) :: Prt.one bw (.cells #[.slice ip il ic, .slice op ol oc, .slice lp ll lc, .slice gp gl gc] ty_law23_Web (0, 0)) :: L) H' → R55 p n cap live' H' := fun p n cap l' live' H' e hn g => by
    refine hR55 p n cap live' H' ?_
    have h1 := bk_grow (nodes := c.a0) (w := w) j
    rw [← hl] at h1
    rw [wrap_i64 (by omega) (by omega)]
    refine ⟨⟨j + 1, by omega, by omega, by rw [e]; exact hn, by rw [e], by rw [e]; exact g⟩, by (try dsimp only); omega⟩
  clear hR55
  refine idxS It.len noIt (g6.row_rd (i := 0) rfl) (by omega) (by omega) hc fun b o _ _ hcc => ?_
  rw [Int.toNat_natCast, ← hx] at hcc
  rw [Int.toNat_natCast]
  (try simp only [asI_mk', asB_mk, asP_mk, asA_mk, asM_mk, asSl_mk, asStr_mk, tup2_mk, tup3_mk, agg1_mk, agg2_mk, agg3_mk, agg4_mk, asAggm, unCons_mk, unNil_mk, asTup_mk, extractD0, extractD1, List.toList_toArray, nilP_mk, add_mk, Nat.zero_add, Nat.add_zero, condT, condF, Bool.not_true, Bool.not_false, Option.isNone_some, Option.isNone_none])
  refine ldB_of (hcc 0 (by omega)) (ldI_of (hcc 1 (by omega)) (ldI_of (hcc 2 (by omega)) (ldI_of (hcc 3 (by omega)) (ldI_of (hcc 4 (by omega)) ?_))))
  refine boxs (c := [.bool false, .int .i64 0, .int .i64 0, .int .u64 0, .int .i64 0]) (vs := x.cells) g6 rfl fun bx H7 g7 => ?_
  have g7 : St H0 (Prt.one bx (.cells #[.bool x.inn, .int .i64 x.node, .int .i64 x.id.n, .int .u64 x.id.s, .int .i64 x.code] ty_trace_Item (0, 0)) :: Prt.row 5 lP lL lC (cel It.cells l) :: Prt.one bc (.cells #[.int .i64 c.a0, .int .i64 c.a1, .int .i64 c.a2, .int .i64 c.a3, .int .i64 c.a4, .int .i64 c.a5, .int .i64 c.a6, .int .i64 c.a7, .int .i64 c.a8, .int .i64 c.a9, .int .i64 c.a10, .int .u64 c.a11, .int .u64 c.a12, .int .u64 c.a13, .int .u64 c.a14, .int .u64 c.a15, .int .u64 c.a16, .int .i64 c.a17, .int .i64 c.a18, .int .i64 c.a19, .int .u64 c.a20, .int .u64 c.a21] ty_api_Config (0, 0)) :: Prt.one bw (.cells #[.slice ip il ic, .slice op ol oc, .slice lp ll lc, .slice gp gl gc] ty_law23_Web (0, 0)) :: L) H7 := g7
  clear g6 hcc
  refine ldSl_of (g7.cell (i := 3) rfl rfl) (ldB_of (g7.cell (i := 0) rfl rfl) (ldI_of (g7.cell (i := 0) rfl rfl) (ldI_of (g7.cell (i := 0) rfl rfl) (ldI_of (g7.cell (i := 0) rfl rfl) (numberC hxb.1 hxb.2.1 hxb.2.2 g7 fun H8 g8 => ?_)))))
  (try simp only [asI_mk', asB_mk, asP_mk, asA_mk, asM_mk, asSl_mk, asStr_mk, tup2_mk, tup3_mk, agg1_mk, agg2_mk, agg3_mk, agg4_mk, asAggm, unCons_mk, unNil_mk, asTup_mk, extractD0, extractD1, List.toList_toArray, nilP_mk, add_mk, Nat.zero_add, Nat.add_zero, condT, condF, Bool.not_true, Bool.not_false, Option.isNone_some, Option.isNone_none])
  refine ⟨ldSl_of (g8.cell (i := 3) rfl rfl) rfl, amongC (g8.rd hw.live.1) hw.live.2 ?_⟩
  (try simp only [asI_mk', asB_mk, asP_mk, asA_mk, asM_mk, asSl_mk, asStr_mk, tup2_mk, tup3_mk, agg1_mk, agg2_mk, agg3_mk, agg4_mk, asAggm, unCons_mk, unNil_mk, asTup_mk, extractD0, extractD1, List.toList_toArray, nilP_mk, add_mk, Nat.zero_add, Nat.add_zero, condT, condF, Bool.not_true, Bool.not_false, Option.isNone_some, Option.isNone_none])
  have el : amongW w.live (numW x.inn x.node x.id) = isLive w x := rfl
  have eg : amongW w.gone (numW x.inn x.node x.id) = isGone w x := rfl
  rw [el]
  cases hlv : isLive w x
  rotate_left
  · rw [hlv, if_pos rfl] at hb'
    simp only [condT]
    exact hQ55 lP lL lC l true H8 hb' hlL g8.less
  rw [hlv, if_neg (by decide)] at hb'
  simp only [condF]
  refine ldSl_of (g8.cell (i := 3) rfl rfl) (ldB_of (g8.cell (i := 0) rfl rfl) (ldI_of (g8.cell (i := 0) rfl rfl) (ldI_of (g8.cell (i := 0) rfl rfl) (ldI_of (g8.cell (i := 0) rfl rfl) (numberC hxb.1 hxb.2.1 hxb.2.2 g8 fun H9 g9 => ?_)))))
  (try simp only [asI_mk', asB_mk, asP_mk, asA_mk, asM_mk, asSl_mk, asStr_mk, tup2_mk, tup3_mk, agg1_mk, agg2_mk, agg3_mk, agg4_mk, asAggm, unCons_mk, unNil_mk, asTup_mk, extractD0, extractD1, List.toList_toArray, nilP_mk, add_mk, Nat.zero_add, Nat.add_zero, condT, condF, Bool.not_true, Bool.not_false, Option.isNone_some, Option.isNone_none])
  refine ⟨ldSl_of (g9.cell (i := 3) rfl rfl) rfl, amongC (g9.rd hw.gone.1) hw.gone.2 ?_⟩
  (try simp only [asI_mk', asB_mk, asP_mk, asA_mk, asM_mk, asSl_mk, asStr_mk, tup2_mk, tup3_mk, agg1_mk, agg2_mk, agg3_mk, agg4_mk, asAggm, unCons_mk, unNil_mk, asTup_mk, extractD0, extractD1, List.toList_toArray, nilP_mk, add_mk, Nat.zero_add, Nat.add_zero, condT, condF, Bool.not_true, Bool.not_false, Option.isNone_some, Option.isNone_none])
  rw [eg]
  cases hgn : isGone w x
  rotate_left
  · rw [hgn, if_pos rfl] at hb'
    simp only [condT]
    exact hQ55 lP lL lC l live H9 hb' hlL g9.less
  rw [hgn, if_neg (by decide)] at hb'
  simp only [condF]
  clear g7 g8
  have htc : ∀ y ∈ tells c.a0 w x, inU c.a0 y ∧ y.code = 0 := fun y hy => tells_in hxu hy
  intro R106 hR106
  have hQ106 : ∀ mp mn mc (A : Prt) H', mn = (tells c.a0 w x).length → St H0 (Prt.row 5 mp mn mc (cel It.cells (tells c.a0 w x)) :: A :: Prt.one bx (.cells #[.bool x.inn, .int .i64 x.node, .int .i64 x.id.n, .int .u64 x.id.s, .int .i64 x.code] ty_trace_Item (0, 0)) :: Prt.row 5 lP lL lC (cel It.cells l) :: Prt.one bc (.cells #[.int .i64 c.a0, .int .i64 c.a1, .int .i64 c.a2, .int .i64 c.a3, .int .i64 c.a4, .int .i64 c.a5, .int .i64 c.a6, .int .i64 c.a7, .int .i64 c.a8, .int .i64 c.a9, .int .i64 c.a10, .int .u64 c.a11, .int .u64 c.a12, .int .u64 c.a13, .int .u64 c.a14, .int .u64 c.a15, .int .u64 c.a16, .int .i64 c.a17, .int .i64 c.a18, .int .i64 c.a19, .int .u64 c.a20, .int .u64 c.a21] ty_api_Config (0, 0)) :: Prt.one bw (.cells #[.slice ip il ic, .slice op ol oc, .slice lp ll lc, .slice gp gl gc] ty_law23_Web (0, 0)) :: L) H' → R106 mp mn mc H' := fun mp mn mc A H10 hmn g10 => by
    refine hR106 mp mn mc H10 ?_
    clear hR106 g9
    have htf := tells_few (nodes := c.a0) (w := w) (x := x)
    refine ⟨fun p n cap k H' => ∃ kk : Nat, k = kk ∧ kk ≤ mn ∧ n = (addAll l ((tells c.a0 w x).take kk)).length ∧ St H0 (Prt.row 5 mp mn mc (cel It.cells (tells c.a0 w x)) :: A :: Prt.one bx (.cells #[.bool x.inn, .int .i64 x.node, .int .i64 x.id.n, .int .u64 x.id.s, .int .i64 x.code] ty_trace_Item (0, 0)) :: Prt.row 5 p n cap (cel It.cells (addAll l ((tells c.a0 w x).take kk))) :: Prt.one bc (.cells #[.int .i64 c.a0, .int .i64 c.a1, .int .i64 c.a2, .int .i64 c.a3, .int .i64 c.a4, .int .i64 c.a5, .int .i64 c.a6, .int .i64 c.a7, .int .i64 c.a8, .int .i64 c.a9, .int .i64 c.a10, .int .u64 c.a11, .int .u64 c.a12, .int .u64 c.a13, .int .u64 c.a14, .int .u64 c.a15, .int .u64 c.a16, .int .i64 c.a17, .int .i64 c.a18, .int .i64 c.a19, .int .u64 c.a20, .int .u64 c.a21] ty_api_Config (0, 0)) :: Prt.one bw (.cells #[.slice ip il ic, .slice op ol oc, .slice lp ll lc, .slice gp gl gc] ty_law23_Web (0, 0)) :: L) H', fun _ _ _ k _ => ((mn : Int) - k).toNat, ⟨0, rfl, by omega, hlL, g10⟩, ?_⟩
    clear g10
    rintro p n cap k H11 ⟨kk, rfl, hkk, hn, g11⟩
    have hadd := add_in (r := (tells c.a0 w x).take kk) (l := l) (fun x hx => (hbu x hx).1) hba fun y hy => (htc y (List.mem_of_mem_take hy)).1
    have hfew := few_items (by omega) hadd.1 hadd.2
    by_cases hk : (kk : Int) < (mn : Int)
    rotate_left
    · refine bif_neg hk ?_
      rw [List.take_of_length_le (by omega)] at g11 hn
      have g12 := St.lesses (M := [_, _, _]) g11
      exact hQ55 p n cap _ live H11 hb' hn g12
    have hkl : kk < (tells c.a0 w x).length := by omega
    obtain ⟨y, hy⟩ : ∃ y, y = (tells c.a0 w x).getD kk noIt := ⟨_, rfl⟩
    have htk : (tells c.a0 w x).take (kk + 1) = (tells c.a0 w x).take kk ++ [y] := by
      rw [hy, List.getD_eq_getElem?_getD, List.getElem?_eq_getElem hkl, List.take_succ_eq_append_getElem hkl]; rfl
    obtain ⟨l', hl'⟩ : ∃ l', l' = addAll l ((tells c.a0 w x).take kk) := ⟨_, rfl⟩
    have hadk : addAll l ((tells c.a0 w x).take (kk + 1)) = if l'.any (fun z => z.same y) then l' else l' ++ [y] := by rw [htk, add_take, ← hl']
    rw [← hl'] at g11 hn hfew
    refine bif_pos hk ?_
    intro R118 hR118
    have hQ118 : ∀ p' n' cap' H', n' = (addAll l ((tells c.a0 w x).take (kk + 1))).length → St H0 (Prt.row 5 mp mn mc (cel It.cells (tells c.a0 w x)) :: A :: Prt.one bx (.cells #[.bool x.inn, .int .i64 x.node, .int .i64 x.id.n, .int .u64 x.id.s, .int .i64 x.code] ty_trace_Item (0, 0)) :: Prt.row 5 p' n' cap' (cel It.cells (addAll l ((tells c.a0 w x).take (kk + 1)))) :: Prt.one bc (.cells #[.int .i64 c.a0, .int .i64 c.a1, .int .i64 c.a2, .int .i64 c.a3, .int .i64 c.a4, .int .i64 c.a5, .int .i64 c.a6, .int .i64 c.a7, .int .i64 c.a8, .int .i64 c.a9, .int .i64 c.a10, .int .u64 c.a11, .int .u64 c.a12, .int .u64 c.a13, .int .u64 c.a14, .int .u64 c.a15, .int .u64 c.a16, .int .i64 c.a17, .int .i64 c.a18, .int .i64 c.a19, .int .u64 c.a20, .int .u64 c.a21] ty_api_Config (0, 0)) :: Prt.one bw (.cells #[.slice ip il ic, .slice op ol oc, .slice lp ll lc, .slice gp gl gc] ty_law23_Web (0, 0)) :: L) H' → R118 p' n' cap' H' := fun p' n' cap' H' hn' g => by
      refine hR118 p' n' cap' H' ?_
      rw [wrap_i64 (by omega) (by omega)]
      exact ⟨⟨kk + 1, by omega, by omega, hn', g⟩, by (try dsimp only); omega⟩
    clear hR118
    have rl : ∀ (q : Nat), q < l'.length → ∀ {Q : Addr → Prop}, (∀ b o, (∀ j, j < 5 → hcell H11 ⟨b, o + j, none⟩ = (It.cells (l'.getD q noIt))[j]?) → Q ⟨b, o, none⟩) → idxA p n q 5 Q := fun q hq Q hQ => idxS It.len noIt (g11.row_rd (i := 3) rfl) (by omega) (by omega) (by omega) fun b o _ _ hc => hQ b _ (by rw [Int.toNat_natCast] at hc ⊢; exact hc)
    have rm : ∀ {Q : Addr → Prop}, (∀ b o, (∀ j, j < 5 → hcell H11 ⟨b, o + j, none⟩ = (It.cells y)[j]?) → Q ⟨b, o, none⟩) → idxA mp mn kk 5 Q := fun hQ => idxS It.len noIt (g11.row_rd (i := 0) rfl) (by omega) (by omega) hk fun b o _ _ hc => hQ b _ (by rw [Int.toNat_natCast, ← hy] at hc; rw [Int.toNat_natCast]; exact hc)
    refine ⟨fun has q H' => H' = H11 ∧ ∃ qq : Nat, q = qq ∧ qq ≤ l'.length ∧ has = (l'.take qq).any (fun z => z.same y), fun _ q _ => ((l'.length : Int) - q).toNat, ⟨rfl, 0, rfl, by omega, by simp⟩, ?_⟩
    rintro has q H' ⟨rfl, qq, rfl, hqq, hhas⟩
    by_cases hql : (qq : Int) < (n : Int)
    · refine bif_pos hql ?_
      have hqn : qq < l'.length := by omega
      have hnx : (l'.take (qq + 1)).any (fun z => z.same y) = (has || (l'.getD qq noIt).same y) := by
        rw [List.take_succ_eq_append_getElem hqn, List.any_append, ← hhas, List.getD_eq_getElem?_getD, List.getElem?_eq_getElem hqn]
        simp
      intro R128 hR128
      have hQ128 : ∀ b, b = (has || (l'.getD qq noIt).same y) → R128 b H' := fun b hb => by
        refine hR128 b H' ?_
        rw [wrap_i64 (by omega) (by omega)]
        exact ⟨⟨by trivial, qq + 1, by omega, by omega, by rw [hnx, hb]⟩, by (try dsimp only); omega⟩
      clear hR128
      cases has
      rotate_left
      · simp only [condT]
        exact hQ128 true rfl
      simp only [condF]
      simp only [Bool.false_or] at hQ128
      refine rl qq hqn fun b o h1 => ldB_of (h1 0 (by omega)) (rm fun b' o' h2 => ldB_of (h2 0 (by omega)) ?_)
      unfold It.same at hQ128
      by_cases e1 : (l'.getD qq noIt).inn = y.inn
      rotate_left
      · have e1' : ((l'.getD qq noIt).inn == y.inn) = false := by simpa using e1
        rw [e1'] at hQ128 ⊢
        exact hQ128 false rfl
      have e1' : ((l'.getD qq noIt).inn == y.inn) = true := by simpa using e1
      rw [e1'] at hQ128 ⊢
      simp only [condT, Bool.true_and] at hQ128 ⊢
      refine rl qq hqn fun b o h1 => ldI_of (h1 1 (by omega)) (rm fun b' o' h2 => ldI_of (h2 1 (by omega)) ?_)
      by_cases e2 : (l'.getD qq noIt).node = y.node
      rotate_left
      · rw [decide_eq_false e2] at hQ128
        exact bif_ne e2 (hQ128 false rfl)
      rw [decide_eq_true e2] at hQ128
      refine bif_eq e2 (rl qq hqn fun b o h1 => ldI_of (h1 2 (by omega)) (ldI_of (h1 3 (by omega)) (rm fun b' o' h2 => ldI_of (h2 2 (by omega)) (ldI_of (h2 3 (by omega)) (idEq ?_)))))
      (try simp only [asI_mk', asB_mk, asP_mk, asA_mk, asM_mk, asSl_mk, asStr_mk, tup2_mk, tup3_mk, agg1_mk, agg2_mk, agg3_mk, agg4_mk, asAggm, unCons_mk, unNil_mk, asTup_mk, extractD0, extractD1, List.toList_toArray, nilP_mk, add_mk, Nat.zero_add, Nat.add_zero, condT, condF, Bool.not_true, Bool.not_false, Option.isNone_some, Option.isNone_none])
      refine hQ128 _ ?_
      rw [Bool.true_and]
    · refine bif_neg hql ?_
      rw [List.take_of_length_le (by omega)] at hhas
      cases has
      rotate_left
      · simp only [Bool.not_true, condF]
        rw [if_pos hhas.symm] at hadk
        exact hQ118 p n cap H' (by rw [hadk]; exact hn) (by rw [hadk]; exact g11)
      simp only [Bool.not_false, condT]
      rw [if_neg (by rw [← hhas]; decide)] at hadk
      refine rm fun b o h2 => ldB_of (h2 0 (by omega)) (ldI_of (h2 1 (by omega)) (ldI_of (h2 2 (by omega)) (ldI_of (h2 3 (by omega)) (ldI_of (h2 4 (by omega)) ?_))))
      refine pushIt (i := 3) (y := y) g11 rfl hn (by omega) fun p' cap' H12 g12 => ?_
      (try simp only [asI_mk', asB_mk, asP_mk, asA_mk, asM_mk, asSl_mk, asStr_mk, tup2_mk, tup3_mk, agg1_mk, agg2_mk, agg3_mk, agg4_mk, asAggm, unCons_mk, unNil_mk, asTup_mk, extractD0, extractD1, List.toList_toArray, nilP_mk, add_mk, Nat.zero_add, Nat.add_zero, condT, condF, Bool.not_true, Bool.not_false, Option.isNone_some, Option.isNone_none])
      exact hQ118 p' _ cap' H12 (by rw [hadk]) (by rw [hadk]; exact g12)
  clear hR106
  refine ldB_of (g9.cell (i := 0) rfl rfl) ?_
  by_cases hin : x.inn = true
  · rw [hin]
    simp only [condT]
    have htl : tells c.a0 w x = (holdW w c.a0 x.id).map fun n => ⟨false, n, x.id, 0⟩ := by unfold tells; rw [if_pos hin]
    refine ldSl_of (g9.cell (i := 3) rfl rfl) (ldSl_of (g9.cell (i := 3) rfl rfl) (ldSl_of (g9.cell (i := 3) rfl rfl) (ldSl_of (g9.cell (i := 3) rfl rfl) ?_)))
    refine ldI_of (g9.cell (i := 2) rfl rfl) (ldI_of (g9.cell (i := 2) rfl rfl) (ldI_of (g9.cell (i := 2) rfl rfl) (ldI_of (g9.cell (i := 2) rfl rfl) (ldI_of (g9.cell (i := 2) rfl rfl) (ldI_of (g9.cell (i := 2) rfl rfl) (ldI_of (g9.cell (i := 2) rfl rfl) (ldI_of (g9.cell (i := 2) rfl rfl) (ldI_of (g9.cell (i := 2) rfl rfl) (ldI_of (g9.cell (i := 2) rfl rfl) (ldI_of (g9.cell (i := 2) rfl rfl) (ldI_of (g9.cell (i := 2) rfl rfl) (ldI_of (g9.cell (i := 2) rfl rfl) (ldI_of (g9.cell (i := 2) rfl rfl) (ldI_of (g9.cell (i := 2) rfl rfl) (ldI_of (g9.cell (i := 2) rfl rfl) (ldI_of (g9.cell (i := 2) rfl rfl) (ldI_of (g9.cell (i := 2) rfl rfl) (ldI_of (g9.cell (i := 2) rfl rfl) (ldI_of (g9.cell (i := 2) rfl rfl) (ldI_of (g9.cell (i := 2) rfl rfl) (ldI_of (g9.cell (i := 2) rfl rfl) (?_))))))))))))))))))))))
    refine ldI_of (g9.cell (i := 0) rfl rfl) (ldI_of (g9.cell (i := 0) rfl rfl) (holdC hw hg hxb.2.1 hxb.2.2 g9 fun tP tL tC H10 g10 => ?_))
    (try simp only [asI_mk', asB_mk, asP_mk, asA_mk, asM_mk, asSl_mk, asStr_mk, tup2_mk, tup3_mk, agg1_mk, agg2_mk, agg3_mk, agg4_mk, asAggm, unCons_mk, unNil_mk, asTup_mk, extractD0, extractD1, List.toList_toArray, nilP_mk, add_mk, Nat.zero_add, Nat.add_zero, condT, condF, Bool.not_true, Bool.not_false, Option.isNone_some, Option.isNone_none])
    have htL : tL = (holdW w c.a0 x.id).length := by have := (g10.row_rd (i := 0) rfl).1; simpa using this.symm
    refine ⟨fun mp mn mc k H' => ∃ kk : Nat, k = kk ∧ kk ≤ tL ∧ mn = (((holdW w c.a0 x.id).take kk).map fun n => (⟨false, n, x.id, 0⟩ : It)).length ∧ St H0 (Prt.row 5 mp mn mc (cel It.cells (((holdW w c.a0 x.id).take kk).map fun n => (⟨false, n, x.id, 0⟩ : It))) :: Prt.row 1 tP tL tC ((holdW w c.a0 x.id).map (Value.int .u64)) :: Prt.one bx (.cells #[.bool x.inn, .int .i64 x.node, .int .i64 x.id.n, .int .u64 x.id.s, .int .i64 x.code] ty_trace_Item (0, 0)) :: Prt.row 5 lP lL lC (cel It.cells l) :: Prt.one bc (.cells #[.int .i64 c.a0, .int .i64 c.a1, .int .i64 c.a2, .int .i64 c.a3, .int .i64 c.a4, .int .i64 c.a5, .int .i64 c.a6, .int .i64 c.a7, .int .i64 c.a8, .int .i64 c.a9, .int .i64 c.a10, .int .u64 c.a11, .int .u64 c.a12, .int .u64 c.a13, .int .u64 c.a14, .int .u64 c.a15, .int .u64 c.a16, .int .i64 c.a17, .int .i64 c.a18, .int .i64 c.a19, .int .u64 c.a20, .int .u64 c.a21] ty_api_Config (0, 0)) :: Prt.one bw (.cells #[.slice ip il ic, .slice op ol oc, .slice lp ll lc, .slice gp gl gc] ty_law23_Web (0, 0)) :: L) H', fun _ _ _ k _ => ((tL : Int) - k).toNat, ⟨0, rfl, by omega, rfl, g10.row (H' := _) (Own.nil 5) ((Goes.refl Nothing _).less fun c hc => absurd hc blk_none)⟩, ?_⟩
    clear g10
    rintro mp mn mc k H11 ⟨kk, rfl, hkk, hmn, g11⟩
    have hhl : (holdW w c.a0 x.id).length ≤ 4 := by
      have : ∀ (l : List Int), l.length ≤ 4 → True := fun _ _ => trivial
      unfold holdW
      split
      · exact Nat.zero_le _
      · refine Nat.le_trans (List.length_filter_le _ _) ?_
        unfold upto4
        exact List.length_filter_le _ [1, 2, 3, 4]
    by_cases hk : (kk : Int) < (tL : Int)
    rotate_left
    · refine bif_neg hk ?_
      rw [List.take_of_length_le (by omega), ← htl] at g11 hmn
      exact hQ106 mp mn mc _ H11 hmn g11
    have hkl : kk < (holdW w c.a0 x.id).length := by omega
    obtain ⟨v, hv⟩ : ∃ v, v = (holdW w c.a0 x.id).getD kk 0 := ⟨_, rfl⟩
    have hvm : v ∈ holdW w c.a0 x.id := by
      rw [hv, List.getD_eq_getElem?_getD, List.getElem?_eq_getElem hkl]
      exact List.getElem_mem _
    have hvb := (hold_in hvm).1
    have htk : ((holdW w c.a0 x.id).take (kk + 1)).map (fun n => (⟨false, n, x.id, 0⟩ : It)) = ((holdW w c.a0 x.id).take kk).map (fun n => (⟨false, n, x.id, 0⟩ : It)) ++ [⟨false, v, x.id, 0⟩] := by
      rw [hv, List.getD_eq_getElem?_getD, List.getElem?_eq_getElem hkl, List.take_succ_eq_append_getElem hkl, List.map_append]; rfl
    refine bif_pos hk (idx1 (d := (0 : Int)) (g11.row_rd (i := 1) rfl) (by omega) hk fun b o _ h1 => ldI_of h1 ?_)
    rw [Int.toNat_natCast, ← hv, wrap_i64 (n := v) (by omega) (by omega)]
    refine ldI_of (g11.cell (i := 2) rfl rfl) (ldI_of (g11.cell (i := 2) rfl rfl) ?_)
    refine pushIt (i := 0) (y := ⟨false, v, x.id, 0⟩) g11 rfl hmn (by rw [hmn, List.length_map, List.length_take]; omega) fun p' cap' H12 g12 => ?_
    (try simp only [asI_mk', asB_mk, asP_mk, asA_mk, asM_mk, asSl_mk, asStr_mk, tup2_mk, tup3_mk, agg1_mk, agg2_mk, agg3_mk, agg4_mk, asAggm, unCons_mk, unNil_mk, asTup_mk, extractD0, extractD1, List.toList_toArray, nilP_mk, add_mk, Nat.zero_add, Nat.add_zero, condT, condF, Bool.not_true, Bool.not_false, Option.isNone_some, Option.isNone_none])
    rw [wrap_i64 (by omega) (by omega)]
    refine ⟨⟨kk + 1, by omega, by omega, by rw [htk], by rw [htk]; exact g12⟩, by (try dsimp only); omega⟩
  · have hin' : x.inn = false := by simpa using hin
    rw [hin']
    simp only [condF]
    have htl : tells c.a0 w x = (insW w x.node x.id).map fun s => ⟨true, x.node, ⟨x.node, s⟩, 0⟩ := by unfold tells; rw [if_neg hin]
    refine ldSl_of (g9.cell (i := 3) rfl rfl) (ldSl_of (g9.cell (i := 3) rfl rfl) (ldSl_of (g9.cell (i := 3) rfl rfl) (ldSl_of (g9.cell (i := 3) rfl rfl) ?_)))
    refine ldI_of (g9.cell (i := 0) rfl rfl) (ldI_of (g9.cell (i := 0) rfl rfl) (ldI_of (g9.cell (i := 0) rfl rfl) (wInsC hw hxb.1 hxb.2.2 g9 fun tP tL tC H10 g10 => ?_)))
    (try simp only [asI_mk', asB_mk, asP_mk, asA_mk, asM_mk, asSl_mk, asStr_mk, tup2_mk, tup3_mk, agg1_mk, agg2_mk, agg3_mk, agg4_mk, asAggm, unCons_mk, unNil_mk, asTup_mk, extractD0, extractD1, List.toList_toArray, nilP_mk, add_mk, Nat.zero_add, Nat.add_zero, condT, condF, Bool.not_true, Bool.not_false, Option.isNone_some, Option.isNone_none])
    have htL : tL = (insW w x.node x.id).length := by have := (g10.row_rd (i := 0) rfl).1; simpa using this.symm
    refine ⟨fun mp mn mc k H' => ∃ kk : Nat, k = kk ∧ kk ≤ tL ∧ mn = (((insW w x.node x.id).take kk).map fun s => (⟨true, x.node, ⟨x.node, s⟩, 0⟩ : It)).length ∧ St H0 (Prt.row 5 mp mn mc (cel It.cells (((insW w x.node x.id).take kk).map fun s => (⟨true, x.node, ⟨x.node, s⟩, 0⟩ : It))) :: Prt.row 1 tP tL tC ((insW w x.node x.id).map (Value.int .u64)) :: Prt.one bx (.cells #[.bool x.inn, .int .i64 x.node, .int .i64 x.id.n, .int .u64 x.id.s, .int .i64 x.code] ty_trace_Item (0, 0)) :: Prt.row 5 lP lL lC (cel It.cells l) :: Prt.one bc (.cells #[.int .i64 c.a0, .int .i64 c.a1, .int .i64 c.a2, .int .i64 c.a3, .int .i64 c.a4, .int .i64 c.a5, .int .i64 c.a6, .int .i64 c.a7, .int .i64 c.a8, .int .i64 c.a9, .int .i64 c.a10, .int .u64 c.a11, .int .u64 c.a12, .int .u64 c.a13, .int .u64 c.a14, .int .u64 c.a15, .int .u64 c.a16, .int .i64 c.a17, .int .i64 c.a18, .int .i64 c.a19, .int .u64 c.a20, .int .u64 c.a21] ty_api_Config (0, 0)) :: Prt.one bw (.cells #[.slice ip il ic, .slice op ol oc, .slice lp ll lc, .slice gp gl gc] ty_law23_Web (0, 0)) :: L) H', fun _ _ _ k _ => ((tL : Int) - k).toNat, ⟨0, rfl, by omega, rfl, g10.row (H' := _) (Own.nil 5) ((Goes.refl Nothing _).less fun c hc => absurd hc blk_none)⟩, ?_⟩
    clear g10
    rintro mp mn mc k H11 ⟨kk, rfl, hkk, hmn, g11⟩
    have hhl : (insW w x.node x.id).length ≤ 4 := by
      unfold insW
      split
      · exact Nat.zero_le _
      · exact List.length_filter_le _ [1, 2, 3, 4]
    by_cases hk : (kk : Int) < (tL : Int)
    rotate_left
    · refine bif_neg hk ?_
      rw [List.take_of_length_le (by omega), ← htl] at g11 hmn
      exact hQ106 mp mn mc _ H11 hmn g11
    have hkl : kk < (insW w x.node x.id).length := by omega
    obtain ⟨v, hv⟩ : ∃ v, v = (insW w x.node x.id).getD kk 0 := ⟨_, rfl⟩
    have htk : ((insW w x.node x.id).take (kk + 1)).map (fun s => (⟨true, x.node, ⟨x.node, s⟩, 0⟩ : It)) = ((insW w x.node x.id).take kk).map (fun s => (⟨true, x.node, ⟨x.node, s⟩, 0⟩ : It)) ++ [⟨true, x.node, ⟨x.node, v⟩, 0⟩] := by
      rw [hv, List.getD_eq_getElem?_getD, List.getElem?_eq_getElem hkl, List.take_succ_eq_append_getElem hkl, List.map_append]; rfl
    refine bif_pos hk (ldI_of (g11.cell (i := 2) rfl rfl) (ldI_of (g11.cell (i := 2) rfl rfl) (idx1 (d := (0 : Int)) (g11.row_rd (i := 1) rfl) (by omega) hk fun b o _ h1 => ldI_of h1 ?_)))
    rw [Int.toNat_natCast, ← hv]
    refine pushIt (i := 0) (y := ⟨true, x.node, ⟨x.node, v⟩, 0⟩) g11 rfl hmn (by rw [hmn, List.length_map, List.length_take]; omega) fun p' cap' H12 g12 => ?_
    (try simp only [asI_mk', asB_mk, asP_mk, asA_mk, asM_mk, asSl_mk, asStr_mk, tup2_mk, tup3_mk, agg1_mk, agg2_mk, agg3_mk, agg4_mk, asAggm, unCons_mk, unNil_mk, asTup_mk, extractD0, extractD1, List.toList_toArray, nilP_mk, add_mk, Nat.zero_add, Nat.add_zero, condT, condF, Bool.not_true, Bool.not_false, Option.isNone_some, Option.isNone_none])
    rw [wrap_i64 (by omega) (by omega)]
    refine ⟨⟨kk + 1, by omega, by omega, by rw [htk], by rw [htk]; exact g12⟩, by (try dsimp only); omega⟩
end
theorem pushId {H0 H : Hp} {L : List Prt} {i : Nat} {p : Option Addr} {n cap : Nat} {l : List Id} {y : Id} {Q : Value → Hp → Prop} (h : St H0 L H) (hi : L[i]? = some (Prt.row 2 p n cap (cel idC l))) (hn : n = l.length) (hl : n ≤ 100000)
    (hQ : ∀ p' cap' H', St H0 (L.set i (Prt.row 2 p' (l ++ [y]).length cap' (cel idC (l ++ [y])))) H' → Q (.slice p' (l ++ [y]).length cap') H') :
    newB (.cells #[.int .i64 y.n, .int .u64 y.s] ty_api_ID) H fun b H1 => evW PR (Builtin.append_ #[ty_Sapi_ID, ty_Sapi_ID] ty_Sapi_ID #[.slice p n cap, .slice (some ⟨b, 0, none⟩) 1 1]) H1 Q := by
  intro b hb
  have g := h.alloc (o := .cells #[.int .i64 y.n, .int .u64 y.s] ty_api_ID) hb
  refine g.app (i := i + 1) (by rw [List.getElem?_cons_succ]; exact hi) tu_ty_Sapi_ID tu_ty_Sapi_ID ti_ty_api_ID rfl (by decide) (g.one_rd (i := 0) (n := 1) rfl rfl) (fun z hz => by simp at hz; rcases hz with rfl | rfl <;> rfl) (by omega) fun p' cap' H' g' => ?_
  have e2 : n + 1 = (l ++ [y]).length := by rw [hn]; simp
  have e1 : cel idC l ++ (#[.int .i64 y.n, .int .u64 y.s] : Array Value).toList = cel idC (l ++ [y]) := by rw [cel_append]; rfl
  rw [e2] at g' ⊢
  rw [e1] at g'
  exact hQ p' cap' H' g'.less
theorem TraceFinds_r {r : Cf} {w : Web} {ip op lp gp : Option Addr} {il ic ol oc ll lc gl gc : Nat} {H : Hp} {K : Value → Hp → Prop} (h20 : 0 ≤ r.a20) (h21 : 0 ≤ r.a21) (hw : WebA H ip il op ol lp ll gp gl w)
    (hK : ∀ H', Keep Nothing H H' → K (.bool true) H') : hcall PR f_law23_TraceFinds ⟨[r.raw, .agg #[.slice ip il ic, .slice op ol oc, .slice lp ll lc, .slice gp gl gc]]⟩ H K := by
  apply den_law23_TraceFinds
  unfold B_law23_TraceFinds
  intro br hbr
  have g1 := (St.start H).alloc (o := .cells #[.int .i64 r.a0, .int .i64 r.a1, .int .i64 r.a2, .int .i64 r.a3, .int .i64 r.a4, .int .i64 r.a5, .int .i64 r.a6, .int .i64 r.a7, .int .i64 r.a8, .int .i64 r.a9, .int .i64 r.a10, .int .i64 r.a11, .int .i64 r.a12, .int .i64 r.a13, .int .i64 r.a14, .int .i64 r.a15, .int .i64 r.a16, .int .i64 r.a17, .int .i64 r.a18, .int .i64 r.a19, .int .u64 r.a20, .int .u64 r.a21] ty_hand_Raw) hbr
  intro bw hbw
  have g1 := g1.alloc (o := .cells #[.slice ip il ic, .slice op ol oc, .slice lp ll lc, .slice gp gl gc] ty_law23_Web) hbw
  have g1 : St H [Prt.one bw (.cells #[.slice ip il ic, .slice op ol oc, .slice lp ll lc, .slice gp gl gc] ty_law23_Web (0, 0)), Prt.one br (.cells #[.int .i64 r.a0, .int .i64 r.a1, .int .i64 r.a2, .int .i64 r.a3, .int .i64 r.a4, .int .i64 r.a5, .int .i64 r.a6, .int .i64 r.a7, .int .i64 r.a8, .int .i64 r.a9, .int .i64 r.a10, .int .i64 r.a11, .int .i64 r.a12, .int .i64 r.a13, .int .i64 r.a14, .int .i64 r.a15, .int .i64 r.a16, .int .i64 r.a17, .int .i64 r.a18, .int .i64 r.a19, .int .u64 r.a20, .int .u64 r.a21] ty_hand_Raw (0, 0))] _ := g1
  refine ldI_of (g1.cell (i := 1) rfl rfl) (ldI_of (g1.cell (i := 1) rfl rfl) (ldI_of (g1.cell (i := 1) rfl rfl) (ldI_of (g1.cell (i := 1) rfl rfl) (ldI_of (g1.cell (i := 1) rfl rfl) (ldI_of (g1.cell (i := 1) rfl rfl) (ldI_of (g1.cell (i := 1) rfl rfl) (ldI_of (g1.cell (i := 1) rfl rfl) (ldI_of (g1.cell (i := 1) rfl rfl) (ldI_of (g1.cell (i := 1) rfl rfl) (ldI_of (g1.cell (i := 1) rfl rfl) (ldI_of (g1.cell (i := 1) rfl rfl) (ldI_of (g1.cell (i := 1) rfl rfl) (ldI_of (g1.cell (i := 1) rfl rfl) (ldI_of (g1.cell (i := 1) rfl rfl) (ldI_of (g1.cell (i := 1) rfl rfl) (ldI_of (g1.cell (i := 1) rfl rfl) (ldI_of (g1.cell (i := 1) rfl rfl) (ldI_of (g1.cell (i := 1) rfl rfl) (ldI_of (g1.cell (i := 1) rfl rfl) (ldI_of (g1.cell (i := 1) rfl rfl) (ldI_of (g1.cell (i := 1) rfl rfl) (?_))))))))))))))))))))))
  have hg : (confOf r).good := conf_good h20 h21
  refine configC (r := r) g1 fun H2 g2 => ?_
  obtain ⟨c, hc⟩ : ∃ c, c = confOf r := ⟨_, rfl⟩
  rw [← hc] at hg ⊢
  unfold Cf.val
  (try simp only [asI_mk', asB_mk, asP_mk, asA_mk, asM_mk, asSl_mk, asStr_mk, tup2_mk, tup3_mk, agg1_mk, agg2_mk, agg3_mk, agg4_mk, asAggm, unCons_mk, unNil_mk, asTup_mk, extractD0, extractD1, List.toList_toArray, nilP_mk, add_mk, Nat.zero_add, Nat.add_zero, condT, condF, Bool.not_true, Bool.not_false, Option.isNone_some, Option.isNone_none])
  refine boxz (c := [.int .i64 0, .int .i64 0, .int .i64 0, .int .i64 0, .int .i64 0, .int .i64 0, .int .i64 0, .int .i64 0, .int .i64 0, .int .i64 0, .int .i64 0, .int .u64 0, .int .u64 0, .int .u64 0, .int .u64 0, .int .u64 0, .int .u64 0, .int .i64 0, .int .i64 0, .int .i64 0, .int .u64 0, .int .u64 0]) (vs := [.int .i64 c.a0, .int .i64 c.a1, .int .i64 c.a2, .int .i64 c.a3, .int .i64 c.a4, .int .i64 c.a5, .int .i64 c.a6, .int .i64 c.a7, .int .i64 c.a8, .int .i64 c.a9, .int .i64 c.a10, .int .u64 c.a11, .int .u64 c.a12, .int .u64 c.a13, .int .u64 c.a14, .int .u64 c.a15, .int .u64 c.a16, .int .i64 c.a17, .int .i64 c.a18, .int .i64 c.a19, .int .u64 c.a20, .int .u64 c.a21]) g2 rfl fun bc H3 g3 => ?_
  have g3 : St H [Prt.one bc (.cells #[.int .i64 c.a0, .int .i64 c.a1, .int .i64 c.a2, .int .i64 c.a3, .int .i64 c.a4, .int .i64 c.a5, .int .i64 c.a6, .int .i64 c.a7, .int .i64 c.a8, .int .i64 c.a9, .int .i64 c.a10, .int .u64 c.a11, .int .u64 c.a12, .int .u64 c.a13, .int .u64 c.a14, .int .u64 c.a15, .int .u64 c.a16, .int .i64 c.a17, .int .i64 c.a18, .int .i64 c.a19, .int .u64 c.a20, .int .u64 c.a21] ty_api_Config (0, 0)), Prt.one bw (.cells #[.slice ip il ic, .slice op ol oc, .slice lp ll lc, .slice gp gl gc] ty_law23_Web (0, 0)), Prt.one br (.cells #[.int .i64 r.a0, .int .i64 r.a1, .int .i64 r.a2, .int .i64 r.a3, .int .i64 r.a4, .int .i64 r.a5, .int .i64 r.a6, .int .i64 r.a7, .int .i64 r.a8, .int .i64 r.a9, .int .i64 r.a10, .int .i64 r.a11, .int .i64 r.a12, .int .i64 r.a13, .int .i64 r.a14, .int .i64 r.a15, .int .i64 r.a16, .int .i64 r.a17, .int .i64 r.a18, .int .i64 r.a19, .int .u64 r.a20, .int .u64 r.a21] ty_hand_Raw (0, 0))] H3 := g3
  refine ldI_of (g3.cell (i := 0) rfl rfl) (ldI_of (g3.cell (i := 0) rfl rfl) (ldI_of (g3.cell (i := 0) rfl rfl) (ldI_of (g3.cell (i := 0) rfl rfl) (ldI_of (g3.cell (i := 0) rfl rfl) (ldI_of (g3.cell (i := 0) rfl rfl) (ldI_of (g3.cell (i := 0) rfl rfl) (ldI_of (g3.cell (i := 0) rfl rfl) (ldI_of (g3.cell (i := 0) rfl rfl) (ldI_of (g3.cell (i := 0) rfl rfl) (ldI_of (g3.cell (i := 0) rfl rfl) (ldI_of (g3.cell (i := 0) rfl rfl) (ldI_of (g3.cell (i := 0) rfl rfl) (ldI_of (g3.cell (i := 0) rfl rfl) (ldI_of (g3.cell (i := 0) rfl rfl) (ldI_of (g3.cell (i := 0) rfl rfl) (ldI_of (g3.cell (i := 0) rfl rfl) (ldI_of (g3.cell (i := 0) rfl rfl) (ldI_of (g3.cell (i := 0) rfl rfl) (ldI_of (g3.cell (i := 0) rfl rfl) (ldI_of (g3.cell (i := 0) rfl rfl) (ldI_of (g3.cell (i := 0) rfl rfl) (?_))))))))))))))))))))))
  have ha0 := hg.a0
  have hn12 : 1 ≤ c.a0 ∧ c.a0 ≤ 12 := by omega
  refine newC (c := c) hg g3 (fun h => absurd h (by omega)) fun _ _ tb H6 g6 => ?_
  (try simp only [asI_mk', asB_mk, asP_mk, asA_mk, asM_mk, asSl_mk, asStr_mk, tup2_mk, tup3_mk, agg1_mk, agg2_mk, agg3_mk, agg4_mk, asAggm, unCons_mk, unNil_mk, asTup_mk, extractD0, extractD1, List.toList_toArray, nilP_mk, add_mk, Nat.zero_add, Nat.add_zero, condT, condF, Bool.not_true, Bool.not_false, Option.isNone_some, Option.isNone_none])
  refine knownC g6 fun H7 g7 => ?_
  (try simp only [asI_mk', asB_mk, asP_mk, asA_mk, asM_mk, asSl_mk, asStr_mk, tup2_mk, tup3_mk, agg1_mk, agg2_mk, agg3_mk, agg4_mk, asAggm, unCons_mk, unNil_mk, asTup_mk, extractD0, extractD1, List.toList_toArray, nilP_mk, add_mk, Nat.zero_add, Nat.add_zero, condT, condF, Bool.not_true, Bool.not_false, Option.isNone_some, Option.isNone_none])
  refine bif_neqf rfl ?_
  (try simp only [Option.isNone, condF])
  refine stubC g7 fun H8 g8 => ?_
  (try simp only [asI_mk', asB_mk, asP_mk, asA_mk, asM_mk, asSl_mk, asStr_mk, tup2_mk, tup3_mk, agg1_mk, agg2_mk, agg3_mk, agg4_mk, asAggm, unCons_mk, unNil_mk, asTup_mk, extractD0, extractD1, List.toList_toArray, nilP_mk, add_mk, Nat.zero_add, Nat.add_zero, condT, condF, Bool.not_true, Bool.not_false, Option.isNone_some, Option.isNone_none])
  have hb0 : (newTr 1 0).beginE c.a0 2 7 = 0 := by
    unfold Tr.beginE
    rw [if_neg (by simp [newTr]), if_neg (by decide), if_neg (by omega), if_neg (by simp [newTr]), if_neg (by decide), if_neg (by decide), if_neg (by simp [newTr])]
  refine trBeginC g8 (k := 0) rfl (by simp only [newTr]; omega) (fun h => absurd hb0 h) fun _ H9 g9 => ?_
  have g9 : St H [TrP tb c ((newTr 1 0).begun 2 7 0), Prt.one bc (.cells #[.int .i64 c.a0, .int .i64 c.a1, .int .i64 c.a2, .int .i64 c.a3, .int .i64 c.a4, .int .i64 c.a5, .int .i64 c.a6, .int .i64 c.a7, .int .i64 c.a8, .int .i64 c.a9, .int .i64 c.a10, .int .u64 c.a11, .int .u64 c.a12, .int .u64 c.a13, .int .u64 c.a14, .int .u64 c.a15, .int .u64 c.a16, .int .i64 c.a17, .int .i64 c.a18, .int .i64 c.a19, .int .u64 c.a20, .int .u64 c.a21] ty_api_Config (0, 0)), Prt.one bw (.cells #[.slice ip il ic, .slice op ol oc, .slice lp ll lc, .slice gp gl gc] ty_law23_Web (0, 0)), Prt.one br (.cells #[.int .i64 r.a0, .int .i64 r.a1, .int .i64 r.a2, .int .i64 r.a3, .int .i64 r.a4, .int .i64 r.a5, .int .i64 r.a6, .int .i64 r.a7, .int .i64 r.a8, .int .i64 r.a9, .int .i64 r.a10, .int .i64 r.a11, .int .i64 r.a12, .int .i64 r.a13, .int .i64 r.a14, .int .i64 r.a15, .int .i64 r.a16, .int .i64 r.a17, .int .i64 r.a18, .int .i64 r.a19, .int .u64 r.a20, .int .u64 r.a21] ty_hand_Raw (0, 0))] H9 := g9
  clear g8 g7 g6 g3 g2 g1
  (try simp only [asI_mk', asB_mk, asP_mk, asA_mk, asM_mk, asSl_mk, asStr_mk, tup2_mk, tup3_mk, agg1_mk, agg2_mk, agg3_mk, agg4_mk, asAggm, unCons_mk, unNil_mk, asTup_mk, extractD0, extractD1, List.toList_toArray, nilP_mk, add_mk, Nat.zero_add, Nat.add_zero, condT, condF, Bool.not_true, Bool.not_false, Option.isNone_some, Option.isNone_none])
  refine bif_neqf rfl ?_
  refine ldSl_of (g9.cell (i := 2) rfl rfl) (ldSl_of (g9.cell (i := 2) rfl rfl) (ldSl_of (g9.cell (i := 2) rfl rfl) (ldSl_of (g9.cell (i := 2) rfl rfl) ?_)))
  refine ldI_of (g9.cell (i := 1) rfl rfl) (ldI_of (g9.cell (i := 1) rfl rfl) (ldI_of (g9.cell (i := 1) rfl rfl) (ldI_of (g9.cell (i := 1) rfl rfl) (ldI_of (g9.cell (i := 1) rfl rfl) (ldI_of (g9.cell (i := 1) rfl rfl) (ldI_of (g9.cell (i := 1) rfl rfl) (ldI_of (g9.cell (i := 1) rfl rfl) (ldI_of (g9.cell (i := 1) rfl rfl) (ldI_of (g9.cell (i := 1) rfl rfl) (ldI_of (g9.cell (i := 1) rfl rfl) (ldI_of (g9.cell (i := 1) rfl rfl) (ldI_of (g9.cell (i := 1) rfl rfl) (ldI_of (g9.cell (i := 1) rfl rfl) (ldI_of (g9.cell (i := 1) rfl rfl) (ldI_of (g9.cell (i := 1) rfl rfl) (ldI_of (g9.cell (i := 1) rfl rfl) (ldI_of (g9.cell (i := 1) rfl rfl) (ldI_of (g9.cell (i := 1) rfl rfl) (ldI_of (g9.cell (i := 1) rfl rfl) (ldI_of (g9.cell (i := 1) rfl rfl) (ldI_of (g9.cell (i := 1) rfl rfl) (?_))))))))))))))))))))))
  refine backC hw hg g9 fun tP tC H10 m hm g10 => ?_
  (try simp only [asI_mk', asB_mk, asP_mk, asA_mk, asM_mk, asSl_mk, asStr_mk, tup2_mk, tup3_mk, agg1_mk, agg2_mk, agg3_mk, agg4_mk, asAggm, unCons_mk, unNil_mk, asTup_mk, extractD0, extractD1, List.toList_toArray, nilP_mk, add_mk, Nat.zero_add, Nat.add_zero, condT, condF, Bool.not_true, Bool.not_false, Option.isNone_some, Option.isNone_none])
  obtain ⟨hbu, hba⟩ := bk_in (w := w) (nodes := c.a0) (by omega) m
  have hbl := few_items (by omega) (fun x hx => (hbu x hx).1) hba
  have g10 : St H [Prt.row 5 tP (bk c.a0 w m).1.length tC (cel It.cells (bk c.a0 w m).1), TrP tb c ((newTr 1 0).begun 2 7 0), Prt.one bc (.cells #[.int .i64 c.a0, .int .i64 c.a1, .int .i64 c.a2, .int .i64 c.a3, .int .i64 c.a4, .int .i64 c.a5, .int .i64 c.a6, .int .i64 c.a7, .int .i64 c.a8, .int .i64 c.a9, .int .i64 c.a10, .int .u64 c.a11, .int .u64 c.a12, .int .u64 c.a13, .int .u64 c.a14, .int .u64 c.a15, .int .u64 c.a16, .int .i64 c.a17, .int .i64 c.a18, .int .i64 c.a19, .int .u64 c.a20, .int .u64 c.a21] ty_api_Config (0, 0)), Prt.one bw (.cells #[.slice ip il ic, .slice op ol oc, .slice lp ll lc, .slice gp gl gc] ty_law23_Web (0, 0)), Prt.one br (.cells #[.int .i64 r.a0, .int .i64 r.a1, .int .i64 r.a2, .int .i64 r.a3, .int .i64 r.a4, .int .i64 r.a5, .int .i64 r.a6, .int .i64 r.a7, .int .i64 r.a8, .int .i64 r.a9, .int .i64 r.a10, .int .i64 r.a11, .int .i64 r.a12, .int .i64 r.a13, .int .i64 r.a14, .int .i64 r.a15, .int .i64 r.a16, .int .i64 r.a17, .int .i64 r.a18, .int .i64 r.a19, .int .u64 r.a20, .int .u64 r.a21] ty_hand_Raw (0, 0))] H10 := g10
  clear g9
  intro R236 hR236
  have hQ236 : ∀ bP bL bC (t : Tr) (bur : List Id) H', t.ok c.a0 → t.st = 0 → ((t.found = 1 ∧ (bk c.a0 w m).2 = false ∧ bur = wanted w (bk c.a0 w m).1) ∨ (t.found = 0 ∧ (bk c.a0 w m).2 = true ∧ bur = [])) → bL = bur.length → St H [Prt.row 2 bP bL bC (cel idC bur), Prt.row 5 tP (bk c.a0 w m).1.length tC (cel It.cells (bk c.a0 w m).1), TrP tb c t, Prt.one bc (.cells #[.int .i64 c.a0, .int .i64 c.a1, .int .i64 c.a2, .int .i64 c.a3, .int .i64 c.a4, .int .i64 c.a5, .int .i64 c.a6, .int .i64 c.a7, .int .i64 c.a8, .int .i64 c.a9, .int .i64 c.a10, .int .u64 c.a11, .int .u64 c.a12, .int .u64 c.a13, .int .u64 c.a14, .int .u64 c.a15, .int .u64 c.a16, .int .i64 c.a17, .int .i64 c.a18, .int .i64 c.a19, .int .u64 c.a20, .int .u64 c.a21] ty_api_Config (0, 0)), Prt.one bw (.cells #[.slice ip il ic, .slice op ol oc, .slice lp ll lc, .slice gp gl gc] ty_law23_Web (0, 0)), Prt.one br (.cells #[.int .i64 r.a0, .int .i64 r.a1, .int .i64 r.a2, .int .i64 r.a3, .int .i64 r.a4, .int .i64 r.a5, .int .i64 r.a6, .int .i64 r.a7, .int .i64 r.a8, .int .i64 r.a9, .int .i64 r.a10, .int .i64 r.a11, .int .i64 r.a12, .int .i64 r.a13, .int .i64 r.a14, .int .i64 r.a15, .int .i64 r.a16, .int .i64 r.a17, .int .i64 r.a18, .int .i64 r.a19, .int .u64 r.a20, .int .u64 r.a21] ty_hand_Raw (0, 0))] H' → R236 bP bL bC H' := fun bP bL bC t bur H' hok h0 hz hbL g => by
    refine hR236 bP bL bC H' ?_
    clear hR236 g10
    refine trCountC g (k := 2) rfl ?_
    (try simp only [asI_mk', asB_mk, asP_mk, asA_mk, asM_mk, asSl_mk, asStr_mk, tup2_mk, tup3_mk, agg1_mk, agg2_mk, agg3_mk, agg4_mk, asAggm, unCons_mk, unNil_mk, asTup_mk, extractD0, extractD1, List.toList_toArray, nilP_mk, add_mk, Nat.zero_add, Nat.add_zero, condT, condF, Bool.not_true, Bool.not_false, Option.isNone_some, Option.isNone_none])
    refine trStateC g (k := 2) rfl ?_
    (try simp only [asI_mk', asB_mk, asP_mk, asA_mk, asM_mk, asSl_mk, asStr_mk, tup2_mk, tup3_mk, agg1_mk, agg2_mk, agg3_mk, agg4_mk, asAggm, unCons_mk, unNil_mk, asTup_mk, extractD0, extractD1, List.toList_toArray, nilP_mk, add_mk, Nat.zero_add, Nat.add_zero, condT, condF, Bool.not_true, Bool.not_false, Option.isNone_some, Option.isNone_none])
    refine bif_neqf h0 ?_
    have hfl : (((t.found : Int) == 1) == (bk c.a0 w m).2) = false := by
      rcases hz with ⟨a, b, _⟩ | ⟨a, b, _⟩
      · rw [a, b]; rfl
      · rw [a, b]; rfl
    rw [hfl]
    simp only [condF]
    obtain ⟨l, hl⟩ : ∃ l, l = (bk c.a0 w m).1 := ⟨_, rfl⟩
    obtain ⟨live, hlive⟩ : ∃ b, b = (bk c.a0 w m).2 := ⟨_, rfl⟩
    rw [← hl] at g hbu hba hbl ⊢
    rw [← hlive]
    rw [← hl, ← hlive] at hz
    intro R250 hR250
    have hQ250 : ∀ (n : Int) H', (n : Int) = bL → St H [Prt.row 2 bP bL bC (cel idC bur), Prt.row 5 tP l.length tC (cel It.cells l), TrP tb c t, Prt.one bc (.cells #[.int .i64 c.a0, .int .i64 c.a1, .int .i64 c.a2, .int .i64 c.a3, .int .i64 c.a4, .int .i64 c.a5, .int .i64 c.a6, .int .i64 c.a7, .int .i64 c.a8, .int .i64 c.a9, .int .i64 c.a10, .int .u64 c.a11, .int .u64 c.a12, .int .u64 c.a13, .int .u64 c.a14, .int .u64 c.a15, .int .u64 c.a16, .int .i64 c.a17, .int .i64 c.a18, .int .i64 c.a19, .int .u64 c.a20, .int .u64 c.a21] ty_api_Config (0, 0)), Prt.one bw (.cells #[.slice ip il ic, .slice op ol oc, .slice lp ll lc, .slice gp gl gc] ty_law23_Web (0, 0)), Prt.one br (.cells #[.int .i64 r.a0, .int .i64 r.a1, .int .i64 r.a2, .int .i64 r.a3, .int .i64 r.a4, .int .i64 r.a5, .int .i64 r.a6, .int .i64 r.a7, .int .i64 r.a8, .int .i64 r.a9, .int .i64 r.a10, .int .i64 r.a11, .int .i64 r.a12, .int .i64 r.a13, .int .i64 r.a14, .int .i64 r.a15, .int .i64 r.a16, .int .i64 r.a17, .int .i64 r.a18, .int .i64 r.a19, .int .u64 r.a20, .int .u64 r.a21] ty_hand_Raw (0, 0))] H' → R250 n H' := fun n H' hn g => by
      refine hR250 n H' ?_
      rw [show ((n : Int) == (bL : Int)) = true from beq_iff_eq.2 hn]
      exact hK H' g.keep
    clear hR250
    refine ⟨fun n i H' => ∃ j : Nat, i = j ∧ j ≤ l.length ∧ (live = true → n = 0) ∧ (live = false → n = (wanted w (l.take j)).length) ∧ St H [Prt.row 2 bP bL bC (cel idC bur), Prt.row 5 tP l.length tC (cel It.cells l), TrP tb c t, Prt.one bc (.cells #[.int .i64 c.a0, .int .i64 c.a1, .int .i64 c.a2, .int .i64 c.a3, .int .i64 c.a4, .int .i64 c.a5, .int .i64 c.a6, .int .i64 c.a7, .int .i64 c.a8, .int .i64 c.a9, .int .i64 c.a10, .int .u64 c.a11, .int .u64 c.a12, .int .u64 c.a13, .int .u64 c.a14, .int .u64 c.a15, .int .u64 c.a16, .int .i64 c.a17, .int .i64 c.a18, .int .i64 c.a19, .int .u64 c.a20, .int .u64 c.a21] ty_api_Config (0, 0)), Prt.one bw (.cells #[.slice ip il ic, .slice op ol oc, .slice lp ll lc, .slice gp gl gc] ty_law23_Web (0, 0)), Prt.one br (.cells #[.int .i64 r.a0, .int .i64 r.a1, .int .i64 r.a2, .int .i64 r.a3, .int .i64 r.a4, .int .i64 r.a5, .int .i64 r.a6, .int .i64 r.a7, .int .i64 r.a8, .int .i64 r.a9, .int .i64 r.a10, .int .i64 r.a11, .int .i64 r.a12, .int .i64 r.a13, .int .i64 r.a14, .int .i64 r.a15, .int .i64 r.a16, .int .i64 r.a17, .int .i64 r.a18, .int .i64 r.a19, .int .u64 r.a20, .int .u64 r.a21] ty_hand_Raw (0, 0))] H', fun _ i _ => ((l.length : Int) - i).toNat, ⟨0, rfl, by omega, fun _ => rfl, fun _ => rfl, g⟩, ?_⟩
    clear g
    rintro n i H2 ⟨j, rfl, hj, hn1, hn2, g2⟩
    have wl : (wanted w (l.take j)).length ≤ j := by
      unfold wanted
      rw [List.length_map]
      refine Nat.le_trans (List.length_filter_le _ _) ?_
      rw [List.length_take]
      omega
    by_cases hjl : (j : Int) < (l.length : Int)
    rotate_left
    · refine bif_neg hjl (hQ250 n H2 ?_ g2)
      rcases hz with ⟨_, a, b⟩ | ⟨_, a, b⟩
      · rw [hn2 a, List.take_of_length_le (by omega), hbL, b]
      · rw [hn1 a, hbL, b]; rfl
    refine bif_pos hjl ?_
    cases live
    rotate_left
    · simp only [Bool.not_true, condF]
      refine hQ250 n H2 ?_ g2
      rcases hz with ⟨_, a, b⟩ | ⟨_, a, b⟩
      · cases a
      · rw [hn1 rfl, hbL, b]; rfl
    simp only [Bool.not_false, condT]
    have hbw : bur = wanted w l := by
      rcases hz with ⟨_, a, b⟩ | ⟨_, a, b⟩
      · exact b
      · cases a
    have hn2 := hn2 rfl
    clear hn1 hQ250
    have hjn : j < l.length := by omega
    obtain ⟨x, hx⟩ : ∃ x, x = l.getD j noIt := ⟨_, rfl⟩
    have hwt := wanted_take (w := w) hjn
    rw [← hx] at hwt
    have hxm : x ∈ l := by
      rw [hx, List.getD_eq_getElem?_getD, List.getElem?_eq_getElem hjn]
      exact List.getElem_mem _
    have hxu := (hbu x hxm).1
    have hxb : (0 ≤ x.node ∧ x.node ≤ 8) ∧ (0 ≤ x.id.n ∧ x.id.n ≤ 8) ∧ (0 ≤ x.id.s ∧ x.id.s ≤ 8) := by
      rcases hxu with ⟨a, b, c, d⟩ | ⟨a, b, c, d, e⟩
      · omega
      · exact ⟨by omega, by omega, by rcases e with e | e <;> omega⟩
    intro R258 hR258
    have hQ258 : ∀ n' H', (n' : Int) = (wanted w (l.take (j + 1))).length → St H [Prt.row 2 bP bL bC (cel idC bur), Prt.row 5 tP l.length tC (cel It.cells l), TrP tb c t, Prt.one bc (.cells #[.int .i64 c.a0, .int .i64 c.a1, .int .i64 c.a2, .int .i64 c.a3, .int .i64 c.a4, .int .i64 c.a5, .int .i64 c.a6, .int .i64 c.a7, .int .i64 c.a8, .int .i64 c.a9, .int .i64 c.a10, .int .u64 c.a11, .int .u64 c.a12, .int .u64 c.a13, .int .u64 c.a14, .int .u64 c.a15, .int .u64 c.a16, .int .i64 c.a17, .int .i64 c.a18, .int .i64 c.a19, .int .u64 c.a20, .int .u64 c.a21] ty_api_Config (0, 0)), Prt.one bw (.cells #[.slice ip il ic, .slice op ol oc, .slice lp ll lc, .slice gp gl gc] ty_law23_Web (0, 0)), Prt.one br (.cells #[.int .i64 r.a0, .int .i64 r.a1, .int .i64 r.a2, .int .i64 r.a3, .int .i64 r.a4, .int .i64 r.a5, .int .i64 r.a6, .int .i64 r.a7, .int .i64 r.a8, .int .i64 r.a9, .int .i64 r.a10, .int .i64 r.a11, .int .i64 r.a12, .int .i64 r.a13, .int .i64 r.a14, .int .i64 r.a15, .int .i64 r.a16, .int .i64 r.a17, .int .i64 r.a18, .int .i64 r.a19, .int .u64 r.a20, .int .u64 r.a21] ty_hand_Raw (0, 0))] H' → R258 n' H' := fun n' H' hn' g => by
      refine hR258 n' H' ?_
      rw [wrap_i64 (by omega) (by omega)]
      exact ⟨⟨j + 1, by omega, by omega, (fun h => by cases h), (fun _ => hn'), g⟩, by (try dsimp only); omega⟩
    clear hR258
    have rl : ∀ H', St H [Prt.row 2 bP bL bC (cel idC bur), Prt.row 5 tP l.length tC (cel It.cells l), TrP tb c t, Prt.one bc (.cells #[.int .i64 c.a0, .int .i64 c.a1, .int .i64 c.a2, .int .i64 c.a3, .int .i64 c.a4, .int .i64 c.a5, .int .i64 c.a6, .int .i64 c.a7, .int .i64 c.a8, .int .i64 c.a9, .int .i64 c.a10, .int .u64 c.a11, .int .u64 c.a12, .int .u64 c.a13, .int .u64 c.a14, .int .u64 c.a15, .int .u64 c.a16, .int .i64 c.a17, .int .i64 c.a18, .int .i64 c.a19, .int .u64 c.a20, .int .u64 c.a21] ty_api_Config (0, 0)), Prt.one bw (.cells #[.slice ip il ic, .slice op ol oc, .slice lp ll lc, .slice gp gl gc] ty_law23_Web (0, 0)), Prt.one br (.cells #[.int .i64 r.a0, .int .i64 r.a1, .int .i64 r.a2, .int .i64 r.a3, .int .i64 r.a4, .int .i64 r.a5, .int .i64 r.a6, .int .i64 r.a7, .int .i64 r.a8, .int .i64 r.a9, .int .i64 r.a10, .int .i64 r.a11, .int .i64 r.a12, .int .i64 r.a13, .int .i64 r.a14, .int .i64 r.a15, .int .i64 r.a16, .int .i64 r.a17, .int .i64 r.a18, .int .i64 r.a19, .int .u64 r.a20, .int .u64 r.a21] ty_hand_Raw (0, 0))] H' → ∀ {Q : Addr → Prop}, (∀ b o, (∀ j, j < 5 → hcell H' ⟨b, o + j, none⟩ = (It.cells x)[j]?) → Q ⟨b, o, none⟩) → idxA tP l.length j 5 Q := fun H' g' Q hQ => idxS It.len noIt (g'.row_rd (i := 1) rfl) (by omega) (by omega) hjl fun b o _ _ hc => hQ b _ (by rw [Int.toNat_natCast, ← hx] at hc; rw [Int.toNat_natCast]; exact hc)
    refine rl H2 g2 fun b o h1 => ldB_of (h1 0 (by omega)) ?_
    cases hin : x.inn
    · simp only [Bool.not_false, condT]
      refine hQ258 n H2 ?_ g2
      rw [hwt, hin, Bool.false_and, if_neg (by decide), List.append_nil]
      exact hn2
    simp only [Bool.not_true, condF]
    refine ldSl_of (g2.cell (i := 4) rfl rfl) (rl H2 g2 fun b o h1 => ldI_of (h1 1 (by omega)) (rl H2 g2 fun b o h1 => ldI_of (h1 2 (by omega)) (ldI_of (h1 3 (by omega)) (numberC hxb.1 hxb.2.1 hxb.2.2 g2 fun H3 g3 => ?_))))
    (try simp only [asI_mk', asB_mk, asP_mk, asA_mk, asM_mk, asSl_mk, asStr_mk, tup2_mk, tup3_mk, agg1_mk, agg2_mk, agg3_mk, agg4_mk, asAggm, unCons_mk, unNil_mk, asTup_mk, extractD0, extractD1, List.toList_toArray, nilP_mk, add_mk, Nat.zero_add, Nat.add_zero, condT, condF, Bool.not_true, Bool.not_false, Option.isNone_some, Option.isNone_none])
    refine ⟨ldSl_of (g3.cell (i := 4) rfl rfl) rfl, amongC (g3.rd hw.gone.1) hw.gone.2 ?_⟩
    (try simp only [asI_mk', asB_mk, asP_mk, asA_mk, asM_mk, asSl_mk, asStr_mk, tup2_mk, tup3_mk, agg1_mk, agg2_mk, agg3_mk, agg4_mk, asAggm, unCons_mk, unNil_mk, asTup_mk, extractD0, extractD1, List.toList_toArray, nilP_mk, add_mk, Nat.zero_add, Nat.add_zero, condT, condF, Bool.not_true, Bool.not_false, Option.isNone_some, Option.isNone_none])
    have eg : amongW w.gone (numW true x.node x.id) = isGone w x := by unfold isGone; rw [hin]
    rw [eg]
    rw [hin, Bool.true_and] at hwt
    cases hgn : isGone w x
    rotate_left
    · simp only [condT]
      refine hQ258 n H3 ?_ g3
      rw [hwt, hgn, Bool.not_true, if_neg (by decide), List.append_nil]
      exact hn2
    simp only [condF]
    rw [hgn, Bool.not_false, if_pos rfl] at hwt
    have hmem : x.id ∈ bur := by
      rw [hbw]
      unfold wanted
      exact List.mem_map.2 ⟨x, List.mem_filter.2 ⟨hxm, by rw [hin, hgn]; rfl⟩, rfl⟩
    have hnd : bur.Nodup := by rw [hbw]; exact wanted_nodup (fun x hx => (hbu x hx).1) hba
    have hone := one_of hnd hmem
    refine ⟨fun times k H' => H' = H3 ∧ ∃ kk : Nat, k = kk ∧ kk ≤ bur.length ∧ times = ((bur.take kk).filter fun y => decide (y = x.id)).length, fun _ k _ => ((bur.length : Int) - k).toNat, ⟨rfl, 0, rfl, by omega, rfl⟩, ?_⟩
    rintro times k H' ⟨rfl, kk, rfl, hkk, htm⟩
    by_cases hkl : (kk : Int) < (bL : Int)
    rotate_left
    · refine bif_neg hkl ?_
      rw [List.take_of_length_le (by omega), hone] at htm
      refine bif_neqf htm (hQ258 _ H' ?_ g3)
      rw [hwt, List.length_append, List.length_singleton, hn2]
      rw [wrap_i64 (by omega) (by omega)]
      omega
    refine bif_pos hkl ?_
    have hkn : kk < bur.length := by omega
    have htk : (bur.take (kk + 1)).filter (fun y => decide (y = x.id)) = (bur.take kk).filter (fun y => decide (y = x.id)) ++ (if bur.getD kk noId = x.id then [bur.getD kk noId] else []) := by
      have : bur.take (kk + 1) = bur.take kk ++ [bur.getD kk noId] := by
        rw [List.getD_eq_getElem?_getD, List.getElem?_eq_getElem hkn, List.take_succ_eq_append_getElem hkn]; rfl
      rw [this, List.filter_append]
      congr 1
      by_cases h : bur.getD kk noId = x.id
      · rw [if_pos h, List.filter_cons_of_pos (by simpa using h)]; rfl
      · rw [if_neg h, List.filter_cons_of_neg (by simpa using h)]; rfl
    have hfl2 : ((bur.take kk).filter fun y => decide (y = x.id)).length ≤ kk := by
      refine Nat.le_trans (List.length_filter_le _ _) ?_
      rw [List.length_take]
      omega
    have hbll : bur.length ≤ 144 := by
      rw [hbw]
      unfold wanted
      rw [List.length_map]
      exact Nat.le_trans (List.length_filter_le _ _) hbl
    intro R285 hR285
    have hQ285 : ∀ n' : Int, n' = ((bur.take (kk + 1)).filter fun y => decide (y = x.id)).length → R285 n' H' := fun n' hn' => by
      refine hR285 n' H' ?_
      rw [wrap_i64 (by omega) (by omega)]
      exact ⟨⟨by trivial, kk + 1, by omega, by omega, hn'⟩, by (try dsimp only); omega⟩
    clear hR285
    refine idxS idC_len noId (g3.row_rd (i := 0) rfl) (by omega) (by omega) hkl fun b o _ _ hc => ?_
    rw [Int.toNat_natCast] at hc
    rw [Int.toNat_natCast]
    (try simp only [asI_mk', asB_mk, asP_mk, asA_mk, asM_mk, asSl_mk, asStr_mk, tup2_mk, tup3_mk, agg1_mk, agg2_mk, agg3_mk, agg4_mk, asAggm, unCons_mk, unNil_mk, asTup_mk, extractD0, extractD1, List.toList_toArray, nilP_mk, add_mk, Nat.zero_add, Nat.add_zero, condT, condF, Bool.not_true, Bool.not_false, Option.isNone_some, Option.isNone_none])
    refine ldI_of (hc 0 (by omega)) (ldI_of (hc 1 (by omega)) (rl H' g3 fun b' o' h1 => ldI_of (h1 2 (by omega)) (ldI_of (h1 3 (by omega)) (idEq ?_))))
    (try simp only [asI_mk', asB_mk, asP_mk, asA_mk, asM_mk, asSl_mk, asStr_mk, tup2_mk, tup3_mk, agg1_mk, agg2_mk, agg3_mk, agg4_mk, asAggm, unCons_mk, unNil_mk, asTup_mk, extractD0, extractD1, List.toList_toArray, nilP_mk, add_mk, Nat.zero_add, Nat.add_zero, condT, condF, Bool.not_true, Bool.not_false, Option.isNone_some, Option.isNone_none])
    by_cases he : bur.getD kk noId = x.id
    · rw [if_pos he] at htk
      rw [decide_eq_true (show (⟨(bur.getD kk noId).n, (bur.getD kk noId).s⟩ : Id) = ⟨x.id.n, x.id.s⟩ from he)]
      simp only [condT]
      refine hQ285 _ ?_
      rw [htk, List.length_append, List.length_singleton, htm, wrap_i64 (by omega) (by omega)]
      omega
    · rw [if_neg he, List.append_nil] at htk
      rw [decide_eq_false (show ¬ (⟨(bur.getD kk noId).n, (bur.getD kk noId).s⟩ : Id) = ⟨x.id.n, x.id.s⟩ from he)]
      simp only [condF]
      refine hQ285 _ ?_
      rw [htk, htm]
  clear hR236
  refine ⟨fun bP bL bC i H' => ∃ (j : Nat) (t : Tr) (bur : List Id), i = j ∧ Fi c.a0 w m j t bur ∧ bur.length ≤ j ∧ bL = bur.length ∧ St H [Prt.row 2 bP bL bC (cel idC bur), Prt.row 5 tP (bk c.a0 w m).1.length tC (cel It.cells (bk c.a0 w m).1), TrP tb c t, Prt.one bc (.cells #[.int .i64 c.a0, .int .i64 c.a1, .int .i64 c.a2, .int .i64 c.a3, .int .i64 c.a4, .int .i64 c.a5, .int .i64 c.a6, .int .i64 c.a7, .int .i64 c.a8, .int .i64 c.a9, .int .i64 c.a10, .int .u64 c.a11, .int .u64 c.a12, .int .u64 c.a13, .int .u64 c.a14, .int .u64 c.a15, .int .u64 c.a16, .int .i64 c.a17, .int .i64 c.a18, .int .i64 c.a19, .int .u64 c.a20, .int .u64 c.a21] ty_api_Config (0, 0)), Prt.one bw (.cells #[.slice ip il ic, .slice op ol oc, .slice lp ll lc, .slice gp gl gc] ty_law23_Web (0, 0)), Prt.one br (.cells #[.int .i64 r.a0, .int .i64 r.a1, .int .i64 r.a2, .int .i64 r.a3, .int .i64 r.a4, .int .i64 r.a5, .int .i64 r.a6, .int .i64 r.a7, .int .i64 r.a8, .int .i64 r.a9, .int .i64 r.a10, .int .i64 r.a11, .int .i64 r.a12, .int .i64 r.a13, .int .i64 r.a14, .int .i64 r.a15, .int .i64 r.a16, .int .i64 r.a17, .int .i64 r.a18, .int .i64 r.a19, .int .u64 r.a20, .int .u64 r.a21] ty_hand_Raw (0, 0))] H', fun _ _ _ i _ => (3000 - i).toNat, ⟨0, _, [], rfl, Fi.start (by omega), Nat.le_refl _, rfl, g10.row (H' := _) (Own.nil 2) ((Goes.refl Nothing _).less fun c hc => absurd hc blk_none)⟩, ?_⟩
  clear g10
  rintro bP bL bC i H12 ⟨j, t, bur, rfl, hF, hbj, hbL, g12⟩
  have h1 := hF.wi
  have out0 : t.st = 0 → R236 bP bL bC H12 := fun h0 => hQ236 bP bL bC t bur H12 h1.ok h0 (hF.zero h0) hbL g12
  by_cases hj : (j : Int) < 2000
  rotate_left
  · refine bif_neg hj (out0 (Classical.byContradiction fun h0 => ?_))
    have := h1.lt (by omega) h0
    omega
  refine bif_pos hj (trStateC g12 (k := 2) rfl ?_)
  (try simp only [asI_mk', asB_mk, asP_mk, asA_mk, asM_mk, asSl_mk, asStr_mk, tup2_mk, tup3_mk, agg1_mk, agg2_mk, agg3_mk, agg4_mk, asAggm, unCons_mk, unNil_mk, asTup_mk, extractD0, extractD1, List.toList_toArray, nilP_mk, add_mk, Nat.zero_add, Nat.add_zero, condT, condF, Bool.not_true, Bool.not_false, Option.isNone_some, Option.isNone_none])
  by_cases h0 : t.st = 0
  · exact bif_neqf h0 (out0 h0)
  refine bif_neq h0 ?_
  clear out0 hQ236
  obtain ⟨q1, q2, q3, q4⟩ := h1.tob (by omega) h0
  obtain ⟨n1, n2⟩ := h1.step (by omega) h0
  obtain ⟨f1, f2⟩ := hF.step (by omega) hm h0
  refine trStepC g12 (k := 2) rfl (fun h => absurd h (by rw [h1.asks h0]; decide)) fun _ H13 g13 => ?_
  have g13 : St H [Prt.row 2 bP bL bC (cel idC bur), Prt.row 5 tP (bk c.a0 w m).1.length tC (cel It.cells (bk c.a0 w m).1), TrP tb c (t.told c.a14 c.a15 1099511627776), Prt.one bc (.cells #[.int .i64 c.a0, .int .i64 c.a1, .int .i64 c.a2, .int .i64 c.a3, .int .i64 c.a4, .int .i64 c.a5, .int .i64 c.a6, .int .i64 c.a7, .int .i64 c.a8, .int .i64 c.a9, .int .i64 c.a10, .int .u64 c.a11, .int .u64 c.a12, .int .u64 c.a13, .int .u64 c.a14, .int .u64 c.a15, .int .u64 c.a16, .int .i64 c.a17, .int .i64 c.a18, .int .i64 c.a19, .int .u64 c.a20, .int .u64 c.a21] ty_api_Config (0, 0)), Prt.one bw (.cells #[.slice ip il ic, .slice op ol oc, .slice lp ll lc, .slice gp gl gc] ty_law23_Web (0, 0)), Prt.one br (.cells #[.int .i64 r.a0, .int .i64 r.a1, .int .i64 r.a2, .int .i64 r.a3, .int .i64 r.a4, .int .i64 r.a5, .int .i64 r.a6, .int .i64 r.a7, .int .i64 r.a8, .int .i64 r.a9, .int .i64 r.a10, .int .i64 r.a11, .int .i64 r.a12, .int .i64 r.a13, .int .i64 r.a14, .int .i64 r.a15, .int .i64 r.a16, .int .i64 r.a17, .int .i64 r.a18, .int .i64 r.a19, .int .u64 r.a20, .int .u64 r.a21] ty_hand_Raw (0, 0))] H13 := g13
  obtain ⟨q, hq⟩ : ∃ q, q = t.q := ⟨_, rfl⟩
  rw [← hq] at q1 q2 q3 q4 n1 n2 f1 f2 ⊢
  unfold Qn.val
  (try simp only [asI_mk', asB_mk, asP_mk, asA_mk, asM_mk, asSl_mk, asStr_mk, tup2_mk, tup3_mk, agg1_mk, agg2_mk, agg3_mk, agg4_mk, asAggm, unCons_mk, unNil_mk, asTup_mk, extractD0, extractD1, List.toList_toArray, nilP_mk, add_mk, Nat.zero_add, Nat.add_zero, condT, condF, Bool.not_true, Bool.not_false, Option.isNone_some, Option.isNone_none])
  refine boxz (c := [.int .i64 0, .int .i64 0, .int .i64 0, .int .u64 0, .int .u64 0, .int .i64 0, .int .i64 0, .int .i64 0, .int .i64 0, .int .u64 0, .slice none 0 0, .int .u64 0, .int .i64 0, .int .u64 0, .int .i64 0, .int .u64 0, .int .i64 0, .int .u64 0, .slice none 0 0]) (vs := q.cells) g13 rfl fun bq H14 g14 => ?_
  have g14 : St H [Prt.one bq (.cells q.cells.toArray ty_api_Msg (0, 0)), Prt.row 2 bP bL bC (cel idC bur), Prt.row 5 tP (bk c.a0 w m).1.length tC (cel It.cells (bk c.a0 w m).1), TrP tb c (t.told c.a14 c.a15 1099511627776), Prt.one bc (.cells #[.int .i64 c.a0, .int .i64 c.a1, .int .i64 c.a2, .int .i64 c.a3, .int .i64 c.a4, .int .i64 c.a5, .int .i64 c.a6, .int .i64 c.a7, .int .i64 c.a8, .int .i64 c.a9, .int .i64 c.a10, .int .u64 c.a11, .int .u64 c.a12, .int .u64 c.a13, .int .u64 c.a14, .int .u64 c.a15, .int .u64 c.a16, .int .i64 c.a17, .int .i64 c.a18, .int .i64 c.a19, .int .u64 c.a20, .int .u64 c.a21] ty_api_Config (0, 0)), Prt.one bw (.cells #[.slice ip il ic, .slice op ol oc, .slice lp ll lc, .slice gp gl gc] ty_law23_Web (0, 0)), Prt.one br (.cells #[.int .i64 r.a0, .int .i64 r.a1, .int .i64 r.a2, .int .i64 r.a3, .int .i64 r.a4, .int .i64 r.a5, .int .i64 r.a6, .int .i64 r.a7, .int .i64 r.a8, .int .i64 r.a9, .int .i64 r.a10, .int .i64 r.a11, .int .i64 r.a12, .int .i64 r.a13, .int .i64 r.a14, .int .i64 r.a15, .int .i64 r.a16, .int .i64 r.a17, .int .i64 r.a18, .int .i64 r.a19, .int .u64 r.a20, .int .u64 r.a21] ty_hand_Raw (0, 0))] H14 := g14
  clear g13 g12
  intro R394 hR394
  have hQ394 : ∀ p n cap H', n = (if q.kind = 10 then bur ++ [q.tgt] else bur).length → St H [Prt.one bq (.cells q.cells.toArray ty_api_Msg (0, 0)), Prt.row 2 p n cap (cel idC (if q.kind = 10 then bur ++ [q.tgt] else bur)), Prt.row 5 tP (bk c.a0 w m).1.length tC (cel It.cells (bk c.a0 w m).1), TrP tb c (t.told c.a14 c.a15 1099511627776), Prt.one bc (.cells #[.int .i64 c.a0, .int .i64 c.a1, .int .i64 c.a2, .int .i64 c.a3, .int .i64 c.a4, .int .i64 c.a5, .int .i64 c.a6, .int .i64 c.a7, .int .i64 c.a8, .int .i64 c.a9, .int .i64 c.a10, .int .u64 c.a11, .int .u64 c.a12, .int .u64 c.a13, .int .u64 c.a14, .int .u64 c.a15, .int .u64 c.a16, .int .i64 c.a17, .int .i64 c.a18, .int .i64 c.a19, .int .u64 c.a20, .int .u64 c.a21] ty_api_Config (0, 0)), Prt.one bw (.cells #[.slice ip il ic, .slice op ol oc, .slice lp ll lc, .slice gp gl gc] ty_law23_Web (0, 0)), Prt.one br (.cells #[.int .i64 r.a0, .int .i64 r.a1, .int .i64 r.a2, .int .i64 r.a3, .int .i64 r.a4, .int .i64 r.a5, .int .i64 r.a6, .int .i64 r.a7, .int .i64 r.a8, .int .i64 r.a9, .int .i64 r.a10, .int .i64 r.a11, .int .i64 r.a12, .int .i64 r.a13, .int .i64 r.a14, .int .i64 r.a15, .int .i64 r.a16, .int .i64 r.a17, .int .i64 r.a18, .int .i64 r.a19, .int .u64 r.a20, .int .u64 r.a21] ty_hand_Raw (0, 0))] H' → R394 p n cap H' := fun p n cap H' hn g => by
    refine hR394 p n cap H' ?_
    clear hR394 g14
    refine ldSl_of (g.cell (i := 5) rfl rfl) (ldSl_of (g.cell (i := 5) rfl rfl) (ldSl_of (g.cell (i := 5) rfl rfl) (ldSl_of (g.cell (i := 5) rfl rfl) ?_)))
    refine ldI_of (g.cell (i := 4) rfl rfl) (ldI_of (g.cell (i := 4) rfl rfl) (ldI_of (g.cell (i := 4) rfl rfl) (ldI_of (g.cell (i := 4) rfl rfl) (ldI_of (g.cell (i := 4) rfl rfl) (ldI_of (g.cell (i := 4) rfl rfl) (ldI_of (g.cell (i := 4) rfl rfl) (ldI_of (g.cell (i := 4) rfl rfl) (ldI_of (g.cell (i := 4) rfl rfl) (ldI_of (g.cell (i := 4) rfl rfl) (ldI_of (g.cell (i := 4) rfl rfl) (ldI_of (g.cell (i := 4) rfl rfl) (ldI_of (g.cell (i := 4) rfl rfl) (ldI_of (g.cell (i := 4) rfl rfl) (ldI_of (g.cell (i := 4) rfl rfl) (ldI_of (g.cell (i := 4) rfl rfl) (ldI_of (g.cell (i := 4) rfl rfl) (ldI_of (g.cell (i := 4) rfl rfl) (ldI_of (g.cell (i := 4) rfl rfl) (ldI_of (g.cell (i := 4) rfl rfl) (ldI_of (g.cell (i := 4) rfl rfl) (ldI_of (g.cell (i := 4) rfl rfl) (?_))))))))))))))))))))))
    refine ldI_of (g.cell (i := 0) rfl rfl) (ldI_of (g.cell (i := 0) rfl rfl) (ldI_of (g.cell (i := 0) rfl rfl) (ldI_of (g.cell (i := 0) rfl rfl) (ldI_of (g.cell (i := 0) rfl rfl) (ldI_of (g.cell (i := 0) rfl rfl) (ldI_of (g.cell (i := 0) rfl rfl) (ldI_of (g.cell (i := 0) rfl rfl) (ldI_of (g.cell (i := 0) rfl rfl) (ldI_of (g.cell (i := 0) rfl rfl) (ldSl_of (g.cell (i := 0) rfl rfl) (ldI_of (g.cell (i := 0) rfl rfl) (ldI_of (g.cell (i := 0) rfl rfl) (ldI_of (g.cell (i := 0) rfl rfl) (ldI_of (g.cell (i := 0) rfl rfl) (ldI_of (g.cell (i := 0) rfl rfl) (ldI_of (g.cell (i := 0) rfl rfl) (ldI_of (g.cell (i := 0) rfl rfl) (ldSl_of (g.cell (i := 0) rfl rfl) (?_)))))))))))))))))))
    refine answerC (q := q) hw hg q1 q2 g fun lp' ln' lc' H15 g15 => ?_
    obtain ⟨a, hae⟩ : ∃ a, a = mgOf (ansW w c.a0 q) lp' ln' lc' := ⟨_, rfl⟩
    have ham : a.m = ansW w c.a0 q := by rw [hae]; rfl
    have hal : a.lp = lp' ∧ a.ll = ln' := by rw [hae]; exact ⟨rfl, rfl⟩
    rw [← hae]
    unfold Mg.val
    (try simp only [asI_mk', asB_mk, asP_mk, asA_mk, asM_mk, asSl_mk, asStr_mk, tup2_mk, tup3_mk, agg1_mk, agg2_mk, agg3_mk, agg4_mk, asAggm, unCons_mk, unNil_mk, asTup_mk, extractD0, extractD1, List.toList_toArray, nilP_mk, add_mk, Nat.zero_add, Nat.add_zero, condT, condF, Bool.not_true, Bool.not_false, Option.isNone_some, Option.isNone_none])
    have hrow : ∀ H', Rd H' 1 lp' ln' ((ansW w c.a0 q).list.map (Value.int .u64)) → ln' = (ansW w c.a0 q).list.length := fun H' h => by simpa using h.1.symm
    have hln := hrow H15 (g15.row_rd (i := 0) rfl)
    have hll : (ansW w c.a0 q).list.length ≤ 4 := ans_few
    refine trHearG (m := a.m) (t := t.told c.a14 c.a15 1099511627776) g15 (k := 4) rfl hn12 (fun _ _ => ⟨?_, ?_, ?_, fun N M H' hot h' => ?_⟩) fun H5 g5 => ?_
    · rw [hal.2, ham]; exact hln
    · rw [hal.2, hln]; omega
    · rw [ham]; exact ans_list
    · rw [hal.1, hal.2, ham]
      exact (St.lesses (M := N) h').row_rd (hot 0 _ rfl (by decide))
    have e2 : (t.told c.a14 c.a15 1099511627776).heeds a.m = true := by rw [ham]; exact n1
    rw [ham, told_hear n1] at g5
    rw [e2]
    (try simp only [asI_mk', asB_mk, asP_mk, asA_mk, asM_mk, asSl_mk, asStr_mk, tup2_mk, tup3_mk, agg1_mk, agg2_mk, agg3_mk, agg4_mk, asAggm, unCons_mk, unNil_mk, asTup_mk, extractD0, extractD1, List.toList_toArray, nilP_mk, add_mk, Nat.zero_add, Nat.add_zero, condT, condF, Bool.not_true, Bool.not_false, Option.isNone_some, Option.isNone_none])
    have g5 : St H [Prt.row 1 lp' ln' lc' ((ansW w c.a0 q).list.map (Value.int .u64)), Prt.one bq (.cells q.cells.toArray ty_api_Msg (0, 0)), Prt.row 2 p n cap (cel idC (if q.kind = 10 then bur ++ [q.tgt] else bur)), Prt.row 5 tP (bk c.a0 w m).1.length tC (cel It.cells (bk c.a0 w m).1), TrP tb c (t.hear c.a0 (ansW w c.a0 q)), Prt.one bc (.cells #[.int .i64 c.a0, .int .i64 c.a1, .int .i64 c.a2, .int .i64 c.a3, .int .i64 c.a4, .int .i64 c.a5, .int .i64 c.a6, .int .i64 c.a7, .int .i64 c.a8, .int .i64 c.a9, .int .i64 c.a10, .int .u64 c.a11, .int .u64 c.a12, .int .u64 c.a13, .int .u64 c.a14, .int .u64 c.a15, .int .u64 c.a16, .int .i64 c.a17, .int .i64 c.a18, .int .i64 c.a19, .int .u64 c.a20, .int .u64 c.a21] ty_api_Config (0, 0)), Prt.one bw (.cells #[.slice ip il ic, .slice op ol oc, .slice lp ll lc, .slice gp gl gc] ty_law23_Web (0, 0)), Prt.one br (.cells #[.int .i64 r.a0, .int .i64 r.a1, .int .i64 r.a2, .int .i64 r.a3, .int .i64 r.a4, .int .i64 r.a5, .int .i64 r.a6, .int .i64 r.a7, .int .i64 r.a8, .int .i64 r.a9, .int .i64 r.a10, .int .i64 r.a11, .int .i64 r.a12, .int .i64 r.a13, .int .i64 r.a14, .int .i64 r.a15, .int .i64 r.a16, .int .i64 r.a17, .int .i64 r.a18, .int .i64 r.a19, .int .u64 r.a20, .int .u64 r.a21] ty_hand_Raw (0, 0))] H5 := g5
    have g6 := St.lesses (M := [_, _]) g5
    rw [wrap_i64 (by omega) (by omega)]
    refine ⟨⟨j + 1, _, _, by omega, f1, ?_, hn, g6⟩, by (try dsimp only); omega⟩
    split
    · rw [List.length_append, List.length_singleton]; omega
    · omega
  clear hR394
  refine ldI_of (g14.cell (i := 0) rfl rfl) ?_
  by_cases k1 : q.kind = 10
  rotate_left
  · refine bif_ne k1 (hQ394 bP bL bC H14 (by rw [if_neg k1]; exact hbL) ?_)
    rw [if_neg k1]
    exact g14
  refine bif_eq k1 (ldI_of (g14.cell (i := 0) rfl rfl) (ldI_of (g14.cell (i := 0) rfl rfl) ?_))
  have hlt := h1.lt (by omega) h0
  refine pushId (i := 1) (y := q.tgt) g14 rfl hbL (by omega) fun p' cap' H15 g15 => ?_
  (try simp only [asI_mk', asB_mk, asP_mk, asA_mk, asM_mk, asSl_mk, asStr_mk, tup2_mk, tup3_mk, agg1_mk, agg2_mk, agg3_mk, agg4_mk, asAggm, unCons_mk, unNil_mk, asTup_mk, extractD0, extractD1, List.toList_toArray, nilP_mk, add_mk, Nat.zero_add, Nat.add_zero, condT, condF, Bool.not_true, Bool.not_false, Option.isNone_some, Option.isNone_none])
  refine ldI_of (g15.cell (i := 0) rfl rfl) (ldI_of (g15.cell (i := 0) rfl rfl) ?_)
  rw [wrap_i64 (n := 10 + q.to) (by omega) (by omega), wrap_u64' (n := 10 + q.to) (by omega) (by omega)]
  refine bif_neqf (f2 k1) (hQ394 p' _ cap' H15 (by rw [if_pos k1]) ?_)
  rw [if_pos k1]
  exact g15
theorem TraceFinds_ok {x : E_hand_Raw} {w : Web} {ip op lp gp : Option Addr} {il ic ol oc ll lc gl gc : Nat} {H : Hp} {K : Value → Hp → Prop} (hx : x.ok) (hw : WebA H ip il op ol lp ll gp gl w)
    (hK : ∀ H', Keep Nothing H H' → K (.bool true) H') : hcall PR f_law23_TraceFinds ⟨[.agg x.cells.toArray, .agg #[.slice ip il ic, .slice op ol oc, .slice lp ll lc, .slice gp gl gc]]⟩ H K :=
  TraceFinds_r (r := rawOf x) hx.Start.1 hx.Last.1 hw hK

end Go.Proofs.Ytknejebggegfjaa
