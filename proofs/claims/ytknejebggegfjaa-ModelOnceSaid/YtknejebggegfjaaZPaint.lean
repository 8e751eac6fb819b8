/- Merged by merge.py: DenApi. No condition. -/
import Derived.Test.YtknejebggegfjaaZNum

namespace Go.Proofs.Ytknejebggegfjaa
open Go
set_option linter.unusedVariables false
set_option maxRecDepth 100000
def B_api_May (cNodes1 : Int) (cMutators2 : Int) (cSlots3 : Int) (cCells4 : Int) (cObjects5 : Int) (cStubs6 : Int) (cCalls7 : Int) (cWindow8 : Int) (cGrey9 : Int) (cBag10 : Int) (cInbox11 : Int) (cUnit12 : Int) (cDrift13 : Int) (cLease14 : Int) (cWait15 : Int) (cMost16 : Int) (cPatience17 : Int) (cSuspect18 : Int) (cTrace19 : Int) (cWork20 : Int) (cStart21 : Int) (cLast22 : Int) (H : Hp) (K : Value → Hp → Prop) : Prop :=
 newB (.cells #[(.int .i64 cNodes1), (.int .i64 cMutators2), (.int .i64 cSlots3), (.int .i64 cCells4), (.int .i64 cObjects5), (.int .i64 cStubs6), (.int .i64 cCalls7), (.int .i64 cWindow8), (.int .i64 cGrey9), (.int .i64 cBag10), (.int .i64 cInbox11), (.int .u64 cUnit12), (.int .u64 cDrift13), (.int .u64 cLease14), (.int .u64 cWait15), (.int .u64 cMost16), (.int .u64 cPatience17), (.int .i64 cSuspect18), (.int .i64 cTrace19), (.int .i64 cWork20), (.int .u64 cStart21), (.int .u64 cLast22)] ty_api_Config) H fun b23 Hx24 =>
 ∀ R25 : Bool → Hp → Prop, (∀ a27 : Bool, ∀ Hx26 : Hp, (
 ∀ R28 : Bool → Hp → Prop, (∀ b30 : Bool, ∀ Hx29 : Hp, (
 ∀ R31 : Bool → Hp → Prop, (∀ d33 : Bool, ∀ Hx32 : Hp, (
 ∀ R34 : Bool → Hp → Prop, (∀ e36 : Bool, ∀ Hx35 : Hp, (
 (bif a27 then
 (bif b30 then
 (bif d33 then
 (bif e36 then
 ldI .i64 ⟨b23, 17, none⟩ Hx35 fun Suspect37 =>
 hcall PR f_api_in ⟨[(.int .i64 Suspect37), (.int .i64 38)]⟩ Hx35 fun v38 Hx39 =>
 asB v38 fun t40 =>
 (bif t40 then
 ldI .i64 ⟨b23, 18, none⟩ Hx39 fun Trace41 =>
 ldI .i64 ⟨b23, 17, none⟩ Hx39 fun Suspect42 =>
 (bif (decide ((Trace41 : Int) > Suspect42)) then
 ldI .i64 ⟨b23, 18, none⟩ Hx39 fun Trace43 =>
 (bif (decide ((Trace43 : Int) < 40)) then
 ldI .i64 ⟨b23, 19, none⟩ Hx39 fun Work44 =>
 hcall PR f_api_in ⟨[(.int .i64 Work44), (.int .i64 64)]⟩ Hx39 fun v45 Hx46 =>
 asB v45 fun t47 =>
 (bif t47 then
 ldI .u64 ⟨b23, 20, none⟩ Hx46 fun Start48 =>
 (bif (decide ((Start48 : Int) ≤ 4611686018427387904)) then
 ldI .u64 ⟨b23, 21, none⟩ Hx46 fun Last49 =>
 K (.bool (decide ((Last49 : Int) ≤ 72057594037927935))) Hx46
else
 K (.bool false) Hx46)
else
 K (.bool false) Hx46)
else
 K (.bool false) Hx39)
else
 K (.bool false) Hx39)
else
 K (.bool false) Hx39)
else
 K (.bool false) Hx35)
else
 K (.bool false) Hx35)
else
 K (.bool false) Hx35)
else
 K (.bool false) Hx35)) → R34 e36 Hx35) →
 ldI .u64 ⟨b23, 14, none⟩ Hx32 fun Wait50 =>
 (bif (decide ((Wait50 : Int) ≥ 1)) then
 ldI .u64 ⟨b23, 14, none⟩ Hx32 fun Wait51 =>
 ldI .u64 ⟨b23, 15, none⟩ Hx32 fun Most52 =>
 (bif (decide ((Wait51 : Int) ≤ Most52)) then
 ldI .u64 ⟨b23, 15, none⟩ Hx32 fun Most53 =>
 (bif (decide ((Most53 : Int) ≤ 4294967295)) then
 ldI .u64 ⟨b23, 16, none⟩ Hx32 fun Patience54 =>
 (bif (decide ((Patience54 : Int) ≥ 1)) then
 ldI .u64 ⟨b23, 16, none⟩ Hx32 fun Patience55 =>
 R34 (decide ((Patience55 : Int) ≤ 4294967295)) Hx32
else
 R34 false Hx32)
else
 R34 false Hx32)
else
 R34 false Hx32)
else
 R34 false Hx32)) → R31 d33 Hx32) →
 ldI .u64 ⟨b23, 11, none⟩ Hx29 fun Unit56 =>
 (bif (decide ((Unit56 : Int) ≥ 1)) then
 ldI .u64 ⟨b23, 11, none⟩ Hx29 fun Unit57 =>
 (bif (decide ((Unit57 : Int) ≤ 1048576)) then
 ldI .u64 ⟨b23, 12, none⟩ Hx29 fun Drift58 =>
 ldI .u64 ⟨b23, 11, none⟩ Hx29 fun Unit59 =>
 (bif (decide ((Drift58 : Int) < Unit59)) then
 ldI .u64 ⟨b23, 13, none⟩ Hx29 fun Lease60 =>
 (bif (decide ((Lease60 : Int) ≤ 4294967295)) then
 ldI .u64 ⟨b23, 13, none⟩ Hx29 fun Lease61 =>
 ldI .u64 ⟨b23, 11, none⟩ Hx29 fun Unit62 =>
 ldI .u64 ⟨b23, 12, none⟩ Hx29 fun Drift63 =>
 ldI .u64 ⟨b23, 11, none⟩ Hx29 fun Unit64 =>
 ldI .u64 ⟨b23, 12, none⟩ Hx29 fun Drift65 =>
 R31 (decide (((IntKind.u64.wrap (Lease61 * (IntKind.u64.wrap (Unit62 - Drift63)))) : Int) ≥ (IntKind.u64.wrap (8 * (IntKind.u64.wrap (Unit64 + Drift65)))))) Hx29
else
 R31 false Hx29)
else
 R31 false Hx29)
else
 R31 false Hx29)
else
 R31 false Hx29)) → R28 b30 Hx29) →
 ldI .i64 ⟨b23, 4, none⟩ Hx26 fun Objects66 =>
 hcall PR f_api_in ⟨[(.int .i64 Objects66), (.int .i64 64)]⟩ Hx26 fun v67 Hx68 =>
 asB v67 fun t69 =>
 (bif t69 then
 ldI .i64 ⟨b23, 5, none⟩ Hx68 fun Stubs70 =>
 hcall PR f_api_in ⟨[(.int .i64 Stubs70), (.int .i64 64)]⟩ Hx68 fun v71 Hx72 =>
 asB v71 fun t73 =>
 (bif t73 then
 ldI .i64 ⟨b23, 6, none⟩ Hx72 fun Calls74 =>
 hcall PR f_api_in ⟨[(.int .i64 Calls74), (.int .i64 16)]⟩ Hx72 fun v75 Hx76 =>
 asB v75 fun t77 =>
 (bif t77 then
 ldI .i64 ⟨b23, 7, none⟩ Hx76 fun Window78 =>
 hcall PR f_api_in ⟨[(.int .i64 Window78), (.int .i64 8)]⟩ Hx76 fun v79 Hx80 =>
 asB v79 fun t81 =>
 (bif t81 then
 ldI .i64 ⟨b23, 8, none⟩ Hx80 fun Grey82 =>
 hcall PR f_api_in ⟨[(.int .i64 Grey82), (.int .i64 64)]⟩ Hx80 fun v83 Hx84 =>
 asB v83 fun t85 =>
 (bif t85 then
 ldI .i64 ⟨b23, 9, none⟩ Hx84 fun Bag86 =>
 hcall PR f_api_in ⟨[(.int .i64 Bag86), (.int .i64 256)]⟩ Hx84 fun v87 Hx88 =>
 asB v87 fun t89 =>
 (bif t89 then
 ldI .i64 ⟨b23, 10, none⟩ Hx88 fun Inbox90 =>
 hcall PR f_api_in ⟨[(.int .i64 Inbox90), (.int .i64 16)]⟩ Hx88 fun v91 Hx92 =>
 asB v91 fun t93 =>
 R28 t93 Hx92
else
 R28 false Hx88)
else
 R28 false Hx84)
else
 R28 false Hx80)
else
 R28 false Hx76)
else
 R28 false Hx72)
else
 R28 false Hx68)) → R25 a27 Hx26) →
 ldI .i64 ⟨b23, 0, none⟩ Hx24 fun Nodes94 =>
 hcall PR f_api_in ⟨[(.int .i64 Nodes94), (.int .i64 64)]⟩ Hx24 fun v95 Hx96 =>
 asB v95 fun t97 =>
 (bif t97 then
 ldI .i64 ⟨b23, 1, none⟩ Hx96 fun Mutators98 =>
 hcall PR f_api_in ⟨[(.int .i64 Mutators98), (.int .i64 4)]⟩ Hx96 fun v99 Hx100 =>
 asB v99 fun t101 =>
 (bif t101 then
 ldI .i64 ⟨b23, 2, none⟩ Hx100 fun Slots102 =>
 hcall PR f_api_in ⟨[(.int .i64 Slots102), (.int .i64 8)]⟩ Hx100 fun v103 Hx104 =>
 asB v103 fun t105 =>
 (bif t105 then
 ldI .i64 ⟨b23, 3, none⟩ Hx104 fun Cells106 =>
 hcall PR f_api_in ⟨[(.int .i64 Cells106), (.int .i64 4096)]⟩ Hx104 fun v107 Hx108 =>
 asB v107 fun t109 =>
 (bif t109 then
 ldI .i64 ⟨b23, 3, none⟩ Hx108 fun Cells110 =>
 (16 : Int) ≠ 0 ∧
 R25 (((Int.tmod Cells110 16) : Int) == 0) Hx108
else
 R25 false Hx108)
else
 R25 false Hx104)
else
 R25 false Hx100)
else
 R25 false Hx96)
theorem E_api_May (cNodes1 : Int) (cMutators2 : Int) (cSlots3 : Int) (cCells4 : Int) (cObjects5 : Int) (cStubs6 : Int) (cCalls7 : Int) (cWindow8 : Int) (cGrey9 : Int) (cBag10 : Int) (cInbox11 : Int) (cUnit12 : Int) (cDrift13 : Int) (cLease14 : Int) (cWait15 : Int) (cMost16 : Int) (cPatience17 : Int) (cSuspect18 : Int) (cTrace19 : Int) (cWork20 : Int) (cStart21 : Int) (cLast22 : Int) (H : Hp) (K : Value → Hp → Prop) : B_api_May cNodes1 cMutators2 cSlots3 cCells4 cObjects5 cStubs6 cCalls7 cWindow8 cGrey9 cBag10 cInbox11 cUnit12 cDrift13 cLease14 cWait15 cMost16 cPatience17 cSuspect18 cTrace19 cWork20 cStart21 cLast22 H K = denF Try.prog Try.f47 (.seq none .n (.seq (some ⟨[(3, .bool)], [1]⟩) .n (.seq (some ⟨[(4, .bool)], [1, 3]⟩) .n (.seq (some ⟨[(5, .bool)], [1, 3, 4]⟩) .n (.seq (some ⟨[(6, .bool)], [1, 3, 4, 5]⟩) .n .n))))) [(.agg #[(.int .i64 cNodes1), (.int .i64 cMutators2), (.int .i64 cSlots3), (.int .i64 cCells4), (.int .i64 cObjects5), (.int .i64 cStubs6), (.int .i64 cCalls7), (.int .i64 cWindow8), (.int .i64 cGrey9), (.int .i64 cBag10), (.int .i64 cInbox11), (.int .u64 cUnit12), (.int .u64 cDrift13), (.int .u64 cLease14), (.int .u64 cWait15), (.int .u64 cMost16), (.int .u64 cPatience17), (.int .i64 cSuspect18), (.int .i64 cTrace19), (.int .i64 cWork20), (.int .u64 cStart21), (.int .u64 cLast22)])] H K := by kernel_rfl
theorem den_api_May {cNodes1 : Int} {cMutators2 : Int} {cSlots3 : Int} {cCells4 : Int} {cObjects5 : Int} {cStubs6 : Int} {cCalls7 : Int} {cWindow8 : Int} {cGrey9 : Int} {cBag10 : Int} {cInbox11 : Int} {cUnit12 : Int} {cDrift13 : Int} {cLease14 : Int} {cWait15 : Int} {cMost16 : Int} {cPatience17 : Int} {cSuspect18 : Int} {cTrace19 : Int} {cWork20 : Int} {cStart21 : Int} {cLast22 : Int} {H : Hp} {K : Value → Hp → Prop} (h : B_api_May cNodes1 cMutators2 cSlots3 cCells4 cObjects5 cStubs6 cCalls7 cWindow8 cGrey9 cBag10 cInbox11 cUnit12 cDrift13 cLease14 cWait15 cMost16 cPatience17 cSuspect18 cTrace19 cWork20 cStart21 cLast22 H K) : hcall PR f_api_May ⟨[(.agg #[(.int .i64 cNodes1), (.int .i64 cMutators2), (.int .i64 cSlots3), (.int .i64 cCells4), (.int .i64 cObjects5), (.int .i64 cStubs6), (.int .i64 cCalls7), (.int .i64 cWindow8), (.int .i64 cGrey9), (.int .i64 cBag10), (.int .i64 cInbox11), (.int .u64 cUnit12), (.int .u64 cDrift13), (.int .u64 cLease14), (.int .u64 cWait15), (.int .u64 cMost16), (.int .u64 cPatience17), (.int .i64 cSuspect18), (.int .i64 cTrace19), (.int .i64 cWork20), (.int .u64 cStart21), (.int .u64 cLast22)])]⟩ H K := denF_call Try.func47 PR_mixed (Eq.mp (E_api_May cNodes1 cMutators2 cSlots3 cCells4 cObjects5 cStubs6 cCalls7 cWindow8 cGrey9 cBag10 cInbox11 cUnit12 cDrift13 cLease14 cWait15 cMost16 cPatience17 cSuspect18 cTrace19 cWork20 cStart21 cLast22 H K) h)

def B_api_in (n1 : Int) (most2 : Int) (H : Hp) (K : Value → Hp → Prop) : Prop :=
 (bif (decide ((n1 : Int) ≥ 1)) then
 K (.bool (decide ((n1 : Int) ≤ most2))) H
else
 K (.bool false) H)
theorem E_api_in (n1 : Int) (most2 : Int) (H : Hp) (K : Value → Hp → Prop) : B_api_in n1 most2 H K = denF Try.prog Try.f80 .n [(.int .i64 n1), (.int .i64 most2)] H K := by kernel_rfl
theorem den_api_in {n1 : Int} {most2 : Int} {H : Hp} {K : Value → Hp → Prop} (h : B_api_in n1 most2 H K) : hcall PR f_api_in ⟨[(.int .i64 n1), (.int .i64 most2)]⟩ H K := denF_call Try.func80 PR_mixed (Eq.mp (E_api_in n1 most2 H K) h)

end Go.Proofs.Ytknejebggegfjaa
