/- Merged by merge.py: DenRef22, DenLaw22, Wit, DenRef3, TrR, TrR2, TrR3, TrR4, TrR5. No condition. -/
import Derived.Test.YtknejebggegfjaaZNum
import Derived.Test.YtknejebggegfjaaZTraceb
import Derived.Test.YtknejebggegfjaaZBase

namespace Go.Proofs.Ytknejebggegfjaa
open Go
set_option linter.unusedVariables false
set_option maxRecDepth 100000
def B_ref22_New (cNodes1 : Int) (cMutators2 : Int) (cSlots3 : Int) (cCells4 : Int) (cObjects5 : Int) (cStubs6 : Int) (cCalls7 : Int) (cWindow8 : Int) (cGrey9 : Int) (cBag10 : Int) (cInbox11 : Int) (cUnit12 : Int) (cDrift13 : Int) (cLease14 : Int) (cWait15 : Int) (cMost16 : Int) (cPatience17 : Int) (cSuspect18 : Int) (cTrace19 : Int) (cWork20 : Int) (cStart21 : Int) (cLast22 : Int) (node23 : Int) (last24 : Int) (H : Hp) (K : Value → Hp → Prop) : Prop :=
 newB (.cells #[(.int .i64 cNodes1), (.int .i64 cMutators2), (.int .i64 cSlots3), (.int .i64 cCells4), (.int .i64 cObjects5), (.int .i64 cStubs6), (.int .i64 cCalls7), (.int .i64 cWindow8), (.int .i64 cGrey9), (.int .i64 cBag10), (.int .i64 cInbox11), (.int .u64 cUnit12), (.int .u64 cDrift13), (.int .u64 cLease14), (.int .u64 cWait15), (.int .u64 cMost16), (.int .u64 cPatience17), (.int .i64 cSuspect18), (.int .i64 cTrace19), (.int .i64 cWork20), (.int .u64 cStart21), (.int .u64 cLast22)] ty_api_Config) H fun b25 Hx26 =>
 ldI .i64 ⟨b25, 0, none⟩ Hx26 fun Nodes27 =>
 ldI .i64 ⟨b25, 1, none⟩ Hx26 fun Mutators28 =>
 ldI .i64 ⟨b25, 2, none⟩ Hx26 fun Slots29 =>
 ldI .i64 ⟨b25, 3, none⟩ Hx26 fun Cells30 =>
 ldI .i64 ⟨b25, 4, none⟩ Hx26 fun Objects31 =>
 ldI .i64 ⟨b25, 5, none⟩ Hx26 fun Stubs32 =>
 ldI .i64 ⟨b25, 6, none⟩ Hx26 fun Calls33 =>
 ldI .i64 ⟨b25, 7, none⟩ Hx26 fun Window34 =>
 ldI .i64 ⟨b25, 8, none⟩ Hx26 fun Grey35 =>
 ldI .i64 ⟨b25, 9, none⟩ Hx26 fun Bag36 =>
 ldI .i64 ⟨b25, 10, none⟩ Hx26 fun Inbox37 =>
 ldI .u64 ⟨b25, 11, none⟩ Hx26 fun Unit38 =>
 ldI .u64 ⟨b25, 12, none⟩ Hx26 fun Drift39 =>
 ldI .u64 ⟨b25, 13, none⟩ Hx26 fun Lease40 =>
 ldI .u64 ⟨b25, 14, none⟩ Hx26 fun Wait41 =>
 ldI .u64 ⟨b25, 15, none⟩ Hx26 fun Most42 =>
 ldI .u64 ⟨b25, 16, none⟩ Hx26 fun Patience43 =>
 ldI .i64 ⟨b25, 17, none⟩ Hx26 fun Suspect44 =>
 ldI .i64 ⟨b25, 18, none⟩ Hx26 fun Trace45 =>
 ldI .i64 ⟨b25, 19, none⟩ Hx26 fun Work46 =>
 ldI .u64 ⟨b25, 20, none⟩ Hx26 fun Start47 =>
 ldI .u64 ⟨b25, 21, none⟩ Hx26 fun Last48 =>
 hcall PR f_api_May ⟨[(.agg #[(.int .i64 Nodes27), (.int .i64 Mutators28), (.int .i64 Slots29), (.int .i64 Cells30), (.int .i64 Objects31), (.int .i64 Stubs32), (.int .i64 Calls33), (.int .i64 Window34), (.int .i64 Grey35), (.int .i64 Bag36), (.int .i64 Inbox37), (.int .u64 Unit38), (.int .u64 Drift39), (.int .u64 Lease40), (.int .u64 Wait41), (.int .u64 Most42), (.int .u64 Patience43), (.int .i64 Suspect44), (.int .i64 Trace45), (.int .i64 Work46), (.int .u64 Start47), (.int .u64 Last48)])]⟩ Hx26 fun v49 Hx50 =>
 asB v49 fun t51 =>
 (bif (!t51) then
 K (.pointer none) Hx50
else
 (bif (decide ((node23 : Int) < 1)) then
 K (.pointer none) Hx50
else
 ldI .i64 ⟨b25, 0, none⟩ Hx50 fun Nodes52 =>
 (bif (decide ((node23 : Int) > Nodes52)) then
 K (.pointer none) Hx50
else
 (bif (decide ((last24 : Int) > 72057594037927935)) then
 K (.pointer none) Hx50
else
 ldI .i64 ⟨b25, 0, none⟩ Hx50 fun Nodes53 =>
 ldI .i64 ⟨b25, 1, none⟩ Hx50 fun Mutators54 =>
 ldI .i64 ⟨b25, 2, none⟩ Hx50 fun Slots55 =>
 ldI .i64 ⟨b25, 3, none⟩ Hx50 fun Cells56 =>
 ldI .i64 ⟨b25, 4, none⟩ Hx50 fun Objects57 =>
 ldI .i64 ⟨b25, 5, none⟩ Hx50 fun Stubs58 =>
 ldI .i64 ⟨b25, 6, none⟩ Hx50 fun Calls59 =>
 ldI .i64 ⟨b25, 7, none⟩ Hx50 fun Window60 =>
 ldI .i64 ⟨b25, 8, none⟩ Hx50 fun Grey61 =>
 ldI .i64 ⟨b25, 9, none⟩ Hx50 fun Bag62 =>
 ldI .i64 ⟨b25, 10, none⟩ Hx50 fun Inbox63 =>
 ldI .u64 ⟨b25, 11, none⟩ Hx50 fun Unit64 =>
 ldI .u64 ⟨b25, 12, none⟩ Hx50 fun Drift65 =>
 ldI .u64 ⟨b25, 13, none⟩ Hx50 fun Lease66 =>
 ldI .u64 ⟨b25, 14, none⟩ Hx50 fun Wait67 =>
 ldI .u64 ⟨b25, 15, none⟩ Hx50 fun Most68 =>
 ldI .u64 ⟨b25, 16, none⟩ Hx50 fun Patience69 =>
 ldI .i64 ⟨b25, 17, none⟩ Hx50 fun Suspect70 =>
 ldI .i64 ⟨b25, 18, none⟩ Hx50 fun Trace71 =>
 ldI .i64 ⟨b25, 19, none⟩ Hx50 fun Work72 =>
 ldI .u64 ⟨b25, 20, none⟩ Hx50 fun Start73 =>
 ldI .u64 ⟨b25, 21, none⟩ Hx50 fun Last74 =>
 newB (.cells #[(.int .i64 Nodes53), (.int .i64 Mutators54), (.int .i64 Slots55), (.int .i64 Cells56), (.int .i64 Objects57), (.int .i64 Stubs58), (.int .i64 Calls59), (.int .i64 Window60), (.int .i64 Grey61), (.int .i64 Bag62), (.int .i64 Inbox63), (.int .u64 Unit64), (.int .u64 Drift65), (.int .u64 Lease66), (.int .u64 Wait67), (.int .u64 Most68), (.int .u64 Patience69), (.int .i64 Suspect70), (.int .i64 Trace71), (.int .i64 Work72), (.int .u64 Start73), (.int .u64 Last74), (.int .i64 node23), (.int .i64 0), (.int .u64 last24), (.int .i64 0), (.slice none 0 0), (.slice none 0 0), (.slice none 0 0), (.slice none 0 0), (.int .i64 0), (.int .i64 0), (.int .u64 0), (.int .u64 0)] ty_ref22_Trace) Hx50 fun b75 Hx76 =>
 K (.pointer (some ⟨b75, 0, none⟩)) Hx76))))
theorem E_ref22_New (cNodes1 : Int) (cMutators2 : Int) (cSlots3 : Int) (cCells4 : Int) (cObjects5 : Int) (cStubs6 : Int) (cCalls7 : Int) (cWindow8 : Int) (cGrey9 : Int) (cBag10 : Int) (cInbox11 : Int) (cUnit12 : Int) (cDrift13 : Int) (cLease14 : Int) (cWait15 : Int) (cMost16 : Int) (cPatience17 : Int) (cSuspect18 : Int) (cTrace19 : Int) (cWork20 : Int) (cStart21 : Int) (cLast22 : Int) (node23 : Int) (last24 : Int) (H : Hp) (K : Value → Hp → Prop) : B_ref22_New cNodes1 cMutators2 cSlots3 cCells4 cObjects5 cStubs6 cCalls7 cWindow8 cGrey9 cBag10 cInbox11 cUnit12 cDrift13 cLease14 cWait15 cMost16 cPatience17 cSuspect18 cTrace19 cWork20 cStart21 cLast22 node23 last24 H K = denF Try.prog Try.f41 .n [(.agg #[(.int .i64 cNodes1), (.int .i64 cMutators2), (.int .i64 cSlots3), (.int .i64 cCells4), (.int .i64 cObjects5), (.int .i64 cStubs6), (.int .i64 cCalls7), (.int .i64 cWindow8), (.int .i64 cGrey9), (.int .i64 cBag10), (.int .i64 cInbox11), (.int .u64 cUnit12), (.int .u64 cDrift13), (.int .u64 cLease14), (.int .u64 cWait15), (.int .u64 cMost16), (.int .u64 cPatience17), (.int .i64 cSuspect18), (.int .i64 cTrace19), (.int .i64 cWork20), (.int .u64 cStart21), (.int .u64 cLast22)]), (.int .i64 node23), (.int .u64 last24)] H K := by kernel_rfl
theorem den_ref22_New {cNodes1 : Int} {cMutators2 : Int} {cSlots3 : Int} {cCells4 : Int} {cObjects5 : Int} {cStubs6 : Int} {cCalls7 : Int} {cWindow8 : Int} {cGrey9 : Int} {cBag10 : Int} {cInbox11 : Int} {cUnit12 : Int} {cDrift13 : Int} {cLease14 : Int} {cWait15 : Int} {cMost16 : Int} {cPatience17 : Int} {cSuspect18 : Int} {cTrace19 : Int} {cWork20 : Int} {cStart21 : Int} {cLast22 : Int} {node23 : Int} {last24 : Int} {H : Hp} {K : Value → Hp → Prop} (h : B_ref22_New cNodes1 cMutators2 cSlots3 cCells4 cObjects5 cStubs6 cCalls7 cWindow8 cGrey9 cBag10 cInbox11 cUnit12 cDrift13 cLease14 cWait15 cMost16 cPatience17 cSuspect18 cTrace19 cWork20 cStart21 cLast22 node23 last24 H K) : hcall PR f_ref22_New ⟨[(.agg #[(.int .i64 cNodes1), (.int .i64 cMutators2), (.int .i64 cSlots3), (.int .i64 cCells4), (.int .i64 cObjects5), (.int .i64 cStubs6), (.int .i64 cCalls7), (.int .i64 cWindow8), (.int .i64 cGrey9), (.int .i64 cBag10), (.int .i64 cInbox11), (.int .u64 cUnit12), (.int .u64 cDrift13), (.int .u64 cLease14), (.int .u64 cWait15), (.int .u64 cMost16), (.int .u64 cPatience17), (.int .i64 cSuspect18), (.int .i64 cTrace19), (.int .i64 cWork20), (.int .u64 cStart21), (.int .u64 cLast22)]), (.int .i64 node23), (.int .u64 last24)]⟩ H K := denF_call Try.func41 PR_mixed (Eq.mp (E_ref22_New cNodes1 cMutators2 cSlots3 cCells4 cObjects5 cStubs6 cCalls7 cWindow8 cGrey9 cBag10 cInbox11 cUnit12 cDrift13 cLease14 cWait15 cMost16 cPatience17 cSuspect18 cTrace19 cWork20 cStart21 cLast22 node23 last24 H K) h)

def B_ref22_Trace_Step (t1 : Option Addr) (now2 : Int) (H : Hp) (K : Value → Hp → Prop) : Prop :=
 newB (.cells #[(.int .i64 0), (.int .i64 0), (.int .i64 0), (.int .u64 0), (.int .u64 0), (.int .i64 0), (.int .i64 0), (.int .i64 0), (.int .i64 0), (.int .u64 0), (.slice none 0 0), (.int .u64 0), (.int .i64 0), (.int .u64 0), (.int .i64 0), (.int .u64 0), (.int .i64 0), (.int .u64 0), (.slice none 0 0)] ty_api_Msg) H fun b3 Hx4 =>
 nilP t1 fun ta5 =>
 ldI .i64 (ta5.add 23) Hx4 fun State6 =>
 (bif ((State6 : Int) == 0) then
 st ⟨b3, 0, none⟩ (.int .i64 0) Hx4 fun Hx7 =>
 st ⟨b3, 1, none⟩ (.int .i64 0) Hx7 fun Hx8 =>
 st ⟨b3, 2, none⟩ (.int .i64 0) Hx8 fun Hx9 =>
 st ⟨b3, 3, none⟩ (.int .u64 0) Hx9 fun Hx10 =>
 st ⟨b3, 4, none⟩ (.int .u64 0) Hx10 fun Hx11 =>
 st ⟨b3, 5, none⟩ (.int .i64 0) Hx11 fun Hx12 =>
 st ⟨b3, 6, none⟩ (.int .i64 0) Hx12 fun Hx13 =>
 st ⟨b3, 7, none⟩ (.int .i64 0) Hx13 fun Hx14 =>
 st ⟨b3, 8, none⟩ (.int .i64 0) Hx14 fun Hx15 =>
 st ⟨b3, 9, none⟩ (.int .u64 0) Hx15 fun Hx16 =>
 st ⟨b3, 10, none⟩ (.slice none 0 0) Hx16 fun Hx17 =>
 st ⟨b3, 11, none⟩ (.int .u64 0) Hx17 fun Hx18 =>
 st ⟨b3, 12, none⟩ (.int .i64 0) Hx18 fun Hx19 =>
 st ⟨b3, 13, none⟩ (.int .u64 0) Hx19 fun Hx20 =>
 st ⟨b3, 14, none⟩ (.int .i64 0) Hx20 fun Hx21 =>
 st ⟨b3, 15, none⟩ (.int .u64 0) Hx21 fun Hx22 =>
 st ⟨b3, 16, none⟩ (.int .i64 0) Hx22 fun Hx23 =>
 st ⟨b3, 17, none⟩ (.int .u64 0) Hx23 fun Hx24 =>
 st ⟨b3, 18, none⟩ (.slice none 0 0) Hx24 fun Hx25 =>
 ldI .i64 ⟨b3, 0, none⟩ Hx25 fun Kind26 =>
 ldI .i64 ⟨b3, 1, none⟩ Hx25 fun From27 =>
 ldI .i64 ⟨b3, 2, none⟩ Hx25 fun To28 =>
 ldI .u64 ⟨b3, 3, none⟩ Hx25 fun Call29 =>
 ldI .u64 ⟨b3, 4, none⟩ Hx25 fun Floor30 =>
 ldI .i64 ⟨b3, 5, none⟩ Hx25 fun Op31 =>
 ldI .i64 ⟨b3, 6, none⟩ Hx25 fun Field32 =>
 ldI .i64 ⟨b3, 7, none⟩ Hx25 fun Item33 =>
 ldI .i64 ⟨b3, 8, none⟩ Hx25 fun Node34 =>
 ldI .u64 ⟨b3, 9, none⟩ Hx25 fun Serial35 =>
 ldSl ⟨b3, 10, none⟩ Hx25 fun RefsP36 RefsL37 RefsC38 =>
 ldI .u64 ⟨b3, 11, none⟩ Hx25 fun Value39 =>
 ldI .i64 ⟨b3, 12, none⟩ Hx25 fun Code40 =>
 ldI .u64 ⟨b3, 13, none⟩ Hx25 fun Seq41 =>
 ldI .i64 ⟨b3, 14, none⟩ Hx25 fun Voucher42 =>
 ldI .u64 ⟨b3, 15, none⟩ Hx25 fun At43 =>
 ldI .i64 ⟨b3, 16, none⟩ Hx25 fun Dist44 =>
 ldI .u64 ⟨b3, 17, none⟩ Hx25 fun Stamp45 =>
 ldSl ⟨b3, 18, none⟩ Hx25 fun ListP46 ListL47 ListC48 =>
 K (.tuple #[(.agg #[(.int .i64 Kind26), (.int .i64 From27), (.int .i64 To28), (.int .u64 Call29), (.int .u64 Floor30), (.int .i64 Op31), (.int .i64 Field32), (.int .i64 Item33), (.int .i64 Node34), (.int .u64 Serial35), (.slice RefsP36 RefsL37 RefsC38), (.int .u64 Value39), (.int .i64 Code40), (.int .u64 Seq41), (.int .i64 Voucher42), (.int .u64 At43), (.int .i64 Dist44), (.int .u64 Stamp45), (.slice ListP46 ListL47 ListC48)]), (.bool false)]) Hx25
else
 nilP t1 fun ta49 =>
 ldI .u64 (ta49.add 32) Hx4 fun sent50 =>
 nilP t1 fun ta51 =>
 ldI .u64 (ta51.add 33) Hx4 fun wait52 =>
 hcall PR f_ref3_Past ⟨[(.int .u64 sent50), (.int .u64 wait52), (.int .u64 now2)]⟩ Hx4 fun v53 Hx54 =>
 asB v53 fun t55 =>
 (bif (!t55) then
 st ⟨b3, 0, none⟩ (.int .i64 0) Hx54 fun Hx56 =>
 st ⟨b3, 1, none⟩ (.int .i64 0) Hx56 fun Hx57 =>
 st ⟨b3, 2, none⟩ (.int .i64 0) Hx57 fun Hx58 =>
 st ⟨b3, 3, none⟩ (.int .u64 0) Hx58 fun Hx59 =>
 st ⟨b3, 4, none⟩ (.int .u64 0) Hx59 fun Hx60 =>
 st ⟨b3, 5, none⟩ (.int .i64 0) Hx60 fun Hx61 =>
 st ⟨b3, 6, none⟩ (.int .i64 0) Hx61 fun Hx62 =>
 st ⟨b3, 7, none⟩ (.int .i64 0) Hx62 fun Hx63 =>
 st ⟨b3, 8, none⟩ (.int .i64 0) Hx63 fun Hx64 =>
 st ⟨b3, 9, none⟩ (.int .u64 0) Hx64 fun Hx65 =>
 st ⟨b3, 10, none⟩ (.slice none 0 0) Hx65 fun Hx66 =>
 st ⟨b3, 11, none⟩ (.int .u64 0) Hx66 fun Hx67 =>
 st ⟨b3, 12, none⟩ (.int .i64 0) Hx67 fun Hx68 =>
 st ⟨b3, 13, none⟩ (.int .u64 0) Hx68 fun Hx69 =>
 st ⟨b3, 14, none⟩ (.int .i64 0) Hx69 fun Hx70 =>
 st ⟨b3, 15, none⟩ (.int .u64 0) Hx70 fun Hx71 =>
 st ⟨b3, 16, none⟩ (.int .i64 0) Hx71 fun Hx72 =>
 st ⟨b3, 17, none⟩ (.int .u64 0) Hx72 fun Hx73 =>
 st ⟨b3, 18, none⟩ (.slice none 0 0) Hx73 fun Hx74 =>
 ldI .i64 ⟨b3, 0, none⟩ Hx74 fun Kind75 =>
 ldI .i64 ⟨b3, 1, none⟩ Hx74 fun From76 =>
 ldI .i64 ⟨b3, 2, none⟩ Hx74 fun To77 =>
 ldI .u64 ⟨b3, 3, none⟩ Hx74 fun Call78 =>
 ldI .u64 ⟨b3, 4, none⟩ Hx74 fun Floor79 =>
 ldI .i64 ⟨b3, 5, none⟩ Hx74 fun Op80 =>
 ldI .i64 ⟨b3, 6, none⟩ Hx74 fun Field81 =>
 ldI .i64 ⟨b3, 7, none⟩ Hx74 fun Item82 =>
 ldI .i64 ⟨b3, 8, none⟩ Hx74 fun Node83 =>
 ldI .u64 ⟨b3, 9, none⟩ Hx74 fun Serial84 =>
 ldSl ⟨b3, 10, none⟩ Hx74 fun RefsP85 RefsL86 RefsC87 =>
 ldI .u64 ⟨b3, 11, none⟩ Hx74 fun Value88 =>
 ldI .i64 ⟨b3, 12, none⟩ Hx74 fun Code89 =>
 ldI .u64 ⟨b3, 13, none⟩ Hx74 fun Seq90 =>
 ldI .i64 ⟨b3, 14, none⟩ Hx74 fun Voucher91 =>
 ldI .u64 ⟨b3, 15, none⟩ Hx74 fun At92 =>
 ldI .i64 ⟨b3, 16, none⟩ Hx74 fun Dist93 =>
 ldI .u64 ⟨b3, 17, none⟩ Hx74 fun Stamp94 =>
 ldSl ⟨b3, 18, none⟩ Hx74 fun ListP95 ListL96 ListC97 =>
 K (.tuple #[(.agg #[(.int .i64 Kind75), (.int .i64 From76), (.int .i64 To77), (.int .u64 Call78), (.int .u64 Floor79), (.int .i64 Op80), (.int .i64 Field81), (.int .i64 Item82), (.int .i64 Node83), (.int .u64 Serial84), (.slice RefsP85 RefsL86 RefsC87), (.int .u64 Value88), (.int .i64 Code89), (.int .u64 Seq90), (.int .i64 Voucher91), (.int .u64 At92), (.int .i64 Dist93), (.int .u64 Stamp94), (.slice ListP95 ListL96 ListC97)]), (.bool false)]) Hx74
else
 nilP t1 fun ta98 =>
 st (ta98.add 32) (.int .u64 now2) Hx54 fun Hx99 =>
 nilP t1 fun ta100 =>
 ldI .u64 (ta100.add 33) Hx99 fun wait101 =>
 nilP t1 fun ta102 =>
 ldI .u64 (ta102.add 14) Hx99 fun Wait103 =>
 nilP t1 fun ta104 =>
 ldI .u64 (ta104.add 15) Hx99 fun Most105 =>
 hcall PR f_ref3_Wait ⟨[(.int .u64 wait101), (.int .u64 Wait103), (.int .u64 Most105)]⟩ Hx99 fun v106 Hx107 =>
 asI .u64 v106 fun t108 =>
 nilP t1 fun ta109 =>
 st (ta109.add 33) (.int .u64 t108) Hx107 fun Hx110 =>
 ∀ R111 : Option Addr → Hp → Prop, (∀ m113 : Option Addr, ∀ Hx112 : Hp, (
 ∀ R114 : Hp → Prop, (∀ Hx115 : Hp, (
 asA (.pointer m113) fun ma116 =>
 ldI .i64 ma116 Hx115 fun Kind117 =>
 ldI .i64 (ma116.add 1) Hx115 fun From118 =>
 ldI .i64 (ma116.add 2) Hx115 fun To119 =>
 ldI .u64 (ma116.add 3) Hx115 fun Call120 =>
 ldI .u64 (ma116.add 4) Hx115 fun Floor121 =>
 ldI .i64 (ma116.add 5) Hx115 fun Op122 =>
 ldI .i64 (ma116.add 6) Hx115 fun Field123 =>
 ldI .i64 (ma116.add 7) Hx115 fun Item124 =>
 ldI .i64 (ma116.add 8) Hx115 fun Node125 =>
 ldI .u64 (ma116.add 9) Hx115 fun Serial126 =>
 ldSl (ma116.add 10) Hx115 fun RefsP127 RefsL128 RefsC129 =>
 ldI .u64 (ma116.add 11) Hx115 fun Value130 =>
 ldI .i64 (ma116.add 12) Hx115 fun Code131 =>
 ldI .u64 (ma116.add 13) Hx115 fun Seq132 =>
 ldI .i64 (ma116.add 14) Hx115 fun Voucher133 =>
 ldI .u64 (ma116.add 15) Hx115 fun At134 =>
 ldI .i64 (ma116.add 16) Hx115 fun Dist135 =>
 ldI .u64 (ma116.add 17) Hx115 fun Stamp136 =>
 ldSl (ma116.add 18) Hx115 fun ListP137 ListL138 ListC139 =>
 st ⟨b3, 0, none⟩ (.int .i64 Kind117) Hx115 fun Hx140 =>
 st ⟨b3, 1, none⟩ (.int .i64 From118) Hx140 fun Hx141 =>
 st ⟨b3, 2, none⟩ (.int .i64 To119) Hx141 fun Hx142 =>
 st ⟨b3, 3, none⟩ (.int .u64 Call120) Hx142 fun Hx143 =>
 st ⟨b3, 4, none⟩ (.int .u64 Floor121) Hx143 fun Hx144 =>
 st ⟨b3, 5, none⟩ (.int .i64 Op122) Hx144 fun Hx145 =>
 st ⟨b3, 6, none⟩ (.int .i64 Field123) Hx145 fun Hx146 =>
 st ⟨b3, 7, none⟩ (.int .i64 Item124) Hx146 fun Hx147 =>
 st ⟨b3, 8, none⟩ (.int .i64 Node125) Hx147 fun Hx148 =>
 st ⟨b3, 9, none⟩ (.int .u64 Serial126) Hx148 fun Hx149 =>
 st ⟨b3, 10, none⟩ (.slice RefsP127 RefsL128 RefsC129) Hx149 fun Hx150 =>
 st ⟨b3, 11, none⟩ (.int .u64 Value130) Hx150 fun Hx151 =>
 st ⟨b3, 12, none⟩ (.int .i64 Code131) Hx151 fun Hx152 =>
 st ⟨b3, 13, none⟩ (.int .u64 Seq132) Hx152 fun Hx153 =>
 st ⟨b3, 14, none⟩ (.int .i64 Voucher133) Hx153 fun Hx154 =>
 st ⟨b3, 15, none⟩ (.int .u64 At134) Hx154 fun Hx155 =>
 st ⟨b3, 16, none⟩ (.int .i64 Dist135) Hx155 fun Hx156 =>
 st ⟨b3, 17, none⟩ (.int .u64 Stamp136) Hx156 fun Hx157 =>
 st ⟨b3, 18, none⟩ (.slice ListP137 ListL138 ListC139) Hx157 fun Hx158 =>
 ldI .i64 ⟨b3, 0, none⟩ Hx158 fun Kind159 =>
 ldI .i64 ⟨b3, 1, none⟩ Hx158 fun From160 =>
 ldI .i64 ⟨b3, 2, none⟩ Hx158 fun To161 =>
 ldI .u64 ⟨b3, 3, none⟩ Hx158 fun Call162 =>
 ldI .u64 ⟨b3, 4, none⟩ Hx158 fun Floor163 =>
 ldI .i64 ⟨b3, 5, none⟩ Hx158 fun Op164 =>
 ldI .i64 ⟨b3, 6, none⟩ Hx158 fun Field165 =>
 ldI .i64 ⟨b3, 7, none⟩ Hx158 fun Item166 =>
 ldI .i64 ⟨b3, 8, none⟩ Hx158 fun Node167 =>
 ldI .u64 ⟨b3, 9, none⟩ Hx158 fun Serial168 =>
 ldSl ⟨b3, 10, none⟩ Hx158 fun RefsP169 RefsL170 RefsC171 =>
 ldI .u64 ⟨b3, 11, none⟩ Hx158 fun Value172 =>
 ldI .i64 ⟨b3, 12, none⟩ Hx158 fun Code173 =>
 ldI .u64 ⟨b3, 13, none⟩ Hx158 fun Seq174 =>
 ldI .i64 ⟨b3, 14, none⟩ Hx158 fun Voucher175 =>
 ldI .u64 ⟨b3, 15, none⟩ Hx158 fun At176 =>
 ldI .i64 ⟨b3, 16, none⟩ Hx158 fun Dist177 =>
 ldI .u64 ⟨b3, 17, none⟩ Hx158 fun Stamp178 =>
 ldSl ⟨b3, 18, none⟩ Hx158 fun ListP179 ListL180 ListC181 =>
 K (.tuple #[(.agg #[(.int .i64 Kind159), (.int .i64 From160), (.int .i64 To161), (.int .u64 Call162), (.int .u64 Floor163), (.int .i64 Op164), (.int .i64 Field165), (.int .i64 Item166), (.int .i64 Node167), (.int .u64 Serial168), (.slice RefsP169 RefsL170 RefsC171), (.int .u64 Value172), (.int .i64 Code173), (.int .u64 Seq174), (.int .i64 Voucher175), (.int .u64 At176), (.int .i64 Dist177), (.int .u64 Stamp178), (.slice ListP179 ListL180 ListC181)]), (.bool true)]) Hx158) → R114 Hx115) →
 nilP t1 fun ta182 =>
 ldI .i64 (ta182.add 23) Hx112 fun State183 =>
 (bif ((State183 : Int) == 1) then
 nilP t1 fun ta184 =>
 ldSl (ta184.add 26) Hx112 fun ItemsP185 ItemsL186 ItemsC187 =>
 nilP t1 fun ta188 =>
 ldI .i64 (ta188.add 30) Hx112 fun atx189 =>
 idxA ItemsP185 ItemsL186 atx189 5 fun el190 =>
 ldI .i64 (el190.add 2) Hx112 fun Node191 =>
 ldI .u64 ((el190.add 2).add 1) Hx112 fun Serial192 =>
 asA (.pointer m113) fun ma193 =>
 st (ma193.add 8) (.int .i64 Node191) Hx112 fun Hx194 =>
 st ((ma193.add 8).add 1) (.int .u64 Serial192) Hx194 fun Hx195 =>
 asA (.pointer m113) fun ma196 =>
 st (ma196.add 5) (.int .i64 2) Hx195 fun Hx197 =>
 nilP t1 fun ta198 =>
 ldSl (ta198.add 26) Hx197 fun ItemsP199 ItemsL200 ItemsC201 =>
 nilP t1 fun ta202 =>
 ldI .i64 (ta202.add 30) Hx197 fun atx203 =>
 idxA ItemsP199 ItemsL200 atx203 5 fun el204 =>
 ldB el204 Hx197 fun In205 =>
 (bif In205 then
 asA (.pointer m113) fun ma206 =>
 st (ma206.add 5) (.int .i64 1) Hx197 fun Hx207 =>
 R114 Hx207
else
 R114 Hx197)
else
 (bif ((State183 : Int) == 2) then
 asA (.pointer m113) fun ma208 =>
 st (ma208.add 5) (.int .i64 3) Hx112 fun Hx209 =>
 R114 Hx209
else
 asA (.pointer m113) fun ma210 =>
 st ma210 (.int .i64 10) Hx112 fun Hx211 =>
 nilP t1 fun ta212 =>
 ldSl (ta212.add 26) Hx211 fun ItemsP213 ItemsL214 ItemsC215 =>
 nilP t1 fun ta216 =>
 ldSl (ta216.add 29) Hx211 fun buryP217 buryL218 buryC219 =>
 nilP t1 fun ta220 =>
 ldI .i64 (ta220.add 30) Hx211 fun atx221 =>
 idxA buryP217 buryL218 atx221 1 fun el222 =>
 ldI .i64 el222 Hx211 fun t223 =>
 idxA ItemsP213 ItemsL214 t223 5 fun el224 =>
 ldI .i64 (el224.add 2) Hx211 fun Node225 =>
 ldI .u64 ((el224.add 2).add 1) Hx211 fun Serial226 =>
 asA (.pointer m113) fun ma227 =>
 st (ma227.add 8) (.int .i64 Node225) Hx211 fun Hx228 =>
 st ((ma227.add 8).add 1) (.int .u64 Serial226) Hx228 fun Hx229 =>
 asA (.pointer m113) fun ma230 =>
 ldI .i64 (ma230.add 2) Hx229 fun To231 =>
 hcall PR f_ref22_Trace_stamp ⟨[(.pointer t1), (.int .i64 To231)]⟩ Hx229 fun v232 Hx233 =>
 tup2 v232 fun v234 v235 =>
 asI .u64 v234 fun t236 =>
 asB v235 fun t237 =>
 asA (.pointer m113) fun ma238 =>
 st (ma238.add 17) (.int .u64 t236) Hx233 fun Hx239 =>
 R114 Hx239))) → R111 m113 Hx112) →
 nilP t1 fun ta240 =>
 ldI .i64 (ta240.add 22) Hx110 fun Node241 =>
 nilP t1 fun ta242 =>
 ldI .u64 (ta242.add 24) Hx110 fun Num243 =>
 nilP t1 fun ta244 =>
 ldI .i64 (ta244.add 31) Hx110 fun q245 =>
 (hcall PR f_ref22_Trace_to ⟨[(.pointer t1)]⟩ Hx110 fun v246 Hx247 =>
 asI .i64 v246 fun t248 =>
 (ldI .i64 (ta244.add 31) Hx247 fun q249 =>
 ((.int .i64 q249) : Value) = (.int .i64 q245)) ∧
 (ldI .u64 (ta242.add 24) Hx247 fun Num250 =>
 ((.int .u64 Num250) : Value) = (.int .u64 Num243)) ∧
 (ldI .i64 (ta240.add 22) Hx247 fun Node251 =>
 ((.int .i64 Node251) : Value) = (.int .i64 Node241)) ∧
 newB (.cells #[(.int .i64 0), (.int .i64 0), (.int .i64 0), (.int .u64 0), (.int .u64 0), (.int .i64 0), (.int .i64 0), (.int .i64 0), (.int .i64 0), (.int .u64 0), (.slice none 0 0), (.int .u64 0), (.int .i64 0), (.int .u64 0), (.int .i64 0), (.int .u64 0), (.int .i64 0), (.int .u64 0), (.slice none 0 0)] ty_api_Msg) Hx247 fun b252 Hx253 =>
 (ldI .i64 (ta244.add 31) Hx253 fun q254 =>
 ((.int .i64 q254) : Value) = (.int .i64 q245)) ∧
 (ldI .u64 (ta242.add 24) Hx253 fun Num255 =>
 ((.int .u64 Num255) : Value) = (.int .u64 Num243)) ∧
 (ldI .i64 (ta240.add 22) Hx253 fun Node256 =>
 ((.int .i64 Node256) : Value) = (.int .i64 Node241)) ∧
 st ⟨b252, 0, none⟩ (.int .i64 8) Hx253 fun Hx257 =>
 st ⟨b252, 1, none⟩ (.int .i64 Node241) Hx257 fun Hx258 =>
 st ⟨b252, 2, none⟩ (.int .i64 t248) Hx258 fun Hx259 =>
 st ⟨b252, 3, none⟩ (.int .u64 Num243) Hx259 fun Hx260 =>
 st ⟨b252, 4, none⟩ (.int .u64 0) Hx260 fun Hx261 =>
 st ⟨b252, 5, none⟩ (.int .i64 0) Hx261 fun Hx262 =>
 st ⟨b252, 6, none⟩ (.int .i64 0) Hx262 fun Hx263 =>
 st ⟨b252, 7, none⟩ (.int .i64 q245) Hx263 fun Hx264 =>
 st ⟨b252, 8, none⟩ (.int .i64 0) Hx264 fun Hx265 =>
 st ⟨b252, 9, none⟩ (.int .u64 0) Hx265 fun Hx266 =>
 st ⟨b252, 10, none⟩ (.slice none 0 0) Hx266 fun Hx267 =>
 st ⟨b252, 11, none⟩ (.int .u64 0) Hx267 fun Hx268 =>
 st ⟨b252, 12, none⟩ (.int .i64 0) Hx268 fun Hx269 =>
 st ⟨b252, 13, none⟩ (.int .u64 0) Hx269 fun Hx270 =>
 st ⟨b252, 14, none⟩ (.int .i64 0) Hx270 fun Hx271 =>
 st ⟨b252, 15, none⟩ (.int .u64 0) Hx271 fun Hx272 =>
 st ⟨b252, 16, none⟩ (.int .i64 0) Hx272 fun Hx273 =>
 st ⟨b252, 17, none⟩ (.int .u64 0) Hx273 fun Hx274 =>
 st ⟨b252, 18, none⟩ (.slice none 0 0) Hx274 fun Hx275 =>
 R111 (some ⟨b252, 0, none⟩) Hx275) ∧
 (newB (.cells #[(.int .i64 0), (.int .i64 0), (.int .i64 0), (.int .u64 0), (.int .u64 0), (.int .i64 0), (.int .i64 0), (.int .i64 0), (.int .i64 0), (.int .u64 0), (.slice none 0 0), (.int .u64 0), (.int .i64 0), (.int .u64 0), (.int .i64 0), (.int .u64 0), (.int .i64 0), (.int .u64 0), (.slice none 0 0)] ty_api_Msg) Hx110 fun b276 Hx277 =>
 (ldI .i64 (ta244.add 31) Hx277 fun q278 =>
 ((.int .i64 q278) : Value) = (.int .i64 q245)) ∧
 (ldI .u64 (ta242.add 24) Hx277 fun Num279 =>
 ((.int .u64 Num279) : Value) = (.int .u64 Num243)) ∧
 (ldI .i64 (ta240.add 22) Hx277 fun Node280 =>
 ((.int .i64 Node280) : Value) = (.int .i64 Node241)) ∧
 hcall PR f_ref22_Trace_to ⟨[(.pointer t1)]⟩ Hx277 fun v281 Hx282 =>
 asI .i64 v281 fun t283 =>
 (ldI .i64 (ta244.add 31) Hx282 fun q284 =>
 ((.int .i64 q284) : Value) = (.int .i64 q245)) ∧
 (ldI .u64 (ta242.add 24) Hx282 fun Num285 =>
 ((.int .u64 Num285) : Value) = (.int .u64 Num243)) ∧
 (ldI .i64 (ta240.add 22) Hx282 fun Node286 =>
 ((.int .i64 Node286) : Value) = (.int .i64 Node241)) ∧
 st ⟨b276, 0, none⟩ (.int .i64 8) Hx282 fun Hx287 =>
 st ⟨b276, 1, none⟩ (.int .i64 Node241) Hx287 fun Hx288 =>
 st ⟨b276, 2, none⟩ (.int .i64 t283) Hx288 fun Hx289 =>
 st ⟨b276, 3, none⟩ (.int .u64 Num243) Hx289 fun Hx290 =>
 st ⟨b276, 4, none⟩ (.int .u64 0) Hx290 fun Hx291 =>
 st ⟨b276, 5, none⟩ (.int .i64 0) Hx291 fun Hx292 =>
 st ⟨b276, 6, none⟩ (.int .i64 0) Hx292 fun Hx293 =>
 st ⟨b276, 7, none⟩ (.int .i64 q245) Hx293 fun Hx294 =>
 st ⟨b276, 8, none⟩ (.int .i64 0) Hx294 fun Hx295 =>
 st ⟨b276, 9, none⟩ (.int .u64 0) Hx295 fun Hx296 =>
 st ⟨b276, 10, none⟩ (.slice none 0 0) Hx296 fun Hx297 =>
 st ⟨b276, 11, none⟩ (.int .u64 0) Hx297 fun Hx298 =>
 st ⟨b276, 12, none⟩ (.int .i64 0) Hx298 fun Hx299 =>
 st ⟨b276, 13, none⟩ (.int .u64 0) Hx299 fun Hx300 =>
 st ⟨b276, 14, none⟩ (.int .i64 0) Hx300 fun Hx301 =>
 st ⟨b276, 15, none⟩ (.int .u64 0) Hx301 fun Hx302 =>
 st ⟨b276, 16, none⟩ (.int .i64 0) Hx302 fun Hx303 =>
 st ⟨b276, 17, none⟩ (.int .u64 0) Hx303 fun Hx304 =>
 st ⟨b276, 18, none⟩ (.slice none 0 0) Hx304 fun Hx305 =>
 R111 (some ⟨b276, 0, none⟩) Hx305)))
theorem E_ref22_Trace_Step (t1 : Option Addr) (now2 : Int) (H : Hp) (K : Value → Hp → Prop) : B_ref22_Trace_Step t1 now2 H K = denF Try.prog Try.f42 (.seq none .n (.seq none .n (.seq none .n (.seq none .n (.seq (some ⟨[(6, .ptr)], [0, 4]⟩) .n (.seq (some ⟨[], [4, 6]⟩) .n .n)))))) [(.pointer t1), (.int .u64 now2)] H K := by kernel_rfl
theorem den_ref22_Trace_Step {t1 : Option Addr} {now2 : Int} {H : Hp} {K : Value → Hp → Prop} (h : B_ref22_Trace_Step t1 now2 H K) : hcall PR f_ref22_Trace_Step ⟨[(.pointer t1), (.int .u64 now2)]⟩ H K := denF_call Try.func42 PR_mixed (Eq.mp (E_ref22_Trace_Step t1 now2 H K) h)

def B_ref22_Trace_Hear (t1 : Option Addr) (mKind2 : Int) (mFrom3 : Int) (mTo4 : Int) (mCall5 : Int) (mFloor6 : Int) (mOp7 : Int) (mField8 : Int) (mItem9 : Int) (mNode10 : Int) (mSerial11 : Int) (mRefsP12 : Option Addr) (mRefsL13 : Nat) (mRefsC14 : Nat) (mValue15 : Int) (mCode16 : Int) (mSeq17 : Int) (mVoucher18 : Int) (mAt19 : Int) (mDist20 : Int) (mStamp21 : Int) (mListP22 : Option Addr) (mListL23 : Nat) (mListC24 : Nat) (H : Hp) (K : Value → Hp → Prop) : Prop :=
 newB (.cells #[(.int .i64 mKind2), (.int .i64 mFrom3), (.int .i64 mTo4), (.int .u64 mCall5), (.int .u64 mFloor6), (.int .i64 mOp7), (.int .i64 mField8), (.int .i64 mItem9), (.int .i64 mNode10), (.int .u64 mSerial11), (.slice mRefsP12 mRefsL13 mRefsC14), (.int .u64 mValue15), (.int .i64 mCode16), (.int .u64 mSeq17), (.int .i64 mVoucher18), (.int .u64 mAt19), (.int .i64 mDist20), (.int .u64 mStamp21), (.slice mListP22 mListL23 mListC24)] ty_api_Msg) H fun b25 Hx26 =>
 ∀ R27 : Int → Hp → Prop, (∀ kind29 : Int, ∀ Hx28 : Hp, (
 nilP t1 fun ta30 =>
 ldI .i64 (ta30.add 23) Hx28 fun State31 =>
 (bif ((State31 : Int) == 0) then
 K (.bool false) Hx28
else
 ldI .i64 ⟨b25, 0, none⟩ Hx28 fun Kind32 =>
 (bif ((Kind32 : Int) != kind29) then
 K (.bool false) Hx28
else
 ldI .u64 ⟨b25, 3, none⟩ Hx28 fun Call33 =>
 nilP t1 fun ta34 =>
 ldI .u64 (ta34.add 24) Hx28 fun Num35 =>
 (bif ((Call33 : Int) != Num35) then
 K (.bool false) Hx28
else
 ldI .i64 ⟨b25, 7, none⟩ Hx28 fun Item36 =>
 nilP t1 fun ta37 =>
 ldI .i64 (ta37.add 31) Hx28 fun q38 =>
 (bif ((Item36 : Int) != q38) then
 K (.bool false) Hx28
else
 ldI .i64 ⟨b25, 2, none⟩ Hx28 fun To39 =>
 nilP t1 fun ta40 =>
 ldI .i64 (ta40.add 22) Hx28 fun Node41 =>
 (bif ((To39 : Int) != Node41) then
 K (.bool false) Hx28
else
 ldI .i64 ⟨b25, 1, none⟩ Hx28 fun From42 =>
 hcall PR f_ref22_Trace_to ⟨[(.pointer t1)]⟩ Hx28 fun v43 Hx44 =>
 asI .i64 v43 fun t45 =>
 (ldI .i64 ⟨b25, 1, none⟩ Hx44 fun From46 =>
 ((.int .i64 From46) : Value) = (.int .i64 From42)) ∧
 (bif ((From42 : Int) != t45) then
 K (.bool false) Hx44
else
 nilP t1 fun ta47 =>
 ldI .i64 (ta47.add 23) Hx44 fun State48 =>
 (bif ((State48 : Int) == 1) then
 ldI .i64 ⟨b25, 0, none⟩ Hx44 fun Kind49 =>
 ldI .i64 ⟨b25, 1, none⟩ Hx44 fun From50 =>
 ldI .i64 ⟨b25, 2, none⟩ Hx44 fun To51 =>
 ldI .u64 ⟨b25, 3, none⟩ Hx44 fun Call52 =>
 ldI .u64 ⟨b25, 4, none⟩ Hx44 fun Floor53 =>
 ldI .i64 ⟨b25, 5, none⟩ Hx44 fun Op54 =>
 ldI .i64 ⟨b25, 6, none⟩ Hx44 fun Field55 =>
 ldI .i64 ⟨b25, 7, none⟩ Hx44 fun Item56 =>
 ldI .i64 ⟨b25, 8, none⟩ Hx44 fun Node57 =>
 ldI .u64 ⟨b25, 9, none⟩ Hx44 fun Serial58 =>
 ldSl ⟨b25, 10, none⟩ Hx44 fun RefsP59 RefsL60 RefsC61 =>
 ldI .u64 ⟨b25, 11, none⟩ Hx44 fun Value62 =>
 ldI .i64 ⟨b25, 12, none⟩ Hx44 fun Code63 =>
 ldI .u64 ⟨b25, 13, none⟩ Hx44 fun Seq64 =>
 ldI .i64 ⟨b25, 14, none⟩ Hx44 fun Voucher65 =>
 ldI .u64 ⟨b25, 15, none⟩ Hx44 fun At66 =>
 ldI .i64 ⟨b25, 16, none⟩ Hx44 fun Dist67 =>
 ldI .u64 ⟨b25, 17, none⟩ Hx44 fun Stamp68 =>
 ldSl ⟨b25, 18, none⟩ Hx44 fun ListP69 ListL70 ListC71 =>
 hcall PR f_ref22_Trace_asked ⟨[(.pointer t1), (.agg #[(.int .i64 Kind49), (.int .i64 From50), (.int .i64 To51), (.int .u64 Call52), (.int .u64 Floor53), (.int .i64 Op54), (.int .i64 Field55), (.int .i64 Item56), (.int .i64 Node57), (.int .u64 Serial58), (.slice RefsP59 RefsL60 RefsC61), (.int .u64 Value62), (.int .i64 Code63), (.int .u64 Seq64), (.int .i64 Voucher65), (.int .u64 At66), (.int .i64 Dist67), (.int .u64 Stamp68), (.slice ListP69 ListL70 ListC71)])]⟩ Hx44 fun v72 Hx73 =>
 K (.bool true) Hx73
else
 (bif ((State48 : Int) == 2) then
 ldI .i64 ⟨b25, 1, none⟩ Hx44 fun From74 =>
 hcall PR f_ref22_Trace_stamp ⟨[(.pointer t1), (.int .i64 From74)]⟩ Hx44 fun v75 Hx76 =>
 tup2 v75 fun v77 v78 =>
 asI .u64 v77 fun t79 =>
 asB v78 fun t80 =>
 ldI .u64 ⟨b25, 17, none⟩ Hx76 fun Stamp81 =>
 (bif ((t79 : Int) != Stamp81) then
 hcall PR f_ref22_Trace_over ⟨[(.pointer t1), (.bool false)]⟩ Hx76 fun v82 Hx83 =>
 K (.bool true) Hx83
else
 nilP t1 fun ta84 =>
 ldSl (ta84.add 27) Hx76 fun nodesP85 nodesL86 nodesC87 =>
 hcall PR f_ref22_Trace_next ⟨[(.pointer t1), (.int .i64 (nodesL86 : Int))]⟩ Hx76 fun v88 Hx89 =>
 asB v88 fun t90 =>
 (bif (!t90) then
 hcall PR f_ref22_Trace_burying ⟨[(.pointer t1)]⟩ Hx89 fun v91 Hx92 =>
 K (.bool true) Hx92
else
 K (.bool true) Hx89))
else
 nilP t1 fun ta93 =>
 ldSl (ta93.add 29) Hx44 fun buryP94 buryL95 buryC96 =>
 hcall PR f_ref22_Trace_next ⟨[(.pointer t1), (.int .i64 (buryL95 : Int))]⟩ Hx44 fun v97 Hx98 =>
 asB v97 fun t99 =>
 (bif (!t99) then
 hcall PR f_ref22_Trace_over ⟨[(.pointer t1), (.bool true)]⟩ Hx98 fun v100 Hx101 =>
 K (.bool true) Hx101
else
 K (.bool true) Hx98)))))))))) → R27 kind29 Hx28) →
 nilP t1 fun ta102 =>
 ldI .i64 (ta102.add 23) Hx26 fun State103 =>
 (bif ((State103 : Int) == 3) then
 R27 11 Hx26
else
 R27 9 Hx26)
theorem E_ref22_Trace_Hear (t1 : Option Addr) (mKind2 : Int) (mFrom3 : Int) (mTo4 : Int) (mCall5 : Int) (mFloor6 : Int) (mOp7 : Int) (mField8 : Int) (mItem9 : Int) (mNode10 : Int) (mSerial11 : Int) (mRefsP12 : Option Addr) (mRefsL13 : Nat) (mRefsC14 : Nat) (mValue15 : Int) (mCode16 : Int) (mSeq17 : Int) (mVoucher18 : Int) (mAt19 : Int) (mDist20 : Int) (mStamp21 : Int) (mListP22 : Option Addr) (mListL23 : Nat) (mListC24 : Nat) (H : Hp) (K : Value → Hp → Prop) : B_ref22_Trace_Hear t1 mKind2 mFrom3 mTo4 mCall5 mFloor6 mOp7 mField8 mItem9 mNode10 mSerial11 mRefsP12 mRefsL13 mRefsC14 mValue15 mCode16 mSeq17 mVoucher18 mAt19 mDist20 mStamp21 mListP22 mListL23 mListC24 H K = denF Try.prog Try.f44 (.seq none .n (.seq none .n (.seq (some ⟨[(5, .int .i64)], [0, 3]⟩) .n .n))) [(.pointer t1), (.agg #[(.int .i64 mKind2), (.int .i64 mFrom3), (.int .i64 mTo4), (.int .u64 mCall5), (.int .u64 mFloor6), (.int .i64 mOp7), (.int .i64 mField8), (.int .i64 mItem9), (.int .i64 mNode10), (.int .u64 mSerial11), (.slice mRefsP12 mRefsL13 mRefsC14), (.int .u64 mValue15), (.int .i64 mCode16), (.int .u64 mSeq17), (.int .i64 mVoucher18), (.int .u64 mAt19), (.int .i64 mDist20), (.int .u64 mStamp21), (.slice mListP22 mListL23 mListC24)])] H K := by kernel_rfl
theorem den_ref22_Trace_Hear {t1 : Option Addr} {mKind2 : Int} {mFrom3 : Int} {mTo4 : Int} {mCall5 : Int} {mFloor6 : Int} {mOp7 : Int} {mField8 : Int} {mItem9 : Int} {mNode10 : Int} {mSerial11 : Int} {mRefsP12 : Option Addr} {mRefsL13 : Nat} {mRefsC14 : Nat} {mValue15 : Int} {mCode16 : Int} {mSeq17 : Int} {mVoucher18 : Int} {mAt19 : Int} {mDist20 : Int} {mStamp21 : Int} {mListP22 : Option Addr} {mListL23 : Nat} {mListC24 : Nat} {H : Hp} {K : Value → Hp → Prop} (h : B_ref22_Trace_Hear t1 mKind2 mFrom3 mTo4 mCall5 mFloor6 mOp7 mField8 mItem9 mNode10 mSerial11 mRefsP12 mRefsL13 mRefsC14 mValue15 mCode16 mSeq17 mVoucher18 mAt19 mDist20 mStamp21 mListP22 mListL23 mListC24 H K) : hcall PR f_ref22_Trace_Hear ⟨[(.pointer t1), (.agg #[(.int .i64 mKind2), (.int .i64 mFrom3), (.int .i64 mTo4), (.int .u64 mCall5), (.int .u64 mFloor6), (.int .i64 mOp7), (.int .i64 mField8), (.int .i64 mItem9), (.int .i64 mNode10), (.int .u64 mSerial11), (.slice mRefsP12 mRefsL13 mRefsC14), (.int .u64 mValue15), (.int .i64 mCode16), (.int .u64 mSeq17), (.int .i64 mVoucher18), (.int .u64 mAt19), (.int .i64 mDist20), (.int .u64 mStamp21), (.slice mListP22 mListL23 mListC24)])]⟩ H K := denF_call Try.func44 PR_mixed (Eq.mp (E_ref22_Trace_Hear t1 mKind2 mFrom3 mTo4 mCall5 mFloor6 mOp7 mField8 mItem9 mNode10 mSerial11 mRefsP12 mRefsL13 mRefsC14 mValue15 mCode16 mSeq17 mVoucher18 mAt19 mDist20 mStamp21 mListP22 mListL23 mListC24 H K) h)

def B_ref22_Trace_Begin (t1 : Option Addr) (xNode2 : Int) (xSerial3 : Int) (now4 : Int) (H : Hp) (K : Value → Hp → Prop) : Prop :=
 newB (.cells #[(.int .i64 xNode2), (.int .u64 xSerial3)] ty_api_ID) H fun b5 Hx6 =>
 nilP t1 fun ta7 =>
 ldI .i64 (ta7.add 23) Hx6 fun State8 =>
 (bif ((State8 : Int) != 0) then
 K (.int .i64 10) Hx6
else
 ldI .i64 ⟨b5, 0, none⟩ Hx6 fun Node9 =>
 ldI .u64 ⟨b5, 1, none⟩ Hx6 fun Serial10 =>
 hcall PR f_ref2_None ⟨[(.agg #[(.int .i64 Node9), (.int .u64 Serial10)])]⟩ Hx6 fun v11 Hx12 =>
 asB v11 fun t13 =>
 (bif t13 then
 K (.int .i64 1) Hx12
else
 ldI .i64 ⟨b5, 0, none⟩ Hx12 fun Node14 =>
 ldI .u64 ⟨b5, 1, none⟩ Hx12 fun Serial15 =>
 hcall PR f_ref2_ID ⟨[(.agg #[(.int .i64 Node14), (.int .u64 Serial15)])]⟩ Hx12 fun v16 Hx17 =>
 asB v16 fun t18 =>
 (bif (!t18) then
 K (.int .i64 1) Hx17
else
 ldI .i64 ⟨b5, 0, none⟩ Hx17 fun Node19 =>
 nilP t1 fun ta20 =>
 ldI .i64 (ta20.add 22) Hx17 fun Node21 =>
 (bif ((Node19 : Int) == Node21) then
 K (.int .i64 1) Hx17
else
 ldI .i64 ⟨b5, 0, none⟩ Hx17 fun Node22 =>
 nilP t1 fun ta23 =>
 ldI .i64 ta23 Hx17 fun Nodes24 =>
 (bif (decide ((Node22 : Int) > Nodes24)) then
 K (.int .i64 1) Hx17
else
 nilP t1 fun ta25 =>
 ldI .u64 (ta25.add 24) Hx17 fun Num26 =>
 (bif (decide ((Num26 : Int) ≥ 72057594037927935)) then
 K (.int .i64 7) Hx17
else
 nilP t1 fun ta27 =>
 ldI .u64 (ta27.add 24) Hx17 fun Num28 =>
 nilP t1 fun ta29 =>
 st (ta29.add 24) (.int .u64 (IntKind.u64.wrap (Num28 + 1))) Hx17 fun Hx30 =>
 nilP t1 fun ta31 =>
 st (ta31.add 23) (.int .i64 1) Hx30 fun Hx32 =>
 nilP t1 fun ta33 =>
 ldI .i64 (ta33.add 22) Hx32 fun Node34 =>
 ldI .i64 ⟨b5, 0, none⟩ Hx32 fun Node35 =>
 ldI .u64 ⟨b5, 1, none⟩ Hx32 fun Serial36 =>
 newB (.cells #[(.bool false), (.int .i64 Node34), (.int .i64 Node35), (.int .u64 Serial36), (.int .i64 0)] ty_trace_Item) Hx32 fun b37 Hx38 =>
 nilP t1 fun ta39 =>
 st (ta39.add 26) (.slice (some ⟨b37, 0, none⟩) 1 1) Hx38 fun Hx40 =>
 nilP t1 fun ta41 =>
 st (ta41.add 27) (.slice none 0 0) Hx40 fun Hx42 =>
 nilP t1 fun ta43 =>
 st (ta43.add 28) (.slice none 0 0) Hx42 fun Hx44 =>
 nilP t1 fun ta45 =>
 st (ta45.add 29) (.slice none 0 0) Hx44 fun Hx46 =>
 nilP t1 fun ta47 =>
 st (ta47.add 30) (.int .i64 0) Hx46 fun Hx48 =>
 nilP t1 fun ta49 =>
 st (ta49.add 31) (.int .i64 0) Hx48 fun Hx50 =>
 nilP t1 fun ta51 =>
 st (ta51.add 32) (.int .u64 now4) Hx50 fun Hx52 =>
 nilP t1 fun ta53 =>
 st (ta53.add 33) (.int .u64 0) Hx52 fun Hx54 =>
 K (.int .i64 0) Hx54))))))
theorem E_ref22_Trace_Begin (t1 : Option Addr) (xNode2 : Int) (xSerial3 : Int) (now4 : Int) (H : Hp) (K : Value → Hp → Prop) : B_ref22_Trace_Begin t1 xNode2 xSerial3 now4 H K = denF Try.prog Try.f45 .n [(.pointer t1), (.agg #[(.int .i64 xNode2), (.int .u64 xSerial3)]), (.int .u64 now4)] H K := by kernel_rfl
theorem den_ref22_Trace_Begin {t1 : Option Addr} {xNode2 : Int} {xSerial3 : Int} {now4 : Int} {H : Hp} {K : Value → Hp → Prop} (h : B_ref22_Trace_Begin t1 xNode2 xSerial3 now4 H K) : hcall PR f_ref22_Trace_Begin ⟨[(.pointer t1), (.agg #[(.int .i64 xNode2), (.int .u64 xSerial3)]), (.int .u64 now4)]⟩ H K := denF_call Try.func45 PR_mixed (Eq.mp (E_ref22_Trace_Begin t1 xNode2 xSerial3 now4 H K) h)

def B_ref22_Trace_to (t1 : Option Addr) (H : Hp) (K : Value → Hp → Prop) : Prop :=
 nilP t1 fun ta2 =>
 ldI .i64 (ta2.add 23) H fun State3 =>
 (bif ((State3 : Int) == 1) then
 nilP t1 fun ta4 =>
 ldSl (ta4.add 26) H fun ItemsP5 ItemsL6 ItemsC7 =>
 nilP t1 fun ta8 =>
 ldI .i64 (ta8.add 30) H fun atx9 =>
 idxA ItemsP5 ItemsL6 atx9 5 fun el10 =>
 ldI .i64 (el10.add 1) H fun Node11 =>
 K (.int .i64 Node11) H
else
 (bif ((State3 : Int) == 2) then
 nilP t1 fun ta12 =>
 ldSl (ta12.add 27) H fun nodesP13 nodesL14 nodesC15 =>
 nilP t1 fun ta16 =>
 ldI .i64 (ta16.add 30) H fun atx17 =>
 idxA nodesP13 nodesL14 atx17 1 fun el18 =>
 ldI .u64 el18 H fun t19 =>
 K (.int .i64 (IntKind.i64.wrap t19)) H
else
 nilP t1 fun ta20 =>
 ldSl (ta20.add 26) H fun ItemsP21 ItemsL22 ItemsC23 =>
 nilP t1 fun ta24 =>
 ldSl (ta24.add 29) H fun buryP25 buryL26 buryC27 =>
 nilP t1 fun ta28 =>
 ldI .i64 (ta28.add 30) H fun atx29 =>
 idxA buryP25 buryL26 atx29 1 fun el30 =>
 ldI .i64 el30 H fun t31 =>
 idxA ItemsP21 ItemsL22 t31 5 fun el32 =>
 ldI .i64 (el32.add 1) H fun Node33 =>
 K (.int .i64 Node33) H))
theorem E_ref22_Trace_to (t1 : Option Addr) (H : Hp) (K : Value → Hp → Prop) : B_ref22_Trace_to t1 H K = denF Try.prog Try.f72 .n [(.pointer t1)] H K := by kernel_rfl
theorem den_ref22_Trace_to {t1 : Option Addr} {H : Hp} {K : Value → Hp → Prop} (h : B_ref22_Trace_to t1 H K) : hcall PR f_ref22_Trace_to ⟨[(.pointer t1)]⟩ H K := denF_call Try.func72 PR_mixed (Eq.mp (E_ref22_Trace_to t1 H K) h)

def B_ref22_Trace_stamp (t1 : Option Addr) (node2 : Int) (H : Hp) (K : Value → Hp → Prop) : Prop :=
 ∃ (I3 : Int → Hp → Prop) (m4 : Int → Hp → Nat), I3 0 H ∧ ∀ i6 : Int, ∀ Hx5 : Hp, I3 i6 Hx5 →
 nilP t1 fun ta7 =>
 ldSl (ta7.add 27) Hx5 fun nodesP8 nodesL9 nodesC10 =>
 (bif (decide ((i6 : Int) < (nodesL9 : Int))) then
 nilP t1 fun ta11 =>
 ldSl (ta11.add 27) Hx5 fun nodesP12 nodesL13 nodesC14 =>
 idxA nodesP12 nodesL13 i6 1 fun el15 =>
 ldI .u64 el15 Hx5 fun t16 =>
 (bif ((t16 : Int) == (IntKind.u64.wrap node2)) then
 nilP t1 fun ta17 =>
 ldSl (ta17.add 28) Hx5 fun stampsP18 stampsL19 stampsC20 =>
 idxA stampsP18 stampsL19 i6 1 fun el21 =>
 ldI .u64 el21 Hx5 fun t22 =>
 K (.tuple #[(.int .u64 t22), (.bool true)]) Hx5
else
 I3 (IntKind.i64.wrap (i6 + 1)) Hx5 ∧ m4 (IntKind.i64.wrap (i6 + 1)) Hx5 < m4 i6 Hx5)
else
 K (.tuple #[(.int .u64 0), (.bool false)]) Hx5)
theorem E_ref22_Trace_stamp (t1 : Option Addr) (node2 : Int) (H : Hp) (K : Value → Hp → Prop) : B_ref22_Trace_stamp t1 node2 H K = denF Try.prog Try.f73 (.seq none .n (.seq none (.seq none .n (.sub (.loop ⟨[(6, .int .i64)], [0, 1]⟩ .n))) .n)) [(.pointer t1), (.int .i64 node2)] H K := by kernel_rfl
theorem den_ref22_Trace_stamp {t1 : Option Addr} {node2 : Int} {H : Hp} {K : Value → Hp → Prop} (h : B_ref22_Trace_stamp t1 node2 H K) : hcall PR f_ref22_Trace_stamp ⟨[(.pointer t1), (.int .i64 node2)]⟩ H K := denF_call Try.func73 PR_mixed (Eq.mp (E_ref22_Trace_stamp t1 node2 H K) h)

def B_ref22_Trace_asked (t1 : Option Addr) (mKind2 : Int) (mFrom3 : Int) (mTo4 : Int) (mCall5 : Int) (mFloor6 : Int) (mOp7 : Int) (mField8 : Int) (mItem9 : Int) (mNode10 : Int) (mSerial11 : Int) (mRefsP12 : Option Addr) (mRefsL13 : Nat) (mRefsC14 : Nat) (mValue15 : Int) (mCode16 : Int) (mSeq17 : Int) (mVoucher18 : Int) (mAt19 : Int) (mDist20 : Int) (mStamp21 : Int) (mListP22 : Option Addr) (mListL23 : Nat) (mListC24 : Nat) (H : Hp) (K : Value → Hp → Prop) : Prop :=
 newB (.cells #[(.int .i64 mKind2), (.int .i64 mFrom3), (.int .i64 mTo4), (.int .u64 mCall5), (.int .u64 mFloor6), (.int .i64 mOp7), (.int .i64 mField8), (.int .i64 mItem9), (.int .i64 mNode10), (.int .u64 mSerial11), (.slice mRefsP12 mRefsL13 mRefsC14), (.int .u64 mValue15), (.int .i64 mCode16), (.int .u64 mSeq17), (.int .i64 mVoucher18), (.int .u64 mAt19), (.int .i64 mDist20), (.int .u64 mStamp21), (.slice mListP22 mListL23 mListC24)] ty_api_Msg) H fun b25 Hx26 =>
 nilP t1 fun ta27 =>
 ldSl (ta27.add 26) Hx26 fun ItemsP28 ItemsL29 ItemsC30 =>
 nilP t1 fun ta31 =>
 ldI .i64 (ta31.add 30) Hx26 fun atx32 =>
 idxA ItemsP28 ItemsL29 atx32 5 fun el33 =>
 ldB el33 Hx26 fun In34 =>
 ldI .i64 (el33.add 1) Hx26 fun Node35 =>
 ldI .i64 (el33.add 2) Hx26 fun Node36 =>
 ldI .u64 (el33.add 3) Hx26 fun Serial37 =>
 ldI .i64 (el33.add 4) Hx26 fun Code38 =>
 newB (.cells #[(.bool false), (.int .i64 0), (.int .i64 0), (.int .u64 0), (.int .i64 0)] ty_trace_Item) Hx26 fun b39 Hx40 =>
 (ldB el33 Hx40 fun In41 =>
 ldI .i64 (el33.add 1) Hx40 fun Node42 =>
 ldI .i64 (el33.add 2) Hx40 fun Node43 =>
 ldI .u64 (el33.add 3) Hx40 fun Serial44 =>
 ldI .i64 (el33.add 4) Hx40 fun Code45 =>
 ((.agg #[(.bool In41), (.int .i64 Node42), (.int .i64 Node43), (.int .u64 Serial44), (.int .i64 Code45)]) : Value) = (.agg #[(.bool In34), (.int .i64 Node35), (.int .i64 Node36), (.int .u64 Serial37), (.int .i64 Code38)])) ∧
 (ldI .i64 (ta31.add 30) Hx40 fun atx46 =>
 ((.int .i64 atx46) : Value) = (.int .i64 atx32)) ∧
 (ldSl (ta27.add 26) Hx40 fun ItemsP47 ItemsL48 ItemsC49 =>
 ((.slice ItemsP47 ItemsL48 ItemsC49) : Value) = (.slice ItemsP28 ItemsL29 ItemsC30)) ∧
 st ⟨b39, 0, none⟩ (.bool In34) Hx40 fun Hx50 =>
 st ⟨b39, 1, none⟩ (.int .i64 Node35) Hx50 fun Hx51 =>
 st ⟨b39, 2, none⟩ (.int .i64 Node36) Hx51 fun Hx52 =>
 st ⟨b39, 3, none⟩ (.int .u64 Serial37) Hx52 fun Hx53 =>
 st ⟨b39, 4, none⟩ (.int .i64 Code38) Hx53 fun Hx54 =>
 ∀ R55 : Hp → Prop, (∀ Hx56 : Hp, (
 nilP t1 fun ta57 =>
 ldSl (ta57.add 26) Hx56 fun ItemsP58 ItemsL59 ItemsC60 =>
 nilP t1 fun ta61 =>
 ldI .i64 (ta61.add 30) Hx56 fun atx62 =>
 ldI .i64 ⟨b25, 12, none⟩ Hx56 fun Code63 =>
 idxA ItemsP58 ItemsL59 atx62 5 fun el64 =>
 st (el64.add 4) (.int .i64 Code63) Hx56 fun Hx65 =>
 nilP t1 fun ta66 =>
 ldSl (ta66.add 26) Hx65 fun ItemsP67 ItemsL68 ItemsC69 =>
 hcall PR f_ref22_Trace_next ⟨[(.pointer t1), (.int .i64 (ItemsL68 : Int))]⟩ Hx65 fun v70 Hx71 =>
 asB v70 fun t72 =>
 (bif t72 then
 K (.tuple #[]) Hx71
else
 nilP t1 fun ta73 =>
 st (ta73.add 30) (.int .i64 0) Hx71 fun Hx74 =>
 nilP t1 fun ta75 =>
 st (ta75.add 23) (.int .i64 2) Hx74 fun Hx76 =>
 nilP t1 fun ta77 =>
 ldSl (ta77.add 27) Hx76 fun nodesP78 nodesL79 nodesC80 =>
 (bif (((nodesL79 : Int) : Int) == 0) then
 hcall PR f_ref22_Trace_over ⟨[(.pointer t1), (.bool true)]⟩ Hx76 fun v81 Hx82 =>
 K (.tuple #[]) Hx82
else
 K (.tuple #[]) Hx76))) → R55 Hx56) →
 ldI .i64 ⟨b25, 12, none⟩ Hx54 fun Code83 =>
 (bif ((Code83 : Int) == 0) then
 R55 Hx54
else
 (bif ((Code83 : Int) == 2) then
 ldI .i64 ⟨b25, 1, none⟩ Hx54 fun From84 =>
 ldI .u64 ⟨b25, 17, none⟩ Hx54 fun Stamp85 =>
 hcall PR f_ref22_Trace_keep ⟨[(.pointer t1), (.int .i64 From84), (.int .u64 Stamp85)]⟩ Hx54 fun v86 Hx87 =>
 asB v86 fun t88 =>
 (bif (!t88) then
 hcall PR f_ref22_Trace_over ⟨[(.pointer t1), (.bool false)]⟩ Hx87 fun v89 Hx90 =>
 K (.tuple #[]) Hx90
else
 ldB ⟨b39, 0, none⟩ Hx87 fun In91 =>
 ldI .i64 ⟨b39, 1, none⟩ Hx87 fun Node92 =>
 ldI .i64 ⟨b39, 2, none⟩ Hx87 fun Node93 =>
 ldI .u64 ⟨b39, 3, none⟩ Hx87 fun Serial94 =>
 ldI .i64 ⟨b39, 4, none⟩ Hx87 fun Code95 =>
 ldSl ⟨b25, 18, none⟩ Hx87 fun ListP96 ListL97 ListC98 =>
 hcall PR f_ref22_Trace_more ⟨[(.pointer t1), (.agg #[(.bool In91), (.int .i64 Node92), (.int .i64 Node93), (.int .u64 Serial94), (.int .i64 Code95)]), (.slice ListP96 ListL97 ListC98)]⟩ Hx87 fun v99 Hx100 =>
 asB v99 fun t101 =>
 (bif (!t101) then
 hcall PR f_ref22_Trace_over ⟨[(.pointer t1), (.bool false)]⟩ Hx100 fun v102 Hx103 =>
 K (.tuple #[]) Hx103
else
 R55 Hx100))
else
 hcall PR f_ref22_Trace_over ⟨[(.pointer t1), (.bool false)]⟩ Hx54 fun v104 Hx105 =>
 K (.tuple #[]) Hx105))
theorem E_ref22_Trace_asked (t1 : Option Addr) (mKind2 : Int) (mFrom3 : Int) (mTo4 : Int) (mCall5 : Int) (mFloor6 : Int) (mOp7 : Int) (mField8 : Int) (mItem9 : Int) (mNode10 : Int) (mSerial11 : Int) (mRefsP12 : Option Addr) (mRefsL13 : Nat) (mRefsC14 : Nat) (mValue15 : Int) (mCode16 : Int) (mSeq17 : Int) (mVoucher18 : Int) (mAt19 : Int) (mDist20 : Int) (mStamp21 : Int) (mListP22 : Option Addr) (mListL23 : Nat) (mListC24 : Nat) (H : Hp) (K : Value → Hp → Prop) : B_ref22_Trace_asked t1 mKind2 mFrom3 mTo4 mCall5 mFloor6 mOp7 mField8 mItem9 mNode10 mSerial11 mRefsP12 mRefsL13 mRefsC14 mValue15 mCode16 mSeq17 mVoucher18 mAt19 mDist20 mStamp21 mListP22 mListL23 mListC24 H K = denF Try.prog Try.f74 (.seq none .n (.seq none .n (.seq (some ⟨[], [0, 3]⟩) .n .n))) [(.pointer t1), (.agg #[(.int .i64 mKind2), (.int .i64 mFrom3), (.int .i64 mTo4), (.int .u64 mCall5), (.int .u64 mFloor6), (.int .i64 mOp7), (.int .i64 mField8), (.int .i64 mItem9), (.int .i64 mNode10), (.int .u64 mSerial11), (.slice mRefsP12 mRefsL13 mRefsC14), (.int .u64 mValue15), (.int .i64 mCode16), (.int .u64 mSeq17), (.int .i64 mVoucher18), (.int .u64 mAt19), (.int .i64 mDist20), (.int .u64 mStamp21), (.slice mListP22 mListL23 mListC24)])] H K := by kernel_rfl
theorem den_ref22_Trace_asked {t1 : Option Addr} {mKind2 : Int} {mFrom3 : Int} {mTo4 : Int} {mCall5 : Int} {mFloor6 : Int} {mOp7 : Int} {mField8 : Int} {mItem9 : Int} {mNode10 : Int} {mSerial11 : Int} {mRefsP12 : Option Addr} {mRefsL13 : Nat} {mRefsC14 : Nat} {mValue15 : Int} {mCode16 : Int} {mSeq17 : Int} {mVoucher18 : Int} {mAt19 : Int} {mDist20 : Int} {mStamp21 : Int} {mListP22 : Option Addr} {mListL23 : Nat} {mListC24 : Nat} {H : Hp} {K : Value → Hp → Prop} (h : B_ref22_Trace_asked t1 mKind2 mFrom3 mTo4 mCall5 mFloor6 mOp7 mField8 mItem9 mNode10 mSerial11 mRefsP12 mRefsL13 mRefsC14 mValue15 mCode16 mSeq17 mVoucher18 mAt19 mDist20 mStamp21 mListP22 mListL23 mListC24 H K) : hcall PR f_ref22_Trace_asked ⟨[(.pointer t1), (.agg #[(.int .i64 mKind2), (.int .i64 mFrom3), (.int .i64 mTo4), (.int .u64 mCall5), (.int .u64 mFloor6), (.int .i64 mOp7), (.int .i64 mField8), (.int .i64 mItem9), (.int .i64 mNode10), (.int .u64 mSerial11), (.slice mRefsP12 mRefsL13 mRefsC14), (.int .u64 mValue15), (.int .i64 mCode16), (.int .u64 mSeq17), (.int .i64 mVoucher18), (.int .u64 mAt19), (.int .i64 mDist20), (.int .u64 mStamp21), (.slice mListP22 mListL23 mListC24)])]⟩ H K := denF_call Try.func74 PR_mixed (Eq.mp (E_ref22_Trace_asked t1 mKind2 mFrom3 mTo4 mCall5 mFloor6 mOp7 mField8 mItem9 mNode10 mSerial11 mRefsP12 mRefsL13 mRefsC14 mValue15 mCode16 mSeq17 mVoucher18 mAt19 mDist20 mStamp21 mListP22 mListL23 mListC24 H K) h)

def B_ref22_Trace_over (t1 : Option Addr) (found2 : Bool) (H : Hp) (K : Value → Hp → Prop) : Prop :=
 nilP t1 fun ta3 =>
 st (ta3.add 23) (.int .i64 0) H fun Hx4 =>
 nilP t1 fun ta5 =>
 st (ta5.add 26) (.slice none 0 0) Hx4 fun Hx6 =>
 (bif found2 then
 nilP t1 fun ta7 =>
 ldI .i64 (ta7.add 25) Hx6 fun Found8 =>
 nilP t1 fun ta9 =>
 st (ta9.add 25) (.int .i64 (IntKind.i64.wrap (Found8 + 1))) Hx6 fun Hx10 =>
 K (.tuple #[]) Hx10
else
 K (.tuple #[]) Hx6)
theorem E_ref22_Trace_over (t1 : Option Addr) (found2 : Bool) (H : Hp) (K : Value → Hp → Prop) : B_ref22_Trace_over t1 found2 H K = denF Try.prog Try.f75 .n [(.pointer t1), (.bool found2)] H K := by kernel_rfl
theorem den_ref22_Trace_over {t1 : Option Addr} {found2 : Bool} {H : Hp} {K : Value → Hp → Prop} (h : B_ref22_Trace_over t1 found2 H K) : hcall PR f_ref22_Trace_over ⟨[(.pointer t1), (.bool found2)]⟩ H K := denF_call Try.func75 PR_mixed (Eq.mp (E_ref22_Trace_over t1 found2 H K) h)

def B_ref22_Trace_next (t1 : Option Addr) (n2 : Int) (H : Hp) (K : Value → Hp → Prop) : Prop :=
 nilP t1 fun ta3 =>
 ldI .i64 (ta3.add 30) H fun atx4 =>
 nilP t1 fun ta5 =>
 st (ta5.add 30) (.int .i64 (IntKind.i64.wrap (atx4 + 1))) H fun Hx6 =>
 nilP t1 fun ta7 =>
 ldI .i64 (ta7.add 31) Hx6 fun q8 =>
 nilP t1 fun ta9 =>
 st (ta9.add 31) (.int .i64 (IntKind.i64.wrap (q8 + 1))) Hx6 fun Hx10 =>
 nilP t1 fun ta11 =>
 st (ta11.add 32) (.int .u64 0) Hx10 fun Hx12 =>
 nilP t1 fun ta13 =>
 st (ta13.add 33) (.int .u64 0) Hx12 fun Hx14 =>
 nilP t1 fun ta15 =>
 ldI .i64 (ta15.add 30) Hx14 fun atx16 =>
 K (.bool (decide ((atx16 : Int) < n2))) Hx14
theorem E_ref22_Trace_next (t1 : Option Addr) (n2 : Int) (H : Hp) (K : Value → Hp → Prop) : B_ref22_Trace_next t1 n2 H K = denF Try.prog Try.f76 .n [(.pointer t1), (.int .i64 n2)] H K := by kernel_rfl
theorem den_ref22_Trace_next {t1 : Option Addr} {n2 : Int} {H : Hp} {K : Value → Hp → Prop} (h : B_ref22_Trace_next t1 n2 H K) : hcall PR f_ref22_Trace_next ⟨[(.pointer t1), (.int .i64 n2)]⟩ H K := denF_call Try.func76 PR_mixed (Eq.mp (E_ref22_Trace_next t1 n2 H K) h)

def B_ref22_Trace_burying (t1 : Option Addr) (H : Hp) (K : Value → Hp → Prop) : Prop :=
 ∃ (I2 : Int → Hp → Prop) (m3 : Int → Hp → Nat), I2 0 H ∧ ∀ i5 : Int, ∀ Hx4 : Hp, I2 i5 Hx4 →
 nilP t1 fun ta6 =>
 ldSl (ta6.add 26) Hx4 fun ItemsP7 ItemsL8 ItemsC9 =>
 (bif (decide ((i5 : Int) < (ItemsL8 : Int))) then
 ∀ R10 : Hp → Prop, (∀ Hx11 : Hp, (
 I2 (IntKind.i64.wrap (i5 + 1)) Hx11 ∧ m3 (IntKind.i64.wrap (i5 + 1)) Hx11 < m3 i5 Hx4) → R10 Hx11) →
 nilP t1 fun ta12 =>
 ldSl (ta12.add 26) Hx4 fun ItemsP13 ItemsL14 ItemsC15 =>
 idxA ItemsP13 ItemsL14 i5 5 fun el16 =>
 ldB el16 Hx4 fun In17 =>
 (bif In17 then
 nilP t1 fun ta18 =>
 ldSl (ta18.add 26) Hx4 fun ItemsP19 ItemsL20 ItemsC21 =>
 idxA ItemsP19 ItemsL20 i5 5 fun el22 =>
 ldI .i64 (el22.add 4) Hx4 fun Code23 =>
 (bif ((Code23 : Int) == 2) then
 nilP t1 fun ta24 =>
 ldSl (ta24.add 29) Hx4 fun buryP25 buryL26 buryC27 =>
 newB (.cells #[(.int .i64 i5)] ty_int) Hx4 fun b28 Hx29 =>
 evW PR (Builtin.append_ #[ty_Sint, ty_Sint] ty_Sint #[(.slice buryP25 buryL26 buryC27), (.slice (some ⟨b28, 0, none⟩) 1 1)]) Hx29 fun v30 Hx31 =>
 asSl v30 fun tP32 tL33 tC34 =>
 nilP t1 fun ta35 =>
 st (ta35.add 29) (.slice tP32 tL33 tC34) Hx31 fun Hx36 =>
 R10 Hx36
else
 R10 Hx4)
else
 R10 Hx4)
else
 nilP t1 fun ta37 =>
 st (ta37.add 23) (.int .i64 3) Hx4 fun Hx38 =>
 nilP t1 fun ta39 =>
 st (ta39.add 30) (.int .i64 0) Hx38 fun Hx40 =>
 nilP t1 fun ta41 =>
 ldSl (ta41.add 29) Hx40 fun buryP42 buryL43 buryC44 =>
 (bif (((buryL43 : Int) : Int) == 0) then
 hcall PR f_ref22_Trace_over ⟨[(.pointer t1), (.bool true)]⟩ Hx40 fun v45 Hx46 =>
 K (.tuple #[]) Hx46
else
 K (.tuple #[]) Hx40))
theorem E_ref22_Trace_burying (t1 : Option Addr) (H : Hp) (K : Value → Hp → Prop) : B_ref22_Trace_burying t1 H K = denF Try.prog Try.f77 (.seq none (.seq none .n (.sub (.loop ⟨[(2, .int .i64)], [0]⟩ (.seq none .n (.seq (some ⟨[], [0, 2]⟩) .n .n))))) .n) [(.pointer t1)] H K := by kernel_rfl
theorem den_ref22_Trace_burying {t1 : Option Addr} {H : Hp} {K : Value → Hp → Prop} (h : B_ref22_Trace_burying t1 H K) : hcall PR f_ref22_Trace_burying ⟨[(.pointer t1)]⟩ H K := denF_call Try.func77 PR_mixed (Eq.mp (E_ref22_Trace_burying t1 H K) h)

def B_ref22_Trace_keep (t1 : Option Addr) (node2 : Int) (stamp3 : Int) (H : Hp) (K : Value → Hp → Prop) : Prop :=
 hcall PR f_ref22_Trace_stamp ⟨[(.pointer t1), (.int .i64 node2)]⟩ H fun v4 Hx5 =>
 tup2 v4 fun v6 v7 =>
 asI .u64 v6 fun t8 =>
 asB v7 fun t9 =>
 (bif t9 then
 K (.bool ((t8 : Int) == stamp3)) Hx5
else
 ∀ R10 : Int → Hp → Prop, (∀ i12 : Int, ∀ Hx11 : Hp, (
 ∀ R13 : Hp → Prop, (∀ Hx14 : Hp, (
 nilP t1 fun ta15 =>
 ldSl (ta15.add 28) Hx14 fun stampsP16 stampsL17 stampsC18 =>
 slcD stampsP16 stampsL17 stampsC18 none (some i12) 1 fun sP19 sL20 sC21 =>
 nilP t1 fun ta22 =>
 ldSl (ta22.add 28) Hx14 fun stampsP23 stampsL24 stampsC25 =>
 slcD stampsP23 stampsL24 stampsC25 (some i12) none 1 fun sP26 sL27 sC28 =>
 (newB (.cells #[] ty_uint64) Hx14 fun b29 Hx30 =>
 (ldSl (ta22.add 28) Hx30 fun stampsP31 stampsL32 stampsC33 =>
 ((.slice stampsP31 stampsL32 stampsC33) : Value) = (.slice stampsP23 stampsL24 stampsC25)) ∧
 (ldSl (ta15.add 28) Hx30 fun stampsP34 stampsL35 stampsC36 =>
 ((.slice stampsP34 stampsL35 stampsC36) : Value) = (.slice stampsP16 stampsL17 stampsC18)) ∧
 (evW PR (Builtin.append_ #[ty_Suint64, ty_Suint64] ty_Suint64 #[(.slice (some ⟨b29, 0, none⟩) 0 0), (.slice sP19 sL20 sC21)]) Hx30 fun v37 Hx38 =>
 asSl v37 fun tP39 tL40 tC41 =>
 (ldSl (ta22.add 28) Hx38 fun stampsP42 stampsL43 stampsC44 =>
 ((.slice stampsP42 stampsL43 stampsC44) : Value) = (.slice stampsP23 stampsL24 stampsC25)) ∧
 newB (.cells #[(.int .u64 stamp3)] ty_uint64) Hx38 fun b45 Hx46 =>
 (ldSl (ta22.add 28) Hx46 fun stampsP47 stampsL48 stampsC49 =>
 ((.slice stampsP47 stampsL48 stampsC49) : Value) = (.slice stampsP23 stampsL24 stampsC25)) ∧
 evW PR (Builtin.append_ #[ty_Suint64, ty_Suint64] ty_Suint64 #[(.slice tP39 tL40 tC41), (.slice (some ⟨b45, 0, none⟩) 1 1)]) Hx46 fun v50 Hx51 =>
 asSl v50 fun tP52 tL53 tC54 =>
 (ldSl (ta22.add 28) Hx51 fun stampsP55 stampsL56 stampsC57 =>
 ((.slice stampsP55 stampsL56 stampsC57) : Value) = (.slice stampsP23 stampsL24 stampsC25)) ∧
 evW PR (Builtin.append_ #[ty_Suint64, ty_Suint64] ty_Suint64 #[(.slice tP52 tL53 tC54), (.slice sP26 sL27 sC28)]) Hx51 fun v58 Hx59 =>
 asSl v58 fun tP60 tL61 tC62 =>
 nilP t1 fun ta63 =>
 st (ta63.add 28) (.slice tP60 tL61 tC62) Hx59 fun Hx64 =>
 K (.bool true) Hx64) ∧
 (newB (.cells #[(.int .u64 stamp3)] ty_uint64) Hx30 fun b65 Hx66 =>
 (ldSl (ta22.add 28) Hx66 fun stampsP67 stampsL68 stampsC69 =>
 ((.slice stampsP67 stampsL68 stampsC69) : Value) = (.slice stampsP23 stampsL24 stampsC25)) ∧
 (ldSl (ta15.add 28) Hx66 fun stampsP70 stampsL71 stampsC72 =>
 ((.slice stampsP70 stampsL71 stampsC72) : Value) = (.slice stampsP16 stampsL17 stampsC18)) ∧
 evW PR (Builtin.append_ #[ty_Suint64, ty_Suint64] ty_Suint64 #[(.slice (some ⟨b29, 0, none⟩) 0 0), (.slice sP19 sL20 sC21)]) Hx66 fun v73 Hx74 =>
 asSl v73 fun tP75 tL76 tC77 =>
 (ldSl (ta22.add 28) Hx74 fun stampsP78 stampsL79 stampsC80 =>
 ((.slice stampsP78 stampsL79 stampsC80) : Value) = (.slice stampsP23 stampsL24 stampsC25)) ∧
 evW PR (Builtin.append_ #[ty_Suint64, ty_Suint64] ty_Suint64 #[(.slice tP75 tL76 tC77), (.slice (some ⟨b65, 0, none⟩) 1 1)]) Hx74 fun v81 Hx82 =>
 asSl v81 fun tP83 tL84 tC85 =>
 (ldSl (ta22.add 28) Hx82 fun stampsP86 stampsL87 stampsC88 =>
 ((.slice stampsP86 stampsL87 stampsC88) : Value) = (.slice stampsP23 stampsL24 stampsC25)) ∧
 evW PR (Builtin.append_ #[ty_Suint64, ty_Suint64] ty_Suint64 #[(.slice tP83 tL84 tC85), (.slice sP26 sL27 sC28)]) Hx82 fun v89 Hx90 =>
 asSl v89 fun tP91 tL92 tC93 =>
 nilP t1 fun ta94 =>
 st (ta94.add 28) (.slice tP91 tL92 tC93) Hx90 fun Hx95 =>
 K (.bool true) Hx95)) ∧
 (newB (.cells #[(.int .u64 stamp3)] ty_uint64) Hx14 fun b96 Hx97 =>
 (ldSl (ta22.add 28) Hx97 fun stampsP98 stampsL99 stampsC100 =>
 ((.slice stampsP98 stampsL99 stampsC100) : Value) = (.slice stampsP23 stampsL24 stampsC25)) ∧
 (ldSl (ta15.add 28) Hx97 fun stampsP101 stampsL102 stampsC103 =>
 ((.slice stampsP101 stampsL102 stampsC103) : Value) = (.slice stampsP16 stampsL17 stampsC18)) ∧
 newB (.cells #[] ty_uint64) Hx97 fun b104 Hx105 =>
 (ldSl (ta22.add 28) Hx105 fun stampsP106 stampsL107 stampsC108 =>
 ((.slice stampsP106 stampsL107 stampsC108) : Value) = (.slice stampsP23 stampsL24 stampsC25)) ∧
 (ldSl (ta15.add 28) Hx105 fun stampsP109 stampsL110 stampsC111 =>
 ((.slice stampsP109 stampsL110 stampsC111) : Value) = (.slice stampsP16 stampsL17 stampsC18)) ∧
 evW PR (Builtin.append_ #[ty_Suint64, ty_Suint64] ty_Suint64 #[(.slice (some ⟨b104, 0, none⟩) 0 0), (.slice sP19 sL20 sC21)]) Hx105 fun v112 Hx113 =>
 asSl v112 fun tP114 tL115 tC116 =>
 (ldSl (ta22.add 28) Hx113 fun stampsP117 stampsL118 stampsC119 =>
 ((.slice stampsP117 stampsL118 stampsC119) : Value) = (.slice stampsP23 stampsL24 stampsC25)) ∧
 evW PR (Builtin.append_ #[ty_Suint64, ty_Suint64] ty_Suint64 #[(.slice tP114 tL115 tC116), (.slice (some ⟨b96, 0, none⟩) 1 1)]) Hx113 fun v120 Hx121 =>
 asSl v120 fun tP122 tL123 tC124 =>
 (ldSl (ta22.add 28) Hx121 fun stampsP125 stampsL126 stampsC127 =>
 ((.slice stampsP125 stampsL126 stampsC127) : Value) = (.slice stampsP23 stampsL24 stampsC25)) ∧
 evW PR (Builtin.append_ #[ty_Suint64, ty_Suint64] ty_Suint64 #[(.slice tP122 tL123 tC124), (.slice sP26 sL27 sC28)]) Hx121 fun v128 Hx129 =>
 asSl v128 fun tP130 tL131 tC132 =>
 nilP t1 fun ta133 =>
 st (ta133.add 28) (.slice tP130 tL131 tC132) Hx129 fun Hx134 =>
 K (.bool true) Hx134)) → R13 Hx14) →
 nilP t1 fun ta135 =>
 ldSl (ta135.add 27) Hx11 fun nodesP136 nodesL137 nodesC138 =>
 slcD nodesP136 nodesL137 nodesC138 none (some i12) 1 fun sP139 sL140 sC141 =>
 nilP t1 fun ta142 =>
 ldSl (ta142.add 27) Hx11 fun nodesP143 nodesL144 nodesC145 =>
 slcD nodesP143 nodesL144 nodesC145 (some i12) none 1 fun sP146 sL147 sC148 =>
 (newB (.cells #[] ty_uint64) Hx11 fun b149 Hx150 =>
 (ldSl (ta142.add 27) Hx150 fun nodesP151 nodesL152 nodesC153 =>
 ((.slice nodesP151 nodesL152 nodesC153) : Value) = (.slice nodesP143 nodesL144 nodesC145)) ∧
 (ldSl (ta135.add 27) Hx150 fun nodesP154 nodesL155 nodesC156 =>
 ((.slice nodesP154 nodesL155 nodesC156) : Value) = (.slice nodesP136 nodesL137 nodesC138)) ∧
 (evW PR (Builtin.append_ #[ty_Suint64, ty_Suint64] ty_Suint64 #[(.slice (some ⟨b149, 0, none⟩) 0 0), (.slice sP139 sL140 sC141)]) Hx150 fun v157 Hx158 =>
 asSl v157 fun tP159 tL160 tC161 =>
 (ldSl (ta142.add 27) Hx158 fun nodesP162 nodesL163 nodesC164 =>
 ((.slice nodesP162 nodesL163 nodesC164) : Value) = (.slice nodesP143 nodesL144 nodesC145)) ∧
 newB (.cells #[(.int .u64 (IntKind.u64.wrap node2))] ty_uint64) Hx158 fun b165 Hx166 =>
 (ldSl (ta142.add 27) Hx166 fun nodesP167 nodesL168 nodesC169 =>
 ((.slice nodesP167 nodesL168 nodesC169) : Value) = (.slice nodesP143 nodesL144 nodesC145)) ∧
 evW PR (Builtin.append_ #[ty_Suint64, ty_Suint64] ty_Suint64 #[(.slice tP159 tL160 tC161), (.slice (some ⟨b165, 0, none⟩) 1 1)]) Hx166 fun v170 Hx171 =>
 asSl v170 fun tP172 tL173 tC174 =>
 (ldSl (ta142.add 27) Hx171 fun nodesP175 nodesL176 nodesC177 =>
 ((.slice nodesP175 nodesL176 nodesC177) : Value) = (.slice nodesP143 nodesL144 nodesC145)) ∧
 evW PR (Builtin.append_ #[ty_Suint64, ty_Suint64] ty_Suint64 #[(.slice tP172 tL173 tC174), (.slice sP146 sL147 sC148)]) Hx171 fun v178 Hx179 =>
 asSl v178 fun tP180 tL181 tC182 =>
 nilP t1 fun ta183 =>
 st (ta183.add 27) (.slice tP180 tL181 tC182) Hx179 fun Hx184 =>
 R13 Hx184) ∧
 (newB (.cells #[(.int .u64 (IntKind.u64.wrap node2))] ty_uint64) Hx150 fun b185 Hx186 =>
 (ldSl (ta142.add 27) Hx186 fun nodesP187 nodesL188 nodesC189 =>
 ((.slice nodesP187 nodesL188 nodesC189) : Value) = (.slice nodesP143 nodesL144 nodesC145)) ∧
 (ldSl (ta135.add 27) Hx186 fun nodesP190 nodesL191 nodesC192 =>
 ((.slice nodesP190 nodesL191 nodesC192) : Value) = (.slice nodesP136 nodesL137 nodesC138)) ∧
 evW PR (Builtin.append_ #[ty_Suint64, ty_Suint64] ty_Suint64 #[(.slice (some ⟨b149, 0, none⟩) 0 0), (.slice sP139 sL140 sC141)]) Hx186 fun v193 Hx194 =>
 asSl v193 fun tP195 tL196 tC197 =>
 (ldSl (ta142.add 27) Hx194 fun nodesP198 nodesL199 nodesC200 =>
 ((.slice nodesP198 nodesL199 nodesC200) : Value) = (.slice nodesP143 nodesL144 nodesC145)) ∧
 evW PR (Builtin.append_ #[ty_Suint64, ty_Suint64] ty_Suint64 #[(.slice tP195 tL196 tC197), (.slice (some ⟨b185, 0, none⟩) 1 1)]) Hx194 fun v201 Hx202 =>
 asSl v201 fun tP203 tL204 tC205 =>
 (ldSl (ta142.add 27) Hx202 fun nodesP206 nodesL207 nodesC208 =>
 ((.slice nodesP206 nodesL207 nodesC208) : Value) = (.slice nodesP143 nodesL144 nodesC145)) ∧
 evW PR (Builtin.append_ #[ty_Suint64, ty_Suint64] ty_Suint64 #[(.slice tP203 tL204 tC205), (.slice sP146 sL147 sC148)]) Hx202 fun v209 Hx210 =>
 asSl v209 fun tP211 tL212 tC213 =>
 nilP t1 fun ta214 =>
 st (ta214.add 27) (.slice tP211 tL212 tC213) Hx210 fun Hx215 =>
 R13 Hx215)) ∧
 (newB (.cells #[(.int .u64 (IntKind.u64.wrap node2))] ty_uint64) Hx11 fun b216 Hx217 =>
 (ldSl (ta142.add 27) Hx217 fun nodesP218 nodesL219 nodesC220 =>
 ((.slice nodesP218 nodesL219 nodesC220) : Value) = (.slice nodesP143 nodesL144 nodesC145)) ∧
 (ldSl (ta135.add 27) Hx217 fun nodesP221 nodesL222 nodesC223 =>
 ((.slice nodesP221 nodesL222 nodesC223) : Value) = (.slice nodesP136 nodesL137 nodesC138)) ∧
 newB (.cells #[] ty_uint64) Hx217 fun b224 Hx225 =>
 (ldSl (ta142.add 27) Hx225 fun nodesP226 nodesL227 nodesC228 =>
 ((.slice nodesP226 nodesL227 nodesC228) : Value) = (.slice nodesP143 nodesL144 nodesC145)) ∧
 (ldSl (ta135.add 27) Hx225 fun nodesP229 nodesL230 nodesC231 =>
 ((.slice nodesP229 nodesL230 nodesC231) : Value) = (.slice nodesP136 nodesL137 nodesC138)) ∧
 evW PR (Builtin.append_ #[ty_Suint64, ty_Suint64] ty_Suint64 #[(.slice (some ⟨b224, 0, none⟩) 0 0), (.slice sP139 sL140 sC141)]) Hx225 fun v232 Hx233 =>
 asSl v232 fun tP234 tL235 tC236 =>
 (ldSl (ta142.add 27) Hx233 fun nodesP237 nodesL238 nodesC239 =>
 ((.slice nodesP237 nodesL238 nodesC239) : Value) = (.slice nodesP143 nodesL144 nodesC145)) ∧
 evW PR (Builtin.append_ #[ty_Suint64, ty_Suint64] ty_Suint64 #[(.slice tP234 tL235 tC236), (.slice (some ⟨b216, 0, none⟩) 1 1)]) Hx233 fun v240 Hx241 =>
 asSl v240 fun tP242 tL243 tC244 =>
 (ldSl (ta142.add 27) Hx241 fun nodesP245 nodesL246 nodesC247 =>
 ((.slice nodesP245 nodesL246 nodesC247) : Value) = (.slice nodesP143 nodesL144 nodesC145)) ∧
 evW PR (Builtin.append_ #[ty_Suint64, ty_Suint64] ty_Suint64 #[(.slice tP242 tL243 tC244), (.slice sP146 sL147 sC148)]) Hx241 fun v248 Hx249 =>
 asSl v248 fun tP250 tL251 tC252 =>
 nilP t1 fun ta253 =>
 st (ta253.add 27) (.slice tP250 tL251 tC252) Hx249 fun Hx254 =>
 R13 Hx254)) → R10 i12 Hx11) →
 ∃ (I255 : Int → Hp → Prop) (m256 : Int → Hp → Nat), I255 0 Hx5 ∧ ∀ i258 : Int, ∀ Hx257 : Hp, I255 i258 Hx257 →
 nilP t1 fun ta259 =>
 ldSl (ta259.add 27) Hx257 fun nodesP260 nodesL261 nodesC262 =>
 (bif (decide ((i258 : Int) < (nodesL261 : Int))) then
 nilP t1 fun ta263 =>
 ldSl (ta263.add 27) Hx257 fun nodesP264 nodesL265 nodesC266 =>
 idxA nodesP264 nodesL265 i258 1 fun el267 =>
 ldI .u64 el267 Hx257 fun t268 =>
 (bif (decide ((t268 : Int) < (IntKind.u64.wrap node2))) then
 I255 (IntKind.i64.wrap (i258 + 1)) Hx257 ∧ m256 (IntKind.i64.wrap (i258 + 1)) Hx257 < m256 i258 Hx257
else
 R10 i258 Hx257)
else
 R10 i258 Hx257))
theorem E_ref22_Trace_keep (t1 : Option Addr) (node2 : Int) (stamp3 : Int) (H : Hp) (K : Value → Hp → Prop) : B_ref22_Trace_keep t1 node2 stamp3 H K = denF Try.prog Try.f100 (.seq none .n (.seq none .n (.seq none .n (.seq none .n (.seq (some ⟨[(9, .int .i64)], [0, 1, 2]⟩) (.sub (.loop ⟨[(9, .int .i64)], [0, 1, 2]⟩ .n)) (.seq (some ⟨[], [0, 2, 9]⟩) .n .n)))))) [(.pointer t1), (.int .i64 node2), (.int .u64 stamp3)] H K := by kernel_rfl
theorem den_ref22_Trace_keep {t1 : Option Addr} {node2 : Int} {stamp3 : Int} {H : Hp} {K : Value → Hp → Prop} (h : B_ref22_Trace_keep t1 node2 stamp3 H K) : hcall PR f_ref22_Trace_keep ⟨[(.pointer t1), (.int .i64 node2), (.int .u64 stamp3)]⟩ H K := denF_call Try.func100 PR_mixed (Eq.mp (E_ref22_Trace_keep t1 node2 stamp3 H K) h)

def B_ref22_Trace_more (t1 : Option Addr) (xIn2 : Bool) (xNode3 : Int) (xNode4 : Int) (xSerial5 : Int) (xCode6 : Int) (lP7 : Option Addr) (lL8 : Nat) (lC9 : Nat) (H : Hp) (K : Value → Hp → Prop) : Prop :=
 newB (.cells #[(.bool xIn2), (.int .i64 xNode3), (.int .i64 xNode4), (.int .u64 xSerial5), (.int .i64 xCode6)] ty_trace_Item) H fun b10 Hx11 =>
 ∃ (I12 : Int → Hp → Prop) (m13 : Int → Hp → Nat), I12 0 Hx11 ∧ ∀ i15 : Int, ∀ Hx14 : Hp, I12 i15 Hx14 →
 (bif (decide ((i15 : Int) < (lL8 : Int))) then
 ∀ R16 : Hp → Prop, (∀ Hx17 : Hp, (
 I12 (IntKind.i64.wrap (i15 + 1)) Hx17 ∧ m13 (IntKind.i64.wrap (i15 + 1)) Hx17 < m13 i15 Hx14) → R16 Hx17) →
 ldI .i64 ⟨b10, 1, none⟩ Hx14 fun Node18 =>
 ldI .i64 ⟨b10, 1, none⟩ Hx14 fun Node19 =>
 idxA lP7 lL8 i15 1 fun el20 =>
 ldI .u64 el20 Hx14 fun t21 =>
 newB (.cells #[(.bool false), (.int .i64 0), (.int .i64 0), (.int .u64 0), (.int .i64 0)] ty_trace_Item) Hx14 fun b22 Hx23 =>
 (ldI .u64 el20 Hx23 fun t24 =>
 ((.int .u64 t24) : Value) = (.int .u64 t21)) ∧
 (ldI .i64 ⟨b10, 1, none⟩ Hx23 fun Node25 =>
 ((.int .i64 Node25) : Value) = (.int .i64 Node19)) ∧
 (ldI .i64 ⟨b10, 1, none⟩ Hx23 fun Node26 =>
 ((.int .i64 Node26) : Value) = (.int .i64 Node18)) ∧
 st ⟨b22, 0, none⟩ (.bool true) Hx23 fun Hx27 =>
 st ⟨b22, 1, none⟩ (.int .i64 Node18) Hx27 fun Hx28 =>
 st ⟨b22, 2, none⟩ (.int .i64 Node19) Hx28 fun Hx29 =>
 st ⟨b22, 3, none⟩ (.int .u64 t21) Hx29 fun Hx30 =>
 st ⟨b22, 4, none⟩ (.int .i64 0) Hx30 fun Hx31 =>
 ∀ R32 : Hp → Prop, (∀ Hx33 : Hp, (
 ∀ R34 : Hp → Prop, (∀ Hx35 : Hp, (
 ∃ (I36 : Bool → Int → Hp → Prop) (m37 : Bool → Int → Hp → Nat), I36 false 0 Hx35 ∧ ∀ has39 : Bool, ∀ k40 : Int, ∀ Hx38 : Hp, I36 has39 k40 Hx38 →
 nilP t1 fun ta41 =>
 ldSl (ta41.add 26) Hx38 fun ItemsP42 ItemsL43 ItemsC44 =>
 (bif (decide ((k40 : Int) < (ItemsL43 : Int))) then
 ∀ R45 : Bool → Hp → Prop, (∀ has47 : Bool, ∀ Hx46 : Hp, (
 I36 has47 (IntKind.i64.wrap (k40 + 1)) Hx46 ∧ m37 has47 (IntKind.i64.wrap (k40 + 1)) Hx46 < m37 has39 k40 Hx38) → R45 has47 Hx46) →
 nilP t1 fun ta48 =>
 ldSl (ta48.add 26) Hx38 fun ItemsP49 ItemsL50 ItemsC51 =>
 idxA ItemsP49 ItemsL50 k40 5 fun el52 =>
 ldB el52 Hx38 fun In53 =>
 ldI .i64 (el52.add 1) Hx38 fun Node54 =>
 ldI .i64 (el52.add 2) Hx38 fun Node55 =>
 ldI .u64 (el52.add 3) Hx38 fun Serial56 =>
 ldI .i64 (el52.add 4) Hx38 fun Code57 =>
 newB (.cells #[(.bool false), (.int .i64 0), (.int .i64 0), (.int .u64 0), (.int .i64 0)] ty_trace_Item) Hx38 fun b58 Hx59 =>
 st ⟨b58, 0, none⟩ (.bool In53) Hx59 fun Hx60 =>
 st ⟨b58, 1, none⟩ (.int .i64 Node54) Hx60 fun Hx61 =>
 st ⟨b58, 2, none⟩ (.int .i64 Node55) Hx61 fun Hx62 =>
 st ⟨b58, 3, none⟩ (.int .u64 Serial56) Hx62 fun Hx63 =>
 st ⟨b58, 4, none⟩ (.int .i64 Code57) Hx63 fun Hx64 =>
 (bif has39 then
 R45 true Hx64
else
 ldB ⟨b58, 0, none⟩ Hx64 fun In65 =>
 ldB ⟨b22, 0, none⟩ Hx64 fun In66 =>
 (bif (In65 == In66) then
 ldI .i64 ⟨b58, 1, none⟩ Hx64 fun Node67 =>
 ldI .i64 ⟨b22, 1, none⟩ Hx64 fun Node68 =>
 (bif ((Node67 : Int) == Node68) then
 ldI .i64 ⟨b58, 2, none⟩ Hx64 fun Node69 =>
 ldI .u64 ⟨b58, 3, none⟩ Hx64 fun Serial70 =>
 ldI .i64 ⟨b22, 2, none⟩ Hx64 fun Node71 =>
 ldI .u64 ⟨b22, 3, none⟩ Hx64 fun Serial72 =>
 evR PR (aggEq .eql ty_api_ID #[(.int .i64 Node69), (.int .u64 Serial70)] #[(.int .i64 Node71), (.int .u64 Serial72)]) Hx64 fun v73 =>
 asB v73 fun eq74 =>
 R45 eq74 Hx64
else
 R45 false Hx64)
else
 R45 false Hx64))
else
 (bif has39 then
 R16 Hx38
else
 nilP t1 fun ta75 =>
 ldSl (ta75.add 26) Hx38 fun ItemsP76 ItemsL77 ItemsC78 =>
 (bif (decide (((ItemsL77 : Int) : Int) ≥ 1000)) then
 K (.bool false) Hx38
else
 nilP t1 fun ta79 =>
 ldSl (ta79.add 26) Hx38 fun ItemsP80 ItemsL81 ItemsC82 =>
 ldB ⟨b22, 0, none⟩ Hx38 fun In83 =>
 ldI .i64 ⟨b22, 1, none⟩ Hx38 fun Node84 =>
 ldI .i64 ⟨b22, 2, none⟩ Hx38 fun Node85 =>
 ldI .u64 ⟨b22, 3, none⟩ Hx38 fun Serial86 =>
 ldI .i64 ⟨b22, 4, none⟩ Hx38 fun Code87 =>
 newB (.cells #[(.bool In83), (.int .i64 Node84), (.int .i64 Node85), (.int .u64 Serial86), (.int .i64 Code87)] ty_trace_Item) Hx38 fun b88 Hx89 =>
 (ldSl (ta79.add 26) Hx89 fun ItemsP90 ItemsL91 ItemsC92 =>
 ((.slice ItemsP90 ItemsL91 ItemsC92) : Value) = (.slice ItemsP80 ItemsL81 ItemsC82)) ∧
 evW PR (Builtin.append_ #[ty_Strace_Item, ty_Strace_Item] ty_Strace_Item #[(.slice ItemsP80 ItemsL81 ItemsC82), (.slice (some ⟨b88, 0, none⟩) 1 1)]) Hx89 fun v93 Hx94 =>
 asSl v93 fun tP95 tL96 tC97 =>
 nilP t1 fun ta98 =>
 st (ta98.add 26) (.slice tP95 tL96 tC97) Hx94 fun Hx99 =>
 R16 Hx99)))) → R34 Hx35) →
 ldB ⟨b10, 0, none⟩ Hx33 fun In100 =>
 (bif In100 then
 idxA lP7 lL8 i15 1 fun el101 =>
 ldI .u64 el101 Hx33 fun t102 =>
 (bif (decide ((t102 : Int) < 1)) then
 K (.bool false) Hx33
else
 idxA lP7 lL8 i15 1 fun el103 =>
 ldI .u64 el103 Hx33 fun t104 =>
 nilP t1 fun ta105 =>
 ldI .i64 ta105 Hx33 fun Nodes106 =>
 (bif (decide ((t104 : Int) > (IntKind.u64.wrap Nodes106))) then
 K (.bool false) Hx33
else
 idxA lP7 lL8 i15 1 fun el107 =>
 ldI .u64 el107 Hx33 fun t108 =>
 ldI .i64 ⟨b10, 2, none⟩ Hx33 fun Node109 =>
 (bif ((t108 : Int) == (IntKind.u64.wrap Node109)) then
 K (.bool false) Hx33
else
 idxA lP7 lL8 i15 1 fun el110 =>
 ldI .u64 el110 Hx33 fun t111 =>
 ldI .i64 ⟨b10, 2, none⟩ Hx33 fun Node112 =>
 ldI .u64 ⟨b10, 3, none⟩ Hx33 fun Serial113 =>
 st ⟨b22, 0, none⟩ (.bool false) Hx33 fun Hx114 =>
 st ⟨b22, 1, none⟩ (.int .i64 (IntKind.i64.wrap t111)) Hx114 fun Hx115 =>
 st ⟨b22, 2, none⟩ (.int .i64 Node112) Hx115 fun Hx116 =>
 st ⟨b22, 3, none⟩ (.int .u64 Serial113) Hx116 fun Hx117 =>
 st ⟨b22, 4, none⟩ (.int .i64 0) Hx117 fun Hx118 =>
 R34 Hx118)))
else
 R34 Hx33)) → R32 Hx33) →
 ldB ⟨b10, 0, none⟩ Hx31 fun In119 =>
 (bif (!In119) then
 idxA lP7 lL8 i15 1 fun el120 =>
 ldI .u64 el120 Hx31 fun t121 =>
 (bif (decide ((t121 : Int) < 1)) then
 K (.bool false) Hx31
else
 idxA lP7 lL8 i15 1 fun el122 =>
 ldI .u64 el122 Hx31 fun t123 =>
 (bif (decide ((t123 : Int) > 72057594037927935)) then
 K (.bool false) Hx31
else
 R32 Hx31))
else
 R32 Hx31)
else
 K (.bool true) Hx14)
theorem E_ref22_Trace_more (t1 : Option Addr) (xIn2 : Bool) (xNode3 : Int) (xNode4 : Int) (xSerial5 : Int) (xCode6 : Int) (lP7 : Option Addr) (lL8 : Nat) (lC9 : Nat) (H : Hp) (K : Value → Hp → Prop) : B_ref22_Trace_more t1 xIn2 xNode3 xNode4 xSerial5 xCode6 lP7 lL8 lC9 H K = denF Try.prog Try.f101 (.seq none .n (.seq none (.seq none .n (.sub (.loop ⟨[(7, .int .i64)], [0, 2, 4]⟩ (.seq none .n (.seq (some ⟨[], [0, 2, 4, 7]⟩) (.sub (.seq none .n (.seq (some ⟨[], [0, 2, 4, 7, 8]⟩) .n (.seq (some ⟨[], [0, 2, 4, 7, 8]⟩) .n (.seq none .n (.seq none (.seq none .n (.sub (.loop ⟨[(9, .bool), (10, .int .i64)], [0, 2, 4, 7, 8]⟩ (.seq none .n (.seq (some ⟨[(9, .bool)], [0, 2, 4, 7, 8, 10]⟩) .n .n))))) .n)))))) .n))))) .n)) [(.pointer t1), (.agg #[(.bool xIn2), (.int .i64 xNode3), (.int .i64 xNode4), (.int .u64 xSerial5), (.int .i64 xCode6)]), (.slice lP7 lL8 lC9)] H K := by kernel_rfl
theorem den_ref22_Trace_more {t1 : Option Addr} {xIn2 : Bool} {xNode3 : Int} {xNode4 : Int} {xSerial5 : Int} {xCode6 : Int} {lP7 : Option Addr} {lL8 : Nat} {lC9 : Nat} {H : Hp} {K : Value → Hp → Prop} (h : B_ref22_Trace_more t1 xIn2 xNode3 xNode4 xSerial5 xCode6 lP7 lL8 lC9 H K) : hcall PR f_ref22_Trace_more ⟨[(.pointer t1), (.agg #[(.bool xIn2), (.int .i64 xNode3), (.int .i64 xNode4), (.int .u64 xSerial5), (.int .i64 xCode6)]), (.slice lP7 lL8 lC9)]⟩ H K := denF_call Try.func101 PR_mixed (Eq.mp (E_ref22_Trace_more t1 xIn2 xNode3 xNode4 xSerial5 xCode6 lP7 lL8 lC9 H K) h)

end Go.Proofs.Ytknejebggegfjaa

namespace Go.Proofs.Ytknejebggegfjaa
open Go
set_option linter.unusedVariables false
set_option maxRecDepth 100000
end Go.Proofs.Ytknejebggegfjaa

namespace Go.Proofs.Ytknejebggegfjaa
set_option linter.unusedSimpArgs false
set_option linter.unusedVariables false
set_option maxRecDepth 20000
open Go
section
variable {H0 H : Hp} {L M N : List Prt} {i k : Nat} {K : Value → Hp → Prop}
theorem u_one {l : List Int} : ∀ z ∈ l.map (Value.int .u64), one z = true := fun z hz => by
  obtain ⟨x, _, rfl⟩ := List.mem_map.1 hz
  rfl
end
end Go.Proofs.Ytknejebggegfjaa

namespace Go.Proofs.Ytknejebggegfjaa
open Go
set_option linter.unusedVariables false
set_option maxRecDepth 100000
def B_ref3_Past (atx1 : Int) (span2 : Int) (now3 : Int) (H : Hp) (K : Value → Hp → Prop) : Prop :=
 (bif (decide ((now3 : Int) ≥ atx1)) then
 K (.bool (decide (((IntKind.u64.wrap (now3 - atx1)) : Int) ≥ span2))) H
else
 K (.bool false) H)
theorem E_ref3_Past (atx1 : Int) (span2 : Int) (now3 : Int) (H : Hp) (K : Value → Hp → Prop) : B_ref3_Past atx1 span2 now3 H K = denF Try.prog Try.f70 .n [(.int .u64 atx1), (.int .u64 span2), (.int .u64 now3)] H K := by kernel_rfl
theorem den_ref3_Past {atx1 : Int} {span2 : Int} {now3 : Int} {H : Hp} {K : Value → Hp → Prop} (h : B_ref3_Past atx1 span2 now3 H K) : hcall PR f_ref3_Past ⟨[(.int .u64 atx1), (.int .u64 span2), (.int .u64 now3)]⟩ H K := denF_call Try.func70 PR_mixed (Eq.mp (E_ref3_Past atx1 span2 now3 H K) h)

def B_ref3_Wait (wait1 : Int) (first2 : Int) (most3 : Int) (H : Hp) (K : Value → Hp → Prop) : Prop :=
 (bif ((wait1 : Int) == 0) then
 K (.int .u64 (if most3 < first2 then most3 else first2)) H
else
 (2 : Int) ≠ 0 ∧
 (bif (decide ((wait1 : Int) > (IntKind.u64.wrap (Int.tdiv most3 2)))) then
 K (.int .u64 most3) H
else
 K (.int .u64 (if most3 < (IntKind.u64.wrap (2 * wait1)) then most3 else (IntKind.u64.wrap (2 * wait1)))) H))
theorem E_ref3_Wait (wait1 : Int) (first2 : Int) (most3 : Int) (H : Hp) (K : Value → Hp → Prop) : B_ref3_Wait wait1 first2 most3 H K = denF Try.prog Try.f71 .n [(.int .u64 wait1), (.int .u64 first2), (.int .u64 most3)] H K := by kernel_rfl
theorem den_ref3_Wait {wait1 : Int} {first2 : Int} {most3 : Int} {H : Hp} {K : Value → Hp → Prop} (h : B_ref3_Wait wait1 first2 most3 H K) : hcall PR f_ref3_Wait ⟨[(.int .u64 wait1), (.int .u64 first2), (.int .u64 most3)]⟩ H K := denF_call Try.func71 PR_mixed (Eq.mp (E_ref3_Wait wait1 first2 most3 H K) h)

end Go.Proofs.Ytknejebggegfjaa

namespace Go.Proofs.Ytknejebggegfjaa
set_option linter.unusedSimpArgs false
set_option linter.unusedVariables false
set_option maxRecDepth 20000
open Go
structure RX where
  ip : Option Addr
  ic : Nat
  np : Option Addr
  nc : Nat
  sp : Option Addr
  sc : Nat
  bp : Option Addr
  bc : Nat
  nodes : List Int
  stamps : List Int
  bury : List Int
  atx : Int
  q : Int
  se : Int
  w : Int
  T : Nat
def rtB (b : Nat) (c : Cf) (nd st num fo : Int) (iv nv sv bv : Value) (atx q se w : Int) (T : Nat) : Prt := Prt.one b (.cells #[.int .i64 c.a0, .int .i64 c.a1, .int .i64 c.a2, .int .i64 c.a3, .int .i64 c.a4, .int .i64 c.a5, .int .i64 c.a6, .int .i64 c.a7, .int .i64 c.a8, .int .i64 c.a9, .int .i64 c.a10, .int .u64 c.a11, .int .u64 c.a12, .int .u64 c.a13, .int .u64 c.a14, .int .u64 c.a15, .int .u64 c.a16, .int .i64 c.a17, .int .i64 c.a18, .int .i64 c.a19, .int .u64 c.a20, .int .u64 c.a21, .int .i64 nd, .int .i64 st, .int .u64 num, .int .i64 fo, iv, nv, sv, bv, .int .i64 atx, .int .i64 q, .int .u64 se, .int .u64 w] T (0, 0))
def rtRaw (rb : Nat) (c : Cf) (t : Tr) (x : RX) (F : Prop) : List Prt :=
  [rtB rb c t.node t.st t.num t.found (.slice x.ip t.items.length x.ic) (.slice x.np x.nodes.length x.nc) (.slice x.sp x.stamps.length x.sc) (.slice x.bp x.bury.length x.bc) x.atx x.q x.se x.w x.T, Prt.row 5 x.ip t.items.length x.ic (cel It.cells t.items), Prt.row 1 x.np x.nodes.length x.nc (x.nodes.map (Value.int .u64)), Prt.row 1 x.sp x.stamps.length x.sc (x.stamps.map (Value.int .u64)), Prt.row 1 x.bp x.bury.length x.bc (x.bury.map (Value.int .i64)), Prt.pure F]
/-- How the document's trace stands to the program's. -/
structure RRel (t : Tr) (x : RX) : Prop where
  sw : t.st ≠ 0 → x.q = t.opn ∧ x.se = t.sent ∧ x.w = t.wait
  nd : t.st ≠ 0 → x.nodes = rise1 (t.sm.map (·.1))
  sl : t.st ≠ 0 → x.stamps.length = x.nodes.length
  sv : t.st ≠ 0 → ∀ (j : Nat) (n s : Int), x.nodes[j]? = some n → x.stamps[j]? = some s → mlook t.sm n = some s
  one : t.st = 1 → x.atx = t.opn ∧ x.bury = []
  two : t.st = 2 → ∃ k : Nat, x.atx = k ∧ t.todo = x.nodes.drop k ∧ x.bury = []
  three : t.st = 3 → ∃ k : Nat, x.atx = k ∧ t.todo = x.bury.drop k ∧ x.bury.length ≤ 1000
def RtP (rb : Nat) (c : Cf) (t : Tr) : Prt := Prt.ex fun x => Prt.list (rtRaw rb c t x (t.ok c.a0 ∧ RRel t x))

section
variable {H0 H : Hp} {L M N : List Prt} {i k rb : Nat} {c : Cf} {t : Tr} {x : RX} {F : Prop} {K : Value → Hp → Prop}
theorem rtTake (h : St H0 L H) (hk : L[k]? = some (RtP rb c t)) : ∃ x M, St H0 (rtRaw rb c t x True ++ M) H ∧ t.ok c.a0 ∧ RRel t x ∧ (∀ i A, L[i]? = some A → i ≠ k → M[i]? = some A) ∧
    ∀ N t' x' H', t'.ok c.a0 → RRel t' x' → St H0 (N ++ (rtRaw rb c t' x' True ++ M)) H' → St H0 (N ++ L.set k (RtP rb c t')) H' := by
  obtain ⟨x, h1⟩ := h.openEx (M := fun x => rtRaw rb c t x (t.ok c.a0 ∧ RRel t x)) hk
  have hf : t.ok c.a0 ∧ RRel t x := h1.fact (i := 5) rfl
  refine ⟨x, _, h1.refact (i := 5) (q := True) rfl trivial, hf.1, hf.2, fun i A hi hij => ?_, fun N t' x' H' ho hr h' => ?_⟩
  · rw [List.getElem?_set_ne (Ne.symm hij)]; exact hi
  · have h2 := h'.refact (i := N.length + 5) (p := True) (q := t'.ok c.a0 ∧ RRel t' x') (by rw [List.getElem?_append_right (Nat.le_add_right _ _), Nat.add_sub_cancel_left]; rfl) ⟨ho, hr⟩
    rw [List.set_append_right _ _ (Nat.le_add_right _ _), Nat.add_sub_cancel_left] at h2
    exact St.shutExN (A := fun x => rtRaw rb c t' x (t'.ok c.a0 ∧ RRel t' x)) (N := N) x' h2 hk
theorem rOverC {b : Bool} (g : St H0 (rtRaw rb c t x F ++ M) H) (hK : ∀ x' H', x'.nodes = x.nodes → x'.stamps = x.stamps → x'.bury = x.bury → St H0 (rtRaw rb c (if b then t.finds else t.over) x' F ++ M) H' → K (.tuple #[]) H') :
    hcall PR f_ref22_Trace_over ⟨[.pointer (some ⟨rb, 0, none⟩), .bool b]⟩ H K := by
  apply den_ref22_Trace_over
  unfold B_ref22_Trace_over
  (try simp only [asI_mk', asB_mk, asP_mk, asA_mk, asM_mk, asSl_mk, asStr_mk, tup2_mk, tup3_mk, agg1_mk, agg2_mk, agg3_mk, agg4_mk, asAggm, unCons_mk, unNil_mk, asTup_mk, extractD0, extractD1, List.toList_toArray, nilP_mk, add_mk, Nat.zero_add, Nat.add_zero, condT, condF, Bool.not_true, Bool.not_false, Option.isNone_some, Option.isNone_none])
  refine g.put (i := 0) rfl (show 23 < 34 by decide) fun H1 g1 => ?_
  have g1 : St H0 (rtB rb c t.node 0 t.num t.found (.slice x.ip t.items.length x.ic) (.slice x.np x.nodes.length x.nc) (.slice x.sp x.stamps.length x.sc) (.slice x.bp x.bury.length x.bc) x.atx x.q x.se x.w x.T :: Prt.row 5 x.ip t.items.length x.ic (cel It.cells t.items) :: Prt.row 1 x.np x.nodes.length x.nc (x.nodes.map (Value.int .u64)) :: Prt.row 1 x.sp x.stamps.length x.sc (x.stamps.map (Value.int .u64)) :: Prt.row 1 x.bp x.bury.length x.bc (x.bury.map (Value.int .i64)) :: Prt.pure F :: M) H1 := g1
  refine g1.put (i := 0) rfl (show 26 < 34 by decide) fun H2 g2 => ?_
  have g2 : St H0 (rtB rb c t.node 0 t.num t.found (.slice none 0 0) (.slice x.np x.nodes.length x.nc) (.slice x.sp x.stamps.length x.sc) (.slice x.bp x.bury.length x.bc) x.atx x.q x.se x.w x.T :: Prt.row 5 x.ip t.items.length x.ic (cel It.cells t.items) :: Prt.row 1 x.np x.nodes.length x.nc (x.nodes.map (Value.int .u64)) :: Prt.row 1 x.sp x.stamps.length x.sc (x.stamps.map (Value.int .u64)) :: Prt.row 1 x.bp x.bury.length x.bc (x.bury.map (Value.int .i64)) :: Prt.pure F :: M) H2 := g2
  have e1 := fun (H' : Hp) (B : Prt) (h' : St H0 (B :: Prt.row 5 x.ip t.items.length x.ic (cel It.cells t.items) :: Prt.row 1 x.np x.nodes.length x.nc (x.nodes.map (Value.int .u64)) :: Prt.row 1 x.sp x.stamps.length x.sc (x.stamps.map (Value.int .u64)) :: Prt.row 1 x.bp x.bury.length x.bc (x.bury.map (Value.int .i64)) :: Prt.pure F :: M) H') => St.over (i := 1) (h'.row (H' := _) (Own.nil 5) ((Goes.refl Nothing _).less fun c hc => absurd hc blk_none)) rfl
  cases b
  · simp only [condF]
    exact hK { x with ip := none, ic := 0 } H2 rfl rfl rfl (e1 H2 _ g2)
  · simp only [condT]
    refine ldI_of (g2.cell (i := 0) rfl rfl) (g2.put (i := 0) rfl (show 25 < 34 by decide) fun H3 g3 => ?_)
    have g3 : St H0 (rtB rb c t.node 0 t.num (IntKind.i64.wrap (t.found + 1)) (.slice none 0 0) (.slice x.np x.nodes.length x.nc) (.slice x.sp x.stamps.length x.sc) (.slice x.bp x.bury.length x.bc) x.atx x.q x.se x.w x.T :: Prt.row 5 x.ip t.items.length x.ic (cel It.cells t.items) :: Prt.row 1 x.np x.nodes.length x.nc (x.nodes.map (Value.int .u64)) :: Prt.row 1 x.sp x.stamps.length x.sc (x.stamps.map (Value.int .u64)) :: Prt.row 1 x.bp x.bury.length x.bc (x.bury.map (Value.int .i64)) :: Prt.pure F :: M) H3 := g3
    exact hK { x with ip := none, ic := 0 } H3 rfl rfl rfl (e1 H3 _ g3)
theorem rNextC {n : Int} (g : St H0 (rtRaw rb c t x F ++ M) H) (hK : ∀ H', St H0 (rtRaw rb c t { x with atx := IntKind.i64.wrap (x.atx + 1), q := IntKind.i64.wrap (x.q + 1), se := 0, w := 0 } F ++ M) H' → K (.bool (decide (IntKind.i64.wrap (x.atx + 1) < n))) H') :
    hcall PR f_ref22_Trace_next ⟨[.pointer (some ⟨rb, 0, none⟩), .int .i64 n]⟩ H K := by
  apply den_ref22_Trace_next
  unfold B_ref22_Trace_next
  (try simp only [asI_mk', asB_mk, asP_mk, asA_mk, asM_mk, asSl_mk, asStr_mk, tup2_mk, tup3_mk, agg1_mk, agg2_mk, agg3_mk, agg4_mk, asAggm, unCons_mk, unNil_mk, asTup_mk, extractD0, extractD1, List.toList_toArray, nilP_mk, add_mk, Nat.zero_add, Nat.add_zero, condT, condF, Bool.not_true, Bool.not_false, Option.isNone_some, Option.isNone_none])
  refine ldI_of (g.cell (i := 0) rfl rfl) (g.put (i := 0) rfl (show 30 < 34 by decide) fun H1 g1 => ?_)
  have g1 : St H0 (rtB rb c t.node t.st t.num t.found (.slice x.ip t.items.length x.ic) (.slice x.np x.nodes.length x.nc) (.slice x.sp x.stamps.length x.sc) (.slice x.bp x.bury.length x.bc) (IntKind.i64.wrap (x.atx + 1)) x.q x.se x.w x.T :: Prt.row 5 x.ip t.items.length x.ic (cel It.cells t.items) :: Prt.row 1 x.np x.nodes.length x.nc (x.nodes.map (Value.int .u64)) :: Prt.row 1 x.sp x.stamps.length x.sc (x.stamps.map (Value.int .u64)) :: Prt.row 1 x.bp x.bury.length x.bc (x.bury.map (Value.int .i64)) :: Prt.pure F :: M) H1 := g1
  refine ldI_of (g1.cell (i := 0) rfl rfl) (g1.put (i := 0) rfl (show 31 < 34 by decide) fun H2 g2 => ?_)
  have g2 : St H0 (rtB rb c t.node t.st t.num t.found (.slice x.ip t.items.length x.ic) (.slice x.np x.nodes.length x.nc) (.slice x.sp x.stamps.length x.sc) (.slice x.bp x.bury.length x.bc) (IntKind.i64.wrap (x.atx + 1)) (IntKind.i64.wrap (x.q + 1)) x.se x.w x.T :: Prt.row 5 x.ip t.items.length x.ic (cel It.cells t.items) :: Prt.row 1 x.np x.nodes.length x.nc (x.nodes.map (Value.int .u64)) :: Prt.row 1 x.sp x.stamps.length x.sc (x.stamps.map (Value.int .u64)) :: Prt.row 1 x.bp x.bury.length x.bc (x.bury.map (Value.int .i64)) :: Prt.pure F :: M) H2 := g2
  refine g2.put (i := 0) rfl (show 32 < 34 by decide) fun H3 g3 => ?_
  have g3 : St H0 (rtB rb c t.node t.st t.num t.found (.slice x.ip t.items.length x.ic) (.slice x.np x.nodes.length x.nc) (.slice x.sp x.stamps.length x.sc) (.slice x.bp x.bury.length x.bc) (IntKind.i64.wrap (x.atx + 1)) (IntKind.i64.wrap (x.q + 1)) 0 x.w x.T :: Prt.row 5 x.ip t.items.length x.ic (cel It.cells t.items) :: Prt.row 1 x.np x.nodes.length x.nc (x.nodes.map (Value.int .u64)) :: Prt.row 1 x.sp x.stamps.length x.sc (x.stamps.map (Value.int .u64)) :: Prt.row 1 x.bp x.bury.length x.bc (x.bury.map (Value.int .i64)) :: Prt.pure F :: M) H3 := g3
  refine g3.put (i := 0) rfl (show 33 < 34 by decide) fun H4 g4 => ?_
  have g4 : St H0 (rtB rb c t.node t.st t.num t.found (.slice x.ip t.items.length x.ic) (.slice x.np x.nodes.length x.nc) (.slice x.sp x.stamps.length x.sc) (.slice x.bp x.bury.length x.bc) (IntKind.i64.wrap (x.atx + 1)) (IntKind.i64.wrap (x.q + 1)) 0 0 x.T :: Prt.row 5 x.ip t.items.length x.ic (cel It.cells t.items) :: Prt.row 1 x.np x.nodes.length x.nc (x.nodes.map (Value.int .u64)) :: Prt.row 1 x.sp x.stamps.length x.sc (x.stamps.map (Value.int .u64)) :: Prt.row 1 x.bp x.bury.length x.bc (x.bury.map (Value.int .i64)) :: Prt.pure F :: M) H4 := g4
  exact ldI_of (g4.cell (i := 0) rfl rfl) (hK H4 g4)
/-- A number of a row. -/
theorem rNum {k : IntKind} {p : Option Addr} {n cap : Nat} {l : List Int} {j : Nat} {Q : Addr → Prop} (g : St H0 L H) (hi : L[i]? = some (Prt.row 1 p n cap (l.map (Value.int k)))) (hj : j < n) (hn : n ≤ 9223372036854775807)
    (hQ : ∀ a, (∀ N H', St H0 (N ++ L) H' → hcell H' a = some (.int k (l.getD j 0))) → Q a) : idxA p n (j : Int) 1 Q := by
  refine idx1 (d := (0 : Int)) (g.row_rd hi) (by omega) (by omega) fun b o hp _ => hQ _ fun N H' h' => ?_
  have r : Rd H' 1 p n (l.map (Value.int k)) := (St.lesses (M := N) h').row_rd hi
  have hl : l.length = n := by simpa using r.1
  rw [hp] at r
  have := r.2.2 j (by omega)
  rw [List.getElem?_map, List.getElem?_eq_getElem (by omega)] at this
  rw [Int.toNat_natCast, List.getD_eq_getElem?_getD, List.getElem?_eq_getElem (by omega)]
  exact this
theorem rIt (g : St H0 (rtRaw rb c t x F ++ M) H) {j : Int} {Q : Addr → Prop} (h0 : 0 ≤ j) (h1 : j < t.items.length)
    (hQ : ∀ b o, x.ip = some ⟨b, o, none⟩ → (∀ N H', St H0 (N ++ (rtRaw rb c t x F ++ M)) H' → ∀ q, q < 5 → hcell H' ⟨b, o + j.toNat * 5 + q, none⟩ = (It.cells (t.items.getD j.toNat noIt))[q]?) → Q ⟨b, o + j.toNat * 5, none⟩) : idxA x.ip t.items.length j 5 Q := by
  refine idxS It.len noIt (g.row_rd (i := 1) rfl) (by omega) h0 h1 fun b o hp hl _ => hQ b o hp fun N H' h' q hq => ?_
  have r : Rd H' 5 x.ip t.items.length (cel It.cells t.items) := (St.lesses (M := N) h').row_rd (i := 1) rfl
  rw [hp] at r
  obtain ⟨r1, r2, r3⟩ := r
  have h4 : j.toNat * 5 + q < t.items.length * 5 := by
    have : (j.toNat + 1) * 5 ≤ t.items.length * 5 := Nat.mul_le_mul_right _ hl
    omega
  have h5 := r3 (j.toNat * 5 + q) h4
  rw [cel_get It.len noIt hl hq, ← Nat.add_assoc] at h5
  exact h5
theorem RRel.few (hn : 1 ≤ c.a0 ∧ c.a0 ≤ 12) (ho : t.ok c.a0) (hr : RRel t x) (h0 : t.st ≠ 0) : x.nodes.length ≤ 12 ∧ ∀ n ∈ x.nodes, 1 ≤ n ∧ n ≤ c.a0 := by
  have hk := keys_few (k := c.a0.toNat) ho.sm fun e he => by have := ho.keys e he; omega
  have hl : x.nodes.length = t.sm.length := by rw [hr.nd h0, rise1_perm.length_eq, List.length_map]
  refine ⟨by omega, fun n hn' => ?_⟩
  rw [hr.nd h0] at hn'
  have hm : n ∈ t.sm.map (·.1) := rise1_perm.mem_iff.1 hn'
  obtain ⟨e, he, rfl⟩ := List.mem_map.1 hm
  exact ho.keys e he
/-- For whom. -/
theorem rToC (hn : 1 ≤ c.a0 ∧ c.a0 ≤ 12) (ho : t.ok c.a0) (hr : RRel t x) (h0 : t.st ≠ 0) (g : St H0 (rtRaw rb c t x F ++ M) H) (hK : K (.int .i64 t.q.to) H) : hcall PR f_ref22_Trace_to ⟨[.pointer (some ⟨rb, 0, none⟩)]⟩ H K := by
  apply den_ref22_Trace_to
  unfold B_ref22_Trace_to
  have hs := ho.st
  have hil := ho.items
  have hfew := hr.few hn ho h0
  (try simp only [asI_mk', asB_mk, asP_mk, asA_mk, asM_mk, asSl_mk, asStr_mk, tup2_mk, tup3_mk, agg1_mk, agg2_mk, agg3_mk, agg4_mk, asAggm, unCons_mk, unNil_mk, asTup_mk, extractD0, extractD1, List.toList_toArray, nilP_mk, add_mk, Nat.zero_add, Nat.add_zero, condT, condF, Bool.not_true, Bool.not_false, Option.isNone_some, Option.isNone_none])
  refine ldI_of (g.cell (i := 0) rfl rfl) ?_
  by_cases h1 : t.st = 1
  · obtain ⟨o1, o2, o3⟩ := ho.one h1
    obtain ⟨r1, r2⟩ := hr.one h1
    have hq : t.q.to = (t.items.getD t.opn.toNat noIt).node := by unfold Tr.q; rw [if_pos h1]
    rw [hq] at hK
    refine bif_eq h1 (ldSl_of (g.cell (i := 0) rfl rfl) (ldI_of (g.cell (i := 0) rfl rfl) ?_))
    rw [r1]
    refine rIt g o1 o2 fun b o _ hc => ?_
    (try simp only [asI_mk', asB_mk, asP_mk, asA_mk, asM_mk, asSl_mk, asStr_mk, tup2_mk, tup3_mk, agg1_mk, agg2_mk, agg3_mk, agg4_mk, asAggm, unCons_mk, unNil_mk, asTup_mk, extractD0, extractD1, List.toList_toArray, nilP_mk, add_mk, Nat.zero_add, Nat.add_zero, condT, condF, Bool.not_true, Bool.not_false, Option.isNone_some, Option.isNone_none])
    exact ldI_of (hc [] H g 1 (by omega)) hK
  refine bif_ne h1 ?_
  by_cases h2 : t.st = 2
  · obtain ⟨o1, o2⟩ := ho.two h2
    obtain ⟨k, r1, r2, r3⟩ := hr.two h2
    have hkl : k < x.nodes.length := by
      rcases Nat.lt_or_ge k x.nodes.length with h | h
      · exact h
      · rw [List.drop_of_length_le h] at r2; exact absurd r2 o1
    have hq : t.q.to = x.nodes.getD k 0 := by
      unfold Tr.q
      rw [if_neg h1, if_pos h2, r2]
      simp only
      rw [List.getD_eq_getElem?_getD, List.getElem?_drop, List.getD_eq_getElem?_getD]
      rfl
    have hm : x.nodes.getD k 0 ∈ x.nodes := by
      rw [List.getD_eq_getElem?_getD, List.getElem?_eq_getElem hkl]
      exact List.getElem_mem _
    have hb := hfew.2 _ hm
    refine bif_eq h2 (ldSl_of (g.cell (i := 0) rfl rfl) (ldI_of (g.cell (i := 0) rfl rfl) ?_))
    rw [r1]
    refine rNum (i := 2) g rfl hkl (by omega) fun a ha => ldI_of (ha [] H g) ?_
    rw [wrap_i64 (n := x.nodes.getD k 0) (by omega) (by omega), ← hq]
    exact hK
  · have h3 : t.st = 3 := by omega
    obtain ⟨o1, o2, o3⟩ := ho.three h3
    obtain ⟨k, r1, r2, r3⟩ := hr.three h3
    have hkl : k < x.bury.length := by
      rcases Nat.lt_or_ge k x.bury.length with h | h
      · exact h
      · rw [List.drop_of_length_le h] at r2; exact absurd r2 o1
    have hg : t.todo.getD 0 0 = x.bury.getD k 0 := by
      rw [r2, List.getD_eq_getElem?_getD, List.getElem?_drop, List.getD_eq_getElem?_getD]
      rfl
    have hpos := List.length_pos_iff.2 o1
    have hmem : t.todo.getD 0 0 ∈ t.todo := by
      rw [List.getD_eq_getElem?_getD, List.getElem?_eq_getElem hpos]
      exact List.getElem_mem _
    have hb := o3 _ hmem
    have hq : t.q.to = (t.items.getD (x.bury.getD k 0).toNat noIt).node := by
      unfold Tr.q
      rw [if_neg h1, if_neg h2, ← hg]
    rw [hq] at hK
    refine bif_ne h2 (ldSl_of (g.cell (i := 0) rfl rfl) (ldSl_of (g.cell (i := 0) rfl rfl) (ldI_of (g.cell (i := 0) rfl rfl) ?_)))
    rw [r1]
    refine rNum (i := 4) g rfl hkl (by omega) fun a ha => ldI_of (ha [] H g) ?_
    rw [hg] at hb
    refine rIt g hb.1 hb.2 fun b o _ hc => ?_
    (try simp only [asI_mk', asB_mk, asP_mk, asA_mk, asM_mk, asSl_mk, asStr_mk, tup2_mk, tup3_mk, agg1_mk, agg2_mk, agg3_mk, agg4_mk, asAggm, unCons_mk, unNil_mk, asTup_mk, extractD0, extractD1, List.toList_toArray, nilP_mk, add_mk, Nat.zero_add, Nat.add_zero, condT, condF, Bool.not_true, Bool.not_false, Option.isNone_some, Option.isNone_none])
    exact ldI_of (hc [] H g 1 (by omega)) hK
/-- Its stamp. -/
theorem rStampC {node : Int} (hn : 1 ≤ c.a0 ∧ c.a0 ≤ 12) (ho : t.ok c.a0) (hr : RRel t x) (h0 : t.st ≠ 0) (hnd : 1 ≤ node ∧ node ≤ 12) (g : St H0 (rtRaw rb c t x F ++ M) H)
    (hK : K (.tuple #[.int .u64 ((mlook t.sm node).getD 0), .bool (mlook t.sm node).isSome]) H) : hcall PR f_ref22_Trace_stamp ⟨[.pointer (some ⟨rb, 0, none⟩), .int .i64 node]⟩ H K := by
  apply den_ref22_Trace_stamp
  unfold B_ref22_Trace_stamp
  have hfew := hr.few hn ho h0
  have hsl := hr.sl h0
  refine ⟨fun q H' => H' = H ∧ ∃ m : Nat, q = m ∧ m ≤ x.nodes.length ∧ ∀ n ∈ x.nodes.take m, n ≠ node, fun q _ => ((x.nodes.length : Int) - q).toNat, ⟨rfl, 0, rfl, by omega, fun n hn => by simp at hn⟩, ?_⟩
  rintro q H' ⟨rfl, m, rfl, hm, hno⟩
  (try simp only [asI_mk', asB_mk, asP_mk, asA_mk, asM_mk, asSl_mk, asStr_mk, tup2_mk, tup3_mk, agg1_mk, agg2_mk, agg3_mk, agg4_mk, asAggm, unCons_mk, unNil_mk, asTup_mk, extractD0, extractD1, List.toList_toArray, nilP_mk, add_mk, Nat.zero_add, Nat.add_zero, condT, condF, Bool.not_true, Bool.not_false, Option.isNone_some, Option.isNone_none])
  refine ldSl_of (g.cell (i := 0) rfl rfl) ?_
  by_cases hml : (m : Int) < (x.nodes.length : Int)
  rotate_left
  · refine bif_neg hml ?_
    rw [List.take_of_length_le (by omega)] at hno
    have : mlook t.sm node = none := by
      rw [mlook_none]
      intro p hp e
      refine hno node ?_ rfl
      rw [hr.nd h0]
      exact rise1_perm.mem_iff.2 (List.mem_map.2 ⟨p, hp, e⟩)
    rw [this] at hK
    exact hK
  refine bif_pos hml (ldSl_of (g.cell (i := 0) rfl rfl) ?_)
  refine rNum (i := 2) g rfl (by omega) (by omega) fun a ha => ldI_of (ha [] H' g) ?_
  rw [wrap_u64' (n := node) (by omega) (by omega)]
  have gm : x.nodes.getD m 0 = x.nodes[m]'(by omega) := by rw [List.getD_eq_getElem?_getD, List.getElem?_eq_getElem (by omega)]; rfl
  by_cases he : x.nodes.getD m 0 = node
  · refine bif_eq he (ldSl_of (g.cell (i := 0) rfl rfl) (rNum (i := 3) g rfl (by omega) (by omega) fun a ha => ldI_of (ha [] H' g) ?_))
    have hms : m < x.stamps.length := by omega
    have hlk := hr.sv h0 m node (x.stamps.getD m 0) (by rw [← he, gm, List.getElem?_eq_getElem (by omega)]) (by rw [List.getD_eq_getElem?_getD, List.getElem?_eq_getElem hms]; rfl)
    rw [hlk] at hK
    exact hK
  · refine bif_ne he ?_
    rw [wrap_i64 (by omega) (by omega)]
    refine ⟨⟨by trivial, m + 1, by omega, by omega, fun n hn' => ?_⟩, by (try dsimp only); omega⟩
    rw [List.take_succ_eq_append_getElem (by omega)] at hn'
    rcases List.mem_append.1 hn' with hn' | hn'
    · exact hno n hn'
    · simp at hn'; rw [hn', ← gm]; exact he
/-- A number put in its place: the appends, in whatever order the rows come to be. -/
theorem insP {p : Option Addr} {n cap : Nat} {l : List Int} {j : Nat} {b : Nat} {Q : Value → Hp → Prop} (h : St H0 L H) (hi : L[i]? = some (Prt.row 1 p n cap (l.map (Value.int .u64)))) (hb : L[k]? = some (Prt.one b (.cells #[] ty_uint64 (0, 0)))) (hj : j ≤ n) (hn : n ≤ 12)
    (hQ : ∀ p' cap' H', St H0 (L.set k (Prt.row 1 p' j cap' ((l.take j).map (Value.int .u64)))) H' → Q (.slice p' j cap') H') :
    evW PR (Builtin.append_ #[ty_Suint64, ty_Suint64] ty_Suint64 #[.slice (some ⟨b, 0, none⟩) 0 0, .slice p (j : Int).toNat cap]) H Q := by
  have hrd := (h.row_rd hi).take (m := j) hj
  rw [Nat.mul_one, ← List.map_take] at hrd
  rw [Int.toNat_natCast]
  exact h.copy hb tu_ty_Suint64 tu_ty_Suint64 ti_ty_uint64 rfl (by decide) hrd (fun z hz => by
    obtain ⟨y, _, rfl⟩ := List.mem_map.1 hz
    rfl) (by omega) hQ
theorem insV {p : Option Addr} {n cap : Nat} {l : List Int} {v : Int} {b : Nat} {Q : Value → Hp → Prop} (h : St H0 L H) (hi : L[i]? = some (Prt.row 1 p n cap (l.map (Value.int .u64)))) (hb : L[k]? = some (Prt.one b (.cells #[.int .u64 v] ty_uint64 (0, 0)))) (hn : n ≤ 12)
    (hQ : ∀ p' cap' H', St H0 (L.set i (Prt.row 1 p' (n + 1) cap' ((l ++ [v]).map (Value.int .u64)))) H' → Q (.slice p' (n + 1) cap') H') :
    evW PR (Builtin.append_ #[ty_Suint64, ty_Suint64] ty_Suint64 #[.slice p n cap, .slice (some ⟨b, 0, none⟩) 1 1]) H Q := by
  refine h.app hi tu_ty_Suint64 tu_ty_Suint64 ti_ty_uint64 rfl (by decide) (h.one_rd (n := 1) hb rfl) (fun z hz => by simp at hz; rw [hz]; rfl) (by omega) fun p' cap' H' h' => hQ p' cap' H' ?_
  have e : l.map (Value.int .u64) ++ (#[Value.int .u64 v] : Array Value).toList = (l ++ [v]).map (Value.int .u64) := by simp
  rw [e] at h'
  exact h'
theorem insS {p p0 : Option Addr} {n cap n0 cap0 : Nat} {l l0 : List Int} {j : Nat} {Q : Value → Hp → Prop} (h : St H0 L H) (hi : L[i]? = some (Prt.row 1 p n cap (l.map (Value.int .u64)))) (h0 : L[k]? = some (Prt.row 1 p0 n0 cap0 (l0.map (Value.int .u64)))) (hj : j ≤ n0) (hn : n ≤ 13) (hn0 : n0 ≤ 12)
    (hQ : ∀ p' cap' H', St H0 (L.set i (Prt.row 1 p' (n + (n0 - j)) cap' ((l ++ l0.drop j).map (Value.int .u64)))) H' → Q (.slice p' (n + (n0 - j)) cap') H') :
    evW PR (Builtin.append_ #[ty_Suint64, ty_Suint64] ty_Suint64 #[.slice p n cap, .slice (slcP p0 cap0 (j : Int).toNat 1) (n0 - (j : Int).toNat) (cap0 - (j : Int).toNat)]) H Q := by
  have hrd := ((h.row_own h0).drop (l := j) hj).rd
  rw [Nat.mul_one, ← List.map_drop] at hrd
  rw [Int.toNat_natCast]
  refine h.app hi tu_ty_Suint64 tu_ty_Suint64 ti_ty_uint64 rfl (by decide) hrd (fun z hz => by
    obtain ⟨y, _, rfl⟩ := List.mem_map.1 hz
    rfl) (by omega) fun p' cap' H' h' => hQ p' cap' H' ?_
  rw [← List.map_append] at h'
  exact h'
def insAt (l : List Int) (j : Nat) (v : Int) : List Int := l.take j ++ [v] ++ l.drop j
theorem insAt_len {l : List Int} {j : Nat} {v : Int} (hj : j ≤ l.length) : (insAt l j v).length = l.length + 1 := by
  unfold insAt
  simp only [List.length_append, List.length_take, List.length_drop, List.length_singleton]
  omega
/-- A node's stamp is kept, or it told another one. -/
theorem rKeepC {node stamp : Int} (hn : 1 ≤ c.a0 ∧ c.a0 ≤ 12) (ho : t.ok c.a0) (hr : RRel t x) (h0 : t.st ≠ 0) (hnd : 1 ≤ node ∧ node ≤ c.a0) (g : St H0 (rtRaw rb c t x F ++ M) H)
    (hN : (mlook t.sm node).isSome = true → K (.bool (decide ((mlook t.sm node).getD 0 = stamp))) H)
    (hK : mlook t.sm node = none → ∀ x' H', x'.nodes = rise1 ((mput t.sm node stamp).map (·.1)) → x'.stamps.length = x'.nodes.length → (∀ (j : Nat) (n s : Int), x'.nodes[j]? = some n → x'.stamps[j]? = some s → mlook (mput t.sm node stamp) n = some s) →
      x'.bury = x.bury → x'.atx = x.atx → x'.q = x.q → x'.se = x.se → x'.w = x.w → St H0 (rtRaw rb c t x' F ++ M) H' → K (.bool true) H') :
    hcall PR f_ref22_Trace_keep ⟨[.pointer (some ⟨rb, 0, none⟩), .int .i64 node, .int .u64 stamp]⟩ H K := by
  apply den_ref22_Trace_keep
  unfold B_ref22_Trace_keep
  have hfew := hr.few hn ho h0
  have hsl := hr.sl h0
  refine rStampC hn ho hr h0 (by omega) g ?_
  (try simp only [asI_mk', asB_mk, asP_mk, asA_mk, asM_mk, asSl_mk, asStr_mk, tup2_mk, tup3_mk, agg1_mk, agg2_mk, agg3_mk, agg4_mk, asAggm, unCons_mk, unNil_mk, asTup_mk, extractD0, extractD1, List.toList_toArray, nilP_mk, add_mk, Nat.zero_add, Nat.add_zero, condT, condF, Bool.not_true, Bool.not_false, Option.isNone_some, Option.isNone_none])
  cases hlk : mlook t.sm node with
  | some v =>
    rw [hlk] at hN
    simp only [Option.isSome_some, condT]
    rw [show ((some v : Option Int).getD 0 == stamp) = decide ((some v : Option Int).getD 0 = stamp) by rw [Bool.eq_iff_iff, beq_iff_eq, decide_eq_true_iff]]
    exact hN rfl
  | none =>
  have hK := hK hlk
  clear hN
  simp only [Option.isSome_none, condF]
  intro R10 hR10
  have hQ10 : ∀ j : Nat, j ≤ x.nodes.length → (∀ n ∈ x.nodes.take j, n < node) → (∀ n, x.nodes[j]? = some n → node ≤ n) → R10 (j : Int) H := fun j hj hlo hhi => by
    refine hR10 (j : Int) H ?_
    clear hR10
    have hl12 : x.nodes.length ≤ 12 := hfew.1
    intro R13 hR13
    have hQ13 : ∀ np nc H', St H0 (rtRaw rb c t { x with nodes := insAt x.nodes j node, np := np, nc := nc } F ++ M) H' → R13 H' := fun np nc H1 g1 => by
      refine hR13 H1 ?_
      clear hR13 g
      have hj : j ≤ x.stamps.length := by omega
      have hl12 : x.stamps.length ≤ 12 := by omega
      have g0 := g1
      (try simp only [asI_mk', asB_mk, asP_mk, asA_mk, asM_mk, asSl_mk, asStr_mk, tup2_mk, tup3_mk, agg1_mk, agg2_mk, agg3_mk, agg4_mk, asAggm, unCons_mk, unNil_mk, asTup_mk, extractD0, extractD1, List.toList_toArray, nilP_mk, add_mk, Nat.zero_add, Nat.add_zero, condT, condF, Bool.not_true, Bool.not_false, Option.isNone_some, Option.isNone_none])
      refine ldSl_of (g0.cell (i := 0) rfl rfl) (slc_to (by omega) (by have h9 : x.stamps.length ≤ x.sc := (g0.row_own (i := 3) rfl).2.1; show (j : Int) ≤ (x.sc : Int); omega) ?_)
      refine ldSl_of (g0.cell (i := 0) rfl rfl) (slc_from (by omega) (by show (j : Int) ≤ (x.stamps.length : Int); omega) ?_)
      have fin : ∀ p3 c3 (A : Prt) J, St H0 (Prt.row 1 p3 (j + 1 + (x.stamps.length - j)) c3 ((x.stamps.take j ++ [stamp] ++ x.stamps.drop j).map (Value.int .u64)) :: A :: (rtRaw rb c t { x with nodes := insAt x.nodes j node, np := np, nc := nc } F ++ M)) J → (st ⟨rb, 28, none⟩ (.slice p3 (j + 1 + (x.stamps.length - j)) c3) J fun H' => K (.bool true) H') := fun p3 c3 A J gJ => by
        refine gJ.put (i := 2) rfl (show 28 < 34 by decide) fun J2 g2 => ?_
        have e1 : j + 1 + (x.stamps.length - j) = (insAt x.stamps j stamp).length := by rw [insAt_len hj]; omega
        rw [e1] at g2
        have g3 := g2.flip.less
        have g4 : St H0 (rtRaw rb c t { x with nodes := insAt x.nodes j node, np := np, nc := nc, stamps := insAt x.stamps j stamp, sp := p3, sc := c3 } F ++ M) J2 := St.over (i := 3) g3 rfl
        have hperm : (insAt x.nodes j node).Perm ((mput t.sm node stamp).map (·.1)) := by
          have e2 : (mput t.sm node stamp).map (·.1) = t.sm.map (·.1) ++ [node] := by
            unfold mput
            rw [if_neg (by rw [mhas_look, hlk]; decide), List.map_append]
            rfl
          rw [e2]
          unfold insAt
          have p1 : (x.nodes.take j ++ [node] ++ x.nodes.drop j).Perm (x.nodes.take j ++ x.nodes.drop j ++ [node]) := by
            rw [List.append_assoc, List.append_assoc]
            exact List.perm_append_comm.append_left _
          refine p1.trans ?_
          rw [List.take_append_drop, hr.nd h0]
          exact rise1_perm.append_right _
        have hrise : (insAt x.nodes j node).Pairwise (· ≤ ·) := by
          have hx : x.nodes.Pairwise (· ≤ ·) := by rw [hr.nd h0]; exact rise1_rise
          have hd : ∀ n ∈ x.nodes.drop j, node ≤ n := fun n hn' => by
            obtain ⟨q, hq, rfl⟩ := List.mem_iff_getElem.1 hn'
            rw [List.length_drop] at hq
            rw [List.getElem_drop]
            have hjl : j < x.nodes.length := by omega
            have h1 := hhi _ (List.getElem?_eq_getElem hjl)
            rcases Nat.eq_zero_or_pos q with rfl | hq0
            · exact h1
            · have := (List.pairwise_iff_getElem.1 hx) j (j + q) hjl (by omega) (by omega)
              omega
          unfold insAt
          rw [List.append_assoc, List.pairwise_append, List.pairwise_append]
          refine ⟨hx.sublist (List.take_sublist _ _), ⟨List.pairwise_singleton _ _, hx.sublist (List.drop_sublist _ _), fun a ha b hb => ?_⟩, fun a ha b hb => ?_⟩
          · simp at ha; rw [ha]; exact hd b hb
          · have h1 := hlo a ha
            rcases List.mem_append.1 hb with hb | hb
            · simp at hb; omega
            · have := hd b hb; omega
        refine hK { x with nodes := insAt x.nodes j node, np := np, nc := nc, stamps := insAt x.stamps j stamp, sp := p3, sc := c3 } J2 (rise_is hperm hrise) ?_ ?_ rfl rfl rfl rfl rfl g4
        · show (insAt x.stamps j stamp).length = (insAt x.nodes j node).length
          rw [insAt_len hj, insAt_len (by omega)]
          omega
        · intro q n s hq1 hq2
          have hq1 : (insAt x.nodes j node)[q]? = some n := hq1
          have hq2 : (insAt x.stamps j stamp)[q]? = some s := hq2
          unfold insAt at hq1 hq2
          have t1 : (x.nodes.take j).length = j := by rw [List.length_take]; omega
          have t2 : (x.stamps.take j).length = j := by rw [List.length_take]; omega
          rw [mlook_mput]
          rw [List.append_assoc] at hq1 hq2
          rcases Nat.lt_trichotomy q j with hlt | rfl | hgt
          · rw [List.getElem?_append_left (by omega), List.getElem?_take_of_lt hlt] at hq1 hq2
            have hnn : n ≠ node := by
              have : n ∈ x.nodes.take j := List.mem_of_getElem? (i := q) (by rw [List.getElem?_take_of_lt hlt]; exact hq1)
              have := hlo n this
              omega
            rw [if_neg hnn]
            exact hr.sv h0 q n s hq1 hq2
          · rw [List.getElem?_append_right (by omega), t1, Nat.sub_self] at hq1
            rw [List.getElem?_append_right (by omega), t2, Nat.sub_self] at hq2
            simp at hq1 hq2
            rw [if_pos hq1.symm, hq2]
          · obtain ⟨d, rfl⟩ : ∃ d, q = j + 1 + d := ⟨q - j - 1, by omega⟩
            rw [List.getElem?_append_right (by omega), t1, show j + 1 + d - j = d + 1 by omega, List.singleton_append, List.getElem?_cons_succ, List.getElem?_drop] at hq1
            rw [List.getElem?_append_right (by omega), t2, show j + 1 + d - j = d + 1 by omega, List.singleton_append, List.getElem?_cons_succ, List.getElem?_drop] at hq2
            have hnn : n ≠ node := fun e => by
              have hm := mlook_none.1 hlk
              have hin : n ∈ x.nodes := List.mem_of_getElem? hq1
              rw [hr.nd h0] at hin
              obtain ⟨p, hp, he⟩ := List.mem_map.1 (rise1_perm.mem_iff.1 hin)
              exact hm p hp (he.trans e)
            rw [if_neg hnn]
            exact hr.sv h0 _ n s hq1 hq2
      refine ⟨?_, ?_⟩
      · intro b1 hb1
        have k1 := g0.alloc (o := .cells #[] ty_uint64) hb1
        refine ⟨ldSl_of (k1.cell (i := 1) rfl rfl) rfl, ldSl_of (k1.cell (i := 1) rfl rfl) rfl, ?_, ?_⟩
        · refine insP (i := 4) (k := 0) (j := j) k1 rfl rfl hj hl12 fun p1 c1 J2 k2 => ?_
          (try simp only [asI_mk', asB_mk, asP_mk, asA_mk, asM_mk, asSl_mk, asStr_mk, tup2_mk, tup3_mk, agg1_mk, agg2_mk, agg3_mk, agg4_mk, asAggm, unCons_mk, unNil_mk, asTup_mk, extractD0, extractD1, List.toList_toArray, nilP_mk, add_mk, Nat.zero_add, Nat.add_zero, condT, condF, Bool.not_true, Bool.not_false, Option.isNone_some, Option.isNone_none])
          refine ⟨ldSl_of (k2.cell (i := 1) rfl rfl) rfl, ?_⟩
          intro b2 hb2
          have k3 := k2.alloc (o := .cells #[.int .u64 stamp] ty_uint64) hb2
          refine ⟨ldSl_of (k3.cell (i := 2) rfl rfl) rfl, ?_⟩
          refine insV (i := 1) (k := 0) (v := stamp) k3 rfl rfl (by omega) fun p2 c2 J4 k4 => ?_
          (try simp only [asI_mk', asB_mk, asP_mk, asA_mk, asM_mk, asSl_mk, asStr_mk, tup2_mk, tup3_mk, agg1_mk, agg2_mk, agg3_mk, agg4_mk, asAggm, unCons_mk, unNil_mk, asTup_mk, extractD0, extractD1, List.toList_toArray, nilP_mk, add_mk, Nat.zero_add, Nat.add_zero, condT, condF, Bool.not_true, Bool.not_false, Option.isNone_some, Option.isNone_none])
          refine ⟨ldSl_of (k4.cell (i := 2) rfl rfl) rfl, ?_⟩
          refine insS (i := 1) (k := 5) (j := j) k4 rfl rfl hj (by omega) hl12 fun p3 c3 J5 k5 => ?_
          (try simp only [asI_mk', asB_mk, asP_mk, asA_mk, asM_mk, asSl_mk, asStr_mk, tup2_mk, tup3_mk, agg1_mk, agg2_mk, agg3_mk, agg4_mk, asAggm, unCons_mk, unNil_mk, asTup_mk, extractD0, extractD1, List.toList_toArray, nilP_mk, add_mk, Nat.zero_add, Nat.add_zero, condT, condF, Bool.not_true, Bool.not_false, Option.isNone_some, Option.isNone_none])
          exact fin p3 c3 (Prt.one b2 (.cells #[.int .u64 stamp] ty_uint64 (0, 0))) J5 k5.flip
        · intro b2 hb2
          have k2 := k1.alloc (o := .cells #[.int .u64 stamp] ty_uint64) hb2
          refine ⟨ldSl_of (k2.cell (i := 2) rfl rfl) rfl, ldSl_of (k2.cell (i := 2) rfl rfl) rfl, ?_⟩
          refine insP (i := 5) (k := 1) (j := j) k2 rfl rfl hj hl12 fun p1 c1 J2 k3 => ?_
          (try simp only [asI_mk', asB_mk, asP_mk, asA_mk, asM_mk, asSl_mk, asStr_mk, tup2_mk, tup3_mk, agg1_mk, agg2_mk, agg3_mk, agg4_mk, asAggm, unCons_mk, unNil_mk, asTup_mk, extractD0, extractD1, List.toList_toArray, nilP_mk, add_mk, Nat.zero_add, Nat.add_zero, condT, condF, Bool.not_true, Bool.not_false, Option.isNone_some, Option.isNone_none])
          refine ⟨ldSl_of (k3.cell (i := 2) rfl rfl) rfl, ?_⟩
          refine insV (i := 1) (k := 0) (v := stamp) k3 rfl rfl (by omega) fun p2 c2 J4 k4 => ?_
          (try simp only [asI_mk', asB_mk, asP_mk, asA_mk, asM_mk, asSl_mk, asStr_mk, tup2_mk, tup3_mk, agg1_mk, agg2_mk, agg3_mk, agg4_mk, asAggm, unCons_mk, unNil_mk, asTup_mk, extractD0, extractD1, List.toList_toArray, nilP_mk, add_mk, Nat.zero_add, Nat.add_zero, condT, condF, Bool.not_true, Bool.not_false, Option.isNone_some, Option.isNone_none])
          refine ⟨ldSl_of (k4.cell (i := 2) rfl rfl) rfl, ?_⟩
          refine insS (i := 1) (k := 5) (j := j) k4 rfl rfl hj (by omega) hl12 fun p3 c3 J5 k5 => ?_
          (try simp only [asI_mk', asB_mk, asP_mk, asA_mk, asM_mk, asSl_mk, asStr_mk, tup2_mk, tup3_mk, agg1_mk, agg2_mk, agg3_mk, agg4_mk, asAggm, unCons_mk, unNil_mk, asTup_mk, extractD0, extractD1, List.toList_toArray, nilP_mk, add_mk, Nat.zero_add, Nat.add_zero, condT, condF, Bool.not_true, Bool.not_false, Option.isNone_some, Option.isNone_none])
          exact fin p3 c3 (Prt.one b2 (.cells #[.int .u64 stamp] ty_uint64 (0, 0))) J5 k5.flip
      · intro b2 hb2
        have k1 := g0.alloc (o := .cells #[.int .u64 stamp] ty_uint64) hb2
        refine ⟨ldSl_of (k1.cell (i := 1) rfl rfl) rfl, ldSl_of (k1.cell (i := 1) rfl rfl) rfl, ?_⟩
        intro b1 hb1
        have k2 := k1.alloc (o := .cells #[] ty_uint64) hb1
        refine ⟨ldSl_of (k2.cell (i := 2) rfl rfl) rfl, ldSl_of (k2.cell (i := 2) rfl rfl) rfl, ?_⟩
        refine insP (i := 5) (k := 0) (j := j) k2 rfl rfl hj hl12 fun p1 c1 J2 k3 => ?_
        (try simp only [asI_mk', asB_mk, asP_mk, asA_mk, asM_mk, asSl_mk, asStr_mk, tup2_mk, tup3_mk, agg1_mk, agg2_mk, agg3_mk, agg4_mk, asAggm, unCons_mk, unNil_mk, asTup_mk, extractD0, extractD1, List.toList_toArray, nilP_mk, add_mk, Nat.zero_add, Nat.add_zero, condT, condF, Bool.not_true, Bool.not_false, Option.isNone_some, Option.isNone_none])
        refine ⟨ldSl_of (k3.cell (i := 2) rfl rfl) rfl, ?_⟩
        refine insV (i := 0) (k := 1) (v := stamp) k3 rfl rfl (by omega) fun p2 c2 J4 k4 => ?_
        (try simp only [asI_mk', asB_mk, asP_mk, asA_mk, asM_mk, asSl_mk, asStr_mk, tup2_mk, tup3_mk, agg1_mk, agg2_mk, agg3_mk, agg4_mk, asAggm, unCons_mk, unNil_mk, asTup_mk, extractD0, extractD1, List.toList_toArray, nilP_mk, add_mk, Nat.zero_add, Nat.add_zero, condT, condF, Bool.not_true, Bool.not_false, Option.isNone_some, Option.isNone_none])
        refine ⟨ldSl_of (k4.cell (i := 2) rfl rfl) rfl, ?_⟩
        refine insS (i := 0) (k := 5) (j := j) k4 rfl rfl hj (by omega) hl12 fun p3 c3 J5 k5 => ?_
        (try simp only [asI_mk', asB_mk, asP_mk, asA_mk, asM_mk, asSl_mk, asStr_mk, tup2_mk, tup3_mk, agg1_mk, agg2_mk, agg3_mk, agg4_mk, asAggm, unCons_mk, unNil_mk, asTup_mk, extractD0, extractD1, List.toList_toArray, nilP_mk, add_mk, Nat.zero_add, Nat.add_zero, condT, condF, Bool.not_true, Bool.not_false, Option.isNone_some, Option.isNone_none])
        exact fin p3 c3 (Prt.one b2 (.cells #[.int .u64 stamp] ty_uint64 (0, 0))) J5 k5

    have hj' := hj
    have g0 := g
    have hj : j ≤ x.nodes.length := hj'
    (try simp only [asI_mk', asB_mk, asP_mk, asA_mk, asM_mk, asSl_mk, asStr_mk, tup2_mk, tup3_mk, agg1_mk, agg2_mk, agg3_mk, agg4_mk, asAggm, unCons_mk, unNil_mk, asTup_mk, extractD0, extractD1, List.toList_toArray, nilP_mk, add_mk, Nat.zero_add, Nat.add_zero, condT, condF, Bool.not_true, Bool.not_false, Option.isNone_some, Option.isNone_none])
    refine ldSl_of (g0.cell (i := 0) rfl rfl) (slc_to (by omega) (by have h9 : x.nodes.length ≤ x.nc := (g0.row_own (i := 2) rfl).2.1; show (j : Int) ≤ (x.nc : Int); omega) ?_)
    refine ldSl_of (g0.cell (i := 0) rfl rfl) (slc_from (by omega) (by show (j : Int) ≤ (x.nodes.length : Int); omega) ?_)
    rw [wrap_u64' (n := node) (by omega) (by omega)]
    have fin : ∀ p3 c3 (A : Prt) J, St H0 (Prt.row 1 p3 (j + 1 + (x.nodes.length - j)) c3 ((x.nodes.take j ++ [node] ++ x.nodes.drop j).map (Value.int .u64)) :: A :: (rtRaw rb c t x F ++ M)) J → (st ⟨rb, 27, none⟩ (.slice p3 (j + 1 + (x.nodes.length - j)) c3) J fun H' => R13 H') := fun p3 c3 A J gJ => by
      refine gJ.put (i := 2) rfl (show 27 < 34 by decide) fun J2 g2 => ?_
      have e1 : j + 1 + (x.nodes.length - j) = (insAt x.nodes j node).length := by rw [insAt_len hj]; omega
      rw [e1] at g2
      have g3 := g2.flip.less
      exact hQ13 p3 c3 J2 (St.over (i := 2) g3 rfl)
    refine ⟨?_, ?_⟩
    · intro b1 hb1
      have k1 := g0.alloc (o := .cells #[] ty_uint64) hb1
      refine ⟨ldSl_of (k1.cell (i := 1) rfl rfl) rfl, ldSl_of (k1.cell (i := 1) rfl rfl) rfl, ?_, ?_⟩
      · refine insP (i := 3) (k := 0) (j := j) k1 rfl rfl hj hl12 fun p1 c1 J2 k2 => ?_
        (try simp only [asI_mk', asB_mk, asP_mk, asA_mk, asM_mk, asSl_mk, asStr_mk, tup2_mk, tup3_mk, agg1_mk, agg2_mk, agg3_mk, agg4_mk, asAggm, unCons_mk, unNil_mk, asTup_mk, extractD0, extractD1, List.toList_toArray, nilP_mk, add_mk, Nat.zero_add, Nat.add_zero, condT, condF, Bool.not_true, Bool.not_false, Option.isNone_some, Option.isNone_none])
        refine ⟨ldSl_of (k2.cell (i := 1) rfl rfl) rfl, ?_⟩
        intro b2 hb2
        have k3 := k2.alloc (o := .cells #[.int .u64 node] ty_uint64) hb2
        refine ⟨ldSl_of (k3.cell (i := 2) rfl rfl) rfl, ?_⟩
        refine insV (i := 1) (k := 0) (v := node) k3 rfl rfl (by omega) fun p2 c2 J4 k4 => ?_
        (try simp only [asI_mk', asB_mk, asP_mk, asA_mk, asM_mk, asSl_mk, asStr_mk, tup2_mk, tup3_mk, agg1_mk, agg2_mk, agg3_mk, agg4_mk, asAggm, unCons_mk, unNil_mk, asTup_mk, extractD0, extractD1, List.toList_toArray, nilP_mk, add_mk, Nat.zero_add, Nat.add_zero, condT, condF, Bool.not_true, Bool.not_false, Option.isNone_some, Option.isNone_none])
        refine ⟨ldSl_of (k4.cell (i := 2) rfl rfl) rfl, ?_⟩
        refine insS (i := 1) (k := 4) (j := j) k4 rfl rfl hj (by omega) hl12 fun p3 c3 J5 k5 => ?_
        (try simp only [asI_mk', asB_mk, asP_mk, asA_mk, asM_mk, asSl_mk, asStr_mk, tup2_mk, tup3_mk, agg1_mk, agg2_mk, agg3_mk, agg4_mk, asAggm, unCons_mk, unNil_mk, asTup_mk, extractD0, extractD1, List.toList_toArray, nilP_mk, add_mk, Nat.zero_add, Nat.add_zero, condT, condF, Bool.not_true, Bool.not_false, Option.isNone_some, Option.isNone_none])
        exact fin p3 c3 (Prt.one b2 (.cells #[.int .u64 node] ty_uint64 (0, 0))) J5 k5.flip
      · intro b2 hb2
        have k2 := k1.alloc (o := .cells #[.int .u64 node] ty_uint64) hb2
        refine ⟨ldSl_of (k2.cell (i := 2) rfl rfl) rfl, ldSl_of (k2.cell (i := 2) rfl rfl) rfl, ?_⟩
        refine insP (i := 4) (k := 1) (j := j) k2 rfl rfl hj hl12 fun p1 c1 J2 k3 => ?_
        (try simp only [asI_mk', asB_mk, asP_mk, asA_mk, asM_mk, asSl_mk, asStr_mk, tup2_mk, tup3_mk, agg1_mk, agg2_mk, agg3_mk, agg4_mk, asAggm, unCons_mk, unNil_mk, asTup_mk, extractD0, extractD1, List.toList_toArray, nilP_mk, add_mk, Nat.zero_add, Nat.add_zero, condT, condF, Bool.not_true, Bool.not_false, Option.isNone_some, Option.isNone_none])
        refine ⟨ldSl_of (k3.cell (i := 2) rfl rfl) rfl, ?_⟩
        refine insV (i := 1) (k := 0) (v := node) k3 rfl rfl (by omega) fun p2 c2 J4 k4 => ?_
        (try simp only [asI_mk', asB_mk, asP_mk, asA_mk, asM_mk, asSl_mk, asStr_mk, tup2_mk, tup3_mk, agg1_mk, agg2_mk, agg3_mk, agg4_mk, asAggm, unCons_mk, unNil_mk, asTup_mk, extractD0, extractD1, List.toList_toArray, nilP_mk, add_mk, Nat.zero_add, Nat.add_zero, condT, condF, Bool.not_true, Bool.not_false, Option.isNone_some, Option.isNone_none])
        refine ⟨ldSl_of (k4.cell (i := 2) rfl rfl) rfl, ?_⟩
        refine insS (i := 1) (k := 4) (j := j) k4 rfl rfl hj (by omega) hl12 fun p3 c3 J5 k5 => ?_
        (try simp only [asI_mk', asB_mk, asP_mk, asA_mk, asM_mk, asSl_mk, asStr_mk, tup2_mk, tup3_mk, agg1_mk, agg2_mk, agg3_mk, agg4_mk, asAggm, unCons_mk, unNil_mk, asTup_mk, extractD0, extractD1, List.toList_toArray, nilP_mk, add_mk, Nat.zero_add, Nat.add_zero, condT, condF, Bool.not_true, Bool.not_false, Option.isNone_some, Option.isNone_none])
        exact fin p3 c3 (Prt.one b2 (.cells #[.int .u64 node] ty_uint64 (0, 0))) J5 k5.flip
    · intro b2 hb2
      have k1 := g0.alloc (o := .cells #[.int .u64 node] ty_uint64) hb2
      refine ⟨ldSl_of (k1.cell (i := 1) rfl rfl) rfl, ldSl_of (k1.cell (i := 1) rfl rfl) rfl, ?_⟩
      intro b1 hb1
      have k2 := k1.alloc (o := .cells #[] ty_uint64) hb1
      refine ⟨ldSl_of (k2.cell (i := 2) rfl rfl) rfl, ldSl_of (k2.cell (i := 2) rfl rfl) rfl, ?_⟩
      refine insP (i := 4) (k := 0) (j := j) k2 rfl rfl hj hl12 fun p1 c1 J2 k3 => ?_
      (try simp only [asI_mk', asB_mk, asP_mk, asA_mk, asM_mk, asSl_mk, asStr_mk, tup2_mk, tup3_mk, agg1_mk, agg2_mk, agg3_mk, agg4_mk, asAggm, unCons_mk, unNil_mk, asTup_mk, extractD0, extractD1, List.toList_toArray, nilP_mk, add_mk, Nat.zero_add, Nat.add_zero, condT, condF, Bool.not_true, Bool.not_false, Option.isNone_some, Option.isNone_none])
      refine ⟨ldSl_of (k3.cell (i := 2) rfl rfl) rfl, ?_⟩
      refine insV (i := 0) (k := 1) (v := node) k3 rfl rfl (by omega) fun p2 c2 J4 k4 => ?_
      (try simp only [asI_mk', asB_mk, asP_mk, asA_mk, asM_mk, asSl_mk, asStr_mk, tup2_mk, tup3_mk, agg1_mk, agg2_mk, agg3_mk, agg4_mk, asAggm, unCons_mk, unNil_mk, asTup_mk, extractD0, extractD1, List.toList_toArray, nilP_mk, add_mk, Nat.zero_add, Nat.add_zero, condT, condF, Bool.not_true, Bool.not_false, Option.isNone_some, Option.isNone_none])
      refine ⟨ldSl_of (k4.cell (i := 2) rfl rfl) rfl, ?_⟩
      refine insS (i := 0) (k := 4) (j := j) k4 rfl rfl hj (by omega) hl12 fun p3 c3 J5 k5 => ?_
      (try simp only [asI_mk', asB_mk, asP_mk, asA_mk, asM_mk, asSl_mk, asStr_mk, tup2_mk, tup3_mk, agg1_mk, agg2_mk, agg3_mk, agg4_mk, asAggm, unCons_mk, unNil_mk, asTup_mk, extractD0, extractD1, List.toList_toArray, nilP_mk, add_mk, Nat.zero_add, Nat.add_zero, condT, condF, Bool.not_true, Bool.not_false, Option.isNone_some, Option.isNone_none])
      exact fin p3 c3 (Prt.one b2 (.cells #[.int .u64 node] ty_uint64 (0, 0))) J5 k5

  clear hR10
  refine ⟨fun q H' => H' = H ∧ ∃ m : Nat, q = m ∧ m ≤ x.nodes.length ∧ ∀ n ∈ x.nodes.take m, n < node, fun q _ => ((x.nodes.length : Int) - q).toNat, ⟨rfl, 0, rfl, by omega, fun n hn => by simp at hn⟩, ?_⟩
  rintro q H' ⟨rfl, m, rfl, hm, hno⟩
  (try simp only [asI_mk', asB_mk, asP_mk, asA_mk, asM_mk, asSl_mk, asStr_mk, tup2_mk, tup3_mk, agg1_mk, agg2_mk, agg3_mk, agg4_mk, asAggm, unCons_mk, unNil_mk, asTup_mk, extractD0, extractD1, List.toList_toArray, nilP_mk, add_mk, Nat.zero_add, Nat.add_zero, condT, condF, Bool.not_true, Bool.not_false, Option.isNone_some, Option.isNone_none])
  refine ldSl_of (g.cell (i := 0) rfl rfl) ?_
  by_cases hml : (m : Int) < (x.nodes.length : Int)
  rotate_left
  · exact bif_neg hml (hQ10 m hm hno fun n hn => by rw [List.getElem?_eq_none (by omega)] at hn; cases hn)
  refine bif_pos hml (ldSl_of (g.cell (i := 0) rfl rfl) ?_)
  refine rNum (i := 2) g rfl (by omega) (by omega) fun a ha => ldI_of (ha [] H' g) ?_
  rw [wrap_u64' (n := node) (by omega) (by omega)]
  have gm : x.nodes.getD m 0 = x.nodes[m]'(by omega) := by rw [List.getD_eq_getElem?_getD, List.getElem?_eq_getElem (by omega)]; rfl
  by_cases he : x.nodes.getD m 0 < node
  · refine bif_pos he ?_
    rw [wrap_i64 (by omega) (by omega)]
    refine ⟨⟨by trivial, m + 1, by omega, by omega, fun n hn' => ?_⟩, by (try dsimp only); omega⟩
    rw [List.take_succ_eq_append_getElem (by omega)] at hn'
    rcases List.mem_append.1 hn' with hn' | hn'
    · exact hno n hn'
    · simp at hn'; rw [hn', ← gm]; exact he
  · refine bif_neg he (hQ10 m hm hno fun n hn => ?_)
    rw [List.getElem?_eq_getElem (by omega)] at hn
    rw [← Option.some.inj hn, ← gm]
    omega
end
end Go.Proofs.Ytknejebggegfjaa

namespace Go.Proofs.Ytknejebggegfjaa
set_option linter.unusedSimpArgs false
set_option linter.unusedVariables false
set_option maxRecDepth 20000
open Go
section
variable {H0 H : Hp} {L M N : List Prt} {i k rb : Nat} {c : Cf} {t : Tr} {x : RX} {m : Ms} {F : Prop} {K : Value → Hp → Prop}
theorem rMoreC {y0 : It} {lp : Option Addr} {ll lc : Nat} {r : List Int} (g : St H0 (rtRaw rb c t x F ++ M) H) (hn : 1 ≤ c.a0 ∧ c.a0 ≤ 12) (hyn : 1 ≤ y0.id.n ∧ y0.id.n ≤ 72057594037927935) (hl : t.items.length ≤ 1000) (hll : ll = r.length) (hlb : ll ≤ 4611686018427387903) (hr0 : ∀ n ∈ r, 0 ≤ n ∧ n < 18446744073709551616) (hrd : ∀ N H', St H0 (N ++ M) H' → Rd H' 1 lp ll (r.map (Value.int .u64)))
    (hK : ∀ ip ic H', St H0 (rtRaw rb c { t with items := (moreL c.a0 y0 r t.items).2 } { x with ip := ip, ic := ic } F ++ M) H' → K (.bool (moreL c.a0 y0 r t.items).1) H') :
    hcall PR f_ref22_Trace_more ⟨[.pointer (some ⟨rb, 0, none⟩), .agg #[.bool y0.inn, .int .i64 y0.node, .int .i64 y0.id.n, .int .u64 y0.id.s, .int .i64 y0.code], .slice lp ll lc]⟩ H K := by
  apply den_ref22_Trace_more
  unfold B_ref22_Trace_more
  intro b10 hb10
  have g1 := g.alloc (o := .cells #[.bool y0.inn, .int .i64 y0.node, .int .i64 y0.id.n, .int .u64 y0.id.s, .int .i64 y0.code] ty_trace_Item) hb10
  have fin : ∀ (b : Bool) (l : List It) ip ic H', moreL c.a0 y0 r t.items = (b, l) → St H0 (Prt.one b10 (.cells #[.bool y0.inn, .int .i64 y0.node, .int .i64 y0.id.n, .int .u64 y0.id.s, .int .i64 y0.code] ty_trace_Item (0, 0)) :: (rtRaw rb c { t with items := l } { x with ip := ip, ic := ic } F ++ M)) H' → K (.bool b) H' := fun b l ip ic H' e h' => by
    rw [e] at hK
    exact hK ip ic H' h'.less
  clear hK
  refine ⟨fun q H' => ∃ (y : Nat) (l : List It) (ip : Option Addr) (ic : Nat), q = y ∧ y ≤ ll ∧ moreL c.a0 y0 r t.items = moreL c.a0 y0 (r.drop y) l ∧ l.length ≤ 1000 ∧ St H0 (Prt.one b10 (.cells #[.bool y0.inn, .int .i64 y0.node, .int .i64 y0.id.n, .int .u64 y0.id.s, .int .i64 y0.code] ty_trace_Item (0, 0)) :: (rtRaw rb c { t with items := l } { x with ip := ip, ic := ic } F ++ M)) H', fun q _ => ((ll : Int) - q).toNat, ⟨0, t.items, x.ip, x.ic, rfl, by omega, rfl, hl, g1⟩, ?_⟩
  clear g1 g
  rintro q H2 ⟨y, l, ip, ic, rfl, hy, he, hl, g2⟩
  by_cases hc : (y : Int) < (ll : Int)
  rotate_left
  · refine bif_neg hc (fin true l ip ic H2 ?_ g2)
    rw [he, List.drop_of_length_le (by omega)]
    rfl
  have hyl : y < r.length := by omega
  obtain ⟨v, hv⟩ : ∃ v, v = r.getD y 0 := ⟨_, rfl⟩
  have hdr : r.drop y = v :: r.drop (y + 1) := by
    rw [hv, List.getD_eq_getElem?_getD, List.getElem?_eq_getElem hyl]
    exact List.drop_eq_getElem_cons hyl
  have hv0 := hr0 v (by rw [hv, List.getD_eq_getElem?_getD, List.getElem?_eq_getElem hyl]; exact List.getElem_mem _)
  rw [hdr] at he
  refine bif_pos hc ?_
  intro R16 hR16
  have hQ16 : ∀ (l : List It) (ip : Option Addr) (ic : Nat) H', moreL c.a0 y0 r t.items = moreL c.a0 y0 (r.drop (y + 1)) l → l.length ≤ 1000 → St H0 (Prt.one b10 (.cells #[.bool y0.inn, .int .i64 y0.node, .int .i64 y0.id.n, .int .u64 y0.id.s, .int .i64 y0.code] ty_trace_Item (0, 0)) :: (rtRaw rb c { t with items := l } { x with ip := ip, ic := ic } F ++ M)) H' → R16 H' := fun l ip ic H' h1 h3 h4 => by
    refine hR16 H' ?_
    rw [wrap_i64 (by omega) (by omega)]
    exact ⟨⟨y + 1, l, ip, ic, by omega, by omega, h1, h3, h4⟩, by (try dsimp only); omega⟩
  clear hR16
  have rv : ∀ N H' {Q : Addr → Prop}, St H0 (N ++ M) H' → (∀ a, (∀ N H', St H0 (N ++ M) H' → hcell H' a = some (.int .u64 v)) → Q a) → idxA lp ll y 1 Q := fun N H' Q h' hQ => by
    refine idx1 (d := (0 : Int)) (hrd N H' h') (by omega) hc fun b o hp _ => hQ _ fun N2 H2 h2 => ?_
    have r' := hrd N2 H2 h2
    rw [hp] at r'
    have := r'.2.2 y (by omega)
    rw [List.getElem?_map, List.getElem?_eq_getElem hyl] at this
    rw [Int.toNat_natCast, hv, List.getD_eq_getElem?_getD, List.getElem?_eq_getElem hyl]
    exact this
  have tail : ∀ {A : List Prt} {H'}, St H0 (A ++ (rtRaw rb c { t with items := l } { x with ip := ip, ic := ic } F ++ M)) H' → St H0 (A ++ (rtRaw rb c { t with items := l } { x with ip := ip, ic := ic } F) ++ M) H' := fun h => by rw [List.append_assoc]; exact h
  refine ldI_of (g2.cell (i := 0) rfl rfl) (ldI_of (g2.cell (i := 0) rfl rfl) (rv _ H2 (tail (A := [_]) g2) fun a ha => ldI_of (ha _ H2 (tail (A := [_]) g2)) ?_))
  intro b22 hb22
  have g3 := g2.alloc (o := .cells #[.bool false, .int .i64 0, .int .i64 0, .int .u64 0, .int .i64 0] ty_trace_Item) hb22
  refine ⟨ldI_of (ha _ _ (tail (A := [_, _]) g3)) rfl, ldI_of (g3.cell (i := 1) rfl rfl) rfl, ldI_of (g3.cell (i := 1) rfl rfl) rfl, ?_⟩
  refine St.sets (i := 0) (o := 0) (vs := [.bool true, .int .i64 y0.node, .int .i64 y0.node, .int .u64 v, .int .i64 0]) g3 rfl (by simp) fun H4 g4 => ?_
  rw [setsA_all (by rfl)] at g4
  have g4 : St H0 (Prt.one b22 (.cells #[.bool (⟨true, y0.node, ⟨y0.node, v⟩, 0⟩ : It).inn, .int .i64 (⟨true, y0.node, ⟨y0.node, v⟩, 0⟩ : It).node, .int .i64 (⟨true, y0.node, ⟨y0.node, v⟩, 0⟩ : It).id.n, .int .u64 (⟨true, y0.node, ⟨y0.node, v⟩, 0⟩ : It).id.s, .int .i64 (⟨true, y0.node, ⟨y0.node, v⟩, 0⟩ : It).code] ty_trace_Item (0, 0)) :: Prt.one b10 (.cells #[.bool y0.inn, .int .i64 y0.node, .int .i64 y0.id.n, .int .u64 y0.id.s, .int .i64 y0.code] ty_trace_Item (0, 0)) :: (rtRaw rb c { t with items := l } { x with ip := ip, ic := ic } F ++ M)) H4 := g4
  clear g3
  intro R32 hR32
  have hno : moreIt c.a0 y0 v = none → K (.bool false) H4 := fun e => fin false l ip ic H4 (by rw [he]; unfold moreL; rw [e]) g4.less
  have hQ32 : (y0.inn = false → moreIt c.a0 y0 v = some ⟨true, y0.node, ⟨y0.node, v⟩, 0⟩) → R32 H4 := fun hmi => by
    refine hR32 H4 ?_
    clear hR32 g2
    intro R34 hR34
    have hQ34 : ∀ (w : It) H', moreIt c.a0 y0 v = some w → St H0 (Prt.one b22 (.cells #[.bool w.inn, .int .i64 w.node, .int .i64 w.id.n, .int .u64 w.id.s, .int .i64 w.code] ty_trace_Item (0, 0)) :: Prt.one b10 (.cells #[.bool y0.inn, .int .i64 y0.node, .int .i64 y0.id.n, .int .u64 y0.id.s, .int .i64 y0.code] ty_trace_Item (0, 0)) :: (rtRaw rb c { t with items := l } { x with ip := ip, ic := ic } F ++ M)) H' → R34 H' := fun w H5 hw g5 => by
      refine hR34 H5 ?_
      clear hR34 g4
      have hm : moreL c.a0 y0 (v :: r.drop (y + 1)) l = if l.any (fun z => z.same w) then moreL c.a0 y0 (r.drop (y + 1)) l else if 1000 ≤ l.length then (false, l) else moreL c.a0 y0 (r.drop (y + 1)) (l ++ [w]) := by
        conv => lhs; unfold moreL
        rw [hw]
      rw [hm] at he
      refine ⟨fun has q H' => ∃ qq : Nat, q = qq ∧ qq ≤ l.length ∧ has = (l.take qq).any (fun z => z.same w) ∧ St H0 (Prt.one b22 (.cells #[.bool w.inn, .int .i64 w.node, .int .i64 w.id.n, .int .u64 w.id.s, .int .i64 w.code] ty_trace_Item (0, 0)) :: Prt.one b10 (.cells #[.bool y0.inn, .int .i64 y0.node, .int .i64 y0.id.n, .int .u64 y0.id.s, .int .i64 y0.code] ty_trace_Item (0, 0)) :: (rtRaw rb c { t with items := l } { x with ip := ip, ic := ic } F ++ M)) H', fun _ q _ => ((l.length : Int) - q).toNat, ⟨0, rfl, by omega, by simp, g5⟩, ?_⟩
      clear g5
      rintro has q H6 ⟨qq, rfl, hqq, hhas, g6⟩
      (try simp only [asI_mk', asB_mk, asP_mk, asA_mk, asM_mk, asSl_mk, asStr_mk, tup2_mk, tup3_mk, agg1_mk, agg2_mk, agg3_mk, agg4_mk, asAggm, unCons_mk, unNil_mk, asTup_mk, extractD0, extractD1, List.toList_toArray, nilP_mk, add_mk, Nat.zero_add, Nat.add_zero, condT, condF, Bool.not_true, Bool.not_false, Option.isNone_some, Option.isNone_none])
      refine ldSl_of (g6.cell (i := 2) rfl rfl) ?_
      by_cases hql : (qq : Int) < (l.length : Int)
      · refine bif_pos hql ?_
        have hqn : qq < l.length := by omega
        have hnx : (l.take (qq + 1)).any (fun z => z.same w) = (has || (l.getD qq noIt).same w) := by
          rw [List.take_succ_eq_append_getElem hqn, List.any_append, ← hhas, List.getD_eq_getElem?_getD, List.getElem?_eq_getElem hqn]
          simp
        intro R45 hR45
        have hQ45 : ∀ b H', b = (has || (l.getD qq noIt).same w) → St H0 (Prt.one b22 (.cells #[.bool w.inn, .int .i64 w.node, .int .i64 w.id.n, .int .u64 w.id.s, .int .i64 w.code] ty_trace_Item (0, 0)) :: Prt.one b10 (.cells #[.bool y0.inn, .int .i64 y0.node, .int .i64 y0.id.n, .int .u64 y0.id.s, .int .i64 y0.code] ty_trace_Item (0, 0)) :: (rtRaw rb c { t with items := l } { x with ip := ip, ic := ic } F ++ M)) H' → R45 b H' := fun b H' hb g' => by
          refine hR45 b H' ?_
          rw [wrap_i64 (by omega) (by omega)]
          exact ⟨⟨qq + 1, by omega, by omega, by rw [hnx, hb], g'⟩, by (try dsimp only); omega⟩
        clear hR45
        obtain ⟨z, hz⟩ : ∃ z, z = l.getD qq noIt := ⟨_, rfl⟩
        rw [← hz] at hQ45
        refine ldSl_of (g6.cell (i := 2) rfl rfl) (idxS It.len noIt (g6.row_rd (i := 3) rfl) (by omega) (by omega) hql fun b o _ _ hcc => ?_)
        rw [Int.toNat_natCast, ← hz] at hcc
        rw [Int.toNat_natCast]
        (try simp only [asI_mk', asB_mk, asP_mk, asA_mk, asM_mk, asSl_mk, asStr_mk, tup2_mk, tup3_mk, agg1_mk, agg2_mk, agg3_mk, agg4_mk, asAggm, unCons_mk, unNil_mk, asTup_mk, extractD0, extractD1, List.toList_toArray, nilP_mk, add_mk, Nat.zero_add, Nat.add_zero, condT, condF, Bool.not_true, Bool.not_false, Option.isNone_some, Option.isNone_none])
        refine ldB_of (hcc 0 (by omega)) (ldI_of (hcc 1 (by omega)) (ldI_of (hcc 2 (by omega)) (ldI_of (hcc 3 (by omega)) (ldI_of (hcc 4 (by omega)) ?_))))
        refine boxs (c := [.bool false, .int .i64 0, .int .i64 0, .int .u64 0, .int .i64 0]) (vs := z.cells) g6 rfl fun b58 H7 g7 => ?_
        have g7 : St H0 (Prt.one b58 (.cells #[.bool z.inn, .int .i64 z.node, .int .i64 z.id.n, .int .u64 z.id.s, .int .i64 z.code] ty_trace_Item (0, 0)) :: Prt.one b22 (.cells #[.bool w.inn, .int .i64 w.node, .int .i64 w.id.n, .int .u64 w.id.s, .int .i64 w.code] ty_trace_Item (0, 0)) :: Prt.one b10 (.cells #[.bool y0.inn, .int .i64 y0.node, .int .i64 y0.id.n, .int .u64 y0.id.s, .int .i64 y0.code] ty_trace_Item (0, 0)) :: (rtRaw rb c { t with items := l } { x with ip := ip, ic := ic } F ++ M)) H7 := g7
        cases has
        rotate_left
        · simp only [condT]
          exact hQ45 true H7 rfl g7.less
        simp only [condF]
        simp only [Bool.false_or] at hQ45
        refine ldB_of (g7.cell (i := 0) rfl rfl) (ldB_of (g7.cell (i := 1) rfl rfl) ?_)
        unfold It.same at hQ45
        by_cases e1 : z.inn = w.inn
        rotate_left
        · have e1' : (z.inn == w.inn) = false := by simpa using e1
          rw [e1'] at hQ45 ⊢
          exact hQ45 false H7 rfl g7.less
        have e1' : (z.inn == w.inn) = true := by simpa using e1
        rw [e1'] at hQ45 ⊢
        simp only [condT, Bool.true_and] at hQ45 ⊢
        refine ldI_of (g7.cell (i := 0) rfl rfl) (ldI_of (g7.cell (i := 1) rfl rfl) ?_)
        by_cases e2 : z.node = w.node
        rotate_left
        · rw [decide_eq_false e2] at hQ45
          exact bif_ne e2 (hQ45 false H7 rfl g7.less)
        rw [decide_eq_true e2] at hQ45
        refine bif_eq e2 (ldI_of (g7.cell (i := 0) rfl rfl) (ldI_of (g7.cell (i := 0) rfl rfl) (ldI_of (g7.cell (i := 1) rfl rfl) (ldI_of (g7.cell (i := 1) rfl rfl) (idEq ?_)))))
        (try simp only [asI_mk', asB_mk, asP_mk, asA_mk, asM_mk, asSl_mk, asStr_mk, tup2_mk, tup3_mk, agg1_mk, agg2_mk, agg3_mk, agg4_mk, asAggm, unCons_mk, unNil_mk, asTup_mk, extractD0, extractD1, List.toList_toArray, nilP_mk, add_mk, Nat.zero_add, Nat.add_zero, condT, condF, Bool.not_true, Bool.not_false, Option.isNone_some, Option.isNone_none])
        refine hQ45 _ H7 ?_ g7.less
        rw [Bool.true_and]
      · refine bif_neg hql ?_
        rw [List.take_of_length_le (by omega)] at hhas
        cases has
        rotate_left
        · simp only [condT]
          rw [if_pos hhas.symm] at he
          exact hQ16 l ip ic H6 he hl g6.less
        simp only [condF]
        rw [if_neg (by rw [← hhas]; decide)] at he
        refine ldSl_of (g6.cell (i := 2) rfl rfl) ?_
        by_cases hf : ((l.length : Nat) : Int) ≥ 1000
        · rw [if_pos (by omega)] at he
          exact bif_pos hf (fin false l ip ic H6 he g6.less)
        rw [if_neg (by omega)] at he
        refine bif_neg hf (ldSl_of (g6.cell (i := 2) rfl rfl) (ldB_of (g6.cell (i := 0) rfl rfl) (ldI_of (g6.cell (i := 0) rfl rfl) (ldI_of (g6.cell (i := 0) rfl rfl) (ldI_of (g6.cell (i := 0) rfl rfl) (ldI_of (g6.cell (i := 0) rfl rfl) ?_))))))
        intro b88 hb88
        have g7 := g6.alloc (o := .cells #[.bool w.inn, .int .i64 w.node, .int .i64 w.id.n, .int .u64 w.id.s, .int .i64 w.code] ty_trace_Item) hb88
        refine ⟨ldSl_of (g7.cell (i := 3) rfl rfl) rfl, ?_⟩
        refine g7.app (i := 4) rfl tu_ty_Strace_Item tu_ty_Strace_Item ti_ty_trace_Item rfl (by decide) (g7.one_rd (i := 0) (n := 1) rfl rfl) (fun z hz => by simp at hz; rcases hz with rfl | rfl | rfl | rfl | rfl <;> rfl) (by (try dsimp only); omega) fun p' cap' H8 g8 => ?_
        (try simp only [asI_mk', asB_mk, asP_mk, asA_mk, asM_mk, asSl_mk, asStr_mk, tup2_mk, tup3_mk, agg1_mk, agg2_mk, agg3_mk, agg4_mk, asAggm, unCons_mk, unNil_mk, asTup_mk, extractD0, extractD1, List.toList_toArray, nilP_mk, add_mk, Nat.zero_add, Nat.add_zero, condT, condF, Bool.not_true, Bool.not_false, Option.isNone_some, Option.isNone_none])
        refine g8.put (i := 3) rfl (show 26 < 34 by decide) fun H9 g9 => ?_
        have e1 : cel It.cells l ++ (#[.bool w.inn, .int .i64 w.node, .int .i64 w.id.n, .int .u64 w.id.s, .int .i64 w.code] : Array Value).toList = cel It.cells (l ++ [w]) := by rw [cel_append]; rfl
        have e2 : l.length + 1 = (l ++ [w]).length := by simp
        rw [e1, e2] at g9
        refine hQ16 (l ++ [w]) p' cap' H9 he (by simp; omega) ?_
        exact St.lesses (M := [_, _]) g9
    clear hR34
    refine ldB_of (g4.cell (i := 1) rfl rfl) ?_
    cases hin : y0.inn
    · simp only [condF]
      exact hQ34 ⟨true, y0.node, ⟨y0.node, v⟩, 0⟩ H4 (hmi hin) (by rw [hin] at g4 ⊢; exact g4)
    simp only [condT]
    have hmi2 : moreIt c.a0 y0 v = if v < 1 then none else if v > 72057594037927935 then none else if v > c.a0 then none else if v = y0.id.n then none else some ⟨false, v, y0.id, 0⟩ := by
      unfold moreIt
      rw [hin, if_pos rfl]
    refine rv _ H4 (tail (A := [_, _]) g4) fun a2 ha2 => ldI_of (ha2 _ H4 (tail (A := [_, _]) g4)) ?_
    by_cases n1 : v < 1
    · exact bif_pos n1 (hno (by rw [hmi2, if_pos n1]))
    refine bif_neg n1 (rv _ H4 (tail (A := [_, _]) g4) fun a2 ha2 => ldI_of (ha2 _ H4 (tail (A := [_, _]) g4)) ?_)
    (try simp only [asI_mk', asB_mk, asP_mk, asA_mk, asM_mk, asSl_mk, asStr_mk, tup2_mk, tup3_mk, agg1_mk, agg2_mk, agg3_mk, agg4_mk, asAggm, unCons_mk, unNil_mk, asTup_mk, extractD0, extractD1, List.toList_toArray, nilP_mk, add_mk, Nat.zero_add, Nat.add_zero, condT, condF, Bool.not_true, Bool.not_false, Option.isNone_some, Option.isNone_none])
    refine ldI_of (g4.cell (i := 2) rfl rfl) ?_
    rw [wrap_u64' (n := c.a0) (by omega) (by omega)]
    by_cases n3 : v > c.a0
    · refine bif_pos n3 (hno ?_)
      rw [hmi2, if_neg n1]
      split
      · rfl
      · first | rfl | (rw [if_pos n3])
    rw [if_neg n1, if_neg (by omega), if_neg n3] at hmi2
    refine bif_neg n3 (rv _ H4 (tail (A := [_, _]) g4) fun a2 ha2 => ldI_of (ha2 _ H4 (tail (A := [_, _]) g4)) (ldI_of (g4.cell (i := 1) rfl rfl) ?_))
    rw [wrap_u64' (n := y0.id.n) (by omega) (by omega)]
    by_cases n4 : v = y0.id.n
    · exact bif_eq n4 (hno (by rw [hmi2, if_pos n4]))
    rw [if_neg n4] at hmi2
    refine bif_ne n4 (rv _ H4 (tail (A := [_, _]) g4) fun a2 ha2 => ldI_of (ha2 _ H4 (tail (A := [_, _]) g4)) (ldI_of (g4.cell (i := 1) rfl rfl) (ldI_of (g4.cell (i := 1) rfl rfl) ?_)))
    rw [wrap_i64 (n := v) (by omega) (by omega)]
    refine St.sets (i := 0) (o := 0) (vs := [.bool false, .int .i64 v, .int .i64 y0.id.n, .int .u64 y0.id.s, .int .i64 0]) g4 rfl (by simp) fun H5 g5 => ?_
    rw [setsA_all (by rfl)] at g5
    exact hQ34 ⟨false, v, y0.id, 0⟩ H5 hmi2 g5
  clear hR32
  refine ldB_of (g4.cell (i := 1) rfl rfl) ?_
  cases hin : y0.inn
  rotate_left
  · simp only [Bool.not_true, condF]
    exact hQ32 fun h => by rw [hin] at h; cases h
  simp only [Bool.not_false, condT]
  have hmi2 : moreIt c.a0 y0 v = if v < 1 then none else if v > 72057594037927935 then none else some ⟨true, y0.node, ⟨y0.node, v⟩, 0⟩ := by
    unfold moreIt
    rw [hin, if_neg (show ¬ (false = true) by decide)]
  refine rv _ H4 (tail (A := [_, _]) g4) fun a2 ha2 => ldI_of (ha2 _ H4 (tail (A := [_, _]) g4)) ?_
  by_cases n1 : v < 1
  · exact bif_pos n1 (hno (by rw [hmi2, if_pos n1]))
  refine bif_neg n1 (rv _ H4 (tail (A := [_, _]) g4) fun a2 ha2 => ldI_of (ha2 _ H4 (tail (A := [_, _]) g4)) ?_)
  by_cases n2 : v > 72057594037927935
  · exact bif_pos n2 (hno (by rw [hmi2, if_neg n1, if_pos n2]))
  exact bif_neg n2 (hQ32 fun _ => by rw [hmi2, if_neg n1, if_neg n2])
theorem rCode (g : St H0 (N ++ (rtRaw rb c t x F ++ M)) H) {v : Int} {Q : Hp → Prop} (h0 : 0 ≤ t.opn) (h1 : t.opn < t.items.length) (hQ : ∀ H', St H0 (N ++ (rtRaw rb c (t.code v) x F ++ M)) H' → Q H') :
    idxA x.ip t.items.length t.opn 5 fun el => st (el.add 4) (.int .i64 v) H fun H' => Q H' := by
  refine rIt (M := M) (St.lesses (M := N) g) h0 h1 fun b o hp _ => ?_
  rw [add_mk, Nat.add_assoc]
  have hlt : t.opn.toNat < t.items.length := by omega
  refine g.poke (i := N.length + 1) (by rw [List.getElem?_append_right (Nat.le_add_right _ _), Nat.add_sub_cancel_left]; rfl) hp (by have : (t.opn.toNat + 1) * 5 ≤ t.items.length * 5 := Nat.mul_le_mul_right _ hlt; omega) fun H' h' => hQ H' ?_
  rw [cel_code hlt, List.set_append_right _ _ (Nat.le_add_right _ _), Nat.add_sub_cancel_left] at h'
  have e : (t.code v).items.length = t.items.length := by simp [Tr.code]
  unfold rtRaw
  rw [e]
  exact h'
/-- All that is suspect is to be buried. -/
theorem rBuryC (ho : t.ok c.a0) (h2 : t.st = 2) (hxb : x.bury = []) (g : St H0 (rtRaw rb c t x F ++ M) H)
    (hK : ∀ x' H', ((buryFrom 0 t.items).length = 0 → St H0 (rtRaw rb c t.finds x' F ++ M) H') → (¬ (buryFrom 0 t.items).length = 0 → x'.bury = buryFrom 0 t.items ∧ x'.atx = 0 ∧ x'.nodes = x.nodes ∧ x'.stamps = x.stamps ∧ x'.q = x.q ∧ x'.se = x.se ∧ x'.w = x.w ∧ St H0 (rtRaw rb c { t with st := 3 } x' F ++ M) H') → K (.tuple #[]) H') :
    hcall PR f_ref22_Trace_burying ⟨[.pointer (some ⟨rb, 0, none⟩)]⟩ H K := by
  apply den_ref22_Trace_burying
  unfold B_ref22_Trace_burying
  have hil := ho.items
  have g0 : St H0 (rtRaw rb c t { x with bury := buryFrom 0 (t.items.take 0), bp := x.bp, bc := x.bc } F ++ M) H := by
    rw [List.take_zero, show buryFrom 0 [] = x.bury from hxb.symm]
    exact g
  refine ⟨fun q H' => ∃ (j : Nat) (bp : Option Addr) (bc : Nat), q = j ∧ j ≤ t.items.length ∧ St H0 (rtRaw rb c t { x with bury := buryFrom 0 (t.items.take j), bp := bp, bc := bc } F ++ M) H', fun q _ => ((t.items.length : Int) - q).toNat, ⟨0, x.bp, x.bc, rfl, by omega, g0⟩, ?_⟩
  clear g g0
  rintro q H4 ⟨j, bp, bc, rfl, hj, g4⟩
  (try simp only [asI_mk', asB_mk, asP_mk, asA_mk, asM_mk, asSl_mk, asStr_mk, tup2_mk, tup3_mk, agg1_mk, agg2_mk, agg3_mk, agg4_mk, asAggm, unCons_mk, unNil_mk, asTup_mk, extractD0, extractD1, List.toList_toArray, nilP_mk, add_mk, Nat.zero_add, Nat.add_zero, condT, condF, Bool.not_true, Bool.not_false, Option.isNone_some, Option.isNone_none])
  refine ldSl_of (g4.cell (i := 0) rfl rfl) ?_
  by_cases hc : (j : Int) < (t.items.length : Int)
  rotate_left
  · refine bif_neg hc ?_
    rw [List.take_of_length_le (by omega)] at g4
    refine g4.put (i := 0) rfl (show 23 < 34 by decide) fun H5 g5 => ?_
    have g5 : St H0 (rtRaw rb c { t with st := 3 } { x with bury := buryFrom 0 t.items, bp := bp, bc := bc } F ++ M) H5 := g5
    refine g5.put (i := 0) rfl (show 30 < 34 by decide) fun H6 g6 => ?_
    have g6 : St H0 (rtRaw rb c { t with st := 3 } { x with bury := buryFrom 0 t.items, bp := bp, bc := bc, atx := 0 } F ++ M) H6 := g6
    refine ldSl_of (g6.cell (i := 0) rfl rfl) ?_
    by_cases hz : (buryFrom 0 t.items).length = 0
    · refine bif_eq (by show ((buryFrom 0 t.items).length : Int) = 0; omega) (rOverC g6 fun x' H7 _ _ _ g7 => ?_)
      (try simp only [asI_mk', asB_mk, asP_mk, asA_mk, asM_mk, asSl_mk, asStr_mk, tup2_mk, tup3_mk, agg1_mk, agg2_mk, agg3_mk, agg4_mk, asAggm, unCons_mk, unNil_mk, asTup_mk, extractD0, extractD1, List.toList_toArray, nilP_mk, add_mk, Nat.zero_add, Nat.add_zero, condT, condF, Bool.not_true, Bool.not_false, Option.isNone_some, Option.isNone_none])
      exact hK x' H7 (fun _ => g7) (fun h => absurd hz h)
    · refine bif_ne (by show ¬ ((buryFrom 0 t.items).length : Int) = 0; omega) ?_
      exact hK { x with bury := buryFrom 0 t.items, bp := bp, bc := bc, atx := 0 } H6 (fun h => absurd h hz) (fun _ => ⟨rfl, rfl, rfl, rfl, rfl, rfl, rfl, g6⟩)
  have hjl : j < t.items.length := by omega
  obtain ⟨y, hy⟩ : ∃ y, y = t.items.getD j noIt := ⟨_, rfl⟩
  have htk : buryFrom 0 (t.items.take (j + 1)) = buryFrom 0 (t.items.take j) ++ (if y.inn = true ∧ y.code = 2 then [(j : Int)] else []) := by
    have : t.items.take (j + 1) = t.items.take j ++ [y] := by
      rw [hy, List.getD_eq_getElem?_getD, List.getElem?_eq_getElem hjl, List.take_succ_eq_append_getElem hjl]; rfl
    rw [this, bury_app, List.length_take, Nat.min_eq_left hj, Nat.zero_add]
  refine bif_pos hc ?_
  intro R10 hR10
  have hQ10 : ∀ bp bc H', St H0 (rtRaw rb c t { x with bury := buryFrom 0 (t.items.take (j + 1)), bp := bp, bc := bc } F ++ M) H' → R10 H' := fun bp bc H' h' => by
    refine hR10 H' ?_
    rw [wrap_i64 (by omega) (by omega)]
    exact ⟨⟨j + 1, bp, bc, by omega, by omega, h'⟩, by (try dsimp only); omega⟩
  clear hR10
  refine ldSl_of (g4.cell (i := 0) rfl rfl) (rIt g4 (by omega) hc fun b o _ hcl => ?_)
  have r0 := hcl [] H4 g4
  rw [Int.toNat_natCast, ← hy] at r0
  rw [Int.toNat_natCast]
  refine ldB_of (r0 0 (by omega)) ?_
  cases hin : y.inn
  · simp only [condF]
    rw [if_neg (by rw [hin]; simp), List.append_nil] at htk
    exact hQ10 bp bc H4 (by rw [htk]; exact g4)
  simp only [condT]
  refine ldSl_of (g4.cell (i := 0) rfl rfl) (rIt g4 (by omega) hc fun b o _ hcl => ?_)
  have r0 := hcl [] H4 g4
  rw [Int.toNat_natCast, ← hy] at r0
  rw [Int.toNat_natCast]
  (try simp only [asI_mk', asB_mk, asP_mk, asA_mk, asM_mk, asSl_mk, asStr_mk, tup2_mk, tup3_mk, agg1_mk, agg2_mk, agg3_mk, agg4_mk, asAggm, unCons_mk, unNil_mk, asTup_mk, extractD0, extractD1, List.toList_toArray, nilP_mk, add_mk, Nat.zero_add, Nat.add_zero, condT, condF, Bool.not_true, Bool.not_false, Option.isNone_some, Option.isNone_none])
  refine ldI_of (r0 4 (by omega)) ?_
  by_cases hcd : y.code = 2
  rotate_left
  · rw [if_neg (fun h => hcd h.2), List.append_nil] at htk
    exact bif_ne hcd (hQ10 bp bc H4 (by rw [htk]; exact g4))
  rw [if_pos ⟨hin, hcd⟩] at htk
  have hbl := bury_len (l := t.items.take j) (k := 0)
  have hbl2 : (t.items.take j).length ≤ t.items.length := by rw [List.length_take]; omega
  refine bif_eq hcd (ldSl_of (g4.cell (i := 0) rfl rfl) ?_)
  refine lit_ty_Sint (m := 1) (c := #[.int .i64 (j : Int)]) (g4.row_own (i := 4) rfl) rfl (fun z hz => by simp at hz; rw [hz]; rfl) (by simp only; omega) fun p' cap' H6 ho' hg' => ?_
  (try simp only [asI_mk', asB_mk, asP_mk, asA_mk, asM_mk, asSl_mk, asStr_mk, tup2_mk, tup3_mk, agg1_mk, agg2_mk, agg3_mk, agg4_mk, asAggm, unCons_mk, unNil_mk, asTup_mk, extractD0, extractD1, List.toList_toArray, nilP_mk, add_mk, Nat.zero_add, Nat.add_zero, condT, condF, Bool.not_true, Bool.not_false, Option.isNone_some, Option.isNone_none])
  have g6 := g4.row_to (i := 4) rfl ho' hg'
  refine g6.put (i := 0) rfl (show 29 < 34 by decide) fun H7 g7 => ?_
  have e1 : (buryFrom 0 (t.items.take j)).map (Value.int .i64) ++ (#[Value.int .i64 (j : Int)] : Array Value).toList = (buryFrom 0 (t.items.take (j + 1))).map (Value.int .i64) := by rw [htk]; simp
  have e2 : (buryFrom 0 (t.items.take j)).length + 1 = (buryFrom 0 (t.items.take (j + 1))).length := by rw [htk]; simp
  simp only [e1, e2] at g7
  exact hQ10 p' cap' H7 g7
theorem rPastC {a s n : Int} (hK : K (.bool (pastB a s n)) H) : hcall PR f_ref3_Past ⟨[.int .u64 a, .int .u64 s, .int .u64 n]⟩ H K := by
  apply den_ref3_Past
  unfold B_ref3_Past
  unfold pastB at hK
  by_cases h : n ≥ a
  · refine bif_pos h ?_
    rw [decide_eq_true h, Bool.true_and] at hK
    exact hK
  · refine bif_neg h ?_
    rw [decide_eq_false h, Bool.false_and] at hK
    exact hK
end
end Go.Proofs.Ytknejebggegfjaa

namespace Go.Proofs.Ytknejebggegfjaa
set_option linter.unusedSimpArgs false
set_option linter.unusedVariables false
set_option maxRecDepth 20000
open Go
theorem same_set {l : List It} {k : Nat} {v : Int} {y : It} (hk : k < l.length) : (l.set k { l.getD k noIt with code := v }).any (fun z => z.same y) = l.any (fun z => z.same y) := by
  have e : l = l.set k (l.getD k noIt) := by
    rw [List.getD_eq_getElem?_getD, List.getElem?_eq_getElem hk, Option.getD_some, List.set_getElem_self]
  have h : ∀ (a : It), (l.set k a).any (fun z => z.same y) = ((l.take k).any (fun z => z.same y) || (a.same y || (l.drop (k + 1)).any fun z => z.same y)) := fun a => by
    rw [List.set_eq_take_append_cons_drop, if_pos hk, List.any_append, List.any_cons]
  rw [h]
  conv => rhs; rw [e, h]
  rfl
theorem more_set {nodes : Int} {x : It} {k : Nat} {v : Int} : ∀ {r : List Int} {l : List It}, k < l.length → (moreL nodes x r (l.set k { l.getD k noIt with code := v })).1 = (moreL nodes x r l).1 ∧
    (moreL nodes x r (l.set k { l.getD k noIt with code := v })).2 = (moreL nodes x r l).2.set k { (moreL nodes x r l).2.getD k noIt with code := v } ∧ k < (moreL nodes x r l).2.length ∧ (moreL nodes x r l).2.getD k noIt = l.getD k noIt
  | [], l, hk => ⟨rfl, rfl, hk, rfl⟩
  | n :: r, l, hk => by
    unfold moreL
    cases moreIt nodes x n with
    | none => exact ⟨rfl, rfl, hk, rfl⟩
    | some y =>
      simp only
      rw [same_set hk, List.length_set]
      by_cases ha : l.any (fun z => z.same y) = true
      · rw [if_pos ha, if_pos ha]
        exact more_set hk
      · rw [if_neg ha, if_neg ha]
        by_cases hf : 1000 ≤ l.length
        · rw [if_pos hf, if_pos hf]
          exact ⟨rfl, rfl, hk, rfl⟩
        · rw [if_neg hf, if_neg hf]
          have hk2 : k < (l ++ [y]).length := by simp; omega
          have hg : (l ++ [y]).getD k noIt = l.getD k noIt := by
            rw [List.getD_eq_getElem?_getD, List.getElem?_append_left hk, List.getD_eq_getElem?_getD]
          have e : l.set k { l.getD k noIt with code := v } ++ [y] = (l ++ [y]).set k { (l ++ [y]).getD k noIt with code := v } := by
            rw [hg, List.set_append_left _ _ hk]
          rw [e]
          obtain ⟨a, b, c, d⟩ := more_set (nodes := nodes) (x := x) (k := k) (v := v) (r := r) hk2
          exact ⟨a, b, c, by rw [d, hg]⟩
section
variable {H0 H : Hp} {L M N : List Prt} {i k rb : Nat} {c : Cf} {t : Tr} {x : RX} {m : Ms} {F : Prop} {K : Value → Hp → Prop}
theorem RRel.off {t : Tr} {x : RX} (h : t.st = 0) : RRel t x := ⟨fun h' => absurd h h', fun h' => absurd h h', fun h' => absurd h h', fun h' => absurd h h', fun h' => by omega, fun h' => by omega, fun h' => by omega⟩
theorem rAskedC {f4 f5 f6 f8 f9 f11 f13 f14 f15 f16 : Int} {rp lp : Option Addr} {rl rc ll lc : Nat} (hn : 1 ≤ c.a0 ∧ c.a0 ≤ 12) (ho : t.ok c.a0) (hr : RRel t x) (h1 : t.st = 1) (hfr : m.frm = (t.items.getD t.opn.toNat noIt).node) (hidn : 1 ≤ (t.items.getD t.opn.toNat noIt).id.n ∧ (t.items.getD t.opn.toNat noIt).id.n ≤ 72057594037927935) (hll : ll = m.list.length) (hlb : ll ≤ 4611686018427387903) (hm0 : ∀ n ∈ m.list, 0 ≤ n ∧ n < 18446744073709551616)
    (g : St H0 (rtRaw rb c t x F ++ M) H) (hrd : ∀ N H', St H0 (N ++ M) H' → Rd H' 1 lp ll (m.list.map (Value.int .u64)))
    (hK : ∀ x' H', RRel (t.asked c.a0 m.code m.stamp m.list) x' → St H0 (rtRaw rb c (t.asked c.a0 m.code m.stamp m.list) x' F ++ M) H' → K (.tuple #[]) H') :
    hcall PR f_ref22_Trace_asked ⟨[.pointer (some ⟨rb, 0, none⟩), .agg #[.int .i64 m.kind, .int .i64 m.frm, .int .i64 m.to, .int .u64 m.call, .int .u64 f4, .int .i64 f5, .int .i64 f6, .int .i64 m.item, .int .i64 f8, .int .u64 f9, .slice rp rl rc, .int .u64 f11, .int .i64 m.code, .int .u64 f13, .int .i64 f14, .int .u64 f15, .int .i64 f16, .int .u64 m.stamp, .slice lp ll lc]]⟩ H K := by
  apply den_ref22_Trace_asked
  unfold B_ref22_Trace_asked
  obtain ⟨o1, o2, o3⟩ := ho.one h1
  obtain ⟨r1, r2⟩ := hr.one h1
  obtain ⟨w1, w2, w3⟩ := hr.sw (by omega)
  have hit := ho.items
  have hsl := hr.sl (by omega)
  have hnd := hr.nd (by omega)
  have hsv := hr.sv (by omega)
  intro b25 hb25
  have g1 := g.alloc (o := .cells #[.int .i64 m.kind, .int .i64 m.frm, .int .i64 m.to, .int .u64 m.call, .int .u64 f4, .int .i64 f5, .int .i64 f6, .int .i64 m.item, .int .i64 f8, .int .u64 f9, .slice rp rl rc, .int .u64 f11, .int .i64 m.code, .int .u64 f13, .int .i64 f14, .int .u64 f15, .int .i64 f16, .int .u64 m.stamp, .slice lp ll lc] ty_api_Msg) hb25
  have g1 : St H0 (rtRaw rb c t x F ++ (Prt.one b25 (.cells #[.int .i64 m.kind, .int .i64 m.frm, .int .i64 m.to, .int .u64 m.call, .int .u64 f4, .int .i64 f5, .int .i64 f6, .int .i64 m.item, .int .i64 f8, .int .u64 f9, .slice rp rl rc, .int .u64 f11, .int .i64 m.code, .int .u64 f13, .int .i64 f14, .int .u64 f15, .int .i64 f16, .int .u64 m.stamp, .slice lp ll lc] ty_api_Msg (0, 0)) :: M)) _ := g1.midin
  have hrd := fun N H' h' => hrd (N ++ [_]) H' (by rw [List.append_assoc]; exact (h' : St H0 (N ++ (Prt.one b25 (.cells #[.int .i64 m.kind, .int .i64 m.frm, .int .i64 m.to, .int .u64 m.call, .int .u64 f4, .int .i64 f5, .int .i64 f6, .int .i64 m.item, .int .i64 f8, .int .u64 f9, .slice rp rl rc, .int .u64 f11, .int .i64 m.code, .int .u64 f13, .int .i64 f14, .int .u64 f15, .int .i64 f16, .int .u64 m.stamp, .slice lp ll lc] ty_api_Msg (0, 0)) :: M)) H'))
  (try simp only [asI_mk', asB_mk, asP_mk, asA_mk, asM_mk, asSl_mk, asStr_mk, tup2_mk, tup3_mk, agg1_mk, agg2_mk, agg3_mk, agg4_mk, asAggm, unCons_mk, unNil_mk, asTup_mk, extractD0, extractD1, List.toList_toArray, nilP_mk, add_mk, Nat.zero_add, Nat.add_zero, condT, condF, Bool.not_true, Bool.not_false, Option.isNone_some, Option.isNone_none])
  refine ldSl_of (g1.cell (i := 0) rfl rfl) (ldI_of (g1.cell (i := 0) rfl rfl) ?_)
  rw [r1]
  refine rIt g1 o1 o2 fun b o hp hc => ?_
  obtain ⟨y, hy⟩ : ∃ y, y = t.items.getD t.opn.toNat noIt := ⟨_, rfl⟩
  rw [← hy] at hc hfr hidn
  have ko : t.opn.toNat < t.items.length := by omega
  have hym : y ∈ t.items := by
    rw [hy, List.getD_eq_getElem?_getD, List.getElem?_eq_getElem ko]
    exact List.getElem_mem _
  have hyn := ho.nds _ hym
  have r0 := hc [] _ g1
  (try simp only [asI_mk', asB_mk, asP_mk, asA_mk, asM_mk, asSl_mk, asStr_mk, tup2_mk, tup3_mk, agg1_mk, agg2_mk, agg3_mk, agg4_mk, asAggm, unCons_mk, unNil_mk, asTup_mk, extractD0, extractD1, List.toList_toArray, nilP_mk, add_mk, Nat.zero_add, Nat.add_zero, condT, condF, Bool.not_true, Bool.not_false, Option.isNone_some, Option.isNone_none])
  refine ldB_of (r0 0 (by omega)) (ldI_of (r0 1 (by omega)) (ldI_of (r0 2 (by omega)) (ldI_of (r0 3 (by omega)) (ldI_of (r0 4 (by omega)) ?_))))
  intro b39 hb39
  have g2 := g1.alloc (o := .cells #[.bool false, .int .i64 0, .int .i64 0, .int .u64 0, .int .i64 0] ty_trace_Item) hb39
  have q0 := hc [_] _ g2
  have hat2 := g2.cell (i := 1) (b := rb) (o := 30) (v := .int .i64 x.atx) rfl rfl
  rw [r1] at hat2
  refine ⟨ldB_of (q0 0 (by omega)) (ldI_of (q0 1 (by omega)) (ldI_of (q0 2 (by omega)) (ldI_of (q0 3 (by omega)) (ldI_of (q0 4 (by omega)) rfl)))), ldI_of hat2 rfl, ldSl_of (g2.cell (i := 1) rfl rfl) rfl, ?_⟩
  refine St.sets (i := 0) (o := 0) (vs := y.cells) g2 rfl (by simp [It.cells]) fun H3 g3 => ?_
  rw [setsA_all (by rfl)] at g3
  have g3 : St H0 (Prt.one b39 (.cells #[.bool y.inn, .int .i64 y.node, .int .i64 y.id.n, .int .u64 y.id.s, .int .i64 y.code] ty_trace_Item (0, 0)) :: (rtRaw rb c t x F ++ (Prt.one b25 (.cells #[.int .i64 m.kind, .int .i64 m.frm, .int .i64 m.to, .int .u64 m.call, .int .u64 f4, .int .i64 f5, .int .i64 f6, .int .i64 m.item, .int .i64 f8, .int .u64 f9, .slice rp rl rc, .int .u64 f11, .int .i64 m.code, .int .u64 f13, .int .i64 f14, .int .u64 f15, .int .i64 f16, .int .u64 m.stamp, .slice lp ll lc] ty_api_Msg (0, 0)) :: M))) H3 := g3
  clear g1 g2 r0 q0 hat2 hc g
  have over : ∀ (x' : RX) H', t.asked c.a0 m.code m.stamp m.list = t.over → St H0 (Prt.one b39 (.cells #[.bool y.inn, .int .i64 y.node, .int .i64 y.id.n, .int .u64 y.id.s, .int .i64 y.code] ty_trace_Item (0, 0)) :: (rtRaw rb c t.over x' F ++ (Prt.one b25 (.cells #[.int .i64 m.kind, .int .i64 m.frm, .int .i64 m.to, .int .u64 m.call, .int .u64 f4, .int .i64 f5, .int .i64 f6, .int .i64 m.item, .int .i64 f8, .int .u64 f9, .slice rp rl rc, .int .u64 f11, .int .i64 m.code, .int .u64 f13, .int .i64 f14, .int .u64 f15, .int .i64 f16, .int .u64 m.stamp, .slice lp ll lc] ty_api_Msg (0, 0)) :: M))) H' → K (.tuple #[]) H' := fun x' H' e h' => by
    refine hK x' H' (RRel.off (by rw [e]; rfl)) ?_
    rw [e]
    exact h'.less.midless
  have nx : t.next.opn = t.opn + 1 := wrap_i64 (by omega) (by omega)
  intro R55 hR55
  have hQ55 : ∀ (t2 : Tr) (x2 : RX) H', t2.st = 1 → t2.opn = t.opn → t2.opn < t2.items.length → x2.atx = t.opn → x2.bury = [] → x2.q = t.opn → x2.nodes = rise1 (t2.sm.map (·.1)) → x2.stamps.length = x2.nodes.length →
      (∀ (j : Nat) (n s : Int), x2.nodes[j]? = some n → x2.stamps[j]? = some s → mlook t2.sm n = some s) → (t2.code m.code).onward = t.asked c.a0 m.code m.stamp m.list →
      St H0 (Prt.one b39 (.cells #[.bool y.inn, .int .i64 y.node, .int .i64 y.id.n, .int .u64 y.id.s, .int .i64 y.code] ty_trace_Item (0, 0)) :: (rtRaw rb c t2 x2 F ++ (Prt.one b25 (.cells #[.int .i64 m.kind, .int .i64 m.frm, .int .i64 m.to, .int .u64 m.call, .int .u64 f4, .int .i64 f5, .int .i64 f6, .int .i64 m.item, .int .i64 f8, .int .u64 f9, .slice rp rl rc, .int .u64 f11, .int .i64 m.code, .int .u64 f13, .int .i64 f14, .int .u64 f15, .int .i64 f16, .int .u64 m.stamp, .slice lp ll lc] ty_api_Msg (0, 0)) :: M))) H' → R55 H' := fun t2 x2 H4 a1 a2 a3 a4 a5 a6 a7 a8 a9 he g4 => by
    refine hR55 H4 ?_
    clear hR55 g3
    (try simp only [asI_mk', asB_mk, asP_mk, asA_mk, asM_mk, asSl_mk, asStr_mk, tup2_mk, tup3_mk, agg1_mk, agg2_mk, agg3_mk, agg4_mk, asAggm, unCons_mk, unNil_mk, asTup_mk, extractD0, extractD1, List.toList_toArray, nilP_mk, add_mk, Nat.zero_add, Nat.add_zero, condT, condF, Bool.not_true, Bool.not_false, Option.isNone_some, Option.isNone_none])
    refine ldSl_of (g4.cell (i := 1) rfl rfl) (ldI_of (g4.cell (i := 1) rfl rfl) (ldI_of (g4.cell (i := 7) rfl rfl) ?_))
    rw [a4, ← a2]
    refine rCode (t := t2) (N := [_]) (M := Prt.one b25 (.cells #[.int .i64 m.kind, .int .i64 m.frm, .int .i64 m.to, .int .u64 m.call, .int .u64 f4, .int .i64 f5, .int .i64 f6, .int .i64 m.item, .int .i64 f8, .int .u64 f9, .slice rp rl rc, .int .u64 f11, .int .i64 m.code, .int .u64 f13, .int .i64 f14, .int .u64 f15, .int .i64 f16, .int .u64 m.stamp, .slice lp ll lc] ty_api_Msg (0, 0)) :: M) g4 (by omega) a3 fun H5 g5 => ?_
    have g5 : St H0 (Prt.one b39 (.cells #[.bool y.inn, .int .i64 y.node, .int .i64 y.id.n, .int .u64 y.id.s, .int .i64 y.code] ty_trace_Item (0, 0)) :: (rtRaw rb c (t2.code m.code) x2 F ++ (Prt.one b25 (.cells #[.int .i64 m.kind, .int .i64 m.frm, .int .i64 m.to, .int .u64 m.call, .int .u64 f4, .int .i64 f5, .int .i64 f6, .int .i64 m.item, .int .i64 f8, .int .u64 f9, .slice rp rl rc, .int .u64 f11, .int .i64 m.code, .int .u64 f13, .int .i64 f14, .int .u64 f15, .int .i64 f16, .int .u64 m.stamp, .slice lp ll lc] ty_api_Msg (0, 0)) :: M))) H5 := g5
    have el : (t2.code m.code).items.length = t2.items.length := by simp [Tr.code]
    refine ldSl_of (g5.cell (i := 1) rfl rfl) (rNextC (M := Prt.one b25 (.cells #[.int .i64 m.kind, .int .i64 m.frm, .int .i64 m.to, .int .u64 m.call, .int .u64 f4, .int .i64 f5, .int .i64 f6, .int .i64 m.item, .int .i64 f8, .int .u64 f9, .slice rp rl rc, .int .u64 f11, .int .i64 m.code, .int .u64 f13, .int .i64 f14, .int .u64 f15, .int .i64 f16, .int .u64 m.stamp, .slice lp ll lc] ty_api_Msg (0, 0)) :: M) g5.less fun H6 g6 => ?_)
    (try simp only [asI_mk', asB_mk, asP_mk, asA_mk, asM_mk, asSl_mk, asStr_mk, tup2_mk, tup3_mk, agg1_mk, agg2_mk, agg3_mk, agg4_mk, asAggm, unCons_mk, unNil_mk, asTup_mk, extractD0, extractD1, List.toList_toArray, nilP_mk, add_mk, Nat.zero_add, Nat.add_zero, condT, condF, Bool.not_true, Bool.not_false, Option.isNone_some, Option.isNone_none])
    rw [el, a4]
    have on : (t2.code m.code).onward = if (t2.next).opn < t2.items.length then (t2.code m.code).next else if t2.sm.length = 0 then Tr.finds (t2.code m.code).next else { (t2.code m.code).next with todo := rise1 (t2.sm.map (·.1)), st := 2 } := by
      unfold Tr.onward
      rw [el]
      rfl
    have nx2 : t2.next.opn = IntKind.i64.wrap (t.opn + 1) := by unfold Tr.next; rw [a2]
    rw [nx2] at on
    by_cases hlt : IntKind.i64.wrap (t.opn + 1) < (t2.items.length : Int)
    · rw [if_pos hlt, he] at on
      rw [decide_eq_true hlt]
      simp only [condT]
      refine hK _ H6 ?_ (by rw [on]; exact g6.midless)
      rw [on]
      have e3 : IntKind.i64.wrap (x2.atx + 1) = (t2.code m.code).next.opn := by
        show IntKind.i64.wrap (x2.atx + 1) = IntKind.i64.wrap (t2.opn + 1)
        rw [a4, a2]
      have e4 : IntKind.i64.wrap (x2.q + 1) = (t2.code m.code).next.opn := by
        show IntKind.i64.wrap (x2.q + 1) = IntKind.i64.wrap (t2.opn + 1)
        rw [a6, a2]
      exact ⟨fun _ => ⟨e4, rfl, rfl⟩, fun _ => a7, fun _ => a8, fun _ => a9, fun _ => ⟨e3, a5⟩, fun h => absurd h (by show ¬ t2.st = 2; omega), fun h => absurd h (by show ¬ t2.st = 3; omega)⟩
    rw [if_neg hlt] at on
    rw [decide_eq_false hlt]
    simp only [condF]
    refine g6.put (i := 0) rfl (show 30 < 34 by decide) fun H7 g7 => ?_
    have g7 : St H0 (rtRaw rb c (t2.code m.code) { x2 with atx := 0, q := IntKind.i64.wrap (x2.q + 1), se := 0, w := 0 } F ++ (Prt.one b25 (.cells #[.int .i64 m.kind, .int .i64 m.frm, .int .i64 m.to, .int .u64 m.call, .int .u64 f4, .int .i64 f5, .int .i64 f6, .int .i64 m.item, .int .i64 f8, .int .u64 f9, .slice rp rl rc, .int .u64 f11, .int .i64 m.code, .int .u64 f13, .int .i64 f14, .int .u64 f15, .int .i64 f16, .int .u64 m.stamp, .slice lp ll lc] ty_api_Msg (0, 0)) :: M)) H7 := g7
    refine g7.put (i := 0) rfl (show 23 < 34 by decide) fun H8 g8 => ?_
    have g8 : St H0 (rtRaw rb c { t2.code m.code with st := 2 } { x2 with atx := 0, q := IntKind.i64.wrap (x2.q + 1), se := 0, w := 0 } F ++ (Prt.one b25 (.cells #[.int .i64 m.kind, .int .i64 m.frm, .int .i64 m.to, .int .u64 m.call, .int .u64 f4, .int .i64 f5, .int .i64 f6, .int .i64 m.item, .int .i64 f8, .int .u64 f9, .slice rp rl rc, .int .u64 f11, .int .i64 m.code, .int .u64 f13, .int .i64 f14, .int .u64 f15, .int .i64 f16, .int .u64 m.stamp, .slice lp ll lc] ty_api_Msg (0, 0)) :: M)) H8 := g8
    refine ldSl_of (g8.cell (i := 0) rfl rfl) ?_
    have hnl : x2.nodes.length = t2.sm.length := by rw [a7, rise1_perm.length_eq, List.length_map]
    by_cases hz : t2.sm.length = 0
    · rw [if_pos hz, he] at on
      refine bif_eq (by show (x2.nodes.length : Int) = 0; omega) (rOverC g8 fun x' H9 _ _ _ g9 => ?_)
      (try simp only [asI_mk', asB_mk, asP_mk, asA_mk, asM_mk, asSl_mk, asStr_mk, tup2_mk, tup3_mk, agg1_mk, agg2_mk, agg3_mk, agg4_mk, asAggm, unCons_mk, unNil_mk, asTup_mk, extractD0, extractD1, List.toList_toArray, nilP_mk, add_mk, Nat.zero_add, Nat.add_zero, condT, condF, Bool.not_true, Bool.not_false, Option.isNone_some, Option.isNone_none])
      refine hK x' H9 (RRel.off (by rw [on]; rfl)) ?_
      rw [on]
      exact g9.midless
    · rw [if_neg hz, he] at on
      refine bif_ne (by show ¬ (x2.nodes.length : Int) = 0; omega) ?_
      refine hK _ H8 ?_ (by rw [on]; exact g8.midless)
      rw [on]
      have e4 : IntKind.i64.wrap (x2.q + 1) = (t2.code m.code).next.opn := by
        show IntKind.i64.wrap (x2.q + 1) = IntKind.i64.wrap (t2.opn + 1)
        rw [a6, a2]
      exact ⟨fun _ => ⟨e4, rfl, rfl⟩, fun _ => a7, fun _ => a8, fun _ => a9, fun h => absurd h (by show ¬ (2 : Int) = 1; decide), fun _ => ⟨0, rfl, by rw [List.drop_zero]; exact a7.symm, a5⟩, fun h => absurd h (by show ¬ (2 : Int) = 3; decide)⟩
  clear hR55
  refine ldI_of (g3.cell (i := 7) rfl rfl) ?_
  by_cases c0 : m.code = 0
  · refine bif_eq c0 (hQ55 t x H3 h1 rfl o2 r1 r2 w1 hnd hsl hsv ?_ g3)
    rw [c0]
    unfold Tr.asked
    rw [if_pos rfl]
  refine bif_ne c0 ?_
  by_cases c2 : m.code = 2
  rotate_left
  · refine bif_ne c2 (rOverC (b := false) (M := Prt.one b25 (.cells #[.int .i64 m.kind, .int .i64 m.frm, .int .i64 m.to, .int .u64 m.call, .int .u64 f4, .int .i64 f5, .int .i64 f6, .int .i64 m.item, .int .i64 f8, .int .u64 f9, .slice rp rl rc, .int .u64 f11, .int .i64 m.code, .int .u64 f13, .int .i64 f14, .int .u64 f15, .int .i64 f16, .int .u64 m.stamp, .slice lp ll lc] ty_api_Msg (0, 0)) :: M) g3.less fun x' H4 _ _ _ g4 => ?_)
    (try simp only [asI_mk', asB_mk, asP_mk, asA_mk, asM_mk, asSl_mk, asStr_mk, tup2_mk, tup3_mk, agg1_mk, agg2_mk, agg3_mk, agg4_mk, asAggm, unCons_mk, unNil_mk, asTup_mk, extractD0, extractD1, List.toList_toArray, nilP_mk, add_mk, Nat.zero_add, Nat.add_zero, condT, condF, Bool.not_true, Bool.not_false, Option.isNone_some, Option.isNone_none])
    refine hK x' H4 (RRel.off (by unfold Tr.asked; rw [if_neg c0, if_neg c2]; rfl)) ?_
    rw [show t.asked c.a0 m.code m.stamp m.list = t.over by unfold Tr.asked; rw [if_neg c0, if_neg c2]]
    exact g4.midless
  refine bif_eq c2 (ldI_of (g3.cell (i := 7) rfl rfl) (ldI_of (g3.cell (i := 7) rfl rfl) ?_))
  rw [hfr]
  have hask : t.asked c.a0 m.code m.stamp m.list = if (mlook t.sm y.node).isSome ∧ (mlook t.sm y.node).getD 0 ≠ m.stamp then t.over
    else if (moreL c.a0 y m.list (t.code 2).items).1 = false then t.over
    else Tr.onward { t with items := (moreL c.a0 y m.list (t.code 2).items).2, sm := mput t.sm y.node m.stamp } := by
    unfold Tr.asked
    rw [if_neg c0, if_pos c2, ← hy]
  have ec : (t.code 2).items = t.items.set t.opn.toNat { t.items.getD t.opn.toNat noIt with code := 2 } := rfl
  obtain ⟨ms1, ms2, ms3, ms4⟩ := more_set (nodes := c.a0) (x := y) (v := 2) (r := m.list) ko
  rw [← ec] at ms1 ms2
  rw [ms1] at hask
  have moreK : ∀ (x2 : RX) H4, ¬ ((mlook t.sm y.node).isSome ∧ (mlook t.sm y.node).getD 0 ≠ m.stamp) → x2.atx = t.opn → x2.bury = [] → x2.q = t.opn → x2.nodes = rise1 ((mput t.sm y.node m.stamp).map (·.1)) → x2.stamps.length = x2.nodes.length →
      (∀ (j : Nat) (n s : Int), x2.nodes[j]? = some n → x2.stamps[j]? = some s → mlook (mput t.sm y.node m.stamp) n = some s) → St H0 (rtRaw rb c t x2 F ++ (Prt.one b39 (.cells #[.bool y.inn, .int .i64 y.node, .int .i64 y.id.n, .int .u64 y.id.s, .int .i64 y.code] ty_trace_Item (0, 0)) :: Prt.one b25 (.cells #[.int .i64 m.kind, .int .i64 m.frm, .int .i64 m.to, .int .u64 m.call, .int .u64 f4, .int .i64 f5, .int .i64 f6, .int .i64 m.item, .int .i64 f8, .int .u64 f9, .slice rp rl rc, .int .u64 f11, .int .i64 m.code, .int .u64 f13, .int .i64 f14, .int .u64 f15, .int .i64 f16, .int .u64 m.stamp, .slice lp ll lc] ty_api_Msg (0, 0)) :: M)) H4 →
      (ldB ⟨b39, 0, none⟩ H4 fun a => ldI .i64 ⟨b39, 1, none⟩ H4 fun b => ldI .i64 ⟨b39, 2, none⟩ H4 fun d => ldI .u64 ⟨b39, 3, none⟩ H4 fun e => ldI .i64 ⟨b39, 4, none⟩ H4 fun f => ldSl ⟨b25, 18, none⟩ H4 fun p n cap =>
        hcall PR f_ref22_Trace_more ⟨[.pointer (some ⟨rb, 0, none⟩), .agg #[.bool a, .int .i64 b, .int .i64 d, .int .u64 e, .int .i64 f], .slice p n cap]⟩ H4 fun v Hx => asB v fun t101 => (bif (!t101) then hcall PR f_ref22_Trace_over ⟨[.pointer (some ⟨rb, 0, none⟩), .bool false]⟩ Hx fun v Hx => K (.tuple #[]) Hx else R55 Hx)) := fun x2 H4 hno a4 a5 a6 a7 a8 a9 g4 => by
    rw [if_neg hno] at hask
    refine ldB_of (g4.cell (i := 6) rfl rfl) (ldI_of (g4.cell (i := 6) rfl rfl) (ldI_of (g4.cell (i := 6) rfl rfl) (ldI_of (g4.cell (i := 6) rfl rfl) (ldI_of (g4.cell (i := 6) rfl rfl) (ldSl_of (g4.cell (i := 7) rfl rfl) ?_)))))
    refine rMoreC (M := Prt.one b39 (.cells #[.bool y.inn, .int .i64 y.node, .int .i64 y.id.n, .int .u64 y.id.s, .int .i64 y.code] ty_trace_Item (0, 0)) :: Prt.one b25 (.cells #[.int .i64 m.kind, .int .i64 m.frm, .int .i64 m.to, .int .u64 m.call, .int .u64 f4, .int .i64 f5, .int .i64 f6, .int .i64 m.item, .int .i64 f8, .int .u64 f9, .slice rp rl rc, .int .u64 f11, .int .i64 m.code, .int .u64 f13, .int .i64 f14, .int .u64 f15, .int .i64 f16, .int .u64 m.stamp, .slice lp ll lc] ty_api_Msg (0, 0)) :: M) g4 hn hidn hit hll hlb hm0 (fun N H' h' => hrd (N ++ [_]) H' (by rw [List.append_assoc]; exact h')) fun ip ic H5 g5 => ?_
    (try simp only [asI_mk', asB_mk, asP_mk, asA_mk, asM_mk, asSl_mk, asStr_mk, tup2_mk, tup3_mk, agg1_mk, agg2_mk, agg3_mk, agg4_mk, asAggm, unCons_mk, unNil_mk, asTup_mk, extractD0, extractD1, List.toList_toArray, nilP_mk, add_mk, Nat.zero_add, Nat.add_zero, condT, condF, Bool.not_true, Bool.not_false, Option.isNone_some, Option.isNone_none])
    cases hmo : (moreL c.a0 y m.list t.items).1
    · simp only [Bool.not_false, condT]
      rw [if_pos hmo] at hask
      refine rOverC (b := false) g5 fun x' H6 _ _ _ g6 => ?_
      (try simp only [asI_mk', asB_mk, asP_mk, asA_mk, asM_mk, asSl_mk, asStr_mk, tup2_mk, tup3_mk, agg1_mk, agg2_mk, agg3_mk, agg4_mk, asAggm, unCons_mk, unNil_mk, asTup_mk, extractD0, extractD1, List.toList_toArray, nilP_mk, add_mk, Nat.zero_add, Nat.add_zero, condT, condF, Bool.not_true, Bool.not_false, Option.isNone_some, Option.isNone_none])
      refine hK x' H6 (RRel.off (by rw [hask]; rfl)) ?_
      rw [hask]
      exact g6.midless.midless
    · simp only [Bool.not_true, condF]
      rw [if_neg (by rw [hmo]; decide)] at hask
      have g6 : St H0 (Prt.one b39 (.cells #[.bool y.inn, .int .i64 y.node, .int .i64 y.id.n, .int .u64 y.id.s, .int .i64 y.code] ty_trace_Item (0, 0)) :: (rtRaw rb c { t with items := (moreL c.a0 y m.list t.items).2, sm := mput t.sm y.node m.stamp } { x2 with ip := ip, ic := ic } F ++ (Prt.one b25 (.cells #[.int .i64 m.kind, .int .i64 m.frm, .int .i64 m.to, .int .u64 m.call, .int .u64 f4, .int .i64 f5, .int .i64 f6, .int .i64 m.item, .int .i64 f8, .int .u64 f9, .slice rp rl rc, .int .u64 f11, .int .i64 m.code, .int .u64 f13, .int .i64 f14, .int .u64 f15, .int .i64 f16, .int .u64 m.stamp, .slice lp ll lc] ty_api_Msg (0, 0)) :: M))) H5 := g5.perm List.perm_middle
      refine hQ55 { t with items := (moreL c.a0 y m.list t.items).2, sm := mput t.sm y.node m.stamp } { x2 with ip := ip, ic := ic } H5 h1 rfl (by simp only; omega) a4 a5 a6 a7 a8 a9 ?_ g6
      rw [hask, c2, ms2]
      rfl
  refine rKeepC hn ho hr (by omega) (M := Prt.one b39 (.cells #[.bool y.inn, .int .i64 y.node, .int .i64 y.id.n, .int .u64 y.id.s, .int .i64 y.code] ty_trace_Item (0, 0)) :: Prt.one b25 (.cells #[.int .i64 m.kind, .int .i64 m.frm, .int .i64 m.to, .int .u64 m.call, .int .u64 f4, .int .i64 f5, .int .i64 f6, .int .i64 m.item, .int .i64 f8, .int .u64 f9, .slice rp rl rc, .int .u64 f11, .int .i64 m.code, .int .u64 f13, .int .i64 f14, .int .u64 f15, .int .i64 f16, .int .u64 m.stamp, .slice lp ll lc] ty_api_Msg (0, 0)) :: M) hyn (g3.midin) (fun hs => ?_) (fun hlk x2 H4 a7 a8 a9 a5 a4 a6 _ _ g4 => ?_)
  · (try simp only [asI_mk', asB_mk, asP_mk, asA_mk, asM_mk, asSl_mk, asStr_mk, tup2_mk, tup3_mk, agg1_mk, agg2_mk, agg3_mk, agg4_mk, asAggm, unCons_mk, unNil_mk, asTup_mk, extractD0, extractD1, List.toList_toArray, nilP_mk, add_mk, Nat.zero_add, Nat.add_zero, condT, condF, Bool.not_true, Bool.not_false, Option.isNone_some, Option.isNone_none])
    by_cases hv : (mlook t.sm y.node).getD 0 = m.stamp
    · rw [decide_eq_true hv]
      simp only [Bool.not_true, condF]
      obtain ⟨v, hlk⟩ := Option.isSome_iff_exists.1 hs
      have hvm : v = m.stamp := by rw [hlk] at hv; exact hv
      refine moreK x H3 (fun h => h.2 hv) r1 r2 w1 ?_ hsl ?_ g3.midin
      · rw [hnd, mput_keys_has (by rw [mhas_look]; exact hs)]
      · intro j n s h1 h2
        have := hsv j n s h1 h2
        rw [mlook_mput]
        split
        · rename_i e; rw [e, hlk] at this; rw [← hvm]; exact this
        · exact this
    · rw [decide_eq_false hv]
      simp only [Bool.not_false, condT]
      rw [if_pos ⟨hs, hv⟩] at hask
      refine rOverC (b := false) (M := Prt.one b25 (.cells #[.int .i64 m.kind, .int .i64 m.frm, .int .i64 m.to, .int .u64 m.call, .int .u64 f4, .int .i64 f5, .int .i64 f6, .int .i64 m.item, .int .i64 f8, .int .u64 f9, .slice rp rl rc, .int .u64 f11, .int .i64 m.code, .int .u64 f13, .int .i64 f14, .int .u64 f15, .int .i64 f16, .int .u64 m.stamp, .slice lp ll lc] ty_api_Msg (0, 0)) :: M) g3.less fun x' H4 _ _ _ g4 => ?_
      (try simp only [asI_mk', asB_mk, asP_mk, asA_mk, asM_mk, asSl_mk, asStr_mk, tup2_mk, tup3_mk, agg1_mk, agg2_mk, agg3_mk, agg4_mk, asAggm, unCons_mk, unNil_mk, asTup_mk, extractD0, extractD1, List.toList_toArray, nilP_mk, add_mk, Nat.zero_add, Nat.add_zero, condT, condF, Bool.not_true, Bool.not_false, Option.isNone_some, Option.isNone_none])
      refine hK x' H4 (RRel.off (by rw [hask]; rfl)) ?_
      rw [hask]
      exact g4.midless
  · (try simp only [asI_mk', asB_mk, asP_mk, asA_mk, asM_mk, asSl_mk, asStr_mk, tup2_mk, tup3_mk, agg1_mk, agg2_mk, agg3_mk, agg4_mk, asAggm, unCons_mk, unNil_mk, asTup_mk, extractD0, extractD1, List.toList_toArray, nilP_mk, add_mk, Nat.zero_add, Nat.add_zero, condT, condF, Bool.not_true, Bool.not_false, Option.isNone_some, Option.isNone_none])
    exact moreK x2 H4 (by rw [hlk]; simp) (a4.trans r1) (a5.trans r2) (a6.trans w1) a7 a8 a9 g4
end
end Go.Proofs.Ytknejebggegfjaa

namespace Go.Proofs.Ytknejebggegfjaa
set_option linter.unusedSimpArgs false
set_option linter.unusedVariables false
set_option maxRecDepth 20000
open Go
def Tr.ids (t : Tr) : Prop := ∀ x ∈ t.items, 1 ≤ x.id.n ∧ x.id.n ≤ 72057594037927935
section
variable {H0 H : Hp} {L M N : List Prt} {i k rb : Nat} {c : Cf} {t : Tr} {x : RX} {m : Ms} {K : Value → Hp → Prop}
theorem rWaitC {w a b : Int} (hw : 0 ≤ w) (hb : 0 ≤ b ∧ b < 18446744073709551616) (hK : K (.int .u64 (lWait w a b)) H) : hcall PR f_ref3_Wait ⟨[.int .u64 w, .int .u64 a, .int .u64 b]⟩ H K := by
  apply den_ref3_Wait
  unfold B_ref3_Wait
  unfold lWait at hK
  by_cases h : w = 0
  · refine bif_eq h ?_
    rw [if_pos h] at hK
    exact hK
  · rw [if_neg h] at hK
    refine bif_ne h ⟨by decide, ?_⟩
    have e : IntKind.u64.wrap (Int.tdiv b 2) = b / 2 := by
      rw [Int.tdiv_eq_ediv_of_nonneg hb.1, wrap_u64' (by omega) (by omega)]
    by_cases h2 : w > IntKind.u64.wrap (Int.tdiv b 2)
    · refine bif_pos h2 ?_
      rw [if_pos h2] at hK
      exact hK
    · refine bif_neg h2 ?_
      rw [if_neg h2] at hK
      rw [e] at h2
      have e2 : IntKind.u64.wrap (2 * w) = 2 * w := wrap_u64' (by omega) (by omega)
      rw [e2] at hK ⊢
      rw [if_neg (by omega)]
      exact hK
theorem more_ids {nodes : Int} {y : It} (hn : nodes ≤ 12) (hy : (1 ≤ y.id.n ∧ y.id.n ≤ 72057594037927935) ∧ 1 ≤ y.node ∧ y.node ≤ nodes) : ∀ {r : List Int} {l : List It}, (∀ x ∈ l, 1 ≤ x.id.n ∧ x.id.n ≤ 72057594037927935) → ∀ x ∈ (moreL nodes y r l).2, 1 ≤ x.id.n ∧ x.id.n ≤ 72057594037927935
  | [], l, h => h
  | n :: r, l, h => by
    unfold moreL
    cases hm : moreIt nodes y n with
    | none => exact h
    | some z =>
      simp only
      split
      · exact more_ids hn hy h
      · split
        · exact h
        · refine more_ids hn hy fun x hx => ?_
          rcases List.mem_append.1 hx with hx | hx
          · exact h x hx
          · simp at hx
            rw [hx]
            unfold moreIt at hm
            split at hm
            · cases hm
            split at hm
            · cases hm
            split at hm
            · split at hm
              · cases hm
              split at hm
              · cases hm
              · cases hm; exact hy.1
            · cases hm
              show 1 ≤ y.node ∧ y.node ≤ _
              omega
theorem Tr.ids.code {v : Int} (h : t.ids) : (t.code v).ids := fun x hx => by
  unfold Tr.code at hx
  rcases List.mem_or_eq_of_mem_set hx with hx | rfl
  · exact h x hx
  · by_cases hk : t.opn.toNat < t.items.length
    · have : t.items.getD t.opn.toNat noIt ∈ t.items := by
        rw [List.getD_eq_getElem?_getD, List.getElem?_eq_getElem hk]
        exact List.getElem_mem _
      have h2 := h _ this
      exact h2
    · rw [List.set_eq_of_length_le (by omega)] at hx
      exact h _ hx
theorem Tr.ids.onward (h : t.ids) : t.onward.ids := by
  unfold Tr.onward
  split
  · exact h
  · split
    · exact fun x hx => by cases hx
    · exact h
theorem Tr.ids.hear {nodes : Int} (hn : nodes ≤ 12) (ho : t.ok nodes) (h : t.ids) : (t.hear nodes m).ids := by
  have nil : ∀ t : Tr, t.items = [] → t.ids := fun t e x hx => by rw [e] at hx; cases hx
  unfold Tr.hear
  split
  · exact h
  split
  · rename_i h1
    obtain ⟨o1, o2, o3⟩ := ho.one h1
    have hm : t.items.getD t.opn.toNat noIt ∈ t.items := by
      rw [List.getD_eq_getElem?_getD, List.getElem?_eq_getElem (by omega)]
      exact List.getElem_mem _
    unfold Tr.asked
    split
    · exact h.code.onward
    split
    · split
      · exact nil _ rfl
      split
      · exact nil _ rfl
      · exact Tr.ids.onward (t := { t with items := _, sm := _ }) (more_ids hn ⟨h _ hm, ho.nds _ hm⟩ h.code)
    · exact nil _ rfl
  split
  · unfold Tr.checked
    split
    · exact nil _ rfl
    split
    · exact h
    split
    · exact nil _ rfl
    · exact h
  · unfold Tr.buried
    split
    · exact nil _ rfl
    · exact h
theorem rHearC {f4 f5 f6 f8 f9 f11 f13 f14 f15 f16 : Int} {rp lp : Option Addr} {rl rc ll lc : Nat} (h : St H0 L H) (hk : L[k]? = some (RtP rb c t)) (hn : 1 ≤ c.a0 ∧ c.a0 ≤ 12) (hid : t.ids)
    (hgd : t.heeds m = true → t.st = 1 → ll = m.list.length ∧ ll ≤ 4611686018427387903 ∧ (∀ n ∈ m.list, 0 ≤ n ∧ n < 18446744073709551616) ∧ ∀ N M H', (∀ i A, L[i]? = some A → i ≠ k → M[i]? = some A) → St H0 (N ++ M) H' → Rd H' 1 lp ll (m.list.map (Value.int .u64)))
    (hK : ∀ H', St H0 (L.set k (RtP rb c (t.hear c.a0 m))) H' → K (.bool (t.heeds m)) H') :
    hcall PR f_ref22_Trace_Hear ⟨[.pointer (some ⟨rb, 0, none⟩), .agg #[.int .i64 m.kind, .int .i64 m.frm, .int .i64 m.to, .int .u64 m.call, .int .u64 f4, .int .i64 f5, .int .i64 f6, .int .i64 m.item, .int .i64 f8, .int .u64 f9, .slice rp rl rc, .int .u64 f11, .int .i64 m.code, .int .u64 f13, .int .i64 f14, .int .u64 f15, .int .i64 f16, .int .u64 m.stamp, .slice lp ll lc]]⟩ H K := by
  apply den_ref22_Trace_Hear
  unfold B_ref22_Trace_Hear
  obtain ⟨x, M, g, ho, hr, hot, shut⟩ := rtTake h hk
  intro b25 hb25
  have g1 := g.alloc (o := .cells #[.int .i64 m.kind, .int .i64 m.frm, .int .i64 m.to, .int .u64 m.call, .int .u64 f4, .int .i64 f5, .int .i64 f6, .int .i64 m.item, .int .i64 f8, .int .u64 f9, .slice rp rl rc, .int .u64 f11, .int .i64 m.code, .int .u64 f13, .int .i64 f14, .int .u64 f15, .int .i64 f16, .int .u64 m.stamp, .slice lp ll lc] ty_api_Msg) hb25
  have g1 : St H0 (rtRaw rb c t x True ++ (Prt.one b25 (.cells #[.int .i64 m.kind, .int .i64 m.frm, .int .i64 m.to, .int .u64 m.call, .int .u64 f4, .int .i64 f5, .int .i64 f6, .int .i64 m.item, .int .i64 f8, .int .u64 f9, .slice rp rl rc, .int .u64 f11, .int .i64 m.code, .int .u64 f13, .int .i64 f14, .int .u64 f15, .int .i64 f16, .int .u64 m.stamp, .slice lp ll lc] ty_api_Msg (0, 0)) :: M)) _ := g1.midin
  have no : t.heeds m = false → ∀ H2, St H0 (rtRaw rb c t x True ++ (Prt.one b25 (.cells #[.int .i64 m.kind, .int .i64 m.frm, .int .i64 m.to, .int .u64 m.call, .int .u64 f4, .int .i64 f5, .int .i64 f6, .int .i64 m.item, .int .i64 f8, .int .u64 f9, .slice rp rl rc, .int .u64 f11, .int .i64 m.code, .int .u64 f13, .int .i64 f14, .int .u64 f15, .int .i64 f16, .int .u64 m.stamp, .slice lp ll lc] ty_api_Msg (0, 0)) :: M)) H2 → K (.bool false) H2 := fun hf H2 g2 => by
    have e : t.hear c.a0 m = t := by unfold Tr.hear; rw [if_pos hf]
    rw [e, hf] at hK
    exact hK H2 (shut [] t x H2 ho hr g2.midless)
  intro R27 hR27
  have hQ27 : R27 (if t.st = 3 then 11 else 9) (upd H b25 (.cells #[.int .i64 m.kind, .int .i64 m.frm, .int .i64 m.to, .int .u64 m.call, .int .u64 f4, .int .i64 f5, .int .i64 f6, .int .i64 m.item, .int .i64 f8, .int .u64 f9, .slice rp rl rc, .int .u64 f11, .int .i64 m.code, .int .u64 f13, .int .i64 f14, .int .u64 f15, .int .i64 f16, .int .u64 m.stamp, .slice lp ll lc] ty_api_Msg)) := by
    refine hR27 _ _ ?_
    clear hR27
    (try simp only [asI_mk', asB_mk, asP_mk, asA_mk, asM_mk, asSl_mk, asStr_mk, tup2_mk, tup3_mk, agg1_mk, agg2_mk, agg3_mk, agg4_mk, asAggm, unCons_mk, unNil_mk, asTup_mk, extractD0, extractD1, List.toList_toArray, nilP_mk, add_mk, Nat.zero_add, Nat.add_zero, condT, condF, Bool.not_true, Bool.not_false, Option.isNone_some, Option.isNone_none])
    refine ldI_of (g1.cell (i := 0) rfl rfl) ?_
    by_cases h0 : t.st = 0
    · exact bif_eq h0 (no (by unfold Tr.heeds; rw [decide_eq_true h0]; rfl) _ g1)
    refine bif_ne h0 ?_
    have he : t.heeds m = (decide (m.kind = if t.st = 3 then 11 else 9) && (decide (m.call = t.q.call) && (decide (m.item = t.q.item) && (decide (m.frm = t.q.to) && decide (m.to = t.node))))) := by unfold Tr.heeds; rw [decide_eq_false h0]; rfl
    have hqc : t.q.call = t.num ∧ t.q.item = t.opn := by
      unfold Tr.q
      split
      · exact ⟨rfl, rfl⟩
      split <;> exact ⟨rfl, rfl⟩
    obtain ⟨w1, w2, w3⟩ := hr.sw h0
    rw [hqc.1, hqc.2] at he
    refine ldI_of (g1.cell (i := 6) rfl rfl) ?_
    by_cases q1 : m.kind = if t.st = 3 then 11 else 9
    rotate_left
    · exact bif_neq q1 (no (by rw [he, decide_eq_false q1]; rfl) _ g1)
    rw [decide_eq_true q1, Bool.true_and] at he
    refine bif_neqf q1 (ldI_of (g1.cell (i := 6) rfl rfl) (ldI_of (g1.cell (i := 0) rfl rfl) ?_))
    by_cases q2 : m.call = t.num
    rotate_left
    · exact bif_neq q2 (no (by rw [he, decide_eq_false q2]; rfl) _ g1)
    rw [decide_eq_true q2, Bool.true_and] at he
    refine bif_neqf q2 (ldI_of (g1.cell (i := 6) rfl rfl) (ldI_of (g1.cell (i := 0) rfl rfl) ?_))
    rw [w1]
    by_cases q3 : m.item = t.opn
    rotate_left
    · exact bif_neq q3 (no (by rw [he, decide_eq_false q3]; rfl) _ g1)
    rw [decide_eq_true q3, Bool.true_and] at he
    refine bif_neqf q3 (ldI_of (g1.cell (i := 6) rfl rfl) (ldI_of (g1.cell (i := 0) rfl rfl) ?_))
    by_cases q5 : m.to = t.node
    rotate_left
    · exact bif_neq q5 (no (by rw [he, decide_eq_false q5, Bool.and_false]) _ g1)
    rw [decide_eq_true q5, Bool.and_true] at he
    refine bif_neqf q5 (ldI_of (g1.cell (i := 6) rfl rfl) (rToC hn ho hr h0 g1 ?_))
    (try simp only [asI_mk', asB_mk, asP_mk, asA_mk, asM_mk, asSl_mk, asStr_mk, tup2_mk, tup3_mk, agg1_mk, agg2_mk, agg3_mk, agg4_mk, asAggm, unCons_mk, unNil_mk, asTup_mk, extractD0, extractD1, List.toList_toArray, nilP_mk, add_mk, Nat.zero_add, Nat.add_zero, condT, condF, Bool.not_true, Bool.not_false, Option.isNone_some, Option.isNone_none])
    refine ⟨ldI_of (g1.cell (i := 6) rfl rfl) rfl, ?_⟩
    by_cases q4 : m.frm = t.q.to
    rotate_left
    · exact bif_neq q4 (no (by rw [he, decide_eq_false q4]) _ g1)
    rw [decide_eq_true q4] at he
    refine bif_neqf q4 (ldI_of (g1.cell (i := 0) rfl rfl) ?_)
    have hh : t.hear c.a0 m = if t.st = 1 then t.asked c.a0 m.code m.stamp m.list else if t.st = 2 then t.checked m.stamp else t.buried := by unfold Tr.hear; rw [if_neg (by rw [he]; decide)]
    rw [he] at hK
    by_cases s1 : t.st = 1
    · rw [if_pos s1] at hh
      obtain ⟨o1, o2, o3⟩ := ho.one s1
      have hym : t.items.getD t.opn.toNat noIt ∈ t.items := by
        rw [List.getD_eq_getElem?_getD, List.getElem?_eq_getElem (by omega)]
        exact List.getElem_mem _
      have hqt : t.q.to = (t.items.getD t.opn.toNat noIt).node := by unfold Tr.q; rw [if_pos s1]
      obtain ⟨hll, hlb, hm0, hrd⟩ := hgd he s1
      have hrd := fun N H' h' => hrd N M H' hot h'
      refine bif_eq s1 ?_
      refine ldI_of (g1.cell (i := 6) rfl rfl) (ldI_of (g1.cell (i := 6) rfl rfl) (ldI_of (g1.cell (i := 6) rfl rfl) (ldI_of (g1.cell (i := 6) rfl rfl) (ldI_of (g1.cell (i := 6) rfl rfl) (ldI_of (g1.cell (i := 6) rfl rfl) (ldI_of (g1.cell (i := 6) rfl rfl) (ldI_of (g1.cell (i := 6) rfl rfl) (ldI_of (g1.cell (i := 6) rfl rfl) (ldI_of (g1.cell (i := 6) rfl rfl) (ldSl_of (g1.cell (i := 6) rfl rfl) (ldI_of (g1.cell (i := 6) rfl rfl) (ldI_of (g1.cell (i := 6) rfl rfl) (ldI_of (g1.cell (i := 6) rfl rfl) (ldI_of (g1.cell (i := 6) rfl rfl) (ldI_of (g1.cell (i := 6) rfl rfl) (ldI_of (g1.cell (i := 6) rfl rfl) (ldI_of (g1.cell (i := 6) rfl rfl) (ldSl_of (g1.cell (i := 6) rfl rfl) (?_)))))))))))))))))))
      refine rAskedC (M := Prt.one b25 (.cells #[.int .i64 m.kind, .int .i64 m.frm, .int .i64 m.to, .int .u64 m.call, .int .u64 f4, .int .i64 f5, .int .i64 f6, .int .i64 m.item, .int .i64 f8, .int .u64 f9, .slice rp rl rc, .int .u64 f11, .int .i64 m.code, .int .u64 f13, .int .i64 f14, .int .u64 f15, .int .i64 f16, .int .u64 m.stamp, .slice lp ll lc] ty_api_Msg (0, 0)) :: M) hn ho hr s1 (q4.trans hqt) (hid _ hym) hll hlb hm0 g1 (fun N H' h' => hrd (N ++ [_]) H' (by rw [List.append_assoc]; exact h')) fun x' H5 hr' g5 => ?_
      (try simp only [asI_mk', asB_mk, asP_mk, asA_mk, asM_mk, asSl_mk, asStr_mk, tup2_mk, tup3_mk, agg1_mk, agg2_mk, agg3_mk, agg4_mk, asAggm, unCons_mk, unNil_mk, asTup_mk, extractD0, extractD1, List.toList_toArray, nilP_mk, add_mk, Nat.zero_add, Nat.add_zero, condT, condF, Bool.not_true, Bool.not_false, Option.isNone_some, Option.isNone_none])
      refine hK H5 ?_
      rw [hh]
      exact shut [] _ x' H5 (ho.asked hn s1) hr' g5.midless
    refine bif_ne s1 ?_
    rw [if_neg s1] at hh
    by_cases s2 : t.st = 2
    · rw [if_pos s2] at hh
      obtain ⟨o1, o2⟩ := ho.two s2
      obtain ⟨kk, r1, r2, r3⟩ := hr.two s2
      have hnd := hr.nd h0
      have hsl := hr.sl h0
      have hsv := hr.sv h0
      have hfew := hr.few hn ho h0
      have hqt : t.q.to = t.todo.getD 0 0 := by unfold Tr.q; rw [if_neg s1, if_pos s2]
      have hpos := List.length_pos_iff.2 o1
      have hmem : t.todo.getD 0 0 ∈ t.todo := by
        rw [List.getD_eq_getElem?_getD, List.getElem?_eq_getElem hpos]
        exact List.getElem_mem _
      have hto : 1 ≤ m.frm ∧ m.frm ≤ c.a0 := by
        rw [q4, hqt]
        refine hfew.2 _ ?_
        rw [r2] at hmem
        have := List.mem_of_mem_drop hmem
        rw [← r2] at this
        exact this
      have hck : t.checked m.stamp = if m.stamp ≠ (mlook t.sm m.frm).getD 0 then t.over else if 1 < t.todo.length then { t.next with todo := t.todo.tail } else if (buryFrom 0 t.items).length = 0 then Tr.finds t.next else { t.next with todo := buryFrom 0 t.items, st := 3 } := by
        unfold Tr.checked
        rw [q4, hqt]
      refine bif_eq s2 (ldI_of (g1.cell (i := 6) rfl rfl) (rStampC hn ho hr h0 (by omega) g1 ?_))
      (try simp only [asI_mk', asB_mk, asP_mk, asA_mk, asM_mk, asSl_mk, asStr_mk, tup2_mk, tup3_mk, agg1_mk, agg2_mk, agg3_mk, agg4_mk, asAggm, unCons_mk, unNil_mk, asTup_mk, extractD0, extractD1, List.toList_toArray, nilP_mk, add_mk, Nat.zero_add, Nat.add_zero, condT, condF, Bool.not_true, Bool.not_false, Option.isNone_some, Option.isNone_none])
      refine ldI_of (g1.cell (i := 6) rfl rfl) ?_
      by_cases hs : (mlook t.sm m.frm).getD 0 = m.stamp
      rotate_left
      · rw [if_pos (fun h => hs h.symm)] at hck
        refine bif_neq hs (rOverC (b := false) g1 fun x' H5 _ _ _ g5 => ?_)
        (try simp only [asI_mk', asB_mk, asP_mk, asA_mk, asM_mk, asSl_mk, asStr_mk, tup2_mk, tup3_mk, agg1_mk, agg2_mk, agg3_mk, agg4_mk, asAggm, unCons_mk, unNil_mk, asTup_mk, extractD0, extractD1, List.toList_toArray, nilP_mk, add_mk, Nat.zero_add, Nat.add_zero, condT, condF, Bool.not_true, Bool.not_false, Option.isNone_some, Option.isNone_none])
        refine hK H5 ?_
        rw [hh, hck]
        exact shut [] _ x' H5 Tr.over_ok (RRel.off rfl) g5.midless
      rw [if_neg (fun h => h hs.symm)] at hck
      refine bif_neqf hs (ldSl_of (g1.cell (i := 0) rfl rfl) (rNextC g1 fun H5 g5 => ?_))
      (try simp only [asI_mk', asB_mk, asP_mk, asA_mk, asM_mk, asSl_mk, asStr_mk, tup2_mk, tup3_mk, agg1_mk, agg2_mk, agg3_mk, agg4_mk, asAggm, unCons_mk, unNil_mk, asTup_mk, extractD0, extractD1, List.toList_toArray, nilP_mk, add_mk, Nat.zero_add, Nat.add_zero, condT, condF, Bool.not_true, Bool.not_false, Option.isNone_some, Option.isNone_none])
      have htl : t.todo.length = x.nodes.length - kk := by rw [r2, List.length_drop]
      have hat : IntKind.i64.wrap (x.atx + 1) = ((kk + 1 : Nat) : Int) := by rw [r1, wrap_i64 (by omega) (by omega)]; omega
      have hq2 : IntKind.i64.wrap (x.q + 1) = t.next.opn := by rw [w1]; rfl
      rw [hat]
      rw [hat] at g5
      by_cases hl : 1 < t.todo.length
      · rw [if_pos hl] at hck
        rw [decide_eq_true (show (((kk + 1 : Nat) : Int)) < (x.nodes.length : Int) by omega)]
        simp only [Bool.not_true, condF]
        refine hK H5 ?_
        rw [hh, hck]
        refine shut [] _ _ H5 ?_ ?_ g5.midless
        · have := ho.checked s2 (stamp := m.stamp); rw [hck] at this; exact this
        · exact ⟨fun _ => ⟨hq2, rfl, rfl⟩, fun _ => hnd, fun _ => hsl, fun _ => hsv, fun h => absurd h (by show ¬ t.st = 1; omega), fun _ => ⟨kk + 1, rfl, by show t.todo.tail = _; rw [r2, List.tail_drop], r3⟩, fun h => absurd h (by show ¬ t.st = 3; omega)⟩
      rw [if_neg hl] at hck
      rw [decide_eq_false (show ¬ (((kk + 1 : Nat) : Int)) < (x.nodes.length : Int) by omega)]
      simp only [Bool.not_false, condT]
      refine rBuryC (x := { x with atx := ((kk + 1 : Nat) : Int), q := IntKind.i64.wrap (x.q + 1), se := 0, w := 0 }) ho s2 r3 g5 fun x' H6 hz hnz => ?_
      (try simp only [asI_mk', asB_mk, asP_mk, asA_mk, asM_mk, asSl_mk, asStr_mk, tup2_mk, tup3_mk, agg1_mk, agg2_mk, agg3_mk, agg4_mk, asAggm, unCons_mk, unNil_mk, asTup_mk, extractD0, extractD1, List.toList_toArray, nilP_mk, add_mk, Nat.zero_add, Nat.add_zero, condT, condF, Bool.not_true, Bool.not_false, Option.isNone_some, Option.isNone_none])
      refine hK H6 ?_
      rw [hh, hck]
      by_cases hb : (buryFrom 0 t.items).length = 0
      · rw [if_pos hb]
        exact shut [] _ x' H6 Tr.finds_ok (RRel.off rfl) (hz hb).midless
      · rw [if_neg hb] at hck ⊢
        obtain ⟨b1, b2, b3, b4, b5, b6, b7, g6⟩ := hnz hb
        refine shut [] { t.next with todo := buryFrom 0 t.items, st := 3 } x' H6 ?_ ?_ g6.midless
        · have := ho.checked s2 (stamp := m.stamp); rw [hck] at this; exact this
        · have hbl := bury_len (l := t.items) (k := 0)
          have hit := ho.items
          exact ⟨fun _ => ⟨b5.trans hq2, b6, b7⟩, fun _ => b3.trans hnd, fun _ => by rw [b4, b3]; exact hsl, fun _ j n s h1 h2 => hsv j n s (by rw [← b3]; exact h1) (by rw [← b4]; exact h2), fun h => absurd h (by show ¬ (3 : Int) = 1; decide), fun h => absurd h (by show ¬ (3 : Int) = 2; decide), fun _ => ⟨0, b2, by rw [b1, List.drop_zero], by rw [b1]; omega⟩⟩
    rw [if_neg s2] at hh
    have hst := ho.st
    have s3 : t.st = 3 := by omega
    obtain ⟨o1, o2, o3⟩ := ho.three s3
    obtain ⟨kk, r1, r2, r3⟩ := hr.three s3
    have hpos := List.length_pos_iff.2 o1
    refine bif_ne s2 (ldSl_of (g1.cell (i := 0) rfl rfl) (rNextC g1 fun H5 g5 => ?_))
    (try simp only [asI_mk', asB_mk, asP_mk, asA_mk, asM_mk, asSl_mk, asStr_mk, tup2_mk, tup3_mk, agg1_mk, agg2_mk, agg3_mk, agg4_mk, asAggm, unCons_mk, unNil_mk, asTup_mk, extractD0, extractD1, List.toList_toArray, nilP_mk, add_mk, Nat.zero_add, Nat.add_zero, condT, condF, Bool.not_true, Bool.not_false, Option.isNone_some, Option.isNone_none])
    have htl : t.todo.length = x.bury.length - kk := by rw [r2, List.length_drop]
    have hat : IntKind.i64.wrap (x.atx + 1) = ((kk + 1 : Nat) : Int) := by rw [r1, wrap_i64 (by omega) (by omega)]; omega
    have hq2 : IntKind.i64.wrap (x.q + 1) = t.next.opn := by rw [w1]; rfl
    rw [hat]
    rw [hat] at g5
    have hbu : t.buried = if t.todo.length ≤ 1 then Tr.finds t.next else { t.next with todo := t.todo.tail } := rfl
    by_cases hl : t.todo.length ≤ 1
    · rw [if_pos hl] at hbu
      rw [decide_eq_false (show ¬ (((kk + 1 : Nat) : Int)) < (x.bury.length : Int) by omega)]
      simp only [Bool.not_false, condT]
      refine rOverC (b := true) g5 fun x' H6 _ _ _ g6 => ?_
      (try simp only [asI_mk', asB_mk, asP_mk, asA_mk, asM_mk, asSl_mk, asStr_mk, tup2_mk, tup3_mk, agg1_mk, agg2_mk, agg3_mk, agg4_mk, asAggm, unCons_mk, unNil_mk, asTup_mk, extractD0, extractD1, List.toList_toArray, nilP_mk, add_mk, Nat.zero_add, Nat.add_zero, condT, condF, Bool.not_true, Bool.not_false, Option.isNone_some, Option.isNone_none])
      refine hK H6 ?_
      rw [hh, hbu]
      exact shut [] _ x' H6 Tr.finds_ok (RRel.off rfl) g6.midless
    · rw [if_neg hl] at hbu
      rw [decide_eq_true (show (((kk + 1 : Nat) : Int)) < (x.bury.length : Int) by omega)]
      simp only [Bool.not_true, condF]
      refine hK H5 ?_
      rw [hh, hbu]
      refine shut [] _ _ H5 ?_ ?_ g5.midless
      · have := ho.buried s3; rw [hbu] at this; exact this
      · exact ⟨fun _ => ⟨hq2, rfl, rfl⟩, fun _ => hr.nd h0, fun _ => hr.sl h0, fun _ => hr.sv h0, fun h => absurd h (by show ¬ t.st = 1; omega), fun h => absurd h (by show ¬ t.st = 2; omega), fun _ => ⟨kk + 1, rfl, by show t.todo.tail = _; rw [r2, List.tail_drop], r3⟩⟩
  clear hR27
  (try simp only [asI_mk', asB_mk, asP_mk, asA_mk, asM_mk, asSl_mk, asStr_mk, tup2_mk, tup3_mk, agg1_mk, agg2_mk, agg3_mk, agg4_mk, asAggm, unCons_mk, unNil_mk, asTup_mk, extractD0, extractD1, List.toList_toArray, nilP_mk, add_mk, Nat.zero_add, Nat.add_zero, condT, condF, Bool.not_true, Bool.not_false, Option.isNone_some, Option.isNone_none])
  refine ldI_of (g1.cell (i := 0) rfl rfl) ?_
  by_cases s3 : t.st = 3
  · rw [if_pos s3] at hQ27
    exact bif_eq s3 hQ27
  · rw [if_neg s3] at hQ27
    exact bif_ne s3 hQ27
end
end Go.Proofs.Ytknejebggegfjaa

namespace Go.Proofs.Ytknejebggegfjaa
set_option linter.unusedSimpArgs false
set_option linter.unusedVariables false
set_option maxRecDepth 20000
open Go
section
variable {H0 H : Hp} {L M N : List Prt} {i k rb : Nat} {c : Cf} {t : Tr} {x : RX} {K : Value → Hp → Prop}
theorem RRel.told {now : Int} (hr : RRel t x) (h0 : t.st ≠ 0) : RRel (t.told c.a14 c.a15 now) { x with se := now, w := lWait t.wait c.a14 c.a15 } :=
  ⟨fun h => ⟨(hr.sw h).1, rfl, rfl⟩, hr.nd, hr.sl, hr.sv, hr.one, hr.two, hr.three⟩
theorem rStepC {now : Int} (h : St H0 L H) (hk : L[k]? = some (RtP rb c t)) (hn : 1 ≤ c.a0 ∧ c.a0 ≤ 12) (hwt : 0 ≤ t.wait) (hmo : 0 ≤ c.a15 ∧ c.a15 < 18446744073709551616)
    (hN : t.asks now = false → ∀ H', St H0 L H' → K (.tuple #[.agg #[.int .i64 0, .int .i64 0, .int .i64 0, .int .u64 0, .int .u64 0, .int .i64 0, .int .i64 0, .int .i64 0, .int .i64 0, .int .u64 0, .slice none 0 0, .int .u64 0, .int .i64 0, .int .u64 0, .int .i64 0, .int .u64 0, .int .i64 0, .int .u64 0, .slice none 0 0], .bool false]) H')
    (hK : t.asks now = true → ∀ H', St H0 (L.set k (RtP rb c (t.told c.a14 c.a15 now))) H' → K (.tuple #[t.q.val, .bool true]) H') :
    hcall PR f_ref22_Trace_Step ⟨[.pointer (some ⟨rb, 0, none⟩), .int .u64 now]⟩ H K := by
  apply den_ref22_Trace_Step
  unfold B_ref22_Trace_Step
  obtain ⟨x, M, g, ho, hr, hot, shut⟩ := rtTake h hk
  intro b3 hb3
  have g1 := g.alloc (o := .cells #[.int .i64 0, .int .i64 0, .int .i64 0, .int .u64 0, .int .u64 0, .int .i64 0, .int .i64 0, .int .i64 0, .int .i64 0, .int .u64 0, .slice none 0 0, .int .u64 0, .int .i64 0, .int .u64 0, .int .i64 0, .int .u64 0, .int .i64 0, .int .u64 0, .slice none 0 0] ty_api_Msg) hb3
  have no : t.asks now = false → ∀ H2, St H0 (Prt.one b3 (.cells #[.int .i64 0, .int .i64 0, .int .i64 0, .int .u64 0, .int .u64 0, .int .i64 0, .int .i64 0, .int .i64 0, .int .i64 0, .int .u64 0, .slice none 0 0, .int .u64 0, .int .i64 0, .int .u64 0, .int .i64 0, .int .u64 0, .int .i64 0, .int .u64 0, .slice none 0 0] ty_api_Msg (0, 0)) :: (rtRaw rb c t x True ++ M)) H2 → K (.tuple #[.agg #[.int .i64 0, .int .i64 0, .int .i64 0, .int .u64 0, .int .u64 0, .int .i64 0, .int .i64 0, .int .i64 0, .int .i64 0, .int .u64 0, .slice none 0 0, .int .u64 0, .int .i64 0, .int .u64 0, .int .i64 0, .int .u64 0, .int .i64 0, .int .u64 0, .slice none 0 0], .bool false]) H2 := fun hf H2 g2 => by
    refine hN hf H2 ?_
    have := shut [] t x H2 ho hr g2.less
    rw [List.set_self hk] at this
    exact this
  (try simp only [asI_mk', asB_mk, asP_mk, asA_mk, asM_mk, asSl_mk, asStr_mk, tup2_mk, tup3_mk, agg1_mk, agg2_mk, agg3_mk, agg4_mk, asAggm, unCons_mk, unNil_mk, asTup_mk, extractD0, extractD1, List.toList_toArray, nilP_mk, add_mk, Nat.zero_add, Nat.add_zero, condT, condF, Bool.not_true, Bool.not_false, Option.isNone_some, Option.isNone_none])
  refine ldI_of (g1.cell (i := 1) rfl rfl) ?_
  by_cases h0 : t.st = 0
  · refine bif_eq h0 ?_
    refine St.sets (i := 0) (o := 0) (vs := [.int .i64 0, .int .i64 0, .int .i64 0, .int .u64 0, .int .u64 0, .int .i64 0, .int .i64 0, .int .i64 0, .int .i64 0, .int .u64 0, .slice none 0 0, .int .u64 0, .int .i64 0, .int .u64 0, .int .i64 0, .int .u64 0, .int .i64 0, .int .u64 0, .slice none 0 0]) g1 rfl (by simp) fun H2 g2 => ?_
    rw [setsA_all (by rfl)] at g2
    have g2 : St H0 (Prt.one b3 (.cells #[.int .i64 0, .int .i64 0, .int .i64 0, .int .u64 0, .int .u64 0, .int .i64 0, .int .i64 0, .int .i64 0, .int .i64 0, .int .u64 0, .slice none 0 0, .int .u64 0, .int .i64 0, .int .u64 0, .int .i64 0, .int .u64 0, .int .i64 0, .int .u64 0, .slice none 0 0] ty_api_Msg (0, 0)) :: (rtRaw rb c t x True ++ M)) H2 := g2
    refine ldI_of (g2.cell (i := 0) rfl rfl) (ldI_of (g2.cell (i := 0) rfl rfl) (ldI_of (g2.cell (i := 0) rfl rfl) (ldI_of (g2.cell (i := 0) rfl rfl) (ldI_of (g2.cell (i := 0) rfl rfl) (ldI_of (g2.cell (i := 0) rfl rfl) (ldI_of (g2.cell (i := 0) rfl rfl) (ldI_of (g2.cell (i := 0) rfl rfl) (ldI_of (g2.cell (i := 0) rfl rfl) (ldI_of (g2.cell (i := 0) rfl rfl) (ldSl_of (g2.cell (i := 0) rfl rfl) (ldI_of (g2.cell (i := 0) rfl rfl) (ldI_of (g2.cell (i := 0) rfl rfl) (ldI_of (g2.cell (i := 0) rfl rfl) (ldI_of (g2.cell (i := 0) rfl rfl) (ldI_of (g2.cell (i := 0) rfl rfl) (ldI_of (g2.cell (i := 0) rfl rfl) (ldI_of (g2.cell (i := 0) rfl rfl) (ldSl_of (g2.cell (i := 0) rfl rfl) (?_)))))))))))))))))))
    exact no (by unfold Tr.asks; rw [decide_eq_true h0]; rfl) H2 g2
  obtain ⟨w1, w2, w3⟩ := hr.sw h0
  refine bif_ne h0 (ldI_of (g1.cell (i := 1) rfl rfl) (ldI_of (g1.cell (i := 1) rfl rfl) (rPastC ?_)))
  (try simp only [asI_mk', asB_mk, asP_mk, asA_mk, asM_mk, asSl_mk, asStr_mk, tup2_mk, tup3_mk, agg1_mk, agg2_mk, agg3_mk, agg4_mk, asAggm, unCons_mk, unNil_mk, asTup_mk, extractD0, extractD1, List.toList_toArray, nilP_mk, add_mk, Nat.zero_add, Nat.add_zero, condT, condF, Bool.not_true, Bool.not_false, Option.isNone_some, Option.isNone_none])
  have hask : t.asks now = pastB x.se x.w now := by unfold Tr.asks; rw [decide_eq_false h0, w2, w3]; rfl
  cases hp : pastB x.se x.w now
  · simp only [Bool.not_false, condT]
    refine St.sets (i := 0) (o := 0) (vs := [.int .i64 0, .int .i64 0, .int .i64 0, .int .u64 0, .int .u64 0, .int .i64 0, .int .i64 0, .int .i64 0, .int .i64 0, .int .u64 0, .slice none 0 0, .int .u64 0, .int .i64 0, .int .u64 0, .int .i64 0, .int .u64 0, .int .i64 0, .int .u64 0, .slice none 0 0]) g1 rfl (by simp) fun H2 g2 => ?_
    rw [setsA_all (by rfl)] at g2
    have g2 : St H0 (Prt.one b3 (.cells #[.int .i64 0, .int .i64 0, .int .i64 0, .int .u64 0, .int .u64 0, .int .i64 0, .int .i64 0, .int .i64 0, .int .i64 0, .int .u64 0, .slice none 0 0, .int .u64 0, .int .i64 0, .int .u64 0, .int .i64 0, .int .u64 0, .int .i64 0, .int .u64 0, .slice none 0 0] ty_api_Msg (0, 0)) :: (rtRaw rb c t x True ++ M)) H2 := g2
    refine ldI_of (g2.cell (i := 0) rfl rfl) (ldI_of (g2.cell (i := 0) rfl rfl) (ldI_of (g2.cell (i := 0) rfl rfl) (ldI_of (g2.cell (i := 0) rfl rfl) (ldI_of (g2.cell (i := 0) rfl rfl) (ldI_of (g2.cell (i := 0) rfl rfl) (ldI_of (g2.cell (i := 0) rfl rfl) (ldI_of (g2.cell (i := 0) rfl rfl) (ldI_of (g2.cell (i := 0) rfl rfl) (ldI_of (g2.cell (i := 0) rfl rfl) (ldSl_of (g2.cell (i := 0) rfl rfl) (ldI_of (g2.cell (i := 0) rfl rfl) (ldI_of (g2.cell (i := 0) rfl rfl) (ldI_of (g2.cell (i := 0) rfl rfl) (ldI_of (g2.cell (i := 0) rfl rfl) (ldI_of (g2.cell (i := 0) rfl rfl) (ldI_of (g2.cell (i := 0) rfl rfl) (ldI_of (g2.cell (i := 0) rfl rfl) (ldSl_of (g2.cell (i := 0) rfl rfl) (?_)))))))))))))))))))
    exact no (by rw [hask, hp]) H2 g2
  simp only [Bool.not_true, condF]
  have hK := hK (by rw [hask, hp])
  clear no hN
  refine g1.put (i := 1) rfl (show 32 < 34 by decide) fun H2 g2 => ?_
  have g2 : St H0 (Prt.one b3 (.cells #[.int .i64 0, .int .i64 0, .int .i64 0, .int .u64 0, .int .u64 0, .int .i64 0, .int .i64 0, .int .i64 0, .int .i64 0, .int .u64 0, .slice none 0 0, .int .u64 0, .int .i64 0, .int .u64 0, .int .i64 0, .int .u64 0, .int .i64 0, .int .u64 0, .slice none 0 0] ty_api_Msg (0, 0)) :: (rtRaw rb c t { x with se := now } True ++ M)) H2 := g2
  refine ldI_of (g2.cell (i := 1) rfl rfl) (ldI_of (g2.cell (i := 1) rfl rfl) (ldI_of (g2.cell (i := 1) rfl rfl) ?_))
  rw [show ({ x with se := now } : RX).w = t.wait from w3]
  refine rWaitC hwt hmo ?_
  (try simp only [asI_mk', asB_mk, asP_mk, asA_mk, asM_mk, asSl_mk, asStr_mk, tup2_mk, tup3_mk, agg1_mk, agg2_mk, agg3_mk, agg4_mk, asAggm, unCons_mk, unNil_mk, asTup_mk, extractD0, extractD1, List.toList_toArray, nilP_mk, add_mk, Nat.zero_add, Nat.add_zero, condT, condF, Bool.not_true, Bool.not_false, Option.isNone_some, Option.isNone_none])
  refine g2.put (i := 1) rfl (show 33 < 34 by decide) fun H3 g3 => ?_
  have g3 : St H0 (Prt.one b3 (.cells #[.int .i64 0, .int .i64 0, .int .i64 0, .int .u64 0, .int .u64 0, .int .i64 0, .int .i64 0, .int .i64 0, .int .i64 0, .int .u64 0, .slice none 0 0, .int .u64 0, .int .i64 0, .int .u64 0, .int .i64 0, .int .u64 0, .int .i64 0, .int .u64 0, .slice none 0 0] ty_api_Msg (0, 0)) :: (rtRaw rb c t { x with se := now, w := lWait t.wait c.a14 c.a15 } True ++ M)) H3 := g3
  have g3 : St H0 (rtRaw rb c t { x with se := now, w := lWait t.wait c.a14 c.a15 } True ++ (Prt.one b3 (.cells #[.int .i64 0, .int .i64 0, .int .i64 0, .int .u64 0, .int .u64 0, .int .i64 0, .int .i64 0, .int .i64 0, .int .i64 0, .int .u64 0, .slice none 0 0, .int .u64 0, .int .i64 0, .int .u64 0, .int .i64 0, .int .u64 0, .int .i64 0, .int .u64 0, .slice none 0 0] ty_api_Msg (0, 0)) :: M)) H3 := g3.midin
  have hr2 : RRel t { x with se := x.se } := hr
  have hrT := hr.told (c := c) (now := now) h0
  have hrQ : (t.told c.a14 c.a15 now).q = t.q := rfl
  clear g1 g2 g
  intro R111 hR111
  have hQ111 : ∀ bm H', St H0 (Prt.one bm (.cells #[.int .i64 8, .int .i64 t.node, .int .i64 t.q.to, .int .u64 t.num, .int .u64 0, .int .i64 0, .int .i64 0, .int .i64 t.opn, .int .i64 0, .int .u64 0, .slice none 0 0, .int .u64 0, .int .i64 0, .int .u64 0, .int .i64 0, .int .u64 0, .int .i64 0, .int .u64 0, .slice none 0 0] ty_api_Msg (0, 0)) :: (rtRaw rb c t { x with se := now, w := lWait t.wait c.a14 c.a15 } True ++ (Prt.one b3 (.cells #[.int .i64 0, .int .i64 0, .int .i64 0, .int .u64 0, .int .u64 0, .int .i64 0, .int .i64 0, .int .i64 0, .int .i64 0, .int .u64 0, .slice none 0 0, .int .u64 0, .int .i64 0, .int .u64 0, .int .i64 0, .int .u64 0, .int .i64 0, .int .u64 0, .slice none 0 0] ty_api_Msg (0, 0)) :: M))) H' → R111 (some ⟨bm, 0, none⟩) H' := fun bm H4 g4 => by
    refine hR111 _ H4 ?_
    clear hR111
    intro R114 hR114
    have hQ114 : ∀ H', St H0 (Prt.one bm (.cells t.q.cells.toArray ty_api_Msg (0, 0)) :: (rtRaw rb c t { x with se := now, w := lWait t.wait c.a14 c.a15 } True ++ (Prt.one b3 (.cells #[.int .i64 0, .int .i64 0, .int .i64 0, .int .u64 0, .int .u64 0, .int .i64 0, .int .i64 0, .int .i64 0, .int .i64 0, .int .u64 0, .slice none 0 0, .int .u64 0, .int .i64 0, .int .u64 0, .int .i64 0, .int .u64 0, .int .i64 0, .int .u64 0, .slice none 0 0] ty_api_Msg (0, 0)) :: M))) H' → R114 H' := fun H5 g5 => by
      refine hR114 H5 ?_
      clear hR114 g4 g3
      (try simp only [asI_mk', asB_mk, asP_mk, asA_mk, asM_mk, asSl_mk, asStr_mk, tup2_mk, tup3_mk, agg1_mk, agg2_mk, agg3_mk, agg4_mk, asAggm, unCons_mk, unNil_mk, asTup_mk, extractD0, extractD1, List.toList_toArray, nilP_mk, add_mk, Nat.zero_add, Nat.add_zero, condT, condF, Bool.not_true, Bool.not_false, Option.isNone_some, Option.isNone_none])
      refine ldI_of (g5.cell (i := 0) rfl rfl) (ldI_of (g5.cell (i := 0) rfl rfl) (ldI_of (g5.cell (i := 0) rfl rfl) (ldI_of (g5.cell (i := 0) rfl rfl) (ldI_of (g5.cell (i := 0) rfl rfl) (ldI_of (g5.cell (i := 0) rfl rfl) (ldI_of (g5.cell (i := 0) rfl rfl) (ldI_of (g5.cell (i := 0) rfl rfl) (ldI_of (g5.cell (i := 0) rfl rfl) (ldI_of (g5.cell (i := 0) rfl rfl) (ldSl_of (g5.cell (i := 0) rfl rfl) (ldI_of (g5.cell (i := 0) rfl rfl) (ldI_of (g5.cell (i := 0) rfl rfl) (ldI_of (g5.cell (i := 0) rfl rfl) (ldI_of (g5.cell (i := 0) rfl rfl) (ldI_of (g5.cell (i := 0) rfl rfl) (ldI_of (g5.cell (i := 0) rfl rfl) (ldI_of (g5.cell (i := 0) rfl rfl) (ldSl_of (g5.cell (i := 0) rfl rfl) (?_)))))))))))))))))))
      refine St.sets (i := 7) (o := 0) (vs := t.q.cells) g5 rfl (by simp [Qn.cells]) fun H6 g6 => ?_
      rw [setsA_all (by rfl)] at g6
      have g6 : St H0 (Prt.one bm (.cells t.q.cells.toArray ty_api_Msg (0, 0)) :: (rtRaw rb c t { x with se := now, w := lWait t.wait c.a14 c.a15 } True ++ (Prt.one b3 (.cells t.q.cells.toArray ty_api_Msg (0, 0)) :: M))) H6 := g6
      refine ldI_of (g6.cell (i := 7) rfl rfl) (ldI_of (g6.cell (i := 7) rfl rfl) (ldI_of (g6.cell (i := 7) rfl rfl) (ldI_of (g6.cell (i := 7) rfl rfl) (ldI_of (g6.cell (i := 7) rfl rfl) (ldI_of (g6.cell (i := 7) rfl rfl) (ldI_of (g6.cell (i := 7) rfl rfl) (ldI_of (g6.cell (i := 7) rfl rfl) (ldI_of (g6.cell (i := 7) rfl rfl) (ldI_of (g6.cell (i := 7) rfl rfl) (ldSl_of (g6.cell (i := 7) rfl rfl) (ldI_of (g6.cell (i := 7) rfl rfl) (ldI_of (g6.cell (i := 7) rfl rfl) (ldI_of (g6.cell (i := 7) rfl rfl) (ldI_of (g6.cell (i := 7) rfl rfl) (ldI_of (g6.cell (i := 7) rfl rfl) (ldI_of (g6.cell (i := 7) rfl rfl) (ldI_of (g6.cell (i := 7) rfl rfl) (ldSl_of (g6.cell (i := 7) rfl rfl) (?_)))))))))))))))))))
      exact hK H6 (shut [] (t.told c.a14 c.a15 now) _ H6 ho.told hrT g6.less.midless)
    clear hR114
    (try simp only [asI_mk', asB_mk, asP_mk, asA_mk, asM_mk, asSl_mk, asStr_mk, tup2_mk, tup3_mk, agg1_mk, agg2_mk, agg3_mk, agg4_mk, asAggm, unCons_mk, unNil_mk, asTup_mk, extractD0, extractD1, List.toList_toArray, nilP_mk, add_mk, Nat.zero_add, Nat.add_zero, condT, condF, Bool.not_true, Bool.not_false, Option.isNone_some, Option.isNone_none])
    refine ldI_of (g4.cell (i := 1) rfl rfl) ?_
    by_cases h1 : t.st = 1
    · obtain ⟨o1, o2, o3⟩ := ho.one h1
      obtain ⟨r1, r2⟩ := hr.one h1
      obtain ⟨y, hy⟩ : ∃ y, y = t.items.getD t.opn.toNat noIt := ⟨_, rfl⟩
      have hq : t.q = ⟨8, t.node, y.node, t.num, if y.inn then 1 else 2, t.opn, y.id, 0⟩ := by unfold Tr.q; rw [if_pos h1, ← hy]
      rw [hq] at hQ114 g4
      refine bif_eq h1 (ldSl_of (g4.cell (i := 1) rfl rfl) (ldI_of (g4.cell (i := 1) rfl rfl) ?_))
      rw [show ({ x with se := now, w := lWait t.wait c.a14 c.a15 } : RX).atx = t.opn from r1]
      refine rIt (x := { x with se := now, w := lWait t.wait c.a14 c.a15 }) (M := Prt.one b3 (.cells #[.int .i64 0, .int .i64 0, .int .i64 0, .int .u64 0, .int .u64 0, .int .i64 0, .int .i64 0, .int .i64 0, .int .i64 0, .int .u64 0, .slice none 0 0, .int .u64 0, .int .i64 0, .int .u64 0, .int .i64 0, .int .u64 0, .int .i64 0, .int .u64 0, .slice none 0 0] ty_api_Msg (0, 0)) :: M) g4.less o1 o2 fun b o _ hc => ?_
      rw [← hy] at hc
      have q0 := hc [_] H4 g4
      (try simp only [asI_mk', asB_mk, asP_mk, asA_mk, asM_mk, asSl_mk, asStr_mk, tup2_mk, tup3_mk, agg1_mk, agg2_mk, agg3_mk, agg4_mk, asAggm, unCons_mk, unNil_mk, asTup_mk, extractD0, extractD1, List.toList_toArray, nilP_mk, add_mk, Nat.zero_add, Nat.add_zero, condT, condF, Bool.not_true, Bool.not_false, Option.isNone_some, Option.isNone_none])
      refine ldI_of (q0 2 (by omega)) (ldI_of (q0 3 (by omega)) ?_)
      refine g4.put (i := 0) rfl (show 8 < 19 by decide) fun H5 g5 => g5.put (i := 0) rfl (by simp) fun H6 g6 => g6.put (i := 0) rfl (by simp) fun H7 g7 => ?_
      refine ldSl_of (g7.cell (i := 1) rfl rfl) (ldI_of (g7.cell (i := 1) rfl rfl) ?_)
      rw [show ({ x with se := now, w := lWait t.wait c.a14 c.a15 } : RX).atx = t.opn from r1]
      refine rIt (x := { x with se := now, w := lWait t.wait c.a14 c.a15 }) (M := Prt.one b3 (.cells #[.int .i64 0, .int .i64 0, .int .i64 0, .int .u64 0, .int .u64 0, .int .i64 0, .int .i64 0, .int .i64 0, .int .i64 0, .int .u64 0, .slice none 0 0, .int .u64 0, .int .i64 0, .int .u64 0, .int .i64 0, .int .u64 0, .int .i64 0, .int .u64 0, .slice none 0 0] ty_api_Msg (0, 0)) :: M) g7.less o1 o2 fun b o _ hc => ?_
      rw [← hy] at hc
      have q1 := hc [_] H7 g7
      refine ldB_of (q1 0 (by omega)) ?_
      cases hin : y.inn
      · rw [hin] at hQ114
        simp only [condF]
        exact hQ114 H7 g7
      · rw [hin] at hQ114
        simp only [condT]
        (try simp only [asI_mk', asB_mk, asP_mk, asA_mk, asM_mk, asSl_mk, asStr_mk, tup2_mk, tup3_mk, agg1_mk, agg2_mk, agg3_mk, agg4_mk, asAggm, unCons_mk, unNil_mk, asTup_mk, extractD0, extractD1, List.toList_toArray, nilP_mk, add_mk, Nat.zero_add, Nat.add_zero, condT, condF, Bool.not_true, Bool.not_false, Option.isNone_some, Option.isNone_none])
        exact g7.put (i := 0) rfl (by simp) fun H8 g8 => hQ114 H8 g8
    refine bif_ne h1 ?_
    by_cases h2 : t.st = 2
    · have hq : t.q = ⟨8, t.node, t.todo.getD 0 0, t.num, 3, t.opn, noId, 0⟩ := by unfold Tr.q; rw [if_neg h1, if_pos h2]
      rw [hq] at hQ114 g4
      refine bif_eq h2 ?_
      (try simp only [asI_mk', asB_mk, asP_mk, asA_mk, asM_mk, asSl_mk, asStr_mk, tup2_mk, tup3_mk, agg1_mk, agg2_mk, agg3_mk, agg4_mk, asAggm, unCons_mk, unNil_mk, asTup_mk, extractD0, extractD1, List.toList_toArray, nilP_mk, add_mk, Nat.zero_add, Nat.add_zero, condT, condF, Bool.not_true, Bool.not_false, Option.isNone_some, Option.isNone_none])
      exact g4.put (i := 0) rfl (show 5 < 19 by decide) fun H5 g5 => hQ114 H5 g5
    refine bif_ne h2 ?_
    have hst := ho.st
    have h3 : t.st = 3 := by omega
    obtain ⟨o1, o2, o3⟩ := ho.three h3
    obtain ⟨kk, r1, r2, r3⟩ := hr.three h3
    have hkl : kk < x.bury.length := by
      rcases Nat.lt_or_ge kk x.bury.length with h | h
      · exact h
      · rw [List.drop_of_length_le h] at r2; exact absurd r2 o1
    have hg : t.todo.getD 0 0 = x.bury.getD kk 0 := by
      rw [r2, List.getD_eq_getElem?_getD, List.getElem?_drop, List.getD_eq_getElem?_getD]
      rfl
    have hpos := List.length_pos_iff.2 o1
    have hmem : t.todo.getD 0 0 ∈ t.todo := by
      rw [List.getD_eq_getElem?_getD, List.getElem?_eq_getElem hpos]
      exact List.getElem_mem _
    have hb := o3 _ hmem
    obtain ⟨y, hy⟩ : ∃ y, y = t.items.getD (t.todo.getD 0 0).toNat noIt := ⟨_, rfl⟩
    have hym : y ∈ t.items := by
      rw [hy, List.getD_eq_getElem?_getD, List.getElem?_eq_getElem (by omega)]
      exact List.getElem_mem _
    have hyn := ho.nds _ hym
    have hq : t.q = ⟨10, t.node, y.node, t.num, 0, t.opn, y.id, (mlook t.sm y.node).getD 0⟩ := by unfold Tr.q; rw [if_neg h1, if_neg h2, ← hy]
    rw [hq] at hQ114 g4
    (try simp only [asI_mk', asB_mk, asP_mk, asA_mk, asM_mk, asSl_mk, asStr_mk, tup2_mk, tup3_mk, agg1_mk, agg2_mk, agg3_mk, agg4_mk, asAggm, unCons_mk, unNil_mk, asTup_mk, extractD0, extractD1, List.toList_toArray, nilP_mk, add_mk, Nat.zero_add, Nat.add_zero, condT, condF, Bool.not_true, Bool.not_false, Option.isNone_some, Option.isNone_none])
    refine g4.put (i := 0) rfl (show 0 < 19 by decide) fun H5 g5 => ?_
    refine ldSl_of (g5.cell (i := 1) rfl rfl) (ldSl_of (g5.cell (i := 1) rfl rfl) (ldI_of (g5.cell (i := 1) rfl rfl) ?_))
    rw [show ({ x with se := now, w := lWait t.wait c.a14 c.a15 } : RX).atx = (kk : Int) from r1]
    refine rNum (i := 5) g5 rfl hkl (by show x.bury.length ≤ _; omega) fun a ha => ldI_of (ha [] H5 g5) ?_
    rw [show ({ x with se := now, w := lWait t.wait c.a14 c.a15 } : RX).bury.getD kk 0 = t.todo.getD 0 0 from hg.symm]
    refine rIt (x := { x with se := now, w := lWait t.wait c.a14 c.a15 }) (M := Prt.one b3 (.cells #[.int .i64 0, .int .i64 0, .int .i64 0, .int .u64 0, .int .u64 0, .int .i64 0, .int .i64 0, .int .i64 0, .int .i64 0, .int .u64 0, .slice none 0 0, .int .u64 0, .int .i64 0, .int .u64 0, .int .i64 0, .int .u64 0, .int .i64 0, .int .u64 0, .slice none 0 0] ty_api_Msg (0, 0)) :: M) g5.less hb.1 hb.2 fun b o _ hc => ?_
    rw [← hy] at hc
    have q0 := hc [_] H5 g5
    (try simp only [asI_mk', asB_mk, asP_mk, asA_mk, asM_mk, asSl_mk, asStr_mk, tup2_mk, tup3_mk, agg1_mk, agg2_mk, agg3_mk, agg4_mk, asAggm, unCons_mk, unNil_mk, asTup_mk, extractD0, extractD1, List.toList_toArray, nilP_mk, add_mk, Nat.zero_add, Nat.add_zero, condT, condF, Bool.not_true, Bool.not_false, Option.isNone_some, Option.isNone_none])
    refine ldI_of (q0 2 (by omega)) (ldI_of (q0 3 (by omega)) ?_)
    refine g5.put (i := 0) rfl (by simp) fun H6 g6 => g6.put (i := 0) rfl (by simp) fun H7 g7 => ?_
    refine ldI_of (g7.cell (i := 0) rfl rfl) ?_
    refine rStampC (t := t.told c.a14 c.a15 now) (x := { x with se := now, w := lWait t.wait c.a14 c.a15 }) (M := Prt.one b3 (.cells #[.int .i64 0, .int .i64 0, .int .i64 0, .int .u64 0, .int .u64 0, .int .i64 0, .int .i64 0, .int .i64 0, .int .i64 0, .int .u64 0, .slice none 0 0, .int .u64 0, .int .i64 0, .int .u64 0, .int .i64 0, .int .u64 0, .int .i64 0, .int .u64 0, .slice none 0 0] ty_api_Msg (0, 0)) :: M) hn ho.told hrT h0 (by show 1 ≤ y.node ∧ y.node ≤ 12; omega) g7.less ?_
    (try simp only [asI_mk', asB_mk, asP_mk, asA_mk, asM_mk, asSl_mk, asStr_mk, tup2_mk, tup3_mk, agg1_mk, agg2_mk, agg3_mk, agg4_mk, asAggm, unCons_mk, unNil_mk, asTup_mk, extractD0, extractD1, List.toList_toArray, nilP_mk, add_mk, Nat.zero_add, Nat.add_zero, condT, condF, Bool.not_true, Bool.not_false, Option.isNone_some, Option.isNone_none])
    exact g7.put (i := 0) rfl (by simp) fun H8 g8 => hQ114 H8 g8
  clear hR111
  (try simp only [asI_mk', asB_mk, asP_mk, asA_mk, asM_mk, asSl_mk, asStr_mk, tup2_mk, tup3_mk, agg1_mk, agg2_mk, agg3_mk, agg4_mk, asAggm, unCons_mk, unNil_mk, asTup_mk, extractD0, extractD1, List.toList_toArray, nilP_mk, add_mk, Nat.zero_add, Nat.add_zero, condT, condF, Bool.not_true, Bool.not_false, Option.isNone_some, Option.isNone_none])
  refine ldI_of (g3.cell (i := 0) rfl rfl) (ldI_of (g3.cell (i := 0) rfl rfl) (ldI_of (g3.cell (i := 0) rfl rfl) ?_))
  have hto : ∀ {K : Value → Hp → Prop} {H'} (g' : St H0 (rtRaw rb c t { x with se := now, w := lWait t.wait c.a14 c.a15 } True ++ (Prt.one b3 (.cells #[.int .i64 0, .int .i64 0, .int .i64 0, .int .u64 0, .int .u64 0, .int .i64 0, .int .i64 0, .int .i64 0, .int .i64 0, .int .u64 0, .slice none 0 0, .int .u64 0, .int .i64 0, .int .u64 0, .int .i64 0, .int .u64 0, .int .i64 0, .int .u64 0, .slice none 0 0] ty_api_Msg (0, 0)) :: M)) H'), K (.int .i64 t.q.to) H' → hcall PR f_ref22_Trace_to ⟨[.pointer (some ⟨rb, 0, none⟩)]⟩ H' K := fun g' hK' => rToC (t := t.told c.a14 c.a15 now) (x := { x with se := now, w := lWait t.wait c.a14 c.a15 }) (M := Prt.one b3 (.cells #[.int .i64 0, .int .i64 0, .int .i64 0, .int .u64 0, .int .u64 0, .int .i64 0, .int .i64 0, .int .i64 0, .int .i64 0, .int .u64 0, .slice none 0 0, .int .u64 0, .int .i64 0, .int .u64 0, .int .i64 0, .int .u64 0, .int .i64 0, .int .u64 0, .slice none 0 0] ty_api_Msg (0, 0)) :: M) hn ho.told hrT h0 g' hK'
  have fin : ∀ bm H', St H0 (Prt.one bm (.cells #[.int .i64 0, .int .i64 0, .int .i64 0, .int .u64 0, .int .u64 0, .int .i64 0, .int .i64 0, .int .i64 0, .int .i64 0, .int .u64 0, .slice none 0 0, .int .u64 0, .int .i64 0, .int .u64 0, .int .i64 0, .int .u64 0, .int .i64 0, .int .u64 0, .slice none 0 0] ty_api_Msg (0, 0)) :: (rtRaw rb c t { x with se := now, w := lWait t.wait c.a14 c.a15 } True ++ (Prt.one b3 (.cells #[.int .i64 0, .int .i64 0, .int .i64 0, .int .u64 0, .int .u64 0, .int .i64 0, .int .i64 0, .int .i64 0, .int .i64 0, .int .u64 0, .slice none 0 0, .int .u64 0, .int .i64 0, .int .u64 0, .int .i64 0, .int .u64 0, .int .i64 0, .int .u64 0, .slice none 0 0] ty_api_Msg (0, 0)) :: M))) H' → sts bm 0 [.int .i64 8, .int .i64 t.node, .int .i64 t.q.to, .int .u64 t.num, .int .u64 0, .int .i64 0, .int .i64 0, .int .i64 t.opn, .int .i64 0, .int .u64 0, .slice none 0 0, .int .u64 0, .int .i64 0, .int .u64 0, .int .i64 0, .int .u64 0, .int .i64 0, .int .u64 0, .slice none 0 0] H' fun H'' => R111 (some ⟨bm, 0, none⟩) H'' := fun bm H' g' => by
    refine St.sets (i := 0) g' rfl (by simp) fun H2 g2 => ?_
    rw [setsA_all (by rfl)] at g2
    exact hQ111 bm H2 g2
  rw [← w1] at fin
  refine ⟨?_, ?_⟩
  · refine hto g3 ?_
    (try simp only [asI_mk', asB_mk, asP_mk, asA_mk, asM_mk, asSl_mk, asStr_mk, tup2_mk, tup3_mk, agg1_mk, agg2_mk, agg3_mk, agg4_mk, asAggm, unCons_mk, unNil_mk, asTup_mk, extractD0, extractD1, List.toList_toArray, nilP_mk, add_mk, Nat.zero_add, Nat.add_zero, condT, condF, Bool.not_true, Bool.not_false, Option.isNone_some, Option.isNone_none])
    refine ⟨ldI_of (g3.cell (i := 0) rfl rfl) rfl, ldI_of (g3.cell (i := 0) rfl rfl) rfl, ldI_of (g3.cell (i := 0) rfl rfl) rfl, ?_⟩
    intro bm hbm
    have g4 := g3.alloc (o := .cells #[.int .i64 0, .int .i64 0, .int .i64 0, .int .u64 0, .int .u64 0, .int .i64 0, .int .i64 0, .int .i64 0, .int .i64 0, .int .u64 0, .slice none 0 0, .int .u64 0, .int .i64 0, .int .u64 0, .int .i64 0, .int .u64 0, .int .i64 0, .int .u64 0, .slice none 0 0] ty_api_Msg) hbm
    refine ⟨ldI_of (g4.cell (i := 1) rfl rfl) rfl, ldI_of (g4.cell (i := 1) rfl rfl) rfl, ldI_of (g4.cell (i := 1) rfl rfl) rfl, ?_⟩
    exact fin bm _ g4
  · intro bm hbm
    have g4 := g3.alloc (o := .cells #[.int .i64 0, .int .i64 0, .int .i64 0, .int .u64 0, .int .u64 0, .int .i64 0, .int .i64 0, .int .i64 0, .int .i64 0, .int .u64 0, .slice none 0 0, .int .u64 0, .int .i64 0, .int .u64 0, .int .i64 0, .int .u64 0, .int .i64 0, .int .u64 0, .slice none 0 0] ty_api_Msg) hbm
    refine ⟨ldI_of (g4.cell (i := 1) rfl rfl) rfl, ldI_of (g4.cell (i := 1) rfl rfl) rfl, ldI_of (g4.cell (i := 1) rfl rfl) rfl, ?_⟩
    refine hto g4.less ?_
    (try simp only [asI_mk', asB_mk, asP_mk, asA_mk, asM_mk, asSl_mk, asStr_mk, tup2_mk, tup3_mk, agg1_mk, agg2_mk, agg3_mk, agg4_mk, asAggm, unCons_mk, unNil_mk, asTup_mk, extractD0, extractD1, List.toList_toArray, nilP_mk, add_mk, Nat.zero_add, Nat.add_zero, condT, condF, Bool.not_true, Bool.not_false, Option.isNone_some, Option.isNone_none])
    refine ⟨ldI_of (g4.cell (i := 1) rfl rfl) rfl, ldI_of (g4.cell (i := 1) rfl rfl) rfl, ldI_of (g4.cell (i := 1) rfl rfl) rfl, ?_⟩
    exact fin bm _ g4
theorem noneC {n s : Int} (h : St H0 L H) (hK : ∀ H', St H0 L H' → K (.bool (decide (n = 0 ∧ s = 0))) H') : hcall PR f_ref2_None ⟨[.agg #[.int .i64 n, .int .u64 s]]⟩ H K := by
  apply den_ref2_None
  unfold B_ref2_None
  intro b hb
  have g1 := h.alloc (o := .cells #[.int .i64 n, .int .u64 s] ty_api_ID) hb
  have hK := hK _ g1.less
  refine ldI_of (g1.cell (i := 0) rfl rfl) ?_
  by_cases h1 : n = 0
  · refine bif_eq h1 (ldI_of (g1.cell (i := 0) rfl rfl) ?_)
    by_cases h2 : s = 0
    · rw [decide_eq_true ⟨h1, h2⟩] at hK
      rw [show (s == 0) = true from beq_iff_eq.2 h2]
      exact hK
    · rw [decide_eq_false (fun h => h2 h.2)] at hK
      rw [show (s == 0) = false from beq_eq_false_iff_ne.2 h2]
      exact hK
  · rw [decide_eq_false (fun h => h1 h.1)] at hK
    exact bif_ne h1 hK
theorem idRefC {n s : Int} (h : St H0 L H) (hK : ∀ b H', (b = false → n < 1 ∨ n > 64 ∨ s < 1 ∨ s > 72057594037927935) → (b = true → (n = 0 ∧ s = 0) ∨ (1 ≤ n ∧ 1 ≤ s ∧ s ≤ 72057594037927935)) → St H0 L H' → K (.bool b) H') : hcall PR f_ref2_ID ⟨[.agg #[.int .i64 n, .int .u64 s]]⟩ H K := by
  apply den_ref2_ID
  unfold B_ref2_ID
  intro b hb
  have g1 := h.alloc (o := .cells #[.int .i64 n, .int .u64 s] ty_api_ID) hb
  have hK := fun b h1 h2 => hK b _ h1 h2 g1.less
  refine ldI_of (g1.cell (i := 0) rfl rfl) ?_
  by_cases h1 : n = 0
  · refine bif_eq h1 (ldI_of (g1.cell (i := 0) rfl rfl) ?_)
    by_cases h2 : s = 0
    · rw [show (s == 0) = true from beq_iff_eq.2 h2]
      exact hK true (fun h => by cases h) fun _ => .inl ⟨h1, h2⟩
    · rw [show (s == 0) = false from beq_eq_false_iff_ne.2 h2]
      exact hK false (fun _ => by omega) fun h => by cases h
  refine bif_ne h1 (ldI_of (g1.cell (i := 0) rfl rfl) ?_)
  by_cases h2 : n ≥ 1
  rotate_left
  · exact bif_neg h2 (hK false (fun _ => by omega) fun h => by cases h)
  refine bif_pos h2 (ldI_of (g1.cell (i := 0) rfl rfl) ?_)
  by_cases h3 : n ≤ 64
  rotate_left
  · exact bif_neg h3 (hK false (fun _ => by omega) fun h => by cases h)
  refine bif_pos h3 (ldI_of (g1.cell (i := 0) rfl rfl) ?_)
  by_cases h4 : s ≥ 1
  rotate_left
  · exact bif_neg h4 (hK false (fun _ => by omega) fun h => by cases h)
  refine bif_pos h4 (ldI_of (g1.cell (i := 0) rfl rfl) ?_)
  by_cases h5 : s ≤ 72057594037927935
  · rw [decide_eq_true h5]
    exact hK true (fun h => by cases h) fun _ => .inr ⟨by omega, by omega, h5⟩
  · rw [decide_eq_false h5]
    exact hK false (fun _ => by omega) fun h => by cases h
theorem begin_one {nodes n s : Int} (h0 : t.st = 0) (h : n < 1 ∨ n > nodes ∨ n = t.node ∨ s < 1 ∨ s > 72057594037927935) : t.beginE nodes n s = 1 := by
  unfold Tr.beginE
  rw [if_neg (fun h => h h0)]
  split
  · rfl
  split
  · rfl
  split
  · rfl
  split
  · rfl
  split
  · rfl
  · omega
theorem rBeginC {n s now : Int} (h : St H0 L H) (hk : L[k]? = some (RtP rb c t)) (hnd : 1 ≤ t.node ∧ t.node ≤ c.a0) (hn : 1 ≤ c.a0 ∧ c.a0 ≤ 12) (hnum : t.num ≤ 72057594037927935)
    (hN : t.beginE c.a0 n s ≠ 0 → ∀ H', St H0 L H' → K (.int .i64 (t.beginE c.a0 n s)) H')
    (hK : t.beginE c.a0 n s = 0 → ∀ H', St H0 (L.set k (RtP rb c (t.begun n s now))) H' → K (.int .i64 0) H') :
    hcall PR f_ref22_Trace_Begin ⟨[.pointer (some ⟨rb, 0, none⟩), .agg #[.int .i64 n, .int .u64 s], .int .u64 now]⟩ H K := by
  apply den_ref22_Trace_Begin
  unfold B_ref22_Trace_Begin
  obtain ⟨x, M, g, ho, hr, hot, shut⟩ := rtTake h hk
  intro b5 hb5
  have g1 := g.alloc (o := .cells #[.int .i64 n, .int .u64 s] ty_api_ID) hb5
  have g1 : St H0 (rtRaw rb c t x True ++ (Prt.one b5 (.cells #[.int .i64 n, .int .u64 s] ty_api_ID (0, 0)) :: M)) _ := g1.midin
  have no : ∀ (e : Int) H', t.beginE c.a0 n s = e → e ≠ 0 → St H0 (rtRaw rb c t x True ++ (Prt.one b5 (.cells #[.int .i64 n, .int .u64 s] ty_api_ID (0, 0)) :: M)) H' → K (.int .i64 e) H' := fun e H' he hne g' => by
    rw [he] at hN
    refine hN hne _ ?_
    have := shut [] t x _ ho hr g'.midless
    rw [List.set_self hk] at this
    exact this
  (try simp only [asI_mk', asB_mk, asP_mk, asA_mk, asM_mk, asSl_mk, asStr_mk, tup2_mk, tup3_mk, agg1_mk, agg2_mk, agg3_mk, agg4_mk, asAggm, unCons_mk, unNil_mk, asTup_mk, extractD0, extractD1, List.toList_toArray, nilP_mk, add_mk, Nat.zero_add, Nat.add_zero, condT, condF, Bool.not_true, Bool.not_false, Option.isNone_some, Option.isNone_none])
  refine ldI_of (g1.cell (i := 0) rfl rfl) ?_
  by_cases q0 : t.st = 0
  rotate_left
  · exact bif_neq q0 (no 10 _ (by unfold Tr.beginE; rw [if_pos q0]) (by decide) g1)
  refine bif_neqf q0 (ldI_of (g1.cell (i := 6) rfl rfl) (ldI_of (g1.cell (i := 6) rfl rfl) (noneC g1 fun H2 g2 => ?_)))
  (try simp only [asI_mk', asB_mk, asP_mk, asA_mk, asM_mk, asSl_mk, asStr_mk, tup2_mk, tup3_mk, agg1_mk, agg2_mk, agg3_mk, agg4_mk, asAggm, unCons_mk, unNil_mk, asTup_mk, extractD0, extractD1, List.toList_toArray, nilP_mk, add_mk, Nat.zero_add, Nat.add_zero, condT, condF, Bool.not_true, Bool.not_false, Option.isNone_some, Option.isNone_none])
  by_cases q1 : n = 0 ∧ s = 0
  · rw [decide_eq_true q1]
    simp only [condT]
    exact no 1 H2 (begin_one q0 (by omega)) (by decide) g2
  rw [decide_eq_false q1]
  simp only [condF]
  refine ldI_of (g2.cell (i := 6) rfl rfl) (ldI_of (g2.cell (i := 6) rfl rfl) (idRefC g2 fun b H3 i1 i2 g3 => ?_))
  (try simp only [asI_mk', asB_mk, asP_mk, asA_mk, asM_mk, asSl_mk, asStr_mk, tup2_mk, tup3_mk, agg1_mk, agg2_mk, agg3_mk, agg4_mk, asAggm, unCons_mk, unNil_mk, asTup_mk, extractD0, extractD1, List.toList_toArray, nilP_mk, add_mk, Nat.zero_add, Nat.add_zero, condT, condF, Bool.not_true, Bool.not_false, Option.isNone_some, Option.isNone_none])
  cases b
  · simp only [Bool.not_false, condT]
    have := i1 rfl
    exact no 1 H3 (begin_one q0 (by omega)) (by decide) g3
  have i2 := i2 rfl
  simp only [Bool.not_true, condF]
  refine ldI_of (g3.cell (i := 6) rfl rfl) (ldI_of (g3.cell (i := 0) rfl rfl) ?_)
  by_cases q2 : n = t.node
  · exact bif_eq q2 (no 1 H3 (begin_one q0 (by omega)) (by decide) g3)
  refine bif_ne q2 (ldI_of (g3.cell (i := 6) rfl rfl) (ldI_of (g3.cell (i := 0) rfl rfl) ?_))
  by_cases q3 : n > c.a0
  · exact bif_pos q3 (no 1 H3 (begin_one q0 (by omega)) (by decide) g3)
  refine bif_neg q3 (ldI_of (g3.cell (i := 0) rfl rfl) ?_)
  have hbe : t.beginE c.a0 n s = if t.num = 72057594037927935 then 7 else 0 := by
    unfold Tr.beginE
    rw [if_neg (fun h => h q0), if_neg (by omega), if_neg q3, if_neg q2, if_neg (by omega), if_neg (by omega)]
  by_cases q4 : t.num ≥ 72057594037927935
  · exact bif_pos q4 (no 7 H3 (by rw [hbe, if_pos (by omega)]) (by decide) g3)
  rw [if_neg (by omega)] at hbe
  have hK := hK hbe
  clear no hN
  refine bif_neg q4 (ldI_of (g3.cell (i := 0) rfl rfl) ?_)
  refine g3.put (i := 0) rfl (show 24 < 34 by decide) fun H4 g4 => ?_
  have g4 : St H0 (rtRaw rb c { t with num := IntKind.u64.wrap (t.num + 1) } x True ++ (Prt.one b5 (.cells #[.int .i64 n, .int .u64 s] ty_api_ID (0, 0)) :: M)) H4 := g4
  refine g4.put (i := 0) rfl (show 23 < 34 by decide) fun H5 g5 => ?_
  have g5 : St H0 (rtRaw rb c { t with num := IntKind.u64.wrap (t.num + 1), st := 1 } x True ++ (Prt.one b5 (.cells #[.int .i64 n, .int .u64 s] ty_api_ID (0, 0)) :: M)) H5 := g5
  refine ldI_of (g5.cell (i := 0) rfl rfl) (ldI_of (g5.cell (i := 6) rfl rfl) (ldI_of (g5.cell (i := 6) rfl rfl) ?_))
  intro bi hbi
  have g6 := g5.alloc (o := .cells #[.bool false, .int .i64 t.node, .int .i64 n, .int .u64 s, .int .i64 0] ty_trace_Item) hbi
  refine g6.put (i := 1) rfl (show 26 < 34 by decide) fun H7 g7 => ?_
  have g7 := g7.oneRow (i := 0) (q := 5) (n := 1) rfl rfl
  have g8 : St H0 (rtRaw rb c { t with num := IntKind.u64.wrap (t.num + 1), st := 1, items := [⟨false, t.node, ⟨n, s⟩, 0⟩] } { x with ip := some ⟨bi, 0, none⟩, ic := 1 } True ++ (Prt.one b5 (.cells #[.int .i64 n, .int .u64 s] ty_api_ID (0, 0)) :: M)) H7 := St.over (i := 1) g7 rfl
  have e1 := fun (H' : Hp) (L' : List Prt) (h' : St H0 L' H') => h'.row (H' := _) (Own.nil 1) ((Goes.refl Nothing _).less fun c hc => absurd hc blk_none)
  refine g8.put (i := 0) rfl (show 27 < 34 by decide) fun H9 g9 => ?_
  have g9 : St H0 (rtRaw rb c { t with num := IntKind.u64.wrap (t.num + 1), st := 1, items := [⟨false, t.node, ⟨n, s⟩, 0⟩] } { x with ip := some ⟨bi, 0, none⟩, ic := 1, np := none, nc := 0, nodes := [] } True ++ (Prt.one b5 (.cells #[.int .i64 n, .int .u64 s] ty_api_ID (0, 0)) :: M)) H9 := St.over (i := 2) (e1 _ _ g9) rfl
  refine g9.put (i := 0) rfl (show 28 < 34 by decide) fun H10 g10 => ?_
  have g10 : St H0 (rtRaw rb c { t with num := IntKind.u64.wrap (t.num + 1), st := 1, items := [⟨false, t.node, ⟨n, s⟩, 0⟩] } { x with ip := some ⟨bi, 0, none⟩, ic := 1, np := none, nc := 0, nodes := [], sp := none, sc := 0, stamps := [] } True ++ (Prt.one b5 (.cells #[.int .i64 n, .int .u64 s] ty_api_ID (0, 0)) :: M)) H10 := St.over (i := 3) (e1 _ _ g10) rfl
  refine g10.put (i := 0) rfl (show 29 < 34 by decide) fun H11 g11 => ?_
  have g11 : St H0 (rtRaw rb c { t with num := IntKind.u64.wrap (t.num + 1), st := 1, items := [⟨false, t.node, ⟨n, s⟩, 0⟩] } { x with ip := some ⟨bi, 0, none⟩, ic := 1, np := none, nc := 0, nodes := [], sp := none, sc := 0, stamps := [], bp := none, bc := 0, bury := [] } True ++ (Prt.one b5 (.cells #[.int .i64 n, .int .u64 s] ty_api_ID (0, 0)) :: M)) H11 := St.over (i := 4) (e1 _ _ g11) rfl
  refine g11.put (i := 0) rfl (show 30 < 34 by decide) fun H12 g12 => ?_
  have g12 : St H0 (rtRaw rb c { t with num := IntKind.u64.wrap (t.num + 1), st := 1, items := [⟨false, t.node, ⟨n, s⟩, 0⟩] } { x with ip := some ⟨bi, 0, none⟩, ic := 1, np := none, nc := 0, nodes := [], sp := none, sc := 0, stamps := [], bp := none, bc := 0, bury := [], atx := 0 } True ++ (Prt.one b5 (.cells #[.int .i64 n, .int .u64 s] ty_api_ID (0, 0)) :: M)) H12 := g12
  refine g12.put (i := 0) rfl (show 31 < 34 by decide) fun H13 g13 => ?_
  have g13 : St H0 (rtRaw rb c { t with num := IntKind.u64.wrap (t.num + 1), st := 1, items := [⟨false, t.node, ⟨n, s⟩, 0⟩] } { x with ip := some ⟨bi, 0, none⟩, ic := 1, np := none, nc := 0, nodes := [], sp := none, sc := 0, stamps := [], bp := none, bc := 0, bury := [], atx := 0, q := 0 } True ++ (Prt.one b5 (.cells #[.int .i64 n, .int .u64 s] ty_api_ID (0, 0)) :: M)) H13 := g13
  refine g13.put (i := 0) rfl (show 32 < 34 by decide) fun H14 g14 => ?_
  have g14 : St H0 (rtRaw rb c { t with num := IntKind.u64.wrap (t.num + 1), st := 1, items := [⟨false, t.node, ⟨n, s⟩, 0⟩] } { x with ip := some ⟨bi, 0, none⟩, ic := 1, np := none, nc := 0, nodes := [], sp := none, sc := 0, stamps := [], bp := none, bc := 0, bury := [], atx := 0, q := 0, se := now } True ++ (Prt.one b5 (.cells #[.int .i64 n, .int .u64 s] ty_api_ID (0, 0)) :: M)) H14 := g14
  refine g14.put (i := 0) rfl (show 33 < 34 by decide) fun H15 g15 => ?_
  have g15 : St H0 (rtRaw rb c (t.begun n s now) { x with ip := some ⟨bi, 0, none⟩, ic := 1, np := none, nc := 0, nodes := [], sp := none, sc := 0, stamps := [], bp := none, bc := 0, bury := [], atx := 0, q := 0, se := now, w := 0 } True ++ (Prt.one b5 (.cells #[.int .i64 n, .int .u64 s] ty_api_ID (0, 0)) :: M)) H15 := g15
  refine hK H15 (shut [] (t.begun n s now) _ H15 (Tr.begun_ok hnd) ?_ g15.midless)
  exact ⟨fun _ => ⟨rfl, rfl, rfl⟩, fun _ => rfl, fun _ => rfl, fun _ j a b h1 h2 => by simp at h1, fun _ => ⟨rfl, rfl⟩, fun h => absurd h (by show ¬ (1 : Int) = 2; decide), fun h => absurd h (by show ¬ (1 : Int) = 3; decide)⟩
theorem rMake {node last : Int} (h : St H0 L H) (hb : H rb = none) : St H0 (RtP rb c (newTr node last) :: L) (upd H rb (.cells #[.int .i64 c.a0, .int .i64 c.a1, .int .i64 c.a2, .int .i64 c.a3, .int .i64 c.a4, .int .i64 c.a5, .int .i64 c.a6, .int .i64 c.a7, .int .i64 c.a8, .int .i64 c.a9, .int .i64 c.a10, .int .u64 c.a11, .int .u64 c.a12, .int .u64 c.a13, .int .u64 c.a14, .int .u64 c.a15, .int .u64 c.a16, .int .i64 c.a17, .int .i64 c.a18, .int .i64 c.a19, .int .u64 c.a20, .int .u64 c.a21, .int .i64 node, .int .i64 0, .int .u64 last, .int .i64 0, .slice none 0 0, .slice none 0 0, .slice none 0 0, .slice none 0 0, .int .i64 0, .int .i64 0, .int .u64 0, .int .u64 0] ty_ref22_Trace)) := by
  have e1 := fun (H' : Hp) (L' : List Prt) (q : Nat) (h' : St H0 L' H') => h'.row (H' := _) (Own.nil q) ((Goes.refl Nothing _).less fun c hc => absurd hc blk_none)
  have g2 := h.say (p := (newTr node last).ok c.a0 ∧ RRel (newTr node last) ⟨none, 0, none, 0, none, 0, none, 0, [], [], [], 0, 0, 0, 0, ty_ref22_Trace⟩) ⟨newTr_ok, RRel.off rfl⟩
  have g3 := e1 _ _ 5 (e1 _ _ 1 (e1 _ _ 1 (e1 _ _ 1 g2)))
  have g6 := g3.alloc (o := .cells #[.int .i64 c.a0, .int .i64 c.a1, .int .i64 c.a2, .int .i64 c.a3, .int .i64 c.a4, .int .i64 c.a5, .int .i64 c.a6, .int .i64 c.a7, .int .i64 c.a8, .int .i64 c.a9, .int .i64 c.a10, .int .u64 c.a11, .int .u64 c.a12, .int .u64 c.a13, .int .u64 c.a14, .int .u64 c.a15, .int .u64 c.a16, .int .i64 c.a17, .int .i64 c.a18, .int .i64 c.a19, .int .u64 c.a20, .int .u64 c.a21, .int .i64 node, .int .i64 0, .int .u64 last, .int .i64 0, .slice none 0 0, .slice none 0 0, .slice none 0 0, .slice none 0 0, .int .i64 0, .int .i64 0, .int .u64 0, .int .u64 0] ty_ref22_Trace) hb
  exact St.gatherEx (M := fun x => rtRaw rb c (newTr node last) x ((newTr node last).ok c.a0 ∧ RRel (newTr node last) x)) ⟨none, 0, none, 0, none, 0, none, 0, [], [], [], 0, 0, 0, 0, ty_ref22_Trace⟩ g6
theorem rNewC {node last : Int} (hg : c.good) (h : St H0 L H)
    (hno : (node < 1 ∨ node > c.a0 ∨ last > 72057594037927935) → ∀ H', St H0 L H' → K (.pointer none) H')
    (hK : 1 ≤ node ∧ node ≤ c.a0 → last ≤ 72057594037927935 → ∀ rb H', St H0 (RtP rb c (newTr node last) :: L) H' → K (.pointer (some ⟨rb, 0, none⟩)) H') :
    hcall PR f_ref22_New ⟨[c.val, .int .i64 node, .int .u64 last]⟩ H K := by
  apply den_ref22_New
  unfold B_ref22_New
  intro b25 hb25
  have g1 := h.alloc (o := .cells #[.int .i64 c.a0, .int .i64 c.a1, .int .i64 c.a2, .int .i64 c.a3, .int .i64 c.a4, .int .i64 c.a5, .int .i64 c.a6, .int .i64 c.a7, .int .i64 c.a8, .int .i64 c.a9, .int .i64 c.a10, .int .u64 c.a11, .int .u64 c.a12, .int .u64 c.a13, .int .u64 c.a14, .int .u64 c.a15, .int .u64 c.a16, .int .i64 c.a17, .int .i64 c.a18, .int .i64 c.a19, .int .u64 c.a20, .int .u64 c.a21] ty_api_Config) hb25
  refine ldI_of (g1.cell (i := 0) rfl rfl) (ldI_of (g1.cell (i := 0) rfl rfl) (ldI_of (g1.cell (i := 0) rfl rfl) (ldI_of (g1.cell (i := 0) rfl rfl) (ldI_of (g1.cell (i := 0) rfl rfl) (ldI_of (g1.cell (i := 0) rfl rfl) (ldI_of (g1.cell (i := 0) rfl rfl) (ldI_of (g1.cell (i := 0) rfl rfl) (ldI_of (g1.cell (i := 0) rfl rfl) (ldI_of (g1.cell (i := 0) rfl rfl) (ldI_of (g1.cell (i := 0) rfl rfl) (ldI_of (g1.cell (i := 0) rfl rfl) (ldI_of (g1.cell (i := 0) rfl rfl) (ldI_of (g1.cell (i := 0) rfl rfl) (ldI_of (g1.cell (i := 0) rfl rfl) (ldI_of (g1.cell (i := 0) rfl rfl) (ldI_of (g1.cell (i := 0) rfl rfl) (ldI_of (g1.cell (i := 0) rfl rfl) (ldI_of (g1.cell (i := 0) rfl rfl) (ldI_of (g1.cell (i := 0) rfl rfl) (ldI_of (g1.cell (i := 0) rfl rfl) (ldI_of (g1.cell (i := 0) rfl rfl) (?_))))))))))))))))))))))
  refine mayC hg g1 fun H2 g2 => ?_
  (try simp only [asI_mk', asB_mk, asP_mk, asA_mk, asM_mk, asSl_mk, asStr_mk, tup2_mk, tup3_mk, agg1_mk, agg2_mk, agg3_mk, agg4_mk, asAggm, unCons_mk, unNil_mk, asTup_mk, extractD0, extractD1, List.toList_toArray, nilP_mk, add_mk, Nat.zero_add, Nat.add_zero, condT, condF, Bool.not_true, Bool.not_false, Option.isNone_some, Option.isNone_none])
  by_cases h1 : node < 1
  · exact bif_pos h1 (hno (.inl h1) H2 g2.less)
  refine bif_neg h1 (ldI_of (g2.cell (i := 0) rfl rfl) ?_)
  by_cases h2 : node > c.a0
  · exact bif_pos h2 (hno (.inr (.inl h2)) H2 g2.less)
  refine bif_neg h2 ?_
  by_cases h3 : last > 72057594037927935
  · exact bif_pos h3 (hno (.inr (.inr h3)) H2 g2.less)
  refine bif_neg h3 ?_
  refine ldI_of (g2.cell (i := 0) rfl rfl) (ldI_of (g2.cell (i := 0) rfl rfl) (ldI_of (g2.cell (i := 0) rfl rfl) (ldI_of (g2.cell (i := 0) rfl rfl) (ldI_of (g2.cell (i := 0) rfl rfl) (ldI_of (g2.cell (i := 0) rfl rfl) (ldI_of (g2.cell (i := 0) rfl rfl) (ldI_of (g2.cell (i := 0) rfl rfl) (ldI_of (g2.cell (i := 0) rfl rfl) (ldI_of (g2.cell (i := 0) rfl rfl) (ldI_of (g2.cell (i := 0) rfl rfl) (ldI_of (g2.cell (i := 0) rfl rfl) (ldI_of (g2.cell (i := 0) rfl rfl) (ldI_of (g2.cell (i := 0) rfl rfl) (ldI_of (g2.cell (i := 0) rfl rfl) (ldI_of (g2.cell (i := 0) rfl rfl) (ldI_of (g2.cell (i := 0) rfl rfl) (ldI_of (g2.cell (i := 0) rfl rfl) (ldI_of (g2.cell (i := 0) rfl rfl) (ldI_of (g2.cell (i := 0) rfl rfl) (ldI_of (g2.cell (i := 0) rfl rfl) (ldI_of (g2.cell (i := 0) rfl rfl) (?_))))))))))))))))))))))
  intro b75 hb75
  refine hK ⟨by omega, by omega⟩ (by omega) b75 _ ?_
  exact St.less (St.flip (rMake (c := c) (node := node) (last := last) g2 hb75))
end
end Go.Proofs.Ytknejebggegfjaa
