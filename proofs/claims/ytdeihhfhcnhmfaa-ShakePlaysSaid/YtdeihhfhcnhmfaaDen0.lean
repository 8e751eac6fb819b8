/- PRINTED by gen.py: functions as plain propositions, held against the program by the kernel. No condition. -/
import Derived.Test.YtdeihhfhcnhmfaaDenN
namespace Go.Proofs.Ytdeihhfhcnhmfaa
open Go
set_option linter.unusedVariables false
set_option maxRecDepth 100000

def B_law10_GreyBack (most1 : Int) (lP2 : Option Addr) (lL3 : Nat) (lC4 : Nat) (H : Hp) (K : Value → Hp → Prop) : Prop :=
 hcall PR f_hand_Pick ⟨[(.int .i64 most1), (.int .i64 64)]⟩ H fun v5 Hx6 =>
 asI .i64 v5 fun t7 =>
 hcall PR f_grey_New_string ⟨[(.int .i64 (IntKind.i64.wrap (1 + t7)))]⟩ Hx6 fun v8 Hx9 =>
 tup2 v8 fun v10 v11 =>
 asP v10 fun t12 =>
 asI .i64 v11 fun t13 =>
 hcall PR f_law10_known ⟨[]⟩ Hx9 fun v14 Hx15 =>
 asB v14 fun t16 =>
 (bif (!t16) then
 K (.bool false) Hx15
else
 (bif ((t13 : Int) != 0) then
 K (.bool false) Hx15
else
 (bif (Option.isNone (α := Addr) t12) then
 K (.bool false) Hx15
else
 ∃ (I17 : Int → Hp → Prop) (m18 : Int → Hp → Nat), I17 0 Hx15 ∧ ∀ i20 : Int, ∀ Hx19 : Hp, I17 i20 Hx19 →
 (bif (decide ((i20 : Int) < (lL3 : Int))) then
 idxA lP2 lL3 i20 1 fun el21 =>
 ldStr el21 Hx19 fun t22 =>
 hcall PR f_grey_Stack_string_Push ⟨[(.pointer t12), (.string t22)]⟩ Hx19 fun v23 Hx24 =>
 asB v23 fun t25 =>
 (bif (!(t25 == (decide ((i20 : Int) < (IntKind.i64.wrap (1 + t7)))))) then
 K (.bool false) Hx24
else
 hcall PR f_grey_Stack_string_Over ⟨[(.pointer t12)]⟩ Hx24 fun v26 Hx27 =>
 asB v26 fun t28 =>
 (bif (!(t28 == (decide ((i20 : Int) ≥ (IntKind.i64.wrap (1 + t7)))))) then
 K (.bool false) Hx27
else
 I17 (IntKind.i64.wrap (i20 + 1)) Hx27 ∧ m18 (IntKind.i64.wrap (i20 + 1)) Hx27 < m18 i20 Hx19))
else
 ∃ (I29 : Int → Hp → Prop) (m30 : Int → Hp → Nat), I29 (IntKind.i64.wrap ((if (IntKind.i64.wrap (1 + t7)) < (lL3 : Int) then (IntKind.i64.wrap (1 + t7)) else (lL3 : Int)) - 1)) Hx19 ∧ ∀ i32 : Int, ∀ Hx31 : Hp, I29 i32 Hx31 →
 (bif (decide ((i32 : Int) ≥ 0)) then
 hcall PR f_grey_Stack_string_Pop ⟨[(.pointer t12)]⟩ Hx31 fun v33 Hx34 =>
 tup2 v33 fun v35 v36 =>
 asStr v35 fun t37 =>
 asB v36 fun t38 =>
 (bif (!t38) then
 K (.bool false) Hx34
else
 idxA lP2 lL3 i32 1 fun el39 =>
 ldStr el39 Hx34 fun t40 =>
 (bif (!((t37 : ByteArray).toList == (t40 : ByteArray).toList)) then
 K (.bool false) Hx34
else
 I29 (IntKind.i64.wrap (i32 - 1)) Hx34 ∧ m30 (IntKind.i64.wrap (i32 - 1)) Hx34 < m30 i32 Hx31))
else
 hcall PR f_grey_Stack_string_Pop ⟨[(.pointer t12)]⟩ Hx31 fun v41 Hx42 =>
 tup2 v41 fun v43 v44 =>
 asStr v43 fun t45 =>
 asB v44 fun t46 =>
 (bif (!t46) then
 hcall PR f_grey_Stack_string_Over ⟨[(.pointer t12)]⟩ Hx42 fun v47 Hx48 =>
 asB v47 fun t49 =>
 K (.bool (t49 == (decide (((lL3 : Int) : Int) > (IntKind.i64.wrap (1 + t7)))))) Hx48
else
 K (.bool false) Hx42))))))
theorem E_law10_GreyBack (most1 : Int) (lP2 : Option Addr) (lL3 : Nat) (lC4 : Nat) (H : Hp) (K : Value → Hp → Prop) : B_law10_GreyBack most1 lP2 lL3 lC4 H K = denF Try.prog Try.f3 (.seq none .n (.seq none .n (.seq none .n (.seq none .n (.seq none (.seq none .n (.sub (.loop ⟨[(7, .int .i64)], [0, 1, 5]⟩ .n))) (.seq none (.seq none .n (.sub (.loop ⟨[(8, .int .i64)], [0, 1, 5]⟩ .n))) .n)))))) [(.int .i64 most1), (.slice lP2 lL3 lC4)] H K := by kernel_rfl
theorem den_law10_GreyBack {most1 : Int} {lP2 : Option Addr} {lL3 : Nat} {lC4 : Nat} {H : Hp} {K : Value → Hp → Prop} (h : B_law10_GreyBack most1 lP2 lL3 lC4 H K) : hcall PR f_law10_GreyBack ⟨[(.int .i64 most1), (.slice lP2 lL3 lC4)]⟩ H K := denF_call Try.func3 PR_mixed (Eq.mp (E_law10_GreyBack most1 lP2 lL3 lC4 H K) h)

def B_law10_GreyKnown  (H : Hp) (K : Value → Hp → Prop) : Prop :=
 hcall PR f_grey_New_int ⟨[(.int .i64 0)]⟩ H fun v1 Hx2 =>
 tup2 v1 fun v3 v4 =>
 asP v3 fun t5 =>
 asI .i64 v4 fun t6 =>
 hcall PR f_grey_New_string ⟨[(.int .i64 65)]⟩ Hx2 fun v7 Hx8 =>
 tup2 v7 fun v9 v10 =>
 asP v9 fun t11 =>
 asI .i64 v10 fun t12 =>
 hcall PR f_grey_New_string ⟨[(.int .i64 1)]⟩ Hx8 fun v13 Hx14 =>
 tup2 v13 fun v15 v16 =>
 asP v15 fun t17 =>
 asI .i64 v16 fun t18 =>
 hcall PR f_law10_known ⟨[]⟩ Hx14 fun v19 Hx20 =>
 asB v19 fun t21 =>
 (bif (!t21) then
 K (.bool false) Hx20
else
 (bif ((t6 : Int) != 1) then
 K (.bool false) Hx20
else
 (bif ((t12 : Int) != 1) then
 K (.bool false) Hx20
else
 (bif ((t18 : Int) != 0) then
 K (.bool false) Hx20
else
 (bif (Option.isNone (α := Addr) t17) then
 K (.bool false) Hx20
else
 hcall PR f_grey_Stack_string_Push ⟨[(.pointer t17), (.string ⟨#[97]⟩)]⟩ Hx20 fun v22 Hx23 =>
 asB v22 fun t24 =>
 hcall PR f_grey_Stack_string_Push ⟨[(.pointer t17), (.string ⟨#[98]⟩)]⟩ Hx23 fun v25 Hx26 =>
 asB v25 fun t27 =>
 hcall PR f_grey_Stack_string_Over ⟨[(.pointer t17)]⟩ Hx26 fun v28 Hx29 =>
 asB v28 fun t30 =>
 hcall PR f_grey_Stack_string_Rest ⟨[(.pointer t17)]⟩ Hx29 fun v31 Hx32 =>
 hcall PR f_grey_Stack_string_Over ⟨[(.pointer t17)]⟩ Hx32 fun v33 Hx34 =>
 asB v33 fun t35 =>
 hcall PR f_grey_Stack_string_All ⟨[(.pointer t17)]⟩ Hx34 fun v36 Hx37 =>
 asSl v36 fun tP38 tL39 tC40 =>
 hcall PR f_grey_Stack_string_Clear ⟨[(.pointer t17)]⟩ Hx37 fun v41 Hx42 =>
 hcall PR f_grey_Stack_string_Pop ⟨[(.pointer t17)]⟩ Hx42 fun v43 Hx44 =>
 tup2 v43 fun v45 v46 =>
 asStr v45 fun t47 =>
 asB v46 fun t48 =>
 (bif t30 then
 (bif (!t35) then
 (bif (((tL39 : Int) : Int) == 1) then
 idxA tP38 tL39 0 1 fun el49 =>
 ldStr el49 Hx44 fun t50 =>
 (bif ((t50 : ByteArray).toList == (⟨#[97]⟩ : ByteArray).toList) then
 (bif ((t47 : ByteArray).toList == (⟨#[]⟩ : ByteArray).toList) then
 (bif (!t48) then
 hcall PR f_grey_Stack_string_Len ⟨[(.pointer t17)]⟩ Hx44 fun v51 Hx52 =>
 asI .i64 v51 fun t53 =>
 K (.bool ((t53 : Int) == 0)) Hx52
else
 K (.bool false) Hx44)
else
 K (.bool false) Hx44)
else
 K (.bool false) Hx44)
else
 K (.bool false) Hx44)
else
 K (.bool false) Hx44)
else
 K (.bool false) Hx44))))))
theorem E_law10_GreyKnown  (H : Hp) (K : Value → Hp → Prop) : B_law10_GreyKnown  H K = denF Try.prog Try.f4 .n [] H K := by kernel_rfl
theorem den_law10_GreyKnown  {H : Hp} {K : Value → Hp → Prop} (h : B_law10_GreyKnown  H K) : hcall PR f_law10_GreyKnown ⟨[]⟩ H K := denF_call Try.func4 PR_mixed (Eq.mp (E_law10_GreyKnown  H K) h)

def B_law10_GreyPlays (most1 : Int) (lP2 : Option Addr) (lL3 : Nat) (lC4 : Nat) (H : Hp) (K : Value → Hp → Prop) : Prop :=
 hcall PR f_grey_New_int ⟨[(.int .i64 most1)]⟩ H fun v5 Hx6 =>
 tup2 v5 fun v7 v8 =>
 asP v7 fun t9 =>
 asI .i64 v8 fun t10 =>
 hcall PR f_law10_known ⟨[]⟩ Hx6 fun v11 Hx12 =>
 asB v11 fun t13 =>
 (bif (!t13) then
 K (.bool false) Hx12
else
 (bif (decide ((most1 : Int) < 1)) then
 (bif ((t10 : Int) == 1) then
 K (.bool (Option.isNone (α := Addr) t9)) Hx12
else
 K (.bool false) Hx12)
else
 (bif (decide ((most1 : Int) > 64)) then
 (bif ((t10 : Int) == 1) then
 K (.bool (Option.isNone (α := Addr) t9)) Hx12
else
 K (.bool false) Hx12)
else
 (bif ((t10 : Int) != 0) then
 K (.bool false) Hx12
else
 (bif (Option.isNone (α := Addr) t9) then
 K (.bool false) Hx12
else
 newB (.cells #[(.int .i64 most1), (.slice none 0 0), (.bool false)] ty_ref4_IntStack) Hx12 fun b14 Hx15 =>
 ∀ R16 : Hp → Prop, (∀ Hx17 : Hp, (
 hcall PR f_grey_Stack_int_All ⟨[(.pointer t9)]⟩ Hx17 fun v18 Hx19 =>
 asSl v18 fun tP20 tL21 tC22 =>
 ldSl ⟨b14, 1, none⟩ Hx19 fun LP23 LL24 LC25 =>
 hcall PR f_law10_ints ⟨[(.slice tP20 tL21 tC22), (.slice LP23 LL24 LC25)]⟩ Hx19 fun v26 Hx27 =>
 asB v26 fun t28 =>
 ∃ (I29 : Int → Hp → Prop) (m30 : Int → Hp → Nat), I29 0 Hx27 ∧ ∀ i32 : Int, ∀ Hx31 : Hp, I29 i32 Hx31 →
 (bif (decide ((i32 : Int) < (tL21 : Int))) then
 idxA tP20 tL21 i32 1 fun el33 =>
 st el33 (.int .i64 (-77)) Hx31 fun Hx34 =>
 I29 (IntKind.i64.wrap (i32 + 1)) Hx34 ∧ m30 (IntKind.i64.wrap (i32 + 1)) Hx34 < m30 i32 Hx31
else
 (bif t28 then
 ldSl ⟨b14, 1, none⟩ Hx31 fun LP35 LL36 LC37 =>
 hcall PR f_grey_Stack_int_All ⟨[(.pointer t9)]⟩ Hx31 fun v38 Hx39 =>
 asSl v38 fun tP40 tL41 tC42 =>
 (ldSl ⟨b14, 1, none⟩ Hx39 fun LP43 LL44 LC45 =>
 ((.slice LP43 LL44 LC45) : Value) = (.slice LP35 LL36 LC37)) ∧
 hcall PR f_law10_ints ⟨[(.slice tP40 tL41 tC42), (.slice LP35 LL36 LC37)]⟩ Hx39 fun v46 Hx47 =>
 asB v46 fun t48 =>
 K (.bool t48) Hx47
else
 K (.bool false) Hx31))) → R16 Hx17) →
 ∃ (I49 : Int → Hp → Prop) (m50 : Int → Hp → Nat), I49 0 Hx15 ∧ ∀ i52 : Int, ∀ Hx51 : Hp, I49 i52 Hx51 →
 (bif (decide ((i52 : Int) < (lL3 : Int))) then
 (bif (decide ((i52 : Int) < 2000)) then
 ∀ R53 : Bool → Hp → Prop, (∀ ok55 : Bool, ∀ Hx54 : Hp, (
 (bif (!ok55) then
 K (.bool false) Hx54
else
 ldSl ⟨b14, 1, none⟩ Hx54 fun LP56 LL57 LC58 =>
 hcall PR f_grey_Stack_int_Len ⟨[(.pointer t9)]⟩ Hx54 fun v59 Hx60 =>
 asI .i64 v59 fun t61 =>
 (ldSl ⟨b14, 1, none⟩ Hx60 fun LP62 LL63 LC64 =>
 ((.slice LP62 LL63 LC64) : Value) = (.slice LP56 LL57 LC58)) ∧
 (bif ((t61 : Int) != (LL57 : Int)) then
 K (.bool false) Hx60
else
 ldB ⟨b14, 2, none⟩ Hx60 fun Over65 =>
 hcall PR f_grey_Stack_int_Over ⟨[(.pointer t9)]⟩ Hx60 fun v66 Hx67 =>
 asB v66 fun t68 =>
 (ldB ⟨b14, 2, none⟩ Hx67 fun Over69 =>
 ((.bool Over69) : Value) = (.bool Over65)) ∧
 (bif (!(t68 == Over65)) then
 K (.bool false) Hx67
else
 I49 (IntKind.i64.wrap (i52 + 1)) Hx67 ∧ m50 (IntKind.i64.wrap (i52 + 1)) Hx67 < m50 i52 Hx51)))) → R53 ok55 Hx54) →
 idxA lP2 lL3 i52 1 fun el70 =>
 ldI .i64 el70 Hx51 fun t71 =>
 hcall PR f_hand_Pick ⟨[(.int .i64 t71), (.int .i64 12)]⟩ Hx51 fun v72 Hx73 =>
 asI .i64 v72 fun t74 =>
 ∀ R75 : Bool → Hp → Prop, (∀ t77 : Bool, ∀ Hx76 : Hp, (
 (bif t77 then
 hcall PR f_grey_Stack_int_Pop ⟨[(.pointer t9)]⟩ Hx76 fun v78 Hx79 =>
 tup2 v78 fun v80 v81 =>
 asI .i64 v80 fun t82 =>
 asB v81 fun t83 =>
 hcall PR f_ref4_IntStack_Pop ⟨[(.pointer (some ⟨b14, 0, none⟩))]⟩ Hx79 fun v84 Hx85 =>
 tup2 v84 fun v86 v87 =>
 asI .i64 v86 fun t88 =>
 asB v87 fun t89 =>
 (bif ((t82 : Int) == t88) then
 R53 (t83 == t89) Hx85
else
 R53 false Hx85)
else
 (bif ((t74 : Int) == 4) then
 hcall PR f_grey_Stack_int_Rest ⟨[(.pointer t9)]⟩ Hx76 fun v90 Hx91 =>
 st ⟨b14, 2, none⟩ (.bool false) Hx91 fun Hx92 =>
 R53 true Hx92
else
 (bif ((t74 : Int) == 5) then
 idxA lP2 lL3 i52 1 fun el93 =>
 ldI .i64 el93 Hx76 fun t94 =>
 (24 : Int) ≠ 0 ∧
 (bif (((Int.tmod t94 24) : Int) == 5) then
 hcall PR f_grey_Stack_int_Clear ⟨[(.pointer t9)]⟩ Hx76 fun v95 Hx96 =>
 st ⟨b14, 1, none⟩ (.slice none 0 0) Hx96 fun Hx97 =>
 st ⟨b14, 2, none⟩ (.bool false) Hx97 fun Hx98 =>
 R53 true Hx98
else
 R53 true Hx76)
else
 idxA lP2 lL3 i52 1 fun el99 =>
 ldI .i64 el99 Hx76 fun t100 =>
 idxA lP2 lL3 i52 1 fun el101 =>
 ldI .i64 el101 Hx76 fun t102 =>
 hcall PR f_grey_Stack_int_Push ⟨[(.pointer t9), (.int .i64 t100)]⟩ Hx76 fun v103 Hx104 =>
 asB v103 fun t105 =>
 (ldI .i64 el101 Hx104 fun t106 =>
 ((.int .i64 t106) : Value) = (.int .i64 t102)) ∧
 hcall PR f_ref4_IntStack_Push ⟨[(.pointer (some ⟨b14, 0, none⟩)), (.int .i64 t102)]⟩ Hx104 fun v107 Hx108 =>
 asB v107 fun t109 =>
 R53 (t105 == t109) Hx108)))) → R75 t77 Hx76) →
 (bif ((t74 : Int) == 0) then
 R75 ((t74 : Int) == 0) Hx73
else
 (bif ((t74 : Int) == 1) then
 R75 ((t74 : Int) == 1) Hx73
else
 (bif ((t74 : Int) == 2) then
 R75 ((t74 : Int) == 2) Hx73
else
 R75 ((t74 : Int) == 3) Hx73)))
else
 R16 Hx51)
else
 R16 Hx51))))))
theorem E_law10_GreyPlays (most1 : Int) (lP2 : Option Addr) (lL3 : Nat) (lC4 : Nat) (H : Hp) (K : Value → Hp → Prop) : B_law10_GreyPlays most1 lP2 lL3 lC4 H K = denF Try.prog Try.f5 (.seq none .n (.seq none .n (.seq none .n (.seq none .n (.seq none .n (.seq none .n (.seq (some ⟨[], [5, 7]⟩) (.seq none .n (.sub (.loop ⟨[(8, .int .i64)], [1, 5, 7]⟩ (.seq none .n (.seq none (.sub (.seq none .n (.seq (some ⟨[(9, .bool)], [1, 5, 7, 8]⟩) (.seq none .n (.sub (.seq (some ⟨[(73, .bool)], [1, 5, 7, 8, 9, 59]⟩) .n .n))) .n))) .n))))) (.seq none .n (.seq none .n (.seq none (.seq none .n (.sub (.loop ⟨[(16, .int .i64)], [5, 7, 14, 15]⟩ .n))) .n)))))))))) [(.int .i64 most1), (.slice lP2 lL3 lC4)] H K := by kernel_rfl
theorem den_law10_GreyPlays {most1 : Int} {lP2 : Option Addr} {lL3 : Nat} {lC4 : Nat} {H : Hp} {K : Value → Hp → Prop} (h : B_law10_GreyPlays most1 lP2 lL3 lC4 H K) : hcall PR f_law10_GreyPlays ⟨[(.int .i64 most1), (.slice lP2 lL3 lC4)]⟩ H K := denF_call Try.func5 PR_mixed (Eq.mp (E_law10_GreyPlays most1 lP2 lL3 lC4 H K) h)

def B_law7_ArenaClasses (size1 : Int) (H : Hp) (K : Value → Hp → Prop) : Prop :=
 hcall PR f_arena_Class ⟨[(.int .i64 size1)]⟩ H fun v2 Hx3 =>
 asI .i64 v2 fun t4 =>
 hcall PR f_law7_known ⟨[]⟩ Hx3 fun v5 Hx6 =>
 asB v5 fun t7 =>
 (bif t7 then
 hcall PR f_ref7_Class ⟨[(.int .i64 size1)]⟩ Hx6 fun v8 Hx9 =>
 asI .i64 v8 fun t10 =>
 (bif ((t4 : Int) == t10) then
 (bif (decide ((size1 : Int) < 1)) then
 (bif (((t4 : Int) == 0) == true) then
 (bif ((t4 : Int) == 0) then
 K (.bool true) Hx9
else
 (bif (decide ((t4 : Int) ≥ size1)) then
 K (.bool (decide ((t4 : Int) < (IntKind.i64.wrap (2 * size1))))) Hx9
else
 K (.bool false) Hx9))
else
 K (.bool false) Hx9)
else
 (bif (((t4 : Int) == 0) == (decide ((size1 : Int) > 16))) then
 (bif ((t4 : Int) == 0) then
 K (.bool true) Hx9
else
 (bif (decide ((t4 : Int) ≥ size1)) then
 K (.bool (decide ((t4 : Int) < (IntKind.i64.wrap (2 * size1))))) Hx9
else
 K (.bool false) Hx9))
else
 K (.bool false) Hx9))
else
 K (.bool false) Hx9)
else
 K (.bool false) Hx6)
theorem E_law7_ArenaClasses (size1 : Int) (H : Hp) (K : Value → Hp → Prop) : B_law7_ArenaClasses size1 H K = denF Try.prog Try.f6 .n [(.int .i64 size1)] H K := by kernel_rfl
theorem den_law7_ArenaClasses {size1 : Int} {H : Hp} {K : Value → Hp → Prop} (h : B_law7_ArenaClasses size1 H K) : hcall PR f_law7_ArenaClasses ⟨[(.int .i64 size1)]⟩ H K := denF_call Try.func6 PR_mixed (Eq.mp (E_law7_ArenaClasses size1 H K) h)

def B_law12_ShakeAny (mutators1 : Int) (orderP2 : Option Addr) (orderL3 : Nat) (orderC4 : Nat) (H : Hp) (K : Value → Hp → Prop) : Prop :=
 hcall PR f_hand_Pick ⟨[(.int .i64 mutators1), (.int .i64 4)]⟩ H fun v5 Hx6 =>
 asI .i64 v5 fun t7 =>
 hcall PR f_shake_New ⟨[(.int .i64 (IntKind.i64.wrap (1 + t7)))]⟩ Hx6 fun v8 Hx9 =>
 tup2 v8 fun v10 v11 =>
 asP v10 fun t12 =>
 asI .i64 v11 fun t13 =>
 hcall PR f_law12_known ⟨[]⟩ Hx9 fun v14 Hx15 =>
 asB v14 fun t16 =>
 (bif (!t16) then
 K (.bool false) Hx15
else
 (bif ((t13 : Int) != 0) then
 K (.bool false) Hx15
else
 (bif (Option.isNone (α := Addr) t12) then
 K (.bool false) Hx15
else
 hcall PR f_shake_Shake_Begin ⟨[(.pointer t12)]⟩ Hx15 fun v17 Hx18 =>
 asI .i64 v17 fun t19 =>
 (bif ((t19 : Int) != 0) then
 K (.bool false) Hx18
else
 ∃ (I20 : Int → Hp → Prop) (m21 : Int → Hp → Nat), I20 0 Hx18 ∧ ∀ round23 : Int, ∀ Hx22 : Hp, I20 round23 Hx22 →
 (bif (decide ((round23 : Int) < 2)) then
 ∃ (I24 : Option Addr → Nat → Nat → Int → Hp → Prop) (m25 : Option Addr → Nat → Nat → Int → Hp → Nat), I24 none 0 0 (IntKind.i64.wrap (round23 * 0)) Hx22 ∧ ∀ leftP27 : Option Addr, ∀ leftL28 : Nat, ∀ leftC29 : Nat, ∀ m30 : Int, ∀ Hx26 : Hp, I24 leftP27 leftL28 leftC29 m30 Hx26 →
 (bif (decide ((m30 : Int) < (IntKind.i64.wrap ((IntKind.i64.wrap (1 + t7)) + round23)))) then
 newB (.cells #[(.int .i64 m30)] ty_int) Hx26 fun b31 Hx32 =>
 evW PR (Builtin.append_ #[ty_Sint, ty_Sint] ty_Sint #[(.slice leftP27 leftL28 leftC29), (.slice (some ⟨b31, 0, none⟩) 1 1)]) Hx32 fun v33 Hx34 =>
 asSl v33 fun tP35 tL36 tC37 =>
 I24 tP35 tL36 tC37 (IntKind.i64.wrap (m30 + 1)) Hx34 ∧ m25 tP35 tL36 tC37 (IntKind.i64.wrap (m30 + 1)) Hx34 < m25 leftP27 leftL28 leftC29 m30 Hx26
else
 ∃ (I38 : Option Addr → Nat → Nat → Int → Hp → Prop) (m39 : Option Addr → Nat → Nat → Int → Hp → Nat), I38 leftP27 leftL28 leftC29 0 Hx26 ∧ ∀ leftP41 : Option Addr, ∀ leftL42 : Nat, ∀ leftC43 : Nat, ∀ i44 : Int, ∀ Hx40 : Hp, I38 leftP41 leftL42 leftC43 i44 Hx40 →
 (bif (decide (((leftL42 : Int) : Int) > 0)) then
 ∀ R45 : Int → Hp → Prop, (∀ k47 : Int, ∀ Hx46 : Hp, (
 ∀ R48 : Int → Hp → Prop, (∀ want50 : Int, ∀ Hx49 : Hp, (
 ∀ R51 : Hp → Prop, (∀ Hx52 : Hp, (
 slcD leftP41 leftL42 leftC43 none (some k47) 1 fun sP53 sL54 sC55 =>
 slcD leftP41 leftL42 leftC43 (some (IntKind.i64.wrap (k47 + 1))) none 1 fun sP56 sL57 sC58 =>
 newB (.cells #[] ty_int) Hx52 fun b59 Hx60 =>
 evW PR (Builtin.append_ #[ty_Sint, ty_Sint] ty_Sint #[(.slice (some ⟨b59, 0, none⟩) 0 0), (.slice sP53 sL54 sC55)]) Hx60 fun v61 Hx62 =>
 asSl v61 fun tP63 tL64 tC65 =>
 evW PR (Builtin.append_ #[ty_Sint, ty_Sint] ty_Sint #[(.slice tP63 tL64 tC65), (.slice sP56 sL57 sC58)]) Hx62 fun v66 Hx67 =>
 asSl v66 fun tP68 tL69 tC70 =>
 I38 tP68 tL69 tC70 (IntKind.i64.wrap (i44 + 1)) Hx67 ∧ m39 tP68 tL69 tC70 (IntKind.i64.wrap (i44 + 1)) Hx67 < m39 leftP41 leftL42 leftC43 i44 Hx40) → R51 Hx52) →
 idxA leftP41 leftL42 k47 1 fun el71 =>
 ldI .i64 el71 Hx49 fun t72 =>
 hcall PR f_shake_Shake_Answer ⟨[(.pointer t12), (.int .i64 t72)]⟩ Hx49 fun v73 Hx74 =>
 asI .i64 v73 fun t75 =>
 (bif ((t75 : Int) != want50) then
 K (.bool false) Hx74
else
 (bif (decide (((leftL42 : Int) : Int) > 1)) then
 idxA leftP41 leftL42 k47 1 fun el76 =>
 ldI .i64 el76 Hx74 fun t77 =>
 hcall PR f_shake_Shake_Answer ⟨[(.pointer t12), (.int .i64 t77)]⟩ Hx74 fun v78 Hx79 =>
 asI .i64 v78 fun t80 =>
 (bif ((t80 : Int) != 0) then
 K (.bool false) Hx79
else
 R51 Hx79)
else
 R51 Hx74))) → R48 want50 Hx49) →
 (bif ((round23 : Int) == 1) then
 R48 2 Hx46
else
 R48 1 Hx46)) → R45 k47 Hx46) →
 (bif (decide ((i44 : Int) < (orderL3 : Int))) then
 idxA orderP2 orderL3 i44 1 fun el81 =>
 ldI .i64 el81 Hx40 fun t82 =>
 hcall PR f_hand_Pick ⟨[(.int .i64 t82), (.int .i64 (leftL42 : Int))]⟩ Hx40 fun v83 Hx84 =>
 asI .i64 v83 fun t85 =>
 R45 t85 Hx84
else
 R45 0 Hx40)
else
 I20 (IntKind.i64.wrap (round23 + 1)) Hx40 ∧ m21 (IntKind.i64.wrap (round23 + 1)) Hx40 < m21 round23 Hx22))
else
 hcall PR f_shake_Shake_Phase ⟨[(.pointer t12)]⟩ Hx22 fun v86 Hx87 =>
 asI .i64 v86 fun t88 =>
 (bif ((t88 : Int) == 3) then
 hcall PR f_shake_Shake_End ⟨[(.pointer t12)]⟩ Hx87 fun v89 Hx90 =>
 asI .i64 v89 fun t91 =>
 (bif ((t91 : Int) == 0) then
 hcall PR f_shake_Shake_Phase ⟨[(.pointer t12)]⟩ Hx90 fun v92 Hx93 =>
 asI .i64 v92 fun t94 =>
 K (.bool ((t94 : Int) == 0)) Hx93
else
 K (.bool false) Hx90)
else
 K (.bool false) Hx87))))))
theorem E_law12_ShakeAny (mutators1 : Int) (orderP2 : Option Addr) (orderL3 : Nat) (orderC4 : Nat) (H : Hp) (K : Value → Hp → Prop) : B_law12_ShakeAny mutators1 orderP2 orderL3 orderC4 H K = denF Try.prog Try.f7 (.seq none .n (.seq none .n (.seq none .n (.seq none .n (.seq none (.seq none .n (.sub (.loop ⟨[(8, .int .i64)], [1, 5, 6]⟩ (.seq none .n (.seq none (.sub (.seq none .n (.seq none (.seq none .n (.sub (.loop ⟨[(9, .sl), (10, .int .i64)], [1, 5, 6, 8]⟩ .n))) (.seq none .n (.sub (.loop ⟨[(9, .sl), (11, .int .i64)], [1, 5, 6, 8]⟩ (.seq none .n (.seq none (.sub (.seq none .n (.seq (some ⟨[(12, .int .i64)], [1, 5, 6, 8, 9, 11]⟩) .n (.seq none .n (.seq (some ⟨[(13, .int .i64)], [1, 5, 6, 8, 9, 11, 12]⟩) .n (.seq (some ⟨[], [1, 5, 6, 8, 9, 11, 12]⟩) .n .n)))))) .n)))))))) .n))))) .n))))) [(.int .i64 mutators1), (.slice orderP2 orderL3 orderC4)] H K := by kernel_rfl
theorem den_law12_ShakeAny {mutators1 : Int} {orderP2 : Option Addr} {orderL3 : Nat} {orderC4 : Nat} {H : Hp} {K : Value → Hp → Prop} (h : B_law12_ShakeAny mutators1 orderP2 orderL3 orderC4 H K) : hcall PR f_law12_ShakeAny ⟨[(.int .i64 mutators1), (.slice orderP2 orderL3 orderC4)]⟩ H K := denF_call Try.func7 PR_mixed (Eq.mp (E_law12_ShakeAny mutators1 orderP2 orderL3 orderC4 H K) h)

def B_law12_ShakeKnown  (H : Hp) (K : Value → Hp → Prop) : Prop :=
 hcall PR f_shake_New ⟨[(.int .i64 0)]⟩ H fun v1 Hx2 =>
 tup2 v1 fun v3 v4 =>
 asP v3 fun t5 =>
 asI .i64 v4 fun t6 =>
 hcall PR f_shake_New ⟨[(.int .i64 5)]⟩ Hx2 fun v7 Hx8 =>
 tup2 v7 fun v9 v10 =>
 asP v9 fun t11 =>
 asI .i64 v10 fun t12 =>
 hcall PR f_shake_New ⟨[(.int .i64 1)]⟩ Hx8 fun v13 Hx14 =>
 tup2 v13 fun v15 v16 =>
 asP v15 fun t17 =>
 asI .i64 v16 fun t18 =>
 hcall PR f_law12_known ⟨[]⟩ Hx14 fun v19 Hx20 =>
 asB v19 fun t21 =>
 (bif (!t21) then
 K (.bool false) Hx20
else
 (bif ((t6 : Int) != 1) then
 K (.bool false) Hx20
else
 (bif ((t12 : Int) != 1) then
 K (.bool false) Hx20
else
 (bif ((t18 : Int) != 0) then
 K (.bool false) Hx20
else
 (bif (Option.isNone (α := Addr) t17) then
 K (.bool false) Hx20
else
 hcall PR f_shake_Shake_End ⟨[(.pointer t17)]⟩ Hx20 fun v22 Hx23 =>
 asI .i64 v22 fun t24 =>
 hcall PR f_shake_Shake_Begin ⟨[(.pointer t17)]⟩ Hx23 fun v25 Hx26 =>
 asI .i64 v25 fun t27 =>
 hcall PR f_shake_Shake_Begin ⟨[(.pointer t17)]⟩ Hx26 fun v28 Hx29 =>
 asI .i64 v28 fun t30 =>
 hcall PR f_shake_Shake_IsArmed ⟨[(.pointer t17), (.int .i64 1)]⟩ Hx29 fun v31 Hx32 =>
 asB v31 fun t33 =>
 hcall PR f_shake_Shake_Answer ⟨[(.pointer t17), (.int .i64 0)]⟩ Hx32 fun v34 Hx35 =>
 asI .i64 v34 fun t36 =>
 hcall PR f_shake_Shake_Answer ⟨[(.pointer t17), (.int .i64 0)]⟩ Hx35 fun v37 Hx38 =>
 asI .i64 v37 fun t39 =>
 hcall PR f_shake_Shake_Answer ⟨[(.pointer t17), (.int .i64 1)]⟩ Hx38 fun v40 Hx41 =>
 asI .i64 v40 fun t42 =>
 hcall PR f_shake_Shake_End ⟨[(.pointer t17)]⟩ Hx41 fun v43 Hx44 =>
 asI .i64 v43 fun t45 =>
 hcall PR f_shake_Shake_End ⟨[(.pointer t17)]⟩ Hx44 fun v46 Hx47 =>
 asI .i64 v46 fun t48 =>
 (bif ((t24 : Int) == 10) then
 (bif ((t30 : Int) == 10) then
 (bif t33 then
 (bif ((t45 : Int) == 0) then
 (bif ((t48 : Int) == 10) then
 hcall PR f_shake_Shake_IsArmed ⟨[(.pointer t17), (.int .i64 0)]⟩ Hx47 fun v49 Hx50 =>
 asB v49 fun t51 =>
 (bif (!t51) then
 hcall PR f_shake_Shake_IsArmed ⟨[(.pointer t17), (.int .i64 1)]⟩ Hx50 fun v52 Hx53 =>
 asB v52 fun t54 =>
 (bif (!t54) then
 K (.bool true) Hx53
else
 K (.bool false) Hx53)
else
 K (.bool false) Hx50)
else
 K (.bool false) Hx47)
else
 K (.bool false) Hx47)
else
 K (.bool false) Hx47)
else
 K (.bool false) Hx47)
else
 K (.bool false) Hx47))))))
theorem E_law12_ShakeKnown  (H : Hp) (K : Value → Hp → Prop) : B_law12_ShakeKnown  H K = denF Try.prog Try.f8 .n [] H K := by kernel_rfl
theorem den_law12_ShakeKnown  {H : Hp} {K : Value → Hp → Prop} (h : B_law12_ShakeKnown  H K) : hcall PR f_law12_ShakeKnown ⟨[]⟩ H K := denF_call Try.func8 PR_mixed (Eq.mp (E_law12_ShakeKnown  H K) h)

def B_law12_ShakePlays (mutators1 : Int) (lP2 : Option Addr) (lL3 : Nat) (lC4 : Nat) (H : Hp) (K : Value → Hp → Prop) : Prop :=
 hcall PR f_shake_New ⟨[(.int .i64 mutators1)]⟩ H fun v5 Hx6 =>
 tup2 v5 fun v7 v8 =>
 asP v7 fun t9 =>
 asI .i64 v8 fun t10 =>
 hcall PR f_law12_known ⟨[]⟩ Hx6 fun v11 Hx12 =>
 asB v11 fun t13 =>
 (bif (!t13) then
 K (.bool false) Hx12
else
 (bif (decide ((mutators1 : Int) < 1)) then
 (bif ((t10 : Int) == 1) then
 K (.bool (Option.isNone (α := Addr) t9)) Hx12
else
 K (.bool false) Hx12)
else
 (bif (decide ((mutators1 : Int) > 4)) then
 (bif ((t10 : Int) == 1) then
 K (.bool (Option.isNone (α := Addr) t9)) Hx12
else
 K (.bool false) Hx12)
else
 (bif ((t10 : Int) != 0) then
 K (.bool false) Hx12
else
 (bif (Option.isNone (α := Addr) t9) then
 K (.bool false) Hx12
else
 hcall PR f_ref11_NewShake ⟨[(.int .i64 mutators1)]⟩ Hx12 fun v14 Hx15 =>
 asP v14 fun t16 =>
 ∃ (I17 : Int → Hp → Prop) (m18 : Int → Hp → Nat), I17 0 Hx15 ∧ ∀ i20 : Int, ∀ Hx19 : Hp, I17 i20 Hx19 →
 (bif (decide ((i20 : Int) < (lL3 : Int))) then
 (bif (decide ((i20 : Int) < 300)) then
 idxA lP2 lL3 i20 1 fun el21 =>
 ldI .i64 el21 Hx19 fun t22 =>
 ∀ R23 : Bool → Hp → Prop, (∀ ok25 : Bool, ∀ Hx24 : Hp, (
 (bif (!ok25) then
 K (.bool false) Hx24
else
 nilP t16 fun ta26 =>
 ldI .i64 (ta26.add 1) Hx24 fun Phase27 =>
 hcall PR f_shake_Shake_Phase ⟨[(.pointer t9)]⟩ Hx24 fun v28 Hx29 =>
 asI .i64 v28 fun t30 =>
 (ldI .i64 (ta26.add 1) Hx29 fun Phase31 =>
 ((.int .i64 Phase31) : Value) = (.int .i64 Phase27)) ∧
 (bif ((t30 : Int) != Phase27) then
 K (.bool false) Hx29
else
 ∃ (I32 : Int → Hp → Prop) (m33 : Int → Hp → Nat), I32 (-1) Hx29 ∧ ∀ k35 : Int, ∀ Hx34 : Hp, I32 k35 Hx34 →
 (bif (decide ((k35 : Int) ≤ (IntKind.i64.wrap (mutators1 + 1)))) then
 nilP t16 fun ta36 =>
 ldSl (ta36.add 2) Hx34 fun ArmedP37 ArmedL38 ArmedC39 =>
 hcall PR f_shake_Shake_IsArmed ⟨[(.pointer t9), (.int .i64 k35)]⟩ Hx34 fun v40 Hx41 =>
 asB v40 fun t42 =>
 (ldSl (ta36.add 2) Hx41 fun ArmedP43 ArmedL44 ArmedC45 =>
 ((.slice ArmedP43 ArmedL44 ArmedC45) : Value) = (.slice ArmedP37 ArmedL38 ArmedC39)) ∧
 hcall PR f_ref11_Is ⟨[(.slice ArmedP37 ArmedL38 ArmedC39), (.int .i64 k35)]⟩ Hx41 fun v46 Hx47 =>
 asB v46 fun t48 =>
 (bif (!(t42 == t48)) then
 K (.bool false) Hx47
else
 nilP t16 fun ta49 =>
 ldSl (ta49.add 3) Hx47 fun ScannedP50 ScannedL51 ScannedC52 =>
 hcall PR f_shake_Shake_HasScanned ⟨[(.pointer t9), (.int .i64 k35)]⟩ Hx47 fun v53 Hx54 =>
 asB v53 fun t55 =>
 (ldSl (ta49.add 3) Hx54 fun ScannedP56 ScannedL57 ScannedC58 =>
 ((.slice ScannedP56 ScannedL57 ScannedC58) : Value) = (.slice ScannedP50 ScannedL51 ScannedC52)) ∧
 hcall PR f_ref11_Is ⟨[(.slice ScannedP50 ScannedL51 ScannedC52), (.int .i64 k35)]⟩ Hx54 fun v59 Hx60 =>
 asB v59 fun t61 =>
 (bif (!(t55 == t61)) then
 K (.bool false) Hx60
else
 I32 (IntKind.i64.wrap (k35 + 1)) Hx60 ∧ m33 (IntKind.i64.wrap (k35 + 1)) Hx60 < m33 k35 Hx34))
else
 I17 (IntKind.i64.wrap (i20 + 1)) Hx34 ∧ m18 (IntKind.i64.wrap (i20 + 1)) Hx34 < m18 i20 Hx19)))) → R23 ok25 Hx24) →
 idxA lP2 lL3 i20 1 fun el62 =>
 ldI .i64 el62 Hx19 fun t63 =>
 hcall PR f_hand_Pick ⟨[(.int .i64 t63), (.int .i64 12)]⟩ Hx19 fun v64 Hx65 =>
 asI .i64 v64 fun t66 =>
 (bif ((t66 : Int) == 0) then
 hcall PR f_shake_Shake_Begin ⟨[(.pointer t9)]⟩ Hx65 fun v67 Hx68 =>
 asI .i64 v67 fun t69 =>
 hcall PR f_ref11_Shake_Begin ⟨[(.pointer t16)]⟩ Hx68 fun v70 Hx71 =>
 asB v70 fun t72 =>
 R23 (((t69 : Int) == 0) == t72) Hx71
else
 (bif ((t66 : Int) == 1) then
 hcall PR f_shake_Shake_End ⟨[(.pointer t9)]⟩ Hx65 fun v73 Hx74 =>
 asI .i64 v73 fun t75 =>
 hcall PR f_ref11_Shake_End ⟨[(.pointer t16)]⟩ Hx74 fun v76 Hx77 =>
 asB v76 fun t78 =>
 R23 (((t75 : Int) == 0) == t78) Hx77
else
 ∀ R79 : Int → Hp → Prop, (∀ m81 : Int, ∀ Hx80 : Hp, (
 hcall PR f_shake_Shake_Answer ⟨[(.pointer t9), (.int .i64 m81)]⟩ Hx80 fun v82 Hx83 =>
 asI .i64 v82 fun t84 =>
 hcall PR f_ref11_Shake_Answer ⟨[(.pointer t16), (.int .i64 m81)]⟩ Hx83 fun v85 Hx86 =>
 asI .i64 v85 fun t87 =>
 R23 ((t84 : Int) == t87) Hx86) → R79 m81 Hx80) →
 (bif (decide ((t66 : Int) > 2)) then
 idxA lP2 lL3 i20 1 fun el88 =>
 ldI .i64 el88 Hx65 fun t89 =>
 (12 : Int) ≠ 0 ∧
 hcall PR f_hand_Pick ⟨[(.int .i64 (IntKind.i64.wrap (Int.tdiv t89 12))), (.int .i64 (IntKind.i64.wrap (mutators1 + 3)))]⟩ Hx65 fun v90 Hx91 =>
 asI .i64 v90 fun t92 =>
 R79 (IntKind.i64.wrap (t92 - 1)) Hx91
else
 R79 t22 Hx65)))
else
 K (.bool true) Hx19)
else
 K (.bool true) Hx19))))))
theorem E_law12_ShakePlays (mutators1 : Int) (lP2 : Option Addr) (lL3 : Nat) (lC4 : Nat) (H : Hp) (K : Value → Hp → Prop) : B_law12_ShakePlays mutators1 lP2 lL3 lC4 H K = denF Try.prog Try.f9 (.seq none .n (.seq none .n (.seq none .n (.seq none .n (.seq none .n (.seq none .n (.seq none (.seq none .n (.sub (.loop ⟨[(8, .int .i64)], [0, 1, 5, 7]⟩ (.seq none .n (.seq none (.sub (.seq none .n (.seq none .n (.seq (some ⟨[(10, .bool)], [0, 1, 5, 7, 8]⟩) (.seq none .n (.sub (.seq none .n (.two .n (.seq none .n (.two .n (.seq (some ⟨[(9, .int .i64)], [0, 1, 5, 7, 8]⟩) .n .n))))))) (.seq none .n (.seq none .n (.sub (.loop ⟨[(12, .int .i64)], [0, 1, 5, 7, 8]⟩ .n)))))))) .n))))) .n))))))) [(.int .i64 mutators1), (.slice lP2 lL3 lC4)] H K := by kernel_rfl
theorem den_law12_ShakePlays {mutators1 : Int} {lP2 : Option Addr} {lL3 : Nat} {lC4 : Nat} {H : Hp} {K : Value → Hp → Prop} (h : B_law12_ShakePlays mutators1 lP2 lL3 lC4 H K) : hcall PR f_law12_ShakePlays ⟨[(.int .i64 mutators1), (.slice lP2 lL3 lC4)]⟩ H K := denF_call Try.func9 PR_mixed (Eq.mp (E_law12_ShakePlays mutators1 lP2 lL3 lC4 H K) h)


end Go.Proofs.Ytdeihhfhcnhmfaa
