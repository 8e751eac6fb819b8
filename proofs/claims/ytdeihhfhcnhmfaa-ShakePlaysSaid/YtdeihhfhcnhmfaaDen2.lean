/- PRINTED by gen.py: functions as plain propositions, held against the program by the kernel. No condition. -/
import Derived.Test.YtdeihhfhcnhmfaaDenN
namespace Go.Proofs.Ytdeihhfhcnhmfaa
open Go
set_option linter.unusedVariables false
set_option maxRecDepth 100000

def B_grey_Stack_string_Push (s1 : Option Addr) (x2 : ByteArray) (H : Hp) (K : Value → Hp → Prop) : Prop :=
 nilP s1 fun sa3 =>
 ldSl sa3 H fun rowP4 rowL5 rowC6 =>
 nilP s1 fun sa7 =>
 ldI .i64 (sa7.add 1) H fun most8 =>
 (bif (decide (((rowL5 : Int) : Int) ≥ most8)) then
 nilP s1 fun sa9 =>
 st (sa9.add 2) (.bool true) H fun Hx10 =>
 K (.bool false) Hx10
else
 nilP s1 fun sa11 =>
 ldSl sa11 H fun rowP12 rowL13 rowC14 =>
 newB (.cells #[(.string x2)] ty_string) H fun b15 Hx16 =>
 evW PR (Builtin.append_ #[ty_Sstring, ty_Sstring] ty_Sstring #[(.slice rowP12 rowL13 rowC14), (.slice (some ⟨b15, 0, none⟩) 1 1)]) Hx16 fun v17 Hx18 =>
 asSl v17 fun tP19 tL20 tC21 =>
 nilP s1 fun sa22 =>
 st sa22 (.slice tP19 tL20 tC21) Hx18 fun Hx23 =>
 K (.bool true) Hx23)
theorem E_grey_Stack_string_Push (s1 : Option Addr) (x2 : ByteArray) (H : Hp) (K : Value → Hp → Prop) : B_grey_Stack_string_Push s1 x2 H K = denF Try.prog Try.f18 .n [(.pointer s1), (.string x2)] H K := by kernel_rfl
theorem den_grey_Stack_string_Push {s1 : Option Addr} {x2 : ByteArray} {H : Hp} {K : Value → Hp → Prop} (h : B_grey_Stack_string_Push s1 x2 H K) : hcall PR f_grey_Stack_string_Push ⟨[(.pointer s1), (.string x2)]⟩ H K := denF_call Try.func18 PR_mixed (Eq.mp (E_grey_Stack_string_Push s1 x2 H K) h)

def B_grey_Stack_string_Over (s1 : Option Addr) (H : Hp) (K : Value → Hp → Prop) : Prop :=
 nilP s1 fun sa2 =>
 ldB (sa2.add 2) H fun over3 =>
 K (.bool over3) H
theorem E_grey_Stack_string_Over (s1 : Option Addr) (H : Hp) (K : Value → Hp → Prop) : B_grey_Stack_string_Over s1 H K = denF Try.prog Try.f19 .n [(.pointer s1)] H K := by kernel_rfl
theorem den_grey_Stack_string_Over {s1 : Option Addr} {H : Hp} {K : Value → Hp → Prop} (h : B_grey_Stack_string_Over s1 H K) : hcall PR f_grey_Stack_string_Over ⟨[(.pointer s1)]⟩ H K := denF_call Try.func19 PR_mixed (Eq.mp (E_grey_Stack_string_Over s1 H K) h)

def B_grey_Stack_string_Pop (s1 : Option Addr) (H : Hp) (K : Value → Hp → Prop) : Prop :=
 nilP s1 fun sa2 =>
 ldSl sa2 H fun rowP3 rowL4 rowC5 =>
 (bif (((rowL4 : Int) : Int) == 0) then
 K (.tuple #[(.string ⟨#[]⟩), (.bool false)]) H
else
 nilP s1 fun sa6 =>
 ldSl sa6 H fun rowP7 rowL8 rowC9 =>
 nilP s1 fun sa10 =>
 ldSl sa10 H fun rowP11 rowL12 rowC13 =>
 idxA rowP11 rowL12 (IntKind.i64.wrap ((rowL8 : Int) - 1)) 1 fun el14 =>
 ldStr el14 H fun t15 =>
 nilP s1 fun sa16 =>
 ldSl sa16 H fun rowP17 rowL18 rowC19 =>
 slcD rowP17 rowL18 rowC19 none (some (IntKind.i64.wrap ((rowL8 : Int) - 1))) 1 fun sP20 sL21 sC22 =>
 nilP s1 fun sa23 =>
 st sa23 (.slice sP20 sL21 sC22) H fun Hx24 =>
 K (.tuple #[(.string t15), (.bool true)]) Hx24)
theorem E_grey_Stack_string_Pop (s1 : Option Addr) (H : Hp) (K : Value → Hp → Prop) : B_grey_Stack_string_Pop s1 H K = denF Try.prog Try.f20 .n [(.pointer s1)] H K := by kernel_rfl
theorem den_grey_Stack_string_Pop {s1 : Option Addr} {H : Hp} {K : Value → Hp → Prop} (h : B_grey_Stack_string_Pop s1 H K) : hcall PR f_grey_Stack_string_Pop ⟨[(.pointer s1)]⟩ H K := denF_call Try.func20 PR_mixed (Eq.mp (E_grey_Stack_string_Pop s1 H K) h)

def B_grey_New_int (most1 : Int) (H : Hp) (K : Value → Hp → Prop) : Prop :=
 (bif (decide ((most1 : Int) < 1)) then
 K (.tuple #[(.pointer none), (.int .i64 1)]) H
else
 (bif (decide ((most1 : Int) > 64)) then
 K (.tuple #[(.pointer none), (.int .i64 1)]) H
else
 newB (.cells #[(.slice none 0 0), (.int .i64 most1), (.bool false)] ty_grey_Stack_int) H fun b2 Hx3 =>
 K (.tuple #[(.pointer (some ⟨b2, 0, none⟩)), (.int .i64 0)]) Hx3))
theorem E_grey_New_int (most1 : Int) (H : Hp) (K : Value → Hp → Prop) : B_grey_New_int most1 H K = denF Try.prog Try.f21 .n [(.int .i64 most1)] H K := by kernel_rfl
theorem den_grey_New_int {most1 : Int} {H : Hp} {K : Value → Hp → Prop} (h : B_grey_New_int most1 H K) : hcall PR f_grey_New_int ⟨[(.int .i64 most1)]⟩ H K := denF_call Try.func21 PR_mixed (Eq.mp (E_grey_New_int most1 H K) h)

def B_grey_Stack_string_Rest (s1 : Option Addr) (H : Hp) (K : Value → Hp → Prop) : Prop :=
 nilP s1 fun sa2 =>
 st (sa2.add 2) (.bool false) H fun Hx3 =>
 K (.tuple #[]) Hx3
theorem E_grey_Stack_string_Rest (s1 : Option Addr) (H : Hp) (K : Value → Hp → Prop) : B_grey_Stack_string_Rest s1 H K = denF Try.prog Try.f22 .n [(.pointer s1)] H K := by kernel_rfl
theorem den_grey_Stack_string_Rest {s1 : Option Addr} {H : Hp} {K : Value → Hp → Prop} (h : B_grey_Stack_string_Rest s1 H K) : hcall PR f_grey_Stack_string_Rest ⟨[(.pointer s1)]⟩ H K := denF_call Try.func22 PR_mixed (Eq.mp (E_grey_Stack_string_Rest s1 H K) h)

def B_grey_Stack_string_All (s1 : Option Addr) (H : Hp) (K : Value → Hp → Prop) : Prop :=
 newB (.cells #[] ty_string) H fun b2 Hx3 =>
 nilP s1 fun sa4 =>
 ldSl sa4 Hx3 fun rowP5 rowL6 rowC7 =>
 evW PR (Builtin.append_ #[ty_Sstring, ty_Sstring] ty_Sstring #[(.slice (some ⟨b2, 0, none⟩) 0 0), (.slice rowP5 rowL6 rowC7)]) Hx3 fun v8 Hx9 =>
 asSl v8 fun tP10 tL11 tC12 =>
 K (.slice tP10 tL11 tC12) Hx9
theorem E_grey_Stack_string_All (s1 : Option Addr) (H : Hp) (K : Value → Hp → Prop) : B_grey_Stack_string_All s1 H K = denF Try.prog Try.f23 .n [(.pointer s1)] H K := by kernel_rfl
theorem den_grey_Stack_string_All {s1 : Option Addr} {H : Hp} {K : Value → Hp → Prop} (h : B_grey_Stack_string_All s1 H K) : hcall PR f_grey_Stack_string_All ⟨[(.pointer s1)]⟩ H K := denF_call Try.func23 PR_mixed (Eq.mp (E_grey_Stack_string_All s1 H K) h)

def B_grey_Stack_string_Clear (s1 : Option Addr) (H : Hp) (K : Value → Hp → Prop) : Prop :=
 nilP s1 fun sa2 =>
 st sa2 (.slice none 0 0) H fun Hx3 =>
 nilP s1 fun sa4 =>
 st (sa4.add 2) (.bool false) Hx3 fun Hx5 =>
 K (.tuple #[]) Hx5
theorem E_grey_Stack_string_Clear (s1 : Option Addr) (H : Hp) (K : Value → Hp → Prop) : B_grey_Stack_string_Clear s1 H K = denF Try.prog Try.f24 .n [(.pointer s1)] H K := by kernel_rfl
theorem den_grey_Stack_string_Clear {s1 : Option Addr} {H : Hp} {K : Value → Hp → Prop} (h : B_grey_Stack_string_Clear s1 H K) : hcall PR f_grey_Stack_string_Clear ⟨[(.pointer s1)]⟩ H K := denF_call Try.func24 PR_mixed (Eq.mp (E_grey_Stack_string_Clear s1 H K) h)

def B_grey_Stack_string_Len (s1 : Option Addr) (H : Hp) (K : Value → Hp → Prop) : Prop :=
 nilP s1 fun sa2 =>
 ldSl sa2 H fun rowP3 rowL4 rowC5 =>
 K (.int .i64 (rowL4 : Int)) H
theorem E_grey_Stack_string_Len (s1 : Option Addr) (H : Hp) (K : Value → Hp → Prop) : B_grey_Stack_string_Len s1 H K = denF Try.prog Try.f25 .n [(.pointer s1)] H K := by kernel_rfl
theorem den_grey_Stack_string_Len {s1 : Option Addr} {H : Hp} {K : Value → Hp → Prop} (h : B_grey_Stack_string_Len s1 H K) : hcall PR f_grey_Stack_string_Len ⟨[(.pointer s1)]⟩ H K := denF_call Try.func25 PR_mixed (Eq.mp (E_grey_Stack_string_Len s1 H K) h)

def B_grey_Stack_int_Pop (s1 : Option Addr) (H : Hp) (K : Value → Hp → Prop) : Prop :=
 nilP s1 fun sa2 =>
 ldSl sa2 H fun rowP3 rowL4 rowC5 =>
 (bif (((rowL4 : Int) : Int) == 0) then
 K (.tuple #[(.int .i64 0), (.bool false)]) H
else
 nilP s1 fun sa6 =>
 ldSl sa6 H fun rowP7 rowL8 rowC9 =>
 nilP s1 fun sa10 =>
 ldSl sa10 H fun rowP11 rowL12 rowC13 =>
 idxA rowP11 rowL12 (IntKind.i64.wrap ((rowL8 : Int) - 1)) 1 fun el14 =>
 ldI .i64 el14 H fun t15 =>
 nilP s1 fun sa16 =>
 ldSl sa16 H fun rowP17 rowL18 rowC19 =>
 slcD rowP17 rowL18 rowC19 none (some (IntKind.i64.wrap ((rowL8 : Int) - 1))) 1 fun sP20 sL21 sC22 =>
 nilP s1 fun sa23 =>
 st sa23 (.slice sP20 sL21 sC22) H fun Hx24 =>
 K (.tuple #[(.int .i64 t15), (.bool true)]) Hx24)
theorem E_grey_Stack_int_Pop (s1 : Option Addr) (H : Hp) (K : Value → Hp → Prop) : B_grey_Stack_int_Pop s1 H K = denF Try.prog Try.f26 .n [(.pointer s1)] H K := by kernel_rfl
theorem den_grey_Stack_int_Pop {s1 : Option Addr} {H : Hp} {K : Value → Hp → Prop} (h : B_grey_Stack_int_Pop s1 H K) : hcall PR f_grey_Stack_int_Pop ⟨[(.pointer s1)]⟩ H K := denF_call Try.func26 PR_mixed (Eq.mp (E_grey_Stack_int_Pop s1 H K) h)

def B_ref4_IntStack_Pop (s1 : Option Addr) (H : Hp) (K : Value → Hp → Prop) : Prop :=
 nilP s1 fun sa2 =>
 ldSl (sa2.add 1) H fun LP3 LL4 LC5 =>
 (bif (((LL4 : Int) : Int) == 0) then
 K (.tuple #[(.int .i64 0), (.bool false)]) H
else
 nilP s1 fun sa6 =>
 ldSl (sa6.add 1) H fun LP7 LL8 LC9 =>
 nilP s1 fun sa10 =>
 ldSl (sa10.add 1) H fun LP11 LL12 LC13 =>
 idxA LP7 LL8 (IntKind.i64.wrap ((LL12 : Int) - 1)) 1 fun el14 =>
 ldI .i64 el14 H fun t15 =>
 nilP s1 fun sa16 =>
 ldSl (sa16.add 1) H fun LP17 LL18 LC19 =>
 nilP s1 fun sa20 =>
 ldSl (sa20.add 1) H fun LP21 LL22 LC23 =>
 slcD LP17 LL18 LC19 none (some (IntKind.i64.wrap ((LL22 : Int) - 1))) 1 fun sP24 sL25 sC26 =>
 nilP s1 fun sa27 =>
 st (sa27.add 1) (.slice sP24 sL25 sC26) H fun Hx28 =>
 K (.tuple #[(.int .i64 t15), (.bool true)]) Hx28)
theorem E_ref4_IntStack_Pop (s1 : Option Addr) (H : Hp) (K : Value → Hp → Prop) : B_ref4_IntStack_Pop s1 H K = denF Try.prog Try.f27 .n [(.pointer s1)] H K := by kernel_rfl
theorem den_ref4_IntStack_Pop {s1 : Option Addr} {H : Hp} {K : Value → Hp → Prop} (h : B_ref4_IntStack_Pop s1 H K) : hcall PR f_ref4_IntStack_Pop ⟨[(.pointer s1)]⟩ H K := denF_call Try.func27 PR_mixed (Eq.mp (E_ref4_IntStack_Pop s1 H K) h)

def B_grey_Stack_int_Rest (s1 : Option Addr) (H : Hp) (K : Value → Hp → Prop) : Prop :=
 nilP s1 fun sa2 =>
 st (sa2.add 2) (.bool false) H fun Hx3 =>
 K (.tuple #[]) Hx3
theorem E_grey_Stack_int_Rest (s1 : Option Addr) (H : Hp) (K : Value → Hp → Prop) : B_grey_Stack_int_Rest s1 H K = denF Try.prog Try.f28 .n [(.pointer s1)] H K := by kernel_rfl
theorem den_grey_Stack_int_Rest {s1 : Option Addr} {H : Hp} {K : Value → Hp → Prop} (h : B_grey_Stack_int_Rest s1 H K) : hcall PR f_grey_Stack_int_Rest ⟨[(.pointer s1)]⟩ H K := denF_call Try.func28 PR_mixed (Eq.mp (E_grey_Stack_int_Rest s1 H K) h)

def B_grey_Stack_int_Clear (s1 : Option Addr) (H : Hp) (K : Value → Hp → Prop) : Prop :=
 nilP s1 fun sa2 =>
 st sa2 (.slice none 0 0) H fun Hx3 =>
 nilP s1 fun sa4 =>
 st (sa4.add 2) (.bool false) Hx3 fun Hx5 =>
 K (.tuple #[]) Hx5
theorem E_grey_Stack_int_Clear (s1 : Option Addr) (H : Hp) (K : Value → Hp → Prop) : B_grey_Stack_int_Clear s1 H K = denF Try.prog Try.f29 .n [(.pointer s1)] H K := by kernel_rfl
theorem den_grey_Stack_int_Clear {s1 : Option Addr} {H : Hp} {K : Value → Hp → Prop} (h : B_grey_Stack_int_Clear s1 H K) : hcall PR f_grey_Stack_int_Clear ⟨[(.pointer s1)]⟩ H K := denF_call Try.func29 PR_mixed (Eq.mp (E_grey_Stack_int_Clear s1 H K) h)

def B_grey_Stack_int_Push (s1 : Option Addr) (x2 : Int) (H : Hp) (K : Value → Hp → Prop) : Prop :=
 nilP s1 fun sa3 =>
 ldSl sa3 H fun rowP4 rowL5 rowC6 =>
 nilP s1 fun sa7 =>
 ldI .i64 (sa7.add 1) H fun most8 =>
 (bif (decide (((rowL5 : Int) : Int) ≥ most8)) then
 nilP s1 fun sa9 =>
 st (sa9.add 2) (.bool true) H fun Hx10 =>
 K (.bool false) Hx10
else
 nilP s1 fun sa11 =>
 ldSl sa11 H fun rowP12 rowL13 rowC14 =>
 newB (.cells #[(.int .i64 x2)] ty_int) H fun b15 Hx16 =>
 evW PR (Builtin.append_ #[ty_Sint, ty_Sint] ty_Sint #[(.slice rowP12 rowL13 rowC14), (.slice (some ⟨b15, 0, none⟩) 1 1)]) Hx16 fun v17 Hx18 =>
 asSl v17 fun tP19 tL20 tC21 =>
 nilP s1 fun sa22 =>
 st sa22 (.slice tP19 tL20 tC21) Hx18 fun Hx23 =>
 K (.bool true) Hx23)
theorem E_grey_Stack_int_Push (s1 : Option Addr) (x2 : Int) (H : Hp) (K : Value → Hp → Prop) : B_grey_Stack_int_Push s1 x2 H K = denF Try.prog Try.f30 .n [(.pointer s1), (.int .i64 x2)] H K := by kernel_rfl
theorem den_grey_Stack_int_Push {s1 : Option Addr} {x2 : Int} {H : Hp} {K : Value → Hp → Prop} (h : B_grey_Stack_int_Push s1 x2 H K) : hcall PR f_grey_Stack_int_Push ⟨[(.pointer s1), (.int .i64 x2)]⟩ H K := denF_call Try.func30 PR_mixed (Eq.mp (E_grey_Stack_int_Push s1 x2 H K) h)

def B_ref4_IntStack_Push (s1 : Option Addr) (x2 : Int) (H : Hp) (K : Value → Hp → Prop) : Prop :=
 nilP s1 fun sa3 =>
 ldSl (sa3.add 1) H fun LP4 LL5 LC6 =>
 nilP s1 fun sa7 =>
 ldI .i64 sa7 H fun Most8 =>
 (bif (decide (((LL5 : Int) : Int) ≥ Most8)) then
 nilP s1 fun sa9 =>
 st (sa9.add 2) (.bool true) H fun Hx10 =>
 K (.bool false) Hx10
else
 newB (.cells #[] ty_int) H fun b11 Hx12 =>
 nilP s1 fun sa13 =>
 ldSl (sa13.add 1) Hx12 fun LP14 LL15 LC16 =>
 evW PR (Builtin.append_ #[ty_Sint, ty_Sint] ty_Sint #[(.slice (some ⟨b11, 0, none⟩) 0 0), (.slice LP14 LL15 LC16)]) Hx12 fun v17 Hx18 =>
 asSl v17 fun tP19 tL20 tC21 =>
 newB (.cells #[(.int .i64 x2)] ty_int) Hx18 fun b22 Hx23 =>
 evW PR (Builtin.append_ #[ty_Sint, ty_Sint] ty_Sint #[(.slice tP19 tL20 tC21), (.slice (some ⟨b22, 0, none⟩) 1 1)]) Hx23 fun v24 Hx25 =>
 asSl v24 fun tP26 tL27 tC28 =>
 nilP s1 fun sa29 =>
 st (sa29.add 1) (.slice tP26 tL27 tC28) Hx25 fun Hx30 =>
 K (.bool true) Hx30)
theorem E_ref4_IntStack_Push (s1 : Option Addr) (x2 : Int) (H : Hp) (K : Value → Hp → Prop) : B_ref4_IntStack_Push s1 x2 H K = denF Try.prog Try.f31 .n [(.pointer s1), (.int .i64 x2)] H K := by kernel_rfl
theorem den_ref4_IntStack_Push {s1 : Option Addr} {x2 : Int} {H : Hp} {K : Value → Hp → Prop} (h : B_ref4_IntStack_Push s1 x2 H K) : hcall PR f_ref4_IntStack_Push ⟨[(.pointer s1), (.int .i64 x2)]⟩ H K := denF_call Try.func31 PR_mixed (Eq.mp (E_ref4_IntStack_Push s1 x2 H K) h)

def B_grey_Stack_int_Len (s1 : Option Addr) (H : Hp) (K : Value → Hp → Prop) : Prop :=
 nilP s1 fun sa2 =>
 ldSl sa2 H fun rowP3 rowL4 rowC5 =>
 K (.int .i64 (rowL4 : Int)) H
theorem E_grey_Stack_int_Len (s1 : Option Addr) (H : Hp) (K : Value → Hp → Prop) : B_grey_Stack_int_Len s1 H K = denF Try.prog Try.f32 .n [(.pointer s1)] H K := by kernel_rfl
theorem den_grey_Stack_int_Len {s1 : Option Addr} {H : Hp} {K : Value → Hp → Prop} (h : B_grey_Stack_int_Len s1 H K) : hcall PR f_grey_Stack_int_Len ⟨[(.pointer s1)]⟩ H K := denF_call Try.func32 PR_mixed (Eq.mp (E_grey_Stack_int_Len s1 H K) h)

def B_grey_Stack_int_Over (s1 : Option Addr) (H : Hp) (K : Value → Hp → Prop) : Prop :=
 nilP s1 fun sa2 =>
 ldB (sa2.add 2) H fun over3 =>
 K (.bool over3) H
theorem E_grey_Stack_int_Over (s1 : Option Addr) (H : Hp) (K : Value → Hp → Prop) : B_grey_Stack_int_Over s1 H K = denF Try.prog Try.f33 .n [(.pointer s1)] H K := by kernel_rfl
theorem den_grey_Stack_int_Over {s1 : Option Addr} {H : Hp} {K : Value → Hp → Prop} (h : B_grey_Stack_int_Over s1 H K) : hcall PR f_grey_Stack_int_Over ⟨[(.pointer s1)]⟩ H K := denF_call Try.func33 PR_mixed (Eq.mp (E_grey_Stack_int_Over s1 H K) h)

def B_grey_Stack_int_All (s1 : Option Addr) (H : Hp) (K : Value → Hp → Prop) : Prop :=
 newB (.cells #[] ty_int) H fun b2 Hx3 =>
 nilP s1 fun sa4 =>
 ldSl sa4 Hx3 fun rowP5 rowL6 rowC7 =>
 evW PR (Builtin.append_ #[ty_Sint, ty_Sint] ty_Sint #[(.slice (some ⟨b2, 0, none⟩) 0 0), (.slice rowP5 rowL6 rowC7)]) Hx3 fun v8 Hx9 =>
 asSl v8 fun tP10 tL11 tC12 =>
 K (.slice tP10 tL11 tC12) Hx9
theorem E_grey_Stack_int_All (s1 : Option Addr) (H : Hp) (K : Value → Hp → Prop) : B_grey_Stack_int_All s1 H K = denF Try.prog Try.f34 .n [(.pointer s1)] H K := by kernel_rfl
theorem den_grey_Stack_int_All {s1 : Option Addr} {H : Hp} {K : Value → Hp → Prop} (h : B_grey_Stack_int_All s1 H K) : hcall PR f_grey_Stack_int_All ⟨[(.pointer s1)]⟩ H K := denF_call Try.func34 PR_mixed (Eq.mp (E_grey_Stack_int_All s1 H K) h)

def B_law10_ints (aP1 : Option Addr) (aL2 : Nat) (aC3 : Nat) (bP4 : Option Addr) (bL5 : Nat) (bC6 : Nat) (H : Hp) (K : Value → Hp → Prop) : Prop :=
 (bif (((aL2 : Int) : Int) != (bL5 : Int)) then
 K (.bool false) H
else
 ∃ (I7 : Int → Hp → Prop) (m8 : Int → Hp → Nat), I7 0 H ∧ ∀ i10 : Int, ∀ Hx9 : Hp, I7 i10 Hx9 →
 (bif (decide ((i10 : Int) < (aL2 : Int))) then
 idxA aP1 aL2 i10 1 fun el11 =>
 ldI .i64 el11 Hx9 fun t12 =>
 idxA bP4 bL5 i10 1 fun el13 =>
 ldI .i64 el13 Hx9 fun t14 =>
 (bif ((t12 : Int) != t14) then
 K (.bool false) Hx9
else
 I7 (IntKind.i64.wrap (i10 + 1)) Hx9 ∧ m8 (IntKind.i64.wrap (i10 + 1)) Hx9 < m8 i10 Hx9)
else
 K (.bool true) Hx9))
theorem E_law10_ints (aP1 : Option Addr) (aL2 : Nat) (aC3 : Nat) (bP4 : Option Addr) (bL5 : Nat) (bC6 : Nat) (H : Hp) (K : Value → Hp → Prop) : B_law10_ints aP1 aL2 aC3 bP4 bL5 bC6 H K = denF Try.prog Try.f35 (.seq none .n (.seq none .n (.seq none (.seq none .n (.sub (.loop ⟨[(5, .int .i64)], [0, 1]⟩ .n))) .n))) [(.slice aP1 aL2 aC3), (.slice bP4 bL5 bC6)] H K := by kernel_rfl
theorem den_law10_ints {aP1 : Option Addr} {aL2 : Nat} {aC3 : Nat} {bP4 : Option Addr} {bL5 : Nat} {bC6 : Nat} {H : Hp} {K : Value → Hp → Prop} (h : B_law10_ints aP1 aL2 aC3 bP4 bL5 bC6 H K) : hcall PR f_law10_ints ⟨[(.slice aP1 aL2 aC3), (.slice bP4 bL5 bC6)]⟩ H K := denF_call Try.func35 PR_mixed (Eq.mp (E_law10_ints aP1 aL2 aC3 bP4 bL5 bC6 H K) h)

def B_arena_Class (size1 : Int) (H : Hp) (K : Value → Hp → Prop) : Prop :=
 (bif (decide ((size1 : Int) < 1)) then
 K (.int .i64 0) H
else
 (bif (decide ((size1 : Int) > 16)) then
 K (.int .i64 0) H
else
 ∃ (I2 : Int → Hp → Prop) (m3 : Int → Hp → Nat), I2 1 H ∧ ∀ c5 : Int, ∀ Hx4 : Hp, I2 c5 Hx4 →
 (bif (decide ((c5 : Int) < size1)) then
 (0 : Int) ≤ 1 ∧
 I2 (shlI .i64 c5 1) Hx4 ∧ m3 (shlI .i64 c5 1) Hx4 < m3 c5 Hx4
else
 K (.int .i64 c5) Hx4)))
theorem E_arena_Class (size1 : Int) (H : Hp) (K : Value → Hp → Prop) : B_arena_Class size1 H K = denF Try.prog Try.f36 (.seq none .n (.seq none .n (.seq none .n (.seq none (.sub (.loop ⟨[(3, .int .i64)], [0]⟩ .n)) .n)))) [(.int .i64 size1)] H K := by kernel_rfl
theorem den_arena_Class {size1 : Int} {H : Hp} {K : Value → Hp → Prop} (h : B_arena_Class size1 H K) : hcall PR f_arena_Class ⟨[(.int .i64 size1)]⟩ H K := denF_call Try.func36 PR_mixed (Eq.mp (E_arena_Class size1 H K) h)

def B_law7_known  (H : Hp) (K : Value → Hp → Prop) : Prop :=
 hcall PR f_arena_New ⟨[(.int .i64 32)]⟩ H fun v1 Hx2 =>
 tup2 v1 fun v3 v4 =>
 asP v3 fun t5 =>
 asI .i64 v4 fun t6 =>
 (bif ((t6 : Int) != 0) then
 K (.bool false) Hx2
else
 (bif (Option.isNone (α := Addr) t5) then
 K (.bool false) Hx2
else
 hcall PR f_arena_Arena_Alloc ⟨[(.pointer t5), (.int .i64 3)]⟩ Hx2 fun v7 Hx8 =>
 tup2 v7 fun v9 v10 =>
 asI .i64 v9 fun t11 =>
 asI .i64 v10 fun t12 =>
 hcall PR f_arena_Arena_Alloc ⟨[(.pointer t5), (.int .i64 4)]⟩ Hx8 fun v13 Hx14 =>
 tup2 v13 fun v15 v16 =>
 asI .i64 v15 fun t17 =>
 asI .i64 v16 fun t18 =>
 hcall PR f_arena_Arena_Alloc ⟨[(.pointer t5), (.int .i64 9)]⟩ Hx14 fun v19 Hx20 =>
 tup2 v19 fun v21 v22 =>
 asI .i64 v21 fun t23 =>
 asI .i64 v22 fun t24 =>
 hcall PR f_arena_Arena_Alloc ⟨[(.pointer t5), (.int .i64 1)]⟩ Hx20 fun v25 Hx26 =>
 tup2 v25 fun v27 v28 =>
 asI .i64 v27 fun t29 =>
 asI .i64 v28 fun t30 =>
 (bif ((t11 : Int) == 0) then
 (bif ((t17 : Int) == 4) then
 (bif ((t23 : Int) == 16) then
 (bif ((t12 : Int) == 0) then
 (bif ((t18 : Int) == 0) then
 (bif ((t24 : Int) == 0) then
 K (.bool ((t30 : Int) == 2)) Hx26
else
 K (.bool false) Hx26)
else
 K (.bool false) Hx26)
else
 K (.bool false) Hx26)
else
 K (.bool false) Hx26)
else
 K (.bool false) Hx26)
else
 K (.bool false) Hx26)))
theorem E_law7_known  (H : Hp) (K : Value → Hp → Prop) : B_law7_known  H K = denF Try.prog Try.f37 .n [] H K := by kernel_rfl
theorem den_law7_known  {H : Hp} {K : Value → Hp → Prop} (h : B_law7_known  H K) : hcall PR f_law7_known ⟨[]⟩ H K := denF_call Try.func37 PR_mixed (Eq.mp (E_law7_known  H K) h)

def B_ref7_Class (size1 : Int) (H : Hp) (K : Value → Hp → Prop) : Prop :=
 ∃ (I2 : Int → Hp → Prop) (m3 : Int → Hp → Nat), I2 1 H ∧ ∀ c5 : Int, ∀ Hx4 : Hp, I2 c5 Hx4 →
 (bif (decide ((c5 : Int) ≤ 16)) then
 ∀ R6 : Hp → Prop, (∀ Hx7 : Hp, (
 I2 (IntKind.i64.wrap (2 * c5)) Hx7 ∧ m3 (IntKind.i64.wrap (2 * c5)) Hx7 < m3 c5 Hx4) → R6 Hx7) →
 (bif (decide ((size1 : Int) ≥ 1)) then
 (bif (decide ((size1 : Int) ≤ c5)) then
 K (.int .i64 c5) Hx4
else
 R6 Hx4)
else
 R6 Hx4)
else
 K (.int .i64 0) Hx4)
theorem E_ref7_Class (size1 : Int) (H : Hp) (K : Value → Hp → Prop) : B_ref7_Class size1 H K = denF Try.prog Try.f38 (.seq none .n (.seq none (.seq none .n (.sub (.loop ⟨[(3, .int .i64)], [0]⟩ (.seq none .n (.seq (some ⟨[], [0, 3]⟩) .n .n))))) .n)) [(.int .i64 size1)] H K := by kernel_rfl
theorem den_ref7_Class {size1 : Int} {H : Hp} {K : Value → Hp → Prop} (h : B_ref7_Class size1 H K) : hcall PR f_ref7_Class ⟨[(.int .i64 size1)]⟩ H K := denF_call Try.func38 PR_mixed (Eq.mp (E_ref7_Class size1 H K) h)

def B_shake_New (mutators1 : Int) (H : Hp) (K : Value → Hp → Prop) : Prop :=
 (bif (decide ((mutators1 : Int) < 1)) then
 K (.tuple #[(.pointer none), (.int .i64 1)]) H
else
 (bif (decide ((mutators1 : Int) > 4)) then
 K (.tuple #[(.pointer none), (.int .i64 1)]) H
else
 (evW PR (Instr.makeSlice ty_Sbool (.int .i64 (IntKind.i64.wrap (mutators1 + 1))) (.int .i64 (IntKind.i64.wrap (mutators1 + 1)))) H fun v2 Hx3 =>
 asSl v2 fun mkP4 mkL5 mkC6 =>
 evW PR (Instr.makeSlice ty_Sbool (.int .i64 (IntKind.i64.wrap (mutators1 + 1))) (.int .i64 (IntKind.i64.wrap (mutators1 + 1)))) Hx3 fun v7 Hx8 =>
 asSl v7 fun mkP9 mkL10 mkC11 =>
 newB (.cells #[(.int .i64 0), (.slice mkP4 mkL5 mkC6), (.slice mkP9 mkL10 mkC11)] ty_shake_Shake) Hx8 fun b12 Hx13 =>
 K (.tuple #[(.pointer (some ⟨b12, 0, none⟩)), (.int .i64 0)]) Hx13) ∧
 (evW PR (Instr.makeSlice ty_Sbool (.int .i64 (IntKind.i64.wrap (mutators1 + 1))) (.int .i64 (IntKind.i64.wrap (mutators1 + 1)))) H fun v14 Hx15 =>
 asSl v14 fun mkP16 mkL17 mkC18 =>
 evW PR (Instr.makeSlice ty_Sbool (.int .i64 (IntKind.i64.wrap (mutators1 + 1))) (.int .i64 (IntKind.i64.wrap (mutators1 + 1)))) Hx15 fun v19 Hx20 =>
 asSl v19 fun mkP21 mkL22 mkC23 =>
 newB (.cells #[(.int .i64 0), (.slice mkP21 mkL22 mkC23), (.slice mkP16 mkL17 mkC18)] ty_shake_Shake) Hx20 fun b24 Hx25 =>
 K (.tuple #[(.pointer (some ⟨b24, 0, none⟩)), (.int .i64 0)]) Hx25)))
theorem E_shake_New (mutators1 : Int) (H : Hp) (K : Value → Hp → Prop) : B_shake_New mutators1 H K = denF Try.prog Try.f39 .n [(.int .i64 mutators1)] H K := by kernel_rfl
theorem den_shake_New {mutators1 : Int} {H : Hp} {K : Value → Hp → Prop} (h : B_shake_New mutators1 H K) : hcall PR f_shake_New ⟨[(.int .i64 mutators1)]⟩ H K := denF_call Try.func39 PR_mixed (Eq.mp (E_shake_New mutators1 H K) h)

def B_law12_known  (H : Hp) (K : Value → Hp → Prop) : Prop :=
 hcall PR f_shake_New ⟨[(.int .i64 1)]⟩ H fun v1 Hx2 =>
 tup2 v1 fun v3 v4 =>
 asP v3 fun t5 =>
 asI .i64 v4 fun t6 =>
 (bif ((t6 : Int) != 0) then
 K (.bool false) Hx2
else
 (bif (Option.isNone (α := Addr) t5) then
 K (.bool false) Hx2
else
 hcall PR f_shake_Shake_Answer ⟨[(.pointer t5), (.int .i64 0)]⟩ Hx2 fun v7 Hx8 =>
 asI .i64 v7 fun t9 =>
 hcall PR f_shake_Shake_Begin ⟨[(.pointer t5)]⟩ Hx8 fun v10 Hx11 =>
 asI .i64 v10 fun t12 =>
 hcall PR f_shake_Shake_Answer ⟨[(.pointer t5), (.int .i64 1)]⟩ Hx11 fun v13 Hx14 =>
 asI .i64 v13 fun t15 =>
 hcall PR f_shake_Shake_Answer ⟨[(.pointer t5), (.int .i64 0)]⟩ Hx14 fun v16 Hx17 =>
 asI .i64 v16 fun t18 =>
 hcall PR f_shake_Shake_Answer ⟨[(.pointer t5), (.int .i64 0)]⟩ Hx17 fun v19 Hx20 =>
 asI .i64 v19 fun t21 =>
 hcall PR f_shake_Shake_Answer ⟨[(.pointer t5), (.int .i64 1)]⟩ Hx20 fun v22 Hx23 =>
 asI .i64 v22 fun t24 =>
 (bif ((t9 : Int) == 0) then
 (bif ((t12 : Int) == 0) then
 (bif ((t15 : Int) == 0) then
 (bif ((t18 : Int) == 1) then
 (bif ((t21 : Int) == 2) then
 (bif ((t24 : Int) == 2) then
 hcall PR f_shake_Shake_Phase ⟨[(.pointer t5)]⟩ Hx23 fun v25 Hx26 =>
 asI .i64 v25 fun t27 =>
 K (.bool ((t27 : Int) == 3)) Hx26
else
 K (.bool false) Hx23)
else
 K (.bool false) Hx23)
else
 K (.bool false) Hx23)
else
 K (.bool false) Hx23)
else
 K (.bool false) Hx23)
else
 K (.bool false) Hx23)))
theorem E_law12_known  (H : Hp) (K : Value → Hp → Prop) : B_law12_known  H K = denF Try.prog Try.f40 .n [] H K := by kernel_rfl
theorem den_law12_known  {H : Hp} {K : Value → Hp → Prop} (h : B_law12_known  H K) : hcall PR f_law12_known ⟨[]⟩ H K := denF_call Try.func40 PR_mixed (Eq.mp (E_law12_known  H K) h)

def B_shake_Shake_Begin (s1 : Option Addr) (H : Hp) (K : Value → Hp → Prop) : Prop :=
 nilP s1 fun sa2 =>
 ldI .i64 sa2 H fun phase3 =>
 (bif ((phase3 : Int) != 0) then
 K (.int .i64 10) H
else
 nilP s1 fun sa4 =>
 st sa4 (.int .i64 1) H fun Hx5 =>
 nilP s1 fun sa6 =>
 ldSl (sa6.add 1) Hx5 fun armedP7 armedL8 armedC9 =>
 nilP s1 fun sa10 =>
 ldSl (sa10.add 1) Hx5 fun armedP11 armedL12 armedC13 =>
 idxA armedP7 armedL8 (IntKind.i64.wrap ((armedL12 : Int) - 1)) 1 fun el14 =>
 st el14 (.bool true) Hx5 fun Hx15 =>
 K (.int .i64 0) Hx15)
theorem E_shake_Shake_Begin (s1 : Option Addr) (H : Hp) (K : Value → Hp → Prop) : B_shake_Shake_Begin s1 H K = denF Try.prog Try.f41 .n [(.pointer s1)] H K := by kernel_rfl
theorem den_shake_Shake_Begin {s1 : Option Addr} {H : Hp} {K : Value → Hp → Prop} (h : B_shake_Shake_Begin s1 H K) : hcall PR f_shake_Shake_Begin ⟨[(.pointer s1)]⟩ H K := denF_call Try.func41 PR_mixed (Eq.mp (E_shake_Shake_Begin s1 H K) h)

def B_shake_Shake_Answer (s1 : Option Addr) (m2 : Int) (H : Hp) (K : Value → Hp → Prop) : Prop :=
 (bif (decide ((m2 : Int) < 0)) then
 K (.int .i64 0) H
else
 nilP s1 fun sa3 =>
 ldSl (sa3.add 1) H fun armedP4 armedL5 armedC6 =>
 (bif (decide ((m2 : Int) ≥ (armedL5 : Int))) then
 K (.int .i64 0) H
else
 nilP s1 fun sa7 =>
 ldI .i64 sa7 H fun phase8 =>
 (bif ((phase8 : Int) == 1) then
 hcall PR f_shake_Shake_arms ⟨[(.pointer s1), (.int .i64 m2)]⟩ H fun v9 Hx10 =>
 asI .i64 v9 fun t11 =>
 K (.int .i64 t11) Hx10
else
 (bif ((phase8 : Int) == 2) then
 hcall PR f_shake_Shake_scans ⟨[(.pointer s1), (.int .i64 m2)]⟩ H fun v12 Hx13 =>
 asI .i64 v12 fun t14 =>
 K (.int .i64 t14) Hx13
else
 K (.int .i64 0) H))))
theorem E_shake_Shake_Answer (s1 : Option Addr) (m2 : Int) (H : Hp) (K : Value → Hp → Prop) : B_shake_Shake_Answer s1 m2 H K = denF Try.prog Try.f42 .n [(.pointer s1), (.int .i64 m2)] H K := by kernel_rfl
theorem den_shake_Shake_Answer {s1 : Option Addr} {m2 : Int} {H : Hp} {K : Value → Hp → Prop} (h : B_shake_Shake_Answer s1 m2 H K) : hcall PR f_shake_Shake_Answer ⟨[(.pointer s1), (.int .i64 m2)]⟩ H K := denF_call Try.func42 PR_mixed (Eq.mp (E_shake_Shake_Answer s1 m2 H K) h)

def B_shake_Shake_Phase (s1 : Option Addr) (H : Hp) (K : Value → Hp → Prop) : Prop :=
 nilP s1 fun sa2 =>
 ldI .i64 sa2 H fun phase3 =>
 K (.int .i64 phase3) H
theorem E_shake_Shake_Phase (s1 : Option Addr) (H : Hp) (K : Value → Hp → Prop) : B_shake_Shake_Phase s1 H K = denF Try.prog Try.f43 .n [(.pointer s1)] H K := by kernel_rfl
theorem den_shake_Shake_Phase {s1 : Option Addr} {H : Hp} {K : Value → Hp → Prop} (h : B_shake_Shake_Phase s1 H K) : hcall PR f_shake_Shake_Phase ⟨[(.pointer s1)]⟩ H K := denF_call Try.func43 PR_mixed (Eq.mp (E_shake_Shake_Phase s1 H K) h)

def B_shake_Shake_End (s1 : Option Addr) (H : Hp) (K : Value → Hp → Prop) : Prop :=
 nilP s1 fun sa2 =>
 ldI .i64 sa2 H fun phase3 =>
 (bif ((phase3 : Int) != 3) then
 K (.int .i64 10) H
else
 nilP s1 fun sa4 =>
 st sa4 (.int .i64 0) H fun Hx5 =>
 nilP s1 fun sa6 =>
 ldSl (sa6.add 1) Hx5 fun armedP7 armedL8 armedC9 =>
 evW PR (Builtin.clear_ #[ty_Sbool] ty_ #[(.slice armedP7 armedL8 armedC9)]) Hx5 fun v10 Hx11 =>
 nilP s1 fun sa12 =>
 ldSl (sa12.add 2) Hx11 fun scannedP13 scannedL14 scannedC15 =>
 evW PR (Builtin.clear_ #[ty_Sbool] ty_ #[(.slice scannedP13 scannedL14 scannedC15)]) Hx11 fun v16 Hx17 =>
 K (.int .i64 0) Hx17)
theorem E_shake_Shake_End (s1 : Option Addr) (H : Hp) (K : Value → Hp → Prop) : B_shake_Shake_End s1 H K = denF Try.prog Try.f44 .n [(.pointer s1)] H K := by kernel_rfl
theorem den_shake_Shake_End {s1 : Option Addr} {H : Hp} {K : Value → Hp → Prop} (h : B_shake_Shake_End s1 H K) : hcall PR f_shake_Shake_End ⟨[(.pointer s1)]⟩ H K := denF_call Try.func44 PR_mixed (Eq.mp (E_shake_Shake_End s1 H K) h)

def B_shake_Shake_IsArmed (s1 : Option Addr) (m2 : Int) (H : Hp) (K : Value → Hp → Prop) : Prop :=
 (bif (decide ((m2 : Int) ≥ 0)) then
 nilP s1 fun sa3 =>
 ldSl (sa3.add 1) H fun armedP4 armedL5 armedC6 =>
 (bif (decide ((m2 : Int) < (armedL5 : Int))) then
 nilP s1 fun sa7 =>
 ldSl (sa7.add 1) H fun armedP8 armedL9 armedC10 =>
 idxA armedP8 armedL9 m2 1 fun el11 =>
 ldB el11 H fun t12 =>
 K (.bool t12) H
else
 K (.bool false) H)
else
 K (.bool false) H)
theorem E_shake_Shake_IsArmed (s1 : Option Addr) (m2 : Int) (H : Hp) (K : Value → Hp → Prop) : B_shake_Shake_IsArmed s1 m2 H K = denF Try.prog Try.f45 .n [(.pointer s1), (.int .i64 m2)] H K := by kernel_rfl
theorem den_shake_Shake_IsArmed {s1 : Option Addr} {m2 : Int} {H : Hp} {K : Value → Hp → Prop} (h : B_shake_Shake_IsArmed s1 m2 H K) : hcall PR f_shake_Shake_IsArmed ⟨[(.pointer s1), (.int .i64 m2)]⟩ H K := denF_call Try.func45 PR_mixed (Eq.mp (E_shake_Shake_IsArmed s1 m2 H K) h)

def B_ref11_NewShake (n1 : Int) (H : Hp) (K : Value → Hp → Prop) : Prop :=
 (evW PR (Instr.makeSlice ty_Sbool (.int .i64 (IntKind.i64.wrap (n1 + 1))) (.int .i64 (IntKind.i64.wrap (n1 + 1)))) H fun v2 Hx3 =>
 asSl v2 fun mkP4 mkL5 mkC6 =>
 evW PR (Instr.makeSlice ty_Sbool (.int .i64 (IntKind.i64.wrap (n1 + 1))) (.int .i64 (IntKind.i64.wrap (n1 + 1)))) Hx3 fun v7 Hx8 =>
 asSl v7 fun mkP9 mkL10 mkC11 =>
 newB (.cells #[(.int .i64 n1), (.int .i64 0), (.slice mkP4 mkL5 mkC6), (.slice mkP9 mkL10 mkC11)] ty_ref11_Shake) Hx8 fun b12 Hx13 =>
 K (.pointer (some ⟨b12, 0, none⟩)) Hx13) ∧
 (evW PR (Instr.makeSlice ty_Sbool (.int .i64 (IntKind.i64.wrap (n1 + 1))) (.int .i64 (IntKind.i64.wrap (n1 + 1)))) H fun v14 Hx15 =>
 asSl v14 fun mkP16 mkL17 mkC18 =>
 evW PR (Instr.makeSlice ty_Sbool (.int .i64 (IntKind.i64.wrap (n1 + 1))) (.int .i64 (IntKind.i64.wrap (n1 + 1)))) Hx15 fun v19 Hx20 =>
 asSl v19 fun mkP21 mkL22 mkC23 =>
 newB (.cells #[(.int .i64 n1), (.int .i64 0), (.slice mkP21 mkL22 mkC23), (.slice mkP16 mkL17 mkC18)] ty_ref11_Shake) Hx20 fun b24 Hx25 =>
 K (.pointer (some ⟨b24, 0, none⟩)) Hx25)
theorem E_ref11_NewShake (n1 : Int) (H : Hp) (K : Value → Hp → Prop) : B_ref11_NewShake n1 H K = denF Try.prog Try.f46 .n [(.int .i64 n1)] H K := by kernel_rfl
theorem den_ref11_NewShake {n1 : Int} {H : Hp} {K : Value → Hp → Prop} (h : B_ref11_NewShake n1 H K) : hcall PR f_ref11_NewShake ⟨[(.int .i64 n1)]⟩ H K := denF_call Try.func46 PR_mixed (Eq.mp (E_ref11_NewShake n1 H K) h)

def B_ref11_Shake_Begin (s1 : Option Addr) (H : Hp) (K : Value → Hp → Prop) : Prop :=
 nilP s1 fun sa2 =>
 ldI .i64 (sa2.add 1) H fun Phase3 =>
 (bif ((Phase3 : Int) != 0) then
 K (.bool false) H
else
 nilP s1 fun sa4 =>
 st (sa4.add 1) (.int .i64 1) H fun Hx5 =>
 nilP s1 fun sa6 =>
 ldI .i64 sa6 Hx5 fun N7 =>
 evW PR (Instr.makeSlice ty_Sbool (.int .i64 (IntKind.i64.wrap (N7 + 1))) (.int .i64 (IntKind.i64.wrap (N7 + 1)))) Hx5 fun v8 Hx9 =>
 asSl v8 fun mkP10 mkL11 mkC12 =>
 nilP s1 fun sa13 =>
 st (sa13.add 2) (.slice mkP10 mkL11 mkC12) Hx9 fun Hx14 =>
 nilP s1 fun sa15 =>
 ldI .i64 sa15 Hx14 fun N16 =>
 evW PR (Instr.makeSlice ty_Sbool (.int .i64 (IntKind.i64.wrap (N16 + 1))) (.int .i64 (IntKind.i64.wrap (N16 + 1)))) Hx14 fun v17 Hx18 =>
 asSl v17 fun mkP19 mkL20 mkC21 =>
 nilP s1 fun sa22 =>
 st (sa22.add 3) (.slice mkP19 mkL20 mkC21) Hx18 fun Hx23 =>
 nilP s1 fun sa24 =>
 ldSl (sa24.add 2) Hx23 fun ArmedP25 ArmedL26 ArmedC27 =>
 nilP s1 fun sa28 =>
 ldI .i64 sa28 Hx23 fun N29 =>
 idxA ArmedP25 ArmedL26 N29 1 fun el30 =>
 st el30 (.bool true) Hx23 fun Hx31 =>
 K (.bool true) Hx31)
theorem E_ref11_Shake_Begin (s1 : Option Addr) (H : Hp) (K : Value → Hp → Prop) : B_ref11_Shake_Begin s1 H K = denF Try.prog Try.f47 .n [(.pointer s1)] H K := by kernel_rfl
theorem den_ref11_Shake_Begin {s1 : Option Addr} {H : Hp} {K : Value → Hp → Prop} (h : B_ref11_Shake_Begin s1 H K) : hcall PR f_ref11_Shake_Begin ⟨[(.pointer s1)]⟩ H K := denF_call Try.func47 PR_mixed (Eq.mp (E_ref11_Shake_Begin s1 H K) h)

def B_ref11_Shake_End (s1 : Option Addr) (H : Hp) (K : Value → Hp → Prop) : Prop :=
 nilP s1 fun sa2 =>
 ldI .i64 (sa2.add 1) H fun Phase3 =>
 (bif ((Phase3 : Int) != 3) then
 K (.bool false) H
else
 nilP s1 fun sa4 =>
 st (sa4.add 1) (.int .i64 0) H fun Hx5 =>
 nilP s1 fun sa6 =>
 ldI .i64 sa6 Hx5 fun N7 =>
 evW PR (Instr.makeSlice ty_Sbool (.int .i64 (IntKind.i64.wrap (N7 + 1))) (.int .i64 (IntKind.i64.wrap (N7 + 1)))) Hx5 fun v8 Hx9 =>
 asSl v8 fun mkP10 mkL11 mkC12 =>
 nilP s1 fun sa13 =>
 st (sa13.add 2) (.slice mkP10 mkL11 mkC12) Hx9 fun Hx14 =>
 nilP s1 fun sa15 =>
 ldI .i64 sa15 Hx14 fun N16 =>
 evW PR (Instr.makeSlice ty_Sbool (.int .i64 (IntKind.i64.wrap (N16 + 1))) (.int .i64 (IntKind.i64.wrap (N16 + 1)))) Hx14 fun v17 Hx18 =>
 asSl v17 fun mkP19 mkL20 mkC21 =>
 nilP s1 fun sa22 =>
 st (sa22.add 3) (.slice mkP19 mkL20 mkC21) Hx18 fun Hx23 =>
 K (.bool true) Hx23)
theorem E_ref11_Shake_End (s1 : Option Addr) (H : Hp) (K : Value → Hp → Prop) : B_ref11_Shake_End s1 H K = denF Try.prog Try.f48 .n [(.pointer s1)] H K := by kernel_rfl
theorem den_ref11_Shake_End {s1 : Option Addr} {H : Hp} {K : Value → Hp → Prop} (h : B_ref11_Shake_End s1 H K) : hcall PR f_ref11_Shake_End ⟨[(.pointer s1)]⟩ H K := denF_call Try.func48 PR_mixed (Eq.mp (E_ref11_Shake_End s1 H K) h)

def B_ref11_Shake_Answer (s1 : Option Addr) (m2 : Int) (H : Hp) (K : Value → Hp → Prop) : Prop :=
 (bif (decide ((m2 : Int) < 0)) then
 K (.int .i64 0) H
else
 nilP s1 fun sa3 =>
 ldI .i64 sa3 H fun N4 =>
 (bif (decide ((m2 : Int) > N4)) then
 K (.int .i64 0) H
else
 ∀ R5 : Hp → Prop, (∀ Hx6 : Hp, (
 nilP s1 fun sa7 =>
 ldI .i64 (sa7.add 1) Hx6 fun Phase8 =>
 (bif ((Phase8 : Int) == 2) then
 nilP s1 fun sa9 =>
 ldSl (sa9.add 3) Hx6 fun ScannedP10 ScannedL11 ScannedC12 =>
 idxA ScannedP10 ScannedL11 m2 1 fun el13 =>
 ldB el13 Hx6 fun t14 =>
 (bif (!t14) then
 nilP s1 fun sa15 =>
 ldSl (sa15.add 3) Hx6 fun ScannedP16 ScannedL17 ScannedC18 =>
 idxA ScannedP16 ScannedL17 m2 1 fun el19 =>
 st el19 (.bool true) Hx6 fun Hx20 =>
 nilP s1 fun sa21 =>
 ldSl (sa21.add 3) Hx20 fun ScannedP22 ScannedL23 ScannedC24 =>
 hcall PR f_ref11_all ⟨[(.slice ScannedP22 ScannedL23 ScannedC24)]⟩ Hx20 fun v25 Hx26 =>
 asB v25 fun t27 =>
 (bif t27 then
 nilP s1 fun sa28 =>
 st (sa28.add 1) (.int .i64 3) Hx26 fun Hx29 =>
 K (.int .i64 2) Hx29
else
 K (.int .i64 2) Hx26)
else
 K (.int .i64 0) Hx6)
else
 K (.int .i64 0) Hx6)) → R5 Hx6) →
 nilP s1 fun sa30 =>
 ldI .i64 (sa30.add 1) H fun Phase31 =>
 (bif ((Phase31 : Int) == 1) then
 nilP s1 fun sa32 =>
 ldSl (sa32.add 2) H fun ArmedP33 ArmedL34 ArmedC35 =>
 idxA ArmedP33 ArmedL34 m2 1 fun el36 =>
 ldB el36 H fun t37 =>
 (bif (!t37) then
 nilP s1 fun sa38 =>
 ldSl (sa38.add 2) H fun ArmedP39 ArmedL40 ArmedC41 =>
 idxA ArmedP39 ArmedL40 m2 1 fun el42 =>
 st el42 (.bool true) H fun Hx43 =>
 nilP s1 fun sa44 =>
 ldSl (sa44.add 2) Hx43 fun ArmedP45 ArmedL46 ArmedC47 =>
 hcall PR f_ref11_all ⟨[(.slice ArmedP45 ArmedL46 ArmedC47)]⟩ Hx43 fun v48 Hx49 =>
 asB v48 fun t50 =>
 (bif t50 then
 nilP s1 fun sa51 =>
 st (sa51.add 1) (.int .i64 2) Hx49 fun Hx52 =>
 K (.int .i64 1) Hx52
else
 K (.int .i64 1) Hx49)
else
 R5 H)
else
 R5 H)))
theorem E_ref11_Shake_Answer (s1 : Option Addr) (m2 : Int) (H : Hp) (K : Value → Hp → Prop) : B_ref11_Shake_Answer s1 m2 H K = denF Try.prog Try.f49 (.seq none .n (.seq none .n (.seq (some ⟨[], [0, 1]⟩) .n .n))) [(.pointer s1), (.int .i64 m2)] H K := by kernel_rfl
theorem den_ref11_Shake_Answer {s1 : Option Addr} {m2 : Int} {H : Hp} {K : Value → Hp → Prop} (h : B_ref11_Shake_Answer s1 m2 H K) : hcall PR f_ref11_Shake_Answer ⟨[(.pointer s1), (.int .i64 m2)]⟩ H K := denF_call Try.func49 PR_mixed (Eq.mp (E_ref11_Shake_Answer s1 m2 H K) h)

def B_ref11_Is (lP1 : Option Addr) (lL2 : Nat) (lC3 : Nat) (m4 : Int) (H : Hp) (K : Value → Hp → Prop) : Prop :=
 (bif (decide ((m4 : Int) ≥ 0)) then
 (bif (decide ((m4 : Int) < (lL2 : Int))) then
 idxA lP1 lL2 m4 1 fun el5 =>
 ldB el5 H fun t6 =>
 K (.bool t6) H
else
 K (.bool false) H)
else
 K (.bool false) H)
theorem E_ref11_Is (lP1 : Option Addr) (lL2 : Nat) (lC3 : Nat) (m4 : Int) (H : Hp) (K : Value → Hp → Prop) : B_ref11_Is lP1 lL2 lC3 m4 H K = denF Try.prog Try.f50 .n [(.slice lP1 lL2 lC3), (.int .i64 m4)] H K := by kernel_rfl
theorem den_ref11_Is {lP1 : Option Addr} {lL2 : Nat} {lC3 : Nat} {m4 : Int} {H : Hp} {K : Value → Hp → Prop} (h : B_ref11_Is lP1 lL2 lC3 m4 H K) : hcall PR f_ref11_Is ⟨[(.slice lP1 lL2 lC3), (.int .i64 m4)]⟩ H K := denF_call Try.func50 PR_mixed (Eq.mp (E_ref11_Is lP1 lL2 lC3 m4 H K) h)

def B_shake_Shake_HasScanned (s1 : Option Addr) (m2 : Int) (H : Hp) (K : Value → Hp → Prop) : Prop :=
 (bif (decide ((m2 : Int) ≥ 0)) then
 nilP s1 fun sa3 =>
 ldSl (sa3.add 2) H fun scannedP4 scannedL5 scannedC6 =>
 (bif (decide ((m2 : Int) < (scannedL5 : Int))) then
 nilP s1 fun sa7 =>
 ldSl (sa7.add 2) H fun scannedP8 scannedL9 scannedC10 =>
 idxA scannedP8 scannedL9 m2 1 fun el11 =>
 ldB el11 H fun t12 =>
 K (.bool t12) H
else
 K (.bool false) H)
else
 K (.bool false) H)
theorem E_shake_Shake_HasScanned (s1 : Option Addr) (m2 : Int) (H : Hp) (K : Value → Hp → Prop) : B_shake_Shake_HasScanned s1 m2 H K = denF Try.prog Try.f51 .n [(.pointer s1), (.int .i64 m2)] H K := by kernel_rfl
theorem den_shake_Shake_HasScanned {s1 : Option Addr} {m2 : Int} {H : Hp} {K : Value → Hp → Prop} (h : B_shake_Shake_HasScanned s1 m2 H K) : hcall PR f_shake_Shake_HasScanned ⟨[(.pointer s1), (.int .i64 m2)]⟩ H K := denF_call Try.func51 PR_mixed (Eq.mp (E_shake_Shake_HasScanned s1 m2 H K) h)

def B_arena_New (cells1 : Int) (H : Hp) (K : Value → Hp → Prop) : Prop :=
 (bif (decide ((cells1 : Int) < 16)) then
 K (.tuple #[(.pointer none), (.int .i64 1)]) H
else
 (bif (decide ((cells1 : Int) > 4096)) then
 K (.tuple #[(.pointer none), (.int .i64 1)]) H
else
 (16 : Int) ≠ 0 ∧
 (bif (((Int.tmod cells1 16) : Int) != 0) then
 K (.tuple #[(.pointer none), (.int .i64 1)]) H
else
 (16 : Int) ≠ 0 ∧
 (evW PR (Instr.makeSlice ty_Sint (.int .i64 (IntKind.i64.wrap (Int.tdiv cells1 16))) (.int .i64 (IntKind.i64.wrap (Int.tdiv cells1 16)))) H fun v2 Hx3 =>
 asSl v2 fun mkP4 mkL5 mkC6 =>
 evW PR (Instr.makeSlice ty_Suint16 (.int .i64 (IntKind.i64.wrap (Int.tdiv cells1 16))) (.int .i64 (IntKind.i64.wrap (Int.tdiv cells1 16)))) Hx3 fun v7 Hx8 =>
 asSl v7 fun mkP9 mkL10 mkC11 =>
 newB (.cells #[(.slice mkP4 mkL5 mkC6), (.slice mkP9 mkL10 mkC11)] ty_arena_Arena) Hx8 fun b12 Hx13 =>
 K (.tuple #[(.pointer (some ⟨b12, 0, none⟩)), (.int .i64 0)]) Hx13) ∧
 (evW PR (Instr.makeSlice ty_Suint16 (.int .i64 (IntKind.i64.wrap (Int.tdiv cells1 16))) (.int .i64 (IntKind.i64.wrap (Int.tdiv cells1 16)))) H fun v14 Hx15 =>
 asSl v14 fun mkP16 mkL17 mkC18 =>
 evW PR (Instr.makeSlice ty_Sint (.int .i64 (IntKind.i64.wrap (Int.tdiv cells1 16))) (.int .i64 (IntKind.i64.wrap (Int.tdiv cells1 16)))) Hx15 fun v19 Hx20 =>
 asSl v19 fun mkP21 mkL22 mkC23 =>
 newB (.cells #[(.slice mkP21 mkL22 mkC23), (.slice mkP16 mkL17 mkC18)] ty_arena_Arena) Hx20 fun b24 Hx25 =>
 K (.tuple #[(.pointer (some ⟨b24, 0, none⟩)), (.int .i64 0)]) Hx25))))
theorem E_arena_New (cells1 : Int) (H : Hp) (K : Value → Hp → Prop) : B_arena_New cells1 H K = denF Try.prog Try.f52 .n [(.int .i64 cells1)] H K := by kernel_rfl
theorem den_arena_New {cells1 : Int} {H : Hp} {K : Value → Hp → Prop} (h : B_arena_New cells1 H K) : hcall PR f_arena_New ⟨[(.int .i64 cells1)]⟩ H K := denF_call Try.func52 PR_mixed (Eq.mp (E_arena_New cells1 H K) h)


end Go.Proofs.Ytdeihhfhcnhmfaa
