/- PRINTED by gen.py: functions as plain propositions, held against the program by the kernel. No condition. -/
import Derived.Test.YtdeihhfhcnhmfaaDenN
namespace Go.Proofs.Ytdeihhfhcnhmfaa
open Go
set_option linter.unusedVariables false
set_option maxRecDepth 100000

def B_arena_Arena_Alloc (a1 : Option Addr) (size2 : Int) (H : Hp) (K : Value → Hp → Prop) : Prop :=
 hcall PR f_arena_Class ⟨[(.int .i64 size2)]⟩ H fun v3 Hx4 =>
 asI .i64 v3 fun t5 =>
 (bif ((t5 : Int) == 0) then
 K (.tuple #[(.int .i64 0), (.int .i64 1)]) Hx4
else
 nilP a1 fun aa6 =>
 ldSl aa6 Hx4 fun classP7 classL8 classC9 =>
 ∃ (I10 : Int → Int → Hp → Prop) (m11 : Int → Int → Hp → Nat), I10 (-1) 0 Hx4 ∧ ∀ free13 : Int, ∀ t14 : Int, ∀ Hx12 : Hp, I10 free13 t14 Hx12 →
 (bif (decide ((t14 : Int) < (classL8 : Int))) then
 ∀ R15 : Int → Hp → Prop, (∀ free17 : Int, ∀ Hx16 : Hp, (
 I10 free17 (IntKind.i64.wrap (t14 + 1)) Hx16 ∧ m11 free17 (IntKind.i64.wrap (t14 + 1)) Hx16 < m11 free13 t14 Hx12) → R15 free17 Hx16) →
 idxA classP7 classL8 t14 1 fun el18 =>
 ldI .i64 el18 Hx12 fun t19 =>
 ∀ R20 : Hp → Prop, (∀ Hx21 : Hp, (
 (bif ((t19 : Int) == 0) then
 (bif (decide ((free13 : Int) < 0)) then
 R15 t14 Hx21
else
 R15 free13 Hx21)
else
 R15 free13 Hx21)) → R20 Hx21) →
 (bif ((t19 : Int) == t5) then
 nilP a1 fun aa22 =>
 ldSl (aa22.add 1) Hx12 fun takenP23 takenL24 takenC25 =>
 idxA takenP23 takenL24 t14 1 fun el26 =>
 ldI .u16 el26 Hx12 fun t27 =>
 hcall PR f_arena_full ⟨[(.int .i64 t5)]⟩ Hx12 fun v28 Hx29 =>
 asI .u16 v28 fun t30 =>
 (ldI .u16 el26 Hx29 fun t31 =>
 ((.int .u16 t31) : Value) = (.int .u16 t27)) ∧
 (ldSl (aa22.add 1) Hx29 fun takenP32 takenL33 takenC34 =>
 ((.slice takenP32 takenL33 takenC34) : Value) = (.slice takenP23 takenL24 takenC25)) ∧
 (bif ((t27 : Int) != t30) then
 hcall PR f_arena_Arena_take ⟨[(.pointer a1), (.int .i64 t14)]⟩ Hx29 fun v35 Hx36 =>
 asI .i64 v35 fun t37 =>
 K (.tuple #[(.int .i64 t37), (.int .i64 0)]) Hx36
else
 R20 Hx29)
else
 R20 Hx12)
else
 (bif (decide ((free13 : Int) < 0)) then
 K (.tuple #[(.int .i64 0), (.int .i64 2)]) Hx12
else
 nilP a1 fun aa38 =>
 ldSl aa38 Hx12 fun classP39 classL40 classC41 =>
 idxA classP39 classL40 free13 1 fun el42 =>
 st el42 (.int .i64 t5) Hx12 fun Hx43 =>
 hcall PR f_arena_Arena_take ⟨[(.pointer a1), (.int .i64 free13)]⟩ Hx43 fun v44 Hx45 =>
 asI .i64 v44 fun t46 =>
 K (.tuple #[(.int .i64 t46), (.int .i64 0)]) Hx45)))
theorem E_arena_Arena_Alloc (a1 : Option Addr) (size2 : Int) (H : Hp) (K : Value → Hp → Prop) : B_arena_Arena_Alloc a1 size2 H K = denF Try.prog Try.f53 (.seq none .n (.seq none .n (.seq none .n (.seq none .n (.seq none (.seq none .n (.sub (.loop ⟨[(7, .int .i64), (19, .int .i64)], [0, 6, 17, 18]⟩ (.seq none .n (.seq none .n (.seq (some ⟨[(7, .int .i64)], [0, 6, 17, 18, 19]⟩) (.sub (.seq none .n (.seq (some ⟨[], [0, 6, 7, 8, 9, 17, 18, 19]⟩) .n .n))) .n)))))) .n))))) [(.pointer a1), (.int .i64 size2)] H K := by kernel_rfl
theorem den_arena_Arena_Alloc {a1 : Option Addr} {size2 : Int} {H : Hp} {K : Value → Hp → Prop} (h : B_arena_Arena_Alloc a1 size2 H K) : hcall PR f_arena_Arena_Alloc ⟨[(.pointer a1), (.int .i64 size2)]⟩ H K := denF_call Try.func53 PR_mixed (Eq.mp (E_arena_Arena_Alloc a1 size2 H K) h)

def B_arena_Arena_Room (a1 : Option Addr) (size2 : Int) (H : Hp) (K : Value → Hp → Prop) : Prop :=
 hcall PR f_arena_Class ⟨[(.int .i64 size2)]⟩ H fun v3 Hx4 =>
 asI .i64 v3 fun t5 =>
 (bif ((t5 : Int) == 0) then
 K (.int .i64 0) Hx4
else
 nilP a1 fun aa6 =>
 ldSl aa6 Hx4 fun classP7 classL8 classC9 =>
 ∃ (I10 : Int → Int → Hp → Prop) (m11 : Int → Int → Hp → Nat), I10 0 0 Hx4 ∧ ∀ n13 : Int, ∀ t14 : Int, ∀ Hx12 : Hp, I10 n13 t14 Hx12 →
 (bif (decide ((t14 : Int) < (classL8 : Int))) then
 ∀ R15 : Int → Hp → Prop, (∀ n17 : Int, ∀ Hx16 : Hp, (
 I10 n17 (IntKind.i64.wrap (t14 + 1)) Hx16 ∧ m11 n17 (IntKind.i64.wrap (t14 + 1)) Hx16 < m11 n13 t14 Hx12) → R15 n17 Hx16) →
 idxA classP7 classL8 t14 1 fun el18 =>
 ldI .i64 el18 Hx12 fun t19 =>
 (bif ((t19 : Int) == 0) then
 (t5 : Int) ≠ 0 ∧
 R15 (IntKind.i64.wrap (n13 + (IntKind.i64.wrap (Int.tdiv 16 t5)))) Hx12
else
 (bif ((t19 : Int) == t5) then
 (t5 : Int) ≠ 0 ∧
 nilP a1 fun aa20 =>
 ldSl (aa20.add 1) Hx12 fun takenP21 takenL22 takenC23 =>
 idxA takenP21 takenL22 t14 1 fun el24 =>
 ldI .u16 el24 Hx12 fun t25 =>
 hcall PR f_arena_bits ⟨[(.int .u16 t25)]⟩ Hx12 fun v26 Hx27 =>
 asI .i64 v26 fun t28 =>
 R15 (IntKind.i64.wrap (n13 + (IntKind.i64.wrap ((IntKind.i64.wrap (Int.tdiv 16 t5)) - t28)))) Hx27
else
 R15 n13 Hx12))
else
 K (.int .i64 n13) Hx12))
theorem E_arena_Arena_Room (a1 : Option Addr) (size2 : Int) (H : Hp) (K : Value → Hp → Prop) : B_arena_Arena_Room a1 size2 H K = denF Try.prog Try.f54 (.seq none .n (.seq none .n (.seq none .n (.seq none .n (.seq none (.seq none .n (.sub (.loop ⟨[(6, .int .i64), (18, .int .i64)], [0, 5, 16, 17]⟩ (.seq none .n (.seq none .n (.seq (some ⟨[(6, .int .i64)], [0, 5, 16, 17, 18]⟩) .n .n)))))) .n))))) [(.pointer a1), (.int .i64 size2)] H K := by kernel_rfl
theorem den_arena_Arena_Room {a1 : Option Addr} {size2 : Int} {H : Hp} {K : Value → Hp → Prop} (h : B_arena_Arena_Room a1 size2 H K) : hcall PR f_arena_Arena_Room ⟨[(.pointer a1), (.int .i64 size2)]⟩ H K := denF_call Try.func54 PR_mixed (Eq.mp (E_arena_Arena_Room a1 size2 H K) h)

def B_arena_Arena_At (a1 : Option Addr) (cell2 : Int) (H : Hp) (K : Value → Hp → Prop) : Prop :=
 hcall PR f_arena_Arena_place ⟨[(.pointer a1), (.int .i64 cell2)]⟩ H fun v3 Hx4 =>
 tup3 v3 fun v5 v6 v7 =>
 asI .i64 v5 fun t8 =>
 asI .i64 v6 fun t9 =>
 asB v7 fun t10 =>
 (bif (!t10) then
 K (.int .i64 0) Hx4
else
 nilP a1 fun aa11 =>
 ldSl aa11 Hx4 fun classP12 classL13 classC14 =>
 idxA classP12 classL13 t8 1 fun el15 =>
 ldI .i64 el15 Hx4 fun t16 =>
 K (.int .i64 t16) Hx4)
theorem E_arena_Arena_At (a1 : Option Addr) (cell2 : Int) (H : Hp) (K : Value → Hp → Prop) : B_arena_Arena_At a1 cell2 H K = denF Try.prog Try.f55 .n [(.pointer a1), (.int .i64 cell2)] H K := by kernel_rfl
theorem den_arena_Arena_At {a1 : Option Addr} {cell2 : Int} {H : Hp} {K : Value → Hp → Prop} (h : B_arena_Arena_At a1 cell2 H K) : hcall PR f_arena_Arena_At ⟨[(.pointer a1), (.int .i64 cell2)]⟩ H K := denF_call Try.func55 PR_mixed (Eq.mp (E_arena_Arena_At a1 cell2 H K) h)

def B_arena_Arena_Free (a1 : Option Addr) (cell2 : Int) (H : Hp) (K : Value → Hp → Prop) : Prop :=
 hcall PR f_arena_Arena_place ⟨[(.pointer a1), (.int .i64 cell2)]⟩ H fun v3 Hx4 =>
 tup3 v3 fun v5 v6 v7 =>
 asI .i64 v5 fun t8 =>
 asI .i64 v6 fun t9 =>
 asB v7 fun t10 =>
 (bif (!t10) then
 K (.int .i64 9) Hx4
else
 nilP a1 fun aa11 =>
 ldSl (aa11.add 1) Hx4 fun takenP12 takenL13 takenC14 =>
 idxA takenP12 takenL13 t8 1 fun el15 =>
 ldI .u16 el15 Hx4 fun t16 =>
 (0 : Int) ≤ t9 ∧
 idxA takenP12 takenL13 t8 1 fun el17 =>
 st el17 (.int .u16 (bitOp .andNot .u16 t16 (shlI .u16 1 t9))) Hx4 fun Hx18 =>
 nilP a1 fun aa19 =>
 ldSl (aa19.add 1) Hx18 fun takenP20 takenL21 takenC22 =>
 idxA takenP20 takenL21 t8 1 fun el23 =>
 ldI .u16 el23 Hx18 fun t24 =>
 (bif ((t24 : Int) == 0) then
 nilP a1 fun aa25 =>
 ldSl aa25 Hx18 fun classP26 classL27 classC28 =>
 idxA classP26 classL27 t8 1 fun el29 =>
 st el29 (.int .i64 0) Hx18 fun Hx30 =>
 K (.int .i64 0) Hx30
else
 K (.int .i64 0) Hx18))
theorem E_arena_Arena_Free (a1 : Option Addr) (cell2 : Int) (H : Hp) (K : Value → Hp → Prop) : B_arena_Arena_Free a1 cell2 H K = denF Try.prog Try.f56 .n [(.pointer a1), (.int .i64 cell2)] H K := by kernel_rfl
theorem den_arena_Arena_Free {a1 : Option Addr} {cell2 : Int} {H : Hp} {K : Value → Hp → Prop} (h : B_arena_Arena_Free a1 cell2 H K) : hcall PR f_arena_Arena_Free ⟨[(.pointer a1), (.int .i64 cell2)]⟩ H K := denF_call Try.func56 PR_mixed (Eq.mp (E_arena_Arena_Free a1 cell2 H K) h)

def B_arena_Arena_Blocks (a1 : Option Addr) (H : Hp) (K : Value → Hp → Prop) : Prop :=
 newB (.cells #[] ty_int) H fun b2 Hx3 =>
 nilP a1 fun aa4 =>
 ldSl aa4 Hx3 fun classP5 classL6 classC7 =>
 evW PR (Builtin.append_ #[ty_Sint, ty_Sint] ty_Sint #[(.slice (some ⟨b2, 0, none⟩) 0 0), (.slice classP5 classL6 classC7)]) Hx3 fun v8 Hx9 =>
 asSl v8 fun tP10 tL11 tC12 =>
 K (.slice tP10 tL11 tC12) Hx9
theorem E_arena_Arena_Blocks (a1 : Option Addr) (H : Hp) (K : Value → Hp → Prop) : B_arena_Arena_Blocks a1 H K = denF Try.prog Try.f57 .n [(.pointer a1)] H K := by kernel_rfl
theorem den_arena_Arena_Blocks {a1 : Option Addr} {H : Hp} {K : Value → Hp → Prop} (h : B_arena_Arena_Blocks a1 H K) : hcall PR f_arena_Arena_Blocks ⟨[(.pointer a1)]⟩ H K := denF_call Try.func57 PR_mixed (Eq.mp (E_arena_Arena_Blocks a1 H K) h)

def B_arena_Arena_Used (a1 : Option Addr) (H : Hp) (K : Value → Hp → Prop) : Prop :=
 nilP a1 fun aa2 =>
 ldSl aa2 H fun classP3 classL4 classC5 =>
 ∃ (I6 : Int → Int → Hp → Prop) (m7 : Int → Int → Hp → Nat), I6 0 0 H ∧ ∀ n9 : Int, ∀ t10 : Int, ∀ Hx8 : Hp, I6 n9 t10 Hx8 →
 (bif (decide ((t10 : Int) < (classL4 : Int))) then
 idxA classP3 classL4 t10 1 fun el11 =>
 ldI .i64 el11 Hx8 fun t12 =>
 nilP a1 fun aa13 =>
 ldSl (aa13.add 1) Hx8 fun takenP14 takenL15 takenC16 =>
 idxA takenP14 takenL15 t10 1 fun el17 =>
 ldI .u16 el17 Hx8 fun t18 =>
 hcall PR f_arena_bits ⟨[(.int .u16 t18)]⟩ Hx8 fun v19 Hx20 =>
 asI .i64 v19 fun t21 =>
 I6 (IntKind.i64.wrap (n9 + (IntKind.i64.wrap (t12 * t21)))) (IntKind.i64.wrap (t10 + 1)) Hx20 ∧ m7 (IntKind.i64.wrap (n9 + (IntKind.i64.wrap (t12 * t21)))) (IntKind.i64.wrap (t10 + 1)) Hx20 < m7 n9 t10 Hx8
else
 K (.int .i64 n9) Hx8)
theorem E_arena_Arena_Used (a1 : Option Addr) (H : Hp) (K : Value → Hp → Prop) : B_arena_Arena_Used a1 H K = denF Try.prog Try.f58 (.seq none .n (.seq none .n (.seq none (.seq none .n (.sub (.loop ⟨[(3, .int .i64), (11, .int .i64)], [0, 9, 10]⟩ .n))) .n))) [(.pointer a1)] H K := by kernel_rfl
theorem den_arena_Arena_Used {a1 : Option Addr} {H : Hp} {K : Value → Hp → Prop} (h : B_arena_Arena_Used a1 H K) : hcall PR f_arena_Arena_Used ⟨[(.pointer a1)]⟩ H K := denF_call Try.func58 PR_mixed (Eq.mp (E_arena_Arena_Used a1 H K) h)

def B_shake_Shake_arms (s1 : Option Addr) (m2 : Int) (H : Hp) (K : Value → Hp → Prop) : Prop :=
 nilP s1 fun sa3 =>
 ldSl (sa3.add 1) H fun armedP4 armedL5 armedC6 =>
 idxA armedP4 armedL5 m2 1 fun el7 =>
 ldB el7 H fun t8 =>
 (bif t8 then
 K (.int .i64 0) H
else
 nilP s1 fun sa9 =>
 ldSl (sa9.add 1) H fun armedP10 armedL11 armedC12 =>
 idxA armedP10 armedL11 m2 1 fun el13 =>
 st el13 (.bool true) H fun Hx14 =>
 nilP s1 fun sa15 =>
 ldSl (sa15.add 1) Hx14 fun armedP16 armedL17 armedC18 =>
 hcall PR f_shake_all ⟨[(.slice armedP16 armedL17 armedC18)]⟩ Hx14 fun v19 Hx20 =>
 asB v19 fun t21 =>
 (bif t21 then
 nilP s1 fun sa22 =>
 st sa22 (.int .i64 2) Hx20 fun Hx23 =>
 K (.int .i64 1) Hx23
else
 K (.int .i64 1) Hx20))
theorem E_shake_Shake_arms (s1 : Option Addr) (m2 : Int) (H : Hp) (K : Value → Hp → Prop) : B_shake_Shake_arms s1 m2 H K = denF Try.prog Try.f59 .n [(.pointer s1), (.int .i64 m2)] H K := by kernel_rfl
theorem den_shake_Shake_arms {s1 : Option Addr} {m2 : Int} {H : Hp} {K : Value → Hp → Prop} (h : B_shake_Shake_arms s1 m2 H K) : hcall PR f_shake_Shake_arms ⟨[(.pointer s1), (.int .i64 m2)]⟩ H K := denF_call Try.func59 PR_mixed (Eq.mp (E_shake_Shake_arms s1 m2 H K) h)

def B_shake_Shake_scans (s1 : Option Addr) (m2 : Int) (H : Hp) (K : Value → Hp → Prop) : Prop :=
 nilP s1 fun sa3 =>
 ldSl (sa3.add 2) H fun scannedP4 scannedL5 scannedC6 =>
 idxA scannedP4 scannedL5 m2 1 fun el7 =>
 ldB el7 H fun t8 =>
 (bif t8 then
 K (.int .i64 0) H
else
 nilP s1 fun sa9 =>
 ldSl (sa9.add 2) H fun scannedP10 scannedL11 scannedC12 =>
 idxA scannedP10 scannedL11 m2 1 fun el13 =>
 st el13 (.bool true) H fun Hx14 =>
 nilP s1 fun sa15 =>
 ldSl (sa15.add 2) Hx14 fun scannedP16 scannedL17 scannedC18 =>
 hcall PR f_shake_all ⟨[(.slice scannedP16 scannedL17 scannedC18)]⟩ Hx14 fun v19 Hx20 =>
 asB v19 fun t21 =>
 (bif t21 then
 nilP s1 fun sa22 =>
 st sa22 (.int .i64 3) Hx20 fun Hx23 =>
 K (.int .i64 2) Hx23
else
 K (.int .i64 2) Hx20))
theorem E_shake_Shake_scans (s1 : Option Addr) (m2 : Int) (H : Hp) (K : Value → Hp → Prop) : B_shake_Shake_scans s1 m2 H K = denF Try.prog Try.f60 .n [(.pointer s1), (.int .i64 m2)] H K := by kernel_rfl
theorem den_shake_Shake_scans {s1 : Option Addr} {m2 : Int} {H : Hp} {K : Value → Hp → Prop} (h : B_shake_Shake_scans s1 m2 H K) : hcall PR f_shake_Shake_scans ⟨[(.pointer s1), (.int .i64 m2)]⟩ H K := denF_call Try.func60 PR_mixed (Eq.mp (E_shake_Shake_scans s1 m2 H K) h)

def B_ref11_all (lP1 : Option Addr) (lL2 : Nat) (lC3 : Nat) (H : Hp) (K : Value → Hp → Prop) : Prop :=
 ∃ (I4 : Int → Hp → Prop) (m5 : Int → Hp → Nat), I4 0 H ∧ ∀ i7 : Int, ∀ Hx6 : Hp, I4 i7 Hx6 →
 (bif (decide ((i7 : Int) < (lL2 : Int))) then
 idxA lP1 lL2 i7 1 fun el8 =>
 ldB el8 Hx6 fun t9 =>
 (bif (!t9) then
 K (.bool false) Hx6
else
 I4 (IntKind.i64.wrap (i7 + 1)) Hx6 ∧ m5 (IntKind.i64.wrap (i7 + 1)) Hx6 < m5 i7 Hx6)
else
 K (.bool true) Hx6)
theorem E_ref11_all (lP1 : Option Addr) (lL2 : Nat) (lC3 : Nat) (H : Hp) (K : Value → Hp → Prop) : B_ref11_all lP1 lL2 lC3 H K = denF Try.prog Try.f61 (.seq none .n (.seq none (.seq none .n (.sub (.loop ⟨[(3, .int .i64)], [0]⟩ .n))) .n)) [(.slice lP1 lL2 lC3)] H K := by kernel_rfl
theorem den_ref11_all {lP1 : Option Addr} {lL2 : Nat} {lC3 : Nat} {H : Hp} {K : Value → Hp → Prop} (h : B_ref11_all lP1 lL2 lC3 H K) : hcall PR f_ref11_all ⟨[(.slice lP1 lL2 lC3)]⟩ H K := denF_call Try.func61 PR_mixed (Eq.mp (E_ref11_all lP1 lL2 lC3 H K) h)

def B_arena_full (classx1 : Int) (H : Hp) (K : Value → Hp → Prop) : Prop :=
 (classx1 : Int) ≠ 0 ∧
 (0 : Int) ≤ (IntKind.i64.wrap (Int.tdiv 16 classx1)) ∧
 K (.int .u16 (IntKind.u16.wrap ((shlI .u16 1 (IntKind.i64.wrap (Int.tdiv 16 classx1))) - 1))) H
theorem E_arena_full (classx1 : Int) (H : Hp) (K : Value → Hp → Prop) : B_arena_full classx1 H K = denF Try.prog Try.f62 .n [(.int .i64 classx1)] H K := by kernel_rfl
theorem den_arena_full {classx1 : Int} {H : Hp} {K : Value → Hp → Prop} (h : B_arena_full classx1 H K) : hcall PR f_arena_full ⟨[(.int .i64 classx1)]⟩ H K := denF_call Try.func62 PR_mixed (Eq.mp (E_arena_full classx1 H K) h)

def B_arena_Arena_take (a1 : Option Addr) (b2 : Int) (H : Hp) (K : Value → Hp → Prop) : Prop :=
 ∃ (I3 : Int → Hp → Prop) (m4 : Int → Hp → Nat), I3 0 H ∧ ∀ k6 : Int, ∀ Hx5 : Hp, I3 k6 Hx5 →
 nilP a1 fun aa7 =>
 ldSl (aa7.add 1) Hx5 fun takenP8 takenL9 takenC10 =>
 idxA takenP8 takenL9 b2 1 fun el11 =>
 ldI .u16 el11 Hx5 fun t12 =>
 (0 : Int) ≤ k6 ∧
 (bif (((bitOp .and .u16 (shrI .u16 t12 k6) 1) : Int) == 1) then
 I3 (IntKind.i64.wrap (k6 + 1)) Hx5 ∧ m4 (IntKind.i64.wrap (k6 + 1)) Hx5 < m4 k6 Hx5
else
 nilP a1 fun aa13 =>
 ldSl (aa13.add 1) Hx5 fun takenP14 takenL15 takenC16 =>
 idxA takenP14 takenL15 b2 1 fun el17 =>
 ldI .u16 el17 Hx5 fun t18 =>
 (0 : Int) ≤ k6 ∧
 idxA takenP14 takenL15 b2 1 fun el19 =>
 st el19 (.int .u16 (bitOp .or .u16 t18 (shlI .u16 1 k6))) Hx5 fun Hx20 =>
 nilP a1 fun aa21 =>
 ldSl aa21 Hx20 fun classP22 classL23 classC24 =>
 idxA classP22 classL23 b2 1 fun el25 =>
 ldI .i64 el25 Hx20 fun t26 =>
 K (.int .i64 (IntKind.i64.wrap ((IntKind.i64.wrap (b2 * 16)) + (IntKind.i64.wrap (k6 * t26))))) Hx20)
theorem E_arena_Arena_take (a1 : Option Addr) (b2 : Int) (H : Hp) (K : Value → Hp → Prop) : B_arena_Arena_take a1 b2 H K = denF Try.prog Try.f63 (.seq none .n (.seq none .n (.seq none (.sub (.loop ⟨[(5, .int .i64)], [0, 1]⟩ .n)) .n))) [(.pointer a1), (.int .i64 b2)] H K := by kernel_rfl
theorem den_arena_Arena_take {a1 : Option Addr} {b2 : Int} {H : Hp} {K : Value → Hp → Prop} (h : B_arena_Arena_take a1 b2 H K) : hcall PR f_arena_Arena_take ⟨[(.pointer a1), (.int .i64 b2)]⟩ H K := denF_call Try.func63 PR_mixed (Eq.mp (E_arena_Arena_take a1 b2 H K) h)

def B_arena_bits (x1 : Int) (H : Hp) (K : Value → Hp → Prop) : Prop :=
 ∃ (I2 : Int → Int → Hp → Prop) (m3 : Int → Int → Hp → Nat), I2 x1 0 H ∧ ∀ x5 : Int, ∀ n6 : Int, ∀ Hx4 : Hp, I2 x5 n6 Hx4 →
 (bif ((x5 : Int) != 0) then
 (0 : Int) ≤ 1 ∧
 I2 (shrI .u16 x5 1) (IntKind.i64.wrap (n6 + (IntKind.i64.wrap (bitOp .and .u16 x5 1)))) Hx4 ∧ m3 (shrI .u16 x5 1) (IntKind.i64.wrap (n6 + (IntKind.i64.wrap (bitOp .and .u16 x5 1)))) Hx4 < m3 x5 n6 Hx4
else
 K (.int .i64 n6) Hx4)
theorem E_arena_bits (x1 : Int) (H : Hp) (K : Value → Hp → Prop) : B_arena_bits x1 H K = denF Try.prog Try.f64 (.seq none .n (.seq none .n (.seq none (.sub (.loop ⟨[(0, .int .u16), (3, .int .i64)], []⟩ .n)) .n))) [(.int .u16 x1)] H K := by kernel_rfl
theorem den_arena_bits {x1 : Int} {H : Hp} {K : Value → Hp → Prop} (h : B_arena_bits x1 H K) : hcall PR f_arena_bits ⟨[(.int .u16 x1)]⟩ H K := denF_call Try.func64 PR_mixed (Eq.mp (E_arena_bits x1 H K) h)

def B_arena_Arena_place (a1 : Option Addr) (cell2 : Int) (H : Hp) (K : Value → Hp → Prop) : Prop :=
 (bif (decide ((cell2 : Int) < 0)) then
 K (.tuple #[(.int .i64 0), (.int .i64 0), (.bool false)]) H
else
 nilP a1 fun aa3 =>
 ldSl aa3 H fun classP4 classL5 classC6 =>
 (bif (decide ((cell2 : Int) ≥ (IntKind.i64.wrap ((classL5 : Int) * 16)))) then
 K (.tuple #[(.int .i64 0), (.int .i64 0), (.bool false)]) H
else
 (16 : Int) ≠ 0 ∧
 (16 : Int) ≠ 0 ∧
 nilP a1 fun aa7 =>
 ldSl aa7 H fun classP8 classL9 classC10 =>
 idxA classP8 classL9 (IntKind.i64.wrap (Int.tdiv cell2 16)) 1 fun el11 =>
 ldI .i64 el11 H fun t12 =>
 (bif ((t12 : Int) == 0) then
 K (.tuple #[(.int .i64 0), (.int .i64 0), (.bool false)]) H
else
 nilP a1 fun aa13 =>
 ldSl aa13 H fun classP14 classL15 classC16 =>
 idxA classP14 classL15 (IntKind.i64.wrap (Int.tdiv cell2 16)) 1 fun el17 =>
 ldI .i64 el17 H fun t18 =>
 (t18 : Int) ≠ 0 ∧
 (bif (((Int.tmod (Int.tmod cell2 16) t18) : Int) != 0) then
 K (.tuple #[(.int .i64 0), (.int .i64 0), (.bool false)]) H
else
 nilP a1 fun aa19 =>
 ldSl aa19 H fun classP20 classL21 classC22 =>
 idxA classP20 classL21 (IntKind.i64.wrap (Int.tdiv cell2 16)) 1 fun el23 =>
 ldI .i64 el23 H fun t24 =>
 (t24 : Int) ≠ 0 ∧
 nilP a1 fun aa25 =>
 ldSl (aa25.add 1) H fun takenP26 takenL27 takenC28 =>
 idxA takenP26 takenL27 (IntKind.i64.wrap (Int.tdiv cell2 16)) 1 fun el29 =>
 ldI .u16 el29 H fun t30 =>
 (0 : Int) ≤ (IntKind.i64.wrap (Int.tdiv (Int.tmod cell2 16) t24)) ∧
 K (.tuple #[(.int .i64 (IntKind.i64.wrap (Int.tdiv cell2 16))), (.int .i64 (IntKind.i64.wrap (Int.tdiv (Int.tmod cell2 16) t24))), (.bool (((bitOp .and .u16 (shrI .u16 t30 (IntKind.i64.wrap (Int.tdiv (Int.tmod cell2 16) t24))) 1) : Int) == 1))]) H))))
theorem E_arena_Arena_place (a1 : Option Addr) (cell2 : Int) (H : Hp) (K : Value → Hp → Prop) : B_arena_Arena_place a1 cell2 H K = denF Try.prog Try.f65 .n [(.pointer a1), (.int .i64 cell2)] H K := by kernel_rfl
theorem den_arena_Arena_place {a1 : Option Addr} {cell2 : Int} {H : Hp} {K : Value → Hp → Prop} (h : B_arena_Arena_place a1 cell2 H K) : hcall PR f_arena_Arena_place ⟨[(.pointer a1), (.int .i64 cell2)]⟩ H K := denF_call Try.func65 PR_mixed (Eq.mp (E_arena_Arena_place a1 cell2 H K) h)

def B_shake_all (lP1 : Option Addr) (lL2 : Nat) (lC3 : Nat) (H : Hp) (K : Value → Hp → Prop) : Prop :=
 ∃ (I4 : Int → Hp → Prop) (m5 : Int → Hp → Nat), I4 0 H ∧ ∀ t7 : Int, ∀ Hx6 : Hp, I4 t7 Hx6 →
 (bif (decide ((t7 : Int) < (lL2 : Int))) then
 idxA lP1 lL2 t7 1 fun el8 =>
 ldB el8 Hx6 fun t9 =>
 (bif (!t9) then
 K (.bool false) Hx6
else
 I4 (IntKind.i64.wrap (t7 + 1)) Hx6 ∧ m5 (IntKind.i64.wrap (t7 + 1)) Hx6 < m5 t7 Hx6)
else
 K (.bool true) Hx6)
theorem E_shake_all (lP1 : Option Addr) (lL2 : Nat) (lC3 : Nat) (H : Hp) (K : Value → Hp → Prop) : B_shake_all lP1 lL2 lC3 H K = denF Try.prog Try.f66 (.seq none .n (.seq none (.seq none .n (.sub (.loop ⟨[(7, .int .i64)], [5, 6]⟩ .n))) .n)) [(.slice lP1 lL2 lC3)] H K := by kernel_rfl
theorem den_shake_all {lP1 : Option Addr} {lL2 : Nat} {lC3 : Nat} {H : Hp} {K : Value → Hp → Prop} (h : B_shake_all lP1 lL2 lC3 H K) : hcall PR f_shake_all ⟨[(.slice lP1 lL2 lC3)]⟩ H K := denF_call Try.func66 PR_mixed (Eq.mp (E_shake_all lP1 lL2 lC3 H K) h)


end Go.Proofs.Ytdeihhfhcnhmfaa
