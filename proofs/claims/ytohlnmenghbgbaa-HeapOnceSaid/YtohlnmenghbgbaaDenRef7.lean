/- PRINTED by gen.py: functions as plain propositions, held against the program by the kernel. No condition. -/
import Derived.Test.YtohlnmenghbgbaaDenN
namespace Go.Proofs.Ytohlnmenghbgbaa
open Go
set_option linter.unusedVariables false
set_option maxRecDepth 100000

def B_ref7_New (cells1 : Int) (H : Hp) (K : Value → Hp → Prop) : Prop :=
(16 : Int) ≠ 0 ∧
(16 : Int) ≠ 0 ∧
(evW PR (Instr.makeSlice ty_Sint (.int .i64 (IntKind.i64.wrap (Int.tdiv cells1 16))) (.int .i64 (IntKind.i64.wrap (Int.tdiv cells1 16)))) H fun v2 Hx3 =>
asSl v2 fun mkP4 mkL5 mkC6 =>
evW PR (Instr.makeSlice ty_S_16_bool (.int .i64 (IntKind.i64.wrap (Int.tdiv cells1 16))) (.int .i64 (IntKind.i64.wrap (Int.tdiv cells1 16)))) Hx3 fun v7 Hx8 =>
asSl v7 fun mkP9 mkL10 mkC11 =>
newB (.cells #[(.slice mkP4 mkL5 mkC6), (.slice mkP9 mkL10 mkC11)] ty_ref7_Arena) Hx8 fun b12 Hx13 =>
K (.pointer (some ⟨b12, 0, none⟩)) Hx13) ∧
(evW PR (Instr.makeSlice ty_S_16_bool (.int .i64 (IntKind.i64.wrap (Int.tdiv cells1 16))) (.int .i64 (IntKind.i64.wrap (Int.tdiv cells1 16)))) H fun v14 Hx15 =>
asSl v14 fun mkP16 mkL17 mkC18 =>
evW PR (Instr.makeSlice ty_Sint (.int .i64 (IntKind.i64.wrap (Int.tdiv cells1 16))) (.int .i64 (IntKind.i64.wrap (Int.tdiv cells1 16)))) Hx15 fun v19 Hx20 =>
asSl v19 fun mkP21 mkL22 mkC23 =>
newB (.cells #[(.slice mkP21 mkL22 mkC23), (.slice mkP16 mkL17 mkC18)] ty_ref7_Arena) Hx20 fun b24 Hx25 =>
K (.pointer (some ⟨b24, 0, none⟩)) Hx25)
theorem E_ref7_New (cells1 : Int) (H : Hp) (K : Value → Hp → Prop) : B_ref7_New cells1 H K = denF Try.prog Try.f98 .n [(.int .i64 cells1)] H K := by kernel_rfl
theorem den_ref7_New {cells1 : Int} {H : Hp} {K : Value → Hp → Prop} (h : B_ref7_New cells1 H K) : hcall PR f_ref7_New ⟨[(.int .i64 cells1)]⟩ H K := denF_call Try.func98 PR_mixed (Eq.mp (E_ref7_New cells1 H K) h)

def B_ref7_Arena_Used (a1 : Option Addr) (H : Hp) (K : Value → Hp → Prop) : Prop :=
∃ (I2 : Int → Int → Hp → Prop) (m3 : Int → Int → Hp → Nat), I2 0 0 H ∧ ∀ n5 : Int, ∀ b6 : Int, ∀ Hx4 : Hp, I2 n5 b6 Hx4 →
nilP a1 fun aa7 =>
ldSl aa7 Hx4 fun ClassP8 ClassL9 ClassC10 =>
(bif (decide ((b6 : Int) < (ClassL9 : Int))) then
∃ (I11 : Int → Int → Hp → Prop) (m12 : Int → Int → Hp → Nat), I11 n5 0 Hx4 ∧ ∀ n14 : Int, ∀ i15 : Int, ∀ Hx13 : Hp, I11 n14 i15 Hx13 →
(bif (decide ((i15 : Int) < 16)) then
∀ R16 : Int → Hp → Prop, (∀ n18 : Int, ∀ Hx17 : Hp, (
I11 n18 (IntKind.i64.wrap (i15 + 1)) Hx17 ∧ m12 n18 (IntKind.i64.wrap (i15 + 1)) Hx17 < m12 n14 i15 Hx13) → R16 n18 Hx17) →
nilP a1 fun aa19 =>
ldSl (aa19.add 1) Hx13 fun TakenP20 TakenL21 TakenC22 =>
idxA TakenP20 TakenL21 b6 16 fun el23 =>
idxA (some el23) 16 i15 1 fun el24 =>
ldB el24 Hx13 fun t25 =>
(bif t25 then
nilP a1 fun aa26 =>
ldSl aa26 Hx13 fun ClassP27 ClassL28 ClassC29 =>
idxA ClassP27 ClassL28 b6 1 fun el30 =>
ldI .i64 el30 Hx13 fun t31 =>
R16 (IntKind.i64.wrap (n14 + t31)) Hx13
else
R16 n14 Hx13)
else
I2 n14 (IntKind.i64.wrap (b6 + 1)) Hx13 ∧ m3 n14 (IntKind.i64.wrap (b6 + 1)) Hx13 < m3 n5 b6 Hx4)
else
K (.int .i64 n5) Hx4)
theorem E_ref7_Arena_Used (a1 : Option Addr) (H : Hp) (K : Value → Hp → Prop) : B_ref7_Arena_Used a1 H K = denF Try.prog Try.f104 (.seq none .n (.seq none .n (.seq none (.seq none .n (.sub (.loop ⟨[(3, .int .i64), (4, .int .i64)], [0]⟩ (.seq none .n (.seq none (.sub (.seq none .n (.sub (.loop ⟨[(3, .int .i64), (5, .int .i64)], [0, 4]⟩ (.seq none .n (.seq (some ⟨[(3, .int .i64)], [0, 4, 5]⟩) .n .n)))))) .n))))) .n))) [(.pointer a1)] H K := by kernel_rfl
theorem den_ref7_Arena_Used {a1 : Option Addr} {H : Hp} {K : Value → Hp → Prop} (h : B_ref7_Arena_Used a1 H K) : hcall PR f_ref7_Arena_Used ⟨[(.pointer a1)]⟩ H K := denF_call Try.func104 PR_mixed (Eq.mp (E_ref7_Arena_Used a1 H K) h)

def B_ref7_Arena_Alloc (a1 : Option Addr) (size2 : Int) (H : Hp) (K : Value → Hp → Prop) : Prop :=
hcall PR f_ref7_Class ⟨[(.int .i64 size2)]⟩ H fun v3 Hx4 =>
asI .i64 v3 fun t5 =>
(bif ((t5 : Int) == 0) then
K (.tuple #[(.int .i64 0), (.int .i64 1)]) Hx4
else
∃ (I6 : Int → Hp → Prop) (m7 : Int → Hp → Nat), I6 0 Hx4 ∧ ∀ b9 : Int, ∀ Hx8 : Hp, I6 b9 Hx8 →
nilP a1 fun aa10 =>
ldSl aa10 Hx8 fun ClassP11 ClassL12 ClassC13 =>
(bif (decide ((b9 : Int) < (ClassL12 : Int))) then
∀ R14 : Hp → Prop, (∀ Hx15 : Hp, (
I6 (IntKind.i64.wrap (b9 + 1)) Hx15 ∧ m7 (IntKind.i64.wrap (b9 + 1)) Hx15 < m7 b9 Hx8) → R14 Hx15) →
∃ (I16 : Int → Hp → Prop) (m17 : Int → Hp → Nat), I16 0 Hx8 ∧ ∀ i19 : Int, ∀ Hx18 : Hp, I16 i19 Hx18 →
nilP a1 fun aa20 =>
ldSl aa20 Hx18 fun ClassP21 ClassL22 ClassC23 =>
idxA ClassP21 ClassL22 b9 1 fun el24 =>
ldI .i64 el24 Hx18 fun t25 =>
(bif ((t25 : Int) == t5) then
(t5 : Int) ≠ 0 ∧
(bif (decide ((i19 : Int) < (IntKind.i64.wrap (Int.tdiv 16 t5)))) then
nilP a1 fun aa26 =>
ldSl (aa26.add 1) Hx18 fun TakenP27 TakenL28 TakenC29 =>
idxA TakenP27 TakenL28 b9 16 fun el30 =>
idxA (some el30) 16 i19 1 fun el31 =>
ldB el31 Hx18 fun t32 =>
(bif (!t32) then
nilP a1 fun aa33 =>
ldSl (aa33.add 1) Hx18 fun TakenP34 TakenL35 TakenC36 =>
idxA TakenP34 TakenL35 b9 16 fun el37 =>
idxA (some el37) 16 i19 1 fun el38 =>
st el38 (.bool true) Hx18 fun Hx39 =>
K (.tuple #[(.int .i64 (IntKind.i64.wrap ((IntKind.i64.wrap (16 * b9)) + (IntKind.i64.wrap (t5 * i19))))), (.int .i64 0)]) Hx39
else
I16 (IntKind.i64.wrap (i19 + 1)) Hx18 ∧ m17 (IntKind.i64.wrap (i19 + 1)) Hx18 < m17 i19 Hx18)
else
R14 Hx18)
else
R14 Hx18)
else
∃ (I40 : Int → Hp → Prop) (m41 : Int → Hp → Nat), I40 0 Hx8 ∧ ∀ b43 : Int, ∀ Hx42 : Hp, I40 b43 Hx42 →
nilP a1 fun aa44 =>
ldSl aa44 Hx42 fun ClassP45 ClassL46 ClassC47 =>
(bif (decide ((b43 : Int) < (ClassL46 : Int))) then
nilP a1 fun aa48 =>
ldSl aa48 Hx42 fun ClassP49 ClassL50 ClassC51 =>
idxA ClassP49 ClassL50 b43 1 fun el52 =>
ldI .i64 el52 Hx42 fun t53 =>
(bif ((t53 : Int) == 0) then
nilP a1 fun aa54 =>
ldSl aa54 Hx42 fun ClassP55 ClassL56 ClassC57 =>
idxA ClassP55 ClassL56 b43 1 fun el58 =>
st el58 (.int .i64 t5) Hx42 fun Hx59 =>
nilP a1 fun aa60 =>
ldSl (aa60.add 1) Hx59 fun TakenP61 TakenL62 TakenC63 =>
idxA TakenP61 TakenL62 b43 16 fun el64 =>
idxA (some el64) 16 0 1 fun el65 =>
st el65 (.bool true) Hx59 fun Hx66 =>
K (.tuple #[(.int .i64 (IntKind.i64.wrap (16 * b43))), (.int .i64 0)]) Hx66
else
I40 (IntKind.i64.wrap (b43 + 1)) Hx42 ∧ m41 (IntKind.i64.wrap (b43 + 1)) Hx42 < m41 b43 Hx42)
else
K (.tuple #[(.int .i64 0), (.int .i64 2)]) Hx42)))
theorem E_ref7_Arena_Alloc (a1 : Option Addr) (size2 : Int) (H : Hp) (K : Value → Hp → Prop) : B_ref7_Arena_Alloc a1 size2 H K = denF Try.prog Try.f119 (.seq none .n (.seq none .n (.seq none .n (.seq none (.seq none .n (.sub (.loop ⟨[(7, .int .i64)], [0, 6]⟩ (.seq none .n (.seq (some ⟨[], [0, 6, 7]⟩) (.sub (.seq none .n (.sub (.loop ⟨[(8, .int .i64)], [0, 6, 7]⟩ .n)))) .n))))) (.seq none (.seq none .n (.sub (.loop ⟨[(9, .int .i64)], [0, 6]⟩ .n))) .n))))) [(.pointer a1), (.int .i64 size2)] H K := by kernel_rfl
theorem den_ref7_Arena_Alloc {a1 : Option Addr} {size2 : Int} {H : Hp} {K : Value → Hp → Prop} (h : B_ref7_Arena_Alloc a1 size2 H K) : hcall PR f_ref7_Arena_Alloc ⟨[(.pointer a1), (.int .i64 size2)]⟩ H K := denF_call Try.func119 PR_mixed (Eq.mp (E_ref7_Arena_Alloc a1 size2 H K) h)

def B_ref7_Arena_Free (a1 : Option Addr) (cell2 : Int) (H : Hp) (K : Value → Hp → Prop) : Prop :=
hcall PR f_ref7_Arena_At ⟨[(.pointer a1), (.int .i64 cell2)]⟩ H fun v3 Hx4 =>
asI .i64 v3 fun t5 =>
(bif ((t5 : Int) == 0) then
K (.int .i64 9) Hx4
else
(16 : Int) ≠ 0 ∧
nilP a1 fun aa6 =>
ldSl (aa6.add 1) Hx4 fun TakenP7 TakenL8 TakenC9 =>
(16 : Int) ≠ 0 ∧
(t5 : Int) ≠ 0 ∧
idxA TakenP7 TakenL8 (IntKind.i64.wrap (Int.tdiv cell2 16)) 16 fun el10 =>
idxA (some el10) 16 (IntKind.i64.wrap (Int.tdiv (Int.tmod cell2 16) t5)) 1 fun el11 =>
st el11 (.bool false) Hx4 fun Hx12 =>
nilP a1 fun aa13 =>
ldSl (aa13.add 1) Hx12 fun TakenP14 TakenL15 TakenC16 =>
idxA TakenP14 TakenL15 (IntKind.i64.wrap (Int.tdiv cell2 16)) 16 fun el17 =>
ldN el17 Hx12 0 16 fun tvs18 =>
evR PR (aggEq .eql ty_16_bool ⟨tvs18⟩ #[(.bool false), (.bool false), (.bool false), (.bool false), (.bool false), (.bool false), (.bool false), (.bool false), (.bool false), (.bool false), (.bool false), (.bool false), (.bool false), (.bool false), (.bool false), (.bool false)]) Hx12 fun v19 =>
asB v19 fun eq20 =>
(bif eq20 then
nilP a1 fun aa21 =>
ldSl aa21 Hx12 fun ClassP22 ClassL23 ClassC24 =>
idxA ClassP22 ClassL23 (IntKind.i64.wrap (Int.tdiv cell2 16)) 1 fun el25 =>
st el25 (.int .i64 0) Hx12 fun Hx26 =>
K (.int .i64 0) Hx26
else
K (.int .i64 0) Hx12))
theorem E_ref7_Arena_Free (a1 : Option Addr) (cell2 : Int) (H : Hp) (K : Value → Hp → Prop) : B_ref7_Arena_Free a1 cell2 H K = denF Try.prog Try.f120 .n [(.pointer a1), (.int .i64 cell2)] H K := by kernel_rfl
theorem den_ref7_Arena_Free {a1 : Option Addr} {cell2 : Int} {H : Hp} {K : Value → Hp → Prop} (h : B_ref7_Arena_Free a1 cell2 H K) : hcall PR f_ref7_Arena_Free ⟨[(.pointer a1), (.int .i64 cell2)]⟩ H K := denF_call Try.func120 PR_mixed (Eq.mp (E_ref7_Arena_Free a1 cell2 H K) h)

def B_ref7_Class (size1 : Int) (H : Hp) (K : Value → Hp → Prop) : Prop :=
∃ (I2 : Int → Hp → Prop) (m3 : Int → Hp → Nat), I2 1 H ∧ ∀ c5 : Int, ∀ Hx4 : Hp, I2 c5 Hx4 →
(bif (decide ((c5 : Int) ≤ 16)) then
∀ R6 : Hp → Prop, (∀ Hx7 : Hp, (
I2 (IntKind.i64.wrap (2 * c5)) Hx7 ∧ m3 (IntKind.i64.wrap (2 * c5)) Hx7 < m3 c5 Hx4) → R6 Hx7) →
(bif (decide ((size1 : Int) ≥ 1)) then
(bif (decide ((size1 : Int) ≤ c5)) then
K (.int .i64 c5) Hx4
else
R6 Hx4)
else
R6 Hx4)
else
K (.int .i64 0) Hx4)
theorem E_ref7_Class (size1 : Int) (H : Hp) (K : Value → Hp → Prop) : B_ref7_Class size1 H K = denF Try.prog Try.f142 (.seq none .n (.seq none (.seq none .n (.sub (.loop ⟨[(3, .int .i64)], [0]⟩ (.seq none .n (.seq (some ⟨[], [0, 3]⟩) .n .n))))) .n)) [(.int .i64 size1)] H K := by kernel_rfl
theorem den_ref7_Class {size1 : Int} {H : Hp} {K : Value → Hp → Prop} (h : B_ref7_Class size1 H K) : hcall PR f_ref7_Class ⟨[(.int .i64 size1)]⟩ H K := denF_call Try.func142 PR_mixed (Eq.mp (E_ref7_Class size1 H K) h)

def B_ref7_Arena_At (a1 : Option Addr) (cell2 : Int) (H : Hp) (K : Value → Hp → Prop) : Prop :=
(bif (decide ((cell2 : Int) < 0)) then
K (.int .i64 0) H
else
(16 : Int) ≠ 0 ∧
nilP a1 fun aa3 =>
ldSl aa3 H fun ClassP4 ClassL5 ClassC6 =>
(bif (decide (((IntKind.i64.wrap (Int.tdiv cell2 16)) : Int) ≥ (ClassL5 : Int))) then
K (.int .i64 0) H
else
nilP a1 fun aa7 =>
ldSl aa7 H fun ClassP8 ClassL9 ClassC10 =>
(16 : Int) ≠ 0 ∧
idxA ClassP8 ClassL9 (IntKind.i64.wrap (Int.tdiv cell2 16)) 1 fun el11 =>
ldI .i64 el11 H fun t12 =>
(bif ((t12 : Int) == 0) then
K (.int .i64 0) H
else
(16 : Int) ≠ 0 ∧
(t12 : Int) ≠ 0 ∧
(bif (((Int.tmod (Int.tmod cell2 16) t12) : Int) != 0) then
K (.int .i64 0) H
else
nilP a1 fun aa13 =>
ldSl (aa13.add 1) H fun TakenP14 TakenL15 TakenC16 =>
(16 : Int) ≠ 0 ∧
(16 : Int) ≠ 0 ∧
(t12 : Int) ≠ 0 ∧
idxA TakenP14 TakenL15 (IntKind.i64.wrap (Int.tdiv cell2 16)) 16 fun el17 =>
idxA (some el17) 16 (IntKind.i64.wrap (Int.tdiv (Int.tmod cell2 16) t12)) 1 fun el18 =>
ldB el18 H fun t19 =>
(bif (!t19) then
K (.int .i64 0) H
else
K (.int .i64 t12) H)))))
theorem E_ref7_Arena_At (a1 : Option Addr) (cell2 : Int) (H : Hp) (K : Value → Hp → Prop) : B_ref7_Arena_At a1 cell2 H K = denF Try.prog Try.f143 .n [(.pointer a1), (.int .i64 cell2)] H K := by kernel_rfl
theorem den_ref7_Arena_At {a1 : Option Addr} {cell2 : Int} {H : Hp} {K : Value → Hp → Prop} (h : B_ref7_Arena_At a1 cell2 H K) : hcall PR f_ref7_Arena_At ⟨[(.pointer a1), (.int .i64 cell2)]⟩ H K := denF_call Try.func143 PR_mixed (Eq.mp (E_ref7_Arena_At a1 cell2 H K) h)

end Go.Proofs.Ytohlnmenghbgbaa
