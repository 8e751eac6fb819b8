/- PRINTED by gen.py: functions as plain propositions, held against the program by the kernel. No condition. -/
import Derived.Test.YtdeihhfhcnhmfaaDenN
namespace Go.Proofs.Ytdeihhfhcnhmfaa
open Go
set_option linter.unusedVariables false
set_option maxRecDepth 100000

def B_law12_ShakeOrder (mutators1 : Int) (lP2 : Option Addr) (lL3 : Nat) (lC4 : Nat) (H : Hp) (K : Value → Hp → Prop) : Prop :=
 hcall PR f_hand_Pick ⟨[(.int .i64 mutators1), (.int .i64 4)]⟩ H fun v5 Hx6 =>
 asI .i64 v5 fun t7 =>
 hcall PR f_shake_New ⟨[(.int .i64 (IntKind.i64.wrap (1 + t7)))]⟩ Hx6 fun v8 Hx9 =>
 tup2 v8 fun v10 v11 =>
 asP v10 fun t12 =>
 asI .i64 v11 fun t13 =>
 hcall PR f_law12_known ⟨[]⟩ Hx9 fun v14 Hx15 =>
 asB v14 fun t16 =>
 (bif (!t16) then
 K (.bool false) Hx15
else
 (bif ((t13 : Int) != 0) then
 K (.bool false) Hx15
else
 (bif (Option.isNone (α := Addr) t12) then
 K (.bool false) Hx15
else
 hcall PR f_shake_Shake_Phase ⟨[(.pointer t12)]⟩ Hx15 fun v17 Hx18 =>
 asI .i64 v17 fun t19 =>
 ∃ (I20 : Int → Int → Hp → Prop) (m21 : Int → Int → Hp → Nat), I20 t19 0 Hx18 ∧ ∀ was23 : Int, ∀ i24 : Int, ∀ Hx22 : Hp, I20 was23 i24 Hx22 →
 (bif (decide ((i24 : Int) < (lL3 : Int))) then
 (bif (decide ((i24 : Int) < 300)) then
 ∀ R25 : Int → Hp → Prop, (∀ was27 : Int, ∀ Hx26 : Hp, (
 I20 was27 (IntKind.i64.wrap (i24 + 1)) Hx26 ∧ m21 was27 (IntKind.i64.wrap (i24 + 1)) Hx26 < m21 was23 i24 Hx22) → R25 was27 Hx26) →
 ∀ R28 : Hp → Prop, (∀ Hx29 : Hp, (
 ∃ (I30 : Int → Int → Int → Hp → Prop) (m31 : Int → Int → Int → Hp → Nat), I30 0 0 0 Hx29 ∧ ∀ armed33 : Int, ∀ scanned34 : Int, ∀ m35 : Int, ∀ Hx32 : Hp, I30 armed33 scanned34 m35 Hx32 →
 (bif (decide ((m35 : Int) ≤ (IntKind.i64.wrap (1 + t7)))) then
 ∀ R36 : Int → Int → Hp → Prop, (∀ armed38 : Int, ∀ scanned39 : Int, ∀ Hx37 : Hp, (
 I30 armed38 scanned39 (IntKind.i64.wrap (m35 + 1)) Hx37 ∧ m31 armed38 scanned39 (IntKind.i64.wrap (m35 + 1)) Hx37 < m31 armed33 scanned34 m35 Hx32) → R36 armed38 scanned39 Hx37) →
 ∀ R40 : Int → Hp → Prop, (∀ armed42 : Int, ∀ Hx41 : Hp, (
 hcall PR f_shake_Shake_HasScanned ⟨[(.pointer t12), (.int .i64 m35)]⟩ Hx41 fun v43 Hx44 =>
 asB v43 fun t45 =>
 (bif t45 then
 R36 armed42 (IntKind.i64.wrap (scanned34 + 1)) Hx44
else
 R36 armed42 scanned34 Hx44)) → R40 armed42 Hx41) →
 hcall PR f_shake_Shake_IsArmed ⟨[(.pointer t12), (.int .i64 m35)]⟩ Hx32 fun v46 Hx47 =>
 asB v46 fun t48 =>
 (bif t48 then
 R40 (IntKind.i64.wrap (armed33 + 1)) Hx47
else
 R40 armed33 Hx47)
else
 hcall PR f_shake_Shake_Phase ⟨[(.pointer t12)]⟩ Hx32 fun v49 Hx50 =>
 asI .i64 v49 fun t51 =>
 (4 : Int) ≠ 0 ∧
 (bif ((t51 : Int) != was23) then
 (bif ((t51 : Int) != (Int.tmod (IntKind.i64.wrap (was23 + 1)) 4)) then
 K (.bool false) Hx50
else
 (bif (decide ((scanned34 : Int) > 0)) then
 (bif (decide ((armed33 : Int) ≤ (IntKind.i64.wrap (1 + t7)))) then
 K (.bool false) Hx50
else
 (bif (!(((t51 : Int) == 3) == ((scanned34 : Int) == (IntKind.i64.wrap ((IntKind.i64.wrap (1 + t7)) + 1))))) then
 K (.bool false) Hx50
else
 (bif ((t51 : Int) == 0) then
 (bif (decide ((armed33 : Int) > 0)) then
 K (.bool false) Hx50
else
 (bif ((t51 : Int) == 2) then
 (bif ((armed33 : Int) != (IntKind.i64.wrap ((IntKind.i64.wrap (1 + t7)) + 1))) then
 K (.bool false) Hx50
else
 (bif ((t51 : Int) == 1) then
 (bif ((armed33 : Int) == 0) then
 K (.bool false) Hx50
else
 (bif ((armed33 : Int) == (IntKind.i64.wrap ((IntKind.i64.wrap (1 + t7)) + 1))) then
 K (.bool false) Hx50
else
 R25 t51 Hx50))
else
 R25 t51 Hx50))
else
 (bif ((t51 : Int) == 3) then
 (bif ((armed33 : Int) != (IntKind.i64.wrap ((IntKind.i64.wrap (1 + t7)) + 1))) then
 K (.bool false) Hx50
else
 (bif ((t51 : Int) == 1) then
 (bif ((armed33 : Int) == 0) then
 K (.bool false) Hx50
else
 (bif ((armed33 : Int) == (IntKind.i64.wrap ((IntKind.i64.wrap (1 + t7)) + 1))) then
 K (.bool false) Hx50
else
 R25 t51 Hx50))
else
 R25 t51 Hx50))
else
 (bif ((t51 : Int) == 1) then
 (bif ((armed33 : Int) == 0) then
 K (.bool false) Hx50
else
 (bif ((armed33 : Int) == (IntKind.i64.wrap ((IntKind.i64.wrap (1 + t7)) + 1))) then
 K (.bool false) Hx50
else
 R25 t51 Hx50))
else
 R25 t51 Hx50))))
else
 (bif ((t51 : Int) == 2) then
 (bif ((armed33 : Int) != (IntKind.i64.wrap ((IntKind.i64.wrap (1 + t7)) + 1))) then
 K (.bool false) Hx50
else
 (bif ((t51 : Int) == 1) then
 (bif ((armed33 : Int) == 0) then
 K (.bool false) Hx50
else
 (bif ((armed33 : Int) == (IntKind.i64.wrap ((IntKind.i64.wrap (1 + t7)) + 1))) then
 K (.bool false) Hx50
else
 R25 t51 Hx50))
else
 R25 t51 Hx50))
else
 (bif ((t51 : Int) == 3) then
 (bif ((armed33 : Int) != (IntKind.i64.wrap ((IntKind.i64.wrap (1 + t7)) + 1))) then
 K (.bool false) Hx50
else
 (bif ((t51 : Int) == 1) then
 (bif ((armed33 : Int) == 0) then
 K (.bool false) Hx50
else
 (bif ((armed33 : Int) == (IntKind.i64.wrap ((IntKind.i64.wrap (1 + t7)) + 1))) then
 K (.bool false) Hx50
else
 R25 t51 Hx50))
else
 R25 t51 Hx50))
else
 (bif ((t51 : Int) == 1) then
 (bif ((armed33 : Int) == 0) then
 K (.bool false) Hx50
else
 (bif ((armed33 : Int) == (IntKind.i64.wrap ((IntKind.i64.wrap (1 + t7)) + 1))) then
 K (.bool false) Hx50
else
 R25 t51 Hx50))
else
 R25 t51 Hx50))))))
else
 (bif (!(((t51 : Int) == 3) == ((scanned34 : Int) == (IntKind.i64.wrap ((IntKind.i64.wrap (1 + t7)) + 1))))) then
 K (.bool false) Hx50
else
 (bif ((t51 : Int) == 0) then
 (bif (decide ((armed33 : Int) > 0)) then
 K (.bool false) Hx50
else
 (bif ((t51 : Int) == 2) then
 (bif ((armed33 : Int) != (IntKind.i64.wrap ((IntKind.i64.wrap (1 + t7)) + 1))) then
 K (.bool false) Hx50
else
 (bif ((t51 : Int) == 1) then
 (bif ((armed33 : Int) == 0) then
 K (.bool false) Hx50
else
 (bif ((armed33 : Int) == (IntKind.i64.wrap ((IntKind.i64.wrap (1 + t7)) + 1))) then
 K (.bool false) Hx50
else
 R25 t51 Hx50))
else
 R25 t51 Hx50))
else
 (bif ((t51 : Int) == 3) then
 (bif ((armed33 : Int) != (IntKind.i64.wrap ((IntKind.i64.wrap (1 + t7)) + 1))) then
 K (.bool false) Hx50
else
 (bif ((t51 : Int) == 1) then
 (bif ((armed33 : Int) == 0) then
 K (.bool false) Hx50
else
 (bif ((armed33 : Int) == (IntKind.i64.wrap ((IntKind.i64.wrap (1 + t7)) + 1))) then
 K (.bool false) Hx50
else
 R25 t51 Hx50))
else
 R25 t51 Hx50))
else
 (bif ((t51 : Int) == 1) then
 (bif ((armed33 : Int) == 0) then
 K (.bool false) Hx50
else
 (bif ((armed33 : Int) == (IntKind.i64.wrap ((IntKind.i64.wrap (1 + t7)) + 1))) then
 K (.bool false) Hx50
else
 R25 t51 Hx50))
else
 R25 t51 Hx50))))
else
 (bif ((t51 : Int) == 2) then
 (bif ((armed33 : Int) != (IntKind.i64.wrap ((IntKind.i64.wrap (1 + t7)) + 1))) then
 K (.bool false) Hx50
else
 (bif ((t51 : Int) == 1) then
 (bif ((armed33 : Int) == 0) then
 K (.bool false) Hx50
else
 (bif ((armed33 : Int) == (IntKind.i64.wrap ((IntKind.i64.wrap (1 + t7)) + 1))) then
 K (.bool false) Hx50
else
 R25 t51 Hx50))
else
 R25 t51 Hx50))
else
 (bif ((t51 : Int) == 3) then
 (bif ((armed33 : Int) != (IntKind.i64.wrap ((IntKind.i64.wrap (1 + t7)) + 1))) then
 K (.bool false) Hx50
else
 (bif ((t51 : Int) == 1) then
 (bif ((armed33 : Int) == 0) then
 K (.bool false) Hx50
else
 (bif ((armed33 : Int) == (IntKind.i64.wrap ((IntKind.i64.wrap (1 + t7)) + 1))) then
 K (.bool false) Hx50
else
 R25 t51 Hx50))
else
 R25 t51 Hx50))
else
 (bif ((t51 : Int) == 1) then
 (bif ((armed33 : Int) == 0) then
 K (.bool false) Hx50
else
 (bif ((armed33 : Int) == (IntKind.i64.wrap ((IntKind.i64.wrap (1 + t7)) + 1))) then
 K (.bool false) Hx50
else
 R25 t51 Hx50))
else
 R25 t51 Hx50)))))))
else
 (bif (decide ((scanned34 : Int) > 0)) then
 (bif (decide ((armed33 : Int) ≤ (IntKind.i64.wrap (1 + t7)))) then
 K (.bool false) Hx50
else
 (bif (!(((t51 : Int) == 3) == ((scanned34 : Int) == (IntKind.i64.wrap ((IntKind.i64.wrap (1 + t7)) + 1))))) then
 K (.bool false) Hx50
else
 (bif ((t51 : Int) == 0) then
 (bif (decide ((armed33 : Int) > 0)) then
 K (.bool false) Hx50
else
 (bif ((t51 : Int) == 2) then
 (bif ((armed33 : Int) != (IntKind.i64.wrap ((IntKind.i64.wrap (1 + t7)) + 1))) then
 K (.bool false) Hx50
else
 (bif ((t51 : Int) == 1) then
 (bif ((armed33 : Int) == 0) then
 K (.bool false) Hx50
else
 (bif ((armed33 : Int) == (IntKind.i64.wrap ((IntKind.i64.wrap (1 + t7)) + 1))) then
 K (.bool false) Hx50
else
 R25 t51 Hx50))
else
 R25 t51 Hx50))
else
 (bif ((t51 : Int) == 3) then
 (bif ((armed33 : Int) != (IntKind.i64.wrap ((IntKind.i64.wrap (1 + t7)) + 1))) then
 K (.bool false) Hx50
else
 (bif ((t51 : Int) == 1) then
 (bif ((armed33 : Int) == 0) then
 K (.bool false) Hx50
else
 (bif ((armed33 : Int) == (IntKind.i64.wrap ((IntKind.i64.wrap (1 + t7)) + 1))) then
 K (.bool false) Hx50
else
 R25 t51 Hx50))
else
 R25 t51 Hx50))
else
 (bif ((t51 : Int) == 1) then
 (bif ((armed33 : Int) == 0) then
 K (.bool false) Hx50
else
 (bif ((armed33 : Int) == (IntKind.i64.wrap ((IntKind.i64.wrap (1 + t7)) + 1))) then
 K (.bool false) Hx50
else
 R25 t51 Hx50))
else
 R25 t51 Hx50))))
else
 (bif ((t51 : Int) == 2) then
 (bif ((armed33 : Int) != (IntKind.i64.wrap ((IntKind.i64.wrap (1 + t7)) + 1))) then
 K (.bool false) Hx50
else
 (bif ((t51 : Int) == 1) then
 (bif ((armed33 : Int) == 0) then
 K (.bool false) Hx50
else
 (bif ((armed33 : Int) == (IntKind.i64.wrap ((IntKind.i64.wrap (1 + t7)) + 1))) then
 K (.bool false) Hx50
else
 R25 t51 Hx50))
else
 R25 t51 Hx50))
else
 (bif ((t51 : Int) == 3) then
 (bif ((armed33 : Int) != (IntKind.i64.wrap ((IntKind.i64.wrap (1 + t7)) + 1))) then
 K (.bool false) Hx50
else
 (bif ((t51 : Int) == 1) then
 (bif ((armed33 : Int) == 0) then
 K (.bool false) Hx50
else
 (bif ((armed33 : Int) == (IntKind.i64.wrap ((IntKind.i64.wrap (1 + t7)) + 1))) then
 K (.bool false) Hx50
else
 R25 t51 Hx50))
else
 R25 t51 Hx50))
else
 (bif ((t51 : Int) == 1) then
 (bif ((armed33 : Int) == 0) then
 K (.bool false) Hx50
else
 (bif ((armed33 : Int) == (IntKind.i64.wrap ((IntKind.i64.wrap (1 + t7)) + 1))) then
 K (.bool false) Hx50
else
 R25 t51 Hx50))
else
 R25 t51 Hx50))))))
else
 (bif (!(((t51 : Int) == 3) == ((scanned34 : Int) == (IntKind.i64.wrap ((IntKind.i64.wrap (1 + t7)) + 1))))) then
 K (.bool false) Hx50
else
 (bif ((t51 : Int) == 0) then
 (bif (decide ((armed33 : Int) > 0)) then
 K (.bool false) Hx50
else
 (bif ((t51 : Int) == 2) then
 (bif ((armed33 : Int) != (IntKind.i64.wrap ((IntKind.i64.wrap (1 + t7)) + 1))) then
 K (.bool false) Hx50
else
 (bif ((t51 : Int) == 1) then
 (bif ((armed33 : Int) == 0) then
 K (.bool false) Hx50
else
 (bif ((armed33 : Int) == (IntKind.i64.wrap ((IntKind.i64.wrap (1 + t7)) + 1))) then
 K (.bool false) Hx50
else
 R25 t51 Hx50))
else
 R25 t51 Hx50))
else
 (bif ((t51 : Int) == 3) then
 (bif ((armed33 : Int) != (IntKind.i64.wrap ((IntKind.i64.wrap (1 + t7)) + 1))) then
 K (.bool false) Hx50
else
 (bif ((t51 : Int) == 1) then
 (bif ((armed33 : Int) == 0) then
 K (.bool false) Hx50
else
 (bif ((armed33 : Int) == (IntKind.i64.wrap ((IntKind.i64.wrap (1 + t7)) + 1))) then
 K (.bool false) Hx50
else
 R25 t51 Hx50))
else
 R25 t51 Hx50))
else
 (bif ((t51 : Int) == 1) then
 (bif ((armed33 : Int) == 0) then
 K (.bool false) Hx50
else
 (bif ((armed33 : Int) == (IntKind.i64.wrap ((IntKind.i64.wrap (1 + t7)) + 1))) then
 K (.bool false) Hx50
else
 R25 t51 Hx50))
else
 R25 t51 Hx50))))
else
 (bif ((t51 : Int) == 2) then
 (bif ((armed33 : Int) != (IntKind.i64.wrap ((IntKind.i64.wrap (1 + t7)) + 1))) then
 K (.bool false) Hx50
else
 (bif ((t51 : Int) == 1) then
 (bif ((armed33 : Int) == 0) then
 K (.bool false) Hx50
else
 (bif ((armed33 : Int) == (IntKind.i64.wrap ((IntKind.i64.wrap (1 + t7)) + 1))) then
 K (.bool false) Hx50
else
 R25 t51 Hx50))
else
 R25 t51 Hx50))
else
 (bif ((t51 : Int) == 3) then
 (bif ((armed33 : Int) != (IntKind.i64.wrap ((IntKind.i64.wrap (1 + t7)) + 1))) then
 K (.bool false) Hx50
else
 (bif ((t51 : Int) == 1) then
 (bif ((armed33 : Int) == 0) then
 K (.bool false) Hx50
else
 (bif ((armed33 : Int) == (IntKind.i64.wrap ((IntKind.i64.wrap (1 + t7)) + 1))) then
 K (.bool false) Hx50
else
 R25 t51 Hx50))
else
 R25 t51 Hx50))
else
 (bif ((t51 : Int) == 1) then
 (bif ((armed33 : Int) == 0) then
 K (.bool false) Hx50
else
 (bif ((armed33 : Int) == (IntKind.i64.wrap ((IntKind.i64.wrap (1 + t7)) + 1))) then
 K (.bool false) Hx50
else
 R25 t51 Hx50))
else
 R25 t51 Hx50))))))))) → R28 Hx29) →
 idxA lP2 lL3 i24 1 fun el52 =>
 ldI .i64 el52 Hx22 fun t53 =>
 hcall PR f_hand_Pick ⟨[(.int .i64 t53), (.int .i64 (IntKind.i64.wrap ((IntKind.i64.wrap (1 + t7)) + 4)))]⟩ Hx22 fun v54 Hx55 =>
 asI .i64 v54 fun t56 =>
 (bif (decide ((t56 : Int) > (IntKind.i64.wrap ((IntKind.i64.wrap (1 + t7)) + 2)))) then
 hcall PR f_shake_Shake_Begin ⟨[(.pointer t12)]⟩ Hx55 fun v57 Hx58 =>
 asI .i64 v57 fun t59 =>
 R28 Hx58
else
 (bif ((t56 : Int) == (IntKind.i64.wrap ((IntKind.i64.wrap (1 + t7)) + 2))) then
 hcall PR f_shake_Shake_End ⟨[(.pointer t12)]⟩ Hx55 fun v60 Hx61 =>
 asI .i64 v60 fun t62 =>
 R28 Hx61
else
 hcall PR f_shake_Shake_Answer ⟨[(.pointer t12), (.int .i64 t56)]⟩ Hx55 fun v63 Hx64 =>
 asI .i64 v63 fun t65 =>
 R28 Hx64))
else
 K (.bool true) Hx22)
else
 K (.bool true) Hx22))))
theorem E_law12_ShakeOrder (mutators1 : Int) (lP2 : Option Addr) (lL3 : Nat) (lC4 : Nat) (H : Hp) (K : Value → Hp → Prop) : B_law12_ShakeOrder mutators1 lP2 lL3 lC4 H K = denF Try.prog Try.f10 (.seq none .n (.seq none .n (.seq none .n (.seq none .n (.seq none .n (.seq none (.seq none .n (.sub (.loop ⟨[(8, .int .i64), (9, .int .i64)], [1, 5, 6]⟩ (.seq none .n (.seq (some ⟨[(8, .int .i64)], [1, 5, 6, 9]⟩) (.sub (.seq (some ⟨[], [1, 5, 6, 8, 9]⟩) .n (.seq none .n (.seq none .n (.seq none (.seq none .n (.sub (.loop ⟨[(11, .int .i64), (12, .int .i64), (13, .int .i64)], [1, 5, 6, 8, 9]⟩ (.seq none .n (.seq (some ⟨[(11, .int .i64), (12, .int .i64)], [1, 5, 6, 8, 9, 13]⟩) (.sub (.seq (some ⟨[(11, .int .i64)], [1, 5, 6, 8, 9, 12, 13]⟩) .n .n)) .n))))) .n))))) .n))))) .n)))))) [(.int .i64 mutators1), (.slice lP2 lL3 lC4)] H K := by kernel_rfl
theorem den_law12_ShakeOrder {mutators1 : Int} {lP2 : Option Addr} {lL3 : Nat} {lC4 : Nat} {H : Hp} {K : Value → Hp → Prop} (h : B_law12_ShakeOrder mutators1 lP2 lL3 lC4 H K) : hcall PR f_law12_ShakeOrder ⟨[(.int .i64 mutators1), (.slice lP2 lL3 lC4)]⟩ H K := denF_call Try.func10 PR_mixed (Eq.mp (E_law12_ShakeOrder mutators1 lP2 lL3 lC4 H K) h)

def B_law7_ArenaRoom (blocks1 : Int) (sizesP2 : Option Addr) (sizesL3 : Nat) (sizesC4 : Nat) (size5 : Int) (H : Hp) (K : Value → Hp → Prop) : Prop :=
 hcall PR f_hand_Pick ⟨[(.int .i64 blocks1), (.int .i64 10)]⟩ H fun v6 Hx7 =>
 asI .i64 v6 fun t8 =>
 hcall PR f_hand_Pick ⟨[(.int .i64 size5), (.int .i64 16)]⟩ Hx7 fun v9 Hx10 =>
 asI .i64 v9 fun t11 =>
 hcall PR f_arena_New ⟨[(.int .i64 (IntKind.i64.wrap (16 * (IntKind.i64.wrap (1 + t8)))))]⟩ Hx10 fun v12 Hx13 =>
 tup2 v12 fun v14 v15 =>
 asP v14 fun t16 =>
 asI .i64 v15 fun t17 =>
 hcall PR f_law7_known ⟨[]⟩ Hx13 fun v18 Hx19 =>
 asB v18 fun t20 =>
 (bif (!t20) then
 K (.bool false) Hx19
else
 (bif ((t17 : Int) != 0) then
 K (.bool false) Hx19
else
 (bif (Option.isNone (α := Addr) t16) then
 K (.bool false) Hx19
else
 ∀ R21 : Hp → Prop, (∀ Hx22 : Hp, (
 hcall PR f_arena_Arena_Room ⟨[(.pointer t16), (.int .i64 (IntKind.i64.wrap (1 + t11)))]⟩ Hx22 fun v23 Hx24 =>
 asI .i64 v23 fun t25 =>
 ∃ (I26 : Int → Hp → Prop) (m27 : Int → Hp → Nat), I26 0 Hx24 ∧ ∀ i29 : Int, ∀ Hx28 : Hp, I26 i29 Hx28 →
 (bif (decide ((i29 : Int) < t25)) then
 hcall PR f_arena_Arena_Alloc ⟨[(.pointer t16), (.int .i64 (IntKind.i64.wrap (1 + t11)))]⟩ Hx28 fun v30 Hx31 =>
 tup2 v30 fun v32 v33 =>
 asI .i64 v32 fun t34 =>
 asI .i64 v33 fun t35 =>
 (bif ((t35 : Int) != 0) then
 K (.bool false) Hx31
else
 hcall PR f_arena_Arena_Room ⟨[(.pointer t16), (.int .i64 (IntKind.i64.wrap (1 + t11)))]⟩ Hx31 fun v36 Hx37 =>
 asI .i64 v36 fun t38 =>
 (bif ((t38 : Int) != (IntKind.i64.wrap ((IntKind.i64.wrap (t25 - i29)) - 1))) then
 K (.bool false) Hx37
else
 I26 (IntKind.i64.wrap (i29 + 1)) Hx37 ∧ m27 (IntKind.i64.wrap (i29 + 1)) Hx37 < m27 i29 Hx28))
else
 hcall PR f_arena_Arena_Alloc ⟨[(.pointer t16), (.int .i64 (IntKind.i64.wrap (1 + t11)))]⟩ Hx28 fun v39 Hx40 =>
 tup2 v39 fun v41 v42 =>
 asI .i64 v41 fun t43 =>
 asI .i64 v42 fun t44 =>
 (bif ((t44 : Int) == 2) then
 K (.bool (decide ((t25 : Int) ≤ (IntKind.i64.wrap (16 * (IntKind.i64.wrap (1 + t8))))))) Hx40
else
 K (.bool false) Hx40))) → R21 Hx22) →
 ∃ (I45 : Int → Hp → Prop) (m46 : Int → Hp → Nat), I45 0 Hx19 ∧ ∀ i48 : Int, ∀ Hx47 : Hp, I45 i48 Hx47 →
 (bif (decide ((i48 : Int) < (sizesL3 : Int))) then
 (bif (decide ((i48 : Int) < 100)) then
 idxA sizesP2 sizesL3 i48 1 fun el49 =>
 ldI .i64 el49 Hx47 fun t50 =>
 hcall PR f_hand_Pick ⟨[(.int .i64 t50), (.int .i64 16)]⟩ Hx47 fun v51 Hx52 =>
 asI .i64 v51 fun t53 =>
 hcall PR f_arena_Arena_Alloc ⟨[(.pointer t16), (.int .i64 (IntKind.i64.wrap (1 + t53)))]⟩ Hx52 fun v54 Hx55 =>
 tup2 v54 fun v56 v57 =>
 asI .i64 v56 fun t58 =>
 asI .i64 v57 fun t59 =>
 I45 (IntKind.i64.wrap (i48 + 1)) Hx55 ∧ m46 (IntKind.i64.wrap (i48 + 1)) Hx55 < m46 i48 Hx47
else
 R21 Hx47)
else
 R21 Hx47))))
theorem E_law7_ArenaRoom (blocks1 : Int) (sizesP2 : Option Addr) (sizesL3 : Nat) (sizesC4 : Nat) (size5 : Int) (H : Hp) (K : Value → Hp → Prop) : B_law7_ArenaRoom blocks1 sizesP2 sizesL3 sizesC4 size5 H K = denF Try.prog Try.f11 (.seq none .n (.seq none .n (.seq none .n (.seq none .n (.seq none .n (.seq (some ⟨[], [0, 2, 7]⟩) (.seq none .n (.sub (.loop ⟨[(9, .int .i64)], [0, 1, 2, 7]⟩ .n))) (.seq none .n (.seq none (.seq none .n (.sub (.loop ⟨[(11, .int .i64)], [0, 2, 7, 10]⟩ .n))) .n)))))))) [(.int .i64 blocks1), (.slice sizesP2 sizesL3 sizesC4), (.int .i64 size5)] H K := by kernel_rfl
theorem den_law7_ArenaRoom {blocks1 : Int} {sizesP2 : Option Addr} {sizesL3 : Nat} {sizesC4 : Nat} {size5 : Int} {H : Hp} {K : Value → Hp → Prop} (h : B_law7_ArenaRoom blocks1 sizesP2 sizesL3 sizesC4 size5 H K) : hcall PR f_law7_ArenaRoom ⟨[(.int .i64 blocks1), (.slice sizesP2 sizesL3 sizesC4), (.int .i64 size5)]⟩ H K := denF_call Try.func11 PR_mixed (Eq.mp (E_law7_ArenaRoom blocks1 sizesP2 sizesL3 sizesC4 size5 H K) h)

def B_law7_ArenaApart (blocks1 : Int) (sizesP2 : Option Addr) (sizesL3 : Nat) (sizesC4 : Nat) (freesP5 : Option Addr) (freesL6 : Nat) (freesC7 : Nat) (H : Hp) (K : Value → Hp → Prop) : Prop :=
 hcall PR f_hand_Pick ⟨[(.int .i64 blocks1), (.int .i64 12)]⟩ H fun v8 Hx9 =>
 asI .i64 v8 fun t10 =>
 hcall PR f_arena_New ⟨[(.int .i64 (IntKind.i64.wrap (16 * (IntKind.i64.wrap (1 + t10)))))]⟩ Hx9 fun v11 Hx12 =>
 tup2 v11 fun v13 v14 =>
 asP v13 fun t15 =>
 asI .i64 v14 fun t16 =>
 hcall PR f_law7_known ⟨[]⟩ Hx12 fun v17 Hx18 =>
 asB v17 fun t19 =>
 (bif (!t19) then
 K (.bool false) Hx18
else
 (bif ((t16 : Int) != 0) then
 K (.bool false) Hx18
else
 (bif (Option.isNone (α := Addr) t15) then
 K (.bool false) Hx18
else
 evW PR (Instr.makeSlice ty_Sint (.int .i64 (IntKind.i64.wrap (16 * (IntKind.i64.wrap (1 + t10))))) (.int .i64 (IntKind.i64.wrap (16 * (IntKind.i64.wrap (1 + t10)))))) Hx18 fun v20 Hx21 =>
 asSl v20 fun mkP22 mkL23 mkC24 =>
 ∃ (I25 : Option Addr → Nat → Nat → Option Addr → Nat → Nat → Int → Hp → Prop) (m26 : Option Addr → Nat → Nat → Option Addr → Nat → Nat → Int → Hp → Nat), I25 none 0 0 none 0 0 0 Hx21 ∧ ∀ atP28 : Option Addr, ∀ atL29 : Nat, ∀ atC30 : Nat, ∀ ofP31 : Option Addr, ∀ ofL32 : Nat, ∀ ofC33 : Nat, ∀ i34 : Int, ∀ Hx27 : Hp, I25 atP28 atL29 atC30 ofP31 ofL32 ofC33 i34 Hx27 →
 (bif (decide ((i34 : Int) < (sizesL3 : Int))) then
 (bif (decide ((i34 : Int) < 300)) then
 ∀ R35 : Option Addr → Nat → Nat → Option Addr → Nat → Nat → Hp → Prop, (∀ atP37 : Option Addr, ∀ atL38 : Nat, ∀ atC39 : Nat, ∀ ofP40 : Option Addr, ∀ ofL41 : Nat, ∀ ofC42 : Nat, ∀ Hx36 : Hp, (
 I25 atP37 atL38 atC39 ofP40 ofL41 ofC42 (IntKind.i64.wrap (i34 + 1)) Hx36 ∧ m26 atP37 atL38 atC39 ofP40 ofL41 ofC42 (IntKind.i64.wrap (i34 + 1)) Hx36 < m26 atP28 atL29 atC30 ofP31 ofL32 ofC33 i34 Hx27) → R35 atP37 atL38 atC39 ofP40 ofL41 ofC42 Hx36) →
 idxA sizesP2 sizesL3 i34 1 fun el43 =>
 ldI .i64 el43 Hx27 fun t44 =>
 hcall PR f_hand_Pick ⟨[(.int .i64 t44), (.int .i64 16)]⟩ Hx27 fun v45 Hx46 =>
 asI .i64 v45 fun t47 =>
 hcall PR f_arena_Arena_Alloc ⟨[(.pointer t15), (.int .i64 (IntKind.i64.wrap (1 + t47)))]⟩ Hx46 fun v48 Hx49 =>
 tup2 v48 fun v50 v51 =>
 asI .i64 v50 fun t52 =>
 asI .i64 v51 fun t53 =>
 ∀ R54 : Hp → Prop, (∀ Hx55 : Hp, (
 ∀ R56 : Option Addr → Nat → Nat → Option Addr → Nat → Nat → Hp → Prop, (∀ atP58 : Option Addr, ∀ atL59 : Nat, ∀ atC60 : Nat, ∀ ofP61 : Option Addr, ∀ ofL62 : Nat, ∀ ofC63 : Nat, ∀ Hx57 : Hp, (
 (bif (decide ((i34 : Int) < (freesL6 : Int))) then
 idxA freesP5 freesL6 i34 1 fun el64 =>
 ldI .i64 el64 Hx57 fun t65 =>
 (3 : Int) ≠ 0 ∧
 (bif (((Int.tmod t65 3) : Int) == 0) then
 (bif (decide (((atL59 : Int) : Int) > 0)) then
 idxA freesP5 freesL6 i34 1 fun el66 =>
 ldI .i64 el66 Hx57 fun t67 =>
 hcall PR f_hand_Pick ⟨[(.int .i64 t67), (.int .i64 (atL59 : Int))]⟩ Hx57 fun v68 Hx69 =>
 asI .i64 v68 fun t70 =>
 idxA atP58 atL59 t70 1 fun el71 =>
 ldI .i64 el71 Hx69 fun t72 =>
 hcall PR f_arena_Arena_Free ⟨[(.pointer t15), (.int .i64 t72)]⟩ Hx69 fun v73 Hx74 =>
 asI .i64 v73 fun t75 =>
 (bif ((t75 : Int) != 0) then
 K (.bool false) Hx74
else
 idxA atP58 atL59 t70 1 fun el76 =>
 ldI .i64 el76 Hx74 fun t77 =>
 hcall PR f_arena_Arena_At ⟨[(.pointer t15), (.int .i64 t77)]⟩ Hx74 fun v78 Hx79 =>
 asI .i64 v78 fun t80 =>
 (bif ((t80 : Int) != 0) then
 K (.bool false) Hx79
else
 idxA atP58 atL59 t70 1 fun el81 =>
 ldI .i64 el81 Hx79 fun t82 =>
 ∃ (I83 : Int → Hp → Prop) (m84 : Int → Hp → Nat), I83 t82 Hx79 ∧ ∀ j86 : Int, ∀ Hx85 : Hp, I83 j86 Hx85 →
 idxA atP58 atL59 t70 1 fun el87 =>
 ldI .i64 el87 Hx85 fun t88 =>
 idxA ofP61 ofL62 t70 1 fun el89 =>
 ldI .i64 el89 Hx85 fun t90 =>
 (bif (decide ((j86 : Int) < (IntKind.i64.wrap (t88 + t90)))) then
 idxA mkP22 mkL23 j86 1 fun el91 =>
 st el91 (.int .i64 0) Hx85 fun Hx92 =>
 I83 (IntKind.i64.wrap (j86 + 1)) Hx92 ∧ m84 (IntKind.i64.wrap (j86 + 1)) Hx92 < m84 j86 Hx85
else
 slcD atP58 atL59 atC60 none (some t70) 1 fun sP93 sL94 sC95 =>
 slcD atP58 atL59 atC60 (some (IntKind.i64.wrap (t70 + 1))) none 1 fun sP96 sL97 sC98 =>
 newB (.cells #[] ty_int) Hx85 fun b99 Hx100 =>
 evW PR (Builtin.append_ #[ty_Sint, ty_Sint] ty_Sint #[(.slice (some ⟨b99, 0, none⟩) 0 0), (.slice sP93 sL94 sC95)]) Hx100 fun v101 Hx102 =>
 asSl v101 fun tP103 tL104 tC105 =>
 evW PR (Builtin.append_ #[ty_Sint, ty_Sint] ty_Sint #[(.slice tP103 tL104 tC105), (.slice sP96 sL97 sC98)]) Hx102 fun v106 Hx107 =>
 asSl v106 fun tP108 tL109 tC110 =>
 slcD ofP61 ofL62 ofC63 none (some t70) 1 fun sP111 sL112 sC113 =>
 slcD ofP61 ofL62 ofC63 (some (IntKind.i64.wrap (t70 + 1))) none 1 fun sP114 sL115 sC116 =>
 newB (.cells #[] ty_int) Hx107 fun b117 Hx118 =>
 evW PR (Builtin.append_ #[ty_Sint, ty_Sint] ty_Sint #[(.slice (some ⟨b117, 0, none⟩) 0 0), (.slice sP111 sL112 sC113)]) Hx118 fun v119 Hx120 =>
 asSl v119 fun tP121 tL122 tC123 =>
 evW PR (Builtin.append_ #[ty_Sint, ty_Sint] ty_Sint #[(.slice tP121 tL122 tC123), (.slice sP114 sL115 sC116)]) Hx120 fun v124 Hx125 =>
 asSl v124 fun tP126 tL127 tC128 =>
 R35 tP108 tL109 tC110 tP126 tL127 tC128 Hx125)))
else
 R35 atP58 atL59 atC60 ofP61 ofL62 ofC63 Hx57)
else
 R35 atP58 atL59 atC60 ofP61 ofL62 ofC63 Hx57)
else
 R35 atP58 atL59 atC60 ofP61 ofL62 ofC63 Hx57)) → R56 atP58 atL59 atC60 ofP61 ofL62 ofC63 Hx57) →
 (bif ((t53 : Int) == 0) then
 (bif (decide ((t52 : Int) < 0)) then
 K (.bool false) Hx55
else
 (bif (decide (((IntKind.i64.wrap (t52 + (IntKind.i64.wrap (1 + t47)))) : Int) > (IntKind.i64.wrap (16 * (IntKind.i64.wrap (1 + t10)))))) then
 K (.bool false) Hx55
else
 (16 : Int) ≠ 0 ∧
 (16 : Int) ≠ 0 ∧
 (bif (((IntKind.i64.wrap (Int.tdiv t52 16)) : Int) != (IntKind.i64.wrap (Int.tdiv (IntKind.i64.wrap ((IntKind.i64.wrap (t52 + (IntKind.i64.wrap (1 + t47)))) - 1)) 16))) then
 K (.bool false) Hx55
else
 hcall PR f_arena_Arena_At ⟨[(.pointer t15), (.int .i64 t52)]⟩ Hx55 fun v129 Hx130 =>
 asI .i64 v129 fun t131 =>
 (bif (decide ((t131 : Int) < (IntKind.i64.wrap (1 + t47)))) then
 K (.bool false) Hx130
else
 ∃ (I132 : Int → Hp → Prop) (m133 : Int → Hp → Nat), I132 t52 Hx130 ∧ ∀ k135 : Int, ∀ Hx134 : Hp, I132 k135 Hx134 →
 (bif (decide ((k135 : Int) < (IntKind.i64.wrap (t52 + (IntKind.i64.wrap (1 + t47)))))) then
 idxA mkP22 mkL23 k135 1 fun el136 =>
 ldI .i64 el136 Hx134 fun t137 =>
 (bif ((t137 : Int) != 0) then
 K (.bool false) Hx134
else
 idxA mkP22 mkL23 k135 1 fun el138 =>
 st el138 (.int .i64 (IntKind.i64.wrap (i34 + 1))) Hx134 fun Hx139 =>
 I132 (IntKind.i64.wrap (k135 + 1)) Hx139 ∧ m133 (IntKind.i64.wrap (k135 + 1)) Hx139 < m133 k135 Hx134)
else
 newB (.cells #[(.int .i64 t52)] ty_int) Hx134 fun b140 Hx141 =>
 evW PR (Builtin.append_ #[ty_Sint, ty_Sint] ty_Sint #[(.slice atP28 atL29 atC30), (.slice (some ⟨b140, 0, none⟩) 1 1)]) Hx141 fun v142 Hx143 =>
 asSl v142 fun tP144 tL145 tC146 =>
 newB (.cells #[(.int .i64 (IntKind.i64.wrap (1 + t47)))] ty_int) Hx143 fun b147 Hx148 =>
 evW PR (Builtin.append_ #[ty_Sint, ty_Sint] ty_Sint #[(.slice ofP31 ofL32 ofC33), (.slice (some ⟨b147, 0, none⟩) 1 1)]) Hx148 fun v149 Hx150 =>
 asSl v149 fun tP151 tL152 tC153 =>
 R56 tP144 tL145 tC146 tP151 tL152 tC153 Hx150)))))
else
 R56 atP28 atL29 atC30 ofP31 ofL32 ofC33 Hx55)) → R54 Hx55) →
 (bif ((t53 : Int) != 0) then
 (bif ((t53 : Int) != 2) then
 K (.bool false) Hx49
else
 R54 Hx49)
else
 R54 Hx49)
else
 K (.bool true) Hx27)
else
 K (.bool true) Hx27))))
theorem E_law7_ArenaApart (blocks1 : Int) (sizesP2 : Option Addr) (sizesL3 : Nat) (sizesC4 : Nat) (freesP5 : Option Addr) (freesL6 : Nat) (freesC7 : Nat) (H : Hp) (K : Value → Hp → Prop) : B_law7_ArenaApart blocks1 sizesP2 sizesL3 sizesC4 freesP5 freesL6 freesC7 H K = denF Try.prog Try.f12 (.seq none .n (.seq none .n (.seq none .n (.seq none .n (.seq none .n (.seq none .n (.seq none (.seq none .n (.sub (.loop ⟨[(10, .sl), (11, .sl), (12, .int .i64)], [0, 1, 2, 7, 9]⟩ (.seq none .n (.seq (some ⟨[(10, .sl), (11, .sl)], [0, 1, 2, 7, 9, 12]⟩) (.sub (.seq none .n (.seq none .n (.seq (some ⟨[], [0, 1, 2, 7, 9, 10, 11, 12, 13, 14, 15]⟩) .n (.seq (some ⟨[(10, .sl), (11, .sl)], [0, 1, 2, 7, 9, 12]⟩) (.seq none .n (.two (.seq none .n (.seq none (.seq none .n (.sub (.loop ⟨[(16, .int .i64)], [0, 1, 2, 7, 9, 10, 11, 12, 13, 14]⟩ .n))) .n)) .n)) (.seq none .n (.two (.seq none .n (.seq none .n (.seq none (.seq none .n (.sub (.loop ⟨[(18, .int .i64)], [0, 1, 2, 7, 9, 10, 11, 12, 17]⟩ .n))) .n))) .n))))))) .n))))) .n))))))) [(.int .i64 blocks1), (.slice sizesP2 sizesL3 sizesC4), (.slice freesP5 freesL6 freesC7)] H K := by kernel_rfl
theorem den_law7_ArenaApart {blocks1 : Int} {sizesP2 : Option Addr} {sizesL3 : Nat} {sizesC4 : Nat} {freesP5 : Option Addr} {freesL6 : Nat} {freesC7 : Nat} {H : Hp} {K : Value → Hp → Prop} (h : B_law7_ArenaApart blocks1 sizesP2 sizesL3 sizesC4 freesP5 freesL6 freesC7 H K) : hcall PR f_law7_ArenaApart ⟨[(.int .i64 blocks1), (.slice sizesP2 sizesL3 sizesC4), (.slice freesP5 freesL6 freesC7)]⟩ H K := denF_call Try.func12 PR_mixed (Eq.mp (E_law7_ArenaApart blocks1 sizesP2 sizesL3 sizesC4 freesP5 freesL6 freesC7 H K) h)

def B_law7_ArenaAll (blocks1 : Int) (sizesP2 : Option Addr) (sizesL3 : Nat) (sizesC4 : Nat) (orderP5 : Option Addr) (orderL6 : Nat) (orderC7 : Nat) (H : Hp) (K : Value → Hp → Prop) : Prop :=
 hcall PR f_hand_Pick ⟨[(.int .i64 blocks1), (.int .i64 12)]⟩ H fun v8 Hx9 =>
 asI .i64 v8 fun t10 =>
 hcall PR f_arena_New ⟨[(.int .i64 (IntKind.i64.wrap (16 * (IntKind.i64.wrap (1 + t10)))))]⟩ Hx9 fun v11 Hx12 =>
 tup2 v11 fun v13 v14 =>
 asP v13 fun t15 =>
 asI .i64 v14 fun t16 =>
 hcall PR f_law7_known ⟨[]⟩ Hx12 fun v17 Hx18 =>
 asB v17 fun t19 =>
 (bif (!t19) then
 K (.bool false) Hx18
else
 (bif ((t16 : Int) != 0) then
 K (.bool false) Hx18
else
 (bif (Option.isNone (α := Addr) t15) then
 K (.bool false) Hx18
else
 ∀ R20 : Option Addr → Nat → Nat → Hp → Prop, (∀ atP22 : Option Addr, ∀ atL23 : Nat, ∀ atC24 : Nat, ∀ Hx21 : Hp, (
 ∃ (I25 : Option Addr → Nat → Nat → Int → Hp → Prop) (m26 : Option Addr → Nat → Nat → Int → Hp → Nat), I25 atP22 atL23 atC24 0 Hx21 ∧ ∀ atP28 : Option Addr, ∀ atL29 : Nat, ∀ atC30 : Nat, ∀ i31 : Int, ∀ Hx27 : Hp, I25 atP28 atL29 atC30 i31 Hx27 →
 (bif (decide (((atL29 : Int) : Int) > 0)) then
 ∀ R32 : Int → Hp → Prop, (∀ k34 : Int, ∀ Hx33 : Hp, (
 idxA atP28 atL29 k34 1 fun el35 =>
 ldI .i64 el35 Hx33 fun t36 =>
 hcall PR f_arena_Arena_Free ⟨[(.pointer t15), (.int .i64 t36)]⟩ Hx33 fun v37 Hx38 =>
 asI .i64 v37 fun t39 =>
 (bif ((t39 : Int) != 0) then
 K (.bool false) Hx38
else
 idxA atP28 atL29 k34 1 fun el40 =>
 ldI .i64 el40 Hx38 fun t41 =>
 hcall PR f_arena_Arena_Free ⟨[(.pointer t15), (.int .i64 t41)]⟩ Hx38 fun v42 Hx43 =>
 asI .i64 v42 fun t44 =>
 (bif ((t44 : Int) != 9) then
 K (.bool false) Hx43
else
 slcD atP28 atL29 atC30 none (some k34) 1 fun sP45 sL46 sC47 =>
 slcD atP28 atL29 atC30 (some (IntKind.i64.wrap (k34 + 1))) none 1 fun sP48 sL49 sC50 =>
 newB (.cells #[] ty_int) Hx43 fun b51 Hx52 =>
 evW PR (Builtin.append_ #[ty_Sint, ty_Sint] ty_Sint #[(.slice (some ⟨b51, 0, none⟩) 0 0), (.slice sP45 sL46 sC47)]) Hx52 fun v53 Hx54 =>
 asSl v53 fun tP55 tL56 tC57 =>
 evW PR (Builtin.append_ #[ty_Sint, ty_Sint] ty_Sint #[(.slice tP55 tL56 tC57), (.slice sP48 sL49 sC50)]) Hx54 fun v58 Hx59 =>
 asSl v58 fun tP60 tL61 tC62 =>
 I25 tP60 tL61 tC62 (IntKind.i64.wrap (i31 + 1)) Hx59 ∧ m26 tP60 tL61 tC62 (IntKind.i64.wrap (i31 + 1)) Hx59 < m26 atP28 atL29 atC30 i31 Hx27))) → R32 k34 Hx33) →
 (bif (decide ((i31 : Int) < (orderL6 : Int))) then
 idxA orderP5 orderL6 i31 1 fun el63 =>
 ldI .i64 el63 Hx27 fun t64 =>
 hcall PR f_hand_Pick ⟨[(.int .i64 t64), (.int .i64 (atL29 : Int))]⟩ Hx27 fun v65 Hx66 =>
 asI .i64 v65 fun t67 =>
 R32 t67 Hx66
else
 R32 0 Hx27)
else
 hcall PR f_arena_Arena_Blocks ⟨[(.pointer t15)]⟩ Hx27 fun v68 Hx69 =>
 asSl v68 fun tP70 tL71 tC72 =>
 ∃ (I73 : Int → Hp → Prop) (m74 : Int → Hp → Nat), I73 0 Hx69 ∧ ∀ i76 : Int, ∀ Hx75 : Hp, I73 i76 Hx75 →
 (bif (decide ((i76 : Int) < (tL71 : Int))) then
 idxA tP70 tL71 i76 1 fun el77 =>
 ldI .i64 el77 Hx75 fun t78 =>
 (bif ((t78 : Int) != 0) then
 K (.bool false) Hx75
else
 I73 (IntKind.i64.wrap (i76 + 1)) Hx75 ∧ m74 (IntKind.i64.wrap (i76 + 1)) Hx75 < m74 i76 Hx75)
else
 hcall PR f_arena_Arena_Alloc ⟨[(.pointer t15), (.int .i64 16)]⟩ Hx75 fun v79 Hx80 =>
 tup2 v79 fun v81 v82 =>
 asI .i64 v81 fun t83 =>
 asI .i64 v82 fun t84 =>
 (bif (((tL71 : Int) : Int) == (IntKind.i64.wrap (1 + t10))) then
 hcall PR f_arena_Arena_Used ⟨[(.pointer t15)]⟩ Hx80 fun v85 Hx86 =>
 asI .i64 v85 fun t87 =>
 (bif ((t87 : Int) == 16) then
 (bif ((t83 : Int) == 0) then
 K (.bool ((t84 : Int) == 0)) Hx86
else
 K (.bool false) Hx86)
else
 K (.bool false) Hx86)
else
 K (.bool false) Hx80)))) → R20 atP22 atL23 atC24 Hx21) →
 ∃ (I88 : Option Addr → Nat → Nat → Int → Hp → Prop) (m89 : Option Addr → Nat → Nat → Int → Hp → Nat), I88 none 0 0 0 Hx18 ∧ ∀ atP91 : Option Addr, ∀ atL92 : Nat, ∀ atC93 : Nat, ∀ i94 : Int, ∀ Hx90 : Hp, I88 atP91 atL92 atC93 i94 Hx90 →
 (bif (decide ((i94 : Int) < (sizesL3 : Int))) then
 (bif (decide ((i94 : Int) < 300)) then
 ∀ R95 : Option Addr → Nat → Nat → Hp → Prop, (∀ atP97 : Option Addr, ∀ atL98 : Nat, ∀ atC99 : Nat, ∀ Hx96 : Hp, (
 I88 atP97 atL98 atC99 (IntKind.i64.wrap (i94 + 1)) Hx96 ∧ m89 atP97 atL98 atC99 (IntKind.i64.wrap (i94 + 1)) Hx96 < m89 atP91 atL92 atC93 i94 Hx90) → R95 atP97 atL98 atC99 Hx96) →
 idxA sizesP2 sizesL3 i94 1 fun el100 =>
 ldI .i64 el100 Hx90 fun t101 =>
 hcall PR f_hand_Pick ⟨[(.int .i64 t101), (.int .i64 16)]⟩ Hx90 fun v102 Hx103 =>
 asI .i64 v102 fun t104 =>
 hcall PR f_arena_Arena_Alloc ⟨[(.pointer t15), (.int .i64 (IntKind.i64.wrap (1 + t104)))]⟩ Hx103 fun v105 Hx106 =>
 tup2 v105 fun v107 v108 =>
 asI .i64 v107 fun t109 =>
 asI .i64 v108 fun t110 =>
 (bif ((t110 : Int) == 0) then
 newB (.cells #[(.int .i64 t109)] ty_int) Hx106 fun b111 Hx112 =>
 evW PR (Builtin.append_ #[ty_Sint, ty_Sint] ty_Sint #[(.slice atP91 atL92 atC93), (.slice (some ⟨b111, 0, none⟩) 1 1)]) Hx112 fun v113 Hx114 =>
 asSl v113 fun tP115 tL116 tC117 =>
 R95 tP115 tL116 tC117 Hx114
else
 R95 atP91 atL92 atC93 Hx106)
else
 R20 atP91 atL92 atC93 Hx90)
else
 R20 atP91 atL92 atC93 Hx90))))
theorem E_law7_ArenaAll (blocks1 : Int) (sizesP2 : Option Addr) (sizesL3 : Nat) (sizesC4 : Nat) (orderP5 : Option Addr) (orderL6 : Nat) (orderC7 : Nat) (H : Hp) (K : Value → Hp → Prop) : B_law7_ArenaAll blocks1 sizesP2 sizesL3 sizesC4 orderP5 orderL6 orderC7 H K = denF Try.prog Try.f13 (.seq none .n (.seq none .n (.seq none .n (.seq none .n (.seq none .n (.seq (some ⟨[(9, .sl)], [0, 2, 7]⟩) (.seq none .n (.sub (.loop ⟨[(9, .sl), (10, .int .i64)], [0, 1, 2, 7]⟩ (.seq none .n (.seq (some ⟨[(9, .sl)], [0, 1, 2, 7, 10]⟩) .n .n))))) (.seq none (.seq none .n (.sub (.loop ⟨[(9, .sl), (13, .int .i64)], [0, 2, 7]⟩ (.seq none .n (.seq none (.sub (.seq none .n (.seq (some ⟨[(14, .int .i64)], [0, 2, 7, 9, 13]⟩) .n .n))) .n))))) (.seq none .n (.seq none (.seq none .n (.sub (.loop ⟨[(16, .int .i64)], [0, 7, 15]⟩ .n))) .n))))))))) [(.int .i64 blocks1), (.slice sizesP2 sizesL3 sizesC4), (.slice orderP5 orderL6 orderC7)] H K := by kernel_rfl
theorem den_law7_ArenaAll {blocks1 : Int} {sizesP2 : Option Addr} {sizesL3 : Nat} {sizesC4 : Nat} {orderP5 : Option Addr} {orderL6 : Nat} {orderC7 : Nat} {H : Hp} {K : Value → Hp → Prop} (h : B_law7_ArenaAll blocks1 sizesP2 sizesL3 sizesC4 orderP5 orderL6 orderC7 H K) : hcall PR f_law7_ArenaAll ⟨[(.int .i64 blocks1), (.slice sizesP2 sizesL3 sizesC4), (.slice orderP5 orderL6 orderC7)]⟩ H K := denF_call Try.func13 PR_mixed (Eq.mp (E_law7_ArenaAll blocks1 sizesP2 sizesL3 sizesC4 orderP5 orderL6 orderC7 H K) h)

def B_law7_ArenaKnown  (H : Hp) (K : Value → Hp → Prop) : Prop :=
 hcall PR f_arena_New ⟨[(.int .i64 15)]⟩ H fun v1 Hx2 =>
 tup2 v1 fun v3 v4 =>
 asP v3 fun t5 =>
 asI .i64 v4 fun t6 =>
 hcall PR f_arena_New ⟨[(.int .i64 4112)]⟩ Hx2 fun v7 Hx8 =>
 tup2 v7 fun v9 v10 =>
 asP v9 fun t11 =>
 asI .i64 v10 fun t12 =>
 hcall PR f_arena_New ⟨[(.int .i64 40)]⟩ Hx8 fun v13 Hx14 =>
 tup2 v13 fun v15 v16 =>
 asP v15 fun t17 =>
 asI .i64 v16 fun t18 =>
 hcall PR f_arena_New ⟨[(.int .i64 32)]⟩ Hx14 fun v19 Hx20 =>
 tup2 v19 fun v21 v22 =>
 asP v21 fun t23 =>
 asI .i64 v22 fun t24 =>
 hcall PR f_law7_known ⟨[]⟩ Hx20 fun v25 Hx26 =>
 asB v25 fun t27 =>
 (bif (!t27) then
 K (.bool false) Hx26
else
 (bif ((t6 : Int) != 1) then
 K (.bool false) Hx26
else
 (bif ((t12 : Int) != 1) then
 K (.bool false) Hx26
else
 (bif ((t18 : Int) != 1) then
 K (.bool false) Hx26
else
 (bif ((t24 : Int) != 0) then
 K (.bool false) Hx26
else
 (bif (Option.isNone (α := Addr) t23) then
 K (.bool false) Hx26
else
 hcall PR f_arena_Arena_Alloc ⟨[(.pointer t23), (.int .i64 3)]⟩ Hx26 fun v28 Hx29 =>
 tup2 v28 fun v30 v31 =>
 asI .i64 v30 fun t32 =>
 asI .i64 v31 fun t33 =>
 hcall PR f_arena_Arena_Alloc ⟨[(.pointer t23), (.int .i64 4)]⟩ Hx29 fun v34 Hx35 =>
 tup2 v34 fun v36 v37 =>
 asI .i64 v36 fun t38 =>
 asI .i64 v37 fun t39 =>
 hcall PR f_arena_Arena_Alloc ⟨[(.pointer t23), (.int .i64 9)]⟩ Hx35 fun v40 Hx41 =>
 tup2 v40 fun v42 v43 =>
 asI .i64 v42 fun t44 =>
 asI .i64 v43 fun t45 =>
 hcall PR f_arena_Arena_Blocks ⟨[(.pointer t23)]⟩ Hx41 fun v46 Hx47 =>
 asSl v46 fun tP48 tL49 tC50 =>
 hcall PR f_arena_Class ⟨[(.int .i64 3)]⟩ Hx47 fun v51 Hx52 =>
 asI .i64 v51 fun t53 =>
 (bif ((t53 : Int) == 4) then
 hcall PR f_arena_Class ⟨[(.int .i64 17)]⟩ Hx52 fun v54 Hx55 =>
 asI .i64 v54 fun t56 =>
 (bif ((t56 : Int) == 0) then
 hcall PR f_arena_Class ⟨[(.int .i64 0)]⟩ Hx55 fun v57 Hx58 =>
 asI .i64 v57 fun t59 =>
 (bif ((t59 : Int) == 0) then
 hcall PR f_arena_Arena_Room ⟨[(.pointer t23), (.int .i64 2)]⟩ Hx58 fun v60 Hx61 =>
 asI .i64 v60 fun t62 =>
 (bif ((t62 : Int) == 0) then
 hcall PR f_arena_Arena_Room ⟨[(.pointer t23), (.int .i64 4)]⟩ Hx61 fun v63 Hx64 =>
 asI .i64 v63 fun t65 =>
 (bif ((t65 : Int) == 2) then
 (bif (((tL49 : Int) : Int) == 2) then
 idxA tP48 tL49 0 1 fun el66 =>
 ldI .i64 el66 Hx64 fun t67 =>
 (bif ((t67 : Int) == 4) then
 idxA tP48 tL49 1 1 fun el68 =>
 ldI .i64 el68 Hx64 fun t69 =>
 (bif ((t69 : Int) == 16) then
 hcall PR f_arena_Arena_Used ⟨[(.pointer t23)]⟩ Hx64 fun v70 Hx71 =>
 asI .i64 v70 fun t72 =>
 (bif ((t72 : Int) == 24) then
 hcall PR f_arena_Arena_Free ⟨[(.pointer t23), (.int .i64 4)]⟩ Hx71 fun v73 Hx74 =>
 asI .i64 v73 fun t75 =>
 (bif ((t75 : Int) == 0) then
 hcall PR f_arena_Arena_Free ⟨[(.pointer t23), (.int .i64 5)]⟩ Hx74 fun v76 Hx77 =>
 asI .i64 v76 fun t78 =>
 (bif ((t78 : Int) == 9) then
 hcall PR f_arena_Arena_At ⟨[(.pointer t23), (.int .i64 0)]⟩ Hx77 fun v79 Hx80 =>
 asI .i64 v79 fun t81 =>
 (bif ((t81 : Int) == 4) then
 hcall PR f_arena_Arena_At ⟨[(.pointer t23), (.int .i64 4)]⟩ Hx80 fun v82 Hx83 =>
 asI .i64 v82 fun t84 =>
 K (.bool ((t84 : Int) == 0)) Hx83
else
 K (.bool false) Hx80)
else
 K (.bool false) Hx77)
else
 K (.bool false) Hx74)
else
 K (.bool false) Hx71)
else
 K (.bool false) Hx64)
else
 K (.bool false) Hx64)
else
 K (.bool false) Hx64)
else
 K (.bool false) Hx64)
else
 K (.bool false) Hx61)
else
 K (.bool false) Hx58)
else
 K (.bool false) Hx55)
else
 K (.bool false) Hx52)))))))
theorem E_law7_ArenaKnown  (H : Hp) (K : Value → Hp → Prop) : B_law7_ArenaKnown  H K = denF Try.prog Try.f14 .n [] H K := by kernel_rfl
theorem den_law7_ArenaKnown  {H : Hp} {K : Value → Hp → Prop} (h : B_law7_ArenaKnown  H K) : hcall PR f_law7_ArenaKnown ⟨[]⟩ H K := denF_call Try.func14 PR_mixed (Eq.mp (E_law7_ArenaKnown  H K) h)

def B_hand_Pick (n1 : Int) (m2 : Int) (H : Hp) (K : Value → Hp → Prop) : Prop :=
 (m2 : Int) ≠ 0 ∧
 (bif (decide (((Int.tmod n1 m2) : Int) < 0)) then
 K (.int .i64 (IntKind.i64.wrap ((Int.tmod n1 m2) + m2))) H
else
 K (.int .i64 (Int.tmod n1 m2)) H)
theorem E_hand_Pick (n1 : Int) (m2 : Int) (H : Hp) (K : Value → Hp → Prop) : B_hand_Pick n1 m2 H K = denF Try.prog Try.f15 .n [(.int .i64 n1), (.int .i64 m2)] H K := by kernel_rfl
theorem den_hand_Pick {n1 : Int} {m2 : Int} {H : Hp} {K : Value → Hp → Prop} (h : B_hand_Pick n1 m2 H K) : hcall PR f_hand_Pick ⟨[(.int .i64 n1), (.int .i64 m2)]⟩ H K := denF_call Try.func15 PR_mixed (Eq.mp (E_hand_Pick n1 m2 H K) h)

def B_grey_New_string (most1 : Int) (H : Hp) (K : Value → Hp → Prop) : Prop :=
 (bif (decide ((most1 : Int) < 1)) then
 K (.tuple #[(.pointer none), (.int .i64 1)]) H
else
 (bif (decide ((most1 : Int) > 64)) then
 K (.tuple #[(.pointer none), (.int .i64 1)]) H
else
 newB (.cells #[(.slice none 0 0), (.int .i64 most1), (.bool false)] ty_grey_Stack_string) H fun b2 Hx3 =>
 K (.tuple #[(.pointer (some ⟨b2, 0, none⟩)), (.int .i64 0)]) Hx3))
theorem E_grey_New_string (most1 : Int) (H : Hp) (K : Value → Hp → Prop) : B_grey_New_string most1 H K = denF Try.prog Try.f16 .n [(.int .i64 most1)] H K := by kernel_rfl
theorem den_grey_New_string {most1 : Int} {H : Hp} {K : Value → Hp → Prop} (h : B_grey_New_string most1 H K) : hcall PR f_grey_New_string ⟨[(.int .i64 most1)]⟩ H K := denF_call Try.func16 PR_mixed (Eq.mp (E_grey_New_string most1 H K) h)

def B_law10_known  (H : Hp) (K : Value → Hp → Prop) : Prop :=
 hcall PR f_grey_New_int ⟨[(.int .i64 2)]⟩ H fun v1 Hx2 =>
 tup2 v1 fun v3 v4 =>
 asP v3 fun t5 =>
 asI .i64 v4 fun t6 =>
 (bif ((t6 : Int) != 0) then
 K (.bool false) Hx2
else
 (bif (Option.isNone (α := Addr) t5) then
 K (.bool false) Hx2
else
 hcall PR f_grey_Stack_int_Push ⟨[(.pointer t5), (.int .i64 1)]⟩ Hx2 fun v7 Hx8 =>
 asB v7 fun t9 =>
 hcall PR f_grey_Stack_int_Push ⟨[(.pointer t5), (.int .i64 2)]⟩ Hx8 fun v10 Hx11 =>
 asB v10 fun t12 =>
 hcall PR f_grey_Stack_int_Push ⟨[(.pointer t5), (.int .i64 3)]⟩ Hx11 fun v13 Hx14 =>
 asB v13 fun t15 =>
 hcall PR f_grey_Stack_int_Over ⟨[(.pointer t5)]⟩ Hx14 fun v16 Hx17 =>
 asB v16 fun t18 =>
 hcall PR f_grey_Stack_int_Pop ⟨[(.pointer t5)]⟩ Hx17 fun v19 Hx20 =>
 tup2 v19 fun v21 v22 =>
 asI .i64 v21 fun t23 =>
 asB v22 fun t24 =>
 (bif t9 then
 (bif t12 then
 (bif (!t15) then
 (bif t18 then
 (bif ((t23 : Int) == 2) then
 (bif t24 then
 hcall PR f_grey_Stack_int_Len ⟨[(.pointer t5)]⟩ Hx20 fun v25 Hx26 =>
 asI .i64 v25 fun t27 =>
 K (.bool ((t27 : Int) == 1)) Hx26
else
 K (.bool false) Hx20)
else
 K (.bool false) Hx20)
else
 K (.bool false) Hx20)
else
 K (.bool false) Hx20)
else
 K (.bool false) Hx20)
else
 K (.bool false) Hx20)))
theorem E_law10_known  (H : Hp) (K : Value → Hp → Prop) : B_law10_known  H K = denF Try.prog Try.f17 .n [] H K := by kernel_rfl
theorem den_law10_known  {H : Hp} {K : Value → Hp → Prop} (h : B_law10_known  H K) : hcall PR f_law10_known ⟨[]⟩ H K := denF_call Try.func17 PR_mixed (Eq.mp (E_law10_known  H K) h)


end Go.Proofs.Ytdeihhfhcnhmfaa
