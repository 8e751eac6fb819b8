/- PRINTED by gen.py: functions as plain propositions, held against the program by the kernel. No condition. -/
import Derived.Test.YtdeihhfhcnhmfabDenN
namespace Go.Proofs.Ytdeihhfhcnhmfab
open Go
set_option linter.unusedVariables false
set_option maxRecDepth 100000

def B_arena_Arena_place (a1 : Option Addr) (cell2 : Int) (H : Hp) (K : Value → Hp → Prop) : Prop :=
 (bif (decide ((cell2 : Int) < 0)) then
 K (.tuple #[(.int .i64 0), (.int .i64 0), (.bool false)]) H
else
 nilP a1 fun aa3 =>
 ldSl aa3 H fun classP4 classL5 classC6 =>
 (bif (decide ((cell2 : Int) ≥ (IntKind.i64.wrap ((classL5 : Int) * 16)))) then
 K (.tuple #[(.int .i64 0), (.int .i64 0), (.bool false)]) H
else
 (16 : Int) ≠ 0 ∧
 (16 : Int) ≠ 0 ∧
 nilP a1 fun aa7 =>
 ldSl aa7 H fun classP8 classL9 classC10 =>
 idxA classP8 classL9 (IntKind.i64.wrap (Int.tdiv cell2 16)) 1 fun el11 =>
 ldI .i64 el11 H fun t12 =>
 (bif ((t12 : Int) == 0) then
 K (.tuple #[(.int .i64 0), (.int .i64 0), (.bool false)]) H
else
 nilP a1 fun aa13 =>
 ldSl aa13 H fun classP14 classL15 classC16 =>
 idxA classP14 classL15 (IntKind.i64.wrap (Int.tdiv cell2 16)) 1 fun el17 =>
 ldI .i64 el17 H fun t18 =>
 (t18 : Int) ≠ 0 ∧
 (bif (((Int.tmod (Int.tmod cell2 16) t18) : Int) != 0) then
 K (.tuple #[(.int .i64 0), (.int .i64 0), (.bool false)]) H
else
 nilP a1 fun aa19 =>
 ldSl aa19 H fun classP20 classL21 classC22 =>
 idxA classP20 classL21 (IntKind.i64.wrap (Int.tdiv cell2 16)) 1 fun el23 =>
 ldI .i64 el23 H fun t24 =>
 (t24 : Int) ≠ 0 ∧
 nilP a1 fun aa25 =>
 ldSl (aa25.add 1) H fun takenP26 takenL27 takenC28 =>
 idxA takenP26 takenL27 (IntKind.i64.wrap (Int.tdiv cell2 16)) 1 fun el29 =>
 ldI .u16 el29 H fun t30 =>
 (0 : Int) ≤ (IntKind.i64.wrap (Int.tdiv (Int.tmod cell2 16) t24)) ∧
 K (.tuple #[(.int .i64 (IntKind.i64.wrap (Int.tdiv cell2 16))), (.int .i64 (IntKind.i64.wrap (Int.tdiv (Int.tmod cell2 16) t24))), (.bool (((bitOp .and .u16 (shrI .u16 t30 (IntKind.i64.wrap (Int.tdiv (Int.tmod cell2 16) t24))) 1) : Int) == 1))]) H))))
theorem E_arena_Arena_place (a1 : Option Addr) (cell2 : Int) (H : Hp) (K : Value → Hp → Prop) : B_arena_Arena_place a1 cell2 H K = denF Try.prog Try.f24 .n [(.pointer a1), (.int .i64 cell2)] H K := by kernel_rfl
theorem den_arena_Arena_place {a1 : Option Addr} {cell2 : Int} {H : Hp} {K : Value → Hp → Prop} (h : B_arena_Arena_place a1 cell2 H K) : hcall PR f_arena_Arena_place ⟨[(.pointer a1), (.int .i64 cell2)]⟩ H K := denF_call Try.func24 PR_mixed (Eq.mp (E_arena_Arena_place a1 cell2 H K) h)

def B_arena_bits (x1 : Int) (H : Hp) (K : Value → Hp → Prop) : Prop :=
 ∃ (I2 : Int → Int → Hp → Prop) (m3 : Int → Int → Hp → Nat), I2 x1 0 H ∧ ∀ x5 : Int, ∀ n6 : Int, ∀ Hx4 : Hp, I2 x5 n6 Hx4 →
 (bif ((x5 : Int) != 0) then
 (0 : Int) ≤ 1 ∧
 I2 (shrI .u16 x5 1) (IntKind.i64.wrap (n6 + (IntKind.i64.wrap (bitOp .and .u16 x5 1)))) Hx4 ∧ m3 (shrI .u16 x5 1) (IntKind.i64.wrap (n6 + (IntKind.i64.wrap (bitOp .and .u16 x5 1)))) Hx4 < m3 x5 n6 Hx4
else
 K (.int .i64 n6) Hx4)
theorem E_arena_bits (x1 : Int) (H : Hp) (K : Value → Hp → Prop) : B_arena_bits x1 H K = denF Try.prog Try.f25 (.seq none .n (.seq none .n (.seq none (.sub (.loop ⟨[(0, .int .u16), (3, .int .i64)], []⟩ .n)) .n))) [(.int .u16 x1)] H K := by kernel_rfl
theorem den_arena_bits {x1 : Int} {H : Hp} {K : Value → Hp → Prop} (h : B_arena_bits x1 H K) : hcall PR f_arena_bits ⟨[(.int .u16 x1)]⟩ H K := denF_call Try.func25 PR_mixed (Eq.mp (E_arena_bits x1 H K) h)


end Go.Proofs.Ytdeihhfhcnhmfab
