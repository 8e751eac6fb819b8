/- Merged by merge.py: DenArena, Arena, Arena2, Arena3, DenRef7, ArOk, RArena, RArena2, RArena3, RArena4, RArena5, ArS. No condition. -/
import Derived.Test.YtflfodcemnapeaaGreatZNum
import Derived.Test.YtflfodcemnapeaaGreatZBase

namespace Go.Proofs.YtflfodcemnapeaaGreat
open Go
set_option linter.unusedVariables false
set_option maxRecDepth 100000
def B_arena_Arena_Alloc (a1 : Option Addr) (size2 : Int) (H : Hp) (K : Value → Hp → Prop) : Prop :=
 hcall PR f_arena_Class ⟨[(.int .i64 size2)]⟩ H fun v3 Hx4 =>
 asI .i64 v3 fun t5 =>
 (bif ((t5 : Int) == 0) then
 K (.tuple #[(.int .i64 0), (.int .i64 1)]) Hx4
else
 nilP a1 fun aa6 =>
 ldSl aa6 Hx4 fun classP7 classL8 classC9 =>
 ∃ (I10 : Int → Int → Hp → Prop) (m11 : Int → Int → Hp → Nat), I10 (-1) 0 Hx4 ∧ ∀ free13 : Int, ∀ t14 : Int, ∀ Hx12 : Hp, I10 free13 t14 Hx12 →
 (bif (decide ((t14 : Int) < (classL8 : Int))) then
 ∀ R15 : Int → Hp → Prop, (∀ free17 : Int, ∀ Hx16 : Hp, (
 I10 free17 (IntKind.i64.wrap (t14 + 1)) Hx16 ∧ m11 free17 (IntKind.i64.wrap (t14 + 1)) Hx16 < m11 free13 t14 Hx12) → R15 free17 Hx16) →
 idxA classP7 classL8 t14 1 fun el18 =>
 ldI .i64 el18 Hx12 fun t19 =>
 ∀ R20 : Hp → Prop, (∀ Hx21 : Hp, (
 (bif ((t19 : Int) == 0) then
 (bif (decide ((free13 : Int) < 0)) then
 R15 t14 Hx21
else
 R15 free13 Hx21)
else
 R15 free13 Hx21)) → R20 Hx21) →
 (bif ((t19 : Int) == t5) then
 nilP a1 fun aa22 =>
 ldSl (aa22.add 1) Hx12 fun takenP23 takenL24 takenC25 =>
 idxA takenP23 takenL24 t14 1 fun el26 =>
 ldI .u16 el26 Hx12 fun t27 =>
 hcall PR f_arena_full ⟨[(.int .i64 t5)]⟩ Hx12 fun v28 Hx29 =>
 asI .u16 v28 fun t30 =>
 (ldI .u16 el26 Hx29 fun t31 =>
 ((.int .u16 t31) : Value) = (.int .u16 t27)) ∧
 (ldSl (aa22.add 1) Hx29 fun takenP32 takenL33 takenC34 =>
 ((.slice takenP32 takenL33 takenC34) : Value) = (.slice takenP23 takenL24 takenC25)) ∧
 (bif ((t27 : Int) != t30) then
 hcall PR f_arena_Arena_take ⟨[(.pointer a1), (.int .i64 t14)]⟩ Hx29 fun v35 Hx36 =>
 asI .i64 v35 fun t37 =>
 K (.tuple #[(.int .i64 t37), (.int .i64 0)]) Hx36
else
 R20 Hx29)
else
 R20 Hx12)
else
 (bif (decide ((free13 : Int) < 0)) then
 K (.tuple #[(.int .i64 0), (.int .i64 2)]) Hx12
else
 nilP a1 fun aa38 =>
 ldSl aa38 Hx12 fun classP39 classL40 classC41 =>
 idxA classP39 classL40 free13 1 fun el42 =>
 st el42 (.int .i64 t5) Hx12 fun Hx43 =>
 hcall PR f_arena_Arena_take ⟨[(.pointer a1), (.int .i64 free13)]⟩ Hx43 fun v44 Hx45 =>
 asI .i64 v44 fun t46 =>
 K (.tuple #[(.int .i64 t46), (.int .i64 0)]) Hx45)))
theorem E_arena_Arena_Alloc (a1 : Option Addr) (size2 : Int) (H : Hp) (K : Value → Hp → Prop) : B_arena_Arena_Alloc a1 size2 H K = denF Tryz.prog Tryz.f58 (.seq none .n (.seq none .n (.seq none .n (.seq none .n (.seq none (.seq none .n (.sub (.loop ⟨[(7, .int .i64), (19, .int .i64)], [0, 6, 17, 18]⟩ (.seq none .n (.seq none .n (.seq (some ⟨[(7, .int .i64)], [0, 6, 17, 18, 19]⟩) (.sub (.seq none .n (.seq (some ⟨[], [0, 6, 7, 8, 9, 17, 18, 19]⟩) .n .n))) .n)))))) .n))))) [(.pointer a1), (.int .i64 size2)] H K := by kernel_rfl
theorem den_arena_Arena_Alloc {a1 : Option Addr} {size2 : Int} {H : Hp} {K : Value → Hp → Prop} (h : B_arena_Arena_Alloc a1 size2 H K) : hcall PR f_arena_Arena_Alloc ⟨[(.pointer a1), (.int .i64 size2)]⟩ H K := denF_call Tryz.func58 PR_mixed (Eq.mp (E_arena_Arena_Alloc a1 size2 H K) h)

def B_arena_New (cells1 : Int) (H : Hp) (K : Value → Hp → Prop) : Prop :=
 (bif (decide ((cells1 : Int) < 16)) then
 K (.tuple #[(.pointer none), (.int .i64 1)]) H
else
 (bif (decide ((cells1 : Int) > 4096)) then
 K (.tuple #[(.pointer none), (.int .i64 1)]) H
else
 (16 : Int) ≠ 0 ∧
 (bif (((Int.tmod cells1 16) : Int) != 0) then
 K (.tuple #[(.pointer none), (.int .i64 1)]) H
else
 (16 : Int) ≠ 0 ∧
 (evW PR (Instr.makeSlice ty_Sint (.int .i64 (IntKind.i64.wrap (Int.tdiv cells1 16))) (.int .i64 (IntKind.i64.wrap (Int.tdiv cells1 16)))) H fun v2 Hx3 =>
 asSl v2 fun mkP4 mkL5 mkC6 =>
 evW PR (Instr.makeSlice ty_Suint16 (.int .i64 (IntKind.i64.wrap (Int.tdiv cells1 16))) (.int .i64 (IntKind.i64.wrap (Int.tdiv cells1 16)))) Hx3 fun v7 Hx8 =>
 asSl v7 fun mkP9 mkL10 mkC11 =>
 newB (.cells #[(.slice mkP4 mkL5 mkC6), (.slice mkP9 mkL10 mkC11)] ty_arena_Arena) Hx8 fun b12 Hx13 =>
 K (.tuple #[(.pointer (some ⟨b12, 0, none⟩)), (.int .i64 0)]) Hx13) ∧
 (evW PR (Instr.makeSlice ty_Suint16 (.int .i64 (IntKind.i64.wrap (Int.tdiv cells1 16))) (.int .i64 (IntKind.i64.wrap (Int.tdiv cells1 16)))) H fun v14 Hx15 =>
 asSl v14 fun mkP16 mkL17 mkC18 =>
 evW PR (Instr.makeSlice ty_Sint (.int .i64 (IntKind.i64.wrap (Int.tdiv cells1 16))) (.int .i64 (IntKind.i64.wrap (Int.tdiv cells1 16)))) Hx15 fun v19 Hx20 =>
 asSl v19 fun mkP21 mkL22 mkC23 =>
 newB (.cells #[(.slice mkP21 mkL22 mkC23), (.slice mkP16 mkL17 mkC18)] ty_arena_Arena) Hx20 fun b24 Hx25 =>
 K (.tuple #[(.pointer (some ⟨b24, 0, none⟩)), (.int .i64 0)]) Hx25))))
theorem E_arena_New (cells1 : Int) (H : Hp) (K : Value → Hp → Prop) : B_arena_New cells1 H K = denF Tryz.prog Tryz.f82 .n [(.int .i64 cells1)] H K := by kernel_rfl
theorem den_arena_New {cells1 : Int} {H : Hp} {K : Value → Hp → Prop} (h : B_arena_New cells1 H K) : hcall PR f_arena_New ⟨[(.int .i64 cells1)]⟩ H K := denF_call Tryz.func82 PR_mixed (Eq.mp (E_arena_New cells1 H K) h)

def B_arena_Class (size1 : Int) (H : Hp) (K : Value → Hp → Prop) : Prop :=
 (bif (decide ((size1 : Int) < 1)) then
 K (.int .i64 0) H
else
 (bif (decide ((size1 : Int) > 16)) then
 K (.int .i64 0) H
else
 ∃ (I2 : Int → Hp → Prop) (m3 : Int → Hp → Nat), I2 1 H ∧ ∀ c5 : Int, ∀ Hx4 : Hp, I2 c5 Hx4 →
 (bif (decide ((c5 : Int) < size1)) then
 (0 : Int) ≤ 1 ∧
 I2 (shlI .i64 c5 1) Hx4 ∧ m3 (shlI .i64 c5 1) Hx4 < m3 c5 Hx4
else
 K (.int .i64 c5) Hx4)))
theorem E_arena_Class (size1 : Int) (H : Hp) (K : Value → Hp → Prop) : B_arena_Class size1 H K = denF Tryz.prog Tryz.f98 (.seq none .n (.seq none .n (.seq none .n (.seq none (.sub (.loop ⟨[(3, .int .i64)], [0]⟩ .n)) .n)))) [(.int .i64 size1)] H K := by kernel_rfl
theorem den_arena_Class {size1 : Int} {H : Hp} {K : Value → Hp → Prop} (h : B_arena_Class size1 H K) : hcall PR f_arena_Class ⟨[(.int .i64 size1)]⟩ H K := denF_call Tryz.func98 PR_mixed (Eq.mp (E_arena_Class size1 H K) h)

def B_arena_full (classx1 : Int) (H : Hp) (K : Value → Hp → Prop) : Prop :=
 (classx1 : Int) ≠ 0 ∧
 (0 : Int) ≤ (IntKind.i64.wrap (Int.tdiv 16 classx1)) ∧
 K (.int .u16 (IntKind.u16.wrap ((shlI .u16 1 (IntKind.i64.wrap (Int.tdiv 16 classx1))) - 1))) H
theorem E_arena_full (classx1 : Int) (H : Hp) (K : Value → Hp → Prop) : B_arena_full classx1 H K = denF Tryz.prog Tryz.f99 .n [(.int .i64 classx1)] H K := by kernel_rfl
theorem den_arena_full {classx1 : Int} {H : Hp} {K : Value → Hp → Prop} (h : B_arena_full classx1 H K) : hcall PR f_arena_full ⟨[(.int .i64 classx1)]⟩ H K := denF_call Tryz.func99 PR_mixed (Eq.mp (E_arena_full classx1 H K) h)

def B_arena_Arena_take (a1 : Option Addr) (b2 : Int) (H : Hp) (K : Value → Hp → Prop) : Prop :=
 ∃ (I3 : Int → Hp → Prop) (m4 : Int → Hp → Nat), I3 0 H ∧ ∀ k6 : Int, ∀ Hx5 : Hp, I3 k6 Hx5 →
 nilP a1 fun aa7 =>
 ldSl (aa7.add 1) Hx5 fun takenP8 takenL9 takenC10 =>
 idxA takenP8 takenL9 b2 1 fun el11 =>
 ldI .u16 el11 Hx5 fun t12 =>
 (0 : Int) ≤ k6 ∧
 (bif (((bitOp .and .u16 (shrI .u16 t12 k6) 1) : Int) == 1) then
 I3 (IntKind.i64.wrap (k6 + 1)) Hx5 ∧ m4 (IntKind.i64.wrap (k6 + 1)) Hx5 < m4 k6 Hx5
else
 nilP a1 fun aa13 =>
 ldSl (aa13.add 1) Hx5 fun takenP14 takenL15 takenC16 =>
 idxA takenP14 takenL15 b2 1 fun el17 =>
 ldI .u16 el17 Hx5 fun t18 =>
 (0 : Int) ≤ k6 ∧
 idxA takenP14 takenL15 b2 1 fun el19 =>
 st el19 (.int .u16 (bitOp .or .u16 t18 (shlI .u16 1 k6))) Hx5 fun Hx20 =>
 nilP a1 fun aa21 =>
 ldSl aa21 Hx20 fun classP22 classL23 classC24 =>
 idxA classP22 classL23 b2 1 fun el25 =>
 ldI .i64 el25 Hx20 fun t26 =>
 K (.int .i64 (IntKind.i64.wrap ((IntKind.i64.wrap (b2 * 16)) + (IntKind.i64.wrap (k6 * t26))))) Hx20)
theorem E_arena_Arena_take (a1 : Option Addr) (b2 : Int) (H : Hp) (K : Value → Hp → Prop) : B_arena_Arena_take a1 b2 H K = denF Tryz.prog Tryz.f100 (.seq none .n (.seq none .n (.seq none (.sub (.loop ⟨[(5, .int .i64)], [0, 1]⟩ .n)) .n))) [(.pointer a1), (.int .i64 b2)] H K := by kernel_rfl
theorem den_arena_Arena_take {a1 : Option Addr} {b2 : Int} {H : Hp} {K : Value → Hp → Prop} (h : B_arena_Arena_take a1 b2 H K) : hcall PR f_arena_Arena_take ⟨[(.pointer a1), (.int .i64 b2)]⟩ H K := denF_call Tryz.func100 PR_mixed (Eq.mp (E_arena_Arena_take a1 b2 H K) h)

def B_arena_Arena_Free (a1 : Option Addr) (cell2 : Int) (H : Hp) (K : Value → Hp → Prop) : Prop :=
 hcall PR f_arena_Arena_place ⟨[(.pointer a1), (.int .i64 cell2)]⟩ H fun v3 Hx4 =>
 tup3 v3 fun v5 v6 v7 =>
 asI .i64 v5 fun t8 =>
 asI .i64 v6 fun t9 =>
 asB v7 fun t10 =>
 (bif (!t10) then
 K (.int .i64 9) Hx4
else
 nilP a1 fun aa11 =>
 ldSl (aa11.add 1) Hx4 fun takenP12 takenL13 takenC14 =>
 idxA takenP12 takenL13 t8 1 fun el15 =>
 ldI .u16 el15 Hx4 fun t16 =>
 (0 : Int) ≤ t9 ∧
 idxA takenP12 takenL13 t8 1 fun el17 =>
 st el17 (.int .u16 (bitOp .andNot .u16 t16 (shlI .u16 1 t9))) Hx4 fun Hx18 =>
 nilP a1 fun aa19 =>
 ldSl (aa19.add 1) Hx18 fun takenP20 takenL21 takenC22 =>
 idxA takenP20 takenL21 t8 1 fun el23 =>
 ldI .u16 el23 Hx18 fun t24 =>
 (bif ((t24 : Int) == 0) then
 nilP a1 fun aa25 =>
 ldSl aa25 Hx18 fun classP26 classL27 classC28 =>
 idxA classP26 classL27 t8 1 fun el29 =>
 st el29 (.int .i64 0) Hx18 fun Hx30 =>
 K (.int .i64 0) Hx30
else
 K (.int .i64 0) Hx18))
theorem E_arena_Arena_Free (a1 : Option Addr) (cell2 : Int) (H : Hp) (K : Value → Hp → Prop) : B_arena_Arena_Free a1 cell2 H K = denF Tryz.prog Tryz.f158 .n [(.pointer a1), (.int .i64 cell2)] H K := by kernel_rfl
theorem den_arena_Arena_Free {a1 : Option Addr} {cell2 : Int} {H : Hp} {K : Value → Hp → Prop} (h : B_arena_Arena_Free a1 cell2 H K) : hcall PR f_arena_Arena_Free ⟨[(.pointer a1), (.int .i64 cell2)]⟩ H K := denF_call Tryz.func158 PR_mixed (Eq.mp (E_arena_Arena_Free a1 cell2 H K) h)

def B_arena_Arena_place (a1 : Option Addr) (cell2 : Int) (H : Hp) (K : Value → Hp → Prop) : Prop :=
 (bif (decide ((cell2 : Int) < 0)) then
 K (.tuple #[(.int .i64 0), (.int .i64 0), (.bool false)]) H
else
 nilP a1 fun aa3 =>
 ldSl aa3 H fun classP4 classL5 classC6 =>
 (bif (decide ((cell2 : Int) ≥ (IntKind.i64.wrap ((classL5 : Int) * 16)))) then
 K (.tuple #[(.int .i64 0), (.int .i64 0), (.bool false)]) H
else
 (16 : Int) ≠ 0 ∧
 (16 : Int) ≠ 0 ∧
 nilP a1 fun aa7 =>
 ldSl aa7 H fun classP8 classL9 classC10 =>
 idxA classP8 classL9 (IntKind.i64.wrap (Int.tdiv cell2 16)) 1 fun el11 =>
 ldI .i64 el11 H fun t12 =>
 (bif ((t12 : Int) == 0) then
 K (.tuple #[(.int .i64 0), (.int .i64 0), (.bool false)]) H
else
 nilP a1 fun aa13 =>
 ldSl aa13 H fun classP14 classL15 classC16 =>
 idxA classP14 classL15 (IntKind.i64.wrap (Int.tdiv cell2 16)) 1 fun el17 =>
 ldI .i64 el17 H fun t18 =>
 (t18 : Int) ≠ 0 ∧
 (bif (((Int.tmod (Int.tmod cell2 16) t18) : Int) != 0) then
 K (.tuple #[(.int .i64 0), (.int .i64 0), (.bool false)]) H
else
 nilP a1 fun aa19 =>
 ldSl aa19 H fun classP20 classL21 classC22 =>
 idxA classP20 classL21 (IntKind.i64.wrap (Int.tdiv cell2 16)) 1 fun el23 =>
 ldI .i64 el23 H fun t24 =>
 (t24 : Int) ≠ 0 ∧
 nilP a1 fun aa25 =>
 ldSl (aa25.add 1) H fun takenP26 takenL27 takenC28 =>
 idxA takenP26 takenL27 (IntKind.i64.wrap (Int.tdiv cell2 16)) 1 fun el29 =>
 ldI .u16 el29 H fun t30 =>
 (0 : Int) ≤ (IntKind.i64.wrap (Int.tdiv (Int.tmod cell2 16) t24)) ∧
 K (.tuple #[(.int .i64 (IntKind.i64.wrap (Int.tdiv cell2 16))), (.int .i64 (IntKind.i64.wrap (Int.tdiv (Int.tmod cell2 16) t24))), (.bool (((bitOp .and .u16 (shrI .u16 t30 (IntKind.i64.wrap (Int.tdiv (Int.tmod cell2 16) t24))) 1) : Int) == 1))]) H))))
theorem E_arena_Arena_place (a1 : Option Addr) (cell2 : Int) (H : Hp) (K : Value → Hp → Prop) : B_arena_Arena_place a1 cell2 H K = denF Tryz.prog Tryz.f174 .n [(.pointer a1), (.int .i64 cell2)] H K := by kernel_rfl
theorem den_arena_Arena_place {a1 : Option Addr} {cell2 : Int} {H : Hp} {K : Value → Hp → Prop} (h : B_arena_Arena_place a1 cell2 H K) : hcall PR f_arena_Arena_place ⟨[(.pointer a1), (.int .i64 cell2)]⟩ H K := denF_call Tryz.func174 PR_mixed (Eq.mp (E_arena_Arena_place a1 cell2 H K) h)

end Go.Proofs.YtflfodcemnapeaaGreat

namespace Go.Proofs.YtflfodcemnapeaaGreat
set_option linter.unusedSimpArgs false
set_option linter.unusedVariables false
set_option linter.unnecessarySimpa false
open Go
/-- A block: its class, its bits. -/
structure Blk where
 c : Nat
 t : Nat

def isCls (c : Nat) : Prop := c = 1 ∨ c = 2 ∨ c = 4 ∨ c = 8 ∨ c = 16
def fullOf (c : Nat) : Nat := 2 ^ (16 / c) - 1
structure Blk.ok (b : Blk) : Prop where
 free : b.c = 0 → b.t = 0
 cls : b.c ≠ 0 → isCls b.c ∧ b.t < 2 ^ (16 / b.c) ∧ b.t ≠ 0

def clsOf (size : Int) : Nat := if size < 1 ∨ 16 < size then 0 else if size ≤ 1 then 1 else if size ≤ 2 then 2 else if size ≤ 4 then 4 else if size ≤ 8 then 8 else 16

theorem clsOf_cls {size : Int} (h : clsOf size ≠ 0) : isCls (clsOf size) := by
 unfold clsOf at h ⊢
 unfold isCls
 split
 ·rename_i h'; rw [if_pos h'] at h; exact absurd rfl h
 ·split <;> (try omega)
  split <;> (try omega)
  split <;> (try omega)
  split <;> omega

theorem isCls.small {c : Nat} (h : isCls c) : 1 ≤ c ∧ c ≤ 16 ∧ 1 ≤ 16 / c ∧ 16 / c ≤ 16 ∧ 16 / c * c = 16 := by
 rcases h with rfl | rfl | rfl | rfl | rfl <;> decide

/-- An arena: its block, its two rows. -/
def Arn (a : Nat) (l : List Blk) : Prt := Prt.ex fun (x : Option Addr × Nat × Option Addr × Nat × Nat) =>
 Prt.list [Prt.one a (.cells #[.slice x.1 l.length x.2.1, .slice x.2.2.1 l.length x.2.2.2.1] x.2.2.2.2 (0, 0)), Prt.row 1 x.1 l.length x.2.1 (l.map fun b => Value.int .i64 b.c), Prt.row 1 x.2.2.1 l.length x.2.2.2.1 (l.map fun b => Value.int .u16 b.t)]

def noBlk : Blk := ⟨0, 0⟩

theorem Class_ok {size : Int} {H : Hp} {K : Value → Hp → Prop} (hK : K (.int .i64 (clsOf size)) H) : hcall PR f_arena_Class ⟨[.int .i64 size]⟩ H K := by
 apply den_arena_Class
 unfold B_arena_Class
 by_cases h1 : size < 1
 ·rw [show clsOf size = 0 by unfold clsOf; rw [if_pos (.inl h1)]] at hK
  exact bif_pos h1 hK
 by_cases h2 : size > 16
 ·rw [show clsOf size = 0 by unfold clsOf; rw [if_pos (.inr h2)]] at hK
  exact bif_neg h1 (bif_pos h2 hK)
 refine bif_neg h1 (bif_neg h2 ?_)
 refine ⟨fun c H' => H' = H ∧ ((c = 1) ∨ (c = 2 ∧ 1 < size) ∨ (c = 4 ∧ 2 < size) ∨ (c = 8 ∧ 4 < size) ∨ (c = 16 ∧ 8 < size)), fun c _ => (16 - c).toNat, ⟨rfl, .inl rfl⟩, ?_⟩
 rintro c H' ⟨hH, hc⟩
 subst hH
 by_cases hlt : c < size
 ·refine bif_pos hlt ⟨by decide, ?_⟩
  rcases hc with rfl | ⟨rfl, h⟩ | ⟨rfl, h⟩ | ⟨rfl, h⟩ | ⟨rfl, h⟩
  ·rw [show shlI .i64 1 1 = 2 by decide]; exact ⟨⟨rfl, .inr (.inl ⟨rfl, hlt⟩)⟩, by dsimp only; decide⟩
  ·rw [show shlI .i64 2 1 = 4 by decide]; exact ⟨⟨rfl, .inr (.inr (.inl ⟨rfl, hlt⟩))⟩, by dsimp only; decide⟩
  ·rw [show shlI .i64 4 1 = 8 by decide]; exact ⟨⟨rfl, .inr (.inr (.inr (.inl ⟨rfl, hlt⟩)))⟩, by dsimp only; decide⟩
  ·rw [show shlI .i64 8 1 = 16 by decide]; exact ⟨⟨rfl, .inr (.inr (.inr (.inr ⟨rfl, hlt⟩)))⟩, by dsimp only; decide⟩
  ·omega
 ·refine bif_neg hlt ?_
  have e : (clsOf size : Int) = c := by
   unfold clsOf
   rw [if_neg (by omega)]
   rcases hc with rfl | ⟨rfl, h⟩ | ⟨rfl, h⟩ | ⟨rfl, h⟩ | ⟨rfl, h⟩
   ·rw [if_pos (by omega)]; rfl
   ·rw [if_neg (by omega), if_pos (by omega)]; rfl
   ·rw [if_neg (by omega), if_neg (by omega), if_pos (by omega)]; rfl
   ·rw [if_neg (by omega), if_neg (by omega), if_neg (by omega), if_pos (by omega)]; rfl
   ·rw [if_neg (by omega), if_neg (by omega), if_neg (by omega), if_neg (by omega)]; rfl
  rw [e] at hK
  exact hK

theorem full_ok {c : Nat} {H : Hp} {K : Value → Hp → Prop} (hc : isCls c) (hK : K (.int .u16 (fullOf c)) H) : hcall PR f_arena_full ⟨[.int .i64 c]⟩ H K := by
 apply den_arena_full
 unfold B_arena_full
 rcases hc with rfl | rfl | rfl | rfl | rfl
 all_goals
  refine ⟨by decide, by decide, ?_⟩
  exact hK

theorem arenaNew_ok {n : Nat} {H : Hp} {K : Value → Hp → Prop} (h1 : 1 ≤ n) (h2 : n ≤ 256)
  (hK : ∀ a F H', (Arn a (List.replicate n noBlk)).holds F H' → Goes Nothing H F H' → K (.tuple #[.pointer (some ⟨a, 0, none⟩), .int .i64 0]) H') : hcall PR f_arena_New ⟨[.int .i64 (16 * (n : Int))]⟩ H K := by
 apply den_arena_New
 unfold B_arena_New
 have e1 : Int.tmod (16 * (n : Int)) 16 = 0 := by rw [Int.tmod_eq_emod_of_nonneg (by omega)]; omega
 have e2 : Int.tdiv (16 * (n : Int)) 16 = n := by rw [Int.tdiv_eq_ediv_of_nonneg (by omega)]; omega
 refine bif_neg (by omega) (bif_neg (by omega) ⟨by decide, bif_neqf e1 ⟨by decide, ?_⟩⟩)
 have hw : IntKind.i64.wrap (n : Int) = n := wrap_i64 (by omega) (by omega)
 have e47 : (2 : Int) ^ 47 = 140737488355328 := by decide
 have e62 : (2 : Int) ^ 62 = 4611686018427387904 := by decide
 rw [e2, hw]
 constructor
 ·refine mko_ty_Sint (by omega) (by omega) (by omega) fun p1 H1 o1 g1 => ?_
  rw [Zf]
  refine mko_ty_Suint16 (by omega) (by omega) (by omega) fun p2 H2 o2 g2 => ?_
  rw [Zf]
  intro b hb
  obtain ⟨F1, l1, k1⟩ := Prt.more (Prt.list_nil H) (Prt.row_holds o1) g1
  obtain ⟨F2, l2, k2⟩ := Prt.more l1 (Prt.row_holds o2) g2
  obtain ⟨F3, l3, k3⟩ := Prt.alloc (o := .cells #[.slice p1 n n, .slice p2 n n] ty_arena_Arena (0, 0)) (Prt.flip l2) hb
  refine hK b F3 _ ⟨⟨p1, n, p2, n, ty_arena_Arena⟩, ?_⟩ ((k1.trans k2).trans k3)
  simpa [noBlk] using l3
 ·refine mko_ty_Suint16 (by omega) (by omega) (by omega) fun p2 H1 o1 g1 => ?_
  rw [Zf]
  refine mko_ty_Sint (by omega) (by omega) (by omega) fun p1 H2 o2 g2 => ?_
  rw [Zf]
  intro b hb
  obtain ⟨F1, l1, k1⟩ := Prt.more (Prt.list_nil H) (Prt.row_holds o1) g1
  obtain ⟨F2, l2, k2⟩ := Prt.more l1 (Prt.row_holds o2) g2
  obtain ⟨F3, l3, k3⟩ := Prt.alloc (o := .cells #[.slice p1 n n, .slice p2 n n] ty_arena_Arena (0, 0)) l2 hb
  refine hK b F3 _ ⟨⟨p1, n, p2, n, ty_arena_Arena⟩, ?_⟩ ((k1.trans k2).trans k3)
  simpa [noBlk] using l3

/-- The first place that is not taken. -/
def First (t k : Nat) : Prop := t.testBit k = false ∧ ∀ j, j < k → t.testBit j = true

theorem First.of {t n : Nat} (h : t < 2 ^ n) (hf : t ≠ 2 ^ n - 1) : ∃ k, k < n ∧ First t k := by
 have hex : ∃ k, k < n ∧ t.testBit k = false := by
  refine Classical.byContradiction fun hno => hf ?_
  apply Nat.eq_of_testBit_eq
  intro j
  rw [Nat.testBit_two_pow_sub_one]
  by_cases hj : j < n
  ·cases e : t.testBit j
   ·exact absurd ⟨j, hj, e⟩ hno
   ·simp [hj]
  ·rw [Nat.testBit_lt_two_pow (Nat.lt_of_lt_of_le h (Nat.pow_le_pow_right (by omega) (by omega)))]
   simp [hj]
 obtain ⟨k, hk, hb⟩ := hex
 induction k using Nat.strongRecOn with
 | _ k ih =>
  by_cases hall : ∀ j, j < k → t.testBit j = true
  ·exact ⟨k, hk, hb, hall⟩
  ·obtain ⟨j, hj⟩ := Classical.not_forall.1 hall
   obtain ⟨hj, hb'⟩ := Classical.not_imp.1 hj
   exact ih j hj (by omega) (by simpa using hb')

theorem blk_set {l : List Blk} {i : Nat} {b : Blk} : (l.map fun b => Value.int .i64 b.c).set i (.int .i64 b.c) = (l.set i b).map (fun b => Value.int .i64 b.c) := by simp [List.map_set]
theorem blk_set' {l : List Blk} {i : Nat} {b : Blk} : (l.map fun b => Value.int .u16 b.t).set i (.int .u16 b.t) = (l.set i b).map (fun b => Value.int .u16 b.t) := by simp [List.map_set]

/-- The rows, opened. -/
theorem Arn.shut {a : Nat} {l : List Blk} {p p2 : Option Addr} {c c2 T : Nat} {F : Nat → Prop} {H : Hp}
  (h : (Prt.list [Prt.one a (.cells #[.slice p l.length c, .slice p2 l.length c2] T (0, 0)), Prt.row 1 p l.length c (l.map fun b => Value.int .i64 b.c), Prt.row 1 p2 l.length c2 (l.map fun b => Value.int .u16 b.t)]).holds F H) : (Arn a l).holds F H := ⟨⟨p, c, p2, c2, T⟩, h⟩

theorem set_same {l : List Blk} {i : Nat} {f : Blk → Value} {b : Blk} (hi : i < l.length) (h : f b = f (l.getD i noBlk)) : (l.set i b).map f = l.map f := by
 rw [List.map_set, h, List.getD_eq_getElem?_getD, List.getElem?_eq_getElem hi, Option.getD_some]
 apply List.ext_getElem
 ·simp
 ·intro j h1 h2
  rw [List.getElem_set]
  split
  ·subst_vars; simp
  ·rfl

theorem take_ok {a : Nat} {l : List Blk} {i k : Nat} {F : Nat → Prop} {H : Hp} {K : Value → Hp → Prop} (h : (Arn a l).holds F H) (hi : i < l.length) (hl : l.length ≤ 256) (ht : (l.getD i noBlk).t < 65536) (hk : First (l.getD i noBlk).t k) (hk16 : k < 16) (hc : (l.getD i noBlk).c ≤ 16)
  (hK : ∀ F' H', (Arn a (l.set i ⟨(l.getD i noBlk).c, (l.getD i noBlk).t ||| 2 ^ k⟩)).holds F' H' → Goes F H F' H' → K (.int .i64 ((16 * i + k * (l.getD i noBlk).c : Nat) : Int)) H') : hcall PR f_arena_Arena_take ⟨[.pointer (some ⟨a, 0, none⟩), .int .i64 i]⟩ H K := by
 obtain ⟨x, h⟩ := h
 apply den_arena_Arena_take
 unfold B_arena_Arena_take
 simp only [Zt, Zu, Nat.zero_add]
 have e0 := Prt.one_cell h (i := 0) (o := 0) rfl rfl
 have e1 := Prt.one_cell h (i := 0) (o := 1) rfl rfl
 have r2 := Prt.row_rd h (i := 2) rfl
 generalize hb : l.getD i noBlk = b at *
 refine ⟨fun j H' => H' = H ∧ ∃ m : Nat, j = m ∧ m ≤ k, fun j _ => (k - j).toNat, ⟨rfl, 0, rfl, by omega⟩, ?_⟩
 rintro j H' ⟨hH, m, rfl, hm⟩
 subst hH
 refine ldSl_of e1 (idx1 (d := noBlk) r2 (by omega) (by omega) fun b' o hpp hcc => ldI_of hcc ⟨by omega, ?_⟩)
 rw [Int.toNat_natCast, hb, bit16 ht (by omega)]
 by_cases hmk : m < k
 ·rw [hk.2 m hmk, if_pos rfl]
  refine bif_eq rfl ?_
  rw [wrap_i64 (by omega) (by omega)]
  exact ⟨⟨rfl, m + 1, by omega, by omega⟩, by dsimp only; omega⟩
 ·obtain rfl : k = m := by omega
  rw [hk.1, if_neg (by decide)]
  refine bif_ne (by decide) ?_
  refine ldSl_of e1 (idx1 (d := noBlk) r2 (by omega) (by omega) fun b' o hpp hcc => ldI_of hcc ⟨by omega, ?_⟩)
  rw [Int.toNat_natCast, hb, or16 ht hk16]
  refine idx1 (d := noBlk) r2 (by omega) (by omega) fun b' o hpp hcc => ?_
  rw [Int.toNat_natCast]
  refine Prt.poke h (i := 2) rfl hpp (by omega) fun F1 H1 h1 g1 => ?_
  refine ldSl_of (Prt.one_cell h1 (i := 0) (o := 0) rfl rfl) (idx1 (d := noBlk) (Prt.row_rd h1 (i := 1) rfl) (by omega) (by omega) fun b' o hpp hcc => ldI_of hcc ?_)
  rw [Int.toNat_natCast, hb]
  have hmul : k * b.c ≤ 16 * 16 := Nat.mul_le_mul (by omega) hc
  have w1 : IntKind.i64.wrap ((i : Int) * 16) = (i : Int) * 16 := wrap_i64 (by omega) (by omega)
  have w2 : IntKind.i64.wrap ((k : Int) * (b.c : Int)) = ((k * b.c : Nat) : Int) := by
   rw [wrap_i64 (by push_cast [← Int.natCast_mul]; omega) (by rw [← Int.natCast_mul]; omega)]
   push_cast; rfl
  rw [w1, w2, wrap_i64 (by omega) (by omega)]
  rw [show (i : Int) * 16 + ((k * b.c : Nat) : Int) = ((16 * i + k * b.c : Nat) : Int) by omega]
  refine hK F1 H1 (Arn.shut (p := x.1) (p2 := x.2.2.1) (c := x.2.1) (c2 := x.2.2.2.1) (T := x.2.2.2.2) ?_) g1
  rw [set_same (f := fun b => Value.int .i64 b.c) hi (by rw [hb]), ← blk_set' (b := ⟨b.c, b.t ||| 2 ^ k⟩)]
  simpa using h1

/-- Where room is for a class: a block of the class that is not full, else a free one. -/
def ArFits (l : List Blk) (c i k : Nat) : Prop :=
 i < l.length ∧ (((l.getD i noBlk).c = c ∧ k < 16 / c ∧ First (l.getD i noBlk).t k ∧ ∀ j, j < i → (l.getD j noBlk).c = c → (l.getD j noBlk).t = fullOf c) ∨
  ((l.getD i noBlk).c = 0 ∧ k = 0 ∧ (∀ j, j < i → (l.getD j noBlk).c ≠ 0) ∧ ∀ j, j < l.length → (l.getD j noBlk).c = c → (l.getD j noBlk).t = fullOf c))
def ArNoFit (l : List Blk) (c : Nat) : Prop := ∀ j, j < l.length → (l.getD j noBlk).c ≠ 0 ∧ ((l.getD j noBlk).c = c → (l.getD j noBlk).t = fullOf c)

/-- The arena behind a place was taken. -/
def tookAt (l : List Blk) (c i k : Nat) : List Blk := l.set i ⟨c, (l.getD i noBlk).t ||| 2 ^ k⟩

end Go.Proofs.YtflfodcemnapeaaGreat

namespace Go.Proofs.YtflfodcemnapeaaGreat
set_option linter.unusedSimpArgs false
set_option linter.unusedVariables false
set_option linter.unnecessarySimpa false
open Go
def allOk (l : List Blk) : Prop := ∀ j, j < l.length → (l.getD j noBlk).ok

theorem Blk.ok.small {b : Blk} (h : b.ok) : b.t < 65536 ∧ b.c ≤ 16 := by
 by_cases hc : b.c = 0
 ·rw [h.free hc, hc]; exact ⟨by omega, by omega⟩
 ·obtain ⟨h1, h2, h3⟩ := h.cls hc
  have h4 := h1.small
  have : 2 ^ (16 / b.c) ≤ 2 ^ 16 := Nat.pow_le_pow_right (by omega) h4.2.2.2.1
  have e : (2 : Nat) ^ 16 = 65536 := by decide
  exact ⟨by omega, h4.2.1⟩

theorem getD_set_blk {l : List Blk} {i j : Nat} {b : Blk} (hi : i < l.length) : (l.set i b).getD j noBlk = if j = i then b else l.getD j noBlk := by
 rw [List.getD_eq_getElem?_getD, List.getElem?_set, List.getD_eq_getElem?_getD]
 by_cases h : i = j
 ·subst h; simp [hi]
 ·simp [h, Ne.symm h]

set_option maxRecDepth 20000 in
theorem Alloc_ok {a : Nat} {l : List Blk} {size : Int} {F : Nat → Prop} {H : Hp} {K : Value → Hp → Prop} (h : (Arn a l).holds F H) (hok : allOk l) (hl : l.length ≤ 256)
  (harg : clsOf size = 0 → K (.tuple #[.int .i64 0, .int .i64 1]) H)
  (hfit : clsOf size ≠ 0 → ∀ i k, ArFits l (clsOf size) i k → ∀ F' H', (Arn a (tookAt l (clsOf size) i k)).holds F' H' → Goes F H F' H' → K (.tuple #[.int .i64 ((16 * i + k * clsOf size : Nat) : Int), .int .i64 0]) H')
  (hnone : clsOf size ≠ 0 → ArNoFit l (clsOf size) → K (.tuple #[.int .i64 0, .int .i64 2]) H) : hcall PR f_arena_Arena_Alloc ⟨[.pointer (some ⟨a, 0, none⟩), .int .i64 size]⟩ H K := by
 apply den_arena_Arena_Alloc
 unfold B_arena_Arena_Alloc
 refine Class_ok ?_
 simp only [Za, Zt, Zu, Nat.zero_add]
 by_cases hc0 : clsOf size = 0
 ·exact bif_eq (by omega) (harg hc0)
 have hcls := clsOf_cls hc0
 have hfit := hfit hc0
 have hnone := hnone hc0
 refine bif_ne (by omega) ?_
 generalize clsOf size = c at *
 clear harg hc0
 have hcs := hcls.small
 obtain ⟨x, h'⟩ := id h
 have e0 := Prt.one_cell h' (i := 0) (o := 0) rfl rfl
 have e1 := Prt.one_cell h' (i := 0) (o := 1) rfl rfl
 have r1 := Prt.row_rd h' (i := 1) rfl
 have r2 := Prt.row_rd h' (i := 2) rfl
 refine ldSl_of e0 ?_
 refine ⟨fun free t H' => H' = H ∧ ∃ j : Nat, t = j ∧ j ≤ l.length ∧ (∀ i, i < j → (l.getD i noBlk).c = c → (l.getD i noBlk).t = fullOf c) ∧
  ((free = -1 ∧ ∀ i, i < j → (l.getD i noBlk).c ≠ 0) ∨ ∃ f : Nat, free = f ∧ f < j ∧ (l.getD f noBlk).c = 0 ∧ ∀ i, i < f → (l.getD i noBlk).c ≠ 0),
  fun _ t _ => (l.length - t).toNat, ⟨rfl, 0, rfl, by omega, fun i hi => absurd hi (Nat.not_lt_zero _), .inl ⟨rfl, fun i hi => absurd hi (Nat.not_lt_zero _)⟩⟩, ?_⟩
 rintro free t H' ⟨hH, j, rfl, hj, hfull, hfree⟩
 subst hH
 by_cases hlt : (j : Int) < l.length
 ·refine bif_pos hlt ?_
  intro R15 hR15
  refine idx1 (d := noBlk) r1 (by omega) hlt fun b' o hpp hcc => ldI_of hcc ?_
  rw [Int.toNat_natCast]
  have hbok := hok j (by omega)
  have hbs := hbok.small
  have hnext : ∀ free' : Int, ((l.getD j noBlk).c = c → (l.getD j noBlk).t = fullOf c) → ((free' = -1 ∧ ∀ i, i < j + 1 → (l.getD i noBlk).c ≠ 0) ∨ ∃ f : Nat, free' = f ∧ f < j + 1 ∧ (l.getD f noBlk).c = 0 ∧ ∀ i, i < f → (l.getD i noBlk).c ≠ 0) → R15 free' H' := fun free' hf hfr => by
   refine hR15 free' H' ?_
   rw [wrap_i64 (by omega) (by omega)]
   refine ⟨⟨rfl, j + 1, by omega, by omega, fun i hi hic => ?_, hfr⟩, by dsimp only; omega⟩
   by_cases hij : i = j
   ·subst hij; exact hf hic
   ·exact hfull i (by omega) hic
  intro R20 hR20
  have hgo : ((l.getD j noBlk).c = c → (l.getD j noBlk).t = fullOf c) → R20 H' := fun hf => by
   refine hR20 H' ?_
   by_cases hz : (l.getD j noBlk).c = 0
   ·refine bif_eq (by omega) ?_
    rcases hfree with ⟨rfl, hno⟩ | ⟨f, rfl, hfj, hf0, hfn⟩
    ·exact bif_pos (by decide) (hnext j hf (.inr ⟨j, rfl, by omega, hz, fun i hi => hno i hi⟩))
    ·exact bif_neg (by omega) (hnext f hf (.inr ⟨f, rfl, by omega, hf0, hfn⟩))
   ·refine bif_ne (by omega) (hnext free hf ?_)
    rcases hfree with ⟨rfl, hno⟩ | ⟨f, rfl, hfj, hf0, hfn⟩
    ·refine .inl ⟨rfl, fun i hi => ?_⟩
     by_cases hij : i = j
     ·subst hij; exact hz
     ·exact hno i (by omega)
    ·exact .inr ⟨f, rfl, by omega, hf0, hfn⟩
  by_cases hcc : (l.getD j noBlk).c = c
  ·refine bif_eq (by omega) (ldSl_of e1 (idx1 (d := noBlk) r2 (by omega) hlt fun b' o hpp hct => ldI_of hct (full_ok hcls ?_)))
   simp only [Za, Int.toNat_natCast] at hct ⊢
   refine ⟨ldI_of hct rfl, ldSl_of e1 rfl, ?_⟩
   by_cases hf : (l.getD j noBlk).t = fullOf c
   ·exact bif_neqf (by omega) (hgo fun _ => hf)
   ·refine bif_neq (by omega) ?_
    have hc0 : (l.getD j noBlk).c ≠ 0 := by omega
    obtain ⟨_, ht2, _⟩ := hbok.cls hc0
    rw [hcc] at ht2
    obtain ⟨k, hk, hfirst⟩ := First.of ht2 hf
    refine take_ok h (by omega) hl hbs.1 hfirst (by omega) hbs.2 fun F' H'' h'' g'' => ?_
    rw [hcc] at h'' ⊢
    simp only [Za]
    exact hfit j k ⟨by omega, .inl ⟨hcc, hk, hfirst, fun i hi => hfull i hi⟩⟩ F' H'' h'' g''
  ·exact bif_ne (by omega) (hgo fun h => absurd h hcc)
 ·refine bif_neg hlt ?_
  obtain rfl : j = l.length := by omega
  rcases hfree with ⟨rfl, hno⟩ | ⟨f, rfl, hfj, hf0, hfn⟩
  ·exact bif_pos (by decide) (hnone fun i hi => ⟨hno i hi, hfull i hi⟩)
  ·refine bif_neg (by omega) (ldSl_of e0 (idx1 (d := noBlk) r1 (by omega) (by omega) fun b' o hpp hcc => ?_))
   rw [Int.toNat_natCast]
   refine Prt.poke h' (i := 1) rfl hpp (by omega) fun F1 H1 h1 g1 => ?_
   have ht0 : (l.getD f noBlk).t = 0 := (hok f (by omega)).free hf0
   have h2 : (Arn a (l.set f ⟨c, 0⟩)).holds F1 H1 := by
    refine Arn.shut (p := x.1) (p2 := x.2.2.1) (c := x.2.1) (c2 := x.2.2.2.1) (T := x.2.2.2.2) ?_
    rw [set_same (f := fun b => Value.int .u16 b.t) hfj (by rw [ht0]), ← blk_set (b := ⟨c, 0⟩)]
    simpa using h1
   have eg : (l.set f ⟨c, 0⟩).getD f noBlk = ⟨c, 0⟩ := by rw [getD_set_blk hfj, if_pos rfl]
   refine take_ok (k := 0) h2 (by simpa using hfj) (by simpa using hl) (by rw [eg]; show (0 : Nat) < 65536; omega) (by rw [eg]; exact ⟨by simp, fun i hi => absurd hi (Nat.not_lt_zero _)⟩) (by omega) (by rw [eg]; exact hcs.2.1) fun F' H'' h'' g'' => ?_
   rw [eg] at h'' ⊢
   simp only [Za]
   refine hfit f 0 ⟨hfj, .inr ⟨hf0, rfl, hfn, fun i hi => hfull i hi⟩⟩ F' H'' ?_ (g1.trans g'')
   rw [List.set_set] at h''
   unfold tookAt
   rw [ht0]
   exact h''

/-- Where a place that is taken begins. -/
structure AtPlace (l : List Blk) (cell : Int) (b k : Nat) : Prop where
 lt : b < l.length
 c0 : (l.getD b noBlk).c ≠ 0
 k1 : k < 16 / (l.getD b noBlk).c
 at_ : cell = ((16 * b + k * (l.getD b noBlk).c : Nat) : Int)
 bit : (l.getD b noBlk).t.testBit k = true

theorem place_split {c k b : Nat} (hc : isCls c) (hk : k < 16 / c) : (16 * b + k * c) / 16 = b ∧ (16 * b + k * c) % 16 = k * c ∧ (k * c) % c = 0 ∧ (k * c) / c = k := by
 have hs := hc.small
 have h1 : k * c < 16 := by
  have : k * c < 16 / c * c := Nat.mul_lt_mul_of_pos_right hk (by omega)
  omega
 refine ⟨by omega, by omega, Nat.mul_mod_left k c, Nat.mul_div_cancel k (by omega)⟩

theorem place_ok {a : Nat} {l : List Blk} {cell : Int} {F : Nat → Prop} {H : Hp} {K : Value → Hp → Prop} (h : (Arn a l).holds F H) (hok : allOk l) (hl : l.length ≤ 256)
  (hno : (∀ b k, ¬ AtPlace l cell b k) → ∀ x y, K (.tuple #[.int .i64 x, .int .i64 y, .bool false]) H)
  (hyes : ∀ b k, AtPlace l cell b k → K (.tuple #[.int .i64 b, .int .i64 k, .bool true]) H) : hcall PR f_arena_Arena_place ⟨[.pointer (some ⟨a, 0, none⟩), .int .i64 cell]⟩ H K := by
 apply den_arena_Arena_place
 unfold B_arena_Arena_place
 simp only [Zt, Zu, Nat.zero_add]
 obtain ⟨x, h'⟩ := id h
 have e0 := Prt.one_cell h' (i := 0) (o := 0) rfl rfl
 have e1 := Prt.one_cell h' (i := 0) (o := 1) rfl rfl
 have r1 := Prt.row_rd h' (i := 1) rfl
 have r2 := Prt.row_rd h' (i := 2) rfl
 by_cases h0 : cell < 0
 ·refine bif_pos h0 (hno (fun b k hp => ?_) _ _)
  have := hp.at_
  omega
 refine bif_neg h0 (ldSl_of e0 ?_)
 have w1 : IntKind.i64.wrap ((l.length : Int) * 16) = (l.length : Int) * 16 := wrap_i64 (by omega) (by omega)
 rw [w1]
 obtain ⟨n, rfl⟩ : ∃ n : Nat, cell = n := ⟨cell.toNat, by omega⟩
 by_cases h1 : (n : Int) ≥ (l.length : Int) * 16
 ·refine bif_pos h1 (hno (fun b k hp => ?_) _ _)
  have h2 := hp.at_
  have h3 := hp.lt
  obtain ⟨hc, _, _⟩ := (hok b h3).cls hp.c0
  have := place_split (b := b) hc hp.k1
  omega
 refine bif_neg h1 ⟨by decide, by decide, ?_⟩
 have e2 : Int.tdiv (n : Int) 16 = ((n / 16 : Nat) : Int) := by rw [Int.tdiv_eq_ediv_of_nonneg (by omega)]; omega
 have e3 : Int.tmod (n : Int) 16 = ((n % 16 : Nat) : Int) := by rw [Int.tmod_eq_emod_of_nonneg (by omega)]; omega
 rw [e2, e3, wrap_i64 (by omega) (by omega)]
 have hb : n / 16 < l.length := by omega
 have hn : n = 16 * (n / 16) + n % 16 := by omega
 have hin : n % 16 < 16 := by omega
 generalize n / 16 = b at hb hn
 generalize n % 16 = i at hn hin
 refine ldSl_of e0 (idx1 (d := noBlk) r1 (by omega) (by omega) fun b' o hpp hcc => ldI_of hcc ?_)
 simp only [Int.toNat_natCast] at hcc ⊢
 have hbok := hok b hb
 by_cases hc0 : (l.getD b noBlk).c = 0
 ·refine bif_eq (by omega) (hno (fun b' k hp => ?_) _ _)
  have h2 := hp.at_
  obtain ⟨hc, _, _⟩ := (hok b' hp.lt).cls hp.c0
  have h5 := place_split (b := b') hc hp.k1
  obtain rfl : b' = b := by omega
  exact hp.c0 hc0
 obtain ⟨hcls, ht, _⟩ := hbok.cls hc0
 have hs := hcls.small
 have hts := hbok.small
 refine bif_ne (by omega) (ldSl_of e0 (idx1 (d := noBlk) r1 (by omega) (by omega) fun b' o hpp hcc => ldI_of hcc ⟨by simp only [Int.toNat_natCast]; omega, ?_⟩))
 simp only [Int.toNat_natCast] at hcc ⊢
 have e4 : Int.tmod (i : Int) ((l.getD b noBlk).c : Int) = ((i % (l.getD b noBlk).c : Nat) : Int) := by rw [Int.tmod_eq_emod_of_nonneg (by omega)]; norm_cast
 have e5 : Int.tdiv (i : Int) ((l.getD b noBlk).c : Int) = ((i / (l.getD b noBlk).c : Nat) : Int) := by rw [Int.tdiv_eq_ediv_of_nonneg (by omega)]; norm_cast
 rw [e4]
 by_cases hm : i % (l.getD b noBlk).c = 0
 rotate_left
 ·refine bif_neq (by omega) (hno (fun b' k hp => ?_) _ _)
  have h2 := hp.at_
  obtain ⟨hc, _, _⟩ := (hok b' hp.lt).cls hp.c0
  have h5 := place_split (b := b') hc hp.k1
  obtain rfl : b' = b := by omega
  obtain rfl : i = k * (l.getD b' noBlk).c := by omega
  exact hm h5.2.2.1
 refine bif_neqf (by omega) (ldSl_of e0 (idx1 (d := noBlk) r1 (by omega) (by omega) fun b' o hpp hcc => ldI_of hcc ⟨by simp only [Int.toNat_natCast]; omega, ?_⟩))
 simp only [Int.toNat_natCast] at hcc ⊢
 refine ldSl_of e1 (idx1 (d := noBlk) r2 (by omega) (by omega) fun b' o hpp hcc => ldI_of hcc ?_)
 simp only [Int.toNat_natCast] at hcc ⊢
 have hdiv : i / (l.getD b noBlk).c < 16 / (l.getD b noBlk).c := by
  rw [Nat.div_lt_iff_lt_mul (by omega)]
  omega
 have hik : i = i / (l.getD b noBlk).c * (l.getD b noBlk).c := by
  have := Nat.div_add_mod' i (l.getD b noBlk).c
  omega
 generalize hqd : i / (l.getD b noBlk).c = q at *
 rw [e5, wrap_i64 (by omega) (by omega)]
 refine ⟨by omega, ?_⟩
 rw [bit16 hts.1 (by omega)]
 cases hbit : (l.getD b noBlk).t.testBit q
 ·rw [if_neg (by decide)]
  refine hno (fun b' k hp => ?_) _ _
  have h2 := hp.at_
  obtain ⟨hc, _, _⟩ := (hok b' hp.lt).cls hp.c0
  have h5 := place_split (b := b') hc hp.k1
  obtain rfl : b' = b := by omega
  have hi' : i = k * (l.getD b' noBlk).c := by omega
  rw [hi', h5.2.2.2] at hqd
  rw [← hqd, hp.bit] at hbit
  cases hbit
 ·rw [if_pos rfl]
  refine hyes b q ⟨hb, hc0, hdiv, ?_, hbit⟩
  rw [← hik]
  omega

/-- A place struck. -/
def freed (b : Blk) (k : Nat) : Blk := if strike b.t k = 0 then noBlk else ⟨b.c, strike b.t k⟩


theorem Free_ok {a : Nat} {l : List Blk} {cell : Int} {F : Nat → Prop} {H : Hp} {K : Value → Hp → Prop} (h : (Arn a l).holds F H) (hok : allOk l) (hl : l.length ≤ 256)
  (hno : (∀ b k, ¬ AtPlace l cell b k) → K (.int .i64 9) H)
  (hyes : ∀ b k, AtPlace l cell b k → ∀ F' H', (Arn a (l.set b (freed (l.getD b noBlk) k))).holds F' H' → Goes F H F' H' → K (.int .i64 0) H') : hcall PR f_arena_Arena_Free ⟨[.pointer (some ⟨a, 0, none⟩), .int .i64 cell]⟩ H K := by
 apply den_arena_Arena_Free
 unfold B_arena_Arena_Free
 refine place_ok h hok hl (fun hp x y => ?_) fun b k hp => ?_
 ·simp only [Zi, Za, Zb, Bool.not_false, cond_true]
  exact hno hp
 ·simp only [Zi, Za, Zb, Bool.not_true, cond_false, Zt, Zu, Nat.zero_add]
  obtain ⟨x, h'⟩ := id h
  have hlt := hp.lt
  have hbok := hok b hlt
  have hs := hbok.small
  obtain ⟨hcls, _, _⟩ := hbok.cls hp.c0
  have hk16 : k < 16 := by have := hp.k1; have := hcls.small; omega
  have hyes := hyes b k hp
  have e1 := Prt.one_cell h' (i := 0) (o := 1) rfl rfl
  have r2 := Prt.row_rd h' (i := 2) rfl
  refine ldSl_of e1 (idx1 (d := noBlk) r2 (by omega) (by omega) fun b' o hpp hcc => ldI_of hcc ⟨by omega, ?_⟩)
  rw [Int.toNat_natCast]
  unfold freed at hyes
  generalize hbb : l.getD b noBlk = B at *
  rw [andNot16 hs.1 hk16]
  refine idx1 (d := noBlk) r2 (by omega) (by omega) fun b' o hpp hcc => ?_
  rw [Int.toNat_natCast]
  refine Prt.poke h' (i := 2) rfl hpp (by omega) fun F1 H1 h1 g1 => ?_
  have h2 : (Arn a (l.set b ⟨B.c, strike B.t k⟩)).holds F1 H1 := by
   refine Arn.shut (p := x.1) (p2 := x.2.2.1) (c := x.2.1) (c2 := x.2.2.2.1) (T := x.2.2.2.2) ?_
   rw [set_same (f := fun b => Value.int .i64 b.c) hlt (by rw [hbb]), ← blk_set' (b := ⟨B.c, strike B.t k⟩)]
   simpa using h1
  obtain ⟨y, h2'⟩ := id h2
  have hlen : (l.set b ⟨B.c, strike B.t k⟩).length = l.length := by simp
  have eg : (l.set b ⟨B.c, strike B.t k⟩).getD b noBlk = ⟨B.c, strike B.t k⟩ := by rw [getD_set_blk hlt, if_pos rfl]
  refine ldSl_of (Prt.one_cell h2' (i := 0) (o := 1) rfl rfl) (idx1 (d := noBlk) (Prt.row_rd h2' (i := 2) rfl) (by omega) (by omega) fun b' o hpp hcc => ldI_of hcc ?_)
  rw [Int.toNat_natCast, eg]
  by_cases hz : strike B.t k = 0
  ·refine bif_eq (by rw [hz]; rfl) (ldSl_of (Prt.one_cell h2' (i := 0) (o := 0) rfl rfl) (idx1 (d := noBlk) (Prt.row_rd h2' (i := 1) rfl) (by omega) (by omega) fun b' o hpp hcc => ?_))
   rw [Int.toNat_natCast]
   refine Prt.poke h2' (i := 1) rfl hpp (by omega) fun F3 H3 h3 g3 => ?_
   refine hyes F3 H3 ?_ (g1.trans g3)
   rw [if_pos hz]
   refine Arn.shut (p := y.1) (p2 := y.2.2.1) (c := y.2.1) (c2 := y.2.2.2.1) (T := y.2.2.2.2) ?_
   have a1 : (l.set b noBlk).map (fun b => Value.int .i64 b.c) = ((l.set b ⟨B.c, strike B.t k⟩).map fun b => Value.int .i64 b.c).set b (.int .i64 0) := by
    rw [List.map_set, List.map_set, List.set_set]; rfl
   have a2 : (l.set b noBlk).map (fun b => Value.int .u16 b.t) = (l.set b ⟨B.c, strike B.t k⟩).map fun b => Value.int .u16 b.t := by
    rw [List.map_set, List.map_set, hz]; rfl
   rw [a1, a2]
   simpa using h3
  ·refine bif_ne (show ((strike B.t k : Nat) : Int) ≠ 0 by omega) (hyes F1 H1 ?_ g1)
   rw [if_neg hz]
   exact h2

end Go.Proofs.YtflfodcemnapeaaGreat

namespace Go.Proofs.YtflfodcemnapeaaGreat
set_option linter.unusedSimpArgs false
set_option linter.unusedVariables false
set_option linter.unnecessarySimpa false
open Go
theorem First.unique {t k k' : Nat} (h : First t k) (h' : First t k') : k = k' := by
 rcases Nat.lt_trichotomy k k' with e | e | e
 ·have := h'.2 k e; rw [h.1] at this; cases this
 ·exact e
 ·have := h.2 k' e; rw [h'.1] at this; cases this

theorem First.notFull {c t k : Nat} (h : First t k) (hk : k < 16 / c) : t ≠ fullOf c := by
 rintro rfl
 have := h.1
 unfold fullOf at this
 rw [Nat.testBit_two_pow_sub_one] at this
 simp [hk] at this

theorem ArFits.unique {l : List Blk} {c i k i' k' : Nat} (h : ArFits l c i k) (h' : ArFits l c i' k') : i = i' ∧ k = k' := by
 obtain ⟨hi, h⟩ := h
 obtain ⟨hi', h'⟩ := h'
 rcases h with ⟨e, hk, hf, hfull⟩ | ⟨e, rfl, hf, hfull⟩
 ·rcases h' with ⟨e', hk', hf', hfull'⟩ | ⟨e', rfl, hf', hfull'⟩
  ·rcases Nat.lt_trichotomy i i' with hl | rfl | hl
   ·exact absurd (hfull' i hl e) (hf.notFull hk)
   ·exact ⟨rfl, hf.unique hf'⟩
   ·exact absurd (hfull i' hl e') (hf'.notFull hk')
  ·exact absurd (hfull' i hi e) (hf.notFull hk)
 ·rcases h' with ⟨e', hk', hf', hfull'⟩ | ⟨e', rfl, hf', hfull'⟩
  ·exact absurd (hfull i' hi' e') (hf'.notFull hk')
  ·rcases Nat.lt_trichotomy i i' with hl | rfl | hl
   ·exact absurd e (hf' i hl)
   ·exact ⟨rfl, rfl⟩
   ·exact absurd e' (hf i' hl)

theorem ArFits.notNo {l : List Blk} {c i k : Nat} (h : ArFits l c i k) : ¬ ArNoFit l c := fun hn => by
 obtain ⟨hi, h⟩ := h
 obtain ⟨h0, h1⟩ := hn i hi
 rcases h with ⟨e, hk, hf, hfull⟩ | ⟨e, rfl, hf, hfull⟩
 ·exact hf.notFull hk (h1 e)
 ·exact h0 e

theorem AtPlace.unique {l : List Blk} {cell : Int} {b k b' k' : Nat} (hok : allOk l) (h : AtPlace l cell b k) (h' : AtPlace l cell b' k') : b = b' ∧ k = k' := by
 obtain ⟨hc, _, _⟩ := (hok b h.lt).cls h.c0
 obtain ⟨hc', _, _⟩ := (hok b' h'.lt).cls h'.c0
 have p := place_split (b := b) hc h.k1
 have p' := place_split (b := b') hc' h'.k1
 have e := h.at_
 have e' := h'.at_
 obtain rfl : b = b' := by omega
 refine ⟨rfl, ?_⟩
 have : k * (l.getD b noBlk).c = k' * (l.getD b noBlk).c := by omega
 rw [← p.2.2.2, this, p'.2.2.2]

end Go.Proofs.YtflfodcemnapeaaGreat

namespace Go.Proofs.YtflfodcemnapeaaGreat
open Go
set_option linter.unusedVariables false
set_option maxRecDepth 100000
def B_ref7_Arena_Alloc (a1 : Option Addr) (size2 : Int) (H : Hp) (K : Value → Hp → Prop) : Prop :=
 hcall PR f_ref7_Class ⟨[(.int .i64 size2)]⟩ H fun v3 Hx4 =>
 asI .i64 v3 fun t5 =>
 (bif ((t5 : Int) == 0) then
 K (.tuple #[(.int .i64 0), (.int .i64 1)]) Hx4
else
 ∃ (I6 : Int → Hp → Prop) (m7 : Int → Hp → Nat), I6 0 Hx4 ∧ ∀ b9 : Int, ∀ Hx8 : Hp, I6 b9 Hx8 →
 nilP a1 fun aa10 =>
 ldSl aa10 Hx8 fun ClassP11 ClassL12 ClassC13 =>
 (bif (decide ((b9 : Int) < (ClassL12 : Int))) then
 ∀ R14 : Hp → Prop, (∀ Hx15 : Hp, (
 I6 (IntKind.i64.wrap (b9 + 1)) Hx15 ∧ m7 (IntKind.i64.wrap (b9 + 1)) Hx15 < m7 b9 Hx8) → R14 Hx15) →
 ∃ (I16 : Int → Hp → Prop) (m17 : Int → Hp → Nat), I16 0 Hx8 ∧ ∀ i19 : Int, ∀ Hx18 : Hp, I16 i19 Hx18 →
 nilP a1 fun aa20 =>
 ldSl aa20 Hx18 fun ClassP21 ClassL22 ClassC23 =>
 idxA ClassP21 ClassL22 b9 1 fun el24 =>
 ldI .i64 el24 Hx18 fun t25 =>
 (bif ((t25 : Int) == t5) then
 (t5 : Int) ≠ 0 ∧
 (bif (decide ((i19 : Int) < (IntKind.i64.wrap (Int.tdiv 16 t5)))) then
 nilP a1 fun aa26 =>
 ldSl (aa26.add 1) Hx18 fun TakenP27 TakenL28 TakenC29 =>
 idxA TakenP27 TakenL28 b9 16 fun el30 =>
 idxA (some el30) 16 i19 1 fun el31 =>
 ldB el31 Hx18 fun t32 =>
 (bif (!t32) then
 nilP a1 fun aa33 =>
 ldSl (aa33.add 1) Hx18 fun TakenP34 TakenL35 TakenC36 =>
 idxA TakenP34 TakenL35 b9 16 fun el37 =>
 idxA (some el37) 16 i19 1 fun el38 =>
 st el38 (.bool true) Hx18 fun Hx39 =>
 K (.tuple #[(.int .i64 (IntKind.i64.wrap ((IntKind.i64.wrap (16 * b9)) + (IntKind.i64.wrap (t5 * i19))))), (.int .i64 0)]) Hx39
else
 I16 (IntKind.i64.wrap (i19 + 1)) Hx18 ∧ m17 (IntKind.i64.wrap (i19 + 1)) Hx18 < m17 i19 Hx18)
else
 R14 Hx18)
else
 R14 Hx18)
else
 ∃ (I40 : Int → Hp → Prop) (m41 : Int → Hp → Nat), I40 0 Hx8 ∧ ∀ b43 : Int, ∀ Hx42 : Hp, I40 b43 Hx42 →
 nilP a1 fun aa44 =>
 ldSl aa44 Hx42 fun ClassP45 ClassL46 ClassC47 =>
 (bif (decide ((b43 : Int) < (ClassL46 : Int))) then
 nilP a1 fun aa48 =>
 ldSl aa48 Hx42 fun ClassP49 ClassL50 ClassC51 =>
 idxA ClassP49 ClassL50 b43 1 fun el52 =>
 ldI .i64 el52 Hx42 fun t53 =>
 (bif ((t53 : Int) == 0) then
 nilP a1 fun aa54 =>
 ldSl aa54 Hx42 fun ClassP55 ClassL56 ClassC57 =>
 idxA ClassP55 ClassL56 b43 1 fun el58 =>
 st el58 (.int .i64 t5) Hx42 fun Hx59 =>
 nilP a1 fun aa60 =>
 ldSl (aa60.add 1) Hx59 fun TakenP61 TakenL62 TakenC63 =>
 idxA TakenP61 TakenL62 b43 16 fun el64 =>
 idxA (some el64) 16 0 1 fun el65 =>
 st el65 (.bool true) Hx59 fun Hx66 =>
 K (.tuple #[(.int .i64 (IntKind.i64.wrap (16 * b43))), (.int .i64 0)]) Hx66
else
 I40 (IntKind.i64.wrap (b43 + 1)) Hx42 ∧ m41 (IntKind.i64.wrap (b43 + 1)) Hx42 < m41 b43 Hx42)
else
 K (.tuple #[(.int .i64 0), (.int .i64 2)]) Hx42)))
theorem E_ref7_Arena_Alloc (a1 : Option Addr) (size2 : Int) (H : Hp) (K : Value → Hp → Prop) : B_ref7_Arena_Alloc a1 size2 H K = denF Tryz.prog Tryz.f59 (.seq none .n (.seq none .n (.seq none .n (.seq none (.seq none .n (.sub (.loop ⟨[(7, .int .i64)], [0, 6]⟩ (.seq none .n (.seq (some ⟨[], [0, 6, 7]⟩) (.sub (.seq none .n (.sub (.loop ⟨[(8, .int .i64)], [0, 6, 7]⟩ .n)))) .n))))) (.seq none (.seq none .n (.sub (.loop ⟨[(9, .int .i64)], [0, 6]⟩ .n))) .n))))) [(.pointer a1), (.int .i64 size2)] H K := by kernel_rfl
theorem den_ref7_Arena_Alloc {a1 : Option Addr} {size2 : Int} {H : Hp} {K : Value → Hp → Prop} (h : B_ref7_Arena_Alloc a1 size2 H K) : hcall PR f_ref7_Arena_Alloc ⟨[(.pointer a1), (.int .i64 size2)]⟩ H K := denF_call Tryz.func59 PR_mixed (Eq.mp (E_ref7_Arena_Alloc a1 size2 H K) h)

def B_ref7_New (cells1 : Int) (H : Hp) (K : Value → Hp → Prop) : Prop :=
 (16 : Int) ≠ 0 ∧
 (16 : Int) ≠ 0 ∧
 (evW PR (Instr.makeSlice ty_Sint (.int .i64 (IntKind.i64.wrap (Int.tdiv cells1 16))) (.int .i64 (IntKind.i64.wrap (Int.tdiv cells1 16)))) H fun v2 Hx3 =>
 asSl v2 fun mkP4 mkL5 mkC6 =>
 evW PR (Instr.makeSlice ty_S_16_bool (.int .i64 (IntKind.i64.wrap (Int.tdiv cells1 16))) (.int .i64 (IntKind.i64.wrap (Int.tdiv cells1 16)))) Hx3 fun v7 Hx8 =>
 asSl v7 fun mkP9 mkL10 mkC11 =>
 newB (.cells #[(.slice mkP4 mkL5 mkC6), (.slice mkP9 mkL10 mkC11)] ty_ref7_Arena) Hx8 fun b12 Hx13 =>
 K (.pointer (some ⟨b12, 0, none⟩)) Hx13) ∧
 (evW PR (Instr.makeSlice ty_S_16_bool (.int .i64 (IntKind.i64.wrap (Int.tdiv cells1 16))) (.int .i64 (IntKind.i64.wrap (Int.tdiv cells1 16)))) H fun v14 Hx15 =>
 asSl v14 fun mkP16 mkL17 mkC18 =>
 evW PR (Instr.makeSlice ty_Sint (.int .i64 (IntKind.i64.wrap (Int.tdiv cells1 16))) (.int .i64 (IntKind.i64.wrap (Int.tdiv cells1 16)))) Hx15 fun v19 Hx20 =>
 asSl v19 fun mkP21 mkL22 mkC23 =>
 newB (.cells #[(.slice mkP21 mkL22 mkC23), (.slice mkP16 mkL17 mkC18)] ty_ref7_Arena) Hx20 fun b24 Hx25 =>
 K (.pointer (some ⟨b24, 0, none⟩)) Hx25)
theorem E_ref7_New (cells1 : Int) (H : Hp) (K : Value → Hp → Prop) : B_ref7_New cells1 H K = denF Tryz.prog Tryz.f83 .n [(.int .i64 cells1)] H K := by kernel_rfl
theorem den_ref7_New {cells1 : Int} {H : Hp} {K : Value → Hp → Prop} (h : B_ref7_New cells1 H K) : hcall PR f_ref7_New ⟨[(.int .i64 cells1)]⟩ H K := denF_call Tryz.func83 PR_mixed (Eq.mp (E_ref7_New cells1 H K) h)

def B_ref7_Class (size1 : Int) (H : Hp) (K : Value → Hp → Prop) : Prop :=
 ∃ (I2 : Int → Hp → Prop) (m3 : Int → Hp → Nat), I2 1 H ∧ ∀ c5 : Int, ∀ Hx4 : Hp, I2 c5 Hx4 →
 (bif (decide ((c5 : Int) ≤ 16)) then
 ∀ R6 : Hp → Prop, (∀ Hx7 : Hp, (
 I2 (IntKind.i64.wrap (2 * c5)) Hx7 ∧ m3 (IntKind.i64.wrap (2 * c5)) Hx7 < m3 c5 Hx4) → R6 Hx7) →
 (bif (decide ((size1 : Int) ≥ 1)) then
 (bif (decide ((size1 : Int) ≤ c5)) then
 K (.int .i64 c5) Hx4
else
 R6 Hx4)
else
 R6 Hx4)
else
 K (.int .i64 0) Hx4)
theorem E_ref7_Class (size1 : Int) (H : Hp) (K : Value → Hp → Prop) : B_ref7_Class size1 H K = denF Tryz.prog Tryz.f101 (.seq none .n (.seq none (.seq none .n (.sub (.loop ⟨[(3, .int .i64)], [0]⟩ (.seq none .n (.seq (some ⟨[], [0, 3]⟩) .n .n))))) .n)) [(.int .i64 size1)] H K := by kernel_rfl
theorem den_ref7_Class {size1 : Int} {H : Hp} {K : Value → Hp → Prop} (h : B_ref7_Class size1 H K) : hcall PR f_ref7_Class ⟨[(.int .i64 size1)]⟩ H K := denF_call Tryz.func101 PR_mixed (Eq.mp (E_ref7_Class size1 H K) h)

def B_ref7_Arena_Free (a1 : Option Addr) (cell2 : Int) (H : Hp) (K : Value → Hp → Prop) : Prop :=
 hcall PR f_ref7_Arena_At ⟨[(.pointer a1), (.int .i64 cell2)]⟩ H fun v3 Hx4 =>
 asI .i64 v3 fun t5 =>
 (bif ((t5 : Int) == 0) then
 K (.int .i64 9) Hx4
else
 (16 : Int) ≠ 0 ∧
 nilP a1 fun aa6 =>
 ldSl (aa6.add 1) Hx4 fun TakenP7 TakenL8 TakenC9 =>
 (16 : Int) ≠ 0 ∧
 (t5 : Int) ≠ 0 ∧
 idxA TakenP7 TakenL8 (IntKind.i64.wrap (Int.tdiv cell2 16)) 16 fun el10 =>
 idxA (some el10) 16 (IntKind.i64.wrap (Int.tdiv (Int.tmod cell2 16) t5)) 1 fun el11 =>
 st el11 (.bool false) Hx4 fun Hx12 =>
 nilP a1 fun aa13 =>
 ldSl (aa13.add 1) Hx12 fun TakenP14 TakenL15 TakenC16 =>
 idxA TakenP14 TakenL15 (IntKind.i64.wrap (Int.tdiv cell2 16)) 16 fun el17 =>
 ldN el17 Hx12 0 16 fun tvs18 =>
 evR PR (aggEq .eql ty_16_bool ⟨tvs18⟩ #[(.bool false), (.bool false), (.bool false), (.bool false), (.bool false), (.bool false), (.bool false), (.bool false), (.bool false), (.bool false), (.bool false), (.bool false), (.bool false), (.bool false), (.bool false), (.bool false)]) Hx12 fun v19 =>
 asB v19 fun eq20 =>
 (bif eq20 then
 nilP a1 fun aa21 =>
 ldSl aa21 Hx12 fun ClassP22 ClassL23 ClassC24 =>
 idxA ClassP22 ClassL23 (IntKind.i64.wrap (Int.tdiv cell2 16)) 1 fun el25 =>
 st el25 (.int .i64 0) Hx12 fun Hx26 =>
 K (.int .i64 0) Hx26
else
 K (.int .i64 0) Hx12))
theorem E_ref7_Arena_Free (a1 : Option Addr) (cell2 : Int) (H : Hp) (K : Value → Hp → Prop) : B_ref7_Arena_Free a1 cell2 H K = denF Tryz.prog Tryz.f161 .n [(.pointer a1), (.int .i64 cell2)] H K := by kernel_rfl
theorem den_ref7_Arena_Free {a1 : Option Addr} {cell2 : Int} {H : Hp} {K : Value → Hp → Prop} (h : B_ref7_Arena_Free a1 cell2 H K) : hcall PR f_ref7_Arena_Free ⟨[(.pointer a1), (.int .i64 cell2)]⟩ H K := denF_call Tryz.func161 PR_mixed (Eq.mp (E_ref7_Arena_Free a1 cell2 H K) h)

def B_ref7_Arena_At (a1 : Option Addr) (cell2 : Int) (H : Hp) (K : Value → Hp → Prop) : Prop :=
 (bif (decide ((cell2 : Int) < 0)) then
 K (.int .i64 0) H
else
 (16 : Int) ≠ 0 ∧
 nilP a1 fun aa3 =>
 ldSl aa3 H fun ClassP4 ClassL5 ClassC6 =>
 (bif (decide (((IntKind.i64.wrap (Int.tdiv cell2 16)) : Int) ≥ (ClassL5 : Int))) then
 K (.int .i64 0) H
else
 nilP a1 fun aa7 =>
 ldSl aa7 H fun ClassP8 ClassL9 ClassC10 =>
 (16 : Int) ≠ 0 ∧
 idxA ClassP8 ClassL9 (IntKind.i64.wrap (Int.tdiv cell2 16)) 1 fun el11 =>
 ldI .i64 el11 H fun t12 =>
 (bif ((t12 : Int) == 0) then
 K (.int .i64 0) H
else
 (16 : Int) ≠ 0 ∧
 (t12 : Int) ≠ 0 ∧
 (bif (((Int.tmod (Int.tmod cell2 16) t12) : Int) != 0) then
 K (.int .i64 0) H
else
 nilP a1 fun aa13 =>
 ldSl (aa13.add 1) H fun TakenP14 TakenL15 TakenC16 =>
 (16 : Int) ≠ 0 ∧
 (16 : Int) ≠ 0 ∧
 (t12 : Int) ≠ 0 ∧
 idxA TakenP14 TakenL15 (IntKind.i64.wrap (Int.tdiv cell2 16)) 16 fun el17 =>
 idxA (some el17) 16 (IntKind.i64.wrap (Int.tdiv (Int.tmod cell2 16) t12)) 1 fun el18 =>
 ldB el18 H fun t19 =>
 (bif (!t19) then
 K (.int .i64 0) H
else
 K (.int .i64 t12) H)))))
theorem E_ref7_Arena_At (a1 : Option Addr) (cell2 : Int) (H : Hp) (K : Value → Hp → Prop) : B_ref7_Arena_At a1 cell2 H K = denF Tryz.prog Tryz.f176 .n [(.pointer a1), (.int .i64 cell2)] H K := by kernel_rfl
theorem den_ref7_Arena_At {a1 : Option Addr} {cell2 : Int} {H : Hp} {K : Value → Hp → Prop} (h : B_ref7_Arena_At a1 cell2 H K) : hcall PR f_ref7_Arena_At ⟨[(.pointer a1), (.int .i64 cell2)]⟩ H K := denF_call Tryz.func176 PR_mixed (Eq.mp (E_ref7_Arena_At a1 cell2 H K) h)

end Go.Proofs.YtflfodcemnapeaaGreat

namespace Go.Proofs.YtflfodcemnapeaaGreat
set_option linter.unusedSimpArgs false
set_option linter.unusedVariables false
set_option linter.unnecessarySimpa false
open Go
theorem allOk.set {l : List Blk} (h : allOk l) {i : Nat} {b : Blk} (hi : i < l.length) (hb : b.ok) : allOk (l.set i b) := fun j hj => by
 rw [getD_set_blk hi]
 split
 ·exact hb
 ·exact h j (by simpa using hj)
theorem allOk.took {l : List Blk} (h : allOk l) {c i k : Nat} (hc : isCls c) (hf : ArFits l c i k) : allOk (tookAt l c i k) := by
 obtain ⟨hi, hf⟩ := hf
 have hs := hc.small
 have hbit : ((l.getD i noBlk).t ||| 2 ^ k).testBit k = true := by rw [testBit_or_pow]; simp
 have hne : (l.getD i noBlk).t ||| 2 ^ k ≠ 0 := fun e => by rw [e] at hbit; simp at hbit
 refine h.set hi ⟨fun e => ?_, fun _ => ⟨hc, ?_, hne⟩⟩
 ·simp only at e; omega
 ·rcases hf with ⟨e, hk, hf, hfull⟩ | ⟨e, rfl, hf, hfull⟩
  ·have h2 := ((h i hi).cls (by omega)).2.1
   rw [e] at h2
   exact Nat.or_lt_two_pow h2 (Nat.pow_lt_pow_right (by omega) hk)
  ·rw [(h i hi).free e]
   show 0 ||| 2 ^ 0 < 2 ^ (16 / c)
   have : 2 ^ 1 ≤ 2 ^ (16 / c) := Nat.pow_le_pow_right (by omega) hs.2.2.1
   simp
   omega
theorem allOk.free {l : List Blk} (h : allOk l) {cell : Int} {b k : Nat} (hp : AtPlace l cell b k) : allOk (l.set b (freed (l.getD b noBlk) k)) := by
 refine h.set hp.lt ?_
 unfold freed
 split
 ·exact ⟨fun _ => rfl, fun h => absurd rfl h⟩
 ·rename_i hz
  obtain ⟨hc, ht, _⟩ := (h b hp.lt).cls hp.c0
  exact ⟨fun e => absurd e hp.c0, fun _ => ⟨hc, Nat.lt_of_le_of_lt Nat.and_le_left ht, hz⟩⟩
theorem allOk.new {n : Nat} : allOk (List.replicate n noBlk) := fun j hj => by
 rw [List.getD_eq_getElem?_getD, List.getElem?_replicate]
 split
 ·exact ⟨fun _ => rfl, fun h => absurd rfl h⟩
 ·exact ⟨fun _ => rfl, fun h => absurd rfl h⟩
theorem took_length {l : List Blk} {c i k : Nat} : (tookAt l c i k).length = l.length := by simp [tookAt]

theorem rClass_ok {size : Int} {H : Hp} {K : Value → Hp → Prop} (hK : K (.int .i64 (clsOf size)) H) : hcall PR f_ref7_Class ⟨[.int .i64 size]⟩ H K := by
 apply den_ref7_Class
 unfold B_ref7_Class
 refine ⟨fun c H' => H' = H ∧ ((c = 1) ∨ (c = 2 ∧ ¬ (1 ≤ size ∧ size ≤ 1)) ∨ (c = 4 ∧ ¬ (1 ≤ size ∧ size ≤ 2)) ∨ (c = 8 ∧ ¬ (1 ≤ size ∧ size ≤ 4)) ∨ (c = 16 ∧ ¬ (1 ≤ size ∧ size ≤ 8)) ∨ (c = 32 ∧ ¬ (1 ≤ size ∧ size ≤ 16))), fun c _ => (32 - c).toNat, ⟨rfl, .inl rfl⟩, ?_⟩
 rintro c H' ⟨hH, hc⟩
 subst hH
 by_cases hle : c ≤ 16
 ·refine bif_pos hle ?_
  intro R6 hR6
  have hnext : ¬ (1 ≤ size ∧ size ≤ c) → R6 H' := fun hn => by
   refine hR6 H' ?_
   rw [wrap_i64 (by omega) (by omega)]
   refine ⟨⟨rfl, by omega⟩, by dsimp only; omega⟩
  by_cases h1 : size ≥ 1
  ·refine bif_pos h1 ?_
   by_cases h2 : size ≤ c
   ·refine bif_pos h2 ?_
    have e : (clsOf size : Int) = c := by
     unfold clsOf
     rw [if_neg (by omega)]
     rcases hc with rfl | ⟨rfl, h⟩ | ⟨rfl, h⟩ | ⟨rfl, h⟩ | ⟨rfl, h⟩ | ⟨rfl, h⟩
     ·rw [if_pos (by omega)]; rfl
     ·rw [if_neg (by omega), if_pos (by omega)]; rfl
     ·rw [if_neg (by omega), if_neg (by omega), if_pos (by omega)]; rfl
     ·rw [if_neg (by omega), if_neg (by omega), if_neg (by omega), if_pos (by omega)]; rfl
     ·rw [if_neg (by omega), if_neg (by omega), if_neg (by omega), if_neg (by omega)]; rfl
     ·omega
    rw [e] at hK
    exact hK
   ·exact bif_neg h2 (hnext (by omega))
  ·exact bif_neg h1 (hnext (by omega))
 ·refine bif_neg hle ?_
  rw [show clsOf size = 0 by unfold clsOf; rw [if_pos (by omega)]] at hK
  exact hK

theorem clsOf_zero {size : Int} : clsOf size = 0 ↔ size < 1 ∨ 16 < size := by
 unfold clsOf
 constructor
 ·intro h
  refine Classical.byContradiction fun hn => ?_
  rw [if_neg hn] at h
  split at h
  ·cases h
  ·split at h
   ·cases h
   ·split at h
    ·cases h
    ·split at h <;> cases h
 ·intro h; rw [if_pos h]
end Go.Proofs.YtflfodcemnapeaaGreat

namespace Go.Proofs.YtflfodcemnapeaaGreat
set_option linter.unusedSimpArgs false
set_option linter.unusedVariables false
set_option linter.unnecessarySimpa false
open Go
/-- All bits of all blocks, sixteen a block. -/
def flatB (l : List Blk) : List Value := (List.range (l.length * 16)).map fun j => .bool ((l.getD (j / 16) noBlk).t.testBit (j % 16))

theorem flatB_length {l : List Blk} : (flatB l).length = l.length * 16 := by simp [flatB]
theorem flatB_get {l : List Blk} {b i : Nat} (hb : b < l.length) (hi : i < 16) : (flatB l)[b * 16 + i]? = some (.bool ((l.getD b noBlk).t.testBit i)) := by
 unfold flatB
 rw [List.getElem?_map, List.getElem?_range (by omega), Option.map_some, show (b * 16 + i) / 16 = b by omega, show (b * 16 + i) % 16 = i by omega]
theorem flatB_set {l : List Blk} {b i : Nat} {B : Blk} {v : Bool} (hb : b < l.length) (hi : i < 16) (h : ∀ k, k < 16 → B.t.testBit k = if k = i then v else (l.getD b noBlk).t.testBit k) :
  (flatB l).set (b * 16 + i) (.bool v) = flatB (l.set b B) := by
 apply List.ext_getElem?
 intro j
 rw [List.getElem?_set]
 have hlen : (l.set b B).length = l.length := by simp
 by_cases hj : j < l.length * 16
 ·have e : j = j / 16 * 16 + j % 16 := by omega
  have g1 := flatB_get (l := l) (b := j / 16) (i := j % 16) (by omega) (by omega)
  have g2 := flatB_get (l := l.set b B) (b := j / 16) (i := j % 16) (by omega) (by omega)
  rw [← e] at g1 g2
  rw [g1, g2, getD_set_blk hb, flatB_length]
  by_cases hbb : j / 16 = b
  ·rw [if_pos hbb, h _ (by omega)]
   by_cases hii : j % 16 = i
   ·rw [if_pos (by omega), if_pos hii]
    simp
    omega
   ·rw [if_neg (by omega), if_neg hii, hbb]
  ·rw [if_neg (by omega), if_neg hbb]
 ·have n1 : (flatB l)[j]? = none := List.getElem?_eq_none (by rw [flatB_length]; omega)
  have n2 : (flatB (l.set b B))[j]? = none := List.getElem?_eq_none (by rw [flatB_length, hlen]; omega)
  rw [n1, n2, if_neg (by omega)]

def RArn (a : Nat) (l : List Blk) : Prt := Prt.ex fun (x : Option Addr × Nat × Option Addr × Nat × Nat) =>
 Prt.list [Prt.one a (.cells #[.slice x.1 l.length x.2.1, .slice x.2.2.1 l.length x.2.2.2.1] x.2.2.2.2 (0, 0)), Prt.row 1 x.1 l.length x.2.1 (l.map fun b => Value.int .i64 b.c), Prt.row 16 x.2.2.1 l.length x.2.2.2.1 (flatB l)]

theorem RArn.shut {a : Nat} {l : List Blk} {p p2 : Option Addr} {c c2 T : Nat} {F : Nat → Prop} {H : Hp}
  (h : (Prt.list [Prt.one a (.cells #[.slice p l.length c, .slice p2 l.length c2] T (0, 0)), Prt.row 1 p l.length c (l.map fun b => Value.int .i64 b.c), Prt.row 16 p2 l.length c2 (flatB l)]).holds F H) : (RArn a l).holds F H := ⟨⟨p, c, p2, c2, T⟩, h⟩

/-- A bit of a block. -/
theorem idx16 {H : Hp} {p : Option Addr} {l : List Blk} {b i : Int} {K : Addr → Prop} (h : Rd H 16 p l.length (flatB l)) (hb0 : 0 ≤ b) (hb : b < l.length) (hi0 : 0 ≤ i) (hi : i < 16)
  (hK : ∀ blk o, p = some ⟨blk, o, none⟩ → hcell H ⟨blk, o + (b.toNat * 16 + i.toNat), none⟩ = some (.bool ((l.getD b.toNat noBlk).t.testBit i.toNat)) → K ⟨blk, o + (b.toNat * 16 + i.toNat), none⟩) :
  idxA p l.length b 16 fun el => idxA (some el) 16 i 1 K := by
 refine idxA_of h hb0 hb fun blk o hp _ => ?_
 unfold idxA
 refine ⟨⟨hi0, hi⟩, ?_⟩
 rw [Zu, Nat.mul_one, Nat.add_assoc]
 refine hK blk o hp ?_
 rw [h.cell hp (i := b.toNat * 16 + i.toNat) (by omega), flatB_get (by omega) (by omega)]

theorem flatB_new {n : Nat} : flatB (List.replicate n noBlk) = List.replicate (n * 16) (.bool false) := by
 apply List.ext_getElem?
 intro j
 by_cases hj : j < n * 16
 ·have e : j = j / 16 * 16 + j % 16 := by omega
  have g := flatB_get (l := List.replicate n noBlk) (b := j / 16) (i := j % 16) (by simp; omega) (by omega)
  rw [← e] at g
  rw [g, List.getElem?_replicate, if_pos hj, List.getD_eq_getElem?_getD, List.getElem?_replicate, if_pos (by omega)]
  simp [noBlk]
 ·rw [List.getElem?_eq_none (by rw [flatB_length]; simp; omega), List.getElem?_replicate, if_neg hj]

theorem make16 {n : Nat} {H : Hp} {K : Value → Hp → Prop} (h : n ≤ 256) (hK : ∀ p H', Own H' 16 p n n (List.replicate (n * 16) (.bool false)) → Goes Nothing H (blk p) H' → K (.slice p n n) H') :
  evW PR (Instr.makeSlice ty_S_16_bool (.int .i64 (n : Int)) (.int .i64 (n : Int))) H K := by
 have e47 : (2 : Int) ^ 47 = 140737488355328 := by decide
 have e62 : (2 : Int) ^ 62 = 4611686018427387904 := by decide
 refine mk_ty_S_16_bool (by omega) (by omega) (by omega) fun b cs hb hs hc => ?_
 have g := (Goes.alloc (o := .cells cs ty_16_bool (0, 0)) hb).less (F2 := blk (some ⟨b, 0, none⟩)) fun c h => (blk_some.1 h).symm
 refine hK _ _ ?_ g
 rw [Int.toNat_natCast] at hs hc
 have ho := Own.new (H := H) (b := b) (k := 16) (n := n) (c := cs) (e := ty_16_bool) hs
 have e1 : cs.toList = List.replicate (n * 16) (.bool false) := by
  apply List.ext_getElem?
  intro i
  rw [Array.getElem?_toList]
  by_cases hi : i < n * 16
  ·rw [hc i hi, List.getElem?_replicate, if_pos hi]
   have : i % 16 < 16 := Nat.mod_lt _ (by omega)
   generalize i % 16 = m at this
   rcases m with _ | _ | _ | _ | _ | _ | _ | _ | _ | _ | _ | _ | _ | _ | _ | _ | m <;> first | rfl | omega
  ·rw [Array.getElem?_eq_none (by omega), List.getElem?_replicate, if_neg hi]
 rw [e1] at ho
 exact ho

theorem rArenaNew_ok {n : Nat} {H : Hp} {K : Value → Hp → Prop} (h1 : 1 ≤ n) (h2 : n ≤ 256)
  (hK : ∀ a F H', (RArn a (List.replicate n noBlk)).holds F H' → Goes Nothing H F H' → K (.pointer (some ⟨a, 0, none⟩)) H') : hcall PR f_ref7_New ⟨[.int .i64 (16 * (n : Int))]⟩ H K := by
 apply den_ref7_New
 unfold B_ref7_New
 have e2 : Int.tdiv (16 * (n : Int)) 16 = n := by rw [Int.tdiv_eq_ediv_of_nonneg (by omega)]; omega
 refine ⟨by decide, by decide, ?_⟩
 have hw : IntKind.i64.wrap (n : Int) = n := wrap_i64 (by omega) (by omega)
 have e47 : (2 : Int) ^ 47 = 140737488355328 := by decide
 have e62 : (2 : Int) ^ 62 = 4611686018427387904 := by decide
 rw [e2, hw]
 constructor
 ·refine mko_ty_Sint (by omega) (by omega) (by omega) fun p1 H1 o1 g1 => ?_
  rw [Zf]
  refine make16 h2 fun p2 H2 o2 g2 => ?_
  rw [Zf]
  intro b hb
  obtain ⟨F1, l1, k1⟩ := Prt.more (Prt.list_nil H) (Prt.row_holds o1) g1
  obtain ⟨F2, l2, k2⟩ := Prt.more l1 (Prt.row_holds o2) g2
  obtain ⟨F3, l3, k3⟩ := Prt.alloc (o := .cells #[.slice p1 n n, .slice p2 n n] ty_ref7_Arena (0, 0)) (Prt.flip l2) hb
  refine hK b F3 _ ⟨⟨p1, n, p2, n, ty_ref7_Arena⟩, ?_⟩ ((k1.trans k2).trans k3)
  have e3 := flatB_new (n := n)
  simp only [noBlk] at e3
  simpa [noBlk, e3] using l3
 ·refine make16 h2 fun p2 H1 o1 g1 => ?_
  rw [Zf]
  refine mko_ty_Sint (by omega) (by omega) (by omega) fun p1 H2 o2 g2 => ?_
  rw [Zf]
  intro b hb
  obtain ⟨F1, l1, k1⟩ := Prt.more (Prt.list_nil H) (Prt.row_holds o1) g1
  obtain ⟨F2, l2, k2⟩ := Prt.more l1 (Prt.row_holds o2) g2
  obtain ⟨F3, l3, k3⟩ := Prt.alloc (o := .cells #[.slice p1 n n, .slice p2 n n] ty_ref7_Arena (0, 0)) l2 hb
  refine hK b F3 _ ⟨⟨p1, n, p2, n, ty_ref7_Arena⟩, ?_⟩ ((k1.trans k2).trans k3)
  have e3 := flatB_new (n := n)
  simp only [noBlk] at e3
  simpa [noBlk, e3] using l3

end Go.Proofs.YtflfodcemnapeaaGreat

namespace Go.Proofs.YtflfodcemnapeaaGreat
set_option linter.unusedSimpArgs false
set_option linter.unusedVariables false
set_option linter.unnecessarySimpa false
open Go
set_option maxRecDepth 20000 in
theorem rAlloc_ok {a : Nat} {l : List Blk} {size : Int} {F : Nat → Prop} {H : Hp} {K : Value → Hp → Prop} (h : (RArn a l).holds F H) (hok : allOk l) (hl : l.length ≤ 256)
  (harg : clsOf size = 0 → K (.tuple #[.int .i64 0, .int .i64 1]) H)
  (hfit : clsOf size ≠ 0 → ∀ i k, ArFits l (clsOf size) i k → ∀ F' H', (RArn a (tookAt l (clsOf size) i k)).holds F' H' → Goes F H F' H' → K (.tuple #[.int .i64 ((16 * i + k * clsOf size : Nat) : Int), .int .i64 0]) H')
  (hnone : clsOf size ≠ 0 → ArNoFit l (clsOf size) → K (.tuple #[.int .i64 0, .int .i64 2]) H) : hcall PR f_ref7_Arena_Alloc ⟨[.pointer (some ⟨a, 0, none⟩), .int .i64 size]⟩ H K := by
 apply den_ref7_Arena_Alloc
 unfold B_ref7_Arena_Alloc
 refine rClass_ok ?_
 simp only [Za, Zt, Zu, Nat.zero_add]
 by_cases hc0 : clsOf size = 0
 ·exact bif_eq (by omega) (harg hc0)
 have hcls := clsOf_cls hc0
 have hfit := hfit hc0
 have hnone := hnone hc0
 refine bif_ne (by omega) ?_
 generalize clsOf size = c at *
 clear harg hc0
 have hcs := hcls.small
 obtain ⟨x, h'⟩ := id h
 have e0 := Prt.one_cell h' (i := 0) (o := 0) rfl rfl
 have e1 := Prt.one_cell h' (i := 0) (o := 1) rfl rfl
 have r1 := Prt.row_rd h' (i := 1) rfl
 have r2 := Prt.row_rd h' (i := 2) rfl
 have e16 : Int.tdiv 16 (c : Int) = ((16 / c : Nat) : Int) := by rw [Int.tdiv_eq_ediv_of_nonneg (by omega)]; norm_cast
 have w16 : IntKind.i64.wrap ((16 / c : Nat) : Int) = ((16 / c : Nat) : Int) := wrap_i64 (by omega) (by omega)
 simp only [e16, w16]
 refine ⟨fun b H' => H' = H ∧ ∃ j : Nat, b = j ∧ j ≤ l.length ∧ (∀ i, i < j → (l.getD i noBlk).c = c → (l.getD i noBlk).t = fullOf c), fun b _ => (l.length - b).toNat, ⟨rfl, 0, rfl, by omega, fun i hi => absurd hi (Nat.not_lt_zero _)⟩, ?_⟩
 rintro b H' ⟨hH, j, rfl, hj, hfull⟩
 subst hH
 refine ldSl_of e0 ?_
 by_cases hlt : (j : Int) < l.length
 ·refine bif_pos hlt ?_
  intro R14 hR14
  have hbok := hok j (by omega)
  have hbs := hbok.small
  have hnext : ((l.getD j noBlk).c = c → (l.getD j noBlk).t = fullOf c) → R14 H' := fun hf => by
   refine hR14 H' ?_
   rw [wrap_i64 (by omega) (by omega)]
   refine ⟨⟨rfl, j + 1, by omega, by omega, fun i hi hic => ?_⟩, by dsimp only; omega⟩
   by_cases hij : i = j
   ·subst hij; exact hf hic
   ·exact hfull i (by omega) hic
  refine ⟨fun i H'' => H'' = H' ∧ ∃ k : Nat, i = k ∧ k ≤ 16 / c ∧ ((l.getD j noBlk).c = c → ∀ y, y < k → (l.getD j noBlk).t.testBit y = true), fun i _ => (16 - i).toNat, ⟨rfl, 0, rfl, by omega, fun _ y hy => absurd hy (Nat.not_lt_zero y)⟩, ?_⟩
  rintro i H'' ⟨hH, k, rfl, hk, hbits⟩
  subst hH
  refine ldSl_of e0 (idx1 (d := noBlk) r1 (by omega) hlt fun b' o hpp hcc => ldI_of hcc ?_)
  rw [Int.toNat_natCast]
  by_cases hcc : (l.getD j noBlk).c = c
  rotate_left
  ·exact bif_ne (by omega) (hnext fun h => absurd h hcc)
  refine bif_eq (by omega) ⟨by omega, ?_⟩
  have hbits := hbits hcc
  have ht := (hbok.cls (by omega)).2.1
  rw [hcc] at ht
  by_cases hk16 : (k : Int) < ((16 / c : Nat) : Int)
  rotate_left
  ·refine bif_neg hk16 (hnext fun _ => ?_)
   refine Classical.byContradiction fun hne => ?_
   obtain ⟨y, hy, hf⟩ := First.of ht hne
   have := hbits y (by omega)
   rw [hf.1] at this
   cases this
  refine bif_pos hk16 (ldSl_of e1 (idx16 r2 (by omega) hlt (by omega) (by omega) fun b' o hpp hct => ldB_of hct ?_))
  simp only [Int.toNat_natCast]
  cases hbit : (l.getD j noBlk).t.testBit k
  ·simp only [Bool.not_false, cond_true]
   refine ldSl_of e1 (idx16 r2 (by omega) hlt (by omega) (by omega) fun b' o hpp hct => ?_)
   simp only [Int.toNat_natCast]
   refine Prt.poke h' (i := 2) rfl hpp (by omega) fun F1 H1 h1 g1 => ?_
   have w1 : IntKind.i64.wrap (16 * (j : Int)) = 16 * (j : Int) := wrap_i64 (by omega) (by omega)
   have hmul : c * k ≤ 16 * 16 := Nat.mul_le_mul (by omega) (by omega)
   have w2 : IntKind.i64.wrap ((c : Int) * (k : Int)) = ((k * c : Nat) : Int) := by
    rw [← Int.natCast_mul, wrap_i64 (by omega) (by omega), Nat.mul_comm]
   have hkc : k * c ≤ 256 := by rw [Nat.mul_comm]; omega
   rw [w1, w2, wrap_i64 (by omega) (by omega), show 16 * (j : Int) + ((k * c : Nat) : Int) = ((16 * j + k * c : Nat) : Int) by omega]
   refine hfit j k ⟨by omega, .inl ⟨hcc, by omega, ⟨hbit, hbits⟩, hfull⟩⟩ F1 H1 (RArn.shut (p := x.1) (p2 := x.2.2.1) (c := x.2.1) (c2 := x.2.2.2.1) (T := x.2.2.2.2) ?_) g1
   unfold tookAt
   rw [set_same (f := fun b => Value.int .i64 b.c) (by omega) (by rw [hcc]), ← flatB_set (v := true) (i := k) (by omega) (by omega) fun y hy => by
    rw [testBit_or_pow]
    by_cases e : y = k
    ·simp [e]
    ·simp [e]]
   simpa using h1
  ·simp only [Bool.not_true, cond_false]
   rw [wrap_i64 (by omega) (by omega)]
   refine ⟨⟨trivial, k + 1, by omega, by omega, fun _ y hy => ?_⟩, by omega⟩
   by_cases e : y = k
   ·rw [e]; exact hbit
   ·exact hbits y (by omega)
 ·refine bif_neg hlt ?_
  obtain rfl : j = l.length := by omega
  refine ⟨fun b H'' => H'' = H' ∧ ∃ j : Nat, b = j ∧ j ≤ l.length ∧ (∀ i, i < j → (l.getD i noBlk).c ≠ 0), fun b _ => (l.length - b).toNat, ⟨rfl, 0, rfl, by omega, fun i hi => absurd hi (Nat.not_lt_zero _)⟩, ?_⟩
  rintro b H'' ⟨hH, j, rfl, hj', hno⟩
  subst hH
  refine ldSl_of e0 ?_
  by_cases hlt' : (j : Int) < l.length
  ·refine bif_pos hlt' (ldSl_of e0 (idx1 (d := noBlk) r1 (by omega) hlt' fun b' o hpp hcc => ldI_of hcc ?_))
   rw [Int.toNat_natCast]
   by_cases hz : (l.getD j noBlk).c = 0
   ·refine bif_eq (by omega) (ldSl_of e0 (idx1 (d := noBlk) r1 (by omega) hlt' fun b' o hpp hcc => ?_))
    rw [Int.toNat_natCast]
    refine Prt.poke h' (i := 1) rfl hpp (by omega) fun F1 H1 h1 g1 => ?_
    refine ldSl_of (Prt.one_cell h1 (i := 0) (o := 1) rfl rfl) (idx16 (Prt.row_rd h1 (i := 2) rfl) (by omega) hlt' (by omega) (by omega) fun b' o hpp hct => ?_)
    rw [Int.toNat_natCast]
    refine Prt.poke h1 (i := 2) rfl hpp (by omega) fun F2 H2 h2 g2 => ?_
    have ht0 : (l.getD j noBlk).t = 0 := (hok j (by omega)).free hz
    rw [wrap_i64 (by omega) (by omega), show 16 * (j : Int) = ((16 * j + 0 * c : Nat) : Int) by omega]
    refine hfit j 0 ⟨by omega, .inr ⟨hz, rfl, hno, fun i hi => hfull i hi⟩⟩ F2 H2 (RArn.shut (p := x.1) (p2 := x.2.2.1) (c := x.2.1) (c2 := x.2.2.2.1) (T := x.2.2.2.2) ?_) (g1.trans g2)
    unfold tookAt
    rw [← flatB_set (v := true) (i := 0) (by omega) (by omega) fun y hy => by
     rw [testBit_or_pow]
     by_cases e : y = 0
     ·simp [e]
     ·simp [e], ← blk_set (b := ⟨c, (l.getD j noBlk).t ||| 2 ^ 0⟩)]
    simpa using h2
   ·refine bif_ne (by omega) ?_
    rw [wrap_i64 (by omega) (by omega)]
    refine ⟨⟨rfl, j + 1, by omega, by omega, fun i hi => ?_⟩, by dsimp only; omega⟩
    by_cases e : i = j
    ·rw [e]; exact hz
    ·exact hno i (by omega)
  ·refine bif_neg hlt' (hnone fun i hi => ⟨hno i (by omega), hfull i hi⟩)

end Go.Proofs.YtflfodcemnapeaaGreat

namespace Go.Proofs.YtflfodcemnapeaaGreat
set_option linter.unusedSimpArgs false
set_option linter.unusedVariables false
set_option linter.unnecessarySimpa false
open Go
theorem ldN_of {H : Hp} {b o : Nat} : ∀ {n i : Nat} {vs : List Value} {K : List Value → Prop}, vs.length = n → (∀ j, j < n → hcell H ⟨b, o + (i + j), none⟩ = vs[j]?) → K vs → ldN ⟨b, o, none⟩ H i n K
 | 0, i, vs, K, hl, _, hK => by
  obtain rfl : vs = [] := List.length_eq_zero_iff.1 hl
  exact hK
 | n + 1, i, [], K, hl, _, hK => by simp at hl
 | n + 1, i, v :: vs, K, hl, h, hK => by
  have h0 := h 0 (by omega)
  simp at h0
  unfold ldN
  rw [Zu]
  refine ld_of h0 ?_
  refine ldN_of (i := i + 1) (by simpa using hl) (fun j hj => ?_) hK
  have := h (j + 1) (by omega)
  rw [show i + 1 + j = i + (j + 1) by omega, this]
  simp

theorem rAt_ok {a : Nat} {l : List Blk} {cell : Int} {F : Nat → Prop} {H : Hp} {K : Value → Hp → Prop} (h : (RArn a l).holds F H) (hok : allOk l) (hl : l.length ≤ 256) (hcell : cell ≤ 9223372036854775807)
  (hno : (∀ b k, ¬ AtPlace l cell b k) → K (.int .i64 0) H) (hyes : ∀ b k, AtPlace l cell b k → K (.int .i64 (l.getD b noBlk).c) H) : hcall PR f_ref7_Arena_At ⟨[.pointer (some ⟨a, 0, none⟩), .int .i64 cell]⟩ H K := by
 apply den_ref7_Arena_At
 unfold B_ref7_Arena_At
 simp only [Zt, Zu, Nat.zero_add]
 obtain ⟨x, h'⟩ := id h
 have e0 := Prt.one_cell h' (i := 0) (o := 0) rfl rfl
 have e1 := Prt.one_cell h' (i := 0) (o := 1) rfl rfl
 have r1 := Prt.row_rd h' (i := 1) rfl
 have r2 := Prt.row_rd h' (i := 2) rfl
 by_cases h0 : cell < 0
 ·refine bif_pos h0 (hno fun b k hp => ?_)
  have := hp.at_
  omega
 refine bif_neg h0 ⟨by decide, ldSl_of e0 ?_⟩
 obtain ⟨n, rfl⟩ : ∃ n : Nat, cell = n := ⟨cell.toNat, by omega⟩
 have e2 : Int.tdiv (n : Int) 16 = ((n / 16 : Nat) : Int) := by rw [Int.tdiv_eq_ediv_of_nonneg (by omega)]; omega
 have e3 : Int.tmod (n : Int) 16 = ((n % 16 : Nat) : Int) := by rw [Int.tmod_eq_emod_of_nonneg (by omega)]; omega
 have w2 : IntKind.i64.wrap ((n / 16 : Nat) : Int) = ((n / 16 : Nat) : Int) := wrap_i64 (by omega) (by omega)
 simp only [e2, e3, w2]
 by_cases h1 : ((n / 16 : Nat) : Int) ≥ (l.length : Int)
 ·refine bif_pos h1 (hno fun b k hp => ?_)
  have h2 := hp.at_
  have h3 := hp.lt
  obtain ⟨hc, _, _⟩ := (hok b h3).cls hp.c0
  have := place_split (b := b) hc hp.k1
  omega
 refine bif_neg h1 (ldSl_of e0 ⟨by decide, ?_⟩)
 have hb : n / 16 < l.length := by omega
 have hn : n = 16 * (n / 16) + n % 16 := by omega
 have hin : n % 16 < 16 := by omega
 generalize n / 16 = b at hb hn
 generalize n % 16 = i at hn hin
 refine idx1 (d := noBlk) r1 (by omega) (by omega) fun b' o hpp hcc => ldI_of hcc ?_
 simp only [Int.toNat_natCast] at hcc ⊢
 have hbok := hok b hb
 by_cases hc0 : (l.getD b noBlk).c = 0
 ·refine bif_eq (by omega) (hno fun b' k hp => ?_)
  have h2 := hp.at_
  obtain ⟨hc, _, _⟩ := (hok b' hp.lt).cls hp.c0
  have h5 := place_split (b := b') hc hp.k1
  obtain rfl : b' = b := by omega
  exact hp.c0 hc0
 obtain ⟨hcls, ht, _⟩ := hbok.cls hc0
 have hs := hcls.small
 have hts := hbok.small
 refine bif_ne (by omega) ⟨by decide, by omega, ?_⟩
 have e4 : Int.tmod (i : Int) ((l.getD b noBlk).c : Int) = ((i % (l.getD b noBlk).c : Nat) : Int) := by rw [Int.tmod_eq_emod_of_nonneg (by omega)]; norm_cast
 have e5 : Int.tdiv (i : Int) ((l.getD b noBlk).c : Int) = ((i / (l.getD b noBlk).c : Nat) : Int) := by rw [Int.tdiv_eq_ediv_of_nonneg (by omega)]; norm_cast
 rw [e4]
 by_cases hm : i % (l.getD b noBlk).c = 0
 rotate_left
 ·refine bif_neq (by omega) (hno fun b' k hp => ?_)
  have h2 := hp.at_
  obtain ⟨hc, _, _⟩ := (hok b' hp.lt).cls hp.c0
  have h5 := place_split (b := b') hc hp.k1
  obtain rfl : b' = b := by omega
  obtain rfl : i = k * (l.getD b' noBlk).c := by omega
  exact hm h5.2.2.1
 have hdiv : i / (l.getD b noBlk).c < 16 / (l.getD b noBlk).c := by
  rw [Nat.div_lt_iff_lt_mul (by omega)]
  omega
 have hik : i = i / (l.getD b noBlk).c * (l.getD b noBlk).c := by
  have := Nat.div_add_mod' i (l.getD b noBlk).c
  omega
 generalize hqd : i / (l.getD b noBlk).c = q at *
 have w5 : IntKind.i64.wrap (q : Int) = q := wrap_i64 (by omega) (by omega)
 rw [e5, w5]
 refine bif_neqf (by omega) (ldSl_of e1 ⟨by decide, by decide, by omega, idx16 r2 (by omega) (by omega) (by omega) (by omega) fun b' o hpp hct => ldB_of hct ?_⟩)
 simp only [Int.toNat_natCast]
 cases hbit : (l.getD b noBlk).t.testBit q
 ·simp only [Bool.not_false, cond_true]
  refine hno fun b' k hp => ?_
  have h2 := hp.at_
  obtain ⟨hc, _, _⟩ := (hok b' hp.lt).cls hp.c0
  have h5 := place_split (b := b') hc hp.k1
  obtain rfl : b' = b := by omega
  have hi' : i = k * (l.getD b' noBlk).c := by omega
  rw [hi', h5.2.2.2] at hqd
  rw [← hqd, hp.bit] at hbit
  cases hbit
 ·simp only [Bool.not_true, cond_false]
  refine hyes b q ⟨hb, hc0, hdiv, ?_, hbit⟩
  rw [← hik]
  omega

theorem falses16 {xs ys : List Bool} (hx : xs.length = 16) : PR.keyLits 2 ty_16_bool (xs.map Value.bool) = some (xs.map Lit.bool) := by
 rcases xs with _ | ⟨a0, _ | ⟨a1, _ | ⟨a2, _ | ⟨a3, _ | ⟨a4, _ | ⟨a5, _ | ⟨a6, _ | ⟨a7, _ | ⟨a8, _ | ⟨a9, _ | ⟨a10, _ | ⟨a11, _ | ⟨a12, _ | ⟨a13, _ | ⟨a14, _ | ⟨a15, _ | ⟨a16, xs⟩⟩⟩⟩⟩⟩⟩⟩⟩⟩⟩⟩⟩⟩⟩⟩⟩ <;> simp at hx
 have hu : PR.underlying ty_16_bool = some (.array 16 4) := by kernel_rfl
 have hu4 : PR.underlying 4 = some .bool := by kernel_rfl
 have hc : PR.cellsOf ty_16_bool = 16 := by kernel_rfl
 have hc4 : PR.cellsOf 4 = 1 := by kernel_rfl
 simp [Program.keyLits, hu, hu4, hc, hc4, List.range_succ]

end Go.Proofs.YtflfodcemnapeaaGreat

namespace Go.Proofs.YtflfodcemnapeaaGreat
set_option linter.unusedSimpArgs false
set_option linter.unusedVariables false
set_option linter.unnecessarySimpa false
open Go
set_option maxRecDepth 20000 in
theorem aggEq16 {xs : List Bool} {H : Hp} {K : Value → Prop} (hx : xs.length = 16) (hK : K (.bool (xs.all (!·)))) :
  evR PR (aggEq .eql ty_16_bool ⟨xs.map Value.bool⟩ #[.bool false, .bool false, .bool false, .bool false, .bool false, .bool false, .bool false, .bool false, .bool false, .bool false, .bool false, .bool false, .bool false, .bool false, .bool false, .bool false]) H K := by
 have hu : PR.underlying ty_16_bool = some (.array 16 4) := by kernel_rfl
 have hc : PR.cellsOf ty_16_bool = 16 := by kernel_rfl
 have h2 := falses16 (xs := List.replicate 16 false) (ys := []) (by simp)
 refine aggEq_ok (m := 2) (by kernel_rfl) (by omega) (by kernel_rfl) ?_ ?_ (falses16 (ys := []) hx) h2 fun r hr => ?_
 ·simp [Value.formed, hu, hc, hx]
 ·simp [Value.formed, hu, hc]
 ·have : r = xs.all (!·) := by
   rw [Bool.eq_iff_iff, hr]
   constructor
   ·intro h
    have hinj : xs = List.replicate 16 false := by
     apply List.map_inj_right (f := Lit.bool) (fun a b h => by cases h; rfl) |>.1 h
    rw [hinj]; rfl
   ·intro h
    rw [List.all_eq_true] at h
    congr 1
    rw [List.eq_replicate_iff]
    exact ⟨hx, fun b hb => by simpa using h b hb⟩
  rw [this]
  exact hK

def bits16 (t : Nat) : List Bool := (List.range 16).map t.testBit
theorem bits16_zero {t : Nat} (h : t < 65536) : (bits16 t).all (!·) = decide (t = 0) := by
 rw [Bool.eq_iff_iff, decide_eq_true_eq, List.all_eq_true]
 constructor
 ·intro hall
  apply Nat.eq_of_testBit_eq
  intro j
  rw [Nat.zero_testBit]
  by_cases hj : j < 16
  ·have := hall (t.testBit j) (List.mem_map.2 ⟨j, List.mem_range.2 hj, rfl⟩)
   simpa using this
  ·exact Nat.testBit_lt_two_pow (Nat.lt_of_lt_of_le h (by rw [show 65536 = 2 ^ 16 by rfl]; exact Nat.pow_le_pow_right (by omega) (by omega)))
 ·rintro rfl b hb
  obtain ⟨j, _, rfl⟩ := List.mem_map.1 hb
  simp

theorem rFree_ok {a : Nat} {l : List Blk} {cell : Int} {F : Nat → Prop} {H : Hp} {K : Value → Hp → Prop} (h : (RArn a l).holds F H) (hok : allOk l) (hl : l.length ≤ 256) (hcell : cell ≤ 9223372036854775807)
  (hno : (∀ b k, ¬ AtPlace l cell b k) → K (.int .i64 9) H)
  (hyes : ∀ b k, AtPlace l cell b k → ∀ F' H', (RArn a (l.set b (freed (l.getD b noBlk) k))).holds F' H' → Goes F H F' H' → K (.int .i64 0) H') : hcall PR f_ref7_Arena_Free ⟨[.pointer (some ⟨a, 0, none⟩), .int .i64 cell]⟩ H K := by
 apply den_ref7_Arena_Free
 unfold B_ref7_Arena_Free
 refine rAt_ok h hok hl hcell (fun hp => ?_) fun b k hp => ?_
 ·simp only [Za]
  exact bif_eq rfl (hno hp)
 ·have hc0 := hp.c0
  simp only [Za, Zt, Zu, Nat.zero_add]
  obtain ⟨x, h'⟩ := id h
  have hlt := hp.lt
  have hbok := hok b hlt
  have hs := hbok.small
  obtain ⟨hcls, _, _⟩ := hbok.cls hc0
  have hcs := hcls.small
  have hk16 : k < 16 := by have := hp.k1; omega
  have hyes := hyes b k hp
  have hat := hp.at_
  have pl := place_split (b := b) hcls hp.k1
  have e1 := Prt.one_cell h' (i := 0) (o := 1) rfl rfl
  have r2 := Prt.row_rd h' (i := 2) rfl
  unfold freed at hyes
  generalize hbb : l.getD b noBlk = B at *
  have t1 : Int.tdiv cell 16 = (b : Int) := by rw [hat, Int.tdiv_eq_ediv_of_nonneg (by omega)]; omega
  have t2 : Int.tmod cell 16 = ((k * B.c : Nat) : Int) := by rw [hat, Int.tmod_eq_emod_of_nonneg (by omega)]; omega
  have t3 : Int.tdiv ((k * B.c : Nat) : Int) (B.c : Int) = (k : Int) := by rw [Int.tdiv_eq_ediv_of_nonneg (by omega), ← Int.natCast_ediv, pl.2.2.2]
  have w1 : IntKind.i64.wrap (b : Int) = b := wrap_i64 (by omega) (by omega)
  have w2 : IntKind.i64.wrap (k : Int) = k := wrap_i64 (by omega) (by omega)
  simp only [t1, t2, t3, w1, w2]
  refine bif_ne (by omega) ⟨by decide, ldSl_of e1 ⟨by decide, by omega, idx16 r2 (by omega) (by omega) (by omega) (by omega) fun b' o hpp hct => ?_⟩⟩
  simp only [Int.toNat_natCast]
  refine Prt.poke h' (i := 2) rfl hpp (by omega) fun F1 H1 h1 g1 => ?_
  have h2 : (RArn a (l.set b ⟨B.c, strike B.t k⟩)).holds F1 H1 := by
   refine RArn.shut (p := x.1) (p2 := x.2.2.1) (c := x.2.1) (c2 := x.2.2.2.1) (T := x.2.2.2.2) ?_
   rw [set_same (f := fun b => Value.int .i64 b.c) hlt (by rw [hbb]), ← flatB_set (v := false) (i := k) hlt hk16 fun y hy => by
    rw [hbb, testBit_strike hs.1 hk16]
    by_cases e : y = k
    ·simp [e]
    ·simp [e]]
   simpa using h1
  obtain ⟨y, h2'⟩ := id h2
  have hlen : (l.set b ⟨B.c, strike B.t k⟩).length = l.length := by simp
  have eg : (l.set b ⟨B.c, strike B.t k⟩).getD b noBlk = ⟨B.c, strike B.t k⟩ := by rw [getD_set_blk hlt, if_pos rfl]
  have r3 := Prt.row_rd h2' (i := 2) rfl
  refine ldSl_of (Prt.one_cell h2' (i := 0) (o := 1) rfl rfl) (idxA_of r3 (by omega) (by omega) fun b' o hpp hcc => ?_)
  simp only [Int.toNat_natCast] at hcc ⊢
  refine ldN_of (vs := (bits16 (strike B.t k)).map Value.bool) (by simp [bits16]) (fun j hj => ?_) ?_
  ·rw [Nat.zero_add, hcc j hj, flatB_get (by omega) hj, eg]
   simp [bits16, hj]
  ·refine aggEq16 (by simp [bits16]) ?_
   simp only [Zb]
   rw [bits16_zero (t := strike B.t k) (Nat.lt_of_le_of_lt (show strike B.t k ≤ B.t from Nat.and_le_left) hs.1)]
   by_cases hz : strike B.t k = 0
   ·refine bif_pos hz (ldSl_of (Prt.one_cell h2' (i := 0) (o := 0) rfl rfl) (idx1 (d := noBlk) (Prt.row_rd h2' (i := 1) rfl) (by omega) (by omega) fun b' o hpp hcc => ?_))
    rw [Int.toNat_natCast]
    refine Prt.poke h2' (i := 1) rfl hpp (by omega) fun F3 H3 h3 g3 => ?_
    refine hyes F3 H3 ?_ (g1.trans g3)
    rw [if_pos hz]
    refine RArn.shut (p := y.1) (p2 := y.2.2.1) (c := y.2.1) (c2 := y.2.2.2.1) (T := y.2.2.2.2) ?_
    have a1 : (l.set b noBlk).map (fun b => Value.int .i64 b.c) = ((l.set b ⟨B.c, strike B.t k⟩).map fun b => Value.int .i64 b.c).set b (.int .i64 0) := by
     rw [List.map_set, List.map_set, List.set_set]; rfl
    have a2 : flatB (l.set b noBlk) = flatB (l.set b ⟨B.c, strike B.t k⟩) := by
     unfold flatB
     simp only [List.length_set]
     apply List.map_congr_left
     intro j hj
     rw [getD_set_blk hlt, getD_set_blk hlt]
     split
     ·rw [hz]; rfl
     ·rfl
    rw [a1, a2]
    simpa using h3
   ·refine bif_neg hz (hyes F1 H1 ?_ g1)
    rw [if_neg hz]
    exact h2

end Go.Proofs.YtflfodcemnapeaaGreat

namespace Go.Proofs.YtflfodcemnapeaaGreat
set_option linter.unusedSimpArgs false
set_option linter.unusedVariables false
set_option linter.unnecessarySimpa false
open Go
end Go.Proofs.YtflfodcemnapeaaGreat

namespace Go.Proofs.YtflfodcemnapeaaGreat
set_option linter.unusedSimpArgs false
set_option linter.unusedVariables false
open Go
open Classical in
noncomputable def arFind (l : List Blk) (c : Nat) : Option (Nat × Nat) := if h : ∃ p : Nat × Nat, ArFits l c p.1 p.2 then some (Classical.choose h) else none
open Classical in
noncomputable def arPlace (l : List Blk) (cell : Int) : Option (Nat × Nat) := if h : ∃ p : Nat × Nat, AtPlace l cell p.1 p.2 then some (Classical.choose h) else none

theorem arFind_fits {l : List Blk} {c i k : Nat} (h : ArFits l c i k) : arFind l c = some (i, k) := by
 have hex : ∃ p : Nat × Nat, ArFits l c p.1 p.2 := ⟨(i, k), h⟩
 unfold arFind
 rw [dif_pos hex]
 have := (Classical.choose_spec hex).unique h
 exact congrArg some (Prod.ext this.1 this.2)
theorem arFind_no {l : List Blk} {c : Nat} (h : ArNoFit l c) : arFind l c = none := by
 unfold arFind
 rw [dif_neg fun ⟨p, hp⟩ => hp.notNo h]
theorem arFind_some {l : List Blk} {c : Nat} {p : Nat × Nat} (h : arFind l c = some p) : ArFits l c p.1 p.2 := by
 unfold arFind at h
 split at h
 ·rename_i hex
  cases h
  exact Classical.choose_spec hex
 ·cases h
theorem arPlace_at {l : List Blk} {cell : Int} {b k : Nat} (ho : allOk l) (h : AtPlace l cell b k) : arPlace l cell = some (b, k) := by
 have hex : ∃ p : Nat × Nat, AtPlace l cell p.1 p.2 := ⟨(b, k), h⟩
 unfold arPlace
 rw [dif_pos hex]
 have := AtPlace.unique ho (Classical.choose_spec hex) h
 exact congrArg some (Prod.ext this.1 this.2)
theorem arPlace_no {l : List Blk} {cell : Int} (h : ∀ b k, ¬ AtPlace l cell b k) : arPlace l cell = none := by
 unfold arPlace
 rw [dif_neg fun ⟨p, hp⟩ => h _ _ hp]
theorem arPlace_some {l : List Blk} {cell : Int} {p : Nat × Nat} (h : arPlace l cell = some p) : AtPlace l cell p.1 p.2 := by
 unfold arPlace at h
 split at h
 ·rename_i hex
  cases h
  exact Classical.choose_spec hex
 ·cases h

/-- What Alloc answers: the cell, how it went, what is left. -/
noncomputable def arAlloc (l : List Blk) (size : Int) : Int × Int × List Blk :=
 if clsOf size = 0 then (0, 1, l) else match arFind l (clsOf size) with
  | some p => (((16 * p.1 + p.2 * clsOf size : Nat) : Int), 0, tookAt l (clsOf size) p.1 p.2)
  | none => (0, 2, l)
noncomputable def arFree (l : List Blk) (cell : Int) : Int × List Blk := match arPlace l cell with
 | some p => (0, l.set p.1 (freed (l.getD p.1 noBlk) p.2))
 | none => (9, l)
structure ArOk (l : List Blk) : Prop where
 ok : allOk l
 len : l.length ≤ 256
theorem ArOk.alloc {l : List Blk} (h : ArOk l) (n : Int) : ArOk (arAlloc l n).2.2 := by
 unfold arAlloc
 split
 ·exact h
 ·rename_i hc
  cases hf : arFind l (clsOf n) with
  | none => exact h
  | some p => exact ⟨h.ok.took (clsOf_cls hc) (arFind_some hf), by rw [took_length]; exact h.len⟩
theorem ArOk.free {l : List Blk} (h : ArOk l) (n : Int) : ArOk (arFree l n).2 := by
 unfold arFree
 cases hf : arPlace l n with
 | none => exact h
 | some p => exact ⟨h.ok.free (arPlace_some hf), by simpa using h.len⟩
theorem ArOk.new {n : Nat} (h : n ≤ 256) : ArOk (List.replicate n noBlk) := ⟨allOk.new, by simpa using h⟩
theorem arAlloc_cell {l : List Blk} {n : Int} (h : ArOk l) : 0 ≤ (arAlloc l n).1 ∧ (arAlloc l n).1 < 4096 + 256 := by
 unfold arAlloc
 split
 ·exact ⟨by show (0 : Int) ≤ 0; omega, by show (0 : Int) < _; omega⟩
 ·rename_i hc
  have hs := (clsOf_cls hc).small
  cases hf : arFind l (clsOf n) with
  | none => exact ⟨by show (0 : Int) ≤ 0; omega, by show (0 : Int) < _; omega⟩
  | some p =>
   obtain ⟨h1, h2⟩ := arFind_some hf
   have hl := h.len
   have hk : p.2 ≤ 15 := by
    rcases h2 with ⟨_, h2, _⟩ | ⟨_, h2, _⟩ <;> omega
   have hm : p.2 * clsOf n ≤ 15 * 16 := Nat.mul_le_mul hk hs.2.1
   exact ⟨by show (0 : Int) ≤ ((16 * p.1 + p.2 * clsOf n : Nat) : Int); omega, by show ((16 * p.1 + p.2 * clsOf n : Nat) : Int) < _; omega⟩
section
variable {H0 H : Hp} {L : List Prt} {i a : Nat} {l : List Blk} {n : Int} {K : Value → Hp → Prop}
theorem sArNew (h : St H0 L H) {m : Nat} (h1 : 1 ≤ m) (h2 : m ≤ 256) (hK : ∀ a H', St H0 (Arn a (List.replicate m noBlk) :: L) H' → K (.tuple #[.pointer (some ⟨a, 0, none⟩), .int .i64 0]) H') :
  hcall PR f_arena_New ⟨[.int .i64 (16 * (m : Int))]⟩ H K := arenaNew_ok h1 h2 fun a F H' s g => hK a H' (h.new s g)
theorem sAlloc (h : St H0 L H) (hi : L[i]? = some (Arn a l)) (ho : ArOk l)
  (hK : ∀ H', St H0 (L.set i (Arn a (arAlloc l n).2.2)) H' → K (.tuple #[.int .i64 (arAlloc l n).1, .int .i64 (arAlloc l n).2.1]) H') : hcall PR f_arena_Arena_Alloc ⟨[.pointer (some ⟨a, 0, none⟩), .int .i64 n]⟩ H K := by
 obtain ⟨Fi, ha, up⟩ := h.at hi
 unfold arAlloc at hK
 refine Alloc_ok ha ho.ok ho.len (fun e => ?_) (fun e i' k' hf F' H' h' g' => ?_) fun e hn => ?_
 ·rw [if_pos e] at hK
  exact hK H (by rw [List.set_self hi]; exact h)
 ·rw [if_neg e, arFind_fits hf] at hK
  exact hK H' (up _ F' H' h' g')
 ·rw [if_neg e, arFind_no hn] at hK
  exact hK H (by rw [List.set_self hi]; exact h)
theorem sFree (h : St H0 L H) (hi : L[i]? = some (Arn a l)) (ho : ArOk l)
  (hK : ∀ H', St H0 (L.set i (Arn a (arFree l n).2)) H' → K (.int .i64 (arFree l n).1) H') : hcall PR f_arena_Arena_Free ⟨[.pointer (some ⟨a, 0, none⟩), .int .i64 n]⟩ H K := by
 obtain ⟨Fi, ha, up⟩ := h.at hi
 unfold arFree at hK
 refine Free_ok ha ho.ok ho.len (fun e => ?_) fun b k hp F' H' h' g' => ?_
 ·rw [arPlace_no e] at hK
  exact hK H (by rw [List.set_self hi]; exact h)
 ·rw [arPlace_at ho.ok hp] at hK
  exact hK H' (up _ F' H' h' g')
theorem sRArNew (h : St H0 L H) {m : Nat} (h1 : 1 ≤ m) (h2 : m ≤ 256) (hK : ∀ a H', St H0 (RArn a (List.replicate m noBlk) :: L) H' → K (.pointer (some ⟨a, 0, none⟩)) H') :
  hcall PR f_ref7_New ⟨[.int .i64 (16 * (m : Int))]⟩ H K := rArenaNew_ok h1 h2 fun a F H' s g => hK a H' (h.new s g)
theorem sRAlloc (h : St H0 L H) (hi : L[i]? = some (RArn a l)) (ho : ArOk l)
  (hK : ∀ H', St H0 (L.set i (RArn a (arAlloc l n).2.2)) H' → K (.tuple #[.int .i64 (arAlloc l n).1, .int .i64 (arAlloc l n).2.1]) H') : hcall PR f_ref7_Arena_Alloc ⟨[.pointer (some ⟨a, 0, none⟩), .int .i64 n]⟩ H K := by
 obtain ⟨Fi, ha, up⟩ := h.at hi
 unfold arAlloc at hK
 refine rAlloc_ok ha ho.ok ho.len (fun e => ?_) (fun e i' k' hf F' H' h' g' => ?_) fun e hn => ?_
 ·rw [if_pos e] at hK
  exact hK H (by rw [List.set_self hi]; exact h)
 ·rw [if_neg e, arFind_fits hf] at hK
  exact hK H' (up _ F' H' h' g')
 ·rw [if_neg e, arFind_no hn] at hK
  exact hK H (by rw [List.set_self hi]; exact h)
theorem sRFree (h : St H0 L H) (hi : L[i]? = some (RArn a l)) (ho : ArOk l) (hn : n ≤ 9223372036854775807)
  (hK : ∀ H', St H0 (L.set i (RArn a (arFree l n).2)) H' → K (.int .i64 (arFree l n).1) H') : hcall PR f_ref7_Arena_Free ⟨[.pointer (some ⟨a, 0, none⟩), .int .i64 n]⟩ H K := by
 obtain ⟨Fi, ha, up⟩ := h.at hi
 unfold arFree at hK
 refine rFree_ok ha ho.ok ho.len hn (fun e => ?_) fun b k hp F' H' h' g' => ?_
 ·rw [arPlace_no e] at hK
  exact hK H (by rw [List.set_self hi]; exact h)
 ·rw [arPlace_at ho.ok hp] at hK
  exact hK H' (up _ F' H' h' g')
end
end Go.Proofs.YtflfodcemnapeaaGreat
