/- PRINTED by gen.py: functions as plain propositions, held against the program by the kernel. No condition. -/
import Derived.Test.YtdeihhfhcnhmfabDenN
namespace Go.Proofs.Ytdeihhfhcnhmfab
open Go
set_option linter.unusedVariables false
set_option maxRecDepth 100000

def B_law7_ArenaPlays (cells1 : Int) (lP2 : Option Addr) (lL3 : Nat) (lC4 : Nat) (H : Hp) (K : Value → Hp → Prop) : Prop :=
 hcall PR f_arena_New ⟨[(.int .i64 cells1)]⟩ H fun v5 Hx6 =>
 tup2 v5 fun v7 v8 =>
 asP v7 fun t9 =>
 asI .i64 v8 fun t10 =>
 hcall PR f_law7_known ⟨[]⟩ Hx6 fun v11 Hx12 =>
 asB v11 fun t13 =>
 (bif (!t13) then
 K (.bool false) Hx12
else
 (bif (decide ((cells1 : Int) < 16)) then
 (bif ((t10 : Int) == 1) then
 K (.bool (Option.isNone (α := Addr) t9)) Hx12
else
 K (.bool false) Hx12)
else
 (bif (decide ((cells1 : Int) > 4096)) then
 (bif ((t10 : Int) == 1) then
 K (.bool (Option.isNone (α := Addr) t9)) Hx12
else
 K (.bool false) Hx12)
else
 (16 : Int) ≠ 0 ∧
 (bif (((Int.tmod cells1 16) : Int) != 0) then
 (bif ((t10 : Int) == 1) then
 K (.bool (Option.isNone (α := Addr) t9)) Hx12
else
 K (.bool false) Hx12)
else
 (bif ((t10 : Int) != 0) then
 K (.bool false) Hx12
else
 (bif (Option.isNone (α := Addr) t9) then
 K (.bool false) Hx12
else
 hcall PR f_ref7_New ⟨[(.int .i64 cells1)]⟩ Hx12 fun v14 Hx15 =>
 asP v14 fun t16 =>
 ∀ R17 : Hp → Prop, (∀ Hx18 : Hp, (
 hcall PR f_arena_Arena_Blocks ⟨[(.pointer t9)]⟩ Hx18 fun v19 Hx20 =>
 asSl v19 fun tP21 tL22 tC23 =>
 nilP t16 fun ta24 =>
 ldSl ta24 Hx20 fun ClassP25 ClassL26 ClassC27 =>
 hcall PR f_law7_ints ⟨[(.slice tP21 tL22 tC23), (.slice ClassP25 ClassL26 ClassC27)]⟩ Hx20 fun v28 Hx29 =>
 asB v28 fun t30 =>
 ∃ (I31 : Int → Hp → Prop) (m32 : Int → Hp → Nat), I31 0 Hx29 ∧ ∀ i34 : Int, ∀ Hx33 : Hp, I31 i34 Hx33 →
 (bif (decide ((i34 : Int) < (tL22 : Int))) then
 idxA tP21 tL22 i34 1 fun el35 =>
 st el35 (.int .i64 77) Hx33 fun Hx36 =>
 I31 (IntKind.i64.wrap (i34 + 1)) Hx36 ∧ m32 (IntKind.i64.wrap (i34 + 1)) Hx36 < m32 i34 Hx33
else
 (bif t30 then
 nilP t16 fun ta37 =>
 ldSl ta37 Hx33 fun ClassP38 ClassL39 ClassC40 =>
 hcall PR f_arena_Arena_Blocks ⟨[(.pointer t9)]⟩ Hx33 fun v41 Hx42 =>
 asSl v41 fun tP43 tL44 tC45 =>
 (ldSl ta37 Hx42 fun ClassP46 ClassL47 ClassC48 =>
 ((.slice ClassP46 ClassL47 ClassC48) : Value) = (.slice ClassP38 ClassL39 ClassC40)) ∧
 hcall PR f_law7_ints ⟨[(.slice tP43 tL44 tC45), (.slice ClassP38 ClassL39 ClassC40)]⟩ Hx42 fun v49 Hx50 =>
 asB v49 fun t51 =>
 K (.bool t51) Hx50
else
 K (.bool false) Hx33))) → R17 Hx18) →
 ∃ (I52 : Option Addr → Nat → Nat → Int → Hp → Prop) (m53 : Option Addr → Nat → Nat → Int → Hp → Nat), I52 none 0 0 0 Hx15 ∧ ∀ toldP55 : Option Addr, ∀ toldL56 : Nat, ∀ toldC57 : Nat, ∀ i58 : Int, ∀ Hx54 : Hp, I52 toldP55 toldL56 toldC57 i58 Hx54 →
 (bif (decide ((i58 : Int) < (lL3 : Int))) then
 (bif (decide ((i58 : Int) < 400)) then
 idxA lP2 lL3 i58 3 fun el59 =>
 ldI .i64 (el59.add 1) Hx54 fun N60 =>
 ∀ R61 : Option Addr → Nat → Nat → Int → Hp → Prop, (∀ toldP63 : Option Addr, ∀ toldL64 : Nat, ∀ toldC65 : Nat, ∀ n66 : Int, ∀ Hx62 : Hp, (
 hcall PR f_arena_Arena_Used ⟨[(.pointer t9)]⟩ Hx62 fun v67 Hx68 =>
 asI .i64 v67 fun t69 =>
 hcall PR f_ref7_Arena_Used ⟨[(.pointer t16)]⟩ Hx68 fun v70 Hx71 =>
 asI .i64 v70 fun t72 =>
 (bif ((t69 : Int) != t72) then
 K (.bool false) Hx71
else
 hcall PR f_arena_Arena_Room ⟨[(.pointer t9), (.int .i64 n66)]⟩ Hx71 fun v73 Hx74 =>
 asI .i64 v73 fun t75 =>
 hcall PR f_ref7_Arena_Room ⟨[(.pointer t16), (.int .i64 n66)]⟩ Hx74 fun v76 Hx77 =>
 asI .i64 v76 fun t78 =>
 (bif ((t75 : Int) != t78) then
 K (.bool false) Hx77
else
 (16 : Int) ≠ 0 ∧
 hcall PR f_arena_Arena_Room ⟨[(.pointer t9), (.int .i64 (IntKind.i64.wrap (1 + (Int.tmod i58 16))))]⟩ Hx77 fun v79 Hx80 =>
 asI .i64 v79 fun t81 =>
 (16 : Int) ≠ 0 ∧
 hcall PR f_ref7_Arena_Room ⟨[(.pointer t16), (.int .i64 (IntKind.i64.wrap (1 + (Int.tmod i58 16))))]⟩ Hx80 fun v82 Hx83 =>
 asI .i64 v82 fun t84 =>
 (bif ((t81 : Int) != t84) then
 K (.bool false) Hx83
else
 I52 toldP63 toldL64 toldC65 (IntKind.i64.wrap (i58 + 1)) Hx83 ∧ m53 toldP63 toldL64 toldC65 (IntKind.i64.wrap (i58 + 1)) Hx83 < m53 toldP55 toldL56 toldC57 i58 Hx54)))) → R61 toldP63 toldL64 toldC65 n66 Hx62) →
 idxA lP2 lL3 i58 3 fun el85 =>
 ldI .i64 el85 Hx54 fun What86 =>
 hcall PR f_hand_Pick ⟨[(.int .i64 What86), (.int .i64 5)]⟩ Hx54 fun v87 Hx88 =>
 asI .i64 v87 fun t89 =>
 (bif (decide ((t89 : Int) < 3)) then
 ∀ R90 : Int → Hp → Prop, (∀ n92 : Int, ∀ Hx91 : Hp, (
 hcall PR f_arena_Arena_Alloc ⟨[(.pointer t9), (.int .i64 n92)]⟩ Hx91 fun v93 Hx94 =>
 tup2 v93 fun v95 v96 =>
 asI .i64 v95 fun t97 =>
 asI .i64 v96 fun t98 =>
 hcall PR f_ref7_Arena_Alloc ⟨[(.pointer t16), (.int .i64 n92)]⟩ Hx94 fun v99 Hx100 =>
 tup2 v99 fun v101 v102 =>
 asI .i64 v101 fun t103 =>
 asI .i64 v102 fun t104 =>
 (bif ((t97 : Int) != t103) then
 K (.bool false) Hx100
else
 (bif ((t98 : Int) != t104) then
 K (.bool false) Hx100
else
 newB (.cells #[(.int .i64 t97)] ty_int) Hx100 fun b105 Hx106 =>
 evW PR (Builtin.append_ #[ty_Sint, ty_Sint] ty_Sint #[(.slice toldP55 toldL56 toldC57), (.slice (some ⟨b105, 0, none⟩) 1 1)]) Hx106 fun v107 Hx108 =>
 asSl v107 fun tP109 tL110 tC111 =>
 R61 tP109 tL110 tC111 n92 Hx108))) → R90 n92 Hx91) →
 idxA lP2 lL3 i58 3 fun el112 =>
 ldB (el112.add 2) Hx88 fun Near113 =>
 (bif Near113 then
 hcall PR f_hand_Pick ⟨[(.int .i64 N60), (.int .i64 16)]⟩ Hx88 fun v114 Hx115 =>
 asI .i64 v114 fun t116 =>
 R90 (IntKind.i64.wrap (1 + t116)) Hx115
else
 R90 N60 Hx88)
else
 ∀ R117 : Int → Hp → Prop, (∀ n119 : Int, ∀ Hx118 : Hp, (
 hcall PR f_arena_Arena_At ⟨[(.pointer t9), (.int .i64 n119)]⟩ Hx118 fun v120 Hx121 =>
 asI .i64 v120 fun t122 =>
 hcall PR f_ref7_Arena_At ⟨[(.pointer t16), (.int .i64 n119)]⟩ Hx121 fun v123 Hx124 =>
 asI .i64 v123 fun t125 =>
 (bif ((t122 : Int) != t125) then
 K (.bool false) Hx124
else
 hcall PR f_arena_Arena_Free ⟨[(.pointer t9), (.int .i64 n119)]⟩ Hx124 fun v126 Hx127 =>
 asI .i64 v126 fun t128 =>
 hcall PR f_ref7_Arena_Free ⟨[(.pointer t16), (.int .i64 n119)]⟩ Hx127 fun v129 Hx130 =>
 asI .i64 v129 fun t131 =>
 (bif ((t128 : Int) != t131) then
 K (.bool false) Hx130
else
 R61 toldP55 toldL56 toldC57 n119 Hx130))) → R117 n119 Hx118) →
 idxA lP2 lL3 i58 3 fun el132 =>
 ldB (el132.add 2) Hx88 fun Near133 =>
 (bif Near133 then
 (bif (decide (((toldL56 : Int) : Int) > 0)) then
 hcall PR f_hand_Pick ⟨[(.int .i64 N60), (.int .i64 (toldL56 : Int))]⟩ Hx88 fun v134 Hx135 =>
 asI .i64 v134 fun t136 =>
 idxA toldP55 toldL56 t136 1 fun el137 =>
 ldI .i64 el137 Hx135 fun t138 =>
 R117 t138 Hx135
else
 R117 N60 Hx88)
else
 R117 N60 Hx88))
else
 R17 Hx54)
else
 R17 Hx54)))))))
theorem E_law7_ArenaPlays (cells1 : Int) (lP2 : Option Addr) (lL3 : Nat) (lC4 : Nat) (H : Hp) (K : Value → Hp → Prop) : B_law7_ArenaPlays cells1 lP2 lL3 lC4 H K = denF Try.prog Try.f3 (.seq none .n (.seq none .n (.seq none .n (.seq none .n (.seq none .n (.seq none .n (.seq none .n (.seq (some ⟨[], [5, 7]⟩) (.seq none .n (.sub (.loop ⟨[(8, .sl), (9, .int .i64)], [1, 5, 7]⟩ (.seq none .n (.seq none (.sub (.seq none .n (.seq (some ⟨[(8, .sl), (10, .int .i64)], [1, 5, 7, 9]⟩) (.seq none .n (.two (.seq (some ⟨[(10, .int .i64)], [1, 5, 7, 8, 9]⟩) .n .n) (.seq (some ⟨[(10, .int .i64)], [1, 5, 7, 8, 9]⟩) .n .n))) .n))) .n))))) (.seq none .n (.seq none .n (.seq none (.seq none .n (.sub (.loop ⟨[(17, .int .i64)], [5, 7, 15, 16]⟩ .n))) .n))))))))))) [(.int .i64 cells1), (.slice lP2 lL3 lC4)] H K := by kernel_rfl
theorem den_law7_ArenaPlays {cells1 : Int} {lP2 : Option Addr} {lL3 : Nat} {lC4 : Nat} {H : Hp} {K : Value → Hp → Prop} (h : B_law7_ArenaPlays cells1 lP2 lL3 lC4 H K) : hcall PR f_law7_ArenaPlays ⟨[(.int .i64 cells1), (.slice lP2 lL3 lC4)]⟩ H K := denF_call Try.func3 PR_mixed (Eq.mp (E_law7_ArenaPlays cells1 lP2 lL3 lC4 H K) h)

def B_arena_New (cells1 : Int) (H : Hp) (K : Value → Hp → Prop) : Prop :=
 (bif (decide ((cells1 : Int) < 16)) then
 K (.tuple #[(.pointer none), (.int .i64 1)]) H
else
 (bif (decide ((cells1 : Int) > 4096)) then
 K (.tuple #[(.pointer none), (.int .i64 1)]) H
else
 (16 : Int) ≠ 0 ∧
 (bif (((Int.tmod cells1 16) : Int) != 0) then
 K (.tuple #[(.pointer none), (.int .i64 1)]) H
else
 (16 : Int) ≠ 0 ∧
 (evW PR (Instr.makeSlice ty_Sint (.int .i64 (IntKind.i64.wrap (Int.tdiv cells1 16))) (.int .i64 (IntKind.i64.wrap (Int.tdiv cells1 16)))) H fun v2 Hx3 =>
 asSl v2 fun mkP4 mkL5 mkC6 =>
 evW PR (Instr.makeSlice ty_Suint16 (.int .i64 (IntKind.i64.wrap (Int.tdiv cells1 16))) (.int .i64 (IntKind.i64.wrap (Int.tdiv cells1 16)))) Hx3 fun v7 Hx8 =>
 asSl v7 fun mkP9 mkL10 mkC11 =>
 newB (.cells #[(.slice mkP4 mkL5 mkC6), (.slice mkP9 mkL10 mkC11)] ty_arena_Arena) Hx8 fun b12 Hx13 =>
 K (.tuple #[(.pointer (some ⟨b12, 0, none⟩)), (.int .i64 0)]) Hx13) ∧
 (evW PR (Instr.makeSlice ty_Suint16 (.int .i64 (IntKind.i64.wrap (Int.tdiv cells1 16))) (.int .i64 (IntKind.i64.wrap (Int.tdiv cells1 16)))) H fun v14 Hx15 =>
 asSl v14 fun mkP16 mkL17 mkC18 =>
 evW PR (Instr.makeSlice ty_Sint (.int .i64 (IntKind.i64.wrap (Int.tdiv cells1 16))) (.int .i64 (IntKind.i64.wrap (Int.tdiv cells1 16)))) Hx15 fun v19 Hx20 =>
 asSl v19 fun mkP21 mkL22 mkC23 =>
 newB (.cells #[(.slice mkP21 mkL22 mkC23), (.slice mkP16 mkL17 mkC18)] ty_arena_Arena) Hx20 fun b24 Hx25 =>
 K (.tuple #[(.pointer (some ⟨b24, 0, none⟩)), (.int .i64 0)]) Hx25))))
theorem E_arena_New (cells1 : Int) (H : Hp) (K : Value → Hp → Prop) : B_arena_New cells1 H K = denF Try.prog Try.f4 .n [(.int .i64 cells1)] H K := by kernel_rfl
theorem den_arena_New {cells1 : Int} {H : Hp} {K : Value → Hp → Prop} (h : B_arena_New cells1 H K) : hcall PR f_arena_New ⟨[(.int .i64 cells1)]⟩ H K := denF_call Try.func4 PR_mixed (Eq.mp (E_arena_New cells1 H K) h)

def B_law7_known  (H : Hp) (K : Value → Hp → Prop) : Prop :=
 hcall PR f_arena_New ⟨[(.int .i64 32)]⟩ H fun v1 Hx2 =>
 tup2 v1 fun v3 v4 =>
 asP v3 fun t5 =>
 asI .i64 v4 fun t6 =>
 (bif ((t6 : Int) != 0) then
 K (.bool false) Hx2
else
 (bif (Option.isNone (α := Addr) t5) then
 K (.bool false) Hx2
else
 hcall PR f_arena_Arena_Alloc ⟨[(.pointer t5), (.int .i64 3)]⟩ Hx2 fun v7 Hx8 =>
 tup2 v7 fun v9 v10 =>
 asI .i64 v9 fun t11 =>
 asI .i64 v10 fun t12 =>
 hcall PR f_arena_Arena_Alloc ⟨[(.pointer t5), (.int .i64 4)]⟩ Hx8 fun v13 Hx14 =>
 tup2 v13 fun v15 v16 =>
 asI .i64 v15 fun t17 =>
 asI .i64 v16 fun t18 =>
 hcall PR f_arena_Arena_Alloc ⟨[(.pointer t5), (.int .i64 9)]⟩ Hx14 fun v19 Hx20 =>
 tup2 v19 fun v21 v22 =>
 asI .i64 v21 fun t23 =>
 asI .i64 v22 fun t24 =>
 hcall PR f_arena_Arena_Alloc ⟨[(.pointer t5), (.int .i64 1)]⟩ Hx20 fun v25 Hx26 =>
 tup2 v25 fun v27 v28 =>
 asI .i64 v27 fun t29 =>
 asI .i64 v28 fun t30 =>
 (bif ((t11 : Int) == 0) then
 (bif ((t17 : Int) == 4) then
 (bif ((t23 : Int) == 16) then
 (bif ((t12 : Int) == 0) then
 (bif ((t18 : Int) == 0) then
 (bif ((t24 : Int) == 0) then
 K (.bool ((t30 : Int) == 2)) Hx26
else
 K (.bool false) Hx26)
else
 K (.bool false) Hx26)
else
 K (.bool false) Hx26)
else
 K (.bool false) Hx26)
else
 K (.bool false) Hx26)
else
 K (.bool false) Hx26)))
theorem E_law7_known  (H : Hp) (K : Value → Hp → Prop) : B_law7_known  H K = denF Try.prog Try.f5 .n [] H K := by kernel_rfl
theorem den_law7_known  {H : Hp} {K : Value → Hp → Prop} (h : B_law7_known  H K) : hcall PR f_law7_known ⟨[]⟩ H K := denF_call Try.func5 PR_mixed (Eq.mp (E_law7_known  H K) h)

def B_ref7_New (cells1 : Int) (H : Hp) (K : Value → Hp → Prop) : Prop :=
 (16 : Int) ≠ 0 ∧
 (16 : Int) ≠ 0 ∧
 (evW PR (Instr.makeSlice ty_Sint (.int .i64 (IntKind.i64.wrap (Int.tdiv cells1 16))) (.int .i64 (IntKind.i64.wrap (Int.tdiv cells1 16)))) H fun v2 Hx3 =>
 asSl v2 fun mkP4 mkL5 mkC6 =>
 evW PR (Instr.makeSlice ty_S_16_bool (.int .i64 (IntKind.i64.wrap (Int.tdiv cells1 16))) (.int .i64 (IntKind.i64.wrap (Int.tdiv cells1 16)))) Hx3 fun v7 Hx8 =>
 asSl v7 fun mkP9 mkL10 mkC11 =>
 newB (.cells #[(.slice mkP4 mkL5 mkC6), (.slice mkP9 mkL10 mkC11)] ty_ref7_Arena) Hx8 fun b12 Hx13 =>
 K (.pointer (some ⟨b12, 0, none⟩)) Hx13) ∧
 (evW PR (Instr.makeSlice ty_S_16_bool (.int .i64 (IntKind.i64.wrap (Int.tdiv cells1 16))) (.int .i64 (IntKind.i64.wrap (Int.tdiv cells1 16)))) H fun v14 Hx15 =>
 asSl v14 fun mkP16 mkL17 mkC18 =>
 evW PR (Instr.makeSlice ty_Sint (.int .i64 (IntKind.i64.wrap (Int.tdiv cells1 16))) (.int .i64 (IntKind.i64.wrap (Int.tdiv cells1 16)))) Hx15 fun v19 Hx20 =>
 asSl v19 fun mkP21 mkL22 mkC23 =>
 newB (.cells #[(.slice mkP21 mkL22 mkC23), (.slice mkP16 mkL17 mkC18)] ty_ref7_Arena) Hx20 fun b24 Hx25 =>
 K (.pointer (some ⟨b24, 0, none⟩)) Hx25)
theorem E_ref7_New (cells1 : Int) (H : Hp) (K : Value → Hp → Prop) : B_ref7_New cells1 H K = denF Try.prog Try.f6 .n [(.int .i64 cells1)] H K := by kernel_rfl
theorem den_ref7_New {cells1 : Int} {H : Hp} {K : Value → Hp → Prop} (h : B_ref7_New cells1 H K) : hcall PR f_ref7_New ⟨[(.int .i64 cells1)]⟩ H K := denF_call Try.func6 PR_mixed (Eq.mp (E_ref7_New cells1 H K) h)

def B_hand_Pick (n1 : Int) (m2 : Int) (H : Hp) (K : Value → Hp → Prop) : Prop :=
 (m2 : Int) ≠ 0 ∧
 (bif (decide (((Int.tmod n1 m2) : Int) < 0)) then
 K (.int .i64 (IntKind.i64.wrap ((Int.tmod n1 m2) + m2))) H
else
 K (.int .i64 (Int.tmod n1 m2)) H)
theorem E_hand_Pick (n1 : Int) (m2 : Int) (H : Hp) (K : Value → Hp → Prop) : B_hand_Pick n1 m2 H K = denF Try.prog Try.f7 .n [(.int .i64 n1), (.int .i64 m2)] H K := by kernel_rfl
theorem den_hand_Pick {n1 : Int} {m2 : Int} {H : Hp} {K : Value → Hp → Prop} (h : B_hand_Pick n1 m2 H K) : hcall PR f_hand_Pick ⟨[(.int .i64 n1), (.int .i64 m2)]⟩ H K := denF_call Try.func7 PR_mixed (Eq.mp (E_hand_Pick n1 m2 H K) h)

def B_arena_Arena_Alloc (a1 : Option Addr) (size2 : Int) (H : Hp) (K : Value → Hp → Prop) : Prop :=
 hcall PR f_arena_Class ⟨[(.int .i64 size2)]⟩ H fun v3 Hx4 =>
 asI .i64 v3 fun t5 =>
 (bif ((t5 : Int) == 0) then
 K (.tuple #[(.int .i64 0), (.int .i64 1)]) Hx4
else
 nilP a1 fun aa6 =>
 ldSl aa6 Hx4 fun classP7 classL8 classC9 =>
 ∃ (I10 : Int → Int → Hp → Prop) (m11 : Int → Int → Hp → Nat), I10 (-1) 0 Hx4 ∧ ∀ free13 : Int, ∀ t14 : Int, ∀ Hx12 : Hp, I10 free13 t14 Hx12 →
 (bif (decide ((t14 : Int) < (classL8 : Int))) then
 ∀ R15 : Int → Hp → Prop, (∀ free17 : Int, ∀ Hx16 : Hp, (
 I10 free17 (IntKind.i64.wrap (t14 + 1)) Hx16 ∧ m11 free17 (IntKind.i64.wrap (t14 + 1)) Hx16 < m11 free13 t14 Hx12) → R15 free17 Hx16) →
 idxA classP7 classL8 t14 1 fun el18 =>
 ldI .i64 el18 Hx12 fun t19 =>
 ∀ R20 : Hp → Prop, (∀ Hx21 : Hp, (
 (bif ((t19 : Int) == 0) then
 (bif (decide ((free13 : Int) < 0)) then
 R15 t14 Hx21
else
 R15 free13 Hx21)
else
 R15 free13 Hx21)) → R20 Hx21) →
 (bif ((t19 : Int) == t5) then
 nilP a1 fun aa22 =>
 ldSl (aa22.add 1) Hx12 fun takenP23 takenL24 takenC25 =>
 idxA takenP23 takenL24 t14 1 fun el26 =>
 ldI .u16 el26 Hx12 fun t27 =>
 hcall PR f_arena_full ⟨[(.int .i64 t5)]⟩ Hx12 fun v28 Hx29 =>
 asI .u16 v28 fun t30 =>
 (ldI .u16 el26 Hx29 fun t31 =>
 ((.int .u16 t31) : Value) = (.int .u16 t27)) ∧
 (ldSl (aa22.add 1) Hx29 fun takenP32 takenL33 takenC34 =>
 ((.slice takenP32 takenL33 takenC34) : Value) = (.slice takenP23 takenL24 takenC25)) ∧
 (bif ((t27 : Int) != t30) then
 hcall PR f_arena_Arena_take ⟨[(.pointer a1), (.int .i64 t14)]⟩ Hx29 fun v35 Hx36 =>
 asI .i64 v35 fun t37 =>
 K (.tuple #[(.int .i64 t37), (.int .i64 0)]) Hx36
else
 R20 Hx29)
else
 R20 Hx12)
else
 (bif (decide ((free13 : Int) < 0)) then
 K (.tuple #[(.int .i64 0), (.int .i64 2)]) Hx12
else
 nilP a1 fun aa38 =>
 ldSl aa38 Hx12 fun classP39 classL40 classC41 =>
 idxA classP39 classL40 free13 1 fun el42 =>
 st el42 (.int .i64 t5) Hx12 fun Hx43 =>
 hcall PR f_arena_Arena_take ⟨[(.pointer a1), (.int .i64 free13)]⟩ Hx43 fun v44 Hx45 =>
 asI .i64 v44 fun t46 =>
 K (.tuple #[(.int .i64 t46), (.int .i64 0)]) Hx45)))
theorem E_arena_Arena_Alloc (a1 : Option Addr) (size2 : Int) (H : Hp) (K : Value → Hp → Prop) : B_arena_Arena_Alloc a1 size2 H K = denF Try.prog Try.f8 (.seq none .n (.seq none .n (.seq none .n (.seq none .n (.seq none (.seq none .n (.sub (.loop ⟨[(7, .int .i64), (19, .int .i64)], [0, 6, 17, 18]⟩ (.seq none .n (.seq none .n (.seq (some ⟨[(7, .int .i64)], [0, 6, 17, 18, 19]⟩) (.sub (.seq none .n (.seq (some ⟨[], [0, 6, 7, 8, 9, 17, 18, 19]⟩) .n .n))) .n)))))) .n))))) [(.pointer a1), (.int .i64 size2)] H K := by kernel_rfl
theorem den_arena_Arena_Alloc {a1 : Option Addr} {size2 : Int} {H : Hp} {K : Value → Hp → Prop} (h : B_arena_Arena_Alloc a1 size2 H K) : hcall PR f_arena_Arena_Alloc ⟨[(.pointer a1), (.int .i64 size2)]⟩ H K := denF_call Try.func8 PR_mixed (Eq.mp (E_arena_Arena_Alloc a1 size2 H K) h)

def B_ref7_Arena_Alloc (a1 : Option Addr) (size2 : Int) (H : Hp) (K : Value → Hp → Prop) : Prop :=
 hcall PR f_ref7_Class ⟨[(.int .i64 size2)]⟩ H fun v3 Hx4 =>
 asI .i64 v3 fun t5 =>
 (bif ((t5 : Int) == 0) then
 K (.tuple #[(.int .i64 0), (.int .i64 1)]) Hx4
else
 ∃ (I6 : Int → Hp → Prop) (m7 : Int → Hp → Nat), I6 0 Hx4 ∧ ∀ b9 : Int, ∀ Hx8 : Hp, I6 b9 Hx8 →
 nilP a1 fun aa10 =>
 ldSl aa10 Hx8 fun ClassP11 ClassL12 ClassC13 =>
 (bif (decide ((b9 : Int) < (ClassL12 : Int))) then
 ∀ R14 : Hp → Prop, (∀ Hx15 : Hp, (
 I6 (IntKind.i64.wrap (b9 + 1)) Hx15 ∧ m7 (IntKind.i64.wrap (b9 + 1)) Hx15 < m7 b9 Hx8) → R14 Hx15) →
 ∃ (I16 : Int → Hp → Prop) (m17 : Int → Hp → Nat), I16 0 Hx8 ∧ ∀ i19 : Int, ∀ Hx18 : Hp, I16 i19 Hx18 →
 nilP a1 fun aa20 =>
 ldSl aa20 Hx18 fun ClassP21 ClassL22 ClassC23 =>
 idxA ClassP21 ClassL22 b9 1 fun el24 =>
 ldI .i64 el24 Hx18 fun t25 =>
 (bif ((t25 : Int) == t5) then
 (t5 : Int) ≠ 0 ∧
 (bif (decide ((i19 : Int) < (IntKind.i64.wrap (Int.tdiv 16 t5)))) then
 nilP a1 fun aa26 =>
 ldSl (aa26.add 1) Hx18 fun TakenP27 TakenL28 TakenC29 =>
 idxA TakenP27 TakenL28 b9 16 fun el30 =>
 idxA (some el30) 16 i19 1 fun el31 =>
 ldB el31 Hx18 fun t32 =>
 (bif (!t32) then
 nilP a1 fun aa33 =>
 ldSl (aa33.add 1) Hx18 fun TakenP34 TakenL35 TakenC36 =>
 idxA TakenP34 TakenL35 b9 16 fun el37 =>
 idxA (some el37) 16 i19 1 fun el38 =>
 st el38 (.bool true) Hx18 fun Hx39 =>
 K (.tuple #[(.int .i64 (IntKind.i64.wrap ((IntKind.i64.wrap (16 * b9)) + (IntKind.i64.wrap (t5 * i19))))), (.int .i64 0)]) Hx39
else
 I16 (IntKind.i64.wrap (i19 + 1)) Hx18 ∧ m17 (IntKind.i64.wrap (i19 + 1)) Hx18 < m17 i19 Hx18)
else
 R14 Hx18)
else
 R14 Hx18)
else
 ∃ (I40 : Int → Hp → Prop) (m41 : Int → Hp → Nat), I40 0 Hx8 ∧ ∀ b43 : Int, ∀ Hx42 : Hp, I40 b43 Hx42 →
 nilP a1 fun aa44 =>
 ldSl aa44 Hx42 fun ClassP45 ClassL46 ClassC47 =>
 (bif (decide ((b43 : Int) < (ClassL46 : Int))) then
 nilP a1 fun aa48 =>
 ldSl aa48 Hx42 fun ClassP49 ClassL50 ClassC51 =>
 idxA ClassP49 ClassL50 b43 1 fun el52 =>
 ldI .i64 el52 Hx42 fun t53 =>
 (bif ((t53 : Int) == 0) then
 nilP a1 fun aa54 =>
 ldSl aa54 Hx42 fun ClassP55 ClassL56 ClassC57 =>
 idxA ClassP55 ClassL56 b43 1 fun el58 =>
 st el58 (.int .i64 t5) Hx42 fun Hx59 =>
 nilP a1 fun aa60 =>
 ldSl (aa60.add 1) Hx59 fun TakenP61 TakenL62 TakenC63 =>
 idxA TakenP61 TakenL62 b43 16 fun el64 =>
 idxA (some el64) 16 0 1 fun el65 =>
 st el65 (.bool true) Hx59 fun Hx66 =>
 K (.tuple #[(.int .i64 (IntKind.i64.wrap (16 * b43))), (.int .i64 0)]) Hx66
else
 I40 (IntKind.i64.wrap (b43 + 1)) Hx42 ∧ m41 (IntKind.i64.wrap (b43 + 1)) Hx42 < m41 b43 Hx42)
else
 K (.tuple #[(.int .i64 0), (.int .i64 2)]) Hx42)))
theorem E_ref7_Arena_Alloc (a1 : Option Addr) (size2 : Int) (H : Hp) (K : Value → Hp → Prop) : B_ref7_Arena_Alloc a1 size2 H K = denF Try.prog Try.f9 (.seq none .n (.seq none .n (.seq none .n (.seq none (.seq none .n (.sub (.loop ⟨[(7, .int .i64)], [0, 6]⟩ (.seq none .n (.seq (some ⟨[], [0, 6, 7]⟩) (.sub (.seq none .n (.sub (.loop ⟨[(8, .int .i64)], [0, 6, 7]⟩ .n)))) .n))))) (.seq none (.seq none .n (.sub (.loop ⟨[(9, .int .i64)], [0, 6]⟩ .n))) .n))))) [(.pointer a1), (.int .i64 size2)] H K := by kernel_rfl
theorem den_ref7_Arena_Alloc {a1 : Option Addr} {size2 : Int} {H : Hp} {K : Value → Hp → Prop} (h : B_ref7_Arena_Alloc a1 size2 H K) : hcall PR f_ref7_Arena_Alloc ⟨[(.pointer a1), (.int .i64 size2)]⟩ H K := denF_call Try.func9 PR_mixed (Eq.mp (E_ref7_Arena_Alloc a1 size2 H K) h)

def B_arena_Arena_At (a1 : Option Addr) (cell2 : Int) (H : Hp) (K : Value → Hp → Prop) : Prop :=
 hcall PR f_arena_Arena_place ⟨[(.pointer a1), (.int .i64 cell2)]⟩ H fun v3 Hx4 =>
 tup3 v3 fun v5 v6 v7 =>
 asI .i64 v5 fun t8 =>
 asI .i64 v6 fun t9 =>
 asB v7 fun t10 =>
 (bif (!t10) then
 K (.int .i64 0) Hx4
else
 nilP a1 fun aa11 =>
 ldSl aa11 Hx4 fun classP12 classL13 classC14 =>
 idxA classP12 classL13 t8 1 fun el15 =>
 ldI .i64 el15 Hx4 fun t16 =>
 K (.int .i64 t16) Hx4)
theorem E_arena_Arena_At (a1 : Option Addr) (cell2 : Int) (H : Hp) (K : Value → Hp → Prop) : B_arena_Arena_At a1 cell2 H K = denF Try.prog Try.f10 .n [(.pointer a1), (.int .i64 cell2)] H K := by kernel_rfl
theorem den_arena_Arena_At {a1 : Option Addr} {cell2 : Int} {H : Hp} {K : Value → Hp → Prop} (h : B_arena_Arena_At a1 cell2 H K) : hcall PR f_arena_Arena_At ⟨[(.pointer a1), (.int .i64 cell2)]⟩ H K := denF_call Try.func10 PR_mixed (Eq.mp (E_arena_Arena_At a1 cell2 H K) h)

def B_ref7_Arena_At (a1 : Option Addr) (cell2 : Int) (H : Hp) (K : Value → Hp → Prop) : Prop :=
 (bif (decide ((cell2 : Int) < 0)) then
 K (.int .i64 0) H
else
 (16 : Int) ≠ 0 ∧
 nilP a1 fun aa3 =>
 ldSl aa3 H fun ClassP4 ClassL5 ClassC6 =>
 (bif (decide (((IntKind.i64.wrap (Int.tdiv cell2 16)) : Int) ≥ (ClassL5 : Int))) then
 K (.int .i64 0) H
else
 nilP a1 fun aa7 =>
 ldSl aa7 H fun ClassP8 ClassL9 ClassC10 =>
 (16 : Int) ≠ 0 ∧
 idxA ClassP8 ClassL9 (IntKind.i64.wrap (Int.tdiv cell2 16)) 1 fun el11 =>
 ldI .i64 el11 H fun t12 =>
 (bif ((t12 : Int) == 0) then
 K (.int .i64 0) H
else
 (16 : Int) ≠ 0 ∧
 (t12 : Int) ≠ 0 ∧
 (bif (((Int.tmod (Int.tmod cell2 16) t12) : Int) != 0) then
 K (.int .i64 0) H
else
 nilP a1 fun aa13 =>
 ldSl (aa13.add 1) H fun TakenP14 TakenL15 TakenC16 =>
 (16 : Int) ≠ 0 ∧
 (16 : Int) ≠ 0 ∧
 (t12 : Int) ≠ 0 ∧
 idxA TakenP14 TakenL15 (IntKind.i64.wrap (Int.tdiv cell2 16)) 16 fun el17 =>
 idxA (some el17) 16 (IntKind.i64.wrap (Int.tdiv (Int.tmod cell2 16) t12)) 1 fun el18 =>
 ldB el18 H fun t19 =>
 (bif (!t19) then
 K (.int .i64 0) H
else
 K (.int .i64 t12) H)))))
theorem E_ref7_Arena_At (a1 : Option Addr) (cell2 : Int) (H : Hp) (K : Value → Hp → Prop) : B_ref7_Arena_At a1 cell2 H K = denF Try.prog Try.f11 .n [(.pointer a1), (.int .i64 cell2)] H K := by kernel_rfl
theorem den_ref7_Arena_At {a1 : Option Addr} {cell2 : Int} {H : Hp} {K : Value → Hp → Prop} (h : B_ref7_Arena_At a1 cell2 H K) : hcall PR f_ref7_Arena_At ⟨[(.pointer a1), (.int .i64 cell2)]⟩ H K := denF_call Try.func11 PR_mixed (Eq.mp (E_ref7_Arena_At a1 cell2 H K) h)

def B_arena_Arena_Free (a1 : Option Addr) (cell2 : Int) (H : Hp) (K : Value → Hp → Prop) : Prop :=
 hcall PR f_arena_Arena_place ⟨[(.pointer a1), (.int .i64 cell2)]⟩ H fun v3 Hx4 =>
 tup3 v3 fun v5 v6 v7 =>
 asI .i64 v5 fun t8 =>
 asI .i64 v6 fun t9 =>
 asB v7 fun t10 =>
 (bif (!t10) then
 K (.int .i64 9) Hx4
else
 nilP a1 fun aa11 =>
 ldSl (aa11.add 1) Hx4 fun takenP12 takenL13 takenC14 =>
 idxA takenP12 takenL13 t8 1 fun el15 =>
 ldI .u16 el15 Hx4 fun t16 =>
 (0 : Int) ≤ t9 ∧
 idxA takenP12 takenL13 t8 1 fun el17 =>
 st el17 (.int .u16 (bitOp .andNot .u16 t16 (shlI .u16 1 t9))) Hx4 fun Hx18 =>
 nilP a1 fun aa19 =>
 ldSl (aa19.add 1) Hx18 fun takenP20 takenL21 takenC22 =>
 idxA takenP20 takenL21 t8 1 fun el23 =>
 ldI .u16 el23 Hx18 fun t24 =>
 (bif ((t24 : Int) == 0) then
 nilP a1 fun aa25 =>
 ldSl aa25 Hx18 fun classP26 classL27 classC28 =>
 idxA classP26 classL27 t8 1 fun el29 =>
 st el29 (.int .i64 0) Hx18 fun Hx30 =>
 K (.int .i64 0) Hx30
else
 K (.int .i64 0) Hx18))
theorem E_arena_Arena_Free (a1 : Option Addr) (cell2 : Int) (H : Hp) (K : Value → Hp → Prop) : B_arena_Arena_Free a1 cell2 H K = denF Try.prog Try.f12 .n [(.pointer a1), (.int .i64 cell2)] H K := by kernel_rfl
theorem den_arena_Arena_Free {a1 : Option Addr} {cell2 : Int} {H : Hp} {K : Value → Hp → Prop} (h : B_arena_Arena_Free a1 cell2 H K) : hcall PR f_arena_Arena_Free ⟨[(.pointer a1), (.int .i64 cell2)]⟩ H K := denF_call Try.func12 PR_mixed (Eq.mp (E_arena_Arena_Free a1 cell2 H K) h)

def B_ref7_Arena_Free (a1 : Option Addr) (cell2 : Int) (H : Hp) (K : Value → Hp → Prop) : Prop :=
 hcall PR f_ref7_Arena_At ⟨[(.pointer a1), (.int .i64 cell2)]⟩ H fun v3 Hx4 =>
 asI .i64 v3 fun t5 =>
 (bif ((t5 : Int) == 0) then
 K (.int .i64 9) Hx4
else
 (16 : Int) ≠ 0 ∧
 nilP a1 fun aa6 =>
 ldSl (aa6.add 1) Hx4 fun TakenP7 TakenL8 TakenC9 =>
 (16 : Int) ≠ 0 ∧
 (t5 : Int) ≠ 0 ∧
 idxA TakenP7 TakenL8 (IntKind.i64.wrap (Int.tdiv cell2 16)) 16 fun el10 =>
 idxA (some el10) 16 (IntKind.i64.wrap (Int.tdiv (Int.tmod cell2 16) t5)) 1 fun el11 =>
 st el11 (.bool false) Hx4 fun Hx12 =>
 nilP a1 fun aa13 =>
 ldSl (aa13.add 1) Hx12 fun TakenP14 TakenL15 TakenC16 =>
 idxA TakenP14 TakenL15 (IntKind.i64.wrap (Int.tdiv cell2 16)) 16 fun el17 =>
 ldN el17 Hx12 0 16 fun tvs18 =>
 evR PR (aggEq .eql ty_16_bool ⟨tvs18⟩ #[(.bool false), (.bool false), (.bool false), (.bool false), (.bool false), (.bool false), (.bool false), (.bool false), (.bool false), (.bool false), (.bool false), (.bool false), (.bool false), (.bool false), (.bool false), (.bool false)]) Hx12 fun v19 =>
 asB v19 fun eq20 =>
 (bif eq20 then
 nilP a1 fun aa21 =>
 ldSl aa21 Hx12 fun ClassP22 ClassL23 ClassC24 =>
 idxA ClassP22 ClassL23 (IntKind.i64.wrap (Int.tdiv cell2 16)) 1 fun el25 =>
 st el25 (.int .i64 0) Hx12 fun Hx26 =>
 K (.int .i64 0) Hx26
else
 K (.int .i64 0) Hx12))
theorem E_ref7_Arena_Free (a1 : Option Addr) (cell2 : Int) (H : Hp) (K : Value → Hp → Prop) : B_ref7_Arena_Free a1 cell2 H K = denF Try.prog Try.f13 .n [(.pointer a1), (.int .i64 cell2)] H K := by kernel_rfl
theorem den_ref7_Arena_Free {a1 : Option Addr} {cell2 : Int} {H : Hp} {K : Value → Hp → Prop} (h : B_ref7_Arena_Free a1 cell2 H K) : hcall PR f_ref7_Arena_Free ⟨[(.pointer a1), (.int .i64 cell2)]⟩ H K := denF_call Try.func13 PR_mixed (Eq.mp (E_ref7_Arena_Free a1 cell2 H K) h)

def B_arena_Arena_Used (a1 : Option Addr) (H : Hp) (K : Value → Hp → Prop) : Prop :=
 nilP a1 fun aa2 =>
 ldSl aa2 H fun classP3 classL4 classC5 =>
 ∃ (I6 : Int → Int → Hp → Prop) (m7 : Int → Int → Hp → Nat), I6 0 0 H ∧ ∀ n9 : Int, ∀ t10 : Int, ∀ Hx8 : Hp, I6 n9 t10 Hx8 →
 (bif (decide ((t10 : Int) < (classL4 : Int))) then
 idxA classP3 classL4 t10 1 fun el11 =>
 ldI .i64 el11 Hx8 fun t12 =>
 nilP a1 fun aa13 =>
 ldSl (aa13.add 1) Hx8 fun takenP14 takenL15 takenC16 =>
 idxA takenP14 takenL15 t10 1 fun el17 =>
 ldI .u16 el17 Hx8 fun t18 =>
 hcall PR f_arena_bits ⟨[(.int .u16 t18)]⟩ Hx8 fun v19 Hx20 =>
 asI .i64 v19 fun t21 =>
 I6 (IntKind.i64.wrap (n9 + (IntKind.i64.wrap (t12 * t21)))) (IntKind.i64.wrap (t10 + 1)) Hx20 ∧ m7 (IntKind.i64.wrap (n9 + (IntKind.i64.wrap (t12 * t21)))) (IntKind.i64.wrap (t10 + 1)) Hx20 < m7 n9 t10 Hx8
else
 K (.int .i64 n9) Hx8)
theorem E_arena_Arena_Used (a1 : Option Addr) (H : Hp) (K : Value → Hp → Prop) : B_arena_Arena_Used a1 H K = denF Try.prog Try.f14 (.seq none .n (.seq none .n (.seq none (.seq none .n (.sub (.loop ⟨[(3, .int .i64), (11, .int .i64)], [0, 9, 10]⟩ .n))) .n))) [(.pointer a1)] H K := by kernel_rfl
theorem den_arena_Arena_Used {a1 : Option Addr} {H : Hp} {K : Value → Hp → Prop} (h : B_arena_Arena_Used a1 H K) : hcall PR f_arena_Arena_Used ⟨[(.pointer a1)]⟩ H K := denF_call Try.func14 PR_mixed (Eq.mp (E_arena_Arena_Used a1 H K) h)

def B_ref7_Arena_Used (a1 : Option Addr) (H : Hp) (K : Value → Hp → Prop) : Prop :=
 ∃ (I2 : Int → Int → Hp → Prop) (m3 : Int → Int → Hp → Nat), I2 0 0 H ∧ ∀ n5 : Int, ∀ b6 : Int, ∀ Hx4 : Hp, I2 n5 b6 Hx4 →
 nilP a1 fun aa7 =>
 ldSl aa7 Hx4 fun ClassP8 ClassL9 ClassC10 =>
 (bif (decide ((b6 : Int) < (ClassL9 : Int))) then
 ∃ (I11 : Int → Int → Hp → Prop) (m12 : Int → Int → Hp → Nat), I11 n5 0 Hx4 ∧ ∀ n14 : Int, ∀ i15 : Int, ∀ Hx13 : Hp, I11 n14 i15 Hx13 →
 (bif (decide ((i15 : Int) < 16)) then
 ∀ R16 : Int → Hp → Prop, (∀ n18 : Int, ∀ Hx17 : Hp, (
 I11 n18 (IntKind.i64.wrap (i15 + 1)) Hx17 ∧ m12 n18 (IntKind.i64.wrap (i15 + 1)) Hx17 < m12 n14 i15 Hx13) → R16 n18 Hx17) →
 nilP a1 fun aa19 =>
 ldSl (aa19.add 1) Hx13 fun TakenP20 TakenL21 TakenC22 =>
 idxA TakenP20 TakenL21 b6 16 fun el23 =>
 idxA (some el23) 16 i15 1 fun el24 =>
 ldB el24 Hx13 fun t25 =>
 (bif t25 then
 nilP a1 fun aa26 =>
 ldSl aa26 Hx13 fun ClassP27 ClassL28 ClassC29 =>
 idxA ClassP27 ClassL28 b6 1 fun el30 =>
 ldI .i64 el30 Hx13 fun t31 =>
 R16 (IntKind.i64.wrap (n14 + t31)) Hx13
else
 R16 n14 Hx13)
else
 I2 n14 (IntKind.i64.wrap (b6 + 1)) Hx13 ∧ m3 n14 (IntKind.i64.wrap (b6 + 1)) Hx13 < m3 n5 b6 Hx4)
else
 K (.int .i64 n5) Hx4)
theorem E_ref7_Arena_Used (a1 : Option Addr) (H : Hp) (K : Value → Hp → Prop) : B_ref7_Arena_Used a1 H K = denF Try.prog Try.f15 (.seq none .n (.seq none .n (.seq none (.seq none .n (.sub (.loop ⟨[(3, .int .i64), (4, .int .i64)], [0]⟩ (.seq none .n (.seq none (.sub (.seq none .n (.sub (.loop ⟨[(3, .int .i64), (5, .int .i64)], [0, 4]⟩ (.seq none .n (.seq (some ⟨[(3, .int .i64)], [0, 4, 5]⟩) .n .n)))))) .n))))) .n))) [(.pointer a1)] H K := by kernel_rfl
theorem den_ref7_Arena_Used {a1 : Option Addr} {H : Hp} {K : Value → Hp → Prop} (h : B_ref7_Arena_Used a1 H K) : hcall PR f_ref7_Arena_Used ⟨[(.pointer a1)]⟩ H K := denF_call Try.func15 PR_mixed (Eq.mp (E_ref7_Arena_Used a1 H K) h)

def B_arena_Arena_Room (a1 : Option Addr) (size2 : Int) (H : Hp) (K : Value → Hp → Prop) : Prop :=
 hcall PR f_arena_Class ⟨[(.int .i64 size2)]⟩ H fun v3 Hx4 =>
 asI .i64 v3 fun t5 =>
 (bif ((t5 : Int) == 0) then
 K (.int .i64 0) Hx4
else
 nilP a1 fun aa6 =>
 ldSl aa6 Hx4 fun classP7 classL8 classC9 =>
 ∃ (I10 : Int → Int → Hp → Prop) (m11 : Int → Int → Hp → Nat), I10 0 0 Hx4 ∧ ∀ n13 : Int, ∀ t14 : Int, ∀ Hx12 : Hp, I10 n13 t14 Hx12 →
 (bif (decide ((t14 : Int) < (classL8 : Int))) then
 ∀ R15 : Int → Hp → Prop, (∀ n17 : Int, ∀ Hx16 : Hp, (
 I10 n17 (IntKind.i64.wrap (t14 + 1)) Hx16 ∧ m11 n17 (IntKind.i64.wrap (t14 + 1)) Hx16 < m11 n13 t14 Hx12) → R15 n17 Hx16) →
 idxA classP7 classL8 t14 1 fun el18 =>
 ldI .i64 el18 Hx12 fun t19 =>
 (bif ((t19 : Int) == 0) then
 (t5 : Int) ≠ 0 ∧
 R15 (IntKind.i64.wrap (n13 + (IntKind.i64.wrap (Int.tdiv 16 t5)))) Hx12
else
 (bif ((t19 : Int) == t5) then
 (t5 : Int) ≠ 0 ∧
 nilP a1 fun aa20 =>
 ldSl (aa20.add 1) Hx12 fun takenP21 takenL22 takenC23 =>
 idxA takenP21 takenL22 t14 1 fun el24 =>
 ldI .u16 el24 Hx12 fun t25 =>
 hcall PR f_arena_bits ⟨[(.int .u16 t25)]⟩ Hx12 fun v26 Hx27 =>
 asI .i64 v26 fun t28 =>
 R15 (IntKind.i64.wrap (n13 + (IntKind.i64.wrap ((IntKind.i64.wrap (Int.tdiv 16 t5)) - t28)))) Hx27
else
 R15 n13 Hx12))
else
 K (.int .i64 n13) Hx12))
theorem E_arena_Arena_Room (a1 : Option Addr) (size2 : Int) (H : Hp) (K : Value → Hp → Prop) : B_arena_Arena_Room a1 size2 H K = denF Try.prog Try.f16 (.seq none .n (.seq none .n (.seq none .n (.seq none .n (.seq none (.seq none .n (.sub (.loop ⟨[(6, .int .i64), (18, .int .i64)], [0, 5, 16, 17]⟩ (.seq none .n (.seq none .n (.seq (some ⟨[(6, .int .i64)], [0, 5, 16, 17, 18]⟩) .n .n)))))) .n))))) [(.pointer a1), (.int .i64 size2)] H K := by kernel_rfl
theorem den_arena_Arena_Room {a1 : Option Addr} {size2 : Int} {H : Hp} {K : Value → Hp → Prop} (h : B_arena_Arena_Room a1 size2 H K) : hcall PR f_arena_Arena_Room ⟨[(.pointer a1), (.int .i64 size2)]⟩ H K := denF_call Try.func16 PR_mixed (Eq.mp (E_arena_Arena_Room a1 size2 H K) h)

def B_ref7_Arena_Room (a1 : Option Addr) (size2 : Int) (H : Hp) (K : Value → Hp → Prop) : Prop :=
 hcall PR f_ref7_Class ⟨[(.int .i64 size2)]⟩ H fun v3 Hx4 =>
 asI .i64 v3 fun t5 =>
 ∃ (I6 : Int → Int → Hp → Prop) (m7 : Int → Int → Hp → Nat), I6 0 0 Hx4 ∧ ∀ n9 : Int, ∀ b10 : Int, ∀ Hx8 : Hp, I6 n9 b10 Hx8 →
 nilP a1 fun aa11 =>
 ldSl aa11 Hx8 fun ClassP12 ClassL13 ClassC14 =>
 (bif (decide ((b10 : Int) < (ClassL13 : Int))) then
 (bif (decide ((t5 : Int) > 0)) then
 ∃ (I15 : Int → Int → Hp → Prop) (m16 : Int → Int → Hp → Nat), I15 n9 0 Hx8 ∧ ∀ n18 : Int, ∀ i19 : Int, ∀ Hx17 : Hp, I15 n18 i19 Hx17 →
 (t5 : Int) ≠ 0 ∧
 (bif (decide ((i19 : Int) < (IntKind.i64.wrap (Int.tdiv 16 t5)))) then
 ∀ R20 : Int → Hp → Prop, (∀ n22 : Int, ∀ Hx21 : Hp, (
 I15 n22 (IntKind.i64.wrap (i19 + 1)) Hx21 ∧ m16 n22 (IntKind.i64.wrap (i19 + 1)) Hx21 < m16 n18 i19 Hx17) → R20 n22 Hx21) →
 nilP a1 fun aa23 =>
 ldSl aa23 Hx17 fun ClassP24 ClassL25 ClassC26 =>
 idxA ClassP24 ClassL25 b10 1 fun el27 =>
 ldI .i64 el27 Hx17 fun t28 =>
 (bif ((t28 : Int) == 0) then
 R20 (IntKind.i64.wrap (n18 + 1)) Hx17
else
 nilP a1 fun aa29 =>
 ldSl aa29 Hx17 fun ClassP30 ClassL31 ClassC32 =>
 idxA ClassP30 ClassL31 b10 1 fun el33 =>
 ldI .i64 el33 Hx17 fun t34 =>
 (bif ((t34 : Int) == t5) then
 nilP a1 fun aa35 =>
 ldSl (aa35.add 1) Hx17 fun TakenP36 TakenL37 TakenC38 =>
 idxA TakenP36 TakenL37 b10 16 fun el39 =>
 idxA (some el39) 16 i19 1 fun el40 =>
 ldB el40 Hx17 fun t41 =>
 (bif (!t41) then
 R20 (IntKind.i64.wrap (n18 + 1)) Hx17
else
 R20 n18 Hx17)
else
 R20 n18 Hx17))
else
 I6 n18 (IntKind.i64.wrap (b10 + 1)) Hx17 ∧ m7 n18 (IntKind.i64.wrap (b10 + 1)) Hx17 < m7 n9 b10 Hx8)
else
 K (.int .i64 n9) Hx8)
else
 K (.int .i64 n9) Hx8)
theorem E_ref7_Arena_Room (a1 : Option Addr) (size2 : Int) (H : Hp) (K : Value → Hp → Prop) : B_ref7_Arena_Room a1 size2 H K = denF Try.prog Try.f17 (.seq none .n (.seq none .n (.seq none .n (.seq none (.seq none .n (.sub (.loop ⟨[(6, .int .i64), (7, .int .i64)], [0, 5]⟩ (.seq none .n (.seq none (.sub (.seq none .n (.sub (.loop ⟨[(6, .int .i64), (8, .int .i64)], [0, 5, 7]⟩ (.seq none .n (.seq (some ⟨[(6, .int .i64)], [0, 5, 7, 8]⟩) .n .n)))))) .n))))) .n)))) [(.pointer a1), (.int .i64 size2)] H K := by kernel_rfl
theorem den_ref7_Arena_Room {a1 : Option Addr} {size2 : Int} {H : Hp} {K : Value → Hp → Prop} (h : B_ref7_Arena_Room a1 size2 H K) : hcall PR f_ref7_Arena_Room ⟨[(.pointer a1), (.int .i64 size2)]⟩ H K := denF_call Try.func17 PR_mixed (Eq.mp (E_ref7_Arena_Room a1 size2 H K) h)

def B_arena_Arena_Blocks (a1 : Option Addr) (H : Hp) (K : Value → Hp → Prop) : Prop :=
 newB (.cells #[] ty_int) H fun b2 Hx3 =>
 nilP a1 fun aa4 =>
 ldSl aa4 Hx3 fun classP5 classL6 classC7 =>
 evW PR (Builtin.append_ #[ty_Sint, ty_Sint] ty_Sint #[(.slice (some ⟨b2, 0, none⟩) 0 0), (.slice classP5 classL6 classC7)]) Hx3 fun v8 Hx9 =>
 asSl v8 fun tP10 tL11 tC12 =>
 K (.slice tP10 tL11 tC12) Hx9
theorem E_arena_Arena_Blocks (a1 : Option Addr) (H : Hp) (K : Value → Hp → Prop) : B_arena_Arena_Blocks a1 H K = denF Try.prog Try.f18 .n [(.pointer a1)] H K := by kernel_rfl
theorem den_arena_Arena_Blocks {a1 : Option Addr} {H : Hp} {K : Value → Hp → Prop} (h : B_arena_Arena_Blocks a1 H K) : hcall PR f_arena_Arena_Blocks ⟨[(.pointer a1)]⟩ H K := denF_call Try.func18 PR_mixed (Eq.mp (E_arena_Arena_Blocks a1 H K) h)

def B_law7_ints (aP1 : Option Addr) (aL2 : Nat) (aC3 : Nat) (bP4 : Option Addr) (bL5 : Nat) (bC6 : Nat) (H : Hp) (K : Value → Hp → Prop) : Prop :=
 (bif (((aL2 : Int) : Int) != (bL5 : Int)) then
 K (.bool false) H
else
 ∃ (I7 : Int → Hp → Prop) (m8 : Int → Hp → Nat), I7 0 H ∧ ∀ i10 : Int, ∀ Hx9 : Hp, I7 i10 Hx9 →
 (bif (decide ((i10 : Int) < (aL2 : Int))) then
 idxA aP1 aL2 i10 1 fun el11 =>
 ldI .i64 el11 Hx9 fun t12 =>
 idxA bP4 bL5 i10 1 fun el13 =>
 ldI .i64 el13 Hx9 fun t14 =>
 (bif ((t12 : Int) != t14) then
 K (.bool false) Hx9
else
 I7 (IntKind.i64.wrap (i10 + 1)) Hx9 ∧ m8 (IntKind.i64.wrap (i10 + 1)) Hx9 < m8 i10 Hx9)
else
 K (.bool true) Hx9))
theorem E_law7_ints (aP1 : Option Addr) (aL2 : Nat) (aC3 : Nat) (bP4 : Option Addr) (bL5 : Nat) (bC6 : Nat) (H : Hp) (K : Value → Hp → Prop) : B_law7_ints aP1 aL2 aC3 bP4 bL5 bC6 H K = denF Try.prog Try.f19 (.seq none .n (.seq none .n (.seq none (.seq none .n (.sub (.loop ⟨[(5, .int .i64)], [0, 1]⟩ .n))) .n))) [(.slice aP1 aL2 aC3), (.slice bP4 bL5 bC6)] H K := by kernel_rfl
theorem den_law7_ints {aP1 : Option Addr} {aL2 : Nat} {aC3 : Nat} {bP4 : Option Addr} {bL5 : Nat} {bC6 : Nat} {H : Hp} {K : Value → Hp → Prop} (h : B_law7_ints aP1 aL2 aC3 bP4 bL5 bC6 H K) : hcall PR f_law7_ints ⟨[(.slice aP1 aL2 aC3), (.slice bP4 bL5 bC6)]⟩ H K := denF_call Try.func19 PR_mixed (Eq.mp (E_law7_ints aP1 aL2 aC3 bP4 bL5 bC6 H K) h)

def B_arena_Class (size1 : Int) (H : Hp) (K : Value → Hp → Prop) : Prop :=
 (bif (decide ((size1 : Int) < 1)) then
 K (.int .i64 0) H
else
 (bif (decide ((size1 : Int) > 16)) then
 K (.int .i64 0) H
else
 ∃ (I2 : Int → Hp → Prop) (m3 : Int → Hp → Nat), I2 1 H ∧ ∀ c5 : Int, ∀ Hx4 : Hp, I2 c5 Hx4 →
 (bif (decide ((c5 : Int) < size1)) then
 (0 : Int) ≤ 1 ∧
 I2 (shlI .i64 c5 1) Hx4 ∧ m3 (shlI .i64 c5 1) Hx4 < m3 c5 Hx4
else
 K (.int .i64 c5) Hx4)))
theorem E_arena_Class (size1 : Int) (H : Hp) (K : Value → Hp → Prop) : B_arena_Class size1 H K = denF Try.prog Try.f20 (.seq none .n (.seq none .n (.seq none .n (.seq none (.sub (.loop ⟨[(3, .int .i64)], [0]⟩ .n)) .n)))) [(.int .i64 size1)] H K := by kernel_rfl
theorem den_arena_Class {size1 : Int} {H : Hp} {K : Value → Hp → Prop} (h : B_arena_Class size1 H K) : hcall PR f_arena_Class ⟨[(.int .i64 size1)]⟩ H K := denF_call Try.func20 PR_mixed (Eq.mp (E_arena_Class size1 H K) h)

def B_arena_full (classx1 : Int) (H : Hp) (K : Value → Hp → Prop) : Prop :=
 (classx1 : Int) ≠ 0 ∧
 (0 : Int) ≤ (IntKind.i64.wrap (Int.tdiv 16 classx1)) ∧
 K (.int .u16 (IntKind.u16.wrap ((shlI .u16 1 (IntKind.i64.wrap (Int.tdiv 16 classx1))) - 1))) H
theorem E_arena_full (classx1 : Int) (H : Hp) (K : Value → Hp → Prop) : B_arena_full classx1 H K = denF Try.prog Try.f21 .n [(.int .i64 classx1)] H K := by kernel_rfl
theorem den_arena_full {classx1 : Int} {H : Hp} {K : Value → Hp → Prop} (h : B_arena_full classx1 H K) : hcall PR f_arena_full ⟨[(.int .i64 classx1)]⟩ H K := denF_call Try.func21 PR_mixed (Eq.mp (E_arena_full classx1 H K) h)

def B_arena_Arena_take (a1 : Option Addr) (b2 : Int) (H : Hp) (K : Value → Hp → Prop) : Prop :=
 ∃ (I3 : Int → Hp → Prop) (m4 : Int → Hp → Nat), I3 0 H ∧ ∀ k6 : Int, ∀ Hx5 : Hp, I3 k6 Hx5 →
 nilP a1 fun aa7 =>
 ldSl (aa7.add 1) Hx5 fun takenP8 takenL9 takenC10 =>
 idxA takenP8 takenL9 b2 1 fun el11 =>
 ldI .u16 el11 Hx5 fun t12 =>
 (0 : Int) ≤ k6 ∧
 (bif (((bitOp .and .u16 (shrI .u16 t12 k6) 1) : Int) == 1) then
 I3 (IntKind.i64.wrap (k6 + 1)) Hx5 ∧ m4 (IntKind.i64.wrap (k6 + 1)) Hx5 < m4 k6 Hx5
else
 nilP a1 fun aa13 =>
 ldSl (aa13.add 1) Hx5 fun takenP14 takenL15 takenC16 =>
 idxA takenP14 takenL15 b2 1 fun el17 =>
 ldI .u16 el17 Hx5 fun t18 =>
 (0 : Int) ≤ k6 ∧
 idxA takenP14 takenL15 b2 1 fun el19 =>
 st el19 (.int .u16 (bitOp .or .u16 t18 (shlI .u16 1 k6))) Hx5 fun Hx20 =>
 nilP a1 fun aa21 =>
 ldSl aa21 Hx20 fun classP22 classL23 classC24 =>
 idxA classP22 classL23 b2 1 fun el25 =>
 ldI .i64 el25 Hx20 fun t26 =>
 K (.int .i64 (IntKind.i64.wrap ((IntKind.i64.wrap (b2 * 16)) + (IntKind.i64.wrap (k6 * t26))))) Hx20)
theorem E_arena_Arena_take (a1 : Option Addr) (b2 : Int) (H : Hp) (K : Value → Hp → Prop) : B_arena_Arena_take a1 b2 H K = denF Try.prog Try.f22 (.seq none .n (.seq none .n (.seq none (.sub (.loop ⟨[(5, .int .i64)], [0, 1]⟩ .n)) .n))) [(.pointer a1), (.int .i64 b2)] H K := by kernel_rfl
theorem den_arena_Arena_take {a1 : Option Addr} {b2 : Int} {H : Hp} {K : Value → Hp → Prop} (h : B_arena_Arena_take a1 b2 H K) : hcall PR f_arena_Arena_take ⟨[(.pointer a1), (.int .i64 b2)]⟩ H K := denF_call Try.func22 PR_mixed (Eq.mp (E_arena_Arena_take a1 b2 H K) h)

def B_ref7_Class (size1 : Int) (H : Hp) (K : Value → Hp → Prop) : Prop :=
 ∃ (I2 : Int → Hp → Prop) (m3 : Int → Hp → Nat), I2 1 H ∧ ∀ c5 : Int, ∀ Hx4 : Hp, I2 c5 Hx4 →
 (bif (decide ((c5 : Int) ≤ 16)) then
 ∀ R6 : Hp → Prop, (∀ Hx7 : Hp, (
 I2 (IntKind.i64.wrap (2 * c5)) Hx7 ∧ m3 (IntKind.i64.wrap (2 * c5)) Hx7 < m3 c5 Hx4) → R6 Hx7) →
 (bif (decide ((size1 : Int) ≥ 1)) then
 (bif (decide ((size1 : Int) ≤ c5)) then
 K (.int .i64 c5) Hx4
else
 R6 Hx4)
else
 R6 Hx4)
else
 K (.int .i64 0) Hx4)
theorem E_ref7_Class (size1 : Int) (H : Hp) (K : Value → Hp → Prop) : B_ref7_Class size1 H K = denF Try.prog Try.f23 (.seq none .n (.seq none (.seq none .n (.sub (.loop ⟨[(3, .int .i64)], [0]⟩ (.seq none .n (.seq (some ⟨[], [0, 3]⟩) .n .n))))) .n)) [(.int .i64 size1)] H K := by kernel_rfl
theorem den_ref7_Class {size1 : Int} {H : Hp} {K : Value → Hp → Prop} (h : B_ref7_Class size1 H K) : hcall PR f_ref7_Class ⟨[(.int .i64 size1)]⟩ H K := denF_call Try.func23 PR_mixed (Eq.mp (E_ref7_Class size1 H K) h)


end Go.Proofs.Ytdeihhfhcnhmfab
