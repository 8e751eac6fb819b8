/- PRINTED by gen.py: functions as plain propositions, held against the program by the kernel. No condition. -/
import Derived.Test.YtohlnmenghbgbaaDenN
namespace Go.Proofs.Ytohlnmenghbgbaa
open Go
set_option linter.unusedVariables false
set_option maxRecDepth 100000

def B_hand_Pick (n1 : Int) (m2 : Int) (H : Hp) (K : Value → Hp → Prop) : Prop :=
(m2 : Int) ≠ 0 ∧
(bif (decide (((Int.tmod n1 m2) : Int) < 0)) then
K (.int .i64 (IntKind.i64.wrap ((Int.tmod n1 m2) + m2))) H
else
K (.int .i64 (Int.tmod n1 m2)) H)
theorem E_hand_Pick (n1 : Int) (m2 : Int) (H : Hp) (K : Value → Hp → Prop) : B_hand_Pick n1 m2 H K = denF Try.prog Try.f34 .n [(.int .i64 n1), (.int .i64 m2)] H K := by kernel_rfl
theorem den_hand_Pick {n1 : Int} {m2 : Int} {H : Hp} {K : Value → Hp → Prop} (h : B_hand_Pick n1 m2 H K) : hcall PR f_hand_Pick ⟨[(.int .i64 n1), (.int .i64 m2)]⟩ H K := denF_call Try.func34 PR_mixed (Eq.mp (E_hand_Pick n1 m2 H K) h)

def B_hand_Graph_Heaps (gRefsP1 : Option Addr) (gRefsL2 : Nat) (gRefsC3 : Nat) (gOutP4 : Option Addr) (gOutL5 : Nat) (gOutC6 : Nat) (gInP7 : Option Addr) (gInL8 : Nat) (gInC9 : Nat) (most10 : Int) (H : Hp) (K : Value → Hp → Prop) : Prop :=
newB (.cells #[(.slice gRefsP1 gRefsL2 gRefsC3), (.slice gOutP4 gOutL5 gOutC6), (.slice gInP7 gInL8 gInC9)] ty_hand_Graph) H fun b11 Hx12 =>
ldSl ⟨b11, 0, none⟩ Hx12 fun RefsP13 RefsL14 RefsC15 =>
ldSl ⟨b11, 1, none⟩ Hx12 fun OutP16 OutL17 OutC18 =>
ldSl ⟨b11, 2, none⟩ Hx12 fun InP19 InL20 InC21 =>
hcall PR f_hand_Graph_Size ⟨[(.agg #[(.slice RefsP13 RefsL14 RefsC15), (.slice OutP16 OutL17 OutC18), (.slice InP19 InL20 InC21)]), (.int .i64 most10)]⟩ Hx12 fun v22 Hx23 =>
asI .i64 v22 fun t24 =>
hcall PR f_heap_New ⟨[(.int .i64 1), (.int .i64 4096), (.int .i64 64), (.int .u64 0)]⟩ Hx23 fun v25 Hx26 =>
tup2 v25 fun v27 v28 =>
asP v27 fun t29 =>
asI .i64 v28 fun t30 =>
hcall PR f_ref8_New ⟨[(.int .i64 1), (.int .i64 4096), (.int .i64 64), (.int .u64 0)]⟩ Hx26 fun v31 Hx32 =>
asP v31 fun t33 =>
(bif ((t30 : Int) != 0) then
K (.tuple #[(.pointer none), (.pointer none)]) Hx32
else
(bif (Option.isNone (α := Addr) t29) then
K (.tuple #[(.pointer none), (.pointer none)]) Hx32
else
(bif (Option.isNone (α := Addr) t33) then
K (.tuple #[(.pointer none), (.pointer none)]) Hx32
else
∃ (I34 : Int → Hp → Prop) (m35 : Int → Hp → Nat), I34 0 Hx32 ∧ ∀ i37 : Int, ∀ Hx36 : Hp, I34 i37 Hx36 →
(bif (decide ((i37 : Int) < t24)) then
ldSl ⟨b11, 0, none⟩ Hx36 fun RefsP38 RefsL39 RefsC40 =>
idxA RefsP38 RefsL39 i37 1 fun el41 =>
ldSl el41 Hx36 fun tP42 tL43 tC44 =>
hcall PR f_heap_Heap_Make ⟨[(.pointer t29), (.int .i64 (if 7 < (tL43 : Int) then 7 else (tL43 : Int))), (.int .i64 0)]⟩ Hx36 fun v45 Hx46 =>
tup2 v45 fun v47 v48 =>
asI .u64 v47 fun t49 =>
asI .i64 v48 fun t50 =>
hcall PR f_ref8_Heap_Make ⟨[(.pointer t33), (.int .i64 (if 7 < (tL43 : Int) then 7 else (tL43 : Int))), (.int .i64 0)]⟩ Hx46 fun v51 Hx52 =>
tup2 v51 fun v53 v54 =>
asI .u64 v53 fun t55 =>
asI .i64 v54 fun t56 =>
(bif ((t50 : Int) != 0) then
K (.tuple #[(.pointer none), (.pointer none)]) Hx52
else
(bif ((t49 : Int) != t55) then
K (.tuple #[(.pointer none), (.pointer none)]) Hx52
else
I34 (IntKind.i64.wrap (i37 + 1)) Hx52 ∧ m35 (IntKind.i64.wrap (i37 + 1)) Hx52 < m35 i37 Hx36))
else
∃ (I57 : Int → Hp → Prop) (m58 : Int → Hp → Nat), I57 0 Hx36 ∧ ∀ i60 : Int, ∀ Hx59 : Hp, I57 i60 Hx59 →
(bif (decide ((i60 : Int) < t24)) then
∀ R61 : Hp → Prop, (∀ Hx62 : Hp, (
ldSl ⟨b11, 0, none⟩ Hx62 fun RefsP63 RefsL64 RefsC65 =>
ldSl ⟨b11, 1, none⟩ Hx62 fun OutP66 OutL67 OutC68 =>
ldSl ⟨b11, 2, none⟩ Hx62 fun InP69 InL70 InC71 =>
hcall PR f_hand_Graph_Dist ⟨[(.agg #[(.slice RefsP63 RefsL64 RefsC65), (.slice OutP66 OutL67 OutC68), (.slice InP69 InL70 InC71)]), (.int .i64 i60)]⟩ Hx62 fun v72 Hx73 =>
asI .i64 v72 fun t74 =>
hcall PR f_heap_Heap_SetIn ⟨[(.pointer t29), (.int .u64 (IntKind.u64.wrap (IntKind.i64.wrap (i60 + 1)))), (.int .i64 t74)]⟩ Hx73 fun v75 Hx76 =>
asI .i64 v75 fun t77 =>
ldSl ⟨b11, 0, none⟩ Hx76 fun RefsP78 RefsL79 RefsC80 =>
ldSl ⟨b11, 1, none⟩ Hx76 fun OutP81 OutL82 OutC83 =>
ldSl ⟨b11, 2, none⟩ Hx76 fun InP84 InL85 InC86 =>
hcall PR f_hand_Graph_Dist ⟨[(.agg #[(.slice RefsP78 RefsL79 RefsC80), (.slice OutP81 OutL82 OutC83), (.slice InP84 InL85 InC86)]), (.int .i64 i60)]⟩ Hx76 fun v87 Hx88 =>
asI .i64 v87 fun t89 =>
hcall PR f_ref8_Heap_SetIn ⟨[(.pointer t33), (.int .u64 (IntKind.u64.wrap (IntKind.i64.wrap (i60 + 1)))), (.int .i64 t89)]⟩ Hx88 fun v90 Hx91 =>
asI .i64 v90 fun t92 =>
I57 (IntKind.i64.wrap (i60 + 1)) Hx91 ∧ m58 (IntKind.i64.wrap (i60 + 1)) Hx91 < m58 i60 Hx59) → R61 Hx62) →
∃ (I93 : Int → Hp → Prop) (m94 : Int → Hp → Nat), I93 0 Hx59 ∧ ∀ k96 : Int, ∀ Hx95 : Hp, I93 k96 Hx95 →
ldSl ⟨b11, 0, none⟩ Hx95 fun RefsP97 RefsL98 RefsC99 =>
idxA RefsP97 RefsL98 i60 1 fun el100 =>
ldSl el100 Hx95 fun tP101 tL102 tC103 =>
(bif (decide ((k96 : Int) < (tL102 : Int))) then
(bif (decide ((k96 : Int) < 7)) then
ldSl ⟨b11, 0, none⟩ Hx95 fun RefsP104 RefsL105 RefsC106 =>
ldSl ⟨b11, 1, none⟩ Hx95 fun OutP107 OutL108 OutC109 =>
ldSl ⟨b11, 2, none⟩ Hx95 fun InP110 InL111 InC112 =>
hcall PR f_hand_Graph_Target ⟨[(.agg #[(.slice RefsP104 RefsL105 RefsC106), (.slice OutP107 OutL108 OutC109), (.slice InP110 InL111 InC112)]), (.int .i64 i60), (.int .i64 k96), (.int .i64 t24)]⟩ Hx95 fun v113 Hx114 =>
agg2 v113 fun v115 v116 =>
asI .i64 v115 fun Node117 =>
asI .u64 v116 fun Serial118 =>
newB (.cells #[(.int .i64 0), (.int .u64 0)] ty_api_ID) Hx114 fun b119 Hx120 =>
st ⟨b119, 0, none⟩ (.int .i64 Node117) Hx120 fun Hx121 =>
st ⟨b119, 1, none⟩ (.int .u64 Serial118) Hx121 fun Hx122 =>
ldI .i64 ⟨b119, 0, none⟩ Hx122 fun Node123 =>
ldI .u64 ⟨b119, 1, none⟩ Hx122 fun Serial124 =>
hcall PR f_heap_Heap_SetRef ⟨[(.pointer t29), (.int .u64 (IntKind.u64.wrap (IntKind.i64.wrap (i60 + 1)))), (.int .i64 k96), (.agg #[(.int .i64 Node123), (.int .u64 Serial124)])]⟩ Hx122 fun v125 Hx126 =>
tup2 v125 fun v127 v128 =>
agg2 v127 fun v129 v130 =>
asI .i64 v129 fun Node131 =>
asI .u64 v130 fun Serial132 =>
asI .i64 v128 fun t133 =>
ldI .i64 ⟨b119, 0, none⟩ Hx126 fun Node134 =>
ldI .u64 ⟨b119, 1, none⟩ Hx126 fun Serial135 =>
hcall PR f_ref8_Heap_SetRef ⟨[(.pointer t33), (.int .u64 (IntKind.u64.wrap (IntKind.i64.wrap (i60 + 1)))), (.int .i64 k96), (.agg #[(.int .i64 Node134), (.int .u64 Serial135)])]⟩ Hx126 fun v136 Hx137 =>
tup2 v136 fun v138 v139 =>
agg2 v138 fun v140 v141 =>
asI .i64 v140 fun Node142 =>
asI .u64 v141 fun Serial143 =>
asI .i64 v139 fun t144 =>
I93 (IntKind.i64.wrap (k96 + 1)) Hx137 ∧ m94 (IntKind.i64.wrap (k96 + 1)) Hx137 < m94 k96 Hx95
else
R61 Hx95)
else
R61 Hx95)
else
K (.tuple #[(.pointer t29), (.pointer t33)]) Hx59)))))
theorem E_hand_Graph_Heaps (gRefsP1 : Option Addr) (gRefsL2 : Nat) (gRefsC3 : Nat) (gOutP4 : Option Addr) (gOutL5 : Nat) (gOutC6 : Nat) (gInP7 : Option Addr) (gInL8 : Nat) (gInC9 : Nat) (most10 : Int) (H : Hp) (K : Value → Hp → Prop) : B_hand_Graph_Heaps gRefsP1 gRefsL2 gRefsC3 gOutP4 gOutL5 gOutC6 gInP7 gInL8 gInC9 most10 H K = denF Try.prog Try.f43 (.seq none .n (.seq none .n (.seq none .n (.seq none .n (.seq none .n (.seq none (.seq none .n (.sub (.loop ⟨[(10, .int .i64)], [2, 6, 7, 9]⟩ .n))) (.seq none (.seq none .n (.sub (.loop ⟨[(16, .int .i64)], [2, 6, 7, 9]⟩ (.seq none .n (.seq none (.sub (.seq (some ⟨[], [2, 6, 7, 9, 16]⟩) (.seq none .n (.sub (.loop ⟨[(17, .int .i64)], [2, 6, 7, 9, 16]⟩ .n))) .n)) .n))))) .n))))))) [(.agg #[(.slice gRefsP1 gRefsL2 gRefsC3), (.slice gOutP4 gOutL5 gOutC6), (.slice gInP7 gInL8 gInC9)]), (.int .i64 most10)] H K := by kernel_rfl
theorem den_hand_Graph_Heaps {gRefsP1 : Option Addr} {gRefsL2 : Nat} {gRefsC3 : Nat} {gOutP4 : Option Addr} {gOutL5 : Nat} {gOutC6 : Nat} {gInP7 : Option Addr} {gInL8 : Nat} {gInC9 : Nat} {most10 : Int} {H : Hp} {K : Value → Hp → Prop} (h : B_hand_Graph_Heaps gRefsP1 gRefsL2 gRefsC3 gOutP4 gOutL5 gOutC6 gInP7 gInL8 gInC9 most10 H K) : hcall PR f_hand_Graph_Heaps ⟨[(.agg #[(.slice gRefsP1 gRefsL2 gRefsC3), (.slice gOutP4 gOutL5 gOutC6), (.slice gInP7 gInL8 gInC9)]), (.int .i64 most10)]⟩ H K := denF_call Try.func43 PR_mixed (Eq.mp (E_hand_Graph_Heaps gRefsP1 gRefsL2 gRefsC3 gOutP4 gOutL5 gOutC6 gInP7 gInL8 gInC9 most10 H K) h)

def B_hand_Graph_Target (gRefsP1 : Option Addr) (gRefsL2 : Nat) (gRefsC3 : Nat) (gOutP4 : Option Addr) (gOutL5 : Nat) (gOutC6 : Nat) (gInP7 : Option Addr) (gInL8 : Nat) (gInC9 : Nat) (i10 : Int) (k11 : Int) (n12 : Int) (H : Hp) (K : Value → Hp → Prop) : Prop :=
newB (.cells #[(.slice gRefsP1 gRefsL2 gRefsC3), (.slice gOutP4 gOutL5 gOutC6), (.slice gInP7 gInL8 gInC9)] ty_hand_Graph) H fun b13 Hx14 =>
newB (.cells #[(.int .i64 0), (.int .u64 0)] ty_api_ID) Hx14 fun b15 Hx16 =>
ldSl ⟨b13, 0, none⟩ Hx16 fun RefsP17 RefsL18 RefsC19 =>
idxA RefsP17 RefsL18 i10 1 fun el20 =>
ldSl el20 Hx16 fun tP21 tL22 tC23 =>
idxA tP21 tL22 k11 1 fun el24 =>
ldI .i64 el24 Hx16 fun t25 =>
∀ R26 : Bool → Hp → Prop, (∀ out28 : Bool, ∀ Hx27 : Hp, (
(5 : Int) ≠ 0 ∧
(bif (((Int.tmod t25 5) : Int) == 0) then
st ⟨b15, 0, none⟩ (.int .i64 0) Hx27 fun Hx29 =>
st ⟨b15, 1, none⟩ (.int .u64 0) Hx29 fun Hx30 =>
ldI .i64 ⟨b15, 0, none⟩ Hx30 fun Node31 =>
ldI .u64 ⟨b15, 1, none⟩ Hx30 fun Serial32 =>
K (.agg #[(.int .i64 Node31), (.int .u64 Serial32)]) Hx30
else
(bif out28 then
hcall PR f_hand_Pick ⟨[(.int .i64 t25), (.int .i64 2)]⟩ Hx27 fun v33 Hx34 =>
asI .i64 v33 fun t35 =>
(2 : Int) ≠ 0 ∧
hcall PR f_hand_Pick ⟨[(.int .i64 (IntKind.i64.wrap (Int.tdiv t25 2))), (.int .i64 4)]⟩ Hx34 fun v36 Hx37 =>
asI .i64 v36 fun t38 =>
st ⟨b15, 0, none⟩ (.int .i64 (IntKind.i64.wrap (2 + t35))) Hx37 fun Hx39 =>
st ⟨b15, 1, none⟩ (.int .u64 (IntKind.u64.wrap (IntKind.i64.wrap (1 + t38)))) Hx39 fun Hx40 =>
ldI .i64 ⟨b15, 0, none⟩ Hx40 fun Node41 =>
ldI .u64 ⟨b15, 1, none⟩ Hx40 fun Serial42 =>
K (.agg #[(.int .i64 Node41), (.int .u64 Serial42)]) Hx40
else
hcall PR f_hand_Pick ⟨[(.int .i64 t25), (.int .i64 n12)]⟩ Hx27 fun v43 Hx44 =>
asI .i64 v43 fun t45 =>
st ⟨b15, 0, none⟩ (.int .i64 1) Hx44 fun Hx46 =>
st ⟨b15, 1, none⟩ (.int .u64 (IntKind.u64.wrap (IntKind.i64.wrap (1 + t45)))) Hx46 fun Hx47 =>
ldI .i64 ⟨b15, 0, none⟩ Hx47 fun Node48 =>
ldI .u64 ⟨b15, 1, none⟩ Hx47 fun Serial49 =>
K (.agg #[(.int .i64 Node48), (.int .u64 Serial49)]) Hx47))) → R26 out28 Hx27) →
ldSl ⟨b13, 1, none⟩ Hx16 fun OutP50 OutL51 OutC52 =>
(bif (decide (((OutL51 : Int) : Int) > 0)) then
ldSl ⟨b13, 1, none⟩ Hx16 fun OutP53 OutL54 OutC55 =>
ldSl ⟨b13, 1, none⟩ Hx16 fun OutP56 OutL57 OutC58 =>
hcall PR f_hand_Pick ⟨[(.int .i64 (IntKind.i64.wrap ((IntKind.i64.wrap (7 * i10)) + k11))), (.int .i64 (OutL57 : Int))]⟩ Hx16 fun v59 Hx60 =>
asI .i64 v59 fun t61 =>
(ldSl ⟨b13, 1, none⟩ Hx60 fun OutP62 OutL63 OutC64 =>
((.slice OutP62 OutL63 OutC64) : Value) = (.slice OutP53 OutL54 OutC55)) ∧
idxA OutP53 OutL54 t61 1 fun el65 =>
ldB el65 Hx60 fun t66 =>
R26 t66 Hx60
else
R26 false Hx16)
theorem E_hand_Graph_Target (gRefsP1 : Option Addr) (gRefsL2 : Nat) (gRefsC3 : Nat) (gOutP4 : Option Addr) (gOutL5 : Nat) (gOutC6 : Nat) (gInP7 : Option Addr) (gInL8 : Nat) (gInC9 : Nat) (i10 : Int) (k11 : Int) (n12 : Int) (H : Hp) (K : Value → Hp → Prop) : B_hand_Graph_Target gRefsP1 gRefsL2 gRefsC3 gOutP4 gOutL5 gOutC6 gInP7 gInL8 gInC9 i10 k11 n12 H K = denF Try.prog Try.f49 (.seq none .n (.seq none .n (.seq (some ⟨[(10, .bool)], [3, 8, 9]⟩) .n .n))) [(.agg #[(.slice gRefsP1 gRefsL2 gRefsC3), (.slice gOutP4 gOutL5 gOutC6), (.slice gInP7 gInL8 gInC9)]), (.int .i64 i10), (.int .i64 k11), (.int .i64 n12)] H K := by kernel_rfl
theorem den_hand_Graph_Target {gRefsP1 : Option Addr} {gRefsL2 : Nat} {gRefsC3 : Nat} {gOutP4 : Option Addr} {gOutL5 : Nat} {gOutC6 : Nat} {gInP7 : Option Addr} {gInL8 : Nat} {gInC9 : Nat} {i10 : Int} {k11 : Int} {n12 : Int} {H : Hp} {K : Value → Hp → Prop} (h : B_hand_Graph_Target gRefsP1 gRefsL2 gRefsC3 gOutP4 gOutL5 gOutC6 gInP7 gInL8 gInC9 i10 k11 n12 H K) : hcall PR f_hand_Graph_Target ⟨[(.agg #[(.slice gRefsP1 gRefsL2 gRefsC3), (.slice gOutP4 gOutL5 gOutC6), (.slice gInP7 gInL8 gInC9)]), (.int .i64 i10), (.int .i64 k11), (.int .i64 n12)]⟩ H K := denF_call Try.func49 PR_mixed (Eq.mp (E_hand_Graph_Target gRefsP1 gRefsL2 gRefsC3 gOutP4 gOutL5 gOutC6 gInP7 gInL8 gInC9 i10 k11 n12 H K) h)

def B_hand_Graph_Ranks (gRefsP1 : Option Addr) (gRefsL2 : Nat) (gRefsC3 : Nat) (gOutP4 : Option Addr) (gOutL5 : Nat) (gOutC6 : Nat) (gInP7 : Option Addr) (gInL8 : Nat) (gInC9 : Nat) (n10 : Int) (rootsP11 : Option Addr) (rootsL12 : Nat) (rootsC13 : Nat) (H : Hp) (K : Value → Hp → Prop) : Prop :=
newB (.cells #[(.slice gRefsP1 gRefsL2 gRefsC3), (.slice gOutP4 gOutL5 gOutC6), (.slice gInP7 gInL8 gInC9)] ty_hand_Graph) H fun b14 Hx15 =>
evW PR (Instr.makeSlice ty_Sint (.int .i64 (IntKind.i64.wrap (n10 + 1))) (.int .i64 (IntKind.i64.wrap (n10 + 1)))) Hx15 fun v16 Hx17 =>
asSl v16 fun mkP18 mkL19 mkC20 =>
∃ (I21 : Int → Hp → Prop) (m22 : Int → Hp → Nat), I21 0 Hx17 ∧ ∀ i24 : Int, ∀ Hx23 : Hp, I21 i24 Hx23 →
(bif (decide ((i24 : Int) ≤ n10)) then
∀ R25 : Hp → Prop, (∀ Hx26 : Hp, (
I21 (IntKind.i64.wrap (i24 + 1)) Hx26 ∧ m22 (IntKind.i64.wrap (i24 + 1)) Hx26 < m22 i24 Hx23) → R25 Hx26) →
idxA mkP18 mkL19 i24 1 fun el27 =>
st el27 (.int .i64 (-1)) Hx23 fun Hx28 =>
(bif (decide ((i24 : Int) > 0)) then
ldSl ⟨b14, 0, none⟩ Hx28 fun RefsP29 RefsL30 RefsC31 =>
ldSl ⟨b14, 1, none⟩ Hx28 fun OutP32 OutL33 OutC34 =>
ldSl ⟨b14, 2, none⟩ Hx28 fun InP35 InL36 InC37 =>
hcall PR f_hand_Graph_Dist ⟨[(.agg #[(.slice RefsP29 RefsL30 RefsC31), (.slice OutP32 OutL33 OutC34), (.slice InP35 InL36 InC37)]), (.int .i64 (IntKind.i64.wrap (i24 - 1)))]⟩ Hx28 fun v38 Hx39 =>
asI .i64 v38 fun t40 =>
(bif (decide ((t40 : Int) > 0)) then
ldSl ⟨b14, 0, none⟩ Hx39 fun RefsP41 RefsL42 RefsC43 =>
ldSl ⟨b14, 1, none⟩ Hx39 fun OutP44 OutL45 OutC46 =>
ldSl ⟨b14, 2, none⟩ Hx39 fun InP47 InL48 InC49 =>
hcall PR f_hand_Graph_Dist ⟨[(.agg #[(.slice RefsP41 RefsL42 RefsC43), (.slice OutP44 OutL45 OutC46), (.slice InP47 InL48 InC49)]), (.int .i64 (IntKind.i64.wrap (i24 - 1)))]⟩ Hx39 fun v50 Hx51 =>
asI .i64 v50 fun t52 =>
idxA mkP18 mkL19 i24 1 fun el53 =>
st el53 (.int .i64 t52) Hx51 fun Hx54 =>
R25 Hx54
else
R25 Hx39)
else
R25 Hx28)
else
∃ (I55 : Int → Hp → Prop) (m56 : Int → Hp → Nat), I55 0 Hx23 ∧ ∀ i58 : Int, ∀ Hx57 : Hp, I55 i58 Hx57 →
(bif (decide ((i58 : Int) < (rootsL12 : Int))) then
∀ R59 : Hp → Prop, (∀ Hx60 : Hp, (
I55 (IntKind.i64.wrap (i58 + 1)) Hx60 ∧ m56 (IntKind.i64.wrap (i58 + 1)) Hx60 < m56 i58 Hx57) → R59 Hx60) →
idxA rootsP11 rootsL12 i58 2 fun el61 =>
ldI .i64 el61 Hx57 fun Node62 =>
(bif ((Node62 : Int) == 1) then
idxA rootsP11 rootsL12 i58 2 fun el63 =>
ldI .u64 (el63.add 1) Hx57 fun Serial64 =>
(bif (decide ((Serial64 : Int) ≤ (IntKind.u64.wrap n10))) then
idxA rootsP11 rootsL12 i58 2 fun el65 =>
ldI .u64 (el65.add 1) Hx57 fun Serial66 =>
idxA mkP18 mkL19 Serial66 1 fun el67 =>
st el67 (.int .i64 0) Hx57 fun Hx68 =>
R59 Hx68
else
R59 Hx57)
else
R59 Hx57)
else
∃ (I69 : Int → Hp → Prop) (m70 : Int → Hp → Nat), I69 0 Hx57 ∧ ∀ round72 : Int, ∀ Hx71 : Hp, I69 round72 Hx71 →
(bif (decide ((round72 : Int) ≤ n10)) then
∃ (I73 : Int → Hp → Prop) (m74 : Int → Hp → Nat), I73 1 Hx71 ∧ ∀ i76 : Int, ∀ Hx75 : Hp, I73 i76 Hx75 →
(bif (decide ((i76 : Int) ≤ n10)) then
∀ R77 : Hp → Prop, (∀ Hx78 : Hp, (
I73 (IntKind.i64.wrap (i76 + 1)) Hx78 ∧ m74 (IntKind.i64.wrap (i76 + 1)) Hx78 < m74 i76 Hx75) → R77 Hx78) →
∃ (I79 : Int → Hp → Prop) (m80 : Int → Hp → Nat), I79 0 Hx75 ∧ ∀ k82 : Int, ∀ Hx81 : Hp, I79 k82 Hx81 →
idxA mkP18 mkL19 i76 1 fun el83 =>
ldI .i64 el83 Hx81 fun t84 =>
(bif (decide ((t84 : Int) ≥ 0)) then
ldSl ⟨b14, 0, none⟩ Hx81 fun RefsP85 RefsL86 RefsC87 =>
idxA RefsP85 RefsL86 (IntKind.i64.wrap (i76 - 1)) 1 fun el88 =>
ldSl el88 Hx81 fun tP89 tL90 tC91 =>
(bif (decide ((k82 : Int) < (tL90 : Int))) then
(bif (decide ((k82 : Int) < 7)) then
∀ R92 : Hp → Prop, (∀ Hx93 : Hp, (
I79 (IntKind.i64.wrap (k82 + 1)) Hx93 ∧ m80 (IntKind.i64.wrap (k82 + 1)) Hx93 < m80 k82 Hx81) → R92 Hx93) →
ldSl ⟨b14, 0, none⟩ Hx81 fun RefsP94 RefsL95 RefsC96 =>
ldSl ⟨b14, 1, none⟩ Hx81 fun OutP97 OutL98 OutC99 =>
ldSl ⟨b14, 2, none⟩ Hx81 fun InP100 InL101 InC102 =>
hcall PR f_hand_Graph_Target ⟨[(.agg #[(.slice RefsP94 RefsL95 RefsC96), (.slice OutP97 OutL98 OutC99), (.slice InP100 InL101 InC102)]), (.int .i64 (IntKind.i64.wrap (i76 - 1))), (.int .i64 k82), (.int .i64 n10)]⟩ Hx81 fun v103 Hx104 =>
agg2 v103 fun v105 v106 =>
asI .i64 v105 fun Node107 =>
asI .u64 v106 fun Serial108 =>
newB (.cells #[(.int .i64 0), (.int .u64 0)] ty_api_ID) Hx104 fun b109 Hx110 =>
st ⟨b109, 0, none⟩ (.int .i64 Node107) Hx110 fun Hx111 =>
st ⟨b109, 1, none⟩ (.int .u64 Serial108) Hx111 fun Hx112 =>
ldI .i64 ⟨b109, 0, none⟩ Hx112 fun Node113 =>
(bif ((Node113 : Int) == 1) then
ldI .u64 ⟨b109, 1, none⟩ Hx112 fun Serial114 =>
idxA mkP18 mkL19 Serial114 1 fun el115 =>
ldI .i64 el115 Hx112 fun t116 =>
(bif (decide ((t116 : Int) < 0)) then
ldI .u64 ⟨b109, 1, none⟩ Hx112 fun Serial117 =>
idxA mkP18 mkL19 i76 1 fun el118 =>
ldI .i64 el118 Hx112 fun t119 =>
idxA mkP18 mkL19 Serial117 1 fun el120 =>
st el120 (.int .i64 t119) Hx112 fun Hx121 =>
R92 Hx121
else
ldI .u64 ⟨b109, 1, none⟩ Hx112 fun Serial122 =>
idxA mkP18 mkL19 Serial122 1 fun el123 =>
ldI .i64 el123 Hx112 fun t124 =>
idxA mkP18 mkL19 i76 1 fun el125 =>
ldI .i64 el125 Hx112 fun t126 =>
(bif (decide ((t124 : Int) > t126)) then
ldI .u64 ⟨b109, 1, none⟩ Hx112 fun Serial127 =>
idxA mkP18 mkL19 i76 1 fun el128 =>
ldI .i64 el128 Hx112 fun t129 =>
idxA mkP18 mkL19 Serial127 1 fun el130 =>
st el130 (.int .i64 t129) Hx112 fun Hx131 =>
R92 Hx131
else
R92 Hx112))
else
R92 Hx112)
else
R77 Hx81)
else
R77 Hx81)
else
R77 Hx81)
else
I69 (IntKind.i64.wrap (round72 + 1)) Hx75 ∧ m70 (IntKind.i64.wrap (round72 + 1)) Hx75 < m70 round72 Hx71)
else
K (.slice mkP18 mkL19 mkC20) Hx71)))
theorem E_hand_Graph_Ranks (gRefsP1 : Option Addr) (gRefsL2 : Nat) (gRefsC3 : Nat) (gOutP4 : Option Addr) (gOutL5 : Nat) (gOutC6 : Nat) (gInP7 : Option Addr) (gInL8 : Nat) (gInC9 : Nat) (n10 : Int) (rootsP11 : Option Addr) (rootsL12 : Nat) (rootsC13 : Nat) (H : Hp) (K : Value → Hp → Prop) : B_hand_Graph_Ranks gRefsP1 gRefsL2 gRefsC3 gOutP4 gOutL5 gOutC6 gInP7 gInL8 gInC9 n10 rootsP11 rootsL12 rootsC13 H K = denF Try.prog Try.f70 (.seq none .n (.seq none .n (.seq none (.seq none .n (.sub (.loop ⟨[(8, .int .i64)], [1, 2, 3, 7]⟩ (.seq none .n (.seq (some ⟨[], [1, 2, 3, 7, 8]⟩) .n .n))))) (.seq none (.seq none .n (.sub (.loop ⟨[(9, .int .i64)], [1, 2, 3, 7]⟩ (.seq none .n (.seq (some ⟨[], [1, 2, 3, 7, 9]⟩) .n .n))))) (.seq none (.seq none .n (.sub (.loop ⟨[(10, .int .i64)], [1, 3, 7]⟩ (.seq none .n (.seq none (.sub (.seq none .n (.sub (.loop ⟨[(11, .int .i64)], [1, 3, 7, 10]⟩ (.seq none .n (.seq (some ⟨[], [1, 3, 7, 10, 11]⟩) (.sub (.seq none .n (.sub (.loop ⟨[(12, .int .i64)], [1, 3, 7, 10, 11]⟩ (.seq none .n (.seq (some ⟨[], [1, 3, 7, 10, 11, 12]⟩) .n .n)))))) .n)))))) .n))))) .n))))) [(.agg #[(.slice gRefsP1 gRefsL2 gRefsC3), (.slice gOutP4 gOutL5 gOutC6), (.slice gInP7 gInL8 gInC9)]), (.int .i64 n10), (.slice rootsP11 rootsL12 rootsC13)] H K := by kernel_rfl
theorem den_hand_Graph_Ranks {gRefsP1 : Option Addr} {gRefsL2 : Nat} {gRefsC3 : Nat} {gOutP4 : Option Addr} {gOutL5 : Nat} {gOutC6 : Nat} {gInP7 : Option Addr} {gInL8 : Nat} {gInC9 : Nat} {n10 : Int} {rootsP11 : Option Addr} {rootsL12 : Nat} {rootsC13 : Nat} {H : Hp} {K : Value → Hp → Prop} (h : B_hand_Graph_Ranks gRefsP1 gRefsL2 gRefsC3 gOutP4 gOutL5 gOutC6 gInP7 gInL8 gInC9 n10 rootsP11 rootsL12 rootsC13 H K) : hcall PR f_hand_Graph_Ranks ⟨[(.agg #[(.slice gRefsP1 gRefsL2 gRefsC3), (.slice gOutP4 gOutL5 gOutC6), (.slice gInP7 gInL8 gInC9)]), (.int .i64 n10), (.slice rootsP11 rootsL12 rootsC13)]⟩ H K := denF_call Try.func70 PR_mixed (Eq.mp (E_hand_Graph_Ranks gRefsP1 gRefsL2 gRefsC3 gOutP4 gOutL5 gOutC6 gInP7 gInL8 gInC9 n10 rootsP11 rootsL12 rootsC13 H K) h)

def B_hand_Outs (aP1 : Option Addr) (aL2 : Nat) (aC3 : Nat) (bP4 : Option Addr) (bL5 : Nat) (bC6 : Nat) (H : Hp) (K : Value → Hp → Prop) : Prop :=
(bif (((aL2 : Int) : Int) != (bL5 : Int)) then
K (.bool false) H
else
∃ (I7 : Int → Hp → Prop) (m8 : Int → Hp → Nat), I7 0 H ∧ ∀ i10 : Int, ∀ Hx9 : Hp, I7 i10 Hx9 →
(bif (decide ((i10 : Int) < (aL2 : Int))) then
idxA aP1 aL2 i10 3 fun el11 =>
ldI .i64 el11 Hx9 fun Node12 =>
ldI .u64 (el11.add 1) Hx9 fun Serial13 =>
idxA bP4 bL5 i10 3 fun el14 =>
ldI .i64 el14 Hx9 fun Node15 =>
ldI .u64 (el14.add 1) Hx9 fun Serial16 =>
evR PR (aggEq .neq ty_api_ID #[(.int .i64 Node12), (.int .u64 Serial13)] #[(.int .i64 Node15), (.int .u64 Serial16)]) Hx9 fun v17 =>
asB v17 fun eq18 =>
(bif eq18 then
K (.bool false) Hx9
else
idxA aP1 aL2 i10 3 fun el19 =>
ldI .i64 (el19.add 2) Hx9 fun Rank20 =>
idxA bP4 bL5 i10 3 fun el21 =>
ldI .i64 (el21.add 2) Hx9 fun Rank22 =>
(bif ((Rank20 : Int) != Rank22) then
K (.bool false) Hx9
else
I7 (IntKind.i64.wrap (i10 + 1)) Hx9 ∧ m8 (IntKind.i64.wrap (i10 + 1)) Hx9 < m8 i10 Hx9))
else
K (.bool true) Hx9))
theorem E_hand_Outs (aP1 : Option Addr) (aL2 : Nat) (aC3 : Nat) (bP4 : Option Addr) (bL5 : Nat) (bC6 : Nat) (H : Hp) (K : Value → Hp → Prop) : B_hand_Outs aP1 aL2 aC3 bP4 bL5 bC6 H K = denF Try.prog Try.f71 (.seq none .n (.seq none .n (.seq none (.seq none .n (.sub (.loop ⟨[(5, .int .i64)], [0, 1]⟩ .n))) .n))) [(.slice aP1 aL2 aC3), (.slice bP4 bL5 bC6)] H K := by kernel_rfl
theorem den_hand_Outs {aP1 : Option Addr} {aL2 : Nat} {aC3 : Nat} {bP4 : Option Addr} {bL5 : Nat} {bC6 : Nat} {H : Hp} {K : Value → Hp → Prop} (h : B_hand_Outs aP1 aL2 aC3 bP4 bL5 bC6 H K) : hcall PR f_hand_Outs ⟨[(.slice aP1 aL2 aC3), (.slice bP4 bL5 bC6)]⟩ H K := denF_call Try.func71 PR_mixed (Eq.mp (E_hand_Outs aP1 aL2 aC3 bP4 bL5 bC6 H K) h)

def B_hand_Graph_Dist (gRefsP1 : Option Addr) (gRefsL2 : Nat) (gRefsC3 : Nat) (gOutP4 : Option Addr) (gOutL5 : Nat) (gOutC6 : Nat) (gInP7 : Option Addr) (gInL8 : Nat) (gInC9 : Nat) (i10 : Int) (H : Hp) (K : Value → Hp → Prop) : Prop :=
newB (.cells #[(.slice gRefsP1 gRefsL2 gRefsC3), (.slice gOutP4 gOutL5 gOutC6), (.slice gInP7 gInL8 gInC9)] ty_hand_Graph) H fun b11 Hx12 =>
ldSl ⟨b11, 2, none⟩ Hx12 fun InP13 InL14 InC15 =>
(bif (((InL14 : Int) : Int) == 0) then
K (.int .i64 0) Hx12
else
ldSl ⟨b11, 2, none⟩ Hx12 fun InP16 InL17 InC18 =>
ldSl ⟨b11, 2, none⟩ Hx12 fun InP19 InL20 InC21 =>
((InL20 : Int) : Int) ≠ 0 ∧
idxA InP16 InL17 (Int.tmod i10 (InL20 : Int)) 1 fun el22 =>
ldI .i64 el22 Hx12 fun t23 =>
hcall PR f_hand_Pick ⟨[(.int .i64 t23), (.int .i64 14)]⟩ Hx12 fun v24 Hx25 =>
asI .i64 v24 fun t26 =>
K (.int .i64 (if 0 < (IntKind.i64.wrap (t26 - 6)) then (IntKind.i64.wrap (t26 - 6)) else 0)) Hx25)
theorem E_hand_Graph_Dist (gRefsP1 : Option Addr) (gRefsL2 : Nat) (gRefsC3 : Nat) (gOutP4 : Option Addr) (gOutL5 : Nat) (gOutC6 : Nat) (gInP7 : Option Addr) (gInL8 : Nat) (gInC9 : Nat) (i10 : Int) (H : Hp) (K : Value → Hp → Prop) : B_hand_Graph_Dist gRefsP1 gRefsL2 gRefsC3 gOutP4 gOutL5 gOutC6 gInP7 gInL8 gInC9 i10 H K = denF Try.prog Try.f86 .n [(.agg #[(.slice gRefsP1 gRefsL2 gRefsC3), (.slice gOutP4 gOutL5 gOutC6), (.slice gInP7 gInL8 gInC9)]), (.int .i64 i10)] H K := by kernel_rfl
theorem den_hand_Graph_Dist {gRefsP1 : Option Addr} {gRefsL2 : Nat} {gRefsC3 : Nat} {gOutP4 : Option Addr} {gOutL5 : Nat} {gOutC6 : Nat} {gInP7 : Option Addr} {gInL8 : Nat} {gInC9 : Nat} {i10 : Int} {H : Hp} {K : Value → Hp → Prop} (h : B_hand_Graph_Dist gRefsP1 gRefsL2 gRefsC3 gOutP4 gOutL5 gOutC6 gInP7 gInL8 gInC9 i10 H K) : hcall PR f_hand_Graph_Dist ⟨[(.agg #[(.slice gRefsP1 gRefsL2 gRefsC3), (.slice gOutP4 gOutL5 gOutC6), (.slice gInP7 gInL8 gInC9)]), (.int .i64 i10)]⟩ H K := denF_call Try.func86 PR_mixed (Eq.mp (E_hand_Graph_Dist gRefsP1 gRefsL2 gRefsC3 gOutP4 gOutL5 gOutC6 gInP7 gInL8 gInC9 i10 H K) h)

def B_hand_Rows (aP1 : Option Addr) (aL2 : Nat) (aC3 : Nat) (bP4 : Option Addr) (bL5 : Nat) (bC6 : Nat) (H : Hp) (K : Value → Hp → Prop) : Prop :=
(bif (((aL2 : Int) : Int) != (bL5 : Int)) then
K (.bool false) H
else
∃ (I7 : Int → Hp → Prop) (m8 : Int → Hp → Nat), I7 0 H ∧ ∀ i10 : Int, ∀ Hx9 : Hp, I7 i10 Hx9 →
(bif (decide ((i10 : Int) < (aL2 : Int))) then
idxA aP1 aL2 i10 2 fun el11 =>
ldI .u64 el11 Hx9 fun In12 =>
idxA bP4 bL5 i10 2 fun el13 =>
ldI .u64 el13 Hx9 fun In14 =>
(bif ((In12 : Int) != In14) then
K (.bool false) Hx9
else
idxA aP1 aL2 i10 2 fun el15 =>
ldSl (el15.add 1) Hx9 fun OutsP16 OutsL17 OutsC18 =>
idxA bP4 bL5 i10 2 fun el19 =>
ldSl (el19.add 1) Hx9 fun OutsP20 OutsL21 OutsC22 =>
hcall PR f_ref2_IDs ⟨[(.slice OutsP16 OutsL17 OutsC18), (.slice OutsP20 OutsL21 OutsC22)]⟩ Hx9 fun v23 Hx24 =>
asB v23 fun t25 =>
(bif (!t25) then
K (.bool false) Hx24
else
I7 (IntKind.i64.wrap (i10 + 1)) Hx24 ∧ m8 (IntKind.i64.wrap (i10 + 1)) Hx24 < m8 i10 Hx9))
else
K (.bool true) Hx9))
theorem E_hand_Rows (aP1 : Option Addr) (aL2 : Nat) (aC3 : Nat) (bP4 : Option Addr) (bL5 : Nat) (bC6 : Nat) (H : Hp) (K : Value → Hp → Prop) : B_hand_Rows aP1 aL2 aC3 bP4 bL5 bC6 H K = denF Try.prog Try.f89 (.seq none .n (.seq none .n (.seq none (.seq none .n (.sub (.loop ⟨[(5, .int .i64)], [0, 1]⟩ .n))) .n))) [(.slice aP1 aL2 aC3), (.slice bP4 bL5 bC6)] H K := by kernel_rfl
theorem den_hand_Rows {aP1 : Option Addr} {aL2 : Nat} {aC3 : Nat} {bP4 : Option Addr} {bL5 : Nat} {bC6 : Nat} {H : Hp} {K : Value → Hp → Prop} (h : B_hand_Rows aP1 aL2 aC3 bP4 bL5 bC6 H K) : hcall PR f_hand_Rows ⟨[(.slice aP1 aL2 aC3), (.slice bP4 bL5 bC6)]⟩ H K := denF_call Try.func89 PR_mixed (Eq.mp (E_hand_Rows aP1 aL2 aC3 bP4 bL5 bC6 H K) h)

def B_hand_Graph_Size (gRefsP1 : Option Addr) (gRefsL2 : Nat) (gRefsC3 : Nat) (gOutP4 : Option Addr) (gOutL5 : Nat) (gOutC6 : Nat) (gInP7 : Option Addr) (gInL8 : Nat) (gInC9 : Nat) (most10 : Int) (H : Hp) (K : Value → Hp → Prop) : Prop :=
newB (.cells #[(.slice gRefsP1 gRefsL2 gRefsC3), (.slice gOutP4 gOutL5 gOutC6), (.slice gInP7 gInL8 gInC9)] ty_hand_Graph) H fun b11 Hx12 =>
ldSl ⟨b11, 0, none⟩ Hx12 fun RefsP13 RefsL14 RefsC15 =>
K (.int .i64 (if most10 < (RefsL14 : Int) then most10 else (RefsL14 : Int))) Hx12
theorem E_hand_Graph_Size (gRefsP1 : Option Addr) (gRefsL2 : Nat) (gRefsC3 : Nat) (gOutP4 : Option Addr) (gOutL5 : Nat) (gOutC6 : Nat) (gInP7 : Option Addr) (gInL8 : Nat) (gInC9 : Nat) (most10 : Int) (H : Hp) (K : Value → Hp → Prop) : B_hand_Graph_Size gRefsP1 gRefsL2 gRefsC3 gOutP4 gOutL5 gOutC6 gInP7 gInL8 gInC9 most10 H K = denF Try.prog Try.f105 .n [(.agg #[(.slice gRefsP1 gRefsL2 gRefsC3), (.slice gOutP4 gOutL5 gOutC6), (.slice gInP7 gInL8 gInC9)]), (.int .i64 most10)] H K := by kernel_rfl
theorem den_hand_Graph_Size {gRefsP1 : Option Addr} {gRefsL2 : Nat} {gRefsC3 : Nat} {gOutP4 : Option Addr} {gOutL5 : Nat} {gOutC6 : Nat} {gInP7 : Option Addr} {gInL8 : Nat} {gInC9 : Nat} {most10 : Int} {H : Hp} {K : Value → Hp → Prop} (h : B_hand_Graph_Size gRefsP1 gRefsL2 gRefsC3 gOutP4 gOutL5 gOutC6 gInP7 gInL8 gInC9 most10 H K) : hcall PR f_hand_Graph_Size ⟨[(.agg #[(.slice gRefsP1 gRefsL2 gRefsC3), (.slice gOutP4 gOutL5 gOutC6), (.slice gInP7 gInL8 gInC9)]), (.int .i64 most10)]⟩ H K := denF_call Try.func105 PR_mixed (Eq.mp (E_hand_Graph_Size gRefsP1 gRefsL2 gRefsC3 gOutP4 gOutL5 gOutC6 gInP7 gInL8 gInC9 most10 H K) h)

end Go.Proofs.Ytohlnmenghbgbaa
