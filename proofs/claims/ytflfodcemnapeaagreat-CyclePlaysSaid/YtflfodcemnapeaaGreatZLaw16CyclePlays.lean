/- Merged by merge.py: DenLaw16, Law16, DenLaw16CyclePlays, Law16p, Law16q. No condition. -/
import Derived.Test.YtflfodcemnapeaaGreatZNum
import Derived.Test.YtflfodcemnapeaaGreatZCycle
import Derived.Test.YtflfodcemnapeaaGreatZMark
import Derived.Test.YtflfodcemnapeaaGreatZReach

namespace Go.Proofs.YtflfodcemnapeaaGreat
open Go
set_option linter.unusedVariables false
set_option maxRecDepth 100000
def B_law16_known  (H : Hp) (K : Value → Hp → Prop) : Prop :=
 hcall PR f_heap_New ⟨[(.int .i64 1), (.int .i64 64), (.int .i64 4), (.int .u64 0)]⟩ H fun v1 Hx2 =>
 tup2 v1 fun v3 v4 =>
 asP v3 fun t5 =>
 asI .i64 v4 fun t6 =>
 (bif ((t6 : Int) != 0) then
 K (.bool false) Hx2
else
 (bif (Option.isNone (α := Addr) t5) then
 K (.bool false) Hx2
else
 hcall PR f_heap_Heap_Make ⟨[(.pointer t5), (.int .i64 1), (.int .i64 0)]⟩ Hx2 fun v7 Hx8 =>
 tup2 v7 fun v9 v10 =>
 asI .u64 v9 fun t11 =>
 asI .i64 v10 fun t12 =>
 hcall PR f_cycle_New ⟨[(.pointer t5), (.int .i64 1), (.int .i64 4), (.int .i64 3), (.int .i64 8)]⟩ Hx8 fun v13 Hx14 =>
 tup2 v13 fun v15 v16 =>
 asP v15 fun t17 =>
 asI .i64 v16 fun t18 =>
 (bif ((t18 : Int) != 0) then
 K (.bool false) Hx14
else
 (bif (Option.isNone (α := Addr) t17) then
 K (.bool false) Hx14
else
 hcall PR f_cycle_Cycle_Step ⟨[(.pointer t17), (.int .u64 0)]⟩ Hx14 fun v19 Hx20 =>
 tup2 v19 fun v21 v22 =>
 asSl v21 fun tP23 tL24 tC25 =>
 asB v22 fun t26 =>
 hcall PR f_cycle_Cycle_State ⟨[(.pointer t17)]⟩ Hx20 fun v27 Hx28 =>
 asI .i64 v27 fun t29 =>
 ∀ R30 : Bool → Hp → Prop, (∀ b32 : Bool, ∀ Hx31 : Hp, (
 hcall PR f_cycle_Cycle_State ⟨[(.pointer t17)]⟩ Hx31 fun v33 Hx34 =>
 asI .i64 v33 fun t35 =>
 hcall PR f_cycle_Cycle_Step ⟨[(.pointer t17), (.int .u64 0)]⟩ Hx34 fun v36 Hx37 =>
 tup2 v36 fun v38 v39 =>
 asSl v38 fun tP40 tL41 tC42 =>
 asB v39 fun t43 =>
 (bif (((tL24 : Int) : Int) == 0) then
 (bif (!t26) then
 (bif ((t29 : Int) == 1) then
 (bif b32 then
 (bif ((t35 : Int) == 2) then
 (bif (((tL41 : Int) : Int) == 1) then
 idxA tP40 tL41 0 1 fun el44 =>
 ldI .u64 el44 Hx37 fun t45 =>
 (bif ((t45 : Int) == 1) then
 (bif t43 then
 hcall PR f_cycle_Cycle_State ⟨[(.pointer t17)]⟩ Hx37 fun v46 Hx47 =>
 asI .i64 v46 fun t48 =>
 (bif ((t48 : Int) == 0) then
 hcall PR f_heap_Heap_Len ⟨[(.pointer t5)]⟩ Hx47 fun v49 Hx50 =>
 asI .i64 v49 fun t51 =>
 K (.bool ((t51 : Int) == 0)) Hx50
else
 K (.bool false) Hx47)
else
 K (.bool false) Hx37)
else
 K (.bool false) Hx37)
else
 K (.bool false) Hx37)
else
 K (.bool false) Hx37)
else
 K (.bool false) Hx37)
else
 K (.bool false) Hx37)
else
 K (.bool false) Hx37)
else
 K (.bool false) Hx37)) → R30 b32 Hx31) →
 hcall PR f_cycle_Cycle_Shake ⟨[(.pointer t17), (.int .i64 0), (.slice none 0 0)]⟩ Hx28 fun v52 Hx53 =>
 asB v52 fun t54 =>
 (bif t54 then
 hcall PR f_cycle_Cycle_Shake ⟨[(.pointer t17), (.int .i64 0), (.slice none 0 0)]⟩ Hx53 fun v55 Hx56 =>
 asB v55 fun t57 =>
 (bif t57 then
 hcall PR f_cycle_Cycle_Shake ⟨[(.pointer t17), (.int .i64 1), (.slice none 0 0)]⟩ Hx56 fun v58 Hx59 =>
 asB v58 fun t60 =>
 (bif t60 then
 hcall PR f_cycle_Cycle_Shake ⟨[(.pointer t17), (.int .i64 1), (.slice none 0 0)]⟩ Hx59 fun v61 Hx62 =>
 asB v61 fun t63 =>
 R30 (!t63) Hx62
else
 R30 false Hx59)
else
 R30 false Hx56)
else
 R30 false Hx53)))))
theorem E_law16_known  (H : Hp) (K : Value → Hp → Prop) : B_law16_known  H K = denF Tryz.prog Tryz.f5 (.seq none .n (.seq none .n (.seq none .n (.seq none .n (.seq none .n (.seq none .n (.seq none .n (.seq none .n (.seq (some ⟨[(8, .bool)], [1, 3, 5, 6, 7]⟩) .n .n))))))))) [] H K := by kernel_rfl
theorem den_law16_known  {H : Hp} {K : Value → Hp → Prop} (h : B_law16_known  H K) : hcall PR f_law16_known ⟨[]⟩ H K := denF_call Tryz.func5 PR_mixed (Eq.mp (E_law16_known  H K) h)

def B_law16_id (s1 : Int) (H : Hp) (K : Value → Hp → Prop) : Prop :=
 newB (.cells #[(.int .i64 0), (.int .u64 0)] ty_api_ID) H fun b2 Hx3 =>
 st ⟨b2, 0, none⟩ (.int .i64 1) Hx3 fun Hx4 =>
 st ⟨b2, 1, none⟩ (.int .u64 s1) Hx4 fun Hx5 =>
 ldI .i64 ⟨b2, 0, none⟩ Hx5 fun Node6 =>
 ldI .u64 ⟨b2, 1, none⟩ Hx5 fun Serial7 =>
 K (.agg #[(.int .i64 Node6), (.int .u64 Serial7)]) Hx5
theorem E_law16_id (s1 : Int) (H : Hp) (K : Value → Hp → Prop) : B_law16_id s1 H K = denF Tryz.prog Tryz.f9 .n [(.int .u64 s1)] H K := by kernel_rfl
theorem den_law16_id {s1 : Int} {H : Hp} {K : Value → Hp → Prop} (h : B_law16_id s1 H K) : hcall PR f_law16_id ⟨[(.int .u64 s1)]⟩ H K := denF_call Tryz.func9 PR_mixed (Eq.mp (E_law16_id s1 H K) h)

def B_law16_same (c1 : Option Addr) (w2 : Option Addr) (h3 : Option Addr) (r4 : Option Addr) (H : Hp) (K : Value → Hp → Prop) : Prop :=
 hcall PR f_cycle_Cycle_State ⟨[(.pointer c1)]⟩ H fun v5 Hx6 =>
 asI .i64 v5 fun t7 =>
 hcall PR f_ref16_Cycle_State ⟨[(.pointer w2)]⟩ Hx6 fun v8 Hx9 =>
 asI .i64 v8 fun t10 =>
 (bif ((t7 : Int) != t10) then
 K (.bool false) Hx9
else
 nilP w2 fun wa11 =>
 ldP (wa11.add 1) Hx9 fun P12 =>
 nilP P12 fun Pa13 =>
 ldI .u64 (Pa13.add 4) Hx9 fun Turns14 =>
 hcall PR f_cycle_Cycle_Turns ⟨[(.pointer c1)]⟩ Hx9 fun v15 Hx16 =>
 asI .u64 v15 fun t17 =>
 (ldI .u64 (Pa13.add 4) Hx16 fun Turns18 =>
 ((.int .u64 Turns18) : Value) = (.int .u64 Turns14)) ∧
 (ldP (wa11.add 1) Hx16 fun P19 =>
 ((.pointer P19) : Value) = (.pointer P12)) ∧
 (bif ((t17 : Int) != Turns14) then
 K (.bool false) Hx16
else
 nilP r4 fun ra20 =>
 ldSl (ra20.add 4) Hx16 fun LP21 LL22 LC23 =>
 hcall PR f_heap_Heap_Len ⟨[(.pointer h3)]⟩ Hx16 fun v24 Hx25 =>
 asI .i64 v24 fun t26 =>
 (ldSl (ra20.add 4) Hx25 fun LP27 LL28 LC29 =>
 ((.slice LP27 LL28 LC29) : Value) = (.slice LP21 LL22 LC23)) ∧
 (bif ((t26 : Int) != (LL22 : Int)) then
 K (.bool false) Hx25
else
 nilP w2 fun wa30 =>
 ldP (wa30.add 1) Hx25 fun P31 =>
 hcall PR f_cycle_Cycle_Outs ⟨[(.pointer c1)]⟩ Hx25 fun v32 Hx33 =>
 asSl v32 fun tP34 tL35 tC36 =>
 (ldP (wa30.add 1) Hx33 fun P37 =>
 ((.pointer P37) : Value) = (.pointer P31)) ∧
 hcall PR f_ref11_Paint_Outs ⟨[(.pointer P31)]⟩ Hx33 fun v38 Hx39 =>
 asSl v38 fun tP40 tL41 tC42 =>
 hcall PR f_hand_Outs ⟨[(.slice tP34 tL35 tC36), (.slice tP40 tL41 tC42)]⟩ Hx39 fun v43 Hx44 =>
 asB v43 fun t45 =>
 (bif (!t45) then
 K (.bool false) Hx44
else
 ∃ (I46 : Int → Hp → Prop) (m47 : Int → Hp → Nat), I46 0 Hx44 ∧ ∀ i49 : Int, ∀ Hx48 : Hp, I46 i49 Hx48 →
 nilP r4 fun ra50 =>
 ldSl (ra50.add 4) Hx48 fun LP51 LL52 LC53 =>
 (bif (decide ((i49 : Int) < (LL52 : Int))) then
 nilP r4 fun ra54 =>
 ldSl (ra54.add 4) Hx48 fun LP55 LL56 LC57 =>
 idxA LP55 LL56 i49 1 fun el58 =>
 ldP el58 Hx48 fun t59 =>
 nilP t59 fun ta60 =>
 ldI .u64 ta60 Hx48 fun Serial61 =>
 hcall PR f_cycle_Cycle_Mark ⟨[(.pointer c1), (.int .u64 Serial61)]⟩ Hx48 fun v62 Hx63 =>
 tup3 v62 fun v64 v65 v66 =>
 asI .i64 v64 fun t67 =>
 asB v65 fun t68 =>
 asB v66 fun t69 =>
 nilP w2 fun wa70 =>
 ldP (wa70.add 1) Hx63 fun P71 =>
 nilP r4 fun ra72 =>
 ldSl (ra72.add 4) Hx63 fun LP73 LL74 LC75 =>
 idxA LP73 LL74 i49 1 fun el76 =>
 ldP el76 Hx63 fun t77 =>
 nilP t77 fun ta78 =>
 ldI .u64 ta78 Hx63 fun Serial79 =>
 hcall PR f_ref11_Paint_Mark ⟨[(.pointer P71), (.int .u64 Serial79)]⟩ Hx63 fun v80 Hx81 =>
 tup3 v80 fun v82 v83 v84 =>
 asI .i64 v82 fun t85 =>
 asB v83 fun t86 =>
 asB v84 fun t87 =>
 (bif ((t67 : Int) != t85) then
 K (.bool false) Hx81
else
 (bif (!(t68 == t86)) then
 K (.bool false) Hx81
else
 (bif (!(t69 == t87)) then
 K (.bool false) Hx81
else
 nilP r4 fun ra88 =>
 ldSl (ra88.add 4) Hx81 fun LP89 LL90 LC91 =>
 idxA LP89 LL90 i49 1 fun el92 =>
 ldP el92 Hx81 fun t93 =>
 nilP t93 fun ta94 =>
 ldI .u64 ta94 Hx81 fun Serial95 =>
 nilP r4 fun ra96 =>
 ldSl (ra96.add 4) Hx81 fun LP97 LL98 LC99 =>
 idxA LP97 LL98 i49 1 fun el100 =>
 ldP el100 Hx81 fun t101 =>
 nilP t101 fun ta102 =>
 ldI .u64 ta102 Hx81 fun Serial103 =>
 hcall PR f_cycle_Cycle_Doomed ⟨[(.pointer c1), (.int .u64 Serial95)]⟩ Hx81 fun v104 Hx105 =>
 asB v104 fun t106 =>
 (ldI .u64 ta102 Hx105 fun Serial107 =>
 ((.int .u64 Serial107) : Value) = (.int .u64 Serial103)) ∧
 (ldP el100 Hx105 fun t108 =>
 ((.pointer t108) : Value) = (.pointer t101)) ∧
 (ldSl (ra96.add 4) Hx105 fun LP109 LL110 LC111 =>
 ((.slice LP109 LL110 LC111) : Value) = (.slice LP97 LL98 LC99)) ∧
 hcall PR f_ref16_Cycle_Doomed ⟨[(.pointer w2), (.int .u64 Serial103)]⟩ Hx105 fun v112 Hx113 =>
 asB v112 fun t114 =>
 (bif (!(t106 == t114)) then
 K (.bool false) Hx113
else
 I46 (IntKind.i64.wrap (i49 + 1)) Hx113 ∧ m47 (IntKind.i64.wrap (i49 + 1)) Hx113 < m47 i49 Hx48))))
else
 hcall PR f_cycle_Cycle_Doomed ⟨[(.pointer c1), (.int .u64 0)]⟩ Hx48 fun v115 Hx116 =>
 asB v115 fun t117 =>
 (bif t117 then
 K (.bool false) Hx116
else
 nilP r4 fun ra118 =>
 ldI .u64 (ra118.add 2) Hx116 fun Last119 =>
 hcall PR f_cycle_Cycle_Doomed ⟨[(.pointer c1), (.int .u64 (IntKind.u64.wrap (Last119 + 1)))]⟩ Hx116 fun v120 Hx121 =>
 asB v120 fun t122 =>
 (bif t122 then
 K (.bool false) Hx121
else
 hcall PR f_cycle_Cycle_Summary ⟨[(.pointer c1)]⟩ Hx121 fun v123 Hx124 =>
 agg4 v123 fun v125 v126 v127 v128 =>
 asI .u64 v125 fun Stir129 =>
 asSl v126 fun RowsP130 RowsL131 RowsC132 =>
 asSl v127 fun OutsP133 OutsL134 OutsC135 =>
 asB v128 fun Ok136 =>
 newB (.cells #[(.int .u64 0), (.slice none 0 0), (.slice none 0 0), (.bool false)] ty_cycle_Summary) Hx124 fun b137 Hx138 =>
 st ⟨b137, 0, none⟩ (.int .u64 Stir129) Hx138 fun Hx139 =>
 st ⟨b137, 1, none⟩ (.slice RowsP130 RowsL131 RowsC132) Hx139 fun Hx140 =>
 st ⟨b137, 2, none⟩ (.slice OutsP133 OutsL134 OutsC135) Hx140 fun Hx141 =>
 st ⟨b137, 3, none⟩ (.bool Ok136) Hx141 fun Hx142 =>
 ldI .u64 ⟨b137, 0, none⟩ Hx142 fun Stir143 =>
 nilP w2 fun wa144 =>
 ldI .u64 (wa144.add 11) Hx142 fun Stir145 =>
 (bif ((Stir143 : Int) == Stir145) then
 ldB ⟨b137, 3, none⟩ Hx142 fun Ok146 =>
 nilP w2 fun wa147 =>
 ldB ((wa147.add 11).add 3) Hx142 fun Ok148 =>
 (bif (Ok146 == Ok148) then
 ldSl ⟨b137, 1, none⟩ Hx142 fun RowsP149 RowsL150 RowsC151 =>
 nilP w2 fun wa152 =>
 ldSl ((wa152.add 11).add 1) Hx142 fun RowsP153 RowsL154 RowsC155 =>
 hcall PR f_hand_Rows ⟨[(.slice RowsP149 RowsL150 RowsC151), (.slice RowsP153 RowsL154 RowsC155)]⟩ Hx142 fun v156 Hx157 =>
 asB v156 fun t158 =>
 (bif t158 then
 ldSl ⟨b137, 2, none⟩ Hx157 fun OutsP159 OutsL160 OutsC161 =>
 nilP w2 fun wa162 =>
 ldSl ((wa162.add 11).add 2) Hx157 fun OutsP163 OutsL164 OutsC165 =>
 hcall PR f_hand_Outs ⟨[(.slice OutsP159 OutsL160 OutsC161), (.slice OutsP163 OutsL164 OutsC165)]⟩ Hx157 fun v166 Hx167 =>
 asB v166 fun t168 =>
 K (.bool t168) Hx167
else
 K (.bool false) Hx157)
else
 K (.bool false) Hx142)
else
 K (.bool false) Hx142))))))))
theorem E_law16_same (c1 : Option Addr) (w2 : Option Addr) (h3 : Option Addr) (r4 : Option Addr) (H : Hp) (K : Value → Hp → Prop) : B_law16_same c1 w2 h3 r4 H K = denF Tryz.prog Tryz.f27 (.seq none .n (.seq none .n (.seq none (.seq none .n (.sub (.loop ⟨[(9, .int .i64)], [0, 1, 3]⟩ .n))) .n))) [(.pointer c1), (.pointer w2), (.pointer h3), (.pointer r4)] H K := by kernel_rfl
theorem den_law16_same {c1 : Option Addr} {w2 : Option Addr} {h3 : Option Addr} {r4 : Option Addr} {H : Hp} {K : Value → Hp → Prop} (h : B_law16_same c1 w2 h3 r4 H K) : hcall PR f_law16_same ⟨[(.pointer c1), (.pointer w2), (.pointer h3), (.pointer r4)]⟩ H K := denF_call Tryz.func27 PR_mixed (Eq.mp (E_law16_same c1 w2 h3 r4 H K) h)

end Go.Proofs.YtflfodcemnapeaaGreat

namespace Go.Proofs.YtflfodcemnapeaaGreat
set_option linter.unusedSimpArgs false
set_option linter.unusedVariables false
open Go
section
variable {H0 H : Hp} {L M : List Prt} {i j k b hb : Nat} {s : Hs} {c : Cy} {K : Value → Hp → Prop}
/-! ## The example -/
def k16a : Cy := ⟨⟨1, [false, true], [false, false]⟩, ⟨[], [], [], 4, false, 1⟩, ⟨0, false, 0⟩, rcNew 0, 0, 1, 0, 3, 8, 0, 0, ⟨0, [], [], false⟩⟩
def k16b : Cy := ⟨⟨2, [true, true], [false, false]⟩, ⟨[], [], [], 4, false, 1⟩, ⟨0, false, 0⟩, rcNew 0, 0, 1, 0, 3, 8, 0, 0, ⟨0, [], [], false⟩⟩
def k16c : Cy := ⟨⟨2, [true, true], [true, false]⟩, ⟨[], [], [], 4, false, 1⟩, ⟨0, false, 0⟩, rcNew 0, 0, 1, 0, 3, 8, 0, 0, ⟨0, [], [], false⟩⟩
def k16d : Cy := ⟨⟨3, [true, true], [true, true]⟩, ⟨[], [], [], 4, false, 1⟩, ⟨0, false, 0⟩, rcNew 0, 0, 1, 0, 3, 8, 0, 0, ⟨0, [], [], false⟩⟩
def k16e (pl : Int) : Cy := ⟨⟨3, [true, true], [true, true]⟩, ⟨[], [], [], 4, false, 1⟩, ⟨1, false, 0⟩, ⟨3, 1, none, []⟩, pl, 1, 5, 3, 8, 0, 1, ⟨0, [], [], true⟩⟩
def k16f : Cy := ⟨⟨0, [false, false], [false, false]⟩, ⟨[], [], [], 4, false, 1⟩, ⟨1, false, 0⟩, ⟨3, 1, none, []⟩, 1, 1, 0, 3, 8, 0, 1, ⟨0, [], [], true⟩⟩
theorem known16_begin : cyStep s (newCy 1 4 3 8 1) 0 = (([], false), s, k16a) := steps_stop (n := 7) (unit0 rfl)
theorem known16_shake : cyShake s k16a 0 [] = (true, k16b) ∧ cyShake s k16b 0 [] = (true, k16c) ∧ cyShake s k16c 1 [] = (true, k16d) ∧ cyShake s k16d 1 [] = (false, k16d) := ⟨rfl, rfl, rfl, rfl⟩
theorem known16_run {y : Id} {c1 : Int} (ho : s.ok) (hobs : s.obs = [⟨1, c1, [y], [], 0⟩]) (hn : s.node = 1) (hl : s.last = 1) : cyStep s k16d 0 = (([1], true), (hFree s 1).2, k16f) := by
 have g1 : hGet s 1 = some ⟨1, c1, [y], [], 0⟩ := by unfold hGet; rw [hobs]; rfl
 have n0 : hNext s 0 = (1, true) := by unfold hNext; rw [hobs]; rfl
 have n1 : hNext s 1 = (0, false) := by unfold hNext; rw [hobs]; rfl
 have ho2 := ho.free 1
 have n2 : hNext (hFree s 1).2 1 = (0, false) := hNext_none ho2 fun k hk => by
  rw [hFree_get, if_neg (by omega)]
  cases hg : hGet s k with
  | none => rfl
  | some o =>
   have := hNext_false (s := s) (q := 1) (by rw [n1]) (k := k) (by rw [hg]; simp)
   omega
 have own : ∀ k, rcOwn s ⟨[], [], [], 4, false, 1⟩ 3 k = false := fun k => by
  cases ho : rcOwn s ⟨[], [], [], 4, false, 1⟩ 3 k
  ·rfl
  ·obtain ⟨_, r, g, h, _⟩ := rcOwn_has ho
   cases h
 obtain ⟨pa, hpa⟩ : ∃ pa : Ps, pa = ⟨[], [], [], 4, false, 1⟩ := ⟨_, rfl⟩
 have m0 : mkStep s pa ⟨0, false, 0⟩ = (true, pa, ⟨1, false, 0⟩) := by
  unfold mkStep mkSee
  rw [hpa]
  simp only [List.getLast?_nil, n0, g1]
  rfl
 have m1 : mkStep s pa ⟨1, false, 0⟩ = (false, pa, ⟨1, false, 0⟩) := by
  unfold mkStep
  rw [hpa]
  simp only [List.getLast?_nil, n1]
  rfl
 have r0 : rcStep s pa (rcNew 3) = (true, ⟨3, 1, none, []⟩) := by
  rw [hpa]
  unfold rcStep rcNew rcNext
  simp only [n0, g1, own]
  rfl
 have r1 : rcStep s pa ⟨3, 1, none, []⟩ = (false, ⟨3, 1, none, []⟩) := by
  rw [hpa]
  unfold rcStep rcNext
  simp only [n1]
  rfl
 obtain ⟨ca, hca⟩ : ∃ ca : Cy, ca = { k16d with st := 3, m := ⟨1, false, 0⟩ } := ⟨_, rfl⟩
 obtain ⟨cb, hcb⟩ : ∃ cb : Cy, cb = { k16d with st := 4, m := ⟨1, false, 0⟩, r := rcNew 3 } := ⟨_, rfl⟩
 obtain ⟨cc, hcc⟩ : ∃ cc : Cy, cc = { k16d with st := 4, m := ⟨1, false, 0⟩, r := ⟨3, 1, none, []⟩ } := ⟨_, rfl⟩
 have u1 : cyUnit s k16d 0 = ⟨none, 0, s, ca⟩ := by
  rw [unit23 (.inr rfl) rfl, hca]
  unfold cyMarks
  rw [show mkStep s ({ k16d with st := 3, m := ⟨0, false, 0⟩ } : Cy).p ({ k16d with st := 3, m := ⟨0, false, 0⟩ } : Cy).m = (true, pa, ⟨1, false, 0⟩) from by rw [← m0, hpa]; rfl]
  rw [if_pos rfl, hpa]
  rfl
 have u2 : cyUnit s ca 0 = ⟨none, 0, s, cb⟩ := by
  rw [unit3 (by rw [hca]; rfl)]
  unfold cyMarks
  rw [show mkStep s ca.p ca.m = (false, pa, ⟨1, false, 0⟩) from by rw [← m1, hpa, hca]; rfl]
  rw [if_neg (fun h => by cases h), hca, hcb, hpa]
  rfl
 have u3 : cyUnit s cb 0 = ⟨none, 0, s, cc⟩ := by
  rw [unit4 (by rw [hcb]; rfl)]
  unfold cyReaches
  rw [show mkStep s cb.p cb.m = (false, pa, ⟨1, false, 0⟩) from by rw [← m1, hpa, hcb]; rfl]
  rw [if_neg (fun h => by cases h)]
  simp only
  rw [show rcStep s pa cb.r = (true, ⟨3, 1, none, []⟩) from by rw [← r0, hcb]]
  rw [if_pos rfl, hcb, hcc, hpa]
  rfl
 have u4 : cyUnit s cc 0 = ⟨none, 0, s, k16e 0⟩ := by
  rw [unit4 (by rw [hcc]; rfl)]
  unfold cyReaches
  rw [show mkStep s cc.p cc.m = (false, pa, ⟨1, false, 0⟩) from by rw [← m1, hpa, hcc]; rfl]
  rw [if_neg (fun h => by cases h)]
  simp only
  rw [show rcStep s pa cc.r = (false, ⟨3, 1, none, []⟩) from by rw [← r1, hcc]]
  rw [if_neg (by decide), hcc, hpa, hl]
  rfl
 have s5 : swStep s pa 0 1 = ((1, true), (hFree s 1).2, pa, 1) := by
  unfold swStep
  rw [n0, if_neg (by decide), if_neg (by rw [hpa]; show ¬ (false = true); decide), hpa]
  rfl
 have s6 : swStep (hFree s 1).2 pa 1 1 = ((0, false), (hFree s 1).2, pa, 1) := by
  unfold swStep
  rw [n2, if_pos (.inl rfl)]
 have u5 : cyUnit s (k16e 0) 0 = ⟨none, 1, (hFree s 1).2, k16e 1⟩ := by
  have e : swStep s (k16e 0).p (k16e 0).pl (k16e 0).e = ((1, true), (hFree s 1).2, pa, 1) := by rw [← s5, hpa]; rfl
  rw [unit6 rfl (by rw [e]), e, hpa]
  rfl
 have u6 : cyUnit (hFree s 1).2 (k16e 1) 0 = ⟨some true, 0, (hFree s 1).2, k16f⟩ := by
  have e : swStep (hFree s 1).2 (k16e 1).p (k16e 1).pl (k16e 1).e = ((0, false), (hFree s 1).2, pa, 1) := by rw [← s6, hpa]; rfl
  rw [unit5 rfl (by rw [e]), e, hpa]
  rfl
 show cySteps 0 8 s k16d [] = _
 rw [steps_go u1, steps_go u2, steps_go u3, steps_go u4, steps_go u5, steps_stop u6]
 rfl

theorem known16_ok (h : St H0 L H) (hK : ∀ H', St H0 L H' → K (.bool true) H') : hcall PR f_law16_known ⟨[]⟩ H K := by
 apply den_law16_known
 unfold B_law16_known
 refine hNewOk (m := 4) (by decide) (by decide) (by decide) (by decide) (by decide) h fun hb H1 h1 => ?_
 simp only [Za,Zb,Zc,Zd,Zf,Zh,Zi,Zk,Zl,Zm,Zn,Zo,Zp,Zr,Zs,Zx,Zt,Zu,Zy,Zz,Zv,Zw,ZA,ZB,ZC,ZD]
 refine bif_neqf rfl ?_
 obtain ⟨s1, c1, a0, a1, a2, a3, a4, a5, a6⟩ := hMake_good' (s := newHs 1 4 0 4) (r := 1) (v := 0) (heap_ok h1 (i := 0) rfl) (by omega) (by omega) (by decide) (by decide) (by show 0 < frees (List.replicate 4 noBlk); rw [frees_new]; omega)
 refine hMakeC h1 (i := 0) rfl (by decide) (by decide) fun H2 h2 => ?_
 rw [a0] at h2 ⊢
 have h2 : St H0 (HeapP hb s1 :: L) H2 := h2
 simp only [Za,Zb,Zc,Zd,Zf,Zh,Zi,Zk,Zl,Zm,Zn,Zo,Zp,Zr,Zs,Zx,Zt,Zu,Zy,Zz,Zv,Zw,ZA,ZB,ZC,ZD]
 have a3 : s1.node = 1 := a3
 have a4 : s1.obs = [⟨1, c1, [noId], [], 0⟩] := a4
 have al : s1.last = 1 := by first | exact a1 | exact a2 | exact a5 | exact a6
 refine cyNewC h2 (i := 0) rfl a3 (by omega) (by omega) (by omega) (by omega) fun b H3 h3 => ?_
 rw [al] at h3
 simp only [Za,Zb,Zc,Zd,Zf,Zh,Zi,Zk,Zl,Zm,Zn,Zo,Zp,Zr,Zs,Zx,Zt,Zu,Zy,Zz,Zv,Zw,ZA,ZB,ZC,ZD]
 refine bif_neqf rfl ?_
 (try simp only [Option.isNone_some, Zw])
 have ho := heap_ok h3 (i := 1) rfl
 refine cyStepC h3 (i := 1) (k := 0) rfl rfl (by decide) (n := 0) newCy_lt (by omega) fun fp fc H4 h4 => ?_
 rw [known16_begin] at h4 ⊢
 have h4 : St H0 (CyP b hb k16a :: HeapP hb s1 :: L) H4 := h4.less
 simp only [Za,Zb,Zc,Zd,Zf,Zh,Zi,Zk,Zl,Zm,Zn,Zo,Zp,Zr,Zs,Zx,Zt,Zu,Zy,Zz,Zv,Zw,ZA,ZB,ZC,ZD]
 refine cyStateC h4 (k := 0) rfl ?_
 simp only [Za,Zb,Zc,Zd,Zf,Zh,Zi,Zk,Zl,Zm,Zn,Zo,Zp,Zr,Zs,Zx,Zt,Zu,Zy,Zz,Zv,Zw,ZA,ZB,ZC,ZD]
 intro R30 hR30
 obtain ⟨q1, q2, q3, q4⟩ := known16_shake (s := s1)
 refine cyShakeC (held := []) h4 (i := 1) (k := 0) rfl rfl (by decide) (fun _ _ _ => rd_nil) (by simp) fun H5 h5 => ?_
 rw [q1] at h5 ⊢
 have h5 : St H0 (CyP b hb k16b :: HeapP hb s1 :: L) H5 := h5
 simp only [Za,Zb,Zc,Zd,Zf,Zh,Zi,Zk,Zl,Zm,Zn,Zo,Zp,Zr,Zs,Zx,Zt,Zu,Zy,Zz,Zv,Zw,ZA,ZB,ZC,ZD]
 refine cyShakeC (held := []) h5 (i := 1) (k := 0) rfl rfl (by decide) (fun _ _ _ => rd_nil) (by simp) fun H6 h6 => ?_
 rw [q2] at h6 ⊢
 have h6 : St H0 (CyP b hb k16c :: HeapP hb s1 :: L) H6 := h6
 simp only [Za,Zb,Zc,Zd,Zf,Zh,Zi,Zk,Zl,Zm,Zn,Zo,Zp,Zr,Zs,Zx,Zt,Zu,Zy,Zz,Zv,Zw,ZA,ZB,ZC,ZD]
 refine cyShakeC (held := []) h6 (i := 1) (k := 0) rfl rfl (by decide) (fun _ _ _ => rd_nil) (by simp) fun H7 h7 => ?_
 rw [q3] at h7 ⊢
 have h7 : St H0 (CyP b hb k16d :: HeapP hb s1 :: L) H7 := h7
 simp only [Za,Zb,Zc,Zd,Zf,Zh,Zi,Zk,Zl,Zm,Zn,Zo,Zp,Zr,Zs,Zx,Zt,Zu,Zy,Zz,Zv,Zw,ZA,ZB,ZC,ZD]
 refine cyShakeC (held := []) h7 (i := 1) (k := 0) rfl rfl (by decide) (fun _ _ _ => rd_nil) (by simp) fun H8 h8 => ?_
 rw [q4] at h8 ⊢
 have h8 : St H0 (CyP b hb k16d :: HeapP hb s1 :: L) H8 := h8
 simp only [Za,Zb,Zc,Zd,Zf,Zh,Zi,Zk,Zl,Zm,Zn,Zo,Zp,Zr,Zs,Zx,Zt,Zu,Zy,Zz,Zv,Zw,ZA,ZB,ZC,ZD]
 refine hR30 true H8 ?_
 refine cyStateC h8 (k := 0) rfl ?_
 simp only [Za,Zb,Zc,Zd,Zf,Zh,Zi,Zk,Zl,Zm,Zn,Zo,Zp,Zr,Zs,Zx,Zt,Zu,Zy,Zz,Zv,Zw,ZA,ZB,ZC,ZD]
 have hlt : k16d.lt 0 := ⟨⟨Nat.le_refl _, Nat.le_refl _⟩, ⟨fun w hw => by (cases hw), Nat.le_refl _, fun r hr => by (cases hr)⟩, Nat.le_refl _, fun r hr => by (cases hr), Nat.le_refl _⟩
 refine cyStepC h8 (i := 1) (k := 0) rfl rfl (by decide) hlt (by omega) fun fp2 fc2 H9 h9 => ?_
 rw [known16_run ho a4 a3 al] at h9 ⊢
 have h9 : St H0 (Prt.row 1 fp2 1 fc2 [.int .u64 1] :: CyP b hb k16f :: HeapP hb (hFree s1 1).2 :: L) H9 := h9
 simp only [Za,Zb,Zc,Zd,Zf,Zh,Zi,Zk,Zl,Zm,Zn,Zo,Zp,Zr,Zs,Zx,Zt,Zu,Zy,Zz,Zv,Zw,ZA,ZB,ZC,ZD]
 refine bif_eq rfl (bif_eq rfl (bif_eq rfl (bif_eq rfl ?_)))
 refine idxS (g := fun x : Int => [Value.int .u64 x]) (l := [1]) (fun _ => rfl) 0 (h9.row_rd (i := 0) rfl) (by omega) (by omega) (by simp) fun b1 o1 _ hl1 hcc => ?_
 refine ldI_of (hcc 0 (by omega)) (bif_eq rfl ?_)
 refine cyStateC h9 (k := 1) rfl ?_
 simp only [Za,Zb,Zc,Zd,Zf,Zh,Zi,Zk,Zl,Zm,Zn,Zo,Zp,Zr,Zs,Zx,Zt,Zu,Zy,Zz,Zv,Zw,ZA,ZB,ZC,ZD]
 refine bif_eq rfl (hLen h9 (i := 2) rfl ?_)
 simp only [Za,Zb,Zc,Zd,Zf,Zh,Zi,Zk,Zl,Zm,Zn,Zo,Zp,Zr,Zs,Zx,Zt,Zu,Zy,Zz,Zv,Zw,ZA,ZB,ZC,ZD]
 have hz := hFree_len ho (k := 1) (by unfold hGet; rw [a4]; simp)
 rw [a4] at hz
 have hz : (hFree s1 1).2.obs.length = 0 := by simpa using hz
 rw [hz]
 exact hK H9 (St.lesses (M := [_, _, _]) h9)
end
end Go.Proofs.YtflfodcemnapeaaGreat

namespace Go.Proofs.YtflfodcemnapeaaGreat
open Go
set_option linter.unusedVariables false
set_option maxRecDepth 100000
def B_law16_CyclePlays (gRefsP1 : Option Addr) (gRefsL2 : Nat) (gRefsC3 : Nat) (gOutP4 : Option Addr) (gOutL5 : Nat) (gOutC6 : Nat) (gInP7 : Option Addr) (gInL8 : Nat) (gInC9 : Nat) (mutators10 : Int) (grey11 : Int) (suspect12 : Int) (work13 : Int) (lP14 : Option Addr) (lL15 : Nat) (lC16 : Nat) (H : Hp) (K : Value → Hp → Prop) : Prop :=
 newB (.cells #[(.slice gRefsP1 gRefsL2 gRefsC3), (.slice gOutP4 gOutL5 gOutC6), (.slice gInP7 gInL8 gInC9)] ty_hand_Graph) H fun b17 Hx18 =>
 ldSl ⟨b17, 0, none⟩ Hx18 fun RefsP19 RefsL20 RefsC21 =>
 ldSl ⟨b17, 1, none⟩ Hx18 fun OutP22 OutL23 OutC24 =>
 ldSl ⟨b17, 2, none⟩ Hx18 fun InP25 InL26 InC27 =>
 hcall PR f_hand_Graph_Heaps ⟨[(.agg #[(.slice RefsP19 RefsL20 RefsC21), (.slice OutP22 OutL23 OutC24), (.slice InP25 InL26 InC27)]), (.int .i64 20)]⟩ Hx18 fun v28 Hx29 =>
 tup2 v28 fun v30 v31 =>
 asP v30 fun t32 =>
 asP v31 fun t33 =>
 hcall PR f_law16_known ⟨[]⟩ Hx29 fun v34 Hx35 =>
 asB v34 fun t36 =>
 (bif (!t36) then
 K (.bool false) Hx35
else
 (bif (Option.isNone (α := Addr) t32) then
 K (.bool false) Hx35
else
 hcall PR f_hand_Pick ⟨[(.int .i64 mutators10), (.int .i64 3)]⟩ Hx35 fun v37 Hx38 =>
 asI .i64 v37 fun t39 =>
 hcall PR f_hand_Pick ⟨[(.int .i64 grey11), (.int .i64 6)]⟩ Hx38 fun v40 Hx41 =>
 asI .i64 v40 fun t42 =>
 hcall PR f_hand_Pick ⟨[(.int .i64 suspect12), (.int .i64 7)]⟩ Hx41 fun v43 Hx44 =>
 asI .i64 v43 fun t45 =>
 hcall PR f_hand_Pick ⟨[(.int .i64 work13), (.int .i64 9)]⟩ Hx44 fun v46 Hx47 =>
 asI .i64 v46 fun t48 =>
 hcall PR f_cycle_New ⟨[(.pointer t32), (.int .i64 (IntKind.i64.wrap (1 + t39))), (.int .i64 (IntKind.i64.wrap (1 + t42))), (.int .i64 t45), (.int .i64 (IntKind.i64.wrap (1 + t48)))]⟩ Hx47 fun v49 Hx50 =>
 tup2 v49 fun v51 v52 =>
 asP v51 fun t53 =>
 asI .i64 v52 fun t54 =>
 (bif ((t54 : Int) != 0) then
 K (.bool false) Hx50
else
 (bif (Option.isNone (α := Addr) t53) then
 K (.bool false) Hx50
else
 hcall PR f_ref16_New ⟨[(.pointer t33), (.int .i64 (IntKind.i64.wrap (1 + t39))), (.int .i64 (IntKind.i64.wrap (1 + t42))), (.int .i64 t45), (.int .i64 (IntKind.i64.wrap (1 + t48)))]⟩ Hx50 fun v55 Hx56 =>
 asP v55 fun t57 =>
 ∃ (I58 : Int → Hp → Prop) (m59 : Int → Hp → Nat), I58 0 Hx56 ∧ ∀ i61 : Int, ∀ Hx60 : Hp, I58 i61 Hx60 →
 (bif (decide ((i61 : Int) < (lL15 : Int))) then
 (bif (decide ((i61 : Int) < 250)) then
 idxA lP14 lL15 i61 8 fun el62 =>
 ldI .i64 el62 Hx60 fun What63 =>
 ldI .i64 (el62.add 1) Hx60 fun M64 =>
 ldI .i64 (el62.add 2) Hx60 fun A65 =>
 ldI .u64 (el62.add 3) Hx60 fun Serial66 =>
 ldI .i64 (el62.add 4) Hx60 fun Node67 =>
 ldI .u64 (el62.add 5) Hx60 fun Serial68 =>
 ldI .i64 (el62.add 6) Hx60 fun Node69 =>
 ldI .u64 (el62.add 7) Hx60 fun Serial70 =>
 newB (.cells #[(.int .i64 0), (.int .i64 0), (.int .i64 0), (.int .u64 0), (.int .i64 0), (.int .u64 0), (.int .i64 0), (.int .u64 0)] ty_law16_Step) Hx60 fun b71 Hx72 =>
 st ⟨b71, 0, none⟩ (.int .i64 What63) Hx72 fun Hx73 =>
 st ⟨b71, 1, none⟩ (.int .i64 M64) Hx73 fun Hx74 =>
 st ⟨b71, 2, none⟩ (.int .i64 A65) Hx74 fun Hx75 =>
 st ⟨b71, 3, none⟩ (.int .u64 Serial66) Hx75 fun Hx76 =>
 st ⟨b71, 4, none⟩ (.int .i64 Node67) Hx76 fun Hx77 =>
 st ⟨b71, 5, none⟩ (.int .u64 Serial68) Hx77 fun Hx78 =>
 st ⟨b71, 6, none⟩ (.int .i64 Node69) Hx78 fun Hx79 =>
 st ⟨b71, 7, none⟩ (.int .u64 Serial70) Hx79 fun Hx80 =>
 ldI .u64 ⟨b71, 3, none⟩ Hx80 fun Serial81 =>
 nilP t33 fun ta82 =>
 ldI .u64 (ta82.add 2) Hx80 fun Last83 =>
 ((IntKind.u64.wrap (Last83 + 2)) : Int) ≠ 0 ∧
 ldI .i64 ⟨b71, 1, none⟩ Hx80 fun M84 =>
 hcall PR f_hand_Pick ⟨[(.int .i64 M84), (.int .i64 (IntKind.i64.wrap ((IntKind.i64.wrap (1 + t39)) + 2)))]⟩ Hx80 fun v85 Hx86 =>
 asI .i64 v85 fun t87 =>
 ∀ R88 : Hp → Prop, (∀ Hx89 : Hp, (
 ∀ R90 : Bool → Hp → Prop, (∀ ok92 : Bool, ∀ Hx91 : Hp, (
 (bif (!ok92) then
 K (.bool false) Hx91
else
 hcall PR f_law16_same ⟨[(.pointer t53), (.pointer t57), (.pointer t32), (.pointer t33)]⟩ Hx91 fun v93 Hx94 =>
 asB v93 fun t95 =>
 (bif (!t95) then
 K (.bool false) Hx94
else
 I58 (IntKind.i64.wrap (i61 + 1)) Hx94 ∧ m59 (IntKind.i64.wrap (i61 + 1)) Hx94 < m59 i61 Hx60))) → R90 ok92 Hx91) →
 ldI .i64 ⟨b71, 0, none⟩ Hx89 fun What96 =>
 hcall PR f_hand_Pick ⟨[(.int .i64 What96), (.int .i64 12)]⟩ Hx89 fun v97 Hx98 =>
 asI .i64 v97 fun t99 =>
 ∀ R100 : Bool → Hp → Prop, (∀ t102 : Bool, ∀ Hx101 : Hp, (
 (bif t102 then
 ldI .i64 ⟨b71, 4, none⟩ Hx101 fun Node103 =>
 ldI .u64 ⟨b71, 5, none⟩ Hx101 fun Serial104 =>
 ldI .i64 ⟨b71, 6, none⟩ Hx101 fun Node105 =>
 ldI .u64 ⟨b71, 7, none⟩ Hx101 fun Serial106 =>
 newB (.cells #[(.int .i64 Node103), (.int .u64 Serial104), (.int .i64 Node105), (.int .u64 Serial106)] ty_api_ID) Hx101 fun b107 Hx108 =>
 hcall PR f_cycle_Cycle_Shake ⟨[(.pointer t53), (.int .i64 t87), (.slice (some ⟨b107, 0, none⟩) 2 2)]⟩ Hx108 fun v109 Hx110 =>
 asB v109 fun t111 =>
 hcall PR f_ref16_Cycle_Shake ⟨[(.pointer t57), (.int .i64 t87), (.slice (some ⟨b107, 0, none⟩) 2 2)]⟩ Hx110 fun v112 Hx113 =>
 asB v112 fun t114 =>
 R90 (t111 == t114) Hx113
else
 (bif ((t99 : Int) == 7) then
 ∀ R115 : Option Addr → Int → Hp → Prop, (∀ old117 : Option Addr, ∀ f118 : Int, ∀ Hx116 : Hp, (
 ldI .i64 ⟨b71, 2, none⟩ Hx116 fun A119 =>
 ldI .i64 ⟨b71, 6, none⟩ Hx116 fun Node120 =>
 ldI .u64 ⟨b71, 7, none⟩ Hx116 fun Serial121 =>
 hcall PR f_hand_Pick ⟨[(.int .i64 A119), (.int .i64 3)]⟩ Hx116 fun v122 Hx123 =>
 asI .i64 v122 fun t124 =>
 (ldI .i64 ⟨b71, 6, none⟩ Hx123 fun Node125 =>
 ldI .u64 ⟨b71, 7, none⟩ Hx123 fun Serial126 =>
 ((.agg #[(.int .i64 Node125), (.int .u64 Serial126)]) : Value) = (.agg #[(.int .i64 Node120), (.int .u64 Serial121)])) ∧
 hcall PR f_ref8_Heap_SetRef ⟨[(.pointer t33), (.int .u64 (Int.tmod Serial81 (IntKind.u64.wrap (Last83 + 2)))), (.int .i64 t124), (.agg #[(.int .i64 Node120), (.int .u64 Serial121)])]⟩ Hx123 fun v127 Hx128 =>
 tup2 v127 fun v129 v130 =>
 agg2 v129 fun v131 v132 =>
 asI .i64 v131 fun Node133 =>
 asI .u64 v132 fun Serial134 =>
 asI .i64 v130 fun t135 =>
 (bif ((f118 : Int) == 0) then
 asA (.pointer old117) fun olda136 =>
 ldI .i64 olda136 Hx128 fun Node137 =>
 ldI .u64 (olda136.add 1) Hx128 fun Serial138 =>
 ldI .i64 ⟨b71, 6, none⟩ Hx128 fun Node139 =>
 ldI .u64 ⟨b71, 7, none⟩ Hx128 fun Serial140 =>
 hcall PR f_cycle_Cycle_Store ⟨[(.pointer t53), (.int .i64 t87), (.agg #[(.int .i64 Node137), (.int .u64 Serial138)]), (.agg #[(.int .i64 Node139), (.int .u64 Serial140)])]⟩ Hx128 fun v141 Hx142 =>
 asA (.pointer old117) fun olda143 =>
 ldI .i64 olda143 Hx142 fun Node144 =>
 ldI .u64 (olda143.add 1) Hx142 fun Serial145 =>
 ldI .i64 ⟨b71, 6, none⟩ Hx142 fun Node146 =>
 ldI .u64 ⟨b71, 7, none⟩ Hx142 fun Serial147 =>
 hcall PR f_ref16_Cycle_Store ⟨[(.pointer t57), (.int .i64 t87), (.agg #[(.int .i64 Node144), (.int .u64 Serial145)]), (.agg #[(.int .i64 Node146), (.int .u64 Serial147)])]⟩ Hx142 fun v148 Hx149 =>
 R90 true Hx149
else
 R90 true Hx128)) → R115 old117 f118 Hx116) →
 ldI .i64 ⟨b71, 2, none⟩ Hx101 fun A150 =>
 ldI .i64 ⟨b71, 6, none⟩ Hx101 fun Node151 =>
 ldI .u64 ⟨b71, 7, none⟩ Hx101 fun Serial152 =>
 (hcall PR f_hand_Pick ⟨[(.int .i64 A150), (.int .i64 3)]⟩ Hx101 fun v153 Hx154 =>
 asI .i64 v153 fun t155 =>
 (ldI .i64 ⟨b71, 6, none⟩ Hx154 fun Node156 =>
 ldI .u64 ⟨b71, 7, none⟩ Hx154 fun Serial157 =>
 ((.agg #[(.int .i64 Node156), (.int .u64 Serial157)]) : Value) = (.agg #[(.int .i64 Node151), (.int .u64 Serial152)])) ∧
 (hcall PR f_heap_Heap_SetRef ⟨[(.pointer t32), (.int .u64 (Int.tmod Serial81 (IntKind.u64.wrap (Last83 + 2)))), (.int .i64 t155), (.agg #[(.int .i64 Node151), (.int .u64 Serial152)])]⟩ Hx154 fun v158 Hx159 =>
 tup2 v158 fun v160 v161 =>
 agg2 v160 fun v162 v163 =>
 asI .i64 v162 fun Node164 =>
 asI .u64 v163 fun Serial165 =>
 asI .i64 v161 fun t166 =>
 newB (.cells #[(.int .i64 0), (.int .u64 0)] ty_api_ID) Hx159 fun b167 Hx168 =>
 st ⟨b167, 0, none⟩ (.int .i64 Node164) Hx168 fun Hx169 =>
 st ⟨b167, 1, none⟩ (.int .u64 Serial165) Hx169 fun Hx170 =>
 R115 (some ⟨b167, 0, none⟩) t166 Hx170) ∧
 (newB (.cells #[(.int .i64 0), (.int .u64 0)] ty_api_ID) Hx154 fun b171 Hx172 =>
 (ldI .i64 ⟨b71, 6, none⟩ Hx172 fun Node173 =>
 ldI .u64 ⟨b71, 7, none⟩ Hx172 fun Serial174 =>
 ((.agg #[(.int .i64 Node173), (.int .u64 Serial174)]) : Value) = (.agg #[(.int .i64 Node151), (.int .u64 Serial152)])) ∧
 hcall PR f_heap_Heap_SetRef ⟨[(.pointer t32), (.int .u64 (Int.tmod Serial81 (IntKind.u64.wrap (Last83 + 2)))), (.int .i64 t155), (.agg #[(.int .i64 Node151), (.int .u64 Serial152)])]⟩ Hx172 fun v175 Hx176 =>
 tup2 v175 fun v177 v178 =>
 agg2 v177 fun v179 v180 =>
 asI .i64 v179 fun Node181 =>
 asI .u64 v180 fun Serial182 =>
 asI .i64 v178 fun t183 =>
 st ⟨b171, 0, none⟩ (.int .i64 Node181) Hx176 fun Hx184 =>
 st ⟨b171, 1, none⟩ (.int .u64 Serial182) Hx184 fun Hx185 =>
 R115 (some ⟨b171, 0, none⟩) t183 Hx185)) ∧
 (newB (.cells #[(.int .i64 0), (.int .u64 0)] ty_api_ID) Hx101 fun b186 Hx187 =>
 (ldI .i64 ⟨b71, 6, none⟩ Hx187 fun Node188 =>
 ldI .u64 ⟨b71, 7, none⟩ Hx187 fun Serial189 =>
 ((.agg #[(.int .i64 Node188), (.int .u64 Serial189)]) : Value) = (.agg #[(.int .i64 Node151), (.int .u64 Serial152)])) ∧
 (ldI .i64 ⟨b71, 2, none⟩ Hx187 fun A190 =>
 ((.int .i64 A190) : Value) = (.int .i64 A150)) ∧
 hcall PR f_hand_Pick ⟨[(.int .i64 A150), (.int .i64 3)]⟩ Hx187 fun v191 Hx192 =>
 asI .i64 v191 fun t193 =>
 (ldI .i64 ⟨b71, 6, none⟩ Hx192 fun Node194 =>
 ldI .u64 ⟨b71, 7, none⟩ Hx192 fun Serial195 =>
 ((.agg #[(.int .i64 Node194), (.int .u64 Serial195)]) : Value) = (.agg #[(.int .i64 Node151), (.int .u64 Serial152)])) ∧
 hcall PR f_heap_Heap_SetRef ⟨[(.pointer t32), (.int .u64 (Int.tmod Serial81 (IntKind.u64.wrap (Last83 + 2)))), (.int .i64 t193), (.agg #[(.int .i64 Node151), (.int .u64 Serial152)])]⟩ Hx192 fun v196 Hx197 =>
 tup2 v196 fun v198 v199 =>
 agg2 v198 fun v200 v201 =>
 asI .i64 v200 fun Node202 =>
 asI .u64 v201 fun Serial203 =>
 asI .i64 v199 fun t204 =>
 st ⟨b186, 0, none⟩ (.int .i64 Node202) Hx197 fun Hx205 =>
 st ⟨b186, 1, none⟩ (.int .u64 Serial203) Hx205 fun Hx206 =>
 R115 (some ⟨b186, 0, none⟩) t204 Hx206)
else
 (bif ((t99 : Int) == 8) then
 hcall PR f_heap_Heap_Make ⟨[(.pointer t32), (.int .i64 2), (.int .i64 0)]⟩ Hx101 fun v207 Hx208 =>
 tup2 v207 fun v209 v210 =>
 asI .u64 v209 fun t211 =>
 asI .i64 v210 fun t212 =>
 hcall PR f_ref8_Heap_Make ⟨[(.pointer t33), (.int .i64 2), (.int .i64 0)]⟩ Hx208 fun v213 Hx214 =>
 tup2 v213 fun v215 v216 =>
 asI .u64 v215 fun t217 =>
 asI .i64 v216 fun t218 =>
 (bif ((t212 : Int) == 0) then
 hcall PR f_cycle_Cycle_Born ⟨[(.pointer t53), (.int .i64 t87), (.int .u64 t211)]⟩ Hx214 fun v219 Hx220 =>
 hcall PR f_ref16_Cycle_Born ⟨[(.pointer t57), (.int .i64 t87), (.int .u64 t211)]⟩ Hx220 fun v221 Hx222 =>
 R90 true Hx222
else
 R90 true Hx214)
else
 (bif ((t99 : Int) == 9) then
 ldI .i64 ⟨b71, 4, none⟩ Hx101 fun Node223 =>
 ldI .u64 ⟨b71, 5, none⟩ Hx101 fun Serial224 =>
 hcall PR f_cycle_Cycle_Touch ⟨[(.pointer t53), (.agg #[(.int .i64 Node223), (.int .u64 Serial224)])]⟩ Hx101 fun v225 Hx226 =>
 ldI .i64 ⟨b71, 4, none⟩ Hx226 fun Node227 =>
 ldI .u64 ⟨b71, 5, none⟩ Hx226 fun Serial228 =>
 hcall PR f_ref16_Cycle_Touch ⟨[(.pointer t57), (.agg #[(.int .i64 Node227), (.int .u64 Serial228)])]⟩ Hx226 fun v229 Hx230 =>
 R90 true Hx230
else
 (bif ((t99 : Int) == 10) then
 ldI .i64 ⟨b71, 2, none⟩ Hx101 fun A231 =>
 hcall PR f_hand_Pick ⟨[(.int .i64 A231), (.int .i64 9)]⟩ Hx101 fun v232 Hx233 =>
 asI .i64 v232 fun t234 =>
 hcall PR f_heap_Heap_SetIn ⟨[(.pointer t32), (.int .u64 (Int.tmod Serial81 (IntKind.u64.wrap (Last83 + 2)))), (.int .i64 t234)]⟩ Hx233 fun v235 Hx236 =>
 asI .i64 v235 fun t237 =>
 ldI .i64 ⟨b71, 2, none⟩ Hx236 fun A238 =>
 hcall PR f_hand_Pick ⟨[(.int .i64 A238), (.int .i64 9)]⟩ Hx236 fun v239 Hx240 =>
 asI .i64 v239 fun t241 =>
 hcall PR f_ref8_Heap_SetIn ⟨[(.pointer t33), (.int .u64 (Int.tmod Serial81 (IntKind.u64.wrap (Last83 + 2)))), (.int .i64 t241)]⟩ Hx240 fun v242 Hx243 =>
 asI .i64 v242 fun t244 =>
 R90 true Hx243
else
 (bif ((t99 : Int) == 11) then
 ldI .i64 ⟨b71, 4, none⟩ Hx101 fun Node245 =>
 ldI .u64 ⟨b71, 5, none⟩ Hx101 fun Serial246 =>
 ldI .i64 ⟨b71, 6, none⟩ Hx101 fun Node247 =>
 ldI .u64 ⟨b71, 7, none⟩ Hx101 fun Serial248 =>
 hcall PR f_cycle_Cycle_Store ⟨[(.pointer t53), (.int .i64 t87), (.agg #[(.int .i64 Node245), (.int .u64 Serial246)]), (.agg #[(.int .i64 Node247), (.int .u64 Serial248)])]⟩ Hx101 fun v249 Hx250 =>
 ldI .i64 ⟨b71, 4, none⟩ Hx250 fun Node251 =>
 ldI .u64 ⟨b71, 5, none⟩ Hx250 fun Serial252 =>
 ldI .i64 ⟨b71, 6, none⟩ Hx250 fun Node253 =>
 ldI .u64 ⟨b71, 7, none⟩ Hx250 fun Serial254 =>
 hcall PR f_ref16_Cycle_Store ⟨[(.pointer t57), (.int .i64 t87), (.agg #[(.int .i64 Node251), (.int .u64 Serial252)]), (.agg #[(.int .i64 Node253), (.int .u64 Serial254)])]⟩ Hx250 fun v255 Hx256 =>
 R90 true Hx256
else
 ldI .u64 ⟨b71, 3, none⟩ Hx101 fun Serial257 =>
 hcall PR f_cycle_Cycle_Step ⟨[(.pointer t53), (.int .u64 Serial257)]⟩ Hx101 fun v258 Hx259 =>
 tup2 v258 fun v260 v261 =>
 asSl v260 fun tP262 tL263 tC264 =>
 asB v261 fun t265 =>
 ldI .u64 ⟨b71, 3, none⟩ Hx259 fun Serial266 =>
 hcall PR f_ref16_Cycle_Step ⟨[(.pointer t57), (.int .u64 Serial266)]⟩ Hx259 fun v267 Hx268 =>
 tup2 v267 fun v269 v270 =>
 asSl v269 fun tP271 tL272 tC273 =>
 asB v270 fun t274 =>
 (bif (t265 == t274) then
 hcall PR f_ref2_Numbers ⟨[(.slice tP262 tL263 tC264), (.slice tP271 tL272 tC273)]⟩ Hx268 fun v275 Hx276 =>
 asB v275 fun t277 =>
 R90 t277 Hx276
else
 R90 false Hx268)))))))) → R100 t102 Hx101) →
 (bif ((t99 : Int) == 5) then
 R100 ((t99 : Int) == 5) Hx98
else
 R100 ((t99 : Int) == 6) Hx98)) → R88 Hx89) →
 ldI .i64 ⟨b71, 2, none⟩ Hx86 fun A278 =>
 (4 : Int) ≠ 0 ∧
 (bif (decide (((Int.tmod A278 4) : Int) > 0)) then
 hcall PR f_law16_id ⟨[(.int .u64 (Int.tmod Serial81 (IntKind.u64.wrap (Last83 + 2))))]⟩ Hx86 fun v279 Hx280 =>
 agg2 v279 fun v281 v282 =>
 asI .i64 v281 fun Node283 =>
 asI .u64 v282 fun Serial284 =>
 st ⟨b71, 4, none⟩ (.int .i64 Node283) Hx280 fun Hx285 =>
 st ⟨b71, 5, none⟩ (.int .u64 Serial284) Hx285 fun Hx286 =>
 ldI .i64 ⟨b71, 2, none⟩ Hx286 fun A287 =>
 nilP t33 fun ta288 =>
 ldI .u64 (ta288.add 2) Hx286 fun Last289 =>
 hcall PR f_hand_Pick ⟨[(.int .i64 A287), (.int .i64 5)]⟩ Hx286 fun v290 Hx291 =>
 asI .i64 v290 fun t292 =>
 (ldI .u64 (ta288.add 2) Hx291 fun Last293 =>
 ((.int .u64 Last293) : Value) = (.int .u64 Last289)) ∧
 ((IntKind.u64.wrap (Last289 + 2)) : Int) ≠ 0 ∧
 hcall PR f_law16_id ⟨[(.int .u64 (Int.tmod (IntKind.u64.wrap ((Int.tmod Serial81 (IntKind.u64.wrap (Last83 + 2))) + (IntKind.u64.wrap t292))) (IntKind.u64.wrap (Last289 + 2))))]⟩ Hx291 fun v294 Hx295 =>
 agg2 v294 fun v296 v297 =>
 asI .i64 v296 fun Node298 =>
 asI .u64 v297 fun Serial299 =>
 st ⟨b71, 6, none⟩ (.int .i64 Node298) Hx295 fun Hx300 =>
 st ⟨b71, 7, none⟩ (.int .u64 Serial299) Hx300 fun Hx301 =>
 R88 Hx301
else
 R88 Hx86)
else
 K (.bool true) Hx60)
else
 K (.bool true) Hx60)))))
theorem E_law16_CyclePlays (gRefsP1 : Option Addr) (gRefsL2 : Nat) (gRefsC3 : Nat) (gOutP4 : Option Addr) (gOutL5 : Nat) (gOutC6 : Nat) (gInP7 : Option Addr) (gInL8 : Nat) (gInC9 : Nat) (mutators10 : Int) (grey11 : Int) (suspect12 : Int) (work13 : Int) (lP14 : Option Addr) (lL15 : Nat) (lC16 : Nat) (H : Hp) (K : Value → Hp → Prop) : B_law16_CyclePlays gRefsP1 gRefsL2 gRefsC3 gOutP4 gOutL5 gOutC6 gInP7 gInL8 gInC9 mutators10 grey11 suspect12 work13 lP14 lL15 lC16 H K = denF Tryz.prog Tryz.f3 (.seq none .n (.seq none .n (.seq none .n (.seq none .n (.seq none .n (.seq none .n (.seq none .n (.seq none .n (.seq none .n (.seq none .n (.seq none (.seq none .n (.sub (.loop ⟨[(18, .int .i64)], [1, 5, 13, 14, 15, 17]⟩ (.seq none .n (.seq none (.sub (.seq none .n (.seq none .n (.seq none .n (.seq (some ⟨[], [1, 5, 13, 14, 15, 17, 18, 19, 20, 21]⟩) .n (.seq none .n (.seq (some ⟨[(22, .bool)], [1, 5, 13, 14, 15, 17, 18]⟩) (.seq none .n (.sub (.seq (some ⟨[(148, .bool)], [1, 5, 13, 14, 15, 17, 18, 19, 20, 21, 22, 125]⟩) .n (.two .n (.seq none .n (.two (.seq (some ⟨[(24, .ptr), (25, .int .i64)], [1, 5, 13, 14, 15, 17, 18, 19, 20, 21, 22]⟩) .n .n) .n)))))) .n))))))) .n))))) .n))))))))))) [(.agg #[(.slice gRefsP1 gRefsL2 gRefsC3), (.slice gOutP4 gOutL5 gOutC6), (.slice gInP7 gInL8 gInC9)]), (.int .i64 mutators10), (.int .i64 grey11), (.int .i64 suspect12), (.int .i64 work13), (.slice lP14 lL15 lC16)] H K := by kernel_rfl
theorem den_law16_CyclePlays {gRefsP1 : Option Addr} {gRefsL2 : Nat} {gRefsC3 : Nat} {gOutP4 : Option Addr} {gOutL5 : Nat} {gOutC6 : Nat} {gInP7 : Option Addr} {gInL8 : Nat} {gInC9 : Nat} {mutators10 : Int} {grey11 : Int} {suspect12 : Int} {work13 : Int} {lP14 : Option Addr} {lL15 : Nat} {lC16 : Nat} {H : Hp} {K : Value → Hp → Prop} (h : B_law16_CyclePlays gRefsP1 gRefsL2 gRefsC3 gOutP4 gOutL5 gOutC6 gInP7 gInL8 gInC9 mutators10 grey11 suspect12 work13 lP14 lL15 lC16 H K) : hcall PR f_law16_CyclePlays ⟨[(.agg #[(.slice gRefsP1 gRefsL2 gRefsC3), (.slice gOutP4 gOutL5 gOutC6), (.slice gInP7 gInL8 gInC9)]), (.int .i64 mutators10), (.int .i64 grey11), (.int .i64 suspect12), (.int .i64 work13), (.slice lP14 lL15 lC16)]⟩ H K := denF_call Tryz.func3 PR_mixed (Eq.mp (E_law16_CyclePlays gRefsP1 gRefsL2 gRefsC3 gOutP4 gOutL5 gOutC6 gInP7 gInL8 gInC9 mutators10 grey11 suspect12 work13 lP14 lL15 lC16 H K) h)

end Go.Proofs.YtflfodcemnapeaaGreat

namespace Go.Proofs.YtflfodcemnapeaaGreat
set_option linter.unusedSimpArgs false
set_option linter.unusedVariables false
open Go
theorem rySteps_last {stir : Int} : ∀ {m : Nat} {s : Hs} {c : Cy} {fr : List Int}, (cySteps stir m s c fr).2.1.last = s.last ∧ (cySteps stir m s c fr).2.1.node = s.node
 | 0, s, c, fr => ⟨rfl, rfl⟩
 | m + 1, s, c, fr => by
  have h1 := unit_last (s := s) (c := c) (stir := stir)
  unfold cySteps
  split
  ·exact h1
  ·have h2 := rySteps_last (m := m) (s := (cyUnit s c stir).s) (c := (cyUnit s c stir).c) (fr := if (cyUnit s c stir).freed ≠ 0 then fr ++ [(cyUnit s c stir).freed] else fr) (stir := stir)
   exact ⟨h2.1.trans h1.1, h2.2.trans h1.2⟩
theorem steps_freed_len {stir : Int} : ∀ {m : Nat} {s : Hs} {c : Cy} {fr : List Int} {n : Nat}, fr.length + m < n → (cySteps stir m s c fr).1.1.length < n
 | 0, s, c, fr, n, h => by have : (cySteps stir 0 s c fr).1.1 = fr := rfl; rw [this]; omega
 | m + 1, s, c, fr, n, h => by
  unfold cySteps
  split
  ·simp only; omega
  ·refine steps_freed_len ?_
   split
   ·rw [List.length_append]; simp; omega
   ·omega
theorem setRef_same {s : Hs} {k f : Int} {y : Id} : (hSetRef s k f y).2.2.last = s.last ∧ (hSetRef s k f y).2.2.node = s.node := by
 unfold hSetRef
 split
 ·exact ⟨rfl, rfl⟩
 ·split <;> exact ⟨rfl, rfl⟩
theorem setIn_same {s : Hs} {k d : Int} : (hSetIn s k d).2.last = s.last ∧ (hSetIn s k d).2.node = s.node := by
 unfold hSetIn
 split
 ·exact ⟨rfl, rfl⟩
 ·split <;> exact ⟨rfl, rfl⟩
theorem doomed_out {s : Hs} {c : Cy} {q : Int} (ho : s.ok) (h : q < 1 ∨ s.last < q) : cyDoomed s c q = false := by
 unfold cyDoomed
 cases hg : hGet s q with
 | none => simp
 | some o =>
  have := get_ser ho (m := q) (by rw [hg]; simp)
  omega

section
variable {H0 H : Hp} {L M N : List Prt} {i j k b rb : Nat} {x : RYX} {s : Hs} {c : Cy} {stir : Int} {K : Value → Hp → Prop}
/-- It is made. -/
theorem ryNewC {n grey sus work l : Int} (h : St H0 L H) (hn : 1 ≤ n ∧ n ≤ 4) (hg : 1 ≤ grey ∧ grey ≤ 64) (hs : 0 ≤ sus ∧ sus ≤ 40) (hw : 1 ≤ work ∧ work ≤ 64)
  (hK : ∀ b H', St H0 (RyP b rb (newCy n grey sus work l) :: L) H' → K (.pointer (some ⟨b, 0, none⟩)) H') :
  hcall PR f_ref16_New ⟨[.pointer (some ⟨rb, 0, none⟩), .int .i64 n, .int .i64 grey, .int .i64 sus, .int .i64 work]⟩ H K := by
 apply den_ref16_New
 unfold B_ref16_New
 (try simp only [Za,Zb,Zc,Zd,Zf,Zh,Zi,Zk,Zl,Zm,Zn,Zo,Zp,Zr,Zs,Zx,Zt,Zu,Zy,Zz,Zv,Zw,ZA,ZB,ZC,ZD])
 refine bif_neg (by omega) (bif_neg (by omega) (bif_neg (by omega) (bif_neg (by omega) (bif_neg (by omega) (bif_neg (by omega) (bif_neg (by omega) (bif_neg (by omega) ?_)))))))
 refine rNewPaintC h hg.1 hg.2 fun qb H1 h1 => ?_
 (try simp only [Za,Zb,Zc,Zd,Zf,Zh,Zi,Zk,Zl,Zm,Zn,Zo,Zp,Zr,Zs,Zx,Zt,Zu,Zy,Zz,Zv,Zw,ZA,ZB,ZC,ZD])
 refine rNew_ok hn.1 hn.2 fun kb F H2 hh gg => ?_
 have h2 := h1.new hh gg
 (try simp only [Za,Zb,Zc,Zd,Zf,Zh,Zi,Zk,Zl,Zm,Zn,Zo,Zp,Zr,Zs,Zx,Zt,Zu,Zy,Zz,Zv,Zw,ZA,ZB,ZC,ZD])
 intro b12 hb12
 have h3 := h2.alloc (o := .cells #[ptrV rb, ptrV qb, ptrV kb, .pointer none, .pointer none, .pointer none, .int .i64 n, .int .i64 sus, .int .i64 work, .int .i64 0, .int .u64 0, .int .u64 0, .slice none 0 0, .slice none 0 0, .bool false] ty_ref16_Cycle) hb12
 intro b14 hb14
 have h4 := h3.alloc (o := .cells #[ptrV rb, ptrV qb, .int .u64 0, .int .u64 0, .bool false] ty_ref11_Marker) hb14
 refine h4.put (i := 1) rfl (by simp) fun H5 h5 => ?_
 intro b17 hb17
 have h6 := h5.alloc (o := .cells #[ptrV rb, ptrV qb, .slice none 0 0, .int .u64 0, .int .i64 0, .bool false, .int .u64 0, .slice none 0 0, .slice none 0 0, .int .i64 0, .slice none 0 0, .slice none 0 0] ty_ref11_Reacher) hb17
 refine h6.put (i := 2) rfl (by simp) fun H7 h7 => ?_
 intro b20 hb20
 have h8 := h7.alloc (o := .cells #[ptrV rb, ptrV qb, .int .u64 0, .int .u64 0] ty_ref11_Sweeper) hb20
 refine h8.put (i := 3) rfl (by simp) fun H9 h9 => ?_
 clear h3 h4 h5 h6 h7 h8 h1 h2
 obtain ⟨X, hX⟩ : ∃ X : RYX, X = ⟨qb, kb, b14, b17, b20, 0, n, .slice none 0 0, .int .u64 0, .int .i64 0, .bool false, .int .u64 0, .slice none 0 0, .slice none 0 0, .int .i64 0, .slice none 0 0, .slice none 0 0, ty_ref11_Reacher, 0, 0, none, 0, none, 0, ty_ref16_Cycle, ty_ref11_Sweeper⟩ := ⟨_, rfl⟩
 have hok : RyOk (newCy n grey sus work l) X := ⟨newCy_ok hn hg hs hw, by rw [hX]; simp [newCy]; omega, fun _ => by simp [newCy], fun h => by (cases h), fun h => by (cases h)⟩
 have e1 := h9.say hok
 have e2 := e1.row (H' := _) (Own.nil 3) ((Goes.refl Nothing _).less fun c hc => absurd hc blk_none)
 have e3 := e2.say (p := ([] : List RcQ).map (·.1) = ([] : List (Int × List Id))) rfl
 have e4 := St.gather (M := []) e3
 have e5 := e4.row (H' := _) (Own.nil 2) ((Goes.refl Nothing _).less fun c hc => absurd hc blk_none)
 have e6 : St H0 (RowsP none 0 [] :: Prt.row 3 none 0 0 [] :: _) H9 := St.gatherEx (M := fun qs : List RcQ => [Prt.row 2 none qs.length 0 (cel rcRowC qs), Prt.list (qs.map rcRowP), Prt.pure (qs.map (·.1) = [])]) [] (e5.pick 3 [0, 1, 2] rfl rfl)
 have e7 := e6.pick 9 [6, 7, 8, 5, 4, 3, 0, 1, 2] rfl rfl
 refine hK b12 H9 (St.gatherEx (M := ryL b12 rb (newCy n grey sus work l)) X ?_)
 have hd : (newCy n grey sus work l).dst = 0 := rfl
 have hr : ryR rb (newCy n grey sus work l).st (newCy n grey sus work l).r X = ryBare rb X := if_neg (by show ¬ (0 : Int) = 4; decide)
 unfold ryL
 rw [hd, hr]
 rw [hX] at e7 ⊢
 exact e7

/-! ## Held against one another -/
/-- Going to an object; it stays there. -/
theorem rIdx {Q : Addr → Prop} {z : RhX} {y : Nat} (v : RHeapV H rb s z) {o : Ob} {bo : Nat} (hj : z.ps[y]? = some (o, bo)) (hQ : ∀ a, (∀ H', RHeapV H' rb s z → hcell H' a = some (ptrV bo)) → Q a) : idxA z.p z.ps.length (y : Int) 1 Q := by
 have hlt := ltOfGet hj
 refine idx1 (g := fun p : Ob × Nat => ptrV p.2) (d := (⟨0, 0, [], [], 0⟩, 0)) v.row (by omega) (by omega) fun bb oo hp _ => hQ _ fun H' v' => ?_
 have h1 := Rd.cell v'.row hp (i := y) (by omega)
 rw [Int.toNat_natCast, h1, List.getElem?_map, hj]
 rfl

set_option maxRecDepth 20000 in
theorem same16C {A B : Prt} {wb cb hb n : Nat} (h : St H0 [A, RyP wb rb c, CyP cb hb c, HeapP hb s, RHeap rb s, B] H) (hlt : c.lt n) (hn : n ≤ 500000) (hK : ∀ H', St H0 [A, RyP wb rb c, CyP cb hb c, HeapP hb s, RHeap rb s, B] H' → K (.bool true) H') :
  hcall PR f_law16_same ⟨[.pointer (some ⟨cb, 0, none⟩), .pointer (some ⟨wb, 0, none⟩), .pointer (some ⟨hb, 0, none⟩), .pointer (some ⟨rb, 0, none⟩)]⟩ H K := by
 have hs := heap_ok h (i := 3) rfl
 have hc := cy_ok h (k := 2) rfl
 have hlen := hs.len
 have hmost := hs.most
 have hlast := hs.last
 have hpl := hlt.p.2
 have hplt : c.p.lt 800000 := hlt.p.mono (by omega)
 obtain ⟨z, h0⟩ := St.fixEx (A := rheapParts rb s) h (i := 4) rfl
 have h0 : St H0 [A, RyP wb rb c, CyP cb hb c, HeapP hb s, Prt.list (rheapParts rb s z), B] H := h0
 have back : ∀ H', St H0 [A, RyP wb rb c, CyP cb hb c, HeapP hb s, Prt.list (rheapParts rb s z), B] H' → St H0 [A, RyP wb rb c, CyP cb hb c, HeapP hb s, RHeap rb s, B] H' := fun H' h' => St.unfix (A := rheapParts rb s) (x := z) h' (i := 4) rfl
 have facts : ∀ H', St H0 [A, RyP wb rb c, CyP cb hb c, HeapP hb s, Prt.list (rheapParts rb s z), B] H' → RHeapV H' rb s z ∧ ∀ (y : Nat) (o : Ob) (bo : Nat), z.ps[y]? = some (o, bo) → hcell H' ⟨bo, 0, none⟩ = some (.int .u64 o.ser) := fun H' h' => by
  have h2 := St.open h' (i := 4) rfl
  refine ⟨rheapV h2, fun y o bo hy => ?_⟩
  obtain ⟨_, _, _, _, v⟩ := rthingV h2 hy
  exact v.ser
 have hps : z.ps.length = s.obs.length := by
  have h2 := (St.open h0 (i := 4) rfl).fact (i := 4) (p := z.ps.map (·.1) = s.obs ∧ s.ok) rfl
  rw [← h2.1, List.length_map]
 have hz64 : z.ps.length ≤ 100 := by omega
 apply den_law16_same
 unfold B_law16_same
 refine cyStateC h0 (k := 2) rfl ?_
 (try simp only [Za,Zb,Zc,Zd,Zf,Zh,Zi,Zk,Zl,Zm,Zn,Zo,Zp,Zr,Zs,Zx,Zt,Zu,Zy,Zz,Zv,Zw,ZA,ZB,ZC,ZD])
 refine ryStateC h0 (k := 1) rfl ?_
 (try simp only [Za,Zb,Zc,Zd,Zf,Zh,Zi,Zk,Zl,Zm,Zn,Zo,Zp,Zr,Zs,Zx,Zt,Zu,Zy,Zz,Zv,Zw,ZA,ZB,ZC,ZD])
 refine bif_neqf rfl ?_
 obtain ⟨x, h1⟩ := St.fixEx (A := ryL wb rb c) h0 (i := 1) rfl
 have h1 : St H0 [A, Prt.list (ryL wb rb c x), CyP cb hb c, HeapP hb s, Prt.list (rheapParts rb s z), B] H := h1
 have g1 := St.open h1 (i := 1) rfl
 have g1 : St H0 (ryL wb rb c x ++ [A, Prt.nil, CyP cb hb c, HeapP hb s, Prt.list (rheapParts rb s z), B]) H := g1
 obtain ⟨_, _, _, htn⟩ := rStackV g1 (j := 2) rfl
 have hv := (facts H h0).1
 refine ldP_of (g1.cell (i := 0) rfl rfl) ?_
 (try simp only [Za,Zb,Zc,Zd,Zf,Zh,Zi,Zk,Zl,Zm,Zn,Zo,Zp,Zr,Zs,Zx,Zt,Zu,Zy,Zz,Zv,Zw,ZA,ZB,ZC,ZD])
 refine ldI_of htn (cyTurnsC h0 (k := 2) rfl ?_)
 (try simp only [Za,Zb,Zc,Zd,Zf,Zh,Zi,Zk,Zl,Zm,Zn,Zo,Zp,Zr,Zs,Zx,Zt,Zu,Zy,Zz,Zv,Zw,ZA,ZB,ZC,ZD])
 refine ⟨ldI_of htn rfl, ldP_of (g1.cell (i := 0) rfl rfl) rfl, bif_neqf rfl ?_⟩
 refine ldSl_of hv.sl (hLen h0 (i := 3) rfl ?_)
 (try simp only [Za,Zb,Zc,Zd,Zf,Zh,Zi,Zk,Zl,Zm,Zn,Zo,Zp,Zr,Zs,Zx,Zt,Zu,Zy,Zz,Zv,Zw,ZA,ZB,ZC,ZD])
 refine ⟨ldSl_of hv.sl rfl, bif_neqf (by rw [hps]) ?_⟩
 refine ldP_of (g1.cell (i := 0) rfl rfl) (cyOutsC h1 (k := 2) rfl (by omega) fun q1 n1 H1 h2 => ?_)
 (try simp only [Za,Zb,Zc,Zd,Zf,Zh,Zi,Zk,Zl,Zm,Zn,Zo,Zp,Zr,Zs,Zx,Zt,Zu,Zy,Zz,Zv,Zw,ZA,ZB,ZC,ZD])
 have g2 := St.open h2 (i := 2) rfl
 have g2 : St H0 (ryL wb rb c x ++ [Prt.row 3 q1 (outsOf c.p).length n1 (cel outC (outsOf c.p)), A, Prt.nil, CyP cb hb c, HeapP hb s, Prt.list (rheapParts rb s z), B]) H1 := g2
 refine ⟨ldP_of (g2.cell (i := 0) rfl rfl) rfl, rOutsC g2 (j := 2) rfl (by omega) fun q2 n2 H2 g3 => ?_⟩
 (try simp only [Za,Zb,Zc,Zd,Zf,Zh,Zi,Zk,Zl,Zm,Zn,Zo,Zp,Zr,Zs,Zx,Zt,Zu,Zy,Zz,Zv,Zw,ZA,ZB,ZC,ZD])
 have hol : (outsOf c.p).length ≤ 800000 := by
  have h4 := (outsOf_ok (p := c.p) hc.p).2.length_eq
  omega
 refine handOutsC (g3.row_rd (i := 10) rfl) (g3.row_rd (i := 0) rfl) (by omega) ?_
 (try simp only [Za,Zb,Zc,Zd,Zf,Zh,Zi,Zk,Zl,Zm,Zn,Zo,Zp,Zr,Zs,Zx,Zt,Zu,Zy,Zz,Zv,Zw,ZA,ZB,ZC,ZD])
 have h3 : St H0 [A, RyP wb rb c, CyP cb hb c, HeapP hb s, Prt.list (rheapParts rb s z), B] H2 :=
  St.less (A := Prt.row 3 q1 (outsOf c.p).length n1 (cel outC (outsOf c.p))) (ryShut (N := []) (k := 2) (c := c) (x := x) (L := [Prt.row 3 q1 (outsOf c.p).length n1 (cel outC (outsOf c.p)), A, Prt.nil, CyP cb hb c, HeapP hb s, Prt.list (rheapParts rb s z), B]) (B := Prt.nil) g3.less rfl)
 clear g1 g2 g3 h1 h2 htn hv
 refine ⟨fun t H' => ∃ y : Nat, t = y ∧ y ≤ z.ps.length ∧ St H0 [A, RyP wb rb c, CyP cb hb c, HeapP hb s, Prt.list (rheapParts rb s z), B] H', fun t _ => ((z.ps.length : Int) - t).toNat, ⟨0, rfl, by omega, h3⟩, ?_⟩
 clear h3 h0
 rintro t H3 ⟨y, rfl, hy, h3⟩
 obtain ⟨v3, w3⟩ := facts H3 h3
 refine ldSl_of v3.sl ?_
 by_cases hcy : (y : Int) < ((z.ps.length : Nat) : Int)
 ·have hyl : y < z.ps.length := by omega
  obtain ⟨o, bo, hj⟩ : ∃ o bo, z.ps[y]? = some (o, bo) := ⟨z.ps[y].1, z.ps[y].2, List.getElem?_eq_getElem hyl⟩
  refine bif_pos hcy (ldSl_of v3.sl (rIdx v3 hj fun el hel => ldP_of (hel H3 v3) ?_))
  (try simp only [Za,Zb,Zc,Zd,Zf,Zh,Zi,Zk,Zl,Zm,Zn,Zo,Zp,Zr,Zs,Zx,Zt,Zu,Zy,Zz,Zv,Zw,ZA,ZB,ZC,ZD])
  refine ldI_of (w3 y o bo hj) (cyMarkC h3 (i := 3) (k := 2) rfl rfl (by decide) fun H4 h4 => ?_)
  (try simp only [Za,Zb,Zc,Zd,Zf,Zh,Zi,Zk,Zl,Zm,Zn,Zo,Zp,Zr,Zs,Zx,Zt,Zu,Zy,Zz,Zv,Zw,ZA,ZB,ZC,ZD])
  obtain ⟨v4, w4⟩ := facts H4 h4
  obtain ⟨x4, g4, ho4⟩ := ryOpened (back H4 h4) (k := 1) rfl
  refine ldP_of (g4.cell (i := 0) rfl rfl) (ldSl_of v4.sl (rIdx v4 hj fun el hel => ldP_of (hel H4 v4) ?_))
  (try simp only [Za,Zb,Zc,Zd,Zf,Zh,Zi,Zk,Zl,Zm,Zn,Zo,Zp,Zr,Zs,Zx,Zt,Zu,Zy,Zz,Zv,Zw,ZA,ZB,ZC,ZD])
  refine ldI_of (w4 y o bo hj) (rMarkC g4 (i := 13) (j := 2) rfl rfl (by decide) (hplt.mono (by omega)) ?_)
  (try simp only [Za,Zb,Zc,Zd,Zf,Zh,Zi,Zk,Zl,Zm,Zn,Zo,Zp,Zr,Zs,Zx,Zt,Zu,Zy,Zz,Zv,Zw,ZA,ZB,ZC,ZD])
  refine bif_neqf rfl ?_
  simp only [beq_self_eq_true, Bool.not_true, Zw]
  refine ldSl_of v4.sl (rIdx v4 hj fun el hel => ldP_of (hel H4 v4) ?_)
  (try simp only [Za,Zb,Zc,Zd,Zf,Zh,Zi,Zk,Zl,Zm,Zn,Zo,Zp,Zr,Zs,Zx,Zt,Zu,Zy,Zz,Zv,Zw,ZA,ZB,ZC,ZD])
  refine ldI_of (w4 y o bo hj) (ldSl_of v4.sl (rIdx v4 hj fun el2 hel2 => ldP_of (hel2 H4 v4) ?_))
  (try simp only [Za,Zb,Zc,Zd,Zf,Zh,Zi,Zk,Zl,Zm,Zn,Zo,Zp,Zr,Zs,Zx,Zt,Zu,Zy,Zz,Zv,Zw,ZA,ZB,ZC,ZD])
  refine ldI_of (w4 y o bo hj) (cyDoomedC h4 (i := 3) (k := 2) rfl rfl (by decide) fun H5 h5 => ?_)
  (try simp only [Za,Zb,Zc,Zd,Zf,Zh,Zi,Zk,Zl,Zm,Zn,Zo,Zp,Zr,Zs,Zx,Zt,Zu,Zy,Zz,Zv,Zw,ZA,ZB,ZC,ZD])
  obtain ⟨v5, w5⟩ := facts H5 h5
  refine ⟨ldI_of (w5 y o bo hj) rfl, ldP_of (hel2 H5 v5) rfl, ldSl_of v5.sl rfl, ryDoomedC (back H5 h5) (i := 4) (k := 1) rfl rfl (by decide) hplt ?_⟩
  (try simp only [Za,Zb,Zc,Zd,Zf,Zh,Zi,Zk,Zl,Zm,Zn,Zo,Zp,Zr,Zs,Zx,Zt,Zu,Zy,Zz,Zv,Zw,ZA,ZB,ZC,ZD])
  simp only [beq_self_eq_true, Bool.not_true, Zw]
  rw [wrap_i64 (by omega) (by omega)]
  exact ⟨⟨y + 1, by omega, by omega, h5⟩, by (try dsimp only); omega⟩
 refine bif_neg hcy (cyDoomedC h3 (i := 3) (k := 2) rfl rfl (by decide) fun H4 h4 => ?_)
 (try simp only [Za,Zb,Zc,Zd,Zf,Zh,Zi,Zk,Zl,Zm,Zn,Zo,Zp,Zr,Zs,Zx,Zt,Zu,Zy,Zz,Zv,Zw,ZA,ZB,ZC,ZD])
 rw [doomed_out hs (.inl (by omega))]
 simp only [Zw]
 obtain ⟨v4, w4⟩ := facts H4 h4
 have wl : IntKind.u64.wrap (s.last + 1) = s.last + 1 := wrap_u64' (by omega) (by omega)
 refine ldI_of v4.last ?_
 rw [wl]
 refine cyDoomedC h4 (i := 3) (k := 2) rfl rfl (by decide) fun H5 h5 => ?_
 (try simp only [Za,Zb,Zc,Zd,Zf,Zh,Zi,Zk,Zl,Zm,Zn,Zo,Zp,Zr,Zs,Zx,Zt,Zu,Zy,Zz,Zv,Zw,ZA,ZB,ZC,ZD])
 rw [doomed_out hs (.inr (by omega))]
 simp only [Zw]
 have h5 := back H5 h5
 refine cySummaryC h5 (k := 2) rfl hlt (by omega) fun rp rc op oc H6 h6 => ?_
 (try simp only [Za,Zb,Zc,Zd,Zf,Zh,Zi,Zk,Zl,Zm,Zn,Zo,Zp,Zr,Zs,Zx,Zt,Zu,Zy,Zz,Zv,Zw,ZA,ZB,ZC,ZD])
 intro b137 hb137
 have h7 := h6.alloc (o := .cells #[.int .u64 0, .slice none 0 0, .slice none 0 0, .bool false] ty_cycle_Summary) hb137
 refine h7.put (i := 0) rfl (by simp) fun H8 h8 => h8.put (i := 0) rfl (by simp) fun H9 h9 => h9.put (i := 0) rfl (by simp) fun H10 h10 => h10.put (i := 0) rfl (by simp) fun H11 h11 => ?_
 have h11 : St H0 [Prt.one b137 (.cells #[.int .u64 c.told.stir, .slice rp c.told.rows.length rc, .slice op c.told.outs.length oc, .bool c.told.ok] ty_cycle_Summary (0, 0)), Prt.row 3 op c.told.outs.length oc (cel outC c.told.outs), RowsP rp rc c.told.rows, A, RyP wb rb c, CyP cb hb c, HeapP hb s, RHeap rb s, B] H11 := h11
 obtain ⟨x11, g11, _⟩ := ryOpened h11 (k := 4) rfl
 obtain ⟨qa, va⟩ := rowsV g11 (i := 11) rfl
 obtain ⟨qb, vb⟩ := rowsV g11 (i := 6) rfl
 have hro := hlt.rows
 have hou := hlt.outs
 refine ldI_of (g11.cell (i := 9) rfl rfl) (ldI_of (g11.cell (i := 0) rfl rfl) (bif_eq rfl ?_))
 refine ldB_of (g11.cell (i := 9) rfl rfl) (ldB_of (g11.cell (i := 0) rfl rfl) ?_)
 simp only [beq_self_eq_true, Zv]
 refine ldSl_of (g11.cell (i := 9) rfl rfl) (ldSl_of (g11.cell (i := 0) rfl rfl) (handRowsC va vb (by omega) (fun r hr => by have := hlt.rlen r hr; omega) ?_))
 (try simp only [Za,Zb,Zc,Zd,Zf,Zh,Zi,Zk,Zl,Zm,Zn,Zo,Zp,Zr,Zs,Zx,Zt,Zu,Zy,Zz,Zv,Zw,ZA,ZB,ZC,ZD])
 refine ldSl_of (g11.cell (i := 9) rfl rfl) (ldSl_of (g11.cell (i := 0) rfl rfl) (handOutsC (g11.row_rd (i := 10) rfl) (g11.row_rd (i := 7) rfl) (by omega) ?_))
 (try simp only [Za,Zb,Zc,Zd,Zf,Zh,Zi,Zk,Zl,Zm,Zn,Zo,Zp,Zr,Zs,Zx,Zt,Zu,Zy,Zz,Zv,Zw,ZA,ZB,ZC,ZD])
 exact hK H11 (St.lesses (M := [_, _, _]) h11)

theorem id16C {q : Int} (h : St H0 L H) (hK : ∀ H', St H0 L H' → K (.agg #[.int .i64 1, .int .u64 q]) H') : hcall PR f_law16_id ⟨[.int .u64 q]⟩ H K := by
 apply den_law16_id
 unfold B_law16_id
 refine box2 h fun b2 H1 h1 => ?_
 exact ldI_of (h1.cell (i := 0) rfl rfl) (ldI_of (h1.cell (i := 0) rfl rfl) (hK H1 h1.less))
end
end Go.Proofs.YtflfodcemnapeaaGreat

namespace Go.Proofs.YtflfodcemnapeaaGreat
set_option linter.unusedSimpArgs false
set_option linter.unusedVariables false
open Go
set_option maxRecDepth 20000 in
set_option maxHeartbeats 4000000 in
theorem CyclePlays_ok {rp op ip : Option Addr} {rl rc ol oc il ic : Nat} {g : Gr} {mu gr su wo : Int} {lP : Option Addr} {lL lC : Nat} {l : List E_law16_Step} {H : Hp} {K : Value → Hp → Prop} (ga : GrA H rp rl op ol ip il g) (gok : g.ok)
  (hmu : IntKind.min .i64 ≤ mu ∧ mu ≤ IntKind.max .i64) (hgr : IntKind.min .i64 ≤ gr ∧ gr ≤ IntKind.max .i64) (hsu : IntKind.min .i64 ≤ su ∧ su ≤ IntKind.max .i64) (hwo : IntKind.min .i64 ≤ wo ∧ wo ≤ IntKind.max .i64)
  (hr : Rd H 8 lP lL (cel E_law16_Step.cells l)) (hl : lL ≤ 9223372036854775807) (hok : ∀ x ∈ l, x.ok) (hK : ∀ H', Keep Nothing H H' → K (.bool true) H') :
  hcall PR f_law16_CyclePlays ⟨[.agg #[.slice rp rl rc, .slice op ol oc, .slice ip il ic], .int .i64 mu, .int .i64 gr, .int .i64 su, .int .i64 wo, .slice lP lL lC]⟩ H K := by
 apply den_law16_CyclePlays
 unfold B_law16_CyclePlays
 intro b17 hb17
 have h1 := (St.start H).alloc (o := .cells #[.slice rp rl rc, .slice op ol oc, .slice ip il ic] ty_hand_Graph) hb17
 refine ldSl_of (h1.cell (i := 0) rfl rfl) (ldSl_of (h1.cell (i := 0) rfl rfl) (ldSl_of (h1.cell (i := 0) rfl rfl) ?_))
 refine HeapsC (most := 20) (ga.st h1) gok (by omega) fun hb rb s H2 hs h2 => ?_
 have h2 := h1.join h2
 have hn : grSize g 20 ≤ 20 := by unfold grSize; split <;> omega
 generalize grSize g 20 = n at *
 (try simp only [Za,Zb,Zc,Zd,Zf,Zh,Zi,Zk,Zl,Zm,Zn,Zo,Zp,Zr,Zs,Zx,Zt,Zu,Zy,Zz,Zv,Zw,ZA,ZB,ZC,ZD])
 refine known16_ok h2 fun H3 h3 => ?_
 (try simp only [Za,Zb,Zc,Zd,Zf,Zh,Zi,Zk,Zl,Zm,Zn,Zo,Zp,Zr,Zs,Zx,Zt,Zu,Zy,Zz,Zv,Zw,ZA,ZB,ZC,ZD])
 have hsl := hs.last
 have p1 := pick_lt (n := mu) (m := 3) (by omega)
 have p2 := pick_lt (n := gr) (m := 6) (by omega)
 have p3 := pick_lt (n := su) (m := 7) (by omega)
 have p4 := pick_lt (n := wo) (m := 9) (by omega)
 refine Pick_ok (by omega) (by omega) ?_
 (try simp only [Za,Zb,Zc,Zd,Zf,Zh,Zi,Zk,Zl,Zm,Zn,Zo,Zp,Zr,Zs,Zx,Zt,Zu,Zy,Zz,Zv,Zw,ZA,ZB,ZC,ZD])
 refine Pick_ok (by omega) (by omega) ?_
 (try simp only [Za,Zb,Zc,Zd,Zf,Zh,Zi,Zk,Zl,Zm,Zn,Zo,Zp,Zr,Zs,Zx,Zt,Zu,Zy,Zz,Zv,Zw,ZA,ZB,ZC,ZD])
 refine Pick_ok (by omega) (by omega) ?_
 (try simp only [Za,Zb,Zc,Zd,Zf,Zh,Zi,Zk,Zl,Zm,Zn,Zo,Zp,Zr,Zs,Zx,Zt,Zu,Zy,Zz,Zv,Zw,ZA,ZB,ZC,ZD])
 refine Pick_ok (by omega) (by omega) ?_
 (try simp only [Za,Zb,Zc,Zd,Zf,Zh,Zi,Zk,Zl,Zm,Zn,Zo,Zp,Zr,Zs,Zx,Zt,Zu,Zy,Zz,Zv,Zw,ZA,ZB,ZC,ZD])
 generalize pick mu 3 = a1 at *
 generalize pick gr 6 = a2 at *
 generalize pick su 7 = a3 at *
 generalize pick wo 9 = a4 at *
 have w1 : IntKind.i64.wrap (1 + a1) = 1 + a1 := wrap_i64 (by omega) (by omega)
 have w2 : IntKind.i64.wrap (1 + a2) = 1 + a2 := wrap_i64 (by omega) (by omega)
 have w4 : IntKind.i64.wrap (1 + a4) = 1 + a4 := wrap_i64 (by omega) (by omega)
 have w12 : IntKind.i64.wrap (1 + a1 + 2) = 1 + a1 + 2 := wrap_i64 (by omega) (by omega)
 rw [w1, w2, w4, w12]
 refine cyNewC h3 (i := 0) rfl hs.node (by omega) (by omega) (by omega) (by omega) fun cb H4 h4 => ?_
 (try simp only [Za,Zb,Zc,Zd,Zf,Zh,Zi,Zk,Zl,Zm,Zn,Zo,Zp,Zr,Zs,Zx,Zt,Zu,Zy,Zz,Zv,Zw,ZA,ZB,ZC,ZD])
 refine bif_neqf rfl ?_
 refine ryNewC (l := s.last) h4 (by omega) (by omega) (by omega) (by omega) fun wb H5 h5 => ?_
 (try simp only [Za,Zb,Zc,Zd,Zf,Zh,Zi,Zk,Zl,Zm,Zn,Zo,Zp,Zr,Zs,Zx,Zt,Zu,Zy,Zz,Zv,Zw,ZA,ZB,ZC,ZD])
 obtain ⟨gP, hgP⟩ : ∃ gP, gP = Prt.one b17 (.cells #[.slice rp rl rc, .slice op ol oc, .slice ip il ic] ty_hand_Graph (0, 0)) := ⟨_, rfl⟩
 obtain ⟨c0, hc0⟩ : ∃ c0, c0 = newCy (1 + a1) (1 + a2) a3 (1 + a4) s.last := ⟨_, rfl⟩
 have h5 : St H [RyP wb rb c0, CyP cb hb c0, HeapP hb s, RHeap rb s, gP] H5 := by rw [hgP, hc0]; exact h5
 have hlt0 : c0.lt 0 := by rw [hc0]; exact newCy_lt
 have hlast : s.last ≤ 20 := by omega
 have hnode := hs.node
 clear h1 h2 h3 h4 hgP hc0 hs hsl
 refine ⟨fun t H' => ∃ (y : Nat) (c : Cy) (s : Hs), t = y ∧ y ≤ 250 ∧ c.lt (500 * y) ∧ s.last ≤ 20 + (y : Int) ∧ s.node = 1 ∧ St H [RyP wb rb c, CyP cb hb c, HeapP hb s, RHeap rb s, gP] H', fun t _ => (250 - t).toNat, ⟨0, c0, s, rfl, by omega, hlt0, by omega, hnode, h5⟩, ?_⟩
 clear h5 hlast hlt0 hnode
 rintro t H6 ⟨y, c, s, rfl, hy, hlt, hlast, hnode, h6⟩
 by_cases hc : (y : Int) < (lL : Int)
 rotate_left
 ·exact bif_neg hc (hK H6 h6.keep)
 refine bif_pos hc ?_
 by_cases hc2 : (y : Int) < 250
 rotate_left
 ·exact bif_neg hc2 (hK H6 h6.keep)
 refine bif_pos hc2 ?_
 have ho := heap_ok h6 (i := 2) rfl
 have hl0 := ho.last
 have hcok := cy_ok h6 (k := 1) rfl
 have hpl : c.p.lt 800000 := hlt.p.mono (by omega)
 refine idxS E_law16_Step.len ⟨0, 0, 0, 0, 0, 0, 0, 0⟩ (h6.rd hr) (by omega) (by omega) hc fun b o _ _ hcc => ?_
 generalize l.getD (y : Int).toNat ⟨0, 0, 0, 0, 0, 0, 0, 0⟩ = x at hcc
 obtain ⟨x1, x2, x3, x4, x5, x6, x7, x8⟩ := x
 (try simp only [Za,Zb,Zc,Zd,Zf,Zh,Zi,Zk,Zl,Zm,Zn,Zo,Zp,Zr,Zs,Zx,Zt,Zu,Zy,Zz,Zv,Zw,ZA,ZB,ZC,ZD])
 refine ldI_of (hcc 0 (by omega)) (ldI_of (hcc 1 (by omega)) (ldI_of (hcc 2 (by omega)) (ldI_of (hcc 3 (by omega)) (ldI_of (hcc 4 (by omega)) (ldI_of (hcc 5 (by omega)) (ldI_of (hcc 6 (by omega)) (ldI_of (hcc 7 (by omega)) ?_)))))))
 intro b71 hb71
 have h7 := h6.alloc (o := .cells #[.int .i64 0, .int .i64 0, .int .i64 0, .int .u64 0, .int .i64 0, .int .u64 0, .int .i64 0, .int .u64 0] ty_law16_Step) hb71
 refine h7.put (i := 0) rfl (by simp) fun H7 h7 => h7.put (i := 0) rfl (by simp) fun H8 h8 => h8.put (i := 0) rfl (by simp) fun H9 h9 => h9.put (i := 0) rfl (by simp) fun H10 h10 => h10.put (i := 0) rfl (by simp) fun H11 h11 => h11.put (i := 0) rfl (by simp) fun H12 h12 => h12.put (i := 0) rfl (by simp) fun H13 h13 => h13.put (i := 0) rfl (by simp) fun H14 h14 => ?_
 have h14 : St H [Prt.one b71 (.cells #[.int .i64 x1, .int .i64 x2, .int .i64 x3, .int .u64 x4, .int .i64 x5, .int .u64 x6, .int .i64 x7, .int .u64 x8] ty_law16_Step (0, 0)), RyP wb rb c, CyP cb hb c, HeapP hb s, RHeap rb s, gP] H14 := h14
 clear h7 h8 h9 h10 h11 h12 h13 h6 hcc
 have wl : IntKind.u64.wrap (s.last + 2) = s.last + 2 := wrap_u64' (by omega) (by omega)
 refine ldI_of (h14.cell (i := 0) rfl rfl) ?_
 (try simp only [Za,Zb,Zc,Zd,Zf,Zh,Zi,Zk,Zl,Zm,Zn,Zo,Zp,Zr,Zs,Zx,Zt,Zu,Zy,Zz,Zv,Zw,ZA,ZB,ZC,ZD])
 refine ldI_of (rHeapNode h14 (i := 4) rfl).2 ?_
 rw [wl]
 refine ⟨by omega, ldI_of (h14.cell (i := 0) rfl rfl) (Pick_ok (by omega) (by omega) ?_)⟩
 (try simp only [Za,Zb,Zc,Zd,Zf,Zh,Zi,Zk,Zl,Zm,Zn,Zo,Zp,Zr,Zs,Zx,Zt,Zu,Zy,Zz,Zv,Zw,ZA,ZB,ZC,ZD])
 generalize pick x2 (1 + a1 + 2) = m
 generalize Int.tmod x4 (s.last + 2) = k
 intro R88 hR88
 have hR88 : ∀ (v w : Id) H', St H [Prt.one b71 (.cells #[.int .i64 x1, .int .i64 x2, .int .i64 x3, .int .u64 x4, .int .i64 v.n, .int .u64 v.s, .int .i64 w.n, .int .u64 w.s] ty_law16_Step (0, 0)), RyP wb rb c, CyP cb hb c, HeapP hb s, RHeap rb s, gP] H' → R88 H' := fun v w H13 h13 => by
  refine hR88 H13 ?_
  clear hR88
  obtain ⟨bP, hbP⟩ : ∃ bP, bP = Prt.one b71 (.cells #[.int .i64 x1, .int .i64 x2, .int .i64 x3, .int .u64 x4, .int .i64 v.n, .int .u64 v.s, .int .i64 w.n, .int .u64 w.s] ty_law16_Step (0, 0)) := ⟨_, rfl⟩
  have b0 : ∀ (N L' : List Prt) H', St H (N ++ bP :: L') H' → hcell H' ⟨b71, 0, none⟩ = some (.int .i64 x1) ∧ hcell H' ⟨b71, 2, none⟩ = some (.int .i64 x3) ∧ hcell H' ⟨b71, 3, none⟩ = some (.int .u64 x4) ∧ hcell H' ⟨b71, 4, none⟩ = some (.int .i64 v.n) ∧ hcell H' ⟨b71, 5, none⟩ = some (.int .u64 v.s) ∧ hcell H' ⟨b71, 6, none⟩ = some (.int .i64 w.n) ∧ hcell H' ⟨b71, 7, none⟩ = some (.int .u64 w.s) := fun N L' H' h' => by
   rw [hbP] at h'
   have h' := St.lesses (M := N) h'
   exact ⟨h'.cell (i := 0) rfl rfl, h'.cell (i := 0) rfl rfl, h'.cell (i := 0) rfl rfl, h'.cell (i := 0) rfl rfl, h'.cell (i := 0) rfl rfl, h'.cell (i := 0) rfl rfl, h'.cell (i := 0) rfl rfl⟩
  rw [← hbP] at h13
  clear hbP h14
  intro R90 hR90
  have hR90 : ∀ c' s' H', c'.lt (500 * y + 500) → s'.last ≤ 21 + (y : Int) → s'.node = 1 → St H [bP, RyP wb rb c', CyP cb hb c', HeapP hb s', RHeap rb s', gP] H' → R90 true H' := fun c' s' H' hlt' hlast' hnode' h' => by
   refine hR90 true H' ?_
   clear hR90
   simp only [Bool.not_true, Zw]
   refine same16C h' hlt' (by omega) fun H'' h'' => ?_
   (try simp only [Za,Zb,Zc,Zd,Zf,Zh,Zi,Zk,Zl,Zm,Zn,Zo,Zp,Zr,Zs,Zx,Zt,Zu,Zy,Zz,Zv,Zw,ZA,ZB,ZC,ZD])
   rw [wrap_i64 (by omega) (by omega)]
   exact ⟨⟨y + 1, c', s', by omega, by omega, hlt'.mono (by omega), by omega, hnode', h''.less⟩, by (try dsimp only); omega⟩
  obtain ⟨d0, d2, d3, d4, d5, d6, d7⟩ := b0 [] _ H13 h13
  refine ldI_of d0 (Pick_ok (by omega) (by omega) ?_)
  (try simp only [Za,Zb,Zc,Zd,Zf,Zh,Zi,Zk,Zl,Zm,Zn,Zo,Zp,Zr,Zs,Zx,Zt,Zu,Zy,Zz,Zv,Zw,ZA,ZB,ZC,ZD])
  generalize pick x1 12 = t
  intro R100 hR100
  have hR100a : R100 true H13 := by
   refine hR100 true H13 ?_
   clear hR100
   simp only [Zv]
   refine ldI_of d4 (ldI_of d5 (ldI_of d6 (ldI_of d7 ?_)))
   intro b107 hb107
   have h1 := h13.alloc (o := .cells #[.int .i64 v.n, .int .u64 v.s, .int .i64 w.n, .int .u64 w.s] ty_api_ID) hb107
   have hheld : ∀ (N M : List Prt) H', St H (N ++ Prt.one b107 (.cells #[.int .i64 v.n, .int .u64 v.s, .int .i64 w.n, .int .u64 w.s] ty_api_ID (0, 0)) :: M) H' → Rd H' 2 (some ⟨b107, 0, none⟩) [v, w].length (cel Id.cells [v, w]) := fun N M H' h' => (St.lesses (M := N) h').one_rd (i := 0) (n := 2) rfl rfl
   refine cyShakeC (m := m) (held := [v, w]) h1 (i := 4) (k := 3) rfl rfl (by decide) (fun N H' h' => hheld N _ H' h') (by simp) fun H2 h2 => ?_
   (try simp only [Za,Zb,Zc,Zd,Zf,Zh,Zi,Zk,Zl,Zm,Zn,Zo,Zp,Zr,Zs,Zx,Zt,Zu,Zy,Zz,Zv,Zw,ZA,ZB,ZC,ZD])
   refine ryShakeC (m := m) (held := [v, w]) h2 (i := 5) (k := 2) rfl rfl (by decide) (fun N H' h' => hheld N _ H' h') (by simp) hpl fun H3 h3 => ?_
   (try simp only [Za,Zb,Zc,Zd,Zf,Zh,Zi,Zk,Zl,Zm,Zn,Zo,Zp,Zr,Zs,Zx,Zt,Zu,Zy,Zz,Zv,Zw,ZA,ZB,ZC,ZD])
   rw [beq_self_eq_true]
   exact hR90 _ s H3 ((hlt.shake (s := s) (m := m) (held := [v, w])).mono (by simp)) (by omega) hnode h3.less
  have hR100b : R100 false H13 := by
   refine hR100 false H13 ?_
   clear hR100 hR100a
   simp only [Zw]
   by_cases c7 : t = 7
   ·refine bif_eq c7 ?_
    intro R115 hR115
    have hR115 : ∀ (bo : Nat) H', St H [Prt.one bo (.cells #[.int .i64 (hSetRef s k (pick x3 3) w).1.n, .int .u64 (hSetRef s k (pick x3 3) w).1.s] ty_api_ID (0, 0)), bP, RyP wb rb c, CyP cb hb c, HeapP hb (hSetRef s k (pick x3 3) w).2.2, RHeap rb s, gP] H' → R115 (some ⟨bo, 0, none⟩) (hSetRef s k (pick x3 3) w).2.1 H' := fun bo H2 h2 => by
     refine hR115 _ _ H2 ?_
     clear hR115
     obtain ⟨e0, e2, e3, e4, e5, e6, e7⟩ := b0 [_] _ H2 h2
     refine ldI_of e2 (ldI_of e6 (ldI_of e7 (Pick_ok (by omega) (by omega) ?_)))
     (try simp only [Za,Zb,Zc,Zd,Zf,Zh,Zi,Zk,Zl,Zm,Zn,Zo,Zp,Zr,Zs,Zx,Zt,Zu,Zy,Zz,Zv,Zw,ZA,ZB,ZC,ZD])
     refine ⟨ldI_of e6 (ldI_of e7 rfl), rSetRefC (y := w) h2 (i := 5) rfl fun H3 h3 => ?_⟩
     (try simp only [Za,Zb,Zc,Zd,Zf,Zh,Zi,Zk,Zl,Zm,Zn,Zo,Zp,Zr,Zs,Zx,Zt,Zu,Zy,Zz,Zv,Zw,ZA,ZB,ZC,ZD])
     have hsame := setRef_same (s := s) (k := k) (f := pick x3 3) (y := w)
     generalize hSetRef s k (pick x3 3) w = Q at *
     obtain ⟨old, code, s1⟩ := Q
     simp only at h3 hsame ⊢
     have h3 : St H [Prt.one bo (.cells #[.int .i64 old.n, .int .u64 old.s] ty_api_ID (0, 0)), bP, RyP wb rb c, CyP cb hb c, HeapP hb s1, RHeap rb s1, gP] H3 := h3
     obtain ⟨e0, e2, e3, e4, e5, e6, e7⟩ := b0 [_] _ H3 h3
     by_cases hcode : code = 0
     rotate_left
     ·exact bif_ne hcode (hR90 c s1 H3 (hlt.mono (by omega)) (by omega) (by omega) h3.less)
     refine bif_eq hcode ?_
     (try simp only [Za,Zb,Zc,Zd,Zf,Zh,Zi,Zk,Zl,Zm,Zn,Zo,Zp,Zr,Zs,Zx,Zt,Zu,Zy,Zz,Zv,Zw,ZA,ZB,ZC,ZD])
     refine ldI_of (h3.cell (i := 0) rfl rfl) (ldI_of (h3.cell (i := 0) rfl rfl) (ldI_of e6 (ldI_of e7 (cyStoreC (m := m) (old := old) (now := w) h3 (i := 4) (k := 3) rfl rfl (by decide) fun H4 h4 => ?_))))
     (try simp only [Za,Zb,Zc,Zd,Zf,Zh,Zi,Zk,Zl,Zm,Zn,Zo,Zp,Zr,Zs,Zx,Zt,Zu,Zy,Zz,Zv,Zw,ZA,ZB,ZC,ZD])
     have h4 : St H [Prt.one bo (.cells #[.int .i64 old.n, .int .u64 old.s] ty_api_ID (0, 0)), bP, RyP wb rb c, CyP cb hb (cyStore s1 c m old w), HeapP hb s1, RHeap rb s1, gP] H4 := h4
     obtain ⟨e0, e2, e3, e4, e5, e6, e7⟩ := b0 [_] _ H4 h4
     refine ldI_of (h4.cell (i := 0) rfl rfl) (ldI_of (h4.cell (i := 0) rfl rfl) (ldI_of e6 (ldI_of e7 (ryStoreC (m := m) (old := old) (now := w) h4 (i := 5) (k := 2) rfl rfl (by decide) hpl fun H5 h5 => ?_))))
     exact hR90 _ s1 H5 (hlt.store.mono (by omega)) (by omega) (by omega) h5.less
    refine ldI_of d2 (ldI_of d6 (ldI_of d7 ⟨?_, ?_⟩))
    ·refine Pick_ok (by omega) (by omega) ?_
     (try simp only [Za,Zb,Zc,Zd,Zf,Zh,Zi,Zk,Zl,Zm,Zn,Zo,Zp,Zr,Zs,Zx,Zt,Zu,Zy,Zz,Zv,Zw,ZA,ZB,ZC,ZD])
     refine ⟨ldI_of d6 (ldI_of d7 rfl), ?_, ?_⟩
     ·refine hSetRefC (y := w) h13 (i := 3) rfl fun H2 h2 => ?_
      (try simp only [Za,Zb,Zc,Zd,Zf,Zh,Zi,Zk,Zl,Zm,Zn,Zo,Zp,Zr,Zs,Zx,Zt,Zu,Zy,Zz,Zv,Zw,ZA,ZB,ZC,ZD])
      exact box2 h2 fun bo H3 h3 => hR115 bo H3 h3
     ·intro b171 hb171
      have h1 := h13.alloc (o := .cells #[.int .i64 0, .int .u64 0] ty_api_ID) hb171
      obtain ⟨e0, e2, e3, e4, e5, e6, e7⟩ := b0 [_] _ _ h1
      refine ⟨ldI_of e6 (ldI_of e7 rfl), hSetRefC (y := w) h1 (i := 4) rfl fun H2 h2 => ?_⟩
      (try simp only [Za,Zb,Zc,Zd,Zf,Zh,Zi,Zk,Zl,Zm,Zn,Zo,Zp,Zr,Zs,Zx,Zt,Zu,Zy,Zz,Zv,Zw,ZA,ZB,ZC,ZD])
      exact h2.put (i := 0) rfl (by simp) fun H3 h3 => h3.put (i := 0) rfl (by simp) fun H4 h4 => hR115 b171 H4 h4
    ·intro b186 hb186
     have h1 := h13.alloc (o := .cells #[.int .i64 0, .int .u64 0] ty_api_ID) hb186
     obtain ⟨e0, e2, e3, e4, e5, e6, e7⟩ := b0 [_] _ _ h1
     refine ⟨ldI_of e6 (ldI_of e7 rfl), ldI_of e2 rfl, Pick_ok (by omega) (by omega) ?_⟩
     (try simp only [Za,Zb,Zc,Zd,Zf,Zh,Zi,Zk,Zl,Zm,Zn,Zo,Zp,Zr,Zs,Zx,Zt,Zu,Zy,Zz,Zv,Zw,ZA,ZB,ZC,ZD])
     refine ⟨ldI_of e6 (ldI_of e7 rfl), hSetRefC (y := w) h1 (i := 4) rfl fun H2 h2 => ?_⟩
     (try simp only [Za,Zb,Zc,Zd,Zf,Zh,Zi,Zk,Zl,Zm,Zn,Zo,Zp,Zr,Zs,Zx,Zt,Zu,Zy,Zz,Zv,Zw,ZA,ZB,ZC,ZD])
     exact h2.put (i := 0) rfl (by simp) fun H3 h3 => h3.put (i := 0) rfl (by simp) fun H4 h4 => hR115 b186 H4 h4
   refine bif_ne c7 ?_
   by_cases c8 : t = 8
   ·refine bif_eq c8 (hMakeC h13 (i := 3) rfl (by decide) (by decide) fun H2 h2 => ?_)
    (try simp only [Za,Zb,Zc,Zd,Zf,Zh,Zi,Zk,Zl,Zm,Zn,Zo,Zp,Zr,Zs,Zx,Zt,Zu,Zy,Zz,Zv,Zw,ZA,ZB,ZC,ZD])
    refine rMakeC h2 (i := 4) rfl (by decide) (by decide) fun H3 h3 => ?_
    (try simp only [Za,Zb,Zc,Zd,Zf,Zh,Zi,Zk,Zl,Zm,Zn,Zo,Zp,Zr,Zs,Zx,Zt,Zu,Zy,Zz,Zv,Zw,ZA,ZB,ZC,ZD])
    have hsame : (hMake s 2 0).2.2.last ≤ 21 + (y : Int) ∧ (hMake s 2 0).2.2.node = 1 := by
     rcases hMake_split s 2 0 with ⟨_, e⟩ | ⟨_, _, e, e2, _⟩
     ·rw [e]; exact ⟨by omega, hnode⟩
     ·rw [e, e2]; exact ⟨by omega, hnode⟩
    generalize hMake s 2 0 = Q at *
    obtain ⟨q, code, s1⟩ := Q
    simp only at h3 hsame ⊢
    have h3 : St H [bP, RyP wb rb c, CyP cb hb c, HeapP hb s1, RHeap rb s1, gP] H3 := h3
    by_cases hcode : code = 0
    rotate_left
    ·exact bif_ne hcode (hR90 c s1 H3 (hlt.mono (by omega)) (by omega) (by omega) h3)
    refine bif_eq hcode (cyBornC (m := m) h3 (i := 3) (k := 2) rfl rfl (by decide) hsame.2 fun H4 h4 => ?_)
    (try simp only [Za,Zb,Zc,Zd,Zf,Zh,Zi,Zk,Zl,Zm,Zn,Zo,Zp,Zr,Zs,Zx,Zt,Zu,Zy,Zz,Zv,Zw,ZA,ZB,ZC,ZD])
    refine ryBornC (m := m) h4 (i := 4) (k := 1) rfl rfl (by decide) hpl fun H5 h5 => ?_
    (try simp only [Za,Zb,Zc,Zd,Zf,Zh,Zi,Zk,Zl,Zm,Zn,Zo,Zp,Zr,Zs,Zx,Zt,Zu,Zy,Zz,Zv,Zw,ZA,ZB,ZC,ZD])
    exact hR90 _ s1 H5 (hlt.born.mono (by omega)) (by omega) (by omega) h5
   refine bif_ne c8 ?_
   by_cases c9 : t = 9
   ·refine bif_eq c9 (ldI_of d4 (ldI_of d5 (cyTouchC (y := v) h13 (i := 3) (k := 2) rfl rfl (by decide) hnode fun H2 h2 => ?_)))
    (try simp only [Za,Zb,Zc,Zd,Zf,Zh,Zi,Zk,Zl,Zm,Zn,Zo,Zp,Zr,Zs,Zx,Zt,Zu,Zy,Zz,Zv,Zw,ZA,ZB,ZC,ZD])
    obtain ⟨e0, e2, e3, e4, e5, e6, e7⟩ := b0 [] _ H2 h2
    refine ldI_of e4 (ldI_of e5 (ryTouchC (y := v) h2 (i := 4) (k := 1) rfl rfl (by decide) hpl fun H3 h3 => ?_))
    (try simp only [Za,Zb,Zc,Zd,Zf,Zh,Zi,Zk,Zl,Zm,Zn,Zo,Zp,Zr,Zs,Zx,Zt,Zu,Zy,Zz,Zv,Zw,ZA,ZB,ZC,ZD])
    exact hR90 _ s H3 (hlt.touch.mono (by omega)) (by omega) hnode h3
   refine bif_ne c9 ?_
   by_cases c10 : t = 10
   ·refine bif_eq c10 (ldI_of d2 (Pick_ok (by omega) (by omega) ?_))
    (try simp only [Za,Zb,Zc,Zd,Zf,Zh,Zi,Zk,Zl,Zm,Zn,Zo,Zp,Zr,Zs,Zx,Zt,Zu,Zy,Zz,Zv,Zw,ZA,ZB,ZC,ZD])
    refine hSetInC h13 (i := 3) rfl fun H2 h2 => ?_
    (try simp only [Za,Zb,Zc,Zd,Zf,Zh,Zi,Zk,Zl,Zm,Zn,Zo,Zp,Zr,Zs,Zx,Zt,Zu,Zy,Zz,Zv,Zw,ZA,ZB,ZC,ZD])
    obtain ⟨e0, e2, e3, e4, e5, e6, e7⟩ := b0 [] _ H2 h2
    refine ldI_of e2 (Pick_ok (by omega) (by omega) ?_)
    (try simp only [Za,Zb,Zc,Zd,Zf,Zh,Zi,Zk,Zl,Zm,Zn,Zo,Zp,Zr,Zs,Zx,Zt,Zu,Zy,Zz,Zv,Zw,ZA,ZB,ZC,ZD])
    refine rSetInC h2 (i := 4) rfl fun H3 h3 => ?_
    (try simp only [Za,Zb,Zc,Zd,Zf,Zh,Zi,Zk,Zl,Zm,Zn,Zo,Zp,Zr,Zs,Zx,Zt,Zu,Zy,Zz,Zv,Zw,ZA,ZB,ZC,ZD])
    have hsame := setIn_same (s := s) (k := k) (d := pick x3 9)
    exact hR90 c _ H3 (hlt.mono (by omega)) (by omega) (by omega) h3
   refine bif_ne c10 ?_
   by_cases c11 : t = 11
   ·refine bif_eq c11 (ldI_of d4 (ldI_of d5 (ldI_of d6 (ldI_of d7 (cyStoreC (m := m) (old := v) (now := w) h13 (i := 3) (k := 2) rfl rfl (by decide) fun H2 h2 => ?_)))))
    (try simp only [Za,Zb,Zc,Zd,Zf,Zh,Zi,Zk,Zl,Zm,Zn,Zo,Zp,Zr,Zs,Zx,Zt,Zu,Zy,Zz,Zv,Zw,ZA,ZB,ZC,ZD])
    obtain ⟨e0, e2, e3, e4, e5, e6, e7⟩ := b0 [] _ H2 h2
    refine ldI_of e4 (ldI_of e5 (ldI_of e6 (ldI_of e7 (ryStoreC (m := m) (old := v) (now := w) h2 (i := 4) (k := 1) rfl rfl (by decide) hpl fun H3 h3 => ?_))))
    (try simp only [Za,Zb,Zc,Zd,Zf,Zh,Zi,Zk,Zl,Zm,Zn,Zo,Zp,Zr,Zs,Zx,Zt,Zu,Zy,Zz,Zv,Zw,ZA,ZB,ZC,ZD])
    exact hR90 _ s H3 (hlt.store.mono (by omega)) (by omega) hnode h3
   refine bif_ne c11 (ldI_of d3 (cyStepC (stir := x4) h13 (i := 3) (k := 2) rfl rfl (by decide) hlt (by omega) fun fp fc H2 h2 => ?_))
   (try simp only [Za,Zb,Zc,Zd,Zf,Zh,Zi,Zk,Zl,Zm,Zn,Zo,Zp,Zr,Zs,Zx,Zt,Zu,Zy,Zz,Zv,Zw,ZA,ZB,ZC,ZD])
   have hsame := rySteps_last (stir := x4) (m := c.work.toNat) (s := s) (c := c) (fr := [])
   have hltn := hlt.steps (stir := x4) (m := c.work.toNat) (fr := []) ho hcok
   have hwk := hcok.work
   obtain ⟨e0, e2, e3, e4, e5, e6, e7⟩ := b0 [_] _ H2 h2
   refine ldI_of e3 (ryStepC (stir := x4) h2 (i := 5) (k := 2) rfl rfl (by decide) hlt (by omega) fun fp2 fc2 H3 h3 => ?_)
   (try simp only [Za,Zb,Zc,Zd,Zf,Zh,Zi,Zk,Zl,Zm,Zn,Zo,Zp,Zr,Zs,Zx,Zt,Zu,Zy,Zz,Zv,Zw,ZA,ZB,ZC,ZD])
   simp only [beq_self_eq_true, Zv]
   have hfl : (cyStep s c x4).1.1.length < 4611686018427387904 := steps_freed_len (m := c.work.toNat) (fr := []) (by simp; omega)
   refine nums_same (h3.row_rd (i := 1) rfl) (h3.row_rd (i := 0) rfl) hfl ?_
   (try simp only [Za,Zb,Zc,Zd,Zf,Zh,Zi,Zk,Zl,Zm,Zn,Zo,Zp,Zr,Zs,Zx,Zt,Zu,Zy,Zz,Zv,Zw,ZA,ZB,ZC,ZD])
   exact hR90 _ _ H3 (hltn.mono (by omega)) (by show (cySteps x4 c.work.toNat s c []).2.1.last ≤ _; omega) (by show (cySteps x4 c.work.toNat s c []).2.1.node = _; omega) (St.lesses (M := [_, _]) h3)
  clear hR100
  by_cases c5 : t = 5
  ·refine bif_eq c5 ?_
   rw [c5]
   exact hR100a
  ·refine bif_ne c5 ?_
   by_cases c6 : t = 6
   ·rw [c6]; exact hR100a
   ·rw [show (t == 6) = false from by simpa using c6]; exact hR100b
 refine ldI_of (h14.cell (i := 0) rfl rfl) ⟨by decide, ?_⟩
 by_cases hx : Int.tmod x3 4 > 0
 rotate_left
 ·exact bif_neg hx (hR88 ⟨x5, x6⟩ ⟨x7, x8⟩ H14 h14)
 refine bif_pos hx (id16C h14 fun H15 h15 => ?_)
 (try simp only [Za,Zb,Zc,Zd,Zf,Zh,Zi,Zk,Zl,Zm,Zn,Zo,Zp,Zr,Zs,Zx,Zt,Zu,Zy,Zz,Zv,Zw,ZA,ZB,ZC,ZD])
 refine h15.put (i := 0) rfl (by simp) fun H16 h16 => h16.put (i := 0) rfl (by simp) fun H17 h17 => ?_
 refine ldI_of (h17.cell (i := 0) rfl rfl) ?_
 refine ldI_of (rHeapNode h17 (i := 4) rfl).2 (Pick_ok (by omega) (by omega) ?_)
 (try simp only [Za,Zb,Zc,Zd,Zf,Zh,Zi,Zk,Zl,Zm,Zn,Zo,Zp,Zr,Zs,Zx,Zt,Zu,Zy,Zz,Zv,Zw,ZA,ZB,ZC,ZD])
 rw [wl]
 refine ⟨ldI_of (rHeapNode h17 (i := 4) rfl).2 rfl, by omega, id16C h17 fun H18 h18 => ?_⟩
 (try simp only [Za,Zb,Zc,Zd,Zf,Zh,Zi,Zk,Zl,Zm,Zn,Zo,Zp,Zr,Zs,Zx,Zt,Zu,Zy,Zz,Zv,Zw,ZA,ZB,ZC,ZD])
 generalize Int.tmod (IntKind.u64.wrap (k + IntKind.u64.wrap (pick x3 5))) (s.last + 2) = q2
 refine h18.put (i := 0) rfl (by simp) fun H19 h19 => h19.put (i := 0) rfl (by simp) fun H20 h20 => ?_
 exact hR88 ⟨1, k⟩ ⟨1, q2⟩ H20 h20

end Go.Proofs.YtflfodcemnapeaaGreat
