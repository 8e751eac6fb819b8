/- Merged by merge.py: DenMark, MkS, MkT, MkL, GphR. No condition. -/
import Derived.Test.YtojcacejgbnfkaaGreatZNum
import Derived.Test.YtojcacejgbnfkaaGreatZPaint
import Derived.Test.YtojcacejgbnfkaaGreatZSweep

namespace Go.Proofs.YtojcacejgbnfkaaGreat
open Go
set_option linter.unusedVariables false
set_option maxRecDepth 100000
def B_mark_New (h1 : Option Addr) (p2 : Option Addr) (H : Hp) (K : Value → Hp → Prop) : Prop :=
 (bif (Option.isNone (α := Addr) h1) then
 K (.tuple #[(.pointer none), (.int .i64 1)]) H
else
 (bif (Option.isNone (α := Addr) p2) then
 K (.tuple #[(.pointer none), (.int .i64 1)]) H
else
 newB (.cells #[(.pointer h1), (.pointer p2), (.int .u64 0), (.bool false), (.int .u64 0)] ty_mark_Marker) H fun b3 Hx4 =>
 K (.tuple #[(.pointer (some ⟨b3, 0, none⟩)), (.int .i64 0)]) Hx4))
theorem E_mark_New (h1 : Option Addr) (p2 : Option Addr) (H : Hp) (K : Value → Hp → Prop) : B_mark_New h1 p2 H K = denF Tryz.prog Tryz.f84 .n [(.pointer h1), (.pointer p2)] H K := by kernel_rfl
theorem den_mark_New {h1 : Option Addr} {p2 : Option Addr} {H : Hp} {K : Value → Hp → Prop} (h : B_mark_New h1 p2 H K) : hcall PR f_mark_New ⟨[(.pointer h1), (.pointer p2)]⟩ H K := denF_call Tryz.func84 PR_mixed (Eq.mp (E_mark_New h1 p2 H K) h)

def B_mark_Marker_Begin (m1 : Option Addr) (H : Hp) (K : Value → Hp → Prop) : Prop :=
 nilP m1 fun ma2 =>
 st (ma2.add 2) (.int .u64 0) H fun Hx3 =>
 nilP m1 fun ma4 =>
 st (ma4.add 3) (.bool false) Hx3 fun Hx5 =>
 nilP m1 fun ma6 =>
 st (ma6.add 4) (.int .u64 0) Hx5 fun Hx7 =>
 K (.tuple #[]) Hx7
theorem E_mark_Marker_Begin (m1 : Option Addr) (H : Hp) (K : Value → Hp → Prop) : B_mark_Marker_Begin m1 H K = denF Tryz.prog Tryz.f107 .n [(.pointer m1)] H K := by kernel_rfl
theorem den_mark_Marker_Begin {m1 : Option Addr} {H : Hp} {K : Value → Hp → Prop} (h : B_mark_Marker_Begin m1 H K) : hcall PR f_mark_Marker_Begin ⟨[(.pointer m1)]⟩ H K := denF_call Tryz.func107 PR_mixed (Eq.mp (E_mark_Marker_Begin m1 H K) h)

def B_mark_Marker_Step (m1 : Option Addr) (H : Hp) (K : Value → Hp → Prop) : Prop :=
 ∃ (I2 : Hp → Prop) (m3 : Hp → Nat), I2 H ∧ ∀ Hx4 : Hp, I2 Hx4 →
 nilP m1 fun ma5 =>
 ldP (ma5.add 1) Hx4 fun p6 =>
 hcall PR f_paint_Paint_Pop ⟨[(.pointer p6)]⟩ Hx4 fun v7 Hx8 =>
 tup2 v7 fun v9 v10 =>
 asI .u64 v9 fun t11 =>
 asB v10 fun t12 =>
 (bif t12 then
 nilP m1 fun ma13 =>
 ldP (ma13.add 1) Hx8 fun p14 =>
 hcall PR f_paint_Paint_Scan ⟨[(.pointer p14), (.int .u64 t11)]⟩ Hx8 fun v15 Hx16 =>
 asB v15 fun t17 =>
 K (.bool true) Hx16
else
 nilP m1 fun ma18 =>
 ldB (ma18.add 3) Hx8 fun pass19 =>
 (bif pass19 then
 nilP m1 fun ma20 =>
 ldP ma20 Hx8 fun h21 =>
 nilP m1 fun ma22 =>
 ldI .u64 (ma22.add 4) Hx8 fun atx23 =>
 hcall PR f_heap_Heap_Next ⟨[(.pointer h21), (.int .u64 atx23)]⟩ Hx8 fun v24 Hx25 =>
 tup2 v24 fun v26 v27 =>
 asI .u64 v26 fun t28 =>
 asB v27 fun t29 =>
 (bif (!t29) then
 nilP m1 fun ma30 =>
 st (ma30.add 3) (.bool false) Hx25 fun Hx31 =>
 I2 Hx31 ∧ m3 Hx31 < m3 Hx4
else
 nilP m1 fun ma32 =>
 st (ma32.add 4) (.int .u64 t28) Hx25 fun Hx33 =>
 nilP m1 fun ma34 =>
 ldP (ma34.add 1) Hx33 fun p35 =>
 hcall PR f_paint_Paint_Scan ⟨[(.pointer p35), (.int .u64 t28)]⟩ Hx33 fun v36 Hx37 =>
 asB v36 fun t38 =>
 K (.bool true) Hx37)
else
 nilP m1 fun ma39 =>
 ldP (ma39.add 1) Hx8 fun p40 =>
 hcall PR f_paint_Paint_Over ⟨[(.pointer p40)]⟩ Hx8 fun v41 Hx42 =>
 asB v41 fun t43 =>
 (bif t43 then
 nilP m1 fun ma44 =>
 ldP (ma44.add 1) Hx42 fun p45 =>
 hcall PR f_paint_Paint_Rest ⟨[(.pointer p45)]⟩ Hx42 fun v46 Hx47 =>
 nilP m1 fun ma48 =>
 st (ma48.add 3) (.bool true) Hx47 fun Hx49 =>
 nilP m1 fun ma50 =>
 st (ma50.add 4) (.int .u64 0) Hx49 fun Hx51 =>
 K (.bool true) Hx51
else
 nilP m1 fun ma52 =>
 ldP ma52 Hx42 fun h53 =>
 nilP m1 fun ma54 =>
 ldI .u64 (ma54.add 2) Hx42 fun place55 =>
 hcall PR f_heap_Heap_Next ⟨[(.pointer h53), (.int .u64 place55)]⟩ Hx42 fun v56 Hx57 =>
 tup2 v56 fun v58 v59 =>
 asI .u64 v58 fun t60 =>
 asB v59 fun t61 =>
 (bif (!t61) then
 K (.bool false) Hx57
else
 nilP m1 fun ma62 =>
 st (ma62.add 2) (.int .u64 t60) Hx57 fun Hx63 =>
 nilP m1 fun ma64 =>
 ldP ma64 Hx63 fun h65 =>
 hcall PR f_heap_Heap_Object ⟨[(.pointer h65), (.int .u64 t60)]⟩ Hx63 fun v66 Hx67 =>
 tup2 v66 fun v68 v69 =>
 asAgg' v68 fun cs70 =>
 unCons cs70.toList fun v71 r72 =>
 unCons r72 fun v73 r74 =>
 unCons r74 fun v75 r76 =>
 unCons r76 fun v77 r78 =>
 unCons r78 fun v79 r80 =>
 unNil r80 <|
 asI .u64 v71 fun Serial81 =>
 asI .i64 v73 fun Cell82 =>
 asSl v75 fun RefsP83 RefsL84 RefsC85 =>
 asSl v77 fun ValsP86 ValsL87 ValsC88 =>
 asI .i64 v79 fun In89 =>
 asB v69 fun t90 =>
 newB (.cells #[(.int .u64 0), (.int .i64 0), (.slice none 0 0), (.slice none 0 0), (.int .i64 0)] ty_api_Object) Hx67 fun b91 Hx92 =>
 st ⟨b91, 0, none⟩ (.int .u64 Serial81) Hx92 fun Hx93 =>
 st ⟨b91, 1, none⟩ (.int .i64 Cell82) Hx93 fun Hx94 =>
 st ⟨b91, 2, none⟩ (.slice RefsP83 RefsL84 RefsC85) Hx94 fun Hx95 =>
 st ⟨b91, 3, none⟩ (.slice ValsP86 ValsL87 ValsC88) Hx95 fun Hx96 =>
 st ⟨b91, 4, none⟩ (.int .i64 In89) Hx96 fun Hx97 =>
 ldI .i64 ⟨b91, 4, none⟩ Hx97 fun In98 =>
 (bif (decide ((In98 : Int) > 0)) then
 nilP m1 fun ma99 =>
 ldP (ma99.add 1) Hx97 fun p100 =>
 nilP m1 fun ma101 =>
 ldP ma101 Hx97 fun h102 =>
 ldI .i64 ⟨b91, 4, none⟩ Hx97 fun In103 =>
 hcall PR f_heap_Heap_Node ⟨[(.pointer h102)]⟩ Hx97 fun v104 Hx105 =>
 asI .i64 v104 fun t106 =>
 (ldI .i64 ⟨b91, 4, none⟩ Hx105 fun In107 =>
 ((.int .i64 In107) : Value) = (.int .i64 In103)) ∧
 (ldP (ma99.add 1) Hx105 fun p108 =>
 ((.pointer p108) : Value) = (.pointer p100)) ∧
 hcall PR f_paint_Paint_Shade ⟨[(.pointer p100), (.agg #[(.int .i64 t106), (.int .u64 t60)]), (.int .i64 In103)]⟩ Hx105 fun v109 Hx110 =>
 K (.bool true) Hx110
else
 K (.bool true) Hx97)))))
theorem E_mark_Marker_Step (m1 : Option Addr) (H : Hp) (K : Value → Hp → Prop) : B_mark_Marker_Step m1 H K = denF Tryz.prog Tryz.f164 (.seq none .n (.sub (.seq none .n (.seq none (.sub (.loop ⟨[], [0]⟩ .n)) .n)))) [(.pointer m1)] H K := by kernel_rfl
theorem den_mark_Marker_Step {m1 : Option Addr} {H : Hp} {K : Value → Hp → Prop} (h : B_mark_Marker_Step m1 H K) : hcall PR f_mark_Marker_Step ⟨[(.pointer m1)]⟩ H K := denF_call Tryz.func164 PR_mixed (Eq.mp (E_mark_Marker_Step m1 H K) h)

end Go.Proofs.YtojcacejgbnfkaaGreat

namespace Go.Proofs.YtojcacejgbnfkaaGreat
set_option linter.unusedSimpArgs false
set_option linter.unusedVariables false
open Go
/-- A marker's places. -/
structure Mk where
  place : Int
  pass : Bool
  at_ : Int
def mkSee (s : Hs) (p : Ps) (n : Int) : Ps := match hGet s n with
  | some o => if 0 < o.din then pShade s p ⟨s.node, n⟩ o.din else p
  | none => p
def mkStep (s : Hs) (p : Ps) (m : Mk) : Bool × Ps × Mk :=
  match p.stack.getLast? with
  | some k => (true, (pScan s (pPop p).2 k).2, m)
  | none =>
    if m.pass = true ∧ (hNext s m.at_).2 = true then (true, (pScan s p (hNext s m.at_).1).2, { m with at_ := (hNext s m.at_).1 })
    else if p.over then (true, pRest p, ⟨m.place, true, 0⟩)
    else if (hNext s m.place).2 = false then (false, p, { m with pass := false })
    else (true, mkSee s p (hNext s m.place).1, { m with pass := false, place := (hNext s m.place).1 })
def MkP (b hb pb : Nat) (m : Mk) : Prt := Prt.one b (.cells #[ptrV hb, ptrV pb, .int .u64 m.place, .bool m.pass, .int .u64 m.at_] ty_mark_Marker (0, 0))

section
variable {H0 H : Hp} {L M : List Prt} {i j k hb pb mb rb qb : Nat} {s : Hs} {p : Ps} {m : Mk} {K : Value → Hp → Prop}
theorem mkNewC (h : St H0 L H) (hK : ∀ b H', St H0 (MkP b hb pb ⟨0, false, 0⟩ :: L) H' → K (.tuple #[.pointer (some ⟨b, 0, none⟩), .int .i64 0]) H') :
    hcall PR f_mark_New ⟨[.pointer (some ⟨hb, 0, none⟩), .pointer (some ⟨pb, 0, none⟩)]⟩ H K := by
  apply den_mark_New
  unfold B_mark_New
  simp only [Option.isNone_some, condF]
  intro b3 hb3
  exact hK b3 _ (h.alloc (o := .cells #[ptrV hb, ptrV pb, .int .u64 0, .bool false, .int .u64 0] ty_mark_Marker) hb3)
theorem mkBeginC (h : St H0 L H) (hk : L[k]? = some (MkP mb hb pb m)) (hK : ∀ H', St H0 (L.set k (MkP mb hb pb ⟨0, false, 0⟩)) H' → K (.tuple #[]) H') : hcall PR f_mark_Marker_Begin ⟨[.pointer (some ⟨mb, 0, none⟩)]⟩ H K := by
  apply den_mark_Marker_Begin
  unfold B_mark_Marker_Begin
  have hkl := ltOfGet hk
  simp only [asI_mk', asB_mk, asP_mk, asA_mk, asM_mk, asSl_mk, asStr_mk, tup2_mk, tup3_mk, agg1_mk, agg2_mk, agg3_mk, agg4_mk, asAggm, unCons_mk, unNil_mk, asTup_mk, extractD0, extractD1, List.toList_toArray, nilP_mk, add_mk, Nat.zero_add, Nat.add_zero, condT, condF, Bool.not_true, Bool.not_false, Option.isNone_some, Option.isNone_none]
  refine h.put hk (by simp) fun H1 h1 => h1.put (i := k) (by simp [hkl]; rfl) (by simp) fun H2 h2 => ?_
  rw [List.set_set] at h2
  refine h2.put (i := k) (by simp [hkl]; rfl) (by simp) fun H3 h3 => hK H3 ?_
  rw [List.set_set] at h3
  exact h3

theorem mkStepC (h : St H0 L H) (hi : L[i]? = some (HeapP hb s)) (hj : L[j]? = some (PaintP pb hb p)) (hk : L[k]? = some (MkP mb hb pb m)) (hij : i ≠ j) (hik : i ≠ k) (hjk : j ≠ k)
    (hK : ∀ H', St H0 ((L.set k (MkP mb hb pb (mkStep s p m).2.2)).set j (PaintP pb hb (mkStep s p m).2.1)) H' → K (.bool (mkStep s p m).1) H') :
    hcall PR f_mark_Marker_Step ⟨[.pointer (some ⟨mb, 0, none⟩)]⟩ H K := by
  apply den_mark_Marker_Step
  unfold B_mark_Marker_Step
  have hkl := ltOfGet hk
  have hjl := ltOfGet hj
  have hset : ∀ p' : Ps, ∀ m' : Mk, ((L.set k (MkP mb hb pb m')).set j (PaintP pb hb p'))[i]? = some (HeapP hb s) ∧ ((L.set k (MkP mb hb pb m')).set j (PaintP pb hb p'))[j]? = some (PaintP pb hb p') ∧ ((L.set k (MkP mb hb pb m')).set j (PaintP pb hb p'))[k]? = some (MkP mb hb pb m') := fun p' m' => by
    refine ⟨?_, ?_, ?_⟩
    · rw [List.getElem?_set_ne (Ne.symm hij), List.getElem?_set_ne (Ne.symm hik)]; exact hi
    · simp [hjl]
    · rw [List.getElem?_set_ne hjk]; simp [hkl]
  have hL : L = (L.set k (MkP mb hb pb m)).set j (PaintP pb hb p) := by rw [List.set_self hk, List.set_self hj]
  -- the state, with a paint and a marker of whatever they are
  obtain ⟨LL, hLL⟩ : ∃ LL : Ps → Mk → List Prt, ∀ p' m', LL p' m' = (L.set k (MkP mb hb pb m')).set j (PaintP pb hb p') := ⟨_, fun _ _ => rfl⟩
  have set_j : ∀ p' p'' m', (LL p' m').set j (PaintP pb hb p'') = LL p'' m' := fun p' p'' m' => by rw [hLL, hLL, List.set_set]
  have set_k : ∀ p' m' m'', (LL p' m').set k (MkP mb hb pb m'') = LL p' m'' := fun p' m' m'' => by rw [hLL, hLL, List.set_comm _ _ hjk, List.set_set]
  have gi : ∀ p' m', (LL p' m')[i]? = some (HeapP hb s) := fun p' m' => by rw [hLL]; exact (hset p' m').1
  have gj : ∀ p' m', (LL p' m')[j]? = some (PaintP pb hb p') := fun p' m' => by rw [hLL]; exact (hset p' m').2.1
  have gk : ∀ p' m', (LL p' m')[k]? = some (MkP mb hb pb m') := fun p' m' => by rw [hLL]; exact (hset p' m').2.2
  have hK : ∀ r p' m' H', mkStep s p m = (r, p', m') → St H0 (LL p' m') H' → K (.bool r) H' := fun r p' m' H' e h' => by
    have hK := hK H'
    rw [e] at hK
    exact hK (by rw [← hLL]; exact h')
  rw [hL, ← hLL] at h
  clear hset hL
  refine ⟨fun H' => (St H0 (LL p m) H' ∨ (p.stack.getLast? = none ∧ m.pass = true ∧ (hNext s m.at_).2 = false ∧ St H0 (LL p { m with pass := false }) H')), fun H' => Classical.epsilon fun n : Nat => (n = 1 ∧ hcell H' ⟨mb, 3, none⟩ = some (.bool true)) ∨ (n = 0 ∧ hcell H' ⟨mb, 3, none⟩ ≠ some (.bool true)), .inl h, ?_⟩
  have heps : ∀ H' (b : Bool), hcell H' ⟨mb, 3, none⟩ = some (.bool b) → (Classical.epsilon fun n : Nat => (n = 1 ∧ hcell H' ⟨mb, 3, none⟩ = some (.bool true)) ∨ (n = 0 ∧ hcell H' ⟨mb, 3, none⟩ ≠ some (.bool true))) = if b then 1 else 0 := fun H' b hb => by
    have := Classical.epsilon_spec (p := fun n : Nat => (n = 1 ∧ hcell H' ⟨mb, 3, none⟩ = some (.bool true)) ∨ (n = 0 ∧ hcell H' ⟨mb, 3, none⟩ ≠ some (.bool true))) (by
      cases b
      · exact ⟨0, .inr ⟨rfl, by rw [hb]; simp⟩⟩
      · exact ⟨1, .inl ⟨rfl, hb⟩⟩)
    rcases this with ⟨h1, h2⟩ | ⟨h1, h2⟩
    · rw [h1]
      rw [hb] at h2
      cases b
      · simp at h2
      · rfl
    · rw [h1]
      rw [hb] at h2
      cases b
      · rfl
      · simp at h2
  rintro H1 hor
  -- what is looked at behind the pass
  have over : ∀ m0 : Mk, m0.pass = false → m0.place = m.place → (∀ r p' m', (if p.over then (true, pRest p, (⟨m.place, true, 0⟩ : Mk)) else if (hNext s m.place).2 = false then (false, p, m0)
        else (true, mkSee s p (hNext s m.place).1, { m0 with place := (hNext s m.place).1 })) = (r, p', m') → mkStep s p m = (r, p', m')) →
      ∀ H2, St H0 (LL p m0) H2 → ldP ⟨mb, 1, none⟩ H2 fun p40 => hcall PR f_paint_Paint_Over ⟨[(.pointer p40)]⟩ H2 fun v41 Hx42 => asB v41 fun t43 => (bif t43 then nilP (some ⟨mb, 0, none⟩) fun ma44 => ldP (ma44.add 1) Hx42 fun p45 => hcall PR f_paint_Paint_Rest ⟨[(.pointer p45)]⟩ Hx42 fun v46 Hx47 => nilP (some ⟨mb, 0, none⟩) fun ma48 => st (ma48.add 3) (.bool true) Hx47 fun Hx49 => nilP (some ⟨mb, 0, none⟩) fun ma50 => st (ma50.add 4) (.int .u64 0) Hx49 fun Hx51 => K (.bool true) Hx51 else
        nilP (some ⟨mb, 0, none⟩) fun ma52 => ldP ma52 Hx42 fun h53 => nilP (some ⟨mb, 0, none⟩) fun ma54 => ldI .u64 (ma54.add 2) Hx42 fun place55 => hcall PR f_heap_Heap_Next ⟨[(.pointer h53), (.int .u64 place55)]⟩ Hx42 fun v56 Hx57 => tup2 v56 fun v58 v59 => asI .u64 v58 fun t60 => asB v59 fun t61 => (bif (!t61) then K (.bool false) Hx57 else
          nilP (some ⟨mb, 0, none⟩) fun ma62 => st (ma62.add 2) (.int .u64 t60) Hx57 fun Hx63 => nilP (some ⟨mb, 0, none⟩) fun ma64 => ldP ma64 Hx63 fun h65 => hcall PR f_heap_Heap_Object ⟨[(.pointer h65), (.int .u64 t60)]⟩ Hx63 fun v66 Hx67 => tup2 v66 fun v68 v69 => asAgg' v68 fun cs70 => unCons cs70.toList fun v71 r72 => unCons r72 fun v73 r74 => unCons r74 fun v75 r76 => unCons r76 fun v77 r78 => unCons r78 fun v79 r80 => unNil r80 <|
          asI .u64 v71 fun Serial81 => asI .i64 v73 fun Cell82 => asSl v75 fun RefsP83 RefsL84 RefsC85 => asSl v77 fun ValsP86 ValsL87 ValsC88 => asI .i64 v79 fun In89 => asB v69 fun t90 =>
          newB (.cells #[(.int .u64 0), (.int .i64 0), (.slice none 0 0), (.slice none 0 0), (.int .i64 0)] ty_api_Object) Hx67 fun b91 Hx92 => st ⟨b91, 0, none⟩ (.int .u64 Serial81) Hx92 fun Hx93 => st ⟨b91, 1, none⟩ (.int .i64 Cell82) Hx93 fun Hx94 => st ⟨b91, 2, none⟩ (.slice RefsP83 RefsL84 RefsC85) Hx94 fun Hx95 => st ⟨b91, 3, none⟩ (.slice ValsP86 ValsL87 ValsC88) Hx95 fun Hx96 => st ⟨b91, 4, none⟩ (.int .i64 In89) Hx96 fun Hx97 =>
          ldI .i64 ⟨b91, 4, none⟩ Hx97 fun In98 => (bif (decide ((In98 : Int) > 0)) then nilP (some ⟨mb, 0, none⟩) fun ma99 => ldP (ma99.add 1) Hx97 fun p100 => nilP (some ⟨mb, 0, none⟩) fun ma101 => ldP ma101 Hx97 fun h102 => ldI .i64 ⟨b91, 4, none⟩ Hx97 fun In103 => hcall PR f_heap_Heap_Node ⟨[(.pointer h102)]⟩ Hx97 fun v104 Hx105 => asI .i64 v104 fun t106 =>
            (ldI .i64 ⟨b91, 4, none⟩ Hx105 fun In107 => ((.int .i64 In107) : Value) = (.int .i64 In103)) ∧ (ldP (ma99.add 1) Hx105 fun p108 => ((.pointer p108) : Value) = (.pointer p100)) ∧ hcall PR f_paint_Paint_Shade ⟨[(.pointer p100), (.agg #[(.int .i64 t106), (.int .u64 t60)]), (.int .i64 In103)]⟩ Hx105 fun v109 Hx110 => K (.bool true) Hx110
          else K (.bool true) Hx97))) := fun m0 hm0 hm0p hst H2 h2 => by
    refine ldP_of (h2.cell (gk _ _) rfl) (pOverC h2 (gj _ _) ?_)
    simp only [asI_mk', asB_mk, asP_mk, asA_mk, asM_mk, asSl_mk, asStr_mk, tup2_mk, tup3_mk, agg1_mk, agg2_mk, agg3_mk, agg4_mk, asAggm, unCons_mk, unNil_mk, asTup_mk, extractD0, extractD1, List.toList_toArray, nilP_mk, add_mk, Nat.zero_add, Nat.add_zero, condT, condF, Bool.not_true, Bool.not_false, Option.isNone_some, Option.isNone_none]
    cases ho : p.over
    · rw [ho, if_neg (by decide)] at hst
      simp only [condF]
      refine ldP_of (h2.cell (gk _ _) rfl) (ldI_of (h2.cell (gk _ _) rfl) (hNextC h2 (gi _ _) fun H3 h3 => ?_))
      simp only [asI_mk', asB_mk, asP_mk, asA_mk, asM_mk, asSl_mk, asStr_mk, tup2_mk, tup3_mk, agg1_mk, agg2_mk, agg3_mk, agg4_mk, asAggm, unCons_mk, unNil_mk, asTup_mk, extractD0, extractD1, List.toList_toArray, nilP_mk, add_mk, Nat.zero_add, Nat.add_zero, condT, condF, Bool.not_true, Bool.not_false, Option.isNone_some, Option.isNone_none]
      rw [hm0p]
      cases hn : (hNext s m.place).2
      · rw [hn, if_pos rfl] at hst
        exact hK false p m0 H3 (hst _ _ _ rfl) h3
      · rw [hn, if_neg (by decide)] at hst
        simp only [Bool.not_true, condF]
        refine h3.put (gk _ _) (by simp) fun H4 h4 => ?_
        have h4 : St H0 (LL p { m0 with place := (hNext s m.place).1 }) H4 := by rw [← set_k p m0]; exact h4
        refine ldP_of (h4.cell (gk _ _) rfl) (hObjC h4 (gi _ _) (fun hg H5 h5 => ?_) fun o hg rp rc vp vc H5 h5 => ?_)
        · simp only [asI_mk', asB_mk, asP_mk, asA_mk, asM_mk, asSl_mk, asStr_mk, tup2_mk, tup3_mk, agg1_mk, agg2_mk, agg3_mk, agg4_mk, asAggm, unCons_mk, unNil_mk, asTup_mk, extractD0, extractD1, List.toList_toArray, nilP_mk, add_mk, Nat.zero_add, Nat.add_zero, condT, condF, Bool.not_true, Bool.not_false, Option.isNone_some, Option.isNone_none]
          refine box5 h5 fun b91 H6 h6 => ldI_of (h6.cell (i := 0) rfl rfl) (bif_neg (by omega) ?_)
          unfold mkSee at hst
          rw [hg] at hst
          exact hK true p _ H6 (hst _ _ _ rfl) h6.less
        · simp only [asI_mk', asB_mk, asP_mk, asA_mk, asM_mk, asSl_mk, asStr_mk, tup2_mk, tup3_mk, agg1_mk, agg2_mk, agg3_mk, agg4_mk, asAggm, unCons_mk, unNil_mk, asTup_mk, extractD0, extractD1, List.toList_toArray, nilP_mk, add_mk, Nat.zero_add, Nat.add_zero, condT, condF, Bool.not_true, Bool.not_false, Option.isNone_some, Option.isNone_none]
          refine box5 h5 fun b91 H6 h6 => ldI_of (h6.cell (i := 0) rfl rfl) ?_
          unfold mkSee at hst
          rw [hg] at hst
          simp only at hst
          by_cases hd : o.din > 0
          · rw [if_pos (show 0 < o.din from hd)] at hst
            refine bif_pos hd (ldP_of (h6.cell (i := k + 3) (gk _ _) rfl) (ldP_of (h6.cell (i := k + 3) (gk _ _) rfl) (ldI_of (h6.cell (i := 0) rfl rfl) (hNode h6 (i := i + 3) (gi _ _) ?_))))
            simp only [asI_mk', asB_mk, asP_mk, asA_mk, asM_mk, asSl_mk, asStr_mk, tup2_mk, tup3_mk, agg1_mk, agg2_mk, agg3_mk, agg4_mk, asAggm, unCons_mk, unNil_mk, asTup_mk, extractD0, extractD1, List.toList_toArray, nilP_mk, add_mk, Nat.zero_add, Nat.add_zero, condT, condF, Bool.not_true, Bool.not_false, Option.isNone_some, Option.isNone_none]
            refine ⟨ldI_of (h6.cell (i := 0) rfl rfl) rfl, ldP_of (h6.cell (i := k + 3) (gk _ _) rfl) rfl, ?_⟩
            refine pShadeC (y := ⟨s.node, (hNext s m.place).1⟩) h6 (i := i + 3) (j := j + 3) (gi _ _) (gj _ _) (by omega) fun H7 h7 => ?_
            have h8 : St H0 ((LL p { m0 with place := (hNext s m.place).1 }).set j (PaintP pb hb (pShade s p ⟨s.node, (hNext s m.place).1⟩ o.din))) H7 := St.lesses (M := [_, _, _]) h7
            rw [set_j] at h8
            exact hK true _ _ H7 (hst _ _ _ rfl) h8
          · rw [if_neg (show ¬ 0 < o.din from hd)] at hst
            exact bif_neg hd (hK true p _ H6 (hst _ _ _ rfl) (St.lesses (M := [_, _, _]) h6))
    · rw [ho, if_pos rfl] at hst
      simp only [condT]
      refine ldP_of (h2.cell (gk _ _) rfl) (pRestC h2 (gj _ _) fun H3 h3 => ?_)
      rw [set_j] at h3
      refine h3.put (gk _ _) (by simp) fun H4 h4 => ?_
      have h4 : St H0 (LL (pRest p) { m0 with pass := true }) H4 := by rw [← set_k (pRest p) m0]; exact h4
      refine h4.put (gk _ _) (by simp) fun H5 h5 => ?_
      have h5 : St H0 (LL (pRest p) ⟨m.place, true, 0⟩) H5 := by rw [← set_k (pRest p) { m0 with pass := true }, ← hm0p]; exact h5
      exact hK true _ _ H5 (hst _ _ _ rfl) h5
  have popped : ∀ m0 : Mk, p.stack.getLast? = none → ∀ H2, St H0 (LL p m0) H2 → ∀ Q : Value → Hp → Prop, (∀ H3, St H0 (LL p m0) H3 → Q (.tuple #[.int .u64 0, .bool false]) H3) → hcall PR f_paint_Paint_Pop ⟨[.pointer (some ⟨pb, 0, none⟩)]⟩ H2 Q := fun m0 hl H2 h2 Q hQ => by
    refine pPopC h2 (gj _ _) fun H3 h3 => ?_
    have e : pPop p = ((0, false), p) := by unfold pPop; rw [hl]
    rw [set_j, e] at h3
    rw [e]
    exact hQ H3 h3
  simp only [asI_mk', asB_mk, asP_mk, asA_mk, asM_mk, asSl_mk, asStr_mk, tup2_mk, tup3_mk, agg1_mk, agg2_mk, agg3_mk, agg4_mk, asAggm, unCons_mk, unNil_mk, asTup_mk, extractD0, extractD1, List.toList_toArray, nilP_mk, add_mk, Nat.zero_add, Nat.add_zero, condT, condF, Bool.not_true, Bool.not_false, Option.isNone_some, Option.isNone_none]
  rcases hor with h1 | ⟨hl, hpass, hn, h1⟩
  · refine ldP_of (h1.cell (gk _ _) rfl) ?_
    cases hl : p.stack.getLast? with
    | some k0 =>
      refine pPopC h1 (gj _ _) fun H2 h2 => ?_
      have e : pPop p = ((k0, true), { p with stack := p.stack.dropLast }) := by unfold pPop; rw [hl]
      rw [set_j] at h2
      rw [e] at h2 ⊢
      simp only [asI_mk', asB_mk, asP_mk, asA_mk, asM_mk, asSl_mk, asStr_mk, tup2_mk, tup3_mk, agg1_mk, agg2_mk, agg3_mk, agg4_mk, asAggm, unCons_mk, unNil_mk, asTup_mk, extractD0, extractD1, List.toList_toArray, nilP_mk, add_mk, Nat.zero_add, Nat.add_zero, condT, condF, Bool.not_true, Bool.not_false, Option.isNone_some, Option.isNone_none]
      refine ldP_of (h2.cell (gk _ _) rfl) (pScanC h2 (gi _ _) (gj _ _) hij fun H3 h3 => ?_)
      rw [set_j] at h3
      simp only [asI_mk', asB_mk, asP_mk, asA_mk, asM_mk, asSl_mk, asStr_mk, tup2_mk, tup3_mk, agg1_mk, agg2_mk, agg3_mk, agg4_mk, asAggm, unCons_mk, unNil_mk, asTup_mk, extractD0, extractD1, List.toList_toArray, nilP_mk, add_mk, Nat.zero_add, Nat.add_zero, condT, condF, Bool.not_true, Bool.not_false, Option.isNone_some, Option.isNone_none]
      exact hK true _ m H3 (by unfold mkStep; rw [hl]; simp only; rw [e]) h3
    | none =>
      refine popped m hl H1 h1 _ fun H2 h2 => ?_
      simp only [asI_mk', asB_mk, asP_mk, asA_mk, asM_mk, asSl_mk, asStr_mk, tup2_mk, tup3_mk, agg1_mk, agg2_mk, agg3_mk, agg4_mk, asAggm, unCons_mk, unNil_mk, asTup_mk, extractD0, extractD1, List.toList_toArray, nilP_mk, add_mk, Nat.zero_add, Nat.add_zero, condT, condF, Bool.not_true, Bool.not_false, Option.isNone_some, Option.isNone_none]
      refine ldB_of (h2.cell (gk _ _) rfl) ?_
      cases hpass : m.pass
      · simp only [condF]
        have hm : ({ m with pass := false } : Mk) = m := by cases m; simp at hpass; subst hpass; rfl
        refine over m hpass rfl (fun r p' m' e => ?_) H2 h2
        unfold mkStep
        rw [hl]
        simp only
        rw [if_neg (by rw [hpass]; simp), ← e, hm]
        congr 1
        cases m
        simp at hpass
        subst hpass
        rfl
      · simp only [condT]
        refine ldP_of (h2.cell (gk _ _) rfl) (ldI_of (h2.cell (gk _ _) rfl) (hNextC h2 (gi _ _) fun H3 h3 => ?_))
        simp only [asI_mk', asB_mk, asP_mk, asA_mk, asM_mk, asSl_mk, asStr_mk, tup2_mk, tup3_mk, agg1_mk, agg2_mk, agg3_mk, agg4_mk, asAggm, unCons_mk, unNil_mk, asTup_mk, extractD0, extractD1, List.toList_toArray, nilP_mk, add_mk, Nat.zero_add, Nat.add_zero, condT, condF, Bool.not_true, Bool.not_false, Option.isNone_some, Option.isNone_none]
        cases hn : (hNext s m.at_).2
        · simp only [Bool.not_false, condT]
          refine h3.put (gk _ _) (by simp) fun H4 h4 => ?_
          have h4 : St H0 (LL p { m with pass := false }) H4 := by rw [← set_k p m]; exact h4
          refine ⟨.inr ⟨by first | trivial | exact hl, by first | trivial | exact hpass, by first | trivial | exact hn, h4⟩, ?_⟩
          rw [heps H4 false (h4.cell (gk _ _) rfl), heps H1 m.pass (h1.cell (gk _ _) rfl), hpass]
          decide
        · simp only [Bool.not_true, condF]
          refine h3.put (gk _ _) (by simp) fun H4 h4 => ?_
          have h4 : St H0 (LL p { m with at_ := (hNext s m.at_).1 }) H4 := by rw [← set_k p m]; exact h4
          refine ldP_of (h4.cell (gk _ _) rfl) (pScanC h4 (gi _ _) (gj _ _) hij fun H5 h5 => ?_)
          rw [set_j] at h5
          simp only [asI_mk', asB_mk, asP_mk, asA_mk, asM_mk, asSl_mk, asStr_mk, tup2_mk, tup3_mk, agg1_mk, agg2_mk, agg3_mk, agg4_mk, asAggm, unCons_mk, unNil_mk, asTup_mk, extractD0, extractD1, List.toList_toArray, nilP_mk, add_mk, Nat.zero_add, Nat.add_zero, condT, condF, Bool.not_true, Bool.not_false, Option.isNone_some, Option.isNone_none]
          exact hK true _ _ H5 (by unfold mkStep; rw [hl]; simp only; rw [if_pos ⟨hpass, hn⟩]) h5
  · refine ldP_of (h1.cell (gk _ _) rfl) (popped _ hl H1 h1 _ fun H2 h2 => ?_)
    simp only [asI_mk', asB_mk, asP_mk, asA_mk, asM_mk, asSl_mk, asStr_mk, tup2_mk, tup3_mk, agg1_mk, agg2_mk, agg3_mk, agg4_mk, asAggm, unCons_mk, unNil_mk, asTup_mk, extractD0, extractD1, List.toList_toArray, nilP_mk, add_mk, Nat.zero_add, Nat.add_zero, condT, condF, Bool.not_true, Bool.not_false, Option.isNone_some, Option.isNone_none]
    refine ldB_of (h2.cell (gk _ _) rfl) ?_
    simp only [condF]
    refine over { m with pass := false } rfl rfl (fun r p' m' e => ?_) H2 h2
    unfold mkStep
    rw [hl]
    simp only
    rw [if_neg (by rw [hn]; simp), ← e]
end
end Go.Proofs.YtojcacejgbnfkaaGreat

namespace Go.Proofs.YtojcacejgbnfkaaGreat
set_option linter.unusedSimpArgs false
set_option linter.unusedVariables false
open Go
theorem sum_map_le {α : Type} {l : List α} {f g : α → Nat} (h : ∀ x ∈ l, f x ≤ g x) : (l.map f).sum ≤ (l.map g).sum := by
  induction l with
  | nil => exact Nat.le_refl _
  | cons a l ih =>
    simp only [List.map_cons, List.sum_cons]
    have := h a (by simp)
    have := ih fun x hx => h x (by simp [hx])
    omega
theorem sum_map_lt {α : Type} {l : List α} {f g : α → Nat} (h : ∀ x ∈ l, f x ≤ g x) (hx : ∃ x ∈ l, f x + 1 ≤ g x) : (l.map f).sum + 1 ≤ (l.map g).sum := by
  induction l with
  | nil => obtain ⟨x, hx, _⟩ := hx; cases hx
  | cons a l ih =>
    simp only [List.map_cons, List.sum_cons]
    have h1 := h a (by simp)
    have h2 := sum_map_le (l := l) (f := f) (g := g) fun x hx => h x (by simp [hx])
    obtain ⟨x, hm, hlt⟩ := hx
    rcases List.mem_cons.1 hm with rfl | hm
    · omega
    · have := ih (fun x hx => h x (by simp [hx])) ⟨x, hm, hlt⟩
      omega

section
variable {s : Hs} {p : Ps} {x : Id} {r k : Int} {n : Nat} {m : Mk}
structure Mk.ok (m : Mk) : Prop where
  place : 0 ≤ m.place
  at_ : 0 ≤ m.at_
theorem hNext_pos (ho : s.ok) {q : Int} (h : (hNext s q).2 = true) : q < (hNext s q).1 ∧ 1 ≤ (hNext s q).1 ∧ (hNext s q).1 ≤ s.last := by
  obtain ⟨h1, h2⟩ := hNext_range ho h
  have := get_ser ho h2
  omega
theorem mkStep_ok (ho : s.ok) (hp : p.ok) (hm : m.ok) : (mkStep s p m).2.1.ok ∧ (mkStep s p m).2.2.ok := by
  unfold mkStep
  split
  · exact ⟨hp.pop.scan, hm⟩
  · split
    · rename_i h
      have := hNext_pos ho h.2
      exact ⟨hp.scan, ⟨hm.place, by show 0 ≤ (hNext s m.at_).1; omega⟩⟩
    · split
      · exact ⟨hp.rest, ⟨hm.place, Int.le_refl _⟩⟩
      · split
        · exact ⟨hp, ⟨hm.place, hm.at_⟩⟩
        · rename_i h
          have := hNext_pos ho (by simpa using h)
          refine ⟨?_, ⟨by show 0 ≤ (hNext s m.place).1; omega, hm.at_⟩⟩
          simp only
          unfold mkSee
          split
          · split
            · exact hp.shade
            · exact hp
          · exact hp
theorem mkStep_end (h : (mkStep s p m).1 = false) : (mkStep s p m).2 = (p, { m with pass := false }) ∧ p.stack = [] ∧ p.over = false ∧ (m.pass = true → (hNext s m.at_).2 = false) ∧ (hNext s m.place).2 = false := by
  unfold mkStep at h ⊢
  split at h
  · cases h
  · rename_i hk
    split at h
    · cases h
    · rename_i hc
      rw [if_neg hc]
      split at h
      · cases h
      · rename_i hov
        rw [if_neg hov]
        split at h
        · rename_i hn
          rw [if_pos hn]
          refine ⟨rfl, List.getLast?_eq_none_iff.1 hk, by simpa using hov, fun hp => ?_, hn⟩
          cases hq : (hNext s m.at_).2
          · rfl
          · exact absurd ⟨hp, hq⟩ hc
        · cases h
end
end Go.Proofs.YtojcacejgbnfkaaGreat

namespace Go.Proofs.YtojcacejgbnfkaaGreat
set_option linter.unusedSimpArgs false
set_option linter.unusedVariables false
open Go
/-- An object can be reached from a root, with its rank. -/
inductive Rch (s : Hs) (B : Int → Int → Prop) : Int → Int → Prop
  | base {k r : Int} : B k r → Rch s B k r
  | step {k r : Int} {o : Ob} {x : Id} : Rch s B k r → hGet s k = some o → x ∈ o.refs → isId x → x.n = s.node → hGet s x.s ≠ none → Rch s B x.s r
def RchO (s : Hs) (B : Int → Int → Prop) (x : Id) (r : Int) : Prop := ∃ k o, Rch s B k r ∧ hGet s k = some o ∧ x ∈ o.refs ∧ isId x ∧ x.n ≠ s.node
structure Sound (s : Hs) (B : Int → Int → Prop) (p : Ps) : Prop where
  marks : ∀ k r g, mlook p.marks k = some (r, g) → hGet s k ≠ none ∧ Rch s B k r
  met : ∀ x r, mlook p.met x = some r → RchO s B x r
/-- What is grey waits on the stack, or the stack was over, or else A tells it. -/
def Greys (p : Ps) (A : Int → Prop) : Prop := ∀ k r, mlook p.marks k = some (r, true) → k ∈ p.stack ∨ p.over = true ∨ A k

section
variable {s : Hs} {p q : Ps} {x : Id} {r k : Int} {m : Mk} {B : Int → Int → Prop} {R A : Int → Prop}
theorem Sound.shade (h : Sound s B p) (h1 : isId x → x.n = s.node → hGet s x.s ≠ none → Rch s B x.s (clampR r)) (h2 : isId x → x.n ≠ s.node → RchO s B x (clampR r)) : Sound s B (pShade s p x r) := by
  refine ⟨fun k w g e => ?_, fun y w e => ?_⟩
  · rcases shade_marks (s := s) (p := p) (x := x) (r := r) with hm | ⟨a1, a2, a3, hm, _⟩
    · rw [hm] at e; exact h.marks k w g e
    · rw [hm, mlook_mput] at e
      by_cases ea : k = x.s
      · rw [if_pos ea] at e; cases e; rw [ea]; exact ⟨a3, h1 a1 a2 a3⟩
      · rw [if_neg ea] at e; exact h.marks k w g e
  · rcases shade_met (s := s) (p := p) (x := x) (r := r) with hm | ⟨a1, a2, hm, _⟩
    · rw [hm] at e; exact h.met y w e
    · rw [hm, mlook_mput] at e
      by_cases ea : y = x
      · rw [if_pos ea] at e; cases e; rw [ea]; exact h2 a1 a2
      · rw [if_neg ea] at e; exact h.met y w e
theorem Sound.shades {l : List Id} (h : Sound s B p) (h1 : ∀ x ∈ l, isId x → x.n = s.node → hGet s x.s ≠ none → Rch s B x.s (clampR r)) (h2 : ∀ x ∈ l, isId x → x.n ≠ s.node → RchO s B x (clampR r)) : Sound s B (pShades s p l r) := by
  unfold pShades
  induction l generalizing p with
  | nil => exact h
  | cons y l ih => exact ih (h.shade (h1 y (by simp)) (h2 y (by simp))) (fun x hx => h1 x (by simp [hx])) fun x hx => h2 x (by simp [hx])
theorem Sound.scan (h : Sound s B p) (ho : p.ok) : Sound s B (pScan s p k).2 := by
  unfold pScan
  split
  · rename_i o w hg hl
    have hw := mlook_ranks ho hl
    have hr := (h.marks k w true hl).2
    have h0 : Sound s B { p with marks := mput p.marks k (w, false) } := ⟨fun j w' g e => by
      simp only at e
      rw [mlook_mput] at e
      by_cases ea : j = k
      · rw [if_pos ea] at e; cases e; rw [ea]; exact ⟨by rw [hg]; simp, hr⟩
      · rw [if_neg ea] at e; exact h.marks j w' g e, h.met⟩
    refine h0.shades (fun y hy a b c => ?_) fun y hy a b => ?_
    · rw [clampR_id hw]; exact .step hr hg hy a b c
    · rw [clampR_id hw]; exact ⟨k, o, hr, hg, hy, a, b⟩
  · exact h

theorem Greys.push (h : ∀ j w, mlook q.marks j = some (w, true) → j = k ∨ j ∈ q.stack ∨ q.over = true ∨ A j) : Greys (pPush q k) A := by
  intro j w e
  rw [pPush_marks] at e
  have h := h j w e
  unfold pPush
  split
  · exact .inr (.inl rfl)
  · simp only [List.mem_append, List.mem_singleton]
    rcases h with h | h | h | h
    · exact .inl (.inr h)
    · exact .inl (.inl h)
    · exact .inr (.inl h)
    · exact .inr (.inr h)
theorem Greys.shade (h : Greys p A) : Greys (pShade s p x r) A := by
  have put : ∀ j w, mlook (mput p.marks x.s (clampR r, true)) j = some (w, true) → j = x.s ∨ j ∈ p.stack ∨ p.over = true ∨ A j := fun j w e => by
    rw [mlook_mput] at e
    by_cases ea : j = x.s
    · exact .inl ea
    · rw [if_neg ea] at e; exact .inr (h j w e)
  unfold pShade
  split
  · exact h
  · split
    · split
      · exact h
      · split <;> exact h
    · split
      · exact h
      · split
        · exact Greys.push (q := { p with marks := mput p.marks x.s (clampR r, true) }) put
        · rename_i was g hl
          split
          · exact h
          · split
            · rename_i hgt
              intro j w e
              rcases put j w e with e2 | e2
              · rw [e2]; exact h x.s was (by rw [hl, hgt])
              · exact e2
            · exact Greys.push (q := { p with marks := mput p.marks x.s (clampR r, true) }) put
theorem Greys.shades {l : List Id} (h : Greys p A) : Greys (pShades s p l r) A := by
  unfold pShades
  induction l generalizing p with
  | nil => exact h
  | cons y l ih => exact ih h.shade
theorem Greys.scan (h : Greys p fun j => A j ∨ j = k) (hs : ∀ r, mlook p.marks k = some (r, true) → hGet s k ≠ none) : Greys (pScan s p k).2 A := by
  unfold pScan
  split
  · rename_i o w hg hl
    refine Greys.shades fun j w' e => ?_
    simp only at e
    rw [mlook_mput] at e
    by_cases ea : j = k
    · rw [if_pos ea] at e; cases e
    · rw [if_neg ea] at e
      rcases h j w' e with h | h | h | h
      · exact .inl h
      · exact .inr (.inl h)
      · exact .inr (.inr h)
      · exact absurd h ea
  · rename_i hno
    intro j w' e
    have hjk : j ≠ k := fun ea => by
      rw [ea] at e
      cases hg : hGet s k with
      | none => exact hs w' e hg
      | some o => exact hno o w' hg e
    rcases h j w' e with h | h | h | h
    · exact .inl h
    · exact .inr (.inl h)
    · exact .inr (.inr h)
    · exact absurd h hjk

theorem hNext_false {q : Int} (h : (hNext s q).2 = false) {k : Int} (hk : hGet s k ≠ none) : k ≤ q := by
  unfold hNext at h
  cases hg : hGet s k with
  | none => exact absurd hg hk
  | some o =>
    obtain ⟨h1, h2⟩ := hGet_mem hg
    split at h
    · cases h
    · rename_i hf
      rw [List.find?_eq_none] at hf
      have := hf o h1
      simp at this
      omega
theorem hNext_min (ho : s.ok) {q : Int} (h : (hNext s q).2 = true) {k : Int} (hk : hGet s k ≠ none) (hq : q < k) : (hNext s q).1 ≤ k := by
  have hr := ho.rise
  cases hg : hGet s k with
  | none => exact absurd hg hk
  | some o =>
    obtain ⟨h1, h2⟩ := hGet_mem hg
    unfold hNext
    clear h hg hk
    generalize s.obs = l at *
    induction l with
    | nil => cases h1
    | cons a l ih =>
      rw [List.pairwise_cons] at hr
      by_cases hc : q < a.ser
      · rw [List.find?_cons_of_pos (by simpa using hc)]
        rcases List.mem_cons.1 h1 with rfl | h1
        · simp only; omega
        · have := hr.1 o h1; simp only; omega
      · rw [List.find?_cons_of_neg (by simpa using hc)]
        rcases List.mem_cons.1 h1 with rfl | h1
        · omega
        · exact ih hr.2 h1

/-- Marking is under way. -/
structure Mkd (s : Hs) (B : Int → Int → Prop) (R : Int → Prop) (p : Ps) (m : Mk) : Prop where
  sound : Sound s B p
  tight : Tight s p
  grey : Greys p fun k => m.pass = true ∧ m.at_ < k
  seen : ∀ k o, hGet s k = some o → 0 < o.din → k ≤ m.place → ∃ r g, mlook p.marks k = some (r, g) ∧ r ≤ o.din
  roots : ∀ k, R k → ∃ r g, mlook p.marks k = some (r, g) ∧ r ≤ 0

theorem falls_has {p' : Ps} (f : Falls p p') {b : Int} (h : ∃ r g, mlook p.marks k = some (r, g) ∧ r ≤ b) : ∃ r g, mlook p'.marks k = some (r, g) ∧ r ≤ b := by
  obtain ⟨r, g, e, h⟩ := h
  obtain ⟨r', g', e', h'⟩ := f.marks k r g e
  exact ⟨r', g', e', by omega⟩
theorem Sound.pop (h : Sound s B p) : Sound s B (pPop p).2 := by
  unfold pPop
  split
  · exact h
  · exact ⟨h.marks, h.met⟩
theorem pPop_marks : (pPop p).2.marks = p.marks ∧ (pPop p).2.met = p.met ∧ (pPop p).2.over = p.over := by unfold pPop; split <;> exact ⟨rfl, rfl, rfl⟩
theorem Tight.same {p' : Ps} (h : Tight s p) (e1 : p'.marks = p.marks) (e2 : p'.met = p.met) : Tight s p' := by
  intro k r o hl hg x hx hid
  rw [e1] at hl
  have := h k r o hl hg x hx hid
  rwa [← e1, ← e2] at this
theorem Falls.same {p' : Ps} (e1 : p'.marks = p.marks) (e2 : p'.met = p.met) : Falls p p' := ⟨fun k r g e => ⟨r, g, by rw [e1]; exact e, Int.le_refl _⟩, fun k r e => ⟨r, by rw [e2]; exact e, Int.le_refl _⟩⟩

theorem Mkd.step (ho : s.ok) (hp : p.ok) (hm : m.ok) (hB : ∀ k o, hGet s k = some o → 0 < o.din → B k o.din) (h : Mkd s B R p m) : Mkd s B R (mkStep s p m).2.1 (mkStep s p m).2.2 := by
  unfold mkStep
  split
  · rename_i k hk
    simp only
    have e : pPop p = ((k, true), { p with stack := p.stack.dropLast }) := by unfold pPop; rw [hk]
    have f : Falls p (pScan s (pPop p).2 k).2 := (Falls.same pPop_marks.1 pPop_marks.2.1).trans scan_falls
    refine ⟨h.sound.pop.scan hp.pop, (h.tight.same pPop_marks.1 pPop_marks.2.1).scan hp.pop, ?_, fun a o hg hd hle => falls_has f (h.seen a o hg hd hle), fun a ha => falls_has f (h.roots a ha)⟩
    refine Greys.scan ?_ fun r hr => ?_
    · intro j w hj
      rw [pPop_marks.1] at hj
      rw [pPop_marks.2.2]
      rcases h.grey j w hj with g | g | g
      · have hst : p.stack = (pPop p).2.stack ++ [k] := by
          rw [e]
          obtain ⟨l, hl⟩ : ∃ l, p.stack = l ++ [k] := List.getLast?_eq_some_iff.1 hk
          rw [hl]; simp
        rw [hst] at g
        rcases List.mem_append.1 g with g | g
        · exact .inl g
        · exact .inr (.inr (.inr (by simpa using g)))
      · exact .inr (.inl g)
      · exact .inr (.inr (.inl g))
    · rw [pPop_marks.1] at hr
      exact (h.sound.marks k r true hr).1
  · rename_i hk
    have hst : p.stack = [] := List.getLast?_eq_none_iff.1 hk
    split
    · rename_i hc
      simp only
      have f : Falls p (pScan s p (hNext s m.at_).1).2 := scan_falls
      refine ⟨h.sound.scan hp, h.tight.scan hp, ?_, fun a o hg hd hle => falls_has f (h.seen a o hg hd hle), fun a ha => falls_has f (h.roots a ha)⟩
      refine Greys.scan (fun j w hj => ?_) fun r hr => (h.sound.marks _ r true hr).1
      rcases h.grey j w hj with g | g | g
      · exact .inl g
      · exact .inr (.inl g)
      · have := hNext_min ho hc.2 (h.sound.marks j w true hj).1 g.2
        by_cases ej : j = (hNext s m.at_).1
        · exact .inr (.inr (.inr ej))
        · exact .inr (.inr (.inl ⟨hc.1, by show (hNext s m.at_).1 < j; omega⟩))
    · rename_i hc
      have hdone : ∀ j, hGet s j ≠ none → ¬ (m.pass = true ∧ m.at_ < j) := fun j hj ⟨h1, h2⟩ => by
        cases hn : (hNext s m.at_).2
        · have := hNext_false hn hj; omega
        · exact hc ⟨h1, hn⟩
      split
      · rename_i hov
        simp only
        refine ⟨⟨h.sound.marks, h.sound.met⟩, h.tight.same rfl rfl, fun j w hj => ?_, h.seen, h.roots⟩
        have := get_ser ho (h.sound.marks j w true hj).1
        exact .inr (.inr ⟨rfl, by show (0 : Int) < j; omega⟩)
      · rename_i hov
        have hgrey : Greys p fun _ => False := fun j w hj => by
          rcases h.grey j w hj with g | g | g
          · exact .inl g
          · exact .inr (.inl g)
          · exact absurd g (hdone j (h.sound.marks j w true hj).1)
        split
        · simp only
          refine ⟨h.sound, h.tight, fun j w hj => ?_, h.seen, h.roots⟩
          rcases hgrey j w hj with g | g | g
          · exact .inl g
          · exact .inr (.inl g)
          · exact g.elim
        · rename_i hn
          have hn : (hNext s m.place).2 = true := by simpa using hn
          simp only
          have f : Falls p (mkSee s p (hNext s m.place).1) := by
            unfold mkSee
            split
            · split
              · exact shade_falls
              · exact Falls.refl p
            · exact Falls.refl p
          have hnx := hNext_pos ho hn
          refine ⟨?_, ?_, fun j w hj => ?_, fun a o hg hd hle => ?_, fun a ha => falls_has f (h.roots a ha)⟩
          · unfold mkSee
            split
            · rename_i o hg
              split
              · rename_i hd
                have hdin := (ho.obs o (hGet_mem hg).1).din
                refine h.sound.shade (fun _ _ _ => ?_) fun _ hne => absurd rfl hne
                rw [clampR_id hdin]
                exact .base (hB _ o hg hd)
              · exact h.sound
            · exact h.sound
          · unfold mkSee
            split
            · split
              · exact h.tight.shade
              · exact h.tight
            · exact h.tight
          · have hgr : Greys (mkSee s p (hNext s m.place).1) fun _ => False := by
              unfold mkSee
              split
              · split
                · exact hgrey.shade
                · exact hgrey
              · exact hgrey
            rcases hgr j w hj with g | g | g
            · exact .inl g
            · exact .inr (.inl g)
            · exact g.elim
          · simp only at hle
            by_cases ea : a = (hNext s m.place).1
            · subst ea
              unfold mkSee
              rw [hg]
              simp only
              rw [if_pos hd]
              have hdin := (ho.obs o (hGet_mem hg).1).din
              have hn1 := ho.node
              have hl1 := ho.last
              have hlow := shade_low (s := s) (p := p) (x := ⟨s.node, (hNext s m.place).1⟩) (r := o.din) (by unfold isId; exact ⟨hn1.1, hn1.2, hnx.2.1, by show (hNext s m.place).1 ≤ _; omega⟩)
              rw [if_pos rfl] at hlow
              have := hlow (by rw [hg]; simp)
              rw [clampR_id hdin] at this
              exact this
            · refine falls_has f (h.seen a o hg hd ?_)
              rcases Int.lt_or_le m.place a with hlt | hge
              · have := hNext_min ho hn (k := a) (by rw [hg]; simp) hlt
                omega
              · exact hge

/-- Marking has ended. -/
structure Done (s : Hs) (B : Int → Int → Prop) (p : Ps) : Prop where
  sound : Sound s B p
  tight : Tight s p
  black : ∀ k r, mlook p.marks k ≠ some (r, true)
  base : ∀ k r, B k r → ∃ r' g, mlook p.marks k = some (r', g) ∧ r' ≤ r

theorem Mkd.done (ho : s.ok) (h : Mkd s B R p m) (he : (mkStep s p m).1 = false) (hB : ∀ k r, B k r → (∃ o, hGet s k = some o ∧ 0 < o.din ∧ r = o.din) ∨ (R k ∧ r = 0)) : Done s B p := by
  obtain ⟨_, h2, h3, h4, h5⟩ := mkStep_end he
  refine ⟨h.sound, h.tight, fun k r e => ?_, fun k r hb => ?_⟩
  · have hk := (h.sound.marks k r true e).1
    rcases h.grey k r e with g | g | g
    · rw [h2] at g; cases g
    · rw [h3] at g; cases g
    · have := hNext_false (h4 g.1) hk
      omega
  · rcases hB k r hb with ⟨o, hg, hd, rfl⟩ | ⟨hr, rfl⟩
    · exact h.seen k o hg hd (hNext_false h5 (by rw [hg]; simp))
    · exact h.roots k hr

theorem Done.least (d : Done s B p) (h : Rch s B k r) : ∃ r', mlook p.marks k = some (r', false) ∧ r' ≤ r := by
  have fl : ∀ {k r : Int}, (∃ r' g, mlook p.marks k = some (r', g) ∧ r' ≤ r) → ∃ r', mlook p.marks k = some (r', false) ∧ r' ≤ r := fun {k r} ⟨r', g, e, h⟩ => by
    cases g
    · exact ⟨r', e, h⟩
    · exact absurd e (d.black k r')
  induction h with
  | base hb => exact fl (d.base _ _ hb)
  | step _ hg hx hid hn hy ih =>
    obtain ⟨r1, e1, h1⟩ := ih
    have := d.tight _ r1 _ e1 hg _ hx hid
    rw [if_pos hn] at this
    obtain ⟨r2, g, e2, h2⟩ := this hy
    exact fl ⟨r2, g, e2, by omega⟩
theorem Done.same (d : Done s B p) (d' : Done s B q) (k : Int) : mlook p.marks k = mlook q.marks k := by
  cases hp : mlook p.marks k with
  | none =>
    cases hq : mlook q.marks k with
    | none => rfl
    | some w =>
      obtain ⟨r', e, _⟩ := d.least (d'.sound.marks k w.1 w.2 hq).2
      rw [hp] at e; cases e
  | some w =>
    obtain ⟨r, g⟩ := w
    cases g
    · obtain ⟨r1, e1, l1⟩ := d'.least (d.sound.marks k r false hp).2
      obtain ⟨r2, e2, l2⟩ := d.least (d'.sound.marks k r1 false e1).2
      rw [hp] at e2
      cases e2
      rw [e1, show r1 = r by omega]
    · exact absurd hp (d.black k r)
end
/-! ## By going round -/
/-- The rank that is told of an object; less than 0: none. -/
def rk (l : List Int) (k : Int) : Int := l.getD k.toNat (-1)
theorem rk_set {l : List Int} {j k v : Int} (hj : 0 ≤ j) (hk : 0 ≤ k) (hl : j.toNat < l.length) : rk (l.set j.toNat v) k = if k = j then v else rk l k := by
  unfold rk
  rw [List.getD_eq_getElem?_getD, List.getD_eq_getElem?_getD, List.getElem?_set]
  by_cases e : k = j
  · subst e; simp [hl]
  · rw [if_neg (by omega), if_neg e]

/-- A reference that counts. -/
def Edge (s : Hs) (j k : Int) : Prop := ∃ o x, hGet s j = some o ∧ x ∈ o.refs ∧ isId x ∧ x.n = s.node ∧ hGet s x.s ≠ none ∧ x.s = k
structure RkOk (Q B : Int → Int → Prop) (n : Nat) (l : List Int) : Prop where
  len : l.length = n + 1
  range : ∀ k, -1 ≤ rk l k ∧ rk l k ≤ 40
  sound : ∀ k, 0 ≤ k → 0 ≤ rk l k → Q k (rk l k)
  base : ∀ k r, B k r → 0 ≤ rk l k ∧ rk l k ≤ r
def RkCl (E : Int → Int → Prop) (l : List Int) (v : Int) : Prop := ∀ j k, E j k → 0 ≤ rk l j → rk l j ≤ v → 0 ≤ rk l k ∧ rk l k ≤ v
def rkCnt (n : Nat) (l : List Int) (v : Int) : Nat := ((List.range (n + 1)).map fun (k : Nat) => if 0 ≤ rk l k ∧ rk l k ≤ v then 1 else 0).sum
/-- Within a round that began with l0; the references D are done. -/
structure RkIn (E Q B : Int → Int → Prop) (n : Nat) (l0 : List Int) (D : Int → Int → Prop) (l : List Int) : Prop where
  ok : RkOk Q B n l
  le : ∀ k, 0 ≤ rk l0 k → 0 ≤ rk l k ∧ rk l k ≤ rk l0 k
  ins : ∀ v, RkCl E l0 v → ∀ k, 0 ≤ k → 0 ≤ rk l k → rk l k ≤ v → 0 ≤ rk l0 k ∧ rk l0 k ≤ v
  prog : ∀ j k, E j k → D j k → 0 ≤ rk l0 j → 0 ≤ rk l k ∧ rk l k ≤ rk l0 j
structure RkRd (E Q B : Int → Int → Prop) (n t : Nat) (l : List Int) : Prop where
  ok : RkOk Q B n l
  cnt : ∀ v, 0 ≤ v → RkCl E l v ∨ t + 1 ≤ rkCnt n l v

section
variable {E Q B : Int → Int → Prop} {n t : Nat} {l l0 : List Int} {D D' : Int → Int → Prop} {i x : Int}
theorem RkIn.start (h : RkOk Q B n l) : RkIn E Q B n l (fun _ _ => False) l :=
  ⟨h, fun k hk => ⟨hk, Int.le_refl _⟩, fun v _ k _ h1 h2 => ⟨h1, h2⟩, fun _ _ _ h => h.elim⟩
theorem RkIn.mono (h : RkIn E Q B n l0 D l) (hD : ∀ j k, E j k → 0 ≤ rk l0 j → D' j k → D j k) : RkIn E Q B n l0 D' l :=
  ⟨h.ok, h.le, h.ins, fun j k e d hj => h.prog j k e (hD j k e hj d) hj⟩
/-- A round is at its end. -/
theorem RkRd.next (hE : ∀ j k, E j k → 1 ≤ k ∧ k ≤ n) (hE' : ∀ j k, E j k → 1 ≤ j ∧ j ≤ n) (h : RkRd E Q B n t l0) (hi : RkIn E Q B n l0 (fun _ _ => True) l) : RkRd E Q B n (t + 1) l := by
  refine ⟨hi.ok, fun v hv => ?_⟩
  by_cases hc : RkCl E l0 v
  · refine .inl fun j k e h1 h2 => ?_
    have hj := hE' j k e
    obtain ⟨a, b⟩ := hi.ins v hc j (by omega) h1 h2
    obtain ⟨a, b⟩ := hc j k e a b
    have := hi.le k a
    omega
  · refine .inr ?_
    have h1 := (h.cnt v hv).resolve_left hc
    have : rkCnt n l0 v + 1 ≤ rkCnt n l v := by
      unfold rkCnt
      refine sum_map_lt (fun k _ => ?_) ?_
      · by_cases hk : 0 ≤ rk l0 k ∧ rk l0 k ≤ v
        · have := hi.le k hk.1
          rw [if_pos hk, if_pos (by omega)]; exact Nat.le_refl _
        · rw [if_neg hk]; exact Nat.zero_le _
      · unfold RkCl at hc
        simp only [Classical.not_forall] at hc
        obtain ⟨j, k, e, h1, h2, h3⟩ := hc
        have hp := hi.prog j k e trivial h1
        have hy := hE j k e
        refine ⟨k.toNat, List.mem_range.2 (by omega), ?_⟩
        rw [show ((k.toNat : Nat) : Int) = k by omega, if_neg h3, if_pos (by omega)]
        exact Nat.le_refl _
    omega
theorem RkRd.start (h : RkOk Q B n l) (hE' : ∀ j k, E j k → 1 ≤ j ∧ j ≤ n) : RkRd E Q B n 0 l := by
  refine ⟨h, fun v hv => ?_⟩
  by_cases hc : RkCl E l v
  · exact .inl hc
  · refine .inr ?_
    unfold RkCl at hc
    simp only [Classical.not_forall] at hc
    obtain ⟨j, k, e, h1, h2, h3⟩ := hc
    have hj := hE' j k e
    have : ((List.range (n + 1)).map fun _ => (0 : Nat)).sum + 1 ≤ rkCnt n l v := by
      unfold rkCnt
      refine sum_map_lt (fun _ _ => Nat.zero_le _) ⟨j.toNat, List.mem_range.2 (by omega), ?_⟩
      rw [show ((j.toNat : Nat) : Int) = j by omega, if_pos ⟨h1, h2⟩]
      exact Nat.le_refl _
    omega
theorem rkCnt_le {v : Int} : rkCnt n l v ≤ n + 1 := by
  have h := sum_map_le (l := List.range (n + 1)) (f := fun (k : Nat) => if 0 ≤ rk l (k : Int) ∧ rk l (k : Int) ≤ v then 1 else 0) (g := fun (_ : Nat) => (1 : Nat)) fun x _ => by split <;> omega
  have e : ((List.range (n + 1)).map fun (_ : Nat) => (1 : Nat)).sum = n + 1 := by
    rw [show ((List.range (n + 1)).map fun (_ : Nat) => (1 : Nat)) = List.replicate (n + 1) 1 by rw [List.eq_replicate_iff]; exact ⟨by simp, fun x hx => by obtain ⟨_, _, rfl⟩ := List.mem_map.1 hx; rfl⟩, List.sum_replicate_nat]
    omega
  rw [e] at h
  exact h
/-- At 0 there is nothing. -/
theorem rkCnt_le' {v : Int} (h0 : rk l 0 < 0) : rkCnt n l v ≤ n := by
  have h := sum_map_lt (l := List.range (n + 1)) (f := fun (k : Nat) => if 0 ≤ rk l (k : Int) ∧ rk l (k : Int) ≤ v then 1 else 0) (g := fun (_ : Nat) => (1 : Nat)) (fun x _ => by split <;> omega) ⟨0, List.mem_range.2 (by omega), by
    rw [if_neg (by rintro ⟨h1, _⟩; exact absurd h1 (by simpa using h0))]; exact Nat.le_refl _⟩
  have e : ((List.range (n + 1)).map fun (_ : Nat) => (1 : Nat)).sum = n + 1 := by
    rw [show ((List.range (n + 1)).map fun (_ : Nat) => (1 : Nat)) = List.replicate (n + 1) 1 by rw [List.eq_replicate_iff]; exact ⟨by simp, fun x hx => by obtain ⟨_, _, rfl⟩ := List.mem_map.1 hx; rfl⟩, List.sum_replicate_nat]
    omega
  rw [e] at h
  unfold rkCnt
  omega
theorem RkRd.closed (h : RkRd E Q B n t l) (ht : n + 1 ≤ t ∨ (n ≤ t ∧ rk l 0 < 0)) {v : Int} (hv : 0 ≤ v) : RkCl E l v := (h.cnt v hv).resolve_right fun h1 => by
  rcases ht with ht | ⟨ht, h0⟩
  · have := rkCnt_le (n := n) (l := l) (v := v)
    omega
  · have := rkCnt_le' (n := n) (l := l) (v := v) h0
    omega
end
section
variable {s : Hs} {B : Int → Int → Prop} {n : Nat} {l : List Int}
theorem RkRd.least (h : RkRd (Edge s) (Rch s B) B n (n + 1) l) {k r : Int} (hr : Rch s B k r) : 0 ≤ rk l k ∧ rk l k ≤ r := by
  induction hr with
  | base hb => exact h.ok.base _ _ hb
  | step _ hg hx hid hn hy ih =>
    have := h.closed (.inl (Nat.le_refl _)) ih.1 _ _ ⟨_, _, hg, hx, hid, hn, hy, rfl⟩ ih.1 (Int.le_refl _)
    omega
/-- What is marked in the end, and what going round tells, is the same. -/
theorem RkRd.marks {p : Ps} (h : RkRd (Edge s) (Rch s B) B n (n + 1) l) (d : Done s B p) {k : Int} (hk : 0 ≤ k) : (mlook p.marks k = none ∧ rk l k < 0) ∨ (mlook p.marks k = some (rk l k, false) ∧ 0 ≤ rk l k) := by
  rcases Int.lt_or_le (rk l k) 0 with hn | hp
  · refine .inl ⟨?_, hn⟩
    cases hq : mlook p.marks k with
    | none => rfl
    | some w =>
      have := h.least (d.sound.marks k w.1 w.2 hq).2
      omega
  · refine .inr ⟨?_, hp⟩
    obtain ⟨r1, e1, l1⟩ := d.least (h.ok.sound k hk hp)
    have := h.least (d.sound.marks k r1 false e1).2
    rw [e1, show r1 = rk l k by omega]
end
end Go.Proofs.YtojcacejgbnfkaaGreat

namespace Go.Proofs.YtojcacejgbnfkaaGreat
set_option linter.unusedSimpArgs false
set_option linter.unusedVariables false
open Go
/-- From which objects, with what rank: what is held, and the roots. -/
def grBase (s : Hs) (roots : List Int) (k r : Int) : Prop := (∃ o, hGet s k = some o ∧ 0 < o.din ∧ r = o.din) ∨ (k ∈ roots ∧ r = 0)

section
variable {H0 H : Hp} {L : List Prt} {i : Nat} {K : Value → Hp → Prop} {rp op ip : Option Addr} {rl rc ol oc il ic : Nat} {g : Gr}
def grInit (g : Gr) (j : Nat) : Int := if 0 < j ∧ 0 < grDist g (j - 1) then grDist g (j - 1) else -1
def grInits (g : Gr) (n i : Nat) : List Int := (List.range (n + 1)).map fun j => if j < i then grInit g j else 0
theorem grInits_get {n i j : Nat} (hj : j ≤ n) : (grInits g n i).getD j 0 = if j < i then grInit g j else 0 := by
  unfold grInits
  rw [List.getD_eq_getElem?_getD, List.getElem?_map, List.getElem?_range (by omega)]
  rfl
theorem grInits_len {n i : Nat} : (grInits g n i).length = n + 1 := by simp [grInits]
/-- What stands there when the roots up to the m-th are marked. -/
structure RkRoot (s : Hs) (n : Nat) (roots : List Int) (m : Nat) (l : List Int) : Prop where
  len : l.length = n + 1
  range : ∀ k, -1 ≤ rk l k ∧ rk l k ≤ 40
  sound : ∀ k, 0 ≤ k → 0 ≤ rk l k → grBase s roots k (rk l k)
  din : ∀ k o, hGet s k = some o → 0 < o.din → 0 ≤ rk l k ∧ rk l k ≤ o.din
  roots : ∀ k ∈ roots.take m, rk l k = 0
theorem RkRoot.start {n : Nat} {s : Hs} {roots : List Int} (hs : GrHs g n s) : RkRoot s n roots 0 (grInits g n (n + 1)) := by
  have hg : ∀ k : Int, 0 ≤ k → k ≤ n → rk (grInits g n (n + 1)) k = grInit g k.toNat := fun k h0 h1 => by
    have := grInits_get (g := g) (n := n) (i := n + 1) (j := k.toNat) (by omega)
    rw [if_pos (by omega)] at this
    rw [← this]
    unfold rk
    rw [List.getD_eq_getElem?_getD, List.getD_eq_getElem?_getD, List.getElem?_eq_getElem (by rw [grInits_len]; omega)]
    rfl
  have hbig : ∀ k : Int, n < k → rk (grInits g n (n + 1)) k = -1 := fun k hk => by
    unfold rk
    rw [List.getD_eq_getElem?_getD, List.getElem?_eq_none (by rw [grInits_len]; omega)]
    rfl
  have hneg : ∀ k : Int, k < 0 → rk (grInits g n (n + 1)) k = -1 := fun k hk => by
    have := hg 0 (by omega) (by omega)
    unfold rk at this ⊢
    rw [show k.toNat = (0 : Int).toNat by omega, this]
    unfold grInit
    rw [if_neg (by simp)]
  have hini : ∀ j : Nat, -1 ≤ grInit g j ∧ grInit g j ≤ 40 := fun j => by
    have := grDist_ok (g := g) (i := j - 1)
    unfold grInit
    split <;> omega
  refine ⟨grInits_len, fun k => ?_, fun k h0 hk => ?_, fun k o hgk hd => ?_, fun k hk => by simp at hk⟩
  · rcases Int.lt_or_le k 0 with h | h
    · rw [hneg k h]; omega
    · rcases Int.lt_or_le (n : Int) k with h' | h'
      · rw [hbig k h']; omega
      · rw [hg k h h']; exact hini _
  · rcases Int.lt_or_le (n : Int) k with h' | h'
    · rw [hbig k h'] at hk; omega
    · rw [hg k h0 h'] at hk ⊢
      unfold grInit at hk ⊢
      split at hk
      · rename_i hc
        obtain ⟨c, hgk⟩ := hs.get (m := k) (by omega)
        rw [if_pos hc]
        exact .inl ⟨_, hgk, hc.2, rfl⟩
      · omega
  · have hr := hs.has.1 (show hGet s k ≠ none by rw [hgk]; simp)
    obtain ⟨c, hgk'⟩ := hs.get hr
    rw [hgk] at hgk'
    cases hgk'
    simp only at hd
    rw [hg k (by omega) (by omega)]
    unfold grInit
    rw [if_pos ⟨by omega, hd⟩]
    simp only
    omega
theorem RkRoot.next {n m : Nat} {s : Hs} {roots l : List Int} (h : RkRoot s n roots m l) (hm : m < roots.length) (hr : ∀ k ∈ roots, 1 ≤ k ∧ k ≤ (n : Int)) : RkRoot s n roots (m + 1) (l.set (roots[m]'hm).toNat 0) := by
  have hmem := hr _ (List.getElem_mem hm)
  have hlt : (roots[m]'hm).toNat < l.length := by rw [h.len]; omega
  have rs : ∀ k, 0 ≤ k → rk (l.set (roots[m]'hm).toNat 0) k = if k = roots[m]'hm then 0 else rk l k := fun k hk => rk_set (by omega) hk hlt
  have rn : ∀ k, k < 0 → rk (l.set (roots[m]'hm).toNat 0) k = rk l 0 := fun k hk => by
    have := rs 0 (by omega)
    rw [if_neg (by omega)] at this
    rw [← this]
    unfold rk
    rw [show k.toNat = (0 : Int).toNat by omega]
  refine ⟨by rw [List.length_set]; exact h.len, fun k => ?_, fun k h0 hk => ?_, fun k o hg hd => ?_, fun k hk => ?_⟩
  · rcases Int.lt_or_le k 0 with hn | hp
    · rw [rn k hn]; exact h.range 0
    · rw [rs k hp]
      split
      · omega
      · exact h.range k
  · rw [rs k h0] at hk ⊢
    split at hk
    · rename_i e
      rw [if_pos e]
      exact .inr ⟨by rw [e]; exact List.getElem_mem hm, rfl⟩
    · rename_i e
      rw [if_neg e]
      exact h.sound k h0 hk
  · have h1 := h.din k o hg hd
    rcases Int.lt_or_le k 0 with hn | hp
    · rw [rn k hn]
      have : rk l k = rk l 0 := by unfold rk; rw [show k.toNat = (0 : Int).toNat by omega]
      omega
    · rw [rs k hp]
      split <;> omega
  · rw [List.take_add_one, List.getElem?_eq_getElem hm] at hk
    rcases List.mem_append.1 hk with hk | hk
    · have := h.roots k hk
      have hk' := hr k (List.mem_of_mem_take hk)
      rw [rs k (by omega)]
      split
      · rfl
      · exact this
    · simp at hk
      subst hk
      rw [rs _ (by omega), if_pos rfl]
theorem RkRoot.done {n : Nat} {s : Hs} {roots l : List Int} (h : RkRoot s n roots roots.length l) : RkOk (Rch s (grBase s roots)) (grBase s roots) n l :=
  ⟨h.len, h.range, fun k h0 hk => .base (h.sound k h0 hk), fun k r hb => by
    rcases hb with ⟨o, hg, hd, rfl⟩ | ⟨hm, rfl⟩
    · exact h.din k o hg hd
    · have := h.roots k (by rw [List.take_length]; exact hm)
      omega⟩

end
end Go.Proofs.YtojcacejgbnfkaaGreat
