/- Merged by merge.py: DenMark, MkS, MkT, MkL, MkR, GphR. No condition. -/
import Derived.Test.YtflfodcemnapeaaGreatZNum
import Derived.Test.YtflfodcemnapeaaGreatZPaint
import Derived.Test.YtflfodcemnapeaaGreatZSweep

namespace Go.Proofs.YtflfodcemnapeaaGreat
open Go
set_option linter.unusedVariables false
set_option maxRecDepth 100000
def B_mark_New (h1 : Option Addr) (p2 : Option Addr) (H : Hp) (K : Value → Hp → Prop) : Prop :=
 (bif (Option.isNone (α := Addr) h1) then
 K (.tuple #[(.pointer none), (.int .i64 1)]) H
else
 (bif (Option.isNone (α := Addr) p2) then
 K (.tuple #[(.pointer none), (.int .i64 1)]) H
else
 newB (.cells #[(.pointer h1), (.pointer p2), (.int .u64 0), (.bool false), (.int .u64 0)] ty_mark_Marker) H fun b3 Hx4 =>
 K (.tuple #[(.pointer (some ⟨b3, 0, none⟩)), (.int .i64 0)]) Hx4))
theorem E_mark_New (h1 : Option Addr) (p2 : Option Addr) (H : Hp) (K : Value → Hp → Prop) : B_mark_New h1 p2 H K = denF Tryz.prog Tryz.f38 .n [(.pointer h1), (.pointer p2)] H K := by kernel_rfl
theorem den_mark_New {h1 : Option Addr} {p2 : Option Addr} {H : Hp} {K : Value → Hp → Prop} (h : B_mark_New h1 p2 H K) : hcall PR f_mark_New ⟨[(.pointer h1), (.pointer p2)]⟩ H K := denF_call Tryz.func38 PR_mixed (Eq.mp (E_mark_New h1 p2 H K) h)

def B_mark_Marker_Begin (m1 : Option Addr) (H : Hp) (K : Value → Hp → Prop) : Prop :=
 nilP m1 fun ma2 =>
 st (ma2.add 2) (.int .u64 0) H fun Hx3 =>
 nilP m1 fun ma4 =>
 st (ma4.add 3) (.bool false) Hx3 fun Hx5 =>
 nilP m1 fun ma6 =>
 st (ma6.add 4) (.int .u64 0) Hx5 fun Hx7 =>
 K (.tuple #[]) Hx7
theorem E_mark_Marker_Begin (m1 : Option Addr) (H : Hp) (K : Value → Hp → Prop) : B_mark_Marker_Begin m1 H K = denF Tryz.prog Tryz.f66 .n [(.pointer m1)] H K := by kernel_rfl
theorem den_mark_Marker_Begin {m1 : Option Addr} {H : Hp} {K : Value → Hp → Prop} (h : B_mark_Marker_Begin m1 H K) : hcall PR f_mark_Marker_Begin ⟨[(.pointer m1)]⟩ H K := denF_call Tryz.func66 PR_mixed (Eq.mp (E_mark_Marker_Begin m1 H K) h)

def B_mark_Marker_Step (m1 : Option Addr) (H : Hp) (K : Value → Hp → Prop) : Prop :=
 ∃ (I2 : Hp → Prop) (m3 : Hp → Nat), I2 H ∧ ∀ Hx4 : Hp, I2 Hx4 →
 nilP m1 fun ma5 =>
 ldP (ma5.add 1) Hx4 fun p6 =>
 hcall PR f_paint_Paint_Pop ⟨[(.pointer p6)]⟩ Hx4 fun v7 Hx8 =>
 tup2 v7 fun v9 v10 =>
 asI .u64 v9 fun t11 =>
 asB v10 fun t12 =>
 (bif t12 then
 nilP m1 fun ma13 =>
 ldP (ma13.add 1) Hx8 fun p14 =>
 hcall PR f_paint_Paint_Scan ⟨[(.pointer p14), (.int .u64 t11)]⟩ Hx8 fun v15 Hx16 =>
 asB v15 fun t17 =>
 K (.bool true) Hx16
else
 nilP m1 fun ma18 =>
 ldB (ma18.add 3) Hx8 fun pass19 =>
 (bif pass19 then
 nilP m1 fun ma20 =>
 ldP ma20 Hx8 fun h21 =>
 nilP m1 fun ma22 =>
 ldI .u64 (ma22.add 4) Hx8 fun atx23 =>
 hcall PR f_heap_Heap_Next ⟨[(.pointer h21), (.int .u64 atx23)]⟩ Hx8 fun v24 Hx25 =>
 tup2 v24 fun v26 v27 =>
 asI .u64 v26 fun t28 =>
 asB v27 fun t29 =>
 (bif (!t29) then
 nilP m1 fun ma30 =>
 st (ma30.add 3) (.bool false) Hx25 fun Hx31 =>
 I2 Hx31 ∧ m3 Hx31 < m3 Hx4
else
 nilP m1 fun ma32 =>
 st (ma32.add 4) (.int .u64 t28) Hx25 fun Hx33 =>
 nilP m1 fun ma34 =>
 ldP (ma34.add 1) Hx33 fun p35 =>
 hcall PR f_paint_Paint_Scan ⟨[(.pointer p35), (.int .u64 t28)]⟩ Hx33 fun v36 Hx37 =>
 asB v36 fun t38 =>
 K (.bool true) Hx37)
else
 nilP m1 fun ma39 =>
 ldP (ma39.add 1) Hx8 fun p40 =>
 hcall PR f_paint_Paint_Over ⟨[(.pointer p40)]⟩ Hx8 fun v41 Hx42 =>
 asB v41 fun t43 =>
 (bif t43 then
 nilP m1 fun ma44 =>
 ldP (ma44.add 1) Hx42 fun p45 =>
 hcall PR f_paint_Paint_Rest ⟨[(.pointer p45)]⟩ Hx42 fun v46 Hx47 =>
 nilP m1 fun ma48 =>
 st (ma48.add 3) (.bool true) Hx47 fun Hx49 =>
 nilP m1 fun ma50 =>
 st (ma50.add 4) (.int .u64 0) Hx49 fun Hx51 =>
 K (.bool true) Hx51
else
 nilP m1 fun ma52 =>
 ldP ma52 Hx42 fun h53 =>
 nilP m1 fun ma54 =>
 ldI .u64 (ma54.add 2) Hx42 fun place55 =>
 hcall PR f_heap_Heap_Next ⟨[(.pointer h53), (.int .u64 place55)]⟩ Hx42 fun v56 Hx57 =>
 tup2 v56 fun v58 v59 =>
 asI .u64 v58 fun t60 =>
 asB v59 fun t61 =>
 (bif (!t61) then
 K (.bool false) Hx57
else
 nilP m1 fun ma62 =>
 st (ma62.add 2) (.int .u64 t60) Hx57 fun Hx63 =>
 nilP m1 fun ma64 =>
 ldP ma64 Hx63 fun h65 =>
 hcall PR f_heap_Heap_Object ⟨[(.pointer h65), (.int .u64 t60)]⟩ Hx63 fun v66 Hx67 =>
 tup2 v66 fun v68 v69 =>
 asAgg' v68 fun cs70 =>
 unCons cs70.toList fun v71 r72 =>
 unCons r72 fun v73 r74 =>
 unCons r74 fun v75 r76 =>
 unCons r76 fun v77 r78 =>
 unCons r78 fun v79 r80 =>
 unNil r80 <|
 asI .u64 v71 fun Serial81 =>
 asI .i64 v73 fun Cell82 =>
 asSl v75 fun RefsP83 RefsL84 RefsC85 =>
 asSl v77 fun ValsP86 ValsL87 ValsC88 =>
 asI .i64 v79 fun In89 =>
 asB v69 fun t90 =>
 newB (.cells #[(.int .u64 0), (.int .i64 0), (.slice none 0 0), (.slice none 0 0), (.int .i64 0)] ty_api_Object) Hx67 fun b91 Hx92 =>
 st ⟨b91, 0, none⟩ (.int .u64 Serial81) Hx92 fun Hx93 =>
 st ⟨b91, 1, none⟩ (.int .i64 Cell82) Hx93 fun Hx94 =>
 st ⟨b91, 2, none⟩ (.slice RefsP83 RefsL84 RefsC85) Hx94 fun Hx95 =>
 st ⟨b91, 3, none⟩ (.slice ValsP86 ValsL87 ValsC88) Hx95 fun Hx96 =>
 st ⟨b91, 4, none⟩ (.int .i64 In89) Hx96 fun Hx97 =>
 ldI .i64 ⟨b91, 4, none⟩ Hx97 fun In98 =>
 (bif (decide ((In98 : Int) > 0)) then
 nilP m1 fun ma99 =>
 ldP (ma99.add 1) Hx97 fun p100 =>
 nilP m1 fun ma101 =>
 ldP ma101 Hx97 fun h102 =>
 ldI .i64 ⟨b91, 4, none⟩ Hx97 fun In103 =>
 hcall PR f_heap_Heap_Node ⟨[(.pointer h102)]⟩ Hx97 fun v104 Hx105 =>
 asI .i64 v104 fun t106 =>
 (ldI .i64 ⟨b91, 4, none⟩ Hx105 fun In107 =>
 ((.int .i64 In107) : Value) = (.int .i64 In103)) ∧
 (ldP (ma99.add 1) Hx105 fun p108 =>
 ((.pointer p108) : Value) = (.pointer p100)) ∧
 hcall PR f_paint_Paint_Shade ⟨[(.pointer p100), (.agg #[(.int .i64 t106), (.int .u64 t60)]), (.int .i64 In103)]⟩ Hx105 fun v109 Hx110 =>
 K (.bool true) Hx110
else
 K (.bool true) Hx97)))))
theorem E_mark_Marker_Step (m1 : Option Addr) (H : Hp) (K : Value → Hp → Prop) : B_mark_Marker_Step m1 H K = denF Tryz.prog Tryz.f103 (.seq none .n (.sub (.seq none .n (.seq none (.sub (.loop ⟨[], [0]⟩ .n)) .n)))) [(.pointer m1)] H K := by kernel_rfl
theorem den_mark_Marker_Step {m1 : Option Addr} {H : Hp} {K : Value → Hp → Prop} (h : B_mark_Marker_Step m1 H K) : hcall PR f_mark_Marker_Step ⟨[(.pointer m1)]⟩ H K := denF_call Tryz.func103 PR_mixed (Eq.mp (E_mark_Marker_Step m1 H K) h)

end Go.Proofs.YtflfodcemnapeaaGreat

namespace Go.Proofs.YtflfodcemnapeaaGreat
set_option linter.unusedSimpArgs false
set_option linter.unusedVariables false
open Go
/-- A marker's places. -/
structure Mk where
 place : Int
 pass : Bool
 at_ : Int
def mkSee (s : Hs) (p : Ps) (n : Int) : Ps := match hGet s n with
 | some o => if 0 < o.din then pShade s p ⟨s.node, n⟩ o.din else p
 | none => p
def mkStep (s : Hs) (p : Ps) (m : Mk) : Bool × Ps × Mk :=
 match p.stack.getLast? with
 | some k => (true, (pScan s (pPop p).2 k).2, m)
 | none =>
  if m.pass = true ∧ (hNext s m.at_).2 = true then (true, (pScan s p (hNext s m.at_).1).2, { m with at_ := (hNext s m.at_).1 })
  else if p.over then (true, pRest p, ⟨m.place, true, 0⟩)
  else if (hNext s m.place).2 = false then (false, p, { m with pass := false })
  else (true, mkSee s p (hNext s m.place).1, { m with pass := false, place := (hNext s m.place).1 })
def MkP (b hb pb : Nat) (m : Mk) : Prt := Prt.one b (.cells #[ptrV hb, ptrV pb, .int .u64 m.place, .bool m.pass, .int .u64 m.at_] ty_mark_Marker (0, 0))

section
variable {H0 H : Hp} {L M : List Prt} {i j k hb pb mb rb qb : Nat} {s : Hs} {p : Ps} {m : Mk} {K : Value → Hp → Prop}
theorem mkNewC (h : St H0 L H) (hK : ∀ b H', St H0 (MkP b hb pb ⟨0, false, 0⟩ :: L) H' → K (.tuple #[.pointer (some ⟨b, 0, none⟩), .int .i64 0]) H') :
  hcall PR f_mark_New ⟨[.pointer (some ⟨hb, 0, none⟩), .pointer (some ⟨pb, 0, none⟩)]⟩ H K := by
 apply den_mark_New
 unfold B_mark_New
 simp only [Option.isNone_some, Zw]
 intro b3 hb3
 exact hK b3 _ (h.alloc (o := .cells #[ptrV hb, ptrV pb, .int .u64 0, .bool false, .int .u64 0] ty_mark_Marker) hb3)
theorem mkBeginC (h : St H0 L H) (hk : L[k]? = some (MkP mb hb pb m)) (hK : ∀ H', St H0 (L.set k (MkP mb hb pb ⟨0, false, 0⟩)) H' → K (.tuple #[]) H') : hcall PR f_mark_Marker_Begin ⟨[.pointer (some ⟨mb, 0, none⟩)]⟩ H K := by
 apply den_mark_Marker_Begin
 unfold B_mark_Marker_Begin
 have hkl := ltOfGet hk
 simp only [Za,Zb,Zc,Zd,Zf,Zh,Zi,Zk,Zl,Zm,Zn,Zo,Zp,Zr,Zs,Zx,Zt,Zu,Zy,Zz,Zv,Zw,ZA,ZB,ZC,ZD]
 refine h.put hk (by simp) fun H1 h1 => h1.put (i := k) (by simp [hkl]; rfl) (by simp) fun H2 h2 => ?_
 rw [List.set_set] at h2
 refine h2.put (i := k) (by simp [hkl]; rfl) (by simp) fun H3 h3 => hK H3 ?_
 rw [List.set_set] at h3
 exact h3

theorem mkStepC (h : St H0 L H) (hi : L[i]? = some (HeapP hb s)) (hj : L[j]? = some (PaintP pb hb p)) (hk : L[k]? = some (MkP mb hb pb m)) (hij : i ≠ j) (hik : i ≠ k) (hjk : j ≠ k)
  (hK : ∀ H', St H0 ((L.set k (MkP mb hb pb (mkStep s p m).2.2)).set j (PaintP pb hb (mkStep s p m).2.1)) H' → K (.bool (mkStep s p m).1) H') :
  hcall PR f_mark_Marker_Step ⟨[.pointer (some ⟨mb, 0, none⟩)]⟩ H K := by
 apply den_mark_Marker_Step
 unfold B_mark_Marker_Step
 have hkl := ltOfGet hk
 have hjl := ltOfGet hj
 have hset : ∀ p' : Ps, ∀ m' : Mk, ((L.set k (MkP mb hb pb m')).set j (PaintP pb hb p'))[i]? = some (HeapP hb s) ∧ ((L.set k (MkP mb hb pb m')).set j (PaintP pb hb p'))[j]? = some (PaintP pb hb p') ∧ ((L.set k (MkP mb hb pb m')).set j (PaintP pb hb p'))[k]? = some (MkP mb hb pb m') := fun p' m' => by
  refine ⟨?_, ?_, ?_⟩
  ·rw [List.getElem?_set_ne (Ne.symm hij), List.getElem?_set_ne (Ne.symm hik)]; exact hi
  ·simp [hjl]
  ·rw [List.getElem?_set_ne hjk]; simp [hkl]
 have hL : L = (L.set k (MkP mb hb pb m)).set j (PaintP pb hb p) := by rw [List.set_self hk, List.set_self hj]
 -- the state, with a paint and a marker of whatever they are
 obtain ⟨LL, hLL⟩ : ∃ LL : Ps → Mk → List Prt, ∀ p' m', LL p' m' = (L.set k (MkP mb hb pb m')).set j (PaintP pb hb p') := ⟨_, fun _ _ => rfl⟩
 have set_j : ∀ p' p'' m', (LL p' m').set j (PaintP pb hb p'') = LL p'' m' := fun p' p'' m' => by rw [hLL, hLL, List.set_set]
 have set_k : ∀ p' m' m'', (LL p' m').set k (MkP mb hb pb m'') = LL p' m'' := fun p' m' m'' => by rw [hLL, hLL, List.set_comm _ _ hjk, List.set_set]
 have gi : ∀ p' m', (LL p' m')[i]? = some (HeapP hb s) := fun p' m' => by rw [hLL]; exact (hset p' m').1
 have gj : ∀ p' m', (LL p' m')[j]? = some (PaintP pb hb p') := fun p' m' => by rw [hLL]; exact (hset p' m').2.1
 have gk : ∀ p' m', (LL p' m')[k]? = some (MkP mb hb pb m') := fun p' m' => by rw [hLL]; exact (hset p' m').2.2
 have hK : ∀ r p' m' H', mkStep s p m = (r, p', m') → St H0 (LL p' m') H' → K (.bool r) H' := fun r p' m' H' e h' => by
  have hK := hK H'
  rw [e] at hK
  exact hK (by rw [← hLL]; exact h')
 rw [hL, ← hLL] at h
 clear hset hL
 refine ⟨fun H' => (St H0 (LL p m) H' ∨ (p.stack.getLast? = none ∧ m.pass = true ∧ (hNext s m.at_).2 = false ∧ St H0 (LL p { m with pass := false }) H')), fun H' => Classical.epsilon fun n : Nat => (n = 1 ∧ hcell H' ⟨mb, 3, none⟩ = some (.bool true)) ∨ (n = 0 ∧ hcell H' ⟨mb, 3, none⟩ ≠ some (.bool true)), .inl h, ?_⟩
 have heps : ∀ H' (b : Bool), hcell H' ⟨mb, 3, none⟩ = some (.bool b) → (Classical.epsilon fun n : Nat => (n = 1 ∧ hcell H' ⟨mb, 3, none⟩ = some (.bool true)) ∨ (n = 0 ∧ hcell H' ⟨mb, 3, none⟩ ≠ some (.bool true))) = if b then 1 else 0 := fun H' b hb => by
  have := Classical.epsilon_spec (p := fun n : Nat => (n = 1 ∧ hcell H' ⟨mb, 3, none⟩ = some (.bool true)) ∨ (n = 0 ∧ hcell H' ⟨mb, 3, none⟩ ≠ some (.bool true))) (by
   cases b
   ·exact ⟨0, .inr ⟨rfl, by rw [hb]; simp⟩⟩
   ·exact ⟨1, .inl ⟨rfl, hb⟩⟩)
  rcases this with ⟨h1, h2⟩ | ⟨h1, h2⟩
  ·rw [h1]
   rw [hb] at h2
   cases b
   ·simp at h2
   ·rfl
  ·rw [h1]
   rw [hb] at h2
   cases b
   ·rfl
   ·simp at h2
 rintro H1 hor
 -- what is looked at behind the pass
 have over : ∀ m0 : Mk, m0.pass = false → m0.place = m.place → (∀ r p' m', (if p.over then (true, pRest p, (⟨m.place, true, 0⟩ : Mk)) else if (hNext s m.place).2 = false then (false, p, m0)
    else (true, mkSee s p (hNext s m.place).1, { m0 with place := (hNext s m.place).1 })) = (r, p', m') → mkStep s p m = (r, p', m')) →
   ∀ H2, St H0 (LL p m0) H2 → ldP ⟨mb, 1, none⟩ H2 fun p40 => hcall PR f_paint_Paint_Over ⟨[(.pointer p40)]⟩ H2 fun v41 Hx42 => asB v41 fun t43 => (bif t43 then nilP (some ⟨mb, 0, none⟩) fun ma44 => ldP (ma44.add 1) Hx42 fun p45 => hcall PR f_paint_Paint_Rest ⟨[(.pointer p45)]⟩ Hx42 fun v46 Hx47 => nilP (some ⟨mb, 0, none⟩) fun ma48 => st (ma48.add 3) (.bool true) Hx47 fun Hx49 => nilP (some ⟨mb, 0, none⟩) fun ma50 => st (ma50.add 4) (.int .u64 0) Hx49 fun Hx51 => K (.bool true) Hx51 else
    nilP (some ⟨mb, 0, none⟩) fun ma52 => ldP ma52 Hx42 fun h53 => nilP (some ⟨mb, 0, none⟩) fun ma54 => ldI .u64 (ma54.add 2) Hx42 fun place55 => hcall PR f_heap_Heap_Next ⟨[(.pointer h53), (.int .u64 place55)]⟩ Hx42 fun v56 Hx57 => tup2 v56 fun v58 v59 => asI .u64 v58 fun t60 => asB v59 fun t61 => (bif (!t61) then K (.bool false) Hx57 else
     nilP (some ⟨mb, 0, none⟩) fun ma62 => st (ma62.add 2) (.int .u64 t60) Hx57 fun Hx63 => nilP (some ⟨mb, 0, none⟩) fun ma64 => ldP ma64 Hx63 fun h65 => hcall PR f_heap_Heap_Object ⟨[(.pointer h65), (.int .u64 t60)]⟩ Hx63 fun v66 Hx67 => tup2 v66 fun v68 v69 => asAgg' v68 fun cs70 => unCons cs70.toList fun v71 r72 => unCons r72 fun v73 r74 => unCons r74 fun v75 r76 => unCons r76 fun v77 r78 => unCons r78 fun v79 r80 => unNil r80 <|
     asI .u64 v71 fun Serial81 => asI .i64 v73 fun Cell82 => asSl v75 fun RefsP83 RefsL84 RefsC85 => asSl v77 fun ValsP86 ValsL87 ValsC88 => asI .i64 v79 fun In89 => asB v69 fun t90 =>
     newB (.cells #[(.int .u64 0), (.int .i64 0), (.slice none 0 0), (.slice none 0 0), (.int .i64 0)] ty_api_Object) Hx67 fun b91 Hx92 => st ⟨b91, 0, none⟩ (.int .u64 Serial81) Hx92 fun Hx93 => st ⟨b91, 1, none⟩ (.int .i64 Cell82) Hx93 fun Hx94 => st ⟨b91, 2, none⟩ (.slice RefsP83 RefsL84 RefsC85) Hx94 fun Hx95 => st ⟨b91, 3, none⟩ (.slice ValsP86 ValsL87 ValsC88) Hx95 fun Hx96 => st ⟨b91, 4, none⟩ (.int .i64 In89) Hx96 fun Hx97 =>
     ldI .i64 ⟨b91, 4, none⟩ Hx97 fun In98 => (bif (decide ((In98 : Int) > 0)) then nilP (some ⟨mb, 0, none⟩) fun ma99 => ldP (ma99.add 1) Hx97 fun p100 => nilP (some ⟨mb, 0, none⟩) fun ma101 => ldP ma101 Hx97 fun h102 => ldI .i64 ⟨b91, 4, none⟩ Hx97 fun In103 => hcall PR f_heap_Heap_Node ⟨[(.pointer h102)]⟩ Hx97 fun v104 Hx105 => asI .i64 v104 fun t106 =>
      (ldI .i64 ⟨b91, 4, none⟩ Hx105 fun In107 => ((.int .i64 In107) : Value) = (.int .i64 In103)) ∧ (ldP (ma99.add 1) Hx105 fun p108 => ((.pointer p108) : Value) = (.pointer p100)) ∧ hcall PR f_paint_Paint_Shade ⟨[(.pointer p100), (.agg #[(.int .i64 t106), (.int .u64 t60)]), (.int .i64 In103)]⟩ Hx105 fun v109 Hx110 => K (.bool true) Hx110
     else K (.bool true) Hx97))) := fun m0 hm0 hm0p hst H2 h2 => by
  refine ldP_of (h2.cell (gk _ _) rfl) (pOverC h2 (gj _ _) ?_)
  simp only [Za,Zb,Zc,Zd,Zf,Zh,Zi,Zk,Zl,Zm,Zn,Zo,Zp,Zr,Zs,Zx,Zt,Zu,Zy,Zz,Zv,Zw,ZA,ZB,ZC,ZD]
  cases ho : p.over
  ·rw [ho, if_neg (by decide)] at hst
   simp only [Zw]
   refine ldP_of (h2.cell (gk _ _) rfl) (ldI_of (h2.cell (gk _ _) rfl) (hNextC h2 (gi _ _) fun H3 h3 => ?_))
   simp only [Za,Zb,Zc,Zd,Zf,Zh,Zi,Zk,Zl,Zm,Zn,Zo,Zp,Zr,Zs,Zx,Zt,Zu,Zy,Zz,Zv,Zw,ZA,ZB,ZC,ZD]
   rw [hm0p]
   cases hn : (hNext s m.place).2
   ·rw [hn, if_pos rfl] at hst
    exact hK false p m0 H3 (hst _ _ _ rfl) h3
   ·rw [hn, if_neg (by decide)] at hst
    simp only [Bool.not_true, Zw]
    refine h3.put (gk _ _) (by simp) fun H4 h4 => ?_
    have h4 : St H0 (LL p { m0 with place := (hNext s m.place).1 }) H4 := by rw [← set_k p m0]; exact h4
    refine ldP_of (h4.cell (gk _ _) rfl) (hObjC h4 (gi _ _) (fun hg H5 h5 => ?_) fun o hg rp rc vp vc H5 h5 => ?_)
    ·simp only [Za,Zb,Zc,Zd,Zf,Zh,Zi,Zk,Zl,Zm,Zn,Zo,Zp,Zr,Zs,Zx,Zt,Zu,Zy,Zz,Zv,Zw,ZA,ZB,ZC,ZD]
     refine box5 h5 fun b91 H6 h6 => ldI_of (h6.cell (i := 0) rfl rfl) (bif_neg (by omega) ?_)
     unfold mkSee at hst
     rw [hg] at hst
     exact hK true p _ H6 (hst _ _ _ rfl) h6.less
    ·simp only [Za,Zb,Zc,Zd,Zf,Zh,Zi,Zk,Zl,Zm,Zn,Zo,Zp,Zr,Zs,Zx,Zt,Zu,Zy,Zz,Zv,Zw,ZA,ZB,ZC,ZD]
     refine box5 h5 fun b91 H6 h6 => ldI_of (h6.cell (i := 0) rfl rfl) ?_
     unfold mkSee at hst
     rw [hg] at hst
     simp only at hst
     by_cases hd : o.din > 0
     ·rw [if_pos (show 0 < o.din from hd)] at hst
      refine bif_pos hd (ldP_of (h6.cell (i := k + 3) (gk _ _) rfl) (ldP_of (h6.cell (i := k + 3) (gk _ _) rfl) (ldI_of (h6.cell (i := 0) rfl rfl) (hNode h6 (i := i + 3) (gi _ _) ?_))))
      simp only [Za,Zb,Zc,Zd,Zf,Zh,Zi,Zk,Zl,Zm,Zn,Zo,Zp,Zr,Zs,Zx,Zt,Zu,Zy,Zz,Zv,Zw,ZA,ZB,ZC,ZD]
      refine ⟨ldI_of (h6.cell (i := 0) rfl rfl) rfl, ldP_of (h6.cell (i := k + 3) (gk _ _) rfl) rfl, ?_⟩
      refine pShadeC (y := ⟨s.node, (hNext s m.place).1⟩) h6 (i := i + 3) (j := j + 3) (gi _ _) (gj _ _) (by omega) fun H7 h7 => ?_
      have h8 : St H0 ((LL p { m0 with place := (hNext s m.place).1 }).set j (PaintP pb hb (pShade s p ⟨s.node, (hNext s m.place).1⟩ o.din))) H7 := St.lesses (M := [_, _, _]) h7
      rw [set_j] at h8
      exact hK true _ _ H7 (hst _ _ _ rfl) h8
     ·rw [if_neg (show ¬ 0 < o.din from hd)] at hst
      exact bif_neg hd (hK true p _ H6 (hst _ _ _ rfl) (St.lesses (M := [_, _, _]) h6))
  ·rw [ho, if_pos rfl] at hst
   simp only [Zv]
   refine ldP_of (h2.cell (gk _ _) rfl) (pRestC h2 (gj _ _) fun H3 h3 => ?_)
   rw [set_j] at h3
   refine h3.put (gk _ _) (by simp) fun H4 h4 => ?_
   have h4 : St H0 (LL (pRest p) { m0 with pass := true }) H4 := by rw [← set_k (pRest p) m0]; exact h4
   refine h4.put (gk _ _) (by simp) fun H5 h5 => ?_
   have h5 : St H0 (LL (pRest p) ⟨m.place, true, 0⟩) H5 := by rw [← set_k (pRest p) { m0 with pass := true }, ← hm0p]; exact h5
   exact hK true _ _ H5 (hst _ _ _ rfl) h5
 have popped : ∀ m0 : Mk, p.stack.getLast? = none → ∀ H2, St H0 (LL p m0) H2 → ∀ Q : Value → Hp → Prop, (∀ H3, St H0 (LL p m0) H3 → Q (.tuple #[.int .u64 0, .bool false]) H3) → hcall PR f_paint_Paint_Pop ⟨[.pointer (some ⟨pb, 0, none⟩)]⟩ H2 Q := fun m0 hl H2 h2 Q hQ => by
  refine pPopC h2 (gj _ _) fun H3 h3 => ?_
  have e : pPop p = ((0, false), p) := by unfold pPop; rw [hl]
  rw [set_j, e] at h3
  rw [e]
  exact hQ H3 h3
 simp only [Za,Zb,Zc,Zd,Zf,Zh,Zi,Zk,Zl,Zm,Zn,Zo,Zp,Zr,Zs,Zx,Zt,Zu,Zy,Zz,Zv,Zw,ZA,ZB,ZC,ZD]
 rcases hor with h1 | ⟨hl, hpass, hn, h1⟩
 ·refine ldP_of (h1.cell (gk _ _) rfl) ?_
  cases hl : p.stack.getLast? with
  | some k0 =>
   refine pPopC h1 (gj _ _) fun H2 h2 => ?_
   have e : pPop p = ((k0, true), { p with stack := p.stack.dropLast }) := by unfold pPop; rw [hl]
   rw [set_j] at h2
   rw [e] at h2 ⊢
   simp only [Za,Zb,Zc,Zd,Zf,Zh,Zi,Zk,Zl,Zm,Zn,Zo,Zp,Zr,Zs,Zx,Zt,Zu,Zy,Zz,Zv,Zw,ZA,ZB,ZC,ZD]
   refine ldP_of (h2.cell (gk _ _) rfl) (pScanC h2 (gi _ _) (gj _ _) hij fun H3 h3 => ?_)
   rw [set_j] at h3
   simp only [Za,Zb,Zc,Zd,Zf,Zh,Zi,Zk,Zl,Zm,Zn,Zo,Zp,Zr,Zs,Zx,Zt,Zu,Zy,Zz,Zv,Zw,ZA,ZB,ZC,ZD]
   exact hK true _ m H3 (by unfold mkStep; rw [hl]; simp only; rw [e]) h3
  | none =>
   refine popped m hl H1 h1 _ fun H2 h2 => ?_
   simp only [Za,Zb,Zc,Zd,Zf,Zh,Zi,Zk,Zl,Zm,Zn,Zo,Zp,Zr,Zs,Zx,Zt,Zu,Zy,Zz,Zv,Zw,ZA,ZB,ZC,ZD]
   refine ldB_of (h2.cell (gk _ _) rfl) ?_
   cases hpass : m.pass
   ·simp only [Zw]
    have hm : ({ m with pass := false } : Mk) = m := by cases m; simp at hpass; subst hpass; rfl
    refine over m hpass rfl (fun r p' m' e => ?_) H2 h2
    unfold mkStep
    rw [hl]
    simp only
    rw [if_neg (by rw [hpass]; simp), ← e, hm]
    congr 1
    cases m
    simp at hpass
    subst hpass
    rfl
   ·simp only [Zv]
    refine ldP_of (h2.cell (gk _ _) rfl) (ldI_of (h2.cell (gk _ _) rfl) (hNextC h2 (gi _ _) fun H3 h3 => ?_))
    simp only [Za,Zb,Zc,Zd,Zf,Zh,Zi,Zk,Zl,Zm,Zn,Zo,Zp,Zr,Zs,Zx,Zt,Zu,Zy,Zz,Zv,Zw,ZA,ZB,ZC,ZD]
    cases hn : (hNext s m.at_).2
    ·simp only [Bool.not_false, Zv]
     refine h3.put (gk _ _) (by simp) fun H4 h4 => ?_
     have h4 : St H0 (LL p { m with pass := false }) H4 := by rw [← set_k p m]; exact h4
     refine ⟨.inr ⟨by first | trivial | exact hl, by first | trivial | exact hpass, by first | trivial | exact hn, h4⟩, ?_⟩
     rw [heps H4 false (h4.cell (gk _ _) rfl), heps H1 m.pass (h1.cell (gk _ _) rfl), hpass]
     decide
    ·simp only [Bool.not_true, Zw]
     refine h3.put (gk _ _) (by simp) fun H4 h4 => ?_
     have h4 : St H0 (LL p { m with at_ := (hNext s m.at_).1 }) H4 := by rw [← set_k p m]; exact h4
     refine ldP_of (h4.cell (gk _ _) rfl) (pScanC h4 (gi _ _) (gj _ _) hij fun H5 h5 => ?_)
     rw [set_j] at h5
     simp only [Za,Zb,Zc,Zd,Zf,Zh,Zi,Zk,Zl,Zm,Zn,Zo,Zp,Zr,Zs,Zx,Zt,Zu,Zy,Zz,Zv,Zw,ZA,ZB,ZC,ZD]
     exact hK true _ _ H5 (by unfold mkStep; rw [hl]; simp only; rw [if_pos ⟨hpass, hn⟩]) h5
 ·refine ldP_of (h1.cell (gk _ _) rfl) (popped _ hl H1 h1 _ fun H2 h2 => ?_)
  simp only [Za,Zb,Zc,Zd,Zf,Zh,Zi,Zk,Zl,Zm,Zn,Zo,Zp,Zr,Zs,Zx,Zt,Zu,Zy,Zz,Zv,Zw,ZA,ZB,ZC,ZD]
  refine ldB_of (h2.cell (gk _ _) rfl) ?_
  simp only [Zw]
  refine over { m with pass := false } rfl rfl (fun r p' m' e => ?_) H2 h2
  unfold mkStep
  rw [hl]
  simp only
  rw [if_neg (by rw [hn]; simp), ← e]
end
end Go.Proofs.YtflfodcemnapeaaGreat

namespace Go.Proofs.YtflfodcemnapeaaGreat
set_option linter.unusedSimpArgs false
set_option linter.unusedVariables false
open Go
section
variable {s : Hs} {p : Ps} {x : Id} {r k : Int} {n : Nat} {m : Mk}
structure Mk.ok (m : Mk) : Prop where
 place : 0 ≤ m.place
 at_ : 0 ≤ m.at_
theorem hNext_pos (ho : s.ok) {q : Int} (h : (hNext s q).2 = true) : q < (hNext s q).1 ∧ 1 ≤ (hNext s q).1 ∧ (hNext s q).1 ≤ s.last := by
 obtain ⟨h1, h2⟩ := hNext_range ho h
 have := get_ser ho h2
 omega
theorem mkStep_ok (ho : s.ok) (hp : p.ok) (hm : m.ok) : (mkStep s p m).2.1.ok ∧ (mkStep s p m).2.2.ok := by
 unfold mkStep
 split
 ·exact ⟨hp.pop.scan, hm⟩
 ·split
  ·rename_i h
   have := hNext_pos ho h.2
   exact ⟨hp.scan, ⟨hm.place, by show 0 ≤ (hNext s m.at_).1; omega⟩⟩
  ·split
   ·exact ⟨hp.rest, ⟨hm.place, Int.le_refl _⟩⟩
   ·split
    ·exact ⟨hp, ⟨hm.place, hm.at_⟩⟩
    ·rename_i h
     have := hNext_pos ho (by simpa using h)
     refine ⟨?_, ⟨by show 0 ≤ (hNext s m.place).1; omega, hm.at_⟩⟩
     simp only
     unfold mkSee
     split
     ·split
      ·exact hp.shade
      ·exact hp
     ·exact hp
end
end Go.Proofs.YtflfodcemnapeaaGreat

namespace Go.Proofs.YtflfodcemnapeaaGreat
set_option linter.unusedSimpArgs false
set_option linter.unusedVariables false
open Go
section
variable {s : Hs} {p q : Ps} {x : Id} {r k : Int} {m : Mk} {B : Int → Int → Prop} {R A : Int → Prop}
theorem hNext_false {q : Int} (h : (hNext s q).2 = false) {k : Int} (hk : hGet s k ≠ none) : k ≤ q := by
 unfold hNext at h
 cases hg : hGet s k with
 | none => exact absurd hg hk
 | some o =>
  obtain ⟨h1, h2⟩ := hGet_mem hg
  split at h
  ·cases h
  ·rename_i hf
   rw [List.find?_eq_none] at hf
   have := hf o h1
   simp at this
   omega
end
section
variable {E Q B : Int → Int → Prop} {n t : Nat} {l l0 : List Int} {D D' : Int → Int → Prop} {i x : Int}
end
section
variable {s : Hs} {B : Int → Int → Prop} {n : Nat} {l : List Int}
end
end Go.Proofs.YtflfodcemnapeaaGreat

namespace Go.Proofs.YtflfodcemnapeaaGreat
set_option linter.unusedSimpArgs false
set_option linter.unusedVariables false
open Go
/-- The document's marker; its place in the pass is its own matter while no pass goes on. -/
def RMkP (b rb qb : Nat) (a : Int) (m : Mk) : Prt := Prt.one b (.cells #[ptrV rb, ptrV qb, .int .u64 m.place, .int .u64 a, .bool m.pass] ty_ref11_Marker (0, 0))

section
variable {H0 H : Hp} {L M : List Prt} {i j k mb rb qb : Nat} {s : Hs} {p : Ps} {m : Mk} {a : Int} {K : Value → Hp → Prop}
theorem rPopJ (h : St H0 L H) (hj : L[j]? = some (RPaint qb rb p)) (hK : ∀ H', St H0 (L.set j (RPaint qb rb (pPop p).2)) H' → K (.tuple #[.int .u64 (pPop p).1.1, .bool (pPop p).1.2]) H') :
  hcall PR f_ref4_WordStack_Pop ⟨[.pointer (some ⟨qb, 1, none⟩)]⟩ H K := by
 obtain ⟨x, M, g, hf, hM, back⟩ := rpaintTakeN h hj
 exact rPopC g hf fun H' h' => hK H' (back [] _ x H' h')
theorem rOverV (h : St H0 L H) (hj : L[j]? = some (RPaint qb rb p)) : hcell H ⟨qb, 3, none⟩ = some (.bool p.over) := by
 obtain ⟨x, M, g, hf, hM, back⟩ := rpaintTakeN h hj
 exact g.cell (i := 0) rfl rfl
theorem rRestP {Q : Hp → Prop} (h : St H0 L H) (hj : L[j]? = some (RPaint qb rb p)) (hK : ∀ H', St H0 (L.set j (RPaint qb rb (pRest p))) H' → Q H') : st ⟨qb, 3, none⟩ (.bool false) H Q := by
 obtain ⟨x, M, g, hf, hM, back⟩ := rpaintTakeN h hj
 refine g.put (i := 0) rfl (by simp) fun H1 h1 => ?_
 have h2 := h1.refact (i := 5) (q := (pRest p).ok ∧ keyed x.t ∧ x.t.Perm (pRest p).met) rfl ⟨hf.1.rest, hf.2⟩
 exact hK H1 (back [] (pRest p) x H1 h2)

theorem rmkBeginC (h : St H0 L H) (hk : L[k]? = some (RMkP mb rb qb a m)) (hK : ∀ H', St H0 (L.set k (RMkP mb rb qb a ⟨0, false, 0⟩)) H' → K (.tuple #[]) H') : hcall PR f_ref11_Marker_Begin ⟨[.pointer (some ⟨mb, 0, none⟩)]⟩ H K := by
 apply den_ref11_Marker_Begin
 unfold B_ref11_Marker_Begin
 have hkl := ltOfGet hk
 simp only [Za,Zb,Zc,Zd,Zf,Zh,Zi,Zk,Zl,Zm,Zn,Zo,Zp,Zr,Zs,Zx,Zt,Zu,Zy,Zz,Zv,Zw,ZA,ZB,ZC,ZD]
 refine h.put hk (by simp) fun H1 h1 => h1.put (i := k) (by simp [hkl]; rfl) (by simp) fun H2 h2 => hK H2 ?_
 rw [List.set_set] at h2
 exact h2

theorem rmkStepC (h : St H0 L H) (hi : L[i]? = some (RHeap rb s)) (hj : L[j]? = some (RPaint qb rb p)) (hk : L[k]? = some (RMkP mb rb qb a m)) (hij : i ≠ j) (hik : i ≠ k) (hjk : j ≠ k) (hlt : p.lt 800000) (hat : m.pass = true → a = m.at_)
  (hK : ∀ a' H', ((mkStep s p m).2.2.pass = true → a' = (mkStep s p m).2.2.at_) → St H0 ((L.set k (RMkP mb rb qb a' (mkStep s p m).2.2)).set j (RPaint qb rb (mkStep s p m).2.1)) H' → K (.bool (mkStep s p m).1) H') :
  hcall PR f_ref11_Marker_Step ⟨[.pointer (some ⟨mb, 0, none⟩)]⟩ H K := by
 apply den_ref11_Marker_Step
 unfold B_ref11_Marker_Step
 have hkl := ltOfGet hk
 have hjl := ltOfGet hj
 have hset : ∀ p' : Ps, ∀ a' : Int, ∀ m' : Mk, ((L.set k (RMkP mb rb qb a' m')).set j (RPaint qb rb p'))[i]? = some (RHeap rb s) ∧ ((L.set k (RMkP mb rb qb a' m')).set j (RPaint qb rb p'))[j]? = some (RPaint qb rb p') ∧ ((L.set k (RMkP mb rb qb a' m')).set j (RPaint qb rb p'))[k]? = some (RMkP mb rb qb a' m') := fun p' a' m' => by
  refine ⟨?_, ?_, ?_⟩
  ·rw [List.getElem?_set_ne (Ne.symm hij), List.getElem?_set_ne (Ne.symm hik)]; exact hi
  ·simp [hjl]
  ·rw [List.getElem?_set_ne hjk]; simp [hkl]
 have hL : L = (L.set k (RMkP mb rb qb a m)).set j (RPaint qb rb p) := by rw [List.set_self hk, List.set_self hj]
 obtain ⟨LL, hLL⟩ : ∃ LL : Ps → Int → Mk → List Prt, ∀ p' a' m', LL p' a' m' = (L.set k (RMkP mb rb qb a' m')).set j (RPaint qb rb p') := ⟨_, fun _ _ _ => rfl⟩
 have set_j : ∀ p' p'' a' m', (LL p' a' m').set j (RPaint qb rb p'') = LL p'' a' m' := fun p' p'' a' m' => by rw [hLL, hLL, List.set_set]
 have set_k : ∀ p' a' m' a'' m'', (LL p' a' m').set k (RMkP mb rb qb a'' m'') = LL p' a'' m'' := fun p' a' m' a'' m'' => by rw [hLL, hLL, List.set_comm _ _ hjk, List.set_set]
 have gi : ∀ p' a' m', (LL p' a' m')[i]? = some (RHeap rb s) := fun p' a' m' => by rw [hLL]; exact (hset p' a' m').1
 have gj : ∀ p' a' m', (LL p' a' m')[j]? = some (RPaint qb rb p') := fun p' a' m' => by rw [hLL]; exact (hset p' a' m').2.1
 have gk : ∀ p' a' m', (LL p' a' m')[k]? = some (RMkP mb rb qb a' m') := fun p' a' m' => by rw [hLL]; exact (hset p' a' m').2.2
 have hK : ∀ r p' a' m' H', mkStep s p m = (r, p', m') → (m'.pass = true → a' = m'.at_) → St H0 (LL p' a' m') H' → K (.bool r) H' := fun r p' a' m' H' e ha' h' => by
  have hK := hK a' H'
  rw [e] at hK
  exact hK ha' (by rw [← hLL]; exact h')
 have hs := rheap_ok h hi
 rw [hL, ← hLL] at h
 clear hset hL
 simp only [Za,Zb,Zc,Zd,Zf,Zh,Zi,Zk,Zl,Zm,Zn,Zo,Zp,Zr,Zs,Zx,Zt,Zu,Zy,Zz,Zv,Zw,ZA,ZB,ZC,ZD]
 refine ldP_of (h.cell (gk _ _ _) rfl) ?_
 simp only [Za,Zb,Zc,Zd,Zf,Zh,Zi,Zk,Zl,Zm,Zn,Zo,Zp,Zr,Zs,Zx,Zt,Zu,Zy,Zz,Zv,Zw,ZA,ZB,ZC,ZD]
 refine rPopJ h (gj _ _ _) fun H2 h2 => ?_
 rw [set_j] at h2
 cases hl : p.stack.getLast? with
 | some k0 =>
  have e : pPop p = ((k0, true), { p with stack := p.stack.dropLast }) := by unfold pPop; rw [hl]
  have hlt' : (pPop p).2.lt 800000 := hlt.pop
  rw [e] at h2 hlt' ⊢
  simp only [Za,Zb,Zc,Zd,Zf,Zh,Zi,Zk,Zl,Zm,Zn,Zo,Zp,Zr,Zs,Zx,Zt,Zu,Zy,Zz,Zv,Zw,ZA,ZB,ZC,ZD]
  refine ldP_of (h2.cell (gk _ _ _) rfl) (rScanC h2 (gi _ _ _) (gj _ _ _) hij hlt' fun H3 h3 => ?_)
  rw [set_j] at h3
  simp only [Za,Zb,Zc,Zd,Zf,Zh,Zi,Zk,Zl,Zm,Zn,Zo,Zp,Zr,Zs,Zx,Zt,Zu,Zy,Zz,Zv,Zw,ZA,ZB,ZC,ZD]
  exact hK true _ a m H3 (by unfold mkStep; rw [hl]; simp only; rw [e]) hat h3
 | none =>
  have e : pPop p = ((0, false), p) := by unfold pPop; rw [hl]
  rw [e] at h2 ⊢
  simp only [Za,Zb,Zc,Zd,Zf,Zh,Zi,Zk,Zl,Zm,Zn,Zo,Zp,Zr,Zs,Zx,Zt,Zu,Zy,Zz,Zv,Zw,ZA,ZB,ZC,ZD]
  intro R16 hR16
  have over : ∀ (a0 : Int) (m0 : Mk), m0.pass = false → m0.place = m.place → (∀ r p' m', (if p.over then (true, pRest p, (⟨m.place, true, 0⟩ : Mk)) else if (hNext s m.place).2 = false then (false, p, m0)
    else (true, mkSee s p (hNext s m.place).1, { m0 with place := (hNext s m.place).1 })) = (r, p', m') → mkStep s p m = (r, p', m')) →
    ∀ H2, St H0 (LL p a0 m0) H2 → R16 H2 := fun a0 m0 hm0 hm0p hst H2 h2 => by
   refine hR16 H2 ?_
   clear hR16
   refine ldP_of (h2.cell (gk _ _ _) rfl) ?_
   simp only [Za,Zb,Zc,Zd,Zf,Zh,Zi,Zk,Zl,Zm,Zn,Zo,Zp,Zr,Zs,Zx,Zt,Zu,Zy,Zz,Zv,Zw,ZA,ZB,ZC,ZD]
   refine ldB_of (rOverV h2 (gj _ _ _)) ?_
   cases ho : p.over
   ·rw [ho, if_neg (by decide)] at hst
    simp only [Zw]
    refine ldP_of (h2.cell (gk _ _ _) rfl) (ldI_of (h2.cell (gk _ _ _) rfl) (rNextC h2 (gi _ _ _) ?_))
    simp only [Za,Zb,Zc,Zd,Zf,Zh,Zi,Zk,Zl,Zm,Zn,Zo,Zp,Zr,Zs,Zx,Zt,Zu,Zy,Zz,Zv,Zw,ZA,ZB,ZC,ZD]
    rw [hm0p]
    cases hn : (hNext s m.place).2
    ·rw [hn, if_pos rfl] at hst
     exact hK false p a0 m0 H2 (hst _ _ _ rfl) (fun h => by rw [hm0] at h; cases h) h2
    ·rw [hn, if_neg (by decide)] at hst
     simp only [Bool.not_true, Zw]
     refine h2.put (gk _ _ _) (by simp) fun H4 h4 => ?_
     have h4 : St H0 (LL p a0 { m0 with place := (hNext s m.place).1 }) H4 := by rw [← set_k p a0 m0]; exact h4
     refine ldP_of (h4.cell (gk _ _ _) rfl) ?_
     obtain ⟨y, N, gz, hp3, _⟩ := rheapOpenL (i := i) h4 (gi _ _ _) (.inl rfl)
     refine rGetC gz hp3 hs (fun hg => absurd hg (hNext_range hs hn).2) fun jj o bo hjj hk' hg hjo => ?_
     obtain ⟨rp, rc, vp, vc, tv⟩ := rthingV gz hjj
     have nd := (rheapV gz).node
     simp only [Za,Zb,Zc,Zd,Zf,Zh,Zi,Zk,Zl,Zm,Zn,Zo,Zp,Zr,Zs,Zx,Zt,Zu,Zy,Zz,Zv,Zw,ZA,ZB,ZC,ZD]
     refine ldI_of tv.din ?_
     unfold mkSee at hst
     rw [hg] at hst
     simp only at hst
     by_cases hd : o.din > 0
     ·rw [if_pos (show 0 < o.din from hd)] at hst
      refine bif_pos hd (ldP_of (h4.cell (gk _ _ _) rfl) (ldP_of (h4.cell (gk _ _ _) rfl) ?_))
      simp only [Za,Zb,Zc,Zd,Zf,Zh,Zi,Zk,Zl,Zm,Zn,Zo,Zp,Zr,Zs,Zx,Zt,Zu,Zy,Zz,Zv,Zw,ZA,ZB,ZC,ZD]
      refine ldI_of nd (ldI_of tv.din ?_)
      refine rShadeC (y := ⟨s.node, (hNext s m.place).1⟩) h4 (gi _ _ _) (gj _ _ _) hij (hlt.mono (by omega)) fun H7 h7 => ?_
      rw [set_j] at h7
      exact hK true _ a0 _ H7 (hst _ _ _ rfl) (fun h => by simp only at h; rw [hm0] at h; cases h) h7
     ·rw [if_neg (show ¬ 0 < o.din from hd)] at hst
      exact bif_neg hd (hK true p a0 _ H4 (hst _ _ _ rfl) (fun h => by simp only at h; rw [hm0] at h; cases h) h4)
   ·rw [ho, if_pos rfl] at hst
    simp only [Zv]
    refine ldP_of (h2.cell (gk _ _ _) rfl) ?_
    simp only [Za,Zb,Zc,Zd,Zf,Zh,Zi,Zk,Zl,Zm,Zn,Zo,Zp,Zr,Zs,Zx,Zt,Zu,Zy,Zz,Zv,Zw,ZA,ZB,ZC,ZD]
    refine rRestP h2 (gj _ _ _) fun H3 h3 => ?_
    rw [set_j] at h3
    refine h3.put (gk _ _ _) (by simp) fun H4 h4 => ?_
    have h4 : St H0 (LL (pRest p) a0 { m0 with pass := true }) H4 := by rw [← set_k (pRest p) a0 m0]; exact h4
    refine h4.put (gk _ _ _) (by simp) fun H5 h5 => ?_
    have h5 : St H0 (LL (pRest p) 0 ⟨m.place, true, 0⟩) H5 := by rw [← set_k (pRest p) a0 { m0 with pass := true }, ← hm0p]; exact h5
    exact hK true _ 0 _ H5 (hst _ _ _ rfl) (fun _ => rfl) h5
  clear hR16
  refine ldB_of (h2.cell (gk _ _ _) rfl) ?_
  cases hpass : m.pass
  ·simp only [Zw]
   have hm : ({ m with pass := false } : Mk) = m := by cases m; simp at hpass; subst hpass; rfl
   refine over a m hpass rfl (fun r p' m' e => ?_) H2 h2
   unfold mkStep
   rw [hl]
   simp only
   rw [if_neg (by rw [hpass]; simp), ← e, hm]
   congr 1
   cases m
   simp at hpass
   subst hpass
   rfl
  ·simp only [Zv]
   have hata := hat hpass
   subst hata
   refine ldP_of (h2.cell (gk _ _ _) rfl) (ldI_of (h2.cell (gk _ _ _) rfl) (rNextC h2 (gi _ _ _) ?_))
   simp only [Za,Zb,Zc,Zd,Zf,Zh,Zi,Zk,Zl,Zm,Zn,Zo,Zp,Zr,Zs,Zx,Zt,Zu,Zy,Zz,Zv,Zw,ZA,ZB,ZC,ZD]
   cases hn : (hNext s m.at_).2
   ·simp only [Zw]
    refine h2.put (gk _ _ _) (by simp) fun H4 h4 => ?_
    have h4 : St H0 (LL p m.at_ { m with pass := false }) H4 := by rw [← set_k p m.at_ m]; exact h4
    refine over m.at_ { m with pass := false } rfl rfl (fun r p' m' e => ?_) H4 h4
    unfold mkStep
    rw [hl]
    simp only
    rw [if_neg (by rw [hn]; simp), ← e]
   ·simp only [Zv]
    refine h2.put (gk _ _ _) (by simp) fun H4 h4 => ?_
    have h4 : St H0 (LL p (hNext s m.at_).1 { m with at_ := (hNext s m.at_).1 }) H4 := by rw [← set_k p m.at_ m]; exact h4
    refine ldP_of (h4.cell (gk _ _ _) rfl) (rScanC h4 (gi _ _ _) (gj _ _ _) hij hlt fun H5 h5 => ?_)
    rw [set_j] at h5
    simp only [Za,Zb,Zc,Zd,Zf,Zh,Zi,Zk,Zl,Zm,Zn,Zo,Zp,Zr,Zs,Zx,Zt,Zu,Zy,Zz,Zv,Zw,ZA,ZB,ZC,ZD]
    exact hK true _ _ _ H5 (by unfold mkStep; rw [hl]; simp only; rw [if_pos ⟨hpass, hn⟩]) (fun _ => rfl) h5
end
end Go.Proofs.YtflfodcemnapeaaGreat

namespace Go.Proofs.YtflfodcemnapeaaGreat
set_option linter.unusedSimpArgs false
set_option linter.unusedVariables false
open Go
section
variable {H0 H : Hp} {L : List Prt} {i : Nat} {K : Value → Hp → Prop} {rp op ip : Option Addr} {rl rc ol oc il ic : Nat} {g : Gr}
end
end Go.Proofs.YtflfodcemnapeaaGreat
