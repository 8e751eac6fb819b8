/- Merged by merge.py: DenSweep, SwS, GphS. No condition. -/
import Derived.Test.YtflfodcemnapeaaGreatZNum
import Derived.Test.YtflfodcemnapeaaGreatZPaint
import Derived.Test.YtflfodcemnapeaaGreatZGraph

namespace Go.Proofs.YtflfodcemnapeaaGreat
open Go
set_option linter.unusedVariables false
set_option maxRecDepth 100000
def B_sweep_New (h1 : Option Addr) (p2 : Option Addr) (H : Hp) (K : Value → Hp → Prop) : Prop :=
 (bif (Option.isNone (α := Addr) h1) then
 K (.tuple #[(.pointer none), (.int .i64 1)]) H
else
 (bif (Option.isNone (α := Addr) p2) then
 K (.tuple #[(.pointer none), (.int .i64 1)]) H
else
 newB (.cells #[(.pointer h1), (.pointer p2), (.int .u64 0), (.int .u64 0)] ty_sweep_Sweeper) H fun b3 Hx4 =>
 hcall PR f_sweep_Sweeper_Begin ⟨[(.pointer (some ⟨b3, 0, none⟩))]⟩ Hx4 fun v5 Hx6 =>
 K (.tuple #[(.pointer (some ⟨b3, 0, none⟩)), (.int .i64 0)]) Hx6))
theorem E_sweep_New (h1 : Option Addr) (p2 : Option Addr) (H : Hp) (K : Value → Hp → Prop) : B_sweep_New h1 p2 H K = denF Tryz.prog Tryz.f40 .n [(.pointer h1), (.pointer p2)] H K := by kernel_rfl
theorem den_sweep_New {h1 : Option Addr} {p2 : Option Addr} {H : Hp} {K : Value → Hp → Prop} (h : B_sweep_New h1 p2 H K) : hcall PR f_sweep_New ⟨[(.pointer h1), (.pointer p2)]⟩ H K := denF_call Tryz.func40 PR_mixed (Eq.mp (E_sweep_New h1 p2 H K) h)

def B_sweep_Sweeper_Step (s1 : Option Addr) (H : Hp) (K : Value → Hp → Prop) : Prop :=
 nilP s1 fun sa2 =>
 ldP sa2 H fun h3 =>
 nilP s1 fun sa4 =>
 ldI .u64 (sa4.add 2) H fun place5 =>
 hcall PR f_heap_Heap_Next ⟨[(.pointer h3), (.int .u64 place5)]⟩ H fun v6 Hx7 =>
 tup2 v6 fun v8 v9 =>
 asI .u64 v8 fun t10 =>
 asB v9 fun t11 =>
 (bif (!t11) then
 K (.tuple #[(.int .u64 0), (.bool false)]) Hx7
else
 nilP s1 fun sa12 =>
 ldI .u64 (sa12.add 3) Hx7 fun endx13 =>
 (bif (decide ((t10 : Int) > endx13)) then
 K (.tuple #[(.int .u64 0), (.bool false)]) Hx7
else
 nilP s1 fun sa14 =>
 st (sa14.add 2) (.int .u64 t10) Hx7 fun Hx15 =>
 nilP s1 fun sa16 =>
 ldP (sa16.add 1) Hx15 fun p17 =>
 hcall PR f_paint_Paint_Mark ⟨[(.pointer p17), (.int .u64 t10)]⟩ Hx15 fun v18 Hx19 =>
 tup3 v18 fun v20 v21 v22 =>
 asI .i64 v20 fun t23 =>
 asB v21 fun t24 =>
 asB v22 fun t25 =>
 (bif t25 then
 hcall PR f_sweep_Sweeper_keep ⟨[(.pointer s1), (.int .u64 t10)]⟩ Hx19 fun v26 Hx27 =>
 asI .u64 v26 fun t28 =>
 K (.tuple #[(.int .u64 t28), (.bool true)]) Hx27
else
 hcall PR f_sweep_Sweeper_free ⟨[(.pointer s1), (.int .u64 t10)]⟩ Hx19 fun v29 Hx30 =>
 asI .u64 v29 fun t31 =>
 K (.tuple #[(.int .u64 t31), (.bool true)]) Hx30)))
theorem E_sweep_Sweeper_Step (s1 : Option Addr) (H : Hp) (K : Value → Hp → Prop) : B_sweep_Sweeper_Step s1 H K = denF Tryz.prog Tryz.f69 .n [(.pointer s1)] H K := by kernel_rfl
theorem den_sweep_Sweeper_Step {s1 : Option Addr} {H : Hp} {K : Value → Hp → Prop} (h : B_sweep_Sweeper_Step s1 H K) : hcall PR f_sweep_Sweeper_Step ⟨[(.pointer s1)]⟩ H K := denF_call Tryz.func69 PR_mixed (Eq.mp (E_sweep_Sweeper_Step s1 H K) h)

def B_sweep_Sweeper_Begin (s1 : Option Addr) (H : Hp) (K : Value → Hp → Prop) : Prop :=
 nilP s1 fun sa2 =>
 ldP sa2 H fun h3 =>
 hcall PR f_heap_Heap_Last ⟨[(.pointer h3)]⟩ H fun v4 Hx5 =>
 asI .u64 v4 fun t6 =>
 nilP s1 fun sa7 =>
 st (sa7.add 2) (.int .u64 0) Hx5 fun Hx8 =>
 nilP s1 fun sa9 =>
 st (sa9.add 3) (.int .u64 t6) Hx8 fun Hx10 =>
 K (.tuple #[]) Hx10
theorem E_sweep_Sweeper_Begin (s1 : Option Addr) (H : Hp) (K : Value → Hp → Prop) : B_sweep_Sweeper_Begin s1 H K = denF Tryz.prog Tryz.f85 .n [(.pointer s1)] H K := by kernel_rfl
theorem den_sweep_Sweeper_Begin {s1 : Option Addr} {H : Hp} {K : Value → Hp → Prop} (h : B_sweep_Sweeper_Begin s1 H K) : hcall PR f_sweep_Sweeper_Begin ⟨[(.pointer s1)]⟩ H K := denF_call Tryz.func85 PR_mixed (Eq.mp (E_sweep_Sweeper_Begin s1 H K) h)

def B_sweep_Sweeper_free (s1 : Option Addr) (serial2 : Int) (H : Hp) (K : Value → Hp → Prop) : Prop :=
 nilP s1 fun sa3 =>
 ldP sa3 H fun h4 =>
 hcall PR f_heap_Heap_Free ⟨[(.pointer h4), (.int .u64 serial2)]⟩ H fun v5 Hx6 =>
 asI .i64 v5 fun t7 =>
 nilP s1 fun sa8 =>
 ldP (sa8.add 1) Hx6 fun p9 =>
 hcall PR f_paint_Paint_Forget ⟨[(.pointer p9), (.int .u64 serial2)]⟩ Hx6 fun v10 Hx11 =>
 K (.int .u64 serial2) Hx11
theorem E_sweep_Sweeper_free (s1 : Option Addr) (serial2 : Int) (H : Hp) (K : Value → Hp → Prop) : B_sweep_Sweeper_free s1 serial2 H K = denF Tryz.prog Tryz.f110 .n [(.pointer s1), (.int .u64 serial2)] H K := by kernel_rfl
theorem den_sweep_Sweeper_free {s1 : Option Addr} {serial2 : Int} {H : Hp} {K : Value → Hp → Prop} (h : B_sweep_Sweeper_free s1 serial2 H K) : hcall PR f_sweep_Sweeper_free ⟨[(.pointer s1), (.int .u64 serial2)]⟩ H K := denF_call Tryz.func110 PR_mixed (Eq.mp (E_sweep_Sweeper_free s1 serial2 H K) h)

def B_sweep_Sweeper_keep (s1 : Option Addr) (a2 : Int) (H : Hp) (K : Value → Hp → Prop) : Prop :=
 K (.int .u64 0) H
theorem E_sweep_Sweeper_keep (s1 : Option Addr) (a2 : Int) (H : Hp) (K : Value → Hp → Prop) : B_sweep_Sweeper_keep s1 a2 H K = denF Tryz.prog Tryz.f112 .n [(.pointer s1), (.int .u64 a2)] H K := by kernel_rfl
theorem den_sweep_Sweeper_keep {s1 : Option Addr} {a2 : Int} {H : Hp} {K : Value → Hp → Prop} (h : B_sweep_Sweeper_keep s1 a2 H K) : hcall PR f_sweep_Sweeper_keep ⟨[(.pointer s1), (.int .u64 a2)]⟩ H K := denF_call Tryz.func112 PR_mixed (Eq.mp (E_sweep_Sweeper_keep s1 a2 H K) h)

end Go.Proofs.YtflfodcemnapeaaGreat

namespace Go.Proofs.YtflfodcemnapeaaGreat
set_option linter.unusedSimpArgs false
set_option linter.unusedVariables false
open Go
/-! ## What happens to the objects -/
theorem hFree_get {s : Hs} {k m : Int} : hGet (hFree s k).2 m = if m = k then none else hGet s m := by
 unfold hFree
 cases hg : hGet s k with
 | none =>
  simp only
  by_cases e : m = k
  ·rw [if_pos e, e, hg]
  ·rw [if_neg e]
 | some o =>
  simp only
  unfold hGet
  simp only
  induction s.obs with
  | nil => simp
  | cons a l ih =>
   by_cases ha : a.ser = k
   ·rw [List.filter_cons_of_neg (by simp [ha]), ih]
    by_cases e : m = k
    ·simp [e]
    ·simp [e, ha, Ne.symm e]
   ·rw [List.filter_cons_of_pos (by simp [ha])]
    simp only [List.find?_cons]
    split
    ·rename_i h
     simp at h
     rw [if_neg (by rw [← h]; exact ha)]
    ·exact ih
theorem hFree_last {s : Hs} {k : Int} : (hFree s k).2.last = s.last := by unfold hFree; split <;> rfl
theorem hFree_node {s : Hs} {k : Int} : (hFree s k).2.node = s.node := by unfold hFree; split <;> rfl
theorem hFree_len {s : Hs} (ho : s.ok) {k : Int} (h : hGet s k ≠ none) : (hFree s k).2.obs.length + 1 = s.obs.length := by
 rcases hGet_place ho k with ⟨h1, _⟩ | ⟨j, o, hj, rfl, hg⟩
 ·exact absurd h1 h
 ·unfold hFree
  rw [hg]
  simp only
  rw [filter_erase ho.rise hj, List.length_eraseIdx_of_lt (ltOfGet hj)]
  have := ltOfGet hj
  omega
theorem hMake_split (s : Hs) (r v : Int) : ((hMake s r v).2.1 ≠ 0 ∧ (hMake s r v).2.2 = s) ∨ ((hMake s r v).2.1 = 0 ∧ (hMake s r v).1 = s.last + 1 ∧ (hMake s r v).2.2.last = s.last + 1 ∧ (hMake s r v).2.2.node = s.node ∧ (hMake s r v).2.2.most = s.most ∧
  ∃ c, (hMake s r v).2.2.obs = s.obs ++ [⟨s.last + 1, c, List.replicate r.toNat noId, List.replicate v.toNat 0, 0⟩]) := by
 unfold hMake
 split
 ·exact .inl ⟨by simp, rfl⟩
 ·split
  ·exact .inl ⟨by simp, rfl⟩
  ·split
   ·exact .inl ⟨by simp, rfl⟩
   ·split
    ·rename_i h
     exact .inl ⟨h, rfl⟩
    ·exact .inr ⟨rfl, rfl, rfl, rfl, rfl, _, rfl⟩
theorem get_ser {s : Hs} (ho : s.ok) {m : Int} (h : hGet s m ≠ none) : 1 ≤ m ∧ m ≤ s.last := by
 cases hg : hGet s m with
 | none => exact absurd hg h
 | some o =>
  obtain ⟨h1, h2⟩ := hGet_mem hg
  have := ho.ser o h1
  omega
theorem hNext_none {s : Hs} (ho : s.ok) {q : Int} (h : ∀ k, q < k → hGet s k = none) : hNext s q = (0, false) := by
 unfold hNext
 have : s.obs.find? (fun o => decide (q < o.ser)) = none := by
  rw [List.find?_eq_none]
  intro o hm hq
  obtain ⟨j, hj, rfl⟩ := List.mem_iff_getElem.1 hm
  have := hGet_at ho (List.getElem?_eq_getElem hj)
  rw [h _ (by simpa using hq)] at this
  cases this
 rw [this]
theorem hNext_range {s : Hs} (ho : s.ok) {q : Int} : (hNext s q).2 = true → q < (hNext s q).1 ∧ hGet s (hNext s q).1 ≠ none := by
 unfold hNext
 cases hf : s.obs.find? (fun o => decide (q < o.ser)) with
 | none => intro h; cases h
 | some o =>
  intro _
  refine ⟨by simpa using List.find?_some hf, fun hn => ?_⟩
  exact hGet_none.1 hn o (List.mem_of_find?_eq_some hf) rfl

/-! ## A step -/
/-- A sweeper's step. -/
noncomputable def swStep (s : Hs) (p : Ps) (pl e : Int) : (Int × Bool) × Hs × Ps × Int :=
 if (hNext s pl).2 = false ∨ (hNext s pl).1 > e then ((0, false), s, p, pl)
 else if (pMark s p (hNext s pl).1).2.2 then ((0, true), s, p, (hNext s pl).1)
 else (((hNext s pl).1, true), (hFree s (hNext s pl).1).2, pForget p (hNext s pl).1, (hNext s pl).1)

def SwP (T : TypeId) (sb hb pb : Nat) (pl e : Int) : Prt := Prt.one sb (.cells #[ptrV hb, ptrV pb, .int .u64 pl, .int .u64 e] T (0, 0))

section
variable {H0 H : Hp} {L M : List Prt} {i j k hb pb sb rb qb : Nat} {s : Hs} {p : Ps} {pl e : Int} {T : TypeId} {K : Value → Hp → Prop}
theorem swBeginC (h : St H0 L H) (hi : L[i]? = some (HeapP hb s)) (hk : L[k]? = some (SwP T sb hb pb pl e)) (hK : ∀ H', St H0 (L.set k (SwP T sb hb pb 0 s.last)) H' → K (.tuple #[]) H') :
  hcall PR f_sweep_Sweeper_Begin ⟨[.pointer (some ⟨sb, 0, none⟩)]⟩ H K := by
 apply den_sweep_Sweeper_Begin
 unfold B_sweep_Sweeper_Begin
 have hkl := ltOfGet hk
 simp only [Za,Zb,Zc,Zd,Zf,Zh,Zi,Zk,Zl,Zm,Zn,Zo,Zp,Zr,Zs,Zx,Zt,Zu,Zy,Zz,Zv,Zw,ZA,ZB,ZC,ZD]
 refine ldP_of (h.cell hk rfl) (hLast h hi ?_)
 simp only [Za,Zb,Zc,Zd,Zf,Zh,Zi,Zk,Zl,Zm,Zn,Zo,Zp,Zr,Zs,Zx,Zt,Zu,Zy,Zz,Zv,Zw,ZA,ZB,ZC,ZD]
 refine h.put hk (by simp) fun H1 h1 => h1.put (i := k) (by simp [hkl]; rfl) (by simp) fun H2 h2 => hK H2 ?_
 rw [List.set_set] at h2
 exact h2
theorem swNewC (h : St H0 L H) (hi : L[i]? = some (HeapP hb s)) (hK : ∀ sb H', St H0 (SwP ty_sweep_Sweeper sb hb pb 0 s.last :: L) H' → K (.tuple #[.pointer (some ⟨sb, 0, none⟩), .int .i64 0]) H') :
  hcall PR f_sweep_New ⟨[.pointer (some ⟨hb, 0, none⟩), .pointer (some ⟨pb, 0, none⟩)]⟩ H K := by
 apply den_sweep_New
 unfold B_sweep_New
 simp only [Option.isNone_some, Zw]
 intro b3 hb3
 have h1 := h.alloc (o := .cells #[ptrV hb, ptrV pb, .int .u64 0, .int .u64 0] ty_sweep_Sweeper) hb3
 exact swBeginC (L := Prt.one b3 _ :: L) (i := i + 1) (k := 0) (T := ty_sweep_Sweeper) (pb := pb) h1 hi rfl fun H2 h2 => hK b3 H2 h2
theorem swStepC (h : St H0 L H) (hi : L[i]? = some (HeapP hb s)) (hj : L[j]? = some (PaintP pb hb p)) (hk : L[k]? = some (SwP T sb hb pb pl e)) (hij : i ≠ j) (hik : i ≠ k) (hjk : j ≠ k)
  (hK : ∀ H', St H0 (((L.set k (SwP T sb hb pb (swStep s p pl e).2.2.2 e)).set i (HeapP hb (swStep s p pl e).2.1)).set j (PaintP pb hb (swStep s p pl e).2.2.1)) H' → K (.tuple #[.int .u64 (swStep s p pl e).1.1, .bool (swStep s p pl e).1.2]) H') :
  hcall PR f_sweep_Sweeper_Step ⟨[.pointer (some ⟨sb, 0, none⟩)]⟩ H K := by
 apply den_sweep_Sweeper_Step
 unfold B_sweep_Sweeper_Step
 have hkl := ltOfGet hk
 simp only [Za,Zb,Zc,Zd,Zf,Zh,Zi,Zk,Zl,Zm,Zn,Zo,Zp,Zr,Zs,Zx,Zt,Zu,Zy,Zz,Zv,Zw,ZA,ZB,ZC,ZD]
 have same : ∀ (hs : swStep s p pl e = ((0, false), s, p, pl)) H', St H0 L H' → K (.tuple #[.int .u64 0, .bool false]) H' := fun hs H' h' => by
  have hK := hK H'
  rw [hs] at hK
  simp only at hK
  rw [List.set_self hk, List.set_self hi, List.set_self hj] at hK
  exact hK h'
 refine ldP_of (h.cell hk rfl) (ldI_of (h.cell hk rfl) (hNextC h hi fun H1 h1 => ?_))
 simp only [Za,Zb,Zc,Zd,Zf,Zh,Zi,Zk,Zl,Zm,Zn,Zo,Zp,Zr,Zs,Zx,Zt,Zu,Zy,Zz,Zv,Zw,ZA,ZB,ZC,ZD]
 cases hn : (hNext s pl).2
 ·simp only [Bool.not_false, Zv]
  exact same (by unfold swStep; rw [if_pos (.inl hn)]) H1 h1
 simp only [Bool.not_true, Zw]
 refine ldI_of (h1.cell hk rfl) ?_
 by_cases he : (hNext s pl).1 > e
 ·exact bif_pos he (same (by unfold swStep; rw [if_pos (.inr he)]) H1 h1)
 refine bif_neg he (h1.put hk (by simp) fun H2 h2 => ?_)
 have hk2 : (L.set k (SwP T sb hb pb (hNext s pl).1 e))[k]? = some (SwP T sb hb pb (hNext s pl).1 e) := by simp [hkl]
 have hi2 : (L.set k (SwP T sb hb pb (hNext s pl).1 e))[i]? = some (HeapP hb s) := by rw [List.getElem?_set_ne (Ne.symm hik)]; exact hi
 have hj2 : (L.set k (SwP T sb hb pb (hNext s pl).1 e))[j]? = some (PaintP pb hb p) := by rw [List.getElem?_set_ne (Ne.symm hjk)]; exact hj
 have h2 : St H0 (L.set k (SwP T sb hb pb (hNext s pl).1 e)) H2 := h2
 refine ldP_of (h2.cell hk2 rfl) (pMarkC h2 hi2 hj2 hij fun H3 h3 => ?_)
 simp only [Za,Zb,Zc,Zd,Zf,Zh,Zi,Zk,Zl,Zm,Zn,Zo,Zp,Zr,Zs,Zx,Zt,Zu,Zy,Zz,Zv,Zw,ZA,ZB,ZC,ZD]
 cases hm : (pMark s p (hNext s pl).1).2.2
 ·simp only [Zw]
  apply den_sweep_Sweeper_free
  unfold B_sweep_Sweeper_free
  simp only [Za,Zb,Zc,Zd,Zf,Zh,Zi,Zk,Zl,Zm,Zn,Zo,Zp,Zr,Zs,Zx,Zt,Zu,Zy,Zz,Zv,Zw,ZA,ZB,ZC,ZD]
  refine ldP_of (h3.cell hk2 rfl) (hFreeC h3 hi2 fun H4 h4 => ?_)
  simp only [Za,Zb,Zc,Zd,Zf,Zh,Zi,Zk,Zl,Zm,Zn,Zo,Zp,Zr,Zs,Zx,Zt,Zu,Zy,Zz,Zv,Zw,ZA,ZB,ZC,ZD]
  refine ldP_of (h4.cell (i := k) (by rw [List.getElem?_set_ne hik]; exact hk2) rfl) (pForgetC h4 (j := j) (by rw [List.getElem?_set_ne hij]; exact hj2) fun H5 h5 => ?_)
  have hK := hK H5
  have hs : swStep s p pl e = (((hNext s pl).1, true), (hFree s (hNext s pl).1).2, pForget p (hNext s pl).1, (hNext s pl).1) := by
   unfold swStep
   rw [if_neg (by rw [hn]; simp; omega), if_neg (by rw [hm]; decide)]
  rw [hs] at hK
  exact hK h5
 ·simp only [Zv]
  apply den_sweep_Sweeper_keep
  unfold B_sweep_Sweeper_keep
  simp only [Za,Zb,Zc,Zd,Zf,Zh,Zi,Zk,Zl,Zm,Zn,Zo,Zp,Zr,Zs,Zx,Zt,Zu,Zy,Zz,Zv,Zw,ZA,ZB,ZC,ZD]
  have hK := hK H3
  have hs : swStep s p pl e = ((0, true), s, p, (hNext s pl).1) := by
   unfold swStep
   rw [if_neg (by rw [hn]; simp; omega), if_pos hm]
  rw [hs] at hK
  simp only at hK
  rw [List.set_self hi2, List.set_self hj2] at hK
  exact hK h3

theorem rswBeginC (h : St H0 L H) (hi : L[i]? = some (RHeap rb s)) (hk : L[k]? = some (SwP T sb rb qb pl e)) (hik : i ≠ k) (hK : ∀ H', St H0 (L.set k (SwP T sb rb qb 0 s.last)) H' → K (.tuple #[]) H') :
  hcall PR f_ref11_Sweeper_Begin ⟨[.pointer (some ⟨sb, 0, none⟩)]⟩ H K := by
 apply den_ref11_Sweeper_Begin
 unfold B_ref11_Sweeper_Begin
 have hkl := ltOfGet hk
 simp only [Za,Zb,Zc,Zd,Zf,Zh,Zi,Zk,Zl,Zm,Zn,Zo,Zp,Zr,Zs,Zx,Zt,Zu,Zy,Zz,Zv,Zw,ZA,ZB,ZC,ZD]
 refine h.put hk (by simp) fun H1 h1 => ?_
 have h1 : St H0 (L.set k (SwP T sb rb qb 0 e)) H1 := h1
 have hk2 : (L.set k (SwP T sb rb qb 0 e))[k]? = some (SwP T sb rb qb 0 e) := by simp [hkl]
 refine ldP_of (h1.cell hk2 rfl) ?_
 obtain ⟨y, N, g, _, _⟩ := rheapOpenL (i := i) h1 (by rw [List.getElem?_set_ne (Ne.symm hik)]; exact hi) (.inl rfl)
 simp only [Za,Zb,Zc,Zd,Zf,Zh,Zi,Zk,Zl,Zm,Zn,Zo,Zp,Zr,Zs,Zx,Zt,Zu,Zy,Zz,Zv,Zw,ZA,ZB,ZC,ZD]
 refine ldI_of (rheapV g).last (h1.put hk2 (by simp) fun H2 h2 => hK H2 ?_)
 rw [List.set_set] at h2
 exact h2
theorem rswStepC (h : St H0 L H) (hi : L[i]? = some (RHeap rb s)) (hj : L[j]? = some (RPaint qb rb p)) (hk : L[k]? = some (SwP T sb rb qb pl e)) (hij : i ≠ j) (hik : i ≠ k) (hjk : j ≠ k) (hlt : p.lt 900000)
  (hK : ∀ H', St H0 (((L.set k (SwP T sb rb qb (swStep s p pl e).2.2.2 e)).set i (RHeap rb (swStep s p pl e).2.1)).set j (RPaint qb rb (swStep s p pl e).2.2.1)) H' → K (.tuple #[.int .u64 (swStep s p pl e).1.1, .bool (swStep s p pl e).1.2]) H') :
  hcall PR f_ref11_Sweeper_Step ⟨[.pointer (some ⟨sb, 0, none⟩)]⟩ H K := by
 apply den_ref11_Sweeper_Step
 unfold B_ref11_Sweeper_Step
 have hkl := ltOfGet hk
 simp only [Za,Zb,Zc,Zd,Zf,Zh,Zi,Zk,Zl,Zm,Zn,Zo,Zp,Zr,Zs,Zx,Zt,Zu,Zy,Zz,Zv,Zw,ZA,ZB,ZC,ZD]
 have same : ∀ (hs : swStep s p pl e = ((0, false), s, p, pl)) H', St H0 L H' → K (.tuple #[.int .u64 0, .bool false]) H' := fun hs H' h' => by
  have hK := hK H'
  rw [hs] at hK
  simp only at hK
  rw [List.set_self hk, List.set_self hi, List.set_self hj] at hK
  exact hK h'
 refine ldP_of (h.cell hk rfl) (ldI_of (h.cell hk rfl) (rNextC h hi ?_))
 simp only [Za,Zb,Zc,Zd,Zf,Zh,Zi,Zk,Zl,Zm,Zn,Zo,Zp,Zr,Zs,Zx,Zt,Zu,Zy,Zz,Zv,Zw,ZA,ZB,ZC,ZD]
 cases hn : (hNext s pl).2
 ·simp only [Bool.not_false, Zv]
  exact same (by unfold swStep; rw [if_pos (.inl hn)]) H h
 simp only [Bool.not_true, Zw]
 refine ldI_of (h.cell hk rfl) ?_
 by_cases he : (hNext s pl).1 > e
 ·exact bif_pos he (same (by unfold swStep; rw [if_pos (.inr he)]) H h)
 refine bif_neg he (h.put hk (by simp) fun H2 h2 => ?_)
 have hk2 : (L.set k (SwP T sb rb qb (hNext s pl).1 e))[k]? = some (SwP T sb rb qb (hNext s pl).1 e) := by simp [hkl]
 have hi2 : (L.set k (SwP T sb rb qb (hNext s pl).1 e))[i]? = some (RHeap rb s) := by rw [List.getElem?_set_ne (Ne.symm hik)]; exact hi
 have hj2 : (L.set k (SwP T sb rb qb (hNext s pl).1 e))[j]? = some (RPaint qb rb p) := by rw [List.getElem?_set_ne (Ne.symm hjk)]; exact hj
 have h2 : St H0 (L.set k (SwP T sb rb qb (hNext s pl).1 e)) H2 := h2
 refine ldP_of (h2.cell hk2 rfl) (rMarkC h2 hi2 hj2 hij hlt ?_)
 simp only [Za,Zb,Zc,Zd,Zf,Zh,Zi,Zk,Zl,Zm,Zn,Zo,Zp,Zr,Zs,Zx,Zt,Zu,Zy,Zz,Zv,Zw,ZA,ZB,ZC,ZD]
 cases hm : (pMark s p (hNext s pl).1).2.2
 ·simp only [Zw]
  refine ldP_of (h2.cell hk2 rfl) (rFreeC h2 hi2 fun H4 h4 => ?_)
  simp only [Za,Zb,Zc,Zd,Zf,Zh,Zi,Zk,Zl,Zm,Zn,Zo,Zp,Zr,Zs,Zx,Zt,Zu,Zy,Zz,Zv,Zw,ZA,ZB,ZC,ZD]
  refine ldP_of (h4.cell (i := k) (by rw [List.getElem?_set_ne hik]; exact hk2) rfl) (rForgetC h4 (j := j) (by rw [List.getElem?_set_ne hij]; exact hj2) hlt fun H5 h5 => ?_)
  have hK := hK H5
  have hs : swStep s p pl e = (((hNext s pl).1, true), (hFree s (hNext s pl).1).2, pForget p (hNext s pl).1, (hNext s pl).1) := by
   unfold swStep
   rw [if_neg (by rw [hn]; simp; omega), if_neg (by rw [hm]; decide)]
  rw [hs] at hK
  exact hK h5
 ·simp only [Zv]
  have hK := hK H2
  have hs : swStep s p pl e = ((0, true), s, p, (hNext s pl).1) := by
   unfold swStep
   rw [if_neg (by rw [hn]; simp; omega), if_pos hm]
  rw [hs] at hK
  simp only at hK
  rw [List.set_self hi2, List.set_self hj2] at hK
  exact hK h2
end
end Go.Proofs.YtflfodcemnapeaaGreat

namespace Go.Proofs.YtflfodcemnapeaaGreat
set_option linter.unusedSimpArgs false
set_option linter.unusedVariables false
open Go
theorem rd_nil {H : Hp} {k : Nat} : Rd H k none 0 [] := ⟨by simp, rfl⟩
end Go.Proofs.YtflfodcemnapeaaGreat
