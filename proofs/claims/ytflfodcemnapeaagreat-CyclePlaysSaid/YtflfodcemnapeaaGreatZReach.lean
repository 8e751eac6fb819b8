/- Merged by merge.py: RcS, RcT, RcLay, DenReach, RcP, RcP2, RcR, RcR2, RcR3, RcH. No condition. -/
import Derived.Test.YtflfodcemnapeaaGreatZPaint
import Derived.Test.YtflfodcemnapeaaGreatZMark
import Derived.Shelf.Lay
import Derived.Ground.SlsfProg
import Derived.Test.YtflfodcemnapeaaGreatZNum
import Derived.Test.YtflfodcemnapeaaGreatZSweep
import Derived.Test.YtflfodcemnapeaaGreatZHeap

namespace Go.Proofs.YtflfodcemnapeaaGreat
set_option linter.unusedSimpArgs false
set_option linter.unusedVariables false
open Go
/-- A row under way. -/
structure RcRow where
 in_ : Int
 seen : List Int
 waits : List Int
 outs : List (Id × Int)
/-- A reacher. -/
structure Rc where
 suspect : Int
 place : Int
 now : Option RcRow
 rows : List (Int × List Id)

def risen (l : List (Id × Int)) : List (Id × Int) := l.foldl (fun t e => tPut t e.1 e.2) []
def rcOwn (s : Hs) (p : Ps) (u k : Int) : Bool := (pMark s p k).2.2 && decide (u < (pMark s p k).1)
def rcPut (w : RcRow) (k : Int) : RcRow := if k ∈ w.seen then w else { w with seen := w.seen ++ [k], waits := w.waits ++ [k] }
def rcSee (s : Hs) (p : Ps) (u : Int) (w : RcRow) (x : Id) : RcRow :=
 if x.n = s.node then (if rcOwn s p u x.s then rcPut w x.s else w)
 else if (pMet p x).2 = true ∧ u < (pMet p x).1 then { w with outs := mput w.outs x 1 } else w
def rcRefs (s : Hs) (k : Int) : List Id := match hGet s k with | some o => o.refs | none => []
def rcSees (s : Hs) (p : Ps) (u : Int) (w : RcRow) (l : List Id) : RcRow := l.foldl (rcSee s p u) w
def rcFollow (s : Hs) (p : Ps) (u : Int) (w : RcRow) (k : Int) : RcRow := rcSees s p u { w with waits := w.waits.dropLast } (rcRefs s k)
def rcEnd (c : Rc) : Rc := match c.now with
 | none => c
 | some w => { c with now := none, rows := c.rows ++ [(w.in_, (risen w.outs).map (·.1))] }
def rcNext (s : Hs) (p : Ps) (c : Rc) : Bool × Rc :=
 if (hNext s c.place).2 = false then (c.now.isSome, rcEnd c)
 else match hGet s (hNext s c.place).1 with
  | some o => if 0 < o.din ∧ rcOwn s p c.suspect (hNext s c.place).1 = true then (true, { rcEnd { c with place := (hNext s c.place).1 } with now := some ⟨(hNext s c.place).1, [(hNext s c.place).1], [(hNext s c.place).1], []⟩ })
   else (true, { c with place := (hNext s c.place).1 })
  | none => (true, { c with place := (hNext s c.place).1 })
def rcStep (s : Hs) (p : Ps) (c : Rc) : Bool × Rc := match c.now with
 | some w => match w.waits.getLast? with
  | some k => (true, { c with now := some (rcFollow s p c.suspect w k) })
  | none => rcNext s p c
 | none => rcNext s p c
def rcNew (u : Int) : Rc := ⟨u, 0, none, []⟩

structure RcRow.ok (w : RcRow) : Prop where
 seen : w.seen.Nodup
 waits : ∀ k ∈ w.waits, k ∈ w.seen
 outs : mnod w.outs
 ids : ∀ e ∈ w.outs, isId e.1
structure Rc.ok (c : Rc) : Prop where
 place : 0 ≤ c.place
 now : ∀ w, c.now = some w → w.ok
structure RcRow.lt (w : RcRow) (n : Nat) : Prop where
 seen : w.seen.length ≤ n
 waits : w.waits.length ≤ n
 outs : w.outs.length ≤ n
structure Rc.lt (c : Rc) (n : Nat) : Prop where
 now : ∀ w, c.now = some w → w.lt n
 rows : c.rows.length ≤ n
 outs : ∀ r ∈ c.rows, r.2.length ≤ n

section
variable {s : Hs} {p : Ps} {u k : Int} {w : RcRow} {c : Rc} {x : Id} {n : Nat}
theorem risen_ok {l : List (Id × Int)} (hn : mnod l) (hid : ∀ e ∈ l, isId e.1) : keyed (risen l) ∧ (risen l).Perm l :=
 outs_fold (l := l) (t := []) (m := []) List.Pairwise.nil (List.Perm.refl _) hn hid
theorem risen_is {l t : List (Id × Int)} (hn : mnod l) (hid : ∀ e ∈ l, isId e.1) (ht : keyed t) (hp : t.Perm l) : t = risen l := by
 obtain ⟨h1, h2⟩ := risen_ok hn hid
 exact keyed_unique ht h1 (hp.trans h2.symm)
theorem risen_len {l : List (Id × Int)} : (risen l).length ≤ l.length := by
 have : ∀ (l t : List (Id × Int)), (l.foldl (fun t e => tPut t e.1 e.2) t).length ≤ t.length + l.length := fun l => by
  induction l with
  | nil => intro t; exact Nat.le_refl _
  | cons e l ih =>
   intro t
   have := ih (tPut t e.1 e.2)
   have := tPut_length (t := t) (y := e.1) (r := e.2)
   simp only [List.foldl_cons, List.length_cons]
   omega
 have := this l []
 simpa [risen] using this

theorem pMet_id (ho : p.ok) (h : (pMet p x).2 = true) : isId x ∧ mlook p.met x = some (pMet p x).1 := by
 unfold pMet at h ⊢
 cases hl : mlook p.met x with
 | none => rw [hl] at h; cases h
 | some r => exact ⟨(ho.ids _ (mlook_mem hl)).1, rfl⟩
theorem RcRow.ok.put (h : w.ok) (k : Int) : (rcPut w k).ok := by
 unfold rcPut
 split
 ·exact h
 ·rename_i hk
  refine ⟨?_, fun j hj => ?_, h.outs, h.ids⟩
  ·rw [List.nodup_append]
   exact ⟨h.seen, by simp, fun a ha b hb e => by simp at hb; rw [e, hb] at ha; exact hk ha⟩
  ·rcases List.mem_append.1 hj with hj | hj
   ·exact List.mem_append.2 (.inl (h.waits j hj))
   ·exact List.mem_append.2 (.inr hj)
theorem RcRow.ok.see (ho : p.ok) (h : w.ok) (x : Id) : (rcSee s p u w x).ok := by
 unfold rcSee
 split
 ·split
  ·exact h.put _
  ·exact h
 ·split
  ·rename_i hc
   refine ⟨h.seen, h.waits, mput_nod h.outs _ _, fun e he => ?_⟩
   rcases mput_mem he with rfl | he
   ·exact (pMet_id ho hc.1).1
   ·exact h.ids e he
  ·exact h
theorem RcRow.ok.sees (ho : p.ok) {l : List Id} (h : w.ok) : (rcSees s p u w l).ok := by
 unfold rcSees
 induction l generalizing w with
 | nil => exact h
 | cons y l ih => exact ih (h.see ho y)
theorem RcRow.ok.popped (h : w.ok) : ({ w with waits := w.waits.dropLast } : RcRow).ok := ⟨h.seen, fun k hk => h.waits k (List.dropLast_subset _ hk), h.outs, h.ids⟩
theorem RcRow.ok.follow (ho : p.ok) (h : w.ok) (k : Int) : (rcFollow s p u w k).ok := h.popped.sees ho
theorem rcEnd_place : (rcEnd c).place = c.place := by unfold rcEnd; split <;> rfl
theorem rcEnd_suspect : (rcEnd c).suspect = c.suspect := by unfold rcEnd; split <;> rfl
theorem rcEnd_now : (rcEnd c).now = none := by unfold rcEnd; split <;> first | assumption | rfl
theorem Rc.ok.step (ho : s.ok) (hp : p.ok) (h : c.ok) : (rcStep s p c).2.ok := by
 have next : (rcNext s p c).2.ok := by
  unfold rcNext
  split
  ·exact ⟨by rw [rcEnd_place]; exact h.place, fun w hw => by rw [rcEnd_now] at hw; cases hw⟩
  ·rename_i hn
   have hn := hNext_pos ho (q := c.place) (by simpa using hn)
   have h0 := h.place
   split
   ·split
    ·refine ⟨?_, fun w hw => ?_⟩
     ·show 0 ≤ (rcEnd _).place
      rw [rcEnd_place]; show 0 ≤ (hNext s c.place).1; omega
     ·cases hw
      exact ⟨by simp, fun k hk => hk, List.nodup_nil, fun e he => by cases he⟩
    ·exact ⟨by show 0 ≤ (hNext s c.place).1; omega, h.now⟩
   ·exact ⟨by show 0 ≤ (hNext s c.place).1; omega, h.now⟩
 unfold rcStep
 split
 ·rename_i w hw
  split
  ·exact ⟨h.place, fun w' hw' => by cases hw'; exact (h.now w hw).follow hp _⟩
  ·exact next
 ·exact next

theorem RcRow.lt.mono {m : Nat} (h : w.lt n) (hm : n ≤ m) : w.lt m := ⟨Nat.le_trans h.seen hm, Nat.le_trans h.waits hm, Nat.le_trans h.outs hm⟩
theorem Rc.lt.mono {m : Nat} (h : c.lt n) (hm : n ≤ m) : c.lt m := ⟨fun w hw => (h.now w hw).mono hm, Nat.le_trans h.rows hm, fun r hr => Nat.le_trans (h.outs r hr) hm⟩
theorem RcRow.lt.see (h : w.lt n) : (rcSee s p u w x).lt (n + 1) := by
 obtain ⟨h1, h2, h3⟩ := h
 unfold rcSee rcPut
 split
 ·split
  ·split
   ·exact ⟨by omega, by omega, by omega⟩
   ·exact ⟨by simp; omega, by simp; omega, by simp only; omega⟩
  ·exact ⟨by omega, by omega, by omega⟩
 ·split
  ·have := (mput_length (l := w.outs) (k := x) (x := (1 : Int))).1
   exact ⟨by simp only; omega, by simp only; omega, by simp only; omega⟩
  ·exact ⟨by omega, by omega, by omega⟩
theorem RcRow.lt.sees {l : List Id} (h : w.lt n) : (rcSees s p u w l).lt (n + l.length) := by
 unfold rcSees
 induction l generalizing w n with
 | nil => exact h
 | cons y l ih => exact (ih (h.see (x := y))).mono (by simp; omega)
theorem rcRefs_len (ho : s.ok) : (rcRefs s k).length ≤ 7 := by
 unfold rcRefs
 split
 ·rename_i o hg; exact (ho.obs o (hGet_mem hg).1).refs
 ·simp
theorem Rc.lt.ended (h : c.lt n) : (rcEnd c).lt (n + 1) := by
 unfold rcEnd
 split
 ·exact h.mono (by omega)
 ·rename_i w hw
  have h1 := h.rows
  refine ⟨fun w hw => (by cases hw), by simp; omega, fun r hr => ?_⟩
  rcases List.mem_append.1 hr with hr | hr
  ·exact Nat.le_trans (h.outs r hr) (by omega)
  ·simp at hr
   subst hr
   have := risen_len (l := w.outs)
   have := (h.now w hw).outs
   simp only [List.length_map]
   omega
theorem Rc.lt.step (ho : s.ok) (h : c.lt n) : (rcStep s p c).2.lt (n + 7) := by
 have next : (rcNext s p c).2.lt (n + 7) := by
  unfold rcNext
  split
  ·exact h.ended.mono (by omega)
  ·split
   ·split
    ·have h1 : Rc.lt { c with place := (hNext s c.place).1 } n := ⟨h.now, h.rows, h.outs⟩
     have h2 := h1.ended.mono (m := n + 7) (by omega)
     refine ⟨fun w hw => ?_, h2.rows, h2.outs⟩
     cases hw
     exact ⟨by simp, by simp, by simp⟩
    ·exact (⟨h.now, h.rows, h.outs⟩ : Rc.lt { c with place := (hNext s c.place).1 } n).mono (by omega)
   ·exact (⟨h.now, h.rows, h.outs⟩ : Rc.lt { c with place := (hNext s c.place).1 } n).mono (by omega)
 unfold rcStep
 split
 ·rename_i w hw
  split
  ·have hl : ∀ k, (rcRefs s k).length ≤ 7 := fun k => rcRefs_len ho
   refine ⟨fun w' hw' => ?_, Nat.le_trans h.rows (by omega), fun r hr => Nat.le_trans (h.outs r hr) (by omega)⟩
   cases hw'
   have h1 := h.now w hw
   have h0 : ({ w with waits := w.waits.dropLast } : RcRow).lt n := ⟨h1.seen, by have := h1.waits; simp; omega, h1.outs⟩
   rename_i k hk
   exact h0.sees.mono (by have := hl k; omega)
  ·exact next
 ·exact next
theorem rcNew_ok : (rcNew u).ok := ⟨Int.le_refl _, fun w hw => by cases hw⟩

theorem rcOwn_has (h : rcOwn s p u k = true) : hGet s k ≠ none ∧ ∃ r g, mlook p.marks k = some (r, g) ∧ u < r := by
 unfold rcOwn pMark at h
 cases hl : mlook p.marks k with
 | none => rw [hl] at h; simp at h
 | some e =>
  obtain ⟨r, g⟩ := e
  rw [hl] at h
  simp only at h
  by_cases hg : hGet s k = none
  ·simp [hg] at h
  ·simp only [hg, if_false] at h
   exact ⟨hg, r, g, rfl, by simpa using h⟩
end
end Go.Proofs.YtflfodcemnapeaaGreat

namespace Go.Proofs.YtflfodcemnapeaaGreat
set_option linter.unusedSimpArgs false
set_option linter.unusedVariables false
open Go
section
variable {s : Hs} {p : Ps} {u k : Int} {w : RcRow} {c : Rc} {x : Id} {n : Nat}
end
end Go.Proofs.YtflfodcemnapeaaGreat

namespace Go.Proofs.YtflfodcemnapeaaGreat
open Go
open Go.Shelf Go.RowKit Go.Lib
def sortIds_ren : Go.Shelf.Ren := ⟨fun | 6 => 162 | 15 => 157 | 14 => 177 | 28 => 172 | 29 => 173 | 20 => 183 | 21 => 184 | 22 => 185 | 23 => 186 | 24 => 187 | 25 => 188 | 26 => 189 | 27 => 190 | 46 => 192 | 47 => 179 | 48 => 180 | 49 => 193 | 50 => 194 | 57 => 195 | n => n, fun | 22 => 50 | 24 => 42 | 25 => 223 | 3 => 3 | 39 => 208 | 0 => 0 | 53 => 232 | 55 => 40 | 4 => 4 | 46 => 226 | 45 => 225 | 50 => 170 | 5 => 5 | 9 => 9 | 66 => 238 | 70 => 241 | 76 => 248 | 77 => 249 | n => n, fun | n => n⟩
theorem sortIds : Go.Proofs.SlLaysF0.n6 Tryz.prog sortIds_ren := {
 mixed := by kernel_rfl
 f6 := ⟨Tryz.f162.name, by decide, Tryz.func162.trans (congrArg some (by kernel_rfl))⟩
 f14 := ⟨Tryz.f177.name, by decide, Tryz.func177.trans (congrArg some (by kernel_rfl))⟩
 f15 := Tryz.func157.trans (congrArg some (by kernel_rfl))
 f20 := ⟨Tryz.f183.name, by decide, Tryz.func183.trans (congrArg some (by kernel_rfl))⟩
 f21 := ⟨Tryz.f184.name, by decide, Tryz.func184.trans (congrArg some (by kernel_rfl))⟩
 f22 := ⟨Tryz.f185.name, by decide, Tryz.func185.trans (congrArg some (by kernel_rfl))⟩
 f23 := ⟨Tryz.f186.name, by decide, Tryz.func186.trans (congrArg some (by kernel_rfl))⟩
 f24 := ⟨Tryz.f187.name, by decide, Tryz.func187.trans (congrArg some (by kernel_rfl))⟩
 f25 := ⟨Tryz.f188.name, by decide, Tryz.func188.trans (congrArg some (by kernel_rfl))⟩
 f26 := ⟨Tryz.f189.name, by decide, Tryz.func189.trans (congrArg some (by kernel_rfl))⟩
 f27 := ⟨Tryz.f190.name, by decide, Tryz.func190.trans (congrArg some (by kernel_rfl))⟩
 f28 := Tryz.func172.trans (congrArg some (by kernel_rfl))
 f29 := Tryz.func173.trans (congrArg some (by kernel_rfl))
 f46 := ⟨Tryz.f192.name, by decide, Tryz.func192.trans (congrArg some (by kernel_rfl))⟩
 f47 := Tryz.func179.trans (congrArg some (by kernel_rfl))
 f48 := Tryz.func180.trans (congrArg some (by kernel_rfl))
 f49 := ⟨Tryz.f193.name, by decide, Tryz.func193.trans (congrArg some (by kernel_rfl))⟩
 f50 := ⟨Tryz.f194.name, by decide, Tryz.func194.trans (congrArg some (by kernel_rfl))⟩
 f57 := ⟨Tryz.f195.name, by decide, Tryz.func195.trans (congrArg some (by kernel_rfl))⟩
 t0 := Tryz.underlying0
 a0 := Tryz.isAgg0
 z0 := Tryz.sizeOf0
 v0 := Tryz.zeroValue0
 t3 := Tryz.underlying3
 a3 := Tryz.isAgg3
 z3 := Tryz.sizeOf3
 v3 := Tryz.zeroValue3
 t4 := Tryz.underlying4
 a4 := Tryz.isAgg4
 z4 := Tryz.sizeOf4
 v4 := Tryz.zeroValue4
 t5 := Tryz.underlying5
 a5 := Tryz.isAgg5
 z5 := Tryz.sizeOf5
 v5 := Tryz.zeroValue5
 t9 := Tryz.underlying9
 a9 := Tryz.isAgg9
 z9 := Tryz.sizeOf9
 v9 := Tryz.zeroValue9
 t22 := Tryz.underlying50
 a22 := Tryz.isAgg50
 z22 := Tryz.sizeOf50
 v22 := Tryz.zeroValue50
 t25 := Tryz.underlying223
 a25 := Tryz.isAgg223
 z25 := Tryz.sizeOf223
 v25 := Tryz.zeroValue223
 t39 := Tryz.underlying208
 a39 := Tryz.isAgg208
 z39 := Tryz.sizeOf208
 v39 := Tryz.zeroValue208
 t45 := Tryz.underlying225
 a45 := Tryz.isAgg225
 z45 := Tryz.sizeOf225
 v45 := Tryz.zeroValue225
 t46 := Tryz.underlying226
 a46 := Tryz.isAgg226
 z46 := Tryz.sizeOf226
 v46 := Tryz.zeroValue226
 t50 := Tryz.underlying170
 a50 := Tryz.isAgg170
 z50 := Tryz.sizeOf170
 v50 := Tryz.zeroValue170
 t53 := Tryz.underlying232
 a53 := Tryz.isAgg232
 z53 := Tryz.sizeOf232
 v53 := Tryz.zeroValue232
 t55 := Tryz.underlying40
 a55 := Tryz.isAgg40
 z55 := Tryz.sizeOf40
 v55 := Tryz.zeroValue40
 t66 := Tryz.underlying238
 a66 := Tryz.isAgg238
 z66 := Tryz.sizeOf238
 v66 := Tryz.zeroValue238
 t70 := Tryz.underlying241
 a70 := Tryz.isAgg241
 z70 := Tryz.sizeOf241
 v70 := Tryz.zeroValue241
 t76 := Tryz.underlying248
 a76 := Tryz.isAgg248
 z76 := Tryz.sizeOf248
 v76 := Tryz.zeroValue248
 t77 := Tryz.underlying249
 a77 := Tryz.isAgg249
 z77 := Tryz.sizeOf249
 v77 := Tryz.zeroValue249 }

end Go.Proofs.YtflfodcemnapeaaGreat

namespace Go.Proofs.YtflfodcemnapeaaGreat
open Go
set_option linter.unusedVariables false
set_option maxRecDepth 100000
def B_reach_New (h1 : Option Addr) (p2 : Option Addr) (H : Hp) (K : Value → Hp → Prop) : Prop :=
 (bif (Option.isNone (α := Addr) h1) then
 K (.tuple #[(.pointer none), (.int .i64 1)]) H
else
 (bif (Option.isNone (α := Addr) p2) then
 K (.tuple #[(.pointer none), (.int .i64 1)]) H
else
 newB (.cells #[(.pointer h1), (.pointer p2), (.int .i64 0), (.int .u64 0), (.pointer none), (.slice none 0 0)] ty_reach_Reacher) H fun b3 Hx4 =>
 K (.tuple #[(.pointer (some ⟨b3, 0, none⟩)), (.int .i64 0)]) Hx4))
theorem E_reach_New (h1 : Option Addr) (p2 : Option Addr) (H : Hp) (K : Value → Hp → Prop) : B_reach_New h1 p2 H K = denF Tryz.prog Tryz.f39 .n [(.pointer h1), (.pointer p2)] H K := by kernel_rfl
theorem den_reach_New {h1 : Option Addr} {p2 : Option Addr} {H : Hp} {K : Value → Hp → Prop} (h : B_reach_New h1 p2 H K) : hcall PR f_reach_New ⟨[(.pointer h1), (.pointer p2)]⟩ H K := denF_call Tryz.func39 PR_mixed (Eq.mp (E_reach_New h1 p2 H K) h)

def B_reach_Reacher_Begin (r1 : Option Addr) (suspect2 : Int) (H : Hp) (K : Value → Hp → Prop) : Prop :=
 nilP r1 fun ra3 =>
 st (ra3.add 2) (.int .i64 suspect2) H fun Hx4 =>
 nilP r1 fun ra5 =>
 st (ra5.add 3) (.int .u64 0) Hx4 fun Hx6 =>
 nilP r1 fun ra7 =>
 st (ra7.add 4) (.pointer none) Hx6 fun Hx8 =>
 nilP r1 fun ra9 =>
 st (ra9.add 5) (.slice none 0 0) Hx8 fun Hx10 =>
 K (.tuple #[]) Hx10
theorem E_reach_Reacher_Begin (r1 : Option Addr) (suspect2 : Int) (H : Hp) (K : Value → Hp → Prop) : B_reach_Reacher_Begin r1 suspect2 H K = denF Tryz.prog Tryz.f104 .n [(.pointer r1), (.int .i64 suspect2)] H K := by kernel_rfl
theorem den_reach_Reacher_Begin {r1 : Option Addr} {suspect2 : Int} {H : Hp} {K : Value → Hp → Prop} (h : B_reach_Reacher_Begin r1 suspect2 H K) : hcall PR f_reach_Reacher_Begin ⟨[(.pointer r1), (.int .i64 suspect2)]⟩ H K := denF_call Tryz.func104 PR_mixed (Eq.mp (E_reach_Reacher_Begin r1 suspect2 H K) h)

def B_reach_Reacher_Step (r1 : Option Addr) (H : Hp) (K : Value → Hp → Prop) : Prop :=
 ∀ R2 : Hp → Prop, (∀ Hx3 : Hp, (
 nilP r1 fun ra4 =>
 ldP ra4 Hx3 fun h5 =>
 nilP r1 fun ra6 =>
 ldI .u64 (ra6.add 3) Hx3 fun place7 =>
 hcall PR f_heap_Heap_Next ⟨[(.pointer h5), (.int .u64 place7)]⟩ Hx3 fun v8 Hx9 =>
 tup2 v8 fun v10 v11 =>
 asI .u64 v10 fun t12 =>
 asB v11 fun t13 =>
 (bif (!t13) then
 hcall PR f_reach_Reacher_end ⟨[(.pointer r1)]⟩ Hx9 fun v14 Hx15 =>
 asB v14 fun t16 =>
 K (.bool t16) Hx15
else
 nilP r1 fun ra17 =>
 st (ra17.add 3) (.int .u64 t12) Hx9 fun Hx18 =>
 nilP r1 fun ra19 =>
 ldP ra19 Hx18 fun h20 =>
 hcall PR f_heap_Heap_Object ⟨[(.pointer h20), (.int .u64 t12)]⟩ Hx18 fun v21 Hx22 =>
 tup2 v21 fun v23 v24 =>
 asAgg' v23 fun cs25 =>
 unCons cs25.toList fun v26 r27 =>
 unCons r27 fun v28 r29 =>
 unCons r29 fun v30 r31 =>
 unCons r31 fun v32 r33 =>
 unCons r33 fun v34 r35 =>
 unNil r35 <|
 asI .u64 v26 fun Serial36 =>
 asI .i64 v28 fun Cell37 =>
 asSl v30 fun RefsP38 RefsL39 RefsC40 =>
 asSl v32 fun ValsP41 ValsL42 ValsC43 =>
 asI .i64 v34 fun In44 =>
 asB v24 fun t45 =>
 newB (.cells #[(.int .u64 0), (.int .i64 0), (.slice none 0 0), (.slice none 0 0), (.int .i64 0)] ty_api_Object) Hx22 fun b46 Hx47 =>
 st ⟨b46, 0, none⟩ (.int .u64 Serial36) Hx47 fun Hx48 =>
 st ⟨b46, 1, none⟩ (.int .i64 Cell37) Hx48 fun Hx49 =>
 st ⟨b46, 2, none⟩ (.slice RefsP38 RefsL39 RefsC40) Hx49 fun Hx50 =>
 st ⟨b46, 3, none⟩ (.slice ValsP41 ValsL42 ValsC43) Hx50 fun Hx51 =>
 st ⟨b46, 4, none⟩ (.int .i64 In44) Hx51 fun Hx52 =>
 ldI .i64 ⟨b46, 4, none⟩ Hx52 fun In53 =>
 (bif (decide ((In53 : Int) > 0)) then
 hcall PR f_reach_Reacher_own ⟨[(.pointer r1), (.int .u64 t12)]⟩ Hx52 fun v54 Hx55 =>
 asB v54 fun t56 =>
 (bif t56 then
 hcall PR f_reach_Reacher_end ⟨[(.pointer r1)]⟩ Hx55 fun v57 Hx58 =>
 asB v57 fun t59 =>
 newB (.map #[] 0) Hx58 fun b60 Hx61 =>
 evW PR (Instr.mapUpdate ty_map_uint64_int (.map (some b60)) (.int .u64 t12) (.int .i64 1)) Hx61 fun v62 Hx63 =>
 newB (.cells #[(.int .u64 t12)] ty_uint64) Hx63 fun b64 Hx65 =>
 newB (.map #[] 0) Hx65 fun b66 Hx67 =>
 newB (.cells #[(.int .u64 t12), (.map (some b60)), (.slice (some ⟨b64, 0, none⟩) 1 1), (.map (some b66))] ty_reach_row) Hx67 fun b68 Hx69 =>
 nilP r1 fun ra70 =>
 st (ra70.add 4) (.pointer (some ⟨b68, 0, none⟩)) Hx69 fun Hx71 =>
 K (.bool true) Hx71
else
 K (.bool true) Hx55)
else
 K (.bool true) Hx52))) → R2 Hx3) →
 nilP r1 fun ra72 =>
 ldP (ra72.add 4) H fun now73 =>
 (bif (!(Option.isNone (α := Addr) now73)) then
 nilP r1 fun ra74 =>
 ldP (ra74.add 4) H fun now75 =>
 nilP now75 fun nowa76 =>
 ldSl (nowa76.add 2) H fun waitsP77 waitsL78 waitsC79 =>
 (bif (decide (((waitsL78 : Int) : Int) > 0)) then
 hcall PR f_reach_Reacher_follow ⟨[(.pointer r1)]⟩ H fun v80 Hx81 =>
 K (.bool true) Hx81
else
 R2 H)
else
 R2 H)
theorem E_reach_Reacher_Step (r1 : Option Addr) (H : Hp) (K : Value → Hp → Prop) : B_reach_Reacher_Step r1 H K = denF Tryz.prog Tryz.f105 (.seq none .n (.seq (some ⟨[], [0]⟩) .n .n)) [(.pointer r1)] H K := by kernel_rfl
theorem den_reach_Reacher_Step {r1 : Option Addr} {H : Hp} {K : Value → Hp → Prop} (h : B_reach_Reacher_Step r1 H K) : hcall PR f_reach_Reacher_Step ⟨[(.pointer r1)]⟩ H K := denF_call Tryz.func105 PR_mixed (Eq.mp (E_reach_Reacher_Step r1 H K) h)

def B_reach_Reacher_Rows (r1 : Option Addr) (H : Hp) (K : Value → Hp → Prop) : Prop :=
 nilP r1 fun ra2 =>
 ldSl (ra2.add 5) H fun rowsP3 rowsL4 rowsC5 =>
 ∃ (I6 : Option Addr → Nat → Nat → Int → Hp → Prop) (m7 : Option Addr → Nat → Nat → Int → Hp → Nat), I6 none 0 0 0 H ∧ ∀ outP9 : Option Addr, ∀ outL10 : Nat, ∀ outC11 : Nat, ∀ t12 : Int, ∀ Hx8 : Hp, I6 outP9 outL10 outC11 t12 Hx8 →
 (bif (decide ((t12 : Int) < (rowsL4 : Int))) then
 idxA rowsP3 rowsL4 t12 2 fun el13 =>
 ldI .u64 el13 Hx8 fun In14 =>
 ldSl (el13.add 1) Hx8 fun OutsP15 OutsL16 OutsC17 =>
 newB (.cells #[(.int .u64 0), (.slice none 0 0)] ty_api_Reach) Hx8 fun b18 Hx19 =>
 st ⟨b18, 0, none⟩ (.int .u64 In14) Hx19 fun Hx20 =>
 st ⟨b18, 1, none⟩ (.slice OutsP15 OutsL16 OutsC17) Hx20 fun Hx21 =>
 ldI .u64 ⟨b18, 0, none⟩ Hx21 fun In22 =>
 ldSl ⟨b18, 1, none⟩ Hx21 fun OutsP23 OutsL24 OutsC25 =>
 newB (.cells #[] ty_api_ID) Hx21 fun b26 Hx27 =>
 (ldSl ⟨b18, 1, none⟩ Hx27 fun OutsP28 OutsL29 OutsC30 =>
 ((.slice OutsP28 OutsL29 OutsC30) : Value) = (.slice OutsP23 OutsL24 OutsC25)) ∧
 (ldI .u64 ⟨b18, 0, none⟩ Hx27 fun In31 =>
 ((.int .u64 In31) : Value) = (.int .u64 In22)) ∧
 evW PR (Builtin.append_ #[ty_Sapi_ID, ty_Sapi_ID] ty_Sapi_ID #[(.slice (some ⟨b26, 0, none⟩) 0 0), (.slice OutsP23 OutsL24 OutsC25)]) Hx27 fun v32 Hx33 =>
 asSl v32 fun tP34 tL35 tC36 =>
 (ldI .u64 ⟨b18, 0, none⟩ Hx33 fun In37 =>
 ((.int .u64 In37) : Value) = (.int .u64 In22)) ∧
 newB (.cells #[(.int .u64 In22), (.slice tP34 tL35 tC36)] ty_api_Reach) Hx33 fun b38 Hx39 =>
 evW PR (Builtin.append_ #[ty_Sapi_Reach, ty_Sapi_Reach] ty_Sapi_Reach #[(.slice outP9 outL10 outC11), (.slice (some ⟨b38, 0, none⟩) 1 1)]) Hx39 fun v40 Hx41 =>
 asSl v40 fun tP42 tL43 tC44 =>
 I6 tP42 tL43 tC44 (IntKind.i64.wrap (t12 + 1)) Hx41 ∧ m7 tP42 tL43 tC44 (IntKind.i64.wrap (t12 + 1)) Hx41 < m7 outP9 outL10 outC11 t12 Hx8
else
 K (.slice outP9 outL10 outC11) Hx8)
theorem E_reach_Reacher_Rows (r1 : Option Addr) (H : Hp) (K : Value → Hp → Prop) : B_reach_Reacher_Rows r1 H K = denF Tryz.prog Tryz.f106 (.seq none .n (.seq none .n (.seq none (.seq none .n (.sub (.loop ⟨[(3, .sl), (11, .int .i64)], [9, 10]⟩ .n))) .n))) [(.pointer r1)] H K := by kernel_rfl
theorem den_reach_Reacher_Rows {r1 : Option Addr} {H : Hp} {K : Value → Hp → Prop} (h : B_reach_Reacher_Rows r1 H K) : hcall PR f_reach_Reacher_Rows ⟨[(.pointer r1)]⟩ H K := denF_call Tryz.func106 PR_mixed (Eq.mp (E_reach_Reacher_Rows r1 H K) h)

def B_reach_Reacher_follow (r1 : Option Addr) (H : Hp) (K : Value → Hp → Prop) : Prop :=
 nilP r1 fun ra2 =>
 ldP (ra2.add 4) H fun now3 =>
 newB (.cells #[(.pointer none)] ty_preach_row) H fun b4 Hx5 =>
 st ⟨b4, 0, none⟩ (.pointer now3) Hx5 fun Hx6 =>
 ldP ⟨b4, 0, none⟩ Hx6 fun t7 =>
 nilP t7 fun ta8 =>
 ldSl (ta8.add 2) Hx6 fun waitsP9 waitsL10 waitsC11 =>
 ldP ⟨b4, 0, none⟩ Hx6 fun t12 =>
 nilP t12 fun ta13 =>
 ldSl (ta13.add 2) Hx6 fun waitsP14 waitsL15 waitsC16 =>
 idxA waitsP14 waitsL15 (IntKind.i64.wrap ((waitsL10 : Int) - 1)) 1 fun el17 =>
 ldI .u64 el17 Hx6 fun t18 =>
 ldP ⟨b4, 0, none⟩ Hx6 fun t19 =>
 ldP ⟨b4, 0, none⟩ Hx6 fun t20 =>
 nilP t20 fun ta21 =>
 ldSl (ta21.add 2) Hx6 fun waitsP22 waitsL23 waitsC24 =>
 slcD waitsP22 waitsL23 waitsC24 none (some (IntKind.i64.wrap ((waitsL10 : Int) - 1))) 1 fun sP25 sL26 sC27 =>
 nilP t19 fun ta28 =>
 st (ta28.add 2) (.slice sP25 sL26 sC27) Hx6 fun Hx29 =>
 nilP r1 fun ra30 =>
 ldP ra30 Hx29 fun h31 =>
 hcall PR f_heap_Heap_Object ⟨[(.pointer h31), (.int .u64 t18)]⟩ Hx29 fun v32 Hx33 =>
 tup2 v32 fun v34 v35 =>
 asAgg' v34 fun cs36 =>
 unCons cs36.toList fun v37 r38 =>
 unCons r38 fun v39 r40 =>
 unCons r40 fun v41 r42 =>
 unCons r42 fun v43 r44 =>
 unCons r44 fun v45 r46 =>
 unNil r46 <|
 asI .u64 v37 fun Serial47 =>
 asI .i64 v39 fun Cell48 =>
 asSl v41 fun RefsP49 RefsL50 RefsC51 =>
 asSl v43 fun ValsP52 ValsL53 ValsC54 =>
 asI .i64 v45 fun In55 =>
 asB v35 fun t56 =>
 newB (.cells #[(.int .u64 0), (.int .i64 0), (.slice none 0 0), (.slice none 0 0), (.int .i64 0)] ty_api_Object) Hx33 fun b57 Hx58 =>
 st ⟨b57, 0, none⟩ (.int .u64 Serial47) Hx58 fun Hx59 =>
 st ⟨b57, 1, none⟩ (.int .i64 Cell48) Hx59 fun Hx60 =>
 st ⟨b57, 2, none⟩ (.slice RefsP49 RefsL50 RefsC51) Hx60 fun Hx61 =>
 st ⟨b57, 3, none⟩ (.slice ValsP52 ValsL53 ValsC54) Hx61 fun Hx62 =>
 st ⟨b57, 4, none⟩ (.int .i64 In55) Hx62 fun Hx63 =>
 ldSl ⟨b57, 2, none⟩ Hx63 fun RefsP64 RefsL65 RefsC66 =>
 ∃ (I67 : Int → Hp → Prop) (m68 : Int → Hp → Nat), I67 0 Hx63 ∧ ∀ t70 : Int, ∀ Hx69 : Hp, I67 t70 Hx69 →
 (bif (decide ((t70 : Int) < (RefsL65 : Int))) then
 ∀ R71 : Hp → Prop, (∀ Hx72 : Hp, (
 I67 (IntKind.i64.wrap (t70 + 1)) Hx72 ∧ m68 (IntKind.i64.wrap (t70 + 1)) Hx72 < m68 t70 Hx69) → R71 Hx72) →
 idxA RefsP64 RefsL65 t70 2 fun el73 =>
 ldI .i64 el73 Hx69 fun Node74 =>
 ldI .u64 (el73.add 1) Hx69 fun Serial75 =>
 newB (.cells #[(.int .i64 0), (.int .u64 0)] ty_api_ID) Hx69 fun b76 Hx77 =>
 st ⟨b76, 0, none⟩ (.int .i64 Node74) Hx77 fun Hx78 =>
 st ⟨b76, 1, none⟩ (.int .u64 Serial75) Hx78 fun Hx79 =>
 ldI .i64 ⟨b76, 0, none⟩ Hx79 fun Node80 =>
 nilP r1 fun ra81 =>
 ldP ra81 Hx79 fun h82 =>
 hcall PR f_heap_Heap_Node ⟨[(.pointer h82)]⟩ Hx79 fun v83 Hx84 =>
 asI .i64 v83 fun t85 =>
 (ldI .i64 ⟨b76, 0, none⟩ Hx84 fun Node86 =>
 ((.int .i64 Node86) : Value) = (.int .i64 Node80)) ∧
 (bif ((Node80 : Int) == t85) then
 ldI .u64 ⟨b76, 1, none⟩ Hx84 fun Serial87 =>
 hcall PR f_reach_Reacher_own ⟨[(.pointer r1), (.int .u64 Serial87)]⟩ Hx84 fun v88 Hx89 =>
 asB v88 fun t90 =>
 (bif t90 then
 ldI .u64 ⟨b76, 1, none⟩ Hx89 fun Serial91 =>
 hcall PR f_reach_Reacher_follow_1 ⟨[(.int .u64 Serial91), (.pointer (some ⟨b4, 0, none⟩))]⟩ Hx89 fun v92 Hx93 =>
 R71 Hx93
else
 R71 Hx89)
else
 nilP r1 fun ra94 =>
 ldP (ra94.add 1) Hx84 fun p95 =>
 ldI .i64 ⟨b76, 0, none⟩ Hx84 fun Node96 =>
 ldI .u64 ⟨b76, 1, none⟩ Hx84 fun Serial97 =>
 hcall PR f_paint_Paint_Met ⟨[(.pointer p95), (.agg #[(.int .i64 Node96), (.int .u64 Serial97)])]⟩ Hx84 fun v98 Hx99 =>
 tup2 v98 fun v100 v101 =>
 asI .i64 v100 fun t102 =>
 asB v101 fun t103 =>
 (bif t103 then
 nilP r1 fun ra104 =>
 ldI .i64 (ra104.add 2) Hx99 fun suspect105 =>
 (bif (decide ((t102 : Int) > suspect105)) then
 ldP ⟨b4, 0, none⟩ Hx99 fun t106 =>
 nilP t106 fun ta107 =>
 ldM (ta107.add 3) Hx99 fun outs108 =>
 ldI .i64 ⟨b76, 0, none⟩ Hx99 fun Node109 =>
 ldI .u64 ⟨b76, 1, none⟩ Hx99 fun Serial110 =>
 evW PR (Instr.mapUpdate ty_map_api_ID_int (.map outs108) (.agg #[(.int .i64 Node109), (.int .u64 Serial110)]) (.int .i64 1)) Hx99 fun v111 Hx112 =>
 R71 Hx112
else
 R71 Hx99)
else
 R71 Hx99))
else
 K (.tuple #[]) Hx69)
theorem E_reach_Reacher_follow (r1 : Option Addr) (H : Hp) (K : Value → Hp → Prop) : B_reach_Reacher_follow r1 H K = denF Tryz.prog Tryz.f132 (.seq none .n (.seq none .n (.seq none .n (.seq none .n (.seq none .n (.seq none .n (.seq none .n (.sub (.loop ⟨[(51, .int .i64)], [0, 2, 5, 49, 50]⟩ (.seq none .n (.seq none .n (.seq (some ⟨[], [0, 2, 5, 49, 50, 51]⟩) .n .n)))))))))))) [(.pointer r1)] H K := by kernel_rfl
theorem den_reach_Reacher_follow {r1 : Option Addr} {H : Hp} {K : Value → Hp → Prop} (h : B_reach_Reacher_follow r1 H K) : hcall PR f_reach_Reacher_follow ⟨[(.pointer r1)]⟩ H K := denF_call Tryz.func132 PR_mixed (Eq.mp (E_reach_Reacher_follow r1 H K) h)

def B_reach_Reacher_end (r1 : Option Addr) (H : Hp) (K : Value → Hp → Prop) : Prop :=
 nilP r1 fun ra2 =>
 ldP (ra2.add 4) H fun now3 =>
 (bif (Option.isNone (α := Addr) now3) then
 K (.bool false) H
else
 nilP r1 fun ra4 =>
 ldSl (ra4.add 5) H fun rowsP5 rowsL6 rowsC7 =>
 nilP r1 fun ra8 =>
 ldP (ra8.add 4) H fun now9 =>
 nilP now9 fun nowa10 =>
 ldI .u64 nowa10 H fun inx11 =>
 nilP r1 fun ra12 =>
 ldP (ra12.add 4) H fun now13 =>
 nilP now13 fun nowa14 =>
 ldM (nowa14.add 3) H fun outs15 =>
 hcall PR f_reach_rising ⟨[(.map outs15)]⟩ H fun v16 Hx17 =>
 asSl v16 fun tP18 tL19 tC20 =>
 (ldI .u64 nowa10 Hx17 fun inx21 =>
 ((.int .u64 inx21) : Value) = (.int .u64 inx11)) ∧
 (ldP (ra8.add 4) Hx17 fun now22 =>
 ((.pointer now22) : Value) = (.pointer now9)) ∧
 (ldSl (ra4.add 5) Hx17 fun rowsP23 rowsL24 rowsC25 =>
 ((.slice rowsP23 rowsL24 rowsC25) : Value) = (.slice rowsP5 rowsL6 rowsC7)) ∧
 newB (.cells #[(.int .u64 inx11), (.slice tP18 tL19 tC20)] ty_api_Reach) Hx17 fun b26 Hx27 =>
 (ldSl (ra4.add 5) Hx27 fun rowsP28 rowsL29 rowsC30 =>
 ((.slice rowsP28 rowsL29 rowsC30) : Value) = (.slice rowsP5 rowsL6 rowsC7)) ∧
 evW PR (Builtin.append_ #[ty_Sapi_Reach, ty_Sapi_Reach] ty_Sapi_Reach #[(.slice rowsP5 rowsL6 rowsC7), (.slice (some ⟨b26, 0, none⟩) 1 1)]) Hx27 fun v31 Hx32 =>
 asSl v31 fun tP33 tL34 tC35 =>
 nilP r1 fun ra36 =>
 st (ra36.add 5) (.slice tP33 tL34 tC35) Hx32 fun Hx37 =>
 nilP r1 fun ra38 =>
 st (ra38.add 4) (.pointer none) Hx37 fun Hx39 =>
 K (.bool true) Hx39)
theorem E_reach_Reacher_end (r1 : Option Addr) (H : Hp) (K : Value → Hp → Prop) : B_reach_Reacher_end r1 H K = denF Tryz.prog Tryz.f133 .n [(.pointer r1)] H K := by kernel_rfl
theorem den_reach_Reacher_end {r1 : Option Addr} {H : Hp} {K : Value → Hp → Prop} (h : B_reach_Reacher_end r1 H K) : hcall PR f_reach_Reacher_end ⟨[(.pointer r1)]⟩ H K := denF_call Tryz.func133 PR_mixed (Eq.mp (E_reach_Reacher_end r1 H K) h)

def B_reach_Reacher_own (r1 : Option Addr) (serial2 : Int) (H : Hp) (K : Value → Hp → Prop) : Prop :=
 nilP r1 fun ra3 =>
 ldP (ra3.add 1) H fun p4 =>
 hcall PR f_paint_Paint_Mark ⟨[(.pointer p4), (.int .u64 serial2)]⟩ H fun v5 Hx6 =>
 tup3 v5 fun v7 v8 v9 =>
 asI .i64 v7 fun t10 =>
 asB v8 fun t11 =>
 asB v9 fun t12 =>
 (bif t12 then
 nilP r1 fun ra13 =>
 ldI .i64 (ra13.add 2) Hx6 fun suspect14 =>
 K (.bool (decide ((t10 : Int) > suspect14))) Hx6
else
 K (.bool false) Hx6)
theorem E_reach_Reacher_own (r1 : Option Addr) (serial2 : Int) (H : Hp) (K : Value → Hp → Prop) : B_reach_Reacher_own r1 serial2 H K = denF Tryz.prog Tryz.f134 .n [(.pointer r1), (.int .u64 serial2)] H K := by kernel_rfl
theorem den_reach_Reacher_own {r1 : Option Addr} {serial2 : Int} {H : Hp} {K : Value → Hp → Prop} (h : B_reach_Reacher_own r1 serial2 H K) : hcall PR f_reach_Reacher_own ⟨[(.pointer r1), (.int .u64 serial2)]⟩ H K := denF_call Tryz.func134 PR_mixed (Eq.mp (E_reach_Reacher_own r1 serial2 H K) h)

def B_reach_Reacher_follow_1 (s1 : Int) (cap2 : Option Addr) (H : Hp) (K : Value → Hp → Prop) : Prop :=
 asA (.pointer cap2) fun capa3 =>
 ldP capa3 H fun t4 =>
 nilP t4 fun ta5 =>
 ldM (ta5.add 1) H fun seen6 =>
 evR PR (Instr.lookup ty_map_uint64_int (.map seen6) (.int .u64 s1) false) H fun v7 =>
 asI .i64 v7 fun t8 =>
 (bif ((t8 : Int) == 0) then
 asA (.pointer cap2) fun capa9 =>
 ldP capa9 H fun t10 =>
 nilP t10 fun ta11 =>
 ldM (ta11.add 1) H fun seen12 =>
 evW PR (Instr.mapUpdate ty_map_uint64_int (.map seen12) (.int .u64 s1) (.int .i64 1)) H fun v13 Hx14 =>
 asA (.pointer cap2) fun capa15 =>
 ldP capa15 Hx14 fun t16 =>
 asA (.pointer cap2) fun capa17 =>
 ldP capa17 Hx14 fun t18 =>
 nilP t18 fun ta19 =>
 ldSl (ta19.add 2) Hx14 fun waitsP20 waitsL21 waitsC22 =>
 newB (.cells #[(.int .u64 s1)] ty_uint64) Hx14 fun b23 Hx24 =>
 (ldSl (ta19.add 2) Hx24 fun waitsP25 waitsL26 waitsC27 =>
 ((.slice waitsP25 waitsL26 waitsC27) : Value) = (.slice waitsP20 waitsL21 waitsC22)) ∧
 (asA (.pointer cap2) fun capa28 =>
 ldP capa28 Hx24 fun t29 =>
 ((.pointer t29) : Value) = (.pointer t18)) ∧
 (asA (.pointer cap2) fun capa30 =>
 ldP capa30 Hx24 fun t31 =>
 ((.pointer t31) : Value) = (.pointer t16)) ∧
 evW PR (Builtin.append_ #[ty_Suint64, ty_Suint64] ty_Suint64 #[(.slice waitsP20 waitsL21 waitsC22), (.slice (some ⟨b23, 0, none⟩) 1 1)]) Hx24 fun v32 Hx33 =>
 asSl v32 fun tP34 tL35 tC36 =>
 (asA (.pointer cap2) fun capa37 =>
 ldP capa37 Hx33 fun t38 =>
 ((.pointer t38) : Value) = (.pointer t16)) ∧
 nilP t16 fun ta39 =>
 st (ta39.add 2) (.slice tP34 tL35 tC36) Hx33 fun Hx40 =>
 K (.tuple #[]) Hx40
else
 K (.tuple #[]) H)
theorem E_reach_Reacher_follow_1 (s1 : Int) (cap2 : Option Addr) (H : Hp) (K : Value → Hp → Prop) : B_reach_Reacher_follow_1 s1 cap2 H K = denF Tryz.prog Tryz.f153 .n [(.int .u64 s1), (.pointer cap2)] H K := by kernel_rfl
theorem den_reach_Reacher_follow_1 {s1 : Int} {cap2 : Option Addr} {H : Hp} {K : Value → Hp → Prop} (h : B_reach_Reacher_follow_1 s1 cap2 H K) : hcall PR f_reach_Reacher_follow_1 ⟨[(.int .u64 s1), (.pointer cap2)]⟩ H K := denF_call Tryz.func153 PR_mixed (Eq.mp (E_reach_Reacher_follow_1 s1 cap2 H K) h)

def B_reach_rising (setx1 : Option Nat) (H : Hp) (K : Value → Hp → Prop) : Prop :=
 evW PR (Instr.range ty_map_api_ID_int (.map setx1)) H fun v2 Hx3 =>
 asA v2 fun it4 =>
 ∃ (I5 : Option Addr → Nat → Nat → Hp → Prop) (m6 : Option Addr → Nat → Nat → Hp → Nat), I5 none 0 0 Hx3 ∧ ∀ outP8 : Option Addr, ∀ outL9 : Nat, ∀ outC10 : Nat, ∀ Hx7 : Hp, I5 outP8 outL9 outC10 Hx7 →
 ∀ R11 : Bool → Hp → Prop, (∀ t13 : Bool, ∀ Hx12 : Hp, (
 (bif t13 then
 evW PR (Instr.entry (.pointer (some it4))) Hx12 fun en14 Hx15 =>
 extractD en14 0 fun v16 =>
 agg2 v16 fun v17 v18 =>
 asI .i64 v17 fun Node19 =>
 asI .u64 v18 fun Serial20 =>
 newB (.cells #[(.int .i64 0), (.int .u64 0)] ty_api_ID) Hx15 fun b21 Hx22 =>
 st ⟨b21, 0, none⟩ (.int .i64 Node19) Hx22 fun Hx23 =>
 st ⟨b21, 1, none⟩ (.int .u64 Serial20) Hx23 fun Hx24 =>
 ldI .i64 ⟨b21, 0, none⟩ Hx24 fun Node25 =>
 ldI .u64 ⟨b21, 1, none⟩ Hx24 fun Serial26 =>
 newB (.cells #[(.int .i64 Node25), (.int .u64 Serial26)] ty_api_ID) Hx24 fun b27 Hx28 =>
 evW PR (Builtin.append_ #[ty_Sapi_ID, ty_Sapi_ID] ty_Sapi_ID #[(.slice outP8 outL9 outC10), (.slice (some ⟨b27, 0, none⟩) 1 1)]) Hx28 fun v29 Hx30 =>
 asSl v29 fun tP31 tL32 tC33 =>
 I5 tP31 tL32 tC33 Hx30 ∧ m6 tP31 tL32 tC33 Hx30 < m6 outP8 outL9 outC10 Hx7
else
 hcall PR f_slices_SortFunc_Sapi_ID_api_ID ⟨[(.slice outP8 outL9 outC10), (.func (.func f_reach_rising_1) #[] #[])]⟩ Hx12 fun v34 Hx35 =>
 K (.slice outP8 outL9 outC10) Hx35)) → R11 t13 Hx12) →
 evW PR (Instr.next (.pointer (some it4)) false 0) Hx7 fun nx36 Hx37 =>
 nextC nx36 (
 R11 false Hx37) fun k38 x39 =>
 R11 true Hx37
theorem E_reach_rising (setx1 : Option Nat) (H : Hp) (K : Value → Hp → Prop) : B_reach_rising setx1 H K = denF Tryz.prog Tryz.f155 (.seq none .n (.seq none .n (.seq none (.seq none .n (.sub (.loop ⟨[(3, .sl)], [6]⟩ (.seq (some ⟨[(8, .bool)], [3, 6]⟩) .n .n)))) .n))) [(.map setx1)] H K := by kernel_rfl
theorem den_reach_rising {setx1 : Option Nat} {H : Hp} {K : Value → Hp → Prop} (h : B_reach_rising setx1 H K) : hcall PR f_reach_rising ⟨[(.map setx1)]⟩ H K := denF_call Tryz.func155 PR_mixed (Eq.mp (E_reach_rising setx1 H K) h)

def B_reach_rising_1 (aNode1 : Int) (aSerial2 : Int) (bNode3 : Int) (bSerial4 : Int) (H : Hp) (K : Value → Hp → Prop) : Prop :=
 newB (.cells #[(.int .i64 aNode1), (.int .u64 aSerial2)] ty_api_ID) H fun b5 Hx6 =>
 newB (.cells #[(.int .i64 bNode3), (.int .u64 bSerial4)] ty_api_ID) Hx6 fun b7 Hx8 =>
 ldI .i64 ⟨b5, 0, none⟩ Hx8 fun Node9 =>
 ldI .u64 ⟨b5, 1, none⟩ Hx8 fun Serial10 =>
 ldI .i64 ⟨b7, 0, none⟩ Hx8 fun Node11 =>
 ldI .u64 ⟨b7, 1, none⟩ Hx8 fun Serial12 =>
 hcall PR f_api_Key ⟨[(.agg #[(.int .i64 Node9), (.int .u64 Serial10)])]⟩ Hx8 fun v13 Hx14 =>
 asI .u64 v13 fun t15 =>
 (ldI .i64 ⟨b7, 0, none⟩ Hx14 fun Node16 =>
 ldI .u64 ⟨b7, 1, none⟩ Hx14 fun Serial17 =>
 ((.agg #[(.int .i64 Node16), (.int .u64 Serial17)]) : Value) = (.agg #[(.int .i64 Node11), (.int .u64 Serial12)])) ∧
 hcall PR f_api_Key ⟨[(.agg #[(.int .i64 Node11), (.int .u64 Serial12)])]⟩ Hx14 fun v18 Hx19 =>
 asI .u64 v18 fun t20 =>
 (bif (decide ((t15 : Int) < t20)) then
 K (.int .i64 (-1)) Hx19
else
 K (.int .i64 1) Hx19)
theorem E_reach_rising_1 (aNode1 : Int) (aSerial2 : Int) (bNode3 : Int) (bSerial4 : Int) (H : Hp) (K : Value → Hp → Prop) : B_reach_rising_1 aNode1 aSerial2 bNode3 bSerial4 H K = denF Tryz.prog Tryz.f163 .n [(.agg #[(.int .i64 aNode1), (.int .u64 aSerial2)]), (.agg #[(.int .i64 bNode3), (.int .u64 bSerial4)])] H K := by kernel_rfl
theorem den_reach_rising_1 {aNode1 : Int} {aSerial2 : Int} {bNode3 : Int} {bSerial4 : Int} {H : Hp} {K : Value → Hp → Prop} (h : B_reach_rising_1 aNode1 aSerial2 bNode3 bSerial4 H K) : hcall PR f_reach_rising_1 ⟨[(.agg #[(.int .i64 aNode1), (.int .u64 aSerial2)]), (.agg #[(.int .i64 bNode3), (.int .u64 bSerial4)])]⟩ H K := denF_call Tryz.func163 PR_mixed (Eq.mp (E_reach_rising_1 aNode1 aSerial2 bNode3 bSerial4 H K) h)

end Go.Proofs.YtflfodcemnapeaaGreat

namespace Go.Proofs.YtflfodcemnapeaaGreat
set_option linter.unusedSimpArgs false
set_option linter.unusedVariables false
open Go
open Go.Shelf Go.RowKit Go.Lib
instance : Inhabited Id := ⟨noId⟩

/-- A row that is told, and where its list lies. -/
abbrev RcQ := (Int × List Id) × (Option Addr × Nat)
def rcRowC (q : RcQ) : List Value := [.int .u64 q.1.1, .slice q.2.1 q.1.2.length q.2.2]
theorem rcRowC_len (q : RcQ) : (rcRowC q).length = 2 := rfl
def rcRowP (q : RcQ) : Prt := Prt.row 2 q.2.1 q.1.2.length q.2.2 (cel Id.cells q.1.2)
structure RcX where
 nb : Nat
 mm : Nat
 mo : Nat
 wp : Option Addr
 wc : Nat
 rp : Option Addr
 rc : Nat
 qs : List RcQ
 T : Nat
def rcOff (b hb pb : Nat) (c : Rc) (x : RcX) : List Prt :=
 [Prt.one b (.cells #[ptrV hb, ptrV pb, .int .i64 c.suspect, .int .u64 c.place, .pointer none, .slice x.rp x.qs.length x.rc] x.T (0, 0)), Prt.row 2 x.rp x.qs.length x.rc (cel rcRowC x.qs), Prt.list (x.qs.map rcRowP), Prt.pure (x.qs.map (·.1) = c.rows ∧ c.ok)]
def rcOn (b hb pb : Nat) (c : Rc) (w : RcRow) (x : RcX) : List Prt :=
 [Prt.one b (.cells #[ptrV hb, ptrV pb, .int .i64 c.suspect, .int .u64 c.place, ptrV x.nb, .slice x.rp x.qs.length x.rc] x.T (0, 0)), Prt.row 2 x.rp x.qs.length x.rc (cel rcRowC x.qs), Prt.list (x.qs.map rcRowP), Prt.pure (x.qs.map (·.1) = c.rows ∧ c.ok),
  Prt.one x.nb (.cells #[.int .u64 w.in_, .map (some x.mm), .slice x.wp w.waits.length x.wc, .map (some x.mo)] ty_reach_row (0, 0)), Prt.mp x.mm (ments (Value.int .u64) (Value.int .i64) (w.seen.map fun k => (k, (1 : Int)))), Prt.mp x.mo (ments Id.val (Value.int .i64) w.outs),
  Prt.row 1 x.wp w.waits.length x.wc (w.waits.map (Value.int .u64))]
def rcParts (b hb pb : Nat) (c : Rc) (x : RcX) : List Prt := match c.now with | none => rcOff b hb pb c x | some w => rcOn b hb pb c w x
/-- A reacher of a heap and a paint. -/
def RcP (b hb pb : Nat) (c : Rc) : Prt := Prt.ex fun x => Prt.list (rcParts b hb pb c x)

theorem mi_map : PR.underlying ty_map_uint64_int = some (.map ty_uint64 ty_int) := by kernel_rfl

section
variable {H0 H : Hp} {L M : List Prt} {i j k b hb pb : Nat} {s : Hs} {p : Ps} {c : Rc} {K : Value → Hp → Prop}
theorem rcTake (h : St H0 L H) (hk : L[k]? = some (RcP b hb pb c)) : ∃ x M, St H0 (rcParts b hb pb c x ++ M) H ∧ (∀ i A, L[i]? = some A → i ≠ k → M[i]? = some A) ∧ ∀ N c' x' H', St H0 (N ++ (rcParts b hb pb c' x' ++ M)) H' → St H0 (N ++ L.set k (RcP b hb pb c')) H' := by
 obtain ⟨x, h1⟩ := h.openEx hk
 refine ⟨x, _, h1, fun i A hi hij => ?_, fun N c' x' H' h' => St.shutExN (A := rcParts b hb pb c') (N := N) x' h' hk⟩
 rw [List.getElem?_set_ne (Ne.symm hij)]
 exact hi
theorem rcTakeOff (h : St H0 L H) (hk : L[k]? = some (RcP b hb pb c)) (hn : c.now = none) : ∃ x M, St H0 (rcOff b hb pb c x ++ M) H ∧ (x.qs.map (·.1) = c.rows ∧ c.ok) ∧ (∀ i A, L[i]? = some A → i ≠ k → M[i]? = some A) ∧ ∀ N c' x' H', St H0 (N ++ (rcParts b hb pb c' x' ++ M)) H' → St H0 (N ++ L.set k (RcP b hb pb c')) H' := by
 obtain ⟨x, M, h1, h2, h3⟩ := rcTake h hk
 have e : rcParts b hb pb c x = rcOff b hb pb c x := by unfold rcParts; rw [hn]
 rw [e] at h1
 exact ⟨x, M, h1, h1.fact (i := 3) (p := x.qs.map (·.1) = c.rows ∧ c.ok) rfl, h2, h3⟩
theorem rcTakeOn {w : RcRow} (h : St H0 L H) (hk : L[k]? = some (RcP b hb pb c)) (hn : c.now = some w) : ∃ x M, St H0 (rcOn b hb pb c w x ++ M) H ∧ (x.qs.map (·.1) = c.rows ∧ c.ok) ∧ (∀ i A, L[i]? = some A → i ≠ k → M[i]? = some A) ∧ ∀ N c' x' H', St H0 (N ++ (rcParts b hb pb c' x' ++ M)) H' → St H0 (N ++ L.set k (RcP b hb pb c')) H' := by
 obtain ⟨x, M, h1, h2, h3⟩ := rcTake h hk
 have e : rcParts b hb pb c x = rcOn b hb pb c w x := by unfold rcParts; rw [hn]
 rw [e] at h1
 exact ⟨x, M, h1, h1.fact (i := 3) (p := x.qs.map (·.1) = c.rows ∧ c.ok) rfl, h2, h3⟩
theorem rc_ok (h : St H0 L H) (hk : L[k]? = some (RcP b hb pb c)) : c.ok := by
 cases hn : c.now with
 | none => obtain ⟨_, _, _, h2, _⟩ := rcTakeOff h hk hn; exact h2.2
 | some w => obtain ⟨_, _, _, h2, _⟩ := rcTakeOn h hk hn; exact h2.2

theorem rcNewC (h : St H0 L H) (hK : ∀ b H', St H0 (RcP b hb pb (rcNew 0) :: L) H' → K (.tuple #[.pointer (some ⟨b, 0, none⟩), .int .i64 0]) H') :
  hcall PR f_reach_New ⟨[.pointer (some ⟨hb, 0, none⟩), .pointer (some ⟨pb, 0, none⟩)]⟩ H K := by
 apply den_reach_New
 unfold B_reach_New
 simp only [Option.isNone_some, Zw]
 intro b3 hb3
 have h1 := h.say (p := ([] : List RcQ).map (·.1) = (rcNew 0).rows ∧ (rcNew 0).ok) ⟨rfl, rcNew_ok⟩
 have h2 := St.gather (M := []) h1
 have h3 := h2.row (H' := _) (Own.nil 2) ((Goes.refl Nothing _).less fun c hc => absurd hc blk_none)
 have h4 := h3.alloc (o := .cells #[ptrV hb, ptrV pb, .int .i64 0, .int .u64 0, .pointer none, .slice none 0 0] ty_reach_Reacher) hb3
 exact hK b3 _ (St.gatherEx (M := rcParts b3 hb pb (rcNew 0)) ⟨0, 0, 0, none, 0, none, 0, [], ty_reach_Reacher⟩ h4)

theorem rcBeginC {u : Int} (h : St H0 L H) (hk : L[k]? = some (RcP b hb pb c)) (hK : ∀ H', St H0 (L.set k (RcP b hb pb (rcNew u))) H' → K (.tuple #[]) H') :
  hcall PR f_reach_Reacher_Begin ⟨[.pointer (some ⟨b, 0, none⟩), .int .i64 u]⟩ H K := by
 apply den_reach_Reacher_Begin
 unfold B_reach_Reacher_Begin
 simp only [Za,Zb,Zc,Zd,Zf,Zh,Zi,Zk,Zl,Zm,Zn,Zo,Zp,Zr,Zs,Zx,Zt,Zu,Zy,Zz,Zv,Zw,ZA,ZB,ZC,ZD]
 cases hn : c.now with
 | none =>
  obtain ⟨x, M, g, _, _, back⟩ := rcTakeOff h hk hn
  refine g.put (i := 0) rfl (by simp) fun H1 g1 => g1.put (i := 0) rfl (by simp) fun H2 g2 => g2.put (i := 0) rfl (by simp) fun H3 g3 => g3.put (i := 0) rfl (by simp) fun H4 g4 => hK H4 ?_
  have g5 := (g4.refact (i := 3) (q := ([] : List RcQ).map (·.1) = (rcNew u).rows ∧ (rcNew u).ok) rfl ⟨rfl, rcNew_ok⟩)
  have g6 := St.over (i := 2) (St.gather (M := []) g5) rfl
  have g7 := St.over (i := 1) (g6.row (H' := _) (Own.nil 2) ((Goes.refl Nothing _).less fun c hc => absurd hc blk_none)) rfl
  exact back [] (rcNew u) ⟨0, 0, 0, none, 0, none, 0, [], x.T⟩ H4 g7
 | some w =>
  obtain ⟨x, M, g, _, _, back⟩ := rcTakeOn h hk hn
  refine g.put (i := 0) rfl (by simp) fun H1 g1 => g1.put (i := 0) rfl (by simp) fun H2 g2 => g2.put (i := 0) rfl (by simp) fun H3 g3 => g3.put (i := 0) rfl (by simp) fun H4 g4 => hK H4 ?_
  have g5 := (g4.refact (i := 3) (q := ([] : List RcQ).map (·.1) = (rcNew u).rows ∧ (rcNew u).ok) rfl ⟨rfl, rcNew_ok⟩)
  have g6 := St.over (i := 2) (St.gather (M := []) g5) rfl
  have g7 := St.over (i := 1) (g6.row (H' := _) (Own.nil 2) ((Goes.refl Nothing _).less fun c hc => absurd hc blk_none)) rfl
  have g8 := g7.pick 8 [4, 5, 6, 7, 0, 1, 2, 3] rfl rfl
  exact back [] (rcNew u) ⟨0, 0, 0, none, 0, none, 0, [], x.T⟩ H4 (St.lesses (M := [_, _, _, _]) g8)

theorem rcOwnC {q u : Int} (h : St H0 L H) (hi : L[i]? = some (HeapP hb s)) (hj : L[j]? = some (PaintP pb hb p)) (hij : i ≠ j) (c1 : ∀ H', St H0 L H' → hcell H' ⟨b, 1, none⟩ = some (ptrV pb)) (c2 : ∀ H', St H0 L H' → hcell H' ⟨b, 2, none⟩ = some (.int .i64 u))
  (hK : ∀ H', St H0 L H' → K (.bool (rcOwn s p u q)) H') : hcall PR f_reach_Reacher_own ⟨[.pointer (some ⟨b, 0, none⟩), .int .u64 q]⟩ H K := by
 apply den_reach_Reacher_own
 unfold B_reach_Reacher_own
 simp only [Za,Zb,Zc,Zd,Zf,Zh,Zi,Zk,Zl,Zm,Zn,Zo,Zp,Zr,Zs,Zx,Zt,Zu,Zy,Zz,Zv,Zw,ZA,ZB,ZC,ZD]
 refine ldP_of (c1 H h) (pMarkC h hi hj hij fun H1 h1 => ?_)
 simp only [Za,Zb,Zc,Zd,Zf,Zh,Zi,Zk,Zl,Zm,Zn,Zo,Zp,Zr,Zs,Zx,Zt,Zu,Zy,Zz,Zv,Zw,ZA,ZB,ZC,ZD]
 have hK := hK H1 h1
 unfold rcOwn at hK
 cases hm : (pMark s p q).2.2
 ·rw [hm] at hK
  exact hK
 ·rw [hm] at hK
  simp only [Zv]
  exact ldI_of (c2 H1 h1) (by simpa using hK)

theorem keyV_lt_of {l : List Id} (hid : ∀ x ∈ l, isId x) (hn : l.Nodup) (hs : l.Pairwise fun a b => ¬ keyV b < keyV a) : l.Pairwise fun a b => keyOf a < keyOf b := by
 refine (List.Pairwise.and hs hn).imp_of_mem fun {a b} ha hb hab => ?_
 have ia := hid a ha
 have ib := hid b hb
 have h1 := hab.1
 rw [keyV_id ia, keyV_id ib] at h1
 rcases Int.lt_or_lt_of_ne (fun e => hab.2 (keyOf_inj ia ib e)) with h | h
 ·exact h
 ·exact absurd h h1
theorem keyOf_unique : ∀ {l m : List Id}, l.Pairwise (fun a b => keyOf a < keyOf b) → m.Pairwise (fun a b => keyOf a < keyOf b) → l.Perm m → l = m
 | [], m, _, _, hp => (List.nil_perm.1 hp).symm
 | a :: l, [], _, _, hp => by simp at hp
 | a :: l, b :: m, h, h', hp => by
  have h1 := List.pairwise_cons.1 h
  have h2 := List.pairwise_cons.1 h'
  have e : a = b := by
   have ma : a ∈ b :: m := hp.subset (by simp)
   have mb : b ∈ a :: l := hp.symm.subset (by simp)
   rcases List.mem_cons.1 ma with e | ma
   ·exact e
   rcases List.mem_cons.1 mb with e | mb
   ·exact e.symm
   have := h1.1 b mb
   have := h2.1 a ma
   omega
  subst e
  rw [keyOf_unique h1.2 h2.2 (List.Perm.cons_inv hp)]

theorem risingCmp (x y : Id) (H : Hp) (K : Value → Hp → Prop) (hK : ∀ H', Keep Nothing H H' → K (.int .i64 (if keyV x < keyV y then -1 else 1)) H') : hcall PR f_reach_rising_1 #[.agg (Id.cells x).toArray, .agg (Id.cells y).toArray] H K := by
 refine den_reach_rising_1 (aNode1 := x.n) (aSerial2 := x.s) (bNode3 := y.n) (bSerial4 := y.s) ?_
 unfold B_reach_rising_1
 intro b7 hb7
 have h1 := (St.start H).alloc (o := .cells #[.int .i64 x.n, .int .u64 x.s] ty_api_ID) hb7
 intro b9 hb9
 have h2 := h1.alloc (o := .cells #[.int .i64 y.n, .int .u64 y.s] ty_api_ID) hb9
 refine ldI_of (h2.cell (i := 1) rfl rfl) (ldI_of (h2.cell (i := 1) rfl rfl) (ldI_of (h2.cell (i := 0) rfl rfl) (ldI_of (h2.cell (i := 0) rfl rfl) (keyC h2 fun H3 h3 => ?_))))
 simp only [Za,Zb,Zc,Zd,Zf,Zh,Zi,Zk,Zl,Zm,Zn,Zo,Zp,Zr,Zs,Zx,Zt,Zu,Zy,Zz,Zv,Zw,ZA,ZB,ZC,ZD]
 refine ⟨ldI_of (h3.cell (i := 0) rfl rfl) (ldI_of (h3.cell (i := 0) rfl rfl) rfl), keyC h3 fun H4 h4 => ?_⟩
 simp only [Za,Zb,Zc,Zd,Zf,Zh,Zi,Zk,Zl,Zm,Zn,Zo,Zp,Zr,Zs,Zx,Zt,Zu,Zy,Zz,Zv,Zw,ZA,ZB,ZC,ZD]
 have hK := hK H4 h4.keep
 by_cases hlt : keyV x < keyV y
 ·rw [if_pos hlt] at hK
  exact bif_pos hlt hK
 ·rw [if_neg hlt] at hK
  exact bif_neg hlt hK
theorem risingC {mo : Nat} {l : List (Id × Int)} (h : St H0 L H) (hi : L[i]? = some (Prt.mp mo (ments Id.val (Value.int .i64) l))) (hn : mnod l) (hid : ∀ e ∈ l, isId e.1) (hl : l.length ≤ 900000)
  (hK : ∀ q c H', St H0 (Prt.row 2 q ((risen l).map (·.1)).length c (cel Id.cells ((risen l).map (·.1))) :: L) H' → K (.slice q ((risen l).map (·.1)).length c) H') :
  hcall PR f_reach_rising ⟨[.map (some mo)]⟩ H K := by
 apply den_reach_rising
 unfold B_reach_rising
 have hil := ltOfGet hi
 refine h.mrange hi me_map fun it H2 g2 => ?_
 simp only [Za,Zb,Zc,Zd,Zf,Zh,Zi,Zk,Zl,Zm,Zn,Zo,Zp,Zr,Zs,Zx,Zt,Zu,Zy,Zz,Zv,Zw,ZA,ZB,ZC,ZD]
 have g2 := g2.row (H' := _) (Own.nil 2) ((Goes.refl Nothing _).less fun c hc => absurd hc blk_none)
 let es := ments Id.val (Value.int .i64) l
 have hm1 : ∀ (A : Prt) (cur : Prt), (A :: L.set i cur)[i + 1]? = some cur := fun A cur => by simp [hil]
 refine ⟨fun oP oL oC H' => ∃ (vis todo : List (Id × Int)) (cur : Option (Value × Value)), l.Perm (vis ++ todo) ∧ oL = vis.length ∧ St H0 (Prt.row 2 oP oL oC (cel Id.cells (vis.map (·.1))) :: L.set i (Prt.mpit mo it es (ments Id.val (Value.int .i64) todo) cur)) H',
  fun _ _ _ H' => leftOf H' mo it, ⟨[], l, none, List.Perm.refl _, rfl, g2⟩, ?_⟩
 rintro oP oL oC H3 ⟨vis, todo, cur, hperm, rfl, g3⟩
 have hvl : vis.length ≤ l.length := by rw [hperm.length_eq]; simp
 have hleft := g3.mleft (hm1 _ _)
 intro R13 hR13
 refine g3.mnextT (f := Value.int .i64) (hm1 _ _) (fun e => ?_) fun q A B e H4 g4 => ?_
 ·subst e
  rw [List.append_nil] at hperm
  refine nextC_over (hR13 false H3 ?_)
  clear hR13
  (try simp only [Za,Zb,Zc,Zd,Zf,Zh,Zi,Zk,Zl,Zm,Zn,Zo,Zp,Zr,Zs,Zx,Zt,Zu,Zy,Zz,Zv,Zw,ZA,ZB,ZC,ZD])
  have g5 := g3.mleave (hm1 _ _)
  have g7 : St H0 (Prt.row 2 oP (vis.map (·.1)).length oC (cel Id.cells (vis.map (·.1))) :: L) H3 := by
   have e1 : (Prt.row 2 oP vis.length oC (cel Id.cells (vis.map (·.1))) :: L.set i (Prt.mpit mo it es (ments Id.val (Value.int .i64) []) cur)).set (i + 1) (Prt.mp mo es) = Prt.row 2 oP (vis.map (·.1)).length oC (cel Id.cells (vis.map (·.1))) :: L := by
    rw [List.set_cons_succ, List.set_set, List.set_self hi, List.length_map]
   rw [e1] at g5
   exact g5
  rw [show vis.length = (vis.map (·.1)).length by simp]
  refine sortC (enc := Id.cells) (l := vis.map (·.1)) sortIds (by omega) Tryz.isAgg42 Tryz.sizeOf42 Id.len (fun e v hv => by
   simp [Id.cells] at hv
   rcases hv with rfl | rfl <;> rfl) (fun e : Id => keyV e) f_reach_rising_1 (Go.Proofs.enters_of Tryz.func163 (by kernel_rfl) rfl) risingCmp g7 (i := 0) rfl (by simp; omega) fun l' H5 hp' hs' g8 => ?_
  (try simp only [Za,Zb,Zc,Zd,Zf,Zh,Zi,Zk,Zl,Zm,Zn,Zo,Zp,Zr,Zs,Zx,Zt,Zu,Zy,Zz,Zv,Zw,ZA,ZB,ZC,ZD])
  have hperm' : l'.Perm (l.map (·.1)) := hp'.trans (hperm.symm.map _)
  have hids : ∀ e ∈ l', isId e := fun e he => by
   obtain ⟨a, ha, rfl⟩ := List.mem_map.1 (hperm'.subset he)
   exact hid a ha
  have hnod : l'.Nodup := hperm'.nodup_iff.2 hn
  have hkey := keyV_lt_of hids hnod hs'
  obtain ⟨r1, r2⟩ := risen_ok hn hid
  have e : l' = (risen l).map (·.1) := keyOf_unique hkey (by rw [List.pairwise_map]; exact r1) (hperm'.trans (r2.map _).symm)
  have hlen : (vis.map (·.1)).length = ((risen l).map (·.1)).length := by rw [← e]; exact hp'.length_eq.symm
  rw [e, hlen] at g8
  rw [hlen]
  exact hK oP oC H5 g8
 ·refine nextC_more (hR13 true H4 ?_)
  clear hR13
  simp only [Za,Zb,Zc,Zd,Zf,Zh,Zi,Zk,Zl,Zm,Zn,Zo,Zp,Zr,Zs,Zx,Zt,Zu,Zy,Zz,Zv,Zw,ZA,ZB,ZC,ZD]
  have g4 : St H0 (Prt.row 2 oP vis.length oC (cel Id.cells (vis.map (·.1))) :: L.set i (Prt.mpit mo it es (ments Id.val (Value.int .i64) (A ++ B)) (some (Id.val q.1, .int .i64 q.2)))) H4 := by
   rw [List.set_cons_succ, List.set_set] at g4
   exact g4
  refine g4.mentry (hm1 _ _) ?_
  simp only [Za,Zb,Zc,Zd,Zf,Zh,Zi,Zk,Zl,Zm,Zn,Zo,Zp,Zr,Zs,Zx,Zt,Zu,Zy,Zz,Zv,Zw,ZA,ZB,ZC,ZD]
  have hdec0 : leftOf H4 mo it < leftOf H3 mo it := by
   rw [hleft, g4.mleft (hm1 _ _), e]
   simp [ments]
  refine box2 g4 fun b25 H5 g5 => ?_
  refine ldI_of (g5.cell (i := 0) rfl rfl) (ldI_of (g5.cell (i := 0) rfl rfl) ?_)
  refine lit_ty_Sapi_ID (m := 1) (c := #[.int .i64 q.1.n, .int .u64 q.1.s]) (g5.row_own (i := 1) rfl) rfl (fun z hz => by simp at hz; rcases hz with rfl | rfl <;> rfl) (by omega) fun p' cap' H6 ho' hg' => ?_
  simp only [Za,Zb,Zc,Zd,Zf,Zh,Zi,Zk,Zl,Zm,Zn,Zo,Zp,Zr,Zs,Zx,Zt,Zu,Zy,Zz,Zv,Zw,ZA,ZB,ZC,ZD]
  have g6 := (g5.row_to (i := 1) rfl ho' hg').less
  have hperm' : l.Perm ((vis ++ [q]) ++ (A ++ B)) := by
   rw [e] at hperm
   refine hperm.trans ?_
   rw [List.append_assoc]
   exact List.perm_middle.append_left vis |> fun h => h
  have e1 : cel Id.cells (vis.map (·.1)) ++ (#[Value.int .i64 q.1.n, .int .u64 q.1.s] : Array Value).toList = cel Id.cells ((vis ++ [q]).map (·.1)) := by
   rw [List.map_append, cel_append]
   simp [cel, Id.cells]
  rw [e1] at g6
  have g6 : St H0 (Prt.row 2 p' (vis.length + 1) cap' (cel Id.cells ((vis ++ [q]).map (·.1))) :: L.set i (Prt.mpit mo it es (ments Id.val (Value.int .i64) (A ++ B)) (some (Id.val q.1, .int .i64 q.2)))) H6 := g6
  refine ⟨⟨vis ++ [q], A ++ B, _, hperm', by simp, g6⟩, ?_⟩
  rw [g6.mleft (hm1 _ _), hleft, e]
  simp [ments]
end
end Go.Proofs.YtflfodcemnapeaaGreat

namespace Go.Proofs.YtflfodcemnapeaaGreat
set_option linter.unusedSimpArgs false
set_option linter.unusedVariables false
open Go
section
variable {H0 H : Hp} {L M : List Prt} {i j k b hb pb : Nat} {s : Hs} {p : Ps} {c : Rc} {K : Value → Hp → Prop}
theorem rcEnd_ok (h : c.ok) : (rcEnd c).ok := ⟨by rw [rcEnd_place]; exact h.place, fun w hw => by rw [rcEnd_now] at hw; cases hw⟩
theorem rcEndC (h : St H0 L H) (hk : L[k]? = some (RcP b hb pb c)) (hlt : c.lt 900000) (hK : ∀ H', St H0 (L.set k (RcP b hb pb (rcEnd c))) H' → K (.bool c.now.isSome) H') :
  hcall PR f_reach_Reacher_end ⟨[.pointer (some ⟨b, 0, none⟩)]⟩ H K := by
 apply den_reach_Reacher_end
 unfold B_reach_Reacher_end
 simp only [Za,Zb,Zc,Zd,Zf,Zh,Zi,Zk,Zl,Zm,Zn,Zo,Zp,Zr,Zs,Zx,Zt,Zu,Zy,Zz,Zv,Zw,ZA,ZB,ZC,ZD]
 cases hn : c.now with
 | none =>
  obtain ⟨x, M, g, _, _, back⟩ := rcTakeOff h hk hn
  refine ldP_of (g.cell (i := 0) rfl rfl) ?_
  have e : rcEnd c = c := by unfold rcEnd; rw [hn]
  rw [hn, e, List.set_self hk] at hK
  exact hK H h
 | some w =>
  obtain ⟨x, M, g, hf, _, back⟩ := rcTakeOn h hk hn
  have hw := hf.2.now w hn
  have hwl := hlt.now w hn
  have hql : x.qs.length ≤ 900000 := by
   have := hlt.rows
   rw [← hf.1, List.length_map] at this
   exact this
  refine ldP_of (g.cell (i := 0) rfl rfl) ?_
  simp only [ptrV, Option.isNone_some, Zw]
  refine ldSl_of (g.cell (i := 0) rfl rfl) (ldP_of (g.cell (i := 0) rfl rfl) ?_)
  simp only [Za,Zb,Zc,Zd,Zf,Zh,Zi,Zk,Zl,Zm,Zn,Zo,Zp,Zr,Zs,Zx,Zt,Zu,Zy,Zz,Zv,Zw,ZA,ZB,ZC,ZD]
  refine ldI_of (g.cell (i := 4) rfl rfl) (ldP_of (g.cell (i := 0) rfl rfl) ?_)
  simp only [Za,Zb,Zc,Zd,Zf,Zh,Zi,Zk,Zl,Zm,Zn,Zo,Zp,Zr,Zs,Zx,Zt,Zu,Zy,Zz,Zv,Zw,ZA,ZB,ZC,ZD]
  refine ldM_of (g.cell (i := 4) rfl rfl) (risingC g (i := 6) (l := w.outs) rfl hw.outs hw.ids hwl.outs fun q c1 H1 g1 => ?_)
  simp only [Za,Zb,Zc,Zd,Zf,Zh,Zi,Zk,Zl,Zm,Zn,Zo,Zp,Zr,Zs,Zx,Zt,Zu,Zy,Zz,Zv,Zw,ZA,ZB,ZC,ZD]
  have hrl : ((risen w.outs).map (·.1)).length ≤ 900000 := by
   have := risen_len (l := w.outs)
   have := hwl.outs
   simp only [List.length_map]
   omega
  refine ⟨ldI_of (g1.cell (i := 5) rfl rfl) rfl, ldP_of (g1.cell (i := 1) rfl rfl) rfl, ldSl_of (g1.cell (i := 1) rfl rfl) rfl, ?_⟩
  intro b26 hb26
  have g2 := g1.alloc (o := .cells #[.int .u64 w.in_, .slice q ((risen w.outs).map (·.1)).length c1] ty_api_Reach) hb26
  refine ⟨ldSl_of (g2.cell (i := 2) rfl rfl) rfl, ?_⟩
  refine g2.app (i := 3) rfl tu_ty_Sapi_Reach tu_ty_Sapi_Reach ti_ty_api_Reach rfl (by decide) (g2.one_rd (i := 0) (n := 1) rfl rfl) (fun z hz => by simp at hz; rcases hz with rfl | rfl <;> rfl) (by omega) fun p' cap' H3 g3 => ?_
  simp only [Za,Zb,Zc,Zd,Zf,Zh,Zi,Zk,Zl,Zm,Zn,Zo,Zp,Zr,Zs,Zx,Zt,Zu,Zy,Zz,Zv,Zw,ZA,ZB,ZC,ZD]
  refine g3.put (i := 2) rfl (by simp) fun H4 g4 => g4.put (i := 2) rfl (by simp) fun H5 g5 => ?_
  have e : rcEnd c = { c with now := none, rows := c.rows ++ [(w.in_, (risen w.outs).map (·.1))] } := by unfold rcEnd; rw [hn]
  have hok := rcEnd_ok hf.2
  rw [hn] at hK
  have hK := hK H5
  rw [e] at hK hok
  refine hK ?_
  obtain ⟨nq, hnq⟩ : ∃ nq : RcQ, nq = ((w.in_, (risen w.outs).map (·.1)), (q, c1)) := ⟨_, rfl⟩
  have hlen : x.qs.length + 1 = (x.qs ++ [nq]).length := by simp
  have e1 : cel rcRowC x.qs ++ (#[Value.int .u64 w.in_, .slice q ((risen w.outs).map (·.1)).length c1] : Array Value).toList = cel rcRowC (x.qs ++ [nq]) := by
   rw [cel_append, hnq]; rfl
  rw [e1, hlen] at g5
  -- the new list comes to the others
  have g5b : St H0 (rcRowP nq :: Prt.one b (.cells #[ptrV hb, ptrV pb, .int .i64 c.suspect, .int .u64 c.place, .pointer none, .slice p' (x.qs ++ [nq]).length cap'] x.T (0, 0)) :: Prt.row 2 p' (x.qs ++ [nq]).length cap' (cel rcRowC (x.qs ++ [nq])) :: Prt.list (x.qs.map rcRowP) :: Prt.pure (x.qs.map (·.1) = c.rows ∧ c.ok) ::
    Prt.one x.nb (.cells #[.int .u64 w.in_, .map (some x.mm), .slice x.wp w.waits.length x.wc, .map (some x.mo)] ty_reach_row (0, 0)) :: Prt.mp x.mm (ments (Value.int .u64) (Value.int .i64) (w.seen.map fun k => (k, (1 : Int)))) :: Prt.mp x.mo (ments Id.val (Value.int .i64) w.outs) :: Prt.row 1 x.wp w.waits.length x.wc (w.waits.map (Value.int .u64)) :: M) H5 := by
   subst hnq
   exact g5.less
  have g6 := St.push (i := 2) (M := x.qs.map rcRowP) g5b rfl
  rw [show x.qs.map rcRowP ++ [rcRowP nq] = (x.qs ++ [nq]).map rcRowP by simp] at g6
  have g7 := g6.refact (i := 3) (q := ((x.qs ++ [nq]).map (·.1) = ({ c with now := none, rows := c.rows ++ [(w.in_, (risen w.outs).map (·.1))] } : Rc).rows ∧ ({ c with now := none, rows := c.rows ++ [(w.in_, (risen w.outs).map (·.1))] } : Rc).ok)) rfl
   ⟨by rw [List.map_append, hf.1, hnq]; rfl, hok⟩
  have g8 := g7.pick 8 [4, 5, 6, 7, 0, 1, 2, 3] rfl rfl
  exact back [] { c with now := none, rows := c.rows ++ [(w.in_, (risen w.outs).map (·.1))] } ⟨0, 0, 0, none, 0, p', cap', x.qs ++ [nq], x.T⟩ H5 (St.lesses (M := [_, _, _, _]) g8)

theorem mlook_ones {l : List Int} {k : Int} : mlook (l.map fun k => (k, (1 : Int))) k = if k ∈ l then some 1 else none := by
 induction l with
 | nil => rfl
 | cons a l ih =>
  unfold mlook at ih ⊢
  by_cases e : a = k
  ·subst e
   simp
  ·rw [List.map_cons, List.find?_cons_of_neg (by simpa using e), ih]
   simp [Ne.symm e]
theorem mnod_ones {l : List Int} (h : l.Nodup) : mnod (l.map fun k => (k, (1 : Int))) := by
 unfold mnod
 rw [List.map_map]
 have : ((fun p : Int × Int => p.1) ∘ fun k : Int => (k, (1 : Int))) = id := rfl
 rw [this, List.map_id]
 exact h
theorem mput_ones {l : List Int} {k : Int} (h : k ∉ l) : mput (l.map fun k => (k, (1 : Int))) k 1 = (l ++ [k]).map fun k => (k, (1 : Int)) := by
 have : mhas (l.map fun k => (k, (1 : Int))) k = false := by rw [mhas_look, mlook_ones, if_neg h]; rfl
 unfold mput
 rw [this, if_neg (by decide)]
 simp

theorem rcPutC {A1 A2 A3 A4 : Prt} {b4 T : Nat} {w : RcRow} {x : RcX} {q : Int} (h : St H0 (A1 :: A2 :: A3 :: A4 :: Prt.one b4 (.cells #[ptrV x.nb] T (0, 0)) :: (rcOn b hb pb c w x ++ M)) H) (hw : w.ok) (hl : w.waits.length ≤ 1000000)
  (hK : ∀ wp wc H', St H0 (A1 :: A2 :: A3 :: A4 :: Prt.one b4 (.cells #[ptrV x.nb] T (0, 0)) :: (rcOn b hb pb c (rcPut w q) { x with wp := wp, wc := wc } ++ M)) H' → K (.tuple #[]) H') :
  hcall PR f_reach_Reacher_follow_1 ⟨[.int .u64 q, .pointer (some ⟨b4, 0, none⟩)]⟩ H K := by
 apply den_reach_Reacher_follow_1
 unfold B_reach_Reacher_follow_1
 simp only [Za,Zb,Zc,Zd,Zf,Zh,Zi,Zk,Zl,Zm,Zn,Zo,Zp,Zr,Zs,Zx,Zt,Zu,Zy,Zz,Zv,Zw,ZA,ZB,ZC,ZD]
 refine ldP_of (h.cell (i := 4) rfl rfl) ?_
 simp only [Za,Zb,Zc,Zd,Zf,Zh,Zi,Zk,Zl,Zm,Zn,Zo,Zp,Zr,Zs,Zx,Zt,Zu,Zy,Zz,Zv,Zw,ZA,ZB,ZC,ZD]
 refine ldM_of (h.cell (i := 9) rfl rfl) (h.look (i := 10) (l := w.seen.map fun k => (k, (1 : Int))) (enc := Value.int .u64) (f := Value.int .i64) rfl hp_key mi_map me_zero (mnod_ones hw.seen) q false ?_)
 rw [if_neg (by decide), mlook_ones]
 by_cases hs : q ∈ w.seen
 ·rw [if_pos hs]
  have e : rcPut w q = w := by unfold rcPut; rw [if_pos hs]
  rw [e] at hK
  simp only [Option.map_some, Option.getD_some]
  simp only [Za,Zb,Zc,Zd,Zf,Zh,Zi,Zk,Zl,Zm,Zn,Zo,Zp,Zr,Zs,Zx,Zt,Zu,Zy,Zz,Zv,Zw,ZA,ZB,ZC,ZD]
  exact bif_ne (by decide) (hK x.wp x.wc H h)
 ·rw [if_neg hs]
  have e : rcPut w q = { w with seen := w.seen ++ [q], waits := w.waits ++ [q] } := by unfold rcPut; rw [if_neg hs]
  rw [e] at hK
  simp only [Option.map_none, Option.getD_none]
  simp only [Za,Zb,Zc,Zd,Zf,Zh,Zi,Zk,Zl,Zm,Zn,Zo,Zp,Zr,Zs,Zx,Zt,Zu,Zy,Zz,Zv,Zw,ZA,ZB,ZC,ZD]
  refine bif_eq rfl (ldP_of (h.cell (i := 4) rfl rfl) ?_)
  simp only [Za,Zb,Zc,Zd,Zf,Zh,Zi,Zk,Zl,Zm,Zn,Zo,Zp,Zr,Zs,Zx,Zt,Zu,Zy,Zz,Zv,Zw,ZA,ZB,ZC,ZD]
  refine ldM_of (h.cell (i := 9) rfl rfl) (h.mupd (i := 10) (l := w.seen.map fun k => (k, (1 : Int))) (enc := Value.int .u64) (f := Value.int .i64) rfl hp_key mi_map (mnod_ones hw.seen) q 1 rfl fun H1 h1 => ?_)
  rw [mput_ones hs] at h1
  refine ldP_of (h1.cell (i := 4) rfl rfl) (ldP_of (h1.cell (i := 4) rfl rfl) ?_)
  simp only [Za,Zb,Zc,Zd,Zf,Zh,Zi,Zk,Zl,Zm,Zn,Zo,Zp,Zr,Zs,Zx,Zt,Zu,Zy,Zz,Zv,Zw,ZA,ZB,ZC,ZD]
  refine ldSl_of (h1.cell (i := 9) rfl rfl) ?_
  intro b23 hb23
  have h2 := h1.alloc (o := .cells #[.int .u64 q] ty_uint64) hb23
  refine ⟨ldSl_of (h2.cell (i := 10) rfl rfl) rfl, ldP_of (h2.cell (i := 5) rfl rfl) rfl, ldP_of (h2.cell (i := 5) rfl rfl) rfl, ?_⟩
  refine h2.app (i := 13) rfl tu_ty_Suint64 tu_ty_Suint64 ti_ty_uint64 rfl (by decide) (h2.one_rd (i := 0) (n := 1) rfl rfl) (fun z hz => by simp at hz; rcases hz with rfl; rfl) (by omega) fun p' cap' H3 h3 => ?_
  simp only [Za,Zb,Zc,Zd,Zf,Zh,Zi,Zk,Zl,Zm,Zn,Zo,Zp,Zr,Zs,Zx,Zt,Zu,Zy,Zz,Zv,Zw,ZA,ZB,ZC,ZD]
  refine ⟨ldP_of (h3.cell (i := 5) rfl rfl) rfl, ?_⟩
  refine h3.put (i := 9 + 1) rfl (by simp) fun H4 h4 => hK p' cap' H4 ?_
  have e1 : w.waits.map (Value.int .u64) ++ (#[Value.int .u64 q] : Array Value).toList = (w.waits ++ [q]).map (Value.int .u64) := by simp
  have e2 : w.waits.length + 1 = (w.waits ++ [q]).length := by simp
  rw [e1, e2] at h4
  exact h4.less

theorem rcSees_take {u : Int} {l : List Id} {w : RcRow} {m : Nat} (hm : m < l.length) : rcSees s p u w (l.take (m + 1)) = rcSee s p u (rcSees s p u w (l.take m)) (l.getD m noId) := by
 unfold rcSees
 rw [List.take_add_one, List.foldl_append, List.getD_eq_getElem?_getD, List.getElem?_eq_getElem hm]
 rfl

set_option maxRecDepth 20000 in
theorem rcFollowC {w : RcRow} {q : Int} (h : St H0 L H) (hi : L[i]? = some (HeapP hb s)) (hj : L[j]? = some (PaintP pb hb p)) (hk : L[k]? = some (RcP b hb pb c)) (hij : i ≠ j) (hik : i ≠ k) (hjk : j ≠ k) (hn : c.now = some w) (hq : w.waits.getLast? = some q) (hlt : c.lt 900000)
  (hK : ∀ H', St H0 (L.set k (RcP b hb pb { c with now := some (rcFollow s p c.suspect w q) })) H' → K (.tuple #[]) H') : hcall PR f_reach_Reacher_follow ⟨[.pointer (some ⟨b, 0, none⟩)]⟩ H K := by
 have hs := heap_ok h hi
 have hp := paint_ok h hj
 obtain ⟨x, M, g, hf, hM, back⟩ := rcTakeOn h hk hn
 have hi' := hM i _ hi hik
 have hj' := hM j _ hj hjk
 have hw := hf.2.now w hn
 have hwl := hlt.now w hn
 have hne : w.waits ≠ [] := fun e => by rw [e] at hq; cases hq
 have hpos : 0 < w.waits.length := List.length_pos_iff.2 hne
 have hwn := hwl.waits
 apply den_reach_Reacher_follow
 unfold B_reach_Reacher_follow
 simp only [Za,Zb,Zc,Zd,Zf,Zh,Zi,Zk,Zl,Zm,Zn,Zo,Zp,Zr,Zs,Zx,Zt,Zu,Zy,Zz,Zv,Zw,ZA,ZB,ZC,ZD]
 refine ldP_of (g.cell (i := 0) rfl rfl) ?_
 intro b4 hb4
 have g1 := g.alloc (o := .cells #[.pointer none] ty_preach_row) hb4
 refine g1.put (i := 0) rfl (by simp) fun H2 g2 => ?_
 refine ldP_of (g2.cell (i := 0) rfl rfl) ?_
 simp only [Za,Zb,Zc,Zd,Zf,Zh,Zi,Zk,Zl,Zm,Zn,Zo,Zp,Zr,Zs,Zx,Zt,Zu,Zy,Zz,Zv,Zw,ZA,ZB,ZC,ZD]
 refine ldSl_of (g2.cell (i := 5) rfl rfl) (ldP_of (g2.cell (i := 0) rfl rfl) ?_)
 simp only [Za,Zb,Zc,Zd,Zf,Zh,Zi,Zk,Zl,Zm,Zn,Zo,Zp,Zr,Zs,Zx,Zt,Zu,Zy,Zz,Zv,Zw,ZA,ZB,ZC,ZD]
 refine ldSl_of (g2.cell (i := 5) rfl rfl) ?_
 have hw1 : IntKind.i64.wrap ((w.waits.length : Int) - 1) = ((w.waits.length - 1 : Nat) : Int) := by rw [wrap_i64 (by omega) (by omega)]; omega
 rw [hw1]
 have hrow := g2.row_own (i := 8) rfl
 refine idx1 (g := Value.int .u64) (l := w.waits) (d := 0) hrow.rd (by omega) (by omega) fun b1 o1 hpp hc => ldI_of hc ?_
 have hkq : w.waits.getD (((w.waits.length - 1 : Nat) : Int)).toNat 0 = q := by
  rw [Int.toNat_natCast, List.getD_eq_getElem?_getD, ← List.getLast?_eq_getElem?, hq]
  rfl
 rw [hkq]
 refine ldP_of (g2.cell (i := 0) rfl rfl) (ldP_of (g2.cell (i := 0) rfl rfl) ?_)
 simp only [Za,Zb,Zc,Zd,Zf,Zh,Zi,Zk,Zl,Zm,Zn,Zo,Zp,Zr,Zs,Zx,Zt,Zu,Zy,Zz,Zv,Zw,ZA,ZB,ZC,ZD]
 refine ldSl_of (g2.cell (i := 5) rfl rfl) (slc_to (by omega) (by have := hrow.2.1; omega) ?_)
 rw [Int.toNat_natCast]
 (try simp only [Za,Zb,Zc,Zd,Zf,Zh,Zi,Zk,Zl,Zm,Zn,Zo,Zp,Zr,Zs,Zx,Zt,Zu,Zy,Zz,Zv,Zw,ZA,ZB,ZC,ZD])
 have ht := hrow.take (m := w.waits.length - 1) (by omega)
 rw [Nat.mul_one, ← List.map_take, ← List.dropLast_eq_take] at ht
 have hdl : w.waits.length - 1 = w.waits.dropLast.length := by simp
 rw [hdl] at ht ⊢
 have g3 := g2.row_to (i := 8) rfl ht (Goes.refl _ _)
 refine g3.put (i := 5) rfl (by simp) fun H4 g4 => ?_
 obtain ⟨w1, hw1⟩ : ∃ w1 : RcRow, w1 = { w with waits := w.waits.dropLast } := ⟨_, rfl⟩
 have g4 : St H0 (Prt.one b4 (.cells #[ptrV x.nb] ty_preach_row (0, 0)) :: (rcOn b hb pb c w1 x ++ M)) H4 := by rw [hw1]; exact g4
 have hok1 : w1.ok := by rw [hw1]; exact hw.popped
 have hl1 : w1.waits.length ≤ 900000 := by rw [hw1]; simp; omega
 have hfol : ∀ o, hGet s q = some o → rcFollow s p c.suspect w q = rcSees s p c.suspect w1 o.refs := fun o hg => by unfold rcFollow rcRefs; rw [hg, hw1]
 have hfol0 : hGet s q = none → rcFollow s p c.suspect w q = w1 := fun hg => by unfold rcFollow rcRefs; rw [hg, hw1]; rfl
 clear g3 g2 g1 g ht hrow
 -- what is looked at comes back in its place
 have close : ∀ (N : List Prt) (w' : RcRow) (x' : RcX) H', x'.qs = x.qs → w'.ok → St H0 (N ++ (rcOn b hb pb c w' x' ++ M)) H' → St H0 (L.set k (RcP b hb pb { c with now := some w' })) H' := fun N w' x' H' hqs hok' g' => by
  have g5 := St.lesses g'
  have g6 := g5.refact (i := 3) (q := x'.qs.map (·.1) = ({ c with now := some w' } : Rc).rows ∧ ({ c with now := some w' } : Rc).ok) rfl ⟨by rw [hqs]; exact hf.1, hf.2.place, fun w'' hw'' => by cases hw''; exact hok'⟩
  exact back [] { c with now := some w' } x' H' g6
 refine ldP_of (g4.cell (i := 1) rfl rfl) (hObjC g4 (i := i + 9) hi' (fun hg H5 g5 => ?_) fun o hg rp rc vp vc H5 g5 => ?_)
 ·simp only [Za,Zb,Zc,Zd,Zf,Zh,Zi,Zk,Zl,Zm,Zn,Zo,Zp,Zr,Zs,Zx,Zt,Zu,Zy,Zz,Zv,Zw,ZA,ZB,ZC,ZD]
  refine box5 g5 fun b57 H6 g6 => ldSl_of (g6.cell (i := 0) rfl rfl) ?_
  refine ⟨fun t H' => t = 0 ∧ H' = H6, fun _ _ => 0, ⟨rfl, rfl⟩, ?_⟩
  rintro t H' ⟨rfl, rfl⟩
  refine bif_neg (by omega) (hK H' ?_)
  rw [hfol0 hg]
  exact close [_, _] w1 x H' rfl hok1 g6
 ·simp only [Za,Zb,Zc,Zd,Zf,Zh,Zi,Zk,Zl,Zm,Zn,Zo,Zp,Zr,Zs,Zx,Zt,Zu,Zy,Zz,Zv,Zw,ZA,ZB,ZC,ZD]
  refine box5 g5 fun b57 H6 g6 => ldSl_of (g6.cell (i := 0) rfl rfl) ?_
  have hr7 := (hs.obs o (hGet_mem hg).1).refs
  have hWok : ∀ m, (rcSees s p c.suspect w1 (o.refs.take m)).ok := fun m => hok1.sees hp
  have hWl : ∀ m, (rcSees s p c.suspect w1 (o.refs.take m)).waits.length ≤ 1000000 := fun m => by
   have h1 : w1.lt 900000 := by rw [hw1]; exact ⟨hwl.seen, by simp; omega, hwl.outs⟩
   have h2 := (h1.sees (s := s) (p := p) (u := c.suspect) (l := o.refs.take m)).waits
   simp only [List.length_take] at h2
   omega
  refine ⟨fun t H' => ∃ (m : Nat) (wp : Option Addr) (wc : Nat), t = m ∧ m ≤ o.refs.length ∧ St H0 ([Prt.one b57 (.cells #[.int .u64 q, .int .i64 o.cell, .slice rp o.refs.length rc, .slice vp o.vals.length vc, .int .i64 o.din] ty_api_Object (0, 0)), Prt.row 2 rp o.refs.length rc (cel Id.cells o.refs), Prt.row 1 vp o.vals.length vc (o.vals.map (Value.int .u64)), Prt.one b4 (.cells #[ptrV x.nb] ty_preach_row (0, 0))] ++ (rcOn b hb pb c (rcSees s p c.suspect w1 (o.refs.take m)) { x with wp := wp, wc := wc } ++ M)) H',
   fun t _ => (o.refs.length - t).toNat, ⟨0, x.wp, x.wc, rfl, by omega, by rw [List.take_zero]; exact g6⟩, ?_⟩
  clear g6 g5 g4
  rintro t H7 ⟨m, wp, wc, rfl, hm, g7⟩
  have hWokm := hWok m
  have hWlm := hWl m
  by_cases hlt : (m : Int) < (o.refs.length : Int)
  rotate_left
  ·obtain rfl : m = o.refs.length := by omega
   refine bif_neg hlt (hK H7 ?_)
   rw [List.take_length] at g7 hWokm
   rw [hfol o hg]
   exact close [_, _, _, _] _ { x with wp := wp, wc := wc } H7 rfl hWokm g7
  refine bif_pos hlt ?_
  intro R71 hR71
  have hR71 : ∀ wp wc H', St H0 ([Prt.one b57 (.cells #[.int .u64 q, .int .i64 o.cell, .slice rp o.refs.length rc, .slice vp o.vals.length vc, .int .i64 o.din] ty_api_Object (0, 0)), Prt.row 2 rp o.refs.length rc (cel Id.cells o.refs), Prt.row 1 vp o.vals.length vc (o.vals.map (Value.int .u64)), Prt.one b4 (.cells #[ptrV x.nb] ty_preach_row (0, 0))] ++ (rcOn b hb pb c (rcSee s p c.suspect (rcSees s p c.suspect w1 (o.refs.take m)) (o.refs.getD m noId)) { x with wp := wp, wc := wc } ++ M)) H' → R71 H' := fun wp wc H' h' => by
   refine hR71 H' ?_
   rw [wrap_i64 (by omega) (by omega)]
   exact ⟨⟨m + 1, wp, wc, by omega, by omega, by rw [rcSees_take (by omega)]; exact h'⟩, by (try dsimp only); omega⟩
  refine idxS Id.len noId (g7.row_rd (i := 1) rfl) (by omega) (by omega) hlt fun b1 o1 _ hl1 hcc => ?_
  have c0 := hcc 0 (by omega)
  have c1 := hcc 1 (by omega)
  simp only [Za,Zb,Zc,Zd,Zf,Zh,Zi,Zk,Zl,Zm,Zn,Zo,Zp,Zr,Zs,Zx,Zt,Zu,Zy,Zz,Zv,Zw,ZA,ZB,ZC,ZD]
  rw [Int.toNat_natCast] at c0 c1
  generalize rcSees s p c.suspect w1 (o.refs.take m) = W at *
  generalize o.refs.getD m noId = y at *
  refine ldI_of c0 (ldI_of c1 (box2 g7 fun b76 H8 g8 => ?_))
  refine ldI_of (g8.cell (i := 0) rfl rfl) (ldP_of (g8.cell (i := 5) rfl rfl) (hNode g8 (i := i + 13) hi' ?_))
  simp only [Za,Zb,Zc,Zd,Zf,Zh,Zi,Zk,Zl,Zm,Zn,Zo,Zp,Zr,Zs,Zx,Zt,Zu,Zy,Zz,Zv,Zw,ZA,ZB,ZC,ZD]
  refine ⟨ldI_of (g8.cell (i := 0) rfl rfl) rfl, ?_⟩
  by_cases hnode : y.n = s.node
  ·have esee : rcSee s p c.suspect W y = if rcOwn s p c.suspect y.s then rcPut W y.s else W := by unfold rcSee; rw [if_pos hnode]
   rw [esee] at hR71
   refine bif_eq hnode (ldI_of (g8.cell (i := 0) rfl rfl) (rcOwnC (b := b) (u := c.suspect) g8 (i := i + 13) (j := j + 13) hi' hj' (by omega) (fun H' h' => h'.cell (i := 5) rfl rfl) (fun H' h' => h'.cell (i := 5) rfl rfl) fun H9 g9 => ?_))
   simp only [Za,Zb,Zc,Zd,Zf,Zh,Zi,Zk,Zl,Zm,Zn,Zo,Zp,Zr,Zs,Zx,Zt,Zu,Zy,Zz,Zv,Zw,ZA,ZB,ZC,ZD]
   cases hown : rcOwn s p c.suspect y.s
   ·rw [hown] at hR71
    simp only [Zw]
    exact hR71 wp wc H9 g9.less
   ·rw [hown, if_pos rfl] at hR71
    simp only [Zv]
    refine ldI_of (g9.cell (i := 0) rfl rfl) (rcPutC (x := { x with wp := wp, wc := wc }) g9 hWokm hWlm fun wp' wc' H10 g10 => ?_)
    exact hR71 wp' wc' H10 g10.less
  ·have esee : rcSee s p c.suspect W y = if (pMet p y).2 = true ∧ c.suspect < (pMet p y).1 then { W with outs := mput W.outs y 1 } else W := by unfold rcSee; rw [if_neg hnode]
   rw [esee] at hR71
   refine bif_ne hnode (ldP_of (g8.cell (i := 5) rfl rfl) (ldI_of (g8.cell (i := 0) rfl rfl) (ldI_of (g8.cell (i := 0) rfl rfl) (pMetC (y := y) g8 (j := j + 13) hj' fun H9 g9 => ?_))))
   simp only [Za,Zb,Zc,Zd,Zf,Zh,Zi,Zk,Zl,Zm,Zn,Zo,Zp,Zr,Zs,Zx,Zt,Zu,Zy,Zz,Zv,Zw,ZA,ZB,ZC,ZD]
   cases hmet : (pMet p y).2
   ·rw [if_neg (fun hh => by rw [hmet] at hh; cases hh.1)] at hR71
    simp only [Zw]
    exact hR71 wp wc H9 g9.less
   ·simp only [Zv]
    refine ldI_of (g9.cell (i := 5) rfl rfl) ?_
    by_cases hr : (pMet p y).1 > c.suspect
    ·rw [if_pos ⟨hmet, hr⟩] at hR71
     refine bif_pos hr (ldP_of (g9.cell (i := 4) rfl rfl) ?_)
     simp only [Za,Zb,Zc,Zd,Zf,Zh,Zi,Zk,Zl,Zm,Zn,Zo,Zp,Zr,Zs,Zx,Zt,Zu,Zy,Zz,Zv,Zw,ZA,ZB,ZC,ZD]
     refine ldM_of (g9.cell (i := 9) rfl rfl) (ldI_of (g9.cell (i := 0) rfl rfl) (ldI_of (g9.cell (i := 0) rfl rfl) (g9.mupd (i := 11) (l := W.outs) (enc := Id.val) (f := Value.int .i64) rfl idKey me_map hWokm.outs y 1 rfl fun H10 g10 => ?_)))
     exact hR71 wp wc H10 g10.less
    ·rw [if_neg (fun hh => hr hh.2)] at hR71
     exact bif_neg hr (hR71 wp wc H9 g9.less)

set_option maxRecDepth 20000 in
theorem rcStepC (h : St H0 L H) (hi : L[i]? = some (HeapP hb s)) (hj : L[j]? = some (PaintP pb hb p)) (hk : L[k]? = some (RcP b hb pb c)) (hij : i ≠ j) (hik : i ≠ k) (hjk : j ≠ k) (hlt : c.lt 800000)
  (hK : ∀ H', St H0 (L.set k (RcP b hb pb (rcStep s p c).2)) H' → K (.bool (rcStep s p c).1) H') : hcall PR f_reach_Reacher_Step ⟨[.pointer (some ⟨b, 0, none⟩)]⟩ H K := by
 apply den_reach_Reacher_Step
 unfold B_reach_Reacher_Step
 have hkl := ltOfGet hk
 have hlt' := hlt.mono (m := 900000) (by omega)
 -- the next object
 intro R2 hR2
 have hR2 : ((∀ w, c.now = some w → w.waits.getLast? = none) → R2 H) := fun hno => by
  have e : rcStep s p c = rcNext s p c := by
   unfold rcStep
   cases hn : c.now with
   | none => rfl
   | some w => simp only [hno w hn]
  rw [e] at hK
  refine hR2 H ?_
  clear hR2
  simp only [Za,Zb,Zc,Zd,Zf,Zh,Zi,Zk,Zl,Zm,Zn,Zo,Zp,Zr,Zs,Zx,Zt,Zu,Zy,Zz,Zv,Zw,ZA,ZB,ZC,ZD]
  have hc := rc_ok h hk
  -- cells of the reacher itself, and its place written
  have cells : ∃ T nv rv, (∀ (N : List Prt) H', St H0 (N ++ L) H' → hcell H' ⟨b, 0, none⟩ = some (ptrV hb) ∧ hcell H' ⟨b, 1, none⟩ = some (ptrV pb) ∧ hcell H' ⟨b, 2, none⟩ = some (.int .i64 c.suspect) ∧ hcell H' ⟨b, 3, none⟩ = some (.int .u64 c.place)) ∧ T = nv ∧ nv = rv := ⟨0, 0, 0, fun N H' h' => by
   have hk' : (N ++ L)[N.length + k]? = some (RcP b hb pb c) := by rw [List.getElem?_append_right (by omega), Nat.add_sub_cancel_left]; exact hk
   cases hn : c.now with
   | none =>
    obtain ⟨x, M, g, _, _, _⟩ := rcTakeOff h' hk' hn
    exact ⟨g.cell (i := 0) rfl rfl, g.cell (i := 0) rfl rfl, g.cell (i := 0) rfl rfl, g.cell (i := 0) rfl rfl⟩
   | some w =>
    obtain ⟨x, M, g, _, _, _⟩ := rcTakeOn h' hk' hn
    exact ⟨g.cell (i := 0) rfl rfl, g.cell (i := 0) rfl rfl, g.cell (i := 0) rfl rfl, g.cell (i := 0) rfl rfl⟩, rfl, rfl⟩
  obtain ⟨_, _, _, cells, _, _⟩ := cells
  have c0 := cells [] H h
  refine ldP_of c0.1 (ldI_of c0.2.2.2 (hNextC h hi fun H1 h1 => ?_))
  simp only [Za,Zb,Zc,Zd,Zf,Zh,Zi,Zk,Zl,Zm,Zn,Zo,Zp,Zr,Zs,Zx,Zt,Zu,Zy,Zz,Zv,Zw,ZA,ZB,ZC,ZD]
  unfold rcNext at hK
  cases hnx : (hNext s c.place).2
  ·rw [hnx, if_pos rfl] at hK
   simp only [Bool.not_false, Zv]
   refine rcEndC h1 hk hlt' fun H2 h2 => ?_
   simp only [Za,Zb,Zc,Zd,Zf,Zh,Zi,Zk,Zl,Zm,Zn,Zo,Zp,Zr,Zs,Zx,Zt,Zu,Zy,Zz,Zv,Zw,ZA,ZB,ZC,ZD]
   exact hK H2 h2
  ·rw [hnx, if_neg (by decide)] at hK
   simp only [Bool.not_true, Zw]
   obtain ⟨q, hq⟩ : ∃ q, q = (hNext s c.place).1 := ⟨_, rfl⟩
   rw [← hq] at hK ⊢
   have hqr := hNext_pos (heap_ok h hi) hnx
   rw [← hq] at hqr
   have hpl := hc.place
   obtain ⟨c1, hc1⟩ : ∃ c1 : Rc, c1 = { c with place := q } := ⟨_, rfl⟩
   have hlt1 : c1.lt 900000 := by rw [hc1]; exact ⟨hlt'.now, hlt'.rows, hlt'.outs⟩
   have put : ∀ (Q : Hp → Prop), (∀ H', St H0 (L.set k (RcP b hb pb c1)) H' → Q H') → Go.Proofs.YtflfodcemnapeaaGreat.st ⟨b, 3, none⟩ (.int .u64 q) H1 Q := fun Q hQ => by
    have hok1 : c1.ok := by rw [hc1]; exact ⟨by show 0 ≤ q; omega, hc.now⟩
    cases hn : c.now with
    | none =>
     obtain ⟨x, M, g, hf, _, back⟩ := rcTakeOff h1 hk hn
     refine g.put (i := 0) rfl (by simp) fun H2 g2 => hQ H2 ?_
     have g3 := g2.refact (i := 3) (q := x.qs.map (·.1) = c1.rows ∧ c1.ok) rfl ⟨by rw [hc1]; exact hf.1, hok1⟩
     refine back [] c1 x H2 ?_
     have e : rcParts b hb pb c1 x = rcOff b hb pb c1 x := by unfold rcParts; rw [show c1.now = none by rw [hc1]; exact hn]
     rw [e]
     subst hc1
     exact g3
    | some w =>
     obtain ⟨x, M, g, hf, _, back⟩ := rcTakeOn h1 hk hn
     refine g.put (i := 0) rfl (by simp) fun H2 g2 => hQ H2 ?_
     have g3 := g2.refact (i := 3) (q := x.qs.map (·.1) = c1.rows ∧ c1.ok) rfl ⟨by rw [hc1]; exact hf.1, hok1⟩
     refine back [] c1 x H2 ?_
     have e : rcParts b hb pb c1 x = rcOn b hb pb c1 w x := by unfold rcParts; rw [show c1.now = some w by rw [hc1]; exact hn]
     rw [e]
     subst hc1
     exact g3
   refine put _ fun H2 h2 => ?_
   have gi : (L.set k (RcP b hb pb c1))[i]? = some (HeapP hb s) := by rw [List.getElem?_set_ne (Ne.symm hik)]; exact hi
   have gj : (L.set k (RcP b hb pb c1))[j]? = some (PaintP pb hb p) := by rw [List.getElem?_set_ne (Ne.symm hjk)]; exact hj
   have gk : (L.set k (RcP b hb pb c1))[k]? = some (RcP b hb pb c1) := by simp [hkl]
   have cells' : ∀ (N : List Prt) H', St H0 (N ++ L.set k (RcP b hb pb c1)) H' → hcell H' ⟨b, 0, none⟩ = some (ptrV hb) ∧ hcell H' ⟨b, 1, none⟩ = some (ptrV pb) ∧ hcell H' ⟨b, 2, none⟩ = some (.int .i64 c1.suspect) := fun N H' h' => by
    have hk' : (N ++ L.set k (RcP b hb pb c1))[N.length + k]? = some (RcP b hb pb c1) := by rw [List.getElem?_append_right (by omega), Nat.add_sub_cancel_left]; exact gk
    cases hn : c1.now with
    | none =>
     obtain ⟨x, M, g, _, _, _⟩ := rcTakeOff h' hk' hn
     exact ⟨g.cell (i := 0) rfl rfl, g.cell (i := 0) rfl rfl, g.cell (i := 0) rfl rfl⟩
    | some w =>
     obtain ⟨x, M, g, _, _, _⟩ := rcTakeOn h' hk' hn
     exact ⟨g.cell (i := 0) rfl rfl, g.cell (i := 0) rfl rfl, g.cell (i := 0) rfl rfl⟩
   have hset : ∀ c' : Rc, (L.set k (RcP b hb pb c1)).set k (RcP b hb pb c') = L.set k (RcP b hb pb c') := fun c' => List.set_set _
   have hu : c1.suspect = c.suspect := by rw [hc1]
   rw [show ({ c with place := q } : Rc) = c1 from hc1.symm] at hK
   refine ldP_of (cells' [] H2 h2).1 (hObjC h2 gi (fun hg H3 h3 => ?_) fun o hg rp rc vp vc H3 h3 => ?_)
   ·simp only [Za,Zb,Zc,Zd,Zf,Zh,Zi,Zk,Zl,Zm,Zn,Zo,Zp,Zr,Zs,Zx,Zt,Zu,Zy,Zz,Zv,Zw,ZA,ZB,ZC,ZD]
    rw [hg] at hK
    refine box5 h3 fun b46 H4 h4 => ldI_of (h4.cell (i := 0) rfl rfl) (bif_neg (by omega) (hK H4 h4.less))
   ·simp only [Za,Zb,Zc,Zd,Zf,Zh,Zi,Zk,Zl,Zm,Zn,Zo,Zp,Zr,Zs,Zx,Zt,Zu,Zy,Zz,Zv,Zw,ZA,ZB,ZC,ZD]
    rw [hg] at hK
    simp only at hK
    refine box5 h3 fun b46 H4 h4 => ldI_of (h4.cell (i := 0) rfl rfl) ?_
    by_cases hd : o.din > 0
    rotate_left
    ·rw [if_neg (fun hh => hd hh.1)] at hK
     exact bif_neg hd (hK H4 (St.lesses (M := [_, _, _]) h4))
    refine bif_pos hd (rcOwnC (b := b) (u := c1.suspect) h4 (i := i + 3) (j := j + 3) gi gj (by omega) (fun H' h' => (cells' [_, _, _] H' h').2.1) (fun H' h' => (cells' [_, _, _] H' h').2.2) fun H5 h5 => ?_)
    simp only [Za,Zb,Zc,Zd,Zf,Zh,Zi,Zk,Zl,Zm,Zn,Zo,Zp,Zr,Zs,Zx,Zt,Zu,Zy,Zz,Zv,Zw,ZA,ZB,ZC,ZD]
    rw [hu]
    cases hown : rcOwn s p c.suspect q
    ·rw [hown, if_neg (fun hh => by cases hh.2)] at hK
     simp only [Zw]
     exact hK H5 (St.lesses (M := [_, _, _]) h5)
    ·rw [hown, if_pos ⟨hd, rfl⟩] at hK
     simp only [Zv]
     have h6 := St.lesses (M := [_, _, _]) h5
     refine rcEndC h6 gk hlt1 fun H7 h7 => ?_
     rw [hset] at h7
     simp only [Za,Zb,Zc,Zd,Zf,Zh,Zi,Zk,Zl,Zm,Zn,Zo,Zp,Zr,Zs,Zx,Zt,Zu,Zy,Zz,Zv,Zw,ZA,ZB,ZC,ZD]
     intro b60 hb60
     have h8 := h7.mpNew hb60
     refine St.mupd h8 (i := 0) (l := ([] : List (Int × Int))) (enc := Value.int .u64) (f := Value.int .i64) rfl hp_key mi_map List.nodup_nil q 1 rfl fun H9 h9 => ?_
     have h9 : St H0 (Prt.mp b60 (ments (Value.int .u64) (Value.int .i64) ([q].map fun k => (k, (1 : Int)))) :: L.set k (RcP b hb pb (rcEnd c1))) H9 := h9
     intro b64 hb64
     have h10 := h9.row (Own.new (b := b64) (k := 1) (n := 1) (c := #[.int .u64 q]) (e := ty_uint64) rfl) ((Goes.alloc hb64).less fun c hc => by obtain ⟨a, ha, e⟩ := hc; cases ha; exact e.symm)
     intro b66 hb66
     have h11 := h10.mpNew hb66
     intro b68 hb68
     have h12 := h11.alloc (o := .cells #[.int .u64 q, .map (some b60), .slice (some ⟨b64, 0, none⟩) 1 1, .map (some b66)] ty_reach_row) hb68
     -- the reacher has none under way; it takes this one
     have hn0 : (rcEnd c1).now = none := rcEnd_now
     have hk12 : (Prt.one b68 (.cells #[.int .u64 q, .map (some b60), .slice (some ⟨b64, 0, none⟩) 1 1, .map (some b66)] ty_reach_row (0, 0)) :: Prt.mp b66 [] :: Prt.row 1 (some ⟨b64, 0, none⟩) 1 1 [.int .u64 q] :: Prt.mp b60 (ments (Value.int .u64) (Value.int .i64) ([q].map fun k => (k, (1 : Int)))) :: L.set k (RcP b hb pb (rcEnd c1)))[k + 4]? = some (RcP b hb pb (rcEnd c1)) := by simp [hkl]
     have h12 : St H0 (Prt.one b68 (.cells #[.int .u64 q, .map (some b60), .slice (some ⟨b64, 0, none⟩) 1 1, .map (some b66)] ty_reach_row (0, 0)) :: Prt.mp b66 [] :: Prt.row 1 (some ⟨b64, 0, none⟩) 1 1 [.int .u64 q] :: Prt.mp b60 (ments (Value.int .u64) (Value.int .i64) ([q].map fun k => (k, (1 : Int)))) :: L.set k (RcP b hb pb (rcEnd c1))) _ := h12
     obtain ⟨x, h13⟩ := h12.openEx (M := rcParts b hb pb (rcEnd c1)) hk12
     have e0 : rcParts b hb pb (rcEnd c1) x = rcOff b hb pb (rcEnd c1) x := by unfold rcParts; rw [hn0]
     rw [e0] at h13
     have hf := h13.fact (i := 3) (p := x.qs.map (·.1) = (rcEnd c1).rows ∧ (rcEnd c1).ok) rfl
     refine h13.put (i := 0) rfl (by simp) fun H14 h14 => hK H14 ?_
     have hok2 : ({ rcEnd c1 with now := some ⟨q, [q], [q], []⟩ } : Rc).ok := ⟨hf.2.place, fun w hw => by
      cases hw
      exact ⟨by simp, fun k hk => hk, List.nodup_nil, fun e he => by cases he⟩⟩
     have h15 := h14.refact (i := 3) (q := x.qs.map (·.1) = ({ rcEnd c1 with now := some ⟨q, [q], [q], []⟩ } : Rc).rows ∧ ({ rcEnd c1 with now := some ⟨q, [q], [q], []⟩ } : Rc).ok) rfl ⟨hf.1, hok2⟩
     have h16 := h15.pick 8 [0, 1, 2, 3, 4, 7, 5, 6] rfl rfl
     have h17 : St H0 (rcParts b hb pb { rcEnd c1 with now := some ⟨q, [q], [q], []⟩ } ⟨b68, b60, b66, some ⟨b64, 0, none⟩, 1, x.rp, x.rc, x.qs, x.T⟩ ++ (L.set k (RcP b hb pb (rcEnd c1))).set k .nil) H14 := h16
     have h18 := St.shutEx (L' := L.set k (RcP b hb pb (rcEnd c1))) (M := rcParts b hb pb { rcEnd c1 with now := some ⟨q, [q], [q], []⟩ }) _ h17 (B := RcP b hb pb (rcEnd c1)) (by simp [hkl])
     rw [List.set_set] at h18
     exact h18
 simp only [Za,Zb,Zc,Zd,Zf,Zh,Zi,Zk,Zl,Zm,Zn,Zo,Zp,Zr,Zs,Zx,Zt,Zu,Zy,Zz,Zv,Zw,ZA,ZB,ZC,ZD]
 cases hn : c.now with
 | none =>
  obtain ⟨x, M, g, _, _, _⟩ := rcTakeOff h hk hn
  refine ldP_of (g.cell (i := 0) rfl rfl) ?_
  exact hR2 fun w hw => by rw [hn] at hw; cases hw
 | some w =>
  obtain ⟨x, M, g, _, _, _⟩ := rcTakeOn h hk hn
  refine ldP_of (g.cell (i := 0) rfl rfl) ?_
  simp only [ptrV, Option.isNone_some, Bool.not_false, Zv]
  refine ldP_of (g.cell (i := 0) rfl rfl) ?_
  simp only [Za,Zb,Zc,Zd,Zf,Zh,Zi,Zk,Zl,Zm,Zn,Zo,Zp,Zr,Zs,Zx,Zt,Zu,Zy,Zz,Zv,Zw,ZA,ZB,ZC,ZD]
  refine ldSl_of (g.cell (i := 4) rfl rfl) ?_
  cases hq : w.waits.getLast? with
  | none =>
   have := List.getLast?_eq_none_iff.1 hq
   refine bif_neg (by rw [this]; simp) (hR2 fun w' hw' => by rw [hn] at hw'; cases hw'; exact hq)
  | some q =>
   have hne : w.waits ≠ [] := fun e => by rw [e] at hq; cases hq
   have hpos : 0 < w.waits.length := List.length_pos_iff.2 hne
   have e : rcStep s p c = (true, { c with now := some (rcFollow s p c.suspect w q) }) := by unfold rcStep; rw [hn]; simp only [hq]
   rw [e] at hK
   refine bif_pos (by omega) (rcFollowC h hi hj hk hij hik hjk hn hq hlt' fun H1 h1 => ?_)
   exact hK H1 h1

/-! ## Rows that are told -/
/-- Rows, in memory of one's own. -/
def RowsP (q : Option Addr) (cap : Nat) (rows : List (Int × List Id)) : Prt := Prt.ex fun qs : List RcQ => Prt.list [Prt.row 2 q qs.length cap (cel rcRowC qs), Prt.list (qs.map rcRowP), Prt.pure (qs.map (·.1) = rows)]
/-- How rows read. -/
def RowsV (H : Hp) (q : Option Addr) (rows : List (Int × List Id)) (qs : List RcQ) : Prop := qs.map (·.1) = rows ∧ Rd H 2 q qs.length (cel rcRowC qs) ∧ ∀ r ∈ qs, Rd H 2 r.2.1 r.1.2.length (cel Id.cells r.1.2)
theorem RowsV.len {q : Option Addr} {rows : List (Int × List Id)} {qs : List RcQ} (v : RowsV H q rows qs) : qs.length = rows.length := by rw [← v.1, List.length_map]
theorem RowsV.st {q : Option Addr} {rows : List (Int × List Id)} {qs : List RcQ} (v : RowsV H0 q rows qs) (h : St H0 L H) : RowsV H q rows qs := ⟨v.1, h.rd v.2.1, fun r hr => h.rd (v.2.2 r hr)⟩
theorem rowsRd (h : St H0 L H) {qs : List RcQ} (hi : L[i]? = some (Prt.list (qs.map rcRowP))) : ∀ r ∈ qs, Rd H 2 r.2.1 r.1.2.length (cel Id.cells r.1.2) := fun r hr => by
 obtain ⟨m, hm, rfl⟩ := List.mem_iff_getElem.1 hr
 have h1 := h.sub (k := m) (A := rcRowP qs[m]) hi (by rw [List.getElem?_map, List.getElem?_eq_getElem hm]; rfl)
 exact h1.row_rd (i := 0) rfl
theorem rowsV (h : St H0 L H) {q : Option Addr} {cap : Nat} {rows : List (Int × List Id)} (hi : L[i]? = some (RowsP q cap rows)) : ∃ qs, RowsV H q rows qs := by
 obtain ⟨qs, h1⟩ := h.openEx hi
 exact ⟨qs, h1.fact (i := 2) rfl, h1.row_rd (i := 0) rfl, rowsRd h1 (i := 1) rfl⟩
theorem rcRowsV (h : St H0 L H) (hk : L[k]? = some (RcP b hb pb c)) : ∃ q n qs, hcell H ⟨b, 5, none⟩ = some (.slice q c.rows.length n) ∧ RowsV H q c.rows qs := by
 have key : ∀ (x : RcX) (N : List Prt) (T : Nat) (v : Value), x.qs.map (·.1) = c.rows → St H0 (Prt.one b (.cells #[ptrV hb, ptrV pb, .int .i64 c.suspect, .int .u64 c.place, v, .slice x.rp x.qs.length x.rc] T (0, 0)) :: Prt.row 2 x.rp x.qs.length x.rc (cel rcRowC x.qs) :: Prt.list (x.qs.map rcRowP) :: N) H → ∃ q n qs, hcell H ⟨b, 5, none⟩ = some (.slice q c.rows.length n) ∧ RowsV H q c.rows qs := fun x N T v hq g => by
  refine ⟨x.rp, x.rc, x.qs, ?_, hq, g.row_rd (i := 1) rfl, rowsRd g (i := 2) rfl⟩
  rw [← hq, List.length_map]
  exact g.cell (i := 0) rfl rfl
 cases hn : c.now with
 | none =>
  obtain ⟨x, M, g, hf, _, _⟩ := rcTakeOff h hk hn
  exact key x _ _ _ hf.1 g
 | some w =>
  obtain ⟨x, M, g, hf, _, _⟩ := rcTakeOn h hk hn
  exact key x _ _ _ hf.1 g

theorem rcRowsC (h : St H0 L H) (hk : L[k]? = some (RcP b hb pb c)) (hlt : c.lt 900000) (hK : ∀ q n H', St H0 (RowsP q n c.rows :: L) H' → K (.slice q c.rows.length n) H') :
  hcall PR f_reach_Reacher_Rows ⟨[.pointer (some ⟨b, 0, none⟩)]⟩ H K := by
 obtain ⟨q, n, qs, hcell5, v⟩ := rcRowsV h hk
 apply den_reach_Reacher_Rows
 unfold B_reach_Reacher_Rows
 simp only [Za,Zb,Zc,Zd,Zf,Zh,Zi,Zk,Zl,Zm,Zn,Zo,Zp,Zr,Zs,Zx,Zt,Zu,Zy,Zz,Zv,Zw,ZA,ZB,ZC,ZD]
 have hl := hlt.rows
 have hqs := v.len
 refine ldSl_of hcell5 ?_
 have h0 := ((St.start H).saynil).row (H' := _) (Own.nil 2) ((Goes.refl Nothing _).less fun c hc => absurd hc blk_none)
 refine ⟨fun oP oL oC t H' => ∃ (y : Nat) (ns : List RcQ), t = y ∧ y ≤ c.rows.length ∧ oL = ns.length ∧ ns.map (·.1) = c.rows.take y ∧ St H [Prt.row 2 oP ns.length oC (cel rcRowC ns), Prt.list (ns.map rcRowP)] H', fun _ _ _ t _ => ((c.rows.length : Int) - t).toNat,
  ⟨0, [], rfl, by omega, rfl, rfl, ?_⟩, ?_⟩
 ·exact (St.gather (M := []) (L := []) (St.start H)).row (Own.nil 2) ((Goes.refl Nothing _).less fun c hc => absurd hc blk_none)
 clear h0
 rintro oP oL oC t H1 ⟨y, ns, rfl, hy, rfl, hns, h1⟩
 have hnl : ns.length = y := by
  have := congrArg List.length hns
  rw [List.length_map, List.length_take] at this
  omega
 by_cases hc : (y : Int) < ((c.rows.length : Nat) : Int)
 rotate_left
 ·obtain rfl : y = c.rows.length := by omega
  refine bif_neg hc ?_
  rw [List.take_length] at hns
  have h2 := h1.say (p := ns.map (·.1) = c.rows) hns
  have h3 := h2.pick 3 [1, 2, 0] rfl rfl
  have h4 := h.join h3
  rw [show ns.length = c.rows.length from hnl] at h4 ⊢
  exact hK oP oC H1 (St.gatherEx (M := fun qs : List RcQ => [Prt.row 2 oP qs.length oC (cel rcRowC qs), Prt.list (qs.map rcRowP), Prt.pure (qs.map (·.1) = c.rows)]) ns (by rw [hnl]; exact h4))
 refine bif_pos hc ?_
 have hyl : y < qs.length := by omega
 have v1 := v.st h1
 have hq5 : qs.length = c.rows.length := hqs
 rw [← hqs]
 refine idxS rcRowC_len ((0, []), (none, 0)) v1.2.1 (by omega) (by omega) (by omega) fun bb oo _ hl1 hcc => ?_
 have c0 := hcc 0 (by omega)
 have c1 := hcc 1 (by omega)
 rw [Int.toNat_natCast] at c0 c1
 have hgd : qs.getD y ((0, []), (none, 0)) = qs[y] := by rw [List.getD_eq_getElem?_getD, List.getElem?_eq_getElem hyl]; rfl
 rw [hgd] at c0 c1
 obtain ⟨r, hr⟩ : ∃ r, r = qs[y] := ⟨_, rfl⟩
 rw [← hr] at c0 c1
 have hrm : r ∈ qs := by rw [hr]; exact List.getElem_mem hyl
 have hrr : r.1 ∈ c.rows := by rw [← v.1]; exact List.mem_map.2 ⟨r, hrm, rfl⟩
 have hrl := hlt.outs _ hrr
 have hry : c.rows[y]? = some r.1 := by rw [← v.1, List.getElem?_map, List.getElem?_eq_getElem hyl, hr]; rfl
 simp only [Za,Zb,Zc,Zd,Zf,Zh,Zi,Zk,Zl,Zm,Zn,Zo,Zp,Zr,Zs,Zx,Zt,Zu,Zy,Zz,Zv,Zw,ZA,ZB,ZC,ZD]
 refine ldI_of c0 (ldSl_of c1 ?_)
 intro b18 hb18
 have h2 := h1.alloc (o := .cells #[.int .u64 0, .slice none 0 0] ty_api_Reach) hb18
 refine h2.put (i := 0) rfl (by simp) fun H3 h3 => h3.put (i := 0) rfl (by simp) fun H4 h4 => ?_
 refine ldI_of (h4.cell (i := 0) rfl rfl) (ldSl_of (h4.cell (i := 0) rfl rfl) ?_)
 intro b26 hb26
 have h5 := h4.alloc (o := .cells #[] ty_api_ID) hb26
 refine ⟨ldSl_of (h5.cell (i := 1) rfl rfl) rfl, ldI_of (h5.cell (i := 1) rfl rfl) rfl, ?_⟩
 refine h5.copy (i := 0) rfl tu_ty_Sapi_ID tu_ty_Sapi_ID ti_ty_api_ID rfl (by decide) ((v.st h5).2.2 r hrm) (fun z hz => by
  unfold cel at hz
  rw [List.mem_flatten] at hz
  obtain ⟨l, hl, hz⟩ := hz
  obtain ⟨a, _, rfl⟩ := List.mem_map.1 hl
  simp [Id.cells] at hz
  rcases hz with rfl | rfl <;> rfl) (by omega) fun p' cap' H6 h6 => ?_
 simp only [Za,Zb,Zc,Zd,Zf,Zh,Zi,Zk,Zl,Zm,Zn,Zo,Zp,Zr,Zs,Zx,Zt,Zu,Zy,Zz,Zv,Zw,ZA,ZB,ZC,ZD]
 refine ⟨ldI_of (h6.cell (i := 1) rfl rfl) rfl, ?_⟩
 refine lit_ty_Sapi_Reach (m := 1) (c := #[.int .u64 r.1.1, .slice p' r.1.2.length cap']) (h6.row_own (i := 2) rfl) rfl (fun z hz => by simp at hz; rcases hz with rfl | rfl <;> rfl) (by omega) fun q' cap2 H7 ho' hg' => ?_
 simp only [Za,Zb,Zc,Zd,Zf,Zh,Zi,Zk,Zl,Zm,Zn,Zo,Zp,Zr,Zs,Zx,Zt,Zu,Zy,Zz,Zv,Zw,ZA,ZB,ZC,ZD]
 have h7 := h6.row_to (i := 2) rfl ho' hg'
 obtain ⟨nq, hnq⟩ : ∃ nq : RcQ, nq = (r.1, (p', cap')) := ⟨_, rfl⟩
 have e1 : cel rcRowC ns ++ (#[Value.int .u64 r.1.1, .slice p' r.1.2.length cap'] : Array Value).toList = cel rcRowC (ns ++ [nq]) := by rw [cel_append, hnq]; rfl
 have e2 : ns.length + 1 = (ns ++ [nq]).length := by simp
 rw [e1, e2] at h7
 rw [e2]
 have h8 := h7.flip.less
 have h9 := St.push (i := 1) (A := rcRowP nq) (M := ns.map rcRowP) (by rw [hnq]; exact h8) rfl
 rw [show ns.map rcRowP ++ [rcRowP nq] = (ns ++ [nq]).map rcRowP by simp] at h9
 rw [wrap_i64 (by omega) (by omega)]
 refine ⟨⟨y + 1, ns ++ [nq], by omega, by omega, rfl, ?_, h9⟩, by (try dsimp only); omega⟩
 rw [List.map_append, hns, List.take_add_one, hry, hnq]
 rfl
end
end Go.Proofs.YtflfodcemnapeaaGreat

namespace Go.Proofs.YtflfodcemnapeaaGreat
set_option linter.unusedSimpArgs false
set_option linter.unusedVariables false
open Go
def idOf (e : Id × Int) : List Value := Id.cells e.1
theorem idOf_len (e : Id × Int) : (idOf e).length = 2 := rfl
theorem one_idOf {l : List (Id × Int)} : ∀ y ∈ cel idOf l, one y = true := by
 intro y hy
 unfold cel at hy
 rw [List.mem_flatten] at hy
 obtain ⟨xs, hx, hy⟩ := hy
 obtain ⟨z, _, rfl⟩ := List.mem_map.1 hx
 simp [idOf, Id.cells] at hy
 rcases hy with rfl | rfl <;> rfl
theorem cel_idOf {l : List (Id × Int)} : cel idOf l = cel Id.cells (l.map (·.1)) := by
 unfold cel
 rw [List.map_map]
 rfl
structure RrX where
 in_ : Int
 seen : List Int
 waits : List Int
 t : List (Id × Int)
 rp : Option Addr
 rc : Nat
 sp : Option Addr
 sc : Nat
 wp : Option Addr
 wc : Nat
 kp : Option Addr
 kc : Nat
 vp : Option Addr
 vc : Nat
 T : Nat
/-- The document's reacher: its block, its rows; what is known of it. -/
def rrP (b rb qb : Nat) (u place : Int) (rows : List (Int × List Id)) (un : Bool) (x : RrX) (F : Prop) : List Prt :=
 [Prt.one b (.cells #[ptrV rb, ptrV qb, .slice x.rp rows.length x.rc, .int .u64 place, .int .i64 u, .bool un, .int .u64 x.in_, .slice x.sp x.seen.length x.sc, .slice x.wp x.waits.length x.wc, .int .i64 1048576, .slice x.kp x.t.length x.kc, .slice x.vp x.t.length x.vc] x.T (0, 0)),
  Prt.row 1 x.sp x.seen.length x.sc (x.seen.map (Value.int .u64)), Prt.row 1 x.wp x.waits.length x.wc (x.waits.map (Value.int .u64)), Prt.row 1 x.kp x.t.length x.kc (x.t.map fun e => Value.int .u64 (keyOf e.1)), Prt.row 2 x.vp x.t.length x.vc (cel idOf x.t),
  RowsP x.rp x.rc rows, Prt.pure F]
/-- A row under way. -/
structure RrW (w : RcRow) (x : RrX) : Prop where
 in_ : x.in_ = w.in_
 seen : x.seen = w.seen
 waits : x.waits = w.waits
 keyed : keyed x.t
 perm : x.t.Perm w.outs
def RrOk (c : Rc) (x : RrX) : Prop := c.ok ∧ match c.now with | none => x.waits = [] | some w => RrW w x
def RRc (b rb qb : Nat) (c : Rc) : Prt := Prt.ex fun x => Prt.list (rrP b rb qb c.suspect c.place c.rows c.now.isSome x (RrOk c x))

section
variable {H0 H : Hp} {L M : List Prt} {i j k b rb qb : Nat} {s : Hs} {p : Ps} {c : Rc} {x : RrX} {u pl : Int} {rows : List (Int × List Id)} {un : Bool} {F : Prop} {K : Value → Hp → Prop}
theorem rrTake (h : St H0 L H) (hk : L[k]? = some (RRc b rb qb c)) : ∃ x M, St H0 (rrP b rb qb c.suspect c.place c.rows c.now.isSome x (RrOk c x) ++ M) H ∧ RrOk c x ∧ (∀ i A, L[i]? = some A → i ≠ k → M[i]? = some A) ∧ ∀ N c' x' H', St H0 (N ++ (rrP b rb qb c'.suspect c'.place c'.rows c'.now.isSome x' (RrOk c' x') ++ M)) H' → St H0 (N ++ L.set k (RRc b rb qb c')) H' := by
 obtain ⟨x, h1⟩ := h.openEx (M := fun x => rrP b rb qb c.suspect c.place c.rows c.now.isSome x (RrOk c x)) hk
 refine ⟨x, _, h1, h1.fact (i := 6) rfl, fun i A hi hij => ?_, fun N c' x' H' h' => St.shutExN (A := fun x => rrP b rb qb c'.suspect c'.place c'.rows c'.now.isSome x (RrOk c' x)) (N := N) x' h' hk⟩
 rw [List.getElem?_set_ne (Ne.symm hij)]
 exact hi
/-- It begins. -/
theorem rrBeginC {q1 q2 v1 v2 v3 v4 v5 v6 v7 v8 v9 v10 : Value} {T : Nat} (h : St H0 L H) (hk : L[k]? = some (Prt.one b (.cells #[ptrV rb, ptrV qb, v1, v2, v3, v4, v5, v6, v7, v8, v9, v10] T (0, 0)))) (hK : ∀ H', St H0 (L.set k (RRc b rb qb (rcNew u))) H' → K (.tuple #[]) H') :
  hcall PR f_ref11_Reacher_Begin ⟨[.pointer (some ⟨b, 0, none⟩), .int .i64 u]⟩ H K := by
 apply den_ref11_Reacher_Begin
 unfold B_ref11_Reacher_Begin
 have g0 : St H0 (Prt.one b (.cells #[ptrV rb, ptrV qb, v1, v2, v3, v4, v5, v6, v7, v8, v9, v10] T (0, 0)) :: L.set k .nil) H := by
  obtain ⟨F, hl, g⟩ := h
  exact ⟨F, (Prt.list_set_nil hk).1 hl, g⟩
 generalize hLL : L.set k .nil = LL at g0
 (try simp only [Za,Zb,Zc,Zd,Zf,Zh,Zi,Zk,Zl,Zm,Zn,Zo,Zp,Zr,Zs,Zx,Zt,Zu,Zy,Zz,Zv,Zw,ZA,ZB,ZC,ZD])
 refine ldP_of (g0.cell (i := 0) rfl rfl) (ldP_of (g0.cell (i := 0) rfl rfl) ?_)
 (try simp only [Za,Zb,Zc,Zd,Zf,Zh,Zi,Zk,Zl,Zm,Zn,Zo,Zp,Zr,Zs,Zx,Zt,Zu,Zy,Zz,Zv,Zw,ZA,ZB,ZC,ZD])
 refine g0.put (i := 0) rfl (by simp) fun H1 g1 => ?_
 have g1 : St H0 (Prt.one b (.cells #[ptrV rb, ptrV qb, v1, v2, v3, v4, v5, v6, v7, v8, v9, v10] T (0, 0)) :: LL) H1 := g1
 clear g0
 refine g1.put (i := 0) rfl (by simp) fun H2 g2 => ?_
 have g2 : St H0 (Prt.one b (.cells #[ptrV rb, ptrV qb, v1, v2, v3, v4, v5, v6, v7, v8, v9, v10] T (0, 0)) :: LL) H2 := g2
 clear g1
 refine g2.put (i := 0) rfl (by simp) fun H3 g3 => ?_
 have g3 : St H0 (Prt.one b (.cells #[ptrV rb, ptrV qb, .slice none 0 0, v2, v3, v4, v5, v6, v7, v8, v9, v10] T (0, 0)) :: LL) H3 := g3
 clear g2
 refine g3.put (i := 0) rfl (by simp) fun H4 g4 => ?_
 have g4 : St H0 (Prt.one b (.cells #[ptrV rb, ptrV qb, .slice none 0 0, .int .u64 0, v3, v4, v5, v6, v7, v8, v9, v10] T (0, 0)) :: LL) H4 := g4
 clear g3
 refine g4.put (i := 0) rfl (by simp) fun H5 g5 => ?_
 have g5 : St H0 (Prt.one b (.cells #[ptrV rb, ptrV qb, .slice none 0 0, .int .u64 0, .int .i64 u, v4, v5, v6, v7, v8, v9, v10] T (0, 0)) :: LL) H5 := g5
 clear g4
 refine g5.put (i := 0) rfl (by simp) fun H6 g6 => ?_
 have g6 : St H0 (Prt.one b (.cells #[ptrV rb, ptrV qb, .slice none 0 0, .int .u64 0, .int .i64 u, .bool false, v5, v6, v7, v8, v9, v10] T (0, 0)) :: LL) H6 := g6
 clear g5
 refine g6.put (i := 0) rfl (by simp) fun H7 g7 => ?_
 have g7 : St H0 (Prt.one b (.cells #[ptrV rb, ptrV qb, .slice none 0 0, .int .u64 0, .int .i64 u, .bool false, .int .u64 0, v6, v7, v8, v9, v10] T (0, 0)) :: LL) H7 := g7
 clear g6
 refine g7.put (i := 0) rfl (by simp) fun H8 g8 => ?_
 have g8 : St H0 (Prt.one b (.cells #[ptrV rb, ptrV qb, .slice none 0 0, .int .u64 0, .int .i64 u, .bool false, .int .u64 0, .slice none 0 0, v7, v8, v9, v10] T (0, 0)) :: LL) H8 := g8
 clear g7
 refine g8.put (i := 0) rfl (by simp) fun H9 g9 => ?_
 have g9 : St H0 (Prt.one b (.cells #[ptrV rb, ptrV qb, .slice none 0 0, .int .u64 0, .int .i64 u, .bool false, .int .u64 0, .slice none 0 0, .slice none 0 0, v8, v9, v10] T (0, 0)) :: LL) H9 := g9
 clear g8
 refine g9.put (i := 0) rfl (by simp) fun H10 g10 => ?_
 have g10 : St H0 (Prt.one b (.cells #[ptrV rb, ptrV qb, .slice none 0 0, .int .u64 0, .int .i64 u, .bool false, .int .u64 0, .slice none 0 0, .slice none 0 0, .int .i64 0, v9, v10] T (0, 0)) :: LL) H10 := g10
 clear g9
 refine g10.put (i := 0) rfl (by simp) fun H11 g11 => ?_
 have g11 : St H0 (Prt.one b (.cells #[ptrV rb, ptrV qb, .slice none 0 0, .int .u64 0, .int .i64 u, .bool false, .int .u64 0, .slice none 0 0, .slice none 0 0, .int .i64 0, .slice none 0 0, v10] T (0, 0)) :: LL) H11 := g11
 clear g10
 refine g11.put (i := 0) rfl (by simp) fun H12 g12 => ?_
 have g12 : St H0 (Prt.one b (.cells #[ptrV rb, ptrV qb, .slice none 0 0, .int .u64 0, .int .i64 u, .bool false, .int .u64 0, .slice none 0 0, .slice none 0 0, .int .i64 0, .slice none 0 0, .slice none 0 0] T (0, 0)) :: LL) H12 := g12
 clear g11
 (try simp only [Za,Zb,Zc,Zd,Zf,Zh,Zi,Zk,Zl,Zm,Zn,Zo,Zp,Zr,Zs,Zx,Zt,Zu,Zy,Zz,Zv,Zw,ZA,ZB,ZC,ZD])
 refine g12.put (i := 0) rfl (by simp) fun H13 g13 => ?_
 have g13 : St H0 (Prt.one b (.cells #[ptrV rb, ptrV qb, .slice none 0 0, .int .u64 0, .int .i64 u, .bool false, .int .u64 0, .slice none 0 0, .slice none 0 0, .int .i64 1048576, .slice none 0 0, .slice none 0 0] T (0, 0)) :: LL) H13 := g13
 clear g12
 refine hK H13 ?_
 subst hLL
 have e1 := (g13.say (p := RrOk (rcNew u) ⟨0, [], [], [], none, 0, none, 0, none, 0, none, 0, none, 0, T⟩) ⟨rcNew_ok, rfl⟩)
 have e2 := St.gatherEx (M := fun qs : List RcQ => [Prt.row 2 none qs.length 0 (cel rcRowC qs), Prt.list (qs.map rcRowP), Prt.pure (qs.map (·.1) = ([] : List (Int × List Id)))]) (L := _) [] ((St.gather (M := []) (e1.say (p := ([] : List RcQ).map (·.1) = ([] : List (Int × List Id))) rfl)).row (H' := _) (Own.nil 2) ((Goes.refl Nothing _).less fun c hc => absurd hc blk_none) |>.pick 3 [0, 1, 2] rfl rfl)
 have e3 := e2.row (H' := _) (Own.nil 2) ((Goes.refl Nothing _).less fun c hc => absurd hc blk_none)
 have e4 := e3.row (H' := _) (Own.nil 1) ((Goes.refl Nothing _).less fun c hc => absurd hc blk_none)
 have e5 := e4.row (H' := _) (Own.nil 1) ((Goes.refl Nothing _).less fun c hc => absurd hc blk_none)
 have e6 := e5.row (H' := _) (Own.nil 1) ((Goes.refl Nothing _).less fun c hc => absurd hc blk_none)
 have e7 := e6.pick 7 [6, 0, 1, 2, 3, 4, 5] rfl rfl
 exact St.shutEx (M := fun x => rrP b rb qb (rcNew u).suspect (rcNew u).place (rcNew u).rows (rcNew u).now.isSome x (RrOk (rcNew u) x)) (L' := L) ⟨0, [], [], [], none, 0, none, 0, none, 0, none, 0, none, 0, T⟩ e7 hk

theorem rIsSuspectC {q : Int} (h : St H0 (rrP b rb qb u pl rows un x F ++ M) H) (hi : M[i]? = some (RHeap rb s)) (hj : M[j]? = some (RPaint qb rb p)) (hij : i ≠ j) (hlt : p.lt 900000) (hK : K (.bool (rcOwn s p u q)) H) :
  hcall PR f_ref11_Reacher_isSuspect ⟨[.pointer (some ⟨b, 0, none⟩), .int .u64 q]⟩ H K := by
 apply den_ref11_Reacher_isSuspect
 unfold B_ref11_Reacher_isSuspect
 (try simp only [Za,Zb,Zc,Zd,Zf,Zh,Zi,Zk,Zl,Zm,Zn,Zo,Zp,Zr,Zs,Zx,Zt,Zu,Zy,Zz,Zv,Zw,ZA,ZB,ZC,ZD])
 have hi7 : (rrP b rb qb u pl rows un x F ++ M)[i + 7]? = some (RHeap rb s) := hi
 have hj7 : (rrP b rb qb u pl rows un x F ++ M)[j + 7]? = some (RPaint qb rb p) := hj
 refine ldP_of (h.cell (i := 0) rfl rfl) (rMarkC h hi7 hj7 (by omega) hlt ?_)
 (try simp only [Za,Zb,Zc,Zd,Zf,Zh,Zi,Zk,Zl,Zm,Zn,Zo,Zp,Zr,Zs,Zx,Zt,Zu,Zy,Zz,Zv,Zw,ZA,ZB,ZC,ZD])
 unfold rcOwn at hK
 cases hm : (pMark s p q).2.2
 ·rw [hm] at hK
  exact hK
 ·rw [hm] at hK
  simp only [Zv]
  refine ldI_of (h.cell (i := 0) rfl rfl) ?_
  by_cases hr : (pMark s p q).1 > u
  ·refine bif_pos hr (ldP_of (h.cell (i := 0) rfl rfl) ?_)
   obtain ⟨y, N, gz, hp3, hs⟩ := rheapOpenL (i := i + 7) h hi7 (.inl rfl)
   have hex : hGet s q ≠ none := fun e => by
    unfold pMark at hm
    split at hm
    ·cases hm
    ·rw [if_pos e] at hm; cases hm
   refine rGetC gz hp3 hs (fun hg => absurd hg hex) fun jj o bo _ _ _ _ => ?_
   (try simp only [Za,Zb,Zc,Zd,Zf,Zh,Zi,Zk,Zl,Zm,Zn,Zo,Zp,Zr,Zs,Zx,Zt,Zu,Zy,Zz,Zv,Zw,ZA,ZB,ZC,ZD])
   rw [show decide (u < (pMark s p q).1) = true from decide_eq_true hr] at hK
   exact hK
  ·refine bif_neg hr ?_
   rw [show decide (u < (pMark s p q).1) = false from decide_eq_false hr] at hK
   exact hK

/-- One is seen. -/
theorem rrPutC {w : RcRow} {q : Int} (h : St H0 (rrP b rb qb u pl rows un x F ++ M) H) (hw : RrW w x) (hl : w.seen.length ≤ 1000000 ∧ w.waits.length ≤ 1000000)
  (hK : ∀ x' H', RrW (rcPut w q) x' → x'.rp = x.rp → x'.rc = x.rc → St H0 (rrP b rb qb u pl rows un x' F ++ M) H' → K (.tuple #[]) H') :
  hcall PR f_ref11_Reacher_put ⟨[.pointer (some ⟨b, 0, none⟩), .int .u64 q]⟩ H K := by
 obtain ⟨hl1, hl2⟩ := hl
 rw [← hw.seen] at hl1
 rw [← hw.waits] at hl2
 apply den_ref11_Reacher_put
 unfold B_ref11_Reacher_put
 refine ⟨fun t H' => H' = H ∧ ∃ y : Nat, t = y ∧ y ≤ x.seen.length ∧ ∀ z, z < y → x.seen[z]? ≠ some q, fun t _ => ((x.seen.length : Int) - t).toNat, ⟨rfl, 0, rfl, by omega, fun z hz => absurd hz (Nat.not_lt_zero _)⟩, ?_⟩
 rintro t H1 ⟨hH, y, rfl, hy, hno⟩
 subst hH
 (try simp only [Za,Zb,Zc,Zd,Zf,Zh,Zi,Zk,Zl,Zm,Zn,Zo,Zp,Zr,Zs,Zx,Zt,Zu,Zy,Zz,Zv,Zw,ZA,ZB,ZC,ZD])
 refine ldSl_of (h.cell (i := 0) rfl rfl) ?_
 by_cases hc : (y : Int) < ((x.seen.length : Nat) : Int)
 ·have hyl : y < x.seen.length := by omega
  refine bif_pos hc (ldSl_of (h.cell (i := 0) rfl rfl) (idx1 (d := (0 : Int)) (h.row_rd (i := 1) rfl) (by omega) hc fun b' o' _ hcl => ldI_of hcl ?_))
  rw [Int.toNat_natCast]
  have hg : x.seen[y]? = some (x.seen.getD y 0) := by rw [List.getD_eq_getElem?_getD, List.getElem?_eq_getElem hyl]; rfl
  by_cases e : x.seen.getD y 0 = q
  ·have hm : q ∈ w.seen := by rw [← hw.seen, ← e]; exact List.mem_of_getElem? hg
   refine bif_eq e (hK x H1 ?_ rfl rfl h)
   unfold rcPut
   rw [if_pos hm]
   exact hw
  ·refine bif_ne e ?_
   rw [wrap_i64 (by omega) (by omega)]
   refine ⟨⟨by trivial, y + 1, by omega, by omega, fun z hz => ?_⟩, by (try dsimp only); omega⟩
   by_cases ez : z = y
   ·rw [ez, hg]; exact fun h => e (Option.some.inj h)
   ·exact hno z (by omega)
 ·have hm : q ∉ w.seen := fun hm => by
   rw [← hw.seen] at hm
   obtain ⟨z, hz, e⟩ := List.mem_iff_getElem.1 hm
   exact hno z (by omega) (by rw [List.getElem?_eq_getElem hz, e])
  refine bif_neg hc (ldSl_of (h.cell (i := 0) rfl rfl) ?_)
  refine lit_ty_Suint64 (m := 1) (c := #[.int .u64 q]) (h.row_own (i := 1) rfl) rfl (by intro z hz; simp at hz; rw [hz]; rfl) (by omega) fun p1 c1 H2 ho hg => ?_
  (try simp only [Za,Zb,Zc,Zd,Zf,Zh,Zi,Zk,Zl,Zm,Zn,Zo,Zp,Zr,Zs,Zx,Zt,Zu,Zy,Zz,Zv,Zw,ZA,ZB,ZC,ZD])
  have h2 := h.row_to (i := 1) rfl ho hg
  refine h2.put (i := 0) rfl (by simp) fun H3 h3 => ldSl_of (h3.cell (i := 0) rfl rfl) ?_
  refine lit_ty_Suint64 (m := 1) (c := #[.int .u64 q]) (h3.row_own (i := 2) rfl) rfl (by intro z hz; simp at hz; rw [hz]; rfl) (by omega) fun p2 c2 H4 ho2 hg2 => ?_
  (try simp only [Za,Zb,Zc,Zd,Zf,Zh,Zi,Zk,Zl,Zm,Zn,Zo,Zp,Zr,Zs,Zx,Zt,Zu,Zy,Zz,Zv,Zw,ZA,ZB,ZC,ZD])
  have h4 := h3.row_to (i := 2) rfl ho2 hg2
  refine h4.put (i := 0) rfl (by simp) fun H5 h5 => hK { x with seen := x.seen ++ [q], sp := p1, sc := c1, waits := x.waits ++ [q], wp := p2, wc := c2 } H5 ?_ rfl rfl ?_
  ·unfold rcPut
   rw [if_neg hm]
   exact ⟨hw.in_, by simp only; rw [hw.seen], by simp only; rw [hw.waits], hw.keyed, hw.perm⟩
  ·unfold rrP
   simp only [List.map_append, List.length_append]
   exact h5

/-- What is put into the table. -/
theorem rrPlaceC {q : Int} (h : St H0 L H) {n : Nat} {c : Array Value} {T : Nat} {t : List (Id × Int)} {kp : Option Addr} {kc : Nat} (h1 : hcell H ⟨b, 10, none⟩ = some (.slice kp t.length kc)) (hr : Rd H 1 kp t.length (t.map fun e => Value.int .u64 (keyOf e.1))) (hl : t.length ≤ 2000000)
  (hK : K (.tuple #[.int .i64 (tAt t q), .bool (tGet t q).isSome]) H) : hcall PR f_ref4_IDTable_place ⟨[.pointer (some ⟨b, 9, none⟩), .int .u64 q]⟩ H K := by
 apply den_ref4_IDTable_place
 unfold B_ref4_IDTable_place
 refine ⟨fun i H' => H' = H ∧ ∃ m : Nat, i = m ∧ m ≤ t.length ∧ ∀ j e, j < m → t[j]? = some e → keyOf e.1 < q, fun i _ => (t.length - i).toNat, ⟨rfl, 0, rfl, by omega, fun j e hj => absurd hj (Nat.not_lt_zero j)⟩, ?_⟩
 rintro i H' ⟨hH, m, rfl, hm, hlt⟩
 subst hH
 (try simp only [Za,Zb,Zc,Zd,Zf,Zh,Zi,Zk,Zl,Zm,Zn,Zo,Zp,Zr,Zs,Zx,Zt,Zu,Zy,Zz,Zv,Zw,ZA,ZB,ZC,ZD])
 refine ldSl_of h1 ?_
 by_cases hc : (m : Int) < (t.length : Int)
 ·have hml : m < t.length := by omega
  have hme := List.getElem?_eq_getElem hml
  have hgd : t.getD (m : Int).toNat (noId, 0) = t[m] := by rw [Int.toNat_natCast, List.getD_eq_getElem?_getD, hme]; rfl
  refine bif_pos hc (ldSl_of h1 (idx1 (g := fun e : Id × Int => Value.int .u64 (keyOf e.1)) (d := (noId, 0)) hr (by omega) hc fun b o _ hcc => ?_))
  rw [hgd] at hcc
  refine ldI_of hcc ?_
  by_cases hk : keyOf t[m].1 ≥ q
  ·refine bif_pos hk (ldSl_of h1 (idx1 (g := fun e : Id × Int => Value.int .u64 (keyOf e.1)) (d := (noId, 0)) hr (by omega) hc fun b o _ hcc => ?_))
   rw [hgd] at hcc
   refine ldI_of hcc ?_
   have hat : tAt t q = m := tAt_is (by omega) hlt fun e he => by rw [hme] at he; cases he; omega
   have hg : (tGet t q).isSome = (keyOf t[m].1 == q) := by
    unfold tGet
    rw [hat, hme]
    simp only
    by_cases e : keyOf t[m].1 = q
    ·simp [e]
    ·simp [e]
   rw [hat, hg] at hK
   exact hK
  ·refine bif_neg hk ?_
   rw [wrap_i64 (by omega) (by omega)]
   refine ⟨⟨by trivial, m + 1, by omega, by omega, fun j e hj he => ?_⟩, by (try dsimp only); omega⟩
   rcases Nat.lt_succ_iff_lt_or_eq.1 hj with hj | rfl
   ·exact hlt j e hj he
   ·rw [hme] at he
    cases he
    omega
 ·obtain rfl : m = t.length := by omega
  refine bif_neg hc (ldSl_of h1 ?_)
  have hat : tAt t q = t.length := tAt_is (by omega) hlt fun e he => by rw [List.getElem?_eq_none (by omega)] at he; cases he
  have hg : tGet t q = none := by
   unfold tGet
   rw [hat, List.getElem?_eq_none (by omega)]
  rw [hat, hg] at hK
  exact hK
theorem rrIdPutC {w : RcRow} {y : Id} (hy : isId y) (h : St H0 (rrP b rb qb u pl rows un x F ++ M) H) (hw : RrW w x) (hok : w.ok) (hl : w.outs.length ≤ 1000000)
  (hK : ∀ x' H', RrW { w with outs := mput w.outs y 1 } x' → x'.rp = x.rp → x'.rc = x.rc → St H0 (rrP b rb qb u pl rows un x' F ++ M) H' → K (.bool true) H') :
  hcall PR f_ref4_IDTable_Put ⟨[.pointer (some ⟨b, 9, none⟩), .int .u64 (keyOf y), .agg #[.int .i64 y.n, .int .u64 y.s]]⟩ H K := by
 apply den_ref4_IDTable_Put
 unfold B_ref4_IDTable_Put
 have htl : x.t.length = w.outs.length := hw.perm.length_eq
 have hf' : RrW { w with outs := mput w.outs y 1 } { x with t := tPut x.t y 1 } :=
  ⟨hw.in_, hw.seen, hw.waits, tPut_keyed hw.keyed y 1, tPut_perm hw.keyed hw.perm hok.outs (fun e he => hok.ids e he) hy 1⟩
 intro b6 hb6
 have g1 := h.alloc (o := .cells #[.int .i64 y.n, .int .u64 y.s] ty_api_ID) hb6
 refine rrPlaceC (n := 0) (c := #[]) (T := 0) (t := x.t) g1 (g1.cell (i := 1) rfl rfl) (g1.row_rd (i := 4) rfl) (by omega) ?_
 (try simp only [Za,Zb,Zc,Zd,Zf,Zh,Zi,Zk,Zl,Zm,Zn,Zo,Zp,Zr,Zs,Zx,Zt,Zu,Zy,Zz,Zv,Zw,ZA,ZB,ZC,ZD])
 cases hg : tGet x.t (keyOf y) with
 | some e =>
  simp only [Option.isSome_some, Zv]
  obtain ⟨e1, e2, e3⟩ := tGet_some hg
  have hlt := ltOfGet e1
  refine ldSl_of (g1.cell (i := 1) rfl rfl) (ldI_of (g1.cell (i := 0) rfl rfl) (ldI_of (g1.cell (i := 0) rfl rfl) ?_))
  refine idxA_of (g1.row_rd (i := 5) rfl) (by omega) (by omega) fun b' o hp _ => ?_
  rw [Int.toNat_natCast]
  refine g1.poke (i := 5) rfl hp (by omega) fun H2 g2 => ?_
  (try simp only [Za,Zb,Zc,Zd,Zf,Zh,Zi,Zk,Zl,Zm,Zn,Zo,Zp,Zr,Zs,Zx,Zt,Zu,Zy,Zz,Zv,Zw,ZA,ZB,ZC,ZD])
  rw [Nat.add_assoc]
  refine g2.poke (i := 5) rfl hp (by omega) fun H3 g3 => ?_
  have g4 := g3.less
  simp only [List.set_cons_succ, List.set_cons_zero, rrP, List.cons_append] at g4
  rw [cel_set2 idOf_len (y := (y, (1 : Int))) (noId, 0) hlt rfl] at g4
  have hput : tPut x.t y 1 = x.t.set (tAt x.t (keyOf y)) (y, 1) := by unfold tPut; rw [hg, if_pos (by rfl)]
  refine hK { x with t := tPut x.t y 1 } H3 hf' rfl rfl ?_
  unfold rrP
  have hk : (tPut x.t y 1).map (fun e => Value.int .u64 (keyOf e.1)) = x.t.map fun e => Value.int .u64 (keyOf e.1) := by
   rw [hput, List.map_set]
   refine List.set_self ?_
   rw [List.getElem?_map, e1]
   simp [e2]
  have hlen : (tPut x.t y 1).length = x.t.length := by rw [hput, List.length_set]
  simp only [hk, hlen]
  rw [hput]
  exact g4
 | none =>
  simp only [Option.isSome_none, Zw]
  refine ldSl_of (g1.cell (i := 1) rfl rfl) (ldI_of (g1.cell (i := 1) rfl rfl) (bif_neg (by omega) ?_))
  have hlen := tPut_len (r := 1) hg
  have hput : tPut x.t y 1 = x.t.take (tAt x.t (keyOf y)) ++ (y, 1) :: x.t.drop (tAt x.t (keyOf y)) := by unfold tPut; rw [hg, if_neg (by simp)]
  have hal := tAt_le (t := x.t) (k := keyOf y)
  generalize hA : tAt x.t (keyOf y) = a at *
  have hKs : ([] ++ (x.t.map fun e => Value.int .u64 (keyOf e.1)).take (a * 1)) ++ (#[Value.int .u64 (keyOf y)] : Array Value).toList ++ (x.t.map fun e => Value.int .u64 (keyOf e.1)).drop (a * 1) = (tPut x.t y 1).map fun e => Value.int .u64 (keyOf e.1) := by
   rw [hput, Nat.mul_one]
   simp
  have hVs : ([] ++ (cel idOf x.t).take (a * 2)) ++ (#[Value.int .i64 y.n, .int .u64 y.s] : Array Value).toList ++ (cel idOf x.t).drop (a * 2) = cel idOf (tPut x.t y 1) := by
   rw [hput, cel_take idOf_len, cel_drop idOf_len, cel_append]
   simp [cel, idOf, Id.cells]
  have hLs : a + 1 + (x.t.length - a) = (tPut x.t y 1).length := by omega
  have honeK : ∀ m : List (Id × Int), ∀ z ∈ m.map (fun e => Value.int .u64 (keyOf e.1)), one z = true := fun m z hz => by obtain ⟨_, _, rfl⟩ := List.mem_map.1 hz; rfl
  have honeV : ∀ z ∈ (#[Value.int .i64 y.n, .int .u64 y.s] : Array Value).toList, one z = true := fun z hz => by
   simp at hz
   rcases hz with rfl | rfl <;> rfl
  intro R31 hR31
  have hR31 : ∀ kp' n' kc' xs' H', n' = (tPut x.t y 1).length → xs' = ((tPut x.t y 1).map fun e => Value.int .u64 (keyOf e.1)) →
    St H0 (Prt.row 1 kp' n' kc' xs' :: Prt.one b6 (.cells #[.int .i64 y.n, .int .u64 y.s] ty_api_ID (0, 0)) :: (rrP b rb qb u pl rows un x F ++ M)) H' → R31 kp' n' kc' H' := fun kp' n' kc' xs' H' en ex h1 => by
   subst en ex
   refine hR31 _ _ _ H' ?_
   clear hR31
   intro R36 hR36
   have hR36 : ∀ vp' n' vc' xs' H', n' = (tPut x.t y 1).length → xs' = cel idOf (tPut x.t y 1) →
     St H0 (Prt.row 2 vp' n' vc' xs' :: Prt.row 1 kp' (tPut x.t y 1).length kc' ((tPut x.t y 1).map fun e => Value.int .u64 (keyOf e.1)) :: Prt.one b6 (.cells #[.int .i64 y.n, .int .u64 y.s] ty_api_ID (0, 0)) :: (rrP b rb qb u pl rows un x F ++ M)) H' → R36 vp' n' vc' H' := fun vp' n' vc' xs' H' en ex h2 => by
    subst en ex
    refine hR36 _ _ _ H' ?_
    clear hR36
    refine h2.put (i := 3) rfl (by simp) fun H3 h3 => h3.put (i := 3) rfl (by simp) fun H4 h4 => ?_
    have h5 := St.over (L := _ :: _ :: _ :: _ :: _ :: _ :: _ :: _ :: _ :: M) (i := 6) h4 rfl
    have h6 := St.over (L := _ :: _ :: _ :: _ :: _ :: _ :: _ :: _ :: M) (i := 4) h5 rfl
    have h7 := St.less (L := _ :: _ :: _ :: _ :: _ :: _ :: _ :: M) h6
    exact hK { x with t := tPut x.t y 1, kp := kp', kc := kc', vp := vp', vc := vc' } H4 ⟨hf'.in_, hf'.seen, hf'.waits, hf'.keyed, hf'.perm⟩ rfl rfl h7
   have cap1 := (h1.row_own (i := 6) rfl).2.1
   refine ldSl_of (h1.cell (i := 2) rfl rfl) (slc_to (by omega) (by omega) ?_)
   refine ldI_of (h1.cell (i := 1) rfl rfl) (ldI_of (h1.cell (i := 1) rfl rfl) ?_)
   refine ldSl_of (h1.cell (i := 2) rfl rfl) (slc_from (by omega) (by omega) ⟨?_, ?_⟩)
   ·rw [Int.toNat_natCast]
    have q0 := h1.row (H' := _) (Own.nil 2) ((Goes.refl Nothing _).less fun c hc => absurd hc blk_none)
    refine q0.app (i := 0) rfl tu_ty_Sapi_ID tu_ty_Sapi_ID ti_ty_api_ID rfl (by decide) ((q0.row_rd (i := 7) rfl).take (m := a) hal) (fun z hz => one_idOf z (List.mem_of_mem_take hz)) (by omega) fun p1 c1 H2 q1 => ?_
    rw [Nat.zero_add] at q1 ⊢
    (try simp only [Za,Zb,Zc,Zd,Zf,Zh,Zi,Zk,Zl,Zm,Zn,Zo,Zp,Zr,Zs,Zx,Zt,Zu,Zy,Zz,Zv,Zw,ZA,ZB,ZC,ZD])
    refine ⟨ldSl_of (q1.cell (i := 3) rfl rfl) rfl, ldI_of (q1.cell (i := 2) rfl rfl) (ldI_of (q1.cell (i := 2) rfl rfl) rfl), ?_⟩
    intro b73 hb73
    have q2 := q1.alloc (o := .cells #[.int .i64 y.n, .int .u64 y.s] ty_api_ID) hb73
    refine ⟨ldSl_of (q2.cell (i := 4) rfl rfl) rfl, q2.app (i := 1) rfl tu_ty_Sapi_ID tu_ty_Sapi_ID ti_ty_api_ID rfl (by decide) (rd_new (n := 1) rfl) honeV (by omega) fun p2 c2 H3 q3 => ?_⟩
    (try simp only [Za,Zb,Zc,Zd,Zf,Zh,Zi,Zk,Zl,Zm,Zn,Zo,Zp,Zr,Zs,Zx,Zt,Zu,Zy,Zz,Zv,Zw,ZA,ZB,ZC,ZD])
    refine ⟨ldSl_of (q3.cell (i := 4) rfl rfl) rfl, q3.app (i := 1) rfl tu_ty_Sapi_ID tu_ty_Sapi_ID ti_ty_api_ID rfl (by decide) ((q3.row_rd (i := 8) rfl).drop (l := a) (cap := x.vc) hal cap1) (fun z hz => one_idOf z (List.mem_of_mem_drop hz)) (by omega) fun p3 c3 H4 q4 => ?_⟩
    (try simp only [Za,Zb,Zc,Zd,Zf,Zh,Zi,Zk,Zl,Zm,Zn,Zo,Zp,Zr,Zs,Zx,Zt,Zu,Zy,Zz,Zv,Zw,ZA,ZB,ZC,ZD])
    exact hR36 _ _ _ _ H4 hLs hVs q4.less
   ·rw [Int.toNat_natCast]
    intro b91 hb91
    have q0 := h1.alloc (o := .cells #[.int .i64 y.n, .int .u64 y.s] ty_api_ID) hb91
    have q0 := q0.row (H' := _) (Own.nil 2) ((Goes.refl Nothing _).less fun c hc => absurd hc blk_none)
    refine ⟨ldSl_of (q0.cell (i := 4) rfl rfl) rfl, ldSl_of (q0.cell (i := 4) rfl rfl) rfl, q0.app (i := 0) rfl tu_ty_Sapi_ID tu_ty_Sapi_ID ti_ty_api_ID rfl (by decide) ((q0.row_rd (i := 8) rfl).take (m := a) hal) (fun z hz => one_idOf z (List.mem_of_mem_take hz)) (by omega) fun p1 c1 H2 q1 => ?_⟩
    rw [Nat.zero_add] at q1 ⊢
    (try simp only [Za,Zb,Zc,Zd,Zf,Zh,Zi,Zk,Zl,Zm,Zn,Zo,Zp,Zr,Zs,Zx,Zt,Zu,Zy,Zz,Zv,Zw,ZA,ZB,ZC,ZD])
    refine ⟨ldSl_of (q1.cell (i := 4) rfl rfl) rfl, q1.app (i := 0) rfl tu_ty_Sapi_ID tu_ty_Sapi_ID ti_ty_api_ID rfl (by decide) (q1.one_rd (i := 1) (n := 1) rfl rfl) honeV (by omega) fun p2 c2 H3 q3 => ?_⟩
    (try simp only [Za,Zb,Zc,Zd,Zf,Zh,Zi,Zk,Zl,Zm,Zn,Zo,Zp,Zr,Zs,Zx,Zt,Zu,Zy,Zz,Zv,Zw,ZA,ZB,ZC,ZD])
    refine ⟨ldSl_of (q3.cell (i := 4) rfl rfl) rfl, q3.app (i := 0) rfl tu_ty_Sapi_ID tu_ty_Sapi_ID ti_ty_api_ID rfl (by decide) ((q3.row_rd (i := 8) rfl).drop (l := a) (cap := x.vc) hal cap1) (fun z hz => one_idOf z (List.mem_of_mem_drop hz)) (by omega) fun p3 c3 H4 q4 => ?_⟩
    (try simp only [Za,Zb,Zc,Zd,Zf,Zh,Zi,Zk,Zl,Zm,Zn,Zo,Zp,Zr,Zs,Zx,Zt,Zu,Zy,Zz,Zv,Zw,ZA,ZB,ZC,ZD])
    exact hR36 _ _ _ _ H4 hLs hVs (St.flip q4).less
  have cap1 := (g1.row_own (i := 4) rfl).2.1
  refine ldSl_of (g1.cell (i := 1) rfl rfl) (slc_to (by omega) (by omega) ?_)
  refine ldSl_of (g1.cell (i := 1) rfl rfl) (slc_from (by omega) (by omega) ⟨?_, ?_⟩)
  ·rw [Int.toNat_natCast]
   have q0 := g1.row (H' := _) (Own.nil 1) ((Goes.refl Nothing _).less fun c hc => absurd hc blk_none)
   refine q0.app (i := 0) rfl tu_ty_Suint64 tu_ty_Suint64 ti_ty_uint64 rfl (by decide) ((q0.row_rd (i := 5) rfl).take (m := a) hal) (fun z hz => honeK x.t z (List.mem_of_mem_take hz)) (by omega) fun p1 c1 H2 q1 => ?_
   rw [Nat.zero_add] at q1 ⊢
   (try simp only [Za,Zb,Zc,Zd,Zf,Zh,Zi,Zk,Zl,Zm,Zn,Zo,Zp,Zr,Zs,Zx,Zt,Zu,Zy,Zz,Zv,Zw,ZA,ZB,ZC,ZD])
   refine ⟨ldSl_of (q1.cell (i := 2) rfl rfl) rfl, ?_⟩
   intro b142 hb142
   have q2 := q1.alloc (o := .cells #[.int .u64 (keyOf y)] ty_uint64) hb142
   refine ⟨ldSl_of (q2.cell (i := 3) rfl rfl) rfl, q2.app (i := 1) rfl tu_ty_Suint64 tu_ty_Suint64 ti_ty_uint64 rfl (by decide) (rd_new (n := 1) rfl) (by intro z hz; simp at hz; rw [hz]; rfl) (by omega) fun p2 c2 H3 q3 => ?_⟩
   (try simp only [Za,Zb,Zc,Zd,Zf,Zh,Zi,Zk,Zl,Zm,Zn,Zo,Zp,Zr,Zs,Zx,Zt,Zu,Zy,Zz,Zv,Zw,ZA,ZB,ZC,ZD])
   refine ⟨ldSl_of (q3.cell (i := 3) rfl rfl) rfl, q3.app (i := 1) rfl tu_ty_Suint64 tu_ty_Suint64 ti_ty_uint64 rfl (by decide) ((q3.row_rd (i := 6) rfl).drop (l := a) (cap := x.kc) hal cap1) (fun z hz => honeK x.t z (List.mem_of_mem_drop hz)) (by omega) fun p3 c3 H4 q4 => ?_⟩
   (try simp only [Za,Zb,Zc,Zd,Zf,Zh,Zi,Zk,Zl,Zm,Zn,Zo,Zp,Zr,Zs,Zx,Zt,Zu,Zy,Zz,Zv,Zw,ZA,ZB,ZC,ZD])
   exact hR31 _ _ _ _ H4 hLs hKs q4.less
  ·rw [Int.toNat_natCast]
   intro b160 hb160
   have q0 := g1.alloc (o := .cells #[.int .u64 (keyOf y)] ty_uint64) hb160
   have q0 := q0.row (H' := _) (Own.nil 1) ((Goes.refl Nothing _).less fun c hc => absurd hc blk_none)
   refine ⟨ldSl_of (q0.cell (i := 3) rfl rfl) rfl, ldSl_of (q0.cell (i := 3) rfl rfl) rfl, q0.app (i := 0) rfl tu_ty_Suint64 tu_ty_Suint64 ti_ty_uint64 rfl (by decide) ((q0.row_rd (i := 6) rfl).take (m := a) hal) (fun z hz => honeK x.t z (List.mem_of_mem_take hz)) (by omega) fun p1 c1 H2 q1 => ?_⟩
   rw [Nat.zero_add] at q1 ⊢
   (try simp only [Za,Zb,Zc,Zd,Zf,Zh,Zi,Zk,Zl,Zm,Zn,Zo,Zp,Zr,Zs,Zx,Zt,Zu,Zy,Zz,Zv,Zw,ZA,ZB,ZC,ZD])
   refine ⟨ldSl_of (q1.cell (i := 3) rfl rfl) rfl, q1.app (i := 0) rfl tu_ty_Suint64 tu_ty_Suint64 ti_ty_uint64 rfl (by decide) (q1.one_rd (i := 1) (n := 1) rfl rfl) (by intro z hz; simp at hz; rw [hz]; rfl) (by omega) fun p2 c2 H3 q3 => ?_⟩
   (try simp only [Za,Zb,Zc,Zd,Zf,Zh,Zi,Zk,Zl,Zm,Zn,Zo,Zp,Zr,Zs,Zx,Zt,Zu,Zy,Zz,Zv,Zw,ZA,ZB,ZC,ZD])
   refine ⟨ldSl_of (q3.cell (i := 3) rfl rfl) rfl, q3.app (i := 0) rfl tu_ty_Suint64 tu_ty_Suint64 ti_ty_uint64 rfl (by decide) ((q3.row_rd (i := 6) rfl).drop (l := a) (cap := x.kc) hal cap1) (fun z hz => honeK x.t z (List.mem_of_mem_drop hz)) (by omega) fun p3 c3 H4 q4 => ?_⟩
   (try simp only [Za,Zb,Zc,Zd,Zf,Zh,Zi,Zk,Zl,Zm,Zn,Zo,Zp,Zr,Zs,Zx,Zt,Zu,Zy,Zz,Zv,Zw,ZA,ZB,ZC,ZD])
   exact hR31 _ _ _ _ H4 hLs hKs (St.flip q4).less
end
end Go.Proofs.YtflfodcemnapeaaGreat

namespace Go.Proofs.YtflfodcemnapeaaGreat
set_option linter.unusedSimpArgs false
set_option linter.unusedVariables false
open Go
section
variable {H0 H : Hp} {L M : List Prt} {i j k b rb qb : Nat} {s : Hs} {p : Ps} {c : Rc} {x : RrX} {u pl : Int} {rows : List (Int × List Id)} {un : Bool} {F : Prop} {K : Value → Hp → Prop}
theorem met_get {t : List (Id × Int)} {y : Id} (hp : p.ok) (hk : keyed t) (hperm : t.Perm p.met) : (tGet t (keyV y) = none → pMet p y = (0, false)) ∧ ∀ e, tGet t (keyV y) = some e → if e.1 = y then pMet p y = (e.2, true) ∧ isId y else pMet p y = (0, false) := by
 have inn : ∀ r, mlook p.met y = some r → isId y ∧ (y, r) ∈ t := fun r hr => by
  have hm := mlook_mem hr
  exact ⟨(hp.ids _ hm).1, hperm.mem_iff.2 hm⟩
 refine ⟨fun hg => ?_, fun e hg => ?_⟩
 ·unfold pMet
  cases hl : mlook p.met y with
  | none => rfl
  | some r =>
   obtain ⟨h1, h2⟩ := inn r hl
   rw [keyV_id h1] at hg
   exact absurd rfl (tGet_none hk hg _ h2)
 ·obtain ⟨e1, e2, e3⟩ := tGet_some hg
  have hem := hperm.mem_iff.1 e3
  have hei := (hp.ids _ hem).1
  split
  ·rename_i e
   subst e
   refine ⟨?_, hei⟩
   unfold pMet
   rw [mlook_of hp.met hem]
  ·rename_i e
   unfold pMet
   cases hl : mlook p.met y with
   | none => rfl
   | some r =>
    obtain ⟨h1, h2⟩ := inn r hl
    rw [keyV_id h1] at e2
    exact absurd (keyOf_inj hei h1 e2) e
theorem rMetC {y : Id} (h : St H0 L H) (hj : L[j]? = some (RPaint qb rb p)) (hl : p.met.length ≤ 2000000) (hK : ∀ H', St H0 L H' → K (.tuple #[.int .i64 (pMet p y).1, .bool (pMet p y).2]) H') :
  hcall PR f_ref11_Paint_Met ⟨[.pointer (some ⟨qb, 0, none⟩), .agg #[.int .i64 y.n, .int .u64 y.s]]⟩ H K := by
 obtain ⟨x, M, g, hf, hM, back⟩ := rpaintTakeN h hj
 have htl : x.t.length = p.met.length := hf.2.2.length_eq
 have hK : ∀ H', St H0 (rpaintParts qb rb p x ++ M) H' → K (.tuple #[.int .i64 (pMet p y).1, .bool (pMet p y).2]) H' := fun H' h' => hK H' (by
  have := back [] p x H' h'
  rwa [List.nil_append, List.set_self hj] at this)
 obtain ⟨m1, m2⟩ := met_get (y := y) hf.1 hf.2.1 hf.2.2
 apply den_ref11_Paint_Met
 unfold B_ref11_Paint_Met
 intro b4 hb4
 have g1 := g.alloc (o := .cells #[.int .i64 y.n, .int .u64 y.s] ty_api_ID) hb4
 intro R6 hR6
 have hR6 : ∀ bo H', St H0 (Prt.one bo (.cells #[.int .i64 ((tGet x.t (keyV y)).getD (noId, 0)).1.n, .int .u64 ((tGet x.t (keyV y)).getD (noId, 0)).1.s, .int .i64 ((tGet x.t (keyV y)).getD (noId, 0)).2] ty_api_Out (0, 0)) :: Prt.one b4 (.cells #[.int .i64 y.n, .int .u64 y.s] ty_api_ID (0, 0)) :: (rpaintParts qb rb p x ++ M)) H' → R6 (some ⟨bo, 0, none⟩) (tGet x.t (keyV y)).isSome H' := fun bo H' h' => by
  refine hR6 _ _ H' ?_
  cases hg : tGet x.t (keyV y) with
  | none =>
   rw [m1 hg] at hK
   simp only [Option.isSome_none, Bool.not_false, Zv]
   exact hK H' (St.lesses (M := [_, _]) h')
  | some e =>
   have hm := m2 e hg
   rw [hg] at h'
   simp only [Option.getD_some] at h'
   simp only [Option.isSome_some, Bool.not_true, Zw]
   (try simp only [Za,Zb,Zc,Zd,Zf,Zh,Zi,Zk,Zl,Zm,Zn,Zo,Zp,Zr,Zs,Zx,Zt,Zu,Zy,Zz,Zv,Zw,ZA,ZB,ZC,ZD])
   refine ldI_of (h'.cell (i := 0) rfl rfl) (ldI_of (h'.cell (i := 0) rfl rfl) (ldI_of (h'.cell (i := 1) rfl rfl) (ldI_of (h'.cell (i := 1) rfl rfl) (idNe ?_))))
   by_cases ey : e.1 = y
   ·rw [if_pos ey] at hm
    rw [hm.1] at hK
    rw [show decide ((⟨e.1.n, e.1.s⟩ : Id) = ⟨y.n, y.s⟩) = true from decide_eq_true ey]
    (try simp only [Za,Zb,Zc,Zd,Zf,Zh,Zi,Zk,Zl,Zm,Zn,Zo,Zp,Zr,Zs,Zx,Zt,Zu,Zy,Zz,Zv,Zw,ZA,ZB,ZC,ZD])
    exact ldI_of (h'.cell (i := 0) rfl rfl) (hK H' (St.lesses (M := [_, _]) h'))
   ·rw [if_neg ey] at hm
    rw [hm] at hK
    rw [show decide ((⟨e.1.n, e.1.s⟩ : Id) = ⟨y.n, y.s⟩) = false from decide_eq_false ey]
    (try simp only [Za,Zb,Zc,Zd,Zf,Zh,Zi,Zk,Zl,Zm,Zn,Zo,Zp,Zr,Zs,Zx,Zt,Zu,Zy,Zz,Zv,Zw,ZA,ZB,ZC,ZD])
    exact hK H' (St.lesses (M := [_, _]) h')
 clear hK
 have tab : ∀ (N : List Prt) H', St H0 (N ++ (rpaintParts qb rb p x ++ M)) H' → hcell H' ⟨qb, 6 + 1, none⟩ = some (.slice x.kp x.t.length x.kc) ∧ Rd H' 1 x.kp x.t.length (x.t.map fun e => Value.int .u64 (keyOf e.1)) ∧ hcell H' ⟨qb, 6 + 2, none⟩ = some (.slice x.vp x.t.length x.vc) ∧ Rd H' 3 x.vp x.t.length (cel outC x.t) := fun N H' h' => by
  have g' := St.lesses (M := N) h'
  exact ⟨g'.cell (i := 0) rfl rfl, g'.row_rd (i := 3) rfl, g'.cell (i := 0) rfl rfl, g'.row_rd (i := 4) rfl⟩
 (try simp only [Za,Zb,Zc,Zd,Zf,Zh,Zi,Zk,Zl,Zm,Zn,Zo,Zp,Zr,Zs,Zx,Zt,Zu,Zy,Zz,Zv,Zw,ZA,ZB,ZC,ZD])
 refine ldI_of (g1.cell (i := 0) rfl rfl) (ldI_of (g1.cell (i := 0) rfl rfl) ⟨?_, ?_⟩)
 ·refine keyC g1 fun H2 g2 => ?_
  (try simp only [Za,Zb,Zc,Zd,Zf,Zh,Zi,Zk,Zl,Zm,Zn,Zo,Zp,Zr,Zs,Zx,Zt,Zu,Zy,Zz,Zv,Zw,ZA,ZB,ZC,ZD])
  refine ⟨?_, ?_⟩
  ·refine tGetC (qo := 6) g2 (fun H' h' => tab [_] H' h') (by omega) fun H3 g3 => ?_
   (try simp only [Za,Zb,Zc,Zd,Zf,Zh,Zi,Zk,Zl,Zm,Zn,Zo,Zp,Zr,Zs,Zx,Zt,Zu,Zy,Zz,Zv,Zw,ZA,ZB,ZC,ZD])
   intro b36 hb36
   have g4 := g3.alloc (o := .cells #[.int .i64 0, .int .u64 0, .int .i64 0] ty_api_Out) hb36
   exact g4.put (i := 0) rfl (by simp) fun H5 g5 => g5.put (i := 0) rfl (by simp) fun H6 g6 => g6.put (i := 0) rfl (by simp) fun H7 g7 => hR6 b36 H7 g7
  ·intro b41 hb41
   have g3 := g2.alloc (o := .cells #[.int .i64 0, .int .u64 0, .int .i64 0] ty_api_Out) hb41
   refine tGetC (qo := 6) g3 (fun H' h' => tab [_, _] H' h') (by omega) fun H4 g4 => ?_
   (try simp only [Za,Zb,Zc,Zd,Zf,Zh,Zi,Zk,Zl,Zm,Zn,Zo,Zp,Zr,Zs,Zx,Zt,Zu,Zy,Zz,Zv,Zw,ZA,ZB,ZC,ZD])
   exact g4.put (i := 0) rfl (by simp) fun H5 g5 => g5.put (i := 0) rfl (by simp) fun H6 g6 => g6.put (i := 0) rfl (by simp) fun H7 g7 => hR6 b41 H7 g7
 ·intro b57 hb57
  have g2 := g1.alloc (o := .cells #[.int .i64 0, .int .u64 0, .int .i64 0] ty_api_Out) hb57
  refine ⟨ldI_of (g2.cell (i := 1) rfl rfl) (ldI_of (g2.cell (i := 1) rfl rfl) rfl), keyC g2 fun H3 g3 => ?_⟩
  (try simp only [Za,Zb,Zc,Zd,Zf,Zh,Zi,Zk,Zl,Zm,Zn,Zo,Zp,Zr,Zs,Zx,Zt,Zu,Zy,Zz,Zv,Zw,ZA,ZB,ZC,ZD])
  refine tGetC (qo := 6) g3 (fun H' h' => tab [_, _] H' h') (by omega) fun H4 g4 => ?_
  (try simp only [Za,Zb,Zc,Zd,Zf,Zh,Zi,Zk,Zl,Zm,Zn,Zo,Zp,Zr,Zs,Zx,Zt,Zu,Zy,Zz,Zv,Zw,ZA,ZB,ZC,ZD])
  exact g4.put (i := 0) rfl (by simp) fun H5 g5 => g5.put (i := 0) rfl (by simp) fun H6 g6 => g6.put (i := 0) rfl (by simp) fun H7 g7 => hR6 b57 H7 g7

/-- The row under way ends. -/
theorem rrEndC (h : St H0 (rrP b rb qb u pl rows un x F ++ M) H) (hl : un = true → rows.length ≤ 1000000 ∧ x.t.length ≤ 1000000)
  (hK : ∀ x' H', x'.seen = [] → x'.waits = [] → x'.t = [] → x'.in_ = x.in_ → St H0 (rrP b rb qb u pl (if un then rows ++ [(x.in_, x.t.map (·.1))] else rows) false x' F ++ M) H' → K (.tuple #[]) H') :
  hcall PR f_ref11_Reacher_end ⟨[.pointer (some ⟨b, 0, none⟩)]⟩ H K := by
 apply den_ref11_Reacher_end
 unfold B_ref11_Reacher_end
 intro R2 hR2
 have hR2 : ∀ rp' rc' H', St H0 (rrP b rb qb u pl (if un then rows ++ [(x.in_, x.t.map (·.1))] else rows) un { x with rp := rp', rc := rc' } F ++ M) H' → R2 H' := fun rp' rc' H' h' => by
  refine hR2 H' ?_
  generalize (if un then rows ++ [(x.in_, x.t.map (·.1))] else rows) = rows' at *
  (try simp only [Za,Zb,Zc,Zd,Zf,Zh,Zi,Zk,Zl,Zm,Zn,Zo,Zp,Zr,Zs,Zx,Zt,Zu,Zy,Zz,Zv,Zw,ZA,ZB,ZC,ZD])
  refine h'.put (i := 0) rfl (by simp) fun H1 h1 => h1.put (i := 0) rfl (by simp) fun H2 h2 => h2.put (i := 0) rfl (by simp) fun H3 h3 => h3.put (i := 0) rfl (by simp) fun H4 h4 => h4.put (i := 0) rfl (by simp) fun H5 h5 => ?_
  have g1 := St.over (i := 1) (h5.row (H' := _) (Own.nil 1) ((Goes.refl Nothing _).less fun c hc => absurd hc blk_none)) rfl
  have g2 := St.over (i := 2) (g1.row (H' := _) (Own.nil 1) ((Goes.refl Nothing _).less fun c hc => absurd hc blk_none)) rfl
  have g3 := St.over (i := 3) (g2.row (H' := _) (Own.nil 1) ((Goes.refl Nothing _).less fun c hc => absurd hc blk_none)) rfl
  have g4 := St.over (i := 4) (g3.row (H' := _) (Own.nil 2) ((Goes.refl Nothing _).less fun c hc => absurd hc blk_none)) rfl
  exact hK { in_ := x.in_, seen := [], waits := [], t := [], rp := rp', rc := rc', sp := none, sc := 0, wp := none, wc := 0, kp := none, kc := 0, vp := none, vc := 0, T := x.T } H5 rfl rfl rfl rfl g4
 clear hK
 (try simp only [Za,Zb,Zc,Zd,Zf,Zh,Zi,Zk,Zl,Zm,Zn,Zo,Zp,Zr,Zs,Zx,Zt,Zu,Zy,Zz,Zv,Zw,ZA,ZB,ZC,ZD])
 refine ldB_of (h.cell (i := 0) rfl rfl) ?_
 cases un
 ·simp only [Zw]
  exact hR2 x.rp x.rc H h
 ·simp only [Zv]
  obtain ⟨hl1, hl2⟩ := hl rfl
  obtain ⟨qs, g0⟩ := h.openEx (M := fun qs : List RcQ => [Prt.row 2 x.rp qs.length x.rc (cel rcRowC qs), Prt.list (qs.map rcRowP), Prt.pure (qs.map (·.1) = rows)]) (i := 5) rfl
  have hq : qs.map (·.1) = rows := g0.fact (i := 2) rfl
  have hql : rows.length = qs.length := by rw [← hq, List.length_map]
  have g0 : St H0 (Prt.row 2 x.rp qs.length x.rc (cel rcRowC qs) :: Prt.list (qs.map rcRowP) :: Prt.pure (qs.map (·.1) = rows) :: Prt.one b (.cells #[ptrV rb, ptrV qb, .slice x.rp rows.length x.rc, .int .u64 pl, .int .i64 u, .bool true, .int .u64 x.in_, .slice x.sp x.seen.length x.sc, .slice x.wp x.waits.length x.wc, .int .i64 1048576, .slice x.kp x.t.length x.kc, .slice x.vp x.t.length x.vc] x.T (0, 0)) ::
    Prt.row 1 x.sp x.seen.length x.sc (x.seen.map (Value.int .u64)) :: Prt.row 1 x.wp x.waits.length x.wc (x.waits.map (Value.int .u64)) :: Prt.row 1 x.kp x.t.length x.kc (x.t.map fun e => Value.int .u64 (keyOf e.1)) :: Prt.row 2 x.vp x.t.length x.vc (cel idOf x.t) :: Prt.nil :: Prt.pure F :: M) H := g0
  refine ldSl_of (g0.cell (i := 3) rfl rfl) (ldI_of (g0.cell (i := 3) rfl rfl) (ldSl_of (g0.cell (i := 3) rfl rfl) ?_))
  intro b26 hb26
  have g1 := g0.alloc (o := .cells #[] ty_api_ID) hb26
  refine ⟨ldSl_of (g1.cell (i := 4) rfl rfl) rfl, ldI_of (g1.cell (i := 4) rfl rfl) rfl, ldSl_of (g1.cell (i := 4) rfl rfl) rfl, ?_⟩
  refine g1.copy (i := 0) rfl tu_ty_Sapi_ID tu_ty_Sapi_ID ti_ty_api_ID rfl (by decide) (g1.row_rd (i := 8) rfl) one_idOf (by omega) fun q c1 H2 g2 => ?_
  (try simp only [Za,Zb,Zc,Zd,Zf,Zh,Zi,Zk,Zl,Zm,Zn,Zo,Zp,Zr,Zs,Zx,Zt,Zu,Zy,Zz,Zv,Zw,ZA,ZB,ZC,ZD])
  have g2 : St H0 (Prt.row 2 q x.t.length c1 (cel idOf x.t) :: Prt.row 2 x.rp qs.length x.rc (cel rcRowC qs) :: Prt.list (qs.map rcRowP) :: Prt.pure (qs.map (·.1) = rows) :: Prt.one b (.cells #[ptrV rb, ptrV qb, .slice x.rp rows.length x.rc, .int .u64 pl, .int .i64 u, .bool true, .int .u64 x.in_, .slice x.sp x.seen.length x.sc, .slice x.wp x.waits.length x.wc, .int .i64 1048576, .slice x.kp x.t.length x.kc, .slice x.vp x.t.length x.vc] x.T (0, 0)) ::
    Prt.row 1 x.sp x.seen.length x.sc (x.seen.map (Value.int .u64)) :: Prt.row 1 x.wp x.waits.length x.wc (x.waits.map (Value.int .u64)) :: Prt.row 1 x.kp x.t.length x.kc (x.t.map fun e => Value.int .u64 (keyOf e.1)) :: Prt.row 2 x.vp x.t.length x.vc (cel idOf x.t) :: Prt.nil :: Prt.pure F :: M) H2 := g2
  refine ⟨ldI_of (g2.cell (i := 4) rfl rfl) rfl, ldSl_of (g2.cell (i := 4) rfl rfl) rfl, ?_⟩
  intro b44 hb44
  have g3 := g2.alloc (o := .cells #[.int .u64 x.in_, .slice q x.t.length c1] ty_api_Reach) hb44
  refine ⟨ldSl_of (g3.cell (i := 5) rfl rfl) rfl, ?_⟩
  rw [hql]
  refine g3.app (i := 2) rfl tu_ty_Sapi_Reach tu_ty_Sapi_Reach ti_ty_api_Reach rfl (by decide) (g3.one_rd (i := 0) (n := 1) rfl rfl) (fun z hz => by simp at hz; rcases hz with rfl | rfl <;> rfl) (by omega) fun p' cap' H4 g4 => ?_
  (try simp only [Za,Zb,Zc,Zd,Zf,Zh,Zi,Zk,Zl,Zm,Zn,Zo,Zp,Zr,Zs,Zx,Zt,Zu,Zy,Zz,Zv,Zw,ZA,ZB,ZC,ZD])
  refine g4.put (i := 5) rfl (by simp) fun H5 g5 => hR2 p' cap' H5 ?_
  obtain ⟨nq, hnq⟩ : ∃ nq : RcQ, nq = ((x.in_, x.t.map (·.1)), (q, c1)) := ⟨_, rfl⟩
  have hlen : qs.length + 1 = (qs ++ [nq]).length := by simp
  have e1 : cel rcRowC qs ++ (#[Value.int .u64 x.in_, .slice q x.t.length c1] : Array Value).toList = cel rcRowC (qs ++ [nq]) := by
   rw [cel_append, hnq]
   simp [cel, rcRowC]
  rw [e1, hlen] at g5
  have g6 := g5.less
  have g7 : St H0 (rcRowP nq :: Prt.row 2 p' (qs ++ [nq]).length cap' (cel rcRowC (qs ++ [nq])) :: Prt.list (qs.map rcRowP) :: Prt.pure (qs.map (·.1) = rows) :: Prt.one b (.cells #[ptrV rb, ptrV qb, .slice p' (qs ++ [nq]).length cap', .int .u64 pl, .int .i64 u, .bool true, .int .u64 x.in_, .slice x.sp x.seen.length x.sc, .slice x.wp x.waits.length x.wc, .int .i64 1048576, .slice x.kp x.t.length x.kc, .slice x.vp x.t.length x.vc] x.T (0, 0)) ::
    Prt.row 1 x.sp x.seen.length x.sc (x.seen.map (Value.int .u64)) :: Prt.row 1 x.wp x.waits.length x.wc (x.waits.map (Value.int .u64)) :: Prt.row 1 x.kp x.t.length x.kc (x.t.map fun e => Value.int .u64 (keyOf e.1)) :: Prt.row 2 x.vp x.t.length x.vc (cel idOf x.t) :: Prt.nil :: Prt.pure F :: M) H5 := by
   have e2 : rcRowP nq = Prt.row 2 q x.t.length c1 (cel idOf x.t) := by
    rw [hnq, cel_idOf]
    unfold rcRowP
    simp only [List.length_map]
   rw [e2]
   exact g6
  have g8 := St.push (i := 1) (M := qs.map rcRowP) g7 rfl
  rw [show qs.map rcRowP ++ [rcRowP nq] = (qs ++ [nq]).map rcRowP by simp] at g8
  have g9 := g8.refact (i := 2) (q := (qs ++ [nq]).map (·.1) = rows ++ [(x.in_, x.t.map (·.1))]) rfl (by rw [List.map_append, hq, hnq]; rfl)
  have hlr : (qs ++ [nq]).length = (rows ++ [(x.in_, x.t.map (·.1))]).length := by simp [hql]
  have g10 := St.gatherEx (M := fun qs : List RcQ => [Prt.row 2 p' qs.length cap' (cel rcRowC qs), Prt.list (qs.map rcRowP), Prt.pure (qs.map (·.1) = rows ++ [(x.in_, x.t.map (·.1))])]) (qs ++ [nq]) g9
  have g11 := St.shutAt (i := 5) g10 rfl
  rw [if_pos rfl]
  unfold rrP
  rw [← hlr]
  exact g11

/-- An object's references are looked at. -/
theorem rrLookC {w : RcRow} {q : Int} (h : St H0 (rrP b rb qb u pl rows un x F ++ M) H) (hi : M[i]? = some (RHeap rb s)) (hj : M[j]? = some (RPaint qb rb p)) (hij : i ≠ j) (hw : RrW w x) (hok : w.ok) (hwl : w.lt 900000) (hlt : p.lt 800000)
  (hK : ∀ x' H', RrW (rcSees s p u w (rcRefs s q)) x' → St H0 (rrP b rb qb u pl rows un x' F ++ M) H' → K (.tuple #[]) H') :
  hcall PR f_ref11_Reacher_look ⟨[.pointer (some ⟨b, 0, none⟩), .int .u64 q]⟩ H K := by
 have hpok : p.ok := rpaint_ok (j := j + 7) (L := rrP b rb qb u pl rows un x F ++ M) h hj
 apply den_ref11_Reacher_look
 unfold B_ref11_Reacher_look
 obtain ⟨z, h0⟩ := St.fixEx (A := rheapParts rb s) (i := i + 7) (L := rrP b rb qb u pl rows un x F ++ M) h hi
 have h0 : St H0 (rrP b rb qb u pl rows un x F ++ M.set i (Prt.list (rheapParts rb s z))) H := h0
 have hil := ltOfGet hi
 obtain ⟨MM, hMM⟩ : ∃ MM, MM = M.set i (Prt.list (rheapParts rb s z)) := ⟨_, rfl⟩
 rw [← hMM] at h0
 have hi0 : MM[i]? = some (Prt.list (rheapParts rb s z)) := by rw [hMM]; simp [hil]
 have hj0 : MM[j]? = some (RPaint qb rb p) := by rw [hMM, List.getElem?_set_ne hij]; exact hj
 have unf : ∀ x' H', St H0 (rrP b rb qb u pl rows un x' F ++ MM) H' → St H0 (rrP b rb qb u pl rows un x' F ++ M) H' := fun x' H' h' => by
  have h2 := St.unfix (A := rheapParts rb s) (x := z) (i := i + 7) h' hi0
  have h2 : St H0 (rrP b rb qb u pl rows un x' F ++ MM.set i (RHeap rb s)) H' := h2
  rw [hMM, List.set_set, List.set_self hi] at h2
  exact h2
 have fix : ∀ x' H', St H0 (rrP b rb qb u pl rows un x' F ++ M) H' → ∃ z', St H0 (rrP b rb qb u pl rows un x' F ++ M.set i (Prt.list (rheapParts rb s z'))) H' := fun x' H' h' => St.fixEx (A := rheapParts rb s) (i := i + 7) (L := rrP b rb qb u pl rows un x' F ++ M) h' hi
 clear fix
 have gz := St.open (i := i + 7) (L := rrP b rb qb u pl rows un x F ++ MM) h0 hi0
 obtain ⟨hp3, hs⟩ := gz.fact (i := 4) (p := z.ps.map (·.1) = s.obs ∧ s.ok) rfl
 (try simp only [Za,Zb,Zc,Zd,Zf,Zh,Zi,Zk,Zl,Zm,Zn,Zo,Zp,Zr,Zs,Zx,Zt,Zu,Zy,Zz,Zv,Zw,ZA,ZB,ZC,ZD])
 refine ldP_of (h0.cell (i := 0) rfl rfl) (rGetC gz hp3 hs (fun hg => ?_) fun jj o bo hjj hk hg hjo => ?_)
 ·simp only [Za,Zb,Zc,Zd,Zf,Zh,Zi,Zk,Zl,Zm,Zn,Zo,Zp,Zr,Zs,Zx,Zt,Zu,Zy,Zz,Zv,Zw,ZA,ZB,ZC,ZD]
  refine hK x H ?_ h
  have : rcRefs s q = [] := by unfold rcRefs; rw [hg]
  rw [this]
  exact hw
 ·simp only [Za,Zb,Zc,Zd,Zf,Zh,Zi,Zk,Zl,Zm,Zn,Zo,Zp,Zr,Zs,Zx,Zt,Zu,Zy,Zz,Zv,Zw,ZA,ZB,ZC,ZD]
  have er : rcRefs s q = o.refs := by unfold rcRefs; rw [hg]
  have hr7 := (hs.obs o (hGet_mem hg).1).refs
  rw [er] at hK
  refine ⟨fun t H' => ∃ (y : Nat) (x' : RrX), t = y ∧ y ≤ o.refs.length ∧ RrW (rcSees s p u w (o.refs.take y)) x' ∧ St H0 (rrP b rb qb u pl rows un x' F ++ MM) H', fun t _ => (o.refs.length - t).toNat, ⟨0, x, rfl, by omega, by rw [List.take_zero]; exact hw, h0⟩, ?_⟩
  clear h h0 gz
  rintro t H2 ⟨y, x', rfl, hy, hw', g5⟩
  obtain ⟨rp, rc, vp, vc, tv⟩ := rthingV (St.open (i := i + 7) (L := rrP b rb qb u pl rows un x' F ++ MM) g5 hi0) hjj
  (try simp only [Za,Zb,Zc,Zd,Zf,Zh,Zi,Zk,Zl,Zm,Zn,Zo,Zp,Zr,Zs,Zx,Zt,Zu,Zy,Zz,Zv,Zw,ZA,ZB,ZC,ZD])
  refine ldSl_of tv.refs ?_
  by_cases hc : (y : Int) < (o.refs.length : Int)
  rotate_left
  ·obtain rfl : y = o.refs.length := by omega
   rw [List.take_length] at hw'
   exact bif_neg hc (hK x' H2 hw' (unf x' H2 g5))
  refine bif_pos hc ?_
  intro R16 hR16
  have hR16 : ∀ x'' H', RrW (rcSee s p u (rcSees s p u w (o.refs.take y)) (o.refs.getD y noId)) x'' → St H0 (rrP b rb qb u pl rows un x'' F ++ MM) H' → R16 H' := fun x'' H' hx h' => by
   refine hR16 H' ?_
   rw [wrap_i64 (by omega) (by omega)]
   exact ⟨⟨y + 1, x'', by omega, by omega, by rw [rcSees_take (by omega)]; exact hx, h'⟩, by (try dsimp only); omega⟩
  have hwy := hok.sees (s := s) (p := p) (u := u) (l := o.refs.take y) hpok
  have hwly := (hwl.sees (s := s) (p := p) (u := u) (l := o.refs.take y)).mono (m := 900007) (by rw [List.length_take]; omega)
  generalize rcSees s p u w (o.refs.take y) = wy at *
  refine ldSl_of tv.refs (idxS Id.len noId tv.rrow (by omega) (by omega) hc fun b1 o1 _ _ hcc => ?_)
  have c0 := hcc 0 (by omega)
  have c1 := hcc 1 (by omega)
  rw [Int.toNat_natCast] at c0 c1
  generalize o.refs.getD y noId = v at *
  (try simp only [Za,Zb,Zc,Zd,Zf,Zh,Zi,Zk,Zl,Zm,Zn,Zo,Zp,Zr,Zs,Zx,Zt,Zu,Zy,Zz,Zv,Zw,ZA,ZB,ZC,ZD])
  refine ldI_of c0 (ldI_of c1 ?_)
  refine box2 g5 fun b25 H3 g6 => ?_
  refine ldI_of (g6.cell (i := 0) rfl rfl) (ldP_of (g6.cell (i := 1) rfl rfl) ?_)
  (try simp only [Za,Zb,Zc,Zd,Zf,Zh,Zi,Zk,Zl,Zm,Zn,Zo,Zp,Zr,Zs,Zx,Zt,Zu,Zy,Zz,Zv,Zw,ZA,ZB,ZC,ZD])
  have nd := (rheapV (St.open (i := i + 8) (L := Prt.one b25 (.cells #[.int .i64 v.n, .int .u64 v.s] ty_api_ID (0, 0)) :: (rrP b rb qb u pl rows un x' F ++ MM)) g6 hi0)).node
  refine ldI_of nd ?_
  unfold rcSee at hR16
  by_cases hn : v.n = s.node
  ·rw [if_pos hn] at hR16
   refine bif_eq hn (ldI_of (g6.cell (i := 0) rfl rfl) (rIsSuspectC (unf x' H3 g6.less) hi hj hij (hlt.mono (by omega)) ?_))
   (try simp only [Za,Zb,Zc,Zd,Zf,Zh,Zi,Zk,Zl,Zm,Zn,Zo,Zp,Zr,Zs,Zx,Zt,Zu,Zy,Zz,Zv,Zw,ZA,ZB,ZC,ZD])
   cases hown : rcOwn s p u v.s
   ·rw [hown, if_neg (by decide)] at hR16
    simp only [Zw]
    exact hR16 x' H3 hw' g6.less
   ·rw [hown, if_pos rfl] at hR16
    simp only [Zv]
    refine ldI_of (g6.cell (i := 0) rfl rfl) (rrPutC g6.less hw' ⟨by have := hwly.seen; omega, by have := hwly.waits; omega⟩ fun x'' H4 hx _ _ g7 => ?_)
    (try simp only [Za,Zb,Zc,Zd,Zf,Zh,Zi,Zk,Zl,Zm,Zn,Zo,Zp,Zr,Zs,Zx,Zt,Zu,Zy,Zz,Zv,Zw,ZA,ZB,ZC,ZD])
    exact hR16 x'' H4 hx g7
  ·rw [if_neg hn] at hR16
   refine bif_ne hn (ldP_of (g6.cell (i := 1) rfl rfl) (ldI_of (g6.cell (i := 0) rfl rfl) (ldI_of (g6.cell (i := 0) rfl rfl) ?_)))
   refine rMetC (y := v) (j := j + 8) g6 hj0 (by have := hlt.2; omega) fun H4 g7 => ?_
   (try simp only [Za,Zb,Zc,Zd,Zf,Zh,Zi,Zk,Zl,Zm,Zn,Zo,Zp,Zr,Zs,Zx,Zt,Zu,Zy,Zz,Zv,Zw,ZA,ZB,ZC,ZD])
   cases hmt : (pMet p v).2
   ·rw [hmt, if_neg (fun h => by cases h.1)] at hR16
    simp only [Zw]
    exact hR16 x' H4 hw' g7.less
   ·simp only [Zv]
    refine ldI_of (g7.cell (i := 1) rfl rfl) ?_
    by_cases hu : (pMet p v).1 > u
    rotate_left
    ·rw [if_neg (fun h => hu h.2)] at hR16
     exact bif_neg hu (hR16 x' H4 hw' g7.less)
    ·rw [if_pos ⟨hmt, hu⟩] at hR16
     have hid : isId v := by
      unfold pMet at hmt
      split at hmt
      ·cases hmt
      ·rename_i r hl
       exact (hpok.ids _ (mlook_mem hl)).1
     refine bif_pos hu (ldI_of (g7.cell (i := 0) rfl rfl) (ldI_of (g7.cell (i := 0) rfl rfl) (ldI_of (g7.cell (i := 0) rfl rfl) (ldI_of (g7.cell (i := 0) rfl rfl) (keyC g7 fun H5 g8 => ?_)))))
     simp only [Za,Zb,Zc,Zd,Zf,Zh,Zi,Zk,Zl,Zm,Zn,Zo,Zp,Zr,Zs,Zx,Zt,Zu,Zy,Zz,Zv,Zw,ZA,ZB,ZC,ZD]
     rw [keyV_id hid]
     refine ⟨ldI_of (g8.cell (i := 0) rfl rfl) (ldI_of (g8.cell (i := 0) rfl rfl) rfl), ?_⟩
     refine rrIdPutC hid g8.less hw' hwy (by have := hwly.outs; omega) fun x'' H6 hx _ _ g9 => ?_
     simp only [Za,Zb,Zc,Zd,Zf,Zh,Zi,Zk,Zl,Zm,Zn,Zo,Zp,Zr,Zs,Zx,Zt,Zu,Zy,Zz,Zv,Zw,ZA,ZB,ZC,ZD]
     exact hR16 x'' H6 hx g9

/-- A step. -/
theorem rrStepC (h : St H0 L H) (hi : L[i]? = some (RHeap rb s)) (hj : L[j]? = some (RPaint qb rb p)) (hk : L[k]? = some (RRc b rb qb c)) (hij : i ≠ j) (hik : i ≠ k) (hjk : j ≠ k) (hlt : c.lt 800000) (hp : p.lt 800000)
  (hK : ∀ H', St H0 (L.set k (RRc b rb qb (rcStep s p c).2)) H' → K (.bool (rcStep s p c).1) H') :
  hcall PR f_ref11_Reacher_Step ⟨[.pointer (some ⟨b, 0, none⟩)]⟩ H K := by
 have hs := rheap_ok h hi
 have hpok := rpaint_ok h hj
 obtain ⟨x, M, g, hf, hM, back⟩ := rrTake h hk
 have hi' := hM i _ hi hik
 have hj' := hM j _ hj hjk
 obtain ⟨hcok, hx⟩ := hf
 have hstep := hcok.step (s := s) (p := p) hs hpok
 have hK : ∀ r c' x' H', rcStep s p c = (r, c') → RrOk c' x' → St H0 (rrP b rb qb c'.suspect c'.place c'.rows c'.now.isSome x' True ++ M) H' → K (.bool r) H' := fun r c' x' H' e ho h' => by
  have hK := hK H'
  rw [e] at hK
  exact hK (back [] c' x' H' (h'.refact (i := 6) rfl ho))
 have g : St H0 (rrP b rb qb c.suspect c.place c.rows c.now.isSome x True ++ M) H := g.refact (i := 6) (q := True) rfl trivial
 have hrl := hlt.rows
 have hxt : x.t.length ≤ 1000000 ∨ c.now = none := by
  cases hn : c.now with
  | none => exact .inr rfl
  | some w =>
   rw [hn] at hx
   have := hx.perm.length_eq
   have := (hlt.now w hn).outs
   exact .inl (by omega)
 apply den_ref11_Reacher_Step
 unfold B_ref11_Reacher_Step
 (try simp only [Za,Zb,Zc,Zd,Zf,Zh,Zi,Zk,Zl,Zm,Zn,Zo,Zp,Zr,Zs,Zx,Zt,Zu,Zy,Zz,Zv,Zw,ZA,ZB,ZC,ZD])
 refine ldSl_of (g.cell (i := 0) rfl rfl) ?_
 have go : rcStep s p c = rcNext s p c ∨ ∃ w q, c.now = some w ∧ w.waits.getLast? = some q := by
  cases hn : c.now with
  | none => left; unfold rcStep; rw [hn]
  | some w =>
   cases hq : w.waits.getLast? with
   | none => left; unfold rcStep; rw [hn]; simp only [hq]
   | some q => right; exact ⟨w, q, rfl, hq⟩
 by_cases hpos : ((x.waits.length : Nat) : Int) > 0
 ·have hne : x.waits ≠ [] := fun e => by rw [e] at hpos; simp at hpos
  obtain ⟨w, hn⟩ : ∃ w, c.now = some w := by
   cases hn : c.now with
   | none => rw [hn] at hx; exact absurd hx hne
   | some w => exact ⟨w, rfl⟩
  rw [hn] at hx
  have hx : RrW w x := hx
  have hwl := hlt.now w hn
  have hwl2 : x.waits.length ≤ 900000 := by rw [hx.waits]; have := hwl.waits; omega
  obtain ⟨q, hq⟩ : ∃ q, w.waits.getLast? = some q := by
   cases hq : w.waits.getLast? with
   | none => exact absurd (hx.waits.trans (List.getLast?_eq_none_iff.1 hq)) hne
   | some q => exact ⟨q, rfl⟩
  have e : rcStep s p c = (true, { c with now := some (rcFollow s p c.suspect w q) }) := by unfold rcStep; rw [hn]; simp only [hq]
  have hw : IntKind.i64.wrap (((x.waits.length : Nat) : Int) - 1) = ((x.waits.length - 1 : Nat) : Int) := by rw [wrap_i64 (by omega) (by omega)]; omega
  refine bif_pos hpos (ldSl_of (g.cell (i := 0) rfl rfl) (ldSl_of (g.cell (i := 0) rfl rfl) ?_))
  rw [hw]
  have hrow := g.row_own (i := 2) rfl
  refine idx1 (g := Value.int .u64) (l := x.waits) (d := 0) hrow.rd (by omega) (by omega) fun b1 o1 _ hcl => ldI_of hcl ?_
  have hq0 : x.waits.getD (((x.waits.length - 1 : Nat) : Int)).toNat 0 = q := by
   rw [Int.toNat_natCast, List.getD_eq_getElem?_getD, ← List.getLast?_eq_getElem?, hx.waits, hq]
   rfl
  rw [hq0]
  refine ldSl_of (g.cell (i := 0) rfl rfl) (ldSl_of (g.cell (i := 0) rfl rfl) ?_)
  rw [hw]
  refine slc_to (by omega) (by have := hrow.2.1; omega) ?_
  rw [Int.toNat_natCast]
  have ht := hrow.take (m := x.waits.length - 1) (by omega)
  rw [Nat.mul_one, ← List.map_take, ← List.dropLast_eq_take] at ht
  have hdl : x.waits.length - 1 = x.waits.dropLast.length := by simp
  rw [hdl] at ht ⊢
  have h3 := g.row_to (i := 2) rfl ht (Goes.refl _ _)
  refine h3.put (i := 0) rfl (by simp) fun H4 h4 => ?_
  have h4 : St H0 (rrP b rb qb c.suspect c.place c.rows c.now.isSome { x with waits := x.waits.dropLast } True ++ M) H4 := h4
  have hx0 : RrW { w with waits := w.waits.dropLast } { x with waits := x.waits.dropLast } := ⟨hx.in_, hx.seen, by simp only; rw [hx.waits], hx.keyed, hx.perm⟩
  refine rrLookC (w := { w with waits := w.waits.dropLast }) h4 hi' hj' hij hx0 (hcok.now w hn).popped ⟨by have := hwl.seen; simp only; omega, by have := hwl.waits; simp only [List.length_dropLast]; omega, by have := hwl.outs; simp only; omega⟩ hp fun x' H5 hx' h5 => ?_
  (try simp only [Za,Zb,Zc,Zd,Zf,Zh,Zi,Zk,Zl,Zm,Zn,Zo,Zp,Zr,Zs,Zx,Zt,Zu,Zy,Zz,Zv,Zw,ZA,ZB,ZC,ZD])
  refine hK true _ x' H5 e ⟨?_, hx'⟩ ?_
  ·rw [e] at hstep; exact hstep
  ·rw [hn] at h5
   exact h5
 ·have hwe : x.waits = [] := List.length_eq_zero_iff.1 (by omega)
  have e : rcStep s p c = rcNext s p c := by
   rcases go with go | ⟨w, q, hn, hq⟩
   ·exact go
   ·rw [hn] at hx
    have hx : RrW w x := hx
    rw [← hx.waits, hwe] at hq
    cases hq
  rw [e] at hK hstep
  refine bif_neg hpos (ldP_of (g.cell (i := 0) rfl rfl) (ldI_of (g.cell (i := 0) rfl rfl) (rNextC (i := i + 7) g hi' ?_)))
  (try simp only [Za,Zb,Zc,Zd,Zf,Zh,Zi,Zk,Zl,Zm,Zn,Zo,Zp,Zr,Zs,Zx,Zt,Zu,Zy,Zz,Zv,Zw,ZA,ZB,ZC,ZD])
  have ended : ∀ (pl' : Int) H', St H0 (rrP b rb qb c.suspect pl' c.rows c.now.isSome x True ++ M) H' → ∀ K' : Value → Hp → Prop, (∀ x' H2, x'.seen = [] → x'.waits = [] → x'.t = [] → St H0 (rrP b rb qb c.suspect pl' (rcEnd c).rows false x' True ++ M) H2 → K' (.tuple #[]) H2) → hcall PR f_ref11_Reacher_end ⟨[.pointer (some ⟨b, 0, none⟩)]⟩ H' K' := fun pl' H' h' K' hK' => by
   cases hn : c.now with
   | none =>
    -- nothing is under way: what lies in the table is given up
    rw [hn] at h'
    have er : (rcEnd c).rows = c.rows := by unfold rcEnd; rw [hn]
    rw [er] at hK'
    exact rrEndC h' (fun h => by cases h) fun x' H2 a1 a2 a3 _ h2 => hK' x' H2 a1 a2 a3 h2
   | some w =>
    rw [hn] at h' hx
    have hx : RrW w x := hx
    have hwok := hcok.now w hn
    have er : (rcEnd c).rows = c.rows ++ [(x.in_, x.t.map (·.1))] := by
     unfold rcEnd
     rw [hn, hx.in_, risen_is hwok.outs hwok.ids hx.keyed hx.perm]
    rw [er] at hK'
    refine rrEndC h' (fun _ => ⟨by omega, hxt.elim id fun h => by rw [hn] at h; cases h⟩) fun x' H2 a1 a2 a3 _ h2 => hK' x' H2 a1 a2 a3 ?_
    rw [Option.isSome_some, if_pos rfl] at h2
    exact h2
  cases hnx : (hNext s c.place).2
  ·simp only [Zw]
   refine ldB_of (g.cell (i := 0) rfl rfl) ?_
   have e2 : rcNext s p c = (c.now.isSome, rcEnd c) := by unfold rcNext; rw [hnx, if_pos rfl]
   rw [e2] at hK hstep
   cases hn : c.now.isSome
   ·simp only [Zw]
    have hn0 : c.now = none := Option.not_isSome_iff_eq_none.1 (by rw [hn]; decide)
    have ec : rcEnd c = c := by unfold rcEnd; rw [hn0]
    rw [hn, ec] at hK
    refine hK false c x H rfl ⟨hcok, ?_⟩ (by rw [hn] at g; rw [hn]; exact g)
    rw [hn0]
    exact hwe
   ·simp only [Zv]
    refine ended c.place H g _ fun x' H2 a1 a2 a3 h2 => ?_
    (try simp only [Za,Zb,Zc,Zd,Zf,Zh,Zi,Zk,Zl,Zm,Zn,Zo,Zp,Zr,Zs,Zx,Zt,Zu,Zy,Zz,Zv,Zw,ZA,ZB,ZC,ZD])
    rw [hn] at hK
    refine hK true (rcEnd c) x' H2 rfl ⟨hstep, ?_⟩ ?_
    ·rw [rcEnd_now]; exact a2
    ·rw [rcEnd_now, rcEnd_suspect, rcEnd_place]; exact h2
  ·simp only [Zv]
   obtain ⟨n, hnn⟩ : ∃ n, n = (hNext s c.place).1 := ⟨_, rfl⟩
   rw [← hnn]
   have hgn : hGet s n ≠ none := by rw [hnn]; exact (hNext_range hs hnx).2
   refine g.put (i := 0) rfl (by simp) fun H2 g2 => ?_
   have g2 : St H0 (rrP b rb qb c.suspect n c.rows c.now.isSome x True ++ M) H2 := g2
   refine ldP_of (g2.cell (i := 0) rfl rfl) ?_
   obtain ⟨y, N, gz, hp3, _⟩ := rheapOpenL (i := i + 7) g2 hi' (.inl rfl)
   refine rGetC gz hp3 hs (fun hg => absurd hg hgn) fun jj o bo hjj hk' hg hjo => ?_
   obtain ⟨rp, rc, vp, vc, tv⟩ := rthingV gz hjj
   (try simp only [Za,Zb,Zc,Zd,Zf,Zh,Zi,Zk,Zl,Zm,Zn,Zo,Zp,Zr,Zs,Zx,Zt,Zu,Zy,Zz,Zv,Zw,ZA,ZB,ZC,ZD])
   refine ldI_of tv.din ?_
   have e2 : rcNext s p c = if 0 < o.din ∧ rcOwn s p c.suspect n = true then (true, { rcEnd { c with place := n } with now := some ⟨n, [n], [n], []⟩ }) else (true, { c with place := n }) := by
    unfold rcNext
    rw [hnx, if_neg (by decide), ← hnn, hg]
   have stay : ¬ (0 < o.din ∧ rcOwn s p c.suspect n = true) → K (.bool true) H2 := fun hno => by
    rw [if_neg hno] at e2
    rw [e2] at hstep
    exact hK true { c with place := n } x H2 e2 ⟨hstep, hx⟩ g2
   by_cases hd : o.din > 0
   rotate_left
   ·exact bif_neg hd (stay fun h => hd h.1)
   refine bif_pos hd (rIsSuspectC g2 hi' hj' hij (hp.mono (by omega)) ?_)
   (try simp only [Za,Zb,Zc,Zd,Zf,Zh,Zi,Zk,Zl,Zm,Zn,Zo,Zp,Zr,Zs,Zx,Zt,Zu,Zy,Zz,Zv,Zw,ZA,ZB,ZC,ZD])
   cases hown : rcOwn s p c.suspect n
   ·simp only [Zw]
    exact stay fun h => by rw [hown] at h; cases h.2
   ·simp only [Zv]
    rw [if_pos ⟨hd, hown⟩] at e2
    rw [e2] at hstep
    refine ended n H2 g2 _ fun x' H3 a1 a2 a3 g3 => ?_
    (try simp only [Za,Zb,Zc,Zd,Zf,Zh,Zi,Zk,Zl,Zm,Zn,Zo,Zp,Zr,Zs,Zx,Zt,Zu,Zy,Zz,Zv,Zw,ZA,ZB,ZC,ZD])
    refine g3.put (i := 0) rfl (by simp) fun H4 g4 => g4.put (i := 0) rfl (by simp) fun H5 g5 => ?_
    have g5 : St H0 (rrP b rb qb c.suspect n (rcEnd c).rows true { x' with in_ := n } True ++ M) H5 := g5
    have hx5 : RrW ⟨n, [], [], []⟩ { x' with in_ := n } := ⟨rfl, a1, a2, by simp only; rw [a3]; exact List.Pairwise.nil, by simp only; rw [a3]⟩
    refine rrPutC (w := ⟨n, [], [], []⟩) g5 hx5 ⟨by simp, by simp⟩ fun x'' H6 hx6 _ _ g6 => ?_
    (try simp only [Za,Zb,Zc,Zd,Zf,Zh,Zi,Zk,Zl,Zm,Zn,Zo,Zp,Zr,Zs,Zx,Zt,Zu,Zy,Zz,Zv,Zw,ZA,ZB,ZC,ZD])
    refine hK true _ x'' H6 e2 ⟨hstep, ?_⟩ ?_
    ·unfold rcPut at hx6
     rw [if_neg (by simp)] at hx6
     exact hx6
    ·have er : (rcEnd { c with place := n }).rows = (rcEnd c).rows := by
      unfold rcEnd
      cases c.now <;> rfl
     have es : (rcEnd { c with place := n }).suspect = c.suspect := rcEnd_suspect
     have ep : (rcEnd { c with place := n }).place = n := rcEnd_place
     show St H0 (rrP b rb qb (rcEnd { c with place := n }).suspect (rcEnd { c with place := n }).place (rcEnd { c with place := n }).rows true x'' True ++ M) H6
     rw [er, es, ep]
     exact g6
end
end Go.Proofs.YtflfodcemnapeaaGreat

namespace Go.Proofs.YtflfodcemnapeaaGreat
set_option linter.unusedSimpArgs false
set_option linter.unusedVariables false
open Go
section
variable {H0 H : Hp} {L M : List Prt} {i j rb qb : Nat} {s : Hs} {p : Ps} {K : Value → Hp → Prop}
theorem rBlackenC {k : Int} (h : St H0 L H) (hi : L[i]? = some (RHeap rb s)) (hj : L[j]? = some (RPaint qb rb p)) (hij : i ≠ j) (hlt : p.lt 900000) (hK : ∀ H', St H0 (L.set j (RPaint qb rb (pBlacken s p k))) H' → K (.tuple #[]) H') :
  hcall PR f_ref11_Paint_Blacken ⟨[.pointer (some ⟨qb, 0, none⟩), .int .u64 k]⟩ H K := by
 obtain ⟨x, M, g, hf, hM, back⟩ := rpaintTakeN h hj
 have hi' := hM i _ hi hij
 have hl1 := hlt.1
 have ho := hf.1
 apply den_ref11_Paint_Blacken
 unfold B_ref11_Paint_Blacken
 (try simp only [Za,Zb,Zc,Zd,Zf,Zh,Zi,Zk,Zl,Zm,Zn,Zo,Zp,Zr,Zs,Zx,Zt,Zu,Zy,Zz,Zv,Zw,ZA,ZB,ZC,ZD])
 have stay : pBlacken s p k = p → K (.tuple #[]) H := fun e => by
  have := hK H
  rw [e, List.set_self hj] at this
  exact this h
 refine ldP_of (g.cell (i := 0) rfl rfl) ?_
 obtain ⟨z, N, gz, hp3, hs⟩ := rheapAt (A := []) g hi' (.inl rfl)
 refine rGetC gz hp3 hs (fun hg => ?_) fun jj o bo hjj hk hg hjo => ?_
 ·(try simp only [Za,Zb,Zc,Zd,Zf,Zh,Zi,Zk,Zl,Zm,Zn,Zo,Zp,Zr,Zs,Zx,Zt,Zu,Zy,Zz,Zv,Zw,ZA,ZB,ZC,ZD])
  exact stay (by unfold pBlacken; rw [if_neg (fun h => h.2 hg)])
 ·(try simp only [Za,Zb,Zc,Zd,Zf,Zh,Zi,Zk,Zl,Zm,Zn,Zo,Zp,Zr,Zs,Zx,Zt,Zu,Zy,Zz,Zv,Zw,ZA,ZB,ZC,ZD])
  refine rFindC g ho.marks (by omega) (fun hl => ?_) fun m v b o' hm hl hmp => ?_
  ·(try simp only [Za,Zb,Zc,Zd,Zf,Zh,Zi,Zk,Zl,Zm,Zn,Zo,Zp,Zr,Zs,Zx,Zt,Zu,Zy,Zz,Zv,Zw,ZA,ZB,ZC,ZD])
   refine ldSl_of (g.cell (i := 0) rfl rfl) ?_
   refine lit_ty_Smooringref11_mark (m := 1) (c := #[.int .u64 k, .int .i64 0, .bool false]) (g.row_own (i := 2) rfl) rfl (by intro w hw; simp at hw; rcases hw with rfl | rfl | rfl <;> rfl) (by omega) fun p1 c1 H2 ho1 hg1 => ?_
   (try simp only [Za,Zb,Zc,Zd,Zf,Zh,Zi,Zk,Zl,Zm,Zn,Zo,Zp,Zr,Zs,Zx,Zt,Zu,Zy,Zz,Zv,Zw,ZA,ZB,ZC,ZD])
   have g2 := g.row_to (i := 2) rfl ho1 hg1
   have eb : pBlacken s p k = { p with marks := mput p.marks k (0, false) } := by unfold pBlacken; rw [if_pos ⟨hl, by rw [hg]; simp⟩]
   have e1 : mput p.marks k (0, false) = p.marks ++ [(k, (0, false))] := by
    unfold mput
    rw [mhas_look, hl, if_neg (by simp)]
   have ok1 := ho.blacken (s := s) (k := k)
   rw [eb] at ok1 hK
   refine g2.put (i := 0) rfl (by simp) fun H3 g3 => ?_
   have g4 := g3.refact (i := 5) (q := ({ p with marks := mput p.marks k (0, false) } : Ps).ok ∧ keyed x.t ∧ x.t.Perm ({ p with marks := mput p.marks k (0, false) } : Ps).met) rfl ⟨ok1, hf.2⟩
   refine hK H3 (back [] { p with marks := mput p.marks k (0, false) } { x with mp := p1, mc := c1 } H3 ?_)
   have e2 : cel markC p.marks ++ (#[Value.int .u64 k, .int .i64 0, .bool false] : Array Value).toList = cel markC (mput p.marks k (0, false)) := by
    rw [e1, cel_append]
    simp [cel, markC]
   have e3 : p.marks.length + 1 = (mput p.marks k (0, false)).length := by rw [e1]; simp
   rw [e2, e3] at g4
   exact g4
  ·(try simp only [Za,Zb,Zc,Zd,Zf,Zh,Zi,Zk,Zl,Zm,Zn,Zo,Zp,Zr,Zs,Zx,Zt,Zu,Zy,Zz,Zv,Zw,ZA,ZB,ZC,ZD])
   exact stay (by unfold pBlacken; rw [if_neg (fun h => by rw [hl] at h; cases h.1)])
theorem rTurnC (h : St H0 L H) (hj : L[j]? = some (RPaint qb rb p)) (hK : ∀ H', St H0 (L.set j (RPaint qb rb (pTurn p))) H' → K (.tuple #[]) H') :
  hcall PR f_ref11_Paint_Turn ⟨[.pointer (some ⟨qb, 0, none⟩)]⟩ H K := by
 obtain ⟨x, M, g, hf, hM, back⟩ := rpaintTakeN h hj
 apply den_ref11_Paint_Turn
 unfold B_ref11_Paint_Turn
 (try simp only [Za,Zb,Zc,Zd,Zf,Zh,Zi,Zk,Zl,Zm,Zn,Zo,Zp,Zr,Zs,Zx,Zt,Zu,Zy,Zz,Zv,Zw,ZA,ZB,ZC,ZD])
 refine ldI_of (g.cell (i := 0) rfl rfl) ?_
 refine g.put (i := 0) rfl (by simp) fun H1 h1 => h1.put (i := 0) rfl (by simp) fun H2 h2 => h2.put (i := 0) rfl (by simp) fun H3 h3 => h3.put (i := 0) rfl (by simp) fun H4 h4 => h4.put (i := 0) rfl (by simp) fun H5 h5 => h5.put (i := 0) rfl (by simp) fun H6 h6 => ?_
 have g1 := St.over (i := 1) (h6.row (H' := _) (Own.nil 1) ((Goes.refl Nothing _).less fun c hc => absurd hc blk_none)) rfl
 have g2 := St.over (i := 2) (g1.row (H' := _) (Own.nil 3) ((Goes.refl Nothing _).less fun c hc => absurd hc blk_none)) rfl
 have g3 := St.over (i := 3) (g2.row (H' := _) (Own.nil 1) ((Goes.refl Nothing _).less fun c hc => absurd hc blk_none)) rfl
 have g4 := St.over (i := 4) (g3.row (H' := _) (Own.nil 3) ((Goes.refl Nothing _).less fun c hc => absurd hc blk_none)) rfl
 have g5 := g4.refact (i := 5) (q := (pTurn p).ok ∧ keyed [] ∧ ([] : List (Id × Int)).Perm (pTurn p).met) rfl ⟨hf.1.turn, List.Pairwise.nil, List.Perm.refl _⟩
 exact hK H6 (back [] (pTurn p) ⟨[], none, 0, none, 0, none, 0, none, 0, x.T⟩ H6 g5)
/-- Its stack, its turns. -/
theorem rStackV (h : St H0 L H) (hj : L[j]? = some (RPaint qb rb p)) : ∃ q c, hcell H ⟨qb, 2, none⟩ = some (.slice q p.stack.length c) ∧ hcell H ⟨qb, 4, none⟩ = some (.int .u64 p.turns) := by
 obtain ⟨x, M, g, hf, hM, back⟩ := rpaintTakeN h hj
 exact ⟨_, _, g.cell (i := 0) rfl rfl, g.cell (i := 0) rfl rfl⟩
end
end Go.Proofs.YtflfodcemnapeaaGreat

namespace Go.Proofs.YtflfodcemnapeaaGreat
set_option linter.unusedSimpArgs false
set_option linter.unusedVariables false
open Go
/-- An element of rows that are told. -/
theorem RowsV.row {H : Hp} {q : Option Addr} {rows : List (Int × List Id)} {qs : List RcQ} (v : RowsV H q rows qs) {k : Nat} (hk : k < rows.length) {Q : Addr → Prop}
  (hQ : ∀ a, hcell H a = some (.int .u64 (rows.getD k (0, [])).1) → (∃ p c, hcell H (a.add 1) = some (.slice p (rows.getD k (0, [])).2.length c) ∧ Rd H 2 p (rows.getD k (0, [])).2.length (cel Id.cells (rows.getD k (0, [])).2)) → Q a) : idxA q rows.length (k : Int) 2 Q := by
 have hl := v.len
 have hkq : k < qs.length := by omega
 rw [← hl]
 refine idxS rcRowC_len ((0, []), (none, 0)) v.2.1 (by omega) (by omega) (by omega) fun b o hp hlz hcs => ?_
 have hgd : qs.getD ((k : Nat) : Int).toNat ((0, []), (none, 0)) = qs[k] := by rw [Int.toNat_natCast, List.getD_eq_getElem?_getD, List.getElem?_eq_getElem hkq]; rfl
 have hr : rows.getD k (0, []) = qs[k].1 := by
  rw [← v.1, List.getD_eq_getElem?_getD, List.getElem?_map, List.getElem?_eq_getElem hkq]
  rfl
 have g0 := hcs 0 (by omega)
 have g1 := hcs 1 (by omega)
 rw [hgd] at g0 g1
 rw [hr] at hQ
 exact hQ _ g0 ⟨_, _, g1, v.2.2 _ (List.getElem_mem hkq)⟩
theorem handRowsC {H : Hp} {K : Value → Hp → Prop} {a b : Option Addr} {c d : Nat} {rows : List (Int × List Id)} {qa qb : List RcQ} (va : RowsV H a rows qa) (vb : RowsV H b rows qb) (hl : rows.length ≤ 1000000) (ho : ∀ r ∈ rows, r.2.length ≤ 1000000) (hK : K (.bool true) H) :
  hcall PR f_hand_Rows ⟨[.slice a rows.length c, .slice b rows.length d]⟩ H K := by
 apply den_hand_Rows
 unfold B_hand_Rows
 refine bif_neqf rfl ?_
 refine ⟨fun i H' => H' = H ∧ ∃ y : Nat, i = y ∧ y ≤ rows.length, fun i _ => ((rows.length : Int) - i).toNat, ⟨rfl, 0, rfl, by omega⟩, ?_⟩
 rintro i H' ⟨hH, y, rfl, hy⟩
 subst hH
 by_cases hc : (y : Int) < ((rows.length : Nat) : Int)
 rotate_left
 ·exact bif_neg hc hK
 have hyl : y < rows.length := by omega
 have hm : rows.getD y (0, []) ∈ rows := by rw [List.getD_eq_getElem?_getD, List.getElem?_eq_getElem hyl]; exact List.getElem_mem hyl
 have hrl := ho _ hm
 refine bif_pos hc (va.row hyl fun e1 c1 d1 => ldI_of c1 (vb.row hyl fun e2 c2 d2 => ldI_of c2 (bif_neqf rfl ?_)))
 refine va.row hyl fun e1 c1 ⟨p1, k1, d1, r1⟩ => ldSl_of d1 (vb.row hyl fun e2 c2 ⟨p2, k2, d2, r2⟩ => ldSl_of d2 (ids_same r1 r2 (by omega) ?_))
 simp only [Za,Zb,Zc,Zd,Zf,Zh,Zi,Zk,Zl,Zm,Zn,Zo,Zp,Zr,Zs,Zx,Zt,Zu,Zy,Zz,Zv,Zw,ZA,ZB,ZC,ZD]
 rw [wrap_i64 (by omega) (by omega)]
 exact ⟨⟨by trivial, y + 1, by omega, by omega⟩, by (try dsimp only); omega⟩

end Go.Proofs.YtflfodcemnapeaaGreat
