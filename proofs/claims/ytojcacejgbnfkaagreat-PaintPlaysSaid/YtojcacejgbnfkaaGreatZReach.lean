/- Merged by merge.py: RcS, RcLay, DenReach, RcP, RcP2, RcR, RcR2, RcR3. No condition. -/
import Derived.Test.YtojcacejgbnfkaaGreatZPaint
import Derived.Test.YtojcacejgbnfkaaGreatZMark
import Derived.Shelf.Lay
import Derived.Ground.SlsfProg
import Derived.Test.YtojcacejgbnfkaaGreatZNum
import Derived.Test.YtojcacejgbnfkaaGreatZSweep

namespace Go.Proofs.YtojcacejgbnfkaaGreat
set_option linter.unusedSimpArgs false
set_option linter.unusedVariables false
open Go
/-- A row under way. -/
structure RcRow where
  in_ : Int
  seen : List Int
  waits : List Int
  outs : List (Id × Int)
/-- A reacher. -/
structure Rc where
  suspect : Int
  place : Int
  now : Option RcRow
  rows : List (Int × List Id)

def risen (l : List (Id × Int)) : List (Id × Int) := l.foldl (fun t e => tPut t e.1 e.2) []
def rcOwn (s : Hs) (p : Ps) (u k : Int) : Bool := (pMark s p k).2.2 && decide (u < (pMark s p k).1)
def rcPut (w : RcRow) (k : Int) : RcRow := if k ∈ w.seen then w else { w with seen := w.seen ++ [k], waits := w.waits ++ [k] }
def rcSee (s : Hs) (p : Ps) (u : Int) (w : RcRow) (x : Id) : RcRow :=
  if x.n = s.node then (if rcOwn s p u x.s then rcPut w x.s else w)
  else if (pMet p x).2 = true ∧ u < (pMet p x).1 then { w with outs := mput w.outs x 1 } else w
def rcRefs (s : Hs) (k : Int) : List Id := match hGet s k with | some o => o.refs | none => []
def rcSees (s : Hs) (p : Ps) (u : Int) (w : RcRow) (l : List Id) : RcRow := l.foldl (rcSee s p u) w
def rcFollow (s : Hs) (p : Ps) (u : Int) (w : RcRow) (k : Int) : RcRow := rcSees s p u { w with waits := w.waits.dropLast } (rcRefs s k)
def rcEnd (c : Rc) : Rc := match c.now with
  | none => c
  | some w => { c with now := none, rows := c.rows ++ [(w.in_, (risen w.outs).map (·.1))] }
def rcNext (s : Hs) (p : Ps) (c : Rc) : Bool × Rc :=
  if (hNext s c.place).2 = false then (c.now.isSome, rcEnd c)
  else match hGet s (hNext s c.place).1 with
    | some o => if 0 < o.din ∧ rcOwn s p c.suspect (hNext s c.place).1 = true then (true, { rcEnd { c with place := (hNext s c.place).1 } with now := some ⟨(hNext s c.place).1, [(hNext s c.place).1], [(hNext s c.place).1], []⟩ })
      else (true, { c with place := (hNext s c.place).1 })
    | none => (true, { c with place := (hNext s c.place).1 })
def rcStep (s : Hs) (p : Ps) (c : Rc) : Bool × Rc := match c.now with
  | some w => match w.waits.getLast? with
    | some k => (true, { c with now := some (rcFollow s p c.suspect w k) })
    | none => rcNext s p c
  | none => rcNext s p c
structure RcRow.ok (w : RcRow) : Prop where
  seen : w.seen.Nodup
  waits : ∀ k ∈ w.waits, k ∈ w.seen
  outs : mnod w.outs
  ids : ∀ e ∈ w.outs, isId e.1
structure Rc.ok (c : Rc) : Prop where
  place : 0 ≤ c.place
  now : ∀ w, c.now = some w → w.ok
structure RcRow.lt (w : RcRow) (n : Nat) : Prop where
  seen : w.seen.length ≤ n
  waits : w.waits.length ≤ n
  outs : w.outs.length ≤ n
structure Rc.lt (c : Rc) (n : Nat) : Prop where
  now : ∀ w, c.now = some w → w.lt n
  rows : c.rows.length ≤ n
  outs : ∀ r ∈ c.rows, r.2.length ≤ n

section
variable {s : Hs} {p : Ps} {u k : Int} {w : RcRow} {c : Rc} {x : Id} {n : Nat}
theorem risen_len {l : List (Id × Int)} : (risen l).length ≤ l.length := by
  have : ∀ (l t : List (Id × Int)), (l.foldl (fun t e => tPut t e.1 e.2) t).length ≤ t.length + l.length := fun l => by
    induction l with
    | nil => intro t; exact Nat.le_refl _
    | cons e l ih =>
      intro t
      have := ih (tPut t e.1 e.2)
      have := tPut_length (t := t) (y := e.1) (r := e.2)
      simp only [List.foldl_cons, List.length_cons]
      omega
  have := this l []
  simpa [risen] using this

theorem pMet_id (ho : p.ok) (h : (pMet p x).2 = true) : isId x ∧ mlook p.met x = some (pMet p x).1 := by
  unfold pMet at h ⊢
  cases hl : mlook p.met x with
  | none => rw [hl] at h; cases h
  | some r => exact ⟨(ho.ids _ (mlook_mem hl)).1, rfl⟩
theorem RcRow.ok.put (h : w.ok) (k : Int) : (rcPut w k).ok := by
  unfold rcPut
  split
  · exact h
  · rename_i hk
    refine ⟨?_, fun j hj => ?_, h.outs, h.ids⟩
    · rw [List.nodup_append]
      exact ⟨h.seen, by simp, fun a ha b hb e => by simp at hb; rw [e, hb] at ha; exact hk ha⟩
    · rcases List.mem_append.1 hj with hj | hj
      · exact List.mem_append.2 (.inl (h.waits j hj))
      · exact List.mem_append.2 (.inr hj)
theorem RcRow.ok.see (ho : p.ok) (h : w.ok) (x : Id) : (rcSee s p u w x).ok := by
  unfold rcSee
  split
  · split
    · exact h.put _
    · exact h
  · split
    · rename_i hc
      refine ⟨h.seen, h.waits, mput_nod h.outs _ _, fun e he => ?_⟩
      rcases mput_mem he with rfl | he
      · exact (pMet_id ho hc.1).1
      · exact h.ids e he
    · exact h
theorem RcRow.ok.sees (ho : p.ok) {l : List Id} (h : w.ok) : (rcSees s p u w l).ok := by
  unfold rcSees
  induction l generalizing w with
  | nil => exact h
  | cons y l ih => exact ih (h.see ho y)
theorem RcRow.ok.popped (h : w.ok) : ({ w with waits := w.waits.dropLast } : RcRow).ok := ⟨h.seen, fun k hk => h.waits k (List.dropLast_subset _ hk), h.outs, h.ids⟩
theorem RcRow.ok.follow (ho : p.ok) (h : w.ok) (k : Int) : (rcFollow s p u w k).ok := h.popped.sees ho
theorem rcEnd_place : (rcEnd c).place = c.place := by unfold rcEnd; split <;> rfl
theorem rcEnd_now : (rcEnd c).now = none := by unfold rcEnd; split <;> first | assumption | rfl
theorem Rc.ok.step (ho : s.ok) (hp : p.ok) (h : c.ok) : (rcStep s p c).2.ok := by
  have next : (rcNext s p c).2.ok := by
    unfold rcNext
    split
    · exact ⟨by rw [rcEnd_place]; exact h.place, fun w hw => by rw [rcEnd_now] at hw; cases hw⟩
    · rename_i hn
      have hn := hNext_pos ho (q := c.place) (by simpa using hn)
      have h0 := h.place
      split
      · split
        · refine ⟨?_, fun w hw => ?_⟩
          · show 0 ≤ (rcEnd _).place
            rw [rcEnd_place]; show 0 ≤ (hNext s c.place).1; omega
          · cases hw
            exact ⟨by simp, fun k hk => hk, List.nodup_nil, fun e he => by cases he⟩
        · exact ⟨by show 0 ≤ (hNext s c.place).1; omega, h.now⟩
      · exact ⟨by show 0 ≤ (hNext s c.place).1; omega, h.now⟩
  unfold rcStep
  split
  · rename_i w hw
    split
    · exact ⟨h.place, fun w' hw' => by cases hw'; exact (h.now w hw).follow hp _⟩
    · exact next
  · exact next

theorem RcRow.lt.mono {m : Nat} (h : w.lt n) (hm : n ≤ m) : w.lt m := ⟨Nat.le_trans h.seen hm, Nat.le_trans h.waits hm, Nat.le_trans h.outs hm⟩
theorem Rc.lt.mono {m : Nat} (h : c.lt n) (hm : n ≤ m) : c.lt m := ⟨fun w hw => (h.now w hw).mono hm, Nat.le_trans h.rows hm, fun r hr => Nat.le_trans (h.outs r hr) hm⟩
theorem RcRow.lt.see (h : w.lt n) : (rcSee s p u w x).lt (n + 1) := by
  obtain ⟨h1, h2, h3⟩ := h
  unfold rcSee rcPut
  split
  · split
    · split
      · exact ⟨by omega, by omega, by omega⟩
      · exact ⟨by simp; omega, by simp; omega, by simp only; omega⟩
    · exact ⟨by omega, by omega, by omega⟩
  · split
    · have := (mput_length (l := w.outs) (k := x) (x := (1 : Int))).1
      exact ⟨by simp only; omega, by simp only; omega, by simp only; omega⟩
    · exact ⟨by omega, by omega, by omega⟩
theorem RcRow.lt.sees {l : List Id} (h : w.lt n) : (rcSees s p u w l).lt (n + l.length) := by
  unfold rcSees
  induction l generalizing w n with
  | nil => exact h
  | cons y l ih => exact (ih (h.see (x := y))).mono (by simp; omega)
theorem rcRefs_len (ho : s.ok) : (rcRefs s k).length ≤ 7 := by
  unfold rcRefs
  split
  · rename_i o hg; exact (ho.obs o (hGet_mem hg).1).refs
  · simp
theorem Rc.lt.ended (h : c.lt n) : (rcEnd c).lt (n + 1) := by
  unfold rcEnd
  split
  · exact h.mono (by omega)
  · rename_i w hw
    have h1 := h.rows
    refine ⟨fun w hw => (by cases hw), by simp; omega, fun r hr => ?_⟩
    rcases List.mem_append.1 hr with hr | hr
    · exact Nat.le_trans (h.outs r hr) (by omega)
    · simp at hr
      subst hr
      have := risen_len (l := w.outs)
      have := (h.now w hw).outs
      simp only [List.length_map]
      omega
theorem Rc.lt.step (ho : s.ok) (h : c.lt n) : (rcStep s p c).2.lt (n + 7) := by
  have next : (rcNext s p c).2.lt (n + 7) := by
    unfold rcNext
    split
    · exact h.ended.mono (by omega)
    · split
      · split
        · have h1 : Rc.lt { c with place := (hNext s c.place).1 } n := ⟨h.now, h.rows, h.outs⟩
          have h2 := h1.ended.mono (m := n + 7) (by omega)
          refine ⟨fun w hw => ?_, h2.rows, h2.outs⟩
          cases hw
          exact ⟨by simp, by simp, by simp⟩
        · exact (⟨h.now, h.rows, h.outs⟩ : Rc.lt { c with place := (hNext s c.place).1 } n).mono (by omega)
      · exact (⟨h.now, h.rows, h.outs⟩ : Rc.lt { c with place := (hNext s c.place).1 } n).mono (by omega)
  unfold rcStep
  split
  · rename_i w hw
    split
    · have hl : ∀ k, (rcRefs s k).length ≤ 7 := fun k => rcRefs_len ho
      refine ⟨fun w' hw' => ?_, Nat.le_trans h.rows (by omega), fun r hr => Nat.le_trans (h.outs r hr) (by omega)⟩
      cases hw'
      have h1 := h.now w hw
      have h0 : ({ w with waits := w.waits.dropLast } : RcRow).lt n := ⟨h1.seen, by have := h1.waits; simp; omega, h1.outs⟩
      rename_i k hk
      exact h0.sees.mono (by have := hl k; omega)
    · exact next
  · exact next
/-- What is seen is of the heap. -/
def Rc.within (s : Hs) (c : Rc) : Prop := ∀ w, c.now = some w → ∀ k ∈ w.seen, hGet s k ≠ none
theorem rcOwn_has (h : rcOwn s p u k = true) : hGet s k ≠ none ∧ ∃ r g, mlook p.marks k = some (r, g) ∧ u < r := by
  unfold rcOwn pMark at h
  cases hl : mlook p.marks k with
  | none => rw [hl] at h; simp at h
  | some e =>
    obtain ⟨r, g⟩ := e
    rw [hl] at h
    simp only at h
    by_cases hg : hGet s k = none
    · simp [hg] at h
    · simp only [hg, if_false] at h
      exact ⟨hg, r, g, rfl, by simpa using h⟩
theorem rcSee_seen {k : Int} (h : k ∈ (rcSee s p u w x).seen) : k ∈ w.seen ∨ (x.n = s.node ∧ k = x.s ∧ rcOwn s p u k = true) := by
  unfold rcSee rcPut at h
  split at h
  · rename_i hn
    split at h
    · rename_i ho
      split at h
      · exact .inl h
      · rcases List.mem_append.1 h with h | h
        · exact .inl h
        · simp at h; subst h; exact .inr ⟨hn, rfl, ho⟩
    · exact .inl h
  · split at h <;> exact .inl h
theorem rcSees_seen {k : Int} : ∀ {l : List Id} {w : RcRow}, k ∈ (rcSees s p u w l).seen → k ∈ w.seen ∨ ∃ x ∈ l, x.n = s.node ∧ k = x.s ∧ rcOwn s p u k = true
  | [], w, h => .inl h
  | y :: l, w, h => by
    rcases rcSees_seen (l := l) (w := rcSee s p u w y) h with h | ⟨x, hx, h⟩
    · rcases rcSee_seen h with h | h
      · exact .inl h
      · exact .inr ⟨y, by simp, h⟩
    · exact .inr ⟨x, by simp [hx], h⟩
theorem Rc.within.step (ho : s.ok) (h : c.within s) : (rcStep s p c).2.within s := by
  have next : (rcNext s p c).2.within s := by
    unfold rcNext
    split
    · intro w hw
      rw [rcEnd_now] at hw
      cases hw
    · rename_i hn
      split
      · rename_i o hg
        split
        · intro w hw k hk
          cases hw
          simp at hk
          rw [hk, hg]
          simp
        · exact h
      · exact h
  unfold rcStep
  split
  · rename_i w hw
    split
    · intro w' hw' k hk
      cases hw'
      rcases rcSees_seen hk with hk | ⟨x, _, _, _, h3⟩
      · exact h w hw k hk
      · exact (rcOwn_has h3).1
    · exact next
  · exact next
end
end Go.Proofs.YtojcacejgbnfkaaGreat

namespace Go.Proofs.YtojcacejgbnfkaaGreat
open Go
open Go.Shelf Go.RowKit Go.Lib
end Go.Proofs.YtojcacejgbnfkaaGreat

namespace Go.Proofs.YtojcacejgbnfkaaGreat
open Go
set_option linter.unusedVariables false
set_option maxRecDepth 100000
end Go.Proofs.YtojcacejgbnfkaaGreat

namespace Go.Proofs.YtojcacejgbnfkaaGreat
set_option linter.unusedSimpArgs false
set_option linter.unusedVariables false
open Go
open Go.Shelf Go.RowKit Go.Lib
instance : Inhabited Id := ⟨noId⟩

/-- A row that is told, and where its list lies. -/
abbrev RcQ := (Int × List Id) × (Option Addr × Nat)
def rcRowC (q : RcQ) : List Value := [.int .u64 q.1.1, .slice q.2.1 q.1.2.length q.2.2]
section
variable {H0 H : Hp} {L M : List Prt} {i j k b hb pb : Nat} {s : Hs} {p : Ps} {c : Rc} {K : Value → Hp → Prop}
end
end Go.Proofs.YtojcacejgbnfkaaGreat

namespace Go.Proofs.YtojcacejgbnfkaaGreat
set_option linter.unusedSimpArgs false
set_option linter.unusedVariables false
open Go
section
variable {H0 H : Hp} {L M : List Prt} {i j k b hb pb : Nat} {s : Hs} {p : Ps} {c : Rc} {K : Value → Hp → Prop}
/-- How rows read. -/
def RowsV (H : Hp) (q : Option Addr) (rows : List (Int × List Id)) (qs : List RcQ) : Prop := qs.map (·.1) = rows ∧ Rd H 2 q qs.length (cel rcRowC qs) ∧ ∀ r ∈ qs, Rd H 2 r.2.1 r.1.2.length (cel Id.cells r.1.2)
theorem RowsV.len {q : Option Addr} {rows : List (Int × List Id)} {qs : List RcQ} (v : RowsV H q rows qs) : qs.length = rows.length := by rw [← v.1, List.length_map]
theorem RowsV.st {q : Option Addr} {rows : List (Int × List Id)} {qs : List RcQ} (v : RowsV H0 q rows qs) (h : St H0 L H) : RowsV H q rows qs := ⟨v.1, h.rd v.2.1, fun r hr => h.rd (v.2.2 r hr)⟩
end
end Go.Proofs.YtojcacejgbnfkaaGreat

namespace Go.Proofs.YtojcacejgbnfkaaGreat
set_option linter.unusedSimpArgs false
set_option linter.unusedVariables false
open Go
structure RrX where
  in_ : Int
  seen : List Int
  waits : List Int
  t : List (Id × Int)
  rp : Option Addr
  rc : Nat
  sp : Option Addr
  sc : Nat
  wp : Option Addr
  wc : Nat
  kp : Option Addr
  kc : Nat
  vp : Option Addr
  vc : Nat
  T : Nat
section
variable {H0 H : Hp} {L M : List Prt} {i j k b rb qb : Nat} {s : Hs} {p : Ps} {c : Rc} {x : RrX} {u pl : Int} {rows : List (Int × List Id)} {un : Bool} {F : Prop} {K : Value → Hp → Prop}
end
end Go.Proofs.YtojcacejgbnfkaaGreat

namespace Go.Proofs.YtojcacejgbnfkaaGreat
set_option linter.unusedSimpArgs false
set_option linter.unusedVariables false
open Go
section
variable {H0 H : Hp} {L M : List Prt} {i j k b rb qb : Nat} {s : Hs} {p : Ps} {c : Rc} {x : RrX} {u pl : Int} {rows : List (Int × List Id)} {un : Bool} {F : Prop} {K : Value → Hp → Prop}
theorem met_get {t : List (Id × Int)} {y : Id} (hp : p.ok) (hk : keyed t) (hperm : t.Perm p.met) : (tGet t (keyV y) = none → pMet p y = (0, false)) ∧ ∀ e, tGet t (keyV y) = some e → if e.1 = y then pMet p y = (e.2, true) ∧ isId y else pMet p y = (0, false) := by
  have inn : ∀ r, mlook p.met y = some r → isId y ∧ (y, r) ∈ t := fun r hr => by
    have hm := mlook_mem hr
    exact ⟨(hp.ids _ hm).1, hperm.mem_iff.2 hm⟩
  refine ⟨fun hg => ?_, fun e hg => ?_⟩
  · unfold pMet
    cases hl : mlook p.met y with
    | none => rfl
    | some r =>
      obtain ⟨h1, h2⟩ := inn r hl
      rw [keyV_id h1] at hg
      exact absurd rfl (tGet_none hk hg _ h2)
  · obtain ⟨e1, e2, e3⟩ := tGet_some hg
    have hem := hperm.mem_iff.1 e3
    have hei := (hp.ids _ hem).1
    split
    · rename_i e
      subst e
      refine ⟨?_, hei⟩
      unfold pMet
      rw [mlook_of hp.met hem]
    · rename_i e
      unfold pMet
      cases hl : mlook p.met y with
      | none => rfl
      | some r =>
        obtain ⟨h1, h2⟩ := inn r hl
        rw [keyV_id h1] at e2
        exact absurd (keyOf_inj hei h1 e2) e
theorem rMetC {y : Id} (h : St H0 L H) (hj : L[j]? = some (RPaint qb rb p)) (hl : p.met.length ≤ 2000000) (hK : ∀ H', St H0 L H' → K (.tuple #[.int .i64 (pMet p y).1, .bool (pMet p y).2]) H') :
    hcall PR f_ref11_Paint_Met ⟨[.pointer (some ⟨qb, 0, none⟩), .agg #[.int .i64 y.n, .int .u64 y.s]]⟩ H K := by
  obtain ⟨x, M, g, hf, hM, back⟩ := rpaintTakeN h hj
  have htl : x.t.length = p.met.length := hf.2.2.length_eq
  have hK : ∀ H', St H0 (rpaintParts qb rb p x ++ M) H' → K (.tuple #[.int .i64 (pMet p y).1, .bool (pMet p y).2]) H' := fun H' h' => hK H' (by
    have := back [] p x H' h'
    rwa [List.nil_append, List.set_self hj] at this)
  obtain ⟨m1, m2⟩ := met_get (y := y) hf.1 hf.2.1 hf.2.2
  apply den_ref11_Paint_Met
  unfold B_ref11_Paint_Met
  intro b4 hb4
  have g1 := g.alloc (o := .cells #[.int .i64 y.n, .int .u64 y.s] ty_api_ID) hb4
  intro R6 hR6
  have hR6 : ∀ bo H', St H0 (Prt.one bo (.cells #[.int .i64 ((tGet x.t (keyV y)).getD (noId, 0)).1.n, .int .u64 ((tGet x.t (keyV y)).getD (noId, 0)).1.s, .int .i64 ((tGet x.t (keyV y)).getD (noId, 0)).2] ty_api_Out (0, 0)) :: Prt.one b4 (.cells #[.int .i64 y.n, .int .u64 y.s] ty_api_ID (0, 0)) :: (rpaintParts qb rb p x ++ M)) H' → R6 (some ⟨bo, 0, none⟩) (tGet x.t (keyV y)).isSome H' := fun bo H' h' => by
    refine hR6 _ _ H' ?_
    cases hg : tGet x.t (keyV y) with
    | none =>
      rw [m1 hg] at hK
      simp only [Option.isSome_none, Bool.not_false, condT]
      exact hK H' (St.lesses (M := [_, _]) h')
    | some e =>
      have hm := m2 e hg
      rw [hg] at h'
      simp only [Option.getD_some] at h'
      simp only [Option.isSome_some, Bool.not_true, condF]
      (try simp only [asI_mk', asB_mk, asP_mk, asA_mk, asM_mk, asSl_mk, asStr_mk, tup2_mk, tup3_mk, agg1_mk, agg2_mk, agg3_mk, agg4_mk, asAggm, unCons_mk, unNil_mk, asTup_mk, extractD0, extractD1, List.toList_toArray, nilP_mk, add_mk, Nat.zero_add, Nat.add_zero, condT, condF, Bool.not_true, Bool.not_false, Option.isNone_some, Option.isNone_none])
      refine ldI_of (h'.cell (i := 0) rfl rfl) (ldI_of (h'.cell (i := 0) rfl rfl) (ldI_of (h'.cell (i := 1) rfl rfl) (ldI_of (h'.cell (i := 1) rfl rfl) (idNe ?_))))
      by_cases ey : e.1 = y
      · rw [if_pos ey] at hm
        rw [hm.1] at hK
        rw [show decide ((⟨e.1.n, e.1.s⟩ : Id) = ⟨y.n, y.s⟩) = true from decide_eq_true ey]
        (try simp only [asI_mk', asB_mk, asP_mk, asA_mk, asM_mk, asSl_mk, asStr_mk, tup2_mk, tup3_mk, agg1_mk, agg2_mk, agg3_mk, agg4_mk, asAggm, unCons_mk, unNil_mk, asTup_mk, extractD0, extractD1, List.toList_toArray, nilP_mk, add_mk, Nat.zero_add, Nat.add_zero, condT, condF, Bool.not_true, Bool.not_false, Option.isNone_some, Option.isNone_none])
        exact ldI_of (h'.cell (i := 0) rfl rfl) (hK H' (St.lesses (M := [_, _]) h'))
      · rw [if_neg ey] at hm
        rw [hm] at hK
        rw [show decide ((⟨e.1.n, e.1.s⟩ : Id) = ⟨y.n, y.s⟩) = false from decide_eq_false ey]
        (try simp only [asI_mk', asB_mk, asP_mk, asA_mk, asM_mk, asSl_mk, asStr_mk, tup2_mk, tup3_mk, agg1_mk, agg2_mk, agg3_mk, agg4_mk, asAggm, unCons_mk, unNil_mk, asTup_mk, extractD0, extractD1, List.toList_toArray, nilP_mk, add_mk, Nat.zero_add, Nat.add_zero, condT, condF, Bool.not_true, Bool.not_false, Option.isNone_some, Option.isNone_none])
        exact hK H' (St.lesses (M := [_, _]) h')
  clear hK
  have tab : ∀ (N : List Prt) H', St H0 (N ++ (rpaintParts qb rb p x ++ M)) H' → hcell H' ⟨qb, 6 + 1, none⟩ = some (.slice x.kp x.t.length x.kc) ∧ Rd H' 1 x.kp x.t.length (x.t.map fun e => Value.int .u64 (keyOf e.1)) ∧ hcell H' ⟨qb, 6 + 2, none⟩ = some (.slice x.vp x.t.length x.vc) ∧ Rd H' 3 x.vp x.t.length (cel outC x.t) := fun N H' h' => by
    have g' := St.lesses (M := N) h'
    exact ⟨g'.cell (i := 0) rfl rfl, g'.row_rd (i := 3) rfl, g'.cell (i := 0) rfl rfl, g'.row_rd (i := 4) rfl⟩
  (try simp only [asI_mk', asB_mk, asP_mk, asA_mk, asM_mk, asSl_mk, asStr_mk, tup2_mk, tup3_mk, agg1_mk, agg2_mk, agg3_mk, agg4_mk, asAggm, unCons_mk, unNil_mk, asTup_mk, extractD0, extractD1, List.toList_toArray, nilP_mk, add_mk, Nat.zero_add, Nat.add_zero, condT, condF, Bool.not_true, Bool.not_false, Option.isNone_some, Option.isNone_none])
  refine ldI_of (g1.cell (i := 0) rfl rfl) (ldI_of (g1.cell (i := 0) rfl rfl) ⟨?_, ?_⟩)
  · refine keyC g1 fun H2 g2 => ?_
    (try simp only [asI_mk', asB_mk, asP_mk, asA_mk, asM_mk, asSl_mk, asStr_mk, tup2_mk, tup3_mk, agg1_mk, agg2_mk, agg3_mk, agg4_mk, asAggm, unCons_mk, unNil_mk, asTup_mk, extractD0, extractD1, List.toList_toArray, nilP_mk, add_mk, Nat.zero_add, Nat.add_zero, condT, condF, Bool.not_true, Bool.not_false, Option.isNone_some, Option.isNone_none])
    refine ⟨?_, ?_⟩
    · refine tGetC (qo := 6) g2 (fun H' h' => tab [_] H' h') (by omega) fun H3 g3 => ?_
      (try simp only [asI_mk', asB_mk, asP_mk, asA_mk, asM_mk, asSl_mk, asStr_mk, tup2_mk, tup3_mk, agg1_mk, agg2_mk, agg3_mk, agg4_mk, asAggm, unCons_mk, unNil_mk, asTup_mk, extractD0, extractD1, List.toList_toArray, nilP_mk, add_mk, Nat.zero_add, Nat.add_zero, condT, condF, Bool.not_true, Bool.not_false, Option.isNone_some, Option.isNone_none])
      intro b36 hb36
      have g4 := g3.alloc (o := .cells #[.int .i64 0, .int .u64 0, .int .i64 0] ty_api_Out) hb36
      exact g4.put (i := 0) rfl (by simp) fun H5 g5 => g5.put (i := 0) rfl (by simp) fun H6 g6 => g6.put (i := 0) rfl (by simp) fun H7 g7 => hR6 b36 H7 g7
    · intro b41 hb41
      have g3 := g2.alloc (o := .cells #[.int .i64 0, .int .u64 0, .int .i64 0] ty_api_Out) hb41
      refine tGetC (qo := 6) g3 (fun H' h' => tab [_, _] H' h') (by omega) fun H4 g4 => ?_
      (try simp only [asI_mk', asB_mk, asP_mk, asA_mk, asM_mk, asSl_mk, asStr_mk, tup2_mk, tup3_mk, agg1_mk, agg2_mk, agg3_mk, agg4_mk, asAggm, unCons_mk, unNil_mk, asTup_mk, extractD0, extractD1, List.toList_toArray, nilP_mk, add_mk, Nat.zero_add, Nat.add_zero, condT, condF, Bool.not_true, Bool.not_false, Option.isNone_some, Option.isNone_none])
      exact g4.put (i := 0) rfl (by simp) fun H5 g5 => g5.put (i := 0) rfl (by simp) fun H6 g6 => g6.put (i := 0) rfl (by simp) fun H7 g7 => hR6 b41 H7 g7
  · intro b57 hb57
    have g2 := g1.alloc (o := .cells #[.int .i64 0, .int .u64 0, .int .i64 0] ty_api_Out) hb57
    refine ⟨ldI_of (g2.cell (i := 1) rfl rfl) (ldI_of (g2.cell (i := 1) rfl rfl) rfl), keyC g2 fun H3 g3 => ?_⟩
    (try simp only [asI_mk', asB_mk, asP_mk, asA_mk, asM_mk, asSl_mk, asStr_mk, tup2_mk, tup3_mk, agg1_mk, agg2_mk, agg3_mk, agg4_mk, asAggm, unCons_mk, unNil_mk, asTup_mk, extractD0, extractD1, List.toList_toArray, nilP_mk, add_mk, Nat.zero_add, Nat.add_zero, condT, condF, Bool.not_true, Bool.not_false, Option.isNone_some, Option.isNone_none])
    refine tGetC (qo := 6) g3 (fun H' h' => tab [_, _] H' h') (by omega) fun H4 g4 => ?_
    (try simp only [asI_mk', asB_mk, asP_mk, asA_mk, asM_mk, asSl_mk, asStr_mk, tup2_mk, tup3_mk, agg1_mk, agg2_mk, agg3_mk, agg4_mk, asAggm, unCons_mk, unNil_mk, asTup_mk, extractD0, extractD1, List.toList_toArray, nilP_mk, add_mk, Nat.zero_add, Nat.add_zero, condT, condF, Bool.not_true, Bool.not_false, Option.isNone_some, Option.isNone_none])
    exact g4.put (i := 0) rfl (by simp) fun H5 g5 => g5.put (i := 0) rfl (by simp) fun H6 g6 => g6.put (i := 0) rfl (by simp) fun H7 g7 => hR6 b57 H7 g7

end
end Go.Proofs.YtojcacejgbnfkaaGreat

namespace Go.Proofs.YtojcacejgbnfkaaGreat
set_option linter.unusedSimpArgs false
set_option linter.unusedVariables false
open Go
section
variable {H0 H : Hp} {L M : List Prt} {i j rb qb : Nat} {s : Hs} {p : Ps} {K : Value → Hp → Prop}
theorem rBlackenC {k : Int} (h : St H0 L H) (hi : L[i]? = some (RHeap rb s)) (hj : L[j]? = some (RPaint qb rb p)) (hij : i ≠ j) (hlt : p.lt 900000) (hK : ∀ H', St H0 (L.set j (RPaint qb rb (pBlacken s p k))) H' → K (.tuple #[]) H') :
    hcall PR f_ref11_Paint_Blacken ⟨[.pointer (some ⟨qb, 0, none⟩), .int .u64 k]⟩ H K := by
  obtain ⟨x, M, g, hf, hM, back⟩ := rpaintTakeN h hj
  have hi' := hM i _ hi hij
  have hl1 := hlt.1
  have ho := hf.1
  apply den_ref11_Paint_Blacken
  unfold B_ref11_Paint_Blacken
  (try simp only [asI_mk', asB_mk, asP_mk, asA_mk, asM_mk, asSl_mk, asStr_mk, tup2_mk, tup3_mk, agg1_mk, agg2_mk, agg3_mk, agg4_mk, asAggm, unCons_mk, unNil_mk, asTup_mk, extractD0, extractD1, List.toList_toArray, nilP_mk, add_mk, Nat.zero_add, Nat.add_zero, condT, condF, Bool.not_true, Bool.not_false, Option.isNone_some, Option.isNone_none])
  have stay : pBlacken s p k = p → K (.tuple #[]) H := fun e => by
    have := hK H
    rw [e, List.set_self hj] at this
    exact this h
  refine ldP_of (g.cell (i := 0) rfl rfl) ?_
  obtain ⟨z, N, gz, hp3, hs⟩ := rheapAt (A := []) g hi' (.inl rfl)
  refine rGetC gz hp3 hs (fun hg => ?_) fun jj o bo hjj hk hg hjo => ?_
  · (try simp only [asI_mk', asB_mk, asP_mk, asA_mk, asM_mk, asSl_mk, asStr_mk, tup2_mk, tup3_mk, agg1_mk, agg2_mk, agg3_mk, agg4_mk, asAggm, unCons_mk, unNil_mk, asTup_mk, extractD0, extractD1, List.toList_toArray, nilP_mk, add_mk, Nat.zero_add, Nat.add_zero, condT, condF, Bool.not_true, Bool.not_false, Option.isNone_some, Option.isNone_none])
    exact stay (by unfold pBlacken; rw [if_neg (fun h => h.2 hg)])
  · (try simp only [asI_mk', asB_mk, asP_mk, asA_mk, asM_mk, asSl_mk, asStr_mk, tup2_mk, tup3_mk, agg1_mk, agg2_mk, agg3_mk, agg4_mk, asAggm, unCons_mk, unNil_mk, asTup_mk, extractD0, extractD1, List.toList_toArray, nilP_mk, add_mk, Nat.zero_add, Nat.add_zero, condT, condF, Bool.not_true, Bool.not_false, Option.isNone_some, Option.isNone_none])
    refine rFindC g ho.marks (by omega) (fun hl => ?_) fun m v b o' hm hl hmp => ?_
    · (try simp only [asI_mk', asB_mk, asP_mk, asA_mk, asM_mk, asSl_mk, asStr_mk, tup2_mk, tup3_mk, agg1_mk, agg2_mk, agg3_mk, agg4_mk, asAggm, unCons_mk, unNil_mk, asTup_mk, extractD0, extractD1, List.toList_toArray, nilP_mk, add_mk, Nat.zero_add, Nat.add_zero, condT, condF, Bool.not_true, Bool.not_false, Option.isNone_some, Option.isNone_none])
      refine ldSl_of (g.cell (i := 0) rfl rfl) ?_
      refine lit_ty_Smooringref11_mark (m := 1) (c := #[.int .u64 k, .int .i64 0, .bool false]) (g.row_own (i := 2) rfl) rfl (by intro w hw; simp at hw; rcases hw with rfl | rfl | rfl <;> rfl) (by omega) fun p1 c1 H2 ho1 hg1 => ?_
      (try simp only [asI_mk', asB_mk, asP_mk, asA_mk, asM_mk, asSl_mk, asStr_mk, tup2_mk, tup3_mk, agg1_mk, agg2_mk, agg3_mk, agg4_mk, asAggm, unCons_mk, unNil_mk, asTup_mk, extractD0, extractD1, List.toList_toArray, nilP_mk, add_mk, Nat.zero_add, Nat.add_zero, condT, condF, Bool.not_true, Bool.not_false, Option.isNone_some, Option.isNone_none])
      have g2 := g.row_to (i := 2) rfl ho1 hg1
      have eb : pBlacken s p k = { p with marks := mput p.marks k (0, false) } := by unfold pBlacken; rw [if_pos ⟨hl, by rw [hg]; simp⟩]
      have e1 : mput p.marks k (0, false) = p.marks ++ [(k, (0, false))] := by
        unfold mput
        rw [mhas_look, hl, if_neg (by simp)]
      have ok1 := ho.blacken (s := s) (k := k)
      rw [eb] at ok1 hK
      refine g2.put (i := 0) rfl (by simp) fun H3 g3 => ?_
      have g4 := g3.refact (i := 5) (q := ({ p with marks := mput p.marks k (0, false) } : Ps).ok ∧ keyed x.t ∧ x.t.Perm ({ p with marks := mput p.marks k (0, false) } : Ps).met) rfl ⟨ok1, hf.2⟩
      refine hK H3 (back [] { p with marks := mput p.marks k (0, false) } { x with mp := p1, mc := c1 } H3 ?_)
      have e2 : cel markC p.marks ++ (#[Value.int .u64 k, .int .i64 0, .bool false] : Array Value).toList = cel markC (mput p.marks k (0, false)) := by
        rw [e1, cel_append]
        simp [cel, markC]
      have e3 : p.marks.length + 1 = (mput p.marks k (0, false)).length := by rw [e1]; simp
      rw [e2, e3] at g4
      exact g4
    · (try simp only [asI_mk', asB_mk, asP_mk, asA_mk, asM_mk, asSl_mk, asStr_mk, tup2_mk, tup3_mk, agg1_mk, agg2_mk, agg3_mk, agg4_mk, asAggm, unCons_mk, unNil_mk, asTup_mk, extractD0, extractD1, List.toList_toArray, nilP_mk, add_mk, Nat.zero_add, Nat.add_zero, condT, condF, Bool.not_true, Bool.not_false, Option.isNone_some, Option.isNone_none])
      exact stay (by unfold pBlacken; rw [if_neg (fun h => by rw [hl] at h; cases h.1)])
theorem rTurnC (h : St H0 L H) (hj : L[j]? = some (RPaint qb rb p)) (hK : ∀ H', St H0 (L.set j (RPaint qb rb (pTurn p))) H' → K (.tuple #[]) H') :
    hcall PR f_ref11_Paint_Turn ⟨[.pointer (some ⟨qb, 0, none⟩)]⟩ H K := by
  obtain ⟨x, M, g, hf, hM, back⟩ := rpaintTakeN h hj
  apply den_ref11_Paint_Turn
  unfold B_ref11_Paint_Turn
  (try simp only [asI_mk', asB_mk, asP_mk, asA_mk, asM_mk, asSl_mk, asStr_mk, tup2_mk, tup3_mk, agg1_mk, agg2_mk, agg3_mk, agg4_mk, asAggm, unCons_mk, unNil_mk, asTup_mk, extractD0, extractD1, List.toList_toArray, nilP_mk, add_mk, Nat.zero_add, Nat.add_zero, condT, condF, Bool.not_true, Bool.not_false, Option.isNone_some, Option.isNone_none])
  refine ldI_of (g.cell (i := 0) rfl rfl) ?_
  refine g.put (i := 0) rfl (by simp) fun H1 h1 => h1.put (i := 0) rfl (by simp) fun H2 h2 => h2.put (i := 0) rfl (by simp) fun H3 h3 => h3.put (i := 0) rfl (by simp) fun H4 h4 => h4.put (i := 0) rfl (by simp) fun H5 h5 => h5.put (i := 0) rfl (by simp) fun H6 h6 => ?_
  have g1 := St.over (i := 1) (h6.row (H' := _) (Own.nil 1) ((Goes.refl Nothing _).less fun c hc => absurd hc blk_none)) rfl
  have g2 := St.over (i := 2) (g1.row (H' := _) (Own.nil 3) ((Goes.refl Nothing _).less fun c hc => absurd hc blk_none)) rfl
  have g3 := St.over (i := 3) (g2.row (H' := _) (Own.nil 1) ((Goes.refl Nothing _).less fun c hc => absurd hc blk_none)) rfl
  have g4 := St.over (i := 4) (g3.row (H' := _) (Own.nil 3) ((Goes.refl Nothing _).less fun c hc => absurd hc blk_none)) rfl
  have g5 := g4.refact (i := 5) (q := (pTurn p).ok ∧ keyed [] ∧ ([] : List (Id × Int)).Perm (pTurn p).met) rfl ⟨hf.1.turn, List.Pairwise.nil, List.Perm.refl _⟩
  exact hK H6 (back [] (pTurn p) ⟨[], none, 0, none, 0, none, 0, none, 0, x.T⟩ H6 g5)
/-- Its stack, its turns. -/
theorem rStackV (h : St H0 L H) (hj : L[j]? = some (RPaint qb rb p)) : ∃ q c, hcell H ⟨qb, 2, none⟩ = some (.slice q p.stack.length c) ∧ hcell H ⟨qb, 4, none⟩ = some (.int .u64 p.turns) := by
  obtain ⟨x, M, g, hf, hM, back⟩ := rpaintTakeN h hj
  exact ⟨_, _, g.cell (i := 0) rfl rfl, g.cell (i := 0) rfl rfl⟩
end
end Go.Proofs.YtojcacejgbnfkaaGreat
