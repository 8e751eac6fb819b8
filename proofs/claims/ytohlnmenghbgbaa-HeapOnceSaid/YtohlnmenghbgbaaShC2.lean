/- That the shallow reading of an operation is the model's. No condition. -/
import Derived.Test.YtohlnmenghbgbaaShC
namespace Go.Proofs.Ytohlnmenghbgbaa
set_option linter.unusedSimpArgs false
set_option linter.unusedVariables false
open Go

variable {P : Program}

theorem run_underlying {t : TypeId} {d : TypeDesc} (h : P.underlying t = some d) (w : World) : (underlying t).run P w = .ok d w := by
  simp [underlying, h]
theorem run_typeInfo {t : TypeId} {d : TypeInfo} (h : P.info? t = some d) (w : World) : (typeInfo t).run P w = .ok d w := by
  simp [typeInfo, h]
theorem run_sizeOf {t : TypeId} {d : TypeInfo} (h : P.info? t = some d) (w : World) : (sizeOf t).run P w = .ok d.size w := by
  simp [sizeOf, run_typeInfo h]
theorem run_isAgg {t : TypeId} {d : TypeDesc} (h : P.underlying t = some d) (w : World) : (isAgg t).run P w = .ok (aggT P t) w := by
  simp only [isAgg, Sem.run_bind, run_underlying h, Result.andThen_ok, aggT, h]
  cases d <;> rfl

theorem run_load_of {w : World} {a : Addr} {K : Value → Prop} (h : ld a (hp w) K) : ∃ v, hcell (hp w) a = some v ∧ K v := by
  unfold ld at h
  split at h
  · exact ⟨_, by assumption, h⟩
  · exact h.elim

theorem run_load_some {w : World} {a : Addr} {v : Value} (h : hcell (hp w) a = some v) : (load a).run P w = .ok v w := by
  rw [run_load, cell?_hp, h]

theorem ldN_run {a : Addr} {H : Hp} : ∀ {n i : Nat} {K : List Value → Prop}, ldN a H i n K →
    ∃ vs, K vs ∧ ∀ w acc, hp w = H → (loadCellsFrom a i n acc).run P w = .ok (acc ++ vs.toArray) w := by
  intro n
  induction n with
  | zero => intro i K h; exact ⟨[], h, fun w acc _ => by simp [loadCellsFrom]⟩
  | succ n ih =>
    intro i K h
    unfold ldN ld at h
    split at h
    · rename_i v hv
      obtain ⟨vs, k, hr⟩ := ih h
      refine ⟨v :: vs, k, fun w acc hw => ?_⟩
      subst hw
      simp only [loadCellsFrom, Sem.run_bind, run_load_some hv, Result.andThen_ok, hr _ _ rfl]
      simp
    · exact h.elim

theorem ldLs_run {a : Addr} {H : Hp} : ∀ {ls : List Leaf} {i : Nat} {K : List Value → Prop}, ldLs a H i ls K →
    ∃ vs, K vs ∧ vs.length = ls.length ∧ ∀ w acc, hp w = H → (loadCellsFrom a i ls.length acc).run P w = .ok (acc ++ vs.toArray) w := by
  intro ls
  induction ls with
  | nil => intro i K h; exact ⟨[], h, rfl, fun w acc _ => by simp [loadCellsFrom]⟩
  | cons l ls ih =>
    intro i K h
    unfold ldLs ld at h
    split at h
    · rename_i v hv
      obtain ⟨vs, k, hl, hr⟩ := ih (Leaf.as_spec h)
      refine ⟨v :: vs, k, by simp [hl], fun w acc hw => ?_⟩
      subst hw
      simp only [List.length_cons, loadCellsFrom, Sem.run_bind, run_load_some hv, Result.andThen_ok, hr _ _ rfl]
      simp
    · exact h.elim

theorem ldT_run {t : TypeId} {a : Addr} {H : Hp} {K : Value → Prop} (h : ldT P t a H K) :
    ∃ v, K v ∧ ∀ w, hp w = H → (loadVar t a).run P w = .ok v w := by
  unfold ldT at h
  split at h
  · exact h.elim
  rename_i d hd
  split at h
  · rename_i hagg
    unfold ld at h
    split at h
    · rename_i v hv
      refine ⟨v, asT_spec h, fun w hw => ?_⟩
      subst hw
      simp only [loadVar, Sem.run_bind, run_isAgg hd, Result.andThen_ok, hagg]
      simpa using run_load_some hv
    · exact h.elim
  · rename_i hagg
    split at h
    · exact h.elim
    rename_i inf hinf
    split at h
    · rename_i ls hls
      cases hb : (ls.length == inf.size)
      · simp [hb] at h
      · rw [hb] at h
        obtain ⟨vs, k, hl, hr⟩ := ldLs_run (P := P) h
        refine ⟨_, k, fun w hw => ?_⟩
        have e : ls.length = inf.size := by simpa using hb
        simp only [loadVar, Sem.run_bind, run_isAgg hd, Result.andThen_ok, hagg, if_true, run_sizeOf hinf, loadCells]
        rw [← e, hr w #[] hw]
        simp
    · obtain ⟨vs, k, hr⟩ := ldN_run (P := P) h
      refine ⟨_, k, fun w hw => ?_⟩
      simp only [loadVar, Sem.run_bind, run_isAgg hd, Result.andThen_ok, hagg, if_true, run_sizeOf hinf, loadCells]
      rw [hr w #[] hw]
      simp

/-! ## Stores, new blocks -/

theorem hp_setCell {w : World} {a : Addr} {v : Value} {c : Array Value} {e : TypeId} {f : Nat × Nat} (h : hp w a.block = some (.cells c e f)) (hs : a.spot = none) :
    hp (w.setCell a v) = upd (hp w) a.block (.cells (c.setIfInBounds a.off v) e f) := by
  funext b
  simp only [hp, World.setCell, upd, Array.getElem?_modify]
  by_cases hb : b = a.block
  · subst hb
    have h' : w.heap[a.block]? = some (.cells c e f) := h
    simp [h', hs]
  · rw [if_neg (fun e => hb e.symm), if_neg hb]

theorem st_run {w : World} {a : Addr} {v : Value} {K : Hp → Prop} (hv : one v = true) (h : st a v (hp w) K) :
    ∃ w', (store a v).run P w = .ok () w' ∧ Rest w w' ∧ K (hp w') := by
  unfold st at h
  split at h
  · rename_i c e f hc
    obtain ⟨hs, ho, hf, k⟩ := h
    refine ⟨w.setCell a v, ?_, ⟨rfl, rfl, rfl, by simp [World.setCell]⟩, by rw [hp_setCell hc hs]; exact k⟩
    have h1 : v.oneCell' = true := by cases v <;> simp_all [one, Value.oneCell']
    have h2 : w.cell? a = some c[a.off] := by
      rw [cell?_hp]
      simp only [hcell, hc, hs]
      simp [ho]
    have h3 : w.frozen? a = false := by
      have hc' : w.heap[a.block]? = some (.cells c e f) := hc
      simp only [World.frozen?, hc']
      obtain ⟨f1, f2⟩ := f
      simpa [frz] using hf
    rw [run_store P w a v .plain h1, h2]
    simp [h3]
  · exact h.elim

theorem stL_run {a : Addr} : ∀ {vs : List Value} {i : Nat} {w : World} {K : Hp → Prop}, stL a i vs (hp w) K →
    ∃ w', (storeCells a vs i).run P w = .ok () w' ∧ Rest w w' ∧ K (hp w') := by
  intro vs
  induction vs with
  | nil => intro i w K h; exact ⟨w, rfl, .refl w, h⟩
  | cons v vs ih =>
    intro i w K h
    unfold stL at h
    cases h1 : one v
    · simp [h1] at h
    · rw [h1, cond_true] at h
      obtain ⟨w1, r1, s1, k1⟩ := st_run (P := P) h1 h
      obtain ⟨w2, r2, s2, k2⟩ := ih k1
      exact ⟨w2, by simp only [storeCells, Sem.run_bind, r1, Result.andThen_ok, r2], s1.trans s2, k2⟩

theorem hp_push (w : World) (o : Obj) : hp { w with heap := w.heap.push o } = upd (hp w) w.heap.size o := by
  funext b
  simp only [hp, upd, Array.getElem?_push]

theorem rest_push (w : World) (o : Obj) : Rest w { w with heap := w.heap.push o } := ⟨rfl, rfl, rfl, by simp⟩

theorem newB_run {w : World} {o : Obj} {K : Nat → Hp → Prop} (h : newB o (hp w) K) : K w.heap.size (hp { w with heap := w.heap.push o }) := by
  rw [hp_push]
  exact h _ (by simp [hp])

/-! ## The quiet operations -/

theorem run_v {s : Sem Value} {v : Value} {w : World} (h : s.run P w = .ok v w) : ((do pure (.value (← s))) : Sem Next).run P w = .ok (.value v) w := by
  simp [h]

theorem binI_run {op : BinOp} {k : IntKind} {x y : Int} {K : Value → Prop} (h : binI op k x y K) (hs : op ≠ .shl) (hs' : op ≠ .shr) :
    ∃ v, K v ∧ ∀ (t : TypeId) (w : World), (binOp op t (.int k x) (.int k y)).run P w = .ok v w := by
  cases op <;> simp only [binI] at h <;> try exact h.elim
  all_goals first
    | exact (hs rfl).elim
    | exact (hs' rfl).elim
    | exact ⟨_, h, fun _ _ => by simp [binOp, Op.intArith, Op.intBits, Op.intCmp, bitOp]⟩
    | exact ⟨_, h.2, fun _ _ => by simp [binOp, Op.intDiv, h.1]⟩
    | exact ⟨_, h, fun _ _ => rfl⟩


theorem shI_run {op : BinOp} {k j : IntKind} {x y : Int} {K : Value → Prop} (h : shI op k x y K) :
    ∃ v, K v ∧ ∀ (t : TypeId) (w : World), (binOp op t (.int k x) (.int j y)).run P w = .ok v w := by
  cases op <;> simp only [shI] at h <;> try exact h.elim
  all_goals exact ⟨_, h.2, fun _ _ => by simp [binOp, Op.shift, shlI, shrI, Int.not_lt.2 h.1]⟩

theorem run_eqGuard {op : BinOp} {t : TypeId} {ox oy : Operand} {a b : Value} (ha : one a = true) (hb : a ≠ .nilIface) (w : World) :
    (eqGuard op t ox oy a b).run P w = .ok () w := by
  cases a <;> first
    | exact absurd rfl hb
    | (simp [one] at ha; done)
    | (cases op <;> rfl)

theorem run_bin {op : BinOp} {t : TypeId} {ox oy : Operand} {a b v : Value} {w : World} (ha : one a = true) (hb : a ≠ .nilIface) (h : (binOp op t a b).run P w = .ok v w) :
    ((do eqGuard op t ox oy a b; binOp op t a b) : Sem Value).run P w = .ok v w := by
  rw [Sem.run_bind, run_eqGuard ha hb, Result.andThen_ok, h]

theorem equalIn_bool {t : TypeId} (d : Nat) (hu : P.underlying t = some .bool) (a b : Bool) (w : World) :
    (Op.equalIn (d + 1) t (.bool a) (.bool b)).run P w = .ok (a == b) w := by
  simp [Op.equalIn, run_underlying hu]
theorem equalIn_ptr {t e : TypeId} (d : Nat) (hu : P.underlying t = some (.pointer e)) (p : Option Addr) (w : World) :
    (Op.equalIn (d + 1) t (.pointer p) (.pointer none)).run P w = .ok p.isNone w := by
  cases p <;> simp [Op.equalIn, run_underlying hu]
theorem equalIn_sl {t e : TypeId} (d : Nat) (hu : P.underlying t = some (.slice e)) (p : Option Addr) (l c l' c' : Nat) (w : World) :
    (Op.equalIn (d + 1) t (.slice p l c) (.slice none l' c')).run P w = .ok p.isNone w := by
  cases p <;> simp [Op.equalIn, run_underlying hu]
theorem equalIn_map {t e f : TypeId} (d : Nat) (hu : P.underlying t = some (.map e f)) (p : Option Nat) (w : World) :
    (Op.equalIn (d + 1) t (.map p) (.map none)).run P w = .ok p.isNone w := by
  cases p <;> simp [Op.equalIn, run_underlying hu]

theorem eqV_run {op : BinOp} {t : TypeId} {a b : Value} {x : Bool} {K : Value → Prop} {w : World} (h : eqV op x K)
    (he : (Op.equal t a b).run P w = .ok x w) (h1 : binOp .eql t a b = (do pure (.bool (← Op.equal t a b)))) (h2 : binOp .neq t a b = (do pure (.bool (!(← Op.equal t a b))))) :
    ∃ v, K v ∧ (binOp op t a b).run P w = .ok v w := by
  cases op <;> simp only [eqV] at h <;> try exact h.elim
  · exact ⟨_, h, by rw [h1]; simp [he]⟩
  · exact ⟨_, h, by rw [h2]; simp [he]⟩

theorem binD_run {op : BinOp} {t : TypeId} {ox oy : Operand} {x y : Value} {H : Hp} {K : Value → Prop} (h : binD P op t x y H K) :
    ∃ v, K v ∧ ∀ w, hp w = H → ((do eqGuard op t ox oy x y; binOp op t x y) : Sem Value).run P w = .ok v w := by
  unfold binD at h
  split at h
  · rename_i k a j b
    split at h
    · obtain ⟨v, k1, r⟩ := shI_run (P := P) (j := j) h
      exact ⟨v, k1, fun w _ => run_bin rfl (by simp) (r t w)⟩
    · obtain ⟨v, k1, r⟩ := shI_run (P := P) (j := j) h
      exact ⟨v, k1, fun w _ => run_bin rfl (by simp) (r t w)⟩
    · rename_i hs1 hs2
      cases hk : kindEq j k
      · simp [hk] at h
      · rw [hk, cond_true] at h
        rw [kindEq_iff] at hk
        subst hk
        obtain ⟨v, k1, r⟩ := binI_run (P := P) h hs1 hs2
        exact ⟨v, k1, fun w _ => run_bin rfl (by simp) (r t w)⟩
  · rename_i a b
    cases hb : boolT P t
    · simp [hb] at h
    · rw [hb, cond_true] at h
      have hu : P.underlying t = some .bool := by
        unfold boolT at hb
        split at hb
        · assumption
        · exact absurd hb (by simp)
      have he : ∀ w, (Op.equal t (.bool a) (.bool b)).run P w = .ok (a == b) w := equalIn_bool 9999 hu a b
      cases op <;> simp only [eqV] at h <;> try exact h.elim
      all_goals exact ⟨_, h, fun w _ => run_bin rfl (by simp) (by simp [binOp, he])⟩
  · rename_i a b
    cases hb : strT P t
    · simp [hb] at h
    · rw [hb, cond_true] at h
      cases op <;> simp only [eqV] at h <;> try exact h.elim
      all_goals exact ⟨_, h, fun w _ => run_bin rfl (by simp) (by simp [binOp, Op.stringOp, bne])⟩
  · rename_i p
    cases hb : ptrT P t
    · simp [hb] at h
    · rw [hb, cond_true] at h
      have hu : ∃ e, P.underlying t = some (.pointer e) := by
        unfold ptrT at hb
        split at hb
        · exact ⟨_, by assumption⟩
        · exact absurd hb (by simp)
      obtain ⟨e, hu⟩ := hu
      have he : ∀ w, (Op.equal t (.pointer p) (.pointer none)).run P w = .ok p.isNone w := equalIn_ptr 9999 hu p
      cases op <;> simp only [eqV] at h <;> try exact h.elim
      all_goals exact ⟨_, h, fun w _ => run_bin rfl (by simp) (by simp [binOp, he])⟩
  · rename_i p l c l' c'
    cases hb : slT P t
    · simp [hb] at h
    · rw [hb, cond_true] at h
      have hu : ∃ e, P.underlying t = some (.slice e) := by
        unfold slT at hb
        split at hb
        · exact ⟨_, by assumption⟩
        · exact absurd hb (by simp)
      obtain ⟨e, hu⟩ := hu
      have he : ∀ w, (Op.equal t (.slice p l c) (.slice none l' c')).run P w = .ok p.isNone w := equalIn_sl 9999 hu p l c l' c'
      cases op <;> simp only [eqV] at h <;> try exact h.elim
      all_goals exact ⟨_, h, fun w _ => run_bin rfl (by simp) (by simp [binOp, he])⟩
  · rename_i p
    cases hb : mapT P t
    · simp [hb] at h
    · rw [hb, cond_true] at h
      have hu : ∃ e f, P.underlying t = some (.map e f) := by
        unfold mapT at hb
        split at hb
        · exact ⟨_, _, by assumption⟩
        · exact absurd hb (by simp)
      obtain ⟨e, f, hu⟩ := hu
      have he : ∀ w, (Op.equal t (.map p) (.map none)).run P w = .ok p.isNone w := equalIn_map 9999 hu p
      cases op <;> simp only [eqV] at h <;> try exact h.elim
      all_goals exact ⟨_, h, fun w _ => run_bin rfl (by simp) (by simp [binOp, he])⟩
  · rename_i x y
    cases ha : aggT P t
    · simp [ha] at h
    · rw [ha, cond_true] at h
      obtain ⟨v, hv, k⟩ := h
      have k' : ∃ b, v = .bool b ∧ K (.bool b) := by
        unfold asB at k
        split at k
        · exact ⟨_, rfl, k⟩
        · exact k.elim
      obtain ⟨b, rfl, k⟩ := k'
      refine ⟨_, k, fun w hw => ?_⟩
      have h1 := hv w hw
      unfold aggEq at h1
      rw [Sem.run_bind] at h1 ⊢
      have e : (eqGuard op t ox oy (.agg x) (.agg y)).run P w = (eqGuard op t (.const (.bool true)) (.const (.bool true)) (.agg x) (.agg y)).run P w := rfl
      rw [e]
      exact h1
  · exact h.elim

theorem unD_run {op : UnOp} {x : Value} {K : Value → Prop} (h : unD op x K) : ∃ v, K v ∧ ∀ w, (Op.unary op x).run P w = .ok v w := by
  unfold unD at h
  split at h
  · exact ⟨_, h, fun w => rfl⟩
  · exact ⟨_, h, fun w => by simp [Op.unary, Op.intArith]⟩
  · exact h.elim

theorem intT_some {t : TypeId} {k : IntKind} (h : intT P t = some k) : P.underlying t = some (.int k) := by
  unfold intT at h
  split at h
  · rename_i e; cases h; exact e
  · cases h

theorem convD_run {s d : TypeId} {x : Value} {H : Hp} {K : Value → Prop} (h : convD P s d x H K) :
    ∃ v, K v ∧ ∀ w, hp w = H → (convert s d x).run P w = .ok v w := by
  unfold convD at h
  split at h
  · rename_i j k hs hk
    have hd := intT_some hs
    have hu := intT_some hk
    split at h
    · exact ⟨_, h, fun w _ => by simp [convert, run_underlying hd, run_underlying hu, Conv.intToInt]⟩
    · exact h.elim
  · obtain ⟨v, hv, k⟩ := h
    exact ⟨v, asT_spec k, hv⟩

theorem strT_some {t : TypeId} (h : strT P t = true) : P.underlying t = some .string := by
  unfold strT at h
  split at h
  · assumption
  · cases h
theorem slT_some {t : TypeId} (h : slT P t = true) : ∃ e, P.underlying t = some (.slice e) := by
  unfold slT at h
  split at h
  · exact ⟨_, by assumption⟩
  · cases h

theorem structT_some {t : TypeId} {fs : Array Field} (h : structT P t = some fs) : P.underlying t = some (.struct fs) := by
  unfold structT at h
  split at h
  · rename_i e; cases h; exact e
  · cases h

theorem asA_spec {v : Value} {K : Addr → Prop} (h : asA v K) : ∃ a, v = .pointer (some a) ∧ K a := by
  unfold asA at h
  split at h
  · exact ⟨_, rfl, h⟩
  · exact h.elim

theorem fieldAddrD_run {t : TypeId} {x : Value} {f : Nat} {K : Value → Prop} (h : fieldAddrD P t x f K) :
    ∃ v, K v ∧ ∀ w, (Instr.fieldAt t x f).run P w = .ok v w := by
  unfold fieldAddrD at h
  split at h
  · rename_i fs hfs
    split at h
    · rename_i fl hfl
      cases h0 : Nat.beq (cellsT P fl.type) 0
      · rw [h0, cond_false] at h
        split at h
        · rename_i inf hinf
          obtain ⟨a, rfl, k⟩ := asA_spec h
          have hz : inf.size ≠ 0 := by
            intro e
            simp [cellsT, hinf, e] at h0
          exact ⟨_, k, fun w => by simp [Instr.fieldAt, run_underlying (structT_some hfs), hfl, Instr.sureAddr, fieldPlace, run_sizeOf hinf, hz]⟩
        · exact h.elim
      · simp [h0] at h
    · exact h.elim
  · exact h.elim

theorem partD_run {t : TypeId} {cs : Array Value} {off : Nat} {K : Value → Prop} (h : partD P t cs off K) :
    ∃ v, K v ∧ ∀ w, (part t cs off).run P w = .ok v w := by
  unfold partD at h
  split at h
  · exact h.elim
  rename_i d hd
  split at h
  · rename_i ha
    split at h
    · rename_i inf hinf
      exact ⟨_, h, fun w => by simp [part, run_isAgg hd, ha, run_sizeOf hinf]⟩
    · exact h.elim
  · rename_i ha
    split at h
    · rename_i v hv
      exact ⟨v, h, fun w => by simp [part, run_isAgg hd, ha, hv]⟩
    · exact h.elim

theorem asAgg'_spec {v : Value} {K : Array Value → Prop} (h : asAgg' v K) : ∃ cs, v = .agg cs ∧ K cs := by
  unfold asAgg' at h
  split at h
  · exact ⟨_, rfl, h⟩
  · exact h.elim

theorem fieldD_run {t : TypeId} {x : Value} {f : Nat} {K : Value → Prop} (h : fieldD P t x f K) :
    ∃ v, K v ∧ ∀ w, (Instr.field t x f).run P w = .ok v w := by
  unfold fieldD at h
  split at h
  · rename_i fs hfs
    split at h
    · rename_i fl hfl
      obtain ⟨cs, rfl, k⟩ := asAgg'_spec h
      obtain ⟨v, k, hr⟩ := partD_run (P := P) k
      exact ⟨v, k, fun w => by simp [Instr.field, run_underlying (structT_some hfs), hfl, asAgg, hr]⟩
    · exact h.elim
  · exact h.elim

theorem indexAddrD_run {t : TypeId} {x i : Value} {K : Value → Prop} (h : indexAddrD P t x i K) :
    ∃ v, K v ∧ ∀ w, (Instr.indexAt t x i).run P w = .ok v w := by
  unfold indexAddrD at h
  split at h
  · split at h
    · rename_i e p len c he
      split at h
      · rename_i inf hinf
        cases p with
        | none => exact h.elim
        | some a =>
          obtain ⟨hb, k⟩ := h
          exact ⟨_, k, fun w => by simp [Instr.indexAt, asIntOf, run_underlying he, hb, run_sizeOf hinf]⟩
      · exact h.elim
    · rename_i len e p he
      split at h
      · rename_i inf hinf
        cases p with
        | none => exact h.elim
        | some a =>
          obtain ⟨hb, k⟩ := h
          exact ⟨_, k, fun w => by simp [Instr.indexAt, asIntOf, run_underlying he, hb, run_sizeOf hinf, Instr.sureAddr]⟩
      · exact h.elim
    · exact h.elim
  · exact h.elim

theorem indexD_run {t ty : TypeId} {x i : Value} {H : Hp} {K : Value → Prop} (h : indexD P t ty x i H K) :
    ∃ v, K v ∧ ∀ w, hp w = H → (Instr.index t x i).run P w = .ok v w := by
  unfold indexD at h
  cases hs : strT P t
  · rw [hs, cond_false] at h
    obtain ⟨v, hv, k⟩ := h
    exact ⟨v, asT_spec k, hv⟩
  · rw [hs, cond_true] at h
    have hu := strT_some hs
    split at h
    · obtain ⟨h0, h1⟩ := h
      split at h1
      · rename_i b hb
        exact ⟨_, h1, fun w _ => by simp [Instr.index, asIntOf, run_underlying hu, h0, hb]⟩
      · exact h1.elim
    · exact h.elim

theorem sliceD_run {t : TypeId} {x : Value} {lo hi mx : Option Value} {H : Hp} {K : Value → Prop} (h : sliceD P t x lo hi mx H K) :
    ∃ v, K v ∧ ∀ w, hp w = H → (Instr.sliceAt t x lo hi mx).run P w = .ok v w := by
  unfold sliceD at h
  cases hs : slT P t
  · rw [hs, cond_false] at h
    obtain ⟨v, hv, k⟩ := h
    exact ⟨v, k, hv⟩
  rw [hs, cond_true] at h
  split at h
  · rename_i e p len cap he
    split at h
    · rename_i inf hinf
      have key : ∀ (l h : Option Value) (a b c : Nat), (∀ w, (Instr.sliceBounds true len cap l h none).run P w = .ok (a, b, c) w) → ∀ w,
          (Instr.sliceAt t (.slice p len cap) l h none).run P w = .ok (.slice (slcP p c a inf.size) (b - a) (c - a)) w := by
        intro l h a b c hb w
        simp [Instr.sliceAt, run_underlying he, Instr.slice, hb, run_sizeOf hinf, slcP]
      unfold intOpt at h
      split at h
      · split at h
        · exact ⟨_, h, fun w _ => key _ _ 0 len cap (fun w => by simp [Instr.sliceBounds]) w⟩
        · rename_i n
          obtain ⟨hh, k⟩ := h
          exact ⟨_, k, fun w _ => key _ _ 0 n.toNat cap (fun w => by simp [Instr.sliceBounds, Instr.sliceBound, asIntOf, hh]) w⟩
        · exact h.elim
      · split at h
        · obtain ⟨hl, k⟩ := h
          exact ⟨_, k, fun w _ => key _ _ _ len cap (fun w => by simp [Instr.sliceBounds, Instr.sliceBound, asIntOf, hl]) w⟩
        · rename_i m _ _ n
          obtain ⟨hh, hl, k⟩ := h
          have hl2 : m ≤ max n 0 := by omega
          exact ⟨_, k, fun w _ => key _ _ m.toNat n.toNat cap (fun w => by simp [Instr.sliceBounds, Instr.sliceBound, asIntOf, hh, hl.1, hl2]) w⟩
        · exact h.elim
      · exact h.elim
    · exact h.elim
  · exact h.elim

theorem extractD_run {x : Value} {i : Nat} {K : Value → Prop} (h : extractD x i K) : ∃ v, K v ∧ ∀ w, (Instr.extract x i).run P w = .ok v w := by
  unfold extractD asTup at h
  split at h
  · split at h
    · rename_i v hv
      exact ⟨v, h, fun w => by simp [Instr.extract, hv]⟩
    · exact h.elim
  · exact h.elim

theorem lenD_run {t ty : TypeId} {x : Value} {H : Hp} {K : Value → Prop} (h : lenD P t x ty H K) :
    ∃ v, K v ∧ ∀ w, hp w = H → (Builtin.len_ #[t] ty #[x]).run P w = .ok v w := by
  unfold lenD at h
  cases hs : slT P t
  · rw [hs, cond_false] at h
    cases ht : strT P t
    · rw [ht, cond_false] at h
      obtain ⟨v, hv, k⟩ := h
      obtain ⟨n, rfl, k⟩ := asI_spec k
      exact ⟨_, k, hv⟩
    · rw [ht, cond_true] at h
      have hu := strT_some ht
      split at h
      · exact ⟨_, h, fun w _ => by simp [Builtin.len_, run_underlying hu, goInt]⟩
      · exact h.elim
  · rw [hs, cond_true] at h
    obtain ⟨e, hu⟩ := slT_some hs
    split at h
    · exact ⟨_, h, fun w _ => by simp [Builtin.len_, run_underlying hu, goInt]⟩
    · exact h.elim

theorem infoAll_run {fs : List Field} (h : infoAll P fs = true) (w : World) :
    (fs.mapM fun f => (do pure (f.offset, ← sizeOf f.type) : Sem (Nat × Nat))).run P w = .ok (fs.map fun f => (f.offset, cellsT P f.type)) w := by
  induction fs with
  | nil => rfl
  | cons f fs ih =>
    simp only [infoAll, List.all_cons, Bool.and_eq_true] at h
    obtain ⟨h1, h2⟩ := h
    obtain ⟨inf, hinf⟩ := Option.isSome_iff_exists.1 h1
    rw [List.mapM_cons]
    simp only [Sem.run_bind, run_sizeOf hinf, Result.andThen_ok, Sem.run_pure, ih h2]
    simp [cellsT, hinf]

theorem buildD_run {t : TypeId} {ps : Array (Nat × Value)} {K : Value → Prop} (h : buildD P t ps.toList K) :
    ∃ v, K v ∧ ∀ w, (Instr.build t ps).run P w = .ok v w := by
  unfold buildD at h
  split at h
  · split at h
    · rename_i v hv
      refine ⟨v, h, fun w => ?_⟩
      unfold buildA at hv
      split at hv
      · rename_i inf n e hinf hu
        split at hv
        · rename_i z ie hz hie
          obtain ⟨cs, hcs, rfl⟩ := Option.map_eq_some_iff.1 hv
          simp only [Instr.build, Sem.run_bind, zeroValue, run_typeInfo hinf, Result.andThen_ok, hz, Sem.run_pure, run_underlying hu, run_sizeOf hie, hcs]
        · cases hv
      · cases hv
    · exact h.elim
  rename_i fs hfs
  cases hi : infoAll P fs.toList
  · simp [hi] at h
  · rw [hi, cond_true] at h
    split at h
    · rename_i v hv
      refine ⟨v, h, fun w => ?_⟩
      unfold buildV at hv
      split at hv
      · rename_i inf fs' hinf hfs'
        rw [hfs] at hfs'
        cases hfs'
        split at hv
        · rename_i z hz
          have hm : (fs.mapM fun f => (do pure (f.offset, ← sizeOf f.type) : Sem (Nat × Nat))).run P w = .ok (fs.map fun f => (f.offset, cellsT P f.type)) w := by
            rw [Array.mapM_eq_mapM_toList]
            rw [Sem.run_map, infoAll_run hi, Result.andThen_ok]
            congr 1
            apply Array.toList_inj.1
            simp
          obtain ⟨cs, hcs, rfl⟩ := Option.map_eq_some_iff.1 hv
          simp only [Instr.build, Sem.run_bind, zeroValue, run_typeInfo hinf, Result.andThen_ok, hz, Sem.run_pure, run_underlying (structT_some hfs), hm, hcs]
        · cases hv
      · cases hv
    · exact h.elim

theorem mmD_run {b : Builtin} {ats : Array TypeId} {ty : TypeId} {vs : List Value} {H : Hp} {K : Value → Prop} (h : mmD P b ats ty vs H K) :
    (b = .min ∨ b = .max) ∧ ∃ v, K v ∧ ∀ (consts : Array Bool) w, hp w = H → (builtin b ats ty consts ⟨vs⟩).run P w = .ok (.value v) w := by
  unfold mmD at h
  split at h
  · cases hm : mmRead P ats
    · rw [hm, cond_false] at h
      split at h
      · exact ⟨.inl rfl, _, h, fun _ w _ => by simp [builtin, Builtin.min_, Builtin.min2]⟩
      · exact h.elim
    · rw [hm, cond_true] at h
      obtain ⟨v, hv, k⟩ := h
      exact ⟨.inl rfl, v, k, fun _ w hw => by simp [builtin, hv w hw]⟩
  · cases hm : mmRead P ats
    · rw [hm, cond_false] at h
      split at h
      · exact ⟨.inr rfl, _, h, fun _ w _ => by simp [builtin, Builtin.max_, Builtin.max2]⟩
      · exact h.elim
    · rw [hm, cond_true] at h
      obtain ⟨v, hv, k⟩ := h
      exact ⟨.inr rfl, v, k, fun _ w hw => by simp [builtin, hv w hw]⟩
  · exact h.elim

end Go.Proofs.Ytohlnmenghbgbaa
