/- Merged by merge.py: Md1, DenModel, Md2, Md3, Md4, Md5, Md6. No condition. -/
import Derived.Test.YtknejebggegfjaaZTrace
import Derived.Test.YtknejebggegfjaaZBase
import Derived.Test.YtknejebggegfjaaZNum

namespace Go.Proofs.Ytknejebggegfjaa
set_option linter.unusedSimpArgs false
set_option linter.unusedVariables false
set_option maxRecDepth 20000
open Go
open Go.MapKept
theorem KeyK.ofEq {P : Program} {t : TypeId} {κ : Type} [DecidableEq κ] {enc : κ → Value} (hw : (match P.underlying t with | some (.array _ _) | some (.struct _) => true | _ => false) = true)
    (heq : ∀ (w : World) (a b : κ), (Op.equal t (enc a) (enc b)).run P w = .ok (decide (a = b)) w) (hinj : ∀ {a b : κ}, enc a = enc b → a = b) (hck : ∀ (w : World) (em : Bool) (a : κ), (Instr.checkKey em 10000 t (enc a)).run P w = .ok () w)
    (hst : ∀ a : κ, Instr.sameBits 10000 (enc a) (enc a) = true) : KeyK P t enc := by
  refine ⟨hinj, hck, fun w x es hes => ?_, fun w a => by simp [Instr.keyThatStays, hst a]⟩
  rw [run_findKey_eq w hw]
  have key : ∀ (es : List MapEntry) (i : Nat), (∀ e ∈ es, ∃ a, e.key = enc a) →
      ((Instr.findAsking t (enc x) es i).run P w = .ok none w ∧ ∀ e ∈ es, e.key ≠ enc x) ∨ ∃ j e, (Instr.findAsking t (enc x) es i).run P w = .ok (some (i + j, e.val)) w ∧ es[j]? = some e ∧ e.key = enc x := by
    intro es
    induction es with
    | nil => intro i _; exact .inl ⟨by simp [Instr.findAsking], by simp⟩
    | cons e es ih =>
      intro i hall
      obtain ⟨a, ha⟩ := hall e (by simp)
      have he := heq w x a
      rw [← ha] at he
      by_cases hxa : x = a
      · refine .inr ⟨0, e, by unfold Instr.findAsking; simp only [Sem.run_bind, he, Result.andThen_ok]; simp [hxa], rfl, by rw [ha, hxa]⟩
      · rcases ih (i + 1) (fun y hy => hall y (by simp [hy])) with ⟨h1, h2⟩ | ⟨j, e', h1, h2, h3⟩
        · refine .inl ⟨by simp [Instr.findAsking, he, hxa, Result.andThen, h1], fun y hy => ?_⟩
          rcases List.mem_cons.1 hy with rfl | hy
          · rw [ha]
            intro e1
            exact hxa (hinj e1).symm
          · exact h2 y hy
        · exact .inr ⟨j + 1, e', by simp [Instr.findAsking, he, hxa, Result.andThen, h1, Nat.add_assoc, Nat.add_comm 1 j], by simpa using h2, h3⟩
  rcases key es 0 hes with h1 | ⟨j, e, h1, h2, h3⟩
  · exact .inl h1
  · exact .inr ⟨j, e, by simpa using h1, h2, h3⟩

/-- A pair of numbers. -/
def pk (a : Int × Int) : Value := .agg #[.int .i64 a.1, .int .i64 a.2]
theorem equal_pk {P : Program} {t e : TypeId} {i : TypeInfo} (hu : P.underlying t = some (.array 2 e)) (he : P.underlying e = some (.int .i64)) (hi : P.info? e = some i) (hc : P.cellsOf e = 1) (w : World) (a b : Int × Int) :
    (Op.equal t (pk a) (pk b)).run P w = .ok (decide (a = b)) w := by
  show (Op.equalIn (9999 + 1) t (.agg _) (.agg _)).run P w = _
  rw [run_equalIn_array w 9999 _ _ hu hi, hc]
  show (Op.eqItems 9999 e 1 #[.int .i64 a.1, .int .i64 a.2] #[.int .i64 b.1, .int .i64 b.2] [0, 1]).run P w = _
  have p1 : ∀ a b : Int, (part e #[Value.int .i64 a, .int .i64 b] (0 * 1)).run P w = .ok (.int .i64 a) w := fun a b => run_part_plain w (plainKey_int he) rfl
  have p2 : ∀ a b : Int, (part e #[Value.int .i64 a, .int .i64 b] (1 * 1)).run P w = .ok (.int .i64 b) w := fun a b => run_part_plain w (plainKey_int he) rfl
  have p2' : ∀ a b : Int, (part e #[Value.int .i64 a, .int .i64 b] 1).run P w = .ok (.int .i64 b) w := fun a b => run_part_plain w (plainKey_int he) rfl
  have q : ∀ n m : Int, (Op.equalIn 9999 e (.int .i64 n) (.int .i64 m)).run P w = .ok (n == m) w := fun n m => by
    have := run_equalIn_int w 9998 e .i64 .i64 n m he
    simpa using this
  obtain ⟨a1, a2⟩ := a
  obtain ⟨b1, b2⟩ := b
  simp only [Op.eqItems, Sem.run_bind, p1, p2, q, Result.andThen_ok]
  by_cases h1 : a1 = b1
  · by_cases h2 : a2 = b2
    · simp [h1, h2, Op.eqItems, p2', q, Result.andThen]
    · simp [h1, h2, Op.eqItems, p2', q, Result.andThen]
  · simp [h1]
theorem KeyK.pair {P : Program} {t e : TypeId} {i : TypeInfo} (hu : P.underlying t = some (.array 2 e)) (he : P.underlying e = some (.int .i64)) (hi : P.info? e = some i) (hs : i.size = 1) : KeyK P t pk := by
  have hc : P.cellsOf e = 1 := by simp [Program.cellsOf, hi, hs]
  refine KeyK.ofEq (by rw [hu]) (fun w a b => equal_pk hu he hi hc w a b) (fun {a b} h => ?_) (fun w em a => ?_) (fun a => ?_)
  · obtain ⟨a1, a2⟩ := a
    obtain ⟨b1, b2⟩ := b
    simp [pk] at h
    simp [h]
  · show (Instr.checkKey em (9999 + 1) t (.agg _)).run P w = _
    have p1 : (part e #[Value.int .i64 a.1, .int .i64 a.2] (0 * 1)).run P w = .ok (.int .i64 a.1) w := run_part_plain w (plainKey_int he) rfl
    have p2 : (part e #[Value.int .i64 a.1, .int .i64 a.2] (1 * 1)).run P w = .ok (.int .i64 a.2) w := run_part_plain w (plainKey_int he) rfl
    have p1' : (part e #[Value.int .i64 a.1, .int .i64 a.2] 0).run P w = .ok (.int .i64 a.1) w := run_part_plain w (plainKey_int he) rfl
    have p2' : (part e #[Value.int .i64 a.1, .int .i64 a.2] 1).run P w = .ok (.int .i64 a.2) w := run_part_plain w (plainKey_int he) rfl
    have q : ∀ n : Int, (Instr.checkKey em 9999 e (.int .i64 n)).run P w = .ok () w := fun n => run_checkKey (d := .int .i64) (k := .int .i64 n) he rfl em 9998
    unfold Instr.checkKey
    simp only [Sem.run_bind, run_underlying hu, Result.andThen_ok]
    simp only [Std.Legacy.Range.forIn_eq_forIn_range', Std.Legacy.Range.size, Nat.sub_zero, Nat.add_one_sub_one, Nat.div_one, List.range'_succ, List.range'_zero, List.forIn_cons, List.forIn_nil, Sem.run_bind, run_sizeOf hi, hc, Result.andThen_ok, p1, p2, q, Sem.run_pure]
    simp [Result.andThen, run_sizeOf hi, hs, p1', p2', q]
  · show Instr.sameBits (9999 + 1) (.agg _) (.agg _) = true
    simp [Instr.sameBits]
end Go.Proofs.Ytknejebggegfjaa

namespace Go.Proofs.Ytknejebggegfjaa
open Go
set_option linter.unusedVariables false
set_option maxRecDepth 100000
def B_model_New (cNodes1 : Int) (cMutators2 : Int) (cSlots3 : Int) (cCells4 : Int) (cObjects5 : Int) (cStubs6 : Int) (cCalls7 : Int) (cWindow8 : Int) (cGrey9 : Int) (cBag10 : Int) (cInbox11 : Int) (cUnit12 : Int) (cDrift13 : Int) (cLease14 : Int) (cWait15 : Int) (cMost16 : Int) (cPatience17 : Int) (cSuspect18 : Int) (cTrace19 : Int) (cWork20 : Int) (cStart21 : Int) (cLast22 : Int) (H : Hp) (K : Value → Hp → Prop) : Prop :=
 newB (.cells #[(.int .i64 cNodes1), (.int .i64 cMutators2), (.int .i64 cSlots3), (.int .i64 cCells4), (.int .i64 cObjects5), (.int .i64 cStubs6), (.int .i64 cCalls7), (.int .i64 cWindow8), (.int .i64 cGrey9), (.int .i64 cBag10), (.int .i64 cInbox11), (.int .u64 cUnit12), (.int .u64 cDrift13), (.int .u64 cLease14), (.int .u64 cWait15), (.int .u64 cMost16), (.int .u64 cPatience17), (.int .i64 cSuspect18), (.int .i64 cTrace19), (.int .i64 cWork20), (.int .u64 cStart21), (.int .u64 cLast22)] ty_api_Config) H fun b23 Hx24 =>
 ldI .i64 ⟨b23, 0, none⟩ Hx24 fun Nodes25 =>
 ldI .i64 ⟨b23, 1, none⟩ Hx24 fun Mutators26 =>
 ldI .i64 ⟨b23, 2, none⟩ Hx24 fun Slots27 =>
 ldI .i64 ⟨b23, 3, none⟩ Hx24 fun Cells28 =>
 ldI .i64 ⟨b23, 4, none⟩ Hx24 fun Objects29 =>
 ldI .i64 ⟨b23, 5, none⟩ Hx24 fun Stubs30 =>
 ldI .i64 ⟨b23, 6, none⟩ Hx24 fun Calls31 =>
 ldI .i64 ⟨b23, 7, none⟩ Hx24 fun Window32 =>
 ldI .i64 ⟨b23, 8, none⟩ Hx24 fun Grey33 =>
 ldI .i64 ⟨b23, 9, none⟩ Hx24 fun Bag34 =>
 ldI .i64 ⟨b23, 10, none⟩ Hx24 fun Inbox35 =>
 ldI .u64 ⟨b23, 11, none⟩ Hx24 fun Unit36 =>
 ldI .u64 ⟨b23, 12, none⟩ Hx24 fun Drift37 =>
 ldI .u64 ⟨b23, 13, none⟩ Hx24 fun Lease38 =>
 ldI .u64 ⟨b23, 14, none⟩ Hx24 fun Wait39 =>
 ldI .u64 ⟨b23, 15, none⟩ Hx24 fun Most40 =>
 ldI .u64 ⟨b23, 16, none⟩ Hx24 fun Patience41 =>
 ldI .i64 ⟨b23, 17, none⟩ Hx24 fun Suspect42 =>
 ldI .i64 ⟨b23, 18, none⟩ Hx24 fun Trace43 =>
 ldI .i64 ⟨b23, 19, none⟩ Hx24 fun Work44 =>
 ldI .u64 ⟨b23, 20, none⟩ Hx24 fun Start45 =>
 ldI .u64 ⟨b23, 21, none⟩ Hx24 fun Last46 =>
 hcall PR f_api_May ⟨[(.agg #[(.int .i64 Nodes25), (.int .i64 Mutators26), (.int .i64 Slots27), (.int .i64 Cells28), (.int .i64 Objects29), (.int .i64 Stubs30), (.int .i64 Calls31), (.int .i64 Window32), (.int .i64 Grey33), (.int .i64 Bag34), (.int .i64 Inbox35), (.int .u64 Unit36), (.int .u64 Drift37), (.int .u64 Lease38), (.int .u64 Wait39), (.int .u64 Most40), (.int .u64 Patience41), (.int .i64 Suspect42), (.int .i64 Trace43), (.int .i64 Work44), (.int .u64 Start45), (.int .u64 Last46)])]⟩ Hx24 fun v47 Hx48 =>
 asB v47 fun t49 =>
 (bif (!t49) then
 K (.tuple #[(.pointer none), (.int .i64 1)]) Hx48
else
 ldI .i64 ⟨b23, 0, none⟩ Hx48 fun Nodes50 =>
 ldI .i64 ⟨b23, 1, none⟩ Hx48 fun Mutators51 =>
 ldI .i64 ⟨b23, 2, none⟩ Hx48 fun Slots52 =>
 ldI .i64 ⟨b23, 3, none⟩ Hx48 fun Cells53 =>
 ldI .i64 ⟨b23, 4, none⟩ Hx48 fun Objects54 =>
 ldI .i64 ⟨b23, 5, none⟩ Hx48 fun Stubs55 =>
 ldI .i64 ⟨b23, 6, none⟩ Hx48 fun Calls56 =>
 ldI .i64 ⟨b23, 7, none⟩ Hx48 fun Window57 =>
 ldI .i64 ⟨b23, 8, none⟩ Hx48 fun Grey58 =>
 ldI .i64 ⟨b23, 9, none⟩ Hx48 fun Bag59 =>
 ldI .i64 ⟨b23, 10, none⟩ Hx48 fun Inbox60 =>
 ldI .u64 ⟨b23, 11, none⟩ Hx48 fun Unit61 =>
 ldI .u64 ⟨b23, 12, none⟩ Hx48 fun Drift62 =>
 ldI .u64 ⟨b23, 13, none⟩ Hx48 fun Lease63 =>
 ldI .u64 ⟨b23, 14, none⟩ Hx48 fun Wait64 =>
 ldI .u64 ⟨b23, 15, none⟩ Hx48 fun Most65 =>
 ldI .u64 ⟨b23, 16, none⟩ Hx48 fun Patience66 =>
 ldI .i64 ⟨b23, 17, none⟩ Hx48 fun Suspect67 =>
 ldI .i64 ⟨b23, 18, none⟩ Hx48 fun Trace68 =>
 ldI .i64 ⟨b23, 19, none⟩ Hx48 fun Work69 =>
 ldI .u64 ⟨b23, 20, none⟩ Hx48 fun Start70 =>
 ldI .u64 ⟨b23, 21, none⟩ Hx48 fun Last71 =>
 newB (.map #[] 0) Hx48 fun b72 Hx73 =>
 newB (.map #[] 0) Hx73 fun b74 Hx75 =>
 newB (.map #[] 0) Hx75 fun b76 Hx77 =>
 newB (.cells #[(.int .i64 Nodes50), (.int .i64 Mutators51), (.int .i64 Slots52), (.int .i64 Cells53), (.int .i64 Objects54), (.int .i64 Stubs55), (.int .i64 Calls56), (.int .i64 Window57), (.int .i64 Grey58), (.int .i64 Bag59), (.int .i64 Inbox60), (.int .u64 Unit61), (.int .u64 Drift62), (.int .u64 Lease63), (.int .u64 Wait64), (.int .u64 Most65), (.int .u64 Patience66), (.int .i64 Suspect67), (.int .i64 Trace68), (.int .i64 Work69), (.int .u64 Start70), (.int .u64 Last71), (.map (some b72)), (.slice none 0 0), (.map (some b74)), (.map (some b76)), (.slice none 0 0)] ty_model_Model) Hx77 fun b78 Hx79 =>
 ∃ (I80 : Int → Hp → Prop) (m81 : Int → Hp → Nat), I80 0 Hx79 ∧ ∀ n83 : Int, ∀ Hx82 : Hp, I80 n83 Hx82 →
 ldI .i64 ⟨b23, 0, none⟩ Hx82 fun Nodes84 =>
 (bif (decide ((n83 : Int) < Nodes84)) then
 ∃ (I85 : Option Addr → Nat → Nat → Int → Hp → Prop) (m86 : Option Addr → Nat → Nat → Int → Hp → Nat), I85 none 0 0 0 Hx82 ∧ ∀ rowsP88 : Option Addr, ∀ rowsL89 : Nat, ∀ rowsC90 : Nat, ∀ i91 : Int, ∀ Hx87 : Hp, I85 rowsP88 rowsL89 rowsC90 i91 Hx87 →
 ldI .i64 ⟨b23, 1, none⟩ Hx87 fun Mutators92 =>
 (bif (decide ((i91 : Int) < Mutators92)) then
 ldI .i64 ⟨b23, 2, none⟩ Hx87 fun Slots93 =>
 evW PR (Instr.makeSlice ty_Sapi_ID (.int .i64 Slots93) (.int .i64 Slots93)) Hx87 fun v94 Hx95 =>
 asSl v94 fun mkP96 mkL97 mkC98 =>
 newB (.cells #[(.slice mkP96 mkL97 mkC98)] ty_Sapi_ID) Hx95 fun b99 Hx100 =>
 evW PR (Builtin.append_ #[ty_SSapi_ID, ty_SSapi_ID] ty_SSapi_ID #[(.slice rowsP88 rowsL89 rowsC90), (.slice (some ⟨b99, 0, none⟩) 1 1)]) Hx100 fun v101 Hx102 =>
 asSl v101 fun tP103 tL104 tC105 =>
 I85 tP103 tL104 tC105 (IntKind.i64.wrap (i91 + 1)) Hx102 ∧ m86 tP103 tL104 tC105 (IntKind.i64.wrap (i91 + 1)) Hx102 < m86 rowsP88 rowsL89 rowsC90 i91 Hx87
else
 ldSl ⟨b78, 23, none⟩ Hx87 fun slotsP106 slotsL107 slotsC108 =>
 newB (.cells #[(.slice rowsP88 rowsL89 rowsC90)] ty_SSapi_ID) Hx87 fun b109 Hx110 =>
 evW PR (Builtin.append_ #[ty_SSSapi_ID, ty_SSSapi_ID] ty_SSSapi_ID #[(.slice slotsP106 slotsL107 slotsC108), (.slice (some ⟨b109, 0, none⟩) 1 1)]) Hx110 fun v111 Hx112 =>
 asSl v111 fun tP113 tL114 tC115 =>
 st ⟨b78, 23, none⟩ (.slice tP113 tL114 tC115) Hx112 fun Hx116 =>
 ldSl ⟨b78, 26, none⟩ Hx116 fun lastP117 lastL118 lastC119 =>
 ldI .u64 ⟨b23, 21, none⟩ Hx116 fun Last120 =>
 newB (.cells #[(.int .u64 Last120)] ty_uint64) Hx116 fun b121 Hx122 =>
 (ldSl ⟨b78, 26, none⟩ Hx122 fun lastP123 lastL124 lastC125 =>
 ((.slice lastP123 lastL124 lastC125) : Value) = (.slice lastP117 lastL118 lastC119)) ∧
 evW PR (Builtin.append_ #[ty_Suint64, ty_Suint64] ty_Suint64 #[(.slice lastP117 lastL118 lastC119), (.slice (some ⟨b121, 0, none⟩) 1 1)]) Hx122 fun v126 Hx127 =>
 asSl v126 fun tP128 tL129 tC130 =>
 st ⟨b78, 26, none⟩ (.slice tP128 tL129 tC130) Hx127 fun Hx131 =>
 I80 (IntKind.i64.wrap (n83 + 1)) Hx131 ∧ m81 (IntKind.i64.wrap (n83 + 1)) Hx131 < m81 n83 Hx82)
else
 K (.tuple #[(.pointer (some ⟨b78, 0, none⟩)), (.int .i64 0)]) Hx82))
theorem E_model_New (cNodes1 : Int) (cMutators2 : Int) (cSlots3 : Int) (cCells4 : Int) (cObjects5 : Int) (cStubs6 : Int) (cCalls7 : Int) (cWindow8 : Int) (cGrey9 : Int) (cBag10 : Int) (cInbox11 : Int) (cUnit12 : Int) (cDrift13 : Int) (cLease14 : Int) (cWait15 : Int) (cMost16 : Int) (cPatience17 : Int) (cSuspect18 : Int) (cTrace19 : Int) (cWork20 : Int) (cStart21 : Int) (cLast22 : Int) (H : Hp) (K : Value → Hp → Prop) : B_model_New cNodes1 cMutators2 cSlots3 cCells4 cObjects5 cStubs6 cCalls7 cWindow8 cGrey9 cBag10 cInbox11 cUnit12 cDrift13 cLease14 cWait15 cMost16 cPatience17 cSuspect18 cTrace19 cWork20 cStart21 cLast22 H K = denF Try.prog Try.f15 (.seq none .n (.seq none .n (.seq none .n (.seq none (.seq none .n (.sub (.loop ⟨[(5, .int .i64)], [1, 4]⟩ (.seq none .n (.seq none (.sub (.seq none .n (.seq none (.seq none .n (.sub (.loop ⟨[(6, .sl), (7, .int .i64)], [1, 4, 5]⟩ .n))) .n))) .n))))) .n)))) [(.agg #[(.int .i64 cNodes1), (.int .i64 cMutators2), (.int .i64 cSlots3), (.int .i64 cCells4), (.int .i64 cObjects5), (.int .i64 cStubs6), (.int .i64 cCalls7), (.int .i64 cWindow8), (.int .i64 cGrey9), (.int .i64 cBag10), (.int .i64 cInbox11), (.int .u64 cUnit12), (.int .u64 cDrift13), (.int .u64 cLease14), (.int .u64 cWait15), (.int .u64 cMost16), (.int .u64 cPatience17), (.int .i64 cSuspect18), (.int .i64 cTrace19), (.int .i64 cWork20), (.int .u64 cStart21), (.int .u64 cLast22)])] H K := by kernel_rfl
theorem den_model_New {cNodes1 : Int} {cMutators2 : Int} {cSlots3 : Int} {cCells4 : Int} {cObjects5 : Int} {cStubs6 : Int} {cCalls7 : Int} {cWindow8 : Int} {cGrey9 : Int} {cBag10 : Int} {cInbox11 : Int} {cUnit12 : Int} {cDrift13 : Int} {cLease14 : Int} {cWait15 : Int} {cMost16 : Int} {cPatience17 : Int} {cSuspect18 : Int} {cTrace19 : Int} {cWork20 : Int} {cStart21 : Int} {cLast22 : Int} {H : Hp} {K : Value → Hp → Prop} (h : B_model_New cNodes1 cMutators2 cSlots3 cCells4 cObjects5 cStubs6 cCalls7 cWindow8 cGrey9 cBag10 cInbox11 cUnit12 cDrift13 cLease14 cWait15 cMost16 cPatience17 cSuspect18 cTrace19 cWork20 cStart21 cLast22 H K) : hcall PR f_model_New ⟨[(.agg #[(.int .i64 cNodes1), (.int .i64 cMutators2), (.int .i64 cSlots3), (.int .i64 cCells4), (.int .i64 cObjects5), (.int .i64 cStubs6), (.int .i64 cCalls7), (.int .i64 cWindow8), (.int .i64 cGrey9), (.int .i64 cBag10), (.int .i64 cInbox11), (.int .u64 cUnit12), (.int .u64 cDrift13), (.int .u64 cLease14), (.int .u64 cWait15), (.int .u64 cMost16), (.int .u64 cPatience17), (.int .i64 cSuspect18), (.int .i64 cTrace19), (.int .i64 cWork20), (.int .u64 cStart21), (.int .u64 cLast22)])]⟩ H K := denF_call Try.func15 PR_mixed (Eq.mp (E_model_New cNodes1 cMutators2 cSlots3 cCells4 cObjects5 cStubs6 cCalls7 cWindow8 cGrey9 cBag10 cInbox11 cUnit12 cDrift13 cLease14 cWait15 cMost16 cPatience17 cSuspect18 cTrace19 cWork20 cStart21 cLast22 H K) h)

def B_model_Model_See (m1 : Option Addr) (eKind2 : Int) (eNode3 : Int) (eM4 : Int) (eK5 : Int) (eKind6 : Int) (eA7 : Int) (eB8 : Int) (eField9 : Int) (eRefs10 : Int) (eVals11 : Int) (eTo12 : Int) (eValue13 : Int) (eNum14 : Int) (eByP15 : Option Addr) (eByL16 : Nat) (eByC17 : Nat) (eBytesP18 : Option Addr) (eBytesL19 : Nat) (eBytesC20 : Nat) (rWhy21 : Int) (rWhy22 : Int) (rNode23 : Int) (rSerial24 : Int) (rValue25 : Int) (rTo26 : Int) (rNum27 : Int) (rFreedP28 : Option Addr) (rFreedL29 : Nat) (rFreedC30 : Nat) (rDoneP31 : Option Addr) (rDoneL32 : Nat) (rDoneC33 : Nat) (rSent34 : Int) (rLost35 : Int) (rOk36 : Bool) (H : Hp) (K : Value → Hp → Prop) : Prop :=
 newB (.cells #[(.int .i64 eKind2), (.int .i64 eNode3), (.int .i64 eM4), (.int .i64 eK5), (.int .i64 eKind6), (.int .i64 eA7), (.int .i64 eB8), (.int .i64 eField9), (.int .i64 eRefs10), (.int .i64 eVals11), (.int .i64 eTo12), (.int .u64 eValue13), (.int .u64 eNum14), (.slice eByP15 eByL16 eByC17), (.slice eBytesP18 eBytesL19 eBytesC20)] ty_world_Event) H fun b37 Hx38 =>
 newB (.cells #[(.int .i64 rWhy21), (.int .i64 rWhy22), (.int .i64 rNode23), (.int .u64 rSerial24), (.int .u64 rValue25), (.int .i64 rTo26), (.int .u64 rNum27), (.slice rFreedP28 rFreedL29 rFreedC30), (.slice rDoneP31 rDoneL32 rDoneC33), (.int .i64 rSent34), (.int .i64 rLost35), (.bool rOk36)] ty_world_Row) Hx38 fun b39 Hx40 =>
 ∀ R41 : Bool → Hp → Prop, (∀ there43 : Bool, ∀ Hx42 : Hp, (
 ∀ R44 : Bool → Hp → Prop, (∀ t46 : Bool, ∀ Hx45 : Hp, (
 (bif t46 then
 ldI .i64 ⟨b39, 0, none⟩ Hx45 fun Why47 =>
 K (.bool ((Why47 : Int) == 1)) Hx45
else
 ∀ R48 : Bool → Hp → Prop, (∀ t50 : Bool, ∀ Hx49 : Hp, (
 (bif t50 then
 ldI .i64 ⟨b37, 0, none⟩ Hx49 fun Kind51 =>
 ldI .i64 ⟨b37, 1, none⟩ Hx49 fun Node52 =>
 ldI .i64 ⟨b37, 2, none⟩ Hx49 fun M53 =>
 ldI .i64 ⟨b37, 3, none⟩ Hx49 fun Kx54 =>
 ldI .i64 ⟨b37, 4, none⟩ Hx49 fun Kind55 =>
 ldI .i64 ⟨b37, 5, none⟩ Hx49 fun A56 =>
 ldI .i64 ⟨b37, 6, none⟩ Hx49 fun B57 =>
 ldI .i64 ⟨b37, 7, none⟩ Hx49 fun Field58 =>
 ldI .i64 ⟨b37, 8, none⟩ Hx49 fun Refs59 =>
 ldI .i64 ⟨b37, 9, none⟩ Hx49 fun Vals60 =>
 ldI .i64 ⟨b37, 10, none⟩ Hx49 fun To61 =>
 ldI .u64 ⟨b37, 11, none⟩ Hx49 fun Value62 =>
 ldI .u64 ⟨b37, 12, none⟩ Hx49 fun Num63 =>
 ldSl ⟨b37, 13, none⟩ Hx49 fun ByP64 ByL65 ByC66 =>
 ldSl ⟨b37, 14, none⟩ Hx49 fun BytesP67 BytesL68 BytesC69 =>
 ldI .i64 ⟨b39, 0, none⟩ Hx49 fun Why70 =>
 hcall PR f_model_Model_refused ⟨[(.pointer m1), (.agg #[(.int .i64 Kind51), (.int .i64 Node52), (.int .i64 M53), (.int .i64 Kx54), (.int .i64 Kind55), (.int .i64 A56), (.int .i64 B57), (.int .i64 Field58), (.int .i64 Refs59), (.int .i64 Vals60), (.int .i64 To61), (.int .u64 Value62), (.int .u64 Num63), (.slice ByP64 ByL65 ByC66), (.slice BytesP67 BytesL68 BytesC69)]), (.int .i64 Why70)]⟩ Hx49 fun v71 Hx72 =>
 asB v71 fun t73 =>
 K (.bool t73) Hx72
else
 ldI .i64 ⟨b37, 0, none⟩ Hx49 fun Kind74 =>
 (bif ((Kind74 : Int) == 1) then
 ldI .i64 ⟨b37, 2, none⟩ Hx49 fun M75 =>
 (bif (decide ((M75 : Int) ≥ 0)) then
 ldI .i64 ⟨b37, 2, none⟩ Hx49 fun M76 =>
 nilP m1 fun ma77 =>
 ldI .i64 (ma77.add 1) Hx49 fun Mutators78 =>
 (bif (decide ((M76 : Int) < Mutators78)) then
 ldI .i64 ⟨b37, 0, none⟩ Hx49 fun Kind79 =>
 ldI .i64 ⟨b37, 1, none⟩ Hx49 fun Node80 =>
 ldI .i64 ⟨b37, 2, none⟩ Hx49 fun M81 =>
 ldI .i64 ⟨b37, 3, none⟩ Hx49 fun Kx82 =>
 ldI .i64 ⟨b37, 4, none⟩ Hx49 fun Kind83 =>
 ldI .i64 ⟨b37, 5, none⟩ Hx49 fun A84 =>
 ldI .i64 ⟨b37, 6, none⟩ Hx49 fun B85 =>
 ldI .i64 ⟨b37, 7, none⟩ Hx49 fun Field86 =>
 ldI .i64 ⟨b37, 8, none⟩ Hx49 fun Refs87 =>
 ldI .i64 ⟨b37, 9, none⟩ Hx49 fun Vals88 =>
 ldI .i64 ⟨b37, 10, none⟩ Hx49 fun To89 =>
 ldI .u64 ⟨b37, 11, none⟩ Hx49 fun Value90 =>
 ldI .u64 ⟨b37, 12, none⟩ Hx49 fun Num91 =>
 ldSl ⟨b37, 13, none⟩ Hx49 fun ByP92 ByL93 ByC94 =>
 ldSl ⟨b37, 14, none⟩ Hx49 fun BytesP95 BytesL96 BytesC97 =>
 ldI .i64 ⟨b39, 1, none⟩ Hx49 fun Why98 =>
 ldI .i64 ⟨b39, 2, none⟩ Hx49 fun Node99 =>
 ldI .u64 ⟨b39, 3, none⟩ Hx49 fun Serial100 =>
 ldI .u64 ⟨b39, 4, none⟩ Hx49 fun Value101 =>
 ldI .i64 ⟨b39, 5, none⟩ Hx49 fun To102 =>
 ldI .u64 ⟨b39, 6, none⟩ Hx49 fun Num103 =>
 hcall PR f_model_Model_does ⟨[(.pointer m1), (.agg #[(.int .i64 Kind79), (.int .i64 Node80), (.int .i64 M81), (.int .i64 Kx82), (.int .i64 Kind83), (.int .i64 A84), (.int .i64 B85), (.int .i64 Field86), (.int .i64 Refs87), (.int .i64 Vals88), (.int .i64 To89), (.int .u64 Value90), (.int .u64 Num91), (.slice ByP92 ByL93 ByC94), (.slice BytesP95 BytesL96 BytesC97)]), (.agg #[(.int .i64 Why98), (.int .i64 Node99), (.int .u64 Serial100), (.int .u64 Value101), (.int .i64 To102), (.int .u64 Num103)])]⟩ Hx49 fun v104 Hx105 =>
 asB v104 fun t106 =>
 K (.bool t106) Hx105
else
 K (.bool false) Hx49)
else
 K (.bool false) Hx49)
else
 ldI .i64 ⟨b37, 0, none⟩ Hx49 fun Kind107 =>
 (bif ((Kind107 : Int) == 7) then
 ldSl ⟨b39, 8, none⟩ Hx49 fun DoneP108 DoneL109 DoneC110 =>
 ∃ (I111 : Int → Hp → Prop) (m112 : Int → Hp → Nat), I111 0 Hx49 ∧ ∀ t114 : Int, ∀ Hx113 : Hp, I111 t114 Hx113 →
 (bif (decide ((t114 : Int) < (DoneL109 : Int))) then
 idxA DoneP108 DoneL109 t114 14 fun el115 =>
 ldI .i64 el115 Hx113 fun From116 =>
 ldI .u64 (el115.add 1) Hx113 fun Num117 =>
 ldI .i64 (el115.add 2) Hx113 fun Op118 =>
 ldI .i64 (el115.add 3) Hx113 fun Field119 =>
 ldI .i64 (el115.add 4) Hx113 fun Node120 =>
 ldI .u64 (el115.add 5) Hx113 fun Serial121 =>
 ldSl (el115.add 6) Hx113 fun RefsP122 RefsL123 RefsC124 =>
 ldI .u64 (el115.add 7) Hx113 fun Value125 =>
 ldI .i64 (el115.add 8) Hx113 fun State126 =>
 ldI .i64 (el115.add 9) Hx113 fun Code127 =>
 ldSl (el115.add 10) Hx113 fun ResultP128 ResultL129 ResultC130 =>
 ldI .u64 (el115.add 11) Hx113 fun Back131 =>
 ldI .u64 (el115.add 12) Hx113 fun Sent132 =>
 ldI .u64 (el115.add 13) Hx113 fun Wait133 =>
 newB (.cells #[(.int .i64 0), (.int .u64 0), (.int .i64 0), (.int .i64 0), (.int .i64 0), (.int .u64 0), (.slice none 0 0), (.int .u64 0), (.int .i64 0), (.int .i64 0), (.slice none 0 0), (.int .u64 0), (.int .u64 0), (.int .u64 0)] ty_api_Served) Hx113 fun b134 Hx135 =>
 st ⟨b134, 0, none⟩ (.int .i64 From116) Hx135 fun Hx136 =>
 st ⟨b134, 1, none⟩ (.int .u64 Num117) Hx136 fun Hx137 =>
 st ⟨b134, 2, none⟩ (.int .i64 Op118) Hx137 fun Hx138 =>
 st ⟨b134, 3, none⟩ (.int .i64 Field119) Hx138 fun Hx139 =>
 st ⟨b134, 4, none⟩ (.int .i64 Node120) Hx139 fun Hx140 =>
 st ⟨b134, 5, none⟩ (.int .u64 Serial121) Hx140 fun Hx141 =>
 st ⟨b134, 6, none⟩ (.slice RefsP122 RefsL123 RefsC124) Hx141 fun Hx142 =>
 st ⟨b134, 7, none⟩ (.int .u64 Value125) Hx142 fun Hx143 =>
 st ⟨b134, 8, none⟩ (.int .i64 State126) Hx143 fun Hx144 =>
 st ⟨b134, 9, none⟩ (.int .i64 Code127) Hx144 fun Hx145 =>
 st ⟨b134, 10, none⟩ (.slice ResultP128 ResultL129 ResultC130) Hx145 fun Hx146 =>
 st ⟨b134, 11, none⟩ (.int .u64 Back131) Hx146 fun Hx147 =>
 st ⟨b134, 12, none⟩ (.int .u64 Sent132) Hx147 fun Hx148 =>
 st ⟨b134, 13, none⟩ (.int .u64 Wait133) Hx148 fun Hx149 =>
 (bif (!there43) then
 K (.bool false) Hx149
else
 ldI .i64 ⟨b37, 1, none⟩ Hx149 fun Node150 =>
 ldI .i64 ⟨b134, 0, none⟩ Hx149 fun From151 =>
 ldI .u64 ⟨b134, 1, none⟩ Hx149 fun Num152 =>
 ldI .i64 ⟨b134, 2, none⟩ Hx149 fun Op153 =>
 ldI .i64 ⟨b134, 3, none⟩ Hx149 fun Field154 =>
 ldI .i64 ⟨b134, 4, none⟩ Hx149 fun Node155 =>
 ldI .u64 ⟨b134, 5, none⟩ Hx149 fun Serial156 =>
 ldSl ⟨b134, 6, none⟩ Hx149 fun RefsP157 RefsL158 RefsC159 =>
 ldI .u64 ⟨b134, 7, none⟩ Hx149 fun Value160 =>
 ldI .i64 ⟨b134, 8, none⟩ Hx149 fun State161 =>
 ldI .i64 ⟨b134, 9, none⟩ Hx149 fun Code162 =>
 ldSl ⟨b134, 10, none⟩ Hx149 fun ResultP163 ResultL164 ResultC165 =>
 ldI .u64 ⟨b134, 11, none⟩ Hx149 fun Back166 =>
 ldI .u64 ⟨b134, 12, none⟩ Hx149 fun Sent167 =>
 ldI .u64 ⟨b134, 13, none⟩ Hx149 fun Wait168 =>
 hcall PR f_model_Model_served ⟨[(.pointer m1), (.int .i64 Node150), (.agg #[(.int .i64 From151), (.int .u64 Num152), (.int .i64 Op153), (.int .i64 Field154), (.int .i64 Node155), (.int .u64 Serial156), (.slice RefsP157 RefsL158 RefsC159), (.int .u64 Value160), (.int .i64 State161), (.int .i64 Code162), (.slice ResultP163 ResultL164 ResultC165), (.int .u64 Back166), (.int .u64 Sent167), (.int .u64 Wait168)])]⟩ Hx149 fun v169 Hx170 =>
 asB v169 fun t171 =>
 (bif (!t171) then
 K (.bool false) Hx170
else
 I111 (IntKind.i64.wrap (t114 + 1)) Hx170 ∧ m112 (IntKind.i64.wrap (t114 + 1)) Hx170 < m112 t114 Hx113))
else
 K (.bool true) Hx113)
else
 K (.bool true) Hx49)))) → R48 t50 Hx49) →
 ldI .i64 ⟨b37, 0, none⟩ Hx45 fun Kind172 =>
 (bif ((Kind172 : Int) == 1) then
 ldI .i64 ⟨b39, 0, none⟩ Hx45 fun Why173 =>
 R48 ((Why173 : Int) != 0) Hx45
else
 R48 false Hx45))) → R44 t46 Hx45) →
 ldI .i64 ⟨b37, 0, none⟩ Hx42 fun Kind174 =>
 (bif ((Kind174 : Int) == 1) then
 R44 (!there43) Hx42
else
 R44 false Hx42)) → R41 there43 Hx42) →
 ldI .i64 ⟨b37, 1, none⟩ Hx40 fun Node175 =>
 (bif (decide ((Node175 : Int) ≥ 1)) then
 ldI .i64 ⟨b37, 1, none⟩ Hx40 fun Node176 =>
 nilP m1 fun ma177 =>
 ldI .i64 ma177 Hx40 fun Nodes178 =>
 R41 (decide ((Node176 : Int) ≤ Nodes178)) Hx40
else
 R41 false Hx40)
theorem E_model_Model_See (m1 : Option Addr) (eKind2 : Int) (eNode3 : Int) (eM4 : Int) (eK5 : Int) (eKind6 : Int) (eA7 : Int) (eB8 : Int) (eField9 : Int) (eRefs10 : Int) (eVals11 : Int) (eTo12 : Int) (eValue13 : Int) (eNum14 : Int) (eByP15 : Option Addr) (eByL16 : Nat) (eByC17 : Nat) (eBytesP18 : Option Addr) (eBytesL19 : Nat) (eBytesC20 : Nat) (rWhy21 : Int) (rWhy22 : Int) (rNode23 : Int) (rSerial24 : Int) (rValue25 : Int) (rTo26 : Int) (rNum27 : Int) (rFreedP28 : Option Addr) (rFreedL29 : Nat) (rFreedC30 : Nat) (rDoneP31 : Option Addr) (rDoneL32 : Nat) (rDoneC33 : Nat) (rSent34 : Int) (rLost35 : Int) (rOk36 : Bool) (H : Hp) (K : Value → Hp → Prop) : B_model_Model_See m1 eKind2 eNode3 eM4 eK5 eKind6 eA7 eB8 eField9 eRefs10 eVals11 eTo12 eValue13 eNum14 eByP15 eByL16 eByC17 eBytesP18 eBytesL19 eBytesC20 rWhy21 rWhy22 rNode23 rSerial24 rValue25 rTo26 rNum27 rFreedP28 rFreedL29 rFreedC30 rDoneP31 rDoneL32 rDoneC33 rSent34 rLost35 rOk36 H K = denF Try.prog Try.f18 (.seq none .n (.seq (some ⟨[(7, .bool)], [0, 4, 5]⟩) .n (.seq none (.sub (.seq (some ⟨[(23, .bool)], [0, 4, 5, 7]⟩) .n (.two .n (.seq (some ⟨[(34, .bool)], [0, 4, 5, 7]⟩) .n (.two .n (.seq none .n (.two .n (.seq none .n (.two (.seq none .n (.sub (.loop ⟨[(79, .int .i64)], [0, 4, 7, 77, 78]⟩ .n))) .n))))))))) .n))) [(.pointer m1), (.agg #[(.int .i64 eKind2), (.int .i64 eNode3), (.int .i64 eM4), (.int .i64 eK5), (.int .i64 eKind6), (.int .i64 eA7), (.int .i64 eB8), (.int .i64 eField9), (.int .i64 eRefs10), (.int .i64 eVals11), (.int .i64 eTo12), (.int .u64 eValue13), (.int .u64 eNum14), (.slice eByP15 eByL16 eByC17), (.slice eBytesP18 eBytesL19 eBytesC20)]), (.agg #[(.int .i64 rWhy21), (.int .i64 rWhy22), (.int .i64 rNode23), (.int .u64 rSerial24), (.int .u64 rValue25), (.int .i64 rTo26), (.int .u64 rNum27), (.slice rFreedP28 rFreedL29 rFreedC30), (.slice rDoneP31 rDoneL32 rDoneC33), (.int .i64 rSent34), (.int .i64 rLost35), (.bool rOk36)])] H K := by kernel_rfl
theorem den_model_Model_See {m1 : Option Addr} {eKind2 : Int} {eNode3 : Int} {eM4 : Int} {eK5 : Int} {eKind6 : Int} {eA7 : Int} {eB8 : Int} {eField9 : Int} {eRefs10 : Int} {eVals11 : Int} {eTo12 : Int} {eValue13 : Int} {eNum14 : Int} {eByP15 : Option Addr} {eByL16 : Nat} {eByC17 : Nat} {eBytesP18 : Option Addr} {eBytesL19 : Nat} {eBytesC20 : Nat} {rWhy21 : Int} {rWhy22 : Int} {rNode23 : Int} {rSerial24 : Int} {rValue25 : Int} {rTo26 : Int} {rNum27 : Int} {rFreedP28 : Option Addr} {rFreedL29 : Nat} {rFreedC30 : Nat} {rDoneP31 : Option Addr} {rDoneL32 : Nat} {rDoneC33 : Nat} {rSent34 : Int} {rLost35 : Int} {rOk36 : Bool} {H : Hp} {K : Value → Hp → Prop} (h : B_model_Model_See m1 eKind2 eNode3 eM4 eK5 eKind6 eA7 eB8 eField9 eRefs10 eVals11 eTo12 eValue13 eNum14 eByP15 eByL16 eByC17 eBytesP18 eBytesL19 eBytesC20 rWhy21 rWhy22 rNode23 rSerial24 rValue25 rTo26 rNum27 rFreedP28 rFreedL29 rFreedC30 rDoneP31 rDoneL32 rDoneC33 rSent34 rLost35 rOk36 H K) : hcall PR f_model_Model_See ⟨[(.pointer m1), (.agg #[(.int .i64 eKind2), (.int .i64 eNode3), (.int .i64 eM4), (.int .i64 eK5), (.int .i64 eKind6), (.int .i64 eA7), (.int .i64 eB8), (.int .i64 eField9), (.int .i64 eRefs10), (.int .i64 eVals11), (.int .i64 eTo12), (.int .u64 eValue13), (.int .u64 eNum14), (.slice eByP15 eByL16 eByC17), (.slice eBytesP18 eBytesL19 eBytesC20)]), (.agg #[(.int .i64 rWhy21), (.int .i64 rWhy22), (.int .i64 rNode23), (.int .u64 rSerial24), (.int .u64 rValue25), (.int .i64 rTo26), (.int .u64 rNum27), (.slice rFreedP28 rFreedL29 rFreedC30), (.slice rDoneP31 rDoneL32 rDoneC33), (.int .i64 rSent34), (.int .i64 rLost35), (.bool rOk36)])]⟩ H K := denF_call Try.func18 PR_mixed (Eq.mp (E_model_Model_See m1 eKind2 eNode3 eM4 eK5 eKind6 eA7 eB8 eField9 eRefs10 eVals11 eTo12 eValue13 eNum14 eByP15 eByL16 eByC17 eBytesP18 eBytesL19 eBytesC20 rWhy21 rWhy22 rNode23 rSerial24 rValue25 rTo26 rNum27 rFreedP28 rFreedL29 rFreedC30 rDoneP31 rDoneL32 rDoneC33 rSent34 rLost35 rOk36 H K) h)

def B_model_Model_Object (m1 : Option Addr) (xNode2 : Int) (xSerial3 : Int) (H : Hp) (K : Value → Hp → Prop) : Prop :=
 newB (.cells #[(.int .i64 xNode2), (.int .u64 xSerial3)] ty_api_ID) H fun b4 Hx5 =>
 newB (.cells #[(.int .u64 0), (.int .i64 0), (.slice none 0 0), (.slice none 0 0), (.int .i64 0)] ty_api_Object) Hx5 fun b6 Hx7 =>
 nilP m1 fun ma8 =>
 ldM (ma8.add 22) Hx7 fun all9 =>
 ldI .i64 ⟨b4, 0, none⟩ Hx7 fun Node10 =>
 ldI .u64 ⟨b4, 1, none⟩ Hx7 fun Serial11 =>
 evR PR (Instr.lookup ty_map_api_ID_pmodel_thing (.map all9) (.agg #[(.int .i64 Node10), (.int .u64 Serial11)]) false) Hx7 fun v12 =>
 asP v12 fun t13 =>
 (bif (Option.isNone (α := Addr) t13) then
 st ⟨b6, 0, none⟩ (.int .u64 0) Hx7 fun Hx14 =>
 st ⟨b6, 1, none⟩ (.int .i64 0) Hx14 fun Hx15 =>
 st ⟨b6, 2, none⟩ (.slice none 0 0) Hx15 fun Hx16 =>
 st ⟨b6, 3, none⟩ (.slice none 0 0) Hx16 fun Hx17 =>
 st ⟨b6, 4, none⟩ (.int .i64 0) Hx17 fun Hx18 =>
 ldI .u64 ⟨b6, 0, none⟩ Hx18 fun Serial19 =>
 ldI .i64 ⟨b6, 1, none⟩ Hx18 fun Cell20 =>
 ldSl ⟨b6, 2, none⟩ Hx18 fun RefsP21 RefsL22 RefsC23 =>
 ldSl ⟨b6, 3, none⟩ Hx18 fun ValsP24 ValsL25 ValsC26 =>
 ldI .i64 ⟨b6, 4, none⟩ Hx18 fun In27 =>
 K (.tuple #[(.agg #[(.int .u64 Serial19), (.int .i64 Cell20), (.slice RefsP21 RefsL22 RefsC23), (.slice ValsP24 ValsL25 ValsC26), (.int .i64 In27)]), (.bool false)]) Hx18
else
 ldI .u64 ⟨b4, 1, none⟩ Hx7 fun Serial28 =>
 nilP t13 fun ta29 =>
 ldSl ta29 Hx7 fun refsP30 refsL31 refsC32 =>
 nilP t13 fun ta33 =>
 ldSl (ta33.add 1) Hx7 fun valsP34 valsL35 valsC36 =>
 (newB (.cells #[] ty_api_ID) Hx7 fun b37 Hx38 =>
 (ldSl (ta33.add 1) Hx38 fun valsP39 valsL40 valsC41 =>
 ((.slice valsP39 valsL40 valsC41) : Value) = (.slice valsP34 valsL35 valsC36)) ∧
 (ldSl ta29 Hx38 fun refsP42 refsL43 refsC44 =>
 ((.slice refsP42 refsL43 refsC44) : Value) = (.slice refsP30 refsL31 refsC32)) ∧
 (ldI .u64 ⟨b4, 1, none⟩ Hx38 fun Serial45 =>
 ((.int .u64 Serial45) : Value) = (.int .u64 Serial28)) ∧
 (evW PR (Builtin.append_ #[ty_Sapi_ID, ty_Sapi_ID] ty_Sapi_ID #[(.slice (some ⟨b37, 0, none⟩) 0 0), (.slice refsP30 refsL31 refsC32)]) Hx38 fun v46 Hx47 =>
 asSl v46 fun tP48 tL49 tC50 =>
 (ldSl (ta33.add 1) Hx47 fun valsP51 valsL52 valsC53 =>
 ((.slice valsP51 valsL52 valsC53) : Value) = (.slice valsP34 valsL35 valsC36)) ∧
 (ldI .u64 ⟨b4, 1, none⟩ Hx47 fun Serial54 =>
 ((.int .u64 Serial54) : Value) = (.int .u64 Serial28)) ∧
 newB (.cells #[] ty_uint64) Hx47 fun b55 Hx56 =>
 (ldSl (ta33.add 1) Hx56 fun valsP57 valsL58 valsC59 =>
 ((.slice valsP57 valsL58 valsC59) : Value) = (.slice valsP34 valsL35 valsC36)) ∧
 (ldI .u64 ⟨b4, 1, none⟩ Hx56 fun Serial60 =>
 ((.int .u64 Serial60) : Value) = (.int .u64 Serial28)) ∧
 evW PR (Builtin.append_ #[ty_Suint64, ty_Suint64] ty_Suint64 #[(.slice (some ⟨b55, 0, none⟩) 0 0), (.slice valsP34 valsL35 valsC36)]) Hx56 fun v61 Hx62 =>
 asSl v61 fun tP63 tL64 tC65 =>
 (ldI .u64 ⟨b4, 1, none⟩ Hx62 fun Serial66 =>
 ((.int .u64 Serial66) : Value) = (.int .u64 Serial28)) ∧
 st ⟨b6, 0, none⟩ (.int .u64 Serial28) Hx62 fun Hx67 =>
 st ⟨b6, 1, none⟩ (.int .i64 0) Hx67 fun Hx68 =>
 st ⟨b6, 2, none⟩ (.slice tP48 tL49 tC50) Hx68 fun Hx69 =>
 st ⟨b6, 3, none⟩ (.slice tP63 tL64 tC65) Hx69 fun Hx70 =>
 st ⟨b6, 4, none⟩ (.int .i64 0) Hx70 fun Hx71 =>
 ldI .u64 ⟨b6, 0, none⟩ Hx71 fun Serial72 =>
 ldI .i64 ⟨b6, 1, none⟩ Hx71 fun Cell73 =>
 ldSl ⟨b6, 2, none⟩ Hx71 fun RefsP74 RefsL75 RefsC76 =>
 ldSl ⟨b6, 3, none⟩ Hx71 fun ValsP77 ValsL78 ValsC79 =>
 ldI .i64 ⟨b6, 4, none⟩ Hx71 fun In80 =>
 K (.tuple #[(.agg #[(.int .u64 Serial72), (.int .i64 Cell73), (.slice RefsP74 RefsL75 RefsC76), (.slice ValsP77 ValsL78 ValsC79), (.int .i64 In80)]), (.bool true)]) Hx71) ∧
 (newB (.cells #[] ty_uint64) Hx38 fun b81 Hx82 =>
 (ldSl (ta33.add 1) Hx82 fun valsP83 valsL84 valsC85 =>
 ((.slice valsP83 valsL84 valsC85) : Value) = (.slice valsP34 valsL35 valsC36)) ∧
 (ldSl ta29 Hx82 fun refsP86 refsL87 refsC88 =>
 ((.slice refsP86 refsL87 refsC88) : Value) = (.slice refsP30 refsL31 refsC32)) ∧
 (ldI .u64 ⟨b4, 1, none⟩ Hx82 fun Serial89 =>
 ((.int .u64 Serial89) : Value) = (.int .u64 Serial28)) ∧
 evW PR (Builtin.append_ #[ty_Sapi_ID, ty_Sapi_ID] ty_Sapi_ID #[(.slice (some ⟨b37, 0, none⟩) 0 0), (.slice refsP30 refsL31 refsC32)]) Hx82 fun v90 Hx91 =>
 asSl v90 fun tP92 tL93 tC94 =>
 (ldSl (ta33.add 1) Hx91 fun valsP95 valsL96 valsC97 =>
 ((.slice valsP95 valsL96 valsC97) : Value) = (.slice valsP34 valsL35 valsC36)) ∧
 (ldI .u64 ⟨b4, 1, none⟩ Hx91 fun Serial98 =>
 ((.int .u64 Serial98) : Value) = (.int .u64 Serial28)) ∧
 evW PR (Builtin.append_ #[ty_Suint64, ty_Suint64] ty_Suint64 #[(.slice (some ⟨b81, 0, none⟩) 0 0), (.slice valsP34 valsL35 valsC36)]) Hx91 fun v99 Hx100 =>
 asSl v99 fun tP101 tL102 tC103 =>
 (ldI .u64 ⟨b4, 1, none⟩ Hx100 fun Serial104 =>
 ((.int .u64 Serial104) : Value) = (.int .u64 Serial28)) ∧
 st ⟨b6, 0, none⟩ (.int .u64 Serial28) Hx100 fun Hx105 =>
 st ⟨b6, 1, none⟩ (.int .i64 0) Hx105 fun Hx106 =>
 st ⟨b6, 2, none⟩ (.slice tP92 tL93 tC94) Hx106 fun Hx107 =>
 st ⟨b6, 3, none⟩ (.slice tP101 tL102 tC103) Hx107 fun Hx108 =>
 st ⟨b6, 4, none⟩ (.int .i64 0) Hx108 fun Hx109 =>
 ldI .u64 ⟨b6, 0, none⟩ Hx109 fun Serial110 =>
 ldI .i64 ⟨b6, 1, none⟩ Hx109 fun Cell111 =>
 ldSl ⟨b6, 2, none⟩ Hx109 fun RefsP112 RefsL113 RefsC114 =>
 ldSl ⟨b6, 3, none⟩ Hx109 fun ValsP115 ValsL116 ValsC117 =>
 ldI .i64 ⟨b6, 4, none⟩ Hx109 fun In118 =>
 K (.tuple #[(.agg #[(.int .u64 Serial110), (.int .i64 Cell111), (.slice RefsP112 RefsL113 RefsC114), (.slice ValsP115 ValsL116 ValsC117), (.int .i64 In118)]), (.bool true)]) Hx109)) ∧
 (newB (.cells #[] ty_uint64) Hx7 fun b119 Hx120 =>
 (ldSl (ta33.add 1) Hx120 fun valsP121 valsL122 valsC123 =>
 ((.slice valsP121 valsL122 valsC123) : Value) = (.slice valsP34 valsL35 valsC36)) ∧
 (ldSl ta29 Hx120 fun refsP124 refsL125 refsC126 =>
 ((.slice refsP124 refsL125 refsC126) : Value) = (.slice refsP30 refsL31 refsC32)) ∧
 (ldI .u64 ⟨b4, 1, none⟩ Hx120 fun Serial127 =>
 ((.int .u64 Serial127) : Value) = (.int .u64 Serial28)) ∧
 newB (.cells #[] ty_api_ID) Hx120 fun b128 Hx129 =>
 (ldSl (ta33.add 1) Hx129 fun valsP130 valsL131 valsC132 =>
 ((.slice valsP130 valsL131 valsC132) : Value) = (.slice valsP34 valsL35 valsC36)) ∧
 (ldSl ta29 Hx129 fun refsP133 refsL134 refsC135 =>
 ((.slice refsP133 refsL134 refsC135) : Value) = (.slice refsP30 refsL31 refsC32)) ∧
 (ldI .u64 ⟨b4, 1, none⟩ Hx129 fun Serial136 =>
 ((.int .u64 Serial136) : Value) = (.int .u64 Serial28)) ∧
 evW PR (Builtin.append_ #[ty_Sapi_ID, ty_Sapi_ID] ty_Sapi_ID #[(.slice (some ⟨b128, 0, none⟩) 0 0), (.slice refsP30 refsL31 refsC32)]) Hx129 fun v137 Hx138 =>
 asSl v137 fun tP139 tL140 tC141 =>
 (ldSl (ta33.add 1) Hx138 fun valsP142 valsL143 valsC144 =>
 ((.slice valsP142 valsL143 valsC144) : Value) = (.slice valsP34 valsL35 valsC36)) ∧
 (ldI .u64 ⟨b4, 1, none⟩ Hx138 fun Serial145 =>
 ((.int .u64 Serial145) : Value) = (.int .u64 Serial28)) ∧
 evW PR (Builtin.append_ #[ty_Suint64, ty_Suint64] ty_Suint64 #[(.slice (some ⟨b119, 0, none⟩) 0 0), (.slice valsP34 valsL35 valsC36)]) Hx138 fun v146 Hx147 =>
 asSl v146 fun tP148 tL149 tC150 =>
 (ldI .u64 ⟨b4, 1, none⟩ Hx147 fun Serial151 =>
 ((.int .u64 Serial151) : Value) = (.int .u64 Serial28)) ∧
 st ⟨b6, 0, none⟩ (.int .u64 Serial28) Hx147 fun Hx152 =>
 st ⟨b6, 1, none⟩ (.int .i64 0) Hx152 fun Hx153 =>
 st ⟨b6, 2, none⟩ (.slice tP139 tL140 tC141) Hx153 fun Hx154 =>
 st ⟨b6, 3, none⟩ (.slice tP148 tL149 tC150) Hx154 fun Hx155 =>
 st ⟨b6, 4, none⟩ (.int .i64 0) Hx155 fun Hx156 =>
 ldI .u64 ⟨b6, 0, none⟩ Hx156 fun Serial157 =>
 ldI .i64 ⟨b6, 1, none⟩ Hx156 fun Cell158 =>
 ldSl ⟨b6, 2, none⟩ Hx156 fun RefsP159 RefsL160 RefsC161 =>
 ldSl ⟨b6, 3, none⟩ Hx156 fun ValsP162 ValsL163 ValsC164 =>
 ldI .i64 ⟨b6, 4, none⟩ Hx156 fun In165 =>
 K (.tuple #[(.agg #[(.int .u64 Serial157), (.int .i64 Cell158), (.slice RefsP159 RefsL160 RefsC161), (.slice ValsP162 ValsL163 ValsC164), (.int .i64 In165)]), (.bool true)]) Hx156))
theorem E_model_Model_Object (m1 : Option Addr) (xNode2 : Int) (xSerial3 : Int) (H : Hp) (K : Value → Hp → Prop) : B_model_Model_Object m1 xNode2 xSerial3 H K = denF Try.prog Try.f19 .n [(.pointer m1), (.agg #[(.int .i64 xNode2), (.int .u64 xSerial3)])] H K := by kernel_rfl
theorem den_model_Model_Object {m1 : Option Addr} {xNode2 : Int} {xSerial3 : Int} {H : Hp} {K : Value → Hp → Prop} (h : B_model_Model_Object m1 xNode2 xSerial3 H K) : hcall PR f_model_Model_Object ⟨[(.pointer m1), (.agg #[(.int .i64 xNode2), (.int .u64 xSerial3)])]⟩ H K := denF_call Try.func19 PR_mixed (Eq.mp (E_model_Model_Object m1 xNode2 xSerial3 H K) h)

def B_model_Model_does (m1 : Option Addr) (eKind2 : Int) (eNode3 : Int) (eM4 : Int) (eK5 : Int) (eKind6 : Int) (eA7 : Int) (eB8 : Int) (eField9 : Int) (eRefs10 : Int) (eVals11 : Int) (eTo12 : Int) (eValue13 : Int) (eNum14 : Int) (eByP15 : Option Addr) (eByL16 : Nat) (eByC17 : Nat) (eBytesP18 : Option Addr) (eBytesL19 : Nat) (eBytesC20 : Nat) (aWhy21 : Int) (aNode22 : Int) (aSerial23 : Int) (aValue24 : Int) (aTo25 : Int) (aNum26 : Int) (H : Hp) (K : Value → Hp → Prop) : Prop :=
 newB (.cells #[(.pointer m1)] ty_pmodel_Model) H fun b27 Hx28 =>
 newB (.cells #[(.int .i64 eKind2), (.int .i64 eNode3), (.int .i64 eM4), (.int .i64 eK5), (.int .i64 eKind6), (.int .i64 eA7), (.int .i64 eB8), (.int .i64 eField9), (.int .i64 eRefs10), (.int .i64 eVals11), (.int .i64 eTo12), (.int .u64 eValue13), (.int .u64 eNum14), (.slice eByP15 eByL16 eByC17), (.slice eBytesP18 eBytesL19 eBytesC20)] ty_world_Event) Hx28 fun b29 Hx30 =>
 newB (.cells #[(.int .i64 aWhy21), (.int .i64 aNode22), (.int .u64 aSerial23), (.int .u64 aValue24), (.int .i64 aTo25), (.int .u64 aNum26)] ty_node_Answer) Hx30 fun b31 Hx32 =>
 ldI .i64 ⟨b29, 4, none⟩ Hx32 fun Kind33 =>
 ldI .i64 ⟨b29, 5, none⟩ Hx32 fun A34 =>
 ldI .i64 ⟨b29, 6, none⟩ Hx32 fun B35 =>
 ldI .i64 ⟨b29, 7, none⟩ Hx32 fun Field36 =>
 ldI .i64 ⟨b29, 8, none⟩ Hx32 fun Refs37 =>
 ldI .i64 ⟨b29, 9, none⟩ Hx32 fun Vals38 =>
 ldI .i64 ⟨b29, 10, none⟩ Hx32 fun To39 =>
 ldI .u64 ⟨b29, 11, none⟩ Hx32 fun Value40 =>
 ldI .u64 ⟨b29, 12, none⟩ Hx32 fun Num41 =>
 newB (.cells #[(.int .i64 0), (.int .i64 0), (.int .i64 0), (.int .i64 0), (.int .i64 0), (.int .i64 0), (.int .i64 0), (.int .u64 0), (.int .u64 0)] ty_node_Op) Hx32 fun b42 Hx43 =>
 st ⟨b42, 0, none⟩ (.int .i64 Kind33) Hx43 fun Hx44 =>
 st ⟨b42, 1, none⟩ (.int .i64 A34) Hx44 fun Hx45 =>
 st ⟨b42, 2, none⟩ (.int .i64 B35) Hx45 fun Hx46 =>
 st ⟨b42, 3, none⟩ (.int .i64 Field36) Hx46 fun Hx47 =>
 st ⟨b42, 4, none⟩ (.int .i64 Refs37) Hx47 fun Hx48 =>
 st ⟨b42, 5, none⟩ (.int .i64 Vals38) Hx48 fun Hx49 =>
 st ⟨b42, 6, none⟩ (.int .i64 To39) Hx49 fun Hx50 =>
 st ⟨b42, 7, none⟩ (.int .u64 Value40) Hx50 fun Hx51 =>
 st ⟨b42, 8, none⟩ (.int .u64 Num41) Hx51 fun Hx52 =>
 ldP ⟨b27, 0, none⟩ Hx52 fun t53 =>
 ldI .i64 ⟨b29, 0, none⟩ Hx52 fun Kind54 =>
 ldI .i64 ⟨b29, 1, none⟩ Hx52 fun Node55 =>
 ldI .i64 ⟨b29, 2, none⟩ Hx52 fun M56 =>
 ldI .i64 ⟨b29, 3, none⟩ Hx52 fun Kx57 =>
 ldI .i64 ⟨b29, 4, none⟩ Hx52 fun Kind58 =>
 ldI .i64 ⟨b29, 5, none⟩ Hx52 fun A59 =>
 ldI .i64 ⟨b29, 6, none⟩ Hx52 fun B60 =>
 ldI .i64 ⟨b29, 7, none⟩ Hx52 fun Field61 =>
 ldI .i64 ⟨b29, 8, none⟩ Hx52 fun Refs62 =>
 ldI .i64 ⟨b29, 9, none⟩ Hx52 fun Vals63 =>
 ldI .i64 ⟨b29, 10, none⟩ Hx52 fun To64 =>
 ldI .u64 ⟨b29, 11, none⟩ Hx52 fun Value65 =>
 ldI .u64 ⟨b29, 12, none⟩ Hx52 fun Num66 =>
 ldSl ⟨b29, 13, none⟩ Hx52 fun ByP67 ByL68 ByC69 =>
 ldSl ⟨b29, 14, none⟩ Hx52 fun BytesP70 BytesL71 BytesC72 =>
 ldI .i64 ⟨b42, 1, none⟩ Hx52 fun A73 =>
 hcall PR f_model_Model_slot ⟨[(.pointer t53), (.agg #[(.int .i64 Kind54), (.int .i64 Node55), (.int .i64 M56), (.int .i64 Kx57), (.int .i64 Kind58), (.int .i64 A59), (.int .i64 B60), (.int .i64 Field61), (.int .i64 Refs62), (.int .i64 Vals63), (.int .i64 To64), (.int .u64 Value65), (.int .u64 Num66), (.slice ByP67 ByL68 ByC69), (.slice BytesP70 BytesL71 BytesC72)]), (.int .i64 A73), (.bool false)]⟩ Hx52 fun v74 Hx75 =>
 tup2 v74 fun v76 v77 =>
 agg2 v76 fun v78 v79 =>
 asI .i64 v78 fun Node80 =>
 asI .u64 v79 fun Serial81 =>
 asB v77 fun t82 =>
 newB (.cells #[(.int .i64 0), (.int .u64 0)] ty_api_ID) Hx75 fun b83 Hx84 =>
 st ⟨b83, 0, none⟩ (.int .i64 Node80) Hx84 fun Hx85 =>
 st ⟨b83, 1, none⟩ (.int .u64 Serial81) Hx85 fun Hx86 =>
 ∀ R87 : Option Addr → Bool → Hp → Prop, (∀ y89 : Option Addr, ∀ okB90 : Bool, ∀ Hx88 : Hp, (
 newB (.cells #[(.int .i64 0), (.int .u64 0)] ty_api_ID) Hx88 fun b91 Hx92 =>
 st ⟨b91, 0, none⟩ (.int .i64 0) Hx92 fun Hx93 =>
 st ⟨b91, 1, none⟩ (.int .u64 0) Hx93 fun Hx94 =>
 ldP ⟨b27, 0, none⟩ Hx94 fun t95 =>
 ldI .i64 ⟨b29, 1, none⟩ Hx94 fun Node96 =>
 ldI .i64 ⟨b83, 0, none⟩ Hx94 fun Node97 =>
 ldI .u64 ⟨b83, 1, none⟩ Hx94 fun Serial98 =>
 ldP ⟨b27, 0, none⟩ Hx94 fun t99 =>
 ldI .i64 ⟨b29, 1, none⟩ Hx94 fun Node100 =>
 asA (.pointer y89) fun ya101 =>
 ldI .i64 ya101 Hx94 fun Node102 =>
 ldI .u64 (ya101.add 1) Hx94 fun Serial103 =>
 hcall PR f_model_Model_object ⟨[(.pointer t95), (.int .i64 Node96), (.agg #[(.int .i64 Node97), (.int .u64 Serial98)])]⟩ Hx94 fun v104 Hx105 =>
 asP v104 fun t106 =>
 (asA (.pointer y89) fun ya107 =>
 ldI .i64 ya107 Hx105 fun Node108 =>
 ldI .u64 (ya107.add 1) Hx105 fun Serial109 =>
 ((.agg #[(.int .i64 Node108), (.int .u64 Serial109)]) : Value) = (.agg #[(.int .i64 Node102), (.int .u64 Serial103)])) ∧
 (ldI .i64 ⟨b29, 1, none⟩ Hx105 fun Node110 =>
 ((.int .i64 Node110) : Value) = (.int .i64 Node100)) ∧
 (ldP ⟨b27, 0, none⟩ Hx105 fun t111 =>
 ((.pointer t111) : Value) = (.pointer t99)) ∧
 hcall PR f_model_Model_object ⟨[(.pointer t99), (.int .i64 Node100), (.agg #[(.int .i64 Node102), (.int .u64 Serial103)])]⟩ Hx105 fun v112 Hx113 =>
 asP v112 fun t114 =>
 ldI .i64 ⟨b42, 0, none⟩ Hx113 fun Kind115 =>
 (bif ((Kind115 : Int) == 1) then
 (bif t82 then
 ldI .i64 ⟨b31, 0, none⟩ Hx113 fun Why116 =>
 ldI .i64 ⟨b31, 1, none⟩ Hx113 fun Node117 =>
 ldI .u64 ⟨b31, 2, none⟩ Hx113 fun Serial118 =>
 ldI .u64 ⟨b31, 3, none⟩ Hx113 fun Value119 =>
 ldI .i64 ⟨b31, 4, none⟩ Hx113 fun To120 =>
 ldI .u64 ⟨b31, 5, none⟩ Hx113 fun Num121 =>
 ldI .i64 ⟨b31, 1, none⟩ Hx113 fun Node122 =>
 ldI .u64 ⟨b31, 2, none⟩ Hx113 fun Serial123 =>
 evR PR (aggEq .eql ty_node_Answer #[(.int .i64 Why116), (.int .i64 Node117), (.int .u64 Serial118), (.int .u64 Value119), (.int .i64 To120), (.int .u64 Num121)] #[(.int .i64 0), (.int .i64 Node122), (.int .u64 Serial123), (.int .u64 0), (.int .i64 0), (.int .u64 0)]) Hx113 fun v124 =>
 asB v124 fun eq125 =>
 (bif eq125 then
 ldP ⟨b27, 0, none⟩ Hx113 fun t126 =>
 ldI .i64 ⟨b29, 1, none⟩ Hx113 fun Node127 =>
 ldI .i64 ⟨b31, 1, none⟩ Hx113 fun Node128 =>
 ldI .u64 ⟨b31, 2, none⟩ Hx113 fun Serial129 =>
 ldI .i64 ⟨b42, 4, none⟩ Hx113 fun Refs130 =>
 ldI .i64 ⟨b42, 5, none⟩ Hx113 fun Vals131 =>
 hcall PR f_model_Model_born ⟨[(.pointer t126), (.int .i64 Node127), (.agg #[(.int .i64 Node128), (.int .u64 Serial129)]), (.int .i64 Refs130), (.int .i64 Vals131)]⟩ Hx113 fun v132 Hx133 =>
 asB v132 fun t134 =>
 (bif t134 then
 ldI .i64 ⟨b31, 1, none⟩ Hx133 fun Node135 =>
 ldI .u64 ⟨b31, 2, none⟩ Hx133 fun Serial136 =>
 hcall PR f_model_Model_does_1 ⟨[(.agg #[(.int .i64 Node135), (.int .u64 Serial136)]), (.pointer (some ⟨b27, 0, none⟩)), (.pointer (some ⟨b29, 0, none⟩)), (.pointer (some ⟨b42, 0, none⟩))]⟩ Hx133 fun v137 Hx138 =>
 asB v137 fun t139 =>
 K (.bool t139) Hx138
else
 K (.bool false) Hx133)
else
 K (.bool false) Hx113)
else
 K (.bool false) Hx113)
else
 (bif ((Kind115 : Int) == 2) then
 (bif t82 then
 (bif okB90 then
 asA (.pointer y89) fun ya140 =>
 ldI .i64 ya140 Hx113 fun Node141 =>
 ldI .u64 (ya140.add 1) Hx113 fun Serial142 =>
 ldI .i64 ⟨b91, 0, none⟩ Hx113 fun Node143 =>
 ldI .u64 ⟨b91, 1, none⟩ Hx113 fun Serial144 =>
 evR PR (aggEq .neq ty_api_ID #[(.int .i64 Node141), (.int .u64 Serial142)] #[(.int .i64 Node143), (.int .u64 Serial144)]) Hx113 fun v145 =>
 asB v145 fun eq146 =>
 (bif eq146 then
 ldI .i64 ⟨b31, 0, none⟩ Hx113 fun Why147 =>
 ldI .i64 ⟨b31, 1, none⟩ Hx113 fun Node148 =>
 ldI .u64 ⟨b31, 2, none⟩ Hx113 fun Serial149 =>
 ldI .u64 ⟨b31, 3, none⟩ Hx113 fun Value150 =>
 ldI .i64 ⟨b31, 4, none⟩ Hx113 fun To151 =>
 ldI .u64 ⟨b31, 5, none⟩ Hx113 fun Num152 =>
 asA (.pointer y89) fun ya153 =>
 ldI .i64 ya153 Hx113 fun Node154 =>
 ldI .u64 (ya153.add 1) Hx113 fun Serial155 =>
 evR PR (aggEq .eql ty_node_Answer #[(.int .i64 Why147), (.int .i64 Node148), (.int .u64 Serial149), (.int .u64 Value150), (.int .i64 To151), (.int .u64 Num152)] #[(.int .i64 0), (.int .i64 Node154), (.int .u64 Serial155), (.int .u64 0), (.int .i64 0), (.int .u64 0)]) Hx113 fun v156 =>
 asB v156 fun eq157 =>
 (bif eq157 then
 asA (.pointer y89) fun ya158 =>
 ldI .i64 ya158 Hx113 fun Node159 =>
 ldI .u64 (ya158.add 1) Hx113 fun Serial160 =>
 hcall PR f_model_Model_does_1 ⟨[(.agg #[(.int .i64 Node159), (.int .u64 Serial160)]), (.pointer (some ⟨b27, 0, none⟩)), (.pointer (some ⟨b29, 0, none⟩)), (.pointer (some ⟨b42, 0, none⟩))]⟩ Hx113 fun v161 Hx162 =>
 asB v161 fun t163 =>
 K (.bool t163) Hx162
else
 K (.bool false) Hx113)
else
 K (.bool false) Hx113)
else
 K (.bool false) Hx113)
else
 K (.bool false) Hx113)
else
 (bif ((Kind115 : Int) == 3) then
 (bif t82 then
 ldI .i64 ⟨b31, 0, none⟩ Hx113 fun Why164 =>
 ldI .i64 ⟨b31, 1, none⟩ Hx113 fun Node165 =>
 ldI .u64 ⟨b31, 2, none⟩ Hx113 fun Serial166 =>
 ldI .u64 ⟨b31, 3, none⟩ Hx113 fun Value167 =>
 ldI .i64 ⟨b31, 4, none⟩ Hx113 fun To168 =>
 ldI .u64 ⟨b31, 5, none⟩ Hx113 fun Num169 =>
 evR PR (aggEq .eql ty_node_Answer #[(.int .i64 Why164), (.int .i64 Node165), (.int .u64 Serial166), (.int .u64 Value167), (.int .i64 To168), (.int .u64 Num169)] #[(.int .i64 0), (.int .i64 0), (.int .u64 0), (.int .u64 0), (.int .i64 0), (.int .u64 0)]) Hx113 fun v170 =>
 asB v170 fun eq171 =>
 (bif eq171 then
 ldI .i64 ⟨b91, 0, none⟩ Hx113 fun Node172 =>
 ldI .u64 ⟨b91, 1, none⟩ Hx113 fun Serial173 =>
 hcall PR f_model_Model_does_1 ⟨[(.agg #[(.int .i64 Node172), (.int .u64 Serial173)]), (.pointer (some ⟨b27, 0, none⟩)), (.pointer (some ⟨b29, 0, none⟩)), (.pointer (some ⟨b42, 0, none⟩))]⟩ Hx113 fun v174 Hx175 =>
 asB v174 fun t176 =>
 K (.bool t176) Hx175
else
 K (.bool false) Hx113)
else
 K (.bool false) Hx113)
else
 (bif ((Kind115 : Int) == 4) then
 (bif t82 then
 (bif okB90 then
 (bif (!(Option.isNone (α := Addr) t114)) then
 ldI .i64 ⟨b42, 3, none⟩ Hx113 fun Field177 =>
 nilP t114 fun ta178 =>
 ldSl ta178 Hx113 fun refsP179 refsL180 refsC181 =>
 hcall PR f_model_in ⟨[(.int .i64 Field177), (.int .i64 (refsL180 : Int))]⟩ Hx113 fun v182 Hx183 =>
 asB v182 fun t184 =>
 (bif t184 then
 ldI .i64 ⟨b31, 0, none⟩ Hx183 fun Why185 =>
 ldI .i64 ⟨b31, 1, none⟩ Hx183 fun Node186 =>
 ldI .u64 ⟨b31, 2, none⟩ Hx183 fun Serial187 =>
 ldI .u64 ⟨b31, 3, none⟩ Hx183 fun Value188 =>
 ldI .i64 ⟨b31, 4, none⟩ Hx183 fun To189 =>
 ldI .u64 ⟨b31, 5, none⟩ Hx183 fun Num190 =>
 nilP t114 fun ta191 =>
 ldSl ta191 Hx183 fun refsP192 refsL193 refsC194 =>
 ldI .i64 ⟨b42, 3, none⟩ Hx183 fun Field195 =>
 idxA refsP192 refsL193 Field195 2 fun el196 =>
 ldI .i64 el196 Hx183 fun Node197 =>
 ldI .u64 (el196.add 1) Hx183 fun Serial198 =>
 evR PR (aggEq .eql ty_node_Answer #[(.int .i64 Why185), (.int .i64 Node186), (.int .u64 Serial187), (.int .u64 Value188), (.int .i64 To189), (.int .u64 Num190)] #[(.int .i64 0), (.int .i64 Node197), (.int .u64 Serial198), (.int .u64 0), (.int .i64 0), (.int .u64 0)]) Hx183 fun v199 =>
 asB v199 fun eq200 =>
 (bif eq200 then
 nilP t114 fun ta201 =>
 ldSl ta201 Hx183 fun refsP202 refsL203 refsC204 =>
 ldI .i64 ⟨b42, 3, none⟩ Hx183 fun Field205 =>
 idxA refsP202 refsL203 Field205 2 fun el206 =>
 ldI .i64 el206 Hx183 fun Node207 =>
 ldI .u64 (el206.add 1) Hx183 fun Serial208 =>
 hcall PR f_model_Model_does_1 ⟨[(.agg #[(.int .i64 Node207), (.int .u64 Serial208)]), (.pointer (some ⟨b27, 0, none⟩)), (.pointer (some ⟨b29, 0, none⟩)), (.pointer (some ⟨b42, 0, none⟩))]⟩ Hx183 fun v209 Hx210 =>
 asB v209 fun t211 =>
 K (.bool t211) Hx210
else
 K (.bool false) Hx183)
else
 K (.bool false) Hx183)
else
 K (.bool false) Hx113)
else
 K (.bool false) Hx113)
else
 K (.bool false) Hx113)
else
 (bif ((Kind115 : Int) == 5) then
 (bif (!t82) then
 K (.bool false) Hx113
else
 (bif (!okB90) then
 K (.bool false) Hx113
else
 (bif (Option.isNone (α := Addr) t106) then
 K (.bool false) Hx113
else
 ldI .i64 ⟨b42, 3, none⟩ Hx113 fun Field212 =>
 nilP t106 fun ta213 =>
 ldSl ta213 Hx113 fun refsP214 refsL215 refsC216 =>
 hcall PR f_model_in ⟨[(.int .i64 Field212), (.int .i64 (refsL215 : Int))]⟩ Hx113 fun v217 Hx218 =>
 asB v217 fun t219 =>
 (bif (!t219) then
 K (.bool false) Hx218
else
 ldI .i64 ⟨b31, 0, none⟩ Hx218 fun Why220 =>
 ldI .i64 ⟨b31, 1, none⟩ Hx218 fun Node221 =>
 ldI .u64 ⟨b31, 2, none⟩ Hx218 fun Serial222 =>
 ldI .u64 ⟨b31, 3, none⟩ Hx218 fun Value223 =>
 ldI .i64 ⟨b31, 4, none⟩ Hx218 fun To224 =>
 ldI .u64 ⟨b31, 5, none⟩ Hx218 fun Num225 =>
 evR PR (aggEq .neq ty_node_Answer #[(.int .i64 Why220), (.int .i64 Node221), (.int .u64 Serial222), (.int .u64 Value223), (.int .i64 To224), (.int .u64 Num225)] #[(.int .i64 0), (.int .i64 0), (.int .u64 0), (.int .u64 0), (.int .i64 0), (.int .u64 0)]) Hx218 fun v226 =>
 asB v226 fun eq227 =>
 (bif eq227 then
 K (.bool false) Hx218
else
 nilP t106 fun ta228 =>
 ldSl ta228 Hx218 fun refsP229 refsL230 refsC231 =>
 ldI .i64 ⟨b42, 3, none⟩ Hx218 fun Field232 =>
 asA (.pointer y89) fun ya233 =>
 ldI .i64 ya233 Hx218 fun Node234 =>
 ldI .u64 (ya233.add 1) Hx218 fun Serial235 =>
 idxA refsP229 refsL230 Field232 2 fun el236 =>
 st el236 (.int .i64 Node234) Hx218 fun Hx237 =>
 st (el236.add 1) (.int .u64 Serial235) Hx237 fun Hx238 =>
 K (.bool true) Hx238)))))
else
 (bif ((Kind115 : Int) == 6) then
 (bif t82 then
 (bif (!(Option.isNone (α := Addr) t106)) then
 ldI .i64 ⟨b42, 3, none⟩ Hx113 fun Field239 =>
 nilP t106 fun ta240 =>
 ldSl (ta240.add 1) Hx113 fun valsP241 valsL242 valsC243 =>
 hcall PR f_model_in ⟨[(.int .i64 Field239), (.int .i64 (valsL242 : Int))]⟩ Hx113 fun v244 Hx245 =>
 asB v244 fun t246 =>
 (bif t246 then
 ldI .i64 ⟨b31, 0, none⟩ Hx245 fun Why247 =>
 ldI .i64 ⟨b31, 1, none⟩ Hx245 fun Node248 =>
 ldI .u64 ⟨b31, 2, none⟩ Hx245 fun Serial249 =>
 ldI .u64 ⟨b31, 3, none⟩ Hx245 fun Value250 =>
 ldI .i64 ⟨b31, 4, none⟩ Hx245 fun To251 =>
 ldI .u64 ⟨b31, 5, none⟩ Hx245 fun Num252 =>
 nilP t106 fun ta253 =>
 ldSl (ta253.add 1) Hx245 fun valsP254 valsL255 valsC256 =>
 ldI .i64 ⟨b42, 3, none⟩ Hx245 fun Field257 =>
 idxA valsP254 valsL255 Field257 1 fun el258 =>
 ldI .u64 el258 Hx245 fun t259 =>
 evR PR (aggEq .eql ty_node_Answer #[(.int .i64 Why247), (.int .i64 Node248), (.int .u64 Serial249), (.int .u64 Value250), (.int .i64 To251), (.int .u64 Num252)] #[(.int .i64 0), (.int .i64 0), (.int .u64 0), (.int .u64 t259), (.int .i64 0), (.int .u64 0)]) Hx245 fun v260 =>
 asB v260 fun eq261 =>
 K (.bool eq261) Hx245
else
 K (.bool false) Hx245)
else
 K (.bool false) Hx113)
else
 K (.bool false) Hx113)
else
 (bif ((Kind115 : Int) == 7) then
 (bif (!t82) then
 K (.bool false) Hx113
else
 (bif (Option.isNone (α := Addr) t106) then
 K (.bool false) Hx113
else
 ldI .i64 ⟨b42, 3, none⟩ Hx113 fun Field262 =>
 nilP t106 fun ta263 =>
 ldSl (ta263.add 1) Hx113 fun valsP264 valsL265 valsC266 =>
 hcall PR f_model_in ⟨[(.int .i64 Field262), (.int .i64 (valsL265 : Int))]⟩ Hx113 fun v267 Hx268 =>
 asB v267 fun t269 =>
 (bif (!t269) then
 K (.bool false) Hx268
else
 ldI .i64 ⟨b31, 0, none⟩ Hx268 fun Why270 =>
 ldI .i64 ⟨b31, 1, none⟩ Hx268 fun Node271 =>
 ldI .u64 ⟨b31, 2, none⟩ Hx268 fun Serial272 =>
 ldI .u64 ⟨b31, 3, none⟩ Hx268 fun Value273 =>
 ldI .i64 ⟨b31, 4, none⟩ Hx268 fun To274 =>
 ldI .u64 ⟨b31, 5, none⟩ Hx268 fun Num275 =>
 evR PR (aggEq .neq ty_node_Answer #[(.int .i64 Why270), (.int .i64 Node271), (.int .u64 Serial272), (.int .u64 Value273), (.int .i64 To274), (.int .u64 Num275)] #[(.int .i64 0), (.int .i64 0), (.int .u64 0), (.int .u64 0), (.int .i64 0), (.int .u64 0)]) Hx268 fun v276 =>
 asB v276 fun eq277 =>
 (bif eq277 then
 K (.bool false) Hx268
else
 nilP t106 fun ta278 =>
 ldSl (ta278.add 1) Hx268 fun valsP279 valsL280 valsC281 =>
 ldI .i64 ⟨b42, 3, none⟩ Hx268 fun Field282 =>
 ldI .u64 ⟨b42, 7, none⟩ Hx268 fun Value283 =>
 idxA valsP279 valsL280 Field282 1 fun el284 =>
 st el284 (.int .u64 Value283) Hx268 fun Hx285 =>
 K (.bool true) Hx285))))
else
 (bif ((Kind115 : Int) == 8) then
 newB (.cells #[(.int .i64 0), (.int .i64 0), (.int .u64 0), (.int .u64 0), (.int .i64 0), (.int .u64 0)] ty_node_Answer) Hx113 fun b286 Hx287 =>
 st ⟨b286, 0, none⟩ (.int .i64 0) Hx287 fun Hx288 =>
 st ⟨b286, 1, none⟩ (.int .i64 0) Hx288 fun Hx289 =>
 st ⟨b286, 2, none⟩ (.int .u64 0) Hx289 fun Hx290 =>
 st ⟨b286, 3, none⟩ (.int .u64 0) Hx290 fun Hx291 =>
 st ⟨b286, 4, none⟩ (.int .i64 0) Hx291 fun Hx292 =>
 st ⟨b286, 5, none⟩ (.int .u64 0) Hx292 fun Hx293 =>
 ∀ R294 : Hp → Prop, (∀ Hx295 : Hp, (
 (bif t82 then
 (bif okB90 then
 ldI .i64 ⟨b31, 0, none⟩ Hx295 fun Why296 =>
 ldI .i64 ⟨b31, 1, none⟩ Hx295 fun Node297 =>
 ldI .u64 ⟨b31, 2, none⟩ Hx295 fun Serial298 =>
 ldI .u64 ⟨b31, 3, none⟩ Hx295 fun Value299 =>
 ldI .i64 ⟨b31, 4, none⟩ Hx295 fun To300 =>
 ldI .u64 ⟨b31, 5, none⟩ Hx295 fun Num301 =>
 ldI .i64 ⟨b286, 0, none⟩ Hx295 fun Why302 =>
 ldI .i64 ⟨b286, 1, none⟩ Hx295 fun Node303 =>
 ldI .u64 ⟨b286, 2, none⟩ Hx295 fun Serial304 =>
 ldI .u64 ⟨b286, 3, none⟩ Hx295 fun Value305 =>
 ldI .i64 ⟨b286, 4, none⟩ Hx295 fun To306 =>
 ldI .u64 ⟨b286, 5, none⟩ Hx295 fun Num307 =>
 evR PR (aggEq .eql ty_node_Answer #[(.int .i64 Why296), (.int .i64 Node297), (.int .u64 Serial298), (.int .u64 Value299), (.int .i64 To300), (.int .u64 Num301)] #[(.int .i64 Why302), (.int .i64 Node303), (.int .u64 Serial304), (.int .u64 Value305), (.int .i64 To306), (.int .u64 Num307)]) Hx295 fun v308 =>
 asB v308 fun eq309 =>
 K (.bool eq309) Hx295
else
 K (.bool false) Hx295)
else
 K (.bool false) Hx295)) → R294 Hx295) →
 ldI .i64 ⟨b83, 0, none⟩ Hx293 fun Node310 =>
 ldI .u64 ⟨b83, 1, none⟩ Hx293 fun Serial311 =>
 asA (.pointer y89) fun ya312 =>
 ldI .i64 ya312 Hx293 fun Node313 =>
 ldI .u64 (ya312.add 1) Hx293 fun Serial314 =>
 evR PR (aggEq .eql ty_api_ID #[(.int .i64 Node310), (.int .u64 Serial311)] #[(.int .i64 Node313), (.int .u64 Serial314)]) Hx293 fun v315 =>
 asB v315 fun eq316 =>
 (bif eq316 then
 st ⟨b286, 3, none⟩ (.int .u64 1) Hx293 fun Hx317 =>
 R294 Hx317
else
 R294 Hx293)
else
 (bif ((Kind115 : Int) == 14) then
 (bif t82 then
 ldP ⟨b27, 0, none⟩ Hx113 fun t318 =>
 ldI .i64 ⟨b29, 0, none⟩ Hx113 fun Kind319 =>
 ldI .i64 ⟨b29, 1, none⟩ Hx113 fun Node320 =>
 ldI .i64 ⟨b29, 2, none⟩ Hx113 fun M321 =>
 ldI .i64 ⟨b29, 3, none⟩ Hx113 fun Kx322 =>
 ldI .i64 ⟨b29, 4, none⟩ Hx113 fun Kind323 =>
 ldI .i64 ⟨b29, 5, none⟩ Hx113 fun A324 =>
 ldI .i64 ⟨b29, 6, none⟩ Hx113 fun B325 =>
 ldI .i64 ⟨b29, 7, none⟩ Hx113 fun Field326 =>
 ldI .i64 ⟨b29, 8, none⟩ Hx113 fun Refs327 =>
 ldI .i64 ⟨b29, 9, none⟩ Hx113 fun Vals328 =>
 ldI .i64 ⟨b29, 10, none⟩ Hx113 fun To329 =>
 ldI .u64 ⟨b29, 11, none⟩ Hx113 fun Value330 =>
 ldI .u64 ⟨b29, 12, none⟩ Hx113 fun Num331 =>
 ldSl ⟨b29, 13, none⟩ Hx113 fun ByP332 ByL333 ByC334 =>
 ldSl ⟨b29, 14, none⟩ Hx113 fun BytesP335 BytesL336 BytesC337 =>
 ldI .i64 ⟨b31, 0, none⟩ Hx113 fun Why338 =>
 ldI .i64 ⟨b31, 1, none⟩ Hx113 fun Node339 =>
 ldI .u64 ⟨b31, 2, none⟩ Hx113 fun Serial340 =>
 ldI .u64 ⟨b31, 3, none⟩ Hx113 fun Value341 =>
 ldI .i64 ⟨b31, 4, none⟩ Hx113 fun To342 =>
 ldI .u64 ⟨b31, 5, none⟩ Hx113 fun Num343 =>
 hcall PR f_model_Model_await ⟨[(.pointer t318), (.agg #[(.int .i64 Kind319), (.int .i64 Node320), (.int .i64 M321), (.int .i64 Kx322), (.int .i64 Kind323), (.int .i64 A324), (.int .i64 B325), (.int .i64 Field326), (.int .i64 Refs327), (.int .i64 Vals328), (.int .i64 To329), (.int .u64 Value330), (.int .u64 Num331), (.slice ByP332 ByL333 ByC334), (.slice BytesP335 BytesL336 BytesC337)]), (.agg #[(.int .i64 Why338), (.int .i64 Node339), (.int .u64 Serial340), (.int .u64 Value341), (.int .i64 To342), (.int .u64 Num343)]), (.func (.func f_model_Model_does_1) #[] #[(.pointer (some ⟨b27, 0, none⟩)), (.pointer (some ⟨b29, 0, none⟩)), (.pointer (some ⟨b42, 0, none⟩))])]⟩ Hx113 fun v344 Hx345 =>
 asB v344 fun t346 =>
 K (.bool t346) Hx345
else
 K (.bool false) Hx113)
else
 (bif ((Kind115 : Int) == 9) then
 ldI .i64 ⟨b42, 4, none⟩ Hx113 fun Refs347 =>
 hcall PR f_model_in ⟨[(.int .i64 Refs347), (.int .i64 8)]⟩ Hx113 fun v348 Hx349 =>
 asB v348 fun t350 =>
 (bif t350 then
 ldI .i64 ⟨b42, 5, none⟩ Hx349 fun Vals351 =>
 hcall PR f_model_in ⟨[(.int .i64 Vals351), (.int .i64 8)]⟩ Hx349 fun v352 Hx353 =>
 asB v352 fun t354 =>
 (bif t354 then
 ldP ⟨b27, 0, none⟩ Hx353 fun t355 =>
 ldI .i64 ⟨b29, 0, none⟩ Hx353 fun Kind356 =>
 ldI .i64 ⟨b29, 1, none⟩ Hx353 fun Node357 =>
 ldI .i64 ⟨b29, 2, none⟩ Hx353 fun M358 =>
 ldI .i64 ⟨b29, 3, none⟩ Hx353 fun Kx359 =>
 ldI .i64 ⟨b29, 4, none⟩ Hx353 fun Kind360 =>
 ldI .i64 ⟨b29, 5, none⟩ Hx353 fun A361 =>
 ldI .i64 ⟨b29, 6, none⟩ Hx353 fun B362 =>
 ldI .i64 ⟨b29, 7, none⟩ Hx353 fun Field363 =>
 ldI .i64 ⟨b29, 8, none⟩ Hx353 fun Refs364 =>
 ldI .i64 ⟨b29, 9, none⟩ Hx353 fun Vals365 =>
 ldI .i64 ⟨b29, 10, none⟩ Hx353 fun To366 =>
 ldI .u64 ⟨b29, 11, none⟩ Hx353 fun Value367 =>
 ldI .u64 ⟨b29, 12, none⟩ Hx353 fun Num368 =>
 ldSl ⟨b29, 13, none⟩ Hx353 fun ByP369 ByL370 ByC371 =>
 ldSl ⟨b29, 14, none⟩ Hx353 fun BytesP372 BytesL373 BytesC374 =>
 ldI .i64 ⟨b31, 0, none⟩ Hx353 fun Why375 =>
 ldI .i64 ⟨b31, 1, none⟩ Hx353 fun Node376 =>
 ldI .u64 ⟨b31, 2, none⟩ Hx353 fun Serial377 =>
 ldI .u64 ⟨b31, 3, none⟩ Hx353 fun Value378 =>
 ldI .i64 ⟨b31, 4, none⟩ Hx353 fun To379 =>
 ldI .u64 ⟨b31, 5, none⟩ Hx353 fun Num380 =>
 ldI .i64 ⟨b42, 4, none⟩ Hx353 fun Refs381 =>
 ldI .i64 ⟨b42, 5, none⟩ Hx353 fun Vals382 =>
 newB (.cells #[(.int .i64 1), (.int .i64 (IntKind.i64.wrap (Refs381 + (IntKind.i64.wrap (8 * Vals382))))), (.int .i64 0), (.int .u64 0), (.slice none 0 0), (.int .u64 0), (.bool false), (.bool false), (.int .i64 0), (.int .u64 0), (.slice none 0 0)] ty_model_call) Hx353 fun b383 Hx384 =>
 ldI .i64 ⟨b42, 6, none⟩ Hx384 fun To385 =>
 hcall PR f_model_Model_begin ⟨[(.pointer t355), (.agg #[(.int .i64 Kind356), (.int .i64 Node357), (.int .i64 M358), (.int .i64 Kx359), (.int .i64 Kind360), (.int .i64 A361), (.int .i64 B362), (.int .i64 Field363), (.int .i64 Refs364), (.int .i64 Vals365), (.int .i64 To366), (.int .u64 Value367), (.int .u64 Num368), (.slice ByP369 ByL370 ByC371), (.slice BytesP372 BytesL373 BytesC374)]), (.agg #[(.int .i64 Why375), (.int .i64 Node376), (.int .u64 Serial377), (.int .u64 Value378), (.int .i64 To379), (.int .u64 Num380)]), (.pointer (some ⟨b383, 0, none⟩)), (.int .i64 To385)]⟩ Hx384 fun v386 Hx387 =>
 asB v386 fun t388 =>
 K (.bool t388) Hx387
else
 K (.bool false) Hx353)
else
 K (.bool false) Hx349)
else
 (bif ((Kind115 : Int) == 15) then
 ldI .i64 ⟨b42, 3, none⟩ Hx113 fun Field389 =>
 hcall PR f_model_in ⟨[(.int .i64 Field389), (.int .i64 64)]⟩ Hx113 fun v390 Hx391 =>
 asB v390 fun t392 =>
 (bif t392 then
 ldP ⟨b27, 0, none⟩ Hx391 fun t393 =>
 ldI .i64 ⟨b29, 0, none⟩ Hx391 fun Kind394 =>
 ldI .i64 ⟨b29, 1, none⟩ Hx391 fun Node395 =>
 ldI .i64 ⟨b29, 2, none⟩ Hx391 fun M396 =>
 ldI .i64 ⟨b29, 3, none⟩ Hx391 fun Kx397 =>
 ldI .i64 ⟨b29, 4, none⟩ Hx391 fun Kind398 =>
 ldI .i64 ⟨b29, 5, none⟩ Hx391 fun A399 =>
 ldI .i64 ⟨b29, 6, none⟩ Hx391 fun B400 =>
 ldI .i64 ⟨b29, 7, none⟩ Hx391 fun Field401 =>
 ldI .i64 ⟨b29, 8, none⟩ Hx391 fun Refs402 =>
 ldI .i64 ⟨b29, 9, none⟩ Hx391 fun Vals403 =>
 ldI .i64 ⟨b29, 10, none⟩ Hx391 fun To404 =>
 ldI .u64 ⟨b29, 11, none⟩ Hx391 fun Value405 =>
 ldI .u64 ⟨b29, 12, none⟩ Hx391 fun Num406 =>
 ldSl ⟨b29, 13, none⟩ Hx391 fun ByP407 ByL408 ByC409 =>
 ldSl ⟨b29, 14, none⟩ Hx391 fun BytesP410 BytesL411 BytesC412 =>
 ldI .i64 ⟨b31, 0, none⟩ Hx391 fun Why413 =>
 ldI .i64 ⟨b31, 1, none⟩ Hx391 fun Node414 =>
 ldI .u64 ⟨b31, 2, none⟩ Hx391 fun Serial415 =>
 ldI .u64 ⟨b31, 3, none⟩ Hx391 fun Value416 =>
 ldI .i64 ⟨b31, 4, none⟩ Hx391 fun To417 =>
 ldI .u64 ⟨b31, 5, none⟩ Hx391 fun Num418 =>
 ldI .i64 ⟨b42, 3, none⟩ Hx391 fun Field419 =>
 newB (.cells #[(.int .i64 6), (.int .i64 Field419), (.int .i64 0), (.int .u64 0), (.slice none 0 0), (.int .u64 0), (.bool false), (.bool false), (.int .i64 0), (.int .u64 0), (.slice none 0 0)] ty_model_call) Hx391 fun b420 Hx421 =>
 ldI .i64 ⟨b42, 6, none⟩ Hx421 fun To422 =>
 hcall PR f_model_Model_begin ⟨[(.pointer t393), (.agg #[(.int .i64 Kind394), (.int .i64 Node395), (.int .i64 M396), (.int .i64 Kx397), (.int .i64 Kind398), (.int .i64 A399), (.int .i64 B400), (.int .i64 Field401), (.int .i64 Refs402), (.int .i64 Vals403), (.int .i64 To404), (.int .u64 Value405), (.int .u64 Num406), (.slice ByP407 ByL408 ByC409), (.slice BytesP410 BytesL411 BytesC412)]), (.agg #[(.int .i64 Why413), (.int .i64 Node414), (.int .u64 Serial415), (.int .u64 Value416), (.int .i64 To417), (.int .u64 Num418)]), (.pointer (some ⟨b420, 0, none⟩)), (.int .i64 To422)]⟩ Hx421 fun v423 Hx424 =>
 asB v423 fun t425 =>
 K (.bool t425) Hx424
else
 K (.bool false) Hx391)
else
 ∀ R426 : Bool → Hp → Prop, (∀ t428 : Bool, ∀ Hx427 : Hp, (
 (bif t428 then
 ldI .i64 ⟨b42, 0, none⟩ Hx427 fun Kind429 =>
 ldI .i64 ⟨b42, 3, none⟩ Hx427 fun Field430 =>
 ldI .i64 ⟨b83, 0, none⟩ Hx427 fun Node431 =>
 ldI .u64 ⟨b83, 1, none⟩ Hx427 fun Serial432 =>
 newB (.cells #[(.int .i64 (IntKind.i64.wrap ((IntKind.i64.wrap (Kind429 - 9)) + 1))), (.int .i64 Field430), (.int .i64 Node431), (.int .u64 Serial432), (.slice none 0 0), (.int .u64 0), (.bool false), (.bool false), (.int .i64 0), (.int .u64 0), (.slice none 0 0)] ty_model_call) Hx427 fun b433 Hx434 =>
 ∀ R435 : Hp → Prop, (∀ Hx436 : Hp, (
 ∀ R437 : Hp → Prop, (∀ Hx438 : Hp, (
 (bif t82 then
 (bif okB90 then
 ldI .i64 ⟨b83, 0, none⟩ Hx438 fun Node439 =>
 ldI .u64 ⟨b83, 1, none⟩ Hx438 fun Serial440 =>
 ldI .i64 ⟨b91, 0, none⟩ Hx438 fun Node441 =>
 ldI .u64 ⟨b91, 1, none⟩ Hx438 fun Serial442 =>
 evR PR (aggEq .neq ty_api_ID #[(.int .i64 Node439), (.int .u64 Serial440)] #[(.int .i64 Node441), (.int .u64 Serial442)]) Hx438 fun v443 =>
 asB v443 fun eq444 =>
 (bif eq444 then
 ldI .i64 ⟨b42, 3, none⟩ Hx438 fun Field445 =>
 hcall PR f_model_in ⟨[(.int .i64 Field445), (.int .i64 64)]⟩ Hx438 fun v446 Hx447 =>
 asB v446 fun t448 =>
 (bif t448 then
 ldP ⟨b27, 0, none⟩ Hx447 fun t449 =>
 ldI .i64 ⟨b29, 0, none⟩ Hx447 fun Kind450 =>
 ldI .i64 ⟨b29, 1, none⟩ Hx447 fun Node451 =>
 ldI .i64 ⟨b29, 2, none⟩ Hx447 fun M452 =>
 ldI .i64 ⟨b29, 3, none⟩ Hx447 fun Kx453 =>
 ldI .i64 ⟨b29, 4, none⟩ Hx447 fun Kind454 =>
 ldI .i64 ⟨b29, 5, none⟩ Hx447 fun A455 =>
 ldI .i64 ⟨b29, 6, none⟩ Hx447 fun B456 =>
 ldI .i64 ⟨b29, 7, none⟩ Hx447 fun Field457 =>
 ldI .i64 ⟨b29, 8, none⟩ Hx447 fun Refs458 =>
 ldI .i64 ⟨b29, 9, none⟩ Hx447 fun Vals459 =>
 ldI .i64 ⟨b29, 10, none⟩ Hx447 fun To460 =>
 ldI .u64 ⟨b29, 11, none⟩ Hx447 fun Value461 =>
 ldI .u64 ⟨b29, 12, none⟩ Hx447 fun Num462 =>
 ldSl ⟨b29, 13, none⟩ Hx447 fun ByP463 ByL464 ByC465 =>
 ldSl ⟨b29, 14, none⟩ Hx447 fun BytesP466 BytesL467 BytesC468 =>
 ldI .i64 ⟨b31, 0, none⟩ Hx447 fun Why469 =>
 ldI .i64 ⟨b31, 1, none⟩ Hx447 fun Node470 =>
 ldI .u64 ⟨b31, 2, none⟩ Hx447 fun Serial471 =>
 ldI .u64 ⟨b31, 3, none⟩ Hx447 fun Value472 =>
 ldI .i64 ⟨b31, 4, none⟩ Hx447 fun To473 =>
 ldI .u64 ⟨b31, 5, none⟩ Hx447 fun Num474 =>
 ldI .i64 ⟨b83, 0, none⟩ Hx447 fun Node475 =>
 hcall PR f_model_Model_begin ⟨[(.pointer t449), (.agg #[(.int .i64 Kind450), (.int .i64 Node451), (.int .i64 M452), (.int .i64 Kx453), (.int .i64 Kind454), (.int .i64 A455), (.int .i64 B456), (.int .i64 Field457), (.int .i64 Refs458), (.int .i64 Vals459), (.int .i64 To460), (.int .u64 Value461), (.int .u64 Num462), (.slice ByP463 ByL464 ByC465), (.slice BytesP466 BytesL467 BytesC468)]), (.agg #[(.int .i64 Why469), (.int .i64 Node470), (.int .u64 Serial471), (.int .u64 Value472), (.int .i64 To473), (.int .u64 Num474)]), (.pointer (some ⟨b433, 0, none⟩)), (.int .i64 Node475)]⟩ Hx447 fun v476 Hx477 =>
 asB v476 fun t478 =>
 K (.bool t478) Hx477
else
 K (.bool false) Hx447)
else
 K (.bool false) Hx438)
else
 ldI .i64 ⟨b42, 0, none⟩ Hx438 fun Kind479 =>
 (bif ((Kind479 : Int) != 11) then
 ldI .i64 ⟨b83, 0, none⟩ Hx438 fun Node480 =>
 ldI .u64 ⟨b83, 1, none⟩ Hx438 fun Serial481 =>
 ldI .i64 ⟨b91, 0, none⟩ Hx438 fun Node482 =>
 ldI .u64 ⟨b91, 1, none⟩ Hx438 fun Serial483 =>
 evR PR (aggEq .neq ty_api_ID #[(.int .i64 Node480), (.int .u64 Serial481)] #[(.int .i64 Node482), (.int .u64 Serial483)]) Hx438 fun v484 =>
 asB v484 fun eq485 =>
 (bif eq485 then
 ldI .i64 ⟨b42, 3, none⟩ Hx438 fun Field486 =>
 hcall PR f_model_in ⟨[(.int .i64 Field486), (.int .i64 64)]⟩ Hx438 fun v487 Hx488 =>
 asB v487 fun t489 =>
 (bif t489 then
 ldP ⟨b27, 0, none⟩ Hx488 fun t490 =>
 ldI .i64 ⟨b29, 0, none⟩ Hx488 fun Kind491 =>
 ldI .i64 ⟨b29, 1, none⟩ Hx488 fun Node492 =>
 ldI .i64 ⟨b29, 2, none⟩ Hx488 fun M493 =>
 ldI .i64 ⟨b29, 3, none⟩ Hx488 fun Kx494 =>
 ldI .i64 ⟨b29, 4, none⟩ Hx488 fun Kind495 =>
 ldI .i64 ⟨b29, 5, none⟩ Hx488 fun A496 =>
 ldI .i64 ⟨b29, 6, none⟩ Hx488 fun B497 =>
 ldI .i64 ⟨b29, 7, none⟩ Hx488 fun Field498 =>
 ldI .i64 ⟨b29, 8, none⟩ Hx488 fun Refs499 =>
 ldI .i64 ⟨b29, 9, none⟩ Hx488 fun Vals500 =>
 ldI .i64 ⟨b29, 10, none⟩ Hx488 fun To501 =>
 ldI .u64 ⟨b29, 11, none⟩ Hx488 fun Value502 =>
 ldI .u64 ⟨b29, 12, none⟩ Hx488 fun Num503 =>
 ldSl ⟨b29, 13, none⟩ Hx488 fun ByP504 ByL505 ByC506 =>
 ldSl ⟨b29, 14, none⟩ Hx488 fun BytesP507 BytesL508 BytesC509 =>
 ldI .i64 ⟨b31, 0, none⟩ Hx488 fun Why510 =>
 ldI .i64 ⟨b31, 1, none⟩ Hx488 fun Node511 =>
 ldI .u64 ⟨b31, 2, none⟩ Hx488 fun Serial512 =>
 ldI .u64 ⟨b31, 3, none⟩ Hx488 fun Value513 =>
 ldI .i64 ⟨b31, 4, none⟩ Hx488 fun To514 =>
 ldI .u64 ⟨b31, 5, none⟩ Hx488 fun Num515 =>
 ldI .i64 ⟨b83, 0, none⟩ Hx488 fun Node516 =>
 hcall PR f_model_Model_begin ⟨[(.pointer t490), (.agg #[(.int .i64 Kind491), (.int .i64 Node492), (.int .i64 M493), (.int .i64 Kx494), (.int .i64 Kind495), (.int .i64 A496), (.int .i64 B497), (.int .i64 Field498), (.int .i64 Refs499), (.int .i64 Vals500), (.int .i64 To501), (.int .u64 Value502), (.int .u64 Num503), (.slice ByP504 ByL505 ByC506), (.slice BytesP507 BytesL508 BytesC509)]), (.agg #[(.int .i64 Why510), (.int .i64 Node511), (.int .u64 Serial512), (.int .u64 Value513), (.int .i64 To514), (.int .u64 Num515)]), (.pointer (some ⟨b433, 0, none⟩)), (.int .i64 Node516)]⟩ Hx488 fun v517 Hx518 =>
 asB v517 fun t519 =>
 K (.bool t519) Hx518
else
 K (.bool false) Hx488)
else
 K (.bool false) Hx438)
else
 K (.bool false) Hx438))
else
 K (.bool false) Hx438)) → R437 Hx438) →
 ldI .i64 ⟨b42, 0, none⟩ Hx436 fun Kind520 =>
 (bif ((Kind520 : Int) == 11) then
 asA (.pointer y89) fun ya521 =>
 ldI .i64 ya521 Hx436 fun Node522 =>
 ldI .u64 (ya521.add 1) Hx436 fun Serial523 =>
 newB (.cells #[(.int .i64 Node522), (.int .u64 Serial523)] ty_api_ID) Hx436 fun b524 Hx525 =>
 st ⟨b433, 4, none⟩ (.slice (some ⟨b524, 0, none⟩) 1 1) Hx525 fun Hx526 =>
 R437 Hx526
else
 R437 Hx436)) → R435 Hx436) →
 ldI .i64 ⟨b42, 0, none⟩ Hx434 fun Kind527 =>
 (bif ((Kind527 : Int) == 13) then
 ldI .u64 ⟨b42, 7, none⟩ Hx434 fun Value528 =>
 st ⟨b433, 5, none⟩ (.int .u64 Value528) Hx434 fun Hx529 =>
 R435 Hx529
else
 R435 Hx434)
else
 K (.bool false) Hx427)) → R426 t428 Hx427) →
 (bif ((Kind115 : Int) == 10) then
 R426 ((Kind115 : Int) == 10) Hx113
else
 (bif ((Kind115 : Int) == 12) then
 R426 ((Kind115 : Int) == 12) Hx113
else
 (bif ((Kind115 : Int) == 13) then
 R426 ((Kind115 : Int) == 13) Hx113
else
 R426 ((Kind115 : Int) == 11) Hx113))))))))))))))) → R87 y89 okB90 Hx88) →
 ldP ⟨b27, 0, none⟩ Hx86 fun t530 =>
 ldI .i64 ⟨b29, 0, none⟩ Hx86 fun Kind531 =>
 ldI .i64 ⟨b29, 1, none⟩ Hx86 fun Node532 =>
 ldI .i64 ⟨b29, 2, none⟩ Hx86 fun M533 =>
 ldI .i64 ⟨b29, 3, none⟩ Hx86 fun Kx534 =>
 ldI .i64 ⟨b29, 4, none⟩ Hx86 fun Kind535 =>
 ldI .i64 ⟨b29, 5, none⟩ Hx86 fun A536 =>
 ldI .i64 ⟨b29, 6, none⟩ Hx86 fun B537 =>
 ldI .i64 ⟨b29, 7, none⟩ Hx86 fun Field538 =>
 ldI .i64 ⟨b29, 8, none⟩ Hx86 fun Refs539 =>
 ldI .i64 ⟨b29, 9, none⟩ Hx86 fun Vals540 =>
 ldI .i64 ⟨b29, 10, none⟩ Hx86 fun To541 =>
 ldI .u64 ⟨b29, 11, none⟩ Hx86 fun Value542 =>
 ldI .u64 ⟨b29, 12, none⟩ Hx86 fun Num543 =>
 ldSl ⟨b29, 13, none⟩ Hx86 fun ByP544 ByL545 ByC546 =>
 ldSl ⟨b29, 14, none⟩ Hx86 fun BytesP547 BytesL548 BytesC549 =>
 ldI .i64 ⟨b42, 2, none⟩ Hx86 fun B550 =>
 ldI .i64 ⟨b42, 0, none⟩ Hx86 fun Kind551 =>
 (bif ((Kind551 : Int) == 5) then
 hcall PR f_model_Model_slot ⟨[(.pointer t530), (.agg #[(.int .i64 Kind531), (.int .i64 Node532), (.int .i64 M533), (.int .i64 Kx534), (.int .i64 Kind535), (.int .i64 A536), (.int .i64 B537), (.int .i64 Field538), (.int .i64 Refs539), (.int .i64 Vals540), (.int .i64 To541), (.int .u64 Value542), (.int .u64 Num543), (.slice ByP544 ByL545 ByC546), (.slice BytesP547 BytesL548 BytesC549)]), (.int .i64 B550), (.bool true)]⟩ Hx86 fun v552 Hx553 =>
 tup2 v552 fun v554 v555 =>
 agg2 v554 fun v556 v557 =>
 asI .i64 v556 fun Node558 =>
 asI .u64 v557 fun Serial559 =>
 asB v555 fun t560 =>
 newB (.cells #[(.int .i64 0), (.int .u64 0)] ty_api_ID) Hx553 fun b561 Hx562 =>
 st ⟨b561, 0, none⟩ (.int .i64 Node558) Hx562 fun Hx563 =>
 st ⟨b561, 1, none⟩ (.int .u64 Serial559) Hx563 fun Hx564 =>
 R87 (some ⟨b561, 0, none⟩) t560 Hx564
else
 ldI .i64 ⟨b42, 0, none⟩ Hx86 fun Kind565 =>
 hcall PR f_model_Model_slot ⟨[(.pointer t530), (.agg #[(.int .i64 Kind531), (.int .i64 Node532), (.int .i64 M533), (.int .i64 Kx534), (.int .i64 Kind535), (.int .i64 A536), (.int .i64 B537), (.int .i64 Field538), (.int .i64 Refs539), (.int .i64 Vals540), (.int .i64 To541), (.int .u64 Value542), (.int .u64 Num543), (.slice ByP544 ByL545 ByC546), (.slice BytesP547 BytesL548 BytesC549)]), (.int .i64 B550), (.bool ((Kind565 : Int) == 11))]⟩ Hx86 fun v566 Hx567 =>
 tup2 v566 fun v568 v569 =>
 agg2 v568 fun v570 v571 =>
 asI .i64 v570 fun Node572 =>
 asI .u64 v571 fun Serial573 =>
 asB v569 fun t574 =>
 newB (.cells #[(.int .i64 0), (.int .u64 0)] ty_api_ID) Hx567 fun b575 Hx576 =>
 st ⟨b575, 0, none⟩ (.int .i64 Node572) Hx576 fun Hx577 =>
 st ⟨b575, 1, none⟩ (.int .u64 Serial573) Hx577 fun Hx578 =>
 R87 (some ⟨b575, 0, none⟩) t574 Hx578)
theorem E_model_Model_does (m1 : Option Addr) (eKind2 : Int) (eNode3 : Int) (eM4 : Int) (eK5 : Int) (eKind6 : Int) (eA7 : Int) (eB8 : Int) (eField9 : Int) (eRefs10 : Int) (eVals11 : Int) (eTo12 : Int) (eValue13 : Int) (eNum14 : Int) (eByP15 : Option Addr) (eByL16 : Nat) (eByC17 : Nat) (eBytesP18 : Option Addr) (eBytesL19 : Nat) (eBytesC20 : Nat) (aWhy21 : Int) (aNode22 : Int) (aSerial23 : Int) (aValue24 : Int) (aTo25 : Int) (aNum26 : Int) (H : Hp) (K : Value → Hp → Prop) : B_model_Model_does m1 eKind2 eNode3 eM4 eK5 eKind6 eA7 eB8 eField9 eRefs10 eVals11 eTo12 eValue13 eNum14 eByP15 eByL16 eByC17 eBytesP18 eBytesL19 eBytesC20 aWhy21 aNode22 aSerial23 aValue24 aTo25 aNum26 H K = denF Try.prog Try.f50 (.seq none .n (.seq none .n (.seq none .n (.seq (some ⟨[(10, .ptr), (11, .bool)], [3, 4, 5, 7, 8, 9]⟩) .n (.seq none .n (.seq none .n (.seq none .n (.seq none (.seq none .n (.sub (.seq none .n (.two .n (.seq none .n (.two .n (.seq none .n (.two .n (.seq none .n (.two .n (.seq none .n (.two .n (.seq none .n (.two .n (.seq none .n (.two .n (.seq none .n (.two (.seq none .n (.seq (some ⟨[], [5, 9, 11, 16]⟩) .n .n)) (.seq none .n (.two .n (.seq none .n (.two .n (.seq none .n (.two .n (.seq (some ⟨[(334, .bool)], [3, 4, 5, 7, 8, 9, 10, 11, 12]⟩) .n (.two (.seq none .n (.seq (some ⟨[], [3, 4, 5, 7, 8, 9, 10, 11, 12, 17]⟩) .n (.seq (some ⟨[], [3, 4, 5, 7, 8, 9, 11, 12, 17]⟩) .n .n))) .n)))))))))))))))))))))))))) .n)))))))) [(.pointer m1), (.agg #[(.int .i64 eKind2), (.int .i64 eNode3), (.int .i64 eM4), (.int .i64 eK5), (.int .i64 eKind6), (.int .i64 eA7), (.int .i64 eB8), (.int .i64 eField9), (.int .i64 eRefs10), (.int .i64 eVals11), (.int .i64 eTo12), (.int .u64 eValue13), (.int .u64 eNum14), (.slice eByP15 eByL16 eByC17), (.slice eBytesP18 eBytesL19 eBytesC20)]), (.agg #[(.int .i64 aWhy21), (.int .i64 aNode22), (.int .u64 aSerial23), (.int .u64 aValue24), (.int .i64 aTo25), (.int .u64 aNum26)])] H K := by kernel_rfl
theorem den_model_Model_does {m1 : Option Addr} {eKind2 : Int} {eNode3 : Int} {eM4 : Int} {eK5 : Int} {eKind6 : Int} {eA7 : Int} {eB8 : Int} {eField9 : Int} {eRefs10 : Int} {eVals11 : Int} {eTo12 : Int} {eValue13 : Int} {eNum14 : Int} {eByP15 : Option Addr} {eByL16 : Nat} {eByC17 : Nat} {eBytesP18 : Option Addr} {eBytesL19 : Nat} {eBytesC20 : Nat} {aWhy21 : Int} {aNode22 : Int} {aSerial23 : Int} {aValue24 : Int} {aTo25 : Int} {aNum26 : Int} {H : Hp} {K : Value → Hp → Prop} (h : B_model_Model_does m1 eKind2 eNode3 eM4 eK5 eKind6 eA7 eB8 eField9 eRefs10 eVals11 eTo12 eValue13 eNum14 eByP15 eByL16 eByC17 eBytesP18 eBytesL19 eBytesC20 aWhy21 aNode22 aSerial23 aValue24 aTo25 aNum26 H K) : hcall PR f_model_Model_does ⟨[(.pointer m1), (.agg #[(.int .i64 eKind2), (.int .i64 eNode3), (.int .i64 eM4), (.int .i64 eK5), (.int .i64 eKind6), (.int .i64 eA7), (.int .i64 eB8), (.int .i64 eField9), (.int .i64 eRefs10), (.int .i64 eVals11), (.int .i64 eTo12), (.int .u64 eValue13), (.int .u64 eNum14), (.slice eByP15 eByL16 eByC17), (.slice eBytesP18 eBytesL19 eBytesC20)]), (.agg #[(.int .i64 aWhy21), (.int .i64 aNode22), (.int .u64 aSerial23), (.int .u64 aValue24), (.int .i64 aTo25), (.int .u64 aNum26)])]⟩ H K := denF_call Try.func50 PR_mixed (Eq.mp (E_model_Model_does m1 eKind2 eNode3 eM4 eK5 eKind6 eA7 eB8 eField9 eRefs10 eVals11 eTo12 eValue13 eNum14 eByP15 eByL16 eByC17 eBytesP18 eBytesL19 eBytesC20 aWhy21 aNode22 aSerial23 aValue24 aTo25 aNum26 H K) h)

def B_model_Model_served (m1 : Option Addr) (n2 : Int) (sFrom3 : Int) (sNum4 : Int) (sOp5 : Int) (sField6 : Int) (sNode7 : Int) (sSerial8 : Int) (sRefsP9 : Option Addr) (sRefsL10 : Nat) (sRefsC11 : Nat) (sValue12 : Int) (sState13 : Int) (sCode14 : Int) (sResultP15 : Option Addr) (sResultL16 : Nat) (sResultC17 : Nat) (sBack18 : Int) (sSent19 : Int) (sWait20 : Int) (H : Hp) (K : Value → Hp → Prop) : Prop :=
 newB (.cells #[(.int .i64 sFrom3), (.int .u64 sNum4), (.int .i64 sOp5), (.int .i64 sField6), (.int .i64 sNode7), (.int .u64 sSerial8), (.slice sRefsP9 sRefsL10 sRefsC11), (.int .u64 sValue12), (.int .i64 sState13), (.int .i64 sCode14), (.slice sResultP15 sResultL16 sResultC17), (.int .u64 sBack18), (.int .u64 sSent19), (.int .u64 sWait20)] ty_api_Served) H fun b21 Hx22 =>
 nilP m1 fun ma23 =>
 ldM (ma23.add 24) Hx22 fun calls24 =>
 ldI .i64 ⟨b21, 0, none⟩ Hx22 fun From25 =>
 ldI .u64 ⟨b21, 1, none⟩ Hx22 fun Num26 =>
 evR PR (Instr.lookup ty_map_model_name_pmodel_call (.map calls24) (.agg #[(.int .i64 From25), (.int .i64 n2), (.int .u64 Num26)]) false) Hx22 fun v27 =>
 asP v27 fun t28 =>
 (bif (Option.isNone (α := Addr) t28) then
 K (.bool false) Hx22
else
 nilP t28 fun ta29 =>
 ldB (ta29.add 6) Hx22 fun done30 =>
 (bif done30 then
 K (.bool false) Hx22
else
 ldI .i64 ⟨b21, 2, none⟩ Hx22 fun Op31 =>
 nilP t28 fun ta32 =>
 ldI .i64 ta32 Hx22 fun op33 =>
 (bif ((Op31 : Int) != op33) then
 K (.bool false) Hx22
else
 ldI .i64 ⟨b21, 3, none⟩ Hx22 fun Field34 =>
 nilP t28 fun ta35 =>
 ldI .i64 (ta35.add 1) Hx22 fun field36 =>
 (bif ((Field34 : Int) != field36) then
 K (.bool false) Hx22
else
 ldI .i64 ⟨b21, 4, none⟩ Hx22 fun Node37 =>
 ldI .u64 ⟨b21, 5, none⟩ Hx22 fun Serial38 =>
 nilP t28 fun ta39 =>
 ldI .i64 (ta39.add 2) Hx22 fun Node40 =>
 ldI .u64 ((ta39.add 2).add 1) Hx22 fun Serial41 =>
 evR PR (aggEq .neq ty_api_ID #[(.int .i64 Node37), (.int .u64 Serial38)] #[(.int .i64 Node40), (.int .u64 Serial41)]) Hx22 fun v42 =>
 asB v42 fun eq43 =>
 (bif eq43 then
 K (.bool false) Hx22
else
 ldI .u64 ⟨b21, 7, none⟩ Hx22 fun Value44 =>
 nilP t28 fun ta45 =>
 ldI .u64 (ta45.add 5) Hx22 fun value46 =>
 (bif ((Value44 : Int) != value46) then
 K (.bool false) Hx22
else
 ldSl ⟨b21, 6, none⟩ Hx22 fun RefsP47 RefsL48 RefsC49 =>
 nilP t28 fun ta50 =>
 ldSl (ta50.add 4) Hx22 fun refsP51 refsL52 refsC53 =>
 hcall PR f_slices_Equal_Sapi_ID_api_ID ⟨[(.slice RefsP47 RefsL48 RefsC49), (.slice refsP51 refsL52 refsC53)]⟩ Hx22 fun v54 Hx55 =>
 asB v54 fun t56 =>
 (bif (!t56) then
 K (.bool false) Hx55
else
 ldI .i64 ⟨b21, 9, none⟩ Hx55 fun Code57 =>
 (bif ((Code57 : Int) != 0) then
 ldI .i64 ⟨b21, 9, none⟩ Hx55 fun Code58 =>
 nilP t28 fun ta59 =>
 st (ta59.add 6) (.bool true) Hx55 fun Hx60 =>
 (ldI .i64 ⟨b21, 9, none⟩ Hx60 fun Code61 =>
 ((.int .i64 Code61) : Value) = (.int .i64 Code58)) ∧
 nilP t28 fun ta62 =>
 st (ta62.add 8) (.int .i64 Code58) Hx60 fun Hx63 =>
 K (.bool true) Hx63
else
 ldI .i64 ⟨b21, 0, none⟩ Hx55 fun From64 =>
 ldI .u64 ⟨b21, 1, none⟩ Hx55 fun Num65 =>
 ldI .i64 ⟨b21, 2, none⟩ Hx55 fun Op66 =>
 ldI .i64 ⟨b21, 3, none⟩ Hx55 fun Field67 =>
 ldI .i64 ⟨b21, 4, none⟩ Hx55 fun Node68 =>
 ldI .u64 ⟨b21, 5, none⟩ Hx55 fun Serial69 =>
 ldSl ⟨b21, 6, none⟩ Hx55 fun RefsP70 RefsL71 RefsC72 =>
 ldI .u64 ⟨b21, 7, none⟩ Hx55 fun Value73 =>
 ldI .i64 ⟨b21, 8, none⟩ Hx55 fun State74 =>
 ldI .i64 ⟨b21, 9, none⟩ Hx55 fun Code75 =>
 ldSl ⟨b21, 10, none⟩ Hx55 fun ResultP76 ResultL77 ResultC78 =>
 ldI .u64 ⟨b21, 11, none⟩ Hx55 fun Back79 =>
 ldI .u64 ⟨b21, 12, none⟩ Hx55 fun Sent80 =>
 ldI .u64 ⟨b21, 13, none⟩ Hx55 fun Wait81 =>
 hcall PR f_model_Model_order ⟨[(.pointer m1), (.int .i64 n2), (.pointer t28), (.agg #[(.int .i64 From64), (.int .u64 Num65), (.int .i64 Op66), (.int .i64 Field67), (.int .i64 Node68), (.int .u64 Serial69), (.slice RefsP70 RefsL71 RefsC72), (.int .u64 Value73), (.int .i64 State74), (.int .i64 Code75), (.slice ResultP76 ResultL77 ResultC78), (.int .u64 Back79), (.int .u64 Sent80), (.int .u64 Wait81)])]⟩ Hx55 fun v82 Hx83 =>
 tup3 v82 fun v84 v85 v86 =>
 asI .u64 v84 fun t87 =>
 asSl v85 fun tP88 tL89 tC90 =>
 asB v86 fun t91 =>
 (bif (!t91) then
 K (.bool false) Hx83
else
 ldI .u64 ⟨b21, 11, none⟩ Hx83 fun Back92 =>
 (bif ((Back92 : Int) != t87) then
 K (.bool false) Hx83
else
 ldSl ⟨b21, 10, none⟩ Hx83 fun ResultP93 ResultL94 ResultC95 =>
 hcall PR f_slices_Equal_Sapi_ID_api_ID ⟨[(.slice ResultP93 ResultL94 ResultC95), (.slice tP88 tL89 tC90)]⟩ Hx83 fun v96 Hx97 =>
 asB v96 fun t98 =>
 (bif (!t98) then
 K (.bool false) Hx97
else
 nilP t28 fun ta99 =>
 st (ta99.add 6) (.bool true) Hx97 fun Hx100 =>
 nilP t28 fun ta101 =>
 st (ta101.add 9) (.int .u64 t87) Hx100 fun Hx102 =>
 nilP t28 fun ta103 =>
 st (ta103.add 10) (.slice tP88 tL89 tC90) Hx102 fun Hx104 =>
 K (.bool true) Hx104)))))))))))
theorem E_model_Model_served (m1 : Option Addr) (n2 : Int) (sFrom3 : Int) (sNum4 : Int) (sOp5 : Int) (sField6 : Int) (sNode7 : Int) (sSerial8 : Int) (sRefsP9 : Option Addr) (sRefsL10 : Nat) (sRefsC11 : Nat) (sValue12 : Int) (sState13 : Int) (sCode14 : Int) (sResultP15 : Option Addr) (sResultL16 : Nat) (sResultC17 : Nat) (sBack18 : Int) (sSent19 : Int) (sWait20 : Int) (H : Hp) (K : Value → Hp → Prop) : B_model_Model_served m1 n2 sFrom3 sNum4 sOp5 sField6 sNode7 sSerial8 sRefsP9 sRefsL10 sRefsC11 sValue12 sState13 sCode14 sResultP15 sResultL16 sResultC17 sBack18 sSent19 sWait20 H K = denF Try.prog Try.f51 .n [(.pointer m1), (.int .i64 n2), (.agg #[(.int .i64 sFrom3), (.int .u64 sNum4), (.int .i64 sOp5), (.int .i64 sField6), (.int .i64 sNode7), (.int .u64 sSerial8), (.slice sRefsP9 sRefsL10 sRefsC11), (.int .u64 sValue12), (.int .i64 sState13), (.int .i64 sCode14), (.slice sResultP15 sResultL16 sResultC17), (.int .u64 sBack18), (.int .u64 sSent19), (.int .u64 sWait20)])] H K := by kernel_rfl
theorem den_model_Model_served {m1 : Option Addr} {n2 : Int} {sFrom3 : Int} {sNum4 : Int} {sOp5 : Int} {sField6 : Int} {sNode7 : Int} {sSerial8 : Int} {sRefsP9 : Option Addr} {sRefsL10 : Nat} {sRefsC11 : Nat} {sValue12 : Int} {sState13 : Int} {sCode14 : Int} {sResultP15 : Option Addr} {sResultL16 : Nat} {sResultC17 : Nat} {sBack18 : Int} {sSent19 : Int} {sWait20 : Int} {H : Hp} {K : Value → Hp → Prop} (h : B_model_Model_served m1 n2 sFrom3 sNum4 sOp5 sField6 sNode7 sSerial8 sRefsP9 sRefsL10 sRefsC11 sValue12 sState13 sCode14 sResultP15 sResultL16 sResultC17 sBack18 sSent19 sWait20 H K) : hcall PR f_model_Model_served ⟨[(.pointer m1), (.int .i64 n2), (.agg #[(.int .i64 sFrom3), (.int .u64 sNum4), (.int .i64 sOp5), (.int .i64 sField6), (.int .i64 sNode7), (.int .u64 sSerial8), (.slice sRefsP9 sRefsL10 sRefsC11), (.int .u64 sValue12), (.int .i64 sState13), (.int .i64 sCode14), (.slice sResultP15 sResultL16 sResultC17), (.int .u64 sBack18), (.int .u64 sSent19), (.int .u64 sWait20)])]⟩ H K := denF_call Try.func51 PR_mixed (Eq.mp (E_model_Model_served m1 n2 sFrom3 sNum4 sOp5 sField6 sNode7 sSerial8 sRefsP9 sRefsL10 sRefsC11 sValue12 sState13 sCode14 sResultP15 sResultL16 sResultC17 sBack18 sSent19 sWait20 H K) h)

def B_model_Model_slot (m1 : Option Addr) (eKind2 : Int) (eNode3 : Int) (eM4 : Int) (eK5 : Int) (eKind6 : Int) (eA7 : Int) (eB8 : Int) (eField9 : Int) (eRefs10 : Int) (eVals11 : Int) (eTo12 : Int) (eValue13 : Int) (eNum14 : Int) (eByP15 : Option Addr) (eByL16 : Nat) (eByC17 : Nat) (eBytesP18 : Option Addr) (eBytesL19 : Nat) (eBytesC20 : Nat) (s21 : Int) (empty22 : Bool) (H : Hp) (K : Value → Hp → Prop) : Prop :=
 newB (.cells #[(.int .i64 eKind2), (.int .i64 eNode3), (.int .i64 eM4), (.int .i64 eK5), (.int .i64 eKind6), (.int .i64 eA7), (.int .i64 eB8), (.int .i64 eField9), (.int .i64 eRefs10), (.int .i64 eVals11), (.int .i64 eTo12), (.int .u64 eValue13), (.int .u64 eNum14), (.slice eByP15 eByL16 eByC17), (.slice eBytesP18 eBytesL19 eBytesC20)] ty_world_Event) H fun b23 Hx24 =>
 newB (.cells #[(.int .i64 0), (.int .u64 0)] ty_api_ID) Hx24 fun b25 Hx26 =>
 ∀ R27 : Hp → Prop, (∀ Hx28 : Hp, (
 nilP m1 fun ma29 =>
 ldI .i64 (ma29.add 2) Hx28 fun Slots30 =>
 hcall PR f_model_in ⟨[(.int .i64 s21), (.int .i64 Slots30)]⟩ Hx28 fun v31 Hx32 =>
 asB v31 fun t33 =>
 (bif (!t33) then
 st ⟨b25, 0, none⟩ (.int .i64 0) Hx32 fun Hx34 =>
 st ⟨b25, 1, none⟩ (.int .u64 0) Hx34 fun Hx35 =>
 ldI .i64 ⟨b25, 0, none⟩ Hx35 fun Node36 =>
 ldI .u64 ⟨b25, 1, none⟩ Hx35 fun Serial37 =>
 K (.tuple #[(.agg #[(.int .i64 Node36), (.int .u64 Serial37)]), (.bool false)]) Hx35
else
 nilP m1 fun ma38 =>
 ldSl (ma38.add 23) Hx32 fun slotsP39 slotsL40 slotsC41 =>
 ldI .i64 ⟨b23, 1, none⟩ Hx32 fun Node42 =>
 idxA slotsP39 slotsL40 (IntKind.i64.wrap (Node42 - 1)) 1 fun el43 =>
 ldSl el43 Hx32 fun tP44 tL45 tC46 =>
 ldI .i64 ⟨b23, 2, none⟩ Hx32 fun M47 =>
 idxA tP44 tL45 M47 1 fun el48 =>
 ldSl el48 Hx32 fun tP49 tL50 tC51 =>
 idxA tP49 tL50 s21 2 fun el52 =>
 ldI .i64 el52 Hx32 fun Node53 =>
 ldI .u64 (el52.add 1) Hx32 fun Serial54 =>
 st ⟨b25, 0, none⟩ (.int .i64 Node53) Hx32 fun Hx55 =>
 st ⟨b25, 1, none⟩ (.int .u64 Serial54) Hx55 fun Hx56 =>
 ldI .i64 ⟨b25, 0, none⟩ Hx56 fun Node57 =>
 ldI .u64 ⟨b25, 1, none⟩ Hx56 fun Serial58 =>
 K (.tuple #[(.agg #[(.int .i64 Node57), (.int .u64 Serial58)]), (.bool true)]) Hx56)) → R27 Hx28) →
 (bif ((s21 : Int) == (-1)) then
 (bif empty22 then
 st ⟨b25, 0, none⟩ (.int .i64 0) Hx26 fun Hx59 =>
 st ⟨b25, 1, none⟩ (.int .u64 0) Hx59 fun Hx60 =>
 ldI .i64 ⟨b25, 0, none⟩ Hx60 fun Node61 =>
 ldI .u64 ⟨b25, 1, none⟩ Hx60 fun Serial62 =>
 K (.tuple #[(.agg #[(.int .i64 Node61), (.int .u64 Serial62)]), (.bool true)]) Hx60
else
 R27 Hx26)
else
 R27 Hx26)
theorem E_model_Model_slot (m1 : Option Addr) (eKind2 : Int) (eNode3 : Int) (eM4 : Int) (eK5 : Int) (eKind6 : Int) (eA7 : Int) (eB8 : Int) (eField9 : Int) (eRefs10 : Int) (eVals11 : Int) (eTo12 : Int) (eValue13 : Int) (eNum14 : Int) (eByP15 : Option Addr) (eByL16 : Nat) (eByC17 : Nat) (eBytesP18 : Option Addr) (eBytesL19 : Nat) (eBytesC20 : Nat) (s21 : Int) (empty22 : Bool) (H : Hp) (K : Value → Hp → Prop) : B_model_Model_slot m1 eKind2 eNode3 eM4 eK5 eKind6 eA7 eB8 eField9 eRefs10 eVals11 eTo12 eValue13 eNum14 eByP15 eByL16 eByC17 eBytesP18 eBytesL19 eBytesC20 s21 empty22 H K = denF Try.prog Try.f81 (.seq none .n (.seq (some ⟨[], [0, 2, 5, 8]⟩) .n .n)) [(.pointer m1), (.agg #[(.int .i64 eKind2), (.int .i64 eNode3), (.int .i64 eM4), (.int .i64 eK5), (.int .i64 eKind6), (.int .i64 eA7), (.int .i64 eB8), (.int .i64 eField9), (.int .i64 eRefs10), (.int .i64 eVals11), (.int .i64 eTo12), (.int .u64 eValue13), (.int .u64 eNum14), (.slice eByP15 eByL16 eByC17), (.slice eBytesP18 eBytesL19 eBytesC20)]), (.int .i64 s21), (.bool empty22)] H K := by kernel_rfl
theorem den_model_Model_slot {m1 : Option Addr} {eKind2 : Int} {eNode3 : Int} {eM4 : Int} {eK5 : Int} {eKind6 : Int} {eA7 : Int} {eB8 : Int} {eField9 : Int} {eRefs10 : Int} {eVals11 : Int} {eTo12 : Int} {eValue13 : Int} {eNum14 : Int} {eByP15 : Option Addr} {eByL16 : Nat} {eByC17 : Nat} {eBytesP18 : Option Addr} {eBytesL19 : Nat} {eBytesC20 : Nat} {s21 : Int} {empty22 : Bool} {H : Hp} {K : Value → Hp → Prop} (h : B_model_Model_slot m1 eKind2 eNode3 eM4 eK5 eKind6 eA7 eB8 eField9 eRefs10 eVals11 eTo12 eValue13 eNum14 eByP15 eByL16 eByC17 eBytesP18 eBytesL19 eBytesC20 s21 empty22 H K) : hcall PR f_model_Model_slot ⟨[(.pointer m1), (.agg #[(.int .i64 eKind2), (.int .i64 eNode3), (.int .i64 eM4), (.int .i64 eK5), (.int .i64 eKind6), (.int .i64 eA7), (.int .i64 eB8), (.int .i64 eField9), (.int .i64 eRefs10), (.int .i64 eVals11), (.int .i64 eTo12), (.int .u64 eValue13), (.int .u64 eNum14), (.slice eByP15 eByL16 eByC17), (.slice eBytesP18 eBytesL19 eBytesC20)]), (.int .i64 s21), (.bool empty22)]⟩ H K := denF_call Try.func81 PR_mixed (Eq.mp (E_model_Model_slot m1 eKind2 eNode3 eM4 eK5 eKind6 eA7 eB8 eField9 eRefs10 eVals11 eTo12 eValue13 eNum14 eByP15 eByL16 eByC17 eBytesP18 eBytesL19 eBytesC20 s21 empty22 H K) h)

def B_model_Model_does_1 (zNode1 : Int) (zSerial2 : Int) (cap3 : Option Addr) (cap4 : Option Addr) (cap5 : Option Addr) (H : Hp) (K : Value → Hp → Prop) : Prop :=
 newB (.cells #[(.int .i64 zNode1), (.int .u64 zSerial2)] ty_api_ID) H fun b6 Hx7 =>
 asA (.pointer cap3) fun capa8 =>
 ldP capa8 Hx7 fun t9 =>
 nilP t9 fun ta10 =>
 ldSl (ta10.add 23) Hx7 fun slotsP11 slotsL12 slotsC13 =>
 asA (.pointer cap4) fun capa14 =>
 ldI .i64 (capa14.add 1) Hx7 fun Node15 =>
 idxA slotsP11 slotsL12 (IntKind.i64.wrap (Node15 - 1)) 1 fun el16 =>
 ldSl el16 Hx7 fun tP17 tL18 tC19 =>
 asA (.pointer cap4) fun capa20 =>
 ldI .i64 (capa20.add 2) Hx7 fun M21 =>
 idxA tP17 tL18 M21 1 fun el22 =>
 ldSl el22 Hx7 fun tP23 tL24 tC25 =>
 asA (.pointer cap5) fun capa26 =>
 ldI .i64 (capa26.add 1) Hx7 fun A27 =>
 ldI .i64 ⟨b6, 0, none⟩ Hx7 fun Node28 =>
 ldI .u64 ⟨b6, 1, none⟩ Hx7 fun Serial29 =>
 idxA tP23 tL24 A27 2 fun el30 =>
 st el30 (.int .i64 Node28) Hx7 fun Hx31 =>
 st (el30.add 1) (.int .u64 Serial29) Hx31 fun Hx32 =>
 K (.bool true) Hx32
theorem E_model_Model_does_1 (zNode1 : Int) (zSerial2 : Int) (cap3 : Option Addr) (cap4 : Option Addr) (cap5 : Option Addr) (H : Hp) (K : Value → Hp → Prop) : B_model_Model_does_1 zNode1 zSerial2 cap3 cap4 cap5 H K = denF Try.prog Try.f82 .n [(.agg #[(.int .i64 zNode1), (.int .u64 zSerial2)]), (.pointer cap3), (.pointer cap4), (.pointer cap5)] H K := by kernel_rfl
theorem den_model_Model_does_1 {zNode1 : Int} {zSerial2 : Int} {cap3 : Option Addr} {cap4 : Option Addr} {cap5 : Option Addr} {H : Hp} {K : Value → Hp → Prop} (h : B_model_Model_does_1 zNode1 zSerial2 cap3 cap4 cap5 H K) : hcall PR f_model_Model_does_1 ⟨[(.agg #[(.int .i64 zNode1), (.int .u64 zSerial2)]), (.pointer cap3), (.pointer cap4), (.pointer cap5)]⟩ H K := denF_call Try.func82 PR_mixed (Eq.mp (E_model_Model_does_1 zNode1 zSerial2 cap3 cap4 cap5 H K) h)

def B_model_Model_object (m1 : Option Addr) (n2 : Int) (xNode3 : Int) (xSerial4 : Int) (H : Hp) (K : Value → Hp → Prop) : Prop :=
 newB (.cells #[(.int .i64 xNode3), (.int .u64 xSerial4)] ty_api_ID) H fun b5 Hx6 =>
 ldI .i64 ⟨b5, 0, none⟩ Hx6 fun Node7 =>
 (bif ((Node7 : Int) != n2) then
 K (.pointer none) Hx6
else
 nilP m1 fun ma8 =>
 ldM (ma8.add 22) Hx6 fun all9 =>
 ldI .i64 ⟨b5, 0, none⟩ Hx6 fun Node10 =>
 ldI .u64 ⟨b5, 1, none⟩ Hx6 fun Serial11 =>
 evR PR (Instr.lookup ty_map_api_ID_pmodel_thing (.map all9) (.agg #[(.int .i64 Node10), (.int .u64 Serial11)]) false) Hx6 fun v12 =>
 asP v12 fun t13 =>
 K (.pointer t13) Hx6)
theorem E_model_Model_object (m1 : Option Addr) (n2 : Int) (xNode3 : Int) (xSerial4 : Int) (H : Hp) (K : Value → Hp → Prop) : B_model_Model_object m1 n2 xNode3 xSerial4 H K = denF Try.prog Try.f83 .n [(.pointer m1), (.int .i64 n2), (.agg #[(.int .i64 xNode3), (.int .u64 xSerial4)])] H K := by kernel_rfl
theorem den_model_Model_object {m1 : Option Addr} {n2 : Int} {xNode3 : Int} {xSerial4 : Int} {H : Hp} {K : Value → Hp → Prop} (h : B_model_Model_object m1 n2 xNode3 xSerial4 H K) : hcall PR f_model_Model_object ⟨[(.pointer m1), (.int .i64 n2), (.agg #[(.int .i64 xNode3), (.int .u64 xSerial4)])]⟩ H K := denF_call Try.func83 PR_mixed (Eq.mp (E_model_Model_object m1 n2 xNode3 xSerial4 H K) h)

def B_model_Model_born (m1 : Option Addr) (n2 : Int) (xNode3 : Int) (xSerial4 : Int) (refs5 : Int) (vals6 : Int) (H : Hp) (K : Value → Hp → Prop) : Prop :=
 newB (.cells #[(.int .i64 xNode3), (.int .u64 xSerial4)] ty_api_ID) H fun b7 Hx8 =>
 ldI .i64 ⟨b7, 0, none⟩ Hx8 fun Node9 =>
 (bif ((Node9 : Int) != n2) then
 K (.bool false) Hx8
else
 ldI .u64 ⟨b7, 1, none⟩ Hx8 fun Serial10 =>
 nilP m1 fun ma11 =>
 ldSl (ma11.add 26) Hx8 fun lastP12 lastL13 lastC14 =>
 idxA lastP12 lastL13 (IntKind.i64.wrap (n2 - 1)) 1 fun el15 =>
 ldI .u64 el15 Hx8 fun t16 =>
 (bif (decide ((Serial10 : Int) ≤ t16)) then
 K (.bool false) Hx8
else
 ldI .u64 ⟨b7, 1, none⟩ Hx8 fun Serial17 =>
 (bif (decide ((Serial17 : Int) > 72057594037927935)) then
 K (.bool false) Hx8
else
 hcall PR f_model_in ⟨[(.int .i64 refs5), (.int .i64 8)]⟩ Hx8 fun v18 Hx19 =>
 asB v18 fun t20 =>
 (bif (!t20) then
 K (.bool false) Hx19
else
 hcall PR f_model_in ⟨[(.int .i64 vals6), (.int .i64 8)]⟩ Hx19 fun v21 Hx22 =>
 asB v21 fun t23 =>
 (bif (!t23) then
 K (.bool false) Hx22
else
 nilP m1 fun ma24 =>
 ldSl (ma24.add 26) Hx22 fun lastP25 lastL26 lastC27 =>
 ldI .u64 ⟨b7, 1, none⟩ Hx22 fun Serial28 =>
 idxA lastP25 lastL26 (IntKind.i64.wrap (n2 - 1)) 1 fun el29 =>
 st el29 (.int .u64 Serial28) Hx22 fun Hx30 =>
 nilP m1 fun ma31 =>
 ldM (ma31.add 22) Hx30 fun all32 =>
 ldI .i64 ⟨b7, 0, none⟩ Hx30 fun Node33 =>
 ldI .u64 ⟨b7, 1, none⟩ Hx30 fun Serial34 =>
 (evW PR (Instr.makeSlice ty_Sapi_ID (.int .i64 refs5) (.int .i64 refs5)) Hx30 fun v35 Hx36 =>
 asSl v35 fun mkP37 mkL38 mkC39 =>
 (ldI .i64 ⟨b7, 0, none⟩ Hx36 fun Node40 =>
 ldI .u64 ⟨b7, 1, none⟩ Hx36 fun Serial41 =>
 ((.agg #[(.int .i64 Node40), (.int .u64 Serial41)]) : Value) = (.agg #[(.int .i64 Node33), (.int .u64 Serial34)])) ∧
 (ldM (ma31.add 22) Hx36 fun all42 =>
 ((.map all42) : Value) = (.map all32)) ∧
 evW PR (Instr.makeSlice ty_Suint64 (.int .i64 vals6) (.int .i64 vals6)) Hx36 fun v43 Hx44 =>
 asSl v43 fun mkP45 mkL46 mkC47 =>
 (ldI .i64 ⟨b7, 0, none⟩ Hx44 fun Node48 =>
 ldI .u64 ⟨b7, 1, none⟩ Hx44 fun Serial49 =>
 ((.agg #[(.int .i64 Node48), (.int .u64 Serial49)]) : Value) = (.agg #[(.int .i64 Node33), (.int .u64 Serial34)])) ∧
 (ldM (ma31.add 22) Hx44 fun all50 =>
 ((.map all50) : Value) = (.map all32)) ∧
 newB (.cells #[(.slice mkP37 mkL38 mkC39), (.slice mkP45 mkL46 mkC47)] ty_model_thing) Hx44 fun b51 Hx52 =>
 (ldI .i64 ⟨b7, 0, none⟩ Hx52 fun Node53 =>
 ldI .u64 ⟨b7, 1, none⟩ Hx52 fun Serial54 =>
 ((.agg #[(.int .i64 Node53), (.int .u64 Serial54)]) : Value) = (.agg #[(.int .i64 Node33), (.int .u64 Serial34)])) ∧
 (ldM (ma31.add 22) Hx52 fun all55 =>
 ((.map all55) : Value) = (.map all32)) ∧
 evW PR (Instr.mapUpdate ty_map_api_ID_pmodel_thing (.map all32) (.agg #[(.int .i64 Node33), (.int .u64 Serial34)]) (.pointer (some ⟨b51, 0, none⟩))) Hx52 fun v56 Hx57 =>
 K (.bool true) Hx57) ∧
 (evW PR (Instr.makeSlice ty_Suint64 (.int .i64 vals6) (.int .i64 vals6)) Hx30 fun v58 Hx59 =>
 asSl v58 fun mkP60 mkL61 mkC62 =>
 (ldI .i64 ⟨b7, 0, none⟩ Hx59 fun Node63 =>
 ldI .u64 ⟨b7, 1, none⟩ Hx59 fun Serial64 =>
 ((.agg #[(.int .i64 Node63), (.int .u64 Serial64)]) : Value) = (.agg #[(.int .i64 Node33), (.int .u64 Serial34)])) ∧
 (ldM (ma31.add 22) Hx59 fun all65 =>
 ((.map all65) : Value) = (.map all32)) ∧
 evW PR (Instr.makeSlice ty_Sapi_ID (.int .i64 refs5) (.int .i64 refs5)) Hx59 fun v66 Hx67 =>
 asSl v66 fun mkP68 mkL69 mkC70 =>
 (ldI .i64 ⟨b7, 0, none⟩ Hx67 fun Node71 =>
 ldI .u64 ⟨b7, 1, none⟩ Hx67 fun Serial72 =>
 ((.agg #[(.int .i64 Node71), (.int .u64 Serial72)]) : Value) = (.agg #[(.int .i64 Node33), (.int .u64 Serial34)])) ∧
 (ldM (ma31.add 22) Hx67 fun all73 =>
 ((.map all73) : Value) = (.map all32)) ∧
 newB (.cells #[(.slice mkP68 mkL69 mkC70), (.slice mkP60 mkL61 mkC62)] ty_model_thing) Hx67 fun b74 Hx75 =>
 (ldI .i64 ⟨b7, 0, none⟩ Hx75 fun Node76 =>
 ldI .u64 ⟨b7, 1, none⟩ Hx75 fun Serial77 =>
 ((.agg #[(.int .i64 Node76), (.int .u64 Serial77)]) : Value) = (.agg #[(.int .i64 Node33), (.int .u64 Serial34)])) ∧
 (ldM (ma31.add 22) Hx75 fun all78 =>
 ((.map all78) : Value) = (.map all32)) ∧
 evW PR (Instr.mapUpdate ty_map_api_ID_pmodel_thing (.map all32) (.agg #[(.int .i64 Node33), (.int .u64 Serial34)]) (.pointer (some ⟨b74, 0, none⟩))) Hx75 fun v79 Hx80 =>
 K (.bool true) Hx80))))))
theorem E_model_Model_born (m1 : Option Addr) (n2 : Int) (xNode3 : Int) (xSerial4 : Int) (refs5 : Int) (vals6 : Int) (H : Hp) (K : Value → Hp → Prop) : B_model_Model_born m1 n2 xNode3 xSerial4 refs5 vals6 H K = denF Try.prog Try.f84 .n [(.pointer m1), (.int .i64 n2), (.agg #[(.int .i64 xNode3), (.int .u64 xSerial4)]), (.int .i64 refs5), (.int .i64 vals6)] H K := by kernel_rfl
theorem den_model_Model_born {m1 : Option Addr} {n2 : Int} {xNode3 : Int} {xSerial4 : Int} {refs5 : Int} {vals6 : Int} {H : Hp} {K : Value → Hp → Prop} (h : B_model_Model_born m1 n2 xNode3 xSerial4 refs5 vals6 H K) : hcall PR f_model_Model_born ⟨[(.pointer m1), (.int .i64 n2), (.agg #[(.int .i64 xNode3), (.int .u64 xSerial4)]), (.int .i64 refs5), (.int .i64 vals6)]⟩ H K := denF_call Try.func84 PR_mixed (Eq.mp (E_model_Model_born m1 n2 xNode3 xSerial4 refs5 vals6 H K) h)

def B_model_in (k1 : Int) (n2 : Int) (H : Hp) (K : Value → Hp → Prop) : Prop :=
 (bif (decide ((k1 : Int) ≥ 0)) then
 K (.bool (decide ((k1 : Int) < n2))) H
else
 K (.bool false) H)
theorem E_model_in (k1 : Int) (n2 : Int) (H : Hp) (K : Value → Hp → Prop) : B_model_in k1 n2 H K = denF Try.prog Try.f85 .n [(.int .i64 k1), (.int .i64 n2)] H K := by kernel_rfl
theorem den_model_in {k1 : Int} {n2 : Int} {H : Hp} {K : Value → Hp → Prop} (h : B_model_in k1 n2 H K) : hcall PR f_model_in ⟨[(.int .i64 k1), (.int .i64 n2)]⟩ H K := denF_call Try.func85 PR_mixed (Eq.mp (E_model_in k1 n2 H K) h)

def B_model_Model_begin (m1 : Option Addr) (eKind2 : Int) (eNode3 : Int) (eM4 : Int) (eK5 : Int) (eKind6 : Int) (eA7 : Int) (eB8 : Int) (eField9 : Int) (eRefs10 : Int) (eVals11 : Int) (eTo12 : Int) (eValue13 : Int) (eNum14 : Int) (eByP15 : Option Addr) (eByL16 : Nat) (eByC17 : Nat) (eBytesP18 : Option Addr) (eBytesL19 : Nat) (eBytesC20 : Nat) (aWhy21 : Int) (aNode22 : Int) (aSerial23 : Int) (aValue24 : Int) (aTo25 : Int) (aNum26 : Int) (c27 : Option Addr) (to28 : Int) (H : Hp) (K : Value → Hp → Prop) : Prop :=
 newB (.cells #[(.int .i64 eKind2), (.int .i64 eNode3), (.int .i64 eM4), (.int .i64 eK5), (.int .i64 eKind6), (.int .i64 eA7), (.int .i64 eB8), (.int .i64 eField9), (.int .i64 eRefs10), (.int .i64 eVals11), (.int .i64 eTo12), (.int .u64 eValue13), (.int .u64 eNum14), (.slice eByP15 eByL16 eByC17), (.slice eBytesP18 eBytesL19 eBytesC20)] ty_world_Event) H fun b29 Hx30 =>
 newB (.cells #[(.int .i64 aWhy21), (.int .i64 aNode22), (.int .u64 aSerial23), (.int .u64 aValue24), (.int .i64 aTo25), (.int .u64 aNum26)] ty_node_Answer) Hx30 fun b31 Hx32 =>
 ldI .i64 ⟨b29, 1, none⟩ Hx32 fun Node33 =>
 newB (.cells #[(.int .i64 0), (.int .i64 0)] ty_2_int) Hx32 fun b34 Hx35 =>
 st ⟨b34, 0, none⟩ (.int .i64 Node33) Hx35 fun Hx36 =>
 st ⟨b34, 1, none⟩ (.int .i64 to28) Hx36 fun Hx37 =>
 nilP m1 fun ma38 =>
 ldM (ma38.add 25) Hx37 fun nums39 =>
 ldN ⟨b34, 0, none⟩ Hx37 0 2 fun tvs40 =>
 evR PR (Instr.lookup ty_map_2_int_uint64 (.map nums39) (.agg ⟨tvs40⟩) true) Hx37 fun v41 =>
 tup2 v41 fun v42 v43 =>
 asI .u64 v42 fun t44 =>
 asB v43 fun t45 =>
 ∀ R46 : Int → Hp → Prop, (∀ num48 : Int, ∀ Hx47 : Hp, (
 (bif (decide ((to28 : Int) < 1)) then
 K (.bool false) Hx47
else
 nilP m1 fun ma49 =>
 ldI .i64 ma49 Hx47 fun Nodes50 =>
 (bif (decide ((to28 : Int) > Nodes50)) then
 K (.bool false) Hx47
else
 ldI .i64 ⟨b29, 1, none⟩ Hx47 fun Node51 =>
 (bif ((to28 : Int) == Node51) then
 K (.bool false) Hx47
else
 ldI .i64 ⟨b31, 0, none⟩ Hx47 fun Why52 =>
 ldI .i64 ⟨b31, 1, none⟩ Hx47 fun Node53 =>
 ldI .u64 ⟨b31, 2, none⟩ Hx47 fun Serial54 =>
 ldI .u64 ⟨b31, 3, none⟩ Hx47 fun Value55 =>
 ldI .i64 ⟨b31, 4, none⟩ Hx47 fun To56 =>
 ldI .u64 ⟨b31, 5, none⟩ Hx47 fun Num57 =>
 evR PR (aggEq .neq ty_node_Answer #[(.int .i64 Why52), (.int .i64 Node53), (.int .u64 Serial54), (.int .u64 Value55), (.int .i64 To56), (.int .u64 Num57)] #[(.int .i64 0), (.int .i64 0), (.int .u64 0), (.int .u64 0), (.int .i64 to28), (.int .u64 (IntKind.u64.wrap (num48 + 1)))]) Hx47 fun v58 =>
 asB v58 fun eq59 =>
 (bif eq59 then
 K (.bool false) Hx47
else
 nilP m1 fun ma60 =>
 ldM (ma60.add 25) Hx47 fun nums61 =>
 ldN ⟨b34, 0, none⟩ Hx47 0 2 fun tvs62 =>
 evW PR (Instr.mapUpdate ty_map_2_int_uint64 (.map nums61) (.agg ⟨tvs62⟩) (.int .u64 (IntKind.u64.wrap (num48 + 1)))) Hx47 fun v63 Hx64 =>
 nilP m1 fun ma65 =>
 ldM (ma65.add 24) Hx64 fun calls66 =>
 ldI .i64 ⟨b29, 1, none⟩ Hx64 fun Node67 =>
 evW PR (Instr.mapUpdate ty_map_model_name_pmodel_call (.map calls66) (.agg #[(.int .i64 Node67), (.int .i64 to28), (.int .u64 (IntKind.u64.wrap (num48 + 1)))]) (.pointer c27)) Hx64 fun v68 Hx69 =>
 K (.bool true) Hx69))))) → R46 num48 Hx47) →
 (bif (!t45) then
 nilP m1 fun ma70 =>
 ldI .u64 (ma70.add 21) Hx37 fun Last71 =>
 R46 Last71 Hx37
else
 R46 t44 Hx37)
theorem E_model_Model_begin (m1 : Option Addr) (eKind2 : Int) (eNode3 : Int) (eM4 : Int) (eK5 : Int) (eKind6 : Int) (eA7 : Int) (eB8 : Int) (eField9 : Int) (eRefs10 : Int) (eVals11 : Int) (eTo12 : Int) (eValue13 : Int) (eNum14 : Int) (eByP15 : Option Addr) (eByL16 : Nat) (eByC17 : Nat) (eBytesP18 : Option Addr) (eBytesL19 : Nat) (eBytesC20 : Nat) (aWhy21 : Int) (aNode22 : Int) (aSerial23 : Int) (aValue24 : Int) (aTo25 : Int) (aNum26 : Int) (c27 : Option Addr) (to28 : Int) (H : Hp) (K : Value → Hp → Prop) : B_model_Model_begin m1 eKind2 eNode3 eM4 eK5 eKind6 eA7 eB8 eField9 eRefs10 eVals11 eTo12 eValue13 eNum14 eByP15 eByL16 eByC17 eBytesP18 eBytesL19 eBytesC20 aWhy21 aNode22 aSerial23 aValue24 aTo25 aNum26 c27 to28 H K = denF Try.prog Try.f87 (.seq none .n (.seq none .n (.seq none .n (.seq (some ⟨[(12, .int .u64)], [0, 3, 4, 6, 7, 11]⟩) .n .n)))) [(.pointer m1), (.agg #[(.int .i64 eKind2), (.int .i64 eNode3), (.int .i64 eM4), (.int .i64 eK5), (.int .i64 eKind6), (.int .i64 eA7), (.int .i64 eB8), (.int .i64 eField9), (.int .i64 eRefs10), (.int .i64 eVals11), (.int .i64 eTo12), (.int .u64 eValue13), (.int .u64 eNum14), (.slice eByP15 eByL16 eByC17), (.slice eBytesP18 eBytesL19 eBytesC20)]), (.agg #[(.int .i64 aWhy21), (.int .i64 aNode22), (.int .u64 aSerial23), (.int .u64 aValue24), (.int .i64 aTo25), (.int .u64 aNum26)]), (.pointer c27), (.int .i64 to28)] H K := by kernel_rfl
theorem den_model_Model_begin {m1 : Option Addr} {eKind2 : Int} {eNode3 : Int} {eM4 : Int} {eK5 : Int} {eKind6 : Int} {eA7 : Int} {eB8 : Int} {eField9 : Int} {eRefs10 : Int} {eVals11 : Int} {eTo12 : Int} {eValue13 : Int} {eNum14 : Int} {eByP15 : Option Addr} {eByL16 : Nat} {eByC17 : Nat} {eBytesP18 : Option Addr} {eBytesL19 : Nat} {eBytesC20 : Nat} {aWhy21 : Int} {aNode22 : Int} {aSerial23 : Int} {aValue24 : Int} {aTo25 : Int} {aNum26 : Int} {c27 : Option Addr} {to28 : Int} {H : Hp} {K : Value → Hp → Prop} (h : B_model_Model_begin m1 eKind2 eNode3 eM4 eK5 eKind6 eA7 eB8 eField9 eRefs10 eVals11 eTo12 eValue13 eNum14 eByP15 eByL16 eByC17 eBytesP18 eBytesL19 eBytesC20 aWhy21 aNode22 aSerial23 aValue24 aTo25 aNum26 c27 to28 H K) : hcall PR f_model_Model_begin ⟨[(.pointer m1), (.agg #[(.int .i64 eKind2), (.int .i64 eNode3), (.int .i64 eM4), (.int .i64 eK5), (.int .i64 eKind6), (.int .i64 eA7), (.int .i64 eB8), (.int .i64 eField9), (.int .i64 eRefs10), (.int .i64 eVals11), (.int .i64 eTo12), (.int .u64 eValue13), (.int .u64 eNum14), (.slice eByP15 eByL16 eByC17), (.slice eBytesP18 eBytesL19 eBytesC20)]), (.agg #[(.int .i64 aWhy21), (.int .i64 aNode22), (.int .u64 aSerial23), (.int .u64 aValue24), (.int .i64 aTo25), (.int .u64 aNum26)]), (.pointer c27), (.int .i64 to28)]⟩ H K := denF_call Try.func87 PR_mixed (Eq.mp (E_model_Model_begin m1 eKind2 eNode3 eM4 eK5 eKind6 eA7 eB8 eField9 eRefs10 eVals11 eTo12 eValue13 eNum14 eByP15 eByL16 eByC17 eBytesP18 eBytesL19 eBytesC20 aWhy21 aNode22 aSerial23 aValue24 aTo25 aNum26 c27 to28 H K) h)

def B_model_Model_order (m1 : Option Addr) (n2 : Int) (x3 : Option Addr) (sFrom4 : Int) (sNum5 : Int) (sOp6 : Int) (sField7 : Int) (sNode8 : Int) (sSerial9 : Int) (sRefsP10 : Option Addr) (sRefsL11 : Nat) (sRefsC12 : Nat) (sValue13 : Int) (sState14 : Int) (sCode15 : Int) (sResultP16 : Option Addr) (sResultL17 : Nat) (sResultC18 : Nat) (sBack19 : Int) (sSent20 : Int) (sWait21 : Int) (H : Hp) (K : Value → Hp → Prop) : Prop :=
 newB (.cells #[(.int .i64 sFrom4), (.int .u64 sNum5), (.int .i64 sOp6), (.int .i64 sField7), (.int .i64 sNode8), (.int .u64 sSerial9), (.slice sRefsP10 sRefsL11 sRefsC12), (.int .u64 sValue13), (.int .i64 sState14), (.int .i64 sCode15), (.slice sResultP16 sResultL17 sResultC18), (.int .u64 sBack19), (.int .u64 sSent20), (.int .u64 sWait21)] ty_api_Served) H fun b22 Hx23 =>
 nilP x3 fun xa24 =>
 ldI .i64 xa24 Hx23 fun op25 =>
 (bif ((op25 : Int) == 1) then
 ldSl ⟨b22, 10, none⟩ Hx23 fun ResultP26 ResultL27 ResultC28 =>
 (bif (((ResultL27 : Int) : Int) != 1) then
 K (.tuple #[(.int .u64 0), (.slice none 0 0), (.bool false)]) Hx23
else
 ldSl ⟨b22, 10, none⟩ Hx23 fun ResultP29 ResultL30 ResultC31 =>
 idxA ResultP29 ResultL30 0 2 fun el32 =>
 ldI .i64 el32 Hx23 fun Node33 =>
 ldI .u64 (el32.add 1) Hx23 fun Serial34 =>
 nilP x3 fun xa35 =>
 ldI .i64 (xa35.add 1) Hx23 fun field36 =>
 (8 : Int) ≠ 0 ∧
 nilP x3 fun xa37 =>
 ldI .i64 (xa37.add 1) Hx23 fun field38 =>
 (8 : Int) ≠ 0 ∧
 hcall PR f_model_Model_born ⟨[(.pointer m1), (.int .i64 n2), (.agg #[(.int .i64 Node33), (.int .u64 Serial34)]), (.int .i64 (Int.tmod field36 8)), (.int .i64 (IntKind.i64.wrap (Int.tdiv field38 8)))]⟩ Hx23 fun v39 Hx40 =>
 asB v39 fun t41 =>
 (bif (!t41) then
 K (.tuple #[(.int .u64 0), (.slice none 0 0), (.bool false)]) Hx40
else
 ldSl ⟨b22, 10, none⟩ Hx40 fun ResultP42 ResultL43 ResultC44 =>
 idxA ResultP42 ResultL43 0 2 fun el45 =>
 ldI .i64 el45 Hx40 fun Node46 =>
 ldI .u64 (el45.add 1) Hx40 fun Serial47 =>
 newB (.cells #[(.int .i64 Node46), (.int .u64 Serial47)] ty_api_ID) Hx40 fun b48 Hx49 =>
 K (.tuple #[(.int .u64 0), (.slice (some ⟨b48, 0, none⟩) 1 1), (.bool true)]) Hx49))
else
 nilP x3 fun xa50 =>
 ldI .i64 xa50 Hx23 fun op51 =>
 (bif ((op51 : Int) == 6) then
 nilP x3 fun xa52 =>
 ldI .i64 (xa52.add 1) Hx23 fun field53 =>
 nilP m1 fun ma54 =>
 ldI .i64 (ma54.add 2) Hx23 fun Slots55 =>
 hcall PR f_model_in ⟨[(.int .i64 field53), (.int .i64 Slots55)]⟩ Hx23 fun v56 Hx57 =>
 asB v56 fun t58 =>
 (bif (!t58) then
 K (.tuple #[(.int .u64 0), (.slice none 0 0), (.bool false)]) Hx57
else
 nilP m1 fun ma59 =>
 ldSl (ma59.add 23) Hx57 fun slotsP60 slotsL61 slotsC62 =>
 idxA slotsP60 slotsL61 (IntKind.i64.wrap (n2 - 1)) 1 fun el63 =>
 ldSl el63 Hx57 fun tP64 tL65 tC66 =>
 idxA tP64 tL65 0 1 fun el67 =>
 ldSl el67 Hx57 fun tP68 tL69 tC70 =>
 nilP x3 fun xa71 =>
 ldI .i64 (xa71.add 1) Hx57 fun field72 =>
 idxA tP68 tL69 field72 2 fun el73 =>
 ldI .i64 el73 Hx57 fun Node74 =>
 ldI .u64 (el73.add 1) Hx57 fun Serial75 =>
 newB (.cells #[(.int .i64 Node74), (.int .u64 Serial75)] ty_api_ID) Hx57 fun b76 Hx77 =>
 K (.tuple #[(.int .u64 0), (.slice (some ⟨b76, 0, none⟩) 1 1), (.bool true)]) Hx77)
else
 nilP x3 fun xa78 =>
 ldI .i64 (xa78.add 2) Hx23 fun Node79 =>
 ldI .u64 ((xa78.add 2).add 1) Hx23 fun Serial80 =>
 hcall PR f_model_Model_object ⟨[(.pointer m1), (.int .i64 n2), (.agg #[(.int .i64 Node79), (.int .u64 Serial80)])]⟩ Hx23 fun v81 Hx82 =>
 asP v81 fun t83 =>
 (bif (Option.isNone (α := Addr) t83) then
 K (.tuple #[(.int .u64 0), (.slice none 0 0), (.bool false)]) Hx82
else
 nilP x3 fun xa84 =>
 ldI .i64 (xa84.add 1) Hx82 fun field85 =>
 nilP t83 fun ta86 =>
 ldSl ta86 Hx82 fun refsP87 refsL88 refsC89 =>
 nilP x3 fun xa90 =>
 ldI .i64 (xa90.add 1) Hx82 fun field91 =>
 nilP t83 fun ta92 =>
 ldSl (ta92.add 1) Hx82 fun valsP93 valsL94 valsC95 =>
 hcall PR f_model_in ⟨[(.int .i64 field85), (.int .i64 (refsL88 : Int))]⟩ Hx82 fun v96 Hx97 =>
 asB v96 fun t98 =>
 (ldSl (ta92.add 1) Hx97 fun valsP99 valsL100 valsC101 =>
 ((.slice valsP99 valsL100 valsC101) : Value) = (.slice valsP93 valsL94 valsC95)) ∧
 (ldI .i64 (xa90.add 1) Hx97 fun field102 =>
 ((.int .i64 field102) : Value) = (.int .i64 field91)) ∧
 hcall PR f_model_in ⟨[(.int .i64 field91), (.int .i64 (valsL94 : Int))]⟩ Hx97 fun v103 Hx104 =>
 asB v103 fun t105 =>
 ∀ R106 : Bool → Hp → Prop, (∀ t108 : Bool, ∀ Hx107 : Hp, (
 (bif t108 then
 nilP t83 fun ta109 =>
 ldSl ta109 Hx107 fun refsP110 refsL111 refsC112 =>
 nilP x3 fun xa113 =>
 ldI .i64 (xa113.add 1) Hx107 fun field114 =>
 idxA refsP110 refsL111 field114 2 fun el115 =>
 ldI .i64 el115 Hx107 fun Node116 =>
 ldI .u64 (el115.add 1) Hx107 fun Serial117 =>
 newB (.cells #[(.int .i64 Node116), (.int .u64 Serial117)] ty_api_ID) Hx107 fun b118 Hx119 =>
 K (.tuple #[(.int .u64 0), (.slice (some ⟨b118, 0, none⟩) 1 1), (.bool true)]) Hx119
else
 ∀ R120 : Bool → Hp → Prop, (∀ t122 : Bool, ∀ Hx121 : Hp, (
 (bif t122 then
 nilP t83 fun ta123 =>
 ldSl ta123 Hx121 fun refsP124 refsL125 refsC126 =>
 nilP x3 fun xa127 =>
 ldI .i64 (xa127.add 1) Hx121 fun field128 =>
 nilP x3 fun xa129 =>
 ldSl (xa129.add 4) Hx121 fun refsP130 refsL131 refsC132 =>
 idxA refsP130 refsL131 0 2 fun el133 =>
 ldI .i64 el133 Hx121 fun Node134 =>
 ldI .u64 (el133.add 1) Hx121 fun Serial135 =>
 idxA refsP124 refsL125 field128 2 fun el136 =>
 st el136 (.int .i64 Node134) Hx121 fun Hx137 =>
 st (el136.add 1) (.int .u64 Serial135) Hx137 fun Hx138 =>
 K (.tuple #[(.int .u64 0), (.slice none 0 0), (.bool true)]) Hx138
else
 ∀ R139 : Bool → Hp → Prop, (∀ t141 : Bool, ∀ Hx140 : Hp, (
 (bif t141 then
 nilP t83 fun ta142 =>
 ldSl (ta142.add 1) Hx140 fun valsP143 valsL144 valsC145 =>
 nilP x3 fun xa146 =>
 ldI .i64 (xa146.add 1) Hx140 fun field147 =>
 idxA valsP143 valsL144 field147 1 fun el148 =>
 ldI .u64 el148 Hx140 fun t149 =>
 K (.tuple #[(.int .u64 t149), (.slice none 0 0), (.bool true)]) Hx140
else
 nilP x3 fun xa150 =>
 ldI .i64 xa150 Hx140 fun op151 =>
 (bif ((op151 : Int) == 5) then
 (bif t105 then
 nilP t83 fun ta152 =>
 ldSl (ta152.add 1) Hx140 fun valsP153 valsL154 valsC155 =>
 nilP x3 fun xa156 =>
 ldI .i64 (xa156.add 1) Hx140 fun field157 =>
 nilP x3 fun xa158 =>
 ldI .u64 (xa158.add 5) Hx140 fun value159 =>
 idxA valsP153 valsL154 field157 1 fun el160 =>
 st el160 (.int .u64 value159) Hx140 fun Hx161 =>
 K (.tuple #[(.int .u64 0), (.slice none 0 0), (.bool true)]) Hx161
else
 K (.tuple #[(.int .u64 0), (.slice none 0 0), (.bool false)]) Hx140)
else
 K (.tuple #[(.int .u64 0), (.slice none 0 0), (.bool false)]) Hx140))) → R139 t141 Hx140) →
 nilP x3 fun xa162 =>
 ldI .i64 xa162 Hx121 fun op163 =>
 (bif ((op163 : Int) == 4) then
 R139 t105 Hx121
else
 R139 false Hx121))) → R120 t122 Hx121) →
 nilP x3 fun xa164 =>
 ldI .i64 xa164 Hx107 fun op165 =>
 (bif ((op165 : Int) == 3) then
 (bif t98 then
 nilP x3 fun xa166 =>
 ldSl (xa166.add 4) Hx107 fun refsP167 refsL168 refsC169 =>
 R120 (((refsL168 : Int) : Int) == 1) Hx107
else
 R120 false Hx107)
else
 R120 false Hx107))) → R106 t108 Hx107) →
 nilP x3 fun xa170 =>
 ldI .i64 xa170 Hx104 fun op171 =>
 (bif ((op171 : Int) == 2) then
 R106 t98 Hx104
else
 R106 false Hx104))))
theorem E_model_Model_order (m1 : Option Addr) (n2 : Int) (x3 : Option Addr) (sFrom4 : Int) (sNum5 : Int) (sOp6 : Int) (sField7 : Int) (sNode8 : Int) (sSerial9 : Int) (sRefsP10 : Option Addr) (sRefsL11 : Nat) (sRefsC12 : Nat) (sValue13 : Int) (sState14 : Int) (sCode15 : Int) (sResultP16 : Option Addr) (sResultL17 : Nat) (sResultC18 : Nat) (sBack19 : Int) (sSent20 : Int) (sWait21 : Int) (H : Hp) (K : Value → Hp → Prop) : B_model_Model_order m1 n2 x3 sFrom4 sNum5 sOp6 sField7 sNode8 sSerial9 sRefsP10 sRefsL11 sRefsC12 sValue13 sState14 sCode15 sResultP16 sResultL17 sResultC18 sBack19 sSent20 sWait21 H K = denF Try.prog Try.f89 (.seq none .n (.seq none .n (.seq none .n (.seq none .n (.seq none .n (.seq none .n (.seq none (.sub (.seq (some ⟨[(110, .bool)], [2, 11, 12, 13]⟩) .n (.two .n (.seq (some ⟨[(130, .bool)], [2, 11, 13]⟩) .n (.two .n (.seq (some ⟨[(162, .bool)], [2, 11, 13]⟩) .n .n)))))) .n))))))) [(.pointer m1), (.int .i64 n2), (.pointer x3), (.agg #[(.int .i64 sFrom4), (.int .u64 sNum5), (.int .i64 sOp6), (.int .i64 sField7), (.int .i64 sNode8), (.int .u64 sSerial9), (.slice sRefsP10 sRefsL11 sRefsC12), (.int .u64 sValue13), (.int .i64 sState14), (.int .i64 sCode15), (.slice sResultP16 sResultL17 sResultC18), (.int .u64 sBack19), (.int .u64 sSent20), (.int .u64 sWait21)])] H K := by kernel_rfl
theorem den_model_Model_order {m1 : Option Addr} {n2 : Int} {x3 : Option Addr} {sFrom4 : Int} {sNum5 : Int} {sOp6 : Int} {sField7 : Int} {sNode8 : Int} {sSerial9 : Int} {sRefsP10 : Option Addr} {sRefsL11 : Nat} {sRefsC12 : Nat} {sValue13 : Int} {sState14 : Int} {sCode15 : Int} {sResultP16 : Option Addr} {sResultL17 : Nat} {sResultC18 : Nat} {sBack19 : Int} {sSent20 : Int} {sWait21 : Int} {H : Hp} {K : Value → Hp → Prop} (h : B_model_Model_order m1 n2 x3 sFrom4 sNum5 sOp6 sField7 sNode8 sSerial9 sRefsP10 sRefsL11 sRefsC12 sValue13 sState14 sCode15 sResultP16 sResultL17 sResultC18 sBack19 sSent20 sWait21 H K) : hcall PR f_model_Model_order ⟨[(.pointer m1), (.int .i64 n2), (.pointer x3), (.agg #[(.int .i64 sFrom4), (.int .u64 sNum5), (.int .i64 sOp6), (.int .i64 sField7), (.int .i64 sNode8), (.int .u64 sSerial9), (.slice sRefsP10 sRefsL11 sRefsC12), (.int .u64 sValue13), (.int .i64 sState14), (.int .i64 sCode15), (.slice sResultP16 sResultL17 sResultC18), (.int .u64 sBack19), (.int .u64 sSent20), (.int .u64 sWait21)])]⟩ H K := denF_call Try.func89 PR_mixed (Eq.mp (E_model_Model_order m1 n2 x3 sFrom4 sNum5 sOp6 sField7 sNode8 sSerial9 sRefsP10 sRefsL11 sRefsC12 sValue13 sState14 sCode15 sResultP16 sResultL17 sResultC18 sBack19 sSent20 sWait21 H K) h)

end Go.Proofs.Ytknejebggegfjaa

namespace Go.Proofs.Ytknejebggegfjaa
set_option linter.unusedSimpArgs false
set_option linter.unusedVariables false
set_option maxRecDepth 20000
open Go
/-! ## Answers compared -/
theorem eqF_int {P : Program} {w : World} {d : Nat} {xs ys : Array Value} {f : Field} {fs : List Field} {k : IntKind} {n m : Int} {r : Bool} (hn : f.name ≠ "_") (hu : P.underlying f.type = some (.int k)) (hx : xs[f.offset]? = some (.int k n)) (hy : ys[f.offset]? = some (.int k m))
    (rest : (Op.eqFields (d + 1) xs ys fs).run P w = .ok r w) : (Op.eqFields (d + 1) xs ys (f :: fs)).run P w = .ok (decide (n = m) && r) w := by
  unfold Op.eqFields
  rw [if_pos hn]
  simp only [Sem.run_bind, run_part_plain w (plainKey_int hu) hx, run_part_plain w (plainKey_int hu) hy, Result.andThen_ok, run_equalIn_int w d f.type k k n m hu]
  by_cases e : n = m
  · subst e
    simp only [beq_self_eq_true, Bool.not_true, Bool.false_eq_true, if_false, decide_true, Bool.true_and]
    exact rest
  · have : (n == m) = false := by simpa using e
    simp [this, e]
theorem eqF_id {w : World} {d : Nat} {xs ys : Array Value} {f : Field} {fs : List Field} {a b a' b' : Int} {r : Bool} (hn : f.name ≠ "_") (hu : f.type = ty_api_ID) (hx : xs.extract f.offset (f.offset + 2) = #[.int .i64 a, .int .u64 b]) (hy : ys.extract f.offset (f.offset + 2) = #[.int .i64 a', .int .u64 b'])
    (rest : (Op.eqFields (d + 2) xs ys fs).run PR w = .ok r w) : (Op.eqFields (d + 2) xs ys (f :: fs)).run PR w = .ok (decide ([a, b] = [a', b']) && r) w := by
  unfold Op.eqFields
  rw [if_pos hn, hu]
  obtain ⟨fs', hu', hf, hs, hi⟩ := intsOf_spec id_ints
  obtain ⟨i, hinf⟩ := info_of_underlying hu'
  have hc : PR.cellsOf ty_api_ID = 2 := by kernel_rfl
  have hp : ∀ zs : Array Value, (part ty_api_ID zs f.offset).run PR w = .ok (.agg (zs.extract f.offset (f.offset + 2))) w := fun zs => by
    have hc' : i.size = 2 := by simpa [Program.cellsOf, hinf] using hc
    simp [part, isAgg, run_underlying hu', run_sizeOf hinf, hc']
  have he : (Op.equalIn (d + 2) ty_api_ID (.agg #[.int .i64 a, .int .u64 b]) (.agg #[.int .i64 a', .int .u64 b'])).run PR w = .ok (decide ([a, b] = [a', b'])) w := by
    rw [run_equalIn_struct w (d + 1) _ _ _ (by rw [hf]; exact hu') hs, hf]
    exact eqFields_ints (ns := [a, b]) (ms := [a', b']) (d := d) hi rfl rfl (fun j hj => by
      have hj : j < 2 := hj
      have : j = 0 ∨ j = 1 := by omega
      rcases this with rfl | rfl <;> rfl) (fun j hj => by
      have hj : j < 2 := hj
      have : j = 0 ∨ j = 1 := by omega
      rcases this with rfl | rfl <;> rfl)
  simp only [Sem.run_bind, hp, hx, hy, he, Result.andThen_ok]
  by_cases e : [a, b] = [a', b']
  · rw [decide_eq_true e]
    simp only [Bool.not_true, Bool.false_eq_true, if_false, Bool.true_and]
    exact rest
  · rw [decide_eq_false e]
    simp
noncomputable def fk (f : Field) : Nat × Option IntKind × Bool := (f.offset, (match PR.underlying f.type with | some (.int k) => some k | _ => none), f.name != "_")
theorem fk_int {f : Field} {o : Nat} {k : IntKind} (h : fk f = (o, some k, true)) : f.offset = o ∧ PR.underlying f.type = some (.int k) ∧ f.name ≠ "_" := by
  unfold fk at h
  simp only [Prod.mk.injEq, bne_iff_ne, ne_eq] at h
  obtain ⟨h1, h2, h3⟩ := h
  refine ⟨h1, ?_, h3⟩
  split at h2
  · rename_i k' hu
    cases h2
    exact hu
  · cases h2
theorem answer_run (w : World) (a1 a2 a3 a4 a5 a6 b1 b2 b3 b4 b5 b6 : Int) :
    (Op.equal ty_node_Answer (.agg #[.int .i64 a1, .int .i64 a2, .int .u64 a3, .int .u64 a4, .int .i64 a5, .int .u64 a6]) (.agg #[.int .i64 b1, .int .i64 b2, .int .u64 b3, .int .u64 b4, .int .i64 b5, .int .u64 b6])).run PR w = .ok (decide (a1 = b1) && (decide ([a2, a3] = [b2, b3]) && (decide (a4 = b4) && (decide (a5 = b5) && (decide (a6 = b6) && true))))) w := by
  show (Op.equalIn (9999 + 1) ty_node_Answer (.agg _) (.agg _)).run PR w = _
  rw [run_equalIn_struct w 9999 _ _ _ (by kernel_rfl) (by kernel_rfl)]
  have h1 : (PR.fieldsOf ty_node_Answer).toList.map fk = [(0, some .i64, true), (1, none, true), (3, some .u64, true), (4, some .i64, true), (5, some .u64, true)] := by kernel_rfl
  have h2 : ((PR.fieldsOf ty_node_Answer).toList[1]?.map (·.type)) = some ty_api_ID := by kernel_rfl
  generalize (PR.fieldsOf ty_node_Answer).toList = fs at h1 h2
  have hl : fs.length = 5 := by simpa using congrArg List.length h1
  obtain ⟨f1, f2, f3, f4, f5, rfl⟩ : ∃ f1 f2 f3 f4 f5, fs = [f1, f2, f3, f4, f5] := by
    rcases fs with _ | ⟨f1, _ | ⟨f2, _ | ⟨f3, _ | ⟨f4, _ | ⟨f5, _ | ⟨f6, fs⟩⟩⟩⟩⟩⟩
    all_goals first
      | exact ⟨_, _, _, _, _, rfl⟩
      | (simp at hl; done)
      | (simp at hl; omega)
  · simp only [List.map_cons, List.map_nil, List.cons.injEq, and_true] at h1
    obtain ⟨g1, g2, g3, g4, g5⟩ := h1
    obtain ⟨o1, u1, n1⟩ := fk_int g1
    obtain ⟨o3, u3, n3⟩ := fk_int g3
    obtain ⟨o4, u4, n4⟩ := fk_int g4
    obtain ⟨o5, u5, n5⟩ := fk_int g5
    have h2 : f2.type = ty_api_ID := by simpa using h2
    unfold fk at g2
    simp only [Prod.mk.injEq, bne_iff_ne, ne_eq] at g2
    obtain ⟨o2, _, n2⟩ := g2
    refine eqF_int (d := 9998) n1 u1 (by rw [o1]; rfl) (by rw [o1]; rfl) ?_
    refine eqF_id (d := 9997) n2 h2 (by rw [o2]; rfl) (by rw [o2]; rfl) ?_
    refine eqF_int (d := 9998) n3 u3 (by rw [o3]; rfl) (by rw [o3]; rfl) ?_
    refine eqF_int (d := 9998) n4 u4 (by rw [o4]; rfl) (by rw [o4]; rfl) ?_
    refine eqF_int (d := 9998) n5 u5 (by rw [o5]; rfl) (by rw [o5]; rfl) ?_
    rfl
theorem ansEq {a1 a2 a3 a4 a5 a6 b1 b2 b3 b4 b5 b6 : Int} {H : Hp} {K : Value → Prop} (hK : K (.bool (decide (a1 = b1) && (decide ([a2, a3] = [b2, b3]) && (decide (a4 = b4) && (decide (a5 = b5) && (decide (a6 = b6) && true))))))) :
    evR PR (aggEq .eql ty_node_Answer #[.int .i64 a1, .int .i64 a2, .int .u64 a3, .int .u64 a4, .int .i64 a5, .int .u64 a6] #[.int .i64 b1, .int .i64 b2, .int .u64 b3, .int .u64 b4, .int .i64 b5, .int .u64 b6]) H K := by
  refine ⟨_, fun w _ => ?_, hK⟩
  have hg : PR.eqGuardType PR.depth ty_node_Answer = false := by kernel_rfl
  simp [aggEq, eqGuard, binOp, hg, answer_run w, Result.andThen]
theorem ansNe {a1 a2 a3 a4 a5 a6 b1 b2 b3 b4 b5 b6 : Int} {H : Hp} {K : Value → Prop} (hK : K (.bool (!(decide (a1 = b1) && (decide ([a2, a3] = [b2, b3]) && (decide (a4 = b4) && (decide (a5 = b5) && (decide (a6 = b6) && true)))))))) :
    evR PR (aggEq .neq ty_node_Answer #[.int .i64 a1, .int .i64 a2, .int .u64 a3, .int .u64 a4, .int .i64 a5, .int .u64 a6] #[.int .i64 b1, .int .i64 b2, .int .u64 b3, .int .u64 b4, .int .i64 b5, .int .u64 b6]) H K := by
  refine ⟨_, fun w _ => ?_, hK⟩
  have hg : PR.eqGuardType PR.depth ty_node_Answer = false := by kernel_rfl
  simp [aggEq, eqGuard, binOp, hg, answer_run w, Result.andThen]

/-! ## A model's parts -/
structure Nm where
  f : Int
  t : Int
  n : Int
 deriving DecidableEq
def Nm.val (x : Nm) : Value := .agg #[.int .i64 x.f, .int .i64 x.t, .int .u64 x.n]
def Idv (x : Id) : Value := .agg #[.int .i64 x.n, .int .u64 x.s]
def ptr (b : Nat) : Value := .pointer (some ⟨b, 0, none⟩)
theorem nmKey : KeyK PR ty_model_name Nm.val := KeyK.ints (g := fun a : Nm => [a.f, a.t, a.n]) (ks := [.i64, .i64, .u64]) (by kernel_rfl) (fun _ => rfl) fun a b h => by
  obtain ⟨a1, a2, a3⟩ := a
  obtain ⟨b1, b2, b3⟩ := b
  simpa using h
theorem idvKey : KeyK PR ty_api_ID Idv := KeyK.ints (g := fun a : Id => [a.n, a.s]) id_ints (fun _ => rfl) fun a b h => by
  obtain ⟨a1, a2⟩ := a
  obtain ⟨b1, b2⟩ := b
  simpa using h
theorem prKey : KeyK PR ty_2_int pk := by
  have h1 : (PR.info? ty_int).map (·.size) = some 1 := by kernel_rfl
  cases hi : PR.info? ty_int with
  | none => rw [hi] at h1; simp at h1
  | some i => exact KeyK.pair (e := ty_int) (by kernel_rfl) (by kernel_rfl) hi (by rw [hi] at h1; simpa using h1)
theorem mt_all : PR.underlying ty_map_api_ID_pmodel_thing = some (.map ty_api_ID 125) := by kernel_rfl
theorem mt_call : PR.underlying ty_map_model_name_pmodel_call = some (.map ty_model_name 157) := by kernel_rfl
theorem mt_num : PR.underlying ty_map_2_int_uint64 = some (.map ty_2_int ty_uint64) := by kernel_rfl
theorem mz_thing : ((PR.info? 125).bind (·.zero)) = some (.pointer none) := by kernel_rfl
theorem mz_call : ((PR.info? 157).bind (·.zero)) = some (.pointer none) := by kernel_rfl
theorem mz_num : ((PR.info? ty_uint64).bind (·.zero)) = some (.int .u64 0) := by kernel_rfl

abbrev SlN := List (SlT × List (SlT × List Id))
def rowP (r : SlT × List Id) : Prt := Prt.row 2 r.1.1 r.1.2.1 r.1.2.2 (cel wId r.2)
def nodeP (t : SlT × List (SlT × List Id)) : Prt := Prt.list [Prt.row 1 t.1.1 t.1.2.1 t.1.2.2 (t.2.map fun r => slW r.1), Prt.list (t.2.map rowP)]
structure Md where
  al : List (Id × Nat)
  ca : List (Nm × Nat)
  nu : List ((Int × Int) × Int)
  la : List Int
  sl : SlN
structure MdX where
  mb : Nat
  ab : Nat
  cb : Nat
  nb : Nat
  sp : Option Addr
  sc : Nat
  lp : Option Addr
  lc : Nat
def mdL (c : Cf) (x : MdX) (m : Md) : List Prt := [Prt.one x.mb (.cells #[.int .i64 c.a0, .int .i64 c.a1, .int .i64 c.a2, .int .i64 c.a3, .int .i64 c.a4, .int .i64 c.a5, .int .i64 c.a6, .int .i64 c.a7, .int .i64 c.a8, .int .i64 c.a9, .int .i64 c.a10, .int .u64 c.a11, .int .u64 c.a12, .int .u64 c.a13, .int .u64 c.a14, .int .u64 c.a15, .int .u64 c.a16, .int .i64 c.a17, .int .i64 c.a18, .int .i64 c.a19, .int .u64 c.a20, .int .u64 c.a21, .map (some x.ab), .slice x.sp m.sl.length x.sc, .map (some x.cb), .map (some x.nb), .slice x.lp m.la.length x.lc] ty_model_Model (0, 0)),
  Prt.mp x.ab (ments Idv ptr m.al), Prt.mp x.cb (ments Nm.val ptr m.ca), Prt.mp x.nb (ments pk (Value.int .u64) m.nu), Prt.row 1 x.lp m.la.length x.lc (m.la.map (Value.int .u64)), Prt.row 1 x.sp m.sl.length x.sc (m.sl.map fun t => slW t.1), Prt.list (m.sl.map nodeP)]
/-- So many rows for each node, each so long. -/
structure Md.ok (c : Cf) (m : Md) : Prop where
  la : (m.la.length : Int) = c.a0
  sl : (m.sl.length : Int) = c.a0
  mu : ∀ t ∈ m.sl, (t.2.length : Int) = c.a1
  ro : ∀ t ∈ m.sl, ∀ r ∈ t.2, (r.2.length : Int) = c.a2
section
variable {H0 H : Hp} {L M : List Prt} {i : Nat} {K : Value → Hp → Prop}
/-- A row of slices, read. -/
theorem slRd {α : Type} {g : α → SlT} {d : α} {p : Option Addr} {n : Nat} {l : List α} {t : Int} {k : Nat} {Q : Option Addr → Nat → Nat → Prop} (h : Rd H 1 p n (l.map fun a => slW (g a))) (ht : t = k) (hk : k < l.length) (hQ : Q (g (l.getD k d)).1 (g (l.getD k d)).2.1 (g (l.getD k d)).2.2) :
    idxA p n t 1 fun el => ldSl el H Q := by
  subst ht
  have hl : l.length = n := by simpa using h.1
  refine idx1 (d := d) (g := fun a => slW (g a)) h (by omega) (by omega) fun b o _ hcl => ?_
  rw [Int.toNat_natCast] at hcl ⊢
  exact ldSl_of hcl hQ
/-- A part of a part that is a list. -/
theorem St.inL {A : Prt} {N : List Prt} {k : Nat} (h : St H0 L H) (hi : L[i]? = some (Prt.list N)) (hk : N[k]? = some A) : ∃ L', St H0 (A :: L') H := ⟨_, h.sub hi hk⟩
theorem nodeRd {sl : SlN} {n : Nat} (h : St H0 L H) (hi : L[i]? = some (Prt.list (sl.map nodeP))) (hn : n < sl.length) : Rd H 1 sl[n].1.1 sl[n].1.2.1 (sl[n].2.map fun r => slW r.1) ∧ ∀ (m : Nat) (hm : m < sl[n].2.length), Rd H 2 sl[n].2[m].1.1 sl[n].2[m].1.2.1 (cel wId sl[n].2[m].2) := by
  obtain ⟨L1, h1⟩ := h.inL hi (k := n) (A := nodeP sl[n]) (by rw [List.getElem?_map, List.getElem?_eq_getElem hn]; rfl)
  have h2 := h1.open (i := 0) rfl
  refine ⟨h2.row_rd (i := 0) rfl, fun m hm => ?_⟩
  obtain ⟨L2, h3⟩ := h2.inL (i := 1) rfl (k := m) (A := rowP sl[n].2[m]) (by rw [List.getElem?_map, List.getElem?_eq_getElem hm]; rfl)
  exact h3.row_rd (i := 0) rfl
end
end Go.Proofs.Ytknejebggegfjaa

namespace Go.Proofs.Ytknejebggegfjaa
set_option linter.unusedSimpArgs false
set_option linter.unusedVariables false
set_option maxRecDepth 20000
open Go
/-- An event, as far as one is needed. -/
def evV (k n k2 a b r t : Int) : Value := .agg #[.int .i64 k, .int .i64 n, .int .i64 0, .int .i64 0, .int .i64 k2, .int .i64 a, .int .i64 b, .int .i64 0, .int .i64 r, .int .i64 0, .int .i64 t, .int .u64 0, .int .u64 0, .slice none 0 0, .slice none 0 0]
def anV (n s v t u : Int) : Value := .agg #[.int .i64 0, .int .i64 n, .int .u64 s, .int .u64 v, .int .i64 t, .int .u64 u]
def noR : SlT × List Id := ((none, 0, 0), [])
def noN : SlT × List (SlT × List Id) := ((none, 0, 0), [])
def slotOf (m : Md) (n s : Nat) : Id := (((m.sl.getD n noN).2.getD 0 noR).2.getD s noId)
structure Md.nod (m : Md) : Prop where
  al : mnod m.al
  ca : mnod m.ca
  nu : mnod m.nu
section
variable {H0 H : Hp} {L M : List Prt} {i : Nat} {K : Value → Hp → Prop} {c : Cf} {x : MdX} {m : Md}
theorem in26 {k n : Int} (hK : K (.bool (decide (k ≥ 0) && decide (k < n))) H) : hcall PR f_model_in ⟨[.int .i64 k, .int .i64 n]⟩ H K := by
  apply den_model_in
  unfold B_model_in
  by_cases h : k ≥ 0
  · rw [decide_eq_true h, Bool.true_and] at hK
    exact bif_pos h hK
  · rw [decide_eq_false h, Bool.false_and] at hK
    exact bif_neg h hK
theorem slotC {k n k2 a b r t : Int} {s : Nat} {e : Bool} (hm : m.ok c) (hg : c.good) (hn : 1 ≤ n ∧ n ≤ c.a0) (hs : (s : Int) < c.a2) (h : St H0 (mdL c x m ++ M) H)
    (hK : ∀ H', St H0 (mdL c x m ++ M) H' → K (.tuple #[.agg #[.int .i64 (slotOf m (n - 1).toNat s).n, .int .u64 (slotOf m (n - 1).toNat s).s], .bool true]) H') :
    hcall PR f_model_Model_slot ⟨[.pointer (some ⟨x.mb, 0, none⟩), evV k n k2 a b r t, .int .i64 s, .bool e]⟩ H K := by
  apply den_model_Model_slot
  unfold B_model_Model_slot
  intro b23 hb23
  have g1 := h.alloc (o := .cells #[.int .i64 k, .int .i64 n, .int .i64 0, .int .i64 0, .int .i64 k2, .int .i64 a, .int .i64 b, .int .i64 0, .int .i64 r, .int .i64 0, .int .i64 t, .int .u64 0, .int .u64 0, .slice none 0 0, .slice none 0 0] ty_world_Event) hb23
  intro b25 hb25
  have g2 := g1.alloc (o := .cells #[.int .i64 0, .int .u64 0] ty_api_ID) hb25
  have g2 : St H0 (Prt.one b25 (.cells #[.int .i64 0, .int .u64 0] ty_api_ID (0, 0)) :: Prt.one b23 (.cells #[.int .i64 k, .int .i64 n, .int .i64 0, .int .i64 0, .int .i64 k2, .int .i64 a, .int .i64 b, .int .i64 0, .int .i64 r, .int .i64 0, .int .i64 t, .int .u64 0, .int .u64 0, .slice none 0 0, .slice none 0 0] ty_world_Event (0, 0)) :: (mdL c x m ++ M)) _ := g2
  clear g1 h
  have h0 := hg.a0; have h1 := hg.a1; have h2 := hg.a2; have hla := hm.la; have hsl := hm.sl
  obtain ⟨v, hv, hvl⟩ : ∃ v : Nat, n - 1 = v ∧ v < m.sl.length := ⟨(n - 1).toNat, by omega, by omega⟩
  have hmu := hm.mu m.sl[v] (List.getElem_mem hvl)
  have hml : 0 < m.sl[v].2.length := by omega
  have hro := hm.ro m.sl[v] (List.getElem_mem hvl) m.sl[v].2[0] (List.getElem_mem hml)
  intro R27 hR27
  have hQ27 : ∀ Hx, St H0 (Prt.one b25 (.cells #[.int .i64 0, .int .u64 0] ty_api_ID (0, 0)) :: Prt.one b23 (.cells #[.int .i64 k, .int .i64 n, .int .i64 0, .int .i64 0, .int .i64 k2, .int .i64 a, .int .i64 b, .int .i64 0, .int .i64 r, .int .i64 0, .int .i64 t, .int .u64 0, .int .u64 0, .slice none 0 0, .slice none 0 0] ty_world_Event (0, 0)) :: (mdL c x m ++ M)) Hx → R27 Hx := fun Hx g2 => by
    refine hR27 _ ?_
    clear hR27
    (repeat first | refine ldI_of (g2.cell (i := 0) rfl rfl) ?_ | refine ldSl_of (g2.cell (i := 0) rfl rfl) ?_ | refine ldP_of (g2.cell (i := 0) rfl rfl) ?_ | refine ldB_of (g2.cell (i := 0) rfl rfl) ?_ | refine ldM_of (g2.cell (i := 0) rfl rfl) ?_ | refine ldI_of (g2.cell (i := 1) rfl rfl) ?_ | refine ldSl_of (g2.cell (i := 1) rfl rfl) ?_ | refine ldP_of (g2.cell (i := 1) rfl rfl) ?_ | refine ldB_of (g2.cell (i := 1) rfl rfl) ?_ | refine ldM_of (g2.cell (i := 1) rfl rfl) ?_ | refine ldI_of (g2.cell (i := 2) rfl rfl) ?_ | refine ldSl_of (g2.cell (i := 2) rfl rfl) ?_ | refine ldP_of (g2.cell (i := 2) rfl rfl) ?_ | refine ldB_of (g2.cell (i := 2) rfl rfl) ?_ | refine ldM_of (g2.cell (i := 2) rfl rfl) ?_)
    refine in26 ?_
    rw [decide_eq_true (show (s : Int) ≥ 0 by omega), decide_eq_true hs]
    rw [Bool.and_true]
    (try simp only [asI_mk', asB_mk, asP_mk, asA_mk, asM_mk, asSl_mk, asStr_mk, tup2_mk, tup3_mk, agg1_mk, agg2_mk, agg3_mk, agg4_mk, asAggm, unCons_mk, unNil_mk, asTup_mk, extractD0, extractD1, List.toList_toArray, nilP_mk, add_mk, Nat.zero_add, Nat.add_zero, condT, condF, Bool.not_true, Bool.not_false, Option.isNone_some, Option.isNone_none])
    (repeat first | refine ldI_of (g2.cell (i := 0) rfl rfl) ?_ | refine ldSl_of (g2.cell (i := 0) rfl rfl) ?_ | refine ldP_of (g2.cell (i := 0) rfl rfl) ?_ | refine ldB_of (g2.cell (i := 0) rfl rfl) ?_ | refine ldM_of (g2.cell (i := 0) rfl rfl) ?_ | refine ldI_of (g2.cell (i := 1) rfl rfl) ?_ | refine ldSl_of (g2.cell (i := 1) rfl rfl) ?_ | refine ldP_of (g2.cell (i := 1) rfl rfl) ?_ | refine ldB_of (g2.cell (i := 1) rfl rfl) ?_ | refine ldM_of (g2.cell (i := 1) rfl rfl) ?_ | refine ldI_of (g2.cell (i := 2) rfl rfl) ?_ | refine ldSl_of (g2.cell (i := 2) rfl rfl) ?_ | refine ldP_of (g2.cell (i := 2) rfl rfl) ?_ | refine ldB_of (g2.cell (i := 2) rfl rfl) ?_ | refine ldM_of (g2.cell (i := 2) rfl rfl) ?_)
    have hv' : IntKind.i64.wrap (n - 1) = (v : Int) := by rw [wrap_i64 (by omega) (by omega)]; exact hv
    rw [hv']
    obtain ⟨rd2, rd3⟩ := nodeRd (i := 8) g2 rfl hvl
    have rd3 := rd3 0 hml
    refine slRd (g := fun t : SlT × List (SlT × List Id) => t.1) (d := noN) (g2.row_rd (i := 7) rfl) rfl hvl ?_
    have e1 : m.sl.getD v noN = m.sl[v] := by rw [List.getD_eq_getElem?_getD, List.getElem?_eq_getElem hvl]; rfl
    rw [e1]
    (repeat first | refine ldI_of (g2.cell (i := 0) rfl rfl) ?_ | refine ldSl_of (g2.cell (i := 0) rfl rfl) ?_ | refine ldP_of (g2.cell (i := 0) rfl rfl) ?_ | refine ldB_of (g2.cell (i := 0) rfl rfl) ?_ | refine ldM_of (g2.cell (i := 0) rfl rfl) ?_ | refine ldI_of (g2.cell (i := 1) rfl rfl) ?_ | refine ldSl_of (g2.cell (i := 1) rfl rfl) ?_ | refine ldP_of (g2.cell (i := 1) rfl rfl) ?_ | refine ldB_of (g2.cell (i := 1) rfl rfl) ?_ | refine ldM_of (g2.cell (i := 1) rfl rfl) ?_ | refine ldI_of (g2.cell (i := 2) rfl rfl) ?_ | refine ldSl_of (g2.cell (i := 2) rfl rfl) ?_ | refine ldP_of (g2.cell (i := 2) rfl rfl) ?_ | refine ldB_of (g2.cell (i := 2) rfl rfl) ?_ | refine ldM_of (g2.cell (i := 2) rfl rfl) ?_)
    refine slRd (g := fun t : SlT × List Id => t.1) (d := noR) (k := 0) rd2 rfl hml ?_
    have e2 : m.sl[v].2.getD 0 noR = m.sl[v].2[0] := by rw [List.getD_eq_getElem?_getD, List.getElem?_eq_getElem hml]; rfl
    rw [e2]
    have hlen := rd3.1
    rw [cel_len wId_len] at hlen
    refine idxS wId_len noId rd3 (by omega) (by omega) (by omega) fun b' o' _ _ hcc => ?_
    rw [Int.toNat_natCast] at hcc ⊢
    have hz : slotOf m (n - 1).toNat s = m.sl[v].2[0].2.getD s noId := by
      unfold slotOf
      rw [show (n - 1).toNat = v by omega, e1, e2]
    rw [← hz] at hcc
    rw [add_mk]
    refine ldI_of (hcc 0 (by omega)) (ldI_of (hcc 1 (by omega)) ?_)
    refine g2.put (i := 0) rfl (show 0 < 2 by decide) fun H3 g3 => ?_
    refine g3.put (i := 0) rfl (show 1 < 2 by decide) fun H4 g4 => ?_
    refine ldI_of (g4.cell (i := 0) rfl rfl) (ldI_of (g4.cell (i := 0) rfl rfl) ?_)
    exact hK H4 g4.less.less
  exact bif_ne (by omega) (hQ27 _ g2)
theorem objC {n : Int} {y : Id} (hn : m.nod) (h : St H0 (mdL c x m ++ M) H) (hK : ∀ p H', St H0 (mdL c x m ++ M) H' → K (.pointer p) H') :
    hcall PR f_model_Model_object ⟨[.pointer (some ⟨x.mb, 0, none⟩), .int .i64 n, .agg #[.int .i64 y.n, .int .u64 y.s]]⟩ H K := by
  apply den_model_Model_object
  unfold B_model_Model_object
  intro b5 hb5
  have g2 := h.alloc (o := .cells #[.int .i64 y.n, .int .u64 y.s] ty_api_ID) hb5
  (repeat first | refine ldI_of (g2.cell (i := 0) rfl rfl) ?_ | refine ldSl_of (g2.cell (i := 0) rfl rfl) ?_ | refine ldP_of (g2.cell (i := 0) rfl rfl) ?_ | refine ldB_of (g2.cell (i := 0) rfl rfl) ?_ | refine ldM_of (g2.cell (i := 0) rfl rfl) ?_)
  by_cases hy : y.n = n
  rotate_left
  · exact bif_neq hy (hK none _ g2.less)
  refine bif_neqf hy ?_
  (repeat first | refine ldI_of (g2.cell (i := 0) rfl rfl) ?_ | refine ldSl_of (g2.cell (i := 0) rfl rfl) ?_ | refine ldP_of (g2.cell (i := 0) rfl rfl) ?_ | refine ldB_of (g2.cell (i := 0) rfl rfl) ?_ | refine ldM_of (g2.cell (i := 0) rfl rfl) ?_ | refine ldI_of (g2.cell (i := 1) rfl rfl) ?_ | refine ldSl_of (g2.cell (i := 1) rfl rfl) ?_ | refine ldP_of (g2.cell (i := 1) rfl rfl) ?_ | refine ldB_of (g2.cell (i := 1) rfl rfl) ?_ | refine ldM_of (g2.cell (i := 1) rfl rfl) ?_)
  refine St.look g2 (i := 2) rfl idvKey mt_all mz_thing hn.al y false ?_
  cases hl : mlook m.al y with
  | none => exact hK none _ g2.less
  | some b => exact hK _ _ g2.less
theorem celN {n : Nat} {cs : Array Value} (hs : cs.size = n * 2) (hc : ∀ i, i < n * 2 → cs[i]? = ((.agg #[.int .i64 0, .int .u64 0]) : Value).cells[i % 2]?) : cs.toList = cel wId (List.replicate n noId) := by
  apply List.ext_getElem?
  intro i
  rw [Array.getElem?_toList]
  by_cases hi : i < n * 2
  · rw [hc i hi]
    have h1 := cel_get wId_len (l := List.replicate n noId) (i := i / 2) (j := i % 2) noId (by rw [List.length_replicate]; omega) (by omega)
    rw [show i / 2 * 2 + i % 2 = i by omega] at h1
    rw [h1]
    have h2 : (List.replicate n noId).getD (i / 2) noId = noId := by
      rw [List.getD_eq_getElem?_getD, List.getElem?_replicate]
      split <;> rfl
    rw [h2]
    have : i % 2 = 0 ∨ i % 2 = 1 := by omega
    rcases this with e | e <;> rw [e] <;> rfl
  · rw [Array.getElem?_eq_none (by omega), List.getElem?_eq_none (by rw [cel_len wId_len, List.length_replicate]; omega)]
theorem mkIds {n : Nat} {Q : Value → Hp → Prop} (h : St H0 L H) (hn : n ≤ 100) (hQ : ∀ p H', St H0 (Prt.row 2 p n n (cel wId (List.replicate n noId)) :: L) H' → Q (.slice p n n) H') :
    evW PR (Instr.makeSlice ty_Sapi_ID (.int .i64 n) (.int .i64 n)) H Q := by
  refine mk_ty_Sapi_ID (by omega) (by omega) (by omega) fun b cs hb hs hc => ?_
  rw [Int.toNat_natCast] at hs hc ⊢
  refine hQ _ _ ?_
  have ho := Own.new (H := H) (b := b) (k := 2) (n := n) (c := cs) (e := 35) hs
  rw [celN hs hc] at ho
  exact h.row ho ((Goes.alloc hb).less fun c h => (blk_some.1 h).symm)
theorem mkNums {n : Nat} {Q : Value → Hp → Prop} (h : St H0 L H) (hn : n ≤ 100) (hQ : ∀ p H', St H0 (Prt.row 1 p n n (List.replicate n (.int .u64 0)) :: L) H' → Q (.slice p n n) H') :
    evW PR (Instr.makeSlice ty_Suint64 (.int .i64 n) (.int .i64 n)) H Q := by
  refine mko_ty_Suint64 (by omega) (by omega) (by omega) fun p H' ho hg => ?_
  rw [Int.toNat_natCast] at ho ⊢
  exact hQ _ _ (h.row ho hg)
theorem bornC {y : Id} {r v : Nat} (hm : m.ok c) (hd : m.nod) (hg : c.good) (hn : 1 ≤ y.n ∧ y.n ≤ c.a0) (hs : m.la.getD (y.n - 1).toNat 0 < y.s) (hs2 : y.s ≤ 72057594037927935) (hr : r < 8) (hv : v < 8) (h : St H0 (mdL c x m ++ M) H)
    (hK : ∀ tb rp vp H', St H0 (Prt.one tb (.cells #[.slice rp r r, .slice vp v v] ty_model_thing (0, 0)) :: Prt.row 1 vp v v (List.replicate v (.int .u64 0)) :: Prt.row 2 rp r r (cel wId (List.replicate r noId)) :: (mdL c x { m with al := mput m.al y tb, la := m.la.set (y.n - 1).toNat y.s } ++ M)) H' → K (.bool true) H') :
    hcall PR f_model_Model_born ⟨[.pointer (some ⟨x.mb, 0, none⟩), .int .i64 y.n, .agg #[.int .i64 y.n, .int .u64 y.s], .int .i64 r, .int .i64 v]⟩ H K := by
  apply den_model_Model_born
  unfold B_model_Model_born
  have h0 := hg.a0; have hla := hm.la
  obtain ⟨k, hk, hkl⟩ : ∃ k : Nat, y.n - 1 = k ∧ k < m.la.length := ⟨(y.n - 1).toNat, by omega, by omega⟩
  have hkn : (y.n - 1).toNat = k := by omega
  rw [hkn] at hs hK
  have hw : IntKind.i64.wrap (y.n - 1) = (k : Int) := by rw [wrap_i64 (by omega) (by omega)]; exact hk
  rw [hw]
  intro b7 hb7
  have g1 := h.alloc (o := .cells #[.int .i64 y.n, .int .u64 y.s] ty_api_ID) hb7
  have g1 : St H0 (Prt.one b7 (.cells #[.int .i64 y.n, .int .u64 y.s] ty_api_ID (0, 0)) :: (mdL c x m ++ M)) _ := g1
  (repeat first | refine ldI_of (g1.cell (i := 0) rfl rfl) ?_ | refine ldSl_of (g1.cell (i := 0) rfl rfl) ?_ | refine ldP_of (g1.cell (i := 0) rfl rfl) ?_ | refine ldB_of (g1.cell (i := 0) rfl rfl) ?_ | refine ldM_of (g1.cell (i := 0) rfl rfl) ?_)
  refine bif_neqf rfl ?_
  (repeat first | refine ldI_of (g1.cell (i := 0) rfl rfl) ?_ | refine ldSl_of (g1.cell (i := 0) rfl rfl) ?_ | refine ldP_of (g1.cell (i := 0) rfl rfl) ?_ | refine ldB_of (g1.cell (i := 0) rfl rfl) ?_ | refine ldM_of (g1.cell (i := 0) rfl rfl) ?_ | refine ldI_of (g1.cell (i := 1) rfl rfl) ?_ | refine ldSl_of (g1.cell (i := 1) rfl rfl) ?_ | refine ldP_of (g1.cell (i := 1) rfl rfl) ?_ | refine ldB_of (g1.cell (i := 1) rfl rfl) ?_ | refine ldM_of (g1.cell (i := 1) rfl rfl) ?_)
  refine idx1 (d := (0 : Int)) (g := Value.int .u64) (g1.row_rd (i := 5) rfl) (by omega) (by omega) fun b o _ hcl => ?_
  rw [Int.toNat_natCast] at hcl ⊢
  refine ldI_of hcl (bif_neg (by omega) ?_)
  (repeat first | refine ldI_of (g1.cell (i := 0) rfl rfl) ?_ | refine ldSl_of (g1.cell (i := 0) rfl rfl) ?_ | refine ldP_of (g1.cell (i := 0) rfl rfl) ?_ | refine ldB_of (g1.cell (i := 0) rfl rfl) ?_ | refine ldM_of (g1.cell (i := 0) rfl rfl) ?_)
  refine bif_neg (by omega) (in26 ?_)
  rw [decide_eq_true (show (r : Int) ≥ 0 by omega), decide_eq_true (show (r : Int) < 8 by omega)]
  rw [Bool.and_true]
  (try simp only [asI_mk', asB_mk, asP_mk, asA_mk, asM_mk, asSl_mk, asStr_mk, tup2_mk, tup3_mk, agg1_mk, agg2_mk, agg3_mk, agg4_mk, asAggm, unCons_mk, unNil_mk, asTup_mk, extractD0, extractD1, List.toList_toArray, nilP_mk, add_mk, Nat.zero_add, Nat.add_zero, condT, condF, Bool.not_true, Bool.not_false, Option.isNone_some, Option.isNone_none])
  refine in26 ?_
  rw [decide_eq_true (show (v : Int) ≥ 0 by omega), decide_eq_true (show (v : Int) < 8 by omega)]
  rw [Bool.and_true]
  (try simp only [asI_mk', asB_mk, asP_mk, asA_mk, asM_mk, asSl_mk, asStr_mk, tup2_mk, tup3_mk, agg1_mk, agg2_mk, agg3_mk, agg4_mk, asAggm, unCons_mk, unNil_mk, asTup_mk, extractD0, extractD1, List.toList_toArray, nilP_mk, add_mk, Nat.zero_add, Nat.add_zero, condT, condF, Bool.not_true, Bool.not_false, Option.isNone_some, Option.isNone_none])
  (repeat first | refine ldI_of (g1.cell (i := 0) rfl rfl) ?_ | refine ldSl_of (g1.cell (i := 0) rfl rfl) ?_ | refine ldP_of (g1.cell (i := 0) rfl rfl) ?_ | refine ldB_of (g1.cell (i := 0) rfl rfl) ?_ | refine ldM_of (g1.cell (i := 0) rfl rfl) ?_ | refine ldI_of (g1.cell (i := 1) rfl rfl) ?_ | refine ldSl_of (g1.cell (i := 1) rfl rfl) ?_ | refine ldP_of (g1.cell (i := 1) rfl rfl) ?_ | refine ldB_of (g1.cell (i := 1) rfl rfl) ?_ | refine ldM_of (g1.cell (i := 1) rfl rfl) ?_)
  refine idxA_of (g1.row_rd (i := 5) rfl) (by omega) (by omega) fun b o hpp _ => ?_
  simp only [Int.toNat_natCast]
  refine g1.poke (i := 5) (j := k * 1) rfl hpp (by omega) fun H2 g2 => ?_
  rw [Nat.mul_one, ← List.map_set] at g2
  have g2 : St H0 (Prt.one b7 (.cells #[.int .i64 y.n, .int .u64 y.s] ty_api_ID (0, 0)) :: (mdL c x { m with la := m.la.set k y.s } ++ M)) H2 := by
    have e : (m.la.set k y.s).length = m.la.length := List.length_set
    unfold mdL
    simp only [e]
    exact g2
  refine ldM_of (g2.cell (i := 1) rfl rfl) (ldI_of (g2.cell (i := 0) rfl rfl) (ldI_of (g2.cell (i := 0) rfl rfl) ⟨?_, ?_⟩))
  · refine mkIds g2 (by omega) fun rp H3 g3 => ?_
    refine ⟨ldI_of (g3.cell (i := 1) rfl rfl) (ldI_of (g3.cell (i := 1) rfl rfl) rfl), ldM_of (g3.cell (i := 2) rfl rfl) rfl, ?_⟩
    refine mkNums g3 (by omega) fun vp H4 g4 => ?_
    refine ⟨ldI_of (g4.cell (i := 2) rfl rfl) (ldI_of (g4.cell (i := 2) rfl rfl) rfl), ldM_of (g4.cell (i := 3) rfl rfl) rfl, ?_⟩
    intro b51 hb51
    have g5 := g4.alloc (o := .cells #[.slice rp r r, .slice vp v v] ty_model_thing) hb51
    refine ⟨ldI_of (g5.cell (i := 3) rfl rfl) (ldI_of (g5.cell (i := 3) rfl rfl) rfl), ldM_of (g5.cell (i := 4) rfl rfl) rfl, ?_⟩
    refine St.mupd g5 (i := 5) rfl idvKey mt_all hd.al y b51 rfl fun H6 g6 => ?_
    exact hK b51 rp vp H6 (St.less (St.pick g6 4 [3, 0, 1, 2] rfl rfl))
  · refine mkNums g2 (by omega) fun vp H3 g3 => ?_
    refine ⟨ldI_of (g3.cell (i := 1) rfl rfl) (ldI_of (g3.cell (i := 1) rfl rfl) rfl), ldM_of (g3.cell (i := 2) rfl rfl) rfl, ?_⟩
    refine mkIds g3 (by omega) fun rp H4 g4 => ?_
    refine ⟨ldI_of (g4.cell (i := 2) rfl rfl) (ldI_of (g4.cell (i := 2) rfl rfl) rfl), ldM_of (g4.cell (i := 3) rfl rfl) rfl, ?_⟩
    intro b51 hb51
    have g5 := g4.alloc (o := .cells #[.slice rp r r, .slice vp v v] ty_model_thing) hb51
    refine ⟨ldI_of (g5.cell (i := 3) rfl rfl) (ldI_of (g5.cell (i := 3) rfl rfl) rfl), ldM_of (g5.cell (i := 4) rfl rfl) rfl, ?_⟩
    refine St.mupd g5 (i := 5) rfl idvKey mt_all hd.al y b51 rfl fun H6 g6 => ?_
    exact hK b51 rp vp H6 (St.less (St.pick g6 4 [3, 0, 2, 1] rfl rfl))
/-- What a model tells of an object. -/
theorem ObjectC {y : Id} {tb r v : Nat} {rp vp : Option Addr} (hd : m.nod) (hl : mlook m.al y = some tb) (hr : r < 8) (hv : v < 8) (h : St H0 (Prt.one tb (.cells #[.slice rp r r, .slice vp v v] ty_model_thing (0, 0)) :: Prt.row 1 vp v v (List.replicate v (.int .u64 0)) :: Prt.row 2 rp r r (cel wId (List.replicate r noId)) :: (mdL c x m ++ M)) H)
    (hK : ∀ p1 c1 p2 c2 H', St H0 (Prt.one tb (.cells #[.slice rp r r, .slice vp v v] ty_model_thing (0, 0)) :: Prt.row 1 vp v v (List.replicate v (.int .u64 0)) :: Prt.row 2 rp r r (cel wId (List.replicate r noId)) :: (mdL c x m ++ M)) H' → K (.tuple #[.agg #[.int .u64 y.s, .int .i64 0, .slice p1 r c1, .slice p2 v c2, .int .i64 0], .bool true]) H') :
    hcall PR f_model_Model_Object ⟨[.pointer (some ⟨x.mb, 0, none⟩), .agg #[.int .i64 y.n, .int .u64 y.s]]⟩ H K := by
  apply den_model_Model_Object
  unfold B_model_Model_Object
  intro b4 hb4
  have g1 := h.alloc (o := .cells #[.int .i64 y.n, .int .u64 y.s] ty_api_ID) hb4
  intro b6 hb6
  have g2 := g1.alloc (o := .cells #[.int .u64 0, .int .i64 0, .slice none 0 0, .slice none 0 0, .int .i64 0] ty_api_Object) hb6
  have g2 : St H0 (Prt.one b6 (.cells #[.int .u64 0, .int .i64 0, .slice none 0 0, .slice none 0 0, .int .i64 0] ty_api_Object (0, 0)) :: Prt.one b4 (.cells #[.int .i64 y.n, .int .u64 y.s] ty_api_ID (0, 0)) :: Prt.one tb (.cells #[.slice rp r r, .slice vp v v] ty_model_thing (0, 0)) :: Prt.row 1 vp v v (List.replicate v (.int .u64 0)) :: Prt.row 2 rp r r (cel wId (List.replicate r noId)) :: (mdL c x m ++ M)) _ := g2
  clear g1
  refine ldM_of (g2.cell (i := 5) rfl rfl) (ldI_of (g2.cell (i := 1) rfl rfl) (ldI_of (g2.cell (i := 1) rfl rfl) ?_))
  refine St.look g2 (i := 6) rfl idvKey mt_all mz_thing hd.al y false ?_
  rw [hl]
  simp only [Bool.false_eq_true, if_false, Option.map_some, Option.getD_some, ptr]
  (try simp only [asI_mk', asB_mk, asP_mk, asA_mk, asM_mk, asSl_mk, asStr_mk, tup2_mk, tup3_mk, agg1_mk, agg2_mk, agg3_mk, agg4_mk, asAggm, unCons_mk, unNil_mk, asTup_mk, extractD0, extractD1, List.toList_toArray, nilP_mk, add_mk, Nat.zero_add, Nat.add_zero, condT, condF, Bool.not_true, Bool.not_false, Option.isNone_some, Option.isNone_none])
  refine ldI_of (g2.cell (i := 1) rfl rfl) (ldSl_of (g2.cell (i := 2) rfl rfl) (ldSl_of (g2.cell (i := 2) rfl rfl) ?_))
  have fin : ∀ {N : List Prt} {H3 : Hp} (p1 : Option Addr) (c1 : Nat) (p2 : Option Addr) (c2 : Nat) (A B : Prt), St H0 (A :: B :: Prt.one b6 (.cells #[.int .u64 0, .int .i64 0, .slice none 0 0, .slice none 0 0, .int .i64 0] ty_api_Object (0, 0)) :: Prt.one b4 (.cells #[.int .i64 y.n, .int .u64 y.s] ty_api_ID (0, 0)) :: Prt.one tb (.cells #[.slice rp r r, .slice vp v v] ty_model_thing (0, 0)) :: Prt.row 1 vp v v (List.replicate v (.int .u64 0)) :: Prt.row 2 rp r r (cel wId (List.replicate r noId)) :: (mdL c x m ++ M)) H3 →
      (st ⟨b6, 0, none⟩ (.int .u64 y.s) H3 fun H1 => st ⟨b6, 1, none⟩ (.int .i64 0) H1 fun H2 => st ⟨b6, 2, none⟩ (.slice p1 r c1) H2 fun H3 => st ⟨b6, 3, none⟩ (.slice p2 v c2) H3 fun H4 => st ⟨b6, 4, none⟩ (.int .i64 0) H4 fun H5 =>
        ldI .u64 ⟨b6, 0, none⟩ H5 fun a => ldI .i64 ⟨b6, 1, none⟩ H5 fun b => ldSl ⟨b6, 2, none⟩ H5 fun p l q => ldSl ⟨b6, 3, none⟩ H5 fun p' l' q' => ldI .i64 ⟨b6, 4, none⟩ H5 fun e => K (.tuple #[.agg #[.int .u64 a, .int .i64 b, .slice p l q, .slice p' l' q', .int .i64 e], .bool true]) H5) := fun {N} {H3} p1 c1 p2 c2 A B g => by
    refine g.put (i := 2) rfl (show 0 < 5 by decide) fun J1 j1 => ?_
    refine j1.put (i := 2) rfl (show 1 < 5 by decide) fun J2 j2 => ?_
    refine j2.put (i := 2) rfl (show 2 < 5 by decide) fun J3 j3 => ?_
    refine j3.put (i := 2) rfl (show 3 < 5 by decide) fun J4 j4 => ?_
    refine j4.put (i := 2) rfl (show 4 < 5 by decide) fun J5 j5 => ?_
    refine ldI_of (j5.cell (i := 2) rfl rfl) (ldI_of (j5.cell (i := 2) rfl rfl) (ldSl_of (j5.cell (i := 2) rfl rfl) (ldSl_of (j5.cell (i := 2) rfl rfl) (ldI_of (j5.cell (i := 2) rfl rfl) ?_))))
    exact hK p1 c1 p2 c2 J5 (St.lesses (M := [_, _, _, _]) j5)
  have one0 : ∀ z ∈ List.replicate v (Value.int .u64 0), Go.Proofs.Ytknejebggegfjaa.one z = true := fun z hz => by rw [(List.mem_replicate.1 hz).2]; rfl
  refine ⟨fun b37 hb37 => ?_, fun b119 hb119 => ?_⟩
  · have g3 := g2.alloc (o := .cells #[] ty_api_ID) hb37
    refine ⟨ldSl_of (g3.cell (i := 3) rfl rfl) rfl, ldSl_of (g3.cell (i := 3) rfl rfl) rfl, ldI_of (g3.cell (i := 2) rfl rfl) rfl, ?_, fun b81 hb81 => ?_⟩
    · refine g3.copyAll (i := 0) rfl tu_ty_Sapi_ID tu_ty_Sapi_ID ti_ty_api_ID rfl (by decide) (by decide) (g3.row_rd (i := 5) rfl) id_one (by omega) fun p1 c1 H4 g4 => ?_
      (try simp only [asI_mk', asB_mk, asP_mk, asA_mk, asM_mk, asSl_mk, asStr_mk, tup2_mk, tup3_mk, agg1_mk, agg2_mk, agg3_mk, agg4_mk, asAggm, unCons_mk, unNil_mk, asTup_mk, extractD0, extractD1, List.toList_toArray, nilP_mk, add_mk, Nat.zero_add, Nat.add_zero, condT, condF, Bool.not_true, Bool.not_false, Option.isNone_some, Option.isNone_none])
      refine ⟨ldSl_of (g4.cell (i := 3) rfl rfl) rfl, ldI_of (g4.cell (i := 2) rfl rfl) rfl, ?_⟩
      intro b55 hb55
      have g5 := St.alloc (o := .cells #[] ty_uint64) g4 hb55
      refine ⟨ldSl_of (g5.cell (i := 4) rfl rfl) rfl, ldI_of (g5.cell (i := 3) rfl rfl) rfl, ?_⟩
      refine g5.copyAll (i := 0) rfl tu_ty_Suint64 tu_ty_Suint64 ti_ty_uint64 rfl (by decide) (by decide) (g5.row_rd (i := 5) rfl) one0 (by omega) fun p2 c2 H6 g6 => ?_
      (try simp only [asI_mk', asB_mk, asP_mk, asA_mk, asM_mk, asSl_mk, asStr_mk, tup2_mk, tup3_mk, agg1_mk, agg2_mk, agg3_mk, agg4_mk, asAggm, unCons_mk, unNil_mk, asTup_mk, extractD0, extractD1, List.toList_toArray, nilP_mk, add_mk, Nat.zero_add, Nat.add_zero, condT, condF, Bool.not_true, Bool.not_false, Option.isNone_some, Option.isNone_none])
      refine ⟨ldI_of (g6.cell (i := 3) rfl rfl) rfl, ?_⟩
      exact fin (N := []) p1 c1 p2 c2 _ _ g6
    · have g4 := g3.alloc (o := .cells #[] ty_uint64) hb81
      refine ⟨ldSl_of (g4.cell (i := 4) rfl rfl) rfl, ldSl_of (g4.cell (i := 4) rfl rfl) rfl, ldI_of (g4.cell (i := 3) rfl rfl) rfl, ?_⟩
      refine g4.copyAll (i := 1) rfl tu_ty_Sapi_ID tu_ty_Sapi_ID ti_ty_api_ID rfl (by decide) (by decide) (g4.row_rd (i := 6) rfl) id_one (by omega) fun p1 c1 H5 g5 => ?_
      (try simp only [asI_mk', asB_mk, asP_mk, asA_mk, asM_mk, asSl_mk, asStr_mk, tup2_mk, tup3_mk, agg1_mk, agg2_mk, agg3_mk, agg4_mk, asAggm, unCons_mk, unNil_mk, asTup_mk, extractD0, extractD1, List.toList_toArray, nilP_mk, add_mk, Nat.zero_add, Nat.add_zero, condT, condF, Bool.not_true, Bool.not_false, Option.isNone_some, Option.isNone_none])
      refine ⟨ldSl_of (g5.cell (i := 4) rfl rfl) rfl, ldI_of (g5.cell (i := 3) rfl rfl) rfl, ?_⟩
      refine St.copyAll g5 (i := 0) rfl tu_ty_Suint64 tu_ty_Suint64 ti_ty_uint64 rfl (by decide) (by decide) (g5.row_rd (i := 5) rfl) one0 (by omega) fun p2 c2 H6 g6 => ?_
      (try simp only [asI_mk', asB_mk, asP_mk, asA_mk, asM_mk, asSl_mk, asStr_mk, tup2_mk, tup3_mk, agg1_mk, agg2_mk, agg3_mk, agg4_mk, asAggm, unCons_mk, unNil_mk, asTup_mk, extractD0, extractD1, List.toList_toArray, nilP_mk, add_mk, Nat.zero_add, Nat.add_zero, condT, condF, Bool.not_true, Bool.not_false, Option.isNone_some, Option.isNone_none])
      refine ⟨ldI_of (g6.cell (i := 3) rfl rfl) rfl, ?_⟩
      exact fin (N := []) p1 c1 p2 c2 _ _ g6
  · have g3 := g2.alloc (o := .cells #[] ty_uint64) hb119
    refine ⟨ldSl_of (g3.cell (i := 3) rfl rfl) rfl, ldSl_of (g3.cell (i := 3) rfl rfl) rfl, ldI_of (g3.cell (i := 2) rfl rfl) rfl, ?_⟩
    intro b128 hb128
    have g4 := g3.alloc (o := .cells #[] ty_api_ID) hb128
    refine ⟨ldSl_of (g4.cell (i := 4) rfl rfl) rfl, ldSl_of (g4.cell (i := 4) rfl rfl) rfl, ldI_of (g4.cell (i := 3) rfl rfl) rfl, ?_⟩
    refine g4.copyAll (i := 0) rfl tu_ty_Sapi_ID tu_ty_Sapi_ID ti_ty_api_ID rfl (by decide) (by decide) (g4.row_rd (i := 6) rfl) id_one (by omega) fun p1 c1 H5 g5 => ?_
    (try simp only [asI_mk', asB_mk, asP_mk, asA_mk, asM_mk, asSl_mk, asStr_mk, tup2_mk, tup3_mk, agg1_mk, agg2_mk, agg3_mk, agg4_mk, asAggm, unCons_mk, unNil_mk, asTup_mk, extractD0, extractD1, List.toList_toArray, nilP_mk, add_mk, Nat.zero_add, Nat.add_zero, condT, condF, Bool.not_true, Bool.not_false, Option.isNone_some, Option.isNone_none])
    refine ⟨ldSl_of (g5.cell (i := 4) rfl rfl) rfl, ldI_of (g5.cell (i := 3) rfl rfl) rfl, ?_⟩
    refine St.copyAll g5 (i := 1) rfl tu_ty_Suint64 tu_ty_Suint64 ti_ty_uint64 rfl (by decide) (by decide) (g5.row_rd (i := 5) rfl) one0 (by omega) fun p2 c2 H6 g6 => ?_
    (try simp only [asI_mk', asB_mk, asP_mk, asA_mk, asM_mk, asSl_mk, asStr_mk, tup2_mk, tup3_mk, agg1_mk, agg2_mk, agg3_mk, agg4_mk, asAggm, unCons_mk, unNil_mk, asTup_mk, extractD0, extractD1, List.toList_toArray, nilP_mk, add_mk, Nat.zero_add, Nat.add_zero, condT, condF, Bool.not_true, Bool.not_false, Option.isNone_some, Option.isNone_none])
    refine ⟨ldI_of (g6.cell (i := 3) rfl rfl) rfl, ?_⟩
    exact fin (N := []) p1 c1 p2 c2 _ _ g6
end
end Go.Proofs.Ytknejebggegfjaa

namespace Go.Proofs.Ytknejebggegfjaa
set_option linter.unusedSimpArgs false
set_option linter.unusedVariables false
set_option maxRecDepth 20000
open Go
/-- Nothing was done. -/
structure Md.fresh (c : Cf) (m : Md) : Prop where
  al : m.al = []
  ca : m.ca = []
  nu : m.nu = []
  la : m.la = List.replicate m.sl.length c.a21
  mu : ∀ t ∈ m.sl, (t.2.length : Int) = c.a1 ∧ ∀ r ∈ t.2, r.2 = List.replicate c.a2.toNat noId
theorem Md.fresh.ok {c : Cf} {m : Md} (h : m.fresh c) (hg : c.good) (hn : (m.sl.length : Int) = c.a0) : m.ok c := by
  have h2 := hg.a2
  refine ⟨?_, hn, fun t ht => (h.mu t ht).1, fun t ht r hr => ?_⟩
  · rw [h.la, List.length_replicate]; exact hn
  · rw [(h.mu t ht).2 r hr, List.length_replicate]; omega
theorem Md.fresh.nod {c : Cf} {m : Md} (h : m.fresh c) : m.nod := ⟨by rw [h.al]; exact List.nodup_nil, by rw [h.ca]; exact List.nodup_nil, by rw [h.nu]; exact List.nodup_nil⟩
section
variable {H0 H : Hp} {L M N A : List Prt} {i : Nat} {K : Value → Hp → Prop} {c : Cf} {x : MdX} {m : Md}
theorem St.swapL (h : St H0 (N ++ (A ++ M)) H) : St H0 (A ++ (N ++ M)) H := h.perm (by
  rw [← List.append_assoc, ← List.append_assoc]
  exact List.perm_append_comm.append_right M)
theorem mkIdsT {t : Int} {n : Nat} {Q : Value → Hp → Prop} (ht : t = n) (h : St H0 L H) (hn : n ≤ 100) (hQ : ∀ p H', St H0 (Prt.row 2 p n n (cel wId (List.replicate n noId)) :: L) H' → Q (.slice p n n) H') :
    evW PR (Instr.makeSlice ty_Sapi_ID (.int .i64 t) (.int .i64 t)) H Q := by
  subst ht
  exact mkIds h hn hQ
theorem mNewC (hg : c.good) (h : St H0 M H) (hK : ∀ x m H', m.fresh c → (m.sl.length : Int) = c.a0 → St H0 (mdL c x m ++ M) H' → K (.tuple #[.pointer (some ⟨x.mb, 0, none⟩), .int .i64 0]) H') : hcall PR f_model_New ⟨[c.val]⟩ H K := by
  apply den_model_New
  unfold B_model_New
  have h0 := hg.a0; have h1 := hg.a1; have h2 := hg.a2
  intro b23 hb23
  have g1 := h.alloc (o := .cells #[.int .i64 c.a0, .int .i64 c.a1, .int .i64 c.a2, .int .i64 c.a3, .int .i64 c.a4, .int .i64 c.a5, .int .i64 c.a6, .int .i64 c.a7, .int .i64 c.a8, .int .i64 c.a9, .int .i64 c.a10, .int .u64 c.a11, .int .u64 c.a12, .int .u64 c.a13, .int .u64 c.a14, .int .u64 c.a15, .int .u64 c.a16, .int .i64 c.a17, .int .i64 c.a18, .int .i64 c.a19, .int .u64 c.a20, .int .u64 c.a21] ty_api_Config) hb23
  (repeat first | refine ldI_of (g1.cell (i := 0) rfl rfl) ?_ | refine ldSl_of (g1.cell (i := 0) rfl rfl) ?_ | refine ldP_of (g1.cell (i := 0) rfl rfl) ?_ | refine ldB_of (g1.cell (i := 0) rfl rfl) ?_ | refine ldM_of (g1.cell (i := 0) rfl rfl) ?_)
  refine mayC hg g1 fun H2 g2 => ?_
  (try simp only [asI_mk', asB_mk, asP_mk, asA_mk, asM_mk, asSl_mk, asStr_mk, tup2_mk, tup3_mk, agg1_mk, agg2_mk, agg3_mk, agg4_mk, asAggm, unCons_mk, unNil_mk, asTup_mk, extractD0, extractD1, List.toList_toArray, nilP_mk, add_mk, Nat.zero_add, Nat.add_zero, condT, condF, Bool.not_true, Bool.not_false, Option.isNone_some, Option.isNone_none])
  (repeat first | refine ldI_of (g2.cell (i := 0) rfl rfl) ?_ | refine ldSl_of (g2.cell (i := 0) rfl rfl) ?_ | refine ldP_of (g2.cell (i := 0) rfl rfl) ?_ | refine ldB_of (g2.cell (i := 0) rfl rfl) ?_ | refine ldM_of (g2.cell (i := 0) rfl rfl) ?_)
  intro b72 hb72
  have g3 := g2.mpNew hb72
  intro b74 hb74
  have g4 := g3.mpNew hb74
  intro b76 hb76
  have g5 := g4.mpNew hb76
  intro b78 hb78
  have g6 := g5.alloc (o := .cells #[.int .i64 c.a0, .int .i64 c.a1, .int .i64 c.a2, .int .i64 c.a3, .int .i64 c.a4, .int .i64 c.a5, .int .i64 c.a6, .int .i64 c.a7, .int .i64 c.a8, .int .i64 c.a9, .int .i64 c.a10, .int .u64 c.a11, .int .u64 c.a12, .int .u64 c.a13, .int .u64 c.a14, .int .u64 c.a15, .int .u64 c.a16, .int .i64 c.a17, .int .i64 c.a18, .int .i64 c.a19, .int .u64 c.a20, .int .u64 c.a21, .map (some b72), .slice none 0 0, .map (some b74), .map (some b76), .slice none 0 0] ty_model_Model) hb78
  have g7 := g6.row (H' := _) (Own.nil 1) ((Goes.refl Nothing _).less fun c hc => absurd hc blk_none)
  have g8 := g7.row (H' := _) (Own.nil 1) ((Goes.refl Nothing _).less fun c hc => absurd hc blk_none)
  have g9 := St.gather (M := []) g8
  have g10 : St H0 (mdL c ⟨b78, b72, b74, b76, none, 0, none, 0⟩ ⟨[], [], [], [], []⟩ ++ (Prt.one b23 (.cells #[.int .i64 c.a0, .int .i64 c.a1, .int .i64 c.a2, .int .i64 c.a3, .int .i64 c.a4, .int .i64 c.a5, .int .i64 c.a6, .int .i64 c.a7, .int .i64 c.a8, .int .i64 c.a9, .int .i64 c.a10, .int .u64 c.a11, .int .u64 c.a12, .int .u64 c.a13, .int .u64 c.a14, .int .u64 c.a15, .int .u64 c.a16, .int .i64 c.a17, .int .i64 c.a18, .int .i64 c.a19, .int .u64 c.a20, .int .u64 c.a21] ty_api_Config (0, 0)) :: M)) _ := St.pick g9 7 [3, 6, 5, 4, 1, 2, 0] rfl rfl
  obtain ⟨cfg, hcfg⟩ : ∃ cfg : Prt, cfg = Prt.one b23 (.cells #[.int .i64 c.a0, .int .i64 c.a1, .int .i64 c.a2, .int .i64 c.a3, .int .i64 c.a4, .int .i64 c.a5, .int .i64 c.a6, .int .i64 c.a7, .int .i64 c.a8, .int .i64 c.a9, .int .i64 c.a10, .int .u64 c.a11, .int .u64 c.a12, .int .u64 c.a13, .int .u64 c.a14, .int .u64 c.a15, .int .u64 c.a16, .int .i64 c.a17, .int .i64 c.a18, .int .i64 c.a19, .int .u64 c.a20, .int .u64 c.a21] ty_api_Config (0, 0)) := ⟨_, rfl⟩
  rw [← hcfg] at g10
  refine ⟨fun q H' => ∃ (x : MdX) (m : Md), q = m.sl.length ∧ (m.sl.length : Int) ≤ c.a0 ∧ x.mb = b78 ∧ m.fresh c ∧ St H0 (mdL c x m ++ (cfg :: M)) H', fun q _ => (c.a0 - q).toNat, ⟨⟨b78, b72, b74, b76, none, 0, none, 0⟩, ⟨[], [], [], [], []⟩, rfl, by simp only [List.length_nil]; omega, rfl, ⟨rfl, rfl, rfl, rfl, fun t ht => by cases ht⟩, g10⟩, ?_⟩
  clear g1 g2 g3 g4 g5 g6 g7 g8 g9 g10 h
  rintro q H3 ⟨x, m, rfl, hm, rfl, hf, g1⟩
  subst hcfg
  refine ldI_of (g1.cell (i := 7) rfl rfl) ?_
  by_cases hc : (m.sl.length : Int) < c.a0
  rotate_left
  · exact bif_neg hc (hK x m H3 hf (by omega) (St.midless g1))
  refine bif_pos hc ?_
  have g2 := (St.gather (M := []) g1).row (H' := _) (Own.nil 1) ((Goes.refl Nothing _).less fun c hc => absurd hc blk_none)
  obtain ⟨cfg, hcfg⟩ : ∃ cfg : Prt, cfg = Prt.one b23 (.cells #[.int .i64 c.a0, .int .i64 c.a1, .int .i64 c.a2, .int .i64 c.a3, .int .i64 c.a4, .int .i64 c.a5, .int .i64 c.a6, .int .i64 c.a7, .int .i64 c.a8, .int .i64 c.a9, .int .i64 c.a10, .int .u64 c.a11, .int .u64 c.a12, .int .u64 c.a13, .int .u64 c.a14, .int .u64 c.a15, .int .u64 c.a16, .int .i64 c.a17, .int .i64 c.a18, .int .i64 c.a19, .int .u64 c.a20, .int .u64 c.a21] ty_api_Config (0, 0)) := ⟨_, rfl⟩
  rw [← hcfg] at g2
  refine ⟨fun p n cap q H' => ∃ inn : List (SlT × List Id), q = n ∧ n = inn.length ∧ (n : Int) ≤ c.a1 ∧ (∀ r ∈ inn, r.2 = List.replicate c.a2.toNat noId) ∧ St H0 (Prt.row 1 p n cap (inn.map fun r => slW r.1) :: Prt.list (inn.map rowP) :: (mdL c x m ++ (cfg :: M))) H', fun _ _ _ q _ => (c.a1 - q).toNat, ⟨[], rfl, rfl, by omega, fun r hr => (by cases hr), g2⟩, ?_⟩
  clear g1 g2
  subst hcfg
  rintro p n cap q H4 ⟨inn, rfl, hn, hna, hro, g1⟩
  refine ldI_of (g1.cell (i := 9) rfl rfl) ?_
  by_cases hc2 : (n : Int) < c.a1
  · refine bif_pos hc2 (ldI_of (g1.cell (i := 9) rfl rfl) ?_)
    refine mkIdsT (n := c.a2.toNat) (by omega) g1 (by omega) fun rp H5 g2 => ?_
    (try simp only [asI_mk', asB_mk, asP_mk, asA_mk, asM_mk, asSl_mk, asStr_mk, tup2_mk, tup3_mk, agg1_mk, agg2_mk, agg3_mk, agg4_mk, asAggm, unCons_mk, unNil_mk, asTup_mk, extractD0, extractD1, List.toList_toArray, nilP_mk, add_mk, Nat.zero_add, Nat.add_zero, condT, condF, Bool.not_true, Bool.not_false, Option.isNone_some, Option.isNone_none])
    intro b99 hb99
    have g3 := St.alloc (o := .cells #[.slice rp c.a2.toNat c.a2.toNat] ty_Sapi_ID) g2 hb99
    refine g3.app (i := 2) rfl tu_ty_SSapi_ID tu_ty_SSapi_ID ti_ty_Sapi_ID rfl (by decide) (g3.one_rd (i := 0) (n := 1) rfl rfl) (fun z hz => by simp at hz; rw [hz]; rfl) (by omega) fun p' cap' H6 g4 => ?_
    (try simp only [asI_mk', asB_mk, asP_mk, asA_mk, asM_mk, asSl_mk, asStr_mk, tup2_mk, tup3_mk, agg1_mk, agg2_mk, agg3_mk, agg4_mk, asAggm, unCons_mk, unNil_mk, asTup_mk, extractD0, extractD1, List.toList_toArray, nilP_mk, add_mk, Nat.zero_add, Nat.add_zero, condT, condF, Bool.not_true, Bool.not_false, Option.isNone_some, Option.isNone_none])
    have g5 := St.push (i := 1) (St.less g4) rfl
    rw [wrap_i64 (by omega) (by omega)]
    refine ⟨⟨inn ++ [((rp, c.a2.toNat, c.a2.toNat), List.replicate c.a2.toNat noId)], by omega, by simp [hn], by omega, fun r hr => ?_, ?_⟩, by (try dsimp only); omega⟩
    · rcases List.mem_append.1 hr with hr | hr
      · exact hro r hr
      · simp at hr; rw [hr]
    · rw [List.map_append, List.map_append]
      exact g5
  · refine bif_neg hc2 (ldSl_of (g1.cell (i := 2) rfl rfl) ?_)
    obtain ⟨cfg, hcfg⟩ : ∃ cfg : Prt, cfg = Prt.one b23 (.cells #[.int .i64 c.a0, .int .i64 c.a1, .int .i64 c.a2, .int .i64 c.a3, .int .i64 c.a4, .int .i64 c.a5, .int .i64 c.a6, .int .i64 c.a7, .int .i64 c.a8, .int .i64 c.a9, .int .i64 c.a10, .int .u64 c.a11, .int .u64 c.a12, .int .u64 c.a13, .int .u64 c.a14, .int .u64 c.a15, .int .u64 c.a16, .int .i64 c.a17, .int .i64 c.a18, .int .i64 c.a19, .int .u64 c.a20, .int .u64 c.a21] ty_api_Config (0, 0)) := ⟨_, rfl⟩
    have hlal : m.la.length = m.sl.length := by rw [hf.la, List.length_replicate]
    intro b109 hb109
    have g2 := g1.alloc (o := .cells #[.slice p n cap] ty_SSapi_ID) hb109
    refine g2.app (i := 8) rfl tu_ty_SSSapi_ID tu_ty_SSSapi_ID ti_ty_SSapi_ID rfl (by decide) (g2.one_rd (i := 0) (n := 1) rfl rfl) (fun z hz => by simp at hz; rw [hz]; rfl) (by omega) fun sp' sc' H6 g3 => ?_
    (try simp only [asI_mk', asB_mk, asP_mk, asA_mk, asM_mk, asSl_mk, asStr_mk, tup2_mk, tup3_mk, agg1_mk, agg2_mk, agg3_mk, agg4_mk, asAggm, unCons_mk, unNil_mk, asTup_mk, extractD0, extractD1, List.toList_toArray, nilP_mk, add_mk, Nat.zero_add, Nat.add_zero, condT, condF, Bool.not_true, Bool.not_false, Option.isNone_some, Option.isNone_none])
    refine g3.put (i := 3) rfl (show 23 < 27 by decide) fun H7 g4 => ?_
    have g4 := St.less g4
    refine ldSl_of (g4.cell (i := 2) rfl rfl) (ldI_of (g4.cell (i := 9) rfl rfl) ?_)
    intro b121 hb121
    have g5 := St.alloc (o := .cells #[.int .u64 c.a21] ty_uint64) g4 hb121
    refine ⟨ldSl_of (g5.cell (i := 3) rfl rfl) rfl, ?_⟩
    refine g5.app (i := 7) rfl tu_ty_Suint64 tu_ty_Suint64 ti_ty_uint64 rfl (by decide) (g5.one_rd (i := 0) (n := 1) rfl rfl) (fun z hz => by simp at hz; rw [hz]; rfl) (by omega) fun lp' lc' H8 g6 => ?_
    (try simp only [asI_mk', asB_mk, asP_mk, asA_mk, asM_mk, asSl_mk, asStr_mk, tup2_mk, tup3_mk, agg1_mk, agg2_mk, agg3_mk, agg4_mk, asAggm, unCons_mk, unNil_mk, asTup_mk, extractD0, extractD1, List.toList_toArray, nilP_mk, add_mk, Nat.zero_add, Nat.add_zero, condT, condF, Bool.not_true, Bool.not_false, Option.isNone_some, Option.isNone_none])
    refine g6.put (i := 3) rfl (show 26 < 27 by decide) fun H9 g7 => ?_
    have g8 := St.gather (M := [_, _]) (St.less g7)
    have g9 := St.push (i := 6) g8 rfl
    rw [wrap_i64 (by omega) (by omega)]
    refine ⟨⟨{ x with sp := sp', sc := sc', lp := lp', lc := lc' }, { m with sl := m.sl ++ [((p, n, cap), inn)], la := m.la ++ [c.a21] }, by simp, by simp; omega, rfl, ⟨hf.al, hf.ca, hf.nu, ?_, fun t ht => ?_⟩, ?_⟩, by (try dsimp only); omega⟩
    · show m.la ++ [c.a21] = List.replicate (m.sl ++ [((p, n, cap), inn)]).length c.a21
      rw [List.length_append, List.length_singleton, List.replicate_succ', ← hf.la]
    · rcases List.mem_append.1 ht with ht | ht
      · exact hf.mu t ht
      · simp at ht
        rw [ht]
        exact ⟨by show (inn.length : Int) = c.a1; omega, hro⟩
    · unfold mdL
      simp only [List.length_append, List.length_singleton, List.map_append]
      exact g9
end
end Go.Proofs.Ytknejebggegfjaa

namespace Go.Proofs.Ytknejebggegfjaa
set_option linter.unusedSimpArgs false
set_option linter.unusedVariables false
set_option maxRecDepth 20000
open Go
theorem agg2I {a b : Value} {K : Value → Value → Prop} (h : K a b) : agg2 (.agg #[a, b]) K := h
theorem tup2J {a b : Value} {K : Value → Value → Prop} (h : K a b) : tup2 (.tuple #[a, b]) K := h
theorem asBI {b : Bool} {K : Bool → Prop} (h : K b) : asB (.bool b) K := h
theorem asPI {p : Option Addr} {K : Option Addr → Prop} (h : K p) : asP (.pointer p) K := h
theorem bifT {A B : Prop} (a : A) : cond true A B := a
theorem bif_of {b : Bool} {A B : Prop} (h : b = true) (a : A) : cond b A B := by rw [h]; exact a
theorem bif_off {b : Bool} {A B : Prop} (h : b = false) (a : B) : cond b A B := by rw [h]; exact a
/-- The first slot of a node's first mutator. -/
def setSl (l : SlN) (v : Nat) (z : Id) : SlN := l.set v ((l.getD v noN).1, (l.getD v noN).2.set 0 (((l.getD v noN).2.getD 0 noR).1, ((l.getD v noN).2.getD 0 noR).2.set 0 z))
theorem setSl_len {l : SlN} {v : Nat} {z : Id} : (setSl l v z).length = l.length := by simp [setSl]
theorem setSl_tops {l : SlN} {v : Nat} {z : Id} : (setSl l v z).map (fun t => slW t.1) = l.map (fun t => slW t.1) := by
  unfold setSl
  apply List.ext_getElem?
  intro i
  rw [List.map_set, List.getElem?_set, List.getElem?_map]
  split
  next h =>
    subst h
    split
    next h2 =>
      rw [List.length_map] at h2
      rw [List.getElem?_eq_getElem h2, List.getD_eq_getElem?_getD, List.getElem?_eq_getElem h2]
      rfl
    next h2 =>
      rw [List.length_map] at h2
      rw [List.getElem?_eq_none (by omega)]
      rfl
  · rfl
section
variable {H0 H : Hp} {L M N A : List Prt} {i : Nat} {K : Value → Hp → Prop} {c : Cf} {x : MdX} {m : Md}
theorem does1C {b27 b29 b42 mb i27 i29 i42 i0 isp ino v : Nat} {c27 c29 c42 c0 : Array Value} {t27 t29 t42 t0 : TypeId} {n : Int} {z : Id} {sp : Option Addr} {sn sc : Nat} {sl : SlN} (h : St H0 L H)
    (h27 : L[i27]? = some (Prt.one b27 (.cells c27 t27 (0, 0)))) (h29 : L[i29]? = some (Prt.one b29 (.cells c29 t29 (0, 0)))) (h42 : L[i42]? = some (Prt.one b42 (.cells c42 t42 (0, 0)))) (h0 : L[i0]? = some (Prt.one mb (.cells c0 t0 (0, 0)))) (hsp : L[isp]? = some (Prt.row 1 sp sn sc (sl.map fun t => slW t.1))) (hno : L[ino]? = some (Prt.list (sl.map nodeP)))
    (e27 : (c27[0]?, c29[1]?, c29[2]?, c42[1]?) = (some (.pointer (some ⟨mb, 0, none⟩)), some (.int .i64 n), some (.int .i64 0), some (.int .i64 0))) (e0 : c0[23]? = some (.slice sp sn sc)) (hn : n = (v : Int) + 1 ∧ n < 100) (hv : v < sl.length) (hmu : ∀ t ∈ sl, 0 < t.2.length) (hro : ∀ t ∈ sl, ∀ r ∈ t.2, 0 < r.2.length)
    (hK : ∀ H', St H0 (L.set ino (Prt.list ((setSl sl v z).map nodeP))) H' → K (.bool true) H') :
    hcall PR f_model_Model_does_1 ⟨[.agg #[.int .i64 z.n, .int .u64 z.s], .pointer (some ⟨b27, 0, none⟩), .pointer (some ⟨b29, 0, none⟩), .pointer (some ⟨b42, 0, none⟩)]⟩ H K := by
  apply den_model_Model_does_1
  unfold B_model_Model_does_1
  simp only [Prod.mk.injEq] at e27
  obtain ⟨e1, e2, e3, e4⟩ := e27
  intro b6 hb6
  have g1 := h.alloc (o := .cells #[.int .i64 z.n, .int .u64 z.s] ty_api_ID) hb6
  have k27 : (Prt.one b6 (.cells #[.int .i64 z.n, .int .u64 z.s] ty_api_ID (0, 0)) :: L)[i27 + 1]? = _ := h27
  have k29 : (Prt.one b6 (.cells #[.int .i64 z.n, .int .u64 z.s] ty_api_ID (0, 0)) :: L)[i29 + 1]? = _ := h29
  have k42 : (Prt.one b6 (.cells #[.int .i64 z.n, .int .u64 z.s] ty_api_ID (0, 0)) :: L)[i42 + 1]? = _ := h42
  have k0 : (Prt.one b6 (.cells #[.int .i64 z.n, .int .u64 z.s] ty_api_ID (0, 0)) :: L)[i0 + 1]? = _ := h0
  have ksp : (Prt.one b6 (.cells #[.int .i64 z.n, .int .u64 z.s] ty_api_ID (0, 0)) :: L)[isp + 1]? = _ := hsp
  have kno : (Prt.one b6 (.cells #[.int .i64 z.n, .int .u64 z.s] ty_api_ID (0, 0)) :: L)[ino + 1]? = _ := hno
  have hmu1 := hmu sl[v] (List.getElem_mem hv)
  have hro1 := hro sl[v] (List.getElem_mem hv) sl[v].2[0] (List.getElem_mem hmu1)
  obtain ⟨rd2, rd3⟩ := nodeRd g1 kno hv
  have rd3 := rd3 0 hmu1
  have f1 : sl.getD v noN = sl[v] := by rw [List.getD_eq_getElem?_getD, List.getElem?_eq_getElem hv]; rfl
  have f2 : sl[v].2.getD 0 noR = sl[v].2[0] := by rw [List.getD_eq_getElem?_getD, List.getElem?_eq_getElem hmu1]; rfl
  refine ldP_of (g1.cell k27 e1) (ldSl_of (g1.cell k0 e0) (ldI_of (g1.cell k29 e2) ?_))
  rw [show IntKind.i64.wrap (n - 1) = (v : Int) by rw [wrap_i64 (by omega) (by omega)]; omega]
  refine slRd (g := fun t : SlT × List (SlT × List Id) => t.1) (d := noN) (g1.row_rd ksp) rfl hv ?_
  rw [f1]
  refine ldI_of (g1.cell k29 e3) ?_
  refine slRd (g := fun t : SlT × List Id => t.1) (d := noR) (k := 0) rd2 rfl hmu1 ?_
  rw [f2]
  refine ldI_of (g1.cell k42 e4) (ldI_of (g1.cell (i := 0) rfl rfl) (ldI_of (g1.cell (i := 0) rfl rfl) ?_))
  have hlen := rd3.1
  rw [cel_len wId_len] at hlen
  refine idxA_of rd3 (by omega) (by omega) fun b o hpp _ => ?_
  simp only [Int.toNat_zero, Nat.zero_mul, Nat.add_zero]
  have s1 := St.sub g1 kno (k := v) (A := nodeP sl[v]) (by rw [List.getElem?_map, List.getElem?_eq_getElem hv]; rfl)
  have s2 := St.sub s1 (i := 0) rfl (k := 1) rfl
  have s3 := St.sub s2 (i := 0) rfl (k := 0) (A := rowP sl[v].2[0]) (by rw [List.getElem?_map, List.getElem?_eq_getElem hmu1]; rfl)
  refine s3.poke (i := 0) (j := 0) rfl hpp (by omega) fun J1 j1 => ?_
  rw [add_mk]
  refine j1.poke (i := 0) (j := 1) rfl hpp (by omega) fun J2 j2 => ?_
  have e5 : ((cel wId sl[v].2[0].2).set 0 (.int .i64 z.n)).set 1 (.int .u64 z.s) = cel wId (sl[v].2[0].2.set 0 z) := by
    cases hl : sl[v].2[0].2 with
    | nil => rw [hl] at hro1; simp at hro1
    | cons a l => rfl
  rw [List.set_set, e5] at j2
  have u1 := St.unsub (A := rowP (sl[v].2[0].1, sl[v].2[0].2.set 0 z)) j2 (i := 0) rfl (k := 0) (by rw [List.getElem?_set_self (by rw [List.length_map]; exact hmu1)])
  have u2 := St.unsub u1 (i := 0) rfl (k := 1) rfl
  have u3 := St.unsub u2 (i := ino + 1) (by rw [List.getElem?_set_self]; rw [List.length_cons]; have := ltOfGet hno; omega) (k := v) (by rw [List.getElem?_set_self (by rw [List.length_map]; exact hv)])
  simp only [List.set_set] at u3
  refine hK J2 ?_
  have e6 : (sl.map nodeP).set v (Prt.list ([Prt.row 1 sl[v].1.1 sl[v].1.2.1 sl[v].1.2.2 (sl[v].2.map fun r => slW r.1), Prt.list (sl[v].2.map rowP)].set 1 (Prt.list ((sl[v].2.map rowP).set 0 (rowP (sl[v].2[0].1, sl[v].2[0].2.set 0 z)))))) = (setSl sl v z).map nodeP := by
    unfold setSl
    rw [f1, f2, List.map_set]
    congr 1
    unfold nodeP
    rw [List.map_set, List.map_set]
    have : (sl[v].2.map fun r => slW r.1).set 0 (slW (sl[v].2[0].1, sl[v].2[0].2.set 0 z).1) = sl[v].2.map fun r => slW r.1 := by
      refine List.set_self ?_
      rw [List.getElem?_map, List.getElem?_eq_getElem hmu1]
      rfl
    rw [this]
    rfl
  rw [← e6]
  exact St.less u3
theorem beginC {cb : Nat} {n r t : Int} (hg : c.good) (hd : m.nod) (ht : 1 ≤ t ∧ t ≤ c.a0) (hnt : t ≠ n) (hno : mlook m.nu (n, t) = none) (hla : 0 ≤ c.a21 ∧ c.a21 < 1000) (h : St H0 (mdL c x m ++ M) H)
    (hK : ∀ H', St H0 (mdL c x { m with nu := mput m.nu (n, t) (c.a21 + 1), ca := mput m.ca ⟨n, t, c.a21 + 1⟩ cb } ++ M) H' → K (.bool true) H') :
    hcall PR f_model_Model_begin ⟨[.pointer (some ⟨x.mb, 0, none⟩), evV 1 n 9 0 0 r t, anV 0 0 0 t (c.a21 + 1), .pointer (some ⟨cb, 0, none⟩), .int .i64 t]⟩ H K := by
  apply den_model_Model_begin
  unfold B_model_Model_begin
  have h0 := hg.a0
  intro b29 hb29
  have g1 := h.alloc (o := .cells #[.int .i64 1, .int .i64 n, .int .i64 0, .int .i64 0, .int .i64 9, .int .i64 0, .int .i64 0, .int .i64 0, .int .i64 r, .int .i64 0, .int .i64 t, .int .u64 0, .int .u64 0, .slice none 0 0, .slice none 0 0] ty_world_Event) hb29
  intro b31 hb31
  have g2 := g1.alloc (o := .cells #[.int .i64 0, .int .i64 0, .int .u64 0, .int .u64 0, .int .i64 t, .int .u64 (c.a21 + 1)] ty_node_Answer) hb31
  (repeat first | refine ldI_of (g2.cell (i := 0) rfl rfl) ?_ | refine ldSl_of (g2.cell (i := 0) rfl rfl) ?_ | refine ldP_of (g2.cell (i := 0) rfl rfl) ?_ | refine ldB_of (g2.cell (i := 0) rfl rfl) ?_ | refine ldM_of (g2.cell (i := 0) rfl rfl) ?_ | refine ldI_of (g2.cell (i := 1) rfl rfl) ?_ | refine ldSl_of (g2.cell (i := 1) rfl rfl) ?_ | refine ldP_of (g2.cell (i := 1) rfl rfl) ?_ | refine ldB_of (g2.cell (i := 1) rfl rfl) ?_ | refine ldM_of (g2.cell (i := 1) rfl rfl) ?_)
  refine boxz (c := [.int .i64 0, .int .i64 0]) (vs := [.int .i64 n, .int .i64 t]) g2 rfl fun b34 H3 g3 => ?_
  have g3 : St H0 (Prt.one b34 (.cells #[.int .i64 n, .int .i64 t] ty_2_int (0, 0)) :: Prt.one b31 (.cells #[.int .i64 0, .int .i64 0, .int .u64 0, .int .u64 0, .int .i64 t, .int .u64 (c.a21 + 1)] ty_node_Answer (0, 0)) :: Prt.one b29 (.cells #[.int .i64 1, .int .i64 n, .int .i64 0, .int .i64 0, .int .i64 9, .int .i64 0, .int .i64 0, .int .i64 0, .int .i64 r, .int .i64 0, .int .i64 t, .int .u64 0, .int .u64 0, .slice none 0 0, .slice none 0 0] ty_world_Event (0, 0)) :: (mdL c x m ++ M)) H3 := g3
  clear g1 g2 h
  refine ldM_of (g3.cell (i := 3) rfl rfl) ?_
  have rdN : ∀ {Hx : Hp} {L' : List Prt} {Q : List Value → Prop}, St H0 (Prt.one b34 (.cells #[.int .i64 n, .int .i64 t] ty_2_int (0, 0)) :: L') Hx → Q [.int .i64 n, .int .i64 t] → ldN ⟨b34, 0, none⟩ Hx 0 2 Q := fun {Hx L' Q} g hQ => ld_of (g.cell (i := 0) rfl rfl) (ld_of (g.cell (i := 0) rfl rfl) hQ)
  refine rdN g3 ?_
  refine St.look g3 (i := 6) rfl prKey mt_num mz_num hd.nu (n, t) true ?_
  rw [hno]
  simp only [if_true, Option.map_none, Option.getD_none, Option.isSome_none]
  refine tup2J (asI_mk (asBI ?_))
  intro R46 hR46
  have hQ46 : R46 c.a21 H3 := by
    refine hR46 _ H3 (bif_neg (by omega) ?_)
    clear hR46
    refine ldI_of (g3.cell (i := 3) rfl rfl) (bif_neg (by omega) ?_)
    refine ldI_of (g3.cell (i := 2) rfl rfl) (bif_ne hnt ?_)
    have ew : IntKind.u64.wrap (c.a21 + 1) = c.a21 + 1 := wrap_u64' (by omega) (by omega)
    rw [ew]
    (repeat first | refine ldI_of (g3.cell (i := 0) rfl rfl) ?_ | refine ldSl_of (g3.cell (i := 0) rfl rfl) ?_ | refine ldP_of (g3.cell (i := 0) rfl rfl) ?_ | refine ldB_of (g3.cell (i := 0) rfl rfl) ?_ | refine ldM_of (g3.cell (i := 0) rfl rfl) ?_ | refine ldI_of (g3.cell (i := 1) rfl rfl) ?_ | refine ldSl_of (g3.cell (i := 1) rfl rfl) ?_ | refine ldP_of (g3.cell (i := 1) rfl rfl) ?_ | refine ldB_of (g3.cell (i := 1) rfl rfl) ?_ | refine ldM_of (g3.cell (i := 1) rfl rfl) ?_ | refine ldI_of (g3.cell (i := 2) rfl rfl) ?_ | refine ldSl_of (g3.cell (i := 2) rfl rfl) ?_ | refine ldP_of (g3.cell (i := 2) rfl rfl) ?_ | refine ldB_of (g3.cell (i := 2) rfl rfl) ?_ | refine ldM_of (g3.cell (i := 2) rfl rfl) ?_)
    refine ansNe (asBI (bif_off (by simp) ?_))
    refine ldM_of (g3.cell (i := 3) rfl rfl) (rdN g3 ?_)
    refine St.mupd g3 (i := 6) rfl prKey mt_num hd.nu (n, t) (c.a21 + 1) rfl fun H4 g4 => ?_
    refine ldM_of (g4.cell (i := 3) rfl rfl) (ldI_of (g4.cell (i := 2) rfl rfl) ?_)
    refine St.mupd g4 (i := 5) rfl nmKey mt_call hd.ca ⟨n, t, c.a21 + 1⟩ cb rfl fun H5 g5 => ?_
    exact hK H5 (St.lesses (M := [_, _, _]) g5)
  clear hR46
  refine ldI_of (g3.cell (i := 3) rfl rfl) ?_
  exact hQ46
set_option maxHeartbeats 4000000 in
theorem doesNewC {q : Id} {rr : Nat} (hm : m.ok c) (hd : m.nod) (hg : c.good) (hn : 1 ≤ q.n ∧ q.n ≤ c.a0) (hs : m.la.getD (q.n - 1).toNat 0 < q.s) (hs2 : q.s ≤ 72057594037927935) (hrr : rr < 8) (h : St H0 (mdL c x m ++ M) H)
    (hK : ∀ tb rp vp H', St H0 (([Prt.one tb (.cells #[.slice rp rr rr, .slice vp 0 0] ty_model_thing (0, 0)), Prt.row 1 vp 0 0 (List.replicate 0 (.int .u64 0)), Prt.row 2 rp rr rr (cel wId (List.replicate rr noId))] ++ mdL c x { m with al := mput m.al q tb, la := m.la.set (q.n - 1).toNat q.s, sl := setSl m.sl (q.n - 1).toNat q }) ++ M) H' → K (.bool true) H') :
    hcall PR f_model_Model_does ⟨[.pointer (some ⟨x.mb, 0, none⟩), evV 1 q.n 1 0 0 rr 0, anV q.n q.s 0 0 0]⟩ H K := by
  apply den_model_Model_does
  unfold B_model_Model_does
  have h0 := hg.a0; have h1 := hg.a1; have h2 := hg.a2
  obtain ⟨z, hz⟩ : ∃ z, z = slotOf m (q.n - 1).toNat 0 := ⟨_, rfl⟩
  obtain ⟨w, hw⟩ : ∃ w, w = slotOf m (q.n - 1).toNat 0 := ⟨_, rfl⟩
  intro b27 hb27
  have g1 := h.alloc (o := .cells #[.pointer (some ⟨x.mb, 0, none⟩)] ty_pmodel_Model) hb27
  intro b29 hb29
  have g2 := g1.alloc (o := .cells #[.int .i64 1, .int .i64 q.n, .int .i64 0, .int .i64 0, .int .i64 1, .int .i64 0, .int .i64 0, .int .i64 0, .int .i64 (rr : Int), .int .i64 0, .int .i64 0, .int .u64 0, .int .u64 0, .slice none 0 0, .slice none 0 0] ty_world_Event) hb29
  intro b31 hb31
  have g3 := g2.alloc (o := .cells #[.int .i64 0, .int .i64 q.n, .int .u64 q.s, .int .u64 0, .int .i64 0, .int .u64 0] ty_node_Answer) hb31
  have g3 : St H0 (Prt.one b31 (.cells #[.int .i64 0, .int .i64 q.n, .int .u64 q.s, .int .u64 0, .int .i64 0, .int .u64 0] ty_node_Answer (0, 0)) :: Prt.one b29 (.cells #[.int .i64 1, .int .i64 q.n, .int .i64 0, .int .i64 0, .int .i64 1, .int .i64 0, .int .i64 0, .int .i64 0, .int .i64 (rr : Int), .int .i64 0, .int .i64 0, .int .u64 0, .int .u64 0, .slice none 0 0, .slice none 0 0] ty_world_Event (0, 0)) :: Prt.one b27 (.cells #[.pointer (some ⟨x.mb, 0, none⟩)] ty_pmodel_Model (0, 0)) :: (mdL c x m ++ M)) _ := g3
  clear g1 g2 h
  (repeat first | refine ldI_of (g3.cell (i := 0) rfl rfl) ?_ | refine ldSl_of (g3.cell (i := 0) rfl rfl) ?_ | refine ldP_of (g3.cell (i := 0) rfl rfl) ?_ | refine ldB_of (g3.cell (i := 0) rfl rfl) ?_ | refine ldM_of (g3.cell (i := 0) rfl rfl) ?_ | refine ldI_of (g3.cell (i := 1) rfl rfl) ?_ | refine ldSl_of (g3.cell (i := 1) rfl rfl) ?_ | refine ldP_of (g3.cell (i := 1) rfl rfl) ?_ | refine ldB_of (g3.cell (i := 1) rfl rfl) ?_ | refine ldM_of (g3.cell (i := 1) rfl rfl) ?_ | refine ldI_of (g3.cell (i := 2) rfl rfl) ?_ | refine ldSl_of (g3.cell (i := 2) rfl rfl) ?_ | refine ldP_of (g3.cell (i := 2) rfl rfl) ?_ | refine ldB_of (g3.cell (i := 2) rfl rfl) ?_ | refine ldM_of (g3.cell (i := 2) rfl rfl) ?_)
  refine boxz (c := [.int .i64 0, .int .i64 0, .int .i64 0, .int .i64 0, .int .i64 0, .int .i64 0, .int .i64 0, .int .u64 0, .int .u64 0]) (vs := [.int .i64 1, .int .i64 0, .int .i64 0, .int .i64 0, .int .i64 (rr : Int), .int .i64 0, .int .i64 0, .int .u64 0, .int .u64 0]) g3 rfl fun b42 H4 g4 => ?_
  have g4 : St H0 ([Prt.one b42 (.cells #[.int .i64 1, .int .i64 0, .int .i64 0, .int .i64 0, .int .i64 (rr : Int), .int .i64 0, .int .i64 0, .int .u64 0, .int .u64 0] ty_node_Op (0, 0)), Prt.one b31 (.cells #[.int .i64 0, .int .i64 q.n, .int .u64 q.s, .int .u64 0, .int .i64 0, .int .u64 0] ty_node_Answer (0, 0)), Prt.one b29 (.cells #[.int .i64 1, .int .i64 q.n, .int .i64 0, .int .i64 0, .int .i64 1, .int .i64 0, .int .i64 0, .int .i64 0, .int .i64 (rr : Int), .int .i64 0, .int .i64 0, .int .u64 0, .int .u64 0, .slice none 0 0, .slice none 0 0] ty_world_Event (0, 0)), Prt.one b27 (.cells #[.pointer (some ⟨x.mb, 0, none⟩)] ty_pmodel_Model (0, 0))] ++ (mdL c x m ++ M)) H4 := g4
  clear g3
  (repeat first | refine ldI_of (g4.cell (i := 0) rfl rfl) ?_ | refine ldSl_of (g4.cell (i := 0) rfl rfl) ?_ | refine ldP_of (g4.cell (i := 0) rfl rfl) ?_ | refine ldB_of (g4.cell (i := 0) rfl rfl) ?_ | refine ldM_of (g4.cell (i := 0) rfl rfl) ?_ | refine ldI_of (g4.cell (i := 1) rfl rfl) ?_ | refine ldSl_of (g4.cell (i := 1) rfl rfl) ?_ | refine ldP_of (g4.cell (i := 1) rfl rfl) ?_ | refine ldB_of (g4.cell (i := 1) rfl rfl) ?_ | refine ldM_of (g4.cell (i := 1) rfl rfl) ?_ | refine ldI_of (g4.cell (i := 2) rfl rfl) ?_ | refine ldSl_of (g4.cell (i := 2) rfl rfl) ?_ | refine ldP_of (g4.cell (i := 2) rfl rfl) ?_ | refine ldB_of (g4.cell (i := 2) rfl rfl) ?_ | refine ldM_of (g4.cell (i := 2) rfl rfl) ?_ | refine ldI_of (g4.cell (i := 3) rfl rfl) ?_ | refine ldSl_of (g4.cell (i := 3) rfl rfl) ?_ | refine ldP_of (g4.cell (i := 3) rfl rfl) ?_ | refine ldB_of (g4.cell (i := 3) rfl rfl) ?_ | refine ldM_of (g4.cell (i := 3) rfl rfl) ?_)
  refine slotC (k := 1) (n := q.n) (k2 := 1) (a := 0) (b := 0) (r := (rr : Int)) (t := 0) (s := 0) hm hg hn (by omega) (St.swapL g4) fun H5 g5 => ?_
  rw [← hz]
  refine tup2J (agg2I (asI_mk (asI_mk (asBI ?_))))
  refine boxz (c := [.int .i64 0, .int .u64 0]) (vs := [.int .i64 z.n, .int .u64 z.s]) g5 rfl fun b83 H6 g6 => ?_
  have g6 : St H0 ([Prt.one b83 (.cells #[.int .i64 z.n, .int .u64 z.s] ty_api_ID (0, 0))] ++ (mdL c x m ++ ([Prt.one b42 (.cells #[.int .i64 1, .int .i64 0, .int .i64 0, .int .i64 0, .int .i64 (rr : Int), .int .i64 0, .int .i64 0, .int .u64 0, .int .u64 0] ty_node_Op (0, 0)), Prt.one b31 (.cells #[.int .i64 0, .int .i64 q.n, .int .u64 q.s, .int .u64 0, .int .i64 0, .int .u64 0] ty_node_Answer (0, 0)), Prt.one b29 (.cells #[.int .i64 1, .int .i64 q.n, .int .i64 0, .int .i64 0, .int .i64 1, .int .i64 0, .int .i64 0, .int .i64 0, .int .i64 (rr : Int), .int .i64 0, .int .i64 0, .int .u64 0, .int .u64 0, .slice none 0 0, .slice none 0 0] ty_world_Event (0, 0)), Prt.one b27 (.cells #[.pointer (some ⟨x.mb, 0, none⟩)] ty_pmodel_Model (0, 0))] ++ M))) H6 := g6
  clear g4 g5
  intro R87 hR87
  have hQ87 : ∀ y H', St H0 ([Prt.one y (.cells #[.int .i64 w.n, .int .u64 w.s] ty_api_ID (0, 0))] ++ (mdL c x m ++ ([Prt.one b83 (.cells #[.int .i64 z.n, .int .u64 z.s] ty_api_ID (0, 0)), Prt.one b42 (.cells #[.int .i64 1, .int .i64 0, .int .i64 0, .int .i64 0, .int .i64 (rr : Int), .int .i64 0, .int .i64 0, .int .u64 0, .int .u64 0] ty_node_Op (0, 0)), Prt.one b31 (.cells #[.int .i64 0, .int .i64 q.n, .int .u64 q.s, .int .u64 0, .int .i64 0, .int .u64 0] ty_node_Answer (0, 0)), Prt.one b29 (.cells #[.int .i64 1, .int .i64 q.n, .int .i64 0, .int .i64 0, .int .i64 1, .int .i64 0, .int .i64 0, .int .i64 0, .int .i64 (rr : Int), .int .i64 0, .int .i64 0, .int .u64 0, .int .u64 0, .slice none 0 0, .slice none 0 0] ty_world_Event (0, 0)), Prt.one b27 (.cells #[.pointer (some ⟨x.mb, 0, none⟩)] ty_pmodel_Model (0, 0))] ++ M))) H' → R87 (some ⟨y, 0, none⟩) true H' := fun y H7 g7 => by
    refine hR87 _ _ H7 ?_
    clear hR87
    refine boxz (c := [.int .i64 0, .int .u64 0]) (vs := [.int .i64 0, .int .u64 0]) g7 rfl fun b91 H8 g8 => ?_
    have g8 : St H0 ([Prt.one b91 (.cells #[.int .i64 0, .int .u64 0] ty_api_ID (0, 0)), Prt.one y (.cells #[.int .i64 w.n, .int .u64 w.s] ty_api_ID (0, 0))] ++ (mdL c x m ++ ([Prt.one b83 (.cells #[.int .i64 z.n, .int .u64 z.s] ty_api_ID (0, 0)), Prt.one b42 (.cells #[.int .i64 1, .int .i64 0, .int .i64 0, .int .i64 0, .int .i64 (rr : Int), .int .i64 0, .int .i64 0, .int .u64 0, .int .u64 0] ty_node_Op (0, 0)), Prt.one b31 (.cells #[.int .i64 0, .int .i64 q.n, .int .u64 q.s, .int .u64 0, .int .i64 0, .int .u64 0] ty_node_Answer (0, 0)), Prt.one b29 (.cells #[.int .i64 1, .int .i64 q.n, .int .i64 0, .int .i64 0, .int .i64 1, .int .i64 0, .int .i64 0, .int .i64 0, .int .i64 (rr : Int), .int .i64 0, .int .i64 0, .int .u64 0, .int .u64 0, .slice none 0 0, .slice none 0 0] ty_world_Event (0, 0)), Prt.one b27 (.cells #[.pointer (some ⟨x.mb, 0, none⟩)] ty_pmodel_Model (0, 0))] ++ M))) H8 := g8
    clear g6 g7
    (repeat first | refine ldI_of (g8.cell (i := 12) rfl rfl) ?_ | refine ldSl_of (g8.cell (i := 12) rfl rfl) ?_ | refine ldP_of (g8.cell (i := 12) rfl rfl) ?_ | refine ldB_of (g8.cell (i := 12) rfl rfl) ?_ | refine ldM_of (g8.cell (i := 12) rfl rfl) ?_ | refine ldI_of (g8.cell (i := 13) rfl rfl) ?_ | refine ldSl_of (g8.cell (i := 13) rfl rfl) ?_ | refine ldP_of (g8.cell (i := 13) rfl rfl) ?_ | refine ldB_of (g8.cell (i := 13) rfl rfl) ?_ | refine ldM_of (g8.cell (i := 13) rfl rfl) ?_ | refine ldI_of (g8.cell (i := 9) rfl rfl) ?_ | refine ldSl_of (g8.cell (i := 9) rfl rfl) ?_ | refine ldP_of (g8.cell (i := 9) rfl rfl) ?_ | refine ldB_of (g8.cell (i := 9) rfl rfl) ?_ | refine ldM_of (g8.cell (i := 9) rfl rfl) ?_ | refine ldI_of (g8.cell (i := 1) rfl rfl) ?_ | refine ldSl_of (g8.cell (i := 1) rfl rfl) ?_ | refine ldP_of (g8.cell (i := 1) rfl rfl) ?_ | refine ldB_of (g8.cell (i := 1) rfl rfl) ?_ | refine ldM_of (g8.cell (i := 1) rfl rfl) ?_ | refine ldI_of (g8.cell (i := 10) rfl rfl) ?_ | refine ldSl_of (g8.cell (i := 10) rfl rfl) ?_ | refine ldP_of (g8.cell (i := 10) rfl rfl) ?_ | refine ldB_of (g8.cell (i := 10) rfl rfl) ?_ | refine ldM_of (g8.cell (i := 10) rfl rfl) ?_ | refine ldI_of (g8.cell (i := 11) rfl rfl) ?_ | refine ldSl_of (g8.cell (i := 11) rfl rfl) ?_ | refine ldP_of (g8.cell (i := 11) rfl rfl) ?_ | refine ldB_of (g8.cell (i := 11) rfl rfl) ?_ | refine ldM_of (g8.cell (i := 11) rfl rfl) ?_)
    refine objC (y := z) hd (St.swapL g8) fun p106 H9 g9 => asPI ⟨?_, ?_, ?_, ?_⟩
    · (repeat first | refine ldI_of (g9.cell (i := 8) rfl rfl) ?_ | refine ldSl_of (g9.cell (i := 8) rfl rfl) ?_ | refine ldP_of (g9.cell (i := 8) rfl rfl) ?_ | refine ldB_of (g9.cell (i := 8) rfl rfl) ?_ | refine ldM_of (g9.cell (i := 8) rfl rfl) ?_ | refine ldI_of (g9.cell (i := 12) rfl rfl) ?_ | refine ldSl_of (g9.cell (i := 12) rfl rfl) ?_ | refine ldP_of (g9.cell (i := 12) rfl rfl) ?_ | refine ldB_of (g9.cell (i := 12) rfl rfl) ?_ | refine ldM_of (g9.cell (i := 12) rfl rfl) ?_ | refine ldI_of (g9.cell (i := 13) rfl rfl) ?_ | refine ldSl_of (g9.cell (i := 13) rfl rfl) ?_ | refine ldP_of (g9.cell (i := 13) rfl rfl) ?_ | refine ldB_of (g9.cell (i := 13) rfl rfl) ?_ | refine ldM_of (g9.cell (i := 13) rfl rfl) ?_)
      rfl
    · (repeat first | refine ldI_of (g9.cell (i := 8) rfl rfl) ?_ | refine ldSl_of (g9.cell (i := 8) rfl rfl) ?_ | refine ldP_of (g9.cell (i := 8) rfl rfl) ?_ | refine ldB_of (g9.cell (i := 8) rfl rfl) ?_ | refine ldM_of (g9.cell (i := 8) rfl rfl) ?_ | refine ldI_of (g9.cell (i := 12) rfl rfl) ?_ | refine ldSl_of (g9.cell (i := 12) rfl rfl) ?_ | refine ldP_of (g9.cell (i := 12) rfl rfl) ?_ | refine ldB_of (g9.cell (i := 12) rfl rfl) ?_ | refine ldM_of (g9.cell (i := 12) rfl rfl) ?_ | refine ldI_of (g9.cell (i := 13) rfl rfl) ?_ | refine ldSl_of (g9.cell (i := 13) rfl rfl) ?_ | refine ldP_of (g9.cell (i := 13) rfl rfl) ?_ | refine ldB_of (g9.cell (i := 13) rfl rfl) ?_ | refine ldM_of (g9.cell (i := 13) rfl rfl) ?_)
      rfl
    · (repeat first | refine ldI_of (g9.cell (i := 8) rfl rfl) ?_ | refine ldSl_of (g9.cell (i := 8) rfl rfl) ?_ | refine ldP_of (g9.cell (i := 8) rfl rfl) ?_ | refine ldB_of (g9.cell (i := 8) rfl rfl) ?_ | refine ldM_of (g9.cell (i := 8) rfl rfl) ?_ | refine ldI_of (g9.cell (i := 12) rfl rfl) ?_ | refine ldSl_of (g9.cell (i := 12) rfl rfl) ?_ | refine ldP_of (g9.cell (i := 12) rfl rfl) ?_ | refine ldB_of (g9.cell (i := 12) rfl rfl) ?_ | refine ldM_of (g9.cell (i := 12) rfl rfl) ?_ | refine ldI_of (g9.cell (i := 13) rfl rfl) ?_ | refine ldSl_of (g9.cell (i := 13) rfl rfl) ?_ | refine ldP_of (g9.cell (i := 13) rfl rfl) ?_ | refine ldB_of (g9.cell (i := 13) rfl rfl) ?_ | refine ldM_of (g9.cell (i := 13) rfl rfl) ?_)
      rfl
    refine objC (y := w) hd g9 fun p114 H10 g10 => asPI ?_
    have g10 : St H0 (mdL c x m ++ ([Prt.one b91 (.cells #[.int .i64 0, .int .u64 0] ty_api_ID (0, 0)), Prt.one y (.cells #[.int .i64 w.n, .int .u64 w.s] ty_api_ID (0, 0))] ++ ([Prt.one b83 (.cells #[.int .i64 z.n, .int .u64 z.s] ty_api_ID (0, 0)), Prt.one b42 (.cells #[.int .i64 1, .int .i64 0, .int .i64 0, .int .i64 0, .int .i64 (rr : Int), .int .i64 0, .int .i64 0, .int .u64 0, .int .u64 0] ty_node_Op (0, 0)), Prt.one b31 (.cells #[.int .i64 0, .int .i64 q.n, .int .u64 q.s, .int .u64 0, .int .i64 0, .int .u64 0] ty_node_Answer (0, 0)), Prt.one b29 (.cells #[.int .i64 1, .int .i64 q.n, .int .i64 0, .int .i64 0, .int .i64 1, .int .i64 0, .int .i64 0, .int .i64 0, .int .i64 (rr : Int), .int .i64 0, .int .i64 0, .int .u64 0, .int .u64 0, .slice none 0 0, .slice none 0 0] ty_world_Event (0, 0)), Prt.one b27 (.cells #[.pointer (some ⟨x.mb, 0, none⟩)] ty_pmodel_Model (0, 0))] ++ M))) H10 := g10
    clear g8 g9
    (repeat first | refine ldI_of (g10.cell (i := 11) rfl rfl) ?_ | refine ldSl_of (g10.cell (i := 11) rfl rfl) ?_ | refine ldP_of (g10.cell (i := 11) rfl rfl) ?_ | refine ldB_of (g10.cell (i := 11) rfl rfl) ?_ | refine ldM_of (g10.cell (i := 11) rfl rfl) ?_ | refine ldI_of (g10.cell (i := 12) rfl rfl) ?_ | refine ldSl_of (g10.cell (i := 12) rfl rfl) ?_ | refine ldP_of (g10.cell (i := 12) rfl rfl) ?_ | refine ldB_of (g10.cell (i := 12) rfl rfl) ?_ | refine ldM_of (g10.cell (i := 12) rfl rfl) ?_ | refine ldI_of (g10.cell (i := 10) rfl rfl) ?_ | refine ldSl_of (g10.cell (i := 10) rfl rfl) ?_ | refine ldP_of (g10.cell (i := 10) rfl rfl) ?_ | refine ldB_of (g10.cell (i := 10) rfl rfl) ?_ | refine ldM_of (g10.cell (i := 10) rfl rfl) ?_ | refine ldI_of (g10.cell (i := 9) rfl rfl) ?_ | refine ldSl_of (g10.cell (i := 9) rfl rfl) ?_ | refine ldP_of (g10.cell (i := 9) rfl rfl) ?_ | refine ldB_of (g10.cell (i := 9) rfl rfl) ?_ | refine ldM_of (g10.cell (i := 9) rfl rfl) ?_ | refine ldI_of (g10.cell (i := 8) rfl rfl) ?_ | refine ldSl_of (g10.cell (i := 8) rfl rfl) ?_ | refine ldP_of (g10.cell (i := 8) rfl rfl) ?_ | refine ldB_of (g10.cell (i := 8) rfl rfl) ?_ | refine ldM_of (g10.cell (i := 8) rfl rfl) ?_ | refine ldI_of (g10.cell (i := 7) rfl rfl) ?_ | refine ldSl_of (g10.cell (i := 7) rfl rfl) ?_ | refine ldP_of (g10.cell (i := 7) rfl rfl) ?_ | refine ldB_of (g10.cell (i := 7) rfl rfl) ?_ | refine ldM_of (g10.cell (i := 7) rfl rfl) ?_ | refine ldI_of (g10.cell (i := 13) rfl rfl) ?_ | refine ldSl_of (g10.cell (i := 13) rfl rfl) ?_ | refine ldP_of (g10.cell (i := 13) rfl rfl) ?_ | refine ldB_of (g10.cell (i := 13) rfl rfl) ?_ | refine ldM_of (g10.cell (i := 13) rfl rfl) ?_)
    refine ansEq (asBI (bif_of (by simp) ?_))
    (repeat first | refine ldI_of (g10.cell (i := 11) rfl rfl) ?_ | refine ldSl_of (g10.cell (i := 11) rfl rfl) ?_ | refine ldP_of (g10.cell (i := 11) rfl rfl) ?_ | refine ldB_of (g10.cell (i := 11) rfl rfl) ?_ | refine ldM_of (g10.cell (i := 11) rfl rfl) ?_ | refine ldI_of (g10.cell (i := 12) rfl rfl) ?_ | refine ldSl_of (g10.cell (i := 12) rfl rfl) ?_ | refine ldP_of (g10.cell (i := 12) rfl rfl) ?_ | refine ldB_of (g10.cell (i := 12) rfl rfl) ?_ | refine ldM_of (g10.cell (i := 12) rfl rfl) ?_ | refine ldI_of (g10.cell (i := 10) rfl rfl) ?_ | refine ldSl_of (g10.cell (i := 10) rfl rfl) ?_ | refine ldP_of (g10.cell (i := 10) rfl rfl) ?_ | refine ldB_of (g10.cell (i := 10) rfl rfl) ?_ | refine ldM_of (g10.cell (i := 10) rfl rfl) ?_ | refine ldI_of (g10.cell (i := 9) rfl rfl) ?_ | refine ldSl_of (g10.cell (i := 9) rfl rfl) ?_ | refine ldP_of (g10.cell (i := 9) rfl rfl) ?_ | refine ldB_of (g10.cell (i := 9) rfl rfl) ?_ | refine ldM_of (g10.cell (i := 9) rfl rfl) ?_ | refine ldI_of (g10.cell (i := 8) rfl rfl) ?_ | refine ldSl_of (g10.cell (i := 8) rfl rfl) ?_ | refine ldP_of (g10.cell (i := 8) rfl rfl) ?_ | refine ldB_of (g10.cell (i := 8) rfl rfl) ?_ | refine ldM_of (g10.cell (i := 8) rfl rfl) ?_ | refine ldI_of (g10.cell (i := 7) rfl rfl) ?_ | refine ldSl_of (g10.cell (i := 7) rfl rfl) ?_ | refine ldP_of (g10.cell (i := 7) rfl rfl) ?_ | refine ldB_of (g10.cell (i := 7) rfl rfl) ?_ | refine ldM_of (g10.cell (i := 7) rfl rfl) ?_ | refine ldI_of (g10.cell (i := 13) rfl rfl) ?_ | refine ldSl_of (g10.cell (i := 13) rfl rfl) ?_ | refine ldP_of (g10.cell (i := 13) rfl rfl) ?_ | refine ldB_of (g10.cell (i := 13) rfl rfl) ?_ | refine ldM_of (g10.cell (i := 13) rfl rfl) ?_)
    refine bornC (y := q) (r := rr) (v := 0) hm hd hg hn hs hs2 hrr (by omega) g10 fun tb rp vp H11 g11 => asBI (bifT ?_)
    (repeat first | refine ldI_of (g11.cell (i := 14) rfl rfl) ?_ | refine ldSl_of (g11.cell (i := 14) rfl rfl) ?_ | refine ldP_of (g11.cell (i := 14) rfl rfl) ?_ | refine ldB_of (g11.cell (i := 14) rfl rfl) ?_ | refine ldM_of (g11.cell (i := 14) rfl rfl) ?_ | refine ldI_of (g11.cell (i := 16) rfl rfl) ?_ | refine ldSl_of (g11.cell (i := 16) rfl rfl) ?_ | refine ldP_of (g11.cell (i := 16) rfl rfl) ?_ | refine ldB_of (g11.cell (i := 16) rfl rfl) ?_ | refine ldM_of (g11.cell (i := 16) rfl rfl) ?_)
    refine does1C (z := q) (v := (q.n - 1).toNat) (n := q.n) g11 (i27 := 16) (i29 := 15) (i42 := 13) (i0 := 3) (isp := 8) (ino := 9) rfl rfl rfl rfl rfl rfl (by rfl) (by rfl) (by omega) (by show (q.n - 1).toNat < m.sl.length; have := hm.sl; omega) (fun t ht => by have := hm.mu t ht; omega) (fun t ht r hr => by have := hm.ro t ht r hr; omega) fun H12 g12 => asBI ?_
    have g12 : St H0 (([Prt.one tb (.cells #[.slice rp rr rr, .slice vp 0 0] ty_model_thing (0, 0)), Prt.row 1 vp 0 0 (List.replicate 0 (.int .u64 0)), Prt.row 2 rp rr rr (cel wId (List.replicate rr noId))] ++ mdL c x { m with al := mput m.al q tb, la := m.la.set (q.n - 1).toNat q.s, sl := setSl m.sl (q.n - 1).toNat q }) ++ ([Prt.one b91 (.cells #[.int .i64 0, .int .u64 0] ty_api_ID (0, 0)), Prt.one y (.cells #[.int .i64 w.n, .int .u64 w.s] ty_api_ID (0, 0)), Prt.one b83 (.cells #[.int .i64 z.n, .int .u64 z.s] ty_api_ID (0, 0)), Prt.one b42 (.cells #[.int .i64 1, .int .i64 0, .int .i64 0, .int .i64 0, .int .i64 (rr : Int), .int .i64 0, .int .i64 0, .int .u64 0, .int .u64 0] ty_node_Op (0, 0)), Prt.one b31 (.cells #[.int .i64 0, .int .i64 q.n, .int .u64 q.s, .int .u64 0, .int .i64 0, .int .u64 0] ty_node_Answer (0, 0)), Prt.one b29 (.cells #[.int .i64 1, .int .i64 q.n, .int .i64 0, .int .i64 0, .int .i64 1, .int .i64 0, .int .i64 0, .int .i64 0, .int .i64 (rr : Int), .int .i64 0, .int .i64 0, .int .u64 0, .int .u64 0, .slice none 0 0, .slice none 0 0] ty_world_Event (0, 0)), Prt.one b27 (.cells #[.pointer (some ⟨x.mb, 0, none⟩)] ty_pmodel_Model (0, 0))] ++ M)) H12 := by
      unfold mdL
      rw [setSl_len]
      have e : (setSl m.sl (q.n - 1).toNat q).map (fun t => slW t.1) = m.sl.map (fun t => slW t.1) := setSl_tops
      rw [e]
      exact g12
    exact hK tb rp vp H12 (St.lesses (M := [_, _, _, _, _, _, _]) (St.swapL g12))
  clear hR87
  have g7 := St.swapL g6
  (repeat first | refine ldI_of (g7.cell (i := 10) rfl rfl) ?_ | refine ldSl_of (g7.cell (i := 10) rfl rfl) ?_ | refine ldP_of (g7.cell (i := 10) rfl rfl) ?_ | refine ldB_of (g7.cell (i := 10) rfl rfl) ?_ | refine ldM_of (g7.cell (i := 10) rfl rfl) ?_ | refine ldI_of (g7.cell (i := 9) rfl rfl) ?_ | refine ldSl_of (g7.cell (i := 9) rfl rfl) ?_ | refine ldP_of (g7.cell (i := 9) rfl rfl) ?_ | refine ldB_of (g7.cell (i := 9) rfl rfl) ?_ | refine ldM_of (g7.cell (i := 9) rfl rfl) ?_ | refine ldI_of (g7.cell (i := 11) rfl rfl) ?_ | refine ldSl_of (g7.cell (i := 11) rfl rfl) ?_ | refine ldP_of (g7.cell (i := 11) rfl rfl) ?_ | refine ldB_of (g7.cell (i := 11) rfl rfl) ?_ | refine ldM_of (g7.cell (i := 11) rfl rfl) ?_ | refine ldI_of (g7.cell (i := 8) rfl rfl) ?_ | refine ldSl_of (g7.cell (i := 8) rfl rfl) ?_ | refine ldP_of (g7.cell (i := 8) rfl rfl) ?_ | refine ldB_of (g7.cell (i := 8) rfl rfl) ?_ | refine ldM_of (g7.cell (i := 8) rfl rfl) ?_ | refine ldI_of (g7.cell (i := 7) rfl rfl) ?_ | refine ldSl_of (g7.cell (i := 7) rfl rfl) ?_ | refine ldP_of (g7.cell (i := 7) rfl rfl) ?_ | refine ldB_of (g7.cell (i := 7) rfl rfl) ?_ | refine ldM_of (g7.cell (i := 7) rfl rfl) ?_)
  refine slotC (k := 1) (n := q.n) (k2 := 1) (a := 0) (b := 0) (r := (rr : Int)) (t := 0) (s := 0) hm hg hn (by omega) g7 fun H8 g8 => ?_
  rw [← hw]
  refine tup2J (agg2I (asI_mk (asI_mk (asBI ?_))))
  refine boxz (c := [.int .i64 0, .int .u64 0]) (vs := [.int .i64 w.n, .int .u64 w.s]) g8 rfl fun b575 H9 g9 => ?_
  exact hQ87 b575 H9 g9
set_option maxHeartbeats 4000000 in
theorem doesSameC {n : Int} {b : Nat} (hm : m.ok c) (hd : m.nod) (hg : c.good) (hn : 1 ≤ n ∧ n ≤ c.a0) (hb : (b : Int) < c.a2) (hne : slotOf m (n - 1).toNat 0 ≠ slotOf m (n - 1).toNat b) (h : St H0 (mdL c x m ++ M) H)
    (hK : ∀ H', St H0 (mdL c x m ++ M) H' → K (.bool false) H') :
    hcall PR f_model_Model_does ⟨[.pointer (some ⟨x.mb, 0, none⟩), evV 1 n 8 0 (b : Int) 0 0, anV 0 0 1 0 0]⟩ H K := by
  apply den_model_Model_does
  unfold B_model_Model_does
  have h0 := hg.a0; have h1 := hg.a1; have h2 := hg.a2
  obtain ⟨z, hz⟩ : ∃ z, z = slotOf m (n - 1).toNat 0 := ⟨_, rfl⟩
  obtain ⟨w, hw⟩ : ∃ w, w = slotOf m (n - 1).toNat b := ⟨_, rfl⟩
  intro b27 hb27
  have g1 := h.alloc (o := .cells #[.pointer (some ⟨x.mb, 0, none⟩)] ty_pmodel_Model) hb27
  intro b29 hb29
  have g2 := g1.alloc (o := .cells #[.int .i64 1, .int .i64 n, .int .i64 0, .int .i64 0, .int .i64 8, .int .i64 0, .int .i64 (b : Int), .int .i64 0, .int .i64 0, .int .i64 0, .int .i64 0, .int .u64 0, .int .u64 0, .slice none 0 0, .slice none 0 0] ty_world_Event) hb29
  intro b31 hb31
  have g3 := g2.alloc (o := .cells #[.int .i64 0, .int .i64 0, .int .u64 0, .int .u64 1, .int .i64 0, .int .u64 0] ty_node_Answer) hb31
  have g3 : St H0 (Prt.one b31 (.cells #[.int .i64 0, .int .i64 0, .int .u64 0, .int .u64 1, .int .i64 0, .int .u64 0] ty_node_Answer (0, 0)) :: Prt.one b29 (.cells #[.int .i64 1, .int .i64 n, .int .i64 0, .int .i64 0, .int .i64 8, .int .i64 0, .int .i64 (b : Int), .int .i64 0, .int .i64 0, .int .i64 0, .int .i64 0, .int .u64 0, .int .u64 0, .slice none 0 0, .slice none 0 0] ty_world_Event (0, 0)) :: Prt.one b27 (.cells #[.pointer (some ⟨x.mb, 0, none⟩)] ty_pmodel_Model (0, 0)) :: (mdL c x m ++ M)) _ := g3
  clear g1 g2 h
  (repeat first | refine ldI_of (g3.cell (i := 0) rfl rfl) ?_ | refine ldSl_of (g3.cell (i := 0) rfl rfl) ?_ | refine ldP_of (g3.cell (i := 0) rfl rfl) ?_ | refine ldB_of (g3.cell (i := 0) rfl rfl) ?_ | refine ldM_of (g3.cell (i := 0) rfl rfl) ?_ | refine ldI_of (g3.cell (i := 1) rfl rfl) ?_ | refine ldSl_of (g3.cell (i := 1) rfl rfl) ?_ | refine ldP_of (g3.cell (i := 1) rfl rfl) ?_ | refine ldB_of (g3.cell (i := 1) rfl rfl) ?_ | refine ldM_of (g3.cell (i := 1) rfl rfl) ?_ | refine ldI_of (g3.cell (i := 2) rfl rfl) ?_ | refine ldSl_of (g3.cell (i := 2) rfl rfl) ?_ | refine ldP_of (g3.cell (i := 2) rfl rfl) ?_ | refine ldB_of (g3.cell (i := 2) rfl rfl) ?_ | refine ldM_of (g3.cell (i := 2) rfl rfl) ?_)
  refine boxz (c := [.int .i64 0, .int .i64 0, .int .i64 0, .int .i64 0, .int .i64 0, .int .i64 0, .int .i64 0, .int .u64 0, .int .u64 0]) (vs := [.int .i64 8, .int .i64 0, .int .i64 (b : Int), .int .i64 0, .int .i64 0, .int .i64 0, .int .i64 0, .int .u64 0, .int .u64 0]) g3 rfl fun b42 H4 g4 => ?_
  have g4 : St H0 ([Prt.one b42 (.cells #[.int .i64 8, .int .i64 0, .int .i64 (b : Int), .int .i64 0, .int .i64 0, .int .i64 0, .int .i64 0, .int .u64 0, .int .u64 0] ty_node_Op (0, 0)), Prt.one b31 (.cells #[.int .i64 0, .int .i64 0, .int .u64 0, .int .u64 1, .int .i64 0, .int .u64 0] ty_node_Answer (0, 0)), Prt.one b29 (.cells #[.int .i64 1, .int .i64 n, .int .i64 0, .int .i64 0, .int .i64 8, .int .i64 0, .int .i64 (b : Int), .int .i64 0, .int .i64 0, .int .i64 0, .int .i64 0, .int .u64 0, .int .u64 0, .slice none 0 0, .slice none 0 0] ty_world_Event (0, 0)), Prt.one b27 (.cells #[.pointer (some ⟨x.mb, 0, none⟩)] ty_pmodel_Model (0, 0))] ++ (mdL c x m ++ M)) H4 := g4
  clear g3
  (repeat first | refine ldI_of (g4.cell (i := 0) rfl rfl) ?_ | refine ldSl_of (g4.cell (i := 0) rfl rfl) ?_ | refine ldP_of (g4.cell (i := 0) rfl rfl) ?_ | refine ldB_of (g4.cell (i := 0) rfl rfl) ?_ | refine ldM_of (g4.cell (i := 0) rfl rfl) ?_ | refine ldI_of (g4.cell (i := 1) rfl rfl) ?_ | refine ldSl_of (g4.cell (i := 1) rfl rfl) ?_ | refine ldP_of (g4.cell (i := 1) rfl rfl) ?_ | refine ldB_of (g4.cell (i := 1) rfl rfl) ?_ | refine ldM_of (g4.cell (i := 1) rfl rfl) ?_ | refine ldI_of (g4.cell (i := 2) rfl rfl) ?_ | refine ldSl_of (g4.cell (i := 2) rfl rfl) ?_ | refine ldP_of (g4.cell (i := 2) rfl rfl) ?_ | refine ldB_of (g4.cell (i := 2) rfl rfl) ?_ | refine ldM_of (g4.cell (i := 2) rfl rfl) ?_ | refine ldI_of (g4.cell (i := 3) rfl rfl) ?_ | refine ldSl_of (g4.cell (i := 3) rfl rfl) ?_ | refine ldP_of (g4.cell (i := 3) rfl rfl) ?_ | refine ldB_of (g4.cell (i := 3) rfl rfl) ?_ | refine ldM_of (g4.cell (i := 3) rfl rfl) ?_)
  refine slotC (k := 1) (n := n) (k2 := 8) (a := 0) (b := (b : Int)) (r := 0) (t := 0) (s := 0) hm hg hn (by omega) (St.swapL g4) fun H5 g5 => ?_
  rw [← hz]
  refine tup2J (agg2I (asI_mk (asI_mk (asBI ?_))))
  refine boxz (c := [.int .i64 0, .int .u64 0]) (vs := [.int .i64 z.n, .int .u64 z.s]) g5 rfl fun b83 H6 g6 => ?_
  have g6 : St H0 ([Prt.one b83 (.cells #[.int .i64 z.n, .int .u64 z.s] ty_api_ID (0, 0))] ++ (mdL c x m ++ ([Prt.one b42 (.cells #[.int .i64 8, .int .i64 0, .int .i64 (b : Int), .int .i64 0, .int .i64 0, .int .i64 0, .int .i64 0, .int .u64 0, .int .u64 0] ty_node_Op (0, 0)), Prt.one b31 (.cells #[.int .i64 0, .int .i64 0, .int .u64 0, .int .u64 1, .int .i64 0, .int .u64 0] ty_node_Answer (0, 0)), Prt.one b29 (.cells #[.int .i64 1, .int .i64 n, .int .i64 0, .int .i64 0, .int .i64 8, .int .i64 0, .int .i64 (b : Int), .int .i64 0, .int .i64 0, .int .i64 0, .int .i64 0, .int .u64 0, .int .u64 0, .slice none 0 0, .slice none 0 0] ty_world_Event (0, 0)), Prt.one b27 (.cells #[.pointer (some ⟨x.mb, 0, none⟩)] ty_pmodel_Model (0, 0))] ++ M))) H6 := g6
  clear g4 g5
  intro R87 hR87
  have hQ87 : ∀ y H', St H0 ([Prt.one y (.cells #[.int .i64 w.n, .int .u64 w.s] ty_api_ID (0, 0))] ++ (mdL c x m ++ ([Prt.one b83 (.cells #[.int .i64 z.n, .int .u64 z.s] ty_api_ID (0, 0)), Prt.one b42 (.cells #[.int .i64 8, .int .i64 0, .int .i64 (b : Int), .int .i64 0, .int .i64 0, .int .i64 0, .int .i64 0, .int .u64 0, .int .u64 0] ty_node_Op (0, 0)), Prt.one b31 (.cells #[.int .i64 0, .int .i64 0, .int .u64 0, .int .u64 1, .int .i64 0, .int .u64 0] ty_node_Answer (0, 0)), Prt.one b29 (.cells #[.int .i64 1, .int .i64 n, .int .i64 0, .int .i64 0, .int .i64 8, .int .i64 0, .int .i64 (b : Int), .int .i64 0, .int .i64 0, .int .i64 0, .int .i64 0, .int .u64 0, .int .u64 0, .slice none 0 0, .slice none 0 0] ty_world_Event (0, 0)), Prt.one b27 (.cells #[.pointer (some ⟨x.mb, 0, none⟩)] ty_pmodel_Model (0, 0))] ++ M))) H' → R87 (some ⟨y, 0, none⟩) true H' := fun y H7 g7 => by
    refine hR87 _ _ H7 ?_
    clear hR87
    refine boxz (c := [.int .i64 0, .int .u64 0]) (vs := [.int .i64 0, .int .u64 0]) g7 rfl fun b91 H8 g8 => ?_
    have g8 : St H0 ([Prt.one b91 (.cells #[.int .i64 0, .int .u64 0] ty_api_ID (0, 0)), Prt.one y (.cells #[.int .i64 w.n, .int .u64 w.s] ty_api_ID (0, 0))] ++ (mdL c x m ++ ([Prt.one b83 (.cells #[.int .i64 z.n, .int .u64 z.s] ty_api_ID (0, 0)), Prt.one b42 (.cells #[.int .i64 8, .int .i64 0, .int .i64 (b : Int), .int .i64 0, .int .i64 0, .int .i64 0, .int .i64 0, .int .u64 0, .int .u64 0] ty_node_Op (0, 0)), Prt.one b31 (.cells #[.int .i64 0, .int .i64 0, .int .u64 0, .int .u64 1, .int .i64 0, .int .u64 0] ty_node_Answer (0, 0)), Prt.one b29 (.cells #[.int .i64 1, .int .i64 n, .int .i64 0, .int .i64 0, .int .i64 8, .int .i64 0, .int .i64 (b : Int), .int .i64 0, .int .i64 0, .int .i64 0, .int .i64 0, .int .u64 0, .int .u64 0, .slice none 0 0, .slice none 0 0] ty_world_Event (0, 0)), Prt.one b27 (.cells #[.pointer (some ⟨x.mb, 0, none⟩)] ty_pmodel_Model (0, 0))] ++ M))) H8 := g8
    clear g6 g7
    (repeat first | refine ldI_of (g8.cell (i := 12) rfl rfl) ?_ | refine ldSl_of (g8.cell (i := 12) rfl rfl) ?_ | refine ldP_of (g8.cell (i := 12) rfl rfl) ?_ | refine ldB_of (g8.cell (i := 12) rfl rfl) ?_ | refine ldM_of (g8.cell (i := 12) rfl rfl) ?_ | refine ldI_of (g8.cell (i := 13) rfl rfl) ?_ | refine ldSl_of (g8.cell (i := 13) rfl rfl) ?_ | refine ldP_of (g8.cell (i := 13) rfl rfl) ?_ | refine ldB_of (g8.cell (i := 13) rfl rfl) ?_ | refine ldM_of (g8.cell (i := 13) rfl rfl) ?_ | refine ldI_of (g8.cell (i := 9) rfl rfl) ?_ | refine ldSl_of (g8.cell (i := 9) rfl rfl) ?_ | refine ldP_of (g8.cell (i := 9) rfl rfl) ?_ | refine ldB_of (g8.cell (i := 9) rfl rfl) ?_ | refine ldM_of (g8.cell (i := 9) rfl rfl) ?_ | refine ldI_of (g8.cell (i := 1) rfl rfl) ?_ | refine ldSl_of (g8.cell (i := 1) rfl rfl) ?_ | refine ldP_of (g8.cell (i := 1) rfl rfl) ?_ | refine ldB_of (g8.cell (i := 1) rfl rfl) ?_ | refine ldM_of (g8.cell (i := 1) rfl rfl) ?_ | refine ldI_of (g8.cell (i := 10) rfl rfl) ?_ | refine ldSl_of (g8.cell (i := 10) rfl rfl) ?_ | refine ldP_of (g8.cell (i := 10) rfl rfl) ?_ | refine ldB_of (g8.cell (i := 10) rfl rfl) ?_ | refine ldM_of (g8.cell (i := 10) rfl rfl) ?_ | refine ldI_of (g8.cell (i := 11) rfl rfl) ?_ | refine ldSl_of (g8.cell (i := 11) rfl rfl) ?_ | refine ldP_of (g8.cell (i := 11) rfl rfl) ?_ | refine ldB_of (g8.cell (i := 11) rfl rfl) ?_ | refine ldM_of (g8.cell (i := 11) rfl rfl) ?_)
    refine objC (y := z) hd (St.swapL g8) fun p106 H9 g9 => asPI ⟨?_, ?_, ?_, ?_⟩
    · (repeat first | refine ldI_of (g9.cell (i := 8) rfl rfl) ?_ | refine ldSl_of (g9.cell (i := 8) rfl rfl) ?_ | refine ldP_of (g9.cell (i := 8) rfl rfl) ?_ | refine ldB_of (g9.cell (i := 8) rfl rfl) ?_ | refine ldM_of (g9.cell (i := 8) rfl rfl) ?_ | refine ldI_of (g9.cell (i := 12) rfl rfl) ?_ | refine ldSl_of (g9.cell (i := 12) rfl rfl) ?_ | refine ldP_of (g9.cell (i := 12) rfl rfl) ?_ | refine ldB_of (g9.cell (i := 12) rfl rfl) ?_ | refine ldM_of (g9.cell (i := 12) rfl rfl) ?_ | refine ldI_of (g9.cell (i := 13) rfl rfl) ?_ | refine ldSl_of (g9.cell (i := 13) rfl rfl) ?_ | refine ldP_of (g9.cell (i := 13) rfl rfl) ?_ | refine ldB_of (g9.cell (i := 13) rfl rfl) ?_ | refine ldM_of (g9.cell (i := 13) rfl rfl) ?_)
      rfl
    · (repeat first | refine ldI_of (g9.cell (i := 8) rfl rfl) ?_ | refine ldSl_of (g9.cell (i := 8) rfl rfl) ?_ | refine ldP_of (g9.cell (i := 8) rfl rfl) ?_ | refine ldB_of (g9.cell (i := 8) rfl rfl) ?_ | refine ldM_of (g9.cell (i := 8) rfl rfl) ?_ | refine ldI_of (g9.cell (i := 12) rfl rfl) ?_ | refine ldSl_of (g9.cell (i := 12) rfl rfl) ?_ | refine ldP_of (g9.cell (i := 12) rfl rfl) ?_ | refine ldB_of (g9.cell (i := 12) rfl rfl) ?_ | refine ldM_of (g9.cell (i := 12) rfl rfl) ?_ | refine ldI_of (g9.cell (i := 13) rfl rfl) ?_ | refine ldSl_of (g9.cell (i := 13) rfl rfl) ?_ | refine ldP_of (g9.cell (i := 13) rfl rfl) ?_ | refine ldB_of (g9.cell (i := 13) rfl rfl) ?_ | refine ldM_of (g9.cell (i := 13) rfl rfl) ?_)
      rfl
    · (repeat first | refine ldI_of (g9.cell (i := 8) rfl rfl) ?_ | refine ldSl_of (g9.cell (i := 8) rfl rfl) ?_ | refine ldP_of (g9.cell (i := 8) rfl rfl) ?_ | refine ldB_of (g9.cell (i := 8) rfl rfl) ?_ | refine ldM_of (g9.cell (i := 8) rfl rfl) ?_ | refine ldI_of (g9.cell (i := 12) rfl rfl) ?_ | refine ldSl_of (g9.cell (i := 12) rfl rfl) ?_ | refine ldP_of (g9.cell (i := 12) rfl rfl) ?_ | refine ldB_of (g9.cell (i := 12) rfl rfl) ?_ | refine ldM_of (g9.cell (i := 12) rfl rfl) ?_ | refine ldI_of (g9.cell (i := 13) rfl rfl) ?_ | refine ldSl_of (g9.cell (i := 13) rfl rfl) ?_ | refine ldP_of (g9.cell (i := 13) rfl rfl) ?_ | refine ldB_of (g9.cell (i := 13) rfl rfl) ?_ | refine ldM_of (g9.cell (i := 13) rfl rfl) ?_)
      rfl
    refine objC (y := w) hd g9 fun p114 H10 g10 => asPI ?_
    have g10 : St H0 (mdL c x m ++ ([Prt.one b91 (.cells #[.int .i64 0, .int .u64 0] ty_api_ID (0, 0)), Prt.one y (.cells #[.int .i64 w.n, .int .u64 w.s] ty_api_ID (0, 0))] ++ ([Prt.one b83 (.cells #[.int .i64 z.n, .int .u64 z.s] ty_api_ID (0, 0)), Prt.one b42 (.cells #[.int .i64 8, .int .i64 0, .int .i64 (b : Int), .int .i64 0, .int .i64 0, .int .i64 0, .int .i64 0, .int .u64 0, .int .u64 0] ty_node_Op (0, 0)), Prt.one b31 (.cells #[.int .i64 0, .int .i64 0, .int .u64 0, .int .u64 1, .int .i64 0, .int .u64 0] ty_node_Answer (0, 0)), Prt.one b29 (.cells #[.int .i64 1, .int .i64 n, .int .i64 0, .int .i64 0, .int .i64 8, .int .i64 0, .int .i64 (b : Int), .int .i64 0, .int .i64 0, .int .i64 0, .int .i64 0, .int .u64 0, .int .u64 0, .slice none 0 0, .slice none 0 0] ty_world_Event (0, 0)), Prt.one b27 (.cells #[.pointer (some ⟨x.mb, 0, none⟩)] ty_pmodel_Model (0, 0))] ++ M))) H10 := g10
    clear g8 g9
    (repeat first | refine ldI_of (g10.cell (i := 11) rfl rfl) ?_ | refine ldSl_of (g10.cell (i := 11) rfl rfl) ?_ | refine ldP_of (g10.cell (i := 11) rfl rfl) ?_ | refine ldB_of (g10.cell (i := 11) rfl rfl) ?_ | refine ldM_of (g10.cell (i := 11) rfl rfl) ?_ | refine ldI_of (g10.cell (i := 12) rfl rfl) ?_ | refine ldSl_of (g10.cell (i := 12) rfl rfl) ?_ | refine ldP_of (g10.cell (i := 12) rfl rfl) ?_ | refine ldB_of (g10.cell (i := 12) rfl rfl) ?_ | refine ldM_of (g10.cell (i := 12) rfl rfl) ?_ | refine ldI_of (g10.cell (i := 10) rfl rfl) ?_ | refine ldSl_of (g10.cell (i := 10) rfl rfl) ?_ | refine ldP_of (g10.cell (i := 10) rfl rfl) ?_ | refine ldB_of (g10.cell (i := 10) rfl rfl) ?_ | refine ldM_of (g10.cell (i := 10) rfl rfl) ?_ | refine ldI_of (g10.cell (i := 9) rfl rfl) ?_ | refine ldSl_of (g10.cell (i := 9) rfl rfl) ?_ | refine ldP_of (g10.cell (i := 9) rfl rfl) ?_ | refine ldB_of (g10.cell (i := 9) rfl rfl) ?_ | refine ldM_of (g10.cell (i := 9) rfl rfl) ?_ | refine ldI_of (g10.cell (i := 8) rfl rfl) ?_ | refine ldSl_of (g10.cell (i := 8) rfl rfl) ?_ | refine ldP_of (g10.cell (i := 8) rfl rfl) ?_ | refine ldB_of (g10.cell (i := 8) rfl rfl) ?_ | refine ldM_of (g10.cell (i := 8) rfl rfl) ?_ | refine ldI_of (g10.cell (i := 7) rfl rfl) ?_ | refine ldSl_of (g10.cell (i := 7) rfl rfl) ?_ | refine ldP_of (g10.cell (i := 7) rfl rfl) ?_ | refine ldB_of (g10.cell (i := 7) rfl rfl) ?_ | refine ldM_of (g10.cell (i := 7) rfl rfl) ?_ | refine ldI_of (g10.cell (i := 13) rfl rfl) ?_ | refine ldSl_of (g10.cell (i := 13) rfl rfl) ?_ | refine ldP_of (g10.cell (i := 13) rfl rfl) ?_ | refine ldB_of (g10.cell (i := 13) rfl rfl) ?_ | refine ldM_of (g10.cell (i := 13) rfl rfl) ?_)
    refine bif_ne (by decide) (bif_ne (by decide) (bif_ne (by decide) (bif_ne (by decide) (bif_ne (by decide) (bif_ne (by decide) (bif_ne (by decide) (bif_eq rfl ?_)))))))
    refine boxz (c := [.int .i64 0, .int .i64 0, .int .u64 0, .int .u64 0, .int .i64 0, .int .u64 0]) (vs := [.int .i64 0, .int .i64 0, .int .u64 0, .int .u64 0, .int .i64 0, .int .u64 0]) g10 rfl fun b286 H11 g11 => ?_
    intro R294 hR294
    have hQ294 : R294 H11 := by
      refine hR294 H11 (bifT (bifT ?_))
      (repeat first | refine ldI_of (g11.cell (i := 0) rfl rfl) ?_ | refine ldSl_of (g11.cell (i := 0) rfl rfl) ?_ | refine ldP_of (g11.cell (i := 0) rfl rfl) ?_ | refine ldB_of (g11.cell (i := 0) rfl rfl) ?_ | refine ldM_of (g11.cell (i := 0) rfl rfl) ?_ | refine ldI_of (g11.cell (i := 12) rfl rfl) ?_ | refine ldSl_of (g11.cell (i := 12) rfl rfl) ?_ | refine ldP_of (g11.cell (i := 12) rfl rfl) ?_ | refine ldB_of (g11.cell (i := 12) rfl rfl) ?_ | refine ldM_of (g11.cell (i := 12) rfl rfl) ?_ | refine ldI_of (g11.cell (i := 10) rfl rfl) ?_ | refine ldSl_of (g11.cell (i := 10) rfl rfl) ?_ | refine ldP_of (g11.cell (i := 10) rfl rfl) ?_ | refine ldB_of (g11.cell (i := 10) rfl rfl) ?_ | refine ldM_of (g11.cell (i := 10) rfl rfl) ?_ | refine ldI_of (g11.cell (i := 9) rfl rfl) ?_ | refine ldSl_of (g11.cell (i := 9) rfl rfl) ?_ | refine ldP_of (g11.cell (i := 9) rfl rfl) ?_ | refine ldB_of (g11.cell (i := 9) rfl rfl) ?_ | refine ldM_of (g11.cell (i := 9) rfl rfl) ?_)
      refine ansEq (asBI ?_)
      rw [show ((decide ((0 : Int) = 0) && (decide ([(0 : Int), 0] = [0, 0]) && (decide ((1 : Int) = 0) && (decide ((0 : Int) = 0) && (decide ((0 : Int) = 0) && true))))) = false) from rfl]
      have g12 : St H0 (mdL c x m ++ ([Prt.one b91 (.cells #[.int .i64 0, .int .u64 0] ty_api_ID (0, 0)), Prt.one y (.cells #[.int .i64 w.n, .int .u64 w.s] ty_api_ID (0, 0)), Prt.one b83 (.cells #[.int .i64 z.n, .int .u64 z.s] ty_api_ID (0, 0)), Prt.one b42 (.cells #[.int .i64 8, .int .i64 0, .int .i64 (b : Int), .int .i64 0, .int .i64 0, .int .i64 0, .int .i64 0, .int .u64 0, .int .u64 0] ty_node_Op (0, 0)), Prt.one b31 (.cells #[.int .i64 0, .int .i64 0, .int .u64 0, .int .u64 1, .int .i64 0, .int .u64 0] ty_node_Answer (0, 0)), Prt.one b29 (.cells #[.int .i64 1, .int .i64 n, .int .i64 0, .int .i64 0, .int .i64 8, .int .i64 0, .int .i64 (b : Int), .int .i64 0, .int .i64 0, .int .i64 0, .int .i64 0, .int .u64 0, .int .u64 0, .slice none 0 0, .slice none 0 0] ty_world_Event (0, 0)), Prt.one b27 (.cells #[.pointer (some ⟨x.mb, 0, none⟩)] ty_pmodel_Model (0, 0))] ++ M)) H11 := St.less g11
      exact hK H11 (St.lesses (M := [_, _, _, _, _, _, _]) (St.swapL g12))
    clear hR294
    (repeat first | refine ldI_of (g11.cell (i := 0) rfl rfl) ?_ | refine ldSl_of (g11.cell (i := 0) rfl rfl) ?_ | refine ldP_of (g11.cell (i := 0) rfl rfl) ?_ | refine ldB_of (g11.cell (i := 0) rfl rfl) ?_ | refine ldM_of (g11.cell (i := 0) rfl rfl) ?_ | refine ldI_of (g11.cell (i := 12) rfl rfl) ?_ | refine ldSl_of (g11.cell (i := 12) rfl rfl) ?_ | refine ldP_of (g11.cell (i := 12) rfl rfl) ?_ | refine ldB_of (g11.cell (i := 12) rfl rfl) ?_ | refine ldM_of (g11.cell (i := 12) rfl rfl) ?_ | refine ldI_of (g11.cell (i := 10) rfl rfl) ?_ | refine ldSl_of (g11.cell (i := 10) rfl rfl) ?_ | refine ldP_of (g11.cell (i := 10) rfl rfl) ?_ | refine ldB_of (g11.cell (i := 10) rfl rfl) ?_ | refine ldM_of (g11.cell (i := 10) rfl rfl) ?_ | refine ldI_of (g11.cell (i := 9) rfl rfl) ?_ | refine ldSl_of (g11.cell (i := 9) rfl rfl) ?_ | refine ldP_of (g11.cell (i := 9) rfl rfl) ?_ | refine ldB_of (g11.cell (i := 9) rfl rfl) ?_ | refine ldM_of (g11.cell (i := 9) rfl rfl) ?_)
    refine idEq (asBI ?_)
    rw [decide_eq_false (show ¬ ((⟨z.n, z.s⟩ : Id) = ⟨w.n, w.s⟩) from fun h => hne (by rw [← hz, ← hw]; exact h))]
    exact hQ294
  clear hR87
  have g7 := St.swapL g6
  (repeat first | refine ldI_of (g7.cell (i := 10) rfl rfl) ?_ | refine ldSl_of (g7.cell (i := 10) rfl rfl) ?_ | refine ldP_of (g7.cell (i := 10) rfl rfl) ?_ | refine ldB_of (g7.cell (i := 10) rfl rfl) ?_ | refine ldM_of (g7.cell (i := 10) rfl rfl) ?_ | refine ldI_of (g7.cell (i := 9) rfl rfl) ?_ | refine ldSl_of (g7.cell (i := 9) rfl rfl) ?_ | refine ldP_of (g7.cell (i := 9) rfl rfl) ?_ | refine ldB_of (g7.cell (i := 9) rfl rfl) ?_ | refine ldM_of (g7.cell (i := 9) rfl rfl) ?_ | refine ldI_of (g7.cell (i := 11) rfl rfl) ?_ | refine ldSl_of (g7.cell (i := 11) rfl rfl) ?_ | refine ldP_of (g7.cell (i := 11) rfl rfl) ?_ | refine ldB_of (g7.cell (i := 11) rfl rfl) ?_ | refine ldM_of (g7.cell (i := 11) rfl rfl) ?_ | refine ldI_of (g7.cell (i := 8) rfl rfl) ?_ | refine ldSl_of (g7.cell (i := 8) rfl rfl) ?_ | refine ldP_of (g7.cell (i := 8) rfl rfl) ?_ | refine ldB_of (g7.cell (i := 8) rfl rfl) ?_ | refine ldM_of (g7.cell (i := 8) rfl rfl) ?_ | refine ldI_of (g7.cell (i := 7) rfl rfl) ?_ | refine ldSl_of (g7.cell (i := 7) rfl rfl) ?_ | refine ldP_of (g7.cell (i := 7) rfl rfl) ?_ | refine ldB_of (g7.cell (i := 7) rfl rfl) ?_ | refine ldM_of (g7.cell (i := 7) rfl rfl) ?_)
  refine slotC (k := 1) (n := n) (k2 := 8) (a := 0) (b := (b : Int)) (r := 0) (t := 0) (s := b) hm hg hn hb g7 fun H8 g8 => ?_
  rw [← hw]
  refine tup2J (agg2I (asI_mk (asI_mk (asBI ?_))))
  refine boxz (c := [.int .i64 0, .int .u64 0]) (vs := [.int .i64 w.n, .int .u64 w.s]) g8 rfl fun b575 H9 g9 => ?_
  exact hQ87 b575 H9 g9
set_option maxHeartbeats 4000000 in
theorem doesCallC {n r t : Int} (hm : m.ok c) (hd : m.nod) (hg : c.good) (hn : 1 ≤ n ∧ n ≤ c.a0) (hr : 0 ≤ r ∧ r < 8) (ht : 1 ≤ t ∧ t ≤ c.a0) (hnt : t ≠ n) (hno : mlook m.nu (n, t) = none) (hla : 0 ≤ c.a21 ∧ c.a21 < 1000) (h : St H0 (mdL c x m ++ M) H)
    (hK : ∀ cb H', St H0 (([Prt.one cb (.cells #[.int .i64 1, .int .i64 r, .int .i64 0, .int .u64 0, .slice none 0 0, .int .u64 0, .bool false, .bool false, .int .i64 0, .int .u64 0, .slice none 0 0] ty_model_call (0, 0))] ++ mdL c x { m with nu := mput m.nu (n, t) (c.a21 + 1), ca := mput m.ca ⟨n, t, c.a21 + 1⟩ cb }) ++ M) H' → K (.bool true) H') :
    hcall PR f_model_Model_does ⟨[.pointer (some ⟨x.mb, 0, none⟩), evV 1 n 9 0 0 r t, anV 0 0 0 t (c.a21 + 1)]⟩ H K := by
  apply den_model_Model_does
  unfold B_model_Model_does
  have h0 := hg.a0; have h1 := hg.a1; have h2 := hg.a2
  obtain ⟨z, hz⟩ : ∃ z, z = slotOf m (n - 1).toNat 0 := ⟨_, rfl⟩
  obtain ⟨w, hw⟩ : ∃ w, w = slotOf m (n - 1).toNat 0 := ⟨_, rfl⟩
  intro b27 hb27
  have g1 := h.alloc (o := .cells #[.pointer (some ⟨x.mb, 0, none⟩)] ty_pmodel_Model) hb27
  intro b29 hb29
  have g2 := g1.alloc (o := .cells #[.int .i64 1, .int .i64 n, .int .i64 0, .int .i64 0, .int .i64 9, .int .i64 0, .int .i64 0, .int .i64 0, .int .i64 r, .int .i64 0, .int .i64 t, .int .u64 0, .int .u64 0, .slice none 0 0, .slice none 0 0] ty_world_Event) hb29
  intro b31 hb31
  have g3 := g2.alloc (o := .cells #[.int .i64 0, .int .i64 0, .int .u64 0, .int .u64 0, .int .i64 t, .int .u64 (c.a21 + 1)] ty_node_Answer) hb31
  have g3 : St H0 (Prt.one b31 (.cells #[.int .i64 0, .int .i64 0, .int .u64 0, .int .u64 0, .int .i64 t, .int .u64 (c.a21 + 1)] ty_node_Answer (0, 0)) :: Prt.one b29 (.cells #[.int .i64 1, .int .i64 n, .int .i64 0, .int .i64 0, .int .i64 9, .int .i64 0, .int .i64 0, .int .i64 0, .int .i64 r, .int .i64 0, .int .i64 t, .int .u64 0, .int .u64 0, .slice none 0 0, .slice none 0 0] ty_world_Event (0, 0)) :: Prt.one b27 (.cells #[.pointer (some ⟨x.mb, 0, none⟩)] ty_pmodel_Model (0, 0)) :: (mdL c x m ++ M)) _ := g3
  clear g1 g2 h
  (repeat first | refine ldI_of (g3.cell (i := 0) rfl rfl) ?_ | refine ldSl_of (g3.cell (i := 0) rfl rfl) ?_ | refine ldP_of (g3.cell (i := 0) rfl rfl) ?_ | refine ldB_of (g3.cell (i := 0) rfl rfl) ?_ | refine ldM_of (g3.cell (i := 0) rfl rfl) ?_ | refine ldI_of (g3.cell (i := 1) rfl rfl) ?_ | refine ldSl_of (g3.cell (i := 1) rfl rfl) ?_ | refine ldP_of (g3.cell (i := 1) rfl rfl) ?_ | refine ldB_of (g3.cell (i := 1) rfl rfl) ?_ | refine ldM_of (g3.cell (i := 1) rfl rfl) ?_ | refine ldI_of (g3.cell (i := 2) rfl rfl) ?_ | refine ldSl_of (g3.cell (i := 2) rfl rfl) ?_ | refine ldP_of (g3.cell (i := 2) rfl rfl) ?_ | refine ldB_of (g3.cell (i := 2) rfl rfl) ?_ | refine ldM_of (g3.cell (i := 2) rfl rfl) ?_)
  refine boxz (c := [.int .i64 0, .int .i64 0, .int .i64 0, .int .i64 0, .int .i64 0, .int .i64 0, .int .i64 0, .int .u64 0, .int .u64 0]) (vs := [.int .i64 9, .int .i64 0, .int .i64 0, .int .i64 0, .int .i64 r, .int .i64 0, .int .i64 t, .int .u64 0, .int .u64 0]) g3 rfl fun b42 H4 g4 => ?_
  have g4 : St H0 ([Prt.one b42 (.cells #[.int .i64 9, .int .i64 0, .int .i64 0, .int .i64 0, .int .i64 r, .int .i64 0, .int .i64 t, .int .u64 0, .int .u64 0] ty_node_Op (0, 0)), Prt.one b31 (.cells #[.int .i64 0, .int .i64 0, .int .u64 0, .int .u64 0, .int .i64 t, .int .u64 (c.a21 + 1)] ty_node_Answer (0, 0)), Prt.one b29 (.cells #[.int .i64 1, .int .i64 n, .int .i64 0, .int .i64 0, .int .i64 9, .int .i64 0, .int .i64 0, .int .i64 0, .int .i64 r, .int .i64 0, .int .i64 t, .int .u64 0, .int .u64 0, .slice none 0 0, .slice none 0 0] ty_world_Event (0, 0)), Prt.one b27 (.cells #[.pointer (some ⟨x.mb, 0, none⟩)] ty_pmodel_Model (0, 0))] ++ (mdL c x m ++ M)) H4 := g4
  clear g3
  (repeat first | refine ldI_of (g4.cell (i := 0) rfl rfl) ?_ | refine ldSl_of (g4.cell (i := 0) rfl rfl) ?_ | refine ldP_of (g4.cell (i := 0) rfl rfl) ?_ | refine ldB_of (g4.cell (i := 0) rfl rfl) ?_ | refine ldM_of (g4.cell (i := 0) rfl rfl) ?_ | refine ldI_of (g4.cell (i := 1) rfl rfl) ?_ | refine ldSl_of (g4.cell (i := 1) rfl rfl) ?_ | refine ldP_of (g4.cell (i := 1) rfl rfl) ?_ | refine ldB_of (g4.cell (i := 1) rfl rfl) ?_ | refine ldM_of (g4.cell (i := 1) rfl rfl) ?_ | refine ldI_of (g4.cell (i := 2) rfl rfl) ?_ | refine ldSl_of (g4.cell (i := 2) rfl rfl) ?_ | refine ldP_of (g4.cell (i := 2) rfl rfl) ?_ | refine ldB_of (g4.cell (i := 2) rfl rfl) ?_ | refine ldM_of (g4.cell (i := 2) rfl rfl) ?_ | refine ldI_of (g4.cell (i := 3) rfl rfl) ?_ | refine ldSl_of (g4.cell (i := 3) rfl rfl) ?_ | refine ldP_of (g4.cell (i := 3) rfl rfl) ?_ | refine ldB_of (g4.cell (i := 3) rfl rfl) ?_ | refine ldM_of (g4.cell (i := 3) rfl rfl) ?_)
  refine slotC (k := 1) (n := n) (k2 := 9) (a := 0) (b := 0) (r := r) (t := t) (s := 0) hm hg hn (by omega) (St.swapL g4) fun H5 g5 => ?_
  rw [← hz]
  refine tup2J (agg2I (asI_mk (asI_mk (asBI ?_))))
  refine boxz (c := [.int .i64 0, .int .u64 0]) (vs := [.int .i64 z.n, .int .u64 z.s]) g5 rfl fun b83 H6 g6 => ?_
  have g6 : St H0 ([Prt.one b83 (.cells #[.int .i64 z.n, .int .u64 z.s] ty_api_ID (0, 0))] ++ (mdL c x m ++ ([Prt.one b42 (.cells #[.int .i64 9, .int .i64 0, .int .i64 0, .int .i64 0, .int .i64 r, .int .i64 0, .int .i64 t, .int .u64 0, .int .u64 0] ty_node_Op (0, 0)), Prt.one b31 (.cells #[.int .i64 0, .int .i64 0, .int .u64 0, .int .u64 0, .int .i64 t, .int .u64 (c.a21 + 1)] ty_node_Answer (0, 0)), Prt.one b29 (.cells #[.int .i64 1, .int .i64 n, .int .i64 0, .int .i64 0, .int .i64 9, .int .i64 0, .int .i64 0, .int .i64 0, .int .i64 r, .int .i64 0, .int .i64 t, .int .u64 0, .int .u64 0, .slice none 0 0, .slice none 0 0] ty_world_Event (0, 0)), Prt.one b27 (.cells #[.pointer (some ⟨x.mb, 0, none⟩)] ty_pmodel_Model (0, 0))] ++ M))) H6 := g6
  clear g4 g5
  intro R87 hR87
  have hQ87 : ∀ y H', St H0 ([Prt.one y (.cells #[.int .i64 w.n, .int .u64 w.s] ty_api_ID (0, 0))] ++ (mdL c x m ++ ([Prt.one b83 (.cells #[.int .i64 z.n, .int .u64 z.s] ty_api_ID (0, 0)), Prt.one b42 (.cells #[.int .i64 9, .int .i64 0, .int .i64 0, .int .i64 0, .int .i64 r, .int .i64 0, .int .i64 t, .int .u64 0, .int .u64 0] ty_node_Op (0, 0)), Prt.one b31 (.cells #[.int .i64 0, .int .i64 0, .int .u64 0, .int .u64 0, .int .i64 t, .int .u64 (c.a21 + 1)] ty_node_Answer (0, 0)), Prt.one b29 (.cells #[.int .i64 1, .int .i64 n, .int .i64 0, .int .i64 0, .int .i64 9, .int .i64 0, .int .i64 0, .int .i64 0, .int .i64 r, .int .i64 0, .int .i64 t, .int .u64 0, .int .u64 0, .slice none 0 0, .slice none 0 0] ty_world_Event (0, 0)), Prt.one b27 (.cells #[.pointer (some ⟨x.mb, 0, none⟩)] ty_pmodel_Model (0, 0))] ++ M))) H' → R87 (some ⟨y, 0, none⟩) true H' := fun y H7 g7 => by
    refine hR87 _ _ H7 ?_
    clear hR87
    refine boxz (c := [.int .i64 0, .int .u64 0]) (vs := [.int .i64 0, .int .u64 0]) g7 rfl fun b91 H8 g8 => ?_
    have g8 : St H0 ([Prt.one b91 (.cells #[.int .i64 0, .int .u64 0] ty_api_ID (0, 0)), Prt.one y (.cells #[.int .i64 w.n, .int .u64 w.s] ty_api_ID (0, 0))] ++ (mdL c x m ++ ([Prt.one b83 (.cells #[.int .i64 z.n, .int .u64 z.s] ty_api_ID (0, 0)), Prt.one b42 (.cells #[.int .i64 9, .int .i64 0, .int .i64 0, .int .i64 0, .int .i64 r, .int .i64 0, .int .i64 t, .int .u64 0, .int .u64 0] ty_node_Op (0, 0)), Prt.one b31 (.cells #[.int .i64 0, .int .i64 0, .int .u64 0, .int .u64 0, .int .i64 t, .int .u64 (c.a21 + 1)] ty_node_Answer (0, 0)), Prt.one b29 (.cells #[.int .i64 1, .int .i64 n, .int .i64 0, .int .i64 0, .int .i64 9, .int .i64 0, .int .i64 0, .int .i64 0, .int .i64 r, .int .i64 0, .int .i64 t, .int .u64 0, .int .u64 0, .slice none 0 0, .slice none 0 0] ty_world_Event (0, 0)), Prt.one b27 (.cells #[.pointer (some ⟨x.mb, 0, none⟩)] ty_pmodel_Model (0, 0))] ++ M))) H8 := g8
    clear g6 g7
    (repeat first | refine ldI_of (g8.cell (i := 12) rfl rfl) ?_ | refine ldSl_of (g8.cell (i := 12) rfl rfl) ?_ | refine ldP_of (g8.cell (i := 12) rfl rfl) ?_ | refine ldB_of (g8.cell (i := 12) rfl rfl) ?_ | refine ldM_of (g8.cell (i := 12) rfl rfl) ?_ | refine ldI_of (g8.cell (i := 13) rfl rfl) ?_ | refine ldSl_of (g8.cell (i := 13) rfl rfl) ?_ | refine ldP_of (g8.cell (i := 13) rfl rfl) ?_ | refine ldB_of (g8.cell (i := 13) rfl rfl) ?_ | refine ldM_of (g8.cell (i := 13) rfl rfl) ?_ | refine ldI_of (g8.cell (i := 9) rfl rfl) ?_ | refine ldSl_of (g8.cell (i := 9) rfl rfl) ?_ | refine ldP_of (g8.cell (i := 9) rfl rfl) ?_ | refine ldB_of (g8.cell (i := 9) rfl rfl) ?_ | refine ldM_of (g8.cell (i := 9) rfl rfl) ?_ | refine ldI_of (g8.cell (i := 1) rfl rfl) ?_ | refine ldSl_of (g8.cell (i := 1) rfl rfl) ?_ | refine ldP_of (g8.cell (i := 1) rfl rfl) ?_ | refine ldB_of (g8.cell (i := 1) rfl rfl) ?_ | refine ldM_of (g8.cell (i := 1) rfl rfl) ?_ | refine ldI_of (g8.cell (i := 10) rfl rfl) ?_ | refine ldSl_of (g8.cell (i := 10) rfl rfl) ?_ | refine ldP_of (g8.cell (i := 10) rfl rfl) ?_ | refine ldB_of (g8.cell (i := 10) rfl rfl) ?_ | refine ldM_of (g8.cell (i := 10) rfl rfl) ?_ | refine ldI_of (g8.cell (i := 11) rfl rfl) ?_ | refine ldSl_of (g8.cell (i := 11) rfl rfl) ?_ | refine ldP_of (g8.cell (i := 11) rfl rfl) ?_ | refine ldB_of (g8.cell (i := 11) rfl rfl) ?_ | refine ldM_of (g8.cell (i := 11) rfl rfl) ?_)
    refine objC (y := z) hd (St.swapL g8) fun p106 H9 g9 => asPI ⟨?_, ?_, ?_, ?_⟩
    · (repeat first | refine ldI_of (g9.cell (i := 8) rfl rfl) ?_ | refine ldSl_of (g9.cell (i := 8) rfl rfl) ?_ | refine ldP_of (g9.cell (i := 8) rfl rfl) ?_ | refine ldB_of (g9.cell (i := 8) rfl rfl) ?_ | refine ldM_of (g9.cell (i := 8) rfl rfl) ?_ | refine ldI_of (g9.cell (i := 12) rfl rfl) ?_ | refine ldSl_of (g9.cell (i := 12) rfl rfl) ?_ | refine ldP_of (g9.cell (i := 12) rfl rfl) ?_ | refine ldB_of (g9.cell (i := 12) rfl rfl) ?_ | refine ldM_of (g9.cell (i := 12) rfl rfl) ?_ | refine ldI_of (g9.cell (i := 13) rfl rfl) ?_ | refine ldSl_of (g9.cell (i := 13) rfl rfl) ?_ | refine ldP_of (g9.cell (i := 13) rfl rfl) ?_ | refine ldB_of (g9.cell (i := 13) rfl rfl) ?_ | refine ldM_of (g9.cell (i := 13) rfl rfl) ?_)
      rfl
    · (repeat first | refine ldI_of (g9.cell (i := 8) rfl rfl) ?_ | refine ldSl_of (g9.cell (i := 8) rfl rfl) ?_ | refine ldP_of (g9.cell (i := 8) rfl rfl) ?_ | refine ldB_of (g9.cell (i := 8) rfl rfl) ?_ | refine ldM_of (g9.cell (i := 8) rfl rfl) ?_ | refine ldI_of (g9.cell (i := 12) rfl rfl) ?_ | refine ldSl_of (g9.cell (i := 12) rfl rfl) ?_ | refine ldP_of (g9.cell (i := 12) rfl rfl) ?_ | refine ldB_of (g9.cell (i := 12) rfl rfl) ?_ | refine ldM_of (g9.cell (i := 12) rfl rfl) ?_ | refine ldI_of (g9.cell (i := 13) rfl rfl) ?_ | refine ldSl_of (g9.cell (i := 13) rfl rfl) ?_ | refine ldP_of (g9.cell (i := 13) rfl rfl) ?_ | refine ldB_of (g9.cell (i := 13) rfl rfl) ?_ | refine ldM_of (g9.cell (i := 13) rfl rfl) ?_)
      rfl
    · (repeat first | refine ldI_of (g9.cell (i := 8) rfl rfl) ?_ | refine ldSl_of (g9.cell (i := 8) rfl rfl) ?_ | refine ldP_of (g9.cell (i := 8) rfl rfl) ?_ | refine ldB_of (g9.cell (i := 8) rfl rfl) ?_ | refine ldM_of (g9.cell (i := 8) rfl rfl) ?_ | refine ldI_of (g9.cell (i := 12) rfl rfl) ?_ | refine ldSl_of (g9.cell (i := 12) rfl rfl) ?_ | refine ldP_of (g9.cell (i := 12) rfl rfl) ?_ | refine ldB_of (g9.cell (i := 12) rfl rfl) ?_ | refine ldM_of (g9.cell (i := 12) rfl rfl) ?_ | refine ldI_of (g9.cell (i := 13) rfl rfl) ?_ | refine ldSl_of (g9.cell (i := 13) rfl rfl) ?_ | refine ldP_of (g9.cell (i := 13) rfl rfl) ?_ | refine ldB_of (g9.cell (i := 13) rfl rfl) ?_ | refine ldM_of (g9.cell (i := 13) rfl rfl) ?_)
      rfl
    refine objC (y := w) hd g9 fun p114 H10 g10 => asPI ?_
    have g10 : St H0 (mdL c x m ++ ([Prt.one b91 (.cells #[.int .i64 0, .int .u64 0] ty_api_ID (0, 0)), Prt.one y (.cells #[.int .i64 w.n, .int .u64 w.s] ty_api_ID (0, 0))] ++ ([Prt.one b83 (.cells #[.int .i64 z.n, .int .u64 z.s] ty_api_ID (0, 0)), Prt.one b42 (.cells #[.int .i64 9, .int .i64 0, .int .i64 0, .int .i64 0, .int .i64 r, .int .i64 0, .int .i64 t, .int .u64 0, .int .u64 0] ty_node_Op (0, 0)), Prt.one b31 (.cells #[.int .i64 0, .int .i64 0, .int .u64 0, .int .u64 0, .int .i64 t, .int .u64 (c.a21 + 1)] ty_node_Answer (0, 0)), Prt.one b29 (.cells #[.int .i64 1, .int .i64 n, .int .i64 0, .int .i64 0, .int .i64 9, .int .i64 0, .int .i64 0, .int .i64 0, .int .i64 r, .int .i64 0, .int .i64 t, .int .u64 0, .int .u64 0, .slice none 0 0, .slice none 0 0] ty_world_Event (0, 0)), Prt.one b27 (.cells #[.pointer (some ⟨x.mb, 0, none⟩)] ty_pmodel_Model (0, 0))] ++ M))) H10 := g10
    clear g8 g9
    (repeat first | refine ldI_of (g10.cell (i := 11) rfl rfl) ?_ | refine ldSl_of (g10.cell (i := 11) rfl rfl) ?_ | refine ldP_of (g10.cell (i := 11) rfl rfl) ?_ | refine ldB_of (g10.cell (i := 11) rfl rfl) ?_ | refine ldM_of (g10.cell (i := 11) rfl rfl) ?_ | refine ldI_of (g10.cell (i := 12) rfl rfl) ?_ | refine ldSl_of (g10.cell (i := 12) rfl rfl) ?_ | refine ldP_of (g10.cell (i := 12) rfl rfl) ?_ | refine ldB_of (g10.cell (i := 12) rfl rfl) ?_ | refine ldM_of (g10.cell (i := 12) rfl rfl) ?_ | refine ldI_of (g10.cell (i := 10) rfl rfl) ?_ | refine ldSl_of (g10.cell (i := 10) rfl rfl) ?_ | refine ldP_of (g10.cell (i := 10) rfl rfl) ?_ | refine ldB_of (g10.cell (i := 10) rfl rfl) ?_ | refine ldM_of (g10.cell (i := 10) rfl rfl) ?_ | refine ldI_of (g10.cell (i := 9) rfl rfl) ?_ | refine ldSl_of (g10.cell (i := 9) rfl rfl) ?_ | refine ldP_of (g10.cell (i := 9) rfl rfl) ?_ | refine ldB_of (g10.cell (i := 9) rfl rfl) ?_ | refine ldM_of (g10.cell (i := 9) rfl rfl) ?_ | refine ldI_of (g10.cell (i := 8) rfl rfl) ?_ | refine ldSl_of (g10.cell (i := 8) rfl rfl) ?_ | refine ldP_of (g10.cell (i := 8) rfl rfl) ?_ | refine ldB_of (g10.cell (i := 8) rfl rfl) ?_ | refine ldM_of (g10.cell (i := 8) rfl rfl) ?_ | refine ldI_of (g10.cell (i := 7) rfl rfl) ?_ | refine ldSl_of (g10.cell (i := 7) rfl rfl) ?_ | refine ldP_of (g10.cell (i := 7) rfl rfl) ?_ | refine ldB_of (g10.cell (i := 7) rfl rfl) ?_ | refine ldM_of (g10.cell (i := 7) rfl rfl) ?_ | refine ldI_of (g10.cell (i := 13) rfl rfl) ?_ | refine ldSl_of (g10.cell (i := 13) rfl rfl) ?_ | refine ldP_of (g10.cell (i := 13) rfl rfl) ?_ | refine ldB_of (g10.cell (i := 13) rfl rfl) ?_ | refine ldM_of (g10.cell (i := 13) rfl rfl) ?_)
    refine in26 ?_
    rw [decide_eq_true (show r ≥ 0 by omega), decide_eq_true (show r < 8 by omega)]
    refine asBI (bifT ?_)
    (repeat first | refine ldI_of (g10.cell (i := 11) rfl rfl) ?_ | refine ldSl_of (g10.cell (i := 11) rfl rfl) ?_ | refine ldP_of (g10.cell (i := 11) rfl rfl) ?_ | refine ldB_of (g10.cell (i := 11) rfl rfl) ?_ | refine ldM_of (g10.cell (i := 11) rfl rfl) ?_ | refine ldI_of (g10.cell (i := 12) rfl rfl) ?_ | refine ldSl_of (g10.cell (i := 12) rfl rfl) ?_ | refine ldP_of (g10.cell (i := 12) rfl rfl) ?_ | refine ldB_of (g10.cell (i := 12) rfl rfl) ?_ | refine ldM_of (g10.cell (i := 12) rfl rfl) ?_ | refine ldI_of (g10.cell (i := 10) rfl rfl) ?_ | refine ldSl_of (g10.cell (i := 10) rfl rfl) ?_ | refine ldP_of (g10.cell (i := 10) rfl rfl) ?_ | refine ldB_of (g10.cell (i := 10) rfl rfl) ?_ | refine ldM_of (g10.cell (i := 10) rfl rfl) ?_ | refine ldI_of (g10.cell (i := 9) rfl rfl) ?_ | refine ldSl_of (g10.cell (i := 9) rfl rfl) ?_ | refine ldP_of (g10.cell (i := 9) rfl rfl) ?_ | refine ldB_of (g10.cell (i := 9) rfl rfl) ?_ | refine ldM_of (g10.cell (i := 9) rfl rfl) ?_ | refine ldI_of (g10.cell (i := 8) rfl rfl) ?_ | refine ldSl_of (g10.cell (i := 8) rfl rfl) ?_ | refine ldP_of (g10.cell (i := 8) rfl rfl) ?_ | refine ldB_of (g10.cell (i := 8) rfl rfl) ?_ | refine ldM_of (g10.cell (i := 8) rfl rfl) ?_ | refine ldI_of (g10.cell (i := 7) rfl rfl) ?_ | refine ldSl_of (g10.cell (i := 7) rfl rfl) ?_ | refine ldP_of (g10.cell (i := 7) rfl rfl) ?_ | refine ldB_of (g10.cell (i := 7) rfl rfl) ?_ | refine ldM_of (g10.cell (i := 7) rfl rfl) ?_ | refine ldI_of (g10.cell (i := 13) rfl rfl) ?_ | refine ldSl_of (g10.cell (i := 13) rfl rfl) ?_ | refine ldP_of (g10.cell (i := 13) rfl rfl) ?_ | refine ldB_of (g10.cell (i := 13) rfl rfl) ?_ | refine ldM_of (g10.cell (i := 13) rfl rfl) ?_)
    refine in26 ?_
    refine asBI (bifT ?_)
    (repeat first | refine ldI_of (g10.cell (i := 11) rfl rfl) ?_ | refine ldSl_of (g10.cell (i := 11) rfl rfl) ?_ | refine ldP_of (g10.cell (i := 11) rfl rfl) ?_ | refine ldB_of (g10.cell (i := 11) rfl rfl) ?_ | refine ldM_of (g10.cell (i := 11) rfl rfl) ?_ | refine ldI_of (g10.cell (i := 12) rfl rfl) ?_ | refine ldSl_of (g10.cell (i := 12) rfl rfl) ?_ | refine ldP_of (g10.cell (i := 12) rfl rfl) ?_ | refine ldB_of (g10.cell (i := 12) rfl rfl) ?_ | refine ldM_of (g10.cell (i := 12) rfl rfl) ?_ | refine ldI_of (g10.cell (i := 10) rfl rfl) ?_ | refine ldSl_of (g10.cell (i := 10) rfl rfl) ?_ | refine ldP_of (g10.cell (i := 10) rfl rfl) ?_ | refine ldB_of (g10.cell (i := 10) rfl rfl) ?_ | refine ldM_of (g10.cell (i := 10) rfl rfl) ?_ | refine ldI_of (g10.cell (i := 9) rfl rfl) ?_ | refine ldSl_of (g10.cell (i := 9) rfl rfl) ?_ | refine ldP_of (g10.cell (i := 9) rfl rfl) ?_ | refine ldB_of (g10.cell (i := 9) rfl rfl) ?_ | refine ldM_of (g10.cell (i := 9) rfl rfl) ?_ | refine ldI_of (g10.cell (i := 8) rfl rfl) ?_ | refine ldSl_of (g10.cell (i := 8) rfl rfl) ?_ | refine ldP_of (g10.cell (i := 8) rfl rfl) ?_ | refine ldB_of (g10.cell (i := 8) rfl rfl) ?_ | refine ldM_of (g10.cell (i := 8) rfl rfl) ?_ | refine ldI_of (g10.cell (i := 7) rfl rfl) ?_ | refine ldSl_of (g10.cell (i := 7) rfl rfl) ?_ | refine ldP_of (g10.cell (i := 7) rfl rfl) ?_ | refine ldB_of (g10.cell (i := 7) rfl rfl) ?_ | refine ldM_of (g10.cell (i := 7) rfl rfl) ?_ | refine ldI_of (g10.cell (i := 13) rfl rfl) ?_ | refine ldSl_of (g10.cell (i := 13) rfl rfl) ?_ | refine ldP_of (g10.cell (i := 13) rfl rfl) ?_ | refine ldB_of (g10.cell (i := 13) rfl rfl) ?_ | refine ldM_of (g10.cell (i := 13) rfl rfl) ?_)
    intro b383 hb383
    have g11 := g10.alloc (o := .cells #[.int .i64 1, .int .i64 r, .int .i64 0, .int .u64 0, .slice none 0 0, .int .u64 0, .bool false, .bool false, .int .i64 0, .int .u64 0, .slice none 0 0] ty_model_call) hb383
    have er : IntKind.i64.wrap (r + IntKind.i64.wrap (8 * 0)) = r := by rw [show IntKind.i64.wrap (8 * 0) = 0 from rfl, wrap_i64 (by omega) (by omega)]; omega
    rw [er]
    have g11 : St H0 ([Prt.one b383 (.cells #[.int .i64 1, .int .i64 r, .int .i64 0, .int .u64 0, .slice none 0 0, .int .u64 0, .bool false, .bool false, .int .i64 0, .int .u64 0, .slice none 0 0] ty_model_call (0, 0))] ++ (mdL c x m ++ ([Prt.one b91 (.cells #[.int .i64 0, .int .u64 0] ty_api_ID (0, 0)), Prt.one y (.cells #[.int .i64 w.n, .int .u64 w.s] ty_api_ID (0, 0))] ++ ([Prt.one b83 (.cells #[.int .i64 z.n, .int .u64 z.s] ty_api_ID (0, 0)), Prt.one b42 (.cells #[.int .i64 9, .int .i64 0, .int .i64 0, .int .i64 0, .int .i64 r, .int .i64 0, .int .i64 t, .int .u64 0, .int .u64 0] ty_node_Op (0, 0)), Prt.one b31 (.cells #[.int .i64 0, .int .i64 0, .int .u64 0, .int .u64 0, .int .i64 t, .int .u64 (c.a21 + 1)] ty_node_Answer (0, 0)), Prt.one b29 (.cells #[.int .i64 1, .int .i64 n, .int .i64 0, .int .i64 0, .int .i64 9, .int .i64 0, .int .i64 0, .int .i64 0, .int .i64 r, .int .i64 0, .int .i64 t, .int .u64 0, .int .u64 0, .slice none 0 0, .slice none 0 0] ty_world_Event (0, 0)), Prt.one b27 (.cells #[.pointer (some ⟨x.mb, 0, none⟩)] ty_pmodel_Model (0, 0))] ++ M)))) _ := g11
    (repeat first | refine ldI_of (g11.cell (i := 11) rfl rfl) ?_ | refine ldSl_of (g11.cell (i := 11) rfl rfl) ?_ | refine ldP_of (g11.cell (i := 11) rfl rfl) ?_ | refine ldB_of (g11.cell (i := 11) rfl rfl) ?_ | refine ldM_of (g11.cell (i := 11) rfl rfl) ?_ | refine ldI_of (g11.cell (i := 12) rfl rfl) ?_ | refine ldSl_of (g11.cell (i := 12) rfl rfl) ?_ | refine ldP_of (g11.cell (i := 12) rfl rfl) ?_ | refine ldB_of (g11.cell (i := 12) rfl rfl) ?_ | refine ldM_of (g11.cell (i := 12) rfl rfl) ?_)
    refine beginC (cb := b383) (n := n) (r := r) (t := t) hg hd ht hnt hno hla (St.swapL g11) fun H12 g12 => ?_
    refine asBI ?_
    have g12 := St.swapL g12
    have g13 : St H0 (([Prt.one b383 (.cells #[.int .i64 1, .int .i64 r, .int .i64 0, .int .u64 0, .slice none 0 0, .int .u64 0, .bool false, .bool false, .int .i64 0, .int .u64 0, .slice none 0 0] ty_model_call (0, 0))] ++ mdL c x { m with nu := mput m.nu (n, t) (c.a21 + 1), ca := mput m.ca ⟨n, t, c.a21 + 1⟩ b383 }) ++ ([Prt.one b91 (.cells #[.int .i64 0, .int .u64 0] ty_api_ID (0, 0)), Prt.one y (.cells #[.int .i64 w.n, .int .u64 w.s] ty_api_ID (0, 0)), Prt.one b83 (.cells #[.int .i64 z.n, .int .u64 z.s] ty_api_ID (0, 0)), Prt.one b42 (.cells #[.int .i64 9, .int .i64 0, .int .i64 0, .int .i64 0, .int .i64 r, .int .i64 0, .int .i64 t, .int .u64 0, .int .u64 0] ty_node_Op (0, 0)), Prt.one b31 (.cells #[.int .i64 0, .int .i64 0, .int .u64 0, .int .u64 0, .int .i64 t, .int .u64 (c.a21 + 1)] ty_node_Answer (0, 0)), Prt.one b29 (.cells #[.int .i64 1, .int .i64 n, .int .i64 0, .int .i64 0, .int .i64 9, .int .i64 0, .int .i64 0, .int .i64 0, .int .i64 r, .int .i64 0, .int .i64 t, .int .u64 0, .int .u64 0, .slice none 0 0, .slice none 0 0] ty_world_Event (0, 0)), Prt.one b27 (.cells #[.pointer (some ⟨x.mb, 0, none⟩)] ty_pmodel_Model (0, 0))] ++ M)) H12 := g12
    exact hK b383 H12 (St.lesses (M := [_, _, _, _, _, _, _]) (St.swapL g13))
  clear hR87
  have g7 := St.swapL g6
  (repeat first | refine ldI_of (g7.cell (i := 10) rfl rfl) ?_ | refine ldSl_of (g7.cell (i := 10) rfl rfl) ?_ | refine ldP_of (g7.cell (i := 10) rfl rfl) ?_ | refine ldB_of (g7.cell (i := 10) rfl rfl) ?_ | refine ldM_of (g7.cell (i := 10) rfl rfl) ?_ | refine ldI_of (g7.cell (i := 9) rfl rfl) ?_ | refine ldSl_of (g7.cell (i := 9) rfl rfl) ?_ | refine ldP_of (g7.cell (i := 9) rfl rfl) ?_ | refine ldB_of (g7.cell (i := 9) rfl rfl) ?_ | refine ldM_of (g7.cell (i := 9) rfl rfl) ?_ | refine ldI_of (g7.cell (i := 11) rfl rfl) ?_ | refine ldSl_of (g7.cell (i := 11) rfl rfl) ?_ | refine ldP_of (g7.cell (i := 11) rfl rfl) ?_ | refine ldB_of (g7.cell (i := 11) rfl rfl) ?_ | refine ldM_of (g7.cell (i := 11) rfl rfl) ?_ | refine ldI_of (g7.cell (i := 8) rfl rfl) ?_ | refine ldSl_of (g7.cell (i := 8) rfl rfl) ?_ | refine ldP_of (g7.cell (i := 8) rfl rfl) ?_ | refine ldB_of (g7.cell (i := 8) rfl rfl) ?_ | refine ldM_of (g7.cell (i := 8) rfl rfl) ?_ | refine ldI_of (g7.cell (i := 7) rfl rfl) ?_ | refine ldSl_of (g7.cell (i := 7) rfl rfl) ?_ | refine ldP_of (g7.cell (i := 7) rfl rfl) ?_ | refine ldB_of (g7.cell (i := 7) rfl rfl) ?_ | refine ldM_of (g7.cell (i := 7) rfl rfl) ?_)
  refine slotC (k := 1) (n := n) (k2 := 9) (a := 0) (b := 0) (r := r) (t := t) (s := 0) hm hg hn (by omega) g7 fun H8 g8 => ?_
  rw [← hw]
  refine tup2J (agg2I (asI_mk (asI_mk (asBI ?_))))
  refine boxz (c := [.int .i64 0, .int .u64 0]) (vs := [.int .i64 w.n, .int .u64 w.s]) g8 rfl fun b575 H9 g9 => ?_
  exact hQ87 b575 H9 g9
end
end Go.Proofs.Ytknejebggegfjaa

namespace Go.Proofs.Ytknejebggegfjaa
set_option linter.unusedSimpArgs false
set_option linter.unusedVariables false
set_option maxRecDepth 20000
open Go
def svV (f u r : Int) (rp : Option Addr) : Value := .agg #[.int .i64 f, .int .u64 u, .int .i64 1, .int .i64 r, .int .i64 0, .int .u64 0, .slice none 0 0, .int .u64 0, .int .i64 2, .int .i64 0, .slice rp 1 1, .int .u64 0, .int .u64 0, .int .u64 0]
def roV (a1 a2 a3 a4 a5 : Int) (dp : Option Addr) (dn dc : Nat) : Value := .agg #[.int .i64 0, .int .i64 0, .int .i64 a1, .int .u64 a2, .int .u64 a3, .int .i64 a4, .int .u64 a5, .slice none 0 0, .slice dp dn dc, .int .i64 0, .int .i64 0, .bool false]
theorem tup3I {a b c : Value} {K : Value → Value → Value → Prop} (h : K a b c) : tup3 (.tuple #[a, b, c]) K := h
theorem asSlI {p : Option Addr} {n c : Nat} {K : Option Addr → Nat → Nat → Prop} (h : K p n c) : asSl (.slice p n c) K := h
section
variable {H0 H : Hp} {L M N A : List Prt} {i : Nat} {K : Value → Hp → Prop} {c : Cf} {x : MdX} {m : Md}
theorem eqIds0 (hK : K (.bool true) H) : hcall PR f_slices_Equal_Sapi_ID_api_ID ⟨[.slice none 0 0, .slice none 0 0]⟩ H K := by
  apply den_slices_Equal_Sapi_ID_api_ID
  unfold B_slices_Equal_Sapi_ID_api_ID
  refine bif_neqf rfl ⟨fun q H' => q = 0 ∧ H' = H, fun _ _ => 0, ⟨rfl, rfl⟩, ?_⟩
  rintro q H' ⟨rfl, rfl⟩
  exact bif_neg (by decide) hK
theorem eqIds1 {p q : Option Addr} {pc qc : Nat} {y : Id} (h1 : Rd H 2 p 1 (cel wId [y])) (h2 : Rd H 2 q 1 (cel wId [y])) (hK : K (.bool true) H) : hcall PR f_slices_Equal_Sapi_ID_api_ID ⟨[.slice p 1 pc, .slice q 1 qc]⟩ H K := by
  apply den_slices_Equal_Sapi_ID_api_ID
  unfold B_slices_Equal_Sapi_ID_api_ID
  refine bif_neqf rfl ⟨fun t H' => (t = 0 ∨ t = 1) ∧ H' = H, fun t _ => (1 - t).toNat, ⟨.inl rfl, rfl⟩, ?_⟩
  rintro t H' ⟨ht, rfl⟩
  rcases ht with rfl | rfl
  · refine bif_pos (by decide) (idxS wId_len noId h1 (by omega) (by omega) (by decide) fun b o _ _ hc1 => ?_)
    rw [add_mk]
    refine ldI_of (hc1 0 (by omega)) (ldI_of (hc1 1 (by omega)) (idxS wId_len noId h2 (by omega) (by omega) (by decide) fun b' o' _ _ hc2 => ?_))
    rw [add_mk]
    refine ldI_of (hc2 0 (by omega)) (ldI_of (hc2 1 (by omega)) (idNe (asBI (bif_off (by simp) ?_))))
    exact ⟨⟨.inr rfl, rfl⟩, by show (1 - IntKind.i64.wrap (0 + 1)).toNat < ((1 : Int) - 0).toNat; decide⟩
  · exact bif_neg (by decide) hK
theorem orderC {f u : Int} {r cb : Nat} {y : Id} {rp : Option Addr} (hm : m.ok c) (hd : m.nod) (hg : c.good) (hn : 1 ≤ y.n ∧ y.n ≤ c.a0) (hs : m.la.getD (y.n - 1).toNat 0 < y.s) (hs2 : y.s ≤ 72057594037927935) (hr : r < 8)
    (h : St H0 ([Prt.one cb (.cells #[.int .i64 1, .int .i64 (r : Int), .int .i64 0, .int .u64 0, .slice none 0 0, .int .u64 0, .bool false, .bool false, .int .i64 0, .int .u64 0, .slice none 0 0] ty_model_call (0, 0))] ++ (mdL c x m ++ M)) H) (hrd : ∀ (P : List Prt) H', St H0 (P ++ M) H' → Rd H' 2 rp 1 (cel wId [y]))
    (hK : ∀ ob tb t1 t2 H', St H0 ([Prt.one ob (.cells #[.int .i64 y.n, .int .u64 y.s] ty_api_ID (0, 0))] ++ ([Prt.one tb (.cells #[.slice t1 r r, .slice t2 0 0] ty_model_thing (0, 0)), Prt.row 1 t2 0 0 (List.replicate 0 (.int .u64 0)), Prt.row 2 t1 r r (cel wId (List.replicate r noId))] ++ (mdL c x { m with al := mput m.al y tb, la := m.la.set (y.n - 1).toNat y.s } ++ ([Prt.one cb (.cells #[.int .i64 1, .int .i64 (r : Int), .int .i64 0, .int .u64 0, .slice none 0 0, .int .u64 0, .bool false, .bool false, .int .i64 0, .int .u64 0, .slice none 0 0] ty_model_call (0, 0))] ++ M)))) H' → K (.tuple #[.int .u64 0, .slice (some ⟨ob, 0, none⟩) 1 1, .bool true]) H') :
    hcall PR f_model_Model_order ⟨[.pointer (some ⟨x.mb, 0, none⟩), .int .i64 y.n, .pointer (some ⟨cb, 0, none⟩), svV f u (r : Int) rp]⟩ H K := by
  apply den_model_Model_order
  unfold B_model_Model_order
  intro b22 hb22
  have g1 := h.alloc (o := .cells #[.int .i64 f, .int .u64 u, .int .i64 1, .int .i64 (r : Int), .int .i64 0, .int .u64 0, .slice none 0 0, .int .u64 0, .int .i64 2, .int .i64 0, .slice rp 1 1, .int .u64 0, .int .u64 0, .int .u64 0] ty_api_Served) hb22
  have g1 : St H0 ([Prt.one b22 (.cells #[.int .i64 f, .int .u64 u, .int .i64 1, .int .i64 (r : Int), .int .i64 0, .int .u64 0, .slice none 0 0, .int .u64 0, .int .i64 2, .int .i64 0, .slice rp 1 1, .int .u64 0, .int .u64 0, .int .u64 0] ty_api_Served (0, 0)), Prt.one cb (.cells #[.int .i64 1, .int .i64 (r : Int), .int .i64 0, .int .u64 0, .slice none 0 0, .int .u64 0, .bool false, .bool false, .int .i64 0, .int .u64 0, .slice none 0 0] ty_model_call (0, 0))] ++ (mdL c x m ++ M)) _ := g1
  clear h
  (repeat first | refine ldI_of (g1.cell (i := 0) rfl rfl) ?_ | refine ldSl_of (g1.cell (i := 0) rfl rfl) ?_ | refine ldP_of (g1.cell (i := 0) rfl rfl) ?_ | refine ldB_of (g1.cell (i := 0) rfl rfl) ?_ | refine ldM_of (g1.cell (i := 0) rfl rfl) ?_ | refine ldI_of (g1.cell (i := 1) rfl rfl) ?_ | refine ldSl_of (g1.cell (i := 1) rfl rfl) ?_ | refine ldP_of (g1.cell (i := 1) rfl rfl) ?_ | refine ldB_of (g1.cell (i := 1) rfl rfl) ?_ | refine ldM_of (g1.cell (i := 1) rfl rfl) ?_)
  have gg := hrd ([Prt.one b22 (.cells #[.int .i64 f, .int .u64 u, .int .i64 1, .int .i64 (r : Int), .int .i64 0, .int .u64 0, .slice none 0 0, .int .u64 0, .int .i64 2, .int .i64 0, .slice rp 1 1, .int .u64 0, .int .u64 0, .int .u64 0] ty_api_Served (0, 0)), Prt.one cb (.cells #[.int .i64 1, .int .i64 (r : Int), .int .i64 0, .int .u64 0, .slice none 0 0, .int .u64 0, .bool false, .bool false, .int .i64 0, .int .u64 0, .slice none 0 0] ty_model_call (0, 0))] ++ mdL c x m) _ (by rw [List.append_assoc]; exact g1)
  refine idxS wId_len noId gg (by omega) (by omega) (by decide) fun b o _ _ hcc => ?_
  rw [add_mk]
  refine ldI_of (hcc 0 (by omega)) (ldI_of (hcc 1 (by omega)) ?_)
  refine ldI_of (g1.cell (i := 1) rfl rfl) ⟨by decide, ldI_of (g1.cell (i := 1) rfl rfl) ⟨by decide, ?_⟩⟩
  have e1 : Int.tmod (r : Int) 8 = ((r : Nat) : Int) := by rw [Int.tmod_eq_emod_of_nonneg (by omega)]; omega
  have e2 : IntKind.i64.wrap (Int.tdiv (r : Int) 8) = ((0 : Nat) : Int) := by rw [Int.tdiv_eq_ediv_of_nonneg (by omega), wrap_i64 (by omega) (by omega)]; omega
  have e3 : ([y].getD (0 : Int).toNat noId) = y := rfl
  rw [e1, e2]
  refine bornC (y := y) (r := r) (v := 0) hm hd hg hn hs hs2 hr (by omega) (St.swapL g1) fun tb t1 t2 H2 g2 => asBI ?_
  have g2 : St H0 ([Prt.one tb (.cells #[.slice t1 r r, .slice t2 0 0] ty_model_thing (0, 0)), Prt.row 1 t2 0 0 (List.replicate 0 (.int .u64 0)), Prt.row 2 t1 r r (cel wId (List.replicate r noId))] ++ (mdL c x { m with al := mput m.al y tb, la := m.la.set (y.n - 1).toNat y.s } ++ ([Prt.one b22 (.cells #[.int .i64 f, .int .u64 u, .int .i64 1, .int .i64 (r : Int), .int .i64 0, .int .u64 0, .slice none 0 0, .int .u64 0, .int .i64 2, .int .i64 0, .slice rp 1 1, .int .u64 0, .int .u64 0, .int .u64 0] ty_api_Served (0, 0)), Prt.one cb (.cells #[.int .i64 1, .int .i64 (r : Int), .int .i64 0, .int .u64 0, .slice none 0 0, .int .u64 0, .bool false, .bool false, .int .i64 0, .int .u64 0, .slice none 0 0] ty_model_call (0, 0))] ++ M))) H2 := g2
  refine bif_off rfl ?_
  refine ldSl_of (g2.cell (i := 10) rfl rfl) ?_
  have gg := hrd ([Prt.one tb (.cells #[.slice t1 r r, .slice t2 0 0] ty_model_thing (0, 0)), Prt.row 1 t2 0 0 (List.replicate 0 (.int .u64 0)), Prt.row 2 t1 r r (cel wId (List.replicate r noId))] ++ (mdL c x { m with al := mput m.al y tb, la := m.la.set (y.n - 1).toNat y.s } ++ [Prt.one b22 (.cells #[.int .i64 f, .int .u64 u, .int .i64 1, .int .i64 (r : Int), .int .i64 0, .int .u64 0, .slice none 0 0, .int .u64 0, .int .i64 2, .int .i64 0, .slice rp 1 1, .int .u64 0, .int .u64 0, .int .u64 0] ty_api_Served (0, 0)), Prt.one cb (.cells #[.int .i64 1, .int .i64 (r : Int), .int .i64 0, .int .u64 0, .slice none 0 0, .int .u64 0, .bool false, .bool false, .int .i64 0, .int .u64 0, .slice none 0 0] ty_model_call (0, 0))])) H2 (by rw [List.append_assoc, List.append_assoc]; exact g2)
  refine idxS wId_len noId gg (by omega) (by omega) (by decide) fun b3 o3 _ _ hc3 => ?_
  rw [add_mk]
  refine ldI_of (hc3 0 (by omega)) (ldI_of (hc3 1 (by omega)) ?_)
  intro b48 hb48
  have g3 := St.alloc (o := .cells #[.int .i64 y.n, .int .u64 y.s] ty_api_ID) g2 hb48
  refine hK b48 tb t1 t2 _ ?_
  exact St.midless (N := [_, _, _, _] ++ mdL c x { m with al := mput m.al y tb, la := m.la.set (y.n - 1).toNat y.s }) (A := Prt.one b22 (.cells #[.int .i64 f, .int .u64 u, .int .i64 1, .int .i64 (r : Int), .int .i64 0, .int .u64 0, .slice none 0 0, .int .u64 0, .int .i64 2, .int .i64 0, .slice rp 1 1, .int .u64 0, .int .u64 0, .int .u64 0] ty_api_Served (0, 0))) (M := [Prt.one cb (.cells #[.int .i64 1, .int .i64 (r : Int), .int .i64 0, .int .u64 0, .slice none 0 0, .int .u64 0, .bool false, .bool false, .int .i64 0, .int .u64 0, .slice none 0 0] ty_model_call (0, 0))] ++ M) g3
theorem servedNone {f u r n : Int} {rp : Option Addr} (hd : m.nod) (hl : mlook m.ca ⟨f, n, u⟩ = none) (h : St H0 (mdL c x m ++ M) H) (hK : ∀ H', St H0 (mdL c x m ++ M) H' → K (.bool false) H') :
    hcall PR f_model_Model_served ⟨[.pointer (some ⟨x.mb, 0, none⟩), .int .i64 n, svV f u r rp]⟩ H K := by
  apply den_model_Model_served
  unfold B_model_Model_served
  intro b21 hb21
  have g1 := h.alloc (o := .cells #[.int .i64 f, .int .u64 u, .int .i64 1, .int .i64 r, .int .i64 0, .int .u64 0, .slice none 0 0, .int .u64 0, .int .i64 2, .int .i64 0, .slice rp 1 1, .int .u64 0, .int .u64 0, .int .u64 0] ty_api_Served) hb21
  have g1 : St H0 ([Prt.one b21 (.cells #[.int .i64 f, .int .u64 u, .int .i64 1, .int .i64 r, .int .i64 0, .int .u64 0, .slice none 0 0, .int .u64 0, .int .i64 2, .int .i64 0, .slice rp 1 1, .int .u64 0, .int .u64 0, .int .u64 0] ty_api_Served (0, 0))] ++ (mdL c x m ++ M)) _ := g1
  (repeat first | refine ldI_of (g1.cell (i := 0) rfl rfl) ?_ | refine ldSl_of (g1.cell (i := 0) rfl rfl) ?_ | refine ldP_of (g1.cell (i := 0) rfl rfl) ?_ | refine ldB_of (g1.cell (i := 0) rfl rfl) ?_ | refine ldM_of (g1.cell (i := 0) rfl rfl) ?_ | refine ldI_of (g1.cell (i := 1) rfl rfl) ?_ | refine ldSl_of (g1.cell (i := 1) rfl rfl) ?_ | refine ldP_of (g1.cell (i := 1) rfl rfl) ?_ | refine ldB_of (g1.cell (i := 1) rfl rfl) ?_ | refine ldM_of (g1.cell (i := 1) rfl rfl) ?_)
  refine St.look g1 (i := 3) rfl nmKey mt_call mz_call hd.ca ⟨f, n, u⟩ false ?_
  rw [hl]
  exact hK _ (St.less g1)
theorem servedAgain {f u n : Int} {r : Int} {cb : Nat} {rp qp : Option Addr} (hd : m.nod) (hl : mlook m.ca ⟨f, n, u⟩ = some cb) (h : St H0 ([Prt.one cb (.cells #[.int .i64 1, .int .i64 r, .int .i64 0, .int .u64 0, .slice none 0 0, .int .u64 0, .bool true, .bool false, .int .i64 0, .int .u64 0, .slice qp 1 1] ty_model_call (0, 0))] ++ (mdL c x m ++ M)) H) (hK : ∀ H', Keep Nothing H0 H' → K (.bool false) H') :
    hcall PR f_model_Model_served ⟨[.pointer (some ⟨x.mb, 0, none⟩), .int .i64 n, svV f u r rp]⟩ H K := by
  apply den_model_Model_served
  unfold B_model_Model_served
  intro b21 hb21
  have g1 := h.alloc (o := .cells #[.int .i64 f, .int .u64 u, .int .i64 1, .int .i64 r, .int .i64 0, .int .u64 0, .slice none 0 0, .int .u64 0, .int .i64 2, .int .i64 0, .slice rp 1 1, .int .u64 0, .int .u64 0, .int .u64 0] ty_api_Served) hb21
  have g1 : St H0 ([Prt.one b21 (.cells #[.int .i64 f, .int .u64 u, .int .i64 1, .int .i64 r, .int .i64 0, .int .u64 0, .slice none 0 0, .int .u64 0, .int .i64 2, .int .i64 0, .slice rp 1 1, .int .u64 0, .int .u64 0, .int .u64 0] ty_api_Served (0, 0)), Prt.one cb (.cells #[.int .i64 1, .int .i64 r, .int .i64 0, .int .u64 0, .slice none 0 0, .int .u64 0, .bool true, .bool false, .int .i64 0, .int .u64 0, .slice qp 1 1] ty_model_call (0, 0))] ++ (mdL c x m ++ M)) _ := g1
  (repeat first | refine ldI_of (g1.cell (i := 0) rfl rfl) ?_ | refine ldSl_of (g1.cell (i := 0) rfl rfl) ?_ | refine ldP_of (g1.cell (i := 0) rfl rfl) ?_ | refine ldB_of (g1.cell (i := 0) rfl rfl) ?_ | refine ldM_of (g1.cell (i := 0) rfl rfl) ?_ | refine ldI_of (g1.cell (i := 1) rfl rfl) ?_ | refine ldSl_of (g1.cell (i := 1) rfl rfl) ?_ | refine ldP_of (g1.cell (i := 1) rfl rfl) ?_ | refine ldB_of (g1.cell (i := 1) rfl rfl) ?_ | refine ldM_of (g1.cell (i := 1) rfl rfl) ?_ | refine ldI_of (g1.cell (i := 2) rfl rfl) ?_ | refine ldSl_of (g1.cell (i := 2) rfl rfl) ?_ | refine ldP_of (g1.cell (i := 2) rfl rfl) ?_ | refine ldB_of (g1.cell (i := 2) rfl rfl) ?_ | refine ldM_of (g1.cell (i := 2) rfl rfl) ?_)
  refine St.look g1 (i := 4) rfl nmKey mt_call mz_call hd.ca ⟨f, n, u⟩ false ?_
  rw [hl]
  refine ldB_of (g1.cell (i := 1) rfl rfl) ?_
  exact hK _ g1.keep
theorem servedOnce {f u : Int} {r cb : Nat} {y : Id} {rp : Option Addr} (hm : m.ok c) (hd : m.nod) (hg : c.good) (hn : 1 ≤ y.n ∧ y.n ≤ c.a0) (hs : m.la.getD (y.n - 1).toNat 0 < y.s) (hs2 : y.s ≤ 72057594037927935) (hr : r < 8) (hl : mlook m.ca ⟨f, y.n, u⟩ = some cb)
    (h : St H0 ([Prt.one cb (.cells #[.int .i64 1, .int .i64 (r : Int), .int .i64 0, .int .u64 0, .slice none 0 0, .int .u64 0, .bool false, .bool false, .int .i64 0, .int .u64 0, .slice none 0 0] ty_model_call (0, 0))] ++ (mdL c x m ++ M)) H) (hrd : ∀ (P : List Prt) H', St H0 (P ++ M) H' → Rd H' 2 rp 1 (cel wId [y]))
    (hK : ∀ ob tb t1 t2 H', St H0 ([Prt.one tb (.cells #[.slice t1 r r, .slice t2 0 0] ty_model_thing (0, 0)), Prt.row 1 t2 0 0 (List.replicate 0 (.int .u64 0)), Prt.row 2 t1 r r (cel wId (List.replicate r noId))] ++ (mdL c x { m with al := mput m.al y tb, la := m.la.set (y.n - 1).toNat y.s } ++ ([Prt.one cb (.cells #[.int .i64 1, .int .i64 (r : Int), .int .i64 0, .int .u64 0, .slice none 0 0, .int .u64 0, .bool true, .bool false, .int .i64 0, .int .u64 0, .slice (some ⟨ob, 0, none⟩) 1 1] ty_model_call (0, 0))] ++ M))) H' → K (.bool true) H') :
    hcall PR f_model_Model_served ⟨[.pointer (some ⟨x.mb, 0, none⟩), .int .i64 y.n, svV f u (r : Int) rp]⟩ H K := by
  apply den_model_Model_served
  unfold B_model_Model_served
  intro b21 hb21
  have g1 := h.alloc (o := .cells #[.int .i64 f, .int .u64 u, .int .i64 1, .int .i64 (r : Int), .int .i64 0, .int .u64 0, .slice none 0 0, .int .u64 0, .int .i64 2, .int .i64 0, .slice rp 1 1, .int .u64 0, .int .u64 0, .int .u64 0] ty_api_Served) hb21
  have g1 : St H0 ([Prt.one b21 (.cells #[.int .i64 f, .int .u64 u, .int .i64 1, .int .i64 (r : Int), .int .i64 0, .int .u64 0, .slice none 0 0, .int .u64 0, .int .i64 2, .int .i64 0, .slice rp 1 1, .int .u64 0, .int .u64 0, .int .u64 0] ty_api_Served (0, 0)), Prt.one cb (.cells #[.int .i64 1, .int .i64 (r : Int), .int .i64 0, .int .u64 0, .slice none 0 0, .int .u64 0, .bool false, .bool false, .int .i64 0, .int .u64 0, .slice none 0 0] ty_model_call (0, 0))] ++ (mdL c x m ++ M)) _ := g1
  clear h
  (repeat first | refine ldI_of (g1.cell (i := 0) rfl rfl) ?_ | refine ldSl_of (g1.cell (i := 0) rfl rfl) ?_ | refine ldP_of (g1.cell (i := 0) rfl rfl) ?_ | refine ldB_of (g1.cell (i := 0) rfl rfl) ?_ | refine ldM_of (g1.cell (i := 0) rfl rfl) ?_ | refine ldI_of (g1.cell (i := 1) rfl rfl) ?_ | refine ldSl_of (g1.cell (i := 1) rfl rfl) ?_ | refine ldP_of (g1.cell (i := 1) rfl rfl) ?_ | refine ldB_of (g1.cell (i := 1) rfl rfl) ?_ | refine ldM_of (g1.cell (i := 1) rfl rfl) ?_ | refine ldI_of (g1.cell (i := 2) rfl rfl) ?_ | refine ldSl_of (g1.cell (i := 2) rfl rfl) ?_ | refine ldP_of (g1.cell (i := 2) rfl rfl) ?_ | refine ldB_of (g1.cell (i := 2) rfl rfl) ?_ | refine ldM_of (g1.cell (i := 2) rfl rfl) ?_)
  refine St.look g1 (i := 4) rfl nmKey mt_call mz_call hd.ca ⟨f, y.n, u⟩ false ?_
  rw [hl]
  refine ldB_of (g1.cell (i := 1) rfl rfl) ?_
  refine ldI_of (g1.cell (i := 0) rfl rfl) (ldI_of (g1.cell (i := 1) rfl rfl) (bif_neqf rfl ?_))
  refine ldI_of (g1.cell (i := 0) rfl rfl) (ldI_of (g1.cell (i := 1) rfl rfl) (bif_neqf rfl ?_))
  refine ldI_of (g1.cell (i := 0) rfl rfl) (ldI_of (g1.cell (i := 0) rfl rfl) (ldI_of (g1.cell (i := 1) rfl rfl) (ldI_of (g1.cell (i := 1) rfl rfl) (idNe (asBI (bif_off (by simp) ?_))))))
  refine ldI_of (g1.cell (i := 0) rfl rfl) (ldI_of (g1.cell (i := 1) rfl rfl) (bif_neqf rfl ?_))
  refine ldSl_of (g1.cell (i := 0) rfl rfl) (ldSl_of (g1.cell (i := 1) rfl rfl) (eqIds0 (asBI (bif_off rfl ?_))))
  refine ldI_of (g1.cell (i := 0) rfl rfl) (bif_neqf rfl ?_)
  (repeat first | refine ldI_of (g1.cell (i := 0) rfl rfl) ?_ | refine ldSl_of (g1.cell (i := 0) rfl rfl) ?_ | refine ldP_of (g1.cell (i := 0) rfl rfl) ?_ | refine ldB_of (g1.cell (i := 0) rfl rfl) ?_ | refine ldM_of (g1.cell (i := 0) rfl rfl) ?_)
  refine orderC (f := f) (u := u) (y := y) (r := r) (rp := rp) (M := [Prt.one b21 (.cells #[.int .i64 f, .int .u64 u, .int .i64 1, .int .i64 (r : Int), .int .i64 0, .int .u64 0, .slice none 0 0, .int .u64 0, .int .i64 2, .int .i64 0, .slice rp 1 1, .int .u64 0, .int .u64 0, .int .u64 0] ty_api_Served (0, 0))] ++ M) hm hd hg hn hs hs2 hr (St.pick g1 9 [1, 2, 3, 4, 5, 6, 7, 8, 0] rfl rfl) (fun P H' h' => hrd (P ++ [_]) H' (by rw [List.append_assoc]; exact h')) fun ob tb t1 t2 H2 g2 => ?_
  refine tup3I (asI_mk (asSlI (asBI (bif_off rfl ?_))))
  refine ldI_of (g2.cell (i := 12) rfl rfl) (bif_neqf rfl ?_)
  refine ldSl_of (g2.cell (i := 12) rfl rfl) ?_
  have gg := hrd ([Prt.one ob (.cells #[.int .i64 y.n, .int .u64 y.s] ty_api_ID (0, 0)), Prt.one tb (.cells #[.slice t1 r r, .slice t2 0 0] ty_model_thing (0, 0)), Prt.row 1 t2 0 0 (List.replicate 0 (.int .u64 0)), Prt.row 2 t1 r r (cel wId (List.replicate r noId))] ++ (mdL c x { m with al := mput m.al y tb, la := m.la.set (y.n - 1).toNat y.s } ++ [Prt.one cb (.cells #[.int .i64 1, .int .i64 (r : Int), .int .i64 0, .int .u64 0, .slice none 0 0, .int .u64 0, .bool false, .bool false, .int .i64 0, .int .u64 0, .slice none 0 0] ty_model_call (0, 0)), Prt.one b21 (.cells #[.int .i64 f, .int .u64 u, .int .i64 1, .int .i64 (r : Int), .int .i64 0, .int .u64 0, .slice none 0 0, .int .u64 0, .int .i64 2, .int .i64 0, .slice rp 1 1, .int .u64 0, .int .u64 0, .int .u64 0] ty_api_Served (0, 0))])) H2 (by rw [List.append_assoc, List.append_assoc]; exact g2)
  refine eqIds1 (y := y) gg (g2.one_rd (i := 0) (n := 1) rfl rfl) (asBI (bif_off rfl ?_))
  (try simp only [asI_mk', asB_mk, asP_mk, asA_mk, asM_mk, asSl_mk, asStr_mk, tup2_mk, tup3_mk, agg1_mk, agg2_mk, agg3_mk, agg4_mk, asAggm, unCons_mk, unNil_mk, asTup_mk, extractD0, extractD1, List.toList_toArray, nilP_mk, add_mk, Nat.zero_add, Nat.add_zero, condT, condF, Bool.not_true, Bool.not_false, Option.isNone_some, Option.isNone_none])
  refine g2.put (i := 11) rfl (show 6 < 11 by decide) fun H3 g3 => ?_
  refine g3.put (i := 11) rfl (show 9 < 11 by decide) fun H4 g4 => ?_
  refine g4.put (i := 11) rfl (show 10 < 11 by decide) fun H5 g5 => ?_
  have g5 : St H0 ([Prt.one ob (.cells #[.int .i64 y.n, .int .u64 y.s] ty_api_ID (0, 0)), Prt.one tb (.cells #[.slice t1 r r, .slice t2 0 0] ty_model_thing (0, 0)), Prt.row 1 t2 0 0 (List.replicate 0 (.int .u64 0)), Prt.row 2 t1 r r (cel wId (List.replicate r noId))] ++ (mdL c x { m with al := mput m.al y tb, la := m.la.set (y.n - 1).toNat y.s } ++ ([Prt.one cb (.cells #[.int .i64 1, .int .i64 (r : Int), .int .i64 0, .int .u64 0, .slice none 0 0, .int .u64 0, .bool true, .bool false, .int .i64 0, .int .u64 0, .slice (some ⟨ob, 0, none⟩) 1 1] ty_model_call (0, 0)), Prt.one b21 (.cells #[.int .i64 f, .int .u64 u, .int .i64 1, .int .i64 (r : Int), .int .i64 0, .int .u64 0, .slice none 0 0, .int .u64 0, .int .i64 2, .int .i64 0, .slice rp 1 1, .int .u64 0, .int .u64 0, .int .u64 0] ty_api_Served (0, 0))] ++ M))) H5 := g5
  refine hK ob tb t1 t2 H5 ?_
  exact St.midless (N := [_, _, _] ++ (mdL c x { m with al := mput m.al y tb, la := m.la.set (y.n - 1).toNat y.s } ++ [Prt.one cb (.cells #[.int .i64 1, .int .i64 (r : Int), .int .i64 0, .int .u64 0, .slice none 0 0, .int .u64 0, .bool true, .bool false, .int .i64 0, .int .u64 0, .slice (some ⟨ob, 0, none⟩) 1 1] ty_model_call (0, 0))])) (A := Prt.one b21 (.cells #[.int .i64 f, .int .u64 u, .int .i64 1, .int .i64 (r : Int), .int .i64 0, .int .u64 0, .slice none 0 0, .int .u64 0, .int .i64 2, .int .i64 0, .slice rp 1 1, .int .u64 0, .int .u64 0, .int .u64 0] ty_api_Served (0, 0))) (M := M) (St.less g5)
theorem seeDoC {n k2 b r t a1 a2 a3 a4 a5 : Int} (hg : c.good) (hn : 1 ≤ n ∧ n ≤ c.a0) (h : St H0 (mdL c x m ++ M) H)
    (hdo : ∀ (N : List Prt) H', N.length = 2 → St H0 (mdL c x m ++ (N ++ M)) H' → hcall PR f_model_Model_does ⟨[.pointer (some ⟨x.mb, 0, none⟩), evV 1 n k2 0 b r t, anV a1 a2 a3 a4 a5]⟩ H' fun v Hx => asB v fun t => K (.bool t) Hx) :
    hcall PR f_model_Model_See ⟨[.pointer (some ⟨x.mb, 0, none⟩), evV 1 n k2 0 b r t, roV a1 a2 a3 a4 a5 none 0 0]⟩ H K := by
  apply den_model_Model_See
  unfold B_model_Model_See
  have h1 := hg.a1
  intro b37 hb37
  have g1 := h.alloc (o := .cells #[.int .i64 1, .int .i64 n, .int .i64 0, .int .i64 0, .int .i64 k2, .int .i64 0, .int .i64 b, .int .i64 0, .int .i64 r, .int .i64 0, .int .i64 t, .int .u64 0, .int .u64 0, .slice none 0 0, .slice none 0 0] ty_world_Event) hb37
  intro b39 hb39
  have g2 := g1.alloc (o := .cells #[.int .i64 0, .int .i64 0, .int .i64 a1, .int .u64 a2, .int .u64 a3, .int .i64 a4, .int .u64 a5, .slice none 0 0, .slice none 0 0, .int .i64 0, .int .i64 0, .bool false] ty_world_Row) hb39
  have g2 : St H0 ([Prt.one b39 (.cells #[.int .i64 0, .int .i64 0, .int .i64 a1, .int .u64 a2, .int .u64 a3, .int .i64 a4, .int .u64 a5, .slice none 0 0, .slice none 0 0, .int .i64 0, .int .i64 0, .bool false] ty_world_Row (0, 0)), Prt.one b37 (.cells #[.int .i64 1, .int .i64 n, .int .i64 0, .int .i64 0, .int .i64 k2, .int .i64 0, .int .i64 b, .int .i64 0, .int .i64 r, .int .i64 0, .int .i64 t, .int .u64 0, .int .u64 0, .slice none 0 0, .slice none 0 0] ty_world_Event (0, 0))] ++ (mdL c x m ++ M)) _ := g2
  clear g1 h
  intro R41 hR41
  have hQ41 : ∀ Hx, St H0 ([Prt.one b39 (.cells #[.int .i64 0, .int .i64 0, .int .i64 a1, .int .u64 a2, .int .u64 a3, .int .i64 a4, .int .u64 a5, .slice none 0 0, .slice none 0 0, .int .i64 0, .int .i64 0, .bool false] ty_world_Row (0, 0)), Prt.one b37 (.cells #[.int .i64 1, .int .i64 n, .int .i64 0, .int .i64 0, .int .i64 k2, .int .i64 0, .int .i64 b, .int .i64 0, .int .i64 r, .int .i64 0, .int .i64 t, .int .u64 0, .int .u64 0, .slice none 0 0, .slice none 0 0] ty_world_Event (0, 0))] ++ (mdL c x m ++ M)) Hx → R41 true Hx := fun Hx g3 => by
    refine hR41 true Hx ?_
    clear hR41
    intro R44 hR44
    have hQ44 : R44 false Hx := by
      refine hR44 false Hx ?_
      clear hR44
      intro R48 hR48
      have hQ48 : R48 false Hx := by
        refine hR48 false Hx ?_
        clear hR48
        refine bif_off rfl ?_
        refine ldI_of (g3.cell (i := 1) rfl rfl) (bif_eq rfl (ldI_of (g3.cell (i := 1) rfl rfl) (bif_pos (by decide) ?_)))
        refine ldI_of (g3.cell (i := 1) rfl rfl) (ldI_of (g3.cell (i := 2) rfl rfl) (bif_pos (by omega) ?_))
        (repeat first | refine ldI_of (g3.cell (i := 0) rfl rfl) ?_ | refine ldSl_of (g3.cell (i := 0) rfl rfl) ?_ | refine ldP_of (g3.cell (i := 0) rfl rfl) ?_ | refine ldB_of (g3.cell (i := 0) rfl rfl) ?_ | refine ldM_of (g3.cell (i := 0) rfl rfl) ?_ | refine ldI_of (g3.cell (i := 1) rfl rfl) ?_ | refine ldSl_of (g3.cell (i := 1) rfl rfl) ?_ | refine ldP_of (g3.cell (i := 1) rfl rfl) ?_ | refine ldB_of (g3.cell (i := 1) rfl rfl) ?_ | refine ldM_of (g3.cell (i := 1) rfl rfl) ?_)
        exact hdo _ Hx rfl (St.swapL g3)
      clear hR48
      refine ldI_of (g3.cell (i := 1) rfl rfl) (bif_eq rfl (ldI_of (g3.cell (i := 0) rfl rfl) ?_))
      exact hQ48
    clear hR44
    refine ldI_of (g3.cell (i := 1) rfl rfl) (bif_eq rfl ?_)
    exact hQ44
  clear hR41
  refine ldI_of (g2.cell (i := 1) rfl rfl) (bif_pos hn.1 (ldI_of (g2.cell (i := 1) rfl rfl) (ldI_of (g2.cell (i := 2) rfl rfl) ?_)))
  rw [decide_eq_true hn.2]
  exact hQ41 _ g2
theorem seeServeC {n f u r : Int} {db : Nat} {rp : Option Addr} {j : Nat} (hg : c.good) (hn : 1 ≤ n ∧ n ≤ c.a0) (h : St H0 (mdL c x m ++ M) H) (hj : M[j]? = some (Prt.one db (.cells #[.int .i64 f, .int .u64 u, .int .i64 1, .int .i64 r, .int .i64 0, .int .u64 0, .slice none 0 0, .int .u64 0, .int .i64 2, .int .i64 0, .slice rp 1 1, .int .u64 0, .int .u64 0, .int .u64 0] ty_api_Served (0, 0))))
    (hsv : ∀ (N : List Prt) H', N.length = 3 → St H0 (mdL c x m ++ (N ++ M)) H' → hcall PR f_model_Model_served ⟨[.pointer (some ⟨x.mb, 0, none⟩), .int .i64 n, svV f u r rp]⟩ H' fun v Hx => asB v fun t => K (.bool t) Hx) :
    hcall PR f_model_Model_See ⟨[.pointer (some ⟨x.mb, 0, none⟩), evV 7 n 0 0 0 0 0, roV 0 0 0 0 0 (some ⟨db, 0, none⟩) 1 1]⟩ H K := by
  apply den_model_Model_See
  unfold B_model_Model_See
  have h1 := hg.a1
  intro b37 hb37
  have g1 := h.alloc (o := .cells #[.int .i64 7, .int .i64 n, .int .i64 0, .int .i64 0, .int .i64 0, .int .i64 0, .int .i64 0, .int .i64 0, .int .i64 0, .int .i64 0, .int .i64 0, .int .u64 0, .int .u64 0, .slice none 0 0, .slice none 0 0] ty_world_Event) hb37
  intro b39 hb39
  have g2 := g1.alloc (o := .cells #[.int .i64 0, .int .i64 0, .int .i64 0, .int .u64 0, .int .u64 0, .int .i64 0, .int .u64 0, .slice none 0 0, .slice (some ⟨db, 0, none⟩) 1 1, .int .i64 0, .int .i64 0, .bool false] ty_world_Row) hb39
  have g2 : St H0 ([Prt.one b39 (.cells #[.int .i64 0, .int .i64 0, .int .i64 0, .int .u64 0, .int .u64 0, .int .i64 0, .int .u64 0, .slice none 0 0, .slice (some ⟨db, 0, none⟩) 1 1, .int .i64 0, .int .i64 0, .bool false] ty_world_Row (0, 0)), Prt.one b37 (.cells #[.int .i64 7, .int .i64 n, .int .i64 0, .int .i64 0, .int .i64 0, .int .i64 0, .int .i64 0, .int .i64 0, .int .i64 0, .int .i64 0, .int .i64 0, .int .u64 0, .int .u64 0, .slice none 0 0, .slice none 0 0] ty_world_Event (0, 0))] ++ (mdL c x m ++ M)) _ := g2
  clear g1 h
  intro R41 hR41
  have hQ41 : ∀ Hx, St H0 ([Prt.one b39 (.cells #[.int .i64 0, .int .i64 0, .int .i64 0, .int .u64 0, .int .u64 0, .int .i64 0, .int .u64 0, .slice none 0 0, .slice (some ⟨db, 0, none⟩) 1 1, .int .i64 0, .int .i64 0, .bool false] ty_world_Row (0, 0)), Prt.one b37 (.cells #[.int .i64 7, .int .i64 n, .int .i64 0, .int .i64 0, .int .i64 0, .int .i64 0, .int .i64 0, .int .i64 0, .int .i64 0, .int .i64 0, .int .i64 0, .int .u64 0, .int .u64 0, .slice none 0 0, .slice none 0 0] ty_world_Event (0, 0))] ++ (mdL c x m ++ M)) Hx → R41 true Hx := fun Hx g3 => by
    refine hR41 true Hx ?_
    clear hR41
    intro R44 hR44
    have hQ44 : R44 false Hx := by
      refine hR44 false Hx ?_
      clear hR44
      intro R48 hR48
      have hQ48 : R48 false Hx := by
        refine hR48 false Hx ?_
        clear hR48
        refine bif_off rfl ?_
        refine ldI_of (g3.cell (i := 1) rfl rfl) (bif_ne (by decide) (ldI_of (g3.cell (i := 1) rfl rfl) (bif_eq rfl (ldSl_of (g3.cell (i := 0) rfl rfl) ?_))))
        refine ⟨fun t H' => (t = 0 ∧ H' = Hx) ∨ (t = 1 ∧ K (.bool true) H'), fun t _ => (1 - t).toNat, .inl ⟨rfl, rfl⟩, ?_⟩
        rintro t H' (⟨rfl, rfl⟩ | ⟨rfl, hk⟩)
        rotate_left
        · exact bif_neg (by decide) hk
        refine bif_pos (by decide) ?_
        have hj3 : ([Prt.one b39 (.cells #[.int .i64 0, .int .i64 0, .int .i64 0, .int .u64 0, .int .u64 0, .int .i64 0, .int .u64 0, .slice none 0 0, .slice (some ⟨db, 0, none⟩) 1 1, .int .i64 0, .int .i64 0, .bool false] ty_world_Row (0, 0)), Prt.one b37 (.cells #[.int .i64 7, .int .i64 n, .int .i64 0, .int .i64 0, .int .i64 0, .int .i64 0, .int .i64 0, .int .i64 0, .int .i64 0, .int .i64 0, .int .i64 0, .int .u64 0, .int .u64 0, .slice none 0 0, .slice none 0 0] ty_world_Event (0, 0))] ++ (mdL c x m ++ M))[j + 9]? = _ := hj
        refine idxA_of (k := 14) (n := 1) (g3.one_rd (i := j + 9) (n := 1) (k := 14) hj3 rfl) (by decide) (by decide) fun b o hpp hcc => ?_
        simp only [Int.toNat_zero, Nat.zero_mul, Nat.add_zero] at hcc ⊢
        simp only [add_mk]
        refine ldI_of (hcc 0 (by decide)) (ldI_of (hcc 1 (by decide)) (ldI_of (hcc 2 (by decide)) (ldI_of (hcc 3 (by decide)) (ldI_of (hcc 4 (by decide)) (ldI_of (hcc 5 (by decide)) (ldSl_of (hcc 6 (by decide)) (ldI_of (hcc 7 (by decide)) (ldI_of (hcc 8 (by decide)) (ldI_of (hcc 9 (by decide)) (ldSl_of (hcc 10 (by decide)) (ldI_of (hcc 11 (by decide)) (ldI_of (hcc 12 (by decide)) (ldI_of (hcc 13 (by decide)) ?_)))))))))))))
        refine boxz (c := [.int .i64 0, .int .u64 0, .int .i64 0, .int .i64 0, .int .i64 0, .int .u64 0, .slice none 0 0, .int .u64 0, .int .i64 0, .int .i64 0, .slice none 0 0, .int .u64 0, .int .u64 0, .int .u64 0]) (vs := [.int .i64 f, .int .u64 u, .int .i64 1, .int .i64 r, .int .i64 0, .int .u64 0, .slice none 0 0, .int .u64 0, .int .i64 2, .int .i64 0, .slice rp 1 1, .int .u64 0, .int .u64 0, .int .u64 0]) g3 rfl fun b134 H5 g5 => ?_
        have g5 : St H0 ([Prt.one b134 (.cells #[.int .i64 f, .int .u64 u, .int .i64 1, .int .i64 r, .int .i64 0, .int .u64 0, .slice none 0 0, .int .u64 0, .int .i64 2, .int .i64 0, .slice rp 1 1, .int .u64 0, .int .u64 0, .int .u64 0] ty_api_Served (0, 0)), Prt.one b39 (.cells #[.int .i64 0, .int .i64 0, .int .i64 0, .int .u64 0, .int .u64 0, .int .i64 0, .int .u64 0, .slice none 0 0, .slice (some ⟨db, 0, none⟩) 1 1, .int .i64 0, .int .i64 0, .bool false] ty_world_Row (0, 0)), Prt.one b37 (.cells #[.int .i64 7, .int .i64 n, .int .i64 0, .int .i64 0, .int .i64 0, .int .i64 0, .int .i64 0, .int .i64 0, .int .i64 0, .int .i64 0, .int .i64 0, .int .u64 0, .int .u64 0, .slice none 0 0, .slice none 0 0] ty_world_Event (0, 0))] ++ (mdL c x m ++ M)) H5 := g5
        refine bif_off rfl ?_
        (repeat first | refine ldI_of (g5.cell (i := 0) rfl rfl) ?_ | refine ldSl_of (g5.cell (i := 0) rfl rfl) ?_ | refine ldP_of (g5.cell (i := 0) rfl rfl) ?_ | refine ldB_of (g5.cell (i := 0) rfl rfl) ?_ | refine ldM_of (g5.cell (i := 0) rfl rfl) ?_ | refine ldI_of (g5.cell (i := 1) rfl rfl) ?_ | refine ldSl_of (g5.cell (i := 1) rfl rfl) ?_ | refine ldP_of (g5.cell (i := 1) rfl rfl) ?_ | refine ldB_of (g5.cell (i := 1) rfl rfl) ?_ | refine ldM_of (g5.cell (i := 1) rfl rfl) ?_ | refine ldI_of (g5.cell (i := 2) rfl rfl) ?_ | refine ldSl_of (g5.cell (i := 2) rfl rfl) ?_ | refine ldP_of (g5.cell (i := 2) rfl rfl) ?_ | refine ldB_of (g5.cell (i := 2) rfl rfl) ?_ | refine ldM_of (g5.cell (i := 2) rfl rfl) ?_)
        refine (hsv _ H5 rfl (St.swapL g5)).mono fun v Hv hv => ?_
        cases v <;> try exact hv.elim
        rename_i tb
        have hv : K (.bool tb) Hv := hv
        refine asBI ?_
        cases tb
        · exact hv
        · exact ⟨.inr ⟨rfl, hv⟩, by show (1 - IntKind.i64.wrap (0 + 1)).toNat < ((1 : Int) - 0).toNat; decide⟩
      clear hR48
      refine ldI_of (g3.cell (i := 1) rfl rfl) (bif_ne (by decide) ?_)
      exact hQ48
    clear hR44
    refine ldI_of (g3.cell (i := 1) rfl rfl) (bif_ne (by decide) ?_)
    exact hQ44
  clear hR41
  refine ldI_of (g2.cell (i := 1) rfl rfl) (bif_pos hn.1 (ldI_of (g2.cell (i := 1) rfl rfl) (ldI_of (g2.cell (i := 2) rfl rfl) ?_)))
  rw [decide_eq_true hn.2]
  exact hQ41 _ g2
end
end Go.Proofs.Ytknejebggegfjaa
