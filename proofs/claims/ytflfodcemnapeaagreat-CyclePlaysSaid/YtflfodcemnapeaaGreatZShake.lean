/- Merged by merge.py: DenShake, Shake, RShake. No condition. -/
import Derived.Test.YtflfodcemnapeaaGreatZNum
import Derived.Test.YtflfodcemnapeaaGreatZBase
import Derived.Test.YtflfodcemnapeaaGreatZPaint

namespace Go.Proofs.YtflfodcemnapeaaGreat
open Go
set_option linter.unusedVariables false
set_option maxRecDepth 100000
def B_shake_New (mutators1 : Int) (H : Hp) (K : Value → Hp → Prop) : Prop :=
 (bif (decide ((mutators1 : Int) < 1)) then
 K (.tuple #[(.pointer none), (.int .i64 1)]) H
else
 (bif (decide ((mutators1 : Int) > 4)) then
 K (.tuple #[(.pointer none), (.int .i64 1)]) H
else
 (evW PR (Instr.makeSlice ty_Sbool (.int .i64 (IntKind.i64.wrap (mutators1 + 1))) (.int .i64 (IntKind.i64.wrap (mutators1 + 1)))) H fun v2 Hx3 =>
 asSl v2 fun mkP4 mkL5 mkC6 =>
 evW PR (Instr.makeSlice ty_Sbool (.int .i64 (IntKind.i64.wrap (mutators1 + 1))) (.int .i64 (IntKind.i64.wrap (mutators1 + 1)))) Hx3 fun v7 Hx8 =>
 asSl v7 fun mkP9 mkL10 mkC11 =>
 newB (.cells #[(.int .i64 0), (.slice mkP4 mkL5 mkC6), (.slice mkP9 mkL10 mkC11)] ty_shake_Shake) Hx8 fun b12 Hx13 =>
 K (.tuple #[(.pointer (some ⟨b12, 0, none⟩)), (.int .i64 0)]) Hx13) ∧
 (evW PR (Instr.makeSlice ty_Sbool (.int .i64 (IntKind.i64.wrap (mutators1 + 1))) (.int .i64 (IntKind.i64.wrap (mutators1 + 1)))) H fun v14 Hx15 =>
 asSl v14 fun mkP16 mkL17 mkC18 =>
 evW PR (Instr.makeSlice ty_Sbool (.int .i64 (IntKind.i64.wrap (mutators1 + 1))) (.int .i64 (IntKind.i64.wrap (mutators1 + 1)))) Hx15 fun v19 Hx20 =>
 asSl v19 fun mkP21 mkL22 mkC23 =>
 newB (.cells #[(.int .i64 0), (.slice mkP21 mkL22 mkC23), (.slice mkP16 mkL17 mkC18)] ty_shake_Shake) Hx20 fun b24 Hx25 =>
 K (.tuple #[(.pointer (some ⟨b24, 0, none⟩)), (.int .i64 0)]) Hx25)))
theorem E_shake_New (mutators1 : Int) (H : Hp) (K : Value → Hp → Prop) : B_shake_New mutators1 H K = denF Tryz.prog Tryz.f35 .n [(.int .i64 mutators1)] H K := by kernel_rfl
theorem den_shake_New {mutators1 : Int} {H : Hp} {K : Value → Hp → Prop} (h : B_shake_New mutators1 H K) : hcall PR f_shake_New ⟨[(.int .i64 mutators1)]⟩ H K := denF_call Tryz.func35 PR_mixed (Eq.mp (E_shake_New mutators1 H K) h)

def B_shake_Shake_Answer (s1 : Option Addr) (m2 : Int) (H : Hp) (K : Value → Hp → Prop) : Prop :=
 (bif (decide ((m2 : Int) < 0)) then
 K (.int .i64 0) H
else
 nilP s1 fun sa3 =>
 ldSl (sa3.add 1) H fun armedP4 armedL5 armedC6 =>
 (bif (decide ((m2 : Int) ≥ (armedL5 : Int))) then
 K (.int .i64 0) H
else
 nilP s1 fun sa7 =>
 ldI .i64 sa7 H fun phase8 =>
 (bif ((phase8 : Int) == 1) then
 hcall PR f_shake_Shake_arms ⟨[(.pointer s1), (.int .i64 m2)]⟩ H fun v9 Hx10 =>
 asI .i64 v9 fun t11 =>
 K (.int .i64 t11) Hx10
else
 (bif ((phase8 : Int) == 2) then
 hcall PR f_shake_Shake_scans ⟨[(.pointer s1), (.int .i64 m2)]⟩ H fun v12 Hx13 =>
 asI .i64 v12 fun t14 =>
 K (.int .i64 t14) Hx13
else
 K (.int .i64 0) H))))
theorem E_shake_Shake_Answer (s1 : Option Addr) (m2 : Int) (H : Hp) (K : Value → Hp → Prop) : B_shake_Shake_Answer s1 m2 H K = denF Tryz.prog Tryz.f43 .n [(.pointer s1), (.int .i64 m2)] H K := by kernel_rfl
theorem den_shake_Shake_Answer {s1 : Option Addr} {m2 : Int} {H : Hp} {K : Value → Hp → Prop} (h : B_shake_Shake_Answer s1 m2 H K) : hcall PR f_shake_Shake_Answer ⟨[(.pointer s1), (.int .i64 m2)]⟩ H K := denF_call Tryz.func43 PR_mixed (Eq.mp (E_shake_Shake_Answer s1 m2 H K) h)

def B_shake_Shake_IsArmed (s1 : Option Addr) (m2 : Int) (H : Hp) (K : Value → Hp → Prop) : Prop :=
 (bif (decide ((m2 : Int) ≥ 0)) then
 nilP s1 fun sa3 =>
 ldSl (sa3.add 1) H fun armedP4 armedL5 armedC6 =>
 (bif (decide ((m2 : Int) < (armedL5 : Int))) then
 nilP s1 fun sa7 =>
 ldSl (sa7.add 1) H fun armedP8 armedL9 armedC10 =>
 idxA armedP8 armedL9 m2 1 fun el11 =>
 ldB el11 H fun t12 =>
 K (.bool t12) H
else
 K (.bool false) H)
else
 K (.bool false) H)
theorem E_shake_Shake_IsArmed (s1 : Option Addr) (m2 : Int) (H : Hp) (K : Value → Hp → Prop) : B_shake_Shake_IsArmed s1 m2 H K = denF Tryz.prog Tryz.f53 .n [(.pointer s1), (.int .i64 m2)] H K := by kernel_rfl
theorem den_shake_Shake_IsArmed {s1 : Option Addr} {m2 : Int} {H : Hp} {K : Value → Hp → Prop} (h : B_shake_Shake_IsArmed s1 m2 H K) : hcall PR f_shake_Shake_IsArmed ⟨[(.pointer s1), (.int .i64 m2)]⟩ H K := denF_call Tryz.func53 PR_mixed (Eq.mp (E_shake_Shake_IsArmed s1 m2 H K) h)

def B_shake_Shake_HasScanned (s1 : Option Addr) (m2 : Int) (H : Hp) (K : Value → Hp → Prop) : Prop :=
 (bif (decide ((m2 : Int) ≥ 0)) then
 nilP s1 fun sa3 =>
 ldSl (sa3.add 2) H fun scannedP4 scannedL5 scannedC6 =>
 (bif (decide ((m2 : Int) < (scannedL5 : Int))) then
 nilP s1 fun sa7 =>
 ldSl (sa7.add 2) H fun scannedP8 scannedL9 scannedC10 =>
 idxA scannedP8 scannedL9 m2 1 fun el11 =>
 ldB el11 H fun t12 =>
 K (.bool t12) H
else
 K (.bool false) H)
else
 K (.bool false) H)
theorem E_shake_Shake_HasScanned (s1 : Option Addr) (m2 : Int) (H : Hp) (K : Value → Hp → Prop) : B_shake_Shake_HasScanned s1 m2 H K = denF Tryz.prog Tryz.f54 .n [(.pointer s1), (.int .i64 m2)] H K := by kernel_rfl
theorem den_shake_Shake_HasScanned {s1 : Option Addr} {m2 : Int} {H : Hp} {K : Value → Hp → Prop} (h : B_shake_Shake_HasScanned s1 m2 H K) : hcall PR f_shake_Shake_HasScanned ⟨[(.pointer s1), (.int .i64 m2)]⟩ H K := denF_call Tryz.func54 PR_mixed (Eq.mp (E_shake_Shake_HasScanned s1 m2 H K) h)

def B_shake_Shake_Begin (s1 : Option Addr) (H : Hp) (K : Value → Hp → Prop) : Prop :=
 nilP s1 fun sa2 =>
 ldI .i64 sa2 H fun phase3 =>
 (bif ((phase3 : Int) != 0) then
 K (.int .i64 10) H
else
 nilP s1 fun sa4 =>
 st sa4 (.int .i64 1) H fun Hx5 =>
 nilP s1 fun sa6 =>
 ldSl (sa6.add 1) Hx5 fun armedP7 armedL8 armedC9 =>
 nilP s1 fun sa10 =>
 ldSl (sa10.add 1) Hx5 fun armedP11 armedL12 armedC13 =>
 idxA armedP7 armedL8 (IntKind.i64.wrap ((armedL12 : Int) - 1)) 1 fun el14 =>
 st el14 (.bool true) Hx5 fun Hx15 =>
 K (.int .i64 0) Hx15)
theorem E_shake_Shake_Begin (s1 : Option Addr) (H : Hp) (K : Value → Hp → Prop) : B_shake_Shake_Begin s1 H K = denF Tryz.prog Tryz.f64 .n [(.pointer s1)] H K := by kernel_rfl
theorem den_shake_Shake_Begin {s1 : Option Addr} {H : Hp} {K : Value → Hp → Prop} (h : B_shake_Shake_Begin s1 H K) : hcall PR f_shake_Shake_Begin ⟨[(.pointer s1)]⟩ H K := denF_call Tryz.func64 PR_mixed (Eq.mp (E_shake_Shake_Begin s1 H K) h)

def B_shake_Shake_Phase (s1 : Option Addr) (H : Hp) (K : Value → Hp → Prop) : Prop :=
 nilP s1 fun sa2 =>
 ldI .i64 sa2 H fun phase3 =>
 K (.int .i64 phase3) H
theorem E_shake_Shake_Phase (s1 : Option Addr) (H : Hp) (K : Value → Hp → Prop) : B_shake_Shake_Phase s1 H K = denF Tryz.prog Tryz.f65 .n [(.pointer s1)] H K := by kernel_rfl
theorem den_shake_Shake_Phase {s1 : Option Addr} {H : Hp} {K : Value → Hp → Prop} (h : B_shake_Shake_Phase s1 H K) : hcall PR f_shake_Shake_Phase ⟨[(.pointer s1)]⟩ H K := denF_call Tryz.func65 PR_mixed (Eq.mp (E_shake_Shake_Phase s1 H K) h)

def B_shake_Shake_End (s1 : Option Addr) (H : Hp) (K : Value → Hp → Prop) : Prop :=
 nilP s1 fun sa2 =>
 ldI .i64 sa2 H fun phase3 =>
 (bif ((phase3 : Int) != 3) then
 K (.int .i64 10) H
else
 nilP s1 fun sa4 =>
 st sa4 (.int .i64 0) H fun Hx5 =>
 nilP s1 fun sa6 =>
 ldSl (sa6.add 1) Hx5 fun armedP7 armedL8 armedC9 =>
 evW PR (Builtin.clear_ #[ty_Sbool] ty_ #[(.slice armedP7 armedL8 armedC9)]) Hx5 fun v10 Hx11 =>
 nilP s1 fun sa12 =>
 ldSl (sa12.add 2) Hx11 fun scannedP13 scannedL14 scannedC15 =>
 evW PR (Builtin.clear_ #[ty_Sbool] ty_ #[(.slice scannedP13 scannedL14 scannedC15)]) Hx11 fun v16 Hx17 =>
 K (.int .i64 0) Hx17)
theorem E_shake_Shake_End (s1 : Option Addr) (H : Hp) (K : Value → Hp → Prop) : B_shake_Shake_End s1 H K = denF Tryz.prog Tryz.f70 .n [(.pointer s1)] H K := by kernel_rfl
theorem den_shake_Shake_End {s1 : Option Addr} {H : Hp} {K : Value → Hp → Prop} (h : B_shake_Shake_End s1 H K) : hcall PR f_shake_Shake_End ⟨[(.pointer s1)]⟩ H K := denF_call Tryz.func70 PR_mixed (Eq.mp (E_shake_Shake_End s1 H K) h)

def B_shake_Shake_arms (s1 : Option Addr) (m2 : Int) (H : Hp) (K : Value → Hp → Prop) : Prop :=
 nilP s1 fun sa3 =>
 ldSl (sa3.add 1) H fun armedP4 armedL5 armedC6 =>
 idxA armedP4 armedL5 m2 1 fun el7 =>
 ldB el7 H fun t8 =>
 (bif t8 then
 K (.int .i64 0) H
else
 nilP s1 fun sa9 =>
 ldSl (sa9.add 1) H fun armedP10 armedL11 armedC12 =>
 idxA armedP10 armedL11 m2 1 fun el13 =>
 st el13 (.bool true) H fun Hx14 =>
 nilP s1 fun sa15 =>
 ldSl (sa15.add 1) Hx14 fun armedP16 armedL17 armedC18 =>
 hcall PR f_shake_all ⟨[(.slice armedP16 armedL17 armedC18)]⟩ Hx14 fun v19 Hx20 =>
 asB v19 fun t21 =>
 (bif t21 then
 nilP s1 fun sa22 =>
 st sa22 (.int .i64 2) Hx20 fun Hx23 =>
 K (.int .i64 1) Hx23
else
 K (.int .i64 1) Hx20))
theorem E_shake_Shake_arms (s1 : Option Addr) (m2 : Int) (H : Hp) (K : Value → Hp → Prop) : B_shake_Shake_arms s1 m2 H K = denF Tryz.prog Tryz.f86 .n [(.pointer s1), (.int .i64 m2)] H K := by kernel_rfl
theorem den_shake_Shake_arms {s1 : Option Addr} {m2 : Int} {H : Hp} {K : Value → Hp → Prop} (h : B_shake_Shake_arms s1 m2 H K) : hcall PR f_shake_Shake_arms ⟨[(.pointer s1), (.int .i64 m2)]⟩ H K := denF_call Tryz.func86 PR_mixed (Eq.mp (E_shake_Shake_arms s1 m2 H K) h)

def B_shake_Shake_scans (s1 : Option Addr) (m2 : Int) (H : Hp) (K : Value → Hp → Prop) : Prop :=
 nilP s1 fun sa3 =>
 ldSl (sa3.add 2) H fun scannedP4 scannedL5 scannedC6 =>
 idxA scannedP4 scannedL5 m2 1 fun el7 =>
 ldB el7 H fun t8 =>
 (bif t8 then
 K (.int .i64 0) H
else
 nilP s1 fun sa9 =>
 ldSl (sa9.add 2) H fun scannedP10 scannedL11 scannedC12 =>
 idxA scannedP10 scannedL11 m2 1 fun el13 =>
 st el13 (.bool true) H fun Hx14 =>
 nilP s1 fun sa15 =>
 ldSl (sa15.add 2) Hx14 fun scannedP16 scannedL17 scannedC18 =>
 hcall PR f_shake_all ⟨[(.slice scannedP16 scannedL17 scannedC18)]⟩ Hx14 fun v19 Hx20 =>
 asB v19 fun t21 =>
 (bif t21 then
 nilP s1 fun sa22 =>
 st sa22 (.int .i64 3) Hx20 fun Hx23 =>
 K (.int .i64 2) Hx23
else
 K (.int .i64 2) Hx20))
theorem E_shake_Shake_scans (s1 : Option Addr) (m2 : Int) (H : Hp) (K : Value → Hp → Prop) : B_shake_Shake_scans s1 m2 H K = denF Tryz.prog Tryz.f87 .n [(.pointer s1), (.int .i64 m2)] H K := by kernel_rfl
theorem den_shake_Shake_scans {s1 : Option Addr} {m2 : Int} {H : Hp} {K : Value → Hp → Prop} (h : B_shake_Shake_scans s1 m2 H K) : hcall PR f_shake_Shake_scans ⟨[(.pointer s1), (.int .i64 m2)]⟩ H K := denF_call Tryz.func87 PR_mixed (Eq.mp (E_shake_Shake_scans s1 m2 H K) h)

def B_shake_all (lP1 : Option Addr) (lL2 : Nat) (lC3 : Nat) (H : Hp) (K : Value → Hp → Prop) : Prop :=
 ∃ (I4 : Int → Hp → Prop) (m5 : Int → Hp → Nat), I4 0 H ∧ ∀ t7 : Int, ∀ Hx6 : Hp, I4 t7 Hx6 →
 (bif (decide ((t7 : Int) < (lL2 : Int))) then
 idxA lP1 lL2 t7 1 fun el8 =>
 ldB el8 Hx6 fun t9 =>
 (bif (!t9) then
 K (.bool false) Hx6
else
 I4 (IntKind.i64.wrap (t7 + 1)) Hx6 ∧ m5 (IntKind.i64.wrap (t7 + 1)) Hx6 < m5 t7 Hx6)
else
 K (.bool true) Hx6)
theorem E_shake_all (lP1 : Option Addr) (lL2 : Nat) (lC3 : Nat) (H : Hp) (K : Value → Hp → Prop) : B_shake_all lP1 lL2 lC3 H K = denF Tryz.prog Tryz.f126 (.seq none .n (.seq none (.seq none .n (.sub (.loop ⟨[(7, .int .i64)], [5, 6]⟩ .n))) .n)) [(.slice lP1 lL2 lC3)] H K := by kernel_rfl
theorem den_shake_all {lP1 : Option Addr} {lL2 : Nat} {lC3 : Nat} {H : Hp} {K : Value → Hp → Prop} (h : B_shake_all lP1 lL2 lC3 H K) : hcall PR f_shake_all ⟨[(.slice lP1 lL2 lC3)]⟩ H K := denF_call Tryz.func126 PR_mixed (Eq.mp (E_shake_all lP1 lL2 lC3 H K) h)

end Go.Proofs.YtflfodcemnapeaaGreat

namespace Go.Proofs.YtflfodcemnapeaaGreat
set_option linter.unusedSimpArgs false
set_option linter.unusedVariables false
open Go
structure Sk where
 ph : Int
 ar : List Bool
 sc : List Bool

def Sk.ans (s : Sk) (m : Int) : Sk × Int :=
 if m < 0 ∨ (s.ar.length : Int) ≤ m then (s, 0)
 else if s.ph = 1 then
  if s.ar.getD m.toNat false = true then (s, 0) else ({ s with ph := if (s.ar.set m.toNat true).all id then 2 else 1, ar := s.ar.set m.toNat true }, 1)
 else if s.ph = 2 then
  if s.sc.getD m.toNat false = true then (s, 0) else ({ s with ph := if (s.sc.set m.toNat true).all id then 3 else 2, sc := s.sc.set m.toNat true }, 2)
 else (s, 0)

/-- A shake: its block, its two rows. -/
def Shk (b : Nat) (s : Sk) : Prt := Prt.ex fun (x : Option Addr × Nat × Option Addr × Nat × Nat) =>
 Prt.list [Prt.one b (.cells #[.int .i64 s.ph, .slice x.1 s.ar.length x.2.1, .slice x.2.2.1 s.sc.length x.2.2.2.1] x.2.2.2.2 (0, 0)), Prt.row 1 x.1 s.ar.length x.2.1 (s.ar.map .bool), Prt.row 1 x.2.2.1 s.sc.length x.2.2.2.1 (s.sc.map .bool)]

theorem shakeAll_ok {p : Option Addr} {n c : Nat} {l : List Bool} {H : Hp} {K : Value → Hp → Prop} (h : Rd H 1 p n (l.map .bool)) (hn : n < 4611686018427387904) (hK : K (.bool (l.all id)) H) : hcall PR f_shake_all ⟨[.slice p n c]⟩ H K := by
 have hl : l.length = n := by have := h.1; simpa using this
 apply den_shake_all
 unfold B_shake_all
 refine ⟨fun i H' => H' = H ∧ ∃ j : Nat, i = j ∧ j ≤ n ∧ (l.take j).all id = true, fun i _ => (n - i).toNat, ⟨rfl, 0, rfl, by omega, rfl⟩, ?_⟩
 rintro i H' ⟨hH, j, rfl, hj, hall⟩
 subst hH
 by_cases hlt : (j : Int) < n
 ·refine bif_pos hlt (idx1 (d := false) h (by omega) hlt fun b o _ hc => ldB_of hc ?_)
  rw [Int.toNat_natCast, List.getD_eq_getElem?_getD, List.getElem?_eq_getElem (by omega), Option.getD_some]
  by_cases he : l[j] = true
  ·rw [he, Bool.not_true, cond_false, wrap_i64 (by omega) (by omega)]
   refine ⟨⟨rfl, j + 1, by omega, by omega, ?_⟩, by dsimp only; omega⟩
   rw [List.take_succ_eq_append_getElem (by omega), List.all_append, hall, he]
   rfl
  ·have : l.all id = false := by
    rw [List.all_eq_false]
    exact ⟨l[j], List.getElem_mem _, he⟩
   rw [this] at hK
   rw [Bool.not_eq_true] at he
   rw [he]
   exact hK
 ·refine bif_neg hlt ?_
  rw [List.take_of_length_le (by omega)] at hall
  rw [hall] at hK
  exact hK

theorem shakeNew_ok {m : Int} {H : Hp} {K : Value → Hp → Prop} (h1 : 1 ≤ m) (h2 : m ≤ 4)
  (hK : ∀ b F H', (Shk b ⟨0, List.replicate (m.toNat + 1) false, List.replicate (m.toNat + 1) false⟩).holds F H' → Goes Nothing H F H' → K (.tuple #[.pointer (some ⟨b, 0, none⟩), .int .i64 0]) H') : hcall PR f_shake_New ⟨[.int .i64 m]⟩ H K := by
 apply den_shake_New
 unfold B_shake_New
 refine bif_neg (by omega) (bif_neg (by omega) ?_)
 have hw : IntKind.i64.wrap (m + 1) = m + 1 := wrap_i64 (by omega) (by omega)
 have e : (m + 1).toNat = m.toNat + 1 := by omega
 have e47 : (2 : Int) ^ 47 = 140737488355328 := by decide
 have e62 : (2 : Int) ^ 62 = 4611686018427387904 := by decide
 rw [hw]
 constructor
 all_goals
  refine mko_ty_Sbool (by omega) (by omega) (by omega) fun p1 H1 o1 g1 => ?_
  rw [Zf]
  refine mko_ty_Sbool (by omega) (by omega) (by omega) fun p2 H2 o2 g2 => ?_
  rw [Zf]
  intro b hb
  obtain ⟨F1, l1, k1⟩ := Prt.more (Prt.list_nil H) (Prt.row_holds o1) g1
  obtain ⟨F2, l2, k2⟩ := Prt.more l1 (Prt.row_holds o2) g2
 ·obtain ⟨F3, l3, k3⟩ := Prt.alloc (o := .cells #[.int .i64 0, .slice p1 (m + 1).toNat (m + 1).toNat, .slice p2 (m + 1).toNat (m + 1).toNat] ty_shake_Shake (0, 0)) (Prt.flip l2) hb
  refine hK b F3 _ ⟨⟨p1, (m + 1).toNat, p2, (m + 1).toNat, ty_shake_Shake⟩, ?_⟩ ((k1.trans k2).trans k3)
  simpa [e] using l3
 ·obtain ⟨F3, l3, k3⟩ := Prt.alloc (o := .cells #[.int .i64 0, .slice p2 (m + 1).toNat (m + 1).toNat, .slice p1 (m + 1).toNat (m + 1).toNat] ty_shake_Shake (0, 0)) l2 hb
  refine hK b F3 _ ⟨⟨p2, (m + 1).toNat, p1, (m + 1).toNat, ty_shake_Shake⟩, ?_⟩ ((k1.trans k2).trans k3)
  simpa [e] using l3

theorem shakePhase_ok {b : Nat} {s : Sk} {F : Nat → Prop} {H : Hp} {K : Value → Hp → Prop} (h : (Shk b s).holds F H) (hK : K (.int .i64 s.ph) H) : hcall PR f_shake_Shake_Phase ⟨[.pointer (some ⟨b, 0, none⟩)]⟩ H K := by
 obtain ⟨x, h⟩ := h
 apply den_shake_Shake_Phase
 unfold B_shake_Shake_Phase
 simp only [Zt]
 exact ldI_of (Prt.one_cell h (i := 0) rfl rfl) hK

/-- Of one of the rows. -/
def isOf (l : List Bool) (m : Int) : Bool := decide (0 ≤ m) && decide (m < l.length) && l.getD m.toNat false

theorem shakeIsArmed_ok {b : Nat} {s : Sk} {m : Int} {F : Nat → Prop} {H : Hp} {K : Value → Hp → Prop} (h : (Shk b s).holds F H) (hK : K (.bool (isOf s.ar m)) H) : hcall PR f_shake_Shake_IsArmed ⟨[.pointer (some ⟨b, 0, none⟩), .int .i64 m]⟩ H K := by
 obtain ⟨x, h⟩ := h
 apply den_shake_Shake_IsArmed
 unfold B_shake_Shake_IsArmed
 unfold isOf at hK
 simp only [Zt, Zu, Nat.zero_add]
 have e1 := Prt.one_cell h (i := 0) (o := 1) rfl rfl
 by_cases h0 : m ≥ 0
 ·refine bif_pos h0 (ldSl_of e1 ?_)
  by_cases h1 : m < s.ar.length
  ·refine bif_pos h1 (ldSl_of e1 (idx1 (d := false) (Prt.row_rd h (i := 1) rfl) h0 h1 fun b o _ hc => ldB_of hc ?_))
   rw [decide_eq_true h0, decide_eq_true h1] at hK
   exact hK
  ·refine bif_neg h1 ?_
   rw [decide_eq_false h1, Bool.and_false, Bool.false_and] at hK
   exact hK
 ·refine bif_neg h0 ?_
  rw [decide_eq_false h0, Bool.false_and, Bool.false_and] at hK
  exact hK

theorem shakeHasScanned_ok {b : Nat} {s : Sk} {m : Int} {F : Nat → Prop} {H : Hp} {K : Value → Hp → Prop} (h : (Shk b s).holds F H) (hK : K (.bool (isOf s.sc m)) H) : hcall PR f_shake_Shake_HasScanned ⟨[.pointer (some ⟨b, 0, none⟩), .int .i64 m]⟩ H K := by
 obtain ⟨x, h⟩ := h
 apply den_shake_Shake_HasScanned
 unfold B_shake_Shake_HasScanned
 unfold isOf at hK
 simp only [Zt, Zu, Nat.zero_add]
 have e1 := Prt.one_cell h (i := 0) (o := 2) rfl rfl
 by_cases h0 : m ≥ 0
 ·refine bif_pos h0 (ldSl_of e1 ?_)
  by_cases h1 : m < s.sc.length
  ·refine bif_pos h1 (ldSl_of e1 (idx1 (d := false) (Prt.row_rd h (i := 2) rfl) h0 h1 fun b o _ hc => ldB_of hc ?_))
   rw [decide_eq_true h0, decide_eq_true h1] at hK
   exact hK
  ·refine bif_neg h1 ?_
   rw [decide_eq_false h1, Bool.and_false, Bool.false_and] at hK
   exact hK
 ·refine bif_neg h0 ?_
  rw [decide_eq_false h0, Bool.false_and, Bool.false_and] at hK
  exact hK

theorem shakeBegin_busy {b : Nat} {s : Sk} {F : Nat → Prop} {H : Hp} {K : Value → Hp → Prop} (h : (Shk b s).holds F H) (hp : s.ph ≠ 0) (hK : K (.int .i64 10) H) : hcall PR f_shake_Shake_Begin ⟨[.pointer (some ⟨b, 0, none⟩)]⟩ H K := by
 obtain ⟨x, h⟩ := h
 apply den_shake_Shake_Begin
 unfold B_shake_Shake_Begin
 simp only [Zt]
 exact ldI_of (Prt.one_cell h (i := 0) rfl rfl) (bif_neq hp hK)

theorem shakeBegin_ok {b : Nat} {s : Sk} {F : Nat → Prop} {H : Hp} {K : Value → Hp → Prop} (h : (Shk b s).holds F H) (hp : s.ph = 0) (hn : 0 < s.ar.length) (hn2 : s.ar.length < 4611686018427387904)
  (hK : ∀ F' H', (Shk b { s with ph := 1, ar := s.ar.set (s.ar.length - 1) true }).holds F' H' → Goes F H F' H' → K (.int .i64 0) H') : hcall PR f_shake_Shake_Begin ⟨[.pointer (some ⟨b, 0, none⟩)]⟩ H K := by
 obtain ⟨x, h⟩ := h
 apply den_shake_Shake_Begin
 unfold B_shake_Shake_Begin
 simp only [Zt, Zu, Nat.zero_add]
 refine ldI_of (Prt.one_cell h (i := 0) rfl rfl) (bif_neqf hp ?_)
 refine Prt.put h (i := 0) rfl (by simp) fun F1 H1 h1 g1 => ?_
 refine ldSl_of (Prt.one_cell h1 (i := 0) rfl rfl) (ldSl_of (Prt.one_cell h1 (i := 0) rfl rfl) ?_)
 have hw : IntKind.i64.wrap ((s.ar.length : Int) - 1) = (s.ar.length : Int) - 1 := wrap_i64 (by omega) (by omega)
 rw [hw]
 have e : ((s.ar.length : Int) - 1).toNat = s.ar.length - 1 := by omega
 refine idx1 (d := false) (Prt.row_rd h1 (i := 1) rfl) (by omega) (by omega) fun b' o hpp _ => ?_
 rw [e]
 refine Prt.poke h1 (i := 1) rfl hpp (by omega) fun F2 H2 h2 g2 => ?_
 refine hK F2 H2 ⟨x, ?_⟩ (g1.trans g2)
 simpa [List.map_set] using h2

theorem shakeArms_ok {b : Nat} {s : Sk} {m : Int} {F : Nat → Prop} {H : Hp} {K : Value → Hp → Prop} (h : (Shk b s).holds F H) (h0 : 0 ≤ m) (h1 : m < s.ar.length) (hn : s.ar.length < 4611686018427387904)
  (hno : s.ar.getD m.toNat false = true → K (.int .i64 0) H)
  (hyes : s.ar.getD m.toNat false = false → s.ph = 1 → ∀ F' H', (Shk b { s with ph := if (s.ar.set m.toNat true).all id then 2 else 1, ar := s.ar.set m.toNat true }).holds F' H' → Goes F H F' H' → K (.int .i64 1) H') (hp : s.ph = 1) :
  hcall PR f_shake_Shake_arms ⟨[.pointer (some ⟨b, 0, none⟩), .int .i64 m]⟩ H K := by
 obtain ⟨x, h⟩ := h
 apply den_shake_Shake_arms
 unfold B_shake_Shake_arms
 simp only [Zt, Zu, Nat.zero_add]
 have e1 := Prt.one_cell h (i := 0) (o := 1) rfl rfl
 refine ldSl_of e1 (idx1 (d := false) (Prt.row_rd h (i := 1) rfl) h0 h1 fun b' o hpp hc => ldB_of hc ?_)
 by_cases he : s.ar.getD m.toNat false = true
 ·rw [he, cond_true]
  exact hno he
 ·rw [Bool.not_eq_true] at he
  rw [he, cond_false]
  refine ldSl_of e1 (idx1 (d := false) (Prt.row_rd h (i := 1) rfl) h0 h1 fun b' o hpp hc => ?_)
  refine Prt.poke h (i := 1) rfl hpp (by omega) fun F1 H1 h1' g1 => ?_
  refine ldSl_of (Prt.one_cell h1' (i := 0) (o := 1) rfl rfl) ?_
  have hrow := Prt.row_rd h1' (i := 1) rfl
  rw [← List.map_set (f := Value.bool)] at hrow h1'
  refine shakeAll_ok hrow hn ?_
  simp only [Zb]
  by_cases ha : (s.ar.set m.toNat true).all id = true
  ·rw [ha, cond_true]
   refine Prt.put h1' (i := 0) rfl (by simp) fun F2 H2 h2 g2 => ?_
   refine hyes he hp F2 H2 ⟨x, ?_⟩ (g1.trans g2)
   rw [if_pos ha]
   simpa using h2
  ·rw [Bool.not_eq_true] at ha
   rw [ha, cond_false]
   refine hyes he hp F1 H1 ⟨x, ?_⟩ g1
   rw [ha]
   simpa [hp] using h1'

theorem shakeScans_ok {b : Nat} {s : Sk} {m : Int} {F : Nat → Prop} {H : Hp} {K : Value → Hp → Prop} (h : (Shk b s).holds F H) (h0 : 0 ≤ m) (h1 : m < s.sc.length) (hn : s.sc.length < 4611686018427387904)
  (hno : s.sc.getD m.toNat false = true → K (.int .i64 0) H)
  (hyes : s.sc.getD m.toNat false = false → s.ph = 2 → ∀ F' H', (Shk b { s with ph := if (s.sc.set m.toNat true).all id then 3 else 2, sc := s.sc.set m.toNat true }).holds F' H' → Goes F H F' H' → K (.int .i64 2) H') (hp : s.ph = 2) :
  hcall PR f_shake_Shake_scans ⟨[.pointer (some ⟨b, 0, none⟩), .int .i64 m]⟩ H K := by
 obtain ⟨x, h⟩ := h
 apply den_shake_Shake_scans
 unfold B_shake_Shake_scans
 simp only [Zt, Zu, Nat.zero_add]
 have e1 := Prt.one_cell h (i := 0) (o := 2) rfl rfl
 refine ldSl_of e1 (idx1 (d := false) (Prt.row_rd h (i := 2) rfl) h0 h1 fun b' o hpp hc => ldB_of hc ?_)
 by_cases he : s.sc.getD m.toNat false = true
 ·rw [he, cond_true]
  exact hno he
 ·rw [Bool.not_eq_true] at he
  rw [he, cond_false]
  refine ldSl_of e1 (idx1 (d := false) (Prt.row_rd h (i := 2) rfl) h0 h1 fun b' o hpp hc => ?_)
  refine Prt.poke h (i := 2) rfl hpp (by omega) fun F1 H1 h1' g1 => ?_
  refine ldSl_of (Prt.one_cell h1' (i := 0) (o := 2) rfl rfl) ?_
  have hrow := Prt.row_rd h1' (i := 2) rfl
  rw [← List.map_set (f := Value.bool)] at hrow h1'
  refine shakeAll_ok hrow hn ?_
  simp only [Zb]
  by_cases ha : (s.sc.set m.toNat true).all id = true
  ·rw [ha, cond_true]
   refine Prt.put h1' (i := 0) rfl (by simp) fun F2 H2 h2 g2 => ?_
   refine hyes he hp F2 H2 ⟨x, ?_⟩ (g1.trans g2)
   rw [if_pos ha]
   simpa using h2
  ·rw [Bool.not_eq_true] at ha
   rw [ha, cond_false]
   refine hyes he hp F1 H1 ⟨x, ?_⟩ g1
   rw [ha]
   simpa [hp] using h1'

theorem shakeAnswer_ok {b : Nat} {s : Sk} {m : Int} {F : Nat → Prop} {H : Hp} {K : Value → Hp → Prop} (h : (Shk b s).holds F H) (hl : s.sc.length = s.ar.length) (hn : s.ar.length < 4611686018427387904)
  (hK : ∀ F' H', (Shk b (s.ans m).1).holds F' H' → Goes F H F' H' → K (.int .i64 (s.ans m).2) H') : hcall PR f_shake_Shake_Answer ⟨[.pointer (some ⟨b, 0, none⟩), .int .i64 m]⟩ H K := by
 obtain ⟨x, h'⟩ := id h
 apply den_shake_Shake_Answer
 unfold B_shake_Shake_Answer
 simp only [Zt, Zu, Nat.zero_add]
 by_cases h0 : m < 0
 ·rw [show s.ans m = (s, 0) by unfold Sk.ans; rw [if_pos (.inl h0)]] at hK
  exact bif_pos h0 (hK F H h (Goes.refl _ _))
 refine bif_neg h0 (ldSl_of (Prt.one_cell h' (i := 0) rfl rfl) ?_)
 by_cases h1 : (s.ar.length : Int) ≤ m
 ·rw [show s.ans m = (s, 0) by unfold Sk.ans; rw [if_pos (.inr h1)]] at hK
  exact bif_pos h1 (hK F H h (Goes.refl _ _))
 refine bif_neg h1 (ldI_of (Prt.one_cell h' (i := 0) rfl rfl) ?_)
 have hc : ¬ (m < 0 ∨ (s.ar.length : Int) ≤ m) := by omega
 by_cases hp1 : s.ph = 1
 ·refine bif_eq hp1 (shakeArms_ok h (by omega) (by omega) hn (fun he => ?_) (fun he _ F' H' h2 g2 => ?_) hp1)
  ·rw [show s.ans m = (s, 0) by unfold Sk.ans; rw [if_neg hc, if_pos hp1, if_pos he]] at hK
   exact asI_mk (hK F H h (Goes.refl _ _))
  ·rw [show s.ans m = (_, 1) by unfold Sk.ans; rw [if_neg hc, if_pos hp1, if_neg (by rw [he]; decide)]] at hK
   exact asI_mk (hK F' H' h2 g2)
 refine bif_ne hp1 ?_
 by_cases hp2 : s.ph = 2
 ·refine bif_eq hp2 (shakeScans_ok h (by omega) (by omega) (by omega) (fun he => ?_) (fun he _ F' H' h2 g2 => ?_) hp2)
  ·rw [show s.ans m = (s, 0) by unfold Sk.ans; rw [if_neg hc, if_neg hp1, if_pos hp2, if_pos he]] at hK
   exact asI_mk (hK F H h (Goes.refl _ _))
  ·rw [show s.ans m = (_, 2) by unfold Sk.ans; rw [if_neg hc, if_neg hp1, if_pos hp2, if_neg (by rw [he]; decide)]] at hK
   exact asI_mk (hK F' H' h2 g2)
 ·rw [show s.ans m = (s, 0) by unfold Sk.ans; rw [if_neg hc, if_neg hp1, if_neg hp2]] at hK
  exact bif_ne hp2 (hK F H h (Goes.refl _ _))

theorem shakeEnd_busy {b : Nat} {s : Sk} {F : Nat → Prop} {H : Hp} {K : Value → Hp → Prop} (h : (Shk b s).holds F H) (hp : s.ph ≠ 3) (hK : K (.int .i64 10) H) : hcall PR f_shake_Shake_End ⟨[.pointer (some ⟨b, 0, none⟩)]⟩ H K := by
 obtain ⟨x, h⟩ := h
 apply den_shake_Shake_End
 unfold B_shake_Shake_End
 simp only [Zt]
 exact ldI_of (Prt.one_cell h (i := 0) rfl rfl) (bif_neq hp hK)

theorem shakeEnd_ok {b : Nat} {s : Sk} {F : Nat → Prop} {H : Hp} {K : Value → Hp → Prop} (h : (Shk b s).holds F H) (hp : s.ph = 3)
  (hK : ∀ F' H', (Shk b ⟨0, List.replicate s.ar.length false, List.replicate s.sc.length false⟩).holds F' H' → Goes F H F' H' → K (.int .i64 0) H') : hcall PR f_shake_Shake_End ⟨[.pointer (some ⟨b, 0, none⟩)]⟩ H K := by
 obtain ⟨x, h⟩ := h
 apply den_shake_Shake_End
 unfold B_shake_Shake_End
 simp only [Zt, Zu, Nat.zero_add]
 refine ldI_of (Prt.one_cell h (i := 0) rfl rfl) (bif_neqf hp ?_)
 refine Prt.put h (i := 0) rfl (by simp) fun F1 H1 h1 g1 => ?_
 refine ldSl_of (Prt.one_cell h1 (i := 0) rfl rfl) ?_
 obtain ⟨G1, hr1, _, up1⟩ := Prt.at h1 (i := 1) rfl
 refine clr_ty_Sbool hr1.1 fun H2 o2 k2 => ?_
 obtain ⟨F2, h2, g2⟩ := up1 (Prt.row 1 x.1 s.ar.length x.2.1 (List.replicate s.ar.length (.bool false))) G1 H2 ⟨o2, hr1.2⟩ (by
  have : G1 = blk x.1 := funext fun c => propext (hr1.2 c)
  rw [this]; exact k2)
 refine ldSl_of (Prt.one_cell h2 (i := 0) rfl rfl) ?_
 obtain ⟨G2, hr2, _, up2⟩ := Prt.at h2 (i := 2) rfl
 refine clr_ty_Sbool hr2.1 fun H3 o3 k3 => ?_
 obtain ⟨F3, h3, g3⟩ := up2 (Prt.row 1 x.2.2.1 s.sc.length x.2.2.2.1 (List.replicate s.sc.length (.bool false))) G2 H3 ⟨o3, hr2.2⟩ (by
  have : G2 = blk x.2.2.1 := funext fun c => propext (hr2.2 c)
  rw [this]; exact k3)
 refine hK F3 H3 ⟨x, ?_⟩ ((g1.trans g2).trans g3)
 simpa using h3

end Go.Proofs.YtflfodcemnapeaaGreat

namespace Go.Proofs.YtflfodcemnapeaaGreat
set_option linter.unusedSimpArgs false
set_option linter.unusedVariables false
open Go
/-- The document's: n is how many mutators; the rows are one longer. -/
def RShk (b : Nat) (n : Int) (s : Sk) : Prt := Prt.ex fun (x : Option Addr × Nat × Option Addr × Nat × Nat) =>
 Prt.list [Prt.one b (.cells #[.int .i64 n, .int .i64 s.ph, .slice x.1 s.ar.length x.2.1, .slice x.2.2.1 s.sc.length x.2.2.2.1] x.2.2.2.2 (0, 0)), Prt.row 1 x.1 s.ar.length x.2.1 (s.ar.map .bool), Prt.row 1 x.2.2.1 s.sc.length x.2.2.2.1 (s.sc.map .bool)]

theorem rAll_ok {p : Option Addr} {n c : Nat} {l : List Bool} {H : Hp} {K : Value → Hp → Prop} (h : Rd H 1 p n (l.map .bool)) (hn : n < 4611686018427387904) (hK : K (.bool (l.all id)) H) : hcall PR f_ref11_all ⟨[.slice p n c]⟩ H K := by
 have hl : l.length = n := by have := h.1; simpa using this
 apply den_ref11_all
 unfold B_ref11_all
 refine ⟨fun i H' => H' = H ∧ ∃ j : Nat, i = j ∧ j ≤ n ∧ (l.take j).all id = true, fun i _ => (n - i).toNat, ⟨rfl, 0, rfl, by omega, rfl⟩, ?_⟩
 rintro i H' ⟨hH, j, rfl, hj, hall⟩
 subst hH
 by_cases hlt : (j : Int) < n
 ·refine bif_pos hlt (idx1 (d := false) h (by omega) hlt fun b o _ hc => ldB_of hc ?_)
  rw [Int.toNat_natCast, List.getD_eq_getElem?_getD, List.getElem?_eq_getElem (by omega), Option.getD_some]
  by_cases he : l[j] = true
  ·rw [he, Bool.not_true, cond_false, wrap_i64 (by omega) (by omega)]
   refine ⟨⟨rfl, j + 1, by omega, by omega, ?_⟩, by dsimp only; omega⟩
   rw [List.take_succ_eq_append_getElem (by omega), List.all_append, hall, he]
   rfl
  ·have : l.all id = false := by
    rw [List.all_eq_false]
    exact ⟨l[j], List.getElem_mem _, he⟩
   rw [this] at hK
   rw [Bool.not_eq_true] at he
   rw [he]
   exact hK
 ·refine bif_neg hlt ?_
  rw [List.take_of_length_le (by omega)] at hall
  rw [hall] at hK
  exact hK

theorem rIs_ok {p : Option Addr} {n c : Nat} {l : List Bool} {m : Int} {H : Hp} {K : Value → Hp → Prop} (h : Rd H 1 p n (l.map .bool)) (hK : K (.bool (isOf l m)) H) : hcall PR f_ref11_Is ⟨[.slice p n c, .int .i64 m]⟩ H K := by
 have hl : l.length = n := by have := h.1; simpa using this
 subst hl
 apply den_ref11_Is
 unfold B_ref11_Is
 unfold isOf at hK
 by_cases h0 : m ≥ 0
 ·refine bif_pos h0 ?_
  by_cases h1 : m < l.length
  ·refine bif_pos h1 (idx1 (d := false) h h0 h1 fun b o _ hc => ldB_of hc ?_)
   rw [decide_eq_true h0, decide_eq_true h1] at hK
   exact hK
  ·refine bif_neg h1 ?_
   rw [decide_eq_false h1, Bool.and_false, Bool.false_and] at hK
   exact hK
 ·refine bif_neg h0 ?_
  rw [decide_eq_false h0, Bool.false_and, Bool.false_and] at hK
  exact hK

theorem rNew_ok {m : Int} {H : Hp} {K : Value → Hp → Prop} (h1 : 1 ≤ m) (h2 : m ≤ 4)
  (hK : ∀ b F H', (RShk b m ⟨0, List.replicate (m.toNat + 1) false, List.replicate (m.toNat + 1) false⟩).holds F H' → Goes Nothing H F H' → K (.pointer (some ⟨b, 0, none⟩)) H') : hcall PR f_ref11_NewShake ⟨[.int .i64 m]⟩ H K := by
 apply den_ref11_NewShake
 unfold B_ref11_NewShake
 have hw : IntKind.i64.wrap (m + 1) = m + 1 := wrap_i64 (by omega) (by omega)
 have e : (m + 1).toNat = m.toNat + 1 := by omega
 have e47 : (2 : Int) ^ 47 = 140737488355328 := by decide
 have e62 : (2 : Int) ^ 62 = 4611686018427387904 := by decide
 rw [hw]
 constructor
 all_goals
  refine mko_ty_Sbool (by omega) (by omega) (by omega) fun p1 H1 o1 g1 => ?_
  rw [Zf]
  refine mko_ty_Sbool (by omega) (by omega) (by omega) fun p2 H2 o2 g2 => ?_
  rw [Zf]
  intro b hb
  obtain ⟨F1, l1, k1⟩ := Prt.more (Prt.list_nil H) (Prt.row_holds o1) g1
  obtain ⟨F2, l2, k2⟩ := Prt.more l1 (Prt.row_holds o2) g2
 ·obtain ⟨F3, l3, k3⟩ := Prt.alloc (o := .cells #[.int .i64 m, .int .i64 0, .slice p1 (m + 1).toNat (m + 1).toNat, .slice p2 (m + 1).toNat (m + 1).toNat] ty_ref11_Shake (0, 0)) (Prt.flip l2) hb
  refine hK b F3 _ ⟨⟨p1, (m + 1).toNat, p2, (m + 1).toNat, ty_ref11_Shake⟩, ?_⟩ ((k1.trans k2).trans k3)
  simpa [e] using l3
 ·obtain ⟨F3, l3, k3⟩ := Prt.alloc (o := .cells #[.int .i64 m, .int .i64 0, .slice p2 (m + 1).toNat (m + 1).toNat, .slice p1 (m + 1).toNat (m + 1).toNat] ty_ref11_Shake (0, 0)) l2 hb
  refine hK b F3 _ ⟨⟨p2, (m + 1).toNat, p1, (m + 1).toNat, ty_ref11_Shake⟩, ?_⟩ ((k1.trans k2).trans k3)
  simpa [e] using l3

theorem rBegin_ok {b : Nat} {n : Int} {s : Sk} {F : Nat → Prop} {H : Hp} {K : Value → Hp → Prop} (h : (RShk b n s).holds F H) (hp : s.ph = 0) (hn : 0 ≤ n) (hn2 : n ≤ 4)
  (hK : ∀ F' H', (RShk b n ⟨1, (List.replicate (n.toNat + 1) false).set n.toNat true, List.replicate (n.toNat + 1) false⟩).holds F' H' → Goes F H F' H' → K (.bool true) H') : hcall PR f_ref11_Shake_Begin ⟨[.pointer (some ⟨b, 0, none⟩)]⟩ H K := by
 obtain ⟨x, h⟩ := h
 apply den_ref11_Shake_Begin
 unfold B_ref11_Shake_Begin
 have hw : IntKind.i64.wrap (n + 1) = n + 1 := wrap_i64 (by omega) (by omega)
 have e : (n + 1).toNat = n.toNat + 1 := by omega
 have e47 : (2 : Int) ^ 47 = 140737488355328 := by decide
 have e62 : (2 : Int) ^ 62 = 4611686018427387904 := by decide
 simp only [Zt, Zu, Nat.zero_add]
 refine ldI_of (Prt.one_cell h (i := 0) rfl rfl) (bif_neqf hp ?_)
 refine Prt.put h (i := 0) rfl (by simp) fun F1 H1 h1 g1 => ?_
 refine ldI_of (Prt.one_cell h1 (i := 0) rfl rfl) ?_
 rw [hw]
 refine mko_ty_Sbool (by omega) (by omega) (by omega) fun p1 H2 o2 k2 => ?_
 obtain ⟨F2, h2, g2⟩ := Prt.change h1 (i := 1) rfl (Prt.row_holds o2) k2
 rw [Zf]
 refine Prt.put h2 (i := 0) rfl (by simp) fun F3 H3 h3 g3 => ?_
 refine ldI_of (Prt.one_cell h3 (i := 0) rfl rfl) ?_
 rw [hw]
 refine mko_ty_Sbool (by omega) (by omega) (by omega) fun p2 H4 o4 k4 => ?_
 obtain ⟨F4, h4, g4⟩ := Prt.change h3 (i := 2) rfl (Prt.row_holds o4) k4
 rw [Zf]
 refine Prt.put h4 (i := 0) rfl (by simp) fun F5 H5 h5 g5 => ?_
 refine ldSl_of (Prt.one_cell h5 (i := 0) rfl rfl) (ldI_of (Prt.one_cell h5 (i := 0) rfl rfl) ?_)
 have hrow := Prt.row_rd h5 (i := 1) rfl
 rw [← List.map_replicate (f := Value.bool)] at hrow
 refine idx1 (d := false) hrow (by omega) (by omega) fun b' o hpp _ => ?_
 refine Prt.poke h5 (i := 1) rfl hpp (by omega) fun F6 H6 h6 g6 => ?_
 refine hK F6 H6 ⟨⟨p1, (n + 1).toNat, p2, (n + 1).toNat, x.2.2.2.2⟩, ?_⟩ (((((g1.trans g2).trans g3).trans g4).trans g5).trans g6)
 simpa [List.map_set, e] using h6

theorem rEnd_ok {b : Nat} {n : Int} {s : Sk} {F : Nat → Prop} {H : Hp} {K : Value → Hp → Prop} (h : (RShk b n s).holds F H) (hp : s.ph = 3) (hn : 0 ≤ n) (hn2 : n ≤ 4)
  (hK : ∀ F' H', (RShk b n ⟨0, List.replicate (n.toNat + 1) false, List.replicate (n.toNat + 1) false⟩).holds F' H' → Goes F H F' H' → K (.bool true) H') : hcall PR f_ref11_Shake_End ⟨[.pointer (some ⟨b, 0, none⟩)]⟩ H K := by
 obtain ⟨x, h⟩ := h
 apply den_ref11_Shake_End
 unfold B_ref11_Shake_End
 have hw : IntKind.i64.wrap (n + 1) = n + 1 := wrap_i64 (by omega) (by omega)
 have e : (n + 1).toNat = n.toNat + 1 := by omega
 have e47 : (2 : Int) ^ 47 = 140737488355328 := by decide
 have e62 : (2 : Int) ^ 62 = 4611686018427387904 := by decide
 simp only [Zt, Zu, Nat.zero_add]
 refine ldI_of (Prt.one_cell h (i := 0) rfl rfl) (bif_neqf hp ?_)
 refine Prt.put h (i := 0) rfl (by simp) fun F1 H1 h1 g1 => ?_
 refine ldI_of (Prt.one_cell h1 (i := 0) rfl rfl) ?_
 rw [hw]
 refine mko_ty_Sbool (by omega) (by omega) (by omega) fun p1 H2 o2 k2 => ?_
 obtain ⟨F2, h2, g2⟩ := Prt.change h1 (i := 1) rfl (Prt.row_holds o2) k2
 rw [Zf]
 refine Prt.put h2 (i := 0) rfl (by simp) fun F3 H3 h3 g3 => ?_
 refine ldI_of (Prt.one_cell h3 (i := 0) rfl rfl) ?_
 rw [hw]
 refine mko_ty_Sbool (by omega) (by omega) (by omega) fun p2 H4 o4 k4 => ?_
 obtain ⟨F4, h4, g4⟩ := Prt.change h3 (i := 2) rfl (Prt.row_holds o4) k4
 rw [Zf]
 refine Prt.put h4 (i := 0) rfl (by simp) fun F5 H5 h5 g5 => ?_
 refine hK F5 H5 ⟨⟨p1, (n + 1).toNat, p2, (n + 1).toNat, x.2.2.2.2⟩, ?_⟩ ((((g1.trans g2).trans g3).trans g4).trans g5)
 simpa [e] using h5

theorem rAnswer_ok {b : Nat} {n : Int} {s : Sk} {m : Int} {F : Nat → Prop} {H : Hp} {K : Value → Hp → Prop} (h : (RShk b n s).holds F H) (ha : (s.ar.length : Int) = n + 1) (hl : s.sc.length = s.ar.length) (hn : n ≤ 4)
  (hK : ∀ F' H', (RShk b n (s.ans m).1).holds F' H' → Goes F H F' H' → K (.int .i64 (s.ans m).2) H') : hcall PR f_ref11_Shake_Answer ⟨[.pointer (some ⟨b, 0, none⟩), .int .i64 m]⟩ H K := by
 obtain ⟨x, h'⟩ := id h
 apply den_ref11_Shake_Answer
 unfold B_ref11_Shake_Answer
 simp only [Zt, Zu, Nat.zero_add]
 by_cases h0 : m < 0
 ·rw [show s.ans m = (s, 0) by unfold Sk.ans; rw [if_pos (.inl h0)]] at hK
  exact bif_pos h0 (hK F H h (Goes.refl _ _))
 refine bif_neg h0 (ldI_of (Prt.one_cell h' (i := 0) rfl rfl) ?_)
 by_cases h1 : (s.ar.length : Int) ≤ m
 ·rw [show s.ans m = (s, 0) by unfold Sk.ans; rw [if_pos (.inr h1)]] at hK
  exact bif_pos (by omega) (hK F H h (Goes.refl _ _))
 refine bif_neg (by omega) ?_
 have hc : ¬ (m < 0 ∨ (s.ar.length : Int) ≤ m) := by omega
 have ep := Prt.one_cell h' (i := 0) (o := 1) rfl rfl
 have e2 := Prt.one_cell h' (i := 0) (o := 2) rfl rfl
 have e3 := Prt.one_cell h' (i := 0) (o := 3) rfl rfl
 intro R5 hR5
 by_cases hp1 : s.ph = 1
 ·refine ldI_of ep (bif_eq hp1 (ldSl_of e2 (idx1 (d := false) (Prt.row_rd h' (i := 1) rfl) (by omega) (by omega) fun b' o hpp hcc => ldB_of hcc ?_)))
  by_cases he : s.ar.getD m.toNat false = true
  ·rw [he, Bool.not_true, cond_false]
   refine hR5 H (ldI_of ep (bif_ne (by omega) ?_))
   rw [show s.ans m = (s, 0) by unfold Sk.ans; rw [if_neg hc, if_pos hp1, if_pos he]] at hK
   exact hK F H h (Goes.refl _ _)
  ·have he' := Bool.not_eq_true _ ▸ he
   rw [he', Bool.not_false, cond_true]
   rw [show s.ans m = (_, 1) by unfold Sk.ans; rw [if_neg hc, if_pos hp1, if_neg he]] at hK
   refine ldSl_of e2 (idx1 (d := false) (Prt.row_rd h' (i := 1) rfl) (by omega) (by omega) fun b' o hpp _ => ?_)
   refine Prt.poke h' (i := 1) rfl hpp (by omega) fun F1 H1 h1' g1 => ?_
   refine ldSl_of (Prt.one_cell h1' (i := 0) (o := 2) rfl rfl) ?_
   have hrow := Prt.row_rd h1' (i := 1) rfl
   rw [← List.map_set (f := Value.bool)] at hrow h1'
   refine rAll_ok hrow (by omega) ?_
   simp only [Zb]
   by_cases ha : (s.ar.set m.toNat true).all id = true
   ·rw [ha, cond_true]
    refine Prt.put h1' (i := 0) rfl (by simp) fun F2 H2 h2 g2 => ?_
    refine hK F2 H2 ⟨x, ?_⟩ (g1.trans g2)
    rw [if_pos ha]
    simpa using h2
   ·rw [Bool.not_eq_true] at ha
    rw [ha, cond_false]
    refine hK F1 H1 ⟨x, ?_⟩ g1
    rw [ha]
    simpa [hp1] using h1'
 ·refine ldI_of ep (bif_ne hp1 (hR5 H (ldI_of ep ?_)))
  by_cases hp2 : s.ph = 2
  ·refine bif_eq hp2 (ldSl_of e3 (idx1 (d := false) (Prt.row_rd h' (i := 2) rfl) (by omega) (by omega) fun b' o hpp hcc => ldB_of hcc ?_))
   by_cases he : s.sc.getD m.toNat false = true
   ·rw [he, Bool.not_true, cond_false]
    rw [show s.ans m = (s, 0) by unfold Sk.ans; rw [if_neg hc, if_neg hp1, if_pos hp2, if_pos he]] at hK
    exact hK F H h (Goes.refl _ _)
   ·have he' := Bool.not_eq_true _ ▸ he
    rw [he', Bool.not_false, cond_true]
    rw [show s.ans m = (_, 2) by unfold Sk.ans; rw [if_neg hc, if_neg hp1, if_pos hp2, if_neg he]] at hK
    refine ldSl_of e3 (idx1 (d := false) (Prt.row_rd h' (i := 2) rfl) (by omega) (by omega) fun b' o hpp _ => ?_)
    refine Prt.poke h' (i := 2) rfl hpp (by omega) fun F1 H1 h1' g1 => ?_
    refine ldSl_of (Prt.one_cell h1' (i := 0) (o := 3) rfl rfl) ?_
    have hrow := Prt.row_rd h1' (i := 2) rfl
    rw [← List.map_set (f := Value.bool)] at hrow h1'
    refine rAll_ok hrow (by omega) ?_
    simp only [Zb]
    by_cases ha : (s.sc.set m.toNat true).all id = true
    ·rw [ha, cond_true]
     refine Prt.put h1' (i := 0) rfl (by simp) fun F2 H2 h2 g2 => ?_
     refine hK F2 H2 ⟨x, ?_⟩ (g1.trans g2)
     rw [if_pos ha]
     simpa using h2
    ·rw [Bool.not_eq_true] at ha
     rw [ha, cond_false]
     refine hK F1 H1 ⟨x, ?_⟩ g1
     rw [ha]
     simpa [hp2] using h1'
  ·rw [show s.ans m = (s, 0) by unfold Sk.ans; rw [if_neg hc, if_neg hp1, if_neg hp2]] at hK
   exact bif_ne hp2 (hK F H h (Goes.refl _ _))

end Go.Proofs.YtflfodcemnapeaaGreat
