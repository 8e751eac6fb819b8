/- Chapter 7's statements, run: ArenaApart. No condition. -/
import Derived.Test.YtdeihhfhcnhmfaaLaw7s
namespace Go.Proofs.Ytdeihhfhcnhmfaa
set_option linter.unusedSimpArgs false
set_option linter.unusedVariables false
set_option linter.unnecessarySimpa false
open Go

/-- One more at the end of a row of integers. -/
theorem add_ok {L : List Prt} {i n cap : Nat} {p : Option Addr} {l : List Int} {x : Int} {F : Nat → Prop} {H : Hp} {K : Option Addr → Nat → Nat → Hp → Prop} (h : (Prt.list L).holds F H) (hi : L[i]? = some (Prt.row 1 p n cap (l.map fun y => Value.int .i64 y))) (hn : n ≤ 1000000)
    (hK : ∀ p' cap' F' H', (Prt.list (L.set i (Prt.row 1 p' (n + 1) cap' ((l ++ [x]).map fun y => Value.int .i64 y)))).holds F' H' → Goes F H F' H' → K p' (n + 1) cap' H') :
    newB (.cells #[.int .i64 x] ty_int) H fun b Hx => evW PR (Builtin.append_ #[ty_Sint, ty_Sint] ty_Sint #[.slice p n cap, .slice (some ⟨b, 0, none⟩) 1 1]) Hx fun v Hx2 => asSl v fun tP tL tC => K tP tL tC Hx2 := by
  obtain ⟨FR, ⟨oR, hFR⟩, _, upR⟩ := Prt.at h hi
  refine lit_ty_Sint oR (m := 1) (by simp) (by simp [one]) (by omega) fun P' C' H6 o6 g6 => ?_
  have hFR' : FR = blk p := funext fun c => propext (hFR c)
  obtain ⟨F6, s6, g6'⟩ := upR (Prt.row 1 P' (n + 1) C' ((l ++ [x]).map fun y => Value.int .i64 y)) (blk P') H6 ⟨by rw [List.map_append]; exact o6, fun _ => Iff.rfl⟩ (by rw [hFR']; exact g6)
  exact asSl_mk.mpr (hK _ _ _ _ s6 g6')

/-- One struck out of a row of integers. -/
theorem without_ok {L : List Prt} {i n cap k : Nat} {p : Option Addr} {l : List Int} {F : Nat → Prop} {H : Hp} {K : Option Addr → Nat → Nat → Hp → Prop} (h : (Prt.list L).holds F H) (hi : L[i]? = some (Prt.row 1 p n cap (l.map fun y => Value.int .i64 y))) (hk : k < n) (hn : n ≤ 1000000)
    (hK : ∀ p' cap' F' H', (Prt.list (L.set i (Prt.row 1 p' (n - 1) cap' ((l.eraseIdx k).map fun y => Value.int .i64 y)))).holds F' H' → Goes F H F' H' → K p' (n - 1) cap' H') :
    slcD p n cap none (some (k : Int)) 1 fun sP sL sC => slcD p n cap (some (IntKind.i64.wrap ((k : Int) + 1))) none 1 fun sP2 sL2 sC2 =>
      newB (.cells #[] ty_int) H fun b Hx => evW PR (Builtin.append_ #[ty_Sint, ty_Sint] ty_Sint #[.slice (some ⟨b, 0, none⟩) 0 0, .slice sP sL sC]) Hx fun v Hx2 => asSl v fun tP tL tC =>
        evW PR (Builtin.append_ #[ty_Sint, ty_Sint] ty_Sint #[.slice tP tL tC, .slice sP2 sL2 sC2]) Hx2 fun v3 Hx3 => asSl v3 fun tP2 tL2 tC2 => K tP2 tL2 tC2 Hx3 := by
  have o7 := Prt.row_own h hi
  have hcap := o7.2.1
  have hln : l.length = n := by have := o7.1; simpa using this
  refine slc_to (by omega) (by omega) ?_
  rw [wrap_i64 (by omega) (by omega)]
  refine slc_from (by omega) (by omega) ?_
  rw [show ((k : Int) + 1).toNat = k + 1 by omega, Int.toNat_natCast]
  intro b1 hb1
  have r1 := o7.rd.take (m := k) (by omega)
  have r2 := o7.rd.drop (l := k + 1) (by omega) hcap
  rw [Nat.mul_one, ← List.map_take] at r1
  rw [Nat.mul_one, ← List.map_drop] at r2
  refine copy_ty_Sint hb1 r1 ones_ints (by omega) fun p2 c2 H8 o8 g8 => ?_
  simp only [asSl_mk]
  refine app_ty_Sint o8 (r2.keep g8.keep fun _ _ => id) ones_ints (by omega) fun p3 c3 H9 o9 k9 n9 => ?_
  simp only [asSl_mk]
  have g9 : Goes Nothing H (blk p3) H9 := g8.trans ⟨k9, n9⟩
  have e1 : k + (n - (k + 1)) = n - 1 := by omega
  rw [← List.map_append, ← List.eraseIdx_eq_take_drop_succ, e1] at o9
  obtain ⟨F9, s9, g9'⟩ := Prt.change h hi (Prt.row_holds o9) g9
  rw [e1]
  exact hK _ _ _ _ s9 g9'

end Go.Proofs.Ytdeihhfhcnhmfaa
