/- PRINTED by gen.py: facts on types; append and make by type. No condition. -/
import Derived.Test.YtdeihhfhcnhmfabDenN
import Derived.Test.YtdeihhfhcnhmfabSep
namespace Go.Proofs.Ytdeihhfhcnhmfab
open Go
theorem ti_ty_int : (PR.info? 3).map (fun i => (i.zero, i.size, i.bytes)) = some (some (.int .i64 0), 1, 8) := by kernel_rfl
theorem ti_ty_uint16 : (PR.info? 48).map (fun i => (i.zero, i.size, i.bytes)) = some (some (.int .u16 0), 1, 2) := by kernel_rfl
theorem ti_ty_16_bool : (PR.info? 50).map (fun i => (i.zero, i.size, i.bytes)) = some (some (.agg #[(.bool false), (.bool false), (.bool false), (.bool false), (.bool false), (.bool false), (.bool false), (.bool false), (.bool false), (.bool false), (.bool false), (.bool false), (.bool false), (.bool false), (.bool false), (.bool false)]), 16, 16) := by kernel_rfl
theorem tu_ty_S_16_bool : PR.underlying ty_S_16_bool = some (.slice 50) := by kernel_rfl
theorem app_ty_S_16_bool {ty : Nat} {p q : Option Addr} {n cap m qc : Nat} {xs ys : List Value} {H : Hp} {K : Value → Hp → Prop} (h : Own H 16 p n cap xs) (hq : Rd H 16 q m ys) (hone : ∀ y ∈ ys, one y = true) (hroom : (2 * (n + m) + 512) * 16 ≤ 2 ^ 48)
    (hK : ∀ p' cap' H', Own H' 16 p' (n + m) cap' (xs ++ ys) → Keep (blk p) H H' → (∀ b, blk p' b → blk p b ∨ H b = none) → K (.slice p' (n + m) cap') H') :
    evW PR (Builtin.append_ #[ty_S_16_bool, ty_S_16_bool] ty #[.slice p n cap, .slice q m qc]) H K :=
  append_at (z := (.agg #[(.bool false), (.bool false), (.bool false), (.bool false), (.bool false), (.bool false), (.bool false), (.bool false), (.bool false), (.bool false), (.bool false), (.bool false), (.bool false), (.bool false), (.bool false), (.bool false)])) tu_ty_S_16_bool tu_ty_S_16_bool ti_ty_16_bool rfl (by decide) h hq hone hroom hK
theorem lit_ty_S_16_bool {ty m : Nat} {e0 : TypeId} {p : Option Addr} {n cap : Nat} {xs : List Value} {c : Array Value} {H : Hp} {K : Value → Hp → Prop} (h : Own H 16 p n cap xs) (hs : c.size = m * 16) (hone : ∀ y ∈ c.toList, one y = true) (hroom : (2 * (n + m) + 512) * 16 ≤ 2 ^ 48)
    (hK : ∀ p' cap' H', Own H' 16 p' (n + m) cap' (xs ++ c.toList) → Goes (blk p) H (blk p') H' → K (.slice p' (n + m) cap') H') :
    newB (.cells c e0) H fun b H1 => evW PR (Builtin.append_ #[ty_S_16_bool, ty_S_16_bool] ty #[.slice p n cap, .slice (some ⟨b, 0, none⟩) m m]) H1 K :=
  app_lit (z := (.agg #[(.bool false), (.bool false), (.bool false), (.bool false), (.bool false), (.bool false), (.bool false), (.bool false), (.bool false), (.bool false), (.bool false), (.bool false), (.bool false), (.bool false), (.bool false), (.bool false)])) tu_ty_S_16_bool tu_ty_S_16_bool ti_ty_16_bool rfl (by decide) h hs hone hroom hK
theorem copy_ty_S_16_bool {ty m qc : Nat} {e0 : TypeId} {b : Nat} {q : Option Addr} {ys : List Value} {H : Hp} {K : Value → Hp → Prop} (hb : H b = none) (hq : Rd H 16 q m ys) (hone : ∀ y ∈ ys, one y = true) (hroom : (2 * m + 512) * 16 ≤ 2 ^ 48)
    (hK : ∀ p' cap' H', Own H' 16 p' m cap' ys → Goes Nothing H (blk p') H' → K (.slice p' m cap') H') :
    evW PR (Builtin.append_ #[ty_S_16_bool, ty_S_16_bool] ty #[.slice (some ⟨b, 0, none⟩) 0 0, .slice q m qc]) (upd H b (.cells #[] e0)) K :=
  app_copy (z := (.agg #[(.bool false), (.bool false), (.bool false), (.bool false), (.bool false), (.bool false), (.bool false), (.bool false), (.bool false), (.bool false), (.bool false), (.bool false), (.bool false), (.bool false), (.bool false), (.bool false)])) tu_ty_S_16_bool tu_ty_S_16_bool ti_ty_16_bool rfl (by decide) hb hq hone hroom hK
theorem mk_ty_S_16_bool {n : Int} {H : Hp} {K : Value → Hp → Prop} (h0 : 0 ≤ n) (h1 : n * 16 ≤ 2 ^ 47) (h2 : n < 2 ^ 62)
    (hK : ∀ b cs, H b = none → cs.size = n.toNat * 16 → (∀ i, i < n.toNat * 16 → cs[i]? = ((.agg #[(.bool false), (.bool false), (.bool false), (.bool false), (.bool false), (.bool false), (.bool false), (.bool false), (.bool false), (.bool false), (.bool false), (.bool false), (.bool false), (.bool false), (.bool false), (.bool false)]) : Value).cells[i % 16]?) → K (.slice (some ⟨b, 0, none⟩) n.toNat n.toNat) (upd H b (.cells cs 50 (0, 0)))) :
    evW PR (Instr.makeSlice ty_S_16_bool (.int .i64 n) (.int .i64 n)) H K :=
  make_at (z := (.agg #[(.bool false), (.bool false), (.bool false), (.bool false), (.bool false), (.bool false), (.bool false), (.bool false), (.bool false), (.bool false), (.bool false), (.bool false), (.bool false), (.bool false), (.bool false), (.bool false)])) tu_ty_S_16_bool ti_ty_16_bool h0 h1 h2 rfl (by decide) hK
theorem tu_ty_Sint : PR.underlying ty_Sint = some (.slice 3) := by kernel_rfl
theorem app_ty_Sint {ty : Nat} {p q : Option Addr} {n cap m qc : Nat} {xs ys : List Value} {H : Hp} {K : Value → Hp → Prop} (h : Own H 1 p n cap xs) (hq : Rd H 1 q m ys) (hone : ∀ y ∈ ys, one y = true) (hroom : (2 * (n + m) + 512) * 8 ≤ 2 ^ 48)
    (hK : ∀ p' cap' H', Own H' 1 p' (n + m) cap' (xs ++ ys) → Keep (blk p) H H' → (∀ b, blk p' b → blk p b ∨ H b = none) → K (.slice p' (n + m) cap') H') :
    evW PR (Builtin.append_ #[ty_Sint, ty_Sint] ty #[.slice p n cap, .slice q m qc]) H K :=
  append_at (z := (.int .i64 0)) tu_ty_Sint tu_ty_Sint ti_ty_int rfl (by decide) h hq hone hroom hK
theorem lit_ty_Sint {ty m : Nat} {e0 : TypeId} {p : Option Addr} {n cap : Nat} {xs : List Value} {c : Array Value} {H : Hp} {K : Value → Hp → Prop} (h : Own H 1 p n cap xs) (hs : c.size = m * 1) (hone : ∀ y ∈ c.toList, one y = true) (hroom : (2 * (n + m) + 512) * 8 ≤ 2 ^ 48)
    (hK : ∀ p' cap' H', Own H' 1 p' (n + m) cap' (xs ++ c.toList) → Goes (blk p) H (blk p') H' → K (.slice p' (n + m) cap') H') :
    newB (.cells c e0) H fun b H1 => evW PR (Builtin.append_ #[ty_Sint, ty_Sint] ty #[.slice p n cap, .slice (some ⟨b, 0, none⟩) m m]) H1 K :=
  app_lit (z := (.int .i64 0)) tu_ty_Sint tu_ty_Sint ti_ty_int rfl (by decide) h hs hone hroom hK
theorem copy_ty_Sint {ty m qc : Nat} {e0 : TypeId} {b : Nat} {q : Option Addr} {ys : List Value} {H : Hp} {K : Value → Hp → Prop} (hb : H b = none) (hq : Rd H 1 q m ys) (hone : ∀ y ∈ ys, one y = true) (hroom : (2 * m + 512) * 8 ≤ 2 ^ 48)
    (hK : ∀ p' cap' H', Own H' 1 p' m cap' ys → Goes Nothing H (blk p') H' → K (.slice p' m cap') H') :
    evW PR (Builtin.append_ #[ty_Sint, ty_Sint] ty #[.slice (some ⟨b, 0, none⟩) 0 0, .slice q m qc]) (upd H b (.cells #[] e0)) K :=
  app_copy (z := (.int .i64 0)) tu_ty_Sint tu_ty_Sint ti_ty_int rfl (by decide) hb hq hone hroom hK
theorem mko_ty_Sint {n : Int} {H : Hp} {K : Value → Hp → Prop} (h0 : 0 ≤ n) (h1 : n * 8 ≤ 2 ^ 47) (h2 : n < 2 ^ 62)
    (hK : ∀ p H', Own H' 1 p n.toNat n.toNat (List.replicate n.toNat (.int .i64 0)) → Goes Nothing H (blk p) H' → K (.slice p n.toNat n.toNat) H') : evW PR (Instr.makeSlice ty_Sint (.int .i64 n) (.int .i64 n)) H K :=
  make_own (z := (.int .i64 0)) tu_ty_Sint ti_ty_int rfl h0 h1 h2 hK
theorem clr_ty_Sint {ty n cap : Nat} {p : Option Addr} {xs : List Value} {H : Hp} {K : Value → Hp → Prop} (ho : Own H 1 p n cap xs)
    (hK : ∀ H', Own H' 1 p n cap (List.replicate n (.int .i64 0)) → Goes (blk p) H (blk p) H' → K (.tuple #[]) H') : evW PR (Builtin.clear_ #[ty_Sint] ty #[.slice p n cap]) H K :=
  clear_own (z := (.int .i64 0)) tu_ty_Sint ti_ty_int rfl rfl ho hK
theorem mk_ty_Sint {n : Int} {H : Hp} {K : Value → Hp → Prop} (h0 : 0 ≤ n) (h1 : n * 8 ≤ 2 ^ 47) (h2 : n < 2 ^ 62)
    (hK : ∀ b cs, H b = none → cs.size = n.toNat * 1 → (∀ i, i < n.toNat * 1 → cs[i]? = ((.int .i64 0) : Value).cells[i % 1]?) → K (.slice (some ⟨b, 0, none⟩) n.toNat n.toNat) (upd H b (.cells cs 3 (0, 0)))) :
    evW PR (Instr.makeSlice ty_Sint (.int .i64 n) (.int .i64 n)) H K :=
  make_at (z := (.int .i64 0)) tu_ty_Sint ti_ty_int h0 h1 h2 rfl (by decide) hK
theorem tu_ty_Suint16 : PR.underlying ty_Suint16 = some (.slice 48) := by kernel_rfl
theorem app_ty_Suint16 {ty : Nat} {p q : Option Addr} {n cap m qc : Nat} {xs ys : List Value} {H : Hp} {K : Value → Hp → Prop} (h : Own H 1 p n cap xs) (hq : Rd H 1 q m ys) (hone : ∀ y ∈ ys, one y = true) (hroom : (2 * (n + m) + 512) * 2 ≤ 2 ^ 48)
    (hK : ∀ p' cap' H', Own H' 1 p' (n + m) cap' (xs ++ ys) → Keep (blk p) H H' → (∀ b, blk p' b → blk p b ∨ H b = none) → K (.slice p' (n + m) cap') H') :
    evW PR (Builtin.append_ #[ty_Suint16, ty_Suint16] ty #[.slice p n cap, .slice q m qc]) H K :=
  append_at (z := (.int .u16 0)) tu_ty_Suint16 tu_ty_Suint16 ti_ty_uint16 rfl (by decide) h hq hone hroom hK
theorem lit_ty_Suint16 {ty m : Nat} {e0 : TypeId} {p : Option Addr} {n cap : Nat} {xs : List Value} {c : Array Value} {H : Hp} {K : Value → Hp → Prop} (h : Own H 1 p n cap xs) (hs : c.size = m * 1) (hone : ∀ y ∈ c.toList, one y = true) (hroom : (2 * (n + m) + 512) * 2 ≤ 2 ^ 48)
    (hK : ∀ p' cap' H', Own H' 1 p' (n + m) cap' (xs ++ c.toList) → Goes (blk p) H (blk p') H' → K (.slice p' (n + m) cap') H') :
    newB (.cells c e0) H fun b H1 => evW PR (Builtin.append_ #[ty_Suint16, ty_Suint16] ty #[.slice p n cap, .slice (some ⟨b, 0, none⟩) m m]) H1 K :=
  app_lit (z := (.int .u16 0)) tu_ty_Suint16 tu_ty_Suint16 ti_ty_uint16 rfl (by decide) h hs hone hroom hK
theorem copy_ty_Suint16 {ty m qc : Nat} {e0 : TypeId} {b : Nat} {q : Option Addr} {ys : List Value} {H : Hp} {K : Value → Hp → Prop} (hb : H b = none) (hq : Rd H 1 q m ys) (hone : ∀ y ∈ ys, one y = true) (hroom : (2 * m + 512) * 2 ≤ 2 ^ 48)
    (hK : ∀ p' cap' H', Own H' 1 p' m cap' ys → Goes Nothing H (blk p') H' → K (.slice p' m cap') H') :
    evW PR (Builtin.append_ #[ty_Suint16, ty_Suint16] ty #[.slice (some ⟨b, 0, none⟩) 0 0, .slice q m qc]) (upd H b (.cells #[] e0)) K :=
  app_copy (z := (.int .u16 0)) tu_ty_Suint16 tu_ty_Suint16 ti_ty_uint16 rfl (by decide) hb hq hone hroom hK
theorem mko_ty_Suint16 {n : Int} {H : Hp} {K : Value → Hp → Prop} (h0 : 0 ≤ n) (h1 : n * 2 ≤ 2 ^ 47) (h2 : n < 2 ^ 62)
    (hK : ∀ p H', Own H' 1 p n.toNat n.toNat (List.replicate n.toNat (.int .u16 0)) → Goes Nothing H (blk p) H' → K (.slice p n.toNat n.toNat) H') : evW PR (Instr.makeSlice ty_Suint16 (.int .i64 n) (.int .i64 n)) H K :=
  make_own (z := (.int .u16 0)) tu_ty_Suint16 ti_ty_uint16 rfl h0 h1 h2 hK
theorem clr_ty_Suint16 {ty n cap : Nat} {p : Option Addr} {xs : List Value} {H : Hp} {K : Value → Hp → Prop} (ho : Own H 1 p n cap xs)
    (hK : ∀ H', Own H' 1 p n cap (List.replicate n (.int .u16 0)) → Goes (blk p) H (blk p) H' → K (.tuple #[]) H') : evW PR (Builtin.clear_ #[ty_Suint16] ty #[.slice p n cap]) H K :=
  clear_own (z := (.int .u16 0)) tu_ty_Suint16 ti_ty_uint16 rfl rfl ho hK
theorem mk_ty_Suint16 {n : Int} {H : Hp} {K : Value → Hp → Prop} (h0 : 0 ≤ n) (h1 : n * 2 ≤ 2 ^ 47) (h2 : n < 2 ^ 62)
    (hK : ∀ b cs, H b = none → cs.size = n.toNat * 1 → (∀ i, i < n.toNat * 1 → cs[i]? = ((.int .u16 0) : Value).cells[i % 1]?) → K (.slice (some ⟨b, 0, none⟩) n.toNat n.toNat) (upd H b (.cells cs 48 (0, 0)))) :
    evW PR (Instr.makeSlice ty_Suint16 (.int .i64 n) (.int .i64 n)) H K :=
  make_at (z := (.int .u16 0)) tu_ty_Suint16 ti_ty_uint16 h0 h1 h2 rfl (by decide) hK
end Go.Proofs.Ytdeihhfhcnhmfab
