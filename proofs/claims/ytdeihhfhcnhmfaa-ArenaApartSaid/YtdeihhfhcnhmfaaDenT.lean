/- PRINTED by gen.py: facts on types; append and make by type. No condition. -/
import Derived.Test.YtdeihhfhcnhmfaaDenN
import Derived.Test.YtdeihhfhcnhmfaaSep
namespace Go.Proofs.Ytdeihhfhcnhmfaa
open Go
theorem ti_ty_int : (PR.info? 3).map (fun i => (i.zero, i.size, i.bytes)) = some (some (.int .i64 0), 1, 8) := by kernel_rfl
theorem ti_ty_bool : (PR.info? 4).map (fun i => (i.zero, i.size, i.bytes)) = some (some (.bool false), 1, 1) := by kernel_rfl
theorem ti_ty_string : (PR.info? 9).map (fun i => (i.zero, i.size, i.bytes)) = some (some (.string ⟨#[]⟩), 1, 16) := by kernel_rfl
theorem ti_ty_uint16 : (PR.info? 78).map (fun i => (i.zero, i.size, i.bytes)) = some (some (.int .u16 0), 1, 2) := by kernel_rfl
theorem tu_ty_Sbool : PR.underlying ty_Sbool = some (.slice 4) := by kernel_rfl
theorem app_ty_Sbool {ty : Nat} {p q : Option Addr} {n cap m qc : Nat} {xs ys : List Value} {H : Hp} {K : Value → Hp → Prop} (h : Own H 1 p n cap xs) (hq : Rd H 1 q m ys) (hone : ∀ y ∈ ys, one y = true) (hroom : (2 * (n + m) + 512) * 1 ≤ 2 ^ 48)
    (hK : ∀ p' cap' H', Own H' 1 p' (n + m) cap' (xs ++ ys) → Keep (blk p) H H' → (∀ b, blk p' b → blk p b ∨ H b = none) → K (.slice p' (n + m) cap') H') :
    evW PR (Builtin.append_ #[ty_Sbool, ty_Sbool] ty #[.slice p n cap, .slice q m qc]) H K :=
  append_at (z := (.bool false)) tu_ty_Sbool tu_ty_Sbool ti_ty_bool rfl (by decide) h hq hone hroom hK
theorem lit_ty_Sbool {ty m : Nat} {e0 : TypeId} {p : Option Addr} {n cap : Nat} {xs : List Value} {c : Array Value} {H : Hp} {K : Value → Hp → Prop} (h : Own H 1 p n cap xs) (hs : c.size = m * 1) (hone : ∀ y ∈ c.toList, one y = true) (hroom : (2 * (n + m) + 512) * 1 ≤ 2 ^ 48)
    (hK : ∀ p' cap' H', Own H' 1 p' (n + m) cap' (xs ++ c.toList) → Goes (blk p) H (blk p') H' → K (.slice p' (n + m) cap') H') :
    newB (.cells c e0) H fun b H1 => evW PR (Builtin.append_ #[ty_Sbool, ty_Sbool] ty #[.slice p n cap, .slice (some ⟨b, 0, none⟩) m m]) H1 K :=
  app_lit (z := (.bool false)) tu_ty_Sbool tu_ty_Sbool ti_ty_bool rfl (by decide) h hs hone hroom hK
theorem copy_ty_Sbool {ty m qc : Nat} {e0 : TypeId} {b : Nat} {q : Option Addr} {ys : List Value} {H : Hp} {K : Value → Hp → Prop} (hb : H b = none) (hq : Rd H 1 q m ys) (hone : ∀ y ∈ ys, one y = true) (hroom : (2 * m + 512) * 1 ≤ 2 ^ 48)
    (hK : ∀ p' cap' H', Own H' 1 p' m cap' ys → Goes Nothing H (blk p') H' → K (.slice p' m cap') H') :
    evW PR (Builtin.append_ #[ty_Sbool, ty_Sbool] ty #[.slice (some ⟨b, 0, none⟩) 0 0, .slice q m qc]) (upd H b (.cells #[] e0)) K :=
  app_copy (z := (.bool false)) tu_ty_Sbool tu_ty_Sbool ti_ty_bool rfl (by decide) hb hq hone hroom hK
theorem mko_ty_Sbool {n : Int} {H : Hp} {K : Value → Hp → Prop} (h0 : 0 ≤ n) (h1 : n * 1 ≤ 2 ^ 47) (h2 : n < 2 ^ 62)
    (hK : ∀ p H', Own H' 1 p n.toNat n.toNat (List.replicate n.toNat (.bool false)) → Goes Nothing H (blk p) H' → K (.slice p n.toNat n.toNat) H') : evW PR (Instr.makeSlice ty_Sbool (.int .i64 n) (.int .i64 n)) H K :=
  make_own (z := (.bool false)) tu_ty_Sbool ti_ty_bool rfl h0 h1 h2 hK
theorem clr_ty_Sbool {ty n cap : Nat} {p : Option Addr} {xs : List Value} {H : Hp} {K : Value → Hp → Prop} (ho : Own H 1 p n cap xs)
    (hK : ∀ H', Own H' 1 p n cap (List.replicate n (.bool false)) → Goes (blk p) H (blk p) H' → K (.tuple #[]) H') : evW PR (Builtin.clear_ #[ty_Sbool] ty #[.slice p n cap]) H K :=
  clear_own (z := (.bool false)) tu_ty_Sbool ti_ty_bool rfl rfl ho hK
theorem mk_ty_Sbool {n : Int} {H : Hp} {K : Value → Hp → Prop} (h0 : 0 ≤ n) (h1 : n * 1 ≤ 2 ^ 47) (h2 : n < 2 ^ 62)
    (hK : ∀ b cs, H b = none → cs.size = n.toNat * 1 → (∀ i, i < n.toNat * 1 → cs[i]? = ((.bool false) : Value).cells[i % 1]?) → K (.slice (some ⟨b, 0, none⟩) n.toNat n.toNat) (upd H b (.cells cs 4 (0, 0)))) :
    evW PR (Instr.makeSlice ty_Sbool (.int .i64 n) (.int .i64 n)) H K :=
  make_at (z := (.bool false)) tu_ty_Sbool ti_ty_bool h0 h1 h2 rfl (by decide) hK
theorem tu_ty_Sint : PR.underlying ty_Sint = some (.slice 3) := by kernel_rfl
theorem app_ty_Sint {ty : Nat} {p q : Option Addr} {n cap m qc : Nat} {xs ys : List Value} {H : Hp} {K : Value → Hp → Prop} (h : Own H 1 p n cap xs) (hq : Rd H 1 q m ys) (hone : ∀ y ∈ ys, one y = true) (hroom : (2 * (n + m) + 512) * 8 ≤ 2 ^ 48)
    (hK : ∀ p' cap' H', Own H' 1 p' (n + m) cap' (xs ++ ys) → Keep (blk p) H H' → (∀ b, blk p' b → blk p b ∨ H b = none) → K (.slice p' (n + m) cap') H') :
    evW PR (Builtin.append_ #[ty_Sint, ty_Sint] ty #[.slice p n cap, .slice q m qc]) H K :=
  append_at (z := (.int .i64 0)) tu_ty_Sint tu_ty_Sint ti_ty_int rfl (by decide) h hq hone hroom hK
theorem lit_ty_Sint {ty m : Nat} {e0 : TypeId} {p : Option Addr} {n cap : Nat} {xs : List Value} {c : Array Value} {H : Hp} {K : Value → Hp → Prop} (h : Own H 1 p n cap xs) (hs : c.size = m * 1) (hone : ∀ y ∈ c.toList, one y = true) (hroom : (2 * (n + m) + 512) * 8 ≤ 2 ^ 48)
    (hK : ∀ p' cap' H', Own H' 1 p' (n + m) cap' (xs ++ c.toList) → Goes (blk p) H (blk p') H' → K (.slice p' (n + m) cap') H') :
    newB (.cells c e0) H fun b H1 => evW PR (Builtin.append_ #[ty_Sint, ty_Sint] ty #[.slice p n cap, .slice (some ⟨b, 0, none⟩) m m]) H1 K :=
  app_lit (z := (.int .i64 0)) tu_ty_Sint tu_ty_Sint ti_ty_int rfl (by decide) h hs hone hroom hK
theorem copy_ty_Sint {ty m qc : Nat} {e0 : TypeId} {b : Nat} {q : Option Addr} {ys : List Value} {H : Hp} {K : Value → Hp → Prop} (hb : H b = none) (hq : Rd H 1 q m ys) (hone : ∀ y ∈ ys, one y = true) (hroom : (2 * m + 512) * 8 ≤ 2 ^ 48)
    (hK : ∀ p' cap' H', Own H' 1 p' m cap' ys → Goes Nothing H (blk p') H' → K (.slice p' m cap') H') :
    evW PR (Builtin.append_ #[ty_Sint, ty_Sint] ty #[.slice (some ⟨b, 0, none⟩) 0 0, .slice q m qc]) (upd H b (.cells #[] e0)) K :=
  app_copy (z := (.int .i64 0)) tu_ty_Sint tu_ty_Sint ti_ty_int rfl (by decide) hb hq hone hroom hK
theorem mko_ty_Sint {n : Int} {H : Hp} {K : Value → Hp → Prop} (h0 : 0 ≤ n) (h1 : n * 8 ≤ 2 ^ 47) (h2 : n < 2 ^ 62)
    (hK : ∀ p H', Own H' 1 p n.toNat n.toNat (List.replicate n.toNat (.int .i64 0)) → Goes Nothing H (blk p) H' → K (.slice p n.toNat n.toNat) H') : evW PR (Instr.makeSlice ty_Sint (.int .i64 n) (.int .i64 n)) H K :=
  make_own (z := (.int .i64 0)) tu_ty_Sint ti_ty_int rfl h0 h1 h2 hK
theorem clr_ty_Sint {ty n cap : Nat} {p : Option Addr} {xs : List Value} {H : Hp} {K : Value → Hp → Prop} (ho : Own H 1 p n cap xs)
    (hK : ∀ H', Own H' 1 p n cap (List.replicate n (.int .i64 0)) → Goes (blk p) H (blk p) H' → K (.tuple #[]) H') : evW PR (Builtin.clear_ #[ty_Sint] ty #[.slice p n cap]) H K :=
  clear_own (z := (.int .i64 0)) tu_ty_Sint ti_ty_int rfl rfl ho hK
theorem mk_ty_Sint {n : Int} {H : Hp} {K : Value → Hp → Prop} (h0 : 0 ≤ n) (h1 : n * 8 ≤ 2 ^ 47) (h2 : n < 2 ^ 62)
    (hK : ∀ b cs, H b = none → cs.size = n.toNat * 1 → (∀ i, i < n.toNat * 1 → cs[i]? = ((.int .i64 0) : Value).cells[i % 1]?) → K (.slice (some ⟨b, 0, none⟩) n.toNat n.toNat) (upd H b (.cells cs 3 (0, 0)))) :
    evW PR (Instr.makeSlice ty_Sint (.int .i64 n) (.int .i64 n)) H K :=
  make_at (z := (.int .i64 0)) tu_ty_Sint ti_ty_int h0 h1 h2 rfl (by decide) hK
theorem tu_ty_Sstring : PR.underlying ty_Sstring = some (.slice 9) := by kernel_rfl
theorem app_ty_Sstring {ty : Nat} {p q : Option Addr} {n cap m qc : Nat} {xs ys : List Value} {H : Hp} {K : Value → Hp → Prop} (h : Own H 1 p n cap xs) (hq : Rd H 1 q m ys) (hone : ∀ y ∈ ys, one y = true) (hroom : (2 * (n + m) + 512) * 16 ≤ 2 ^ 48)
    (hK : ∀ p' cap' H', Own H' 1 p' (n + m) cap' (xs ++ ys) → Keep (blk p) H H' → (∀ b, blk p' b → blk p b ∨ H b = none) → K (.slice p' (n + m) cap') H') :
    evW PR (Builtin.append_ #[ty_Sstring, ty_Sstring] ty #[.slice p n cap, .slice q m qc]) H K :=
  append_at (z := (.string ⟨#[]⟩)) tu_ty_Sstring tu_ty_Sstring ti_ty_string rfl (by decide) h hq hone hroom hK
theorem lit_ty_Sstring {ty m : Nat} {e0 : TypeId} {p : Option Addr} {n cap : Nat} {xs : List Value} {c : Array Value} {H : Hp} {K : Value → Hp → Prop} (h : Own H 1 p n cap xs) (hs : c.size = m * 1) (hone : ∀ y ∈ c.toList, one y = true) (hroom : (2 * (n + m) + 512) * 16 ≤ 2 ^ 48)
    (hK : ∀ p' cap' H', Own H' 1 p' (n + m) cap' (xs ++ c.toList) → Goes (blk p) H (blk p') H' → K (.slice p' (n + m) cap') H') :
    newB (.cells c e0) H fun b H1 => evW PR (Builtin.append_ #[ty_Sstring, ty_Sstring] ty #[.slice p n cap, .slice (some ⟨b, 0, none⟩) m m]) H1 K :=
  app_lit (z := (.string ⟨#[]⟩)) tu_ty_Sstring tu_ty_Sstring ti_ty_string rfl (by decide) h hs hone hroom hK
theorem copy_ty_Sstring {ty m qc : Nat} {e0 : TypeId} {b : Nat} {q : Option Addr} {ys : List Value} {H : Hp} {K : Value → Hp → Prop} (hb : H b = none) (hq : Rd H 1 q m ys) (hone : ∀ y ∈ ys, one y = true) (hroom : (2 * m + 512) * 16 ≤ 2 ^ 48)
    (hK : ∀ p' cap' H', Own H' 1 p' m cap' ys → Goes Nothing H (blk p') H' → K (.slice p' m cap') H') :
    evW PR (Builtin.append_ #[ty_Sstring, ty_Sstring] ty #[.slice (some ⟨b, 0, none⟩) 0 0, .slice q m qc]) (upd H b (.cells #[] e0)) K :=
  app_copy (z := (.string ⟨#[]⟩)) tu_ty_Sstring tu_ty_Sstring ti_ty_string rfl (by decide) hb hq hone hroom hK
theorem mko_ty_Sstring {n : Int} {H : Hp} {K : Value → Hp → Prop} (h0 : 0 ≤ n) (h1 : n * 16 ≤ 2 ^ 47) (h2 : n < 2 ^ 62)
    (hK : ∀ p H', Own H' 1 p n.toNat n.toNat (List.replicate n.toNat (.string ⟨#[]⟩)) → Goes Nothing H (blk p) H' → K (.slice p n.toNat n.toNat) H') : evW PR (Instr.makeSlice ty_Sstring (.int .i64 n) (.int .i64 n)) H K :=
  make_own (z := (.string ⟨#[]⟩)) tu_ty_Sstring ti_ty_string rfl h0 h1 h2 hK
theorem clr_ty_Sstring {ty n cap : Nat} {p : Option Addr} {xs : List Value} {H : Hp} {K : Value → Hp → Prop} (ho : Own H 1 p n cap xs)
    (hK : ∀ H', Own H' 1 p n cap (List.replicate n (.string ⟨#[]⟩)) → Goes (blk p) H (blk p) H' → K (.tuple #[]) H') : evW PR (Builtin.clear_ #[ty_Sstring] ty #[.slice p n cap]) H K :=
  clear_own (z := (.string ⟨#[]⟩)) tu_ty_Sstring ti_ty_string rfl rfl ho hK
theorem mk_ty_Sstring {n : Int} {H : Hp} {K : Value → Hp → Prop} (h0 : 0 ≤ n) (h1 : n * 16 ≤ 2 ^ 47) (h2 : n < 2 ^ 62)
    (hK : ∀ b cs, H b = none → cs.size = n.toNat * 1 → (∀ i, i < n.toNat * 1 → cs[i]? = ((.string ⟨#[]⟩) : Value).cells[i % 1]?) → K (.slice (some ⟨b, 0, none⟩) n.toNat n.toNat) (upd H b (.cells cs 9 (0, 0)))) :
    evW PR (Instr.makeSlice ty_Sstring (.int .i64 n) (.int .i64 n)) H K :=
  make_at (z := (.string ⟨#[]⟩)) tu_ty_Sstring ti_ty_string h0 h1 h2 rfl (by decide) hK
theorem tu_ty_Suint16 : PR.underlying ty_Suint16 = some (.slice 78) := by kernel_rfl
theorem app_ty_Suint16 {ty : Nat} {p q : Option Addr} {n cap m qc : Nat} {xs ys : List Value} {H : Hp} {K : Value → Hp → Prop} (h : Own H 1 p n cap xs) (hq : Rd H 1 q m ys) (hone : ∀ y ∈ ys, one y = true) (hroom : (2 * (n + m) + 512) * 2 ≤ 2 ^ 48)
    (hK : ∀ p' cap' H', Own H' 1 p' (n + m) cap' (xs ++ ys) → Keep (blk p) H H' → (∀ b, blk p' b → blk p b ∨ H b = none) → K (.slice p' (n + m) cap') H') :
    evW PR (Builtin.append_ #[ty_Suint16, ty_Suint16] ty #[.slice p n cap, .slice q m qc]) H K :=
  append_at (z := (.int .u16 0)) tu_ty_Suint16 tu_ty_Suint16 ti_ty_uint16 rfl (by decide) h hq hone hroom hK
theorem lit_ty_Suint16 {ty m : Nat} {e0 : TypeId} {p : Option Addr} {n cap : Nat} {xs : List Value} {c : Array Value} {H : Hp} {K : Value → Hp → Prop} (h : Own H 1 p n cap xs) (hs : c.size = m * 1) (hone : ∀ y ∈ c.toList, one y = true) (hroom : (2 * (n + m) + 512) * 2 ≤ 2 ^ 48)
    (hK : ∀ p' cap' H', Own H' 1 p' (n + m) cap' (xs ++ c.toList) → Goes (blk p) H (blk p') H' → K (.slice p' (n + m) cap') H') :
    newB (.cells c e0) H fun b H1 => evW PR (Builtin.append_ #[ty_Suint16, ty_Suint16] ty #[.slice p n cap, .slice (some ⟨b, 0, none⟩) m m]) H1 K :=
  app_lit (z := (.int .u16 0)) tu_ty_Suint16 tu_ty_Suint16 ti_ty_uint16 rfl (by decide) h hs hone hroom hK
theorem copy_ty_Suint16 {ty m qc : Nat} {e0 : TypeId} {b : Nat} {q : Option Addr} {ys : List Value} {H : Hp} {K : Value → Hp → Prop} (hb : H b = none) (hq : Rd H 1 q m ys) (hone : ∀ y ∈ ys, one y = true) (hroom : (2 * m + 512) * 2 ≤ 2 ^ 48)
    (hK : ∀ p' cap' H', Own H' 1 p' m cap' ys → Goes Nothing H (blk p') H' → K (.slice p' m cap') H') :
    evW PR (Builtin.append_ #[ty_Suint16, ty_Suint16] ty #[.slice (some ⟨b, 0, none⟩) 0 0, .slice q m qc]) (upd H b (.cells #[] e0)) K :=
  app_copy (z := (.int .u16 0)) tu_ty_Suint16 tu_ty_Suint16 ti_ty_uint16 rfl (by decide) hb hq hone hroom hK
theorem mko_ty_Suint16 {n : Int} {H : Hp} {K : Value → Hp → Prop} (h0 : 0 ≤ n) (h1 : n * 2 ≤ 2 ^ 47) (h2 : n < 2 ^ 62)
    (hK : ∀ p H', Own H' 1 p n.toNat n.toNat (List.replicate n.toNat (.int .u16 0)) → Goes Nothing H (blk p) H' → K (.slice p n.toNat n.toNat) H') : evW PR (Instr.makeSlice ty_Suint16 (.int .i64 n) (.int .i64 n)) H K :=
  make_own (z := (.int .u16 0)) tu_ty_Suint16 ti_ty_uint16 rfl h0 h1 h2 hK
theorem clr_ty_Suint16 {ty n cap : Nat} {p : Option Addr} {xs : List Value} {H : Hp} {K : Value → Hp → Prop} (ho : Own H 1 p n cap xs)
    (hK : ∀ H', Own H' 1 p n cap (List.replicate n (.int .u16 0)) → Goes (blk p) H (blk p) H' → K (.tuple #[]) H') : evW PR (Builtin.clear_ #[ty_Suint16] ty #[.slice p n cap]) H K :=
  clear_own (z := (.int .u16 0)) tu_ty_Suint16 ti_ty_uint16 rfl rfl ho hK
theorem mk_ty_Suint16 {n : Int} {H : Hp} {K : Value → Hp → Prop} (h0 : 0 ≤ n) (h1 : n * 2 ≤ 2 ^ 47) (h2 : n < 2 ^ 62)
    (hK : ∀ b cs, H b = none → cs.size = n.toNat * 1 → (∀ i, i < n.toNat * 1 → cs[i]? = ((.int .u16 0) : Value).cells[i % 1]?) → K (.slice (some ⟨b, 0, none⟩) n.toNat n.toNat) (upd H b (.cells cs 78 (0, 0)))) :
    evW PR (Instr.makeSlice ty_Suint16 (.int .i64 n) (.int .i64 n)) H K :=
  make_at (z := (.int .u16 0)) tu_ty_Suint16 ti_ty_uint16 h0 h1 h2 rfl (by decide) hK
end Go.Proofs.Ytdeihhfhcnhmfaa
