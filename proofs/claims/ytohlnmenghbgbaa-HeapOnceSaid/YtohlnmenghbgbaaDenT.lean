/- PRINTED by gen.py: facts on types; append and make by type. No condition. -/
import Derived.Test.YtohlnmenghbgbaaDenN
import Derived.Test.YtohlnmenghbgbaaSep
namespace Go.Proofs.Ytohlnmenghbgbaa
open Go
theorem ti_ty_int : (PR.info? 3).map (fun i => (i.zero, i.size, i.bytes)) = some (some (.int .i64 0), 1, 8) := by kernel_rfl
theorem ti_ty_bool : (PR.info? 4).map (fun i => (i.zero, i.size, i.bytes)) = some (some (.bool false), 1, 1) := by kernel_rfl
theorem ti_ty_uint64 : (PR.info? 26).map (fun i => (i.zero, i.size, i.bytes)) = some (some (.int .u64 0), 1, 8) := by kernel_rfl
theorem ti_ty_api_ID : (PR.info? 31).map (fun i => (i.zero, i.size, i.bytes)) = some (some (.agg #[(.int .i64 0), (.int .u64 0)]), 2, 16) := by kernel_rfl
theorem ti_ty_law8_Step : (PR.info? 49).map (fun i => (i.zero, i.size, i.bytes)) = some (some (.agg #[(.int .i64 0), (.int .i64 0), (.int .i64 0), (.int .u64 0), (.int .u64 0), (.int .i64 0), (.int .u64 0), (.bool false)]), 8, 64) := by kernel_rfl
theorem ti_ty_2_api_ID : (PR.info? 51).map (fun i => (i.zero, i.size, i.bytes)) = some (some (.agg #[(.int .i64 0), (.int .u64 0), (.int .i64 0), (.int .u64 0)]), 4, 32) := by kernel_rfl
theorem ti_ty_2_uint64 : (PR.info? 52).map (fun i => (i.zero, i.size, i.bytes)) = some (some (.agg #[(.int .u64 0), (.int .u64 0)]), 2, 16) := by kernel_rfl
theorem ti_ty_Sint : (PR.info? 67).map (fun i => (i.zero, i.size, i.bytes)) = some (some (.slice none 0 0), 1, 24) := by kernel_rfl
theorem ti_ty_papi_Object : (PR.info? 103).map (fun i => (i.zero, i.size, i.bytes)) = some (some (.pointer none), 1, 8) := by kernel_rfl
theorem ti_ty_api_Out : (PR.info? 113).map (fun i => (i.zero, i.size, i.bytes)) = some (some (.agg #[(.int .i64 0), (.int .u64 0), (.int .i64 0)]), 3, 24) := by kernel_rfl
theorem ti_ty_api_Reach : (PR.info? 144).map (fun i => (i.zero, i.size, i.bytes)) = some (some (.agg #[(.int .u64 0), (.slice none 0 0)]), 2, 32) := by kernel_rfl
theorem ti_ty_ref11_mark : (PR.info? 190).map (fun i => (i.zero, i.size, i.bytes)) = some (some (.agg #[(.int .u64 0), (.int .i64 0), (.bool false)]), 3, 24) := by kernel_rfl
theorem ti_ty_uint16 : (PR.info? 207).map (fun i => (i.zero, i.size, i.bytes)) = some (some (.int .u16 0), 1, 2) := by kernel_rfl
theorem ti_ty_16_bool : (PR.info? 216).map (fun i => (i.zero, i.size, i.bytes)) = some (some (.agg #[(.bool false), (.bool false), (.bool false), (.bool false), (.bool false), (.bool false), (.bool false), (.bool false), (.bool false), (.bool false), (.bool false), (.bool false), (.bool false), (.bool false), (.bool false), (.bool false)]), 16, 16) := by kernel_rfl
theorem tu_ty_SSint : PR.underlying ty_SSint = some (.slice 67) := by kernel_rfl
theorem app_ty_SSint {ty : Nat} {p q : Option Addr} {n cap m qc : Nat} {xs ys : List Value} {H : Hp} {K : Value → Hp → Prop} (h : Own H 1 p n cap xs) (hq : Rd H 1 q m ys) (hone : ∀ y ∈ ys, one y = true) (hroom : (2 * (n + m) + 512) * 24 ≤ 2 ^ 48)
    (hK : ∀ p' cap' H', Own H' 1 p' (n + m) cap' (xs ++ ys) → Keep (blk p) H H' → (∀ b, blk p' b → blk p b ∨ H b = none) → K (.slice p' (n + m) cap') H') :
    evW PR (Builtin.append_ #[ty_SSint, ty_SSint] ty #[.slice p n cap, .slice q m qc]) H K :=
  append_at (z := (.slice none 0 0)) tu_ty_SSint tu_ty_SSint ti_ty_Sint rfl (by decide) h hq hone hroom hK
theorem lit_ty_SSint {ty m : Nat} {e0 : TypeId} {p : Option Addr} {n cap : Nat} {xs : List Value} {c : Array Value} {H : Hp} {K : Value → Hp → Prop} (h : Own H 1 p n cap xs) (hs : c.size = m * 1) (hone : ∀ y ∈ c.toList, one y = true) (hroom : (2 * (n + m) + 512) * 24 ≤ 2 ^ 48)
    (hK : ∀ p' cap' H', Own H' 1 p' (n + m) cap' (xs ++ c.toList) → Goes (blk p) H (blk p') H' → K (.slice p' (n + m) cap') H') :
    newB (.cells c e0) H fun b H1 => evW PR (Builtin.append_ #[ty_SSint, ty_SSint] ty #[.slice p n cap, .slice (some ⟨b, 0, none⟩) m m]) H1 K :=
  app_lit (z := (.slice none 0 0)) tu_ty_SSint tu_ty_SSint ti_ty_Sint rfl (by decide) h hs hone hroom hK
theorem copy_ty_SSint {ty m qc : Nat} {e0 : TypeId} {b : Nat} {q : Option Addr} {ys : List Value} {H : Hp} {K : Value → Hp → Prop} (hb : H b = none) (hq : Rd H 1 q m ys) (hone : ∀ y ∈ ys, one y = true) (hroom : (2 * m + 512) * 24 ≤ 2 ^ 48)
    (hK : ∀ p' cap' H', Own H' 1 p' m cap' ys → Goes Nothing H (blk p') H' → K (.slice p' m cap') H') :
    evW PR (Builtin.append_ #[ty_SSint, ty_SSint] ty #[.slice (some ⟨b, 0, none⟩) 0 0, .slice q m qc]) (upd H b (.cells #[] e0)) K :=
  app_copy (z := (.slice none 0 0)) tu_ty_SSint tu_ty_SSint ti_ty_Sint rfl (by decide) hb hq hone hroom hK
theorem mko_ty_SSint {n : Int} {H : Hp} {K : Value → Hp → Prop} (h0 : 0 ≤ n) (h1 : n * 24 ≤ 2 ^ 47) (h2 : n < 2 ^ 62)
    (hK : ∀ p H', Own H' 1 p n.toNat n.toNat (List.replicate n.toNat (.slice none 0 0)) → Goes Nothing H (blk p) H' → K (.slice p n.toNat n.toNat) H') : evW PR (Instr.makeSlice ty_SSint (.int .i64 n) (.int .i64 n)) H K :=
  make_own (z := (.slice none 0 0)) tu_ty_SSint ti_ty_Sint rfl h0 h1 h2 hK
theorem clr_ty_SSint {ty n cap : Nat} {p : Option Addr} {xs : List Value} {H : Hp} {K : Value → Hp → Prop} (ho : Own H 1 p n cap xs)
    (hK : ∀ H', Own H' 1 p n cap (List.replicate n (.slice none 0 0)) → Goes (blk p) H (blk p) H' → K (.tuple #[]) H') : evW PR (Builtin.clear_ #[ty_SSint] ty #[.slice p n cap]) H K :=
  clear_own (z := (.slice none 0 0)) tu_ty_SSint ti_ty_Sint rfl rfl ho hK
theorem mk_ty_SSint {n : Int} {H : Hp} {K : Value → Hp → Prop} (h0 : 0 ≤ n) (h1 : n * 24 ≤ 2 ^ 47) (h2 : n < 2 ^ 62)
    (hK : ∀ b cs, H b = none → cs.size = n.toNat * 1 → (∀ i, i < n.toNat * 1 → cs[i]? = ((.slice none 0 0) : Value).cells[i % 1]?) → K (.slice (some ⟨b, 0, none⟩) n.toNat n.toNat) (upd H b (.cells cs 67 (0, 0)))) :
    evW PR (Instr.makeSlice ty_SSint (.int .i64 n) (.int .i64 n)) H K :=
  make_at (z := (.slice none 0 0)) tu_ty_SSint ti_ty_Sint h0 h1 h2 rfl (by decide) hK
theorem tu_ty_S_16_bool : PR.underlying ty_S_16_bool = some (.slice 216) := by kernel_rfl
theorem app_ty_S_16_bool {ty : Nat} {p q : Option Addr} {n cap m qc : Nat} {xs ys : List Value} {H : Hp} {K : Value → Hp → Prop} (h : Own H 16 p n cap xs) (hq : Rd H 16 q m ys) (hone : ∀ y ∈ ys, one y = true) (hroom : (2 * (n + m) + 512) * 16 ≤ 2 ^ 48)
    (hK : ∀ p' cap' H', Own H' 16 p' (n + m) cap' (xs ++ ys) → Keep (blk p) H H' → (∀ b, blk p' b → blk p b ∨ H b = none) → K (.slice p' (n + m) cap') H') :
    evW PR (Builtin.append_ #[ty_S_16_bool, ty_S_16_bool] ty #[.slice p n cap, .slice q m qc]) H K :=
  append_at (z := (.agg #[(.bool false), (.bool false), (.bool false), (.bool false), (.bool false), (.bool false), (.bool false), (.bool false), (.bool false), (.bool false), (.bool false), (.bool false), (.bool false), (.bool false), (.bool false), (.bool false)])) tu_ty_S_16_bool tu_ty_S_16_bool ti_ty_16_bool rfl (by decide) h hq hone hroom hK
theorem lit_ty_S_16_bool {ty m : Nat} {e0 : TypeId} {p : Option Addr} {n cap : Nat} {xs : List Value} {c : Array Value} {H : Hp} {K : Value → Hp → Prop} (h : Own H 16 p n cap xs) (hs : c.size = m * 16) (hone : ∀ y ∈ c.toList, one y = true) (hroom : (2 * (n + m) + 512) * 16 ≤ 2 ^ 48)
    (hK : ∀ p' cap' H', Own H' 16 p' (n + m) cap' (xs ++ c.toList) → Goes (blk p) H (blk p') H' → K (.slice p' (n + m) cap') H') :
    newB (.cells c e0) H fun b H1 => evW PR (Builtin.append_ #[ty_S_16_bool, ty_S_16_bool] ty #[.slice p n cap, .slice (some ⟨b, 0, none⟩) m m]) H1 K :=
  app_lit (z := (.agg #[(.bool false), (.bool false), (.bool false), (.bool false), (.bool false), (.bool false), (.bool false), (.bool false), (.bool false), (.bool false), (.bool false), (.bool false), (.bool false), (.bool false), (.bool false), (.bool false)])) tu_ty_S_16_bool tu_ty_S_16_bool ti_ty_16_bool rfl (by decide) h hs hone hroom hK
theorem copy_ty_S_16_bool {ty m qc : Nat} {e0 : TypeId} {b : Nat} {q : Option Addr} {ys : List Value} {H : Hp} {K : Value → Hp → Prop} (hb : H b = none) (hq : Rd H 16 q m ys) (hone : ∀ y ∈ ys, one y = true) (hroom : (2 * m + 512) * 16 ≤ 2 ^ 48)
    (hK : ∀ p' cap' H', Own H' 16 p' m cap' ys → Goes Nothing H (blk p') H' → K (.slice p' m cap') H') :
    evW PR (Builtin.append_ #[ty_S_16_bool, ty_S_16_bool] ty #[.slice (some ⟨b, 0, none⟩) 0 0, .slice q m qc]) (upd H b (.cells #[] e0)) K :=
  app_copy (z := (.agg #[(.bool false), (.bool false), (.bool false), (.bool false), (.bool false), (.bool false), (.bool false), (.bool false), (.bool false), (.bool false), (.bool false), (.bool false), (.bool false), (.bool false), (.bool false), (.bool false)])) tu_ty_S_16_bool tu_ty_S_16_bool ti_ty_16_bool rfl (by decide) hb hq hone hroom hK
theorem mk_ty_S_16_bool {n : Int} {H : Hp} {K : Value → Hp → Prop} (h0 : 0 ≤ n) (h1 : n * 16 ≤ 2 ^ 47) (h2 : n < 2 ^ 62)
    (hK : ∀ b cs, H b = none → cs.size = n.toNat * 16 → (∀ i, i < n.toNat * 16 → cs[i]? = ((.agg #[(.bool false), (.bool false), (.bool false), (.bool false), (.bool false), (.bool false), (.bool false), (.bool false), (.bool false), (.bool false), (.bool false), (.bool false), (.bool false), (.bool false), (.bool false), (.bool false)]) : Value).cells[i % 16]?) → K (.slice (some ⟨b, 0, none⟩) n.toNat n.toNat) (upd H b (.cells cs 216 (0, 0)))) :
    evW PR (Instr.makeSlice ty_S_16_bool (.int .i64 n) (.int .i64 n)) H K :=
  make_at (z := (.agg #[(.bool false), (.bool false), (.bool false), (.bool false), (.bool false), (.bool false), (.bool false), (.bool false), (.bool false), (.bool false), (.bool false), (.bool false), (.bool false), (.bool false), (.bool false), (.bool false)])) tu_ty_S_16_bool ti_ty_16_bool h0 h1 h2 rfl (by decide) hK
theorem tu_ty_S_2_api_ID : PR.underlying ty_S_2_api_ID = some (.slice 51) := by kernel_rfl
theorem app_ty_S_2_api_ID {ty : Nat} {p q : Option Addr} {n cap m qc : Nat} {xs ys : List Value} {H : Hp} {K : Value → Hp → Prop} (h : Own H 4 p n cap xs) (hq : Rd H 4 q m ys) (hone : ∀ y ∈ ys, one y = true) (hroom : (2 * (n + m) + 512) * 32 ≤ 2 ^ 48)
    (hK : ∀ p' cap' H', Own H' 4 p' (n + m) cap' (xs ++ ys) → Keep (blk p) H H' → (∀ b, blk p' b → blk p b ∨ H b = none) → K (.slice p' (n + m) cap') H') :
    evW PR (Builtin.append_ #[ty_S_2_api_ID, ty_S_2_api_ID] ty #[.slice p n cap, .slice q m qc]) H K :=
  append_at (z := (.agg #[(.int .i64 0), (.int .u64 0), (.int .i64 0), (.int .u64 0)])) tu_ty_S_2_api_ID tu_ty_S_2_api_ID ti_ty_2_api_ID rfl (by decide) h hq hone hroom hK
theorem lit_ty_S_2_api_ID {ty m : Nat} {e0 : TypeId} {p : Option Addr} {n cap : Nat} {xs : List Value} {c : Array Value} {H : Hp} {K : Value → Hp → Prop} (h : Own H 4 p n cap xs) (hs : c.size = m * 4) (hone : ∀ y ∈ c.toList, one y = true) (hroom : (2 * (n + m) + 512) * 32 ≤ 2 ^ 48)
    (hK : ∀ p' cap' H', Own H' 4 p' (n + m) cap' (xs ++ c.toList) → Goes (blk p) H (blk p') H' → K (.slice p' (n + m) cap') H') :
    newB (.cells c e0) H fun b H1 => evW PR (Builtin.append_ #[ty_S_2_api_ID, ty_S_2_api_ID] ty #[.slice p n cap, .slice (some ⟨b, 0, none⟩) m m]) H1 K :=
  app_lit (z := (.agg #[(.int .i64 0), (.int .u64 0), (.int .i64 0), (.int .u64 0)])) tu_ty_S_2_api_ID tu_ty_S_2_api_ID ti_ty_2_api_ID rfl (by decide) h hs hone hroom hK
theorem copy_ty_S_2_api_ID {ty m qc : Nat} {e0 : TypeId} {b : Nat} {q : Option Addr} {ys : List Value} {H : Hp} {K : Value → Hp → Prop} (hb : H b = none) (hq : Rd H 4 q m ys) (hone : ∀ y ∈ ys, one y = true) (hroom : (2 * m + 512) * 32 ≤ 2 ^ 48)
    (hK : ∀ p' cap' H', Own H' 4 p' m cap' ys → Goes Nothing H (blk p') H' → K (.slice p' m cap') H') :
    evW PR (Builtin.append_ #[ty_S_2_api_ID, ty_S_2_api_ID] ty #[.slice (some ⟨b, 0, none⟩) 0 0, .slice q m qc]) (upd H b (.cells #[] e0)) K :=
  app_copy (z := (.agg #[(.int .i64 0), (.int .u64 0), (.int .i64 0), (.int .u64 0)])) tu_ty_S_2_api_ID tu_ty_S_2_api_ID ti_ty_2_api_ID rfl (by decide) hb hq hone hroom hK
theorem mk_ty_S_2_api_ID {n : Int} {H : Hp} {K : Value → Hp → Prop} (h0 : 0 ≤ n) (h1 : n * 32 ≤ 2 ^ 47) (h2 : n < 2 ^ 62)
    (hK : ∀ b cs, H b = none → cs.size = n.toNat * 4 → (∀ i, i < n.toNat * 4 → cs[i]? = ((.agg #[(.int .i64 0), (.int .u64 0), (.int .i64 0), (.int .u64 0)]) : Value).cells[i % 4]?) → K (.slice (some ⟨b, 0, none⟩) n.toNat n.toNat) (upd H b (.cells cs 51 (0, 0)))) :
    evW PR (Instr.makeSlice ty_S_2_api_ID (.int .i64 n) (.int .i64 n)) H K :=
  make_at (z := (.agg #[(.int .i64 0), (.int .u64 0), (.int .i64 0), (.int .u64 0)])) tu_ty_S_2_api_ID ti_ty_2_api_ID h0 h1 h2 rfl (by decide) hK
theorem tu_ty_S_2_uint64 : PR.underlying ty_S_2_uint64 = some (.slice 52) := by kernel_rfl
theorem app_ty_S_2_uint64 {ty : Nat} {p q : Option Addr} {n cap m qc : Nat} {xs ys : List Value} {H : Hp} {K : Value → Hp → Prop} (h : Own H 2 p n cap xs) (hq : Rd H 2 q m ys) (hone : ∀ y ∈ ys, one y = true) (hroom : (2 * (n + m) + 512) * 16 ≤ 2 ^ 48)
    (hK : ∀ p' cap' H', Own H' 2 p' (n + m) cap' (xs ++ ys) → Keep (blk p) H H' → (∀ b, blk p' b → blk p b ∨ H b = none) → K (.slice p' (n + m) cap') H') :
    evW PR (Builtin.append_ #[ty_S_2_uint64, ty_S_2_uint64] ty #[.slice p n cap, .slice q m qc]) H K :=
  append_at (z := (.agg #[(.int .u64 0), (.int .u64 0)])) tu_ty_S_2_uint64 tu_ty_S_2_uint64 ti_ty_2_uint64 rfl (by decide) h hq hone hroom hK
theorem lit_ty_S_2_uint64 {ty m : Nat} {e0 : TypeId} {p : Option Addr} {n cap : Nat} {xs : List Value} {c : Array Value} {H : Hp} {K : Value → Hp → Prop} (h : Own H 2 p n cap xs) (hs : c.size = m * 2) (hone : ∀ y ∈ c.toList, one y = true) (hroom : (2 * (n + m) + 512) * 16 ≤ 2 ^ 48)
    (hK : ∀ p' cap' H', Own H' 2 p' (n + m) cap' (xs ++ c.toList) → Goes (blk p) H (blk p') H' → K (.slice p' (n + m) cap') H') :
    newB (.cells c e0) H fun b H1 => evW PR (Builtin.append_ #[ty_S_2_uint64, ty_S_2_uint64] ty #[.slice p n cap, .slice (some ⟨b, 0, none⟩) m m]) H1 K :=
  app_lit (z := (.agg #[(.int .u64 0), (.int .u64 0)])) tu_ty_S_2_uint64 tu_ty_S_2_uint64 ti_ty_2_uint64 rfl (by decide) h hs hone hroom hK
theorem copy_ty_S_2_uint64 {ty m qc : Nat} {e0 : TypeId} {b : Nat} {q : Option Addr} {ys : List Value} {H : Hp} {K : Value → Hp → Prop} (hb : H b = none) (hq : Rd H 2 q m ys) (hone : ∀ y ∈ ys, one y = true) (hroom : (2 * m + 512) * 16 ≤ 2 ^ 48)
    (hK : ∀ p' cap' H', Own H' 2 p' m cap' ys → Goes Nothing H (blk p') H' → K (.slice p' m cap') H') :
    evW PR (Builtin.append_ #[ty_S_2_uint64, ty_S_2_uint64] ty #[.slice (some ⟨b, 0, none⟩) 0 0, .slice q m qc]) (upd H b (.cells #[] e0)) K :=
  app_copy (z := (.agg #[(.int .u64 0), (.int .u64 0)])) tu_ty_S_2_uint64 tu_ty_S_2_uint64 ti_ty_2_uint64 rfl (by decide) hb hq hone hroom hK
theorem mk_ty_S_2_uint64 {n : Int} {H : Hp} {K : Value → Hp → Prop} (h0 : 0 ≤ n) (h1 : n * 16 ≤ 2 ^ 47) (h2 : n < 2 ^ 62)
    (hK : ∀ b cs, H b = none → cs.size = n.toNat * 2 → (∀ i, i < n.toNat * 2 → cs[i]? = ((.agg #[(.int .u64 0), (.int .u64 0)]) : Value).cells[i % 2]?) → K (.slice (some ⟨b, 0, none⟩) n.toNat n.toNat) (upd H b (.cells cs 52 (0, 0)))) :
    evW PR (Instr.makeSlice ty_S_2_uint64 (.int .i64 n) (.int .i64 n)) H K :=
  make_at (z := (.agg #[(.int .u64 0), (.int .u64 0)])) tu_ty_S_2_uint64 ti_ty_2_uint64 h0 h1 h2 rfl (by decide) hK
theorem tu_ty_Sapi_ID : PR.underlying ty_Sapi_ID = some (.slice 31) := by kernel_rfl
theorem app_ty_Sapi_ID {ty : Nat} {p q : Option Addr} {n cap m qc : Nat} {xs ys : List Value} {H : Hp} {K : Value → Hp → Prop} (h : Own H 2 p n cap xs) (hq : Rd H 2 q m ys) (hone : ∀ y ∈ ys, one y = true) (hroom : (2 * (n + m) + 512) * 16 ≤ 2 ^ 48)
    (hK : ∀ p' cap' H', Own H' 2 p' (n + m) cap' (xs ++ ys) → Keep (blk p) H H' → (∀ b, blk p' b → blk p b ∨ H b = none) → K (.slice p' (n + m) cap') H') :
    evW PR (Builtin.append_ #[ty_Sapi_ID, ty_Sapi_ID] ty #[.slice p n cap, .slice q m qc]) H K :=
  append_at (z := (.agg #[(.int .i64 0), (.int .u64 0)])) tu_ty_Sapi_ID tu_ty_Sapi_ID ti_ty_api_ID rfl (by decide) h hq hone hroom hK
theorem lit_ty_Sapi_ID {ty m : Nat} {e0 : TypeId} {p : Option Addr} {n cap : Nat} {xs : List Value} {c : Array Value} {H : Hp} {K : Value → Hp → Prop} (h : Own H 2 p n cap xs) (hs : c.size = m * 2) (hone : ∀ y ∈ c.toList, one y = true) (hroom : (2 * (n + m) + 512) * 16 ≤ 2 ^ 48)
    (hK : ∀ p' cap' H', Own H' 2 p' (n + m) cap' (xs ++ c.toList) → Goes (blk p) H (blk p') H' → K (.slice p' (n + m) cap') H') :
    newB (.cells c e0) H fun b H1 => evW PR (Builtin.append_ #[ty_Sapi_ID, ty_Sapi_ID] ty #[.slice p n cap, .slice (some ⟨b, 0, none⟩) m m]) H1 K :=
  app_lit (z := (.agg #[(.int .i64 0), (.int .u64 0)])) tu_ty_Sapi_ID tu_ty_Sapi_ID ti_ty_api_ID rfl (by decide) h hs hone hroom hK
theorem copy_ty_Sapi_ID {ty m qc : Nat} {e0 : TypeId} {b : Nat} {q : Option Addr} {ys : List Value} {H : Hp} {K : Value → Hp → Prop} (hb : H b = none) (hq : Rd H 2 q m ys) (hone : ∀ y ∈ ys, one y = true) (hroom : (2 * m + 512) * 16 ≤ 2 ^ 48)
    (hK : ∀ p' cap' H', Own H' 2 p' m cap' ys → Goes Nothing H (blk p') H' → K (.slice p' m cap') H') :
    evW PR (Builtin.append_ #[ty_Sapi_ID, ty_Sapi_ID] ty #[.slice (some ⟨b, 0, none⟩) 0 0, .slice q m qc]) (upd H b (.cells #[] e0)) K :=
  app_copy (z := (.agg #[(.int .i64 0), (.int .u64 0)])) tu_ty_Sapi_ID tu_ty_Sapi_ID ti_ty_api_ID rfl (by decide) hb hq hone hroom hK
theorem mk_ty_Sapi_ID {n : Int} {H : Hp} {K : Value → Hp → Prop} (h0 : 0 ≤ n) (h1 : n * 16 ≤ 2 ^ 47) (h2 : n < 2 ^ 62)
    (hK : ∀ b cs, H b = none → cs.size = n.toNat * 2 → (∀ i, i < n.toNat * 2 → cs[i]? = ((.agg #[(.int .i64 0), (.int .u64 0)]) : Value).cells[i % 2]?) → K (.slice (some ⟨b, 0, none⟩) n.toNat n.toNat) (upd H b (.cells cs 31 (0, 0)))) :
    evW PR (Instr.makeSlice ty_Sapi_ID (.int .i64 n) (.int .i64 n)) H K :=
  make_at (z := (.agg #[(.int .i64 0), (.int .u64 0)])) tu_ty_Sapi_ID ti_ty_api_ID h0 h1 h2 rfl (by decide) hK
theorem tu_ty_Sapi_Out : PR.underlying ty_Sapi_Out = some (.slice 113) := by kernel_rfl
theorem app_ty_Sapi_Out {ty : Nat} {p q : Option Addr} {n cap m qc : Nat} {xs ys : List Value} {H : Hp} {K : Value → Hp → Prop} (h : Own H 3 p n cap xs) (hq : Rd H 3 q m ys) (hone : ∀ y ∈ ys, one y = true) (hroom : (2 * (n + m) + 512) * 24 ≤ 2 ^ 48)
    (hK : ∀ p' cap' H', Own H' 3 p' (n + m) cap' (xs ++ ys) → Keep (blk p) H H' → (∀ b, blk p' b → blk p b ∨ H b = none) → K (.slice p' (n + m) cap') H') :
    evW PR (Builtin.append_ #[ty_Sapi_Out, ty_Sapi_Out] ty #[.slice p n cap, .slice q m qc]) H K :=
  append_at (z := (.agg #[(.int .i64 0), (.int .u64 0), (.int .i64 0)])) tu_ty_Sapi_Out tu_ty_Sapi_Out ti_ty_api_Out rfl (by decide) h hq hone hroom hK
theorem lit_ty_Sapi_Out {ty m : Nat} {e0 : TypeId} {p : Option Addr} {n cap : Nat} {xs : List Value} {c : Array Value} {H : Hp} {K : Value → Hp → Prop} (h : Own H 3 p n cap xs) (hs : c.size = m * 3) (hone : ∀ y ∈ c.toList, one y = true) (hroom : (2 * (n + m) + 512) * 24 ≤ 2 ^ 48)
    (hK : ∀ p' cap' H', Own H' 3 p' (n + m) cap' (xs ++ c.toList) → Goes (blk p) H (blk p') H' → K (.slice p' (n + m) cap') H') :
    newB (.cells c e0) H fun b H1 => evW PR (Builtin.append_ #[ty_Sapi_Out, ty_Sapi_Out] ty #[.slice p n cap, .slice (some ⟨b, 0, none⟩) m m]) H1 K :=
  app_lit (z := (.agg #[(.int .i64 0), (.int .u64 0), (.int .i64 0)])) tu_ty_Sapi_Out tu_ty_Sapi_Out ti_ty_api_Out rfl (by decide) h hs hone hroom hK
theorem copy_ty_Sapi_Out {ty m qc : Nat} {e0 : TypeId} {b : Nat} {q : Option Addr} {ys : List Value} {H : Hp} {K : Value → Hp → Prop} (hb : H b = none) (hq : Rd H 3 q m ys) (hone : ∀ y ∈ ys, one y = true) (hroom : (2 * m + 512) * 24 ≤ 2 ^ 48)
    (hK : ∀ p' cap' H', Own H' 3 p' m cap' ys → Goes Nothing H (blk p') H' → K (.slice p' m cap') H') :
    evW PR (Builtin.append_ #[ty_Sapi_Out, ty_Sapi_Out] ty #[.slice (some ⟨b, 0, none⟩) 0 0, .slice q m qc]) (upd H b (.cells #[] e0)) K :=
  app_copy (z := (.agg #[(.int .i64 0), (.int .u64 0), (.int .i64 0)])) tu_ty_Sapi_Out tu_ty_Sapi_Out ti_ty_api_Out rfl (by decide) hb hq hone hroom hK
theorem mk_ty_Sapi_Out {n : Int} {H : Hp} {K : Value → Hp → Prop} (h0 : 0 ≤ n) (h1 : n * 24 ≤ 2 ^ 47) (h2 : n < 2 ^ 62)
    (hK : ∀ b cs, H b = none → cs.size = n.toNat * 3 → (∀ i, i < n.toNat * 3 → cs[i]? = ((.agg #[(.int .i64 0), (.int .u64 0), (.int .i64 0)]) : Value).cells[i % 3]?) → K (.slice (some ⟨b, 0, none⟩) n.toNat n.toNat) (upd H b (.cells cs 113 (0, 0)))) :
    evW PR (Instr.makeSlice ty_Sapi_Out (.int .i64 n) (.int .i64 n)) H K :=
  make_at (z := (.agg #[(.int .i64 0), (.int .u64 0), (.int .i64 0)])) tu_ty_Sapi_Out ti_ty_api_Out h0 h1 h2 rfl (by decide) hK
theorem tu_ty_Sapi_Reach : PR.underlying ty_Sapi_Reach = some (.slice 144) := by kernel_rfl
theorem app_ty_Sapi_Reach {ty : Nat} {p q : Option Addr} {n cap m qc : Nat} {xs ys : List Value} {H : Hp} {K : Value → Hp → Prop} (h : Own H 2 p n cap xs) (hq : Rd H 2 q m ys) (hone : ∀ y ∈ ys, one y = true) (hroom : (2 * (n + m) + 512) * 32 ≤ 2 ^ 48)
    (hK : ∀ p' cap' H', Own H' 2 p' (n + m) cap' (xs ++ ys) → Keep (blk p) H H' → (∀ b, blk p' b → blk p b ∨ H b = none) → K (.slice p' (n + m) cap') H') :
    evW PR (Builtin.append_ #[ty_Sapi_Reach, ty_Sapi_Reach] ty #[.slice p n cap, .slice q m qc]) H K :=
  append_at (z := (.agg #[(.int .u64 0), (.slice none 0 0)])) tu_ty_Sapi_Reach tu_ty_Sapi_Reach ti_ty_api_Reach rfl (by decide) h hq hone hroom hK
theorem lit_ty_Sapi_Reach {ty m : Nat} {e0 : TypeId} {p : Option Addr} {n cap : Nat} {xs : List Value} {c : Array Value} {H : Hp} {K : Value → Hp → Prop} (h : Own H 2 p n cap xs) (hs : c.size = m * 2) (hone : ∀ y ∈ c.toList, one y = true) (hroom : (2 * (n + m) + 512) * 32 ≤ 2 ^ 48)
    (hK : ∀ p' cap' H', Own H' 2 p' (n + m) cap' (xs ++ c.toList) → Goes (blk p) H (blk p') H' → K (.slice p' (n + m) cap') H') :
    newB (.cells c e0) H fun b H1 => evW PR (Builtin.append_ #[ty_Sapi_Reach, ty_Sapi_Reach] ty #[.slice p n cap, .slice (some ⟨b, 0, none⟩) m m]) H1 K :=
  app_lit (z := (.agg #[(.int .u64 0), (.slice none 0 0)])) tu_ty_Sapi_Reach tu_ty_Sapi_Reach ti_ty_api_Reach rfl (by decide) h hs hone hroom hK
theorem copy_ty_Sapi_Reach {ty m qc : Nat} {e0 : TypeId} {b : Nat} {q : Option Addr} {ys : List Value} {H : Hp} {K : Value → Hp → Prop} (hb : H b = none) (hq : Rd H 2 q m ys) (hone : ∀ y ∈ ys, one y = true) (hroom : (2 * m + 512) * 32 ≤ 2 ^ 48)
    (hK : ∀ p' cap' H', Own H' 2 p' m cap' ys → Goes Nothing H (blk p') H' → K (.slice p' m cap') H') :
    evW PR (Builtin.append_ #[ty_Sapi_Reach, ty_Sapi_Reach] ty #[.slice (some ⟨b, 0, none⟩) 0 0, .slice q m qc]) (upd H b (.cells #[] e0)) K :=
  app_copy (z := (.agg #[(.int .u64 0), (.slice none 0 0)])) tu_ty_Sapi_Reach tu_ty_Sapi_Reach ti_ty_api_Reach rfl (by decide) hb hq hone hroom hK
theorem mk_ty_Sapi_Reach {n : Int} {H : Hp} {K : Value → Hp → Prop} (h0 : 0 ≤ n) (h1 : n * 32 ≤ 2 ^ 47) (h2 : n < 2 ^ 62)
    (hK : ∀ b cs, H b = none → cs.size = n.toNat * 2 → (∀ i, i < n.toNat * 2 → cs[i]? = ((.agg #[(.int .u64 0), (.slice none 0 0)]) : Value).cells[i % 2]?) → K (.slice (some ⟨b, 0, none⟩) n.toNat n.toNat) (upd H b (.cells cs 144 (0, 0)))) :
    evW PR (Instr.makeSlice ty_Sapi_Reach (.int .i64 n) (.int .i64 n)) H K :=
  make_at (z := (.agg #[(.int .u64 0), (.slice none 0 0)])) tu_ty_Sapi_Reach ti_ty_api_Reach h0 h1 h2 rfl (by decide) hK
theorem tu_ty_Sbool : PR.underlying ty_Sbool = some (.slice 4) := by kernel_rfl
theorem app_ty_Sbool {ty : Nat} {p q : Option Addr} {n cap m qc : Nat} {xs ys : List Value} {H : Hp} {K : Value → Hp → Prop} (h : Own H 1 p n cap xs) (hq : Rd H 1 q m ys) (hone : ∀ y ∈ ys, one y = true) (hroom : (2 * (n + m) + 512) * 1 ≤ 2 ^ 48)
    (hK : ∀ p' cap' H', Own H' 1 p' (n + m) cap' (xs ++ ys) → Keep (blk p) H H' → (∀ b, blk p' b → blk p b ∨ H b = none) → K (.slice p' (n + m) cap') H') :
    evW PR (Builtin.append_ #[ty_Sbool, ty_Sbool] ty #[.slice p n cap, .slice q m qc]) H K :=
  append_at (z := (.bool false)) tu_ty_Sbool tu_ty_Sbool ti_ty_bool rfl (by decide) h hq hone hroom hK
theorem lit_ty_Sbool {ty m : Nat} {e0 : TypeId} {p : Option Addr} {n cap : Nat} {xs : List Value} {c : Array Value} {H : Hp} {K : Value → Hp → Prop} (h : Own H 1 p n cap xs) (hs : c.size = m * 1) (hone : ∀ y ∈ c.toList, one y = true) (hroom : (2 * (n + m) + 512) * 1 ≤ 2 ^ 48)
    (hK : ∀ p' cap' H', Own H' 1 p' (n + m) cap' (xs ++ c.toList) → Goes (blk p) H (blk p') H' → K (.slice p' (n + m) cap') H') :
    newB (.cells c e0) H fun b H1 => evW PR (Builtin.append_ #[ty_Sbool, ty_Sbool] ty #[.slice p n cap, .slice (some ⟨b, 0, none⟩) m m]) H1 K :=
  app_lit (z := (.bool false)) tu_ty_Sbool tu_ty_Sbool ti_ty_bool rfl (by decide) h hs hone hroom hK
theorem copy_ty_Sbool {ty m qc : Nat} {e0 : TypeId} {b : Nat} {q : Option Addr} {ys : List Value} {H : Hp} {K : Value → Hp → Prop} (hb : H b = none) (hq : Rd H 1 q m ys) (hone : ∀ y ∈ ys, one y = true) (hroom : (2 * m + 512) * 1 ≤ 2 ^ 48)
    (hK : ∀ p' cap' H', Own H' 1 p' m cap' ys → Goes Nothing H (blk p') H' → K (.slice p' m cap') H') :
    evW PR (Builtin.append_ #[ty_Sbool, ty_Sbool] ty #[.slice (some ⟨b, 0, none⟩) 0 0, .slice q m qc]) (upd H b (.cells #[] e0)) K :=
  app_copy (z := (.bool false)) tu_ty_Sbool tu_ty_Sbool ti_ty_bool rfl (by decide) hb hq hone hroom hK
theorem mko_ty_Sbool {n : Int} {H : Hp} {K : Value → Hp → Prop} (h0 : 0 ≤ n) (h1 : n * 1 ≤ 2 ^ 47) (h2 : n < 2 ^ 62)
    (hK : ∀ p H', Own H' 1 p n.toNat n.toNat (List.replicate n.toNat (.bool false)) → Goes Nothing H (blk p) H' → K (.slice p n.toNat n.toNat) H') : evW PR (Instr.makeSlice ty_Sbool (.int .i64 n) (.int .i64 n)) H K :=
  make_own (z := (.bool false)) tu_ty_Sbool ti_ty_bool rfl h0 h1 h2 hK
theorem clr_ty_Sbool {ty n cap : Nat} {p : Option Addr} {xs : List Value} {H : Hp} {K : Value → Hp → Prop} (ho : Own H 1 p n cap xs)
    (hK : ∀ H', Own H' 1 p n cap (List.replicate n (.bool false)) → Goes (blk p) H (blk p) H' → K (.tuple #[]) H') : evW PR (Builtin.clear_ #[ty_Sbool] ty #[.slice p n cap]) H K :=
  clear_own (z := (.bool false)) tu_ty_Sbool ti_ty_bool rfl rfl ho hK
theorem mk_ty_Sbool {n : Int} {H : Hp} {K : Value → Hp → Prop} (h0 : 0 ≤ n) (h1 : n * 1 ≤ 2 ^ 47) (h2 : n < 2 ^ 62)
    (hK : ∀ b cs, H b = none → cs.size = n.toNat * 1 → (∀ i, i < n.toNat * 1 → cs[i]? = ((.bool false) : Value).cells[i % 1]?) → K (.slice (some ⟨b, 0, none⟩) n.toNat n.toNat) (upd H b (.cells cs 4 (0, 0)))) :
    evW PR (Instr.makeSlice ty_Sbool (.int .i64 n) (.int .i64 n)) H K :=
  make_at (z := (.bool false)) tu_ty_Sbool ti_ty_bool h0 h1 h2 rfl (by decide) hK
theorem tu_ty_Sint : PR.underlying ty_Sint = some (.slice 3) := by kernel_rfl
theorem app_ty_Sint {ty : Nat} {p q : Option Addr} {n cap m qc : Nat} {xs ys : List Value} {H : Hp} {K : Value → Hp → Prop} (h : Own H 1 p n cap xs) (hq : Rd H 1 q m ys) (hone : ∀ y ∈ ys, one y = true) (hroom : (2 * (n + m) + 512) * 8 ≤ 2 ^ 48)
    (hK : ∀ p' cap' H', Own H' 1 p' (n + m) cap' (xs ++ ys) → Keep (blk p) H H' → (∀ b, blk p' b → blk p b ∨ H b = none) → K (.slice p' (n + m) cap') H') :
    evW PR (Builtin.append_ #[ty_Sint, ty_Sint] ty #[.slice p n cap, .slice q m qc]) H K :=
  append_at (z := (.int .i64 0)) tu_ty_Sint tu_ty_Sint ti_ty_int rfl (by decide) h hq hone hroom hK
theorem lit_ty_Sint {ty m : Nat} {e0 : TypeId} {p : Option Addr} {n cap : Nat} {xs : List Value} {c : Array Value} {H : Hp} {K : Value → Hp → Prop} (h : Own H 1 p n cap xs) (hs : c.size = m * 1) (hone : ∀ y ∈ c.toList, one y = true) (hroom : (2 * (n + m) + 512) * 8 ≤ 2 ^ 48)
    (hK : ∀ p' cap' H', Own H' 1 p' (n + m) cap' (xs ++ c.toList) → Goes (blk p) H (blk p') H' → K (.slice p' (n + m) cap') H') :
    newB (.cells c e0) H fun b H1 => evW PR (Builtin.append_ #[ty_Sint, ty_Sint] ty #[.slice p n cap, .slice (some ⟨b, 0, none⟩) m m]) H1 K :=
  app_lit (z := (.int .i64 0)) tu_ty_Sint tu_ty_Sint ti_ty_int rfl (by decide) h hs hone hroom hK
theorem copy_ty_Sint {ty m qc : Nat} {e0 : TypeId} {b : Nat} {q : Option Addr} {ys : List Value} {H : Hp} {K : Value → Hp → Prop} (hb : H b = none) (hq : Rd H 1 q m ys) (hone : ∀ y ∈ ys, one y = true) (hroom : (2 * m + 512) * 8 ≤ 2 ^ 48)
    (hK : ∀ p' cap' H', Own H' 1 p' m cap' ys → Goes Nothing H (blk p') H' → K (.slice p' m cap') H') :
    evW PR (Builtin.append_ #[ty_Sint, ty_Sint] ty #[.slice (some ⟨b, 0, none⟩) 0 0, .slice q m qc]) (upd H b (.cells #[] e0)) K :=
  app_copy (z := (.int .i64 0)) tu_ty_Sint tu_ty_Sint ti_ty_int rfl (by decide) hb hq hone hroom hK
theorem mko_ty_Sint {n : Int} {H : Hp} {K : Value → Hp → Prop} (h0 : 0 ≤ n) (h1 : n * 8 ≤ 2 ^ 47) (h2 : n < 2 ^ 62)
    (hK : ∀ p H', Own H' 1 p n.toNat n.toNat (List.replicate n.toNat (.int .i64 0)) → Goes Nothing H (blk p) H' → K (.slice p n.toNat n.toNat) H') : evW PR (Instr.makeSlice ty_Sint (.int .i64 n) (.int .i64 n)) H K :=
  make_own (z := (.int .i64 0)) tu_ty_Sint ti_ty_int rfl h0 h1 h2 hK
theorem clr_ty_Sint {ty n cap : Nat} {p : Option Addr} {xs : List Value} {H : Hp} {K : Value → Hp → Prop} (ho : Own H 1 p n cap xs)
    (hK : ∀ H', Own H' 1 p n cap (List.replicate n (.int .i64 0)) → Goes (blk p) H (blk p) H' → K (.tuple #[]) H') : evW PR (Builtin.clear_ #[ty_Sint] ty #[.slice p n cap]) H K :=
  clear_own (z := (.int .i64 0)) tu_ty_Sint ti_ty_int rfl rfl ho hK
theorem mk_ty_Sint {n : Int} {H : Hp} {K : Value → Hp → Prop} (h0 : 0 ≤ n) (h1 : n * 8 ≤ 2 ^ 47) (h2 : n < 2 ^ 62)
    (hK : ∀ b cs, H b = none → cs.size = n.toNat * 1 → (∀ i, i < n.toNat * 1 → cs[i]? = ((.int .i64 0) : Value).cells[i % 1]?) → K (.slice (some ⟨b, 0, none⟩) n.toNat n.toNat) (upd H b (.cells cs 3 (0, 0)))) :
    evW PR (Instr.makeSlice ty_Sint (.int .i64 n) (.int .i64 n)) H K :=
  make_at (z := (.int .i64 0)) tu_ty_Sint ti_ty_int h0 h1 h2 rfl (by decide) hK
theorem tu_ty_Smooringlaw8_Step : PR.underlying ty_Smooringlaw8_Step = some (.slice 49) := by kernel_rfl
theorem app_ty_Smooringlaw8_Step {ty : Nat} {p q : Option Addr} {n cap m qc : Nat} {xs ys : List Value} {H : Hp} {K : Value → Hp → Prop} (h : Own H 8 p n cap xs) (hq : Rd H 8 q m ys) (hone : ∀ y ∈ ys, one y = true) (hroom : (2 * (n + m) + 512) * 64 ≤ 2 ^ 48)
    (hK : ∀ p' cap' H', Own H' 8 p' (n + m) cap' (xs ++ ys) → Keep (blk p) H H' → (∀ b, blk p' b → blk p b ∨ H b = none) → K (.slice p' (n + m) cap') H') :
    evW PR (Builtin.append_ #[ty_Smooringlaw8_Step, ty_Smooringlaw8_Step] ty #[.slice p n cap, .slice q m qc]) H K :=
  append_at (z := (.agg #[(.int .i64 0), (.int .i64 0), (.int .i64 0), (.int .u64 0), (.int .u64 0), (.int .i64 0), (.int .u64 0), (.bool false)])) tu_ty_Smooringlaw8_Step tu_ty_Smooringlaw8_Step ti_ty_law8_Step rfl (by decide) h hq hone hroom hK
theorem lit_ty_Smooringlaw8_Step {ty m : Nat} {e0 : TypeId} {p : Option Addr} {n cap : Nat} {xs : List Value} {c : Array Value} {H : Hp} {K : Value → Hp → Prop} (h : Own H 8 p n cap xs) (hs : c.size = m * 8) (hone : ∀ y ∈ c.toList, one y = true) (hroom : (2 * (n + m) + 512) * 64 ≤ 2 ^ 48)
    (hK : ∀ p' cap' H', Own H' 8 p' (n + m) cap' (xs ++ c.toList) → Goes (blk p) H (blk p') H' → K (.slice p' (n + m) cap') H') :
    newB (.cells c e0) H fun b H1 => evW PR (Builtin.append_ #[ty_Smooringlaw8_Step, ty_Smooringlaw8_Step] ty #[.slice p n cap, .slice (some ⟨b, 0, none⟩) m m]) H1 K :=
  app_lit (z := (.agg #[(.int .i64 0), (.int .i64 0), (.int .i64 0), (.int .u64 0), (.int .u64 0), (.int .i64 0), (.int .u64 0), (.bool false)])) tu_ty_Smooringlaw8_Step tu_ty_Smooringlaw8_Step ti_ty_law8_Step rfl (by decide) h hs hone hroom hK
theorem copy_ty_Smooringlaw8_Step {ty m qc : Nat} {e0 : TypeId} {b : Nat} {q : Option Addr} {ys : List Value} {H : Hp} {K : Value → Hp → Prop} (hb : H b = none) (hq : Rd H 8 q m ys) (hone : ∀ y ∈ ys, one y = true) (hroom : (2 * m + 512) * 64 ≤ 2 ^ 48)
    (hK : ∀ p' cap' H', Own H' 8 p' m cap' ys → Goes Nothing H (blk p') H' → K (.slice p' m cap') H') :
    evW PR (Builtin.append_ #[ty_Smooringlaw8_Step, ty_Smooringlaw8_Step] ty #[.slice (some ⟨b, 0, none⟩) 0 0, .slice q m qc]) (upd H b (.cells #[] e0)) K :=
  app_copy (z := (.agg #[(.int .i64 0), (.int .i64 0), (.int .i64 0), (.int .u64 0), (.int .u64 0), (.int .i64 0), (.int .u64 0), (.bool false)])) tu_ty_Smooringlaw8_Step tu_ty_Smooringlaw8_Step ti_ty_law8_Step rfl (by decide) hb hq hone hroom hK
theorem mk_ty_Smooringlaw8_Step {n : Int} {H : Hp} {K : Value → Hp → Prop} (h0 : 0 ≤ n) (h1 : n * 64 ≤ 2 ^ 47) (h2 : n < 2 ^ 62)
    (hK : ∀ b cs, H b = none → cs.size = n.toNat * 8 → (∀ i, i < n.toNat * 8 → cs[i]? = ((.agg #[(.int .i64 0), (.int .i64 0), (.int .i64 0), (.int .u64 0), (.int .u64 0), (.int .i64 0), (.int .u64 0), (.bool false)]) : Value).cells[i % 8]?) → K (.slice (some ⟨b, 0, none⟩) n.toNat n.toNat) (upd H b (.cells cs 49 (0, 0)))) :
    evW PR (Instr.makeSlice ty_Smooringlaw8_Step (.int .i64 n) (.int .i64 n)) H K :=
  make_at (z := (.agg #[(.int .i64 0), (.int .i64 0), (.int .i64 0), (.int .u64 0), (.int .u64 0), (.int .i64 0), (.int .u64 0), (.bool false)])) tu_ty_Smooringlaw8_Step ti_ty_law8_Step h0 h1 h2 rfl (by decide) hK
theorem tu_ty_Smooringref11_mark : PR.underlying ty_Smooringref11_mark = some (.slice 190) := by kernel_rfl
theorem app_ty_Smooringref11_mark {ty : Nat} {p q : Option Addr} {n cap m qc : Nat} {xs ys : List Value} {H : Hp} {K : Value → Hp → Prop} (h : Own H 3 p n cap xs) (hq : Rd H 3 q m ys) (hone : ∀ y ∈ ys, one y = true) (hroom : (2 * (n + m) + 512) * 24 ≤ 2 ^ 48)
    (hK : ∀ p' cap' H', Own H' 3 p' (n + m) cap' (xs ++ ys) → Keep (blk p) H H' → (∀ b, blk p' b → blk p b ∨ H b = none) → K (.slice p' (n + m) cap') H') :
    evW PR (Builtin.append_ #[ty_Smooringref11_mark, ty_Smooringref11_mark] ty #[.slice p n cap, .slice q m qc]) H K :=
  append_at (z := (.agg #[(.int .u64 0), (.int .i64 0), (.bool false)])) tu_ty_Smooringref11_mark tu_ty_Smooringref11_mark ti_ty_ref11_mark rfl (by decide) h hq hone hroom hK
theorem lit_ty_Smooringref11_mark {ty m : Nat} {e0 : TypeId} {p : Option Addr} {n cap : Nat} {xs : List Value} {c : Array Value} {H : Hp} {K : Value → Hp → Prop} (h : Own H 3 p n cap xs) (hs : c.size = m * 3) (hone : ∀ y ∈ c.toList, one y = true) (hroom : (2 * (n + m) + 512) * 24 ≤ 2 ^ 48)
    (hK : ∀ p' cap' H', Own H' 3 p' (n + m) cap' (xs ++ c.toList) → Goes (blk p) H (blk p') H' → K (.slice p' (n + m) cap') H') :
    newB (.cells c e0) H fun b H1 => evW PR (Builtin.append_ #[ty_Smooringref11_mark, ty_Smooringref11_mark] ty #[.slice p n cap, .slice (some ⟨b, 0, none⟩) m m]) H1 K :=
  app_lit (z := (.agg #[(.int .u64 0), (.int .i64 0), (.bool false)])) tu_ty_Smooringref11_mark tu_ty_Smooringref11_mark ti_ty_ref11_mark rfl (by decide) h hs hone hroom hK
theorem copy_ty_Smooringref11_mark {ty m qc : Nat} {e0 : TypeId} {b : Nat} {q : Option Addr} {ys : List Value} {H : Hp} {K : Value → Hp → Prop} (hb : H b = none) (hq : Rd H 3 q m ys) (hone : ∀ y ∈ ys, one y = true) (hroom : (2 * m + 512) * 24 ≤ 2 ^ 48)
    (hK : ∀ p' cap' H', Own H' 3 p' m cap' ys → Goes Nothing H (blk p') H' → K (.slice p' m cap') H') :
    evW PR (Builtin.append_ #[ty_Smooringref11_mark, ty_Smooringref11_mark] ty #[.slice (some ⟨b, 0, none⟩) 0 0, .slice q m qc]) (upd H b (.cells #[] e0)) K :=
  app_copy (z := (.agg #[(.int .u64 0), (.int .i64 0), (.bool false)])) tu_ty_Smooringref11_mark tu_ty_Smooringref11_mark ti_ty_ref11_mark rfl (by decide) hb hq hone hroom hK
theorem mk_ty_Smooringref11_mark {n : Int} {H : Hp} {K : Value → Hp → Prop} (h0 : 0 ≤ n) (h1 : n * 24 ≤ 2 ^ 47) (h2 : n < 2 ^ 62)
    (hK : ∀ b cs, H b = none → cs.size = n.toNat * 3 → (∀ i, i < n.toNat * 3 → cs[i]? = ((.agg #[(.int .u64 0), (.int .i64 0), (.bool false)]) : Value).cells[i % 3]?) → K (.slice (some ⟨b, 0, none⟩) n.toNat n.toNat) (upd H b (.cells cs 190 (0, 0)))) :
    evW PR (Instr.makeSlice ty_Smooringref11_mark (.int .i64 n) (.int .i64 n)) H K :=
  make_at (z := (.agg #[(.int .u64 0), (.int .i64 0), (.bool false)])) tu_ty_Smooringref11_mark ti_ty_ref11_mark h0 h1 h2 rfl (by decide) hK
theorem tu_ty_Spapi_Object : PR.underlying ty_Spapi_Object = some (.slice 103) := by kernel_rfl
theorem app_ty_Spapi_Object {ty : Nat} {p q : Option Addr} {n cap m qc : Nat} {xs ys : List Value} {H : Hp} {K : Value → Hp → Prop} (h : Own H 1 p n cap xs) (hq : Rd H 1 q m ys) (hone : ∀ y ∈ ys, one y = true) (hroom : (2 * (n + m) + 512) * 8 ≤ 2 ^ 48)
    (hK : ∀ p' cap' H', Own H' 1 p' (n + m) cap' (xs ++ ys) → Keep (blk p) H H' → (∀ b, blk p' b → blk p b ∨ H b = none) → K (.slice p' (n + m) cap') H') :
    evW PR (Builtin.append_ #[ty_Spapi_Object, ty_Spapi_Object] ty #[.slice p n cap, .slice q m qc]) H K :=
  append_at (z := (.pointer none)) tu_ty_Spapi_Object tu_ty_Spapi_Object ti_ty_papi_Object rfl (by decide) h hq hone hroom hK
theorem lit_ty_Spapi_Object {ty m : Nat} {e0 : TypeId} {p : Option Addr} {n cap : Nat} {xs : List Value} {c : Array Value} {H : Hp} {K : Value → Hp → Prop} (h : Own H 1 p n cap xs) (hs : c.size = m * 1) (hone : ∀ y ∈ c.toList, one y = true) (hroom : (2 * (n + m) + 512) * 8 ≤ 2 ^ 48)
    (hK : ∀ p' cap' H', Own H' 1 p' (n + m) cap' (xs ++ c.toList) → Goes (blk p) H (blk p') H' → K (.slice p' (n + m) cap') H') :
    newB (.cells c e0) H fun b H1 => evW PR (Builtin.append_ #[ty_Spapi_Object, ty_Spapi_Object] ty #[.slice p n cap, .slice (some ⟨b, 0, none⟩) m m]) H1 K :=
  app_lit (z := (.pointer none)) tu_ty_Spapi_Object tu_ty_Spapi_Object ti_ty_papi_Object rfl (by decide) h hs hone hroom hK
theorem copy_ty_Spapi_Object {ty m qc : Nat} {e0 : TypeId} {b : Nat} {q : Option Addr} {ys : List Value} {H : Hp} {K : Value → Hp → Prop} (hb : H b = none) (hq : Rd H 1 q m ys) (hone : ∀ y ∈ ys, one y = true) (hroom : (2 * m + 512) * 8 ≤ 2 ^ 48)
    (hK : ∀ p' cap' H', Own H' 1 p' m cap' ys → Goes Nothing H (blk p') H' → K (.slice p' m cap') H') :
    evW PR (Builtin.append_ #[ty_Spapi_Object, ty_Spapi_Object] ty #[.slice (some ⟨b, 0, none⟩) 0 0, .slice q m qc]) (upd H b (.cells #[] e0)) K :=
  app_copy (z := (.pointer none)) tu_ty_Spapi_Object tu_ty_Spapi_Object ti_ty_papi_Object rfl (by decide) hb hq hone hroom hK
theorem mko_ty_Spapi_Object {n : Int} {H : Hp} {K : Value → Hp → Prop} (h0 : 0 ≤ n) (h1 : n * 8 ≤ 2 ^ 47) (h2 : n < 2 ^ 62)
    (hK : ∀ p H', Own H' 1 p n.toNat n.toNat (List.replicate n.toNat (.pointer none)) → Goes Nothing H (blk p) H' → K (.slice p n.toNat n.toNat) H') : evW PR (Instr.makeSlice ty_Spapi_Object (.int .i64 n) (.int .i64 n)) H K :=
  make_own (z := (.pointer none)) tu_ty_Spapi_Object ti_ty_papi_Object rfl h0 h1 h2 hK
theorem clr_ty_Spapi_Object {ty n cap : Nat} {p : Option Addr} {xs : List Value} {H : Hp} {K : Value → Hp → Prop} (ho : Own H 1 p n cap xs)
    (hK : ∀ H', Own H' 1 p n cap (List.replicate n (.pointer none)) → Goes (blk p) H (blk p) H' → K (.tuple #[]) H') : evW PR (Builtin.clear_ #[ty_Spapi_Object] ty #[.slice p n cap]) H K :=
  clear_own (z := (.pointer none)) tu_ty_Spapi_Object ti_ty_papi_Object rfl rfl ho hK
theorem mk_ty_Spapi_Object {n : Int} {H : Hp} {K : Value → Hp → Prop} (h0 : 0 ≤ n) (h1 : n * 8 ≤ 2 ^ 47) (h2 : n < 2 ^ 62)
    (hK : ∀ b cs, H b = none → cs.size = n.toNat * 1 → (∀ i, i < n.toNat * 1 → cs[i]? = ((.pointer none) : Value).cells[i % 1]?) → K (.slice (some ⟨b, 0, none⟩) n.toNat n.toNat) (upd H b (.cells cs 103 (0, 0)))) :
    evW PR (Instr.makeSlice ty_Spapi_Object (.int .i64 n) (.int .i64 n)) H K :=
  make_at (z := (.pointer none)) tu_ty_Spapi_Object ti_ty_papi_Object h0 h1 h2 rfl (by decide) hK
theorem tu_ty_Suint16 : PR.underlying ty_Suint16 = some (.slice 207) := by kernel_rfl
theorem app_ty_Suint16 {ty : Nat} {p q : Option Addr} {n cap m qc : Nat} {xs ys : List Value} {H : Hp} {K : Value → Hp → Prop} (h : Own H 1 p n cap xs) (hq : Rd H 1 q m ys) (hone : ∀ y ∈ ys, one y = true) (hroom : (2 * (n + m) + 512) * 2 ≤ 2 ^ 48)
    (hK : ∀ p' cap' H', Own H' 1 p' (n + m) cap' (xs ++ ys) → Keep (blk p) H H' → (∀ b, blk p' b → blk p b ∨ H b = none) → K (.slice p' (n + m) cap') H') :
    evW PR (Builtin.append_ #[ty_Suint16, ty_Suint16] ty #[.slice p n cap, .slice q m qc]) H K :=
  append_at (z := (.int .u16 0)) tu_ty_Suint16 tu_ty_Suint16 ti_ty_uint16 rfl (by decide) h hq hone hroom hK
theorem lit_ty_Suint16 {ty m : Nat} {e0 : TypeId} {p : Option Addr} {n cap : Nat} {xs : List Value} {c : Array Value} {H : Hp} {K : Value → Hp → Prop} (h : Own H 1 p n cap xs) (hs : c.size = m * 1) (hone : ∀ y ∈ c.toList, one y = true) (hroom : (2 * (n + m) + 512) * 2 ≤ 2 ^ 48)
    (hK : ∀ p' cap' H', Own H' 1 p' (n + m) cap' (xs ++ c.toList) → Goes (blk p) H (blk p') H' → K (.slice p' (n + m) cap') H') :
    newB (.cells c e0) H fun b H1 => evW PR (Builtin.append_ #[ty_Suint16, ty_Suint16] ty #[.slice p n cap, .slice (some ⟨b, 0, none⟩) m m]) H1 K :=
  app_lit (z := (.int .u16 0)) tu_ty_Suint16 tu_ty_Suint16 ti_ty_uint16 rfl (by decide) h hs hone hroom hK
theorem copy_ty_Suint16 {ty m qc : Nat} {e0 : TypeId} {b : Nat} {q : Option Addr} {ys : List Value} {H : Hp} {K : Value → Hp → Prop} (hb : H b = none) (hq : Rd H 1 q m ys) (hone : ∀ y ∈ ys, one y = true) (hroom : (2 * m + 512) * 2 ≤ 2 ^ 48)
    (hK : ∀ p' cap' H', Own H' 1 p' m cap' ys → Goes Nothing H (blk p') H' → K (.slice p' m cap') H') :
    evW PR (Builtin.append_ #[ty_Suint16, ty_Suint16] ty #[.slice (some ⟨b, 0, none⟩) 0 0, .slice q m qc]) (upd H b (.cells #[] e0)) K :=
  app_copy (z := (.int .u16 0)) tu_ty_Suint16 tu_ty_Suint16 ti_ty_uint16 rfl (by decide) hb hq hone hroom hK
theorem mko_ty_Suint16 {n : Int} {H : Hp} {K : Value → Hp → Prop} (h0 : 0 ≤ n) (h1 : n * 2 ≤ 2 ^ 47) (h2 : n < 2 ^ 62)
    (hK : ∀ p H', Own H' 1 p n.toNat n.toNat (List.replicate n.toNat (.int .u16 0)) → Goes Nothing H (blk p) H' → K (.slice p n.toNat n.toNat) H') : evW PR (Instr.makeSlice ty_Suint16 (.int .i64 n) (.int .i64 n)) H K :=
  make_own (z := (.int .u16 0)) tu_ty_Suint16 ti_ty_uint16 rfl h0 h1 h2 hK
theorem clr_ty_Suint16 {ty n cap : Nat} {p : Option Addr} {xs : List Value} {H : Hp} {K : Value → Hp → Prop} (ho : Own H 1 p n cap xs)
    (hK : ∀ H', Own H' 1 p n cap (List.replicate n (.int .u16 0)) → Goes (blk p) H (blk p) H' → K (.tuple #[]) H') : evW PR (Builtin.clear_ #[ty_Suint16] ty #[.slice p n cap]) H K :=
  clear_own (z := (.int .u16 0)) tu_ty_Suint16 ti_ty_uint16 rfl rfl ho hK
theorem mk_ty_Suint16 {n : Int} {H : Hp} {K : Value → Hp → Prop} (h0 : 0 ≤ n) (h1 : n * 2 ≤ 2 ^ 47) (h2 : n < 2 ^ 62)
    (hK : ∀ b cs, H b = none → cs.size = n.toNat * 1 → (∀ i, i < n.toNat * 1 → cs[i]? = ((.int .u16 0) : Value).cells[i % 1]?) → K (.slice (some ⟨b, 0, none⟩) n.toNat n.toNat) (upd H b (.cells cs 207 (0, 0)))) :
    evW PR (Instr.makeSlice ty_Suint16 (.int .i64 n) (.int .i64 n)) H K :=
  make_at (z := (.int .u16 0)) tu_ty_Suint16 ti_ty_uint16 h0 h1 h2 rfl (by decide) hK
theorem tu_ty_Suint64 : PR.underlying ty_Suint64 = some (.slice 26) := by kernel_rfl
theorem app_ty_Suint64 {ty : Nat} {p q : Option Addr} {n cap m qc : Nat} {xs ys : List Value} {H : Hp} {K : Value → Hp → Prop} (h : Own H 1 p n cap xs) (hq : Rd H 1 q m ys) (hone : ∀ y ∈ ys, one y = true) (hroom : (2 * (n + m) + 512) * 8 ≤ 2 ^ 48)
    (hK : ∀ p' cap' H', Own H' 1 p' (n + m) cap' (xs ++ ys) → Keep (blk p) H H' → (∀ b, blk p' b → blk p b ∨ H b = none) → K (.slice p' (n + m) cap') H') :
    evW PR (Builtin.append_ #[ty_Suint64, ty_Suint64] ty #[.slice p n cap, .slice q m qc]) H K :=
  append_at (z := (.int .u64 0)) tu_ty_Suint64 tu_ty_Suint64 ti_ty_uint64 rfl (by decide) h hq hone hroom hK
theorem lit_ty_Suint64 {ty m : Nat} {e0 : TypeId} {p : Option Addr} {n cap : Nat} {xs : List Value} {c : Array Value} {H : Hp} {K : Value → Hp → Prop} (h : Own H 1 p n cap xs) (hs : c.size = m * 1) (hone : ∀ y ∈ c.toList, one y = true) (hroom : (2 * (n + m) + 512) * 8 ≤ 2 ^ 48)
    (hK : ∀ p' cap' H', Own H' 1 p' (n + m) cap' (xs ++ c.toList) → Goes (blk p) H (blk p') H' → K (.slice p' (n + m) cap') H') :
    newB (.cells c e0) H fun b H1 => evW PR (Builtin.append_ #[ty_Suint64, ty_Suint64] ty #[.slice p n cap, .slice (some ⟨b, 0, none⟩) m m]) H1 K :=
  app_lit (z := (.int .u64 0)) tu_ty_Suint64 tu_ty_Suint64 ti_ty_uint64 rfl (by decide) h hs hone hroom hK
theorem copy_ty_Suint64 {ty m qc : Nat} {e0 : TypeId} {b : Nat} {q : Option Addr} {ys : List Value} {H : Hp} {K : Value → Hp → Prop} (hb : H b = none) (hq : Rd H 1 q m ys) (hone : ∀ y ∈ ys, one y = true) (hroom : (2 * m + 512) * 8 ≤ 2 ^ 48)
    (hK : ∀ p' cap' H', Own H' 1 p' m cap' ys → Goes Nothing H (blk p') H' → K (.slice p' m cap') H') :
    evW PR (Builtin.append_ #[ty_Suint64, ty_Suint64] ty #[.slice (some ⟨b, 0, none⟩) 0 0, .slice q m qc]) (upd H b (.cells #[] e0)) K :=
  app_copy (z := (.int .u64 0)) tu_ty_Suint64 tu_ty_Suint64 ti_ty_uint64 rfl (by decide) hb hq hone hroom hK
theorem mko_ty_Suint64 {n : Int} {H : Hp} {K : Value → Hp → Prop} (h0 : 0 ≤ n) (h1 : n * 8 ≤ 2 ^ 47) (h2 : n < 2 ^ 62)
    (hK : ∀ p H', Own H' 1 p n.toNat n.toNat (List.replicate n.toNat (.int .u64 0)) → Goes Nothing H (blk p) H' → K (.slice p n.toNat n.toNat) H') : evW PR (Instr.makeSlice ty_Suint64 (.int .i64 n) (.int .i64 n)) H K :=
  make_own (z := (.int .u64 0)) tu_ty_Suint64 ti_ty_uint64 rfl h0 h1 h2 hK
theorem clr_ty_Suint64 {ty n cap : Nat} {p : Option Addr} {xs : List Value} {H : Hp} {K : Value → Hp → Prop} (ho : Own H 1 p n cap xs)
    (hK : ∀ H', Own H' 1 p n cap (List.replicate n (.int .u64 0)) → Goes (blk p) H (blk p) H' → K (.tuple #[]) H') : evW PR (Builtin.clear_ #[ty_Suint64] ty #[.slice p n cap]) H K :=
  clear_own (z := (.int .u64 0)) tu_ty_Suint64 ti_ty_uint64 rfl rfl ho hK
theorem mk_ty_Suint64 {n : Int} {H : Hp} {K : Value → Hp → Prop} (h0 : 0 ≤ n) (h1 : n * 8 ≤ 2 ^ 47) (h2 : n < 2 ^ 62)
    (hK : ∀ b cs, H b = none → cs.size = n.toNat * 1 → (∀ i, i < n.toNat * 1 → cs[i]? = ((.int .u64 0) : Value).cells[i % 1]?) → K (.slice (some ⟨b, 0, none⟩) n.toNat n.toNat) (upd H b (.cells cs 26 (0, 0)))) :
    evW PR (Instr.makeSlice ty_Suint64 (.int .i64 n) (.int .i64 n)) H K :=
  make_at (z := (.int .u64 0)) tu_ty_Suint64 ti_ty_uint64 h0 h1 h2 rfl (by decide) hK
end Go.Proofs.Ytohlnmenghbgbaa
