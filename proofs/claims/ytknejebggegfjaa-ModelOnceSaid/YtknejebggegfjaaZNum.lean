/- Merged by merge.py: DenN, DenT, Ety. No condition. -/
import Derived.Test.YtknejebggegfjaaZSh
import Derived.Test.YtknejebggegfjaaProg
import Derived.KernelRfl
import Derived.Test.YtknejebggegfjaaZBase

namespace Go.Proofs.Ytknejebggegfjaa
open Go
noncomputable abbrev PR : Program := Try.prog
theorem PR_mixed : PR.follows .mixedOrders = true := by kernel_rfl
abbrev f_law26_ModelOnce : Nat := 3
abbrev f_hand_Config : Nat := 14
abbrev f_model_New : Nat := 15
abbrev f_law26_known : Nat := 16
abbrev f_hand_Pick : Nat := 17
abbrev f_model_Model_See : Nat := 18
abbrev f_model_Model_Object : Nat := 19
abbrev f_api_May : Nat := 47
abbrev f_law26_made : Nat := 48
abbrev f_model_Model_refused : Nat := 49
abbrev f_model_Model_does : Nat := 50
abbrev f_model_Model_served : Nat := 51
abbrev f_api_in : Nat := 80
abbrev f_model_Model_slot : Nat := 81
abbrev f_model_Model_does_1 : Nat := 82
abbrev f_model_Model_object : Nat := 83
abbrev f_model_Model_born : Nat := 84
abbrev f_model_in : Nat := 85
abbrev f_model_Model_await : Nat := 86
abbrev f_model_Model_begin : Nat := 87
abbrev f_slices_Equal_Sapi_ID_api_ID : Nat := 88
abbrev f_model_Model_order : Nat := 89
abbrev ty_2_int : Nat := 179
abbrev ty_SSSapi_ID : Nat := 116
abbrev ty_SSapi_ID : Nat := 119
abbrev ty_Sapi_ID : Nat := 36
abbrev ty_Suint64 : Nat := 41
abbrev ty_api_Config : Nat := 26
abbrev ty_api_ID : Nat := 35
abbrev ty_api_Object : Nat := 52
abbrev ty_api_Served : Nat := 38
abbrev ty_hand_Raw : Nat := 24
abbrev ty_int : Nat := 3
abbrev ty_map_2_int_uint64 : Nat := 115
abbrev ty_map_api_ID_pmodel_thing : Nat := 113
abbrev ty_map_model_name_pmodel_call : Nat := 114
abbrev ty_model_Model : Nat := 118
abbrev ty_model_call : Nat := 161
abbrev ty_model_name : Nat := 159
abbrev ty_model_thing : Nat := 127
abbrev ty_node_Answer : Nat := 48
abbrev ty_node_Op : Nat := 40
abbrev ty_pmodel_Model : Nat := 28
abbrev ty_uint64 : Nat := 22
abbrev ty_world_Event : Nat := 44
abbrev ty_world_Row : Nat := 50
end Go.Proofs.Ytknejebggegfjaa

namespace Go.Proofs.Ytknejebggegfjaa
open Go
theorem ti_ty_uint64 : (PR.info? 22).map (fun i => (i.zero, i.size, i.bytes)) = some (some (.int .u64 0), 1, 8) := by kernel_rfl
theorem ti_ty_api_ID : (PR.info? 35).map (fun i => (i.zero, i.size, i.bytes)) = some (some (.agg #[(.int .i64 0), (.int .u64 0)]), 2, 16) := by kernel_rfl
theorem ti_ty_Sapi_ID : (PR.info? 36).map (fun i => (i.zero, i.size, i.bytes)) = some (some (.slice none 0 0), 1, 24) := by kernel_rfl
theorem ti_ty_SSapi_ID : (PR.info? 119).map (fun i => (i.zero, i.size, i.bytes)) = some (some (.slice none 0 0), 1, 24) := by kernel_rfl
theorem tu_ty_SSSapi_ID : PR.underlying ty_SSSapi_ID = some (.slice 119) := by kernel_rfl
theorem tu_ty_SSapi_ID : PR.underlying ty_SSapi_ID = some (.slice 36) := by kernel_rfl
theorem tu_ty_Sapi_ID : PR.underlying ty_Sapi_ID = some (.slice 35) := by kernel_rfl
theorem mk_ty_Sapi_ID {n : Int} {H : Hp} {K : Value → Hp → Prop} (h0 : 0 ≤ n) (h1 : n * 16 ≤ 2 ^ 47) (h2 : n < 2 ^ 62)
    (hK : ∀ b cs, H b = none → cs.size = n.toNat * 2 → (∀ i, i < n.toNat * 2 → cs[i]? = ((.agg #[(.int .i64 0), (.int .u64 0)]) : Value).cells[i % 2]?) → K (.slice (some ⟨b, 0, none⟩) n.toNat n.toNat) (upd H b (.cells cs 35 (0, 0)))) :
    evW PR (Instr.makeSlice ty_Sapi_ID (.int .i64 n) (.int .i64 n)) H K :=
  make_at (z := (.agg #[(.int .i64 0), (.int .u64 0)])) tu_ty_Sapi_ID ti_ty_api_ID h0 h1 h2 rfl (by decide) hK
theorem tu_ty_Suint64 : PR.underlying ty_Suint64 = some (.slice 22) := by kernel_rfl
theorem mko_ty_Suint64 {n : Int} {H : Hp} {K : Value → Hp → Prop} (h0 : 0 ≤ n) (h1 : n * 8 ≤ 2 ^ 47) (h2 : n < 2 ^ 62)
    (hK : ∀ p H', Own H' 1 p n.toNat n.toNat (List.replicate n.toNat (.int .u64 0)) → Goes Nothing H (blk p) H' → K (.slice p n.toNat n.toNat) H') : evW PR (Instr.makeSlice ty_Suint64 (.int .i64 n) (.int .i64 n)) H K :=
  make_own (z := (.int .u64 0)) tu_ty_Suint64 ti_ty_uint64 rfl h0 h1 h2 hK
end Go.Proofs.Ytknejebggegfjaa

namespace Go.Proofs.Ytknejebggegfjaa
open Go
structure E_hand_Raw where
  Nodes : Int
  Mutators : Int
  Slots : Int
  Cells : Int
  Objects : Int
  Stubs : Int
  Calls : Int
  Window : Int
  Grey : Int
  Bag : Int
  Inbox : Int
  Unit : Int
  Drift : Int
  Lease : Int
  Wait : Int
  Most : Int
  Patience : Int
  Suspect : Int
  Trace : Int
  Work : Int
  Start : Int
  Last : Int
def E_hand_Raw.cells (x : E_hand_Raw) : List Value := [.int .i64 x.Nodes, .int .i64 x.Mutators, .int .i64 x.Slots, .int .i64 x.Cells, .int .i64 x.Objects, .int .i64 x.Stubs, .int .i64 x.Calls, .int .i64 x.Window, .int .i64 x.Grey, .int .i64 x.Bag, .int .i64 x.Inbox, .int .i64 x.Unit, .int .i64 x.Drift, .int .i64 x.Lease, .int .i64 x.Wait, .int .i64 x.Most, .int .i64 x.Patience, .int .i64 x.Suspect, .int .i64 x.Trace, .int .i64 x.Work, .int .u64 x.Start, .int .u64 x.Last]
structure E_hand_Raw.ok (x : E_hand_Raw) : Prop where
  Nodes : IntKind.min .i64 ≤ x.Nodes ∧ x.Nodes ≤ IntKind.max .i64
  Mutators : IntKind.min .i64 ≤ x.Mutators ∧ x.Mutators ≤ IntKind.max .i64
  Slots : IntKind.min .i64 ≤ x.Slots ∧ x.Slots ≤ IntKind.max .i64
  Cells : IntKind.min .i64 ≤ x.Cells ∧ x.Cells ≤ IntKind.max .i64
  Objects : IntKind.min .i64 ≤ x.Objects ∧ x.Objects ≤ IntKind.max .i64
  Stubs : IntKind.min .i64 ≤ x.Stubs ∧ x.Stubs ≤ IntKind.max .i64
  Calls : IntKind.min .i64 ≤ x.Calls ∧ x.Calls ≤ IntKind.max .i64
  Window : IntKind.min .i64 ≤ x.Window ∧ x.Window ≤ IntKind.max .i64
  Grey : IntKind.min .i64 ≤ x.Grey ∧ x.Grey ≤ IntKind.max .i64
  Bag : IntKind.min .i64 ≤ x.Bag ∧ x.Bag ≤ IntKind.max .i64
  Inbox : IntKind.min .i64 ≤ x.Inbox ∧ x.Inbox ≤ IntKind.max .i64
  Unit : IntKind.min .i64 ≤ x.Unit ∧ x.Unit ≤ IntKind.max .i64
  Drift : IntKind.min .i64 ≤ x.Drift ∧ x.Drift ≤ IntKind.max .i64
  Lease : IntKind.min .i64 ≤ x.Lease ∧ x.Lease ≤ IntKind.max .i64
  Wait : IntKind.min .i64 ≤ x.Wait ∧ x.Wait ≤ IntKind.max .i64
  Most : IntKind.min .i64 ≤ x.Most ∧ x.Most ≤ IntKind.max .i64
  Patience : IntKind.min .i64 ≤ x.Patience ∧ x.Patience ≤ IntKind.max .i64
  Suspect : IntKind.min .i64 ≤ x.Suspect ∧ x.Suspect ≤ IntKind.max .i64
  Trace : IntKind.min .i64 ≤ x.Trace ∧ x.Trace ≤ IntKind.max .i64
  Work : IntKind.min .i64 ≤ x.Work ∧ x.Work ≤ IntKind.max .i64
  Start : IntKind.min .u64 ≤ x.Start ∧ x.Start ≤ IntKind.max .u64
  Last : IntKind.min .u64 ≤ x.Last ∧ x.Last ≤ IntKind.max .u64
theorem E_hand_Raw.len (x : E_hand_Raw) : x.cells.length = 22 := rfl

structure E_api_ID where
  Node : Int
  Serial : Int
def E_api_ID.cells (x : E_api_ID) : List Value := [.int .i64 x.Node, .int .u64 x.Serial]
structure E_api_ID.ok (x : E_api_ID) : Prop where
  Node : IntKind.min .i64 ≤ x.Node ∧ x.Node ≤ IntKind.max .i64
  Serial : IntKind.min .u64 ≤ x.Serial ∧ x.Serial ≤ IntKind.max .u64
theorem E_api_ID.len (x : E_api_ID) : x.cells.length = 2 := rfl

structure E_api_Out where
  ID_Node : Int
  ID_Serial : Int
  Rank : Int
def E_api_Out.cells (x : E_api_Out) : List Value := [.int .i64 x.ID_Node, .int .u64 x.ID_Serial, .int .i64 x.Rank]
structure E_api_Out.ok (x : E_api_Out) : Prop where
  ID_Node : IntKind.min .i64 ≤ x.ID_Node ∧ x.ID_Node ≤ IntKind.max .i64
  ID_Serial : IntKind.min .u64 ≤ x.ID_Serial ∧ x.ID_Serial ≤ IntKind.max .u64
  Rank : IntKind.min .i64 ≤ x.Rank ∧ x.Rank ≤ IntKind.max .i64
theorem E_api_Out.len (x : E_api_Out) : x.cells.length = 3 := rfl

end Go.Proofs.Ytknejebggegfjaa
