/- Merged by merge.py: DenN, DenT, Ety. No condition. -/
import Derived.Test.YtknejebggegfjaaZSh
import Derived.Test.YtknejebggegfjaaProg
import Derived.KernelRfl
import Derived.Test.YtknejebggegfjaaZBase

namespace Go.Proofs.Ytknejebggegfjaa
open Go
noncomputable abbrev PR : Program := Try.prog
theorem PR_mixed : PR.follows .mixedOrders = true := by kernel_rfl
abbrev f_law22_WitnessLive : Nat := 7
abbrev f_law22_known : Nat := 20
abbrev f_witness_In : Nat := 21
abbrev f_witness_Out : Nat := 22
abbrev f_ref2_Numbers : Nat := 25
abbrev f_slices_ContainsFunc_Sapi_Reach_api_Reach : Nat := 52
abbrev f_witness_In_1 : Nat := 53
abbrev f_witness_said : Nat := 54
abbrev f_slices_ContainsFunc_Sapi_Out_api_Out : Nat := 55
abbrev f_witness_Out_1 : Nat := 56
abbrev f_slices_Contains_Sapi_ID_api_ID : Nat := 57
abbrev f_slices_Sort_Suint64_uint64 : Nat := 58
abbrev f_slices_Compact_Suint64_uint64 : Nat := 59
abbrev f_slices_IndexFunc_Sapi_Reach_api_Reach : Nat := 90
abbrev f_slices_IndexFunc_Sapi_Out_api_Out : Nat := 91
abbrev f_slices_Index_Sapi_ID_api_ID : Nat := 92
abbrev f_slices_pdqsortOrdered_uint64 : Nat := 93
abbrev f_math_bits_Len : Nat := 94
abbrev f_slices_insertionSortOrdered_uint64 : Nat := 102
abbrev f_slices_heapSortOrdered_uint64 : Nat := 103
abbrev f_slices_breakPatternsOrdered_uint64 : Nat := 104
abbrev f_slices_choosePivotOrdered_uint64 : Nat := 105
abbrev f_slices_reverseRangeOrdered_uint64 : Nat := 106
abbrev f_slices_partialInsertionSortOrdered_uint64 : Nat := 107
abbrev f_cmp_Less_uint64 : Nat := 108
abbrev f_slices_partitionEqualOrdered_uint64 : Nat := 109
abbrev f_slices_partitionOrdered_uint64 : Nat := 110
abbrev f_math_bits_Len64 : Nat := 112
abbrev f_slices_siftDownOrdered_uint64 : Nat := 116
abbrev f_slices_nextPowerOfTwo : Nat := 117
abbrev f_slices_xorshift_Next : Nat := 118
abbrev f_slices_medianAdjacentOrdered_uint64 : Nat := 119
abbrev f_slices_medianOrdered_uint64 : Nat := 120
abbrev f_cmp_isNaN_uint64 : Nat := 121
abbrev f_slices_order2Ordered_uint64 : Nat := 132
abbrev ty_ : Nat := 0
abbrev ty_Sapi_ID : Nat := 36
abbrev ty_Sapi_Out : Nat := 57
abbrev ty_Sapi_Reach : Nat := 56
abbrev ty_Suint64 : Nat := 41
abbrev ty_api_ID : Nat := 35
abbrev ty_api_Out : Nat := 131
abbrev ty_api_Reach : Nat := 129
abbrev ty_bool : Nat := 4
abbrev ty_cycle_Summary : Nat := 59
abbrev ty_int : Nat := 3
abbrev ty_slices_xorshift : Nat := 195
abbrev ty_uint64 : Nat := 22
abbrev ty_witness_Said : Nat := 61
end Go.Proofs.Ytknejebggegfjaa

namespace Go.Proofs.Ytknejebggegfjaa
open Go
theorem ti_ty_uint64 : (PR.info? 22).map (fun i => (i.zero, i.size, i.bytes)) = some (some (.int .u64 0), 1, 8) := by kernel_rfl
theorem tu_ty_Sapi_ID : PR.underlying ty_Sapi_ID = some (.slice 35) := by kernel_rfl
theorem tu_ty_Sapi_Out : PR.underlying ty_Sapi_Out = some (.slice 131) := by kernel_rfl
theorem tu_ty_Sapi_Reach : PR.underlying ty_Sapi_Reach = some (.slice 129) := by kernel_rfl
theorem tu_ty_Suint64 : PR.underlying ty_Suint64 = some (.slice 22) := by kernel_rfl
end Go.Proofs.Ytknejebggegfjaa

namespace Go.Proofs.Ytknejebggegfjaa
open Go
structure E_hand_Raw where
  Nodes : Int
  Mutators : Int
  Slots : Int
  Cells : Int
  Objects : Int
  Stubs : Int
  Calls : Int
  Window : Int
  Grey : Int
  Bag : Int
  Inbox : Int
  Unit : Int
  Drift : Int
  Lease : Int
  Wait : Int
  Most : Int
  Patience : Int
  Suspect : Int
  Trace : Int
  Work : Int
  Start : Int
  Last : Int
def E_hand_Raw.cells (x : E_hand_Raw) : List Value := [.int .i64 x.Nodes, .int .i64 x.Mutators, .int .i64 x.Slots, .int .i64 x.Cells, .int .i64 x.Objects, .int .i64 x.Stubs, .int .i64 x.Calls, .int .i64 x.Window, .int .i64 x.Grey, .int .i64 x.Bag, .int .i64 x.Inbox, .int .i64 x.Unit, .int .i64 x.Drift, .int .i64 x.Lease, .int .i64 x.Wait, .int .i64 x.Most, .int .i64 x.Patience, .int .i64 x.Suspect, .int .i64 x.Trace, .int .i64 x.Work, .int .u64 x.Start, .int .u64 x.Last]
structure E_hand_Raw.ok (x : E_hand_Raw) : Prop where
  Nodes : IntKind.min .i64 ≤ x.Nodes ∧ x.Nodes ≤ IntKind.max .i64
  Mutators : IntKind.min .i64 ≤ x.Mutators ∧ x.Mutators ≤ IntKind.max .i64
  Slots : IntKind.min .i64 ≤ x.Slots ∧ x.Slots ≤ IntKind.max .i64
  Cells : IntKind.min .i64 ≤ x.Cells ∧ x.Cells ≤ IntKind.max .i64
  Objects : IntKind.min .i64 ≤ x.Objects ∧ x.Objects ≤ IntKind.max .i64
  Stubs : IntKind.min .i64 ≤ x.Stubs ∧ x.Stubs ≤ IntKind.max .i64
  Calls : IntKind.min .i64 ≤ x.Calls ∧ x.Calls ≤ IntKind.max .i64
  Window : IntKind.min .i64 ≤ x.Window ∧ x.Window ≤ IntKind.max .i64
  Grey : IntKind.min .i64 ≤ x.Grey ∧ x.Grey ≤ IntKind.max .i64
  Bag : IntKind.min .i64 ≤ x.Bag ∧ x.Bag ≤ IntKind.max .i64
  Inbox : IntKind.min .i64 ≤ x.Inbox ∧ x.Inbox ≤ IntKind.max .i64
  Unit : IntKind.min .i64 ≤ x.Unit ∧ x.Unit ≤ IntKind.max .i64
  Drift : IntKind.min .i64 ≤ x.Drift ∧ x.Drift ≤ IntKind.max .i64
  Lease : IntKind.min .i64 ≤ x.Lease ∧ x.Lease ≤ IntKind.max .i64
  Wait : IntKind.min .i64 ≤ x.Wait ∧ x.Wait ≤ IntKind.max .i64
  Most : IntKind.min .i64 ≤ x.Most ∧ x.Most ≤ IntKind.max .i64
  Patience : IntKind.min .i64 ≤ x.Patience ∧ x.Patience ≤ IntKind.max .i64
  Suspect : IntKind.min .i64 ≤ x.Suspect ∧ x.Suspect ≤ IntKind.max .i64
  Trace : IntKind.min .i64 ≤ x.Trace ∧ x.Trace ≤ IntKind.max .i64
  Work : IntKind.min .i64 ≤ x.Work ∧ x.Work ≤ IntKind.max .i64
  Start : IntKind.min .u64 ≤ x.Start ∧ x.Start ≤ IntKind.max .u64
  Last : IntKind.min .u64 ≤ x.Last ∧ x.Last ≤ IntKind.max .u64
theorem E_hand_Raw.len (x : E_hand_Raw) : x.cells.length = 22 := rfl

structure E_api_ID where
  Node : Int
  Serial : Int
def E_api_ID.cells (x : E_api_ID) : List Value := [.int .i64 x.Node, .int .u64 x.Serial]
structure E_api_ID.ok (x : E_api_ID) : Prop where
  Node : IntKind.min .i64 ≤ x.Node ∧ x.Node ≤ IntKind.max .i64
  Serial : IntKind.min .u64 ≤ x.Serial ∧ x.Serial ≤ IntKind.max .u64
theorem E_api_ID.len (x : E_api_ID) : x.cells.length = 2 := rfl

structure E_api_Out where
  ID_Node : Int
  ID_Serial : Int
  Rank : Int
def E_api_Out.cells (x : E_api_Out) : List Value := [.int .i64 x.ID_Node, .int .u64 x.ID_Serial, .int .i64 x.Rank]
structure E_api_Out.ok (x : E_api_Out) : Prop where
  ID_Node : IntKind.min .i64 ≤ x.ID_Node ∧ x.ID_Node ≤ IntKind.max .i64
  ID_Serial : IntKind.min .u64 ≤ x.ID_Serial ∧ x.ID_Serial ≤ IntKind.max .u64
  Rank : IntKind.min .i64 ≤ x.Rank ∧ x.Rank ≤ IntKind.max .i64
theorem E_api_Out.len (x : E_api_Out) : x.cells.length = 3 := rfl

end Go.Proofs.Ytknejebggegfjaa
