/- Merged by merge.py: DenN, Ety, DenT. No condition. -/
import Derived.Test.YtknejebggegfjaaZSh
import Derived.Test.YtknejebggegfjaaProg
import Derived.KernelRfl
import Derived.Test.YtknejebggegfjaaZBase

namespace Go.Proofs.Ytknejebggegfjaa
open Go
noncomputable abbrev PR : Program := Try.prog
theorem PR_mixed : PR.follows .mixedOrders = true := by kernel_rfl
abbrev f_law23_TracePlays : Nat := 12
abbrev f_hand_Config : Nat := 14
abbrev f_hand_Pick : Nat := 17
abbrev f_ref2_Numbers : Nat := 25
abbrev f_trace_New : Nat := 27
abbrev f_law23_known : Nat := 28
abbrev f_trace_Trace_Begin : Nat := 29
abbrev f_law23_stub : Nat := 30
abbrev f_trace_Trace_State : Nat := 32
abbrev f_trace_Trace_Step : Nat := 33
abbrev f_trace_Trace_Hear : Nat := 34
abbrev f_trace_Trace_Count : Nat := 36
abbrev f_ref2_Same : Nat := 39
abbrev f_trace_Trace_Items : Nat := 40
abbrev f_ref22_New : Nat := 41
abbrev f_ref22_Trace_Step : Nat := 42
abbrev f_law23_told : Nat := 43
abbrev f_ref22_Trace_Hear : Nat := 44
abbrev f_ref22_Trace_Begin : Nat := 45
abbrev f_law23_items : Nat := 46
abbrev f_api_May : Nat := 47
abbrev f_clock_Past : Nat := 63
abbrev f_lease_Wait : Nat := 64
abbrev f_trace_Trace_question : Nat := 65
abbrev f_trace_Trace_asked : Nat := 66
abbrev f_trace_Trace_checked : Nat := 67
abbrev f_trace_Trace_wasBuried : Nat := 68
abbrev f_ref2_IDs : Nat := 69
abbrev f_ref3_Past : Nat := 70
abbrev f_ref3_Wait : Nat := 71
abbrev f_ref22_Trace_to : Nat := 72
abbrev f_ref22_Trace_stamp : Nat := 73
abbrev f_ref22_Trace_asked : Nat := 74
abbrev f_ref22_Trace_over : Nat := 75
abbrev f_ref22_Trace_next : Nat := 76
abbrev f_ref22_Trace_burying : Nat := 77
abbrev f_ref2_None : Nat := 78
abbrev f_ref2_ID : Nat := 79
abbrev f_api_in : Nat := 80
abbrev f_math_bits_Len : Nat := 94
abbrev f_trace_Trace_over : Nat := 95
abbrev f_trace_Trace_more : Nat := 96
abbrev f_trace_Trace_next : Nat := 97
abbrev f_slices_Sort_Sint_int : Nat := 98
abbrev f_trace_Trace_finds : Nat := 99
abbrev f_ref22_Trace_keep : Nat := 100
abbrev f_ref22_Trace_more : Nat := 101
abbrev f_math_bits_Len64 : Nat := 112
abbrev f_slices_ContainsFunc_Strace_Item_trace_Item : Nat := 113
abbrev f_trace_Trace_more_1 : Nat := 114
abbrev f_slices_pdqsortOrdered_int : Nat := 115
abbrev f_slices_IndexFunc_Strace_Item_trace_Item : Nat := 122
abbrev f_slices_insertionSortOrdered_int : Nat := 123
abbrev f_slices_heapSortOrdered_int : Nat := 124
abbrev f_slices_breakPatternsOrdered_int : Nat := 125
abbrev f_slices_choosePivotOrdered_int : Nat := 126
abbrev f_slices_reverseRangeOrdered_int : Nat := 127
abbrev f_slices_partialInsertionSortOrdered_int : Nat := 128
abbrev f_cmp_Less_int : Nat := 129
abbrev f_slices_partitionEqualOrdered_int : Nat := 130
abbrev f_slices_partitionOrdered_int : Nat := 131
abbrev f_cmp_isNaN_int : Nat := 136
abbrev ty_Sapi_ID : Nat := 36
abbrev ty_Sint : Nat := 73
abbrev ty_Smooringlaw23_Step : Nat := 102
abbrev ty_Strace_Item : Nat := 81
abbrev ty_Suint64 : Nat := 41
abbrev ty_api_Config : Nat := 26
abbrev ty_api_ID : Nat := 35
abbrev ty_api_Msg : Nat := 86
abbrev ty_bool : Nat := 4
abbrev ty_hand_Raw : Nat := 24
abbrev ty_int : Nat := 3
abbrev ty_law23_Step : Nat := 106
abbrev ty_map_int_uint64 : Nat := 141
abbrev ty_ref22_Trace : Nat := 109
abbrev ty_trace_Item : Nat := 94
abbrev ty_trace_Trace : Nat := 143
abbrev ty_uint64 : Nat := 22
end Go.Proofs.Ytknejebggegfjaa

namespace Go.Proofs.Ytknejebggegfjaa
open Go
structure E_hand_Raw where
  Nodes : Int
  Mutators : Int
  Slots : Int
  Cells : Int
  Objects : Int
  Stubs : Int
  Calls : Int
  Window : Int
  Grey : Int
  Bag : Int
  Inbox : Int
  Unit : Int
  Drift : Int
  Lease : Int
  Wait : Int
  Most : Int
  Patience : Int
  Suspect : Int
  Trace : Int
  Work : Int
  Start : Int
  Last : Int
def E_hand_Raw.cells (x : E_hand_Raw) : List Value := [.int .i64 x.Nodes, .int .i64 x.Mutators, .int .i64 x.Slots, .int .i64 x.Cells, .int .i64 x.Objects, .int .i64 x.Stubs, .int .i64 x.Calls, .int .i64 x.Window, .int .i64 x.Grey, .int .i64 x.Bag, .int .i64 x.Inbox, .int .i64 x.Unit, .int .i64 x.Drift, .int .i64 x.Lease, .int .i64 x.Wait, .int .i64 x.Most, .int .i64 x.Patience, .int .i64 x.Suspect, .int .i64 x.Trace, .int .i64 x.Work, .int .u64 x.Start, .int .u64 x.Last]
structure E_hand_Raw.ok (x : E_hand_Raw) : Prop where
  Nodes : IntKind.min .i64 ≤ x.Nodes ∧ x.Nodes ≤ IntKind.max .i64
  Mutators : IntKind.min .i64 ≤ x.Mutators ∧ x.Mutators ≤ IntKind.max .i64
  Slots : IntKind.min .i64 ≤ x.Slots ∧ x.Slots ≤ IntKind.max .i64
  Cells : IntKind.min .i64 ≤ x.Cells ∧ x.Cells ≤ IntKind.max .i64
  Objects : IntKind.min .i64 ≤ x.Objects ∧ x.Objects ≤ IntKind.max .i64
  Stubs : IntKind.min .i64 ≤ x.Stubs ∧ x.Stubs ≤ IntKind.max .i64
  Calls : IntKind.min .i64 ≤ x.Calls ∧ x.Calls ≤ IntKind.max .i64
  Window : IntKind.min .i64 ≤ x.Window ∧ x.Window ≤ IntKind.max .i64
  Grey : IntKind.min .i64 ≤ x.Grey ∧ x.Grey ≤ IntKind.max .i64
  Bag : IntKind.min .i64 ≤ x.Bag ∧ x.Bag ≤ IntKind.max .i64
  Inbox : IntKind.min .i64 ≤ x.Inbox ∧ x.Inbox ≤ IntKind.max .i64
  Unit : IntKind.min .i64 ≤ x.Unit ∧ x.Unit ≤ IntKind.max .i64
  Drift : IntKind.min .i64 ≤ x.Drift ∧ x.Drift ≤ IntKind.max .i64
  Lease : IntKind.min .i64 ≤ x.Lease ∧ x.Lease ≤ IntKind.max .i64
  Wait : IntKind.min .i64 ≤ x.Wait ∧ x.Wait ≤ IntKind.max .i64
  Most : IntKind.min .i64 ≤ x.Most ∧ x.Most ≤ IntKind.max .i64
  Patience : IntKind.min .i64 ≤ x.Patience ∧ x.Patience ≤ IntKind.max .i64
  Suspect : IntKind.min .i64 ≤ x.Suspect ∧ x.Suspect ≤ IntKind.max .i64
  Trace : IntKind.min .i64 ≤ x.Trace ∧ x.Trace ≤ IntKind.max .i64
  Work : IntKind.min .i64 ≤ x.Work ∧ x.Work ≤ IntKind.max .i64
  Start : IntKind.min .u64 ≤ x.Start ∧ x.Start ≤ IntKind.max .u64
  Last : IntKind.min .u64 ≤ x.Last ∧ x.Last ≤ IntKind.max .u64
theorem E_hand_Raw.len (x : E_hand_Raw) : x.cells.length = 22 := rfl

structure E_api_ID where
  Node : Int
  Serial : Int
def E_api_ID.cells (x : E_api_ID) : List Value := [.int .i64 x.Node, .int .u64 x.Serial]
structure E_api_ID.ok (x : E_api_ID) : Prop where
  Node : IntKind.min .i64 ≤ x.Node ∧ x.Node ≤ IntKind.max .i64
  Serial : IntKind.min .u64 ≤ x.Serial ∧ x.Serial ≤ IntKind.max .u64
theorem E_api_ID.len (x : E_api_ID) : x.cells.length = 2 := rfl

structure E_api_Out where
  ID_Node : Int
  ID_Serial : Int
  Rank : Int
def E_api_Out.cells (x : E_api_Out) : List Value := [.int .i64 x.ID_Node, .int .u64 x.ID_Serial, .int .i64 x.Rank]
structure E_api_Out.ok (x : E_api_Out) : Prop where
  ID_Node : IntKind.min .i64 ≤ x.ID_Node ∧ x.ID_Node ≤ IntKind.max .i64
  ID_Serial : IntKind.min .u64 ≤ x.ID_Serial ∧ x.ID_Serial ≤ IntKind.max .u64
  Rank : IntKind.min .i64 ≤ x.Rank ∧ x.Rank ≤ IntKind.max .i64
theorem E_api_Out.len (x : E_api_Out) : x.cells.length = 3 := rfl

end Go.Proofs.Ytknejebggegfjaa

namespace Go.Proofs.Ytknejebggegfjaa
open Go
theorem ti_ty_int : (PR.info? 3).map (fun i => (i.zero, i.size, i.bytes)) = some (some (.int .i64 0), 1, 8) := by kernel_rfl
theorem ti_ty_uint64 : (PR.info? 22).map (fun i => (i.zero, i.size, i.bytes)) = some (some (.int .u64 0), 1, 8) := by kernel_rfl
theorem ti_ty_trace_Item : (PR.info? 94).map (fun i => (i.zero, i.size, i.bytes)) = some (some (.agg #[(.bool false), (.int .i64 0), (.int .i64 0), (.int .u64 0), (.int .i64 0)]), 5, 40) := by kernel_rfl
theorem tu_ty_Sapi_ID : PR.underlying ty_Sapi_ID = some (.slice 35) := by kernel_rfl
theorem tu_ty_Sint : PR.underlying ty_Sint = some (.slice 3) := by kernel_rfl
theorem lit_ty_Sint {ty m : Nat} {e0 : TypeId} {p : Option Addr} {n cap : Nat} {xs : List Value} {c : Array Value} {H : Hp} {K : Value → Hp → Prop} (h : Own H 1 p n cap xs) (hs : c.size = m * 1) (hone : ∀ y ∈ c.toList, one y = true) (hroom : (2 * (n + m) + 512) * 8 ≤ 2 ^ 48)
    (hK : ∀ p' cap' H', Own H' 1 p' (n + m) cap' (xs ++ c.toList) → Goes (blk p) H (blk p') H' → K (.slice p' (n + m) cap') H') :
    newB (.cells c e0) H fun b H1 => evW PR (Builtin.append_ #[ty_Sint, ty_Sint] ty #[.slice p n cap, .slice (some ⟨b, 0, none⟩) m m]) H1 K :=
  app_lit (z := (.int .i64 0)) tu_ty_Sint tu_ty_Sint ti_ty_int rfl (by decide) h hs hone hroom hK
theorem tu_ty_Strace_Item : PR.underlying ty_Strace_Item = some (.slice 94) := by kernel_rfl
theorem tu_ty_Suint64 : PR.underlying ty_Suint64 = some (.slice 22) := by kernel_rfl
end Go.Proofs.Ytknejebggegfjaa
