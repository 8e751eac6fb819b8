/- Merged by merge.py: DenN, DenT, Ety. No condition. -/
import Derived.Test.YtojcacejgbnfkaaGreatZSh
import Derived.Test.YtojcacejgbnfkaaGreatProg
import Derived.KernelRfl
import Derived.Test.YtojcacejgbnfkaaGreatZBase

namespace Go.Proofs.YtojcacejgbnfkaaGreat
open Go
noncomputable abbrev PR : Program := Tryz.prog
theorem PR_mixed : PR.follows .mixedOrders = true := by kernel_rfl
abbrev f_law11_PaintPlays : Nat := 5
abbrev f_hand_Graph_Heaps : Nat := 14
abbrev f_hand_Pick : Nat := 18
abbrev f_heap_Heap_SetRef : Nat := 28
abbrev f_ref8_Heap_SetRef : Nat := 29
abbrev f_heap_Heap_Make : Nat := 31
abbrev f_ref8_Heap_Make : Nat := 32
abbrev f_heap_Heap_SetIn : Nat := 35
abbrev f_ref8_Heap_SetIn : Nat := 36
abbrev f_law11_known : Nat := 41
abbrev f_paint_New : Nat := 42
abbrev f_ref11_NewPaint : Nat := 43
abbrev f_paint_Paint_Scan : Nat := 44
abbrev f_ref11_Paint_Scan : Nat := 45
abbrev f_paint_Paint_Pop : Nat := 46
abbrev f_ref4_WordStack_Pop : Nat := 47
abbrev f_paint_Paint_Blacken : Nat := 48
abbrev f_ref11_Paint_Blacken : Nat := 49
abbrev f_paint_Paint_Forget : Nat := 50
abbrev f_ref11_Paint_Forget : Nat := 51
abbrev f_paint_Paint_Rest : Nat := 52
abbrev f_paint_Paint_Turn : Nat := 53
abbrev f_ref11_Paint_Turn : Nat := 54
abbrev f_heap_Heap_Free : Nat := 55
abbrev f_ref8_Heap_Free : Nat := 56
abbrev f_paint_Paint_Shade : Nat := 57
abbrev f_ref11_Paint_Shade : Nat := 58
abbrev f_law11_same : Nat := 59
abbrev f_heap_New : Nat := 69
abbrev f_hand_Graph_Dist : Nat := 74
abbrev f_hand_Graph_Target : Nat := 75
abbrev f_hand_Graph_Size : Nat := 80
abbrev f_ref8_New : Nat := 81
abbrev f_heap_Heap_Node : Nat := 83
abbrev f_paint_Paint_Mark : Nat := 90
abbrev f_paint_Paint_Outs : Nat := 91
abbrev f_heap_right : Nat := 95
abbrev f_heap_Heap_Ref : Nat := 96
abbrev f_ref2_ID : Nat := 97
abbrev f_ref8_Heap_Ref : Nat := 98
abbrev f_ref8_Heap_Get : Nat := 99
abbrev f_heap_fields : Nat := 102
abbrev f_arena_Arena_Alloc : Nat := 103
abbrev f_ref7_Arena_Alloc : Nat := 104
abbrev f_hand_Outs : Nat := 113
abbrev f_ref11_Paint_Outs : Nat := 114
abbrev f_ref11_Paint_Mark : Nat := 115
abbrev f_paint_Paint_Waiting : Nat := 118
abbrev f_grey_New_uint64 : Nat := 119
abbrev f_heap_Heap_Object : Nat := 120
abbrev f_ref11_Paint_find : Nat := 121
abbrev f_grey_Stack_uint64_Pop : Nat := 122
abbrev f_paint_Paint_there : Nat := 123
abbrev f_grey_Stack_uint64_Rest : Nat := 124
abbrev f_grey_Stack_uint64_Clear : Nat := 125
abbrev f_arena_Arena_Free : Nat := 126
abbrev f_ref7_Arena_Free : Nat := 127
abbrev f_grey_Stack_uint64_Push : Nat := 128
abbrev f_ref2_None : Nat := 129
abbrev f_ref4_OutTable_Get : Nat := 130
abbrev f_api_Key : Nat := 131
abbrev f_ref4_OutTable_Put : Nat := 132
abbrev f_ref4_WordStack_Push : Nat := 133
abbrev f_law11_ids : Nat := 134
abbrev f_paint_Paint_Met : Nat := 135
abbrev f_ref11_Paint_Met : Nat := 136
abbrev f_paint_Paint_Over : Nat := 137
abbrev f_paint_Paint_Turns : Nat := 138
abbrev f_arena_New : Nat := 149
abbrev f_ref7_New : Nat := 152
abbrev f_slices_SortFunc_Sapi_Out_api_Out : Nat := 156
abbrev f_paint_Paint_Outs_1 : Nat := 157
abbrev f_heap_in : Nat := 159
abbrev f_arena_Class : Nat := 160
abbrev f_arena_full : Nat := 161
abbrev f_arena_Arena_take : Nat := 162
abbrev f_ref7_Class : Nat := 163
abbrev f_grey_Stack_uint64_Len : Nat := 176
abbrev f_arena_Arena_place : Nat := 177
abbrev f_ref7_Arena_At : Nat := 178
abbrev f_ref4_OutTable_place : Nat := 179
abbrev f_grey_Stack_uint64_Over : Nat := 180
abbrev ty_ : Nat := 0
abbrev ty_16_bool : Nat := 239
abbrev ty_SSint : Nat := 22
abbrev ty_S_16_bool : Nat := 236
abbrev ty_Sapi_ID : Nat := 52
abbrev ty_Sapi_Out : Nat := 55
abbrev ty_Sbool : Nat := 23
abbrev ty_Sint : Nat := 24
abbrev ty_Smooringref11_mark : Nat := 85
abbrev ty_Spapi_Object : Nat := 43
abbrev ty_Suint16 : Nat := 231
abbrev ty_Suint64 : Nat := 66
abbrev ty_api_ID : Nat := 39
abbrev ty_api_Object : Nat := 173
abbrev ty_api_Out : Nat := 128
abbrev ty_arena_Arena : Nat := 233
abbrev ty_bool : Nat := 4
abbrev ty_grey_Stack_uint64 : Nat := 242
abbrev ty_hand_Graph : Nat := 26
abbrev ty_heap_Heap : Nat := 171
abbrev ty_heap_thing : Nat := 166
abbrev ty_int : Nat := 3
abbrev ty_law11_Step : Nat := 79
abbrev ty_map_api_ID_int : Nat := 189
abbrev ty_map_uint64_paint_mark : Nat := 188
abbrev ty_map_uint64_pheap_thing : Nat := 169
abbrev ty_paint_Paint : Nat := 191
abbrev ty_paint_mark : Nat := 195
abbrev ty_papi_Object : Nat := 174
abbrev ty_pheap_thing : Nat := 167
abbrev ty_ref11_Paint : Nat := 89
abbrev ty_ref11_mark : Nat := 199
abbrev ty_ref7_Arena : Nat := 238
abbrev ty_ref8_Heap : Nat := 45
abbrev ty_uint64 : Nat := 37
end Go.Proofs.YtojcacejgbnfkaaGreat

namespace Go.Proofs.YtojcacejgbnfkaaGreat
open Go
theorem ti_ty_int : (PR.info? 3).map (fun i => (i.zero, i.size, i.bytes)) = some (some (.int .i64 0), 1, 8) := by kernel_rfl
theorem ti_ty_uint64 : (PR.info? 37).map (fun i => (i.zero, i.size, i.bytes)) = some (some (.int .u64 0), 1, 8) := by kernel_rfl
theorem ti_ty_api_ID : (PR.info? 39).map (fun i => (i.zero, i.size, i.bytes)) = some (some (.agg #[(.int .i64 0), (.int .u64 0)]), 2, 16) := by kernel_rfl
theorem ti_ty_api_Out : (PR.info? 128).map (fun i => (i.zero, i.size, i.bytes)) = some (some (.agg #[(.int .i64 0), (.int .u64 0), (.int .i64 0)]), 3, 24) := by kernel_rfl
theorem ti_ty_papi_Object : (PR.info? 174).map (fun i => (i.zero, i.size, i.bytes)) = some (some (.pointer none), 1, 8) := by kernel_rfl
theorem ti_ty_ref11_mark : (PR.info? 199).map (fun i => (i.zero, i.size, i.bytes)) = some (some (.agg #[(.int .u64 0), (.int .i64 0), (.bool false)]), 3, 24) := by kernel_rfl
theorem ti_ty_uint16 : (PR.info? 234).map (fun i => (i.zero, i.size, i.bytes)) = some (some (.int .u16 0), 1, 2) := by kernel_rfl
theorem ti_ty_16_bool : (PR.info? 239).map (fun i => (i.zero, i.size, i.bytes)) = some (some (.agg #[(.bool false), (.bool false), (.bool false), (.bool false), (.bool false), (.bool false), (.bool false), (.bool false), (.bool false), (.bool false), (.bool false), (.bool false), (.bool false), (.bool false), (.bool false), (.bool false)]), 16, 16) := by kernel_rfl
theorem tu_ty_S_16_bool : PR.underlying ty_S_16_bool = some (.slice 239) := by kernel_rfl
theorem mk_ty_S_16_bool {n : Int} {H : Hp} {K : Value → Hp → Prop} (h0 : 0 ≤ n) (h1 : n * 16 ≤ 2 ^ 47) (h2 : n < 2 ^ 62)
    (hK : ∀ b cs, H b = none → cs.size = n.toNat * 16 → (∀ i, i < n.toNat * 16 → cs[i]? = ((.agg #[(.bool false), (.bool false), (.bool false), (.bool false), (.bool false), (.bool false), (.bool false), (.bool false), (.bool false), (.bool false), (.bool false), (.bool false), (.bool false), (.bool false), (.bool false), (.bool false)]) : Value).cells[i % 16]?) → K (.slice (some ⟨b, 0, none⟩) n.toNat n.toNat) (upd H b (.cells cs 239 (0, 0)))) :
    evW PR (Instr.makeSlice ty_S_16_bool (.int .i64 n) (.int .i64 n)) H K :=
  make_at (z := (.agg #[(.bool false), (.bool false), (.bool false), (.bool false), (.bool false), (.bool false), (.bool false), (.bool false), (.bool false), (.bool false), (.bool false), (.bool false), (.bool false), (.bool false), (.bool false), (.bool false)])) tu_ty_S_16_bool ti_ty_16_bool h0 h1 h2 rfl (by decide) hK
theorem tu_ty_Sapi_ID : PR.underlying ty_Sapi_ID = some (.slice 39) := by kernel_rfl
theorem lit_ty_Sapi_ID {ty m : Nat} {e0 : TypeId} {p : Option Addr} {n cap : Nat} {xs : List Value} {c : Array Value} {H : Hp} {K : Value → Hp → Prop} (h : Own H 2 p n cap xs) (hs : c.size = m * 2) (hone : ∀ y ∈ c.toList, one y = true) (hroom : (2 * (n + m) + 512) * 16 ≤ 2 ^ 48)
    (hK : ∀ p' cap' H', Own H' 2 p' (n + m) cap' (xs ++ c.toList) → Goes (blk p) H (blk p') H' → K (.slice p' (n + m) cap') H') :
    newB (.cells c e0) H fun b H1 => evW PR (Builtin.append_ #[ty_Sapi_ID, ty_Sapi_ID] ty #[.slice p n cap, .slice (some ⟨b, 0, none⟩) m m]) H1 K :=
  app_lit (z := (.agg #[(.int .i64 0), (.int .u64 0)])) tu_ty_Sapi_ID tu_ty_Sapi_ID ti_ty_api_ID rfl (by decide) h hs hone hroom hK
theorem tu_ty_Sapi_Out : PR.underlying ty_Sapi_Out = some (.slice 128) := by kernel_rfl
theorem lit_ty_Sapi_Out {ty m : Nat} {e0 : TypeId} {p : Option Addr} {n cap : Nat} {xs : List Value} {c : Array Value} {H : Hp} {K : Value → Hp → Prop} (h : Own H 3 p n cap xs) (hs : c.size = m * 3) (hone : ∀ y ∈ c.toList, one y = true) (hroom : (2 * (n + m) + 512) * 24 ≤ 2 ^ 48)
    (hK : ∀ p' cap' H', Own H' 3 p' (n + m) cap' (xs ++ c.toList) → Goes (blk p) H (blk p') H' → K (.slice p' (n + m) cap') H') :
    newB (.cells c e0) H fun b H1 => evW PR (Builtin.append_ #[ty_Sapi_Out, ty_Sapi_Out] ty #[.slice p n cap, .slice (some ⟨b, 0, none⟩) m m]) H1 K :=
  app_lit (z := (.agg #[(.int .i64 0), (.int .u64 0), (.int .i64 0)])) tu_ty_Sapi_Out tu_ty_Sapi_Out ti_ty_api_Out rfl (by decide) h hs hone hroom hK
theorem tu_ty_Sbool : PR.underlying ty_Sbool = some (.slice 4) := by kernel_rfl
theorem tu_ty_Sint : PR.underlying ty_Sint = some (.slice 3) := by kernel_rfl
theorem mko_ty_Sint {n : Int} {H : Hp} {K : Value → Hp → Prop} (h0 : 0 ≤ n) (h1 : n * 8 ≤ 2 ^ 47) (h2 : n < 2 ^ 62)
    (hK : ∀ p H', Own H' 1 p n.toNat n.toNat (List.replicate n.toNat (.int .i64 0)) → Goes Nothing H (blk p) H' → K (.slice p n.toNat n.toNat) H') : evW PR (Instr.makeSlice ty_Sint (.int .i64 n) (.int .i64 n)) H K :=
  make_own (z := (.int .i64 0)) tu_ty_Sint ti_ty_int rfl h0 h1 h2 hK
theorem tu_ty_Smooringref11_mark : PR.underlying ty_Smooringref11_mark = some (.slice 199) := by kernel_rfl
theorem lit_ty_Smooringref11_mark {ty m : Nat} {e0 : TypeId} {p : Option Addr} {n cap : Nat} {xs : List Value} {c : Array Value} {H : Hp} {K : Value → Hp → Prop} (h : Own H 3 p n cap xs) (hs : c.size = m * 3) (hone : ∀ y ∈ c.toList, one y = true) (hroom : (2 * (n + m) + 512) * 24 ≤ 2 ^ 48)
    (hK : ∀ p' cap' H', Own H' 3 p' (n + m) cap' (xs ++ c.toList) → Goes (blk p) H (blk p') H' → K (.slice p' (n + m) cap') H') :
    newB (.cells c e0) H fun b H1 => evW PR (Builtin.append_ #[ty_Smooringref11_mark, ty_Smooringref11_mark] ty #[.slice p n cap, .slice (some ⟨b, 0, none⟩) m m]) H1 K :=
  app_lit (z := (.agg #[(.int .u64 0), (.int .i64 0), (.bool false)])) tu_ty_Smooringref11_mark tu_ty_Smooringref11_mark ti_ty_ref11_mark rfl (by decide) h hs hone hroom hK
theorem tu_ty_Spapi_Object : PR.underlying ty_Spapi_Object = some (.slice 174) := by kernel_rfl
theorem tu_ty_Suint16 : PR.underlying ty_Suint16 = some (.slice 234) := by kernel_rfl
theorem mko_ty_Suint16 {n : Int} {H : Hp} {K : Value → Hp → Prop} (h0 : 0 ≤ n) (h1 : n * 2 ≤ 2 ^ 47) (h2 : n < 2 ^ 62)
    (hK : ∀ p H', Own H' 1 p n.toNat n.toNat (List.replicate n.toNat (.int .u16 0)) → Goes Nothing H (blk p) H' → K (.slice p n.toNat n.toNat) H') : evW PR (Instr.makeSlice ty_Suint16 (.int .i64 n) (.int .i64 n)) H K :=
  make_own (z := (.int .u16 0)) tu_ty_Suint16 ti_ty_uint16 rfl h0 h1 h2 hK
theorem tu_ty_Suint64 : PR.underlying ty_Suint64 = some (.slice 37) := by kernel_rfl
theorem lit_ty_Suint64 {ty m : Nat} {e0 : TypeId} {p : Option Addr} {n cap : Nat} {xs : List Value} {c : Array Value} {H : Hp} {K : Value → Hp → Prop} (h : Own H 1 p n cap xs) (hs : c.size = m * 1) (hone : ∀ y ∈ c.toList, one y = true) (hroom : (2 * (n + m) + 512) * 8 ≤ 2 ^ 48)
    (hK : ∀ p' cap' H', Own H' 1 p' (n + m) cap' (xs ++ c.toList) → Goes (blk p) H (blk p') H' → K (.slice p' (n + m) cap') H') :
    newB (.cells c e0) H fun b H1 => evW PR (Builtin.append_ #[ty_Suint64, ty_Suint64] ty #[.slice p n cap, .slice (some ⟨b, 0, none⟩) m m]) H1 K :=
  app_lit (z := (.int .u64 0)) tu_ty_Suint64 tu_ty_Suint64 ti_ty_uint64 rfl (by decide) h hs hone hroom hK
theorem mko_ty_Suint64 {n : Int} {H : Hp} {K : Value → Hp → Prop} (h0 : 0 ≤ n) (h1 : n * 8 ≤ 2 ^ 47) (h2 : n < 2 ^ 62)
    (hK : ∀ p H', Own H' 1 p n.toNat n.toNat (List.replicate n.toNat (.int .u64 0)) → Goes Nothing H (blk p) H' → K (.slice p n.toNat n.toNat) H') : evW PR (Instr.makeSlice ty_Suint64 (.int .i64 n) (.int .i64 n)) H K :=
  make_own (z := (.int .u64 0)) tu_ty_Suint64 ti_ty_uint64 rfl h0 h1 h2 hK
end Go.Proofs.YtojcacejgbnfkaaGreat

namespace Go.Proofs.YtojcacejgbnfkaaGreat
open Go
structure E_api_ID where
  Node : Int
  Serial : Int
def E_api_ID.cells (x : E_api_ID) : List Value := [.int .i64 x.Node, .int .u64 x.Serial]
structure E_api_ID.ok (x : E_api_ID) : Prop where
  Node : IntKind.min .i64 ≤ x.Node ∧ x.Node ≤ IntKind.max .i64
  Serial : IntKind.min .u64 ≤ x.Serial ∧ x.Serial ≤ IntKind.max .u64
theorem E_api_ID.len (x : E_api_ID) : x.cells.length = 2 := rfl

structure E_law16_Step where
  What : Int
  M : Int
  A : Int
  Serial : Int
  X_Node : Int
  X_Serial : Int
  Y_Node : Int
  Y_Serial : Int
def E_law16_Step.cells (x : E_law16_Step) : List Value := [.int .i64 x.What, .int .i64 x.M, .int .i64 x.A, .int .u64 x.Serial, .int .i64 x.X_Node, .int .u64 x.X_Serial, .int .i64 x.Y_Node, .int .u64 x.Y_Serial]
structure E_law16_Step.ok (x : E_law16_Step) : Prop where
  What : IntKind.min .i64 ≤ x.What ∧ x.What ≤ IntKind.max .i64
  M : IntKind.min .i64 ≤ x.M ∧ x.M ≤ IntKind.max .i64
  A : IntKind.min .i64 ≤ x.A ∧ x.A ≤ IntKind.max .i64
  Serial : IntKind.min .u64 ≤ x.Serial ∧ x.Serial ≤ IntKind.max .u64
  X_Node : IntKind.min .i64 ≤ x.X_Node ∧ x.X_Node ≤ IntKind.max .i64
  X_Serial : IntKind.min .u64 ≤ x.X_Serial ∧ x.X_Serial ≤ IntKind.max .u64
  Y_Node : IntKind.min .i64 ≤ x.Y_Node ∧ x.Y_Node ≤ IntKind.max .i64
  Y_Serial : IntKind.min .u64 ≤ x.Y_Serial ∧ x.Y_Serial ≤ IntKind.max .u64
theorem E_law16_Step.len (x : E_law16_Step) : x.cells.length = 8 := rfl

structure E_law11_Step where
  What : Int
  Rank : Int
  Serial : Int
  X_Node : Int
  X_Serial : Int
  Near : Bool
def E_law11_Step.cells (x : E_law11_Step) : List Value := [.int .i64 x.What, .int .i64 x.Rank, .int .u64 x.Serial, .int .i64 x.X_Node, .int .u64 x.X_Serial, .bool x.Near]
structure E_law11_Step.ok (x : E_law11_Step) : Prop where
  What : IntKind.min .i64 ≤ x.What ∧ x.What ≤ IntKind.max .i64
  Rank : IntKind.min .i64 ≤ x.Rank ∧ x.Rank ≤ IntKind.max .i64
  Serial : IntKind.min .u64 ≤ x.Serial ∧ x.Serial ≤ IntKind.max .u64
  X_Node : IntKind.min .i64 ≤ x.X_Node ∧ x.X_Node ≤ IntKind.max .i64
  X_Serial : IntKind.min .u64 ≤ x.X_Serial ∧ x.X_Serial ≤ IntKind.max .u64
theorem E_law11_Step.len (x : E_law11_Step) : x.cells.length = 6 := rfl

structure E_law14_Way where
  Serial : Int
  Rank : Int
  Out_Node : Int
  Out_Serial : Int
  Scan : Bool
def E_law14_Way.cells (x : E_law14_Way) : List Value := [.int .u64 x.Serial, .int .i64 x.Rank, .int .i64 x.Out_Node, .int .u64 x.Out_Serial, .bool x.Scan]
structure E_law14_Way.ok (x : E_law14_Way) : Prop where
  Serial : IntKind.min .u64 ≤ x.Serial ∧ x.Serial ≤ IntKind.max .u64
  Rank : IntKind.min .i64 ≤ x.Rank ∧ x.Rank ≤ IntKind.max .i64
  Out_Node : IntKind.min .i64 ≤ x.Out_Node ∧ x.Out_Node ≤ IntKind.max .i64
  Out_Serial : IntKind.min .u64 ≤ x.Out_Serial ∧ x.Out_Serial ≤ IntKind.max .u64
theorem E_law14_Way.len (x : E_law14_Way) : x.cells.length = 5 := rfl

structure E_law16_Move where
  What : Int
  M : Int
  A : Int
  B : Int
  F : Int
def E_law16_Move.cells (x : E_law16_Move) : List Value := [.int .i64 x.What, .int .i64 x.M, .int .i64 x.A, .int .i64 x.B, .int .i64 x.F]
structure E_law16_Move.ok (x : E_law16_Move) : Prop where
  What : IntKind.min .i64 ≤ x.What ∧ x.What ≤ IntKind.max .i64
  M : IntKind.min .i64 ≤ x.M ∧ x.M ≤ IntKind.max .i64
  A : IntKind.min .i64 ≤ x.A ∧ x.A ≤ IntKind.max .i64
  B : IntKind.min .i64 ≤ x.B ∧ x.B ≤ IntKind.max .i64
  F : IntKind.min .i64 ≤ x.F ∧ x.F ≤ IntKind.max .i64
theorem E_law16_Move.len (x : E_law16_Move) : x.cells.length = 5 := rfl

end Go.Proofs.YtojcacejgbnfkaaGreat
