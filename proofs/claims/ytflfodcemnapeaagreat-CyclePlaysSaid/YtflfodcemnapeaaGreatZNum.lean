/- Merged by merge.py: DenN, DenT, Ety. No condition. -/
import Derived.Test.YtflfodcemnapeaaGreatZSh
import Derived.Test.YtflfodcemnapeaaGreatProg
import Derived.KernelRfl
import Derived.Test.YtflfodcemnapeaaGreatZBase

namespace Go.Proofs.YtflfodcemnapeaaGreat
open Go
noncomputable abbrev PR : Program := Tryz.prog
theorem PR_mixed : PR.follows .mixedOrders = true := by kernel_rfl
abbrev f_law16_CyclePlays : Nat := 3
abbrev f_hand_Graph_Heaps : Nat := 4
abbrev f_law16_known : Nat := 5
abbrev f_hand_Pick : Nat := 6
abbrev f_cycle_New : Nat := 7
abbrev f_ref16_New : Nat := 8
abbrev f_law16_id : Nat := 9
abbrev f_cycle_Cycle_Shake : Nat := 10
abbrev f_ref16_Cycle_Shake : Nat := 11
abbrev f_heap_Heap_SetRef : Nat := 12
abbrev f_ref8_Heap_SetRef : Nat := 13
abbrev f_cycle_Cycle_Store : Nat := 14
abbrev f_ref16_Cycle_Store : Nat := 15
abbrev f_heap_Heap_Make : Nat := 16
abbrev f_ref8_Heap_Make : Nat := 17
abbrev f_cycle_Cycle_Born : Nat := 18
abbrev f_ref16_Cycle_Born : Nat := 19
abbrev f_cycle_Cycle_Touch : Nat := 20
abbrev f_ref16_Cycle_Touch : Nat := 21
abbrev f_heap_Heap_SetIn : Nat := 22
abbrev f_ref8_Heap_SetIn : Nat := 23
abbrev f_cycle_Cycle_Step : Nat := 24
abbrev f_ref16_Cycle_Step : Nat := 25
abbrev f_ref2_Numbers : Nat := 26
abbrev f_law16_same : Nat := 27
abbrev f_hand_Graph_Size : Nat := 28
abbrev f_heap_New : Nat := 29
abbrev f_ref8_New : Nat := 30
abbrev f_hand_Graph_Target : Nat := 31
abbrev f_hand_Graph_Dist : Nat := 32
abbrev f_cycle_Cycle_State : Nat := 33
abbrev f_heap_Heap_Len : Nat := 34
abbrev f_shake_New : Nat := 35
abbrev f_paint_New : Nat := 36
abbrev f_heap_Heap_Node : Nat := 37
abbrev f_mark_New : Nat := 38
abbrev f_reach_New : Nat := 39
abbrev f_sweep_New : Nat := 40
abbrev f_ref11_NewPaint : Nat := 41
abbrev f_ref11_NewShake : Nat := 42
abbrev f_shake_Shake_Answer : Nat := 43
abbrev f_paint_Paint_Shade : Nat := 44
abbrev f_ref11_Shake_Answer : Nat := 45
abbrev f_ref11_Paint_Shade : Nat := 46
abbrev f_heap_right : Nat := 47
abbrev f_heap_Heap_Ref : Nat := 48
abbrev f_ref2_ID : Nat := 49
abbrev f_ref8_Heap_Ref : Nat := 50
abbrev f_ref8_Heap_Get : Nat := 51
abbrev f_cycle_Cycle_open : Nat := 52
abbrev f_shake_Shake_IsArmed : Nat := 53
abbrev f_shake_Shake_HasScanned : Nat := 54
abbrev f_ref16_Cycle_on : Nat := 55
abbrev f_ref11_Is : Nat := 56
abbrev f_heap_fields : Nat := 57
abbrev f_arena_Arena_Alloc : Nat := 58
abbrev f_ref7_Arena_Alloc : Nat := 59
abbrev f_paint_Paint_Blacken : Nat := 60
abbrev f_ref16_Cycle_State : Nat := 61
abbrev f_ref11_Paint_Blacken : Nat := 62
abbrev f_paint_Paint_Turn : Nat := 63
abbrev f_shake_Shake_Begin : Nat := 64
abbrev f_shake_Shake_Phase : Nat := 65
abbrev f_mark_Marker_Begin : Nat := 66
abbrev f_cycle_Cycle_marks : Nat := 67
abbrev f_cycle_Cycle_reaches : Nat := 68
abbrev f_sweep_Sweeper_Step : Nat := 69
abbrev f_shake_Shake_End : Nat := 70
abbrev f_ref16_Cycle_unit : Nat := 71
abbrev f_cycle_Cycle_Turns : Nat := 72
abbrev f_hand_Outs : Nat := 73
abbrev f_cycle_Cycle_Outs : Nat := 74
abbrev f_ref11_Paint_Outs : Nat := 75
abbrev f_cycle_Cycle_Mark : Nat := 76
abbrev f_ref11_Paint_Mark : Nat := 77
abbrev f_cycle_Cycle_Doomed : Nat := 78
abbrev f_ref16_Cycle_Doomed : Nat := 79
abbrev f_cycle_Cycle_Summary : Nat := 80
abbrev f_hand_Rows : Nat := 81
abbrev f_arena_New : Nat := 82
abbrev f_ref7_New : Nat := 83
abbrev f_grey_New_uint64 : Nat := 84
abbrev f_sweep_Sweeper_Begin : Nat := 85
abbrev f_shake_Shake_arms : Nat := 86
abbrev f_shake_Shake_scans : Nat := 87
abbrev f_paint_Paint_there : Nat := 88
abbrev f_grey_Stack_uint64_Push : Nat := 89
abbrev f_ref11_all : Nat := 90
abbrev f_ref2_None : Nat := 91
abbrev f_ref4_OutTable_Get : Nat := 92
abbrev f_api_Key : Nat := 93
abbrev f_ref4_OutTable_Put : Nat := 94
abbrev f_ref11_Paint_find : Nat := 95
abbrev f_ref4_WordStack_Push : Nat := 96
abbrev f_heap_in : Nat := 97
abbrev f_arena_Class : Nat := 98
abbrev f_arena_full : Nat := 99
abbrev f_arena_Arena_take : Nat := 100
abbrev f_ref7_Class : Nat := 101
abbrev f_grey_Stack_uint64_Clear : Nat := 102
abbrev f_mark_Marker_Step : Nat := 103
abbrev f_reach_Reacher_Begin : Nat := 104
abbrev f_reach_Reacher_Step : Nat := 105
abbrev f_reach_Reacher_Rows : Nat := 106
abbrev f_paint_Paint_Outs : Nat := 107
abbrev f_heap_Heap_Last : Nat := 108
abbrev f_heap_Heap_Next : Nat := 109
abbrev f_sweep_Sweeper_free : Nat := 110
abbrev f_paint_Paint_Mark : Nat := 111
abbrev f_sweep_Sweeper_keep : Nat := 112
abbrev f_ref11_Paint_Turn : Nat := 113
abbrev f_ref11_Shake_Begin : Nat := 114
abbrev f_ref11_Marker_Begin : Nat := 115
abbrev f_ref16_Cycle_marking : Nat := 116
abbrev f_ref11_Marker_Step : Nat := 117
abbrev f_ref11_Reacher_Step : Nat := 118
abbrev f_ref16_Cycle_summary : Nat := 119
abbrev f_ref11_Sweeper_Step : Nat := 120
abbrev f_ref11_Shake_End : Nat := 121
abbrev f_paint_Paint_Turns : Nat := 122
abbrev f_heap_Heap_Object : Nat := 123
abbrev f_ref11_Sweeper_Will : Nat := 124
abbrev f_ref2_IDs : Nat := 125
abbrev f_shake_all : Nat := 126
abbrev f_ref4_OutTable_place : Nat := 127
abbrev f_paint_Paint_Pop : Nat := 128
abbrev f_paint_Paint_Scan : Nat := 129
abbrev f_paint_Paint_Over : Nat := 130
abbrev f_paint_Paint_Rest : Nat := 131
abbrev f_reach_Reacher_follow : Nat := 132
abbrev f_reach_Reacher_end : Nat := 133
abbrev f_reach_Reacher_own : Nat := 134
abbrev f_slices_SortFunc_Sapi_Out_api_Out : Nat := 135
abbrev f_paint_Paint_Outs_1 : Nat := 136
abbrev f_heap_Heap_Free : Nat := 137
abbrev f_paint_Paint_Forget : Nat := 138
abbrev f_ref11_Reacher_Begin : Nat := 139
abbrev f_ref4_WordStack_Pop : Nat := 140
abbrev f_ref11_Paint_Scan : Nat := 141
abbrev f_ref8_Heap_Next : Nat := 142
abbrev f_ref11_Reacher_look : Nat := 143
abbrev f_ref11_Reacher_isSuspect : Nat := 144
abbrev f_ref11_Reacher_end : Nat := 145
abbrev f_ref11_Reacher_put : Nat := 146
abbrev f_ref11_Sweeper_Begin : Nat := 147
abbrev f_ref8_Heap_Free : Nat := 148
abbrev f_ref11_Paint_Forget : Nat := 149
abbrev f_grey_Stack_uint64_Pop : Nat := 150
abbrev f_grey_Stack_uint64_Over : Nat := 151
abbrev f_grey_Stack_uint64_Rest : Nat := 152
abbrev f_reach_Reacher_follow_1 : Nat := 153
abbrev f_paint_Paint_Met : Nat := 154
abbrev f_reach_rising : Nat := 155
abbrev f_arena_Arena_Free : Nat := 158
abbrev f_ref11_Paint_Met : Nat := 159
abbrev f_ref4_IDTable_Put : Nat := 160
abbrev f_ref7_Arena_Free : Nat := 161
abbrev f_slices_SortFunc_Sapi_ID_api_ID : Nat := 162
abbrev f_reach_rising_1 : Nat := 163
abbrev f_arena_Arena_place : Nat := 174
abbrev f_ref4_IDTable_place : Nat := 175
abbrev f_ref7_Arena_At : Nat := 176
abbrev ty_ : Nat := 0
abbrev ty_16_bool : Nat := 194
abbrev ty_SSint : Nat := 22
abbrev ty_S_16_bool : Nat := 191
abbrev ty_Sapi_ID : Nat := 50
abbrev ty_Sapi_Out : Nat := 82
abbrev ty_Sapi_Reach : Nat := 81
abbrev ty_Sbool : Nat := 23
abbrev ty_Sint : Nat := 24
abbrev ty_Smooringref11_mark : Nat := 139
abbrev ty_Spapi_Object : Nat := 46
abbrev ty_Suint16 : Nat := 186
abbrev ty_Suint64 : Nat := 60
abbrev ty_api_ID : Nat := 42
abbrev ty_api_Object : Nat := 121
abbrev ty_api_Out : Nat := 176
abbrev ty_api_Reach : Nat := 202
abbrev ty_arena_Arena : Nat := 188
abbrev ty_bool : Nat := 4
abbrev ty_cycle_Cycle : Nat := 86
abbrev ty_cycle_Summary : Nat := 84
abbrev ty_grey_Stack_uint64 : Nat := 205
abbrev ty_hand_Graph : Nat := 26
abbrev ty_heap_Heap : Nat := 119
abbrev ty_heap_thing : Nat := 114
abbrev ty_int : Nat := 3
abbrev ty_law16_Step : Nat := 44
abbrev ty_map_api_ID_int : Nat := 160
abbrev ty_map_uint64_int : Nat := 210
abbrev ty_map_uint64_paint_mark : Nat := 159
abbrev ty_map_uint64_pheap_thing : Nat := 117
abbrev ty_mark_Marker : Nat := 164
abbrev ty_paint_Paint : Nat := 162
abbrev ty_paint_mark : Nat := 172
abbrev ty_papi_Object : Nat := 122
abbrev ty_pheap_thing : Nat := 115
abbrev ty_preach_row : Nat := 165
abbrev ty_reach_Reacher : Nat := 167
abbrev ty_reach_row : Nat := 212
abbrev ty_ref11_Marker : Nat := 103
abbrev ty_ref11_Paint : Nat := 143
abbrev ty_ref11_Reacher : Nat := 107
abbrev ty_ref11_Shake : Nat := 127
abbrev ty_ref11_Sweeper : Nat := 109
abbrev ty_ref11_mark : Nat := 184
abbrev ty_ref16_Cycle : Nat := 101
abbrev ty_ref7_Arena : Nat := 193
abbrev ty_ref8_Heap : Nat := 48
abbrev ty_shake_Shake : Nat := 155
abbrev ty_sweep_Sweeper : Nat := 169
abbrev ty_uint64 : Nat := 40
end Go.Proofs.YtflfodcemnapeaaGreat

namespace Go.Proofs.YtflfodcemnapeaaGreat
open Go
theorem ti_ty_int : (PR.info? 3).map (fun i => (i.zero, i.size, i.bytes)) = some (some (.int .i64 0), 1, 8) := by kernel_rfl
theorem ti_ty_bool : (PR.info? 4).map (fun i => (i.zero, i.size, i.bytes)) = some (some (.bool false), 1, 1) := by kernel_rfl
theorem ti_ty_uint64 : (PR.info? 40).map (fun i => (i.zero, i.size, i.bytes)) = some (some (.int .u64 0), 1, 8) := by kernel_rfl
theorem ti_ty_api_ID : (PR.info? 42).map (fun i => (i.zero, i.size, i.bytes)) = some (some (.agg #[(.int .i64 0), (.int .u64 0)]), 2, 16) := by kernel_rfl
theorem ti_ty_papi_Object : (PR.info? 122).map (fun i => (i.zero, i.size, i.bytes)) = some (some (.pointer none), 1, 8) := by kernel_rfl
theorem ti_ty_api_Out : (PR.info? 176).map (fun i => (i.zero, i.size, i.bytes)) = some (some (.agg #[(.int .i64 0), (.int .u64 0), (.int .i64 0)]), 3, 24) := by kernel_rfl
theorem ti_ty_ref11_mark : (PR.info? 184).map (fun i => (i.zero, i.size, i.bytes)) = some (some (.agg #[(.int .u64 0), (.int .i64 0), (.bool false)]), 3, 24) := by kernel_rfl
theorem ti_ty_uint16 : (PR.info? 189).map (fun i => (i.zero, i.size, i.bytes)) = some (some (.int .u16 0), 1, 2) := by kernel_rfl
theorem ti_ty_16_bool : (PR.info? 194).map (fun i => (i.zero, i.size, i.bytes)) = some (some (.agg #[(.bool false), (.bool false), (.bool false), (.bool false), (.bool false), (.bool false), (.bool false), (.bool false), (.bool false), (.bool false), (.bool false), (.bool false), (.bool false), (.bool false), (.bool false), (.bool false)]), 16, 16) := by kernel_rfl
theorem ti_ty_api_Reach : (PR.info? 202).map (fun i => (i.zero, i.size, i.bytes)) = some (some (.agg #[(.int .u64 0), (.slice none 0 0)]), 2, 32) := by kernel_rfl
theorem tu_ty_S_16_bool : PR.underlying ty_S_16_bool = some (.slice 194) := by kernel_rfl
theorem mk_ty_S_16_bool {n : Int} {H : Hp} {K : Value → Hp → Prop} (h0 : 0 ≤ n) (h1 : n * 16 ≤ 2 ^ 47) (h2 : n < 2 ^ 62)
  (hK : ∀ b cs, H b = none → cs.size = n.toNat * 16 → (∀ i, i < n.toNat * 16 → cs[i]? = ((.agg #[(.bool false), (.bool false), (.bool false), (.bool false), (.bool false), (.bool false), (.bool false), (.bool false), (.bool false), (.bool false), (.bool false), (.bool false), (.bool false), (.bool false), (.bool false), (.bool false)]) : Value).cells[i % 16]?) → K (.slice (some ⟨b, 0, none⟩) n.toNat n.toNat) (upd H b (.cells cs 194 (0, 0)))) :
  evW PR (Instr.makeSlice ty_S_16_bool (.int .i64 n) (.int .i64 n)) H K :=
 make_at (z := (.agg #[(.bool false), (.bool false), (.bool false), (.bool false), (.bool false), (.bool false), (.bool false), (.bool false), (.bool false), (.bool false), (.bool false), (.bool false), (.bool false), (.bool false), (.bool false), (.bool false)])) tu_ty_S_16_bool ti_ty_16_bool h0 h1 h2 rfl (by decide) hK
theorem tu_ty_Sapi_ID : PR.underlying ty_Sapi_ID = some (.slice 42) := by kernel_rfl
theorem lit_ty_Sapi_ID {ty m : Nat} {e0 : TypeId} {p : Option Addr} {n cap : Nat} {xs : List Value} {c : Array Value} {H : Hp} {K : Value → Hp → Prop} (h : Own H 2 p n cap xs) (hs : c.size = m * 2) (hone : ∀ y ∈ c.toList, one y = true) (hroom : (2 * (n + m) + 512) * 16 ≤ 2 ^ 48)
  (hK : ∀ p' cap' H', Own H' 2 p' (n + m) cap' (xs ++ c.toList) → Goes (blk p) H (blk p') H' → K (.slice p' (n + m) cap') H') :
  newB (.cells c e0) H fun b H1 => evW PR (Builtin.append_ #[ty_Sapi_ID, ty_Sapi_ID] ty #[.slice p n cap, .slice (some ⟨b, 0, none⟩) m m]) H1 K :=
 app_lit (z := (.agg #[(.int .i64 0), (.int .u64 0)])) tu_ty_Sapi_ID tu_ty_Sapi_ID ti_ty_api_ID rfl (by decide) h hs hone hroom hK
theorem tu_ty_Sapi_Out : PR.underlying ty_Sapi_Out = some (.slice 176) := by kernel_rfl
theorem lit_ty_Sapi_Out {ty m : Nat} {e0 : TypeId} {p : Option Addr} {n cap : Nat} {xs : List Value} {c : Array Value} {H : Hp} {K : Value → Hp → Prop} (h : Own H 3 p n cap xs) (hs : c.size = m * 3) (hone : ∀ y ∈ c.toList, one y = true) (hroom : (2 * (n + m) + 512) * 24 ≤ 2 ^ 48)
  (hK : ∀ p' cap' H', Own H' 3 p' (n + m) cap' (xs ++ c.toList) → Goes (blk p) H (blk p') H' → K (.slice p' (n + m) cap') H') :
  newB (.cells c e0) H fun b H1 => evW PR (Builtin.append_ #[ty_Sapi_Out, ty_Sapi_Out] ty #[.slice p n cap, .slice (some ⟨b, 0, none⟩) m m]) H1 K :=
 app_lit (z := (.agg #[(.int .i64 0), (.int .u64 0), (.int .i64 0)])) tu_ty_Sapi_Out tu_ty_Sapi_Out ti_ty_api_Out rfl (by decide) h hs hone hroom hK
theorem tu_ty_Sapi_Reach : PR.underlying ty_Sapi_Reach = some (.slice 202) := by kernel_rfl
theorem lit_ty_Sapi_Reach {ty m : Nat} {e0 : TypeId} {p : Option Addr} {n cap : Nat} {xs : List Value} {c : Array Value} {H : Hp} {K : Value → Hp → Prop} (h : Own H 2 p n cap xs) (hs : c.size = m * 2) (hone : ∀ y ∈ c.toList, one y = true) (hroom : (2 * (n + m) + 512) * 32 ≤ 2 ^ 48)
  (hK : ∀ p' cap' H', Own H' 2 p' (n + m) cap' (xs ++ c.toList) → Goes (blk p) H (blk p') H' → K (.slice p' (n + m) cap') H') :
  newB (.cells c e0) H fun b H1 => evW PR (Builtin.append_ #[ty_Sapi_Reach, ty_Sapi_Reach] ty #[.slice p n cap, .slice (some ⟨b, 0, none⟩) m m]) H1 K :=
 app_lit (z := (.agg #[(.int .u64 0), (.slice none 0 0)])) tu_ty_Sapi_Reach tu_ty_Sapi_Reach ti_ty_api_Reach rfl (by decide) h hs hone hroom hK
theorem tu_ty_Sbool : PR.underlying ty_Sbool = some (.slice 4) := by kernel_rfl
theorem mko_ty_Sbool {n : Int} {H : Hp} {K : Value → Hp → Prop} (h0 : 0 ≤ n) (h1 : n * 1 ≤ 2 ^ 47) (h2 : n < 2 ^ 62)
  (hK : ∀ p H', Own H' 1 p n.toNat n.toNat (List.replicate n.toNat (.bool false)) → Goes Nothing H (blk p) H' → K (.slice p n.toNat n.toNat) H') : evW PR (Instr.makeSlice ty_Sbool (.int .i64 n) (.int .i64 n)) H K :=
 make_own (z := (.bool false)) tu_ty_Sbool ti_ty_bool rfl h0 h1 h2 hK
theorem clr_ty_Sbool {ty n cap : Nat} {p : Option Addr} {xs : List Value} {H : Hp} {K : Value → Hp → Prop} (ho : Own H 1 p n cap xs)
  (hK : ∀ H', Own H' 1 p n cap (List.replicate n (.bool false)) → Goes (blk p) H (blk p) H' → K (.tuple #[]) H') : evW PR (Builtin.clear_ #[ty_Sbool] ty #[.slice p n cap]) H K :=
 clear_own (z := (.bool false)) tu_ty_Sbool ti_ty_bool rfl rfl ho hK
theorem tu_ty_Sint : PR.underlying ty_Sint = some (.slice 3) := by kernel_rfl
theorem mko_ty_Sint {n : Int} {H : Hp} {K : Value → Hp → Prop} (h0 : 0 ≤ n) (h1 : n * 8 ≤ 2 ^ 47) (h2 : n < 2 ^ 62)
  (hK : ∀ p H', Own H' 1 p n.toNat n.toNat (List.replicate n.toNat (.int .i64 0)) → Goes Nothing H (blk p) H' → K (.slice p n.toNat n.toNat) H') : evW PR (Instr.makeSlice ty_Sint (.int .i64 n) (.int .i64 n)) H K :=
 make_own (z := (.int .i64 0)) tu_ty_Sint ti_ty_int rfl h0 h1 h2 hK
theorem tu_ty_Smooringref11_mark : PR.underlying ty_Smooringref11_mark = some (.slice 184) := by kernel_rfl
theorem lit_ty_Smooringref11_mark {ty m : Nat} {e0 : TypeId} {p : Option Addr} {n cap : Nat} {xs : List Value} {c : Array Value} {H : Hp} {K : Value → Hp → Prop} (h : Own H 3 p n cap xs) (hs : c.size = m * 3) (hone : ∀ y ∈ c.toList, one y = true) (hroom : (2 * (n + m) + 512) * 24 ≤ 2 ^ 48)
  (hK : ∀ p' cap' H', Own H' 3 p' (n + m) cap' (xs ++ c.toList) → Goes (blk p) H (blk p') H' → K (.slice p' (n + m) cap') H') :
  newB (.cells c e0) H fun b H1 => evW PR (Builtin.append_ #[ty_Smooringref11_mark, ty_Smooringref11_mark] ty #[.slice p n cap, .slice (some ⟨b, 0, none⟩) m m]) H1 K :=
 app_lit (z := (.agg #[(.int .u64 0), (.int .i64 0), (.bool false)])) tu_ty_Smooringref11_mark tu_ty_Smooringref11_mark ti_ty_ref11_mark rfl (by decide) h hs hone hroom hK
theorem tu_ty_Spapi_Object : PR.underlying ty_Spapi_Object = some (.slice 122) := by kernel_rfl
theorem tu_ty_Suint16 : PR.underlying ty_Suint16 = some (.slice 189) := by kernel_rfl
theorem mko_ty_Suint16 {n : Int} {H : Hp} {K : Value → Hp → Prop} (h0 : 0 ≤ n) (h1 : n * 2 ≤ 2 ^ 47) (h2 : n < 2 ^ 62)
  (hK : ∀ p H', Own H' 1 p n.toNat n.toNat (List.replicate n.toNat (.int .u16 0)) → Goes Nothing H (blk p) H' → K (.slice p n.toNat n.toNat) H') : evW PR (Instr.makeSlice ty_Suint16 (.int .i64 n) (.int .i64 n)) H K :=
 make_own (z := (.int .u16 0)) tu_ty_Suint16 ti_ty_uint16 rfl h0 h1 h2 hK
theorem tu_ty_Suint64 : PR.underlying ty_Suint64 = some (.slice 40) := by kernel_rfl
theorem lit_ty_Suint64 {ty m : Nat} {e0 : TypeId} {p : Option Addr} {n cap : Nat} {xs : List Value} {c : Array Value} {H : Hp} {K : Value → Hp → Prop} (h : Own H 1 p n cap xs) (hs : c.size = m * 1) (hone : ∀ y ∈ c.toList, one y = true) (hroom : (2 * (n + m) + 512) * 8 ≤ 2 ^ 48)
  (hK : ∀ p' cap' H', Own H' 1 p' (n + m) cap' (xs ++ c.toList) → Goes (blk p) H (blk p') H' → K (.slice p' (n + m) cap') H') :
  newB (.cells c e0) H fun b H1 => evW PR (Builtin.append_ #[ty_Suint64, ty_Suint64] ty #[.slice p n cap, .slice (some ⟨b, 0, none⟩) m m]) H1 K :=
 app_lit (z := (.int .u64 0)) tu_ty_Suint64 tu_ty_Suint64 ti_ty_uint64 rfl (by decide) h hs hone hroom hK
theorem mko_ty_Suint64 {n : Int} {H : Hp} {K : Value → Hp → Prop} (h0 : 0 ≤ n) (h1 : n * 8 ≤ 2 ^ 47) (h2 : n < 2 ^ 62)
  (hK : ∀ p H', Own H' 1 p n.toNat n.toNat (List.replicate n.toNat (.int .u64 0)) → Goes Nothing H (blk p) H' → K (.slice p n.toNat n.toNat) H') : evW PR (Instr.makeSlice ty_Suint64 (.int .i64 n) (.int .i64 n)) H K :=
 make_own (z := (.int .u64 0)) tu_ty_Suint64 ti_ty_uint64 rfl h0 h1 h2 hK
end Go.Proofs.YtflfodcemnapeaaGreat

namespace Go.Proofs.YtflfodcemnapeaaGreat
open Go
structure E_law16_Step where
 What : Int
 M : Int
 A : Int
 Serial : Int
 X_Node : Int
 X_Serial : Int
 Y_Node : Int
 Y_Serial : Int
def E_law16_Step.cells (x : E_law16_Step) : List Value := [.int .i64 x.What, .int .i64 x.M, .int .i64 x.A, .int .u64 x.Serial, .int .i64 x.X_Node, .int .u64 x.X_Serial, .int .i64 x.Y_Node, .int .u64 x.Y_Serial]
structure E_law16_Step.ok (x : E_law16_Step) : Prop where
 What : IntKind.min .i64 ≤ x.What ∧ x.What ≤ IntKind.max .i64
 M : IntKind.min .i64 ≤ x.M ∧ x.M ≤ IntKind.max .i64
 A : IntKind.min .i64 ≤ x.A ∧ x.A ≤ IntKind.max .i64
 Serial : IntKind.min .u64 ≤ x.Serial ∧ x.Serial ≤ IntKind.max .u64
 X_Node : IntKind.min .i64 ≤ x.X_Node ∧ x.X_Node ≤ IntKind.max .i64
 X_Serial : IntKind.min .u64 ≤ x.X_Serial ∧ x.X_Serial ≤ IntKind.max .u64
 Y_Node : IntKind.min .i64 ≤ x.Y_Node ∧ x.Y_Node ≤ IntKind.max .i64
 Y_Serial : IntKind.min .u64 ≤ x.Y_Serial ∧ x.Y_Serial ≤ IntKind.max .u64
theorem E_law16_Step.len (x : E_law16_Step) : x.cells.length = 8 := rfl

end Go.Proofs.YtflfodcemnapeaaGreat
