/- Merged by merge.py: DenN, DenT, Ety. No condition. -/
import Derived.Test.YtohlnmenghbgbaaZSh
import Derived.Test.YtohlnmenghbgbaaProg
import Derived.KernelRfl
import Derived.Test.YtohlnmenghbgbaaZBase

/- PRINTED by gen.py: the numbers of functions and types. No condition. -/
namespace Go.Proofs.Ytohlnmenghbgbaa
open Go
noncomputable abbrev PR : Program := Try.prog
theorem PR_mixed : PR.follows .mixedOrders = true := by kernel_rfl
abbrev f_main_main : Nat := 0
abbrev f_gosem_cut : Nat := 1
abbrev f_gosem_cut_init : Nat := 2
abbrev f_law8_HeapKnown : Nat := 3
abbrev f_law8_HeapOwn : Nat := 4
abbrev f_law8_HeapApart : Nat := 5
abbrev f_law8_HeapEnds : Nat := 6
abbrev f_law8_HeapOnce : Nat := 7
abbrev f_law8_HeapPlays : Nat := 8
abbrev f_law8_HeapSmall : Nat := 9
abbrev f_law11_PaintTight : Nat := 10
abbrev f_law15_SweepKnown : Nat := 11
abbrev f_law15_SweepJust : Nat := 12
abbrev f_law15_SweepPlays : Nat := 13
abbrev f_law13_MarkKnown : Nat := 14
abbrev f_law13_MarkEnds : Nat := 15
abbrev f_law11_PaintKnown : Nat := 16
abbrev f_law11_PaintFalls : Nat := 17
abbrev f_law11_PaintTurns : Nat := 18
abbrev f_law13_MarkLeast : Nat := 19
abbrev f_law13_MarkSmall : Nat := 20
abbrev f_law13_MarkPlays : Nat := 21
abbrev f_law14_ReachKnown : Nat := 22
abbrev f_law14_ReachRows : Nat := 23
abbrev f_law14_ReachEnds : Nat := 24
abbrev f_law14_ReachAgain : Nat := 25
abbrev f_heap_New : Nat := 26
abbrev f_law8_known : Nat := 27
abbrev f_heap_Heap_Make : Nat := 28
abbrev f_heap_Heap_Ref : Nat := 29
abbrev f_heap_Heap_Len : Nat := 30
abbrev f_heap_Heap_Last : Nat := 31
abbrev f_heap_Heap_Node : Nat := 32
abbrev f_heap_Heap_Used : Nat := 33
abbrev f_hand_Pick : Nat := 34
abbrev f_heap_Heap_SetVal : Nat := 35
abbrev f_heap_Heap_Object : Nat := 36
abbrev f_heap_Heap_SetRef : Nat := 37
abbrev f_heap_Heap_Free : Nat := 38
abbrev f_heap_Heap_Next : Nat := 39
abbrev f_ref8_New : Nat := 40
abbrev f_law8_fill : Nat := 41
abbrev f_law8_whole : Nat := 42
abbrev f_hand_Graph_Heaps : Nat := 43
abbrev f_law11_known : Nat := 44
abbrev f_paint_New : Nat := 45
abbrev f_paint_Paint_Shade : Nat := 46
abbrev f_paint_Paint_Scan : Nat := 47
abbrev f_paint_Paint_Mark : Nat := 48
abbrev f_hand_Graph_Target : Nat := 49
abbrev f_paint_Paint_Met : Nat := 50
abbrev f_law15_known : Nat := 51
abbrev f_sweep_New : Nat := 52
abbrev f_sweep_Sweeper_Step : Nat := 53
abbrev f_sweep_Sweeper_Begin : Nat := 54
abbrev f_ref11_NewPaint : Nat := 55
abbrev f_ref11_Paint_Shade : Nat := 56
abbrev f_ref11_Sweeper_Begin : Nat := 57
abbrev f_ref8_Heap_Make : Nat := 58
abbrev f_ref8_Heap_Free : Nat := 59
abbrev f_ref11_Sweeper_Step : Nat := 60
abbrev f_law13_known : Nat := 61
abbrev f_mark_New : Nat := 62
abbrev f_mark_Marker_Step : Nat := 63
abbrev f_law13_all : Nat := 64
abbrev f_paint_Paint_Outs : Nat := 65
abbrev f_paint_Paint_Turns : Nat := 66
abbrev f_paint_Paint_Turn : Nat := 67
abbrev f_paint_Paint_Waiting : Nat := 68
abbrev f_paint_Paint_Over : Nat := 69
abbrev f_hand_Graph_Ranks : Nat := 70
abbrev f_hand_Outs : Nat := 71
abbrev f_ref8_Heap_SetRef : Nat := 72
abbrev f_heap_Heap_SetIn : Nat := 73
abbrev f_ref8_Heap_SetIn : Nat := 74
abbrev f_mark_Marker_Begin : Nat := 75
abbrev f_ref11_Marker_Begin : Nat := 76
abbrev f_ref11_Marker_Step : Nat := 77
abbrev f_ref11_Paint_Mark : Nat := 78
abbrev f_ref11_Paint_Outs : Nat := 79
abbrev f_law14_known : Nat := 80
abbrev f_reach_New : Nat := 81
abbrev f_reach_Reacher_Step : Nat := 82
abbrev f_reach_Reacher_Rows : Nat := 83
abbrev f_law14_painted : Nat := 84
abbrev f_reach_Reacher_Begin : Nat := 85
abbrev f_hand_Graph_Dist : Nat := 86
abbrev f_ref2_IDs : Nat := 87
abbrev f_law14_leads : Nat := 88
abbrev f_hand_Rows : Nat := 89
abbrev f_arena_New : Nat := 90
abbrev f_heap_fields : Nat := 91
abbrev f_arena_Arena_Alloc : Nat := 92
abbrev f_heap_in : Nat := 93
abbrev f_arena_Arena_Used : Nat := 94
abbrev f_heap_Heap_Val : Nat := 95
abbrev f_heap_right : Nat := 96
abbrev f_arena_Arena_Free : Nat := 97
abbrev f_ref7_New : Nat := 98
abbrev f_ref8_Heap_SetVal : Nat := 99
abbrev f_ref8_Heap_Ref : Nat := 100
abbrev f_ref8_Heap_Val : Nat := 101
abbrev f_ref8_Heap_Next : Nat := 102
abbrev f_ref8_Same : Nat := 103
abbrev f_ref7_Arena_Used : Nat := 104
abbrev f_hand_Graph_Size : Nat := 105
abbrev f_grey_New_uint64 : Nat := 106
abbrev f_paint_Paint_there : Nat := 107
abbrev f_grey_Stack_uint64_Push : Nat := 108
abbrev f_sweep_Sweeper_free : Nat := 109
abbrev f_sweep_Sweeper_keep : Nat := 110
abbrev f_ref2_None : Nat := 111
abbrev f_ref2_ID : Nat := 112
abbrev f_ref4_OutTable_Get : Nat := 113
abbrev f_api_Key : Nat := 114
abbrev f_ref4_OutTable_Put : Nat := 115
abbrev f_ref8_Heap_Get : Nat := 116
abbrev f_ref11_Paint_find : Nat := 117
abbrev f_ref4_WordStack_Push : Nat := 118
abbrev f_ref7_Arena_Alloc : Nat := 119
abbrev f_ref7_Arena_Free : Nat := 120
abbrev f_ref11_Paint_Forget : Nat := 121
abbrev f_paint_Paint_Pop : Nat := 122
abbrev f_paint_Paint_Rest : Nat := 123
abbrev f_slices_SortFunc_Sapi_Out_api_Out : Nat := 124
abbrev f_paint_Paint_Outs_1 : Nat := 125
abbrev f_grey_Stack_uint64_Clear : Nat := 126
abbrev f_grey_Stack_uint64_Len : Nat := 127
abbrev f_grey_Stack_uint64_Over : Nat := 128
abbrev f_ref4_WordStack_Pop : Nat := 129
abbrev f_ref11_Paint_Scan : Nat := 130
abbrev f_reach_Reacher_follow : Nat := 131
abbrev f_reach_Reacher_end : Nat := 132
abbrev f_reach_Reacher_own : Nat := 133
abbrev f_arena_Class : Nat := 134
abbrev f_arena_full : Nat := 135
abbrev f_arena_Arena_take : Nat := 136
abbrev f_arena_bits : Nat := 137
abbrev f_arena_Arena_place : Nat := 138
abbrev f_ref2_Numbers : Nat := 139
abbrev f_paint_Paint_Forget : Nat := 140
abbrev f_ref4_OutTable_place : Nat := 141
abbrev f_ref7_Class : Nat := 142
abbrev f_ref7_Arena_At : Nat := 143
abbrev f_grey_Stack_uint64_Pop : Nat := 144
abbrev f_grey_Stack_uint64_Rest : Nat := 145
abbrev f_slices_pdqsortCmpFunc_api_Out : Nat := 146
abbrev f_math_bits_Len : Nat := 147
abbrev f_reach_Reacher_follow_1 : Nat := 148
abbrev f_reach_rising : Nat := 149
abbrev f_slices_insertionSortCmpFunc_api_Out : Nat := 150
abbrev f_slices_heapSortCmpFunc_api_Out : Nat := 151
abbrev f_slices_breakPatternsCmpFunc_api_Out : Nat := 152
abbrev f_slices_choosePivotCmpFunc_api_Out : Nat := 153
abbrev f_slices_reverseRangeCmpFunc_api_Out : Nat := 154
abbrev f_slices_partialInsertionSortCmpFunc_api_Out : Nat := 155
abbrev f_slices_partitionEqualCmpFunc_api_Out : Nat := 156
abbrev f_slices_partitionCmpFunc_api_Out : Nat := 157
abbrev f_math_bits_Len32 : Nat := 158
abbrev f_math_bits_Len64 : Nat := 159
abbrev f_slices_SortFunc_Sapi_ID_api_ID : Nat := 160
abbrev f_reach_rising_1 : Nat := 161
abbrev f_slices_siftDownCmpFunc_api_Out : Nat := 162
abbrev f_slices_nextPowerOfTwo : Nat := 163
abbrev f_slices_xorshift_Next : Nat := 164
abbrev f_slices_medianAdjacentCmpFunc_api_Out : Nat := 165
abbrev f_slices_medianCmpFunc_api_Out : Nat := 166
abbrev f_slices_pdqsortCmpFunc_api_ID : Nat := 167
abbrev f_slices_order2CmpFunc_api_Out : Nat := 168
abbrev f_slices_insertionSortCmpFunc_api_ID : Nat := 169
abbrev f_slices_heapSortCmpFunc_api_ID : Nat := 170
abbrev f_slices_breakPatternsCmpFunc_api_ID : Nat := 171
abbrev f_slices_choosePivotCmpFunc_api_ID : Nat := 172
abbrev f_slices_reverseRangeCmpFunc_api_ID : Nat := 173
abbrev f_slices_partialInsertionSortCmpFunc_api_ID : Nat := 174
abbrev f_slices_partitionEqualCmpFunc_api_ID : Nat := 175
abbrev f_slices_partitionCmpFunc_api_ID : Nat := 176
abbrev f_slices_siftDownCmpFunc_api_ID : Nat := 177
abbrev f_slices_medianAdjacentCmpFunc_api_ID : Nat := 178
abbrev f_slices_medianCmpFunc_api_ID : Nat := 179
abbrev f_slices_order2CmpFunc_api_ID : Nat := 180
abbrev f_runtime_boundsError_Error : Nat := 181
abbrev f_runtime_boundsError_RuntimeError : Nat := 182
abbrev f_runtime_errorString_Error : Nat := 183
abbrev f_runtime_errorString_RuntimeError : Nat := 184
abbrev f_runtime_plainError_Error : Nat := 185
abbrev f_runtime_plainError_RuntimeError : Nat := 186
abbrev f_runtime_errorAddressString_Error : Nat := 187
abbrev f_runtime_errorAddressString_RuntimeError : Nat := 188
abbrev f_runtime_TypeAssertionError_Error : Nat := 189
abbrev f_runtime_TypeAssertionError_RuntimeError : Nat := 190
abbrev f_runtime_PanicNilError_Error : Nat := 191
abbrev f_runtime_PanicNilError_RuntimeError : Nat := 192
abbrev f_internal_abi_Type_Align : Nat := 193
abbrev f_internal_runtime_maps_unhashableTypeError_Error : Nat := 194
abbrev f_internal_runtime_maps_unhashableTypeError_RuntimeError : Nat := 195
abbrev f_ref11_Paint_Turn : Nat := 196
abbrev f_ref4_OutTable_Drop : Nat := 197
abbrev f_internal_abi_Kind_String : Nat := 198
abbrev ty_ : Nat := 0
abbrev ty_0_pruntime_PanicNilError : Nat := 258
abbrev ty_16_bool : Nat := 216
abbrev ty_2_api_ID : Nat := 51
abbrev ty_2_uint64 : Nat := 52
abbrev ty_3_Sapi_Reach : Nat := 149
abbrev ty_SSint : Nat := 65
abbrev ty_S_16_bool : Nat := 212
abbrev ty_S_2_api_ID : Nat := 46
abbrev ty_S_2_uint64 : Nat := 47
abbrev ty_Sapi_ID : Nat := 38
abbrev ty_Sapi_Out : Nat := 110
abbrev ty_Sapi_Reach : Nat := 136
abbrev ty_Sbool : Nat := 66
abbrev ty_Sint : Nat := 67
abbrev ty_Smooringlaw11_Step : Nat := 70
abbrev ty_Smooringlaw13_Step : Nat := 118
abbrev ty_Smooringlaw14_Way : Nat := 138
abbrev ty_Smooringlaw15_Step : Nat := 95
abbrev ty_Smooringlaw8_Step : Nat := 45
abbrev ty_Smooringref11_mark : Nat := 127
abbrev ty_Spapi_Object : Nat := 74
abbrev ty_Suint16 : Nat := 204
abbrev ty_Suint64 : Nat := 39
abbrev ty_api_Errno : Nat := 23
abbrev ty_api_ID : Nat := 31
abbrev ty_api_ID_api_Errno : Nat := 32
abbrev ty_api_Object : Nat := 41
abbrev ty_api_Object_bool : Nat := 42
abbrev ty_api_Out : Nat := 113
abbrev ty_api_Out_bool : Nat := 182
abbrev ty_api_Reach : Nat := 144
abbrev ty_arena_Arena : Nat := 206
abbrev ty_arena_Arena_api_Errno : Nat := 153
abbrev ty_bool : Nat := 4
abbrev ty_func : Nat := 1
abbrev ty_funcSapi_ID_Sapi_ID_bool : Nat := 145
abbrev ty_funcSapi_ID_funcapi_ID_api_ID_int : Nat := 236
abbrev ty_funcSapi_ID_int_int_funcapi_ID_api_ID_int : Nat := 247
abbrev ty_funcSapi_ID_int_int_funcapi_ID_api_ID_int_bool : Nat := 249
abbrev ty_funcSapi_ID_int_int_funcapi_ID_api_ID_int_int_slices_sortedHint : Nat := 248
abbrev ty_funcSapi_ID_int_int_int_funcapi_ID_api_ID_int : Nat := 243
abbrev ty_funcSapi_ID_int_int_int_funcapi_ID_api_ID_int_int : Nat := 250
abbrev ty_funcSapi_ID_int_int_int_funcapi_ID_api_ID_int_int_bool : Nat := 251
abbrev ty_funcSapi_ID_int_int_int_pint_funcapi_ID_api_ID_int_int : Nat := 253
abbrev ty_funcSapi_ID_int_int_pint_funcapi_ID_api_ID_int_int_int : Nat := 254
abbrev ty_funcSapi_ID_int_pint_funcapi_ID_api_ID_int_int : Nat := 252
abbrev ty_funcSapi_Out_Sapi_Out_bool : Nat := 116
abbrev ty_funcSapi_Out_funcapi_Out_api_Out_int : Nat := 194
abbrev ty_funcSapi_Out_int_int_funcapi_Out_api_Out_int : Nat := 226
abbrev ty_funcSapi_Out_int_int_funcapi_Out_api_Out_int_bool : Nat := 230
abbrev ty_funcSapi_Out_int_int_funcapi_Out_api_Out_int_int_slices_sortedHint : Nat := 229
abbrev ty_funcSapi_Out_int_int_int_funcapi_Out_api_Out_int : Nat := 223
abbrev ty_funcSapi_Out_int_int_int_funcapi_Out_api_Out_int_int : Nat := 231
abbrev ty_funcSapi_Out_int_int_int_funcapi_Out_api_Out_int_int_bool : Nat := 232
abbrev ty_funcSapi_Out_int_int_int_pint_funcapi_Out_api_Out_int_int : Nat := 242
abbrev ty_funcSapi_Out_int_int_pint_funcapi_Out_api_Out_int_int_int : Nat := 246
abbrev ty_funcSapi_Out_int_pint_funcapi_Out_api_Out_int_int : Nat := 240
abbrev ty_funcSapi_Reach_Sapi_Reach_bool : Nat := 150
abbrev ty_funcSuint64_Suint64_bool : Nat := 215
abbrev ty_func_Sapi_Out : Nat := 111
abbrev ty_func_Sapi_Reach : Nat := 137
abbrev ty_func_bool : Nat := 27
abbrev ty_func_int : Nat := 34
abbrev ty_func_string : Nat := 255
abbrev ty_func_uint64 : Nat := 35
abbrev ty_func_uint64_bool : Nat := 93
abbrev ty_funcapi_ID_api_ID_int : Nat := 237
abbrev ty_funcapi_ID_bool : Nat := 165
abbrev ty_funcapi_ID_int : Nat := 80
abbrev ty_funcapi_ID_int_bool : Nat := 88
abbrev ty_funcapi_ID_uint64 : Nat := 184
abbrev ty_funcapi_Object_api_Object_bool : Nat := 168
abbrev ty_funcapi_Out_api_Out_int : Nat := 195
abbrev ty_funcheap_Heap_int_paint_Paint_api_Errno : Nat := 79
abbrev ty_funcheap_Heap_pmooringref8_Heap_Smooringlaw14_Way_paint_Paint_pmooringref11_Paint : Nat := 140
abbrev ty_funcheap_Heap_pmooringref8_Heap_bool : Nat := 62
abbrev ty_funcheap_Heap_pmooringref8_Heap_mooringlaw8_Step_bool : Nat := 61
abbrev ty_funcheap_Heap_ppaint_Paint_mark_Marker_api_Errno : Nat := 107
abbrev ty_funcheap_Heap_ppaint_Paint_reach_Reacher_api_Errno : Nat := 135
abbrev ty_funcheap_Heap_ppaint_Paint_sweep_Sweeper_api_Errno : Nat := 92
abbrev ty_funcint : Nat := 141
abbrev ty_funcint_Sapi_ID_Sint : Nat := 114
abbrev ty_funcint_Smooringlaw8_Step_bool : Nat := 53
abbrev ty_funcint_Suint64_Smooringlaw15_Step_bool : Nat := 104
abbrev ty_funcint_Suint64_int_bool : Nat := 94
abbrev ty_funcint_api_Errno : Nat := 166
abbrev ty_funcint_arena_Arena_api_Errno : Nat := 154
abbrev ty_funcint_bool : Nat := 55
abbrev ty_funcint_grey_Stack_uint64_api_Errno : Nat := 171
abbrev ty_funcint_heap_Heap_pmooringref8_Heap : Nat := 72
abbrev ty_funcint_int : Nat := 142
abbrev ty_funcint_int_Smooringlaw8_Step_bool : Nat := 64
abbrev ty_funcint_int_api_Errno : Nat := 159
abbrev ty_funcint_int_bool : Nat := 163
abbrev ty_funcint_int_int : Nat := 36
abbrev ty_funcint_int_int_api_ID : Nat := 86
abbrev ty_funcint_int_int_bool : Nat := 211
abbrev ty_funcint_int_int_uint64_Smooringlaw8_Step_bool : Nat := 63
abbrev ty_funcint_int_int_uint64_heap_Heap_api_Errno : Nat := 25
abbrev ty_funcint_int_int_uint64_pmooringref8_Heap : Nat := 60
abbrev ty_funcint_int_uint64_api_Errno : Nat := 29
abbrev ty_funcint_int_uint64_bool : Nat := 44
abbrev ty_funcint_pmooringref7_Arena : Nat := 167
abbrev ty_funcint_uint : Nat := 239
abbrev ty_funcint_uint16 : Nat := 208
abbrev ty_funcmap_api_ID_int_Sapi_ID : Nat := 225
abbrev ty_funcmark_Marker_int_int_bool : Nat := 108
abbrev ty_funcmooringhand_Graph_Smooringlaw11_Step_bool : Nat := 89
abbrev ty_funcmooringhand_Graph_Smooringlaw14_Way_bool : Nat := 148
abbrev ty_funcmooringhand_Graph_Smooringlaw14_Way_int_bool : Nat := 147
abbrev ty_funcmooringhand_Graph_Smooringlaw14_Way_int_int_bool : Nat := 151
abbrev ty_funcmooringhand_Graph_int_Sint_bool : Nat := 115
abbrev ty_funcmooringhand_Graph_int_Smooringlaw13_Step_bool : Nat := 132
abbrev ty_funcmooringhand_Graph_int_bool : Nat := 109
abbrev ty_funcmooringhand_Graph_int_int_bool : Nat := 117
abbrev ty_funcmooringhand_Graph_pmooringref11_Paint_int_int_int_Sapi_ID : Nat := 146
abbrev ty_funcmooringref8_Heap_int_pmooringref11_Paint : Nat := 97
abbrev ty_funcuint16_int : Nat := 209
abbrev ty_funcuint32_int : Nat := 233
abbrev ty_funcuint64 : Nat := 191
abbrev ty_funcuint64_Smooringlaw8_Step_bool : Nat := 58
abbrev ty_funcuint64_api_Errno : Nat := 54
abbrev ty_funcuint64_api_Object_bool : Nat := 43
abbrev ty_funcuint64_api_Out_bool : Nat := 183
abbrev ty_funcuint64_bool : Nat := 83
abbrev ty_funcuint64_int : Nat := 235
abbrev ty_funcuint64_int_api_Errno : Nat := 124
abbrev ty_funcuint64_int_api_ID_api_Errno : Nat := 33
abbrev ty_funcuint64_int_api_ID_api_ID_api_Errno : Nat := 50
abbrev ty_funcuint64_int_bool : Nat := 220
abbrev ty_funcuint64_int_bool_bool : Nat := 85
abbrev ty_funcuint64_int_uint64_api_Errno : Nat := 37
abbrev ty_funcuint64_papi_Object : Nat := 186
abbrev ty_funcuint64_pmooringref11_mark : Nat := 188
abbrev ty_funcuint64_uint64 : Nat := 181
abbrev ty_funcuint64_uint64_bool : Nat := 57
abbrev ty_funcuint_int : Nat := 224
abbrev ty_funcunsafe_Pointer_unsafe_Pointer_bool : Nat := 263
abbrev ty_grey_Stack_uint64 : Nat := 218
abbrev ty_grey_Stack_uint64_api_Errno : Nat := 170
abbrev ty_hand_Graph : Nat := 69
abbrev ty_heap_Heap : Nat := 157
abbrev ty_heap_Heap_api_Errno : Nat := 24
abbrev ty_heap_Heap_pmooringref8_Heap : Nat := 71
abbrev ty_heap_thing : Nat := 162
abbrev ty_int : Nat := 3
abbrev ty_int32 : Nat := 21
abbrev ty_int64 : Nat := 2
abbrev ty_int_api_Errno : Nat := 158
abbrev ty_int_bool : Nat := 87
abbrev ty_int_bool_bool : Nat := 84
abbrev ty_int_int : Nat := 245
abbrev ty_int_int_bool : Nat := 210
abbrev ty_int_slices_sortedHint : Nat := 228
abbrev ty_interface : Nat := 20
abbrev ty_internal_abi_BoundsErrorCode : Nat := 6
abbrev ty_internal_abi_Kind : Nat := 262
abbrev ty_internal_abi_NameOff : Nat := 265
abbrev ty_internal_abi_TFlag : Nat := 261
abbrev ty_internal_abi_Type : Nat := 268
abbrev ty_internal_abi_TypeOff : Nat := 266
abbrev ty_internal_runtime_maps_unhashableTypeError : Nat := 19
abbrev ty_law11_Step : Nat := 82
abbrev ty_law13_Step : Nat := 123
abbrev ty_law14_Way : Nat := 203
abbrev ty_law15_Step : Nat := 102
abbrev ty_law8_Step : Nat := 49
abbrev ty_map_api_ID_int : Nat := 173
abbrev ty_map_uint64_int : Nat := 199
abbrev ty_map_uint64_paint_mark : Nat := 172
abbrev ty_map_uint64_pheap_thing : Nat := 155
abbrev ty_mark_Marker : Nat := 193
abbrev ty_mark_Marker_api_Errno : Nat := 106
abbrev ty_pabi_Type : Nat := 17
abbrev ty_paint_Paint : Nat := 175
abbrev ty_paint_Paint_api_Errno : Nat := 78
abbrev ty_paint_Paint_pmooringref11_Paint : Nat := 139
abbrev ty_paint_mark : Nat := 177
abbrev ty_paint_mark_bool : Nat := 178
abbrev ty_papi_Object : Nat := 103
abbrev ty_parena_Arena : Nat := 152
abbrev ty_pgrey_Stack_uint64 : Nat := 169
abbrev ty_pheap_Heap : Nat := 22
abbrev ty_pheap_thing : Nat := 160
abbrev ty_pint : Nat := 241
abbrev ty_pmark_Marker : Nat := 105
abbrev ty_pmooringref11_Marker : Nat := 119
abbrev ty_pmooringref11_Paint : Nat := 96
abbrev ty_pmooringref11_Sweeper : Nat := 98
abbrev ty_pmooringref11_mark : Nat := 187
abbrev ty_pmooringref4_OutTable : Nat := 219
abbrev ty_pmooringref4_WordStack : Nat := 222
abbrev ty_pmooringref7_Arena : Nat := 73
abbrev ty_pmooringref8_Heap : Nat := 59
abbrev ty_ppaint_Paint : Nat := 77
abbrev ty_preach_Reacher : Nat := 133
abbrev ty_preach_row : Nat := 196
abbrev ty_pruntime_PanicNilError : Nat := 16
abbrev ty_pruntime_TypeAssertionError : Nat := 15
abbrev ty_pslices_xorshift : Nat := 244
abbrev ty_psweep_Sweeper : Nat := 90
abbrev ty_puint8 : Nat := 264
abbrev ty_reach_Reacher : Nat := 198
abbrev ty_reach_Reacher_api_Errno : Nat := 134
abbrev ty_reach_row : Nat := 201
abbrev ty_ref11_Marker : Nat := 121
abbrev ty_ref11_Paint : Nat := 131
abbrev ty_ref11_Sweeper : Nat := 100
abbrev ty_ref11_mark : Nat := 190
abbrev ty_ref4_OutTable : Nat := 129
abbrev ty_ref4_WordStack : Nat := 126
abbrev ty_ref7_Arena : Nat := 214
abbrev ty_ref8_Heap : Nat := 76
abbrev ty_runtime_PanicNilError : Nat := 260
abbrev ty_runtime_TypeAssertionError : Nat := 257
abbrev ty_runtime_boundsError : Nat := 8
abbrev ty_runtime_errorAddressString : Nat := 14
abbrev ty_runtime_errorString : Nat := 10
abbrev ty_runtime_plainError : Nat := 11
abbrev ty_slices_sortedHint : Nat := 227
abbrev ty_slices_xorshift : Nat := 238
abbrev ty_string : Nat := 9
abbrev ty_struct_0_pruntime_PanicNilError : Nat := 259
abbrev ty_struct_Class_Sint_Taken_S_16_bool : Nat := 213
abbrev ty_struct_H_pmooringref8_Heap_P_pmooringref11_Paint_place_uint64_end_uint64 : Nat := 99
abbrev ty_struct_H_pmooringref8_Heap_P_pmooringref11_Paint_place_uint64_pass_uint64_passing_bool : Nat := 120
abbrev ty_struct_H_pmooringref8_Heap_Stack_mooringref4_WordStack_Turns_uint64_marks_Smooringref11_mark_met_mooringref4_OutTable : Nat := 130
abbrev ty_struct_ID_api_ID_Rank_int : Nat := 112
abbrev ty_struct_In_uint64_Outs_Sapi_ID : Nat := 143
abbrev ty_struct_Most_int_K_Suint64_V_Sapi_Out : Nat := 128
abbrev ty_struct_Most_int_L_Suint64_Over_bool : Nat := 125
abbrev ty_struct_Node_int_Most_int_Last_uint64_Arena_pmooringref7_Arena_L_Spapi_Object : Nat := 75
abbrev ty_struct_Node_int_Serial_uint64 : Nat := 30
abbrev ty_struct_Refs_SSint_Out_Sbool_In_Sint : Nat := 68
abbrev ty_struct_Serial_uint64_Cell_int_Refs_Sapi_ID_Vals_Suint64_In_int : Nat := 40
abbrev ty_struct_Serial_uint64_Rank_int_Out_api_ID_Scan_bool : Nat := 202
abbrev ty_struct_Size_uintptr_PtrBytes_uintptr_Hash_uint32_TFlag_abi_TFlag_Align_uint8_FieldAlign_uint8_Kind_abi_Kind_Equal_funcunsafe_Pointer_unsafe_Pointer_bool_GCData_puint8_Str_abi_NameOff_PtrToThis_abi_TypeOff : Nat := 267
abbrev ty_struct_What_int_A_int_B_int_Serial_uint64_V_uint64_X_api_ID_Near_bool : Nat := 48
abbrev ty_struct_What_int_A_int_Serial_uint64_X_api_ID : Nat := 122
abbrev ty_struct_What_int_Rank_int_Serial_uint64_X_api_ID_Near_bool : Nat := 81
abbrev ty_struct_What_int_Serial_uint64 : Nat := 101
abbrev ty_struct_cell_int_refs_Sapi_ID_vals_Suint64_in_int : Nat := 161
abbrev ty_struct_class_Sint_taken_Suint16 : Nat := 205
abbrev ty_struct_h_pheap_Heap_marks_map_uint64_paint_mark_met_map_api_ID_int_stack_pgrey_Stack_uint64_turns_uint64 : Nat := 174
abbrev ty_struct_h_pheap_Heap_p_ppaint_Paint_place_uint64_end_uint64 : Nat := 179
abbrev ty_struct_h_pheap_Heap_p_ppaint_Paint_place_uint64_pass_bool_at_uint64 : Nat := 192
abbrev ty_struct_h_pheap_Heap_p_ppaint_Paint_suspect_int_place_uint64_now_preach_row_rows_Sapi_Reach : Nat := 197
abbrev ty_struct_in_uint64_seen_map_uint64_int_waits_Suint64_outs_map_api_ID_int : Nat := 200
abbrev ty_struct_interface_pabi_Type_concrete_pabi_Type_asserted_pabi_Type_missingMethod_string : Nat := 256
abbrev ty_struct_msg_string_addr_uintptr : Nat := 13
abbrev ty_struct_node_int_most_int_last_uint64_cells_parena_Arena_all_map_uint64_pheap_thing : Nat := 156
abbrev ty_struct_rank_int_grey_bool : Nat := 176
abbrev ty_struct_row_Suint64_most_int_over_bool : Nat := 217
abbrev ty_struct_serial_uint64_rank_int_grey_bool : Nat := 189
abbrev ty_struct_typ_pabi_Type : Nat := 18
abbrev ty_struct_x_int64_y_int_signed_bool_code_abi_BoundsErrorCode : Nat := 7
abbrev ty_sweep_Sweeper : Nat := 180
abbrev ty_sweep_Sweeper_api_Errno : Nat := 91
abbrev ty_uint : Nat := 221
abbrev ty_uint16 : Nat := 207
abbrev ty_uint32 : Nat := 234
abbrev ty_uint64 : Nat := 26
abbrev ty_uint64_api_Errno : Nat := 28
abbrev ty_uint64_bool : Nat := 56
abbrev ty_uint8 : Nat := 5
abbrev ty_uintptr : Nat := 12
abbrev ty_unsafe_Pointer : Nat := 269
end Go.Proofs.Ytohlnmenghbgbaa

/- PRINTED by gen.py: facts on types; append and make by type. No condition. -/
namespace Go.Proofs.Ytohlnmenghbgbaa
open Go
theorem ti_ty_int : (PR.info? 3).map (fun i => (i.zero, i.size, i.bytes)) = some (some (.int .i64 0), 1, 8) := by kernel_rfl
theorem ti_ty_bool : (PR.info? 4).map (fun i => (i.zero, i.size, i.bytes)) = some (some (.bool false), 1, 1) := by kernel_rfl
theorem ti_ty_uint64 : (PR.info? 26).map (fun i => (i.zero, i.size, i.bytes)) = some (some (.int .u64 0), 1, 8) := by kernel_rfl
theorem ti_ty_api_ID : (PR.info? 31).map (fun i => (i.zero, i.size, i.bytes)) = some (some (.agg #[(.int .i64 0), (.int .u64 0)]), 2, 16) := by kernel_rfl
theorem ti_ty_law8_Step : (PR.info? 49).map (fun i => (i.zero, i.size, i.bytes)) = some (some (.agg #[(.int .i64 0), (.int .i64 0), (.int .i64 0), (.int .u64 0), (.int .u64 0), (.int .i64 0), (.int .u64 0), (.bool false)]), 8, 64) := by kernel_rfl
theorem ti_ty_2_api_ID : (PR.info? 51).map (fun i => (i.zero, i.size, i.bytes)) = some (some (.agg #[(.int .i64 0), (.int .u64 0), (.int .i64 0), (.int .u64 0)]), 4, 32) := by kernel_rfl
theorem ti_ty_2_uint64 : (PR.info? 52).map (fun i => (i.zero, i.size, i.bytes)) = some (some (.agg #[(.int .u64 0), (.int .u64 0)]), 2, 16) := by kernel_rfl
theorem ti_ty_Sint : (PR.info? 67).map (fun i => (i.zero, i.size, i.bytes)) = some (some (.slice none 0 0), 1, 24) := by kernel_rfl
theorem ti_ty_papi_Object : (PR.info? 103).map (fun i => (i.zero, i.size, i.bytes)) = some (some (.pointer none), 1, 8) := by kernel_rfl
theorem ti_ty_api_Out : (PR.info? 113).map (fun i => (i.zero, i.size, i.bytes)) = some (some (.agg #[(.int .i64 0), (.int .u64 0), (.int .i64 0)]), 3, 24) := by kernel_rfl
theorem ti_ty_api_Reach : (PR.info? 144).map (fun i => (i.zero, i.size, i.bytes)) = some (some (.agg #[(.int .u64 0), (.slice none 0 0)]), 2, 32) := by kernel_rfl
theorem ti_ty_ref11_mark : (PR.info? 190).map (fun i => (i.zero, i.size, i.bytes)) = some (some (.agg #[(.int .u64 0), (.int .i64 0), (.bool false)]), 3, 24) := by kernel_rfl
theorem ti_ty_uint16 : (PR.info? 207).map (fun i => (i.zero, i.size, i.bytes)) = some (some (.int .u16 0), 1, 2) := by kernel_rfl
theorem ti_ty_16_bool : (PR.info? 216).map (fun i => (i.zero, i.size, i.bytes)) = some (some (.agg #[(.bool false), (.bool false), (.bool false), (.bool false), (.bool false), (.bool false), (.bool false), (.bool false), (.bool false), (.bool false), (.bool false), (.bool false), (.bool false), (.bool false), (.bool false), (.bool false)]), 16, 16) := by kernel_rfl
theorem tu_ty_SSint : PR.underlying ty_SSint = some (.slice 67) := by kernel_rfl
theorem app_ty_SSint {ty : Nat} {p q : Option Addr} {n cap m qc : Nat} {xs ys : List Value} {H : Hp} {K : Value → Hp → Prop} (h : Own H 1 p n cap xs) (hq : Rd H 1 q m ys) (hone : ∀ y ∈ ys, one y = true) (hroom : (2 * (n + m) + 512) * 24 ≤ 2 ^ 48)
    (hK : ∀ p' cap' H', Own H' 1 p' (n + m) cap' (xs ++ ys) → Keep (blk p) H H' → (∀ b, blk p' b → blk p b ∨ H b = none) → K (.slice p' (n + m) cap') H') :
    evW PR (Builtin.append_ #[ty_SSint, ty_SSint] ty #[.slice p n cap, .slice q m qc]) H K :=
  append_at (z := (.slice none 0 0)) tu_ty_SSint tu_ty_SSint ti_ty_Sint rfl (by decide) h hq hone hroom hK
theorem lit_ty_SSint {ty m : Nat} {e0 : TypeId} {p : Option Addr} {n cap : Nat} {xs : List Value} {c : Array Value} {H : Hp} {K : Value → Hp → Prop} (h : Own H 1 p n cap xs) (hs : c.size = m * 1) (hone : ∀ y ∈ c.toList, one y = true) (hroom : (2 * (n + m) + 512) * 24 ≤ 2 ^ 48)
    (hK : ∀ p' cap' H', Own H' 1 p' (n + m) cap' (xs ++ c.toList) → Goes (blk p) H (blk p') H' → K (.slice p' (n + m) cap') H') :
    newB (.cells c e0) H fun b H1 => evW PR (Builtin.append_ #[ty_SSint, ty_SSint] ty #[.slice p n cap, .slice (some ⟨b, 0, none⟩) m m]) H1 K :=
  app_lit (z := (.slice none 0 0)) tu_ty_SSint tu_ty_SSint ti_ty_Sint rfl (by decide) h hs hone hroom hK
theorem copy_ty_SSint {ty m qc : Nat} {e0 : TypeId} {b : Nat} {q : Option Addr} {ys : List Value} {H : Hp} {K : Value → Hp → Prop} (hb : H b = none) (hq : Rd H 1 q m ys) (hone : ∀ y ∈ ys, one y = true) (hroom : (2 * m + 512) * 24 ≤ 2 ^ 48)
    (hK : ∀ p' cap' H', Own H' 1 p' m cap' ys → Goes Nothing H (blk p') H' → K (.slice p' m cap') H') :
    evW PR (Builtin.append_ #[ty_SSint, ty_SSint] ty #[.slice (some ⟨b, 0, none⟩) 0 0, .slice q m qc]) (upd H b (.cells #[] e0)) K :=
  app_copy (z := (.slice none 0 0)) tu_ty_SSint tu_ty_SSint ti_ty_Sint rfl (by decide) hb hq hone hroom hK
theorem mko_ty_SSint {n : Int} {H : Hp} {K : Value → Hp → Prop} (h0 : 0 ≤ n) (h1 : n * 24 ≤ 2 ^ 47) (h2 : n < 2 ^ 62)
    (hK : ∀ p H', Own H' 1 p n.toNat n.toNat (List.replicate n.toNat (.slice none 0 0)) → Goes Nothing H (blk p) H' → K (.slice p n.toNat n.toNat) H') : evW PR (Instr.makeSlice ty_SSint (.int .i64 n) (.int .i64 n)) H K :=
  make_own (z := (.slice none 0 0)) tu_ty_SSint ti_ty_Sint rfl h0 h1 h2 hK
theorem clr_ty_SSint {ty n cap : Nat} {p : Option Addr} {xs : List Value} {H : Hp} {K : Value → Hp → Prop} (ho : Own H 1 p n cap xs)
    (hK : ∀ H', Own H' 1 p n cap (List.replicate n (.slice none 0 0)) → Goes (blk p) H (blk p) H' → K (.tuple #[]) H') : evW PR (Builtin.clear_ #[ty_SSint] ty #[.slice p n cap]) H K :=
  clear_own (z := (.slice none 0 0)) tu_ty_SSint ti_ty_Sint rfl rfl ho hK
theorem mk_ty_SSint {n : Int} {H : Hp} {K : Value → Hp → Prop} (h0 : 0 ≤ n) (h1 : n * 24 ≤ 2 ^ 47) (h2 : n < 2 ^ 62)
    (hK : ∀ b cs, H b = none → cs.size = n.toNat * 1 → (∀ i, i < n.toNat * 1 → cs[i]? = ((.slice none 0 0) : Value).cells[i % 1]?) → K (.slice (some ⟨b, 0, none⟩) n.toNat n.toNat) (upd H b (.cells cs 67 (0, 0)))) :
    evW PR (Instr.makeSlice ty_SSint (.int .i64 n) (.int .i64 n)) H K :=
  make_at (z := (.slice none 0 0)) tu_ty_SSint ti_ty_Sint h0 h1 h2 rfl (by decide) hK
theorem tu_ty_S_16_bool : PR.underlying ty_S_16_bool = some (.slice 216) := by kernel_rfl
theorem app_ty_S_16_bool {ty : Nat} {p q : Option Addr} {n cap m qc : Nat} {xs ys : List Value} {H : Hp} {K : Value → Hp → Prop} (h : Own H 16 p n cap xs) (hq : Rd H 16 q m ys) (hone : ∀ y ∈ ys, one y = true) (hroom : (2 * (n + m) + 512) * 16 ≤ 2 ^ 48)
    (hK : ∀ p' cap' H', Own H' 16 p' (n + m) cap' (xs ++ ys) → Keep (blk p) H H' → (∀ b, blk p' b → blk p b ∨ H b = none) → K (.slice p' (n + m) cap') H') :
    evW PR (Builtin.append_ #[ty_S_16_bool, ty_S_16_bool] ty #[.slice p n cap, .slice q m qc]) H K :=
  append_at (z := (.agg #[(.bool false), (.bool false), (.bool false), (.bool false), (.bool false), (.bool false), (.bool false), (.bool false), (.bool false), (.bool false), (.bool false), (.bool false), (.bool false), (.bool false), (.bool false), (.bool false)])) tu_ty_S_16_bool tu_ty_S_16_bool ti_ty_16_bool rfl (by decide) h hq hone hroom hK
theorem lit_ty_S_16_bool {ty m : Nat} {e0 : TypeId} {p : Option Addr} {n cap : Nat} {xs : List Value} {c : Array Value} {H : Hp} {K : Value → Hp → Prop} (h : Own H 16 p n cap xs) (hs : c.size = m * 16) (hone : ∀ y ∈ c.toList, one y = true) (hroom : (2 * (n + m) + 512) * 16 ≤ 2 ^ 48)
    (hK : ∀ p' cap' H', Own H' 16 p' (n + m) cap' (xs ++ c.toList) → Goes (blk p) H (blk p') H' → K (.slice p' (n + m) cap') H') :
    newB (.cells c e0) H fun b H1 => evW PR (Builtin.append_ #[ty_S_16_bool, ty_S_16_bool] ty #[.slice p n cap, .slice (some ⟨b, 0, none⟩) m m]) H1 K :=
  app_lit (z := (.agg #[(.bool false), (.bool false), (.bool false), (.bool false), (.bool false), (.bool false), (.bool false), (.bool false), (.bool false), (.bool false), (.bool false), (.bool false), (.bool false), (.bool false), (.bool false), (.bool false)])) tu_ty_S_16_bool tu_ty_S_16_bool ti_ty_16_bool rfl (by decide) h hs hone hroom hK
theorem copy_ty_S_16_bool {ty m qc : Nat} {e0 : TypeId} {b : Nat} {q : Option Addr} {ys : List Value} {H : Hp} {K : Value → Hp → Prop} (hb : H b = none) (hq : Rd H 16 q m ys) (hone : ∀ y ∈ ys, one y = true) (hroom : (2 * m + 512) * 16 ≤ 2 ^ 48)
    (hK : ∀ p' cap' H', Own H' 16 p' m cap' ys → Goes Nothing H (blk p') H' → K (.slice p' m cap') H') :
    evW PR (Builtin.append_ #[ty_S_16_bool, ty_S_16_bool] ty #[.slice (some ⟨b, 0, none⟩) 0 0, .slice q m qc]) (upd H b (.cells #[] e0)) K :=
  app_copy (z := (.agg #[(.bool false), (.bool false), (.bool false), (.bool false), (.bool false), (.bool false), (.bool false), (.bool false), (.bool false), (.bool false), (.bool false), (.bool false), (.bool false), (.bool false), (.bool false), (.bool false)])) tu_ty_S_16_bool tu_ty_S_16_bool ti_ty_16_bool rfl (by decide) hb hq hone hroom hK
theorem mk_ty_S_16_bool {n : Int} {H : Hp} {K : Value → Hp → Prop} (h0 : 0 ≤ n) (h1 : n * 16 ≤ 2 ^ 47) (h2 : n < 2 ^ 62)
    (hK : ∀ b cs, H b = none → cs.size = n.toNat * 16 → (∀ i, i < n.toNat * 16 → cs[i]? = ((.agg #[(.bool false), (.bool false), (.bool false), (.bool false), (.bool false), (.bool false), (.bool false), (.bool false), (.bool false), (.bool false), (.bool false), (.bool false), (.bool false), (.bool false), (.bool false), (.bool false)]) : Value).cells[i % 16]?) → K (.slice (some ⟨b, 0, none⟩) n.toNat n.toNat) (upd H b (.cells cs 216 (0, 0)))) :
    evW PR (Instr.makeSlice ty_S_16_bool (.int .i64 n) (.int .i64 n)) H K :=
  make_at (z := (.agg #[(.bool false), (.bool false), (.bool false), (.bool false), (.bool false), (.bool false), (.bool false), (.bool false), (.bool false), (.bool false), (.bool false), (.bool false), (.bool false), (.bool false), (.bool false), (.bool false)])) tu_ty_S_16_bool ti_ty_16_bool h0 h1 h2 rfl (by decide) hK
theorem tu_ty_S_2_api_ID : PR.underlying ty_S_2_api_ID = some (.slice 51) := by kernel_rfl
theorem app_ty_S_2_api_ID {ty : Nat} {p q : Option Addr} {n cap m qc : Nat} {xs ys : List Value} {H : Hp} {K : Value → Hp → Prop} (h : Own H 4 p n cap xs) (hq : Rd H 4 q m ys) (hone : ∀ y ∈ ys, one y = true) (hroom : (2 * (n + m) + 512) * 32 ≤ 2 ^ 48)
    (hK : ∀ p' cap' H', Own H' 4 p' (n + m) cap' (xs ++ ys) → Keep (blk p) H H' → (∀ b, blk p' b → blk p b ∨ H b = none) → K (.slice p' (n + m) cap') H') :
    evW PR (Builtin.append_ #[ty_S_2_api_ID, ty_S_2_api_ID] ty #[.slice p n cap, .slice q m qc]) H K :=
  append_at (z := (.agg #[(.int .i64 0), (.int .u64 0), (.int .i64 0), (.int .u64 0)])) tu_ty_S_2_api_ID tu_ty_S_2_api_ID ti_ty_2_api_ID rfl (by decide) h hq hone hroom hK
theorem lit_ty_S_2_api_ID {ty m : Nat} {e0 : TypeId} {p : Option Addr} {n cap : Nat} {xs : List Value} {c : Array Value} {H : Hp} {K : Value → Hp → Prop} (h : Own H 4 p n cap xs) (hs : c.size = m * 4) (hone : ∀ y ∈ c.toList, one y = true) (hroom : (2 * (n + m) + 512) * 32 ≤ 2 ^ 48)
    (hK : ∀ p' cap' H', Own H' 4 p' (n + m) cap' (xs ++ c.toList) → Goes (blk p) H (blk p') H' → K (.slice p' (n + m) cap') H') :
    newB (.cells c e0) H fun b H1 => evW PR (Builtin.append_ #[ty_S_2_api_ID, ty_S_2_api_ID] ty #[.slice p n cap, .slice (some ⟨b, 0, none⟩) m m]) H1 K :=
  app_lit (z := (.agg #[(.int .i64 0), (.int .u64 0), (.int .i64 0), (.int .u64 0)])) tu_ty_S_2_api_ID tu_ty_S_2_api_ID ti_ty_2_api_ID rfl (by decide) h hs hone hroom hK
theorem copy_ty_S_2_api_ID {ty m qc : Nat} {e0 : TypeId} {b : Nat} {q : Option Addr} {ys : List Value} {H : Hp} {K : Value → Hp → Prop} (hb : H b = none) (hq : Rd H 4 q m ys) (hone : ∀ y ∈ ys, one y = true) (hroom : (2 * m + 512) * 32 ≤ 2 ^ 48)
    (hK : ∀ p' cap' H', Own H' 4 p' m cap' ys → Goes Nothing H (blk p') H' → K (.slice p' m cap') H') :
    evW PR (Builtin.append_ #[ty_S_2_api_ID, ty_S_2_api_ID] ty #[.slice (some ⟨b, 0, none⟩) 0 0, .slice q m qc]) (upd H b (.cells #[] e0)) K :=
  app_copy (z := (.agg #[(.int .i64 0), (.int .u64 0), (.int .i64 0), (.int .u64 0)])) tu_ty_S_2_api_ID tu_ty_S_2_api_ID ti_ty_2_api_ID rfl (by decide) hb hq hone hroom hK
theorem mk_ty_S_2_api_ID {n : Int} {H : Hp} {K : Value → Hp → Prop} (h0 : 0 ≤ n) (h1 : n * 32 ≤ 2 ^ 47) (h2 : n < 2 ^ 62)
    (hK : ∀ b cs, H b = none → cs.size = n.toNat * 4 → (∀ i, i < n.toNat * 4 → cs[i]? = ((.agg #[(.int .i64 0), (.int .u64 0), (.int .i64 0), (.int .u64 0)]) : Value).cells[i % 4]?) → K (.slice (some ⟨b, 0, none⟩) n.toNat n.toNat) (upd H b (.cells cs 51 (0, 0)))) :
    evW PR (Instr.makeSlice ty_S_2_api_ID (.int .i64 n) (.int .i64 n)) H K :=
  make_at (z := (.agg #[(.int .i64 0), (.int .u64 0), (.int .i64 0), (.int .u64 0)])) tu_ty_S_2_api_ID ti_ty_2_api_ID h0 h1 h2 rfl (by decide) hK
theorem tu_ty_S_2_uint64 : PR.underlying ty_S_2_uint64 = some (.slice 52) := by kernel_rfl
theorem app_ty_S_2_uint64 {ty : Nat} {p q : Option Addr} {n cap m qc : Nat} {xs ys : List Value} {H : Hp} {K : Value → Hp → Prop} (h : Own H 2 p n cap xs) (hq : Rd H 2 q m ys) (hone : ∀ y ∈ ys, one y = true) (hroom : (2 * (n + m) + 512) * 16 ≤ 2 ^ 48)
    (hK : ∀ p' cap' H', Own H' 2 p' (n + m) cap' (xs ++ ys) → Keep (blk p) H H' → (∀ b, blk p' b → blk p b ∨ H b = none) → K (.slice p' (n + m) cap') H') :
    evW PR (Builtin.append_ #[ty_S_2_uint64, ty_S_2_uint64] ty #[.slice p n cap, .slice q m qc]) H K :=
  append_at (z := (.agg #[(.int .u64 0), (.int .u64 0)])) tu_ty_S_2_uint64 tu_ty_S_2_uint64 ti_ty_2_uint64 rfl (by decide) h hq hone hroom hK
theorem lit_ty_S_2_uint64 {ty m : Nat} {e0 : TypeId} {p : Option Addr} {n cap : Nat} {xs : List Value} {c : Array Value} {H : Hp} {K : Value → Hp → Prop} (h : Own H 2 p n cap xs) (hs : c.size = m * 2) (hone : ∀ y ∈ c.toList, one y = true) (hroom : (2 * (n + m) + 512) * 16 ≤ 2 ^ 48)
    (hK : ∀ p' cap' H', Own H' 2 p' (n + m) cap' (xs ++ c.toList) → Goes (blk p) H (blk p') H' → K (.slice p' (n + m) cap') H') :
    newB (.cells c e0) H fun b H1 => evW PR (Builtin.append_ #[ty_S_2_uint64, ty_S_2_uint64] ty #[.slice p n cap, .slice (some ⟨b, 0, none⟩) m m]) H1 K :=
  app_lit (z := (.agg #[(.int .u64 0), (.int .u64 0)])) tu_ty_S_2_uint64 tu_ty_S_2_uint64 ti_ty_2_uint64 rfl (by decide) h hs hone hroom hK
theorem copy_ty_S_2_uint64 {ty m qc : Nat} {e0 : TypeId} {b : Nat} {q : Option Addr} {ys : List Value} {H : Hp} {K : Value → Hp → Prop} (hb : H b = none) (hq : Rd H 2 q m ys) (hone : ∀ y ∈ ys, one y = true) (hroom : (2 * m + 512) * 16 ≤ 2 ^ 48)
    (hK : ∀ p' cap' H', Own H' 2 p' m cap' ys → Goes Nothing H (blk p') H' → K (.slice p' m cap') H') :
    evW PR (Builtin.append_ #[ty_S_2_uint64, ty_S_2_uint64] ty #[.slice (some ⟨b, 0, none⟩) 0 0, .slice q m qc]) (upd H b (.cells #[] e0)) K :=
  app_copy (z := (.agg #[(.int .u64 0), (.int .u64 0)])) tu_ty_S_2_uint64 tu_ty_S_2_uint64 ti_ty_2_uint64 rfl (by decide) hb hq hone hroom hK
theorem mk_ty_S_2_uint64 {n : Int} {H : Hp} {K : Value → Hp → Prop} (h0 : 0 ≤ n) (h1 : n * 16 ≤ 2 ^ 47) (h2 : n < 2 ^ 62)
    (hK : ∀ b cs, H b = none → cs.size = n.toNat * 2 → (∀ i, i < n.toNat * 2 → cs[i]? = ((.agg #[(.int .u64 0), (.int .u64 0)]) : Value).cells[i % 2]?) → K (.slice (some ⟨b, 0, none⟩) n.toNat n.toNat) (upd H b (.cells cs 52 (0, 0)))) :
    evW PR (Instr.makeSlice ty_S_2_uint64 (.int .i64 n) (.int .i64 n)) H K :=
  make_at (z := (.agg #[(.int .u64 0), (.int .u64 0)])) tu_ty_S_2_uint64 ti_ty_2_uint64 h0 h1 h2 rfl (by decide) hK
theorem tu_ty_Sapi_ID : PR.underlying ty_Sapi_ID = some (.slice 31) := by kernel_rfl
theorem app_ty_Sapi_ID {ty : Nat} {p q : Option Addr} {n cap m qc : Nat} {xs ys : List Value} {H : Hp} {K : Value → Hp → Prop} (h : Own H 2 p n cap xs) (hq : Rd H 2 q m ys) (hone : ∀ y ∈ ys, one y = true) (hroom : (2 * (n + m) + 512) * 16 ≤ 2 ^ 48)
    (hK : ∀ p' cap' H', Own H' 2 p' (n + m) cap' (xs ++ ys) → Keep (blk p) H H' → (∀ b, blk p' b → blk p b ∨ H b = none) → K (.slice p' (n + m) cap') H') :
    evW PR (Builtin.append_ #[ty_Sapi_ID, ty_Sapi_ID] ty #[.slice p n cap, .slice q m qc]) H K :=
  append_at (z := (.agg #[(.int .i64 0), (.int .u64 0)])) tu_ty_Sapi_ID tu_ty_Sapi_ID ti_ty_api_ID rfl (by decide) h hq hone hroom hK
theorem lit_ty_Sapi_ID {ty m : Nat} {e0 : TypeId} {p : Option Addr} {n cap : Nat} {xs : List Value} {c : Array Value} {H : Hp} {K : Value → Hp → Prop} (h : Own H 2 p n cap xs) (hs : c.size = m * 2) (hone : ∀ y ∈ c.toList, one y = true) (hroom : (2 * (n + m) + 512) * 16 ≤ 2 ^ 48)
    (hK : ∀ p' cap' H', Own H' 2 p' (n + m) cap' (xs ++ c.toList) → Goes (blk p) H (blk p') H' → K (.slice p' (n + m) cap') H') :
    newB (.cells c e0) H fun b H1 => evW PR (Builtin.append_ #[ty_Sapi_ID, ty_Sapi_ID] ty #[.slice p n cap, .slice (some ⟨b, 0, none⟩) m m]) H1 K :=
  app_lit (z := (.agg #[(.int .i64 0), (.int .u64 0)])) tu_ty_Sapi_ID tu_ty_Sapi_ID ti_ty_api_ID rfl (by decide) h hs hone hroom hK
theorem copy_ty_Sapi_ID {ty m qc : Nat} {e0 : TypeId} {b : Nat} {q : Option Addr} {ys : List Value} {H : Hp} {K : Value → Hp → Prop} (hb : H b = none) (hq : Rd H 2 q m ys) (hone : ∀ y ∈ ys, one y = true) (hroom : (2 * m + 512) * 16 ≤ 2 ^ 48)
    (hK : ∀ p' cap' H', Own H' 2 p' m cap' ys → Goes Nothing H (blk p') H' → K (.slice p' m cap') H') :
    evW PR (Builtin.append_ #[ty_Sapi_ID, ty_Sapi_ID] ty #[.slice (some ⟨b, 0, none⟩) 0 0, .slice q m qc]) (upd H b (.cells #[] e0)) K :=
  app_copy (z := (.agg #[(.int .i64 0), (.int .u64 0)])) tu_ty_Sapi_ID tu_ty_Sapi_ID ti_ty_api_ID rfl (by decide) hb hq hone hroom hK
theorem mk_ty_Sapi_ID {n : Int} {H : Hp} {K : Value → Hp → Prop} (h0 : 0 ≤ n) (h1 : n * 16 ≤ 2 ^ 47) (h2 : n < 2 ^ 62)
    (hK : ∀ b cs, H b = none → cs.size = n.toNat * 2 → (∀ i, i < n.toNat * 2 → cs[i]? = ((.agg #[(.int .i64 0), (.int .u64 0)]) : Value).cells[i % 2]?) → K (.slice (some ⟨b, 0, none⟩) n.toNat n.toNat) (upd H b (.cells cs 31 (0, 0)))) :
    evW PR (Instr.makeSlice ty_Sapi_ID (.int .i64 n) (.int .i64 n)) H K :=
  make_at (z := (.agg #[(.int .i64 0), (.int .u64 0)])) tu_ty_Sapi_ID ti_ty_api_ID h0 h1 h2 rfl (by decide) hK
theorem tu_ty_Sapi_Out : PR.underlying ty_Sapi_Out = some (.slice 113) := by kernel_rfl
theorem app_ty_Sapi_Out {ty : Nat} {p q : Option Addr} {n cap m qc : Nat} {xs ys : List Value} {H : Hp} {K : Value → Hp → Prop} (h : Own H 3 p n cap xs) (hq : Rd H 3 q m ys) (hone : ∀ y ∈ ys, one y = true) (hroom : (2 * (n + m) + 512) * 24 ≤ 2 ^ 48)
    (hK : ∀ p' cap' H', Own H' 3 p' (n + m) cap' (xs ++ ys) → Keep (blk p) H H' → (∀ b, blk p' b → blk p b ∨ H b = none) → K (.slice p' (n + m) cap') H') :
    evW PR (Builtin.append_ #[ty_Sapi_Out, ty_Sapi_Out] ty #[.slice p n cap, .slice q m qc]) H K :=
  append_at (z := (.agg #[(.int .i64 0), (.int .u64 0), (.int .i64 0)])) tu_ty_Sapi_Out tu_ty_Sapi_Out ti_ty_api_Out rfl (by decide) h hq hone hroom hK
theorem lit_ty_Sapi_Out {ty m : Nat} {e0 : TypeId} {p : Option Addr} {n cap : Nat} {xs : List Value} {c : Array Value} {H : Hp} {K : Value → Hp → Prop} (h : Own H 3 p n cap xs) (hs : c.size = m * 3) (hone : ∀ y ∈ c.toList, one y = true) (hroom : (2 * (n + m) + 512) * 24 ≤ 2 ^ 48)
    (hK : ∀ p' cap' H', Own H' 3 p' (n + m) cap' (xs ++ c.toList) → Goes (blk p) H (blk p') H' → K (.slice p' (n + m) cap') H') :
    newB (.cells c e0) H fun b H1 => evW PR (Builtin.append_ #[ty_Sapi_Out, ty_Sapi_Out] ty #[.slice p n cap, .slice (some ⟨b, 0, none⟩) m m]) H1 K :=
  app_lit (z := (.agg #[(.int .i64 0), (.int .u64 0), (.int .i64 0)])) tu_ty_Sapi_Out tu_ty_Sapi_Out ti_ty_api_Out rfl (by decide) h hs hone hroom hK
theorem copy_ty_Sapi_Out {ty m qc : Nat} {e0 : TypeId} {b : Nat} {q : Option Addr} {ys : List Value} {H : Hp} {K : Value → Hp → Prop} (hb : H b = none) (hq : Rd H 3 q m ys) (hone : ∀ y ∈ ys, one y = true) (hroom : (2 * m + 512) * 24 ≤ 2 ^ 48)
    (hK : ∀ p' cap' H', Own H' 3 p' m cap' ys → Goes Nothing H (blk p') H' → K (.slice p' m cap') H') :
    evW PR (Builtin.append_ #[ty_Sapi_Out, ty_Sapi_Out] ty #[.slice (some ⟨b, 0, none⟩) 0 0, .slice q m qc]) (upd H b (.cells #[] e0)) K :=
  app_copy (z := (.agg #[(.int .i64 0), (.int .u64 0), (.int .i64 0)])) tu_ty_Sapi_Out tu_ty_Sapi_Out ti_ty_api_Out rfl (by decide) hb hq hone hroom hK
theorem mk_ty_Sapi_Out {n : Int} {H : Hp} {K : Value → Hp → Prop} (h0 : 0 ≤ n) (h1 : n * 24 ≤ 2 ^ 47) (h2 : n < 2 ^ 62)
    (hK : ∀ b cs, H b = none → cs.size = n.toNat * 3 → (∀ i, i < n.toNat * 3 → cs[i]? = ((.agg #[(.int .i64 0), (.int .u64 0), (.int .i64 0)]) : Value).cells[i % 3]?) → K (.slice (some ⟨b, 0, none⟩) n.toNat n.toNat) (upd H b (.cells cs 113 (0, 0)))) :
    evW PR (Instr.makeSlice ty_Sapi_Out (.int .i64 n) (.int .i64 n)) H K :=
  make_at (z := (.agg #[(.int .i64 0), (.int .u64 0), (.int .i64 0)])) tu_ty_Sapi_Out ti_ty_api_Out h0 h1 h2 rfl (by decide) hK
theorem tu_ty_Sapi_Reach : PR.underlying ty_Sapi_Reach = some (.slice 144) := by kernel_rfl
theorem app_ty_Sapi_Reach {ty : Nat} {p q : Option Addr} {n cap m qc : Nat} {xs ys : List Value} {H : Hp} {K : Value → Hp → Prop} (h : Own H 2 p n cap xs) (hq : Rd H 2 q m ys) (hone : ∀ y ∈ ys, one y = true) (hroom : (2 * (n + m) + 512) * 32 ≤ 2 ^ 48)
    (hK : ∀ p' cap' H', Own H' 2 p' (n + m) cap' (xs ++ ys) → Keep (blk p) H H' → (∀ b, blk p' b → blk p b ∨ H b = none) → K (.slice p' (n + m) cap') H') :
    evW PR (Builtin.append_ #[ty_Sapi_Reach, ty_Sapi_Reach] ty #[.slice p n cap, .slice q m qc]) H K :=
  append_at (z := (.agg #[(.int .u64 0), (.slice none 0 0)])) tu_ty_Sapi_Reach tu_ty_Sapi_Reach ti_ty_api_Reach rfl (by decide) h hq hone hroom hK
theorem lit_ty_Sapi_Reach {ty m : Nat} {e0 : TypeId} {p : Option Addr} {n cap : Nat} {xs : List Value} {c : Array Value} {H : Hp} {K : Value → Hp → Prop} (h : Own H 2 p n cap xs) (hs : c.size = m * 2) (hone : ∀ y ∈ c.toList, one y = true) (hroom : (2 * (n + m) + 512) * 32 ≤ 2 ^ 48)
    (hK : ∀ p' cap' H', Own H' 2 p' (n + m) cap' (xs ++ c.toList) → Goes (blk p) H (blk p') H' → K (.slice p' (n + m) cap') H') :
    newB (.cells c e0) H fun b H1 => evW PR (Builtin.append_ #[ty_Sapi_Reach, ty_Sapi_Reach] ty #[.slice p n cap, .slice (some ⟨b, 0, none⟩) m m]) H1 K :=
  app_lit (z := (.agg #[(.int .u64 0), (.slice none 0 0)])) tu_ty_Sapi_Reach tu_ty_Sapi_Reach ti_ty_api_Reach rfl (by decide) h hs hone hroom hK
theorem copy_ty_Sapi_Reach {ty m qc : Nat} {e0 : TypeId} {b : Nat} {q : Option Addr} {ys : List Value} {H : Hp} {K : Value → Hp → Prop} (hb : H b = none) (hq : Rd H 2 q m ys) (hone : ∀ y ∈ ys, one y = true) (hroom : (2 * m + 512) * 32 ≤ 2 ^ 48)
    (hK : ∀ p' cap' H', Own H' 2 p' m cap' ys → Goes Nothing H (blk p') H' → K (.slice p' m cap') H') :
    evW PR (Builtin.append_ #[ty_Sapi_Reach, ty_Sapi_Reach] ty #[.slice (some ⟨b, 0, none⟩) 0 0, .slice q m qc]) (upd H b (.cells #[] e0)) K :=
  app_copy (z := (.agg #[(.int .u64 0), (.slice none 0 0)])) tu_ty_Sapi_Reach tu_ty_Sapi_Reach ti_ty_api_Reach rfl (by decide) hb hq hone hroom hK
theorem mk_ty_Sapi_Reach {n : Int} {H : Hp} {K : Value → Hp → Prop} (h0 : 0 ≤ n) (h1 : n * 32 ≤ 2 ^ 47) (h2 : n < 2 ^ 62)
    (hK : ∀ b cs, H b = none → cs.size = n.toNat * 2 → (∀ i, i < n.toNat * 2 → cs[i]? = ((.agg #[(.int .u64 0), (.slice none 0 0)]) : Value).cells[i % 2]?) → K (.slice (some ⟨b, 0, none⟩) n.toNat n.toNat) (upd H b (.cells cs 144 (0, 0)))) :
    evW PR (Instr.makeSlice ty_Sapi_Reach (.int .i64 n) (.int .i64 n)) H K :=
  make_at (z := (.agg #[(.int .u64 0), (.slice none 0 0)])) tu_ty_Sapi_Reach ti_ty_api_Reach h0 h1 h2 rfl (by decide) hK
theorem tu_ty_Sbool : PR.underlying ty_Sbool = some (.slice 4) := by kernel_rfl
theorem app_ty_Sbool {ty : Nat} {p q : Option Addr} {n cap m qc : Nat} {xs ys : List Value} {H : Hp} {K : Value → Hp → Prop} (h : Own H 1 p n cap xs) (hq : Rd H 1 q m ys) (hone : ∀ y ∈ ys, one y = true) (hroom : (2 * (n + m) + 512) * 1 ≤ 2 ^ 48)
    (hK : ∀ p' cap' H', Own H' 1 p' (n + m) cap' (xs ++ ys) → Keep (blk p) H H' → (∀ b, blk p' b → blk p b ∨ H b = none) → K (.slice p' (n + m) cap') H') :
    evW PR (Builtin.append_ #[ty_Sbool, ty_Sbool] ty #[.slice p n cap, .slice q m qc]) H K :=
  append_at (z := (.bool false)) tu_ty_Sbool tu_ty_Sbool ti_ty_bool rfl (by decide) h hq hone hroom hK
theorem lit_ty_Sbool {ty m : Nat} {e0 : TypeId} {p : Option Addr} {n cap : Nat} {xs : List Value} {c : Array Value} {H : Hp} {K : Value → Hp → Prop} (h : Own H 1 p n cap xs) (hs : c.size = m * 1) (hone : ∀ y ∈ c.toList, one y = true) (hroom : (2 * (n + m) + 512) * 1 ≤ 2 ^ 48)
    (hK : ∀ p' cap' H', Own H' 1 p' (n + m) cap' (xs ++ c.toList) → Goes (blk p) H (blk p') H' → K (.slice p' (n + m) cap') H') :
    newB (.cells c e0) H fun b H1 => evW PR (Builtin.append_ #[ty_Sbool, ty_Sbool] ty #[.slice p n cap, .slice (some ⟨b, 0, none⟩) m m]) H1 K :=
  app_lit (z := (.bool false)) tu_ty_Sbool tu_ty_Sbool ti_ty_bool rfl (by decide) h hs hone hroom hK
theorem copy_ty_Sbool {ty m qc : Nat} {e0 : TypeId} {b : Nat} {q : Option Addr} {ys : List Value} {H : Hp} {K : Value → Hp → Prop} (hb : H b = none) (hq : Rd H 1 q m ys) (hone : ∀ y ∈ ys, one y = true) (hroom : (2 * m + 512) * 1 ≤ 2 ^ 48)
    (hK : ∀ p' cap' H', Own H' 1 p' m cap' ys → Goes Nothing H (blk p') H' → K (.slice p' m cap') H') :
    evW PR (Builtin.append_ #[ty_Sbool, ty_Sbool] ty #[.slice (some ⟨b, 0, none⟩) 0 0, .slice q m qc]) (upd H b (.cells #[] e0)) K :=
  app_copy (z := (.bool false)) tu_ty_Sbool tu_ty_Sbool ti_ty_bool rfl (by decide) hb hq hone hroom hK
theorem mko_ty_Sbool {n : Int} {H : Hp} {K : Value → Hp → Prop} (h0 : 0 ≤ n) (h1 : n * 1 ≤ 2 ^ 47) (h2 : n < 2 ^ 62)
    (hK : ∀ p H', Own H' 1 p n.toNat n.toNat (List.replicate n.toNat (.bool false)) → Goes Nothing H (blk p) H' → K (.slice p n.toNat n.toNat) H') : evW PR (Instr.makeSlice ty_Sbool (.int .i64 n) (.int .i64 n)) H K :=
  make_own (z := (.bool false)) tu_ty_Sbool ti_ty_bool rfl h0 h1 h2 hK
theorem clr_ty_Sbool {ty n cap : Nat} {p : Option Addr} {xs : List Value} {H : Hp} {K : Value → Hp → Prop} (ho : Own H 1 p n cap xs)
    (hK : ∀ H', Own H' 1 p n cap (List.replicate n (.bool false)) → Goes (blk p) H (blk p) H' → K (.tuple #[]) H') : evW PR (Builtin.clear_ #[ty_Sbool] ty #[.slice p n cap]) H K :=
  clear_own (z := (.bool false)) tu_ty_Sbool ti_ty_bool rfl rfl ho hK
theorem mk_ty_Sbool {n : Int} {H : Hp} {K : Value → Hp → Prop} (h0 : 0 ≤ n) (h1 : n * 1 ≤ 2 ^ 47) (h2 : n < 2 ^ 62)
    (hK : ∀ b cs, H b = none → cs.size = n.toNat * 1 → (∀ i, i < n.toNat * 1 → cs[i]? = ((.bool false) : Value).cells[i % 1]?) → K (.slice (some ⟨b, 0, none⟩) n.toNat n.toNat) (upd H b (.cells cs 4 (0, 0)))) :
    evW PR (Instr.makeSlice ty_Sbool (.int .i64 n) (.int .i64 n)) H K :=
  make_at (z := (.bool false)) tu_ty_Sbool ti_ty_bool h0 h1 h2 rfl (by decide) hK
theorem tu_ty_Sint : PR.underlying ty_Sint = some (.slice 3) := by kernel_rfl
theorem app_ty_Sint {ty : Nat} {p q : Option Addr} {n cap m qc : Nat} {xs ys : List Value} {H : Hp} {K : Value → Hp → Prop} (h : Own H 1 p n cap xs) (hq : Rd H 1 q m ys) (hone : ∀ y ∈ ys, one y = true) (hroom : (2 * (n + m) + 512) * 8 ≤ 2 ^ 48)
    (hK : ∀ p' cap' H', Own H' 1 p' (n + m) cap' (xs ++ ys) → Keep (blk p) H H' → (∀ b, blk p' b → blk p b ∨ H b = none) → K (.slice p' (n + m) cap') H') :
    evW PR (Builtin.append_ #[ty_Sint, ty_Sint] ty #[.slice p n cap, .slice q m qc]) H K :=
  append_at (z := (.int .i64 0)) tu_ty_Sint tu_ty_Sint ti_ty_int rfl (by decide) h hq hone hroom hK
theorem lit_ty_Sint {ty m : Nat} {e0 : TypeId} {p : Option Addr} {n cap : Nat} {xs : List Value} {c : Array Value} {H : Hp} {K : Value → Hp → Prop} (h : Own H 1 p n cap xs) (hs : c.size = m * 1) (hone : ∀ y ∈ c.toList, one y = true) (hroom : (2 * (n + m) + 512) * 8 ≤ 2 ^ 48)
    (hK : ∀ p' cap' H', Own H' 1 p' (n + m) cap' (xs ++ c.toList) → Goes (blk p) H (blk p') H' → K (.slice p' (n + m) cap') H') :
    newB (.cells c e0) H fun b H1 => evW PR (Builtin.append_ #[ty_Sint, ty_Sint] ty #[.slice p n cap, .slice (some ⟨b, 0, none⟩) m m]) H1 K :=
  app_lit (z := (.int .i64 0)) tu_ty_Sint tu_ty_Sint ti_ty_int rfl (by decide) h hs hone hroom hK
theorem copy_ty_Sint {ty m qc : Nat} {e0 : TypeId} {b : Nat} {q : Option Addr} {ys : List Value} {H : Hp} {K : Value → Hp → Prop} (hb : H b = none) (hq : Rd H 1 q m ys) (hone : ∀ y ∈ ys, one y = true) (hroom : (2 * m + 512) * 8 ≤ 2 ^ 48)
    (hK : ∀ p' cap' H', Own H' 1 p' m cap' ys → Goes Nothing H (blk p') H' → K (.slice p' m cap') H') :
    evW PR (Builtin.append_ #[ty_Sint, ty_Sint] ty #[.slice (some ⟨b, 0, none⟩) 0 0, .slice q m qc]) (upd H b (.cells #[] e0)) K :=
  app_copy (z := (.int .i64 0)) tu_ty_Sint tu_ty_Sint ti_ty_int rfl (by decide) hb hq hone hroom hK
theorem mko_ty_Sint {n : Int} {H : Hp} {K : Value → Hp → Prop} (h0 : 0 ≤ n) (h1 : n * 8 ≤ 2 ^ 47) (h2 : n < 2 ^ 62)
    (hK : ∀ p H', Own H' 1 p n.toNat n.toNat (List.replicate n.toNat (.int .i64 0)) → Goes Nothing H (blk p) H' → K (.slice p n.toNat n.toNat) H') : evW PR (Instr.makeSlice ty_Sint (.int .i64 n) (.int .i64 n)) H K :=
  make_own (z := (.int .i64 0)) tu_ty_Sint ti_ty_int rfl h0 h1 h2 hK
theorem clr_ty_Sint {ty n cap : Nat} {p : Option Addr} {xs : List Value} {H : Hp} {K : Value → Hp → Prop} (ho : Own H 1 p n cap xs)
    (hK : ∀ H', Own H' 1 p n cap (List.replicate n (.int .i64 0)) → Goes (blk p) H (blk p) H' → K (.tuple #[]) H') : evW PR (Builtin.clear_ #[ty_Sint] ty #[.slice p n cap]) H K :=
  clear_own (z := (.int .i64 0)) tu_ty_Sint ti_ty_int rfl rfl ho hK
theorem mk_ty_Sint {n : Int} {H : Hp} {K : Value → Hp → Prop} (h0 : 0 ≤ n) (h1 : n * 8 ≤ 2 ^ 47) (h2 : n < 2 ^ 62)
    (hK : ∀ b cs, H b = none → cs.size = n.toNat * 1 → (∀ i, i < n.toNat * 1 → cs[i]? = ((.int .i64 0) : Value).cells[i % 1]?) → K (.slice (some ⟨b, 0, none⟩) n.toNat n.toNat) (upd H b (.cells cs 3 (0, 0)))) :
    evW PR (Instr.makeSlice ty_Sint (.int .i64 n) (.int .i64 n)) H K :=
  make_at (z := (.int .i64 0)) tu_ty_Sint ti_ty_int h0 h1 h2 rfl (by decide) hK
theorem tu_ty_Smooringlaw8_Step : PR.underlying ty_Smooringlaw8_Step = some (.slice 49) := by kernel_rfl
theorem app_ty_Smooringlaw8_Step {ty : Nat} {p q : Option Addr} {n cap m qc : Nat} {xs ys : List Value} {H : Hp} {K : Value → Hp → Prop} (h : Own H 8 p n cap xs) (hq : Rd H 8 q m ys) (hone : ∀ y ∈ ys, one y = true) (hroom : (2 * (n + m) + 512) * 64 ≤ 2 ^ 48)
    (hK : ∀ p' cap' H', Own H' 8 p' (n + m) cap' (xs ++ ys) → Keep (blk p) H H' → (∀ b, blk p' b → blk p b ∨ H b = none) → K (.slice p' (n + m) cap') H') :
    evW PR (Builtin.append_ #[ty_Smooringlaw8_Step, ty_Smooringlaw8_Step] ty #[.slice p n cap, .slice q m qc]) H K :=
  append_at (z := (.agg #[(.int .i64 0), (.int .i64 0), (.int .i64 0), (.int .u64 0), (.int .u64 0), (.int .i64 0), (.int .u64 0), (.bool false)])) tu_ty_Smooringlaw8_Step tu_ty_Smooringlaw8_Step ti_ty_law8_Step rfl (by decide) h hq hone hroom hK
theorem lit_ty_Smooringlaw8_Step {ty m : Nat} {e0 : TypeId} {p : Option Addr} {n cap : Nat} {xs : List Value} {c : Array Value} {H : Hp} {K : Value → Hp → Prop} (h : Own H 8 p n cap xs) (hs : c.size = m * 8) (hone : ∀ y ∈ c.toList, one y = true) (hroom : (2 * (n + m) + 512) * 64 ≤ 2 ^ 48)
    (hK : ∀ p' cap' H', Own H' 8 p' (n + m) cap' (xs ++ c.toList) → Goes (blk p) H (blk p') H' → K (.slice p' (n + m) cap') H') :
    newB (.cells c e0) H fun b H1 => evW PR (Builtin.append_ #[ty_Smooringlaw8_Step, ty_Smooringlaw8_Step] ty #[.slice p n cap, .slice (some ⟨b, 0, none⟩) m m]) H1 K :=
  app_lit (z := (.agg #[(.int .i64 0), (.int .i64 0), (.int .i64 0), (.int .u64 0), (.int .u64 0), (.int .i64 0), (.int .u64 0), (.bool false)])) tu_ty_Smooringlaw8_Step tu_ty_Smooringlaw8_Step ti_ty_law8_Step rfl (by decide) h hs hone hroom hK
theorem copy_ty_Smooringlaw8_Step {ty m qc : Nat} {e0 : TypeId} {b : Nat} {q : Option Addr} {ys : List Value} {H : Hp} {K : Value → Hp → Prop} (hb : H b = none) (hq : Rd H 8 q m ys) (hone : ∀ y ∈ ys, one y = true) (hroom : (2 * m + 512) * 64 ≤ 2 ^ 48)
    (hK : ∀ p' cap' H', Own H' 8 p' m cap' ys → Goes Nothing H (blk p') H' → K (.slice p' m cap') H') :
    evW PR (Builtin.append_ #[ty_Smooringlaw8_Step, ty_Smooringlaw8_Step] ty #[.slice (some ⟨b, 0, none⟩) 0 0, .slice q m qc]) (upd H b (.cells #[] e0)) K :=
  app_copy (z := (.agg #[(.int .i64 0), (.int .i64 0), (.int .i64 0), (.int .u64 0), (.int .u64 0), (.int .i64 0), (.int .u64 0), (.bool false)])) tu_ty_Smooringlaw8_Step tu_ty_Smooringlaw8_Step ti_ty_law8_Step rfl (by decide) hb hq hone hroom hK
theorem mk_ty_Smooringlaw8_Step {n : Int} {H : Hp} {K : Value → Hp → Prop} (h0 : 0 ≤ n) (h1 : n * 64 ≤ 2 ^ 47) (h2 : n < 2 ^ 62)
    (hK : ∀ b cs, H b = none → cs.size = n.toNat * 8 → (∀ i, i < n.toNat * 8 → cs[i]? = ((.agg #[(.int .i64 0), (.int .i64 0), (.int .i64 0), (.int .u64 0), (.int .u64 0), (.int .i64 0), (.int .u64 0), (.bool false)]) : Value).cells[i % 8]?) → K (.slice (some ⟨b, 0, none⟩) n.toNat n.toNat) (upd H b (.cells cs 49 (0, 0)))) :
    evW PR (Instr.makeSlice ty_Smooringlaw8_Step (.int .i64 n) (.int .i64 n)) H K :=
  make_at (z := (.agg #[(.int .i64 0), (.int .i64 0), (.int .i64 0), (.int .u64 0), (.int .u64 0), (.int .i64 0), (.int .u64 0), (.bool false)])) tu_ty_Smooringlaw8_Step ti_ty_law8_Step h0 h1 h2 rfl (by decide) hK
theorem tu_ty_Smooringref11_mark : PR.underlying ty_Smooringref11_mark = some (.slice 190) := by kernel_rfl
theorem app_ty_Smooringref11_mark {ty : Nat} {p q : Option Addr} {n cap m qc : Nat} {xs ys : List Value} {H : Hp} {K : Value → Hp → Prop} (h : Own H 3 p n cap xs) (hq : Rd H 3 q m ys) (hone : ∀ y ∈ ys, one y = true) (hroom : (2 * (n + m) + 512) * 24 ≤ 2 ^ 48)
    (hK : ∀ p' cap' H', Own H' 3 p' (n + m) cap' (xs ++ ys) → Keep (blk p) H H' → (∀ b, blk p' b → blk p b ∨ H b = none) → K (.slice p' (n + m) cap') H') :
    evW PR (Builtin.append_ #[ty_Smooringref11_mark, ty_Smooringref11_mark] ty #[.slice p n cap, .slice q m qc]) H K :=
  append_at (z := (.agg #[(.int .u64 0), (.int .i64 0), (.bool false)])) tu_ty_Smooringref11_mark tu_ty_Smooringref11_mark ti_ty_ref11_mark rfl (by decide) h hq hone hroom hK
theorem lit_ty_Smooringref11_mark {ty m : Nat} {e0 : TypeId} {p : Option Addr} {n cap : Nat} {xs : List Value} {c : Array Value} {H : Hp} {K : Value → Hp → Prop} (h : Own H 3 p n cap xs) (hs : c.size = m * 3) (hone : ∀ y ∈ c.toList, one y = true) (hroom : (2 * (n + m) + 512) * 24 ≤ 2 ^ 48)
    (hK : ∀ p' cap' H', Own H' 3 p' (n + m) cap' (xs ++ c.toList) → Goes (blk p) H (blk p') H' → K (.slice p' (n + m) cap') H') :
    newB (.cells c e0) H fun b H1 => evW PR (Builtin.append_ #[ty_Smooringref11_mark, ty_Smooringref11_mark] ty #[.slice p n cap, .slice (some ⟨b, 0, none⟩) m m]) H1 K :=
  app_lit (z := (.agg #[(.int .u64 0), (.int .i64 0), (.bool false)])) tu_ty_Smooringref11_mark tu_ty_Smooringref11_mark ti_ty_ref11_mark rfl (by decide) h hs hone hroom hK
theorem copy_ty_Smooringref11_mark {ty m qc : Nat} {e0 : TypeId} {b : Nat} {q : Option Addr} {ys : List Value} {H : Hp} {K : Value → Hp → Prop} (hb : H b = none) (hq : Rd H 3 q m ys) (hone : ∀ y ∈ ys, one y = true) (hroom : (2 * m + 512) * 24 ≤ 2 ^ 48)
    (hK : ∀ p' cap' H', Own H' 3 p' m cap' ys → Goes Nothing H (blk p') H' → K (.slice p' m cap') H') :
    evW PR (Builtin.append_ #[ty_Smooringref11_mark, ty_Smooringref11_mark] ty #[.slice (some ⟨b, 0, none⟩) 0 0, .slice q m qc]) (upd H b (.cells #[] e0)) K :=
  app_copy (z := (.agg #[(.int .u64 0), (.int .i64 0), (.bool false)])) tu_ty_Smooringref11_mark tu_ty_Smooringref11_mark ti_ty_ref11_mark rfl (by decide) hb hq hone hroom hK
theorem mk_ty_Smooringref11_mark {n : Int} {H : Hp} {K : Value → Hp → Prop} (h0 : 0 ≤ n) (h1 : n * 24 ≤ 2 ^ 47) (h2 : n < 2 ^ 62)
    (hK : ∀ b cs, H b = none → cs.size = n.toNat * 3 → (∀ i, i < n.toNat * 3 → cs[i]? = ((.agg #[(.int .u64 0), (.int .i64 0), (.bool false)]) : Value).cells[i % 3]?) → K (.slice (some ⟨b, 0, none⟩) n.toNat n.toNat) (upd H b (.cells cs 190 (0, 0)))) :
    evW PR (Instr.makeSlice ty_Smooringref11_mark (.int .i64 n) (.int .i64 n)) H K :=
  make_at (z := (.agg #[(.int .u64 0), (.int .i64 0), (.bool false)])) tu_ty_Smooringref11_mark ti_ty_ref11_mark h0 h1 h2 rfl (by decide) hK
theorem tu_ty_Spapi_Object : PR.underlying ty_Spapi_Object = some (.slice 103) := by kernel_rfl
theorem app_ty_Spapi_Object {ty : Nat} {p q : Option Addr} {n cap m qc : Nat} {xs ys : List Value} {H : Hp} {K : Value → Hp → Prop} (h : Own H 1 p n cap xs) (hq : Rd H 1 q m ys) (hone : ∀ y ∈ ys, one y = true) (hroom : (2 * (n + m) + 512) * 8 ≤ 2 ^ 48)
    (hK : ∀ p' cap' H', Own H' 1 p' (n + m) cap' (xs ++ ys) → Keep (blk p) H H' → (∀ b, blk p' b → blk p b ∨ H b = none) → K (.slice p' (n + m) cap') H') :
    evW PR (Builtin.append_ #[ty_Spapi_Object, ty_Spapi_Object] ty #[.slice p n cap, .slice q m qc]) H K :=
  append_at (z := (.pointer none)) tu_ty_Spapi_Object tu_ty_Spapi_Object ti_ty_papi_Object rfl (by decide) h hq hone hroom hK
theorem lit_ty_Spapi_Object {ty m : Nat} {e0 : TypeId} {p : Option Addr} {n cap : Nat} {xs : List Value} {c : Array Value} {H : Hp} {K : Value → Hp → Prop} (h : Own H 1 p n cap xs) (hs : c.size = m * 1) (hone : ∀ y ∈ c.toList, one y = true) (hroom : (2 * (n + m) + 512) * 8 ≤ 2 ^ 48)
    (hK : ∀ p' cap' H', Own H' 1 p' (n + m) cap' (xs ++ c.toList) → Goes (blk p) H (blk p') H' → K (.slice p' (n + m) cap') H') :
    newB (.cells c e0) H fun b H1 => evW PR (Builtin.append_ #[ty_Spapi_Object, ty_Spapi_Object] ty #[.slice p n cap, .slice (some ⟨b, 0, none⟩) m m]) H1 K :=
  app_lit (z := (.pointer none)) tu_ty_Spapi_Object tu_ty_Spapi_Object ti_ty_papi_Object rfl (by decide) h hs hone hroom hK
theorem copy_ty_Spapi_Object {ty m qc : Nat} {e0 : TypeId} {b : Nat} {q : Option Addr} {ys : List Value} {H : Hp} {K : Value → Hp → Prop} (hb : H b = none) (hq : Rd H 1 q m ys) (hone : ∀ y ∈ ys, one y = true) (hroom : (2 * m + 512) * 8 ≤ 2 ^ 48)
    (hK : ∀ p' cap' H', Own H' 1 p' m cap' ys → Goes Nothing H (blk p') H' → K (.slice p' m cap') H') :
    evW PR (Builtin.append_ #[ty_Spapi_Object, ty_Spapi_Object] ty #[.slice (some ⟨b, 0, none⟩) 0 0, .slice q m qc]) (upd H b (.cells #[] e0)) K :=
  app_copy (z := (.pointer none)) tu_ty_Spapi_Object tu_ty_Spapi_Object ti_ty_papi_Object rfl (by decide) hb hq hone hroom hK
theorem mko_ty_Spapi_Object {n : Int} {H : Hp} {K : Value → Hp → Prop} (h0 : 0 ≤ n) (h1 : n * 8 ≤ 2 ^ 47) (h2 : n < 2 ^ 62)
    (hK : ∀ p H', Own H' 1 p n.toNat n.toNat (List.replicate n.toNat (.pointer none)) → Goes Nothing H (blk p) H' → K (.slice p n.toNat n.toNat) H') : evW PR (Instr.makeSlice ty_Spapi_Object (.int .i64 n) (.int .i64 n)) H K :=
  make_own (z := (.pointer none)) tu_ty_Spapi_Object ti_ty_papi_Object rfl h0 h1 h2 hK
theorem clr_ty_Spapi_Object {ty n cap : Nat} {p : Option Addr} {xs : List Value} {H : Hp} {K : Value → Hp → Prop} (ho : Own H 1 p n cap xs)
    (hK : ∀ H', Own H' 1 p n cap (List.replicate n (.pointer none)) → Goes (blk p) H (blk p) H' → K (.tuple #[]) H') : evW PR (Builtin.clear_ #[ty_Spapi_Object] ty #[.slice p n cap]) H K :=
  clear_own (z := (.pointer none)) tu_ty_Spapi_Object ti_ty_papi_Object rfl rfl ho hK
theorem mk_ty_Spapi_Object {n : Int} {H : Hp} {K : Value → Hp → Prop} (h0 : 0 ≤ n) (h1 : n * 8 ≤ 2 ^ 47) (h2 : n < 2 ^ 62)
    (hK : ∀ b cs, H b = none → cs.size = n.toNat * 1 → (∀ i, i < n.toNat * 1 → cs[i]? = ((.pointer none) : Value).cells[i % 1]?) → K (.slice (some ⟨b, 0, none⟩) n.toNat n.toNat) (upd H b (.cells cs 103 (0, 0)))) :
    evW PR (Instr.makeSlice ty_Spapi_Object (.int .i64 n) (.int .i64 n)) H K :=
  make_at (z := (.pointer none)) tu_ty_Spapi_Object ti_ty_papi_Object h0 h1 h2 rfl (by decide) hK
theorem tu_ty_Suint16 : PR.underlying ty_Suint16 = some (.slice 207) := by kernel_rfl
theorem app_ty_Suint16 {ty : Nat} {p q : Option Addr} {n cap m qc : Nat} {xs ys : List Value} {H : Hp} {K : Value → Hp → Prop} (h : Own H 1 p n cap xs) (hq : Rd H 1 q m ys) (hone : ∀ y ∈ ys, one y = true) (hroom : (2 * (n + m) + 512) * 2 ≤ 2 ^ 48)
    (hK : ∀ p' cap' H', Own H' 1 p' (n + m) cap' (xs ++ ys) → Keep (blk p) H H' → (∀ b, blk p' b → blk p b ∨ H b = none) → K (.slice p' (n + m) cap') H') :
    evW PR (Builtin.append_ #[ty_Suint16, ty_Suint16] ty #[.slice p n cap, .slice q m qc]) H K :=
  append_at (z := (.int .u16 0)) tu_ty_Suint16 tu_ty_Suint16 ti_ty_uint16 rfl (by decide) h hq hone hroom hK
theorem lit_ty_Suint16 {ty m : Nat} {e0 : TypeId} {p : Option Addr} {n cap : Nat} {xs : List Value} {c : Array Value} {H : Hp} {K : Value → Hp → Prop} (h : Own H 1 p n cap xs) (hs : c.size = m * 1) (hone : ∀ y ∈ c.toList, one y = true) (hroom : (2 * (n + m) + 512) * 2 ≤ 2 ^ 48)
    (hK : ∀ p' cap' H', Own H' 1 p' (n + m) cap' (xs ++ c.toList) → Goes (blk p) H (blk p') H' → K (.slice p' (n + m) cap') H') :
    newB (.cells c e0) H fun b H1 => evW PR (Builtin.append_ #[ty_Suint16, ty_Suint16] ty #[.slice p n cap, .slice (some ⟨b, 0, none⟩) m m]) H1 K :=
  app_lit (z := (.int .u16 0)) tu_ty_Suint16 tu_ty_Suint16 ti_ty_uint16 rfl (by decide) h hs hone hroom hK
theorem copy_ty_Suint16 {ty m qc : Nat} {e0 : TypeId} {b : Nat} {q : Option Addr} {ys : List Value} {H : Hp} {K : Value → Hp → Prop} (hb : H b = none) (hq : Rd H 1 q m ys) (hone : ∀ y ∈ ys, one y = true) (hroom : (2 * m + 512) * 2 ≤ 2 ^ 48)
    (hK : ∀ p' cap' H', Own H' 1 p' m cap' ys → Goes Nothing H (blk p') H' → K (.slice p' m cap') H') :
    evW PR (Builtin.append_ #[ty_Suint16, ty_Suint16] ty #[.slice (some ⟨b, 0, none⟩) 0 0, .slice q m qc]) (upd H b (.cells #[] e0)) K :=
  app_copy (z := (.int .u16 0)) tu_ty_Suint16 tu_ty_Suint16 ti_ty_uint16 rfl (by decide) hb hq hone hroom hK
theorem mko_ty_Suint16 {n : Int} {H : Hp} {K : Value → Hp → Prop} (h0 : 0 ≤ n) (h1 : n * 2 ≤ 2 ^ 47) (h2 : n < 2 ^ 62)
    (hK : ∀ p H', Own H' 1 p n.toNat n.toNat (List.replicate n.toNat (.int .u16 0)) → Goes Nothing H (blk p) H' → K (.slice p n.toNat n.toNat) H') : evW PR (Instr.makeSlice ty_Suint16 (.int .i64 n) (.int .i64 n)) H K :=
  make_own (z := (.int .u16 0)) tu_ty_Suint16 ti_ty_uint16 rfl h0 h1 h2 hK
theorem clr_ty_Suint16 {ty n cap : Nat} {p : Option Addr} {xs : List Value} {H : Hp} {K : Value → Hp → Prop} (ho : Own H 1 p n cap xs)
    (hK : ∀ H', Own H' 1 p n cap (List.replicate n (.int .u16 0)) → Goes (blk p) H (blk p) H' → K (.tuple #[]) H') : evW PR (Builtin.clear_ #[ty_Suint16] ty #[.slice p n cap]) H K :=
  clear_own (z := (.int .u16 0)) tu_ty_Suint16 ti_ty_uint16 rfl rfl ho hK
theorem mk_ty_Suint16 {n : Int} {H : Hp} {K : Value → Hp → Prop} (h0 : 0 ≤ n) (h1 : n * 2 ≤ 2 ^ 47) (h2 : n < 2 ^ 62)
    (hK : ∀ b cs, H b = none → cs.size = n.toNat * 1 → (∀ i, i < n.toNat * 1 → cs[i]? = ((.int .u16 0) : Value).cells[i % 1]?) → K (.slice (some ⟨b, 0, none⟩) n.toNat n.toNat) (upd H b (.cells cs 207 (0, 0)))) :
    evW PR (Instr.makeSlice ty_Suint16 (.int .i64 n) (.int .i64 n)) H K :=
  make_at (z := (.int .u16 0)) tu_ty_Suint16 ti_ty_uint16 h0 h1 h2 rfl (by decide) hK
theorem tu_ty_Suint64 : PR.underlying ty_Suint64 = some (.slice 26) := by kernel_rfl
theorem app_ty_Suint64 {ty : Nat} {p q : Option Addr} {n cap m qc : Nat} {xs ys : List Value} {H : Hp} {K : Value → Hp → Prop} (h : Own H 1 p n cap xs) (hq : Rd H 1 q m ys) (hone : ∀ y ∈ ys, one y = true) (hroom : (2 * (n + m) + 512) * 8 ≤ 2 ^ 48)
    (hK : ∀ p' cap' H', Own H' 1 p' (n + m) cap' (xs ++ ys) → Keep (blk p) H H' → (∀ b, blk p' b → blk p b ∨ H b = none) → K (.slice p' (n + m) cap') H') :
    evW PR (Builtin.append_ #[ty_Suint64, ty_Suint64] ty #[.slice p n cap, .slice q m qc]) H K :=
  append_at (z := (.int .u64 0)) tu_ty_Suint64 tu_ty_Suint64 ti_ty_uint64 rfl (by decide) h hq hone hroom hK
theorem lit_ty_Suint64 {ty m : Nat} {e0 : TypeId} {p : Option Addr} {n cap : Nat} {xs : List Value} {c : Array Value} {H : Hp} {K : Value → Hp → Prop} (h : Own H 1 p n cap xs) (hs : c.size = m * 1) (hone : ∀ y ∈ c.toList, one y = true) (hroom : (2 * (n + m) + 512) * 8 ≤ 2 ^ 48)
    (hK : ∀ p' cap' H', Own H' 1 p' (n + m) cap' (xs ++ c.toList) → Goes (blk p) H (blk p') H' → K (.slice p' (n + m) cap') H') :
    newB (.cells c e0) H fun b H1 => evW PR (Builtin.append_ #[ty_Suint64, ty_Suint64] ty #[.slice p n cap, .slice (some ⟨b, 0, none⟩) m m]) H1 K :=
  app_lit (z := (.int .u64 0)) tu_ty_Suint64 tu_ty_Suint64 ti_ty_uint64 rfl (by decide) h hs hone hroom hK
theorem copy_ty_Suint64 {ty m qc : Nat} {e0 : TypeId} {b : Nat} {q : Option Addr} {ys : List Value} {H : Hp} {K : Value → Hp → Prop} (hb : H b = none) (hq : Rd H 1 q m ys) (hone : ∀ y ∈ ys, one y = true) (hroom : (2 * m + 512) * 8 ≤ 2 ^ 48)
    (hK : ∀ p' cap' H', Own H' 1 p' m cap' ys → Goes Nothing H (blk p') H' → K (.slice p' m cap') H') :
    evW PR (Builtin.append_ #[ty_Suint64, ty_Suint64] ty #[.slice (some ⟨b, 0, none⟩) 0 0, .slice q m qc]) (upd H b (.cells #[] e0)) K :=
  app_copy (z := (.int .u64 0)) tu_ty_Suint64 tu_ty_Suint64 ti_ty_uint64 rfl (by decide) hb hq hone hroom hK
theorem mko_ty_Suint64 {n : Int} {H : Hp} {K : Value → Hp → Prop} (h0 : 0 ≤ n) (h1 : n * 8 ≤ 2 ^ 47) (h2 : n < 2 ^ 62)
    (hK : ∀ p H', Own H' 1 p n.toNat n.toNat (List.replicate n.toNat (.int .u64 0)) → Goes Nothing H (blk p) H' → K (.slice p n.toNat n.toNat) H') : evW PR (Instr.makeSlice ty_Suint64 (.int .i64 n) (.int .i64 n)) H K :=
  make_own (z := (.int .u64 0)) tu_ty_Suint64 ti_ty_uint64 rfl h0 h1 h2 hK
theorem clr_ty_Suint64 {ty n cap : Nat} {p : Option Addr} {xs : List Value} {H : Hp} {K : Value → Hp → Prop} (ho : Own H 1 p n cap xs)
    (hK : ∀ H', Own H' 1 p n cap (List.replicate n (.int .u64 0)) → Goes (blk p) H (blk p) H' → K (.tuple #[]) H') : evW PR (Builtin.clear_ #[ty_Suint64] ty #[.slice p n cap]) H K :=
  clear_own (z := (.int .u64 0)) tu_ty_Suint64 ti_ty_uint64 rfl rfl ho hK
theorem mk_ty_Suint64 {n : Int} {H : Hp} {K : Value → Hp → Prop} (h0 : 0 ≤ n) (h1 : n * 8 ≤ 2 ^ 47) (h2 : n < 2 ^ 62)
    (hK : ∀ b cs, H b = none → cs.size = n.toNat * 1 → (∀ i, i < n.toNat * 1 → cs[i]? = ((.int .u64 0) : Value).cells[i % 1]?) → K (.slice (some ⟨b, 0, none⟩) n.toNat n.toNat) (upd H b (.cells cs 26 (0, 0)))) :
    evW PR (Instr.makeSlice ty_Suint64 (.int .i64 n) (.int .i64 n)) H K :=
  make_at (z := (.int .u64 0)) tu_ty_Suint64 ti_ty_uint64 h0 h1 h2 rfl (by decide) hK
end Go.Proofs.Ytohlnmenghbgbaa

/- PRINTED by ety.py: records of plain struct types. No condition. -/
namespace Go.Proofs.Ytohlnmenghbgbaa
open Go
structure E_api_ID where
  Node : Int
  Serial : Int
def E_api_ID.cells (x : E_api_ID) : List Value := [.int .i64 x.Node, .int .u64 x.Serial]
structure E_api_ID.ok (x : E_api_ID) : Prop where
  Node : IntKind.min .i64 ≤ x.Node ∧ x.Node ≤ IntKind.max .i64
  Serial : IntKind.min .u64 ≤ x.Serial ∧ x.Serial ≤ IntKind.max .u64
theorem E_api_ID.len (x : E_api_ID) : x.cells.length = 2 := rfl

structure E_law8_Step where
  What : Int
  A : Int
  B : Int
  Serial : Int
  V : Int
  X_Node : Int
  X_Serial : Int
  Near : Bool
def E_law8_Step.cells (x : E_law8_Step) : List Value := [.int .i64 x.What, .int .i64 x.A, .int .i64 x.B, .int .u64 x.Serial, .int .u64 x.V, .int .i64 x.X_Node, .int .u64 x.X_Serial, .bool x.Near]
structure E_law8_Step.ok (x : E_law8_Step) : Prop where
  What : IntKind.min .i64 ≤ x.What ∧ x.What ≤ IntKind.max .i64
  A : IntKind.min .i64 ≤ x.A ∧ x.A ≤ IntKind.max .i64
  B : IntKind.min .i64 ≤ x.B ∧ x.B ≤ IntKind.max .i64
  Serial : IntKind.min .u64 ≤ x.Serial ∧ x.Serial ≤ IntKind.max .u64
  V : IntKind.min .u64 ≤ x.V ∧ x.V ≤ IntKind.max .u64
  X_Node : IntKind.min .i64 ≤ x.X_Node ∧ x.X_Node ≤ IntKind.max .i64
  X_Serial : IntKind.min .u64 ≤ x.X_Serial ∧ x.X_Serial ≤ IntKind.max .u64
theorem E_law8_Step.len (x : E_law8_Step) : x.cells.length = 8 := rfl

structure E_law11_Step where
  What : Int
  Rank : Int
  Serial : Int
  X_Node : Int
  X_Serial : Int
  Near : Bool
def E_law11_Step.cells (x : E_law11_Step) : List Value := [.int .i64 x.What, .int .i64 x.Rank, .int .u64 x.Serial, .int .i64 x.X_Node, .int .u64 x.X_Serial, .bool x.Near]
structure E_law11_Step.ok (x : E_law11_Step) : Prop where
  What : IntKind.min .i64 ≤ x.What ∧ x.What ≤ IntKind.max .i64
  Rank : IntKind.min .i64 ≤ x.Rank ∧ x.Rank ≤ IntKind.max .i64
  Serial : IntKind.min .u64 ≤ x.Serial ∧ x.Serial ≤ IntKind.max .u64
  X_Node : IntKind.min .i64 ≤ x.X_Node ∧ x.X_Node ≤ IntKind.max .i64
  X_Serial : IntKind.min .u64 ≤ x.X_Serial ∧ x.X_Serial ≤ IntKind.max .u64
theorem E_law11_Step.len (x : E_law11_Step) : x.cells.length = 6 := rfl

structure E_law15_Step where
  What : Int
  Serial : Int
def E_law15_Step.cells (x : E_law15_Step) : List Value := [.int .i64 x.What, .int .u64 x.Serial]
structure E_law15_Step.ok (x : E_law15_Step) : Prop where
  What : IntKind.min .i64 ≤ x.What ∧ x.What ≤ IntKind.max .i64
  Serial : IntKind.min .u64 ≤ x.Serial ∧ x.Serial ≤ IntKind.max .u64
theorem E_law15_Step.len (x : E_law15_Step) : x.cells.length = 2 := rfl

structure E_law13_Step where
  What : Int
  A : Int
  Serial : Int
  X_Node : Int
  X_Serial : Int
def E_law13_Step.cells (x : E_law13_Step) : List Value := [.int .i64 x.What, .int .i64 x.A, .int .u64 x.Serial, .int .i64 x.X_Node, .int .u64 x.X_Serial]
structure E_law13_Step.ok (x : E_law13_Step) : Prop where
  What : IntKind.min .i64 ≤ x.What ∧ x.What ≤ IntKind.max .i64
  A : IntKind.min .i64 ≤ x.A ∧ x.A ≤ IntKind.max .i64
  Serial : IntKind.min .u64 ≤ x.Serial ∧ x.Serial ≤ IntKind.max .u64
  X_Node : IntKind.min .i64 ≤ x.X_Node ∧ x.X_Node ≤ IntKind.max .i64
  X_Serial : IntKind.min .u64 ≤ x.X_Serial ∧ x.X_Serial ≤ IntKind.max .u64
theorem E_law13_Step.len (x : E_law13_Step) : x.cells.length = 5 := rfl

structure E_law14_Way where
  Serial : Int
  Rank : Int
  Out_Node : Int
  Out_Serial : Int
  Scan : Bool
def E_law14_Way.cells (x : E_law14_Way) : List Value := [.int .u64 x.Serial, .int .i64 x.Rank, .int .i64 x.Out_Node, .int .u64 x.Out_Serial, .bool x.Scan]
structure E_law14_Way.ok (x : E_law14_Way) : Prop where
  Serial : IntKind.min .u64 ≤ x.Serial ∧ x.Serial ≤ IntKind.max .u64
  Rank : IntKind.min .i64 ≤ x.Rank ∧ x.Rank ≤ IntKind.max .i64
  Out_Node : IntKind.min .i64 ≤ x.Out_Node ∧ x.Out_Node ≤ IntKind.max .i64
  Out_Serial : IntKind.min .u64 ≤ x.Out_Serial ∧ x.Out_Serial ≤ IntKind.max .u64
theorem E_law14_Way.len (x : E_law14_Way) : x.cells.length = 5 := rfl

end Go.Proofs.Ytohlnmenghbgbaa
