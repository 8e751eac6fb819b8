/- PRINTED by gen.py: the numbers of functions and types. No condition. -/
import Derived.Test.YtdeihhfhcnhmfabShE2
import Derived.Test.YtdeihhfhcnhmfabProg
import Derived.KernelRfl
namespace Go.Proofs.Ytdeihhfhcnhmfab
open Go
noncomputable abbrev PR : Program := Try.prog
theorem PR_mixed : PR.follows .mixedOrders = true := by kernel_rfl
abbrev f_main_main : Nat := 0
abbrev f_gosem_cut : Nat := 1
abbrev f_gosem_cut_init : Nat := 2
abbrev f_law7_ArenaPlays : Nat := 3
abbrev f_arena_New : Nat := 4
abbrev f_law7_known : Nat := 5
abbrev f_ref7_New : Nat := 6
abbrev f_hand_Pick : Nat := 7
abbrev f_arena_Arena_Alloc : Nat := 8
abbrev f_ref7_Arena_Alloc : Nat := 9
abbrev f_arena_Arena_At : Nat := 10
abbrev f_ref7_Arena_At : Nat := 11
abbrev f_arena_Arena_Free : Nat := 12
abbrev f_ref7_Arena_Free : Nat := 13
abbrev f_arena_Arena_Used : Nat := 14
abbrev f_ref7_Arena_Used : Nat := 15
abbrev f_arena_Arena_Room : Nat := 16
abbrev f_ref7_Arena_Room : Nat := 17
abbrev f_arena_Arena_Blocks : Nat := 18
abbrev f_law7_ints : Nat := 19
abbrev f_arena_Class : Nat := 20
abbrev f_arena_full : Nat := 21
abbrev f_arena_Arena_take : Nat := 22
abbrev f_ref7_Class : Nat := 23
abbrev f_arena_Arena_place : Nat := 24
abbrev f_arena_bits : Nat := 25
abbrev f_runtime_boundsError_Error : Nat := 26
abbrev f_runtime_boundsError_RuntimeError : Nat := 27
abbrev f_runtime_errorString_Error : Nat := 28
abbrev f_runtime_errorString_RuntimeError : Nat := 29
abbrev f_runtime_plainError_Error : Nat := 30
abbrev f_runtime_plainError_RuntimeError : Nat := 31
abbrev f_runtime_errorAddressString_Error : Nat := 32
abbrev f_runtime_errorAddressString_RuntimeError : Nat := 33
abbrev f_runtime_TypeAssertionError_Error : Nat := 34
abbrev f_runtime_TypeAssertionError_RuntimeError : Nat := 35
abbrev f_runtime_PanicNilError_Error : Nat := 36
abbrev f_runtime_PanicNilError_RuntimeError : Nat := 37
abbrev f_internal_abi_Type_Align : Nat := 38
abbrev f_internal_runtime_maps_unhashableTypeError_Error : Nat := 39
abbrev f_internal_runtime_maps_unhashableTypeError_RuntimeError : Nat := 40
abbrev f_internal_abi_Kind_String : Nat := 41
abbrev ty_16_bool : Nat := 50
abbrev ty_S_16_bool : Nat := 41
abbrev ty_Sint : Nat := 30
abbrev ty_Suint16 : Nat := 45
abbrev ty_arena_Arena : Nat := 47
abbrev ty_int : Nat := 3
abbrev ty_ref7_Arena : Nat := 43
end Go.Proofs.Ytdeihhfhcnhmfab
