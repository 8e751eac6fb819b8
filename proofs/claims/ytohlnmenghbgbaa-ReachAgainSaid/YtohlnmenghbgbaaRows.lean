/-
  No cell of these rows narrows 'for every input' (looked for: loops, veiled, ifaces, maps, wideKeys, modest, calm, conditions, laid).
  DERIVED. THE GIVEN ROWS OF THIS SEAT. 23 by the template 'for every input the law returns true; each argument reads behind the call as it read before'; 0 by the template 'total and deterministic' (their statements: YtohlnmenghbgbaaTotals.lean).
  GIVEN WITH THE SEED: the statements are not yours to turn. If you find one false, say at which input.
  Laid BY PROGRAM, IN A SANDBOX (cutbox-rows.mjs): the forced cells as the released guide's own fill.sh prints them over the translation 0d0085dd59360689… (all of the seat's roots in one cut). By AI agents, Wed Nov 11 2026. No macro, syntax, notation, axiom, sorry.
-/
import Derived.Test.YtohlnmenghbgbaaChecked
import GoSem.Claim
import GoSem.ClaimJoined
import GoSem.ClaimMapViews
import Derived.JoinedTies
import Derived.KernelRfl
namespace Go.Proofs.Ytohlnmenghbgbaa
/- THE CELL 'sum', in the pinned program and in every row, IS THE sha256 OF THE DUMP (.gsa) THAT YtohlnmenghbgbaaProg.lean LOADS. Nothing in Lean hashes anything: it is a label: what it is worth is what the hold of that sum in a sandbox is worth. -/
noncomputable def Try.pinned : Pinned := { name := "ytohlnmenghbgbaa", sum := "0d0085dd59360689892b34bc881c7f2e0254031fa09b44f06a865600a310e048", checked := Try.checked }
namespace Rows
def none {H : Type} : Left H := { results := [], args := [] }

/-- 'mooringlaw8.HeapKnown': WHATEVER THE INPUT: true; the input reads as it did. -/
def heapKnownSpec : ChangeSpec := { name := "heapKnown", fn := fun _ => fun
  | [] => { results := [.lit (.bool true)], args := [] }
  | _ => none }
def heapKnownRow : OpenClaim := { program := "ytohlnmenghbgbaa", sum := "0d0085dd59360689892b34bc881c7f2e0254031fa09b44f06a865600a310e048", func := "mooring/mooringlaw8.HeapKnown", spec := "heapKnown", plainKeys := false, apart := false }
def HeapKnownSaid : Prop := heapKnownRow.holds Try.pinned (OpenSpec.ofChange heapKnownSpec)

/-- ITS FALSE NEIGHBOUR: 'it returns false'. Refute it at one input. -/
def heapKnownWrong : ChangeSpec := { name := "heapKnown", fn := fun _ => fun
  | [] => { results := [.lit (.bool false)], args := [] }
  | _ => none }
def HeapKnownWrongFalsely : Prop := heapKnownRow.holds Try.pinned (OpenSpec.ofChange heapKnownWrong)

/-- 'mooringlaw8.HeapOwn': WHATEVER THE INPUT: true; the input reads as it did. -/
def heapOwnSpec : ChangeSpec := { name := "heapOwn", fn := fun _ => fun
  | [d1, d2, d3] => { results := [.lit (.bool true)], args := [d1, d2, d3] }
  | _ => none }
def heapOwnRow : OpenClaim := { program := "ytohlnmenghbgbaa", sum := "0d0085dd59360689892b34bc881c7f2e0254031fa09b44f06a865600a310e048", func := "mooring/mooringlaw8.HeapOwn", spec := "heapOwn", plainKeys := false, apart := false }
def HeapOwnSaid : Prop := heapOwnRow.holds Try.pinned (OpenSpec.ofChange heapOwnSpec)

/-- ITS FALSE NEIGHBOUR: 'it returns false'. Refute it at one input. -/
def heapOwnWrong : ChangeSpec := { name := "heapOwn", fn := fun _ => fun
  | [d1, d2, d3] => { results := [.lit (.bool false)], args := [d1, d2, d3] }
  | _ => none }
def HeapOwnWrongFalsely : Prop := heapOwnRow.holds Try.pinned (OpenSpec.ofChange heapOwnWrong)

/-- 'mooringlaw8.HeapApart': WHATEVER THE INPUT: true; the input reads as it did. -/
def heapApartSpec : ChangeSpec := { name := "heapApart", fn := fun _ => fun
  | [d1, d2] => { results := [.lit (.bool true)], args := [d1, d2] }
  | _ => none }
def heapApartRow : OpenClaim := { program := "ytohlnmenghbgbaa", sum := "0d0085dd59360689892b34bc881c7f2e0254031fa09b44f06a865600a310e048", func := "mooring/mooringlaw8.HeapApart", spec := "heapApart", plainKeys := false, apart := false }
def HeapApartSaid : Prop := heapApartRow.holds Try.pinned (OpenSpec.ofChange heapApartSpec)

/-- ITS FALSE NEIGHBOUR: 'it returns false'. Refute it at one input. -/
def heapApartWrong : ChangeSpec := { name := "heapApart", fn := fun _ => fun
  | [d1, d2] => { results := [.lit (.bool false)], args := [d1, d2] }
  | _ => none }
def HeapApartWrongFalsely : Prop := heapApartRow.holds Try.pinned (OpenSpec.ofChange heapApartWrong)

/-- 'mooringlaw8.HeapEnds': WHATEVER THE INPUT: true; the input reads as it did. -/
def heapEndsSpec : ChangeSpec := { name := "heapEnds", fn := fun _ => fun
  | [d] => { results := [.lit (.bool true)], args := [d] }
  | _ => none }
def heapEndsRow : OpenClaim := { program := "ytohlnmenghbgbaa", sum := "0d0085dd59360689892b34bc881c7f2e0254031fa09b44f06a865600a310e048", func := "mooring/mooringlaw8.HeapEnds", spec := "heapEnds", plainKeys := false, apart := false }
def HeapEndsSaid : Prop := heapEndsRow.holds Try.pinned (OpenSpec.ofChange heapEndsSpec)

/-- ITS FALSE NEIGHBOUR: 'it returns false'. Refute it at one input. -/
def heapEndsWrong : ChangeSpec := { name := "heapEnds", fn := fun _ => fun
  | [d] => { results := [.lit (.bool false)], args := [d] }
  | _ => none }
def HeapEndsWrongFalsely : Prop := heapEndsRow.holds Try.pinned (OpenSpec.ofChange heapEndsWrong)

/-- 'mooringlaw8.HeapOnce': WHATEVER THE INPUT: true; the input reads as it did. -/
def heapOnceSpec : ChangeSpec := { name := "heapOnce", fn := fun _ => fun
  | [d1, d2] => { results := [.lit (.bool true)], args := [d1, d2] }
  | _ => none }
def heapOnceRow : OpenClaim := { program := "ytohlnmenghbgbaa", sum := "0d0085dd59360689892b34bc881c7f2e0254031fa09b44f06a865600a310e048", func := "mooring/mooringlaw8.HeapOnce", spec := "heapOnce", plainKeys := false, apart := false }
def HeapOnceSaid : Prop := heapOnceRow.holds Try.pinned (OpenSpec.ofChange heapOnceSpec)

/-- ITS FALSE NEIGHBOUR: 'it returns false'. Refute it at one input. -/
def heapOnceWrong : ChangeSpec := { name := "heapOnce", fn := fun _ => fun
  | [d1, d2] => { results := [.lit (.bool false)], args := [d1, d2] }
  | _ => none }
def HeapOnceWrongFalsely : Prop := heapOnceRow.holds Try.pinned (OpenSpec.ofChange heapOnceWrong)

/-- 'mooringlaw8.HeapPlays': WHATEVER THE INPUT: true; the input reads as it did. -/
def heapPlaysSpec : ChangeSpec := { name := "heapPlays", fn := fun _ => fun
  | [d1, d2, d3, d4, d5] => { results := [.lit (.bool true)], args := [d1, d2, d3, d4, d5] }
  | _ => none }
def heapPlaysRow : OpenClaim := { program := "ytohlnmenghbgbaa", sum := "0d0085dd59360689892b34bc881c7f2e0254031fa09b44f06a865600a310e048", func := "mooring/mooringlaw8.HeapPlays", spec := "heapPlays", plainKeys := false, apart := false }
def HeapPlaysSaid : Prop := heapPlaysRow.holds Try.pinned (OpenSpec.ofChange heapPlaysSpec)

/-- ITS FALSE NEIGHBOUR: 'it returns false'. Refute it at one input. -/
def heapPlaysWrong : ChangeSpec := { name := "heapPlays", fn := fun _ => fun
  | [d1, d2, d3, d4, d5] => { results := [.lit (.bool false)], args := [d1, d2, d3, d4, d5] }
  | _ => none }
def HeapPlaysWrongFalsely : Prop := heapPlaysRow.holds Try.pinned (OpenSpec.ofChange heapPlaysWrong)

/-- 'mooringlaw8.HeapSmall': WHATEVER THE INPUT: true; the input reads as it did. -/
def heapSmallSpec : ChangeSpec := { name := "heapSmall", fn := fun _ => fun
  | [d1, d2, d3] => { results := [.lit (.bool true)], args := [d1, d2, d3] }
  | _ => none }
def heapSmallRow : OpenClaim := { program := "ytohlnmenghbgbaa", sum := "0d0085dd59360689892b34bc881c7f2e0254031fa09b44f06a865600a310e048", func := "mooring/mooringlaw8.HeapSmall", spec := "heapSmall", plainKeys := false, apart := false }
def HeapSmallSaid : Prop := heapSmallRow.holds Try.pinned (OpenSpec.ofChange heapSmallSpec)

/-- ITS FALSE NEIGHBOUR: 'it returns false'. Refute it at one input. -/
def heapSmallWrong : ChangeSpec := { name := "heapSmall", fn := fun _ => fun
  | [d1, d2, d3] => { results := [.lit (.bool false)], args := [d1, d2, d3] }
  | _ => none }
def HeapSmallWrongFalsely : Prop := heapSmallRow.holds Try.pinned (OpenSpec.ofChange heapSmallWrong)

/-- 'mooringlaw11.PaintTight': WHATEVER THE INPUT: true; the input reads as it did. -/
def paintTightSpec : ChangeSpec := { name := "paintTight", fn := fun _ => fun
  | [d1, d2] => { results := [.lit (.bool true)], args := [d1, d2] }
  | _ => none }
def paintTightRow : OpenClaim := { program := "ytohlnmenghbgbaa", sum := "0d0085dd59360689892b34bc881c7f2e0254031fa09b44f06a865600a310e048", func := "mooring/mooringlaw11.PaintTight", spec := "paintTight", plainKeys := false, apart := false }
def PaintTightSaid : Prop := paintTightRow.holds Try.pinned (OpenSpec.ofChange paintTightSpec)

/-- ITS FALSE NEIGHBOUR: 'it returns false'. Refute it at one input. -/
def paintTightWrong : ChangeSpec := { name := "paintTight", fn := fun _ => fun
  | [d1, d2] => { results := [.lit (.bool false)], args := [d1, d2] }
  | _ => none }
def PaintTightWrongFalsely : Prop := paintTightRow.holds Try.pinned (OpenSpec.ofChange paintTightWrong)

/-- 'mooringlaw15.SweepKnown': WHATEVER THE INPUT: true; the input reads as it did. -/
def sweepKnownSpec : ChangeSpec := { name := "sweepKnown", fn := fun _ => fun
  | [] => { results := [.lit (.bool true)], args := [] }
  | _ => none }
def sweepKnownRow : OpenClaim := { program := "ytohlnmenghbgbaa", sum := "0d0085dd59360689892b34bc881c7f2e0254031fa09b44f06a865600a310e048", func := "mooring/mooringlaw15.SweepKnown", spec := "sweepKnown", unfollowed := true, recurses := true, plainKeys := false, apart := false }
def SweepKnownSaid : Prop := sweepKnownRow.holds Try.pinned (OpenSpec.ofChange sweepKnownSpec)

/-- ITS FALSE NEIGHBOUR: 'it returns false'. Refute it at one input. -/
def sweepKnownWrong : ChangeSpec := { name := "sweepKnown", fn := fun _ => fun
  | [] => { results := [.lit (.bool false)], args := [] }
  | _ => none }
def SweepKnownWrongFalsely : Prop := sweepKnownRow.holds Try.pinned (OpenSpec.ofChange sweepKnownWrong)

/-- 'mooringlaw15.SweepJust': WHATEVER THE INPUT: true; the input reads as it did. -/
def sweepJustSpec : ChangeSpec := { name := "sweepJust", fn := fun _ => fun
  | [d1, d2, d3] => { results := [.lit (.bool true)], args := [d1, d2, d3] }
  | _ => none }
def sweepJustRow : OpenClaim := { program := "ytohlnmenghbgbaa", sum := "0d0085dd59360689892b34bc881c7f2e0254031fa09b44f06a865600a310e048", func := "mooring/mooringlaw15.SweepJust", spec := "sweepJust", unfollowed := true, recurses := true, plainKeys := false, apart := false }
def SweepJustSaid : Prop := sweepJustRow.holds Try.pinned (OpenSpec.ofChange sweepJustSpec)

/-- ITS FALSE NEIGHBOUR: 'it returns false'. Refute it at one input. -/
def sweepJustWrong : ChangeSpec := { name := "sweepJust", fn := fun _ => fun
  | [d1, d2, d3] => { results := [.lit (.bool false)], args := [d1, d2, d3] }
  | _ => none }
def SweepJustWrongFalsely : Prop := sweepJustRow.holds Try.pinned (OpenSpec.ofChange sweepJustWrong)

/-- 'mooringlaw15.SweepPlays': WHATEVER THE INPUT: true; the input reads as it did. -/
def sweepPlaysSpec : ChangeSpec := { name := "sweepPlays", fn := fun _ => fun
  | [d1, d2, d3] => { results := [.lit (.bool true)], args := [d1, d2, d3] }
  | _ => none }
def sweepPlaysRow : OpenClaim := { program := "ytohlnmenghbgbaa", sum := "0d0085dd59360689892b34bc881c7f2e0254031fa09b44f06a865600a310e048", func := "mooring/mooringlaw15.SweepPlays", spec := "sweepPlays", unfollowed := true, recurses := true, plainKeys := false, apart := false }
def SweepPlaysSaid : Prop := sweepPlaysRow.holds Try.pinned (OpenSpec.ofChange sweepPlaysSpec)

/-- ITS FALSE NEIGHBOUR: 'it returns false'. Refute it at one input. -/
def sweepPlaysWrong : ChangeSpec := { name := "sweepPlays", fn := fun _ => fun
  | [d1, d2, d3] => { results := [.lit (.bool false)], args := [d1, d2, d3] }
  | _ => none }
def SweepPlaysWrongFalsely : Prop := sweepPlaysRow.holds Try.pinned (OpenSpec.ofChange sweepPlaysWrong)

/-- 'mooringlaw13.MarkKnown': WHATEVER THE INPUT: true; the input reads as it did. -/
def markKnownSpec : ChangeSpec := { name := "markKnown", fn := fun _ => fun
  | [] => { results := [.lit (.bool true)], args := [] }
  | _ => none }
def markKnownRow : OpenClaim := { program := "ytohlnmenghbgbaa", sum := "0d0085dd59360689892b34bc881c7f2e0254031fa09b44f06a865600a310e048", func := "mooring/mooringlaw13.MarkKnown", spec := "markKnown", plainKeys := false, apart := false }
def MarkKnownSaid : Prop := markKnownRow.holds Try.pinned (OpenSpec.ofChange markKnownSpec)

/-- ITS FALSE NEIGHBOUR: 'it returns false'. Refute it at one input. -/
def markKnownWrong : ChangeSpec := { name := "markKnown", fn := fun _ => fun
  | [] => { results := [.lit (.bool false)], args := [] }
  | _ => none }
def MarkKnownWrongFalsely : Prop := markKnownRow.holds Try.pinned (OpenSpec.ofChange markKnownWrong)

/-- 'mooringlaw13.MarkEnds': WHATEVER THE INPUT: true; the input reads as it did. -/
def markEndsSpec : ChangeSpec := { name := "markEnds", fn := fun _ => fun
  | [d1, d2] => { results := [.lit (.bool true)], args := [d1, d2] }
  | _ => none }
def markEndsRow : OpenClaim := { program := "ytohlnmenghbgbaa", sum := "0d0085dd59360689892b34bc881c7f2e0254031fa09b44f06a865600a310e048", func := "mooring/mooringlaw13.MarkEnds", spec := "markEnds", plainKeys := false, apart := false }
def MarkEndsSaid : Prop := markEndsRow.holds Try.pinned (OpenSpec.ofChange markEndsSpec)

/-- ITS FALSE NEIGHBOUR: 'it returns false'. Refute it at one input. -/
def markEndsWrong : ChangeSpec := { name := "markEnds", fn := fun _ => fun
  | [d1, d2] => { results := [.lit (.bool false)], args := [d1, d2] }
  | _ => none }
def MarkEndsWrongFalsely : Prop := markEndsRow.holds Try.pinned (OpenSpec.ofChange markEndsWrong)

/-- 'mooringlaw11.PaintKnown': WHATEVER THE INPUT: true; the input reads as it did. -/
def paintKnownSpec : ChangeSpec := { name := "paintKnown", fn := fun _ => fun
  | [] => { results := [.lit (.bool true)], args := [] }
  | _ => none }
def paintKnownRow : OpenClaim := { program := "ytohlnmenghbgbaa", sum := "0d0085dd59360689892b34bc881c7f2e0254031fa09b44f06a865600a310e048", func := "mooring/mooringlaw11.PaintKnown", spec := "paintKnown", unfollowed := true, recurses := true, plainKeys := false, apart := false }
def PaintKnownSaid : Prop := paintKnownRow.holds Try.pinned (OpenSpec.ofChange paintKnownSpec)

/-- ITS FALSE NEIGHBOUR: 'it returns false'. Refute it at one input. -/
def paintKnownWrong : ChangeSpec := { name := "paintKnown", fn := fun _ => fun
  | [] => { results := [.lit (.bool false)], args := [] }
  | _ => none }
def PaintKnownWrongFalsely : Prop := paintKnownRow.holds Try.pinned (OpenSpec.ofChange paintKnownWrong)

/-- 'mooringlaw11.PaintFalls': WHATEVER THE INPUT: true; the input reads as it did. -/
def paintFallsSpec : ChangeSpec := { name := "paintFalls", fn := fun _ => fun
  | [d1, d2] => { results := [.lit (.bool true)], args := [d1, d2] }
  | _ => none }
def paintFallsRow : OpenClaim := { program := "ytohlnmenghbgbaa", sum := "0d0085dd59360689892b34bc881c7f2e0254031fa09b44f06a865600a310e048", func := "mooring/mooringlaw11.PaintFalls", spec := "paintFalls", unfollowed := true, recurses := true, plainKeys := false, apart := false }
def PaintFallsSaid : Prop := paintFallsRow.holds Try.pinned (OpenSpec.ofChange paintFallsSpec)

/-- ITS FALSE NEIGHBOUR: 'it returns false'. Refute it at one input. -/
def paintFallsWrong : ChangeSpec := { name := "paintFalls", fn := fun _ => fun
  | [d1, d2] => { results := [.lit (.bool false)], args := [d1, d2] }
  | _ => none }
def PaintFallsWrongFalsely : Prop := paintFallsRow.holds Try.pinned (OpenSpec.ofChange paintFallsWrong)

/-- 'mooringlaw11.PaintTurns': WHATEVER THE INPUT: true; the input reads as it did. -/
def paintTurnsSpec : ChangeSpec := { name := "paintTurns", fn := fun _ => fun
  | [d1, d2] => { results := [.lit (.bool true)], args := [d1, d2] }
  | _ => none }
def paintTurnsRow : OpenClaim := { program := "ytohlnmenghbgbaa", sum := "0d0085dd59360689892b34bc881c7f2e0254031fa09b44f06a865600a310e048", func := "mooring/mooringlaw11.PaintTurns", spec := "paintTurns", unfollowed := true, recurses := true, plainKeys := false, apart := false }
def PaintTurnsSaid : Prop := paintTurnsRow.holds Try.pinned (OpenSpec.ofChange paintTurnsSpec)

/-- ITS FALSE NEIGHBOUR: 'it returns false'. Refute it at one input. -/
def paintTurnsWrong : ChangeSpec := { name := "paintTurns", fn := fun _ => fun
  | [d1, d2] => { results := [.lit (.bool false)], args := [d1, d2] }
  | _ => none }
def PaintTurnsWrongFalsely : Prop := paintTurnsRow.holds Try.pinned (OpenSpec.ofChange paintTurnsWrong)

/-- 'mooringlaw13.MarkLeast': WHATEVER THE INPUT: true; the input reads as it did. -/
def markLeastSpec : ChangeSpec := { name := "markLeast", fn := fun _ => fun
  | [d1, d2, d3] => { results := [.lit (.bool true)], args := [d1, d2, d3] }
  | _ => none }
def markLeastRow : OpenClaim := { program := "ytohlnmenghbgbaa", sum := "0d0085dd59360689892b34bc881c7f2e0254031fa09b44f06a865600a310e048", func := "mooring/mooringlaw13.MarkLeast", spec := "markLeast", unfollowed := true, recurses := true, plainKeys := false, apart := false }
def MarkLeastSaid : Prop := markLeastRow.holds Try.pinned (OpenSpec.ofChange markLeastSpec)

/-- ITS FALSE NEIGHBOUR: 'it returns false'. Refute it at one input. -/
def markLeastWrong : ChangeSpec := { name := "markLeast", fn := fun _ => fun
  | [d1, d2, d3] => { results := [.lit (.bool false)], args := [d1, d2, d3] }
  | _ => none }
def MarkLeastWrongFalsely : Prop := markLeastRow.holds Try.pinned (OpenSpec.ofChange markLeastWrong)

/-- 'mooringlaw13.MarkSmall': WHATEVER THE INPUT: true; the input reads as it did. -/
def markSmallSpec : ChangeSpec := { name := "markSmall", fn := fun _ => fun
  | [d1, d2, d3] => { results := [.lit (.bool true)], args := [d1, d2, d3] }
  | _ => none }
def markSmallRow : OpenClaim := { program := "ytohlnmenghbgbaa", sum := "0d0085dd59360689892b34bc881c7f2e0254031fa09b44f06a865600a310e048", func := "mooring/mooringlaw13.MarkSmall", spec := "markSmall", unfollowed := true, recurses := true, plainKeys := false, apart := false }
def MarkSmallSaid : Prop := markSmallRow.holds Try.pinned (OpenSpec.ofChange markSmallSpec)

/-- ITS FALSE NEIGHBOUR: 'it returns false'. Refute it at one input. -/
def markSmallWrong : ChangeSpec := { name := "markSmall", fn := fun _ => fun
  | [d1, d2, d3] => { results := [.lit (.bool false)], args := [d1, d2, d3] }
  | _ => none }
def MarkSmallWrongFalsely : Prop := markSmallRow.holds Try.pinned (OpenSpec.ofChange markSmallWrong)

/-- 'mooringlaw13.MarkPlays': WHATEVER THE INPUT: true; the input reads as it did. -/
def markPlaysSpec : ChangeSpec := { name := "markPlays", fn := fun _ => fun
  | [d1, d2, d3] => { results := [.lit (.bool true)], args := [d1, d2, d3] }
  | _ => none }
def markPlaysRow : OpenClaim := { program := "ytohlnmenghbgbaa", sum := "0d0085dd59360689892b34bc881c7f2e0254031fa09b44f06a865600a310e048", func := "mooring/mooringlaw13.MarkPlays", spec := "markPlays", unfollowed := true, recurses := true, plainKeys := false, apart := false }
def MarkPlaysSaid : Prop := markPlaysRow.holds Try.pinned (OpenSpec.ofChange markPlaysSpec)

/-- ITS FALSE NEIGHBOUR: 'it returns false'. Refute it at one input. -/
def markPlaysWrong : ChangeSpec := { name := "markPlays", fn := fun _ => fun
  | [d1, d2, d3] => { results := [.lit (.bool false)], args := [d1, d2, d3] }
  | _ => none }
def MarkPlaysWrongFalsely : Prop := markPlaysRow.holds Try.pinned (OpenSpec.ofChange markPlaysWrong)

/-- 'mooringlaw14.ReachKnown': WHATEVER THE INPUT: true; the input reads as it did. -/
def reachKnownSpec : ChangeSpec := { name := "reachKnown", fn := fun _ => fun
  | [] => { results := [.lit (.bool true)], args := [] }
  | _ => none }
def reachKnownRow : OpenClaim := { program := "ytohlnmenghbgbaa", sum := "0d0085dd59360689892b34bc881c7f2e0254031fa09b44f06a865600a310e048", func := "mooring/mooringlaw14.ReachKnown", spec := "reachKnown", unfollowed := true, recurses := true, plainKeys := false, apart := false }
def ReachKnownSaid : Prop := reachKnownRow.holds Try.pinned (OpenSpec.ofChange reachKnownSpec)

/-- ITS FALSE NEIGHBOUR: 'it returns false'. Refute it at one input. -/
def reachKnownWrong : ChangeSpec := { name := "reachKnown", fn := fun _ => fun
  | [] => { results := [.lit (.bool false)], args := [] }
  | _ => none }
def ReachKnownWrongFalsely : Prop := reachKnownRow.holds Try.pinned (OpenSpec.ofChange reachKnownWrong)

/-- 'mooringlaw14.ReachRows': WHATEVER THE INPUT: true; the input reads as it did. -/
def reachRowsSpec : ChangeSpec := { name := "reachRows", fn := fun _ => fun
  | [d1, d2, d3] => { results := [.lit (.bool true)], args := [d1, d2, d3] }
  | _ => none }
def reachRowsRow : OpenClaim := { program := "ytohlnmenghbgbaa", sum := "0d0085dd59360689892b34bc881c7f2e0254031fa09b44f06a865600a310e048", func := "mooring/mooringlaw14.ReachRows", spec := "reachRows", unfollowed := true, recurses := true, plainKeys := false, apart := false }
def ReachRowsSaid : Prop := reachRowsRow.holds Try.pinned (OpenSpec.ofChange reachRowsSpec)

/-- ITS FALSE NEIGHBOUR: 'it returns false'. Refute it at one input. -/
def reachRowsWrong : ChangeSpec := { name := "reachRows", fn := fun _ => fun
  | [d1, d2, d3] => { results := [.lit (.bool false)], args := [d1, d2, d3] }
  | _ => none }
def ReachRowsWrongFalsely : Prop := reachRowsRow.holds Try.pinned (OpenSpec.ofChange reachRowsWrong)

/-- 'mooringlaw14.ReachEnds': WHATEVER THE INPUT: true; the input reads as it did. -/
def reachEndsSpec : ChangeSpec := { name := "reachEnds", fn := fun _ => fun
  | [d1, d2] => { results := [.lit (.bool true)], args := [d1, d2] }
  | _ => none }
def reachEndsRow : OpenClaim := { program := "ytohlnmenghbgbaa", sum := "0d0085dd59360689892b34bc881c7f2e0254031fa09b44f06a865600a310e048", func := "mooring/mooringlaw14.ReachEnds", spec := "reachEnds", unfollowed := true, recurses := true, plainKeys := false, apart := false }
def ReachEndsSaid : Prop := reachEndsRow.holds Try.pinned (OpenSpec.ofChange reachEndsSpec)

/-- ITS FALSE NEIGHBOUR: 'it returns false'. Refute it at one input. -/
def reachEndsWrong : ChangeSpec := { name := "reachEnds", fn := fun _ => fun
  | [d1, d2] => { results := [.lit (.bool false)], args := [d1, d2] }
  | _ => none }
def ReachEndsWrongFalsely : Prop := reachEndsRow.holds Try.pinned (OpenSpec.ofChange reachEndsWrong)

/-- 'mooringlaw14.ReachAgain': WHATEVER THE INPUT: true; the input reads as it did. -/
def reachAgainSpec : ChangeSpec := { name := "reachAgain", fn := fun _ => fun
  | [d1, d2, d3, d4] => { results := [.lit (.bool true)], args := [d1, d2, d3, d4] }
  | _ => none }
def reachAgainRow : OpenClaim := { program := "ytohlnmenghbgbaa", sum := "0d0085dd59360689892b34bc881c7f2e0254031fa09b44f06a865600a310e048", func := "mooring/mooringlaw14.ReachAgain", spec := "reachAgain", unfollowed := true, recurses := true, plainKeys := false, apart := false }
def ReachAgainSaid : Prop := reachAgainRow.holds Try.pinned (OpenSpec.ofChange reachAgainSpec)

/-- ITS FALSE NEIGHBOUR: 'it returns false'. Refute it at one input. -/
def reachAgainWrong : ChangeSpec := { name := "reachAgain", fn := fun _ => fun
  | [d1, d2, d3, d4] => { results := [.lit (.bool false)], args := [d1, d2, d3, d4] }
  | _ => none }
def ReachAgainWrongFalsely : Prop := reachAgainRow.holds Try.pinned (OpenSpec.ofChange reachAgainWrong)

/- THE SECOND FORM. 'bulk': how many values and letters a reading holds, each counted each time it is reached (what is shared counts as often as it is met; a slice's spare places count too). A statement '..UptoSaid' is the law's where the arguments, and the package variables that the reading takes, are together of bulk at most 1048576: NARROWER than '..Said'. Prove '..Said' where nothing that the law and all that it calls make is longer than what came in: it says more and counts as full. Else prove '..UptoSaid'. A law counts once. -/
mutual
def uptoBulk {H : Type} : DataW H → Nat
  | .lit (.string bytes) => bytes.length + 1
  | .lit _ => 1
  | .nil => 1
  | .ptr d => uptoBulk d + 1
  | .slice elems spare => uptoBulkAll elems + uptoBulkAll spare + 1
  | .agg parts => uptoBulkAll parts + 1
  | .iface _ d => uptoBulk d + 1
  | .map entries => uptoBulkEntries entries + 1
  | .held _ => 1
def uptoBulkAll {H : Type} : List (DataW H) → Nat
  | [] => 0
  | d :: r => uptoBulk d + uptoBulkAll r
def uptoBulkEntries {H : Type} : List (Lit × DataW H) → Nat
  | [] => 0
  | x :: r => uptoBulkEntry x + uptoBulkEntries r
def uptoBulkEntry {H : Type} : Lit × DataW H → Nat
  | (.string bytes, d) => bytes.length + uptoBulk d + 1
  | (_, d) => uptoBulk d + 1
 end
def uptoSmall : (H : Type) → List (DataW H) → Bool := fun _ ds => decide (uptoBulkAll ds ≤ 1048576)
def OpenSpec.upto (s : _root_.Go.ChangeSpec) : _root_.Go.OpenSpec := { _root_.Go.OpenSpec.ofChange s with cond := some uptoSmall }

/-- 'mooringlaw8.HeapKnown', WHERE WHAT IT READS IS OF BULK AT MOST 1048576: true; the input reads as it did. -/
def heapKnownUptoRow : OpenClaim := { program := "ytohlnmenghbgbaa", sum := "0d0085dd59360689892b34bc881c7f2e0254031fa09b44f06a865600a310e048", func := "mooring/mooringlaw8.HeapKnown", spec := "heapKnown", plainKeys := false, apart := false, narrowed := true }
def HeapKnownUptoSaid : Prop := heapKnownUptoRow.holds Try.pinned (OpenSpec.upto heapKnownSpec)

/-- 'mooringlaw8.HeapOwn', WHERE WHAT IT READS IS OF BULK AT MOST 1048576: true; the input reads as it did. -/
def heapOwnUptoRow : OpenClaim := { program := "ytohlnmenghbgbaa", sum := "0d0085dd59360689892b34bc881c7f2e0254031fa09b44f06a865600a310e048", func := "mooring/mooringlaw8.HeapOwn", spec := "heapOwn", plainKeys := false, apart := false, narrowed := true }
def HeapOwnUptoSaid : Prop := heapOwnUptoRow.holds Try.pinned (OpenSpec.upto heapOwnSpec)

/-- 'mooringlaw8.HeapApart', WHERE WHAT IT READS IS OF BULK AT MOST 1048576: true; the input reads as it did. -/
def heapApartUptoRow : OpenClaim := { program := "ytohlnmenghbgbaa", sum := "0d0085dd59360689892b34bc881c7f2e0254031fa09b44f06a865600a310e048", func := "mooring/mooringlaw8.HeapApart", spec := "heapApart", plainKeys := false, apart := false, narrowed := true }
def HeapApartUptoSaid : Prop := heapApartUptoRow.holds Try.pinned (OpenSpec.upto heapApartSpec)

/-- 'mooringlaw8.HeapEnds', WHERE WHAT IT READS IS OF BULK AT MOST 1048576: true; the input reads as it did. -/
def heapEndsUptoRow : OpenClaim := { program := "ytohlnmenghbgbaa", sum := "0d0085dd59360689892b34bc881c7f2e0254031fa09b44f06a865600a310e048", func := "mooring/mooringlaw8.HeapEnds", spec := "heapEnds", plainKeys := false, apart := false, narrowed := true }
def HeapEndsUptoSaid : Prop := heapEndsUptoRow.holds Try.pinned (OpenSpec.upto heapEndsSpec)

/-- 'mooringlaw8.HeapOnce', WHERE WHAT IT READS IS OF BULK AT MOST 1048576: true; the input reads as it did. -/
def heapOnceUptoRow : OpenClaim := { program := "ytohlnmenghbgbaa", sum := "0d0085dd59360689892b34bc881c7f2e0254031fa09b44f06a865600a310e048", func := "mooring/mooringlaw8.HeapOnce", spec := "heapOnce", plainKeys := false, apart := false, narrowed := true }
def HeapOnceUptoSaid : Prop := heapOnceUptoRow.holds Try.pinned (OpenSpec.upto heapOnceSpec)

/-- 'mooringlaw8.HeapPlays', WHERE WHAT IT READS IS OF BULK AT MOST 1048576: true; the input reads as it did. -/
def heapPlaysUptoRow : OpenClaim := { program := "ytohlnmenghbgbaa", sum := "0d0085dd59360689892b34bc881c7f2e0254031fa09b44f06a865600a310e048", func := "mooring/mooringlaw8.HeapPlays", spec := "heapPlays", plainKeys := false, apart := false, narrowed := true }
def HeapPlaysUptoSaid : Prop := heapPlaysUptoRow.holds Try.pinned (OpenSpec.upto heapPlaysSpec)

/-- 'mooringlaw8.HeapSmall', WHERE WHAT IT READS IS OF BULK AT MOST 1048576: true; the input reads as it did. -/
def heapSmallUptoRow : OpenClaim := { program := "ytohlnmenghbgbaa", sum := "0d0085dd59360689892b34bc881c7f2e0254031fa09b44f06a865600a310e048", func := "mooring/mooringlaw8.HeapSmall", spec := "heapSmall", plainKeys := false, apart := false, narrowed := true }
def HeapSmallUptoSaid : Prop := heapSmallUptoRow.holds Try.pinned (OpenSpec.upto heapSmallSpec)

/-- 'mooringlaw11.PaintTight', WHERE WHAT IT READS IS OF BULK AT MOST 1048576: true; the input reads as it did. -/
def paintTightUptoRow : OpenClaim := { program := "ytohlnmenghbgbaa", sum := "0d0085dd59360689892b34bc881c7f2e0254031fa09b44f06a865600a310e048", func := "mooring/mooringlaw11.PaintTight", spec := "paintTight", plainKeys := false, apart := false, narrowed := true }
def PaintTightUptoSaid : Prop := paintTightUptoRow.holds Try.pinned (OpenSpec.upto paintTightSpec)

/-- 'mooringlaw15.SweepKnown', WHERE WHAT IT READS IS OF BULK AT MOST 1048576: true; the input reads as it did. -/
def sweepKnownUptoRow : OpenClaim := { program := "ytohlnmenghbgbaa", sum := "0d0085dd59360689892b34bc881c7f2e0254031fa09b44f06a865600a310e048", func := "mooring/mooringlaw15.SweepKnown", spec := "sweepKnown", unfollowed := true, recurses := true, plainKeys := false, apart := false, narrowed := true }
def SweepKnownUptoSaid : Prop := sweepKnownUptoRow.holds Try.pinned (OpenSpec.upto sweepKnownSpec)

/-- 'mooringlaw15.SweepJust', WHERE WHAT IT READS IS OF BULK AT MOST 1048576: true; the input reads as it did. -/
def sweepJustUptoRow : OpenClaim := { program := "ytohlnmenghbgbaa", sum := "0d0085dd59360689892b34bc881c7f2e0254031fa09b44f06a865600a310e048", func := "mooring/mooringlaw15.SweepJust", spec := "sweepJust", unfollowed := true, recurses := true, plainKeys := false, apart := false, narrowed := true }
def SweepJustUptoSaid : Prop := sweepJustUptoRow.holds Try.pinned (OpenSpec.upto sweepJustSpec)

/-- 'mooringlaw15.SweepPlays', WHERE WHAT IT READS IS OF BULK AT MOST 1048576: true; the input reads as it did. -/
def sweepPlaysUptoRow : OpenClaim := { program := "ytohlnmenghbgbaa", sum := "0d0085dd59360689892b34bc881c7f2e0254031fa09b44f06a865600a310e048", func := "mooring/mooringlaw15.SweepPlays", spec := "sweepPlays", unfollowed := true, recurses := true, plainKeys := false, apart := false, narrowed := true }
def SweepPlaysUptoSaid : Prop := sweepPlaysUptoRow.holds Try.pinned (OpenSpec.upto sweepPlaysSpec)

/-- 'mooringlaw13.MarkKnown', WHERE WHAT IT READS IS OF BULK AT MOST 1048576: true; the input reads as it did. -/
def markKnownUptoRow : OpenClaim := { program := "ytohlnmenghbgbaa", sum := "0d0085dd59360689892b34bc881c7f2e0254031fa09b44f06a865600a310e048", func := "mooring/mooringlaw13.MarkKnown", spec := "markKnown", plainKeys := false, apart := false, narrowed := true }
def MarkKnownUptoSaid : Prop := markKnownUptoRow.holds Try.pinned (OpenSpec.upto markKnownSpec)

/-- 'mooringlaw13.MarkEnds', WHERE WHAT IT READS IS OF BULK AT MOST 1048576: true; the input reads as it did. -/
def markEndsUptoRow : OpenClaim := { program := "ytohlnmenghbgbaa", sum := "0d0085dd59360689892b34bc881c7f2e0254031fa09b44f06a865600a310e048", func := "mooring/mooringlaw13.MarkEnds", spec := "markEnds", plainKeys := false, apart := false, narrowed := true }
def MarkEndsUptoSaid : Prop := markEndsUptoRow.holds Try.pinned (OpenSpec.upto markEndsSpec)

/-- 'mooringlaw11.PaintKnown', WHERE WHAT IT READS IS OF BULK AT MOST 1048576: true; the input reads as it did. -/
def paintKnownUptoRow : OpenClaim := { program := "ytohlnmenghbgbaa", sum := "0d0085dd59360689892b34bc881c7f2e0254031fa09b44f06a865600a310e048", func := "mooring/mooringlaw11.PaintKnown", spec := "paintKnown", unfollowed := true, recurses := true, plainKeys := false, apart := false, narrowed := true }
def PaintKnownUptoSaid : Prop := paintKnownUptoRow.holds Try.pinned (OpenSpec.upto paintKnownSpec)

/-- 'mooringlaw11.PaintFalls', WHERE WHAT IT READS IS OF BULK AT MOST 1048576: true; the input reads as it did. -/
def paintFallsUptoRow : OpenClaim := { program := "ytohlnmenghbgbaa", sum := "0d0085dd59360689892b34bc881c7f2e0254031fa09b44f06a865600a310e048", func := "mooring/mooringlaw11.PaintFalls", spec := "paintFalls", unfollowed := true, recurses := true, plainKeys := false, apart := false, narrowed := true }
def PaintFallsUptoSaid : Prop := paintFallsUptoRow.holds Try.pinned (OpenSpec.upto paintFallsSpec)

/-- 'mooringlaw11.PaintTurns', WHERE WHAT IT READS IS OF BULK AT MOST 1048576: true; the input reads as it did. -/
def paintTurnsUptoRow : OpenClaim := { program := "ytohlnmenghbgbaa", sum := "0d0085dd59360689892b34bc881c7f2e0254031fa09b44f06a865600a310e048", func := "mooring/mooringlaw11.PaintTurns", spec := "paintTurns", unfollowed := true, recurses := true, plainKeys := false, apart := false, narrowed := true }
def PaintTurnsUptoSaid : Prop := paintTurnsUptoRow.holds Try.pinned (OpenSpec.upto paintTurnsSpec)

/-- 'mooringlaw13.MarkLeast', WHERE WHAT IT READS IS OF BULK AT MOST 1048576: true; the input reads as it did. -/
def markLeastUptoRow : OpenClaim := { program := "ytohlnmenghbgbaa", sum := "0d0085dd59360689892b34bc881c7f2e0254031fa09b44f06a865600a310e048", func := "mooring/mooringlaw13.MarkLeast", spec := "markLeast", unfollowed := true, recurses := true, plainKeys := false, apart := false, narrowed := true }
def MarkLeastUptoSaid : Prop := markLeastUptoRow.holds Try.pinned (OpenSpec.upto markLeastSpec)

/-- 'mooringlaw13.MarkSmall', WHERE WHAT IT READS IS OF BULK AT MOST 1048576: true; the input reads as it did. -/
def markSmallUptoRow : OpenClaim := { program := "ytohlnmenghbgbaa", sum := "0d0085dd59360689892b34bc881c7f2e0254031fa09b44f06a865600a310e048", func := "mooring/mooringlaw13.MarkSmall", spec := "markSmall", unfollowed := true, recurses := true, plainKeys := false, apart := false, narrowed := true }
def MarkSmallUptoSaid : Prop := markSmallUptoRow.holds Try.pinned (OpenSpec.upto markSmallSpec)

/-- 'mooringlaw13.MarkPlays', WHERE WHAT IT READS IS OF BULK AT MOST 1048576: true; the input reads as it did. -/
def markPlaysUptoRow : OpenClaim := { program := "ytohlnmenghbgbaa", sum := "0d0085dd59360689892b34bc881c7f2e0254031fa09b44f06a865600a310e048", func := "mooring/mooringlaw13.MarkPlays", spec := "markPlays", unfollowed := true, recurses := true, plainKeys := false, apart := false, narrowed := true }
def MarkPlaysUptoSaid : Prop := markPlaysUptoRow.holds Try.pinned (OpenSpec.upto markPlaysSpec)

/-- 'mooringlaw14.ReachKnown', WHERE WHAT IT READS IS OF BULK AT MOST 1048576: true; the input reads as it did. -/
def reachKnownUptoRow : OpenClaim := { program := "ytohlnmenghbgbaa", sum := "0d0085dd59360689892b34bc881c7f2e0254031fa09b44f06a865600a310e048", func := "mooring/mooringlaw14.ReachKnown", spec := "reachKnown", unfollowed := true, recurses := true, plainKeys := false, apart := false, narrowed := true }
def ReachKnownUptoSaid : Prop := reachKnownUptoRow.holds Try.pinned (OpenSpec.upto reachKnownSpec)

/-- 'mooringlaw14.ReachRows', WHERE WHAT IT READS IS OF BULK AT MOST 1048576: true; the input reads as it did. -/
def reachRowsUptoRow : OpenClaim := { program := "ytohlnmenghbgbaa", sum := "0d0085dd59360689892b34bc881c7f2e0254031fa09b44f06a865600a310e048", func := "mooring/mooringlaw14.ReachRows", spec := "reachRows", unfollowed := true, recurses := true, plainKeys := false, apart := false, narrowed := true }
def ReachRowsUptoSaid : Prop := reachRowsUptoRow.holds Try.pinned (OpenSpec.upto reachRowsSpec)

/-- 'mooringlaw14.ReachEnds', WHERE WHAT IT READS IS OF BULK AT MOST 1048576: true; the input reads as it did. -/
def reachEndsUptoRow : OpenClaim := { program := "ytohlnmenghbgbaa", sum := "0d0085dd59360689892b34bc881c7f2e0254031fa09b44f06a865600a310e048", func := "mooring/mooringlaw14.ReachEnds", spec := "reachEnds", unfollowed := true, recurses := true, plainKeys := false, apart := false, narrowed := true }
def ReachEndsUptoSaid : Prop := reachEndsUptoRow.holds Try.pinned (OpenSpec.upto reachEndsSpec)

/-- 'mooringlaw14.ReachAgain', WHERE WHAT IT READS IS OF BULK AT MOST 1048576: true; the input reads as it did. -/
def reachAgainUptoRow : OpenClaim := { program := "ytohlnmenghbgbaa", sum := "0d0085dd59360689892b34bc881c7f2e0254031fa09b44f06a865600a310e048", func := "mooring/mooringlaw14.ReachAgain", spec := "reachAgain", unfollowed := true, recurses := true, plainKeys := false, apart := false, narrowed := true }
def ReachAgainUptoSaid : Prop := reachAgainUptoRow.holds Try.pinned (OpenSpec.upto reachAgainSpec)

end Rows
end Go.Proofs.Ytohlnmenghbgbaa
