/-
  No cell of these rows narrows 'for every input' (looked for: loops, veiled, ifaces, maps, wideKeys, modest, calm, conditions, laid).
  DERIVED. THE GIVEN ROWS OF THIS SEAT. 11 by the template 'for every input the law returns true; each argument reads behind the call as it read before'; 0 by the template 'total and deterministic' (their statements: YtojcacejgbnfkaaGreatTotals.lean).
  GIVEN WITH THE SEED: the statements are not yours to turn. If you find one false, say at which input.
  Laid BY PROGRAM, IN A SANDBOX (cutbox-rows.mjs): the forced cells as the released guide's own fill.sh prints them over the translation 5db5aaf7ffe8f03c… (all of the seat's roots in one cut). By AI agents, Wed Nov 11 2026. No macro, syntax, notation, axiom, sorry.
-/
import Derived.Test.YtojcacejgbnfkaaGreatChecked
import GoSem.Claim
import GoSem.ClaimJoined
import GoSem.ClaimMapViews
import Derived.JoinedTies
import Derived.KernelRfl
namespace Go.Proofs.YtojcacejgbnfkaaGreat
/- THE CELL 'sum', in the pinned program and in every row, IS THE sha256 OF THE DUMP (.gsa) THAT YtojcacejgbnfkaaGreatProg.lean LOADS. Nothing in Lean hashes anything: it is a label: what it is worth is what the hold of that sum in a sandbox is worth. -/
noncomputable def Tryz.pinned : Pinned := { name := "ytojcacejgbnfkaagreat", sum := "5db5aaf7ffe8f03c02b254061c7910e943b9870d5b05ed9e5bed6abb878372cf", checked := Tryz.checked }
namespace Rows
def none {H : Type} : Left H := { results := [], args := [] }

/-- 'mooringlaw16.CycleIdle': WHATEVER THE INPUT: true; the input reads as it did. -/
def cycleIdleSpec : ChangeSpec := { name := "cycleIdle", fn := fun _ => fun
  | [d1, d2] => { results := [.lit (.bool true)], args := [d1, d2] }
  | _ => none }
def cycleIdleRow : OpenClaim := { program := "ytojcacejgbnfkaagreat", sum := "5db5aaf7ffe8f03c02b254061c7910e943b9870d5b05ed9e5bed6abb878372cf", func := "mooring/mooringlaw16.CycleIdle", spec := "cycleIdle", unfollowed := true, recurses := true, plainKeys := false, apart := false }
def CycleIdleSaid : Prop := cycleIdleRow.holds Tryz.pinned (OpenSpec.ofChange cycleIdleSpec)

/-- ITS FALSE NEIGHBOUR: 'it returns false'. Refute it at one input. -/
def cycleIdleWrong : ChangeSpec := { name := "cycleIdle", fn := fun _ => fun
  | [d1, d2] => { results := [.lit (.bool false)], args := [d1, d2] }
  | _ => none }
def CycleIdleWrongFalsely : Prop := cycleIdleRow.holds Tryz.pinned (OpenSpec.ofChange cycleIdleWrong)

/-- 'mooringlaw16.CyclePlays': WHATEVER THE INPUT: true; the input reads as it did. -/
def cyclePlaysSpec : ChangeSpec := { name := "cyclePlays", fn := fun _ => fun
  | [d1, d2, d3, d4, d5, d6] => { results := [.lit (.bool true)], args := [d1, d2, d3, d4, d5, d6] }
  | _ => none }
def cyclePlaysRow : OpenClaim := { program := "ytojcacejgbnfkaagreat", sum := "5db5aaf7ffe8f03c02b254061c7910e943b9870d5b05ed9e5bed6abb878372cf", func := "mooring/mooringlaw16.CyclePlays", spec := "cyclePlays", unfollowed := true, recurses := true, plainKeys := false, apart := false }
def CyclePlaysSaid : Prop := cyclePlaysRow.holds Tryz.pinned (OpenSpec.ofChange cyclePlaysSpec)

/-- ITS FALSE NEIGHBOUR: 'it returns false'. Refute it at one input. -/
def cyclePlaysWrong : ChangeSpec := { name := "cyclePlays", fn := fun _ => fun
  | [d1, d2, d3, d4, d5, d6] => { results := [.lit (.bool false)], args := [d1, d2, d3, d4, d5, d6] }
  | _ => none }
def CyclePlaysWrongFalsely : Prop := cyclePlaysRow.holds Tryz.pinned (OpenSpec.ofChange cyclePlaysWrong)

/-- 'mooringlaw11.PaintPlays': WHATEVER THE INPUT: true; the input reads as it did. -/
def paintPlaysSpec : ChangeSpec := { name := "paintPlays", fn := fun _ => fun
  | [d1, d2, d3] => { results := [.lit (.bool true)], args := [d1, d2, d3] }
  | _ => none }
def paintPlaysRow : OpenClaim := { program := "ytojcacejgbnfkaagreat", sum := "5db5aaf7ffe8f03c02b254061c7910e943b9870d5b05ed9e5bed6abb878372cf", func := "mooring/mooringlaw11.PaintPlays", spec := "paintPlays", unfollowed := true, recurses := true, plainKeys := false, apart := false }
def PaintPlaysSaid : Prop := paintPlaysRow.holds Tryz.pinned (OpenSpec.ofChange paintPlaysSpec)

/-- ITS FALSE NEIGHBOUR: 'it returns false'. Refute it at one input. -/
def paintPlaysWrong : ChangeSpec := { name := "paintPlays", fn := fun _ => fun
  | [d1, d2, d3] => { results := [.lit (.bool false)], args := [d1, d2, d3] }
  | _ => none }
def PaintPlaysWrongFalsely : Prop := paintPlaysRow.holds Tryz.pinned (OpenSpec.ofChange paintPlaysWrong)

/-- 'mooringlaw14.ReachPlays': WHATEVER THE INPUT: true; the input reads as it did. -/
def reachPlaysSpec : ChangeSpec := { name := "reachPlays", fn := fun _ => fun
  | [d1, d2, d3, d4] => { results := [.lit (.bool true)], args := [d1, d2, d3, d4] }
  | _ => none }
def reachPlaysRow : OpenClaim := { program := "ytojcacejgbnfkaagreat", sum := "5db5aaf7ffe8f03c02b254061c7910e943b9870d5b05ed9e5bed6abb878372cf", func := "mooring/mooringlaw14.ReachPlays", spec := "reachPlays", unfollowed := true, recurses := true, plainKeys := false, apart := false }
def ReachPlaysSaid : Prop := reachPlaysRow.holds Tryz.pinned (OpenSpec.ofChange reachPlaysSpec)

/-- ITS FALSE NEIGHBOUR: 'it returns false'. Refute it at one input. -/
def reachPlaysWrong : ChangeSpec := { name := "reachPlays", fn := fun _ => fun
  | [d1, d2, d3, d4] => { results := [.lit (.bool false)], args := [d1, d2, d3, d4] }
  | _ => none }
def ReachPlaysWrongFalsely : Prop := reachPlaysRow.holds Tryz.pinned (OpenSpec.ofChange reachPlaysWrong)

/-- 'mooringlaw16.CycleKnown': WHATEVER THE INPUT: true; the input reads as it did. -/
def cycleKnownSpec : ChangeSpec := { name := "cycleKnown", fn := fun _ => fun
  | [] => { results := [.lit (.bool true)], args := [] }
  | _ => none }
def cycleKnownRow : OpenClaim := { program := "ytojcacejgbnfkaagreat", sum := "5db5aaf7ffe8f03c02b254061c7910e943b9870d5b05ed9e5bed6abb878372cf", func := "mooring/mooringlaw16.CycleKnown", spec := "cycleKnown", unfollowed := true, recurses := true, plainKeys := false, apart := false }
def CycleKnownSaid : Prop := cycleKnownRow.holds Tryz.pinned (OpenSpec.ofChange cycleKnownSpec)

/-- ITS FALSE NEIGHBOUR: 'it returns false'. Refute it at one input. -/
def cycleKnownWrong : ChangeSpec := { name := "cycleKnown", fn := fun _ => fun
  | [] => { results := [.lit (.bool false)], args := [] }
  | _ => none }
def CycleKnownWrongFalsely : Prop := cycleKnownRow.holds Tryz.pinned (OpenSpec.ofChange cycleKnownWrong)

/-- 'mooringlaw16.CycleUnits': WHATEVER THE INPUT: true; the input reads as it did. -/
def cycleUnitsSpec : ChangeSpec := { name := "cycleUnits", fn := fun _ => fun
  | [d1, d2, d3] => { results := [.lit (.bool true)], args := [d1, d2, d3] }
  | _ => none }
def cycleUnitsRow : OpenClaim := { program := "ytojcacejgbnfkaagreat", sum := "5db5aaf7ffe8f03c02b254061c7910e943b9870d5b05ed9e5bed6abb878372cf", func := "mooring/mooringlaw16.CycleUnits", spec := "cycleUnits", unfollowed := true, recurses := true, plainKeys := false, apart := false }
def CycleUnitsSaid : Prop := cycleUnitsRow.holds Tryz.pinned (OpenSpec.ofChange cycleUnitsSpec)

/-- ITS FALSE NEIGHBOUR: 'it returns false'. Refute it at one input. -/
def cycleUnitsWrong : ChangeSpec := { name := "cycleUnits", fn := fun _ => fun
  | [d1, d2, d3] => { results := [.lit (.bool false)], args := [d1, d2, d3] }
  | _ => none }
def CycleUnitsWrongFalsely : Prop := cycleUnitsRow.holds Tryz.pinned (OpenSpec.ofChange cycleUnitsWrong)

/-- 'mooringlaw16.CycleWaits': WHATEVER THE INPUT: true; the input reads as it did. -/
def cycleWaitsSpec : ChangeSpec := { name := "cycleWaits", fn := fun _ => fun
  | [d1, d2, d3, d4] => { results := [.lit (.bool true)], args := [d1, d2, d3, d4] }
  | _ => none }
def cycleWaitsRow : OpenClaim := { program := "ytojcacejgbnfkaagreat", sum := "5db5aaf7ffe8f03c02b254061c7910e943b9870d5b05ed9e5bed6abb878372cf", func := "mooring/mooringlaw16.CycleWaits", spec := "cycleWaits", unfollowed := true, recurses := true, plainKeys := false, apart := false }
def CycleWaitsSaid : Prop := cycleWaitsRow.holds Tryz.pinned (OpenSpec.ofChange cycleWaitsSpec)

/-- ITS FALSE NEIGHBOUR: 'it returns false'. Refute it at one input. -/
def cycleWaitsWrong : ChangeSpec := { name := "cycleWaits", fn := fun _ => fun
  | [d1, d2, d3, d4] => { results := [.lit (.bool false)], args := [d1, d2, d3, d4] }
  | _ => none }
def CycleWaitsWrongFalsely : Prop := cycleWaitsRow.holds Tryz.pinned (OpenSpec.ofChange cycleWaitsWrong)

/-- 'mooringlaw16.CycleJust': WHATEVER THE INPUT: true; the input reads as it did. -/
def cycleJustSpec : ChangeSpec := { name := "cycleJust", fn := fun _ => fun
  | [d1, d2, d3, d4] => { results := [.lit (.bool true)], args := [d1, d2, d3, d4] }
  | _ => none }
def cycleJustRow : OpenClaim := { program := "ytojcacejgbnfkaagreat", sum := "5db5aaf7ffe8f03c02b254061c7910e943b9870d5b05ed9e5bed6abb878372cf", func := "mooring/mooringlaw16.CycleJust", spec := "cycleJust", unfollowed := true, recurses := true, plainKeys := false, apart := false }
def CycleJustSaid : Prop := cycleJustRow.holds Tryz.pinned (OpenSpec.ofChange cycleJustSpec)

/-- ITS FALSE NEIGHBOUR: 'it returns false'. Refute it at one input. -/
def cycleJustWrong : ChangeSpec := { name := "cycleJust", fn := fun _ => fun
  | [d1, d2, d3, d4] => { results := [.lit (.bool false)], args := [d1, d2, d3, d4] }
  | _ => none }
def CycleJustWrongFalsely : Prop := cycleJustRow.holds Tryz.pinned (OpenSpec.ofChange cycleJustWrong)

/-- 'mooringlaw16.CycleSums': WHATEVER THE INPUT: true; the input reads as it did. -/
def cycleSumsSpec : ChangeSpec := { name := "cycleSums", fn := fun _ => fun
  | [d1, d2, d3] => { results := [.lit (.bool true)], args := [d1, d2, d3] }
  | _ => none }
def cycleSumsRow : OpenClaim := { program := "ytojcacejgbnfkaagreat", sum := "5db5aaf7ffe8f03c02b254061c7910e943b9870d5b05ed9e5bed6abb878372cf", func := "mooring/mooringlaw16.CycleSums", spec := "cycleSums", unfollowed := true, recurses := true, plainKeys := false, apart := false }
def CycleSumsSaid : Prop := cycleSumsRow.holds Tryz.pinned (OpenSpec.ofChange cycleSumsSpec)

/-- ITS FALSE NEIGHBOUR: 'it returns false'. Refute it at one input. -/
def cycleSumsWrong : ChangeSpec := { name := "cycleSums", fn := fun _ => fun
  | [d1, d2, d3] => { results := [.lit (.bool false)], args := [d1, d2, d3] }
  | _ => none }
def CycleSumsWrongFalsely : Prop := cycleSumsRow.holds Tryz.pinned (OpenSpec.ofChange cycleSumsWrong)

/-- 'mooringlaw16.CycleSafe': WHATEVER THE INPUT: true; the input reads as it did. -/
def cycleSafeSpec : ChangeSpec := { name := "cycleSafe", fn := fun _ => fun
  | [d1, d2, d3, d4, d5] => { results := [.lit (.bool true)], args := [d1, d2, d3, d4, d5] }
  | _ => none }
def cycleSafeRow : OpenClaim := { program := "ytojcacejgbnfkaagreat", sum := "5db5aaf7ffe8f03c02b254061c7910e943b9870d5b05ed9e5bed6abb878372cf", func := "mooring/mooringlaw16.CycleSafe", spec := "cycleSafe", unfollowed := true, recurses := true, plainKeys := false, apart := false }
def CycleSafeSaid : Prop := cycleSafeRow.holds Tryz.pinned (OpenSpec.ofChange cycleSafeSpec)

/-- ITS FALSE NEIGHBOUR: 'it returns false'. Refute it at one input. -/
def cycleSafeWrong : ChangeSpec := { name := "cycleSafe", fn := fun _ => fun
  | [d1, d2, d3, d4, d5] => { results := [.lit (.bool false)], args := [d1, d2, d3, d4, d5] }
  | _ => none }
def CycleSafeWrongFalsely : Prop := cycleSafeRow.holds Tryz.pinned (OpenSpec.ofChange cycleSafeWrong)

/-- 'mooringlaw16.CycleFrees': WHATEVER THE INPUT: true; the input reads as it did. -/
def cycleFreesSpec : ChangeSpec := { name := "cycleFrees", fn := fun _ => fun
  | [d1, d2, d3, d4, d5] => { results := [.lit (.bool true)], args := [d1, d2, d3, d4, d5] }
  | _ => none }
def cycleFreesRow : OpenClaim := { program := "ytojcacejgbnfkaagreat", sum := "5db5aaf7ffe8f03c02b254061c7910e943b9870d5b05ed9e5bed6abb878372cf", func := "mooring/mooringlaw16.CycleFrees", spec := "cycleFrees", unfollowed := true, recurses := true, plainKeys := false, apart := false }
def CycleFreesSaid : Prop := cycleFreesRow.holds Tryz.pinned (OpenSpec.ofChange cycleFreesSpec)

/-- ITS FALSE NEIGHBOUR: 'it returns false'. Refute it at one input. -/
def cycleFreesWrong : ChangeSpec := { name := "cycleFrees", fn := fun _ => fun
  | [d1, d2, d3, d4, d5] => { results := [.lit (.bool false)], args := [d1, d2, d3, d4, d5] }
  | _ => none }
def CycleFreesWrongFalsely : Prop := cycleFreesRow.holds Tryz.pinned (OpenSpec.ofChange cycleFreesWrong)

/- THE SECOND FORM. 'bulk': how many values and letters a reading holds, each counted each time it is reached (what is shared counts as often as it is met; a slice's spare places count too). A statement '..UptoSaid' is the law's where the arguments, and the package variables that the reading takes, are together of bulk at most 1048576: NARROWER than '..Said'. Prove '..Said' where nothing that the law and all that it calls make is longer than what came in: it says more and counts as full. Else prove '..UptoSaid'. A law counts once. -/
mutual
def uptoBulk {H : Type} : DataW H → Nat
  | .lit (.string bytes) => bytes.length + 1
  | .lit _ => 1
  | .nil => 1
  | .ptr d => uptoBulk d + 1
  | .slice elems spare => uptoBulkAll elems + uptoBulkAll spare + 1
  | .agg parts => uptoBulkAll parts + 1
  | .iface _ d => uptoBulk d + 1
  | .map entries => uptoBulkEntries entries + 1
  | .held _ => 1
def uptoBulkAll {H : Type} : List (DataW H) → Nat
  | [] => 0
  | d :: r => uptoBulk d + uptoBulkAll r
def uptoBulkEntries {H : Type} : List (Lit × DataW H) → Nat
  | [] => 0
  | x :: r => uptoBulkEntry x + uptoBulkEntries r
def uptoBulkEntry {H : Type} : Lit × DataW H → Nat
  | (.string bytes, d) => bytes.length + uptoBulk d + 1
  | (_, d) => uptoBulk d + 1
 end
def uptoSmall : (H : Type) → List (DataW H) → Bool := fun _ ds => decide (uptoBulkAll ds ≤ 1048576)
def OpenSpec.upto (s : _root_.Go.ChangeSpec) : _root_.Go.OpenSpec := { _root_.Go.OpenSpec.ofChange s with cond := some uptoSmall }

/-- 'mooringlaw16.CycleIdle', WHERE WHAT IT READS IS OF BULK AT MOST 1048576: true; the input reads as it did. -/
def cycleIdleUptoRow : OpenClaim := { program := "ytojcacejgbnfkaagreat", sum := "5db5aaf7ffe8f03c02b254061c7910e943b9870d5b05ed9e5bed6abb878372cf", func := "mooring/mooringlaw16.CycleIdle", spec := "cycleIdle", unfollowed := true, recurses := true, plainKeys := false, apart := false, narrowed := true }
def CycleIdleUptoSaid : Prop := cycleIdleUptoRow.holds Tryz.pinned (OpenSpec.upto cycleIdleSpec)

/-- 'mooringlaw16.CyclePlays', WHERE WHAT IT READS IS OF BULK AT MOST 1048576: true; the input reads as it did. -/
def cyclePlaysUptoRow : OpenClaim := { program := "ytojcacejgbnfkaagreat", sum := "5db5aaf7ffe8f03c02b254061c7910e943b9870d5b05ed9e5bed6abb878372cf", func := "mooring/mooringlaw16.CyclePlays", spec := "cyclePlays", unfollowed := true, recurses := true, plainKeys := false, apart := false, narrowed := true }
def CyclePlaysUptoSaid : Prop := cyclePlaysUptoRow.holds Tryz.pinned (OpenSpec.upto cyclePlaysSpec)

/-- 'mooringlaw11.PaintPlays', WHERE WHAT IT READS IS OF BULK AT MOST 1048576: true; the input reads as it did. -/
def paintPlaysUptoRow : OpenClaim := { program := "ytojcacejgbnfkaagreat", sum := "5db5aaf7ffe8f03c02b254061c7910e943b9870d5b05ed9e5bed6abb878372cf", func := "mooring/mooringlaw11.PaintPlays", spec := "paintPlays", unfollowed := true, recurses := true, plainKeys := false, apart := false, narrowed := true }
def PaintPlaysUptoSaid : Prop := paintPlaysUptoRow.holds Tryz.pinned (OpenSpec.upto paintPlaysSpec)

/-- 'mooringlaw14.ReachPlays', WHERE WHAT IT READS IS OF BULK AT MOST 1048576: true; the input reads as it did. -/
def reachPlaysUptoRow : OpenClaim := { program := "ytojcacejgbnfkaagreat", sum := "5db5aaf7ffe8f03c02b254061c7910e943b9870d5b05ed9e5bed6abb878372cf", func := "mooring/mooringlaw14.ReachPlays", spec := "reachPlays", unfollowed := true, recurses := true, plainKeys := false, apart := false, narrowed := true }
def ReachPlaysUptoSaid : Prop := reachPlaysUptoRow.holds Tryz.pinned (OpenSpec.upto reachPlaysSpec)

/-- 'mooringlaw16.CycleKnown', WHERE WHAT IT READS IS OF BULK AT MOST 1048576: true; the input reads as it did. -/
def cycleKnownUptoRow : OpenClaim := { program := "ytojcacejgbnfkaagreat", sum := "5db5aaf7ffe8f03c02b254061c7910e943b9870d5b05ed9e5bed6abb878372cf", func := "mooring/mooringlaw16.CycleKnown", spec := "cycleKnown", unfollowed := true, recurses := true, plainKeys := false, apart := false, narrowed := true }
def CycleKnownUptoSaid : Prop := cycleKnownUptoRow.holds Tryz.pinned (OpenSpec.upto cycleKnownSpec)

/-- 'mooringlaw16.CycleUnits', WHERE WHAT IT READS IS OF BULK AT MOST 1048576: true; the input reads as it did. -/
def cycleUnitsUptoRow : OpenClaim := { program := "ytojcacejgbnfkaagreat", sum := "5db5aaf7ffe8f03c02b254061c7910e943b9870d5b05ed9e5bed6abb878372cf", func := "mooring/mooringlaw16.CycleUnits", spec := "cycleUnits", unfollowed := true, recurses := true, plainKeys := false, apart := false, narrowed := true }
def CycleUnitsUptoSaid : Prop := cycleUnitsUptoRow.holds Tryz.pinned (OpenSpec.upto cycleUnitsSpec)

/-- 'mooringlaw16.CycleWaits', WHERE WHAT IT READS IS OF BULK AT MOST 1048576: true; the input reads as it did. -/
def cycleWaitsUptoRow : OpenClaim := { program := "ytojcacejgbnfkaagreat", sum := "5db5aaf7ffe8f03c02b254061c7910e943b9870d5b05ed9e5bed6abb878372cf", func := "mooring/mooringlaw16.CycleWaits", spec := "cycleWaits", unfollowed := true, recurses := true, plainKeys := false, apart := false, narrowed := true }
def CycleWaitsUptoSaid : Prop := cycleWaitsUptoRow.holds Tryz.pinned (OpenSpec.upto cycleWaitsSpec)

/-- 'mooringlaw16.CycleJust', WHERE WHAT IT READS IS OF BULK AT MOST 1048576: true; the input reads as it did. -/
def cycleJustUptoRow : OpenClaim := { program := "ytojcacejgbnfkaagreat", sum := "5db5aaf7ffe8f03c02b254061c7910e943b9870d5b05ed9e5bed6abb878372cf", func := "mooring/mooringlaw16.CycleJust", spec := "cycleJust", unfollowed := true, recurses := true, plainKeys := false, apart := false, narrowed := true }
def CycleJustUptoSaid : Prop := cycleJustUptoRow.holds Tryz.pinned (OpenSpec.upto cycleJustSpec)

/-- 'mooringlaw16.CycleSums', WHERE WHAT IT READS IS OF BULK AT MOST 1048576: true; the input reads as it did. -/
def cycleSumsUptoRow : OpenClaim := { program := "ytojcacejgbnfkaagreat", sum := "5db5aaf7ffe8f03c02b254061c7910e943b9870d5b05ed9e5bed6abb878372cf", func := "mooring/mooringlaw16.CycleSums", spec := "cycleSums", unfollowed := true, recurses := true, plainKeys := false, apart := false, narrowed := true }
def CycleSumsUptoSaid : Prop := cycleSumsUptoRow.holds Tryz.pinned (OpenSpec.upto cycleSumsSpec)

/-- 'mooringlaw16.CycleSafe', WHERE WHAT IT READS IS OF BULK AT MOST 1048576: true; the input reads as it did. -/
def cycleSafeUptoRow : OpenClaim := { program := "ytojcacejgbnfkaagreat", sum := "5db5aaf7ffe8f03c02b254061c7910e943b9870d5b05ed9e5bed6abb878372cf", func := "mooring/mooringlaw16.CycleSafe", spec := "cycleSafe", unfollowed := true, recurses := true, plainKeys := false, apart := false, narrowed := true }
def CycleSafeUptoSaid : Prop := cycleSafeUptoRow.holds Tryz.pinned (OpenSpec.upto cycleSafeSpec)

/-- 'mooringlaw16.CycleFrees', WHERE WHAT IT READS IS OF BULK AT MOST 1048576: true; the input reads as it did. -/
def cycleFreesUptoRow : OpenClaim := { program := "ytojcacejgbnfkaagreat", sum := "5db5aaf7ffe8f03c02b254061c7910e943b9870d5b05ed9e5bed6abb878372cf", func := "mooring/mooringlaw16.CycleFrees", spec := "cycleFrees", unfollowed := true, recurses := true, plainKeys := false, apart := false, narrowed := true }
def CycleFreesUptoSaid : Prop := cycleFreesUptoRow.holds Tryz.pinned (OpenSpec.upto cycleFreesSpec)

end Rows
end Go.Proofs.YtojcacejgbnfkaaGreat
