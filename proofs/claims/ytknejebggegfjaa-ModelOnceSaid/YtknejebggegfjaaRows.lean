/-
  No cell of these rows narrows 'for every input' (looked for: loops, veiled, ifaces, maps, wideKeys, modest, calm, conditions, laid).
  DERIVED. THE GIVEN ROWS OF THIS SEAT. 11 by the template 'for every input the law returns true; each argument reads behind the call as it read before'; 0 by the template 'total and deterministic' (their statements: YtknejebggegfjaaTotals.lean).
  GIVEN WITH THE SEED: the statements are not yours to turn. If you find one false, say at which input.
  Laid BY PROGRAM, IN A SANDBOX (cutbox-rows.mjs): the forced cells as the released guide's own fill.sh prints them over the translation 2a60352ea6c51de3… (all of the seat's roots in one cut). By AI agents, Wed Nov 11 2026. No macro, syntax, notation, axiom, sorry.
-/
import Derived.Test.YtknejebggegfjaaChecked
import GoSem.Claim
import GoSem.ClaimJoined
import GoSem.ClaimMapViews
import Derived.JoinedTies
import Derived.KernelRfl
namespace Go.Proofs.Ytknejebggegfjaa
/- THE CELL 'sum', in the pinned program and in every row, IS THE sha256 OF THE DUMP (.gsa) THAT YtknejebggegfjaaProg.lean LOADS. Nothing in Lean hashes anything: it is a label: what it is worth is what the hold of that sum in a sandbox is worth. -/
noncomputable def Try.pinned : Pinned := { name := "ytknejebggegfjaa", sum := "2a60352ea6c51de370de3850d0a7f5a12ffd4cba2806220bb7f829a61fea7bc7", checked := Try.checked }
namespace Rows
def none {H : Type} : Left H := { results := [], args := [] }

/-- 'mooringlaw26.ModelOnce': WHATEVER THE INPUT: true; the input reads as it did. -/
def modelOnceSpec : ChangeSpec := { name := "modelOnce", fn := fun _ => fun
  | [d1, d2, d3, d4] => { results := [.lit (.bool true)], args := [d1, d2, d3, d4] }
  | _ => none }
def modelOnceRow : OpenClaim := { program := "ytknejebggegfjaa", sum := "2a60352ea6c51de370de3850d0a7f5a12ffd4cba2806220bb7f829a61fea7bc7", func := "mooring/mooringlaw26.ModelOnce", spec := "modelOnce", unfollowed := true, recurses := true, plainKeys := false, apart := false }
def ModelOnceSaid : Prop := modelOnceRow.holds Try.pinned (OpenSpec.ofChange modelOnceSpec)

/-- ITS FALSE NEIGHBOUR: 'it returns false'. Refute it at one input. -/
def modelOnceWrong : ChangeSpec := { name := "modelOnce", fn := fun _ => fun
  | [d1, d2, d3, d4] => { results := [.lit (.bool false)], args := [d1, d2, d3, d4] }
  | _ => none }
def ModelOnceWrongFalsely : Prop := modelOnceRow.holds Try.pinned (OpenSpec.ofChange modelOnceWrong)

/-- 'mooringlaw22.WitnessKnown': WHATEVER THE INPUT: true; the input reads as it did. -/
def witnessKnownSpec : ChangeSpec := { name := "witnessKnown", fn := fun _ => fun
  | [] => { results := [.lit (.bool true)], args := [] }
  | _ => none }
def witnessKnownRow : OpenClaim := { program := "ytknejebggegfjaa", sum := "2a60352ea6c51de370de3850d0a7f5a12ffd4cba2806220bb7f829a61fea7bc7", func := "mooring/mooringlaw22.WitnessKnown", spec := "witnessKnown", unfollowed := true, recurses := true, plainKeys := false, apart := false }
def WitnessKnownSaid : Prop := witnessKnownRow.holds Try.pinned (OpenSpec.ofChange witnessKnownSpec)

/-- ITS FALSE NEIGHBOUR: 'it returns false'. Refute it at one input. -/
def witnessKnownWrong : ChangeSpec := { name := "witnessKnown", fn := fun _ => fun
  | [] => { results := [.lit (.bool false)], args := [] }
  | _ => none }
def WitnessKnownWrongFalsely : Prop := witnessKnownRow.holds Try.pinned (OpenSpec.ofChange witnessKnownWrong)

/-- 'mooringlaw22.WitnessIn': WHATEVER THE INPUT: true; the input reads as it did. -/
def witnessInSpec : ChangeSpec := { name := "witnessIn", fn := fun _ => fun
  | [d1, d2, d3, d4, d5, d6] => { results := [.lit (.bool true)], args := [d1, d2, d3, d4, d5, d6] }
  | _ => none }
def witnessInRow : OpenClaim := { program := "ytknejebggegfjaa", sum := "2a60352ea6c51de370de3850d0a7f5a12ffd4cba2806220bb7f829a61fea7bc7", func := "mooring/mooringlaw22.WitnessIn", spec := "witnessIn", unfollowed := true, recurses := true, plainKeys := false, apart := false }
def WitnessInSaid : Prop := witnessInRow.holds Try.pinned (OpenSpec.ofChange witnessInSpec)

/-- ITS FALSE NEIGHBOUR: 'it returns false'. Refute it at one input. -/
def witnessInWrong : ChangeSpec := { name := "witnessIn", fn := fun _ => fun
  | [d1, d2, d3, d4, d5, d6] => { results := [.lit (.bool false)], args := [d1, d2, d3, d4, d5, d6] }
  | _ => none }
def WitnessInWrongFalsely : Prop := witnessInRow.holds Try.pinned (OpenSpec.ofChange witnessInWrong)

/-- 'mooringlaw22.WitnessOut': WHATEVER THE INPUT: true; the input reads as it did. -/
def witnessOutSpec : ChangeSpec := { name := "witnessOut", fn := fun _ => fun
  | [d1, d2, d3, d4, d5, d6] => { results := [.lit (.bool true)], args := [d1, d2, d3, d4, d5, d6] }
  | _ => none }
def witnessOutRow : OpenClaim := { program := "ytknejebggegfjaa", sum := "2a60352ea6c51de370de3850d0a7f5a12ffd4cba2806220bb7f829a61fea7bc7", func := "mooring/mooringlaw22.WitnessOut", spec := "witnessOut", unfollowed := true, recurses := true, plainKeys := false, apart := false }
def WitnessOutSaid : Prop := witnessOutRow.holds Try.pinned (OpenSpec.ofChange witnessOutSpec)

/-- ITS FALSE NEIGHBOUR: 'it returns false'. Refute it at one input. -/
def witnessOutWrong : ChangeSpec := { name := "witnessOut", fn := fun _ => fun
  | [d1, d2, d3, d4, d5, d6] => { results := [.lit (.bool false)], args := [d1, d2, d3, d4, d5, d6] }
  | _ => none }
def WitnessOutWrongFalsely : Prop := witnessOutRow.holds Try.pinned (OpenSpec.ofChange witnessOutWrong)

/-- 'mooringlaw22.WitnessLive': WHATEVER THE INPUT: true; the input reads as it did. -/
def witnessLiveSpec : ChangeSpec := { name := "witnessLive", fn := fun _ => fun
  | [d1, d2, d3, d4, d5, d6, d7] => { results := [.lit (.bool true)], args := [d1, d2, d3, d4, d5, d6, d7] }
  | _ => none }
def witnessLiveRow : OpenClaim := { program := "ytknejebggegfjaa", sum := "2a60352ea6c51de370de3850d0a7f5a12ffd4cba2806220bb7f829a61fea7bc7", func := "mooring/mooringlaw22.WitnessLive", spec := "witnessLive", unfollowed := true, recurses := true, plainKeys := false, apart := false }
def WitnessLiveSaid : Prop := witnessLiveRow.holds Try.pinned (OpenSpec.ofChange witnessLiveSpec)

/-- ITS FALSE NEIGHBOUR: 'it returns false'. Refute it at one input. -/
def witnessLiveWrong : ChangeSpec := { name := "witnessLive", fn := fun _ => fun
  | [d1, d2, d3, d4, d5, d6, d7] => { results := [.lit (.bool false)], args := [d1, d2, d3, d4, d5, d6, d7] }
  | _ => none }
def WitnessLiveWrongFalsely : Prop := witnessLiveRow.holds Try.pinned (OpenSpec.ofChange witnessLiveWrong)

/-- 'mooringlaw23.TraceFinds': WHATEVER THE INPUT: true; the input reads as it did. -/
def traceFindsSpec : ChangeSpec := { name := "traceFinds", fn := fun _ => fun
  | [d1, d2] => { results := [.lit (.bool true)], args := [d1, d2] }
  | _ => none }
def traceFindsRow : OpenClaim := { program := "ytknejebggegfjaa", sum := "2a60352ea6c51de370de3850d0a7f5a12ffd4cba2806220bb7f829a61fea7bc7", func := "mooring/mooringlaw23.TraceFinds", spec := "traceFinds", unfollowed := true, recurses := true, plainKeys := false, apart := false }
def TraceFindsSaid : Prop := traceFindsRow.holds Try.pinned (OpenSpec.ofChange traceFindsSpec)

/-- ITS FALSE NEIGHBOUR: 'it returns false'. Refute it at one input. -/
def traceFindsWrong : ChangeSpec := { name := "traceFinds", fn := fun _ => fun
  | [d1, d2] => { results := [.lit (.bool false)], args := [d1, d2] }
  | _ => none }
def TraceFindsWrongFalsely : Prop := traceFindsRow.holds Try.pinned (OpenSpec.ofChange traceFindsWrong)

/-- 'mooringlaw23.TraceStirs': WHATEVER THE INPUT: true; the input reads as it did. -/
def traceStirsSpec : ChangeSpec := { name := "traceStirs", fn := fun _ => fun
  | [d1, d2, d3] => { results := [.lit (.bool true)], args := [d1, d2, d3] }
  | _ => none }
def traceStirsRow : OpenClaim := { program := "ytknejebggegfjaa", sum := "2a60352ea6c51de370de3850d0a7f5a12ffd4cba2806220bb7f829a61fea7bc7", func := "mooring/mooringlaw23.TraceStirs", spec := "traceStirs", unfollowed := true, recurses := true, plainKeys := false, apart := false }
def TraceStirsSaid : Prop := traceStirsRow.holds Try.pinned (OpenSpec.ofChange traceStirsSpec)

/-- ITS FALSE NEIGHBOUR: 'it returns false'. Refute it at one input. -/
def traceStirsWrong : ChangeSpec := { name := "traceStirs", fn := fun _ => fun
  | [d1, d2, d3] => { results := [.lit (.bool false)], args := [d1, d2, d3] }
  | _ => none }
def TraceStirsWrongFalsely : Prop := traceStirsRow.holds Try.pinned (OpenSpec.ofChange traceStirsWrong)

/-- 'mooringlaw23.TraceWaits': WHATEVER THE INPUT: true; the input reads as it did. -/
def traceWaitsSpec : ChangeSpec := { name := "traceWaits", fn := fun _ => fun
  | [d1, d2, d3] => { results := [.lit (.bool true)], args := [d1, d2, d3] }
  | _ => none }
def traceWaitsRow : OpenClaim := { program := "ytknejebggegfjaa", sum := "2a60352ea6c51de370de3850d0a7f5a12ffd4cba2806220bb7f829a61fea7bc7", func := "mooring/mooringlaw23.TraceWaits", spec := "traceWaits", unfollowed := true, recurses := true, plainKeys := false, apart := false }
def TraceWaitsSaid : Prop := traceWaitsRow.holds Try.pinned (OpenSpec.ofChange traceWaitsSpec)

/-- ITS FALSE NEIGHBOUR: 'it returns false'. Refute it at one input. -/
def traceWaitsWrong : ChangeSpec := { name := "traceWaits", fn := fun _ => fun
  | [d1, d2, d3] => { results := [.lit (.bool false)], args := [d1, d2, d3] }
  | _ => none }
def TraceWaitsWrongFalsely : Prop := traceWaitsRow.holds Try.pinned (OpenSpec.ofChange traceWaitsWrong)

/-- 'mooringlaw23.TraceKnown': WHATEVER THE INPUT: true; the input reads as it did. -/
def traceKnownSpec : ChangeSpec := { name := "traceKnown", fn := fun _ => fun
  | [] => { results := [.lit (.bool true)], args := [] }
  | _ => none }
def traceKnownRow : OpenClaim := { program := "ytknejebggegfjaa", sum := "2a60352ea6c51de370de3850d0a7f5a12ffd4cba2806220bb7f829a61fea7bc7", func := "mooring/mooringlaw23.TraceKnown", spec := "traceKnown", unfollowed := true, recurses := true, plainKeys := false, apart := false }
def TraceKnownSaid : Prop := traceKnownRow.holds Try.pinned (OpenSpec.ofChange traceKnownSpec)

/-- ITS FALSE NEIGHBOUR: 'it returns false'. Refute it at one input. -/
def traceKnownWrong : ChangeSpec := { name := "traceKnown", fn := fun _ => fun
  | [] => { results := [.lit (.bool false)], args := [] }
  | _ => none }
def TraceKnownWrongFalsely : Prop := traceKnownRow.holds Try.pinned (OpenSpec.ofChange traceKnownWrong)

/-- 'mooringlaw23.TracePlays': WHATEVER THE INPUT: true; the input reads as it did. -/
def tracePlaysSpec : ChangeSpec := { name := "tracePlays", fn := fun _ => fun
  | [d1, d2, d3, d4] => { results := [.lit (.bool true)], args := [d1, d2, d3, d4] }
  | _ => none }
def tracePlaysRow : OpenClaim := { program := "ytknejebggegfjaa", sum := "2a60352ea6c51de370de3850d0a7f5a12ffd4cba2806220bb7f829a61fea7bc7", func := "mooring/mooringlaw23.TracePlays", spec := "tracePlays", unfollowed := true, recurses := true, plainKeys := false, apart := false }
def TracePlaysSaid : Prop := tracePlaysRow.holds Try.pinned (OpenSpec.ofChange tracePlaysSpec)

/-- ITS FALSE NEIGHBOUR: 'it returns false'. Refute it at one input. -/
def tracePlaysWrong : ChangeSpec := { name := "tracePlays", fn := fun _ => fun
  | [d1, d2, d3, d4] => { results := [.lit (.bool false)], args := [d1, d2, d3, d4] }
  | _ => none }
def TracePlaysWrongFalsely : Prop := tracePlaysRow.holds Try.pinned (OpenSpec.ofChange tracePlaysWrong)

/-- 'mooringlaw23.TraceStale': WHATEVER THE INPUT: true; the input reads as it did. -/
def traceStaleSpec : ChangeSpec := { name := "traceStale", fn := fun _ => fun
  | [d1, d2, d3] => { results := [.lit (.bool true)], args := [d1, d2, d3] }
  | _ => none }
def traceStaleRow : OpenClaim := { program := "ytknejebggegfjaa", sum := "2a60352ea6c51de370de3850d0a7f5a12ffd4cba2806220bb7f829a61fea7bc7", func := "mooring/mooringlaw23.TraceStale", spec := "traceStale", unfollowed := true, recurses := true, plainKeys := false, apart := false }
def TraceStaleSaid : Prop := traceStaleRow.holds Try.pinned (OpenSpec.ofChange traceStaleSpec)

/-- ITS FALSE NEIGHBOUR: 'it returns false'. Refute it at one input. -/
def traceStaleWrong : ChangeSpec := { name := "traceStale", fn := fun _ => fun
  | [d1, d2, d3] => { results := [.lit (.bool false)], args := [d1, d2, d3] }
  | _ => none }
def TraceStaleWrongFalsely : Prop := traceStaleRow.holds Try.pinned (OpenSpec.ofChange traceStaleWrong)

/- THE SECOND FORM. 'bulk': how many values and letters a reading holds, each counted each time it is reached (what is shared counts as often as it is met; a slice's spare places count too). A statement '..UptoSaid' is the law's where the arguments, and the package variables that the reading takes, are together of bulk at most 1048576: NARROWER than '..Said'. Prove '..Said' where nothing that the law and all that it calls make is longer than what came in: it says more and counts as full. Else prove '..UptoSaid'. A law counts once. -/
mutual
def uptoBulk {H : Type} : DataW H → Nat
  | .lit (.string bytes) => bytes.length + 1
  | .lit _ => 1
  | .nil => 1
  | .ptr d => uptoBulk d + 1
  | .slice elems spare => uptoBulkAll elems + uptoBulkAll spare + 1
  | .agg parts => uptoBulkAll parts + 1
  | .iface _ d => uptoBulk d + 1
  | .map entries => uptoBulkEntries entries + 1
  | .held _ => 1
def uptoBulkAll {H : Type} : List (DataW H) → Nat
  | [] => 0
  | d :: r => uptoBulk d + uptoBulkAll r
def uptoBulkEntries {H : Type} : List (Lit × DataW H) → Nat
  | [] => 0
  | x :: r => uptoBulkEntry x + uptoBulkEntries r
def uptoBulkEntry {H : Type} : Lit × DataW H → Nat
  | (.string bytes, d) => bytes.length + uptoBulk d + 1
  | (_, d) => uptoBulk d + 1
 end
def uptoSmall : (H : Type) → List (DataW H) → Bool := fun _ ds => decide (uptoBulkAll ds ≤ 1048576)
def OpenSpec.upto (s : _root_.Go.ChangeSpec) : _root_.Go.OpenSpec := { _root_.Go.OpenSpec.ofChange s with cond := some uptoSmall }

/-- 'mooringlaw26.ModelOnce', WHERE WHAT IT READS IS OF BULK AT MOST 1048576: true; the input reads as it did. -/
def modelOnceUptoRow : OpenClaim := { program := "ytknejebggegfjaa", sum := "2a60352ea6c51de370de3850d0a7f5a12ffd4cba2806220bb7f829a61fea7bc7", func := "mooring/mooringlaw26.ModelOnce", spec := "modelOnce", unfollowed := true, recurses := true, plainKeys := false, apart := false, narrowed := true }
def ModelOnceUptoSaid : Prop := modelOnceUptoRow.holds Try.pinned (OpenSpec.upto modelOnceSpec)

/-- 'mooringlaw22.WitnessKnown', WHERE WHAT IT READS IS OF BULK AT MOST 1048576: true; the input reads as it did. -/
def witnessKnownUptoRow : OpenClaim := { program := "ytknejebggegfjaa", sum := "2a60352ea6c51de370de3850d0a7f5a12ffd4cba2806220bb7f829a61fea7bc7", func := "mooring/mooringlaw22.WitnessKnown", spec := "witnessKnown", unfollowed := true, recurses := true, plainKeys := false, apart := false, narrowed := true }
def WitnessKnownUptoSaid : Prop := witnessKnownUptoRow.holds Try.pinned (OpenSpec.upto witnessKnownSpec)

/-- 'mooringlaw22.WitnessIn', WHERE WHAT IT READS IS OF BULK AT MOST 1048576: true; the input reads as it did. -/
def witnessInUptoRow : OpenClaim := { program := "ytknejebggegfjaa", sum := "2a60352ea6c51de370de3850d0a7f5a12ffd4cba2806220bb7f829a61fea7bc7", func := "mooring/mooringlaw22.WitnessIn", spec := "witnessIn", unfollowed := true, recurses := true, plainKeys := false, apart := false, narrowed := true }
def WitnessInUptoSaid : Prop := witnessInUptoRow.holds Try.pinned (OpenSpec.upto witnessInSpec)

/-- 'mooringlaw22.WitnessOut', WHERE WHAT IT READS IS OF BULK AT MOST 1048576: true; the input reads as it did. -/
def witnessOutUptoRow : OpenClaim := { program := "ytknejebggegfjaa", sum := "2a60352ea6c51de370de3850d0a7f5a12ffd4cba2806220bb7f829a61fea7bc7", func := "mooring/mooringlaw22.WitnessOut", spec := "witnessOut", unfollowed := true, recurses := true, plainKeys := false, apart := false, narrowed := true }
def WitnessOutUptoSaid : Prop := witnessOutUptoRow.holds Try.pinned (OpenSpec.upto witnessOutSpec)

/-- 'mooringlaw22.WitnessLive', WHERE WHAT IT READS IS OF BULK AT MOST 1048576: true; the input reads as it did. -/
def witnessLiveUptoRow : OpenClaim := { program := "ytknejebggegfjaa", sum := "2a60352ea6c51de370de3850d0a7f5a12ffd4cba2806220bb7f829a61fea7bc7", func := "mooring/mooringlaw22.WitnessLive", spec := "witnessLive", unfollowed := true, recurses := true, plainKeys := false, apart := false, narrowed := true }
def WitnessLiveUptoSaid : Prop := witnessLiveUptoRow.holds Try.pinned (OpenSpec.upto witnessLiveSpec)

/-- 'mooringlaw23.TraceFinds', WHERE WHAT IT READS IS OF BULK AT MOST 1048576: true; the input reads as it did. -/
def traceFindsUptoRow : OpenClaim := { program := "ytknejebggegfjaa", sum := "2a60352ea6c51de370de3850d0a7f5a12ffd4cba2806220bb7f829a61fea7bc7", func := "mooring/mooringlaw23.TraceFinds", spec := "traceFinds", unfollowed := true, recurses := true, plainKeys := false, apart := false, narrowed := true }
def TraceFindsUptoSaid : Prop := traceFindsUptoRow.holds Try.pinned (OpenSpec.upto traceFindsSpec)

/-- 'mooringlaw23.TraceStirs', WHERE WHAT IT READS IS OF BULK AT MOST 1048576: true; the input reads as it did. -/
def traceStirsUptoRow : OpenClaim := { program := "ytknejebggegfjaa", sum := "2a60352ea6c51de370de3850d0a7f5a12ffd4cba2806220bb7f829a61fea7bc7", func := "mooring/mooringlaw23.TraceStirs", spec := "traceStirs", unfollowed := true, recurses := true, plainKeys := false, apart := false, narrowed := true }
def TraceStirsUptoSaid : Prop := traceStirsUptoRow.holds Try.pinned (OpenSpec.upto traceStirsSpec)

/-- 'mooringlaw23.TraceWaits', WHERE WHAT IT READS IS OF BULK AT MOST 1048576: true; the input reads as it did. -/
def traceWaitsUptoRow : OpenClaim := { program := "ytknejebggegfjaa", sum := "2a60352ea6c51de370de3850d0a7f5a12ffd4cba2806220bb7f829a61fea7bc7", func := "mooring/mooringlaw23.TraceWaits", spec := "traceWaits", unfollowed := true, recurses := true, plainKeys := false, apart := false, narrowed := true }
def TraceWaitsUptoSaid : Prop := traceWaitsUptoRow.holds Try.pinned (OpenSpec.upto traceWaitsSpec)

/-- 'mooringlaw23.TraceKnown', WHERE WHAT IT READS IS OF BULK AT MOST 1048576: true; the input reads as it did. -/
def traceKnownUptoRow : OpenClaim := { program := "ytknejebggegfjaa", sum := "2a60352ea6c51de370de3850d0a7f5a12ffd4cba2806220bb7f829a61fea7bc7", func := "mooring/mooringlaw23.TraceKnown", spec := "traceKnown", unfollowed := true, recurses := true, plainKeys := false, apart := false, narrowed := true }
def TraceKnownUptoSaid : Prop := traceKnownUptoRow.holds Try.pinned (OpenSpec.upto traceKnownSpec)

/-- 'mooringlaw23.TracePlays', WHERE WHAT IT READS IS OF BULK AT MOST 1048576: true; the input reads as it did. -/
def tracePlaysUptoRow : OpenClaim := { program := "ytknejebggegfjaa", sum := "2a60352ea6c51de370de3850d0a7f5a12ffd4cba2806220bb7f829a61fea7bc7", func := "mooring/mooringlaw23.TracePlays", spec := "tracePlays", unfollowed := true, recurses := true, plainKeys := false, apart := false, narrowed := true }
def TracePlaysUptoSaid : Prop := tracePlaysUptoRow.holds Try.pinned (OpenSpec.upto tracePlaysSpec)

/-- 'mooringlaw23.TraceStale', WHERE WHAT IT READS IS OF BULK AT MOST 1048576: true; the input reads as it did. -/
def traceStaleUptoRow : OpenClaim := { program := "ytknejebggegfjaa", sum := "2a60352ea6c51de370de3850d0a7f5a12ffd4cba2806220bb7f829a61fea7bc7", func := "mooring/mooringlaw23.TraceStale", spec := "traceStale", unfollowed := true, recurses := true, plainKeys := false, apart := false, narrowed := true }
def TraceStaleUptoSaid : Prop := traceStaleUptoRow.holds Try.pinned (OpenSpec.upto traceStaleSpec)

end Rows
end Go.Proofs.Ytknejebggegfjaa
