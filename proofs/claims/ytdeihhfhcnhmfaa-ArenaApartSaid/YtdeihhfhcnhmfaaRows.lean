/-
  No cell of these rows narrows 'for every input' (looked for: loops, veiled, ifaces, maps, wideKeys, modest, calm, conditions, laid).
  DERIVED. THE GIVEN ROWS OF THIS SEAT. 12 by the template 'for every input the law returns true; each argument reads behind the call as it read before'; 0 by the template 'total and deterministic' (their statements: YtdeihhfhcnhmfaaTotals.lean).
  GIVEN WITH THE SEED: the statements are not yours to turn. If you find one false, say at which input.
  Laid BY PROGRAM, IN A SANDBOX (cutbox-rows.mjs): the forced cells as the released guide's own fill.sh prints them over the translation 92da8e8ef31e90ae… (all of the seat's roots in one cut). By AI agents, Wed Nov 11 2026. No macro, syntax, notation, axiom, sorry.
-/
import Derived.Test.YtdeihhfhcnhmfaaChecked
import GoSem.Claim
import GoSem.ClaimJoined
import GoSem.ClaimMapViews
import Derived.JoinedTies
import Derived.KernelRfl
namespace Go.Proofs.Ytdeihhfhcnhmfaa
/- THE CELL 'sum', in the pinned program and in every row, IS THE sha256 OF THE DUMP (.gsa) THAT YtdeihhfhcnhmfaaProg.lean LOADS. Nothing in Lean hashes anything: it is a label: what it is worth is what the hold of that sum in a sandbox is worth. -/
noncomputable def Try.pinned : Pinned := { name := "ytdeihhfhcnhmfaa", sum := "92da8e8ef31e90aeba647dcf1019cc76f26823823e54fc21618aa2c3aed5a002", checked := Try.checked }
namespace Rows
def none {H : Type} : Left H := { results := [], args := [] }

/-- 'mooringlaw10.GreyBack': WHATEVER THE INPUT: true; the input reads as it did. -/
def greyBackSpec : ChangeSpec := { name := "greyBack", fn := fun _ => fun
  | [d1, d2] => { results := [.lit (.bool true)], args := [d1, d2] }
  | _ => none }
def greyBackRow : OpenClaim := { program := "ytdeihhfhcnhmfaa", sum := "92da8e8ef31e90aeba647dcf1019cc76f26823823e54fc21618aa2c3aed5a002", func := "mooring/mooringlaw10.GreyBack", spec := "greyBack", apart := false }
def GreyBackSaid : Prop := greyBackRow.holds Try.pinned (OpenSpec.ofChange greyBackSpec)

/-- ITS FALSE NEIGHBOUR: 'it returns false'. Refute it at one input. -/
def greyBackWrong : ChangeSpec := { name := "greyBack", fn := fun _ => fun
  | [d1, d2] => { results := [.lit (.bool false)], args := [d1, d2] }
  | _ => none }
def GreyBackWrongFalsely : Prop := greyBackRow.holds Try.pinned (OpenSpec.ofChange greyBackWrong)

/-- 'mooringlaw10.GreyKnown': WHATEVER THE INPUT: true; the input reads as it did. -/
def greyKnownSpec : ChangeSpec := { name := "greyKnown", fn := fun _ => fun
  | [] => { results := [.lit (.bool true)], args := [] }
  | _ => none }
def greyKnownRow : OpenClaim := { program := "ytdeihhfhcnhmfaa", sum := "92da8e8ef31e90aeba647dcf1019cc76f26823823e54fc21618aa2c3aed5a002", func := "mooring/mooringlaw10.GreyKnown", spec := "greyKnown", apart := false }
def GreyKnownSaid : Prop := greyKnownRow.holds Try.pinned (OpenSpec.ofChange greyKnownSpec)

/-- ITS FALSE NEIGHBOUR: 'it returns false'. Refute it at one input. -/
def greyKnownWrong : ChangeSpec := { name := "greyKnown", fn := fun _ => fun
  | [] => { results := [.lit (.bool false)], args := [] }
  | _ => none }
def GreyKnownWrongFalsely : Prop := greyKnownRow.holds Try.pinned (OpenSpec.ofChange greyKnownWrong)

/-- 'mooringlaw10.GreyPlays': WHATEVER THE INPUT: true; the input reads as it did. -/
def greyPlaysSpec : ChangeSpec := { name := "greyPlays", fn := fun _ => fun
  | [d1, d2] => { results := [.lit (.bool true)], args := [d1, d2] }
  | _ => none }
def greyPlaysRow : OpenClaim := { program := "ytdeihhfhcnhmfaa", sum := "92da8e8ef31e90aeba647dcf1019cc76f26823823e54fc21618aa2c3aed5a002", func := "mooring/mooringlaw10.GreyPlays", spec := "greyPlays", apart := false }
def GreyPlaysSaid : Prop := greyPlaysRow.holds Try.pinned (OpenSpec.ofChange greyPlaysSpec)

/-- ITS FALSE NEIGHBOUR: 'it returns false'. Refute it at one input. -/
def greyPlaysWrong : ChangeSpec := { name := "greyPlays", fn := fun _ => fun
  | [d1, d2] => { results := [.lit (.bool false)], args := [d1, d2] }
  | _ => none }
def GreyPlaysWrongFalsely : Prop := greyPlaysRow.holds Try.pinned (OpenSpec.ofChange greyPlaysWrong)

/-- 'mooringlaw7.ArenaClasses': WHATEVER THE INPUT: true; the input reads as it did. -/
def arenaClassesSpec : ChangeSpec := { name := "arenaClasses", fn := fun _ => fun
  | [d] => { results := [.lit (.bool true)], args := [d] }
  | _ => none }
def arenaClassesRow : OpenClaim := { program := "ytdeihhfhcnhmfaa", sum := "92da8e8ef31e90aeba647dcf1019cc76f26823823e54fc21618aa2c3aed5a002", func := "mooring/mooringlaw7.ArenaClasses", spec := "arenaClasses", apart := false }
def ArenaClassesSaid : Prop := arenaClassesRow.holds Try.pinned (OpenSpec.ofChange arenaClassesSpec)

/-- ITS FALSE NEIGHBOUR: 'it returns false'. Refute it at one input. -/
def arenaClassesWrong : ChangeSpec := { name := "arenaClasses", fn := fun _ => fun
  | [d] => { results := [.lit (.bool false)], args := [d] }
  | _ => none }
def ArenaClassesWrongFalsely : Prop := arenaClassesRow.holds Try.pinned (OpenSpec.ofChange arenaClassesWrong)

/-- 'mooringlaw12.ShakeAny': WHATEVER THE INPUT: true; the input reads as it did. -/
def shakeAnySpec : ChangeSpec := { name := "shakeAny", fn := fun _ => fun
  | [d1, d2] => { results := [.lit (.bool true)], args := [d1, d2] }
  | _ => none }
def shakeAnyRow : OpenClaim := { program := "ytdeihhfhcnhmfaa", sum := "92da8e8ef31e90aeba647dcf1019cc76f26823823e54fc21618aa2c3aed5a002", func := "mooring/mooringlaw12.ShakeAny", spec := "shakeAny", apart := false }
def ShakeAnySaid : Prop := shakeAnyRow.holds Try.pinned (OpenSpec.ofChange shakeAnySpec)

/-- ITS FALSE NEIGHBOUR: 'it returns false'. Refute it at one input. -/
def shakeAnyWrong : ChangeSpec := { name := "shakeAny", fn := fun _ => fun
  | [d1, d2] => { results := [.lit (.bool false)], args := [d1, d2] }
  | _ => none }
def ShakeAnyWrongFalsely : Prop := shakeAnyRow.holds Try.pinned (OpenSpec.ofChange shakeAnyWrong)

/-- 'mooringlaw12.ShakeKnown': WHATEVER THE INPUT: true; the input reads as it did. -/
def shakeKnownSpec : ChangeSpec := { name := "shakeKnown", fn := fun _ => fun
  | [] => { results := [.lit (.bool true)], args := [] }
  | _ => none }
def shakeKnownRow : OpenClaim := { program := "ytdeihhfhcnhmfaa", sum := "92da8e8ef31e90aeba647dcf1019cc76f26823823e54fc21618aa2c3aed5a002", func := "mooring/mooringlaw12.ShakeKnown", spec := "shakeKnown", apart := false }
def ShakeKnownSaid : Prop := shakeKnownRow.holds Try.pinned (OpenSpec.ofChange shakeKnownSpec)

/-- ITS FALSE NEIGHBOUR: 'it returns false'. Refute it at one input. -/
def shakeKnownWrong : ChangeSpec := { name := "shakeKnown", fn := fun _ => fun
  | [] => { results := [.lit (.bool false)], args := [] }
  | _ => none }
def ShakeKnownWrongFalsely : Prop := shakeKnownRow.holds Try.pinned (OpenSpec.ofChange shakeKnownWrong)

/-- 'mooringlaw12.ShakePlays': WHATEVER THE INPUT: true; the input reads as it did. -/
def shakePlaysSpec : ChangeSpec := { name := "shakePlays", fn := fun _ => fun
  | [d1, d2] => { results := [.lit (.bool true)], args := [d1, d2] }
  | _ => none }
def shakePlaysRow : OpenClaim := { program := "ytdeihhfhcnhmfaa", sum := "92da8e8ef31e90aeba647dcf1019cc76f26823823e54fc21618aa2c3aed5a002", func := "mooring/mooringlaw12.ShakePlays", spec := "shakePlays", apart := false }
def ShakePlaysSaid : Prop := shakePlaysRow.holds Try.pinned (OpenSpec.ofChange shakePlaysSpec)

/-- ITS FALSE NEIGHBOUR: 'it returns false'. Refute it at one input. -/
def shakePlaysWrong : ChangeSpec := { name := "shakePlays", fn := fun _ => fun
  | [d1, d2] => { results := [.lit (.bool false)], args := [d1, d2] }
  | _ => none }
def ShakePlaysWrongFalsely : Prop := shakePlaysRow.holds Try.pinned (OpenSpec.ofChange shakePlaysWrong)

/-- 'mooringlaw12.ShakeOrder': WHATEVER THE INPUT: true; the input reads as it did. -/
def shakeOrderSpec : ChangeSpec := { name := "shakeOrder", fn := fun _ => fun
  | [d1, d2] => { results := [.lit (.bool true)], args := [d1, d2] }
  | _ => none }
def shakeOrderRow : OpenClaim := { program := "ytdeihhfhcnhmfaa", sum := "92da8e8ef31e90aeba647dcf1019cc76f26823823e54fc21618aa2c3aed5a002", func := "mooring/mooringlaw12.ShakeOrder", spec := "shakeOrder", apart := false }
def ShakeOrderSaid : Prop := shakeOrderRow.holds Try.pinned (OpenSpec.ofChange shakeOrderSpec)

/-- ITS FALSE NEIGHBOUR: 'it returns false'. Refute it at one input. -/
def shakeOrderWrong : ChangeSpec := { name := "shakeOrder", fn := fun _ => fun
  | [d1, d2] => { results := [.lit (.bool false)], args := [d1, d2] }
  | _ => none }
def ShakeOrderWrongFalsely : Prop := shakeOrderRow.holds Try.pinned (OpenSpec.ofChange shakeOrderWrong)

/-- 'mooringlaw7.ArenaRoom': WHATEVER THE INPUT: true; the input reads as it did. -/
def arenaRoomSpec : ChangeSpec := { name := "arenaRoom", fn := fun _ => fun
  | [d1, d2, d3] => { results := [.lit (.bool true)], args := [d1, d2, d3] }
  | _ => none }
def arenaRoomRow : OpenClaim := { program := "ytdeihhfhcnhmfaa", sum := "92da8e8ef31e90aeba647dcf1019cc76f26823823e54fc21618aa2c3aed5a002", func := "mooring/mooringlaw7.ArenaRoom", spec := "arenaRoom", apart := false }
def ArenaRoomSaid : Prop := arenaRoomRow.holds Try.pinned (OpenSpec.ofChange arenaRoomSpec)

/-- ITS FALSE NEIGHBOUR: 'it returns false'. Refute it at one input. -/
def arenaRoomWrong : ChangeSpec := { name := "arenaRoom", fn := fun _ => fun
  | [d1, d2, d3] => { results := [.lit (.bool false)], args := [d1, d2, d3] }
  | _ => none }
def ArenaRoomWrongFalsely : Prop := arenaRoomRow.holds Try.pinned (OpenSpec.ofChange arenaRoomWrong)

/-- 'mooringlaw7.ArenaApart': WHATEVER THE INPUT: true; the input reads as it did. -/
def arenaApartSpec : ChangeSpec := { name := "arenaApart", fn := fun _ => fun
  | [d1, d2, d3] => { results := [.lit (.bool true)], args := [d1, d2, d3] }
  | _ => none }
def arenaApartRow : OpenClaim := { program := "ytdeihhfhcnhmfaa", sum := "92da8e8ef31e90aeba647dcf1019cc76f26823823e54fc21618aa2c3aed5a002", func := "mooring/mooringlaw7.ArenaApart", spec := "arenaApart", apart := false }
def ArenaApartSaid : Prop := arenaApartRow.holds Try.pinned (OpenSpec.ofChange arenaApartSpec)

/-- ITS FALSE NEIGHBOUR: 'it returns false'. Refute it at one input. -/
def arenaApartWrong : ChangeSpec := { name := "arenaApart", fn := fun _ => fun
  | [d1, d2, d3] => { results := [.lit (.bool false)], args := [d1, d2, d3] }
  | _ => none }
def ArenaApartWrongFalsely : Prop := arenaApartRow.holds Try.pinned (OpenSpec.ofChange arenaApartWrong)

/-- 'mooringlaw7.ArenaAll': WHATEVER THE INPUT: true; the input reads as it did. -/
def arenaAllSpec : ChangeSpec := { name := "arenaAll", fn := fun _ => fun
  | [d1, d2, d3] => { results := [.lit (.bool true)], args := [d1, d2, d3] }
  | _ => none }
def arenaAllRow : OpenClaim := { program := "ytdeihhfhcnhmfaa", sum := "92da8e8ef31e90aeba647dcf1019cc76f26823823e54fc21618aa2c3aed5a002", func := "mooring/mooringlaw7.ArenaAll", spec := "arenaAll", apart := false }
def ArenaAllSaid : Prop := arenaAllRow.holds Try.pinned (OpenSpec.ofChange arenaAllSpec)

/-- ITS FALSE NEIGHBOUR: 'it returns false'. Refute it at one input. -/
def arenaAllWrong : ChangeSpec := { name := "arenaAll", fn := fun _ => fun
  | [d1, d2, d3] => { results := [.lit (.bool false)], args := [d1, d2, d3] }
  | _ => none }
def ArenaAllWrongFalsely : Prop := arenaAllRow.holds Try.pinned (OpenSpec.ofChange arenaAllWrong)

/-- 'mooringlaw7.ArenaKnown': WHATEVER THE INPUT: true; the input reads as it did. -/
def arenaKnownSpec : ChangeSpec := { name := "arenaKnown", fn := fun _ => fun
  | [] => { results := [.lit (.bool true)], args := [] }
  | _ => none }
def arenaKnownRow : OpenClaim := { program := "ytdeihhfhcnhmfaa", sum := "92da8e8ef31e90aeba647dcf1019cc76f26823823e54fc21618aa2c3aed5a002", func := "mooring/mooringlaw7.ArenaKnown", spec := "arenaKnown", apart := false }
def ArenaKnownSaid : Prop := arenaKnownRow.holds Try.pinned (OpenSpec.ofChange arenaKnownSpec)

/-- ITS FALSE NEIGHBOUR: 'it returns false'. Refute it at one input. -/
def arenaKnownWrong : ChangeSpec := { name := "arenaKnown", fn := fun _ => fun
  | [] => { results := [.lit (.bool false)], args := [] }
  | _ => none }
def ArenaKnownWrongFalsely : Prop := arenaKnownRow.holds Try.pinned (OpenSpec.ofChange arenaKnownWrong)

/- THE SECOND FORM. 'bulk': how many values and letters a reading holds, each counted each time it is reached (what is shared counts as often as it is met; a slice's spare places count too). A statement '..UptoSaid' is the law's where the arguments, and the package variables that the reading takes, are together of bulk at most 1048576: NARROWER than '..Said'. Prove '..Said' where nothing that the law and all that it calls make is longer than what came in: it says more and counts as full. Else prove '..UptoSaid'. A law counts once. -/
mutual
def uptoBulk {H : Type} : DataW H → Nat
  | .lit (.string bytes) => bytes.length + 1
  | .lit _ => 1
  | .nil => 1
  | .ptr d => uptoBulk d + 1
  | .slice elems spare => uptoBulkAll elems + uptoBulkAll spare + 1
  | .agg parts => uptoBulkAll parts + 1
  | .iface _ d => uptoBulk d + 1
  | .map entries => uptoBulkEntries entries + 1
  | .held _ => 1
def uptoBulkAll {H : Type} : List (DataW H) → Nat
  | [] => 0
  | d :: r => uptoBulk d + uptoBulkAll r
def uptoBulkEntries {H : Type} : List (Lit × DataW H) → Nat
  | [] => 0
  | x :: r => uptoBulkEntry x + uptoBulkEntries r
def uptoBulkEntry {H : Type} : Lit × DataW H → Nat
  | (.string bytes, d) => bytes.length + uptoBulk d + 1
  | (_, d) => uptoBulk d + 1
 end
def uptoSmall : (H : Type) → List (DataW H) → Bool := fun _ ds => decide (uptoBulkAll ds ≤ 1048576)
def OpenSpec.upto (s : _root_.Go.ChangeSpec) : _root_.Go.OpenSpec := { _root_.Go.OpenSpec.ofChange s with cond := some uptoSmall }

/-- 'mooringlaw10.GreyBack', WHERE WHAT IT READS IS OF BULK AT MOST 1048576: true; the input reads as it did. -/
def greyBackUptoRow : OpenClaim := { program := "ytdeihhfhcnhmfaa", sum := "92da8e8ef31e90aeba647dcf1019cc76f26823823e54fc21618aa2c3aed5a002", func := "mooring/mooringlaw10.GreyBack", spec := "greyBack", apart := false, narrowed := true }
def GreyBackUptoSaid : Prop := greyBackUptoRow.holds Try.pinned (OpenSpec.upto greyBackSpec)

/-- 'mooringlaw10.GreyKnown', WHERE WHAT IT READS IS OF BULK AT MOST 1048576: true; the input reads as it did. -/
def greyKnownUptoRow : OpenClaim := { program := "ytdeihhfhcnhmfaa", sum := "92da8e8ef31e90aeba647dcf1019cc76f26823823e54fc21618aa2c3aed5a002", func := "mooring/mooringlaw10.GreyKnown", spec := "greyKnown", apart := false, narrowed := true }
def GreyKnownUptoSaid : Prop := greyKnownUptoRow.holds Try.pinned (OpenSpec.upto greyKnownSpec)

/-- 'mooringlaw10.GreyPlays', WHERE WHAT IT READS IS OF BULK AT MOST 1048576: true; the input reads as it did. -/
def greyPlaysUptoRow : OpenClaim := { program := "ytdeihhfhcnhmfaa", sum := "92da8e8ef31e90aeba647dcf1019cc76f26823823e54fc21618aa2c3aed5a002", func := "mooring/mooringlaw10.GreyPlays", spec := "greyPlays", apart := false, narrowed := true }
def GreyPlaysUptoSaid : Prop := greyPlaysUptoRow.holds Try.pinned (OpenSpec.upto greyPlaysSpec)

/-- 'mooringlaw7.ArenaClasses', WHERE WHAT IT READS IS OF BULK AT MOST 1048576: true; the input reads as it did. -/
def arenaClassesUptoRow : OpenClaim := { program := "ytdeihhfhcnhmfaa", sum := "92da8e8ef31e90aeba647dcf1019cc76f26823823e54fc21618aa2c3aed5a002", func := "mooring/mooringlaw7.ArenaClasses", spec := "arenaClasses", apart := false, narrowed := true }
def ArenaClassesUptoSaid : Prop := arenaClassesUptoRow.holds Try.pinned (OpenSpec.upto arenaClassesSpec)

/-- 'mooringlaw12.ShakeAny', WHERE WHAT IT READS IS OF BULK AT MOST 1048576: true; the input reads as it did. -/
def shakeAnyUptoRow : OpenClaim := { program := "ytdeihhfhcnhmfaa", sum := "92da8e8ef31e90aeba647dcf1019cc76f26823823e54fc21618aa2c3aed5a002", func := "mooring/mooringlaw12.ShakeAny", spec := "shakeAny", apart := false, narrowed := true }
def ShakeAnyUptoSaid : Prop := shakeAnyUptoRow.holds Try.pinned (OpenSpec.upto shakeAnySpec)

/-- 'mooringlaw12.ShakeKnown', WHERE WHAT IT READS IS OF BULK AT MOST 1048576: true; the input reads as it did. -/
def shakeKnownUptoRow : OpenClaim := { program := "ytdeihhfhcnhmfaa", sum := "92da8e8ef31e90aeba647dcf1019cc76f26823823e54fc21618aa2c3aed5a002", func := "mooring/mooringlaw12.ShakeKnown", spec := "shakeKnown", apart := false, narrowed := true }
def ShakeKnownUptoSaid : Prop := shakeKnownUptoRow.holds Try.pinned (OpenSpec.upto shakeKnownSpec)

/-- 'mooringlaw12.ShakePlays', WHERE WHAT IT READS IS OF BULK AT MOST 1048576: true; the input reads as it did. -/
def shakePlaysUptoRow : OpenClaim := { program := "ytdeihhfhcnhmfaa", sum := "92da8e8ef31e90aeba647dcf1019cc76f26823823e54fc21618aa2c3aed5a002", func := "mooring/mooringlaw12.ShakePlays", spec := "shakePlays", apart := false, narrowed := true }
def ShakePlaysUptoSaid : Prop := shakePlaysUptoRow.holds Try.pinned (OpenSpec.upto shakePlaysSpec)

/-- 'mooringlaw12.ShakeOrder', WHERE WHAT IT READS IS OF BULK AT MOST 1048576: true; the input reads as it did. -/
def shakeOrderUptoRow : OpenClaim := { program := "ytdeihhfhcnhmfaa", sum := "92da8e8ef31e90aeba647dcf1019cc76f26823823e54fc21618aa2c3aed5a002", func := "mooring/mooringlaw12.ShakeOrder", spec := "shakeOrder", apart := false, narrowed := true }
def ShakeOrderUptoSaid : Prop := shakeOrderUptoRow.holds Try.pinned (OpenSpec.upto shakeOrderSpec)

/-- 'mooringlaw7.ArenaRoom', WHERE WHAT IT READS IS OF BULK AT MOST 1048576: true; the input reads as it did. -/
def arenaRoomUptoRow : OpenClaim := { program := "ytdeihhfhcnhmfaa", sum := "92da8e8ef31e90aeba647dcf1019cc76f26823823e54fc21618aa2c3aed5a002", func := "mooring/mooringlaw7.ArenaRoom", spec := "arenaRoom", apart := false, narrowed := true }
def ArenaRoomUptoSaid : Prop := arenaRoomUptoRow.holds Try.pinned (OpenSpec.upto arenaRoomSpec)

/-- 'mooringlaw7.ArenaApart', WHERE WHAT IT READS IS OF BULK AT MOST 1048576: true; the input reads as it did. -/
def arenaApartUptoRow : OpenClaim := { program := "ytdeihhfhcnhmfaa", sum := "92da8e8ef31e90aeba647dcf1019cc76f26823823e54fc21618aa2c3aed5a002", func := "mooring/mooringlaw7.ArenaApart", spec := "arenaApart", apart := false, narrowed := true }
def ArenaApartUptoSaid : Prop := arenaApartUptoRow.holds Try.pinned (OpenSpec.upto arenaApartSpec)

/-- 'mooringlaw7.ArenaAll', WHERE WHAT IT READS IS OF BULK AT MOST 1048576: true; the input reads as it did. -/
def arenaAllUptoRow : OpenClaim := { program := "ytdeihhfhcnhmfaa", sum := "92da8e8ef31e90aeba647dcf1019cc76f26823823e54fc21618aa2c3aed5a002", func := "mooring/mooringlaw7.ArenaAll", spec := "arenaAll", apart := false, narrowed := true }
def ArenaAllUptoSaid : Prop := arenaAllUptoRow.holds Try.pinned (OpenSpec.upto arenaAllSpec)

/-- 'mooringlaw7.ArenaKnown', WHERE WHAT IT READS IS OF BULK AT MOST 1048576: true; the input reads as it did. -/
def arenaKnownUptoRow : OpenClaim := { program := "ytdeihhfhcnhmfaa", sum := "92da8e8ef31e90aeba647dcf1019cc76f26823823e54fc21618aa2c3aed5a002", func := "mooring/mooringlaw7.ArenaKnown", spec := "arenaKnown", apart := false, narrowed := true }
def ArenaKnownUptoSaid : Prop := arenaKnownUptoRow.holds Try.pinned (OpenSpec.upto arenaKnownSpec)

end Rows
end Go.Proofs.Ytdeihhfhcnhmfaa
