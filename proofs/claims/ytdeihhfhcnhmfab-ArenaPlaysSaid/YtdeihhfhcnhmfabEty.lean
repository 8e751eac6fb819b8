/- PRINTED by ety.py: records of plain struct types. No condition. -/
import Derived.Test.YtdeihhfhcnhmfabEls
namespace Go.Proofs.Ytdeihhfhcnhmfab
open Go
structure E_law7_Step where
  What : Int
  N : Int
  Near : Bool
def E_law7_Step.cells (x : E_law7_Step) : List Value := [.int .i64 x.What, .int .i64 x.N, .bool x.Near]
structure E_law7_Step.ok (x : E_law7_Step) : Prop where
  What : IntKind.min .i64 ≤ x.What ∧ x.What ≤ IntKind.max .i64
  N : IntKind.min .i64 ≤ x.N ∧ x.N ≤ IntKind.max .i64
theorem E_law7_Step.len (x : E_law7_Step) : x.cells.length = 3 := rfl

end Go.Proofs.Ytdeihhfhcnhmfab
