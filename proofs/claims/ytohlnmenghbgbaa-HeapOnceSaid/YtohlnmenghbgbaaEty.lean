/- PRINTED by ety.py: records of plain struct types. No condition. -/
import Derived.Test.YtohlnmenghbgbaaEls
namespace Go.Proofs.Ytohlnmenghbgbaa
open Go
structure E_api_ID where
  Node : Int
  Serial : Int
def E_api_ID.cells (x : E_api_ID) : List Value := [.int .i64 x.Node, .int .u64 x.Serial]
structure E_api_ID.ok (x : E_api_ID) : Prop where
  Node : IntKind.min .i64 ≤ x.Node ∧ x.Node ≤ IntKind.max .i64
  Serial : IntKind.min .u64 ≤ x.Serial ∧ x.Serial ≤ IntKind.max .u64
theorem E_api_ID.len (x : E_api_ID) : x.cells.length = 2 := rfl

structure E_law8_Step where
  What : Int
  A : Int
  B : Int
  Serial : Int
  V : Int
  X_Node : Int
  X_Serial : Int
  Near : Bool
def E_law8_Step.cells (x : E_law8_Step) : List Value := [.int .i64 x.What, .int .i64 x.A, .int .i64 x.B, .int .u64 x.Serial, .int .u64 x.V, .int .i64 x.X_Node, .int .u64 x.X_Serial, .bool x.Near]
structure E_law8_Step.ok (x : E_law8_Step) : Prop where
  What : IntKind.min .i64 ≤ x.What ∧ x.What ≤ IntKind.max .i64
  A : IntKind.min .i64 ≤ x.A ∧ x.A ≤ IntKind.max .i64
  B : IntKind.min .i64 ≤ x.B ∧ x.B ≤ IntKind.max .i64
  Serial : IntKind.min .u64 ≤ x.Serial ∧ x.Serial ≤ IntKind.max .u64
  V : IntKind.min .u64 ≤ x.V ∧ x.V ≤ IntKind.max .u64
  X_Node : IntKind.min .i64 ≤ x.X_Node ∧ x.X_Node ≤ IntKind.max .i64
  X_Serial : IntKind.min .u64 ≤ x.X_Serial ∧ x.X_Serial ≤ IntKind.max .u64
theorem E_law8_Step.len (x : E_law8_Step) : x.cells.length = 8 := rfl

structure E_law11_Step where
  What : Int
  Rank : Int
  Serial : Int
  X_Node : Int
  X_Serial : Int
  Near : Bool
def E_law11_Step.cells (x : E_law11_Step) : List Value := [.int .i64 x.What, .int .i64 x.Rank, .int .u64 x.Serial, .int .i64 x.X_Node, .int .u64 x.X_Serial, .bool x.Near]
structure E_law11_Step.ok (x : E_law11_Step) : Prop where
  What : IntKind.min .i64 ≤ x.What ∧ x.What ≤ IntKind.max .i64
  Rank : IntKind.min .i64 ≤ x.Rank ∧ x.Rank ≤ IntKind.max .i64
  Serial : IntKind.min .u64 ≤ x.Serial ∧ x.Serial ≤ IntKind.max .u64
  X_Node : IntKind.min .i64 ≤ x.X_Node ∧ x.X_Node ≤ IntKind.max .i64
  X_Serial : IntKind.min .u64 ≤ x.X_Serial ∧ x.X_Serial ≤ IntKind.max .u64
theorem E_law11_Step.len (x : E_law11_Step) : x.cells.length = 6 := rfl

structure E_law15_Step where
  What : Int
  Serial : Int
def E_law15_Step.cells (x : E_law15_Step) : List Value := [.int .i64 x.What, .int .u64 x.Serial]
structure E_law15_Step.ok (x : E_law15_Step) : Prop where
  What : IntKind.min .i64 ≤ x.What ∧ x.What ≤ IntKind.max .i64
  Serial : IntKind.min .u64 ≤ x.Serial ∧ x.Serial ≤ IntKind.max .u64
theorem E_law15_Step.len (x : E_law15_Step) : x.cells.length = 2 := rfl

structure E_law13_Step where
  What : Int
  A : Int
  Serial : Int
  X_Node : Int
  X_Serial : Int
def E_law13_Step.cells (x : E_law13_Step) : List Value := [.int .i64 x.What, .int .i64 x.A, .int .u64 x.Serial, .int .i64 x.X_Node, .int .u64 x.X_Serial]
structure E_law13_Step.ok (x : E_law13_Step) : Prop where
  What : IntKind.min .i64 ≤ x.What ∧ x.What ≤ IntKind.max .i64
  A : IntKind.min .i64 ≤ x.A ∧ x.A ≤ IntKind.max .i64
  Serial : IntKind.min .u64 ≤ x.Serial ∧ x.Serial ≤ IntKind.max .u64
  X_Node : IntKind.min .i64 ≤ x.X_Node ∧ x.X_Node ≤ IntKind.max .i64
  X_Serial : IntKind.min .u64 ≤ x.X_Serial ∧ x.X_Serial ≤ IntKind.max .u64
theorem E_law13_Step.len (x : E_law13_Step) : x.cells.length = 5 := rfl

structure E_law14_Way where
  Serial : Int
  Rank : Int
  Out_Node : Int
  Out_Serial : Int
  Scan : Bool
def E_law14_Way.cells (x : E_law14_Way) : List Value := [.int .u64 x.Serial, .int .i64 x.Rank, .int .i64 x.Out_Node, .int .u64 x.Out_Serial, .bool x.Scan]
structure E_law14_Way.ok (x : E_law14_Way) : Prop where
  Serial : IntKind.min .u64 ≤ x.Serial ∧ x.Serial ≤ IntKind.max .u64
  Rank : IntKind.min .i64 ≤ x.Rank ∧ x.Rank ≤ IntKind.max .i64
  Out_Node : IntKind.min .i64 ≤ x.Out_Node ∧ x.Out_Node ≤ IntKind.max .i64
  Out_Serial : IntKind.min .u64 ≤ x.Out_Serial ∧ x.Out_Serial ≤ IntKind.max .u64
theorem E_law14_Way.len (x : E_law14_Way) : x.cells.length = 5 := rfl

end Go.Proofs.Ytohlnmenghbgbaa
