/-
  No cell of these rows narrows 'for every input' (looked for: loops, veiled, ifaces, maps, wideKeys, modest, calm, conditions, laid).
  DERIVED. THE GIVEN ROWS OF THIS SEAT. 6 by the template 'for every input the law returns true; each argument reads behind the call as it read before'; 0 by the template 'total and deterministic' (their statements: YtlpjlgjhhmfnlaaTotals.lean).
  GIVEN WITH THE SEED: the statements are not yours to turn. If you find one false, say at which input.
  Laid BY PROGRAM, IN A SANDBOX (cutbox-rows.mjs): the forced cells as the released guide's own fill.sh prints them over the translation 965fd7928f6996c1… (all of the seat's roots in one cut). By AI agents, Wed Nov 11 2026. No macro, syntax, notation, axiom, sorry.
-/
import Derived.Test.YtlpjlgjhhmfnlaaChecked
import GoSem.Claim
import GoSem.ClaimJoined
import GoSem.ClaimMapViews
import Derived.JoinedTies
import Derived.KernelRfl
namespace Go.Proofs.Ytlpjlgjhhmfnlaa
/- THE CELL 'sum', in the pinned program and in every row, IS THE sha256 OF THE DUMP (.gsa) THAT YtlpjlgjhhmfnlaaProg.lean LOADS. Nothing in Lean hashes anything: it is a label: what it is worth is what the hold of that sum in a sandbox is worth. -/
noncomputable def Try.pinned : Pinned := { name := "ytlpjlgjhhmfnlaa", sum := "965fd7928f6996c1c03e16034955065be7a89ddb5455b4277292bc438576a3b0", checked := Try.checked }
namespace Rows
def none {H : Type} : Left H := { results := [], args := [] }

/-- 'greenwoodlaw08.OrderTells': WHATEVER THE INPUT: true; the input reads as it did. -/
def orderTellsSpec : ChangeSpec := { name := "orderTells", fn := fun _ => fun
  | [d] => { results := [.lit (.bool true)], args := [d] }
  | _ => none }
def orderTellsRow : OpenClaim := { program := "ytlpjlgjhhmfnlaa", sum := "965fd7928f6996c1c03e16034955065be7a89ddb5455b4277292bc438576a3b0", func := "greenwood/greenwoodlaw08.OrderTells", spec := "orderTells", unfollowed := true, recurses := true, apart := false }
def OrderTellsSaid : Prop := orderTellsRow.holds Try.pinned (OpenSpec.ofChange orderTellsSpec)

/-- ITS FALSE NEIGHBOUR: 'it returns false'. Refute it at one input. -/
def orderTellsWrong : ChangeSpec := { name := "orderTells", fn := fun _ => fun
  | [d] => { results := [.lit (.bool false)], args := [d] }
  | _ => none }
def OrderTellsWrongFalsely : Prop := orderTellsRow.holds Try.pinned (OpenSpec.ofChange orderTellsWrong)

/-- 'greenwoodlaw08.OrderGreatest': WHATEVER THE INPUT: true; the input reads as it did. -/
def orderGreatestSpec : ChangeSpec := { name := "orderGreatest", fn := fun _ => fun
  | [d] => { results := [.lit (.bool true)], args := [d] }
  | _ => none }
def orderGreatestRow : OpenClaim := { program := "ytlpjlgjhhmfnlaa", sum := "965fd7928f6996c1c03e16034955065be7a89ddb5455b4277292bc438576a3b0", func := "greenwood/greenwoodlaw08.OrderGreatest", spec := "orderGreatest", unfollowed := true, recurses := true, apart := false }
def OrderGreatestSaid : Prop := orderGreatestRow.holds Try.pinned (OpenSpec.ofChange orderGreatestSpec)

/-- ITS FALSE NEIGHBOUR: 'it returns false'. Refute it at one input. -/
def orderGreatestWrong : ChangeSpec := { name := "orderGreatest", fn := fun _ => fun
  | [d] => { results := [.lit (.bool false)], args := [d] }
  | _ => none }
def OrderGreatestWrongFalsely : Prop := orderGreatestRow.holds Try.pinned (OpenSpec.ofChange orderGreatestWrong)

/-- 'greenwoodlaw08.OrderSorts': WHATEVER THE INPUT: true; the input reads as it did. -/
def orderSortsSpec : ChangeSpec := { name := "orderSorts", fn := fun _ => fun
  | [d] => { results := [.lit (.bool true)], args := [d] }
  | _ => none }
def orderSortsRow : OpenClaim := { program := "ytlpjlgjhhmfnlaa", sum := "965fd7928f6996c1c03e16034955065be7a89ddb5455b4277292bc438576a3b0", func := "greenwood/greenwoodlaw08.OrderSorts", spec := "orderSorts", unfollowed := true, recurses := true, apart := false }
def OrderSortsSaid : Prop := orderSortsRow.holds Try.pinned (OpenSpec.ofChange orderSortsSpec)

/-- ITS FALSE NEIGHBOUR: 'it returns false'. Refute it at one input. -/
def orderSortsWrong : ChangeSpec := { name := "orderSorts", fn := fun _ => fun
  | [d] => { results := [.lit (.bool false)], args := [d] }
  | _ => none }
def OrderSortsWrongFalsely : Prop := orderSortsRow.holds Try.pinned (OpenSpec.ofChange orderSortsWrong)

/-- 'greenwoodlaw08.OrderFalls': WHATEVER THE INPUT: true; the input reads as it did. -/
def orderFallsSpec : ChangeSpec := { name := "orderFalls", fn := fun _ => fun
  | [d] => { results := [.lit (.bool true)], args := [d] }
  | _ => none }
def orderFallsRow : OpenClaim := { program := "ytlpjlgjhhmfnlaa", sum := "965fd7928f6996c1c03e16034955065be7a89ddb5455b4277292bc438576a3b0", func := "greenwood/greenwoodlaw08.OrderFalls", spec := "orderFalls", unfollowed := true, recurses := true, apart := false }
def OrderFallsSaid : Prop := orderFallsRow.holds Try.pinned (OpenSpec.ofChange orderFallsSpec)

/-- ITS FALSE NEIGHBOUR: 'it returns false'. Refute it at one input. -/
def orderFallsWrong : ChangeSpec := { name := "orderFalls", fn := fun _ => fun
  | [d] => { results := [.lit (.bool false)], args := [d] }
  | _ => none }
def OrderFallsWrongFalsely : Prop := orderFallsRow.holds Try.pinned (OpenSpec.ofChange orderFallsWrong)

/-- 'greenwoodlaw08.OrderBetween': WHATEVER THE INPUT: true; the input reads as it did. -/
def orderBetweenSpec : ChangeSpec := { name := "orderBetween", fn := fun _ => fun
  | [d1, d2, d3] => { results := [.lit (.bool true)], args := [d1, d2, d3] }
  | _ => none }
def orderBetweenRow : OpenClaim := { program := "ytlpjlgjhhmfnlaa", sum := "965fd7928f6996c1c03e16034955065be7a89ddb5455b4277292bc438576a3b0", func := "greenwood/greenwoodlaw08.OrderBetween", spec := "orderBetween", unfollowed := true, recurses := true, apart := false }
def OrderBetweenSaid : Prop := orderBetweenRow.holds Try.pinned (OpenSpec.ofChange orderBetweenSpec)

/-- ITS FALSE NEIGHBOUR: 'it returns false'. Refute it at one input. -/
def orderBetweenWrong : ChangeSpec := { name := "orderBetween", fn := fun _ => fun
  | [d1, d2, d3] => { results := [.lit (.bool false)], args := [d1, d2, d3] }
  | _ => none }
def OrderBetweenWrongFalsely : Prop := orderBetweenRow.holds Try.pinned (OpenSpec.ofChange orderBetweenWrong)

/-- 'greenwoodlaw08.OrderLeast': WHATEVER THE INPUT: true; the input reads as it did. -/
def orderLeastSpec : ChangeSpec := { name := "orderLeast", fn := fun _ => fun
  | [d] => { results := [.lit (.bool true)], args := [d] }
  | _ => none }
def orderLeastRow : OpenClaim := { program := "ytlpjlgjhhmfnlaa", sum := "965fd7928f6996c1c03e16034955065be7a89ddb5455b4277292bc438576a3b0", func := "greenwood/greenwoodlaw08.OrderLeast", spec := "orderLeast", unfollowed := true, recurses := true, apart := false }
def OrderLeastSaid : Prop := orderLeastRow.holds Try.pinned (OpenSpec.ofChange orderLeastSpec)

/-- ITS FALSE NEIGHBOUR: 'it returns false'. Refute it at one input. -/
def orderLeastWrong : ChangeSpec := { name := "orderLeast", fn := fun _ => fun
  | [d] => { results := [.lit (.bool false)], args := [d] }
  | _ => none }
def OrderLeastWrongFalsely : Prop := orderLeastRow.holds Try.pinned (OpenSpec.ofChange orderLeastWrong)

/- THE SECOND FORM. 'bulk': how many values and letters a reading holds, each counted each time it is reached (what is shared counts as often as it is met; a slice's spare places count too). A statement '..UptoSaid' is the law's where the arguments, and the package variables that the reading takes, are together of bulk at most 1048576: NARROWER than '..Said'. Prove '..Said' where nothing that the law and all that it calls make is longer than what came in: it says more and counts as full. Else prove '..UptoSaid'. A law counts once. -/
mutual
def uptoBulk {H : Type} : DataW H → Nat
  | .lit (.string bytes) => bytes.length + 1
  | .lit _ => 1
  | .nil => 1
  | .ptr d => uptoBulk d + 1
  | .slice elems spare => uptoBulkAll elems + uptoBulkAll spare + 1
  | .agg parts => uptoBulkAll parts + 1
  | .iface _ d => uptoBulk d + 1
  | .map entries => uptoBulkEntries entries + 1
  | .held _ => 1
def uptoBulkAll {H : Type} : List (DataW H) → Nat
  | [] => 0
  | d :: r => uptoBulk d + uptoBulkAll r
def uptoBulkEntries {H : Type} : List (Lit × DataW H) → Nat
  | [] => 0
  | x :: r => uptoBulkEntry x + uptoBulkEntries r
def uptoBulkEntry {H : Type} : Lit × DataW H → Nat
  | (.string bytes, d) => bytes.length + uptoBulk d + 1
  | (_, d) => uptoBulk d + 1
 end
def uptoSmall : (H : Type) → List (DataW H) → Bool := fun _ ds => decide (uptoBulkAll ds ≤ 1048576)
def OpenSpec.upto (s : _root_.Go.ChangeSpec) : _root_.Go.OpenSpec := { _root_.Go.OpenSpec.ofChange s with cond := some uptoSmall }

/-- 'greenwoodlaw08.OrderTells', WHERE WHAT IT READS IS OF BULK AT MOST 1048576: true; the input reads as it did. -/
def orderTellsUptoRow : OpenClaim := { program := "ytlpjlgjhhmfnlaa", sum := "965fd7928f6996c1c03e16034955065be7a89ddb5455b4277292bc438576a3b0", func := "greenwood/greenwoodlaw08.OrderTells", spec := "orderTells", unfollowed := true, recurses := true, apart := false, narrowed := true }
def OrderTellsUptoSaid : Prop := orderTellsUptoRow.holds Try.pinned (OpenSpec.upto orderTellsSpec)

/-- 'greenwoodlaw08.OrderGreatest', WHERE WHAT IT READS IS OF BULK AT MOST 1048576: true; the input reads as it did. -/
def orderGreatestUptoRow : OpenClaim := { program := "ytlpjlgjhhmfnlaa", sum := "965fd7928f6996c1c03e16034955065be7a89ddb5455b4277292bc438576a3b0", func := "greenwood/greenwoodlaw08.OrderGreatest", spec := "orderGreatest", unfollowed := true, recurses := true, apart := false, narrowed := true }
def OrderGreatestUptoSaid : Prop := orderGreatestUptoRow.holds Try.pinned (OpenSpec.upto orderGreatestSpec)

/-- 'greenwoodlaw08.OrderSorts', WHERE WHAT IT READS IS OF BULK AT MOST 1048576: true; the input reads as it did. -/
def orderSortsUptoRow : OpenClaim := { program := "ytlpjlgjhhmfnlaa", sum := "965fd7928f6996c1c03e16034955065be7a89ddb5455b4277292bc438576a3b0", func := "greenwood/greenwoodlaw08.OrderSorts", spec := "orderSorts", unfollowed := true, recurses := true, apart := false, narrowed := true }
def OrderSortsUptoSaid : Prop := orderSortsUptoRow.holds Try.pinned (OpenSpec.upto orderSortsSpec)

/-- 'greenwoodlaw08.OrderFalls', WHERE WHAT IT READS IS OF BULK AT MOST 1048576: true; the input reads as it did. -/
def orderFallsUptoRow : OpenClaim := { program := "ytlpjlgjhhmfnlaa", sum := "965fd7928f6996c1c03e16034955065be7a89ddb5455b4277292bc438576a3b0", func := "greenwood/greenwoodlaw08.OrderFalls", spec := "orderFalls", unfollowed := true, recurses := true, apart := false, narrowed := true }
def OrderFallsUptoSaid : Prop := orderFallsUptoRow.holds Try.pinned (OpenSpec.upto orderFallsSpec)

/-- 'greenwoodlaw08.OrderBetween', WHERE WHAT IT READS IS OF BULK AT MOST 1048576: true; the input reads as it did. -/
def orderBetweenUptoRow : OpenClaim := { program := "ytlpjlgjhhmfnlaa", sum := "965fd7928f6996c1c03e16034955065be7a89ddb5455b4277292bc438576a3b0", func := "greenwood/greenwoodlaw08.OrderBetween", spec := "orderBetween", unfollowed := true, recurses := true, apart := false, narrowed := true }
def OrderBetweenUptoSaid : Prop := orderBetweenUptoRow.holds Try.pinned (OpenSpec.upto orderBetweenSpec)

/-- 'greenwoodlaw08.OrderLeast', WHERE WHAT IT READS IS OF BULK AT MOST 1048576: true; the input reads as it did. -/
def orderLeastUptoRow : OpenClaim := { program := "ytlpjlgjhhmfnlaa", sum := "965fd7928f6996c1c03e16034955065be7a89ddb5455b4277292bc438576a3b0", func := "greenwood/greenwoodlaw08.OrderLeast", spec := "orderLeast", unfollowed := true, recurses := true, apart := false, narrowed := true }
def OrderLeastUptoSaid : Prop := orderLeastUptoRow.holds Try.pinned (OpenSpec.upto orderLeastSpec)

end Rows
end Go.Proofs.Ytlpjlgjhhmfnlaa
