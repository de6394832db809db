/-
  No cell of these rows narrows 'for every input' (looked for: loops, veiled, ifaces, maps, wideKeys, modest, calm, conditions, laid).
  DERIVED. THE GIVEN ROWS OF THIS SEAT. 5 by the template 'for every input the law returns true; each argument reads behind the call as it read before'; 0 by the template 'total and deterministic' (their statements: YtepakefmioeilaaTotals.lean).
  GIVEN WITH THE SEED: the statements are not yours to turn. If you find one false, say at which input.
  Laid BY PROGRAM, IN A SANDBOX (cutbox-rows.mjs): the forced cells as the released guide's own fill.sh prints them over the translation 3f96052debbb277c… (all of the seat's roots in one cut). By AI agents, Wed Nov 11 2026. No macro, syntax, notation, axiom, sorry.
-/
import Derived.Test.YtepakefmioeilaaChecked
import GoSem.Claim
import GoSem.ClaimJoined
import GoSem.ClaimMapViews
import Derived.JoinedTies
import Derived.KernelRfl
namespace Go.Proofs.Ytepakefmioeilaa
/- THE CELL 'sum', in the pinned program and in every row, IS THE sha256 OF THE DUMP (.gsa) THAT YtepakefmioeilaaProg.lean LOADS. Nothing in Lean hashes anything: it is a label: what it is worth is what the hold of that sum in a sandbox is worth. -/
noncomputable def Try.pinned : Pinned := { name := "ytepakefmioeilaa", sum := "3f96052debbb277c27eba914a6a00bdf4b240d5b39b28124758d9928baf0c32c", checked := Try.checked }
namespace Rows
def none {H : Type} : Left H := { results := [], args := [] }

/-- 'greenwoodlaw05.ElimTells': WHATEVER THE INPUT: true; the input reads as it did. -/
def elimTellsSpec : ChangeSpec := { name := "elimTells", fn := fun _ => fun
  | [d1, d2, d3] => { results := [.lit (.bool true)], args := [d1, d2, d3] }
  | _ => none }
def elimTellsRow : OpenClaim := { program := "ytepakefmioeilaa", sum := "3f96052debbb277c27eba914a6a00bdf4b240d5b39b28124758d9928baf0c32c", func := "greenwood/greenwoodlaw05.ElimTells", spec := "elimTells", unfollowed := true, recurses := true, apart := false }
def ElimTellsSaid : Prop := elimTellsRow.holds Try.pinned (OpenSpec.ofChange elimTellsSpec)

/-- ITS FALSE NEIGHBOUR: 'it returns false'. Refute it at one input. -/
def elimTellsWrong : ChangeSpec := { name := "elimTells", fn := fun _ => fun
  | [d1, d2, d3] => { results := [.lit (.bool false)], args := [d1, d2, d3] }
  | _ => none }
def ElimTellsWrongFalsely : Prop := elimTellsRow.holds Try.pinned (OpenSpec.ofChange elimTellsWrong)

/-- 'greenwoodlaw05.ElimCombines': WHATEVER THE INPUT: true; the input reads as it did. -/
def elimCombinesSpec : ChangeSpec := { name := "elimCombines", fn := fun _ => fun
  | [d1, d2, d3] => { results := [.lit (.bool true)], args := [d1, d2, d3] }
  | _ => none }
def elimCombinesRow : OpenClaim := { program := "ytepakefmioeilaa", sum := "3f96052debbb277c27eba914a6a00bdf4b240d5b39b28124758d9928baf0c32c", func := "greenwood/greenwoodlaw05.ElimCombines", spec := "elimCombines", unfollowed := true, recurses := true, apart := false }
def ElimCombinesSaid : Prop := elimCombinesRow.holds Try.pinned (OpenSpec.ofChange elimCombinesSpec)

/-- ITS FALSE NEIGHBOUR: 'it returns false'. Refute it at one input. -/
def elimCombinesWrong : ChangeSpec := { name := "elimCombines", fn := fun _ => fun
  | [d1, d2, d3] => { results := [.lit (.bool false)], args := [d1, d2, d3] }
  | _ => none }
def ElimCombinesWrongFalsely : Prop := elimCombinesRow.holds Try.pinned (OpenSpec.ofChange elimCombinesWrong)

/-- 'greenwoodlaw05.ElimRank': WHATEVER THE INPUT: true; the input reads as it did. -/
def elimRankSpec : ChangeSpec := { name := "elimRank", fn := fun _ => fun
  | [d1, d2, d3] => { results := [.lit (.bool true)], args := [d1, d2, d3] }
  | _ => none }
def elimRankRow : OpenClaim := { program := "ytepakefmioeilaa", sum := "3f96052debbb277c27eba914a6a00bdf4b240d5b39b28124758d9928baf0c32c", func := "greenwood/greenwoodlaw05.ElimRank", spec := "elimRank", unfollowed := true, recurses := true, apart := false }
def ElimRankSaid : Prop := elimRankRow.holds Try.pinned (OpenSpec.ofChange elimRankSpec)

/-- ITS FALSE NEIGHBOUR: 'it returns false'. Refute it at one input. -/
def elimRankWrong : ChangeSpec := { name := "elimRank", fn := fun _ => fun
  | [d1, d2, d3] => { results := [.lit (.bool false)], args := [d1, d2, d3] }
  | _ => none }
def ElimRankWrongFalsely : Prop := elimRankRow.holds Try.pinned (OpenSpec.ofChange elimRankWrong)

/-- 'greenwoodlaw05.ElimUnits': WHATEVER THE INPUT: true; the input reads as it did. -/
def elimUnitsSpec : ChangeSpec := { name := "elimUnits", fn := fun _ => fun
  | [d1, d2] => { results := [.lit (.bool true)], args := [d1, d2] }
  | _ => none }
def elimUnitsRow : OpenClaim := { program := "ytepakefmioeilaa", sum := "3f96052debbb277c27eba914a6a00bdf4b240d5b39b28124758d9928baf0c32c", func := "greenwood/greenwoodlaw05.ElimUnits", spec := "elimUnits", unfollowed := true, recurses := true, apart := false }
def ElimUnitsSaid : Prop := elimUnitsRow.holds Try.pinned (OpenSpec.ofChange elimUnitsSpec)

/-- ITS FALSE NEIGHBOUR: 'it returns false'. Refute it at one input. -/
def elimUnitsWrong : ChangeSpec := { name := "elimUnits", fn := fun _ => fun
  | [d1, d2] => { results := [.lit (.bool false)], args := [d1, d2] }
  | _ => none }
def ElimUnitsWrongFalsely : Prop := elimUnitsRow.holds Try.pinned (OpenSpec.ofChange elimUnitsWrong)

/-- 'greenwoodlaw05.ElimTwice': WHATEVER THE INPUT: true; the input reads as it did. -/
def elimTwiceSpec : ChangeSpec := { name := "elimTwice", fn := fun _ => fun
  | [d1, d2, d3] => { results := [.lit (.bool true)], args := [d1, d2, d3] }
  | _ => none }
def elimTwiceRow : OpenClaim := { program := "ytepakefmioeilaa", sum := "3f96052debbb277c27eba914a6a00bdf4b240d5b39b28124758d9928baf0c32c", func := "greenwood/greenwoodlaw05.ElimTwice", spec := "elimTwice", unfollowed := true, recurses := true, apart := false }
def ElimTwiceSaid : Prop := elimTwiceRow.holds Try.pinned (OpenSpec.ofChange elimTwiceSpec)

/-- ITS FALSE NEIGHBOUR: 'it returns false'. Refute it at one input. -/
def elimTwiceWrong : ChangeSpec := { name := "elimTwice", fn := fun _ => fun
  | [d1, d2, d3] => { results := [.lit (.bool false)], args := [d1, d2, d3] }
  | _ => none }
def ElimTwiceWrongFalsely : Prop := elimTwiceRow.holds Try.pinned (OpenSpec.ofChange elimTwiceWrong)

/- THE SECOND FORM. 'bulk': how many values and letters a reading holds, each counted each time it is reached (what is shared counts as often as it is met; a slice's spare places count too). A statement '..UptoSaid' is the law's where the arguments, and the package variables that the reading takes, are together of bulk at most 1048576: NARROWER than '..Said'. Prove '..Said' where nothing that the law and all that it calls make is longer than what came in: it says more and counts as full. Else prove '..UptoSaid'. A law counts once. -/
mutual
def uptoBulk {H : Type} : DataW H → Nat
  | .lit (.string bytes) => bytes.length + 1
  | .lit _ => 1
  | .nil => 1
  | .ptr d => uptoBulk d + 1
  | .slice elems spare => uptoBulkAll elems + uptoBulkAll spare + 1
  | .agg parts => uptoBulkAll parts + 1
  | .iface _ d => uptoBulk d + 1
  | .map entries => uptoBulkEntries entries + 1
  | .held _ => 1
def uptoBulkAll {H : Type} : List (DataW H) → Nat
  | [] => 0
  | d :: r => uptoBulk d + uptoBulkAll r
def uptoBulkEntries {H : Type} : List (Lit × DataW H) → Nat
  | [] => 0
  | x :: r => uptoBulkEntry x + uptoBulkEntries r
def uptoBulkEntry {H : Type} : Lit × DataW H → Nat
  | (.string bytes, d) => bytes.length + uptoBulk d + 1
  | (_, d) => uptoBulk d + 1
 end
def uptoSmall : (H : Type) → List (DataW H) → Bool := fun _ ds => decide (uptoBulkAll ds ≤ 1048576)
def OpenSpec.upto (s : _root_.Go.ChangeSpec) : _root_.Go.OpenSpec := { _root_.Go.OpenSpec.ofChange s with cond := some uptoSmall }

/-- 'greenwoodlaw05.ElimTells', WHERE WHAT IT READS IS OF BULK AT MOST 1048576: true; the input reads as it did. -/
def elimTellsUptoRow : OpenClaim := { program := "ytepakefmioeilaa", sum := "3f96052debbb277c27eba914a6a00bdf4b240d5b39b28124758d9928baf0c32c", func := "greenwood/greenwoodlaw05.ElimTells", spec := "elimTells", unfollowed := true, recurses := true, apart := false, narrowed := true }
def ElimTellsUptoSaid : Prop := elimTellsUptoRow.holds Try.pinned (OpenSpec.upto elimTellsSpec)

/-- 'greenwoodlaw05.ElimCombines', WHERE WHAT IT READS IS OF BULK AT MOST 1048576: true; the input reads as it did. -/
def elimCombinesUptoRow : OpenClaim := { program := "ytepakefmioeilaa", sum := "3f96052debbb277c27eba914a6a00bdf4b240d5b39b28124758d9928baf0c32c", func := "greenwood/greenwoodlaw05.ElimCombines", spec := "elimCombines", unfollowed := true, recurses := true, apart := false, narrowed := true }
def ElimCombinesUptoSaid : Prop := elimCombinesUptoRow.holds Try.pinned (OpenSpec.upto elimCombinesSpec)

/-- 'greenwoodlaw05.ElimRank', WHERE WHAT IT READS IS OF BULK AT MOST 1048576: true; the input reads as it did. -/
def elimRankUptoRow : OpenClaim := { program := "ytepakefmioeilaa", sum := "3f96052debbb277c27eba914a6a00bdf4b240d5b39b28124758d9928baf0c32c", func := "greenwood/greenwoodlaw05.ElimRank", spec := "elimRank", unfollowed := true, recurses := true, apart := false, narrowed := true }
def ElimRankUptoSaid : Prop := elimRankUptoRow.holds Try.pinned (OpenSpec.upto elimRankSpec)

/-- 'greenwoodlaw05.ElimUnits', WHERE WHAT IT READS IS OF BULK AT MOST 1048576: true; the input reads as it did. -/
def elimUnitsUptoRow : OpenClaim := { program := "ytepakefmioeilaa", sum := "3f96052debbb277c27eba914a6a00bdf4b240d5b39b28124758d9928baf0c32c", func := "greenwood/greenwoodlaw05.ElimUnits", spec := "elimUnits", unfollowed := true, recurses := true, apart := false, narrowed := true }
def ElimUnitsUptoSaid : Prop := elimUnitsUptoRow.holds Try.pinned (OpenSpec.upto elimUnitsSpec)

/-- 'greenwoodlaw05.ElimTwice', WHERE WHAT IT READS IS OF BULK AT MOST 1048576: true; the input reads as it did. -/
def elimTwiceUptoRow : OpenClaim := { program := "ytepakefmioeilaa", sum := "3f96052debbb277c27eba914a6a00bdf4b240d5b39b28124758d9928baf0c32c", func := "greenwood/greenwoodlaw05.ElimTwice", spec := "elimTwice", unfollowed := true, recurses := true, apart := false, narrowed := true }
def ElimTwiceUptoSaid : Prop := elimTwiceUptoRow.holds Try.pinned (OpenSpec.upto elimTwiceSpec)

end Rows
end Go.Proofs.Ytepakefmioeilaa
