/-
  No cell of these rows narrows 'for every input' (looked for: loops, veiled, ifaces, maps, wideKeys, modest, calm, conditions, laid).
  DERIVED. THE GIVEN ROWS OF THIS SEAT. 5 by the template 'for every input the law returns true; each argument reads behind the call as it read before'; 0 by the template 'total and deterministic' (their statements: YtelinpgfjgoofaaTotals.lean).
  GIVEN WITH THE SEED: the statements are not yours to turn. If you find one false, say at which input.
  Laid BY PROGRAM, IN A SANDBOX (cutbox-rows.mjs): the forced cells as the released guide's own fill.sh prints them over the translation a2005636617e487f… (all of the seat's roots in one cut). By AI agents, Wed Nov 11 2026. No macro, syntax, notation, axiom, sorry.
-/
import Derived.Test.YtelinpgfjgoofaaChecked
import GoSem.Claim
import GoSem.ClaimJoined
import GoSem.ClaimMapViews
import Derived.JoinedTies
import Derived.KernelRfl
namespace Go.Proofs.Ytelinpgfjgoofaa
/- THE CELL 'sum', in the pinned program and in every row, IS THE sha256 OF THE DUMP (.gsa) THAT YtelinpgfjgoofaaProg.lean LOADS. Nothing in Lean hashes anything: it is a label: what it is worth is what the hold of that sum in a sandbox is worth. -/
noncomputable def Try.pinned : Pinned := { name := "ytelinpgfjgoofaa", sum := "a2005636617e487f476db9a7216f0982799c077bb7b08343beb808db72bdcc83", checked := Try.checked }
namespace Rows
def none {H : Type} : Left H := { results := [], args := [] }

/-- 'greenwoodlaw04.ModpTells': WHATEVER THE INPUT: true; the input reads as it did. -/
def modpTellsSpec : ChangeSpec := { name := "modpTells", fn := fun _ => fun
  | [d1, d2, d3] => { results := [.lit (.bool true)], args := [d1, d2, d3] }
  | _ => none }
def modpTellsRow : OpenClaim := { program := "ytelinpgfjgoofaa", sum := "a2005636617e487f476db9a7216f0982799c077bb7b08343beb808db72bdcc83", func := "greenwood/greenwoodlaw04.ModpTells", spec := "modpTells", apart := false }
def ModpTellsSaid : Prop := modpTellsRow.holds Try.pinned (OpenSpec.ofChange modpTellsSpec)

/-- ITS FALSE NEIGHBOUR: 'it returns false'. Refute it at one input. -/
def modpTellsWrong : ChangeSpec := { name := "modpTells", fn := fun _ => fun
  | [d1, d2, d3] => { results := [.lit (.bool false)], args := [d1, d2, d3] }
  | _ => none }
def ModpTellsWrongFalsely : Prop := modpTellsRow.holds Try.pinned (OpenSpec.ofChange modpTellsWrong)

/-- 'greenwoodlaw04.ModpInverts': WHATEVER THE INPUT: true; the input reads as it did. -/
def modpInvertsSpec : ChangeSpec := { name := "modpInverts", fn := fun _ => fun
  | [d1, d2, d3] => { results := [.lit (.bool true)], args := [d1, d2, d3] }
  | _ => none }
def modpInvertsRow : OpenClaim := { program := "ytelinpgfjgoofaa", sum := "a2005636617e487f476db9a7216f0982799c077bb7b08343beb808db72bdcc83", func := "greenwood/greenwoodlaw04.ModpInverts", spec := "modpInverts", apart := false }
def ModpInvertsSaid : Prop := modpInvertsRow.holds Try.pinned (OpenSpec.ofChange modpInvertsSpec)

/-- ITS FALSE NEIGHBOUR: 'it returns false'. Refute it at one input. -/
def modpInvertsWrong : ChangeSpec := { name := "modpInverts", fn := fun _ => fun
  | [d1, d2, d3] => { results := [.lit (.bool false)], args := [d1, d2, d3] }
  | _ => none }
def ModpInvertsWrongFalsely : Prop := modpInvertsRow.holds Try.pinned (OpenSpec.ofChange modpInvertsWrong)

/-- 'greenwoodlaw04.ModpPowers': WHATEVER THE INPUT: true; the input reads as it did. -/
def modpPowersSpec : ChangeSpec := { name := "modpPowers", fn := fun _ => fun
  | [d1, d2, d3] => { results := [.lit (.bool true)], args := [d1, d2, d3] }
  | _ => none }
def modpPowersRow : OpenClaim := { program := "ytelinpgfjgoofaa", sum := "a2005636617e487f476db9a7216f0982799c077bb7b08343beb808db72bdcc83", func := "greenwood/greenwoodlaw04.ModpPowers", spec := "modpPowers", apart := false }
def ModpPowersSaid : Prop := modpPowersRow.holds Try.pinned (OpenSpec.ofChange modpPowersSpec)

/-- ITS FALSE NEIGHBOUR: 'it returns false'. Refute it at one input. -/
def modpPowersWrong : ChangeSpec := { name := "modpPowers", fn := fun _ => fun
  | [d1, d2, d3] => { results := [.lit (.bool false)], args := [d1, d2, d3] }
  | _ => none }
def ModpPowersWrongFalsely : Prop := modpPowersRow.holds Try.pinned (OpenSpec.ofChange modpPowersWrong)

/-- 'greenwoodlaw04.ModpLinear': WHATEVER THE INPUT: true; the input reads as it did. -/
def modpLinearSpec : ChangeSpec := { name := "modpLinear", fn := fun _ => fun
  | [d1, d2, d3] => { results := [.lit (.bool true)], args := [d1, d2, d3] }
  | _ => none }
def modpLinearRow : OpenClaim := { program := "ytelinpgfjgoofaa", sum := "a2005636617e487f476db9a7216f0982799c077bb7b08343beb808db72bdcc83", func := "greenwood/greenwoodlaw04.ModpLinear", spec := "modpLinear", apart := false }
def ModpLinearSaid : Prop := modpLinearRow.holds Try.pinned (OpenSpec.ofChange modpLinearSpec)

/-- ITS FALSE NEIGHBOUR: 'it returns false'. Refute it at one input. -/
def modpLinearWrong : ChangeSpec := { name := "modpLinear", fn := fun _ => fun
  | [d1, d2, d3] => { results := [.lit (.bool false)], args := [d1, d2, d3] }
  | _ => none }
def ModpLinearWrongFalsely : Prop := modpLinearRow.holds Try.pinned (OpenSpec.ofChange modpLinearWrong)

/-- 'greenwoodlaw04.ModpPrimes': WHATEVER THE INPUT: true; the input reads as it did. -/
def modpPrimesSpec : ChangeSpec := { name := "modpPrimes", fn := fun _ => fun
  | [d1, d2] => { results := [.lit (.bool true)], args := [d1, d2] }
  | _ => none }
def modpPrimesRow : OpenClaim := { program := "ytelinpgfjgoofaa", sum := "a2005636617e487f476db9a7216f0982799c077bb7b08343beb808db72bdcc83", func := "greenwood/greenwoodlaw04.ModpPrimes", spec := "modpPrimes", apart := false }
def ModpPrimesSaid : Prop := modpPrimesRow.holds Try.pinned (OpenSpec.ofChange modpPrimesSpec)

/-- ITS FALSE NEIGHBOUR: 'it returns false'. Refute it at one input. -/
def modpPrimesWrong : ChangeSpec := { name := "modpPrimes", fn := fun _ => fun
  | [d1, d2] => { results := [.lit (.bool false)], args := [d1, d2] }
  | _ => none }
def ModpPrimesWrongFalsely : Prop := modpPrimesRow.holds Try.pinned (OpenSpec.ofChange modpPrimesWrong)

/- THE SECOND FORM. 'bulk': how many values and letters a reading holds, each counted each time it is reached (what is shared counts as often as it is met; a slice's spare places count too). A statement '..UptoSaid' is the law's where the arguments, and the package variables that the reading takes, are together of bulk at most 1048576: NARROWER than '..Said'. Prove '..Said' where nothing that the law and all that it calls make is longer than what came in: it says more and counts as full. Else prove '..UptoSaid'. A law counts once. -/
mutual
def uptoBulk {H : Type} : DataW H → Nat
  | .lit (.string bytes) => bytes.length + 1
  | .lit _ => 1
  | .nil => 1
  | .ptr d => uptoBulk d + 1
  | .slice elems spare => uptoBulkAll elems + uptoBulkAll spare + 1
  | .agg parts => uptoBulkAll parts + 1
  | .iface _ d => uptoBulk d + 1
  | .map entries => uptoBulkEntries entries + 1
  | .held _ => 1
def uptoBulkAll {H : Type} : List (DataW H) → Nat
  | [] => 0
  | d :: r => uptoBulk d + uptoBulkAll r
def uptoBulkEntries {H : Type} : List (Lit × DataW H) → Nat
  | [] => 0
  | x :: r => uptoBulkEntry x + uptoBulkEntries r
def uptoBulkEntry {H : Type} : Lit × DataW H → Nat
  | (.string bytes, d) => bytes.length + uptoBulk d + 1
  | (_, d) => uptoBulk d + 1
 end
def uptoSmall : (H : Type) → List (DataW H) → Bool := fun _ ds => decide (uptoBulkAll ds ≤ 1048576)
def OpenSpec.upto (s : _root_.Go.ChangeSpec) : _root_.Go.OpenSpec := { _root_.Go.OpenSpec.ofChange s with cond := some uptoSmall }

/-- 'greenwoodlaw04.ModpTells', WHERE WHAT IT READS IS OF BULK AT MOST 1048576: true; the input reads as it did. -/
def modpTellsUptoRow : OpenClaim := { program := "ytelinpgfjgoofaa", sum := "a2005636617e487f476db9a7216f0982799c077bb7b08343beb808db72bdcc83", func := "greenwood/greenwoodlaw04.ModpTells", spec := "modpTells", apart := false, narrowed := true }
def ModpTellsUptoSaid : Prop := modpTellsUptoRow.holds Try.pinned (OpenSpec.upto modpTellsSpec)

/-- 'greenwoodlaw04.ModpInverts', WHERE WHAT IT READS IS OF BULK AT MOST 1048576: true; the input reads as it did. -/
def modpInvertsUptoRow : OpenClaim := { program := "ytelinpgfjgoofaa", sum := "a2005636617e487f476db9a7216f0982799c077bb7b08343beb808db72bdcc83", func := "greenwood/greenwoodlaw04.ModpInverts", spec := "modpInverts", apart := false, narrowed := true }
def ModpInvertsUptoSaid : Prop := modpInvertsUptoRow.holds Try.pinned (OpenSpec.upto modpInvertsSpec)

/-- 'greenwoodlaw04.ModpPowers', WHERE WHAT IT READS IS OF BULK AT MOST 1048576: true; the input reads as it did. -/
def modpPowersUptoRow : OpenClaim := { program := "ytelinpgfjgoofaa", sum := "a2005636617e487f476db9a7216f0982799c077bb7b08343beb808db72bdcc83", func := "greenwood/greenwoodlaw04.ModpPowers", spec := "modpPowers", apart := false, narrowed := true }
def ModpPowersUptoSaid : Prop := modpPowersUptoRow.holds Try.pinned (OpenSpec.upto modpPowersSpec)

/-- 'greenwoodlaw04.ModpLinear', WHERE WHAT IT READS IS OF BULK AT MOST 1048576: true; the input reads as it did. -/
def modpLinearUptoRow : OpenClaim := { program := "ytelinpgfjgoofaa", sum := "a2005636617e487f476db9a7216f0982799c077bb7b08343beb808db72bdcc83", func := "greenwood/greenwoodlaw04.ModpLinear", spec := "modpLinear", apart := false, narrowed := true }
def ModpLinearUptoSaid : Prop := modpLinearUptoRow.holds Try.pinned (OpenSpec.upto modpLinearSpec)

/-- 'greenwoodlaw04.ModpPrimes', WHERE WHAT IT READS IS OF BULK AT MOST 1048576: true; the input reads as it did. -/
def modpPrimesUptoRow : OpenClaim := { program := "ytelinpgfjgoofaa", sum := "a2005636617e487f476db9a7216f0982799c077bb7b08343beb808db72bdcc83", func := "greenwood/greenwoodlaw04.ModpPrimes", spec := "modpPrimes", apart := false, narrowed := true }
def ModpPrimesUptoSaid : Prop := modpPrimesUptoRow.holds Try.pinned (OpenSpec.upto modpPrimesSpec)

end Rows
end Go.Proofs.Ytelinpgfjgoofaa
