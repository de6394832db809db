/-
  NARROWER THAN 'FOR EVERY INPUT', by the rows' own cells (each row's printed sentence says how): MatroidTells: loops, laid · MatroidBounds: loops, laid · MatroidSums: loops, laid · MatroidParts: loops, laid · MatroidTags: loops, laid.
  DERIVED. THE GIVEN ROWS OF THIS SEAT. 5 by the template 'for every input the law returns true; each argument reads behind the call as it read before'; 0 by the template 'total and deterministic' (their statements: YtgbmlkmkfigolaaDoorTotals.lean).
  GIVEN WITH THE SEED: the statements are not yours to turn. If you find one false, say at which input.
  Laid BY PROGRAM, IN A SANDBOX (cutbox-rows.mjs): the forced cells as the released guide's own fill.sh prints them over the translation f5f7004c24e9748a… (all of the seat's roots in one cut). By AI agents, Wed Nov 11 2026. No macro, syntax, notation, axiom, sorry.
-/
import Derived.Test.YtgbmlkmkfigolaaDoorChecked
import GoSem.Claim
import GoSem.ClaimJoined
import GoSem.ClaimMapViews
import Derived.JoinedTies
import Derived.KernelRfl
namespace Go.Proofs.YtgbmlkmkfigolaaDoor
/- THE CELL 'sum', in the pinned program and in every row, IS THE sha256 OF THE DUMP (.gsa) THAT YtgbmlkmkfigolaaDoorProg.lean LOADS. Nothing in Lean hashes anything: it is a label: what it is worth is what the hold of that sum in a sandbox is worth. -/
noncomputable def Tryd.pinned : Pinned := { name := "ytgbmlkmkfigolaadoor", sum := "f5f7004c24e9748ac10b2e6a261e0861e62feece3e308ee7a060eb36def9e99c", checked := Tryd.checked }
namespace Rows
def none {H : Type} : Left H := { results := [], args := [] }

/- WHAT THE LISTED PACKAGE-LEVEL VARIABLES READ AS WHEN THE CALL BEGINS. Each datum BY PROGRAM (the guide's laid-datum.mjs) off the statement by which the dump's own 'gosem.cut.vars' lays the variable. In a bare row this is a premise. The card (YtgbmlkmkfigolaaDoorCards.lean) ties it to the program's text. -/
def laid_errors_errorType {H : Type} : DataW H := .iface "internal/reflectlite.rtype" (.agg [.ptr (.lit (.string [101, 114, 114, 111, 114]))])

/-- 'greenwoodlaw09.MatroidTells': WHATEVER THE INPUT: true; the input reads as it did. -/
def matroidTellsSpec : ChangeSpec := { name := "matroidTells", fn := fun _ => fun
  | [d1, d2] => { results := [.lit (.bool true)], args := [d1, d2] }
  | _ => none }
def matroidTellsRow : OpenClaim := { program := "ytgbmlkmkfigolaadoor", sum := "f5f7004c24e9748ac10b2e6a261e0861e62feece3e308ee7a060eb36def9e99c", func := "greenwood/greenwoodlaw09.MatroidTells", spec := "matroidTells", inPlace := ["internal/reflectlite.TypeOf", "internal/reflectlite.ValueOf", "(internal/reflectlite.Value).Type", "(internal/reflectlite.Value).IsNil", "(internal/reflectlite.Value).Elem", "(internal/reflectlite.Value).Set"], unfollowed := true, recurses := true, named := ["errors.errorType"], loops := true, apart := false, laid := [("errors.errorType", laid_errors_errorType)] }
def MatroidTellsSaid : Prop := matroidTellsRow.holds Tryd.pinned (OpenSpec.ofChange matroidTellsSpec)

/-- ITS FALSE NEIGHBOUR: 'it returns false'. Refute it at one input. -/
def matroidTellsWrong : ChangeSpec := { name := "matroidTells", fn := fun _ => fun
  | [d1, d2] => { results := [.lit (.bool false)], args := [d1, d2] }
  | _ => none }
def MatroidTellsWrongFalsely : Prop := matroidTellsRow.holds Tryd.pinned (OpenSpec.ofChange matroidTellsWrong)

/-- 'greenwoodlaw09.MatroidBounds': WHATEVER THE INPUT: true; the input reads as it did. -/
def matroidBoundsSpec : ChangeSpec := { name := "matroidBounds", fn := fun _ => fun
  | [d] => { results := [.lit (.bool true)], args := [d] }
  | _ => none }
def matroidBoundsRow : OpenClaim := { program := "ytgbmlkmkfigolaadoor", sum := "f5f7004c24e9748ac10b2e6a261e0861e62feece3e308ee7a060eb36def9e99c", func := "greenwood/greenwoodlaw09.MatroidBounds", spec := "matroidBounds", inPlace := ["internal/reflectlite.TypeOf", "internal/reflectlite.ValueOf", "(internal/reflectlite.Value).Type", "(internal/reflectlite.Value).IsNil", "(internal/reflectlite.Value).Elem", "(internal/reflectlite.Value).Set"], unfollowed := true, recurses := true, named := ["errors.errorType"], loops := true, apart := false, laid := [("errors.errorType", laid_errors_errorType)] }
def MatroidBoundsSaid : Prop := matroidBoundsRow.holds Tryd.pinned (OpenSpec.ofChange matroidBoundsSpec)

/-- ITS FALSE NEIGHBOUR: 'it returns false'. Refute it at one input. -/
def matroidBoundsWrong : ChangeSpec := { name := "matroidBounds", fn := fun _ => fun
  | [d] => { results := [.lit (.bool false)], args := [d] }
  | _ => none }
def MatroidBoundsWrongFalsely : Prop := matroidBoundsRow.holds Tryd.pinned (OpenSpec.ofChange matroidBoundsWrong)

/-- 'greenwoodlaw09.MatroidSums': WHATEVER THE INPUT: true; the input reads as it did. -/
def matroidSumsSpec : ChangeSpec := { name := "matroidSums", fn := fun _ => fun
  | [d1, d2] => { results := [.lit (.bool true)], args := [d1, d2] }
  | _ => none }
def matroidSumsRow : OpenClaim := { program := "ytgbmlkmkfigolaadoor", sum := "f5f7004c24e9748ac10b2e6a261e0861e62feece3e308ee7a060eb36def9e99c", func := "greenwood/greenwoodlaw09.MatroidSums", spec := "matroidSums", inPlace := ["internal/reflectlite.TypeOf", "internal/reflectlite.ValueOf", "(internal/reflectlite.Value).Type", "(internal/reflectlite.Value).IsNil", "(internal/reflectlite.Value).Elem", "(internal/reflectlite.Value).Set"], unfollowed := true, recurses := true, named := ["errors.errorType"], loops := true, apart := false, laid := [("errors.errorType", laid_errors_errorType)] }
def MatroidSumsSaid : Prop := matroidSumsRow.holds Tryd.pinned (OpenSpec.ofChange matroidSumsSpec)

/-- ITS FALSE NEIGHBOUR: 'it returns false'. Refute it at one input. -/
def matroidSumsWrong : ChangeSpec := { name := "matroidSums", fn := fun _ => fun
  | [d1, d2] => { results := [.lit (.bool false)], args := [d1, d2] }
  | _ => none }
def MatroidSumsWrongFalsely : Prop := matroidSumsRow.holds Tryd.pinned (OpenSpec.ofChange matroidSumsWrong)

/-- 'greenwoodlaw09.MatroidParts': WHATEVER THE INPUT: true; the input reads as it did. -/
def matroidPartsSpec : ChangeSpec := { name := "matroidParts", fn := fun _ => fun
  | [d1, d2] => { results := [.lit (.bool true)], args := [d1, d2] }
  | _ => none }
def matroidPartsRow : OpenClaim := { program := "ytgbmlkmkfigolaadoor", sum := "f5f7004c24e9748ac10b2e6a261e0861e62feece3e308ee7a060eb36def9e99c", func := "greenwood/greenwoodlaw09.MatroidParts", spec := "matroidParts", inPlace := ["internal/reflectlite.TypeOf", "internal/reflectlite.ValueOf", "(internal/reflectlite.Value).Type", "(internal/reflectlite.Value).IsNil", "(internal/reflectlite.Value).Elem", "(internal/reflectlite.Value).Set"], unfollowed := true, recurses := true, named := ["errors.errorType"], loops := true, apart := false, laid := [("errors.errorType", laid_errors_errorType)] }
def MatroidPartsSaid : Prop := matroidPartsRow.holds Tryd.pinned (OpenSpec.ofChange matroidPartsSpec)

/-- ITS FALSE NEIGHBOUR: 'it returns false'. Refute it at one input. -/
def matroidPartsWrong : ChangeSpec := { name := "matroidParts", fn := fun _ => fun
  | [d1, d2] => { results := [.lit (.bool false)], args := [d1, d2] }
  | _ => none }
def MatroidPartsWrongFalsely : Prop := matroidPartsRow.holds Tryd.pinned (OpenSpec.ofChange matroidPartsWrong)

/-- 'greenwoodlaw09.MatroidTags': WHATEVER THE INPUT: true; the input reads as it did. -/
def matroidTagsSpec : ChangeSpec := { name := "matroidTags", fn := fun _ => fun
  | [d1, d2] => { results := [.lit (.bool true)], args := [d1, d2] }
  | _ => none }
def matroidTagsRow : OpenClaim := { program := "ytgbmlkmkfigolaadoor", sum := "f5f7004c24e9748ac10b2e6a261e0861e62feece3e308ee7a060eb36def9e99c", func := "greenwood/greenwoodlaw09.MatroidTags", spec := "matroidTags", inPlace := ["internal/reflectlite.TypeOf", "internal/reflectlite.ValueOf", "(internal/reflectlite.Value).Type", "(internal/reflectlite.Value).IsNil", "(internal/reflectlite.Value).Elem", "(internal/reflectlite.Value).Set"], unfollowed := true, recurses := true, named := ["errors.errorType"], loops := true, apart := false, laid := [("errors.errorType", laid_errors_errorType)] }
def MatroidTagsSaid : Prop := matroidTagsRow.holds Tryd.pinned (OpenSpec.ofChange matroidTagsSpec)

/-- ITS FALSE NEIGHBOUR: 'it returns false'. Refute it at one input. -/
def matroidTagsWrong : ChangeSpec := { name := "matroidTags", fn := fun _ => fun
  | [d1, d2] => { results := [.lit (.bool false)], args := [d1, d2] }
  | _ => none }
def MatroidTagsWrongFalsely : Prop := matroidTagsRow.holds Tryd.pinned (OpenSpec.ofChange matroidTagsWrong)

/- THE SECOND FORM. 'bulk': how many values and letters a reading holds, each counted each time it is reached (what is shared counts as often as it is met; a slice's spare places count too). A statement '..UptoSaid' is the law's where the arguments, and the package variables that the reading takes, are together of bulk at most 1048576: NARROWER than '..Said'. Prove '..Said' where nothing that the law and all that it calls make is longer than what came in: it says more and counts as full. Else prove '..UptoSaid'. A law counts once. -/
mutual
def uptoBulk {H : Type} : DataW H → Nat
  | .lit (.string bytes) => bytes.length + 1
  | .lit _ => 1
  | .nil => 1
  | .ptr d => uptoBulk d + 1
  | .slice elems spare => uptoBulkAll elems + uptoBulkAll spare + 1
  | .agg parts => uptoBulkAll parts + 1
  | .iface _ d => uptoBulk d + 1
  | .map entries => uptoBulkEntries entries + 1
  | .held _ => 1
def uptoBulkAll {H : Type} : List (DataW H) → Nat
  | [] => 0
  | d :: r => uptoBulk d + uptoBulkAll r
def uptoBulkEntries {H : Type} : List (Lit × DataW H) → Nat
  | [] => 0
  | x :: r => uptoBulkEntry x + uptoBulkEntries r
def uptoBulkEntry {H : Type} : Lit × DataW H → Nat
  | (.string bytes, d) => bytes.length + uptoBulk d + 1
  | (_, d) => uptoBulk d + 1
 end
def uptoSmall : (H : Type) → List (DataW H) → Bool := fun _ ds => decide (uptoBulkAll ds ≤ 1048576)
def OpenSpec.upto (s : _root_.Go.ChangeSpec) : _root_.Go.OpenSpec := { _root_.Go.OpenSpec.ofChange s with cond := some uptoSmall }

/-- 'greenwoodlaw09.MatroidTells', WHERE WHAT IT READS IS OF BULK AT MOST 1048576: true; the input reads as it did. -/
def matroidTellsUptoRow : OpenClaim := { program := "ytgbmlkmkfigolaadoor", sum := "f5f7004c24e9748ac10b2e6a261e0861e62feece3e308ee7a060eb36def9e99c", func := "greenwood/greenwoodlaw09.MatroidTells", spec := "matroidTells", inPlace := ["internal/reflectlite.TypeOf", "internal/reflectlite.ValueOf", "(internal/reflectlite.Value).Type", "(internal/reflectlite.Value).IsNil", "(internal/reflectlite.Value).Elem", "(internal/reflectlite.Value).Set"], unfollowed := true, recurses := true, named := ["errors.errorType"], loops := true, apart := false, laid := [("errors.errorType", laid_errors_errorType)], narrowed := true }
def MatroidTellsUptoSaid : Prop := matroidTellsUptoRow.holds Tryd.pinned (OpenSpec.upto matroidTellsSpec)

/-- 'greenwoodlaw09.MatroidBounds', WHERE WHAT IT READS IS OF BULK AT MOST 1048576: true; the input reads as it did. -/
def matroidBoundsUptoRow : OpenClaim := { program := "ytgbmlkmkfigolaadoor", sum := "f5f7004c24e9748ac10b2e6a261e0861e62feece3e308ee7a060eb36def9e99c", func := "greenwood/greenwoodlaw09.MatroidBounds", spec := "matroidBounds", inPlace := ["internal/reflectlite.TypeOf", "internal/reflectlite.ValueOf", "(internal/reflectlite.Value).Type", "(internal/reflectlite.Value).IsNil", "(internal/reflectlite.Value).Elem", "(internal/reflectlite.Value).Set"], unfollowed := true, recurses := true, named := ["errors.errorType"], loops := true, apart := false, laid := [("errors.errorType", laid_errors_errorType)], narrowed := true }
def MatroidBoundsUptoSaid : Prop := matroidBoundsUptoRow.holds Tryd.pinned (OpenSpec.upto matroidBoundsSpec)

/-- 'greenwoodlaw09.MatroidSums', WHERE WHAT IT READS IS OF BULK AT MOST 1048576: true; the input reads as it did. -/
def matroidSumsUptoRow : OpenClaim := { program := "ytgbmlkmkfigolaadoor", sum := "f5f7004c24e9748ac10b2e6a261e0861e62feece3e308ee7a060eb36def9e99c", func := "greenwood/greenwoodlaw09.MatroidSums", spec := "matroidSums", inPlace := ["internal/reflectlite.TypeOf", "internal/reflectlite.ValueOf", "(internal/reflectlite.Value).Type", "(internal/reflectlite.Value).IsNil", "(internal/reflectlite.Value).Elem", "(internal/reflectlite.Value).Set"], unfollowed := true, recurses := true, named := ["errors.errorType"], loops := true, apart := false, laid := [("errors.errorType", laid_errors_errorType)], narrowed := true }
def MatroidSumsUptoSaid : Prop := matroidSumsUptoRow.holds Tryd.pinned (OpenSpec.upto matroidSumsSpec)

/-- 'greenwoodlaw09.MatroidParts', WHERE WHAT IT READS IS OF BULK AT MOST 1048576: true; the input reads as it did. -/
def matroidPartsUptoRow : OpenClaim := { program := "ytgbmlkmkfigolaadoor", sum := "f5f7004c24e9748ac10b2e6a261e0861e62feece3e308ee7a060eb36def9e99c", func := "greenwood/greenwoodlaw09.MatroidParts", spec := "matroidParts", inPlace := ["internal/reflectlite.TypeOf", "internal/reflectlite.ValueOf", "(internal/reflectlite.Value).Type", "(internal/reflectlite.Value).IsNil", "(internal/reflectlite.Value).Elem", "(internal/reflectlite.Value).Set"], unfollowed := true, recurses := true, named := ["errors.errorType"], loops := true, apart := false, laid := [("errors.errorType", laid_errors_errorType)], narrowed := true }
def MatroidPartsUptoSaid : Prop := matroidPartsUptoRow.holds Tryd.pinned (OpenSpec.upto matroidPartsSpec)

/-- 'greenwoodlaw09.MatroidTags', WHERE WHAT IT READS IS OF BULK AT MOST 1048576: true; the input reads as it did. -/
def matroidTagsUptoRow : OpenClaim := { program := "ytgbmlkmkfigolaadoor", sum := "f5f7004c24e9748ac10b2e6a261e0861e62feece3e308ee7a060eb36def9e99c", func := "greenwood/greenwoodlaw09.MatroidTags", spec := "matroidTags", inPlace := ["internal/reflectlite.TypeOf", "internal/reflectlite.ValueOf", "(internal/reflectlite.Value).Type", "(internal/reflectlite.Value).IsNil", "(internal/reflectlite.Value).Elem", "(internal/reflectlite.Value).Set"], unfollowed := true, recurses := true, named := ["errors.errorType"], loops := true, apart := false, laid := [("errors.errorType", laid_errors_errorType)], narrowed := true }
def MatroidTagsUptoSaid : Prop := matroidTagsUptoRow.holds Tryd.pinned (OpenSpec.upto matroidTagsSpec)

end Rows
end Go.Proofs.YtgbmlkmkfigolaaDoor
