-- written by wip/tool/ownprint.py of this claim's own repository, out of the translation's print
import Derived.Test.YtelinpgfjgoofaaProg
import Derived.Below
import Derived.Deep.Draws
import Derived.Deep.AppendLies
import Derived.Maps.AppendAt
import Derived.OwnWalk
import Derived.Laws.BytesArg
import Derived.Laws.MakeOwn
import Derived.Laws.OwnMore
import Derived.Deep.OwnRows
import Derived.Tactics
import Derived.Lib.ConvBytes
import Derived.Laws.Slices
import Derived.WalkKit
import Derived.KernelRfl
import Derived.RowKit3
import Derived.Deep.LoopGhost
import Derived.Deep.QuietTactic
import Derived.BigQuiet
import Derived.WideLaws
import Derived.Deep.DeepCutAuto
import Derived.Deep.CutBlock
import Derived.Deep.RegionHeld3
import Derived.Laws.Rows
import Derived.Lib.AppendStr
import Derived.ArgAppend
import Derived.Laws.IdiomCopy
import Derived.OrdersHeld
import Derived.Laws.BitsLemmas
import Derived.RowKit
import Derived.Outline
import Derived.Test.YtelinpgfjgoofaaWWords
import Derived.Test.YtelinpgfjgoofaaWLast
import Derived.Test.YtelinpgfjgoofaaWTab
import Derived.Test.YtelinpgfjgoofaaWFour
import Derived.Test.YtelinpgfjgoofaaWQPut
import Derived.Test.YtelinpgfjgoofaaWApart
import Derived.Test.YtelinpgfjgoofaaWArr
import Derived.Test.YtelinpgfjgoofaaWZeros
import Derived.Test.YtelinpgfjgoofaaWFoot
import Derived.Test.YtelinpgfjgoofaaWKept
import Derived.Test.YtelinpgfjgoofaaWShare
import Derived.Test.YtelinpgfjgoofaaWN
import Derived.Test.YtelinpgfjgoofaaWFootNe
import Derived.Test.YtelinpgfjgoofaaWAt
import Derived.Test.YtelinpgfjgoofaaWEqStruct
import Derived.Test.YtelinpgfjgoofaaWRepsOne
import Derived.Test.YtelinpgfjgoofaaWInv
import Derived.Test.YtelinpgfjgoofaaWInvWords
import Derived.Test.YtelinpgfjgoofaaWGuard
import Derived.Test.YtelinpgfjgoofaaWNEv
import Derived.Test.YtelinpgfjgoofaaWMore
namespace Go.Proofs.Ytelinpgfjgoofaa.P
open Go.RowKit Go.Proofs.YtelinpgfjgoofaaW.PrintWords Go.Proofs.YtelinpgfjgoofaaW.PrintLast Go.Proofs.YtelinpgfjgoofaaW.PrintMore
attribute [local go_sem] max2_int min2_int max_two min_two max_three min_three max_four min_four   -- for this text's walks alone
set_option linter.unusedVariables false
set_option linter.unusedSimpArgs false



def errW : Option Int → Value
  | none => .nilIface
  | some c => .iface 0 (.int .i64 c)
theorem errW_none : errW none = .nilIface := rfl
theorem errW_some (c : Int) : errW (some c) = .iface 0 (.int .i64 c) := rfl

-- the values' own types

end Go.Proofs.Ytelinpgfjgoofaa.P
