-- PRINTED BY print.sh 35421559b90ae4d0a3588c463048766b98c2df88dd9212a6774a882060cdf62d: not written by this session
import Derived.Test.YtbmnknkheojoeaaProg
import Derived.Below
import Derived.Deep.Draws
import Derived.Deep.AppendLies
import Derived.Maps.AppendAt
import Derived.OwnWalk
import Derived.Laws.BytesArg
import Derived.Laws.MakeOwn
import Derived.Laws.OwnMore
import Derived.Deep.OwnRows
import Derived.Tactics
import Derived.Lib.ConvBytes
import Derived.Laws.Slices
import Derived.WalkKit
import Derived.KernelRfl
import Derived.RowKit3
import Derived.Deep.LoopGhost
import Derived.Deep.QuietTactic
import Derived.BigQuiet
import Derived.WideLaws
import Derived.Deep.DeepCutAuto
import Derived.Deep.CutBlock
import Derived.Deep.RegionHeld3
import Derived.Laws.Rows
import Derived.Lib.AppendStr
import Derived.ArgAppend
import Derived.Laws.IdiomCopy
import Derived.OrdersHeld
import Derived.Laws.BitsLemmas
import Derived.RowKit
import Derived.Test.YtbmnknkheojoeaaWWords
import Derived.Test.YtbmnknkheojoeaaWLast
import Derived.Test.YtbmnknkheojoeaaWTab
import Derived.Test.YtbmnknkheojoeaaWFour
import Derived.Test.YtbmnknkheojoeaaWQPut
import Derived.Test.YtbmnknkheojoeaaWApart
import Derived.Test.YtbmnknkheojoeaaWArr
import Derived.Test.YtbmnknkheojoeaaWZeros
import Derived.Test.YtbmnknkheojoeaaWFoot
import Derived.Test.YtbmnknkheojoeaaWKept
import Derived.Test.YtbmnknkheojoeaaWShare
import Derived.Test.YtbmnknkheojoeaaWN
import Derived.Test.YtbmnknkheojoeaaWFootNe
import Derived.Test.YtbmnknkheojoeaaWAt
import Derived.Test.YtbmnknkheojoeaaWEqStruct
import Derived.Test.YtbmnknkheojoeaaWRepsOne
import Derived.Test.YtbmnknkheojoeaaWInv
import Derived.Test.YtbmnknkheojoeaaWInvWords
import Derived.Test.YtbmnknkheojoeaaWGuard
import Derived.Test.YtbmnknkheojoeaaWNEv
import Derived.Test.YtbmnknkheojoeaaWMore
namespace Go.Proofs.Ytbmnknkheojoeaa.PRmaEnds
open Go.RowKit Go.Proofs.YtbmnknkheojoeaaW.PrintWords Go.Proofs.YtbmnknkheojoeaaW.PrintLast Go.Proofs.YtbmnknkheojoeaaW.PrintMore
attribute [local go_sem] max2_int min2_int max_two min_two max_three min_three max_four min_four   -- for this text's walks alone
set_option linter.unusedVariables false
set_option linter.unusedSimpArgs false



def errW : Option Int → Value
  | none => .nilIface
  | some c => .iface 0 (.int .i64 c)
theorem errW_none : errW none = .nilIface := rfl
theorem errW_some (c : Int) : errW (some c) = .iface 0 (.int .i64 c) := rfl

-- the values' own types

end Go.Proofs.Ytbmnknkheojoeaa.PRmaEnds
