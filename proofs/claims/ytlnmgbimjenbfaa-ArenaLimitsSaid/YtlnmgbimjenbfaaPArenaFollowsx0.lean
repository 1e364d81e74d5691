-- PRINTED BY print.sh 35421559b90ae4d0a3588c463048766b98c2df88dd9212a6774a882060cdf62d: not written by this session
import Derived.Test.YtlnmgbimjenbfaaProg
import Derived.Below
import Derived.Deep.Draws
import Derived.Deep.AppendLies
import Derived.Maps.AppendAt
import Derived.OwnWalk
import Derived.Laws.BytesArg
import Derived.Laws.MakeOwn
import Derived.Laws.OwnMore
import Derived.Deep.OwnRows
import Derived.Tactics
import Derived.Lib.ConvBytes
import Derived.Laws.Slices
import Derived.WalkKit
import Derived.KernelRfl
import Derived.RowKit3
import Derived.Deep.LoopGhost
import Derived.Deep.QuietTactic
import Derived.BigQuiet
import Derived.WideLaws
import Derived.Deep.DeepCutAuto
import Derived.Deep.CutBlock
import Derived.Deep.RegionHeld3
import Derived.Laws.Rows
import Derived.Lib.AppendStr
import Derived.ArgAppend
import Derived.Laws.IdiomCopy
import Derived.OrdersHeld
import Derived.Laws.BitsLemmas
import Derived.RowKit
import Derived.Test.YtlnmgbimjenbfaaWWords
import Derived.Test.YtlnmgbimjenbfaaWLast
import Derived.Test.YtlnmgbimjenbfaaWTab
import Derived.Test.YtlnmgbimjenbfaaWFour
import Derived.Test.YtlnmgbimjenbfaaWQPut
import Derived.Test.YtlnmgbimjenbfaaWApart
import Derived.Test.YtlnmgbimjenbfaaWArr
import Derived.Test.YtlnmgbimjenbfaaWZeros
import Derived.Test.YtlnmgbimjenbfaaWFoot
import Derived.Test.YtlnmgbimjenbfaaWKept
import Derived.Test.YtlnmgbimjenbfaaWShare
import Derived.Test.YtlnmgbimjenbfaaWN
import Derived.Test.YtlnmgbimjenbfaaWFootNe
import Derived.Test.YtlnmgbimjenbfaaWAt
import Derived.Test.YtlnmgbimjenbfaaWEqStruct
import Derived.Test.YtlnmgbimjenbfaaWRepsOne
import Derived.Test.YtlnmgbimjenbfaaWInv
import Derived.Test.YtlnmgbimjenbfaaWInvWords
import Derived.Test.YtlnmgbimjenbfaaWGuard
import Derived.Test.YtlnmgbimjenbfaaWNEv
import Derived.Test.YtlnmgbimjenbfaaWMore
namespace Go.Proofs.Ytlnmgbimjenbfaa.PArenaFollows
open Go.RowKit Go.Proofs.YtlnmgbimjenbfaaW.PrintWords Go.Proofs.YtlnmgbimjenbfaaW.PrintLast Go.Proofs.YtlnmgbimjenbfaaW.PrintMore
attribute [local go_sem] max2_int min2_int max_two min_two max_three min_three max_four min_four   -- for this text's walks alone
set_option linter.unusedVariables false
set_option linter.unusedSimpArgs false



def errW : Option Int → Value
  | none => .nilIface
  | some c => .iface 0 (.int .i64 c)
theorem errW_none : errW none = .nilIface := rfl
theorem errW_some (c : Int) : errW (some c) = .iface 0 (.int .i64 c) := rfl

-- the values' own types

end Go.Proofs.Ytlnmgbimjenbfaa.PArenaFollows
