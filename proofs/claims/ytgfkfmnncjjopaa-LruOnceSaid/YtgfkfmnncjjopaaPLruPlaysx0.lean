-- PRINTED BY print.sh 35421559b90ae4d0a3588c463048766b98c2df88dd9212a6774a882060cdf62d: not written by this session
import Derived.Test.YtgfkfmnncjjopaaProg
import Derived.Below
import Derived.Deep.Draws
import Derived.Deep.AppendLies
import Derived.Maps.AppendAt
import Derived.OwnWalk
import Derived.Laws.BytesArg
import Derived.Laws.MakeOwn
import Derived.Laws.OwnMore
import Derived.Deep.OwnRows
import Derived.Tactics
import Derived.Lib.ConvBytes
import Derived.Laws.Slices
import Derived.WalkKit
import Derived.KernelRfl
import Derived.RowKit3
import Derived.Deep.LoopGhost
import Derived.Deep.QuietTactic
import Derived.BigQuiet
import Derived.WideLaws
import Derived.Deep.DeepCutAuto
import Derived.Deep.CutBlock
import Derived.Deep.RegionHeld3
import Derived.Laws.Rows
import Derived.Lib.AppendStr
import Derived.ArgAppend
import Derived.Laws.IdiomCopy
import Derived.OrdersHeld
import Derived.Laws.BitsLemmas
import Derived.RowKit
import Derived.Test.YtgfkfmnncjjopaaWWords
import Derived.Test.YtgfkfmnncjjopaaWLast
import Derived.Test.YtgfkfmnncjjopaaWTab
import Derived.Test.YtgfkfmnncjjopaaWFour
import Derived.Test.YtgfkfmnncjjopaaWQPut
import Derived.Test.YtgfkfmnncjjopaaWApart
import Derived.Test.YtgfkfmnncjjopaaWArr
import Derived.Test.YtgfkfmnncjjopaaWZeros
import Derived.Test.YtgfkfmnncjjopaaWFoot
import Derived.Test.YtgfkfmnncjjopaaWKept
import Derived.Test.YtgfkfmnncjjopaaWShare
import Derived.Test.YtgfkfmnncjjopaaWN
import Derived.Test.YtgfkfmnncjjopaaWFootNe
import Derived.Test.YtgfkfmnncjjopaaWAt
import Derived.Test.YtgfkfmnncjjopaaWEqStruct
import Derived.Test.YtgfkfmnncjjopaaWRepsOne
import Derived.Test.YtgfkfmnncjjopaaWInv
import Derived.Test.YtgfkfmnncjjopaaWInvWords
import Derived.Test.YtgfkfmnncjjopaaWGuard
import Derived.Test.YtgfkfmnncjjopaaWNEv
import Derived.Test.YtgfkfmnncjjopaaWMore
namespace Go.Proofs.Ytgfkfmnncjjopaa.PLruPlays
open Go.RowKit Go.Proofs.YtgfkfmnncjjopaaW.PrintWords Go.Proofs.YtgfkfmnncjjopaaW.PrintLast Go.Proofs.YtgfkfmnncjjopaaW.PrintMore
attribute [local go_sem] max2_int min2_int max_two min_two max_three min_three max_four min_four   -- for this text's walks alone
set_option linter.unusedVariables false
set_option linter.unusedSimpArgs false



def errW : Option Int → Value
  | none => .nilIface
  | some c => .iface 0 (.int .i64 c)
theorem errW_none : errW none = .nilIface := rfl
theorem errW_some (c : Int) : errW (some c) = .iface 0 (.int .i64 c) := rfl

theorem info3 : (Try.prog.info? 3).map (fun i => (i.zero, i.size, i.bytes)) = some (some (.int .i64 0), 1, 8) := by kernel_rfl
-- the values' own types

end Go.Proofs.Ytgfkfmnncjjopaa.PLruPlays
