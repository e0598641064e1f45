/- The kinds of values of this translation, as plain Lean types, and what is told of them; no condition. Written by a program of this session's own (wip/printx.py). -/
import Derived.Test.YtglanbhioedhcaaProg
import Derived.Below
import Derived.Deep.Draws
import Derived.Deep.AppendLies
import Derived.Maps.AppendAt
import Derived.OwnWalk
import Derived.Laws.BytesArg
import Derived.Laws.MakeOwn
import Derived.Laws.OwnMore
import Derived.Deep.OwnRows
import Derived.Tactics
import Derived.Lib.ConvBytes
import Derived.Laws.Slices
import Derived.WalkKit
import Derived.KernelRfl
import Derived.RowKit3
import Derived.Deep.LoopGhost
import Derived.Deep.QuietTactic
import Derived.BigQuiet
import Derived.WideLaws
import Derived.Deep.DeepCutAuto
import Derived.Deep.CutBlock
import Derived.Deep.RegionHeld3
import Derived.Laws.Rows
import Derived.Lib.AppendStr
import Derived.ArgAppend
import Derived.Laws.IdiomCopy
import Derived.OrdersHeld
import Derived.Laws.BitsLemmas
import Derived.RowKit
import Derived.Test.YtglanbhioedhcaaWWords
import Derived.Test.YtglanbhioedhcaaWLast
import Derived.Test.YtglanbhioedhcaaWTab
import Derived.Test.YtglanbhioedhcaaWFour
import Derived.Test.YtglanbhioedhcaaWQPut
import Derived.Test.YtglanbhioedhcaaWApart
import Derived.Test.YtglanbhioedhcaaWArr
import Derived.Test.YtglanbhioedhcaaWZeros
import Derived.Test.YtglanbhioedhcaaWFoot
import Derived.Test.YtglanbhioedhcaaWKept
import Derived.Test.YtglanbhioedhcaaWShare
import Derived.Test.YtglanbhioedhcaaWN
import Derived.Test.YtglanbhioedhcaaWFootNe
import Derived.Test.YtglanbhioedhcaaWAt
import Derived.Test.YtglanbhioedhcaaWEqStruct
import Derived.Test.YtglanbhioedhcaaWRepsOne
import Derived.Test.YtglanbhioedhcaaWInv
import Derived.Test.YtglanbhioedhcaaWInvWords
import Derived.Test.YtglanbhioedhcaaWGuard
import Derived.Test.YtglanbhioedhcaaWNEv
import Derived.Test.YtglanbhioedhcaaWMore
namespace Go.Proofs.Ytglanbhioedhcaa.P
open Go.RowKit Go.Proofs.YtglanbhioedhcaaW.PrintWords Go.Proofs.YtglanbhioedhcaaW.PrintLast Go.Proofs.YtglanbhioedhcaaW.PrintMore
attribute [local go_sem] max2_int min2_int max_two min_two max_three min_three max_four min_four   -- for this text's walks alone
set_option linter.unusedVariables false
set_option linter.unusedSimpArgs false



def errW : Option Int → Value
  | none => .nilIface
  | some c => .iface 0 (.int .i64 c)
theorem errW_none : errW none = .nilIface := rfl
theorem errW_some (c : Int) : errW (some c) = .iface 0 (.int .i64 c) := rfl

theorem info3 : (Try.prog.info? 3).map (fun i => (i.zero, i.size, i.bytes)) = some (some (.int .i64 0), 1, 8) := by kernel_rfl
theorem info5 : (Try.prog.info? 5).map (fun i => (i.zero, i.size, i.bytes)) = some (some (.int .u8 0), 1, 1) := by kernel_rfl
theorem info9 : (Try.prog.info? 9).map (fun i => (i.zero, i.size, i.bytes)) = some (some (.string ⟨#[]⟩), 1, 16) := by kernel_rfl
-- the values' own types

end Go.Proofs.Ytglanbhioedhcaa.P
