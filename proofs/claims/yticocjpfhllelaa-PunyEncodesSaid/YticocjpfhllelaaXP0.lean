-- Written by xprint.py, a program of this session's own, out of the translation.
import Derived.Test.YticocjpfhllelaaProg
import Derived.Below
import Derived.Deep.Draws
import Derived.Deep.AppendLies
import Derived.Maps.AppendAt
import Derived.OwnWalk
import Derived.Laws.BytesArg
import Derived.Laws.MakeOwn
import Derived.Laws.OwnMore
import Derived.Deep.OwnRows
import Derived.Tactics
import Derived.Lib.ConvBytes
import Derived.Laws.Slices
import Derived.WalkKit
import Derived.KernelRfl
import Derived.RowKit3
import Derived.Deep.LoopGhost
import Derived.Deep.QuietTactic
import Derived.BigQuiet
import Derived.WideLaws
import Derived.Deep.DeepCutAuto
import Derived.Deep.CutBlock
import Derived.Deep.RegionHeld3
import Derived.Laws.Rows
import Derived.Lib.AppendStr
import Derived.ArgAppend
import Derived.Laws.IdiomCopy
import Derived.OrdersHeld
import Derived.Laws.BitsLemmas
import Derived.RowKit
import Derived.Test.YticocjpfhllelaaWWords
import Derived.Test.YticocjpfhllelaaWLast
import Derived.Test.YticocjpfhllelaaWTab
import Derived.Test.YticocjpfhllelaaWFour
import Derived.Test.YticocjpfhllelaaWQPut
import Derived.Test.YticocjpfhllelaaWApart
import Derived.Test.YticocjpfhllelaaWArr
import Derived.Test.YticocjpfhllelaaWZeros
import Derived.Test.YticocjpfhllelaaWFoot
import Derived.Test.YticocjpfhllelaaWKept
import Derived.Test.YticocjpfhllelaaWShare
import Derived.Test.YticocjpfhllelaaWN
import Derived.Test.YticocjpfhllelaaWFootNe
import Derived.Test.YticocjpfhllelaaWAt
import Derived.Test.YticocjpfhllelaaWEqStruct
import Derived.Test.YticocjpfhllelaaWRepsOne
import Derived.Test.YticocjpfhllelaaWInv
import Derived.Test.YticocjpfhllelaaWInvWords
import Derived.Test.YticocjpfhllelaaWGuard
import Derived.Test.YticocjpfhllelaaWNEv
import Derived.Test.YticocjpfhllelaaWMore
namespace Go.Proofs.Yticocjpfhllelaa.XP
open Go.RowKit Go.Proofs.YticocjpfhllelaaW.PrintWords Go.Proofs.YticocjpfhllelaaW.PrintLast Go.Proofs.YticocjpfhllelaaW.PrintMore
attribute [local go_sem] max2_int min2_int max_two min_two max_three min_three max_four min_four   -- for this text's walks alone
set_option linter.unusedVariables false
set_option linter.unusedSimpArgs false



def errW : Option Int → Value
  | none => .nilIface
  | some c => .iface 0 (.int .i64 c)
theorem errW_none : errW none = .nilIface := rfl
theorem errW_some (c : Int) : errW (some c) = .iface 0 (.int .i64 c) := rfl

theorem info5 : (Try.prog.info? 5).map (fun i => (i.zero, i.size, i.bytes)) = some (some (.int .u8 0), 1, 1) := by kernel_rfl
theorem info21 : (Try.prog.info? 21).map (fun i => (i.zero, i.size, i.bytes)) = some (some (.int .i32 0), 1, 4) := by kernel_rfl
-- the values' own types

end Go.Proofs.Yticocjpfhllelaa.XP
