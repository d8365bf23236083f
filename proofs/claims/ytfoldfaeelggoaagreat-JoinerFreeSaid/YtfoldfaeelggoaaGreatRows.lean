/-
  No cell of these rows narrows 'for every input' (looked for: loops, veiled, ifaces, maps, wideKeys, modest, calm, conditions, laid).
  DERIVED. THE GIVEN ROWS OF THIS SEAT. 12 by the template 'for every input the law returns true; each argument reads behind the call as it read before'; 0 by the template 'total and deterministic' (their statements: YtfoldfaeelggoaaGreatTotals.lean).
  GIVEN WITH THE SEED: the statements are not yours to turn. If you find one false, say at which input.
  Laid BY PROGRAM, IN A SANDBOX (cutbox-rows.mjs): the forced cells as the released guide's own fill.sh prints them over the translation a064580f37e045b9… (all of the seat's roots in one cut). By AI agents, Wed Nov 11 2026. No macro, syntax, notation, axiom, sorry.
-/
import Derived.Test.YtfoldfaeelggoaaGreatChecked
import GoSem.Claim
import GoSem.ClaimJoined
import GoSem.ClaimMapViews
import Derived.JoinedTies
import Derived.KernelRfl
namespace Go.Proofs.YtfoldfaeelggoaaGreat
/- THE CELL 'sum', in the pinned program and in every row, IS THE sha256 OF THE DUMP (.gsa) THAT YtfoldfaeelggoaaGreatProg.lean LOADS. Nothing in Lean hashes anything: it is a label: what it is worth is what the hold of that sum in a sandbox is worth. -/
noncomputable def Tryz.pinned : Pinned := { name := "ytfoldfaeelggoaagreat", sum := "a064580f37e045b995f2a5192f2c7a0025b488d006a0894b4e198c95c66961e0", checked := Tryz.checked }
namespace Rows
def none {H : Type} : Left H := { results := [], args := [] }

/-- 'endonymlaw9.UcdWeighs': WHATEVER THE INPUT: true; the input reads as it did. -/
def ucdWeighsSpec : ChangeSpec := { name := "ucdWeighs", fn := fun _ => fun
  | [d1, d2, d3, d4] => { results := [.lit (.bool true)], args := [d1, d2, d3, d4] }
  | _ => none }
def ucdWeighsRow : OpenClaim := { program := "ytfoldfaeelggoaagreat", sum := "a064580f37e045b995f2a5192f2c7a0025b488d006a0894b4e198c95c66961e0", func := "endonym/endonymlaw9.UcdWeighs", spec := "ucdWeighs", inPlace := ["math.Float64bits", "internal/reflectlite.ValueOf", "internal/reflectlite.Swapper", "(internal/reflectlite.Value).Len", "math.Float64frombits"], unfollowed := true, recurses := true, plainKeys := false, apart := false }
def UcdWeighsSaid : Prop := ucdWeighsRow.holds Tryz.pinned (OpenSpec.ofChange ucdWeighsSpec)

/-- ITS FALSE NEIGHBOUR: 'it returns false'. Refute it at one input. -/
def ucdWeighsWrong : ChangeSpec := { name := "ucdWeighs", fn := fun _ => fun
  | [d1, d2, d3, d4] => { results := [.lit (.bool false)], args := [d1, d2, d3, d4] }
  | _ => none }
def UcdWeighsWrongFalsely : Prop := ucdWeighsRow.holds Tryz.pinned (OpenSpec.ofChange ucdWeighsWrong)

/-- 'endonymlaw16.JoinerFits': WHATEVER THE INPUT: true; the input reads as it did. -/
def joinerFitsSpec : ChangeSpec := { name := "joinerFits", fn := fun _ => fun
  | [d1, d2, d3] => { results := [.lit (.bool true)], args := [d1, d2, d3] }
  | _ => none }
def joinerFitsRow : OpenClaim := { program := "ytfoldfaeelggoaagreat", sum := "a064580f37e045b995f2a5192f2c7a0025b488d006a0894b4e198c95c66961e0", func := "endonym/endonymlaw16.JoinerFits", spec := "joinerFits", inPlace := ["math.Float64bits", "internal/reflectlite.ValueOf", "internal/reflectlite.Swapper", "(internal/reflectlite.Value).Len", "math.Float64frombits"], unfollowed := true, recurses := true, plainKeys := false, apart := false }
def JoinerFitsSaid : Prop := joinerFitsRow.holds Tryz.pinned (OpenSpec.ofChange joinerFitsSpec)

/-- ITS FALSE NEIGHBOUR: 'it returns false'. Refute it at one input. -/
def joinerFitsWrong : ChangeSpec := { name := "joinerFits", fn := fun _ => fun
  | [d1, d2, d3] => { results := [.lit (.bool false)], args := [d1, d2, d3] }
  | _ => none }
def JoinerFitsWrongFalsely : Prop := joinerFitsRow.holds Tryz.pinned (OpenSpec.ofChange joinerFitsWrong)

/-- 'endonymlaw16.JoinerNear': WHATEVER THE INPUT: true; the input reads as it did. -/
def joinerNearSpec : ChangeSpec := { name := "joinerNear", fn := fun _ => fun
  | [d1, d2, d3, d4, d5] => { results := [.lit (.bool true)], args := [d1, d2, d3, d4, d5] }
  | _ => none }
def joinerNearRow : OpenClaim := { program := "ytfoldfaeelggoaagreat", sum := "a064580f37e045b995f2a5192f2c7a0025b488d006a0894b4e198c95c66961e0", func := "endonym/endonymlaw16.JoinerNear", spec := "joinerNear", inPlace := ["math.Float64bits", "internal/reflectlite.ValueOf", "internal/reflectlite.Swapper", "(internal/reflectlite.Value).Len", "math.Float64frombits"], unfollowed := true, recurses := true, plainKeys := false, apart := false }
def JoinerNearSaid : Prop := joinerNearRow.holds Tryz.pinned (OpenSpec.ofChange joinerNearSpec)

/-- ITS FALSE NEIGHBOUR: 'it returns false'. Refute it at one input. -/
def joinerNearWrong : ChangeSpec := { name := "joinerNear", fn := fun _ => fun
  | [d1, d2, d3, d4, d5] => { results := [.lit (.bool false)], args := [d1, d2, d3, d4, d5] }
  | _ => none }
def JoinerNearWrongFalsely : Prop := joinerNearRow.holds Tryz.pinned (OpenSpec.ofChange joinerNearWrong)

/-- 'endonymlaw16.JoinerFree': WHATEVER THE INPUT: true; the input reads as it did. -/
def joinerFreeSpec : ChangeSpec := { name := "joinerFree", fn := fun _ => fun
  | [d1, d2] => { results := [.lit (.bool true)], args := [d1, d2] }
  | _ => none }
def joinerFreeRow : OpenClaim := { program := "ytfoldfaeelggoaagreat", sum := "a064580f37e045b995f2a5192f2c7a0025b488d006a0894b4e198c95c66961e0", func := "endonym/endonymlaw16.JoinerFree", spec := "joinerFree", inPlace := ["math.Float64bits", "internal/reflectlite.ValueOf", "internal/reflectlite.Swapper", "(internal/reflectlite.Value).Len", "math.Float64frombits"], unfollowed := true, recurses := true, plainKeys := false, apart := false }
def JoinerFreeSaid : Prop := joinerFreeRow.holds Tryz.pinned (OpenSpec.ofChange joinerFreeSpec)

/-- ITS FALSE NEIGHBOUR: 'it returns false'. Refute it at one input. -/
def joinerFreeWrong : ChangeSpec := { name := "joinerFree", fn := fun _ => fun
  | [d1, d2] => { results := [.lit (.bool false)], args := [d1, d2] }
  | _ => none }
def JoinerFreeWrongFalsely : Prop := joinerFreeRow.holds Tryz.pinned (OpenSpec.ofChange joinerFreeWrong)

/-- 'endonymlaw9.UcdTells': WHATEVER THE INPUT: true; the input reads as it did. -/
def ucdTellsSpec : ChangeSpec := { name := "ucdTells", fn := fun _ => fun
  | [d1, d2] => { results := [.lit (.bool true)], args := [d1, d2] }
  | _ => none }
def ucdTellsRow : OpenClaim := { program := "ytfoldfaeelggoaagreat", sum := "a064580f37e045b995f2a5192f2c7a0025b488d006a0894b4e198c95c66961e0", func := "endonym/endonymlaw9.UcdTells", spec := "ucdTells", inPlace := ["math.Float64bits", "internal/reflectlite.ValueOf", "internal/reflectlite.Swapper", "(internal/reflectlite.Value).Len", "math.Float64frombits"], unfollowed := true, recurses := true, plainKeys := false, apart := false }
def UcdTellsSaid : Prop := ucdTellsRow.holds Tryz.pinned (OpenSpec.ofChange ucdTellsSpec)

/-- ITS FALSE NEIGHBOUR: 'it returns false'. Refute it at one input. -/
def ucdTellsWrong : ChangeSpec := { name := "ucdTells", fn := fun _ => fun
  | [d1, d2] => { results := [.lit (.bool false)], args := [d1, d2] }
  | _ => none }
def UcdTellsWrongFalsely : Prop := ucdTellsRow.holds Tryz.pinned (OpenSpec.ofChange ucdTellsWrong)

/-- 'endonymlaw9.UcdTries': WHATEVER THE INPUT: true; the input reads as it did. -/
def ucdTriesSpec : ChangeSpec := { name := "ucdTries", fn := fun _ => fun
  | [d1, d2, d3] => { results := [.lit (.bool true)], args := [d1, d2, d3] }
  | _ => none }
def ucdTriesRow : OpenClaim := { program := "ytfoldfaeelggoaagreat", sum := "a064580f37e045b995f2a5192f2c7a0025b488d006a0894b4e198c95c66961e0", func := "endonym/endonymlaw9.UcdTries", spec := "ucdTries", inPlace := ["math.Float64bits", "internal/reflectlite.ValueOf", "internal/reflectlite.Swapper", "(internal/reflectlite.Value).Len", "math.Float64frombits"], unfollowed := true, recurses := true, plainKeys := false, apart := false }
def UcdTriesSaid : Prop := ucdTriesRow.holds Tryz.pinned (OpenSpec.ofChange ucdTriesSpec)

/-- ITS FALSE NEIGHBOUR: 'it returns false'. Refute it at one input. -/
def ucdTriesWrong : ChangeSpec := { name := "ucdTries", fn := fun _ => fun
  | [d1, d2, d3] => { results := [.lit (.bool false)], args := [d1, d2, d3] }
  | _ => none }
def UcdTriesWrongFalsely : Prop := ucdTriesRow.holds Tryz.pinned (OpenSpec.ofChange ucdTriesWrong)

/-- 'endonymlaw9.UcdPairs': WHATEVER THE INPUT: true; the input reads as it did. -/
def ucdPairsSpec : ChangeSpec := { name := "ucdPairs", fn := fun _ => fun
  | [d1, d2] => { results := [.lit (.bool true)], args := [d1, d2] }
  | _ => none }
def ucdPairsRow : OpenClaim := { program := "ytfoldfaeelggoaagreat", sum := "a064580f37e045b995f2a5192f2c7a0025b488d006a0894b4e198c95c66961e0", func := "endonym/endonymlaw9.UcdPairs", spec := "ucdPairs", inPlace := ["math.Float64bits", "internal/reflectlite.ValueOf", "internal/reflectlite.Swapper", "(internal/reflectlite.Value).Len", "math.Float64frombits"], unfollowed := true, recurses := true, plainKeys := false, apart := false }
def UcdPairsSaid : Prop := ucdPairsRow.holds Tryz.pinned (OpenSpec.ofChange ucdPairsSpec)

/-- ITS FALSE NEIGHBOUR: 'it returns false'. Refute it at one input. -/
def ucdPairsWrong : ChangeSpec := { name := "ucdPairs", fn := fun _ => fun
  | [d1, d2] => { results := [.lit (.bool false)], args := [d1, d2] }
  | _ => none }
def UcdPairsWrongFalsely : Prop := ucdPairsRow.holds Tryz.pinned (OpenSpec.ofChange ucdPairsWrong)

/-- 'endonymlaw17.BidiMarks': WHATEVER THE INPUT: true; the input reads as it did. -/
def bidiMarksSpec : ChangeSpec := { name := "bidiMarks", fn := fun _ => fun
  | [d1, d2, d3] => { results := [.lit (.bool true)], args := [d1, d2, d3] }
  | _ => none }
def bidiMarksRow : OpenClaim := { program := "ytfoldfaeelggoaagreat", sum := "a064580f37e045b995f2a5192f2c7a0025b488d006a0894b4e198c95c66961e0", func := "endonym/endonymlaw17.BidiMarks", spec := "bidiMarks", inPlace := ["math.Float64bits", "internal/reflectlite.ValueOf", "internal/reflectlite.Swapper", "(internal/reflectlite.Value).Len", "math.Float64frombits"], unfollowed := true, recurses := true, plainKeys := false, apart := false }
def BidiMarksSaid : Prop := bidiMarksRow.holds Tryz.pinned (OpenSpec.ofChange bidiMarksSpec)

/-- ITS FALSE NEIGHBOUR: 'it returns false'. Refute it at one input. -/
def bidiMarksWrong : ChangeSpec := { name := "bidiMarks", fn := fun _ => fun
  | [d1, d2, d3] => { results := [.lit (.bool false)], args := [d1, d2, d3] }
  | _ => none }
def BidiMarksWrongFalsely : Prop := bidiMarksRow.holds Tryz.pinned (OpenSpec.ofChange bidiMarksWrong)

/-- 'endonymlaw17.BidiPlain': WHATEVER THE INPUT: true; the input reads as it did. -/
def bidiPlainSpec : ChangeSpec := { name := "bidiPlain", fn := fun _ => fun
  | [d1, d2] => { results := [.lit (.bool true)], args := [d1, d2] }
  | _ => none }
def bidiPlainRow : OpenClaim := { program := "ytfoldfaeelggoaagreat", sum := "a064580f37e045b995f2a5192f2c7a0025b488d006a0894b4e198c95c66961e0", func := "endonym/endonymlaw17.BidiPlain", spec := "bidiPlain", inPlace := ["math.Float64bits", "internal/reflectlite.ValueOf", "internal/reflectlite.Swapper", "(internal/reflectlite.Value).Len", "math.Float64frombits"], unfollowed := true, recurses := true, plainKeys := false, apart := false }
def BidiPlainSaid : Prop := bidiPlainRow.holds Tryz.pinned (OpenSpec.ofChange bidiPlainSpec)

/-- ITS FALSE NEIGHBOUR: 'it returns false'. Refute it at one input. -/
def bidiPlainWrong : ChangeSpec := { name := "bidiPlain", fn := fun _ => fun
  | [d1, d2] => { results := [.lit (.bool false)], args := [d1, d2] }
  | _ => none }
def BidiPlainWrongFalsely : Prop := bidiPlainRow.holds Tryz.pinned (OpenSpec.ofChange bidiPlainWrong)

/-- 'endonymlaw9.UcdOpens': WHATEVER THE INPUT: true; the input reads as it did. -/
def ucdOpensSpec : ChangeSpec := { name := "ucdOpens", fn := fun _ => fun
  | [d1, d2] => { results := [.lit (.bool true)], args := [d1, d2] }
  | _ => none }
def ucdOpensRow : OpenClaim := { program := "ytfoldfaeelggoaagreat", sum := "a064580f37e045b995f2a5192f2c7a0025b488d006a0894b4e198c95c66961e0", func := "endonym/endonymlaw9.UcdOpens", spec := "ucdOpens", inPlace := ["math.Float64bits", "internal/reflectlite.ValueOf", "internal/reflectlite.Swapper", "(internal/reflectlite.Value).Len", "math.Float64frombits"], unfollowed := true, recurses := true, plainKeys := false, apart := false }
def UcdOpensSaid : Prop := ucdOpensRow.holds Tryz.pinned (OpenSpec.ofChange ucdOpensSpec)

/-- ITS FALSE NEIGHBOUR: 'it returns false'. Refute it at one input. -/
def ucdOpensWrong : ChangeSpec := { name := "ucdOpens", fn := fun _ => fun
  | [d1, d2] => { results := [.lit (.bool false)], args := [d1, d2] }
  | _ => none }
def UcdOpensWrongFalsely : Prop := ucdOpensRow.holds Tryz.pinned (OpenSpec.ofChange ucdOpensWrong)

/-- 'endonymlaw17.BidiRules': WHATEVER THE INPUT: true; the input reads as it did. -/
def bidiRulesSpec : ChangeSpec := { name := "bidiRules", fn := fun _ => fun
  | [d1, d2] => { results := [.lit (.bool true)], args := [d1, d2] }
  | _ => none }
def bidiRulesRow : OpenClaim := { program := "ytfoldfaeelggoaagreat", sum := "a064580f37e045b995f2a5192f2c7a0025b488d006a0894b4e198c95c66961e0", func := "endonym/endonymlaw17.BidiRules", spec := "bidiRules", inPlace := ["math.Float64bits", "internal/reflectlite.ValueOf", "internal/reflectlite.Swapper", "(internal/reflectlite.Value).Len", "math.Float64frombits"], unfollowed := true, recurses := true, plainKeys := false, apart := false }
def BidiRulesSaid : Prop := bidiRulesRow.holds Tryz.pinned (OpenSpec.ofChange bidiRulesSpec)

/-- ITS FALSE NEIGHBOUR: 'it returns false'. Refute it at one input. -/
def bidiRulesWrong : ChangeSpec := { name := "bidiRules", fn := fun _ => fun
  | [d1, d2] => { results := [.lit (.bool false)], args := [d1, d2] }
  | _ => none }
def BidiRulesWrongFalsely : Prop := bidiRulesRow.holds Tryz.pinned (OpenSpec.ofChange bidiRulesWrong)

/-- 'endonymlaw9.UcdBeyond': WHATEVER THE INPUT: true; the input reads as it did. -/
def ucdBeyondSpec : ChangeSpec := { name := "ucdBeyond", fn := fun _ => fun
  | [d1, d2, d3] => { results := [.lit (.bool true)], args := [d1, d2, d3] }
  | _ => none }
def ucdBeyondRow : OpenClaim := { program := "ytfoldfaeelggoaagreat", sum := "a064580f37e045b995f2a5192f2c7a0025b488d006a0894b4e198c95c66961e0", func := "endonym/endonymlaw9.UcdBeyond", spec := "ucdBeyond", inPlace := ["math.Float64bits", "internal/reflectlite.ValueOf", "internal/reflectlite.Swapper", "(internal/reflectlite.Value).Len", "math.Float64frombits"], unfollowed := true, recurses := true, plainKeys := false, apart := false }
def UcdBeyondSaid : Prop := ucdBeyondRow.holds Tryz.pinned (OpenSpec.ofChange ucdBeyondSpec)

/-- ITS FALSE NEIGHBOUR: 'it returns false'. Refute it at one input. -/
def ucdBeyondWrong : ChangeSpec := { name := "ucdBeyond", fn := fun _ => fun
  | [d1, d2, d3] => { results := [.lit (.bool false)], args := [d1, d2, d3] }
  | _ => none }
def UcdBeyondWrongFalsely : Prop := ucdBeyondRow.holds Tryz.pinned (OpenSpec.ofChange ucdBeyondWrong)

/- THE SECOND FORM. 'bulk': how many values and letters a reading holds, each counted each time it is reached (what is shared counts as often as it is met; a slice's spare places count too). A statement '..UptoSaid' is the law's where the arguments, and the package variables that the reading takes, are together of bulk at most 1048576: NARROWER than '..Said'. Prove '..Said' where nothing that the law and all that it calls make is longer than what came in: it says more and counts as full. Else prove '..UptoSaid'. A law counts once. -/
mutual
def uptoBulk {H : Type} : DataW H → Nat
  | .lit (.string bytes) => bytes.length + 1
  | .lit _ => 1
  | .nil => 1
  | .ptr d => uptoBulk d + 1
  | .slice elems spare => uptoBulkAll elems + uptoBulkAll spare + 1
  | .agg parts => uptoBulkAll parts + 1
  | .iface _ d => uptoBulk d + 1
  | .map entries => uptoBulkEntries entries + 1
  | .held _ => 1
def uptoBulkAll {H : Type} : List (DataW H) → Nat
  | [] => 0
  | d :: r => uptoBulk d + uptoBulkAll r
def uptoBulkEntries {H : Type} : List (Lit × DataW H) → Nat
  | [] => 0
  | x :: r => uptoBulkEntry x + uptoBulkEntries r
def uptoBulkEntry {H : Type} : Lit × DataW H → Nat
  | (.string bytes, d) => bytes.length + uptoBulk d + 1
  | (_, d) => uptoBulk d + 1
 end
def uptoSmall : (H : Type) → List (DataW H) → Bool := fun _ ds => decide (uptoBulkAll ds ≤ 1048576)
def OpenSpec.upto (s : _root_.Go.ChangeSpec) : _root_.Go.OpenSpec := { _root_.Go.OpenSpec.ofChange s with cond := some uptoSmall }

/-- 'endonymlaw9.UcdWeighs', WHERE WHAT IT READS IS OF BULK AT MOST 1048576: true; the input reads as it did. -/
def ucdWeighsUptoRow : OpenClaim := { program := "ytfoldfaeelggoaagreat", sum := "a064580f37e045b995f2a5192f2c7a0025b488d006a0894b4e198c95c66961e0", func := "endonym/endonymlaw9.UcdWeighs", spec := "ucdWeighs", inPlace := ["math.Float64bits", "internal/reflectlite.ValueOf", "internal/reflectlite.Swapper", "(internal/reflectlite.Value).Len", "math.Float64frombits"], unfollowed := true, recurses := true, plainKeys := false, apart := false, narrowed := true }
def UcdWeighsUptoSaid : Prop := ucdWeighsUptoRow.holds Tryz.pinned (OpenSpec.upto ucdWeighsSpec)

/-- 'endonymlaw16.JoinerFits', WHERE WHAT IT READS IS OF BULK AT MOST 1048576: true; the input reads as it did. -/
def joinerFitsUptoRow : OpenClaim := { program := "ytfoldfaeelggoaagreat", sum := "a064580f37e045b995f2a5192f2c7a0025b488d006a0894b4e198c95c66961e0", func := "endonym/endonymlaw16.JoinerFits", spec := "joinerFits", inPlace := ["math.Float64bits", "internal/reflectlite.ValueOf", "internal/reflectlite.Swapper", "(internal/reflectlite.Value).Len", "math.Float64frombits"], unfollowed := true, recurses := true, plainKeys := false, apart := false, narrowed := true }
def JoinerFitsUptoSaid : Prop := joinerFitsUptoRow.holds Tryz.pinned (OpenSpec.upto joinerFitsSpec)

/-- 'endonymlaw16.JoinerNear', WHERE WHAT IT READS IS OF BULK AT MOST 1048576: true; the input reads as it did. -/
def joinerNearUptoRow : OpenClaim := { program := "ytfoldfaeelggoaagreat", sum := "a064580f37e045b995f2a5192f2c7a0025b488d006a0894b4e198c95c66961e0", func := "endonym/endonymlaw16.JoinerNear", spec := "joinerNear", inPlace := ["math.Float64bits", "internal/reflectlite.ValueOf", "internal/reflectlite.Swapper", "(internal/reflectlite.Value).Len", "math.Float64frombits"], unfollowed := true, recurses := true, plainKeys := false, apart := false, narrowed := true }
def JoinerNearUptoSaid : Prop := joinerNearUptoRow.holds Tryz.pinned (OpenSpec.upto joinerNearSpec)

/-- 'endonymlaw16.JoinerFree', WHERE WHAT IT READS IS OF BULK AT MOST 1048576: true; the input reads as it did. -/
def joinerFreeUptoRow : OpenClaim := { program := "ytfoldfaeelggoaagreat", sum := "a064580f37e045b995f2a5192f2c7a0025b488d006a0894b4e198c95c66961e0", func := "endonym/endonymlaw16.JoinerFree", spec := "joinerFree", inPlace := ["math.Float64bits", "internal/reflectlite.ValueOf", "internal/reflectlite.Swapper", "(internal/reflectlite.Value).Len", "math.Float64frombits"], unfollowed := true, recurses := true, plainKeys := false, apart := false, narrowed := true }
def JoinerFreeUptoSaid : Prop := joinerFreeUptoRow.holds Tryz.pinned (OpenSpec.upto joinerFreeSpec)

/-- 'endonymlaw9.UcdTells', WHERE WHAT IT READS IS OF BULK AT MOST 1048576: true; the input reads as it did. -/
def ucdTellsUptoRow : OpenClaim := { program := "ytfoldfaeelggoaagreat", sum := "a064580f37e045b995f2a5192f2c7a0025b488d006a0894b4e198c95c66961e0", func := "endonym/endonymlaw9.UcdTells", spec := "ucdTells", inPlace := ["math.Float64bits", "internal/reflectlite.ValueOf", "internal/reflectlite.Swapper", "(internal/reflectlite.Value).Len", "math.Float64frombits"], unfollowed := true, recurses := true, plainKeys := false, apart := false, narrowed := true }
def UcdTellsUptoSaid : Prop := ucdTellsUptoRow.holds Tryz.pinned (OpenSpec.upto ucdTellsSpec)

/-- 'endonymlaw9.UcdTries', WHERE WHAT IT READS IS OF BULK AT MOST 1048576: true; the input reads as it did. -/
def ucdTriesUptoRow : OpenClaim := { program := "ytfoldfaeelggoaagreat", sum := "a064580f37e045b995f2a5192f2c7a0025b488d006a0894b4e198c95c66961e0", func := "endonym/endonymlaw9.UcdTries", spec := "ucdTries", inPlace := ["math.Float64bits", "internal/reflectlite.ValueOf", "internal/reflectlite.Swapper", "(internal/reflectlite.Value).Len", "math.Float64frombits"], unfollowed := true, recurses := true, plainKeys := false, apart := false, narrowed := true }
def UcdTriesUptoSaid : Prop := ucdTriesUptoRow.holds Tryz.pinned (OpenSpec.upto ucdTriesSpec)

/-- 'endonymlaw9.UcdPairs', WHERE WHAT IT READS IS OF BULK AT MOST 1048576: true; the input reads as it did. -/
def ucdPairsUptoRow : OpenClaim := { program := "ytfoldfaeelggoaagreat", sum := "a064580f37e045b995f2a5192f2c7a0025b488d006a0894b4e198c95c66961e0", func := "endonym/endonymlaw9.UcdPairs", spec := "ucdPairs", inPlace := ["math.Float64bits", "internal/reflectlite.ValueOf", "internal/reflectlite.Swapper", "(internal/reflectlite.Value).Len", "math.Float64frombits"], unfollowed := true, recurses := true, plainKeys := false, apart := false, narrowed := true }
def UcdPairsUptoSaid : Prop := ucdPairsUptoRow.holds Tryz.pinned (OpenSpec.upto ucdPairsSpec)

/-- 'endonymlaw17.BidiMarks', WHERE WHAT IT READS IS OF BULK AT MOST 1048576: true; the input reads as it did. -/
def bidiMarksUptoRow : OpenClaim := { program := "ytfoldfaeelggoaagreat", sum := "a064580f37e045b995f2a5192f2c7a0025b488d006a0894b4e198c95c66961e0", func := "endonym/endonymlaw17.BidiMarks", spec := "bidiMarks", inPlace := ["math.Float64bits", "internal/reflectlite.ValueOf", "internal/reflectlite.Swapper", "(internal/reflectlite.Value).Len", "math.Float64frombits"], unfollowed := true, recurses := true, plainKeys := false, apart := false, narrowed := true }
def BidiMarksUptoSaid : Prop := bidiMarksUptoRow.holds Tryz.pinned (OpenSpec.upto bidiMarksSpec)

/-- 'endonymlaw17.BidiPlain', WHERE WHAT IT READS IS OF BULK AT MOST 1048576: true; the input reads as it did. -/
def bidiPlainUptoRow : OpenClaim := { program := "ytfoldfaeelggoaagreat", sum := "a064580f37e045b995f2a5192f2c7a0025b488d006a0894b4e198c95c66961e0", func := "endonym/endonymlaw17.BidiPlain", spec := "bidiPlain", inPlace := ["math.Float64bits", "internal/reflectlite.ValueOf", "internal/reflectlite.Swapper", "(internal/reflectlite.Value).Len", "math.Float64frombits"], unfollowed := true, recurses := true, plainKeys := false, apart := false, narrowed := true }
def BidiPlainUptoSaid : Prop := bidiPlainUptoRow.holds Tryz.pinned (OpenSpec.upto bidiPlainSpec)

/-- 'endonymlaw9.UcdOpens', WHERE WHAT IT READS IS OF BULK AT MOST 1048576: true; the input reads as it did. -/
def ucdOpensUptoRow : OpenClaim := { program := "ytfoldfaeelggoaagreat", sum := "a064580f37e045b995f2a5192f2c7a0025b488d006a0894b4e198c95c66961e0", func := "endonym/endonymlaw9.UcdOpens", spec := "ucdOpens", inPlace := ["math.Float64bits", "internal/reflectlite.ValueOf", "internal/reflectlite.Swapper", "(internal/reflectlite.Value).Len", "math.Float64frombits"], unfollowed := true, recurses := true, plainKeys := false, apart := false, narrowed := true }
def UcdOpensUptoSaid : Prop := ucdOpensUptoRow.holds Tryz.pinned (OpenSpec.upto ucdOpensSpec)

/-- 'endonymlaw17.BidiRules', WHERE WHAT IT READS IS OF BULK AT MOST 1048576: true; the input reads as it did. -/
def bidiRulesUptoRow : OpenClaim := { program := "ytfoldfaeelggoaagreat", sum := "a064580f37e045b995f2a5192f2c7a0025b488d006a0894b4e198c95c66961e0", func := "endonym/endonymlaw17.BidiRules", spec := "bidiRules", inPlace := ["math.Float64bits", "internal/reflectlite.ValueOf", "internal/reflectlite.Swapper", "(internal/reflectlite.Value).Len", "math.Float64frombits"], unfollowed := true, recurses := true, plainKeys := false, apart := false, narrowed := true }
def BidiRulesUptoSaid : Prop := bidiRulesUptoRow.holds Tryz.pinned (OpenSpec.upto bidiRulesSpec)

/-- 'endonymlaw9.UcdBeyond', WHERE WHAT IT READS IS OF BULK AT MOST 1048576: true; the input reads as it did. -/
def ucdBeyondUptoRow : OpenClaim := { program := "ytfoldfaeelggoaagreat", sum := "a064580f37e045b995f2a5192f2c7a0025b488d006a0894b4e198c95c66961e0", func := "endonym/endonymlaw9.UcdBeyond", spec := "ucdBeyond", inPlace := ["math.Float64bits", "internal/reflectlite.ValueOf", "internal/reflectlite.Swapper", "(internal/reflectlite.Value).Len", "math.Float64frombits"], unfollowed := true, recurses := true, plainKeys := false, apart := false, narrowed := true }
def UcdBeyondUptoSaid : Prop := ucdBeyondUptoRow.holds Tryz.pinned (OpenSpec.upto ucdBeyondSpec)

end Rows
end Go.Proofs.YtfoldfaeelggoaaGreat
