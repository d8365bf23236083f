/-
  No cell of these rows narrows 'for every input' (looked for: loops, veiled, ifaces, maps, wideKeys, modest, calm, conditions, laid).
  DERIVED. THE GIVEN ROWS OF THIS SEAT. 17 by the template 'for every input the law returns true; each argument reads behind the call as it read before'; 0 by the template 'total and deterministic' (their statements: YthneeainigdmhaaGreatTotals.lean).
  GIVEN WITH THE SEED: the statements are not yours to turn. If you find one false, say at which input.
  Laid BY PROGRAM, IN A SANDBOX (cutbox-rows.mjs): the forced cells as the released guide's own fill.sh prints them over the translation d2aa5393be1444b9… (all of the seat's roots in one cut). By AI agents, Wed Nov 11 2026. No macro, syntax, notation, axiom, sorry.
-/
import Derived.Test.YthneeainigdmhaaGreatChecked
import GoSem.Claim
import GoSem.ClaimJoined
import GoSem.ClaimMapViews
import Derived.JoinedTies
import Derived.KernelRfl
namespace Go.Proofs.YthneeainigdmhaaGreat
/- THE CELL 'sum', in the pinned program and in every row, IS THE sha256 OF THE DUMP (.gsa) THAT YthneeainigdmhaaGreatProg.lean LOADS. Nothing in Lean hashes anything: it is a label: what it is worth is what the hold of that sum in a sandbox is worth. -/
noncomputable def Tryz.pinned : Pinned := { name := "ythneeainigdmhaagreat", sum := "d2aa5393be1444b975f37d0bccecde8f66aa4553f6f8d178a531500d1b1f2a3c", checked := Tryz.checked }
namespace Rows
def none {H : Type} : Left H := { results := [], args := [] }

/-- 'endonymlaw16.JoinerNear': WHATEVER THE INPUT: true; the input reads as it did. -/
def joinerNearSpec : ChangeSpec := { name := "joinerNear", fn := fun _ => fun
  | [d1, d2, d3, d4, d5] => { results := [.lit (.bool true)], args := [d1, d2, d3, d4, d5] }
  | _ => none }
def joinerNearRow : OpenClaim := { program := "ythneeainigdmhaagreat", sum := "d2aa5393be1444b975f37d0bccecde8f66aa4553f6f8d178a531500d1b1f2a3c", func := "endonym/endonymlaw16.JoinerNear", spec := "joinerNear", inPlace := ["math.Float64bits", "internal/reflectlite.ValueOf", "internal/reflectlite.Swapper", "(internal/reflectlite.Value).Len", "math.Float64frombits"], unfollowed := true, recurses := true, plainKeys := false, apart := false }
def JoinerNearSaid : Prop := joinerNearRow.holds Tryz.pinned (OpenSpec.ofChange joinerNearSpec)

/-- ITS FALSE NEIGHBOUR: 'it returns false'. Refute it at one input. -/
def joinerNearWrong : ChangeSpec := { name := "joinerNear", fn := fun _ => fun
  | [d1, d2, d3, d4, d5] => { results := [.lit (.bool false)], args := [d1, d2, d3, d4, d5] }
  | _ => none }
def JoinerNearWrongFalsely : Prop := joinerNearRow.holds Tryz.pinned (OpenSpec.ofChange joinerNearWrong)

/-- 'endonymlaw9.UcdTells': WHATEVER THE INPUT: true; the input reads as it did. -/
def ucdTellsSpec : ChangeSpec := { name := "ucdTells", fn := fun _ => fun
  | [d1, d2] => { results := [.lit (.bool true)], args := [d1, d2] }
  | _ => none }
def ucdTellsRow : OpenClaim := { program := "ythneeainigdmhaagreat", sum := "d2aa5393be1444b975f37d0bccecde8f66aa4553f6f8d178a531500d1b1f2a3c", func := "endonym/endonymlaw9.UcdTells", spec := "ucdTells", inPlace := ["math.Float64bits", "internal/reflectlite.ValueOf", "internal/reflectlite.Swapper", "(internal/reflectlite.Value).Len", "math.Float64frombits"], unfollowed := true, recurses := true, plainKeys := false, apart := false }
def UcdTellsSaid : Prop := ucdTellsRow.holds Tryz.pinned (OpenSpec.ofChange ucdTellsSpec)

/-- ITS FALSE NEIGHBOUR: 'it returns false'. Refute it at one input. -/
def ucdTellsWrong : ChangeSpec := { name := "ucdTells", fn := fun _ => fun
  | [d1, d2] => { results := [.lit (.bool false)], args := [d1, d2] }
  | _ => none }
def UcdTellsWrongFalsely : Prop := ucdTellsRow.holds Tryz.pinned (OpenSpec.ofChange ucdTellsWrong)

/-- 'endonymlaw9.UcdPairs': WHATEVER THE INPUT: true; the input reads as it did. -/
def ucdPairsSpec : ChangeSpec := { name := "ucdPairs", fn := fun _ => fun
  | [d1, d2] => { results := [.lit (.bool true)], args := [d1, d2] }
  | _ => none }
def ucdPairsRow : OpenClaim := { program := "ythneeainigdmhaagreat", sum := "d2aa5393be1444b975f37d0bccecde8f66aa4553f6f8d178a531500d1b1f2a3c", func := "endonym/endonymlaw9.UcdPairs", spec := "ucdPairs", inPlace := ["math.Float64bits", "internal/reflectlite.ValueOf", "internal/reflectlite.Swapper", "(internal/reflectlite.Value).Len", "math.Float64frombits"], unfollowed := true, recurses := true, plainKeys := false, apart := false }
def UcdPairsSaid : Prop := ucdPairsRow.holds Tryz.pinned (OpenSpec.ofChange ucdPairsSpec)

/-- ITS FALSE NEIGHBOUR: 'it returns false'. Refute it at one input. -/
def ucdPairsWrong : ChangeSpec := { name := "ucdPairs", fn := fun _ => fun
  | [d1, d2] => { results := [.lit (.bool false)], args := [d1, d2] }
  | _ => none }
def UcdPairsWrongFalsely : Prop := ucdPairsRow.holds Tryz.pinned (OpenSpec.ofChange ucdPairsWrong)

/-- 'endonymlaw17.BidiMarks': WHATEVER THE INPUT: true; the input reads as it did. -/
def bidiMarksSpec : ChangeSpec := { name := "bidiMarks", fn := fun _ => fun
  | [d1, d2, d3] => { results := [.lit (.bool true)], args := [d1, d2, d3] }
  | _ => none }
def bidiMarksRow : OpenClaim := { program := "ythneeainigdmhaagreat", sum := "d2aa5393be1444b975f37d0bccecde8f66aa4553f6f8d178a531500d1b1f2a3c", func := "endonym/endonymlaw17.BidiMarks", spec := "bidiMarks", inPlace := ["math.Float64bits", "internal/reflectlite.ValueOf", "internal/reflectlite.Swapper", "(internal/reflectlite.Value).Len", "math.Float64frombits"], unfollowed := true, recurses := true, plainKeys := false, apart := false }
def BidiMarksSaid : Prop := bidiMarksRow.holds Tryz.pinned (OpenSpec.ofChange bidiMarksSpec)

/-- ITS FALSE NEIGHBOUR: 'it returns false'. Refute it at one input. -/
def bidiMarksWrong : ChangeSpec := { name := "bidiMarks", fn := fun _ => fun
  | [d1, d2, d3] => { results := [.lit (.bool false)], args := [d1, d2, d3] }
  | _ => none }
def BidiMarksWrongFalsely : Prop := bidiMarksRow.holds Tryz.pinned (OpenSpec.ofChange bidiMarksWrong)

/-- 'endonymlaw17.BidiPlain': WHATEVER THE INPUT: true; the input reads as it did. -/
def bidiPlainSpec : ChangeSpec := { name := "bidiPlain", fn := fun _ => fun
  | [d1, d2] => { results := [.lit (.bool true)], args := [d1, d2] }
  | _ => none }
def bidiPlainRow : OpenClaim := { program := "ythneeainigdmhaagreat", sum := "d2aa5393be1444b975f37d0bccecde8f66aa4553f6f8d178a531500d1b1f2a3c", func := "endonym/endonymlaw17.BidiPlain", spec := "bidiPlain", inPlace := ["math.Float64bits", "internal/reflectlite.ValueOf", "internal/reflectlite.Swapper", "(internal/reflectlite.Value).Len", "math.Float64frombits"], unfollowed := true, recurses := true, plainKeys := false, apart := false }
def BidiPlainSaid : Prop := bidiPlainRow.holds Tryz.pinned (OpenSpec.ofChange bidiPlainSpec)

/-- ITS FALSE NEIGHBOUR: 'it returns false'. Refute it at one input. -/
def bidiPlainWrong : ChangeSpec := { name := "bidiPlain", fn := fun _ => fun
  | [d1, d2] => { results := [.lit (.bool false)], args := [d1, d2] }
  | _ => none }
def BidiPlainWrongFalsely : Prop := bidiPlainRow.holds Tryz.pinned (OpenSpec.ofChange bidiPlainWrong)

/-- 'endonymlaw9.UcdOpens': WHATEVER THE INPUT: true; the input reads as it did. -/
def ucdOpensSpec : ChangeSpec := { name := "ucdOpens", fn := fun _ => fun
  | [d1, d2] => { results := [.lit (.bool true)], args := [d1, d2] }
  | _ => none }
def ucdOpensRow : OpenClaim := { program := "ythneeainigdmhaagreat", sum := "d2aa5393be1444b975f37d0bccecde8f66aa4553f6f8d178a531500d1b1f2a3c", func := "endonym/endonymlaw9.UcdOpens", spec := "ucdOpens", inPlace := ["math.Float64bits", "internal/reflectlite.ValueOf", "internal/reflectlite.Swapper", "(internal/reflectlite.Value).Len", "math.Float64frombits"], unfollowed := true, recurses := true, plainKeys := false, apart := false }
def UcdOpensSaid : Prop := ucdOpensRow.holds Tryz.pinned (OpenSpec.ofChange ucdOpensSpec)

/-- ITS FALSE NEIGHBOUR: 'it returns false'. Refute it at one input. -/
def ucdOpensWrong : ChangeSpec := { name := "ucdOpens", fn := fun _ => fun
  | [d1, d2] => { results := [.lit (.bool false)], args := [d1, d2] }
  | _ => none }
def UcdOpensWrongFalsely : Prop := ucdOpensRow.holds Tryz.pinned (OpenSpec.ofChange ucdOpensWrong)

/-- 'endonymlaw17.BidiRules': WHATEVER THE INPUT: true; the input reads as it did. -/
def bidiRulesSpec : ChangeSpec := { name := "bidiRules", fn := fun _ => fun
  | [d1, d2] => { results := [.lit (.bool true)], args := [d1, d2] }
  | _ => none }
def bidiRulesRow : OpenClaim := { program := "ythneeainigdmhaagreat", sum := "d2aa5393be1444b975f37d0bccecde8f66aa4553f6f8d178a531500d1b1f2a3c", func := "endonym/endonymlaw17.BidiRules", spec := "bidiRules", inPlace := ["math.Float64bits", "internal/reflectlite.ValueOf", "internal/reflectlite.Swapper", "(internal/reflectlite.Value).Len", "math.Float64frombits"], unfollowed := true, recurses := true, plainKeys := false, apart := false }
def BidiRulesSaid : Prop := bidiRulesRow.holds Tryz.pinned (OpenSpec.ofChange bidiRulesSpec)

/-- ITS FALSE NEIGHBOUR: 'it returns false'. Refute it at one input. -/
def bidiRulesWrong : ChangeSpec := { name := "bidiRules", fn := fun _ => fun
  | [d1, d2] => { results := [.lit (.bool false)], args := [d1, d2] }
  | _ => none }
def BidiRulesWrongFalsely : Prop := bidiRulesRow.holds Tryz.pinned (OpenSpec.ofChange bidiRulesWrong)

/-- 'endonymlaw9.UcdBeyond': WHATEVER THE INPUT: true; the input reads as it did. -/
def ucdBeyondSpec : ChangeSpec := { name := "ucdBeyond", fn := fun _ => fun
  | [d1, d2, d3] => { results := [.lit (.bool true)], args := [d1, d2, d3] }
  | _ => none }
def ucdBeyondRow : OpenClaim := { program := "ythneeainigdmhaagreat", sum := "d2aa5393be1444b975f37d0bccecde8f66aa4553f6f8d178a531500d1b1f2a3c", func := "endonym/endonymlaw9.UcdBeyond", spec := "ucdBeyond", inPlace := ["math.Float64bits", "internal/reflectlite.ValueOf", "internal/reflectlite.Swapper", "(internal/reflectlite.Value).Len", "math.Float64frombits"], unfollowed := true, recurses := true, plainKeys := false, apart := false }
def UcdBeyondSaid : Prop := ucdBeyondRow.holds Tryz.pinned (OpenSpec.ofChange ucdBeyondSpec)

/-- ITS FALSE NEIGHBOUR: 'it returns false'. Refute it at one input. -/
def ucdBeyondWrong : ChangeSpec := { name := "ucdBeyond", fn := fun _ => fun
  | [d1, d2, d3] => { results := [.lit (.bool false)], args := [d1, d2, d3] }
  | _ => none }
def UcdBeyondWrongFalsely : Prop := ucdBeyondRow.holds Tryz.pinned (OpenSpec.ofChange ucdBeyondWrong)

/-- 'endonymlaw15.RemapMaps': WHATEVER THE INPUT: true; the input reads as it did. -/
def remapMapsSpec : ChangeSpec := { name := "remapMaps", fn := fun _ => fun
  | [d1, d2, d3] => { results := [.lit (.bool true)], args := [d1, d2, d3] }
  | _ => none }
def remapMapsRow : OpenClaim := { program := "ythneeainigdmhaagreat", sum := "d2aa5393be1444b975f37d0bccecde8f66aa4553f6f8d178a531500d1b1f2a3c", func := "endonym/endonymlaw15.RemapMaps", spec := "remapMaps", inPlace := ["math.Float64bits", "internal/reflectlite.ValueOf", "internal/reflectlite.Swapper", "(internal/reflectlite.Value).Len", "math.Float64frombits"], unfollowed := true, recurses := true, plainKeys := false, apart := false }
def RemapMapsSaid : Prop := remapMapsRow.holds Tryz.pinned (OpenSpec.ofChange remapMapsSpec)

/-- ITS FALSE NEIGHBOUR: 'it returns false'. Refute it at one input. -/
def remapMapsWrong : ChangeSpec := { name := "remapMaps", fn := fun _ => fun
  | [d1, d2, d3] => { results := [.lit (.bool false)], args := [d1, d2, d3] }
  | _ => none }
def RemapMapsWrongFalsely : Prop := remapMapsRow.holds Tryz.pinned (OpenSpec.ofChange remapMapsWrong)

/-- 'endonymlaw15.RemapParts': WHATEVER THE INPUT: true; the input reads as it did. -/
def remapPartsSpec : ChangeSpec := { name := "remapParts", fn := fun _ => fun
  | [d1, d2, d3, d4] => { results := [.lit (.bool true)], args := [d1, d2, d3, d4] }
  | _ => none }
def remapPartsRow : OpenClaim := { program := "ythneeainigdmhaagreat", sum := "d2aa5393be1444b975f37d0bccecde8f66aa4553f6f8d178a531500d1b1f2a3c", func := "endonym/endonymlaw15.RemapParts", spec := "remapParts", inPlace := ["math.Float64bits", "internal/reflectlite.ValueOf", "internal/reflectlite.Swapper", "(internal/reflectlite.Value).Len", "math.Float64frombits"], unfollowed := true, recurses := true, plainKeys := false, apart := false }
def RemapPartsSaid : Prop := remapPartsRow.holds Tryz.pinned (OpenSpec.ofChange remapPartsSpec)

/-- ITS FALSE NEIGHBOUR: 'it returns false'. Refute it at one input. -/
def remapPartsWrong : ChangeSpec := { name := "remapParts", fn := fun _ => fun
  | [d1, d2, d3, d4] => { results := [.lit (.bool false)], args := [d1, d2, d3, d4] }
  | _ => none }
def RemapPartsWrongFalsely : Prop := remapPartsRow.holds Tryz.pinned (OpenSpec.ofChange remapPartsWrong)

/-- 'endonymlaw15.RemapJoins': WHATEVER THE INPUT: true; the input reads as it did. -/
def remapJoinsSpec : ChangeSpec := { name := "remapJoins", fn := fun _ => fun
  | [d1, d2, d3, d4] => { results := [.lit (.bool true)], args := [d1, d2, d3, d4] }
  | _ => none }
def remapJoinsRow : OpenClaim := { program := "ythneeainigdmhaagreat", sum := "d2aa5393be1444b975f37d0bccecde8f66aa4553f6f8d178a531500d1b1f2a3c", func := "endonym/endonymlaw15.RemapJoins", spec := "remapJoins", inPlace := ["math.Float64bits", "internal/reflectlite.ValueOf", "internal/reflectlite.Swapper", "(internal/reflectlite.Value).Len", "math.Float64frombits"], unfollowed := true, recurses := true, plainKeys := false, apart := false }
def RemapJoinsSaid : Prop := remapJoinsRow.holds Tryz.pinned (OpenSpec.ofChange remapJoinsSpec)

/-- ITS FALSE NEIGHBOUR: 'it returns false'. Refute it at one input. -/
def remapJoinsWrong : ChangeSpec := { name := "remapJoins", fn := fun _ => fun
  | [d1, d2, d3, d4] => { results := [.lit (.bool false)], args := [d1, d2, d3, d4] }
  | _ => none }
def RemapJoinsWrongFalsely : Prop := remapJoinsRow.holds Tryz.pinned (OpenSpec.ofChange remapJoinsWrong)

/-- 'endonymlaw15.RemapLong': WHATEVER THE INPUT: true; the input reads as it did. -/
def remapLongSpec : ChangeSpec := { name := "remapLong", fn := fun _ => fun
  | [d1, d2] => { results := [.lit (.bool true)], args := [d1, d2] }
  | _ => none }
def remapLongRow : OpenClaim := { program := "ythneeainigdmhaagreat", sum := "d2aa5393be1444b975f37d0bccecde8f66aa4553f6f8d178a531500d1b1f2a3c", func := "endonym/endonymlaw15.RemapLong", spec := "remapLong", inPlace := ["math.Float64bits", "internal/reflectlite.ValueOf", "internal/reflectlite.Swapper", "(internal/reflectlite.Value).Len", "math.Float64frombits"], unfollowed := true, recurses := true, plainKeys := false, apart := false }
def RemapLongSaid : Prop := remapLongRow.holds Tryz.pinned (OpenSpec.ofChange remapLongSpec)

/-- ITS FALSE NEIGHBOUR: 'it returns false'. Refute it at one input. -/
def remapLongWrong : ChangeSpec := { name := "remapLong", fn := fun _ => fun
  | [d1, d2] => { results := [.lit (.bool false)], args := [d1, d2] }
  | _ => none }
def RemapLongWrongFalsely : Prop := remapLongRow.holds Tryz.pinned (OpenSpec.ofChange remapLongWrong)

/-- 'endonymlaw12.OrderJoins': WHATEVER THE INPUT: true; the input reads as it did. -/
def orderJoinsSpec : ChangeSpec := { name := "orderJoins", fn := fun _ => fun
  | [d1, d2, d3] => { results := [.lit (.bool true)], args := [d1, d2, d3] }
  | _ => none }
def orderJoinsRow : OpenClaim := { program := "ythneeainigdmhaagreat", sum := "d2aa5393be1444b975f37d0bccecde8f66aa4553f6f8d178a531500d1b1f2a3c", func := "endonym/endonymlaw12.OrderJoins", spec := "orderJoins", inPlace := ["math.Float64bits", "internal/reflectlite.ValueOf", "internal/reflectlite.Swapper", "(internal/reflectlite.Value).Len", "math.Float64frombits"], unfollowed := true, recurses := true, plainKeys := false, apart := false }
def OrderJoinsSaid : Prop := orderJoinsRow.holds Tryz.pinned (OpenSpec.ofChange orderJoinsSpec)

/-- ITS FALSE NEIGHBOUR: 'it returns false'. Refute it at one input. -/
def orderJoinsWrong : ChangeSpec := { name := "orderJoins", fn := fun _ => fun
  | [d1, d2, d3] => { results := [.lit (.bool false)], args := [d1, d2, d3] }
  | _ => none }
def OrderJoinsWrongFalsely : Prop := orderJoinsRow.holds Tryz.pinned (OpenSpec.ofChange orderJoinsWrong)

/-- 'endonymlaw12.OrderLong': WHATEVER THE INPUT: true; the input reads as it did. -/
def orderLongSpec : ChangeSpec := { name := "orderLong", fn := fun _ => fun
  | [d1, d2] => { results := [.lit (.bool true)], args := [d1, d2] }
  | _ => none }
def orderLongRow : OpenClaim := { program := "ythneeainigdmhaagreat", sum := "d2aa5393be1444b975f37d0bccecde8f66aa4553f6f8d178a531500d1b1f2a3c", func := "endonym/endonymlaw12.OrderLong", spec := "orderLong", inPlace := ["math.Float64bits", "internal/reflectlite.ValueOf", "internal/reflectlite.Swapper", "(internal/reflectlite.Value).Len", "math.Float64frombits"], unfollowed := true, recurses := true, plainKeys := false, apart := false }
def OrderLongSaid : Prop := orderLongRow.holds Tryz.pinned (OpenSpec.ofChange orderLongSpec)

/-- ITS FALSE NEIGHBOUR: 'it returns false'. Refute it at one input. -/
def orderLongWrong : ChangeSpec := { name := "orderLong", fn := fun _ => fun
  | [d1, d2] => { results := [.lit (.bool false)], args := [d1, d2] }
  | _ => none }
def OrderLongWrongFalsely : Prop := orderLongRow.holds Tryz.pinned (OpenSpec.ofChange orderLongWrong)

/-- 'endonymlaw12.OrderOpens': WHATEVER THE INPUT: true; the input reads as it did. -/
def orderOpensSpec : ChangeSpec := { name := "orderOpens", fn := fun _ => fun
  | [d1, d2] => { results := [.lit (.bool true)], args := [d1, d2] }
  | _ => none }
def orderOpensRow : OpenClaim := { program := "ythneeainigdmhaagreat", sum := "d2aa5393be1444b975f37d0bccecde8f66aa4553f6f8d178a531500d1b1f2a3c", func := "endonym/endonymlaw12.OrderOpens", spec := "orderOpens", inPlace := ["math.Float64bits", "internal/reflectlite.ValueOf", "internal/reflectlite.Swapper", "(internal/reflectlite.Value).Len", "math.Float64frombits"], unfollowed := true, recurses := true, plainKeys := false, apart := false }
def OrderOpensSaid : Prop := orderOpensRow.holds Tryz.pinned (OpenSpec.ofChange orderOpensSpec)

/-- ITS FALSE NEIGHBOUR: 'it returns false'. Refute it at one input. -/
def orderOpensWrong : ChangeSpec := { name := "orderOpens", fn := fun _ => fun
  | [d1, d2] => { results := [.lit (.bool false)], args := [d1, d2] }
  | _ => none }
def OrderOpensWrongFalsely : Prop := orderOpensRow.holds Tryz.pinned (OpenSpec.ofChange orderOpensWrong)

/-- 'endonymlaw12.OrderAgain': WHATEVER THE INPUT: true; the input reads as it did. -/
def orderAgainSpec : ChangeSpec := { name := "orderAgain", fn := fun _ => fun
  | [d1, d2] => { results := [.lit (.bool true)], args := [d1, d2] }
  | _ => none }
def orderAgainRow : OpenClaim := { program := "ythneeainigdmhaagreat", sum := "d2aa5393be1444b975f37d0bccecde8f66aa4553f6f8d178a531500d1b1f2a3c", func := "endonym/endonymlaw12.OrderAgain", spec := "orderAgain", inPlace := ["math.Float64bits", "internal/reflectlite.ValueOf", "internal/reflectlite.Swapper", "(internal/reflectlite.Value).Len", "math.Float64frombits"], unfollowed := true, recurses := true, plainKeys := false, apart := false }
def OrderAgainSaid : Prop := orderAgainRow.holds Tryz.pinned (OpenSpec.ofChange orderAgainSpec)

/-- ITS FALSE NEIGHBOUR: 'it returns false'. Refute it at one input. -/
def orderAgainWrong : ChangeSpec := { name := "orderAgain", fn := fun _ => fun
  | [d1, d2] => { results := [.lit (.bool false)], args := [d1, d2] }
  | _ => none }
def OrderAgainWrongFalsely : Prop := orderAgainRow.holds Tryz.pinned (OpenSpec.ofChange orderAgainWrong)

/-- 'endonymlaw12.OrderSame': WHATEVER THE INPUT: true; the input reads as it did. -/
def orderSameSpec : ChangeSpec := { name := "orderSame", fn := fun _ => fun
  | [d1, d2, d3] => { results := [.lit (.bool true)], args := [d1, d2, d3] }
  | _ => none }
def orderSameRow : OpenClaim := { program := "ythneeainigdmhaagreat", sum := "d2aa5393be1444b975f37d0bccecde8f66aa4553f6f8d178a531500d1b1f2a3c", func := "endonym/endonymlaw12.OrderSame", spec := "orderSame", inPlace := ["math.Float64bits", "internal/reflectlite.ValueOf", "internal/reflectlite.Swapper", "(internal/reflectlite.Value).Len", "math.Float64frombits"], unfollowed := true, recurses := true, plainKeys := false, apart := false }
def OrderSameSaid : Prop := orderSameRow.holds Tryz.pinned (OpenSpec.ofChange orderSameSpec)

/-- ITS FALSE NEIGHBOUR: 'it returns false'. Refute it at one input. -/
def orderSameWrong : ChangeSpec := { name := "orderSame", fn := fun _ => fun
  | [d1, d2, d3] => { results := [.lit (.bool false)], args := [d1, d2, d3] }
  | _ => none }
def OrderSameWrongFalsely : Prop := orderSameRow.holds Tryz.pinned (OpenSpec.ofChange orderSameWrong)

/- THE SECOND FORM. 'bulk': how many values and letters a reading holds, each counted each time it is reached (what is shared counts as often as it is met; a slice's spare places count too). A statement '..UptoSaid' is the law's where the arguments, and the package variables that the reading takes, are together of bulk at most 1048576: NARROWER than '..Said'. Prove '..Said' where nothing that the law and all that it calls make is longer than what came in: it says more and counts as full. Else prove '..UptoSaid'. A law counts once. -/
mutual
def uptoBulk {H : Type} : DataW H → Nat
  | .lit (.string bytes) => bytes.length + 1
  | .lit _ => 1
  | .nil => 1
  | .ptr d => uptoBulk d + 1
  | .slice elems spare => uptoBulkAll elems + uptoBulkAll spare + 1
  | .agg parts => uptoBulkAll parts + 1
  | .iface _ d => uptoBulk d + 1
  | .map entries => uptoBulkEntries entries + 1
  | .held _ => 1
def uptoBulkAll {H : Type} : List (DataW H) → Nat
  | [] => 0
  | d :: r => uptoBulk d + uptoBulkAll r
def uptoBulkEntries {H : Type} : List (Lit × DataW H) → Nat
  | [] => 0
  | x :: r => uptoBulkEntry x + uptoBulkEntries r
def uptoBulkEntry {H : Type} : Lit × DataW H → Nat
  | (.string bytes, d) => bytes.length + uptoBulk d + 1
  | (_, d) => uptoBulk d + 1
 end
def uptoSmall : (H : Type) → List (DataW H) → Bool := fun _ ds => decide (uptoBulkAll ds ≤ 1048576)
def OpenSpec.upto (s : _root_.Go.ChangeSpec) : _root_.Go.OpenSpec := { _root_.Go.OpenSpec.ofChange s with cond := some uptoSmall }

/-- 'endonymlaw16.JoinerNear', WHERE WHAT IT READS IS OF BULK AT MOST 1048576: true; the input reads as it did. -/
def joinerNearUptoRow : OpenClaim := { program := "ythneeainigdmhaagreat", sum := "d2aa5393be1444b975f37d0bccecde8f66aa4553f6f8d178a531500d1b1f2a3c", func := "endonym/endonymlaw16.JoinerNear", spec := "joinerNear", inPlace := ["math.Float64bits", "internal/reflectlite.ValueOf", "internal/reflectlite.Swapper", "(internal/reflectlite.Value).Len", "math.Float64frombits"], unfollowed := true, recurses := true, plainKeys := false, apart := false, narrowed := true }
def JoinerNearUptoSaid : Prop := joinerNearUptoRow.holds Tryz.pinned (OpenSpec.upto joinerNearSpec)

/-- 'endonymlaw9.UcdTells', WHERE WHAT IT READS IS OF BULK AT MOST 1048576: true; the input reads as it did. -/
def ucdTellsUptoRow : OpenClaim := { program := "ythneeainigdmhaagreat", sum := "d2aa5393be1444b975f37d0bccecde8f66aa4553f6f8d178a531500d1b1f2a3c", func := "endonym/endonymlaw9.UcdTells", spec := "ucdTells", inPlace := ["math.Float64bits", "internal/reflectlite.ValueOf", "internal/reflectlite.Swapper", "(internal/reflectlite.Value).Len", "math.Float64frombits"], unfollowed := true, recurses := true, plainKeys := false, apart := false, narrowed := true }
def UcdTellsUptoSaid : Prop := ucdTellsUptoRow.holds Tryz.pinned (OpenSpec.upto ucdTellsSpec)

/-- 'endonymlaw9.UcdPairs', WHERE WHAT IT READS IS OF BULK AT MOST 1048576: true; the input reads as it did. -/
def ucdPairsUptoRow : OpenClaim := { program := "ythneeainigdmhaagreat", sum := "d2aa5393be1444b975f37d0bccecde8f66aa4553f6f8d178a531500d1b1f2a3c", func := "endonym/endonymlaw9.UcdPairs", spec := "ucdPairs", inPlace := ["math.Float64bits", "internal/reflectlite.ValueOf", "internal/reflectlite.Swapper", "(internal/reflectlite.Value).Len", "math.Float64frombits"], unfollowed := true, recurses := true, plainKeys := false, apart := false, narrowed := true }
def UcdPairsUptoSaid : Prop := ucdPairsUptoRow.holds Tryz.pinned (OpenSpec.upto ucdPairsSpec)

/-- 'endonymlaw17.BidiMarks', WHERE WHAT IT READS IS OF BULK AT MOST 1048576: true; the input reads as it did. -/
def bidiMarksUptoRow : OpenClaim := { program := "ythneeainigdmhaagreat", sum := "d2aa5393be1444b975f37d0bccecde8f66aa4553f6f8d178a531500d1b1f2a3c", func := "endonym/endonymlaw17.BidiMarks", spec := "bidiMarks", inPlace := ["math.Float64bits", "internal/reflectlite.ValueOf", "internal/reflectlite.Swapper", "(internal/reflectlite.Value).Len", "math.Float64frombits"], unfollowed := true, recurses := true, plainKeys := false, apart := false, narrowed := true }
def BidiMarksUptoSaid : Prop := bidiMarksUptoRow.holds Tryz.pinned (OpenSpec.upto bidiMarksSpec)

/-- 'endonymlaw17.BidiPlain', WHERE WHAT IT READS IS OF BULK AT MOST 1048576: true; the input reads as it did. -/
def bidiPlainUptoRow : OpenClaim := { program := "ythneeainigdmhaagreat", sum := "d2aa5393be1444b975f37d0bccecde8f66aa4553f6f8d178a531500d1b1f2a3c", func := "endonym/endonymlaw17.BidiPlain", spec := "bidiPlain", inPlace := ["math.Float64bits", "internal/reflectlite.ValueOf", "internal/reflectlite.Swapper", "(internal/reflectlite.Value).Len", "math.Float64frombits"], unfollowed := true, recurses := true, plainKeys := false, apart := false, narrowed := true }
def BidiPlainUptoSaid : Prop := bidiPlainUptoRow.holds Tryz.pinned (OpenSpec.upto bidiPlainSpec)

/-- 'endonymlaw9.UcdOpens', WHERE WHAT IT READS IS OF BULK AT MOST 1048576: true; the input reads as it did. -/
def ucdOpensUptoRow : OpenClaim := { program := "ythneeainigdmhaagreat", sum := "d2aa5393be1444b975f37d0bccecde8f66aa4553f6f8d178a531500d1b1f2a3c", func := "endonym/endonymlaw9.UcdOpens", spec := "ucdOpens", inPlace := ["math.Float64bits", "internal/reflectlite.ValueOf", "internal/reflectlite.Swapper", "(internal/reflectlite.Value).Len", "math.Float64frombits"], unfollowed := true, recurses := true, plainKeys := false, apart := false, narrowed := true }
def UcdOpensUptoSaid : Prop := ucdOpensUptoRow.holds Tryz.pinned (OpenSpec.upto ucdOpensSpec)

/-- 'endonymlaw17.BidiRules', WHERE WHAT IT READS IS OF BULK AT MOST 1048576: true; the input reads as it did. -/
def bidiRulesUptoRow : OpenClaim := { program := "ythneeainigdmhaagreat", sum := "d2aa5393be1444b975f37d0bccecde8f66aa4553f6f8d178a531500d1b1f2a3c", func := "endonym/endonymlaw17.BidiRules", spec := "bidiRules", inPlace := ["math.Float64bits", "internal/reflectlite.ValueOf", "internal/reflectlite.Swapper", "(internal/reflectlite.Value).Len", "math.Float64frombits"], unfollowed := true, recurses := true, plainKeys := false, apart := false, narrowed := true }
def BidiRulesUptoSaid : Prop := bidiRulesUptoRow.holds Tryz.pinned (OpenSpec.upto bidiRulesSpec)

/-- 'endonymlaw9.UcdBeyond', WHERE WHAT IT READS IS OF BULK AT MOST 1048576: true; the input reads as it did. -/
def ucdBeyondUptoRow : OpenClaim := { program := "ythneeainigdmhaagreat", sum := "d2aa5393be1444b975f37d0bccecde8f66aa4553f6f8d178a531500d1b1f2a3c", func := "endonym/endonymlaw9.UcdBeyond", spec := "ucdBeyond", inPlace := ["math.Float64bits", "internal/reflectlite.ValueOf", "internal/reflectlite.Swapper", "(internal/reflectlite.Value).Len", "math.Float64frombits"], unfollowed := true, recurses := true, plainKeys := false, apart := false, narrowed := true }
def UcdBeyondUptoSaid : Prop := ucdBeyondUptoRow.holds Tryz.pinned (OpenSpec.upto ucdBeyondSpec)

/-- 'endonymlaw15.RemapMaps', WHERE WHAT IT READS IS OF BULK AT MOST 1048576: true; the input reads as it did. -/
def remapMapsUptoRow : OpenClaim := { program := "ythneeainigdmhaagreat", sum := "d2aa5393be1444b975f37d0bccecde8f66aa4553f6f8d178a531500d1b1f2a3c", func := "endonym/endonymlaw15.RemapMaps", spec := "remapMaps", inPlace := ["math.Float64bits", "internal/reflectlite.ValueOf", "internal/reflectlite.Swapper", "(internal/reflectlite.Value).Len", "math.Float64frombits"], unfollowed := true, recurses := true, plainKeys := false, apart := false, narrowed := true }
def RemapMapsUptoSaid : Prop := remapMapsUptoRow.holds Tryz.pinned (OpenSpec.upto remapMapsSpec)

/-- 'endonymlaw15.RemapParts', WHERE WHAT IT READS IS OF BULK AT MOST 1048576: true; the input reads as it did. -/
def remapPartsUptoRow : OpenClaim := { program := "ythneeainigdmhaagreat", sum := "d2aa5393be1444b975f37d0bccecde8f66aa4553f6f8d178a531500d1b1f2a3c", func := "endonym/endonymlaw15.RemapParts", spec := "remapParts", inPlace := ["math.Float64bits", "internal/reflectlite.ValueOf", "internal/reflectlite.Swapper", "(internal/reflectlite.Value).Len", "math.Float64frombits"], unfollowed := true, recurses := true, plainKeys := false, apart := false, narrowed := true }
def RemapPartsUptoSaid : Prop := remapPartsUptoRow.holds Tryz.pinned (OpenSpec.upto remapPartsSpec)

/-- 'endonymlaw15.RemapJoins', WHERE WHAT IT READS IS OF BULK AT MOST 1048576: true; the input reads as it did. -/
def remapJoinsUptoRow : OpenClaim := { program := "ythneeainigdmhaagreat", sum := "d2aa5393be1444b975f37d0bccecde8f66aa4553f6f8d178a531500d1b1f2a3c", func := "endonym/endonymlaw15.RemapJoins", spec := "remapJoins", inPlace := ["math.Float64bits", "internal/reflectlite.ValueOf", "internal/reflectlite.Swapper", "(internal/reflectlite.Value).Len", "math.Float64frombits"], unfollowed := true, recurses := true, plainKeys := false, apart := false, narrowed := true }
def RemapJoinsUptoSaid : Prop := remapJoinsUptoRow.holds Tryz.pinned (OpenSpec.upto remapJoinsSpec)

/-- 'endonymlaw15.RemapLong', WHERE WHAT IT READS IS OF BULK AT MOST 1048576: true; the input reads as it did. -/
def remapLongUptoRow : OpenClaim := { program := "ythneeainigdmhaagreat", sum := "d2aa5393be1444b975f37d0bccecde8f66aa4553f6f8d178a531500d1b1f2a3c", func := "endonym/endonymlaw15.RemapLong", spec := "remapLong", inPlace := ["math.Float64bits", "internal/reflectlite.ValueOf", "internal/reflectlite.Swapper", "(internal/reflectlite.Value).Len", "math.Float64frombits"], unfollowed := true, recurses := true, plainKeys := false, apart := false, narrowed := true }
def RemapLongUptoSaid : Prop := remapLongUptoRow.holds Tryz.pinned (OpenSpec.upto remapLongSpec)

/-- 'endonymlaw12.OrderJoins', WHERE WHAT IT READS IS OF BULK AT MOST 1048576: true; the input reads as it did. -/
def orderJoinsUptoRow : OpenClaim := { program := "ythneeainigdmhaagreat", sum := "d2aa5393be1444b975f37d0bccecde8f66aa4553f6f8d178a531500d1b1f2a3c", func := "endonym/endonymlaw12.OrderJoins", spec := "orderJoins", inPlace := ["math.Float64bits", "internal/reflectlite.ValueOf", "internal/reflectlite.Swapper", "(internal/reflectlite.Value).Len", "math.Float64frombits"], unfollowed := true, recurses := true, plainKeys := false, apart := false, narrowed := true }
def OrderJoinsUptoSaid : Prop := orderJoinsUptoRow.holds Tryz.pinned (OpenSpec.upto orderJoinsSpec)

/-- 'endonymlaw12.OrderLong', WHERE WHAT IT READS IS OF BULK AT MOST 1048576: true; the input reads as it did. -/
def orderLongUptoRow : OpenClaim := { program := "ythneeainigdmhaagreat", sum := "d2aa5393be1444b975f37d0bccecde8f66aa4553f6f8d178a531500d1b1f2a3c", func := "endonym/endonymlaw12.OrderLong", spec := "orderLong", inPlace := ["math.Float64bits", "internal/reflectlite.ValueOf", "internal/reflectlite.Swapper", "(internal/reflectlite.Value).Len", "math.Float64frombits"], unfollowed := true, recurses := true, plainKeys := false, apart := false, narrowed := true }
def OrderLongUptoSaid : Prop := orderLongUptoRow.holds Tryz.pinned (OpenSpec.upto orderLongSpec)

/-- 'endonymlaw12.OrderOpens', WHERE WHAT IT READS IS OF BULK AT MOST 1048576: true; the input reads as it did. -/
def orderOpensUptoRow : OpenClaim := { program := "ythneeainigdmhaagreat", sum := "d2aa5393be1444b975f37d0bccecde8f66aa4553f6f8d178a531500d1b1f2a3c", func := "endonym/endonymlaw12.OrderOpens", spec := "orderOpens", inPlace := ["math.Float64bits", "internal/reflectlite.ValueOf", "internal/reflectlite.Swapper", "(internal/reflectlite.Value).Len", "math.Float64frombits"], unfollowed := true, recurses := true, plainKeys := false, apart := false, narrowed := true }
def OrderOpensUptoSaid : Prop := orderOpensUptoRow.holds Tryz.pinned (OpenSpec.upto orderOpensSpec)

/-- 'endonymlaw12.OrderAgain', WHERE WHAT IT READS IS OF BULK AT MOST 1048576: true; the input reads as it did. -/
def orderAgainUptoRow : OpenClaim := { program := "ythneeainigdmhaagreat", sum := "d2aa5393be1444b975f37d0bccecde8f66aa4553f6f8d178a531500d1b1f2a3c", func := "endonym/endonymlaw12.OrderAgain", spec := "orderAgain", inPlace := ["math.Float64bits", "internal/reflectlite.ValueOf", "internal/reflectlite.Swapper", "(internal/reflectlite.Value).Len", "math.Float64frombits"], unfollowed := true, recurses := true, plainKeys := false, apart := false, narrowed := true }
def OrderAgainUptoSaid : Prop := orderAgainUptoRow.holds Tryz.pinned (OpenSpec.upto orderAgainSpec)

/-- 'endonymlaw12.OrderSame', WHERE WHAT IT READS IS OF BULK AT MOST 1048576: true; the input reads as it did. -/
def orderSameUptoRow : OpenClaim := { program := "ythneeainigdmhaagreat", sum := "d2aa5393be1444b975f37d0bccecde8f66aa4553f6f8d178a531500d1b1f2a3c", func := "endonym/endonymlaw12.OrderSame", spec := "orderSame", inPlace := ["math.Float64bits", "internal/reflectlite.ValueOf", "internal/reflectlite.Swapper", "(internal/reflectlite.Value).Len", "math.Float64frombits"], unfollowed := true, recurses := true, plainKeys := false, apart := false, narrowed := true }
def OrderSameUptoSaid : Prop := orderSameUptoRow.holds Tryz.pinned (OpenSpec.upto orderSameSpec)

end Rows
end Go.Proofs.YthneeainigdmhaaGreat
