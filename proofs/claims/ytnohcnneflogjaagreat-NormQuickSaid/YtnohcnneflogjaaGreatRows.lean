/-
  No cell of these rows narrows 'for every input' (looked for: loops, veiled, ifaces, maps, wideKeys, modest, calm, conditions, laid).
  DERIVED. THE GIVEN ROWS OF THIS SEAT. 18 by the template 'for every input the law returns true; each argument reads behind the call as it read before'; 0 by the template 'total and deterministic' (their statements: YtnohcnneflogjaaGreatTotals.lean).
  GIVEN WITH THE SEED: the statements are not yours to turn. If you find one false, say at which input.
  Laid BY PROGRAM, IN A SANDBOX (cutbox-rows.mjs): the forced cells as the released guide's own fill.sh prints them over the translation 8e4b083bbba5e0aa… (all of the seat's roots in one cut). By AI agents, Wed Nov 11 2026. No macro, syntax, notation, axiom, sorry.
-/
import Derived.Test.YtnohcnneflogjaaGreatChecked
import GoSem.Claim
import GoSem.ClaimJoined
import GoSem.ClaimMapViews
import Derived.JoinedTies
import Derived.KernelRfl
namespace Go.Proofs.YtnohcnneflogjaaGreat
/- THE CELL 'sum', in the pinned program and in every row, IS THE sha256 OF THE DUMP (.gsa) THAT YtnohcnneflogjaaGreatProg.lean LOADS. Nothing in Lean hashes anything: it is a label: what it is worth is what the hold of that sum in a sandbox is worth. -/
noncomputable def Tryz.pinned : Pinned := { name := "ytnohcnneflogjaagreat", sum := "8e4b083bbba5e0aa39ea6522e2001bb3e8a034e53f3da73e070e12c64c6d45ad", checked := Tryz.checked }
namespace Rows
def none {H : Type} : Left H := { results := [], args := [] }

/-- 'endonymlaw12.OrderJoins': WHATEVER THE INPUT: true; the input reads as it did. -/
def orderJoinsSpec : ChangeSpec := { name := "orderJoins", fn := fun _ => fun
  | [d1, d2, d3] => { results := [.lit (.bool true)], args := [d1, d2, d3] }
  | _ => none }
def orderJoinsRow : OpenClaim := { program := "ytnohcnneflogjaagreat", sum := "8e4b083bbba5e0aa39ea6522e2001bb3e8a034e53f3da73e070e12c64c6d45ad", func := "endonym/endonymlaw12.OrderJoins", spec := "orderJoins", inPlace := ["math.Float64bits", "internal/reflectlite.ValueOf", "internal/reflectlite.Swapper", "(internal/reflectlite.Value).Len", "math.Float64frombits"], unfollowed := true, recurses := true, plainKeys := false, apart := false }
def OrderJoinsSaid : Prop := orderJoinsRow.holds Tryz.pinned (OpenSpec.ofChange orderJoinsSpec)

/-- ITS FALSE NEIGHBOUR: 'it returns false'. Refute it at one input. -/
def orderJoinsWrong : ChangeSpec := { name := "orderJoins", fn := fun _ => fun
  | [d1, d2, d3] => { results := [.lit (.bool false)], args := [d1, d2, d3] }
  | _ => none }
def OrderJoinsWrongFalsely : Prop := orderJoinsRow.holds Tryz.pinned (OpenSpec.ofChange orderJoinsWrong)

/-- 'endonymlaw12.OrderLong': WHATEVER THE INPUT: true; the input reads as it did. -/
def orderLongSpec : ChangeSpec := { name := "orderLong", fn := fun _ => fun
  | [d1, d2] => { results := [.lit (.bool true)], args := [d1, d2] }
  | _ => none }
def orderLongRow : OpenClaim := { program := "ytnohcnneflogjaagreat", sum := "8e4b083bbba5e0aa39ea6522e2001bb3e8a034e53f3da73e070e12c64c6d45ad", func := "endonym/endonymlaw12.OrderLong", spec := "orderLong", inPlace := ["math.Float64bits", "internal/reflectlite.ValueOf", "internal/reflectlite.Swapper", "(internal/reflectlite.Value).Len", "math.Float64frombits"], unfollowed := true, recurses := true, plainKeys := false, apart := false }
def OrderLongSaid : Prop := orderLongRow.holds Tryz.pinned (OpenSpec.ofChange orderLongSpec)

/-- ITS FALSE NEIGHBOUR: 'it returns false'. Refute it at one input. -/
def orderLongWrong : ChangeSpec := { name := "orderLong", fn := fun _ => fun
  | [d1, d2] => { results := [.lit (.bool false)], args := [d1, d2] }
  | _ => none }
def OrderLongWrongFalsely : Prop := orderLongRow.holds Tryz.pinned (OpenSpec.ofChange orderLongWrong)

/-- 'endonymlaw12.OrderOpens': WHATEVER THE INPUT: true; the input reads as it did. -/
def orderOpensSpec : ChangeSpec := { name := "orderOpens", fn := fun _ => fun
  | [d1, d2] => { results := [.lit (.bool true)], args := [d1, d2] }
  | _ => none }
def orderOpensRow : OpenClaim := { program := "ytnohcnneflogjaagreat", sum := "8e4b083bbba5e0aa39ea6522e2001bb3e8a034e53f3da73e070e12c64c6d45ad", func := "endonym/endonymlaw12.OrderOpens", spec := "orderOpens", inPlace := ["math.Float64bits", "internal/reflectlite.ValueOf", "internal/reflectlite.Swapper", "(internal/reflectlite.Value).Len", "math.Float64frombits"], unfollowed := true, recurses := true, plainKeys := false, apart := false }
def OrderOpensSaid : Prop := orderOpensRow.holds Tryz.pinned (OpenSpec.ofChange orderOpensSpec)

/-- ITS FALSE NEIGHBOUR: 'it returns false'. Refute it at one input. -/
def orderOpensWrong : ChangeSpec := { name := "orderOpens", fn := fun _ => fun
  | [d1, d2] => { results := [.lit (.bool false)], args := [d1, d2] }
  | _ => none }
def OrderOpensWrongFalsely : Prop := orderOpensRow.holds Tryz.pinned (OpenSpec.ofChange orderOpensWrong)

/-- 'endonymlaw12.OrderAgain': WHATEVER THE INPUT: true; the input reads as it did. -/
def orderAgainSpec : ChangeSpec := { name := "orderAgain", fn := fun _ => fun
  | [d1, d2] => { results := [.lit (.bool true)], args := [d1, d2] }
  | _ => none }
def orderAgainRow : OpenClaim := { program := "ytnohcnneflogjaagreat", sum := "8e4b083bbba5e0aa39ea6522e2001bb3e8a034e53f3da73e070e12c64c6d45ad", func := "endonym/endonymlaw12.OrderAgain", spec := "orderAgain", inPlace := ["math.Float64bits", "internal/reflectlite.ValueOf", "internal/reflectlite.Swapper", "(internal/reflectlite.Value).Len", "math.Float64frombits"], unfollowed := true, recurses := true, plainKeys := false, apart := false }
def OrderAgainSaid : Prop := orderAgainRow.holds Tryz.pinned (OpenSpec.ofChange orderAgainSpec)

/-- ITS FALSE NEIGHBOUR: 'it returns false'. Refute it at one input. -/
def orderAgainWrong : ChangeSpec := { name := "orderAgain", fn := fun _ => fun
  | [d1, d2] => { results := [.lit (.bool false)], args := [d1, d2] }
  | _ => none }
def OrderAgainWrongFalsely : Prop := orderAgainRow.holds Tryz.pinned (OpenSpec.ofChange orderAgainWrong)

/-- 'endonymlaw12.OrderSame': WHATEVER THE INPUT: true; the input reads as it did. -/
def orderSameSpec : ChangeSpec := { name := "orderSame", fn := fun _ => fun
  | [d1, d2, d3] => { results := [.lit (.bool true)], args := [d1, d2, d3] }
  | _ => none }
def orderSameRow : OpenClaim := { program := "ytnohcnneflogjaagreat", sum := "8e4b083bbba5e0aa39ea6522e2001bb3e8a034e53f3da73e070e12c64c6d45ad", func := "endonym/endonymlaw12.OrderSame", spec := "orderSame", inPlace := ["math.Float64bits", "internal/reflectlite.ValueOf", "internal/reflectlite.Swapper", "(internal/reflectlite.Value).Len", "math.Float64frombits"], unfollowed := true, recurses := true, plainKeys := false, apart := false }
def OrderSameSaid : Prop := orderSameRow.holds Tryz.pinned (OpenSpec.ofChange orderSameSpec)

/-- ITS FALSE NEIGHBOUR: 'it returns false'. Refute it at one input. -/
def orderSameWrong : ChangeSpec := { name := "orderSame", fn := fun _ => fun
  | [d1, d2, d3] => { results := [.lit (.bool false)], args := [d1, d2, d3] }
  | _ => none }
def OrderSameWrongFalsely : Prop := orderSameRow.holds Tryz.pinned (OpenSpec.ofChange orderSameWrong)

/-- 'endonymlaw13.NormHonest': WHATEVER THE INPUT: true; the input reads as it did. -/
def normHonestSpec : ChangeSpec := { name := "normHonest", fn := fun _ => fun
  | [d1, d2] => { results := [.lit (.bool true)], args := [d1, d2] }
  | _ => none }
def normHonestRow : OpenClaim := { program := "ytnohcnneflogjaagreat", sum := "8e4b083bbba5e0aa39ea6522e2001bb3e8a034e53f3da73e070e12c64c6d45ad", func := "endonym/endonymlaw13.NormHonest", spec := "normHonest", inPlace := ["math.Float64bits", "internal/reflectlite.ValueOf", "internal/reflectlite.Swapper", "(internal/reflectlite.Value).Len", "math.Float64frombits"], unfollowed := true, recurses := true, plainKeys := false, apart := false }
def NormHonestSaid : Prop := normHonestRow.holds Tryz.pinned (OpenSpec.ofChange normHonestSpec)

/-- ITS FALSE NEIGHBOUR: 'it returns false'. Refute it at one input. -/
def normHonestWrong : ChangeSpec := { name := "normHonest", fn := fun _ => fun
  | [d1, d2] => { results := [.lit (.bool false)], args := [d1, d2] }
  | _ => none }
def NormHonestWrongFalsely : Prop := normHonestRow.holds Tryz.pinned (OpenSpec.ofChange normHonestWrong)

/-- 'endonymlaw13.NormJoins': WHATEVER THE INPUT: true; the input reads as it did. -/
def normJoinsSpec : ChangeSpec := { name := "normJoins", fn := fun _ => fun
  | [d1, d2, d3] => { results := [.lit (.bool true)], args := [d1, d2, d3] }
  | _ => none }
def normJoinsRow : OpenClaim := { program := "ytnohcnneflogjaagreat", sum := "8e4b083bbba5e0aa39ea6522e2001bb3e8a034e53f3da73e070e12c64c6d45ad", func := "endonym/endonymlaw13.NormJoins", spec := "normJoins", inPlace := ["math.Float64bits", "internal/reflectlite.ValueOf", "internal/reflectlite.Swapper", "(internal/reflectlite.Value).Len", "math.Float64frombits"], unfollowed := true, recurses := true, plainKeys := false, apart := false }
def NormJoinsSaid : Prop := normJoinsRow.holds Tryz.pinned (OpenSpec.ofChange normJoinsSpec)

/-- ITS FALSE NEIGHBOUR: 'it returns false'. Refute it at one input. -/
def normJoinsWrong : ChangeSpec := { name := "normJoins", fn := fun _ => fun
  | [d1, d2, d3] => { results := [.lit (.bool false)], args := [d1, d2, d3] }
  | _ => none }
def NormJoinsWrongFalsely : Prop := normJoinsRow.holds Tryz.pinned (OpenSpec.ofChange normJoinsWrong)

/-- 'endonymlaw13.NormShort': WHATEVER THE INPUT: true; the input reads as it did. -/
def normShortSpec : ChangeSpec := { name := "normShort", fn := fun _ => fun
  | [d1, d2] => { results := [.lit (.bool true)], args := [d1, d2] }
  | _ => none }
def normShortRow : OpenClaim := { program := "ytnohcnneflogjaagreat", sum := "8e4b083bbba5e0aa39ea6522e2001bb3e8a034e53f3da73e070e12c64c6d45ad", func := "endonym/endonymlaw13.NormShort", spec := "normShort", inPlace := ["math.Float64bits", "internal/reflectlite.ValueOf", "internal/reflectlite.Swapper", "(internal/reflectlite.Value).Len", "math.Float64frombits"], unfollowed := true, recurses := true, plainKeys := false, apart := false }
def NormShortSaid : Prop := normShortRow.holds Tryz.pinned (OpenSpec.ofChange normShortSpec)

/-- ITS FALSE NEIGHBOUR: 'it returns false'. Refute it at one input. -/
def normShortWrong : ChangeSpec := { name := "normShort", fn := fun _ => fun
  | [d1, d2] => { results := [.lit (.bool false)], args := [d1, d2] }
  | _ => none }
def NormShortWrongFalsely : Prop := normShortRow.holds Tryz.pinned (OpenSpec.ofChange normShortWrong)

/-- 'endonymlaw13.NormComposes': WHATEVER THE INPUT: true; the input reads as it did. -/
def normComposesSpec : ChangeSpec := { name := "normComposes", fn := fun _ => fun
  | [d1, d2] => { results := [.lit (.bool true)], args := [d1, d2] }
  | _ => none }
def normComposesRow : OpenClaim := { program := "ytnohcnneflogjaagreat", sum := "8e4b083bbba5e0aa39ea6522e2001bb3e8a034e53f3da73e070e12c64c6d45ad", func := "endonym/endonymlaw13.NormComposes", spec := "normComposes", inPlace := ["math.Float64bits", "internal/reflectlite.ValueOf", "internal/reflectlite.Swapper", "(internal/reflectlite.Value).Len", "math.Float64frombits"], unfollowed := true, recurses := true, plainKeys := false, apart := false }
def NormComposesSaid : Prop := normComposesRow.holds Tryz.pinned (OpenSpec.ofChange normComposesSpec)

/-- ITS FALSE NEIGHBOUR: 'it returns false'. Refute it at one input. -/
def normComposesWrong : ChangeSpec := { name := "normComposes", fn := fun _ => fun
  | [d1, d2] => { results := [.lit (.bool false)], args := [d1, d2] }
  | _ => none }
def NormComposesWrongFalsely : Prop := normComposesRow.holds Tryz.pinned (OpenSpec.ofChange normComposesWrong)

/-- 'endonymlaw14.FeedPlays': WHATEVER THE INPUT: true; the input reads as it did. -/
def feedPlaysSpec : ChangeSpec := { name := "feedPlays", fn := fun _ => fun
  | [d1, d2] => { results := [.lit (.bool true)], args := [d1, d2] }
  | _ => none }
def feedPlaysRow : OpenClaim := { program := "ytnohcnneflogjaagreat", sum := "8e4b083bbba5e0aa39ea6522e2001bb3e8a034e53f3da73e070e12c64c6d45ad", func := "endonym/endonymlaw14.FeedPlays", spec := "feedPlays", inPlace := ["math.Float64bits", "internal/reflectlite.ValueOf", "internal/reflectlite.Swapper", "(internal/reflectlite.Value).Len", "math.Float64frombits"], unfollowed := true, recurses := true, plainKeys := false, apart := false }
def FeedPlaysSaid : Prop := feedPlaysRow.holds Tryz.pinned (OpenSpec.ofChange feedPlaysSpec)

/-- ITS FALSE NEIGHBOUR: 'it returns false'. Refute it at one input. -/
def feedPlaysWrong : ChangeSpec := { name := "feedPlays", fn := fun _ => fun
  | [d1, d2] => { results := [.lit (.bool false)], args := [d1, d2] }
  | _ => none }
def FeedPlaysWrongFalsely : Prop := feedPlaysRow.holds Tryz.pinned (OpenSpec.ofChange feedPlaysWrong)

/-- 'endonymlaw14.FeedCuts': WHATEVER THE INPUT: true; the input reads as it did. -/
def feedCutsSpec : ChangeSpec := { name := "feedCuts", fn := fun _ => fun
  | [d1, d2, d3] => { results := [.lit (.bool true)], args := [d1, d2, d3] }
  | _ => none }
def feedCutsRow : OpenClaim := { program := "ytnohcnneflogjaagreat", sum := "8e4b083bbba5e0aa39ea6522e2001bb3e8a034e53f3da73e070e12c64c6d45ad", func := "endonym/endonymlaw14.FeedCuts", spec := "feedCuts", inPlace := ["math.Float64bits", "internal/reflectlite.ValueOf", "internal/reflectlite.Swapper", "(internal/reflectlite.Value).Len", "math.Float64frombits"], unfollowed := true, recurses := true, plainKeys := false, apart := false }
def FeedCutsSaid : Prop := feedCutsRow.holds Tryz.pinned (OpenSpec.ofChange feedCutsSpec)

/-- ITS FALSE NEIGHBOUR: 'it returns false'. Refute it at one input. -/
def feedCutsWrong : ChangeSpec := { name := "feedCuts", fn := fun _ => fun
  | [d1, d2, d3] => { results := [.lit (.bool false)], args := [d1, d2, d3] }
  | _ => none }
def FeedCutsWrongFalsely : Prop := feedCutsRow.holds Tryz.pinned (OpenSpec.ofChange feedCutsWrong)

/-- 'endonymlaw14.FeedSure': WHATEVER THE INPUT: true; the input reads as it did. -/
def feedSureSpec : ChangeSpec := { name := "feedSure", fn := fun _ => fun
  | [d1, d2, d3] => { results := [.lit (.bool true)], args := [d1, d2, d3] }
  | _ => none }
def feedSureRow : OpenClaim := { program := "ytnohcnneflogjaagreat", sum := "8e4b083bbba5e0aa39ea6522e2001bb3e8a034e53f3da73e070e12c64c6d45ad", func := "endonym/endonymlaw14.FeedSure", spec := "feedSure", inPlace := ["math.Float64bits", "internal/reflectlite.ValueOf", "internal/reflectlite.Swapper", "(internal/reflectlite.Value).Len", "math.Float64frombits"], unfollowed := true, recurses := true, plainKeys := false, apart := false }
def FeedSureSaid : Prop := feedSureRow.holds Tryz.pinned (OpenSpec.ofChange feedSureSpec)

/-- ITS FALSE NEIGHBOUR: 'it returns false'. Refute it at one input. -/
def feedSureWrong : ChangeSpec := { name := "feedSure", fn := fun _ => fun
  | [d1, d2, d3] => { results := [.lit (.bool false)], args := [d1, d2, d3] }
  | _ => none }
def FeedSureWrongFalsely : Prop := feedSureRow.holds Tryz.pinned (OpenSpec.ofChange feedSureWrong)

/-- 'endonymlaw14.FeedHeld': WHATEVER THE INPUT: true; the input reads as it did. -/
def feedHeldSpec : ChangeSpec := { name := "feedHeld", fn := fun _ => fun
  | [d1, d2, d3] => { results := [.lit (.bool true)], args := [d1, d2, d3] }
  | _ => none }
def feedHeldRow : OpenClaim := { program := "ytnohcnneflogjaagreat", sum := "8e4b083bbba5e0aa39ea6522e2001bb3e8a034e53f3da73e070e12c64c6d45ad", func := "endonym/endonymlaw14.FeedHeld", spec := "feedHeld", inPlace := ["math.Float64bits", "internal/reflectlite.ValueOf", "internal/reflectlite.Swapper", "(internal/reflectlite.Value).Len", "math.Float64frombits"], unfollowed := true, recurses := true, plainKeys := false, apart := false }
def FeedHeldSaid : Prop := feedHeldRow.holds Tryz.pinned (OpenSpec.ofChange feedHeldSpec)

/-- ITS FALSE NEIGHBOUR: 'it returns false'. Refute it at one input. -/
def feedHeldWrong : ChangeSpec := { name := "feedHeld", fn := fun _ => fun
  | [d1, d2, d3] => { results := [.lit (.bool false)], args := [d1, d2, d3] }
  | _ => none }
def FeedHeldWrongFalsely : Prop := feedHeldRow.holds Tryz.pinned (OpenSpec.ofChange feedHeldWrong)

/-- 'endonymlaw13.NormQuick': WHATEVER THE INPUT: true; the input reads as it did. -/
def normQuickSpec : ChangeSpec := { name := "normQuick", fn := fun _ => fun
  | [d1, d2] => { results := [.lit (.bool true)], args := [d1, d2] }
  | _ => none }
def normQuickRow : OpenClaim := { program := "ytnohcnneflogjaagreat", sum := "8e4b083bbba5e0aa39ea6522e2001bb3e8a034e53f3da73e070e12c64c6d45ad", func := "endonym/endonymlaw13.NormQuick", spec := "normQuick", inPlace := ["math.Float64bits", "internal/reflectlite.ValueOf", "internal/reflectlite.Swapper", "(internal/reflectlite.Value).Len", "math.Float64frombits"], unfollowed := true, recurses := true, plainKeys := false, apart := false }
def NormQuickSaid : Prop := normQuickRow.holds Tryz.pinned (OpenSpec.ofChange normQuickSpec)

/-- ITS FALSE NEIGHBOUR: 'it returns false'. Refute it at one input. -/
def normQuickWrong : ChangeSpec := { name := "normQuick", fn := fun _ => fun
  | [d1, d2] => { results := [.lit (.bool false)], args := [d1, d2] }
  | _ => none }
def NormQuickWrongFalsely : Prop := normQuickRow.holds Tryz.pinned (OpenSpec.ofChange normQuickWrong)

/-- 'endonymlaw13.NormAgain': WHATEVER THE INPUT: true; the input reads as it did. -/
def normAgainSpec : ChangeSpec := { name := "normAgain", fn := fun _ => fun
  | [d1, d2, d3] => { results := [.lit (.bool true)], args := [d1, d2, d3] }
  | _ => none }
def normAgainRow : OpenClaim := { program := "ytnohcnneflogjaagreat", sum := "8e4b083bbba5e0aa39ea6522e2001bb3e8a034e53f3da73e070e12c64c6d45ad", func := "endonym/endonymlaw13.NormAgain", spec := "normAgain", inPlace := ["math.Float64bits", "internal/reflectlite.ValueOf", "internal/reflectlite.Swapper", "(internal/reflectlite.Value).Len", "math.Float64frombits"], unfollowed := true, recurses := true, plainKeys := false, apart := false }
def NormAgainSaid : Prop := normAgainRow.holds Tryz.pinned (OpenSpec.ofChange normAgainSpec)

/-- ITS FALSE NEIGHBOUR: 'it returns false'. Refute it at one input. -/
def normAgainWrong : ChangeSpec := { name := "normAgain", fn := fun _ => fun
  | [d1, d2, d3] => { results := [.lit (.bool false)], args := [d1, d2, d3] }
  | _ => none }
def NormAgainWrongFalsely : Prop := normAgainRow.holds Tryz.pinned (OpenSpec.ofChange normAgainWrong)

/-- 'endonymlaw18.LabelChecks': WHATEVER THE INPUT: true; the input reads as it did. -/
def labelChecksSpec : ChangeSpec := { name := "labelChecks", fn := fun _ => fun
  | [d1, d2, d3, d4, d5] => { results := [.lit (.bool true)], args := [d1, d2, d3, d4, d5] }
  | _ => none }
def labelChecksRow : OpenClaim := { program := "ytnohcnneflogjaagreat", sum := "8e4b083bbba5e0aa39ea6522e2001bb3e8a034e53f3da73e070e12c64c6d45ad", func := "endonym/endonymlaw18.LabelChecks", spec := "labelChecks", inPlace := ["math.Float64bits", "internal/reflectlite.ValueOf", "internal/reflectlite.Swapper", "(internal/reflectlite.Value).Len", "math.Float64frombits"], unfollowed := true, recurses := true, plainKeys := false, apart := false }
def LabelChecksSaid : Prop := labelChecksRow.holds Tryz.pinned (OpenSpec.ofChange labelChecksSpec)

/-- ITS FALSE NEIGHBOUR: 'it returns false'. Refute it at one input. -/
def labelChecksWrong : ChangeSpec := { name := "labelChecks", fn := fun _ => fun
  | [d1, d2, d3, d4, d5] => { results := [.lit (.bool false)], args := [d1, d2, d3, d4, d5] }
  | _ => none }
def LabelChecksWrongFalsely : Prop := labelChecksRow.holds Tryz.pinned (OpenSpec.ofChange labelChecksWrong)

/-- 'endonymlaw18.LabelMore': WHATEVER THE INPUT: true; the input reads as it did. -/
def labelMoreSpec : ChangeSpec := { name := "labelMore", fn := fun _ => fun
  | [d1, d2, d3, d4, d5] => { results := [.lit (.bool true)], args := [d1, d2, d3, d4, d5] }
  | _ => none }
def labelMoreRow : OpenClaim := { program := "ytnohcnneflogjaagreat", sum := "8e4b083bbba5e0aa39ea6522e2001bb3e8a034e53f3da73e070e12c64c6d45ad", func := "endonym/endonymlaw18.LabelMore", spec := "labelMore", inPlace := ["math.Float64bits", "internal/reflectlite.ValueOf", "internal/reflectlite.Swapper", "(internal/reflectlite.Value).Len", "math.Float64frombits"], unfollowed := true, recurses := true, plainKeys := false, apart := false }
def LabelMoreSaid : Prop := labelMoreRow.holds Tryz.pinned (OpenSpec.ofChange labelMoreSpec)

/-- ITS FALSE NEIGHBOUR: 'it returns false'. Refute it at one input. -/
def labelMoreWrong : ChangeSpec := { name := "labelMore", fn := fun _ => fun
  | [d1, d2, d3, d4, d5] => { results := [.lit (.bool false)], args := [d1, d2, d3, d4, d5] }
  | _ => none }
def LabelMoreWrongFalsely : Prop := labelMoreRow.holds Tryz.pinned (OpenSpec.ofChange labelMoreWrong)

/-- 'endonymlaw18.LabelClean': WHATEVER THE INPUT: true; the input reads as it did. -/
def labelCleanSpec : ChangeSpec := { name := "labelClean", fn := fun _ => fun
  | [d1, d2, d3, d4, d5] => { results := [.lit (.bool true)], args := [d1, d2, d3, d4, d5] }
  | _ => none }
def labelCleanRow : OpenClaim := { program := "ytnohcnneflogjaagreat", sum := "8e4b083bbba5e0aa39ea6522e2001bb3e8a034e53f3da73e070e12c64c6d45ad", func := "endonym/endonymlaw18.LabelClean", spec := "labelClean", inPlace := ["math.Float64bits", "internal/reflectlite.ValueOf", "internal/reflectlite.Swapper", "(internal/reflectlite.Value).Len", "math.Float64frombits"], unfollowed := true, recurses := true, plainKeys := false, apart := false }
def LabelCleanSaid : Prop := labelCleanRow.holds Tryz.pinned (OpenSpec.ofChange labelCleanSpec)

/-- ITS FALSE NEIGHBOUR: 'it returns false'. Refute it at one input. -/
def labelCleanWrong : ChangeSpec := { name := "labelClean", fn := fun _ => fun
  | [d1, d2, d3, d4, d5] => { results := [.lit (.bool false)], args := [d1, d2, d3, d4, d5] }
  | _ => none }
def LabelCleanWrongFalsely : Prop := labelCleanRow.holds Tryz.pinned (OpenSpec.ofChange labelCleanWrong)

/- THE SECOND FORM. 'bulk': how many values and letters a reading holds, each counted each time it is reached (what is shared counts as often as it is met; a slice's spare places count too). A statement '..UptoSaid' is the law's where the arguments, and the package variables that the reading takes, are together of bulk at most 1048576: NARROWER than '..Said'. Prove '..Said' where nothing that the law and all that it calls make is longer than what came in: it says more and counts as full. Else prove '..UptoSaid'. A law counts once. -/
mutual
def uptoBulk {H : Type} : DataW H → Nat
  | .lit (.string bytes) => bytes.length + 1
  | .lit _ => 1
  | .nil => 1
  | .ptr d => uptoBulk d + 1
  | .slice elems spare => uptoBulkAll elems + uptoBulkAll spare + 1
  | .agg parts => uptoBulkAll parts + 1
  | .iface _ d => uptoBulk d + 1
  | .map entries => uptoBulkEntries entries + 1
  | .held _ => 1
def uptoBulkAll {H : Type} : List (DataW H) → Nat
  | [] => 0
  | d :: r => uptoBulk d + uptoBulkAll r
def uptoBulkEntries {H : Type} : List (Lit × DataW H) → Nat
  | [] => 0
  | x :: r => uptoBulkEntry x + uptoBulkEntries r
def uptoBulkEntry {H : Type} : Lit × DataW H → Nat
  | (.string bytes, d) => bytes.length + uptoBulk d + 1
  | (_, d) => uptoBulk d + 1
 end
def uptoSmall : (H : Type) → List (DataW H) → Bool := fun _ ds => decide (uptoBulkAll ds ≤ 1048576)
def OpenSpec.upto (s : _root_.Go.ChangeSpec) : _root_.Go.OpenSpec := { _root_.Go.OpenSpec.ofChange s with cond := some uptoSmall }

/-- 'endonymlaw12.OrderJoins', WHERE WHAT IT READS IS OF BULK AT MOST 1048576: true; the input reads as it did. -/
def orderJoinsUptoRow : OpenClaim := { program := "ytnohcnneflogjaagreat", sum := "8e4b083bbba5e0aa39ea6522e2001bb3e8a034e53f3da73e070e12c64c6d45ad", func := "endonym/endonymlaw12.OrderJoins", spec := "orderJoins", inPlace := ["math.Float64bits", "internal/reflectlite.ValueOf", "internal/reflectlite.Swapper", "(internal/reflectlite.Value).Len", "math.Float64frombits"], unfollowed := true, recurses := true, plainKeys := false, apart := false, narrowed := true }
def OrderJoinsUptoSaid : Prop := orderJoinsUptoRow.holds Tryz.pinned (OpenSpec.upto orderJoinsSpec)

/-- 'endonymlaw12.OrderLong', WHERE WHAT IT READS IS OF BULK AT MOST 1048576: true; the input reads as it did. -/
def orderLongUptoRow : OpenClaim := { program := "ytnohcnneflogjaagreat", sum := "8e4b083bbba5e0aa39ea6522e2001bb3e8a034e53f3da73e070e12c64c6d45ad", func := "endonym/endonymlaw12.OrderLong", spec := "orderLong", inPlace := ["math.Float64bits", "internal/reflectlite.ValueOf", "internal/reflectlite.Swapper", "(internal/reflectlite.Value).Len", "math.Float64frombits"], unfollowed := true, recurses := true, plainKeys := false, apart := false, narrowed := true }
def OrderLongUptoSaid : Prop := orderLongUptoRow.holds Tryz.pinned (OpenSpec.upto orderLongSpec)

/-- 'endonymlaw12.OrderOpens', WHERE WHAT IT READS IS OF BULK AT MOST 1048576: true; the input reads as it did. -/
def orderOpensUptoRow : OpenClaim := { program := "ytnohcnneflogjaagreat", sum := "8e4b083bbba5e0aa39ea6522e2001bb3e8a034e53f3da73e070e12c64c6d45ad", func := "endonym/endonymlaw12.OrderOpens", spec := "orderOpens", inPlace := ["math.Float64bits", "internal/reflectlite.ValueOf", "internal/reflectlite.Swapper", "(internal/reflectlite.Value).Len", "math.Float64frombits"], unfollowed := true, recurses := true, plainKeys := false, apart := false, narrowed := true }
def OrderOpensUptoSaid : Prop := orderOpensUptoRow.holds Tryz.pinned (OpenSpec.upto orderOpensSpec)

/-- 'endonymlaw12.OrderAgain', WHERE WHAT IT READS IS OF BULK AT MOST 1048576: true; the input reads as it did. -/
def orderAgainUptoRow : OpenClaim := { program := "ytnohcnneflogjaagreat", sum := "8e4b083bbba5e0aa39ea6522e2001bb3e8a034e53f3da73e070e12c64c6d45ad", func := "endonym/endonymlaw12.OrderAgain", spec := "orderAgain", inPlace := ["math.Float64bits", "internal/reflectlite.ValueOf", "internal/reflectlite.Swapper", "(internal/reflectlite.Value).Len", "math.Float64frombits"], unfollowed := true, recurses := true, plainKeys := false, apart := false, narrowed := true }
def OrderAgainUptoSaid : Prop := orderAgainUptoRow.holds Tryz.pinned (OpenSpec.upto orderAgainSpec)

/-- 'endonymlaw12.OrderSame', WHERE WHAT IT READS IS OF BULK AT MOST 1048576: true; the input reads as it did. -/
def orderSameUptoRow : OpenClaim := { program := "ytnohcnneflogjaagreat", sum := "8e4b083bbba5e0aa39ea6522e2001bb3e8a034e53f3da73e070e12c64c6d45ad", func := "endonym/endonymlaw12.OrderSame", spec := "orderSame", inPlace := ["math.Float64bits", "internal/reflectlite.ValueOf", "internal/reflectlite.Swapper", "(internal/reflectlite.Value).Len", "math.Float64frombits"], unfollowed := true, recurses := true, plainKeys := false, apart := false, narrowed := true }
def OrderSameUptoSaid : Prop := orderSameUptoRow.holds Tryz.pinned (OpenSpec.upto orderSameSpec)

/-- 'endonymlaw13.NormHonest', WHERE WHAT IT READS IS OF BULK AT MOST 1048576: true; the input reads as it did. -/
def normHonestUptoRow : OpenClaim := { program := "ytnohcnneflogjaagreat", sum := "8e4b083bbba5e0aa39ea6522e2001bb3e8a034e53f3da73e070e12c64c6d45ad", func := "endonym/endonymlaw13.NormHonest", spec := "normHonest", inPlace := ["math.Float64bits", "internal/reflectlite.ValueOf", "internal/reflectlite.Swapper", "(internal/reflectlite.Value).Len", "math.Float64frombits"], unfollowed := true, recurses := true, plainKeys := false, apart := false, narrowed := true }
def NormHonestUptoSaid : Prop := normHonestUptoRow.holds Tryz.pinned (OpenSpec.upto normHonestSpec)

/-- 'endonymlaw13.NormJoins', WHERE WHAT IT READS IS OF BULK AT MOST 1048576: true; the input reads as it did. -/
def normJoinsUptoRow : OpenClaim := { program := "ytnohcnneflogjaagreat", sum := "8e4b083bbba5e0aa39ea6522e2001bb3e8a034e53f3da73e070e12c64c6d45ad", func := "endonym/endonymlaw13.NormJoins", spec := "normJoins", inPlace := ["math.Float64bits", "internal/reflectlite.ValueOf", "internal/reflectlite.Swapper", "(internal/reflectlite.Value).Len", "math.Float64frombits"], unfollowed := true, recurses := true, plainKeys := false, apart := false, narrowed := true }
def NormJoinsUptoSaid : Prop := normJoinsUptoRow.holds Tryz.pinned (OpenSpec.upto normJoinsSpec)

/-- 'endonymlaw13.NormShort', WHERE WHAT IT READS IS OF BULK AT MOST 1048576: true; the input reads as it did. -/
def normShortUptoRow : OpenClaim := { program := "ytnohcnneflogjaagreat", sum := "8e4b083bbba5e0aa39ea6522e2001bb3e8a034e53f3da73e070e12c64c6d45ad", func := "endonym/endonymlaw13.NormShort", spec := "normShort", inPlace := ["math.Float64bits", "internal/reflectlite.ValueOf", "internal/reflectlite.Swapper", "(internal/reflectlite.Value).Len", "math.Float64frombits"], unfollowed := true, recurses := true, plainKeys := false, apart := false, narrowed := true }
def NormShortUptoSaid : Prop := normShortUptoRow.holds Tryz.pinned (OpenSpec.upto normShortSpec)

/-- 'endonymlaw13.NormComposes', WHERE WHAT IT READS IS OF BULK AT MOST 1048576: true; the input reads as it did. -/
def normComposesUptoRow : OpenClaim := { program := "ytnohcnneflogjaagreat", sum := "8e4b083bbba5e0aa39ea6522e2001bb3e8a034e53f3da73e070e12c64c6d45ad", func := "endonym/endonymlaw13.NormComposes", spec := "normComposes", inPlace := ["math.Float64bits", "internal/reflectlite.ValueOf", "internal/reflectlite.Swapper", "(internal/reflectlite.Value).Len", "math.Float64frombits"], unfollowed := true, recurses := true, plainKeys := false, apart := false, narrowed := true }
def NormComposesUptoSaid : Prop := normComposesUptoRow.holds Tryz.pinned (OpenSpec.upto normComposesSpec)

/-- 'endonymlaw14.FeedPlays', WHERE WHAT IT READS IS OF BULK AT MOST 1048576: true; the input reads as it did. -/
def feedPlaysUptoRow : OpenClaim := { program := "ytnohcnneflogjaagreat", sum := "8e4b083bbba5e0aa39ea6522e2001bb3e8a034e53f3da73e070e12c64c6d45ad", func := "endonym/endonymlaw14.FeedPlays", spec := "feedPlays", inPlace := ["math.Float64bits", "internal/reflectlite.ValueOf", "internal/reflectlite.Swapper", "(internal/reflectlite.Value).Len", "math.Float64frombits"], unfollowed := true, recurses := true, plainKeys := false, apart := false, narrowed := true }
def FeedPlaysUptoSaid : Prop := feedPlaysUptoRow.holds Tryz.pinned (OpenSpec.upto feedPlaysSpec)

/-- 'endonymlaw14.FeedCuts', WHERE WHAT IT READS IS OF BULK AT MOST 1048576: true; the input reads as it did. -/
def feedCutsUptoRow : OpenClaim := { program := "ytnohcnneflogjaagreat", sum := "8e4b083bbba5e0aa39ea6522e2001bb3e8a034e53f3da73e070e12c64c6d45ad", func := "endonym/endonymlaw14.FeedCuts", spec := "feedCuts", inPlace := ["math.Float64bits", "internal/reflectlite.ValueOf", "internal/reflectlite.Swapper", "(internal/reflectlite.Value).Len", "math.Float64frombits"], unfollowed := true, recurses := true, plainKeys := false, apart := false, narrowed := true }
def FeedCutsUptoSaid : Prop := feedCutsUptoRow.holds Tryz.pinned (OpenSpec.upto feedCutsSpec)

/-- 'endonymlaw14.FeedSure', WHERE WHAT IT READS IS OF BULK AT MOST 1048576: true; the input reads as it did. -/
def feedSureUptoRow : OpenClaim := { program := "ytnohcnneflogjaagreat", sum := "8e4b083bbba5e0aa39ea6522e2001bb3e8a034e53f3da73e070e12c64c6d45ad", func := "endonym/endonymlaw14.FeedSure", spec := "feedSure", inPlace := ["math.Float64bits", "internal/reflectlite.ValueOf", "internal/reflectlite.Swapper", "(internal/reflectlite.Value).Len", "math.Float64frombits"], unfollowed := true, recurses := true, plainKeys := false, apart := false, narrowed := true }
def FeedSureUptoSaid : Prop := feedSureUptoRow.holds Tryz.pinned (OpenSpec.upto feedSureSpec)

/-- 'endonymlaw14.FeedHeld', WHERE WHAT IT READS IS OF BULK AT MOST 1048576: true; the input reads as it did. -/
def feedHeldUptoRow : OpenClaim := { program := "ytnohcnneflogjaagreat", sum := "8e4b083bbba5e0aa39ea6522e2001bb3e8a034e53f3da73e070e12c64c6d45ad", func := "endonym/endonymlaw14.FeedHeld", spec := "feedHeld", inPlace := ["math.Float64bits", "internal/reflectlite.ValueOf", "internal/reflectlite.Swapper", "(internal/reflectlite.Value).Len", "math.Float64frombits"], unfollowed := true, recurses := true, plainKeys := false, apart := false, narrowed := true }
def FeedHeldUptoSaid : Prop := feedHeldUptoRow.holds Tryz.pinned (OpenSpec.upto feedHeldSpec)

/-- 'endonymlaw13.NormQuick', WHERE WHAT IT READS IS OF BULK AT MOST 1048576: true; the input reads as it did. -/
def normQuickUptoRow : OpenClaim := { program := "ytnohcnneflogjaagreat", sum := "8e4b083bbba5e0aa39ea6522e2001bb3e8a034e53f3da73e070e12c64c6d45ad", func := "endonym/endonymlaw13.NormQuick", spec := "normQuick", inPlace := ["math.Float64bits", "internal/reflectlite.ValueOf", "internal/reflectlite.Swapper", "(internal/reflectlite.Value).Len", "math.Float64frombits"], unfollowed := true, recurses := true, plainKeys := false, apart := false, narrowed := true }
def NormQuickUptoSaid : Prop := normQuickUptoRow.holds Tryz.pinned (OpenSpec.upto normQuickSpec)

/-- 'endonymlaw13.NormAgain', WHERE WHAT IT READS IS OF BULK AT MOST 1048576: true; the input reads as it did. -/
def normAgainUptoRow : OpenClaim := { program := "ytnohcnneflogjaagreat", sum := "8e4b083bbba5e0aa39ea6522e2001bb3e8a034e53f3da73e070e12c64c6d45ad", func := "endonym/endonymlaw13.NormAgain", spec := "normAgain", inPlace := ["math.Float64bits", "internal/reflectlite.ValueOf", "internal/reflectlite.Swapper", "(internal/reflectlite.Value).Len", "math.Float64frombits"], unfollowed := true, recurses := true, plainKeys := false, apart := false, narrowed := true }
def NormAgainUptoSaid : Prop := normAgainUptoRow.holds Tryz.pinned (OpenSpec.upto normAgainSpec)

/-- 'endonymlaw18.LabelChecks', WHERE WHAT IT READS IS OF BULK AT MOST 1048576: true; the input reads as it did. -/
def labelChecksUptoRow : OpenClaim := { program := "ytnohcnneflogjaagreat", sum := "8e4b083bbba5e0aa39ea6522e2001bb3e8a034e53f3da73e070e12c64c6d45ad", func := "endonym/endonymlaw18.LabelChecks", spec := "labelChecks", inPlace := ["math.Float64bits", "internal/reflectlite.ValueOf", "internal/reflectlite.Swapper", "(internal/reflectlite.Value).Len", "math.Float64frombits"], unfollowed := true, recurses := true, plainKeys := false, apart := false, narrowed := true }
def LabelChecksUptoSaid : Prop := labelChecksUptoRow.holds Tryz.pinned (OpenSpec.upto labelChecksSpec)

/-- 'endonymlaw18.LabelMore', WHERE WHAT IT READS IS OF BULK AT MOST 1048576: true; the input reads as it did. -/
def labelMoreUptoRow : OpenClaim := { program := "ytnohcnneflogjaagreat", sum := "8e4b083bbba5e0aa39ea6522e2001bb3e8a034e53f3da73e070e12c64c6d45ad", func := "endonym/endonymlaw18.LabelMore", spec := "labelMore", inPlace := ["math.Float64bits", "internal/reflectlite.ValueOf", "internal/reflectlite.Swapper", "(internal/reflectlite.Value).Len", "math.Float64frombits"], unfollowed := true, recurses := true, plainKeys := false, apart := false, narrowed := true }
def LabelMoreUptoSaid : Prop := labelMoreUptoRow.holds Tryz.pinned (OpenSpec.upto labelMoreSpec)

/-- 'endonymlaw18.LabelClean', WHERE WHAT IT READS IS OF BULK AT MOST 1048576: true; the input reads as it did. -/
def labelCleanUptoRow : OpenClaim := { program := "ytnohcnneflogjaagreat", sum := "8e4b083bbba5e0aa39ea6522e2001bb3e8a034e53f3da73e070e12c64c6d45ad", func := "endonym/endonymlaw18.LabelClean", spec := "labelClean", inPlace := ["math.Float64bits", "internal/reflectlite.ValueOf", "internal/reflectlite.Swapper", "(internal/reflectlite.Value).Len", "math.Float64frombits"], unfollowed := true, recurses := true, plainKeys := false, apart := false, narrowed := true }
def LabelCleanUptoSaid : Prop := labelCleanUptoRow.holds Tryz.pinned (OpenSpec.upto labelCleanSpec)

end Rows
end Go.Proofs.YtnohcnneflogjaaGreat
