/-
  No cell of these rows narrows 'for every input' (looked for: loops, veiled, ifaces, maps, wideKeys, modest, calm, conditions, laid).
  DERIVED. THE GIVEN ROWS OF THIS SEAT. 7 by the template 'for every input the law returns true; each argument reads behind the call as it read before'; 0 by the template 'total and deterministic' (their statements: YticocjpfhllelaaTotals.lean).
  GIVEN WITH THE SEED: the statements are not yours to turn. If you find one false, say at which input.
  Laid BY PROGRAM, IN A SANDBOX (cutbox-rows.mjs): the forced cells as the released guide's own fill.sh prints them over the translation 39038d3d1cc09e69… (all of the seat's roots in one cut). By AI agents, Wed Nov 11 2026. No macro, syntax, notation, axiom, sorry.
-/
import Derived.Test.YticocjpfhllelaaChecked
import GoSem.Claim
import GoSem.ClaimJoined
import GoSem.ClaimMapViews
import Derived.JoinedTies
import Derived.KernelRfl
namespace Go.Proofs.Yticocjpfhllelaa
/- THE CELL 'sum', in the pinned program and in every row, IS THE sha256 OF THE DUMP (.gsa) THAT YticocjpfhllelaaProg.lean LOADS. Nothing in Lean hashes anything: it is a label: what it is worth is what the hold of that sum in a sandbox is worth. -/
noncomputable def Try.pinned : Pinned := { name := "yticocjpfhllelaa", sum := "39038d3d1cc09e69fd68372a2a9edf2f80a4fc95d48fddb0d79427a4ed818f69", checked := Try.checked }
namespace Rows
def none {H : Type} : Left H := { results := [], args := [] }

/-- 'endonymlaw11.PunyEncodes': WHATEVER THE INPUT: true; the input reads as it did. -/
def punyEncodesSpec : ChangeSpec := { name := "punyEncodes", fn := fun _ => fun
  | [d] => { results := [.lit (.bool true)], args := [d] }
  | _ => none }
def punyEncodesRow : OpenClaim := { program := "yticocjpfhllelaa", sum := "39038d3d1cc09e69fd68372a2a9edf2f80a4fc95d48fddb0d79427a4ed818f69", func := "endonym/endonymlaw11.PunyEncodes", spec := "punyEncodes", inPlace := ["internal/reflectlite.ValueOf", "internal/reflectlite.Swapper", "(internal/reflectlite.Value).Len"], unfollowed := true, recurses := true, apart := false }
def PunyEncodesSaid : Prop := punyEncodesRow.holds Try.pinned (OpenSpec.ofChange punyEncodesSpec)

/-- ITS FALSE NEIGHBOUR: 'it returns false'. Refute it at one input. -/
def punyEncodesWrong : ChangeSpec := { name := "punyEncodes", fn := fun _ => fun
  | [d] => { results := [.lit (.bool false)], args := [d] }
  | _ => none }
def PunyEncodesWrongFalsely : Prop := punyEncodesRow.holds Try.pinned (OpenSpec.ofChange punyEncodesWrong)

/-- 'endonymlaw11.PunyDecodes': WHATEVER THE INPUT: true; the input reads as it did. -/
def punyDecodesSpec : ChangeSpec := { name := "punyDecodes", fn := fun _ => fun
  | [d] => { results := [.lit (.bool true)], args := [d] }
  | _ => none }
def punyDecodesRow : OpenClaim := { program := "yticocjpfhllelaa", sum := "39038d3d1cc09e69fd68372a2a9edf2f80a4fc95d48fddb0d79427a4ed818f69", func := "endonym/endonymlaw11.PunyDecodes", spec := "punyDecodes", inPlace := ["internal/reflectlite.ValueOf", "internal/reflectlite.Swapper", "(internal/reflectlite.Value).Len"], unfollowed := true, recurses := true, apart := false }
def PunyDecodesSaid : Prop := punyDecodesRow.holds Try.pinned (OpenSpec.ofChange punyDecodesSpec)

/-- ITS FALSE NEIGHBOUR: 'it returns false'. Refute it at one input. -/
def punyDecodesWrong : ChangeSpec := { name := "punyDecodes", fn := fun _ => fun
  | [d] => { results := [.lit (.bool false)], args := [d] }
  | _ => none }
def PunyDecodesWrongFalsely : Prop := punyDecodesRow.holds Try.pinned (OpenSpec.ofChange punyDecodesWrong)

/-- 'endonymlaw11.PunyAdapts': WHATEVER THE INPUT: true; the input reads as it did. -/
def punyAdaptsSpec : ChangeSpec := { name := "punyAdapts", fn := fun _ => fun
  | [d1, d2, d3] => { results := [.lit (.bool true)], args := [d1, d2, d3] }
  | _ => none }
def punyAdaptsRow : OpenClaim := { program := "yticocjpfhllelaa", sum := "39038d3d1cc09e69fd68372a2a9edf2f80a4fc95d48fddb0d79427a4ed818f69", func := "endonym/endonymlaw11.PunyAdapts", spec := "punyAdapts", inPlace := ["internal/reflectlite.ValueOf", "internal/reflectlite.Swapper", "(internal/reflectlite.Value).Len"], unfollowed := true, recurses := true, apart := false }
def PunyAdaptsSaid : Prop := punyAdaptsRow.holds Try.pinned (OpenSpec.ofChange punyAdaptsSpec)

/-- ITS FALSE NEIGHBOUR: 'it returns false'. Refute it at one input. -/
def punyAdaptsWrong : ChangeSpec := { name := "punyAdapts", fn := fun _ => fun
  | [d1, d2, d3] => { results := [.lit (.bool false)], args := [d1, d2, d3] }
  | _ => none }
def PunyAdaptsWrongFalsely : Prop := punyAdaptsRow.holds Try.pinned (OpenSpec.ofChange punyAdaptsWrong)

/-- 'endonymlaw11.PunyBack': WHATEVER THE INPUT: true; the input reads as it did. -/
def punyBackSpec : ChangeSpec := { name := "punyBack", fn := fun _ => fun
  | [d] => { results := [.lit (.bool true)], args := [d] }
  | _ => none }
def punyBackRow : OpenClaim := { program := "yticocjpfhllelaa", sum := "39038d3d1cc09e69fd68372a2a9edf2f80a4fc95d48fddb0d79427a4ed818f69", func := "endonym/endonymlaw11.PunyBack", spec := "punyBack", inPlace := ["internal/reflectlite.ValueOf", "internal/reflectlite.Swapper", "(internal/reflectlite.Value).Len"], unfollowed := true, recurses := true, apart := false }
def PunyBackSaid : Prop := punyBackRow.holds Try.pinned (OpenSpec.ofChange punyBackSpec)

/-- ITS FALSE NEIGHBOUR: 'it returns false'. Refute it at one input. -/
def punyBackWrong : ChangeSpec := { name := "punyBack", fn := fun _ => fun
  | [d] => { results := [.lit (.bool false)], args := [d] }
  | _ => none }
def PunyBackWrongFalsely : Prop := punyBackRow.holds Try.pinned (OpenSpec.ofChange punyBackWrong)

/-- 'endonymlaw11.PunyForth': WHATEVER THE INPUT: true; the input reads as it did. -/
def punyForthSpec : ChangeSpec := { name := "punyForth", fn := fun _ => fun
  | [d] => { results := [.lit (.bool true)], args := [d] }
  | _ => none }
def punyForthRow : OpenClaim := { program := "yticocjpfhllelaa", sum := "39038d3d1cc09e69fd68372a2a9edf2f80a4fc95d48fddb0d79427a4ed818f69", func := "endonym/endonymlaw11.PunyForth", spec := "punyForth", inPlace := ["internal/reflectlite.ValueOf", "internal/reflectlite.Swapper", "(internal/reflectlite.Value).Len"], unfollowed := true, recurses := true, apart := false }
def PunyForthSaid : Prop := punyForthRow.holds Try.pinned (OpenSpec.ofChange punyForthSpec)

/-- ITS FALSE NEIGHBOUR: 'it returns false'. Refute it at one input. -/
def punyForthWrong : ChangeSpec := { name := "punyForth", fn := fun _ => fun
  | [d] => { results := [.lit (.bool false)], args := [d] }
  | _ => none }
def PunyForthWrongFalsely : Prop := punyForthRow.holds Try.pinned (OpenSpec.ofChange punyForthWrong)

/-- 'endonymlaw11.PunyPlain': WHATEVER THE INPUT: true; the input reads as it did. -/
def punyPlainSpec : ChangeSpec := { name := "punyPlain", fn := fun _ => fun
  | [d] => { results := [.lit (.bool true)], args := [d] }
  | _ => none }
def punyPlainRow : OpenClaim := { program := "yticocjpfhllelaa", sum := "39038d3d1cc09e69fd68372a2a9edf2f80a4fc95d48fddb0d79427a4ed818f69", func := "endonym/endonymlaw11.PunyPlain", spec := "punyPlain", inPlace := ["internal/reflectlite.ValueOf", "internal/reflectlite.Swapper", "(internal/reflectlite.Value).Len"], unfollowed := true, recurses := true, apart := false }
def PunyPlainSaid : Prop := punyPlainRow.holds Try.pinned (OpenSpec.ofChange punyPlainSpec)

/-- ITS FALSE NEIGHBOUR: 'it returns false'. Refute it at one input. -/
def punyPlainWrong : ChangeSpec := { name := "punyPlain", fn := fun _ => fun
  | [d] => { results := [.lit (.bool false)], args := [d] }
  | _ => none }
def PunyPlainWrongFalsely : Prop := punyPlainRow.holds Try.pinned (OpenSpec.ofChange punyPlainWrong)

/-- 'endonymlaw11.PunyHands': WHATEVER THE INPUT: true; the input reads as it did. -/
def punyHandsSpec : ChangeSpec := { name := "punyHands", fn := fun _ => fun
  | [d1, d2] => { results := [.lit (.bool true)], args := [d1, d2] }
  | _ => none }
def punyHandsRow : OpenClaim := { program := "yticocjpfhllelaa", sum := "39038d3d1cc09e69fd68372a2a9edf2f80a4fc95d48fddb0d79427a4ed818f69", func := "endonym/endonymlaw11.PunyHands", spec := "punyHands", inPlace := ["internal/reflectlite.ValueOf", "internal/reflectlite.Swapper", "(internal/reflectlite.Value).Len"], unfollowed := true, recurses := true, apart := false }
def PunyHandsSaid : Prop := punyHandsRow.holds Try.pinned (OpenSpec.ofChange punyHandsSpec)

/-- ITS FALSE NEIGHBOUR: 'it returns false'. Refute it at one input. -/
def punyHandsWrong : ChangeSpec := { name := "punyHands", fn := fun _ => fun
  | [d1, d2] => { results := [.lit (.bool false)], args := [d1, d2] }
  | _ => none }
def PunyHandsWrongFalsely : Prop := punyHandsRow.holds Try.pinned (OpenSpec.ofChange punyHandsWrong)

/- THE SECOND FORM. 'bulk': how many values and letters a reading holds, each counted each time it is reached (what is shared counts as often as it is met; a slice's spare places count too). A statement '..UptoSaid' is the law's where the arguments, and the package variables that the reading takes, are together of bulk at most 1048576: NARROWER than '..Said'. Prove '..Said' where nothing that the law and all that it calls make is longer than what came in: it says more and counts as full. Else prove '..UptoSaid'. A law counts once. -/
mutual
def uptoBulk {H : Type} : DataW H → Nat
  | .lit (.string bytes) => bytes.length + 1
  | .lit _ => 1
  | .nil => 1
  | .ptr d => uptoBulk d + 1
  | .slice elems spare => uptoBulkAll elems + uptoBulkAll spare + 1
  | .agg parts => uptoBulkAll parts + 1
  | .iface _ d => uptoBulk d + 1
  | .map entries => uptoBulkEntries entries + 1
  | .held _ => 1
def uptoBulkAll {H : Type} : List (DataW H) → Nat
  | [] => 0
  | d :: r => uptoBulk d + uptoBulkAll r
def uptoBulkEntries {H : Type} : List (Lit × DataW H) → Nat
  | [] => 0
  | x :: r => uptoBulkEntry x + uptoBulkEntries r
def uptoBulkEntry {H : Type} : Lit × DataW H → Nat
  | (.string bytes, d) => bytes.length + uptoBulk d + 1
  | (_, d) => uptoBulk d + 1
 end
def uptoSmall : (H : Type) → List (DataW H) → Bool := fun _ ds => decide (uptoBulkAll ds ≤ 1048576)
def OpenSpec.upto (s : _root_.Go.ChangeSpec) : _root_.Go.OpenSpec := { _root_.Go.OpenSpec.ofChange s with cond := some uptoSmall }

/-- 'endonymlaw11.PunyEncodes', WHERE WHAT IT READS IS OF BULK AT MOST 1048576: true; the input reads as it did. -/
def punyEncodesUptoRow : OpenClaim := { program := "yticocjpfhllelaa", sum := "39038d3d1cc09e69fd68372a2a9edf2f80a4fc95d48fddb0d79427a4ed818f69", func := "endonym/endonymlaw11.PunyEncodes", spec := "punyEncodes", inPlace := ["internal/reflectlite.ValueOf", "internal/reflectlite.Swapper", "(internal/reflectlite.Value).Len"], unfollowed := true, recurses := true, apart := false, narrowed := true }
def PunyEncodesUptoSaid : Prop := punyEncodesUptoRow.holds Try.pinned (OpenSpec.upto punyEncodesSpec)

/-- 'endonymlaw11.PunyDecodes', WHERE WHAT IT READS IS OF BULK AT MOST 1048576: true; the input reads as it did. -/
def punyDecodesUptoRow : OpenClaim := { program := "yticocjpfhllelaa", sum := "39038d3d1cc09e69fd68372a2a9edf2f80a4fc95d48fddb0d79427a4ed818f69", func := "endonym/endonymlaw11.PunyDecodes", spec := "punyDecodes", inPlace := ["internal/reflectlite.ValueOf", "internal/reflectlite.Swapper", "(internal/reflectlite.Value).Len"], unfollowed := true, recurses := true, apart := false, narrowed := true }
def PunyDecodesUptoSaid : Prop := punyDecodesUptoRow.holds Try.pinned (OpenSpec.upto punyDecodesSpec)

/-- 'endonymlaw11.PunyAdapts', WHERE WHAT IT READS IS OF BULK AT MOST 1048576: true; the input reads as it did. -/
def punyAdaptsUptoRow : OpenClaim := { program := "yticocjpfhllelaa", sum := "39038d3d1cc09e69fd68372a2a9edf2f80a4fc95d48fddb0d79427a4ed818f69", func := "endonym/endonymlaw11.PunyAdapts", spec := "punyAdapts", inPlace := ["internal/reflectlite.ValueOf", "internal/reflectlite.Swapper", "(internal/reflectlite.Value).Len"], unfollowed := true, recurses := true, apart := false, narrowed := true }
def PunyAdaptsUptoSaid : Prop := punyAdaptsUptoRow.holds Try.pinned (OpenSpec.upto punyAdaptsSpec)

/-- 'endonymlaw11.PunyBack', WHERE WHAT IT READS IS OF BULK AT MOST 1048576: true; the input reads as it did. -/
def punyBackUptoRow : OpenClaim := { program := "yticocjpfhllelaa", sum := "39038d3d1cc09e69fd68372a2a9edf2f80a4fc95d48fddb0d79427a4ed818f69", func := "endonym/endonymlaw11.PunyBack", spec := "punyBack", inPlace := ["internal/reflectlite.ValueOf", "internal/reflectlite.Swapper", "(internal/reflectlite.Value).Len"], unfollowed := true, recurses := true, apart := false, narrowed := true }
def PunyBackUptoSaid : Prop := punyBackUptoRow.holds Try.pinned (OpenSpec.upto punyBackSpec)

/-- 'endonymlaw11.PunyForth', WHERE WHAT IT READS IS OF BULK AT MOST 1048576: true; the input reads as it did. -/
def punyForthUptoRow : OpenClaim := { program := "yticocjpfhllelaa", sum := "39038d3d1cc09e69fd68372a2a9edf2f80a4fc95d48fddb0d79427a4ed818f69", func := "endonym/endonymlaw11.PunyForth", spec := "punyForth", inPlace := ["internal/reflectlite.ValueOf", "internal/reflectlite.Swapper", "(internal/reflectlite.Value).Len"], unfollowed := true, recurses := true, apart := false, narrowed := true }
def PunyForthUptoSaid : Prop := punyForthUptoRow.holds Try.pinned (OpenSpec.upto punyForthSpec)

/-- 'endonymlaw11.PunyPlain', WHERE WHAT IT READS IS OF BULK AT MOST 1048576: true; the input reads as it did. -/
def punyPlainUptoRow : OpenClaim := { program := "yticocjpfhllelaa", sum := "39038d3d1cc09e69fd68372a2a9edf2f80a4fc95d48fddb0d79427a4ed818f69", func := "endonym/endonymlaw11.PunyPlain", spec := "punyPlain", inPlace := ["internal/reflectlite.ValueOf", "internal/reflectlite.Swapper", "(internal/reflectlite.Value).Len"], unfollowed := true, recurses := true, apart := false, narrowed := true }
def PunyPlainUptoSaid : Prop := punyPlainUptoRow.holds Try.pinned (OpenSpec.upto punyPlainSpec)

/-- 'endonymlaw11.PunyHands', WHERE WHAT IT READS IS OF BULK AT MOST 1048576: true; the input reads as it did. -/
def punyHandsUptoRow : OpenClaim := { program := "yticocjpfhllelaa", sum := "39038d3d1cc09e69fd68372a2a9edf2f80a4fc95d48fddb0d79427a4ed818f69", func := "endonym/endonymlaw11.PunyHands", spec := "punyHands", inPlace := ["internal/reflectlite.ValueOf", "internal/reflectlite.Swapper", "(internal/reflectlite.Value).Len"], unfollowed := true, recurses := true, apart := false, narrowed := true }
def PunyHandsUptoSaid : Prop := punyHandsUptoRow.holds Try.pinned (OpenSpec.upto punyHandsSpec)

end Rows
end Go.Proofs.Yticocjpfhllelaa
