/- In plain Lean: Adapt is the document's, at any numbers. -/
import Derived.Test.YticocjpfhllelaaXP8
import Derived.Test.YticocjpfhllelaaPP1
import Derived.OpenShut
namespace Go.Proofs.Yticocjpfhllelaa.Pure
open Go.RowKit Go.Proofs.Yticocjpfhllelaa.XP Go.Proofs.YticocjpfhllelaaW.PrintWords Go.Proofs.YticocjpfhllelaaW.PrintLast

theorem PunyAdapts : endonymlaw11_PunyAdapts.Pure := by
  intro a0 a1 a2 w0 w1
  refine ⟨100, ?_⟩
  have h := Go.bounds_i64 w0
  unfold endonymlaw11_PunyAdapts.f
  rw [told_f 100 (Nat.le_refl _), radapt_eq, adapt_f a0 a1 a2 h.1 h.2 100 (by omega)]
  simp

end Go.Proofs.Yticocjpfhllelaa.Pure
