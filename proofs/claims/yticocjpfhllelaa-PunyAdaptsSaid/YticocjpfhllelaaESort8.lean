/- The walk of Encode's comparison of two places. -/
import Derived.Test.YticocjpfhllelaaESort7
set_option linter.unusedVariables false
set_option linter.unusedSimpArgs false
namespace Go.Proofs.Yticocjpfhllelaa.XP
open Go.Shelf Go.RowKit Go.Lib Go.Sort Go.Proofs.StableSort Go.Proofs.YticocjpfhllelaaW.PrintWords Go.Proofs.YticocjpfhllelaaW.PrintLast

set_option maxHeartbeats 2000000 in
set_option maxRecDepth 100000 in
theorem less_calls (gx go blk c n cx size : Nat) (ad : Addr) (W : World) (X : Nat → Int) (O : Nat → Nat)
    (hgx : W.cell? ⟨gx, 0, none⟩ = some (.slice (some ad) n cx)) (hgo : W.cell? ⟨go, 0, none⟩ = some (.slice (some ⟨blk, 0, none⟩) size c))
    (hx : ∀ t, t < n → W.cell? (ad.add t) = some (.int .i32 (X t)))
    (hc : ∀ t, t < size → W.cell? ⟨blk, t, none⟩ = some (.int .i64 (O t))) (hO : ∀ t, t < size → O t < n) (i j : Nat) (hi : i < size) (hj : j < size) (hsz : size < 4611686018427387904) (hn : n < 4611686018427387904) :
    Calls Try.prog 30 #[.int .i64 i, .int .i64 j, .pointer (some ⟨gx, 0, none⟩), .pointer (some ⟨go, 0, none⟩)] W fun e w' => e = .returned (.bool (decide (X (O i) < X (O j)))) ∧ ∃ q, w' = W.drewN q := by
  have ci := hc i hi
  have cj := hc j hj
  have oi := hO i hi
  have oj := hO j hj
  have xi := hx (O i) oi
  have xj := hx (O j) oj
  clear hc hO hx
  go_enter Try.func30, Try.ntmps30
  go_wp2
  go_quiet (fail)
  go_wp2
  go_ret
  exact ⟨rfl, nq, rfl⟩
end Go.Proofs.Yticocjpfhllelaa.XP
