/- The walk of sort.symMerge_func: two sorted neighbours are merged, equals keep their order. -/
import Derived.Test.YticocjpfhllelaaESort4A
import Derived.Test.YticocjpfhllelaaESort4B
import Derived.Test.YticocjpfhllelaaEEnc1
namespace Go.Proofs.Yticocjpfhllelaa.XP
open Go.Shelf Go.RowKit Go.Lib Go.Sort Go.Proofs.StableSort Go.Proofs.YticocjpfhllelaaW.PrintWords Go.Proofs.YticocjpfhllelaaW.PrintLast
variable {α : Type} [Inhabited α]

theorem sym_calls (enc : α → Value) (lt tot : α → α → Bool) (hO : SWO tot) (g : Nat) (lb : Array Value) (sf : Nat) (sb : Array Value) (blk off size : Nat)
    (eg : ∀ args w, (callFunc g args).run Try.prog w = .ok (.enter g args) w) (hswap : SwapSwaps Try.prog sf sb enc blk off size) (hsz : size < 4611686018427387904) :
    ∀ (f a m b : Nat) (d : Array α) (w : World), b - a ≤ f → LessReads Try.prog g lb enc lt blk off size w → Holds enc w blk off d → blk < w.heap.size → a < m → m < b → b ≤ d.size → d.size = size →
      SortedIn tot a m d → SortedIn tot m b d → Pre lt tot a m b d →
    Calls Try.prog 58 #[.agg #[.func (.func g) #[] lb, .func (.func sf) #[] sb], .int .i64 a, .int .i64 m, .int .i64 b] w fun e w' =>
      e = .returned (.tuple #[]) ∧ ∃ d', PermIn a b d d' ∧ SortedIn tot a b d' ∧ SW enc w blk off d' w'
  | 0, a, m, b, d, w, hf, _, _, _, _, _, _, _, _, _, _ => by omega
  | f + 1, a, m, b, d, w, hf, hless, hH, hblk, ham, hmb, hb, hds, sL, sR, hP => by
    subst hds
    by_cases hm1 : m = a + 1
    · exact sym_left enc lt tot hO g lb sf sb blk off a m b d w eg hless hswap hH hblk hm1 hmb hb hsz sR hP
    by_cases hb1 : b = m + 1
    · exact sym_right enc lt tot hO g lb sf sb blk off a m b d w eg hless hswap hH hblk (by omega) hb1 hb hsz sL hP
    have IH := sym_calls enc lt tot hO g lb sf sb blk off d.size eg hswap hsz f
    by_cases hcase : (a + b) / 2 < m
    · exact sym_A enc lt tot hO g lb sf sb blk off d eg hswap hsz f IH a m b w hf hless hH hblk ham hmb hb sL sR hP hm1 hb1 hcase
    · exact sym_B enc lt tot hO g lb sf sb blk off d eg hswap hsz f IH a m b w hf hless hH hblk ham hmb hb sL sR hP hm1 hb1 hcase
theorem symOk : SymOk := fun m lt tot hO g lb sf sb blk off size eg hs hz => sym_calls (encF m) lt tot hO g lb sf sb blk off size eg hs hz
end Go.Proofs.Yticocjpfhllelaa.XP
