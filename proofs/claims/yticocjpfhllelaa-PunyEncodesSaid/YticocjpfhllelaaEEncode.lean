/- The walk of sort.symMerge_func: two sorted neighbours are merged, equals keep their order. -/
import Derived.Test.YticocjpfhllelaaESort4A
import Derived.Test.YticocjpfhllelaaESort4B
import Derived.Test.YticocjpfhllelaaEEnc1
namespace Go.Proofs.Yticocjpfhllelaa.XP
open Go.Shelf Go.RowKit Go.Lib Go.Sort Go.Proofs.StableSort Go.Proofs.YticocjpfhllelaaW.PrintWords Go.Proofs.YticocjpfhllelaaW.PrintLast
variable {α : Type} [Inhabited α]

theorem sym_calls (enc : α → Value) (lt tot : α → α → Bool) (hO : SWO tot) (g : Nat) (lb : Array Value) (sf : Nat) (sb : Array Value) (blk off size : Nat)
    (eg : ∀ args w, (callFunc g args).run Try.prog w = .ok (.enter g args) w) (hswap : SwapSwaps Try.prog sf sb enc blk off size) (hsz : size < 4611686018427387904) :
    ∀ (f a m b : Nat) (d : Array α) (w : World), b - a ≤ f → LessReads Try.prog g lb enc lt blk off size w → Holds enc w blk off d → blk < w.heap.size → a < m → m < b → b ≤ d.size → d.size = size →
      SortedIn tot a m d → SortedIn tot m b d → Pre lt tot a m b d →
    Calls Try.prog 58 #[.agg #[.func (.func g) #[] lb, .func (.func sf) #[] sb], .int .i64 a, .int .i64 m, .int .i64 b] w fun e w' =>
      e = .returned (.tuple #[]) ∧ ∃ d', PermIn a b d d' ∧ SortedIn tot a b d' ∧ SW enc w blk off d' w'
  | 0, a, m, b, d, w, hf, _, _, _, _, _, _, _, _, _, _ => by omega
  | f + 1, a, m, b, d, w, hf, hless, hH, hblk, ham, hmb, hb, hds, sL, sR, hP => by
    subst hds
    by_cases hm1 : m = a + 1
    · exact sym_left enc lt tot hO g lb sf sb blk off a m b d w eg hless hswap hH hblk hm1 hmb hb hsz sR hP
    by_cases hb1 : b = m + 1
    · exact sym_right enc lt tot hO g lb sf sb blk off a m b d w eg hless hswap hH hblk (by omega) hb1 hb hsz sL hP
    have IH := sym_calls enc lt tot hO g lb sf sb blk off d.size eg hswap hsz f
    by_cases hcase : (a + b) / 2 < m
    · exact sym_A enc lt tot hO g lb sf sb blk off d eg hswap hsz f IH a m b w hf hless hH hblk ham hmb hb sL sR hP hm1 hb1 hcase
    · exact sym_B enc lt tot hO g lb sf sb blk off d eg hswap hsz f IH a m b w hf hless hH hblk ham hmb hb sL sR hP hm1 hb1 hcase
theorem symOk : SymOk := fun m lt tot hO g lb sf sb blk off size eg hs hz => sym_calls (encF m) lt tot hO g lb sf sb blk off size eg hs hz
end Go.Proofs.Yticocjpfhllelaa.XP
/-! The contract of puny.Encode. -/
namespace Go.Proofs.Yticocjpfhllelaa.XP
open Go.RowKit Go.Proofs.YticocjpfhllelaaW.PrintWords Go.Proofs.YticocjpfhllelaaW.PrintLast

/-- puny.Encode. -/
def puny_Encode.f (l : List Int) : Option (ByteArray × Int) := encFn l
theorem puny_Encode.calls (A0 : Option Addr) (c0 : Nat) (l0 : List Int) (r1 : ByteArray) (r2 : Int) (w : World) (hr0 : Kd.C (Kd.int .i32) w A0 l0.length l0) (hc0 : l0.length ≤ c0) (h : puny_Encode.f l0 = some (r1, r2)) :
    Calls Try.prog 11 #[.slice A0 l0.length c0] w fun e w' => e = .returned (.tuple #[.string r1, .int .i64 r2]) ∧ Below w.heap.size w w' :=
  enc_calls A0 c0 l0 (fun _ _ _ _ _ => symOk) r1 r2 w hr0 hc0 h
end Go.Proofs.Yticocjpfhllelaa.XP
