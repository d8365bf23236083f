/- The contract of puny.Encode. -/
import Derived.Test.YticocjpfhllelaaEEnc1
import Derived.Test.YticocjpfhllelaaESort4
namespace Go.Proofs.Yticocjpfhllelaa.XP
open Go.RowKit Go.Proofs.YticocjpfhllelaaW.PrintWords Go.Proofs.YticocjpfhllelaaW.PrintLast

/-- puny.Encode. -/
def puny_Encode.f (l : List Int) : Option (ByteArray × Int) := encFn l
theorem puny_Encode.calls (A0 : Option Addr) (c0 : Nat) (l0 : List Int) (r1 : ByteArray) (r2 : Int) (w : World) (hr0 : Kd.C (Kd.int .i32) w A0 l0.length l0) (hc0 : l0.length ≤ c0) (h : puny_Encode.f l0 = some (r1, r2)) :
    Calls Try.prog 11 #[.slice A0 l0.length c0] w fun e w' => e = .returned (.tuple #[.string r1, .int .i64 r2]) ∧ Below w.heap.size w w' :=
  enc_calls A0 c0 l0 (fun _ _ _ _ _ => symOk) r1 r2 w hr0 hc0 h
end Go.Proofs.Yticocjpfhllelaa.XP
