/- The walk of sort.SliceStable at a row of ints. -/
import Derived.Test.YticocjpfhllelaaESort6
import Derived.Shelf.GgSortFunc.Slice
import Derived.Shelf.GgSortFunc.Small
import Derived.Deep.QuietTactic
set_option linter.unusedVariables false
set_option linter.unusedSimpArgs false
namespace Go.Proofs.Yticocjpfhllelaa.XP
open Go.Shelf Go.RowKit Go.Lib Go.Sort Go.Proofs.StableSort Go.Proofs.YticocjpfhllelaaW.PrintWords Go.Proofs.YticocjpfhllelaaW.PrintLast

noncomputable def siT : TypeInfo := (Try.prog.info? 41).get (by kernel_rfl)
noncomputable def siE : TypeInfo := (Try.prog.info? 3).get (by kernel_rfl)
theorem siK (n : Nat) (h2 : 2 ≤ n) : Lib.swapperK n siE 2 = 5 := by
  have a : siE.hasPointers = false := by kernel_rfl
  have b : siE.bytes = 8 := by kernel_rfl
  have c : (n == 0) = false := by simp; omega
  have d : (n == 1) = false := by simp; omega
  simp [Lib.swapperK, a, b, c, d]
theorem siK_name (n : Nat) : ∃ f, Try.prog.funcs.findIdx? (·.name == "internal/reflectlite" ++ ".Swapper$" ++ toString (swapperK n siE 2)) = some f ∧ (2 ≤ n → f = 52) := by
  by_cases h0 : n = 0
  · subst h0; exact ⟨48, by kernel_rfl, fun h => by omega⟩
  by_cases h1 : n = 1
  · subst h1; exact ⟨49, by kernel_rfl, fun h => by omega⟩
  exact ⟨52, by rw [siK n (by omega)]; kernel_rfl, fun _ => rfl⟩

/-- The world in which stable_func is called: two new blocks. -/
noncomputable def stWorld (p : Option Addr) (n c : Nat) (w : World) : World :=
  (w.alloc (.cells #[.slice p n c] 41)).alloc (.cells #[.pointer (some ⟨Try.prog.globals.size, 41, none⟩), .pointer (some ⟨w.heap.size, 0, none⟩), .int .u64 151] 69)

set_option maxHeartbeats 1000000 in
set_option maxRecDepth 100000 in
theorem slice_stable_of (p : Option Addr) (n c : Nat) (hn : n < 4611686018427387904) (f : Nat) (hf : Try.prog.funcs.findIdx? (·.name == "internal/reflectlite" ++ ".Swapper$" ++ toString (swapperK n siE 2)) = some f) (lf : Fn) (la lb : Array Value) (w : World) (R : World → Prop)
    (hp : Calls Try.prog 42 #[.agg #[.func lf la lb, .func (.func f) #[] (sliceBound Try.prog 3 siE 2 p n c)], .int .i64 n] (stWorld p n c w) fun e w' => e = .returned (.tuple #[]) ∧ R w') :
    Calls Try.prog 29 #[.iface 41 (.slice p n c), .func lf la lb] w fun e w' => e = .returned (.tuple #[]) ∧ R w' := by
  have hi : Try.prog.info? 41 = some siT := by kernel_rfl
  have hd : siT.desc = .slice 3 := by kernel_rfl
  have hpk : Try.prog.packed 41 = false := by kernel_rfl
  have hie : Try.prog.info? 3 = some siE := by kernel_rfl
  have hke : ∀ w, (Extern.Rtype.kind 3).run Try.prog w = .ok 2 w := fun _ => by kernel_rfl
  have hv := run_valueOf_slice (P := Try.prog) 41 3 siT hi hd p n c w
  have hs := fun w => run_swapper_slice (P := Try.prog) 41 3 siT siE hi hd hie 2 hke p n c f hf w
  have hl := fun a w ha => run_valueLen_slice (P := Try.prog) 41 3 siT hi hd hpk a p n c w ha
  unfold sliceBound stWorld at hp
  generalize (if swapperK n siE 2 ≤ 2 then (#[] : Array Value) else #[.slice p n c, typeHandle Try.prog 3]) = B at hs hp
  simp only [typeHandle] at hv hl
  generalize hG : Try.prog.globals.size = G at hv hl hp
  go_enter Try.func29, Try.ntmps29
  go_wp2
  rw [run_callFunc_extern Try.func40 (by kernel_rfl) (by kernel_rfl) (by kernel_rfl) (e := fun args => Extern.ReflectliteValue.unpack (args.getD 0 (.tuple #[]))) (by kernel_rfl),
    show Sem.run Try.prog ((fun args : Array Value => Extern.ReflectliteValue.unpack (args.getD 0 (.tuple #[]))) #[.iface 41 (.slice p n c)]) w = _ from hv]
  simp only [Result.andThen]
  rw [Oper.upon_value]
  go_wp2
  rw [run_callFunc_extern Try.func41 (by kernel_rfl) (by kernel_rfl) (by kernel_rfl) (e := Extern.ReflectliteSwapper.swapper "internal/reflectlite" (Extern.ReflectliteValue.valueError "Swapper")) (by kernel_rfl), hs]
  simp only [Result.andThen]
  rw [Oper.upon_value]
  go_wp2
  rw [run_callFunc_extern Try.func43 (by kernel_rfl) (by kernel_rfl) (by kernel_rfl) (e := Extern.ReflectliteValue.method (Extern.ReflectliteValue.valueError "reflectlite.Value.Len" 0) Extern.ReflectliteValue.len) (by kernel_rfl),
    hl _ _ (by simp)]
  simp only [Result.andThen]
  rw [Oper.upon_value]
  go_wp2_with (go_at_call 42; refine hp.mono ?_; rintro e w' ⟨rfl, hR⟩)
  go_end0
  exact ⟨rfl, hR⟩
end Go.Proofs.Yticocjpfhllelaa.XP
