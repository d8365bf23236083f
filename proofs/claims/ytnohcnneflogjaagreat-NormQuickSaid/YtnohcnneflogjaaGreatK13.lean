/- sort.Slice and what it reaches, laid at this dump (plain text of what the kit's shelf_lay lays). -/
import Derived.Test.YtnohcnneflogjaaGreatProg
import Derived.Shelf.GgSortFunc.Lays
import Derived.KernelRfl
import Derived.Test.YtnohcnneflogjaaGreatK12
import Derived.Shelf.SlSortFuncK.WholeK
import Derived.Shelf.GgSortFunc.Tiny
set_option maxHeartbeats 8000000
namespace Go.Proofs.YtnohcnneflogjaaGreat.M
open Go.Shelf
def sl6_ren : Ren := {
 f := fun x => match x with
   | 6 => 187
   | 10 => 210
   | 11 => 211
   | 12 => 212
   | 13 => 213
   | 14 => 214
   | 24 => 236
   | 25 => 237
   | 26 => 238
   | 27 => 239
   | 28 => 240
   | 29 => 241
   | 30 => 242
   | 31 => 243
   | 32 => 244
   | 33 => 245
   | 34 => 250
   | 35 => 251
   | 36 => 252
   | 37 => 253
   | 38 => 254
   | 39 => 256
   | n => n
 t := fun x => match x with
   | 20 => 20
   | 26 => 206
   | 35 => 224
   | 0 => 0
   | 37 => 226
   | 3 => 3
   | 41 => 102
   | 44 => 232
   | 49 => 243
   | 51 => 182
   | 4 => 4
   | 54 => 247
   | 53 => 246
   | 58 => 251
   | 5 => 5
   | 9 => 9
   | 60 => 254
   | 64 => 258
   | 66 => 261
   | 67 => 106
   | 17 => 17
   | 32 => 221
   | 33 => 222
   | 82 => 276
   | 12 => 12
   | 75 => 269
   | 76 => 270
   | 77 => 271
   | 78 => 272
   | 79 => 273
   | 80 => 274
   | n => n
 g := fun x => have n := x; n }
theorem sl6 : LaysGg.n6 Tryz.prog sl6_ren := {
 mixed := by kernel_rfl
 f6 := by kernel_rfl
 f10 := by kernel_rfl
 f11 := by kernel_rfl
 f12 := by kernel_rfl
 f13 := by kernel_rfl
 f14 := by kernel_rfl
 f24 := by kernel_rfl
 f25 := by kernel_rfl
 f26 := by kernel_rfl
 f27 := by kernel_rfl
 f28 := by kernel_rfl
 f29 := by kernel_rfl
 f30 := by kernel_rfl
 f31 := by kernel_rfl
 f32 := by kernel_rfl
 f33 := by kernel_rfl
 f34 := by kernel_rfl
 f35 := by kernel_rfl
 f36 := by kernel_rfl
 f37 := by kernel_rfl
 f38 := by kernel_rfl
 f39 := by kernel_rfl
 t0 := Tryz.underlying0
 a0 := Tryz.isAgg0
 z0 := Tryz.sizeOf0
 v0 := Tryz.zeroValue0
 i0 := by kernel_rfl
 t3 := Tryz.underlying3
 a3 := Tryz.isAgg3
 z3 := Tryz.sizeOf3
 v3 := Tryz.zeroValue3
 i3 := by kernel_rfl
 t4 := Tryz.underlying4
 a4 := Tryz.isAgg4
 z4 := Tryz.sizeOf4
 v4 := Tryz.zeroValue4
 i4 := by kernel_rfl
 t5 := Tryz.underlying5
 a5 := Tryz.isAgg5
 z5 := Tryz.sizeOf5
 v5 := Tryz.zeroValue5
 i5 := by kernel_rfl
 t9 := Tryz.underlying9
 a9 := Tryz.isAgg9
 z9 := Tryz.sizeOf9
 v9 := Tryz.zeroValue9
 i9 := by kernel_rfl
 t12 := Tryz.underlying12
 a12 := Tryz.isAgg12
 z12 := Tryz.sizeOf12
 v12 := Tryz.zeroValue12
 i12 := by kernel_rfl
 t17 := Tryz.underlying17
 a17 := Tryz.isAgg17
 z17 := Tryz.sizeOf17
 v17 := Tryz.zeroValue17
 i17 := by kernel_rfl
 t20 := Tryz.underlying20
 a20 := Tryz.isAgg20
 z20 := Tryz.sizeOf20
 v20 := Tryz.zeroValue20
 i20 := by kernel_rfl
 t26 := Tryz.underlying206
 a26 := Tryz.isAgg206
 z26 := Tryz.sizeOf206
 v26 := Tryz.zeroValue206
 i26 := by kernel_rfl
 t32 := Tryz.underlying221
 a32 := Tryz.isAgg221
 z32 := Tryz.sizeOf221
 v32 := Tryz.zeroValue221
 i32 := by kernel_rfl
 t33 := Tryz.underlying222
 a33 := Tryz.isAgg222
 z33 := Tryz.sizeOf222
 v33 := Tryz.zeroValue222
 i33 := by kernel_rfl
 t35 := Tryz.underlying224
 a35 := Tryz.isAgg224
 z35 := Tryz.sizeOf224
 v35 := Tryz.zeroValue224
 i35 := by kernel_rfl
 t37 := Tryz.underlying226
 a37 := Tryz.isAgg226
 z37 := Tryz.sizeOf226
 v37 := Tryz.zeroValue226
 i37 := by kernel_rfl
 t41 := Tryz.underlying102
 a41 := Tryz.isAgg102
 z41 := Tryz.sizeOf102
 v41 := Tryz.zeroValue102
 i41 := by kernel_rfl
 t44 := Tryz.underlying232
 a44 := Tryz.isAgg232
 z44 := Tryz.sizeOf232
 v44 := Tryz.zeroValue232
 i44 := by kernel_rfl
 t49 := Tryz.underlying243
 a49 := Tryz.isAgg243
 z49 := Tryz.sizeOf243
 v49 := Tryz.zeroValue243
 i49 := by kernel_rfl
 t51 := Tryz.underlying182
 a51 := Tryz.isAgg182
 z51 := Tryz.sizeOf182
 v51 := Tryz.zeroValue182
 i51 := by kernel_rfl
 t53 := Tryz.underlying246
 a53 := Tryz.isAgg246
 z53 := Tryz.sizeOf246
 v53 := Tryz.zeroValue246
 i53 := by kernel_rfl
 t54 := Tryz.underlying247
 a54 := Tryz.isAgg247
 z54 := Tryz.sizeOf247
 v54 := Tryz.zeroValue247
 i54 := by kernel_rfl
 t58 := Tryz.underlying251
 a58 := Tryz.isAgg251
 z58 := Tryz.sizeOf251
 v58 := Tryz.zeroValue251
 i58 := by kernel_rfl
 t60 := Tryz.underlying254
 a60 := Tryz.isAgg254
 z60 := Tryz.sizeOf254
 v60 := Tryz.zeroValue254
 i60 := by kernel_rfl
 t64 := Tryz.underlying258
 a64 := Tryz.isAgg258
 z64 := Tryz.sizeOf258
 v64 := Tryz.zeroValue258
 i64 := by kernel_rfl
 t66 := Tryz.underlying261
 a66 := Tryz.isAgg261
 z66 := Tryz.sizeOf261
 v66 := Tryz.zeroValue261
 i66 := by kernel_rfl
 t67 := Tryz.underlying106
 a67 := Tryz.isAgg106
 z67 := Tryz.sizeOf106
 v67 := Tryz.zeroValue106
 i67 := by kernel_rfl
 t75 := Tryz.underlying269
 a75 := Tryz.isAgg269
 z75 := Tryz.sizeOf269
 v75 := Tryz.zeroValue269
 i75 := by kernel_rfl
 t76 := Tryz.underlying270
 a76 := Tryz.isAgg270
 z76 := Tryz.sizeOf270
 v76 := Tryz.zeroValue270
 i76 := by kernel_rfl
 t77 := Tryz.underlying271
 a77 := Tryz.isAgg271
 z77 := Tryz.sizeOf271
 v77 := Tryz.zeroValue271
 i77 := by kernel_rfl
 t78 := Tryz.underlying272
 a78 := Tryz.isAgg272
 z78 := Tryz.sizeOf272
 v78 := Tryz.zeroValue272
 i78 := by kernel_rfl
 t79 := Tryz.underlying273
 a79 := Tryz.isAgg273
 z79 := Tryz.sizeOf273
 v79 := Tryz.zeroValue273
 i79 := by kernel_rfl
 t80 := Tryz.underlying274
 a80 := Tryz.isAgg274
 z80 := Tryz.sizeOf274
 v80 := Tryz.zeroValue274
 i80 := by kernel_rfl
 t82 := Tryz.underlying276
 a82 := Tryz.isAgg276
 z82 := Tryz.sizeOf276
 v82 := Tryz.zeroValue276
 i82 := by kernel_rfl }
end Go.Proofs.YtnohcnneflogjaaGreat.M
set_option linter.unusedVariables false
set_option linter.unusedSimpArgs false
namespace Go.Proofs.YtnohcnneflogjaaGreat.M
open Go.Shelf Go.RowKit Go.Lib Go.Sort
def encRng (r : Rng) : List Value := [.int .i64 r.lo, .int .i64 r.hi, .int .i64 r.val]
def ltRng (a b : Rng) : Bool := decide (a.lo < b.lo)
theorem swo_ltRng : SWO ltRng where
 irrefl := fun x => by simp [ltRng]
 trans := fun x y z h1 h2 => by simp [ltRng] at *; omega
 ntrans := fun x y z h1 h2 => by simp [ltRng] at *; omega
noncomputable def rngT : TypeInfo := (Tryz.prog.info? 173).get (by kernel_rfl)
noncomputable def rngE : TypeInfo := (Tryz.prog.info? 175).get (by kernel_rfl)
theorem rngK (n : Nat) (h2 : 2 ≤ n) : Lib.swapperK n rngE 25 = 9 := by
 have a : rngE.hasPointers = false := by kernel_rfl
 have b : rngE.bytes = 24 := by kernel_rfl
 have c : (n == 0) = false := by simp; omega
 have d : (n == 1) = false := by simp; omega
 simp [Lib.swapperK, a, b, c, d]
theorem less_calls (blk off c Bs size : Nat) (W : World) (G : Nat → Int) (hs : W.cell? ⟨Bs, 0, none⟩ = some (.slice (some ⟨blk, off, none⟩) size c))
 (hc : ∀ t, t < size → W.cell? ⟨blk, off + t * 3, none⟩ = some (.int .i64 (G t))) (i j : Nat) (hi : i < size) (hj : j < size) (_hsz : size < 4611686018427387904) :
 Calls Tryz.prog 188 #[.int .i64 i, .int .i64 j, .pointer (some ⟨Bs, 0, none⟩)] W fun e w' => e = .returned (.bool (decide (G i < G j))) ∧ ∃ q, w' = W.drewN q := by
 have hu157 := Tryz.underlying175
 have ci := hc i hi
 have cj := hc j hj
 go_enter Tryz.func188, Tryz.ntmps188
 go_wp2
 go_quiet (fail)
 go_wp2
 go_ret
 exact ⟨rfl, nq, rfl⟩
theorem sort_calls (blk off c Bs : Nat) (d : Array Rng) (h2 : 2 ≤ d.size) (hsz : d.size < 4611686018427387904) (w : World) (hH : HoldsK encRng 3 w blk off d) (hblk : blk < w.heap.size)
 (hBs : w.cell? ⟨Bs, 0, none⟩ = some (.slice (some ⟨blk, off, none⟩) d.size c)) (hB1 : Bs < w.heap.size) (hB2 : Bs ≠ blk) :
 Calls Tryz.prog 187 #[.iface 173 (.slice (some ⟨blk, off, none⟩) d.size c), .func (.func 188) #[] #[.pointer (some ⟨Bs, 0, none⟩)]] w fun e w' =>
  e = .returned (.tuple #[]) ∧ ∃ d' n os, PermIn 0 d.size d d' ∧ SortedIn ltRng 0 d.size d' ∧ w' = grow (putRowK encRng 3 (Sort.ahead w n) blk off d') os := by
 have hless : LessReadsK Tryz.prog 188 #[.pointer (some ⟨Bs, 0, none⟩)] encRng 3 ltRng blk off d.size w := by
  intro m os dk hs i j hi hj
  have e : sortWorldK encRng 3 w blk off m dk os = putRowK encRng 3 (grow (Sort.ahead w m) os) blk off dk := by
   unfold sortWorldK; rw [putRowK_grow _ _ (Sort.ahead w m) _ blk off _ hblk]
  have hHg : HoldsK encRng 3 (grow (Sort.ahead w m) os) blk off d := holdsK_grow _ _ _ _ blk off d hblk (holdsK_ahead _ _ _ _ _ _ _ hH)
  refine less_calls blk off c Bs d.size _ (fun t => dk[t]!.lo) ?_ (fun t ht => ?_) i j hi hj (by omega)
  ·rw [e, cell?_putRowK_other _ _ _ blk off dk _ (by exact hB2), cell?_grow _ _ _ (by exact hB1)]; exact hBs
  ·rw [e]; exact ((holdsK_putRowK _ _ _ blk off d dk hHg hs).cell (i := t) (c := 0) (by omega) (by omega)).1
 exact Any.sort_Slice_cells_sorted sl6 173 175 rngT rngE (by kernel_rfl) (by kernel_rfl) (by kernel_rfl) (by kernel_rfl) 25 (fun _ => by kernel_rfl) encRng 3 (fun _ => rfl) (by kernel_rfl) (fun _ => by kernel_rfl)
  (fun x v hv => by simp [encRng] at hv; rcases hv with rfl | rfl | rfl <;> rfl) ltRng swo_ltRng 188 _
  (enters_of Tryz.func188 (by kernel_rfl) rfl) blk off c d h2 hsz 235 (by rw [rngK _ h2]; kernel_rfl) false
  (fun args W => run_callFunc_extern Tryz.func235 (by kernel_rfl) (by kernel_rfl) (by kernel_rfl) (e := Extern.ReflectliteSwapper.swap false) (by kernel_rfl) args W) w hless hH hblk
theorem sort_tiny (p : Option Addr) (n c : Nat) (h1 : n ≤ 1) (v : Value) (w : World) :
 Calls Tryz.prog 187 #[.iface 173 (.slice p n c), .func (.func 188) #[] #[v]] w fun e w' => e = .returned (.tuple #[]) ∧ ∃ os, w' = grow w os := by
 have hK : Lib.swapperK n rngE 25 = n + 1 := by
  rcases Nat.eq_zero_or_pos n with h | h
  ·subst h; simp [Lib.swapperK]
  ·obtain rfl : n = 1 := by omega
   simp [Lib.swapperK]
 rcases Nat.eq_zero_or_pos n with h | h
 ·subst h
  exact Any.sort_Slice_tiny sl6 173 175 rngT rngE (by kernel_rfl) (by kernel_rfl) (by kernel_rfl) (by kernel_rfl) 25 (fun _ => by kernel_rfl) p 0 c (by omega) 227 (by rw [hK]; kernel_rfl) _ _ _ w
 ·obtain rfl : n = 1 := by omega
  exact Any.sort_Slice_tiny sl6 173 175 rngT rngE (by kernel_rfl) (by kernel_rfl) (by kernel_rfl) (by kernel_rfl) 25 (fun _ => by kernel_rfl) p 1 c (by omega) 228 (by rw [hK]; kernel_rfl) _ _ _ w
end Go.Proofs.YtnohcnneflogjaaGreat.M
