/- sort.Slice and what it reaches, laid at this dump (plain text of what the kit's shelf_lay lays). -/
import Derived.Test.YtfoldfaeelggoaaGreatProg
import Derived.Shelf.GgSortFunc.Lays
import Derived.KernelRfl
import Derived.Test.YtfoldfaeelggoaaGreatK12
import Derived.Shelf.SlSortFuncK.WholeK
import Derived.Shelf.GgSortFunc.Tiny
namespace Go.Proofs.YtfoldfaeelggoaaGreat.M
open Go.Shelf
def sl6_ren : Ren := {
  f := fun x => match x with
    | 6 => 160
    | 10 => 174
    | 11 => 175
    | 12 => 176
    | 13 => 177
    | 14 => 178
    | 24 => 198
    | 25 => 199
    | 26 => 200
    | 27 => 201
    | 28 => 202
    | 29 => 203
    | 30 => 204
    | 31 => 205
    | 32 => 206
    | 33 => 207
    | 34 => 211
    | 35 => 212
    | 36 => 213
    | 37 => 214
    | 38 => 215
    | 39 => 217
    | n => n
  t := fun x => match x with
    | 20 => 20
    | 26 => 186
    | 35 => 202
    | 0 => 0
    | 37 => 204
    | 3 => 3
    | 41 => 164
    | 44 => 209
    | 49 => 165
    | 51 => 29
    | 4 => 4
    | 54 => 223
    | 53 => 222
    | 58 => 227
    | 5 => 5
    | 9 => 9
    | 60 => 230
    | 64 => 234
    | 66 => 237
    | 67 => 89
    | 17 => 17
    | 32 => 199
    | 33 => 200
    | 82 => 252
    | 12 => 12
    | 75 => 245
    | 76 => 246
    | 77 => 247
    | 78 => 248
    | 79 => 249
    | 80 => 250
    | n => n
  g := fun x => have n := x; n }
theorem sl6 : LaysGg.n6 Tryz.prog sl6_ren := {
  mixed := by kernel_rfl
  f6 := by kernel_rfl
  f10 := by kernel_rfl
  f11 := by kernel_rfl
  f12 := by kernel_rfl
  f13 := by kernel_rfl
  f14 := by kernel_rfl
  f24 := by kernel_rfl
  f25 := by kernel_rfl
  f26 := by kernel_rfl
  f27 := by kernel_rfl
  f28 := by kernel_rfl
  f29 := by kernel_rfl
  f30 := by kernel_rfl
  f31 := by kernel_rfl
  f32 := by kernel_rfl
  f33 := by kernel_rfl
  f34 := by kernel_rfl
  f35 := by kernel_rfl
  f36 := by kernel_rfl
  f37 := by kernel_rfl
  f38 := by kernel_rfl
  f39 := by kernel_rfl
  t0 := Tryz.underlying0
  a0 := Tryz.isAgg0
  z0 := Tryz.sizeOf0
  v0 := Tryz.zeroValue0
  i0 := by kernel_rfl
  t3 := Tryz.underlying3
  a3 := Tryz.isAgg3
  z3 := Tryz.sizeOf3
  v3 := Tryz.zeroValue3
  i3 := by kernel_rfl
  t4 := Tryz.underlying4
  a4 := Tryz.isAgg4
  z4 := Tryz.sizeOf4
  v4 := Tryz.zeroValue4
  i4 := by kernel_rfl
  t5 := Tryz.underlying5
  a5 := Tryz.isAgg5
  z5 := Tryz.sizeOf5
  v5 := Tryz.zeroValue5
  i5 := by kernel_rfl
  t9 := Tryz.underlying9
  a9 := Tryz.isAgg9
  z9 := Tryz.sizeOf9
  v9 := Tryz.zeroValue9
  i9 := by kernel_rfl
  t12 := Tryz.underlying12
  a12 := Tryz.isAgg12
  z12 := Tryz.sizeOf12
  v12 := Tryz.zeroValue12
  i12 := by kernel_rfl
  t17 := Tryz.underlying17
  a17 := Tryz.isAgg17
  z17 := Tryz.sizeOf17
  v17 := Tryz.zeroValue17
  i17 := by kernel_rfl
  t20 := Tryz.underlying20
  a20 := Tryz.isAgg20
  z20 := Tryz.sizeOf20
  v20 := Tryz.zeroValue20
  i20 := by kernel_rfl
  t26 := Tryz.underlying186
  a26 := Tryz.isAgg186
  z26 := Tryz.sizeOf186
  v26 := Tryz.zeroValue186
  i26 := by kernel_rfl
  t32 := Tryz.underlying199
  a32 := Tryz.isAgg199
  z32 := Tryz.sizeOf199
  v32 := Tryz.zeroValue199
  i32 := by kernel_rfl
  t33 := Tryz.underlying200
  a33 := Tryz.isAgg200
  z33 := Tryz.sizeOf200
  v33 := Tryz.zeroValue200
  i33 := by kernel_rfl
  t35 := Tryz.underlying202
  a35 := Tryz.isAgg202
  z35 := Tryz.sizeOf202
  v35 := Tryz.zeroValue202
  i35 := by kernel_rfl
  t37 := Tryz.underlying204
  a37 := Tryz.isAgg204
  z37 := Tryz.sizeOf204
  v37 := Tryz.zeroValue204
  i37 := by kernel_rfl
  t41 := Tryz.underlying164
  a41 := Tryz.isAgg164
  z41 := Tryz.sizeOf164
  v41 := Tryz.zeroValue164
  i41 := by kernel_rfl
  t44 := Tryz.underlying209
  a44 := Tryz.isAgg209
  z44 := Tryz.sizeOf209
  v44 := Tryz.zeroValue209
  i44 := by kernel_rfl
  t49 := Tryz.underlying165
  a49 := Tryz.isAgg165
  z49 := Tryz.sizeOf165
  v49 := Tryz.zeroValue165
  i49 := by kernel_rfl
  t51 := Tryz.underlying29
  a51 := Tryz.isAgg29
  z51 := Tryz.sizeOf29
  v51 := Tryz.zeroValue29
  i51 := by kernel_rfl
  t53 := Tryz.underlying222
  a53 := Tryz.isAgg222
  z53 := Tryz.sizeOf222
  v53 := Tryz.zeroValue222
  i53 := by kernel_rfl
  t54 := Tryz.underlying223
  a54 := Tryz.isAgg223
  z54 := Tryz.sizeOf223
  v54 := Tryz.zeroValue223
  i54 := by kernel_rfl
  t58 := Tryz.underlying227
  a58 := Tryz.isAgg227
  z58 := Tryz.sizeOf227
  v58 := Tryz.zeroValue227
  i58 := by kernel_rfl
  t60 := Tryz.underlying230
  a60 := Tryz.isAgg230
  z60 := Tryz.sizeOf230
  v60 := Tryz.zeroValue230
  i60 := by kernel_rfl
  t64 := Tryz.underlying234
  a64 := Tryz.isAgg234
  z64 := Tryz.sizeOf234
  v64 := Tryz.zeroValue234
  i64 := by kernel_rfl
  t66 := Tryz.underlying237
  a66 := Tryz.isAgg237
  z66 := Tryz.sizeOf237
  v66 := Tryz.zeroValue237
  i66 := by kernel_rfl
  t67 := Tryz.underlying89
  a67 := Tryz.isAgg89
  z67 := Tryz.sizeOf89
  v67 := Tryz.zeroValue89
  i67 := by kernel_rfl
  t75 := Tryz.underlying245
  a75 := Tryz.isAgg245
  z75 := Tryz.sizeOf245
  v75 := Tryz.zeroValue245
  i75 := by kernel_rfl
  t76 := Tryz.underlying246
  a76 := Tryz.isAgg246
  z76 := Tryz.sizeOf246
  v76 := Tryz.zeroValue246
  i76 := by kernel_rfl
  t77 := Tryz.underlying247
  a77 := Tryz.isAgg247
  z77 := Tryz.sizeOf247
  v77 := Tryz.zeroValue247
  i77 := by kernel_rfl
  t78 := Tryz.underlying248
  a78 := Tryz.isAgg248
  z78 := Tryz.sizeOf248
  v78 := Tryz.zeroValue248
  i78 := by kernel_rfl
  t79 := Tryz.underlying249
  a79 := Tryz.isAgg249
  z79 := Tryz.sizeOf249
  v79 := Tryz.zeroValue249
  i79 := by kernel_rfl
  t80 := Tryz.underlying250
  a80 := Tryz.isAgg250
  z80 := Tryz.sizeOf250
  v80 := Tryz.zeroValue250
  i80 := by kernel_rfl
  t82 := Tryz.underlying252
  a82 := Tryz.isAgg252
  z82 := Tryz.sizeOf252
  v82 := Tryz.zeroValue252
  i82 := by kernel_rfl }
end Go.Proofs.YtfoldfaeelggoaaGreat.M

/-! sort.Slice over ranges, by the kit's contract. -/
set_option linter.unusedVariables false
set_option linter.unusedSimpArgs false
namespace Go.Proofs.YtfoldfaeelggoaaGreat.M
open Go.Shelf Go.RowKit Go.Lib Go.Sort
set_option maxHeartbeats 8000000

def encRng (r : Rng) : List Value := [.int .i64 r.lo, .int .i64 r.hi, .int .i64 r.val]
def ltRng (a b : Rng) : Bool := decide (a.lo < b.lo)
theorem swo_ltRng : SWO ltRng where
  irrefl := fun x => by simp [ltRng]
  trans := fun x y z h1 h2 => by simp [ltRng] at *; omega
  ntrans := fun x y z h1 h2 => by simp [ltRng] at *; omega
noncomputable def rngT : TypeInfo := (Tryz.prog.info? 155).get (by kernel_rfl)
noncomputable def rngE : TypeInfo := (Tryz.prog.info? 157).get (by kernel_rfl)
theorem rngK (n : Nat) (h2 : 2 ≤ n) : Lib.swapperK n rngE 25 = 9 := by
  have a : rngE.hasPointers = false := by kernel_rfl
  have b : rngE.bytes = 24 := by kernel_rfl
  have c : (n == 0) = false := by simp; omega
  have d : (n == 1) = false := by simp; omega
  simp [Lib.swapperK, a, b, c, d]
theorem less_calls (blk off c Bs size : Nat) (W : World) (G : Nat → Int) (hs : W.cell? ⟨Bs, 0, none⟩ = some (.slice (some ⟨blk, off, none⟩) size c))
    (hc : ∀ t, t < size → W.cell? ⟨blk, off + t * 3, none⟩ = some (.int .i64 (G t))) (i j : Nat) (hi : i < size) (hj : j < size) (_hsz : size < 4611686018427387904) :
    Calls Tryz.prog 161 #[.int .i64 i, .int .i64 j, .pointer (some ⟨Bs, 0, none⟩)] W fun e w' => e = .returned (.bool (decide (G i < G j))) ∧ ∃ q, w' = W.drewN q := by
  have hu157 := Tryz.underlying157
  have ci := hc i hi
  have cj := hc j hj
  go_enter Tryz.func161, Tryz.ntmps161
  go_wp2
  go_quiet (fail)
  go_wp2
  go_ret
  exact ⟨rfl, nq, rfl⟩
theorem sort_calls (blk off c Bs : Nat) (d : Array Rng) (h2 : 2 ≤ d.size) (hsz : d.size < 4611686018427387904) (w : World) (hH : HoldsK encRng 3 w blk off d) (hblk : blk < w.heap.size)
    (hBs : w.cell? ⟨Bs, 0, none⟩ = some (.slice (some ⟨blk, off, none⟩) d.size c)) (hB1 : Bs < w.heap.size) (hB2 : Bs ≠ blk) :
    Calls Tryz.prog 160 #[.iface 155 (.slice (some ⟨blk, off, none⟩) d.size c), .func (.func 161) #[] #[.pointer (some ⟨Bs, 0, none⟩)]] w fun e w' =>
      e = .returned (.tuple #[]) ∧ ∃ d' n os, PermIn 0 d.size d d' ∧ SortedIn ltRng 0 d.size d' ∧ w' = grow (putRowK encRng 3 (Sort.ahead w n) blk off d') os := by
  have hless : LessReadsK Tryz.prog 161 #[.pointer (some ⟨Bs, 0, none⟩)] encRng 3 ltRng blk off d.size w := by
    intro m os dk hs i j hi hj
    have e : sortWorldK encRng 3 w blk off m dk os = putRowK encRng 3 (grow (Sort.ahead w m) os) blk off dk := by
      unfold sortWorldK; rw [putRowK_grow _ _ (Sort.ahead w m) _ blk off _ hblk]
    have hHg : HoldsK encRng 3 (grow (Sort.ahead w m) os) blk off d := holdsK_grow _ _ _ _ blk off d hblk (holdsK_ahead _ _ _ _ _ _ _ hH)
    refine less_calls blk off c Bs d.size _ (fun t => dk[t]!.lo) ?_ (fun t ht => ?_) i j hi hj (by omega)
    · rw [e, cell?_putRowK_other _ _ _ blk off dk _ (by exact hB2), cell?_grow _ _ _ (by exact hB1)]; exact hBs
    · rw [e]; exact ((holdsK_putRowK _ _ _ blk off d dk hHg hs).cell (i := t) (c := 0) (by omega) (by omega)).1
  exact Any.sort_Slice_cells_sorted sl6 155 157 rngT rngE (by kernel_rfl) (by kernel_rfl) (by kernel_rfl) (by kernel_rfl) 25 (fun _ => by kernel_rfl) encRng 3 (fun _ => rfl) (by kernel_rfl) (fun _ => by kernel_rfl)
    (fun x v hv => by simp [encRng] at hv; rcases hv with rfl | rfl | rfl <;> rfl) ltRng swo_ltRng 161 _
    (enters_of Tryz.func161 (by kernel_rfl) rfl) blk off c d h2 hsz 197 (by rw [rngK _ h2]; kernel_rfl) false
    (fun args W => run_callFunc_extern Tryz.func197 (by kernel_rfl) (by kernel_rfl) (by kernel_rfl) (e := Extern.ReflectliteSwapper.swap false) (by kernel_rfl) args W) w hless hH hblk
theorem sort_tiny (p : Option Addr) (n c : Nat) (h1 : n ≤ 1) (v : Value) (w : World) :
    Calls Tryz.prog 160 #[.iface 155 (.slice p n c), .func (.func 161) #[] #[v]] w fun e w' => e = .returned (.tuple #[]) ∧ ∃ os, w' = grow w os := by
  have hK : Lib.swapperK n rngE 25 = n + 1 := by
    rcases Nat.eq_zero_or_pos n with h | h
    · subst h; simp [Lib.swapperK]
    · obtain rfl : n = 1 := by omega
      simp [Lib.swapperK]
  rcases Nat.eq_zero_or_pos n with h | h
  · subst h
    exact Any.sort_Slice_tiny sl6 155 157 rngT rngE (by kernel_rfl) (by kernel_rfl) (by kernel_rfl) (by kernel_rfl) 25 (fun _ => by kernel_rfl) p 0 c (by omega) 189 (by rw [hK]; kernel_rfl) _ _ _ w
  · obtain rfl : n = 1 := by omega
    exact Any.sort_Slice_tiny sl6 155 157 rngT rngE (by kernel_rfl) (by kernel_rfl) (by kernel_rfl) (by kernel_rfl) 25 (fun _ => by kernel_rfl) p 1 c (by omega) 190 (by rw [hK]; kernel_rfl) _ _ _ w
end Go.Proofs.YtfoldfaeelggoaaGreat.M
