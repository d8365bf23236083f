/- sort.Slice and what it reaches, laid at this dump (plain text of what the kit's shelf_lay lays). -/
import Derived.Test.YthneeainigdmhaaGreatProg
import Derived.Shelf.GgSortFunc.Lays
import Derived.KernelRfl
import Derived.Test.YthneeainigdmhaaGreatK12
import Derived.Shelf.SlSortFuncK.WholeK
import Derived.Shelf.GgSortFunc.Tiny
namespace Go.Proofs.YthneeainigdmhaaGreat.M
open Go.Shelf
def sl6_ren : Ren := {
  f := fun x => match x with
    | 6 => 174
    | 10 => 188
    | 11 => 189
    | 12 => 190
    | 13 => 191
    | 14 => 192
    | 24 => 213
    | 25 => 214
    | 26 => 215
    | 27 => 216
    | 28 => 217
    | 29 => 218
    | 30 => 219
    | 31 => 220
    | 32 => 221
    | 33 => 222
    | 34 => 227
    | 35 => 228
    | 36 => 229
    | 37 => 230
    | 38 => 231
    | 39 => 233
    | n => n
  t := fun x => match x with
    | 20 => 20
    | 26 => 93
    | 35 => 201
    | 0 => 0
    | 37 => 203
    | 3 => 3
    | 41 => 207
    | 44 => 210
    | 49 => 221
    | 51 => 71
    | 4 => 4
    | 54 => 225
    | 53 => 224
    | 58 => 229
    | 5 => 5
    | 9 => 9
    | 60 => 232
    | 64 => 236
    | 66 => 239
    | 67 => 101
    | 17 => 17
    | 32 => 198
    | 33 => 199
    | 82 => 254
    | 12 => 12
    | 75 => 247
    | 76 => 248
    | 77 => 249
    | 78 => 250
    | 79 => 251
    | 80 => 252
    | n => n
  g := fun x => have n := x; n }
theorem sl6 : LaysGg.n6 Tryz.prog sl6_ren := {
  mixed := by kernel_rfl
  f6 := by kernel_rfl
  f10 := by kernel_rfl
  f11 := by kernel_rfl
  f12 := by kernel_rfl
  f13 := by kernel_rfl
  f14 := by kernel_rfl
  f24 := by kernel_rfl
  f25 := by kernel_rfl
  f26 := by kernel_rfl
  f27 := by kernel_rfl
  f28 := by kernel_rfl
  f29 := by kernel_rfl
  f30 := by kernel_rfl
  f31 := by kernel_rfl
  f32 := by kernel_rfl
  f33 := by kernel_rfl
  f34 := by kernel_rfl
  f35 := by kernel_rfl
  f36 := by kernel_rfl
  f37 := by kernel_rfl
  f38 := by kernel_rfl
  f39 := by kernel_rfl
  t0 := Tryz.underlying0
  a0 := Tryz.isAgg0
  z0 := Tryz.sizeOf0
  v0 := Tryz.zeroValue0
  i0 := by kernel_rfl
  t3 := Tryz.underlying3
  a3 := Tryz.isAgg3
  z3 := Tryz.sizeOf3
  v3 := Tryz.zeroValue3
  i3 := by kernel_rfl
  t4 := Tryz.underlying4
  a4 := Tryz.isAgg4
  z4 := Tryz.sizeOf4
  v4 := Tryz.zeroValue4
  i4 := by kernel_rfl
  t5 := Tryz.underlying5
  a5 := Tryz.isAgg5
  z5 := Tryz.sizeOf5
  v5 := Tryz.zeroValue5
  i5 := by kernel_rfl
  t9 := Tryz.underlying9
  a9 := Tryz.isAgg9
  z9 := Tryz.sizeOf9
  v9 := Tryz.zeroValue9
  i9 := by kernel_rfl
  t12 := Tryz.underlying12
  a12 := Tryz.isAgg12
  z12 := Tryz.sizeOf12
  v12 := Tryz.zeroValue12
  i12 := by kernel_rfl
  t17 := Tryz.underlying17
  a17 := Tryz.isAgg17
  z17 := Tryz.sizeOf17
  v17 := Tryz.zeroValue17
  i17 := by kernel_rfl
  t20 := Tryz.underlying20
  a20 := Tryz.isAgg20
  z20 := Tryz.sizeOf20
  v20 := Tryz.zeroValue20
  i20 := by kernel_rfl
  t26 := Tryz.underlying93
  a26 := Tryz.isAgg93
  z26 := Tryz.sizeOf93
  v26 := Tryz.zeroValue93
  i26 := by kernel_rfl
  t32 := Tryz.underlying198
  a32 := Tryz.isAgg198
  z32 := Tryz.sizeOf198
  v32 := Tryz.zeroValue198
  i32 := by kernel_rfl
  t33 := Tryz.underlying199
  a33 := Tryz.isAgg199
  z33 := Tryz.sizeOf199
  v33 := Tryz.zeroValue199
  i33 := by kernel_rfl
  t35 := Tryz.underlying201
  a35 := Tryz.isAgg201
  z35 := Tryz.sizeOf201
  v35 := Tryz.zeroValue201
  i35 := by kernel_rfl
  t37 := Tryz.underlying203
  a37 := Tryz.isAgg203
  z37 := Tryz.sizeOf203
  v37 := Tryz.zeroValue203
  i37 := by kernel_rfl
  t41 := Tryz.underlying207
  a41 := Tryz.isAgg207
  z41 := Tryz.sizeOf207
  v41 := Tryz.zeroValue207
  i41 := by kernel_rfl
  t44 := Tryz.underlying210
  a44 := Tryz.isAgg210
  z44 := Tryz.sizeOf210
  v44 := Tryz.zeroValue210
  i44 := by kernel_rfl
  t49 := Tryz.underlying221
  a49 := Tryz.isAgg221
  z49 := Tryz.sizeOf221
  v49 := Tryz.zeroValue221
  i49 := by kernel_rfl
  t51 := Tryz.underlying71
  a51 := Tryz.isAgg71
  z51 := Tryz.sizeOf71
  v51 := Tryz.zeroValue71
  i51 := by kernel_rfl
  t53 := Tryz.underlying224
  a53 := Tryz.isAgg224
  z53 := Tryz.sizeOf224
  v53 := Tryz.zeroValue224
  i53 := by kernel_rfl
  t54 := Tryz.underlying225
  a54 := Tryz.isAgg225
  z54 := Tryz.sizeOf225
  v54 := Tryz.zeroValue225
  i54 := by kernel_rfl
  t58 := Tryz.underlying229
  a58 := Tryz.isAgg229
  z58 := Tryz.sizeOf229
  v58 := Tryz.zeroValue229
  i58 := by kernel_rfl
  t60 := Tryz.underlying232
  a60 := Tryz.isAgg232
  z60 := Tryz.sizeOf232
  v60 := Tryz.zeroValue232
  i60 := by kernel_rfl
  t64 := Tryz.underlying236
  a64 := Tryz.isAgg236
  z64 := Tryz.sizeOf236
  v64 := Tryz.zeroValue236
  i64 := by kernel_rfl
  t66 := Tryz.underlying239
  a66 := Tryz.isAgg239
  z66 := Tryz.sizeOf239
  v66 := Tryz.zeroValue239
  i66 := by kernel_rfl
  t67 := Tryz.underlying101
  a67 := Tryz.isAgg101
  z67 := Tryz.sizeOf101
  v67 := Tryz.zeroValue101
  i67 := by kernel_rfl
  t75 := Tryz.underlying247
  a75 := Tryz.isAgg247
  z75 := Tryz.sizeOf247
  v75 := Tryz.zeroValue247
  i75 := by kernel_rfl
  t76 := Tryz.underlying248
  a76 := Tryz.isAgg248
  z76 := Tryz.sizeOf248
  v76 := Tryz.zeroValue248
  i76 := by kernel_rfl
  t77 := Tryz.underlying249
  a77 := Tryz.isAgg249
  z77 := Tryz.sizeOf249
  v77 := Tryz.zeroValue249
  i77 := by kernel_rfl
  t78 := Tryz.underlying250
  a78 := Tryz.isAgg250
  z78 := Tryz.sizeOf250
  v78 := Tryz.zeroValue250
  i78 := by kernel_rfl
  t79 := Tryz.underlying251
  a79 := Tryz.isAgg251
  z79 := Tryz.sizeOf251
  v79 := Tryz.zeroValue251
  i79 := by kernel_rfl
  t80 := Tryz.underlying252
  a80 := Tryz.isAgg252
  z80 := Tryz.sizeOf252
  v80 := Tryz.zeroValue252
  i80 := by kernel_rfl
  t82 := Tryz.underlying254
  a82 := Tryz.isAgg254
  z82 := Tryz.sizeOf254
  v82 := Tryz.zeroValue254
  i82 := by kernel_rfl }
end Go.Proofs.YthneeainigdmhaaGreat.M

/-! sort.Slice over ranges, by the kit's contract. -/
set_option linter.unusedVariables false
set_option linter.unusedSimpArgs false
namespace Go.Proofs.YthneeainigdmhaaGreat.M
open Go.Shelf Go.RowKit Go.Lib Go.Sort
set_option maxHeartbeats 8000000

def encRng (r : Rng) : List Value := [.int .i64 r.lo, .int .i64 r.hi, .int .i64 r.val]
def ltRng (a b : Rng) : Bool := decide (a.lo < b.lo)
theorem swo_ltRng : SWO ltRng where
  irrefl := fun x => by simp [ltRng]
  trans := fun x y z h1 h2 => by simp [ltRng] at *; omega
  ntrans := fun x y z h1 h2 => by simp [ltRng] at *; omega
noncomputable def rngT : TypeInfo := (Tryz.prog.info? 162).get (by kernel_rfl)
noncomputable def rngE : TypeInfo := (Tryz.prog.info? 164).get (by kernel_rfl)
theorem rngK (n : Nat) (h2 : 2 ≤ n) : Lib.swapperK n rngE 25 = 9 := by
  have a : rngE.hasPointers = false := by kernel_rfl
  have b : rngE.bytes = 24 := by kernel_rfl
  have c : (n == 0) = false := by simp; omega
  have d : (n == 1) = false := by simp; omega
  simp [Lib.swapperK, a, b, c, d]
theorem less_calls (blk off c Bs size : Nat) (W : World) (G : Nat → Int) (hs : W.cell? ⟨Bs, 0, none⟩ = some (.slice (some ⟨blk, off, none⟩) size c))
    (hc : ∀ t, t < size → W.cell? ⟨blk, off + t * 3, none⟩ = some (.int .i64 (G t))) (i j : Nat) (hi : i < size) (hj : j < size) (_hsz : size < 4611686018427387904) :
    Calls Tryz.prog 175 #[.int .i64 i, .int .i64 j, .pointer (some ⟨Bs, 0, none⟩)] W fun e w' => e = .returned (.bool (decide (G i < G j))) ∧ ∃ q, w' = W.drewN q := by
  have hu157 := Tryz.underlying164
  have ci := hc i hi
  have cj := hc j hj
  go_enter Tryz.func175, Tryz.ntmps175
  go_wp2
  go_quiet (fail)
  go_wp2
  go_ret
  exact ⟨rfl, nq, rfl⟩
theorem sort_calls (blk off c Bs : Nat) (d : Array Rng) (h2 : 2 ≤ d.size) (hsz : d.size < 4611686018427387904) (w : World) (hH : HoldsK encRng 3 w blk off d) (hblk : blk < w.heap.size)
    (hBs : w.cell? ⟨Bs, 0, none⟩ = some (.slice (some ⟨blk, off, none⟩) d.size c)) (hB1 : Bs < w.heap.size) (hB2 : Bs ≠ blk) :
    Calls Tryz.prog 174 #[.iface 162 (.slice (some ⟨blk, off, none⟩) d.size c), .func (.func 175) #[] #[.pointer (some ⟨Bs, 0, none⟩)]] w fun e w' =>
      e = .returned (.tuple #[]) ∧ ∃ d' n os, PermIn 0 d.size d d' ∧ SortedIn ltRng 0 d.size d' ∧ w' = grow (putRowK encRng 3 (Sort.ahead w n) blk off d') os := by
  have hless : LessReadsK Tryz.prog 175 #[.pointer (some ⟨Bs, 0, none⟩)] encRng 3 ltRng blk off d.size w := by
    intro m os dk hs i j hi hj
    have e : sortWorldK encRng 3 w blk off m dk os = putRowK encRng 3 (grow (Sort.ahead w m) os) blk off dk := by
      unfold sortWorldK; rw [putRowK_grow _ _ (Sort.ahead w m) _ blk off _ hblk]
    have hHg : HoldsK encRng 3 (grow (Sort.ahead w m) os) blk off d := holdsK_grow _ _ _ _ blk off d hblk (holdsK_ahead _ _ _ _ _ _ _ hH)
    refine less_calls blk off c Bs d.size _ (fun t => dk[t]!.lo) ?_ (fun t ht => ?_) i j hi hj (by omega)
    · rw [e, cell?_putRowK_other _ _ _ blk off dk _ (by exact hB2), cell?_grow _ _ _ (by exact hB1)]; exact hBs
    · rw [e]; exact ((holdsK_putRowK _ _ _ blk off d dk hHg hs).cell (i := t) (c := 0) (by omega) (by omega)).1
  exact Any.sort_Slice_cells_sorted sl6 162 164 rngT rngE (by kernel_rfl) (by kernel_rfl) (by kernel_rfl) (by kernel_rfl) 25 (fun _ => by kernel_rfl) encRng 3 (fun _ => rfl) (by kernel_rfl) (fun _ => by kernel_rfl)
    (fun x v hv => by simp [encRng] at hv; rcases hv with rfl | rfl | rfl <;> rfl) ltRng swo_ltRng 175 _
    (enters_of Tryz.func175 (by kernel_rfl) rfl) blk off c d h2 hsz 212 (by rw [rngK _ h2]; kernel_rfl) false
    (fun args W => run_callFunc_extern Tryz.func212 (by kernel_rfl) (by kernel_rfl) (by kernel_rfl) (e := Extern.ReflectliteSwapper.swap false) (by kernel_rfl) args W) w hless hH hblk
theorem sort_tiny (p : Option Addr) (n c : Nat) (h1 : n ≤ 1) (v : Value) (w : World) :
    Calls Tryz.prog 174 #[.iface 162 (.slice p n c), .func (.func 175) #[] #[v]] w fun e w' => e = .returned (.tuple #[]) ∧ ∃ os, w' = grow w os := by
  have hK : Lib.swapperK n rngE 25 = n + 1 := by
    rcases Nat.eq_zero_or_pos n with h | h
    · subst h; simp [Lib.swapperK]
    · obtain rfl : n = 1 := by omega
      simp [Lib.swapperK]
  rcases Nat.eq_zero_or_pos n with h | h
  · subst h
    exact Any.sort_Slice_tiny sl6 162 164 rngT rngE (by kernel_rfl) (by kernel_rfl) (by kernel_rfl) (by kernel_rfl) 25 (fun _ => by kernel_rfl) p 0 c (by omega) 204 (by rw [hK]; kernel_rfl) _ _ _ w
  · obtain rfl : n = 1 := by omega
    exact Any.sort_Slice_tiny sl6 162 164 rngT rngE (by kernel_rfl) (by kernel_rfl) (by kernel_rfl) (by kernel_rfl) 25 (fun _ => by kernel_rfl) p 1 c (by omega) 205 (by rw [hK]; kernel_rfl) _ _ _ w
end Go.Proofs.YthneeainigdmhaaGreat.M
