/- What puny.Encode comes to, in plain Lean, and what holds of its world at its loops. -/
import Derived.Test.YticocjpfhllelaaESort7
import Derived.Test.YticocjpfhllelaaEStep
import Derived.Test.YticocjpfhllelaaXP1
import Derived.RegionTactic
import Derived.Outline
import Derived.IntWalk
import Derived.WalkMore
import Derived.BigQuiet
set_option linter.unusedVariables false
set_option linter.unusedSimpArgs false
namespace Go.Proofs.Yticocjpfhllelaa.XP
open Go.RowKit Go.Proofs Go.Proofs.StableSort Go.Proofs.YticocjpfhllelaaW.PrintWords Go.Proofs.YticocjpfhllelaaW.PrintLast Go.Proofs.YticocjpfhllelaaW.PrintMore

/-- The first loop: the points below 80, the places of the others, and what is taken. -/
def encA : List Int → Nat → List Int → List Int → List Int → Option (List Int × List Int × List Int)
  | [], _, b, o, c => some (b, o, c)
  | p :: t, i, b, o, c =>
    if p < 128 then (puny_counts_take.f (c.length + 5) c i).bind fun c' => encA t (i + 1) (b ++ [p % 256]) o c'
    else encA t (i + 1) b (o ++ [(i : Int)]) c
/-- What is reckoned in one round. -/
def dOf (q n p h i : Int) : Int := wrap64 (wrap64 (wrap64 (wrap64 (wrap64 q - n) * (p + 1)) + h) - i)
/-- Both loops' bounds. -/
def okB (p n i bias st : Int) : Bool := decide (0 ≤ p) && decide (p ≤ 200000) && decide (0 ≤ n) && decide (n ≤ 4294967296) && decide (0 ≤ i) && decide (i ≤ 200000) && decide (0 ≤ st) && decide (st ≤ 200000) && decide (0 ≤ bias) && decide (bias ≤ 200000)
/-- The second loop, over the places of the others. -/
def encB (l : List Int) : List Int → List Int → List Int → Int → Int → Int → Int → Int → Option (ByteArray × Int)
  | [], b, _, _, _, _, _, _ => some (strOfNums b, 0)
  | a :: t, b, c, p, n, i, bias, st =>
    (puny_counts_ahead.f (c.length + 5) c a).bind fun h =>
      if okB p n i bias st = true then
        if 2147483647 < dOf (rd l a) n p h i then some (⟨#[]⟩, 113)
        else if 0 ≤ dOf (rd l a) n p h i then
          (puny_number.f 60 b (dOf (rd l a) n p h i) bias).bind fun b' =>
          (puny_Adapt.f 60 (dOf (rd l a) n p h i) (p + 1) (st == 0)).bind fun r =>
          (puny_counts_take.f (c.length + 5) c a).bind fun c' =>
          if c'.length = c.length ∧ b'.length ≤ 1000000000000 then
            encB l t b' c' (p + 1) (n + (i + dOf (rd l a) n p h i) / (p + 1)) ((i + dOf (rd l a) n p h i) % (p + 1) + 1) r (st + 1)
          else none
        else none
      else none
/-- What is asked of symMerge. -/
def SymOk : Prop := ∀ (m : Nat) (lt tot : Fin (m + 1) → Fin (m + 1) → Bool) (_ : Go.Sort.SWO tot) (g : Nat) (lb : Array Value) (sf : Nat) (sb : Array Value) (blk off size : Nat)
      (_ : ∀ args w, (callFunc g args).run Try.prog w = .ok (.enter g args) w) (_ : SwapSwaps Try.prog sf sb (encF m) blk off size) (_ : size < 4611686018427387904) (f a mid b : Nat) (d : Array (Fin (m + 1))) (w : World),
      b - a ≤ f → LessReads Try.prog g lb (encF m) lt blk off size w → Go.Sort.Holds (encF m) w blk off d → blk < w.heap.size → a < mid → mid < b → b ≤ d.size → d.size = size → Go.Sort.SortedIn tot a mid d → Go.Sort.SortedIn tot mid b d → Pre lt tot a mid b d →
      Calls Try.prog 58 #[.agg #[.func (.func g) #[] lb, .func (.func sf) #[] sb], .int .i64 a, .int .i64 mid, .int .i64 b] w fun e w' =>
        e = .returned (.tuple #[]) ∧ ∃ d', Go.Sort.PermIn a b d d' ∧ Go.Sort.SortedIn tot a b d' ∧ SW (encF m) w blk off d' w'
theorem sort_calls (w0 w : World) (A0 : Option Addr) (c0 : Nat) (l0 : List Int) (gx go : Nat) (v : Value) (O : List Int) (hsym : ¬ O.length ≤ 1 → SymOk) (ok : Nat → Prop)
    (hx : Kd.C (Kd.int .i32) w0 A0 l0.length l0) (hB : Below w0.heap.size w0 w) (hO : Kd.R (Kd.int .i64) 3 w w0.heap.size ok v O)
    (hgx : w.cell? ⟨gx, 0, none⟩ = some (.slice A0 l0.length c0)) (hgo : w.cell? ⟨go, 0, none⟩ = some v) (hx1 : some gx ≠ v.ownBlock) (ho1 : some go ≠ v.ownBlock)
    (hin : ∀ o ∈ O, 0 ≤ o ∧ o < l0.length) (hinc : O.Pairwise (· < ·)) (hlen : l0.length < 1152921504606846976) (hlo : O.length ≤ l0.length) :
    Calls Try.prog 29 #[.iface 41 v, .func (.func 30) #[] #[.pointer (some ⟨gx, 0, none⟩), .pointer (some ⟨go, 0, none⟩)]] w fun e w' =>
      e = .returned (.tuple #[]) ∧ Kd.R (Kd.int .i64) 3 w' w0.heap.size ok v (ordP (rd l0) O) ∧ Below w0.heap.size w0 w' ∧ Kept w w' (fun k => some k = v.ownBlock) := by
  by_cases h1 : O.length ≤ 1
  · refine (sort_tiny v O w0.heap.size ok w hO h1 _ _ _).mono ?_
    rintro e w' ⟨rfl, hb⟩
    refine ⟨rfl, ?_, below_step hB hb, Kept.of_below hb _⟩
    rw [ordP_short (rd l0) O h1]
    exact Kd.R_below hO hb
  · exact sort_calls_of (hsym h1) w0 w A0 c0 l0 gx go v O ok hx hB hO hgx hgo hx1 ho1 hin hinc hlen hlo
/-- puny.Encode. -/
def encFn (l : List Int) : Option (ByteArray × Int) :=
  if 65536 < l.length then some (⟨#[]⟩, 2)
  else (scalar_Sound.f (l.length + 5) l).bind fun s =>
    if s = true then
      (encA l 0 [] [] (List.replicate (l.length + 1) 0)).bind fun (b, o, c) =>
        if c.length = l.length + 1 ∧ b.length ≤ 65536 then
          encB l (ordP (rd l) o) (if 0 < b.length then b ++ [45] else b) c b.length 128 0 72 0
        else none
    else some (⟨#[]⟩, 31)

/-- What holds of the world: x's box, the others' box and row, what is taken, the bytes. -/
structure InvA (w W : World) (A0 : Option Addr) (c0 n0 gx go g6 : Nat) (u4 u5 u6 : Value) (B O C : List Int) : Prop where
  B4 : Kd.R (Kd.int .u8) 5 W w.heap.size (fun k => k ≠ g6) u4 B
  B5 : Kd.R (Kd.int .i64) 3 W w.heap.size (fun k => k ≠ g6) u5 O
  B6 : Kd.R (Kd.int .i64) 3 W w.heap.size (fun k => k = g6) u6 C
  bx : W.heap[gx]? = some (.cells #[.slice A0 n0 c0] 22 (0, 0))
  bo : W.heap[go]? = some (.cells #[u5] 41 (0, 0))
  lx : w.heap.size ≤ gx
  lo : w.heap.size ≤ go
  l6 : w.heap.size ≤ g6
  s6 : g6 < W.heap.size
  t6 : ∃ cells, W.heap[g6]? = some (.cells cells 3 (0, 0))
  xo : gx ≠ go
  bel : Below w.heap.size w W

section
variable {w W W1 : World} {A0 : Option Addr} {c0 n0 gx go g6 : Nat} {u4 u5 u6 v1 : Value} {B O C xs : List Int}
theorem InvA.cx (h : InvA w W A0 c0 n0 gx go g6 u4 u5 u6 B O C) : W.cell? ⟨gx, 0, none⟩ = some (.slice A0 n0 c0) := (blk_cell h.bx 0).trans rfl
theorem InvA.co (h : InvA w W A0 c0 n0 gx go g6 u4 u5 u6 B O C) : W.cell? ⟨go, 0, none⟩ = some u5 := (blk_cell h.bo 0).trans rfl
theorem InvA.gx6 (h : InvA w W A0 c0 n0 gx go g6 u4 u5 u6 B O C) : gx ≠ g6 := fun e => by
  obtain ⟨cells, hc⟩ := h.t6
  rw [← e, h.bx] at hc
  simp at hc
theorem InvA.go6 (h : InvA w W A0 c0 n0 gx go g6 u4 u5 u6 B O C) : go ≠ g6 := fun e => by
  obtain ⟨cells, hc⟩ := h.t6
  rw [← e, h.bo] at hc
  simp at hc
/-- New blocks, draws. -/
theorem InvA.step (h : InvA w W A0 c0 n0 gx go g6 u4 u5 u6 B O C) (hb : Below W.heap.size W W1) : InvA w W1 A0 c0 n0 gx go g6 u4 u5 u6 B O C :=
  ⟨Kd.R_below h.B4 hb, Kd.R_below h.B5 hb, Kd.R_below h.B6 hb, blk_below h.bx hb, blk_below h.bo hb, h.lx, h.lo, h.l6, Nat.lt_of_lt_of_le h.s6 hb.size, h.t6.imp fun _ hc => blk_below hc hb, h.xo, below_step h.bel hb⟩
theorem InvA.drewN (h : InvA w W A0 c0 n0 gx go g6 u4 u5 u6 B O C) (m : Nat) : InvA w (W.drewN m) A0 c0 n0 gx go g6 u4 u5 u6 B O C := h.step (pw_below_drewN (Below.refl _ _) m)
/-- A byte is put behind the bytes. -/
theorem InvA.put4 (h : InvA w W A0 c0 n0 gx go g6 u4 u5 u6 B O C) (hr : Kd.R (Kd.int .u8) 5 W1 w.heap.size (fun k => k ≠ g6) v1 xs) (hB : Below w.heap.size w W1) (hg : W.grownBy W1 u4.ownBlock) : InvA w W1 A0 c0 n0 gx go g6 v1 u5 u6 xs O C := by
  have ne : ∀ k t cs, W.heap[k]? = some (.cells cs t (0, 0)) → (5 : Nat) ≠ t → some k ≠ u4.ownBlock := fun k t cs hk ht => Kd.R_ne h.B4 hk ht
  exact ⟨hr, Kd.R_over' h.B5 (Kd.R_typed h.B4) (by simp [Kd.int, Kd.scalar]) hg, Kd.R_over' h.B6 (Kd.R_typed h.B4) (by simp [Kd.int, Kd.scalar]) hg,
    blk_grown h.bx hg (ne _ _ _ h.bx (by decide)), blk_grown h.bo hg (ne _ _ _ h.bo (by decide)), h.lx, h.lo, h.l6, Nat.lt_of_lt_of_le h.s6 hg.size,
    h.t6.imp fun _ hc => blk_grown hc hg (ne _ _ _ hc (by decide)), h.xo, hB⟩
/-- Bytes are put behind the bytes by a call. -/
theorem InvA.call4 (h : InvA w W A0 c0 n0 gx go g6 u4 u5 u6 B O C) {P : Nat → Prop} (hP : ∀ k, P k → some k = u4.ownBlock) (hr : Kd.R (Kd.int .u8) 5 W1 w.heap.size (fun k => P k ∨ W.heap.size ≤ k) v1 xs) (hB : Below w.heap.size w W1) (hk : Kept W W1 P) : InvA w W1 A0 c0 n0 gx go g6 v1 u5 u6 xs O C := by
  have ne : ∀ k t cs, W.heap[k]? = some (.cells cs t (0, 0)) → (5 : Nat) ≠ t → ¬ P k := fun k t cs hk ht hp => Kd.R_ne h.B4 hk ht (hP k hp)
  have n6 : ¬ P g6 := by obtain ⟨cells, hc⟩ := h.t6; exact ne _ _ _ hc (by decide)
  have n5 : ∀ k, (∃ cells, W.heap[k]? = some (.cells cells 3 (0, 0))) → ¬ P k := fun k ⟨cells, hc⟩ => ne _ _ _ hc (by decide)
  refine ⟨Kd.R_mono hr (fun k hk => ?_), ?_, Kd.R_kept h.B6 hk (fun k hk6 => by rw [hk6]; exact n6), blk_kept h.bx hk (ne _ _ _ h.bx (by decide)), blk_kept h.bo hk (ne _ _ _ h.bo (by decide)), h.lx, h.lo, h.l6, Nat.lt_of_lt_of_le h.s6 hk.1,
    h.t6.imp fun _ hc => blk_kept hc hk n6, h.xo, hB⟩
  · rcases hk with hk | hk
    · intro e; exact n6 (e ▸ hk)
    · have := h.s6; omega
  · refine Kd.R_mono (Kd.R_kept (Kd.R_bound h.B5) hk (fun k hk5 => ?_)) (fun k hk5 => hk5.1)
    obtain ⟨_, _, _, q, hq, cells, hc⟩ := hk5
    have hq3 : q = 3 := by simpa [Kd.int, Kd.scalar] using hq
    subst hq3
    exact n5 k ⟨cells, hc⟩
/-- A place is taken. -/
theorem InvA.take (h : InvA w W A0 c0 n0 gx go g6 u4 u5 u6 B O C) (hr : Kd.R (Kd.int .i64) 3 W1 w.heap.size (fun k => k = g6 ∨ W.heap.size ≤ k) u6 xs) (hB : Below w.heap.size w W1) (hk : Kept W W1 (fun k => k = g6)) (hob : u6.ownBlock = some g6) : InvA w W1 A0 c0 n0 gx go g6 u4 u5 u6 B O xs := by
  refine ⟨Kd.R_kept h.B4 hk (fun _ hk => hk), Kd.R_kept h.B5 hk (fun _ hk => hk), Kd.R_mono (Kd.R_tight rfl hr) (fun k hk => ?_), blk_kept h.bx hk h.gx6, blk_kept h.bo hk h.go6, h.lx, h.lo, h.l6, Nat.lt_of_lt_of_le h.s6 hk.1, ?_, h.xo, hB⟩
  · rw [hob] at hk; injection hk
  · exact Kd.R_typed hr g6 hob
/-- A place is put behind the others. -/
theorem InvA.put5 (h : InvA w W A0 c0 n0 gx go g6 u4 u5 u6 B O C) (hr : Kd.R (Kd.int .i64) 3 W1 w.heap.size (fun k => k ≠ g6) v1 xs) (hB : Below w.heap.size w W1) (hg : W.grownBy W1 u5.ownBlock) : InvA w (W1.setCell ⟨go, 0, none⟩ v1) A0 c0 n0 gx go g6 u4 v1 u6 B xs C := by
  have ne : ∀ k t cs, W.heap[k]? = some (.cells cs t (0, 0)) → (3 : Nat) ≠ t → some k ≠ u5.ownBlock := fun k t cs hk ht => Kd.R_ne h.B5 hk ht
  have hx1 := blk_grown h.bx hg (ne _ _ _ h.bx (by decide))
  have ho1 := blk_grown h.bo hg (ne _ _ _ h.bo (by decide))
  have h6 : some g6 ≠ u5.ownBlock := fun e => h.B5.1 g6 e.symm rfl
  have hsz : (W1.setCell ⟨go, 0, none⟩ v1).heap.size = W1.heap.size := by simp [World.setCell]
  refine ⟨Kd.R_set (Kd.R_over' h.B4 (Kd.R_typed h.B5) (by simp [Kd.int, Kd.scalar]) hg) ho1 (by simp [Kd.int, Kd.scalar]) 0 v1, Kd.R_set hr ho1 (by simp [Kd.int, Kd.scalar]) 0 v1,
    Kd.R_set (Kd.R_grown h.B6 hg (fun k hk => by rw [hk]; exact h6)) ho1 (by simp [Kd.int, Kd.scalar]) 0 v1, blk_far (p := ⟨go, 0, none⟩) hx1 h.xo v1, blk_put ho1 0 v1 rfl, h.lx, h.lo, h.l6, ?_, h.t6.imp fun _ hc => blk_far (p := ⟨go, 0, none⟩) (blk_grown hc hg h6) (Ne.symm h.go6) v1, h.xo, hB.setCell (p := ⟨go, 0, none⟩) h.lo v1⟩
  rw [hsz]; exact Nat.lt_of_lt_of_le h.s6 hg.size
/-- The others are sorted. -/
theorem InvA.sorted (h : InvA w W A0 c0 n0 gx go g6 u4 u5 u6 B O C) (hr : Kd.R (Kd.int .i64) 3 W1 w.heap.size (fun k => k ≠ g6) u5 xs) (hB : Below w.heap.size w W1) (hk : Kept W W1 (fun k => some k = u5.ownBlock)) : InvA w W1 A0 c0 n0 gx go g6 u4 u5 u6 B xs C := by
  have ne : ∀ k t cs, W.heap[k]? = some (.cells cs t (0, 0)) → (3 : Nat) ≠ t → ¬ some k = u5.ownBlock := fun k t cs hk ht => Kd.R_ne h.B5 hk ht
  have h6 : ¬ some g6 = u5.ownBlock := fun e => h.B5.1 g6 e.symm rfl
  refine ⟨Kd.R_mono (Kd.R_kept (Kd.R_bound h.B4) hk (fun k hk4 => ?_)) (fun k hk4 => hk4.1), hr, Kd.R_kept h.B6 hk (fun k hk6 => by rw [hk6]; exact h6), blk_kept h.bx hk (ne _ _ _ h.bx (by decide)), blk_kept h.bo hk (ne _ _ _ h.bo (by decide)), h.lx, h.lo, h.l6, Nat.lt_of_lt_of_le h.s6 hk.1,
    h.t6.imp fun _ hc => blk_kept hc hk h6, h.xo, hB⟩
  obtain ⟨_, _, _, q, hq, cells, hc⟩ := hk4
  have hq5 : q = 5 := by simpa [Kd.int, Kd.scalar] using hq
  subst hq5
  exact ne _ _ _ hc (by decide)
/-- A state's block beside is written. -/
theorem InvA.state (h : InvA w W A0 c0 n0 gx go g6 u4 u5 u6 B O C) {g : Nat} {cells : Array Value} (hg : W.heap[g]? = some (.cells cells 54 (0, 0))) (hgl : w.heap.size ≤ g) (hk : KeepBut W W1 g none) (hB : Below g W W1) : InvA w W1 A0 c0 n0 gx go g6 u4 u5 u6 B O C := by
  have nx : gx ≠ g := fun e => by rw [← e, h.bx] at hg; simp at hg
  have no : go ≠ g := fun e => by rw [← e, h.bo] at hg; simp at hg
  have n6 : g6 ≠ g := fun e => by obtain ⟨_, hc⟩ := h.t6; rw [← e, hc] at hg; simp at hg
  have keep : ∀ k o, W.heap[k]? = some o → k ≠ g → W1.heap[k]? = some o := fun k o hk0 hne => (hk.2 k (blk_lt hk0) hne (by simp)).trans hk0
  exact ⟨Kd.R_mono (Kd.R_keep (Kd.R_types h.B4 hg (by simp [Kd.int, Kd.scalar])) hk (fun _ hk => hk.2)) (fun _ hk => hk.1), Kd.R_mono (Kd.R_keep (Kd.R_types h.B5 hg (by simp [Kd.int, Kd.scalar])) hk (fun _ hk => hk.2)) (fun _ hk => hk.1),
    Kd.R_keep h.B6 hk (fun k hk6 => by rw [hk6]; exact n6), keep _ _ h.bx nx, keep _ _ h.bo no, h.lx, h.lo, h.l6, Nat.lt_of_lt_of_le h.s6 hk.1, h.t6.imp fun _ hc => keep _ _ hc n6, h.xo, h.bel.trans (hB.mono hgl)⟩
theorem InvA.box5 (h : InvA w W A0 c0 n0 gx go g6 u4 u5 u6 B O C) (hg : W.grownBy W1 u5.ownBlock) : W1.cell? ⟨go, 0, none⟩ = some u5 ∧ W1.frozen? ⟨go, 0, none⟩ = false := by
  have ho1 := blk_grown h.bo hg (Kd.R_ne h.B5 h.bo (by decide))
  exact ⟨(blk_cell ho1 0).trans rfl, blk_frozen ho1 0⟩
/-- x, read. -/
theorem InvA.at_ {l : List Int} (h : InvA w W A0 c0 l.length gx go g6 u4 u5 u6 B O C) (hx : Kd.C (Kd.int .i32) w A0 l.length l) {i : Nat} (hi : i < l.length) : ∃ ad, A0 = some ad ∧ W.cell? (ad.add i) = some (.int .i32 (rd l i)) := by
  obtain ⟨_, _, hc⟩ := Kd.reads_of_C (d := (0 : Int)) hx
  obtain ⟨ad, ha, hc⟩ := hc (by omega)
  refine ⟨ad, ha, pw_cell_below h.bel ?_⟩
  rw [hc i hi]
  rfl
theorem InvA.start (nd n1 : Nat) (hn : n1 ≤ 1000000) : InvA w ((((w.alloc (.cells #[.slice A0 n0 c0] 22)).drewN nd).alloc (.cells #[.slice none 0 0] 41)).alloc (.cells (madeCells #[.int .i64 0] n1) 3)) A0 c0 n0 w.heap.size (w.heap.size + 1) (w.heap.size + 1 + 1)
    (.slice none 0 0) (.slice none 0 0) (.slice (some ⟨w.heap.size + 1 + 1, 0, none⟩) n1 n1) [] [] (List.replicate n1 0) := by
  have hs : (((w.alloc (.cells #[.slice A0 n0 c0] 22)).drewN nd).alloc (.cells #[.slice none 0 0] 41)).heap.size = w.heap.size + 1 + 1 := by simp
  have hm := own_made (((w.alloc (.cells #[.slice A0 n0 c0] 22)).drewN nd).alloc (.cells #[.slice none 0 0] 41)) w.heap.size 3 .i64 n1 (by rw [hs]; omega) (by omega)
  rw [hs] at hm
  refine ⟨Kd.R_nil _ _ _ _ _, Kd.R_nil _ _ _ _ _, Kd.R_of_own (by simpa [nums, encs] using hm) (fun k hk => by simpa [Value.ownBlock] using hk.symm), ?_, ?_, Nat.le_refl _, by omega, by omega, ?_, ⟨madeCells #[.int .i64 0] n1, ?_⟩, by omega, ?_⟩
  · exact blk_below (blk_below (blk_drewN (heap_alloc_new w _) nd) (below_alloc (Below.refl _ _) _)) (below_alloc (Below.refl _ _) _)
  · have h1 := heap_alloc_new ((w.alloc (.cells #[.slice A0 n0 c0] 22)).drewN nd) (.cells #[.slice none 0 0] 41)
    rw [show ((w.alloc (.cells #[.slice A0 n0 c0] 22)).drewN nd).heap.size = w.heap.size + 1 by simp] at h1
    exact blk_below h1 (below_alloc (Below.refl _ _) _)
  · simp
  · have h1 := heap_alloc_new (((w.alloc (.cells #[.slice A0 n0 c0] 22)).drewN nd).alloc (.cells #[.slice none 0 0] 41)) (.cells (madeCells #[.int .i64 0] n1) 3)
    rw [hs] at h1
    exact h1
  · exact below_alloc (below_alloc (pw_below_drewN (below_alloc (Below.refl _ _) _) _) _) _
end
theorem encA_places : ∀ (t : List Int) (i : Nat) (b o c b' o' c' : List Int), encA t i b o c = some (b', o', c') → (∀ x ∈ o, 0 ≤ x ∧ x < i) → o.Pairwise (· < ·) → o.length ≤ i → (∀ x ∈ o', 0 ≤ x ∧ x < i + t.length) ∧ o'.Pairwise (· < ·) ∧ o'.length ≤ i + t.length
  | [], i, b, o, c, b', o', c', h, h1, h2, h3 => by
    simp only [encA, Option.some.injEq, Prod.mk.injEq] at h
    obtain ⟨rfl, rfl, rfl⟩ := h
    exact ⟨by simpa using h1, h2, by simpa using h3⟩
  | p :: t, i, b, o, c, b', o', c', h, h1, h2, h3 => by
    unfold encA at h
    split at h
    · obtain ⟨c1, _, h⟩ := Option.bind_eq_some_iff.1 h
      have := encA_places t (i + 1) _ o c1 b' o' c' h (fun x hx => by have := h1 x hx; omega) h2 (by omega)
      simp only [List.length_cons]
      refine ⟨fun x hx => by have := this.1 x hx; omega, this.2.1, by have := this.2.2; omega⟩
    · have := encA_places t (i + 1) _ (o ++ [(i : Int)]) c b' o' c' h (fun x hx => by
          rcases List.mem_append.1 hx with hx | hx
          · have := h1 x hx; omega
          · simp at hx; omega) (by
          rw [List.pairwise_append]
          refine ⟨h2, by simp, fun x hx y hy => ?_⟩
          have := h1 x hx
          simp at hy
          omega) (by simp; omega)
      simp only [List.length_cons]
      refine ⟨fun x hx => by have := this.1 x hx; omega, this.2.1, by have := this.2.2; omega⟩
section
variable {w W W1 : World} {A0 : Option Addr} {c0 n0 gx go g6 g : Nat} {u4 u5 u6 v1 : Value} {B O C xs : List Int} {p n i b st : Int}
theorem InvA.st6 (h : InvA w W A0 c0 n0 gx go g6 u4 u5 u6 B O C) (hS : St W g p n i b st) : g ≠ g6 := fun e => by
  obtain ⟨cells, hc⟩ := h.t6
  unfold St at hS
  rw [e, hc] at hS
  simp at hS
theorem InvA.st_take (h : InvA w W A0 c0 n0 gx go g6 u4 u5 u6 B O C) (hS : St W g p n i b st) (hk : Kept W W1 (fun k => k = g6)) : St W1 g p n i b st := blk_kept hS hk (h.st6 hS)
theorem InvA.st4 (h : InvA w W A0 c0 n0 gx go g6 u4 u5 u6 B O C) (hS : St W g p n i b st) (hk : Kept W W1 (fun k => some k = u4.ownBlock)) : St W1 g p n i b st := blk_kept hS hk (Kd.R_ne h.B4 hS (by decide))
theorem InvA.st_put4 (h : InvA w W A0 c0 n0 gx go g6 u4 u5 u6 B O C) (hS : St W g p n i b st) (hg : W.grownBy W1 u4.ownBlock) : St W1 g p n i b st := blk_grown hS hg (Kd.R_ne h.B4 hS (by decide))
theorem InvA.st5 (h : InvA w W A0 c0 n0 gx go g6 u4 u5 u6 B O C) (hS : St W g p n i b st) (hk : Kept W W1 (fun k => some k = u5.ownBlock)) : St W1 g p n i b st := blk_kept hS hk (Kd.R_ne h.B5 hS (by decide))
theorem InvA.xne (h : InvA w W A0 c0 n0 gx go g6 u4 u5 u6 B O C) : some gx ≠ u5.ownBlock ∧ some go ≠ u5.ownBlock := ⟨Kd.R_ne h.B5 h.bx (by decide), Kd.R_ne h.B5 h.bo (by decide)⟩
theorem St.cells (hS : St W g p n i b st) : W.cell? ⟨g, 0, none⟩ = some (.int .i64 p) ∧ W.cell? ⟨g, 1, none⟩ = some (.int .i64 n) ∧ W.cell? ⟨g, 2, none⟩ = some (.int .i64 i) ∧ W.cell? ⟨g, 3, none⟩ = some (.int .i64 b) :=
  ⟨(blk_cell hS 0).trans rfl, (blk_cell hS 1).trans rfl, (blk_cell hS 2).trans rfl, (blk_cell hS 3).trans rfl⟩
/-- A place of the others, read. -/
theorem InvA.o_at {A5 : Option Addr} {n5 c5 : Nat} (h : InvA w W A0 c0 n0 gx go g6 u4 (.slice A5 n5 c5) u6 B O C) {j : Nat} (hj : j < O.length) : ∃ ad, A5 = some ad ∧ W.cell? (ad.add j) = some (.int .i64 (rd O j)) := by
  obtain ⟨_, _, hc⟩ := Kd.reads_of_C (d := (0 : Int)) (Kd.R_reads' h.B5).2.2
  obtain ⟨ad, ha, hc⟩ := hc (by omega)
  exact ⟨ad, ha, hc j hj⟩
end
theorem take_l0_length : ∀ (k : Nat) (c : List Int) (i : Int) (r : List Int), puny_counts_take.l0 k c i = some r → r.length = c.length
  | 0, _, _, _, h => by simp [puny_counts_take.l0] at h
  | k + 1, c, i, r, h => by
    simp only [puny_counts_take.l0] at h
    split at h
    · split at h
      · have := take_l0_length k _ _ _ h
        simpa using this
      · exact absurd h (by simp)
    · simp only [Option.some.injEq] at h
      rw [h]
theorem take_length {k : Nat} {c : List Int} {i : Int} {r : List Int} (h : puny_counts_take.f k c i = some r) : r.length = c.length := take_l0_length _ _ _ _ h
end Go.Proofs.Yticocjpfhllelaa.XP
/-! The walk of puny.Encode. -/
set_option linter.unusedVariables false
set_option linter.unusedSimpArgs false
namespace Go.Proofs.Yticocjpfhllelaa.XP
open Go.RowKit Go.Proofs.StableSort Go.Proofs.YticocjpfhllelaaW.PrintWords Go.Proofs.YticocjpfhllelaaW.PrintLast Go.Proofs.YticocjpfhllelaaW.PrintMore

theorem info3 : (Try.prog.info? 3).map (fun i => (i.zero, i.size, i.bytes)) = some (some (.int .i64 0), 1, 8) := by kernel_rfl

set_option maxHeartbeats 2000000 in
set_option maxRecDepth 100000 in
theorem enc_calls (A0 : Option Addr) (c0 : Nat) (l0 : List Int) (hsym : ∀ b o c, encA l0 0 [] [] (List.replicate (l0.length + 1) 0) = some (b, o, c) → ¬ o.length ≤ 1 → SymOk) (r1 : ByteArray) (r2 : Int) (w : World) (hr0 : Kd.C (Kd.int .i32) w A0 l0.length l0) (hc0 : l0.length ≤ c0) (h : encFn l0 = some (r1, r2)) :
    Calls Try.prog 11 #[.slice A0 l0.length c0] w fun e w' => e = .returned (.tuple #[.string r1, .int .i64 r2]) ∧ Below w.heap.size w w' := by
  have HC := Aside0.mk hr0
  clear hr0
  unfold encFn at h
  by_cases hlong : 65536 < l0.length
  · rw [if_pos hlong] at h
    simp only [Option.some.injEq, Prod.mk.injEq] at h
    obtain ⟨rfl, rfl⟩ := h
    go_enter Try.func11, Try.ntmps11
    go_wp2
    go_ret2
    exact ⟨rfl, below_alloc (Below.refl _ _) _⟩
  rw [if_neg hlong] at h
  obtain ⟨s, hs, h1⟩ := Option.bind_eq_some_iff.1 h
  clear h
  have h := h1
  clear h1
  have HS := Aside0.mk hs
  clear hs
  cases s with
  | false =>
    simp only [Bool.false_eq_true, if_false, Option.some.injEq, Prod.mk.injEq] at h
    obtain ⟨rfl, rfl⟩ := h
    go_enter Try.func11, Try.ntmps11
    go_wp2_with (go_at_call 26; refine (scalar_Sound.calls _ A0 c0 l0 false _ (Kd.C_below HC.out (below_alloc (Below.refl _ _) _)) hc0 HS.out).mono ?_; rintro e w' ⟨rfl, ⟨nd, rfl⟩⟩)
    go_ret2
    exact ⟨rfl, pw_below_drewN (below_alloc (Below.refl _ _) _) _⟩
  | true =>
    rw [if_pos rfl] at h
    obtain ⟨⟨b, o, c⟩, hA, h1⟩ := Option.bind_eq_some_iff.1 h
    clear h
    have h := h1
    clear h1
    simp only at h
    by_cases hcl : c.length = l0.length + 1 ∧ b.length ≤ 65536
    case neg => rw [if_neg hcl] at h; exact absurd h (by simp)
    rw [if_pos hcl] at h
    have HA := Aside0.mk hA
    have HE := Aside0.mk h
    have HCL := Aside0.mk hcl
    clear hA h hcl
    have hmk : ∀ W : World, (Instr.makeSlice 51 (.int .i64 ((l0.length : Int) + 1)) (.int .i64 ((l0.length : Int) + 1))).run Try.prog W = .ok (.slice (some ⟨W.heap.size, 0, none⟩) (l0.length + 1) (l0.length + 1)) (W.alloc (.cells (madeCells #[.int .i64 0] (l0.length + 1)) 3)) := by
      have := print_make (P := Try.prog) 51 3 .i64 8 Try.underlying51 info3 (by decide) (l0.length + 1) (by omega)
      simpa using this
    go_enter Try.func11, Try.ntmps11
    go_wp2_with (go_at_call 26; refine (scalar_Sound.calls _ A0 c0 l0 true _ (Kd.C_below HC.out (below_alloc (Below.refl _ _) _)) hc0 HS.out).mono ?_; rintro e w' ⟨rfl, ⟨nd, rfl⟩⟩)
    have HI0 := Aside0.mk (InvA.start (w := w) (A0 := A0) (c0 := c0) (n0 := l0.length) nd (l0.length + 1) (by omega))
    generalize hW0 : ((((w.alloc (Obj.cells #[Value.slice A0 l0.length c0] 22)).drewN nd).alloc (Obj.cells #[Value.slice none 0 0] 41)).alloc (Obj.cells (madeCells #[Value.int IntKind.i64 0] (l0.length + 1)) 3)) = W0 at HI0 ⊢
    clear hW0
    obtain ⟨g6, h6⟩ : ∃ g6, w.heap.size + 1 + 1 = g6 := ⟨_, rfl⟩
    rw [h6] at HI0 ⊢
    obtain ⟨go, ho⟩ : ∃ go, w.heap.size + 1 = go := ⟨_, rfl⟩
    rw [ho] at HI0 ⊢
    obtain ⟨gx, hx⟩ : ∃ gx, w.heap.size = gx := ⟨_, rfl⟩
    rw [hx] at HI0 ⊢
    clear h6 ho hx hmk
    go_loopw [4, 25] (fun v4 v25 wr => ∃ (i : Nat) (u5 : Value) (B O C : List Int), v25 = .int .i64 i ∧ i ≤ l0.length ∧ B.length ≤ i ∧ O.length ≤ i ∧ Aside0 (C.length = l0.length + 1) ∧
        Aside0 (InvA w wr A0 c0 l0.length gx go g6 v4 u5 (.slice (some ⟨g6, 0, none⟩) (l0.length + 1) (l0.length + 1)) B O C) ∧ Aside0 (encA (l0.drop i) i B O C = some (b, o, c)))
      (fun _ v25 _ => l0.length - (intOf v25).toNat)
    case atStart => exact ⟨0, _, [], [], _, rfl, Nat.zero_le _, Nat.le_refl _, Nat.le_refl _, ⟨by simp⟩, HI0, HA⟩
    case round =>
      have HAA := HA
      clear HI0 HA
      obtain ⟨i, u5, B, O, C, rfl, hi, hBl, hOl, HCl, HI, HA⟩ := hrel
      by_cases hil : i < l0.length
      · obtain ⟨ad, rfl, hxi⟩ := HI.out.at_ HC.out hil
        have hA := HA.out
        rw [List.drop_eq_getElem_cons hil] at hA
        have hge : l0[i] = rd l0 i := by simp [rd, hil]
        rw [hge] at hA
        have c0g := HI.out.co
        by_cases hp : rd l0 i < 128
        · rw [encA, if_pos hp] at hA
          obtain ⟨C1, hT, hA⟩ := Option.bind_eq_some_iff.1 hA
          have HT := Aside0.mk hT
          have HA1 := Aside0.mk hA
          clear hA hT HA
          go_wp2_with (first | ((with_reducible refine gate_builtin (b := .append) (xs := #[.tmp 32, .tmp 35]) rfl ?_); at_builtin; refine Kd.R_append (Kd.int .u8) (w0 := w) w.heap.size rfl (.tmp 32) (.tmp 35) 40 5 (.int .u8 0) 1 rfl Try.underlying40 info5 rfl (by decide) (by omega) u4 B (rd l0 i % 256) [.int .u8 (rd l0 i % 256)] (fun k => k ≠ g6) (fun _ => False) rfl rfl ?aP (fun _ hk => hk.elim) ?aF ?aO ?aB ?aS ?aL ?_; (case aP => exact rfl); (case aF => exact fun k hk => by have := HI.out.s6; omega); (case aO => exact HI.out.B4); (case aB => exact HI.out.bel); (case aS => exact HI.out.bel.size); (case aL => omega); intro v1 w1 hr hb hg hat_; have HI1 := Aside0.mk (HI.out.put4 hr hb hg); clear hr hb hg hat_ HI c0g) | (go_at_call 27; refine (puny_counts_take.calls _ (fun k => k = g6) (.slice (some ⟨g6, 0, none⟩) (l0.length + 1) (l0.length + 1)) C i C1 w _ HI1.out.bel HI1.out.B6 HT.out).mono ?_; rintro e w2 ⟨rfl, hr2, hb2, hk2⟩; have HI2 := Aside0.mk (HI1.out.take hr2 hb2 hk2 rfl); clear hr2 hb2 hk2 HI1))
          go_roundw
          case rel => exact ⟨i + 1, u5, B ++ [rd l0 i % 256], O, C1, by first | rfl | (congr 1; omega), by omega, by simp; omega, by omega, ⟨(take_length HT.out).trans HCl.out⟩, HI2, HA1⟩
          case measure => simp [intOf]; omega
        · rw [encA, if_neg hp] at hA
          have HA1 := Aside0.mk hA
          clear hA HA
          go_wp2_with (first | ((with_reducible refine gate_builtin (b := .append) (xs := #[.tmp 40, .tmp 42]) rfl ?_); at_builtin; refine Kd.R_append (Kd.int .i64) (w0 := w) w.heap.size rfl (.tmp 40) (.tmp 42) 41 3 (.int .i64 0) 8 rfl Try.underlying41 info3 rfl (by decide) (by omega) u5 O (i : Int) [.int .i64 (i : Int)] (fun k => k ≠ g6) (fun _ => False) rfl rfl ?aP (fun _ hk => hk.elim) ?aF ?aO ?aB ?aS ?aL ?_; (case aP => exact rfl); (case aF => exact fun k hk => by have := HI.out.s6; omega); (case aO => exact HI.out.B5); (case aB => exact HI.out.bel); (case aS => exact HI.out.bel.size); (case aL => omega); intro v1 w1 hr hb hg hat_; obtain ⟨cg, fg⟩ := HI.out.box5 hg; obtain ⟨A1, c1, e1⟩ := Kd.R_slice hr; rw [List.length_append, List.length_singleton] at e1; subst e1; have HI1 := Aside0.mk (HI.out.put5 hr hb hg); clear hr hb hg hat_ HI c0g))
          go_roundw
          case rel => exact ⟨i + 1, _, B, O ++ [(i : Int)], C, by first | rfl | (congr 1; omega), by omega, by omega, by simp; omega, HCl, HI1, HA1⟩
          case measure => simp [intOf]; omega
      · have hA := HA.out
        rw [List.drop_eq_nil_of_le (by omega)] at hA
        simp only [encA, Option.some.injEq, Prod.mk.injEq] at hA
        obtain ⟨rfl, rfl, rfl⟩ := hA
        clear HA
        have hpl := encA_places l0 0 [] [] _ _ _ _ HAA.out (by simp) (by simp) (by simp)
        rw [Nat.zero_add] at hpl
        have HPL := Aside0.mk hpl
        have HSO := Aside0.mk (hsym _ _ _ HAA.out)
        clear hpl HAA
        obtain ⟨A4, c4, e4⟩ := Kd.R_slice HI.out.B4
        subst e4
        obtain ⟨A5, c5, e5⟩ := Kd.R_slice HI.out.B5
        subst e5
        have hu54 := Try.underlying54
        have c0g := HI.out.co
        by_cases hb0 : 0 < B.length
        · skip
          have hE2 := HE.out
          rw [if_pos hb0] at hE2
          have HE2 := Aside0.mk hE2
          clear hE2 HE
          go_wp2_with (first | (go_at_call 28; refine (puny_begun.calls (B.length : Int) B.length 128 0 72 0 _ rfl).mono ?_; rintro e w1 ⟨rfl, hb1⟩; have HI2 := Aside0.mk ((HI.out.step hb1).step (below_alloc (Below.refl _ _) (.cells #[.int .i64 (B.length : Int), .int .i64 128, .int .i64 0, .int .i64 72, .int .i64 0] 54))); have HG := Aside0.mk (Nat.le_trans HI.out.bel.size hb1.size); have HS2 : Aside0 (St (w1.alloc (.cells #[.int .i64 (B.length : Int), .int .i64 128, .int .i64 0, .int .i64 72, .int .i64 0] 54)) w1.heap.size B.length 128 0 72 0) := ⟨blk_new _ _⟩; have c1g := HI2.out.co; clear hb1 HI c0g) | ((with_reducible refine gate_builtin (b := .append) (xs := #[.tmp 51, .tmp 52]) rfl ?_); at_builtin; refine Kd.R_append (Kd.int .u8) (w0 := w) w.heap.size rfl (.tmp 51) (.tmp 52) 40 5 (.int .u8 0) 1 rfl Try.underlying40 info5 rfl (by decide) (by omega) (.slice A4 B.length c4) B 45 [.int .u8 45] (fun k => k ≠ g6) (fun _ => False) rfl (by first | rfl | (go_simp; done) | (go_simp; rfl)) ?aP (fun _ hk => hk.elim) ?aF ?aO ?aB ?aS ?aL ?_; (case aP => exact rfl); (case aF => exact fun k hk => by have := HI2.out.s6; omega); (case aO => exact HI2.out.B4); (case aB => exact HI2.out.bel); (case aS => exact HI2.out.bel.size); (case aL => omega); intro v3 w3 hr hb hg hat_; have HS3 := Aside0.mk (HI2.out.st_put4 HS2.out hg); have HI3 := Aside0.mk (HI2.out.put4 hr hb hg); have c3g := HI3.out.co; clear hr hb hg hat_ HI2 HS2 c1g) | (go_at_call 29; refine (sort_calls w _ A0 c0 l0 gx go _ O HSO.out (fun k => k ≠ g6) HC.out HI3.out.bel HI3.out.B5 HI3.out.cx HI3.out.co HI3.out.xne.1 HI3.out.xne.2 (fun x hx => by have := HPL.out.1 x hx; omega) HPL.out.2.1 (by omega) HPL.out.2.2).mono ?_; rintro e w4 ⟨rfl, hr, hb, hk⟩; have HS4 := Aside0.mk (HI3.out.st5 HS3.out hk); have HI4 := Aside0.mk (HI3.out.sorted hr hb hk); have c4g := HI4.out.co; clear hr hb hk HI3 HS3))
          have hlo := (ordP_perm (rd l0) O).length_eq
          have HQ : Aside0 (∀ x ∈ ordP (rd l0) O, 0 ≤ x ∧ x < l0.length) := ⟨fun x hx => by have := HPL.out.1 x ((ordP_perm (rd l0) O).mem_iff.1 hx); omega⟩
          generalize ordP (rd l0) O = O2 at HI4 HE2 hlo HQ
          obtain ⟨g9, h9⟩ : ∃ g9, w1.heap.size = g9 := ⟨_, rfl⟩
          rw [h9] at HG HS4 ⊢
          have hB1 : (B ++ [45]).length ≤ 1000000000001 := by first | omega | (simp; omega)
          clear h9 HPL
          go_loopw [4, 60] (fun v4 v60 wr => ∃ (j : Nat) (B2 C2 : List Int) (p n ii bias st : Int), v60 = .int .i64 j ∧ j ≤ O.length ∧ B2.length ≤ 1000000000001 ∧ Aside0 (C2.length = l0.length + 1) ∧ Aside0 (InvA w wr A0 c0 l0.length gx go g6 v4 (.slice A5 O.length c5) (.slice (some ⟨g6, 0, none⟩) (l0.length + 1) (l0.length + 1)) B2 O2 C2) ∧
              Aside0 (St wr g9 p n ii bias st) ∧ Aside0 (encB l0 (O2.drop j) B2 C2 p n ii bias st = some (r1, r2)))
            (fun _ v60 _ => O.length - (intOf v60).toNat)
          case atStart => exact ⟨0, (B ++ [45]), C, B.length, 128, 0, 72, 0, rfl, Nat.zero_le _, hB1, HCl, HI4, HS4, HE2⟩
          case round =>
            clear HI4 HS4 HE2 hB1 HCl
            obtain ⟨j, B2, C2, p, n, ii, bias, st, rfl, hj, hB2, HCl, HI, HS, HE⟩ := hrel
            have hE := HE.out
            obtain ⟨k0, k1, k2, k3⟩ := HS.out.cells
            have cg := HI.out.co
            have cx := HI.out.cx
            by_cases hjl : j < O.length
            · obtain ⟨a5, hA5, hoj⟩ := HI.out.o_at (j := j) (by omega)
              subst hA5
              rw [List.drop_eq_getElem_cons (by omega)] at hE
              have hge : O2[j]'(by omega) = rd O2 j := by simp [rd, hlo, hjl]
              have hin := HQ.out (O2[j]'(by omega)) (List.getElem_mem _)
              rw [hge] at hE hin
              obtain ⟨a, ha⟩ : ∃ a : Nat, rd O2 j = a := ⟨(rd O2 j).toNat, by omega⟩
              rw [ha] at hE hoj hin
              have hal : a < l0.length := by omega
              obtain ⟨ax, hAx, hxa⟩ := HI.out.at_ HC.out hal
              subst hAx
              unfold encB at hE
              obtain ⟨h, hh, hE1⟩ := Option.bind_eq_some_iff.1 hE
              clear hE ha hge hin HE
              have HH := Aside0.mk hh
              clear hh
              by_cases hok : okB p n ii bias st = true
              case neg => rw [if_neg hok] at hE1; exact absurd hE1 (by simp)
              rw [if_pos hok] at hE1
              obtain ⟨dd, hd⟩ : ∃ dd, dOf (rd l0 a) n p h ii = dd := ⟨_, rfl⟩
              rw [hd] at hE1
              unfold dOf at hd
              have HE1 := Aside0.mk hE1
              clear hE1
              have hok' : (0 ≤ p ∧ p ≤ 200000) ∧ (0 ≤ n ∧ n ≤ 4294967296) ∧ (0 ≤ ii ∧ ii ≤ 200000) ∧ (0 ≤ st ∧ st ≤ 200000) ∧ (0 ≤ bias ∧ bias ≤ 200000) := by
                simp only [okB, Bool.and_eq_true, decide_eq_true_eq] at hok
                omega
              obtain ⟨⟨hp0, hp1⟩, ⟨hn0, hn1⟩, ⟨hi0, hi1⟩, ⟨hs0, hs1⟩, ⟨hb0', hb1'⟩⟩ := hok'
              clear hok
              have hah : ∀ q, Calls Try.prog 31 #[.slice (some ⟨g6, 0, none⟩) (l0.length + 1) (l0.length + 1), .int .i64 (a : Int)] (wr.drewN q) fun e w' => e = .returned (.int .i64 h) ∧ ∃ m, w' = (wr.drewN q).drewN m := fun q => by
                have h6 := Kd.R_reads' (Kd.R_drewN HI.out.B6 q)
                have h7 := h6.2.2
                have h8 := puny_counts_ahead.calls (C2.length + 5) (some ⟨g6, 0, none⟩) (l0.length + 1) C2 (a : Int) h (wr.drewN q) h7 (by rw [HCl.out]; exact Nat.le_refl _) HH.out
                rw [HCl.out] at h8
                refine h8.mono ?_
                rintro e w' ⟨rfl, ⟨m, rfl⟩⟩
                exact ⟨rfl, m, rfl⟩
              have HAH := Aside0.mk hah
              clear hah
              go_wp2_with (fail)
              go_quiet ((go_at_call 31; refine Calls.quiet_of (HAH.out _)))
              rw [hd]
              have hE1 := HE1.out
              clear HE1 hd HAH HH hoj hxa k0 k1 k2 cg cx
              by_cases hbig : 2147483647 < dd
              · rw [if_pos hbig] at hE1
                simp only [Option.some.injEq, Prod.mk.injEq] at hE1
                obtain ⟨rfl, rfl⟩ := hE1
                go_wp2
                go_ret2
                exact ⟨rfl, pw_below_drewN HI.out.bel _⟩
              · rw [if_neg hbig] at hE1
                by_cases hd0 : 0 ≤ dd
                case neg => rw [if_neg hd0] at hE1; exact absurd hE1 (by simp)
                rw [if_pos hd0] at hE1
                obtain ⟨b1, hN, hE2⟩ := Option.bind_eq_some_iff.1 hE1
                clear hE1
                obtain ⟨r, hR, hE3⟩ := Option.bind_eq_some_iff.1 hE2
                clear hE2
                obtain ⟨c1, hT, hE4⟩ := Option.bind_eq_some_iff.1 hE3
                clear hE3
                by_cases hlen : c1.length = C2.length ∧ b1.length ≤ 1000000000000
                case neg => rw [if_neg hlen] at hE4; exact absurd hE4 (by simp)
                rw [if_pos hlen] at hE4
                have HE5 := Aside0.mk hE4
                have HN := Aside0.mk hN
                have HR := Aside0.mk hR
                have HT := Aside0.mk hT
                have HLEN := Aside0.mk hlen
                clear hE4 hN hR hT hlen
                go_wp2_with (first | (go_at_call 32; refine (puny_number.calls 60 (fun k => some k = u4.ownBlock) u4 B2 dd bias b1 w _ (HI.out.drewN _).bel (Kd.R_tight rfl (HI.out.drewN _).B4) HN.out).mono ?_; rintro e w5 ⟨v5, rfl, hr, hb, hk⟩; have HS5 := Aside0.mk ((HI.out.drewN _).st4 (blk_drewN HS.out _) hk); have HI5 := Aside0.mk ((HI.out.drewN _).call4 (fun _ h => h) hr hb hk); clear hr hb hk HI HS k3) | (go_at_call 33; refine (step_calls g9 p n ii bias st dd r _ HS5.out hp0 hp1 hn0 hn1 hi0 hi1 hd0 (by omega) hs0 hs1 60 HR.out).mono ?_; rintro e w6 ⟨rfl, hs, hk, hb⟩; have HS6 := Aside0.mk hs; have HI6 := Aside0.mk (HI5.out.state HS5.out HG.out hk hb); clear hs hk hb HI5 HS5) | (go_at_call 27; refine (puny_counts_take.calls _ (fun k => k = g6) (.slice (some ⟨g6, 0, none⟩) (l0.length + 1) (l0.length + 1)) C2 a c1 w _ HI6.out.bel HI6.out.B6 HT.out).mono ?_; rintro e w7 ⟨rfl, hr7, hb7, hk7⟩; have HS7 := Aside0.mk (HI6.out.st_take HS6.out hk7); have HI7 := Aside0.mk (HI6.out.take hr7 hb7 hk7 rfl); clear hr7 hb7 hk7 HI6 HS6))
                go_roundw
                case rel => exact ⟨j + 1, b1, c1, p + 1, _, _, r, st + 1, by first | rfl | (congr 1; omega), by omega, by have := HLEN.out.2; omega, ⟨HLEN.out.1.trans HCl.out⟩, HI7, HS7, HE5⟩
                case measure => simp [intOf]; omega
            · rw [List.drop_eq_nil_of_le (by omega)] at hE
              simp only [encB, Option.some.injEq, Prod.mk.injEq] at hE
              obtain ⟨rfl, rfl⟩ := hE
              have hcv := own_string (P := Try.prog) Try.underlying40 Try.underlying5 Try.underlying9 (Kd.own_of_R HI.out.B4)
              go_wp2
              go_ret2
              exact ⟨rfl, HI.out.bel⟩
        · skip
          have hE2 := HE.out
          rw [if_neg hb0] at hE2
          have HE2 := Aside0.mk hE2
          clear hE2 HE
          go_wp2_with (first | (go_at_call 28; refine (puny_begun.calls (B.length : Int) B.length 128 0 72 0 _ rfl).mono ?_; rintro e w1 ⟨rfl, hb1⟩; have HI2 := Aside0.mk ((HI.out.step hb1).step (below_alloc (Below.refl _ _) (.cells #[.int .i64 (B.length : Int), .int .i64 128, .int .i64 0, .int .i64 72, .int .i64 0] 54))); have HG := Aside0.mk (Nat.le_trans HI.out.bel.size hb1.size); have HS2 : Aside0 (St (w1.alloc (.cells #[.int .i64 (B.length : Int), .int .i64 128, .int .i64 0, .int .i64 72, .int .i64 0] 54)) w1.heap.size B.length 128 0 72 0) := ⟨blk_new _ _⟩; have c1g := HI2.out.co; clear hb1 HI c0g) | (go_at_call 29; refine (sort_calls w _ A0 c0 l0 gx go _ O HSO.out (fun k => k ≠ g6) HC.out HI2.out.bel HI2.out.B5 HI2.out.cx HI2.out.co HI2.out.xne.1 HI2.out.xne.2 (fun x hx => by have := HPL.out.1 x hx; omega) HPL.out.2.1 (by omega) HPL.out.2.2).mono ?_; rintro e w4 ⟨rfl, hr, hb, hk⟩; have HS4 := Aside0.mk (HI2.out.st5 HS2.out hk); have HI4 := Aside0.mk (HI2.out.sorted hr hb hk); have c4g := HI4.out.co; clear hr hb hk HI2 HS2))
          have hlo := (ordP_perm (rd l0) O).length_eq
          have HQ : Aside0 (∀ x ∈ ordP (rd l0) O, 0 ≤ x ∧ x < l0.length) := ⟨fun x hx => by have := HPL.out.1 x ((ordP_perm (rd l0) O).mem_iff.1 hx); omega⟩
          generalize ordP (rd l0) O = O2 at HI4 HE2 hlo HQ
          obtain ⟨g9, h9⟩ : ∃ g9, w1.heap.size = g9 := ⟨_, rfl⟩
          rw [h9] at HG HS4 ⊢
          have hB1 : B.length ≤ 1000000000001 := by first | omega | (simp; omega)
          clear h9 HPL
          go_loopw [4, 60] (fun v4 v60 wr => ∃ (j : Nat) (B2 C2 : List Int) (p n ii bias st : Int), v60 = .int .i64 j ∧ j ≤ O.length ∧ B2.length ≤ 1000000000001 ∧ Aside0 (C2.length = l0.length + 1) ∧ Aside0 (InvA w wr A0 c0 l0.length gx go g6 v4 (.slice A5 O.length c5) (.slice (some ⟨g6, 0, none⟩) (l0.length + 1) (l0.length + 1)) B2 O2 C2) ∧
              Aside0 (St wr g9 p n ii bias st) ∧ Aside0 (encB l0 (O2.drop j) B2 C2 p n ii bias st = some (r1, r2)))
            (fun _ v60 _ => O.length - (intOf v60).toNat)
          case atStart => exact ⟨0, B, C, B.length, 128, 0, 72, 0, rfl, Nat.zero_le _, hB1, HCl, HI4, HS4, HE2⟩
          case round =>
            clear HI4 HS4 HE2 hB1 HCl
            obtain ⟨j, B2, C2, p, n, ii, bias, st, rfl, hj, hB2, HCl, HI, HS, HE⟩ := hrel
            have hE := HE.out
            obtain ⟨k0, k1, k2, k3⟩ := HS.out.cells
            have cg := HI.out.co
            have cx := HI.out.cx
            by_cases hjl : j < O.length
            · obtain ⟨a5, hA5, hoj⟩ := HI.out.o_at (j := j) (by omega)
              subst hA5
              rw [List.drop_eq_getElem_cons (by omega)] at hE
              have hge : O2[j]'(by omega) = rd O2 j := by simp [rd, hlo, hjl]
              have hin := HQ.out (O2[j]'(by omega)) (List.getElem_mem _)
              rw [hge] at hE hin
              obtain ⟨a, ha⟩ : ∃ a : Nat, rd O2 j = a := ⟨(rd O2 j).toNat, by omega⟩
              rw [ha] at hE hoj hin
              have hal : a < l0.length := by omega
              obtain ⟨ax, hAx, hxa⟩ := HI.out.at_ HC.out hal
              subst hAx
              unfold encB at hE
              obtain ⟨h, hh, hE1⟩ := Option.bind_eq_some_iff.1 hE
              clear hE ha hge hin HE
              have HH := Aside0.mk hh
              clear hh
              by_cases hok : okB p n ii bias st = true
              case neg => rw [if_neg hok] at hE1; exact absurd hE1 (by simp)
              rw [if_pos hok] at hE1
              obtain ⟨dd, hd⟩ : ∃ dd, dOf (rd l0 a) n p h ii = dd := ⟨_, rfl⟩
              rw [hd] at hE1
              unfold dOf at hd
              have HE1 := Aside0.mk hE1
              clear hE1
              have hok' : (0 ≤ p ∧ p ≤ 200000) ∧ (0 ≤ n ∧ n ≤ 4294967296) ∧ (0 ≤ ii ∧ ii ≤ 200000) ∧ (0 ≤ st ∧ st ≤ 200000) ∧ (0 ≤ bias ∧ bias ≤ 200000) := by
                simp only [okB, Bool.and_eq_true, decide_eq_true_eq] at hok
                omega
              obtain ⟨⟨hp0, hp1⟩, ⟨hn0, hn1⟩, ⟨hi0, hi1⟩, ⟨hs0, hs1⟩, ⟨hb0', hb1'⟩⟩ := hok'
              clear hok
              have hah : ∀ q, Calls Try.prog 31 #[.slice (some ⟨g6, 0, none⟩) (l0.length + 1) (l0.length + 1), .int .i64 (a : Int)] (wr.drewN q) fun e w' => e = .returned (.int .i64 h) ∧ ∃ m, w' = (wr.drewN q).drewN m := fun q => by
                have h6 := Kd.R_reads' (Kd.R_drewN HI.out.B6 q)
                have h7 := h6.2.2
                have h8 := puny_counts_ahead.calls (C2.length + 5) (some ⟨g6, 0, none⟩) (l0.length + 1) C2 (a : Int) h (wr.drewN q) h7 (by rw [HCl.out]; exact Nat.le_refl _) HH.out
                rw [HCl.out] at h8
                refine h8.mono ?_
                rintro e w' ⟨rfl, ⟨m, rfl⟩⟩
                exact ⟨rfl, m, rfl⟩
              have HAH := Aside0.mk hah
              clear hah
              go_wp2_with (fail)
              go_quiet ((go_at_call 31; refine Calls.quiet_of (HAH.out _)))
              rw [hd]
              have hE1 := HE1.out
              clear HE1 hd HAH HH hoj hxa k0 k1 k2 cg cx
              by_cases hbig : 2147483647 < dd
              · rw [if_pos hbig] at hE1
                simp only [Option.some.injEq, Prod.mk.injEq] at hE1
                obtain ⟨rfl, rfl⟩ := hE1
                go_wp2
                go_ret2
                exact ⟨rfl, pw_below_drewN HI.out.bel _⟩
              · rw [if_neg hbig] at hE1
                by_cases hd0 : 0 ≤ dd
                case neg => rw [if_neg hd0] at hE1; exact absurd hE1 (by simp)
                rw [if_pos hd0] at hE1
                obtain ⟨b1, hN, hE2⟩ := Option.bind_eq_some_iff.1 hE1
                clear hE1
                obtain ⟨r, hR, hE3⟩ := Option.bind_eq_some_iff.1 hE2
                clear hE2
                obtain ⟨c1, hT, hE4⟩ := Option.bind_eq_some_iff.1 hE3
                clear hE3
                by_cases hlen : c1.length = C2.length ∧ b1.length ≤ 1000000000000
                case neg => rw [if_neg hlen] at hE4; exact absurd hE4 (by simp)
                rw [if_pos hlen] at hE4
                have HE5 := Aside0.mk hE4
                have HN := Aside0.mk hN
                have HR := Aside0.mk hR
                have HT := Aside0.mk hT
                have HLEN := Aside0.mk hlen
                clear hE4 hN hR hT hlen
                go_wp2_with (first | (go_at_call 32; refine (puny_number.calls 60 (fun k => some k = u4.ownBlock) u4 B2 dd bias b1 w _ (HI.out.drewN _).bel (Kd.R_tight rfl (HI.out.drewN _).B4) HN.out).mono ?_; rintro e w5 ⟨v5, rfl, hr, hb, hk⟩; have HS5 := Aside0.mk ((HI.out.drewN _).st4 (blk_drewN HS.out _) hk); have HI5 := Aside0.mk ((HI.out.drewN _).call4 (fun _ h => h) hr hb hk); clear hr hb hk HI HS k3) | (go_at_call 33; refine (step_calls g9 p n ii bias st dd r _ HS5.out hp0 hp1 hn0 hn1 hi0 hi1 hd0 (by omega) hs0 hs1 60 HR.out).mono ?_; rintro e w6 ⟨rfl, hs, hk, hb⟩; have HS6 := Aside0.mk hs; have HI6 := Aside0.mk (HI5.out.state HS5.out HG.out hk hb); clear hs hk hb HI5 HS5) | (go_at_call 27; refine (puny_counts_take.calls _ (fun k => k = g6) (.slice (some ⟨g6, 0, none⟩) (l0.length + 1) (l0.length + 1)) C2 a c1 w _ HI6.out.bel HI6.out.B6 HT.out).mono ?_; rintro e w7 ⟨rfl, hr7, hb7, hk7⟩; have HS7 := Aside0.mk (HI6.out.st_take HS6.out hk7); have HI7 := Aside0.mk (HI6.out.take hr7 hb7 hk7 rfl); clear hr7 hb7 hk7 HI6 HS6))
                go_roundw
                case rel => exact ⟨j + 1, b1, c1, p + 1, _, _, r, st + 1, by first | rfl | (congr 1; omega), by omega, by have := HLEN.out.2; omega, ⟨HLEN.out.1.trans HCl.out⟩, HI7, HS7, HE5⟩
                case measure => simp [intOf]; omega
            · rw [List.drop_eq_nil_of_le (by omega)] at hE
              simp only [encB, Option.some.injEq, Prod.mk.injEq] at hE
              obtain ⟨rfl, rfl⟩ := hE
              have hcv := own_string (P := Try.prog) Try.underlying40 Try.underlying5 Try.underlying9 (Kd.own_of_R HI.out.B4)
              go_wp2
              go_ret2
              exact ⟨rfl, HI.out.bel⟩
end Go.Proofs.Yticocjpfhllelaa.XP
