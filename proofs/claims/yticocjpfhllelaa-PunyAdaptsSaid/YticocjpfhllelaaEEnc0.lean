/- What puny.Encode comes to, in plain Lean, and what holds of its world at its loops. -/
import Derived.Test.YticocjpfhllelaaESort10
import Derived.Test.YticocjpfhllelaaEStep
import Derived.Test.YticocjpfhllelaaXP1
set_option linter.unusedVariables false
set_option linter.unusedSimpArgs false
namespace Go.Proofs.Yticocjpfhllelaa.XP
open Go.RowKit Go.Proofs Go.Proofs.StableSort Go.Proofs.YticocjpfhllelaaW.PrintWords Go.Proofs.YticocjpfhllelaaW.PrintLast Go.Proofs.YticocjpfhllelaaW.PrintMore

/-- The first loop: the points below 80, the places of the others, and what is taken. -/
def encA : List Int → Nat → List Int → List Int → List Int → Option (List Int × List Int × List Int)
  | [], _, b, o, c => some (b, o, c)
  | p :: t, i, b, o, c =>
    if p < 128 then (puny_counts_take.f (c.length + 5) c i).bind fun c' => encA t (i + 1) (b ++ [p % 256]) o c'
    else encA t (i + 1) b (o ++ [(i : Int)]) c
/-- What is reckoned in one round. -/
def dOf (q n p h i : Int) : Int := wrap64 (wrap64 (wrap64 (wrap64 (wrap64 q - n) * (p + 1)) + h) - i)
/-- Both loops' bounds. -/
def okB (p n i bias st : Int) : Bool := decide (0 ≤ p) && decide (p ≤ 200000) && decide (0 ≤ n) && decide (n ≤ 4294967296) && decide (0 ≤ i) && decide (i ≤ 200000) && decide (0 ≤ st) && decide (st ≤ 200000) && decide (0 ≤ bias) && decide (bias ≤ 200000)
/-- The second loop, over the places of the others. -/
def encB (l : List Int) : List Int → List Int → List Int → Int → Int → Int → Int → Int → Option (ByteArray × Int)
  | [], b, _, _, _, _, _, _ => some (strOfNums b, 0)
  | a :: t, b, c, p, n, i, bias, st =>
    (puny_counts_ahead.f (c.length + 5) c a).bind fun h =>
      if okB p n i bias st = true then
        if 2147483647 < dOf (rd l a) n p h i then some (⟨#[]⟩, 113)
        else if 0 ≤ dOf (rd l a) n p h i then
          (puny_number.f 60 b (dOf (rd l a) n p h i) bias).bind fun b' =>
          (puny_Adapt.f 60 (dOf (rd l a) n p h i) (p + 1) (st == 0)).bind fun r =>
          (puny_counts_take.f (c.length + 5) c a).bind fun c' =>
          if c'.length = c.length ∧ b'.length ≤ 1000000000000 then
            encB l t b' c' (p + 1) (n + (i + dOf (rd l a) n p h i) / (p + 1)) ((i + dOf (rd l a) n p h i) % (p + 1) + 1) r (st + 1)
          else none
        else none
      else none
/-- What is asked of symMerge. -/
def SymOk : Prop := ∀ (m : Nat) (lt tot : Fin (m + 1) → Fin (m + 1) → Bool) (_ : Go.Sort.SWO tot) (g : Nat) (lb : Array Value) (sf : Nat) (sb : Array Value) (blk off size : Nat)
      (_ : ∀ args w, (callFunc g args).run Try.prog w = .ok (.enter g args) w) (_ : SwapSwaps Try.prog sf sb (encF m) blk off size) (_ : size < 4611686018427387904) (f a mid b : Nat) (d : Array (Fin (m + 1))) (w : World),
      b - a ≤ f → LessReads Try.prog g lb (encF m) lt blk off size w → Go.Sort.Holds (encF m) w blk off d → blk < w.heap.size → a < mid → mid < b → b ≤ d.size → d.size = size → Go.Sort.SortedIn tot a mid d → Go.Sort.SortedIn tot mid b d → Pre lt tot a mid b d →
      Calls Try.prog 58 #[.agg #[.func (.func g) #[] lb, .func (.func sf) #[] sb], .int .i64 a, .int .i64 mid, .int .i64 b] w fun e w' =>
        e = .returned (.tuple #[]) ∧ ∃ d', Go.Sort.PermIn a b d d' ∧ Go.Sort.SortedIn tot a b d' ∧ SW (encF m) w blk off d' w'
theorem sort_calls (w0 w : World) (A0 : Option Addr) (c0 : Nat) (l0 : List Int) (gx go : Nat) (v : Value) (O : List Int) (hsym : ¬ O.length ≤ 1 → SymOk) (ok : Nat → Prop)
    (hx : Kd.C (Kd.int .i32) w0 A0 l0.length l0) (hB : Below w0.heap.size w0 w) (hO : Kd.R (Kd.int .i64) 3 w w0.heap.size ok v O)
    (hgx : w.cell? ⟨gx, 0, none⟩ = some (.slice A0 l0.length c0)) (hgo : w.cell? ⟨go, 0, none⟩ = some v) (hx1 : some gx ≠ v.ownBlock) (ho1 : some go ≠ v.ownBlock)
    (hin : ∀ o ∈ O, 0 ≤ o ∧ o < l0.length) (hinc : O.Pairwise (· < ·)) (hlen : l0.length < 1152921504606846976) (hlo : O.length ≤ l0.length) :
    Calls Try.prog 29 #[.iface 41 v, .func (.func 30) #[] #[.pointer (some ⟨gx, 0, none⟩), .pointer (some ⟨go, 0, none⟩)]] w fun e w' =>
      e = .returned (.tuple #[]) ∧ Kd.R (Kd.int .i64) 3 w' w0.heap.size ok v (ordP (rd l0) O) ∧ Below w0.heap.size w0 w' ∧ Kept w w' (fun k => some k = v.ownBlock) := by
  by_cases h1 : O.length ≤ 1
  · refine (sort_tiny v O w0.heap.size ok w hO h1 _ _ _).mono ?_
    rintro e w' ⟨rfl, hb⟩
    refine ⟨rfl, ?_, below_step hB hb, Kept.of_below hb _⟩
    rw [ordP_short (rd l0) O h1]
    exact Kd.R_below hO hb
  · exact sort_calls_of (hsym h1) w0 w A0 c0 l0 gx go v O ok hx hB hO hgx hgo hx1 ho1 hin hinc hlen hlo
/-- puny.Encode. -/
def encFn (l : List Int) : Option (ByteArray × Int) :=
  if 65536 < l.length then some (⟨#[]⟩, 2)
  else (scalar_Sound.f (l.length + 5) l).bind fun s =>
    if s = true then
      (encA l 0 [] [] (List.replicate (l.length + 1) 0)).bind fun (b, o, c) =>
        if c.length = l.length + 1 ∧ b.length ≤ 65536 then
          encB l (ordP (rd l) o) (if 0 < b.length then b ++ [45] else b) c b.length 128 0 72 0
        else none
    else some (⟨#[]⟩, 31)

/-- What holds of the world: x's box, the others' box and row, what is taken, the bytes. -/
structure InvA (w W : World) (A0 : Option Addr) (c0 n0 gx go g6 : Nat) (u4 u5 u6 : Value) (B O C : List Int) : Prop where
  B4 : Kd.R (Kd.int .u8) 5 W w.heap.size (fun k => k ≠ g6) u4 B
  B5 : Kd.R (Kd.int .i64) 3 W w.heap.size (fun k => k ≠ g6) u5 O
  B6 : Kd.R (Kd.int .i64) 3 W w.heap.size (fun k => k = g6) u6 C
  bx : W.heap[gx]? = some (.cells #[.slice A0 n0 c0] 22 (0, 0))
  bo : W.heap[go]? = some (.cells #[u5] 41 (0, 0))
  lx : w.heap.size ≤ gx
  lo : w.heap.size ≤ go
  l6 : w.heap.size ≤ g6
  s6 : g6 < W.heap.size
  t6 : ∃ cells, W.heap[g6]? = some (.cells cells 3 (0, 0))
  xo : gx ≠ go
  bel : Below w.heap.size w W

section
variable {w W W1 : World} {A0 : Option Addr} {c0 n0 gx go g6 : Nat} {u4 u5 u6 v1 : Value} {B O C xs : List Int}
theorem InvA.cx (h : InvA w W A0 c0 n0 gx go g6 u4 u5 u6 B O C) : W.cell? ⟨gx, 0, none⟩ = some (.slice A0 n0 c0) := (blk_cell h.bx 0).trans rfl
theorem InvA.co (h : InvA w W A0 c0 n0 gx go g6 u4 u5 u6 B O C) : W.cell? ⟨go, 0, none⟩ = some u5 := (blk_cell h.bo 0).trans rfl
theorem InvA.gx6 (h : InvA w W A0 c0 n0 gx go g6 u4 u5 u6 B O C) : gx ≠ g6 := fun e => by
  obtain ⟨cells, hc⟩ := h.t6
  rw [← e, h.bx] at hc
  simp at hc
theorem InvA.go6 (h : InvA w W A0 c0 n0 gx go g6 u4 u5 u6 B O C) : go ≠ g6 := fun e => by
  obtain ⟨cells, hc⟩ := h.t6
  rw [← e, h.bo] at hc
  simp at hc
/-- New blocks, draws. -/
theorem InvA.step (h : InvA w W A0 c0 n0 gx go g6 u4 u5 u6 B O C) (hb : Below W.heap.size W W1) : InvA w W1 A0 c0 n0 gx go g6 u4 u5 u6 B O C :=
  ⟨Kd.R_below h.B4 hb, Kd.R_below h.B5 hb, Kd.R_below h.B6 hb, blk_below h.bx hb, blk_below h.bo hb, h.lx, h.lo, h.l6, Nat.lt_of_lt_of_le h.s6 hb.size, h.t6.imp fun _ hc => blk_below hc hb, h.xo, below_step h.bel hb⟩
theorem InvA.drewN (h : InvA w W A0 c0 n0 gx go g6 u4 u5 u6 B O C) (m : Nat) : InvA w (W.drewN m) A0 c0 n0 gx go g6 u4 u5 u6 B O C := h.step (pw_below_drewN (Below.refl _ _) m)
/-- A byte is put behind the bytes. -/
theorem InvA.put4 (h : InvA w W A0 c0 n0 gx go g6 u4 u5 u6 B O C) (hr : Kd.R (Kd.int .u8) 5 W1 w.heap.size (fun k => k ≠ g6) v1 xs) (hB : Below w.heap.size w W1) (hg : W.grownBy W1 u4.ownBlock) : InvA w W1 A0 c0 n0 gx go g6 v1 u5 u6 xs O C := by
  have ne : ∀ k t cs, W.heap[k]? = some (.cells cs t (0, 0)) → (5 : Nat) ≠ t → some k ≠ u4.ownBlock := fun k t cs hk ht => Kd.R_ne h.B4 hk ht
  exact ⟨hr, Kd.R_over' h.B5 (Kd.R_typed h.B4) (by simp [Kd.int, Kd.scalar]) hg, Kd.R_over' h.B6 (Kd.R_typed h.B4) (by simp [Kd.int, Kd.scalar]) hg,
    blk_grown h.bx hg (ne _ _ _ h.bx (by decide)), blk_grown h.bo hg (ne _ _ _ h.bo (by decide)), h.lx, h.lo, h.l6, Nat.lt_of_lt_of_le h.s6 hg.size,
    h.t6.imp fun _ hc => blk_grown hc hg (ne _ _ _ hc (by decide)), h.xo, hB⟩
/-- Bytes are put behind the bytes by a call. -/
theorem InvA.call4 (h : InvA w W A0 c0 n0 gx go g6 u4 u5 u6 B O C) {P : Nat → Prop} (hP : ∀ k, P k → some k = u4.ownBlock) (hr : Kd.R (Kd.int .u8) 5 W1 w.heap.size (fun k => P k ∨ W.heap.size ≤ k) v1 xs) (hB : Below w.heap.size w W1) (hk : Kept W W1 P) : InvA w W1 A0 c0 n0 gx go g6 v1 u5 u6 xs O C := by
  have ne : ∀ k t cs, W.heap[k]? = some (.cells cs t (0, 0)) → (5 : Nat) ≠ t → ¬ P k := fun k t cs hk ht hp => Kd.R_ne h.B4 hk ht (hP k hp)
  have n6 : ¬ P g6 := by obtain ⟨cells, hc⟩ := h.t6; exact ne _ _ _ hc (by decide)
  have n5 : ∀ k, (∃ cells, W.heap[k]? = some (.cells cells 3 (0, 0))) → ¬ P k := fun k ⟨cells, hc⟩ => ne _ _ _ hc (by decide)
  refine ⟨Kd.R_mono hr (fun k hk => ?_), ?_, Kd.R_kept h.B6 hk (fun k hk6 => by rw [hk6]; exact n6), blk_kept h.bx hk (ne _ _ _ h.bx (by decide)), blk_kept h.bo hk (ne _ _ _ h.bo (by decide)), h.lx, h.lo, h.l6, Nat.lt_of_lt_of_le h.s6 hk.1,
    h.t6.imp fun _ hc => blk_kept hc hk n6, h.xo, hB⟩
  · rcases hk with hk | hk
    · intro e; exact n6 (e ▸ hk)
    · have := h.s6; omega
  · refine Kd.R_mono (Kd.R_kept (Kd.R_bound h.B5) hk (fun k hk5 => ?_)) (fun k hk5 => hk5.1)
    obtain ⟨_, _, _, q, hq, cells, hc⟩ := hk5
    have hq3 : q = 3 := by simpa [Kd.int, Kd.scalar] using hq
    subst hq3
    exact n5 k ⟨cells, hc⟩
/-- A place is taken. -/
theorem InvA.take (h : InvA w W A0 c0 n0 gx go g6 u4 u5 u6 B O C) (hr : Kd.R (Kd.int .i64) 3 W1 w.heap.size (fun k => k = g6 ∨ W.heap.size ≤ k) u6 xs) (hB : Below w.heap.size w W1) (hk : Kept W W1 (fun k => k = g6)) (hob : u6.ownBlock = some g6) : InvA w W1 A0 c0 n0 gx go g6 u4 u5 u6 B O xs := by
  refine ⟨Kd.R_kept h.B4 hk (fun _ hk => hk), Kd.R_kept h.B5 hk (fun _ hk => hk), Kd.R_mono (Kd.R_tight rfl hr) (fun k hk => ?_), blk_kept h.bx hk h.gx6, blk_kept h.bo hk h.go6, h.lx, h.lo, h.l6, Nat.lt_of_lt_of_le h.s6 hk.1, ?_, h.xo, hB⟩
  · rw [hob] at hk; injection hk
  · exact Kd.R_typed hr g6 hob
/-- A place is put behind the others. -/
theorem InvA.put5 (h : InvA w W A0 c0 n0 gx go g6 u4 u5 u6 B O C) (hr : Kd.R (Kd.int .i64) 3 W1 w.heap.size (fun k => k ≠ g6) v1 xs) (hB : Below w.heap.size w W1) (hg : W.grownBy W1 u5.ownBlock) : InvA w (W1.setCell ⟨go, 0, none⟩ v1) A0 c0 n0 gx go g6 u4 v1 u6 B xs C := by
  have ne : ∀ k t cs, W.heap[k]? = some (.cells cs t (0, 0)) → (3 : Nat) ≠ t → some k ≠ u5.ownBlock := fun k t cs hk ht => Kd.R_ne h.B5 hk ht
  have hx1 := blk_grown h.bx hg (ne _ _ _ h.bx (by decide))
  have ho1 := blk_grown h.bo hg (ne _ _ _ h.bo (by decide))
  have h6 : some g6 ≠ u5.ownBlock := fun e => h.B5.1 g6 e.symm rfl
  have hsz : (W1.setCell ⟨go, 0, none⟩ v1).heap.size = W1.heap.size := by simp [World.setCell]
  refine ⟨Kd.R_set (Kd.R_over' h.B4 (Kd.R_typed h.B5) (by simp [Kd.int, Kd.scalar]) hg) ho1 (by simp [Kd.int, Kd.scalar]) 0 v1, Kd.R_set hr ho1 (by simp [Kd.int, Kd.scalar]) 0 v1,
    Kd.R_set (Kd.R_grown h.B6 hg (fun k hk => by rw [hk]; exact h6)) ho1 (by simp [Kd.int, Kd.scalar]) 0 v1, blk_far (p := ⟨go, 0, none⟩) hx1 h.xo v1, blk_put ho1 0 v1 rfl, h.lx, h.lo, h.l6, ?_, h.t6.imp fun _ hc => blk_far (p := ⟨go, 0, none⟩) (blk_grown hc hg h6) (Ne.symm h.go6) v1, h.xo, hB.setCell (p := ⟨go, 0, none⟩) h.lo v1⟩
  rw [hsz]; exact Nat.lt_of_lt_of_le h.s6 hg.size
/-- The others are sorted. -/
theorem InvA.sorted (h : InvA w W A0 c0 n0 gx go g6 u4 u5 u6 B O C) (hr : Kd.R (Kd.int .i64) 3 W1 w.heap.size (fun k => k ≠ g6) u5 xs) (hB : Below w.heap.size w W1) (hk : Kept W W1 (fun k => some k = u5.ownBlock)) : InvA w W1 A0 c0 n0 gx go g6 u4 u5 u6 B xs C := by
  have ne : ∀ k t cs, W.heap[k]? = some (.cells cs t (0, 0)) → (3 : Nat) ≠ t → ¬ some k = u5.ownBlock := fun k t cs hk ht => Kd.R_ne h.B5 hk ht
  have h6 : ¬ some g6 = u5.ownBlock := fun e => h.B5.1 g6 e.symm rfl
  refine ⟨Kd.R_mono (Kd.R_kept (Kd.R_bound h.B4) hk (fun k hk4 => ?_)) (fun k hk4 => hk4.1), hr, Kd.R_kept h.B6 hk (fun k hk6 => by rw [hk6]; exact h6), blk_kept h.bx hk (ne _ _ _ h.bx (by decide)), blk_kept h.bo hk (ne _ _ _ h.bo (by decide)), h.lx, h.lo, h.l6, Nat.lt_of_lt_of_le h.s6 hk.1,
    h.t6.imp fun _ hc => blk_kept hc hk h6, h.xo, hB⟩
  obtain ⟨_, _, _, q, hq, cells, hc⟩ := hk4
  have hq5 : q = 5 := by simpa [Kd.int, Kd.scalar] using hq
  subst hq5
  exact ne _ _ _ hc (by decide)
/-- A state's block beside is written. -/
theorem InvA.state (h : InvA w W A0 c0 n0 gx go g6 u4 u5 u6 B O C) {g : Nat} {cells : Array Value} (hg : W.heap[g]? = some (.cells cells 54 (0, 0))) (hgl : w.heap.size ≤ g) (hk : KeepBut W W1 g none) (hB : Below g W W1) : InvA w W1 A0 c0 n0 gx go g6 u4 u5 u6 B O C := by
  have nx : gx ≠ g := fun e => by rw [← e, h.bx] at hg; simp at hg
  have no : go ≠ g := fun e => by rw [← e, h.bo] at hg; simp at hg
  have n6 : g6 ≠ g := fun e => by obtain ⟨_, hc⟩ := h.t6; rw [← e, hc] at hg; simp at hg
  have keep : ∀ k o, W.heap[k]? = some o → k ≠ g → W1.heap[k]? = some o := fun k o hk0 hne => (hk.2 k (blk_lt hk0) hne (by simp)).trans hk0
  exact ⟨Kd.R_mono (Kd.R_keep (Kd.R_types h.B4 hg (by simp [Kd.int, Kd.scalar])) hk (fun _ hk => hk.2)) (fun _ hk => hk.1), Kd.R_mono (Kd.R_keep (Kd.R_types h.B5 hg (by simp [Kd.int, Kd.scalar])) hk (fun _ hk => hk.2)) (fun _ hk => hk.1),
    Kd.R_keep h.B6 hk (fun k hk6 => by rw [hk6]; exact n6), keep _ _ h.bx nx, keep _ _ h.bo no, h.lx, h.lo, h.l6, Nat.lt_of_lt_of_le h.s6 hk.1, h.t6.imp fun _ hc => keep _ _ hc n6, h.xo, h.bel.trans (hB.mono hgl)⟩
theorem InvA.box5 (h : InvA w W A0 c0 n0 gx go g6 u4 u5 u6 B O C) (hg : W.grownBy W1 u5.ownBlock) : W1.cell? ⟨go, 0, none⟩ = some u5 ∧ W1.frozen? ⟨go, 0, none⟩ = false := by
  have ho1 := blk_grown h.bo hg (Kd.R_ne h.B5 h.bo (by decide))
  exact ⟨(blk_cell ho1 0).trans rfl, blk_frozen ho1 0⟩
/-- x, read. -/
theorem InvA.at_ {l : List Int} (h : InvA w W A0 c0 l.length gx go g6 u4 u5 u6 B O C) (hx : Kd.C (Kd.int .i32) w A0 l.length l) {i : Nat} (hi : i < l.length) : ∃ ad, A0 = some ad ∧ W.cell? (ad.add i) = some (.int .i32 (rd l i)) := by
  obtain ⟨_, _, hc⟩ := Kd.reads_of_C (d := (0 : Int)) hx
  obtain ⟨ad, ha, hc⟩ := hc (by omega)
  refine ⟨ad, ha, pw_cell_below h.bel ?_⟩
  rw [hc i hi]
  rfl
theorem InvA.start (nd n1 : Nat) (hn : n1 ≤ 1000000) : InvA w ((((w.alloc (.cells #[.slice A0 n0 c0] 22)).drewN nd).alloc (.cells #[.slice none 0 0] 41)).alloc (.cells (madeCells #[.int .i64 0] n1) 3)) A0 c0 n0 w.heap.size (w.heap.size + 1) (w.heap.size + 1 + 1)
    (.slice none 0 0) (.slice none 0 0) (.slice (some ⟨w.heap.size + 1 + 1, 0, none⟩) n1 n1) [] [] (List.replicate n1 0) := by
  have hs : (((w.alloc (.cells #[.slice A0 n0 c0] 22)).drewN nd).alloc (.cells #[.slice none 0 0] 41)).heap.size = w.heap.size + 1 + 1 := by simp
  have hm := own_made (((w.alloc (.cells #[.slice A0 n0 c0] 22)).drewN nd).alloc (.cells #[.slice none 0 0] 41)) w.heap.size 3 .i64 n1 (by rw [hs]; omega) (by omega)
  rw [hs] at hm
  refine ⟨Kd.R_nil _ _ _ _ _, Kd.R_nil _ _ _ _ _, Kd.R_of_own (by simpa [nums, encs] using hm) (fun k hk => by simpa [Value.ownBlock] using hk.symm), ?_, ?_, Nat.le_refl _, by omega, by omega, ?_, ⟨madeCells #[.int .i64 0] n1, ?_⟩, by omega, ?_⟩
  · exact blk_below (blk_below (blk_drewN (heap_alloc_new w _) nd) (below_alloc (Below.refl _ _) _)) (below_alloc (Below.refl _ _) _)
  · have h1 := heap_alloc_new ((w.alloc (.cells #[.slice A0 n0 c0] 22)).drewN nd) (.cells #[.slice none 0 0] 41)
    rw [show ((w.alloc (.cells #[.slice A0 n0 c0] 22)).drewN nd).heap.size = w.heap.size + 1 by simp] at h1
    exact blk_below h1 (below_alloc (Below.refl _ _) _)
  · simp
  · have h1 := heap_alloc_new (((w.alloc (.cells #[.slice A0 n0 c0] 22)).drewN nd).alloc (.cells #[.slice none 0 0] 41)) (.cells (madeCells #[.int .i64 0] n1) 3)
    rw [hs] at h1
    exact h1
  · exact below_alloc (below_alloc (pw_below_drewN (below_alloc (Below.refl _ _) _) _) _) _
end
theorem encA_places : ∀ (t : List Int) (i : Nat) (b o c b' o' c' : List Int), encA t i b o c = some (b', o', c') → (∀ x ∈ o, 0 ≤ x ∧ x < i) → o.Pairwise (· < ·) → o.length ≤ i → (∀ x ∈ o', 0 ≤ x ∧ x < i + t.length) ∧ o'.Pairwise (· < ·) ∧ o'.length ≤ i + t.length
  | [], i, b, o, c, b', o', c', h, h1, h2, h3 => by
    simp only [encA, Option.some.injEq, Prod.mk.injEq] at h
    obtain ⟨rfl, rfl, rfl⟩ := h
    exact ⟨by simpa using h1, h2, by simpa using h3⟩
  | p :: t, i, b, o, c, b', o', c', h, h1, h2, h3 => by
    unfold encA at h
    split at h
    · obtain ⟨c1, _, h⟩ := Option.bind_eq_some_iff.1 h
      have := encA_places t (i + 1) _ o c1 b' o' c' h (fun x hx => by have := h1 x hx; omega) h2 (by omega)
      simp only [List.length_cons]
      refine ⟨fun x hx => by have := this.1 x hx; omega, this.2.1, by have := this.2.2; omega⟩
    · have := encA_places t (i + 1) _ (o ++ [(i : Int)]) c b' o' c' h (fun x hx => by
          rcases List.mem_append.1 hx with hx | hx
          · have := h1 x hx; omega
          · simp at hx; omega) (by
          rw [List.pairwise_append]
          refine ⟨h2, by simp, fun x hx y hy => ?_⟩
          have := h1 x hx
          simp at hy
          omega) (by simp; omega)
      simp only [List.length_cons]
      refine ⟨fun x hx => by have := this.1 x hx; omega, this.2.1, by have := this.2.2; omega⟩
section
variable {w W W1 : World} {A0 : Option Addr} {c0 n0 gx go g6 g : Nat} {u4 u5 u6 v1 : Value} {B O C xs : List Int} {p n i b st : Int}
theorem InvA.st6 (h : InvA w W A0 c0 n0 gx go g6 u4 u5 u6 B O C) (hS : St W g p n i b st) : g ≠ g6 := fun e => by
  obtain ⟨cells, hc⟩ := h.t6
  unfold St at hS
  rw [e, hc] at hS
  simp at hS
theorem InvA.st_take (h : InvA w W A0 c0 n0 gx go g6 u4 u5 u6 B O C) (hS : St W g p n i b st) (hk : Kept W W1 (fun k => k = g6)) : St W1 g p n i b st := blk_kept hS hk (h.st6 hS)
theorem InvA.st4 (h : InvA w W A0 c0 n0 gx go g6 u4 u5 u6 B O C) (hS : St W g p n i b st) (hk : Kept W W1 (fun k => some k = u4.ownBlock)) : St W1 g p n i b st := blk_kept hS hk (Kd.R_ne h.B4 hS (by decide))
theorem InvA.st_put4 (h : InvA w W A0 c0 n0 gx go g6 u4 u5 u6 B O C) (hS : St W g p n i b st) (hg : W.grownBy W1 u4.ownBlock) : St W1 g p n i b st := blk_grown hS hg (Kd.R_ne h.B4 hS (by decide))
theorem InvA.st5 (h : InvA w W A0 c0 n0 gx go g6 u4 u5 u6 B O C) (hS : St W g p n i b st) (hk : Kept W W1 (fun k => some k = u5.ownBlock)) : St W1 g p n i b st := blk_kept hS hk (Kd.R_ne h.B5 hS (by decide))
theorem InvA.xne (h : InvA w W A0 c0 n0 gx go g6 u4 u5 u6 B O C) : some gx ≠ u5.ownBlock ∧ some go ≠ u5.ownBlock := ⟨Kd.R_ne h.B5 h.bx (by decide), Kd.R_ne h.B5 h.bo (by decide)⟩
theorem St.cells (hS : St W g p n i b st) : W.cell? ⟨g, 0, none⟩ = some (.int .i64 p) ∧ W.cell? ⟨g, 1, none⟩ = some (.int .i64 n) ∧ W.cell? ⟨g, 2, none⟩ = some (.int .i64 i) ∧ W.cell? ⟨g, 3, none⟩ = some (.int .i64 b) :=
  ⟨(blk_cell hS 0).trans rfl, (blk_cell hS 1).trans rfl, (blk_cell hS 2).trans rfl, (blk_cell hS 3).trans rfl⟩
/-- A place of the others, read. -/
theorem InvA.o_at {A5 : Option Addr} {n5 c5 : Nat} (h : InvA w W A0 c0 n0 gx go g6 u4 (.slice A5 n5 c5) u6 B O C) {j : Nat} (hj : j < O.length) : ∃ ad, A5 = some ad ∧ W.cell? (ad.add j) = some (.int .i64 (rd O j)) := by
  obtain ⟨_, _, hc⟩ := Kd.reads_of_C (d := (0 : Int)) (Kd.R_reads' h.B5).2.2
  obtain ⟨ad, ha, hc⟩ := hc (by omega)
  exact ⟨ad, ha, hc j hj⟩
end
theorem take_l0_length : ∀ (k : Nat) (c : List Int) (i : Int) (r : List Int), puny_counts_take.l0 k c i = some r → r.length = c.length
  | 0, _, _, _, h => by simp [puny_counts_take.l0] at h
  | k + 1, c, i, r, h => by
    simp only [puny_counts_take.l0] at h
    split at h
    · split at h
      · have := take_l0_length k _ _ _ h
        simpa using this
      · exact absurd h (by simp)
    · simp only [Option.some.injEq] at h
      rw [h]
theorem take_length {k : Nat} {c : List Int} {i : Int} {r : List Int} (h : puny_counts_take.f k c i = some r) : r.length = c.length := take_l0_length _ _ _ _ h
end Go.Proofs.Yticocjpfhllelaa.XP
