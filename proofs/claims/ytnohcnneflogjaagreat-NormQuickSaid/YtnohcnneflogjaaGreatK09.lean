/- What may have changed between two worlds; a walk under way in its box. -/
import Derived.Test.YtnohcnneflogjaaGreatK08
import Derived.StillTailTactics
import Derived.Deep.WholeRow
set_option maxHeartbeats 16000000
set_option maxRecDepth 100000
set_option linter.unusedVariables false
set_option linter.unusedSimpArgs false
namespace Go.Proofs.YtnohcnneflogjaaGreat.M
open Go.RowKit
structure Chg (M : Nat → Prop) (w w' : World) : Prop where
 os : w'.os = w.os
 tape : w'.tape = w.tape
 output : w'.output = w.output
 size : w.heap.size ≤ w'.heap.size
 block : ∀ k, k < w.heap.size → ¬ M k → w'.heap[k]? = w.heap[k]?
theorem Chg.refl (M : Nat → Prop) (w : World) : Chg M w w := ⟨rfl, rfl, rfl, Nat.le_refl _, fun _ _ _ => rfl⟩
theorem Chg.trans {M M' : Nat → Prop} {w w1 w2 : World} (h : Chg M w w1) (k : Chg M' w1 w2) (hM : ∀ k, M' k → M k ∨ w.heap.size ≤ k) : Chg M w w2 :=
 ⟨k.os.trans h.os, k.tape.trans h.tape, k.output.trans h.output, Nat.le_trans h.size k.size, fun i hi hn => by
  rw [k.block i (Nat.lt_of_lt_of_le hi h.size) (fun hm => by
   rcases hM i hm with h1 | h1
   ·exact hn h1
   ·omega), h.block i hi hn]⟩
theorem Chg.of_up {M : Nat → Prop} {w w' : World} (h : Up w w') : Chg M w w' := ⟨h.os, h.tape, h.output, h.size, fun k hk _ => h.block k hk⟩
theorem Chg.of_grown {M : Nat → Prop} {w w' : World} {b : Option Nat} (h : w.grownBy w' b) (hM : ∀ k, b = some k → M k) : Chg M w w' :=
 ⟨h.os, h.tape, h.output, h.size, fun k hk hn => h.block k hk (fun e => hn (hM k e.symm))⟩
theorem Chg.of_set {M : Nat → Prop} (w : World) (a : Addr) (v : Value) (hM : M a.block) : Chg M w (w.setCell a v) :=
 ⟨rfl, rfl, rfl, by simp [World.setCell], fun k hk hn => Below.heap_setCell _ _ _ _ (fun e => hn (e ▸ hM))⟩
theorem Chg.below {M : Nat → Prop} {w w' : World} {B : Nat} (h : Chg M w w') (hB : B ≤ w.heap.size) (hM : ∀ k, M k → B ≤ k) : Below B w w' :=
 ⟨h.os, h.tape, h.output, h.size, fun k hk => h.block k (by omega) (fun m => by have := hM k m; omega)⟩
theorem Chg.mono {M M' : Nat → Prop} {w w' : World} (h : Chg M w w') (hM : ∀ k, M k → M' k) : Chg M' w w' := ⟨h.os, h.tape, h.output, h.size, fun k hk hn => h.block k hk (fun m => hn (hM k m))⟩
theorem own_chg {M : Nat → Prop} {w w' : World} {base : Nat} {e : TypeId} {size : Nat} {v : Value} {n : Nat} {xs : List Value} (h : w.ownsRow base e size v n xs) (hg : Chg M w w') (hne : ∀ k, v.ownBlock = some k → ¬ M k) : w'.ownsRow base e size v n xs :=
 own_block h fun g hg' => hg.block g (h.lt g hg').2 (hne g hg')
theorem cells_chg {M : Nat → Prop} {w w' : World} {A : Option Addr} {vs : List Value} (h : Cells w A vs) (hg : Chg M w w') (hne : ∀ ad, A = some ad → ¬ M ad.block) : Cells w' A vs := fun i v hv => by
 obtain ⟨ad, hA, hc⟩ := h i v hv
 have hb : (ad.add i).block = ad.block := by unfold Addr.add; split <;> rfl
 refine ⟨ad, hA, ?_⟩
 rw [World.cell?_of_block (hg.block (ad.add i).block (cell_lt hc) (by rw [hb]; exact hne ad hA))]
 exact hc
structure Walk (B : Nat) (w : World) (bw : Nat) (tv vo vp : Value) (out path : List Int) : Prop where
 box : w.heap[bw]? = some (.cells #[tv, vo, vp] 212 (0, 0))
 out : w.ownsRow B 21 1 vo out.length (out.map (Value.int .i32))
 path : w.ownsRow B 21 1 vp path.length (path.map (Value.int .i32))
 base : B ≤ bw
 bo : vo.ownBlock ≠ some bw
 bp : vp.ownBlock ≠ some bw
 op : ∀ k, vo.ownBlock = some k → vp.ownBlock ≠ some k
theorem Walk.lt {B : Nat} {w : World} {bw : Nat} {tv vo vp : Value} {out path : List Int} (h : Walk B w bw tv vo vp out path) : bw < w.heap.size := (Array.getElem?_eq_some_iff.1 h.box).1
theorem Walk.chg {M : Nat → Prop} {B : Nat} {w w' : World} {bw : Nat} {tv vo vp : Value} {out path : List Int} (h : Walk B w bw tv vo vp out path) (hg : Chg M w w') (h1 : ¬ M bw) (h2 : ∀ k, vo.ownBlock = some k → ¬ M k) (h3 : ∀ k, vp.ownBlock = some k → ¬ M k) : Walk B w' bw tv vo vp out path :=
 ⟨by rw [hg.block bw h.lt h1]; exact h.box, own_chg h.out hg h2, own_chg h.path hg h3, h.base, h.bo, h.bp, h.op⟩
theorem Walk.up {B : Nat} {w w' : World} {bw : Nat} {tv vo vp : Value} {out path : List Int} (h : Walk B w bw tv vo vp out path) (hu : Up w w') : Walk B w' bw tv vo vp out path :=
 h.chg (M := fun _ => False) (Chg.of_up hu) id (fun _ _ => id) (fun _ _ => id)
theorem Walk.cells {B : Nat} {w : World} {bw : Nat} {tv vo vp : Value} {out path : List Int} (h : Walk B w bw tv vo vp out path) :
 w.cell? ⟨bw, 0, none⟩ = some tv ∧ w.cell? ⟨bw, 1, none⟩ = some vo ∧ w.cell? ⟨bw, 2, none⟩ = some vp ∧ w.frozen? ⟨bw, 1, none⟩ = false ∧ w.frozen? ⟨bw, 2, none⟩ = false := by
 have hb := h.box
 refine ⟨?_, ?_, ?_, ?_, ?_⟩ <;> simp [World.cell?, World.frozen?, hb]
theorem box_set {w : World} {bw : Nat} {cs : Array Value} {t : TypeId} (h : w.heap[bw]? = some (.cells cs t (0, 0))) (o : Nat) (v : Value) : (w.setCell ⟨bw, o, none⟩ v).heap[bw]? = some (.cells (cs.setIfInBounds o v) t (0, 0)) := by
 simp only [World.setCell, Array.getElem?_modify, h]
 simp
def WalkM (bw : Nat) (vo vp : Value) (k : Nat) : Prop := k = bw ∨ vo.ownBlock = some k ∨ vp.ownBlock = some k
theorem Walk.setOut {B : Nat} {w w1 : World} {bw : Nat} {tv vo vp v' : Value} {out path out' : List Int} {o : Obj} (h : Walk B w bw tv vo vp out path) (hown : w1.ownsRow B 21 1 v' out'.length (out'.map (Value.int .i32))) (hg : (w.alloc o).grownBy w1 vo.ownBlock) (hat : v'.ownBlock = vo.ownBlock ∨ v'.ownBlock = some (w.alloc o).heap.size) :
 Walk B (w1.setCell ⟨bw, 1, none⟩ v') bw tv v' vp out' path ∧ Chg (WalkM bw vo vp) w (w1.setCell ⟨bw, 1, none⟩ v') ∧ AtOr w vo.ownBlock v'.ownBlock := by
 have hlt := h.lt
 have hc : Chg (WalkM bw vo vp) w w1 := (Chg.of_up (up_alloc (up_refl w) o)).trans (Chg.of_grown (M := WalkM bw vo vp) hg (fun k e => .inr (.inl e))) (fun k hk => .inl hk)
 have hc2 : Chg (WalkM bw vo vp) w (w1.setCell ⟨bw, 1, none⟩ v') := hc.trans (Chg.of_set (M := WalkM bw vo vp) w1 ⟨bw, 1, none⟩ v' (.inl rfl)) (fun k hk => .inl hk)
 have hn : (w.alloc o).heap.size = w.heap.size + 1 := by simp
 have hnb : v'.ownBlock ≠ some bw := by
  rcases hat with e | e
  ·rw [e]; exact h.bo
  ·rw [e, hn]; simp; omega
 have hold : ∀ k, k < w.heap.size → vo.ownBlock ≠ some k → w1.heap[k]? = w.heap[k]? := fun k hk hne => by
  rw [hg.block k (by omega) (fun e => hne e.symm)]
  exact Below.heap_alloc w o k hk
 have hbox1 : w1.heap[bw]? = some (.cells #[tv, vo, vp] 212 (0, 0)) := by
  rw [hold bw hlt h.bo]
  exact h.box
 refine ⟨⟨?_, ?_, ?_, h.base, hnb, h.bp, ?_⟩, hc2, ?_⟩
 ·rw [box_set hbox1]
  rfl
 ·exact own_block hown fun g hg' => Below.heap_setCell _ _ _ _ (fun e => hnb (by rw [hg', e]))
 ·exact own_block h.path fun g hg' => by
   rw [Below.heap_setCell _ _ _ _ (fun e => h.bp (by rw [hg', e]))]
   exact hold g (h.path.lt g hg').2 (fun e => h.op g e hg')
 ·intro k hk e
  rcases hat with e' | e'
  ·exact h.op k (by rw [← e']; exact hk) e
  ·rw [e'] at hk
   cases hk
   have := (h.path.lt _ e).2
   omega
 ·rcases hat with e | e
  ·exact .inl e
  ·exact .inr ⟨_, e, by omega⟩
theorem Walk.setPath {B : Nat} {w w1 : World} {bw : Nat} {tv vo vp v' : Value} {out path path' : List Int} {o : Obj} (h : Walk B w bw tv vo vp out path) (hown : w1.ownsRow B 21 1 v' path'.length (path'.map (Value.int .i32))) (hg : (w.alloc o).grownBy w1 vp.ownBlock) (hat : v'.ownBlock = vp.ownBlock ∨ v'.ownBlock = some (w.alloc o).heap.size) :
 Walk B (w1.setCell ⟨bw, 2, none⟩ v') bw tv vo v' out path' ∧ Chg (WalkM bw vo vp) w (w1.setCell ⟨bw, 2, none⟩ v') ∧ AtOr w vp.ownBlock v'.ownBlock := by
 have hlt := h.lt
 have hc : Chg (WalkM bw vo vp) w w1 := (Chg.of_up (up_alloc (up_refl w) o)).trans (Chg.of_grown (M := WalkM bw vo vp) hg (fun k e => .inr (.inr e))) (fun k hk => .inl hk)
 have hc2 : Chg (WalkM bw vo vp) w (w1.setCell ⟨bw, 2, none⟩ v') := hc.trans (Chg.of_set (M := WalkM bw vo vp) w1 ⟨bw, 2, none⟩ v' (.inl rfl)) (fun k hk => .inl hk)
 have hn : (w.alloc o).heap.size = w.heap.size + 1 := by simp
 have hnb : v'.ownBlock ≠ some bw := by
  rcases hat with e | e
  ·rw [e]; exact h.bp
  ·rw [e, hn]; simp; omega
 have hold : ∀ k, k < w.heap.size → vp.ownBlock ≠ some k → w1.heap[k]? = w.heap[k]? := fun k hk hne => by
  rw [hg.block k (by omega) (fun e => hne e.symm)]
  exact Below.heap_alloc w o k hk
 have hbox1 : w1.heap[bw]? = some (.cells #[tv, vo, vp] 212 (0, 0)) := by
  rw [hold bw hlt h.bp]
  exact h.box
 refine ⟨⟨?_, ?_, ?_, h.base, h.bo, hnb, ?_⟩, hc2, ?_⟩
 ·rw [box_set hbox1]
  rfl
 ·exact own_block h.out fun g hg' => by
   rw [Below.heap_setCell _ _ _ _ (fun e => h.bo (by rw [hg', e]))]
   exact hold g (h.out.lt g hg').2 (fun e => h.op g hg' e)
 ·exact own_block hown fun g hg' => Below.heap_setCell _ _ _ _ (fun e => hnb (by rw [hg', e]))
 ·intro k hk e
  rcases hat with e' | e'
  ·exact h.op k hk (by rw [← e']; exact e)
  ·rw [e'] at e
   cases e
   have := (h.out.lt _ hk).2
   omega
 ·rcases hat with e | e
  ·exact .inl e
  ·exact .inr ⟨_, e, by omega⟩
theorem own_take {w : World} {base : Nat} {e : TypeId} {g n cap : Nat} {xs : List Value} {x : Value} (h : w.ownsRow base e 1 (.slice (some ⟨g, 0, none⟩) (n + 1) cap) (n + 1) (xs ++ [x])) : w.ownsRow base e 1 (.slice (some ⟨g, 0, none⟩) n cap) n xs := by
 have hl := h.1
 simp at hl
 refine ⟨by simpa using hl, ?_⟩
 rcases h.2 with ⟨h1, _⟩ | ⟨g', cap', cur, hv, hg, hh, h1, h2, h3, h4⟩
 ·cases h1
 ·simp only [Value.slice.injEq, Option.some.injEq, Addr.mk.injEq, and_true, true_and] at hv
  obtain ⟨rfl, rfl⟩ := hv
  refine .inr ⟨g, cap, cur, rfl, hg, hh, by omega, h2, h3, ?_⟩
  have : cur.toList.take (n * 1) = (cur.toList.take ((n + 1) * 1)).take n := by rw [List.take_take]; congr 1; omega
  rw [this, h4, List.take_left' (by omega)]
theorem Walk.back {B : Nat} {w : World} {bw g n cap : Nat} {tv vo : Value} {out path : List Int} {d : Int} (h : Walk B w bw tv vo (.slice (some ⟨g, 0, none⟩) (path.length + 1) cap) out (path ++ [d])) :
 Walk B (w.setCell ⟨bw, 2, none⟩ (.slice (some ⟨g, 0, none⟩) path.length cap)) bw tv vo (.slice (some ⟨g, 0, none⟩) path.length cap) out path := by
 have hp := h.path
 simp only [List.length_append, List.length_cons, List.length_nil, Nat.zero_add, List.map_append, List.map_cons, List.map_nil] at hp
 refine ⟨?_, ?_, ?_, h.base, h.bo, h.bp, h.op⟩
 ·rw [box_set h.box]
  rfl
 ·exact own_block h.out fun k hk => Below.heap_setCell _ _ _ _ (fun e => h.bo (by rw [hk, e]))
 ·exact own_block (own_take hp) fun k hk => Below.heap_setCell _ _ _ _ (fun e => h.bp (by
   have : g = k := by simpa [Value.ownBlock] using hk
   have e' : k = bw := e
   simp [Value.ownBlock]; omega))
def RetDown (r : Except Int (List Int)) (B bw : Nat) (tv vo vp : Value) (path : List Int) (w : World) (e : Ending) (w' : World) : Prop :=
 match r with
 | .ok l => ∃ vo' vp', e = .returned (.tuple #[]) ∧ Walk B w' bw tv vo' vp' l path ∧ Chg (WalkM bw vo vp) w w' ∧ AtOr w vo.ownBlock vo'.ownBlock ∧ AtOr w vp.ownBlock vp'.ownBlock ∧ l.length ≤ 32
 | .error n => e = .panicked [{ v := .iface 30 (.int .i64 n), recovered := false }] ∧ Chg (WalkM bw vo vp) w w'
end Go.Proofs.YtnohcnneflogjaaGreat.M
namespace Go.Proofs.YtnohcnneflogjaaGreat.M
open Go.RowKit
structure Rng where
 lo : Int
 hi : Int
 val : Int
 deriving DecidableEq, Inhabited
def Rng.has (r : Rng) (c : Int) : Bool := decide (r.lo ≤ c) && decide (c ≤ r.hi)
def valR (L : List Rng) (d c : Int) : Int := match L.find? (fun r => r.has c) with | some r => r.val | none => d
structure Ordered (L : List Rng) : Prop where
 low : ∀ r ∈ L, 0 ≤ r.lo ∧ r.lo ≤ r.hi ∧ r.hi ≤ 1114111
 val : ∀ r ∈ L, 0 ≤ r.val ∧ r.val ≤ 65535
 apart : L.Pairwise (fun a b => a.hi < b.lo)
theorem Ordered.lt {L : List Rng} (h : Ordered L) {i j : Nat} {a b : Rng} (hij : i < j) (ha : L[i]? = some a) (hb : L[j]? = some b) : a.hi < b.lo := by
 have := List.pairwise_iff_getElem.1 h.apart i j (List.getElem?_eq_some_iff.1 ha).1 (List.getElem?_eq_some_iff.1 hb).1 hij
 rwa [(List.getElem?_eq_some_iff.1 ha).2, (List.getElem?_eq_some_iff.1 hb).2] at this
theorem Ordered.drop {L : List Rng} (h : Ordered L) (n : Nat) : Ordered (L.drop n) :=
 ⟨fun r hr => h.low r (List.mem_of_mem_drop hr), fun r hr => h.val r (List.mem_of_mem_drop hr), h.apart.sublist (List.drop_sublist n L)⟩
theorem valR_nil (d c : Int) : valR [] d c = d := rfl
theorem has_iff (r : Rng) (c : Int) : r.has c = true ↔ r.lo ≤ c ∧ c ≤ r.hi := by simp [Rng.has]
theorem valR_none {L : List Rng} {d c : Int} (h : ∀ r ∈ L, r.has c = false) : valR L d c = d := by
 unfold valR
 rw [List.find?_eq_none.2 (fun r hr => by rw [h r hr]; decide)]
theorem valR_take_hit {L : List Rng} (h : Ordered L) {i : Nat} {r : Rng} (hr : L[i]? = some r) {d c : Int} (hc : r.lo ≤ c) (hc2 : c ≤ r.hi) : valR (L.take (i + 1)) d c = r.val := by
 have h0 : (L.take i).find? (fun r => r.has c) = none := by
  rw [List.find?_eq_none]
  intro q hq
  obtain ⟨k, hk⟩ := List.mem_iff_getElem?.1 hq
  rw [List.getElem?_take] at hk
  split at hk
  ·have := h.lt (by assumption) hk hr
   rw [has_iff]
   omega
  ·cases hk
 unfold valR
 rw [List.take_add_one, hr, Option.toList_some, List.find?_append, h0, List.find?_cons_of_pos (by rw [has_iff]; omega)]
 rfl
theorem valR_take_miss {L : List Rng} {i : Nat} {r : Rng} (hr : L[i]? = some r) {d c : Int} (hc : ¬ (r.lo ≤ c ∧ c ≤ r.hi)) : valR (L.take (i + 1)) d c = valR (L.take i) d c := by
 unfold valR
 rw [List.take_add_one, hr, Option.toList_some, List.find?_append, List.find?_cons_of_neg (by rw [has_iff]; exact hc)]
 cases (L.take i).find? (fun r => r.has c) <;> rfl
theorem valR_stop {L : List Rng} (h : Ordered L) {i : Nat} {r : Rng} (hr : L[i]? = some r) {d c : Int} (hc : c < r.lo) : valR (L.take i) d c = valR L d c := by
 have hd : (L.drop i).find? (fun r => r.has c) = none := by
  rw [List.find?_eq_none]
  intro q hq
  obtain ⟨k, hk⟩ := List.mem_iff_getElem?.1 hq
  rw [List.getElem?_drop] at hk
  rw [has_iff]
  by_cases h0 : k = 0
  ·subst h0
   rw [Nat.add_zero, hr] at hk
   cases hk
   omega
  ·have := h.lt (show i < i + k by omega) hr hk
   have := h.low r (List.mem_of_getElem? hr)
   omega
 unfold valR
 conv => rhs; rw [← List.take_append_drop i L, List.find?_append, hd]
 cases (L.take i).find? (fun r => r.has c) <;> rfl
theorem valR_bound {L : List Rng} (h : Ordered L) {d : Int} (hd : 0 ≤ d ∧ d ≤ 65535) (c : Int) : 0 ≤ valR L d c ∧ valR L d c ≤ 65535 := by
 unfold valR
 cases hf : L.find? (fun r => r.has c) with
 | none => exact hd
 | some r => exact h.val r (List.mem_of_find?_eq_some hf)
def RngAt (w : World) (a : Addr) (r : Rng) : Prop := w.cell? a = some (.int .i64 r.lo) ∧ w.cell? ⟨a.block, a.off + 1, none⟩ = some (.int .i64 r.hi) ∧ w.cell? ⟨a.block, a.off + 2, none⟩ = some (.int .i64 r.val)
theorem RngAt.up {w w' : World} {a : Addr} {r : Rng} (h : RngAt w a r) (hu : Up w w') : RngAt w' a r := ⟨up_cell hu h.1, up_cell hu h.2.1, up_cell hu h.2.2⟩
def Rngs (w : World) (A : Option Addr) (L : List Rng) : Prop := ∀ i r, L[i]? = some r → ∃ ad, A = some ad ∧ RngAt w (ad.add (i * 3)) r
theorem Rngs.up {w w' : World} {A : Option Addr} {L : List Rng} (h : Rngs w A L) (hu : Up w w') : Rngs w' A L := fun i r hr => by
 obtain ⟨ad, hA, hc⟩ := h i r hr
 exact ⟨ad, hA, hc.up hu⟩
def arr64 (f : Nat → Int) : Array Value := ((List.range 64).map fun j => Value.int .u16 (f j)).toArray
theorem arr64_size (f : Nat → Int) : (arr64 f).size = 64 := by simp [arr64]
theorem arr64_get (f : Nat → Int) (j : Nat) (hj : j < 64) : (arr64 f)[j]? = some (.int .u16 (f j)) := by simp [arr64, hj]
theorem arr64_set (f : Nat → Int) (j : Nat) (hj : j < 64) (v : Int) : (arr64 f).setIfInBounds j (.int .u16 v) = arr64 (fun q => if q = j then v else f q) := by
 apply Array.ext_getElem?
 intro i
 rw [Array.getElem?_setIfInBounds]
 by_cases hi : i < 64
 ·rw [arr64_get _ i hi]
  by_cases he : j = i
  ·subst he
   rw [if_pos rfl, if_pos (by rw [arr64_size]; exact hj), arr64_get _ j hj]
   simp
  ·rw [if_neg he, arr64_get _ i hi, if_neg (fun h => he h.symm)]
 ·rw [Array.getElem?_eq_none (by rw [arr64_size]; omega), if_neg (by omega), Array.getElem?_eq_none (by rw [arr64_size]; omega)]
theorem arr64_congr {f g : Nat → Int} (h : ∀ j, j < 64 → f j = g j) : arr64 f = arr64 g := by
 unfold arr64
 congr 1
 apply List.map_congr_left
 intro j hj
 rw [h j (List.mem_range.1 hj)]
def Arr64At (w : World) (g : Nat) (f : Nat → Int) : Prop := w.heap[g]? = some (.cells (arr64 f) 156 (0, 0))
theorem Arr64At.cell {w : World} {g : Nat} {f : Nat → Int} (h : Arr64At w g f) (j : Nat) (hj : j < 64) : w.cell? ⟨g, j, none⟩ = some (.int .u16 (f j)) := by
 rw [cell_of_row w g j _ _ _ h, arr64_get f j hj]
theorem Arr64At.set {w : World} {g : Nat} {f : Nat → Int} (h : Arr64At w g f) (j : Nat) (hj : j < 64) (v : Int) : Arr64At (w.setCell ⟨g, j, none⟩ (.int .u16 v)) g (fun q => if q = j then v else f q) := by
 unfold Arr64At
 rw [box_set h, arr64_set f j hj]
theorem Arr64At.up {w w' : World} {g : Nat} {f : Nat → Int} (h : Arr64At w g f) (hu : Up w w') : Arr64At w' g f := (hu.block g (Array.getElem?_eq_some_iff.1 h).1).trans h
theorem Arr64At.alloc {w : World} {g : Nat} {f : Nat → Int} (h : Arr64At w g f) (o : Obj) : Arr64At (w.alloc o) g f := h.up (up_alloc (up_refl _) _)
theorem up_setCell {w w1 : World} (h : Up w w1) {a : Addr} (ha : w.heap.size ≤ a.block) (v : Value) : Up w (w1.setCell a v) := by
 refine ⟨h.os, h.tape, h.output, ?_, ?_⟩
 ·rw [World.size_setCell]
  exact h.size
 ·intro q hq
  rw [Below.heap_setCell _ _ _ _ (by omega)]
  exact h.block q hq
theorem arr64_info : (Tryz.prog.info? 156).map (fun i => (i.zero, i.size)) = some (some (.agg (arr64 fun _ => 0)), 64) := by kernel_rfl
theorem arr64_zero (w : World) : (zeroValue 156).run Tryz.prog w = .ok (.agg (arr64 fun _ => 0)) w := (zero_of_info arr64_info).1 w
theorem arr64_sz : (Tryz.prog.info? 156).map (·.size) = some 64 := (zero_of_info arr64_info).2
theorem arr64_one (f : Nat → Int) : (arr64 f).all (·.oneCell') = true := by
 rw [Array.all_eq_true]
 intro i hi
 have : (arr64 f)[i] = .int .u16 (f i) := by
  have h := arr64_get f i (by rw [arr64_size] at hi; exact hi)
  rw [Array.getElem?_eq_getElem hi] at h
  exact Option.some.inj h
 rw [this]
 rfl
theorem load_arr64 {w : World} {g : Nat} {f : Nat → Int} (h : Arr64At w g f) : (Instr.loadAt 156 (.pointer (some ⟨g, 0, none⟩))).run Tryz.prog w = .ok (.agg (arr64 f)) w := by
 simp only [Instr.loadAt, Instr.sureAddr, Sem.run_bind, Sem.run_pure, Result.andThen]
 exact run_loadVar_row w g _ _ _ _ _ h Tryz.underlying156 rfl (by rw [arr64_size]; exact arr64_sz)
theorem store_arr64 {w : World} {g : Nat} {f q : Nat → Int} (h : Arr64At w g f) : (Instr.storeAt 156 (.pointer (some ⟨g, 0, none⟩)) (.agg (arr64 q))).run Tryz.prog w = .ok () (w.setRow g (arr64 q)) := by
 simp only [Instr.storeAt, Instr.sureAddr, Sem.run_bind, Sem.run_pure, Result.andThen]
 exact run_storeVar_row w g _ _ _ _ h (by rw [arr64_size]; exact arr64_sz) (by rw [arr64_size, arr64_size]) (arr64_one q)
theorem wpList_load64 (w : World) {ops : Array Oper} {rest : List Oper} {o : Oper} {a : Act} {Q : Exit → Act → World → Prop} (hg : o.guard = none) (p : Operand) (hop : o.op = Op.load 156 p) (g : Nat) (f : Nat → Int)
 (hp : a.eval p = .pointer (some ⟨g, 0, none⟩)) (h : Arr64At w g f) (hK : wpList Tryz.prog ops Q rest (a.put o.dst (.agg (arr64 f))) w) : wpList Tryz.prog ops Q (o :: rest) a w := by
 refine wpList_plain hg fun K' hK' => ?_
 have hrun := load_arr64 h
 unfold Oper.wp
 simp only [execOp, hop, hp, hrun, Result.andThen, Sem.run_bind, Sem.run_pure]
 exact hK' _ _ hK
theorem wpList_store64 (w : World) {ops : Array Oper} {rest : List Oper} {o : Oper} {a : Act} {Q : Exit → Act → World → Prop} (hg : o.guard = none) (p v : Operand) (hop : o.op = Op.store 156 p v) (g : Nat) (f q : Nat → Int)
 (hp : a.eval p = .pointer (some ⟨g, 0, none⟩)) (hv : a.eval v = .agg (arr64 q)) (h : Arr64At w g f) (hK : wpList Tryz.prog ops Q rest (a.put o.dst undef) (w.setRow g (arr64 q))) : wpList Tryz.prog ops Q (o :: rest) a w := by
 refine wpList_plain hg fun K' hK' => ?_
 have hrun := store_arr64 (q := q) h
 unfold Oper.wp
 simp only [execOp, hop, hp, hv, hrun, Result.andThen, Sem.run_bind, Sem.run_pure]
 exact hK' _ _ hK
theorem Arr64At.row {w : World} {g : Nat} {f q : Nat → Int} (h : Arr64At w g f) : Arr64At (w.setRow g (arr64 q)) g q := setRow_heap w g (arr64 f) _ _ _ h
theorem up_setRow {w w1 : World} (h : Up w w1) {g : Nat} (hg : w.heap.size ≤ g) (cs : Array Value) : Up w (w1.setRow g cs) := by
 refine ⟨h.os, h.tape, h.output, ?_, ?_⟩
 ·rw [size_setRow]
  exact h.size
 ·intro q hq
  rw [← h.block q hq]
  simp only [World.setRow]
  rw [Array.getElem?_modify, if_neg (by omega)]
end Go.Proofs.YtnohcnneflogjaaGreat.M
namespace Go.Proofs.YtnohcnneflogjaaGreat.M
open Go.RowKit
theorem recBox_chg {M : Nat → Prop} {w w' : World} {b : Nat} {x : Rec} {A : Option Addr} {c : Nat} (h : RecBox w b x A c) (hc : Chg M w w') (hb : ¬ M b) : RecBox w' b x A c := by
 obtain ⟨h0, h1, h2, h3, h4, h5, h6, h7⟩ := h
 have hlt : b < w.heap.size := cell_lt h0
 have key : ∀ {o : Nat} {v : Value}, w.cell? ⟨b, o, none⟩ = some v → w'.cell? ⟨b, o, none⟩ = some v := fun hv => (World.cell?_of_block (hc.block b hlt hb)).trans hv
 exact ⟨key h0, key h1, key h2, key h3, key h4, key h5, key h6, key h7⟩
theorem add_block (ad : Addr) (n : Nat) : (ad.add n).block = ad.block := by unfold Addr.add; split <;> rfl
theorem recAt_chg {M : Nat → Prop} {w w' : World} {a : Addr} {x : Rec} {A : Option Addr} {c : Nat} (h : RecAt w a x A c) (hc : Chg M w w') (hb : ¬ M a.block) : RecAt w' a x A c := by
 obtain ⟨h0, h1, h2, h3, h4, h5, h6, h7⟩ := h
 have hlt : a.block < w.heap.size := cell_lt h0
 have key : ∀ {a' : Addr} {v : Value}, a'.block = a.block → w.cell? a' = some v → w'.cell? a' = some v := fun he hv => (World.cell?_of_block (hc.block _ (by rw [he]; exact hlt) (by rw [he]; exact hb))).trans hv
 exact ⟨key rfl h0, key rfl h1, key rfl h2, key rfl h3, key rfl h4, key rfl h5, key rfl h6, key rfl h7⟩
theorem own_lt_some {w : World} {base : Nat} {e : TypeId} {size n m cap : Nat} {xs : List Value} {A : Option Addr} {a : Addr} (h : w.ownsRow base e size (.slice A n cap) m xs) (ha : A = some a) : base ≤ a.block ∧ a.block < w.heap.size := by
 subst ha
 exact h.lt a.block rfl
end Go.Proofs.YtnohcnneflogjaaGreat.M
namespace Go.Proofs.YtnohcnneflogjaaGreat.M
open Go.RowKit
def TabFrom (H : Nat) (w : World) (A : Option Addr) (T : List Rec) : Prop :=
 ∀ i x, T[i]? = some x → ∃ ad A' c', A = some ad ∧ H ≤ ad.block ∧ RecAt w (ad.add (i * 8)) x A' c' ∧ Ints .i32 w A' x.to ∧ ∀ a, A' = some a → H ≤ a.block
theorem TabFrom.table {H : Nat} {w : World} {A : Option Addr} {T : List Rec} (h : TabFrom H w A T) : Table w A T := fun i x hx => by
 obtain ⟨ad, A', c', h1, _, h3, h4, _⟩ := h i x hx
 exact ⟨ad, h1, A', c', h3, h4⟩
theorem TabFrom.chg {M : Nat → Prop} {H : Nat} {w w' : World} {A : Option Addr} {T : List Rec} (h : TabFrom H w A T) (hc : Chg M w w') (hM : ∀ k, M k → k < H ∨ w.heap.size ≤ k) : TabFrom H w' A T := fun i x hx => by
 obtain ⟨ad, A', c', h1, h2, h3, h4, h5⟩ := h i x hx
 have hlt : ad.block < w.heap.size := by
  have := cell_lt h3.1
  rwa [add_block] at this
 refine ⟨ad, A', c', h1, h2, recAt_chg h3 hc (by rw [add_block]; intro hm; rcases hM _ hm with e | e <;> omega), ?_, h5⟩
 intro j v hv
 obtain ⟨a, ha, hcell⟩ := h4 j v hv
 have hb := add_block a j
 have hl := cell_lt hcell
 rw [hb] at hl
 have h6 := h5 a ha
 refine ⟨a, ha, ?_⟩
 rw [World.cell?_of_block (hc.block (a.add j).block (by rw [hb]; exact hl) (by rw [hb]; intro hm; rcases hM _ hm with e | e <;> omega))]
 exact hcell
theorem TabFrom.up {H : Nat} {w w' : World} {A : Option Addr} {T : List Rec} (h : TabFrom H w A T) (hu : Up w w') : TabFrom H w' A T := h.chg (M := fun _ => False) (Chg.of_up hu) (fun _ h => h.elim)
end Go.Proofs.YtnohcnneflogjaaGreat.M
