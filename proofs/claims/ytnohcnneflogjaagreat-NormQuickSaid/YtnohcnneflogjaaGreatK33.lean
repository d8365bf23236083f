/- The three rows of newStatuses, as they are filled. -/
import Derived.Test.YtnohcnneflogjaaGreatK29
import Derived.Test.YtnohcnneflogjaaGreatK31
import Derived.Test.YtnohcnneflogjaaGreatK32
set_option maxHeartbeats 32000000
set_option maxRecDepth 100000
set_option linter.unusedVariables false
set_option linter.unusedSimpArgs false
namespace Go.Proofs.YtnohcnneflogjaaGreat.M
open Go.RowKit
structure StI (H : Nat) (w : World) (v3 v4 v5 : Value) (R3 R4 : List Rng) (Lr : List RecP) : Prop where
 r3 : w.ownsRow H 175 3 v3 R3.length (rngsC R3)
 r4 : w.ownsRow H 175 3 v4 R4.length (rngsC R4)
 r5 : w.ownsRow H 113 8 v5 Lr.length (recsCells Lr)
 tos : ∀ p ∈ Lr, Ints .i32 w p.2.1 p.1.to ∧ ∀ a, p.2.1 = some a → H ≤ a.block ∧ a.block < w.heap.size ∧ v3.ownBlock ≠ some a.block ∧ v4.ownBlock ≠ some a.block ∧ v5.ownBlock ≠ some a.block
 ne : ∀ k, (v3.ownBlock = some k → v4.ownBlock ≠ some k ∧ v5.ownBlock ≠ some k) ∧ (v4.ownBlock = some k → v5.ownBlock ≠ some k)
section
variable {H : Nat} {w w' : World} {v3 v4 v5 : Value} {R3 R4 : List Rng} {Lr : List RecP}
theorem StI.start (H : Nat) (w : World) : StI H w nilS nilS nilS [] [] [] :=
 ⟨World.ownsRow_nil _ _ _ _, World.ownsRow_nil _ _ _ _, World.ownsRow_nil _ _ _ _, fun p h => (by cases h), fun k => ⟨fun h => (by cases h), fun h => (by cases h)⟩⟩
theorem StI.chg {M : Nat → Prop} (h : StI H w v3 v4 v5 R3 R4 Lr) (hc : Chg M w w') (hM : ∀ k, M k → k < H ∨ w.heap.size ≤ k) : StI H w' v3 v4 v5 R3 R4 Lr := by
 refine ⟨own_from h.r3 hc hM, own_from h.r4 hc hM, own_from h.r5 hc hM, fun p hp => ?_, h.ne⟩
 obtain ⟨h1, h2⟩ := h.tos p hp
 exact ⟨ints_chg h1 (fun a ha => (h2 a ha).1) hc hM, fun a ha => ⟨(h2 a ha).1, Nat.lt_of_lt_of_le (h2 a ha).2.1 hc.size, (h2 a ha).2.2⟩⟩
theorem StI.up (h : StI H w v3 v4 v5 R3 R4 Lr) (hu : Up w w') : StI H w' v3 v4 v5 R3 R4 Lr := h.chg (M := fun _ => False) (Chg.of_up hu) (fun _ h => h.elim)
theorem own_beside {o : Option Nat} {e : TypeId} {size : Nat} {v : Value} {n : Nat} {xs : List Value} (h : w.ownsRow H e size v n xs) (hg : w.grownBy w' o) (hne : ∀ k, v.ownBlock = some k → o ≠ some k) : w'.ownsRow H e size v n xs :=
 own_block h (fun g hg' => hg.block g (h.lt g hg').2 (fun e => hne g hg' e.symm))
theorem ints_beside {o : Option Nat} {A : Option Addr} {l : List Int} (h : Ints .i32 w A l) (hg : w.grownBy w' o) (hne : ∀ a, A = some a → o ≠ some a.block) : Ints .i32 w' A l := by
 intro i v hv
 obtain ⟨a, ha, hcell⟩ := h i v hv
 have hb := add_block a i
 have hl := cell_lt hcell
 rw [hb] at hl
 refine ⟨a, ha, ?_⟩
 rw [World.cell?_of_block (hg.block (a.add i).block (by rw [hb]; exact hl) (by rw [hb]; exact fun e => hne a ha e.symm))]
 exact hcell
theorem StI.app3 (h : StI H w v3 v4 v5 R3 R4 Lr) {g n cap : Nat} {r : Rng} (hown : w'.ownsRow H 175 3 (.slice (some ⟨g, 0, none⟩) n cap) (R3.length + 1) (rngsC R3 ++ encRng r)) (hg : w.grownBy w' v3.ownBlock) (hat : v3.ownBlock = some g ∨ w.heap.size ≤ g) :
 StI H w' (.slice (some ⟨g, 0, none⟩) n cap) v4 v5 (R3 ++ [r]) R4 Lr := by
 refine ⟨?_, own_beside h.r4 hg (fun k hk e => ((h.ne k).1 e).1 hk), own_beside h.r5 hg (fun k hk e => ((h.ne k).1 e).2 hk), fun p hp => ?_, fun k => ⟨fun hk => ?_, (h.ne k).2⟩⟩
 ·rw [rngsC_append, List.length_append]
  exact hown
 ·obtain ⟨h1, h2⟩ := h.tos p hp
  refine ⟨ints_beside h1 hg (fun a ha => (h2 a ha).2.2.1), fun a ha => ⟨(h2 a ha).1, Nat.lt_of_lt_of_le (h2 a ha).2.1 hg.size, fun e => ?_, (h2 a ha).2.2.2⟩⟩
  have e' : g = a.block := by injection e
  rcases hat with h3 | h3
  ·exact (h2 a ha).2.2.1 (by rw [h3, e'])
  ·have := (h2 a ha).2.1
   omega
 ·have e' : g = k := by injection hk
  subst e'
  rcases hat with h3 | h3
  ·exact (h.ne g).1 h3
  ·exact ⟨fun e => by have := (h.r4.lt g e).2; omega, fun e => by have := (h.r5.lt g e).2; omega⟩
theorem StI.app4 (h : StI H w v3 v4 v5 R3 R4 Lr) {g n cap : Nat} {r : Rng} (hown : w'.ownsRow H 175 3 (.slice (some ⟨g, 0, none⟩) n cap) (R4.length + 1) (rngsC R4 ++ encRng r)) (hg : w.grownBy w' v4.ownBlock) (hat : v4.ownBlock = some g ∨ w.heap.size ≤ g) :
 StI H w' v3 (.slice (some ⟨g, 0, none⟩) n cap) v5 R3 (R4 ++ [r]) Lr := by
 refine ⟨own_beside h.r3 hg (fun k hk e => ((h.ne k).1 hk).1 e), ?_, own_beside h.r5 hg (fun k hk e => (h.ne k).2 e hk), fun p hp => ?_, fun k => ⟨fun hk => ⟨fun e => ?_, ((h.ne k).1 hk).2⟩, fun hk => ?_⟩⟩
 ·rw [rngsC_append, List.length_append]
  exact hown
 ·obtain ⟨h1, h2⟩ := h.tos p hp
  refine ⟨ints_beside h1 hg (fun a ha => (h2 a ha).2.2.2.1), fun a ha => ⟨(h2 a ha).1, Nat.lt_of_lt_of_le (h2 a ha).2.1 hg.size, (h2 a ha).2.2.1, fun e => ?_, (h2 a ha).2.2.2.2⟩⟩
  have e' : g = a.block := by injection e
  rcases hat with h3 | h3
  ·exact (h2 a ha).2.2.2.1 (by rw [h3, e'])
  ·have := (h2 a ha).2.1
   omega
 ·have e' : g = k := by injection e
  subst e'
  rcases hat with h3 | h3
  ·exact ((h.ne g).1 hk).1 h3
  ·have := (h.r3.lt g hk).2
   omega
 ·have e' : g = k := by injection hk
  subst e'
  rcases hat with h3 | h3
  ·exact (h.ne g).2 h3
  ·exact fun e => by have := (h.r5.lt g e).2; omega
theorem StI.app5 (h : StI H w v3 v4 v5 R3 R4 Lr) {g n cap : Nat} {p : RecP} (hown : w'.ownsRow H 113 8 (.slice (some ⟨g, 0, none⟩) n cap) (Lr.length + 1) (recsCells Lr ++ pcells p)) (hg : w.grownBy w' v5.ownBlock) (hat : v5.ownBlock = some g ∨ w.heap.size ≤ g)
 (hp : Ints .i32 w p.2.1 p.1.to) (hpb : ∀ a, p.2.1 = some a → H ≤ a.block ∧ a.block < w.heap.size ∧ v3.ownBlock ≠ some a.block ∧ v4.ownBlock ≠ some a.block ∧ v5.ownBlock ≠ some a.block) :
 StI H w' v3 v4 (.slice (some ⟨g, 0, none⟩) n cap) R3 R4 (Lr ++ [p]) := by
 have key : ∀ q : RecP, Ints .i32 w q.2.1 q.1.to → (∀ a, q.2.1 = some a → H ≤ a.block ∧ a.block < w.heap.size ∧ v3.ownBlock ≠ some a.block ∧ v4.ownBlock ≠ some a.block ∧ v5.ownBlock ≠ some a.block) →
  Ints .i32 w' q.2.1 q.1.to ∧ ∀ a, q.2.1 = some a → H ≤ a.block ∧ a.block < w'.heap.size ∧ v3.ownBlock ≠ some a.block ∧ v4.ownBlock ≠ some a.block ∧ (Value.slice (some ⟨g, 0, none⟩) n cap).ownBlock ≠ some a.block := by
  intro q h1 h2
  refine ⟨ints_beside h1 hg (fun a ha => (h2 a ha).2.2.2.2), fun a ha => ⟨(h2 a ha).1, Nat.lt_of_lt_of_le (h2 a ha).2.1 hg.size, (h2 a ha).2.2.1, (h2 a ha).2.2.2.1, fun e => ?_⟩⟩
  have e' : g = a.block := by injection e
  rcases hat with h3 | h3
  ·exact (h2 a ha).2.2.2.2 (by rw [h3, e'])
  ·have := (h2 a ha).2.1
   omega
 refine ⟨own_beside h.r3 hg (fun k hk e => ((h.ne k).1 hk).2 e), own_beside h.r4 hg (fun k hk e => (h.ne k).2 hk e), ?_, fun q hq => ?_, fun k => ⟨fun hk => ⟨((h.ne k).1 hk).1, fun e => ?_⟩, fun hk e => ?_⟩⟩
 ·rw [recsCells_snoc, List.length_append]
  exact hown
 ·rcases List.mem_append.1 hq with hq | hq
  ·exact key q (h.tos q hq).1 (h.tos q hq).2
  ·rw [List.mem_singleton] at hq
   subst hq
   exact key q hp hpb
 ·have e' : g = k := by injection e
  subst e'
  rcases hat with h3 | h3
  ·exact ((h.ne g).1 hk).2 h3
  ·have := (h.r3.lt g hk).2
   omega
 ·have e' : g = k := by injection e
  subst e'
  rcases hat with h3 | h3
  ·exact (h.ne g).2 hk h3
  ·have := (h.r4.lt g hk).2
   omega
end
def statO (a b v : Value) : Obj := .cells #[a, b, v] 37 (0, 0)
theorem statO_cells {w : World} {g : Nat} {a b v : Value} (h : w.heap[g]? = some (statO a b v)) : w.cell? ⟨g, 0, none⟩ = some a ∧ w.cell? ⟨g, 1, none⟩ = some b ∧ w.cell? ⟨g, 2, none⟩ = some v ∧ w.frozen? ⟨g, 0, none⟩ = false ∧ w.frozen? ⟨g, 1, none⟩ = false ∧ w.frozen? ⟨g, 2, none⟩ = false := by
 unfold statO at h
 refine ⟨?_, ?_, ?_, ?_, ?_, ?_⟩ <;> simp [World.cell?, World.frozen?, h]
theorem build_rng (a b v : Int) (w : World) : (Instr.buildSlice 173 1 #[(0, .agg #[.int .i64 a, .int .i64 b, .int .i64 v])]).run Tryz.prog w = .ok (.slice (some ⟨w.heap.size, 0, none⟩) 1 1) (w.alloc (.cells #[.int .i64 a, .int .i64 b, .int .i64 v] 175)) := by kernel_rfl
theorem rng_news (w : World) (a b v : Int) : ∀ (j : Nat) (u : Value), [Value.int .i64 a, Value.int .i64 b, Value.int .i64 v][j]? = some u → (w.alloc (.cells #[.int .i64 a, .int .i64 b, .int .i64 v] 175)).cell? ((⟨w.heap.size, 0, none⟩ : Addr).add j) = some u :=
 World.news_of_block (cs := #[.int .i64 a, .int .i64 b, .int .i64 v]) (t := 175) (fr := (0, 0)) (heap_alloc_new w _)
end Go.Proofs.YtnohcnneflogjaaGreat.M
namespace Go.Proofs.YtnohcnneflogjaaGreat.M
open Go.RowKit
def whereF (T : List Rec) (c : Int) : Int := valR (rngsW T) 0 c
structure StatAt (H : Nat) (w : World) (b1 b2 : Nat) (A : Option Addr) (n c : Nat) (T : List Rec) : Prop where
 trie : TrieFrom H w b1 (statF T)
 wher : TrieFrom H w b2 (whereF T)
 recs : ∃ Lr : List RecP, n = Lr.length ∧ Lr.map (·.1) = T.filter pM ∧ w.ownsRow H 113 8 (.slice A n c) Lr.length (recsCells Lr) ∧ ∀ p ∈ Lr, Ints .i32 w p.2.1 p.1.to ∧ ∀ a, p.2.1 = some a → H ≤ a.block
theorem StatAt.chg {M : Nat → Prop} {H : Nat} {w w' : World} {b1 b2 : Nat} {A : Option Addr} {n c : Nat} {T : List Rec} (h : StatAt H w b1 b2 A n c T) (hc : Chg M w w') (hM : ∀ k, M k → k < H ∨ w.heap.size ≤ k) : StatAt H w' b1 b2 A n c T := by
 obtain ⟨Lr, h1, h2, h3, h4⟩ := h.recs
 exact ⟨h.trie.chg hc hM, h.wher.chg hc hM, ⟨Lr, h1, h2, own_from h3 hc hM, fun p hp => ⟨ints_chg (h4 p hp).1 (h4 p hp).2 hc hM, (h4 p hp).2⟩⟩⟩
abbrev nilP : Value := .pointer none
def statW0 (w : World) : World := (w.alloc (statO nilP nilP nilS)).alloc (statO nilP nilP nilS)
theorem statW0_ok (w : World) : Up w (statW0 w) ∧ (statW0 w).heap[w.heap.size]? = some (statO nilP nilP nilS) ∧ (statW0 w).heap[w.heap.size + 1]? = some (statO nilP nilP nilS) ∧ (statW0 w).heap.size = w.heap.size + 1 + 1 := by
 have h1 := heap_alloc_new w (statO nilP nilP nilS)
 have h2 := heap_alloc_new (w.alloc (statO nilP nilP nilS)) (statO nilP nilP nilS)
 rw [show (w.alloc (statO nilP nilP nilS)).heap.size = w.heap.size + 1 by simp] at h2
 exact ⟨up_alloc (up_alloc (up_refl _) _) _, up_block (up_alloc (up_refl _) _) h1, h2, by simp [statW0]⟩
def statRet (w : World) (g : Nat) (p v m : Value) : World := ((w.setCell ⟨g, 0, none⟩ p).setCell ⟨g, 1, none⟩ v).setCell ⟨g, 2, none⟩ m
theorem statRet_ok {w : World} {g : Nat} (p v m : Value) {a b d : Value} (h : w.heap[g]? = some (statO a b d)) : (statRet w g p v m).heap[g]? = some (statO p v m) ∧ Chg (fun k => k = g) w (statRet w g p v m) := by
 unfold statRet statO
 refine ⟨?_, ?_⟩
 ·rw [box_set (box_set (box_set h 0 _) 1 _) 2 _]
  rfl
 ·exact ((Chg.of_set (M := fun k => k = g) w _ _ rfl).trans (Chg.of_set (M := fun k => k = g) _ _ _ rfl) (fun _ h => .inl h)).trans (Chg.of_set (M := fun k => k = g) _ _ _ rfl) (fun _ h => .inl h)
theorem statO_set {w : World} {g : Nat} {a b d : Value} (h : w.heap[g]? = some (statO a b d)) (v : Value) : (w.setCell ⟨g, 2, none⟩ v).heap[g]? = some (statO a b v) ∧ (w.setCell ⟨g, 0, none⟩ v).heap[g]? = some (statO v b d) ∧ (w.setCell ⟨g, 1, none⟩ v).heap[g]? = some (statO a v d) := by
 unfold statO at *
 refine ⟨?_, ?_, ?_⟩ <;> (rw [box_set h]; rfl)
theorem chg_block {M : Nat → Prop} {w w' : World} (hc : Chg M w w') {g : Nat} {o : Obj} (hg : w.heap[g]? = some o) (hM : ¬ M g) : w'.heap[g]? = some o := (hc.block g (Array.getElem?_eq_some_iff.1 hg).1 hM).trans hg
theorem rng_news' (w : World) (n : Nat) (hn : w.heap.size = n) (a b v : Int) : ∀ (j : Nat) (u : Value), [Value.int .i64 a, Value.int .i64 b, Value.int .i64 v][j]? = some u → (w.alloc (.cells #[.int .i64 a, .int .i64 b, .int .i64 v] 175)).cell? ((⟨n, 0, none⟩ : Addr).add j) = some u := by
 subst hn
 exact rng_news w a b v
theorem rngsX_one {x : Rec} (h : stepI x = 1) (v : Int) : rngsX x v = [⟨x.lo, x.hi, v⟩] := by
 unfold rngsX
 rw [if_pos h]
theorem own_not {H : Nat} {w : World} {e : TypeId} {size : Nat} {v : Value} {n : Nat} {xs : List Value} (h : w.ownsRow H e size v n xs) {g : Nat} (hg : g < H) : some g ≠ v.ownBlock := fun e => by
 have := (h.lt g e.symm).1
 omega
theorem set_rec {w : World} {b : Nat} {x : Rec} {A A2 : Option Addr} {c c2 : Nat} (h : w.heap[b]? = some (.cells (recCells x A c) 113 (0, 0))) : (w.setCell ⟨b, 4, none⟩ (.slice A2 x.to.length c2)).heap[b]? = some (.cells (recCells x A2 c2) 113 (0, 0)) := by
 rw [box_set h]
 rfl
def StP (H : Nat) (w : World) (v3 v4 : Value) (A5 : Option Addr) (n5 c5 : Nat) (T P : List Rec) : Prop :=
 ∃ Lr, n5 = Lr.length ∧ StI H w v3 v4 (.slice A5 n5 c5) (rngsS P) (rngsW P) Lr ∧ Lr.map (·.1) = P.filter pM
theorem hat_le {o : Option Nat} {g n : Nat} (h : o = some g ∨ g = n) : o = some g ∨ n ≤ g := h.imp id (fun e => Nat.le_of_eq e.symm)
theorem mstatw_1 {p : Prop} (h : p := by
 go_wp2_with (first | (go_at_call 159; (with_reducible refine (statusOf_calls x.kind _ HKN.out.1 HKN.out.2).mono ?_); rintro e w1 ⟨rfl, rfl⟩) | (at_builtin; refine (wpList_append_row _ rfl _ _ 23 rfl w.heap.size 21 ie ze 1 4 Tryz.underlying23 hie hze hsi hby hzc (by decide) _ 0 [] rfl (World.ownsRow_nil _ _ _ _) A' x.to.length c' (x.to.map (Value.int .i32)) rfl (by simp) ?ha (ints_one _ _) ?hb ?hc ?hd ?_); (case ha => exact HTO1.out); (case hb => exact HLEN.out.1); (case hc => exact HLEN.out.2); (case hd => exact (up_trans HB.out HB1.out).size); intro v' w3 hown' hgrow hat; rw [Nat.zero_add, List.nil_append] at hown'; obtain ⟨A2, c2, rfl⟩ := own_any hown'; have hb3 : w3.heap[wr.heap.size]? = some (.cells (recCells x A' c') 113 (0, 0)) := grown_block hgrow (heap_alloc_new wr _) (fun e => by cases e); have e4 : w3.cell? ⟨wr.heap.size, 4, none⟩ = some (.slice A' x.to.length c') := (by simp [World.cell?, hb3, recCells]); have ef : w3.frozen? ⟨wr.heap.size, 4, none⟩ = false := (by simp [World.frozen?, hb3]); have HB4R := Az.mk (set_rec (A2 := A2) (c2 := c2) hb3); obtain ⟨l0, l1, l2, l3, l4, l5, l6, l7⟩ := recBox_of HB4R.out; have HCH4 : Az (Chg (fun k => k = wr.heap.size) wr (w3.setCell ⟨wr.heap.size, 4, none⟩ (.slice A2 x.to.length c2))) := ⟨((Chg.of_up (M := fun k => k = wr.heap.size) HB1.out).trans (Chg.of_up (M := fun _ => False) (up_nil hgrow rfl)) (fun _ h => h.elim)).trans (Chg.of_set (M := fun k => k = wr.heap.size) w3 _ _ rfl) (fun _ h => .inl h)⟩; have HA2 : Az (∀ a, A2 = some a → a.block = wr.heap.size + 1) := ⟨fun a ha => by (subst ha; rcases hat with h | h; (cases h); (injection h with h; simpa using h))⟩; have HTO3 : Az (Ints .i32 (w3.setCell ⟨wr.heap.size, 4, none⟩ (.slice A2 x.to.length c2)) A2 x.to) := ⟨by (obtain ⟨A9, c9, he9, hi9, _⟩ := own_ints hown'; injection he9 with q1 q2 q3; subst q1; exact cells_chg hi9 (Chg.of_set (M := fun k => k = wr.heap.size) w3 _ _ rfl) (fun a ha h => by have := HA2.out a ha; omega))⟩; have HS34 : Az (wr.heap.size + 1 ≤ w3.heap.size ∧ ∀ a, A2 = some a → a.block < w3.heap.size) := ⟨⟨by have := hgrow.size; simpa using this, fun a ha => (own_lt_some hown' ha).2⟩⟩; have HST4 := Az.mk (HSTR.out.chg HCH4.out (fun k hk => .inr (Nat.le_of_eq hk.symm))); have HBX4 : Az ((w3.setCell ⟨wr.heap.size, 4, none⟩ (.slice A2 x.to.length c2)).heap[w.heap.size]? = some (statO nilP nilP nilS) ∧ (w3.setCell ⟨wr.heap.size, 4, none⟩ (.slice A2 x.to.length c2)).heap[w.heap.size + 1]? = some (statO nilP nilP (.slice A5 Lr.length c5))) := ⟨⟨chg_block HCH4.out HBX.out.1 (by have := HSZ.out; omega), chg_block HCH4.out HBX.out.2 (by have := HSZ.out; omega)⟩⟩; obtain ⟨o0, o1, o2, o3, o4, o5⟩ := statO_cells HBX4.out.2; have hbr := fun W => build_rec x A2 c2 W; clear hown' hgrow hat hb3) | (at_builtin; refine (wpList_append_lies _ rfl _ _ 22 rfl (w.heap.size + 1 + 1) 113 ir _ 8 96 Tryz.underlying22 hir hzr hsr hbr0 hzr2 (by decide) (.slice A5 Lr.length c5) Lr.length (recsCells Lr) rfl (HST4.out.up (up_alloc (up_refl _) (recO x A2 c2))).r5 ⟨w3.heap.size, 0, none⟩ 1 1 (pcells (x, A2, c2)) rfl rfl (fun j u hu => by have := rec_new (w3.setCell ⟨wr.heap.size, 4, none⟩ (.slice A2 x.to.length c2)) x A2 c2 j u hu; rwa [World.size_setCell] at this) (pcells_one _) (by decide) HB5.out.1 HB5.out.2 (Nat.le_trans (by have := HSZ.out; have := HS34.out.1; rw [World.size_setCell]; omega) (up_alloc (up_refl (w3.setCell ⟨wr.heap.size, 4, none⟩ (.slice A2 x.to.length c2))) (recO x A2 c2)).size) _ rfl ?_); intro g6 cap6 w6 hown6 hgrow6 hat6 hlt6; have HST6 := Az.mk ((HST4.out.up (up_alloc (up_refl _) (recO x A2 c2))).app5 (p := (x, A2, c2)) hown6 hgrow6 (hat_le hat6) (HTO3.out.up (up_alloc (up_refl _) (recO x A2 c2))) (fun a ha => by (have h1 := HA2.out a ha; have h2 := HS34.out.2 a ha; have h3 := HSZ.out; refine ⟨by omega, Nat.lt_of_lt_of_le (by rw [World.size_setCell]; exact h2) (up_alloc (up_refl (w3.setCell ⟨wr.heap.size, 4, none⟩ (.slice A2 x.to.length c2))) (recO x A2 c2)).size, fun e => ?_, fun e => ?_, fun e => ?_⟩; (have := (HSTR.out.r3.lt _ e).2; omega); (have := (HSTR.out.r4.lt _ e).2; omega); (have := (HSTR.out.r5.lt _ e).2; omega)))); have HBX6 : Az (w6.heap[w.heap.size]? = some (statO nilP nilP nilS) ∧ w6.heap[w.heap.size + 1]? = some (statO nilP nilP (.slice A5 Lr.length c5))) := ⟨⟨grown_block hgrow6 (up_block (up_alloc (up_refl _) _) HBX4.out.1) (own_not HSTR.out.r5 (by omega)), grown_block hgrow6 (up_block (up_alloc (up_refl _) _) HBX4.out.2) (own_not HSTR.out.r5 (by omega))⟩⟩; obtain ⟨n0, n1, n2, n3, n4, n5⟩ := statO_cells HBX6.out.2; have HR6 := Az.mk (grown_rec hgrow6 ((recBox_of HB4R.out).keep (up_alloc (up_refl _) (recO x A2 c2))) (fun e => by have := (HSTR.out.r5.lt _ e.symm).2; omega)); have HSET7 : Az (Chg (fun k => k = w.heap.size + 1) w6 (w6.setCell ⟨w.heap.size + 1, 2, none⟩ (.slice (some ⟨g6, 0, none⟩) (Lr.length + 1) cap6))) := ⟨Chg.of_set w6 _ _ rfl⟩; have HST7 := Az.mk (HST6.out.chg HSET7.out (fun k hk => .inl (by omega))); have HR7 := Az.mk (recBox_chg HR6.out HSET7.out (by have := HSZ.out; omega)); obtain ⟨m0, m1, m2, m3, m4, m5, m6, m7⟩ := HR7.out; have HBX7 : Az ((w6.setCell ⟨w.heap.size + 1, 2, none⟩ (.slice (some ⟨g6, 0, none⟩) (Lr.length + 1) cap6)).heap[w.heap.size]? = some (statO nilP nilP nilS) ∧ (w6.setCell ⟨w.heap.size + 1, 2, none⟩ (.slice (some ⟨g6, 0, none⟩) (Lr.length + 1) cap6)).heap[w.heap.size + 1]? = some (statO nilP nilP (.slice (some ⟨g6, 0, none⟩) (Lr.length + 1) cap6))) := ⟨⟨chg_block HSET7.out HBX6.out.1 (by omega), (statO_set HBX6.out.2 _).1⟩⟩; obtain ⟨t0, t1, t2, t3, t4, t5⟩ := statO_cells HBX7.out.2; have HUP7 : Az (Up w (w6.setCell ⟨w.heap.size + 1, 2, none⟩ (.slice (some ⟨g6, 0, none⟩) (Lr.length + 1) cap6))) := ⟨((((Chg.of_up (M := fun k => w.heap.size ≤ k) HB.out).trans HCH4.out (fun k hk => .inl (by have := HSZ.out; omega))).trans (Chg.of_up (M := fun _ => False) (up_alloc (up_refl _) (recO x A2 c2))) (fun _ h => h.elim)).trans (Chg.of_grown (M := fun k => w.heap.size ≤ k) hgrow6 (fun k e => by have := (HSTR.out.r5.lt k e).1; omega)) (fun k h => .inl h)).trans HSET7.out (fun k hk => .inl (by omega)) |>.below (Nat.le_refl _) (fun k hk => hk)⟩; have HS7 : Az (w.heap.size + 1 + 1 ≤ (w6.setCell ⟨w.heap.size + 1, 2, none⟩ (.slice (some ⟨g6, 0, none⟩) (Lr.length + 1) cap6)).heap.size) := ⟨by have := HSZ.out; have := HS34.out.1; have h1 := hgrow6.size; have h2 := (up_alloc (up_refl (w3.setCell ⟨wr.heap.size, 4, none⟩ (.slice A2 x.to.length c2))) (recO x A2 c2)).size; rw [World.size_setCell] at h2; rw [World.size_setCell]; exact Nat.le_trans (by omega) (Nat.le_trans h2 h1)⟩; clear hown6 hgrow6 hat6 hlt6) | (at_builtin; refine (wpList_append_lies _ rfl _ _ 173 rfl (w.heap.size + 1 + 1) 175 re _ 3 24 Tryz.underlying173 hre hrz hrs hrb hrc (by decide) u3 (rngsS (T.take i)).length (rngsC (rngsS (T.take i))) rfl (HST7.out.up (up_alloc (up_refl _) (.cells #[.int .i64 x.lo, .int .i64 x.hi, .int .i64 (statN x.kind)] 175))).r3 ⟨w6.heap.size, 0, none⟩ 1 1 [.int .i64 x.lo, .int .i64 x.hi, .int .i64 (statN x.kind)] rfl rfl (rng_news' (w6.setCell ⟨w.heap.size + 1, 2, none⟩ (.slice (some ⟨g6, 0, none⟩) (Lr.length + 1) cap6)) (w6.heap.size) (by rw [World.size_setCell]) x.lo x.hi (statN x.kind)) (by simp [Value.oneCell']) (by decide) HB3.out.1 HB3.out.2 (Nat.le_trans HS7.out (up_alloc (up_refl _) _).size) _ rfl ?_); intro g8 cap8 w8 hown8 hgrow8 hat8 hlt8; have HST8 := Az.mk ((HST7.out.up (up_alloc (up_refl _) (.cells #[.int .i64 x.lo, .int .i64 x.hi, .int .i64 (statN x.kind)] 175))).app3 (r := ⟨x.lo, x.hi, statN x.kind⟩) hown8 hgrow8 (hat_le hat8)); have HBX8 : Az (w8.heap[w.heap.size]? = some (statO nilP nilP nilS) ∧ w8.heap[w.heap.size + 1]? = some (statO nilP nilP (.slice (some ⟨g6, 0, none⟩) (Lr.length + 1) cap6))) := ⟨⟨grown_block hgrow8 (up_block (up_alloc (up_refl _) _) HBX7.out.1) (own_not HST7.out.r3 (by omega)), grown_block hgrow8 (up_block (up_alloc (up_refl _) _) HBX7.out.2) (own_not HST7.out.r3 (by omega))⟩⟩; obtain ⟨y0, y1, y2, y3, y4, y5⟩ := statO_cells HBX8.out.2; have HR8 := Az.mk (grown_rec hgrow8 (HR7.out.keep (up_alloc (up_refl _) (.cells #[.int .i64 x.lo, .int .i64 x.hi, .int .i64 (statN x.kind)] 175))) (fun e => by have := (HSTR.out.r3.lt _ e.symm).2; omega)); obtain ⟨z0, z1, z2, z3, z4, z5, z6, z7⟩ := HR8.out; have HUP8 : Az (Up w w8) := ⟨(up_alloc HUP7.out (.cells #[.int .i64 x.lo, .int .i64 x.hi, .int .i64 (statN x.kind)] 175)).grown hgrow8 (up_alloc HUP7.out _).size (fun k hk => by have := (HST7.out.r3.lt k hk).1; omega)⟩; have HS8 : Az (w.heap.size + 1 + 1 ≤ w8.heap.size) := ⟨Nat.le_trans HS7.out (Nat.le_trans (up_alloc (up_refl (w6.setCell ⟨w.heap.size + 1, 2, none⟩ (.slice (some ⟨g6, 0, none⟩) (Lr.length + 1) cap6))) (.cells #[.int .i64 x.lo, .int .i64 x.hi, .int .i64 (statN x.kind)] 175)).size hgrow8.size)⟩; clear hown8 hgrow8 hat8 hlt8) | (at_builtin; refine (wpList_append_lies _ rfl _ _ 173 rfl (w.heap.size + 1 + 1) 175 re _ 3 24 Tryz.underlying173 hre hrz hrs hrb hrc (by decide) u4 (rngsW (T.take i)).length (rngsC (rngsW (T.take i))) rfl (HST8.out.up (up_alloc (up_refl _) (.cells #[.int .i64 x.lo, .int .i64 x.hi, .int .i64 ((Lr.length : Int) + 1)] 175))).r4 ⟨w8.heap.size, 0, none⟩ 1 1 [.int .i64 x.lo, .int .i64 x.hi, .int .i64 ((Lr.length : Int) + 1)] rfl rfl (rng_news' w8 (w8.heap.size) (rfl) x.lo x.hi ((Lr.length : Int) + 1)) (by simp [Value.oneCell']) (by decide) HB4.out.1 HB4.out.2 (Nat.le_trans HS8.out (up_alloc (up_refl _) _).size) _ rfl ?_); intro g9 cap9 w9 hown9 hgrow9 hat9 hlt9; have HST9 := Az.mk ((HST8.out.up (up_alloc (up_refl _) (.cells #[.int .i64 x.lo, .int .i64 x.hi, .int .i64 ((Lr.length : Int) + 1)] 175))).app4 (r := ⟨x.lo, x.hi, (Lr.length : Int) + 1⟩) hown9 hgrow9 (hat_le hat9)); have HBX9 : Az (w9.heap[w.heap.size]? = some (statO nilP nilP nilS) ∧ w9.heap[w.heap.size + 1]? = some (statO nilP nilP (.slice (some ⟨g6, 0, none⟩) (Lr.length + 1) cap6))) := ⟨⟨grown_block hgrow9 (up_block (up_alloc (up_refl _) _) HBX8.out.1) (own_not HST8.out.r4 (by omega)), grown_block hgrow9 (up_block (up_alloc (up_refl _) _) HBX8.out.2) (own_not HST8.out.r4 (by omega))⟩⟩; have HUP9 : Az (Up w w9) := ⟨(up_alloc HUP8.out (.cells #[.int .i64 x.lo, .int .i64 x.hi, .int .i64 ((Lr.length : Int) + 1)] 175)).grown hgrow9 (up_alloc HUP8.out _).size (fun k hk => by have := (HST8.out.r4.lt k hk).1; omega)⟩; clear hown9 hgrow9 hat9 hlt9))
 go_roundg k
 case measure => have := HI.out; omega
 case rel =>
  refine ⟨i + 1, Lr.length + 1, cap6, some ⟨g6, 0, none⟩, rfl, ⟨by have := HI.out; omega⟩, HUP9, HBX9, ⟨Lr ++ [(x, A2, c2)], by simp, ?_, ?_⟩⟩
  ·rw [rngsS_step HX.out, rngsW_step HX.out, if_pos HPS.out, if_pos HPM.out, rngsX_one HSTEP.out, rngsX_one HSTEP.out, ← HL5.out.2]
   exact HST9.out
  ·rw [List.map_append, HMAP.out, take_filter_at HX.out, if_pos HPM.out]
   rfl) : p := h
theorem newStatuses_calls (A : Option Addr) (c : Nat) (T : List Rec) (w : World) (hT : Table w A T) (hG : Good T) :
 Calls Tryz.prog 118 #[.slice A T.length c] w fun e w' => ∃ b1 b2 A' n c', e = .returned (.agg #[.pointer (some ⟨b1, 0, none⟩), .pointer (some ⟨b2, 0, none⟩), .slice A' n c']) ∧ StatAt (w.heap.size + 1 + 1) w' b1 b2 A' n c' T ∧ Up w w' := by
 have hu96 := Tryz.underlying113
 obtain ⟨hup0, hret0, hbox0, hsz0⟩ := statW0_ok w
 have HT := Az.mk hT
 have HG := Az.mk hG
 have HUP0 := Az.mk hup0
 have HRET0 := Az.mk hret0
 have HBOX0 := Az.mk hbox0
 have hl := hG.len
 clear hT hG hup0 hret0 hbox0 hsz0
 go_enter Tryz.func118, Tryz.ntmps118
 go_wp2
 change Code.wp _ _ _ _ (statW0 w)
 generalize statW0 w = W0 at *
 go_loopg [3, 4, 14] T.length (fun k v3 v4 v14 w' => ∃ (i n5 c5 : Nat) (A5 : Option Addr), v14 = .int .i64 i ∧ Az (i + k = T.length) ∧ Az (Up w w') ∧ Az (w'.heap[w.heap.size]? = some (statO nilP nilP nilS) ∧ w'.heap[w.heap.size + 1]? = some (statO nilP nilP (.slice A5 n5 c5))) ∧ Az (StP (w.heap.size + 1 + 1) w' v3 v4 A5 n5 c5 T (T.take i)))
 case atStart => exact ⟨0, 0, 0, none, rfl, ⟨Nat.zero_add _⟩, HUP0, ⟨HRET0.out, HBOX0.out⟩, ⟨[], rfl, StI.start _ _, rfl⟩⟩
 case round =>
  clear HUP0 HRET0 HBOX0
  obtain ⟨i, n5, c5, A5, rfl, HI, HB, HBX, HST⟩ := hrel
  have hi := HI.out
  cases gk with
  | zero =>
    have hlt : decide ((i : Int) < (T.length : Int)) = false := dFz (by omega)
    have hln : decide (i < T.length) = false := dFz (by omega)
    have hfull : T.take i = T := List.take_of_length_le (by omega)
    obtain ⟨Lr, hn5, hst, hmap⟩ := HST.out
    rw [hfull] at hst hmap
    subst hn5
    have HS := Az.mk hst
    have HMAP := Az.mk hmap
    have HSZ : Az (w.heap.size + 1 < wr.heap.size) := ⟨(Array.getElem?_eq_some_iff.1 HBX.out.2).1⟩
    have HLN : Az ((rngsS T).length ≤ 1073741824 ∧ (rngsW T).length ≤ 1073741824) := ⟨by have := (rngsS_apart HG.out).length_le; have := (rngsW_apart HG.out).length_le; omega⟩
    clear hi hfull hst hmap HST
    go_wp2_with (first | (go_at_call 160; (with_reducible refine (built_calls (w.heap.size + 1 + 1) u3 (rngsS T) _ HS.out.r3 (rngsS_apart HG.out) HLN.out.1).mono ?_); rintro e w1 ⟨b1, rfl, htr1, hch1⟩; have HCH1 := Az.mk hch1; have HTR1 := Az.mk htr1; have HB1 : Az (w1.heap[w.heap.size]? = some (statO nilP nilP nilS) ∧ w1.heap[w.heap.size + 1]? = some (statO nilP nilP (.slice A5 Lr.length c5))) := ⟨⟨chg_block hch1 HBX.out.1 (fun h => by have := (HS.out.r3.lt _ h).1; omega), chg_block hch1 HBX.out.2 (fun h => by have := (HS.out.r3.lt _ h).1; omega)⟩⟩; obtain ⟨a0, a1, a2, a3, a4, a5⟩ := statO_cells HB1.out.2; have HB2 : Az ((w1.setCell ⟨w.heap.size + 1, 0, none⟩ (.pointer (some ⟨b1, 0, none⟩))).heap[w.heap.size]? = some (statO nilP nilP nilS) ∧ (w1.setCell ⟨w.heap.size + 1, 0, none⟩ (.pointer (some ⟨b1, 0, none⟩))).heap[w.heap.size + 1]? = some (statO (.pointer (some ⟨b1, 0, none⟩)) nilP (.slice A5 Lr.length c5))) := ⟨⟨by rw [Below.heap_setCell _ _ _ _ (show w.heap.size ≠ w.heap.size + 1 by omega)]; exact HB1.out.1, (statO_set HB1.out.2 _).2.1⟩⟩; have HSET1 : Az (Chg (fun k => k = w.heap.size + 1) w1 (w1.setCell ⟨w.heap.size + 1, 0, none⟩ (.pointer (some ⟨b1, 0, none⟩)))) := ⟨Chg.of_set w1 _ _ rfl⟩; have HR4 := Az.mk (own_chg (own_chg HS.out.r4 hch1 (fun k hk e => ((HS.out.ne k).1 e).1 hk)) HSET1.out (fun k hk e => by have := (HS.out.r4.lt k hk).1; omega)); clear hch1 htr1) | (go_at_call 160; (with_reducible refine (built_calls (w.heap.size + 1 + 1) u4 (rngsW T) _ HR4.out (rngsW_apart HG.out) HLN.out.2).mono ?_); rintro e w2 ⟨b2, rfl, htr2, hch2⟩; have HCH2 := Az.mk hch2; have HTR2 := Az.mk htr2; have HB3 : Az (w2.heap[w.heap.size]? = some (statO nilP nilP nilS) ∧ w2.heap[w.heap.size + 1]? = some (statO (.pointer (some ⟨b1, 0, none⟩)) nilP (.slice A5 Lr.length c5))) := ⟨⟨chg_block hch2 HB2.out.1 (fun h => by have := (HS.out.r4.lt _ h).1; omega), chg_block hch2 HB2.out.2 (fun h => by have := (HS.out.r4.lt _ h).1; omega)⟩⟩; obtain ⟨b0, b1', b2', b3, b4, b5⟩ := statO_cells HB3.out.2; obtain ⟨r0, r1, r2, r3, r4, r5⟩ := statO_cells HB3.out.1; clear hch2 htr2))
    have hb4 : (w2.setCell ⟨w.heap.size + 1, 1, none⟩ (.pointer (some ⟨b2, 0, none⟩))).heap[w.heap.size]? = some (statO nilP nilP nilS) := by
     rw [Below.heap_setCell _ _ _ _ (show w.heap.size ≠ w.heap.size + 1 by omega)]
     exact HB3.out.1
    obtain ⟨hz1, hz2⟩ := statRet_ok (.pointer (some ⟨b1, 0, none⟩)) (.pointer (some ⟨b2, 0, none⟩)) (.slice A5 Lr.length c5) hb4
    have hset2 : Chg (fun k => k = w.heap.size + 1) w2 (w2.setCell ⟨w.heap.size + 1, 1, none⟩ (.pointer (some ⟨b2, 0, none⟩))) := Chg.of_set w2 _ _ rfl
    change bodyPost _ _ _ _ _ (statRet (w2.setCell ⟨w.heap.size + 1, 1, none⟩ (.pointer (some ⟨b2, 0, none⟩))) w.heap.size (.pointer (some ⟨b1, 0, none⟩)) (.pointer (some ⟨b2, 0, none⟩)) (.slice A5 Lr.length c5))
    generalize statRet (w2.setCell ⟨w.heap.size + 1, 1, none⟩ (.pointer (some ⟨b2, 0, none⟩))) w.heap.size (.pointer (some ⟨b1, 0, none⟩)) (.pointer (some ⟨b2, 0, none⟩)) (.slice A5 Lr.length c5) = wz at *
    refine bodyPost_ret (results_cell_row rfl _ _ w.heap.size _ _ _ _ rfl hz1 Tryz.underlying37 rfl (by kernel_rfl)) rfl ?_
    have hc2z : Chg (fun k => k = w.heap.size + 1 ∨ k = w.heap.size) w2 wz := (hset2.mono (fun k h => .inl h)).trans hz2 (fun k h => .inl (.inr h))
    have hc1z : Chg (fun k => u4.ownBlock = some k ∨ k = w.heap.size + 1 ∨ k = w.heap.size) (w1.setCell ⟨w.heap.size + 1, 0, none⟩ (.pointer (some ⟨b1, 0, none⟩))) wz := (HCH2.out.mono (fun k h => .inl h)).trans hc2z (fun k h => .inl (.inr h))
    have hc1 : Chg (fun k => u4.ownBlock = some k ∨ k = w.heap.size + 1 ∨ k = w.heap.size) w1 wz := (HSET1.out.mono (fun k h => .inr (.inl h))).trans hc1z (fun k h => .inl h)
    have hcr : Chg (fun k => u3.ownBlock = some k ∨ u4.ownBlock = some k ∨ k = w.heap.size + 1 ∨ k = w.heap.size) wr wz := (HCH1.out.mono (fun k h => .inl h)).trans hc1 (fun k h => .inl (.inr h))
    have hs1 : wr.heap.size ≤ (w1.setCell ⟨w.heap.size + 1, 0, none⟩ (.pointer (some ⟨b1, 0, none⟩))).heap.size := Nat.le_trans HCH1.out.size HSET1.out.size
    refine ⟨b1, b2, A5, Lr.length, c5, rfl, ⟨?_, ?_, ⟨Lr, rfl, HMAP.out, ?_, fun p hp => ?_⟩⟩, ?_⟩
    ·refine ((HTR1.out.chg hc1 (fun k hk => .inl ?_)).mono (by have := HSZ.out; omega)).congr (fun x _ _ => rngsS_val HG.out x)
     rcases hk with h | h | h
     ·exact (HS.out.r4.lt k h).2
     ·have := HSZ.out; omega
     ·have := HSZ.out; omega
    ·refine (HTR2.out.chg hc2z (fun k hk => .inl ?_)).mono (by have := HSZ.out; omega)
     rcases hk with h | h <;> (have := HSZ.out; omega)
    ·refine own_chg HS.out.r5 hcr (fun k hk h => ?_)
     rcases h with h | h | h | h
     ·exact ((HS.out.ne k).1 h).2 hk
     ·exact (HS.out.ne k).2 h hk
     ·have := (HS.out.r5.lt k hk).1; omega
     ·have := (HS.out.r5.lt k hk).1; omega
    ·obtain ⟨h1, h2⟩ := HS.out.tos p hp
     refine ⟨cells_chg h1 hcr (fun a ha h => ?_), fun a ha => (h2 a ha).1⟩
     have h3 := h2 a ha
     rcases h with h | h | h | h
     ·exact h3.2.2.1 h
     ·exact h3.2.2.2.1 h
     ·omega
     ·omega
    ·refine ((Chg.of_up (M := fun k => w.heap.size ≤ k) HB.out).trans hcr (fun k hk => .inl ?_)).below (Nat.le_refl _) (fun k hk => hk)
     rcases hk with h | h | h | h
     ·have := (HS.out.r3.lt k h).1; omega
     ·have := (HS.out.r4.lt k h).1; omega
     ·omega
     ·omega
  | succ k =>
    have hlt : decide ((i : Int) < (T.length : Int)) = true := dTz (by omega)
    have hln : decide (i < T.length) = true := dTz (by omega)
    have p1 : 0 ≤ (i : Int) := by omega
    have p2 : (i : Int) < (T.length : Int) := by omega
    have hx : T[i]? = some T[i] := List.getElem?_eq_getElem (by omega)
    obtain ⟨x, hxx⟩ : ∃ x, T[i]'(by omega) = x := ⟨_, rfl⟩
    rw [hxx] at hx
    have HR : Az (Right x) := ⟨by rw [← hxx]; exact HG.out.right _ (List.getElem_mem _)⟩
    have HW : Az x.Wf := ⟨by rw [← hxx]; exact HG.out.wf _ (List.getElem_mem _)⟩
    have HX := Az.mk hx
    obtain ⟨Lr, hn5, hst, hmap⟩ := HST.out
    subst hn5
    have HL5 : Az (Lr.length ≤ 4096 ∧ Lr.length = ((T.take i).filter pM).length) := ⟨by
     have h1 := congrArg List.length hmap
     rw [List.length_map] at h1
     have h2 : ((T.take i).filter pM).length ≤ (T.take i).length := List.length_filter_le _ _
     rw [List.length_take] at h2
     omega⟩
    have HL3 : Az ((rngsS (T.take i)).length ≤ 1114112 ∧ (rngsW (T.take i)).length ≤ 1114112) := ⟨(rngsS_apart (good_take HG.out i)).length_le, (rngsW_apart (good_take HG.out i)).length_le⟩
    have HB3 : Az ((rngsS (T.take i)).length + 1 ≤ maxLen ∧ ((rngsS (T.take i)).length + 1) * 24 ≤ 140737488355328) := ⟨by have := HL3.out; unfold maxLen; omega⟩
    have HB4 : Az ((rngsW (T.take i)).length + 1 ≤ maxLen ∧ ((rngsW (T.take i)).length + 1) * 24 ≤ 140737488355328) := ⟨by have := HL3.out; unfold maxLen; omega⟩
    have HB5 : Az (Lr.length + 1 ≤ maxLen ∧ (Lr.length + 1) * 96 ≤ 140737488355328) := ⟨by have := HL5.out; unfold maxLen; omega⟩
    have HMAP := Az.mk hmap
    have HSZ : Az (w.heap.size + 1 < wr.heap.size) := ⟨(Array.getElem?_eq_some_iff.1 HBX.out.2).1⟩
    obtain ⟨ad, hAd, A', c', hrec, hto⟩ := HT.out i x hx
    subst hAd
    obtain ⟨g0, g1, g2, g3, g4, g5, g6, g7⟩ := hrec.up HB.out
    have HTO := Az.mk hto
    have HRB := Az.mk (recBox_new wr x A' c')
    obtain ⟨k0, k1, k2, k3, k4, k5, k6, k7⟩ := HRB.out
    have HB1 : Az (Up wr (wr.alloc (recO x A' c'))) := ⟨up_alloc (up_refl _) _⟩
    have HBX1 : Az ((wr.alloc (recO x A' c')).heap[w.heap.size]? = some (statO nilP nilP nilS) ∧ (wr.alloc (recO x A' c')).heap[w.heap.size + 1]? = some (statO nilP nilP (.slice A5 Lr.length c5))) := ⟨up_block HB1.out HBX.out.1, up_block HB1.out HBX.out.2⟩
    have HSTR := Az.mk hst
    have HST1 : Az (StI (w.heap.size + 1 + 1) (wr.alloc (recO x A' c')) u3 u4 (.slice A5 Lr.length c5) (rngsS (T.take i)) (rngsW (T.take i)) Lr) := ⟨hst.up HB1.out⟩
    have HKN : Az (1 ≤ x.kind ∧ x.kind ≤ 15) := ⟨HR.out.kind⟩
    obtain ⟨re, rz, hre, hrz, hrs, hrb, hrc⟩ := rng_info
    obtain ⟨ie, ze, hie, hze, hsi, hby, hzc⟩ := i32_info
    obtain ⟨ir, zr, hir, hzr, hsr, hbr, hzr2⟩ := rec_info
    clear hxx hrec hto hx hi hst hmap HST
    by_cases h0 : statN x.kind = 0
    ·have s0 : (statN x.kind == 0) = true := beq_iff_eq.mpr h0
     have H0 := Az.mk h0
     clear h0
     go_wp2_with (first | (go_at_call 159; (with_reducible refine (statusOf_calls x.kind _ HKN.out.1 HKN.out.2).mono ?_); rintro e w1 ⟨rfl, rfl⟩))
     go_roundg k
     case measure => have := HI.out; omega
     case rel =>
      refine ⟨i + 1, Lr.length, c5, A5, rfl, ⟨by have := HI.out; omega⟩, ⟨up_trans HB.out HB1.out⟩, HBX1, ⟨Lr, rfl, ?_, ?_⟩⟩
      ·rw [rngsS_step HX.out, rngsW_step HX.out, if_neg (by simp [pS, H0.out]), if_neg (by simp [pM, H0.out])]
       exact HST1.out
      ·rw [HMAP.out, take_filter_at HX.out, if_neg (by simp [pM, H0.out])]
    have s0 : (statN x.kind == 0) = false := bqf h0
    have HPS : Az (pS x = true) := ⟨by simp [pS, h0]⟩
    clear h0
    by_cases h34 : statN x.kind = 3 ∨ statN x.kind = 4
    ·have HLEN : Az (0 + x.to.length ≤ maxLen ∧ (0 + x.to.length) * 4 ≤ 140737488355328) := ⟨by have := HW.out.len; unfold maxLen; omega⟩
     have HTO1 := Az.mk (HTO.out.up (up_trans HB.out HB1.out))
     have hbr0 := hbr
     have hbs := build_rng
     have HPM : Az (pM x = true) := ⟨by simp only [pM, decide_eq_true_eq]; exact h34⟩
     have HV : Az (statN x.kind = 3 ∨ statN x.kind = 4) := ⟨h34⟩
     clear h34 hbr
     obtain ⟨s3, s4, hs3, hs4, hor⟩ : ∃ s3 s4 : Bool, (statN x.kind == 3) = s3 ∧ (statN x.kind == 4) = s4 ∧ (s3 || s4) = true := ⟨_, _, rfl, rfl, by rcases HV.out with h | h <;> rw [h] <;> rfl⟩
     by_cases hk4 : x.kind = 4
     ·have ek4 : (x.kind == 4) = true := beq_iff_eq.mpr hk4
      have hv3 : (statN x.kind == 3) = true := by rw [hk4]; rfl
      have hshift := HR.out.shift hk4
      have HSH : Az (stepI x = x.n ∧ 1 ≤ x.n ∧ x.n ≤ 64) := ⟨by unfold stepI; rw [if_pos hk4], hshift.1, hshift.2.1⟩
      clear hk4 hshift hor hs3 hs4
      by_cases hn1 : x.n = 1
      ·have en1 : (x.n == 1) = true := beq_iff_eq.mpr hn1
       have HSTEP : Az (stepI x = 1) := ⟨by rw [HSH.out.1, hn1]⟩
       clear hn1
       exact mstatw_1
      ·have en1 : (x.n == 1) = false := bqf hn1
       have HN1 : Az (stepI x ≠ 1) := ⟨by rw [HSH.out.1]; exact hn1⟩
       clear hn1
       go_wp2_with (first | (go_at_call 159; (with_reducible refine (statusOf_calls x.kind _ HKN.out.1 HKN.out.2).mono ?_); rintro e w1 ⟨rfl, rfl⟩) | (at_builtin; refine (wpList_append_row _ rfl _ _ 23 rfl w.heap.size 21 ie ze 1 4 Tryz.underlying23 hie hze hsi hby hzc (by decide) _ 0 [] rfl (World.ownsRow_nil _ _ _ _) A' x.to.length c' (x.to.map (Value.int .i32)) rfl (by simp) ?ha (ints_one _ _) ?hb ?hc ?hd ?_); (case ha => exact HTO1.out); (case hb => exact HLEN.out.1); (case hc => exact HLEN.out.2); (case hd => exact (up_trans HB.out HB1.out).size); intro v' w3 hown' hgrow hat; rw [Nat.zero_add, List.nil_append] at hown'; obtain ⟨A2, c2, rfl⟩ := own_any hown'; have hb3 : w3.heap[wr.heap.size]? = some (.cells (recCells x A' c') 113 (0, 0)) := grown_block hgrow (heap_alloc_new wr _) (fun e => by cases e); have e4 : w3.cell? ⟨wr.heap.size, 4, none⟩ = some (.slice A' x.to.length c') := (by simp [World.cell?, hb3, recCells]); have ef : w3.frozen? ⟨wr.heap.size, 4, none⟩ = false := (by simp [World.frozen?, hb3]); have HB4R := Az.mk (set_rec (A2 := A2) (c2 := c2) hb3); obtain ⟨l0, l1, l2, l3, l4, l5, l6, l7⟩ := recBox_of HB4R.out; have HCH4 : Az (Chg (fun k => k = wr.heap.size) wr (w3.setCell ⟨wr.heap.size, 4, none⟩ (.slice A2 x.to.length c2))) := ⟨((Chg.of_up (M := fun k => k = wr.heap.size) HB1.out).trans (Chg.of_up (M := fun _ => False) (up_nil hgrow rfl)) (fun _ h => h.elim)).trans (Chg.of_set (M := fun k => k = wr.heap.size) w3 _ _ rfl) (fun _ h => .inl h)⟩; have HA2 : Az (∀ a, A2 = some a → a.block = wr.heap.size + 1) := ⟨fun a ha => by (subst ha; rcases hat with h | h; (cases h); (injection h with h; simpa using h))⟩; have HTO3 : Az (Ints .i32 (w3.setCell ⟨wr.heap.size, 4, none⟩ (.slice A2 x.to.length c2)) A2 x.to) := ⟨by (obtain ⟨A9, c9, he9, hi9, _⟩ := own_ints hown'; injection he9 with q1 q2 q3; subst q1; exact cells_chg hi9 (Chg.of_set (M := fun k => k = wr.heap.size) w3 _ _ rfl) (fun a ha h => by have := HA2.out a ha; omega))⟩; have HS34 : Az (wr.heap.size + 1 ≤ w3.heap.size ∧ ∀ a, A2 = some a → a.block < w3.heap.size) := ⟨⟨by have := hgrow.size; simpa using this, fun a ha => (own_lt_some hown' ha).2⟩⟩; have HST4 := Az.mk (HSTR.out.chg HCH4.out (fun k hk => .inr (Nat.le_of_eq hk.symm))); have HBX4 : Az ((w3.setCell ⟨wr.heap.size, 4, none⟩ (.slice A2 x.to.length c2)).heap[w.heap.size]? = some (statO nilP nilP nilS) ∧ (w3.setCell ⟨wr.heap.size, 4, none⟩ (.slice A2 x.to.length c2)).heap[w.heap.size + 1]? = some (statO nilP nilP (.slice A5 Lr.length c5))) := ⟨⟨chg_block HCH4.out HBX.out.1 (by have := HSZ.out; omega), chg_block HCH4.out HBX.out.2 (by have := HSZ.out; omega)⟩⟩; obtain ⟨o0, o1, o2, o3, o4, o5⟩ := statO_cells HBX4.out.2; have hbr := fun W => build_rec x A2 c2 W; clear hown' hgrow hat hb3) | (at_builtin; refine (wpList_append_lies _ rfl _ _ 22 rfl (w.heap.size + 1 + 1) 113 ir _ 8 96 Tryz.underlying22 hir hzr hsr hbr0 hzr2 (by decide) (.slice A5 Lr.length c5) Lr.length (recsCells Lr) rfl (HST4.out.up (up_alloc (up_refl _) (recO x A2 c2))).r5 ⟨w3.heap.size, 0, none⟩ 1 1 (pcells (x, A2, c2)) rfl rfl (fun j u hu => by have := rec_new (w3.setCell ⟨wr.heap.size, 4, none⟩ (.slice A2 x.to.length c2)) x A2 c2 j u hu; rwa [World.size_setCell] at this) (pcells_one _) (by decide) HB5.out.1 HB5.out.2 (Nat.le_trans (by have := HSZ.out; have := HS34.out.1; rw [World.size_setCell]; omega) (up_alloc (up_refl (w3.setCell ⟨wr.heap.size, 4, none⟩ (.slice A2 x.to.length c2))) (recO x A2 c2)).size) _ rfl ?_); intro g6 cap6 w6 hown6 hgrow6 hat6 hlt6; have HST6 := Az.mk ((HST4.out.up (up_alloc (up_refl _) (recO x A2 c2))).app5 (p := (x, A2, c2)) hown6 hgrow6 (hat_le hat6) (HTO3.out.up (up_alloc (up_refl _) (recO x A2 c2))) (fun a ha => by (have h1 := HA2.out a ha; have h2 := HS34.out.2 a ha; have h3 := HSZ.out; refine ⟨by omega, Nat.lt_of_lt_of_le (by rw [World.size_setCell]; exact h2) (up_alloc (up_refl (w3.setCell ⟨wr.heap.size, 4, none⟩ (.slice A2 x.to.length c2))) (recO x A2 c2)).size, fun e => ?_, fun e => ?_, fun e => ?_⟩; (have := (HSTR.out.r3.lt _ e).2; omega); (have := (HSTR.out.r4.lt _ e).2; omega); (have := (HSTR.out.r5.lt _ e).2; omega)))); have HBX6 : Az (w6.heap[w.heap.size]? = some (statO nilP nilP nilS) ∧ w6.heap[w.heap.size + 1]? = some (statO nilP nilP (.slice A5 Lr.length c5))) := ⟨⟨grown_block hgrow6 (up_block (up_alloc (up_refl _) _) HBX4.out.1) (own_not HSTR.out.r5 (by omega)), grown_block hgrow6 (up_block (up_alloc (up_refl _) _) HBX4.out.2) (own_not HSTR.out.r5 (by omega))⟩⟩; obtain ⟨n0, n1, n2, n3, n4, n5⟩ := statO_cells HBX6.out.2; have HR6 := Az.mk (grown_rec hgrow6 ((recBox_of HB4R.out).keep (up_alloc (up_refl _) (recO x A2 c2))) (fun e => by have := (HSTR.out.r5.lt _ e.symm).2; omega)); have HSET7 : Az (Chg (fun k => k = w.heap.size + 1) w6 (w6.setCell ⟨w.heap.size + 1, 2, none⟩ (.slice (some ⟨g6, 0, none⟩) (Lr.length + 1) cap6))) := ⟨Chg.of_set w6 _ _ rfl⟩; have HST7 := Az.mk (HST6.out.chg HSET7.out (fun k hk => .inl (by omega))); have HR7 := Az.mk (recBox_chg HR6.out HSET7.out (by have := HSZ.out; omega)); obtain ⟨m0, m1, m2, m3, m4, m5, m6, m7⟩ := HR7.out; have HBX7 : Az ((w6.setCell ⟨w.heap.size + 1, 2, none⟩ (.slice (some ⟨g6, 0, none⟩) (Lr.length + 1) cap6)).heap[w.heap.size]? = some (statO nilP nilP nilS) ∧ (w6.setCell ⟨w.heap.size + 1, 2, none⟩ (.slice (some ⟨g6, 0, none⟩) (Lr.length + 1) cap6)).heap[w.heap.size + 1]? = some (statO nilP nilP (.slice (some ⟨g6, 0, none⟩) (Lr.length + 1) cap6))) := ⟨⟨chg_block HSET7.out HBX6.out.1 (by omega), (statO_set HBX6.out.2 _).1⟩⟩; obtain ⟨t0, t1, t2, t3, t4, t5⟩ := statO_cells HBX7.out.2; have HUP7 : Az (Up w (w6.setCell ⟨w.heap.size + 1, 2, none⟩ (.slice (some ⟨g6, 0, none⟩) (Lr.length + 1) cap6))) := ⟨((((Chg.of_up (M := fun k => w.heap.size ≤ k) HB.out).trans HCH4.out (fun k hk => .inl (by have := HSZ.out; omega))).trans (Chg.of_up (M := fun _ => False) (up_alloc (up_refl _) (recO x A2 c2))) (fun _ h => h.elim)).trans (Chg.of_grown (M := fun k => w.heap.size ≤ k) hgrow6 (fun k e => by have := (HSTR.out.r5.lt k e).1; omega)) (fun k h => .inl h)).trans HSET7.out (fun k hk => .inl (by omega)) |>.below (Nat.le_refl _) (fun k hk => hk)⟩; have HS7 : Az (w.heap.size + 1 + 1 ≤ (w6.setCell ⟨w.heap.size + 1, 2, none⟩ (.slice (some ⟨g6, 0, none⟩) (Lr.length + 1) cap6)).heap.size) := ⟨by have := HSZ.out; have := HS34.out.1; have h1 := hgrow6.size; have h2 := (up_alloc (up_refl (w3.setCell ⟨wr.heap.size, 4, none⟩ (.slice A2 x.to.length c2))) (recO x A2 c2)).size; rw [World.size_setCell] at h2; rw [World.size_setCell]; exact Nat.le_trans (by omega) (Nat.le_trans h2 h1)⟩; clear hown6 hgrow6 hat6 hlt6))
       have HST7b : Az (StI (w.heap.size + 1 + 1) (w6.setCell ⟨w.heap.size + 1, 2, none⟩ (.slice (some ⟨g6, 0, none⟩) (Lr.length + 1) cap6)) u3 u4 (.slice (some ⟨g6, 0, none⟩) (Lr.length + 1) cap6) (rngsS (T.take i) ++ pointsX x.lo (stepI x) (statN x.kind) 0) (rngsW (T.take i) ++ pointsX x.lo (stepI x) ((Lr.length : Int) + 1) 0) (Lr ++ [(x, A2, c2)])) := ⟨by simpa [pointsX] using HST7.out⟩
       have HCV := HR.out.low
       have HCNT : Az (cntX x ≤ 1114112) := ⟨by
        have h1 := (cnt_iff HR.out (cntX x - 1)).2 (by unfold cntX; omega)
        have h2 := HR.out.step
        have h3 : ((cntX x - 1 : Nat) : Int) ≤ ((cntX x - 1 : Nat) : Int) * stepI x := by
         have := Int.mul_le_mul_of_nonneg_left h2.1 (show (0 : Int) ≤ ((cntX x - 1 : Nat) : Int) by omega)
         omega
        have h4 := HR.out.low
        omega⟩
       have HRLOW := Az.mk HCV
       have HRN0 : Az (u3.ownBlock ≠ some wr.heap.size ∧ u4.ownBlock ≠ some wr.heap.size) := ⟨fun e => by have := (HSTR.out.r3.lt _ e).2; omega, fun e => by have := (HSTR.out.r4.lt _ e).2; omega⟩
       clear HST7 HST6 HST4 HSTR HST1 HCH4 HB4R HA2 HTO3 HS34 HBX4 HBX6 HR6 HSET7 HB1 HBX1 HBX HB HRB HTO1 HTO HB5 HS7 k0 k1 k2 k3 k4 k5 k6 k7 l0 l1 l2 l3 l4 l5 l6 l7 m0 m1 m2 m3 m4 m5 m6 m7 n0 n1 n2 n3 n4 n5 o0 o1 o2 o3 o4 o5 t0 t1 t2 t3 t4 t5 e4 ef g0 g1 g2 g3 g4 g5 g7 HCV
       generalize (w6.setCell ⟨w.heap.size + 1, 2, none⟩ (.slice (some ⟨g6, 0, none⟩) (Lr.length + 1) cap6)) = W7v at *
       generalize wr.heap.size = rb at *
       go_loopg [3, 4, 10] (cntX x) (fun k v3 v4 v10 w' => ∃ (q : Nat) (cv : Int), v10 = .int .i64 cv ∧ Az (cv = x.lo + q * stepI x ∧ q + k = cntX x) ∧ Az (Up w w') ∧ Az (w'.heap[w.heap.size]? = some (statO nilP nilP nilS) ∧ w'.heap[w.heap.size + 1]? = some (statO nilP nilP (.slice (some ⟨g6, 0, none⟩) (Lr.length + 1) cap6))) ∧ Az (RecBox w' rb x A2 c2 ∧ w.heap.size + 1 < rb) ∧ Az (v3.ownBlock ≠ some rb ∧ v4.ownBlock ≠ some rb) ∧ Az (StI (w.heap.size + 1 + 1) w' v3 v4 (.slice (some ⟨g6, 0, none⟩) (Lr.length + 1) cap6) (rngsS (T.take i) ++ pointsX x.lo (stepI x) (statN x.kind) q) (rngsW (T.take i) ++ pointsX x.lo (stepI x) ((Lr.length : Int) + 1) q) (Lr ++ [(x, A2, c2)])))
       case atStart => exact ⟨0, x.lo, rfl, ⟨by simp, Nat.zero_add _⟩, HUP7, HBX7, ⟨HR7.out, HSZ.out⟩, HRN0, HST7b⟩
       case round =>
        clear HUP7 HBX7 HR7 HST7b hlt hln
        obtain ⟨q, cv, rfl, HQ, HUPq, HBXq, HRq, HRNE, HSTq⟩ := hrel
        have hcq := HQ.out
        have hci := cnt_iff HR.out q
        cases gk with
        | zero =>
          have hle : decide (cv ≤ x.hi) = false := dFz (by omega)
          have HQC : Az (q = cntX x) := ⟨by omega⟩
          obtain ⟨z0, z1, z2, z3, z4, z5, z6, z7⟩ := HRq.out.1
          clear hcq hci
          go_wp2
          go_roundg k
          case measure => have := HI.out; omega
          case rel =>
           refine ⟨i + 1, Lr.length + 1, cap6, some ⟨g6, 0, none⟩, rfl, ⟨by have := HI.out; omega⟩, HUPq, HBXq, ⟨Lr ++ [(x, A2, c2)], by simp, ?_, ?_⟩⟩
           ·have h1 : ∀ v, rngsX x v = pointsX x.lo (stepI x) v q := fun v => by
             unfold rngsX
             rw [if_neg HN1.out, HQC.out]
            rw [rngsS_step HX.out, rngsW_step HX.out, if_pos HPS.out, if_pos HPM.out, h1, h1, ← HL5.out.2]
            exact HSTq.out
           ·rw [List.map_append, HMAP.out, take_filter_at HX.out, if_pos HPM.out]
            rfl
        | succ k' =>
          have hle : decide (cv ≤ x.hi) = true := dTz (by omega)
          have hlow := HRLOW.out
          have hsh := HSH.out
          have hst := HR.out.step
          have hq0 : 0 ≤ (q : Int) * stepI x := Int.mul_nonneg (by omega) (by omega)
          have hwr : wrap64 (cv + x.n) = cv + x.n := by unfold wrap64; omega
          have HNX : Az (cv + x.n = x.lo + ((q + 1 : Nat) : Int) * stepI x ∧ q + 1 + k' = cntX x) := ⟨by
           rw [hcq.1, ← hsh.1]
           refine ⟨?_, by omega⟩
           rw [Int.natCast_add, Int.add_mul]
           simp
           omega⟩
          have HLENS : Az ((rngsS (T.take i) ++ pointsX x.lo (stepI x) (statN x.kind) q).length + 1 ≤ maxLen ∧ ((rngsS (T.take i) ++ pointsX x.lo (stepI x) (statN x.kind) q).length + 1) * 24 ≤ 140737488355328) := ⟨by
           rw [List.length_append, pointsX_length]
           have := HL3.out
           have := HCNT.out
           unfold maxLen
           omega⟩
          have HLENW : Az ((rngsW (T.take i) ++ pointsX x.lo (stepI x) ((Lr.length : Int) + 1) q).length + 1 ≤ maxLen ∧ ((rngsW (T.take i) ++ pointsX x.lo (stepI x) ((Lr.length : Int) + 1) q).length + 1) * 24 ≤ 140737488355328) := ⟨by
           rw [List.length_append, pointsX_length]
           have := HL3.out
           have := HCNT.out
           unfold maxLen
           omega⟩
          have HSq : Az (w.heap.size + 1 + 1 ≤ wr.heap.size) := ⟨(Array.getElem?_eq_some_iff.1 HBXq.out.2).1⟩
          have HCVE : Az (cv = x.lo + q * stepI x) := ⟨hcq.1⟩
          obtain ⟨z0, z1, z2, z3, z4, z5, z6, z7⟩ := HRq.out.1
          obtain ⟨y0, y1, y2, y3, y4, y5⟩ := statO_cells HBXq.out.2
          clear hcq hci hlow hsh hst hq0
          go_wp2_with (first | (at_builtin; refine (wpList_append_lies _ rfl _ _ 173 rfl (w.heap.size + 1 + 1) 175 re _ 3 24 Tryz.underlying173 hre hrz hrs hrb hrc (by decide) u3 (rngsS (T.take i) ++ pointsX x.lo (stepI x) (statN x.kind) q).length (rngsC (rngsS (T.take i) ++ pointsX x.lo (stepI x) (statN x.kind) q)) rfl (HSTq.out.up (up_alloc (up_refl _) (.cells #[.int .i64 cv, .int .i64 cv, .int .i64 (statN x.kind)] 175))).r3 ⟨wr.heap.size, 0, none⟩ 1 1 [.int .i64 cv, .int .i64 cv, .int .i64 (statN x.kind)] rfl rfl (rng_news' wr (wr.heap.size) (rfl) cv cv (statN x.kind)) (by simp [Value.oneCell']) (by decide) HLENS.out.1 HLENS.out.2 (Nat.le_trans HSq.out (up_alloc (up_refl _) _).size) _ rfl ?_); intro g8 cap8 w8 hown8 hgrow8 hat8 hlt8; have HST8 := Az.mk ((HSTq.out.up (up_alloc (up_refl _) (.cells #[.int .i64 cv, .int .i64 cv, .int .i64 (statN x.kind)] 175))).app3 (r := ⟨cv, cv, statN x.kind⟩) hown8 hgrow8 (hat_le hat8)); have HG8 : Az (g8 ≠ rb) := ⟨fun e => by (rcases hat_le hat8 with h | h; (exact HRNE.out.1 (by rw [h, e])); (have h1 := Nat.le_trans (up_alloc (up_refl wr) (.cells #[.int .i64 cv, .int .i64 cv, .int .i64 (statN x.kind)] 175)).size h; have h2 : rb < wr.heap.size := cell_lt HRq.out.1.1; omega))⟩; have HBX8 : Az (w8.heap[w.heap.size]? = some (statO nilP nilP nilS) ∧ w8.heap[w.heap.size + 1]? = some (statO nilP nilP (.slice (some ⟨g6, 0, none⟩) (Lr.length + 1) cap6))) := ⟨⟨grown_block hgrow8 (up_block (up_alloc (up_refl _) _) HBXq.out.1) (own_not HSTq.out.r3 (by omega)), grown_block hgrow8 (up_block (up_alloc (up_refl _) _) HBXq.out.2) (own_not HSTq.out.r3 (by omega))⟩⟩; obtain ⟨b0, b1, b2, b3, b4, b5⟩ := statO_cells HBX8.out.2; have HUP8 : Az (Up w w8) := ⟨(up_alloc HUPq.out (.cells #[.int .i64 cv, .int .i64 cv, .int .i64 (statN x.kind)] 175)).grown hgrow8 (up_alloc HUPq.out _).size (fun k hk => by have := (HSTq.out.r3.lt k hk).1; omega)⟩; have HR8 : Az (RecBox w8 rb x A2 c2) := ⟨grown_rec hgrow8 (HRq.out.1.keep (up_alloc (up_refl _) (.cells #[.int .i64 cv, .int .i64 cv, .int .i64 (statN x.kind)] 175))) (fun e => HRNE.out.1 e.symm)⟩; obtain ⟨x0, x1, x2, x3, x4, x5, x6, x7⟩ := HR8.out; have HS8 : Az (w.heap.size + 1 + 1 ≤ w8.heap.size) := ⟨Nat.le_trans HSq.out (Nat.le_trans (up_alloc (up_refl wr) (.cells #[.int .i64 cv, .int .i64 cv, .int .i64 (statN x.kind)] 175)).size hgrow8.size)⟩; clear hown8 hgrow8 hat8 hlt8) | (at_builtin; refine (wpList_append_lies _ rfl _ _ 173 rfl (w.heap.size + 1 + 1) 175 re _ 3 24 Tryz.underlying173 hre hrz hrs hrb hrc (by decide) u4 (rngsW (T.take i) ++ pointsX x.lo (stepI x) ((Lr.length : Int) + 1) q).length (rngsC (rngsW (T.take i) ++ pointsX x.lo (stepI x) ((Lr.length : Int) + 1) q)) rfl (HST8.out.up (up_alloc (up_refl _) (.cells #[.int .i64 cv, .int .i64 cv, .int .i64 ((Lr.length : Int) + 1)] 175))).r4 ⟨w8.heap.size, 0, none⟩ 1 1 [.int .i64 cv, .int .i64 cv, .int .i64 ((Lr.length : Int) + 1)] rfl rfl (rng_news' w8 (w8.heap.size) (rfl) cv cv ((Lr.length : Int) + 1)) (by simp [Value.oneCell']) (by decide) HLENW.out.1 HLENW.out.2 (Nat.le_trans HS8.out (up_alloc (up_refl _) _).size) _ rfl ?_); intro g9 cap9 w9 hown9 hgrow9 hat9 hlt9; have HST9 := Az.mk ((HST8.out.up (up_alloc (up_refl _) (.cells #[.int .i64 cv, .int .i64 cv, .int .i64 ((Lr.length : Int) + 1)] 175))).app4 (r := ⟨cv, cv, (Lr.length : Int) + 1⟩) hown9 hgrow9 (hat_le hat9)); have HG9 : Az (g9 ≠ rb) := ⟨fun e => by (rcases hat_le hat9 with h | h; (exact HRNE.out.2 (by rw [h, e])); (have h1 := Nat.le_trans (up_alloc (up_refl w8) (.cells #[.int .i64 cv, .int .i64 cv, .int .i64 ((Lr.length : Int) + 1)] 175)).size h; have h2 : rb < w8.heap.size := cell_lt HR8.out.1; omega))⟩; have HBX9 : Az (w9.heap[w.heap.size]? = some (statO nilP nilP nilS) ∧ w9.heap[w.heap.size + 1]? = some (statO nilP nilP (.slice (some ⟨g6, 0, none⟩) (Lr.length + 1) cap6))) := ⟨⟨grown_block hgrow9 (up_block (up_alloc (up_refl _) _) HBX8.out.1) (own_not HST8.out.r4 (by omega)), grown_block hgrow9 (up_block (up_alloc (up_refl _) _) HBX8.out.2) (own_not HST8.out.r4 (by omega))⟩⟩; have HUP9 : Az (Up w w9) := ⟨(up_alloc HUP8.out (.cells #[.int .i64 cv, .int .i64 cv, .int .i64 ((Lr.length : Int) + 1)] 175)).grown hgrow9 (up_alloc HUP8.out _).size (fun k hk => by have := (HST8.out.r4.lt k hk).1; omega)⟩; have HR9 : Az (RecBox w9 rb x A2 c2) := ⟨grown_rec hgrow9 (HR8.out.keep (up_alloc (up_refl _) (.cells #[.int .i64 cv, .int .i64 cv, .int .i64 ((Lr.length : Int) + 1)] 175))) (fun e => HRNE.out.2 e.symm)⟩; obtain ⟨v0, v1, v2, v3, v4, v5, v6, v7⟩ := HR9.out; clear hown9 hgrow9 hat9 hlt9))
          go_roundg k'
          case measure => have := HNX.out.2; omega
          case rel =>
           refine ⟨q + 1, cv + x.n, by rw [hwr], HNX, HUP9, HBX9, ⟨HR9.out, HSZ.out⟩, ⟨fun e => HG8.out (by injection e), fun e => HG9.out (by injection e)⟩, ⟨?_⟩⟩
           have h9 := HST9.out
           simp only [List.length_append] at h9
           rw [pointsX_succ, pointsX_succ, ← HCVE.out, ← List.append_assoc, ← List.append_assoc]
           exact h9
     ·have ek4 : (x.kind == 4) = false := bqf hk4
      have HSTEP : Az (stepI x = 1) := ⟨by unfold stepI; rw [if_neg hk4]⟩
      clear hk4
      cases s3 with
      | true =>
        clear hor
        exact mstatw_1
      | false =>
        have hs4' : (statN x.kind == 4) = true := by rw [hs4]; simpa using hor
        clear hor hs4
        exact mstatw_1
    ·have s3 : (statN x.kind == 3) = false := bqf (fun e => h34 (.inl e))
     have s4 : (statN x.kind == 4) = false := bqf (fun e => h34 (.inr e))
     have ek4 : (x.kind == 4) = false := bqf (fun e => h34 (.inl (by rw [e]; rfl)))
     have HSTEP : Az (stepI x = 1) := ⟨by unfold stepI; rw [if_neg (fun e => h34 (.inl (by rw [e]; rfl)))]⟩
     have HPM : Az (pM x = false) := ⟨by simp only [pM, decide_eq_false_iff_not]; exact h34⟩
     have HSZ1 : Az (w.heap.size + 1 + 1 ≤ (wr.alloc (recO x A' c')).heap.size) := ⟨by have := HSZ.out; simp; omega⟩
     have hbs := build_rng
     clear h34
     go_wp2_with (first | (go_at_call 159; (with_reducible refine (statusOf_calls x.kind _ HKN.out.1 HKN.out.2).mono ?_); rintro e w1 ⟨rfl, rfl⟩) | (at_builtin; refine (wpList_append_lies _ rfl _ _ 173 rfl (w.heap.size + 1 + 1) 175 re _ 3 24 Tryz.underlying173 hre hrz hrs hrb hrc (by decide) u3 (rngsS (T.take i)).length (rngsC (rngsS (T.take i))) rfl (HST1.out.up (up_alloc (up_refl _) (.cells #[.int .i64 x.lo, .int .i64 x.hi, .int .i64 (statN x.kind)] 175))).r3 ⟨wr.heap.size + 1, 0, none⟩ 1 1 [.int .i64 x.lo, .int .i64 x.hi, .int .i64 (statN x.kind)] rfl rfl (rng_news' (wr.alloc (recO x A' c')) (wr.heap.size + 1) (by simp) x.lo x.hi (statN x.kind)) (by simp [Value.oneCell']) (by decide) HB3.out.1 HB3.out.2 (Nat.le_trans HSZ1.out (up_alloc (up_refl _) _).size) _ rfl ?_); intro g8 cap8 w8 hown8 hgrow8 hat8 hlt8))
     have hst8 := (HST1.out.up (up_alloc (up_refl _) (.cells #[.int .i64 x.lo, .int .i64 x.hi, .int .i64 (statN x.kind)] 175))).app3 (r := ⟨x.lo, x.hi, statN x.kind⟩) hown8 hgrow8 (hat_le hat8)
     have hup8 : Up w w8 := (up_alloc (up_trans HB.out HB1.out) (.cells #[.int .i64 x.lo, .int .i64 x.hi, .int .i64 (statN x.kind)] 175)).grown hgrow8 (up_alloc (up_trans HB.out HB1.out) _).size (fun k hk => by have := (HST1.out.r3.lt k hk).1; omega)
     have hbx8 := And.intro (grown_block hgrow8 (up_block (up_alloc (up_refl _) _) HBX1.out.1) (own_not HST1.out.r3 (by omega))) (grown_block hgrow8 (up_block (up_alloc (up_refl _) _) HBX1.out.2) (own_not HST1.out.r3 (by omega)))
     have HST8 := Az.mk hst8
     have HUP8 := Az.mk hup8
     have HBX8 := Az.mk hbx8
     clear hst8 hup8 hbx8 hown8 hgrow8 hat8 hlt8
     go_roundg k
     case measure => have := HI.out; omega
     case rel =>
      refine ⟨i + 1, Lr.length, c5, A5, rfl, ⟨by have := HI.out; omega⟩, HUP8, HBX8, ⟨Lr, rfl, ?_, ?_⟩⟩
      ·rw [rngsS_step HX.out, rngsW_step HX.out, if_pos HPS.out, if_neg (by rw [HPM.out]; decide), rngsX_one HSTEP.out]
       exact HST8.out
      ·rw [HMAP.out, take_filter_at HX.out, if_neg (by rw [HPM.out]; decide)]
end Go.Proofs.YtnohcnneflogjaaGreat.M
