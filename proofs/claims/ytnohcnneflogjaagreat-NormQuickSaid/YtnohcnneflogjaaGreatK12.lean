/- Tries, plainly and in memory. -/
import Derived.Test.YtnohcnneflogjaaGreatK11
import Derived.Test.YtnohcnneflogjaaGreatK06
import Derived.Test.YtnohcnneflogjaaGreatK05
import Derived.Deep.AppendLies
import Derived.Laws.MakeOwn
import Derived.Laws.OwnMore
set_option linter.unusedVariables false
set_option linter.unusedSimpArgs false
namespace Go.Proofs.YtnohcnneflogjaaGreat.M
open Go.RowKit Go.WideMaps
def blkF (F : Int → Int) (k : Nat) : List Int := (List.range 64).map fun (j : Nat) => F ((k : Int) * 64 + (j : Int))
theorem blkF_length (F : Int → Int) (k : Nat) : (blkF F k).length = 64 := by simp [blkF]
theorem blkF_get (F : Int → Int) (k j : Nat) (hj : j < 64) : (blkF F k)[j]? = some (F ((k : Int) * 64 + j)) := by simp [blkF, hj]
def canonB (F : Int → Int) : Nat → List (List Int)
 | 0 => []
 | n + 1 => if blkF F n ∈ canonB F n then canonB F n else canonB F n ++ [blkF F n]
theorem canonB_le (F : Int → Int) : ∀ n, (canonB F n).length ≤ n
 | 0 => Nat.le_refl _
 | n + 1 => by
   have := canonB_le F n
   unfold canonB
   split
   ·omega
   ·simp
    omega
theorem canonB_succ_mem {F : Int → Int} {n : Nat} (h : blkF F n ∈ canonB F n) : canonB F (n + 1) = canonB F n := by
 show (if _ then _ else _) = _
 rw [if_pos h]
theorem canonB_succ_new {F : Int → Int} {n : Nat} (h : blkF F n ∉ canonB F n) : canonB F (n + 1) = canonB F n ++ [blkF F n] := by
 show (if _ then _ else _) = _
 rw [if_neg h]
theorem canonB_mem (F : Int → Int) : ∀ {n k : Nat}, k < n → blkF F k ∈ canonB F n
 | 0, k, h => absurd h (Nat.not_lt_zero _)
 | n + 1, k, h => by
   by_cases hk : k = n
   ·subst hk
    by_cases hm : blkF F k ∈ canonB F k
    ·rw [canonB_succ_mem hm]; exact hm
    ·rw [canonB_succ_new hm]; simp
   ·have := canonB_mem F (show k < n by omega)
    by_cases hm : blkF F n ∈ canonB F n
    ·rw [canonB_succ_mem hm]; exact this
    ·rw [canonB_succ_new hm]; simp [this]
theorem canonB_kind (F : Int → Int) : ∀ {n : Nat} {l : List Int}, l ∈ canonB F n → ∃ k, k < n ∧ l = blkF F k
 | 0, l, h => by simp [canonB] at h
 | n + 1, l, h => by
   by_cases hm : blkF F n ∈ canonB F n
   ·rw [canonB_succ_mem hm] at h
    obtain ⟨k, h1, h2⟩ := canonB_kind F h
    exact ⟨k, by omega, h2⟩
   ·rw [canonB_succ_new hm, List.mem_append, List.mem_singleton] at h
    rcases h with h | h
    ·obtain ⟨k, h1, h2⟩ := canonB_kind F h
     exact ⟨k, by omega, h2⟩
    ·exact ⟨n, by omega, h⟩
def idxB (F : Int → Int) (n : Nat) (l : List Int) : Nat := (canonB F n).idxOf l
theorem idxB_lt {F : Int → Int} {n : Nat} {l : List Int} (h : l ∈ canonB F n) : idxB F n l < (canonB F n).length := List.idxOf_lt_length_of_mem h
theorem idxB_get {F : Int → Int} {n : Nat} {l : List Int} (h : l ∈ canonB F n) : (canonB F n)[idxB F n l]? = some l := by
 rw [List.getElem?_eq_getElem (idxB_lt h)]
 exact congrArg some (List.getElem_idxOf (idxB_lt h))
theorem idxB_succ {F : Int → Int} {n : Nat} {l : List Int} (h : l ∈ canonB F n) : idxB F (n + 1) l = idxB F n l := by
 unfold idxB
 by_cases hm : blkF F n ∈ canonB F n
 ·rw [canonB_succ_mem hm]
 ·rw [canonB_succ_new hm, List.idxOf_append, if_pos h]
theorem idxB_new {F : Int → Int} {n : Nat} (h : blkF F n ∉ canonB F n) : idxB F (n + 1) (blkF F n) = (canonB F n).length := by
 unfold idxB
 rw [canonB_succ_new h, List.idxOf_append, if_neg h]
 simp
theorem idxB_keep (F : Int → Int) {l : List Int} : ∀ {n m : Nat}, n ≤ m → l ∈ canonB F n → l ∈ canonB F m ∧ idxB F m l = idxB F n l := by
 intro n m hnm
 induction m with
 | zero => intro h; obtain rfl : n = 0 := by omega
           exact ⟨h, rfl⟩
 | succ m ih =>
   intro h
   by_cases he : n = m + 1
   ·subst he; exact ⟨h, rfl⟩
   ·obtain ⟨h1, h2⟩ := ih (by omega) h
    refine ⟨?_, by rw [idxB_succ h1, h2]⟩
    by_cases hm : blkF F m ∈ canonB F m
    ·rw [canonB_succ_mem hm]; exact h1
    ·rw [canonB_succ_new hm]; simp [h1]
def u16s (l : List Int) : List Value := l.map (Value.int .u16)
def blocksC (B : List (List Int)) : List Value := B.flatMap u16s
theorem arr64_list {f : Nat → Int} : (arr64 f).toList = u16s ((List.range 64).map f) := by simp [arr64, u16s]
theorem arr64_blk (F : Int → Int) (k : Nat) : arr64 (fun j => F ((k : Int) * 64 + j)) = (u16s (blkF F k)).toArray := by simp [arr64, u16s, blkF]
def arrN (n : Nat) (f : Nat → Int) : Array Value := ((List.range n).map fun j => Value.int .u16 (f j)).toArray
theorem arrN_size (n : Nat) (f : Nat → Int) : (arrN n f).size = n := by simp [arrN]
theorem arrN_get (n : Nat) (f : Nat → Int) (j : Nat) (hj : j < n) : (arrN n f)[j]? = some (.int .u16 (f j)) := by simp [arrN, hj]
theorem arrN_set (n : Nat) (f : Nat → Int) (j : Nat) (hj : j < n) (v : Int) : (arrN n f).setIfInBounds j (.int .u16 v) = arrN n (fun q => if q = j then v else f q) := by
 apply Array.ext_getElem?
 intro i
 rw [Array.getElem?_setIfInBounds]
 by_cases hi : i < n
 ·rw [arrN_get n _ i hi]
  by_cases he : j = i
  ·subst he
   rw [if_pos rfl, if_pos (by rw [arrN_size]; exact hj), arrN_get _ _ j hj]
   simp
  ·rw [if_neg he, arrN_get n _ i hi, if_neg (fun h => he h.symm)]
 ·rw [Array.getElem?_eq_none (by rw [arrN_size]; omega), if_neg (by omega), Array.getElem?_eq_none (by rw [arrN_size]; omega)]
theorem arrN_congr {n : Nat} {f g : Nat → Int} (h : ∀ j, j < n → f j = g j) : arrN n f = arrN n g := by
 unfold arrN
 congr 1
 apply List.map_congr_left
 intro j hj
 rw [h j (List.mem_range.1 hj)]
def IdxAt (w : World) (g : Nat) (f : Nat → Int) : Prop := w.heap[g]? = some (.cells (arrN 17408 f) 155 (0, 0))
theorem IdxAt.cell {w : World} {g : Nat} {f : Nat → Int} (h : IdxAt w g f) (j : Nat) (hj : j < 17408) : w.cell? ⟨g, j, none⟩ = some (.int .u16 (f j)) := by
 rw [cell_of_row w g j _ _ _ h, arrN_get _ f j hj]
theorem IdxAt.frozen {w : World} {g : Nat} {f : Nat → Int} (h : IdxAt w g f) (j : Nat) : w.frozen? ⟨g, j, none⟩ = false := by
 unfold IdxAt at h
 simp [World.frozen?, h]
theorem IdxAt.set {w : World} {g : Nat} {f : Nat → Int} (h : IdxAt w g f) (j : Nat) (hj : j < 17408) (v : Int) : IdxAt (w.setCell ⟨g, j, none⟩ (.int .u16 v)) g (fun q => if q = j then v else f q) := by
 unfold IdxAt
 rw [box_set h, arrN_set _ f j hj]
theorem IdxAt.congr {w : World} {g : Nat} {f q : Nat → Int} (h : IdxAt w g f) (hf : ∀ j, j < 17408 → f j = q j) : IdxAt w g q := by
 unfold IdxAt at *
 rw [← arrN_congr hf]
 exact h
theorem IdxAt.lt {w : World} {g : Nat} {f : Nat → Int} (h : IdxAt w g f) : g < w.heap.size := (Array.getElem?_eq_some_iff.1 h).1
def TrieBox (w : World) (b gi : Nat) (vb : Value) : Prop := w.heap[b]? = some (.cells #[.int .i64 0, .slice (some ⟨gi, 0, none⟩) 17408 17408, vb] 154 (0, 0))
theorem TrieBox.lt {w : World} {b gi : Nat} {vb : Value} (h : TrieBox w b gi vb) : b < w.heap.size := (Array.getElem?_eq_some_iff.1 h).1
theorem TrieBox.cells {w : World} {b gi : Nat} {vb : Value} (h : TrieBox w b gi vb) : w.cell? ⟨b, 0, none⟩ = some (.int .i64 0) ∧ w.cell? ⟨b, 1, none⟩ = some (.slice (some ⟨gi, 0, none⟩) 17408 17408) ∧ w.cell? ⟨b, 2, none⟩ = some vb ∧ w.frozen? ⟨b, 2, none⟩ = false := by
 unfold TrieBox at h
 refine ⟨?_, ?_, ?_, ?_⟩ <;> simp [World.cell?, World.frozen?, h]
def TrieAt (w : World) (b : Nat) (F : Int → Int) : Prop :=
 ∃ gi vb base, TrieBox w b gi vb ∧ IdxAt w gi (fun k => idxB F 17408 (blkF F k)) ∧ w.ownsRow base 156 64 vb (canonB F 17408).length (blocksC (canonB F 17408))
theorem TrieAt.up {w w' : World} {b : Nat} {F : Int → Int} (h : TrieAt w b F) (hu : Up w w') : TrieAt w' b F := by
 obtain ⟨gi, vb, base, h1, h2, h3⟩ := h
 exact ⟨gi, vb, base, (hu.block b h1.lt).trans h1, (hu.block gi h2.lt).trans h2, own_up h3 hu⟩
def TrieFrom (H : Nat) (w : World) (b : Nat) (F : Int → Int) : Prop :=
 ∃ gi vb base, TrieBox w b gi vb ∧ IdxAt w gi (fun k => idxB F 17408 (blkF F k)) ∧ w.ownsRow base 156 64 vb (canonB F 17408).length (blocksC (canonB F 17408)) ∧ H ≤ b ∧ H ≤ gi ∧ H ≤ base
theorem TrieFrom.at {H : Nat} {w : World} {b : Nat} {F : Int → Int} (h : TrieFrom H w b F) : TrieAt w b F := by
 obtain ⟨gi, vb, base, h1, h2, h3, _⟩ := h
 exact ⟨gi, vb, base, h1, h2, h3⟩
theorem TrieFrom.le {H : Nat} {w : World} {b : Nat} {F : Int → Int} (h : TrieFrom H w b F) : H ≤ b := by
 obtain ⟨gi, vb, base, _, _, _, h4, _⟩ := h
 exact h4
theorem TrieFrom.lt {H : Nat} {w : World} {b : Nat} {F : Int → Int} (h : TrieFrom H w b F) : b < w.heap.size := by
 obtain ⟨gi, vb, base, h1, _⟩ := h
 exact h1.lt
theorem TrieFrom.mono {H H' : Nat} {w : World} {b : Nat} {F : Int → Int} (h : TrieFrom H w b F) (hH : H' ≤ H) : TrieFrom H' w b F := by
 obtain ⟨gi, vb, base, h1, h2, h3, h4, h5, h6⟩ := h
 exact ⟨gi, vb, base, h1, h2, h3, by omega, by omega, by omega⟩
theorem TrieFrom.chg {M : Nat → Prop} {H : Nat} {w w' : World} {b : Nat} {F : Int → Int} (h : TrieFrom H w b F) (hc : Chg M w w') (hM : ∀ k, M k → k < H ∨ w.heap.size ≤ k) : TrieFrom H w' b F := by
 obtain ⟨gi, vb, base, h1, h2, h3, h4, h5, h6⟩ := h
 have key : ∀ k, H ≤ k → k < w.heap.size → ¬ M k := fun k h1 h2 h3 => by rcases hM k h3 with h | h <;> omega
 exact ⟨gi, vb, base, (hc.block b h1.lt (key b h4 h1.lt)).trans h1, (hc.block gi h2.lt (key gi h5 h2.lt)).trans h2,
  own_chg h3 hc (fun k hk => key k (Nat.le_trans h6 (h3.lt k hk).1) (h3.lt k hk).2), h4, h5, h6⟩
theorem TrieFrom.up {H : Nat} {w w' : World} {b : Nat} {F : Int → Int} (h : TrieFrom H w b F) (hu : Up w w') : TrieFrom H w' b F :=
 h.chg (M := fun _ => False) (Chg.of_up hu) (fun _ h => h.elim)
theorem keyed_arr64 : Go.Maps.Keyed Tryz.prog 156 := Go.Maps.Keyed.of_law (deep_law_laid laidOut (m := 2) (by omega) (of_decide_eq_true (by kernel_rfl)) (by kernel_rfl) (by kernel_rfl))
theorem u16_wf {a : Int} (h0 : 0 ≤ a) (h1 : a ≤ 65535) : (Lit.int .u16 a).wf = true := by
 simp only [Lit.wf, Bool.and_eq_true, decide_eq_true_eq]
 show (0 : Int) ≤ a ∧ a ≤ 65535
 omega
theorem build_arr64 (f : Nat → Int) (w : World) : (Instr.buildSlice 152 1 #[(0, .agg (arr64 f))]).run Tryz.prog w = .ok (.slice (some ⟨w.heap.size, 0, none⟩) 1 1) (w.alloc (.cells (arr64 f) 156)) := by kernel_rfl
end Go.Proofs.YtnohcnneflogjaaGreat.M
namespace Go.Proofs.YtnohcnneflogjaaGreat.M
open Go.RowKit Go.WideMaps
theorem mapM_all {α β : Type} {g : α → Option β} {h : α → β} : ∀ {l : List α}, (∀ x ∈ l, g x = some (h x)) → l.mapM g = some (l.map h)
 | [], _ => rfl
 | x :: l, hl => by
   rw [List.mapM_cons, hl x (by simp), mapM_all (fun y hy => hl y (by simp [hy]))]
   rfl
theorem key_u16s {l : List Int} (hl : l.length = 64) (hw : ∀ a ∈ l, 0 ≤ a ∧ a ≤ 65535) : KeyOk Tryz.prog 156 (.agg (u16s l).toArray) := by
 have hu := Tryz.underlying156
 have hc : Tryz.prog.cellsOf 156 = 64 := by kernel_rfl
 have hc1 : Tryz.prog.cellsOf 155 = 1 := by kernel_rfl
 obtain ⟨m, hm⟩ := types_succ
 have hlen : (u16s l).length = 64 := by simp [u16s, hl]
 have hleaf : ∀ i ∈ List.range 64, Tryz.prog.keyLits (m + 1) 155 (((u16s l).drop (i * 1)).take 1) = some ((fun i => [Lit.int .u16 (l.getD i 0)]) i) := by
  intro i hi
  have hi64 : i < 64 := List.mem_range.1 hi
  have hg : ((u16s l).drop (i * 1)).take 1 = [.int .u16 (l.getD i 0)] := by
   rw [Nat.mul_one, List.drop_eq_getElem_cons (show i < (u16s l).length by omega), List.take_succ_cons, List.take_zero]
   simp [u16s, List.getD, hl, hi64]
  rw [hg]
  have hb := hw (l.getD i 0) (by
   rw [List.getD_eq_getElem?_getD, List.getElem?_eq_getElem (by omega)]
   exact List.getElem_mem _)
  exact lits_leaf m Tryz.underlying155 (u16_wf hb.1 hb.2)
 refine keyOk_lits (ls := ((List.range 64).map (fun i => [Lit.int .u16 (l.getD i 0)])).flatten) (by kernel_rfl) (by kernel_rfl) ?_ ?_
 ·simp [Value.formed, hu, hc, hlen]
 ·unfold Program.keyLits
  rw [hu, hm]
  simp only [Value.cells, hc, hc1, List.toList_toArray, hlen, if_true]
  rw [mapM_all hleaf]
  rfl
theorem u16s_inj {a b : List Int} (h : u16s a = u16s b) : a = b := by
 unfold u16s at h
 induction a generalizing b with
 | nil =>
   cases b with
   | nil => rfl
   | cons y b => simp at h
 | cons x a ih =>
   cases b with
   | nil => simp at h
   | cons y b =>
     simp only [List.map_cons, List.cons.injEq, Value.int.injEq, true_and] at h
     rw [h.1, ih h.2]
def blkV (l : List Int) : Value := .agg (u16s l).toArray
theorem blkV_inj {a b : List Int} : blkV a = blkV b ↔ a = b := by
 constructor
 ·intro h
  unfold blkV at h
  injection h with h
  exact u16s_inj (by simpa using congrArg Array.toList h)
 ·rintro rfl; rfl
theorem blkV_arr (F : Int → Int) (k : Nat) : (.agg (arr64 fun j => F ((k : Int) * 64 + (j : Int)))) = blkV (blkF F k) := by rw [arr64_blk]; rfl
def MetAt (w : World) (b n : Nat) (F : Int → Int) (i : Nat) (G : Value → Option Value) : Prop :=
 MapIs Tryz.prog 156 w b n G ∧ ∀ l, G (blkV l) = if l ∈ canonB F i then some (.int .u16 (idxB F i l)) else none
theorem MetAt.start {w : World} {b : Nat} {F : Int → Int} (h : MapIs Tryz.prog 156 w b 0 (fun _ => none)) : MetAt w b 0 F 0 (fun _ => none) := ⟨h, fun l => by rw [if_neg (by simp [canonB])]⟩
theorem MetAt.keep {w w' : World} {b n : Nat} {F : Int → Int} {i : Nat} {G : Value → Option Value} (h : MetAt w b n F i G) (hm : blkF F i ∈ canonB F i) (h' : MapIs Tryz.prog 156 w' b n G) : MetAt w' b n F (i + 1) G := by
 refine ⟨h', fun l => ?_⟩
 rw [h.2]
 unfold idxB
 rw [canonB_succ_mem hm]
theorem MetAt.step {w w' : World} {b n : Nat} {F : Int → Int} {i : Nat} {G : Value → Option Value} (h : MetAt w b n F i G) (hm : blkF F i ∉ canonB F i)
 (h' : MapIs Tryz.prog 156 w' b (n + 1) (putF G (blkV (blkF F i)) (.int .u16 ((canonB F i).length : Int)))) : MetAt w' b (n + 1) F (i + 1) (putF G (blkV (blkF F i)) (.int .u16 ((canonB F i).length : Int))) := by
 refine ⟨h', fun l => ?_⟩
 by_cases hl : l = blkF F i
 ·subst hl
  rw [putF_same, if_pos (by rw [canonB_succ_new hm]; simp), idxB_new hm]
 ·rw [putF_other _ _ _ _ (fun e => hl (blkV_inj.1 e)), h.2]
  by_cases hin : l ∈ canonB F i
  ·rw [if_pos hin, if_pos (by rw [canonB_succ_new hm]; simp [hin]), idxB_succ hin]
  ·rw [if_neg hin, if_neg (by rw [canonB_succ_new hm, List.mem_append, List.mem_singleton]; rintro (h1 | h1); exact hin h1; exact hl h1)]
theorem made_arrN : madeCells #[.int .u16 0] 17408 = arrN 17408 (fun _ => 0) := by
 apply Array.ext'
 rw [toList_madeCells_one]
 simp only [arrN]
 rw [List.map_const', List.length_range]
theorem u16_info : (Tryz.prog.info? 155).map (fun i => (i.zero, i.size, i.bytes)) = some (some (.int .u16 0), 1, 2) := by kernel_rfl
theorem make_idx (w : World) : (Instr.makeSlice 151 (.int .i64 17408) (.int .i64 17408)).run Tryz.prog w = .ok (.slice (some ⟨w.heap.size, 0, none⟩) 17408 17408) (w.alloc (.cells (arrN 17408 fun _ => 0) 155)) := by
 have hi := u16_info
 cases hq : Tryz.prog.info? 155 with
 | none => rw [hq] at hi; cases hi
 | some i =>
   rw [hq] at hi
   simp only [Option.map_some, Option.some.injEq, Prod.mk.injEq] at hi
   obtain ⟨h1, h2, h3⟩ := hi
   have := run_makeSlice (P := Tryz.prog) w 151 155 i (.int .u16 0) Tryz.underlying151 hq h1 .i64 .i64 17408 17408 (by decide) (by decide) (by rw [h2]; decide) (by rw [h3]; decide) (by decide)
   rw [h2] at this
   rw [← made_arrN]
   exact this
theorem zero_u16 (w : World) : (zeroValue 155).run Tryz.prog w = .ok (.int .u16 0) w := by kernel_rfl
theorem arr64I : ∃ (i : TypeInfo), Tryz.prog.info? 156 = some i ∧ i.zero = some (.agg (arr64 fun _ => 0)) ∧ i.size = 64 ∧ i.bytes = 128 := by
 have h : (Tryz.prog.info? 156).map (fun i => (i.zero, i.size, i.bytes)) = some (some (.agg (arr64 fun _ => 0)), 64, 128) := by kernel_rfl
 cases hq : Tryz.prog.info? 156 with
 | none => rw [hq] at h; cases h
 | some i =>
   rw [hq] at h
   simp only [Option.map_some, Option.some.injEq, Prod.mk.injEq] at h
   exact ⟨i, rfl, h.1, h.2.1, h.2.2⟩
theorem Rngs.drop {w : World} {ad : Addr} {L : List Rng} (h : Rngs w (some ad) L) (n : Nat) : Rngs w (some (ad.add (n * 3))) (L.drop n) := by
 intro i r hr
 rw [List.getElem?_drop] at hr
 obtain ⟨ad', hA, hc⟩ := h (n + i) r hr
 cases hA
 refine ⟨_, rfl, ?_⟩
 have : (ad.add (n * 3)).add (i * 3) = ad.add ((n + i) * 3) := by
  unfold Addr.add
  by_cases h1 : n = 0
  ·subst h1
   simp
  ·by_cases h2 : i = 0
   ·subst h2
    simp
   ·rw [if_neg (show ¬ n * 3 = 0 by omega), if_neg (show ¬ i * 3 = 0 by omega), if_neg (show ¬ (n + i) * 3 = 0 by omega)]
    simp only [Addr.mk.injEq, true_and, and_true]
    omega
 rw [this]
 exact hc
theorem valR_drop {L : List Rng} {n : Nat} {d c : Int} (h : ∀ q r, q < n → L[q]? = some r → r.hi < c) : valR (L.drop n) d c = valR L d c := by
 have h0 : (L.take n).find? (fun r => r.has c) = none := by
  rw [List.find?_eq_none]
  intro q hq
  obtain ⟨k, hk⟩ := List.mem_iff_getElem?.1 hq
  rw [List.getElem?_take] at hk
  split at hk
  ·have := h k q (by assumption) hk
   rw [has_iff]
   omega
  ·cases hk
 unfold valR
 conv => rhs; rw [← List.take_append_drop n L, List.find?_append, h0]
 rfl
theorem wpList_store64_new (w : World) {ops : Array Oper} {rest : List Oper} {o : Oper} {a : Act} {Q : Exit → Act → World → Prop} (hg : o.guard = none) (p v : Operand) (hop : o.op = Op.store 156 p v) (f q : Nat → Int)
 (hp : a.eval p = .pointer (some ⟨w.heap.size, 0, none⟩)) (hv : a.eval v = .agg (arr64 q)) (hK : wpList Tryz.prog ops Q rest (a.put o.dst undef) (w.alloc (.cells (arr64 q) 156))) : wpList Tryz.prog ops Q (o :: rest) a (w.alloc (.cells (arr64 f) 156)) := by
 refine wpList_store64 _ hg p v hop w.heap.size f q hp hv (heap_alloc_new w _) ?_
 rw [World.setRow_alloc_new]
 exact hK
theorem block_calls' (A : Option Addr) (n c : Nat) (L : List Rng) (lo d : Int) (w : World) (hL : Rngs w A L) (hO : Ordered L) (hlo : 0 ≤ lo) (hlo2 : lo ≤ 1114048) (hd : 0 ≤ d ∧ d ≤ 65535) (hlen : L.length ≤ 1073741824) (hn : L.length = n) :
 Calls Tryz.prog 216 #[.slice A n c, .int .i64 lo, .int .u16 d] w fun e w' => e = .returned (.agg (arr64 fun j => valR L d (lo + j))) ∧ Up w w' := by
 subst hn
 exact block_calls A c L lo d w hL hO hlo hlo2 hd hlen
end Go.Proofs.YtnohcnneflogjaaGreat.M
namespace Go.Proofs.YtnohcnneflogjaaGreat.M
open Go.RowKit
structure Apart (L : List Rng) : Prop where
 low : ∀ r ∈ L, 0 ≤ r.lo ∧ r.lo ≤ r.hi ∧ r.hi ≤ 1114111
 val : ∀ r ∈ L, 0 ≤ r.val ∧ r.val ≤ 65535
 two : L.Pairwise (fun a b => a.hi < b.lo ∨ b.hi < a.lo)
theorem Apart.any {L : List Rng} (h : Apart L) : ∀ a ∈ L, ∀ b ∈ L, a = b ∨ a.hi < b.lo ∨ b.hi < a.lo := by
 intro a ha b hb
 obtain ⟨i, hi⟩ := List.mem_iff_getElem?.1 ha
 obtain ⟨j, hj⟩ := List.mem_iff_getElem?.1 hb
 have hi' := List.getElem?_eq_some_iff.1 hi
 have hj' := List.getElem?_eq_some_iff.1 hj
 rcases Nat.lt_trichotomy i j with h1 | h1 | h1
 ·have := List.pairwise_iff_getElem.1 h.two i j hi'.1 hj'.1 h1
  rw [hi'.2, hj'.2] at this
  exact .inr this
 ·subst h1
  rw [hi] at hj
  exact .inl (Option.some.inj hj)
 ·have := List.pairwise_iff_getElem.1 h.two j i hj'.1 hi'.1 h1
  rw [hi'.2, hj'.2] at this
  exact .inr (this.symm)
theorem Apart.uniq {L : List Rng} (h : Apart L) {a b : Rng} (ha : a ∈ L) (hb : b ∈ L) {c : Int} (h1 : a.has c = true) (h2 : b.has c = true) : a = b := by
 rw [has_iff] at h1 h2
 rcases h.any a ha b hb with e | e | e
 ·exact e
 ·omega
 ·omega
theorem valR_same {L L' : List Rng} (h : Apart L) (hm : ∀ r, r ∈ L' ↔ r ∈ L) (d c : Int) : valR L' d c = valR L d c := by
 unfold valR
 cases h1 : L.find? (fun r => r.has c) with
 | none =>
   rw [List.find?_eq_none] at h1
   rw [List.find?_eq_none.2 (fun r hr => h1 r ((hm r).1 hr))]
 | some r =>
   have hr1 := List.mem_of_find?_eq_some h1
   have hr2 : r.has c = true := List.find?_some (p := fun r : Rng => r.has c) h1
   cases h2 : L'.find? (fun r => r.has c) with
   | none =>
     rw [List.find?_eq_none] at h2
     exact absurd hr2 (h2 r ((hm r).2 hr1))
   | some s =>
     have hs1 := List.mem_of_find?_eq_some h2
     have hs2 : s.has c = true := List.find?_some (p := fun r : Rng => r.has c) h2
     rw [h.uniq ((hm s).1 hs1) hr1 hs2 hr2]
theorem Apart.ordered {L L' : List Rng} (h : Apart L) (hp : L'.Perm L) (hs : ∀ (i j : Nat) (a b : Rng), i < j → L'[i]? = some a → L'[j]? = some b → a.lo ≤ b.lo) : Ordered L' := by
 have h2 : L'.Pairwise (fun a b => a.hi < b.lo ∨ b.hi < a.lo) := (hp.pairwise_iff (fun {a b} h => h.symm)).2 h.two
 refine ⟨fun r hr => h.low r (hp.mem_iff.1 hr), fun r hr => h.val r (hp.mem_iff.1 hr), ?_⟩
 rw [List.pairwise_iff_getElem]
 intro i j hi hj hij
 have hl := hs i j _ _ hij (List.getElem?_eq_getElem hi) (List.getElem?_eq_getElem hj)
 have h3 := List.pairwise_iff_getElem.1 h2 i j hi hj hij
 have h4 := h.low _ (hp.mem_iff.1 (List.getElem_mem hi))
 have h5 := h.low _ (hp.mem_iff.1 (List.getElem_mem hj))
 rcases h3 with h3 | h3 <;> omega
end Go.Proofs.YtnohcnneflogjaaGreat.M
