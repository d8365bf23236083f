/- Stable sorting in plain Lean: what swapRange, rotate, insertion and symMerge come to, told by what their row holds; and what is told of the world in which a row is sorted. -/
import Derived.Shelf.GgSortFunc.SW
import Derived.Shelf.GgSortFunc.LotD
import Derived.Sort.LotA
namespace Go.Proofs.StableSort
open Go.Shelf Go.RowKit Go.Lib Go.Sort
variable {P : Program} {α : Type} [Inhabited α] {enc : α → Value} {W : World} {blk off : Nat}

theorem SW.cell {dk : Array α} {wr : World} (h : SW enc W blk off dk wr) (b k : Nat) (v : Value) (hb : b < W.heap.size) (hne : b ≠ blk) (hc : W.cell? ⟨b, k, none⟩ = some v) : wr.cell? ⟨b, k, none⟩ = some v := by
  obtain ⟨n, os, rfl⟩ := h
  unfold sortWorld
  rw [cell?_grow _ _ _ (by rw [size_putRow]; exact hb), cell?_putRow_other enc _ blk off _ _ (Or.inl hne)]
  exact hc
theorem SW.of_alloc {o : Obj} {dk : Array α} {wr : World} (h : SW enc (W.alloc o) blk off dk wr) (hblk : blk < W.heap.size) : SW enc W blk off dk wr := by
  obtain ⟨n, os, rfl⟩ := h
  exact ⟨n, _, sortWorld_alloc enc W o blk off n dk os hblk⟩
theorem SW.trans {dk dk' : Array α} {w1 w2 : World} (h : SW enc W blk off dk w1) (h2 : SW enc w1 blk off dk' w2) (hblk : blk < W.heap.size) (hs : dk'.size = dk.size) : SW enc W blk off dk' w2 := by
  obtain ⟨m, os, rfl⟩ := h2
  exact h.on hblk m dk' os hs

/-- Two ranges of n places, their elements exchanged. -/
structure SwR (a b n : Nat) (d d' : Array α) : Prop where
  size : d'.size = d.size
  at_ : ∀ k, d'[k]! = if a ≤ k ∧ k < a + n then d[k + (b - a)]! else if b ≤ k ∧ k < b + n then d[k - (b - a)]! else d[k]!
  perm : PermIn a (b + n) d d'

theorem SwR.start (a b : Nat) (d : Array α) : SwR a b 0 d d := ⟨rfl, fun k => by rw [if_neg (by omega), if_neg (by omega)], permIn_refl _ _ _⟩
theorem SwR.step {a b i : Nat} {d dk : Array α} (h : SwR a b i d dk) (hab : a + i < b) (hb : b + i < d.size) : SwR a b (i + 1) d (swp dk (a + i) (b + i)) := by
  have hs := h.size
  refine ⟨by rw [size_swp]; exact hs, fun k => ?_, ?_⟩
  · rw [swp_get dk (i := a + i) (j := b + i) (by omega) (by omega)]
    have e1 := h.at_ (a + i)
    have e2 := h.at_ (b + i)
    rw [if_neg (by omega), if_neg (by omega)] at e1 e2
    rw [e1, e2, h.at_ k]
    (repeat' split) <;> first | rfl | (exfalso; omega) | (congr 1; omega)
  · refine permIn_trans _ _ _ _ _ (permIn_mono _ _ _ _ _ _ (Nat.le_refl _) (by omega) (by omega) h.perm) ?_
    exact swp_permIn _ _ _ _ _ (by omega) (by omega) (by omega) (by omega) (by omega)

/-- [a, m) and [m, b) change places. -/
def Rot (a m b : Nat) (d d' : Array α) : Prop :=
  d'.size = d.size ∧ ∀ k, d'[k]! = if a ≤ k ∧ k < a + (b - m) then d[k + (m - a)]! else if a + (b - m) ≤ k ∧ k < b then d[k - (b - m)]! else d[k]!

theorem Rot.none_left (m b : Nat) (d : Array α) : Rot m m b d d := ⟨rfl, fun k => by
  by_cases h1 : m ≤ k ∧ k < m + (b - m)
  · rw [if_pos h1]; congr 1; omega
  · rw [if_neg h1, if_neg (by omega)]⟩
theorem Rot.none_right (a m : Nat) (d : Array α) : Rot a m m d d := ⟨rfl, fun k => by
  rw [if_neg (by omega)]
  by_cases h1 : a + (m - m) ≤ k ∧ k < m
  · rw [if_pos h1]; congr 1; omega
  · rw [if_neg h1]⟩

/-- The left part is the longer one. -/
theorem Rot.left {i j m : Nat} {d d1 d' : Array α} (h : SwR (m - i) m j d d1) (hi : i ≤ m) (hj : j < i) (hr : Rot (m - (i - j)) m (m + j) d1 d') : Rot (m - i) m (m + j) d d' := by
  refine ⟨hr.1.trans h.size, fun k => ?_⟩
  rw [hr.2 k, h.at_ k, h.at_ (k + (m - (m - (i - j)))), h.at_ (k - (m + j - m))]
  (repeat' split) <;> first | rfl | (exfalso; omega) | (congr 1; omega)
/-- The right part is the longer one. -/
theorem Rot.right {i j m : Nat} {d d1 d' : Array α} (h : SwR (m - i) (m + j - i) i d d1) (hi : i ≤ m) (hj : i < j) (hr : Rot (m - i) m (m + (j - i)) d1 d') : Rot (m - i) m (m + j) d d' := by
  refine ⟨hr.1.trans h.size, fun k => ?_⟩
  rw [hr.2 k, h.at_ k, h.at_ (k + (m - (m - i))), h.at_ (k - (m + (j - i) - m))]
  (repeat' split) <;> first | rfl | (exfalso; omega) | (congr 1; omega)
/-- Both are as long. -/
theorem Rot.equal {i m : Nat} {d d' : Array α} (h : SwR (m - i) m i d d') (hi : i ≤ m) : Rot (m - i) m (m + i) d d' := by
  refine ⟨h.size, fun k => ?_⟩
  rw [h.at_]
  (repeat' split) <;> first | rfl | (exfalso; omega) | (congr 1; omega)

theorem Rot.bubble_up {a k : Nat} {d dk : Array α} (h : Rot a (a + 1) (k + 1) d dk) (hak : a ≤ k) (hk : k + 1 < d.size) : Rot a (a + 1) (k + 2) d (swp dk k (k + 1)) := by
  have hs := h.1
  refine ⟨by rw [size_swp]; exact hs, fun x => ?_⟩
  rw [swp_get dk (i := k) (j := k + 1) (by omega) (by omega)]
  have e1 := h.2 k
  have e2 := h.2 (k + 1)
  rw [if_neg (by omega), if_pos (by omega)] at e1
  rw [if_neg (by omega), if_neg (by omega)] at e2
  rw [e1, e2, h.2 x]
  (repeat' split) <;> first | rfl | (exfalso; omega) | (congr 1; omega)
theorem Rot.bubble_down {m k : Nat} {d dk : Array α} (h : Rot k m (m + 1) d dk) (h0 : 0 < k) (hk : k ≤ m) (hm : m < d.size) : Rot (k - 1) m (m + 1) d (swp dk k (k - 1)) := by
  have hs := h.1
  refine ⟨by rw [size_swp]; exact hs, fun x => ?_⟩
  rw [swp_get dk (i := k) (j := k - 1) (by omega) (by omega)]
  have e1 := h.2 k
  have e2 := h.2 (k - 1)
  rw [if_pos (by omega)] at e1
  rw [if_neg (by omega), if_neg (by omega)] at e2
  rw [e1, e2, h.2 x]
  (repeat' split) <;> first | rfl | (exfalso; omega) | (congr 1; omega)

/-! ### The order: what is compared tells the order 'tot', in which equals keep their order -/
variable {lt tot : α → α → Bool}
/-- A comparison of a right one with a left one, over the cut m, is the order's. -/
def Pre (lt tot : α → α → Bool) (a m b : Nat) (d : Array α) : Prop := ∀ i j, a ≤ i → i < m → m ≤ j → j < b → lt d[j]! d[i]! = tot d[j]! d[i]!
def Stab (lt tot : α → α → Bool) (a b : Nat) (d : Array α) : Prop := ∀ i j, a ≤ i → i < j → j < b → lt d[j]! d[i]! = tot d[j]! d[i]!

theorem insInner_congr {a : Nat} : ∀ (j : Nat) (d : Array α), (∀ k, a ≤ k → k < j → lt d[j]! d[k]! = tot d[j]! d[k]!) → j < d.size → insInner lt a j d = insInner tot a j d
  | 0, _, _, _ => rfl
  | j + 1, d, h, hj => by
    rw [insInner, insInner]
    by_cases ha : j + 1 > a
    · rw [h j (by omega) (by omega)]
      split
      · refine insInner_congr j _ (fun k hk hkj => ?_) (by rw [size_swp]; omega)
        rw [swp_get d (i := j + 1) (j := j) (by omega) (by omega), swp_get d (i := j + 1) (j := j) (by omega) (by omega), if_pos rfl, if_neg (by omega), if_neg (by omega)]
        exact h k hk (by omega)
      · rfl
    · simp [ha]
theorem insInner_perm (tot : α → α → Bool) {a : Nat} : ∀ (j : Nat) (d : Array α), a ≤ j → j < d.size → PermIn a (j + 1) d (insInner tot a j d)
  | 0, d, _, _ => permIn_refl _ _ _
  | j + 1, d, h, hj => by
    rw [insInner]
    split
    · rename_i hc
      have hc' : a ≤ j := by
        simp only [gt_iff_lt, Bool.and_eq_true, decide_eq_true_eq] at hc
        omega
      refine permIn_trans _ _ _ _ _ (swp_permIn d a (j + 1 + 1) (j + 1) j (by omega) (by omega) hc' (by omega) (by omega)) ?_
      exact permIn_mono (swp d (j + 1) j) _ a (j + 1) a (j + 1 + 1) (Nat.le_refl _) (by omega) (by rw [size_swp]; omega) (insInner_perm tot j (swp d (j + 1) j) hc' (by rw [size_swp]; omega))
    · exact permIn_refl _ _ _
theorem insOuter_congr {a b : Nat} : ∀ (f i : Nat) (d : Array α), b - i ≤ f → a < i → b ≤ d.size → (∀ p q, a ≤ p → p < q → i ≤ q → q < b → lt d[q]! d[p]! = tot d[q]! d[p]!) → insOuter lt a b i d = insOuter tot a b i d
  | 0, i, d, hf, _, _, _ => by rw [insOuter_stop _ _ _ _ _ (by omega), insOuter_stop _ _ _ _ _ (by omega)]
  | f + 1, i, d, hf, hi, hb, h => by
    by_cases hib : i < b
    · rw [insOuter_go _ _ _ _ _ hib, insOuter_go _ _ _ _ _ hib, insInner_congr i d (fun k hk hki => h k i hk hki (Nat.le_refl _) hib) (by omega)]
      have hp := insInner_perm tot i d (by omega : a ≤ i) (by omega)
      refine insOuter_congr f (i + 1) _ (by omega) (by omega) (by rw [hp.1]; exact hb) (fun p q hap hpq hiq hqb => ?_)
      rw [hp.2.1 q (by omega)]
      by_cases hpi : i + 1 ≤ p
      · rw [hp.2.1 p (by omega)]
        exact h p q hap hpq (by omega) hqb
      · exact permIn_all d _ a (i + 1) (fun u => lt d[q]! u = tot d[q]! u) (by omega) hp (fun k hk1 hk2 => h k q hk1 (by omega) (by omega) hqb) p hap (by omega)
    · rw [insOuter_stop _ _ _ _ _ hib, insOuter_stop _ _ _ _ _ hib]
/-- The insertion sort puts the range in the order 'tot'. -/
theorem insertion_tot (hO : SWO tot) {a b : Nat} {d : Array α} (hab : a ≤ b) (hb : b ≤ d.size) (h : Stab lt tot a b d) : PermIn a b d (insertionSort lt d a b) ∧ SortedIn tot a b (insertionSort lt d a b) := by
  have e : insertionSort lt d a b = insertionSort tot d a b := by
    unfold insertionSort
    exact insOuter_congr (b - (a + 1)) (a + 1) d (Nat.le_refl _) (by omega) hb (fun p q hap hpq _ hqb => h p q hap hpq hqb)
  rw [e]
  exact insertionSort_holds hO d a b hab hb

theorem SortedIn.out {c e a b : Nat} {d d' : Array α} (h : SortedIn tot c e d) (hp : PermIn a b d d') (ho : e ≤ a ∨ b ≤ c) : SortedIn tot c e d' := fun i j hi hij hj => by
  rw [hp.2.1 i (by omega), hp.2.1 j (by omega)]
  exact h i j hi hij hj
theorem Pre.perm {a m b x y : Nat} {d d' : Array α} (h : Pre lt tot a m b d) (hp : PermIn x y d d') (ho : (a ≤ x ∧ y ≤ m) ∨ (m ≤ x ∧ y ≤ b)) (hy : y ≤ d.size) : Pre lt tot a m b d' := by
  intro i j h1 h2 h3 h4
  rcases ho with ⟨h5, h6⟩ | ⟨h5, h6⟩
  · rw [hp.2.1 j (by omega)]
    by_cases hi : x ≤ i ∧ i < y
    · exact permIn_all d d' x y (fun u => lt d[j]! u = tot d[j]! u) hy hp (fun k hk1 hk2 => h k j (by omega) (by omega) h3 h4) i hi.1 hi.2
    · rw [hp.2.1 i (by omega)]; exact h i j h1 h2 h3 h4
  · rw [hp.2.1 i (by omega)]
    by_cases hj : x ≤ j ∧ j < y
    · exact permIn_all d d' x y (fun u => lt u d[i]! = tot u d[i]!) hy hp (fun k hk1 hk2 => h i k h1 h2 (by omega) (by omega)) j hj.1 hj.2
    · rw [hp.2.1 j (by omega)]; exact h i j h1 h2 h3 h4

/-- Where two sorted parts are cut. -/
structure Cut (tot : α → α → Bool) (a s m e b : Nat) (d : Array α) : Prop where
  as_ : a ≤ s
  sm : s ≤ m
  me : m ≤ e
  eb : e ≤ b
  hL : s = a ∨ e = b ∨ tot d[e]! d[s - 1]! = false
  hR : s = m ∨ e = m ∨ tot d[e - 1]! d[s]! = true

structure Cutted (lt tot : α → α → Bool) (a s c e b : Nat) (d : Array α) : Prop where
  sL1 : SortedIn tot a s d
  sR1 : SortedIn tot s c d
  sL2 : SortedIn tot c e d
  sR2 : SortedIn tot e b d
  pL : Pre lt tot a s c d
  pR : Pre lt tot c e b d
  across : ∀ i j, a ≤ i → i < c → c ≤ j → j < b → tot d[j]! d[i]! = false

theorem Cut.rot (hO : SWO tot) {a s m e b : Nat} {d d' : Array α} (hc : Cut tot a s m e b d) (hl : SortedIn tot a m d) (hr : SortedIn tot m b d) (hp : Pre lt tot a m b d) (h : Rot s m e d d') :
    Cutted lt tot a s (s + (e - m)) e b d' := by
  have h1 := hc.as_; have h2 := hc.sm; have h3 := hc.me; have h4 := hc.eb
  have g0 : ∀ k, k < s → d'[k]! = d[k]! := fun k hk => by rw [h.2, if_neg (by omega), if_neg (by omega)]
  have g1 : ∀ k, s ≤ k → k < s + (e - m) → d'[k]! = d[k + (m - s)]! := fun k hk hk2 => by rw [h.2, if_pos ⟨hk, hk2⟩]
  have g2 : ∀ k, s + (e - m) ≤ k → k < e → d'[k]! = d[k - (e - m)]! := fun k hk hk2 => by rw [h.2, if_neg (by omega), if_pos ⟨hk, hk2⟩]
  have g3 : ∀ k, e ≤ k → d'[k]! = d[k]! := fun k hk => by rw [h.2, if_neg (by omega), if_neg (by omega)]
  -- no later one is less than an earlier one, within either part
  have le : ∀ x y, (a ≤ x ∧ x ≤ y ∧ y < m) ∨ (m ≤ x ∧ x ≤ y ∧ y < b) → tot d[y]! d[x]! = false := fun x y hxy => by
    by_cases hx : x = y
    · subst hx; exact hO.irrefl _
    · rcases hxy with hxy | hxy
      · exact hl x y hxy.1 (by omega) hxy.2.2
      · exact hr x y hxy.1 (by omega) hxy.2.2
  refine ⟨fun i j hi hij hj => ?_, fun i j hi hij hj => ?_, fun i j hi hij hj => ?_, fun i j hi hij hj => ?_, fun i j hi hij hj hjb => ?_, fun i j hi hij hj hjb => ?_, fun i j hi hij hj hjb => ?_⟩
  · rw [g0 i (by omega), g0 j hj]; exact hl i j hi hij (by omega)
  · rw [g1 i hi (by omega), g1 j (by omega) hj]; exact hr _ _ (by omega) (by omega) (by omega)
  · rw [g2 i hi (by omega), g2 j (by omega) hj]; exact hl _ _ (by omega) (by omega) (by omega)
  · rw [g3 i hi, g3 j (by omega)]; exact hr i j (by omega) hij hj
  · rw [g0 i (by omega), g1 j hj hjb]; exact hp i _ hi (by omega) (by omega) (by omega)
  · rw [g2 i hi (by omega), g3 j hj]; exact hp _ j (by omega) (by omega) (by omega) hjb
  · by_cases hi1 : i < s
    · rw [g0 i hi1]
      by_cases hj1 : j < e
      · rw [g2 j hj hj1]; exact le _ _ (.inl ⟨hi, by omega, by omega⟩)
      · rw [g3 j (by omega)]
        have hL : tot d[e]! d[s - 1]! = false := by
          rcases hc.hL with h5 | h5 | h5
          · omega
          · omega
          · exact h5
        exact hO.ntrans _ _ _ (hO.ntrans _ _ _ (le e j (.inr ⟨by omega, by omega, hjb⟩)) hL) (le i (s - 1) (.inl ⟨hi, by omega, by omega⟩))
    · rw [g1 i (by omega) hij]
      by_cases hj1 : j < e
      · rw [g2 j hj hj1]
        have hR : tot d[e - 1]! d[s]! = true := by
          rcases hc.hR with h5 | h5 | h5
          · omega
          · omega
          · exact h5
        have hR' := hO.asymmA hR
        exact hO.ntrans _ _ _ (hO.ntrans _ _ _ (le s (j - (e - m)) (.inl ⟨by omega, by omega, by omega⟩)) hR') (le (i + (m - s)) (e - 1) (.inr ⟨by omega, by omega, by omega⟩))
      · rw [g3 j (by omega)]; exact le _ _ (.inr ⟨by omega, by omega, hjb⟩)

/-- Both sides sorted, and nothing to the right less than anything to the left. -/
theorem Cutted.join {a s c e b : Nat} {d d1 d2 : Array α} (h : Cutted lt tot a s c e b d) (hac : a ≤ c) (hcb : c ≤ b) (hb : b ≤ d.size) (p1 : PermIn a c d d1) (s1 : SortedIn tot a c d1) (p2 : PermIn c b d1 d2) (s2 : SortedIn tot c b d2) :
    PermIn a b d d2 ∧ SortedIn tot a b d2 := by
  have hb1 : b ≤ d1.size := by rw [p1.1]; exact hb
  refine ⟨permIn_trans _ _ _ _ _ (permIn_mono _ _ _ _ _ _ (Nat.le_refl _) hcb hb p1) (permIn_mono _ _ _ _ _ _ hac (Nat.le_refl _) hb1 p2), fun i j hi hij hj => ?_⟩
  by_cases h1 : j < c
  · rw [p2.2.1 i (by omega), p2.2.1 j (by omega)]; exact s1 i j hi hij h1
  · by_cases h2 : c ≤ i
    · exact s2 i j h2 hij hj
    · rw [p2.2.1 i (by omega)]
      refine permIn_all d1 d2 c b (fun u => tot u d1[i]! = false) hb1 p2 (fun k hk1 hk2 => ?_) j (by omega) hj
      rw [p1.2.1 k (by omega)]
      exact permIn_all d d1 a c (fun u => tot d[k]! u = false) (by omega) p1 (fun l hl1 hl2 => h.across l k hl1 hl2 hk1 hk2) i hi (by omega)
theorem Cutted.left {a s c e b : Nat} {d : Array α} (h : Cutted lt tot a s c e b d) (hs : ¬ (a < s ∧ s < c)) (h1 : a ≤ s) (h2 : s ≤ c) : SortedIn tot a c d := by
  by_cases h3 : a = s
  · subst h3; exact h.sR1
  · have : s = c := by omega
    subst this; exact h.sL1
theorem Cutted.right {a s c e b : Nat} {d : Array α} (h : Cutted lt tot a s c e b d) (hs : ¬ (c < e ∧ e < b)) (h1 : c ≤ e) (h2 : e ≤ b) : SortedIn tot c b d := by
  by_cases h3 : c = e
  · subst h3; exact h.sR2
  · have : e = b := by omega
    subst this; exact h.sL2
theorem Cutted.keep {a s c e b : Nat} {d d1 : Array α} (h : Cutted lt tot a s c e b d) (p1 : PermIn a c d d1) (h3 : c ≤ e) : SortedIn tot c e d1 ∧ SortedIn tot e b d1 ∧ Pre lt tot c e b d1 :=
  ⟨SortedIn.out h.sL2 p1 (.inr (Nat.le_refl _)), SortedIn.out h.sR2 p1 (.inr h3), fun i j h1 h2 h4 h5 => by rw [p1.2.1 i (by omega), p1.2.1 j (by omega)]; exact h.pR i j h1 h2 h4 h5⟩

theorem ins_left (hO : SWO tot) {a i b : Nat} {d d' : Array α} (hs : SortedIn tot (a + 1) b d) (hai : a < i) (hib : i ≤ b) (h1 : i = a + 1 ∨ tot d[i - 1]! d[a]! = true) (h2 : i = b ∨ tot d[i]! d[a]! = false)
    (h : Rot a (a + 1) i d d') : SortedIn tot a b d' := by
  have g1 : ∀ k, a ≤ k → k < i - 1 → d'[k]! = d[k + 1]! := fun k hk hk2 => by rw [h.2, if_pos (by omega)]; congr 1; omega
  have g2 : d'[i - 1]! = d[a]! := by rw [h.2, if_neg (by omega), if_pos (by omega)]; congr 1; omega
  have g3 : ∀ k, i ≤ k → d'[k]! = d[k]! := fun k hk => by rw [h.2, if_neg (by omega), if_neg (by omega)]
  intro p q hap hpq hqb
  by_cases hq1 : q < i - 1
  · rw [g1 p hap (by omega), g1 q (by omega) hq1]; exact hs _ _ (by omega) (by omega) (by omega)
  · by_cases hq2 : q = i - 1
    · subst hq2
      rw [g2, g1 p hap hpq]
      have h3 : tot d[i - 1]! d[a]! = true := h1.resolve_left (by omega)
      by_cases h4 : p + 1 = i - 1
      · rw [h4]; exact hO.asymmA h3
      · exact hO.ntrans _ _ _ (hO.asymmA h3) (hs (p + 1) (i - 1) (by omega) (by omega) (by omega))
    · rw [g3 q (by omega)]
      by_cases hp1 : p < i - 1
      · rw [g1 p hap hp1]; exact hs _ _ (by omega) (by omega) hqb
      · by_cases hp2 : p = i - 1
        · subst hp2
          rw [g2]
          have h3 : tot d[i]! d[a]! = false := h2.resolve_left (by omega)
          by_cases h4 : q = i
          · rw [h4]; exact h3
          · exact hO.ntrans _ _ _ (hs i q (by omega) (by omega) hqb) h3
        · rw [g3 p (by omega)]; exact hs _ _ (by omega) hpq hqb
theorem ins_right (hO : SWO tot) {a i m : Nat} {d d' : Array α} (hs : SortedIn tot a m d) (hai : a ≤ i) (him : i ≤ m) (h1 : i = a ∨ tot d[m]! d[i - 1]! = false) (h2 : i = m ∨ tot d[m]! d[i]! = true)
    (h : Rot i m (m + 1) d d') : SortedIn tot a (m + 1) d' := by
  have g0 : ∀ k, k < i → d'[k]! = d[k]! := fun k hk => by rw [h.2, if_neg (by omega), if_neg (by omega)]
  have g1 : d'[i]! = d[m]! := by rw [h.2, if_pos (by omega)]; congr 1; omega
  have g2 : ∀ k, i < k → k ≤ m → d'[k]! = d[k - 1]! := fun k hk hk2 => by rw [h.2, if_neg (by omega), if_pos (by omega)]; congr 1; omega
  intro p q hap hpq hqb
  by_cases hq1 : q < i
  · rw [g0 p (by omega), g0 q hq1]; exact hs _ _ hap hpq (by omega)
  · by_cases hq2 : q = i
    · subst hq2
      rw [g1, g0 p hpq]
      have h3 : tot d[m]! d[q - 1]! = false := h1.resolve_left (by omega)
      by_cases h4 : p = q - 1
      · rw [h4]; exact h3
      · exact hO.ntrans _ _ _ h3 (hs p (q - 1) hap (by omega) (by omega))
    · rw [g2 q (by omega) (by omega)]
      by_cases hp1 : p < i
      · rw [g0 p hp1]; exact hs _ _ hap (by omega) (by omega)
      · by_cases hp2 : p = i
        · subst hp2
          rw [g1]
          have h3 : tot d[m]! d[p]! = true := h2.resolve_left (by omega)
          by_cases h4 : q - 1 = p
          · rw [h4]; exact hO.asymmA h3
          · exact hO.ntrans _ _ _ (hs p (q - 1) hap (by omega) (by omega)) (hO.asymmA h3)
        · rw [g2 p (by omega) (by omega)]; exact hs _ _ (by omega) (by omega) (by omega)
end Go.Proofs.StableSort
/-! The two phases of sort.stable_func in plain Lean: blocks are sorted, then merged in pairs. -/
namespace Go.Proofs.StableSort
open Go.Shelf Go.RowKit Go.Lib Go.Sort
variable {α : Type} [Inhabited α] {lt tot : α → α → Bool} {n k s : Nat} {d0 d d' : Array α}

structure J1 (lt tot : α → α → Bool) (n k : Nat) (d0 d : Array α) : Prop where
  perm : PermIn 0 n d0 d
  stab : Stab lt tot (k * 20) n d
  done : ∀ t, t < k → SortedIn tot (t * 20) (t * 20 + 20) d
  pre : ∀ t, Pre lt tot 0 (t * 20) n d

theorem J1.start (h : Stab lt tot 0 n d) : J1 lt tot n 0 d d :=
  ⟨permIn_refl _ _ _, by simpa using h, fun t ht => absurd ht (by omega), fun t i j _ hi hj hjn => h i j (by omega) (by omega) hjn⟩
theorem J1.step (h : J1 lt tot n k d0 d) (hn : d.size = n) (hk : k * 20 + 20 ≤ n) (hp : PermIn (k * 20) (k * 20 + 20) d d') (hs : SortedIn tot (k * 20) (k * 20 + 20) d') : J1 lt tot n (k + 1) d0 d' := by
  refine ⟨permIn_trans _ _ _ _ _ h.perm (permIn_mono d d' (k * 20) (k * 20 + 20) 0 n (by omega) hk (by omega) hp), fun i j hi hij hj => ?_, fun t ht => ?_, fun t => ?_⟩
  · rw [hp.2.1 i (by omega), hp.2.1 j (by omega)]
    exact h.stab i j (by omega) hij hj
  · by_cases htk : t = k
    · rw [htk]; exact hs
    · exact SortedIn.out (h.done t (by omega)) hp (.inl (by omega))
  · exact Pre.perm (h.pre t) hp (by omega) (by omega)

structure J2 (lt tot : α → α → Bool) (n s k : Nat) (d0 d : Array α) : Prop where
  perm : PermIn 0 n d0 d
  done : ∀ t, t < k → SortedIn tot (t * (2 * s)) (t * (2 * s) + 2 * s) d
  todo : ∀ t, 2 * k ≤ t → SortedIn tot (t * s) (min (t * s + s) n) d
  pre : ∀ t, (t % 2 = 0 ∨ 2 * k ≤ t) → Pre lt tot 0 (t * s) n d

theorem J1.last (h : J1 lt tot n k d0 d) (hn : d.size = n) (h1 : k * 20 ≤ n) (h2 : n < k * 20 + 20) (hp : PermIn (k * 20) n d d') (hs : SortedIn tot (k * 20) n d') : J2 lt tot n 20 0 d0 d' := by
  refine ⟨permIn_trans _ _ _ _ _ h.perm (permIn_mono d d' (k * 20) n 0 n (by omega) (Nat.le_refl _) (by omega) hp), fun t ht => absurd ht (by omega), fun t _ => ?_, fun t _ => ?_⟩
  · by_cases htk : t < k
    · have := SortedIn.out (h.done t htk) hp (.inl (by omega))
      rw [Nat.min_eq_left (by omega)]; exact this
    · by_cases htk2 : t = k
      · rw [htk2, Nat.min_eq_right (by omega)]; exact hs
      · intro i j hi hij hj
        have : k * 20 + 20 ≤ t * 20 := by omega
        omega
  · intro i j hi hit hj hjn
    by_cases htk : t * 20 ≤ k * 20
    · exact Pre.perm (h.pre t) hp (.inr ⟨htk, Nat.le_refl _⟩) (by omega) i j hi hit hj hjn
    · omega

theorem mul_two (k s : Nat) : k * (2 * s) = (2 * k) * s := by rw [← Nat.mul_assoc, Nat.mul_comm k 2]
theorem J2.step (h : J2 lt tot n s k d0 d) (hn : d.size = n) (hb : k * (2 * s) + 2 * s ≤ n) (hp : PermIn (k * (2 * s)) (k * (2 * s) + 2 * s) d d') (hs : SortedIn tot (k * (2 * s)) (k * (2 * s) + 2 * s) d') : J2 lt tot n s (k + 1) d0 d' := by
  have e2 := mul_two k s
  have up : ∀ t, 2 * (k + 1) ≤ t → k * (2 * s) + 2 * s ≤ t * s := fun t ht => by
    have := Nat.mul_le_mul_right s ht
    rw [show 2 * (k + 1) = 2 * k + 2 by omega, Nat.add_mul] at this
    omega
  refine ⟨permIn_trans _ _ _ _ _ h.perm (permIn_mono d d' _ _ 0 n (by omega) hb (by omega) hp), fun t ht => ?_, fun t ht => ?_, fun t ht => ?_⟩
  · by_cases htk : t = k
    · rw [htk]; exact hs
    · have h3 : (t + 1) * (2 * s) ≤ k * (2 * s) := Nat.mul_le_mul_right _ (by omega)
      rw [Nat.add_mul] at h3
      exact SortedIn.out (h.done t (by omega)) hp (.inl (by omega))
  · exact SortedIn.out (h.todo t (by omega)) hp (.inr (up t ht))
  · have hin : Pre lt tot 0 (t * s) n d := h.pre t (by omega)
    refine Pre.perm hin hp ?_ (by omega)
    rcases Nat.lt_or_ge t (2 * k + 1) with h3 | h3
    · have := Nat.mul_le_mul_right s (show t ≤ 2 * k by omega)
      exact .inr ⟨by omega, by omega⟩
    · have := up t (by omega)
      exact .inl ⟨by omega, by omega⟩
theorem J2.fin (h : J2 lt tot n s k d0 d) (hn : d.size = n) (h1 : k * (2 * s) ≤ n) (h2 : n < k * (2 * s) + 2 * s) (hp : PermIn (k * (2 * s)) n d d') (hs : SortedIn tot (k * (2 * s)) n d') : J2 lt tot n (2 * s) 0 d0 d' := by
  refine ⟨permIn_trans _ _ _ _ _ h.perm (permIn_mono d d' _ n 0 n (by omega) (Nat.le_refl _) (by omega) hp), fun t ht => absurd ht (by omega), fun t _ => ?_, fun t _ => ?_⟩
  · rcases Nat.lt_trichotomy t k with h3 | h3 | h3
    · have h4 : (t + 1) * (2 * s) ≤ k * (2 * s) := Nat.mul_le_mul_right _ (by omega)
      rw [Nat.add_mul] at h4
      rw [Nat.min_eq_left (by omega)]
      exact SortedIn.out (h.done t h3) hp (.inl (by omega))
    · rw [h3, Nat.min_eq_right (by omega)]; exact hs
    · intro i j hi hij hj
      have h4 : (k + 1) * (2 * s) ≤ t * (2 * s) := Nat.mul_le_mul_right _ (by omega)
      rw [Nat.add_mul] at h4
      omega
  · intro i j hi hit hj hjn
    have e2 := mul_two t s
    by_cases htk : t * (2 * s) ≤ k * (2 * s)
    · have := h.pre (2 * t) (.inl (by omega))
      rw [← e2] at this
      exact Pre.perm this hp (.inr ⟨htk, Nat.le_refl _⟩) (by omega) i j hi hit hj hjn
    · have h4 : k < t := by
        rcases Nat.lt_or_ge k t with h4 | h4
        · exact h4
        · exact absurd (Nat.mul_le_mul_right (2 * s) h4) htk
      have h5 : (k + 1) * (2 * s) ≤ t * (2 * s) := Nat.mul_le_mul_right _ (by omega)
      rw [Nat.add_mul] at h5
      omega
/-- The last one is alone. -/
theorem J2.odd (h : J2 lt tot n s k d0 d) (hn : d.size = n) (h1 : k * (2 * s) ≤ n) (h2 : n ≤ k * (2 * s) + s) (h0 : 0 < s) : J2 lt tot n (2 * s) 0 d0 d := by
  refine h.fin hn h1 (by omega) (permIn_refl _ _ _) ?_
  have := h.todo (2 * k) (Nat.le_refl _)
  rw [← mul_two, Nat.min_eq_right (by omega)] at this
  exact this
theorem J2.out (h : J2 lt tot n s 0 d0 d) (hs : n ≤ s) : SortedIn tot 0 n d := by
  have := h.todo 0 (by omega)
  rw [Nat.min_eq_right (by omega)] at this
  simpa using this
/-- What symMerge asks. -/
theorem J2.left (h : J2 lt tot n s k d0 d) (hb : k * (2 * s) + s ≤ n) : SortedIn tot (k * (2 * s)) (k * (2 * s) + s) d := by
  have := h.todo (2 * k) (Nat.le_refl _)
  rw [← mul_two, Nat.min_eq_left (by omega)] at this
  exact this
theorem J2.right (h : J2 lt tot n s k d0 d) {b : Nat} (hb : b = min (k * (2 * s) + 2 * s) n) : SortedIn tot (k * (2 * s) + s) b d := by
  have := h.todo (2 * k + 1) (by omega)
  rw [Nat.add_mul, ← mul_two, Nat.one_mul, show k * (2 * s) + s + s = k * (2 * s) + 2 * s by omega] at this
  rw [hb]; exact this
theorem J2.cut (h : J2 lt tot n s k d0 d) {b : Nat} (hb : b ≤ n) : Pre lt tot (k * (2 * s)) (k * (2 * s) + s) b d := by
  have := h.pre (2 * k + 1) (.inr (by omega))
  rw [Nat.add_mul, ← mul_two, Nat.one_mul] at this
  exact fun i j h1 h2 h3 h4 => this i j (by omega) h2 h3 (by omega)
end Go.Proofs.StableSort
