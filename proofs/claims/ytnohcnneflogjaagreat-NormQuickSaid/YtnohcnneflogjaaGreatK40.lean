/- Stable sorting in plain Lean: what swapRange, rotate, insertion and symMerge come to, told by what their row holds. (the theory of session 2) -/
import Derived.Test.YtnohcnneflogjaaGreatK38
import Derived.Shelf.GgSortFunc.SW
import Derived.Shelf.GgSortFunc.LotD
import Derived.Sort.LotA
import Derived.Shelf.SlSortCmp.KitK
set_option maxHeartbeats 4000000
set_option maxRecDepth 1000000
set_option linter.unusedVariables false
set_option linter.unusedSimpArgs false
namespace Go.Proofs.YtnohcnneflogjaaGreat.M.St
open Go.Shelf Go.RowKit Go.Lib Go.Sort
variable {α : Type} [Inhabited α]
structure SwR (a b n : Nat) (d d' : Array α) : Prop where
 size : d'.size = d.size
 at_ : ∀ k, d'[k]! = if a ≤ k ∧ k < a + n then d[k + (b - a)]! else if b ≤ k ∧ k < b + n then d[k - (b - a)]! else d[k]!
 perm : PermIn a (b + n) d d'
theorem SwR.start (a b : Nat) (d : Array α) : SwR a b 0 d d := ⟨rfl, fun k => by rw [if_neg (by omega), if_neg (by omega)], permIn_refl _ _ _⟩
theorem SwR.step {a b i : Nat} {d dk : Array α} (h : SwR a b i d dk) (hab : a + i < b) (hb : b + i < d.size) : SwR a b (i + 1) d (swp dk (a + i) (b + i)) := by
 have hs := h.size
 refine ⟨by rw [size_swp]; exact hs, fun k => ?_, ?_⟩
 ·rw [swp_get dk (i := a + i) (j := b + i) (by omega) (by omega)]
  have e1 := h.at_ (a + i)
  have e2 := h.at_ (b + i)
  rw [if_neg (by omega), if_neg (by omega)] at e1 e2
  rw [e1, e2, h.at_ k]
  (repeat' split) <;> first | rfl | (exfalso; omega) | (congr 1; omega)
 ·refine permIn_trans _ _ _ _ _ (permIn_mono _ _ _ _ _ _ (Nat.le_refl _) (by omega) (by omega) h.perm) ?_
  exact swp_permIn _ _ _ _ _ (by omega) (by omega) (by omega) (by omega) (by omega)
def Rot (a m b : Nat) (d d' : Array α) : Prop :=
 d'.size = d.size ∧ ∀ k, d'[k]! = if a ≤ k ∧ k < a + (b - m) then d[k + (m - a)]! else if a + (b - m) ≤ k ∧ k < b then d[k - (b - m)]! else d[k]!
theorem Rot.none_left (m b : Nat) (d : Array α) : Rot m m b d d := ⟨rfl, fun k => by
 by_cases h1 : m ≤ k ∧ k < m + (b - m)
 ·rw [if_pos h1]; congr 1; omega
 ·rw [if_neg h1, if_neg (by omega)]⟩
theorem Rot.none_right (a m : Nat) (d : Array α) : Rot a m m d d := ⟨rfl, fun k => by
 rw [if_neg (by omega)]
 by_cases h1 : a + (m - m) ≤ k ∧ k < m
 ·rw [if_pos h1]; congr 1; omega
 ·rw [if_neg h1]⟩
theorem Rot.left {i j m : Nat} {d d1 d' : Array α} (h : SwR (m - i) m j d d1) (hi : i ≤ m) (hj : j < i) (hr : Rot (m - (i - j)) m (m + j) d1 d') : Rot (m - i) m (m + j) d d' := by
 refine ⟨hr.1.trans h.size, fun k => ?_⟩
 rw [hr.2 k, h.at_ k, h.at_ (k + (m - (m - (i - j)))), h.at_ (k - (m + j - m))]
 (repeat' split) <;> first | rfl | (exfalso; omega) | (congr 1; omega)
theorem Rot.right {i j m : Nat} {d d1 d' : Array α} (h : SwR (m - i) (m + j - i) i d d1) (hi : i ≤ m) (hj : i < j) (hr : Rot (m - i) m (m + (j - i)) d1 d') : Rot (m - i) m (m + j) d d' := by
 refine ⟨hr.1.trans h.size, fun k => ?_⟩
 rw [hr.2 k, h.at_ k, h.at_ (k + (m - (m - i))), h.at_ (k - (m + (j - i) - m))]
 (repeat' split) <;> first | rfl | (exfalso; omega) | (congr 1; omega)
theorem Rot.equal {i m : Nat} {d d' : Array α} (h : SwR (m - i) m i d d') (hi : i ≤ m) : Rot (m - i) m (m + i) d d' := by
 refine ⟨h.size, fun k => ?_⟩
 rw [h.at_]
 (repeat' split) <;> first | rfl | (exfalso; omega) | (congr 1; omega)
theorem Rot.bubble_up {a k : Nat} {d dk : Array α} (h : Rot a (a + 1) (k + 1) d dk) (hak : a ≤ k) (hk : k + 1 < d.size) : Rot a (a + 1) (k + 2) d (swp dk k (k + 1)) := by
 have hs := h.1
 refine ⟨by rw [size_swp]; exact hs, fun x => ?_⟩
 rw [swp_get dk (i := k) (j := k + 1) (by omega) (by omega)]
 have e1 := h.2 k
 have e2 := h.2 (k + 1)
 rw [if_neg (by omega), if_pos (by omega)] at e1
 rw [if_neg (by omega), if_neg (by omega)] at e2
 rw [e1, e2, h.2 x]
 (repeat' split) <;> first | rfl | (exfalso; omega) | (congr 1; omega)
theorem Rot.bubble_down {m k : Nat} {d dk : Array α} (h : Rot k m (m + 1) d dk) (h0 : 0 < k) (hk : k ≤ m) (hm : m < d.size) : Rot (k - 1) m (m + 1) d (swp dk k (k - 1)) := by
 have hs := h.1
 refine ⟨by rw [size_swp]; exact hs, fun x => ?_⟩
 rw [swp_get dk (i := k) (j := k - 1) (by omega) (by omega)]
 have e1 := h.2 k
 have e2 := h.2 (k - 1)
 rw [if_pos (by omega)] at e1
 rw [if_neg (by omega), if_neg (by omega)] at e2
 rw [e1, e2, h.2 x]
 (repeat' split) <;> first | rfl | (exfalso; omega) | (congr 1; omega)
variable {lt tot : α → α → Bool}
def Pre (lt tot : α → α → Bool) (a m b : Nat) (d : Array α) : Prop := ∀ i j, a ≤ i → i < m → m ≤ j → j < b → lt d[j]! d[i]! = tot d[j]! d[i]!
def Stab (lt tot : α → α → Bool) (a b : Nat) (d : Array α) : Prop := ∀ i j, a ≤ i → i < j → j < b → lt d[j]! d[i]! = tot d[j]! d[i]!
theorem insInner_congr {a : Nat} : ∀ (j : Nat) (d : Array α), (∀ k, a ≤ k → k < j → lt d[j]! d[k]! = tot d[j]! d[k]!) → j < d.size → insInner lt a j d = insInner tot a j d
 | 0, _, _, _ => rfl
 | j + 1, d, h, hj => by
   rw [insInner, insInner]
   by_cases ha : j + 1 > a
   ·rw [h j (by omega) (by omega)]
    split
    ·refine insInner_congr j _ (fun k hk hkj => ?_) (by rw [size_swp]; omega)
     rw [swp_get d (i := j + 1) (j := j) (by omega) (by omega), swp_get d (i := j + 1) (j := j) (by omega) (by omega), if_pos rfl, if_neg (by omega), if_neg (by omega)]
     exact h k hk (by omega)
    ·rfl
   ·simp [ha]
theorem insInner_perm (tot : α → α → Bool) {a : Nat} : ∀ (j : Nat) (d : Array α), a ≤ j → j < d.size → PermIn a (j + 1) d (insInner tot a j d)
 | 0, d, _, _ => permIn_refl _ _ _
 | j + 1, d, h, hj => by
   rw [insInner]
   split
   ·rename_i hc
    have hc' : a ≤ j := by
     simp only [gt_iff_lt, Bool.and_eq_true, decide_eq_true_eq] at hc
     omega
    refine permIn_trans _ _ _ _ _ (swp_permIn d a (j + 1 + 1) (j + 1) j (by omega) (by omega) hc' (by omega) (by omega)) ?_
    exact permIn_mono (swp d (j + 1) j) _ a (j + 1) a (j + 1 + 1) (Nat.le_refl _) (by omega) (by rw [size_swp]; omega) (insInner_perm tot j (swp d (j + 1) j) hc' (by rw [size_swp]; omega))
   ·exact permIn_refl _ _ _
theorem insOuter_congr {a b : Nat} : ∀ (f i : Nat) (d : Array α), b - i ≤ f → a < i → b ≤ d.size → (∀ p q, a ≤ p → p < q → i ≤ q → q < b → lt d[q]! d[p]! = tot d[q]! d[p]!) → insOuter lt a b i d = insOuter tot a b i d
 | 0, i, d, hf, _, _, _ => by rw [insOuter_stop _ _ _ _ _ (by omega), insOuter_stop _ _ _ _ _ (by omega)]
 | f + 1, i, d, hf, hi, hb, h => by
   by_cases hib : i < b
   ·rw [insOuter_go _ _ _ _ _ hib, insOuter_go _ _ _ _ _ hib, insInner_congr i d (fun k hk hki => h k i hk hki (Nat.le_refl _) hib) (by omega)]
    have hp := insInner_perm tot i d (by omega : a ≤ i) (by omega)
    refine insOuter_congr f (i + 1) _ (by omega) (by omega) (by rw [hp.1]; exact hb) (fun p q hap hpq hiq hqb => ?_)
    rw [hp.2.1 q (by omega)]
    by_cases hpi : i + 1 ≤ p
    ·rw [hp.2.1 p (by omega)]
     exact h p q hap hpq (by omega) hqb
    ·exact permIn_all d _ a (i + 1) (fun u => lt d[q]! u = tot d[q]! u) (by omega) hp (fun k hk1 hk2 => h k q hk1 (by omega) (by omega) hqb) p hap (by omega)
   ·rw [insOuter_stop _ _ _ _ _ hib, insOuter_stop _ _ _ _ _ hib]
theorem insertion_tot (hO : SWO tot) {a b : Nat} {d : Array α} (hab : a ≤ b) (hb : b ≤ d.size) (h : Stab lt tot a b d) : PermIn a b d (insertionSort lt d a b) ∧ SortedIn tot a b (insertionSort lt d a b) := by
 have e : insertionSort lt d a b = insertionSort tot d a b := by
  unfold insertionSort
  exact insOuter_congr (b - (a + 1)) (a + 1) d (Nat.le_refl _) (by omega) hb (fun p q hap hpq _ hqb => h p q hap hpq hqb)
 rw [e]
 exact insertionSort_holds hO d a b hab hb
theorem SortedIn.out {c e a b : Nat} {d d' : Array α} (h : SortedIn tot c e d) (hp : PermIn a b d d') (ho : e ≤ a ∨ b ≤ c) : SortedIn tot c e d' := fun i j hi hij hj => by
 rw [hp.2.1 i (by omega), hp.2.1 j (by omega)]
 exact h i j hi hij hj
theorem Pre.perm {a m b x y : Nat} {d d' : Array α} (h : Pre lt tot a m b d) (hp : PermIn x y d d') (ho : (a ≤ x ∧ y ≤ m) ∨ (m ≤ x ∧ y ≤ b)) (hy : y ≤ d.size) : Pre lt tot a m b d' := by
 intro i j h1 h2 h3 h4
 rcases ho with ⟨h5, h6⟩ | ⟨h5, h6⟩
 ·rw [hp.2.1 j (by omega)]
  by_cases hi : x ≤ i ∧ i < y
  ·exact permIn_all d d' x y (fun u => lt d[j]! u = tot d[j]! u) hy hp (fun k hk1 hk2 => h k j (by omega) (by omega) h3 h4) i hi.1 hi.2
  ·rw [hp.2.1 i (by omega)]; exact h i j h1 h2 h3 h4
 ·rw [hp.2.1 i (by omega)]
  by_cases hj : x ≤ j ∧ j < y
  ·exact permIn_all d d' x y (fun u => lt u d[i]! = tot u d[i]!) hy hp (fun k hk1 hk2 => h i k h1 h2 (by omega) (by omega)) j hj.1 hj.2
  ·rw [hp.2.1 j (by omega)]; exact h i j h1 h2 h3 h4
structure Cut (tot : α → α → Bool) (a s m e b : Nat) (d : Array α) : Prop where
 as_ : a ≤ s
 sm : s ≤ m
 me : m ≤ e
 eb : e ≤ b
 hL : s = a ∨ e = b ∨ tot d[e]! d[s - 1]! = false
 hR : s = m ∨ e = m ∨ tot d[e - 1]! d[s]! = true
structure Cutted (lt tot : α → α → Bool) (a s c e b : Nat) (d : Array α) : Prop where
 sL1 : SortedIn tot a s d
 sR1 : SortedIn tot s c d
 sL2 : SortedIn tot c e d
 sR2 : SortedIn tot e b d
 pL : Pre lt tot a s c d
 pR : Pre lt tot c e b d
 across : ∀ i j, a ≤ i → i < c → c ≤ j → j < b → tot d[j]! d[i]! = false
theorem Cut.rot (hO : SWO tot) {a s m e b : Nat} {d d' : Array α} (hc : Cut tot a s m e b d) (hl : SortedIn tot a m d) (hr : SortedIn tot m b d) (hp : Pre lt tot a m b d) (h : Rot s m e d d') :
 Cutted lt tot a s (s + (e - m)) e b d' := by
 have h1 := hc.as_; have h2 := hc.sm; have h3 := hc.me; have h4 := hc.eb
 have g0 : ∀ k, k < s → d'[k]! = d[k]! := fun k hk => by rw [h.2, if_neg (by omega), if_neg (by omega)]
 have g1 : ∀ k, s ≤ k → k < s + (e - m) → d'[k]! = d[k + (m - s)]! := fun k hk hk2 => by rw [h.2, if_pos ⟨hk, hk2⟩]
 have g2 : ∀ k, s + (e - m) ≤ k → k < e → d'[k]! = d[k - (e - m)]! := fun k hk hk2 => by rw [h.2, if_neg (by omega), if_pos ⟨hk, hk2⟩]
 have g3 : ∀ k, e ≤ k → d'[k]! = d[k]! := fun k hk => by rw [h.2, if_neg (by omega), if_neg (by omega)]
 -- no later one is less than an earlier one, within either part
 have le : ∀ x y, (a ≤ x ∧ x ≤ y ∧ y < m) ∨ (m ≤ x ∧ x ≤ y ∧ y < b) → tot d[y]! d[x]! = false := fun x y hxy => by
  by_cases hx : x = y
  ·subst hx; exact hO.irrefl _
  ·rcases hxy with hxy | hxy
   ·exact hl x y hxy.1 (by omega) hxy.2.2
   ·exact hr x y hxy.1 (by omega) hxy.2.2
 refine ⟨fun i j hi hij hj => ?_, fun i j hi hij hj => ?_, fun i j hi hij hj => ?_, fun i j hi hij hj => ?_, fun i j hi hij hj hjb => ?_, fun i j hi hij hj hjb => ?_, fun i j hi hij hj hjb => ?_⟩
 ·rw [g0 i (by omega), g0 j hj]; exact hl i j hi hij (by omega)
 ·rw [g1 i hi (by omega), g1 j (by omega) hj]; exact hr _ _ (by omega) (by omega) (by omega)
 ·rw [g2 i hi (by omega), g2 j (by omega) hj]; exact hl _ _ (by omega) (by omega) (by omega)
 ·rw [g3 i hi, g3 j (by omega)]; exact hr i j (by omega) hij hj
 ·rw [g0 i (by omega), g1 j hj hjb]; exact hp i _ hi (by omega) (by omega) (by omega)
 ·rw [g2 i hi (by omega), g3 j hj]; exact hp _ j (by omega) (by omega) (by omega) hjb
 ·by_cases hi1 : i < s
  ·rw [g0 i hi1]
   by_cases hj1 : j < e
   ·rw [g2 j hj hj1]; exact le _ _ (.inl ⟨hi, by omega, by omega⟩)
   ·rw [g3 j (by omega)]
    have hL : tot d[e]! d[s - 1]! = false := by
     rcases hc.hL with h5 | h5 | h5
     ·omega
     ·omega
     ·exact h5
    exact hO.ntrans _ _ _ (hO.ntrans _ _ _ (le e j (.inr ⟨by omega, by omega, hjb⟩)) hL) (le i (s - 1) (.inl ⟨hi, by omega, by omega⟩))
  ·rw [g1 i (by omega) hij]
   by_cases hj1 : j < e
   ·rw [g2 j hj hj1]
    have hR : tot d[e - 1]! d[s]! = true := by
     rcases hc.hR with h5 | h5 | h5
     ·omega
     ·omega
     ·exact h5
    have hR' := hO.asymmA hR
    exact hO.ntrans _ _ _ (hO.ntrans _ _ _ (le s (j - (e - m)) (.inl ⟨by omega, by omega, by omega⟩)) hR') (le (i + (m - s)) (e - 1) (.inr ⟨by omega, by omega, by omega⟩))
   ·rw [g3 j (by omega)]; exact le _ _ (.inr ⟨by omega, by omega, hjb⟩)
theorem Cutted.join {a s c e b : Nat} {d d1 d2 : Array α} (h : Cutted lt tot a s c e b d) (hac : a ≤ c) (hcb : c ≤ b) (hb : b ≤ d.size) (p1 : PermIn a c d d1) (s1 : SortedIn tot a c d1) (p2 : PermIn c b d1 d2) (s2 : SortedIn tot c b d2) :
 PermIn a b d d2 ∧ SortedIn tot a b d2 := by
 have hb1 : b ≤ d1.size := by rw [p1.1]; exact hb
 refine ⟨permIn_trans _ _ _ _ _ (permIn_mono _ _ _ _ _ _ (Nat.le_refl _) hcb hb p1) (permIn_mono _ _ _ _ _ _ hac (Nat.le_refl _) hb1 p2), fun i j hi hij hj => ?_⟩
 by_cases h1 : j < c
 ·rw [p2.2.1 i (by omega), p2.2.1 j (by omega)]; exact s1 i j hi hij h1
 ·by_cases h2 : c ≤ i
  ·exact s2 i j h2 hij hj
  ·rw [p2.2.1 i (by omega)]
   refine permIn_all d1 d2 c b (fun u => tot u d1[i]! = false) hb1 p2 (fun k hk1 hk2 => ?_) j (by omega) hj
   rw [p1.2.1 k (by omega)]
   exact permIn_all d d1 a c (fun u => tot d[k]! u = false) (by omega) p1 (fun l hl1 hl2 => h.across l k hl1 hl2 hk1 hk2) i hi (by omega)
theorem Cutted.left {a s c e b : Nat} {d : Array α} (h : Cutted lt tot a s c e b d) (hs : ¬ (a < s ∧ s < c)) (h1 : a ≤ s) (h2 : s ≤ c) : SortedIn tot a c d := by
 by_cases h3 : a = s
 ·subst h3; exact h.sR1
 ·have : s = c := by omega
  subst this; exact h.sL1
theorem Cutted.right {a s c e b : Nat} {d : Array α} (h : Cutted lt tot a s c e b d) (hs : ¬ (c < e ∧ e < b)) (h1 : c ≤ e) (h2 : e ≤ b) : SortedIn tot c b d := by
 by_cases h3 : c = e
 ·subst h3; exact h.sR2
 ·have : e = b := by omega
  subst this; exact h.sL2
theorem Cutted.keep {a s c e b : Nat} {d d1 : Array α} (h : Cutted lt tot a s c e b d) (p1 : PermIn a c d d1) (h3 : c ≤ e) : SortedIn tot c e d1 ∧ SortedIn tot e b d1 ∧ Pre lt tot c e b d1 :=
 ⟨SortedIn.out h.sL2 p1 (.inr (Nat.le_refl _)), SortedIn.out h.sR2 p1 (.inr h3), fun i j h1 h2 h4 h5 => by rw [p1.2.1 i (by omega), p1.2.1 j (by omega)]; exact h.pR i j h1 h2 h4 h5⟩
theorem ins_left (hO : SWO tot) {a i b : Nat} {d d' : Array α} (hs : SortedIn tot (a + 1) b d) (hai : a < i) (hib : i ≤ b) (h1 : i = a + 1 ∨ tot d[i - 1]! d[a]! = true) (h2 : i = b ∨ tot d[i]! d[a]! = false)
 (h : Rot a (a + 1) i d d') : SortedIn tot a b d' := by
 have g1 : ∀ k, a ≤ k → k < i - 1 → d'[k]! = d[k + 1]! := fun k hk hk2 => by rw [h.2, if_pos (by omega)]; congr 1; omega
 have g2 : d'[i - 1]! = d[a]! := by rw [h.2, if_neg (by omega), if_pos (by omega)]; congr 1; omega
 have g3 : ∀ k, i ≤ k → d'[k]! = d[k]! := fun k hk => by rw [h.2, if_neg (by omega), if_neg (by omega)]
 intro p q hap hpq hqb
 by_cases hq1 : q < i - 1
 ·rw [g1 p hap (by omega), g1 q (by omega) hq1]; exact hs _ _ (by omega) (by omega) (by omega)
 ·by_cases hq2 : q = i - 1
  ·subst hq2
   rw [g2, g1 p hap hpq]
   have h3 : tot d[i - 1]! d[a]! = true := h1.resolve_left (by omega)
   by_cases h4 : p + 1 = i - 1
   ·rw [h4]; exact hO.asymmA h3
   ·exact hO.ntrans _ _ _ (hO.asymmA h3) (hs (p + 1) (i - 1) (by omega) (by omega) (by omega))
  ·rw [g3 q (by omega)]
   by_cases hp1 : p < i - 1
   ·rw [g1 p hap hp1]; exact hs _ _ (by omega) (by omega) hqb
   ·by_cases hp2 : p = i - 1
    ·subst hp2
     rw [g2]
     have h3 : tot d[i]! d[a]! = false := h2.resolve_left (by omega)
     by_cases h4 : q = i
     ·rw [h4]; exact h3
     ·exact hO.ntrans _ _ _ (hs i q (by omega) (by omega) hqb) h3
    ·rw [g3 p (by omega)]; exact hs _ _ (by omega) hpq hqb
theorem ins_right (hO : SWO tot) {a i m : Nat} {d d' : Array α} (hs : SortedIn tot a m d) (hai : a ≤ i) (him : i ≤ m) (h1 : i = a ∨ tot d[m]! d[i - 1]! = false) (h2 : i = m ∨ tot d[m]! d[i]! = true)
 (h : Rot i m (m + 1) d d') : SortedIn tot a (m + 1) d' := by
 have g0 : ∀ k, k < i → d'[k]! = d[k]! := fun k hk => by rw [h.2, if_neg (by omega), if_neg (by omega)]
 have g1 : d'[i]! = d[m]! := by rw [h.2, if_pos (by omega)]; congr 1; omega
 have g2 : ∀ k, i < k → k ≤ m → d'[k]! = d[k - 1]! := fun k hk hk2 => by rw [h.2, if_neg (by omega), if_pos (by omega)]; congr 1; omega
 intro p q hap hpq hqb
 by_cases hq1 : q < i
 ·rw [g0 p (by omega), g0 q hq1]; exact hs _ _ hap hpq (by omega)
 ·by_cases hq2 : q = i
  ·subst hq2
   rw [g1, g0 p hpq]
   have h3 : tot d[m]! d[q - 1]! = false := h1.resolve_left (by omega)
   by_cases h4 : p = q - 1
   ·rw [h4]; exact h3
   ·exact hO.ntrans _ _ _ h3 (hs p (q - 1) hap (by omega) (by omega))
  ·rw [g2 q (by omega) (by omega)]
   by_cases hp1 : p < i
   ·rw [g0 p hp1]; exact hs _ _ hap (by omega) (by omega)
   ·by_cases hp2 : p = i
    ·subst hp2
     rw [g1]
     have h3 : tot d[m]! d[p]! = true := h2.resolve_left (by omega)
     by_cases h4 : q - 1 = p
     ·rw [h4]; exact hO.asymmA h3
     ·exact hO.ntrans _ _ _ (hs p (q - 1) hap (by omega) (by omega)) (hO.asymmA h3)
    ·rw [g2 p (by omega) (by omega)]; exact hs _ _ (by omega) (by omega) (by omega)
open Go.Shelf Go.RowKit Go.Lib Go.Sort
variable {α : Type} [Inhabited α] {lt tot : α → α → Bool} {n k s : Nat} {d0 d d' : Array α}
structure J1 (lt tot : α → α → Bool) (n k : Nat) (d0 d : Array α) : Prop where
 perm : PermIn 0 n d0 d
 stab : Stab lt tot (k * 20) n d
 done : ∀ t, t < k → SortedIn tot (t * 20) (t * 20 + 20) d
 pre : ∀ t, Pre lt tot 0 (t * 20) n d
theorem J1.start (h : Stab lt tot 0 n d) : J1 lt tot n 0 d d :=
 ⟨permIn_refl _ _ _, by simpa using h, fun t ht => absurd ht (by omega), fun t i j _ hi hj hjn => h i j (by omega) (by omega) hjn⟩
theorem J1.step (h : J1 lt tot n k d0 d) (hn : d.size = n) (hk : k * 20 + 20 ≤ n) (hp : PermIn (k * 20) (k * 20 + 20) d d') (hs : SortedIn tot (k * 20) (k * 20 + 20) d') : J1 lt tot n (k + 1) d0 d' := by
 refine ⟨permIn_trans _ _ _ _ _ h.perm (permIn_mono d d' (k * 20) (k * 20 + 20) 0 n (by omega) hk (by omega) hp), fun i j hi hij hj => ?_, fun t ht => ?_, fun t => ?_⟩
 ·rw [hp.2.1 i (by omega), hp.2.1 j (by omega)]
  exact h.stab i j (by omega) hij hj
 ·by_cases htk : t = k
  ·rw [htk]; exact hs
  ·exact SortedIn.out (h.done t (by omega)) hp (.inl (by omega))
 ·exact Pre.perm (h.pre t) hp (by omega) (by omega)
structure J2 (lt tot : α → α → Bool) (n s k : Nat) (d0 d : Array α) : Prop where
 perm : PermIn 0 n d0 d
 done : ∀ t, t < k → SortedIn tot (t * (2 * s)) (t * (2 * s) + 2 * s) d
 todo : ∀ t, 2 * k ≤ t → SortedIn tot (t * s) (min (t * s + s) n) d
 pre : ∀ t, (t % 2 = 0 ∨ 2 * k ≤ t) → Pre lt tot 0 (t * s) n d
theorem J1.last (h : J1 lt tot n k d0 d) (hn : d.size = n) (h1 : k * 20 ≤ n) (h2 : n < k * 20 + 20) (hp : PermIn (k * 20) n d d') (hs : SortedIn tot (k * 20) n d') : J2 lt tot n 20 0 d0 d' := by
 refine ⟨permIn_trans _ _ _ _ _ h.perm (permIn_mono d d' (k * 20) n 0 n (by omega) (Nat.le_refl _) (by omega) hp), fun t ht => absurd ht (by omega), fun t _ => ?_, fun t _ => ?_⟩
 ·by_cases htk : t < k
  ·have := SortedIn.out (h.done t htk) hp (.inl (by omega))
   rw [Nat.min_eq_left (by omega)]; exact this
  ·by_cases htk2 : t = k
   ·rw [htk2, Nat.min_eq_right (by omega)]; exact hs
   ·intro i j hi hij hj
    have : k * 20 + 20 ≤ t * 20 := by omega
    omega
 ·intro i j hi hit hj hjn
  by_cases htk : t * 20 ≤ k * 20
  ·exact Pre.perm (h.pre t) hp (.inr ⟨htk, Nat.le_refl _⟩) (by omega) i j hi hit hj hjn
  ·omega
theorem mul_two (k s : Nat) : k * (2 * s) = (2 * k) * s := by rw [← Nat.mul_assoc, Nat.mul_comm k 2]
theorem J2.step (h : J2 lt tot n s k d0 d) (hn : d.size = n) (hb : k * (2 * s) + 2 * s ≤ n) (hp : PermIn (k * (2 * s)) (k * (2 * s) + 2 * s) d d') (hs : SortedIn tot (k * (2 * s)) (k * (2 * s) + 2 * s) d') : J2 lt tot n s (k + 1) d0 d' := by
 have e2 := mul_two k s
 have up : ∀ t, 2 * (k + 1) ≤ t → k * (2 * s) + 2 * s ≤ t * s := fun t ht => by
  have := Nat.mul_le_mul_right s ht
  rw [show 2 * (k + 1) = 2 * k + 2 by omega, Nat.add_mul] at this
  omega
 refine ⟨permIn_trans _ _ _ _ _ h.perm (permIn_mono d d' _ _ 0 n (by omega) hb (by omega) hp), fun t ht => ?_, fun t ht => ?_, fun t ht => ?_⟩
 ·by_cases htk : t = k
  ·rw [htk]; exact hs
  ·have h3 : (t + 1) * (2 * s) ≤ k * (2 * s) := Nat.mul_le_mul_right _ (by omega)
   rw [Nat.add_mul] at h3
   exact SortedIn.out (h.done t (by omega)) hp (.inl (by omega))
 ·exact SortedIn.out (h.todo t (by omega)) hp (.inr (up t ht))
 ·have hin : Pre lt tot 0 (t * s) n d := h.pre t (by omega)
  refine Pre.perm hin hp ?_ (by omega)
  rcases Nat.lt_or_ge t (2 * k + 1) with h3 | h3
  ·have := Nat.mul_le_mul_right s (show t ≤ 2 * k by omega)
   exact .inr ⟨by omega, by omega⟩
  ·have := up t (by omega)
   exact .inl ⟨by omega, by omega⟩
theorem J2.fin (h : J2 lt tot n s k d0 d) (hn : d.size = n) (h1 : k * (2 * s) ≤ n) (h2 : n < k * (2 * s) + 2 * s) (hp : PermIn (k * (2 * s)) n d d') (hs : SortedIn tot (k * (2 * s)) n d') : J2 lt tot n (2 * s) 0 d0 d' := by
 refine ⟨permIn_trans _ _ _ _ _ h.perm (permIn_mono d d' _ n 0 n (by omega) (Nat.le_refl _) (by omega) hp), fun t ht => absurd ht (by omega), fun t _ => ?_, fun t _ => ?_⟩
 ·rcases Nat.lt_trichotomy t k with h3 | h3 | h3
  ·have h4 : (t + 1) * (2 * s) ≤ k * (2 * s) := Nat.mul_le_mul_right _ (by omega)
   rw [Nat.add_mul] at h4
   rw [Nat.min_eq_left (by omega)]
   exact SortedIn.out (h.done t h3) hp (.inl (by omega))
  ·rw [h3, Nat.min_eq_right (by omega)]; exact hs
  ·intro i j hi hij hj
   have h4 : (k + 1) * (2 * s) ≤ t * (2 * s) := Nat.mul_le_mul_right _ (by omega)
   rw [Nat.add_mul] at h4
   omega
 ·intro i j hi hit hj hjn
  have e2 := mul_two t s
  by_cases htk : t * (2 * s) ≤ k * (2 * s)
  ·have := h.pre (2 * t) (.inl (by omega))
   rw [← e2] at this
   exact Pre.perm this hp (.inr ⟨htk, Nat.le_refl _⟩) (by omega) i j hi hit hj hjn
  ·have h4 : k < t := by
    rcases Nat.lt_or_ge k t with h4 | h4
    ·exact h4
    ·exact absurd (Nat.mul_le_mul_right (2 * s) h4) htk
   have h5 : (k + 1) * (2 * s) ≤ t * (2 * s) := Nat.mul_le_mul_right _ (by omega)
   rw [Nat.add_mul] at h5
   omega
theorem J2.odd (h : J2 lt tot n s k d0 d) (hn : d.size = n) (h1 : k * (2 * s) ≤ n) (h2 : n ≤ k * (2 * s) + s) (h0 : 0 < s) : J2 lt tot n (2 * s) 0 d0 d := by
 refine h.fin hn h1 (by omega) (permIn_refl _ _ _) ?_
 have := h.todo (2 * k) (Nat.le_refl _)
 rw [← mul_two, Nat.min_eq_right (by omega)] at this
 exact this
theorem J2.out (h : J2 lt tot n s 0 d0 d) (hs : n ≤ s) : SortedIn tot 0 n d := by
 have := h.todo 0 (by omega)
 rw [Nat.min_eq_right (by omega)] at this
 simpa using this
theorem J2.left (h : J2 lt tot n s k d0 d) (hb : k * (2 * s) + s ≤ n) : SortedIn tot (k * (2 * s)) (k * (2 * s) + s) d := by
 have := h.todo (2 * k) (Nat.le_refl _)
 rw [← mul_two, Nat.min_eq_left (by omega)] at this
 exact this
theorem J2.right (h : J2 lt tot n s k d0 d) {b : Nat} (hb : b = min (k * (2 * s) + 2 * s) n) : SortedIn tot (k * (2 * s) + s) b d := by
 have := h.todo (2 * k + 1) (by omega)
 rw [Nat.add_mul, ← mul_two, Nat.one_mul, show k * (2 * s) + s + s = k * (2 * s) + 2 * s by omega] at this
 rw [hb]; exact this
theorem J2.cut (h : J2 lt tot n s k d0 d) {b : Nat} (hb : b ≤ n) : Pre lt tot (k * (2 * s)) (k * (2 * s) + s) b d := by
 have := h.pre (2 * k + 1) (.inr (by omega))
 rw [Nat.add_mul, ← mul_two, Nat.one_mul] at this
 exact fun i j h1 h2 h3 h4 => this i j (by omega) h2 h3 (by omega)
end Go.Proofs.YtnohcnneflogjaaGreat.M.St
namespace Go.Proofs.YtnohcnneflogjaaGreat.M.St
open Go.Shelf Go.RowKit Go.Lib Go.Sort
variable {α : Type} [Inhabited α]
theorem aggM : ∀ w, (isAgg 149).run Tryz.prog w = .ok true w := by
 intro w
 simp [go_sem]
 try kernel_rfl
theorem sizeM : ∀ w, (Go.sizeOf 149).run Tryz.prog w = .ok 2 w := by
 intro w
 simp [go_sem]
 try kernel_rfl
theorem swr_calls {enc : α → List Value} {k : Nat} {w0 : World} {blk off : Nat} {d0 : Array α} (zE : ∀ w, (Go.sizeOf 149).run Tryz.prog w = .ok k w) (R : RowK enc k w0 blk off d0) (a b n cap : Nat) (d : Array α) (W : World) (fv : Value) (hW : SWK enc k w0 blk off d W) (hs : d.size = d0.size) (hab : a + n ≤ b) (hb : b + n ≤ d.size) (hsz : d.size < 4611686018427387904) :
 Calls Tryz.prog 246 #[.slice (some ⟨blk, off, none⟩) d.size cap, .int .i64 a, .int .i64 b, .int .i64 n, fv] W fun e w' => e = .returned (.tuple #[]) ∧ ∃ d', SwR a b n d d' ∧ SWK enc k w0 blk off d' w' := by
 have aE := aggM
 have mixed : Tryz.prog.follows .mixedOrders = true := by kernel_rfl
 have HR := Az.mk R
 have HW := Az.mk hW
 have HS := Az.mk hs
 clear hW hs
 go_enter Tryz.func246, Tryz.ntmps246
 go_wp2
 go_loopg [10] n (fun g vi wr => ∃ (i : Nat) (dk : Array α), vi = .int .i64 i ∧ Az (i + g = n) ∧ Az (SwR a b i d dk) ∧ Az (SWK enc k w0 blk off dk wr))
 case atStart => exact ⟨0, d, rfl, ⟨Nat.zero_add _⟩, ⟨SwR.start _ _ _⟩, HW⟩
 case round =>
  obtain ⟨i, dk, rfl, HN, HX, HV⟩ := hrel
  cases gk with
  | zero =>
    have hi : i = n := by have := HN.out; omega
    subst hi
    have hlt : decide ((i : Int) < (i : Int)) = false := dFz (by omega)
    go_wp2
    go_end0
    exact ⟨rfl, dk, HX.out, HV.out⟩
  | succ g2 =>
    have hlt : decide ((i : Int) < (n : Int)) = true := dTz (by have := HN.out; omega)
    have hlt1 : i < n := by have := HN.out; omega
    have hsk := HX.out.size
    have hs0 : dk.size = d0.size := hsk.trans HS.out
    obtain ⟨p, hp⟩ : ∃ p, a + i = p := ⟨_, rfl⟩
    obtain ⟨q, hq⟩ : ∃ q, b + i = q := ⟨_, rfl⟩
    have hpz : (a : Int) + (i : Int) = (p : Int) := by omega
    have hqz : (b : Int) + (i : Int) = (q : Int) := by omega
    have z1 : (p : Int) < (d.size : Int) := by omega
    have z2 : (q : Int) < (d.size : Int) := by omega
    have hps : p < dk.size := by omega
    have hqs : q < dk.size := by omega
    have HW1 : Az (IntKind.i64.wrap (p : Int) = (p : Int)) := ⟨by rw [IntKind.wrap_i64]; omega⟩
    have HW2 : Az (IntKind.i64.wrap (q : Int) = (q : Int)) := ⟨by rw [IntKind.wrap_i64]; omega⟩
    obtain ⟨xp, hxp⟩ : ∃ x, dk[p]! = x := ⟨_, rfl⟩
    obtain ⟨xq, hxq⟩ : ∃ x, dk[q]! = x := ⟨_, rfl⟩
    have l1 := HV.out.ld1 HR.out hs0 Tryz.prog q hqs
    have l2 := HV.out.ld1 HR.out hs0 Tryz.prog p hps
    have s1 := HV.out.st1 HR.out hs0 Tryz.prog p hps xq
    have s2 := HV.out.st2 HR.out hs0 Tryz.prog p q hps hqs xq xp
    have hsw := HV.out.swapped HR.out p q hps hqs
    rw [hxq] at l1 hsw
    rw [hxp] at l2 hsw
    have hsJ : (enc xp).length = k := HR.out.hk _
    have hsP : (enc xq).length = k := HR.out.hk _
    have HSW := Az.mk hsw
    have HX2 : Az (SwR a b (i + 1) d (swp dk p q)) := ⟨by rw [← hp, ← hq]; exact SwR.step HX.out (by omega) (by omega)⟩
    clear hsw hxp hxq hp hq hps hqs hab hb
    obtain ⟨cJ, hcJ⟩ : ∃ c, c = enc xp := ⟨_, rfl⟩
    obtain ⟨cP, hcP⟩ : ∃ c, c = enc xq := ⟨_, rfl⟩
    rw [← hcP] at s1 s2 l1 hsP
    rw [← hcJ] at l2 s2 hsJ
    have CC : Az (cJ = enc xp ∧ cP = enc xq) := ⟨⟨hcJ, hcP⟩⟩
    clear hcJ hcP
    go_wp2_with fail
    go_big_region_o
    all_goals go_wp2
    go_roundg g2
    case measure => have := HN.out; omega
    case rel => exact ⟨i + 1, swp dk p q, by go_num, ⟨by have := HN.out; omega⟩, HX2, ⟨by rw [CC.out.1, CC.out.2]; exact HSW.out⟩⟩
end Go.Proofs.YtnohcnneflogjaaGreat.M.St
namespace Go.Proofs.YtnohcnneflogjaaGreat.M.St
open Go.Shelf Go.RowKit Go.Lib Go.Sort
variable {α : Type} [Inhabited α]
theorem rot_calls {enc : α → List Value} {k : Nat} {w0 : World} {blk off : Nat} {d0 : Array α} (zE : ∀ w, (Go.sizeOf 149).run Tryz.prog w = .ok k w) (R : RowK enc k w0 blk off d0) (a m b n cap : Nat) (d : Array α) (W : World) (fv : Value) (hW : SWK enc k w0 blk off d W) (hs : d.size = d0.size) (hn : n = d.size) (ham : a < m) (hmb : m < b) (hb : b ≤ d.size) (hsz : d.size < 4611686018427387904) :
 Calls Tryz.prog 218 #[.slice (some ⟨blk, off, none⟩) n cap, .int .i64 a, .int .i64 m, .int .i64 b, fv] W fun e w' => e = .returned (.tuple #[]) ∧ ∃ d', Rot a m b d d' ∧ PermIn a b d d' ∧ SWK enc k w0 blk off d' w' := by
 have HR := Az.mk R
 have HW := Az.mk hW
 have HS := Az.mk hs
 have HZ := Az.mk zE
 have HNN := Az.mk hn
 clear hW hs R zE hn
 go_enter Tryz.func218, Tryz.ntmps218
 go_wp2
 go_loopw [10, 11] (fun vi vj wr => ∃ (i j : Nat) (dk : Array α), vi = .int .i64 i ∧ vj = .int .i64 j ∧ 0 < i ∧ i ≤ m - a ∧ 0 < j ∧ j ≤ b - m ∧ dk.size = d.size ∧ PermIn a b d dk ∧ (∀ d', Rot (m - i) m (m + j) dk d' → Rot a m b d d') ∧ SWK enc k w0 blk off dk wr) (fun vi vj _ => (intOf vi).toNat + (intOf vj).toNat)
 case atStart => exact ⟨m - a, b - m, d, by go_num, by go_num, by omega, by omega, by omega, by omega, rfl, permIn_refl _ _ _, fun d' h => by rw [show m - (m - a) = a by omega, show m + (b - m) = b by omega] at h; exact h, HW.out⟩
 case round =>
  obtain ⟨i, j, dk, rfl, rfl, hi0, hi, hj0, hj, hsk, hP, hR, hV⟩ := hrel
  have HRR := Az.mk hR
  have HV := Az.mk hV
  have HP := Az.mk hP
  have hs0 : dk.size = d0.size := hsk.trans HS.out
  have HC := Az.mk (fun (a2 b2 n2 : Nat) h1 h2 => swr_calls HZ.out HR.out a2 b2 n2 cap dk wr fv HV.out hs0 h1 h2 (by omega))
  clear hR hV hP
  have hnn : dk.size = n := hsk.trans HNN.out.symm
  rw [hnn] at HC
  rcases Nat.lt_trichotomy i j with hij | hij | hij
  ·have hc := HC.out (m - i) (m + j - i) i (by omega) (by omega)
   rw [show ((m - i : Nat) : Int) = (m : Int) - i by omega, show ((m + j - i : Nat) : Int) = (m : Int) + j - i by omega] at hc
   go_wp2_with (go_at_call 246; refine hc.mono ?_; rintro e w2 ⟨rfl, d2, hR2, hW2⟩)
   go_roundw
   case rel =>
    exact ⟨i, j - i, d2, rfl, by congr 1; omega, hi0, hi, by omega, by omega, hR2.size.trans hsk, permIn_trans _ _ _ _ _ HP.out (permIn_mono _ _ (m - i) (m + j - i + i) _ _ (by omega) (by omega) (by omega) hR2.perm), fun d' h => HRR.out d' (Rot.right hR2 (by omega) hij h), hW2⟩
   case measure => simp [intOf]; omega
  ·subst hij
   have hc := HC.out (m - i) m i (by omega) (by omega)
   rw [show ((m - i : Nat) : Int) = (m : Int) - i by omega] at hc
   go_wp2_with (go_at_call 246; refine hc.mono ?_; rintro e w2 ⟨rfl, d2, hR2, hW2⟩)
   go_end0
   exact ⟨rfl, d2, HRR.out d2 (Rot.equal hR2 (by omega)), permIn_trans _ _ _ _ _ HP.out (permIn_mono _ _ (m - i) (m + i) _ _ (by omega) (by omega) (by omega) hR2.perm), hW2⟩
  ·have hc := HC.out (m - i) m j (by omega) (by omega)
   rw [show ((m - i : Nat) : Int) = (m : Int) - i by omega] at hc
   go_wp2_with (go_at_call 246; refine hc.mono ?_; rintro e w2 ⟨rfl, d2, hR2, hW2⟩)
   go_roundw
   case rel =>
    exact ⟨i - j, j, d2, by congr 1; omega, rfl, by omega, by omega, hj0, hj, hR2.size.trans hsk, permIn_trans _ _ _ _ _ HP.out (permIn_mono _ _ (m - i) (m + j) _ _ (by omega) (by omega) (by omega) hR2.perm), fun d' h => HRR.out d' (Rot.left hR2 (by omega) hij h), hW2⟩
   case measure => simp [intOf]; omega
end Go.Proofs.YtnohcnneflogjaaGreat.M.St
namespace Go.Proofs.YtnohcnneflogjaaGreat.M.St
open Go.Shelf Go.RowKit Go.Lib Go.Sort
variable {α : Type} [Inhabited α]
theorem ins_calls {enc : α → List Value} {k : Nat} {w0 : World} {blk off : Nat} {d0 : Array α} (zE : ∀ w, (Go.sizeOf 149).run Tryz.prog w = .ok k w) (R : RowK enc k w0 blk off d0)
 (cf : α → α → Int) (g : Nat) (cb : Array Value) (eg : ∀ args w, (callFunc g args).run Tryz.prog w = .ok (.enter g args) w) (hcmp : CmpLays Tryz.prog g cb enc k cf blk off d0.size w0)
 (a b n cap : Nat) (d : Array α) (W : World) (hW : SWK enc k w0 blk off d W) (hs : d.size = d0.size) (hn : n = d.size) (hab : a ≤ b) (hb : b ≤ d.size) (hsz : d.size < 4611686018427387904) :
 Calls Tryz.prog 194 #[.slice (some ⟨blk, off, none⟩) n cap, .int .i64 a, .int .i64 b, .func (.func g) #[] cb] W fun e w' => e = .returned (.tuple #[]) ∧ SWK enc k w0 blk off (Sort.insertionSort (ltOf cf) d a b) w' := by
 have aE := aggM
 have mixed : Tryz.prog.follows .mixedOrders = true := by kernel_rfl
 have u22 := run_underlying (P := Tryz.prog) Tryz.underlying146
 have HR := Az.mk R
 have HW := Az.mk hW
 have HS := Az.mk hs
 have HNN := Az.mk hn
 have HCM := Az.mk hcmp
 clear hW hs R hn hcmp
 go_enter Tryz.func194, Tryz.ntmps194
 go_wp2
 go_loopg [8] (b - a) (fun g1 vi wr => ∃ (i : Nat) (dk : Array α), vi = .int .i64 i ∧ a < i ∧ i ≤ b + 1 ∧ b + 1 - i ≤ g1 + 1 ∧ dk.size = d.size ∧ Az (SWK enc k w0 blk off dk wr) ∧ Az (insOuter (ltOf cf) a b i dk = insOuter (ltOf cf) a b (a + 1) d))
 case atStart => exact ⟨a + 1, d, by go_num, by omega, by omega, by omega, rfl, HW, ⟨rfl⟩⟩
 case round =>
  obtain ⟨i, dk, rfl, hai, hib, hg1, hsk, HV, HO⟩ := hrel
  by_cases hlt : i < b
  ·have hltz : (i : Int) < (b : Int) := by omega
   go_wp2
   go_loopg [9] i (fun g2 vj wr2 => ∃ (j : Nat) (dj : Array α), vj = .int .i64 j ∧ a ≤ j ∧ j ≤ i ∧ j ≤ g2 ∧ dj.size = d.size ∧ Az (SWK enc k w0 blk off dj wr2) ∧ Az (insInner (ltOf cf) a j dj = insInner (ltOf cf) a i dk))
   case atStart => exact ⟨i, dk, rfl, by omega, Nat.le_refl _, Nat.le_refl _, hsk, HV, ⟨rfl⟩⟩
   case round =>
    obtain ⟨j, dj, rfl, haj, hji, hg2, hsj, HJ, HI⟩ := hrel
    have OUT : Az ((j ≤ a ∨ ltOf cf dj[j]! dj[j - 1]! = false) → insOuter (ltOf cf) a b (i + 1) dj = insOuter (ltOf cf) a b (a + 1) d) := ⟨fun hs => by
     rw [← HO.out, insOuter_go _ _ _ _ _ hlt, ← HI.out, insInner_stop _ _ _ _ hs]⟩
    by_cases hja : a < j
    ·have hjaz : (a : Int) < (j : Int) := by omega
     obtain ⟨jp, rfl⟩ : ∃ jp, j = jp + 1 := ⟨j - 1, by omega⟩
     obtain ⟨xj, hxj⟩ : ∃ x, dj[jp + 1]! = x := ⟨_, rfl⟩
     obtain ⟨xp, hxp⟩ : ∃ x, dj[jp]! = x := ⟨_, rfl⟩
     have hwp : IntKind.i64.wrap (jp : Int) = (jp : Int) := by rw [IntKind.wrap_i64]; omega
     have jz : (jp : Int) + 1 < (n : Int) := by have := HNN.out; omega
     have jz1 : (jp : Int) < (n : Int) := by have := HNN.out; omega
     have hjaz' : (a : Int) < (jp : Int) + 1 := by omega
     have p0 : (0 : Int) ≤ (jp : Int) + 1 := by omega
     have e0 : ((jp : Int) + 1).toNat = jp + 1 := by omega
     have hs0 : dj.size = d0.size := hsj.trans HS.out
     have hp1 : jp + 1 < dj.size := by omega
     have hp2 : jp < dj.size := by omega
     have lj := fun n' os' => HJ.out.ld HR.out hs0 Tryz.prog (jp + 1) hp1 n' os'
     have lp := fun n' os' => HJ.out.ld HR.out hs0 Tryz.prog jp hp2 n' os'
     rw [hxj] at lj
     rw [hxp] at lp
     have hcg := fun n' os' => HJ.out.cmp HCM.out hs0 xj xp n' os'
     by_cases hlv : cf xj xp < 0
     ·go_wp2_with fail
      go_quiet_grown (first | (go_at_fn g; refine Calls.grown_of (hcg _ _)))
      go_wp2_with fail
      have hj2 := HJ.out.grown nq osq
      clear lj lp hcg
      generalize grow (wr.drewN nq) osq = wq2 at hj2 ⊢
      have l1 := hj2.ld1 HR.out hs0 Tryz.prog jp hp2
      have l2 := hj2.ld1 HR.out hs0 Tryz.prog (jp + 1) hp1
      have s1 := hj2.st1 HR.out hs0 Tryz.prog (jp + 1) hp1 xp
      have s2 := hj2.st2 HR.out hs0 Tryz.prog (jp + 1) jp hp1 hp2 xp xj
      have hsw := hj2.swapped HR.out (jp + 1) jp hp1 hp2
      rw [hxp] at l1 hsw
      rw [hxj] at l2 hsw
      have hsJ : (enc xj).length = k := HR.out.hk _
      have hsP : (enc xp).length = k := HR.out.hk _
      have HSW := Az.mk hsw
      have HIN : Az (insInner (ltOf cf) a jp (swp dj (jp + 1) jp) = insInner (ltOf cf) a i dk) := ⟨by
       have := insInner_go (ltOf cf) a (jp + 1) dj hja (by simp only [Nat.add_sub_cancel]; rw [hxj, hxp]; exact dTz hlv)
       simp only [Nat.add_sub_cancel] at this
       rw [← HI.out, this]⟩
      clear hsw hj2
      obtain ⟨cJ, hcJ⟩ : ∃ c, c = enc xj := ⟨_, rfl⟩
      obtain ⟨cP, hcP⟩ : ∃ c, c = enc xp := ⟨_, rfl⟩
      rw [← hcP] at s1 s2 l1 hsP
      rw [← hcJ] at l2 s2 hsJ
      have CC : Az (cJ = enc xj ∧ cP = enc xp) := ⟨⟨hcJ, hcP⟩⟩
      clear hcJ hcP
      go_big_region_o
      all_goals go_wp2
      go_roundg jp
      case measure => omega
      case rel => exact ⟨jp, swp dj (jp + 1) jp, by first | rfl | go_num | (congr 1; omega), by omega, by omega, Nat.le_refl _, by rw [size_swp]; exact hsj, ⟨by rw [CC.out.1, CC.out.2]; exact HSW.out⟩, HIN⟩
     ·go_wp2_with fail
      go_quiet_grown (first | (go_at_fn g; refine Calls.grown_of (hcg _ _)))
      go_wp2
      go_roundg (b - (i + 1))
      case measure => omega
      case rel => exact ⟨i + 1, dj, by go_num, by omega, by omega, by omega, hsj, ⟨HJ.out.grown _ _⟩, ⟨OUT.out (Or.inr (by simp only [Nat.add_sub_cancel]; rw [hxj, hxp]; exact dFz (by omega)))⟩⟩
    ·have hjaz : decide ((j : Int) > (a : Int)) = false := dFz (by omega)
     have hjaz' : ¬ (a : Int) < (j : Int) := by omega
     go_wp2_with fail
     go_big_region_o
     all_goals go_wp2
     go_roundg (b - (i + 1))
     case measure => omega
     case rel => exact ⟨i + 1, dj, by go_num, by omega, by omega, by omega, hsj, ⟨HJ.out.drew⟩, ⟨OUT.out (Or.inl (by omega))⟩⟩
  ·have hltz : ¬ (i : Int) < (b : Int) := by omega
   go_wp2
   go_end0
   exact ⟨rfl, by unfold Sort.insertionSort; rw [← HO.out, insOuter_stop _ _ _ _ _ hlt]; exact HV.out⟩
end Go.Proofs.YtnohcnneflogjaaGreat.M.St
namespace Go.Proofs.YtnohcnneflogjaaGreat.M.St
open Go.Shelf Go.RowKit Go.Lib Go.Sort
variable {α : Type} [Inhabited α]
theorem sym_left {enc : α → List Value} {k : Nat} {w0 : World} {blk off : Nat} {d0 : Array α} (zE : ∀ w, (Go.sizeOf 149).run Tryz.prog w = .ok k w) (R : RowK enc k w0 blk off d0)
 (cf : α → α → Int) (tot : α → α → Bool) (hO : SWO tot) (g : Nat) (cb : Array Value) (eg : ∀ args w, (callFunc g args).run Tryz.prog w = .ok (.enter g args) w) (hcmp : CmpLays Tryz.prog g cb enc k cf blk off d0.size w0)
 (a m b n cap : Nat) (d : Array α) (W : World) (hW : SWK enc k w0 blk off d W) (hs : d.size = d0.size) (hn : n = d.size) (ham : m = a + 1) (hmb : m < b) (hb : b ≤ d.size) (hsz : d.size < 4611686018427387904)
 (sR : SortedIn tot m b d) (hP : Pre (ltOf cf) tot a m b d) :
 Calls Tryz.prog 195 #[.slice (some ⟨blk, off, none⟩) n cap, .int .i64 a, .int .i64 m, .int .i64 b, .func (.func g) #[] cb] W fun e w' => e = .returned (.tuple #[]) ∧ ∃ d', PermIn a b d d' ∧ SortedIn tot a b d' ∧ SWK enc k w0 blk off d' w' := by
 have aE := aggM
 have mixed : Tryz.prog.follows .mixedOrders = true := by kernel_rfl
 have u22 := run_underlying (P := Tryz.prog) Tryz.underlying146
 have HR := Az.mk R
 have HW := Az.mk hW
 have HS := Az.mk hs
 have HNN := Az.mk hn
 have HCM := Az.mk hcmp
 clear hW hs R hn hcmp
 have hma : ((m : Int) - a == 1) = true := by rw [beq_iff_eq]; omega
 have HAM := Az.mk ham
 have ham2 : a < m := by omega
 have HSD := HS
 clear ham
 go_enter Tryz.func195, Tryz.ntmps195
 go_wp2
 go_loopw [10, 11, 12] (fun vi vj _ wr => ∃ (i j : Nat), vi = .int .i64 i ∧ vj = .int .i64 j ∧ m ≤ i ∧ i ≤ j ∧ j ≤ b ∧ Az (i = m ∨ ltOf cf d[i - 1]! d[a]! = true) ∧ Az (j = b ∨ ltOf cf d[j]! d[a]! = false) ∧ Az (SWK enc k w0 blk off d wr))
  (fun vi vj _ _ => (intOf vj).toNat - (intOf vi).toNat)
 case atStart => exact ⟨m, b, rfl, rfl, Nat.le_refl _, by omega, Nat.le_refl _, ⟨.inl rfl⟩, ⟨.inl rfl⟩, HW⟩
 case round =>
  obtain ⟨i, j, rfl, rfl, hi, hij, hj, H1, H2, HV⟩ := hrel
  by_cases hlt : i < j
  ·obtain ⟨h, hh⟩ : ∃ h : Nat, (i + j) / 2 = h := ⟨_, rfl⟩
   have hhI : ((i : Int) + j) / 2 = (h : Int) := by omega
   have hh1 : i ≤ h := by omega
   have hh2 : h < j := by omega
   have hhn : (h : Int) < (n : Int) := by have := HNN.out; omega
   have han : (a : Int) < (n : Int) := by have := HNN.out; omega
   clear hh
   obtain ⟨xh, hxh⟩ : ∃ x, d[h]! = x := ⟨_, rfl⟩
   obtain ⟨xa, hxa⟩ : ∃ x, d[a]! = x := ⟨_, rfl⟩
   have lj := fun n' os' => HV.out.ld HR.out HSD.out Tryz.prog (h) (by omega) n' os'
   have lp := fun n' os' => HV.out.ld HR.out HSD.out Tryz.prog (a) (by omega) n' os'
   rw [hxh] at lj
   rw [hxa] at lp
   have hcg := fun n' os' => HV.out.cmp HCM.out HSD.out xh xa n' os'
   by_cases hlv : cf xh xa < 0
   ·have HLV : Az (ltOf cf d[h]! d[a]! = true) := ⟨by rw [hxh, hxa]; exact dTz hlv⟩
    go_wp2_with fail
    go_quiet_grown (first | (go_at_fn g; refine Calls.grown_of (hcg _ _)))
    go_wp2
    go_roundw
    case rel => exact ⟨h + 1, j, by go_num, rfl, by omega, by omega, hj, ⟨.inr (by rw [Nat.add_sub_cancel]; exact HLV.out)⟩, H2, ⟨HV.out.grown _ _⟩⟩
    case measure => simp [intOf]; omega
   ·have HLV : Az (ltOf cf d[h]! d[a]! = false) := ⟨by rw [hxh, hxa]; exact dFz hlv⟩
    go_wp2_with fail
    go_quiet_grown (first | (go_at_fn g; refine Calls.grown_of (hcg _ _)))
    go_wp2
    go_roundw
    case rel => exact ⟨i, h, rfl, rfl, by omega, by omega, by omega, H1, ⟨.inr HLV.out⟩, ⟨HV.out.grown _ _⟩⟩
    case measure => simp [intOf]; omega
  ·obtain rfl : i = j := by omega
   have hi2 : m ≤ i := hi
   go_wp2
   go_loopw [13] (fun vk wr2 => ∃ (q : Nat) (dk : Array α), vk = .int .i64 q ∧ a ≤ q ∧ q + 1 ≤ i ∧ Az (Rot a (a + 1) (q + 1) d dk) ∧ Az (PermIn a b d dk) ∧ Az (SWK enc k w0 blk off dk wr2))
    (fun vk _ => i - (intOf vk).toNat)
   case atStart => exact ⟨a, d, rfl, Nat.le_refl _, by omega, ⟨Rot.none_right _ _ _⟩, ⟨permIn_refl _ _ _⟩, HV⟩
   case round =>
    obtain ⟨q, dk, rfl, haq, hqi, HRT, HQ, HV2⟩ := hrel
    have hsk : dk.size = d.size := HRT.out.1
    have hs0 : dk.size = d0.size := hsk.trans HS.out
    by_cases hk : q + 1 < i
    ·have HNX : Az (Rot a (a + 1) (q + 2) d (swp dk q (q + 1)) ∧ PermIn a b d (swp dk q (q + 1))) := ⟨Rot.bubble_up HRT.out haq (by omega), permIn_trans _ _ _ _ _ HQ.out (swp_permIn _ _ _ _ _ haq (by omega) (by omega) (by omega) (by omega))⟩
     have z1 : (q : Int) + 1 < (n : Int) := by have := HNN.out; omega
     have z2 : (q : Int) < (n : Int) := by have := HNN.out; omega
     have p0 : (0 : Int) ≤ (q : Int) + 1 := by omega
     have e0 : ((q : Int) + 1).toNat = q + 1 := by omega
     have hki : (q : Int) < (i : Int) - 1 := by omega
     obtain ⟨xp, hxp⟩ : ∃ x, dk[q]! = x := ⟨_, rfl⟩
     obtain ⟨xq, hxq⟩ : ∃ x, dk[q + 1]! = x := ⟨_, rfl⟩
     have l1 := HV2.out.ld1 HR.out hs0 Tryz.prog (q + 1) (by omega)
     have l2 := HV2.out.ld1 HR.out hs0 Tryz.prog (q) (by omega)
     have s1 := HV2.out.st1 HR.out hs0 Tryz.prog (q) (by omega) xq
     have s2 := HV2.out.st2 HR.out hs0 Tryz.prog (q) (q + 1) (by omega) (by omega) xq xp
     have hsw := HV2.out.swapped HR.out (q) (q + 1) (by omega) (by omega)
     rw [hxq] at l1 hsw
     rw [hxp] at l2 hsw
     have hsJ : (enc xp).length = k := HR.out.hk _
     have hsP : (enc xq).length = k := HR.out.hk _
     have HSW := Az.mk hsw
     clear hsw hxp hxq
     obtain ⟨cJ, hcJ⟩ : ∃ c, c = enc xp := ⟨_, rfl⟩
     obtain ⟨cP, hcP⟩ : ∃ c, c = enc xq := ⟨_, rfl⟩
     rw [← hcP] at s1 s2 l1 hsP
     rw [← hcJ] at l2 s2 hsJ
     have CC : Az (cJ = enc xp ∧ cP = enc xq) := ⟨⟨hcJ, hcP⟩⟩
     clear hcJ hcP
     go_wp2_with fail
     go_big_region_o
     all_goals go_wp2
     go_roundw
     case rel => exact ⟨q + 1, swp dk q (q + 1), by go_num, by omega, by omega, ⟨HNX.out.1⟩, ⟨HNX.out.2⟩, ⟨by rw [CC.out.1, CC.out.2]; exact HSW.out⟩⟩
     case measure => simp [intOf]; omega
    ·have hki : ¬ ((q : Int) < (i : Int) - 1) := by omega
     go_wp2
     refine bodyPost_ret (results_none rfl _ _ _) rfl ?_
     obtain rfl : q + 1 = i := by omega
     have e1 := HAM.out
     subst e1
     refine ⟨rfl, dk, HQ.out, ins_left hO sR (by omega) hj ?_ ?_ HRT.out, HV2.out⟩
     ·rcases H1.out with h | h
      ·exact .inl h
      ·by_cases h3 : q + 1 = a + 1
       ·exact .inl h3
       ·exact .inr (by rw [← hP a (q + 1 - 1) (Nat.le_refl _) (by omega) (by omega) (by omega)]; exact h)
     ·rcases H2.out with h | h
      ·exact .inl h
      ·by_cases h3 : q + 1 = b
       ·exact .inl h3
       ·exact .inr (by rw [← hP a (q + 1) (Nat.le_refl _) (by omega) (by omega) (by omega)]; exact h)
theorem sym_right {enc : α → List Value} {k : Nat} {w0 : World} {blk off : Nat} {d0 : Array α} (zE : ∀ w, (Go.sizeOf 149).run Tryz.prog w = .ok k w) (R : RowK enc k w0 blk off d0)
 (cf : α → α → Int) (tot : α → α → Bool) (hO : SWO tot) (g : Nat) (cb : Array Value) (eg : ∀ args w, (callFunc g args).run Tryz.prog w = .ok (.enter g args) w) (hcmp : CmpLays Tryz.prog g cb enc k cf blk off d0.size w0)
 (a m b n cap : Nat) (d : Array α) (W : World) (hW : SWK enc k w0 blk off d W) (hs : d.size = d0.size) (hn : n = d.size) (ham : a + 1 < m) (hmb : b = m + 1) (hb : b ≤ d.size) (hsz : d.size < 4611686018427387904)
 (sL : SortedIn tot a m d) (hP : Pre (ltOf cf) tot a m b d) :
 Calls Tryz.prog 195 #[.slice (some ⟨blk, off, none⟩) n cap, .int .i64 a, .int .i64 m, .int .i64 b, .func (.func g) #[] cb] W fun e w' => e = .returned (.tuple #[]) ∧ ∃ d', PermIn a b d d' ∧ SortedIn tot a b d' ∧ SWK enc k w0 blk off d' w' := by
 have aE := aggM
 have mixed : Tryz.prog.follows .mixedOrders = true := by kernel_rfl
 have u22 := run_underlying (P := Tryz.prog) Tryz.underlying146
 have HR := Az.mk R
 have HW := Az.mk hW
 have HS := Az.mk hs
 have HNN := Az.mk hn
 have HCM := Az.mk hcmp
 clear hW hs R hn hcmp
 have hma : ((m : Int) - a == 1) = false := by rw [beq_eq_false_iff_ne]; omega
 have hmc : ((b : Int) - m == 1) = true := by rw [beq_iff_eq]; omega
 have HMB := Az.mk hmb
 have hmb2 : m < b := by omega
 have HSD := HS
 clear hmb
 go_enter Tryz.func195, Tryz.ntmps195
 go_wp2
 go_loopw [14, 15, 16] (fun vi vj _ wr => ∃ (i j : Nat), vi = .int .i64 i ∧ vj = .int .i64 j ∧ a ≤ i ∧ i ≤ j ∧ j ≤ m ∧ Az (i = a ∨ ltOf cf d[m]! d[i - 1]! = false) ∧ Az (j = m ∨ ltOf cf d[m]! d[j]! = true) ∧ Az (SWK enc k w0 blk off d wr))
  (fun vi vj _ _ => (intOf vj).toNat - (intOf vi).toNat)
 case atStart => exact ⟨a, m, rfl, rfl, Nat.le_refl _, by omega, Nat.le_refl _, ⟨.inl rfl⟩, ⟨.inl rfl⟩, HW⟩
 case round =>
  obtain ⟨i, j, rfl, rfl, hi, hij, hj, H1, H2, HV⟩ := hrel
  by_cases hlt : i < j
  ·obtain ⟨h, hh⟩ : ∃ h : Nat, (i + j) / 2 = h := ⟨_, rfl⟩
   have hhI : ((i : Int) + j) / 2 = (h : Int) := by omega
   have hh1 : i ≤ h := by omega
   have hh2 : h < j := by omega
   have hhn : (h : Int) < (n : Int) := by have := HNN.out; omega
   have han : (m : Int) < (n : Int) := by have := HNN.out; omega
   clear hh
   obtain ⟨xm, hxm⟩ : ∃ x, d[m]! = x := ⟨_, rfl⟩
   obtain ⟨xh, hxh⟩ : ∃ x, d[h]! = x := ⟨_, rfl⟩
   have lj := fun n' os' => HV.out.ld HR.out HSD.out Tryz.prog (m) (by omega) n' os'
   have lp := fun n' os' => HV.out.ld HR.out HSD.out Tryz.prog (h) (by omega) n' os'
   rw [hxm] at lj
   rw [hxh] at lp
   have hcg := fun n' os' => HV.out.cmp HCM.out HSD.out xm xh n' os'
   by_cases hlv : cf xm xh < 0
   ·have HLV : Az (ltOf cf d[m]! d[h]! = true) := ⟨by rw [hxm, hxh]; exact dTz hlv⟩
    go_wp2_with fail
    go_quiet_grown (first | (go_at_fn g; refine Calls.grown_of (hcg _ _)))
    go_wp2
    go_roundw
    case rel => exact ⟨i, h, rfl, rfl, by omega, by omega, by omega, H1, ⟨.inr HLV.out⟩, ⟨HV.out.grown _ _⟩⟩
    case measure => simp [intOf]; omega
   ·have HLV : Az (ltOf cf d[m]! d[h]! = false) := ⟨by rw [hxm, hxh]; exact dFz hlv⟩
    have hlv2 : 0 ≤ cf xm xh := by omega
    have hlv3 : decide (cf xm xh < 0) = false := dFz hlv
    go_wp2_with fail
    go_quiet_grown (first | (go_at_fn g; refine Calls.grown_of (hcg _ _)))
    go_wp2
    go_roundw
    case rel => exact ⟨h + 1, j, by go_num, rfl, by omega, by omega, hj, ⟨.inr (by rw [Nat.add_sub_cancel]; exact HLV.out)⟩, H2, ⟨HV.out.grown _ _⟩⟩
    case measure => simp [intOf]; omega
  ·obtain rfl : i = j := by omega
   have hi2 : a ≤ i := hi
   go_wp2
   go_loopw [17] (fun vk wr2 => ∃ (q : Nat) (dk : Array α), vk = .int .i64 q ∧ i ≤ q ∧ q ≤ m ∧ Az (Rot q m (m + 1) d dk) ∧ Az (PermIn a b d dk) ∧ Az (SWK enc k w0 blk off dk wr2))
    (fun vk _ => (intOf vk).toNat)
   case atStart => exact ⟨m, d, rfl, by omega, Nat.le_refl _, ⟨Rot.none_left _ _ _⟩, ⟨permIn_refl _ _ _⟩, HV⟩
   case round =>
    obtain ⟨q, dk, rfl, hiq, hqm, HRT, HQ, HV2⟩ := hrel
    have hsk : dk.size = d.size := HRT.out.1
    have hs0 : dk.size = d0.size := hsk.trans HS.out
    by_cases hk : i < q
    ·obtain ⟨r, rfl⟩ : ∃ r, q = r + 1 := ⟨q - 1, by omega⟩
     have HNX : Az (Rot r m (m + 1) d (swp dk (r + 1) r) ∧ PermIn a b d (swp dk (r + 1) r)) := ⟨Rot.bubble_down HRT.out (by omega) hqm (by omega), permIn_trans _ _ _ _ _ HQ.out (swp_permIn _ _ _ _ _ (by omega) (by omega) (by omega) (by omega) (by omega))⟩
     have z1 : (r : Int) + 1 < (n : Int) := by have := HNN.out; omega
     have z2 : (r : Int) < (n : Int) := by have := HNN.out; omega
     have p0 : (0 : Int) ≤ (r : Int) + 1 := by omega
     have e0 : ((r : Int) + 1).toNat = r + 1 := by omega
     have hki : (i : Int) < (r : Int) + 1 := by omega
     obtain ⟨xp, hxp⟩ : ∃ x, dk[r + 1]! = x := ⟨_, rfl⟩
     obtain ⟨xq, hxq⟩ : ∃ x, dk[r]! = x := ⟨_, rfl⟩
     have l1 := HV2.out.ld1 HR.out hs0 Tryz.prog (r) (by omega)
     have l2 := HV2.out.ld1 HR.out hs0 Tryz.prog (r + 1) (by omega)
     have s1 := HV2.out.st1 HR.out hs0 Tryz.prog (r + 1) (by omega) xq
     have s2 := HV2.out.st2 HR.out hs0 Tryz.prog (r + 1) (r) (by omega) (by omega) xq xp
     have hsw := HV2.out.swapped HR.out (r + 1) (r) (by omega) (by omega)
     rw [hxq] at l1 hsw
     rw [hxp] at l2 hsw
     have hsJ : (enc xp).length = k := HR.out.hk _
     have hsP : (enc xq).length = k := HR.out.hk _
     have HSW := Az.mk hsw
     clear hsw hxp hxq
     obtain ⟨cJ, hcJ⟩ : ∃ c, c = enc xp := ⟨_, rfl⟩
     obtain ⟨cP, hcP⟩ : ∃ c, c = enc xq := ⟨_, rfl⟩
     rw [← hcP] at s1 s2 l1 hsP
     rw [← hcJ] at l2 s2 hsJ
     have CC : Az (cJ = enc xp ∧ cP = enc xq) := ⟨⟨hcJ, hcP⟩⟩
     clear hcJ hcP
     go_wp2_with fail
     go_big_region_o
     all_goals go_wp2
     go_roundw
     case rel => exact ⟨r, swp dk (r + 1) r, by first | rfl | go_num | (congr 1; omega), by omega, by omega, ⟨HNX.out.1⟩, ⟨HNX.out.2⟩, ⟨by rw [CC.out.1, CC.out.2]; exact HSW.out⟩⟩
     case measure => first | (simp [intOf]; done) | (simp [intOf]; omega)
    ·have hki : ¬ ((i : Int) < (q : Int)) := by omega
     go_wp2
     refine bodyPost_ret (results_none rfl _ _ _) rfl ?_
     obtain rfl : q = i := by omega
     have e1 := HMB.out
     subst e1
     refine ⟨rfl, dk, HQ.out, ins_right hO sL hi hj ?_ ?_ HRT.out, HV2.out⟩
     ·rcases H1.out with h | h
      ·exact .inl h
      ·by_cases h3 : q = a
       ·exact .inl h3
       ·exact .inr (by rw [← hP (q - 1) m (by omega) (by omega) (by omega) (by omega)]; exact h)
     ·rcases H2.out with h | h
      ·exact .inl h
      ·by_cases h3 : q = m
       ·exact .inl h3
       ·exact .inr (by rw [← hP q m (by omega) (by omega) (by omega) (by omega)]; exact h)
end Go.Proofs.YtnohcnneflogjaaGreat.M.St
