/- The ranges of statuses and of mappings, plainly. -/
import Derived.Test.YtnohcnneflogjaaGreatK12
import Derived.Test.YtnohcnneflogjaaGreatK21
import Derived.Test.YtnohcnneflogjaaGreatK26
set_option maxHeartbeats 4000000
set_option linter.unusedVariables false
set_option linter.unusedSimpArgs false
namespace Go.Proofs.YtnohcnneflogjaaGreat.M
open Go.RowKit
def pointsX (lo s v : Int) (n : Nat) : List Rng := (List.range n).map (fun (k : Nat) => ⟨lo + k * s, lo + k * s, v⟩)
def cntX (x : Rec) : Nat := ((x.hi - x.lo) / stepI x).toNat + 1
def rngsX (x : Rec) (v : Int) : List Rng := if stepI x = 1 then [⟨x.lo, x.hi, v⟩] else pointsX x.lo (stepI x) v (cntX x)
theorem pointsX_succ (lo s v : Int) (n : Nat) : pointsX lo s v (n + 1) = pointsX lo s v n ++ [⟨lo + n * s, lo + n * s, v⟩] := by simp [pointsX, List.range_succ]
theorem pointsX_length (lo s v : Int) (n : Nat) : (pointsX lo s v n).length = n := by simp [pointsX]
theorem cnt_iff {x : Rec} (hR : Right x) (q : Nat) : x.lo + q * stepI x ≤ x.hi ↔ q < cntX x := by
 have hs := hR.step
 have hl := hR.low
 have h1 : 0 ≤ (x.hi - x.lo) / stepI x := Int.ediv_nonneg (by omega) (by omega)
 have h2 := Int.le_ediv_iff_mul_le (a := (q : Int)) (b := x.hi - x.lo) (c := stepI x) (by omega)
 unfold cntX
 omega
theorem rngsX_mem {x : Rec} (hR : Right x) {v : Int} {r : Rng} (h : r ∈ rngsX x v) : r.val = v ∧ x.lo ≤ r.lo ∧ r.lo ≤ r.hi ∧ r.hi ≤ x.hi ∧ ∀ c, r.has c = true → speaksB x c = true := by
 have hs := hR.step
 have hl := hR.low
 unfold rngsX at h
 split at h
 ·rename_i h1
  rw [List.mem_singleton] at h
  subst h
  refine ⟨rfl, Int.le_refl _, hl.2.1, Int.le_refl _, fun c hc => ?_⟩
  rw [has_iff] at hc
  rw [speaks_iff hR, h1]
  exact ⟨hc.1, hc.2, Int.emod_one _⟩
 ·unfold pointsX at h
  obtain ⟨k, hk, rfl⟩ := List.mem_map.1 h
  have hk' := (cnt_iff hR k).2 (List.mem_range.1 hk)
  have hn : 0 ≤ (k : Int) * stepI x := Int.mul_nonneg (by omega) (by omega)
  refine ⟨rfl, ?_, Int.le_refl _, hk', fun c hc => ?_⟩
  ·show x.lo ≤ x.lo + _
   omega
  ·rw [has_iff] at hc
   have hc' : c = x.lo + k * stepI x := by
    have h1 : x.lo + k * stepI x ≤ c := hc.1
    have h2 : c ≤ x.lo + k * stepI x := hc.2
    omega
   rw [speaks_iff hR]
   refine ⟨by omega, by omega, ?_⟩
   rw [hc', show x.lo + k * stepI x - x.lo = k * stepI x by omega]
   exact Int.mul_emod_left _ _
theorem rngsX_has {x : Rec} (hR : Right x) (v : Int) {c : Int} (h : speaksB x c = true) : ∃ r ∈ rngsX x v, r.has c = true := by
 have hs := hR.step
 rw [speaks_iff hR] at h
 unfold rngsX
 split
 ·exact ⟨_, List.mem_singleton.2 rfl, by rw [has_iff]; exact ⟨h.1, h.2.1⟩⟩
 ·have h1 : (c - x.lo) / stepI x * stepI x = c - x.lo := by
   have := Int.mul_ediv_add_emod (c - x.lo) (stepI x)
   rw [h.2.2, Int.mul_comm] at this
   omega
  have h0 : 0 ≤ (c - x.lo) / stepI x := Int.ediv_nonneg (by omega) (by omega)
  obtain ⟨k, hk⟩ := Int.eq_ofNat_of_zero_le h0
  rw [hk] at h1
  have hlt : k < cntX x := (cnt_iff hR k).1 (by omega)
  refine ⟨⟨x.lo + k * stepI x, x.lo + k * stepI x, v⟩, ?_, ?_⟩
  ·unfold pointsX
   exact List.mem_map.2 ⟨k, List.mem_range.2 hlt, rfl⟩
  ·rw [has_iff]
   show x.lo + k * stepI x ≤ c ∧ c ≤ x.lo + k * stepI x
   omega
theorem rngsX_two {x : Rec} (hR : Right x) (v : Int) : (rngsX x v).Pairwise (fun a b => a.hi < b.lo ∨ b.hi < a.lo) := by
 have hs := hR.step
 unfold rngsX
 split
 ·exact List.pairwise_singleton _ _
 ·unfold pointsX
  rw [List.pairwise_map]
  refine List.Pairwise.imp (fun {a b} h => ?_) List.pairwise_lt_range
  left
  show x.lo + a * stepI x < x.lo + b * stepI x
  have : (a : Int) * stepI x < b * stepI x := Int.mul_lt_mul_of_pos_right (by omega) (by omega)
  omega
def rngsF (g : Nat → Rec → Int) : Nat → List Rec → List Rng
 | _, [] => []
 | j, x :: r => rngsX x (g j x) ++ rngsF g (j + 1) r
theorem rngsF_snoc (g : Nat → Rec → Int) : ∀ (L : List Rec) (j : Nat) (x : Rec), rngsF g j (L ++ [x]) = rngsF g j L ++ rngsX x (g (j + L.length) x)
 | [], j, x => by simp [rngsF]
 | y :: L, j, x => by
   show rngsX y (g j y) ++ rngsF g (j + 1) (L ++ [x]) = rngsX y (g j y) ++ rngsF g (j + 1) L ++ _
   rw [rngsF_snoc g L (j + 1) x, List.length_cons, List.append_assoc, show j + 1 + L.length = j + (L.length + 1) by omega]
theorem rngsF_mem {g : Nat → Rec → Int} : ∀ {L : List Rec} {j : Nat} {r : Rng}, r ∈ rngsF g j L → ∃ (k : Nat) (x : Rec), L[k]? = some x ∧ r ∈ rngsX x (g (j + k) x)
 | [], j, r, h => by cases h
 | y :: L, j, r, h => by
   rcases List.mem_append.1 h with h | h
   ·exact ⟨0, y, rfl, h⟩
   ·obtain ⟨k, x, h1, h2⟩ := rngsF_mem h
    exact ⟨k + 1, x, h1, by rw [show j + (k + 1) = j + 1 + k by omega]; exact h2⟩
structure Lone (L : List Rec) : Prop where
 right : ∀ x ∈ L, Right x
 two : L.Pairwise (fun a b => ∀ c, speaksB a c = true → speaksB b c = false)
theorem rngsF_apart {g : Nat → Rec → Int} : ∀ {L : List Rec} (hL : Lone L) (j : Nat) (hv : ∀ (k : Nat) (x : Rec), L[k]? = some x → 0 ≤ g (j + k) x ∧ g (j + k) x ≤ 65535), Apart (rngsF g j L)
 | [], hL, j, hv => ⟨fun r h => (by cases h), fun r h => (by cases h), List.Pairwise.nil⟩
 | x :: L, hL, j, hv => by
   have hp := List.pairwise_cons.1 hL.two
   have hL' : Lone L := ⟨fun y hy => hL.right y (by simp [hy]), hp.2⟩
   have ih := rngsF_apart hL' (j + 1) (fun k y hk => by have := hv (k + 1) y hk; rwa [show j + (k + 1) = j + 1 + k by omega] at this)
   have hR := hL.right x (by simp)
   have hv0 := hv 0 x rfl
   rw [Nat.add_zero] at hv0
   refine ⟨fun r hr => ?_, fun r hr => ?_, ?_⟩
   ·rcases List.mem_append.1 hr with hr | hr
    ·obtain ⟨_, h1, h2, h3, _⟩ := rngsX_mem hR hr
     have := hR.low
     omega
    ·exact ih.low r hr
   ·rcases List.mem_append.1 hr with hr | hr
    ·obtain ⟨h0, _⟩ := rngsX_mem hR hr
     rw [h0]
     exact hv0
    ·exact ih.val r hr
   ·refine List.pairwise_append.2 ⟨rngsX_two hR _, ih.two, fun a ha b hb => ?_⟩
    obtain ⟨_, a1, a2, a3, a4⟩ := rngsX_mem hR ha
    obtain ⟨k, y, hy, hb'⟩ := rngsF_mem hb
    have hyL : y ∈ L := List.mem_of_getElem? hy
    obtain ⟨_, b1, b2, b3, b4⟩ := rngsX_mem (hL'.right y hyL) hb'
    rcases Int.lt_or_le a.hi b.lo with h | h
    ·exact .inl h
    ·rcases Int.lt_or_le b.hi a.lo with h' | h'
     ·exact .inr h'
     ·exfalso
      have h1 := a4 (max a.lo b.lo) (by rw [has_iff]; omega)
      have h2 := b4 (max a.lo b.lo) (by rw [has_iff]; omega)
      rw [hp.1 y hyL _ h1] at h2
      cases h2
theorem valR_app_no {L M : List Rng} {d c : Int} (h : ∀ r ∈ L, r.has c = false) : valR (L ++ M) d c = valR M d c := by
 unfold valR
 rw [List.find?_append, List.find?_eq_none.2 (fun r hr => by rw [h r hr]; decide)]
 rfl
theorem valR_app_yes {L M : List Rng} {d c v : Int} (h : ∃ r ∈ L, r.has c = true) (hv : ∀ r ∈ L, r.val = v) : valR (L ++ M) d c = v := by
 unfold valR
 obtain ⟨r, hr, hc⟩ := h
 cases hf : L.find? (fun r => r.has c) with
 | none =>
   rw [List.find?_eq_none] at hf
   exact absurd hc (hf r hr)
 | some s =>
   rw [List.find?_append, hf]
   exact hv s (List.mem_of_find?_eq_some hf)
theorem valR_rngsF_none {g : Nat → Rec → Int} {c : Int} : ∀ {L : List Rec} (hR : ∀ x ∈ L, Right x) (j : Nat), (∀ x ∈ L, speaksB x c = false) → valR (rngsF g j L) 0 c = 0
 | [], _, j, _ => rfl
 | x :: L, hR, j, h => by
   show valR (rngsX x (g j x) ++ rngsF g (j + 1) L) 0 c = 0
   rw [valR_app_no (fun r hr => ?_)]
   ·exact valR_rngsF_none (fun y hy => hR y (by simp [hy])) (j + 1) (fun y hy => h y (by simp [hy]))
   ·cases hc : r.has c with
    | false => rfl
    | true =>
      have := (rngsX_mem (hR x (by simp)) hr).2.2.2.2 c hc
      rw [h x (by simp)] at this
      cases this
theorem valR_rngsF_at {g : Nat → Rec → Int} {c : Int} : ∀ {L : List Rec} (hL : Lone L) (j k : Nat) {x : Rec}, L[k]? = some x → speaksB x c = true → valR (rngsF g j L) 0 c = g (j + k) x
 | [], _, j, k, x, h, _ => by simp at h
 | y :: L, hL, j, 0, x, h, hs => by
   cases h
   exact valR_app_yes (rngsX_has (hL.right y (by simp)) _ hs) (fun r hr => (rngsX_mem (hL.right y (by simp)) hr).1)
 | y :: L, hL, j, k + 1, x, h, hs => by
   have hp := List.pairwise_cons.1 hL.two
   have hx : L[k]? = some x := h
   show valR (rngsX y (g j y) ++ rngsF g (j + 1) L) 0 c = _
   rw [valR_app_no (fun r hr => ?_)]
   ·rw [valR_rngsF_at ⟨fun z hz => hL.right z (by simp [hz]), hp.2⟩ (j + 1) k hx hs, show j + (k + 1) = j + 1 + k by omega]
   ·cases hc : r.has c with
    | false => rfl
    | true =>
      have h1 := (rngsX_mem (hL.right y (by simp)) hr).2.2.2.2 c hc
      rw [hp.1 x (List.mem_of_getElem? hx) c h1] at hs
      cases hs
theorem Apart.length_le {L : List Rng} (h : Apart L) : L.length ≤ 1114112 := by
 have hp := List.mergeSort_perm L (fun a b => decide (a.lo ≤ b.lo))
 have hs := List.pairwise_mergeSort (le := fun (a b : Rng) => decide (a.lo ≤ b.lo)) (fun a b c h1 h2 => by simp at *; omega) (fun a b => by simp; omega) L
 have ho := h.ordered hp (fun i j a b hij ha hb => by
  have := List.pairwise_iff_getElem.1 hs i j (List.getElem?_eq_some_iff.1 ha).1 (List.getElem?_eq_some_iff.1 hb).1 hij
  rw [(List.getElem?_eq_some_iff.1 ha).2, (List.getElem?_eq_some_iff.1 hb).2] at this
  simpa using this)
 rw [← hp.length_eq]
 generalize L.mergeSort (fun a b => decide (a.lo ≤ b.lo)) = M at ho
 have key : ∀ (i : Nat) (a : Rng), M[i]? = some a → (i : Int) ≤ a.lo := by
  intro i
  induction i with
  | zero => intro a ha; have := ho.low a (List.mem_of_getElem? ha); omega
  | succ i ih =>
    intro a ha
    have hi : i < M.length := by have := (List.getElem?_eq_some_iff.1 ha).1; omega
    have h1 := ih M[i] (List.getElem?_eq_getElem hi)
    have h2 := ho.lt (Nat.lt_succ_self i) (List.getElem?_eq_getElem hi) ha
    have h3 := ho.low M[i] (List.getElem_mem hi)
    omega
 rcases Nat.eq_zero_or_pos M.length with h0 | h0
 ·omega
 ·have hl : M.length - 1 < M.length := by omega
  have h1 := key (M.length - 1) M[M.length - 1] (List.getElem?_eq_getElem hl)
  have h2 := ho.low M[M.length - 1] (List.getElem_mem hl)
  omega
def pS (x : Rec) : Bool := decide (statN x.kind ≠ 0)
def pM (x : Rec) : Bool := decide (statN x.kind = 3 ∨ statN x.kind = 4)
theorem fam_stat {x : Rec} (hR : Right x) : fam x.kind = 1 ↔ statN x.kind ≠ 0 := by
 have h := hR.kind
 generalize x.kind = q at h
 rcases fam_cases h.1 h.2 with rfl | rfl | rfl | rfl | rfl | rfl | rfl | rfl | rfl | rfl | rfl | rfl | rfl | rfl | rfl <;> decide
theorem pM_pS {x : Rec} (h : pM x = true) : pS x = true := by
 unfold pM at h
 unfold pS
 rw [decide_eq_true_eq] at *
 omega
theorem lone_of {T : List Rec} (hG : Good T) (p : Rec → Bool) (hp : ∀ x ∈ T, p x = true → fam x.kind = 1) : Lone (T.filter p) := by
 refine ⟨fun x hx => hG.right x (List.mem_filter.1 hx).1, ?_⟩
 have h1 : (T.filter p).Pairwise (fun a b => clashB a b = false) := hG.two.sublist List.filter_sublist
 refine List.Pairwise.imp_of_mem (fun {a b} ha hb h c hc => ?_) h1
 have ha' := List.mem_filter.1 ha
 have hb' := List.mem_filter.1 hb
 have fa := hp a ha'.1 ha'.2
 have fb := hp b hb'.1 hb'.2
 have h15 : a.kind ≠ 15 := fun e => by rw [e] at fa; exact absurd fa (by decide)
 rw [clash_same (by rw [fa, fb]) h15] at h
 cases hs : speaksB b c with
 | false => rfl
 | true => rw [(meetB_iff a b).2 ⟨c, hc, hs⟩] at h; cases h
def rngsS (T : List Rec) : List Rng := rngsF (fun _ x => statN x.kind) 0 (T.filter pS)
def rngsW (T : List Rec) : List Rng := rngsF (fun j _ => (j : Int) + 1) 0 (T.filter pM)
theorem statN_le (k : Int) : 0 ≤ statN k ∧ statN k ≤ 4 := by
 unfold statN
 repeat' split
 all_goals decide
theorem rngsS_apart {T : List Rec} (hG : Good T) : Apart (rngsS T) := by
 refine rngsF_apart (lone_of hG pS (fun x hx h => (fam_stat (hG.right x hx)).2 (by simpa [pS] using h))) 0 (fun k x hx => ?_)
 have := statN_le x.kind
 show 0 ≤ statN x.kind ∧ statN x.kind ≤ 65535
 omega
theorem rngsW_apart {T : List Rec} (hG : Good T) : Apart (rngsW T) := by
 refine rngsF_apart (lone_of hG pM (fun x hx h => (fam_stat (hG.right x hx)).2 (by simpa [pS] using pM_pS h))) 0 (fun k x hx => ?_)
 have h1 := (List.getElem?_eq_some_iff.1 hx).1
 have h2 : (T.filter pM).length ≤ T.length := List.length_filter_le _ _
 have := hG.len
 show 0 ≤ ((0 + k : Nat) : Int) + 1 ∧ ((0 + k : Nat) : Int) + 1 ≤ 65535
 omega
def statF (T : List Rec) (c : Int) : Int := match findR T 1 c with | some r => statN r.kind | none => 0
theorem find_filter {T : List Rec} (hG : Good T) {p : Rec → Bool} {r : Rec} {c : Int} (h : findR T 1 c = some r) (hp : p r = true) : ∃ k : Nat, (T.filter p)[k]? = some r ∧ speaksB r c = true := by
 obtain ⟨h1, h2⟩ := findR_some h
 obtain ⟨k, hk⟩ := List.mem_iff_getElem?.1 (List.mem_filter.2 ⟨h1, hp⟩)
 unfold hitB at h2
 simp only [Bool.and_eq_true] at h2
 exact ⟨k, hk, h2.2⟩
theorem speaks_found {T : List Rec} (hG : Good T) {x : Rec} {c : Int} (hx : x ∈ T) (hf : fam x.kind = 1) (hs : speaksB x c = true) : findR T 1 c = some x := by
 obtain ⟨i, hi⟩ := List.mem_iff_getElem?.1 hx
 exact hG.find_at hi (by unfold hitB; rw [dTz hf, hs]; rfl) (by decide)
theorem rngsS_val {T : List Rec} (hG : Good T) (c : Int) : valR (rngsS T) 0 c = statF T c := by
 have hL := lone_of hG pS (fun x hx h => (fam_stat (hG.right x hx)).2 (by simpa [pS] using h))
 unfold statF
 cases h : findR T 1 c with
 | some r =>
   obtain ⟨h1, h2⟩ := findR_some h
   have hf : fam r.kind = 1 := by
    unfold hitB at h2
    simp only [Bool.and_eq_true, decide_eq_true_eq] at h2
    exact h2.1
   obtain ⟨k, hk, hs⟩ := find_filter hG h (p := pS) (by simpa [pS] using (fam_stat (hG.right r h1)).1 hf)
   exact valR_rngsF_at hL 0 k hk hs
 | none =>
   refine valR_rngsF_none hL.right 0 (fun x hx => ?_)
   cases hs : speaksB x c with
   | false => rfl
   | true =>
     have hx' := List.mem_filter.1 hx
     rw [speaks_found hG hx'.1 ((fam_stat (hG.right x hx'.1)).2 (by simpa [pS] using hx'.2)) hs] at h
     cases h
theorem rngsW_none {T : List Rec} (hG : Good T) {c : Int} (h : ∀ r, findR T 1 c = some r → pM r = false) : valR (rngsW T) 0 c = 0 := by
 have hL := lone_of hG pM (fun x hx h => (fam_stat (hG.right x hx)).2 (by simpa [pS] using pM_pS h))
 refine valR_rngsF_none hL.right 0 (fun x hx => ?_)
 cases hs : speaksB x c with
 | false => rfl
 | true =>
   have hx' := List.mem_filter.1 hx
   have := h x (speaks_found hG hx'.1 ((fam_stat (hG.right x hx'.1)).2 (by simpa [pS] using pM_pS hx'.2)) hs)
   rw [hx'.2] at this
   cases this
theorem rngsW_some {T : List Rec} (hG : Good T) {c : Int} {r : Rec} (h : findR T 1 c = some r) (hp : pM r = true) : ∃ k : Nat, (T.filter pM)[k]? = some r ∧ valR (rngsW T) 0 c = (k : Int) + 1 := by
 have hL := lone_of hG pM (fun x hx h => (fam_stat (hG.right x hx)).2 (by simpa [pS] using pM_pS h))
 obtain ⟨k, hk, hs⟩ := find_filter hG h (p := pM) hp
 refine ⟨k, hk, ?_⟩
 have := valR_rngsF_at (g := fun j _ => (j : Int) + 1) hL 0 k hk hs
 rw [Nat.zero_add] at this
 exact this
theorem take_filter_at {T : List Rec} {i : Nat} {x : Rec} (hx : T[i]? = some x) (p : Rec → Bool) : (T.take (i + 1)).filter p = if p x then (T.take i).filter p ++ [x] else (T.take i).filter p := by
 rw [take_succ_at hx, List.filter_append]
 cases h : p x <;> simp [h]
theorem good_take {T : List Rec} (hG : Good T) (i : Nat) : Good (T.take i) :=
 ⟨fun x hx => hG.right x (List.mem_of_mem_take hx), fun x hx => hG.wf x (List.mem_of_mem_take hx), by have := hG.len; rw [List.length_take]; omega, hG.two.sublist (List.take_sublist i T)⟩
theorem rngsS_step {T : List Rec} {i : Nat} {x : Rec} (hx : T[i]? = some x) : rngsS (T.take (i + 1)) = if pS x then rngsS (T.take i) ++ rngsX x (statN x.kind) else rngsS (T.take i) := by
 unfold rngsS
 rw [take_filter_at hx]
 split
 ·rw [rngsF_snoc]
 ·rfl
theorem rngsW_step {T : List Rec} {i : Nat} {x : Rec} (hx : T[i]? = some x) : rngsW (T.take (i + 1)) = if pM x then rngsW (T.take i) ++ rngsX x ((((T.take i).filter pM).length : Int) + 1) else rngsW (T.take i) := by
 unfold rngsW
 rw [take_filter_at hx]
 split
 ·rw [rngsF_snoc, Nat.zero_add]
 ·rfl
end Go.Proofs.YtnohcnneflogjaaGreat.M
