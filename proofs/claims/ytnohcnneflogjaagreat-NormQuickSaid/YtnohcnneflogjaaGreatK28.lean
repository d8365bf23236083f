/- What a property's ranges say, plainly: what the records of its family say. -/
import Derived.Test.YtnohcnneflogjaaGreatK16
import Derived.Test.YtnohcnneflogjaaGreatK21
import Derived.Test.YtnohcnneflogjaaGreatK25
set_option maxHeartbeats 4000000
set_option linter.unusedVariables false
set_option linter.unusedSimpArgs false
namespace Go.Proofs.YtnohcnneflogjaaGreat.M
open Go.RowKit
def ofKind (T : List Rec) (k : Int) : List Rec := T.filter (fun x => decide (x.kind = k))
def valOf (g : Rec → Int) (P : List Rec) (j : Nat) : Int := g (P.getD j default)
theorem rngsOf_map (g : Rec → Int) (P0 : List Rec) : ∀ (P : List Rec) (j : Nat), (∀ q x, P[q]? = some x → P0[j + q]? = some x) → rngsOf (valOf g P0) j P = P.map (fun x => ⟨x.lo, x.hi, g x⟩)
 | [], j, _ => rfl
 | x :: P, j, h => by
   have h0 := h 0 x rfl
   show (⟨x.lo, x.hi, valOf g P0 j⟩ : Rng) :: rngsOf (valOf g P0) (j + 1) P = _
   rw [rngsOf_map g P0 P (j + 1) (fun q y hq => by rw [show j + 1 + q = j + (q + 1) by omega]; exact h (q + 1) y hq)]
   have : valOf g P0 j = g x := by
    unfold valOf
    rw [List.getD, show P0[j]? = some x from h0]
    rfl
   rw [this]
   rfl
theorem rngsOf_val (g : Rec → Int) (P : List Rec) : rngsOf (valOf g P) 0 P = P.map (fun x => ⟨x.lo, x.hi, g x⟩) := rngsOf_map g P P 0 (fun q x h => by rw [Nat.zero_add]; exact h)
theorem clash_disj {a b : Rec} (ha : Right a) (hb : Right b) (hk : a.kind = b.kind) (h4 : a.kind ≠ 4) (h15 : a.kind ≠ 15) (h : clashB a b = false) : a.hi < b.lo ∨ b.hi < a.lo := by
 rw [clash_same (by rw [hk]) h15, meet_plain ha hb h4 (by rw [← hk]; exact h4), decide_eq_false_iff_not] at h
 have := ha.low
 have := hb.low
 omega
theorem apart_kind {T : List Rec} (hG : Good T) (k : Int) (h4 : k ≠ 4) (h15 : k ≠ 15) (f : Nat → Int) (hf : ∀ j, j < (ofKind T k).length → 0 ≤ f j ∧ f j ≤ 65535) : Apart (rngsOf f 0 (ofKind T k)) := by
 have hk : ∀ x ∈ ofKind T k, x ∈ T ∧ x.kind = k := fun x hx => by
  unfold ofKind at hx
  rw [List.mem_filter] at hx
  exact ⟨hx.1, by simpa using hx.2⟩
 have hp : (ofKind T k).Pairwise (fun a b => a.hi < b.lo ∨ b.hi < a.lo) := by
  have h1 : (ofKind T k).Pairwise (fun a b => clashB a b = false) := hG.two.sublist List.filter_sublist
  refine List.Pairwise.imp_of_mem (fun {a b} ha hb h => ?_) h1
  have h2 := hk a ha
  have h3 := hk b hb
  exact clash_disj (hG.right a h2.1) (hG.right b h3.1) (by rw [h2.2, h3.2]) (by rw [h2.2]; exact h4) (by rw [h2.2]; exact h15) h
 have key : ∀ (P : List Rec) (j : Nat), (∀ x ∈ P, Right x) → P.Pairwise (fun a b => a.hi < b.lo ∨ b.hi < a.lo) → (∀ q, q < P.length → 0 ≤ f (j + q) ∧ f (j + q) ≤ 65535) →
  (∀ r ∈ rngsOf f j P, ∃ x ∈ P, r.lo = x.lo ∧ r.hi = x.hi ∧ 0 ≤ r.val ∧ r.val ≤ 65535) ∧ (rngsOf f j P).Pairwise (fun a b => a.hi < b.lo ∨ b.hi < a.lo) := by
  intro P
  induction P with
  | nil => intro j _ _ _; exact ⟨fun r hr => by simp [rngsOf] at hr, List.Pairwise.nil⟩
  | cons x P ih =>
    intro j hR hP hv
    rw [List.pairwise_cons] at hP
    obtain ⟨h1, h2⟩ := ih (j + 1) (fun y hy => hR y (by simp [hy])) hP.2 (fun q hq => by rw [show j + 1 + q = j + (q + 1) by omega]; exact hv (q + 1) (by simp; omega))
    have hv0 := hv 0 (by simp)
    rw [Nat.add_zero] at hv0
    refine ⟨fun r hr => ?_, ?_⟩
    ·rcases List.mem_cons.1 hr with rfl | hr
     ·exact ⟨x, by simp, rfl, rfl, hv0⟩
     ·obtain ⟨y, hy, h3⟩ := h1 r hr
      exact ⟨y, by simp [hy], h3⟩
    ·refine List.Pairwise.cons (fun r hr => ?_) h2
     obtain ⟨y, hy, h3, h4, _⟩ := h1 r hr
     have := hP.1 y hy
     show x.hi < r.lo ∨ r.hi < x.lo
     rw [h3, h4]
     exact this
 obtain ⟨h1, h2⟩ := key (ofKind T k) 0 (fun x hx => hG.right x (hk x hx).1) hp (fun q hq => by rw [Nat.zero_add]; exact hf q hq)
 refine ⟨fun r hr => ?_, fun r hr => ?_, h2⟩
 ·obtain ⟨x, hx, h3, h4, _⟩ := h1 r hr
  have := (hG.right x (hk x hx).1).low
  omega
 ·obtain ⟨x, hx, _, _, h5⟩ := h1 r hr
  exact h5
theorem valR_find (g : Rec → Int) (T : List Rec) (k fk : Int) (h4 : k ≠ 4) (hf : ∀ x ∈ T, fam x.kind = fk ↔ x.kind = k) (c : Int) (h0 : 0 ≤ c) (h1 : c ≤ 1114111) :
 valR ((ofKind T k).map (fun x => ⟨x.lo, x.hi, g x⟩)) 0 c = match findR T fk c with | some r => g r | none => 0 := by
 have key : ((ofKind T k).map (fun x => (⟨x.lo, x.hi, g x⟩ : Rng))).find? (fun r => r.has c) = (findR T fk c).map (fun x => (⟨x.lo, x.hi, g x⟩ : Rng)) := by
  unfold findR ofKind
  rw [List.find?_map, List.find?_filter]
  congr 1
  have : ∀ x ∈ T, (decide (x.kind = k) && ((fun r : Rng => r.has c) ∘ fun x => (⟨x.lo, x.hi, g x⟩ : Rng)) x) = hitB fk c x := by
   intro x hx
   unfold hitB speaksB
   by_cases hk : x.kind = k
   ·have h5 : fam x.kind = fk := (hf x hx).2 hk
    have h6 : x.kind ≠ 4 := by rw [hk]; exact h4
    rw [dTz hk, dTz h5, dTz h0, dTz h1, dTz h6]
    simp [Rng.has]
   ·have h5 : ¬ fam x.kind = fk := fun e => hk ((hf x hx).1 e)
    rw [dFz hk, dFz h5]
    rfl
  clear hf
  induction T with
  | nil => rfl
  | cons y T ih =>
    have dec : ∀ a b : Bool, decide (a = true ∧ b = true) = (a && b) := by decide
    rw [List.find?_cons, List.find?_cons, dec, this y (by simp), ih (fun x hx => this x (by simp [hx]))]
 unfold valR
 rw [key]
 cases findR T fk c <;> rfl
theorem fam_one {T : List Rec} (hG : Good T) {k fk : Int} (hk : (k = 6 ∧ fk = 2) ∨ (k = 9 ∧ fk = 4) ∨ (k = 10 ∧ fk = 5) ∨ (k = 11 ∧ fk = 6) ∨ (k = 12 ∧ fk = 7) ∨ (k = 13 ∧ fk = 8) ∨ (k = 14 ∧ fk = 9)) : ∀ x ∈ T, fam x.kind = fk ↔ x.kind = k := by
 intro x hx
 have h := (hG.right x hx).kind
 generalize x.kind = q at h
 rcases fam_cases h.1 h.2 with rfl | rfl | rfl | rfl | rfl | rfl | rfl | rfl | rfl | rfl | rfl | rfl | rfl | rfl | rfl <;> rcases hk with ⟨rfl, rfl⟩ | ⟨rfl, rfl⟩ | ⟨rfl, rfl⟩ | ⟨rfl, rfl⟩ | ⟨rfl, rfl⟩ | ⟨rfl, rfl⟩ | ⟨rfl, rfl⟩ <;> decide
end Go.Proofs.YtnohcnneflogjaaGreat.M
namespace Go.Proofs.YtnohcnneflogjaaGreat.M
open Go.RowKit
theorem blkF_congr {F G : Int → Int} (h : ∀ c, 0 ≤ c → c ≤ 1114111 → F c = G c) {k : Nat} (hk : k < 17408) : blkF F k = blkF G k := by
 unfold blkF
 apply List.map_congr_left
 intro j hj
 have := List.mem_range.1 hj
 exact h _ (by omega) (by omega)
theorem canonB_congr {F G : Int → Int} (h : ∀ c, 0 ≤ c → c ≤ 1114111 → F c = G c) : ∀ {n : Nat}, n ≤ 17408 → canonB F n = canonB G n
 | 0, _ => rfl
 | n + 1, hn => by
   show (if _ then _ else _) = (if _ then _ else _)
   rw [canonB_congr h (show n ≤ 17408 by omega), blkF_congr h (show n < 17408 by omega)]
theorem TrieFrom.congr {H : Nat} {w : World} {b : Nat} {F G : Int → Int} (h : TrieFrom H w b F) (hFG : ∀ c, 0 ≤ c → c ≤ 1114111 → F c = G c) : TrieFrom H w b G := by
 obtain ⟨gi, vb, base, h1, h2, h3, h4⟩ := h
 have hc := canonB_congr hFG (Nat.le_refl 17408)
 refine ⟨gi, vb, base, h1, h2.congr (fun k hk => ?_), by rw [← hc]; exact h3, h4⟩
 unfold idxB
 rw [hc, blkF_congr hFG hk]
def numF (T : List Rec) (fk : Int) (g : Rec → Int) (c : Int) : Int := match findR T fk c with | some r => g r | none => 0
theorem valR_num {T : List Rec} (hG : Good T) (g : Rec → Int) {k fk : Int} (h4 : k ≠ 4) (hf : ∀ x ∈ T, fam x.kind = fk ↔ x.kind = k) (c : Int) (h0 : 0 ≤ c) (h1 : c ≤ 1114111) :
 valR (rngsOf (valOf g (ofKind T k)) 0 (ofKind T k)) 0 c = numF T fk g c := by
 rw [rngsOf_val, valR_find g T k fk h4 hf c h0 h1]
 rfl
theorem clos_plain {P : List Rec} {f : Nat → Int} {g : Nat} (h : ∀ (j : Nat) (x : Rec) (A : Option Addr) (c : Nat) (w : World), P[j]? = some x → Calls Tryz.prog g #[recV x A c] w fun e w' => e = .returned (.int .i64 (f j)) ∧ Up w w') :
 Clos P f g #[] (fun _ _ S => ∀ k, ¬ S k) :=
 ⟨fun h k hk => (h k hk).elim, fun h _ _ => h, fun {j w S x} A c hI hx => by
  refine (h j x A c w hx).mono ?_
  rintro e w' ⟨rfl, hu⟩
  exact ⟨rfl, S, hI, Chg.of_up hu, fun k hk => .inl hk⟩⟩
theorem valOf_at {P : List Rec} {j : Nat} {x : Rec} (g : Rec → Int) (h : P[j]? = some x) : valOf g P j = g x := by
 unfold valOf
 rw [List.getD, h]
 rfl
theorem valOf_mem {T : List Rec} {k : Int} (g : Rec → Int) {j : Nat} (hj : j < (ofKind T k).length) : ∃ x ∈ T, x.kind = k ∧ valOf g (ofKind T k) j = g x := by
 have hx := List.getElem?_eq_getElem hj
 have hm := List.getElem_mem hj
 unfold ofKind at hm
 rw [List.mem_filter] at hm
 exact ⟨_, hm.1, by simpa using hm.2, valOf_at g hx⟩
theorem chg_none {w w' : World} (h : Chg (fun _ => False) w w') : Up w w' := ⟨h.os, h.tape, h.output, h.size, fun k hk => h.block k hk id⟩
theorem prop_class (A : Option Addr) (c : Nat) (T : List Rec) (w : World) (hT : Table w A T) (hG : Good T) :
 Calls Tryz.prog 119 #[.slice A T.length c, .int .i64 6, .func (.func 120) #[] #[]] w fun e w' => ∃ b H, e = .returned (.pointer (some ⟨b, 0, none⟩)) ∧ TrieFrom H w' b (numF T 2 (·.n)) ∧ w.heap.size ≤ H ∧ Up w w' := by
 refine (property_val1 A c T 6 (valOf (·.n) (ofKind T 6)) #[] _ (fun _ => False) w hT hG.len (clos_plain fun j x A c w hx => ?_) (fun _ h => h) (fun _ _ _ h => h) (apart_kind hG 6 (by decide) (by decide) _ (fun j hj => ?_))).mono ?_
 ·rw [valOf_at (P := ofKind T 6) (·.n) hx]
  exact valN1_calls x A c w
 ·obtain ⟨x, hx, hk, hv⟩ := valOf_mem (T := T) (k := 6) (·.n) hj
  rw [hv]
  have hf := (hG.right x hx).fits
  unfold fitsB at hf
  rw [if_neg (by omega), if_neg (by omega), if_neg (by omega), if_pos hk] at hf
  simp only [Bool.and_eq_true, decide_eq_true_eq] at hf
  omega
 ·rintro e w' ⟨b, S, H, rfl, htr, hH, _, _, _, hch⟩
  exact ⟨b, H, rfl, htr.congr (fun x h0 h1 => valR_num hG (·.n) (by decide) (fam_one hG (.inl ⟨rfl, rfl⟩)) x h0 h1), hH, chg_none hch⟩
theorem prop_bidi (A : Option Addr) (c : Nat) (T : List Rec) (w : World) (hT : Table w A T) (hG : Good T) :
 Calls Tryz.prog 119 #[.slice A T.length c, .int .i64 9, .func (.func 121) #[] #[]] w fun e w' => ∃ b H, e = .returned (.pointer (some ⟨b, 0, none⟩)) ∧ TrieFrom H w' b (numF T 4 (·.n)) ∧ w.heap.size ≤ H ∧ Up w w' := by
 refine (property_val2 A c T 9 (valOf (·.n) (ofKind T 9)) #[] _ (fun _ => False) w hT hG.len (clos_plain fun j x A c w hx => ?_) (fun _ h => h) (fun _ _ _ h => h) (apart_kind hG 9 (by decide) (by decide) _ (fun j hj => ?_))).mono ?_
 ·rw [valOf_at (P := ofKind T 9) (·.n) hx]
  exact valN2_calls x A c w
 ·obtain ⟨x, hx, hk, hv⟩ := valOf_mem (T := T) (k := 9) (·.n) hj
  rw [hv]
  have hf := (hG.right x hx).fits
  unfold fitsB at hf
  rw [if_neg (by omega), if_neg (by omega), if_neg (by omega), if_neg (by omega), if_neg (by omega), if_neg (by omega), if_pos hk] at hf
  simp only [Bool.and_eq_true, decide_eq_true_eq] at hf
  omega
 ·rintro e w' ⟨b, S, H, rfl, htr, hH, _, _, _, hch⟩
  exact ⟨b, H, rfl, htr.congr (fun x h0 h1 => valR_num hG (·.n) (by decide) (fam_one hG (.inr (.inl ⟨rfl, rfl⟩))) x h0 h1), hH, chg_none hch⟩
theorem prop_join (A : Option Addr) (c : Nat) (T : List Rec) (w : World) (hT : Table w A T) (hG : Good T) :
 Calls Tryz.prog 119 #[.slice A T.length c, .int .i64 10, .func (.func 122) #[] #[]] w fun e w' => ∃ b H, e = .returned (.pointer (some ⟨b, 0, none⟩)) ∧ TrieFrom H w' b (numF T 5 (·.n)) ∧ w.heap.size ≤ H ∧ Up w w' := by
 refine (property_val3 A c T 10 (valOf (·.n) (ofKind T 10)) #[] _ (fun _ => False) w hT hG.len (clos_plain fun j x A c w hx => ?_) (fun _ h => h) (fun _ _ _ h => h) (apart_kind hG 10 (by decide) (by decide) _ (fun j hj => ?_))).mono ?_
 ·rw [valOf_at (P := ofKind T 10) (·.n) hx]
  exact valN3_calls x A c w
 ·obtain ⟨x, hx, hk, hv⟩ := valOf_mem (T := T) (k := 10) (·.n) hj
  rw [hv]
  have hf := (hG.right x hx).fits
  unfold fitsB at hf
  rw [if_neg (by omega), if_neg (by omega), if_neg (by omega), if_neg (by omega), if_neg (by omega), if_neg (by omega), if_neg (by omega), if_pos hk] at hf
  simp only [Bool.and_eq_true, decide_eq_true_eq] at hf
  omega
 ·rintro e w' ⟨b, S, H, rfl, htr, hH, _, _, _, hch⟩
  exact ⟨b, H, rfl, htr.congr (fun x h0 h1 => valR_num hG (·.n) (by decide) (fam_one hG (.inr (.inr (.inl ⟨rfl, rfl⟩)))) x h0 h1), hH, chg_none hch⟩
theorem prop_mark (A : Option Addr) (c : Nat) (T : List Rec) (w : World) (hT : Table w A T) (hG : Good T) :
 Calls Tryz.prog 119 #[.slice A T.length c, .int .i64 11, .func (.func 123) #[] #[]] w fun e w' => ∃ b H, e = .returned (.pointer (some ⟨b, 0, none⟩)) ∧ TrieFrom H w' b (numF T 6 (fun _ => 1)) ∧ w.heap.size ≤ H ∧ Up w w' := by
 refine (property_val4 A c T 11 (valOf (fun _ => 1) (ofKind T 11)) #[] _ (fun _ => False) w hT hG.len (clos_plain fun j x A c w hx => ?_) (fun _ h => h) (fun _ _ _ h => h) (apart_kind hG 11 (by decide) (by decide) _ (fun j hj => ?_))).mono ?_
 ·rw [valOf_at (P := ofKind T 11) (fun _ => 1) hx]
  exact valN4_calls x A c w
 ·obtain ⟨x, hx, hk, hv⟩ := valOf_mem (T := T) (k := 11) (fun _ => 1) hj
  rw [hv]
  omega
 ·rintro e w' ⟨b, S, H, rfl, htr, hH, _, _, _, hch⟩
  exact ⟨b, H, rfl, htr.congr (fun x h0 h1 => valR_num hG (fun _ => 1) (by decide) (fam_one hG (.inr (.inr (.inr (.inl ⟨rfl, rfl⟩))))) x h0 h1), hH, chg_none hch⟩
end Go.Proofs.YtnohcnneflogjaaGreat.M
