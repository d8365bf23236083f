/- NormHonest, walked. (printed by mknlaws.py) -/
import Derived.Test.YtnohcnneflogjaaGreatPNorm4
set_option maxHeartbeats 16000000
set_option maxRecDepth 1000000
set_option linter.unusedVariables false
set_option linter.unusedSimpArgs false
namespace Go.Proofs.YtnohcnneflogjaaGreat.M.Nm
open Go.Shelf Go.RowKit Go.Lib Go.Sort St
theorem foundF_two {T : List Rec} {c : Int} (h : foundF T c = 2) : badF T c = true := by
 unfold foundF at h
 split at h
 ·assumption
 ·split at h <;> cases h
theorem worst_zero {T : List Rec} : ∀ (x : List Int) (m : Int), (m = 0 ∨ m = 1 ∨ m = 2) → worstF T x m = 0 → m = 0 ∧ ∀ c ∈ x, foundF T c = 0
 | [], m, _, h => ⟨h, fun c hc => by cases hc⟩
 | c :: x, m, hm, h => by
   have h3 := foundF_cases T c
   have ih := worst_zero (T := T) x (max m (foundF T c)) (by omega) h
   have h1 := ih.1
   refine ⟨by omega, fun d hd => ?_⟩
   rcases List.mem_cons.1 hd with rfl | hd
   ·omega
   ·exact ih.2 d hd
theorem worst_two {T : List Rec} : ∀ (x : List Int) (m : Int), (m = 0 ∨ m = 1 ∨ m = 2) → worstF T x m = 2 → m = 2 ∨ ∃ c ∈ x, foundF T c = 2
 | [], m, _, h => .inl h
 | c :: x, m, hm, h => by
   have h3 := foundF_cases T c
   rcases worst_two (T := T) x (max m (foundF T c)) (by omega) h with h1 | ⟨d, hd, h1⟩
   ·rcases (by omega : m = 2 ∨ foundF T c = 2) with h2 | h2
    ·exact .inl h2
    ·exact .inr ⟨c, List.mem_cons_self .., h2⟩
   ·exact .inr ⟨d, List.mem_cons_of_mem _ hd, h1⟩
theorem calm_found {T : List Rec} {c : Int} (h : foundF T c = 0) : calmF T c = true := by
 unfold foundF at h
 unfold calmF
 cases hb : badF T c with
 | true => rw [hb] at h; cases h
 | false =>
   rw [hb] at h
   cases hs : secondF T (rd (fullL T c) 0) with
   | true => rw [hs] at h; cases h
   | false => rfl
theorem quick_yes {T : List Rec} (hF : Fine T) (x : List Int) (h : quickF T x = 2) : nfcF T x = x := by
 unfold quickF at h
 cases hs : sortedG (numF T 2 (·.n)) 0 x with
 | false =>
   rw [hs] at h
   have := (worst_zero (T := T) x 2 (by omega) (by have : 2 - worstF T x 2 = 2 := h; omega)).1
   cases this
 | true =>
   rw [hs] at h
   have := (worst_zero (T := T) x 0 (by omega) (by have : 2 - worstF T x 0 = 2 := h; omega)).2
   exact nfc_calm hF x (fun z hz => calm_found (this z hz)) hs
theorem quick_no {T : List Rec} (hF : Fine T) (x : List Int) (h : quickF T x = 0) : (∃ c ∈ x, badF T c = true) ∨ sortedG (numF T 2 (·.n)) 0 x = false := by
 unfold quickF at h
 cases hs : sortedG (numF T 2 (·.n)) 0 x with
 | false => exact .inr rfl
 | true =>
   rw [hs] at h
   rcases worst_two (T := T) x 0 (by omega) (by have : 2 - worstF T x 0 = 0 := h; omega) with h1 | ⟨c, hc, h1⟩
   ·cases h1
   ·exact .inl ⟨c, hc, foundF_two h1⟩
theorem quick_nfc {T : List Rec} (hF : Fine T) (x : List Int) : quickF T (nfcF T x) ≠ 0 := by
 intro h
 rcases quick_no hF _ h with ⟨c, hc, hb⟩ | hs
 ·rw [nfc_bad hF x c hc] at hb
  cases hb
 ·rw [nfc_sorted hF x] at hs
  cases hs
theorem quick_differ {T : List Rec} (hF : Fine T) (x : List Int) (h : quickF T x = 0) : x ≠ nfcF T x := fun e => quick_nfc hF x (by rw [← e]; exact h)
theorem quick_range (T : List Rec) (x : List Int) : quickF T x = 0 ∨ quickF T x = 1 ∨ quickF T x = 2 := by
 unfold quickF
 have := worstF_cases T x (if sortedG (numF T 2 (·.n)) 0 x then 0 else 2) (by split <;> simp)
 omega
theorem NormHonest_no (A : Option Addr) (c : Nat) (T : List Rec) (A1 : Option Addr) (n1 c1 : Nat) (w : World) (hT : Table w A T) (hW : ∀ x ∈ T, x.Wf) (hc : T.length ≤ c) (he : (checkE (T.take 150)).2 ≠ 0) :
 Calls Tryz.prog 8 #[.slice A T.length c, .slice A1 n1 c1] w fun e w' => e = .returned (.bool true) ∧ Up w w' := by
 have HM := Az.mk (Made_no A c T w hT hW hc he)
 clear hT hW hc he
 go_enter Tryz.func8, Tryz.ntmps8
 go_wp2_with (first | (go_at_call 21; (with_reducible refine HM.out.mono ?_); rintro e w1 ⟨rfl, hup1⟩) | (go_at_call 41; (with_reducible refine (told13_calls _).mono ?_); rintro e w2 ⟨rfl, hup2⟩))
 go_ret
 exact ⟨rfl, up_trans hup1 hup2⟩
theorem NormHonest_yes (A : Option Addr) (c : Nat) (T P : List Rec) (X1 : Option Addr) (x1 : List Int) (k1 : Nat) (w : World) (hP : T.take 150 = P) (hT : Table w A T) (hW : ∀ x ∈ T, x.Wf) (hc : T.length ≤ c) (he : (checkE P).2 = 0)
 (hI1 : Ints .i32 w X1 x1) (hx1 : x1.length < 4611686018427387904) (hc1 : x1.length ≤ k1) (hwf1 : ∀ z ∈ x1, (Lit.int .i32 z).wf = true) :
 Calls Tryz.prog 8 #[.slice A T.length c, .slice X1 x1.length k1] w fun e w' => e = .returned (.bool true) ∧ Up w w' := by
 have HM := Az.mk (Made_yes A c T P w hP hT hW hc he)
 have HF : Az (Fine P) := ⟨fine_of (fun x hx => hW x (by rw [← hP] at hx; exact List.mem_of_mem_take hx)) he⟩
 have HJ1 := Az.mk hI1
 have HX1 := Az.mk hx1
 have HXC1 := Az.mk hc1
 have HWF1 := Az.mk hwf1
 clear hT hW hc he hP hI1 hx1 hc1 hwf1
 obtain ⟨s, hs⟩ : ∃ s, x1.take 200 = s := ⟨_, rfl⟩
 have HsE := Az.mk hs
 have HsL : Az (s.length ≤ 200) := ⟨by rw [← hs, List.length_take]; omega⟩
 have HsR : Az (InI32 s) := ⟨fun z hz => St.wf_i32 (HWF1.out z (by rw [← hs] at hz; exact List.mem_of_mem_take hz))⟩
 have Hs2 : Az (s.length ≤ 65536) := ⟨by have := HsL.out; omega⟩
 have HsB : Az (s.length ≤ 35184372087808) := ⟨by have := HsL.out; omega⟩
 clear hs
 obtain ⟨v, hv⟩ : ∃ v, nfcF P s = v := ⟨_, rfl⟩
 have HvE := Az.mk hv
 have HvL : Az (v.length ≤ 6400) := ⟨by rw [← hv]; have := nfc_len HF.out s; have := HsL.out; omega⟩
 have HvR : Az (InI32 v) := ⟨by rw [← hv]; exact nfc_range HF.out HsR.out⟩
 have Hv2 : Az (v.length ≤ 65536) := ⟨by have := HvL.out; omega⟩
 have HvB : Az (v.length ≤ 35184372087808) := ⟨by have := HvL.out; omega⟩
 have HvS : Az ((v == v) = true) := ⟨by simp⟩
 clear hv
 obtain ⟨q, hq⟩ : ∃ q, quickF P s = q := ⟨_, rfl⟩
 obtain ⟨r, hr⟩ : ∃ r, quickF P v = r := ⟨_, rfl⟩
 obtain ⟨b, hb⟩ : ∃ b, (s == v) = b := ⟨_, rfl⟩
 have HQ := Az.mk hq
 have HR := Az.mk hr
 have HB := Az.mk hb
 have hr0 : r ≠ 0 := by rw [← hr, ← HvE.out]; exact quick_nfc HF.out s
 have h2 : q = 2 → b = true := fun h => by rw [← hb, ← HvE.out, quick_yes HF.out s (hq.trans h)]; simp
 have h0 : q = 0 → b = false := fun h => by rw [← hb, ← HvE.out]; exact beq_eq_false_iff_ne.2 (quick_differ HF.out s (hq.trans h))
 have hrr : (r != 0) = true := bne_iff_ne.mpr hr0
 have hcs : (q = 2 ∧ b = true) ∨ (q = 0 ∧ b = false) ∨ q = 1 := by
  rcases quick_range P s with h | h | h
  ·rw [hq] at h; exact .inr (.inl ⟨h, h0 h⟩)
  ·rw [hq] at h; exact .inr (.inr h)
  ·rw [hq] at h; exact .inl ⟨h, h2 h⟩
 clear hq hr hb hr0 h2 h0
 rcases hcs with ⟨rfl, rfl⟩ | ⟨rfl, rfl⟩ | rfl
 rotate_left 2
 ·cases b with
  | true =>
    go_enter Tryz.func8, Tryz.ntmps8
    go_wp2_with (first | (go_at_call 26; (with_reducible refine (SameB_calls A2 A4 c2 c4 s v _ (HI2.out.up (up_trans HS3.out (up_trans HS4.out HS5.out))) (HI4.out.up HS5.out) HsB.out HvB.out _ HB.out).mono ?_); rintro e w6 ⟨rfl, hup⟩; have HS6 := Az.mk hup; clear hup) |
     (go_at_call 43; (with_reducible refine (Quick_calls (HD.out.up (up_trans HS2.out (up_trans HS3.out HS4.out))) HF.out A4 c4 v _ rfl HI4.out HvR.out Hv2.out r HR.out).mono ?_); rintro e w5 ⟨rfl, hup⟩; have HS5 := Az.mk hup; clear hup) |
     (go_at_call 44; (with_reducible refine (NFC_calls (HD.out.up (up_trans HS2.out HS3.out)) HF.out A2 c2 s _ rfl (HI2.out.up HS3.out) HsR.out Hs2.out v HvE.out).mono ?_); rintro e w4 ⟨A4, c4, rfl, _, hi, hup⟩; have HS4 := Az.mk hup; have HI4 := Az.mk hi; clear hup hi) |
     (go_at_call 43; (with_reducible refine (Quick_calls (HD.out.up HS2.out) HF.out A2 c2 s _ rfl HI2.out HsR.out Hs2.out _ HQ.out).mono ?_); rintro e w3 ⟨rfl, hup⟩; have HS3 := Az.mk hup; clear hup) |
     (go_at_call 42; (with_reducible refine (few13_ints X1 k1 x1 s 200 200 rfl _ (HJ1.out.up HS1.out) HX1.out HXC1.out (by decide) HsE.out).mono ?_); rintro e w2 ⟨A2, c2, rfl, hi, hup⟩; have HS2 := Az.mk hup; have HI2 := Az.mk hi; clear hup hi) |
     (go_at_call 21; (with_reducible refine (HM.out).mono ?_); rintro e w1 ⟨bd, D, A1, c1, rfl, hD, _, hup⟩; have HS1 := Az.mk hup; have HD := Az.mk hD; clear hup hD))
    go_ret
    exact ⟨rfl, (up_trans HS1.out (up_trans HS2.out (up_trans HS3.out (up_trans HS4.out (up_trans HS5.out HS6.out)))))⟩
  | false =>
    go_enter Tryz.func8, Tryz.ntmps8
    go_wp2_with (first | (go_at_call 26; (with_reducible refine (SameB_calls A2 A4 c2 c4 s v _ (HI2.out.up (up_trans HS3.out (up_trans HS4.out HS5.out))) (HI4.out.up HS5.out) HsB.out HvB.out _ HB.out).mono ?_); rintro e w6 ⟨rfl, hup⟩; have HS6 := Az.mk hup; clear hup) |
     (go_at_call 43; (with_reducible refine (Quick_calls (HD.out.up (up_trans HS2.out (up_trans HS3.out HS4.out))) HF.out A4 c4 v _ rfl HI4.out HvR.out Hv2.out r HR.out).mono ?_); rintro e w5 ⟨rfl, hup⟩; have HS5 := Az.mk hup; clear hup) |
     (go_at_call 44; (with_reducible refine (NFC_calls (HD.out.up (up_trans HS2.out HS3.out)) HF.out A2 c2 s _ rfl (HI2.out.up HS3.out) HsR.out Hs2.out v HvE.out).mono ?_); rintro e w4 ⟨A4, c4, rfl, _, hi, hup⟩; have HS4 := Az.mk hup; have HI4 := Az.mk hi; clear hup hi) |
     (go_at_call 43; (with_reducible refine (Quick_calls (HD.out.up HS2.out) HF.out A2 c2 s _ rfl HI2.out HsR.out Hs2.out _ HQ.out).mono ?_); rintro e w3 ⟨rfl, hup⟩; have HS3 := Az.mk hup; clear hup) |
     (go_at_call 42; (with_reducible refine (few13_ints X1 k1 x1 s 200 200 rfl _ (HJ1.out.up HS1.out) HX1.out HXC1.out (by decide) HsE.out).mono ?_); rintro e w2 ⟨A2, c2, rfl, hi, hup⟩; have HS2 := Az.mk hup; have HI2 := Az.mk hi; clear hup hi) |
     (go_at_call 21; (with_reducible refine (HM.out).mono ?_); rintro e w1 ⟨bd, D, A1, c1, rfl, hD, _, hup⟩; have HS1 := Az.mk hup; have HD := Az.mk hD; clear hup hD))
    go_ret
    exact ⟨rfl, (up_trans HS1.out (up_trans HS2.out (up_trans HS3.out (up_trans HS4.out (up_trans HS5.out HS6.out)))))⟩
 ·go_enter Tryz.func8, Tryz.ntmps8
  go_wp2_with (first | (go_at_call 26; (with_reducible refine (SameB_calls A2 A4 c2 c4 s v _ (HI2.out.up (up_trans HS3.out (up_trans HS4.out HS5.out))) (HI4.out.up HS5.out) HsB.out HvB.out _ HB.out).mono ?_); rintro e w6 ⟨rfl, hup⟩; have HS6 := Az.mk hup; clear hup) |
   (go_at_call 43; (with_reducible refine (Quick_calls (HD.out.up (up_trans HS2.out (up_trans HS3.out HS4.out))) HF.out A4 c4 v _ rfl HI4.out HvR.out Hv2.out r HR.out).mono ?_); rintro e w5 ⟨rfl, hup⟩; have HS5 := Az.mk hup; clear hup) |
   (go_at_call 44; (with_reducible refine (NFC_calls (HD.out.up (up_trans HS2.out HS3.out)) HF.out A2 c2 s _ rfl (HI2.out.up HS3.out) HsR.out Hs2.out v HvE.out).mono ?_); rintro e w4 ⟨A4, c4, rfl, _, hi, hup⟩; have HS4 := Az.mk hup; have HI4 := Az.mk hi; clear hup hi) |
   (go_at_call 43; (with_reducible refine (Quick_calls (HD.out.up HS2.out) HF.out A2 c2 s _ rfl HI2.out HsR.out Hs2.out _ HQ.out).mono ?_); rintro e w3 ⟨rfl, hup⟩; have HS3 := Az.mk hup; clear hup) |
   (go_at_call 42; (with_reducible refine (few13_ints X1 k1 x1 s 200 200 rfl _ (HJ1.out.up HS1.out) HX1.out HXC1.out (by decide) HsE.out).mono ?_); rintro e w2 ⟨A2, c2, rfl, hi, hup⟩; have HS2 := Az.mk hup; have HI2 := Az.mk hi; clear hup hi) |
   (go_at_call 21; (with_reducible refine (HM.out).mono ?_); rintro e w1 ⟨bd, D, A1, c1, rfl, hD, _, hup⟩; have HS1 := Az.mk hup; have HD := Az.mk hD; clear hup hD))
  go_ret
  exact ⟨rfl, (up_trans HS1.out (up_trans HS2.out (up_trans HS3.out (up_trans HS4.out (up_trans HS5.out HS6.out)))))⟩
 ·go_enter Tryz.func8, Tryz.ntmps8
  go_wp2_with (first | (go_at_call 26; (with_reducible refine (SameB_calls A2 A4 c2 c4 s v _ (HI2.out.up (up_trans HS3.out (up_trans HS4.out HS5.out))) (HI4.out.up HS5.out) HsB.out HvB.out _ HB.out).mono ?_); rintro e w6 ⟨rfl, hup⟩; have HS6 := Az.mk hup; clear hup) |
   (go_at_call 43; (with_reducible refine (Quick_calls (HD.out.up (up_trans HS2.out (up_trans HS3.out HS4.out))) HF.out A4 c4 v _ rfl HI4.out HvR.out Hv2.out r HR.out).mono ?_); rintro e w5 ⟨rfl, hup⟩; have HS5 := Az.mk hup; clear hup) |
   (go_at_call 44; (with_reducible refine (NFC_calls (HD.out.up (up_trans HS2.out HS3.out)) HF.out A2 c2 s _ rfl (HI2.out.up HS3.out) HsR.out Hs2.out v HvE.out).mono ?_); rintro e w4 ⟨A4, c4, rfl, _, hi, hup⟩; have HS4 := Az.mk hup; have HI4 := Az.mk hi; clear hup hi) |
   (go_at_call 43; (with_reducible refine (Quick_calls (HD.out.up HS2.out) HF.out A2 c2 s _ rfl HI2.out HsR.out Hs2.out _ HQ.out).mono ?_); rintro e w3 ⟨rfl, hup⟩; have HS3 := Az.mk hup; clear hup) |
   (go_at_call 42; (with_reducible refine (few13_ints X1 k1 x1 s 200 200 rfl _ (HJ1.out.up HS1.out) HX1.out HXC1.out (by decide) HsE.out).mono ?_); rintro e w2 ⟨A2, c2, rfl, hi, hup⟩; have HS2 := Az.mk hup; have HI2 := Az.mk hi; clear hup hi) |
   (go_at_call 21; (with_reducible refine (HM.out).mono ?_); rintro e w1 ⟨bd, D, A1, c1, rfl, hD, _, hup⟩; have HS1 := Az.mk hup; have HD := Az.mk hD; clear hup hD))
  go_ret
  exact ⟨rfl, (up_trans HS1.out (up_trans HS2.out (up_trans HS3.out (up_trans HS4.out (up_trans HS5.out HS6.out)))))⟩
end Go.Proofs.YtnohcnneflogjaaGreat.M.Nm
