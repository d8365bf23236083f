/- NormShort, walked. (printed by mknlaws.py) -/
import Derived.Test.YtnohcnneflogjaaGreatPNorm4
set_option linter.unusedVariables false
set_option linter.unusedSimpArgs false
namespace Go.Proofs.YtnohcnneflogjaaGreat.M.Nm
open Go.Shelf Go.RowKit Go.Lib Go.Sort St
set_option maxHeartbeats 16000000
set_option maxRecDepth 1000000
theorem noPair_at {T : List Rec} (hF : Fine T) : ∀ (l : List Int) (i : Nat) (a b : Int), noPair T l → l[i]? = some a → l[i + 1]? = some b → (compF T a b).2 = false
 | [], i, a, b, _, h, _ => by simp at h
 | [c], i, a, b, _, _, h => by simp at h
 | c :: d :: t, 0, a, b, h, h1, h2 => by
   have e1 : c = a := by simpa using h1
   have e2 : d = b := by simpa using h2
   subst e1
   subst e2
   cases hc : (compF T c d).2 with
   | false => rfl
   | true =>
     have h0 := h.1 (comp_yes hF (comp_eta hc)).2.2.2
     rw [hc] at h0
     cases h0
 | c :: d :: t, i + 1, a, b, h, h1, h2 => noPair_at hF (d :: t) i a b h.2 (by simpa using h1) (by simpa using h2)
theorem nfc_pos {T : List Rec} (hF : Fine T) (x : List Int) : decide (0 < (nfcF T x).length) = decide (0 < x.length) := by
 cases x with
 | nil => rfl
 | cons c x =>
   have h1 : 0 < (nfcF T (c :: x)).length := by
    refine cmp_len0 T _ (fun h => ?_) []
    have h2 : (nfdF T (c :: x)).length = 0 := by rw [h]; rfl
    unfold nfdF at h2
    rw [sortF_length] at h2
    unfold openX at h2
    rw [List.flatMap_cons, List.length_append] at h2
    exact (hF.full_shut c).2 (List.length_eq_zero_iff.1 (by omega))
   rw [decide_eq_true h1]
   exact (decide_eq_true (by simp)).symm
theorem NormShort_no (A : Option Addr) (c : Nat) (T : List Rec) (A1 : Option Addr) (n1 c1 : Nat) (w : World) (hT : Table w A T) (hW : ∀ x ∈ T, x.Wf) (hc : T.length ≤ c) (he : (checkE (T.take 150)).2 ≠ 0) :
 Calls Tryz.prog 10 #[.slice A T.length c, .slice A1 n1 c1] w fun e w' => e = .returned (.bool true) ∧ Up w w' := by
 have HM := Aside0.mk (Made_no A c T w hT hW hc he)
 clear hT hW hc he
 go_enter Tryz.func10, Tryz.ntmps10
 go_wp2_with (first | (go_at_call 21; (with_reducible refine HM.out.mono ?_); rintro e w1 ⟨rfl, hup1⟩) | (go_at_call 41; (with_reducible refine (told13_calls _).mono ?_); rintro e w2 ⟨rfl, hup2⟩))
 go_ret
 exact ⟨rfl, up_trans hup1 hup2⟩
theorem NormShort_yes (A : Option Addr) (c : Nat) (T P : List Rec) (X1 : Option Addr) (x1 : List Int) (k1 : Nat) (w : World) (hP : T.take 150 = P) (hT : Table w A T) (hW : ∀ x ∈ T, x.Wf) (hc : T.length ≤ c) (he : (checkE P).2 = 0)
 (hI1 : Ints .i32 w X1 x1) (hx1 : x1.length < 4611686018427387904) (hc1 : x1.length ≤ k1) (hwf1 : ∀ z ∈ x1, (Lit.int .i32 z).wf = true) :
 Calls Tryz.prog 10 #[.slice A T.length c, .slice X1 x1.length k1] w fun e w' => e = .returned (.bool true) ∧ Up w w' := by
 have HM := Aside0.mk (Made_yes A c T P w hP hT hW hc he)
 have HF : Aside0 (Fine P) := ⟨fine_of (fun x hx => hW x (by rw [← hP] at hx; exact List.mem_of_mem_take hx)) he⟩
 have HJ1 := Aside0.mk hI1
 have HX1 := Aside0.mk hx1
 have HXC1 := Aside0.mk hc1
 have HWF1 := Aside0.mk hwf1
 clear hT hW hc he hP hI1 hx1 hc1 hwf1
 obtain ⟨s, hs⟩ : ∃ s, x1.take 200 = s := ⟨_, rfl⟩
 have HsE := Aside0.mk hs
 have HsL : Aside0 (s.length ≤ 200) := ⟨by rw [← hs, List.length_take]; omega⟩
 have HsR : Aside0 (InI32 s) := ⟨fun z hz => St.wf_i32 (HWF1.out z (by rw [← hs] at hz; exact List.mem_of_mem_take hz))⟩
 have Hs2 : Aside0 (s.length ≤ 65536) := ⟨by have := HsL.out; omega⟩
 have HsB : Aside0 (s.length ≤ 35184372087808) := ⟨by have := HsL.out; omega⟩
 clear hs
 obtain ⟨v, hv⟩ : ∃ v, nfcF P s = v := ⟨_, rfl⟩
 have HvE := Aside0.mk hv
 have HvL : Aside0 (v.length ≤ 6400) := ⟨by rw [← hv]; have := nfc_len HF.out s; have := HsL.out; omega⟩
 have HvR : Aside0 (InI32 v) := ⟨by rw [← hv]; exact nfc_range HF.out HsR.out⟩
 have Hv2 : Aside0 (v.length ≤ 65536) := ⟨by have := HvL.out; omega⟩
 have HvB : Aside0 (v.length ≤ 35184372087808) := ⟨by have := HvL.out; omega⟩
 have HvS : Aside0 ((v == v) = true) := ⟨by simp⟩
 clear hv
 obtain ⟨p, hp⟩ : ∃ p, nfdF P s = p := ⟨_, rfl⟩
 have HpE := Aside0.mk hp
 have HpL : Aside0 (p.length ≤ 6400) := ⟨by rw [← hp]; have := nfd_len HF.out s; have := HsL.out; omega⟩
 have HpR : Aside0 (InI32 p) := ⟨by rw [← hp]; exact nfd_range HF.out HsR.out⟩
 have Hp2 : Aside0 (p.length ≤ 65536) := ⟨by have := HpL.out; omega⟩
 have HpB : Aside0 (p.length ≤ 35184372087808) := ⟨by have := HpL.out; omega⟩
 have HpS : Aside0 ((p == p) = true) := ⟨by simp⟩
 clear hp
 have E4 : Aside0 (sortF P (openX P s) = p) := ⟨HpE.out⟩
 have HNP : Aside0 (noPair P v) := ⟨by rw [← HvE.out]; exact nfc_noPair HF.out s⟩
 have d1 : decide ((v.length : Int) ≤ (p.length : Int)) = true := decide_eq_true (by
  have := (cmp_len P p none []).1
  have e : cmpF P p none [] = v := by rw [← HvE.out, ← HpE.out]; rfl
  rw [e] at this
  simp at this
  omega)
 have d2 : v.length ≤ p.length := by have := of_decide_eq_true d1; omega
 obtain ⟨g, hg⟩ : ∃ g, decide (0 < s.length) = g := ⟨_, rfl⟩
 have hg2 : decide (0 < v.length) = g := by rw [← hg, ← HvE.out]; exact nfc_pos HF.out s
 have HG : Aside0 (decide ((s.length : Int) > 0) = g ∧ decide ((v.length : Int) > 0) = g) := ⟨by rw [← hg]; congr 1; simp, by rw [← hg2]; congr 1; simp⟩
 have HG2 : Aside0 (decide (0 < s.length) = g ∧ decide (0 < v.length) = g) := ⟨hg, hg2⟩
 clear hg hg2
 go_enter Tryz.func10, Tryz.ntmps10
 go_wp2_with (first | (go_at_call 24; (with_reducible refine (NFD_i (HD.out.up (up_trans HS2.out HS3.out)) HF.out HF.out.wf A2 c2 s _ rfl (HI2.out.up HS3.out) HsR.out Hs2.out p E4.out).mono ?_); rintro e w4 ⟨A4, c4, rfl, _, hi, hup⟩; have HS4 := Aside0.mk hup; have HI4 := Aside0.mk hi; clear hup hi) |
  (go_at_call 44; (with_reducible refine (NFC_calls (HD.out.up HS2.out) HF.out A2 c2 s _ rfl HI2.out HsR.out Hs2.out v HvE.out).mono ?_); rintro e w3 ⟨A3, c3, rfl, _, hi, hup⟩; have HS3 := Aside0.mk hup; have HI3 := Aside0.mk hi; clear hup hi) |
  (go_at_call 42; (with_reducible refine (few13_ints X1 k1 x1 s 200 200 rfl _ (HJ1.out.up HS1.out) HX1.out HXC1.out (by decide) HsE.out).mono ?_); rintro e w2 ⟨A2, c2, rfl, hi, hup⟩; have HS2 := Aside0.mk hup; have HI2 := Aside0.mk hi; clear hup hi) |
  (go_at_call 21; (with_reducible refine (HM.out).mono ?_); rintro e w1 ⟨bd, D, A1, c1, rfl, hD, _, hup⟩; have HS1 := Aside0.mk hup; have HD := Aside0.mk hD; clear hup hD))
 have HU4 := Aside0.mk (up_trans HS1.out (up_trans HS2.out (up_trans HS3.out HS4.out)))
 have HD4 := Aside0.mk (HD.out.up (up_trans HS2.out (up_trans HS3.out HS4.out)))
 have HI3' : Aside0 (Ints .i32 w4 A3 v) := ⟨HI3.out.up HS4.out⟩
 go_loopg [13] (v.length - 1) (fun k v13 w' => ∃ i : Nat, v13 = .int .i64 i ∧ Aside0 (1 ≤ i ∧ i + k = v.length - 1 + 1) ∧ Aside0 (Up w4 w'))
 case atStart => exact ⟨1, rfl, ⟨Nat.le_refl _, by omega⟩, ⟨up_refl _⟩⟩
 case round =>
  obtain ⟨i, rfl, HI, HU⟩ := hrel
  cases gk with
  | zero =>
    have hlt : decide ((i : Int) < (v.length : Int)) = false := decide_eq_false (by have := HI.out; omega)
    have hlt1 : ¬ (i < v.length) := by have := HI.out; omega
    obtain ⟨e1, e2⟩ := HG.out
    obtain ⟨e3, e4⟩ := HG2.out
    cases g with
    | true =>
      have f1 : 0 < s.length := of_decide_eq_true e3
      have f2 : 0 < v.length := of_decide_eq_true e4
      clear e1 e2 e3 e4
      go_wp2
      go_ret
      exact ⟨rfl, up_trans HU4.out HU.out⟩
    | false =>
      have f1 : s.length = 0 := by have := of_decide_eq_false e3; omega
      have f2 : v.length = 0 := by have := of_decide_eq_false e4; omega
      have f3 : ¬ (0 < s.length) := by omega
      have f4 : ¬ (0 < v.length) := by omega
      clear e3 e4 f1 f2
      go_wp2
      go_ret
      exact ⟨rfl, up_trans HU4.out HU.out⟩
  | succ k2 =>
    have hi : i < v.length := by have := HI.out; omega
    have hlt : decide ((i : Int) < (v.length : Int)) = true := decide_eq_true (by omega)
    have z1 : (i : Int) < (v.length : Int) := by omega
    have z2 : (i : Int) < 100000 := by have := HvL.out; omega
    have z3 : 0 ≤ (i : Int) := by omega
    obtain ⟨m, hm⟩ : ∃ m, i - 1 = m := ⟨_, rfl⟩
    have hmi : i = m + 1 := by have := HI.out; omega
    have m1 : 0 ≤ (m : Int) := by omega
    have m2 : (m : Int) < (v.length : Int) := by omega
    have hw1 : wrap64 ((i : Int) - 1) = (m : Int) := by unfold wrap64; omega
    have hw2 : IntKind.i64.wrap ((i : Int) - 1) = (m : Int) := by rw [IntKind.wrap_i64]; omega
    obtain ⟨ad, hA, y1⟩ := HI3'.out.at_ m m1 m2
    obtain ⟨ad', hA', y2⟩ := HI3'.out.at_ i z3 z1
    rw [hA] at hA'
    cases hA'
    rw [Int.toNat_natCast] at y1 y2
    obtain ⟨a, ha⟩ : ∃ a, rd v (m : Int) = a := ⟨_, rfl⟩
    obtain ⟨b, hb⟩ : ∃ b, rd v (i : Int) = b := ⟨_, rfl⟩
    have HAR : Aside0 (-2147483648 ≤ a ∧ a ≤ 2147483647) := ⟨by rw [← ha]; exact HvR.out.rd m (by omega)⟩
    have HBR : Aside0 (-2147483648 ≤ b ∧ b ≤ 2147483647) := ⟨by rw [← hb]; exact HvR.out.rd i hi⟩
    obtain ⟨p', ok, hpk⟩ : ∃ p' ok, compF P a b = (p', ok) := ⟨_, _, rfl⟩
    have hok : ok = false := by
     have h := noPair_at HF.out v m a b HNP.out (by rw [List.getElem?_eq_getElem (by omega), ← ha, rd_elem v m (by omega)]) (by rw [← hmi, List.getElem?_eq_getElem hi, ← hb, rd_elem v i hi])
     rw [hpk] at h
     exact h
    subst hok
    have HPK := Aside0.mk hpk
    rw [ha] at y1
    rw [hb] at y2
    obtain ⟨_, ⟨a7, a8, a9, a10, a11⟩, _, _, _, _, _⟩ := HD4.out.all
    have HS0 : Aside0 (∀ W, Up w4 W → (fun w' => w'.cell? ⟨bd, 7, none⟩ = some (.map (some D.bo)) ∧ w'.cell? ⟨bd, 8, none⟩ = some (.map (some D.bf)) ∧ w'.cell? ⟨bd, 9, none⟩ = some (.map (some D.bl)) ∧ w'.cell? ⟨bd, 10, none⟩ = some (.map (some D.bc)) ∧ w'.cell? ⟨bd, 11, none⟩ = some (.map (some D.bs)) ∧ w'.cell? (ad.add m) = some (.int .i32 a) ∧ w'.cell? (ad.add i) = some (.int .i32 b)) W) := ⟨fun W hW => ⟨up_cell hW a7, up_cell hW a8, up_cell hW a9, up_cell hW a10, up_cell hW a11, up_cell hW y1, up_cell hW y2⟩⟩
    clear a7 a8 a9 a10 a11 y1 y2 ha hb hpk hm hmi hi
    subst hA
    go_wp2
    go_region_held3 (fun w' => w'.cell? ⟨bd, 7, none⟩ = some (.map (some D.bo)) ∧ w'.cell? ⟨bd, 8, none⟩ = some (.map (some D.bf)) ∧ w'.cell? ⟨bd, 9, none⟩ = some (.map (some D.bl)) ∧ w'.cell? ⟨bd, 10, none⟩ = some (.map (some D.bc)) ∧ w'.cell? ⟨bd, 11, none⟩ = some (.map (some D.bs)) ∧ w'.cell? (ad.add m) = some (.int .i32 a) ∧ w'.cell? (ad.add i) = some (.int .i32 b)) (first | exact HS0.out _ (up_drew HU.out) | exact HS0.out _ HV.out) (first | (go_at_call 46; (with_reducible refine ((HD4.out.up (up_drew HU.out)).Compose a b p' false HPK.out HAR.out.1 HAR.out.2 HBR.out.1 HBR.out.2).mono ?_); rintro e w5 ⟨rfl, hup⟩; have HV := Aside0.mk (up_trans (up_drew HU.out) hup); clear hup))
    go_wp2
    go_quiet (fail)
    go_wp2
    go_roundg k2
    case measure => have := HI.out; omega
    case rel => exact ⟨i + 1, by go_num, ⟨by omega, by have := HI.out; omega⟩, ⟨up_drewN HV.out _⟩⟩
end Go.Proofs.YtnohcnneflogjaaGreat.M.Nm
