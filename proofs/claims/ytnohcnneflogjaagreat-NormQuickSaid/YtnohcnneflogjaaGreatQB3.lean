/- Chapter 13, walked: Compose, NFC, found, Quick, Is, Safe. -/
import Derived.Test.YtnohcnneflogjaaGreatK46
import Derived.Test.YtnohcnneflogjaaGreatQB2
import Derived.Test.YtnohcnneflogjaaGreatK38
import Derived.Test.YtnohcnneflogjaaGreatK37
set_option maxHeartbeats 16000000
set_option maxRecDepth 1000000
set_option linter.unusedVariables false
set_option linter.unusedSimpArgs false
namespace Go.Proofs.YtnohcnneflogjaaGreat.M.Nm
open Go.Shelf Go.RowKit Go.Lib Go.Sort St
attribute [local go_sem] max_two_int
def foundF (T : List Rec) (c : Int) : Int := if badF T c then 2 else if secondF T (rd (fullL T c) 0) then 1 else 0
theorem foundF_cases (T : List Rec) (c : Int) : foundF T c = 0 ∨ foundF T c = 1 ∨ foundF T c = 2 := by
 unfold foundF
 split
 ·exact .inr (.inr rfl)
 ·split
  ·exact .inr (.inl rfl)
  ·exact .inl rfl
theorem refused13_nil (A : Option Addr) (n c : Nat) (w : World) : Calls Tryz.prog 85 #[.pointer none, .slice A n c] w fun e w' => e = .returned (.int .i64 1) ∧ w = w' := by
 go_enter Tryz.func85, Tryz.ntmps85
 go_wp2
 go_ret
 exact ⟨rfl, rfl⟩
theorem refused13_ok (bd : Nat) (A : Option Addr) (n c : Nat) (w : World) (hn : n ≤ 65536) : Calls Tryz.prog 85 #[.pointer (some ⟨bd, 0, none⟩), .slice A n c] w fun e w' => e = .returned (.int .i64 0) ∧ w = w' := by
 have h1 : decide ((n : Int) > 65536) = false := dFz (by omega)
 have h2 : ¬ ((n : Int) > 65536) := by omega
 have h3 : ¬ (65536 < n) := by omega
 go_enter Tryz.func85, Tryz.ntmps85
 go_wp2
 go_ret
 exact ⟨rfl, rfl⟩
section
variable {H : Nat} {w : World} {bd : Nat} {D : DataV} {T : List Rec}
theorem nfc_small (hF : Fine T) {x : List Int} (hx : x.length ≤ 65536) : (nfdF T x).length ≤ 10000000 := by
 unfold nfdF
 rw [sortF_length]
 have := openX_len hF x
 omega
theorem nfc_len (hF : Fine T) (x : List Int) : (nfcF T x).length ≤ 32 * x.length := by
 have h := (cmp_len T (nfdF T x) none []).1
 have h2 : (nfdF T x).length ≤ 32 * x.length := by unfold nfdF; rw [sortF_length]; exact openX_len hF x
 simp at h
 unfold nfcF composeF
 omega
theorem NFC_calls (hD : DataAt H w bd D T) (hF : Fine T) (A : Option Addr) (c : Nat) (x : List Int) (n : Nat) (hn : x.length = n) (hI : Ints .i32 w A x) (hr : InI32 x) (hx : x.length ≤ 65536) (ys : List Int) (hys : nfcF T x = ys) :
 Calls Tryz.prog 44 #[.pointer (some ⟨bd, 0, none⟩), .slice A n c] w (RetI ys w) := by
 obtain ⟨q, hq⟩ : ∃ q, nfdF T x = q := ⟨_, rfl⟩
 have HQ : Az (composeF T q = ys) := ⟨by rw [← hq]; exact hys⟩
 have HQL : Az (q.length ≤ 10000000) := ⟨by rw [← hq]; exact nfc_small hF hx⟩
 have HQR : Az (InI32 q) := ⟨by rw [← hq]; exact sortF_range T (openX_range hF hF.wf hr)⟩
 have HN := Az.mk (NFD_i hD hF hF.wf A c x n hn hI hr hx q hq)
 have HX : Az (n ≤ 65536) := ⟨by rw [← hn]; exact hx⟩
 have HD := Az.mk hD
 have HF := Az.mk hF
 clear hD hF hI hr hys hx hq hn
 go_enter Tryz.func44, Tryz.ntmps44
 go_wp2_with (first | (go_at_call 85; (with_reducible refine (refused13_ok _ _ _ _ _ HX.out).mono ?_); rintro e w1 ⟨rfl, rfl⟩) | (go_at_call 24; (with_reducible refine HN.out.mono ?_); rintro e w1 ⟨A1, c1, rfl, _, hi, hup1⟩; have HI1 := Az.mk hi; have HU1 := Az.mk hup1; clear hi hup1) |
  (go_at_call 87; (with_reducible refine (composed_calls (HD.out.up HU1.out) HF.out A1 c1 q HI1.out HQR.out HQL.out ys HQ.out).mono ?_); rintro e w2 ⟨v2, rfl, hown2, hup2⟩; have HO2 := Az.mk hown2; have HU2 := Az.mk hup2; clear hown2 hup2))
 go_ret2
 exact RetRow0.ints ⟨_, rfl, own_base HO2.out HU1.out.size, up_trans HU1.out HU2.out⟩
end
theorem NFC_nil (A : Option Addr) (n c : Nat) (w : World) : Calls Tryz.prog 44 #[.pointer none, .slice A n c] w fun e w' => e = .returned (.tuple #[.slice none 0 0, .int .i64 1]) ∧ Up w w' := by
 go_enter Tryz.func44, Tryz.ntmps44
 go_wp2_with (first | (go_at_call 85; (with_reducible refine (refused13_nil _ _ _ _).mono ?_); rintro e w1 ⟨rfl, rfl⟩))
 go_ret2
 exact ⟨rfl, up_refl _⟩
theorem open_range {T : List Rec} (hF : Fine T) {c : Int} {l : List Int} (h : openF T c = l) (hc : -2147483648 ≤ c ∧ c ≤ 2147483647) : InI32 l := by
 subst h
 unfold openF
 split
 ·rename_i hs
  have h1 := syl_iff hs
  intro z hz
  rcases List.mem_cons.1 hz with rfl | hz
  ·unfold sylA; split <;> omega
  ·rw [List.mem_singleton.1 hz]; unfold sylB; split <;> omega
 ·split
  ·rename_i r hr
   exact fun z hz => St.wf_i32 ((hF.wf r (findR_some hr).1).to z hz)
  ·intro z hz; cases hz
theorem bad_nil {T : List Rec} {c : Int} (h : openF T c = []) : badF T c = false := shut_bad h
theorem bad_len {T : List Rec} {c : Int} (h0 : openF T c ≠ []) (h2 : (openF T c).length ≠ 2) : badF T c = true := by
 unfold badF againF
 rw [show (openF T c == []) = false from beq_eq_false_iff_ne.2 h0]
 split
 ·rename_i a b hab
  rw [hab] at h2
  exact absurd rfl h2
 ·rfl
theorem bad_two {T : List Rec} {c a b p : Int} {ok : Bool} (h : openF T c = [a, b]) (hc : compF T a b = (p, ok)) : badF T c = !(ok && decide (p = c)) := by
 unfold badF againF
 rw [h]
 show (!([a, b] == ([] : List Int)) && !((compF T a b).2 && decide ((compF T a b).1 = c))) = _
 rw [hc]
 rfl
theorem two_list {l : List Int} (h : l.length = 2) : ∃ a b, l = [a, b] := by
 match l, h with
 | [a, b], _ => exact ⟨a, b, rfl⟩
section
variable {H : Nat} {w : World} {bd : Nat} {D : DataV} {T : List Rec}
theorem found_tail (hD : DataAt H w bd D T) (hF : Fine T) (c : Int) (hc : -2147483648 ≤ c ∧ c ≤ 2147483647) : ∃ z u, fullL T c = z :: u ∧ (-2147483648 ≤ z ∧ z ≤ 2147483647) := by
 cases hf : fullL T c with
 | nil => exact absurd hf (hF.full_shut c).2
 | cons z u =>
   refine ⟨z, u, rfl, ?_⟩
   have := openX_range hF hF.wf (x := [c]) (fun y hy => by rw [List.mem_singleton.1 hy]; exact hc)
   exact this z (by unfold openX; simp [hf])
theorem found_calls (hD : DataAt H w bd D T) (hF : Fine T) (c : Int) (hc : -2147483648 ≤ c ∧ c ≤ 2147483647) (r : Int) (hr : foundF T c = r) :
 Calls Tryz.prog 86 #[.pointer (some ⟨bd, 0, none⟩), .int .i32 c] w fun e w' => e = .returned (.int .i64 r) ∧ Up w w' := by
 obtain ⟨z, u, hfu, hzr⟩ := found_tail hD hF c hc
 obtain ⟨b2, hb2⟩ : ∃ b2, secondF T z = b2 := ⟨_, rfl⟩
 have HFU := Az.mk hfu
 have HZR := Az.mk hzr
 have HB2 := Az.mk hb2
 have HD := Az.mk hD
 have HF := Az.mk hF
 have HC := Az.mk hc
 have hr0 : (if badF T c then 2 else if b2 then 1 else 0) = r := by
  rw [← hr]
  unfold foundF
  rw [hfu, show rd (z :: u) 0 = z from rfl, hb2]
 obtain ⟨l, hl⟩ : ∃ l, openF T c = l := ⟨_, rfl⟩
 have HO := Az.mk hl
 have HLR : Az (InI32 l) := ⟨open_range hF hl hc⟩
 have HOC := Az.mk (hD.Open hF.toGood c l hl hc.1 hc.2)
 obtain ⟨_, ⟨a7, a8, a9, a10, a11⟩, _, _, _, _, _⟩ := hD.all
 have HS0 : Az (∀ W, Up w W → (fun w' => w'.cell? ⟨bd, 7, none⟩ = some (.map (some D.bo)) ∧ w'.cell? ⟨bd, 8, none⟩ = some (.map (some D.bf)) ∧ w'.cell? ⟨bd, 9, none⟩ = some (.map (some D.bl)) ∧ w'.cell? ⟨bd, 10, none⟩ = some (.map (some D.bc)) ∧ w'.cell? ⟨bd, 11, none⟩ = some (.map (some D.bs))) W) := ⟨fun W hW => ⟨up_cell hW a7, up_cell hW a8, up_cell hW a9, up_cell hW a10, up_cell hW a11⟩⟩
 clear hr hfu hzr hb2 hD hc
 by_cases hl0 : l = []
 ·subst hl0
  rw [bad_nil hl] at hr0
  have HR := Az.mk hr0
  clear hr0 hl hF
  cases b2 with
  | true =>
    go_enter Tryz.func86, Tryz.ntmps86
    go_wp2_with (first | (go_at_call 38; (with_reducible refine HOC.out.mono ?_); rintro e w1 ⟨v1, rfl, hown, hup⟩; obtain ⟨A1, c1, hv, hi, _⟩ := own_ints hown; subst hv; have HU1 := Az.mk hup; clear hown hup hi))
    refine wp_region_held_drew (S := (fun w' => w'.cell? ⟨bd, 7, none⟩ = some (.map (some D.bo)) ∧ w'.cell? ⟨bd, 8, none⟩ = some (.map (some D.bf)) ∧ w'.cell? ⟨bd, 9, none⟩ = some (.map (some D.bl)) ∧ w'.cell? ⟨bd, 10, none⟩ = some (.map (some D.bc)) ∧ w'.cell? ⟨bd, 11, none⟩ = some (.map (some D.bs)))) (by kernel_rfl) (HS0.out _ (up_drew HU1.out)) (fun hHeld => ?_)
    refine takeR 0 ?_
    (try simp only [Act.put, List.setIfInBounds_toArray, List.set_cons_zero, List.set_cons_succ, List.getElem_toArray, List.getElem_cons_zero, List.getElem_cons_succ])
    refine takeR 1 ?_
    (try simp only [Act.put, List.setIfInBounds_toArray, List.set_cons_zero, List.set_cons_succ, List.getElem_toArray, List.getElem_cons_zero, List.getElem_cons_succ])
    refine takeR 2 ?_
    (try simp only [Act.put, List.setIfInBounds_toArray, List.set_cons_zero, List.set_cons_succ, List.getElem_toArray, List.getElem_cons_zero, List.getElem_cons_succ])
    refine takeR 3 ?_
    (try simp only [Act.put, List.setIfInBounds_toArray, List.set_cons_zero, List.set_cons_succ, List.getElem_toArray, List.getElem_cons_zero, List.getElem_cons_succ])
    refine takeR 4 ?_
    (try simp only [Act.put, List.setIfInBounds_toArray, List.set_cons_zero, List.set_cons_succ, List.getElem_toArray, List.getElem_cons_zero, List.getElem_cons_succ])
    refine takeR 5 ?_
    (try simp only [Act.put, List.setIfInBounds_toArray, List.set_cons_zero, List.set_cons_succ, List.getElem_toArray, List.getElem_cons_zero, List.getElem_cons_succ])
    refine takeR 6 ?_
    (try simp only [Act.put, List.setIfInBounds_toArray, List.set_cons_zero, List.set_cons_succ, List.getElem_toArray, List.getElem_cons_zero, List.getElem_cons_succ])
    refine takeR 7 ?_
    (try simp only [Act.put, List.setIfInBounds_toArray, List.set_cons_zero, List.set_cons_succ, List.getElem_toArray, List.getElem_cons_zero, List.getElem_cons_succ])
    refine takeR 8 ?_
    (try simp only [Act.put, List.setIfInBounds_toArray, List.set_cons_zero, List.set_cons_succ, List.getElem_toArray, List.getElem_cons_zero, List.getElem_cons_succ])
    refine wpAnyH_ready (rs := [9]) (by kernel_rfl) (by simp) ?_
    refine AllReadyH.cons rfl (fun K hK => ?_) AllReadyH.nil
    go_simp
    (go_at_call 28; (with_reducible refine ((HD.out.up (up_drew HU1.out)).Full HF.out _ (z :: u) HFU.out HC.out.1 HC.out.2).mono ?_); rintro e w2 ⟨v2, rfl, hown, hup⟩; obtain ⟨A2, c2, hv, hi, _⟩ := own_ints hown; subst hv; have HU2 := Az.mk (up_trans (up_drew HU1.out) hup); obtain ⟨adz, hAz, yz⟩ := hi.at_ 0 (by omega) (by simp); have yz2 : w2.cell? adz = some (.int .i32 z) := (by cases adz; exact yz); subst hAz; clear hown hup hi yz)
    refine hK.out _ _ (HS0.out _ HU2.out) (fun hHeld => ?_)
    clear hK K
    (try simp only [Act.put, List.setIfInBounds_toArray, List.set_cons_zero, List.set_cons_succ, List.getElem_toArray, List.getElem_cons_zero, List.getElem_cons_succ])
    refine takeR 10 ?_
    (try simp only [Act.put, List.setIfInBounds_toArray, List.set_cons_zero, List.set_cons_succ, List.getElem_toArray, List.getElem_cons_zero, List.getElem_cons_succ])
    refine wpAnyH_ready (rs := [11]) (by kernel_rfl) (by simp) ?_
    refine AllReadyH.cons rfl (fun K hK => ?_) AllReadyH.nil
    go_simp
    refine hK.out _ _ (HS0.out _ HU2.out) (fun hHeld => ?_)
    clear hK K
    (try simp only [Act.put, List.setIfInBounds_toArray, List.set_cons_zero, List.set_cons_succ, List.getElem_toArray, List.getElem_cons_zero, List.getElem_cons_succ])
    refine wpAnyH_ready (rs := [12]) (by kernel_rfl) (by simp) ?_
    refine AllReadyH.cons rfl (fun K hK => ?_) AllReadyH.nil
    go_simp
    (go_at_call 136; (with_reducible refine ((HD.out.up HU2.out).Second z _ HB2.out HZR.out.1 HZR.out.2).mono ?_); rintro e w3 ⟨rfl, hup⟩; have HU3 := Az.mk (up_trans HU2.out hup); clear hup)
    refine hK.out _ _ (HS0.out _ HU3.out) (fun hHeld => ?_)
    clear hK K
    (try simp only [Act.put, List.setIfInBounds_toArray, List.set_cons_zero, List.set_cons_succ, List.getElem_toArray, List.getElem_cons_zero, List.getElem_cons_succ])
    refine wpAnyH_done (by kernel_rfl) ?_ _
    go_wp2
    go_ret
    exact ⟨by rw [← HR.out]; rfl, HU3.out⟩
  | false =>
    go_enter Tryz.func86, Tryz.ntmps86
    go_wp2_with (first | (go_at_call 38; (with_reducible refine HOC.out.mono ?_); rintro e w1 ⟨v1, rfl, hown, hup⟩; obtain ⟨A1, c1, hv, hi, _⟩ := own_ints hown; subst hv; have HU1 := Az.mk hup; clear hown hup hi))
    refine wp_region_held_drew (S := (fun w' => w'.cell? ⟨bd, 7, none⟩ = some (.map (some D.bo)) ∧ w'.cell? ⟨bd, 8, none⟩ = some (.map (some D.bf)) ∧ w'.cell? ⟨bd, 9, none⟩ = some (.map (some D.bl)) ∧ w'.cell? ⟨bd, 10, none⟩ = some (.map (some D.bc)) ∧ w'.cell? ⟨bd, 11, none⟩ = some (.map (some D.bs)))) (by kernel_rfl) (HS0.out _ (up_drew HU1.out)) (fun hHeld => ?_)
    refine takeR 0 ?_
    (try simp only [Act.put, List.setIfInBounds_toArray, List.set_cons_zero, List.set_cons_succ, List.getElem_toArray, List.getElem_cons_zero, List.getElem_cons_succ])
    refine takeR 1 ?_
    (try simp only [Act.put, List.setIfInBounds_toArray, List.set_cons_zero, List.set_cons_succ, List.getElem_toArray, List.getElem_cons_zero, List.getElem_cons_succ])
    refine takeR 2 ?_
    (try simp only [Act.put, List.setIfInBounds_toArray, List.set_cons_zero, List.set_cons_succ, List.getElem_toArray, List.getElem_cons_zero, List.getElem_cons_succ])
    refine takeR 3 ?_
    (try simp only [Act.put, List.setIfInBounds_toArray, List.set_cons_zero, List.set_cons_succ, List.getElem_toArray, List.getElem_cons_zero, List.getElem_cons_succ])
    refine takeR 4 ?_
    (try simp only [Act.put, List.setIfInBounds_toArray, List.set_cons_zero, List.set_cons_succ, List.getElem_toArray, List.getElem_cons_zero, List.getElem_cons_succ])
    refine takeR 5 ?_
    (try simp only [Act.put, List.setIfInBounds_toArray, List.set_cons_zero, List.set_cons_succ, List.getElem_toArray, List.getElem_cons_zero, List.getElem_cons_succ])
    refine takeR 6 ?_
    (try simp only [Act.put, List.setIfInBounds_toArray, List.set_cons_zero, List.set_cons_succ, List.getElem_toArray, List.getElem_cons_zero, List.getElem_cons_succ])
    refine takeR 7 ?_
    (try simp only [Act.put, List.setIfInBounds_toArray, List.set_cons_zero, List.set_cons_succ, List.getElem_toArray, List.getElem_cons_zero, List.getElem_cons_succ])
    refine takeR 8 ?_
    (try simp only [Act.put, List.setIfInBounds_toArray, List.set_cons_zero, List.set_cons_succ, List.getElem_toArray, List.getElem_cons_zero, List.getElem_cons_succ])
    refine wpAnyH_ready (rs := [9]) (by kernel_rfl) (by simp) ?_
    refine AllReadyH.cons rfl (fun K hK => ?_) AllReadyH.nil
    go_simp
    (go_at_call 28; (with_reducible refine ((HD.out.up (up_drew HU1.out)).Full HF.out _ (z :: u) HFU.out HC.out.1 HC.out.2).mono ?_); rintro e w2 ⟨v2, rfl, hown, hup⟩; obtain ⟨A2, c2, hv, hi, _⟩ := own_ints hown; subst hv; have HU2 := Az.mk (up_trans (up_drew HU1.out) hup); obtain ⟨adz, hAz, yz⟩ := hi.at_ 0 (by omega) (by simp); have yz2 : w2.cell? adz = some (.int .i32 z) := (by cases adz; exact yz); subst hAz; clear hown hup hi yz)
    refine hK.out _ _ (HS0.out _ HU2.out) (fun hHeld => ?_)
    clear hK K
    (try simp only [Act.put, List.setIfInBounds_toArray, List.set_cons_zero, List.set_cons_succ, List.getElem_toArray, List.getElem_cons_zero, List.getElem_cons_succ])
    refine takeR 10 ?_
    (try simp only [Act.put, List.setIfInBounds_toArray, List.set_cons_zero, List.set_cons_succ, List.getElem_toArray, List.getElem_cons_zero, List.getElem_cons_succ])
    refine wpAnyH_ready (rs := [11]) (by kernel_rfl) (by simp) ?_
    refine AllReadyH.cons rfl (fun K hK => ?_) AllReadyH.nil
    go_simp
    refine hK.out _ _ (HS0.out _ HU2.out) (fun hHeld => ?_)
    clear hK K
    (try simp only [Act.put, List.setIfInBounds_toArray, List.set_cons_zero, List.set_cons_succ, List.getElem_toArray, List.getElem_cons_zero, List.getElem_cons_succ])
    refine wpAnyH_ready (rs := [12]) (by kernel_rfl) (by simp) ?_
    refine AllReadyH.cons rfl (fun K hK => ?_) AllReadyH.nil
    go_simp
    (go_at_call 136; (with_reducible refine ((HD.out.up HU2.out).Second z _ HB2.out HZR.out.1 HZR.out.2).mono ?_); rintro e w3 ⟨rfl, hup⟩; have HU3 := Az.mk (up_trans HU2.out hup); clear hup)
    refine hK.out _ _ (HS0.out _ HU3.out) (fun hHeld => ?_)
    clear hK K
    (try simp only [Act.put, List.setIfInBounds_toArray, List.set_cons_zero, List.set_cons_succ, List.getElem_toArray, List.getElem_cons_zero, List.getElem_cons_succ])
    refine wpAnyH_done (by kernel_rfl) ?_ _
    go_wp2
    go_ret
    exact ⟨by rw [← HR.out]; rfl, HU3.out⟩
 ·have hlp : 0 < l.length := List.length_pos_iff.2 hl0
  have g0 : decide ((l.length : Int) > 0) = true := dTz (by omega)
  by_cases hl2 : l.length = 2
  ·obtain ⟨a, b, rfl⟩ := two_list hl2
   obtain ⟨p, ok, hpk⟩ : ∃ p ok, compF T a b = (p, ok) := ⟨_, _, rfl⟩
   rw [bad_two hl hpk] at hr0
   have HPK := Az.mk hpk
   have HAR : Az (-2147483648 ≤ a ∧ a ≤ 2147483647) := ⟨HLR.out a (by simp)⟩
   have HBR : Az (-2147483648 ≤ b ∧ b ≤ 2147483647) := ⟨HLR.out b (by simp)⟩
   clear hl hl0 hlp hl2 hpk hF g0
   have key : ∀ (g : Bool), (ok && decide (p = c)) = g → (if (!g) = true then 2 else if b2 = true then 1 else 0) = r → Calls Tryz.prog 86 #[.pointer (some ⟨bd, 0, none⟩), .int .i32 c] w fun e w' => e = .returned (.int .i64 r) ∧ Up w w' := by
    intro g hg hr
    have HR := Az.mk hr
    cases g with
    | false =>
      have HG := Az.mk hg
      cases ok with
      | false =>
        clear hg hr hr0
        go_enter Tryz.func86, Tryz.ntmps86
        go_wp2_with (first | (go_at_call 38; (with_reducible refine HOC.out.mono ?_); rintro e w1 ⟨v1, rfl, hown, hup⟩; obtain ⟨A1, c1, hv, hi, _⟩ := own_ints hown; subst hv; have HU1 := Az.mk hup; obtain ⟨ad, hA, ya⟩ := hi.at_ 0 (by omega) (by simp); obtain ⟨ad', hA', yb⟩ := hi.at_ 1 (by omega) (by simp); have hyy : w1.cell? ad = some (.int .i32 a) ∧ w1.cell? ⟨ad.block, ad.off + 1, none⟩ = some (.int .i32 b) := (by rw [hA] at hA'; cases hA'; exact ⟨(by cases ad; exact ya), yb⟩); have HYY := Az.mk hyy; subst hA; clear hA' ya yb hyy; clear hown hup hi))
        have HS1 : Az (∀ W, Up w1 W → (fun w' => w'.cell? ⟨bd, 7, none⟩ = some (.map (some D.bo)) ∧ w'.cell? ⟨bd, 8, none⟩ = some (.map (some D.bf)) ∧ w'.cell? ⟨bd, 9, none⟩ = some (.map (some D.bl)) ∧ w'.cell? ⟨bd, 10, none⟩ = some (.map (some D.bc)) ∧ w'.cell? ⟨bd, 11, none⟩ = some (.map (some D.bs)) ∧ w'.cell? ad = some (.int .i32 a) ∧ w'.cell? ⟨ad.block, ad.off + 1, none⟩ = some (.int .i32 b)) W) := ⟨fun W hW => ⟨(HS0.out W (up_trans HU1.out hW)).1, (HS0.out W (up_trans HU1.out hW)).2.1, (HS0.out W (up_trans HU1.out hW)).2.2.1, (HS0.out W (up_trans HU1.out hW)).2.2.2.1, (HS0.out W (up_trans HU1.out hW)).2.2.2.2, up_cell hW HYY.out.1, up_cell hW HYY.out.2⟩⟩
        go_region_held3 (fun w' => w'.cell? ⟨bd, 7, none⟩ = some (.map (some D.bo)) ∧ w'.cell? ⟨bd, 8, none⟩ = some (.map (some D.bf)) ∧ w'.cell? ⟨bd, 9, none⟩ = some (.map (some D.bl)) ∧ w'.cell? ⟨bd, 10, none⟩ = some (.map (some D.bc)) ∧ w'.cell? ⟨bd, 11, none⟩ = some (.map (some D.bs)) ∧ w'.cell? ad = some (.int .i32 a) ∧ w'.cell? ⟨ad.block, ad.off + 1, none⟩ = some (.int .i32 b)) (first | exact HS1.out _ (up_drew (up_refl _)) | exact HS1.out _ HV2.out) (first | (go_at_call 46; (with_reducible refine ((HD.out.up (up_drew HU1.out)).Compose a b p _ HPK.out HAR.out.1 HAR.out.2 HBR.out.1 HBR.out.2).mono ?_); rintro e w2 ⟨rfl, hup⟩; have HU2 := Az.mk (up_trans (up_drew HU1.out) hup); have HV2 := Az.mk (up_trans (up_drew (up_refl w1)) hup); clear hup))
        go_wp2
        go_ret
        exact ⟨by rw [← HR.out]; rfl, HU2.out⟩
      | true =>
        have hpc : p ≠ c := fun h => by rw [h] at hg; simp at hg
        have e1 : (p != c) = true := bne_iff_ne.mpr hpc
        clear hg hr hr0 hpc
        go_enter Tryz.func86, Tryz.ntmps86
        go_wp2_with (first | (go_at_call 38; (with_reducible refine HOC.out.mono ?_); rintro e w1 ⟨v1, rfl, hown, hup⟩; obtain ⟨A1, c1, hv, hi, _⟩ := own_ints hown; subst hv; have HU1 := Az.mk hup; obtain ⟨ad, hA, ya⟩ := hi.at_ 0 (by omega) (by simp); obtain ⟨ad', hA', yb⟩ := hi.at_ 1 (by omega) (by simp); have hyy : w1.cell? ad = some (.int .i32 a) ∧ w1.cell? ⟨ad.block, ad.off + 1, none⟩ = some (.int .i32 b) := (by rw [hA] at hA'; cases hA'; exact ⟨(by cases ad; exact ya), yb⟩); have HYY := Az.mk hyy; subst hA; clear hA' ya yb hyy; clear hown hup hi))
        have HS1 : Az (∀ W, Up w1 W → (fun w' => w'.cell? ⟨bd, 7, none⟩ = some (.map (some D.bo)) ∧ w'.cell? ⟨bd, 8, none⟩ = some (.map (some D.bf)) ∧ w'.cell? ⟨bd, 9, none⟩ = some (.map (some D.bl)) ∧ w'.cell? ⟨bd, 10, none⟩ = some (.map (some D.bc)) ∧ w'.cell? ⟨bd, 11, none⟩ = some (.map (some D.bs)) ∧ w'.cell? ad = some (.int .i32 a) ∧ w'.cell? ⟨ad.block, ad.off + 1, none⟩ = some (.int .i32 b)) W) := ⟨fun W hW => ⟨(HS0.out W (up_trans HU1.out hW)).1, (HS0.out W (up_trans HU1.out hW)).2.1, (HS0.out W (up_trans HU1.out hW)).2.2.1, (HS0.out W (up_trans HU1.out hW)).2.2.2.1, (HS0.out W (up_trans HU1.out hW)).2.2.2.2, up_cell hW HYY.out.1, up_cell hW HYY.out.2⟩⟩
        go_region_held3 (fun w' => w'.cell? ⟨bd, 7, none⟩ = some (.map (some D.bo)) ∧ w'.cell? ⟨bd, 8, none⟩ = some (.map (some D.bf)) ∧ w'.cell? ⟨bd, 9, none⟩ = some (.map (some D.bl)) ∧ w'.cell? ⟨bd, 10, none⟩ = some (.map (some D.bc)) ∧ w'.cell? ⟨bd, 11, none⟩ = some (.map (some D.bs)) ∧ w'.cell? ad = some (.int .i32 a) ∧ w'.cell? ⟨ad.block, ad.off + 1, none⟩ = some (.int .i32 b)) (first | exact HS1.out _ (up_drew (up_refl _)) | exact HS1.out _ HV2.out) (first | (go_at_call 46; (with_reducible refine ((HD.out.up (up_drew HU1.out)).Compose a b p _ HPK.out HAR.out.1 HAR.out.2 HBR.out.1 HBR.out.2).mono ?_); rintro e w2 ⟨rfl, hup⟩; have HU2 := Az.mk (up_trans (up_drew HU1.out) hup); have HV2 := Az.mk (up_trans (up_drew (up_refl w1)) hup); clear hup))
        go_wp2
        go_ret
        exact ⟨by rw [← HR.out]; rfl, HU2.out⟩
    | true =>
      have hpc : p = c := by cases ok <;> simp at hg; exact hg
      have hok : ok = true := by cases ok <;> simp at hg; rfl
      subst hpc
      subst hok
      clear hg hr hr0
      cases b2 with
      | true =>
        go_enter Tryz.func86, Tryz.ntmps86
        go_wp2_with (first | (go_at_call 38; (with_reducible refine HOC.out.mono ?_); rintro e w1 ⟨v1, rfl, hown, hup⟩; obtain ⟨A1, c1, hv, hi, _⟩ := own_ints hown; subst hv; have HU1 := Az.mk hup; obtain ⟨ad, hA, ya⟩ := hi.at_ 0 (by omega) (by simp); obtain ⟨ad', hA', yb⟩ := hi.at_ 1 (by omega) (by simp); have hyy : w1.cell? ad = some (.int .i32 a) ∧ w1.cell? ⟨ad.block, ad.off + 1, none⟩ = some (.int .i32 b) := (by rw [hA] at hA'; cases hA'; exact ⟨(by cases ad; exact ya), yb⟩); have HYY := Az.mk hyy; subst hA; clear hA' ya yb hyy; clear hown hup hi))
        have HS1 : Az (∀ W, Up w1 W → (fun w' => w'.cell? ⟨bd, 7, none⟩ = some (.map (some D.bo)) ∧ w'.cell? ⟨bd, 8, none⟩ = some (.map (some D.bf)) ∧ w'.cell? ⟨bd, 9, none⟩ = some (.map (some D.bl)) ∧ w'.cell? ⟨bd, 10, none⟩ = some (.map (some D.bc)) ∧ w'.cell? ⟨bd, 11, none⟩ = some (.map (some D.bs)) ∧ w'.cell? ad = some (.int .i32 a) ∧ w'.cell? ⟨ad.block, ad.off + 1, none⟩ = some (.int .i32 b)) W) := ⟨fun W hW => ⟨(HS0.out W (up_trans HU1.out hW)).1, (HS0.out W (up_trans HU1.out hW)).2.1, (HS0.out W (up_trans HU1.out hW)).2.2.1, (HS0.out W (up_trans HU1.out hW)).2.2.2.1, (HS0.out W (up_trans HU1.out hW)).2.2.2.2, up_cell hW HYY.out.1, up_cell hW HYY.out.2⟩⟩
        go_region_held3 (fun w' => w'.cell? ⟨bd, 7, none⟩ = some (.map (some D.bo)) ∧ w'.cell? ⟨bd, 8, none⟩ = some (.map (some D.bf)) ∧ w'.cell? ⟨bd, 9, none⟩ = some (.map (some D.bl)) ∧ w'.cell? ⟨bd, 10, none⟩ = some (.map (some D.bc)) ∧ w'.cell? ⟨bd, 11, none⟩ = some (.map (some D.bs)) ∧ w'.cell? ad = some (.int .i32 a) ∧ w'.cell? ⟨ad.block, ad.off + 1, none⟩ = some (.int .i32 b)) (first | exact HS1.out _ (up_drew (up_refl _)) | exact HS1.out _ HV2.out) (first | (go_at_call 46; (with_reducible refine ((HD.out.up (up_drew HU1.out)).Compose a b p _ HPK.out HAR.out.1 HAR.out.2 HBR.out.1 HBR.out.2).mono ?_); rintro e w2 ⟨rfl, hup⟩; have HU2 := Az.mk (up_trans (up_drew HU1.out) hup); have HV2 := Az.mk (up_trans (up_drew (up_refl w1)) hup); clear hup))
        go_wp2
        refine wp_region_held_drew (S := (fun w' => w'.cell? ⟨bd, 7, none⟩ = some (.map (some D.bo)) ∧ w'.cell? ⟨bd, 8, none⟩ = some (.map (some D.bf)) ∧ w'.cell? ⟨bd, 9, none⟩ = some (.map (some D.bl)) ∧ w'.cell? ⟨bd, 10, none⟩ = some (.map (some D.bc)) ∧ w'.cell? ⟨bd, 11, none⟩ = some (.map (some D.bs)))) (by kernel_rfl) (HS0.out _ (up_drew HU2.out)) (fun hHeld => ?_)
        refine takeR 0 ?_
        (try simp only [Act.put, List.setIfInBounds_toArray, List.set_cons_zero, List.set_cons_succ, List.getElem_toArray, List.getElem_cons_zero, List.getElem_cons_succ])
        refine takeR 1 ?_
        (try simp only [Act.put, List.setIfInBounds_toArray, List.set_cons_zero, List.set_cons_succ, List.getElem_toArray, List.getElem_cons_zero, List.getElem_cons_succ])
        refine takeR 2 ?_
        (try simp only [Act.put, List.setIfInBounds_toArray, List.set_cons_zero, List.set_cons_succ, List.getElem_toArray, List.getElem_cons_zero, List.getElem_cons_succ])
        refine takeR 3 ?_
        (try simp only [Act.put, List.setIfInBounds_toArray, List.set_cons_zero, List.set_cons_succ, List.getElem_toArray, List.getElem_cons_zero, List.getElem_cons_succ])
        refine takeR 4 ?_
        (try simp only [Act.put, List.setIfInBounds_toArray, List.set_cons_zero, List.set_cons_succ, List.getElem_toArray, List.getElem_cons_zero, List.getElem_cons_succ])
        refine takeR 5 ?_
        (try simp only [Act.put, List.setIfInBounds_toArray, List.set_cons_zero, List.set_cons_succ, List.getElem_toArray, List.getElem_cons_zero, List.getElem_cons_succ])
        refine takeR 6 ?_
        (try simp only [Act.put, List.setIfInBounds_toArray, List.set_cons_zero, List.set_cons_succ, List.getElem_toArray, List.getElem_cons_zero, List.getElem_cons_succ])
        refine takeR 7 ?_
        (try simp only [Act.put, List.setIfInBounds_toArray, List.set_cons_zero, List.set_cons_succ, List.getElem_toArray, List.getElem_cons_zero, List.getElem_cons_succ])
        refine takeR 8 ?_
        (try simp only [Act.put, List.setIfInBounds_toArray, List.set_cons_zero, List.set_cons_succ, List.getElem_toArray, List.getElem_cons_zero, List.getElem_cons_succ])
        refine wpAnyH_ready (rs := [9]) (by kernel_rfl) (by simp) ?_
        refine AllReadyH.cons rfl (fun K hK => ?_) AllReadyH.nil
        go_simp
        (go_at_call 28; (with_reducible refine ((HD.out.up (up_drew HU2.out)).Full HF.out _ (z :: u) HFU.out HC.out.1 HC.out.2).mono ?_); rintro e w3 ⟨v3, rfl, hown, hup⟩; obtain ⟨A3, c3, hv, hi, _⟩ := own_ints hown; subst hv; have HU3 := Az.mk (up_trans (up_drew HU2.out) hup); obtain ⟨adz, hAz, yz⟩ := hi.at_ 0 (by omega) (by simp); have yz2 : w3.cell? adz = some (.int .i32 z) := (by cases adz; exact yz); subst hAz; clear hown hup hi yz)
        refine hK.out _ _ (HS0.out _ HU3.out) (fun hHeld => ?_)
        clear hK K
        (try simp only [Act.put, List.setIfInBounds_toArray, List.set_cons_zero, List.set_cons_succ, List.getElem_toArray, List.getElem_cons_zero, List.getElem_cons_succ])
        refine takeR 10 ?_
        (try simp only [Act.put, List.setIfInBounds_toArray, List.set_cons_zero, List.set_cons_succ, List.getElem_toArray, List.getElem_cons_zero, List.getElem_cons_succ])
        refine wpAnyH_ready (rs := [11]) (by kernel_rfl) (by simp) ?_
        refine AllReadyH.cons rfl (fun K hK => ?_) AllReadyH.nil
        go_simp
        refine hK.out _ _ (HS0.out _ HU3.out) (fun hHeld => ?_)
        clear hK K
        (try simp only [Act.put, List.setIfInBounds_toArray, List.set_cons_zero, List.set_cons_succ, List.getElem_toArray, List.getElem_cons_zero, List.getElem_cons_succ])
        refine wpAnyH_ready (rs := [12]) (by kernel_rfl) (by simp) ?_
        refine AllReadyH.cons rfl (fun K hK => ?_) AllReadyH.nil
        go_simp
        (go_at_call 136; (with_reducible refine ((HD.out.up HU3.out).Second z _ HB2.out HZR.out.1 HZR.out.2).mono ?_); rintro e w4 ⟨rfl, hup⟩; have HU4 := Az.mk (up_trans HU3.out hup); clear hup)
        refine hK.out _ _ (HS0.out _ HU4.out) (fun hHeld => ?_)
        clear hK K
        (try simp only [Act.put, List.setIfInBounds_toArray, List.set_cons_zero, List.set_cons_succ, List.getElem_toArray, List.getElem_cons_zero, List.getElem_cons_succ])
        refine wpAnyH_done (by kernel_rfl) ?_ _
        go_wp2
        go_ret
        exact ⟨by rw [← HR.out]; rfl, HU4.out⟩
      | false =>
        go_enter Tryz.func86, Tryz.ntmps86
        go_wp2_with (first | (go_at_call 38; (with_reducible refine HOC.out.mono ?_); rintro e w1 ⟨v1, rfl, hown, hup⟩; obtain ⟨A1, c1, hv, hi, _⟩ := own_ints hown; subst hv; have HU1 := Az.mk hup; obtain ⟨ad, hA, ya⟩ := hi.at_ 0 (by omega) (by simp); obtain ⟨ad', hA', yb⟩ := hi.at_ 1 (by omega) (by simp); have hyy : w1.cell? ad = some (.int .i32 a) ∧ w1.cell? ⟨ad.block, ad.off + 1, none⟩ = some (.int .i32 b) := (by rw [hA] at hA'; cases hA'; exact ⟨(by cases ad; exact ya), yb⟩); have HYY := Az.mk hyy; subst hA; clear hA' ya yb hyy; clear hown hup hi))
        have HS1 : Az (∀ W, Up w1 W → (fun w' => w'.cell? ⟨bd, 7, none⟩ = some (.map (some D.bo)) ∧ w'.cell? ⟨bd, 8, none⟩ = some (.map (some D.bf)) ∧ w'.cell? ⟨bd, 9, none⟩ = some (.map (some D.bl)) ∧ w'.cell? ⟨bd, 10, none⟩ = some (.map (some D.bc)) ∧ w'.cell? ⟨bd, 11, none⟩ = some (.map (some D.bs)) ∧ w'.cell? ad = some (.int .i32 a) ∧ w'.cell? ⟨ad.block, ad.off + 1, none⟩ = some (.int .i32 b)) W) := ⟨fun W hW => ⟨(HS0.out W (up_trans HU1.out hW)).1, (HS0.out W (up_trans HU1.out hW)).2.1, (HS0.out W (up_trans HU1.out hW)).2.2.1, (HS0.out W (up_trans HU1.out hW)).2.2.2.1, (HS0.out W (up_trans HU1.out hW)).2.2.2.2, up_cell hW HYY.out.1, up_cell hW HYY.out.2⟩⟩
        go_region_held3 (fun w' => w'.cell? ⟨bd, 7, none⟩ = some (.map (some D.bo)) ∧ w'.cell? ⟨bd, 8, none⟩ = some (.map (some D.bf)) ∧ w'.cell? ⟨bd, 9, none⟩ = some (.map (some D.bl)) ∧ w'.cell? ⟨bd, 10, none⟩ = some (.map (some D.bc)) ∧ w'.cell? ⟨bd, 11, none⟩ = some (.map (some D.bs)) ∧ w'.cell? ad = some (.int .i32 a) ∧ w'.cell? ⟨ad.block, ad.off + 1, none⟩ = some (.int .i32 b)) (first | exact HS1.out _ (up_drew (up_refl _)) | exact HS1.out _ HV2.out) (first | (go_at_call 46; (with_reducible refine ((HD.out.up (up_drew HU1.out)).Compose a b p _ HPK.out HAR.out.1 HAR.out.2 HBR.out.1 HBR.out.2).mono ?_); rintro e w2 ⟨rfl, hup⟩; have HU2 := Az.mk (up_trans (up_drew HU1.out) hup); have HV2 := Az.mk (up_trans (up_drew (up_refl w1)) hup); clear hup))
        go_wp2
        refine wp_region_held_drew (S := (fun w' => w'.cell? ⟨bd, 7, none⟩ = some (.map (some D.bo)) ∧ w'.cell? ⟨bd, 8, none⟩ = some (.map (some D.bf)) ∧ w'.cell? ⟨bd, 9, none⟩ = some (.map (some D.bl)) ∧ w'.cell? ⟨bd, 10, none⟩ = some (.map (some D.bc)) ∧ w'.cell? ⟨bd, 11, none⟩ = some (.map (some D.bs)))) (by kernel_rfl) (HS0.out _ (up_drew HU2.out)) (fun hHeld => ?_)
        refine takeR 0 ?_
        (try simp only [Act.put, List.setIfInBounds_toArray, List.set_cons_zero, List.set_cons_succ, List.getElem_toArray, List.getElem_cons_zero, List.getElem_cons_succ])
        refine takeR 1 ?_
        (try simp only [Act.put, List.setIfInBounds_toArray, List.set_cons_zero, List.set_cons_succ, List.getElem_toArray, List.getElem_cons_zero, List.getElem_cons_succ])
        refine takeR 2 ?_
        (try simp only [Act.put, List.setIfInBounds_toArray, List.set_cons_zero, List.set_cons_succ, List.getElem_toArray, List.getElem_cons_zero, List.getElem_cons_succ])
        refine takeR 3 ?_
        (try simp only [Act.put, List.setIfInBounds_toArray, List.set_cons_zero, List.set_cons_succ, List.getElem_toArray, List.getElem_cons_zero, List.getElem_cons_succ])
        refine takeR 4 ?_
        (try simp only [Act.put, List.setIfInBounds_toArray, List.set_cons_zero, List.set_cons_succ, List.getElem_toArray, List.getElem_cons_zero, List.getElem_cons_succ])
        refine takeR 5 ?_
        (try simp only [Act.put, List.setIfInBounds_toArray, List.set_cons_zero, List.set_cons_succ, List.getElem_toArray, List.getElem_cons_zero, List.getElem_cons_succ])
        refine takeR 6 ?_
        (try simp only [Act.put, List.setIfInBounds_toArray, List.set_cons_zero, List.set_cons_succ, List.getElem_toArray, List.getElem_cons_zero, List.getElem_cons_succ])
        refine takeR 7 ?_
        (try simp only [Act.put, List.setIfInBounds_toArray, List.set_cons_zero, List.set_cons_succ, List.getElem_toArray, List.getElem_cons_zero, List.getElem_cons_succ])
        refine takeR 8 ?_
        (try simp only [Act.put, List.setIfInBounds_toArray, List.set_cons_zero, List.set_cons_succ, List.getElem_toArray, List.getElem_cons_zero, List.getElem_cons_succ])
        refine wpAnyH_ready (rs := [9]) (by kernel_rfl) (by simp) ?_
        refine AllReadyH.cons rfl (fun K hK => ?_) AllReadyH.nil
        go_simp
        (go_at_call 28; (with_reducible refine ((HD.out.up (up_drew HU2.out)).Full HF.out _ (z :: u) HFU.out HC.out.1 HC.out.2).mono ?_); rintro e w3 ⟨v3, rfl, hown, hup⟩; obtain ⟨A3, c3, hv, hi, _⟩ := own_ints hown; subst hv; have HU3 := Az.mk (up_trans (up_drew HU2.out) hup); obtain ⟨adz, hAz, yz⟩ := hi.at_ 0 (by omega) (by simp); have yz2 : w3.cell? adz = some (.int .i32 z) := (by cases adz; exact yz); subst hAz; clear hown hup hi yz)
        refine hK.out _ _ (HS0.out _ HU3.out) (fun hHeld => ?_)
        clear hK K
        (try simp only [Act.put, List.setIfInBounds_toArray, List.set_cons_zero, List.set_cons_succ, List.getElem_toArray, List.getElem_cons_zero, List.getElem_cons_succ])
        refine takeR 10 ?_
        (try simp only [Act.put, List.setIfInBounds_toArray, List.set_cons_zero, List.set_cons_succ, List.getElem_toArray, List.getElem_cons_zero, List.getElem_cons_succ])
        refine wpAnyH_ready (rs := [11]) (by kernel_rfl) (by simp) ?_
        refine AllReadyH.cons rfl (fun K hK => ?_) AllReadyH.nil
        go_simp
        refine hK.out _ _ (HS0.out _ HU3.out) (fun hHeld => ?_)
        clear hK K
        (try simp only [Act.put, List.setIfInBounds_toArray, List.set_cons_zero, List.set_cons_succ, List.getElem_toArray, List.getElem_cons_zero, List.getElem_cons_succ])
        refine wpAnyH_ready (rs := [12]) (by kernel_rfl) (by simp) ?_
        refine AllReadyH.cons rfl (fun K hK => ?_) AllReadyH.nil
        go_simp
        (go_at_call 136; (with_reducible refine ((HD.out.up HU3.out).Second z _ HB2.out HZR.out.1 HZR.out.2).mono ?_); rintro e w4 ⟨rfl, hup⟩; have HU4 := Az.mk (up_trans HU3.out hup); clear hup)
        refine hK.out _ _ (HS0.out _ HU4.out) (fun hHeld => ?_)
        clear hK K
        (try simp only [Act.put, List.setIfInBounds_toArray, List.set_cons_zero, List.set_cons_succ, List.getElem_toArray, List.getElem_cons_zero, List.getElem_cons_succ])
        refine wpAnyH_done (by kernel_rfl) ?_ _
        go_wp2
        go_ret
        exact ⟨by rw [← HR.out]; rfl, HU4.out⟩
   exact key _ rfl hr0
  ·have g1 : ((l.length : Int) != 2) = true := bne_iff_ne.mpr (by omega)
   rw [bad_len (by rw [hl]; exact hl0) (by rw [hl]; exact hl2)] at hr0
   have HR := Az.mk hr0
   clear hr0 hl hl0 hF
   go_enter Tryz.func86, Tryz.ntmps86
   go_wp2_with (first | (go_at_call 38; (with_reducible refine HOC.out.mono ?_); rintro e w1 ⟨v1, rfl, hown, hup⟩; obtain ⟨A1, c1, hv, hi, _⟩ := own_ints hown; subst hv; have HU1 := Az.mk hup; clear hown hup hi))
   go_ret
   exact ⟨by rw [← HR.out]; rfl, HU1.out⟩
end
end Go.Proofs.YtnohcnneflogjaaGreat.M.Nm
namespace Go.Proofs.YtnohcnneflogjaaGreat.M.Nm
open Go.Shelf Go.RowKit Go.Lib Go.Sort St
attribute [local go_sem] max_two_int
def worstF (T : List Rec) (x : List Int) (w0 : Int) : Int := x.foldl (fun m c => max m (foundF T c)) w0
def quickF (T : List Rec) (x : List Int) : Int := 2 - worstF T x (if sortedG (numF T 2 (·.n)) 0 x then 0 else 2)
theorem safeF_found (T : List Rec) (c : Int) : safeF T c = (decide (classF T c = 0) && decide (foundF T c = 0)) := by
 unfold safeF foundF
 cases badF T c <;> cases secondF T (rd (fullL T c) 0) <;> simp
section
variable {H : Nat} {w : World} {bd : Nat} {D : DataV} {T : List Rec}
theorem Is_calls (hD : DataAt H w bd D T) (hF : Fine T) (A : Option Addr) (c : Nat) (x : List Int) (n : Nat) (hn : x.length = n) (hI : Ints .i32 w A x) (hr : InI32 x) (hx : x.length ≤ 65536) (b : Bool) (hb : (x == nfcF T x) = b) :
 Calls Tryz.prog 58 #[.pointer (some ⟨bd, 0, none⟩), .slice A n c] w fun e w' => e = .returned (.tuple #[.bool b, .int .i64 0]) ∧ Up w w' := by
 subst hn
 obtain ⟨y, hy⟩ : ∃ y, nfcF T x = y := ⟨_, rfl⟩
 rw [hy] at hb
 have HB := Az.mk hb
 have HXB : Az (x.length ≤ 35184372087808) := ⟨by omega⟩
 have HYB : Az (y.length ≤ 35184372087808) := ⟨by rw [← hy]; have := nfc_len hF x; omega⟩
 have HN := Az.mk (NFC_calls hD hF A c x _ rfl hI hr hx y hy)
 have HX := Az.mk hI
 clear hD hF hI hr hx hy hb
 go_enter Tryz.func58, Tryz.ntmps58
 go_wp2_with (first | (go_at_call 44; (with_reducible refine HN.out.mono ?_); rintro e w1 ⟨A1, c1, rfl, _, hi, hup⟩; have HI1 := Az.mk hi; have HU1 := Az.mk hup; clear hi hup) | (go_at_call 84; (with_reducible refine (Equal_calls A A1 c c1 x y _ (HX.out.up HU1.out) HI1.out HXB.out HYB.out b HB.out).mono ?_); rintro e w2 ⟨rfl, hup⟩; have HU2 := Az.mk (up_trans HU1.out hup); clear hup))
 go_ret2
 exact ⟨rfl, HU2.out⟩
theorem Safe_calls (hD : DataAt H w bd D T) (hF : Fine T) (c : Int) (hc : -2147483648 ≤ c ∧ c ≤ 2147483647) (b : Bool) (hb : safeF T c = b) :
 Calls Tryz.prog 45 #[.pointer (some ⟨bd, 0, none⟩), .int .i32 c] w fun e w' => e = .returned (.bool b) ∧ Up w w' := by
 rw [safeF_found] at hb
 obtain ⟨n, hn⟩ : ∃ n, numF T 2 (·.n) c = n := ⟨_, rfl⟩
 obtain ⟨f, hf⟩ : ∃ f, foundF T c = f := ⟨_, rfl⟩
 rw [show classF T c = n from hn, hf] at hb
 have HB := Az.mk hb
 have HC := Az.mk (hD.Class hF.toGood c n hn hc.1 hc.2)
 have HFO : Az (∀ W, Up w W → Calls Tryz.prog 86 #[.pointer (some ⟨bd, 0, none⟩), .int .i32 c] W fun e w' => e = .returned (.int .i64 f) ∧ Up W w') := ⟨fun W hW => found_calls (hD.up hW) hF c hc f hf⟩
 obtain ⟨⟨_, _, _, a3, _, _, _⟩, _, _, _, _, _, _⟩ := hD.all
 clear hD hF hb hn hf
 by_cases hz : n = 0
 ·have e0 : (n == 0) = true := beq_iff_eq.mpr hz
  have HZ := Az.mk hz
  clear hz
  go_enter Tryz.func45, Tryz.ntmps45
  go_wp2_with (first | (go_at_call 27; (with_reducible refine HC.out.mono ?_); rintro e w1 ⟨rfl, hup⟩; have HU1 := Az.mk hup; clear hup) | (go_at_call 86; (with_reducible refine (HFO.out _ HU1.out).mono ?_); rintro e w2 ⟨rfl, hup⟩; have HU2 := Az.mk (up_trans HU1.out hup); clear hup))
  go_ret
  refine ⟨?_, HU2.out⟩
  rw [← HB.out, HZ.out]
  rfl
 ·have e0 : (n == 0) = false := bqf hz
  have HZ := Az.mk hz
  clear hz
  go_enter Tryz.func45, Tryz.ntmps45
  go_wp2_with (first | (go_at_call 27; (with_reducible refine HC.out.mono ?_); rintro e w1 ⟨rfl, hup⟩; have HU1 := Az.mk hup; clear hup))
  go_ret
  refine ⟨?_, HU1.out⟩
  rw [← HB.out, dFz HZ.out]
  rfl
theorem Quick_calls (hD : DataAt H w bd D T) (hF : Fine T) (A : Option Addr) (c : Nat) (x : List Int) (n : Nat) (hn : x.length = n) (hI : Ints .i32 w A x) (hr : InI32 x) (hx : x.length ≤ 65536) (q : Int) (hq : quickF T x = q) :
 Calls Tryz.prog 43 #[.pointer (some ⟨bd, 0, none⟩), .slice A n c] w fun e w' => e = .returned (.tuple #[.int .i64 q, .int .i64 0]) ∧ Up w w' := by
 subst hn
 obtain ⟨b, hb⟩ : ∃ b, sortedG (numF T 2 (·.n)) 0 x = b := ⟨_, rfl⟩
 have HSC := Az.mk (Sorted_i hD hF.toGood A c x _ rfl hI hr (by omega) b hb)
 unfold quickF at hq
 rw [hb] at hq
 have HQ := Az.mk hq
 have HD := Az.mk hD
 have HF := Az.mk hF
 have HX := Az.mk hI
 have HR := Az.mk hr
 have HXL := Az.mk hx
 obtain ⟨w0, hw0⟩ : ∃ w0 : Int, (if b then (0 : Int) else 2) = w0 := ⟨_, rfl⟩
 have HW0 := Az.mk hw0
 have key : ∀ (wa : World) (u : Value), True := fun _ _ => trivial
 clear hD hF hI hr hx hq hb key
 have RR : Az (b = true ∧ w0 = 0 ∨ b = false ∧ w0 = 2) := ⟨by rw [← hw0]; cases b <;> simp⟩
 clear hw0
 cases b with
 | true =>
   have HWQ : Az (2 - worstF T x (0) = q) := ⟨HQ.out⟩
   clear HQ
   go_enter Tryz.func43, Tryz.ntmps43
   go_wp2_with (first | (go_at_call 85; (with_reducible refine (refused13_ok _ _ _ _ _ HXL.out).mono ?_); rintro e w1 ⟨rfl, rfl⟩) | (go_at_call 35; (with_reducible refine HSC.out.mono ?_); rintro e w1 ⟨rfl, hup⟩; have HU1 := Az.mk hup; clear hup))
   go_loopg [7, 23] x.length (fun k v7 v23 wr => ∃ (i : Nat) (m : Int), v23 = .int .i64 i ∧ v7 = .int .i64 m ∧ Az (i + k = x.length ∧ (m = 0 ∨ m = 1 ∨ m = 2)) ∧ Az (worstF T (x.drop i) m = worstF T x (0)) ∧ Az (Up w wr))
   case atStart => exact ⟨0, 0, rfl, rfl, ⟨Nat.zero_add _, by simp⟩, ⟨rfl⟩, HU1⟩
   case round =>
    obtain ⟨i, m, rfl, rfl, HI, HWW, HU⟩ := hrel
    clear HU1
    cases gk with
    | zero =>
      have hlt : decide ((i : Int) < (x.length : Int)) = false := dFz (by have := HI.out; omega)
      have hlt1 : ¬ (i < x.length) := by have := HI.out; omega
      have HE : Az (2 - m = q) := ⟨by
       have e := HWW.out
       rw [List.drop_eq_nil_of_le (by omega)] at e
       rw [← HWQ.out, ← e]
       rfl⟩
      rcases HI.out.2 with rfl | rfl | rfl
      all_goals
       go_wp2
       go_ret2
       exact ⟨by rw [← HE.out]; rfl, HU.out⟩
    | succ k =>
      have hi : i < x.length := by have := HI.out; omega
      have hlt : decide ((i : Int) < (x.length : Int)) = true := dTz (by omega)
      have z1 : (i : Int) < (x.length : Int) := by omega
      have z2 : (i : Int) < 100000 := by have := HXL.out; omega
      obtain ⟨ad, hA, y1⟩ := HX.out.at_ i (by omega) z1
      have y2 := up_cell HU.out y1
      rw [Int.toNat_natCast] at y2
      subst hA
      clear y1
      obtain ⟨d, hd⟩ : ∃ d, x[i] = d := ⟨_, rfl⟩
      rw [rd_elem x i hi, hd] at y2
      have HDR : Az (-2147483648 ≤ d ∧ d ≤ 2147483647) := ⟨HR.out d (by rw [← hd]; exact List.getElem_mem _)⟩
      have HDD : Az (x.drop i = d :: x.drop (i + 1)) := ⟨by rw [List.drop_eq_getElem_cons hi, hd]⟩
      obtain ⟨f, hf⟩ : ∃ f, foundF T d = f := ⟨_, rfl⟩
      have HFF := Az.mk hf
      have HFO := Az.mk (found_calls (HD.out.up HU.out) HF.out d HDR.out f hf)
      clear hd hf hi
      go_wp2_with (first | (go_at_call 86; (with_reducible refine HFO.out.mono ?_); rintro e w2 ⟨rfl, hup⟩; have HU2 := Az.mk (up_trans HU.out hup); clear hup))
      go_roundg k
      case measure => omega
      case rel =>
       refine ⟨i + 1, max m f, by go_num, rfl, ⟨by have := HI.out; omega, ?_⟩, ⟨?_⟩, HU2⟩
       ·have h1 := HI.out.2
        have h2 := foundF_cases T d
        rw [HFF.out] at h2
        omega
       ·have e := HWW.out
        rw [HDD.out] at e
        rw [← HFF.out]
        exact e
 | false =>
   have HWQ : Az (2 - worstF T x (2) = q) := ⟨HQ.out⟩
   clear HQ
   go_enter Tryz.func43, Tryz.ntmps43
   go_wp2_with (first | (go_at_call 85; (with_reducible refine (refused13_ok _ _ _ _ _ HXL.out).mono ?_); rintro e w1 ⟨rfl, rfl⟩) | (go_at_call 35; (with_reducible refine HSC.out.mono ?_); rintro e w1 ⟨rfl, hup⟩; have HU1 := Az.mk hup; clear hup))
   go_loopg [7, 23] x.length (fun k v7 v23 wr => ∃ (i : Nat) (m : Int), v23 = .int .i64 i ∧ v7 = .int .i64 m ∧ Az (i + k = x.length ∧ (m = 0 ∨ m = 1 ∨ m = 2)) ∧ Az (worstF T (x.drop i) m = worstF T x (2)) ∧ Az (Up w wr))
   case atStart => exact ⟨0, 2, rfl, rfl, ⟨Nat.zero_add _, by simp⟩, ⟨rfl⟩, HU1⟩
   case round =>
    obtain ⟨i, m, rfl, rfl, HI, HWW, HU⟩ := hrel
    clear HU1
    cases gk with
    | zero =>
      have hlt : decide ((i : Int) < (x.length : Int)) = false := dFz (by have := HI.out; omega)
      have hlt1 : ¬ (i < x.length) := by have := HI.out; omega
      have HE : Az (2 - m = q) := ⟨by
       have e := HWW.out
       rw [List.drop_eq_nil_of_le (by omega)] at e
       rw [← HWQ.out, ← e]
       rfl⟩
      rcases HI.out.2 with rfl | rfl | rfl
      all_goals
       go_wp2
       go_ret2
       exact ⟨by rw [← HE.out]; rfl, HU.out⟩
    | succ k =>
      have hi : i < x.length := by have := HI.out; omega
      have hlt : decide ((i : Int) < (x.length : Int)) = true := dTz (by omega)
      have z1 : (i : Int) < (x.length : Int) := by omega
      have z2 : (i : Int) < 100000 := by have := HXL.out; omega
      obtain ⟨ad, hA, y1⟩ := HX.out.at_ i (by omega) z1
      have y2 := up_cell HU.out y1
      rw [Int.toNat_natCast] at y2
      subst hA
      clear y1
      obtain ⟨d, hd⟩ : ∃ d, x[i] = d := ⟨_, rfl⟩
      rw [rd_elem x i hi, hd] at y2
      have HDR : Az (-2147483648 ≤ d ∧ d ≤ 2147483647) := ⟨HR.out d (by rw [← hd]; exact List.getElem_mem _)⟩
      have HDD : Az (x.drop i = d :: x.drop (i + 1)) := ⟨by rw [List.drop_eq_getElem_cons hi, hd]⟩
      obtain ⟨f, hf⟩ : ∃ f, foundF T d = f := ⟨_, rfl⟩
      have HFF := Az.mk hf
      have HFO := Az.mk (found_calls (HD.out.up HU.out) HF.out d HDR.out f hf)
      clear hd hf hi
      go_wp2_with (first | (go_at_call 86; (with_reducible refine HFO.out.mono ?_); rintro e w2 ⟨rfl, hup⟩; have HU2 := Az.mk (up_trans HU.out hup); clear hup))
      go_roundg k
      case measure => omega
      case rel =>
       refine ⟨i + 1, max m f, by go_num, rfl, ⟨by have := HI.out; omega, ?_⟩, ⟨?_⟩, HU2⟩
       ·have h1 := HI.out.2
        have h2 := foundF_cases T d
        rw [HFF.out] at h2
        omega
       ·have e := HWW.out
        rw [HDD.out] at e
        rw [← HFF.out]
        exact e
end
theorem Safe_nil (c : Int) (w : World) : Calls Tryz.prog 45 #[.pointer none, .int .i32 c] w fun e w' => e = .returned (.bool false) ∧ Up w w' := by
 go_enter Tryz.func45, Tryz.ntmps45
 go_wp2
 go_ret
 exact ⟨rfl, up_refl _⟩
end Go.Proofs.YtnohcnneflogjaaGreat.M.Nm
namespace Go.Proofs.YtnohcnneflogjaaGreat.M
open Go.RowKit
attribute [local go_sem] max_two_int min_two_int
def RetFew13 (l : List Int) (w : World) (e : Ending) (w' : World) : Prop := ∃ g c, e = .returned (.slice (some ⟨g, 0, none⟩) l.length c) ∧ l.length + 2 ≤ c ∧ w'.ownsRow w.heap.size 21 1 (.slice (some ⟨g, 0, none⟩) (l.length + 2) c) (l.length + 2) ((l ++ [-7, -8]).map (Value.int .i32)) ∧ Up w w'
theorem few13_calls (A : Option Addr) (c : Nat) (x y : List Int) (n : Nat) (w : World) (hI : Ints .i32 w A x) (hx : x.length < 4611686018427387904) (hc : x.length ≤ c) (hn : n ≤ 1000) (hy : x.take n = y) :
 Calls Tryz.prog 42 #[.slice A x.length c, .int .i64 n] w (RetFew13 y w) := by
 have hyl : y.length = min n x.length := by rw [← hy, List.length_take]
 have hmn : min (x.length : Int) (n : Int) = (y.length : Int) := by omega
 have h1 : 0 ≤ (y.length : Int) := by omega
 have h2 : (y.length : Int) ≤ (c : Int) := by omega
 have hy1000 : y.length ≤ 1000 := by omega
 have HY : Az (Ints .i32 w A y) := ⟨by rw [← hy]; exact ints_take12 hI n⟩
 have HLEN : Az (0 + y.length ≤ maxLen ∧ (0 + y.length) * 4 ≤ 140737488355328) := ⟨by unfold maxLen; omega⟩
 have HLEN2 : Az (y.length + 2 ≤ maxLen ∧ (y.length + 2) * 4 ≤ 140737488355328) := ⟨by unfold maxLen; omega⟩
 obtain ⟨ie, ze, hie, hze, hsi, hby, hzc⟩ := i32_info
 clear hI hy hyl hc
 go_enter Tryz.func42, Tryz.ntmps42
 go_wp2_with (first | (at_builtin; refine (wpList_append_row _ rfl _ _ 23 rfl w.heap.size 21 ie ze 1 4 Tryz.underlying23 hie hze hsi hby hzc (by decide) _ 0 [] rfl (World.ownsRow_nil _ _ _ _) A y.length c (y.map (Value.int .i32)) rfl (by simp) ?ha (ints_one _ _) ?hb ?hc ?hd ?_); (case ha => exact HY.out); (case hb => exact HLEN.out.1); (case hc => exact HLEN.out.2); (case hd => exact Nat.le_refl _); intro v' w3 hown' hgrow hat'; rw [Nat.zero_add, List.nil_append] at hown'; obtain ⟨A3, c3, hv⟩ := own_any hown'; subst hv; have HO3 := Az.mk hown'; have HU3 := Az.mk (up_nil hgrow rfl); clear hown' hgrow hat') | (at_builtin; refine (wpList_append_row _ rfl _ _ 23 rfl w.heap.size 21 ie ze 1 4 Tryz.underlying23 hie hze hsi hby hzc (by decide) (.slice A3 y.length c3) y.length (y.map (Value.int .i32)) rfl (HO3.out.alloc _) (some ⟨w3.heap.size, 0, none⟩) 2 2 (([-7, -8] : List Int).map (Value.int .i32)) rfl rfl (ints_new w3 [-7, -8]) (ints_one _ _) ?ha6 ?hb6 ?hc6 ?_); (case ha6 => exact HLEN2.out.1); (case hb6 => exact HLEN2.out.2); (case hc6 => exact Nat.le_trans HU3.out.size (up_alloc (up_refl _) _).size); intro v6 w6 hown6 hgrow6 hat6; have HO6 : Az (w6.ownsRow w.heap.size 21 1 v6 (y.length + 2) ((y ++ [-7, -8]).map (Value.int .i32))) := ⟨(congrArg (fun l => w6.ownsRow w.heap.size 21 1 v6 (y.length + 2) l) (List.map_append (f := Value.int .i32) (l₁ := y) (l₂ := [-7, -8]))).mpr hown6⟩; obtain ⟨A6, c6, hv6⟩ := own_any HO6.out; subst hv6; obtain ⟨hcap, g6, hA6, _⟩ := own_room12 HO6.out (by omega); subst hA6; have HU6 := Az.mk ((up_alloc HU3.out (.cells #[.int .i32 (-7), .int .i32 (-8)] 21)).grown hgrow6 (up_alloc HU3.out (.cells #[.int .i32 (-7), .int .i32 (-8)] 21)).size (fun k hk => (HO3.out.lt k hk).1)); have hc6 : (y.length : Int) ≤ (c6 : Int) := Int.ofNat_le.2 (Nat.le_trans (Nat.le_add_right _ _) hcap); clear hown6 hgrow6 hat6))
 go_ret
 exact ⟨_, _, rfl, hcap, HO6.out, HU6.out⟩
theorem few13_own (A : Option Addr) (c : Nat) (x y : List Int) (n : Nat) (z : Int) (hz : z = (n : Int)) (w : World) (hI : Ints .i32 w A x) (hx : x.length < 4611686018427387904) (hc : x.length ≤ c) (hn : n ≤ 1000) (hy : x.take n = y) :
 Calls Tryz.prog 42 #[.slice A x.length c, .int .i64 z] w (RetFew13 y w) := by
 subst hz
 exact few13_calls A c x y n w hI hx hc hn hy
end Go.Proofs.YtnohcnneflogjaaGreat.M
namespace Go.Proofs.YtnohcnneflogjaaGreat.M.Nm
open Go.Shelf Go.RowKit Go.Lib Go.Sort St
def t13x : List Int := [97, 768, 4352, 4449]
def t13y : List Int := [224, 44032]
theorem t13x_range : InI32 t13x := by unfold InI32; decide
theorem t13_nfc : nfcF littleT t13x = t13y := by decide +kernel
theorem t13_q : quickF littleT [768] = 1 := by decide +kernel
theorem t13_safe : safeF littleT 97 = true := by decide +kernel
theorem t13_not : safeF littleT 768 = false := by decide +kernel
theorem t13x_ints (w0 : World) : Ints .i32 (w0.alloc (.cells #[.int .i32 97, .int .i32 768, .int .i32 4352, .int .i32 4449] 21)) (some ⟨w0.heap.size, 0, none⟩) t13x := ints_new w0 t13x
theorem t13q_ints (w0 : World) : Ints .i32 (w0.alloc (.cells #[.int .i32 768] 21)) (some ⟨w0.heap.size, 0, none⟩) [768] := ints_new w0 [768]
theorem t13y_ints (w0 : World) : Ints .i32 (w0.alloc (.cells #[.int .i32 224, .int .i32 44032] 21)) (some ⟨w0.heap.size, 0, none⟩) t13y := ints_new w0 t13y
theorem told13_calls (w : World) : Calls Tryz.prog 41 #[] w fun e w' => e = .returned (.bool true) ∧ Up w w' := by
 go_enter Tryz.func41, Tryz.ntmps41
 go_wp2_with (first | (go_at_call 29; (with_reducible refine (Little_calls _).mono ?_); rintro e w1 ⟨A1, n1, rfl, hT1, hup⟩; have HT1 := Az.mk hT1; have HU1 := Az.mk hup; clear hT1 hup) | (go_at_call 21; (with_reducible refine (Made_fine A1 n1 littleT 10 _ HT1.out.table littleT_wf HT1.out.len rfl (by decide) littleT_fine).mono ?_); rintro e w2 ⟨bd, D, A2, n2, rfl, hD, _, hup⟩; have HD := Az.mk hD; have HU2 := Az.mk (up_trans HU1.out hup); clear hD hup) |
  (go_at_call 45; (with_reducible refine (Safe_calls (HD.out.up HV7.out) littleT_f 768 (by decide) false t13_not).mono ?_); rintro e w8 ⟨rfl, hup⟩; have HV8 := Az.mk (up_trans HV7.out hup); clear hup) |
  (go_at_call 45; (with_reducible refine (Safe_calls (HD.out.up HV6.out) littleT_f 97 (by decide) true t13_safe).mono ?_); rintro e w7 ⟨rfl, hup⟩; have HV7 := Az.mk (up_trans HV6.out hup); clear hup) |
  (go_at_call 26; (with_reducible refine (SameN_calls A3 _ t13y.length 2 c3 2 t13y t13y _ (HI3.out.up (up_trans HQ5.out (up_alloc (up_refl w5) _))) (t13y_ints w5) rfl rfl (by decide) (by decide) true (by decide)).mono ?_); rintro e w6 ⟨rfl, hup⟩; have HV6 := Az.mk (up_trans HV5.out (up_trans (up_alloc (up_refl w5) _) hup)); clear hup) |
  (go_at_call 44; (with_reducible refine (NFC_nil _ _ _ _).mono ?_); rintro e w5 ⟨rfl, hup⟩; have HQ5 := Az.mk (up_trans HQ4.out hup); have HV5 := Az.mk (up_trans HV4.out hup); clear hup) |
  (go_at_call 43; (with_reducible refine (Quick_calls (HD.out.up (up_trans HV3.out (up_alloc (up_refl w3) _))) littleT_f _ 1 [768] 1 rfl (t13q_ints w3) (by unfold InI32; decide) (by decide) 1 t13_q).mono ?_); rintro e w4 ⟨rfl, hup⟩; have HQ4 := Az.mk (up_trans (up_alloc (up_refl w3) _) hup); have HV4 := Az.mk (up_trans HV3.out HQ4.out); clear hup) |
  (go_at_call 44; (with_reducible refine (NFC_calls (HD.out.up (up_alloc (up_refl w2) _)) littleT_f _ 4 t13x 4 rfl (t13x_ints w2) t13x_range (by decide) t13y t13_nfc).mono ?_); rintro e w3 ⟨A3, c3, rfl, _, hi, hup⟩; have HI3 := Az.mk hi; have HV3 := Az.mk (up_trans (up_alloc (up_refl w2) _) hup); clear hi hup))
 go_ret
 exact ⟨rfl, up_trans HU2.out HV8.out⟩
end Go.Proofs.YtnohcnneflogjaaGreat.M.Nm
