/- Chapter 13, walked: Compose, NFC, found, Quick, Is, Safe. -/
import Derived.Test.YtnohcnneflogjaaGreatPNorm1
import Derived.Test.YtnohcnneflogjaaGreatK46
set_option maxHeartbeats 16000000
set_option maxRecDepth 1000000
set_option linter.unusedVariables false
set_option linter.unusedSimpArgs false
namespace Go.Proofs.YtnohcnneflogjaaGreat.M.Nm
open Go.Shelf Go.RowKit Go.Lib Go.Sort St
attribute [local go_sem] max_two_int
def foundF (T : List Rec) (c : Int) : Int := if badF T c then 2 else if secondF T (rd (fullL T c) 0) then 1 else 0
theorem foundF_cases (T : List Rec) (c : Int) : foundF T c = 0 ∨ foundF T c = 1 ∨ foundF T c = 2 := by
 unfold foundF
 split
 ·exact .inr (.inr rfl)
 ·split
  ·exact .inr (.inl rfl)
  ·exact .inl rfl
theorem refused13_nil (A : Option Addr) (n c : Nat) (w : World) : Calls Tryz.prog 85 #[.pointer none, .slice A n c] w fun e w' => e = .returned (.int .i64 1) ∧ w = w' := by
 go_enter Tryz.func85, Tryz.ntmps85
 go_wp2
 go_ret
 exact ⟨rfl, rfl⟩
theorem refused13_ok (bd : Nat) (A : Option Addr) (n c : Nat) (w : World) (hn : n ≤ 65536) : Calls Tryz.prog 85 #[.pointer (some ⟨bd, 0, none⟩), .slice A n c] w fun e w' => e = .returned (.int .i64 0) ∧ w = w' := by
 have h1 : decide ((n : Int) > 65536) = false := dFz (by omega)
 have h2 : ¬ ((n : Int) > 65536) := by omega
 have h3 : ¬ (65536 < n) := by omega
 go_enter Tryz.func85, Tryz.ntmps85
 go_wp2
 go_ret
 exact ⟨rfl, rfl⟩
section
variable {H : Nat} {w : World} {bd : Nat} {D : DataV} {T : List Rec}
theorem Compose13_calls (hD : DataAt H w bd D T) (hF : Fine T) (A : Option Addr) (c : Nat) (x : List Int) (n : Nat) (hn : x.length = n) (hI : Ints .i32 w A x) (hr : InI32 x) (hx : x.length ≤ 65536) (ys : List Int) (hys : composeF T x = ys) :
 Calls Tryz.prog 47 #[.pointer (some ⟨bd, 0, none⟩), .slice A n c] w (RetI ys w) := by
 subst hn
 have HQ := Az.mk (composed_calls hD hF A c x hI hr (by omega) ys hys)
 have HX := Az.mk hx
 clear hD hF hI hr hys hx
 go_enter Tryz.func47, Tryz.ntmps47
 go_wp2_with (first | (go_at_call 85; (with_reducible refine (refused13_ok _ _ _ _ _ HX.out).mono ?_); rintro e w1 ⟨rfl, rfl⟩) | (go_at_call 87; (with_reducible refine HQ.out.mono ?_); rintro e w1 ⟨v1, rfl, hown1, hup1⟩; have HO1 := Az.mk hown1; have HU1 := Az.mk hup1; clear hown1 hup1))
 go_ret2
 exact RetRow0.ints ⟨_, rfl, HO1.out, HU1.out⟩
theorem nfc_small (hF : Fine T) {x : List Int} (hx : x.length ≤ 65536) : (nfdF T x).length ≤ 10000000 := by
 unfold nfdF
 rw [sortF_length]
 have := openX_len hF x
 omega
theorem nfc_len (hF : Fine T) (x : List Int) : (nfcF T x).length ≤ 32 * x.length := by
 have h := (cmp_len T (nfdF T x) none []).1
 have h2 : (nfdF T x).length ≤ 32 * x.length := by unfold nfdF; rw [sortF_length]; exact openX_len hF x
 simp at h
 unfold nfcF composeF
 omega
theorem NFC_calls (hD : DataAt H w bd D T) (hF : Fine T) (A : Option Addr) (c : Nat) (x : List Int) (n : Nat) (hn : x.length = n) (hI : Ints .i32 w A x) (hr : InI32 x) (hx : x.length ≤ 65536) (ys : List Int) (hys : nfcF T x = ys) :
 Calls Tryz.prog 44 #[.pointer (some ⟨bd, 0, none⟩), .slice A n c] w (RetI ys w) := by
 obtain ⟨q, hq⟩ : ∃ q, nfdF T x = q := ⟨_, rfl⟩
 have HQ : Az (composeF T q = ys) := ⟨by rw [← hq]; exact hys⟩
 have HQL : Az (q.length ≤ 10000000) := ⟨by rw [← hq]; exact nfc_small hF hx⟩
 have HQR : Az (InI32 q) := ⟨by rw [← hq]; exact sortF_range T (openX_range hF hF.wf hr)⟩
 have HN := Az.mk (NFD_i hD hF hF.wf A c x n hn hI hr hx q hq)
 have HX : Az (n ≤ 65536) := ⟨by rw [← hn]; exact hx⟩
 have HD := Az.mk hD
 have HF := Az.mk hF
 clear hD hF hI hr hys hx hq hn
 go_enter Tryz.func44, Tryz.ntmps44
 go_wp2_with (first | (go_at_call 85; (with_reducible refine (refused13_ok _ _ _ _ _ HX.out).mono ?_); rintro e w1 ⟨rfl, rfl⟩) | (go_at_call 24; (with_reducible refine HN.out.mono ?_); rintro e w1 ⟨A1, c1, rfl, _, hi, hup1⟩; have HI1 := Az.mk hi; have HU1 := Az.mk hup1; clear hi hup1) |
  (go_at_call 87; (with_reducible refine (composed_calls (HD.out.up HU1.out) HF.out A1 c1 q HI1.out HQR.out HQL.out ys HQ.out).mono ?_); rintro e w2 ⟨v2, rfl, hown2, hup2⟩; have HO2 := Az.mk hown2; have HU2 := Az.mk hup2; clear hown2 hup2))
 go_ret2
 exact RetRow0.ints ⟨_, rfl, own_base HO2.out HU1.out.size, up_trans HU1.out HU2.out⟩
end
theorem NFC_nil (A : Option Addr) (n c : Nat) (w : World) : Calls Tryz.prog 44 #[.pointer none, .slice A n c] w fun e w' => e = .returned (.tuple #[.slice none 0 0, .int .i64 1]) ∧ Up w w' := by
 go_enter Tryz.func44, Tryz.ntmps44
 go_wp2_with (first | (go_at_call 85; (with_reducible refine (refused13_nil _ _ _ _).mono ?_); rintro e w1 ⟨rfl, rfl⟩))
 go_ret2
 exact ⟨rfl, up_refl _⟩
theorem open_range {T : List Rec} (hF : Fine T) {c : Int} {l : List Int} (h : openF T c = l) (hc : -2147483648 ≤ c ∧ c ≤ 2147483647) : InI32 l := by
 subst h
 unfold openF
 split
 ·rename_i hs
  have h1 := syl_iff hs
  intro z hz
  rcases List.mem_cons.1 hz with rfl | hz
  ·unfold sylA; split <;> omega
  ·rw [List.mem_singleton.1 hz]; unfold sylB; split <;> omega
 ·split
  ·rename_i r hr
   exact fun z hz => St.wf_i32 ((hF.wf r (findR_some hr).1).to z hz)
  ·intro z hz; cases hz
theorem bad_nil {T : List Rec} {c : Int} (h : openF T c = []) : badF T c = false := shut_bad h
theorem bad_len {T : List Rec} {c : Int} (h0 : openF T c ≠ []) (h2 : (openF T c).length ≠ 2) : badF T c = true := by
 unfold badF againF
 rw [show (openF T c == []) = false from beq_eq_false_iff_ne.2 h0]
 split
 ·rename_i a b hab
  rw [hab] at h2
  exact absurd rfl h2
 ·rfl
theorem bad_two {T : List Rec} {c a b p : Int} {ok : Bool} (h : openF T c = [a, b]) (hc : compF T a b = (p, ok)) : badF T c = !(ok && decide (p = c)) := by
 unfold badF againF
 rw [h]
 show (!([a, b] == ([] : List Int)) && !((compF T a b).2 && decide ((compF T a b).1 = c))) = _
 rw [hc]
 rfl
theorem two_list {l : List Int} (h : l.length = 2) : ∃ a b, l = [a, b] := by
 match l, h with
 | [a, b], _ => exact ⟨a, b, rfl⟩
section
variable {H : Nat} {w : World} {bd : Nat} {D : DataV} {T : List Rec}
theorem found_tail (hD : DataAt H w bd D T) (hF : Fine T) (c : Int) (hc : -2147483648 ≤ c ∧ c ≤ 2147483647) : ∃ z u, fullL T c = z :: u ∧ (-2147483648 ≤ z ∧ z ≤ 2147483647) := by
 cases hf : fullL T c with
 | nil => exact absurd hf (hF.full_shut c).2
 | cons z u =>
   refine ⟨z, u, rfl, ?_⟩
   have := openX_range hF hF.wf (x := [c]) (fun y hy => by rw [List.mem_singleton.1 hy]; exact hc)
   exact this z (by unfold openX; simp [hf])
theorem found_calls (hD : DataAt H w bd D T) (hF : Fine T) (c : Int) (hc : -2147483648 ≤ c ∧ c ≤ 2147483647) (r : Int) (hr : foundF T c = r) :
 Calls Tryz.prog 86 #[.pointer (some ⟨bd, 0, none⟩), .int .i32 c] w fun e w' => e = .returned (.int .i64 r) ∧ Up w w' := by
 obtain ⟨z, u, hfu, hzr⟩ := found_tail hD hF c hc
 obtain ⟨b2, hb2⟩ : ∃ b2, secondF T z = b2 := ⟨_, rfl⟩
 have HFU := Az.mk hfu
 have HZR := Az.mk hzr
 have HB2 := Az.mk hb2
 have HD := Az.mk hD
 have HF := Az.mk hF
 have HC := Az.mk hc
 have hr0 : (if badF T c then 2 else if b2 then 1 else 0) = r := by
  rw [← hr]
  unfold foundF
  rw [hfu, show rd (z :: u) 0 = z from rfl, hb2]
 obtain ⟨l, hl⟩ : ∃ l, openF T c = l := ⟨_, rfl⟩
 have HO := Az.mk hl
 have HLR : Az (InI32 l) := ⟨open_range hF hl hc⟩
 have HOC := Az.mk (hD.Open hF.toGood c l hl hc.1 hc.2)
 obtain ⟨_, ⟨a7, a8, a9, a10, a11⟩, _, _, _, _, _⟩ := hD.all
 have HS0 : Az (∀ W, Up w W → (fun w' => w'.cell? ⟨bd, 7, none⟩ = some (.map (some D.bo)) ∧ w'.cell? ⟨bd, 8, none⟩ = some (.map (some D.bf)) ∧ w'.cell? ⟨bd, 9, none⟩ = some (.map (some D.bl)) ∧ w'.cell? ⟨bd, 10, none⟩ = some (.map (some D.bc)) ∧ w'.cell? ⟨bd, 11, none⟩ = some (.map (some D.bs))) W) := ⟨fun W hW => ⟨up_cell hW a7, up_cell hW a8, up_cell hW a9, up_cell hW a10, up_cell hW a11⟩⟩
 clear hr hfu hzr hb2 hD hc
 by_cases hl0 : l = []
 ·subst hl0
  rw [bad_nil hl] at hr0
  have HR := Az.mk hr0
  clear hr0 hl hF
  cases b2 with
  | true =>
    go_enter Tryz.func86, Tryz.ntmps86
    go_wp2_with (first | (go_at_call 38; (with_reducible refine HOC.out.mono ?_); rintro e w1 ⟨v1, rfl, hown, hup⟩; obtain ⟨A1, c1, hv, hi, _⟩ := own_ints hown; subst hv; have HU1 := Az.mk hup; clear hown hup hi))
    refine wp_region_held_drew (S := (fun w' => w'.cell? ⟨bd, 7, none⟩ = some (.map (some D.bo)) ∧ w'.cell? ⟨bd, 8, none⟩ = some (.map (some D.bf)) ∧ w'.cell? ⟨bd, 9, none⟩ = some (.map (some D.bl)) ∧ w'.cell? ⟨bd, 10, none⟩ = some (.map (some D.bc)) ∧ w'.cell? ⟨bd, 11, none⟩ = some (.map (some D.bs)))) (by kernel_rfl) (HS0.out _ (up_drew HU1.out)) (fun hHeld => ?_)
    refine takeR 0 ?_
    (try simp only [Act.put, List.setIfInBounds_toArray, List.set_cons_zero, List.set_cons_succ, List.getElem_toArray, List.getElem_cons_zero, List.getElem_cons_succ])
    refine takeR 1 ?_
    (try simp only [Act.put, List.setIfInBounds_toArray, List.set_cons_zero, List.set_cons_succ, List.getElem_toArray, List.getElem_cons_zero, List.getElem_cons_succ])
    refine takeR 2 ?_
    (try simp only [Act.put, List.setIfInBounds_toArray, List.set_cons_zero, List.set_cons_succ, List.getElem_toArray, List.getElem_cons_zero, List.getElem_cons_succ])
    refine takeR 3 ?_
    (try simp only [Act.put, List.setIfInBounds_toArray, List.set_cons_zero, List.set_cons_succ, List.getElem_toArray, List.getElem_cons_zero, List.getElem_cons_succ])
    refine takeR 4 ?_
    (try simp only [Act.put, List.setIfInBounds_toArray, List.set_cons_zero, List.set_cons_succ, List.getElem_toArray, List.getElem_cons_zero, List.getElem_cons_succ])
    refine takeR 5 ?_
    (try simp only [Act.put, List.setIfInBounds_toArray, List.set_cons_zero, List.set_cons_succ, List.getElem_toArray, List.getElem_cons_zero, List.getElem_cons_succ])
    refine takeR 6 ?_
    (try simp only [Act.put, List.setIfInBounds_toArray, List.set_cons_zero, List.set_cons_succ, List.getElem_toArray, List.getElem_cons_zero, List.getElem_cons_succ])
    refine takeR 7 ?_
    (try simp only [Act.put, List.setIfInBounds_toArray, List.set_cons_zero, List.set_cons_succ, List.getElem_toArray, List.getElem_cons_zero, List.getElem_cons_succ])
    refine takeR 8 ?_
    (try simp only [Act.put, List.setIfInBounds_toArray, List.set_cons_zero, List.set_cons_succ, List.getElem_toArray, List.getElem_cons_zero, List.getElem_cons_succ])
    refine wpAnyH_ready (rs := [9]) (by kernel_rfl) (by simp) ?_
    refine AllReadyH.cons rfl (fun K hK => ?_) AllReadyH.nil
    go_simp
    (go_at_call 28; (with_reducible refine ((HD.out.up (up_drew HU1.out)).Full HF.out _ (z :: u) HFU.out HC.out.1 HC.out.2).mono ?_); rintro e w2 ⟨v2, rfl, hown, hup⟩; obtain ⟨A2, c2, hv, hi, _⟩ := own_ints hown; subst hv; have HU2 := Az.mk (up_trans (up_drew HU1.out) hup); obtain ⟨adz, hAz, yz⟩ := hi.at_ 0 (by omega) (by simp); have yz2 : w2.cell? adz = some (.int .i32 z) := (by cases adz; exact yz); subst hAz; clear hown hup hi yz)
    refine hK.out _ _ (HS0.out _ HU2.out) (fun hHeld => ?_)
    clear hK K
    (try simp only [Act.put, List.setIfInBounds_toArray, List.set_cons_zero, List.set_cons_succ, List.getElem_toArray, List.getElem_cons_zero, List.getElem_cons_succ])
    refine takeR 10 ?_
    (try simp only [Act.put, List.setIfInBounds_toArray, List.set_cons_zero, List.set_cons_succ, List.getElem_toArray, List.getElem_cons_zero, List.getElem_cons_succ])
    refine wpAnyH_ready (rs := [11]) (by kernel_rfl) (by simp) ?_
    refine AllReadyH.cons rfl (fun K hK => ?_) AllReadyH.nil
    go_simp
    refine hK.out _ _ (HS0.out _ HU2.out) (fun hHeld => ?_)
    clear hK K
    (try simp only [Act.put, List.setIfInBounds_toArray, List.set_cons_zero, List.set_cons_succ, List.getElem_toArray, List.getElem_cons_zero, List.getElem_cons_succ])
    refine wpAnyH_ready (rs := [12]) (by kernel_rfl) (by simp) ?_
    refine AllReadyH.cons rfl (fun K hK => ?_) AllReadyH.nil
    go_simp
    (go_at_call 136; (with_reducible refine ((HD.out.up HU2.out).Second z _ HB2.out HZR.out.1 HZR.out.2).mono ?_); rintro e w3 ⟨rfl, hup⟩; have HU3 := Az.mk (up_trans HU2.out hup); clear hup)
    refine hK.out _ _ (HS0.out _ HU3.out) (fun hHeld => ?_)
    clear hK K
    (try simp only [Act.put, List.setIfInBounds_toArray, List.set_cons_zero, List.set_cons_succ, List.getElem_toArray, List.getElem_cons_zero, List.getElem_cons_succ])
    refine wpAnyH_done (by kernel_rfl) ?_ _
    go_wp2
    go_ret
    exact ⟨by rw [← HR.out]; rfl, HU3.out⟩
  | false =>
    go_enter Tryz.func86, Tryz.ntmps86
    go_wp2_with (first | (go_at_call 38; (with_reducible refine HOC.out.mono ?_); rintro e w1 ⟨v1, rfl, hown, hup⟩; obtain ⟨A1, c1, hv, hi, _⟩ := own_ints hown; subst hv; have HU1 := Az.mk hup; clear hown hup hi))
    refine wp_region_held_drew (S := (fun w' => w'.cell? ⟨bd, 7, none⟩ = some (.map (some D.bo)) ∧ w'.cell? ⟨bd, 8, none⟩ = some (.map (some D.bf)) ∧ w'.cell? ⟨bd, 9, none⟩ = some (.map (some D.bl)) ∧ w'.cell? ⟨bd, 10, none⟩ = some (.map (some D.bc)) ∧ w'.cell? ⟨bd, 11, none⟩ = some (.map (some D.bs)))) (by kernel_rfl) (HS0.out _ (up_drew HU1.out)) (fun hHeld => ?_)
    refine takeR 0 ?_
    (try simp only [Act.put, List.setIfInBounds_toArray, List.set_cons_zero, List.set_cons_succ, List.getElem_toArray, List.getElem_cons_zero, List.getElem_cons_succ])
    refine takeR 1 ?_
    (try simp only [Act.put, List.setIfInBounds_toArray, List.set_cons_zero, List.set_cons_succ, List.getElem_toArray, List.getElem_cons_zero, List.getElem_cons_succ])
    refine takeR 2 ?_
    (try simp only [Act.put, List.setIfInBounds_toArray, List.set_cons_zero, List.set_cons_succ, List.getElem_toArray, List.getElem_cons_zero, List.getElem_cons_succ])
    refine takeR 3 ?_
    (try simp only [Act.put, List.setIfInBounds_toArray, List.set_cons_zero, List.set_cons_succ, List.getElem_toArray, List.getElem_cons_zero, List.getElem_cons_succ])
    refine takeR 4 ?_
    (try simp only [Act.put, List.setIfInBounds_toArray, List.set_cons_zero, List.set_cons_succ, List.getElem_toArray, List.getElem_cons_zero, List.getElem_cons_succ])
    refine takeR 5 ?_
    (try simp only [Act.put, List.setIfInBounds_toArray, List.set_cons_zero, List.set_cons_succ, List.getElem_toArray, List.getElem_cons_zero, List.getElem_cons_succ])
    refine takeR 6 ?_
    (try simp only [Act.put, List.setIfInBounds_toArray, List.set_cons_zero, List.set_cons_succ, List.getElem_toArray, List.getElem_cons_zero, List.getElem_cons_succ])
    refine takeR 7 ?_
    (try simp only [Act.put, List.setIfInBounds_toArray, List.set_cons_zero, List.set_cons_succ, List.getElem_toArray, List.getElem_cons_zero, List.getElem_cons_succ])
    refine takeR 8 ?_
    (try simp only [Act.put, List.setIfInBounds_toArray, List.set_cons_zero, List.set_cons_succ, List.getElem_toArray, List.getElem_cons_zero, List.getElem_cons_succ])
    refine wpAnyH_ready (rs := [9]) (by kernel_rfl) (by simp) ?_
    refine AllReadyH.cons rfl (fun K hK => ?_) AllReadyH.nil
    go_simp
    (go_at_call 28; (with_reducible refine ((HD.out.up (up_drew HU1.out)).Full HF.out _ (z :: u) HFU.out HC.out.1 HC.out.2).mono ?_); rintro e w2 ⟨v2, rfl, hown, hup⟩; obtain ⟨A2, c2, hv, hi, _⟩ := own_ints hown; subst hv; have HU2 := Az.mk (up_trans (up_drew HU1.out) hup); obtain ⟨adz, hAz, yz⟩ := hi.at_ 0 (by omega) (by simp); have yz2 : w2.cell? adz = some (.int .i32 z) := (by cases adz; exact yz); subst hAz; clear hown hup hi yz)
    refine hK.out _ _ (HS0.out _ HU2.out) (fun hHeld => ?_)
    clear hK K
    (try simp only [Act.put, List.setIfInBounds_toArray, List.set_cons_zero, List.set_cons_succ, List.getElem_toArray, List.getElem_cons_zero, List.getElem_cons_succ])
    refine takeR 10 ?_
    (try simp only [Act.put, List.setIfInBounds_toArray, List.set_cons_zero, List.set_cons_succ, List.getElem_toArray, List.getElem_cons_zero, List.getElem_cons_succ])
    refine wpAnyH_ready (rs := [11]) (by kernel_rfl) (by simp) ?_
    refine AllReadyH.cons rfl (fun K hK => ?_) AllReadyH.nil
    go_simp
    refine hK.out _ _ (HS0.out _ HU2.out) (fun hHeld => ?_)
    clear hK K
    (try simp only [Act.put, List.setIfInBounds_toArray, List.set_cons_zero, List.set_cons_succ, List.getElem_toArray, List.getElem_cons_zero, List.getElem_cons_succ])
    refine wpAnyH_ready (rs := [12]) (by kernel_rfl) (by simp) ?_
    refine AllReadyH.cons rfl (fun K hK => ?_) AllReadyH.nil
    go_simp
    (go_at_call 136; (with_reducible refine ((HD.out.up HU2.out).Second z _ HB2.out HZR.out.1 HZR.out.2).mono ?_); rintro e w3 ⟨rfl, hup⟩; have HU3 := Az.mk (up_trans HU2.out hup); clear hup)
    refine hK.out _ _ (HS0.out _ HU3.out) (fun hHeld => ?_)
    clear hK K
    (try simp only [Act.put, List.setIfInBounds_toArray, List.set_cons_zero, List.set_cons_succ, List.getElem_toArray, List.getElem_cons_zero, List.getElem_cons_succ])
    refine wpAnyH_done (by kernel_rfl) ?_ _
    go_wp2
    go_ret
    exact ⟨by rw [← HR.out]; rfl, HU3.out⟩
 ·have hlp : 0 < l.length := List.length_pos_iff.2 hl0
  have g0 : decide ((l.length : Int) > 0) = true := dTz (by omega)
  by_cases hl2 : l.length = 2
  ·obtain ⟨a, b, rfl⟩ := two_list hl2
   obtain ⟨p, ok, hpk⟩ : ∃ p ok, compF T a b = (p, ok) := ⟨_, _, rfl⟩
   rw [bad_two hl hpk] at hr0
   have HPK := Az.mk hpk
   have HAR : Az (-2147483648 ≤ a ∧ a ≤ 2147483647) := ⟨HLR.out a (by simp)⟩
   have HBR : Az (-2147483648 ≤ b ∧ b ≤ 2147483647) := ⟨HLR.out b (by simp)⟩
   clear hl hl0 hlp hl2 hpk hF g0
   have key : ∀ (g : Bool), (ok && decide (p = c)) = g → (if (!g) = true then 2 else if b2 = true then 1 else 0) = r → Calls Tryz.prog 86 #[.pointer (some ⟨bd, 0, none⟩), .int .i32 c] w fun e w' => e = .returned (.int .i64 r) ∧ Up w w' := by
    intro g hg hr
    have HR := Az.mk hr
    cases g with
    | false =>
      have HG := Az.mk hg
      cases ok with
      | false =>
        clear hg hr hr0
        go_enter Tryz.func86, Tryz.ntmps86
        go_wp2_with (first | (go_at_call 38; (with_reducible refine HOC.out.mono ?_); rintro e w1 ⟨v1, rfl, hown, hup⟩; obtain ⟨A1, c1, hv, hi, _⟩ := own_ints hown; subst hv; have HU1 := Az.mk hup; obtain ⟨ad, hA, ya⟩ := hi.at_ 0 (by omega) (by simp); obtain ⟨ad', hA', yb⟩ := hi.at_ 1 (by omega) (by simp); have hyy : w1.cell? ad = some (.int .i32 a) ∧ w1.cell? ⟨ad.block, ad.off + 1, none⟩ = some (.int .i32 b) := (by rw [hA] at hA'; cases hA'; exact ⟨(by cases ad; exact ya), yb⟩); have HYY := Az.mk hyy; subst hA; clear hA' ya yb hyy; clear hown hup hi))
        have HS1 : Az (∀ W, Up w1 W → (fun w' => w'.cell? ⟨bd, 7, none⟩ = some (.map (some D.bo)) ∧ w'.cell? ⟨bd, 8, none⟩ = some (.map (some D.bf)) ∧ w'.cell? ⟨bd, 9, none⟩ = some (.map (some D.bl)) ∧ w'.cell? ⟨bd, 10, none⟩ = some (.map (some D.bc)) ∧ w'.cell? ⟨bd, 11, none⟩ = some (.map (some D.bs)) ∧ w'.cell? ad = some (.int .i32 a) ∧ w'.cell? ⟨ad.block, ad.off + 1, none⟩ = some (.int .i32 b)) W) := ⟨fun W hW => ⟨(HS0.out W (up_trans HU1.out hW)).1, (HS0.out W (up_trans HU1.out hW)).2.1, (HS0.out W (up_trans HU1.out hW)).2.2.1, (HS0.out W (up_trans HU1.out hW)).2.2.2.1, (HS0.out W (up_trans HU1.out hW)).2.2.2.2, up_cell hW HYY.out.1, up_cell hW HYY.out.2⟩⟩
        go_region_held3 (fun w' => w'.cell? ⟨bd, 7, none⟩ = some (.map (some D.bo)) ∧ w'.cell? ⟨bd, 8, none⟩ = some (.map (some D.bf)) ∧ w'.cell? ⟨bd, 9, none⟩ = some (.map (some D.bl)) ∧ w'.cell? ⟨bd, 10, none⟩ = some (.map (some D.bc)) ∧ w'.cell? ⟨bd, 11, none⟩ = some (.map (some D.bs)) ∧ w'.cell? ad = some (.int .i32 a) ∧ w'.cell? ⟨ad.block, ad.off + 1, none⟩ = some (.int .i32 b)) (first | exact HS1.out _ (up_drew (up_refl _)) | exact HS1.out _ HV2.out) (first | (go_at_call 46; (with_reducible refine ((HD.out.up (up_drew HU1.out)).Compose a b p _ HPK.out HAR.out.1 HAR.out.2 HBR.out.1 HBR.out.2).mono ?_); rintro e w2 ⟨rfl, hup⟩; have HU2 := Az.mk (up_trans (up_drew HU1.out) hup); have HV2 := Az.mk (up_trans (up_drew (up_refl w1)) hup); clear hup))
        go_wp2
        go_ret
        exact ⟨by rw [← HR.out]; rfl, HU2.out⟩
      | true =>
        have hpc : p ≠ c := fun h => by rw [h] at hg; simp at hg
        have e1 : (p != c) = true := bne_iff_ne.mpr hpc
        clear hg hr hr0 hpc
        go_enter Tryz.func86, Tryz.ntmps86
        go_wp2_with (first | (go_at_call 38; (with_reducible refine HOC.out.mono ?_); rintro e w1 ⟨v1, rfl, hown, hup⟩; obtain ⟨A1, c1, hv, hi, _⟩ := own_ints hown; subst hv; have HU1 := Az.mk hup; obtain ⟨ad, hA, ya⟩ := hi.at_ 0 (by omega) (by simp); obtain ⟨ad', hA', yb⟩ := hi.at_ 1 (by omega) (by simp); have hyy : w1.cell? ad = some (.int .i32 a) ∧ w1.cell? ⟨ad.block, ad.off + 1, none⟩ = some (.int .i32 b) := (by rw [hA] at hA'; cases hA'; exact ⟨(by cases ad; exact ya), yb⟩); have HYY := Az.mk hyy; subst hA; clear hA' ya yb hyy; clear hown hup hi))
        have HS1 : Az (∀ W, Up w1 W → (fun w' => w'.cell? ⟨bd, 7, none⟩ = some (.map (some D.bo)) ∧ w'.cell? ⟨bd, 8, none⟩ = some (.map (some D.bf)) ∧ w'.cell? ⟨bd, 9, none⟩ = some (.map (some D.bl)) ∧ w'.cell? ⟨bd, 10, none⟩ = some (.map (some D.bc)) ∧ w'.cell? ⟨bd, 11, none⟩ = some (.map (some D.bs)) ∧ w'.cell? ad = some (.int .i32 a) ∧ w'.cell? ⟨ad.block, ad.off + 1, none⟩ = some (.int .i32 b)) W) := ⟨fun W hW => ⟨(HS0.out W (up_trans HU1.out hW)).1, (HS0.out W (up_trans HU1.out hW)).2.1, (HS0.out W (up_trans HU1.out hW)).2.2.1, (HS0.out W (up_trans HU1.out hW)).2.2.2.1, (HS0.out W (up_trans HU1.out hW)).2.2.2.2, up_cell hW HYY.out.1, up_cell hW HYY.out.2⟩⟩
        go_region_held3 (fun w' => w'.cell? ⟨bd, 7, none⟩ = some (.map (some D.bo)) ∧ w'.cell? ⟨bd, 8, none⟩ = some (.map (some D.bf)) ∧ w'.cell? ⟨bd, 9, none⟩ = some (.map (some D.bl)) ∧ w'.cell? ⟨bd, 10, none⟩ = some (.map (some D.bc)) ∧ w'.cell? ⟨bd, 11, none⟩ = some (.map (some D.bs)) ∧ w'.cell? ad = some (.int .i32 a) ∧ w'.cell? ⟨ad.block, ad.off + 1, none⟩ = some (.int .i32 b)) (first | exact HS1.out _ (up_drew (up_refl _)) | exact HS1.out _ HV2.out) (first | (go_at_call 46; (with_reducible refine ((HD.out.up (up_drew HU1.out)).Compose a b p _ HPK.out HAR.out.1 HAR.out.2 HBR.out.1 HBR.out.2).mono ?_); rintro e w2 ⟨rfl, hup⟩; have HU2 := Az.mk (up_trans (up_drew HU1.out) hup); have HV2 := Az.mk (up_trans (up_drew (up_refl w1)) hup); clear hup))
        go_wp2
        go_ret
        exact ⟨by rw [← HR.out]; rfl, HU2.out⟩
    | true =>
      have hpc : p = c := by cases ok <;> simp at hg; exact hg
      have hok : ok = true := by cases ok <;> simp at hg; rfl
      subst hpc
      subst hok
      clear hg hr hr0
      cases b2 with
      | true =>
        go_enter Tryz.func86, Tryz.ntmps86
        go_wp2_with (first | (go_at_call 38; (with_reducible refine HOC.out.mono ?_); rintro e w1 ⟨v1, rfl, hown, hup⟩; obtain ⟨A1, c1, hv, hi, _⟩ := own_ints hown; subst hv; have HU1 := Az.mk hup; obtain ⟨ad, hA, ya⟩ := hi.at_ 0 (by omega) (by simp); obtain ⟨ad', hA', yb⟩ := hi.at_ 1 (by omega) (by simp); have hyy : w1.cell? ad = some (.int .i32 a) ∧ w1.cell? ⟨ad.block, ad.off + 1, none⟩ = some (.int .i32 b) := (by rw [hA] at hA'; cases hA'; exact ⟨(by cases ad; exact ya), yb⟩); have HYY := Az.mk hyy; subst hA; clear hA' ya yb hyy; clear hown hup hi))
        have HS1 : Az (∀ W, Up w1 W → (fun w' => w'.cell? ⟨bd, 7, none⟩ = some (.map (some D.bo)) ∧ w'.cell? ⟨bd, 8, none⟩ = some (.map (some D.bf)) ∧ w'.cell? ⟨bd, 9, none⟩ = some (.map (some D.bl)) ∧ w'.cell? ⟨bd, 10, none⟩ = some (.map (some D.bc)) ∧ w'.cell? ⟨bd, 11, none⟩ = some (.map (some D.bs)) ∧ w'.cell? ad = some (.int .i32 a) ∧ w'.cell? ⟨ad.block, ad.off + 1, none⟩ = some (.int .i32 b)) W) := ⟨fun W hW => ⟨(HS0.out W (up_trans HU1.out hW)).1, (HS0.out W (up_trans HU1.out hW)).2.1, (HS0.out W (up_trans HU1.out hW)).2.2.1, (HS0.out W (up_trans HU1.out hW)).2.2.2.1, (HS0.out W (up_trans HU1.out hW)).2.2.2.2, up_cell hW HYY.out.1, up_cell hW HYY.out.2⟩⟩
        go_region_held3 (fun w' => w'.cell? ⟨bd, 7, none⟩ = some (.map (some D.bo)) ∧ w'.cell? ⟨bd, 8, none⟩ = some (.map (some D.bf)) ∧ w'.cell? ⟨bd, 9, none⟩ = some (.map (some D.bl)) ∧ w'.cell? ⟨bd, 10, none⟩ = some (.map (some D.bc)) ∧ w'.cell? ⟨bd, 11, none⟩ = some (.map (some D.bs)) ∧ w'.cell? ad = some (.int .i32 a) ∧ w'.cell? ⟨ad.block, ad.off + 1, none⟩ = some (.int .i32 b)) (first | exact HS1.out _ (up_drew (up_refl _)) | exact HS1.out _ HV2.out) (first | (go_at_call 46; (with_reducible refine ((HD.out.up (up_drew HU1.out)).Compose a b p _ HPK.out HAR.out.1 HAR.out.2 HBR.out.1 HBR.out.2).mono ?_); rintro e w2 ⟨rfl, hup⟩; have HU2 := Az.mk (up_trans (up_drew HU1.out) hup); have HV2 := Az.mk (up_trans (up_drew (up_refl w1)) hup); clear hup))
        go_wp2
        refine wp_region_held_drew (S := (fun w' => w'.cell? ⟨bd, 7, none⟩ = some (.map (some D.bo)) ∧ w'.cell? ⟨bd, 8, none⟩ = some (.map (some D.bf)) ∧ w'.cell? ⟨bd, 9, none⟩ = some (.map (some D.bl)) ∧ w'.cell? ⟨bd, 10, none⟩ = some (.map (some D.bc)) ∧ w'.cell? ⟨bd, 11, none⟩ = some (.map (some D.bs)))) (by kernel_rfl) (HS0.out _ (up_drew HU2.out)) (fun hHeld => ?_)
        refine takeR 0 ?_
        (try simp only [Act.put, List.setIfInBounds_toArray, List.set_cons_zero, List.set_cons_succ, List.getElem_toArray, List.getElem_cons_zero, List.getElem_cons_succ])
        refine takeR 1 ?_
        (try simp only [Act.put, List.setIfInBounds_toArray, List.set_cons_zero, List.set_cons_succ, List.getElem_toArray, List.getElem_cons_zero, List.getElem_cons_succ])
        refine takeR 2 ?_
        (try simp only [Act.put, List.setIfInBounds_toArray, List.set_cons_zero, List.set_cons_succ, List.getElem_toArray, List.getElem_cons_zero, List.getElem_cons_succ])
        refine takeR 3 ?_
        (try simp only [Act.put, List.setIfInBounds_toArray, List.set_cons_zero, List.set_cons_succ, List.getElem_toArray, List.getElem_cons_zero, List.getElem_cons_succ])
        refine takeR 4 ?_
        (try simp only [Act.put, List.setIfInBounds_toArray, List.set_cons_zero, List.set_cons_succ, List.getElem_toArray, List.getElem_cons_zero, List.getElem_cons_succ])
        refine takeR 5 ?_
        (try simp only [Act.put, List.setIfInBounds_toArray, List.set_cons_zero, List.set_cons_succ, List.getElem_toArray, List.getElem_cons_zero, List.getElem_cons_succ])
        refine takeR 6 ?_
        (try simp only [Act.put, List.setIfInBounds_toArray, List.set_cons_zero, List.set_cons_succ, List.getElem_toArray, List.getElem_cons_zero, List.getElem_cons_succ])
        refine takeR 7 ?_
        (try simp only [Act.put, List.setIfInBounds_toArray, List.set_cons_zero, List.set_cons_succ, List.getElem_toArray, List.getElem_cons_zero, List.getElem_cons_succ])
        refine takeR 8 ?_
        (try simp only [Act.put, List.setIfInBounds_toArray, List.set_cons_zero, List.set_cons_succ, List.getElem_toArray, List.getElem_cons_zero, List.getElem_cons_succ])
        refine wpAnyH_ready (rs := [9]) (by kernel_rfl) (by simp) ?_
        refine AllReadyH.cons rfl (fun K hK => ?_) AllReadyH.nil
        go_simp
        (go_at_call 28; (with_reducible refine ((HD.out.up (up_drew HU2.out)).Full HF.out _ (z :: u) HFU.out HC.out.1 HC.out.2).mono ?_); rintro e w3 ⟨v3, rfl, hown, hup⟩; obtain ⟨A3, c3, hv, hi, _⟩ := own_ints hown; subst hv; have HU3 := Az.mk (up_trans (up_drew HU2.out) hup); obtain ⟨adz, hAz, yz⟩ := hi.at_ 0 (by omega) (by simp); have yz2 : w3.cell? adz = some (.int .i32 z) := (by cases adz; exact yz); subst hAz; clear hown hup hi yz)
        refine hK.out _ _ (HS0.out _ HU3.out) (fun hHeld => ?_)
        clear hK K
        (try simp only [Act.put, List.setIfInBounds_toArray, List.set_cons_zero, List.set_cons_succ, List.getElem_toArray, List.getElem_cons_zero, List.getElem_cons_succ])
        refine takeR 10 ?_
        (try simp only [Act.put, List.setIfInBounds_toArray, List.set_cons_zero, List.set_cons_succ, List.getElem_toArray, List.getElem_cons_zero, List.getElem_cons_succ])
        refine wpAnyH_ready (rs := [11]) (by kernel_rfl) (by simp) ?_
        refine AllReadyH.cons rfl (fun K hK => ?_) AllReadyH.nil
        go_simp
        refine hK.out _ _ (HS0.out _ HU3.out) (fun hHeld => ?_)
        clear hK K
        (try simp only [Act.put, List.setIfInBounds_toArray, List.set_cons_zero, List.set_cons_succ, List.getElem_toArray, List.getElem_cons_zero, List.getElem_cons_succ])
        refine wpAnyH_ready (rs := [12]) (by kernel_rfl) (by simp) ?_
        refine AllReadyH.cons rfl (fun K hK => ?_) AllReadyH.nil
        go_simp
        (go_at_call 136; (with_reducible refine ((HD.out.up HU3.out).Second z _ HB2.out HZR.out.1 HZR.out.2).mono ?_); rintro e w4 ⟨rfl, hup⟩; have HU4 := Az.mk (up_trans HU3.out hup); clear hup)
        refine hK.out _ _ (HS0.out _ HU4.out) (fun hHeld => ?_)
        clear hK K
        (try simp only [Act.put, List.setIfInBounds_toArray, List.set_cons_zero, List.set_cons_succ, List.getElem_toArray, List.getElem_cons_zero, List.getElem_cons_succ])
        refine wpAnyH_done (by kernel_rfl) ?_ _
        go_wp2
        go_ret
        exact ⟨by rw [← HR.out]; rfl, HU4.out⟩
      | false =>
        go_enter Tryz.func86, Tryz.ntmps86
        go_wp2_with (first | (go_at_call 38; (with_reducible refine HOC.out.mono ?_); rintro e w1 ⟨v1, rfl, hown, hup⟩; obtain ⟨A1, c1, hv, hi, _⟩ := own_ints hown; subst hv; have HU1 := Az.mk hup; obtain ⟨ad, hA, ya⟩ := hi.at_ 0 (by omega) (by simp); obtain ⟨ad', hA', yb⟩ := hi.at_ 1 (by omega) (by simp); have hyy : w1.cell? ad = some (.int .i32 a) ∧ w1.cell? ⟨ad.block, ad.off + 1, none⟩ = some (.int .i32 b) := (by rw [hA] at hA'; cases hA'; exact ⟨(by cases ad; exact ya), yb⟩); have HYY := Az.mk hyy; subst hA; clear hA' ya yb hyy; clear hown hup hi))
        have HS1 : Az (∀ W, Up w1 W → (fun w' => w'.cell? ⟨bd, 7, none⟩ = some (.map (some D.bo)) ∧ w'.cell? ⟨bd, 8, none⟩ = some (.map (some D.bf)) ∧ w'.cell? ⟨bd, 9, none⟩ = some (.map (some D.bl)) ∧ w'.cell? ⟨bd, 10, none⟩ = some (.map (some D.bc)) ∧ w'.cell? ⟨bd, 11, none⟩ = some (.map (some D.bs)) ∧ w'.cell? ad = some (.int .i32 a) ∧ w'.cell? ⟨ad.block, ad.off + 1, none⟩ = some (.int .i32 b)) W) := ⟨fun W hW => ⟨(HS0.out W (up_trans HU1.out hW)).1, (HS0.out W (up_trans HU1.out hW)).2.1, (HS0.out W (up_trans HU1.out hW)).2.2.1, (HS0.out W (up_trans HU1.out hW)).2.2.2.1, (HS0.out W (up_trans HU1.out hW)).2.2.2.2, up_cell hW HYY.out.1, up_cell hW HYY.out.2⟩⟩
        go_region_held3 (fun w' => w'.cell? ⟨bd, 7, none⟩ = some (.map (some D.bo)) ∧ w'.cell? ⟨bd, 8, none⟩ = some (.map (some D.bf)) ∧ w'.cell? ⟨bd, 9, none⟩ = some (.map (some D.bl)) ∧ w'.cell? ⟨bd, 10, none⟩ = some (.map (some D.bc)) ∧ w'.cell? ⟨bd, 11, none⟩ = some (.map (some D.bs)) ∧ w'.cell? ad = some (.int .i32 a) ∧ w'.cell? ⟨ad.block, ad.off + 1, none⟩ = some (.int .i32 b)) (first | exact HS1.out _ (up_drew (up_refl _)) | exact HS1.out _ HV2.out) (first | (go_at_call 46; (with_reducible refine ((HD.out.up (up_drew HU1.out)).Compose a b p _ HPK.out HAR.out.1 HAR.out.2 HBR.out.1 HBR.out.2).mono ?_); rintro e w2 ⟨rfl, hup⟩; have HU2 := Az.mk (up_trans (up_drew HU1.out) hup); have HV2 := Az.mk (up_trans (up_drew (up_refl w1)) hup); clear hup))
        go_wp2
        refine wp_region_held_drew (S := (fun w' => w'.cell? ⟨bd, 7, none⟩ = some (.map (some D.bo)) ∧ w'.cell? ⟨bd, 8, none⟩ = some (.map (some D.bf)) ∧ w'.cell? ⟨bd, 9, none⟩ = some (.map (some D.bl)) ∧ w'.cell? ⟨bd, 10, none⟩ = some (.map (some D.bc)) ∧ w'.cell? ⟨bd, 11, none⟩ = some (.map (some D.bs)))) (by kernel_rfl) (HS0.out _ (up_drew HU2.out)) (fun hHeld => ?_)
        refine takeR 0 ?_
        (try simp only [Act.put, List.setIfInBounds_toArray, List.set_cons_zero, List.set_cons_succ, List.getElem_toArray, List.getElem_cons_zero, List.getElem_cons_succ])
        refine takeR 1 ?_
        (try simp only [Act.put, List.setIfInBounds_toArray, List.set_cons_zero, List.set_cons_succ, List.getElem_toArray, List.getElem_cons_zero, List.getElem_cons_succ])
        refine takeR 2 ?_
        (try simp only [Act.put, List.setIfInBounds_toArray, List.set_cons_zero, List.set_cons_succ, List.getElem_toArray, List.getElem_cons_zero, List.getElem_cons_succ])
        refine takeR 3 ?_
        (try simp only [Act.put, List.setIfInBounds_toArray, List.set_cons_zero, List.set_cons_succ, List.getElem_toArray, List.getElem_cons_zero, List.getElem_cons_succ])
        refine takeR 4 ?_
        (try simp only [Act.put, List.setIfInBounds_toArray, List.set_cons_zero, List.set_cons_succ, List.getElem_toArray, List.getElem_cons_zero, List.getElem_cons_succ])
        refine takeR 5 ?_
        (try simp only [Act.put, List.setIfInBounds_toArray, List.set_cons_zero, List.set_cons_succ, List.getElem_toArray, List.getElem_cons_zero, List.getElem_cons_succ])
        refine takeR 6 ?_
        (try simp only [Act.put, List.setIfInBounds_toArray, List.set_cons_zero, List.set_cons_succ, List.getElem_toArray, List.getElem_cons_zero, List.getElem_cons_succ])
        refine takeR 7 ?_
        (try simp only [Act.put, List.setIfInBounds_toArray, List.set_cons_zero, List.set_cons_succ, List.getElem_toArray, List.getElem_cons_zero, List.getElem_cons_succ])
        refine takeR 8 ?_
        (try simp only [Act.put, List.setIfInBounds_toArray, List.set_cons_zero, List.set_cons_succ, List.getElem_toArray, List.getElem_cons_zero, List.getElem_cons_succ])
        refine wpAnyH_ready (rs := [9]) (by kernel_rfl) (by simp) ?_
        refine AllReadyH.cons rfl (fun K hK => ?_) AllReadyH.nil
        go_simp
        (go_at_call 28; (with_reducible refine ((HD.out.up (up_drew HU2.out)).Full HF.out _ (z :: u) HFU.out HC.out.1 HC.out.2).mono ?_); rintro e w3 ⟨v3, rfl, hown, hup⟩; obtain ⟨A3, c3, hv, hi, _⟩ := own_ints hown; subst hv; have HU3 := Az.mk (up_trans (up_drew HU2.out) hup); obtain ⟨adz, hAz, yz⟩ := hi.at_ 0 (by omega) (by simp); have yz2 : w3.cell? adz = some (.int .i32 z) := (by cases adz; exact yz); subst hAz; clear hown hup hi yz)
        refine hK.out _ _ (HS0.out _ HU3.out) (fun hHeld => ?_)
        clear hK K
        (try simp only [Act.put, List.setIfInBounds_toArray, List.set_cons_zero, List.set_cons_succ, List.getElem_toArray, List.getElem_cons_zero, List.getElem_cons_succ])
        refine takeR 10 ?_
        (try simp only [Act.put, List.setIfInBounds_toArray, List.set_cons_zero, List.set_cons_succ, List.getElem_toArray, List.getElem_cons_zero, List.getElem_cons_succ])
        refine wpAnyH_ready (rs := [11]) (by kernel_rfl) (by simp) ?_
        refine AllReadyH.cons rfl (fun K hK => ?_) AllReadyH.nil
        go_simp
        refine hK.out _ _ (HS0.out _ HU3.out) (fun hHeld => ?_)
        clear hK K
        (try simp only [Act.put, List.setIfInBounds_toArray, List.set_cons_zero, List.set_cons_succ, List.getElem_toArray, List.getElem_cons_zero, List.getElem_cons_succ])
        refine wpAnyH_ready (rs := [12]) (by kernel_rfl) (by simp) ?_
        refine AllReadyH.cons rfl (fun K hK => ?_) AllReadyH.nil
        go_simp
        (go_at_call 136; (with_reducible refine ((HD.out.up HU3.out).Second z _ HB2.out HZR.out.1 HZR.out.2).mono ?_); rintro e w4 ⟨rfl, hup⟩; have HU4 := Az.mk (up_trans HU3.out hup); clear hup)
        refine hK.out _ _ (HS0.out _ HU4.out) (fun hHeld => ?_)
        clear hK K
        (try simp only [Act.put, List.setIfInBounds_toArray, List.set_cons_zero, List.set_cons_succ, List.getElem_toArray, List.getElem_cons_zero, List.getElem_cons_succ])
        refine wpAnyH_done (by kernel_rfl) ?_ _
        go_wp2
        go_ret
        exact ⟨by rw [← HR.out]; rfl, HU4.out⟩
   exact key _ rfl hr0
  ·have g1 : ((l.length : Int) != 2) = true := bne_iff_ne.mpr (by omega)
   rw [bad_len (by rw [hl]; exact hl0) (by rw [hl]; exact hl2)] at hr0
   have HR := Az.mk hr0
   clear hr0 hl hl0 hF
   go_enter Tryz.func86, Tryz.ntmps86
   go_wp2_with (first | (go_at_call 38; (with_reducible refine HOC.out.mono ?_); rintro e w1 ⟨v1, rfl, hown, hup⟩; obtain ⟨A1, c1, hv, hi, _⟩ := own_ints hown; subst hv; have HU1 := Az.mk hup; clear hown hup hi))
   go_ret
   exact ⟨by rw [← HR.out]; rfl, HU1.out⟩
end
end Go.Proofs.YtnohcnneflogjaaGreat.M.Nm
