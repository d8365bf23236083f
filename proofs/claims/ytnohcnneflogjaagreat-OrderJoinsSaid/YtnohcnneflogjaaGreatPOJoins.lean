/- OrderJoins, walked. (printed by mkojoins.py) -/
import Derived.Test.YtnohcnneflogjaaGreatK45
import Derived.Test.YtnohcnneflogjaaGreatK44
set_option linter.unusedVariables false
set_option linter.unusedSimpArgs false
namespace Go.Proofs.YtnohcnneflogjaaGreat.M.St
open Go.Shelf Go.RowKit Go.Lib Go.Sort
set_option maxHeartbeats 16000000
set_option maxRecDepth 1000000
theorem inI32_app {x y : List Int} (hx : InI32 x) (hy : InI32 y) : InI32 (x ++ y) := fun z hz => by
 rcases List.mem_append.1 hz with h | h
 ·exact hx z h
 ·exact hy z h
theorem rd_cons0 (z : Int) (u : List Int) : rd (z :: u) 0 = z := rfl
theorem nfd_joins (T : List Rec) (x y : List Int) : sortF T (sortF T (openX T x) ++ sortF T (openX T y)) = sortF T (openX T (x ++ y)) := by rw [openX_app, sortF_joins]
theorem nfd_apart {T : List Rec} (hF : Fine T) (x y : List Int) (h : y = [] ∨ ∃ c t, y = c :: t ∧ numF T 2 (·.n) (rd (fullL T c) 0) = 0) : sortF T (openX T (x ++ y)) = sortF T (openX T x) ++ sortF T (openX T y) := by
 unfold sortF
 rw [openX_app]
 refine runF_apart _ _ _ ?_
 rcases h with rfl | ⟨c, t, rfl, h⟩
 ·exact .inl rfl
 ·right
  cases hf : fullL T c with
  | nil => exact absurd hf (hF.full_shut c).2
  | cons z u =>
    rw [hf] at h
    refine ⟨z, u ++ openX T t, ?_, h⟩
    unfold openX
    rw [List.flatMap_cons, hf]
    rfl
theorem OrderJoins_no (A : Option Addr) (c : Nat) (T : List Rec) (A1 : Option Addr) (n1 c1 : Nat) (A2 : Option Addr) (n2 c2 : Nat) (w : World) (hT : Table w A T) (hW : ∀ x ∈ T, x.Wf) (hc : T.length ≤ c) (he : (checkE (T.take 150)).2 ≠ 0) :
 Calls Tryz.prog 3 #[.slice A T.length c, .slice A1 n1 c1, .slice A2 n2 c2] w fun e w' => e = .returned (.bool true) ∧ Up w w' := by
 have HM := Aside0.mk (Made_no A c T w hT hW hc he)
 clear hT hW hc he
 go_enter Tryz.func3, Tryz.ntmps3
 go_wp2_with (first | (go_at_call 21; (with_reducible refine HM.out.mono ?_); rintro e w1 ⟨rfl, hup1⟩) | (go_at_call 22; (with_reducible refine (told12_calls _).mono ?_); rintro e w2 ⟨rfl, hup2⟩))
 go_ret
 exact ⟨rfl, up_trans hup1 hup2⟩
theorem OrderJoins_yes (A : Option Addr) (c : Nat) (T P : List Rec) (X1 : Option Addr) (x1 : List Int) (k1 : Nat) (X2 : Option Addr) (x2 : List Int) (k2 : Nat) (w : World) (hP : T.take 150 = P) (hT : Table w A T) (hW : ∀ x ∈ T, x.Wf) (hc : T.length ≤ c) (he : (checkE P).2 = 0)
 (hI1 : Ints .i32 w X1 x1) (hx1 : x1.length < 4611686018427387904) (hc1 : x1.length ≤ k1) (hwf1 : ∀ z ∈ x1, (Lit.int .i32 z).wf = true) (hI2 : Ints .i32 w X2 x2) (hx2 : x2.length < 4611686018427387904) (hc2 : x2.length ≤ k2) (hwf2 : ∀ z ∈ x2, (Lit.int .i32 z).wf = true) :
 Calls Tryz.prog 3 #[.slice A T.length c, .slice X1 x1.length k1, .slice X2 x2.length k2] w fun e w' => e = .returned (.bool true) ∧ Up w w' := by
 have HM := Aside0.mk (Made_yes A c T P w hP hT hW hc he)
 have HF : Aside0 (Fine P) := ⟨fine_of (fun x hx => hW x (by rw [← hP] at hx; exact List.mem_of_mem_take hx)) he⟩
 have HJ1 := Aside0.mk hI1
 have HX1 := Aside0.mk hx1
 have HXC1 := Aside0.mk hc1
 have HWF1 := Aside0.mk hwf1
 have HJ2 := Aside0.mk hI2
 have HX2 := Aside0.mk hx2
 have HXC2 := Aside0.mk hc2
 have HWF2 := Aside0.mk hwf2
 clear hT hW hc he hP hI1 hx1 hc1 hwf1 hI2 hx2 hc2 hwf2
 obtain ⟨ie, ze, hie, hze, hsi, hby, hzc⟩ := i32_info
 obtain ⟨s, hs⟩ : ∃ s, x1.take 100 = s := ⟨_, rfl⟩
 obtain ⟨r, hr⟩ : ∃ r, x2.take 100 = r := ⟨_, rfl⟩
 have HSE := Aside0.mk hs
 have HRE := Aside0.mk hr
 have HSL : Aside0 (s.length ≤ 100) := ⟨by rw [← hs, List.length_take]; omega⟩
 have HRL : Aside0 (r.length ≤ 100) := ⟨by rw [← hr, List.length_take]; omega⟩
 have HSL2 : Aside0 (s.length ≤ 65536) := ⟨by have := HSL.out; omega⟩
 have HRL2 : Aside0 (r.length ≤ 65536) := ⟨by have := HRL.out; omega⟩
 have HBL : Aside0 ((s ++ r).length ≤ 65536) := ⟨by rw [List.length_append]; have := HSL.out; have := HRL.out; omega⟩
 have HSR : Aside0 (InI32 s) := ⟨fun z hz => wf_i32 (HWF1.out z (by rw [← hs] at hz; exact List.mem_of_mem_take hz))⟩
 have HRR : Aside0 (InI32 r) := ⟨fun z hz => wf_i32 (HWF2.out z (by rw [← hr] at hz; exact List.mem_of_mem_take hz))⟩
 have HBR : Aside0 (InI32 (s ++ r)) := ⟨inI32_app HSR.out HRR.out⟩
 obtain ⟨a, ha⟩ : ∃ a, sortF P (openX P s) = a := ⟨_, rfl⟩
 obtain ⟨b, hb⟩ : ∃ b, sortF P (openX P r) = b := ⟨_, rfl⟩
 obtain ⟨e, he⟩ : ∃ e, sortF P (openX P (s ++ r)) = e := ⟨_, rfl⟩
 have HA := Aside0.mk ha
 have HB := Aside0.mk hb
 have HE := Aside0.mk he
 have HJE : Aside0 (sortF P (a ++ b) = e) := ⟨by rw [← ha, ← hb, ← he]; exact nfd_joins P s r⟩
 have HAL : Aside0 (a.length ≤ 3200) := ⟨by rw [← ha, sortF_length]; have := openX_len HF.out s; have := HSL.out; omega⟩
 have HBLL : Aside0 (b.length ≤ 3200) := ⟨by rw [← hb, sortF_length]; have := openX_len HF.out r; have := HRL.out; omega⟩
 have HJL : Aside0 ((a ++ b).length ≤ 65536) := ⟨by rw [List.length_append]; have := HAL.out; have := HBLL.out; omega⟩
 have HEL : Aside0 (e.length ≤ 35184372087808) := ⟨by rw [← HJE.out, sortF_length]; have := HJL.out; omega⟩
 have HJB : Aside0 ((a ++ b).length ≤ 35184372087808) := ⟨by have := HJL.out; omega⟩
 have HJR : Aside0 (InI32 (a ++ b)) := ⟨inI32_app (by rw [← ha]; exact sortF_range P (openX_range HF.out HF.out.wf HSR.out)) (by rw [← hb]; exact sortF_range P (openX_range HF.out HF.out.wf HRR.out))⟩
 have HEE : Aside0 ((e == e) = true) := ⟨by simp⟩
 have HEA : Aside0 (r = [] ∨ (∃ c t, r = c :: t ∧ numF P 2 (·.n) (rd (fullL P c) 0) = 0) → (e == a ++ b) = true) := ⟨fun h => by rw [← ha, ← hb, ← he, nfd_apart HF.out s r h]; simp⟩
 have M1 : Aside0 (0 + s.length ≤ maxLen ∧ (0 + s.length) * 4 ≤ 140737488355328) := ⟨by have := HSL.out; unfold maxLen; omega⟩
 have M2 : Aside0 (s.length + r.length ≤ maxLen ∧ (s.length + r.length) * 4 ≤ 140737488355328) := ⟨by have := HSL.out; have := HRL.out; unfold maxLen; omega⟩
 have M3 : Aside0 (0 + a.length ≤ maxLen ∧ (0 + a.length) * 4 ≤ 140737488355328) := ⟨by have := HAL.out; unfold maxLen; omega⟩
 have M4 : Aside0 (a.length + b.length ≤ maxLen ∧ (a.length + b.length) * 4 ≤ 140737488355328) := ⟨by have := HAL.out; have := HBLL.out; unfold maxLen; omega⟩
 clear hs hr ha hb he
 go_enter Tryz.func3, Tryz.ntmps3
 go_upto_region 16 with (first | (go_at_call 26; (with_reducible refine (SameB_calls A10 A13 c10 c13 e e _ (HI10.out.up (up_trans HS12x.out HS13.out)) HI13.out HEL.out HEL.out true HEE.out).mono ?_); rintro e w14 ⟨rfl, hup⟩; have HS14 := Aside0.mk hup; clear hup) |
  (go_at_call 25; (with_reducible refine (Sort_i (HD.out.up (up_trans (up_trans HS2.out (up_trans HS5x.out (up_trans HS6.out (up_trans HS7.out (up_trans HS8.out (up_trans HS9.out HS10.out)))))) HS12x.out)) HF.out.toGood A12 c12 (a ++ b) _ List.length_append HI12.out HJR.out HJL.out e HJE.out).mono ?_); rintro e w13 ⟨A13, c13, rfl, _, hi, hup⟩; have HS13 := Aside0.mk hup; have HI13 := Aside0.mk hi; clear hup hi) |
  (at_builtin; refine (wpList_append_row _ rfl _ _ 23 rfl w10.heap.size 21 ie ze 1 4 Tryz.underlying23 hie hze hsi hby hzc (by decide) (.slice A11 a.length c11) a.length (a.map (Value.int .i32)) rfl HO11.out A9 b.length c9 (b.map (Value.int .i32)) rfl (by simp) (HI9.out.up (up_trans HS10.out HS11.out)) (ints_one _ _) ?ha12 ?hb12 ?hc12 ?_); (case ha12 => exact M4.out.1); (case hb12 => exact M4.out.2); (case hc12 => exact HS11.out.size); intro v' w12 hown' hgrow hat'; have HO12 : Aside0 (w12.ownsRow w10.heap.size 21 1 v' (a ++ b).length ((a ++ b).map (Value.int .i32))) := ⟨by rw [List.length_append, List.map_append]; exact hown'⟩; obtain ⟨A12, c12, hv⟩ := own_any HO12.out; subst hv; have HI12 := Aside0.mk (own_ints' HO12.out); have HS12x : Aside0 (Up w10 w12) := ⟨Below.grown HS11.out hgrow HS11.out.size (fun k hk => (HO11.out.lt k hk).1)⟩; clear hown' hgrow hat') |
  (at_builtin; refine (wpList_append_row _ rfl _ _ 23 rfl w10.heap.size 21 ie ze 1 4 Tryz.underlying23 hie hze hsi hby hzc (by decide) _ 0 [] rfl (World.ownsRow_nil _ _ _ _) A7 a.length c7 (a.map (Value.int .i32)) rfl (by simp) (HI7.out.up (up_trans HS8.out (up_trans HS9.out HS10.out))) (ints_one _ _) ?ha11 ?hb11 ?hc11 ?_); (case ha11 => exact M3.out.1); (case hb11 => exact M3.out.2); (case hc11 => exact Nat.le_refl _); intro v' w11 hown' hgrow hat'; rw [Nat.zero_add, List.nil_append] at hown'; obtain ⟨A11, c11, hv⟩ := own_any hown'; subst hv; have HO11 := Aside0.mk hown'; have HS11 : Aside0 (Up w10 w11) := ⟨up_nil hgrow rfl⟩; have HI11 := Aside0.mk (own_ints' HO11.out); clear hown' hgrow hat') |
  (go_at_call 24; (with_reducible refine (NFD_i (HD.out.up (up_trans HS2.out (up_trans HS5x.out (up_trans HS6.out (up_trans HS7.out (up_trans HS8.out HS9.out)))))) HF.out HF.out.wf A5 c5 (s ++ r) _ List.length_append (HI5.out.up (up_trans HS6.out (up_trans HS7.out (up_trans HS8.out HS9.out)))) HBR.out HBL.out e HE.out).mono ?_); rintro e w10 ⟨A10, c10, rfl, _, hi, hup⟩; have HS10 := Aside0.mk hup; have HI10 := Aside0.mk hi; clear hup hi) |
  (go_at_call 24; (with_reducible refine (NFD_i (HD.out.up (up_trans HS2.out (up_trans HS5x.out (up_trans HS6.out (up_trans HS7.out HS8.out))))) HF.out HF.out.wf A8 c8 r _ rfl HI8.out HRR.out HRL2.out b HB.out).mono ?_); rintro e w9 ⟨A9, c9, rfl, _, hi, hup⟩; have HS9 := Aside0.mk hup; have HI9 := Aside0.mk hi; clear hup hi) |
  (go_at_call 23; (with_reducible refine (few12_ints X2 k2 x2 r 100 100 rfl _ (HJ2.out.up (up_trans (up_trans HS1.out HS2.out) (up_trans HS5x.out (up_trans HS6.out HS7.out)))) HX2.out HXC2.out (by decide) HRE.out).mono ?_); rintro e w8 ⟨A8, c8, rfl, hi, hup⟩; have HS8 := Aside0.mk hup; have HI8 := Aside0.mk hi; clear hup hi) |
  (go_at_call 24; (with_reducible refine (NFD_i (HD.out.up (up_trans HS2.out (up_trans HS5x.out HS6.out))) HF.out HF.out.wf A6 c6 s _ rfl HI6.out HSR.out HSL2.out a HA.out).mono ?_); rintro e w7 ⟨A7, c7, rfl, _, hi, hup⟩; have HS7 := Aside0.mk hup; have HI7 := Aside0.mk hi; clear hup hi) |
  (go_at_call 23; (with_reducible refine (few12_ints X1 k1 x1 s 100 100 rfl _ (HJ1.out.up (up_trans (up_trans HS1.out HS2.out) HS5x.out)) HX1.out HXC1.out (by decide) HSE.out).mono ?_); rintro e w6 ⟨A6, c6, rfl, hi, hup⟩; have HS6 := Aside0.mk hup; have HI6 := Aside0.mk hi; clear hup hi) |
  (at_builtin; refine (wpList_append_row _ rfl _ _ 23 rfl w2.heap.size 21 ie ze 1 4 Tryz.underlying23 hie hze hsi hby hzc (by decide) (.slice A3 s.length c3) s.length (s.map (Value.int .i32)) rfl (own_up HO3.out HS4.out) A4 r.length c4 (r.map (Value.int .i32)) rfl (by simp) HI4.out (ints_one _ _) ?ha5 ?hb5 ?hc5 ?_); (case ha5 => exact M2.out.1); (case hb5 => exact M2.out.2); (case hc5 => exact (up_trans HS3.out HS4.out).size); intro v' w5 hown' hgrow hat'; have HO5 : Aside0 (w5.ownsRow w2.heap.size 21 1 v' (s ++ r).length ((s ++ r).map (Value.int .i32))) := ⟨by rw [List.length_append, List.map_append]; exact hown'⟩; obtain ⟨A5, c5, hv⟩ := own_any HO5.out; subst hv; have HI5 := Aside0.mk (own_ints' HO5.out); have HS5x : Aside0 (Up w2 w5) := ⟨Below.grown (up_trans HS3.out HS4.out) hgrow ((up_trans HS3.out HS4.out)).size (fun k hk => (HO3.out.lt k hk).1)⟩; clear hown' hgrow hat') |
  (go_at_call 23; (with_reducible refine (few12_ints X2 k2 x2 r 100 100 rfl _ (HJ2.out.up (up_trans HS1.out (up_trans HS2.out HS3.out))) HX2.out HXC2.out (by decide) HRE.out).mono ?_); rintro e w4 ⟨A4, c4, rfl, hi, hup⟩; have HS4 := Aside0.mk hup; have HI4 := Aside0.mk hi; clear hup hi) |
  (at_builtin; refine (wpList_append_row _ rfl _ _ 23 rfl w2.heap.size 21 ie ze 1 4 Tryz.underlying23 hie hze hsi hby hzc (by decide) _ 0 [] rfl (World.ownsRow_nil _ _ _ _) A2 s.length c2 (s.map (Value.int .i32)) rfl (by simp) HI2.out (ints_one _ _) ?ha3 ?hb3 ?hc3 ?_); (case ha3 => exact M1.out.1); (case hb3 => exact M1.out.2); (case hc3 => exact Nat.le_refl _); intro v' w3 hown' hgrow hat'; rw [Nat.zero_add, List.nil_append] at hown'; obtain ⟨A3, c3, hv⟩ := own_any hown'; subst hv; have HO3 := Aside0.mk hown'; have HS3 : Aside0 (Up w2 w3) := ⟨up_nil hgrow rfl⟩; have HI3 := Aside0.mk (own_ints' HO3.out); clear hown' hgrow hat') |
  (go_at_call 23; (with_reducible refine (few12_ints X1 k1 x1 s 100 100 rfl _ (HJ1.out.up HS1.out) HX1.out HXC1.out (by decide) HSE.out).mono ?_); rintro e w2 ⟨A2, c2, rfl, hi, hup⟩; have HS2 := Aside0.mk hup; have HI2 := Aside0.mk hi; clear hup hi) |
  (go_at_call 21; (with_reducible refine (HM.out).mono ?_); rintro e w1 ⟨bd, D, A1, c1, rfl, hD, hTab, hup⟩; have HS1 := Aside0.mk hup; have HD := Aside0.mk hD; have HTA : Aside0 (TabAt w1 A1 P) := ⟨hTab.table, HF.out⟩; have HTF := Aside0.mk hTab; clear hup hD hTab))
 have HU14 := Aside0.mk (up_trans (up_trans (up_trans HS1.out HS2.out) (up_trans HS5x.out (up_trans HS6.out (up_trans HS7.out (up_trans HS8.out (up_trans HS9.out HS10.out)))))) (up_trans HS12x.out (up_trans HS13.out HS14.out)))
 have HD14 := Aside0.mk (HD.out.up (up_trans (up_trans HS2.out (up_trans HS5x.out (up_trans HS6.out (up_trans HS7.out (up_trans HS8.out (up_trans HS9.out HS10.out)))))) (up_trans HS12x.out (up_trans HS13.out HS14.out))))
 have HI10' := Aside0.mk (HI10.out.up (up_trans HS12x.out (up_trans HS13.out HS14.out)))
 have HI12' : Aside0 (Ints .i32 w14 A12 (a ++ b)) := ⟨HI12.out.up (up_trans HS13.out HS14.out)⟩
 have HX2' : Aside0 (Ints .i32 w14 X2 x2) := ⟨HJ2.out.up HU14.out⟩
 clear HO3 HO5 HO11 HO12 HI2 HI3 HI4 HI5 HI6 HI7 HI8 HI9 HI10 HI11 HI12 HI13
 cases hx2 : x2 with
 | nil =>
   have h0 : x2.length = 0 := by rw [hx2]; rfl
   have HEQ := Aside0.mk (HEA.out (.inl (by rw [← HRE.out, hx2]; rfl)))
   have HX2L : Aside0 (x2 = []) := ⟨hx2⟩
   clear hx2
   go_wp2
   refine wp_region_held_drew (S := (fun _ => True)) (by kernel_rfl) trivial (fun hHeld => ?_)
   refine takeR 0 ?_
   (try simp only [Act.put, List.setIfInBounds_toArray, List.set_cons_zero, List.set_cons_succ, List.getElem_toArray, List.getElem_cons_zero, List.getElem_cons_succ])
   refine takeR 1 ?_
   (try simp only [Act.put, List.setIfInBounds_toArray, List.set_cons_zero, List.set_cons_succ, List.getElem_toArray, List.getElem_cons_zero, List.getElem_cons_succ])
   refine takeR 2 ?_
   (try simp only [Act.put, List.setIfInBounds_toArray, List.set_cons_zero, List.set_cons_succ, List.getElem_toArray, List.getElem_cons_zero, List.getElem_cons_succ])
   refine takeR 3 ?_
   (try simp only [Act.put, List.setIfInBounds_toArray, List.set_cons_zero, List.set_cons_succ, List.getElem_toArray, List.getElem_cons_zero, List.getElem_cons_succ])
   refine takeS 4 ?_
   (try simp only [Act.put, List.setIfInBounds_toArray, List.set_cons_zero, List.set_cons_succ, List.getElem_toArray, List.getElem_cons_zero, List.getElem_cons_succ])
   refine takeS 5 ?_
   (try simp only [Act.put, List.setIfInBounds_toArray, List.set_cons_zero, List.set_cons_succ, List.getElem_toArray, List.getElem_cons_zero, List.getElem_cons_succ])
   refine takeS 6 ?_
   (try simp only [Act.put, List.setIfInBounds_toArray, List.set_cons_zero, List.set_cons_succ, List.getElem_toArray, List.getElem_cons_zero, List.getElem_cons_succ])
   refine takeS 7 ?_
   (try simp only [Act.put, List.setIfInBounds_toArray, List.set_cons_zero, List.set_cons_succ, List.getElem_toArray, List.getElem_cons_zero, List.getElem_cons_succ])
   refine takeS 8 ?_
   (try simp only [Act.put, List.setIfInBounds_toArray, List.set_cons_zero, List.set_cons_succ, List.getElem_toArray, List.getElem_cons_zero, List.getElem_cons_succ])
   refine takeS 9 ?_
   (try simp only [Act.put, List.setIfInBounds_toArray, List.set_cons_zero, List.set_cons_succ, List.getElem_toArray, List.getElem_cons_zero, List.getElem_cons_succ])
   refine takeS 10 ?_
   (try simp only [Act.put, List.setIfInBounds_toArray, List.set_cons_zero, List.set_cons_succ, List.getElem_toArray, List.getElem_cons_zero, List.getElem_cons_succ])
   refine takeS 11 ?_
   (try simp only [Act.put, List.setIfInBounds_toArray, List.set_cons_zero, List.set_cons_succ, List.getElem_toArray, List.getElem_cons_zero, List.getElem_cons_succ])
   refine takeS 12 ?_
   (try simp only [Act.put, List.setIfInBounds_toArray, List.set_cons_zero, List.set_cons_succ, List.getElem_toArray, List.getElem_cons_zero, List.getElem_cons_succ])
   refine takeS 13 ?_
   (try simp only [Act.put, List.setIfInBounds_toArray, List.set_cons_zero, List.set_cons_succ, List.getElem_toArray, List.getElem_cons_zero, List.getElem_cons_succ])
   refine takeS 14 ?_
   (try simp only [Act.put, List.setIfInBounds_toArray, List.set_cons_zero, List.set_cons_succ, List.getElem_toArray, List.getElem_cons_zero, List.getElem_cons_succ])
   refine takeS 15 ?_
   (try simp only [Act.put, List.setIfInBounds_toArray, List.set_cons_zero, List.set_cons_succ, List.getElem_toArray, List.getElem_cons_zero, List.getElem_cons_succ])
   refine takeS 16 ?_
   (try simp only [Act.put, List.setIfInBounds_toArray, List.set_cons_zero, List.set_cons_succ, List.getElem_toArray, List.getElem_cons_zero, List.getElem_cons_succ])
   refine takeS 17 ?_
   (try simp only [Act.put, List.setIfInBounds_toArray, List.set_cons_zero, List.set_cons_succ, List.getElem_toArray, List.getElem_cons_zero, List.getElem_cons_succ])
   refine takeS 18 ?_
   (try simp only [Act.put, List.setIfInBounds_toArray, List.set_cons_zero, List.set_cons_succ, List.getElem_toArray, List.getElem_cons_zero, List.getElem_cons_succ])
   refine takeS 19 ?_
   (try simp only [Act.put, List.setIfInBounds_toArray, List.set_cons_zero, List.set_cons_succ, List.getElem_toArray, List.getElem_cons_zero, List.getElem_cons_succ])
   refine takeR 20 ?_
   (try simp only [Act.put, List.setIfInBounds_toArray, List.set_cons_zero, List.set_cons_succ, List.getElem_toArray, List.getElem_cons_zero, List.getElem_cons_succ])
   refine takeR 21 ?_
   (try simp only [Act.put, List.setIfInBounds_toArray, List.set_cons_zero, List.set_cons_succ, List.getElem_toArray, List.getElem_cons_zero, List.getElem_cons_succ])
   refine takeR 22 ?_
   (try simp only [Act.put, List.setIfInBounds_toArray, List.set_cons_zero, List.set_cons_succ, List.getElem_toArray, List.getElem_cons_zero, List.getElem_cons_succ])
   refine takeR 23 ?_
   (try simp only [Act.put, List.setIfInBounds_toArray, List.set_cons_zero, List.set_cons_succ, List.getElem_toArray, List.getElem_cons_zero, List.getElem_cons_succ])
   refine wpAnyH_ready (rs := [24]) (by kernel_rfl) (by simp) ?_
   refine AllReadyH.cons rfl (fun K hK => ?_) AllReadyH.nil
   go_simp
   (go_at_call 26; (with_reducible refine (SameN_calls A10 A12 e.length (a.length + b.length) c10 c12 e (a ++ b) _ (HI10'.out.up (up_drew (up_refl _))) (HI12'.out.up (up_drew (up_refl _))) rfl List.length_append HEL.out (by have := HJB.out; rwa [List.length_append] at this) true HEQ.out).mono ?_); rintro e' w15 ⟨rfl, hup⟩; have hup := hup)
   refine hK.out _ _ trivial (fun hHeld => ?_)
   clear hK K
   (try simp only [Act.put, List.setIfInBounds_toArray, List.set_cons_zero, List.set_cons_succ, List.getElem_toArray, List.getElem_cons_zero, List.getElem_cons_succ])
   refine takeR 25 ?_
   (try simp only [Act.put, List.setIfInBounds_toArray, List.set_cons_zero, List.set_cons_succ, List.getElem_toArray, List.getElem_cons_zero, List.getElem_cons_succ])
   refine takeR 26 ?_
   (try simp only [Act.put, List.setIfInBounds_toArray, List.set_cons_zero, List.set_cons_succ, List.getElem_toArray, List.getElem_cons_zero, List.getElem_cons_succ])
   refine wpAnyH_done (by kernel_rfl) ?_ _
   go_wp2
   go_ret
   exact ⟨by rfl, up_trans HU14.out (up_trans (up_drew (up_refl _)) hup)⟩
 | cons d t =>
   have h0 : decide ((x2.length : Int) > 0) = true := decide_eq_true (by rw [hx2]; simp)
   have h1 : 0 < x2.length := by rw [hx2]; simp
   have h2 : (0 : Int) < (x2.length : Int) := by omega
   obtain ⟨ad, hA, y0⟩ := HX2'.out.at_ 0 (by omega) h2
   have y0 : w14.cell? ad = some (.int .i32 d) := by
    have e : rd x2 0 = d := by rw [hx2]; rfl
    rw [e] at y0
    cases ad
    exact y0
   have HAD := Aside0.mk hA
   have HDR : Aside0 (-2147483648 ≤ d ∧ d ≤ 2147483647) := ⟨wf_i32 (HWF2.out d (by rw [hx2]; exact List.mem_cons_self ..))⟩
   have HRC : Aside0 (∃ t', r = d :: t') := ⟨by rw [← HRE.out, hx2]; exact ⟨_, rfl⟩⟩
   obtain ⟨z, u, hfu⟩ : ∃ z u, fullL P d = z :: u := by
    cases hf : fullL P d with
    | nil => exact absurd hf (HF.out.full_shut d).2
    | cons z u => exact ⟨z, u, rfl⟩
   have HFU := Aside0.mk hfu
   have HZR : Aside0 (-2147483648 ≤ z ∧ z ≤ 2147483647) := ⟨by
    have := openX_range HF.out HF.out.wf (x := [d]) (fun y hy => by rw [List.mem_singleton.1 hy]; exact HDR.out)
    exact this z (by unfold openX; simp [hfu])⟩
   obtain ⟨n, hn⟩ : ∃ n, numF P 2 (·.n) z = n := ⟨_, rfl⟩
   have HNN := Aside0.mk hn
   have HEQ : Aside0 (n = 0 → (e == a ++ b) = true) := ⟨fun h => by
    obtain ⟨t', ht⟩ := HRC.out
    exact HEA.out (.inr ⟨d, t', ht, by rw [hfu, rd_cons0, hn, h]⟩)⟩
   obtain ⟨⟨_, _, _, a3, _, _, _⟩, ⟨a7, a8, a9, a10, a11⟩, _, _, _, _, _⟩ := HD14.out.all
   have hs0 : (fun w' => w'.cell? ⟨bd, 3, none⟩ = some (.pointer (some ⟨D.b3, 0, none⟩)) ∧ w'.cell? ⟨bd, 7, none⟩ = some (.map (some D.bo)) ∧ w'.cell? ⟨bd, 8, none⟩ = some (.map (some D.bf)) ∧ w'.cell? ⟨bd, 9, none⟩ = some (.map (some D.bl)) ∧ w'.cell? ⟨bd, 10, none⟩ = some (.map (some D.bc)) ∧ w'.cell? ⟨bd, 11, none⟩ = some (.map (some D.bs)) ∧ w'.cell? ad = some (.int .i32 d)) w14.drew := ⟨a3, a7, a8, a9, a10, a11, y0⟩
   have HS0 : Aside0 (∀ W, Up w14 W → (fun w' => w'.cell? ⟨bd, 3, none⟩ = some (.pointer (some ⟨D.b3, 0, none⟩)) ∧ w'.cell? ⟨bd, 7, none⟩ = some (.map (some D.bo)) ∧ w'.cell? ⟨bd, 8, none⟩ = some (.map (some D.bf)) ∧ w'.cell? ⟨bd, 9, none⟩ = some (.map (some D.bl)) ∧ w'.cell? ⟨bd, 10, none⟩ = some (.map (some D.bc)) ∧ w'.cell? ⟨bd, 11, none⟩ = some (.map (some D.bs)) ∧ w'.cell? ad = some (.int .i32 d)) W) := ⟨fun W hW => ⟨up_cell hW a3, up_cell hW a7, up_cell hW a8, up_cell hW a9, up_cell hW a10, up_cell hW a11, up_cell hW y0⟩⟩
   clear hfu hn a3 a7 a8 a9 a10 a11 y0 hx2
   subst hA
   by_cases hz : n = 0
   ·have q1 : (n != 0) = false := by rw [hz]; rfl
    have HEQ2 := Aside0.mk (HEQ.out hz)
    clear hz
    go_wp2
    refine wp_region_held_drew (S := (fun w' => w'.cell? ⟨bd, 3, none⟩ = some (.pointer (some ⟨D.b3, 0, none⟩)) ∧ w'.cell? ⟨bd, 7, none⟩ = some (.map (some D.bo)) ∧ w'.cell? ⟨bd, 8, none⟩ = some (.map (some D.bf)) ∧ w'.cell? ⟨bd, 9, none⟩ = some (.map (some D.bl)) ∧ w'.cell? ⟨bd, 10, none⟩ = some (.map (some D.bc)) ∧ w'.cell? ⟨bd, 11, none⟩ = some (.map (some D.bs)) ∧ w'.cell? ad = some (.int .i32 d))) (by kernel_rfl) hs0 (fun hHeld => ?_)
    refine takeR 0 ?_
    (try simp only [Act.put, List.setIfInBounds_toArray, List.set_cons_zero, List.set_cons_succ, List.getElem_toArray, List.getElem_cons_zero, List.getElem_cons_succ])
    refine takeR 1 ?_
    (try simp only [Act.put, List.setIfInBounds_toArray, List.set_cons_zero, List.set_cons_succ, List.getElem_toArray, List.getElem_cons_zero, List.getElem_cons_succ])
    refine takeR 2 ?_
    (try simp only [Act.put, List.setIfInBounds_toArray, List.set_cons_zero, List.set_cons_succ, List.getElem_toArray, List.getElem_cons_zero, List.getElem_cons_succ])
    refine takeR 3 ?_
    (try simp only [Act.put, List.setIfInBounds_toArray, List.set_cons_zero, List.set_cons_succ, List.getElem_toArray, List.getElem_cons_zero, List.getElem_cons_succ])
    refine takeR 4 ?_
    (try simp only [Act.put, List.setIfInBounds_toArray, List.set_cons_zero, List.set_cons_succ, List.getElem_toArray, List.getElem_cons_zero, List.getElem_cons_succ])
    refine takeR 5 ?_
    (try simp only [Act.put, List.setIfInBounds_toArray, List.set_cons_zero, List.set_cons_succ, List.getElem_toArray, List.getElem_cons_zero, List.getElem_cons_succ])
    refine takeR 6 ?_
    (try simp only [Act.put, List.setIfInBounds_toArray, List.set_cons_zero, List.set_cons_succ, List.getElem_toArray, List.getElem_cons_zero, List.getElem_cons_succ])
    refine takeR 7 ?_
    (try simp only [Act.put, List.setIfInBounds_toArray, List.set_cons_zero, List.set_cons_succ, List.getElem_toArray, List.getElem_cons_zero, List.getElem_cons_succ])
    refine takeR 8 ?_
    (try simp only [Act.put, List.setIfInBounds_toArray, List.set_cons_zero, List.set_cons_succ, List.getElem_toArray, List.getElem_cons_zero, List.getElem_cons_succ])
    refine takeR 9 ?_
    (try simp only [Act.put, List.setIfInBounds_toArray, List.set_cons_zero, List.set_cons_succ, List.getElem_toArray, List.getElem_cons_zero, List.getElem_cons_succ])
    refine takeR 10 ?_
    (try simp only [Act.put, List.setIfInBounds_toArray, List.set_cons_zero, List.set_cons_succ, List.getElem_toArray, List.getElem_cons_zero, List.getElem_cons_succ])
    refine takeR 11 ?_
    (try simp only [Act.put, List.setIfInBounds_toArray, List.set_cons_zero, List.set_cons_succ, List.getElem_toArray, List.getElem_cons_zero, List.getElem_cons_succ])
    refine takeR 12 ?_
    (try simp only [Act.put, List.setIfInBounds_toArray, List.set_cons_zero, List.set_cons_succ, List.getElem_toArray, List.getElem_cons_zero, List.getElem_cons_succ])
    refine takeR 13 ?_
    (try simp only [Act.put, List.setIfInBounds_toArray, List.set_cons_zero, List.set_cons_succ, List.getElem_toArray, List.getElem_cons_zero, List.getElem_cons_succ])
    refine takeR 14 ?_
    (try simp only [Act.put, List.setIfInBounds_toArray, List.set_cons_zero, List.set_cons_succ, List.getElem_toArray, List.getElem_cons_zero, List.getElem_cons_succ])
    refine wpAnyH_ready (rs := [15]) (by kernel_rfl) (by simp) ?_
    refine AllReadyH.cons rfl (fun K hK => ?_) AllReadyH.nil
    go_simp
    (go_at_call 28; (with_reducible refine ((HD14.out.up (up_drew (up_refl _))).Full HF.out d (z :: u) HFU.out HDR.out.1 HDR.out.2).mono ?_); rintro e' w15 ⟨v15, rfl, hown, hup⟩; obtain ⟨A15, c15, hv, hi, _⟩ := own_ints hown; subst hv; have HV1 := Aside0.mk (up_trans (up_drew (up_refl w14)) hup); obtain ⟨ad2, hA2, yz⟩ := hi.at_ 0 (by omega) (by simp); have yz2 : w15.cell? ad2 = some (.int .i32 z) := (by cases ad2; exact yz); subst hA2; clear hown hup hi yz)
    refine hK.out _ _ (HS0.out _ HV1.out) (fun hHeld => ?_)
    clear hK K
    (try simp only [Act.put, List.setIfInBounds_toArray, List.set_cons_zero, List.set_cons_succ, List.getElem_toArray, List.getElem_cons_zero, List.getElem_cons_succ])
    refine takeR 16 ?_
    (try simp only [Act.put, List.setIfInBounds_toArray, List.set_cons_zero, List.set_cons_succ, List.getElem_toArray, List.getElem_cons_zero, List.getElem_cons_succ])
    refine wpAnyH_ready (rs := [17]) (by kernel_rfl) (by simp) ?_
    refine AllReadyH.cons rfl (fun K hK => ?_) AllReadyH.nil
    go_simp
    refine hK.out _ _ (HS0.out _ HV1.out) (fun hHeld => ?_)
    clear hK K
    (try simp only [Act.put, List.setIfInBounds_toArray, List.set_cons_zero, List.set_cons_succ, List.getElem_toArray, List.getElem_cons_zero, List.getElem_cons_succ])
    refine wpAnyH_ready (rs := [18]) (by kernel_rfl) (by simp) ?_
    refine AllReadyH.cons rfl (fun K hK => ?_) AllReadyH.nil
    go_simp
    (go_at_call 27; (with_reducible refine ((HD14.out.up HV1.out).Class HF.out.toGood z n HNN.out HZR.out.1 HZR.out.2).mono ?_); rintro e' w16 ⟨rfl, hup⟩; have HV2 := Aside0.mk (up_trans HV1.out hup); clear hup)
    refine hK.out _ _ (HS0.out _ HV2.out) (fun hHeld => ?_)
    clear hK K
    (try simp only [Act.put, List.setIfInBounds_toArray, List.set_cons_zero, List.set_cons_succ, List.getElem_toArray, List.getElem_cons_zero, List.getElem_cons_succ])
    refine takeR 19 ?_
    (try simp only [Act.put, List.setIfInBounds_toArray, List.set_cons_zero, List.set_cons_succ, List.getElem_toArray, List.getElem_cons_zero, List.getElem_cons_succ])
    refine takeR 20 ?_
    (try simp only [Act.put, List.setIfInBounds_toArray, List.set_cons_zero, List.set_cons_succ, List.getElem_toArray, List.getElem_cons_zero, List.getElem_cons_succ])
    refine takeR 21 ?_
    (try simp only [Act.put, List.setIfInBounds_toArray, List.set_cons_zero, List.set_cons_succ, List.getElem_toArray, List.getElem_cons_zero, List.getElem_cons_succ])
    refine takeR 22 ?_
    (try simp only [Act.put, List.setIfInBounds_toArray, List.set_cons_zero, List.set_cons_succ, List.getElem_toArray, List.getElem_cons_zero, List.getElem_cons_succ])
    refine takeR 23 ?_
    (try simp only [Act.put, List.setIfInBounds_toArray, List.set_cons_zero, List.set_cons_succ, List.getElem_toArray, List.getElem_cons_zero, List.getElem_cons_succ])
    refine wpAnyH_ready (rs := [24]) (by kernel_rfl) (by simp) ?_
    refine AllReadyH.cons rfl (fun K hK => ?_) AllReadyH.nil
    go_simp
    (go_at_call 26; (with_reducible refine (SameN_calls A10 A12 e.length (a.length + b.length) c10 c12 e (a ++ b) _ (HI10'.out.up HV2.out) (HI12'.out.up HV2.out) rfl List.length_append HEL.out (by have := HJB.out; rwa [List.length_append] at this) true HEQ2.out).mono ?_); rintro e' w17 ⟨rfl, hup3⟩; have HV3 := Aside0.mk (up_trans HV2.out hup3))
    refine hK.out _ _ (HS0.out _ HV3.out) (fun hHeld => ?_)
    clear hK K
    (try simp only [Act.put, List.setIfInBounds_toArray, List.set_cons_zero, List.set_cons_succ, List.getElem_toArray, List.getElem_cons_zero, List.getElem_cons_succ])
    refine takeR 25 ?_
    (try simp only [Act.put, List.setIfInBounds_toArray, List.set_cons_zero, List.set_cons_succ, List.getElem_toArray, List.getElem_cons_zero, List.getElem_cons_succ])
    refine takeR 26 ?_
    (try simp only [Act.put, List.setIfInBounds_toArray, List.set_cons_zero, List.set_cons_succ, List.getElem_toArray, List.getElem_cons_zero, List.getElem_cons_succ])
    refine wpAnyH_done (by kernel_rfl) ?_ _
    go_wp2
    go_ret
    exact ⟨by rfl, up_trans HU14.out HV3.out⟩
   ·have q1 : (n != 0) = true := bne_iff_ne.mpr hz
    clear hz
    go_wp2
    refine wp_region_held_drew (S := (fun w' => w'.cell? ⟨bd, 3, none⟩ = some (.pointer (some ⟨D.b3, 0, none⟩)) ∧ w'.cell? ⟨bd, 7, none⟩ = some (.map (some D.bo)) ∧ w'.cell? ⟨bd, 8, none⟩ = some (.map (some D.bf)) ∧ w'.cell? ⟨bd, 9, none⟩ = some (.map (some D.bl)) ∧ w'.cell? ⟨bd, 10, none⟩ = some (.map (some D.bc)) ∧ w'.cell? ⟨bd, 11, none⟩ = some (.map (some D.bs)) ∧ w'.cell? ad = some (.int .i32 d))) (by kernel_rfl) hs0 (fun hHeld => ?_)
    refine takeR 0 ?_
    (try simp only [Act.put, List.setIfInBounds_toArray, List.set_cons_zero, List.set_cons_succ, List.getElem_toArray, List.getElem_cons_zero, List.getElem_cons_succ])
    refine takeR 1 ?_
    (try simp only [Act.put, List.setIfInBounds_toArray, List.set_cons_zero, List.set_cons_succ, List.getElem_toArray, List.getElem_cons_zero, List.getElem_cons_succ])
    refine takeR 2 ?_
    (try simp only [Act.put, List.setIfInBounds_toArray, List.set_cons_zero, List.set_cons_succ, List.getElem_toArray, List.getElem_cons_zero, List.getElem_cons_succ])
    refine takeR 3 ?_
    (try simp only [Act.put, List.setIfInBounds_toArray, List.set_cons_zero, List.set_cons_succ, List.getElem_toArray, List.getElem_cons_zero, List.getElem_cons_succ])
    refine takeR 4 ?_
    (try simp only [Act.put, List.setIfInBounds_toArray, List.set_cons_zero, List.set_cons_succ, List.getElem_toArray, List.getElem_cons_zero, List.getElem_cons_succ])
    refine takeR 5 ?_
    (try simp only [Act.put, List.setIfInBounds_toArray, List.set_cons_zero, List.set_cons_succ, List.getElem_toArray, List.getElem_cons_zero, List.getElem_cons_succ])
    refine takeR 6 ?_
    (try simp only [Act.put, List.setIfInBounds_toArray, List.set_cons_zero, List.set_cons_succ, List.getElem_toArray, List.getElem_cons_zero, List.getElem_cons_succ])
    refine takeR 7 ?_
    (try simp only [Act.put, List.setIfInBounds_toArray, List.set_cons_zero, List.set_cons_succ, List.getElem_toArray, List.getElem_cons_zero, List.getElem_cons_succ])
    refine takeR 8 ?_
    (try simp only [Act.put, List.setIfInBounds_toArray, List.set_cons_zero, List.set_cons_succ, List.getElem_toArray, List.getElem_cons_zero, List.getElem_cons_succ])
    refine takeR 9 ?_
    (try simp only [Act.put, List.setIfInBounds_toArray, List.set_cons_zero, List.set_cons_succ, List.getElem_toArray, List.getElem_cons_zero, List.getElem_cons_succ])
    refine takeR 10 ?_
    (try simp only [Act.put, List.setIfInBounds_toArray, List.set_cons_zero, List.set_cons_succ, List.getElem_toArray, List.getElem_cons_zero, List.getElem_cons_succ])
    refine takeR 11 ?_
    (try simp only [Act.put, List.setIfInBounds_toArray, List.set_cons_zero, List.set_cons_succ, List.getElem_toArray, List.getElem_cons_zero, List.getElem_cons_succ])
    refine takeR 12 ?_
    (try simp only [Act.put, List.setIfInBounds_toArray, List.set_cons_zero, List.set_cons_succ, List.getElem_toArray, List.getElem_cons_zero, List.getElem_cons_succ])
    refine takeR 13 ?_
    (try simp only [Act.put, List.setIfInBounds_toArray, List.set_cons_zero, List.set_cons_succ, List.getElem_toArray, List.getElem_cons_zero, List.getElem_cons_succ])
    refine takeR 14 ?_
    (try simp only [Act.put, List.setIfInBounds_toArray, List.set_cons_zero, List.set_cons_succ, List.getElem_toArray, List.getElem_cons_zero, List.getElem_cons_succ])
    refine wpAnyH_ready (rs := [15]) (by kernel_rfl) (by simp) ?_
    refine AllReadyH.cons rfl (fun K hK => ?_) AllReadyH.nil
    go_simp
    (go_at_call 28; (with_reducible refine ((HD14.out.up (up_drew (up_refl _))).Full HF.out d (z :: u) HFU.out HDR.out.1 HDR.out.2).mono ?_); rintro e' w15 ⟨v15, rfl, hown, hup⟩; obtain ⟨A15, c15, hv, hi, _⟩ := own_ints hown; subst hv; have HV1 := Aside0.mk (up_trans (up_drew (up_refl w14)) hup); obtain ⟨ad2, hA2, yz⟩ := hi.at_ 0 (by omega) (by simp); have yz2 : w15.cell? ad2 = some (.int .i32 z) := (by cases ad2; exact yz); subst hA2; clear hown hup hi yz)
    refine hK.out _ _ (HS0.out _ HV1.out) (fun hHeld => ?_)
    clear hK K
    (try simp only [Act.put, List.setIfInBounds_toArray, List.set_cons_zero, List.set_cons_succ, List.getElem_toArray, List.getElem_cons_zero, List.getElem_cons_succ])
    refine takeR 16 ?_
    (try simp only [Act.put, List.setIfInBounds_toArray, List.set_cons_zero, List.set_cons_succ, List.getElem_toArray, List.getElem_cons_zero, List.getElem_cons_succ])
    refine wpAnyH_ready (rs := [17]) (by kernel_rfl) (by simp) ?_
    refine AllReadyH.cons rfl (fun K hK => ?_) AllReadyH.nil
    go_simp
    refine hK.out _ _ (HS0.out _ HV1.out) (fun hHeld => ?_)
    clear hK K
    (try simp only [Act.put, List.setIfInBounds_toArray, List.set_cons_zero, List.set_cons_succ, List.getElem_toArray, List.getElem_cons_zero, List.getElem_cons_succ])
    refine wpAnyH_ready (rs := [18]) (by kernel_rfl) (by simp) ?_
    refine AllReadyH.cons rfl (fun K hK => ?_) AllReadyH.nil
    go_simp
    (go_at_call 27; (with_reducible refine ((HD14.out.up HV1.out).Class HF.out.toGood z n HNN.out HZR.out.1 HZR.out.2).mono ?_); rintro e' w16 ⟨rfl, hup⟩; have HV2 := Aside0.mk (up_trans HV1.out hup); clear hup)
    refine hK.out _ _ (HS0.out _ HV2.out) (fun hHeld => ?_)
    clear hK K
    (try simp only [Act.put, List.setIfInBounds_toArray, List.set_cons_zero, List.set_cons_succ, List.getElem_toArray, List.getElem_cons_zero, List.getElem_cons_succ])
    refine takeR 19 ?_
    (try simp only [Act.put, List.setIfInBounds_toArray, List.set_cons_zero, List.set_cons_succ, List.getElem_toArray, List.getElem_cons_zero, List.getElem_cons_succ])
    refine takeR 20 ?_
    (try simp only [Act.put, List.setIfInBounds_toArray, List.set_cons_zero, List.set_cons_succ, List.getElem_toArray, List.getElem_cons_zero, List.getElem_cons_succ])
    refine takeR 21 ?_
    (try simp only [Act.put, List.setIfInBounds_toArray, List.set_cons_zero, List.set_cons_succ, List.getElem_toArray, List.getElem_cons_zero, List.getElem_cons_succ])
    refine takeS 22 ?_
    (try simp only [Act.put, List.setIfInBounds_toArray, List.set_cons_zero, List.set_cons_succ, List.getElem_toArray, List.getElem_cons_zero, List.getElem_cons_succ])
    refine takeS 23 ?_
    (try simp only [Act.put, List.setIfInBounds_toArray, List.set_cons_zero, List.set_cons_succ, List.getElem_toArray, List.getElem_cons_zero, List.getElem_cons_succ])
    refine takeS 24 ?_
    (try simp only [Act.put, List.setIfInBounds_toArray, List.set_cons_zero, List.set_cons_succ, List.getElem_toArray, List.getElem_cons_zero, List.getElem_cons_succ])
    refine takeR 25 ?_
    (try simp only [Act.put, List.setIfInBounds_toArray, List.set_cons_zero, List.set_cons_succ, List.getElem_toArray, List.getElem_cons_zero, List.getElem_cons_succ])
    refine takeR 26 ?_
    (try simp only [Act.put, List.setIfInBounds_toArray, List.set_cons_zero, List.set_cons_succ, List.getElem_toArray, List.getElem_cons_zero, List.getElem_cons_succ])
    refine wpAnyH_done (by kernel_rfl) ?_ _
    go_wp2
    go_ret
    exact ⟨by rfl, up_trans HU14.out HV2.out⟩
end Go.Proofs.YtnohcnneflogjaaGreat.M.St
