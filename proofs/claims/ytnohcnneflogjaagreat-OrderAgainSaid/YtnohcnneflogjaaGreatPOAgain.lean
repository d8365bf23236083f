/- OrderAgain, walked. (printed by mkoagain.py) -/
import Derived.Test.YtnohcnneflogjaaGreatK45
set_option linter.unusedVariables false
set_option linter.unusedSimpArgs false
namespace Go.Proofs.YtnohcnneflogjaaGreat.M.St
open Go.Shelf Go.RowKit Go.Lib Go.Sort
set_option maxHeartbeats 16000000
set_option maxRecDepth 1000000
theorem filt_step (cl : Int → Int) (k : Int) (x : List Int) (i : Nat) (z : Int) (h : x[i]? = some z) : (x.take (i + 1)).filter (fun z => decide (cl z = k)) = (x.take i).filter (fun z => decide (cl z = k)) ++ (if cl z = k then [z] else []) := by
 obtain ⟨hi, he⟩ := List.getElem?_eq_some_iff.1 h
 rw [List.take_succ_eq_append_getElem hi, List.filter_append, he]
 congr 1
 by_cases hz : cl z = k <;> simp [hz]
theorem filt_len (cl : Int → Int) (k : Int) (x : List Int) (i : Nat) : ((x.take i).filter (fun z => decide (cl z = k))).length ≤ x.length := Nat.le_trans (List.length_filter_le _ _) (by rw [List.length_take]; omega)
def ApartV (a b : Value) : Prop := ∀ k, a.ownBlock = some k → b.ownBlock ≠ some k
theorem ApartV.symm {a b : Value} (h : ApartV a b) : ApartV b a := fun k hb ha => h k ha hb
theorem ApartV.grown {w : World} {a b v' : Value} {base n : Nat} {xs : List Value} (h : ApartV a b) (hb : w.ownsRow base 21 1 b n xs) (hat : v'.ownBlock = a.ownBlock ∨ v'.ownBlock = some w.heap.size) : ApartV v' b := fun k hk hbk => by
 rcases hat with e | e
 ·exact h k (e ▸ hk) hbk
 ·rw [e] at hk
  cases hk
  exact absurd (hb.lt _ hbk).2 (Nat.lt_irrefl _)
theorem OrderAgain_no (A : Option Addr) (c : Nat) (T : List Rec) (A1 : Option Addr) (n1 c1 : Nat) (w : World) (hT : Table w A T) (hW : ∀ x ∈ T, x.Wf) (hc : T.length ≤ c) (he : (checkE (T.take 150)).2 ≠ 0) :
 Calls Tryz.prog 6 #[.slice A T.length c, .slice A1 n1 c1] w fun e w' => e = .returned (.bool true) ∧ Up w w' := by
 have HM := Aside0.mk (Made_no A c T w hT hW hc he)
 clear hT hW hc he
 go_enter Tryz.func6, Tryz.ntmps6
 go_wp2_with (first | (go_at_call 21; (with_reducible refine HM.out.mono ?_); rintro e w1 ⟨rfl, hup1⟩) | (go_at_call 22; (with_reducible refine (told12_calls _).mono ?_); rintro e w2 ⟨rfl, hup2⟩))
 go_ret
 exact ⟨rfl, up_trans hup1 hup2⟩
theorem OrderAgain_yes (A : Option Addr) (c : Nat) (T P : List Rec) (X1 : Option Addr) (x1 : List Int) (k1 : Nat) (w : World) (hP : T.take 150 = P) (hT : Table w A T) (hW : ∀ x ∈ T, x.Wf) (hc : T.length ≤ c) (he : (checkE P).2 = 0)
 (hI1 : Ints .i32 w X1 x1) (hx1 : x1.length < 4611686018427387904) (hc1 : x1.length ≤ k1) (hwf1 : ∀ z ∈ x1, (Lit.int .i32 z).wf = true) :
 Calls Tryz.prog 6 #[.slice A T.length c, .slice X1 x1.length k1] w fun e w' => e = .returned (.bool true) ∧ Up w w' := by
 have HM := Aside0.mk (Made_yes A c T P w hP hT hW hc he)
 have HF : Aside0 (Fine P) := ⟨fine_of (fun x hx => hW x (by rw [← hP] at hx; exact List.mem_of_mem_take hx)) he⟩
 have HJ1 := Aside0.mk hI1
 have HX1 := Aside0.mk hx1
 have HXC1 := Aside0.mk hc1
 have HWF1 := Aside0.mk hwf1
 clear hT hW hc he hP hI1 hx1 hc1 hwf1
 obtain ⟨ie, ze, hie, hze, hsi, hby, hzc⟩ := i32_info
 obtain ⟨s, hs⟩ : ∃ s, x1.take 150 = s := ⟨_, rfl⟩
 have HSE := Aside0.mk hs
 have HSL : Aside0 (s.length ≤ 150) := ⟨by rw [← hs, List.length_take]; omega⟩
 have HSL2 : Aside0 (s.length ≤ 65536) := ⟨by have := HSL.out; omega⟩
 have HSL4 : Aside0 (s.length ≤ 100000000) := ⟨by have := HSL.out; omega⟩
 have HSB : Aside0 (s.length ≤ 35184372087808) := ⟨by have := HSL.out; omega⟩
 have HSR : Aside0 (InI32 s) := ⟨fun z hz => wf_i32 (HWF1.out z (by rw [← hs] at hz; exact List.mem_of_mem_take hz))⟩
 obtain ⟨cl, hcl⟩ : ∃ cl, numF P 2 (·.n) = cl := ⟨_, rfl⟩
 have HCL := Aside0.mk hcl
 obtain ⟨p, hp⟩ : ∃ p, sortF P (openX P s) = p := ⟨_, rfl⟩
 obtain ⟨q, hq⟩ : ∃ q, sortF P s = q := ⟨_, rfl⟩
 have HP := Aside0.mk hp
 have HQ := Aside0.mk hq
 have HP2 : Aside0 (sortF P (openX P p) = p) := ⟨by rw [← hp]; exact nfd_twice HF.out s⟩
 have HQ2 : Aside0 (sortF P q = q) := ⟨by rw [← hq]; exact sortF_twice P s⟩
 have HPS : Aside0 (sortedG (numF P 2 (·.n)) 0 p = true) := ⟨by rw [sortedG_eq _ (hp_of HF.out.toGood)]; have e : runF (numF P 2 (·.n)) p [] = p := (by rw [← hp]; exact sortF_twice P _); rw [e]; simp⟩
 have HQS : Aside0 (sortedG (numF P 2 (·.n)) 0 q = true) := ⟨by rw [sortedG_eq _ (hp_of HF.out.toGood)]; have e : runF (numF P 2 (·.n)) q [] = q := HQ2.out; rw [e]; simp⟩
 have HPN : Aside0 (∀ z ∈ p, openF P z = []) := ⟨by rw [← hp]; exact nfd_all HF.out s⟩
 have HFI : Aside0 (∀ k, q.filter (fun z => decide (cl z = k)) = s.filter (fun z => decide (cl z = k))) := ⟨fun k => by rw [← hq, ← hcl]; have := runF_filter (numF P 2 (·.n)) k s [] (fun m h => by cases h); simpa [sortF] using this⟩
 have HKE : Aside0 (∀ (i : Nat) (z : Int), s[i]? = some z → cl z = 0 → q[i]? = some z) := ⟨fun i z h1 h2 => by rw [← hq]; have := runF_keeps (numF P 2 (·.n)) s [] i z h1 (by rw [hcl]; exact h2); simpa [sortF] using this⟩
 obtain ⟨b, hb⟩ : ∃ b, sortedG (numF P 2 (·.n)) 0 s = b := ⟨_, rfl⟩
 have HB := Aside0.mk hb
 have HB2 : Aside0 ((q == s) = b) := ⟨by rw [← hb, sortedG_eq _ (hp_of HF.out.toGood), ← hq]; rfl⟩
 have hbb : (b != b) = false := by cases b <;> rfl
 have HPL : Aside0 (p.length ≤ 4800) := ⟨by rw [← hp, sortF_length]; have := openX_len HF.out s; have := HSL.out; omega⟩
 have HQL : Aside0 (q.length = s.length) := ⟨by rw [← hq, sortF_length]⟩
 have hqs : ((q.length : Int) != (s.length : Int)) = false := by rw [HQL.out]; simp
 have HPL2 : Aside0 (p.length ≤ 65536) := ⟨by have := HPL.out; omega⟩
 have HPL4 : Aside0 (p.length ≤ 100000000) := ⟨by have := HPL.out; omega⟩
 have HPB : Aside0 (p.length ≤ 35184372087808) := ⟨by have := HPL.out; omega⟩
 have HQL2 : Aside0 (q.length ≤ 65536) := ⟨by have := HQL.out; have := HSL.out; omega⟩
 have HQL4 : Aside0 (q.length ≤ 100000000) := ⟨by have := HQL2.out; omega⟩
 have HQB : Aside0 (q.length ≤ 35184372087808) := ⟨by have := HQL2.out; omega⟩
 have HPR : Aside0 (InI32 p) := ⟨by rw [← hp]; exact sortF_range P (openX_range HF.out HF.out.wf HSR.out)⟩
 have HQR : Aside0 (InI32 q) := ⟨by rw [← hq]; exact sortF_range P HSR.out⟩
 have HPP : Aside0 ((p == p) = true) := ⟨by simp⟩
 have HQQ : Aside0 ((q == q) = true) := ⟨by simp⟩
 clear hs hp hq hb hcl
 go_enter Tryz.func6, Tryz.ntmps6
 go_wp2_with (first | (go_at_call 26; (with_reducible refine (SameB_calls A5 A2 c5 c2 q s _ (HI5.out.up (up_trans HS6.out (up_trans HS7.out (up_trans HS8.out (up_trans HS9.out (up_trans HS10.out HS11.out)))))) (HI2.out.up (up_trans HS3.out (up_trans HS4.out (up_trans HS5.out (up_trans HS6.out (up_trans HS7.out (up_trans HS8.out (up_trans HS9.out (up_trans HS10.out HS11.out))))))))) HQB.out HSB.out b HB2.out).mono ?_); rintro e w12 ⟨rfl, hup⟩; have HS12 := Aside0.mk hup; clear hup) |
  (go_at_call 35; (with_reducible refine (Sorted_i (HD.out.up (up_trans HS2.out (up_trans HS3.out (up_trans HS4.out (up_trans HS5.out (up_trans HS6.out (up_trans HS7.out (up_trans HS8.out (up_trans HS9.out HS10.out))))))))) HF.out.toGood A2 c2 s _ rfl (HI2.out.up (up_trans HS3.out (up_trans HS4.out (up_trans HS5.out (up_trans HS6.out (up_trans HS7.out (up_trans HS8.out (up_trans HS9.out HS10.out)))))))) HSR.out HSL4.out b HB.out).mono ?_); rintro e w11 ⟨rfl, hup⟩; have HS11 := Aside0.mk hup; clear hup) |
  (go_at_call 26; (with_reducible refine (SameB_calls A6 A5 c6 c5 q q _ (HI6.out.up (up_trans HS7.out (up_trans HS8.out HS9.out))) (HI5.out.up (up_trans HS6.out (up_trans HS7.out (up_trans HS8.out HS9.out)))) HQB.out HQB.out true HQQ.out).mono ?_); rintro e w10 ⟨rfl, hup⟩; have HS10 := Aside0.mk hup; clear hup) |
  (go_at_call 35; (with_reducible refine (Sorted_i (HD.out.up (up_trans HS2.out (up_trans HS3.out (up_trans HS4.out (up_trans HS5.out (up_trans HS6.out (up_trans HS7.out HS8.out))))))) HF.out.toGood A5 c5 q _ rfl (HI5.out.up (up_trans HS6.out (up_trans HS7.out HS8.out))) HQR.out HQL4.out true HQS.out).mono ?_); rintro e w9 ⟨rfl, hup⟩; have HS9 := Aside0.mk hup; clear hup) |
  (go_at_call 35; (with_reducible refine (Sorted_i (HD.out.up (up_trans HS2.out (up_trans HS3.out (up_trans HS4.out (up_trans HS5.out (up_trans HS6.out HS7.out)))))) HF.out.toGood A3 c3 p _ rfl (HI3.out.up (up_trans HS4.out (up_trans HS5.out (up_trans HS6.out HS7.out)))) HPR.out HPL4.out true HPS.out).mono ?_); rintro e w8 ⟨rfl, hup⟩; have HS8 := Aside0.mk hup; clear hup) |
  (go_at_call 26; (with_reducible refine (SameB_calls A3 A4 c3 c4 p p _ (HI3.out.up (up_trans HS4.out (up_trans HS5.out HS6.out))) (HI4.out.up (up_trans HS5.out HS6.out)) HPB.out HPB.out true HPP.out).mono ?_); rintro e w7 ⟨rfl, hup⟩; have HS7 := Aside0.mk hup; clear hup) |
  (go_at_call 25; (with_reducible refine (Sort_i (HD.out.up (up_trans HS2.out (up_trans HS3.out (up_trans HS4.out HS5.out)))) HF.out.toGood A5 c5 q _ rfl HI5.out HQR.out HQL2.out q HQ2.out).mono ?_); rintro e w6 ⟨A6, c6, rfl, _, hi, hup⟩; have HS6 := Aside0.mk hup; have HI6 := Aside0.mk hi; clear hup hi) |
  (go_at_call 25; (with_reducible refine (Sort_i (HD.out.up (up_trans HS2.out (up_trans HS3.out HS4.out))) HF.out.toGood A2 c2 s _ rfl (HI2.out.up (up_trans HS3.out HS4.out)) HSR.out HSL2.out q HQ.out).mono ?_); rintro e w5 ⟨A5, c5, rfl, _, hi, hup⟩; have HS5 := Aside0.mk hup; have HI5 := Aside0.mk hi; clear hup hi) |
  (go_at_call 24; (with_reducible refine (NFD_i (HD.out.up (up_trans HS2.out HS3.out)) HF.out HF.out.wf A3 c3 p _ rfl HI3.out HPR.out HPL2.out p HP2.out).mono ?_); rintro e w4 ⟨A4, c4, rfl, _, hi, hup⟩; have HS4 := Aside0.mk hup; have HI4 := Aside0.mk hi; clear hup hi) |
  (go_at_call 24; (with_reducible refine (NFD_i (HD.out.up HS2.out) HF.out HF.out.wf A2 c2 s _ rfl HI2.out HSR.out HSL2.out p HP.out).mono ?_); rintro e w3 ⟨A3, c3, rfl, _, hi, hup⟩; have HS3 := Aside0.mk hup; have HI3 := Aside0.mk hi; clear hup hi) |
  (go_at_call 23; (with_reducible refine (few12_ints X1 k1 x1 s 150 150 rfl _ (HJ1.out.up HS1.out) HX1.out HXC1.out (by decide) HSE.out).mono ?_); rintro e w2 ⟨A2, c2, rfl, hi, hup⟩; have HS2 := Aside0.mk hup; have HI2 := Aside0.mk hi; clear hup hi) |
  (go_at_call 21; (with_reducible refine (HM.out).mono ?_); rintro e w1 ⟨bd, D, A1, c1, rfl, hD, hTab, hup⟩; have HS1 := Aside0.mk hup; have HD := Aside0.mk hD; have HTA : Aside0 (TabAt w1 A1 P) := ⟨hTab.table, HF.out⟩; have HTF := Aside0.mk hTab; clear hup hD hTab))
 have HU12 := Aside0.mk (up_trans HS1.out (up_trans HS2.out (up_trans HS3.out (up_trans HS4.out (up_trans HS5.out (up_trans HS6.out (up_trans HS7.out (up_trans HS8.out (up_trans HS9.out (up_trans HS10.out (up_trans HS11.out HS12.out)))))))))))
 have HD12 := Aside0.mk (HD.out.up (up_trans HS2.out (up_trans HS3.out (up_trans HS4.out (up_trans HS5.out (up_trans HS6.out (up_trans HS7.out (up_trans HS8.out (up_trans HS9.out (up_trans HS10.out (up_trans HS11.out HS12.out)))))))))))
 have HI2' : Aside0 (Ints .i32 w12 A2 s) := ⟨HI2.out.up (up_trans HS3.out (up_trans HS4.out (up_trans HS5.out (up_trans HS6.out (up_trans HS7.out (up_trans HS8.out (up_trans HS9.out (up_trans HS10.out (up_trans HS11.out HS12.out)))))))))⟩
 have HI3' : Aside0 (Ints .i32 w12 A3 p) := ⟨HI3.out.up (up_trans HS4.out (up_trans HS5.out (up_trans HS6.out (up_trans HS7.out (up_trans HS8.out (up_trans HS9.out (up_trans HS10.out (up_trans HS11.out HS12.out))))))))⟩
 have HI5' : Aside0 (Ints .i32 w12 A5 q) := ⟨HI5.out.up (up_trans HS6.out (up_trans HS7.out (up_trans HS8.out (up_trans HS9.out (up_trans HS10.out (up_trans HS11.out HS12.out))))))⟩
 clear hqs
 go_loopg [17] p.length (fun k v17 w' => ∃ j : Nat, v17 = .int .i64 j ∧ Aside0 (j + k = p.length) ∧ Aside0 (Up w12 w'))
 case atStart => exact ⟨0, rfl, ⟨Nat.zero_add _⟩, ⟨up_refl _⟩⟩
 case round =>
  obtain ⟨j, rfl, HJ, HU⟩ := hrel
  cases gk with
  | succ k2 =>
    have hi : j < p.length := by have := HJ.out; omega
    have hlt : decide ((j : Int) < (p.length : Int)) = true := decide_eq_true (by omega)
    have z0 : 0 ≤ (j : Int) := by omega
    have z1 : (j : Int) < (p.length : Int) := by omega
    have z2 : (j : Int) < 100000 := by have := HPL.out; omega
    obtain ⟨ad, hA, y1⟩ := HI3'.out.at_ j z0 z1
    rw [Int.toNat_natCast] at y1
    obtain ⟨z, hz⟩ : ∃ z, rd p (j : Int) = z := ⟨_, rfl⟩
    have HZR : Aside0 (-2147483648 ≤ z ∧ z ≤ 2147483647) := ⟨by rw [← hz]; exact HPR.out.rd j hi⟩
    have HZO : Aside0 (openF P z = []) := ⟨HPN.out z (by rw [← hz, rd_elem p j hi]; exact List.getElem_mem _)⟩
    rw [hz] at y1
    obtain ⟨_, ⟨a7, a8, a9, a10, a11⟩, _, _, _, _, _⟩ := HD12.out.all
    have HS0 : Aside0 (∀ W, Up w12 W → (fun w' => w'.cell? ⟨bd, 7, none⟩ = some (.map (some D.bo)) ∧ w'.cell? ⟨bd, 8, none⟩ = some (.map (some D.bf)) ∧ w'.cell? ⟨bd, 9, none⟩ = some (.map (some D.bl)) ∧ w'.cell? ⟨bd, 10, none⟩ = some (.map (some D.bc)) ∧ w'.cell? ⟨bd, 11, none⟩ = some (.map (some D.bs)) ∧ w'.cell? (ad.add j) = some (.int .i32 z)) W) := ⟨fun W hW => ⟨up_cell hW a7, up_cell hW a8, up_cell hW a9, up_cell hW a10, up_cell hW a11, up_cell hW y1⟩⟩
    clear a7 a8 a9 a10 a11 y1 hz hi
    subst hA
    go_wp2
    go_region_held3 (fun w' => w'.cell? ⟨bd, 7, none⟩ = some (.map (some D.bo)) ∧ w'.cell? ⟨bd, 8, none⟩ = some (.map (some D.bf)) ∧ w'.cell? ⟨bd, 9, none⟩ = some (.map (some D.bl)) ∧ w'.cell? ⟨bd, 10, none⟩ = some (.map (some D.bc)) ∧ w'.cell? ⟨bd, 11, none⟩ = some (.map (some D.bs)) ∧ w'.cell? (ad.add j) = some (.int .i32 z)) (first | exact HS0.out _ (up_drew HU.out) | exact HS0.out _ HV.out) (first | (go_at_call 38; (with_reducible refine ((HD12.out.up (up_drew HU.out)).Open HF.out.toGood z [] HZO.out HZR.out.1 HZR.out.2).mono ?_); rintro e w13 ⟨v13, rfl, hown, hup⟩; obtain ⟨A13, c13, hv⟩ := own_any hown; subst hv; have HV := Aside0.mk (up_trans (up_drew HU.out) hup); clear hown hup))
    go_wp2
    go_roundg k2
    case measure => have := HJ.out; omega
    case rel => exact ⟨j + 1, by go_num, ⟨by have := HJ.out; omega⟩, HV⟩
  | zero =>
    have hlt : decide ((j : Int) < (p.length : Int)) = false := decide_eq_false (by have := HJ.out; omega)
    have hlt1 : ¬ (j < p.length) := by have := HJ.out; omega
    go_wp2
    clear hlt hlt1
    have HUa := HU
    clear HU HJ
    go_loopg [18, 19, 20, 21] 255 (fun k v18 v19 v20 v21 w' => ∃ j : Nat, v18 = .int .i64 j ∧ Aside0 (j + k = 255) ∧ Aside0 (Up w12 w'))
    case atStart => exact ⟨0, rfl, ⟨Nat.zero_add _⟩, HUa⟩
    case round =>
     obtain ⟨j, rfl, HJ, HU⟩ := hrel
     clear HUa
     cases gk with
     | zero =>
       have hlt : decide ((j : Int) < 255) = false := decide_eq_false (by have := HJ.out; omega)
       have hlt1 : ¬ ((j : Int) < 255) := by have := HJ.out; omega
       go_wp2
       go_ret
       exact ⟨rfl, up_trans HU12.out HU.out⟩
     | succ k1 =>
       have hlt : decide ((j : Int) < 255) = true := decide_eq_true (by have := HJ.out; omega)
       have hlt1 : (j : Int) < 255 := by have := HJ.out; omega
       obtain ⟨wo, hwo⟩ : ∃ wo, wo = wr := ⟨_, rfl⟩
       subst hwo
       go_wp2
       go_loopg [19, 20, 21] s.length (fun k v19 v20 v21 w' => ∃ (i : Nat) (la lb : List Int) (Aa Ab : Option Addr) (ca cb : Nat), v21 = .int .i64 i ∧ v19 = .slice Aa la.length ca ∧ v20 = .slice Ab lb.length cb ∧ Aside0 (i + k = s.length) ∧ Aside0 ((s.take i).filter (fun z => decide (cl z = j)) = la ∧ (q.take i).filter (fun z => decide (cl z = j)) = lb) ∧ Aside0 (w'.ownsRow wo.heap.size 21 1 (.slice Aa la.length ca) la.length (la.map (Value.int .i32))) ∧ Aside0 (w'.ownsRow wo.heap.size 21 1 (.slice Ab lb.length cb) lb.length (lb.map (Value.int .i32))) ∧ Aside0 (ApartV (.slice Aa la.length ca) (.slice Ab lb.length cb)) ∧ Aside0 (Up wo w'))
       case atStart => exact ⟨0, [], [], none, none, 0, 0, rfl, rfl, rfl, ⟨Nat.zero_add _⟩, ⟨by simp⟩, ⟨World.ownsRow_nil _ _ _ _⟩, ⟨World.ownsRow_nil _ _ _ _⟩, ⟨fun k hk => by cases hk⟩, ⟨up_refl _⟩⟩
       case round =>
        obtain ⟨i, la, lb, Aa, Ab, ca, cb, rfl, rfl, rfl, HI, HLL, HOa, HOb, HAP, HV⟩ := hrel
        cases gk with
        | zero =>
          have hlt2 : decide ((i : Int) < (s.length : Int)) = false := decide_eq_false (by have := HI.out; omega)
          have hlt3 : ¬ (i < s.length) := by have := HI.out; omega
          have HAB : Aside0 ((la == lb) = true) := ⟨by
           have h := HLL.out
           rw [List.take_of_length_le (by omega), List.take_of_length_le (by rw [HQL.out]; omega), HFI.out] at h
           rw [← h.1, ← h.2]
           simp⟩
          have HLA : Aside0 (la.length ≤ 35184372087808 ∧ lb.length ≤ 35184372087808) := ⟨by
           rw [← HLL.out.1, ← HLL.out.2]
           have h1 := filt_len cl j s i
           have h2 := filt_len cl j q i
           have := HQL.out
           have := HSL.out
           omega⟩
          have hni : (j : Int) < 100000 := by omega
          go_wp2_with (first | (go_at_call 26; (with_reducible refine (SameB_calls Aa Ab ca cb la lb _ (own_ints' HOa.out) (own_ints' HOb.out) HLA.out.1 HLA.out.2 true HAB.out).mono ?_); rintro e w17 ⟨rfl, hup⟩; have HW := Aside0.mk (up_trans HV.out hup); clear hup))
          go_roundg k1
          case measure => have := HJ.out; omega
          case rel => exact ⟨j + 1, by go_num, ⟨by have := HJ.out; omega⟩, ⟨up_trans HU.out HW.out⟩⟩
        | succ k2 =>
          have hi : i < s.length := by have := HI.out; omega
          have hlt2 : decide ((i : Int) < (s.length : Int)) = true := decide_eq_true (by omega)
          have z0 : 0 ≤ (i : Int) := by omega
          have z1 : (i : Int) < (s.length : Int) := by omega
          have z3 : (i : Int) < (q.length : Int) := by rw [HQL.out]; omega
          have z2 : (i : Int) < 100000 := by have := HSL.out; omega
          obtain ⟨ad, hA, y1⟩ := HI2'.out.at_ i z0 z1
          obtain ⟨ad', hA', y2⟩ := HI5'.out.at_ i z0 z3
          rw [Int.toNat_natCast] at y1 y2
          obtain ⟨z, hz⟩ : ∃ z, rd s (i : Int) = z := ⟨_, rfl⟩
          obtain ⟨y, hy⟩ : ∃ y, rd q (i : Int) = y := ⟨_, rfl⟩
          have HZR : Aside0 (-2147483648 ≤ z ∧ z ≤ 2147483647) := ⟨by rw [← hz]; exact HSR.out.rd i hi⟩
          have HYR : Aside0 (-2147483648 ≤ y ∧ y ≤ 2147483647) := ⟨by rw [← hy]; exact HQR.out.rd i (by omega)⟩
          have HZS : Aside0 (s[i]? = some z) := ⟨by rw [List.getElem?_eq_getElem hi, ← hz, rd_elem s i hi]⟩
          have HYS : Aside0 (q[i]? = some y) := ⟨by rw [List.getElem?_eq_getElem (by omega), ← hy, rd_elem q i (by omega)]⟩
          rw [hz] at y1
          rw [hy] at y2
          obtain ⟨kz, hkz⟩ : ∃ kz, cl z = kz := ⟨_, rfl⟩
          obtain ⟨ky, hky⟩ : ∃ ky, cl y = ky := ⟨_, rfl⟩
          have HKZ := Aside0.mk hkz
          have HKY := Aside0.mk hky
          obtain ⟨⟨_, _, _, a3, _, _, _⟩, _, _, _, _, _, _⟩ := HD12.out.all
          have HS0 : Aside0 (∀ W, Up w12 W → (fun w' => w'.cell? ⟨bd, 3, none⟩ = some (.pointer (some ⟨D.b3, 0, none⟩)) ∧ w'.cell? (ad.add i) = some (.int .i32 z) ∧ w'.cell? (ad'.add i) = some (.int .i32 y)) W) := ⟨fun W hW => ⟨up_cell hW a3, up_cell hW y1, up_cell hW y2⟩⟩
          have HV12 := Aside0.mk (up_trans HU.out HV.out)
          have HCZ : Aside0 (∀ W, Up w12 W → Calls Tryz.prog 27 #[.agg #[.pointer (some ⟨D.b3, 0, none⟩)], .int .i32 z] W fun e' w' => e' = .returned (.int .i64 kz) ∧ Up W w') := ⟨fun W hW => (HD12.out.up hW).Class HF.out.toGood z kz (by rw [HCL.out]; exact HKZ.out) HZR.out.1 HZR.out.2⟩
          have HCY : Aside0 (∀ W, Up w12 W → Calls Tryz.prog 27 #[.agg #[.pointer (some ⟨D.b3, 0, none⟩)], .int .i32 y] W fun e' w' => e' = .returned (.int .i64 ky) ∧ Up W w') := ⟨fun W hW => (HD12.out.up hW).Class HF.out.toGood y ky (by rw [HCL.out]; exact HKY.out) HYR.out.1 HYR.out.2⟩
          have HZF : Aside0 ((s.take (i + 1)).filter (fun z => decide (cl z = j)) = la ++ (if kz = (j : Int) then [z] else [])) := ⟨by rw [filt_step cl j s i z HZS.out, HLL.out.1, HKZ.out]⟩
          have HYF : Aside0 ((q.take (i + 1)).filter (fun z => decide (cl z = j)) = lb ++ (if ky = (j : Int) then [y] else [])) := ⟨by rw [filt_step cl j q i y HYS.out, HLL.out.2, HKY.out]⟩
          have HYZ : Aside0 (kz = 0 → y = z) := ⟨fun h => by have := HKE.out i z HZS.out (by rw [HKZ.out]; exact h); rw [HYS.out] at this; exact Option.some.inj this⟩
          have MA : Aside0 (la.length + 1 ≤ maxLen ∧ (la.length + 1) * 4 ≤ 140737488355328) := ⟨by have := filt_len cl j s i; rw [HLL.out.1] at this; have := HSL.out; unfold maxLen; omega⟩
          have MB : Aside0 (lb.length + 1 ≤ maxLen ∧ (lb.length + 1) * 4 ≤ 140737488355328) := ⟨by have := filt_len cl j q i; rw [HLL.out.2] at this; have := HSL.out; have := HQL.out; unfold maxLen; omega⟩
          clear a3 y1 y2 hz hy hkz hky hi
          subst hA
          subst hA'
          by_cases hez : kz = (j : Int)
          ·have e1 : (kz == (j : Int)) = true := beq_iff_eq.mpr hez
           have HEZ := Aside0.mk hez
           by_cases hj0 : j = 0
           ·have g0 : decide ((j : Int) = 0) = true := decide_eq_true (by omega)
            have g1 : ((j : Int) == 0) = true := beq_iff_eq.mpr (by omega)
            have hyz := HYZ.out (by omega)
            have HEY : Aside0 (ky = (j : Int)) := ⟨by rw [← HKY.out, hyz, HKZ.out]; exact hez⟩
            have e2 : (ky == (j : Int)) = true := beq_iff_eq.mpr HEY.out
            have g2 : (y != z) = false := by rw [hyz]; simp
            clear hez hj0 hyz
            go_wp2
            go_region_held3 (fun w' => w'.cell? ⟨bd, 3, none⟩ = some (.pointer (some ⟨D.b3, 0, none⟩)) ∧ w'.cell? (ad.add i) = some (.int .i32 z) ∧ w'.cell? (ad'.add i) = some (.int .i32 y)) (first | exact HS0.out _ (up_drew HV12.out) | exact HS0.out _ HW13.out) (first | (go_at_call 27; (with_reducible refine (HCZ.out _ (up_drew HV12.out)).mono ?_); rintro e' w13 ⟨rfl, hup⟩; have HW13 := Aside0.mk (up_trans (up_drew HV12.out) hup); have HW13r := Aside0.mk (up_trans (up_drew (up_refl wr)) hup); clear hup))
            have HOa13 := Aside0.mk (own_up HOa.out HW13r.out)
            have HOb13 := Aside0.mk (own_up HOb.out HW13r.out)
            have HT13 := Aside0.mk (up_trans HV.out HW13r.out)
            obtain ⟨s3, s4, s5⟩ := HS0.out _ HW13.out
            go_wp2_with (first | (at_builtin; refine (wpList_append_row _ rfl _ _ 23 rfl wo.heap.size 21 ie ze 1 4 Tryz.underlying23 hie hze hsi hby hzc (by decide) (.slice Aa la.length ca) la.length (la.map (Value.int .i32)) rfl (HOa13.out.alloc _) (some ⟨w13.heap.size, 0, none⟩) 1 1 (([z] : List Int).map (Value.int .i32)) rfl rfl (ints_new w13 [z]) (ints_one _ _) ?haa ?hab ?hac ?_); (case haa => exact MA.out.1); (case hab => exact MA.out.2); (case hac => exact (up_alloc HT13.out _).size); intro v' w14 hown hgrow hat; have HNa : Aside0 (w14.ownsRow wo.heap.size 21 1 v' (la.length + 1) ((la ++ [z]).map (Value.int .i32))) := ⟨(congrArg (fun t => w14.ownsRow wo.heap.size 21 1 v' (la.length + 1) t) (List.map_append (f := Value.int .i32) (l₁ := la) (l₂ := [z]))).mpr hown⟩; have HXa := Aside0.mk (ApartV.grown HAP.out (HOb13.out.alloc (.cells #[.int .i32 z] 21)) hat); have HYa := Aside0.mk (own_grown (HOb13.out.alloc (.cells #[.int .i32 z] 21)) hgrow (fun k hk => ApartV.symm (HAP.out) k hk)); have HZa := Aside0.mk ((up_alloc HT13.out (.cells #[.int .i32 z] 21)).grown hgrow (up_alloc HT13.out (.cells #[.int .i32 z] 21)).size (fun k hk => (HOa13.out.lt k hk).1)); obtain ⟨Na, ma, hv⟩ := own_any HNa.out; subst hv; clear hown hgrow hat))
            have HOb14 := HYa
            have HT14 := HZa
            have HW14 := Aside0.mk (up_trans HU.out HZa.out)
            clear s3 s4 s5
            obtain ⟨s3, s4, s5⟩ := HS0.out _ HW14.out
            go_quiet (fail)
            have HW15 := Aside0.mk (up_drewN HW14.out nq)
            have HT15 := Aside0.mk (up_drewN HT14.out nq)
            have HOa15 := Aside0.mk (own_up HNa.out (up_drewN (up_refl _) nq))
            have HOb15 := Aside0.mk (own_up HOb14.out (up_drewN (up_refl _) nq))
            clear s3 s4 s5
            generalize w14.drewN nq = w15 at *
            go_wp2
            go_region_held3 (fun w' => w'.cell? ⟨bd, 3, none⟩ = some (.pointer (some ⟨D.b3, 0, none⟩)) ∧ w'.cell? (ad.add i) = some (.int .i32 z) ∧ w'.cell? (ad'.add i) = some (.int .i32 y)) (first | exact HS0.out _ (up_drew HW15.out) | exact HS0.out _ HW16.out) (first | (go_at_call 27; (with_reducible refine (HCY.out _ (up_drew HW15.out)).mono ?_); rintro e' w16 ⟨rfl, hup⟩; have HW16 := Aside0.mk (up_trans (up_drew HW15.out) hup); have HW16r := Aside0.mk (up_trans (up_drew (up_refl w15)) hup); clear hup))
            have HT16 := Aside0.mk (up_trans HT15.out HW16r.out)
            have HOa16 := Aside0.mk (own_up HOa15.out HW16r.out)
            have HOb16 := Aside0.mk (own_up HOb15.out HW16r.out)
            obtain ⟨s3, s4, s5⟩ := HS0.out _ HW16.out
            go_wp2_with (first | (at_builtin; refine (wpList_append_row _ rfl _ _ 23 rfl wo.heap.size 21 ie ze 1 4 Tryz.underlying23 hie hze hsi hby hzc (by decide) (.slice Ab lb.length cb) lb.length (lb.map (Value.int .i32)) rfl (HOb16.out.alloc _) (some ⟨w16.heap.size, 0, none⟩) 1 1 (([y] : List Int).map (Value.int .i32)) rfl rfl (ints_new w16 [y]) (ints_one _ _) ?hba ?hbb ?hbc ?_); (case hba => exact MB.out.1); (case hbb => exact MB.out.2); (case hbc => exact (up_alloc HT16.out _).size); intro v' w17 hown hgrow hat; have HNb : Aside0 (w17.ownsRow wo.heap.size 21 1 v' (lb.length + 1) ((lb ++ [y]).map (Value.int .i32))) := ⟨(congrArg (fun t => w17.ownsRow wo.heap.size 21 1 v' (lb.length + 1) t) (List.map_append (f := Value.int .i32) (l₁ := lb) (l₂ := [y]))).mpr hown⟩; have HXb := Aside0.mk (ApartV.grown (ApartV.symm HXa.out) (HOa16.out.alloc (.cells #[.int .i32 y] 21)) hat); have HYb := Aside0.mk (own_grown (HOa16.out.alloc (.cells #[.int .i32 y] 21)) hgrow (fun k hk => ApartV.symm ((ApartV.symm HXa.out)) k hk)); have HZb := Aside0.mk ((up_alloc HT16.out (.cells #[.int .i32 y] 21)).grown hgrow (up_alloc HT16.out (.cells #[.int .i32 y] 21)).size (fun k hk => (HOb16.out.lt k hk).1)); obtain ⟨Nb, mb, hv⟩ := own_any HNb.out; subst hv; clear hown hgrow hat))
            go_roundg k2
            case measure => have := HI.out; omega
            case rel => exact ⟨i + 1, (la ++ [z]), (lb ++ [y]), Na, Nb, ma, mb, by go_num, by simp, by simp, ⟨by have := HI.out; omega⟩, ⟨by rw [HZF.out, if_pos HEZ.out], by rw [HYF.out, if_pos HEY.out]⟩, ⟨by simpa using HYb.out⟩, ⟨by simpa using HNb.out⟩, ⟨by simpa using ApartV.symm HXb.out⟩, HZb⟩
           ·have g1 : ((j : Int) == 0) = false := beq_eq_false_iff_ne.mpr (by omega)
            clear hez hj0
            by_cases hey : ky = (j : Int)
            ·have e2 : (ky == (j : Int)) = true := beq_iff_eq.mpr hey
             have HEY := Aside0.mk hey
             clear hey
             go_wp2
             go_region_held3 (fun w' => w'.cell? ⟨bd, 3, none⟩ = some (.pointer (some ⟨D.b3, 0, none⟩)) ∧ w'.cell? (ad.add i) = some (.int .i32 z) ∧ w'.cell? (ad'.add i) = some (.int .i32 y)) (first | exact HS0.out _ (up_drew HV12.out) | exact HS0.out _ HW13.out) (first | (go_at_call 27; (with_reducible refine (HCZ.out _ (up_drew HV12.out)).mono ?_); rintro e' w13 ⟨rfl, hup⟩; have HW13 := Aside0.mk (up_trans (up_drew HV12.out) hup); have HW13r := Aside0.mk (up_trans (up_drew (up_refl wr)) hup); clear hup))
             have HOa13 := Aside0.mk (own_up HOa.out HW13r.out)
             have HOb13 := Aside0.mk (own_up HOb.out HW13r.out)
             have HT13 := Aside0.mk (up_trans HV.out HW13r.out)
             obtain ⟨s3, s4, s5⟩ := HS0.out _ HW13.out
             go_wp2_with (first | (at_builtin; refine (wpList_append_row _ rfl _ _ 23 rfl wo.heap.size 21 ie ze 1 4 Tryz.underlying23 hie hze hsi hby hzc (by decide) (.slice Aa la.length ca) la.length (la.map (Value.int .i32)) rfl (HOa13.out.alloc _) (some ⟨w13.heap.size, 0, none⟩) 1 1 (([z] : List Int).map (Value.int .i32)) rfl rfl (ints_new w13 [z]) (ints_one _ _) ?haa ?hab ?hac ?_); (case haa => exact MA.out.1); (case hab => exact MA.out.2); (case hac => exact (up_alloc HT13.out _).size); intro v' w14 hown hgrow hat; have HNa : Aside0 (w14.ownsRow wo.heap.size 21 1 v' (la.length + 1) ((la ++ [z]).map (Value.int .i32))) := ⟨(congrArg (fun t => w14.ownsRow wo.heap.size 21 1 v' (la.length + 1) t) (List.map_append (f := Value.int .i32) (l₁ := la) (l₂ := [z]))).mpr hown⟩; have HXa := Aside0.mk (ApartV.grown HAP.out (HOb13.out.alloc (.cells #[.int .i32 z] 21)) hat); have HYa := Aside0.mk (own_grown (HOb13.out.alloc (.cells #[.int .i32 z] 21)) hgrow (fun k hk => ApartV.symm (HAP.out) k hk)); have HZa := Aside0.mk ((up_alloc HT13.out (.cells #[.int .i32 z] 21)).grown hgrow (up_alloc HT13.out (.cells #[.int .i32 z] 21)).size (fun k hk => (HOa13.out.lt k hk).1)); obtain ⟨Na, ma, hv⟩ := own_any HNa.out; subst hv; clear hown hgrow hat))
             have HOb14 := HYa
             have HT14 := HZa
             have HW14 := Aside0.mk (up_trans HU.out HZa.out)
             clear s3 s4 s5
             obtain ⟨s3, s4, s5⟩ := HS0.out _ HW14.out
             go_quiet (fail)
             have HW15 := Aside0.mk (up_drewN HW14.out nq)
             have HT15 := Aside0.mk (up_drewN HT14.out nq)
             have HOa15 := Aside0.mk (own_up HNa.out (up_drewN (up_refl _) nq))
             have HOb15 := Aside0.mk (own_up HOb14.out (up_drewN (up_refl _) nq))
             clear s3 s4 s5
             generalize w14.drewN nq = w15 at *
             go_wp2
             go_region_held3 (fun w' => w'.cell? ⟨bd, 3, none⟩ = some (.pointer (some ⟨D.b3, 0, none⟩)) ∧ w'.cell? (ad.add i) = some (.int .i32 z) ∧ w'.cell? (ad'.add i) = some (.int .i32 y)) (first | exact HS0.out _ (up_drew HW15.out) | exact HS0.out _ HW16.out) (first | (go_at_call 27; (with_reducible refine (HCY.out _ (up_drew HW15.out)).mono ?_); rintro e' w16 ⟨rfl, hup⟩; have HW16 := Aside0.mk (up_trans (up_drew HW15.out) hup); have HW16r := Aside0.mk (up_trans (up_drew (up_refl w15)) hup); clear hup))
             have HT16 := Aside0.mk (up_trans HT15.out HW16r.out)
             have HOa16 := Aside0.mk (own_up HOa15.out HW16r.out)
             have HOb16 := Aside0.mk (own_up HOb15.out HW16r.out)
             obtain ⟨s3, s4, s5⟩ := HS0.out _ HW16.out
             go_wp2_with (first | (at_builtin; refine (wpList_append_row _ rfl _ _ 23 rfl wo.heap.size 21 ie ze 1 4 Tryz.underlying23 hie hze hsi hby hzc (by decide) (.slice Ab lb.length cb) lb.length (lb.map (Value.int .i32)) rfl (HOb16.out.alloc _) (some ⟨w16.heap.size, 0, none⟩) 1 1 (([y] : List Int).map (Value.int .i32)) rfl rfl (ints_new w16 [y]) (ints_one _ _) ?hba ?hbb ?hbc ?_); (case hba => exact MB.out.1); (case hbb => exact MB.out.2); (case hbc => exact (up_alloc HT16.out _).size); intro v' w17 hown hgrow hat; have HNb : Aside0 (w17.ownsRow wo.heap.size 21 1 v' (lb.length + 1) ((lb ++ [y]).map (Value.int .i32))) := ⟨(congrArg (fun t => w17.ownsRow wo.heap.size 21 1 v' (lb.length + 1) t) (List.map_append (f := Value.int .i32) (l₁ := lb) (l₂ := [y]))).mpr hown⟩; have HXb := Aside0.mk (ApartV.grown (ApartV.symm HXa.out) (HOa16.out.alloc (.cells #[.int .i32 y] 21)) hat); have HYb := Aside0.mk (own_grown (HOa16.out.alloc (.cells #[.int .i32 y] 21)) hgrow (fun k hk => ApartV.symm ((ApartV.symm HXa.out)) k hk)); have HZb := Aside0.mk ((up_alloc HT16.out (.cells #[.int .i32 y] 21)).grown hgrow (up_alloc HT16.out (.cells #[.int .i32 y] 21)).size (fun k hk => (HOb16.out.lt k hk).1)); obtain ⟨Nb, mb, hv⟩ := own_any HNb.out; subst hv; clear hown hgrow hat))
             go_roundg k2
             case measure => have := HI.out; omega
             case rel => exact ⟨i + 1, (la ++ [z]), (lb ++ [y]), Na, Nb, ma, mb, by go_num, by simp, by simp, ⟨by have := HI.out; omega⟩, ⟨by rw [HZF.out, if_pos HEZ.out], by rw [HYF.out, if_pos HEY.out]⟩, ⟨by simpa using HYb.out⟩, ⟨by simpa using HNb.out⟩, ⟨by simpa using ApartV.symm HXb.out⟩, HZb⟩
            ·have e2 : (ky == (j : Int)) = false := beq_eq_false_iff_ne.mpr hey
             have HEY := Aside0.mk hey
             clear hey
             go_wp2
             go_region_held3 (fun w' => w'.cell? ⟨bd, 3, none⟩ = some (.pointer (some ⟨D.b3, 0, none⟩)) ∧ w'.cell? (ad.add i) = some (.int .i32 z) ∧ w'.cell? (ad'.add i) = some (.int .i32 y)) (first | exact HS0.out _ (up_drew HV12.out) | exact HS0.out _ HW13.out) (first | (go_at_call 27; (with_reducible refine (HCZ.out _ (up_drew HV12.out)).mono ?_); rintro e' w13 ⟨rfl, hup⟩; have HW13 := Aside0.mk (up_trans (up_drew HV12.out) hup); have HW13r := Aside0.mk (up_trans (up_drew (up_refl wr)) hup); clear hup))
             have HOa13 := Aside0.mk (own_up HOa.out HW13r.out)
             have HOb13 := Aside0.mk (own_up HOb.out HW13r.out)
             have HT13 := Aside0.mk (up_trans HV.out HW13r.out)
             obtain ⟨s3, s4, s5⟩ := HS0.out _ HW13.out
             go_wp2_with (first | (at_builtin; refine (wpList_append_row _ rfl _ _ 23 rfl wo.heap.size 21 ie ze 1 4 Tryz.underlying23 hie hze hsi hby hzc (by decide) (.slice Aa la.length ca) la.length (la.map (Value.int .i32)) rfl (HOa13.out.alloc _) (some ⟨w13.heap.size, 0, none⟩) 1 1 (([z] : List Int).map (Value.int .i32)) rfl rfl (ints_new w13 [z]) (ints_one _ _) ?haa ?hab ?hac ?_); (case haa => exact MA.out.1); (case hab => exact MA.out.2); (case hac => exact (up_alloc HT13.out _).size); intro v' w14 hown hgrow hat; have HNa : Aside0 (w14.ownsRow wo.heap.size 21 1 v' (la.length + 1) ((la ++ [z]).map (Value.int .i32))) := ⟨(congrArg (fun t => w14.ownsRow wo.heap.size 21 1 v' (la.length + 1) t) (List.map_append (f := Value.int .i32) (l₁ := la) (l₂ := [z]))).mpr hown⟩; have HXa := Aside0.mk (ApartV.grown HAP.out (HOb13.out.alloc (.cells #[.int .i32 z] 21)) hat); have HYa := Aside0.mk (own_grown (HOb13.out.alloc (.cells #[.int .i32 z] 21)) hgrow (fun k hk => ApartV.symm (HAP.out) k hk)); have HZa := Aside0.mk ((up_alloc HT13.out (.cells #[.int .i32 z] 21)).grown hgrow (up_alloc HT13.out (.cells #[.int .i32 z] 21)).size (fun k hk => (HOa13.out.lt k hk).1)); obtain ⟨Na, ma, hv⟩ := own_any HNa.out; subst hv; clear hown hgrow hat))
             have HOb14 := HYa
             have HT14 := HZa
             have HW14 := Aside0.mk (up_trans HU.out HZa.out)
             clear s3 s4 s5
             obtain ⟨s3, s4, s5⟩ := HS0.out _ HW14.out
             go_quiet (fail)
             have HW15 := Aside0.mk (up_drewN HW14.out nq)
             have HT15 := Aside0.mk (up_drewN HT14.out nq)
             have HOa15 := Aside0.mk (own_up HNa.out (up_drewN (up_refl _) nq))
             have HOb15 := Aside0.mk (own_up HOb14.out (up_drewN (up_refl _) nq))
             clear s3 s4 s5
             generalize w14.drewN nq = w15 at *
             go_wp2
             go_region_held3 (fun w' => w'.cell? ⟨bd, 3, none⟩ = some (.pointer (some ⟨D.b3, 0, none⟩)) ∧ w'.cell? (ad.add i) = some (.int .i32 z) ∧ w'.cell? (ad'.add i) = some (.int .i32 y)) (first | exact HS0.out _ (up_drew HW15.out) | exact HS0.out _ HW16.out) (first | (go_at_call 27; (with_reducible refine (HCY.out _ (up_drew HW15.out)).mono ?_); rintro e' w16 ⟨rfl, hup⟩; have HW16 := Aside0.mk (up_trans (up_drew HW15.out) hup); have HW16r := Aside0.mk (up_trans (up_drew (up_refl w15)) hup); clear hup))
             have HT16 := Aside0.mk (up_trans HT15.out HW16r.out)
             have HOa16 := Aside0.mk (own_up HOa15.out HW16r.out)
             have HOb16 := Aside0.mk (own_up HOb15.out HW16r.out)
             obtain ⟨s3, s4, s5⟩ := HS0.out _ HW16.out
             go_wp2
             go_roundg k2
             case measure => have := HI.out; omega
             case rel => exact ⟨i + 1, (la ++ [z]), lb, Na, Ab, ma, cb, by go_num, by simp, rfl, ⟨by have := HI.out; omega⟩, ⟨by rw [HZF.out, if_pos HEZ.out], by rw [HYF.out, if_neg HEY.out]; simp⟩, ⟨by simpa using HOa16.out⟩, HOb16, ⟨by simpa using HXa.out⟩, HT16⟩
          ·have e1 : (kz == (j : Int)) = false := beq_eq_false_iff_ne.mpr hez
           have HEZ := Aside0.mk hez
           clear hez
           by_cases hey : ky = (j : Int)
           ·have e2 : (ky == (j : Int)) = true := beq_iff_eq.mpr hey
            have HEY := Aside0.mk hey
            clear hey
            go_wp2
            go_region_held3 (fun w' => w'.cell? ⟨bd, 3, none⟩ = some (.pointer (some ⟨D.b3, 0, none⟩)) ∧ w'.cell? (ad.add i) = some (.int .i32 z) ∧ w'.cell? (ad'.add i) = some (.int .i32 y)) (first | exact HS0.out _ (up_drew HV12.out) | exact HS0.out _ HW13.out) (first | (go_at_call 27; (with_reducible refine (HCZ.out _ (up_drew HV12.out)).mono ?_); rintro e' w13 ⟨rfl, hup⟩; have HW13 := Aside0.mk (up_trans (up_drew HV12.out) hup); have HW13r := Aside0.mk (up_trans (up_drew (up_refl wr)) hup); clear hup))
            have HOa13 := Aside0.mk (own_up HOa.out HW13r.out)
            have HOb13 := Aside0.mk (own_up HOb.out HW13r.out)
            have HT13 := Aside0.mk (up_trans HV.out HW13r.out)
            obtain ⟨s3, s4, s5⟩ := HS0.out _ HW13.out
            go_wp2
            go_region_held3 (fun w' => w'.cell? ⟨bd, 3, none⟩ = some (.pointer (some ⟨D.b3, 0, none⟩)) ∧ w'.cell? (ad.add i) = some (.int .i32 z) ∧ w'.cell? (ad'.add i) = some (.int .i32 y)) (first | exact HS0.out _ (up_drew HW13.out) | exact HS0.out _ HW16.out) (first | (go_at_call 27; (with_reducible refine (HCY.out _ (up_drew HW13.out)).mono ?_); rintro e' w16 ⟨rfl, hup⟩; have HW16 := Aside0.mk (up_trans (up_drew HW13.out) hup); have HW16r := Aside0.mk (up_trans (up_drew (up_refl w13)) hup); clear hup))
            have HT16 := Aside0.mk (up_trans HT13.out HW16r.out)
            have HOa16 := Aside0.mk (own_up HOa13.out HW16r.out)
            have HOb16 := Aside0.mk (own_up HOb13.out HW16r.out)
            obtain ⟨s3, s4, s5⟩ := HS0.out _ HW16.out
            go_wp2_with (first | (at_builtin; refine (wpList_append_row _ rfl _ _ 23 rfl wo.heap.size 21 ie ze 1 4 Tryz.underlying23 hie hze hsi hby hzc (by decide) (.slice Ab lb.length cb) lb.length (lb.map (Value.int .i32)) rfl (HOb16.out.alloc _) (some ⟨w16.heap.size, 0, none⟩) 1 1 (([y] : List Int).map (Value.int .i32)) rfl rfl (ints_new w16 [y]) (ints_one _ _) ?hba ?hbb ?hbc ?_); (case hba => exact MB.out.1); (case hbb => exact MB.out.2); (case hbc => exact (up_alloc HT16.out _).size); intro v' w17 hown hgrow hat; have HNb : Aside0 (w17.ownsRow wo.heap.size 21 1 v' (lb.length + 1) ((lb ++ [y]).map (Value.int .i32))) := ⟨(congrArg (fun t => w17.ownsRow wo.heap.size 21 1 v' (lb.length + 1) t) (List.map_append (f := Value.int .i32) (l₁ := lb) (l₂ := [y]))).mpr hown⟩; have HXb := Aside0.mk (ApartV.grown (ApartV.symm HAP.out) (HOa16.out.alloc (.cells #[.int .i32 y] 21)) hat); have HYb := Aside0.mk (own_grown (HOa16.out.alloc (.cells #[.int .i32 y] 21)) hgrow (fun k hk => ApartV.symm ((ApartV.symm HAP.out)) k hk)); have HZb := Aside0.mk ((up_alloc HT16.out (.cells #[.int .i32 y] 21)).grown hgrow (up_alloc HT16.out (.cells #[.int .i32 y] 21)).size (fun k hk => (HOb16.out.lt k hk).1)); obtain ⟨Nb, mb, hv⟩ := own_any HNb.out; subst hv; clear hown hgrow hat))
            go_roundg k2
            case measure => have := HI.out; omega
            case rel => exact ⟨i + 1, la, (lb ++ [y]), Aa, Nb, ca, mb, by go_num, rfl, by simp, ⟨by have := HI.out; omega⟩, ⟨by rw [HZF.out, if_neg HEZ.out]; simp, by rw [HYF.out, if_pos HEY.out]⟩, HYb, ⟨by simpa using HNb.out⟩, ⟨by simpa using ApartV.symm HXb.out⟩, HZb⟩
           ·have e2 : (ky == (j : Int)) = false := beq_eq_false_iff_ne.mpr hey
            have HEY := Aside0.mk hey
            clear hey
            go_wp2
            go_region_held3 (fun w' => w'.cell? ⟨bd, 3, none⟩ = some (.pointer (some ⟨D.b3, 0, none⟩)) ∧ w'.cell? (ad.add i) = some (.int .i32 z) ∧ w'.cell? (ad'.add i) = some (.int .i32 y)) (first | exact HS0.out _ (up_drew HV12.out) | exact HS0.out _ HW13.out) (first | (go_at_call 27; (with_reducible refine (HCZ.out _ (up_drew HV12.out)).mono ?_); rintro e' w13 ⟨rfl, hup⟩; have HW13 := Aside0.mk (up_trans (up_drew HV12.out) hup); have HW13r := Aside0.mk (up_trans (up_drew (up_refl wr)) hup); clear hup))
            have HOa13 := Aside0.mk (own_up HOa.out HW13r.out)
            have HOb13 := Aside0.mk (own_up HOb.out HW13r.out)
            have HT13 := Aside0.mk (up_trans HV.out HW13r.out)
            obtain ⟨s3, s4, s5⟩ := HS0.out _ HW13.out
            go_wp2
            go_region_held3 (fun w' => w'.cell? ⟨bd, 3, none⟩ = some (.pointer (some ⟨D.b3, 0, none⟩)) ∧ w'.cell? (ad.add i) = some (.int .i32 z) ∧ w'.cell? (ad'.add i) = some (.int .i32 y)) (first | exact HS0.out _ (up_drew HW13.out) | exact HS0.out _ HW16.out) (first | (go_at_call 27; (with_reducible refine (HCY.out _ (up_drew HW13.out)).mono ?_); rintro e' w16 ⟨rfl, hup⟩; have HW16 := Aside0.mk (up_trans (up_drew HW13.out) hup); have HW16r := Aside0.mk (up_trans (up_drew (up_refl w13)) hup); clear hup))
            have HT16 := Aside0.mk (up_trans HT13.out HW16r.out)
            have HOa16 := Aside0.mk (own_up HOa13.out HW16r.out)
            have HOb16 := Aside0.mk (own_up HOb13.out HW16r.out)
            obtain ⟨s3, s4, s5⟩ := HS0.out _ HW16.out
            go_wp2
            go_roundg k2
            case measure => have := HI.out; omega
            case rel => exact ⟨i + 1, la, lb, Aa, Ab, ca, cb, by go_num, rfl, rfl, ⟨by have := HI.out; omega⟩, ⟨by rw [HZF.out, if_neg HEZ.out]; simp, by rw [HYF.out, if_neg HEY.out]; simp⟩, HOa16, HOb16, HAP, HT16⟩
end Go.Proofs.YtnohcnneflogjaaGreat.M.St
