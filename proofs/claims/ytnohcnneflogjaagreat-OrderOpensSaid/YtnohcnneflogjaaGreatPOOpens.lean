/- OrderOpens, walked. (printed by mkoopens.py) -/
import Derived.Test.YtnohcnneflogjaaGreatK45
set_option linter.unusedVariables false
set_option linter.unusedSimpArgs false
namespace Go.Proofs.YtnohcnneflogjaaGreat.M.St
open Go.Shelf Go.RowKit Go.Lib Go.Sort
set_option maxHeartbeats 16000000
set_option maxRecDepth 1000000
theorem own_other {w : World} {base : Nat} {A : Option Addr} {n c : Nat} {xs : List Value} (h : w.ownsRow base 21 1 (.slice A n c) n xs) {g : Nat} (hg : ∀ ad, A = some ad → ad.block ≠ g) (i : Nat) (v : Value) : (w.setCell ⟨g, i, none⟩ v).ownsRow base 21 1 (.slice A n c) n xs :=
 own_chg (M := fun b => b = g) h (Chg.of_set w ⟨g, i, none⟩ v rfl) (fun k hk => by
  cases A with
  | none => cases hk
  | some ad =>
    rcases h.2 with ⟨hv, _⟩ | ⟨g', cap, cur, hv, _⟩
    ·cases hv
    ·cases hv
     have : g' = k := by simpa [Value.ownBlock] using hk
     subst this
     exact hg _ rfl)
theorem OrderOpens_no (A : Option Addr) (c : Nat) (T : List Rec) (A1 : Option Addr) (n1 c1 : Nat) (w : World) (hT : Table w A T) (hW : ∀ x ∈ T, x.Wf) (hc : T.length ≤ c) (he : (checkE (T.take 150)).2 ≠ 0) :
 Calls Tryz.prog 5 #[.slice A T.length c, .slice A1 n1 c1] w fun e w' => e = .returned (.bool true) ∧ Up w w' := by
 have HM := Aside0.mk (Made_no A c T w hT hW hc he)
 clear hT hW hc he
 go_enter Tryz.func5, Tryz.ntmps5
 go_wp2_with (first | (go_at_call 21; (with_reducible refine HM.out.mono ?_); rintro e w1 ⟨rfl, hup1⟩) | (go_at_call 22; (with_reducible refine (told12_calls _).mono ?_); rintro e w2 ⟨rfl, hup2⟩))
 go_ret
 exact ⟨rfl, up_trans hup1 hup2⟩
theorem OrderOpens_yes (A : Option Addr) (c : Nat) (T P : List Rec) (X1 : Option Addr) (x1 : List Int) (k1 : Nat) (w : World) (hP : T.take 150 = P) (hT : Table w A T) (hW : ∀ x ∈ T, x.Wf) (hc : T.length ≤ c) (he : (checkE P).2 = 0)
 (hI1 : Ints .i32 w X1 x1) (hx1 : x1.length < 4611686018427387904) (hc1 : x1.length ≤ k1) (hwf1 : ∀ z ∈ x1, (Lit.int .i32 z).wf = true) :
 Calls Tryz.prog 5 #[.slice A T.length c, .slice X1 x1.length k1] w fun e w' => e = .returned (.bool true) ∧ Up w w' := by
 have HM := Aside0.mk (Made_yes A c T P w hP hT hW hc he)
 have HF : Aside0 (Fine P) := ⟨fine_of (fun x hx => hW x (by rw [← hP] at hx; exact List.mem_of_mem_take hx)) he⟩
 have HJ1 := Aside0.mk hI1
 have HX1 := Aside0.mk hx1
 have HXC1 := Aside0.mk hc1
 have HWF1 := Aside0.mk hwf1
 clear hT hW hc he hP hI1 hx1 hc1 hwf1
 obtain ⟨s, hs⟩ : ∃ s, x1.take 200 = s := ⟨_, rfl⟩
 have HSE := Aside0.mk hs
 have HSX : Aside0 (s.length ≤ x1.length) := ⟨by rw [← hs, List.length_take]; omega⟩
 have HSL : Aside0 (s.length ≤ 200) := ⟨by rw [← hs, List.length_take]; omega⟩
 have HSL2 : Aside0 (s.length ≤ 65536) := ⟨by have := HSL.out; omega⟩
 have HSL3 : Aside0 (s.length ≤ 100000) := ⟨by have := HSL.out; omega⟩
 have HSL4 : Aside0 (s.length ≤ 100000000) := ⟨by have := HSL.out; omega⟩
 have HSR : Aside0 (InI32 s) := ⟨fun z hz => wf_i32 (HWF1.out z (by rw [← hs] at hz; exact List.mem_of_mem_take hz))⟩
 have HXS : Aside0 (Ints .i32 w X1 s) := ⟨by rw [← hs]; exact ints_take12 HJ1.out 200⟩
 obtain ⟨p, hp⟩ : ∃ p, openX P s = p := ⟨_, rfl⟩
 obtain ⟨q, hq⟩ : ∃ q, sortF P s = q := ⟨_, rfl⟩
 obtain ⟨r, hr⟩ : ∃ r, sortF P (openX P s) = r := ⟨_, rfl⟩
 obtain ⟨b, hb⟩ : ∃ b, sortedG (numF P 2 (·.n)) 0 s = b := ⟨_, rfl⟩
 have HP := Aside0.mk hp
 have HQ := Aside0.mk hq
 have HR := Aside0.mk hr
 have HB := Aside0.mk hb
 have HPL : Aside0 (p.length ≤ 1000000) := ⟨by rw [← hp]; have := openX_len HF.out s; have := HSL.out; omega⟩
 have HQL : Aside0 (q.length ≤ 1000000) := ⟨by rw [← hq, sortF_length]; have := HSL.out; omega⟩
 have HRL : Aside0 (r.length ≤ 1000000) := ⟨by rw [← hr, sortF_length, hp]; exact HPL.out⟩
 have HPB : Aside0 (p.length ≤ 35184372087808) := ⟨by have := HPL.out; omega⟩
 have HQB : Aside0 (q.length ≤ 35184372087808) := ⟨by have := HQL.out; omega⟩
 have HRB : Aside0 (r.length ≤ 35184372087808) := ⟨by have := HRL.out; omega⟩
 have HPP : Aside0 ((p == p) = true) := ⟨by simp⟩
 have HQQ : Aside0 ((q == q) = true) := ⟨by simp⟩
 have HRR : Aside0 ((r == r) = true) := ⟨by simp⟩
 have hbb : (b != b) = false := by cases b <;> rfl
 have u1 : 0 ≤ (s.length : Int) := by omega
 have u2 : (s.length : Int) ≤ (k1 : Int) := by have := HSX.out; have := HXC1.out; omega
 clear hs hp hq hr hb
 go_enter Tryz.func5, Tryz.ntmps5
 go_wp2_with (first | (go_at_call 36; (with_reducible refine (RSorted12_calls (HTA.out.up (up_trans HS2.out (up_trans HS3.out (up_trans HS4.out (up_trans HS5.out (up_trans HS6.out (up_trans HS7.out (up_trans HS8.out (up_trans HS9.out (up_trans HS10.out (up_trans HS11.out HS12.out))))))))))) c1 X1 k1 s (HXS.out.up (up_trans HS1.out (up_trans HS2.out (up_trans HS3.out (up_trans HS4.out (up_trans HS5.out (up_trans HS6.out (up_trans HS7.out (up_trans HS8.out (up_trans HS9.out (up_trans HS10.out (up_trans HS11.out HS12.out)))))))))))) HSR.out HSL4.out b HB.out).mono ?_); rintro e w13 ⟨rfl, hup⟩; have HS13 := Aside0.mk hup; clear hup) |
  (go_at_call 35; (with_reducible refine (Sorted_i (HD.out.up (up_trans HS2.out (up_trans HS3.out (up_trans HS4.out (up_trans HS5.out (up_trans HS6.out (up_trans HS7.out (up_trans HS8.out (up_trans HS9.out (up_trans HS10.out HS11.out)))))))))) HF.out.toGood _ c2 s s.length rfl ((two_left HI2.out).up (up_trans HS3.out (up_trans HS4.out (up_trans HS5.out (up_trans HS6.out (up_trans HS7.out (up_trans HS8.out (up_trans HS9.out (up_trans HS10.out HS11.out))))))))) HSR.out HSL4.out b HB.out).mono ?_); rintro e w12 ⟨rfl, hup⟩; have HS12 := Aside0.mk hup; clear hup) |
  (go_at_call 26; (with_reducible refine (SameB_calls Ac A10 cc c10 r r _ (HIc.out.up (up_trans HS6.out (up_trans HS7.out (up_trans HS8.out (up_trans HS9.out HS10.out))))) HI10.out HRB.out HRB.out true HRR.out).mono ?_); rintro e w11 ⟨rfl, hup⟩; have HS11 := Aside0.mk hup; clear hup) |
  (go_at_call 34; (with_reducible refine (RNFD12_calls (HTA.out.up (up_trans HS2.out (up_trans HS3.out (up_trans HS4.out (up_trans HS5.out (up_trans HS6.out (up_trans HS7.out (up_trans HS8.out HS9.out)))))))) c1 X1 k1 s (HXS.out.up (up_trans HS1.out (up_trans HS2.out (up_trans HS3.out (up_trans HS4.out (up_trans HS5.out (up_trans HS6.out (up_trans HS7.out (up_trans HS8.out HS9.out))))))))) HSR.out HSL3.out r HR.out).mono ?_); rintro e w10 ⟨v10, rfl, hown, hup⟩; have HS10 := Aside0.mk hup; obtain ⟨A10, c10, hv, hi, _⟩ := own_ints hown; subst hv; have HI10 := Aside0.mk hi; clear hup hown hi) |
  (go_at_call 26; (with_reducible refine (SameB_calls Ab A8 cb c8 q q _ (HIb.out.up (up_trans HS5.out (up_trans HS6.out (up_trans HS7.out HS8.out)))) HI8.out HQB.out HQB.out true HQQ.out).mono ?_); rintro e w9 ⟨rfl, hup⟩; have HS9 := Aside0.mk hup; clear hup) |
  (go_at_call 33; (with_reducible refine (RSort12_calls (HTA.out.up (up_trans HS2.out (up_trans HS3.out (up_trans HS4.out (up_trans HS5.out (up_trans HS6.out HS7.out)))))) c1 X1 k1 s (HXS.out.up (up_trans HS1.out (up_trans HS2.out (up_trans HS3.out (up_trans HS4.out (up_trans HS5.out (up_trans HS6.out HS7.out))))))) HSR.out HSL4.out q HQ.out).mono ?_); rintro e w8 ⟨v8, rfl, hown, hup⟩; have HS8 := Aside0.mk hup; obtain ⟨A8, c8, hv, hi, _⟩ := own_ints hown; subst hv; have HI8 := Aside0.mk hi; clear hup hown hi) |
  (go_at_call 26; (with_reducible refine (SameB_calls Aa A6 ca c6 p p _ (HIa.out.up (up_trans HS4.out (up_trans HS5.out HS6.out))) HI6.out HPB.out HPB.out true HPP.out).mono ?_); rintro e w7 ⟨rfl, hup⟩; have HS7 := Aside0.mk hup; clear hup) |
  (go_at_call 32; (with_reducible refine (ROpen12_calls (HTA.out.up (up_trans HS2.out (up_trans HS3.out (up_trans HS4.out HS5.out)))) c1 X1 k1 s (HXS.out.up (up_trans HS1.out (up_trans HS2.out (up_trans HS3.out (up_trans HS4.out HS5.out))))) HSR.out HSL3.out p HP.out).mono ?_); rintro e w6 ⟨v6, rfl, hown, hup⟩; have HS6 := Aside0.mk hup; obtain ⟨A6, c6, hv, hi, _⟩ := own_ints hown; subst hv; have HI6 := Aside0.mk hi; clear hup hown hi) |
  (go_at_call 24; (with_reducible refine (NFD_i (HD.out.up (up_trans HS2.out (up_trans HS3.out HS4.out))) HF.out HF.out.wf _ c2 s s.length rfl ((two_left HI2.out).up (up_trans HS3.out HS4.out)) HSR.out HSL2.out r HR.out).mono ?_); rintro e w5 ⟨Ac, cc, rfl, hown, hi, hup⟩; have HS5 := Aside0.mk hup; have HOc := Aside0.mk hown; have HIc := Aside0.mk hi; clear hup hown hi) |
  (go_at_call 25; (with_reducible refine (Sort_i (HD.out.up (up_trans HS2.out HS3.out)) HF.out.toGood _ c2 s s.length rfl ((two_left HI2.out).up HS3.out) HSR.out HSL2.out q HQ.out).mono ?_); rintro e w4 ⟨Ab, cb, rfl, hown, hi, hup⟩; have HS4 := Aside0.mk hup; have HOb := Aside0.mk hown; have HIb := Aside0.mk hi; clear hup hown hi) |
  (go_at_call 31; (with_reducible refine (Open_i (HD.out.up HS2.out) HF.out _ c2 s s.length rfl (two_left HI2.out) HSR.out HSL2.out p HP.out).mono ?_); rintro e w3 ⟨Aa, ca, rfl, hown, hi, hup⟩; have HS3 := Aside0.mk hup; have HOa := Aside0.mk hown; have HIa := Aside0.mk hi; clear hup hown hi) |
  (go_at_call 23; (with_reducible refine (few12_own X1 k1 x1 s 200 200 rfl _ (HJ1.out.up HS1.out) HX1.out HXC1.out (by decide) HSE.out).mono ?_); rintro e w2 ⟨gi, c2, rfl, hcap, hown, hup⟩; have HS2 := Aside0.mk hup; have HO2 := Aside0.mk hown; have HCAP := Aside0.mk hcap; have HI2 := Aside0.mk (own_two_ints hown); clear hup hcap hown) |
  (go_at_call 21; (with_reducible refine (HM.out).mono ?_); rintro e w1 ⟨bd, D, A1, c1, rfl, hD, hTab, hup⟩; have HS1 := Aside0.mk hup; have HD := Aside0.mk hD; have HTA : Aside0 (TabAt w1 A1 P) := ⟨hTab.table, HF.out⟩; have HTF := Aside0.mk hTab; clear hup hD hTab))
 have HLa : Aside0 (∀ ad, Aa = some ad → ad.block < w3.heap.size) := ⟨fun ad ha => (own_lt_some HOa.out ha).2⟩
 have HLb : Aside0 (∀ ad, Ab = some ad → w3.heap.size ≤ ad.block ∧ ad.block < w4.heap.size) := ⟨fun ad ha => own_lt_some HOb.out ha⟩
 have HLc : Aside0 (∀ ad, Ac = some ad → w4.heap.size ≤ ad.block) := ⟨fun ad ha => (own_lt_some HOc.out ha).1⟩
 have HW0 : Aside0 (Up w2 w13) := ⟨(up_trans HS3.out (up_trans HS4.out (up_trans HS5.out (up_trans HS6.out (up_trans HS7.out (up_trans HS8.out (up_trans HS9.out (up_trans HS10.out (up_trans HS11.out (up_trans HS12.out HS13.out))))))))))⟩
 have HWa := Aside0.mk (own_up HOa.out (up_trans HS4.out (up_trans HS5.out (up_trans HS6.out (up_trans HS7.out (up_trans HS8.out (up_trans HS9.out (up_trans HS10.out (up_trans HS11.out (up_trans HS12.out HS13.out))))))))))
 have HWb := Aside0.mk (own_up HOb.out (up_trans HS5.out (up_trans HS6.out (up_trans HS7.out (up_trans HS8.out (up_trans HS9.out (up_trans HS10.out (up_trans HS11.out (up_trans HS12.out HS13.out)))))))))
 have HWc := Aside0.mk (own_up HOc.out (up_trans HS6.out (up_trans HS7.out (up_trans HS8.out (up_trans HS9.out (up_trans HS10.out (up_trans HS11.out (up_trans HS12.out HS13.out))))))))
 go_loopg [15] p.length (fun k v15 w' => ∃ (j : Nat) (l' : List Int), v15 = .int .i64 j ∧ Aside0 (j + k = p.length ∧ l'.length = p.length) ∧ Aside0 (w'.ownsRow w2.heap.size 21 1 (.slice Aa p.length ca) p.length (l'.map (Value.int .i32))) ∧ Aside0 (Up w2 w') ∧ Aside0 (w'.ownsRow w3.heap.size 21 1 (.slice Ab q.length cb) q.length (q.map (Value.int .i32))) ∧ Aside0 (w'.ownsRow w4.heap.size 21 1 (.slice Ac r.length cc) r.length (r.map (Value.int .i32))))
 case atStart => exact ⟨0, p, rfl, ⟨Nat.zero_add _, rfl⟩, HWa, HW0, HWb, HWc⟩
 case round =>
  obtain ⟨j, l', rfl, HJ, HO, HU, HKb, HKc⟩ := hrel
  clear HW0 HWa HWb HWc
  cases gk with
  | zero =>
    have hlt : decide ((j : Int) < (p.length : Int)) = false := decide_eq_false (by have := HJ.out; omega)
    have hlt1 : ¬ (j < p.length) := by have := HJ.out; omega
    go_wp2
    have HW0 := HU
    have HWb := HKb
    have HWc := HKc
    clear hlt hlt1 HU HO HJ HKb HKc
    go_loopg [16] q.length (fun k v16 w' => ∃ (j : Nat) (l' : List Int), v16 = .int .i64 j ∧ Aside0 (j + k = q.length ∧ l'.length = q.length) ∧ Aside0 (w'.ownsRow w3.heap.size 21 1 (.slice Ab q.length cb) q.length (l'.map (Value.int .i32))) ∧ Aside0 (Up w2 w') ∧ Aside0 (w'.ownsRow w4.heap.size 21 1 (.slice Ac r.length cc) r.length (r.map (Value.int .i32))))
    case atStart => exact ⟨0, q, rfl, ⟨Nat.zero_add _, rfl⟩, HWb, HW0, HWc⟩
    case round =>
     obtain ⟨j, l', rfl, HJ, HO, HU, HKc⟩ := hrel
     clear HW0 HWb HWc
     cases gk with
     | zero =>
       have hlt : decide ((j : Int) < (q.length : Int)) = false := decide_eq_false (by have := HJ.out; omega)
       have hlt1 : ¬ (j < q.length) := by have := HJ.out; omega
       go_wp2
       have HW0 := HU
       have HWc := HKc
       clear hlt hlt1 HU HO HJ HKc
       go_loopg [17] r.length (fun k v17 w' => ∃ (j : Nat) (l' : List Int), v17 = .int .i64 j ∧ Aside0 (j + k = r.length ∧ l'.length = r.length) ∧ Aside0 (w'.ownsRow w4.heap.size 21 1 (.slice Ac r.length cc) r.length (l'.map (Value.int .i32))) ∧ Aside0 (Up w2 w'))
       case atStart => exact ⟨0, r, rfl, ⟨Nat.zero_add _, rfl⟩, HWc, HW0⟩
       case round =>
        obtain ⟨j, l', rfl, HJ, HO, HU⟩ := hrel
        clear HW0 HWc
        cases gk with
        | zero =>
          have hlt : decide ((j : Int) < (r.length : Int)) = false := decide_eq_false (by have := HJ.out; omega)
          have hlt1 : ¬ (j < r.length) := by have := HJ.out; omega
          go_wp2_with (first | (go_at_call 26; (with_reducible refine (SameB_calls A14 A16 c14 c16 r r _ (HI14.out.up (up_trans HS15.out HS16.out)) HI16.out HRB.out HRB.out true HRR.out).mono ?_); rintro e w17 ⟨rfl, hup⟩; have HS17 := Aside0.mk hup; clear hup) |
           (go_at_call 34; (with_reducible refine (RNFD12_calls (HTA.out.up (up_trans HS2.out HV15.out)) c1 X1 k1 s (HXS.out.up (up_trans (up_trans HS1.out HS2.out) HV15.out)) HSR.out HSL3.out r HR.out).mono ?_); rintro e w16 ⟨v16, rfl, hown, hup⟩; have HS16 := Aside0.mk hup; obtain ⟨A16, c16, hv, hi, _⟩ := own_ints hown; subst hv; have HI16 := Aside0.mk hi; clear hup hown hi) |
           (go_at_call 37; (with_reducible refine (whole12_calls _ X1 c2 k1 s s.length rfl _ (HI2.out.up HV14.out) HCAP.out (HXS.out.up (up_trans (up_trans HS1.out HS2.out) HV14.out)) (Nat.le_trans HSX.out HXC1.out) HSL3.out).mono ?_); rintro e w15 ⟨rfl, hup⟩; have HS15 := Aside0.mk hup; have HV15 := Aside0.mk (up_trans HV14.out hup); clear hup) |
           (go_at_call 24; (with_reducible refine (NFD_i (HD.out.up (up_trans HS2.out HU.out)) HF.out HF.out.wf _ c2 s s.length rfl ((two_left HI2.out).up HU.out) HSR.out HSL2.out r HR.out).mono ?_); rintro e w14 ⟨A14, c14, rfl, hown, hi, hup⟩; have HS14 := Aside0.mk hup; have HI14 := Aside0.mk hi; have HV14 := Aside0.mk (up_trans HU.out hup); clear hup hown hi))
          go_ret
          exact ⟨rfl, up_trans (up_trans HS1.out HS2.out) (up_trans HU.out (up_trans HS14.out (up_trans HS15.out (up_trans HS16.out HS17.out))))⟩
        | succ k2 =>
          have hlt : decide ((j : Int) < (r.length : Int)) = true := decide_eq_true (by have := HJ.out; omega)
          have hlt1 : j < r.length := by have := HJ.out; omega
          have q7 : 0 ≤ (j : Int) := by omega
          have q9 : (j : Int) < (r.length : Int) := by omega
          have hll : (j : Int) < 1000000 := by have := HRL.out; omega
          obtain ⟨g, hg, hge⟩ := own_some HO.out (by omega)
          have HGE : Aside0 (w2.heap.size ≤ g) := ⟨by have := HS3.out.size; have := HS4.out.size; omega⟩
          have HNE : Aside0 (∀ ad, Ac = some ad → ad.block = g) := ⟨fun ad ha => by rw [hg] at ha; cases ha; rfl⟩
          have HLG := Aside0.mk hg
          subst hg
          obtain ⟨y1, y2⟩ := own_at HO.out hlt1
          clear hge
          go_wp2
          go_roundg k2
          case measure => have := HJ.out; omega
          case rel => exact ⟨j + 1, l'.set j (-9), by go_num, ⟨by have := HJ.out; omega, by have := HJ.out; simp; omega⟩, ⟨own_put HO.out j (-9)⟩, ⟨HU.out.setCell HGE.out _⟩⟩
     | succ k2 =>
       have hlt : decide ((j : Int) < (q.length : Int)) = true := decide_eq_true (by have := HJ.out; omega)
       have hlt1 : j < q.length := by have := HJ.out; omega
       have q7 : 0 ≤ (j : Int) := by omega
       have q9 : (j : Int) < (q.length : Int) := by omega
       have hll : (j : Int) < 1000000 := by have := HQL.out; omega
       obtain ⟨g, hg, hge⟩ := own_some HO.out (by omega)
       have HGE : Aside0 (w2.heap.size ≤ g) := ⟨by have := HS3.out.size; have := HS4.out.size; omega⟩
       have HNE : Aside0 (∀ ad, Ab = some ad → ad.block = g) := ⟨fun ad ha => by rw [hg] at ha; cases ha; rfl⟩
       have HLG := Aside0.mk hg
       have HNc : Aside0 (∀ ad, Ac = some ad → ad.block ≠ g) := ⟨fun ad ha => by have h1 : g < w4.heap.size := (HLb.out _ hg).2; have h2 := HLc.out ad ha; omega⟩
       subst hg
       obtain ⟨y1, y2⟩ := own_at HO.out hlt1
       clear hge
       go_wp2
       go_roundg k2
       case measure => have := HJ.out; omega
       case rel => exact ⟨j + 1, l'.set j (-9), by go_num, ⟨by have := HJ.out; omega, by have := HJ.out; simp; omega⟩, ⟨own_put HO.out j (-9)⟩, ⟨HU.out.setCell HGE.out _⟩, ⟨own_other HKc.out HNc.out j _⟩⟩
  | succ k2 =>
    have hlt : decide ((j : Int) < (p.length : Int)) = true := decide_eq_true (by have := HJ.out; omega)
    have hlt1 : j < p.length := by have := HJ.out; omega
    have q7 : 0 ≤ (j : Int) := by omega
    have q9 : (j : Int) < (p.length : Int) := by omega
    have hll : (j : Int) < 1000000 := by have := HPL.out; omega
    obtain ⟨g, hg, hge⟩ := own_some HO.out (by omega)
    have HGE : Aside0 (w2.heap.size ≤ g) := ⟨by have := HS3.out.size; have := HS4.out.size; omega⟩
    have HNE : Aside0 (∀ ad, Aa = some ad → ad.block = g) := ⟨fun ad ha => by rw [hg] at ha; cases ha; rfl⟩
    have HLG := Aside0.mk hg
    have HNb : Aside0 (∀ ad, Ab = some ad → ad.block ≠ g) := ⟨fun ad ha => by have h1 : g < w3.heap.size := HLa.out _ hg; have h2 := (HLb.out ad ha).1; omega⟩
    have HNc : Aside0 (∀ ad, Ac = some ad → ad.block ≠ g) := ⟨fun ad ha => by have h1 : g < w3.heap.size := HLa.out _ hg; have h2 := HLc.out ad ha; have h3 := HS4.out.size; omega⟩
    subst hg
    obtain ⟨y1, y2⟩ := own_at HO.out hlt1
    clear hge
    go_wp2
    go_roundg k2
    case measure => have := HJ.out; omega
    case rel => exact ⟨j + 1, l'.set j (-9), by go_num, ⟨by have := HJ.out; omega, by have := HJ.out; simp; omega⟩, ⟨own_put HO.out j (-9)⟩, ⟨HU.out.setCell HGE.out _⟩, ⟨own_other HKb.out HNb.out j _⟩, ⟨own_other HKc.out HNc.out j _⟩⟩
end Go.Proofs.YtnohcnneflogjaaGreat.M.St
