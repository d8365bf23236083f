/- The walk of sort.symMerge_func: the middle lies in the right part. -/
import Derived.Test.YticocjpfhllelaaESort3
import Derived.Sort.AtCall
set_option linter.unusedVariables false
set_option linter.unusedSimpArgs false
namespace Go.Proofs.Yticocjpfhllelaa.XP
open Go.Shelf Go.RowKit Go.Lib Go.Sort Go.Proofs.StableSort Go.Proofs.YticocjpfhllelaaW.PrintWords Go.Proofs.YticocjpfhllelaaW.PrintLast
variable {α : Type} [Inhabited α]

set_option maxHeartbeats 8000000 in
set_option maxRecDepth 100000 in
theorem sym_B (enc : α → Value) (lt tot : α → α → Bool) (hO : SWO tot) (g : Nat) (lb : Array Value) (sf : Nat) (sb : Array Value) (blk off : Nat) (d : Array α)
    (eg : ∀ args w, (callFunc g args).run Try.prog w = .ok (.enter g args) w) (hswap : SwapSwaps Try.prog sf sb enc blk off d.size) (hsz : d.size < 4611686018427387904) (f : Nat)
    (hIH : ∀ (a m b : Nat) (d' : Array α) (w : World), b - a ≤ f → LessReads Try.prog g lb enc lt blk off d.size w → Holds enc w blk off d' → blk < w.heap.size → a < m → m < b → b ≤ d'.size → d'.size = d.size →
      SortedIn tot a m d' → SortedIn tot m b d' → Pre lt tot a m b d' →
      Calls Try.prog 58 #[.agg #[.func (.func g) #[] lb, .func (.func sf) #[] sb], .int .i64 a, .int .i64 m, .int .i64 b] w fun e w' =>
        e = .returned (.tuple #[]) ∧ ∃ d2, PermIn a b d' d2 ∧ SortedIn tot a b d2 ∧ SW enc w blk off d2 w')
    (a m b : Nat) (w : World) (hf : b - a ≤ f + 1) (hless : LessReads Try.prog g lb enc lt blk off d.size w) (hH : Holds enc w blk off d) (hblk : blk < w.heap.size) (ham : a < m) (hmb : m < b) (hb : b ≤ d.size)
    (sL : SortedIn tot a m d) (sR : SortedIn tot m b d) (hP : Pre lt tot a m b d) (hm1 : ¬ m = a + 1) (hb1 : ¬ b = m + 1) (hcase : ¬ (a + b) / 2 < m) :
    Calls Try.prog 58 #[.agg #[.func (.func g) #[] lb, .func (.func sf) #[] sb], .int .i64 a, .int .i64 m, .int .i64 b] w fun e w' =>
      e = .returned (.tuple #[]) ∧ ∃ d', PermIn a b d d' ∧ SortedIn tot a b d' ∧ SW enc w blk off d' w' := by
  skip
  · have IH := Aside0.mk hIH
    clear hIH
    have hH1 : Holds enc (w.alloc (.cells #[.func (.func g) #[] lb, .func (.func sf) #[] sb] 75)) blk off d := by rw [alloc_eq_grow]; exact holds_grow enc w _ blk off d hblk hH
    have hW0 := (SW.start hH).alloc (.cells #[.func (.func g) #[] lb, .func (.func sf) #[] sb] 75)
    have hless1 := Aside0.mk (hW0.lessReads hless hblk rfl)
    have hbw1 : blk < (w.alloc (.cells #[.func (.func g) #[] lb, .func (.func sf) #[] sb] 75)).heap.size := by simp; omega
    clear hless hW0
    have hma : ((m : Int) - a == 1) = false := by rw [beq_eq_false_iff_ne]; omega
    have hmc : ((b : Int) - m == 1) = false := by rw [beq_eq_false_iff_ne]; omega
    obtain ⟨c, hc⟩ : ∃ c : Nat, (a + b) / 2 = c := ⟨_, rfl⟩
    have hcI : ((a : Int) + b) / 2 = (c : Int) := by omega
    have hc1 : a < c := by omega
    have hc2 : c < b := by omega
    have hc3 : 2 * c ≤ a + b := by omega
    have hc4 : a + b ≤ 2 * c + 1 := by omega
    clear hc hm1 hb1
    have hf' : b - a ≤ f + 1 := hf
    clear hf
    have hcm : ¬ c < m := by omega
    clear hcase
    have hs0 : a ≤ a := Nat.le_refl _
    have hsr : a ≤ m := by omega
    have hcms : c + m ≤ a + b := by omega
    have HS0 : Aside0 (a = a ∨ c + m - a = b) := ⟨.inl rfl⟩
    have HR0 : Aside0 (m = m ∨ m = c) := ⟨.inl rfl⟩
    go_enter Try.func58, Try.ntmps58
    go_wp2
    go_loopw [18, 19, 21] (fun vs vr _ wr => ∃ (s r : Nat), vs = .int .i64 s ∧ vr = .int .i64 r ∧ a ≤ s ∧ s ≤ r ∧ r ≤ m ∧ (s = a ∨ lt d[c + m - s]! d[s - 1]! = false) ∧ (r = m ∨ lt d[c + m - 1 - r]! d[r]! = true) ∧ SW enc (w.alloc (.cells #[.func (.func g) #[] lb, .func (.func sf) #[] sb] 75)) blk off d wr)
      (fun vs vr _ _ => (intOf vr).toNat - (intOf vs).toNat)
    case atStart => exact ⟨a, m, rfl, rfl, Nat.le_refl _, hsr, Nat.le_refl _, .inl rfl, .inl rfl, SW.start hH1⟩
    case round =>
      obtain ⟨s, r, rfl, rfl, hs, hsr', hr, h1, h2, hW⟩ := hrel
      have HW := Aside0.mk hW
      have H1 := Aside0.mk h1
      have H2 := Aside0.mk h2
      have c0 := SW.cell hW w.heap.size 0 (.func (.func g) #[] lb) (by simp) (by omega) (by simp)
      have c1 := SW.cell hW w.heap.size 1 (.func (.func sf) #[] sb) (by simp) (by omega) (by simp)
      clear hW h1 h2
      by_cases hlt : s < r
      · obtain ⟨h, hh⟩ : ∃ h : Nat, (s + r) / 2 = h := ⟨_, rfl⟩
        have hhI : ((s : Int) + r) / 2 = (h : Int) := by omega
        have hh1 : s ≤ h := by omega
        have hh2 : h < r := by omega
        clear hh
        have hl := HW.out.less hless1.out rfl (c + m - 1 - h) h (by omega) (by omega)
        rw [show ((c + m - 1 - h : Nat) : Int) = (c : Int) + m - 1 - h by omega] at hl
        cases hlv : lt d[c + m - 1 - h]! d[h]! with
        | true =>
          rw [hlv] at hl
          go_wp2_with (go_at_fn g; refine hl.mono ?_; rintro e w' ⟨rfl, q, rfl⟩)
          go_roundw
          case rel => exact ⟨s, h, rfl, rfl, hs, hh1, by omega, H1.out, .inr hlv, HW.out.drewN q⟩
          case measure => simp [intOf]; omega
        | false =>
          rw [hlv] at hl
          go_wp2_with (go_at_fn g; refine hl.mono ?_; rintro e w' ⟨rfl, q, rfl⟩)
          go_roundw
          case rel => exact ⟨h + 1, r, by go_num, rfl, by omega, by omega, hr, .inr (by rw [show c + m - (h + 1) = c + m - 1 - h by omega, show h + 1 - 1 = h by omega]; exact hlv), H2.out, HW.out.drewN q⟩
          case measure => simp [intOf]; omega
      · obtain rfl : s = r := by omega
        obtain ⟨e, he⟩ : ∃ e : Nat, c + m - s = e := ⟨_, rfl⟩
        have heI : (c : Int) + m - s = (e : Int) := by omega
        have he1 : m ≤ e := by omega
        have he2 : e ≤ b := by omega
        have hse : s + (e - m) = c := by omega
        have hec : c ≤ e := by omega
        have hsc : s ≤ c := by omega
        have hsm : s ≤ m := by omega
        have has : a ≤ s := by omega
        have hCut : Cut tot a s m e b d := by
          refine ⟨has, hsm, he1, he2, ?_, ?_⟩
          · rcases H1.out with h | h
            · rcases HS0.out with h' | h'
              · exact .inl (by omega)
              · refine .inr (.inl ?_); rw [← he, h]; exact h'
            · by_cases h3 : s = a
              · exact .inl h3
              · by_cases h4 : e = b
                · exact .inr (.inl h4)
                · refine .inr (.inr ?_)
                  rw [he] at h
                  rw [← hP (s - 1) e (by omega) (by omega) he1 (by omega)]; exact h
          · by_cases h3 : s = m
            · exact .inl h3
            · by_cases h4 : e = m
              · exact .inr (.inl h4)
              · rcases H2.out with h | h
                · exfalso
                  rcases HR0.out with h' | h' <;> omega
                · refine .inr (.inr ?_)
                  rw [show c + m - 1 - s = e - 1 by omega] at h
                  rw [← hP s (e - 1) (by omega) (by omega) (by omega) (by omega)]; exact h
        have HCUT := Aside0.mk hCut
        have HSE := Aside0.mk hse
        clear hCut he hse
        have HROT : Aside0 (∀ d1, Rot s m e d d1 → Cutted lt tot a s c e b d1) := ⟨fun d1 h => by have h5 := Cut.rot hO HCUT.out sL sR hP h; rw [HSE.out] at h5; exact h5⟩
        have HLEFT : Aside0 (a < s → s < c → ∀ (d1 : Array α) (w1 : World), SW enc (w.alloc (.cells #[.func (.func g) #[] lb, .func (.func sf) #[] sb] 75)) blk off d1 w1 → d1.size = d.size → Cutted lt tot a s c e b d1 → Calls Try.prog 58 #[.agg #[.func (.func g) #[] lb, .func (.func sf) #[] sb], .int .i64 a, .int .i64 s, .int .i64 c] w1 fun x w' => x = .returned (.tuple #[]) ∧ ∃ d', PermIn a c d1 d' ∧ SortedIn tot a c d' ∧ SW enc w1 blk off d' w') := ⟨fun g3 g4 d1 w1 hV hn hC => IH.out a s c d1 w1 (by omega) (hV.lessReads hless1.out hbw1 hn) (hV.holds hbw1 hH1 hn) (hV.lt hbw1) g3 g4 (by omega) hn hC.sL1 hC.sR1 hC.pL⟩
        have HRIGHT : Aside0 (c < e → e < b → ∀ (d1 d2 : Array α) (w2 : World), SW enc (w.alloc (.cells #[.func (.func g) #[] lb, .func (.func sf) #[] sb] 75)) blk off d2 w2 → d2.size = d.size → Cutted lt tot a s c e b d1 → PermIn a c d1 d2 → Calls Try.prog 58 #[.agg #[.func (.func g) #[] lb, .func (.func sf) #[] sb], .int .i64 c, .int .i64 e, .int .i64 b] w2 fun x w' => x = .returned (.tuple #[]) ∧ ∃ d', PermIn c b d2 d' ∧ SortedIn tot c b d' ∧ SW enc w2 blk off d' w') := ⟨fun g5 g6 d1 d2 w2 hV hn hC hQ => IH.out c e b d2 w2 (by omega) (hV.lessReads hless1.out hbw1 hn) (hV.holds hbw1 hH1 hn) (hV.lt hbw1) g5 g6 (by omega) hn (Cutted.keep hC hQ hec).1 (Cutted.keep hC hQ hec).2.1 (Cutted.keep hC hQ hec).2.2⟩
        have hwne : w.heap.size ≠ blk := by omega
        by_cases g1 : s < m
        · by_cases g2 : m < e
          · have g4 : s < c := by omega
            have g5 : c < e := by omega
            by_cases g3 : a < s
            · by_cases g6 : e < b
              · skip
                have h1 : (s < m ∧ m < e) := by omega
                have h2 : (a < s ∧ s < c) := by omega
                have h3 : (c < e ∧ e < b) := by omega
                have hk1 := rot_calls enc g lb sf sb blk off s m e d wr hswap (HW.out.holds hbw1 hH1 rfl) (HW.out.lt hbw1) h1.1 h1.2 (by omega) hsz
                have HV_wr := HW
                go_wp2_with (first | (go_at_call 59; refine hk1.mono ?_; rintro x w1 ⟨rfl, d1, hR1, hQ1, hV1⟩; have HV_w1 := Aside0.mk (SW.trans HW.out hV1 hbw1 hR1.1); have HC1 := Aside0.mk (HROT.out d1 hR1); have HQ1 := Aside0.mk (permIn_mono _ _ s e a b has he2 hb hQ1); have hn1 : d1.size = d.size := hR1.1; clear c0 c1 hR1 hQ1 hV1; have k0 := SW.cell HV_w1.out w.heap.size 0 (.func (.func g) #[] lb) (by simp) hwne (by simp); have k1 := SW.cell HV_w1.out w.heap.size 1 (.func (.func sf) #[] sb) (by simp) hwne (by simp)) | (go_at_call_has 58 s; refine (HLEFT.out g3 g4 d1 w1 HV_w1.out hn1 HC1.out).mono ?_; rintro x w2 ⟨rfl, d2, hQ2, hS2, hV2⟩; have HV_w2 := Aside0.mk (SW.trans HV_w1.out hV2 hbw1 (hQ2.1)); have HQ2 := Aside0.mk hQ2; have HS2 := Aside0.mk hS2; have hn2 : d2.size = d.size := hQ2.1.trans hn1; clear k0 k1 hQ2 hS2 hV2; have k0 := SW.cell HV_w2.out w.heap.size 0 (.func (.func g) #[] lb) (by simp) hwne (by simp); have k1 := SW.cell HV_w2.out w.heap.size 1 (.func (.func sf) #[] sb) (by simp) hwne (by simp)) | (go_at_call_has 58 e; refine (HRIGHT.out g5 g6 d1 d2 w2 HV_w2.out hn2 HC1.out HQ2.out).mono ?_; rintro x w3 ⟨rfl, d3, hQ3, hS3, hV3⟩; have HV_w3 := Aside0.mk (SW.trans HV_w2.out hV3 hbw1 (hQ3.1)); have HQ3 := Aside0.mk hQ3; have HS3 := Aside0.mk hS3; clear hQ3 hS3 hV3))
                go_end0
                have hJ := Cutted.join HC1.out (by omega) (by omega) (by omega) HQ2.out HS2.out HQ3.out HS3.out
                exact ⟨rfl, d3, permIn_trans _ _ _ _ _ HQ1.out hJ.1, hJ.2, SW.of_alloc HV_w3.out hblk⟩
              · skip
                have h1 : (s < m ∧ m < e) := by omega
                have h2 : (a < s ∧ s < c) := by omega
                have h3 : ¬ (c < e ∧ e < b) := by omega
                have hk1 := rot_calls enc g lb sf sb blk off s m e d wr hswap (HW.out.holds hbw1 hH1 rfl) (HW.out.lt hbw1) h1.1 h1.2 (by omega) hsz
                have HV_wr := HW
                go_wp2_with (first | (go_at_call 59; refine hk1.mono ?_; rintro x w1 ⟨rfl, d1, hR1, hQ1, hV1⟩; have HV_w1 := Aside0.mk (SW.trans HW.out hV1 hbw1 hR1.1); have HC1 := Aside0.mk (HROT.out d1 hR1); have HQ1 := Aside0.mk (permIn_mono _ _ s e a b has he2 hb hQ1); have hn1 : d1.size = d.size := hR1.1; clear c0 c1 hR1 hQ1 hV1; have k0 := SW.cell HV_w1.out w.heap.size 0 (.func (.func g) #[] lb) (by simp) hwne (by simp); have k1 := SW.cell HV_w1.out w.heap.size 1 (.func (.func sf) #[] sb) (by simp) hwne (by simp)) | (go_at_call_has 58 s; refine (HLEFT.out g3 g4 d1 w1 HV_w1.out hn1 HC1.out).mono ?_; rintro x w2 ⟨rfl, d2, hQ2, hS2, hV2⟩; have HV_w2 := Aside0.mk (SW.trans HV_w1.out hV2 hbw1 (hQ2.1)); have HQ2 := Aside0.mk hQ2; have HS2 := Aside0.mk hS2; have hn2 : d2.size = d.size := hQ2.1.trans hn1; clear k0 k1 hQ2 hS2 hV2; have k0 := SW.cell HV_w2.out w.heap.size 0 (.func (.func g) #[] lb) (by simp) hwne (by simp); have k1 := SW.cell HV_w2.out w.heap.size 1 (.func (.func sf) #[] sb) (by simp) hwne (by simp)))
                go_end0
                have HQ3 : Aside0 (PermIn c b d2 d2) := ⟨permIn_refl _ _ _⟩
                have HS3 : Aside0 (SortedIn tot c b d2) := ⟨SortedIn.out (Cutted.right HC1.out h3 hec he2) HQ2.out (.inr (Nat.le_refl _))⟩
                have hJ := Cutted.join HC1.out (by omega) (by omega) (by omega) HQ2.out HS2.out HQ3.out HS3.out
                exact ⟨rfl, d2, permIn_trans _ _ _ _ _ HQ1.out hJ.1, hJ.2, SW.of_alloc HV_w2.out hblk⟩
            · by_cases g6 : e < b
              · skip
                have h1 : (s < m ∧ m < e) := by omega
                have h2 : ¬ (a < s ∧ s < c) := by omega
                have h3 : (c < e ∧ e < b) := by omega
                have hk1 := rot_calls enc g lb sf sb blk off s m e d wr hswap (HW.out.holds hbw1 hH1 rfl) (HW.out.lt hbw1) h1.1 h1.2 (by omega) hsz
                have HV_wr := HW
                go_wp2_with (first | (go_at_call 59; refine hk1.mono ?_; rintro x w1 ⟨rfl, d1, hR1, hQ1, hV1⟩; have HV_w1 := Aside0.mk (SW.trans HW.out hV1 hbw1 hR1.1); have HC1 := Aside0.mk (HROT.out d1 hR1); have HQ1 := Aside0.mk (permIn_mono _ _ s e a b has he2 hb hQ1); have hn1 : d1.size = d.size := hR1.1; clear c0 c1 hR1 hQ1 hV1; have k0 := SW.cell HV_w1.out w.heap.size 0 (.func (.func g) #[] lb) (by simp) hwne (by simp); have k1 := SW.cell HV_w1.out w.heap.size 1 (.func (.func sf) #[] sb) (by simp) hwne (by simp)) | (go_at_call_has 58 e; have HQ2 : Aside0 (PermIn a c d1 d1) := ⟨permIn_refl _ _ _⟩; have HS2 := Aside0.mk (Cutted.left HC1.out h2 has hsc); have hn2 := hn1; refine (HRIGHT.out g5 g6 d1 d1 w1 HV_w1.out hn2 HC1.out HQ2.out).mono ?_; rintro x w3 ⟨rfl, d3, hQ3, hS3, hV3⟩; have HV_w3 := Aside0.mk (SW.trans HV_w1.out hV3 hbw1 (hQ3.1)); have HQ3 := Aside0.mk hQ3; have HS3 := Aside0.mk hS3; clear hQ3 hS3 hV3))
                go_end0
                have hJ := Cutted.join HC1.out (by omega) (by omega) (by omega) HQ2.out HS2.out HQ3.out HS3.out
                exact ⟨rfl, d3, permIn_trans _ _ _ _ _ HQ1.out hJ.1, hJ.2, SW.of_alloc HV_w3.out hblk⟩
              · skip
                have h1 : (s < m ∧ m < e) := by omega
                have h2 : ¬ (a < s ∧ s < c) := by omega
                have h3 : ¬ (c < e ∧ e < b) := by omega
                have hk1 := rot_calls enc g lb sf sb blk off s m e d wr hswap (HW.out.holds hbw1 hH1 rfl) (HW.out.lt hbw1) h1.1 h1.2 (by omega) hsz
                have HV_wr := HW
                go_wp2_with (first | (go_at_call 59; refine hk1.mono ?_; rintro x w1 ⟨rfl, d1, hR1, hQ1, hV1⟩; have HV_w1 := Aside0.mk (SW.trans HW.out hV1 hbw1 hR1.1); have HC1 := Aside0.mk (HROT.out d1 hR1); have HQ1 := Aside0.mk (permIn_mono _ _ s e a b has he2 hb hQ1); have hn1 : d1.size = d.size := hR1.1; clear c0 c1 hR1 hQ1 hV1; have k0 := SW.cell HV_w1.out w.heap.size 0 (.func (.func g) #[] lb) (by simp) hwne (by simp); have k1 := SW.cell HV_w1.out w.heap.size 1 (.func (.func sf) #[] sb) (by simp) hwne (by simp)))
                go_end0
                have HQ2 : Aside0 (PermIn a c d1 d1) := ⟨permIn_refl _ _ _⟩; have HS2 := Aside0.mk (Cutted.left HC1.out h2 has hsc); have hn2 := hn1
                have HQ3 : Aside0 (PermIn c b d1 d1) := ⟨permIn_refl _ _ _⟩
                have HS3 := Aside0.mk (Cutted.right HC1.out h3 hec he2)
                have hJ := Cutted.join HC1.out (by omega) (by omega) (by omega) HQ2.out HS2.out HQ3.out HS3.out
                exact ⟨rfl, d1, permIn_trans _ _ _ _ _ HQ1.out hJ.1, hJ.2, SW.of_alloc HV_w1.out hblk⟩
          · have g4 : ¬ s < c := by omega
            have g5 : c < e := by omega
            have g6 : e < b := by omega
            by_cases g3 : a < s
            · skip
              have h1 : ¬ (s < m ∧ m < e) := by omega
              have h2 : ¬ (a < s ∧ s < c) := by omega
              have h3 : (c < e ∧ e < b) := by omega
              have hR1 : Rot s m e d d := by
                by_cases h4 : s = m
                · subst h4; exact Rot.none_left _ _ _
                · obtain rfl : m = e := by omega
                  exact Rot.none_right _ _ _
              have HV_wr := HW
              have HC1 := Aside0.mk (HROT.out d hR1)
              have HQ1 : Aside0 (PermIn a b d d) := ⟨permIn_refl _ _ _⟩
              have hn1 : d.size = d.size := rfl
              clear hR1
              go_wp2_with (first | (go_at_call_has 58 e; have HQ2 : Aside0 (PermIn a c d d) := ⟨permIn_refl _ _ _⟩; have HS2 := Aside0.mk (Cutted.left HC1.out h2 has hsc); have hn2 := hn1; refine (HRIGHT.out g5 g6 d d wr HV_wr.out hn2 HC1.out HQ2.out).mono ?_; rintro x w3 ⟨rfl, d3, hQ3, hS3, hV3⟩; have HV_w3 := Aside0.mk (SW.trans HV_wr.out hV3 hbw1 (hQ3.1)); have HQ3 := Aside0.mk hQ3; have HS3 := Aside0.mk hS3; clear hQ3 hS3 hV3))
              go_end0
              have hJ := Cutted.join HC1.out (by omega) (by omega) (by omega) HQ2.out HS2.out HQ3.out HS3.out
              exact ⟨rfl, d3, permIn_trans _ _ _ _ _ HQ1.out hJ.1, hJ.2, SW.of_alloc HV_w3.out hblk⟩
            · skip
              have h1 : ¬ (s < m ∧ m < e) := by omega
              have h2 : ¬ (a < s ∧ s < c) := by omega
              have h3 : (c < e ∧ e < b) := by omega
              have hR1 : Rot s m e d d := by
                by_cases h4 : s = m
                · subst h4; exact Rot.none_left _ _ _
                · obtain rfl : m = e := by omega
                  exact Rot.none_right _ _ _
              have HV_wr := HW
              have HC1 := Aside0.mk (HROT.out d hR1)
              have HQ1 : Aside0 (PermIn a b d d) := ⟨permIn_refl _ _ _⟩
              have hn1 : d.size = d.size := rfl
              clear hR1
              go_wp2_with (first | (go_at_call_has 58 e; have HQ2 : Aside0 (PermIn a c d d) := ⟨permIn_refl _ _ _⟩; have HS2 := Aside0.mk (Cutted.left HC1.out h2 has hsc); have hn2 := hn1; refine (HRIGHT.out g5 g6 d d wr HV_wr.out hn2 HC1.out HQ2.out).mono ?_; rintro x w3 ⟨rfl, d3, hQ3, hS3, hV3⟩; have HV_w3 := Aside0.mk (SW.trans HV_wr.out hV3 hbw1 (hQ3.1)); have HQ3 := Aside0.mk hQ3; have HS3 := Aside0.mk hS3; clear hQ3 hS3 hV3))
              go_end0
              have hJ := Cutted.join HC1.out (by omega) (by omega) (by omega) HQ2.out HS2.out HQ3.out HS3.out
              exact ⟨rfl, d3, permIn_trans _ _ _ _ _ HQ1.out hJ.1, hJ.2, SW.of_alloc HV_w3.out hblk⟩
        · have g3 : a < s := by omega
          have g5 : ¬ c < e := by omega
          by_cases g2 : m < e
          · have g4 : s < c := by omega
            have h1 : ¬ (s < m ∧ m < e) := by omega
            have h2 : (a < s ∧ s < c) := by omega
            have h3 : ¬ (c < e ∧ e < b) := by omega
            have hR1 : Rot s m e d d := by
              by_cases h4 : s = m
              · subst h4; exact Rot.none_left _ _ _
              · obtain rfl : m = e := by omega
                exact Rot.none_right _ _ _
            have HV_wr := HW
            have HC1 := Aside0.mk (HROT.out d hR1)
            have HQ1 : Aside0 (PermIn a b d d) := ⟨permIn_refl _ _ _⟩
            have hn1 : d.size = d.size := rfl
            clear hR1
            go_wp2_with (first | (go_at_call_has 58 s; refine (HLEFT.out g3 g4 d wr HV_wr.out hn1 HC1.out).mono ?_; rintro x w2 ⟨rfl, d2, hQ2, hS2, hV2⟩; have HV_w2 := Aside0.mk (SW.trans HV_wr.out hV2 hbw1 (hQ2.1)); have HQ2 := Aside0.mk hQ2; have HS2 := Aside0.mk hS2; have hn2 : d2.size = d.size := hQ2.1.trans hn1; clear c0 c1 hQ2 hS2 hV2; have k0 := SW.cell HV_w2.out w.heap.size 0 (.func (.func g) #[] lb) (by simp) hwne (by simp); have k1 := SW.cell HV_w2.out w.heap.size 1 (.func (.func sf) #[] sb) (by simp) hwne (by simp)))
            go_end0
            have HQ3 : Aside0 (PermIn c b d2 d2) := ⟨permIn_refl _ _ _⟩
            have HS3 : Aside0 (SortedIn tot c b d2) := ⟨SortedIn.out (Cutted.right HC1.out h3 hec he2) HQ2.out (.inr (Nat.le_refl _))⟩
            have hJ := Cutted.join HC1.out (by omega) (by omega) (by omega) HQ2.out HS2.out HQ3.out HS3.out
            exact ⟨rfl, d2, permIn_trans _ _ _ _ _ HQ1.out hJ.1, hJ.2, SW.of_alloc HV_w2.out hblk⟩
          · have g4 : ¬ s < c := by omega
            have h1 : ¬ (s < m ∧ m < e) := by omega
            have h2 : ¬ (a < s ∧ s < c) := by omega
            have h3 : ¬ (c < e ∧ e < b) := by omega
            have hR1 : Rot s m e d d := by
              by_cases h4 : s = m
              · subst h4; exact Rot.none_left _ _ _
              · obtain rfl : m = e := by omega
                exact Rot.none_right _ _ _
            have HV_wr := HW
            have HC1 := Aside0.mk (HROT.out d hR1)
            have HQ1 : Aside0 (PermIn a b d d) := ⟨permIn_refl _ _ _⟩
            have hn1 : d.size = d.size := rfl
            clear hR1
            go_wp2
            go_end0
            have HQ2 : Aside0 (PermIn a c d d) := ⟨permIn_refl _ _ _⟩; have HS2 := Aside0.mk (Cutted.left HC1.out h2 has hsc); have hn2 := hn1
            have HQ3 : Aside0 (PermIn c b d d) := ⟨permIn_refl _ _ _⟩
            have HS3 := Aside0.mk (Cutted.right HC1.out h3 hec he2)
            have hJ := Cutted.join HC1.out (by omega) (by omega) (by omega) HQ2.out HS2.out HQ3.out HS3.out
            exact ⟨rfl, d, permIn_trans _ _ _ _ _ HQ1.out hJ.1, hJ.2, SW.of_alloc HV_wr.out hblk⟩
end Go.Proofs.Yticocjpfhllelaa.XP
