/- slices.symMergeCmpFunc at marks, walked: the middle lies in the left part. (printed by mkst5.py) -/
import Derived.Test.YtnohcnneflogjaaGreatK40
import Derived.Sort.AtCall
import Derived.Test.YtnohcnneflogjaaGreatK15
import Derived.Lib.SliceRun
set_option maxHeartbeats 8000000
set_option maxRecDepth 1000000
set_option linter.unusedVariables false
set_option linter.unusedSimpArgs false
namespace Go.Proofs.YtnohcnneflogjaaGreat.M.St
open Go.Shelf Go.RowKit Go.Lib Go.Sort
variable {α : Type} [Inhabited α]
theorem mst5a_1 {p : Prop} (h : p := by
 have h2 : ¬ (a < s ∧ s < c) := by omega
 have h3 : (c < e ∧ e < b) := by omega
 have hR1 : Rot s m e d d := by
  by_cases h4 : s = m
  ·subst h4; exact Rot.none_left _ _ _
  ·obtain rfl : m = e := by omega
   exact Rot.none_right _ _ _
 have HV_wr := HV
 have HC1 := Az.mk (HROT.out d hR1)
 have HQ1 : Az (PermIn a b d d) := ⟨permIn_refl _ _ _⟩
 have hn1 : d.size = d.size := rfl
 clear hR1
 go_wp2_with (first | (go_at_call_has 195 e; have HQ2 : Az (PermIn a c d d) := ⟨permIn_refl _ _ _⟩; have HS2 := Az.mk (Cutted.left HC1.out h2 has hsc); have hn2 := hn1; refine (HRIGHT.out g5 g6 d d wr HV_wr.out hn2 HC1.out HQ2.out).mono ?_; rintro x w3 ⟨rfl, d3, hQ3, hS3, hV3⟩; have HV_w3 := Az.mk hV3; have HQ3 := Az.mk hQ3; have HS3 := Az.mk hS3; clear hQ3 hS3 hV3))
 go_end0
 have hJ := Cutted.join HC1.out (by omega) (by omega) (by omega) HQ2.out HS2.out HQ3.out HS3.out
 exact ⟨rfl, d3, permIn_trans _ _ _ _ _ HQ1.out hJ.1, hJ.2, HV_w3.out⟩) : p := h
theorem sym_A {enc : α → List Value} {k : Nat} {w0 : World} {blk off : Nat} {d0 : Array α} (zE : ∀ w, (Go.sizeOf 149).run Tryz.prog w = .ok k w) (R : RowK enc k w0 blk off d0)
 (cf : α → α → Int) (tot : α → α → Bool) (hO : SWO tot) (g : Nat) (cb : Array Value) (eg : ∀ args w, (callFunc g args).run Tryz.prog w = .ok (.enter g args) w) (hcmp : CmpLays Tryz.prog g cb enc k cf blk off d0.size w0)
 (n cap : Nat) (hn : n = d0.size) (hsz : d0.size < 4611686018427387904) (d : Array α) (hs : d.size = d0.size) (f : Nat)
 (hIH : ∀ (a m b : Nat) (d' : Array α) (W : World), b - a ≤ f → SWK enc k w0 blk off d' W → d'.size = d0.size → a < m → m < b → b ≤ d'.size → SortedIn tot a m d' → SortedIn tot m b d' → Pre (ltOf cf) tot a m b d' →
  Calls Tryz.prog 195 #[.slice (some ⟨blk, off, none⟩) n cap, .int .i64 a, .int .i64 m, .int .i64 b, .func (.func g) #[] cb] W fun e w' => e = .returned (.tuple #[]) ∧ ∃ d2, PermIn a b d' d2 ∧ SortedIn tot a b d2 ∧ SWK enc k w0 blk off d2 w')
 (a m b : Nat) (W : World) (hf : b - a ≤ f + 1) (hW : SWK enc k w0 blk off d W) (ham : a < m) (hmb : m < b) (hb : b ≤ d.size)
 (sL : SortedIn tot a m d) (sR : SortedIn tot m b d) (hP : Pre (ltOf cf) tot a m b d) (hm1 : ¬ m = a + 1) (hb1 : ¬ b = m + 1) (hcase : (a + b) / 2 < m) :
 Calls Tryz.prog 195 #[.slice (some ⟨blk, off, none⟩) n cap, .int .i64 a, .int .i64 m, .int .i64 b, .func (.func g) #[] cb] W fun e w' => e = .returned (.tuple #[]) ∧ ∃ d', PermIn a b d d' ∧ SortedIn tot a b d' ∧ SWK enc k w0 blk off d' w' := by
 have IH := Az.mk hIH
 clear hIH
 have hnd : n = d.size := by omega
 have hsd : d.size < 4611686018427387904 := by omega
 clear hsz
 have aE := aggM
 have mixed : Tryz.prog.follows .mixedOrders = true := by kernel_rfl
 have u22 := run_underlying (P := Tryz.prog) Tryz.underlying146
 have HR := Az.mk R
 have HW := Az.mk hW
 have HS := Az.mk hs
 have HNN := Az.mk hnd
 have HSZ := Az.mk hsd
 have HCM := Az.mk hcmp
 have HSD := HS
 clear hW hs R hn hcmp hnd
 have hma : ((m : Int) - a == 1) = false := by rw [beq_eq_false_iff_ne]; omega
 have hmc : ((b : Int) - m == 1) = false := by rw [beq_eq_false_iff_ne]; omega
 obtain ⟨c, hc⟩ : ∃ c : Nat, (a + b) / 2 = c := ⟨_, rfl⟩
 have hcI : ((a : Int) + b) / 2 = (c : Int) := by omega
 have hc1 : a < c := by omega
 have hc2 : c < b := by omega
 have hc3 : 2 * c ≤ a + b := by omega
 have hc4 : a + b ≤ 2 * c + 1 := by omega
 have hcm : c < m := by omega
 obtain ⟨s0, hs0q⟩ : ∃ s0 : Nat, c + m - b = s0 := ⟨_, rfl⟩
 have hs0I : (c : Int) + m - b = (s0 : Int) := by omega
 have hs0 : a ≤ s0 := by omega
 have hsr : s0 ≤ c := by omega
 have hcms : c + m ≤ s0 + b := by omega
 have HS0 : Az (s0 = a ∨ c + m - s0 = b) := ⟨.inr (by omega)⟩
 have HR0 : Az (c = m ∨ c = c) := ⟨.inr rfl⟩
 clear hs0q hc hm1 hb1 hcase
 go_enter Tryz.func195, Tryz.ntmps195
 go_wp2
 go_loopw [20, 21, 23] (fun vs vr _ wr => ∃ (s r : Nat), vs = .int .i64 s ∧ vr = .int .i64 r ∧ s0 ≤ s ∧ s ≤ r ∧ r ≤ c ∧ Az (s = s0 ∨ ltOf cf d[c + m - s]! d[s - 1]! = false) ∧ Az (r = c ∨ ltOf cf d[c + m - 1 - r]! d[r]! = true) ∧ Az (SWK enc k w0 blk off d wr))
  (fun vs vr _ _ => (intOf vr).toNat - (intOf vs).toNat)
 case atStart => exact ⟨s0, c, rfl, rfl, Nat.le_refl _, hsr, Nat.le_refl _, ⟨.inl rfl⟩, ⟨.inl rfl⟩, HW⟩
 case round =>
  obtain ⟨s, r, rfl, rfl, hss, hsr', hr, H1, H2, HV⟩ := hrel
  by_cases hlt : s < r
  ·obtain ⟨h, hh⟩ : ∃ h : Nat, (s + r) / 2 = h := ⟨_, rfl⟩
   have hhI : ((s : Int) + r) / 2 = (h : Int) := by omega
   have hh1 : s ≤ h := by omega
   have hh2 : h < r := by omega
   clear hh
   obtain ⟨pd, hpd⟩ : ∃ pd : Nat, c + m - 1 - h = pd := ⟨_, rfl⟩
   have hpdI : (c : Int) + m - 1 - h = (pd : Int) := by omega
   have hhn : (h : Int) < (n : Int) := by have := HNN.out; omega
   have hpn : (pd : Int) < (n : Int) := by have := HNN.out; omega
   have hpd2 : pd < d.size := by omega
   have hwp : IntKind.i64.wrap (pd : Int) = (pd : Int) := by rw [IntKind.wrap_i64]; omega
   obtain ⟨xp, hxp⟩ : ∃ x, d[pd]! = x := ⟨_, rfl⟩
   obtain ⟨xh, hxh⟩ : ∃ x, d[h]! = x := ⟨_, rfl⟩
   have lj := fun n' os' => HV.out.ld HR.out HSD.out Tryz.prog (pd) (by omega) n' os'
   have lp := fun n' os' => HV.out.ld HR.out HSD.out Tryz.prog (h) (by omega) n' os'
   rw [hxp] at lj
   rw [hxh] at lp
   have hcg := fun n' os' => HV.out.cmp HCM.out HSD.out xp xh n' os'
   by_cases hlv : cf xp xh < 0
   ·have HLV : Az (ltOf cf d[c + m - 1 - h]! d[h]! = true) := ⟨by rw [hpd, hxp, hxh]; exact dTz hlv⟩
    clear hpd
    go_wp2_with fail
    go_quiet_grown (first | (go_at_fn g; refine Calls.grown_of (hcg _ _)))
    go_wp2
    go_roundw
    case rel => exact ⟨s, h, rfl, rfl, hss, hh1, by omega, H1, ⟨.inr HLV.out⟩, ⟨HV.out.grown _ _⟩⟩
    case measure => simp [intOf]; omega
   ·have HLV : Az (ltOf cf d[c + m - 1 - h]! d[h]! = false) := ⟨by rw [hpd, hxp, hxh]; exact dFz hlv⟩
    have hlv2 : 0 ≤ cf xp xh := by omega
    have hlv3 : decide (cf xp xh < 0) = false := dFz hlv
    clear hpd
    go_wp2_with fail
    go_quiet_grown (first | (go_at_fn g; refine Calls.grown_of (hcg _ _)))
    go_wp2
    go_roundw
    case rel => exact ⟨h + 1, r, by go_num, rfl, by omega, by omega, hr, ⟨.inr (by rw [show c + m - (h + 1) = c + m - 1 - h by omega, show h + 1 - 1 = h by omega]; exact HLV.out)⟩, H2, ⟨HV.out.grown _ _⟩⟩
    case measure => simp [intOf]; omega
  ·obtain rfl : s = r := by omega
   obtain ⟨e, he⟩ : ∃ e : Nat, c + m - s = e := ⟨_, rfl⟩
   have heI : (c : Int) + m - s = (e : Int) := by omega
   have he1 : m ≤ e := by omega
   have he2 : e ≤ b := by omega
   have hse : s + (e - m) = c := by omega
   have hec : c ≤ e := by omega
   have hsc : s ≤ c := by omega
   have hsm : s ≤ m := by omega
   have has : a ≤ s := by omega
   have hCut : Cut tot a s m e b d := by
    refine ⟨has, hsm, he1, he2, ?_, ?_⟩
    ·rcases H1.out with h | h
     ·rcases HS0.out with h' | h'
      ·exact .inl (by omega)
      ·refine .inr (.inl ?_); rw [← he, h]; exact h'
     ·by_cases h3 : s = a
      ·exact .inl h3
      ·by_cases h4 : e = b
       ·exact .inr (.inl h4)
       ·refine .inr (.inr ?_)
        rw [he] at h
        rw [← hP (s - 1) e (by omega) (by omega) he1 (by omega)]; exact h
    ·by_cases h3 : s = m
     ·exact .inl h3
     ·by_cases h4 : e = m
      ·exact .inr (.inl h4)
      ·rcases H2.out with h | h
       ·exfalso
        rcases HR0.out with h' | h' <;> omega
       ·refine .inr (.inr ?_)
        rw [show c + m - 1 - s = e - 1 by omega] at h
        rw [← hP s (e - 1) (by omega) (by omega) (by omega) (by omega)]; exact h
   have HCUT := Az.mk hCut
   have HSE := Az.mk hse
   clear hCut he hse
   have HROT : Az (∀ d1, Rot s m e d d1 → Cutted (ltOf cf) tot a s c e b d1) := ⟨fun d1 h => by have h5 := Cut.rot hO HCUT.out sL sR hP h; rw [HSE.out] at h5; exact h5⟩
   have HLEFT : Az (a < s → s < c → ∀ (d1 : Array α) (w1 : World), SWK enc k w0 blk off d1 w1 → d1.size = d.size → Cutted (ltOf cf) tot a s c e b d1 → Calls Tryz.prog 195 #[.slice (some ⟨blk, off, none⟩) n cap, .int .i64 a, .int .i64 s, .int .i64 c, .func (.func g) #[] cb] w1 fun x w' => x = .returned (.tuple #[]) ∧ ∃ d', PermIn a c d1 d' ∧ SortedIn tot a c d' ∧ SWK enc k w0 blk off d' w') := ⟨fun g3 g4 d1 w1 hV hn hC => IH.out a s c d1 w1 (by omega) hV (hn.trans HS.out) g3 g4 (by omega) hC.sL1 hC.sR1 hC.pL⟩
   have HRIGHT : Az (c < e → e < b → ∀ (d1 d2 : Array α) (w2 : World), SWK enc k w0 blk off d2 w2 → d2.size = d.size → Cutted (ltOf cf) tot a s c e b d1 → PermIn a c d1 d2 → Calls Tryz.prog 195 #[.slice (some ⟨blk, off, none⟩) n cap, .int .i64 c, .int .i64 e, .int .i64 b, .func (.func g) #[] cb] w2 fun x w' => x = .returned (.tuple #[]) ∧ ∃ d', PermIn c b d2 d' ∧ SortedIn tot c b d' ∧ SWK enc k w0 blk off d' w') := ⟨fun g5 g6 d1 d2 w2 hV hn hC hQ => IH.out c e b d2 w2 (by omega) hV (hn.trans HS.out) g5 g6 (by omega) (Cutted.keep hC hQ hec).1 (Cutted.keep hC hQ hec).2.1 (Cutted.keep hC hQ hec).2.2⟩
   by_cases g1 : s < m
   ·by_cases g2 : m < e
    ·have g4 : s < c := by omega
     have g5 : c < e := by omega
     by_cases g3 : a < s
     ·by_cases g6 : e < b
      ·skip
       have h1 : (s < m ∧ m < e) := by omega
       have h2 : (a < s ∧ s < c) := by omega
       have h3 : (c < e ∧ e < b) := by omega
       have hk1 := rot_calls zE HR.out s m e n cap d wr (.func (.func g) #[] cb) HV.out HS.out HNN.out h1.1 h1.2 (by omega) HSZ.out
       have HV_wr := HV
       go_wp2_with (first | (go_at_call 218; refine hk1.mono ?_; rintro x w1 ⟨rfl, d1, hR1, hQ1, hV1⟩; have HV_w1 := Az.mk hV1; have HC1 := Az.mk (HROT.out d1 hR1); have HQ1 := Az.mk (permIn_mono _ _ s e a b has he2 hb hQ1); have hn1 : d1.size = d.size := hR1.1; clear hR1 hQ1 hV1) | (go_at_call_has 195 s; refine (HLEFT.out g3 g4 d1 w1 HV_w1.out hn1 HC1.out).mono ?_; rintro x w2 ⟨rfl, d2, hQ2, hS2, hV2⟩; have HV_w2 := Az.mk hV2; have HQ2 := Az.mk hQ2; have HS2 := Az.mk hS2; have hn2 : d2.size = d.size := hQ2.1.trans hn1; clear hQ2 hS2 hV2) | (go_at_call_has 195 e; refine (HRIGHT.out g5 g6 d1 d2 w2 HV_w2.out hn2 HC1.out HQ2.out).mono ?_; rintro x w3 ⟨rfl, d3, hQ3, hS3, hV3⟩; have HV_w3 := Az.mk hV3; have HQ3 := Az.mk hQ3; have HS3 := Az.mk hS3; clear hQ3 hS3 hV3))
       go_end0
       have hJ := Cutted.join HC1.out (by omega) (by omega) (by omega) HQ2.out HS2.out HQ3.out HS3.out
       exact ⟨rfl, d3, permIn_trans _ _ _ _ _ HQ1.out hJ.1, hJ.2, HV_w3.out⟩
      ·skip
       have h1 : (s < m ∧ m < e) := by omega
       have h2 : (a < s ∧ s < c) := by omega
       have h3 : ¬ (c < e ∧ e < b) := by omega
       have hk1 := rot_calls zE HR.out s m e n cap d wr (.func (.func g) #[] cb) HV.out HS.out HNN.out h1.1 h1.2 (by omega) HSZ.out
       have HV_wr := HV
       go_wp2_with (first | (go_at_call 218; refine hk1.mono ?_; rintro x w1 ⟨rfl, d1, hR1, hQ1, hV1⟩; have HV_w1 := Az.mk hV1; have HC1 := Az.mk (HROT.out d1 hR1); have HQ1 := Az.mk (permIn_mono _ _ s e a b has he2 hb hQ1); have hn1 : d1.size = d.size := hR1.1; clear hR1 hQ1 hV1) | (go_at_call_has 195 s; refine (HLEFT.out g3 g4 d1 w1 HV_w1.out hn1 HC1.out).mono ?_; rintro x w2 ⟨rfl, d2, hQ2, hS2, hV2⟩; have HV_w2 := Az.mk hV2; have HQ2 := Az.mk hQ2; have HS2 := Az.mk hS2; have hn2 : d2.size = d.size := hQ2.1.trans hn1; clear hQ2 hS2 hV2))
       go_end0
       have HQ3 : Az (PermIn c b d2 d2) := ⟨permIn_refl _ _ _⟩
       have HS3 : Az (SortedIn tot c b d2) := ⟨SortedIn.out (Cutted.right HC1.out h3 hec he2) HQ2.out (.inr (Nat.le_refl _))⟩
       have hJ := Cutted.join HC1.out (by omega) (by omega) (by omega) HQ2.out HS2.out HQ3.out HS3.out
       exact ⟨rfl, d2, permIn_trans _ _ _ _ _ HQ1.out hJ.1, hJ.2, HV_w2.out⟩
     ·by_cases g6 : e < b
      ·skip
       have h1 : (s < m ∧ m < e) := by omega
       have h2 : ¬ (a < s ∧ s < c) := by omega
       have h3 : (c < e ∧ e < b) := by omega
       have hk1 := rot_calls zE HR.out s m e n cap d wr (.func (.func g) #[] cb) HV.out HS.out HNN.out h1.1 h1.2 (by omega) HSZ.out
       have HV_wr := HV
       go_wp2_with (first | (go_at_call 218; refine hk1.mono ?_; rintro x w1 ⟨rfl, d1, hR1, hQ1, hV1⟩; have HV_w1 := Az.mk hV1; have HC1 := Az.mk (HROT.out d1 hR1); have HQ1 := Az.mk (permIn_mono _ _ s e a b has he2 hb hQ1); have hn1 : d1.size = d.size := hR1.1; clear hR1 hQ1 hV1) | (go_at_call_has 195 e; have HQ2 : Az (PermIn a c d1 d1) := ⟨permIn_refl _ _ _⟩; have HS2 := Az.mk (Cutted.left HC1.out h2 has hsc); have hn2 := hn1; refine (HRIGHT.out g5 g6 d1 d1 w1 HV_w1.out hn2 HC1.out HQ2.out).mono ?_; rintro x w3 ⟨rfl, d3, hQ3, hS3, hV3⟩; have HV_w3 := Az.mk hV3; have HQ3 := Az.mk hQ3; have HS3 := Az.mk hS3; clear hQ3 hS3 hV3))
       go_end0
       have hJ := Cutted.join HC1.out (by omega) (by omega) (by omega) HQ2.out HS2.out HQ3.out HS3.out
       exact ⟨rfl, d3, permIn_trans _ _ _ _ _ HQ1.out hJ.1, hJ.2, HV_w3.out⟩
      ·skip
       have h1 : (s < m ∧ m < e) := by omega
       have h2 : ¬ (a < s ∧ s < c) := by omega
       have h3 : ¬ (c < e ∧ e < b) := by omega
       have hk1 := rot_calls zE HR.out s m e n cap d wr (.func (.func g) #[] cb) HV.out HS.out HNN.out h1.1 h1.2 (by omega) HSZ.out
       have HV_wr := HV
       go_wp2_with (first | (go_at_call 218; refine hk1.mono ?_; rintro x w1 ⟨rfl, d1, hR1, hQ1, hV1⟩; have HV_w1 := Az.mk hV1; have HC1 := Az.mk (HROT.out d1 hR1); have HQ1 := Az.mk (permIn_mono _ _ s e a b has he2 hb hQ1); have hn1 : d1.size = d.size := hR1.1; clear hR1 hQ1 hV1))
       go_end0
       have HQ2 : Az (PermIn a c d1 d1) := ⟨permIn_refl _ _ _⟩; have HS2 := Az.mk (Cutted.left HC1.out h2 has hsc); have hn2 := hn1
       have HQ3 : Az (PermIn c b d1 d1) := ⟨permIn_refl _ _ _⟩
       have HS3 := Az.mk (Cutted.right HC1.out h3 hec he2)
       have hJ := Cutted.join HC1.out (by omega) (by omega) (by omega) HQ2.out HS2.out HQ3.out HS3.out
       exact ⟨rfl, d1, permIn_trans _ _ _ _ _ HQ1.out hJ.1, hJ.2, HV_w1.out⟩
    ·have g4 : ¬ s < c := by omega
     have g5 : c < e := by omega
     have g6 : e < b := by omega
     by_cases g3 : a < s
     ·skip
      have h1 : ¬ (s < m ∧ m < e) := by omega
      exact mst5a_1
     ·skip
      have h1 : ¬ (s < m ∧ m < e) := by omega
      exact mst5a_1
   ·have g3 : a < s := by omega
    have g5 : ¬ c < e := by omega
    by_cases g2 : m < e
    ·have g4 : s < c := by omega
     have h1 : ¬ (s < m ∧ m < e) := by omega
     have h2 : (a < s ∧ s < c) := by omega
     have h3 : ¬ (c < e ∧ e < b) := by omega
     have hR1 : Rot s m e d d := by
      by_cases h4 : s = m
      ·subst h4; exact Rot.none_left _ _ _
      ·obtain rfl : m = e := by omega
       exact Rot.none_right _ _ _
     have HV_wr := HV
     have HC1 := Az.mk (HROT.out d hR1)
     have HQ1 : Az (PermIn a b d d) := ⟨permIn_refl _ _ _⟩
     have hn1 : d.size = d.size := rfl
     clear hR1
     go_wp2_with (first | (go_at_call_has 195 s; refine (HLEFT.out g3 g4 d wr HV_wr.out hn1 HC1.out).mono ?_; rintro x w2 ⟨rfl, d2, hQ2, hS2, hV2⟩; have HV_w2 := Az.mk hV2; have HQ2 := Az.mk hQ2; have HS2 := Az.mk hS2; have hn2 : d2.size = d.size := hQ2.1.trans hn1; clear hQ2 hS2 hV2))
     go_end0
     have HQ3 : Az (PermIn c b d2 d2) := ⟨permIn_refl _ _ _⟩
     have HS3 : Az (SortedIn tot c b d2) := ⟨SortedIn.out (Cutted.right HC1.out h3 hec he2) HQ2.out (.inr (Nat.le_refl _))⟩
     have hJ := Cutted.join HC1.out (by omega) (by omega) (by omega) HQ2.out HS2.out HQ3.out HS3.out
     exact ⟨rfl, d2, permIn_trans _ _ _ _ _ HQ1.out hJ.1, hJ.2, HV_w2.out⟩
    ·have g4 : ¬ s < c := by omega
     have h1 : ¬ (s < m ∧ m < e) := by omega
     have h2 : ¬ (a < s ∧ s < c) := by omega
     have h3 : ¬ (c < e ∧ e < b) := by omega
     have hR1 : Rot s m e d d := by
      by_cases h4 : s = m
      ·subst h4; exact Rot.none_left _ _ _
      ·obtain rfl : m = e := by omega
       exact Rot.none_right _ _ _
     have HV_wr := HV
     have HC1 := Az.mk (HROT.out d hR1)
     have HQ1 : Az (PermIn a b d d) := ⟨permIn_refl _ _ _⟩
     have hn1 : d.size = d.size := rfl
     clear hR1
     go_wp2
     go_end0
     have HQ2 : Az (PermIn a c d d) := ⟨permIn_refl _ _ _⟩; have HS2 := Az.mk (Cutted.left HC1.out h2 has hsc); have hn2 := hn1
     have HQ3 : Az (PermIn c b d d) := ⟨permIn_refl _ _ _⟩
     have HS3 := Az.mk (Cutted.right HC1.out h3 hec he2)
     have hJ := Cutted.join HC1.out (by omega) (by omega) (by omega) HQ2.out HS2.out HQ3.out HS3.out
     exact ⟨rfl, d, permIn_trans _ _ _ _ _ HQ1.out hJ.1, hJ.2, HV_wr.out⟩
end Go.Proofs.YtnohcnneflogjaaGreat.M.St
namespace Go.Proofs.YtnohcnneflogjaaGreat.M.St
open Go.Shelf Go.RowKit Go.Lib Go.Sort
variable {α : Type} [Inhabited α]
theorem sym_B {enc : α → List Value} {k : Nat} {w0 : World} {blk off : Nat} {d0 : Array α} (zE : ∀ w, (Go.sizeOf 149).run Tryz.prog w = .ok k w) (R : RowK enc k w0 blk off d0)
 (cf : α → α → Int) (tot : α → α → Bool) (hO : SWO tot) (g : Nat) (cb : Array Value) (eg : ∀ args w, (callFunc g args).run Tryz.prog w = .ok (.enter g args) w) (hcmp : CmpLays Tryz.prog g cb enc k cf blk off d0.size w0)
 (n cap : Nat) (hn : n = d0.size) (hsz : d0.size < 4611686018427387904) (d : Array α) (hs : d.size = d0.size) (f : Nat)
 (hIH : ∀ (a m b : Nat) (d' : Array α) (W : World), b - a ≤ f → SWK enc k w0 blk off d' W → d'.size = d0.size → a < m → m < b → b ≤ d'.size → SortedIn tot a m d' → SortedIn tot m b d' → Pre (ltOf cf) tot a m b d' →
  Calls Tryz.prog 195 #[.slice (some ⟨blk, off, none⟩) n cap, .int .i64 a, .int .i64 m, .int .i64 b, .func (.func g) #[] cb] W fun e w' => e = .returned (.tuple #[]) ∧ ∃ d2, PermIn a b d' d2 ∧ SortedIn tot a b d2 ∧ SWK enc k w0 blk off d2 w')
 (a m b : Nat) (W : World) (hf : b - a ≤ f + 1) (hW : SWK enc k w0 blk off d W) (ham : a < m) (hmb : m < b) (hb : b ≤ d.size)
 (sL : SortedIn tot a m d) (sR : SortedIn tot m b d) (hP : Pre (ltOf cf) tot a m b d) (hm1 : ¬ m = a + 1) (hb1 : ¬ b = m + 1) (hcase : ¬ (a + b) / 2 < m) :
 Calls Tryz.prog 195 #[.slice (some ⟨blk, off, none⟩) n cap, .int .i64 a, .int .i64 m, .int .i64 b, .func (.func g) #[] cb] W fun e w' => e = .returned (.tuple #[]) ∧ ∃ d', PermIn a b d d' ∧ SortedIn tot a b d' ∧ SWK enc k w0 blk off d' w' := by
 have IH := Az.mk hIH
 clear hIH
 have hnd : n = d.size := by omega
 have hsd : d.size < 4611686018427387904 := by omega
 clear hsz
 have aE := aggM
 have mixed : Tryz.prog.follows .mixedOrders = true := by kernel_rfl
 have u22 := run_underlying (P := Tryz.prog) Tryz.underlying146
 have HR := Az.mk R
 have HW := Az.mk hW
 have HS := Az.mk hs
 have HNN := Az.mk hnd
 have HSZ := Az.mk hsd
 have HCM := Az.mk hcmp
 have HSD := HS
 clear hW hs R hn hcmp hnd
 have hma : ((m : Int) - a == 1) = false := by rw [beq_eq_false_iff_ne]; omega
 have hmc : ((b : Int) - m == 1) = false := by rw [beq_eq_false_iff_ne]; omega
 obtain ⟨c, hc⟩ : ∃ c : Nat, (a + b) / 2 = c := ⟨_, rfl⟩
 have hcI : ((a : Int) + b) / 2 = (c : Int) := by omega
 have hc1 : a < c := by omega
 have hc2 : c < b := by omega
 have hc3 : 2 * c ≤ a + b := by omega
 have hc4 : a + b ≤ 2 * c + 1 := by omega
 have hcm : ¬ c < m := by omega
 have hs0 : a ≤ a := Nat.le_refl _
 have hsr : a ≤ m := by omega
 have hcms : c + m ≤ a + b := by omega
 have HS0 : Az (a = a ∨ c + m - a = b) := ⟨.inl rfl⟩
 have HR0 : Az (m = m ∨ m = c) := ⟨.inl rfl⟩
 clear hc hm1 hb1 hcase
 go_enter Tryz.func195, Tryz.ntmps195
 go_wp2
 go_loopw [20, 21, 23] (fun vs vr _ wr => ∃ (s r : Nat), vs = .int .i64 s ∧ vr = .int .i64 r ∧ a ≤ s ∧ s ≤ r ∧ r ≤ m ∧ Az (s = a ∨ ltOf cf d[c + m - s]! d[s - 1]! = false) ∧ Az (r = m ∨ ltOf cf d[c + m - 1 - r]! d[r]! = true) ∧ Az (SWK enc k w0 blk off d wr))
  (fun vs vr _ _ => (intOf vr).toNat - (intOf vs).toNat)
 case atStart => exact ⟨a, m, rfl, rfl, Nat.le_refl _, hsr, Nat.le_refl _, ⟨.inl rfl⟩, ⟨.inl rfl⟩, HW⟩
 case round =>
  obtain ⟨s, r, rfl, rfl, hss, hsr', hr, H1, H2, HV⟩ := hrel
  by_cases hlt : s < r
  ·obtain ⟨h, hh⟩ : ∃ h : Nat, (s + r) / 2 = h := ⟨_, rfl⟩
   have hhI : ((s : Int) + r) / 2 = (h : Int) := by omega
   have hh1 : s ≤ h := by omega
   have hh2 : h < r := by omega
   clear hh
   obtain ⟨pd, hpd⟩ : ∃ pd : Nat, c + m - 1 - h = pd := ⟨_, rfl⟩
   have hpdI : (c : Int) + m - 1 - h = (pd : Int) := by omega
   have hhn : (h : Int) < (n : Int) := by have := HNN.out; omega
   have hpn : (pd : Int) < (n : Int) := by have := HNN.out; omega
   have hpd2 : pd < d.size := by omega
   have hwp : IntKind.i64.wrap (pd : Int) = (pd : Int) := by rw [IntKind.wrap_i64]; omega
   obtain ⟨xp, hxp⟩ : ∃ x, d[pd]! = x := ⟨_, rfl⟩
   obtain ⟨xh, hxh⟩ : ∃ x, d[h]! = x := ⟨_, rfl⟩
   have lj := fun n' os' => HV.out.ld HR.out HSD.out Tryz.prog (pd) (by omega) n' os'
   have lp := fun n' os' => HV.out.ld HR.out HSD.out Tryz.prog (h) (by omega) n' os'
   rw [hxp] at lj
   rw [hxh] at lp
   have hcg := fun n' os' => HV.out.cmp HCM.out HSD.out xp xh n' os'
   by_cases hlv : cf xp xh < 0
   ·have HLV : Az (ltOf cf d[c + m - 1 - h]! d[h]! = true) := ⟨by rw [hpd, hxp, hxh]; exact dTz hlv⟩
    clear hpd
    go_wp2_with fail
    go_quiet_grown (first | (go_at_fn g; refine Calls.grown_of (hcg _ _)))
    go_wp2
    go_roundw
    case rel => exact ⟨s, h, rfl, rfl, hss, hh1, by omega, H1, ⟨.inr HLV.out⟩, ⟨HV.out.grown _ _⟩⟩
    case measure => simp [intOf]; omega
   ·have HLV : Az (ltOf cf d[c + m - 1 - h]! d[h]! = false) := ⟨by rw [hpd, hxp, hxh]; exact dFz hlv⟩
    have hlv2 : 0 ≤ cf xp xh := by omega
    have hlv3 : decide (cf xp xh < 0) = false := dFz hlv
    clear hpd
    go_wp2_with fail
    go_quiet_grown (first | (go_at_fn g; refine Calls.grown_of (hcg _ _)))
    go_wp2
    go_roundw
    case rel => exact ⟨h + 1, r, by go_num, rfl, by omega, by omega, hr, ⟨.inr (by rw [show c + m - (h + 1) = c + m - 1 - h by omega, show h + 1 - 1 = h by omega]; exact HLV.out)⟩, H2, ⟨HV.out.grown _ _⟩⟩
    case measure => simp [intOf]; omega
  ·obtain rfl : s = r := by omega
   obtain ⟨e, he⟩ : ∃ e : Nat, c + m - s = e := ⟨_, rfl⟩
   have heI : (c : Int) + m - s = (e : Int) := by omega
   have he1 : m ≤ e := by omega
   have he2 : e ≤ b := by omega
   have hse : s + (e - m) = c := by omega
   have hec : c ≤ e := by omega
   have hsc : s ≤ c := by omega
   have hsm : s ≤ m := by omega
   have has : a ≤ s := by omega
   have hCut : Cut tot a s m e b d := by
    refine ⟨has, hsm, he1, he2, ?_, ?_⟩
    ·rcases H1.out with h | h
     ·rcases HS0.out with h' | h'
      ·exact .inl (by omega)
      ·refine .inr (.inl ?_); rw [← he, h]; exact h'
     ·by_cases h3 : s = a
      ·exact .inl h3
      ·by_cases h4 : e = b
       ·exact .inr (.inl h4)
       ·refine .inr (.inr ?_)
        rw [he] at h
        rw [← hP (s - 1) e (by omega) (by omega) he1 (by omega)]; exact h
    ·by_cases h3 : s = m
     ·exact .inl h3
     ·by_cases h4 : e = m
      ·exact .inr (.inl h4)
      ·rcases H2.out with h | h
       ·exfalso
        rcases HR0.out with h' | h' <;> omega
       ·refine .inr (.inr ?_)
        rw [show c + m - 1 - s = e - 1 by omega] at h
        rw [← hP s (e - 1) (by omega) (by omega) (by omega) (by omega)]; exact h
   have HCUT := Az.mk hCut
   have HSE := Az.mk hse
   clear hCut he hse
   have HROT : Az (∀ d1, Rot s m e d d1 → Cutted (ltOf cf) tot a s c e b d1) := ⟨fun d1 h => by have h5 := Cut.rot hO HCUT.out sL sR hP h; rw [HSE.out] at h5; exact h5⟩
   have HLEFT : Az (a < s → s < c → ∀ (d1 : Array α) (w1 : World), SWK enc k w0 blk off d1 w1 → d1.size = d.size → Cutted (ltOf cf) tot a s c e b d1 → Calls Tryz.prog 195 #[.slice (some ⟨blk, off, none⟩) n cap, .int .i64 a, .int .i64 s, .int .i64 c, .func (.func g) #[] cb] w1 fun x w' => x = .returned (.tuple #[]) ∧ ∃ d', PermIn a c d1 d' ∧ SortedIn tot a c d' ∧ SWK enc k w0 blk off d' w') := ⟨fun g3 g4 d1 w1 hV hn hC => IH.out a s c d1 w1 (by omega) hV (hn.trans HS.out) g3 g4 (by omega) hC.sL1 hC.sR1 hC.pL⟩
   have HRIGHT : Az (c < e → e < b → ∀ (d1 d2 : Array α) (w2 : World), SWK enc k w0 blk off d2 w2 → d2.size = d.size → Cutted (ltOf cf) tot a s c e b d1 → PermIn a c d1 d2 → Calls Tryz.prog 195 #[.slice (some ⟨blk, off, none⟩) n cap, .int .i64 c, .int .i64 e, .int .i64 b, .func (.func g) #[] cb] w2 fun x w' => x = .returned (.tuple #[]) ∧ ∃ d', PermIn c b d2 d' ∧ SortedIn tot c b d' ∧ SWK enc k w0 blk off d' w') := ⟨fun g5 g6 d1 d2 w2 hV hn hC hQ => IH.out c e b d2 w2 (by omega) hV (hn.trans HS.out) g5 g6 (by omega) (Cutted.keep hC hQ hec).1 (Cutted.keep hC hQ hec).2.1 (Cutted.keep hC hQ hec).2.2⟩
   by_cases g1 : s < m
   ·by_cases g2 : m < e
    ·have g4 : s < c := by omega
     have g5 : c < e := by omega
     by_cases g3 : a < s
     ·by_cases g6 : e < b
      ·skip
       have h1 : (s < m ∧ m < e) := by omega
       have h2 : (a < s ∧ s < c) := by omega
       have h3 : (c < e ∧ e < b) := by omega
       have hk1 := rot_calls zE HR.out s m e n cap d wr (.func (.func g) #[] cb) HV.out HS.out HNN.out h1.1 h1.2 (by omega) HSZ.out
       have HV_wr := HV
       go_wp2_with (first | (go_at_call 218; refine hk1.mono ?_; rintro x w1 ⟨rfl, d1, hR1, hQ1, hV1⟩; have HV_w1 := Az.mk hV1; have HC1 := Az.mk (HROT.out d1 hR1); have HQ1 := Az.mk (permIn_mono _ _ s e a b has he2 hb hQ1); have hn1 : d1.size = d.size := hR1.1; clear hR1 hQ1 hV1) | (go_at_call_has 195 s; refine (HLEFT.out g3 g4 d1 w1 HV_w1.out hn1 HC1.out).mono ?_; rintro x w2 ⟨rfl, d2, hQ2, hS2, hV2⟩; have HV_w2 := Az.mk hV2; have HQ2 := Az.mk hQ2; have HS2 := Az.mk hS2; have hn2 : d2.size = d.size := hQ2.1.trans hn1; clear hQ2 hS2 hV2) | (go_at_call_has 195 e; refine (HRIGHT.out g5 g6 d1 d2 w2 HV_w2.out hn2 HC1.out HQ2.out).mono ?_; rintro x w3 ⟨rfl, d3, hQ3, hS3, hV3⟩; have HV_w3 := Az.mk hV3; have HQ3 := Az.mk hQ3; have HS3 := Az.mk hS3; clear hQ3 hS3 hV3))
       go_end0
       have hJ := Cutted.join HC1.out (by omega) (by omega) (by omega) HQ2.out HS2.out HQ3.out HS3.out
       exact ⟨rfl, d3, permIn_trans _ _ _ _ _ HQ1.out hJ.1, hJ.2, HV_w3.out⟩
      ·skip
       have h1 : (s < m ∧ m < e) := by omega
       have h2 : (a < s ∧ s < c) := by omega
       have h3 : ¬ (c < e ∧ e < b) := by omega
       have hk1 := rot_calls zE HR.out s m e n cap d wr (.func (.func g) #[] cb) HV.out HS.out HNN.out h1.1 h1.2 (by omega) HSZ.out
       have HV_wr := HV
       go_wp2_with (first | (go_at_call 218; refine hk1.mono ?_; rintro x w1 ⟨rfl, d1, hR1, hQ1, hV1⟩; have HV_w1 := Az.mk hV1; have HC1 := Az.mk (HROT.out d1 hR1); have HQ1 := Az.mk (permIn_mono _ _ s e a b has he2 hb hQ1); have hn1 : d1.size = d.size := hR1.1; clear hR1 hQ1 hV1) | (go_at_call_has 195 s; refine (HLEFT.out g3 g4 d1 w1 HV_w1.out hn1 HC1.out).mono ?_; rintro x w2 ⟨rfl, d2, hQ2, hS2, hV2⟩; have HV_w2 := Az.mk hV2; have HQ2 := Az.mk hQ2; have HS2 := Az.mk hS2; have hn2 : d2.size = d.size := hQ2.1.trans hn1; clear hQ2 hS2 hV2))
       go_end0
       have HQ3 : Az (PermIn c b d2 d2) := ⟨permIn_refl _ _ _⟩
       have HS3 : Az (SortedIn tot c b d2) := ⟨SortedIn.out (Cutted.right HC1.out h3 hec he2) HQ2.out (.inr (Nat.le_refl _))⟩
       have hJ := Cutted.join HC1.out (by omega) (by omega) (by omega) HQ2.out HS2.out HQ3.out HS3.out
       exact ⟨rfl, d2, permIn_trans _ _ _ _ _ HQ1.out hJ.1, hJ.2, HV_w2.out⟩
     ·by_cases g6 : e < b
      ·skip
       have h1 : (s < m ∧ m < e) := by omega
       have h2 : ¬ (a < s ∧ s < c) := by omega
       have h3 : (c < e ∧ e < b) := by omega
       have hk1 := rot_calls zE HR.out s m e n cap d wr (.func (.func g) #[] cb) HV.out HS.out HNN.out h1.1 h1.2 (by omega) HSZ.out
       have HV_wr := HV
       go_wp2_with (first | (go_at_call 218; refine hk1.mono ?_; rintro x w1 ⟨rfl, d1, hR1, hQ1, hV1⟩; have HV_w1 := Az.mk hV1; have HC1 := Az.mk (HROT.out d1 hR1); have HQ1 := Az.mk (permIn_mono _ _ s e a b has he2 hb hQ1); have hn1 : d1.size = d.size := hR1.1; clear hR1 hQ1 hV1) | (go_at_call_has 195 e; have HQ2 : Az (PermIn a c d1 d1) := ⟨permIn_refl _ _ _⟩; have HS2 := Az.mk (Cutted.left HC1.out h2 has hsc); have hn2 := hn1; refine (HRIGHT.out g5 g6 d1 d1 w1 HV_w1.out hn2 HC1.out HQ2.out).mono ?_; rintro x w3 ⟨rfl, d3, hQ3, hS3, hV3⟩; have HV_w3 := Az.mk hV3; have HQ3 := Az.mk hQ3; have HS3 := Az.mk hS3; clear hQ3 hS3 hV3))
       go_end0
       have hJ := Cutted.join HC1.out (by omega) (by omega) (by omega) HQ2.out HS2.out HQ3.out HS3.out
       exact ⟨rfl, d3, permIn_trans _ _ _ _ _ HQ1.out hJ.1, hJ.2, HV_w3.out⟩
      ·skip
       have h1 : (s < m ∧ m < e) := by omega
       have h2 : ¬ (a < s ∧ s < c) := by omega
       have h3 : ¬ (c < e ∧ e < b) := by omega
       have hk1 := rot_calls zE HR.out s m e n cap d wr (.func (.func g) #[] cb) HV.out HS.out HNN.out h1.1 h1.2 (by omega) HSZ.out
       have HV_wr := HV
       go_wp2_with (first | (go_at_call 218; refine hk1.mono ?_; rintro x w1 ⟨rfl, d1, hR1, hQ1, hV1⟩; have HV_w1 := Az.mk hV1; have HC1 := Az.mk (HROT.out d1 hR1); have HQ1 := Az.mk (permIn_mono _ _ s e a b has he2 hb hQ1); have hn1 : d1.size = d.size := hR1.1; clear hR1 hQ1 hV1))
       go_end0
       have HQ2 : Az (PermIn a c d1 d1) := ⟨permIn_refl _ _ _⟩; have HS2 := Az.mk (Cutted.left HC1.out h2 has hsc); have hn2 := hn1
       have HQ3 : Az (PermIn c b d1 d1) := ⟨permIn_refl _ _ _⟩
       have HS3 := Az.mk (Cutted.right HC1.out h3 hec he2)
       have hJ := Cutted.join HC1.out (by omega) (by omega) (by omega) HQ2.out HS2.out HQ3.out HS3.out
       exact ⟨rfl, d1, permIn_trans _ _ _ _ _ HQ1.out hJ.1, hJ.2, HV_w1.out⟩
    ·have g4 : ¬ s < c := by omega
     have g5 : c < e := by omega
     have g6 : e < b := by omega
     by_cases g3 : a < s
     ·skip
      have h1 : ¬ (s < m ∧ m < e) := by omega
      have h2 : ¬ (a < s ∧ s < c) := by omega
      have h3 : (c < e ∧ e < b) := by omega
      have hR1 : Rot s m e d d := by
       by_cases h4 : s = m
       ·subst h4; exact Rot.none_left _ _ _
       ·obtain rfl : m = e := by omega
        exact Rot.none_right _ _ _
      have HV_wr := HV
      have HC1 := Az.mk (HROT.out d hR1)
      have HQ1 : Az (PermIn a b d d) := ⟨permIn_refl _ _ _⟩
      have hn1 : d.size = d.size := rfl
      clear hR1
      go_wp2_with (first | (go_at_call_has 195 e; have HQ2 : Az (PermIn a c d d) := ⟨permIn_refl _ _ _⟩; have HS2 := Az.mk (Cutted.left HC1.out h2 has hsc); have hn2 := hn1; refine (HRIGHT.out g5 g6 d d wr HV_wr.out hn2 HC1.out HQ2.out).mono ?_; rintro x w3 ⟨rfl, d3, hQ3, hS3, hV3⟩; have HV_w3 := Az.mk hV3; have HQ3 := Az.mk hQ3; have HS3 := Az.mk hS3; clear hQ3 hS3 hV3))
      go_end0
      have hJ := Cutted.join HC1.out (by omega) (by omega) (by omega) HQ2.out HS2.out HQ3.out HS3.out
      exact ⟨rfl, d3, permIn_trans _ _ _ _ _ HQ1.out hJ.1, hJ.2, HV_w3.out⟩
     ·skip
      have h1 : ¬ (s < m ∧ m < e) := by omega
      have h2 : ¬ (a < s ∧ s < c) := by omega
      have h3 : (c < e ∧ e < b) := by omega
      have hR1 : Rot s m e d d := by
       by_cases h4 : s = m
       ·subst h4; exact Rot.none_left _ _ _
       ·obtain rfl : m = e := by omega
        exact Rot.none_right _ _ _
      have HV_wr := HV
      have HC1 := Az.mk (HROT.out d hR1)
      have HQ1 : Az (PermIn a b d d) := ⟨permIn_refl _ _ _⟩
      have hn1 : d.size = d.size := rfl
      clear hR1
      go_wp2_with (first | (go_at_call_has 195 e; have HQ2 : Az (PermIn a c d d) := ⟨permIn_refl _ _ _⟩; have HS2 := Az.mk (Cutted.left HC1.out h2 has hsc); have hn2 := hn1; refine (HRIGHT.out g5 g6 d d wr HV_wr.out hn2 HC1.out HQ2.out).mono ?_; rintro x w3 ⟨rfl, d3, hQ3, hS3, hV3⟩; have HV_w3 := Az.mk hV3; have HQ3 := Az.mk hQ3; have HS3 := Az.mk hS3; clear hQ3 hS3 hV3))
      go_end0
      have hJ := Cutted.join HC1.out (by omega) (by omega) (by omega) HQ2.out HS2.out HQ3.out HS3.out
      exact ⟨rfl, d3, permIn_trans _ _ _ _ _ HQ1.out hJ.1, hJ.2, HV_w3.out⟩
   ·have g3 : a < s := by omega
    have g5 : ¬ c < e := by omega
    by_cases g2 : m < e
    ·have g4 : s < c := by omega
     have h1 : ¬ (s < m ∧ m < e) := by omega
     have h2 : (a < s ∧ s < c) := by omega
     have h3 : ¬ (c < e ∧ e < b) := by omega
     have hR1 : Rot s m e d d := by
      by_cases h4 : s = m
      ·subst h4; exact Rot.none_left _ _ _
      ·obtain rfl : m = e := by omega
       exact Rot.none_right _ _ _
     have HV_wr := HV
     have HC1 := Az.mk (HROT.out d hR1)
     have HQ1 : Az (PermIn a b d d) := ⟨permIn_refl _ _ _⟩
     have hn1 : d.size = d.size := rfl
     clear hR1
     go_wp2_with (first | (go_at_call_has 195 s; refine (HLEFT.out g3 g4 d wr HV_wr.out hn1 HC1.out).mono ?_; rintro x w2 ⟨rfl, d2, hQ2, hS2, hV2⟩; have HV_w2 := Az.mk hV2; have HQ2 := Az.mk hQ2; have HS2 := Az.mk hS2; have hn2 : d2.size = d.size := hQ2.1.trans hn1; clear hQ2 hS2 hV2))
     go_end0
     have HQ3 : Az (PermIn c b d2 d2) := ⟨permIn_refl _ _ _⟩
     have HS3 : Az (SortedIn tot c b d2) := ⟨SortedIn.out (Cutted.right HC1.out h3 hec he2) HQ2.out (.inr (Nat.le_refl _))⟩
     have hJ := Cutted.join HC1.out (by omega) (by omega) (by omega) HQ2.out HS2.out HQ3.out HS3.out
     exact ⟨rfl, d2, permIn_trans _ _ _ _ _ HQ1.out hJ.1, hJ.2, HV_w2.out⟩
    ·have g4 : ¬ s < c := by omega
     have h1 : ¬ (s < m ∧ m < e) := by omega
     have h2 : ¬ (a < s ∧ s < c) := by omega
     have h3 : ¬ (c < e ∧ e < b) := by omega
     have hR1 : Rot s m e d d := by
      by_cases h4 : s = m
      ·subst h4; exact Rot.none_left _ _ _
      ·obtain rfl : m = e := by omega
       exact Rot.none_right _ _ _
     have HV_wr := HV
     have HC1 := Az.mk (HROT.out d hR1)
     have HQ1 : Az (PermIn a b d d) := ⟨permIn_refl _ _ _⟩
     have hn1 : d.size = d.size := rfl
     clear hR1
     go_wp2
     go_end0
     have HQ2 : Az (PermIn a c d d) := ⟨permIn_refl _ _ _⟩; have HS2 := Az.mk (Cutted.left HC1.out h2 has hsc); have hn2 := hn1
     have HQ3 : Az (PermIn c b d d) := ⟨permIn_refl _ _ _⟩
     have HS3 := Az.mk (Cutted.right HC1.out h3 hec he2)
     have hJ := Cutted.join HC1.out (by omega) (by omega) (by omega) HQ2.out HS2.out HQ3.out HS3.out
     exact ⟨rfl, d, permIn_trans _ _ _ _ _ HQ1.out hJ.1, hJ.2, HV_wr.out⟩
end Go.Proofs.YtnohcnneflogjaaGreat.M.St
namespace Go.Proofs.YtnohcnneflogjaaGreat.M.St
open Go.Shelf Go.RowKit Go.Lib Go.Sort
variable {α : Type} [Inhabited α]
theorem sym_calls {enc : α → List Value} {k : Nat} {w0 : World} {blk off : Nat} {d0 : Array α} (zE : ∀ w, (Go.sizeOf 149).run Tryz.prog w = .ok k w) (R : RowK enc k w0 blk off d0)
 (cf : α → α → Int) (tot : α → α → Bool) (hO : SWO tot) (g : Nat) (cb : Array Value) (eg : ∀ args w, (callFunc g args).run Tryz.prog w = .ok (.enter g args) w) (hcmp : CmpLays Tryz.prog g cb enc k cf blk off d0.size w0)
 (n cap : Nat) (hn : n = d0.size) (hsz : d0.size < 4611686018427387904) : ∀ (f a m b : Nat) (d : Array α) (W : World), b - a ≤ f → SWK enc k w0 blk off d W → d.size = d0.size → a < m → m < b → b ≤ d.size →
  SortedIn tot a m d → SortedIn tot m b d → Pre (ltOf cf) tot a m b d →
 Calls Tryz.prog 195 #[.slice (some ⟨blk, off, none⟩) n cap, .int .i64 a, .int .i64 m, .int .i64 b, .func (.func g) #[] cb] W fun e w' => e = .returned (.tuple #[]) ∧ ∃ d', PermIn a b d d' ∧ SortedIn tot a b d' ∧ SWK enc k w0 blk off d' w'
 | 0, a, m, b, d, W, hf, _, _, _, _, _, _, _, _ => by omega
 | f + 1, a, m, b, d, W, hf, hW, hs, ham, hmb, hb, sL, sR, hP => by
   by_cases hm1 : m = a + 1
   ·exact sym_left zE R cf tot hO g cb eg hcmp a m b n cap d W hW hs (hn.trans hs.symm) hm1 hmb hb (by omega) sR hP
   by_cases hb1 : b = m + 1
   ·exact sym_right zE R cf tot hO g cb eg hcmp a m b n cap d W hW hs (hn.trans hs.symm) (by omega) hb1 hb (by omega) sL hP
   by_cases hc : (a + b) / 2 < m
   ·exact sym_A zE R cf tot hO g cb eg hcmp n cap hn hsz d hs f (sym_calls zE R cf tot hO g cb eg hcmp n cap hn hsz f) a m b W hf hW ham hmb hb sL sR hP hm1 hb1 hc
   ·exact sym_B zE R cf tot hO g cb eg hcmp n cap hn hsz d hs f (sym_calls zE R cf tot hO g cb eg hcmp n cap hn hsz f) a m b W hf hW ham hmb hb sL sR hP hm1 hb1 hc
theorem stable_calls {enc : α → List Value} {k : Nat} {w0 : World} {blk off : Nat} {d0 : Array α} (zE : ∀ w, (Go.sizeOf 149).run Tryz.prog w = .ok k w) (R : RowK enc k w0 blk off d0)
 (cf : α → α → Int) (tot : α → α → Bool) (hO : SWO tot) (g : Nat) (cb : Array Value) (eg : ∀ args w, (callFunc g args).run Tryz.prog w = .ok (.enter g args) w) (hcmp : CmpLays Tryz.prog g cb enc k cf blk off d0.size w0)
 (n cap : Nat) (d : Array α) (W : World) (hW : SWK enc k w0 blk off d W) (hs : d.size = d0.size) (hn : d.size = n) (hsz : n < 1152921504606846976) (hst : Stab (ltOf cf) tot 0 n d) :
 Calls Tryz.prog 166 #[.slice (some ⟨blk, off, none⟩) n cap, .int .i64 n, .func (.func g) #[] cb] W fun e w' => e = .returned (.tuple #[]) ∧ ∃ d', PermIn 0 n d d' ∧ SortedIn tot 0 n d' ∧ SWK enc k w0 blk off d' w' := by
 have hn0 : n = d0.size := hn.symm.trans hs
 have HINS : Az (∀ (dk : Array α) (wr : World) (p q : Nat), SWK enc k w0 blk off dk wr → dk.size = n → p ≤ q → q ≤ n → Stab (ltOf cf) tot p q dk →
  Calls Tryz.prog 194 #[.slice (some ⟨blk, off, none⟩) n cap, .int .i64 p, .int .i64 q, .func (.func g) #[] cb] wr fun e w' => e = .returned (.tuple #[]) ∧ ∃ d', PermIn p q dk d' ∧ SortedIn tot p q d' ∧ SWK enc k w0 blk off d' w') :=
  ⟨fun dk wr p q hV hk hpq hqn hS => by
   refine (ins_calls zE R cf g cb eg hcmp p q n cap dk wr hV (hk.trans hn0) hk.symm hpq (by omega) (by omega)).mono ?_
   rintro e w' ⟨rfl, hV2⟩
   have h2 := insertion_tot hO hpq (by omega) hS
   exact ⟨rfl, _, h2.1, h2.2, hV2⟩⟩
 have HSM : Az (∀ (dk : Array α) (wr : World) (a m b : Nat), SWK enc k w0 blk off dk wr → dk.size = n → a < m → m < b → b ≤ n → SortedIn tot a m dk → SortedIn tot m b dk → Pre (ltOf cf) tot a m b dk →
  Calls Tryz.prog 195 #[.slice (some ⟨blk, off, none⟩) n cap, .int .i64 a, .int .i64 m, .int .i64 b, .func (.func g) #[] cb] wr fun e w' => e = .returned (.tuple #[]) ∧ ∃ d', PermIn a b dk d' ∧ SortedIn tot a b d' ∧ SWK enc k w0 blk off d' w') :=
  ⟨fun dk wr a m b hV hk ham hmb hbn s1 s2 p1 => sym_calls zE R cf tot hO g cb eg hcmp n cap hn0 (by omega) (b - a) a m b dk wr (Nat.le_refl _) hV (hk.trans hn0) ham hmb (by omega) s1 s2 p1⟩
 have HST : Az (Stab (ltOf cf) tot 0 n d) := ⟨hst⟩
 have HW := Az.mk hW
 clear hst hcmp R hW hs hn0 zE
 go_enter Tryz.func166, Tryz.ntmps166
 go_wp2
 go_loopw [7, 8] (fun v5 v6 wr => ∃ (q : Nat) (dk : Array α), v5 = .int .i64 ((q : Int) * 20) ∧ v6 = .int .i64 ((q : Int) * 20 + 20) ∧ q * 20 ≤ n ∧ dk.size = n ∧ Az (SWK enc k w0 blk off dk wr) ∧ Az (J1 (ltOf cf) tot n q d dk))
  (fun v5 _ _ => n + 20 - (intOf v5).toNat)
 case atStart => exact ⟨0, d, rfl, rfl, by omega, hn, HW, ⟨J1.start HST.out⟩⟩
 case round =>
  obtain ⟨q, dk, rfl, rfl, hk, hdk, HV, HJ⟩ := hrel
  by_cases hb : q * 20 + 20 ≤ n
  ·have hcall := HINS.out dk wr (q * 20) (q * 20 + 20) HV.out hdk (by omega) hb (fun i j h1 h2 h3 => HJ.out.stab i j h1 h2 (by omega))
   rw [show ((q * 20 : Nat) : Int) = (q : Int) * 20 by omega, show ((q * 20 + 20 : Nat) : Int) = (q : Int) * 20 + 20 by omega] at hcall
   go_wp2_with (go_at_call 194; refine hcall.mono ?_; rintro e w1 ⟨rfl, d1, hp1, hs1, hV1⟩; have HV1 := Az.mk hV1; have HP1 := Az.mk hp1; have HS1 := Az.mk hs1; clear hV1 hp1 hs1)
   go_roundw
   case rel => exact ⟨q + 1, d1, by congr 1; omega, by congr 1; omega, by omega, HP1.out.1.trans hdk, HV1, ⟨HJ.out.step hdk hb HP1.out HS1.out⟩⟩
   case measure => simp [intOf]; omega
  ·have hcall := HINS.out dk wr (q * 20) n HV.out hdk (by omega) (Nat.le_refl _) HJ.out.stab
   rw [show ((q * 20 : Nat) : Int) = (q : Int) * 20 by omega] at hcall
   go_wp2_with (go_at_call 194; refine hcall.mono ?_; rintro e w1 ⟨rfl, d1, hp1, hs1, hV1⟩; have HV1 := Az.mk hV1; have HJ1 := Az.mk (HJ.out.last hdk hk (by omega) hp1 hs1); have hd1 : d1.size = n := hp1.1.trans hdk; clear hV1 hp1 hs1)
   clear hcall HV HJ hb hk
   go_loopw [6] (fun v4 wr => ∃ (s : Nat) (dk : Array α), v4 = .int .i64 s ∧ 20 ≤ s ∧ s ≤ 2 * n + 20 ∧ dk.size = n ∧ Az (SWK enc k w0 blk off dk wr) ∧ Az (J2 (ltOf cf) tot n s 0 d dk))
    (fun v4 _ => n - (intOf v4).toNat)
   case atStart => exact ⟨20, d1, rfl, Nat.le_refl _, by omega, hd1, HV1, HJ1⟩
   case round =>
    obtain ⟨s, ds, rfl, hs20, hsn2, hds, HV, HJ⟩ := hrel
    clear HV1 HJ1 hd1
    by_cases hsn : s < n
    ·go_wp2
     go_loopw [7, 8] (fun v5 v6 wr => ∃ (a q : Nat) (dk : Array α), v5 = .int .i64 a ∧ v6 = .int .i64 ((a : Int) + 2 * s) ∧ a ≤ n ∧ dk.size = n ∧ Az (a = q * (2 * s)) ∧ Az (SWK enc k w0 blk off dk wr) ∧ Az (J2 (ltOf cf) tot n s q d dk))
      (fun v5 _ _ => n + 1 - (intOf v5).toNat)
     case atStart => exact ⟨0, 0, ds, by rfl, by congr 1; omega, by omega, hds, ⟨by simp⟩, HV, HJ⟩
     case round =>
      obtain ⟨a, q, dk, rfl, rfl, han, hdk, HA, HV2, HJ2⟩ := hrel
      clear HV HJ
      by_cases hb : a + 2 * s ≤ n
      ·have hcall := HSM.out dk _ a (a + s) (a + 2 * s) HV2.out hdk (by omega) (by omega) hb (by rw [HA.out]; exact HJ2.out.left (by rw [← HA.out]; omega)) (by rw [HA.out]; exact HJ2.out.right (by rw [← HA.out]; omega)) (by rw [HA.out]; exact HJ2.out.cut (by rw [← HA.out]; omega))
       rw [show ((a + s : Nat) : Int) = (a : Int) + s by omega, show ((a + 2 * s : Nat) : Int) = (a : Int) + 2 * s by omega] at hcall
       go_wp2_with (go_at_call 195; refine hcall.mono ?_; rintro e w2 ⟨rfl, d2, hp2, hs2, hV2⟩; have HV2 := Az.mk hV2; have HP2 := Az.mk hp2; have HS2 := Az.mk hs2; clear hV2 hp2 hs2)
       go_roundw
       case rel => exact ⟨a + 2 * s, q + 1, d2, by first | rfl | (congr 1; omega), by first | rfl | (congr 1; omega), by omega, HP2.out.1.trans hdk, ⟨by rw [Nat.add_mul, ← HA.out]; omega⟩, HV2, ⟨by
        have h1 := HP2.out
        have h2 := HS2.out
        rw [HA.out] at h1 h2
        exact HJ2.out.step hdk (by rw [← HA.out]; omega) h1 h2⟩⟩
       case measure => simp [intOf]; omega
      ·by_cases hm : a + s < n
       ·have hcall := HSM.out dk _ a (a + s) n HV2.out hdk (by omega) hm (Nat.le_refl _) (by rw [HA.out]; exact HJ2.out.left (by rw [← HA.out]; omega)) (by rw [HA.out]; exact HJ2.out.right (by rw [← HA.out]; omega)) (by rw [HA.out]; exact HJ2.out.cut (Nat.le_refl _))
        rw [show ((a + s : Nat) : Int) = (a : Int) + s by omega] at hcall
        go_wp2_with (go_at_call 195; refine hcall.mono ?_; rintro e w2 ⟨rfl, d2, hp2, hs2, hV2⟩; have HV2 := Az.mk hV2; have HP2 := Az.mk hp2; have HS2 := Az.mk hs2; clear hV2 hp2 hs2)
        go_roundw
        case rel => exact ⟨2 * s, d2, by congr 1; omega, by omega, by omega, HP2.out.1.trans hdk, HV2, ⟨by
         have h1 := HP2.out
         have h2 := HS2.out
         rw [HA.out] at h1 h2
         exact HJ2.out.fin hdk (by rw [← HA.out]; omega) (by rw [← HA.out]; omega) h1 h2⟩⟩
        case measure => simp [intOf]; omega
       ·go_wp2
        go_roundw
        case rel => exact ⟨2 * s, dk, by congr 1; omega, by omega, by omega, hdk, HV2, ⟨HJ2.out.odd hdk (by rw [← HA.out]; omega) (by rw [← HA.out]; omega) (by omega)⟩⟩
        case measure => simp [intOf]; omega
    ·go_wp2
     go_end0
     exact ⟨rfl, ds, HJ.out.perm, HJ.out.out (by omega), HV.out⟩
theorem sortStable_calls {enc : α → List Value} {k : Nat} {w0 : World} {blk off : Nat} {d0 : Array α} (zE : ∀ w, (Go.sizeOf 149).run Tryz.prog w = .ok k w) (R : RowK enc k w0 blk off d0)
 (cf : α → α → Int) (tot : α → α → Bool) (hO : SWO tot) (g : Nat) (cb : Array Value) (eg : ∀ args w, (callFunc g args).run Tryz.prog w = .ok (.enter g args) w) (hcmp : CmpLays Tryz.prog g cb enc k cf blk off d0.size w0)
 (n cap : Nat) (d : Array α) (W : World) (hW : SWK enc k w0 blk off d W) (hs : d.size = d0.size) (hn : d.size = n) (hsz : n < 1152921504606846976) (hst : Stab (ltOf cf) tot 0 n d) :
 Calls Tryz.prog 129 #[.slice (some ⟨blk, off, none⟩) n cap, .func (.func g) #[] cb] W fun e w' => e = .returned (.tuple #[]) ∧ ∃ d', PermIn 0 n d d' ∧ SortedIn tot 0 n d' ∧ SWK enc k w0 blk off d' w' := by
 have HC := Az.mk (stable_calls zE R cf tot hO g cb eg hcmp n cap d W hW hs hn hsz hst)
 clear zE R hcmp hW hs hn hst
 go_enter Tryz.func129, Tryz.ntmps129
 go_wp2_with (go_at_call 166; refine HC.out.mono ?_; rintro e w1 ⟨rfl, d1, hp1, hs1, hV1⟩)
 go_end0
 exact ⟨rfl, d1, hp1, hs1, hV1⟩
end Go.Proofs.YtnohcnneflogjaaGreat.M.St
namespace Go.Proofs.YtnohcnneflogjaaGreat.M.St
open Go.Shelf Go.RowKit Go.Lib Go.Sort
abbrev MarkP := Nat × Int × Int
def encM (x : MarkP) : List Value := [.int .i32 x.2.1, .int .i64 x.2.2]
def cfM (x y : MarkP) : Int := wrap64 (x.2.2 - y.2.2)
def totM (x y : MarkP) : Bool := decide (x.2.2 < y.2.2 ∨ (x.2.2 = y.2.2 ∧ x.1 < y.1))
theorem totM_swo : SWO totM := by
 refine ⟨fun x => by simp [totM], fun x y z h1 h2 => ?_, fun x y z h1 h2 => ?_⟩ <;> (simp only [totM, decide_eq_true_eq, decide_eq_false_iff_not] at *; omega)
def marksC (L : List (Int × Int)) : List Value := L.flatMap (fun m => [.int .i32 m.1, .int .i64 m.2])
def insM (a : Int × Int) : List (Int × Int) → List (Int × Int)
 | [] => [a]
 | b :: t => if a.2 ≤ b.2 then a :: b :: t else b :: insM a t
def ordM : List (Int × Int) → List (Int × Int)
 | [] => []
 | a :: t => insM a (ordM t)
def label : Nat → List (Int × Int) → List MarkP
 | _, [] => []
 | i, m :: t => (i, m) :: label (i + 1) t
def leM (x y : MarkP) : Prop := x.2.2 < y.2.2 ∨ (x.2.2 = y.2.2 ∧ x.1 ≤ y.1)
instance (x y : MarkP) : Decidable (leM x y) := by unfold leM; infer_instance
def insL (a : MarkP) : List MarkP → List MarkP
 | [] => [a]
 | b :: t => if leM a b then a :: b :: t else b :: insL a t
def ordL : List MarkP → List MarkP
 | [] => []
 | a :: t => insL a (ordL t)
theorem insL_perm (a : MarkP) : ∀ l, (insL a l).Perm (a :: l)
 | [] => List.Perm.refl _
 | b :: t => by
   unfold insL
   split
   ·exact List.Perm.refl _
   ·exact ((insL_perm a t).cons b).trans (List.Perm.swap a b t)
theorem ordL_perm : ∀ l, (ordL l).Perm l
 | [] => List.Perm.refl _
 | a :: t => (insL_perm a (ordL t)).trans ((ordL_perm t).cons a)
theorem leM_trans {a b c : MarkP} (h1 : leM a b) (h2 : leM b c) : leM a c := by unfold leM at *; omega
theorem leM_total {a b : MarkP} (h : ¬ leM a b) : leM b a := by unfold leM at *; omega
theorem insL_sorted (a : MarkP) : ∀ l, l.Pairwise leM → (insL a l).Pairwise leM
 | [], _ => by simp [insL]
 | b :: t, h => by
   unfold insL
   rw [List.pairwise_cons] at h
   split
   ·rename_i hab
    rw [List.pairwise_cons, List.pairwise_cons]
    refine ⟨fun x hx => ?_, h⟩
    rcases List.mem_cons.1 hx with rfl | hx
    ·exact hab
    ·exact leM_trans hab (h.1 x hx)
   ·rename_i hab
    rw [List.pairwise_cons]
    refine ⟨fun x hx => ?_, insL_sorted a t h.2⟩
    rcases List.mem_cons.1 ((insL_perm a t).mem_iff.1 hx) with rfl | hx
    ·exact leM_total hab
    ·exact h.1 x hx
theorem ordL_sorted : ∀ l, (ordL l).Pairwise leM
 | [] => by simp [ordL]
 | a :: t => insL_sorted a _ (ordL_sorted t)
theorem label_pos : ∀ (i : Nat) (l : List (Int × Int)), ∀ x ∈ label i l, i ≤ x.1
 | _, [], x, h => by cases h
 | i, m :: t, x, h => by
   rcases List.mem_cons.1 h with rfl | h
   ·exact Nat.le_refl _
   ·have := label_pos (i + 1) t x h; omega
theorem label_snd : ∀ (i : Nat) (l : List (Int × Int)), (label i l).map (·.2) = l
 | _, [] => rfl
 | i, m :: t => by rw [label, List.map_cons, label_snd (i + 1) t]
theorem label_length (i : Nat) (l : List (Int × Int)) : (label i l).length = l.length := by
 have := congrArg List.length (label_snd i l)
 simpa using this
theorem label_mono : ∀ (i : Nat) (l : List (Int × Int)), (label i l).Pairwise (fun x y => x.1 < y.1)
 | _, [] => List.Pairwise.nil
 | i, m :: t => List.Pairwise.cons (fun x hx => by have := label_pos (i + 1) t x hx; show i < x.1; omega) (label_mono (i + 1) t)
theorem insL_snd (a : MarkP) : ∀ l : List MarkP, (∀ x ∈ l, a.1 ≤ x.1) → (insL a l).map (·.2) = insM a.2 (l.map (·.2))
 | [], _ => rfl
 | b :: t, h => by
   have hb := h b (List.mem_cons_self ..)
   rw [insL, List.map_cons, insM]
   by_cases hle : a.2.2 ≤ b.2.2
   ·rw [if_pos (show leM a b by unfold leM; omega), if_pos hle]
    rfl
   ·rw [if_neg (show ¬ leM a b by unfold leM; omega), if_neg hle, List.map_cons, insL_snd a t (fun x hx => h x (List.mem_cons_of_mem _ hx))]
theorem ordL_label : ∀ (i : Nat) (l : List (Int × Int)), (ordL (label i l)).map (·.2) = ordM l
 | _, [] => rfl
 | i, m :: t => by
   rw [label, ordL, insL_snd _ _ (fun x hx => by have := label_pos (i + 1) t x ((ordL_perm _).mem_iff.1 hx); show i ≤ x.1; omega), ordL_label (i + 1) t]
   rfl
theorem ordL_unique {l l' : List MarkP} (hp : l'.Perm l) (hs : l'.Pairwise leM) (hu : l.Pairwise (fun x y => x.1 < y.1)) : l' = ordL l := by
 refine List.Perm.eq_of_pairwise (le := leM) (fun a b ha hb h1 h2 => ?_) hs (ordL_sorted l) (hp.trans (ordL_perm l).symm)
 have ha' := hp.mem_iff.1 ha
 have hb' := (ordL_perm l).mem_iff.1 hb
 have he : a.1 = b.1 := by unfold leM at h1 h2; omega
 rcases List.mem_iff_getElem.1 ha' with ⟨i, hi, rfl⟩
 rcases List.mem_iff_getElem.1 hb' with ⟨j, hj, rfl⟩
 have hm := List.pairwise_iff_getElem.1 hu
 rcases Nat.lt_trichotomy i j with h | h | h
 ·have := hm i j hi hj h; omega
 ·subst h; rfl
 ·have := hm j i hj hi h; omega
theorem ordM_length : ∀ l, (ordM l).length = l.length := fun l => by
 rw [← ordL_label 0 l, List.length_map, (ordL_perm _).length_eq, label_length]
end Go.Proofs.YtnohcnneflogjaaGreat.M.St
namespace Go.Proofs.YtnohcnneflogjaaGreat.M.St
open Go.Shelf Go.RowKit Go.Lib Go.Sort
theorem marksC_length (L : List (Int × Int)) : (marksC L).length = L.length * 2 := by
 induction L with
 | nil => rfl
 | cons r L ih =>
   show ([Value.int .i32 r.1, Value.int .i64 r.2] ++ marksC L).length = _
   rw [List.length_append, ih]
   show 2 + L.length * 2 = (L.length + 1) * 2
   omega
theorem marksC_get (L : List (Int × Int)) : ∀ (q j : Nat) (r : Int × Int), L[q]? = some r → j < 2 → (marksC L)[q * 2 + j]? = [Value.int .i32 r.1, Value.int .i64 r.2][j]? := by
 induction L with
 | nil => intro q j r h; simp at h
 | cons a L ih =>
   intro q j r h hj
   show ([Value.int .i32 a.1, Value.int .i64 a.2] ++ marksC L)[q * 2 + j]? = _
   cases q with
   | zero =>
     simp only [List.getElem?_cons_zero, Option.some.injEq] at h
     subst h
     rw [List.getElem?_append_left (by show _ < 2; omega)]
     congr 1
     omega
   | succ q =>
     rw [List.getElem?_append_right (by show 2 ≤ _; omega)]
     rw [show (q + 1) * 2 + j - [Value.int .i32 a.1, Value.int .i64 a.2].length = q * 2 + j by show _ - 2 = _; omega]
     exact ih q j r (by simpa using h) hj
theorem flatM (d : Array MarkP) : (flatK encM 2 d).toList = marksC (d.toList.map (·.2)) := by
 apply List.ext_getElem?
 intro j
 by_cases hj : j < d.size * 2
 ·have hq : j / 2 < d.size := by omega
  have h1 : (d.toList.map (·.2))[j / 2]? = some (d[j / 2]!).2 := by
   rw [List.getElem?_map, Array.getElem?_toList, Array.getElem?_eq_getElem hq, getElem!_pos d _ hq]
   rfl
  have h2 := marksC_get _ (j / 2) (j % 2) _ h1 (Nat.mod_lt _ (by decide))
  rw [show j / 2 * 2 + j % 2 = j by omega] at h2
  rw [h2, Array.getElem?_toList]
  have h3 := get_flatK encM 2 d j hj
  have h4 : j < (flatK encM 2 d).size := by rw [size_flatK]; exact hj
  rw [Array.getElem?_eq_getElem h4, ← getElem!_pos (flatK encM 2 d) j h4, h3]
  have h5 : j % 2 < (encM d[j / 2]!).length := Nat.mod_lt _ (by decide)
  rw [getElem!_pos (encM d[j / 2]!) _ h5]
  exact (List.getElem?_eq_getElem h5).symm
 ·rw [List.getElem?_eq_none (by rw [Array.length_toList, size_flatK]; omega), List.getElem?_eq_none (by rw [marksC_length, List.length_map, Array.length_toList]; omega)]
theorem holdsM {w : World} {g : Nat} {d : Array MarkP} {cur : Array Value} {e : TypeId} (hh : w.heap[g]? = some (.cells cur e (0, 0))) (ht : cur.toList.take (d.size * 2) = marksC (d.toList.map (·.2))) : HoldsK encM 2 w g 0 d := by
 intro j hj
 rw [size_flatK] at hj
 refine ⟨?_, by simp [World.frozen?, hh]⟩
 rw [Nat.zero_add, cell_of_row w g j _ _ _ hh]
 have h1 : cur.toList[j]? = (flatK encM 2 d).toList[j]? := by rw [flatM, ← ht, List.getElem?_take, if_pos hj]
 rw [Array.getElem?_toList, Array.getElem?_toList] at h1
 have h4 : j < (flatK encM 2 d).size := by rw [size_flatK]; exact hj
 rw [h1, Array.getElem?_eq_getElem h4, getElem!_pos (flatK encM 2 d) j h4]
 rfl
theorem heapM {w : World} {g : Nat} {d : Array MarkP} {cur : Array Value} {e : TypeId} {W : World} (hh : w.heap[g]? = some (.cells cur e (0, 0))) (hW : SWK encM 2 w g 0 d W) : ∃ cur', W.heap[g]? = some (.cells cur' e (0, 0)) ∧ cur'.size = cur.size ∧ (∀ j, j < d.size * 2 → j < cur.size → cur'[j]? = (flatK encM 2 d)[j]?) := by
 obtain ⟨n, os, rfl⟩ := hW
 have hlt : g < w.heap.size := (Array.getElem?_eq_some_iff.1 hh).1
 refine ⟨putCells id 0 (flatK encM 2 d) cur, ?_, ?_, ?_⟩
 ·unfold sortWorldK
  rw [heap_grow_old _ _ (by rw [size_putRowK]; exact hlt)]
  unfold putRowK putRow mapBlock Sort.ahead
  rw [Array.getElem?_modify, if_pos rfl]
  simp [hh, onCells]
 ·unfold putCells
  rw [Array.size_mapIdx]
 ·intro j hj hc
  unfold putCells
  have h4 : j < (flatK encM 2 d).size := by rw [size_flatK]; exact hj
  rw [Array.getElem?_mapIdx, Array.getElem?_eq_getElem hc, Option.map_some, if_pos (by omega), Array.getElem?_eq_getElem h4]
  exact congrArg some (getElem!_pos (flatK encM 2 d) j h4)
theorem chgM {w : World} {g : Nat} {d : Array MarkP} {W : World} (hW : SWK encM 2 w g 0 d W) : Chg (fun k => k = g) w W := by
 obtain ⟨n, os, rfl⟩ := hW
 have h1 : Chg (fun k => k = g) w (putRowK encM 2 (Sort.ahead w n) g 0 d) := by
  refine ⟨rfl, rfl, rfl, by simp [putRowK, putRow, mapBlock, Sort.ahead], fun k hk hn => ?_⟩
  show ((Sort.ahead w n).heap.modify g _)[k]? = _
  rw [Array.getElem?_modify, if_neg (fun e => hn e.symm)]
  rfl
 exact h1.trans (chg_grow (M := fun k => k = g) _ _) (fun k hk => .inl hk)
theorem cmpM_one (c1 k1 c2 k2 : Int) (W : World) : Calls Tryz.prog 130 #[.agg #[.int .i32 c1, .int .i64 k1], .agg #[.int .i32 c2, .int .i64 k2]] W fun e w' => e = .returned (.int .i64 (wrap64 (k1 - k2))) ∧ ∃ q os', w' = grow (W.drewN q) os' := by
 go_enter Tryz.func130, Tryz.ntmps130
 go_wp2
 go_ret
 refine ⟨rfl, 0, #[.cells #[.int .i32 c1, .int .i64 k1] 149, .cells #[.int .i32 c2, .int .i64 k2] 149], ?_⟩
 rw [alloc_eq_grow, alloc_eq_grow, grow_grow]
 rfl
theorem cmpM_lays (g size : Nat) (w : World) : CmpLays Tryz.prog 130 #[] encM 2 cfM g 0 size w := fun m os dk hd x y => cmpM_one x.2.1 x.2.2 y.2.1 y.2.2 _
theorem sortM_calls (base : Nat) (v : Value) (L : List (Int × Int)) (W : World) (hown : W.ownsRow base 149 2 v L.length (marksC L)) (hg : v ≠ .slice none 0 0) (hL : ∀ m ∈ L, 0 ≤ m.2 ∧ m.2 ≤ 255) (hlen : L.length ≤ 1073741824) :
 Calls Tryz.prog 129 #[v, .func (.func 130) #[] #[]] W fun e w' => e = .returned (.tuple #[]) ∧ w'.ownsRow base 149 2 v L.length (marksC (ordM L)) ∧ Chg (fun k => v.ownBlock = some k) W w' := by
 obtain ⟨hl0, ⟨rfl, hn⟩ | ⟨g, cap, cur, rfl, hgb, hh, hcap, hmax, hcs, ht⟩⟩ := hown
 ·exact absurd rfl hg
 ·obtain ⟨d, hd⟩ : ∃ d : Array MarkP, d = (label 0 L).toArray := ⟨_, rfl⟩
  have hdl : d.toList.map (·.2) = L := by rw [hd, List.toList_toArray, label_snd]
  have hds : d.size = L.length := by rw [← hdl, List.length_map, Array.length_toList]
  have hH : HoldsK encM 2 W g 0 d := holdsM hh (by rw [hds, hdl]; exact ht)
  have hlt : g < W.heap.size := (Array.getElem?_eq_some_iff.1 hh).1
  have R : RowK encM 2 W g 0 d := ⟨fun x => rfl, fun x v hv => by
   simp only [encM, List.mem_cons, List.not_mem_nil, or_false] at hv
   rcases hv with rfl | rfl <;> rfl, hH, hlt⟩
  have hst : Stab (ltOf cfM) totM 0 L.length d := by
   intro i j _ hij hj
   have hi' : i < d.size := by omega
   have hj' : j < d.size := by omega
   have hm := List.pairwise_iff_getElem.1 (label_mono 0 L) i j (by rw [label_length]; omega) (by rw [label_length]; omega) hij
   have ei : d[i]! = (label 0 L)[i]'(by rw [label_length]; omega) := by rw [getElem!_pos d i hi']; simp [hd]
   have ej : d[j]! = (label 0 L)[j]'(by rw [label_length]; omega) := by rw [getElem!_pos d j hj']; simp [hd]
   have key : ∀ x ∈ label 0 L, x.2 ∈ L := fun x hx => by
    have h : x.2 ∈ (label 0 L).map (·.2) := List.mem_map.2 ⟨x, hx, rfl⟩
    rwa [label_snd] at h
   have mi : (d[i]!).2 ∈ L := by rw [ei]; exact key _ (List.getElem_mem _)
   have mj : (d[j]!).2 ∈ L := by rw [ej]; exact key _ (List.getElem_mem _)
   have bi := hL _ mi
   have bj := hL _ mj
   rw [← ei, ← ej] at hm
   have hw : cfM d[j]! d[i]! = (d[j]!).2.2 - (d[i]!).2.2 := by unfold cfM wrap64; omega
   unfold ltOf totM
   rw [decide_eq_decide, hw]
   omega
  refine (sortStable_calls sizeM R cfM totM totM_swo 130 #[] (enters_of Tryz.func130 (by kernel_rfl) rfl) (cmpM_lays g _ W) L.length cap d W (SWK.start hH) rfl hds (by omega) hst).mono ?_
  rintro e w' ⟨rfl, d', hp, hs, hV⟩
  have hsz' : d'.size = L.length := hp.1.trans hds
  obtain ⟨cur', hh', hcs', hget⟩ := heapM hh hV
  have hpl : d'.toList.Perm (label 0 L) := by
   have h3 := hp.2.2
   rw [show d'.extract 0 L.length = d' by rw [← hsz']; exact Array.extract_size, show d.extract 0 L.length = d by rw [← hds]; exact Array.extract_size] at h3
   simpa [hd] using h3
  have hord : d'.toList.map (·.2) = ordM L := by
   rw [← ordL_label 0 L]
   congr 1
   refine ordL_unique hpl ?_ (label_mono 0 L)
   rw [List.pairwise_iff_getElem]
   intro i j hi hj hij
   rw [Array.length_toList] at hi hj
   have h := hs i j (Nat.zero_le _) hij (by omega)
   rw [getElem!_pos d' i hi, getElem!_pos d' j hj] at h
   simp only [totM, decide_eq_false_iff_not] at h
   simp only [Array.getElem_toList]
   unfold leM
   omega
  refine ⟨rfl, ⟨by rw [marksC_length, ordM_length], .inr ⟨g, cap, cur', rfl, hgb, hh', hcap, hmax, by rw [hcs']; exact hcs, ?_⟩⟩, (chgM hV).mono (fun k hk => by rw [hk]; rfl)⟩
  apply List.ext_getElem?
  intro j
  have hcl : L.length * 2 ≤ cur.size := by
   have := congrArg List.length ht
   rw [List.length_take, marksC_length, Array.length_toList] at this
   omega
  rw [← hord, ← flatM]
  by_cases hj : j < L.length * 2
  ·rw [List.getElem?_take, if_pos hj, Array.getElem?_toList, Array.getElem?_toList]
   exact hget j (by omega) (by omega)
  ·rw [List.getElem?_eq_none (by rw [List.length_take]; omega), List.getElem?_eq_none (by rw [Array.length_toList, size_flatK]; omega)]
end Go.Proofs.YtnohcnneflogjaaGreat.M.St
namespace Go.Proofs.YtnohcnneflogjaaGreat.M.St
open Go.Shelf Go.RowKit Go.Lib Go.Sort
theorem heap_setCells (b : Nat) (e : TypeId) : ∀ (vs : List Value) (o : Nat) (w : World) (cur : Array Value), w.heap[b]? = some (.cells cur e (0, 0)) → ∃ cur', (w.setCells b o vs).heap[b]? = some (.cells cur' e (0, 0)) ∧ cur'.size = cur.size
 | [], _, w, cur, h => ⟨cur, h, rfl⟩
 | v :: t, o, w, cur, h => by
   rw [World.setCells]
   obtain ⟨cur', h1, h2⟩ := heap_setCells b e t (o + 1) (w.setCell ⟨b, o, none⟩ v) (cur.setIfInBounds o v) (box_set h o v)
   exact ⟨cur', h1, by rw [h2, Array.size_setIfInBounds]⟩
theorem chg_setCells (b : Nat) : ∀ (vs : List Value) (o : Nat) (w : World), Chg (fun k => k = b) w (w.setCells b o vs)
 | [], _, w => Chg.refl _ _
 | v :: t, o, w => by
   rw [World.setCells]
   exact (Chg.of_set (M := fun k => k = b) w ⟨b, o, none⟩ v rfl).trans (chg_setCells b t (o + 1) _) (fun k h => .inl h)
theorem zeroM (w : World) : (zeroValue 149).run Tryz.prog w = .ok (.agg #[.int .i32 0, .int .i64 0]) w := by
 first | exact Tryz.zeroValue149 w | kernel_rfl
theorem clearM (base : Nat) (v : Value) (n : Nat) (vs : List Value) (ty : TypeId) (W : World) (hown : W.ownsRow base 149 2 v n vs) :
 ∃ A c W', v = .slice A n c ∧ (Go.Builtin.clear_ #[146] ty #[.slice A n c]).run Tryz.prog W = .ok (.tuple #[]) W' ∧ W'.ownsRow base 149 2 (.slice A 0 c) 0 [] ∧ Chg (fun k => v.ownBlock = some k) W W' := by
 have hu := Tryz.underlying146
 obtain ⟨hl0, ⟨rfl, hn⟩ | ⟨g, cap, cur, rfl, hgb, hh, hcap, hmax, hcs, ht⟩⟩ := hown
 ·subst hn
  refine ⟨none, 0, W, rfl, ?_, World.ownsRow_nil _ _ _ _, Chg.refl _ _⟩
  simp [Go.Builtin.clear_, run_underlying hu]
 ·rcases Nat.eq_zero_or_pos n with rfl | hpos
  ·refine ⟨some ⟨g, 0, none⟩, cap, W, rfl, ?_, ⟨rfl, .inr ⟨g, cap, cur, rfl, hgb, hh, Nat.zero_le _, hmax, hcs, by simp⟩⟩, Chg.refl _ _⟩
   simp [Go.Builtin.clear_, run_underlying hu]
  ·obtain ⟨Z, hZ⟩ : ∃ Z, (Go.Builtin.zeroCells (Value.agg #[.int .i32 0, .int .i64 0]).cells n).toList = Z := ⟨_, rfl⟩
   have hZl : Z.length = n * 2 := by rw [← hZ]; simp [Go.Builtin.zeroCells, Value.cells]
   have hZ1 : ∀ u ∈ Z, u.oneCell' = true := fun u hu => by
    rw [← hZ] at hu
    simp [Go.Builtin.zeroCells, Value.cells] at hu
    obtain ⟨a, _, rfl⟩ := hu
    rcases (by omega : a % 2 = 0 ∨ a % 2 = 1) with h | h <;> (rw [h]; rfl)
   have hst := run_storeCells_cells (P := Tryz.prog) g 0 Z 0 W (fun j hj => by
    rw [cell_of_row W g _ _ _ _ hh]
    rw [hZl] at hj
    have : 0 + 0 + j < cur.size := by omega
    rw [Array.getElem?_eq_getElem this]
    rfl) (fun j hj => by simp [World.frozen?, hh]) hZ1
   obtain ⟨cur', h1, h2⟩ := heap_setCells g _ Z 0 W cur hh
   refine ⟨some ⟨g, 0, none⟩, cap, W.setCells g 0 Z, rfl, ?_, ⟨rfl, .inr ⟨g, cap, cur', rfl, hgb, h1, Nat.zero_le _, hmax, by rw [h2]; exact hcs, by simp⟩⟩, (chg_setCells g Z 0 W).mono (fun k hk => by rw [hk]; rfl)⟩
   obtain ⟨m, rfl⟩ : ∃ m, n = m + 1 := ⟨n - 1, by omega⟩
   simp only [Nat.add_zero] at hst
   simp [Go.Builtin.clear_, run_underlying hu, zeroM, hZ, hst]
theorem ins_nil (f : Value) (W : World) : Calls Tryz.prog 194 #[.slice none 0 0, .int .i64 0, .int .i64 0, f] W fun e w' => e = .returned (.tuple #[]) ∧ w' = W := by
 go_enter Tryz.func194, Tryz.ntmps194
 go_wp2
 go_loopg [8] 0 (fun j v8 w' => v8 = .int .i64 1 ∧ w' = W)
 case atStart => exact ⟨rfl, rfl⟩
 case round =>
  obtain ⟨rfl, rfl⟩ := hrel
  go_wp2
  go_end0
  exact ⟨rfl, rfl⟩
theorem stable_nil (f : Value) (W : World) : Calls Tryz.prog 166 #[.slice none 0 0, .int .i64 0, f] W fun e w' => e = .returned (.tuple #[]) ∧ w' = W := by
 go_enter Tryz.func166, Tryz.ntmps166
 go_wp2
 go_loopg [7, 8] 0 (fun j v7 v8 w' => v7 = .int .i64 0 ∧ v8 = .int .i64 20 ∧ w' = W)
 case atStart => exact ⟨rfl, rfl, rfl⟩
 case round =>
  obtain ⟨rfl, rfl, rfl⟩ := hrel
  go_wp2_with (go_at_call 194; refine (ins_nil f _).mono ?_; rintro e w1 ⟨rfl, rfl⟩)
  go_loopg [6] 0 (fun j v6 w' => v6 = .int .i64 20 ∧ w' = w1)
  case atStart => exact ⟨rfl, rfl⟩
  case round =>
   obtain ⟨rfl, rfl⟩ := hrel
   go_wp2
   go_end0
   exact ⟨rfl, rfl⟩
theorem sortM_nil (f : Value) (W : World) : Calls Tryz.prog 129 #[.slice none 0 0, f] W fun e w' => e = .returned (.tuple #[]) ∧ w' = W := by
 go_enter Tryz.func129, Tryz.ntmps129
 go_wp2_with (go_at_call 166; refine (stable_nil f _).mono ?_; rintro e w1 ⟨rfl, rfl⟩)
 go_end0
 exact ⟨rfl, rfl⟩
end Go.Proofs.YtnohcnneflogjaaGreat.M.St
