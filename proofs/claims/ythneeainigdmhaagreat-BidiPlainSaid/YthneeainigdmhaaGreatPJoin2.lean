/- joiner.Fits and joiner.Check, walked. -/
import Derived.Test.YthneeainigdmhaaGreatPJoin1
import Derived.BigQuiet
set_option linter.unusedVariables false
set_option linter.unusedSimpArgs false
namespace Go.Proofs.YthneeainigdmhaaGreat.M
open Go.RowKit
set_option maxHeartbeats 8000000
set_option maxRecDepth 100000

theorem fits_out {J C : Int → Int} {x : List Int} {i : Int} (h : i < 0 ∨ (x.length : Int) ≤ i) : fitsF J C x i = false := by
  unfold fitsF
  rw [if_pos h]
theorem fits_plain {J C : Int → Int} {x : List Int} {i : Int} (h : ¬ (i < 0 ∨ (x.length : Int) ≤ i)) (h2 : rd x i ≠ 8204 ∧ rd x i ≠ 8205) : fitsF J C x i = true := by
  unfold fitsF
  rw [if_neg h, if_pos h2]
theorem fits_led {J C : Int → Int} {x : List Int} {i : Int} (h : ¬ (i < 0 ∨ (x.length : Int) ≤ i)) (h2 : ¬ (rd x i ≠ 8204 ∧ rd x i ≠ 8205)) (h3 : 0 < i ∧ C (rd x (i - 1)) = 9) : fitsF J C x i = true := by
  unfold fitsF
  rw [if_neg h, if_neg h2, if_pos h3]
theorem fits_join {J C : Int → Int} {x : List Int} {i : Int} (h : ¬ (i < 0 ∨ (x.length : Int) ≤ i)) (h2 : rd x i = 8205) (h3 : ¬ (0 < i ∧ C (rd x (i - 1)) = 9)) : fitsF J C x i = false := by
  unfold fitsF
  rw [if_neg h, if_neg (fun hh => hh.2 h2), if_neg h3, if_pos h2]
theorem fits_non {J C : Int → Int} {x : List Int} {i : Nat} (h : i < x.length) (h2 : rd x i = 8204) (h3 : ¬ (0 < (i : Int) ∧ C (rd x ((i : Int) - 1)) = 9)) : fitsF J C x i = (okL (firstV J (x.take i).reverse) && okR (firstV J (x.drop (i + 1)))) := by
  unfold fitsF
  rw [if_neg (by omega), if_neg (fun hh => hh.1 h2), if_neg h3, if_neg (by rw [h2]; decide), Int.toNat_natCast]
section
variable {H : Nat} {w : World} {bd : Nat} {D : DataV} {T : List Rec}
theorem Fits_calls (hD : DataAt H w bd D T) (hG : Good T) (A : Option Addr) (c : Nat) (x : List Int) (i : Int) (hI : Ints .i32 w A x) (hx : x.length < 4611686018427387904) (hwf : ∀ z ∈ x, (Lit.int .i32 z).wf = true) (b : Bool) (hb : fitsF (jnF T) (clF T) x i = b) :
    Calls Tryz.prog 25 #[.pointer (some ⟨bd, 0, none⟩), .slice A x.length c, .int .i64 i] w fun e w' => e = .returned (.bool b) ∧ Up w w' := by
  by_cases hout : i < 0 ∨ (x.length : Int) ≤ i
  · rw [fits_out hout] at hb
    subst hb
    rcases hout with e1 | e1
    · clear hD hI
      go_enter Tryz.func25, Tryz.ntmps25
      go_wp2
      go_ret
      exact ⟨rfl, up_refl _⟩
    · have e2 : ¬ (i < 0) := by omega
      clear hD hI
      go_enter Tryz.func25, Tryz.ntmps25
      go_wp2
      go_ret
      exact ⟨rfl, up_refl _⟩
  have HOUT := Aside0.mk hout
  have e1 : ¬ (i < 0) := by omega
  have e2 : ¬ ((x.length : Int) ≤ i) := by omega
  obtain ⟨n, rfl⟩ := Int.eq_ofNat_of_zero_le (by omega : 0 ≤ i)
  have hn : n < x.length := by omega
  have HN := Aside0.mk hn
  have e2' : ¬ (x.length ≤ n) := by omega
  have f1 : 0 ≤ (n : Int) := by omega
  have f2 : (n : Int) < (x.length : Int) := by omega
  obtain ⟨ad, hA, hc⟩ := hI.at_ n f1 f2
  rw [Int.toNat_natCast] at hc
  subst hA
  have HD := Aside0.mk hD
  have HG := Aside0.mk hG
  have HI := Aside0.mk hI
  have HX := Aside0.mk hx
  have HWF := Aside0.mk hwf
  obtain ⟨a, ha⟩ : ∃ a, rd x n = a := ⟨_, rfl⟩
  rw [ha] at hc
  have HA := Aside0.mk ha
  by_cases hpl : a ≠ 8204 ∧ a ≠ 8205
  · rw [fits_plain hout (by rw [ha]; exact hpl)] at hb
    subst hb
    have q1 : (a == 8204) = false := beq_eq_false_iff_ne.mpr hpl.1
    have q2 : (a == 8205) = false := beq_eq_false_iff_ne.mpr hpl.2
    have q3 : (a != 8204) = true := bne_iff_ne.mpr hpl.1
    have q4 : (a != 8205) = true := bne_iff_ne.mpr hpl.2
    clear hD hG hI hx hwf hpl hout hn ha
    go_enter Tryz.func25, Tryz.ntmps25
    go_wp2
    go_ret
    exact ⟨rfl, up_refl _⟩
  · have hq : a = 8204 ∨ a = 8205 := by
      rcases Int.decEq a 8204 with h | h
      · rcases Int.decEq a 8205 with h' | h'
        · exact absurd ⟨h, h'⟩ hpl
        · exact .inr h'
      · exact .inl h
    obtain ⟨b1, hb1⟩ : ∃ b1, okL (firstV (jnF T) (x.take n).reverse) = b1 := ⟨_, rfl⟩
    obtain ⟨b2, hb2⟩ : ∃ b2, okR (firstV (jnF T) (x.drop (n + 1))) = b2 := ⟨_, rfl⟩
    have HWD : Aside0 (Way x (-1) ((n : Int) + -1) (x.take n).reverse) := ⟨way_down x n (by omega)⟩
    have HWU : Aside0 (Way x 1 ((n : Int) + 1) (x.drop (n + 1))) := ⟨by have := way_up x (x.length - (n + 1)) (n + 1) (by omega); rwa [show ((n + 1 : Nat) : Int) = (n : Int) + 1 by omega] at this⟩
    have HB1 : Aside0 ((firstV (jnF T) (x.take n).reverse == 2 || firstV (jnF T) (x.take n).reverse == 3) = b1) := ⟨hb1⟩
    have HB2 : Aside0 ((firstV (jnF T) (x.drop (n + 1)) == 1 || firstV (jnF T) (x.drop (n + 1)) == 3) = b2) := ⟨hb2⟩
    have HF1 := Aside0.mk f1
    have HF2 := Aside0.mk f2
    by_cases hn0 : n = 0
    · have hl : ¬ (0 < (n : Int) ∧ clF T (rd x ((n : Int) - 1)) = 9) := fun hh => by omega
      have g1 : decide (0 < (n : Int)) = false := decide_eq_false (by omega)
      have g2 : decide (0 < n) = false := decide_eq_false (by omega)
      clear hn0
      rcases hq with rfl | rfl
      · rw [fits_non hn ha hl, hb1, hb2] at hb
        subst hb
        clear hD hG hI hx hwf hpl hout hn ha hl hb1 hb2
        cases b1 with
        | false =>
          go_enter Tryz.func25, Tryz.ntmps25
          go_wp2
          go_quiet (fail)
          go_wp2_with (first | (go_at_call 90; (with_reducible refine (next_calls (HD.out.up (up_drewN (up_refl w) _)) HG.out _ c x n (-1) 2 _ (HI.out.up (up_drewN (up_refl w) _)) HX.out HWF.out HF1.out HF2.out (.inr rfl) HWD.out _ HB1.out).mono ?_); rintro e w1 ⟨rfl, hup1⟩; have HU1 := Aside0.mk (up_trans (up_drewN (up_refl w) _) hup1); clear hup1))
          go_ret
          exact ⟨rfl, HU1.out⟩
        | true =>
          go_enter Tryz.func25, Tryz.ntmps25
          go_wp2
          go_quiet (fail)
          go_wp2_with (first | (go_at_call 90; (with_reducible refine (next_calls (HD.out.up (up_drewN (up_refl w) _)) HG.out _ c x n (-1) 2 _ (HI.out.up (up_drewN (up_refl w) _)) HX.out HWF.out HF1.out HF2.out (.inr rfl) HWD.out _ HB1.out).mono ?_); rintro e w1 ⟨rfl, hup1⟩; have HU1 := Aside0.mk (up_trans (up_drewN (up_refl w) _) hup1); clear hup1) | (go_at_call 90; (with_reducible refine (next_calls (HD.out.up HU1.out) HG.out _ c x n 1 1 _ (HI.out.up HU1.out) HX.out HWF.out HF1.out HF2.out (.inl rfl) HWU.out _ HB2.out).mono ?_); rintro e w2 ⟨rfl, hup2⟩; have HU2 := Aside0.mk (up_trans HU1.out hup2); clear hup2))
          go_ret
          exact ⟨rfl, HU2.out⟩
      · rw [fits_join hout ha hl] at hb
        subst hb
        clear hD hG hI hx hwf hpl hout hn ha hl hb1 hb2
        go_enter Tryz.func25, Tryz.ntmps25
        go_wp2
        go_quiet (fail)
        go_wp2
        go_ret
        first | exact ⟨rfl, up_refl _⟩ | exact ⟨rfl, up_drewN (up_refl _) _⟩
    · obtain ⟨m, hm⟩ : ∃ m : Nat, (n : Int) - 1 = m := ⟨n - 1, by omega⟩
      have hwm : wrap64 ((n : Int) - 1) = (m : Int) := by unfold wrap64; omega
      have hwi : IntKind.i64.wrap ((n : Int) - 1) = (m : Int) := by rw [IntKind.wrap_i64]; omega
      have m1 : 0 ≤ (m : Int) := by omega
      have m2 : (m : Int) < (x.length : Int) := by omega
      obtain ⟨ad', hA', hcp⟩ := HI.out.at_ m m1 m2
      rw [Int.toNat_natCast] at hcp
      cases hA'
      obtain ⟨p, hp⟩ : ∃ p, rd x m = p := ⟨_, rfl⟩
      rw [hp] at hcp
      have HPR : Aside0 (-2147483648 ≤ p ∧ p ≤ 2147483647) := ⟨by rw [← hp]; exact rd_wf hwf m⟩
      obtain ⟨y, hy⟩ : ∃ y, clF T p = y := ⟨_, rfl⟩
      have HY := Aside0.mk hy
      have HCN := Aside0.mk hc
      have g1 : decide (0 < (n : Int)) = true := decide_eq_true (by omega)
      have g2 : decide (0 < n) = true := decide_eq_true (by omega)
      obtain ⟨⟨a0, a1, a2, a3, a4, a5, a6⟩, _⟩ := HD.out.all
      have hs0 : w.drew.cell? ⟨bd, 3, none⟩ = some (.pointer (some ⟨D.b3, 0, none⟩)) ∧ w.drew.cell? (ad.add m) = some (.int .i32 p) := ⟨a3, hcp⟩
      have HS0 := Aside0.mk hs0
      by_cases hy9 : y = 9
      · have hl : 0 < (n : Int) ∧ clF T (rd x ((n : Int) - 1)) = 9 := ⟨by omega, by rw [hm, hp, hy]; exact hy9⟩
        rw [fits_led hout (by rw [ha]; exact hpl) hl] at hb
        subst hb
        have g9 : (y == 9) = true := beq_iff_eq.mpr hy9
        clear hD hG hI hx hwf hpl hout hn ha hl hb1 hb2 hy hp hn0 hm hy9
        rcases hq with rfl | rfl
        · go_enter Tryz.func25, Tryz.ntmps25
          go_wp2
          go_region_held3 (fun w' => w'.cell? ⟨bd, 3, none⟩ = some (.pointer (some ⟨D.b3, 0, none⟩)) ∧ w'.cell? (ad.add m) = some (.int .i32 p)) (first | exact hs0 | exact hs1) (first | (go_at_call 32; (with_reducible refine ((HD.out.up (up_drew (up_refl w))).Class HG.out p y HY.out HPR.out.1 HPR.out.2).mono ?_); rintro e w1 ⟨rfl, hup1⟩; have HC1 := Aside0.mk (up_trans (up_drew (up_refl w)) hup1); have hs1 : w1.cell? ⟨bd, 3, none⟩ = some (.pointer (some ⟨D.b3, 0, none⟩)) ∧ w1.cell? (ad.add m) = some (.int .i32 p) := ⟨up_cell hup1 HS0.out.1, up_cell hup1 HS0.out.2⟩; have hc1 := up_cell HC1.out HCN.out; clear hup1))
          go_wp2
          go_ret
          exact ⟨rfl, HC1.out⟩
        · go_enter Tryz.func25, Tryz.ntmps25
          go_wp2
          go_region_held3 (fun w' => w'.cell? ⟨bd, 3, none⟩ = some (.pointer (some ⟨D.b3, 0, none⟩)) ∧ w'.cell? (ad.add m) = some (.int .i32 p)) (first | exact hs0 | exact hs1) (first | (go_at_call 32; (with_reducible refine ((HD.out.up (up_drew (up_refl w))).Class HG.out p y HY.out HPR.out.1 HPR.out.2).mono ?_); rintro e w1 ⟨rfl, hup1⟩; have HC1 := Aside0.mk (up_trans (up_drew (up_refl w)) hup1); have hs1 : w1.cell? ⟨bd, 3, none⟩ = some (.pointer (some ⟨D.b3, 0, none⟩)) ∧ w1.cell? (ad.add m) = some (.int .i32 p) := ⟨up_cell hup1 HS0.out.1, up_cell hup1 HS0.out.2⟩; have hc1 := up_cell HC1.out HCN.out; clear hup1))
          go_wp2
          go_ret
          exact ⟨rfl, HC1.out⟩
      · have hl : ¬ (0 < (n : Int) ∧ clF T (rd x ((n : Int) - 1)) = 9) := fun hh => hy9 (by rw [← hy, ← hp, ← hm]; exact hh.2)
        have g9 : (y == 9) = false := beq_eq_false_iff_ne.mpr hy9
        rcases hq with rfl | rfl
        · rw [fits_non hn ha hl, hb1, hb2] at hb
          subst hb
          clear hD hG hI hx hwf hpl hout hn ha hl hb1 hb2 hy hp hn0 hm hy9
          cases b1 with
          | false =>
            go_enter Tryz.func25, Tryz.ntmps25
            go_wp2
            go_region_held3 (fun w' => w'.cell? ⟨bd, 3, none⟩ = some (.pointer (some ⟨D.b3, 0, none⟩)) ∧ w'.cell? (ad.add m) = some (.int .i32 p)) (first | exact hs0 | exact hs1) (first | (go_at_call 32; (with_reducible refine ((HD.out.up (up_drew (up_refl w))).Class HG.out p y HY.out HPR.out.1 HPR.out.2).mono ?_); rintro e w1 ⟨rfl, hup1⟩; have HC1 := Aside0.mk (up_trans (up_drew (up_refl w)) hup1); have hs1 : w1.cell? ⟨bd, 3, none⟩ = some (.pointer (some ⟨D.b3, 0, none⟩)) ∧ w1.cell? (ad.add m) = some (.int .i32 p) := ⟨up_cell hup1 HS0.out.1, up_cell hup1 HS0.out.2⟩; have hc1 := up_cell HC1.out HCN.out; clear hup1))
            go_wp2_with (first | (go_at_call 90; (with_reducible refine (next_calls (HD.out.up HC1.out) HG.out _ c x n (-1) 2 _ (HI.out.up HC1.out) HX.out HWF.out HF1.out HF2.out (.inr rfl) HWD.out _ HB1.out).mono ?_); rintro e w2 ⟨rfl, hup2⟩; have HU1 := Aside0.mk (up_trans HC1.out hup2); clear hup2))
            go_ret
            exact ⟨rfl, HU1.out⟩
          | true =>
            go_enter Tryz.func25, Tryz.ntmps25
            go_wp2
            go_region_held3 (fun w' => w'.cell? ⟨bd, 3, none⟩ = some (.pointer (some ⟨D.b3, 0, none⟩)) ∧ w'.cell? (ad.add m) = some (.int .i32 p)) (first | exact hs0 | exact hs1) (first | (go_at_call 32; (with_reducible refine ((HD.out.up (up_drew (up_refl w))).Class HG.out p y HY.out HPR.out.1 HPR.out.2).mono ?_); rintro e w1 ⟨rfl, hup1⟩; have HC1 := Aside0.mk (up_trans (up_drew (up_refl w)) hup1); have hs1 : w1.cell? ⟨bd, 3, none⟩ = some (.pointer (some ⟨D.b3, 0, none⟩)) ∧ w1.cell? (ad.add m) = some (.int .i32 p) := ⟨up_cell hup1 HS0.out.1, up_cell hup1 HS0.out.2⟩; have hc1 := up_cell HC1.out HCN.out; clear hup1))
            go_wp2_with (first | (go_at_call 90; (with_reducible refine (next_calls (HD.out.up HC1.out) HG.out _ c x n (-1) 2 _ (HI.out.up HC1.out) HX.out HWF.out HF1.out HF2.out (.inr rfl) HWD.out _ HB1.out).mono ?_); rintro e w2 ⟨rfl, hup2⟩; have HU1 := Aside0.mk (up_trans HC1.out hup2); clear hup2) | (go_at_call 90; (with_reducible refine (next_calls (HD.out.up HU1.out) HG.out _ c x n 1 1 _ (HI.out.up HU1.out) HX.out HWF.out HF1.out HF2.out (.inl rfl) HWU.out _ HB2.out).mono ?_); rintro e w3 ⟨rfl, hup3⟩; have HU2 := Aside0.mk (up_trans HU1.out hup3); clear hup3))
            go_ret
            exact ⟨rfl, HU2.out⟩
        · rw [fits_join hout ha hl] at hb
          subst hb
          clear hD hG hI hx hwf hpl hout hn ha hl hb1 hb2 hy hp hn0 hm hy9
          go_enter Tryz.func25, Tryz.ntmps25
          go_wp2
          go_region_held3 (fun w' => w'.cell? ⟨bd, 3, none⟩ = some (.pointer (some ⟨D.b3, 0, none⟩)) ∧ w'.cell? (ad.add m) = some (.int .i32 p)) (first | exact hs0 | exact hs1) (first | (go_at_call 32; (with_reducible refine ((HD.out.up (up_drew (up_refl w))).Class HG.out p y HY.out HPR.out.1 HPR.out.2).mono ?_); rintro e w1 ⟨rfl, hup1⟩; have HC1 := Aside0.mk (up_trans (up_drew (up_refl w)) hup1); have hs1 : w1.cell? ⟨bd, 3, none⟩ = some (.pointer (some ⟨D.b3, 0, none⟩)) ∧ w1.cell? (ad.add m) = some (.int .i32 p) := ⟨up_cell hup1 HS0.out.1, up_cell hup1 HS0.out.2⟩; have hc1 := up_cell HC1.out HCN.out; clear hup1))
          go_wp2
          go_ret
          exact ⟨rfl, HC1.out⟩
end
end Go.Proofs.YthneeainigdmhaaGreat.M
