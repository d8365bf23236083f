/- RemapMaps, walked. (printed by mkrmaps.py) -/
import Derived.Test.YthneeainigdmhaaGreatPRemap
import Derived.Test.YthneeainigdmhaaGreatPOwnPut
import Derived.Test.YthneeainigdmhaaGreatK37
set_option linter.unusedVariables false
set_option linter.unusedSimpArgs false
namespace Go.Proofs.YthneeainigdmhaaGreat.M
open Go.RowKit
set_option maxHeartbeats 16000000
set_option maxRecDepth 100000

theorem ints_set {k : IntKind} {w : World} {A : Option Addr} {l : List Int} (h : Ints k w A l) (g i : Nat) (v : Value) (hg : ∀ ad, A = some ad → ad.block ≠ g) : Ints k (w.setCell ⟨g, i, none⟩ v) A l :=
  cells_chg (M := fun b => b = g) h (Chg.of_set w ⟨g, i, none⟩ v rfl) hg
theorem RemapMaps_no (A : Option Addr) (c : Nat) (T : List Rec) (A1 : Option Addr) (n1 c1 : Nat) (fl : Int) (w : World) (hT : Table w A T) (hW : ∀ x ∈ T, x.Wf) (hc : T.length ≤ c) (he : (checkE (T.take 150)).2 ≠ 0) :
    Calls Tryz.prog 11 #[.slice A T.length c, .slice A1 n1 c1, .int .i64 fl] w fun e w' => e = .returned (.bool true) ∧ Up w w' := by
  have HM := Aside0.mk (Made_no A c T w hT hW hc he)
  clear hT hW hc he
  go_enter Tryz.func11, Tryz.ntmps11
  go_wp2_with (first | (go_at_call 20; (with_reducible refine HM.out.mono ?_); rintro e w1 ⟨rfl, hup1⟩) | (go_at_call 61; (with_reducible refine (told15_calls _).mono ?_); rintro e w2 ⟨rfl, hup2⟩))
  go_ret
  exact ⟨rfl, up_trans hup1 hup2⟩
theorem RemapMaps_yes (A : Option Addr) (c : Nat) (T P : List Rec) (Ax : Option Addr) (x : List Int) (cx : Nat) (fl : Int) (w : World) (hP : T.take 150 = P) (hT : Table w A T) (hW : ∀ x ∈ T, x.Wf) (hc : T.length ≤ c) (he : (checkE P).2 = 0)
    (hI1 : Ints .i32 w Ax x) (hx1 : x.length < 4611686018427387904) (hc1 : x.length ≤ cx) (hwf1 : ∀ z ∈ x, (Lit.int .i32 z).wf = true) :
    Calls Tryz.prog 11 #[.slice A T.length c, .slice Ax x.length cx, .int .i64 fl] w fun e w' => e = .returned (.bool true) ∧ Up w w' := by
  have HM := Aside0.mk (Made_yes A c T P w hP hT hW hc he)
  have hWP : ∀ x ∈ P, x.Wf := fun x hx => hW x (by rw [← hP] at hx; exact List.mem_of_mem_take hx)
  have HF := Aside0.mk (fine_of hWP he)
  have HG := Aside0.mk (fine_of hWP he).toGood
  have HWP := Aside0.mk hWP
  have HPT : Aside0 (P.length ≤ 4096) := ⟨by rw [← hP, List.length_take]; omega⟩
  have HI1 := Aside0.mk hI1
  have HX1 := Aside0.mk hx1
  have HXC1 := Aside0.mk hc1
  have HWF1 := Aside0.mk hwf1
  clear hI1 hx1 hc1 hwf1
  obtain ⟨s, hs⟩ : ∃ s, x.take 200 = s := ⟨_, rfl⟩
  have hsl : s.length ≤ 200 := by rw [← hs, List.length_take]; omega
  have HSL : Aside0 (s.length ≤ 100000) := ⟨by omega⟩
  have HSB : Aside0 (s.length < 4611686018427387904) := ⟨by omega⟩
  have HSB2 : Aside0 (s.length ≤ 35184372087808) := ⟨by omega⟩
  have HSW : Aside0 (∀ z ∈ s, (Lit.int .i32 z).wf = true) := ⟨fun z hz => HWF1.out z (by rw [← hs] at hz; exact List.mem_of_mem_take hz)⟩
  have HS := Aside0.mk hs
  have HSX : Aside0 (s.length ≤ x.length) := ⟨by rw [← hs, List.length_take]; omega⟩
  have HXS : Aside0 (Ints .i32 w Ax s) := ⟨by rw [← hs]; exact ints_take15 HI1.out 200⟩
  have HSS : Aside0 ((s == s) = true) := ⟨by simp⟩
  obtain ⟨r, hr⟩ : ∃ r, mapsF P fl s = r := ⟨_, rfl⟩
  have HR := Aside0.mk hr
  have HRL : Aside0 (r.length ≤ 65536) := ⟨by have := mapsF_len24 HG.out fl s; rw [hr] at this; omega⟩
  have HRB : Aside0 (r.length ≤ 35184372087808) := ⟨by have := HRL.out; omega⟩
  have HRR : Aside0 ((r == r) = true) := ⟨by simp⟩
  obtain ⟨b, hb⟩ : ∃ b, (s == r) = b := ⟨_, rfl⟩
  have HBB := Aside0.mk hb
  have hbb : (b != b) = false := by cases b <;> rfl
  clear hT hW hc he hWP hP hs hsl hr hb
  go_enter Tryz.func11, Tryz.ntmps11
  go_wp2_with (first | (go_at_call 66; (with_reducible refine (RSet15_calls A3 c3 P A2 c2 s fl _ (HT3.out.up HN6.out) HG.out.right HWP.out HPT.out (HI2.out.up HV6.out) HSL.out HSW.out r HR.out HRL.out b HBB.out).mono ?_); rintro e w7 ⟨rfl, hup7⟩; have HN7 := Aside0.mk (up_trans HN6.out hup7); have HV7 := Aside0.mk (up_trans HV6.out hup7); have HM7 := Aside0.mk (up_trans HM6.out hup7); have HB7 := Aside0.mk (up_refl w7); clear hup7) | (go_at_call 65; (with_reducible refine (Settled_calls (HD.out.up (up_trans HU2.out HV5.out)) HG.out A2 c2 s _ rfl fl (HI2.out.up HV5.out) HSL.out HSW.out r HR.out HRL.out b HBB.out).mono ?_); rintro e w6 ⟨rfl, hup6⟩; have HN6 := Aside0.mk (up_trans HN5.out hup6); have HV6 := Aside0.mk (up_trans HV5.out hup6); have HM6 := Aside0.mk (up_trans HM5.out hup6); clear hup6) | (go_at_call 30; (with_reducible refine (SameB_calls Ay A4 cy c4 r r _ (HI3.out.up HN4.out) HI4.out HRB.out HRB.out true HRR.out).mono ?_); rintro e w5 ⟨rfl, hup5⟩; have HN5 := Aside0.mk (up_trans HN4.out hup5); have HV5 := Aside0.mk (up_trans HV4.out hup5); have HM5 := Aside0.mk hup5; clear hup5) | (go_at_call 64; (with_reducible refine (RMap15_calls A3 c3 P A2 c2 s fl _ HT3.out HG.out.right HWP.out HPT.out (HI2.out.up HV3.out) HSB.out HSW.out r HR.out HRL.out).mono ?_); rintro e w4 ⟨v4, rfl, hown4, hup4⟩; obtain ⟨A4, c4, rfl, hi4, _⟩ := own_ints hown4; have HN4 := Aside0.mk hup4; have HV4 := Aside0.mk (up_trans HV3.out hup4); have HI4 := Aside0.mk hi4; have HL4 : Aside0 (∀ ad, A4 = some ad → w3.heap.size ≤ ad.block) := ⟨fun ad ha => (own_lt_some hown4 ha).1⟩; clear hown4 hup4 hi4) | (go_at_call 63; (with_reducible refine (Map_ok (HD.out.up HU2.out) HG.out A2 c2 s _ rfl fl HI2.out HSL.out HSW.out r HR.out HRL.out).mono ?_); rintro e w3 ⟨v3, rfl, hown3, hup3⟩; obtain ⟨Ay, cy, rfl, hi3, _⟩ := own_ints hown3; have HV3 := Aside0.mk hup3; have HI3 := Aside0.mk hi3; have HO3 := Aside0.mk hown3; have HT3 := Aside0.mk (HT.out.table.up (up_trans HU2.out HV3.out)); clear hown3 hup3 hi3) | (go_at_call 62; (with_reducible refine (few15_at Ax cx x s 200 200 rfl _ (HI1.out.up HU1.out) HX1.out HXC1.out (by decide) HS.out).mono ?_); rintro e w2 ⟨v2, rfl, hown2, hup2⟩; obtain ⟨A2, c2, rfl, hi2, _⟩ := own_ints hown2; have HU2 := Aside0.mk hup2; have HI2 := Aside0.mk hi2; have HL2 : Aside0 (∀ ad, A2 = some ad → ad.block < w2.heap.size) := ⟨fun ad ha => (own_lt_some hown2 ha).2⟩; clear hown2 hup2 hi2) | (go_at_call 20; (with_reducible refine HM.out.mono ?_); rintro e w1 ⟨bd, D, A3, c3, rfl, hD, hTab, hup1⟩; have HD := Aside0.mk hD; have HT := Aside0.mk hTab; have HU1 := Aside0.mk hup1; clear hD hTab hup1))
  obtain ⟨wb, hwb⟩ : ∃ wb, wb = w7 := ⟨_, rfl⟩
  subst hwb
  go_loopg [15, 16, 17] s.length (fun k v15 v16 v17 w' => ∃ i : Nat, v15 = .int .i64 i ∧ Aside0 (i + k = s.length) ∧ Aside0 (Up wb w'))
  case atStart => exact ⟨0, rfl, ⟨Nat.zero_add _⟩, ⟨up_refl _⟩⟩
  case round =>
    obtain ⟨i, rfl, HNI, HB⟩ := hrel
    cases gk with
    | zero =>
      have hlt : decide ((i : Int) < (s.length : Int)) = false := decide_eq_false (by have := HNI.out; omega)
      have hlt1 : ¬ (i < s.length) := by have := HNI.out; omega
      go_wp2
      obtain ⟨wc, hwc⟩ : ∃ wc, wc = wr := ⟨_, rfl⟩
      subst hwc
      have HBC := Aside0.mk (up_trans HV7.out HB.out)
      have HO4 : Aside0 (wc.ownsRow w2.heap.size 21 1 (.slice Ay r.length cy) r.length (r.map (Value.int .i32))) := ⟨own_up HO3.out (up_trans HN7.out HB.out)⟩
      have HI4c : Aside0 (Ints .i32 wc A4 r) := ⟨HI4.out.up (up_trans HM7.out HB.out)⟩
      have HLy : Aside0 (∀ ad, Ay = some ad → ad.block < w3.heap.size) := ⟨fun ad ha => (own_lt_some HO3.out ha).2⟩
      go_loopg [18] r.length (fun k v18 w' => ∃ (q : Nat) (l' : List Int), v18 = .int .i64 q ∧ Aside0 (q + k = r.length ∧ l'.length = r.length) ∧ Aside0 (w'.ownsRow w2.heap.size 21 1 (.slice Ay r.length cy) r.length (l'.map (Value.int .i32))) ∧ Aside0 (Up w2 w') ∧ Aside0 (Ints .i32 w' A4 r))
      case atStart => exact ⟨0, r, rfl, ⟨Nat.zero_add _, rfl⟩, HO4, HBC, HI4c⟩
      case round =>
        obtain ⟨q, l', rfl, HNQ, HOQ, HB, HI4r⟩ := hrel
        cases gk with
        | zero =>
          have hlt : decide ((q : Int) < (r.length : Int)) = false := decide_eq_false (by have := HNQ.out; omega)
          have hlt1 : ¬ (q < r.length) := by have := HNQ.out; omega
          have g1 : 0 ≤ (s.length : Int) := by omega
          have g2 : (s.length : Int) ≤ (cx : Int) := by have := HSX.out; have := HXC1.out; omega
          go_wp2_with (first | (go_at_call 30; (with_reducible refine (SameB_calls A2 Ax c2 cx s s _ (HI2.out.up HB12.out) (HXS.out.up (up_trans HU1.out (up_trans HU2.out HB12.out))) HSB2.out HSB2.out true HSS.out).mono ?_); rintro e w13 ⟨rfl, hup13⟩; have HB13 := Aside0.mk (up_trans HB12.out hup13); clear hup13) | (go_at_call 30; (with_reducible refine (SameB_calls A11 A4 c11 c4 r r _ HI11.out HJ11.out HRB.out HRB.out true HRR.out).mono ?_); rintro e w12 ⟨rfl, hup12⟩; have HB12 := Aside0.mk (up_trans HB11.out hup12); clear hup12) | (go_at_call 63; (with_reducible refine (Map_ok (HD.out.up (up_trans HU2.out HB.out)) HG.out A2 c2 s _ rfl fl (HI2.out.up HB.out) HSL.out HSW.out r HR.out HRL.out).mono ?_); rintro e w11 ⟨v11, rfl, hown11, hup11⟩; obtain ⟨A11, c11, rfl, hi11, _⟩ := own_ints hown11; have HB11 := Aside0.mk (up_trans HB.out hup11); have HI11 := Aside0.mk hi11; have HJ11 := Aside0.mk (HI4r.out.up hup11); clear hown11 hup11 hi11))
          go_ret
          exact ⟨rfl, up_trans HU1.out (up_trans HU2.out HB13.out)⟩
        | succ k2 =>
          have hlt : decide ((q : Int) < (r.length : Int)) = true := decide_eq_true (by have := HNQ.out; omega)
          have hlt1 : q < r.length := by have := HNQ.out; omega
          have q7 : 0 ≤ (q : Int) := by omega
          have q9 : (q : Int) < (r.length : Int) := by omega
          have hll := HRL.out
          obtain ⟨g, hg, hge⟩ := own_some HOQ.out (by omega)
          have HGE := Aside0.mk hge
          subst hg
          obtain ⟨y1, y2⟩ := own_at HOQ.out hlt1
          have HNE : Aside0 (∀ ad, A4 = some ad → ad.block ≠ g) := ⟨fun ad ha => by have h1 := HL4.out ad ha; have h2 := HLy.out ⟨g, 0, none⟩ rfl; simp at h2; omega⟩
          clear hge
          go_wp2
          go_roundg k2
          case measure => have := HNQ.out; omega
          case rel => exact ⟨q + 1, l'.set q (-9), rfl, ⟨by have := HNQ.out; omega, by have := HNQ.out; simp; omega⟩, ⟨own_put HOQ.out q (-9)⟩, ⟨HB.out.setCell HGE.out _⟩, ⟨ints_set HI4r.out g q _ HNE.out⟩⟩
    | succ k =>
      have hlt : decide ((i : Int) < (s.length : Int)) = true := decide_eq_true (by have := HNI.out; omega)
      have hlt1 : i < s.length := by have := HNI.out; omega
      have h9 : (i : Int) < (s.length : Int) := by omega
      have h7 : 0 ≤ (i : Int) := by omega
      have HIX : Aside0 (Ints .i32 wb A2 s) := ⟨HI2.out.up HV7.out⟩
      obtain ⟨ad, hAa, hca⟩ := HIX.out.at_ i (by omega) (by omega)
      rw [Int.toNat_natCast] at hca
      cases hAa
      have HAWa : Aside0 ((Lit.int .i32 (rd s i)).wf = true) := ⟨by rw [rd_elem s i (by omega)]; exact HSW.out _ (List.getElem_mem _)⟩
      have HARa := Aside0.mk (wf_i32 HAWa.out)
      obtain ⟨a, hxa⟩ : ∃ a, rd s i = a := ⟨_, rfl⟩
      have HXa := Aside0.mk hxa
      rw [hxa] at hca HARa HAWa
      have HCa := Aside0.mk hca
      replace hca := up_cell HB.out hca
      clear hxa
      obtain ⟨p, hp⟩ : ∃ p, oneF P fl a = p := ⟨_, rfl⟩
      have HP := Aside0.mk hp
      have HPL : Aside0 (p.length ≤ 35184372087808) := ⟨by have := oneF_len24 HG.out fl a; rw [hp] at this; omega⟩
      have HPP : Aside0 ((p == p) = true) := ⟨by simp⟩
      clear hp
      go_wp2_with (first | (go_at_call 30; (with_reducible refine (SameB_calls A8 A9 c8 c9 p p _ (HI8.out.up HN9.out) HI9.out HPL.out HPL.out true HPP.out).mono ?_); rintro e w10 ⟨rfl, hup10⟩; have HN10 := Aside0.mk (up_trans HN9.out hup10); have HB10 := Aside0.mk (up_trans HB9.out hup10); clear hup10) | (go_at_call 68; (with_reducible refine (ROne_calls A3 c3 P a fl _ (HT3.out.up (up_trans HN7.out HB8.out)) HG.out.right HWP.out HPT.out p HP.out HARa.out.1 HARa.out.2).mono ?_); rintro e w9 ⟨v9, rfl, hown9, hup9⟩; obtain ⟨A9, c9, rfl, hi9, _⟩ := own_ints hown9; have HN9 := Aside0.mk hup9; have HB9 := Aside0.mk (up_trans HB8.out hup9); have HI9 := Aside0.mk hi9; clear hown9 hup9 hi9) | (go_at_call 67; (with_reducible refine (One_calls (HD.out.up (up_trans HU2.out (up_trans HV7.out HB.out))) HG.out a fl p HP.out HARa.out.1 HARa.out.2).mono ?_); rintro e w8 ⟨v8, rfl, hown8, hup8⟩; obtain ⟨A8, c8, rfl, hi8, _⟩ := own_ints hown8; have HB8 := Aside0.mk (up_trans HB.out hup8); have HO8 := Aside0.mk hown8; have HI8 := Aside0.mk hi8; have hc2 := up_cell HB8.out HCa.out; clear hown8 hup8 hi8 hca))
      go_loopg [17] p.length (fun k v17 w' => ∃ (q : Nat) (l' : List Int), v17 = .int .i64 q ∧ Aside0 (q + k = p.length ∧ l'.length = p.length) ∧ Aside0 (w'.ownsRow wb.heap.size 21 1 (.slice A8 p.length c8) p.length (l'.map (Value.int .i32))) ∧ Aside0 (Up wb w'))
      case atStart => exact ⟨0, p, rfl, ⟨Nat.zero_add _, rfl⟩, ⟨own_mono (own_up HO8.out HN10.out) HB.out.size⟩, HB10⟩
      case round =>
        obtain ⟨q, l', rfl, HNQ, HOQ, HB20⟩ := hrel
        cases gk with
        | zero =>
          have hlt : decide ((q : Int) < (p.length : Int)) = false := decide_eq_false (by have := HNQ.out; omega)
          have hlt1 : ¬ (q < p.length) := by have := HNQ.out; omega
          have hi64 : (i : Int) < 4611686018427387904 := by have := HSL.out; omega
          have hw64 : wrap64 ((i : Int) + 1) = ((i + 1 : Nat) : Int) := by unfold wrap64; omega
          go_wp2
          go_roundg k
          case measure => have := HNI.out; omega
          case rel => exact ⟨i + 1, rfl, ⟨by have := HNI.out; omega⟩, HB20⟩
        | succ k2 =>
          have hlt : decide ((q : Int) < (p.length : Int)) = true := decide_eq_true (by have := HNQ.out; omega)
          have hlt1 : q < p.length := by have := HNQ.out; omega
          have q7 : 0 ≤ (q : Int) := by omega
          have q9 : (q : Int) < (p.length : Int) := by omega
          have hll := HPL.out
          obtain ⟨g, hg, hge⟩ := own_some HOQ.out (by omega)
          have HGE := Aside0.mk hge
          subst hg
          obtain ⟨y1, y2⟩ := own_at HOQ.out hlt1
          clear hge
          go_wp2
          go_roundg k2
          case measure => have := HNQ.out; omega
          case rel => exact ⟨q + 1, l'.set q (-9), rfl, ⟨by have := HNQ.out; omega, by have := HNQ.out; simp; omega⟩, ⟨own_put HOQ.out q (-9)⟩, ⟨HB20.out.setCell HGE.out _⟩⟩
end Go.Proofs.YthneeainigdmhaaGreat.M
