/- UcdOpens, walked. (printed by mkopens.py) -/
import Derived.Test.YthneeainigdmhaaGreatPOwnPut
import Derived.Test.YthneeainigdmhaaGreatPRef3
import Derived.Test.YthneeainigdmhaaGreatPSameB
import Derived.Test.YthneeainigdmhaaGreatK37
import Derived.Test.YthneeainigdmhaaGreatPJoin1
import Derived.OneCell
set_option linter.unusedVariables false
set_option linter.unusedSimpArgs false
namespace Go.Proofs.YthneeainigdmhaaGreat.M
open Go.RowKit
set_option maxHeartbeats 16000000
set_option maxRecDepth 100000

theorem openF_len9 {T : List Rec} (hG : Good T) (c : Int) : (openF T c).length ≤ 35184372087808 := by
  unfold openF
  split
  · simp
  · cases h : findR T 3 c with
    | none => simp
    | some x =>
      have hl := (hG.wf x (findR_some h).1).len
      show x.to.length ≤ _
      omega
theorem looksF_len {T : List Rec} (hG : Good T) (c : Int) : (looksF T c).length ≤ 35184372087808 := by
  unfold looksF
  cases h : findR T 8 c with
  | none => simp
  | some x =>
    have hl := (hG.wf x (findR_some h).1).len
    show x.to.length ≤ _
    omega
/-- A row of one's own is not in another's block. -/
theorem own_apart {w : World} {b1 b2 n1 n2 c1 c2 : Nat} {A1 : Option Addr} {g : Nat} {xs ys : List Value} (h1 : w.ownsRow b1 21 1 (.slice A1 n1 c1) n1 xs) (hg : g < b1 ∨ ∃ k, A1 = some ⟨k, 0, none⟩ ∧ k < b2 ∧ b2 ≤ g) : (Value.slice A1 n1 c1).ownBlock ≠ some g := by
  intro h
  rcases hg with hg | ⟨k, rfl, h2, h3⟩
  · have := (h1.lt g h).1
    omega
  · injection h with h
    have h : k = g := h
    omega
theorem UcdOpens_no (A : Option Addr) (c : Nat) (T : List Rec) (A1 : Option Addr) (n1 c1 : Nat) (w : World) (hT : Table w A T) (hW : ∀ x ∈ T, x.Wf) (hc : T.length ≤ c) (he : (checkE (T.take 150)).2 ≠ 0) :
    Calls Tryz.prog 8 #[.slice A T.length c, .slice A1 n1 c1] w fun e w' => e = .returned (.bool true) ∧ Up w w' := by
  have HM := Aside0.mk (Made_no A c T w hT hW hc he)
  clear hT hW hc he
  go_enter Tryz.func8, Tryz.ntmps8
  go_wp2_with (first | (go_at_call 20; (with_reducible refine HM.out.mono ?_); rintro e w1 ⟨rfl, hup1⟩) | (go_at_call 26; (with_reducible refine (told_calls _).mono ?_); rintro e w2 ⟨rfl, hup2⟩))
  go_ret
  exact ⟨rfl, up_trans hup1 hup2⟩
theorem UcdOpens_yes (A : Option Addr) (c : Nat) (T P : List Rec) (Ax : Option Addr) (x : List Int) (cx : Nat) (w : World) (hP : T.take 150 = P) (hT : Table w A T) (hW : ∀ x ∈ T, x.Wf) (hc : T.length ≤ c) (he : (checkE P).2 = 0)
    (hI1 : Ints .i32 w Ax x) (hx1 : x.length < 4611686018427387904) (hc1 : x.length ≤ cx) (hwf1 : ∀ z ∈ x, (Lit.int .i32 z).wf = true) :
    Calls Tryz.prog 8 #[.slice A T.length c, .slice Ax x.length cx] w fun e w' => e = .returned (.bool true) ∧ Up w w' := by
  have HM := Aside0.mk (Made_yes A c T P w hP hT hW hc he)
  have hWP : ∀ x ∈ P, x.Wf := fun x hx => hW x (by rw [← hP] at hx; exact List.mem_of_mem_take hx)
  have HF := Aside0.mk (fine_of hWP he)
  have HG := Aside0.mk (fine_of hWP he).toGood
  have HWP := Aside0.mk hWP
  have HPT : Aside0 (P.length ≤ 4096) := ⟨by rw [← hP, List.length_take]; omega⟩
  have HI1 := Aside0.mk hI1
  have HX1 := Aside0.mk hx1
  have HXC1 := Aside0.mk hc1
  have HWF1 := Aside0.mk hwf1
  clear hI1 hx1 hc1 hwf1
  obtain ⟨N, hN⟩ : ∃ N : Nat, N = min 40 x.length := ⟨_, rfl⟩
  have HN := Aside0.mk hN
  clear hT hW hc he hWP hP hN
  go_enter Tryz.func8, Tryz.ntmps8
  go_wp2_with (first | (go_at_call 20; (with_reducible refine HM.out.mono ?_); rintro e w1 ⟨bd, D, A3, c3, rfl, hD, hTab, hup1⟩; have HD := Aside0.mk hD; have HT := Aside0.mk hTab; have HU1 := Aside0.mk hup1; clear hD hTab hup1))
  have HIX : Aside0 (Ints .i32 w1 Ax x) := ⟨HI1.out.up HU1.out⟩
  have HTB := Aside0.mk HT.out.table
  go_loopg [8, 9, 10, 11, 12, 13, 14, 15, 16, 17, 18, 19, 20] N (fun k v8 v9 v10 v11 v12 v13 v14 v15 v16 v17 v18 v19 v20 w' => ∃ i : Nat, v8 = .int .i64 i ∧ Aside0 (i + k = N) ∧ Aside0 (Up w1 w'))
  case atStart => exact ⟨0, rfl, ⟨Nat.zero_add _⟩, ⟨up_refl _⟩⟩
  case round =>
    obtain ⟨i, rfl, HNI, HB⟩ := hrel
    cases gk with
    | zero =>
      have hx1 : ¬ (i < x.length) ∧ ¬ ((i : Int) < (x.length : Int)) ∨ i < x.length ∧ (i : Int) < (x.length : Int) ∧ ¬ (i < 40) ∧ ¬ ((i : Int) < 40) := by have := HNI.out; have := HN.out; omega
      rcases hx1 with ⟨h8, h9⟩ | ⟨h8, h9, h10, h11⟩
      all_goals
        go_wp2
        go_ret
        exact ⟨rfl, up_trans HU1.out HB.out⟩
    | succ k =>
      have hx1 : i < x.length := by have := HNI.out; have := HN.out; omega
      have h9 : (i : Int) < (x.length : Int) := by omega
      have h8 : (i : Int) < 40 := by have := HNI.out; have := HN.out; omega
      have h7 : 0 ≤ (i : Int) := by omega
      obtain ⟨wO, hwO⟩ : ∃ wO : World, wO = wr := ⟨_, rfl⟩
      subst hwO
      obtain ⟨ad, hAa, hca⟩ := HIX.out.at_ i (by omega) (by omega)
      rw [Int.toNat_natCast] at hca
      cases hAa
      have HAWa : Aside0 ((Lit.int .i32 (rd x i)).wf = true) := ⟨by rw [rd_elem x i (by omega)]; exact HWF1.out _ (List.getElem_mem _)⟩
      have HARa := Aside0.mk (wf_i32 HAWa.out)
      obtain ⟨a, hxa⟩ : ∃ a, rd x i = a := ⟨_, rfl⟩
      have HXa := Aside0.mk hxa
      rw [hxa] at hca HARa HAWa
      have HCa := Aside0.mk hca
      replace hca := up_cell HB.out hca
      clear hxa
      obtain ⟨lo, hlo⟩ : ∃ l, openF P a = l := ⟨_, rfl⟩
      obtain ⟨lf, hlf⟩ : ∃ l, fullL P a = l := ⟨_, rfl⟩
      obtain ⟨lk, hlk⟩ : ∃ l, looksF P a = l := ⟨_, rfl⟩
      obtain ⟨vs, hvs⟩ : ∃ v, secondF P a = v := ⟨_, rfl⟩
      have HOP := Aside0.mk hlo
      have HFL := Aside0.mk hlf
      have HLK := Aside0.mk hlk
      have HSE := Aside0.mk hvs
      have HLlo : Aside0 (lo.length ≤ 35184372087808) := ⟨by rw [← hlo]; exact openF_len9 HG.out a⟩
      have HLlf : Aside0 (lf.length ≤ 35184372087808) := ⟨by have := fullF_len (HF.out.full a); rw [hlf] at this; omega⟩
      have HLlk : Aside0 (lk.length ≤ 35184372087808) := ⟨by rw [← hlk]; exact looksF_len HG.out a⟩
      have HSMlo : Aside0 ((lo == lo) = true) := ⟨by simp⟩
      have HSMlf : Aside0 ((lf == lf) = true) := ⟨by simp⟩
      have HSMlk : Aside0 ((lk == lk) = true) := ⟨by simp⟩
      clear hlo hlf hlk hvs
      go_wp2
      have hs0 : wO.drew.cell? ⟨bd, 7, none⟩ = some (.map (some D.bo)) ∧ wO.drew.cell? ⟨bd, 8, none⟩ = some (.map (some D.bf)) ∧ wO.drew.cell? ⟨bd, 9, none⟩ = some (.map (some D.bl)) ∧ wO.drew.cell? ⟨bd, 10, none⟩ = some (.map (some D.bc)) ∧ wO.drew.cell? ⟨bd, 11, none⟩ = some (.map (some D.bs)) := ⟨(HD.out.up (up_drew HB.out)).all.2.1.1, (HD.out.up (up_drew HB.out)).all.2.1.2.1, (HD.out.up (up_drew HB.out)).all.2.1.2.2.1, (HD.out.up (up_drew HB.out)).all.2.1.2.2.2.1, (HD.out.up (up_drew HB.out)).all.2.1.2.2.2.2⟩
      go_region_held3 (fun w' => w'.cell? ⟨bd, 7, none⟩ = some (.map (some D.bo)) ∧ w'.cell? ⟨bd, 8, none⟩ = some (.map (some D.bf)) ∧ w'.cell? ⟨bd, 9, none⟩ = some (.map (some D.bl)) ∧ w'.cell? ⟨bd, 10, none⟩ = some (.map (some D.bc)) ∧ w'.cell? ⟨bd, 11, none⟩ = some (.map (some D.bs))) (first | exact hs0 | exact hs4 | exact hs5 | exact hs6) (first | (go_at_call 42; (with_reducible refine ((HD.out.up (up_drew HB.out)).Open HG.out a lo HOP.out HARa.out.1 HARa.out.2).mono ?_); rintro e w4 ⟨v4, rfl, hown4, hup4⟩; obtain ⟨A4, c4, rfl, hi4, _⟩ := own_ints hown4; have HB4 := Aside0.mk (up_trans (up_drew HB.out) hup4); have HS4 := Aside0.mk hup4; have HI4 := Aside0.mk hi4; have HO4 := Aside0.mk hown4; have hs4 : w4.cell? ⟨bd, 7, none⟩ = some (.map (some D.bo)) ∧ w4.cell? ⟨bd, 8, none⟩ = some (.map (some D.bf)) ∧ w4.cell? ⟨bd, 9, none⟩ = some (.map (some D.bl)) ∧ w4.cell? ⟨bd, 10, none⟩ = some (.map (some D.bc)) ∧ w4.cell? ⟨bd, 11, none⟩ = some (.map (some D.bs)) := ⟨(HD.out.up HB4.out).all.2.1.1, (HD.out.up HB4.out).all.2.1.2.1, (HD.out.up HB4.out).all.2.1.2.2.1, (HD.out.up HB4.out).all.2.1.2.2.2.1, (HD.out.up HB4.out).all.2.1.2.2.2.2⟩; clear hown4 hup4 hi4) | (go_at_call 44; (with_reducible refine ((HD.out.up HB4.out).Full HF.out a lf HFL.out HARa.out.1 HARa.out.2).mono ?_); rintro e w5 ⟨v5, rfl, hown5, hup5⟩; obtain ⟨A5, c5, rfl, hi5, _⟩ := own_ints hown5; have HB5 := Aside0.mk (up_trans HB4.out hup5); have HS5 := Aside0.mk hup5; have HI5 := Aside0.mk hi5; have HO5 := Aside0.mk hown5; have hs5 : w5.cell? ⟨bd, 7, none⟩ = some (.map (some D.bo)) ∧ w5.cell? ⟨bd, 8, none⟩ = some (.map (some D.bf)) ∧ w5.cell? ⟨bd, 9, none⟩ = some (.map (some D.bl)) ∧ w5.cell? ⟨bd, 10, none⟩ = some (.map (some D.bc)) ∧ w5.cell? ⟨bd, 11, none⟩ = some (.map (some D.bs)) := ⟨(HD.out.up HB5.out).all.2.1.1, (HD.out.up HB5.out).all.2.1.2.1, (HD.out.up HB5.out).all.2.1.2.2.1, (HD.out.up HB5.out).all.2.1.2.2.2.1, (HD.out.up HB5.out).all.2.1.2.2.2.2⟩; clear hown5 hup5 hi5) | (go_at_call 49; (with_reducible refine ((HD.out.up HB5.out).Looks HG.out a lk HLK.out HARa.out.1 HARa.out.2).mono ?_); rintro e w6 ⟨v6, rfl, hown6, hup6⟩; obtain ⟨A6, c6, rfl, hi6, _⟩ := own_ints hown6; have HB6 := Aside0.mk (up_trans HB5.out hup6); have HS6 := Aside0.mk hup6; have HI6 := Aside0.mk hi6; have HO6 := Aside0.mk hown6; have hs6 : w6.cell? ⟨bd, 7, none⟩ = some (.map (some D.bo)) ∧ w6.cell? ⟨bd, 8, none⟩ = some (.map (some D.bf)) ∧ w6.cell? ⟨bd, 9, none⟩ = some (.map (some D.bl)) ∧ w6.cell? ⟨bd, 10, none⟩ = some (.map (some D.bc)) ∧ w6.cell? ⟨bd, 11, none⟩ = some (.map (some D.bs)) := ⟨(HD.out.up HB6.out).all.2.1.1, (HD.out.up HB6.out).all.2.1.2.1, (HD.out.up HB6.out).all.2.1.2.2.1, (HD.out.up HB6.out).all.2.1.2.2.2.1, (HD.out.up HB6.out).all.2.1.2.2.2.2⟩; clear hown6 hup6 hi6))
      clear hs0 hs4 hs5 hs6
      have HN6 := Aside0.mk (up_refl w6)
      obtain ⟨⟨a0, a1, a2, a3, a4, a5, a6⟩, ⟨a7, a8, a9, a10, a11⟩, a12, a13, a14, a15, a16⟩ := (HD.out.up HB6.out).all
      go_wp2_with (first | (go_at_call 53; (with_reducible refine (TSecond_calls A3 c3 P a _ (HTB.out.up HB13.out) HG.out.right HWP.out HPT.out HARa.out.1 HARa.out.2 vs HSE.out).mono ?_); rintro e w14 ⟨rfl, hup14⟩; have HN14 := Aside0.mk (up_trans HN13.out hup14); have HB14 := Aside0.mk (up_trans HB13.out hup14); obtain ⟨⟨a0, a1, a2, a3, a4, a5, a6⟩, ⟨a7, a8, a9, a10, a11⟩, a12, a13, a14, a15, a16⟩ := (HD.out.up HB14.out).all; clear hup14) | (go_at_call 43; (with_reducible refine ((HD.out.up HB12.out).Second a vs HSE.out HARa.out.1 HARa.out.2).mono ?_); rintro e w13 ⟨rfl, hup13⟩; have HN13 := Aside0.mk (up_trans HN12.out hup13); have HB13 := Aside0.mk (up_trans HB12.out hup13); obtain ⟨⟨a0, a1, a2, a3, a4, a5, a6⟩, ⟨a7, a8, a9, a10, a11⟩, a12, a13, a14, a15, a16⟩ := (HD.out.up HB13.out).all; clear hup13) | (go_at_call 30; (with_reducible refine (SameB_calls A6 A11 c6 c11 lk lk _ (HI6.out.up HN11.out) HI11.out HLlk.out HLlk.out true HSMlk.out).mono ?_); rintro e w12 ⟨rfl, hup12⟩; have HN12 := Aside0.mk (up_trans HN11.out hup12); have HB12 := Aside0.mk (up_trans HB11.out hup12); obtain ⟨⟨a0, a1, a2, a3, a4, a5, a6⟩, ⟨a7, a8, a9, a10, a11⟩, a12, a13, a14, a15, a16⟩ := (HD.out.up HB12.out).all; clear hup12) | (go_at_call 52; (with_reducible refine (TLooks_calls A3 c3 P a _ (HTB.out.up HB10.out) HG.out.right HWP.out HPT.out HARa.out.1 HARa.out.2 lk HLK.out).mono ?_); rintro e w11 ⟨v11, rfl, hown11, hup11⟩; obtain ⟨A11, c11, rfl, hi11, _⟩ := own_ints hown11; have HN11 := Aside0.mk (up_trans HN10.out hup11); have HB11 := Aside0.mk (up_trans HB10.out hup11); have HI11 := Aside0.mk hi11; obtain ⟨⟨a0, a1, a2, a3, a4, a5, a6⟩, ⟨a7, a8, a9, a10, a11⟩, a12, a13, a14, a15, a16⟩ := (HD.out.up HB11.out).all; clear hown11 hup11 hi11) | (go_at_call 30; (with_reducible refine (SameB_calls A5 A9 c5 c9 lf lf _ (HI5.out.up (up_trans HS6.out HN9.out)) HI9.out HLlf.out HLlf.out true HSMlf.out).mono ?_); rintro e w10 ⟨rfl, hup10⟩; have HN10 := Aside0.mk (up_trans HN9.out hup10); have HB10 := Aside0.mk (up_trans HB9.out hup10); obtain ⟨⟨a0, a1, a2, a3, a4, a5, a6⟩, ⟨a7, a8, a9, a10, a11⟩, a12, a13, a14, a15, a16⟩ := (HD.out.up HB10.out).all; clear hup10) | (go_at_call 51; (with_reducible refine (TFull_calls A3 c3 P a _ (HTB.out.up HB8.out) HG.out.right HWP.out HPT.out HARa.out.1 HARa.out.2 HF.out lf HFL.out).mono ?_); rintro e w9 ⟨v9, rfl, hown9, hup9⟩; obtain ⟨A9, c9, rfl, hi9, _⟩ := own_ints hown9; have HN9 := Aside0.mk (up_trans HN8.out hup9); have HB9 := Aside0.mk (up_trans HB8.out hup9); have HI9 := Aside0.mk hi9; obtain ⟨⟨a0, a1, a2, a3, a4, a5, a6⟩, ⟨a7, a8, a9, a10, a11⟩, a12, a13, a14, a15, a16⟩ := (HD.out.up HB9.out).all; clear hown9 hup9 hi9) | (go_at_call 30; (with_reducible refine (SameB_calls A4 A7 c4 c7 lo lo _ (HI4.out.up (up_trans HS5.out (up_trans HS6.out HN7.out))) HI7.out HLlo.out HLlo.out true HSMlo.out).mono ?_); rintro e w8 ⟨rfl, hup8⟩; have HN8 := Aside0.mk (up_trans HN7.out hup8); have HB8 := Aside0.mk (up_trans HB7.out hup8); obtain ⟨⟨a0, a1, a2, a3, a4, a5, a6⟩, ⟨a7, a8, a9, a10, a11⟩, a12, a13, a14, a15, a16⟩ := (HD.out.up HB8.out).all; clear hup8) | (go_at_call 50; (with_reducible refine (TOpen_calls A3 c3 P a _ (HTB.out.up HB6.out) HG.out.right HWP.out HPT.out HARa.out.1 HARa.out.2 lo HOP.out).mono ?_); rintro e w7 ⟨v7, rfl, hown7, hup7⟩; obtain ⟨A7, c7, rfl, hi7, _⟩ := own_ints hown7; have HN7 := Aside0.mk (up_trans HN6.out hup7); have HB7 := Aside0.mk (up_trans HB6.out hup7); have HI7 := Aside0.mk hi7; obtain ⟨⟨a0, a1, a2, a3, a4, a5, a6⟩, ⟨a7, a8, a9, a10, a11⟩, a12, a13, a14, a15, a16⟩ := (HD.out.up HB7.out).all; clear hown7 hup7 hi7))
      have HO4b := Aside0.mk (own_up HO4.out (up_trans HS5.out (up_trans HS6.out HN14.out)))
      have HO5b := Aside0.mk (own_up HO5.out (up_trans HS6.out HN14.out))
      have HO6b := Aside0.mk (own_up HO6.out HN14.out)
      have HLB13 : Aside0 (w1.heap.size ≤ (wO.heap.size)) := ⟨HB.out.size⟩
      have HLB14 : Aside0 (w1.heap.size ≤ (w4.heap.size)) := ⟨HB4.out.size⟩
      have HLB15 : Aside0 (w1.heap.size ≤ (w5.heap.size)) := ⟨HB5.out.size⟩
      have HLE130 : Aside0 ((w4.heap.size) ≤ (w4.heap.size)) := ⟨Nat.le_refl _⟩
      have HLE131 : Aside0 ((w4.heap.size) ≤ (w5.heap.size)) := ⟨HS5.out.size⟩
      have HLE140 : Aside0 ((w5.heap.size) ≤ (w5.heap.size)) := ⟨Nat.le_refl _⟩
      go_loopg [13] lo.length (fun k v13 w' => ∃ (q : Nat) (l' : List Int), v13 = .int .i64 q ∧ Aside0 (q + k = lo.length ∧ l'.length = lo.length) ∧ Aside0 (w'.ownsRow (wO.heap.size) 21 1 (.slice A4 lo.length c4) lo.length (l'.map (Value.int .i32))) ∧ Aside0 (w'.ownsRow (w4.heap.size) 21 1 (.slice A5 lf.length c5) lf.length (lf.map (Value.int .i32))) ∧ Aside0 (w'.ownsRow (w5.heap.size) 21 1 (.slice A6 lk.length c6) lk.length (lk.map (Value.int .i32))) ∧ Aside0 (Up w1 w'))
      case atStart => exact ⟨0, lo, rfl, ⟨Nat.zero_add _, rfl⟩, HO4b, HO5b, HO6b, HB14⟩
      case round =>
        obtain ⟨q, l', rfl, HNQ, HOQ, HOy, HOz, HBW13⟩ := hrel
        cases gk with
        | zero =>
          have hlt : decide ((q : Int) < (lo.length : Int)) = false := decide_eq_false (by have := HNQ.out; omega)
          have hlt1 : ¬ (q < lo.length) := by have := HNQ.out; omega
          go_wp2
          go_loopg [14] lf.length (fun k v14 w' => ∃ (q : Nat) (l' : List Int), v14 = .int .i64 q ∧ Aside0 (q + k = lf.length ∧ l'.length = lf.length) ∧ Aside0 (w'.ownsRow (w4.heap.size) 21 1 (.slice A5 lf.length c5) lf.length (l'.map (Value.int .i32))) ∧ Aside0 (w'.ownsRow (w5.heap.size) 21 1 (.slice A6 lk.length c6) lk.length (lk.map (Value.int .i32))) ∧ Aside0 (Up w1 w'))
          case atStart => exact ⟨0, lf, rfl, ⟨Nat.zero_add _, rfl⟩, HOy, HOz, HBW13⟩
          case round =>
            obtain ⟨q, l', rfl, HNQ, HOQ, HOz, HBW14⟩ := hrel
            cases gk with
            | zero =>
              have hlt : decide ((q : Int) < (lf.length : Int)) = false := decide_eq_false (by have := HNQ.out; omega)
              have hlt1 : ¬ (q < lf.length) := by have := HNQ.out; omega
              go_wp2
              go_loopg [15] lk.length (fun k v15 w' => ∃ (q : Nat) (l' : List Int), v15 = .int .i64 q ∧ Aside0 (q + k = lk.length ∧ l'.length = lk.length) ∧ Aside0 (w'.ownsRow (w5.heap.size) 21 1 (.slice A6 lk.length c6) lk.length (l'.map (Value.int .i32))) ∧ Aside0 (Up w1 w'))
              case atStart => exact ⟨0, lk, rfl, ⟨Nat.zero_add _, rfl⟩, HOz, HBW14⟩
              case round =>
                obtain ⟨q, l', rfl, HNQ, HOQ, HBW15⟩ := hrel
                cases gk with
                | zero =>
                  have hlt : decide ((q : Int) < (lk.length : Int)) = false := decide_eq_false (by have := HNQ.out; omega)
                  have hlt1 : ¬ (q < lk.length) := by have := HNQ.out; omega
                  have HB20 := HBW15
                  obtain ⟨⟨a0, a1, a2, a3, a4, a5, a6⟩, ⟨a7, a8, a9, a10, a11⟩, a12, a13, a14, a15, a16⟩ := (HD.out.up HB20.out).all
                  go_upto_region 25 with (first | (go_at_call 30; (with_reducible refine (SameB_calls A27 A28 c27 c28 lk lk _ (HI27.out.up HN28.out) HI28.out HLlk.out HLlk.out true HSMlk.out).mono ?_); rintro e w29 ⟨rfl, hup29⟩; have HN29 := Aside0.mk (up_trans HN28.out hup29); have HB29 := Aside0.mk (up_trans HB28.out hup29); obtain ⟨⟨a0, a1, a2, a3, a4, a5, a6⟩, ⟨a7, a8, a9, a10, a11⟩, a12, a13, a14, a15, a16⟩ := (HD.out.up HB29.out).all; clear hup29) | (go_at_call 52; (with_reducible refine (TLooks_calls A3 c3 P a _ (HTB.out.up HB27.out) HG.out.right HWP.out HPT.out HARa.out.1 HARa.out.2 lk HLK.out).mono ?_); rintro e w28 ⟨v28, rfl, hown28, hup28⟩; obtain ⟨A28, c28, rfl, hi28, _⟩ := own_ints hown28; have HN28 := Aside0.mk (up_trans HN27.out hup28); have HB28 := Aside0.mk (up_trans HB27.out hup28); have HI28 := Aside0.mk hi28; obtain ⟨⟨a0, a1, a2, a3, a4, a5, a6⟩, ⟨a7, a8, a9, a10, a11⟩, a12, a13, a14, a15, a16⟩ := (HD.out.up HB28.out).all; clear hown28 hup28 hi28) | (go_at_call 49; (with_reducible refine ((HD.out.up HB26.out).Looks HG.out a lk HLK.out HARa.out.1 HARa.out.2).mono ?_); rintro e w27 ⟨v27, rfl, hown27, hup27⟩; obtain ⟨A27, c27, rfl, hi27, _⟩ := own_ints hown27; have HB27 := Aside0.mk (up_trans HB26.out hup27); have HS27 := Aside0.mk hup27; have HN27 := Aside0.mk (up_refl w27); have HI27 := Aside0.mk hi27; have HO27 := Aside0.mk hown27; obtain ⟨⟨a0, a1, a2, a3, a4, a5, a6⟩, ⟨a7, a8, a9, a10, a11⟩, a12, a13, a14, a15, a16⟩ := (HD.out.up HB27.out).all; clear hown27 hup27 hi27) | (go_at_call 30; (with_reducible refine (SameB_calls A24 A25 c24 c25 lf lf _ (HI24.out.up HN25.out) HI25.out HLlf.out HLlf.out true HSMlf.out).mono ?_); rintro e w26 ⟨rfl, hup26⟩; have HN26 := Aside0.mk (up_trans HN25.out hup26); have HB26 := Aside0.mk (up_trans HB25.out hup26); obtain ⟨⟨a0, a1, a2, a3, a4, a5, a6⟩, ⟨a7, a8, a9, a10, a11⟩, a12, a13, a14, a15, a16⟩ := (HD.out.up HB26.out).all; clear hup26) | (go_at_call 51; (with_reducible refine (TFull_calls A3 c3 P a _ (HTB.out.up HB24.out) HG.out.right HWP.out HPT.out HARa.out.1 HARa.out.2 HF.out lf HFL.out).mono ?_); rintro e w25 ⟨v25, rfl, hown25, hup25⟩; obtain ⟨A25, c25, rfl, hi25, _⟩ := own_ints hown25; have HN25 := Aside0.mk (up_trans HN24.out hup25); have HB25 := Aside0.mk (up_trans HB24.out hup25); have HI25 := Aside0.mk hi25; obtain ⟨⟨a0, a1, a2, a3, a4, a5, a6⟩, ⟨a7, a8, a9, a10, a11⟩, a12, a13, a14, a15, a16⟩ := (HD.out.up HB25.out).all; clear hown25 hup25 hi25) | (go_at_call 44; (with_reducible refine ((HD.out.up HB23.out).Full HF.out a lf HFL.out HARa.out.1 HARa.out.2).mono ?_); rintro e w24 ⟨v24, rfl, hown24, hup24⟩; obtain ⟨A24, c24, rfl, hi24, _⟩ := own_ints hown24; have HB24 := Aside0.mk (up_trans HB23.out hup24); have HS24 := Aside0.mk hup24; have HN24 := Aside0.mk (up_refl w24); have HI24 := Aside0.mk hi24; have HO24 := Aside0.mk hown24; obtain ⟨⟨a0, a1, a2, a3, a4, a5, a6⟩, ⟨a7, a8, a9, a10, a11⟩, a12, a13, a14, a15, a16⟩ := (HD.out.up HB24.out).all; clear hown24 hup24 hi24) | (go_at_call 30; (with_reducible refine (SameB_calls A21 A22 c21 c22 lo lo _ (HI21.out.up HN22.out) HI22.out HLlo.out HLlo.out true HSMlo.out).mono ?_); rintro e w23 ⟨rfl, hup23⟩; have HN23 := Aside0.mk (up_trans HN22.out hup23); have HB23 := Aside0.mk (up_trans HB22.out hup23); obtain ⟨⟨a0, a1, a2, a3, a4, a5, a6⟩, ⟨a7, a8, a9, a10, a11⟩, a12, a13, a14, a15, a16⟩ := (HD.out.up HB23.out).all; clear hup23) | (go_at_call 50; (with_reducible refine (TOpen_calls A3 c3 P a _ (HTB.out.up HB21.out) HG.out.right HWP.out HPT.out HARa.out.1 HARa.out.2 lo HOP.out).mono ?_); rintro e w22 ⟨v22, rfl, hown22, hup22⟩; obtain ⟨A22, c22, rfl, hi22, _⟩ := own_ints hown22; have HN22 := Aside0.mk (up_trans HN21.out hup22); have HB22 := Aside0.mk (up_trans HB21.out hup22); have HI22 := Aside0.mk hi22; obtain ⟨⟨a0, a1, a2, a3, a4, a5, a6⟩, ⟨a7, a8, a9, a10, a11⟩, a12, a13, a14, a15, a16⟩ := (HD.out.up HB22.out).all; clear hown22 hup22 hi22) | (go_at_call 42; (with_reducible refine ((HD.out.up HB20.out).Open HG.out a lo HOP.out HARa.out.1 HARa.out.2).mono ?_); rintro e w21 ⟨v21, rfl, hown21, hup21⟩; obtain ⟨A21, c21, rfl, hi21, _⟩ := own_ints hown21; have HB21 := Aside0.mk (up_trans HB20.out hup21); have HS21 := Aside0.mk hup21; have HN21 := Aside0.mk (up_refl w21); have HI21 := Aside0.mk hi21; have HO21 := Aside0.mk hown21; obtain ⟨⟨a0, a1, a2, a3, a4, a5, a6⟩, ⟨a7, a8, a9, a10, a11⟩, a12, a13, a14, a15, a16⟩ := (HD.out.up HB21.out).all; clear hown21 hup21 hi21))
                  go_wp2
                  go_loopg [16, 17, 18, 19, 20] N (fun k v16 v17 v18 v19 v20 w' => ∃ j : Nat, v16 = .int .i64 j ∧ Aside0 (j + k = N) ∧ Aside0 (Up w1 w'))
                  case atStart => exact ⟨0, rfl, ⟨Nat.zero_add _⟩, HB29⟩
                  case round =>
                    obtain ⟨j, rfl, HNJ, HBJ⟩ := hrel
                    cases gk with
                    | zero =>
                      have hx2 : ¬ (j < x.length) ∧ ¬ ((j : Int) < (x.length : Int)) ∨ j < x.length ∧ (j : Int) < (x.length : Int) ∧ ¬ (j < 40) ∧ ¬ ((j : Int) < 40) := by have := HNJ.out; have := HN.out; omega
                      rcases hx2 with ⟨g8, g9⟩ | ⟨g8, g9, g10, g11⟩
                      all_goals
                        go_wp2
                        go_roundg k
                        case measure => have := HNI.out; omega
                        case rel => exact ⟨i + 1, rfl, ⟨by have := HNI.out; omega⟩, HBJ⟩
                    | succ kj =>
                      have gx1 : j < x.length := by have := HNJ.out; have := HN.out; omega
                      have g9 : (j : Int) < (x.length : Int) := by omega
                      have g8 : (j : Int) < 40 := by have := HNJ.out; have := HN.out; omega
                      have g7 : 0 ≤ (j : Int) := by omega
                      obtain ⟨ae, hAb, hcb⟩ := HIX.out.at_ j (by omega) (by omega)
                      rw [Int.toNat_natCast] at hcb
                      cases hAb
                      have HAWb : Aside0 ((Lit.int .i32 (rd x j)).wf = true) := ⟨by rw [rd_elem x j (by omega)]; exact HWF1.out _ (List.getElem_mem _)⟩
                      have HARb := Aside0.mk (wf_i32 HAWb.out)
                      obtain ⟨b, hxb⟩ : ∃ b, rd x j = b := ⟨_, rfl⟩
                      have HXb := Aside0.mk hxb
                      rw [hxb] at hcb HARb HAWb
                      have HCb := Aside0.mk hcb
                      replace hcb := up_cell HBJ.out hcb
                      clear hxb
                      obtain ⟨⟨p, ok⟩, hco⟩ : ∃ r, compF P a b = r := ⟨_, rfl⟩
                      have HCO := Aside0.mk hco
                      clear hcb hco
                      go_wp2
                      have hs0 : wr.drew.cell? ⟨bd, 7, none⟩ = some (.map (some D.bo)) ∧ wr.drew.cell? ⟨bd, 8, none⟩ = some (.map (some D.bf)) ∧ wr.drew.cell? ⟨bd, 9, none⟩ = some (.map (some D.bl)) ∧ wr.drew.cell? ⟨bd, 10, none⟩ = some (.map (some D.bc)) ∧ wr.drew.cell? ⟨bd, 11, none⟩ = some (.map (some D.bs)) ∧ wr.drew.cell? (ad.add j) = some (.int .i32 b) := ⟨(HD.out.up (up_drew HBJ.out)).all.2.1.1, (HD.out.up (up_drew HBJ.out)).all.2.1.2.1, (HD.out.up (up_drew HBJ.out)).all.2.1.2.2.1, (HD.out.up (up_drew HBJ.out)).all.2.1.2.2.2.1, (HD.out.up (up_drew HBJ.out)).all.2.1.2.2.2.2, up_cell (up_drew HBJ.out) HCb.out⟩
                      go_region_held3 (fun w' => w'.cell? ⟨bd, 7, none⟩ = some (.map (some D.bo)) ∧ w'.cell? ⟨bd, 8, none⟩ = some (.map (some D.bf)) ∧ w'.cell? ⟨bd, 9, none⟩ = some (.map (some D.bl)) ∧ w'.cell? ⟨bd, 10, none⟩ = some (.map (some D.bc)) ∧ w'.cell? ⟨bd, 11, none⟩ = some (.map (some D.bs)) ∧ w'.cell? (ad.add j) = some (.int .i32 b)) (first | exact hs0 | exact hs1) (first | (go_at_call 41; (with_reducible refine ((HD.out.up (up_drew HBJ.out)).Compose a b p ok HCO.out HARa.out.1 HARa.out.2 HARb.out.1 HARb.out.2).mono ?_); rintro e w30 ⟨rfl, hup30⟩; have HB30 := Aside0.mk (up_trans (up_drew HBJ.out) hup30); have hs1 : w30.cell? ⟨bd, 7, none⟩ = some (.map (some D.bo)) ∧ w30.cell? ⟨bd, 8, none⟩ = some (.map (some D.bf)) ∧ w30.cell? ⟨bd, 9, none⟩ = some (.map (some D.bl)) ∧ w30.cell? ⟨bd, 10, none⟩ = some (.map (some D.bc)) ∧ w30.cell? ⟨bd, 11, none⟩ = some (.map (some D.bs)) ∧ w30.cell? (ad.add j) = some (.int .i32 b) := ⟨(HD.out.up HB30.out).all.2.1.1, (HD.out.up HB30.out).all.2.1.2.1, (HD.out.up HB30.out).all.2.1.2.2.1, (HD.out.up HB30.out).all.2.1.2.2.2.1, (HD.out.up HB30.out).all.2.1.2.2.2.2, up_cell HB30.out HCb.out⟩; clear hup30))
                      have hcb30 := hs1.2.2.2.2.2
                      clear hs0 hs1
                      go_wp2_with (first | (go_at_call 54; (with_reducible refine (TCompose_calls A3 c3 P a b _ (HTB.out.up HB30.out) HG.out.right HWP.out HPT.out HARa.out.1 HARa.out.2 HARb.out.1 HARb.out.2 p ok HCO.out).mono ?_); rintro e w31 ⟨rfl, hup31⟩; have HB31 := Aside0.mk (up_trans HB30.out hup31); clear hup31))
                      go_roundg kj
                      case measure => have := HNJ.out; omega
                      case rel => exact ⟨j + 1, rfl, ⟨by have := HNJ.out; omega⟩, HB31⟩
                | succ k2 =>
                  have hlt : decide ((q : Int) < (lk.length : Int)) = true := decide_eq_true (by have := HNQ.out; omega)
                  have hlt1 : q < lk.length := by have := HNQ.out; omega
                  have q7 : 0 ≤ (q : Int) := by omega
                  have q9 : (q : Int) < (lk.length : Int) := by omega
                  have hll := HLlk.out
                  obtain ⟨g, hg, hge⟩ := own_some HOQ.out (by omega)
                  have HGE := Aside0.mk hge
                  subst hg
                  skip
                  obtain ⟨y1, y2⟩ := own_at HOQ.out hlt1
                  clear hge
                  go_wp2
                  go_roundg k2
                  case measure => have := HNQ.out; omega
                  case rel => exact ⟨q + 1, l'.set q (-9), rfl, ⟨by have := HNQ.out; omega, by have := HNQ.out; simp; omega⟩, ⟨own_put HOQ.out q (-9)⟩, ⟨HBW15.out.setCell (Nat.le_trans HLB15.out HGE.out) _⟩⟩
            | succ k2 =>
              have hlt : decide ((q : Int) < (lf.length : Int)) = true := decide_eq_true (by have := HNQ.out; omega)
              have hlt1 : q < lf.length := by have := HNQ.out; omega
              have q7 : 0 ≤ (q : Int) := by omega
              have q9 : (q : Int) < (lf.length : Int) := by omega
              have hll := HLlf.out
              obtain ⟨g, hg, hge⟩ := own_some HOQ.out (by omega)
              have HGE := Aside0.mk hge
              subst hg
              have HGL : Aside0 (g < (w5.heap.size)) := ⟨(HO5.out.lt g rfl).2⟩
              obtain ⟨y1, y2⟩ := own_at HOQ.out hlt1
              clear hge
              go_wp2
              go_roundg k2
              case measure => have := HNQ.out; omega
              case rel => exact ⟨q + 1, l'.set q (-9), rfl, ⟨by have := HNQ.out; omega, by have := HNQ.out; simp; omega⟩, ⟨own_put HOQ.out q (-9)⟩, ⟨ownsRow_setCell_other HOz.out (own_apart (b1 := (w5.heap.size)) (b2 := (w5.heap.size)) (n2 := 0) (c2 := 0) (ys := []) HOz.out (.inl (Nat.lt_of_lt_of_le HGL.out HLE140.out))) _⟩, ⟨HBW14.out.setCell (Nat.le_trans HLB14.out HGE.out) _⟩⟩
        | succ k2 =>
          have hlt : decide ((q : Int) < (lo.length : Int)) = true := decide_eq_true (by have := HNQ.out; omega)
          have hlt1 : q < lo.length := by have := HNQ.out; omega
          have q7 : 0 ≤ (q : Int) := by omega
          have q9 : (q : Int) < (lo.length : Int) := by omega
          have hll := HLlo.out
          obtain ⟨g, hg, hge⟩ := own_some HOQ.out (by omega)
          have HGE := Aside0.mk hge
          subst hg
          have HGL : Aside0 (g < (w4.heap.size)) := ⟨(HO4.out.lt g rfl).2⟩
          obtain ⟨y1, y2⟩ := own_at HOQ.out hlt1
          clear hge
          go_wp2
          go_roundg k2
          case measure => have := HNQ.out; omega
          case rel => exact ⟨q + 1, l'.set q (-9), rfl, ⟨by have := HNQ.out; omega, by have := HNQ.out; simp; omega⟩, ⟨own_put HOQ.out q (-9)⟩, ⟨ownsRow_setCell_other HOy.out (own_apart (b1 := (w4.heap.size)) (b2 := (w4.heap.size)) (n2 := 0) (c2 := 0) (ys := []) HOy.out (.inl (Nat.lt_of_lt_of_le HGL.out HLE130.out))) _⟩, ⟨ownsRow_setCell_other HOz.out (own_apart (b1 := (w5.heap.size)) (b2 := (w5.heap.size)) (n2 := 0) (c2 := 0) (ys := []) HOz.out (.inl (Nat.lt_of_lt_of_le HGL.out HLE131.out))) _⟩, ⟨HBW13.out.setCell (Nat.le_trans HLB13.out HGE.out) _⟩⟩
end Go.Proofs.YthneeainigdmhaaGreat.M
