/- BidiRules, walked. -/
import Derived.Test.YthneeainigdmhaaGreatPInRows
import Derived.Test.YthneeainigdmhaaGreatPRef17R
import Derived.Test.YthneeainigdmhaaGreatK37
set_option linter.unusedVariables false
set_option linter.unusedSimpArgs false
namespace Go.Proofs.YthneeainigdmhaaGreat.M
open Go.RowKit
set_option maxHeartbeats 16000000
set_option maxRecDepth 100000

theorem own_room {w : World} {base : Nat} {t : TypeId} {s : Nat} {A : Option Addr} {n c : Nat} {xs : List Value} (h : w.ownsRow base t s (.slice A n c) n xs) : n ≤ c := by
  rcases h.2 with ⟨hv, hn⟩ | ⟨g, cap, cur, hv, _, _, hc, _⟩
  · omega
  · cases hv; exact hc
theorem Domain_len {H : Nat} {w : World} {bd : Nat} {D : DataV} {T : List Rec} (hD : DataAt H w bd D T) (hG : Good T) (A : Option Addr) (c : Nat) (M : List (List Int)) (n : Nat) (hn : M.length = n) (hI : MatAt w A M) (hx : n ≤ 100) (b : Bool) (hb : hasM (bdF T) M = b) :
    Calls Tryz.prog 57 #[.pointer (some ⟨bd, 0, none⟩), .slice A n c] w fun e w' => e = .returned (.bool b) ∧ Up w w' := by
  subst hn
  exact Domain_calls hD hG A c M hI (by omega) b hb
theorem Domain_nil_len (A : Option Addr) (c : Nat) (M : List (List Int)) (n : Nat) (hn : M.length = n) (w : World) (hI : MatAt w A M) (hx : n ≤ 100) :
    Calls Tryz.prog 57 #[.pointer none, .slice A n c] w fun e w' => e = .returned (.bool false) ∧ Up w w' := by
  subst hn
  exact Domain_nil A c M w hI (by omega)
theorem RDomain_len (At : Option Addr) (ct : Nat) (T : List Rec) (A : Option Addr) (c : Nat) (M : List (List Int)) (n : Nat) (hn : M.length = n) (w : World) (hT : Table w At T) (hR : ∀ x ∈ T, Right x) (hW : ∀ x ∈ T, x.Wf) (hl : T.length ≤ 4096) (hI : MatAt w A M) (hx : n ≤ 100) (b : Bool) (hb : hasM (bdF T) M = b) :
    Calls Tryz.prog 58 #[.slice At T.length ct, .slice A n c] w fun e w' => e = .returned (.bool b) ∧ Up w w' := by
  subst hn
  exact RDomain_calls At ct T A c M w hT hR hW hl hI (by omega) b hb
theorem BidiRules_no (A : Option Addr) (c : Nat) (T : List Rec) (A1 : Option Addr) (n1 c1 : Nat) (w : World) (hT : Table w A T) (hW : ∀ x ∈ T, x.Wf) (hc : T.length ≤ c) (he : (checkE (T.take 150)).2 ≠ 0) :
    Calls Tryz.prog 9 #[.slice A T.length c, .slice A1 n1 c1] w fun e w' => e = .returned (.bool true) ∧ Up w w' := by
  have HM := Aside0.mk (Made_no A c T w hT hW hc he)
  clear hT hW hc he
  go_enter Tryz.func9, Tryz.ntmps9
  go_wp2_with (first | (go_at_call 20; (with_reducible refine HM.out.mono ?_); rintro e w1 ⟨rfl, hup1⟩) | (go_at_call 45; (with_reducible refine (told17_calls _).mono ?_); rintro e w2 ⟨rfl, hup2⟩))
  go_ret
  exact ⟨rfl, up_trans hup1 hup2⟩
theorem BidiRules_yes (A : Option Addr) (c : Nat) (T P : List Rec) (Al : Option Addr) (M : List (List Int)) (cl : Nat) (w : World) (hP : T.take 150 = P) (hT : Table w A T) (hW : ∀ x ∈ T, x.Wf) (hc : T.length ≤ c) (he : (checkE P).2 = 0)
    (hI1 : MatAt w Al M) (hx1 : M.length < 4611686018427387904) :
    Calls Tryz.prog 9 #[.slice A T.length c, .slice Al M.length cl] w fun e w' => e = .returned (.bool true) ∧ Up w w' := by
  have HM := Aside0.mk (Made_yes A c T P w hP hT hW hc he)
  have hWP : ∀ x ∈ P, x.Wf := fun x hx => hW x (by rw [← hP] at hx; exact List.mem_of_mem_take hx)
  have HRT := Aside0.mk (fine_of hWP he).right
  have HG := Aside0.mk (fine_of hWP he).toGood
  have HWP := Aside0.mk hWP
  have HPT : Aside0 (P.length ≤ 4096) := ⟨by rw [← hP, List.length_take]; omega⟩
  have HI1 := Aside0.mk hI1
  have HX1 := Aside0.mk hx1
  clear hI1
  obtain ⟨N, hN⟩ : ∃ N : Nat, N = min 20 M.length := ⟨_, rfl⟩
  have HN := Aside0.mk hN
  obtain ⟨ie, ze, hie, hze, hsi, hby, hzc⟩ := slice_info
  clear hT hW hc he hWP hP hN
  go_enter Tryz.func9, Tryz.ntmps9
  go_wp2_with (first | (go_at_call 20; (with_reducible refine HM.out.mono ?_); rintro e w1 ⟨bd, D, A3, c3, rfl, hD, hTab, hup1⟩; have HD := Aside0.mk hD; have HT := Aside0.mk hTab; have HU1 := Aside0.mk hup1; clear hD hTab hup1))
  obtain ⟨wa, hwa⟩ : ∃ wa, wa = w1 := ⟨_, rfl⟩
  subst hwa
  go_loopg [8, 9, 10] N (fun k v8 v9 v10 w' => ∃ (i : Nat) (xs : List Value) (A8 : Option Addr) (c8 : Nat), v8 = .slice A8 i c8 ∧ v9 = .int .i64 i ∧ Aside0 (i + k = N) ∧ Aside0 (w'.ownsRow wa.heap.size 23 1 (.slice A8 i c8) i xs) ∧ Aside0 (InRows w' (Value.slice A8 i c8).ownBlock xs ((M.take i).map fun r => r.take 60)) ∧ Aside0 (Up wa w'))
  case atStart => exact ⟨0, [], none, 0, rfl, rfl, ⟨Nat.zero_add _⟩, ⟨World.ownsRow_nil _ _ _ _⟩, ⟨InRows.nil _ _⟩, ⟨up_refl _⟩⟩
  case round =>
    obtain ⟨i, xs, A8, c8, rfl, rfl, HNI, HO, HIN, HB⟩ := hrel
    cases gk with
    | succ k =>
      have hx2 : i < M.length := by have := HNI.out; have := HN.out; omega
      have h9 : (i : Int) < (M.length : Int) := by omega
      have h8 : (i : Int) < 20 := by have := HNI.out; have := HN.out; omega
      have h7 : 0 ≤ (i : Int) := by omega
      obtain ⟨x, hxx⟩ : ∃ x, M[i] = x := ⟨_, rfl⟩
      have hMi : M[i]? = some x := by rw [List.getElem?_eq_getElem hx2, hxx]
      obtain ⟨ad, Ar, cr, hA, hcx, hIx, hxc, hxl, hwf⟩ := HI1.out i x hMi
      have HMS : Aside0 ((M.take i).map (fun r => r.take 60) ++ [x.take 60] = (M.take (i + 1)).map fun r => r.take 60) := ⟨by rw [show M.take (i + 1) = M.take i ++ [x] by rw [List.take_add_one, hMi]; rfl, List.map_append]; rfl⟩
      subst hA
      replace hcx := up_cell (up_trans HU1.out HB.out) hcx
      have HIx := Aside0.mk (hIx.up (up_trans HU1.out HB.out))
      have HXC := Aside0.mk hxc
      have HXL := Aside0.mk hxl
      obtain ⟨y, hy⟩ : ∃ y, x.take 60 = y := ⟨_, rfl⟩
      have HYW : Aside0 (∀ z ∈ y, (Lit.int .i32 z).wf = true) := ⟨fun z hz => hwf z (by rw [← hy] at hz; exact List.mem_of_mem_take hz)⟩
      have HYL : Aside0 (y.length ≤ 60) := ⟨by rw [← hy, List.length_take]; omega⟩
      have HY := Aside0.mk hy
      rw [hy] at HMS
      obtain ⟨r, hr⟩ : ∃ r, rulesF (bdF P) y = r := ⟨_, rfl⟩
      have HR := Aside0.mk hr
      obtain ⟨hb, hhb⟩ : ∃ hb, hasF (bdF P) y = hb := ⟨_, rfl⟩
      have HH := Aside0.mk hhb
      have hrr : (r != r) = false := by simp
      have HLEN : Aside0 (i + 1 ≤ maxLen ∧ (i + 1) * 24 ≤ 140737488355328) := ⟨by unfold maxLen; omega⟩
      clear hxx hMi hIx hwf hy hr hhb hxc hxl
      cases hb
      all_goals
        go_wp2_with (first | (go_at_call 46; (with_reducible refine (few17_at Ar cr x y 60 60 rfl _ HIx.out HXL.out HXC.out (by decide) HY.out).mono ?_); rintro e w2 ⟨v2, rfl, hown2, hup2⟩; obtain ⟨A2, c2, rfl, hi2, _⟩ := own_ints hown2; have HC2 := Aside0.mk (own_room hown2); have HAP2 := Aside0.mk (own_apart hown2 HO.out); have HS2 := Aside0.mk hup2; have HB2 := Aside0.mk (up_trans HB.out hup2); have HI2 := Aside0.mk hi2; clear hown2 hup2 hi2) | (go_at_call 48; (with_reducible refine (Has_calls (HD.out.up HB2.out) HG.out A2 c2 y HI2.out (Nat.lt_of_le_of_lt HYL.out (by decide)) HYW.out _ HH.out).mono ?_); rintro e w3 ⟨rfl, hup3⟩; have HS3 := Aside0.mk hup3; have HB3 := Aside0.mk (up_trans HB2.out hup3); clear hup3) | (go_at_call 55; (with_reducible refine (RHas_calls A3 c3 P A2 c2 y _ (HT.out.table.up HB3.out) HRT.out HWP.out HPT.out (HI2.out.up HS3.out) (Nat.lt_of_le_of_lt HYL.out (by decide)) HYW.out _ HH.out).mono ?_); rintro e w4 ⟨rfl, hup4⟩; have HS4 := Aside0.mk (up_trans HS3.out hup4); have HB4 := Aside0.mk (up_trans HB3.out hup4); clear hup4) | (go_at_call 47; (with_reducible refine (Rules_calls (HD.out.up HB4.out) HG.out A2 c2 y (HI2.out.up HS4.out) (Nat.lt_of_le_of_lt HYL.out (by decide)) HYW.out r HR.out).mono ?_); rintro e w5 ⟨rfl, hup5⟩; have HS5 := Aside0.mk (up_trans HS4.out hup5); have HB5 := Aside0.mk (up_trans HB4.out hup5); clear hup5) | (go_at_call 56; (with_reducible refine (RRules_calls A3 c3 P A2 c2 y _ (HT.out.table.up HB5.out) HRT.out HWP.out HPT.out (HI2.out.up HS5.out) (Nat.le_trans HYL.out (by decide)) HYW.out r HR.out).mono ?_); rintro e w6 ⟨rfl, hup6⟩; have HS6 := Aside0.mk (up_trans HS5.out hup6); have HB6 := Aside0.mk (up_trans HB5.out hup6); have HO6 := Aside0.mk (own_up HO.out (up_trans HS2.out HS6.out)); clear hup6) | (at_builtin; refine (wpList_append_row _ rfl _ _ 65 rfl wa.heap.size 23 ie ze 1 24 Tryz.underlying65 hie hze hsi hby hzc (by decide) (.slice A8 i c8) i xs rfl (HO6.out.alloc _) (some ⟨w6.heap.size, 0, none⟩) 1 1 [.slice A2 y.length c2] rfl rfl (cells_one _ _ _) (by intro u hu; cases List.mem_singleton.1 hu; rfl) ?ha6 ?hb6 ?hc6 ?_); (case ha6 => exact HLEN.out.1); (case hb6 => exact HLEN.out.2); (case hc6 => exact Nat.le_trans HB6.out.size (up_alloc (up_refl _) _).size); intro v7 w7 hown7 hgrow7 hat7; obtain ⟨A7, c7, hv7⟩ := own_any hown7; subst hv7; have HO7 := Aside0.mk hown7; have HB7 := Aside0.mk ((up_alloc HB6.out (.cells #[.slice A2 y.length c2] 23)).grown hgrow7 (up_alloc HB6.out (.cells #[.slice A2 y.length c2] 23)).size (fun k hk => (HO6.out.lt k hk).1)); have HIN7 := Aside0.mk ((((HIN.out.up (up_trans HS2.out HS6.out)).push A2 y c2 (HI2.out.up HS6.out) HC2.out (fun a ha => ⟨(HAP2.out a ha).1, Nat.lt_of_lt_of_le (HAP2.out a ha).2 HS6.out.size⟩)).up (up_alloc (up_refl _) (.cells #[.slice A2 y.length c2] 23))).grown hgrow7 hat7); rw [HMS.out] at HIN7; clear hown7 hgrow7 hat7))
        go_roundg k
        case measure => have := HNI.out; omega
        case rel => exact ⟨i + 1, _, A7, c7, rfl, rfl, ⟨by have := HNI.out; omega⟩, HO7, HIN7, HB7⟩
    | zero =>
      have HRL : Aside0 (((M.take i).map fun r => r.take 60).length = i) := ⟨by rw [List.length_map, List.length_take]; have := HNI.out; have := HN.out; omega⟩
      have HMW : Aside0 (∀ r ∈ (M.take i).map (fun r => r.take 60), r.length < 4611686018427387904 ∧ ∀ z ∈ r, (Lit.int .i32 z).wf = true) := ⟨fun r hr => by
        obtain ⟨q, hq, rfl⟩ := List.mem_map.1 hr
        obtain ⟨j, hj⟩ := List.mem_iff_getElem?.1 (List.mem_of_mem_take hq)
        obtain ⟨_, _, _, _, _, _, _, h1, h2⟩ := HI1.out j q hj
        exact ⟨by rw [List.length_take]; omega, fun z hz => h2 z (List.mem_of_mem_take hz)⟩⟩
      have HMM := Aside0.mk (HIN.out.mat HO.out HMW.out)
      have HI20 : Aside0 (i ≤ 100) := ⟨by have := HNI.out; have := HN.out; omega⟩
      obtain ⟨R, hR⟩ : ∃ R, (M.take i).map (fun r => r.take 60) = R := ⟨_, rfl⟩
      rw [hR] at HMM HRL
      obtain ⟨b, hb⟩ : ∃ b, hasM (bdF P) R = b := ⟨_, rfl⟩
      have HBB := Aside0.mk hb
      clear hR hb
      by_cases hx2 : i < M.length
      · have h9 : (i : Int) < (M.length : Int) := by omega
        have h8 : ¬ ((i : Int) < 20) := by have := HNI.out; have := HN.out; omega
        cases b
        all_goals
          go_wp2_with (first | (go_at_call 58; (with_reducible refine (RDomain_len A3 c3 P A8 c8 R i HRL.out _ (HT.out.table.up HB3.out) HRT.out HWP.out HPT.out (HMM.out.up HS3.out) HI20.out _ HBB.out).mono ?_); rintro e w4 ⟨rfl, hup4⟩; have HS4 := Aside0.mk (up_trans HS3.out hup4); have HB4 := Aside0.mk (up_trans HB3.out hup4); clear hup4) | (go_at_call 57; (with_reducible refine (Domain_nil_len A8 c8 R i HRL.out _ (HMM.out.up HS4.out) HI20.out).mono ?_); rintro e w5 ⟨rfl, hup5⟩; have HB5 := Aside0.mk (up_trans HB4.out hup5); clear hup5) | (go_at_call 57; (with_reducible refine (Domain_len (HD.out.up HB.out) HG.out A8 c8 R i HRL.out HMM.out HI20.out _ HBB.out).mono ?_); rintro e w3 ⟨rfl, hup3⟩; have HS3 := Aside0.mk hup3; have HB3 := Aside0.mk (up_trans HB.out hup3); clear hup3))
          go_ret
          exact ⟨rfl, up_trans HU1.out HB5.out⟩
      · have h9 : ¬ ((i : Int) < (M.length : Int)) := by omega
        cases b
        all_goals
          go_wp2_with (first | (go_at_call 58; (with_reducible refine (RDomain_len A3 c3 P A8 c8 R i HRL.out _ (HT.out.table.up HB3.out) HRT.out HWP.out HPT.out (HMM.out.up HS3.out) HI20.out _ HBB.out).mono ?_); rintro e w4 ⟨rfl, hup4⟩; have HS4 := Aside0.mk (up_trans HS3.out hup4); have HB4 := Aside0.mk (up_trans HB3.out hup4); clear hup4) | (go_at_call 57; (with_reducible refine (Domain_nil_len A8 c8 R i HRL.out _ (HMM.out.up HS4.out) HI20.out).mono ?_); rintro e w5 ⟨rfl, hup5⟩; have HB5 := Aside0.mk (up_trans HB4.out hup5); clear hup5) | (go_at_call 57; (with_reducible refine (Domain_len (HD.out.up HB.out) HG.out A8 c8 R i HRL.out HMM.out HI20.out _ HBB.out).mono ?_); rintro e w3 ⟨rfl, hup3⟩; have HS3 := Aside0.mk hup3; have HB3 := Aside0.mk (up_trans HB.out hup3); clear hup3))
          go_ret
          exact ⟨rfl, up_trans HU1.out HB5.out⟩
end Go.Proofs.YthneeainigdmhaaGreat.M
