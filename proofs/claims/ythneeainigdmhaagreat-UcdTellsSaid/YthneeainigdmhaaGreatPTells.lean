/- UcdTells, walked. (printed by mktells.py) -/
import Derived.Test.YthneeainigdmhaaGreatPOwnPut
import Derived.Test.YthneeainigdmhaaGreatPRef2
import Derived.Test.YthneeainigdmhaaGreatPSameB
import Derived.Test.YthneeainigdmhaaGreatK37
import Derived.Test.YthneeainigdmhaaGreatPJoin1
set_option linter.unusedVariables false
set_option linter.unusedSimpArgs false
namespace Go.Proofs.YthneeainigdmhaaGreat.M
open Go.RowKit
set_option maxHeartbeats 16000000
set_option maxRecDepth 100000

theorem mapF_len {T : List Rec} (hG : Good T) (c : Int) : (mapF T c).length ≤ 35184372087808 := by
  unfold mapF
  cases h : findR T 1 c with
  | none => simp
  | some x =>
    have hl := (hG.wf x (findR_some h).1).len
    show (if x.kind = 4 then _ else if pM x then x.to else []).length ≤ _
    split
    · simp
    · split
      · omega
      · simp
theorem UcdTells_no (A : Option Addr) (c : Nat) (T : List Rec) (A1 : Option Addr) (n1 c1 : Nat) (w : World) (hT : Table w A T) (hW : ∀ x ∈ T, x.Wf) (hc : T.length ≤ c) (he : (checkE (T.take 150)).2 ≠ 0) :
    Calls Tryz.prog 4 #[.slice A T.length c, .slice A1 n1 c1] w fun e w' => e = .returned (.bool true) ∧ Up w w' := by
  have HM := Aside0.mk (Made_no A c T w hT hW hc he)
  clear hT hW hc he
  go_enter Tryz.func4, Tryz.ntmps4
  go_wp2_with (first | (go_at_call 20; (with_reducible refine HM.out.mono ?_); rintro e w1 ⟨rfl, hup1⟩) | (go_at_call 26; (with_reducible refine (told_calls _).mono ?_); rintro e w2 ⟨rfl, hup2⟩))
  go_ret
  exact ⟨rfl, up_trans hup1 hup2⟩
theorem UcdTells_yes (A : Option Addr) (c : Nat) (T P : List Rec) (Ax : Option Addr) (x : List Int) (cx : Nat) (w : World) (hP : T.take 150 = P) (hT : Table w A T) (hW : ∀ x ∈ T, x.Wf) (hc : T.length ≤ c) (he : (checkE P).2 = 0)
    (hI1 : Ints .i32 w Ax x) (hx1 : x.length < 4611686018427387904) (hc1 : x.length ≤ cx) (hwf1 : ∀ z ∈ x, (Lit.int .i32 z).wf = true) :
    Calls Tryz.prog 4 #[.slice A T.length c, .slice Ax x.length cx] w fun e w' => e = .returned (.bool true) ∧ Up w w' := by
  have HM := Aside0.mk (Made_yes A c T P w hP hT hW hc he)
  have hWP : ∀ x ∈ P, x.Wf := fun x hx => hW x (by rw [← hP] at hx; exact List.mem_of_mem_take hx)
  have HF := Aside0.mk (fine_of hWP he)
  have HG := Aside0.mk (fine_of hWP he).toGood
  have HWP := Aside0.mk hWP
  have HPT : Aside0 (P.length ≤ 4096) := ⟨by rw [← hP, List.length_take]; omega⟩
  have HI1 := Aside0.mk hI1
  have HX1 := Aside0.mk hx1
  have HXC1 := Aside0.mk hc1
  have HWF1 := Aside0.mk hwf1
  clear hI1 hx1 hc1 hwf1
  obtain ⟨N, hN⟩ : ∃ N : Nat, N = min 80 x.length := ⟨_, rfl⟩
  have HN := Aside0.mk hN
  clear hT hW hc he hWP hP hN
  go_enter Tryz.func4, Tryz.ntmps4
  go_wp2_with (first | (go_at_call 20; (with_reducible refine HM.out.mono ?_); rintro e w1 ⟨bd, D, A3, c3, rfl, hD, hTab, hup1⟩; have HD := Aside0.mk hD; have HT := Aside0.mk hTab; have HU1 := Aside0.mk hup1; clear hD hTab hup1))
  have HIX : Aside0 (Ints .i32 w1 Ax x) := ⟨HI1.out.up HU1.out⟩
  have HTB := Aside0.mk HT.out.table
  go_loopg [8, 9, 10, 11] N (fun k v8 v9 v10 v11 w' => ∃ i : Nat, v8 = .int .i64 i ∧ Aside0 (i + k = N) ∧ Aside0 (Up w1 w'))
  case atStart => exact ⟨0, rfl, ⟨Nat.zero_add _⟩, ⟨up_refl _⟩⟩
  case round =>
    obtain ⟨i, rfl, HNI, HB⟩ := hrel
    cases gk with
    | zero =>
      have hx1 : ¬ (i < x.length) ∧ ¬ ((i : Int) < (x.length : Int)) ∨ i < x.length ∧ (i : Int) < (x.length : Int) ∧ ¬ (i < 80) ∧ ¬ ((i : Int) < 80) := by have := HNI.out; have := HN.out; omega
      rcases hx1 with ⟨h8, h9⟩ | ⟨h8, h9, h10, h11⟩
      all_goals
        go_wp2
        go_ret
        exact ⟨rfl, up_trans HU1.out HB.out⟩
    | succ k =>
      have hx1 : i < x.length := by have := HNI.out; have := HN.out; omega
      have h9 : (i : Int) < (x.length : Int) := by omega
      have h8 : (i : Int) < 80 := by have := HNI.out; have := HN.out; omega
      have h7 : 0 ≤ (i : Int) := by omega
      obtain ⟨ad, hAa, hca⟩ := HIX.out.at_ i (by omega) (by omega)
      rw [Int.toNat_natCast] at hca
      cases hAa
      have HAWa : Aside0 ((Lit.int .i32 (rd x i)).wf = true) := ⟨by rw [rd_elem x i (by omega)]; exact HWF1.out _ (List.getElem_mem _)⟩
      have HARa := Aside0.mk (wf_i32 HAWa.out)
      obtain ⟨a, hxa⟩ : ∃ a, rd x i = a := ⟨_, rfl⟩
      have HXa := Aside0.mk hxa
      rw [hxa] at hca HARa HAWa
      have HCa := Aside0.mk hca
      replace hca := up_cell HB.out hca
      clear hxa
      obtain ⟨l, hl⟩ : ∃ l, mapF P a = l := ⟨_, rfl⟩
      have HMP := Aside0.mk hl
      have HLL : Aside0 (l.length ≤ 35184372087808) := ⟨by have := mapF_len HG.out a; rw [hl] at this; omega⟩
      have HSM : Aside0 ((l == l) = true) := ⟨by simp⟩
      obtain ⟨vs, h1⟩ : ∃ v, statF P a = v := ⟨_, rfl⟩
      obtain ⟨vc, h2⟩ : ∃ v, numF P 2 (·.n) a = v := ⟨_, rfl⟩
      obtain ⟨vb, h3⟩ : ∃ v, numF P 4 (·.n) a = v := ⟨_, rfl⟩
      obtain ⟨vj, h4⟩ : ∃ v, numF P 5 (·.n) a = v := ⟨_, rfl⟩
      obtain ⟨vm, h5⟩ : ∃ v, (numF P 6 (fun _ => 1) a == 1) = v := ⟨_, rfl⟩
      obtain ⟨vn, h6⟩ : ∃ v, scriptF P a = v := ⟨_, rfl⟩
      have HST := Aside0.mk h1
      have HCL := Aside0.mk h2
      have HCLC : Aside0 (classF P a = vc) := ⟨h2⟩
      have HBI := Aside0.mk h3
      have HJO := Aside0.mk h4
      have HMA := Aside0.mk h5
      have HSC := Aside0.mk h6
      obtain ⟨⟨a0, a1, a2, a3, a4, a5, a6⟩, ⟨a7, a8, a9, a10, a11⟩, a12, a13, a14, a15, a16⟩ := (HD.out.up HB.out).all
      clear hl h1 h2 h3 h4 h5 h6
      go_wp2_with (first | (go_at_call 40; (with_reducible refine (RScript_calls A3 c3 P a _ (HTB.out.up HB17.out) HG.out.right HWP.out HPT.out HARa.out.1 HARa.out.2 vn HSC.out).mono ?_); rintro e w18 ⟨rfl, hup18⟩; have HN18 := Aside0.mk (up_trans HN17.out hup18); have HB18 := Aside0.mk (up_trans HB17.out hup18); obtain ⟨⟨a0, a1, a2, a3, a4, a5, a6⟩, ⟨a7, a8, a9, a10, a11⟩, a12, a13, a14, a15, a16⟩ := (HD.out.up HB18.out).all; clear hup18) | (go_at_call 39; (with_reducible refine ((HD.out.up HB16.out).Script HG.out a vn HSC.out HARa.out.1 HARa.out.2).mono ?_); rintro e w17 ⟨rfl, hup17⟩; have HN17 := Aside0.mk (up_trans HN16.out hup17); have HB17 := Aside0.mk (up_trans HB16.out hup17); obtain ⟨⟨a0, a1, a2, a3, a4, a5, a6⟩, ⟨a7, a8, a9, a10, a11⟩, a12, a13, a14, a15, a16⟩ := (HD.out.up HB17.out).all; clear hup17) | (go_at_call 38; (with_reducible refine (RMark_calls A3 c3 P a _ (HTB.out.up HB15.out) HG.out.right HWP.out HPT.out HARa.out.1 HARa.out.2 vm HMA.out).mono ?_); rintro e w16 ⟨rfl, hup16⟩; have HN16 := Aside0.mk (up_trans HN15.out hup16); have HB16 := Aside0.mk (up_trans HB15.out hup16); obtain ⟨⟨a0, a1, a2, a3, a4, a5, a6⟩, ⟨a7, a8, a9, a10, a11⟩, a12, a13, a14, a15, a16⟩ := (HD.out.up HB16.out).all; clear hup16) | (go_at_call 37; (with_reducible refine ((HD.out.up HB14.out).Mark a vm HMA.out HARa.out.1 HARa.out.2).mono ?_); rintro e w15 ⟨rfl, hup15⟩; have HN15 := Aside0.mk (up_trans HN14.out hup15); have HB15 := Aside0.mk (up_trans HB14.out hup15); obtain ⟨⟨a0, a1, a2, a3, a4, a5, a6⟩, ⟨a7, a8, a9, a10, a11⟩, a12, a13, a14, a15, a16⟩ := (HD.out.up HB15.out).all; clear hup15) | (go_at_call 24; (with_reducible refine (TJoin_calls A3 c3 P a _ (HTB.out.up HB13.out) HG.out.right HWP.out HPT.out HARa.out.1 HARa.out.2 vj HJO.out).mono ?_); rintro e w14 ⟨rfl, hup14⟩; have HN14 := Aside0.mk (up_trans HN13.out hup14); have HB14 := Aside0.mk (up_trans HB13.out hup14); obtain ⟨⟨a0, a1, a2, a3, a4, a5, a6⟩, ⟨a7, a8, a9, a10, a11⟩, a12, a13, a14, a15, a16⟩ := (HD.out.up HB14.out).all; clear hup14) | (go_at_call 36; (with_reducible refine ((HD.out.up HB12.out).Join HG.out a vj HJO.out HARa.out.1 HARa.out.2).mono ?_); rintro e w13 ⟨rfl, hup13⟩; have HN13 := Aside0.mk (up_trans HN12.out hup13); have HB13 := Aside0.mk (up_trans HB12.out hup13); obtain ⟨⟨a0, a1, a2, a3, a4, a5, a6⟩, ⟨a7, a8, a9, a10, a11⟩, a12, a13, a14, a15, a16⟩ := (HD.out.up HB13.out).all; clear hup13) | (go_at_call 35; (with_reducible refine (TBidi_calls A3 c3 P a _ (HTB.out.up HB11.out) HG.out.right HWP.out HPT.out HARa.out.1 HARa.out.2 vb HBI.out).mono ?_); rintro e w12 ⟨rfl, hup12⟩; have HN12 := Aside0.mk (up_trans HN11.out hup12); have HB12 := Aside0.mk (up_trans HB11.out hup12); obtain ⟨⟨a0, a1, a2, a3, a4, a5, a6⟩, ⟨a7, a8, a9, a10, a11⟩, a12, a13, a14, a15, a16⟩ := (HD.out.up HB12.out).all; clear hup12) | (go_at_call 34; (with_reducible refine ((HD.out.up HB10.out).Bidi HG.out a vb HBI.out HARa.out.1 HARa.out.2).mono ?_); rintro e w11 ⟨rfl, hup11⟩; have HN11 := Aside0.mk (up_trans HN10.out hup11); have HB11 := Aside0.mk (up_trans HB10.out hup11); obtain ⟨⟨a0, a1, a2, a3, a4, a5, a6⟩, ⟨a7, a8, a9, a10, a11⟩, a12, a13, a14, a15, a16⟩ := (HD.out.up HB11.out).all; clear hup11) | (go_at_call 33; (with_reducible refine (TClass_calls A3 c3 P a _ (HTB.out.up HB9.out) HG.out.right HWP.out HPT.out HARa.out.1 HARa.out.2 vc HCLC.out).mono ?_); rintro e w10 ⟨rfl, hup10⟩; have HN10 := Aside0.mk (up_trans HN9.out hup10); have HB10 := Aside0.mk (up_trans HB9.out hup10); obtain ⟨⟨a0, a1, a2, a3, a4, a5, a6⟩, ⟨a7, a8, a9, a10, a11⟩, a12, a13, a14, a15, a16⟩ := (HD.out.up HB10.out).all; clear hup10) | (go_at_call 32; (with_reducible refine ((HD.out.up HB8.out).Class HG.out a vc HCL.out HARa.out.1 HARa.out.2).mono ?_); rintro e w9 ⟨rfl, hup9⟩; have HN9 := Aside0.mk (up_trans HN8.out hup9); have HB9 := Aside0.mk (up_trans HB8.out hup9); obtain ⟨⟨a0, a1, a2, a3, a4, a5, a6⟩, ⟨a7, a8, a9, a10, a11⟩, a12, a13, a14, a15, a16⟩ := (HD.out.up HB9.out).all; clear hup9) | (go_at_call 30; (with_reducible refine (SameB_calls A4 A7 c4 c7 l l _ (HI4.out.up HN7.out) HI7.out HLL.out HLL.out true HSM.out).mono ?_); rintro e w8 ⟨rfl, hup8⟩; have HN8 := Aside0.mk (up_trans HN7.out hup8); have HB8 := Aside0.mk (up_trans HB7.out hup8); obtain ⟨⟨a0, a1, a2, a3, a4, a5, a6⟩, ⟨a7, a8, a9, a10, a11⟩, a12, a13, a14, a15, a16⟩ := (HD.out.up HB8.out).all; clear hup8) | (go_at_call 31; (with_reducible refine (RMapping_calls A3 c3 P a _ (HTB.out.up HB6.out) HG.out.right HWP.out HPT.out HARa.out.1 HARa.out.2 l HMP.out).mono ?_); rintro e w7 ⟨v7, rfl, hown7, hup7⟩; obtain ⟨A7, c7, rfl, hi7, _⟩ := own_ints hown7; have HN7 := Aside0.mk (up_trans HN6.out hup7); have HB7 := Aside0.mk (up_trans HB6.out hup7); have HI7 := Aside0.mk hi7; obtain ⟨⟨a0, a1, a2, a3, a4, a5, a6⟩, ⟨a7, a8, a9, a10, a11⟩, a12, a13, a14, a15, a16⟩ := (HD.out.up HB7.out).all; clear hown7 hup7 hi7) | (go_at_call 29; (with_reducible refine (RStatus_calls A3 c3 P a _ (HTB.out.up HB5.out) HG.out.right HWP.out HPT.out HARa.out.1 HARa.out.2 vs HST.out).mono ?_); rintro e w6 ⟨rfl, hup6⟩; have HN6 := Aside0.mk (up_trans HN5.out hup6); have HB6 := Aside0.mk (up_trans HB5.out hup6); obtain ⟨⟨a0, a1, a2, a3, a4, a5, a6⟩, ⟨a7, a8, a9, a10, a11⟩, a12, a13, a14, a15, a16⟩ := (HD.out.up HB6.out).all; clear hup6) | (go_at_call 28; (with_reducible refine ((HD.out.up HB4.out).Status a vs HST.out HARa.out.1 HARa.out.2).mono ?_); rintro e w5 ⟨rfl, hup5⟩; have HN5 := Aside0.mk (up_trans HN4.out hup5); have HB5 := Aside0.mk (up_trans HB4.out hup5); obtain ⟨⟨a0, a1, a2, a3, a4, a5, a6⟩, ⟨a7, a8, a9, a10, a11⟩, a12, a13, a14, a15, a16⟩ := (HD.out.up HB5.out).all; clear hup5) | (go_at_call 27; (with_reducible refine ((HD.out.up HB.out).Mapping HG.out a l HMP.out HARa.out.1 HARa.out.2).mono ?_); rintro e w4 ⟨v4, rfl, hown4, hup4⟩; obtain ⟨A4, c4, rfl, hi4, _⟩ := own_ints hown4; have HB4 := Aside0.mk (up_trans HB.out hup4); have HS4 := Aside0.mk hup4; have HN4 := Aside0.mk (up_refl w4); have HI4 := Aside0.mk hi4; have HO4 := Aside0.mk hown4; obtain ⟨⟨a0, a1, a2, a3, a4, a5, a6⟩, ⟨a7, a8, a9, a10, a11⟩, a12, a13, a14, a15, a16⟩ := (HD.out.up HB4.out).all; clear hown4 hup4 hi4))
      go_loopg [11] l.length (fun k v11 w' => ∃ (q : Nat) (l' : List Int), v11 = .int .i64 q ∧ Aside0 (q + k = l.length ∧ l'.length = l.length) ∧ Aside0 (w'.ownsRow w1.heap.size 21 1 (.slice A4 l.length c4) l.length (l'.map (Value.int .i32))) ∧ Aside0 (Up w1 w'))
      case atStart => exact ⟨0, l, rfl, ⟨Nat.zero_add _, rfl⟩, ⟨own_mono (own_up HO4.out HN18.out) HB.out.size⟩, HB18⟩
      case round =>
        obtain ⟨q, l', rfl, HNQ, HOQ, HB20⟩ := hrel
        cases gk with
        | zero =>
          have hlt : decide ((q : Int) < (l.length : Int)) = false := decide_eq_false (by have := HNQ.out; omega)
          have hlt1 : ¬ (q < l.length) := by have := HNQ.out; omega
          obtain ⟨⟨a0, a1, a2, a3, a4, a5, a6⟩, ⟨a7, a8, a9, a10, a11⟩, a12, a13, a14, a15, a16⟩ := (HD.out.up HB20.out).all
          go_wp2_with (first | (go_at_call 30; (with_reducible refine (SameB_calls A21 A22 c21 c22 l l _ (HI21.out.up HN22.out) HI22.out HLL.out HLL.out true HSM.out).mono ?_); rintro e w23 ⟨rfl, hup23⟩; have HN23 := Aside0.mk (up_trans HN22.out hup23); have HB23 := Aside0.mk (up_trans HB22.out hup23); obtain ⟨⟨a0, a1, a2, a3, a4, a5, a6⟩, ⟨a7, a8, a9, a10, a11⟩, a12, a13, a14, a15, a16⟩ := (HD.out.up HB23.out).all; clear hup23) | (go_at_call 31; (with_reducible refine (RMapping_calls A3 c3 P a _ (HTB.out.up HB21.out) HG.out.right HWP.out HPT.out HARa.out.1 HARa.out.2 l HMP.out).mono ?_); rintro e w22 ⟨v22, rfl, hown22, hup22⟩; obtain ⟨A22, c22, rfl, hi22, _⟩ := own_ints hown22; have HN22 := Aside0.mk (up_trans HN21.out hup22); have HB22 := Aside0.mk (up_trans HB21.out hup22); have HI22 := Aside0.mk hi22; obtain ⟨⟨a0, a1, a2, a3, a4, a5, a6⟩, ⟨a7, a8, a9, a10, a11⟩, a12, a13, a14, a15, a16⟩ := (HD.out.up HB22.out).all; clear hown22 hup22 hi22) | (go_at_call 27; (with_reducible refine ((HD.out.up HB20.out).Mapping HG.out a l HMP.out HARa.out.1 HARa.out.2).mono ?_); rintro e w21 ⟨v21, rfl, hown21, hup21⟩; obtain ⟨A21, c21, rfl, hi21, _⟩ := own_ints hown21; have HB21 := Aside0.mk (up_trans HB20.out hup21); have HS21 := Aside0.mk hup21; have HN21 := Aside0.mk (up_refl w21); have HI21 := Aside0.mk hi21; have HO21 := Aside0.mk hown21; obtain ⟨⟨a0, a1, a2, a3, a4, a5, a6⟩, ⟨a7, a8, a9, a10, a11⟩, a12, a13, a14, a15, a16⟩ := (HD.out.up HB21.out).all; clear hown21 hup21 hi21))
          go_roundg k
          case measure => have := HNI.out; omega
          case rel => exact ⟨i + 1, rfl, ⟨by have := HNI.out; omega⟩, HB23⟩
        | succ k2 =>
          have hlt : decide ((q : Int) < (l.length : Int)) = true := decide_eq_true (by have := HNQ.out; omega)
          have hlt1 : q < l.length := by have := HNQ.out; omega
          have q7 : 0 ≤ (q : Int) := by omega
          have q9 : (q : Int) < (l.length : Int) := by omega
          have hll := HLL.out
          obtain ⟨g, hg, hge⟩ := own_some HOQ.out (by omega)
          have HGE := Aside0.mk hge
          subst hg
          obtain ⟨y1, y2⟩ := own_at HOQ.out hlt1
          clear hge
          go_wp2
          go_roundg k2
          case measure => have := HNQ.out; omega
          case rel => exact ⟨q + 1, l'.set q (-9), rfl, ⟨by have := HNQ.out; omega, by have := HNQ.out; simp; omega⟩, ⟨own_put HOQ.out q (-9)⟩, ⟨HB20.out.setCell HGE.out _⟩⟩
end Go.Proofs.YthneeainigdmhaaGreat.M
