/- Finding the record that speaks of a number, walked: the program's and the document's. -/
import Derived.Test.YtnohcnneflogjaaGreatK03
import Derived.Test.YtnohcnneflogjaaGreatK01
import Derived.Test.YtnohcnneflogjaaGreatK02
import Derived.Great.BuildSlice
set_option maxHeartbeats 8000000
set_option maxRecDepth 100000
set_option linter.unusedVariables false
set_option linter.unusedSimpArgs false
namespace Go.Proofs.YtnohcnneflogjaaGreat.M
open Go.RowKit
@[go_sem] theorem run_store_float {P : Program} {w : World} {a : Addr} {m : Mode} (k : FloatKind) (n : Nat) : (store a (.float k n) m).run P w = stored P w a (.float k n) m := run_store P w a _ m rfl
theorem step_calls (x : Rec) (A : Option Addr) (c : Nat) (w : World) (hR : Right x) : Calls Tryz.prog 180 #[recV x A c] w fun e w' => e = .returned (.int .i64 (stepI x)) ∧ Up w w' := by
 have hu96 := Tryz.underlying113
 by_cases hk : x.kind = 4
 ·have hs : stepI x = x.n := if_pos hk
  have hn := (hR.shift hk).1
  have e1 : (x.kind == 4) = true := beq_iff_eq.mpr hk
  rw [hs]
  clear hs hk hR
  have d1 : decide (x.n < 0) = false := dFz (by omega)
  have d2 : decide (0 < x.n) = true := dTz (by omega)
  go_enter Tryz.func180, Tryz.ntmps180
  go_wp2
  go_ret
  exact ⟨rfl, up_alloc (up_refl _) _⟩
 ·have hs : stepI x = 1 := if_neg hk
  have e1 : (x.kind == 4) = false := bqf hk
  rw [hs]
  clear hs hk hR
  go_enter Tryz.func180, Tryz.ntmps180
  go_wp2
  go_ret
  exact ⟨rfl, up_alloc (up_refl _) _⟩
theorem speaks_out {x : Rec} (hR : Right x) {d : Int} (h : d < x.lo ∨ x.hi < d) : speaksB x d = false := by
 rw [← Bool.not_eq_true, speaks_iff hR]
 omega
theorem speaks_in {x : Rec} (hR : Right x) {d : Int} (h1 : x.lo ≤ d) (h2 : d ≤ x.hi) : speaksB x d = ((d - x.lo) % stepI x == 0) := by
 rw [Bool.eq_iff_iff, speaks_iff hR, beq_iff_eq]
 omega
theorem speaks_calls (x : Rec) (A : Option Addr) (c : Nat) (d : Int) (b : Bool) (w : World) (hR : Right x) (hk15 : x.kind ≠ 15) (h : speaksB x d = b) : Calls Tryz.prog 168 #[recV x A c, .int .i64 d] w fun e w' => e = .returned (.bool b) ∧ Up w w' := by
 have hu96 := Tryz.underlying113
 have hL := hR.span hk15
 by_cases c1 : d < x.lo
 ·rw [speaks_out hR (.inl c1)] at h
  subst h
  have d1 : decide (d < x.lo) = true := dTz c1
  clear c1 hL hR hk15
  go_enter Tryz.func168, Tryz.ntmps168
  go_wp2
  go_ret
  exact ⟨rfl, up_alloc (up_refl _) _⟩
 have d1 : decide (d < x.lo) = false := dFz c1
 by_cases c2 : x.hi < d
 ·rw [speaks_out hR (.inr c2)] at h
  subst h
  have d2 : decide (x.hi < d) = true := dTz c2
  clear c1 c2 hL hR hk15
  go_enter Tryz.func168, Tryz.ntmps168
  go_wp2
  go_ret
  exact ⟨rfl, up_alloc (up_refl _) _⟩
 have d2 : decide (x.hi < d) = false := dFz c2
 have d3 : decide (d < 0) = false := dFz (by omega)
 have d4 : decide (1114111 < d) = false := dFz (by omega)
 rw [speaks_in hR (by omega) (by omega)] at h
 by_cases hk : x.kind = 4
 ·have hs : stepI x = x.n := if_pos hk
  rw [hs] at h
  have hn := hR.shift hk
  have e1 : (x.kind == 4) = true := beq_iff_eq.mpr hk
  have e2 : (x.kind != 4) = false := by rw [bne, e1]; rfl
  have d5 : decide (0 < x.n) = true := dTz (by omega)
  have p0 : 0 ≤ d := by omega
  have p1 : d ≤ 1114111 := by omega
  have p2 : 0 ≤ x.lo := by omega
  have p3 : x.lo ≤ d := by omega
  have p4 : 1 ≤ x.n := by omega
  have p5 : x.n ≤ 64 := by omega
  have p6 : x.lo ≤ 1114111 := by omega
  clear hs hk hR hn c1 c2 hL hk15
  go_enter Tryz.func168, Tryz.ntmps168
  go_wp2
  go_ret
  exact ⟨by rw [← h]; rfl, up_alloc (up_refl _) _⟩
 ·have hs : stepI x = 1 := if_neg hk
  rw [hs, Int.emod_one] at h
  subst h
  have e1 : (x.kind == 4) = false := bqf hk
  have e2 : (x.kind != 4) = true := bne_iff_ne.mpr hk
  clear hs hk hR c1 c2 hL hk15
  go_enter Tryz.func168, Tryz.ntmps168
  go_wp2
  go_ret
  exact ⟨rfl, up_alloc (up_refl _) _⟩
theorem RSpeaks_calls (x : Rec) (A : Option Addr) (c : Nat) (d : Int) (b : Bool) (w : World) (hR : Right x) (hk15 : x.kind ≠ 15) (h : speaksB x d = b) : Calls Tryz.prog 172 #[recV x A c, .int .i64 d] w fun e w' => e = .returned (.bool b) ∧ Up w w' := by
 have hu96 := Tryz.underlying113
 have hL := hR.span hk15
 have RB := recBox_new w x A c
 have e15 : (x.kind == 15) = false := bqf hk15
 have e15' : (x.kind != 15) = true := bne_iff_ne.mpr hk15
 have hs := hR.step
 have HC := fun W => step_calls x A c W hR
 have ds : decide (0 < stepI x) = true := dTz (by omega)
 have p4 : 1 ≤ stepI x := hs.1
 have p5 : stepI x ≤ 64 := hs.2
 have HO : d < x.lo ∨ x.hi < d → speaksB x d = false := speaks_out hR
 have HI : x.lo ≤ d → d ≤ x.hi → speaksB x d = ((d - x.lo) % stepI x == 0) := speaks_in hR
 clear hR hk15 hs
 generalize stepI x = s at *
 have HC := Az.mk HC
 have ao := Az.mk HO
 have ai := Az.mk HI
 clear HO HI
 rename_i HC0
 clear HC0
 by_cases c3 : d < 0
 ·rw [ao.out (.inl (by omega))] at h
  subst h
  have d3 : decide (0 ≤ d) = false := dFz (by omega)
  clear c3 hL
  go_enter Tryz.func172, Tryz.ntmps172
  go_wp2_with (first | (go_at_call 180; refine (HC.out _).mono ?_; rintro e w1 ⟨rfl, hb1⟩; obtain ⟨k0, k1, k2, k3, k4, k5, k6, k7⟩ := RB.keep hb1))
  go_ret
  exact ⟨rfl, up_trans (up_alloc (up_refl _) _) hb1⟩
 have d3 : decide (0 ≤ d) = true := dTz (by omega)
 by_cases c4 : 1114111 < d
 ·rw [ao.out (.inr (by omega))] at h
  subst h
  have d4 : decide (d ≤ 1114111) = false := dFz (by omega)
  clear c3 c4 hL
  go_enter Tryz.func172, Tryz.ntmps172
  go_wp2_with (first | (go_at_call 180; refine (HC.out _).mono ?_; rintro e w1 ⟨rfl, hb1⟩; obtain ⟨k0, k1, k2, k3, k4, k5, k6, k7⟩ := RB.keep hb1))
  go_ret
  exact ⟨rfl, up_trans (up_alloc (up_refl _) _) hb1⟩
 have d4 : decide (d ≤ 1114111) = true := dTz (by omega)
 by_cases c1 : d < x.lo
 ·rw [ao.out (.inl c1)] at h
  subst h
  have d1 : decide (x.lo ≤ d) = false := dFz (by omega)
  clear c1 c3 c4 hL
  go_enter Tryz.func172, Tryz.ntmps172
  go_wp2_with (first | (go_at_call 180; refine (HC.out _).mono ?_; rintro e w1 ⟨rfl, hb1⟩; obtain ⟨k0, k1, k2, k3, k4, k5, k6, k7⟩ := RB.keep hb1))
  go_ret
  exact ⟨rfl, up_trans (up_alloc (up_refl _) _) hb1⟩
 have d1 : decide (x.lo ≤ d) = true := dTz (by omega)
 by_cases c2 : x.hi < d
 ·rw [ao.out (.inr c2)] at h
  subst h
  have d2 : decide (d ≤ x.hi) = false := dFz (by omega)
  clear c1 c2 c3 c4 hL
  go_enter Tryz.func172, Tryz.ntmps172
  go_wp2_with (first | (go_at_call 180; refine (HC.out _).mono ?_; rintro e w1 ⟨rfl, hb1⟩; obtain ⟨k0, k1, k2, k3, k4, k5, k6, k7⟩ := RB.keep hb1))
  go_ret
  exact ⟨rfl, up_trans (up_alloc (up_refl _) _) hb1⟩
 have d2 : decide (d ≤ x.hi) = true := dTz (by omega)
 rw [ai.out (by omega) (by omega)] at h
 have p0 : 0 ≤ d := by omega
 have p1 : d ≤ 1114111 := by omega
 have p2 : 0 ≤ x.lo := by omega
 have p3 : x.lo ≤ d := by omega
 have p6 : x.lo ≤ 1114111 := by omega
 clear c1 c2 c3 c4 hL
 go_enter Tryz.func172, Tryz.ntmps172
 go_wp2_with (first | (go_at_call 180; refine (HC.out _).mono ?_; rintro e w1 ⟨rfl, hb1⟩; obtain ⟨k0, k1, k2, k3, k4, k5, k6, k7⟩ := RB.keep hb1))
 go_ret
 exact ⟨by rw [← h]; rfl, up_trans (up_alloc (up_refl _) _) hb1⟩
theorem find_hit {T : List Rec} {f c : Int} {i : Nat} {x : Rec} (hx : T[i]? = some x) (h : hitB f c x = true) (hb : ∀ j y, j < i → T[j]? = some y → hitB f c y = false) : findI T f c = some i ∧ findR T f c = some x := by
 have hi : i < T.length := (List.getElem?_eq_some_iff.1 hx).1
 have hg : T[i] = x := (List.getElem?_eq_some_iff.1 hx).2
 refine ⟨?_, ?_⟩
 ·unfold findI
  rw [List.findIdx?_eq_some_iff_getElem]
  refine ⟨hi, by rw [hg]; exact h, fun j hj => ?_⟩
  rw [hb j T[j] hj (List.getElem?_eq_getElem (by omega))]
  simp
 ·unfold findR
  rw [List.find?_eq_some_iff_getElem]
  refine ⟨h, i, hi, hg, fun j hj => ?_⟩
  rw [hb j T[j] hj (List.getElem?_eq_getElem (by omega))]
  rfl
theorem find_no {T : List Rec} {f c : Int} (hb : ∀ j y, j < T.length → T[j]? = some y → hitB f c y = false) : findI T f c = none ∧ findR T f c = none := by
 refine ⟨?_, ?_⟩
 ·unfold findI
  rw [List.findIdx?_eq_none_iff]
  intro x hx
  obtain ⟨j, hj, rfl⟩ := List.getElem_of_mem hx
  exact hb j _ hj (List.getElem?_eq_getElem hj)
 ·unfold findR
  rw [List.find?_eq_none]
  intro x hx
  obtain ⟨j, hj, rfl⟩ := List.getElem_of_mem hx
  rw [hb j _ hj (List.getElem?_eq_getElem hj)]
  simp
def findN (T : List Rec) (f c : Int) : Int := match findI T f c with | some i => i | none => -1
end Go.Proofs.YtnohcnneflogjaaGreat.M
namespace Go.Proofs.YtnohcnneflogjaaGreat.M
open Go.RowKit
theorem Find_calls (A : Option Addr) (c : Nat) (T : List Rec) (f d r : Int) (w : World) (hT : Table w A T) (hR : ∀ x ∈ T, Right x) (hl : T.length ≤ 4096) (hf : 1 ≤ f) (hf9 : f ≤ 9) (hd1 : -2147483648 ≤ d) (hd2 : d ≤ 2147483647) (hr : findN T f d = r) :
 Calls Tryz.prog 135 #[.slice A T.length c, .int .i64 f, .int .i32 d] w fun e w' => e = .returned (.int .i64 r) ∧ Up w w' := by
 have hu96 := Tryz.underlying113
 have d1 : decide (f < 1) = false := dFz (by omega)
 have d2 : decide (9 < f) = false := dFz (by omega)
 have HT := Az.mk hT
 have HR := Az.mk hR
 have HF := Az.mk hr
 clear hT hR hr
 go_enter Tryz.func135, Tryz.ntmps135
 go_wp2
 go_loopg [17] T.length (fun k v17 w' => ∃ i : Nat, v17 = .int .i64 i ∧ Az (i + k = T.length ∧ ∀ j y, j < i → T[j]? = some y → hitB f d y = false) ∧ Az (Up w w'))
 case atStart => exact ⟨0, rfl, ⟨Nat.zero_add _, fun j y hj => absurd hj (Nat.not_lt_zero _)⟩, ⟨up_refl _⟩⟩
 case round =>
  obtain ⟨i, rfl, HI, HB⟩ := hrel
  have hi := HI.out.1
  cases gk with
  | zero =>
    have hlt : decide ((i : Int) < (T.length : Int)) = false := dFz (by omega)
    have h0 : findN T f d = -1 := by
     unfold findN
     rw [(find_no (fun j y hj => HI.out.2 j y (by omega))).1]
    rw [HF.out] at h0
    subst h0
    go_wp2
    go_ret
    exact ⟨rfl, HB.out⟩
  | succ k =>
    have hlt : decide ((i : Int) < (T.length : Int)) = true := dTz (by omega)
    have p1 : 0 ≤ (i : Int) := by omega
    have p2 : (i : Int) < (T.length : Int) := by omega
    have hx : T[i]? = some T[i] := List.getElem?_eq_getElem (by omega)
    obtain ⟨x, hxx⟩ : ∃ x, T[i]'(by omega) = x := ⟨_, rfl⟩
    rw [hxx] at hx
    have hRx : Right x := by rw [← hxx]; exact HR.out _ (List.getElem_mem _)
    have HX := Az.mk hx
    obtain ⟨ad, hA, A', c', hrec, hto⟩ := HT.out i x hx
    subst hA
    have g := hrec.up HB.out
    obtain ⟨g0, g1, g2, g3, g4, g5, g6, g7⟩ := g
    have RB := recBox_new wr x A' c'
    clear hx hxx hto
    by_cases hf : fam x.kind = f
    ·have hk15 : x.kind ≠ 15 := fun hk => by rw [(fam_ten _).2 hk] at hf; omega
     have e1 : (fam x.kind == f) = true := beq_iff_eq.mpr hf
     have HE := Az.mk hf
     clear hf
     cases hs : speaksB x d with
     | true =>
       have h1 : findN T f d = i := by
        unfold findN
        rw [(find_hit HX.out (by unfold hitB; rw [hs, dTz HE.out]; rfl) HI.out.2).1]
       rw [HF.out] at h1
       subst h1
       clear hrec
       go_wp2_with (first | (go_at_call 167; (with_reducible refine (Family_calls x.kind _).mono ?_); rintro e w1 ⟨rfl, hb1⟩; obtain ⟨k0, k1, k2, k3, k4, k5, k6, k7⟩ := RB.keep hb1) | (go_at_call 168; (with_reducible refine (speaks_calls x A' c' d _ _ hRx hk15 hs).mono ?_); rintro e w2 ⟨rfl, hb2⟩))
       go_ret
       exact ⟨rfl, up_trans (up_trans (up_trans HB.out (up_alloc (up_refl _) _)) hb1) hb2⟩
     | false =>
       clear hrec
       go_wp2_with (first | (go_at_call 167; (with_reducible refine (Family_calls x.kind _).mono ?_); rintro e w1 ⟨rfl, hb1⟩; obtain ⟨k0, k1, k2, k3, k4, k5, k6, k7⟩ := RB.keep hb1) | (go_at_call 168; (with_reducible refine (speaks_calls x A' c' d _ _ hRx hk15 hs).mono ?_); rintro e w2 ⟨rfl, hb2⟩))
       go_roundg k
       case measure => have := HI.out.1; omega
       case rel => exact ⟨i + 1, rfl, ⟨by have := HI.out.1; omega, fun j y hj hy => by
        by_cases hji : j = i
        ·subst hji
         rw [HX.out] at hy
         cases hy
         unfold hitB
         rw [hs, Bool.and_false]
        ·exact HI.out.2 j y (by omega) hy⟩, ⟨up_trans (up_trans (up_trans HB.out (up_alloc (up_refl _) _)) hb1) hb2⟩⟩
    ·have e1 : (fam x.kind == f) = false := bqf hf
     have HE := Az.mk hf
     clear hf hrec
     go_wp2_with (first | (go_at_call 167; (with_reducible refine (Family_calls x.kind _).mono ?_); rintro e w1 ⟨rfl, hb1⟩; obtain ⟨k0, k1, k2, k3, k4, k5, k6, k7⟩ := RB.keep hb1))
     go_roundg k
     case measure => have := HI.out.1; omega
     case rel => exact ⟨i + 1, rfl, ⟨by have := HI.out.1; omega, fun j y hj hy => by
      by_cases hji : j = i
      ·subst hji
       rw [HX.out] at hy
       cases hy
       unfold hitB
       rw [dFz HE.out, Bool.false_and]
      ·exact HI.out.2 j y (by omega) hy⟩, ⟨up_trans (up_trans HB.out (up_alloc (up_refl _) _)) hb1⟩⟩
theorem RFind_calls (A : Option Addr) (c : Nat) (T : List Rec) (f d r : Int) (w : World) (hT : Table w A T) (hR : ∀ x ∈ T, Right x) (hl : T.length ≤ 4096) (hf : 1 ≤ f) (hf9 : f ≤ 9) (hd1 : -2147483648 ≤ d) (hd2 : d ≤ 2147483647) (hr : findN T f d = r) :
 Calls Tryz.prog 143 #[.slice A T.length c, .int .i64 f, .int .i32 d] w fun e w' => e = .returned (.int .i64 r) ∧ Up w w' := by
 have hu96 := Tryz.underlying113
 have d1 : (f == 10) = false := bqf (by omega)
 have d2 : (f == 0) = false := bqf (by omega)
 have HT := Az.mk hT
 have HR := Az.mk hR
 have HF := Az.mk hr
 clear hT hR hr
 go_enter Tryz.func143, Tryz.ntmps143
 go_wp2
 go_loopg [7] T.length (fun k v17 w' => ∃ i : Nat, v17 = .int .i64 i ∧ Az (i + k = T.length ∧ ∀ j y, j < i → T[j]? = some y → hitB f d y = false) ∧ Az (Up w w'))
 case atStart => exact ⟨0, rfl, ⟨Nat.zero_add _, fun j y hj => absurd hj (Nat.not_lt_zero _)⟩, ⟨up_refl _⟩⟩
 case round =>
  obtain ⟨i, rfl, HI, HB⟩ := hrel
  have hi := HI.out.1
  cases gk with
  | zero =>
    have hlt : decide ((i : Int) < (T.length : Int)) = false := dFz (by omega)
    have h0 : findN T f d = -1 := by
     unfold findN
     rw [(find_no (fun j y hj => HI.out.2 j y (by omega))).1]
    rw [HF.out] at h0
    subst h0
    go_wp2
    go_ret
    exact ⟨rfl, HB.out⟩
  | succ k =>
    have hlt : decide ((i : Int) < (T.length : Int)) = true := dTz (by omega)
    have p1 : 0 ≤ (i : Int) := by omega
    have p2 : (i : Int) < (T.length : Int) := by omega
    have hx : T[i]? = some T[i] := List.getElem?_eq_getElem (by omega)
    obtain ⟨x, hxx⟩ : ∃ x, T[i]'(by omega) = x := ⟨_, rfl⟩
    rw [hxx] at hx
    have hRx : Right x := by rw [← hxx]; exact HR.out _ (List.getElem_mem _)
    have HX := Az.mk hx
    obtain ⟨ad, hA, A', c', hrec, hto⟩ := HT.out i x hx
    subst hA
    have g := hrec.up HB.out
    obtain ⟨g0, g1, g2, g3, g4, g5, g6, g7⟩ := g
    have RA := hrec.up HB.out
    clear hx hxx hto
    by_cases hf : fam x.kind = f
    ·have hk15 : x.kind ≠ 15 := fun hk => by rw [(fam_ten _).2 hk] at hf; omega
     have e1 : (fam x.kind == f) = true := beq_iff_eq.mpr hf
     have HE := Az.mk hf
     clear hf
     cases hs : speaksB x d with
     | true =>
       have h1 : findN T f d = i := by
        unfold findN
        rw [(find_hit HX.out (by unfold hitB; rw [hs, dTz HE.out]; rfl) HI.out.2).1]
       rw [HF.out] at h1
       subst h1
       clear hrec
       go_wp2_with (first | (go_at_call 149; (with_reducible refine (RFamily_calls x.kind _).mono ?_); rintro e w1 ⟨rfl, hb1⟩; obtain ⟨k0, k1, k2, k3, k4, k5, k6, k7⟩ := RA.up hb1) | (go_at_call 172; (with_reducible refine (RSpeaks_calls x A' c' d _ _ hRx hk15 hs).mono ?_); rintro e w2 ⟨rfl, hb2⟩))
       go_ret
       exact ⟨rfl, up_trans (up_trans HB.out hb1) hb2⟩
     | false =>
       clear hrec
       go_wp2_with (first | (go_at_call 149; (with_reducible refine (RFamily_calls x.kind _).mono ?_); rintro e w1 ⟨rfl, hb1⟩; obtain ⟨k0, k1, k2, k3, k4, k5, k6, k7⟩ := RA.up hb1) | (go_at_call 172; (with_reducible refine (RSpeaks_calls x A' c' d _ _ hRx hk15 hs).mono ?_); rintro e w2 ⟨rfl, hb2⟩))
       go_roundg k
       case measure => have := HI.out.1; omega
       case rel => exact ⟨i + 1, rfl, ⟨by have := HI.out.1; omega, fun j y hj hy => by
        by_cases hji : j = i
        ·subst hji
         rw [HX.out] at hy
         cases hy
         unfold hitB
         rw [hs, Bool.and_false]
        ·exact HI.out.2 j y (by omega) hy⟩, ⟨up_trans (up_trans HB.out hb1) hb2⟩⟩
    ·have e1 : (fam x.kind == f) = false := bqf hf
     have HE := Az.mk hf
     clear hf hrec
     go_wp2_with (first | (go_at_call 149; (with_reducible refine (RFamily_calls x.kind _).mono ?_); rintro e w1 ⟨rfl, hb1⟩; obtain ⟨k0, k1, k2, k3, k4, k5, k6, k7⟩ := RA.up hb1))
     go_roundg k
     case measure => have := HI.out.1; omega
     case rel => exact ⟨i + 1, rfl, ⟨by have := HI.out.1; omega, fun j y hj hy => by
      by_cases hji : j = i
      ·subst hji
       rw [HX.out] at hy
       cases hy
       unfold hitB
       rw [dFz HE.out, Bool.false_and]
      ·exact HI.out.2 j y (by omega) hy⟩, ⟨up_trans HB.out hb1⟩⟩
end Go.Proofs.YtnohcnneflogjaaGreat.M
namespace Go.Proofs.YtnohcnneflogjaaGreat.M
open Go.RowKit
abbrev nilS : Value := .slice none 0 0
theorem own_cases {w : World} {base : Nat} {e : TypeId} {size : Nat} {v : Value} {n : Nat} {xs : List Value} (h : w.ownsRow base e size v n xs) :
 (v = .slice none 0 0 ∧ n = 0 ∧ xs = []) ∨ ∃ g cap, v = .slice (some ⟨g, 0, none⟩) n cap ∧ base ≤ g ∧ g < w.heap.size ∧ ∀ j u, xs[j]? = some u → w.cell? ⟨g, j, none⟩ = some u := by
 rcases h.2 with ⟨hv, hn⟩ | ⟨g, cap, cur, hv, hg, hh, _⟩
 ·refine .inl ⟨hv, hn, ?_⟩
  have := h.1
  rw [hn, Nat.zero_mul] at this
  exact List.eq_nil_of_length_eq_zero this
 ·refine .inr ⟨g, cap, hv, hg, (Array.getElem?_eq_some_iff.1 hh).1, fun j u hu => ?_⟩
  subst hv
  have := h.cells (g := g) rfl j u hu
  rwa [show (⟨g, 0, none⟩ : Addr).add j = ⟨g, j, none⟩ by unfold Addr.add; split <;> simp_all] at this
theorem own_block {w w' : World} {base : Nat} {e : TypeId} {size : Nat} {v : Value} {n : Nat} {xs : List Value} (h : w.ownsRow base e size v n xs) (hb : ∀ g, v.ownBlock = some g → w'.heap[g]? = w.heap[g]?) : w'.ownsRow base e size v n xs := by
 refine ⟨h.1, ?_⟩
 rcases h.2 with hn | ⟨g, cap, cur, rfl, hg, hh, rest⟩
 ·exact .inl hn
 ·exact .inr ⟨g, cap, cur, rfl, hg, by rw [hb g rfl]; exact hh, rest⟩
theorem own_up {w w' : World} {base : Nat} {e : TypeId} {size : Nat} {v : Value} {n : Nat} {xs : List Value} (h : w.ownsRow base e size v n xs) (hu : Up w w') : w'.ownsRow base e size v n xs :=
 own_block h fun g hg => hu.block g (h.lt g hg).2
theorem own_len {w : World} {base : Nat} {e : TypeId} {size : Nat} {v : Value} {n : Nat} {xs : List Value} (h : w.ownsRow base e size v n xs) : n ≤ maxLen := by
 rcases h.2 with ⟨_, hn⟩ | ⟨g, cap, cur, _, _, _, h1, h2, _⟩
 ·omega
 ·omega
abbrev RecP := Rec × Option Addr × Nat
def pcells (p : RecP) : List Value := (recCells p.1 p.2.1 p.2.2).toList
def recsCells (L : List RecP) : List Value := L.flatMap pcells
theorem pcells_length (p : RecP) : (pcells p).length = 8 := rfl
theorem recsCells_length (L : List RecP) : (recsCells L).length = L.length * 8 := by
 induction L with
 | nil => rfl
 | cons p L ih =>
   show (pcells p ++ recsCells L).length = _
   rw [List.length_append, ih, pcells_length, List.length_cons]
   omega
theorem recsCells_get (L : List RecP) : ∀ (q j : Nat) (p : RecP), L[q]? = some p → j < 8 → (recsCells L)[q * 8 + j]? = (pcells p)[j]? := by
 induction L with
 | nil => intro q j p h; simp at h
 | cons a L ih =>
   intro q j p h hj
   show (pcells a ++ recsCells L)[q * 8 + j]? = _
   cases q with
   | zero =>
     simp only [List.getElem?_cons_zero, Option.some.injEq] at h
     subst h
     rw [List.getElem?_append_left (by rw [pcells_length]; omega)]
     congr 1
     omega
   | succ q =>
     rw [List.getElem?_append_right (by rw [pcells_length]; omega), pcells_length]
     rw [show (q + 1) * 8 + j - 8 = q * 8 + j by omega]
     exact ih q j p (by simpa using h) hj
theorem recsCells_snoc (L : List RecP) (p : RecP) : recsCells (L ++ [p]) = recsCells L ++ pcells p := by simp [recsCells]
theorem pcells_one (p : RecP) : ∀ u ∈ pcells p, u.oneCell' = true := by
 intro u hu
 simp [pcells] at hu
 rcases hu with rfl | rfl | rfl | rfl | rfl | rfl | rfl | rfl <;> rfl
theorem row_recAt {w : World} {g : Nat} {L : List RecP} (h : ∀ j u, (recsCells L)[j]? = some u → w.cell? ⟨g, j, none⟩ = some u) {q : Nat} {p : RecP} (hp : L[q]? = some p) : RecAt w ⟨g, q * 8, none⟩ p.1 p.2.1 p.2.2 := by
 have key : ∀ j u, j < 8 → (pcells p)[j]? = some u → w.cell? ⟨g, q * 8 + j, none⟩ = some u := fun j u hj hu => h _ _ (by rw [recsCells_get L q j p hp hj]; exact hu)
 exact ⟨key 0 _ (by omega) rfl, key 1 _ (by omega) rfl, key 2 _ (by omega) rfl, key 3 _ (by omega) rfl, key 4 _ (by omega) rfl, key 5 _ (by omega) rfl, key 6 _ (by omega) rfl, key 7 _ (by omega) rfl⟩
theorem recInfo : (Tryz.prog.info? 113).map (fun i => (i.zero.map (fun z => z.cells.size), i.size, i.bytes)) = some (some 8, 8, 96) := by kernel_rfl
theorem rec_info : ∃ (i : TypeInfo) (z : Value), Tryz.prog.info? 113 = some i ∧ i.zero = some z ∧ i.size = 8 ∧ i.bytes = 96 ∧ z.cells.size = 8 := by
 have := recInfo
 cases hi : Tryz.prog.info? 113 with
 | none => rw [hi] at this; cases this
 | some i =>
   rw [hi] at this
   simp only [Option.map_some, Option.some.injEq, Prod.mk.injEq] at this
   obtain ⟨h1, h2, h3⟩ := this
   cases hz : i.zero with
   | none => rw [hz] at h1; cases h1
   | some z =>
     rw [hz] at h1
     exact ⟨i, z, rfl, hz, h2, h3, by simpa using h1⟩
theorem key_int (k : IntKind) (a : Int) (t : TypeId) (ht : Tryz.prog.underlying t = some (.int k)) (h : (Lit.int k a).wf = true) : KeyOk Tryz.prog t (.int k a) := ⟨_, Go.Maps.keyOf_int_mk ht h⟩
def HeadsF (w : World) (base bm n : Nat) (T : List Rec) (i : Nat) (F : Value → Option Value) (L : Int → List RecP) : Prop :=
 MapIs Tryz.prog 3 w bm n F ∧ bm < base ∧ base ≤ w.heap.size ∧
 (∀ f, 0 ≤ f → f ≤ 10 → (L f).map (·.1) = (T.take i).filter (fun x => decide (fam x.kind = f)) ∧ w.ownsRow base 113 8 ((F (.int .i64 f)).getD nilS) (L f).length (recsCells (L f))) ∧
 (∀ f g, 0 ≤ f → f ≤ 10 → 0 ≤ g → g ≤ 10 → f ≠ g → ((F (.int .i64 f)).getD nilS).ownBlock = none ∨ ((F (.int .i64 f)).getD nilS).ownBlock ≠ ((F (.int .i64 g)).getD nilS).ownBlock)
theorem HeadsF.up {w w' : World} {base bm n : Nat} {T : List Rec} {i : Nat} {F : Value → Option Value} {L : Int → List RecP} (h : HeadsF w base bm n T i F L) (hu : Up w w') : HeadsF w' base bm n T i F L := by
 obtain ⟨h1, h2, h3, h4, h5⟩ := h
 exact ⟨h1.up hu, h2, Nat.le_trans h3 hu.size, fun f f0 f1 => ⟨(h4 f f0 f1).1, own_up (h4 f f0 f1).2 hu⟩, h5⟩
theorem HeadsF.start {w : World} {bm : Nat} {T : List Rec} (h : MapIs Tryz.prog 3 w bm 0 (fun _ => none)) : HeadsF w (bm + 1) bm 0 T 0 (fun _ => none) (fun _ => []) := by
 refine ⟨h, by omega, h.lt, fun f _ _ => ⟨by simp, ?_⟩, fun f g _ _ _ _ _ => .inl rfl⟩
 exact World.ownsRow_nil _ _ _ _
theorem HeadsF.step {wq w1 w2 : World} {base bm n : Nat} {T : List Rec} {i : Nat} {x : Rec} {A : Option Addr} {c : Nat} {F : Value → Option Value} {L : Int → List RecP} {o : Obj} {v v' : Value}
 (h : HeadsF wq base bm n T i F L) (hx : T[i]? = some x) (hv : (F (.int .i64 (fam x.kind))).getD nilS = v)
 (hown : w1.ownsRow base 113 8 v' ((L (fam x.kind)).length + 1) (recsCells (L (fam x.kind)) ++ pcells (x, A, c))) (hg : (wq.alloc o).grownBy w1 v.ownBlock) (hat : v'.ownBlock = v.ownBlock ∨ v'.ownBlock = some (wq.alloc o).heap.size)
 (hm : MapIs Tryz.prog 3 w2 bm (n + 1) (putF F (.int .i64 (fam x.kind)) v')) (hg2 : w1.grownBy w2 (some bm)) :
 HeadsF w2 base bm (n + 1) T (i + 1) (putF F (.int .i64 (fam x.kind)) v') (fun f => if f = fam x.kind then L f ++ [(x, A, c)] else L f) := by
 obtain ⟨h1, h2, h3, h4, h5⟩ := h
 have hi : i < T.length := (List.getElem?_eq_some_iff.1 hx).1
 have hfr := fam_le x.kind
 have ht : T.take (i + 1) = T.take i ++ [x] := by
  rw [List.take_add_one, hx]
  rfl
 have hsz : wq.heap.size < (wq.alloc o).heap.size := by simp
 have hsz1 : wq.heap.size < w1.heap.size := Nat.lt_of_lt_of_le hsz hg.size
 have other : ∀ f, f ≠ fam x.kind → putF F (.int .i64 (fam x.kind)) v' (.int .i64 f) = F (.int .i64 f) := fun f hf => putF_other _ _ _ _ (by simpa using hf)
 have hvb : ∀ g, v.ownBlock = some g → base ≤ g ∧ g < wq.heap.size := by
  intro g hg
  have := (h4 (fam x.kind) hfr.1 hfr.2).2
  rw [hv] at this
  exact this.lt g hg
 have keep : ∀ g, base ≤ g → g < wq.heap.size → v.ownBlock ≠ some g → w2.heap[g]? = wq.heap[g]? := by
  intro g g1 g2 g3
  rw [hg2.block g (by omega) (by simp; omega), hg.block g (by omega) (fun e => g3 e.symm)]
  exact Below.heap_alloc wq o g g2
 refine ⟨hm, h2, Nat.le_trans h3 (Nat.le_trans (Nat.le_of_lt hsz1) hg2.size), fun f f0 f1 => ?_, fun f g f0 f1 g0 g1 hfg => ?_⟩
 ·obtain ⟨e1, e2⟩ := h4 f f0 f1
  by_cases hf : f = fam x.kind
  ·subst hf
   dsimp only
   rw [if_pos rfl, putF_same, ht, List.filter_append, List.map_append, e1]
   refine ⟨by simp, ?_⟩
   rw [recsCells_snoc, List.length_append]
   exact own_block hown fun g hg' => hg2.block g ((hown.lt g hg').2) (by have := (hown.lt g hg').1; simp; omega)
  ·dsimp only
   rw [if_neg hf, other f hf, ht, List.filter_append]
   refine ⟨by rw [e1]; simp [Ne.symm hf], ?_⟩
   refine own_block e2 fun g hg' => keep g (e2.lt g hg').1 (e2.lt g hg').2 ?_
   rcases h5 f (fam x.kind) f0 f1 hfr.1 hfr.2 hf with h6 | h6
   ·rw [h6] at hg'; cases hg'
   ·rw [← hv]
    intro e
    exact h6 (by rw [hg', e])
 ·have old : ∀ g, 0 ≤ g → g ≤ 10 → ∀ k, ((F (.int .i64 g)).getD nilS).ownBlock = some k → k < wq.heap.size := fun g g0 g1 k hk => ((h4 g g0 g1).2.lt k hk).2
  by_cases hf : f = fam x.kind
  ·subst hf
   rw [putF_same, other g (Ne.symm hfg)]
   show v'.ownBlock = none ∨ v'.ownBlock ≠ _
   rcases hat with ha | ha
   ·rw [ha, ← hv]
    exact h5 _ _ f0 f1 g0 g1 hfg
   ·refine .inr ?_
    rw [ha]
    intro e
    have := old g g0 g1 _ e.symm
    omega
  ·rw [other f hf]
   by_cases hgx : g = fam x.kind
   ·subst hgx
    rw [putF_same]
    show _ ∨ _ ≠ v'.ownBlock
    rcases hat with ha | ha
    ·rw [ha, ← hv]
     exact h5 _ _ f0 f1 g0 g1 hfg
    ·refine .inr ?_
     rw [ha]
     intro e
     have := old f f0 f1 _ e
     omega
   ·rw [other g hgx]
    exact h5 f g f0 f1 g0 g1 hfg
end Go.Proofs.YtnohcnneflogjaaGreat.M
namespace Go.Proofs.YtnohcnneflogjaaGreat.M
open Go.RowKit
theorem run_append_none' {P : Program} (w : World) (base : Nat) (t ty e : TypeId) (i : TypeInfo) (size : Nat) (ht : P.underlying t = some (.slice e)) (hi : P.info? e = some i)
 (v : Value) (n : Nat) (xs : List Value) (hown : w.ownsRow base e size v n xs) (c : Nat) :
 (Builtin.append_ #[t, t] ty #[v, .slice none 0 c]).run P w = .ok v w := by
 rcases hown.2 with ⟨rfl, rfl⟩ | ⟨g, cap, cur, rfl, _, _, hnc, _⟩
 ·simp [Builtin.append_, run_underlying ht, sizeOf, typeInfo, hi, Builtin.lenOf, Builtin.firstCells]
 ·simp [Builtin.append_, run_underlying ht, sizeOf, typeInfo, hi, Builtin.lenOf, Builtin.firstCells, hnc, storeCells]
theorem wpList_append_row {P : Program} (w : World) {ops : Array Oper} {rest : List Oper} {o : Oper} {a : Act} {Q : Exit → Act → World → Prop} (hgd : o.guard = none) (s x : Operand) (t : TypeId)
 (ho : o.op = .call { callee := .builtin .append, args := #[s, x], argTypes := #[t, t] })
 (base : Nat) (e : TypeId) (i : TypeInfo) (z : Value) (size bytes : Nat) (ht : P.underlying t = some (.slice e)) (hi : P.info? e = some i) (hz : i.zero = some z)
 (hsize : i.size = size) (hby : i.bytes = bytes) (hzs : z.cells.size = size) (hsz : 0 < size)
 (v : Value) (n : Nat) (xs : List Value) (hs : a.eval s = v) (hown : w.ownsRow base e size v n xs)
 (A : Option Addr) (m c : Nat) (news : List Value) (hx : a.eval x = .slice A m c) (hl : news.length = m * size) (hnews : Cells w A news) (h1 : ∀ u ∈ news, u.oneCell' = true)
 (h63 : n + m ≤ maxLen) (hbytes : (n + m) * bytes ≤ 140737488355328) (hbase : base ≤ w.heap.size)
 (h : ∀ v' w', w'.ownsRow base e size v' (n + m) (xs ++ news) → w.grownBy w' v.ownBlock → (v'.ownBlock = v.ownBlock ∨ v'.ownBlock = some w.heap.size) → wpList P ops Q rest (a.put o.dst v') w') :
 wpList P ops Q (o :: rest) a w := by
 cases A with
 | some ad =>
   exact wpList_append_own_at w hgd s x t ho base e i z size bytes ht hi hz hsize hby hzs hsz v n xs hs hown ad m c news hx hl
    (fun j u hu => by obtain ⟨ad', he, hc⟩ := hnews j u hu; cases he; exact hc) h1 h63 hbytes hbase (fun v' w' a1 a2 _ a4 => h v' w' a1 a2 a4)
 | none =>
   have hn : news = [] := by
    cases news with
    | nil => rfl
    | cons u us =>
      obtain ⟨ad, he, _⟩ := hnews 0 u rfl
      cases he
   subst hn
   have hm : m = 0 := by
    rcases Nat.eq_zero_or_pos m with h | h
    ·exact h
    ·have := Nat.mul_pos h hsz
     simp at hl
     omega
   subst hm
   refine wpList_plain hgd fun K hK => ?_
   have hrun := run_append_none' (P := P) w base t o.type e i size ht hi v n xs hown c
   unfold Oper.wp
   simp [execOp, ho, resolve, invoke, builtin, hs, hx, hrun, Result.andThen]
   refine hK _ _ (h v w ?_ ⟨rfl, rfl, rfl, Nat.le_refl _, fun _ _ _ => rfl⟩ (.inl rfl))
   simpa using hown
theorem i32Info : (Tryz.prog.info? 21).map (fun i => (i.zero.map (fun z => z.cells.size), i.size, i.bytes)) = some (some 1, 1, 4) := by kernel_rfl
theorem i32_info : ∃ (i : TypeInfo) (z : Value), Tryz.prog.info? 21 = some i ∧ i.zero = some z ∧ i.size = 1 ∧ i.bytes = 4 ∧ z.cells.size = 1 := by
 have := i32Info
 cases hi : Tryz.prog.info? 21 with
 | none => rw [hi] at this; cases this
 | some i =>
   rw [hi] at this
   simp only [Option.map_some, Option.some.injEq, Prod.mk.injEq] at this
   obtain ⟨h1, h2, h3⟩ := this
   cases hz : i.zero with
   | none => rw [hz] at h1; cases h1
   | some z =>
     rw [hz] at h1
     exact ⟨i, z, rfl, hz, h2, h3, by simpa using h1⟩
theorem ints_one (k : IntKind) (l : List Int) : ∀ u ∈ l.map (Value.int k), u.oneCell' = true := by
 intro u hu
 obtain ⟨a, _, rfl⟩ := List.mem_map.1 hu
 rfl
def RetRow (l : List Int) (w : World) (e : Ending) (w' : World) : Prop := ∃ v, e = .returned v ∧ w'.ownsRow w.heap.size 21 1 v l.length (l.map (Value.int .i32)) ∧ Up w w'
theorem own_ints {w : World} {base : Nat} {v : Value} {l : List Int} (h : w.ownsRow base 21 1 v l.length (l.map (Value.int .i32))) : ∃ A c, v = .slice A l.length c ∧ Ints .i32 w A l ∧ (A = none → c = 0) := by
 rcases own_cases h with ⟨hv, hn, hx⟩ | ⟨g, cap, hv, _, _, hc⟩
 ·refine ⟨none, 0, by rw [hv, hn], ?_, fun _ => rfl⟩
  intro i u hu
  rw [hx] at hu
  simp at hu
 ·refine ⟨_, cap, hv, fun i u hu => ⟨⟨g, 0, none⟩, rfl, ?_⟩, fun h => by cases h⟩
  rw [show (⟨g, 0, none⟩ : Addr).add i = ⟨g, i, none⟩ by unfold Addr.add; split <;> simp_all]
  exact hc i u hu
theorem build_two (a b : Int) (w : World) : (Instr.buildSlice 23 2 #[(0, .int .i32 a), (1, .int .i32 b)]).run Tryz.prog w = .ok (.slice (some ⟨w.heap.size, 0, none⟩) 2 2) (w.alloc (.cells #[.int .i32 a, .int .i32 b] 21)) := by kernel_rfl
theorem own_two (w : World) (a b : Int) : (w.alloc (.cells #[.int .i32 a, .int .i32 b] 21)).ownsRow w.heap.size 21 1 (.slice (some ⟨w.heap.size, 0, none⟩) 2 2) 2 [.int .i32 a, .int .i32 b] :=
 World.ownsRow_lit w #[.int .i32 a, .int .i32 b] 2 (Nat.le_refl _) (by decide) rfl
theorem find_cases (T : List Rec) (f c : Int) : (findN T f c = -1 ∧ findR T f c = none) ∨ ∃ (i : Nat) (x : Rec), i < T.length ∧ T[i]? = some x ∧ findN T f c = i ∧ findR T f c = some x ∧ hitB f c x = true := by
 cases h : findI T f c with
 | none =>
   left
   refine ⟨by unfold findN; rw [h], ?_⟩
   unfold findI at h
   rw [List.findIdx?_eq_none_iff] at h
   unfold findR
   rw [List.find?_eq_none]
   intro x hx
   rw [h x hx]
   simp
 | some i =>
   right
   unfold findI at h
   rw [List.findIdx?_eq_some_iff_getElem] at h
   obtain ⟨hi, hh, hb⟩ := h
   have hx : T[i]? = some T[i] := List.getElem?_eq_getElem hi
   have hb' : ∀ j y, j < i → T[j]? = some y → hitB f c y = false := fun j y hj hy => by
    have := hb j hj
    have e : T[j]'(by omega) = y := (List.getElem?_eq_some_iff.1 hy).2
    rw [e] at this
    simpa using this
   obtain ⟨h1, h2⟩ := find_hit hx hh hb'
   exact ⟨i, T[i], hi, hx, by unfold findN; rw [h1], h2, hh⟩
theorem Syllable_calls (c : Int) (b : Bool) (w : World) (h : syl c = b) : Calls Tryz.prog 153 #[.int .i32 c] w fun e w' => e = .returned (.bool b) ∧ w = w' := by
 subst h; unfold syl
 cases b1 : decide (44032 ≤ c) <;> cases b2 : decide (c ≤ 55203) <;> (go_enter Tryz.func153, Tryz.ntmps153; go_wp2; go_ret; exact ⟨rfl, rfl⟩)
theorem syllable_calls (c : Int) (b : Bool) (w : World) (h : syl c = b) : Calls Tryz.prog 133 #[.int .i32 c] w fun e w' => e = .returned (.bool b) ∧ w = w' := by
 subst h; unfold syl
 cases b1 : decide (44032 ≤ c) <;> cases b2 : decide (c ≤ 55203) <;> (go_enter Tryz.func133, Tryz.ntmps133; go_wp2; go_ret; exact ⟨rfl, rfl⟩)
theorem Rjl_calls (c : Int) (b : Bool) (w : World) (h : jl c = b) : Calls Tryz.prog 151 #[.int .i32 c] w fun e w' => e = .returned (.bool b) ∧ w = w' := by
 subst h; unfold jl
 cases b1 : decide (4352 ≤ c) <;> cases b2 : decide (c ≤ 4370) <;> (go_enter Tryz.func151, Tryz.ntmps151; go_wp2; go_ret; exact ⟨rfl, rfl⟩)
theorem Rjv_calls (c : Int) (b : Bool) (w : World) (h : jv c = b) : Calls Tryz.prog 152 #[.int .i32 c] w fun e w' => e = .returned (.bool b) ∧ w = w' := by
 subst h; unfold jv
 cases b1 : decide (4449 ≤ c) <;> cases b2 : decide (c ≤ 4469) <;> (go_enter Tryz.func152, Tryz.ntmps152; go_wp2; go_ret; exact ⟨rfl, rfl⟩)
theorem Rjt_calls (c : Int) (b : Bool) (w : World) (h : jt c = b) : Calls Tryz.prog 154 #[.int .i32 c] w fun e w' => e = .returned (.bool b) ∧ w = w' := by
 subst h; unfold jt
 cases b1 : decide (4520 ≤ c) <;> cases b2 : decide (c ≤ 4546) <;> (go_enter Tryz.func154, Tryz.ntmps154; go_wp2; go_ret; exact ⟨rfl, rfl⟩)
theorem isL_calls (c : Int) (b : Bool) (w : World) (h : jl c = b) : Calls Tryz.prog 206 #[.int .i32 c] w fun e w' => e = .returned (.bool b) ∧ w = w' := by
 have h' : (decide (4352 ≤ c) && decide (c < 4371)) = b := by rw [← h, jl, Bool.eq_iff_iff]; simp; omega
 subst h'; clear h
 cases b1 : decide (4352 ≤ c) <;> cases b2 : decide (c < 4371) <;> (go_enter Tryz.func206, Tryz.ntmps206; go_wp2; go_ret; exact ⟨rfl, rfl⟩)
theorem isV_calls (c : Int) (b : Bool) (w : World) (h : jv c = b) : Calls Tryz.prog 207 #[.int .i32 c] w fun e w' => e = .returned (.bool b) ∧ w = w' := by
 have h' : (decide (4449 ≤ c) && decide (c < 4470)) = b := by rw [← h, jv, Bool.eq_iff_iff]; simp; omega
 subst h'; clear h
 cases b1 : decide (4449 ≤ c) <;> cases b2 : decide (c < 4470) <;> (go_enter Tryz.func207, Tryz.ntmps207; go_wp2; go_ret; exact ⟨rfl, rfl⟩)
theorem isT_calls (c : Int) (b : Bool) (w : World) (h : jt c = b) : Calls Tryz.prog 208 #[.int .i32 c] w fun e w' => e = .returned (.bool b) ∧ w = w' := by
 have h' : (decide (4519 < c) && decide (c < 4547)) = b := by rw [← h, jt, Bool.eq_iff_iff]; simp; omega
 subst h'; clear h
 cases b1 : decide (4519 < c) <;> cases b2 : decide (c < 4547) <;> (go_enter Tryz.func208, Tryz.ntmps208; go_wp2; go_ret; exact ⟨rfl, rfl⟩)
theorem syl_iff {c : Int} (h : syl c = true) : 44032 ≤ c ∧ c ≤ 55203 := by simpa [syl] using h
theorem parts_calls (c : Int) (w : World) (h : syl c = true) : Calls Tryz.prog 134 #[.int .i32 c] w fun e w' => e = .returned (.tuple #[.int .i32 (sylA c), .int .i32 (sylB c)]) ∧ w = w' := by
 have hc := syl_iff h
 have p1 : 44032 ≤ c := hc.1
 have p2 : c ≤ 55203 := hc.2
 clear h hc
 by_cases ht : (c - 44032) % 28 = 0
 ·have d1 : decide (0 < (c - 44032) % 28) = false := dFz (by omega)
  have hA : sylA c = 4352 + (c - 44032) / 28 / 21 := by unfold sylA; rw [if_pos ht]; omega
  have hB : sylB c = 4449 + (c - 44032) / 28 % 21 := by unfold sylB; rw [if_pos ht]
  rw [hA, hB]
  clear ht hA hB
  go_enter Tryz.func134, Tryz.ntmps134
  go_wp2
  go_ret2
  exact ⟨rfl, rfl⟩
 ·have d1 : decide (0 < (c - 44032) % 28) = true := dTz (by omega)
  have hA : sylA c = c - (c - 44032) % 28 := by unfold sylA; rw [if_neg ht]
  have hB : sylB c = 4519 + (c - 44032) % 28 := by unfold sylB; rw [if_neg ht]
  rw [hA, hB]
  clear ht hA hB
  go_enter Tryz.func134, Tryz.ntmps134
  go_wp2
  go_ret2
  exact ⟨rfl, rfl⟩
end Go.Proofs.YtnohcnneflogjaaGreat.M
