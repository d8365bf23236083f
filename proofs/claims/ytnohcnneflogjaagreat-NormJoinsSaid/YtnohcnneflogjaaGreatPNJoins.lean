/- NormJoins, walked. (printed by mknlaws.py) -/
import Derived.Test.YtnohcnneflogjaaGreatPNorm4
set_option maxHeartbeats 16000000
set_option maxRecDepth 1000000
set_option linter.unusedVariables false
set_option linter.unusedSimpArgs false
namespace Go.Proofs.YtnohcnneflogjaaGreat.M.Nm
open Go.Shelf Go.RowKit Go.Lib Go.Sort St
theorem safe_ascii {T : List Rec} (hF : Fine T) {c : Int} (h0 : 0 ≤ c) (h1 : c < 128) : safeF T c = true := by
 have hn : ∀ f, (f = 2 ∨ f = 3) → findR T f c = none := by
  intro f hf
  cases h : findR T f c with
  | none => rfl
  | some x =>
    obtain ⟨h2, h3⟩ := findR_some h
    obtain ⟨h4, h5, h6, h7, h8⟩ := hit_span h3
    have := (hF.upper h2 (by rw [h4]; exact hf)).1
    omega
 have hs : syl c = false := by simp [syl]; omega
 have ho : openF T c = [] := by unfold openF; rw [hs, hn 3 (.inr rfl)]; rfl
 have hc : classF T c = 0 := by unfold classF; rw [hn 2 (.inl rfl)]
 have hsec : secondF T c = false := by
  unfold secondF
  have j1 : jv c = false := by simp [jv]; omega
  have j2 : jt c = false := by simp [jt]; omega
  rw [j1, j2]
  show (false || false || _) = false
  rw [Bool.or_self, Bool.false_or, List.any_eq_false]
  intro x hx h
  simp only [Bool.and_eq_true, decide_eq_true_eq] at h
  have hp := hF.pair_right hx h.1
  unfold pairsB at hp
  simp only [Bool.and_eq_true, decide_eq_true_eq] at hp
  have := hp.1.2
  omega
 unfold safeF
 rw [hc, shut_bad ho, full_one hF ho, show rd [c] 0 = c from rfl, hsec]
 rfl
theorem dot_comp {T : List Rec} (hF : Fine T) (c : Int) : (compF T 46 c).2 = false := by
 unfold compF
 have j1 : jl 46 = false := by decide
 have j2 : syl 46 = false := by decide
 rw [j1, j2, if_neg (by simp), if_neg (by simp)]
 cases h : T.find? (pairAt 46 c) with
 | none => rfl
 | some x =>
   exfalso
   have hm := List.mem_of_find?_eq_some h
   obtain ⟨h7, h8, h9⟩ := pairAt_iff (List.find?_some h)
   have hp := hF.pair_right hm h7
   unfold pairsB at hp
   simp only [Bool.and_eq_true, decide_eq_true_eq] at hp
   exact hp.2 h8
theorem cmp_dot {T : List Rec} {s : Int} (hs : ∀ c, (compF T s c).2 = false) : ∀ (t tl : List Int), cmpF T t (some s) tl = s :: cmpF T t none tl
 | [], tl => rfl
 | c :: t, tl => by
   by_cases hc : classF T c = 0
   ·simp [cmpF, hs, hc]
   ·simp [cmpF, hs, hc, cmp_dot hs t]
theorem nfc_dot {T : List Rec} (hF : Fine T) (y : List Int) : nfcF T (46 :: y) = 46 :: nfcF T y := by
 have hsf := safe_ascii hF (c := 46) (by decide) (by decide)
 have h0 : numF T 2 (·.n) 46 = 0 := by
  unfold safeF at hsf
  simp only [Bool.and_eq_true, decide_eq_true_eq] at hsf
  exact hsf.1.1
 have ho : openF T 46 = [] := by
  have : findR T 3 46 = none := by
   cases h : findR T 3 46 with
   | none => rfl
   | some x =>
     obtain ⟨h2, h3⟩ := findR_some h
     obtain ⟨h4, h5, h6, h7, h8⟩ := hit_span h3
     have := (hF.upper h2 (.inr h4)).1
     omega
  unfold openF
  rw [show syl 46 = false by decide, this]
  rfl
 have e : nfdF T (46 :: y) = 46 :: nfdF T y := by
  unfold nfdF sortF openX
  rw [List.flatMap_cons, full_one hF ho]
  show runF _ (46 :: _) [] = _
  rw [runF, if_pos h0]
  rfl
 unfold nfcF composeF
 rw [e, cmpF, if_pos (show classF T 46 = 0 from h0), cmp_dot (dot_comp hF)]
 rfl
theorem NormJoins_no (A : Option Addr) (c : Nat) (T : List Rec) (A1 : Option Addr) (n1 c1 : Nat) (A2 : Option Addr) (n2 c2 : Nat) (w : World) (hT : Table w A T) (hW : ∀ x ∈ T, x.Wf) (hc : T.length ≤ c) (he : (checkE (T.take 150)).2 ≠ 0) :
 Calls Tryz.prog 9 #[.slice A T.length c, .slice A1 n1 c1, .slice A2 n2 c2] w fun e w' => e = .returned (.bool true) ∧ Up w w' := by
 have HM := Az.mk (Made_no A c T w hT hW hc he)
 clear hT hW hc he
 go_enter Tryz.func9, Tryz.ntmps9
 go_wp2_with (first | (go_at_call 21; (with_reducible refine HM.out.mono ?_); rintro e w1 ⟨rfl, hup1⟩) | (go_at_call 41; (with_reducible refine (told13_calls _).mono ?_); rintro e w2 ⟨rfl, hup2⟩))
 go_ret
 exact ⟨rfl, up_trans hup1 hup2⟩
theorem ints_tl {w : World} {ad : Addr} {a : Int} {l : List Int} (h : Ints .i32 w (some ad) (a :: l)) : Ints .i32 w (some ⟨ad.block, ad.off + 1, none⟩) l := fun i v hv => by
 obtain ⟨ad', h1, h2⟩ := h (i + 1) v (by simpa using hv)
 cases h1
 refine ⟨_, rfl, ?_⟩
 have e : (⟨ad.block, ad.off + 1, none⟩ : Addr).add i = ad.add (i + 1) := by
  rw [show (⟨ad.block, ad.off + 1, none⟩ : Addr) = ad.add 1 from rfl, Addr.add_add, Nat.add_comm 1 i]
 rw [e]
 exact h2
theorem ints_none {w : World} {A : Option Addr} {l : List Int} (h : l.length = 0) : Ints .i32 w A l := by
 rw [List.length_eq_zero_iff.1 h]
 exact Cells.nil _ _
theorem few13_cap (A : Option Addr) (c : Nat) (x y : List Int) (n : Nat) (z : Int) (hz : z = (n : Int)) (w : World) (hI : Ints .i32 w A x) (hx : x.length < 4611686018427387904) (hc : x.length ≤ c) (hn : n ≤ 1000) (hy : x.take n = y) :
 Calls Tryz.prog 42 #[.slice A x.length c, .int .i64 z] w fun e w' => ∃ A' c', e = .returned (.slice A' y.length c') ∧ y.length + 2 ≤ c' ∧ Ints .i32 w' A' y ∧ Up w w' := by
 refine (few13_own A c x y n z hz w hI hx hc hn hy).mono ?_
 rintro e w' ⟨g, c', rfl, hcap, hown, hup⟩
 exact ⟨_, _, rfl, hcap, two_left (own_two_ints hown), hup⟩
theorem njend {p : Prop} (h : p := by
 go_loopg [13] 128 (fun k v13 w' => ∃ j : Nat, v13 = .int .i32 j ∧ Az (j + k = 128) ∧ Az (Up wk w'))
 case atStart => exact ⟨0, rfl, ⟨Nat.zero_add _⟩, ⟨up_refl _⟩⟩
 case round =>
  obtain ⟨j, rfl, HJ, HU⟩ := hrel
  cases gk with
  | succ k2 =>
    have hj : (j : Int) < 128 := by have := HJ.out; omega
    have hlt : decide ((j : Int) < 128) = true := dTz hj
    have hw : wrap32 ((j : Int) + 1) = ((j + 1 : Nat) : Int) := by unfold wrap32; omega
    go_wp2_with (first | (go_at_call 45; (with_reducible refine (Safe_calls (HDk.out.up HU.out) HF.out j (by omega) true (safe_ascii HF.out (by omega) hj)).mono ?_); rintro e w20 ⟨rfl, hup⟩; have HV := Az.mk (up_trans HU.out hup); clear hup))
    go_roundg k2
    case measure => have := HJ.out; omega
    case rel => exact ⟨j + 1, by go_num, ⟨by have := HJ.out; omega⟩, HV⟩
  | zero =>
    have hlt : decide ((j : Int) < 128) = false := dFz (by have := HJ.out; omega)
    have hlt1 : ¬ ((j : Int) < 128) := by have := HJ.out; omega
    obtain ⟨w20, hw20⟩ : ∃ w20, w20 = wr := ⟨_, rfl⟩
    subst hw20
    go_wp2_with (first | (go_at_call 26; (with_reducible refine (SameN_calls (some ⟨adq.block, adq.off + 1, none⟩) A29 (u.length - 1) ut.length (c24 - 1) c29 ut ut _ (ints_tl (by have h := HI24.out.up (up_trans HS25.out (up_trans HS27.out (up_trans HS28.out HS29.out))); rwa [HUU.out] at h)) HI29.out HUTN.out rfl (by have := HUTB.out; have := HUTN.out; omega) HUTB.out true HUTS.out).mono ?_); rintro e w30 ⟨rfl, hup⟩; have HS30 := Az.mk hup; clear hup) |
     (go_at_call 26; (with_reducible refine (SameN_calls (some adq) A29 (u.length - 1) ut.length 0 c29 ut ut _ (ints_none (by have := HUTN.out; omega)) HI29.out HUTN.out rfl (by have := HUTB.out; have := HUTN.out; omega) HUTB.out true HUTS.out).mono ?_); rintro e w30 ⟨rfl, hup⟩; have HS30 := Az.mk hup; clear hup) |
     (go_at_call 44; (with_reducible refine (NFC_calls (HDk.out.up (up_trans HU.out (up_trans HS22.out (up_trans HS23.out (up_trans HS24.out (up_trans HS25.out (up_trans HS27.out HS28.out))))))) HF.out (some adB) _ tl _ HTLN.out (ints_none (by have := HTLN.out; omega)) HTLR.out HTL2.out ut HUTE.out).mono ?_); rintro e w29 ⟨A29, c29, rfl, _, hi, hup⟩; have HS29 := Az.mk hup; have HI29 := Az.mk hi; clear hup hi) |
     (go_at_call 44; (with_reducible refine (NFC_calls (HDk.out.up (up_trans HU.out (up_trans HS22.out (up_trans HS23.out (up_trans HS24.out (up_trans HS25.out (up_trans HS27.out HS28.out))))))) HF.out _ _ tl _ HTLN.out (ints_tl (by have h := HB0.out.up (up_trans HU.out (up_trans HS22.out (up_trans HS23.out (up_trans HS24.out (up_trans HS25.out (up_trans HS27.out HS28.out)))))); rwa [HBT.out] at h)) HTLR.out HTL2.out ut HUTE.out).mono ?_); rintro e w29 ⟨A29, c29, rfl, _, hi, hup⟩; have HS29 := Az.mk hup; have HI29 := Az.mk hi; clear hup hi) |
     (go_at_call 26; (with_reducible refine (SameN_calls A25 A27 t.length (v.length + u.length) c25 c27 t (v ++ u) _ (HI25.out.up HS27.out) HI27.out rfl List.length_append HtB.out (by have := HVU.out; omega) true HTVU.out).mono ?_); rintro e w28 ⟨rfl, hup⟩; have HS28 := Az.mk hup; have yB := up_cell (up_trans (up_trans HU.out (up_trans HS22.out (up_trans HS23.out (up_trans HS24.out (up_trans HS25.out HS27.out))))) hup) HYB.out; clear hup) |
     (at_builtin; refine (wpList_append_row _ rfl _ _ 23 rfl w25.heap.size 21 ie ze 1 4 Tryz.underlying23 hie hze hsi hby hzc (by decide) (.slice A26 v.length c26) v.length (v.map (Value.int .i32)) rfl HO26.out A24 u.length c24 (u.map (Value.int .i32)) rfl (by simp) (HI24.out.up (up_trans HS25.out HS26.out)) (ints_one _ _) ?ha27 ?hb27 ?hc27 ?_); (case ha27 => exact N4.out.1); (case hb27 => exact N4.out.2); (case hc27 => exact HS26.out.size); intro v' w27 hown' hgrow hat'; have HO27 : Az (w27.ownsRow w25.heap.size 21 1 v' (v ++ u).length ((v ++ u).map (Value.int .i32))) := ⟨by rw [List.length_append, List.map_append]; exact hown'⟩; obtain ⟨A27, c27, hv⟩ := own_any HO27.out; subst hv; have HS27 : Az (Up w25 w27) := ⟨Below.grown HS26.out hgrow HS26.out.size (fun k hk => (HO26.out.lt k hk).1)⟩; have HI27 : Az (Ints .i32 w27 A27 (v ++ u)) := ⟨own_ints' HO27.out⟩; clear hown' hgrow hat') |
     (at_builtin; refine (wpList_append_row _ rfl _ _ 23 rfl w25.heap.size 21 ie ze 1 4 Tryz.underlying23 hie hze hsi hby hzc (by decide) (.slice A26 v.length c26) v.length (v.map (Value.int .i32)) rfl HO26.out (some adq) u.length c24 (u.map (Value.int .i32)) rfl (by simp) (HI24.out.up (up_trans HS25.out HS26.out)) (ints_one _ _) ?hx27 ?hy27 ?hz27 ?_); (case hx27 => exact N4.out.1); (case hy27 => exact N4.out.2); (case hz27 => exact HS26.out.size); intro v' w27 hown' hgrow hat'; have HO27 : Az (w27.ownsRow w25.heap.size 21 1 v' (v ++ u).length ((v ++ u).map (Value.int .i32))) := ⟨by rw [List.length_append, List.map_append]; exact hown'⟩; obtain ⟨A27, c27, hv⟩ := own_any HO27.out; subst hv; have HS27 : Az (Up w25 w27) := ⟨Below.grown HS26.out hgrow HS26.out.size (fun k hk => (HO26.out.lt k hk).1)⟩; have HI27 : Az (Ints .i32 w27 A27 (v ++ u)) := ⟨own_ints' HO27.out⟩; clear hown' hgrow hat') |
     (at_builtin; refine (wpList_append_row _ rfl _ _ 23 rfl w25.heap.size 21 ie ze 1 4 Tryz.underlying23 hie hze hsi hby hzc (by decide) _ 0 [] rfl (World.ownsRow_nil _ _ _ _) A23 v.length c23 (v.map (Value.int .i32)) rfl (by simp) (HI23.out.up (up_trans HS24.out HS25.out)) (ints_one _ _) ?ha26 ?hb26 ?hc26 ?_); (case ha26 => exact N3.out.1); (case hb26 => exact N3.out.2); (case hc26 => exact Nat.le_refl _); intro v' w26 hown' hgrow hat'; rw [Nat.zero_add, List.nil_append] at hown'; obtain ⟨A26, c26, hv⟩ := own_any hown'; subst hv; have HO26 := Az.mk hown'; have HS26 : Az (Up w25 w26) := ⟨up_nil hgrow rfl⟩; clear hown' hgrow hat') |
     (go_at_call 44; (with_reducible refine (NFC_calls (HDk.out.up (up_trans HU.out (up_trans HS22.out (up_trans HS23.out HS24.out)))) HF.out A22 c22 (s ++ B) _ List.length_append (HI22.out.up (up_trans HS23.out HS24.out)) HSBR.out HSB2.out t HtE.out).mono ?_); rintro e w25 ⟨A25, c25, rfl, hown, hi, hup⟩; have HS25 := Az.mk hup; have HI25 := Az.mk hi; clear hup hi hown) |
     (go_at_call 44; (with_reducible refine (NFC_calls (HDk.out.up (up_trans HU.out (up_trans HS22.out HS23.out))) HF.out (some adB) cB B _ rfl (HB0.out.up (up_trans HU.out (up_trans HS22.out HS23.out))) HBR.out HB2.out u HuE.out).mono ?_); rintro e w24 ⟨A24, c24, rfl, hown, hi, hup⟩; have HS24 := Az.mk hup; (first | (have hcpU : (u.length : Int) ≤ (c24 : Int) := (by have h1 := (own_room12 hown (by rw [HUU.out, List.length_cons]; omega)).1; omega); have hUP : (1 : Int) ≤ (u.length : Int) := (by rw [HUU.out, List.length_cons]; omega); obtain ⟨adq, hAq, _⟩ := hi.at_ 0 (by omega) (by rw [HUU.out, List.length_cons]; omega); subst hAq; skip) | skip); have HI24 := Az.mk hi; clear hup hi hown) |
     (go_at_call 44; (with_reducible refine (NFC_calls (HDk.out.up (up_trans HU.out HS22.out)) HF.out A2 c2 s _ rfl (HI20.out.up (up_trans HU.out HS22.out)) HsR.out Hs2.out v HvE.out).mono ?_); rintro e w23 ⟨A23, c23, rfl, hown, hi, hup⟩; have HS23 := Az.mk hup; have HI23 := Az.mk hi; clear hup hi hown) |
     (at_builtin; refine (wpList_append_row _ rfl _ _ 23 rfl w20.heap.size 21 ie ze 1 4 Tryz.underlying23 hie hze hsi hby hzc (by decide) (.slice A21 s.length c21) s.length (s.map (Value.int .i32)) rfl HO21.out (some adB) B.length cB (B.map (Value.int .i32)) rfl (by simp) (HB0.out.up (up_trans HU.out HS21.out)) (ints_one _ _) ?ha22 ?hb22 ?hc22 ?_); (case ha22 => exact N2.out.1); (case hb22 => exact N2.out.2); (case hc22 => exact HS21.out.size); intro v' w22 hown' hgrow hat'; have HO22 : Az (w22.ownsRow w20.heap.size 21 1 v' (s ++ B).length ((s ++ B).map (Value.int .i32))) := ⟨by rw [List.length_append, List.map_append]; exact hown'⟩; obtain ⟨A22, c22, hv⟩ := own_any HO22.out; subst hv; have HS22 : Az (Up w20 w22) := ⟨Below.grown HS21.out hgrow HS21.out.size (fun k hk => (HO21.out.lt k hk).1)⟩; have HI22 : Az (Ints .i32 w22 A22 (s ++ B)) := ⟨own_ints' HO22.out⟩; clear hown' hgrow hat') |
     (at_builtin; refine (wpList_append_row _ rfl _ _ 23 rfl w20.heap.size 21 ie ze 1 4 Tryz.underlying23 hie hze hsi hby hzc (by decide) _ 0 [] rfl (World.ownsRow_nil _ _ _ _) A2 s.length c2 (s.map (Value.int .i32)) rfl (by simp) (HI20.out.up HU.out) (ints_one _ _) ?ha21 ?hb21 ?hc21 ?_); (case ha21 => exact N1.out.1); (case hb21 => exact N1.out.2); (case hc21 => exact Nat.le_refl _); intro v' w21 hown' hgrow hat'; rw [Nat.zero_add, List.nil_append] at hown'; obtain ⟨A21, c21, hv⟩ := own_any hown'; subst hv; have HO21 := Az.mk hown'; have HS21 : Az (Up w20 w21) := ⟨up_nil hgrow rfl⟩; clear hown' hgrow hat'))
    all_goals go_ret
    all_goals first | exact ⟨rfl, up_trans HUk.out (up_trans HU.out (up_trans HS22.out (up_trans HS23.out (up_trans HS24.out (up_trans HS25.out (up_trans HS27.out (up_trans HS28.out (up_trans HS29.out HS30.out))))))))⟩ | exact ⟨rfl, up_trans HUk.out (up_trans HU.out (up_trans HS22.out (up_trans HS23.out (up_trans HS24.out (up_trans HS25.out (up_trans HS27.out HS28.out))))))⟩) : p := h
theorem NormJoins_yes (A : Option Addr) (c : Nat) (T P : List Rec) (X1 : Option Addr) (x1 : List Int) (k1 : Nat) (X2 : Option Addr) (x2 : List Int) (k2 : Nat) (w : World) (hP : T.take 150 = P) (hT : Table w A T) (hW : ∀ x ∈ T, x.Wf) (hc : T.length ≤ c) (he : (checkE P).2 = 0)
 (hI1 : Ints .i32 w X1 x1) (hx1 : x1.length < 4611686018427387904) (hc1 : x1.length ≤ k1) (hwf1 : ∀ z ∈ x1, (Lit.int .i32 z).wf = true) (hI2 : Ints .i32 w X2 x2) (hx2 : x2.length < 4611686018427387904) (hc2 : x2.length ≤ k2) (hwf2 : ∀ z ∈ x2, (Lit.int .i32 z).wf = true) :
 Calls Tryz.prog 9 #[.slice A T.length c, .slice X1 x1.length k1, .slice X2 x2.length k2] w fun e w' => e = .returned (.bool true) ∧ Up w w' := by
 have HM := Az.mk (Made_yes A c T P w hP hT hW hc he)
 have HF : Az (Fine P) := ⟨fine_of (fun x hx => hW x (by rw [← hP] at hx; exact List.mem_of_mem_take hx)) he⟩
 have HJ1 := Az.mk hI1
 have HX1 := Az.mk hx1
 have HXC1 := Az.mk hc1
 have HWF1 := Az.mk hwf1
 have HJ2 := Az.mk hI2
 have HX2 := Az.mk hx2
 have HXC2 := Az.mk hc2
 have HWF2 := Az.mk hwf2
 clear hT hW hc he hP hI1 hx1 hc1 hwf1 hI2 hx2 hc2 hwf2
 obtain ⟨ie, ze, hie, hze, hsi, hby, hzc⟩ := i32_info
 obtain ⟨s, hs⟩ : ∃ s, x1.take 100 = s := ⟨_, rfl⟩
 have HsE := Az.mk hs
 have HsL : Az (s.length ≤ 100) := ⟨by rw [← hs, List.length_take]; omega⟩
 have HsR : Az (InI32 s) := ⟨fun z hz => St.wf_i32 (HWF1.out z (by rw [← hs] at hz; exact List.mem_of_mem_take hz))⟩
 have Hs2 : Az (s.length ≤ 65536) := ⟨by have := HsL.out; omega⟩
 have HsB : Az (s.length ≤ 35184372087808) := ⟨by have := HsL.out; omega⟩
 clear hs
 obtain ⟨r, hr⟩ : ∃ r, x2.take 100 = r := ⟨_, rfl⟩
 have HrE := Az.mk hr
 have HrL : Az (r.length ≤ 100) := ⟨by rw [← hr, List.length_take]; omega⟩
 have HrR : Az (InI32 r) := ⟨fun z hz => St.wf_i32 (HWF2.out z (by rw [← hr] at hz; exact List.mem_of_mem_take hz))⟩
 have Hr2 : Az (r.length ≤ 65536) := ⟨by have := HrL.out; omega⟩
 have HrB : Az (r.length ≤ 35184372087808) := ⟨by have := HrL.out; omega⟩
 clear hr
 obtain ⟨v, hv⟩ : ∃ v, nfcF P s = v := ⟨_, rfl⟩
 have HvE := Az.mk hv
 have HvL : Az (v.length ≤ 6400) := ⟨by rw [← hv]; have := nfc_len HF.out s; have := HsL.out; omega⟩
 have HvR : Az (InI32 v) := ⟨by rw [← hv]; exact nfc_range HF.out HsR.out⟩
 have Hv2 : Az (v.length ≤ 65536) := ⟨by have := HvL.out; omega⟩
 have HvB : Az (v.length ≤ 35184372087808) := ⟨by have := HvL.out; omega⟩
 have HvS : Az ((v == v) = true) := ⟨by simp⟩
 clear hv
 by_cases hx2 : x2 = []
 ·skip
  have h0 : ((x2.length : Int) == 0) = true := by rw [hx2]; rfl
  have hr0 : r = [] := by rw [← HrE.out, hx2]; rfl
  have g0 : ((r.length : Int) == 0) = true := by rw [hr0]; rfl
  obtain ⟨B, hB⟩ : ∃ B, 46 :: r = B := ⟨_, rfl⟩
  have HBE := Az.mk hB
  have HBN : Az (1 + r.length = B.length) := ⟨by rw [← hB]; simp; omega⟩
  have HBM : Az (([46] : List Int).map (Value.int .i32) ++ r.map (Value.int .i32) = B.map (Value.int .i32)) := ⟨by rw [← hB]; rfl⟩
  have MR : Az (1 + r.length ≤ maxLen ∧ (1 + r.length) * 4 ≤ 140737488355328) := ⟨by have := HrL.out; unfold maxLen; omega⟩
  have HBR : Az (InI32 B) := ⟨by rw [← hB]; intro z hz; rcases List.mem_cons.1 hz with rfl | hz; exact ⟨by decide, by decide⟩; exact HrR.out z hz⟩
  have HBL : Az (B.length ≤ 101) := ⟨by rw [← hB]; have := HrL.out; simp; omega⟩
  have HB2 : Az (B.length ≤ 65536) := ⟨by have := HBL.out; omega⟩
  obtain ⟨u, hu⟩ : ∃ u, nfcF P B = u := ⟨_, rfl⟩
  have HuE := Az.mk hu
  have HuL : Az (u.length ≤ 6464) := ⟨by rw [← hu]; have := nfc_len HF.out B; have := HBL.out; omega⟩
  have HuR : Az (InI32 u) := ⟨by rw [← hu]; exact nfc_range HF.out HBR.out⟩
  obtain ⟨t, ht⟩ : ∃ t, nfcF P (s ++ B) = t := ⟨_, rfl⟩
  have HtE := Az.mk ht
  have HTVU : Az ((t == v ++ u) = true) := ⟨by rw [← ht, ← hu, ← HvE.out, ← hB, nfc_joins HF.out s r (safe_ascii HF.out (by decide) (by decide))]; simp⟩
  have HVU : Az (v.length + u.length ≤ 35184372087808) := ⟨by have := HvL.out; have := HuL.out; omega⟩
  have HtB : Az (t.length ≤ 35184372087808) := ⟨by have e := eq_of_beq HTVU.out; rw [e, List.length_append]; exact HVU.out⟩
  have HSBR : Az (InI32 (s ++ B)) := ⟨fun z hz => by rcases List.mem_append.1 hz with h | h; exact HsR.out z h; exact HBR.out z h⟩
  have HSB2 : Az ((s ++ B).length ≤ 65536) := ⟨by rw [List.length_append]; have := HsL.out; have := HBL.out; omega⟩
  have N1 : Az (0 + s.length ≤ maxLen ∧ (0 + s.length) * 4 ≤ 140737488355328) := ⟨by have := HsL.out; unfold maxLen; omega⟩
  have N2 : Az (s.length + B.length ≤ maxLen ∧ (s.length + B.length) * 4 ≤ 140737488355328) := ⟨by have := HsL.out; have := HBL.out; unfold maxLen; omega⟩
  have N3 : Az (0 + v.length ≤ maxLen ∧ (0 + v.length) * 4 ≤ 140737488355328) := ⟨by have := HvL.out; unfold maxLen; omega⟩
  have N4 : Az (v.length + u.length ≤ maxLen ∧ (v.length + u.length) * 4 ≤ 140737488355328) := ⟨by have := HvL.out; have := HuL.out; unfold maxLen; omega⟩
  clear hu ht
  have HBP : Az (0 < B.length) := ⟨by rw [← hB]; simp⟩
  have HBD : Az (rd B 0 = 46) := ⟨by rw [← hB]; rfl⟩
  have HX20 := Az.mk hx2
  clear hx2 hB hr0
  go_enter Tryz.func9, Tryz.ntmps9
  go_wp2_with (first | (at_builtin; refine (wpList_append_row _ rfl _ _ 23 rfl w3.heap.size 21 ie ze 1 4 Tryz.underlying23 hie hze hsi hby hzc (by decide) (.slice A4 1 c4) 1 (([46] : List Int).map (Value.int .i32)) rfl HO4.out A3 r.length c3 (r.map (Value.int .i32)) rfl (by simp) (HI3.out.up HS4.out) (ints_one _ _) ?ha5 ?hb5 ?hc5 ?_); (case ha5 => exact MR.out.1); (case hb5 => exact MR.out.2); (case hc5 => exact HS4.out.size); intro v' w5 hown' hgrow hat'; have HO5 : Az (w5.ownsRow w3.heap.size 21 1 v' B.length (B.map (Value.int .i32))) := ⟨by rw [← HBN.out, ← HBM.out]; exact hown'⟩; obtain ⟨A5, c5, hv⟩ := own_any HO5.out; subst hv; have HS5 : Az (Up w3 w5) := ⟨Below.grown HS4.out hgrow HS4.out.size (fun k hk => (HO4.out.lt k hk).1)⟩; have HIB : Az (Ints .i32 w5 A5 B) := ⟨own_ints' HO5.out⟩; have hcpB : (B.length : Int) ≤ (c5 : Int) := (by have h1 := (own_room12 HO5.out (by have := HBN.out; omega)).1; omega); clear hown' hgrow hat') |
   (at_builtin; refine (wpList_append_row _ rfl _ _ 23 rfl w3.heap.size 21 ie ze 1 4 Tryz.underlying23 hie hze hsi hby hzc (by decide) _ 0 [] rfl (World.ownsRow_nil _ _ _ _) (some ⟨w3.heap.size, 0, none⟩) 1 1 (([46] : List Int).map (Value.int .i32)) rfl rfl (ints_new w3 [46]) (ints_one _ _) ?ha4 ?hb4 ?hc4 ?_); (case ha4 => decide); (case hb4 => decide); (case hc4 => exact (up_alloc (up_refl w3) (.cells #[.int .i32 46] 21)).size); intro v' w4 hown' hgrow hat'; rw [Nat.zero_add, List.nil_append] at hown'; obtain ⟨A4, c4, hv⟩ := own_any hown'; subst hv; have HO4 := Az.mk hown'; have HS4 : Az (Up w3 w4) := ⟨Below.grown (up_alloc (up_refl w3) (.cells #[.int .i32 46] 21)) hgrow (up_alloc (up_refl w3) (.cells #[.int .i32 46] 21)).size (fun k hk => by cases hk)⟩; clear hown' hgrow hat') |
   (go_at_call 42; (with_reducible refine (few13_cap X2 k2 x2 r 100 100 rfl _ (HJ2.out.up (up_trans HS1.out HS2.out)) HX2.out HXC2.out (by decide) HrE.out).mono ?_); rintro e w3 ⟨A3, c3, rfl, hcp, hi, hup⟩; have HS3 := Az.mk hup; have HI3 := Az.mk hi; clear hup hi hcp) |
   (go_at_call 42; (with_reducible refine (few13_ints X1 k1 x1 s 100 100 rfl _ (HJ1.out.up HS1.out) HX1.out HXC1.out (by decide) HsE.out).mono ?_); rintro e w2 ⟨A2, c2, rfl, hi, hup⟩; have HS2 := Az.mk hup; have HI2 := Az.mk hi; clear hup hi) |
   (go_at_call 21; (with_reducible refine (HM.out).mono ?_); rintro e w1 ⟨bd, D, A1, c1, rfl, hD, _, hup⟩; have HS1 := Az.mk hup; have HD := Az.mk hD; clear hup hD))
  have HI20 : Az (Ints .i32 w5 A2 s) := ⟨HI2.out.up (up_trans HS3.out HS5.out)⟩
  have HDk := Az.mk (HD.out.up (up_trans HS2.out (up_trans HS3.out HS5.out)))
  have HUk := Az.mk (up_trans HS1.out (up_trans HS2.out (up_trans HS3.out HS5.out)))
  obtain ⟨adB, hAB, yB0⟩ := HIB.out.at_ 0 (by omega) (by have := HBP.out; omega)
  have HB0 := HIB
  subst hAB
  have HYB : Az (w5.cell? adB = some (.int .i32 46)) := ⟨by have e := HBD.out; rw [e] at yB0; cases adB; exact yB0⟩
  clear yB0
  obtain ⟨wk, hwk⟩ : ∃ wk, wk = w5 := ⟨_, rfl⟩
  subst hwk
  obtain ⟨cB, hcB⟩ : ∃ cB, cB = c5 := ⟨_, rfl⟩
  subst hcB
  have hBP : (0 : Int) < (B.length : Int) := by have := HBP.out; omega
  have hBP1 : (1 : Int) ≤ (B.length : Int) := by omega
  exact njend
 ·obtain ⟨d, t1, hrd⟩ : ∃ d t1, r = d :: t1 := by
   cases x2 with
   | nil => exact absurd rfl hx2
   | cons d tt => exact ⟨d, tt.take 99, by rw [← HrE.out]; rfl⟩
  have HRC := Az.mk hrd
  have h0 : ((x2.length : Int) == 0) = false := bqf (fun h => hx2 (List.length_eq_zero_iff.1 (by omega)))
  have HRP : Az (0 < r.length) := ⟨by rw [hrd]; simp⟩
  have hrp : (0 : Int) < (r.length : Int) := by have := HRP.out; omega
  have g0 : ((r.length : Int) == 0) = false := bqf (by omega)
  have HRD : Az (rd r 0 = d) := ⟨by rw [hrd]; rfl⟩
  have HDR : Az (-2147483648 ≤ d ∧ d ≤ 2147483647) := ⟨HrR.out d (by rw [hrd]; exact List.mem_cons_self ..)⟩
  clear hx2 hrd
  cases hsd : safeF P d with
  | false =>
    have HSAFE := Az.mk hsd
    obtain ⟨B, hB⟩ : ∃ B, 46 :: r = B := ⟨_, rfl⟩
    have HBE := Az.mk hB
    have HBN : Az (1 + r.length = B.length) := ⟨by rw [← hB]; simp; omega⟩
    have HBM : Az (([46] : List Int).map (Value.int .i32) ++ r.map (Value.int .i32) = B.map (Value.int .i32)) := ⟨by rw [← hB]; rfl⟩
    have MR : Az (1 + r.length ≤ maxLen ∧ (1 + r.length) * 4 ≤ 140737488355328) := ⟨by have := HrL.out; unfold maxLen; omega⟩
    have HBR : Az (InI32 B) := ⟨by rw [← hB]; intro z hz; rcases List.mem_cons.1 hz with rfl | hz; exact ⟨by decide, by decide⟩; exact HrR.out z hz⟩
    have HBL : Az (B.length ≤ 101) := ⟨by rw [← hB]; have := HrL.out; simp; omega⟩
    have HB2 : Az (B.length ≤ 65536) := ⟨by have := HBL.out; omega⟩
    obtain ⟨u, hu⟩ : ∃ u, nfcF P B = u := ⟨_, rfl⟩
    have HuE := Az.mk hu
    have HuL : Az (u.length ≤ 6464) := ⟨by rw [← hu]; have := nfc_len HF.out B; have := HBL.out; omega⟩
    have HuR : Az (InI32 u) := ⟨by rw [← hu]; exact nfc_range HF.out HBR.out⟩
    obtain ⟨t, ht⟩ : ∃ t, nfcF P (s ++ B) = t := ⟨_, rfl⟩
    have HtE := Az.mk ht
    have HTVU : Az ((t == v ++ u) = true) := ⟨by rw [← ht, ← hu, ← HvE.out, ← hB, nfc_joins HF.out s r (safe_ascii HF.out (by decide) (by decide))]; simp⟩
    have HVU : Az (v.length + u.length ≤ 35184372087808) := ⟨by have := HvL.out; have := HuL.out; omega⟩
    have HtB : Az (t.length ≤ 35184372087808) := ⟨by have e := eq_of_beq HTVU.out; rw [e, List.length_append]; exact HVU.out⟩
    have HSBR : Az (InI32 (s ++ B)) := ⟨fun z hz => by rcases List.mem_append.1 hz with h | h; exact HsR.out z h; exact HBR.out z h⟩
    have HSB2 : Az ((s ++ B).length ≤ 65536) := ⟨by rw [List.length_append]; have := HsL.out; have := HBL.out; omega⟩
    have N1 : Az (0 + s.length ≤ maxLen ∧ (0 + s.length) * 4 ≤ 140737488355328) := ⟨by have := HsL.out; unfold maxLen; omega⟩
    have N2 : Az (s.length + B.length ≤ maxLen ∧ (s.length + B.length) * 4 ≤ 140737488355328) := ⟨by have := HsL.out; have := HBL.out; unfold maxLen; omega⟩
    have N3 : Az (0 + v.length ≤ maxLen ∧ (0 + v.length) * 4 ≤ 140737488355328) := ⟨by have := HvL.out; unfold maxLen; omega⟩
    have N4 : Az (v.length + u.length ≤ maxLen ∧ (v.length + u.length) * 4 ≤ 140737488355328) := ⟨by have := HvL.out; have := HuL.out; unfold maxLen; omega⟩
    clear hu ht
    have HBT : Az (B = 46 :: r) := ⟨HBE.out.symm⟩
    have HBP : Az (0 < B.length) := ⟨by rw [HBT.out]; simp⟩
    have HBD : Az (rd B 0 = 46) := ⟨by rw [HBT.out]; rfl⟩
    have HTLN : Az (r.length = B.length - 1) := ⟨by rw [HBT.out]; simp⟩
    obtain ⟨ut, hut⟩ : ∃ ut, nfcF P r = ut := ⟨_, rfl⟩
    have HUTE := Az.mk hut
    have HUU : Az (u = 46 :: ut) := ⟨by rw [← HuE.out, HBT.out, nfc_dot HF.out, hut]⟩
    have HTL2 : Az (r.length ≤ 65536) := ⟨by have := HTLN.out; have := HBL.out; omega⟩
    have HTLR : Az (InI32 r) := ⟨fun z hz => HBR.out z (by rw [HBT.out]; exact List.mem_cons_of_mem _ hz)⟩
    have HUTN : Az (ut.length = u.length - 1) := ⟨by rw [HUU.out]; simp⟩
    have HUTB : Az (ut.length ≤ 35184372087808) := ⟨by have := HuL.out; have := HUTN.out; omega⟩
    have HUTS : Az ((ut == ut) = true) := ⟨by simp⟩
    have e46 : ((46 : Int) != 46) = false := by decide
    clear hut
    clear hB hsd
    go_enter Tryz.func9, Tryz.ntmps9
    go_wp2_with (first | (at_builtin; refine (wpList_append_row _ rfl _ _ 23 rfl w4.heap.size 21 ie ze 1 4 Tryz.underlying23 hie hze hsi hby hzc (by decide) (.slice A5 1 c5) 1 (([46] : List Int).map (Value.int .i32)) rfl HO5.out (some ad3) r.length c3 (r.map (Value.int .i32)) rfl (by simp) (HI3.out.up (up_trans HS4.out HS5.out)) (ints_one _ _) ?ha6 ?hb6 ?hc6 ?_); (case ha6 => exact MR.out.1); (case hb6 => exact MR.out.2); (case hc6 => exact HS5.out.size); intro v' w6 hown' hgrow hat'; have HO6 : Az (w6.ownsRow w4.heap.size 21 1 v' B.length (B.map (Value.int .i32))) := ⟨by rw [← HBN.out, ← HBM.out]; exact hown'⟩; obtain ⟨A6, c6, hv⟩ := own_any HO6.out; subst hv; have HS6 : Az (Up w4 w6) := ⟨Below.grown HS5.out hgrow HS5.out.size (fun k hk => (HO5.out.lt k hk).1)⟩; have HIB : Az (Ints .i32 w6 A6 B) := ⟨own_ints' HO6.out⟩; have hcpB : (B.length : Int) ≤ (c6 : Int) := (by have h1 := (own_room12 HO6.out (by have := HBN.out; omega)).1; omega); clear hown' hgrow hat') |
     (at_builtin; refine (wpList_append_row _ rfl _ _ 23 rfl w4.heap.size 21 ie ze 1 4 Tryz.underlying23 hie hze hsi hby hzc (by decide) _ 0 [] rfl (World.ownsRow_nil _ _ _ _) (some ⟨w4.heap.size, 0, none⟩) 1 1 (([46] : List Int).map (Value.int .i32)) rfl rfl (ints_new w4 [46]) (ints_one _ _) ?ha5 ?hb5 ?hc5 ?_); (case ha5 => decide); (case hb5 => decide); (case hc5 => exact (up_alloc (up_refl w4) (.cells #[.int .i32 46] 21)).size); intro v' w5 hown' hgrow hat'; rw [Nat.zero_add, List.nil_append] at hown'; obtain ⟨A5, c5, hv⟩ := own_any hown'; subst hv; have HO5 := Az.mk hown'; have HS5 : Az (Up w4 w5) := ⟨Below.grown (up_alloc (up_refl w4) (.cells #[.int .i32 46] 21)) hgrow (up_alloc (up_refl w4) (.cells #[.int .i32 46] 21)).size (fun k hk => by cases hk)⟩; clear hown' hgrow hat') |
     (go_at_call 45; (with_reducible refine (Safe_calls (HD.out.up (up_trans HS2.out HS3.out)) HF.out d HDR.out false HSAFE.out).mono ?_); rintro e w4 ⟨rfl, hup⟩; have HS4 := Az.mk hup; clear hup) |
     (go_at_call 42; (with_reducible refine (few13_cap X2 k2 x2 r 100 100 rfl _ (HJ2.out.up (up_trans HS1.out HS2.out)) HX2.out HXC2.out (by decide) HrE.out).mono ?_); rintro e w3 ⟨A3, c3, rfl, hcp, hi, hup⟩; have HS3 := Az.mk hup; obtain ⟨ad3, hA3, y3⟩ := hi.at_ 0 (by omega) (by have := HRP.out; omega); have y3' : w3.cell? ad3 = some (.int .i32 d) := (by have e := HRD.out; rw [e] at y3; cases ad3; exact y3); subst hA3; clear y3; have HI3 := Az.mk hi; clear hup hi hcp) |
     (go_at_call 42; (with_reducible refine (few13_ints X1 k1 x1 s 100 100 rfl _ (HJ1.out.up HS1.out) HX1.out HXC1.out (by decide) HsE.out).mono ?_); rintro e w2 ⟨A2, c2, rfl, hi, hup⟩; have HS2 := Az.mk hup; have HI2 := Az.mk hi; clear hup hi) |
     (go_at_call 21; (with_reducible refine (HM.out).mono ?_); rintro e w1 ⟨bd, D, A1, c1, rfl, hD, _, hup⟩; have HS1 := Az.mk hup; have HD := Az.mk hD; clear hup hD))
    have HI20 : Az (Ints .i32 w6 A2 s) := ⟨HI2.out.up (up_trans HS3.out (up_trans HS4.out HS6.out))⟩
    have HDk := Az.mk (HD.out.up (up_trans HS2.out (up_trans HS3.out (up_trans HS4.out HS6.out))))
    have HUk := Az.mk (up_trans HS1.out (up_trans HS2.out (up_trans HS3.out (up_trans HS4.out HS6.out))))
    obtain ⟨adB, hAB, yB0⟩ := HIB.out.at_ 0 (by omega) (by have := HBP.out; omega)
    have HB0 := HIB
    subst hAB
    have HYB : Az (w6.cell? adB = some (.int .i32 46)) := ⟨by have e := HBD.out; rw [e] at yB0; cases adB; exact yB0⟩
    clear yB0
    obtain ⟨wk, hwk⟩ : ∃ wk, wk = w6 := ⟨_, rfl⟩
    subst hwk
    obtain ⟨cB, hcB⟩ : ∃ cB, cB = c6 := ⟨_, rfl⟩
    subst hcB
    obtain ⟨tl, htl⟩ : ∃ tl, tl = r := ⟨_, rfl⟩
    subst htl
    have hBP : (0 : Int) < (B.length : Int) := by have := HBP.out; omega
    have hBP1 : (1 : Int) ≤ (B.length : Int) := by omega
    exact njend
  | true =>
    have HSAFE := Az.mk hsd
    have hrc' := HRC.out
    have HBR : Az (InI32 r) := HrR
    have HBL : Az (r.length ≤ 101) := ⟨by have := HrL.out; omega⟩
    have HB2 : Az (r.length ≤ 65536) := ⟨by have := HBL.out; omega⟩
    obtain ⟨u, hu⟩ : ∃ u, nfcF P r = u := ⟨_, rfl⟩
    have HuE := Az.mk hu
    have HuL : Az (u.length ≤ 6464) := ⟨by rw [← hu]; have := nfc_len HF.out r; have := HBL.out; omega⟩
    have HuR : Az (InI32 u) := ⟨by rw [← hu]; exact nfc_range HF.out HBR.out⟩
    obtain ⟨t, ht⟩ : ∃ t, nfcF P (s ++ r) = t := ⟨_, rfl⟩
    have HtE := Az.mk ht
    have HTVU : Az ((t == v ++ u) = true) := ⟨by rw [← ht, ← hu, ← HvE.out, hrc', nfc_joins HF.out s t1 hsd]; simp⟩
    have HVU : Az (v.length + u.length ≤ 35184372087808) := ⟨by have := HvL.out; have := HuL.out; omega⟩
    have HtB : Az (t.length ≤ 35184372087808) := ⟨by have e := eq_of_beq HTVU.out; rw [e, List.length_append]; exact HVU.out⟩
    have HSBR : Az (InI32 (s ++ r)) := ⟨fun z hz => by rcases List.mem_append.1 hz with h | h; exact HsR.out z h; exact HBR.out z h⟩
    have HSB2 : Az ((s ++ r).length ≤ 65536) := ⟨by rw [List.length_append]; have := HsL.out; have := HBL.out; omega⟩
    have N1 : Az (0 + s.length ≤ maxLen ∧ (0 + s.length) * 4 ≤ 140737488355328) := ⟨by have := HsL.out; unfold maxLen; omega⟩
    have N2 : Az (s.length + r.length ≤ maxLen ∧ (s.length + r.length) * 4 ≤ 140737488355328) := ⟨by have := HsL.out; have := HBL.out; unfold maxLen; omega⟩
    have N3 : Az (0 + v.length ≤ maxLen ∧ (0 + v.length) * 4 ≤ 140737488355328) := ⟨by have := HvL.out; unfold maxLen; omega⟩
    have N4 : Az (v.length + u.length ≤ maxLen ∧ (v.length + u.length) * 4 ≤ 140737488355328) := ⟨by have := HvL.out; have := HuL.out; unfold maxLen; omega⟩
    clear hu ht
    clear hrc' hsd
    by_cases hd : d = 46
    ·subst hd
     have HBT : Az (r = 46 :: t1) := HRC
     have HBP : Az (0 < r.length) := ⟨by rw [HBT.out]; simp⟩
     have HBD : Az (rd r 0 = 46) := ⟨by rw [HBT.out]; rfl⟩
     have HTLN : Az (t1.length = r.length - 1) := ⟨by rw [HBT.out]; simp⟩
     obtain ⟨ut, hut⟩ : ∃ ut, nfcF P t1 = ut := ⟨_, rfl⟩
     have HUTE := Az.mk hut
     have HUU : Az (u = 46 :: ut) := ⟨by rw [← HuE.out, HBT.out, nfc_dot HF.out, hut]⟩
     have HTL2 : Az (t1.length ≤ 65536) := ⟨by have := HTLN.out; have := HBL.out; omega⟩
     have HTLR : Az (InI32 t1) := ⟨fun z hz => HBR.out z (by rw [HBT.out]; exact List.mem_cons_of_mem _ hz)⟩
     have HUTN : Az (ut.length = u.length - 1) := ⟨by rw [HUU.out]; simp⟩
     have HUTB : Az (ut.length ≤ 35184372087808) := ⟨by have := HuL.out; have := HUTN.out; omega⟩
     have HUTS : Az ((ut == ut) = true) := ⟨by simp⟩
     have e46 : ((46 : Int) != 46) = false := by decide
     clear hut
     go_enter Tryz.func9, Tryz.ntmps9
     go_wp2_with (first | (go_at_call 45; (with_reducible refine (Safe_calls (HD.out.up (up_trans HS2.out HS3.out)) HF.out 46 HDR.out true HSAFE.out).mono ?_); rintro e w4 ⟨rfl, hup⟩; have HS4 := Az.mk hup; clear hup) |
      (go_at_call 42; (with_reducible refine (few13_cap X2 k2 x2 r 100 100 rfl _ (HJ2.out.up (up_trans HS1.out HS2.out)) HX2.out HXC2.out (by decide) HrE.out).mono ?_); rintro e w3 ⟨A3, c3, rfl, hcp, hi, hup⟩; have HS3 := Az.mk hup; obtain ⟨ad3, hA3, y3⟩ := hi.at_ 0 (by omega) (by have := HRP.out; omega); have y3' : w3.cell? ad3 = some (.int .i32 46) := (by have e := HRD.out; rw [e] at y3; cases ad3; exact y3); subst hA3; clear y3; have HI3 := Az.mk hi; have hcpB : (r.length : Int) ≤ (c3 : Int) := (by omega); clear hup hi hcp) |
      (go_at_call 42; (with_reducible refine (few13_ints X1 k1 x1 s 100 100 rfl _ (HJ1.out.up HS1.out) HX1.out HXC1.out (by decide) HsE.out).mono ?_); rintro e w2 ⟨A2, c2, rfl, hi, hup⟩; have HS2 := Az.mk hup; have HI2 := Az.mk hi; clear hup hi) |
      (go_at_call 21; (with_reducible refine (HM.out).mono ?_); rintro e w1 ⟨bd, D, A1, c1, rfl, hD, _, hup⟩; have HS1 := Az.mk hup; have HD := Az.mk hD; clear hup hD))
     have HI20 : Az (Ints .i32 w4 A2 s) := ⟨HI2.out.up (up_trans HS3.out HS4.out)⟩
     have HDk := Az.mk (HD.out.up (up_trans HS2.out (up_trans HS3.out HS4.out)))
     have HUk := Az.mk (up_trans HS1.out (up_trans HS2.out (up_trans HS3.out HS4.out)))
     have HB0 : Az (Ints .i32 w4 (some ad3) r) := ⟨HI3.out.up HS4.out⟩
     obtain ⟨adB, hAB, yB0⟩ := HB0.out.at_ 0 (by omega) (by have := HRP.out; omega)
     cases hAB
     obtain ⟨adB, hAB⟩ : ∃ adB, adB = ad3 := ⟨_, rfl⟩
     subst hAB
     have HYB : Az (w4.cell? adB = some (.int .i32 46)) := ⟨by have e := HBD.out; rw [e] at yB0; cases adB; exact yB0⟩
     clear yB0
     obtain ⟨wk, hwk⟩ : ∃ wk, wk = w4 := ⟨_, rfl⟩
     subst hwk
     obtain ⟨cB, hcB⟩ : ∃ cB, cB = c3 := ⟨_, rfl⟩
     subst hcB
     obtain ⟨B, hBr⟩ : ∃ B, B = r := ⟨_, rfl⟩
     subst hBr
     obtain ⟨tl, htl⟩ : ∃ tl, tl = t1 := ⟨_, rfl⟩
     subst htl
     have hBP : (0 : Int) < (B.length : Int) := by have := HBP.out; omega
     have hBP1 : (1 : Int) ≤ (B.length : Int) := by omega
     exact njend
    ·have e46 : (d != 46) = true := bne_iff_ne.mpr hd
     have HBP := HRP
     have HBD := HRD
     clear hd
     go_enter Tryz.func9, Tryz.ntmps9
     go_wp2_with (first | (go_at_call 45; (with_reducible refine (Safe_calls (HD.out.up (up_trans HS2.out HS3.out)) HF.out d HDR.out true HSAFE.out).mono ?_); rintro e w4 ⟨rfl, hup⟩; have HS4 := Az.mk hup; clear hup) |
      (go_at_call 42; (with_reducible refine (few13_cap X2 k2 x2 r 100 100 rfl _ (HJ2.out.up (up_trans HS1.out HS2.out)) HX2.out HXC2.out (by decide) HrE.out).mono ?_); rintro e w3 ⟨A3, c3, rfl, hcp, hi, hup⟩; have HS3 := Az.mk hup; obtain ⟨ad3, hA3, y3⟩ := hi.at_ 0 (by omega) (by have := HRP.out; omega); have y3' : w3.cell? ad3 = some (.int .i32 d) := (by have e := HRD.out; rw [e] at y3; cases ad3; exact y3); subst hA3; clear y3; have HI3 := Az.mk hi; clear hup hi hcp) |
      (go_at_call 42; (with_reducible refine (few13_ints X1 k1 x1 s 100 100 rfl _ (HJ1.out.up HS1.out) HX1.out HXC1.out (by decide) HsE.out).mono ?_); rintro e w2 ⟨A2, c2, rfl, hi, hup⟩; have HS2 := Az.mk hup; have HI2 := Az.mk hi; clear hup hi) |
      (go_at_call 21; (with_reducible refine (HM.out).mono ?_); rintro e w1 ⟨bd, D, A1, c1, rfl, hD, _, hup⟩; have HS1 := Az.mk hup; have HD := Az.mk hD; clear hup hD))
     have HI20 : Az (Ints .i32 w4 A2 s) := ⟨HI2.out.up (up_trans HS3.out HS4.out)⟩
     have HDk := Az.mk (HD.out.up (up_trans HS2.out (up_trans HS3.out HS4.out)))
     have HUk := Az.mk (up_trans HS1.out (up_trans HS2.out (up_trans HS3.out HS4.out)))
     have HB0 : Az (Ints .i32 w4 (some ad3) r) := ⟨HI3.out.up HS4.out⟩
     obtain ⟨adB, hAB, yB0⟩ := HB0.out.at_ 0 (by omega) (by have := HRP.out; omega)
     cases hAB
     obtain ⟨adB, hAB⟩ : ∃ adB, adB = ad3 := ⟨_, rfl⟩
     subst hAB
     have HYB : Az (w4.cell? adB = some (.int .i32 d)) := ⟨by have e := HBD.out; rw [e] at yB0; cases adB; exact yB0⟩
     clear yB0
     obtain ⟨wk, hwk⟩ : ∃ wk, wk = w4 := ⟨_, rfl⟩
     subst hwk
     obtain ⟨cB, hcB⟩ : ∃ cB, cB = c3 := ⟨_, rfl⟩
     subst hcB
     obtain ⟨B, hBr⟩ : ∃ B, B = r := ⟨_, rfl⟩
     subst hBr
     have hBP : (0 : Int) < (B.length : Int) := by have := HBP.out; omega
     have hBP1 : (1 : Int) ≤ (B.length : Int) := by omega
     exact njend
end Go.Proofs.YtnohcnneflogjaaGreat.M.Nm
