/- What is wrong with a table, walked: the program's. -/
import Derived.Test.YtnohcnneflogjaaGreatK23
import Derived.Test.YtnohcnneflogjaaGreatK24
import Derived.Test.YtnohcnneflogjaaGreatK20
import Derived.Test.YtnohcnneflogjaaGreatK06
import Derived.Lib.OthersKept
import Derived.Deep.RegionHeld3
set_option maxHeartbeats 16000000
set_option maxRecDepth 100000
set_option linter.unusedVariables false
set_option linter.unusedSimpArgs false
namespace Go.Proofs.YtnohcnneflogjaaGreat.M
open Go.RowKit
theorem aheadB_zero (T : List Rec) (a b : Int) : aheadB T a b 0 = false := rfl
theorem aheadB_succ {T : List Rec} {i : Nat} {x : Rec} (hx : T[i]? = some x) (a b : Int) : aheadB T a b (i + 1) = (aheadB T a b i || pairAt a b x) := by
 unfold aheadB pairAt
 rw [List.take_add_one, hx, Option.toList_some, List.any_append, List.any_cons, List.any_nil, Bool.or_false]
def strs : Nat → ByteArray
 | 0 => ⟨#[97, 98, 99, 100, 101, 102, 103, 104, 105, 106, 107, 108, 109, 110, 111, 112, 113, 114, 115, 116, 117, 118, 119, 120, 121, 122]⟩
 | _ => ⟨#[48, 49, 50, 51, 52, 53, 54, 55, 56, 57, 45, 46]⟩
theorem strs_size (j : Nat) : (strs j).size = if j = 0 then 26 else 12 := by
 cases j <;> rfl
theorem strs_mem (j p : Nat) (h : p < (strs j).size) : (((strs j)[p]'h).toNat : Int) ∈ bases ∧ ((strs j)[p]'h).toNat < 128 := by
 have h0 : ∀ p : Fin 26, (((strs 0)[p.1]'(by rw [strs_size]; exact p.2)).toNat : Int) ∈ bases ∧ ((strs 0)[p.1]'(by rw [strs_size]; exact p.2)).toNat < 128 := by decide
 have h1 : ∀ p : Fin 12, (((strs 1)[p.1]'(by rw [strs_size]; exact p.2)).toNat : Int) ∈ bases ∧ ((strs 1)[p.1]'(by rw [strs_size]; exact p.2)).toNat < 128 := by decide
 cases j with
 | zero => exact h0 ⟨p, by rw [strs_size] at h; exact h⟩
 | succ j => exact h1 ⟨p, by rw [strs_size] at h; exact h⟩
theorem strs_all {P : Int → Bool} (h : ∀ j p (hp : p < (strs j).size), j < 2 → P (((strs j)[p]'hp).toNat) = true) : bases.all P = true := by
 have key : ∀ c ∈ bases, (∃ p : Fin 26, (((strs 0)[p.1]'(by rw [strs_size]; exact p.2)).toNat : Int) = c) ∨ ∃ p : Fin 12, (((strs 1)[p.1]'(by rw [strs_size]; exact p.2)).toNat : Int) = c := by decide
 rw [List.all_eq_true]
 intro c hc
 rcases key c hc with ⟨p, rfl⟩ | ⟨p, rfl⟩
 ·exact h 0 p.1 _ (by omega)
 ·exact h 1 p.1 _ (by omega)
theorem bases_fail {P : Int → Bool} {c : Int} (h : c ∈ bases) (hp : P c = false) : bases.all P = false := by
 rw [List.all_eq_false]
 exact ⟨c, h, by rw [hp]; decide⟩
theorem bases_low : ∀ c ∈ bases, 45 ≤ c ∧ c ≤ 122 := by decide
def strsO : Obj := .cells #[.string (strs 0), .string (strs 1)] 9
theorem strs_cells (w : World) (j : Nat) (hj : j < 2) : (w.alloc strsO).cell? ⟨w.heap.size, j, none⟩ = some (.string (strs j)) := by
 unfold strsO
 obtain rfl | rfl : j = 0 ∨ j = 1 := by omega
 all_goals
  go_simp
  try rfl
theorem up_iterAt {w w1 : World} (h : Up w w1) {k : Nat} (hk : w.heap.size ≤ k) (s : ByteArray) (p : Nat) : Up w (w1.iterAt k s p) := by
 refine ⟨h.os, h.tape, h.output, ?_, ?_⟩
 ·show _ ≤ (w1.heap.setIfInBounds _ _).size
  rw [Array.size_setIfInBounds]
  exact h.size
 ·intro q hq
  show (w1.heap.setIfInBounds _ _)[q]? = _
  rw [Array.getElem?_setIfInBounds_ne (by omega)]
  exact h.block q hq
def PairsAt (w : World) (b n : Nat) (T : List Rec) (i : Nat) (F : Value → Option Value) : Prop :=
 MapIs Tryz.prog 172 w b n F ∧ ∀ a d, F (pairV a d) = if aheadB T a d i then some (.int .i64 1) else none
theorem PairsAt.step {w w' : World} {b n : Nat} {T : List Rec} {i : Nat} {x : Rec} {F : Value → Option Value} {a d : Int} (h : PairsAt w b n T i F) (hx : T[i]? = some x) (hk : x.kind = 7) (ha : rd x.to 0 = a) (hd : rd x.to 1 = d)
 (hm : MapIs Tryz.prog 172 w' b (n + 1) (putF F (pairV a d) (.int .i64 1))) : PairsAt w' b (n + 1) T (i + 1) (putF F (pairV a d) (.int .i64 1)) := by
 refine ⟨hm, fun p q => ?_⟩
 rw [aheadB_succ hx]
 by_cases he : pairV p q = pairV a d
 ·rw [he, putF_same]
  rw [pairV_inj] at he
  rw [if_pos]
  unfold pairAt
  rw [dTz hk, ha, hd, he.1, he.2]
  simp
 ·rw [putF_other _ _ _ _ he, h.2]
  have : pairAt p q x = false := by
   unfold pairAt
   rw [ha, hd, dTz hk]
   rw [pairV_inj] at he
   by_cases h1 : a = p
   ·by_cases h2 : d = q
    ·exact absurd ⟨h1.symm, h2.symm⟩ he
    ·rw [dFz h2, Bool.and_false]
   ·rw [dFz h1]
    rfl
  rw [this, Bool.or_false]
theorem PairsAt.skip {w w' : World} {b n : Nat} {T : List Rec} {i : Nat} {x : Rec} {F : Value → Option Value} (h : PairsAt w b n T i F) (hx : T[i]? = some x) (hk : x.kind ≠ 7) (hm : MapIs Tryz.prog 172 w' b n F) : PairsAt w' b n T (i + 1) F := by
 refine ⟨hm, fun p q => ?_⟩
 rw [aheadB_succ hx, h.2]
 have : pairAt p q x = false := by
  unfold pairAt
  rw [dFz hk]
  rfl
 rw [this, Bool.or_false]
theorem zero_int (w : World) : (zeroValue 3).run Tryz.prog w = .ok (.int .i64 0) w := by kernel_rfl
theorem Check_calls (A : Option Addr) (c : Nat) (T : List Rec) (n : Nat) (e : Int) (w : World) (hT : Table w A T) (hW : ∀ x ∈ T, x.Wf) (h : checkE T = (n, e)) :
 Calls Tryz.prog 117 #[.slice A T.length c] w fun r w' => r = .returned (.tuple #[.int .i64 n, .int .i64 e]) ∧ Up w w' := by
 have hu96 := Tryz.underlying113
 have hu154 := Tryz.underlying172
 have HT := Az.mk hT
 have HW := Az.mk hW
 have hmm := @run_makeMap Tryz.prog
 obtain ⟨m, k, ht⟩ : ∃ m k, tableE T = (m, k) := ⟨_, _, rfl⟩
 by_cases hk : k = 0
 ·subst hk
  have ht2 : (tableE T).2 = 0 := by rw [ht]
  have HT2 := Az.mk ht2
  have HC := Az.mk h
  have HTE := Az.mk ht
  obtain ⟨hl, hR, _⟩ := tableE_right ht2
  have HA : Az (Asked w A T) := ⟨⟨hT, hR, hW, hl⟩⟩
  clear hT hW h ht ht2 hR
  go_enter Tryz.func117, Tryz.ntmps117
  go_wp2_with (first | (go_at_call 157; (with_reducible refine (Check6_calls A c T m 0 _ HT.out HW.out HTE.out).mono ?_); rintro r w1 ⟨rfl, hb1⟩))
  have HM0 : Az (PairsAt (w1.alloc (.map #[] 0)) w1.heap.size 0 T 0 (fun _ => none)) := ⟨MapIs.made _ _ _, fun a d => by rw [aheadB_zero]; rfl⟩
  have HWM : Az (w.heap.size ≤ w1.heap.size) := ⟨hb1.size⟩
  have HB0 : Az (Up w (w1.alloc (.map #[] 0))) := ⟨up_alloc hb1 _⟩
  obtain ⟨wm, rfl⟩ : ∃ wm : World, wm = w1 := ⟨_, rfl⟩
  clear hb1
  go_loopg [28] T.length (fun k v28 w' => ∃ i : Nat, v28 = .int .i64 i ∧ Az (i + k = T.length ∧ ∀ j, j < i → recordE T j = 0) ∧ Az (Up w w') ∧ Az (∃ n F, n ≤ i ∧ PairsAt w' wm.heap.size n T i F))
  case atStart => exact ⟨0, rfl, ⟨Nat.zero_add _, fun j hj => absurd hj (Nat.not_lt_zero _)⟩, HB0, ⟨0, _, Nat.le_refl _, HM0.out⟩⟩
  case round =>
   clear HB0 HM0
   obtain ⟨i, rfl, HI, HB, HM⟩ := hrel
   have hi := HI.out.1
   cases gk with
   | succ k =>
     have hlt : decide ((i : Int) < (T.length : Int)) = true := dTz (by omega)
     have hln : decide (i < T.length) = true := dTz (by omega)
     have p1 : 0 ≤ (i : Int) := by omega
     have p2 : (i : Int) < (T.length : Int) := by omega
     have HLT : Az (i < T.length) := ⟨by omega⟩
     have hx : T[i]? = some T[i] := List.getElem?_eq_getElem (by omega)
     obtain ⟨x, hxx⟩ : ∃ x, T[i]'(by omega) = x := ⟨_, rfl⟩
     rw [hxx] at hx
     have HRx : Az (Right x) := ⟨by rw [← hxx]; exact HA.out.right _ (List.getElem_mem _)⟩
     have HX := Az.mk hx
     obtain ⟨ad, hAd, A', c', hrec, hto⟩ := HT.out i x hx
     subst hAd
     obtain ⟨g0, g1, g2, g3, g4, g5, g6, g7⟩ := hrec.up HB.out
     have HTO := Az.mk hto
     have RB := Az.mk (recBox_new wr x A' c')
     obtain ⟨n0, F, hn0, hPA⟩ := HM.out
     have HNI := Az.mk hn0
     have HPA := Az.mk hPA
     obtain ⟨e', hwr⟩ : ∃ e', wrongE T x = e' := ⟨_, rfl⟩
     have HWR := Az.mk hwr
     clear hx hxx hto hrec HM hn0 hPA hwr
     by_cases he : e' = 0
     ·subst he
      by_cases hk7 : x.kind = 7
      ·have e7 : (x.kind == 7) = true := beq_iff_eq.mpr hk7
       obtain ⟨a, b, hab, va, vb, hlh, hvl⟩ := HRx.out.decomp hk7
       clear hlh hvl
       have HK7 := Az.mk hk7
       have RDA : Az (rd x.to 0 = a) := ⟨by rw [hab]; rfl⟩
       have RDB : Az (rd x.to 1 = b) := ⟨by rw [hab]; rfl⟩
       obtain ⟨ad2, hA2, hc0⟩ := HTO.out 0 (.int .i32 a) (by rw [hab]; rfl)
       obtain ⟨ad3, hA3, hc1⟩ := HTO.out 1 (.int .i32 b) (by rw [hab]; rfl)
       rw [hA2] at hA3
       cases hA3
       subst hA2
       replace hc0 : w.cell? ad2 = some (.int .i32 a) := hc0
       replace hc1 : w.cell? ⟨ad2.block, ad2.off + 1, none⟩ = some (.int .i32 b) := hc1
       have HC0 := Az.mk hc0
       have HC1 := Az.mk hc1
       have HLEN : Az (x.to.length = 2) := ⟨by rw [hab]; rfl⟩
       have hp := (validB_iff _).1 va
       have hq := (validB_iff _).1 vb
       have HKEY : Az (KeyOk Tryz.prog 172 (pairV a b)) := ⟨key_pair (i32_wf (by omega) (by omega)) (i32_wf (by omega) (by omega))⟩
       have HNM : Az (n0 < maxLen) := ⟨by have := HNI.out; unfold maxLen; omega⟩
       clear hab va vb hp hq hk7 hc0 hc1
       cases hah : aheadB T a b i with
       | true =>
         have hre : recordE T i = 74 := by
          rw [recordE_right HX.out HWR.out, againB_ahead HX.out HK7.out, RDA.out, RDB.out, hah]
          rfl
         have h1 := checkE_record HT2.out HLT.out hre (by decide) HI.out.2
         rw [HC.out] at h1
         simp only [Prod.mk.injEq] at h1
         obtain ⟨h1, h2⟩ := h1
         subst h1
         subst h2
         have HF : Az (F (pairV a b) = some (.int .i64 1)) := ⟨by rw [HPA.out.2, hah]; rfl⟩
         clear hah hre
         go_wp2_with (first | (go_at_call 158; (with_reducible refine (wrong_calls _ c T x _ c' _ _ (HA.out.up (up_alloc HB.out _)) (HTO.out.up (up_alloc HB.out _)) HRx.out HWR.out).mono ?_); rintro r w2 ⟨rfl, hb2⟩; have HB2 := Az.mk (up_trans (up_alloc HB.out _) hb2); obtain ⟨k0, k1, k2, k3, k4, k5, k6, k7⟩ := RB.out.keep hb2; have HM2 := Az.mk ((HPA.out.1.alloc _).up hb2); rw [HLEN.out] at k4; have hc0 := up_cell HB2.out HC0.out; have hc1 := up_cell HB2.out HC1.out))
         go_region_held3 (fun w' => w'.cell? ⟨wr.heap.size, 4, none⟩ = some (.slice (some ad2) 2 c') ∧ w'.cell? ad2 = some (.int .i32 a) ∧ w'.cell? ⟨ad2.block, ad2.off + 1, none⟩ = some (.int .i32 b)) (first | go_keep) (first | fail)
         go_wp2_with (first | (at_lookup; refine wpList_look _ rfl _ _ 169 false rfl 172 3 keyed_pair Tryz.underlying169 (zero_int _) wm.heap.size n0 F rfl ((HM2.out.alloc _).drew) (pairV a b) rfl HKEY.out (.int .i64 1) (by rw [HF.out]; rfl) ?_))
         go_ret2
         exact ⟨rfl, up_drew (up_alloc HB2.out _)⟩
       | false =>
         have hre : recordE T i = 0 := by
          rw [recordE_right HX.out HWR.out, againB_ahead HX.out HK7.out, RDA.out, RDB.out, hah]
          rfl
         have HRE := Az.mk hre
         have HF : Az (F (pairV a b) = none) := ⟨by rw [HPA.out.2, hah]; rfl⟩
         clear hah hre
         go_wp2_with (first | (go_at_call 158; (with_reducible refine (wrong_calls _ c T x _ c' _ _ (HA.out.up (up_alloc HB.out _)) (HTO.out.up (up_alloc HB.out _)) HRx.out HWR.out).mono ?_); rintro r w2 ⟨rfl, hb2⟩; have HB2 := Az.mk (up_trans (up_alloc HB.out _) hb2); obtain ⟨k0, k1, k2, k3, k4, k5, k6, k7⟩ := RB.out.keep hb2; have HM2 := Az.mk ((HPA.out.1.alloc _).up hb2); rw [HLEN.out] at k4; have hc0 := up_cell HB2.out HC0.out; have hc1 := up_cell HB2.out HC1.out))
         go_region_held3 (fun w' => w'.cell? ⟨wr.heap.size, 4, none⟩ = some (.slice (some ad2) 2 c') ∧ w'.cell? ad2 = some (.int .i32 a) ∧ w'.cell? ⟨ad2.block, ad2.off + 1, none⟩ = some (.int .i32 b)) (first | go_keep) (first | fail)
         go_wp2_with (first | (at_lookup; refine wpList_look _ rfl _ _ 169 false rfl 172 3 keyed_pair Tryz.underlying169 (zero_int _) wm.heap.size n0 F rfl ((HM2.out.alloc _).drew) (pairV a b) rfl HKEY.out (.int .i64 0) (by rw [HF.out]; rfl) ?_) | (at_mapUpdate; refine wpList_store _ rfl _ _ _ 169 rfl 172 3 keyed_pair Tryz.underlying169 wm.heap.size n0 F rfl ((HM2.out.alloc _).drew) HNM.out (pairV a b) (.int .i64 1) rfl rfl HKEY.out ?_; intro w4 hmap4 hgrow4))
         have HST := Az.mk (HPA.out.step HX.out HK7.out RDA.out RDB.out hmap4)
         have HUP4 : Az (Up w w4) := ⟨(up_drew (up_alloc HB2.out _)).grown hgrow4 (Nat.le_trans (up_drew (up_alloc HB2.out _)).size (Nat.le_refl _)) (fun k hk => by cases hk; exact HWM.out)⟩
         go_roundg k
         case measure => have := HI.out.1; omega
         case rel => exact ⟨i + 1, rfl, ⟨by have := HI.out.1; omega, fun j hj => by
          by_cases hji : j = i
          ·subst hji
           exact HRE.out
          ·exact HI.out.2 j (by omega)⟩, HUP4, ⟨n0 + 1, _, by have := HNI.out; omega, HST.out⟩⟩
      ·have e7 : (x.kind == 7) = false := bqf hk7
       have HRE : Az (recordE T i = 0) := ⟨recordE_ok HX.out HWR.out hk7⟩
       have HK7 := Az.mk hk7
       clear hk7
       go_wp2_with (first | (go_at_call 158; (with_reducible refine (wrong_calls _ c T x _ c' _ _ (HA.out.up (up_alloc HB.out _)) (HTO.out.up (up_alloc HB.out _)) HRx.out HWR.out).mono ?_); rintro r w2 ⟨rfl, hb2⟩; have HB2 := Az.mk (up_trans (up_alloc HB.out _) hb2); obtain ⟨k0, k1, k2, k3, k4, k5, k6, k7⟩ := RB.out.keep hb2; have HM2 := Az.mk ((HPA.out.1.alloc _).up hb2)))
       have HST := Az.mk (HPA.out.skip HX.out HK7.out HM2.out)
       go_roundg k
       case measure => have := HI.out.1; omega
       case rel => exact ⟨i + 1, rfl, ⟨by have := HI.out.1; omega, fun j hj => by
        by_cases hji : j = i
        ·subst hji
         exact HRE.out
        ·exact HI.out.2 j (by omega)⟩, HB2, ⟨n0, F, by have := HNI.out; omega, HST.out⟩⟩
     ·have hre : recordE T i = e' := by rw [recordE_wrong HX.out (by rw [HWR.out]; exact he), HWR.out]
      have h1 := checkE_record HT2.out HLT.out hre he HI.out.2
      rw [HC.out] at h1
      simp only [Prod.mk.injEq] at h1
      obtain ⟨h1, h2⟩ := h1
      subst h1
      subst h2
      have d2 : (e == 0) = false := bqf he
      have d3 : (e != 0) = true := bne_iff_ne.mpr he
      clear he hre
      go_wp2_with (first | (go_at_call 158; (with_reducible refine (wrong_calls _ c T x _ c' _ _ (HA.out.up (up_alloc HB.out _)) (HTO.out.up (up_alloc HB.out _)) HRx.out HWR.out).mono ?_); rintro r w2 ⟨rfl, hb2⟩; have HB2 := Az.mk (up_trans (up_alloc HB.out _) hb2); obtain ⟨k0, k1, k2, k3, k4, k5, k6, k7⟩ := RB.out.keep hb2))
      go_ret2
      exact ⟨rfl, HB2.out⟩
   | zero =>
     have hlt : decide ((i : Int) < (T.length : Int)) = false := dFz (by omega)
     have hln : decide (i < T.length) = false := dFz (by omega)
     have h1 := checkE_bases HT2.out (fun j hj => HI.out.2 j (by omega))
     rw [HC.out] at h1
     have H1 := Az.mk h1
     clear h1 hi HI HM
     go_wp2
     change Code.wp _ _ _ _ (wr.alloc strsO)
     have HS : Az (∀ j, j < 2 → (wr.alloc strsO).cell? ⟨wr.heap.size, j, none⟩ = some (.string (strs j))) := ⟨strs_cells wr⟩
     have HB0 : Az (Up w (wr.alloc strsO)) := ⟨up_alloc HB.out _⟩
     generalize wr.heap.size = gs at HS
     generalize wr.alloc strsO = W at HS HB0
     go_loopg [62] 2 (fun k v62 w' => ∃ j : Nat, v62 = .int .i64 j ∧ Az (j + k = 2 ∧ ∀ q p (hp : p < (strs q).size), q < j → plainB T (((strs q)[p]'hp).toNat) = true) ∧ Az (Up W w'))
     case atStart => exact ⟨0, rfl, ⟨rfl, fun q p hp hq => absurd hq (Nat.not_lt_zero _)⟩, ⟨up_refl _⟩⟩
     case round =>
      clear hlt hln
      obtain ⟨j, rfl, HJ, HBJ⟩ := hrel
      have hj := HJ.out.1
      cases gk with
      | zero =>
        have hlt : decide ((j : Int) < 2) = false := dFz (by omega)
        have hln : decide (j < 2) = false := dFz (by omega)
        have hb := strs_all (P := plainB T) (fun q p hp hq => HJ.out.2 q p hp (by omega))
        have h1 := H1.out
        rw [if_pos hb] at h1
        simp only [Prod.mk.injEq] at h1
        obtain ⟨h1, h2⟩ := h1
        subst h1
        subst h2
        clear hb hj
        go_wp2
        go_ret2
        exact ⟨rfl, up_trans HB0.out HBJ.out⟩
      | succ k =>
        have hlt : decide ((j : Int) < 2) = true := dTz (by omega)
        have hln : decide (j < 2) = true := dTz (by omega)
        have p1 : 0 ≤ (j : Int) := by omega
        have p2 : (j : Int) < 2 := by omega
        have hcell := up_cell HBJ.out (HS.out j (by omega))
        have HJ2 : Az (j + (k + 1) = 2) := ⟨hj⟩
        have HSM : Az (∀ p (h : p < (strs j).size), (((strs j)[p]'h).toNat : Int) ∈ bases ∧ ((strs j)[p]'h).toNat < 128) := ⟨strs_mem j⟩
        have HPREV : Az (∀ q p (hp : p < (strs q).size), q < j → plainB T (((strs q)[p]'hp).toNat) = true) := ⟨HJ.out.2⟩
        obtain ⟨s, hs⟩ : ∃ s, strs j = s := ⟨_, rfl⟩
        have HSJ := Az.mk hs
        rw [hs] at hcell HSM
        clear hs hj HJ
        go_wp2
        obtain ⟨wo, rfl⟩ : ∃ wo : World, wo = wr := ⟨_, rfl⟩
        have HSZ : Az (W.heap.size ≤ wo.heap.size) := ⟨HBJ.out.size⟩
        have HIT0 : Az ((wo.iter s 0).heap[wo.heap.size]? = some (.stringIter s 0)) := ⟨World.iter_heap wo s 0⟩
        have HBW : Az (Up W (wo.iter s 0)) := ⟨up_alloc HBJ.out _⟩
        go_loopg [14] s.size (fun k v14 w' => ∃ p : Nat, Az (p + k = s.size ∧ ∀ q (hq : q < s.size), q < p → plainB T ((s[q]'hq).toNat) = true) ∧ Az (Up W w') ∧ Az (w'.heap[wo.heap.size]? = some (.stringIter s p)))
        case atStart => exact ⟨0, ⟨Nat.zero_add _, fun q hq h => absurd h (Nat.not_lt_zero _)⟩, HBW, HIT0⟩
        case round =>
         clear HBW HIT0 hcell hlt hln
         obtain ⟨p, HP, HBK, HIT⟩ := hrel
         have hp := HP.out.1
         cases gk with
         | zero =>
           have hnx := fun ty => Lib.run_next_end_at (P := Tryz.prog) wr wo.heap.size s p ty HIT.out (by omega)
           clear hp
           go_wp2
           go_roundg k
           case measure => omega
           case rel => exact ⟨j + 1, rfl, ⟨by have := HJ2.out; omega, fun q p' hp' hq => by
            by_cases hqj : q = j
            ·subst hqj
             have h2 := HP.out.2
             have hs := HSJ.out
             subst hs
             exact h2 p' hp' (by have := HP.out.1; omega)
            ·exact HPREV.out q p' hp' (by omega)⟩, HBK⟩
         | succ k' =>
           have hps : p < s.size := by omega
           have hnx := fun ty => Lib.run_next_ascii_at (P := Tryz.prog) wr wo.heap.size s p ty HIT.out hps (HSM.out p hps).2
           have hdm := (HSM.out p hps).1
           obtain ⟨d, hd⟩ : ∃ d : Int, ((s[p]'hps).toNat : Int) = d := ⟨_, rfl⟩
           rw [hd] at hnx hdm
           have hlow := bases_low d hdm
           have RD : Az (-2147483648 ≤ d ∧ d ≤ 2147483647) := ⟨by omega⟩
           have HBI : Az (Up w (wr.iterAt wo.heap.size s (p + 1))) := ⟨up_iterAt (up_trans HB0.out HBK.out) (Nat.le_trans HB0.out.size HSZ.out) _ _⟩
           have HBI2 : Az (Up W (wr.iterAt wo.heap.size s (p + 1))) := ⟨up_iterAt HBK.out HSZ.out _ _⟩
           have HIT2 : Az ((wr.iterAt wo.heap.size s (p + 1)).heap[wo.heap.size]? = some (.stringIter s (p + 1))) := ⟨Lib.iterAt_heap _ _ _ _ _ HIT.out⟩
           have HDM := Az.mk hdm
           have HD := Az.mk hd
           have HPS := Az.mk hps
           have hplain : plainB T d = (match findR T 1 d with | some r => decide (r.kind = 1) | none => false) := rfl
           generalize wr.iterAt wo.heap.size s (p + 1) = wi at hnx HBI HBI2 HIT2
           clear hdm hd hlow hp
           rcases find_cases T 1 d with ⟨h1, h2⟩ | ⟨i, x, hi, hx, h1, h2, h3⟩
           ·rw [h2] at hplain
            have hplain : plainB T d = false := hplain
            have h5 := H1.out
            rw [bases_fail HDM.out hplain] at h5
            have h5' : (n, e) = (T.length, 70) := h5
            simp only [Prod.mk.injEq] at h5'
            obtain ⟨h5', h6⟩ := h5'
            subst h5'
            subst h6
            have HFI := Az.mk h1
            clear h1 h2 hplain h5 HC H1
            go_wp2_with (first | (go_at_call 135; (with_reducible refine (Find_calls A c T 1 d (-1) _ (HA.out.up HBI.out).tab HA.out.right HA.out.len (by decide) (by decide) RD.out.1 RD.out.2 HFI.out).mono ?_); rintro r w3 ⟨rfl, hb3⟩))
            go_ret2
            exact ⟨rfl, up_trans HBI.out hb3⟩
           ·rw [h2] at hplain
            have hplain : plainB T d = decide (x.kind = 1) := hplain
            have HFI := Az.mk h1
            obtain ⟨ad, hAd, A', c', hrec, hto⟩ := HT.out i x hx
            subst hAd
            have HREC := Az.mk hrec
            have p3 : 0 ≤ (i : Int) := by omega
            have p4 : (i : Int) < (T.length : Int) := by omega
            have p5 : decide ((i : Int) < 0) = false := dFz (by omega)
            clear h1 h2 h3 hrec hto hx
            by_cases hk1 : x.kind = 1
            ·have e1 : (x.kind != 1) = false := by rw [hk1]; rfl
             have e2 : (x.kind == 1) = true := by rw [hk1]; rfl
             rw [dTz hk1] at hplain
             have HPL := Az.mk hplain
             clear hk1 hplain
             go_wp2_with (first | (go_at_call 135; (with_reducible refine (Find_calls _ c T 1 d i _ (HA.out.up HBI.out).tab HA.out.right HA.out.len (by decide) (by decide) RD.out.1 RD.out.2 HFI.out).mono ?_); rintro r w3 ⟨rfl, hb3⟩; obtain ⟨g0, g1, g2, g3, g4, g5, g6, g7⟩ := HREC.out.up (up_trans HBI.out hb3)))
             go_roundg k'
             case measure => have := HP.out.1; omega
             case rel => exact ⟨p + 1, ⟨by have := HP.out.1; omega, fun q hq hqp => by
              by_cases hqj : q = p
              ·subst hqj
               rw [HD.out]
               exact HPL.out
              ·exact HP.out.2 q hq (by omega)⟩, ⟨up_trans HBI2.out hb3⟩, ⟨(hb3.block _ (Array.getElem?_eq_some_iff.1 HIT2.out).1).trans HIT2.out⟩⟩
            ·have e1 : (x.kind != 1) = true := bne_iff_ne.mpr hk1
             have e2 : (x.kind == 1) = false := bqf hk1
             rw [dFz hk1] at hplain
             have h5 := H1.out
             rw [bases_fail HDM.out hplain] at h5
             have h5' : (n, e) = (T.length, 70) := h5
             simp only [Prod.mk.injEq] at h5'
             obtain ⟨h5', h6⟩ := h5'
             subst h5'
             subst h6
             clear hk1 hplain h5 HC H1
             go_wp2_with (first | (go_at_call 135; (with_reducible refine (Find_calls _ c T 1 d i _ (HA.out.up HBI.out).tab HA.out.right HA.out.len (by decide) (by decide) RD.out.1 RD.out.2 HFI.out).mono ?_); rintro r w3 ⟨rfl, hb3⟩; obtain ⟨g0, g1, g2, g3, g4, g5, g6, g7⟩ := HREC.out.up (up_trans HBI.out hb3)))
             go_ret2
             exact ⟨rfl, up_trans HBI.out hb3⟩
 ·have h1 := checkE_table (T := T) (by rw [ht]; exact hk)
  rw [h, ht] at h1
  simp only [Prod.mk.injEq] at h1
  obtain ⟨h1, h2⟩ := h1
  subst h1
  subst h2
  have HTE := Az.mk ht
  have d2 : (e == 0) = false := bqf hk
  have d3 : (e != 0) = true := bne_iff_ne.mpr hk
  clear hk h ht hT hW
  go_enter Tryz.func117, Tryz.ntmps117
  go_wp2_with (first | (go_at_call 157; (with_reducible refine (Check6_calls A c T n e _ HT.out HW.out HTE.out).mono ?_); rintro r w1 ⟨rfl, hb1⟩))
  go_ret2
  exact ⟨rfl, hb1⟩
end Go.Proofs.YtnohcnneflogjaaGreat.M
