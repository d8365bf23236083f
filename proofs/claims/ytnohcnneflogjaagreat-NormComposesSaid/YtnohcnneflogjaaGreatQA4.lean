/- The document's chapter 13, walked: Compose, NFC, again, Quick, Is, Safe. (printed by mkrnorm.py) -/
import Derived.Test.YtnohcnneflogjaaGreatQA2
import Derived.Test.YtnohcnneflogjaaGreatQA3
set_option maxHeartbeats 16000000
set_option maxRecDepth 1000000
set_option linter.unusedVariables false
set_option linter.unusedSimpArgs false
namespace Go.Proofs.YtnohcnneflogjaaGreat.M.Nm
open Go.Shelf Go.RowKit Go.Lib Go.Sort St
section
variable {w : World} {At : Option Addr} {T : List Rec}
theorem TabC (h : TabAt w At T) (ct : Nat) (a b p : Int) (ok : Bool) (hr : compF T a b = (p, ok)) (h1 : -2147483648 ≤ a ∧ a ≤ 2147483647) (h2 : -2147483648 ≤ b ∧ b ≤ 2147483647) :
 Calls Tryz.prog 91 #[.slice At T.length ct, .int .i32 a, .int .i32 b] w fun e w' => e = .returned (.tuple #[.int .i32 p, .bool ok]) ∧ Up w w' :=
 TCompose_calls At ct T a b w h.tab h.fine.right h.fine.wf h.fine.len h1.1 h1.2 h2.1 h2.2 p ok hr
theorem any_all (cl : Int → Int) (m : Int) (tl : List Int) : (!tl.any (fun z => decide (m ≤ cl z))) = tl.all (fun z => decide (cl z < m)) := by
 induction tl with
 | nil => rfl
 | cons a t ih =>
   rw [List.any_cons, List.all_cons, Bool.not_or, ih]
   congr 1
   by_cases h : m ≤ cl a
   ·rw [dTz h, dFz (by omega)]; rfl
   ·rw [dFz h, dTz (by omega)]; rfl
theorem any_take (f : Int → Bool) (l : List Int) (j : Nat) (z : Int) (h : l[j]? = some z) : (l.take (j + 1)).any f = ((l.take j).any f || f z) := by
 obtain ⟨hj, he⟩ := List.getElem?_eq_some_iff.1 h
 rw [List.take_succ_eq_append_getElem hj, List.any_append, he]
 simp
theorem wrap_add {sv : Int} {f : Nat} (h : sv + 1 = (f : Int)) (hf : f < 1000000000) : wrap64 (sv + 1) = (f : Int) := by
 rw [h]; unfold wrap64; omega
theorem wrap_same {n : Nat} (h : n < 100000000) : wrap64 (n : Int) = (n : Int) := by unfold wrap64; omega
theorem wrap_len1 {n : Nat} (h : n < 100000000) : wrap64 ((n : Int) + 1 - 1) = (n : Int) := by unfold wrap64; omega
theorem RCompose13_calls (hT : TabAt w At T) (ct : Nat) (A : Option Addr) (c : Nat) (x : List Int) (hI : Ints .i32 w A x) (hr : InI32 x) (hx : x.length ≤ 10000000) (ys : List Int) (hys : composeF T x = ys) :
 Calls Tryz.prog 48 #[.slice At T.length ct, .slice A x.length c] w (RetRow ys w) := by
 obtain ⟨ie, ze, hie, hze, hsi, hby, hzc⟩ := i32_info
 have HT := Az.mk hT
 have HX := Az.mk hI
 have HR := Az.mk hr
 have HC0 : Az (CmpS T x ys 0 [] none [] [] (-1) (-1)) := ⟨by rw [← hys]; exact CmpS.start T x⟩
 obtain ⟨cl, hcl⟩ : ∃ cl, numF T 2 (·.n) = cl := ⟨_, rfl⟩
 have HCL := Az.mk hcl
 have HPOS : Az (∀ z, 0 ≤ cl z) := ⟨by rw [← hcl]; exact hp_of hT.fine.toGood⟩
 obtain ⟨n, hn⟩ : ∃ n, x.length = n := ⟨_, rfl⟩
 have HN := Az.mk hn
 have HXL : Az (n ≤ 10000000) := ⟨by omega⟩
 rw [hn]
 clear hT hI hr hys hn hx hcl
 go_enter Tryz.func48, Tryz.ntmps48
 go_wp2
 go_loopg [5, 6, 7, 8, 9, 10, 11] n (fun k v5 v6 v7 v8 v9 v10 v11 wr => ∃ (i : Nat) (dn tl L : List Int) (st : Option Int) (Ay : Option Addr) (cy : Nat) (sv t : Int), v7 = .int .i64 i ∧ v5 = .slice Ay L.length cy ∧ v6 = .int .i64 sv ∧ Az (i + k = n) ∧ Az (CmpS T x ys i dn st tl L sv t) ∧ Az (InI32 L) ∧ Az (wr.ownsRow w.heap.size 21 1 (.slice Ay L.length cy) L.length (L.map (Value.int .i32))) ∧ Az (Up w wr))
 case atStart => exact ⟨0, [], [], [], none, none, 0, -1, -1, rfl, rfl, rfl, ⟨Nat.zero_add _⟩, HC0, ⟨fun z hz => by cases hz⟩, ⟨World.ownsRow_nil _ _ _ _⟩, ⟨up_refl _⟩⟩
 case round =>
  obtain ⟨i, dn, tl, L, st, Ay, cy, sv, t, rfl, rfl, rfl, HI, HC, HLR, HO, HU⟩ := hrel
  clear HC0
  cases gk with
  | zero =>
    have hlt : decide ((i : Int) < (n : Int)) = false := dFz (by have := HI.out; omega)
    have hlt1 : ¬ (i < n) := by have := HI.out; omega
    have e := HC.out.done (by have := HN.out; omega)
    go_wp2
    go_ret
    subst e
    exact ⟨_, rfl, HO.out, HU.out⟩
  | succ k =>
    have hi : i < n := by have := HI.out; omega
    have hix : i < x.length := by rw [HN.out]; exact hi
    have hlt : decide ((i : Int) < (n : Int)) = true := dTz (by omega)
    have z1 : (i : Int) < (n : Int) := by omega
    have z2 : (i : Int) < 100000000 := by have := HXL.out; omega
    have zl : (L.length : Int) < 100000000 := by have := HC.out.le; omega
    obtain ⟨ad, hA, y1⟩ := HX.out.at_ i (by omega) (by omega)
    have y2 := up_cell HU.out y1
    rw [Int.toNat_natCast] at y2
    subst hA
    clear y1
    obtain ⟨c', hc'⟩ : ∃ c', x[i] = c' := ⟨_, rfl⟩
    rw [rd_elem x i hix, hc'] at y2
    have HCR : Az (-2147483648 ≤ c' ∧ c' ≤ 2147483647) := ⟨HR.out c' (by rw [← hc']; exact List.getElem_mem _)⟩
    have HDR : Az (x.drop i = c' :: x.drop (i + 1)) := ⟨by rw [List.drop_eq_getElem_cons hix, hc']⟩
    obtain ⟨m, hm⟩ : ∃ m, cl c' = m := ⟨_, rfl⟩
    have HM : Az (classF T c' = m) := ⟨by rw [← hm, ← HCL.out]; rfl⟩
    have HM0 : Az (0 ≤ m) := ⟨by rw [← hm]; exact HPOS.out c'⟩
    have HFC := Az.mk ((HT.out.up HU.out).Class ct c' m HM.out HCR.out)
    have MA : Az (L.length + 1 ≤ maxLen ∧ (L.length + 1) * 4 ≤ 140737488355328) := ⟨by unfold maxLen; omega⟩
    obtain ⟨f, hf⟩ : ∃ f : Nat, sv + 1 = (f : Int) := by
     cases st with
     | none => exact ⟨0, by have : sv = -1 := HC.out.s; omega⟩
     | some s => exact ⟨dn.length + 1, by have : sv = (dn.length : Int) := HC.out.s; omega⟩
    have hfl : f ≤ L.length := by
     cases st with
     | none => have : sv = -1 := HC.out.s; omega
     | some s => have h1 : sv = (dn.length : Int) := HC.out.s; have := HC.out.at.2; omega
    have HWF := Az.mk (wrap_add hf (by omega))
    have hzl : L.length < 100000000 := by omega
    have HFD := Az.mk hf
    have HFL := Az.mk hfl
    clear hc' hm hix hf hfl
    have hw1 := wrap_len1 hzl
    have hw3 := wrap_same hzl
    have hw2 := HWF.out
    go_wp2_with (first | (go_at_call 82; (with_reducible refine HFC.out.mono ?_); rintro e w1 ⟨rfl, hup⟩; have HU1 := Az.mk (up_trans HU.out hup); have HV1 := Az.mk hup; clear hup))
    rw [hw2]
    go_loopg [10, 11] (L.length - f) (fun k v10 v11 w' => ∃ (j : Nat) (b : Bool), v11 = .int .i64 j ∧ v10 = .bool b ∧ Az (f ≤ j ∧ j + k = L.length) ∧ Az (b = ((L.drop f).take (j - f)).any (fun z => decide (m ≤ cl z))) ∧ Az (Up w1 w'))
    case atStart => exact ⟨f, false, rfl, rfl, ⟨Nat.le_refl _, by have := HFL.out; omega⟩, ⟨by simp⟩, ⟨up_refl _⟩⟩
    case round =>
     obtain ⟨j, b, rfl, rfl, HJ, HB, HW⟩ := hrel
     cases gk with
     | succ k2 =>
       have hj : j < L.length := by have := HJ.out; omega
       have hlt2 : decide ((j : Int) < (L.length : Int)) = true := dTz (by omega)
       have z3 : (j : Int) < (L.length : Int) := by omega
       have z4 : 0 ≤ (j : Int) := by omega
       have HOW := own_up HO.out (up_trans HV1.out HW.out)
       obtain ⟨gg, hg, hge⟩ := own_some HO.out (by omega)
       subst hg
       obtain ⟨q1, _⟩ := own_at HOW hj
       obtain ⟨z, hz⟩ : ∃ z, rd L (j : Int) = z := ⟨_, rfl⟩
       have HZR : Az (-2147483648 ≤ z ∧ z ≤ 2147483647) := ⟨by rw [← hz]; exact HLR.out.rd j hj⟩
       have HZL : Az ((L.drop f)[j - f]? = some z) := ⟨by rw [List.getElem?_drop, show f + (j - f) = j by have := HJ.out; omega, List.getElem?_eq_getElem hj, ← hz, rd_elem L j hj]⟩
       rw [hz] at q1
       obtain ⟨kz, hkz⟩ : ∃ kz, cl z = kz := ⟨_, rfl⟩
       have HKZ := Az.mk hkz
       have HFZ := Az.mk ((HT.out.up (up_trans HU1.out HW.out)).Class ct z kz (by rw [HCL.out]; exact HKZ.out) HZR.out)
       have HNB : Az (((L.drop f).take (j + 1 - f)).any (fun z => decide (m ≤ cl z)) = (b || decide (m ≤ kz))) := ⟨by rw [show j + 1 - f = (j - f) + 1 by have := HJ.out; omega, any_take _ _ _ _ HZL.out, ← HB.out, HKZ.out]⟩
       clear hz hkz hj HOW hge
       cases b with
       | true =>
         go_wp2
         go_roundg k2
         case measure => omega
         case rel => exact ⟨j + 1, true, by go_num, rfl, ⟨by have := HJ.out; omega, by have := HJ.out; omega⟩, ⟨by rw [HNB.out]; rfl⟩, HW⟩
       | false =>
         by_cases hg : m ≤ kz
         ·have g1 : decide (kz ≥ m) = true := dTz hg
          have HG := Az.mk hg
          clear hg
          go_wp2_with (first | (go_at_call 82; (with_reducible refine HFZ.out.mono ?_); rintro e w2 ⟨rfl, hup⟩; have HW2 := Az.mk (up_trans HW.out hup); clear hup))
          go_roundg k2
          case measure => omega
          case rel => exact ⟨j + 1, true, by go_num, rfl, ⟨by have := HJ.out; omega, by have := HJ.out; omega⟩, ⟨by rw [HNB.out, dTz HG.out]; rfl⟩, HW2⟩
         ·have g1 : decide (kz ≥ m) = false := dFz hg
          have HG := Az.mk hg
          clear hg
          go_wp2_with (first | (go_at_call 82; (with_reducible refine HFZ.out.mono ?_); rintro e w2 ⟨rfl, hup⟩; have HW2 := Az.mk (up_trans HW.out hup); clear hup))
          go_roundg k2
          case measure => omega
          case rel => exact ⟨j + 1, false, by go_num, rfl, ⟨by have := HJ.out; omega, by have := HJ.out; omega⟩, ⟨by rw [HNB.out, dFz (by have := HG.out; omega)]; rfl⟩, HW2⟩
     | zero =>
       have hlt2 : decide ((j : Int) < (L.length : Int)) = false := dFz (by have := HJ.out; omega)
       have hlt3 : ¬ (j < L.length) := by have := HJ.out; omega
       have HBA : Az (b = (L.drop f).any (fun z => decide (m ≤ cl z))) := ⟨by rw [HB.out, List.take_of_length_le (by rw [List.length_drop]; have := HJ.out; omega)]⟩
       obtain ⟨w3, hw3'⟩ : ∃ w3, w3 = wr := ⟨_, rfl⟩
       subst hw3'
       have HU3 := Az.mk (up_trans HU1.out HW.out)
       have HV3 := Az.mk (up_trans HV1.out HW.out)
       clear HB HJ
       cases st with
       | none =>
         have hsv : sv = -1 := HC.out.s
         subst hsv
         have g0 : decide ((-1 : Int) ≥ 0) = false := by decide
         by_cases hz : m = 0
         ·have e0 : (m == 0) = true := beq_iff_eq.mpr hz
          have HZ := Az.mk hz
          clear hz
          go_wp2_with (first | (at_builtin; refine (wpList_append_row _ rfl _ _ 23 rfl w.heap.size 21 ie ze 1 4 Tryz.underlying23 hie hze hsi hby hzc (by decide) (.slice Ay L.length cy) L.length (L.map (Value.int .i32)) rfl ((own_up HO.out HV3.out).alloc _) (some ⟨w3.heap.size, 0, none⟩) 1 1 (([c'] : List Int).map (Value.int .i32)) rfl rfl (ints_new w3 [c']) (ints_one _ _) ?ha ?hb ?hc ?_); (case ha => exact MA.out.1); (case hb => exact MA.out.2); (case hc => exact (up_alloc HU3.out _).size); intro v' w4 hown hgrow hat; have HO4 : Az (w4.ownsRow w.heap.size 21 1 v' (L.length + 1) ((L ++ [c']).map (Value.int .i32))) := ⟨(congrArg (fun t => w4.ownsRow w.heap.size 21 1 v' (L.length + 1) t) (List.map_append (f := Value.int .i32) (l₁ := L) (l₂ := [c']))).mpr hown⟩; have HU4 := Az.mk ((up_alloc HU3.out (.cells #[.int .i32 c'] 21)).grown hgrow (up_alloc HU3.out (.cells #[.int .i32 c'] 21)).size (fun k hk => (((own_up HO.out HV3.out).lt k hk).1))); obtain ⟨A4, c4, hv⟩ := own_any HO4.out; subst hv; clear hown hgrow hat))
          go_roundg k
          case measure => omega
          case rel => exact ⟨i + 1, dn ++ tl, [], L ++ [c'], some c', A4, c4, (L.length : Int), -1, by go_num, by simp, by simp, ⟨by have := HI.out; omega⟩, ⟨HC.out.none_zero HDR.out (HM.out.trans HZ.out)⟩, ⟨inI32_snoc HLR.out HCR.out⟩, ⟨by simpa using HO4.out⟩, HU4⟩
         ·have e0 : (m == 0) = false := bqf hz
          have HZ := Az.mk hz
          clear hz
          go_wp2_with (first | (at_builtin; refine (wpList_append_row _ rfl _ _ 23 rfl w.heap.size 21 ie ze 1 4 Tryz.underlying23 hie hze hsi hby hzc (by decide) (.slice Ay L.length cy) L.length (L.map (Value.int .i32)) rfl ((own_up HO.out HV3.out).alloc _) (some ⟨w3.heap.size, 0, none⟩) 1 1 (([c'] : List Int).map (Value.int .i32)) rfl rfl (ints_new w3 [c']) (ints_one _ _) ?ha ?hb ?hc ?_); (case ha => exact MA.out.1); (case hb => exact MA.out.2); (case hc => exact (up_alloc HU3.out _).size); intro v' w4 hown hgrow hat; have HO4 : Az (w4.ownsRow w.heap.size 21 1 v' (L.length + 1) ((L ++ [c']).map (Value.int .i32))) := ⟨(congrArg (fun t => w4.ownsRow w.heap.size 21 1 v' (L.length + 1) t) (List.map_append (f := Value.int .i32) (l₁ := L) (l₂ := [c']))).mpr hown⟩; have HU4 := Az.mk ((up_alloc HU3.out (.cells #[.int .i32 c'] 21)).grown hgrow (up_alloc HU3.out (.cells #[.int .i32 c'] 21)).size (fun k hk => (((own_up HO.out HV3.out).lt k hk).1))); obtain ⟨A4, c4, hv⟩ := own_any HO4.out; subst hv; clear hown hgrow hat))
          go_roundg k
          case measure => omega
          case rel => exact ⟨i + 1, dn, tl ++ [c'], L ++ [c'], none, A4, c4, -1, _, by go_num, by simp, by simp, ⟨by have := HI.out; omega⟩, ⟨HC.out.none_mark HDR.out (fun h => HZ.out (HM.out.symm.trans h))⟩, ⟨inI32_snoc HLR.out HCR.out⟩, ⟨by simpa using HO4.out⟩, HU4⟩
       | some s =>
         have hsv : sv = (dn.length : Int) := HC.out.s
         subst hsv
         obtain ⟨hrd, hdl⟩ := HC.out.at
         have g0 : decide ((dn.length : Int) ≥ 0) = true := dTz (by omega)
         have d0 : 0 ≤ (dn.length : Int) := by omega
         have d1 : (dn.length : Int) < (L.length : Int) := by omega
         have HSR : Az (-2147483648 ≤ s ∧ s ≤ 2147483647) := ⟨by rw [← hrd]; exact HLR.out.rd dn.length hdl⟩
         obtain ⟨gg, hg, hge⟩ := own_some HO.out (by omega)
         subst hg
         have HO3 := Az.mk (own_up HO.out HV3.out)
         obtain ⟨q1, q2⟩ := own_at HO3.out hdl
         rw [hrd] at q1
         have HTL : Az ((!b) = tl.all (fun z => decide (classF T z < classF T c'))) := ⟨by
          have h1 := HFD.out
          have h2 : L.drop f = tl := by rw [HC.out.l, show f = dn.length + 1 by omega, List.drop_append]; simp
          rw [HBA.out, h2, any_all, HM.out, ← HCL.out]
          rfl⟩
         have HTD : Az (decide (t < classF T c') = !b) := ⟨by rw [HTL.out, ← HC.out.t]; exact topF_lt _ _ (by rw [HM.out]; exact HM0.out) tl⟩
         have HGE := Az.mk hge
         have HDL := Az.mk hdl
         clear hdl
         clear hrd q2 hge
         cases b with
         | true =>
           have HNN : Az (¬ (t < classF T c' ∧ (compF T s c').2 = true)) := ⟨fun h => by have := HTD.out; rw [dTz h.1] at this; cases this⟩
           by_cases hz : m = 0
           ·have e0 : (m == 0) = true := beq_iff_eq.mpr hz
            have HZ := Az.mk hz
            clear hz
            go_wp2_with (first | (at_builtin; refine (wpList_append_row _ rfl _ _ 23 rfl w.heap.size 21 ie ze 1 4 Tryz.underlying23 hie hze hsi hby hzc (by decide) (.slice (some ⟨gg, 0, none⟩) L.length cy) L.length (L.map (Value.int .i32)) rfl (HO3.out.alloc _) (some ⟨w3.heap.size, 0, none⟩) 1 1 (([c'] : List Int).map (Value.int .i32)) rfl rfl (ints_new w3 [c']) (ints_one _ _) ?ha ?hb ?hc ?_); (case ha => exact MA.out.1); (case hb => exact MA.out.2); (case hc => exact (up_alloc HU3.out _).size); intro v' w4 hown hgrow hat; have HO4 : Az (w4.ownsRow w.heap.size 21 1 v' (L.length + 1) ((L ++ [c']).map (Value.int .i32))) := ⟨(congrArg (fun t => w4.ownsRow w.heap.size 21 1 v' (L.length + 1) t) (List.map_append (f := Value.int .i32) (l₁ := L) (l₂ := [c']))).mpr hown⟩; have HU4 := Az.mk ((up_alloc HU3.out (.cells #[.int .i32 c'] 21)).grown hgrow (up_alloc HU3.out (.cells #[.int .i32 c'] 21)).size (fun k hk => ((HO3.out.lt k hk).1))); obtain ⟨A4, c4, hv⟩ := own_any HO4.out; subst hv; clear hown hgrow hat))
            go_roundg k
            case measure => omega
            case rel => exact ⟨i + 1, dn ++ s :: tl, [], L ++ [c'], some c', A4, c4, (L.length : Int), -1, by go_num, by simp, by simp, ⟨by have := HI.out; omega⟩, ⟨HC.out.some_zero HDR.out HNN.out (by rw [HM.out]; exact HM0.out) (HM.out.trans HZ.out)⟩, ⟨inI32_snoc HLR.out HCR.out⟩, ⟨by simpa using HO4.out⟩, HU4⟩
           ·have e0 : (m == 0) = false := bqf hz
            have HZ := Az.mk hz
            clear hz
            go_wp2_with (first | (at_builtin; refine (wpList_append_row _ rfl _ _ 23 rfl w.heap.size 21 ie ze 1 4 Tryz.underlying23 hie hze hsi hby hzc (by decide) (.slice (some ⟨gg, 0, none⟩) L.length cy) L.length (L.map (Value.int .i32)) rfl (HO3.out.alloc _) (some ⟨w3.heap.size, 0, none⟩) 1 1 (([c'] : List Int).map (Value.int .i32)) rfl rfl (ints_new w3 [c']) (ints_one _ _) ?ha ?hb ?hc ?_); (case ha => exact MA.out.1); (case hb => exact MA.out.2); (case hc => exact (up_alloc HU3.out _).size); intro v' w4 hown hgrow hat; have HO4 : Az (w4.ownsRow w.heap.size 21 1 v' (L.length + 1) ((L ++ [c']).map (Value.int .i32))) := ⟨(congrArg (fun t => w4.ownsRow w.heap.size 21 1 v' (L.length + 1) t) (List.map_append (f := Value.int .i32) (l₁ := L) (l₂ := [c']))).mpr hown⟩; have HU4 := Az.mk ((up_alloc HU3.out (.cells #[.int .i32 c'] 21)).grown hgrow (up_alloc HU3.out (.cells #[.int .i32 c'] 21)).size (fun k hk => ((HO3.out.lt k hk).1))); obtain ⟨A4, c4, hv⟩ := own_any HO4.out; subst hv; clear hown hgrow hat))
            go_roundg k
            case measure => omega
            case rel => exact ⟨i + 1, dn, tl ++ [c'], L ++ [c'], some s, A4, c4, (dn.length : Int), _, by go_num, by simp, by simp, ⟨by have := HI.out; omega⟩, ⟨HC.out.some_mark HDR.out HNN.out (by rw [HM.out]; exact HM0.out) (fun h => HZ.out (HM.out.symm.trans h))⟩, ⟨inI32_snoc HLR.out HCR.out⟩, ⟨by simpa using HO4.out⟩, HU4⟩
         | false =>
           have hlt9 : t < classF T c' := of_decide_eq_true HTD.out
           have HT9 := Az.mk hlt9
           obtain ⟨p, ok, hpk⟩ : ∃ p ok, compF T s c' = (p, ok) := ⟨_, _, rfl⟩
           have HPK := Az.mk hpk
           have HCM := Az.mk (TabC (HT.out.up HU3.out) ct s c' p ok hpk HSR.out HCR.out)
           clear hlt9 hpk
           cases ok with
           | true =>
             have HPR := Az.mk (comp_range HT.out.fine HPK.out)
             have HCC := Az.mk (HC.out.comp HDR.out HT9.out (by rw [HM.out]; exact HM0.out) (by rw [HPK.out]))
             clear g0
             go_wp2_with (first | (go_at_call 91; (with_reducible refine HCM.out.mono ?_); rintro e w5 ⟨rfl, hup⟩; have HU5 := Az.mk (up_trans HU3.out hup); have HV5 := Az.mk (up_trans HV3.out hup); have HO5 := Az.mk (own_up HO3.out hup); obtain ⟨x1, x2⟩ := own_at HO5.out HDL.out; clear hup))
             have HO6 := Az.mk (own_put HO5.out dn.length p)
             have HU6 : Az (Up w (w5.setCell ⟨gg, dn.length, none⟩ (.int .i32 p))) := ⟨HU5.out.setCell HGE.out _⟩
             go_roundg k
             case measure => omega
             case rel =>
              have e := HCC.out
              rw [HPK.out] at e
              exact ⟨i + 1, dn, tl, L.set dn.length p, some p, _, _, _, t, by go_num, by rw [List.length_set], rfl, ⟨by have := HI.out; omega⟩, ⟨e⟩, ⟨inI32_put HLR.out HPR.out⟩, ⟨by rw [List.length_set]; exact HO6.out⟩, HU6⟩
           | false =>
             have HNN : Az (¬ (t < classF T c' ∧ (compF T s c').2 = true)) := ⟨by rw [HPK.out]; exact fun h => by cases h.2⟩
             by_cases hz : m = 0
             ·have e0 : (m == 0) = true := beq_iff_eq.mpr hz
              have HZ := Az.mk hz
              clear hz
              go_wp2_with (first | (at_builtin; refine (wpList_append_row _ rfl _ _ 23 rfl w.heap.size 21 ie ze 1 4 Tryz.underlying23 hie hze hsi hby hzc (by decide) (.slice (some ⟨gg, 0, none⟩) L.length cy) L.length (L.map (Value.int .i32)) rfl (HO5.out.alloc _) (some ⟨w5.heap.size, 0, none⟩) 1 1 (([c'] : List Int).map (Value.int .i32)) rfl rfl (ints_new w5 [c']) (ints_one _ _) ?ha ?hb ?hc ?_); (case ha => exact MA.out.1); (case hb => exact MA.out.2); (case hc => exact (up_alloc HU5.out _).size); intro v' w4 hown hgrow hat; have HO4 : Az (w4.ownsRow w.heap.size 21 1 v' (L.length + 1) ((L ++ [c']).map (Value.int .i32))) := ⟨(congrArg (fun t => w4.ownsRow w.heap.size 21 1 v' (L.length + 1) t) (List.map_append (f := Value.int .i32) (l₁ := L) (l₂ := [c']))).mpr hown⟩; have HU4 := Az.mk ((up_alloc HU5.out (.cells #[.int .i32 c'] 21)).grown hgrow (up_alloc HU5.out (.cells #[.int .i32 c'] 21)).size (fun k hk => ((HO5.out.lt k hk).1))); obtain ⟨A4, c4, hv⟩ := own_any HO4.out; subst hv; clear hown hgrow hat) | (go_at_call 91; (with_reducible refine HCM.out.mono ?_); rintro e w5 ⟨rfl, hup⟩; have HU5 := Az.mk (up_trans HU3.out hup); have HV5 := Az.mk (up_trans HV3.out hup); have HO5 := Az.mk (own_up HO3.out hup); obtain ⟨x1, x2⟩ := own_at HO5.out HDL.out; clear hup))
              go_roundg k
              case measure => omega
              case rel => exact ⟨i + 1, dn ++ s :: tl, [], L ++ [c'], some c', A4, c4, (L.length : Int), -1, by go_num, by simp, by simp, ⟨by have := HI.out; omega⟩, ⟨HC.out.some_zero HDR.out HNN.out (by rw [HM.out]; exact HM0.out) (HM.out.trans HZ.out)⟩, ⟨inI32_snoc HLR.out HCR.out⟩, ⟨by simpa using HO4.out⟩, HU4⟩
             ·have e0 : (m == 0) = false := bqf hz
              have HZ := Az.mk hz
              clear hz
              go_wp2_with (first | (at_builtin; refine (wpList_append_row _ rfl _ _ 23 rfl w.heap.size 21 ie ze 1 4 Tryz.underlying23 hie hze hsi hby hzc (by decide) (.slice (some ⟨gg, 0, none⟩) L.length cy) L.length (L.map (Value.int .i32)) rfl (HO5.out.alloc _) (some ⟨w5.heap.size, 0, none⟩) 1 1 (([c'] : List Int).map (Value.int .i32)) rfl rfl (ints_new w5 [c']) (ints_one _ _) ?ha ?hb ?hc ?_); (case ha => exact MA.out.1); (case hb => exact MA.out.2); (case hc => exact (up_alloc HU5.out _).size); intro v' w4 hown hgrow hat; have HO4 : Az (w4.ownsRow w.heap.size 21 1 v' (L.length + 1) ((L ++ [c']).map (Value.int .i32))) := ⟨(congrArg (fun t => w4.ownsRow w.heap.size 21 1 v' (L.length + 1) t) (List.map_append (f := Value.int .i32) (l₁ := L) (l₂ := [c']))).mpr hown⟩; have HU4 := Az.mk ((up_alloc HU5.out (.cells #[.int .i32 c'] 21)).grown hgrow (up_alloc HU5.out (.cells #[.int .i32 c'] 21)).size (fun k hk => ((HO5.out.lt k hk).1))); obtain ⟨A4, c4, hv⟩ := own_any HO4.out; subst hv; clear hown hgrow hat) | (go_at_call 91; (with_reducible refine HCM.out.mono ?_); rintro e w5 ⟨rfl, hup⟩; have HU5 := Az.mk (up_trans HU3.out hup); have HV5 := Az.mk (up_trans HV3.out hup); have HO5 := Az.mk (own_up HO3.out hup); obtain ⟨x1, x2⟩ := own_at HO5.out HDL.out; clear hup))
              go_roundg k
              case measure => omega
              case rel => exact ⟨i + 1, dn, tl ++ [c'], L ++ [c'], some s, A4, c4, (dn.length : Int), _, by go_num, by simp, by simp, ⟨by have := HI.out; omega⟩, ⟨HC.out.some_mark HDR.out HNN.out (by rw [HM.out]; exact HM0.out) (fun h => HZ.out (HM.out.symm.trans h))⟩, ⟨inI32_snoc HLR.out HCR.out⟩, ⟨by simpa using HO4.out⟩, HU4⟩
end
end Go.Proofs.YtnohcnneflogjaaGreat.M.Nm
namespace Go.Proofs.YtnohcnneflogjaaGreat.M.Nm
open Go.Shelf Go.RowKit Go.Lib Go.Sort St
theorem own_other {w : World} {base : Nat} {A : Option Addr} {n c : Nat} {xs : List Value} (h : w.ownsRow base 21 1 (.slice A n c) n xs) {g : Nat} (hg : ∀ ad, A = some ad → ad.block ≠ g) (i : Nat) (v : Value) : (w.setCell ⟨g, i, none⟩ v).ownsRow base 21 1 (.slice A n c) n xs :=
 own_chg (M := fun b => b = g) h (Chg.of_set w ⟨g, i, none⟩ v rfl) (fun k hk => by
  cases A with
  | none => cases hk
  | some ad =>
    rcases h.2 with ⟨hv, _⟩ | ⟨g', cap, cur, hv, _⟩
    ·cases hv
    ·cases hv
     have : g' = k := by simpa [Value.ownBlock] using hk
     subst this
     exact hg _ rfl)
theorem whole13_calls (A B : Option Addr) (c k : Nat) (s : List Int) (n : Nat) (hn : s.length = n) (w : World) (hI : Ints .i32 w A (s ++ [-7, -8])) (hc : n + 2 ≤ c) (hJ : Ints .i32 w B s) (hk : n ≤ k) (hl : n ≤ 100000) :
 Calls Tryz.prog 50 #[.slice A n c, .slice B n k] w fun e w' => e = .returned (.bool true) ∧ Up w w' := by
 obtain ⟨ad, hA, y1⟩ := hI.at_ (n : Int) (by omega) (by rw [List.length_append]; simp; omega)
 obtain ⟨ad', hA', y2⟩ := hI.at_ ((n + 1 : Nat) : Int) (by omega) (by rw [List.length_append]; simp; omega)
 rw [hA] at hA'
 cases hA'
 rw [Int.toNat_natCast] at y1 y2
 have e1 : rd (s ++ [-7, -8]) (n : Int) = -7 := by subst hn; rw [rd_get _ _ (by simp), List.getElem_append_right (by omega)]; simp
 have e2 : rd (s ++ [-7, -8]) ((n + 1 : Nat) : Int) = -8 := by subst hn; rw [rd_get _ _ (by simp), List.getElem_append_right (by omega)]; simp
 rw [e1] at y1
 rw [e2] at y2
 have HI : Az (Ints .i32 w A s) := ⟨by
  have := ints_take12 hI n
  rwa [List.take_left' hn] at this⟩
 have HJ := Az.mk hJ
 have HY1 := Az.mk y1
 have HY2 := Az.mk y2
 have HSB : Az (s.length ≤ 35184372087808) := ⟨by omega⟩
 have HSS : Az ((s == s) = true) := ⟨by simp⟩
 have HN := Az.mk hn
 have a1 : 0 ≤ (n : Int) := by omega
 have a2 : (n : Int) ≤ (k : Int) := by omega
 have a3 : (n : Int) + 2 ≤ (c : Int) := by omega
 have a4 : (n : Int) < (n : Int) + 2 := by omega
 have a5 : 0 ≤ (n : Int) + 1 := by omega
 have a6 : (n : Int) + 1 < (n : Int) + 2 := by omega
 have a7 : 0 ≤ (n : Int) + 2 := by omega
 have b1 : IntKind.i64.wrap ((n : Int) + 2) = (n : Int) + 2 := by rw [IntKind.wrap_i64]; omega
 have b2 : IntKind.i64.wrap ((n : Int) + 1) = (n : Int) + 1 := by rw [IntKind.wrap_i64]; omega
 have hnn : (n : Int) ≤ 100000 := by omega
 subst hA
 clear hI hJ e1 e2 y1 y2 hn hl
 go_enter Tryz.func50, Tryz.ntmps50
 go_wp2_with (first | (go_at_call 26; (with_reducible refine (SameN_calls _ B n n c k s s _ HI.out HJ.out HN.out HN.out (by have := HSB.out; have := HN.out; omega) (by have := HSB.out; have := HN.out; omega) true HSS.out).mono ?_); rintro e w1 ⟨rfl, hup⟩; have HU := Az.mk hup; have y1 := up_cell hup HY1.out; have y2 := up_cell hup HY2.out; have y3 : w1.cell? ⟨ad.block, ad.off + (n + 1), none⟩ = some (.int .i32 (-8)) := y2; clear hup))
 go_ret
 exact ⟨rfl, HU.out⟩
theorem RNFC13_calls {w : World} {At : Option Addr} {T : List Rec} (hT : TabAt w At T) (ct : Nat) (A : Option Addr) (c : Nat) (x : List Int) (hI : Ints .i32 w A x) (hr : InI32 x) (hx : x.length ≤ 65536) (ys : List Int) (hys : nfcF T x = ys) :
 Calls Tryz.prog 49 #[.slice At T.length ct, .slice A x.length c] w (RetRow ys w) := by
 obtain ⟨q, hq⟩ : ∃ q, nfdF T x = q := ⟨_, rfl⟩
 have HQR : Az (InI32 q) := ⟨by rw [← hq]; exact sortF_range T (openX_range hT.fine hT.fine.wf hr)⟩
 have HQL : Az (q.length ≤ 10000000) := ⟨by rw [← hq]; exact nfc_small hT.fine hx⟩
 have HYS : Az (composeF T q = ys) := ⟨by rw [← hq]; exact hys⟩
 have HO := Az.mk (RNFD12_calls hT ct A c x hI hr (by omega) q hq)
 have HT := Az.mk hT
 clear hT hI hr hx hq hys
 go_enter Tryz.func49, Tryz.ntmps49
 go_wp2_with (first | (go_at_call 34; (with_reducible refine HO.out.mono ?_); rintro e w1 ⟨v1, rfl, hown1, hup1⟩; obtain ⟨A1, c1, hv1, hi1, _⟩ := own_ints hown1; subst hv1; have HU1 := Az.mk hup1; have HI1 := Az.mk hi1; clear hown1 hup1 hi1) |
  (go_at_call 48; (with_reducible refine (RCompose13_calls (HT.out.up HU1.out) ct A1 c1 q HI1.out HQR.out HQL.out ys HYS.out).mono ?_); rintro e w2 ⟨v2, rfl, hown2, hup2⟩))
 go_ret
 exact ⟨_, rfl, own_base hown2 HU1.out.size, up_trans HU1.out hup2⟩
theorem NormComposes_no (A : Option Addr) (c : Nat) (T : List Rec) (A1 : Option Addr) (n1 c1 : Nat) (w : World) (hT : Table w A T) (hW : ∀ x ∈ T, x.Wf) (hc : T.length ≤ c) (he : (checkE (T.take 150)).2 ≠ 0) :
 Calls Tryz.prog 11 #[.slice A T.length c, .slice A1 n1 c1] w fun e w' => e = .returned (.bool true) ∧ Up w w' := by
 have HM := Az.mk (Made_no A c T w hT hW hc he)
 clear hT hW hc he
 go_enter Tryz.func11, Tryz.ntmps11
 go_wp2_with (first | (go_at_call 21; (with_reducible refine HM.out.mono ?_); rintro e w1 ⟨rfl, hup1⟩) | (go_at_call 41; (with_reducible refine (told13_calls _).mono ?_); rintro e w2 ⟨rfl, hup2⟩))
 go_ret
 exact ⟨rfl, up_trans hup1 hup2⟩
theorem NormComposes_yes (A : Option Addr) (c : Nat) (T P : List Rec) (X1 : Option Addr) (x1 : List Int) (k1 : Nat) (w : World) (hP : T.take 150 = P) (hT : Table w A T) (hW : ∀ x ∈ T, x.Wf) (hc : T.length ≤ c) (he : (checkE P).2 = 0)
 (hI1 : Ints .i32 w X1 x1) (hx1 : x1.length < 4611686018427387904) (hc1 : x1.length ≤ k1) (hwf1 : ∀ z ∈ x1, (Lit.int .i32 z).wf = true) :
 Calls Tryz.prog 11 #[.slice A T.length c, .slice X1 x1.length k1] w fun e w' => e = .returned (.bool true) ∧ Up w w' := by
 have HM := Az.mk (Made_yes A c T P w hP hT hW hc he)
 have HF : Az (Fine P) := ⟨fine_of (fun x hx => hW x (by rw [← hP] at hx; exact List.mem_of_mem_take hx)) he⟩
 have HJ1 := Az.mk hI1
 have HX1 := Az.mk hx1
 have HXC1 := Az.mk hc1
 have HWF1 := Az.mk hwf1
 clear hT hW hc he hP hI1 hx1 hc1 hwf1
 obtain ⟨s, hs⟩ : ∃ s, x1.take 200 = s := ⟨_, rfl⟩
 have HsE := Az.mk hs
 have HsL : Az (s.length ≤ 200) := ⟨by rw [← hs, List.length_take]; omega⟩
 have HsR : Az (InI32 s) := ⟨fun z hz => St.wf_i32 (HWF1.out z (by rw [← hs] at hz; exact List.mem_of_mem_take hz))⟩
 have Hs2 : Az (s.length ≤ 65536) := ⟨by have := HsL.out; omega⟩
 have HsB : Az (s.length ≤ 35184372087808) := ⟨by have := HsL.out; omega⟩
 clear hs
 obtain ⟨q, hq⟩ : ∃ q, nfcF P s = q := ⟨_, rfl⟩
 have HqE := Az.mk hq
 have HqL : Az (q.length ≤ 6400) := ⟨by rw [← hq]; have := nfc_len HF.out s; have := HsL.out; omega⟩
 have HqR : Az (InI32 q) := ⟨by rw [← hq]; exact nfc_range HF.out HsR.out⟩
 have Hq2 : Az (q.length ≤ 65536) := ⟨by have := HqL.out; omega⟩
 have HqB : Az (q.length ≤ 35184372087808) := ⟨by have := HqL.out; omega⟩
 have HqS : Az ((q == q) = true) := ⟨by simp⟩
 clear hq
 obtain ⟨p, hp⟩ : ∃ p, composeF P s = p := ⟨_, rfl⟩
 have HpE := Az.mk hp
 have HpL : Az (p.length ≤ 6400) := ⟨by rw [← hp]; have h := (cmp_len P s none []).1; simp at h; have := HsL.out; unfold composeF; omega⟩
 have HpB : Az (p.length ≤ 35184372087808) := ⟨by have := HpL.out; omega⟩
 have HpS : Az ((p == p) = true) := ⟨by simp⟩
 have HSX : Az (s.length ≤ x1.length) := ⟨by rw [← HsE.out, List.length_take]; omega⟩
 have HSL3 : Az (s.length ≤ 100000) := ⟨by have := HsL.out; omega⟩
 have HSL4 : Az (s.length ≤ 10000000) := ⟨by have := HsL.out; omega⟩
 have HXS : Az (Ints .i32 w X1 s) := ⟨by rw [← HsE.out]; exact ints_take12 HJ1.out 200⟩
 have u1 : 0 ≤ (s.length : Int) := by omega
 have u2 : (s.length : Int) ≤ (k1 : Int) := by have := HSX.out; have := HXC1.out; omega
 clear hp
 go_enter Tryz.func11, Tryz.ntmps11
 go_wp2_with (first | (go_at_call 26; (with_reducible refine (SameB_calls Ab A7 cb c7 q q _ (HIb.out.up (up_trans HS5.out (up_trans HS6.out HS7.out))) HI7.out HqB.out HqB.out true HqS.out).mono ?_); rintro e w8 ⟨rfl, hup⟩; have HS8 := Az.mk hup; clear hup) |
  (go_at_call 49; (with_reducible refine (RNFC13_calls (HTA.out.up (up_trans HS2.out (up_trans HS3.out (up_trans HS4.out (up_trans HS5.out HS6.out))))) c1 X1 k1 s (HXS.out.up (up_trans HS1.out (up_trans HS2.out (up_trans HS3.out (up_trans HS4.out (up_trans HS5.out HS6.out)))))) HsR.out Hs2.out q HqE.out).mono ?_); rintro e w7 ⟨v7, rfl, hown, hup⟩; have HS7 := Az.mk hup; obtain ⟨A7, c7, hv, hi, _⟩ := own_ints hown; subst hv; have HI7 := Az.mk hi; clear hup hown hi) |
  (go_at_call 26; (with_reducible refine (SameB_calls Aa A5 ca c5 p p _ (HIa.out.up (up_trans HS4.out HS5.out)) HI5.out HpB.out HpB.out true HpS.out).mono ?_); rintro e w6 ⟨rfl, hup⟩; have HS6 := Az.mk hup; clear hup) |
  (go_at_call 48; (with_reducible refine (RCompose13_calls (HTA.out.up (up_trans HS2.out (up_trans HS3.out HS4.out))) c1 X1 k1 s (HXS.out.up (up_trans HS1.out (up_trans HS2.out (up_trans HS3.out HS4.out)))) HsR.out HSL4.out p HpE.out).mono ?_); rintro e w5 ⟨v5, rfl, hown, hup⟩; have HS5 := Az.mk hup; obtain ⟨A5, c5, hv, hi, _⟩ := own_ints hown; subst hv; have HI5 := Az.mk hi; clear hup hown hi) |
  (go_at_call 44; (with_reducible refine (NFC_calls (HD.out.up (up_trans HS2.out HS3.out)) HF.out _ c2 s s.length rfl ((two_left HI2.out).up HS3.out) HsR.out Hs2.out q HqE.out).mono ?_); rintro e w4 ⟨Ab, cb, rfl, hown, hi, hup⟩; have HS4 := Az.mk hup; have HOb := Az.mk hown; have HIb := Az.mk hi; clear hup hown hi) |
  (go_at_call 47; (with_reducible refine (Compose13_calls (HD.out.up HS2.out) HF.out _ c2 s s.length rfl (two_left HI2.out) HsR.out Hs2.out p HpE.out).mono ?_); rintro e w3 ⟨Aa, ca, rfl, hown, hi, hup⟩; have HS3 := Az.mk hup; have HOa := Az.mk hown; have HIa := Az.mk hi; clear hup hown hi) |
  (go_at_call 42; (with_reducible refine (few13_own X1 k1 x1 s 200 200 rfl _ (HJ1.out.up HS1.out) HX1.out HXC1.out (by decide) HsE.out).mono ?_); rintro e w2 ⟨gi, c2, rfl, hcap, hown, hup⟩; have HS2 := Az.mk hup; have HO2 := Az.mk hown; have HCAP := Az.mk hcap; have HI2 := Az.mk (own_two_ints hown); clear hup hcap hown) |
  (go_at_call 21; (with_reducible refine (HM.out).mono ?_); rintro e w1 ⟨bd, D, A1, c1, rfl, hD, hTab, hup⟩; have HS1 := Az.mk hup; have HD := Az.mk hD; have HTA : Az (TabAt w1 A1 P) := ⟨hTab.table, HF.out⟩; have HTF := Az.mk hTab; clear hup hD hTab))
 have HLa : Az (∀ ad, Aa = some ad → ad.block < w3.heap.size) := ⟨fun ad ha => (own_lt_some HOa.out ha).2⟩
 have HLb : Az (∀ ad, Ab = some ad → w3.heap.size ≤ ad.block ∧ ad.block < w4.heap.size) := ⟨fun ad ha => own_lt_some HOb.out ha⟩
 have HW0 : Az (Up w2 w8) := ⟨(up_trans HS3.out (up_trans HS4.out (up_trans HS5.out (up_trans HS6.out (up_trans HS7.out HS8.out)))))⟩
 have HWa := Az.mk (own_up HOa.out (up_trans HS4.out (up_trans HS5.out (up_trans HS6.out (up_trans HS7.out HS8.out)))))
 have HWb := Az.mk (own_up HOb.out (up_trans HS5.out (up_trans HS6.out (up_trans HS7.out HS8.out))))
 go_loopg [13] p.length (fun k v13 w' => ∃ (j : Nat) (l' : List Int), v13 = .int .i64 j ∧ Az (j + k = p.length ∧ l'.length = p.length) ∧ Az (w'.ownsRow w2.heap.size 21 1 (.slice Aa p.length ca) p.length (l'.map (Value.int .i32))) ∧ Az (Up w2 w') ∧ Az (w'.ownsRow w3.heap.size 21 1 (.slice Ab q.length cb) q.length (q.map (Value.int .i32))))
 case atStart => exact ⟨0, p, rfl, ⟨Nat.zero_add _, rfl⟩, HWa, HW0, HWb⟩
 case round =>
  obtain ⟨j, l', rfl, HJ, HO, HU, HKb⟩ := hrel
  clear HW0 HWa HWb
  cases gk with
  | zero =>
    have hlt : decide ((j : Int) < (p.length : Int)) = false := dFz (by have := HJ.out; omega)
    have hlt1 : ¬ (j < p.length) := by have := HJ.out; omega
    go_wp2
    have HW0 := HU
    have HWb := HKb
    clear hlt hlt1 HU HO HJ HKb
    go_loopg [14] q.length (fun k v14 w' => ∃ (j : Nat) (l' : List Int), v14 = .int .i64 j ∧ Az (j + k = q.length ∧ l'.length = q.length) ∧ Az (w'.ownsRow w3.heap.size 21 1 (.slice Ab q.length cb) q.length (l'.map (Value.int .i32))) ∧ Az (Up w2 w'))
    case atStart => exact ⟨0, q, rfl, ⟨Nat.zero_add _, rfl⟩, HWb, HW0⟩
    case round =>
     obtain ⟨j, l', rfl, HJ, HO, HU⟩ := hrel
     clear HW0 HWb
     cases gk with
     | zero =>
       have hlt : decide ((j : Int) < (q.length : Int)) = false := dFz (by have := HJ.out; omega)
       have hlt1 : ¬ (j < q.length) := by have := HJ.out; omega
       go_wp2_with (first | (go_at_call 26; (with_reducible refine (SameB_calls A9 A11 c9 c11 q q _ (HI9.out.up (up_trans HS10.out HS11.out)) HI11.out HqB.out HqB.out true HqS.out).mono ?_); rintro e w12 ⟨rfl, hup⟩; have HS12 := Az.mk hup; clear hup) |
        (go_at_call 49; (with_reducible refine (RNFC13_calls (HTA.out.up (up_trans HS2.out HV10.out)) c1 X1 k1 s (HXS.out.up (up_trans (up_trans HS1.out HS2.out) HV10.out)) HsR.out Hs2.out q HqE.out).mono ?_); rintro e w11 ⟨v11, rfl, hown, hup⟩; have HS11 := Az.mk hup; obtain ⟨A11, c11, hv, hi, _⟩ := own_ints hown; subst hv; have HI11 := Az.mk hi; clear hup hown hi) |
        (go_at_call 50; (with_reducible refine (whole13_calls _ X1 c2 k1 s s.length rfl _ (HI2.out.up HV9.out) HCAP.out (HXS.out.up (up_trans (up_trans HS1.out HS2.out) HV9.out)) (Nat.le_trans HSX.out HXC1.out) HSL3.out).mono ?_); rintro e w10 ⟨rfl, hup⟩; have HS10 := Az.mk hup; have HV10 := Az.mk (up_trans HV9.out hup); clear hup) |
        (go_at_call 44; (with_reducible refine (NFC_calls (HD.out.up (up_trans HS2.out HU.out)) HF.out _ c2 s s.length rfl ((two_left HI2.out).up HU.out) HsR.out Hs2.out q HqE.out).mono ?_); rintro e w9 ⟨A9, c9, rfl, hown, hi, hup⟩; have HS9 := Az.mk hup; have HI9 := Az.mk hi; have HV9 := Az.mk (up_trans HU.out hup); clear hup hown hi))
       go_ret
       exact ⟨rfl, up_trans (up_trans HS1.out HS2.out) (up_trans HU.out (up_trans HS9.out (up_trans HS10.out (up_trans HS11.out HS12.out))))⟩
     | succ k2 =>
       have hlt : decide ((j : Int) < (q.length : Int)) = true := dTz (by have := HJ.out; omega)
       have hlt1 : j < q.length := by have := HJ.out; omega
       have q7 : 0 ≤ (j : Int) := by omega
       have q9 : (j : Int) < (q.length : Int) := by omega
       have hll : (j : Int) < 1000000 := by have := HqL.out; omega
       obtain ⟨g, hg, hge⟩ := own_some HO.out (by omega)
       have HGE : Az (w2.heap.size ≤ g) := ⟨by have := HS3.out.size; have := HS4.out.size; omega⟩
       have HNE : Az (∀ ad, Ab = some ad → ad.block = g) := ⟨fun ad ha => by rw [hg] at ha; cases ha; rfl⟩
       have HLG := Az.mk hg
       subst hg
       obtain ⟨y1, y2⟩ := own_at HO.out hlt1
       clear hge
       go_wp2
       go_roundg k2
       case measure => have := HJ.out; omega
       case rel => exact ⟨j + 1, l'.set j (-9), by go_num, ⟨by have := HJ.out; omega, by have := HJ.out; simp; omega⟩, ⟨own_put HO.out j (-9)⟩, ⟨HU.out.setCell HGE.out _⟩⟩
  | succ k2 =>
    have hlt : decide ((j : Int) < (p.length : Int)) = true := dTz (by have := HJ.out; omega)
    have hlt1 : j < p.length := by have := HJ.out; omega
    have q7 : 0 ≤ (j : Int) := by omega
    have q9 : (j : Int) < (p.length : Int) := by omega
    have hll : (j : Int) < 1000000 := by have := HpL.out; omega
    obtain ⟨g, hg, hge⟩ := own_some HO.out (by omega)
    have HGE : Az (w2.heap.size ≤ g) := ⟨by have := HS3.out.size; have := HS4.out.size; omega⟩
    have HNE : Az (∀ ad, Aa = some ad → ad.block = g) := ⟨fun ad ha => by rw [hg] at ha; cases ha; rfl⟩
    have HLG := Az.mk hg
    have HNb : Az (∀ ad, Ab = some ad → ad.block ≠ g) := ⟨fun ad ha => by have h1 : g < w3.heap.size := HLa.out _ hg; have h2 := (HLb.out ad ha).1; omega⟩
    subst hg
    obtain ⟨y1, y2⟩ := own_at HO.out hlt1
    clear hge
    go_wp2
    go_roundg k2
    case measure => have := HJ.out; omega
    case rel => exact ⟨j + 1, l'.set j (-9), by go_num, ⟨by have := HJ.out; omega, by have := HJ.out; simp; omega⟩, ⟨own_put HO.out j (-9)⟩, ⟨HU.out.setCell HGE.out _⟩, ⟨own_other HKb.out HNb.out j _⟩⟩
end Go.Proofs.YtnohcnneflogjaaGreat.M.Nm
