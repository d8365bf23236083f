/- The document's chapter 13, walked: Compose, NFC, again, Quick, Is, Safe. (printed by mkrnorm.py) -/
import Derived.Test.YtnohcnneflogjaaGreatQB3
import Derived.Test.YtnohcnneflogjaaGreatQB4
set_option maxHeartbeats 16000000
set_option maxRecDepth 1000000
set_option linter.unusedVariables false
set_option linter.unusedSimpArgs false
namespace Go.Proofs.YtnohcnneflogjaaGreat.M.Nm
open Go.Shelf Go.RowKit Go.Lib Go.Sort St
section
variable {w : World} {At : Option Addr} {T : List Rec}
theorem TabC (h : TabAt w At T) (ct : Nat) (a b p : Int) (ok : Bool) (hr : compF T a b = (p, ok)) (h1 : -2147483648 ≤ a ∧ a ≤ 2147483647) (h2 : -2147483648 ≤ b ∧ b ≤ 2147483647) :
 Calls Tryz.prog 91 #[.slice At T.length ct, .int .i32 a, .int .i32 b] w fun e w' => e = .returned (.tuple #[.int .i32 p, .bool ok]) ∧ Up w w' :=
 TCompose_calls At ct T a b w h.tab h.fine.right h.fine.wf h.fine.len h1.1 h1.2 h2.1 h2.2 p ok hr
theorem TabO (h : TabAt w At T) (ct : Nat) (d : Int) (l : List Int) (hl : openF T d = l) (h1 : -2147483648 ≤ d ∧ d ≤ 2147483647) :
 Calls Tryz.prog 95 #[.slice At T.length ct, .int .i32 d] w (RetRow l w) :=
 TOpen_calls At ct T d w h.tab h.fine.right h.fine.wf h.fine.len h1.1 h1.2 l hl
theorem TabS (h : TabAt w At T) (ct : Nat) (d : Int) (b : Bool) (hb : secondF T d = b) (h1 : -2147483648 ≤ d ∧ d ≤ 2147483647) :
 Calls Tryz.prog 97 #[.slice At T.length ct, .int .i32 d] w fun e w' => e = .returned (.bool b) ∧ Up w w' :=
 TSecond_calls At ct T d w h.tab h.fine.right h.fine.wf h.fine.len h1.1 h1.2 b hb
theorem any_all (cl : Int → Int) (m : Int) (tl : List Int) : (!tl.any (fun z => decide (m ≤ cl z))) = tl.all (fun z => decide (cl z < m)) := by
 induction tl with
 | nil => rfl
 | cons a t ih =>
   rw [List.any_cons, List.all_cons, Bool.not_or, ih]
   congr 1
   by_cases h : m ≤ cl a
   ·rw [dTz h, dFz (by omega)]; rfl
   ·rw [dFz h, dTz (by omega)]; rfl
theorem any_take (f : Int → Bool) (l : List Int) (j : Nat) (z : Int) (h : l[j]? = some z) : (l.take (j + 1)).any f = ((l.take j).any f || f z) := by
 obtain ⟨hj, he⟩ := List.getElem?_eq_some_iff.1 h
 rw [List.take_succ_eq_append_getElem hj, List.any_append, he]
 simp
theorem wrap_add {sv : Int} {f : Nat} (h : sv + 1 = (f : Int)) (hf : f < 1000000000) : wrap64 (sv + 1) = (f : Int) := by
 rw [h]; unfold wrap64; omega
theorem wrap_same {n : Nat} (h : n < 100000000) : wrap64 (n : Int) = (n : Int) := by unfold wrap64; omega
theorem wrap_len1 {n : Nat} (h : n < 100000000) : wrap64 ((n : Int) + 1 - 1) = (n : Int) := by unfold wrap64; omega
theorem RCompose13_calls (hT : TabAt w At T) (ct : Nat) (A : Option Addr) (c : Nat) (x : List Int) (hI : Ints .i32 w A x) (hr : InI32 x) (hx : x.length ≤ 10000000) (ys : List Int) (hys : composeF T x = ys) :
 Calls Tryz.prog 48 #[.slice At T.length ct, .slice A x.length c] w (RetRow ys w) := by
 obtain ⟨ie, ze, hie, hze, hsi, hby, hzc⟩ := i32_info
 have HT := Az.mk hT
 have HX := Az.mk hI
 have HR := Az.mk hr
 have HC0 : Az (CmpS T x ys 0 [] none [] [] (-1) (-1)) := ⟨by rw [← hys]; exact CmpS.start T x⟩
 obtain ⟨cl, hcl⟩ : ∃ cl, numF T 2 (·.n) = cl := ⟨_, rfl⟩
 have HCL := Az.mk hcl
 have HPOS : Az (∀ z, 0 ≤ cl z) := ⟨by rw [← hcl]; exact hp_of hT.fine.toGood⟩
 obtain ⟨n, hn⟩ : ∃ n, x.length = n := ⟨_, rfl⟩
 have HN := Az.mk hn
 have HXL : Az (n ≤ 10000000) := ⟨by omega⟩
 rw [hn]
 clear hT hI hr hys hn hx hcl
 go_enter Tryz.func48, Tryz.ntmps48
 go_wp2
 go_loopg [5, 6, 7, 8, 9, 10, 11] n (fun k v5 v6 v7 v8 v9 v10 v11 wr => ∃ (i : Nat) (dn tl L : List Int) (st : Option Int) (Ay : Option Addr) (cy : Nat) (sv t : Int), v7 = .int .i64 i ∧ v5 = .slice Ay L.length cy ∧ v6 = .int .i64 sv ∧ Az (i + k = n) ∧ Az (CmpS T x ys i dn st tl L sv t) ∧ Az (InI32 L) ∧ Az (wr.ownsRow w.heap.size 21 1 (.slice Ay L.length cy) L.length (L.map (Value.int .i32))) ∧ Az (Up w wr))
 case atStart => exact ⟨0, [], [], [], none, none, 0, -1, -1, rfl, rfl, rfl, ⟨Nat.zero_add _⟩, HC0, ⟨fun z hz => by cases hz⟩, ⟨World.ownsRow_nil _ _ _ _⟩, ⟨up_refl _⟩⟩
 case round =>
  obtain ⟨i, dn, tl, L, st, Ay, cy, sv, t, rfl, rfl, rfl, HI, HC, HLR, HO, HU⟩ := hrel
  clear HC0
  cases gk with
  | zero =>
    have hlt : decide ((i : Int) < (n : Int)) = false := dFz (by have := HI.out; omega)
    have hlt1 : ¬ (i < n) := by have := HI.out; omega
    have e := HC.out.done (by have := HN.out; omega)
    go_wp2
    go_ret
    subst e
    exact ⟨_, rfl, HO.out, HU.out⟩
  | succ k =>
    have hi : i < n := by have := HI.out; omega
    have hix : i < x.length := by rw [HN.out]; exact hi
    have hlt : decide ((i : Int) < (n : Int)) = true := dTz (by omega)
    have z1 : (i : Int) < (n : Int) := by omega
    have z2 : (i : Int) < 100000000 := by have := HXL.out; omega
    have zl : (L.length : Int) < 100000000 := by have := HC.out.le; omega
    obtain ⟨ad, hA, y1⟩ := HX.out.at_ i (by omega) (by omega)
    have y2 := up_cell HU.out y1
    rw [Int.toNat_natCast] at y2
    subst hA
    clear y1
    obtain ⟨c', hc'⟩ : ∃ c', x[i] = c' := ⟨_, rfl⟩
    rw [rd_elem x i hix, hc'] at y2
    have HCR : Az (-2147483648 ≤ c' ∧ c' ≤ 2147483647) := ⟨HR.out c' (by rw [← hc']; exact List.getElem_mem _)⟩
    have HDR : Az (x.drop i = c' :: x.drop (i + 1)) := ⟨by rw [List.drop_eq_getElem_cons hix, hc']⟩
    obtain ⟨m, hm⟩ : ∃ m, cl c' = m := ⟨_, rfl⟩
    have HM : Az (classF T c' = m) := ⟨by rw [← hm, ← HCL.out]; rfl⟩
    have HM0 : Az (0 ≤ m) := ⟨by rw [← hm]; exact HPOS.out c'⟩
    have HFC := Az.mk ((HT.out.up HU.out).Class ct c' m HM.out HCR.out)
    have MA : Az (L.length + 1 ≤ maxLen ∧ (L.length + 1) * 4 ≤ 140737488355328) := ⟨by unfold maxLen; omega⟩
    obtain ⟨f, hf⟩ : ∃ f : Nat, sv + 1 = (f : Int) := by
     cases st with
     | none => exact ⟨0, by have : sv = -1 := HC.out.s; omega⟩
     | some s => exact ⟨dn.length + 1, by have : sv = (dn.length : Int) := HC.out.s; omega⟩
    have hfl : f ≤ L.length := by
     cases st with
     | none => have : sv = -1 := HC.out.s; omega
     | some s => have h1 : sv = (dn.length : Int) := HC.out.s; have := HC.out.at.2; omega
    have HWF := Az.mk (wrap_add hf (by omega))
    have hzl : L.length < 100000000 := by omega
    have HFD := Az.mk hf
    have HFL := Az.mk hfl
    clear hc' hm hix hf hfl
    have hw1 := wrap_len1 hzl
    have hw3 := wrap_same hzl
    have hw2 := HWF.out
    go_wp2_with (first | (go_at_call 82; (with_reducible refine HFC.out.mono ?_); rintro e w1 ⟨rfl, hup⟩; have HU1 := Az.mk (up_trans HU.out hup); have HV1 := Az.mk hup; clear hup))
    rw [hw2]
    go_loopg [10, 11] (L.length - f) (fun k v10 v11 w' => ∃ (j : Nat) (b : Bool), v11 = .int .i64 j ∧ v10 = .bool b ∧ Az (f ≤ j ∧ j + k = L.length) ∧ Az (b = ((L.drop f).take (j - f)).any (fun z => decide (m ≤ cl z))) ∧ Az (Up w1 w'))
    case atStart => exact ⟨f, false, rfl, rfl, ⟨Nat.le_refl _, by have := HFL.out; omega⟩, ⟨by simp⟩, ⟨up_refl _⟩⟩
    case round =>
     obtain ⟨j, b, rfl, rfl, HJ, HB, HW⟩ := hrel
     cases gk with
     | succ k2 =>
       have hj : j < L.length := by have := HJ.out; omega
       have hlt2 : decide ((j : Int) < (L.length : Int)) = true := dTz (by omega)
       have z3 : (j : Int) < (L.length : Int) := by omega
       have z4 : 0 ≤ (j : Int) := by omega
       have HOW := own_up HO.out (up_trans HV1.out HW.out)
       obtain ⟨gg, hg, hge⟩ := own_some HO.out (by omega)
       subst hg
       obtain ⟨q1, _⟩ := own_at HOW hj
       obtain ⟨z, hz⟩ : ∃ z, rd L (j : Int) = z := ⟨_, rfl⟩
       have HZR : Az (-2147483648 ≤ z ∧ z ≤ 2147483647) := ⟨by rw [← hz]; exact HLR.out.rd j hj⟩
       have HZL : Az ((L.drop f)[j - f]? = some z) := ⟨by rw [List.getElem?_drop, show f + (j - f) = j by have := HJ.out; omega, List.getElem?_eq_getElem hj, ← hz, rd_elem L j hj]⟩
       rw [hz] at q1
       obtain ⟨kz, hkz⟩ : ∃ kz, cl z = kz := ⟨_, rfl⟩
       have HKZ := Az.mk hkz
       have HFZ := Az.mk ((HT.out.up (up_trans HU1.out HW.out)).Class ct z kz (by rw [HCL.out]; exact HKZ.out) HZR.out)
       have HNB : Az (((L.drop f).take (j + 1 - f)).any (fun z => decide (m ≤ cl z)) = (b || decide (m ≤ kz))) := ⟨by rw [show j + 1 - f = (j - f) + 1 by have := HJ.out; omega, any_take _ _ _ _ HZL.out, ← HB.out, HKZ.out]⟩
       clear hz hkz hj HOW hge
       cases b with
       | true =>
         go_wp2
         go_roundg k2
         case measure => omega
         case rel => exact ⟨j + 1, true, by go_num, rfl, ⟨by have := HJ.out; omega, by have := HJ.out; omega⟩, ⟨by rw [HNB.out]; rfl⟩, HW⟩
       | false =>
         by_cases hg : m ≤ kz
         ·have g1 : decide (kz ≥ m) = true := dTz hg
          have HG := Az.mk hg
          clear hg
          go_wp2_with (first | (go_at_call 82; (with_reducible refine HFZ.out.mono ?_); rintro e w2 ⟨rfl, hup⟩; have HW2 := Az.mk (up_trans HW.out hup); clear hup))
          go_roundg k2
          case measure => omega
          case rel => exact ⟨j + 1, true, by go_num, rfl, ⟨by have := HJ.out; omega, by have := HJ.out; omega⟩, ⟨by rw [HNB.out, dTz HG.out]; rfl⟩, HW2⟩
         ·have g1 : decide (kz ≥ m) = false := dFz hg
          have HG := Az.mk hg
          clear hg
          go_wp2_with (first | (go_at_call 82; (with_reducible refine HFZ.out.mono ?_); rintro e w2 ⟨rfl, hup⟩; have HW2 := Az.mk (up_trans HW.out hup); clear hup))
          go_roundg k2
          case measure => omega
          case rel => exact ⟨j + 1, false, by go_num, rfl, ⟨by have := HJ.out; omega, by have := HJ.out; omega⟩, ⟨by rw [HNB.out, dFz (by have := HG.out; omega)]; rfl⟩, HW2⟩
     | zero =>
       have hlt2 : decide ((j : Int) < (L.length : Int)) = false := dFz (by have := HJ.out; omega)
       have hlt3 : ¬ (j < L.length) := by have := HJ.out; omega
       have HBA : Az (b = (L.drop f).any (fun z => decide (m ≤ cl z))) := ⟨by rw [HB.out, List.take_of_length_le (by rw [List.length_drop]; have := HJ.out; omega)]⟩
       obtain ⟨w3, hw3'⟩ : ∃ w3, w3 = wr := ⟨_, rfl⟩
       subst hw3'
       have HU3 := Az.mk (up_trans HU1.out HW.out)
       have HV3 := Az.mk (up_trans HV1.out HW.out)
       clear HB HJ
       cases st with
       | none =>
         have hsv : sv = -1 := HC.out.s
         subst hsv
         have g0 : decide ((-1 : Int) ≥ 0) = false := by decide
         by_cases hz : m = 0
         ·have e0 : (m == 0) = true := beq_iff_eq.mpr hz
          have HZ := Az.mk hz
          clear hz
          go_wp2_with (first | (at_builtin; refine (wpList_append_row _ rfl _ _ 23 rfl w.heap.size 21 ie ze 1 4 Tryz.underlying23 hie hze hsi hby hzc (by decide) (.slice Ay L.length cy) L.length (L.map (Value.int .i32)) rfl ((own_up HO.out HV3.out).alloc _) (some ⟨w3.heap.size, 0, none⟩) 1 1 (([c'] : List Int).map (Value.int .i32)) rfl rfl (ints_new w3 [c']) (ints_one _ _) ?ha ?hb ?hc ?_); (case ha => exact MA.out.1); (case hb => exact MA.out.2); (case hc => exact (up_alloc HU3.out _).size); intro v' w4 hown hgrow hat; have HO4 : Az (w4.ownsRow w.heap.size 21 1 v' (L.length + 1) ((L ++ [c']).map (Value.int .i32))) := ⟨(congrArg (fun t => w4.ownsRow w.heap.size 21 1 v' (L.length + 1) t) (List.map_append (f := Value.int .i32) (l₁ := L) (l₂ := [c']))).mpr hown⟩; have HU4 := Az.mk ((up_alloc HU3.out (.cells #[.int .i32 c'] 21)).grown hgrow (up_alloc HU3.out (.cells #[.int .i32 c'] 21)).size (fun k hk => (((own_up HO.out HV3.out).lt k hk).1))); obtain ⟨A4, c4, hv⟩ := own_any HO4.out; subst hv; clear hown hgrow hat))
          go_roundg k
          case measure => omega
          case rel => exact ⟨i + 1, dn ++ tl, [], L ++ [c'], some c', A4, c4, (L.length : Int), -1, by go_num, by simp, by simp, ⟨by have := HI.out; omega⟩, ⟨HC.out.none_zero HDR.out (HM.out.trans HZ.out)⟩, ⟨inI32_snoc HLR.out HCR.out⟩, ⟨by simpa using HO4.out⟩, HU4⟩
         ·have e0 : (m == 0) = false := bqf hz
          have HZ := Az.mk hz
          clear hz
          go_wp2_with (first | (at_builtin; refine (wpList_append_row _ rfl _ _ 23 rfl w.heap.size 21 ie ze 1 4 Tryz.underlying23 hie hze hsi hby hzc (by decide) (.slice Ay L.length cy) L.length (L.map (Value.int .i32)) rfl ((own_up HO.out HV3.out).alloc _) (some ⟨w3.heap.size, 0, none⟩) 1 1 (([c'] : List Int).map (Value.int .i32)) rfl rfl (ints_new w3 [c']) (ints_one _ _) ?ha ?hb ?hc ?_); (case ha => exact MA.out.1); (case hb => exact MA.out.2); (case hc => exact (up_alloc HU3.out _).size); intro v' w4 hown hgrow hat; have HO4 : Az (w4.ownsRow w.heap.size 21 1 v' (L.length + 1) ((L ++ [c']).map (Value.int .i32))) := ⟨(congrArg (fun t => w4.ownsRow w.heap.size 21 1 v' (L.length + 1) t) (List.map_append (f := Value.int .i32) (l₁ := L) (l₂ := [c']))).mpr hown⟩; have HU4 := Az.mk ((up_alloc HU3.out (.cells #[.int .i32 c'] 21)).grown hgrow (up_alloc HU3.out (.cells #[.int .i32 c'] 21)).size (fun k hk => (((own_up HO.out HV3.out).lt k hk).1))); obtain ⟨A4, c4, hv⟩ := own_any HO4.out; subst hv; clear hown hgrow hat))
          go_roundg k
          case measure => omega
          case rel => exact ⟨i + 1, dn, tl ++ [c'], L ++ [c'], none, A4, c4, -1, _, by go_num, by simp, by simp, ⟨by have := HI.out; omega⟩, ⟨HC.out.none_mark HDR.out (fun h => HZ.out (HM.out.symm.trans h))⟩, ⟨inI32_snoc HLR.out HCR.out⟩, ⟨by simpa using HO4.out⟩, HU4⟩
       | some s =>
         have hsv : sv = (dn.length : Int) := HC.out.s
         subst hsv
         obtain ⟨hrd, hdl⟩ := HC.out.at
         have g0 : decide ((dn.length : Int) ≥ 0) = true := dTz (by omega)
         have d0 : 0 ≤ (dn.length : Int) := by omega
         have d1 : (dn.length : Int) < (L.length : Int) := by omega
         have HSR : Az (-2147483648 ≤ s ∧ s ≤ 2147483647) := ⟨by rw [← hrd]; exact HLR.out.rd dn.length hdl⟩
         obtain ⟨gg, hg, hge⟩ := own_some HO.out (by omega)
         subst hg
         have HO3 := Az.mk (own_up HO.out HV3.out)
         obtain ⟨q1, q2⟩ := own_at HO3.out hdl
         rw [hrd] at q1
         have HTL : Az ((!b) = tl.all (fun z => decide (classF T z < classF T c'))) := ⟨by
          have h1 := HFD.out
          have h2 : L.drop f = tl := by rw [HC.out.l, show f = dn.length + 1 by omega, List.drop_append]; simp
          rw [HBA.out, h2, any_all, HM.out, ← HCL.out]
          rfl⟩
         have HTD : Az (decide (t < classF T c') = !b) := ⟨by rw [HTL.out, ← HC.out.t]; exact topF_lt _ _ (by rw [HM.out]; exact HM0.out) tl⟩
         have HGE := Az.mk hge
         have HDL := Az.mk hdl
         clear hdl
         clear hrd q2 hge
         cases b with
         | true =>
           have HNN : Az (¬ (t < classF T c' ∧ (compF T s c').2 = true)) := ⟨fun h => by have := HTD.out; rw [dTz h.1] at this; cases this⟩
           by_cases hz : m = 0
           ·have e0 : (m == 0) = true := beq_iff_eq.mpr hz
            have HZ := Az.mk hz
            clear hz
            go_wp2_with (first | (at_builtin; refine (wpList_append_row _ rfl _ _ 23 rfl w.heap.size 21 ie ze 1 4 Tryz.underlying23 hie hze hsi hby hzc (by decide) (.slice (some ⟨gg, 0, none⟩) L.length cy) L.length (L.map (Value.int .i32)) rfl (HO3.out.alloc _) (some ⟨w3.heap.size, 0, none⟩) 1 1 (([c'] : List Int).map (Value.int .i32)) rfl rfl (ints_new w3 [c']) (ints_one _ _) ?ha ?hb ?hc ?_); (case ha => exact MA.out.1); (case hb => exact MA.out.2); (case hc => exact (up_alloc HU3.out _).size); intro v' w4 hown hgrow hat; have HO4 : Az (w4.ownsRow w.heap.size 21 1 v' (L.length + 1) ((L ++ [c']).map (Value.int .i32))) := ⟨(congrArg (fun t => w4.ownsRow w.heap.size 21 1 v' (L.length + 1) t) (List.map_append (f := Value.int .i32) (l₁ := L) (l₂ := [c']))).mpr hown⟩; have HU4 := Az.mk ((up_alloc HU3.out (.cells #[.int .i32 c'] 21)).grown hgrow (up_alloc HU3.out (.cells #[.int .i32 c'] 21)).size (fun k hk => ((HO3.out.lt k hk).1))); obtain ⟨A4, c4, hv⟩ := own_any HO4.out; subst hv; clear hown hgrow hat))
            go_roundg k
            case measure => omega
            case rel => exact ⟨i + 1, dn ++ s :: tl, [], L ++ [c'], some c', A4, c4, (L.length : Int), -1, by go_num, by simp, by simp, ⟨by have := HI.out; omega⟩, ⟨HC.out.some_zero HDR.out HNN.out (by rw [HM.out]; exact HM0.out) (HM.out.trans HZ.out)⟩, ⟨inI32_snoc HLR.out HCR.out⟩, ⟨by simpa using HO4.out⟩, HU4⟩
           ·have e0 : (m == 0) = false := bqf hz
            have HZ := Az.mk hz
            clear hz
            go_wp2_with (first | (at_builtin; refine (wpList_append_row _ rfl _ _ 23 rfl w.heap.size 21 ie ze 1 4 Tryz.underlying23 hie hze hsi hby hzc (by decide) (.slice (some ⟨gg, 0, none⟩) L.length cy) L.length (L.map (Value.int .i32)) rfl (HO3.out.alloc _) (some ⟨w3.heap.size, 0, none⟩) 1 1 (([c'] : List Int).map (Value.int .i32)) rfl rfl (ints_new w3 [c']) (ints_one _ _) ?ha ?hb ?hc ?_); (case ha => exact MA.out.1); (case hb => exact MA.out.2); (case hc => exact (up_alloc HU3.out _).size); intro v' w4 hown hgrow hat; have HO4 : Az (w4.ownsRow w.heap.size 21 1 v' (L.length + 1) ((L ++ [c']).map (Value.int .i32))) := ⟨(congrArg (fun t => w4.ownsRow w.heap.size 21 1 v' (L.length + 1) t) (List.map_append (f := Value.int .i32) (l₁ := L) (l₂ := [c']))).mpr hown⟩; have HU4 := Az.mk ((up_alloc HU3.out (.cells #[.int .i32 c'] 21)).grown hgrow (up_alloc HU3.out (.cells #[.int .i32 c'] 21)).size (fun k hk => ((HO3.out.lt k hk).1))); obtain ⟨A4, c4, hv⟩ := own_any HO4.out; subst hv; clear hown hgrow hat))
            go_roundg k
            case measure => omega
            case rel => exact ⟨i + 1, dn, tl ++ [c'], L ++ [c'], some s, A4, c4, (dn.length : Int), _, by go_num, by simp, by simp, ⟨by have := HI.out; omega⟩, ⟨HC.out.some_mark HDR.out HNN.out (by rw [HM.out]; exact HM0.out) (fun h => HZ.out (HM.out.symm.trans h))⟩, ⟨inI32_snoc HLR.out HCR.out⟩, ⟨by simpa using HO4.out⟩, HU4⟩
         | false =>
           have hlt9 : t < classF T c' := of_decide_eq_true HTD.out
           have HT9 := Az.mk hlt9
           obtain ⟨p, ok, hpk⟩ : ∃ p ok, compF T s c' = (p, ok) := ⟨_, _, rfl⟩
           have HPK := Az.mk hpk
           have HCM := Az.mk (TabC (HT.out.up HU3.out) ct s c' p ok hpk HSR.out HCR.out)
           clear hlt9 hpk
           cases ok with
           | true =>
             have HPR := Az.mk (comp_range HT.out.fine HPK.out)
             have HCC := Az.mk (HC.out.comp HDR.out HT9.out (by rw [HM.out]; exact HM0.out) (by rw [HPK.out]))
             clear g0
             go_wp2_with (first | (go_at_call 91; (with_reducible refine HCM.out.mono ?_); rintro e w5 ⟨rfl, hup⟩; have HU5 := Az.mk (up_trans HU3.out hup); have HV5 := Az.mk (up_trans HV3.out hup); have HO5 := Az.mk (own_up HO3.out hup); obtain ⟨x1, x2⟩ := own_at HO5.out HDL.out; clear hup))
             have HO6 := Az.mk (own_put HO5.out dn.length p)
             have HU6 : Az (Up w (w5.setCell ⟨gg, dn.length, none⟩ (.int .i32 p))) := ⟨HU5.out.setCell HGE.out _⟩
             go_roundg k
             case measure => omega
             case rel =>
              have e := HCC.out
              rw [HPK.out] at e
              exact ⟨i + 1, dn, tl, L.set dn.length p, some p, _, _, _, t, by go_num, by rw [List.length_set], rfl, ⟨by have := HI.out; omega⟩, ⟨e⟩, ⟨inI32_put HLR.out HPR.out⟩, ⟨by rw [List.length_set]; exact HO6.out⟩, HU6⟩
           | false =>
             have HNN : Az (¬ (t < classF T c' ∧ (compF T s c').2 = true)) := ⟨by rw [HPK.out]; exact fun h => by cases h.2⟩
             by_cases hz : m = 0
             ·have e0 : (m == 0) = true := beq_iff_eq.mpr hz
              have HZ := Az.mk hz
              clear hz
              go_wp2_with (first | (at_builtin; refine (wpList_append_row _ rfl _ _ 23 rfl w.heap.size 21 ie ze 1 4 Tryz.underlying23 hie hze hsi hby hzc (by decide) (.slice (some ⟨gg, 0, none⟩) L.length cy) L.length (L.map (Value.int .i32)) rfl (HO5.out.alloc _) (some ⟨w5.heap.size, 0, none⟩) 1 1 (([c'] : List Int).map (Value.int .i32)) rfl rfl (ints_new w5 [c']) (ints_one _ _) ?ha ?hb ?hc ?_); (case ha => exact MA.out.1); (case hb => exact MA.out.2); (case hc => exact (up_alloc HU5.out _).size); intro v' w4 hown hgrow hat; have HO4 : Az (w4.ownsRow w.heap.size 21 1 v' (L.length + 1) ((L ++ [c']).map (Value.int .i32))) := ⟨(congrArg (fun t => w4.ownsRow w.heap.size 21 1 v' (L.length + 1) t) (List.map_append (f := Value.int .i32) (l₁ := L) (l₂ := [c']))).mpr hown⟩; have HU4 := Az.mk ((up_alloc HU5.out (.cells #[.int .i32 c'] 21)).grown hgrow (up_alloc HU5.out (.cells #[.int .i32 c'] 21)).size (fun k hk => ((HO5.out.lt k hk).1))); obtain ⟨A4, c4, hv⟩ := own_any HO4.out; subst hv; clear hown hgrow hat) | (go_at_call 91; (with_reducible refine HCM.out.mono ?_); rintro e w5 ⟨rfl, hup⟩; have HU5 := Az.mk (up_trans HU3.out hup); have HV5 := Az.mk (up_trans HV3.out hup); have HO5 := Az.mk (own_up HO3.out hup); obtain ⟨x1, x2⟩ := own_at HO5.out HDL.out; clear hup))
              go_roundg k
              case measure => omega
              case rel => exact ⟨i + 1, dn ++ s :: tl, [], L ++ [c'], some c', A4, c4, (L.length : Int), -1, by go_num, by simp, by simp, ⟨by have := HI.out; omega⟩, ⟨HC.out.some_zero HDR.out HNN.out (by rw [HM.out]; exact HM0.out) (HM.out.trans HZ.out)⟩, ⟨inI32_snoc HLR.out HCR.out⟩, ⟨by simpa using HO4.out⟩, HU4⟩
             ·have e0 : (m == 0) = false := bqf hz
              have HZ := Az.mk hz
              clear hz
              go_wp2_with (first | (at_builtin; refine (wpList_append_row _ rfl _ _ 23 rfl w.heap.size 21 ie ze 1 4 Tryz.underlying23 hie hze hsi hby hzc (by decide) (.slice (some ⟨gg, 0, none⟩) L.length cy) L.length (L.map (Value.int .i32)) rfl (HO5.out.alloc _) (some ⟨w5.heap.size, 0, none⟩) 1 1 (([c'] : List Int).map (Value.int .i32)) rfl rfl (ints_new w5 [c']) (ints_one _ _) ?ha ?hb ?hc ?_); (case ha => exact MA.out.1); (case hb => exact MA.out.2); (case hc => exact (up_alloc HU5.out _).size); intro v' w4 hown hgrow hat; have HO4 : Az (w4.ownsRow w.heap.size 21 1 v' (L.length + 1) ((L ++ [c']).map (Value.int .i32))) := ⟨(congrArg (fun t => w4.ownsRow w.heap.size 21 1 v' (L.length + 1) t) (List.map_append (f := Value.int .i32) (l₁ := L) (l₂ := [c']))).mpr hown⟩; have HU4 := Az.mk ((up_alloc HU5.out (.cells #[.int .i32 c'] 21)).grown hgrow (up_alloc HU5.out (.cells #[.int .i32 c'] 21)).size (fun k hk => ((HO5.out.lt k hk).1))); obtain ⟨A4, c4, hv⟩ := own_any HO4.out; subst hv; clear hown hgrow hat) | (go_at_call 91; (with_reducible refine HCM.out.mono ?_); rintro e w5 ⟨rfl, hup⟩; have HU5 := Az.mk (up_trans HU3.out hup); have HV5 := Az.mk (up_trans HV3.out hup); have HO5 := Az.mk (own_up HO3.out hup); obtain ⟨x1, x2⟩ := own_at HO5.out HDL.out; clear hup))
              go_roundg k
              case measure => omega
              case rel => exact ⟨i + 1, dn, tl ++ [c'], L ++ [c'], some s, A4, c4, (dn.length : Int), _, by go_num, by simp, by simp, ⟨by have := HI.out; omega⟩, ⟨HC.out.some_mark HDR.out HNN.out (by rw [HM.out]; exact HM0.out) (fun h => HZ.out (HM.out.symm.trans h))⟩, ⟨inI32_snoc HLR.out HCR.out⟩, ⟨by simpa using HO4.out⟩, HU4⟩
end
end Go.Proofs.YtnohcnneflogjaaGreat.M.Nm
namespace Go.Proofs.YtnohcnneflogjaaGreat.M.Nm
open Go.Shelf Go.RowKit Go.Lib Go.Sort St
theorem whole13_calls (A B : Option Addr) (c k : Nat) (s : List Int) (n : Nat) (hn : s.length = n) (w : World) (hI : Ints .i32 w A (s ++ [-7, -8])) (hc : n + 2 ≤ c) (hJ : Ints .i32 w B s) (hk : n ≤ k) (hl : n ≤ 100000) :
 Calls Tryz.prog 50 #[.slice A n c, .slice B n k] w fun e w' => e = .returned (.bool true) ∧ Up w w' := by
 obtain ⟨ad, hA, y1⟩ := hI.at_ (n : Int) (by omega) (by rw [List.length_append]; simp; omega)
 obtain ⟨ad', hA', y2⟩ := hI.at_ ((n + 1 : Nat) : Int) (by omega) (by rw [List.length_append]; simp; omega)
 rw [hA] at hA'
 cases hA'
 rw [Int.toNat_natCast] at y1 y2
 have e1 : rd (s ++ [-7, -8]) (n : Int) = -7 := by subst hn; rw [rd_get _ _ (by simp), List.getElem_append_right (by omega)]; simp
 have e2 : rd (s ++ [-7, -8]) ((n + 1 : Nat) : Int) = -8 := by subst hn; rw [rd_get _ _ (by simp), List.getElem_append_right (by omega)]; simp
 rw [e1] at y1
 rw [e2] at y2
 have HI : Az (Ints .i32 w A s) := ⟨by
  have := ints_take12 hI n
  rwa [List.take_left' hn] at this⟩
 have HJ := Az.mk hJ
 have HY1 := Az.mk y1
 have HY2 := Az.mk y2
 have HSB : Az (s.length ≤ 35184372087808) := ⟨by omega⟩
 have HSS : Az ((s == s) = true) := ⟨by simp⟩
 have HN := Az.mk hn
 have a1 : 0 ≤ (n : Int) := by omega
 have a2 : (n : Int) ≤ (k : Int) := by omega
 have a3 : (n : Int) + 2 ≤ (c : Int) := by omega
 have a4 : (n : Int) < (n : Int) + 2 := by omega
 have a5 : 0 ≤ (n : Int) + 1 := by omega
 have a6 : (n : Int) + 1 < (n : Int) + 2 := by omega
 have a7 : 0 ≤ (n : Int) + 2 := by omega
 have b1 : IntKind.i64.wrap ((n : Int) + 2) = (n : Int) + 2 := by rw [IntKind.wrap_i64]; omega
 have b2 : IntKind.i64.wrap ((n : Int) + 1) = (n : Int) + 1 := by rw [IntKind.wrap_i64]; omega
 have hnn : (n : Int) ≤ 100000 := by omega
 subst hA
 clear hI hJ e1 e2 y1 y2 hn hl
 go_enter Tryz.func50, Tryz.ntmps50
 go_wp2_with (first | (go_at_call 26; (with_reducible refine (SameN_calls _ B n n c k s s _ HI.out HJ.out HN.out HN.out (by have := HSB.out; have := HN.out; omega) (by have := HSB.out; have := HN.out; omega) true HSS.out).mono ?_); rintro e w1 ⟨rfl, hup⟩; have HU := Az.mk hup; have y1 := up_cell hup HY1.out; have y2 := up_cell hup HY2.out; have y3 : w1.cell? ⟨ad.block, ad.off + (n + 1), none⟩ = some (.int .i32 (-8)) := y2; clear hup))
 go_ret
 exact ⟨rfl, HU.out⟩
theorem RNFC13_calls {w : World} {At : Option Addr} {T : List Rec} (hT : TabAt w At T) (ct : Nat) (A : Option Addr) (c : Nat) (x : List Int) (hI : Ints .i32 w A x) (hr : InI32 x) (hx : x.length ≤ 65536) (ys : List Int) (hys : nfcF T x = ys) :
 Calls Tryz.prog 49 #[.slice At T.length ct, .slice A x.length c] w (RetRow ys w) := by
 obtain ⟨q, hq⟩ : ∃ q, nfdF T x = q := ⟨_, rfl⟩
 have HQR : Az (InI32 q) := ⟨by rw [← hq]; exact sortF_range T (openX_range hT.fine hT.fine.wf hr)⟩
 have HQL : Az (q.length ≤ 10000000) := ⟨by rw [← hq]; exact nfc_small hT.fine hx⟩
 have HYS : Az (composeF T q = ys) := ⟨by rw [← hq]; exact hys⟩
 have HO := Az.mk (RNFD12_calls hT ct A c x hI hr (by omega) q hq)
 have HT := Az.mk hT
 clear hT hI hr hx hq hys
 go_enter Tryz.func49, Tryz.ntmps49
 go_wp2_with (first | (go_at_call 34; (with_reducible refine HO.out.mono ?_); rintro e w1 ⟨v1, rfl, hown1, hup1⟩; obtain ⟨A1, c1, hv1, hi1, _⟩ := own_ints hown1; subst hv1; have HU1 := Az.mk hup1; have HI1 := Az.mk hi1; clear hown1 hup1 hi1) |
  (go_at_call 48; (with_reducible refine (RCompose13_calls (HT.out.up HU1.out) ct A1 c1 q HI1.out HQR.out HQL.out ys HYS.out).mono ?_); rintro e w2 ⟨v2, rfl, hown2, hup2⟩))
 go_ret
 exact ⟨_, rfl, own_base hown2 HU1.out.size, up_trans HU1.out hup2⟩
end Go.Proofs.YtnohcnneflogjaaGreat.M.Nm
namespace Go.Proofs.YtnohcnneflogjaaGreat.M.Nm
open Go.Shelf Go.RowKit Go.Lib Go.Sort St
theorem again_two {T : List Rec} {c a b p : Int} {ok : Bool} (h : openF T c = [a, b]) (hc : compF T a b = (p, ok)) : againF T c = (ok && decide (p = c)) := by
 unfold againF
 rw [h]
 show ((compF T a b).2 && decide ((compF T a b).1 = c)) = _
 rw [hc]
theorem again_len {T : List Rec} {c : Int} (h2 : (openF T c).length ≠ 2) : againF T c = false := by
 unfold againF
 split
 ·rename_i a b hab
  rw [hab] at h2
  exact absurd rfl h2
 ·rfl
theorem worst_top (T : List Rec) : ∀ x, worstF T x 2 = 2
 | [] => rfl
 | c :: x => by
   show worstF T x (max 2 (foundF T c)) = 2
   rw [show max 2 (foundF T c) = 2 by have := foundF_cases T c; omega]
   exact worst_top T x
theorem worst_bad {T : List Rec} {c : Int} (h : badF T c = true) (x : List Int) (m : Int) (hm : m ≤ 2) : worstF T (c :: x) m = 2 := by
 show worstF T x (max m (foundF T c)) = 2
 rw [show foundF T c = 2 by unfold foundF; rw [h]; rfl, show max m 2 = 2 by omega]
 exact worst_top T x
section
variable {w : World} {At : Option Addr} {T : List Rec}
theorem againR_calls (hT : TabAt w At T) (ct : Nat) (c : Int) (hc : -2147483648 ≤ c ∧ c ≤ 2147483647) (b : Bool) (hb : againF T c = b) :
 Calls Tryz.prog 96 #[.slice At T.length ct, .int .i32 c] w fun e w' => e = .returned (.bool b) ∧ Up w w' := by
 obtain ⟨l, hl⟩ : ∃ l, openF T c = l := ⟨_, rfl⟩
 have HO := Az.mk (TabO hT ct c l hl hc)
 have HLR : Az (InI32 l) := ⟨open_range hT.fine hl hc⟩
 have HT := Az.mk hT
 by_cases h2 : l.length = 2
 ·obtain ⟨a, d, rfl⟩ := two_list h2
  obtain ⟨p, ok, hpk⟩ : ∃ p ok, compF T a d = (p, ok) := ⟨_, _, rfl⟩
  rw [again_two hl hpk] at hb
  have HPK := Az.mk hpk
  have HB := Az.mk hb
  have HAR : Az (-2147483648 ≤ a ∧ a ≤ 2147483647) := ⟨HLR.out a (by simp)⟩
  have HDR : Az (-2147483648 ≤ d ∧ d ≤ 2147483647) := ⟨HLR.out d (by simp)⟩
  clear hl h2 hpk hb hT hc
  cases ok with
  | false =>
    go_enter Tryz.func96, Tryz.ntmps96
    go_wp2_with (first | (go_at_call 95; (with_reducible refine HO.out.mono ?_); rintro e w1 ⟨v1, rfl, hown, hup⟩; obtain ⟨A1, c1, hv, hi, _⟩ := own_ints hown; subst hv; have HU1 := Az.mk hup; obtain ⟨ad, hA, ya⟩ := hi.at_ 0 (by omega) (by simp); obtain ⟨ad', hA', yb⟩ := hi.at_ 1 (by omega) (by simp); have hyy : w1.cell? ad = some (.int .i32 a) ∧ w1.cell? ⟨ad.block, ad.off + 1, none⟩ = some (.int .i32 d) := (by rw [hA] at hA'; cases hA'; exact ⟨(by cases ad; exact ya), yb⟩); have HYY := Az.mk hyy; subst hA; clear hA' ya yb hyy; clear hown hup hi))
    have HS1 : Az (∀ W, Up w1 W → (fun w' => w'.cell? ad = some (.int .i32 a) ∧ w'.cell? ⟨ad.block, ad.off + 1, none⟩ = some (.int .i32 d)) W) := ⟨fun W hW => ⟨up_cell hW HYY.out.1, up_cell hW HYY.out.2⟩⟩
    go_region_held3 (fun w' => w'.cell? ad = some (.int .i32 a) ∧ w'.cell? ⟨ad.block, ad.off + 1, none⟩ = some (.int .i32 d)) (first | exact HS1.out _ (up_drew (up_refl _)) | exact HS1.out _ HV2.out) (first | (go_at_call 91; (with_reducible refine (TabC (HT.out.up (up_drew HU1.out)) ct a d p _ HPK.out HAR.out HDR.out).mono ?_); rintro e w2 ⟨rfl, hup⟩; have HU2 := Az.mk (up_trans (up_drew HU1.out) hup); have HV2 := Az.mk (up_trans (up_drew (up_refl w1)) hup); clear hup))
    go_wp2
    go_ret
    exact ⟨by rw [← HB.out]; rfl, HU2.out⟩
  | true =>
    by_cases hpc : p = c
    ·have e1 : (p == c) = true := beq_iff_eq.mpr hpc
     have HC := Az.mk hpc
     clear hpc
     go_enter Tryz.func96, Tryz.ntmps96
     go_wp2_with (first | (go_at_call 95; (with_reducible refine HO.out.mono ?_); rintro e w1 ⟨v1, rfl, hown, hup⟩; obtain ⟨A1, c1, hv, hi, _⟩ := own_ints hown; subst hv; have HU1 := Az.mk hup; obtain ⟨ad, hA, ya⟩ := hi.at_ 0 (by omega) (by simp); obtain ⟨ad', hA', yb⟩ := hi.at_ 1 (by omega) (by simp); have hyy : w1.cell? ad = some (.int .i32 a) ∧ w1.cell? ⟨ad.block, ad.off + 1, none⟩ = some (.int .i32 d) := (by rw [hA] at hA'; cases hA'; exact ⟨(by cases ad; exact ya), yb⟩); have HYY := Az.mk hyy; subst hA; clear hA' ya yb hyy; clear hown hup hi))
     have HS1 : Az (∀ W, Up w1 W → (fun w' => w'.cell? ad = some (.int .i32 a) ∧ w'.cell? ⟨ad.block, ad.off + 1, none⟩ = some (.int .i32 d)) W) := ⟨fun W hW => ⟨up_cell hW HYY.out.1, up_cell hW HYY.out.2⟩⟩
     go_region_held3 (fun w' => w'.cell? ad = some (.int .i32 a) ∧ w'.cell? ⟨ad.block, ad.off + 1, none⟩ = some (.int .i32 d)) (first | exact HS1.out _ (up_drew (up_refl _)) | exact HS1.out _ HV2.out) (first | (go_at_call 91; (with_reducible refine (TabC (HT.out.up (up_drew HU1.out)) ct a d p _ HPK.out HAR.out HDR.out).mono ?_); rintro e w2 ⟨rfl, hup⟩; have HU2 := Az.mk (up_trans (up_drew HU1.out) hup); have HV2 := Az.mk (up_trans (up_drew (up_refl w1)) hup); clear hup))
     go_wp2
     go_ret
     exact ⟨by rw [← HB.out, dTz HC.out]; rfl, HU2.out⟩
    ·have e1 : (p == c) = false := bqf hpc
     have HC := Az.mk hpc
     clear hpc
     go_enter Tryz.func96, Tryz.ntmps96
     go_wp2_with (first | (go_at_call 95; (with_reducible refine HO.out.mono ?_); rintro e w1 ⟨v1, rfl, hown, hup⟩; obtain ⟨A1, c1, hv, hi, _⟩ := own_ints hown; subst hv; have HU1 := Az.mk hup; obtain ⟨ad, hA, ya⟩ := hi.at_ 0 (by omega) (by simp); obtain ⟨ad', hA', yb⟩ := hi.at_ 1 (by omega) (by simp); have hyy : w1.cell? ad = some (.int .i32 a) ∧ w1.cell? ⟨ad.block, ad.off + 1, none⟩ = some (.int .i32 d) := (by rw [hA] at hA'; cases hA'; exact ⟨(by cases ad; exact ya), yb⟩); have HYY := Az.mk hyy; subst hA; clear hA' ya yb hyy; clear hown hup hi))
     have HS1 : Az (∀ W, Up w1 W → (fun w' => w'.cell? ad = some (.int .i32 a) ∧ w'.cell? ⟨ad.block, ad.off + 1, none⟩ = some (.int .i32 d)) W) := ⟨fun W hW => ⟨up_cell hW HYY.out.1, up_cell hW HYY.out.2⟩⟩
     go_region_held3 (fun w' => w'.cell? ad = some (.int .i32 a) ∧ w'.cell? ⟨ad.block, ad.off + 1, none⟩ = some (.int .i32 d)) (first | exact HS1.out _ (up_drew (up_refl _)) | exact HS1.out _ HV2.out) (first | (go_at_call 91; (with_reducible refine (TabC (HT.out.up (up_drew HU1.out)) ct a d p _ HPK.out HAR.out HDR.out).mono ?_); rintro e w2 ⟨rfl, hup⟩; have HU2 := Az.mk (up_trans (up_drew HU1.out) hup); have HV2 := Az.mk (up_trans (up_drew (up_refl w1)) hup); clear hup))
     go_wp2
     go_ret
     exact ⟨by rw [← HB.out, dFz HC.out]; rfl, HU2.out⟩
 ·rw [again_len (by rw [hl]; exact h2)] at hb
  subst hb
  have e0 : ((l.length : Int) == 2) = false := bqf (by omega)
  have e1 : ((l.length : Int) != 2) = true := bne_iff_ne.mpr (by omega)
  clear hl hT hc
  go_enter Tryz.func96, Tryz.ntmps96
  go_wp2_with (first | (go_at_call 95; (with_reducible refine HO.out.mono ?_); rintro e w1 ⟨v1, rfl, hown, hup⟩; obtain ⟨A1, c1, hv, hi, _⟩ := own_ints hown; subst hv; have HU1 := Az.mk hup; clear hown hup hi))
  go_ret
  exact ⟨rfl, HU1.out⟩
theorem found_eq (T : List Rec) (d z : Int) (u : List Int) (h : fullL T d = z :: u) (b2 : Bool) (hb : secondF T z = b2) : foundF T d = if badF T d then 2 else if b2 then 1 else 0 := by
 unfold foundF
 rw [h, show rd (z :: u) 0 = z from rfl, hb]
theorem full_head (hF : Fine T) (c : Int) (hc : -2147483648 ≤ c ∧ c ≤ 2147483647) : ∃ z u, fullL T c = z :: u ∧ (-2147483648 ≤ z ∧ z ≤ 2147483647) := by
 cases hf : fullL T c with
 | nil => exact absurd hf (hF.full_shut c).2
 | cons z u =>
   refine ⟨z, u, rfl, ?_⟩
   have := openX_range hF hF.wf (x := [c]) (fun y hy => by rw [List.mem_singleton.1 hy]; exact hc)
   exact this z (by unfold openX; simp [hf])
theorem RQuick_calls (hT : TabAt w At T) (ct : Nat) (A : Option Addr) (c : Nat) (x : List Int) (n : Nat) (hn : x.length = n) (hI : Ints .i32 w A x) (hr : InI32 x) (hx : x.length ≤ 65536) (q : Int) (hq : quickF T x = q) :
 Calls Tryz.prog 59 #[.slice At T.length ct, .slice A n c] w fun e w' => e = .returned (.int .i64 q) ∧ Up w w' := by
 subst hn
 obtain ⟨b, hb⟩ : ∃ b, sortedG (numF T 2 (·.n)) 0 x = b := ⟨_, rfl⟩
 have HSC : Az (∀ W, Up w W → Calls Tryz.prog 36 #[.slice At T.length ct, .slice A x.length c] W fun e w' => e = .returned (.bool b) ∧ Up W w') := ⟨fun W hW => RSorted12_calls (hT.up hW) ct A c x (hI.up hW) hr (by omega) b hb⟩
 unfold quickF at hq
 rw [hb] at hq
 have HQ := Az.mk hq
 have HT := Az.mk hT
 have HX := Az.mk hI
 have HR := Az.mk hr
 have HXL := Az.mk hx
 clear hT hI hr hx hq hb
 go_enter Tryz.func59, Tryz.ntmps59
 go_wp2
 go_loopg [5, 6] x.length (fun k v5 v6 wr => ∃ (i : Nat) (a : Int), v6 = .int .i64 i ∧ v5 = .int .i64 a ∧ Az (i + k = x.length ∧ (a = 2 ∨ a = 1)) ∧ Az (worstF T (x.drop i) (2 - a) = worstF T x 0) ∧ Az (Up w wr))
 case atStart => exact ⟨0, 2, rfl, rfl, ⟨Nat.zero_add _, by simp⟩, ⟨rfl⟩, ⟨up_refl _⟩⟩
 case round =>
  obtain ⟨i, a, rfl, rfl, HI, HW, HU⟩ := hrel
  cases gk with
  | zero =>
    have hlt : decide ((i : Int) < (x.length : Int)) = false := dFz (by have := HI.out; omega)
    have hlt1 : ¬ (i < x.length) := by have := HI.out; omega
    have HE : Az (worstF T x 0 = 2 - a) := ⟨by
     have e := HW.out
     rw [List.drop_eq_nil_of_le (by omega)] at e
     exact e.symm⟩
    cases b with
    | true =>
      have HF2 : Az (2 - worstF T x 0 = q) := ⟨HQ.out⟩
      go_wp2_with (first | (go_at_call 36; (with_reducible refine (HSC.out _ HU.out).mono ?_); rintro e w1 ⟨rfl, hup⟩; have HU1 := Az.mk (up_trans HU.out hup); clear hup))
      go_ret
      exact ⟨by rw [← HF2.out, HE.out, show 2 - (2 - a) = a by omega]; rfl, HU1.out⟩
    | false =>
      have HF2 : Az (2 - worstF T x 2 = q) := ⟨HQ.out⟩
      go_wp2_with (first | (go_at_call 36; (with_reducible refine (HSC.out _ HU.out).mono ?_); rintro e w1 ⟨rfl, hup⟩; have HU1 := Az.mk (up_trans HU.out hup); clear hup))
      go_ret
      exact ⟨by rw [← HF2.out, worst_top]; rfl, HU1.out⟩
  | succ k =>
    have hi : i < x.length := by have := HI.out; omega
    have hlt : decide ((i : Int) < (x.length : Int)) = true := dTz (by omega)
    have z1 : (i : Int) < (x.length : Int) := by omega
    have z2 : (i : Int) < 100000 := by have := HXL.out; omega
    obtain ⟨ad, hA, y1⟩ := HX.out.at_ i (by omega) z1
    have y2 := up_cell HU.out y1
    rw [Int.toNat_natCast] at y2
    subst hA
    clear y1
    obtain ⟨d, hd⟩ : ∃ d, x[i] = d := ⟨_, rfl⟩
    rw [rd_elem x i hi, hd] at y2
    have HDR : Az (-2147483648 ≤ d ∧ d ≤ 2147483647) := ⟨HR.out d (by rw [← hd]; exact List.getElem_mem _)⟩
    have HDD : Az (x.drop i = d :: x.drop (i + 1)) := ⟨by rw [List.drop_eq_getElem_cons hi, hd]⟩
    obtain ⟨l, hl⟩ : ∃ l, openF T d = l := ⟨_, rfl⟩
    obtain ⟨g, hg⟩ : ∃ g, againF T d = g := ⟨_, rfl⟩
    obtain ⟨z, u, hfu, hzr⟩ := full_head HT.out.fine d HDR.out
    obtain ⟨b2, hb2⟩ : ∃ b2, secondF T z = b2 := ⟨_, rfl⟩
    have HL := Az.mk hl
    have HG := Az.mk hg
    have HFU := Az.mk hfu
    have HZR := Az.mk hzr
    have HB2 := Az.mk hb2
    have HBD : Az (badF T d = (!(l == []) && !g)) := ⟨by unfold badF; rw [hl, hg]⟩
    have HY := Az.mk y2
    have HOC := Az.mk (TabO (HT.out.up HU.out) ct d l hl HDR.out)
    have NX : Az (badF T d = false → ∀ W a', a' = (if b2 then 1 else a) → Up w W → ∃ (i' : Nat) (a'' : Int), Value.int .i64 ((i : Int) + 1) = .int .i64 i' ∧ Value.int .i64 a' = .int .i64 a'' ∧ Az (i' + k = x.length ∧ (a'' = 2 ∨ a'' = 1)) ∧ Az (worstF T (x.drop i') (2 - a'') = worstF T x 0) ∧ Az (Up w W)) := ⟨fun hbd W a' ha' hW => by
     refine ⟨i + 1, a', by go_num, rfl, ⟨by have := HI.out; omega, ?_⟩, ⟨?_⟩, ⟨hW⟩⟩
     ·have := HI.out.2
      subst ha'
      cases b2
      ·exact this
      ·exact .inr rfl
     ·rw [← HW.out, HDD.out]
      show _ = worstF T (x.drop (i + 1)) (max (2 - a) (foundF T d))
      rw [found_eq T d z u HFU.out b2 HB2.out, hbd, ha']
      have := HI.out.2
      congr 1
      cases b2 <;> simp <;> omega⟩
    clear hd hl hg hfu hzr hb2 hi
    by_cases hl0 : l = []
    ·subst hl0
     have HBF : Az (badF T d = false) := ⟨HBD.out⟩
     cases b2 with
     | true =>
       go_wp2_with (first | (go_at_call 95; (with_reducible refine HOC.out.mono ?_); rintro e w1 ⟨v1, rfl, hown, hup⟩; obtain ⟨A1, c1, hv, hi, _⟩ := own_ints hown; subst hv; have HU1 := Az.mk (up_trans HU.out hup); have yA := up_cell hup HY.out; have HUA := HU1; clear hown hup hi) | (go_at_call 30; (with_reducible refine ((HT.out.up HUA.out).Full ct d (z :: u) HFU.out HDR.out).mono ?_); rintro e w3 ⟨v3, rfl, hown, hup⟩; obtain ⟨A3, c3, hv, hi, _⟩ := own_ints hown; subst hv; have HU3 := Az.mk (up_trans HUA.out hup); obtain ⟨adz, hAz, yz⟩ := hi.at_ 0 (by omega) (by simp); have yz2 : w3.cell? adz = some (.int .i32 z) := (by cases adz; exact yz); subst hAz; clear hown hup hi yz) | (go_at_call 97; (with_reducible refine (TabS (HT.out.up HU3.out) ct z _ HB2.out HZR.out).mono ?_); rintro e w4 ⟨rfl, hup⟩; have HU4 := Az.mk (up_trans HU3.out hup); clear hup))
       go_roundg k
       case measure => omega
       case rel => exact NX.out HBF.out _ 1 rfl HU4.out
     | false =>
       go_wp2_with (first | (go_at_call 95; (with_reducible refine HOC.out.mono ?_); rintro e w1 ⟨v1, rfl, hown, hup⟩; obtain ⟨A1, c1, hv, hi, _⟩ := own_ints hown; subst hv; have HU1 := Az.mk (up_trans HU.out hup); have yA := up_cell hup HY.out; have HUA := HU1; clear hown hup hi) | (go_at_call 30; (with_reducible refine ((HT.out.up HUA.out).Full ct d (z :: u) HFU.out HDR.out).mono ?_); rintro e w3 ⟨v3, rfl, hown, hup⟩; obtain ⟨A3, c3, hv, hi, _⟩ := own_ints hown; subst hv; have HU3 := Az.mk (up_trans HUA.out hup); obtain ⟨adz, hAz, yz⟩ := hi.at_ 0 (by omega) (by simp); have yz2 : w3.cell? adz = some (.int .i32 z) := (by cases adz; exact yz); subst hAz; clear hown hup hi yz) | (go_at_call 97; (with_reducible refine (TabS (HT.out.up HU3.out) ct z _ HB2.out HZR.out).mono ?_); rintro e w4 ⟨rfl, hup⟩; have HU4 := Az.mk (up_trans HU3.out hup); clear hup))
       go_roundg k
       case measure => omega
       case rel => exact NX.out HBF.out _ a rfl HU4.out
    ·have hlp : 0 < l.length := List.length_pos_iff.2 hl0
     have g0 : decide ((l.length : Int) > 0) = true := dTz (by omega)
     have HL0 : Az ((l == []) = false) := ⟨beq_eq_false_iff_ne.2 hl0⟩
     clear hl0
     cases g with
     | true =>
       have HBF : Az (badF T d = false) := ⟨by rw [HBD.out]; simp⟩
       cases b2 with
       | true =>
         go_wp2_with (first | (go_at_call 95; (with_reducible refine HOC.out.mono ?_); rintro e w1 ⟨v1, rfl, hown, hup⟩; obtain ⟨A1, c1, hv, hi, _⟩ := own_ints hown; subst hv; have HU1 := Az.mk (up_trans HU.out hup); have yA := up_cell hup HY.out; clear hown hup hi) | (go_at_call 96; (with_reducible refine (againR_calls (HT.out.up HU1.out) ct d HDR.out _ HG.out).mono ?_); rintro e w2 ⟨rfl, hup⟩; have HU2 := Az.mk (up_trans HU1.out hup); have yB := up_cell hup yA; have HUA := HU2; clear hup) | (go_at_call 30; (with_reducible refine ((HT.out.up HUA.out).Full ct d (z :: u) HFU.out HDR.out).mono ?_); rintro e w3 ⟨v3, rfl, hown, hup⟩; obtain ⟨A3, c3, hv, hi, _⟩ := own_ints hown; subst hv; have HU3 := Az.mk (up_trans HUA.out hup); obtain ⟨adz, hAz, yz⟩ := hi.at_ 0 (by omega) (by simp); have yz2 : w3.cell? adz = some (.int .i32 z) := (by cases adz; exact yz); subst hAz; clear hown hup hi yz) | (go_at_call 97; (with_reducible refine (TabS (HT.out.up HU3.out) ct z _ HB2.out HZR.out).mono ?_); rintro e w4 ⟨rfl, hup⟩; have HU4 := Az.mk (up_trans HU3.out hup); clear hup))
         go_roundg k
         case measure => omega
         case rel => exact NX.out HBF.out _ 1 rfl HU4.out
       | false =>
         go_wp2_with (first | (go_at_call 95; (with_reducible refine HOC.out.mono ?_); rintro e w1 ⟨v1, rfl, hown, hup⟩; obtain ⟨A1, c1, hv, hi, _⟩ := own_ints hown; subst hv; have HU1 := Az.mk (up_trans HU.out hup); have yA := up_cell hup HY.out; clear hown hup hi) | (go_at_call 96; (with_reducible refine (againR_calls (HT.out.up HU1.out) ct d HDR.out _ HG.out).mono ?_); rintro e w2 ⟨rfl, hup⟩; have HU2 := Az.mk (up_trans HU1.out hup); have yB := up_cell hup yA; have HUA := HU2; clear hup) | (go_at_call 30; (with_reducible refine ((HT.out.up HUA.out).Full ct d (z :: u) HFU.out HDR.out).mono ?_); rintro e w3 ⟨v3, rfl, hown, hup⟩; obtain ⟨A3, c3, hv, hi, _⟩ := own_ints hown; subst hv; have HU3 := Az.mk (up_trans HUA.out hup); obtain ⟨adz, hAz, yz⟩ := hi.at_ 0 (by omega) (by simp); have yz2 : w3.cell? adz = some (.int .i32 z) := (by cases adz; exact yz); subst hAz; clear hown hup hi yz) | (go_at_call 97; (with_reducible refine (TabS (HT.out.up HU3.out) ct z _ HB2.out HZR.out).mono ?_); rintro e w4 ⟨rfl, hup⟩; have HU4 := Az.mk (up_trans HU3.out hup); clear hup))
         go_roundg k
         case measure => omega
         case rel => exact NX.out HBF.out _ a rfl HU4.out
     | false =>
       have HBF : Az (badF T d = true) := ⟨by rw [HBD.out, HL0.out]; rfl⟩
       have HE : Az (q = 0) := ⟨by
        have e := HW.out
        rw [HDD.out, worst_bad HBF.out _ _ (by have := HI.out.2; omega)] at e
        rw [← HQ.out]
        cases b with
        | true => show 2 - worstF T x 0 = 0; rw [← e]; rfl
        | false => show 2 - worstF T x 2 = 0; rw [worst_top]; rfl⟩
       go_wp2_with (first | (go_at_call 95; (with_reducible refine HOC.out.mono ?_); rintro e w1 ⟨v1, rfl, hown, hup⟩; obtain ⟨A1, c1, hv, hi, _⟩ := own_ints hown; subst hv; have HU1 := Az.mk (up_trans HU.out hup); have yA := up_cell hup HY.out; clear hown hup hi) | (go_at_call 96; (with_reducible refine (againR_calls (HT.out.up HU1.out) ct d HDR.out _ HG.out).mono ?_); rintro e w2 ⟨rfl, hup⟩; have HU2 := Az.mk (up_trans HU1.out hup); have yB := up_cell hup yA; clear hup))
       go_ret
       exact ⟨by rw [HE.out]; rfl, HU2.out⟩
theorem RIs_calls (hT : TabAt w At T) (ct : Nat) (A : Option Addr) (c : Nat) (x : List Int) (hI : Ints .i32 w A x) (hr : InI32 x) (hx : x.length ≤ 65536) (b : Bool) (hb : (x == nfcF T x) = b) :
 Calls Tryz.prog 60 #[.slice At T.length ct, .slice A x.length c] w fun e w' => e = .returned (.bool b) ∧ Up w w' := by
 obtain ⟨y, hy⟩ : ∃ y, nfcF T x = y := ⟨_, rfl⟩
 rw [hy] at hb
 have HB : Az ((y == x) = b) := ⟨by rw [← hb, Bool.eq_iff_iff, beq_iff_eq, beq_iff_eq]; exact eq_comm⟩
 have HXB : Az (x.length ≤ 35184372087808) := ⟨by omega⟩
 have HYB : Az (y.length ≤ 35184372087808) := ⟨by rw [← hy]; have := nfc_len hT.fine x; omega⟩
 have HN := Az.mk (RNFC13_calls hT ct A c x hI hr hx y hy)
 have HX := Az.mk hI
 clear hT hI hr hx hy hb
 go_enter Tryz.func60, Tryz.ntmps60
 go_wp2_with (first | (go_at_call 49; (with_reducible refine HN.out.mono ?_); rintro e w1 ⟨v1, rfl, hown, hup⟩; obtain ⟨A1, c1, hv, hi, _⟩ := own_ints hown; subst hv; have HI1 := Az.mk hi; have HU1 := Az.mk hup; clear hown hi hup) | (go_at_call 26; (with_reducible refine (SameB_calls A1 A c1 c y x _ HI1.out (HX.out.up HU1.out) HYB.out HXB.out b HB.out).mono ?_); rintro e w2 ⟨rfl, hup⟩; have HU2 := Az.mk (up_trans HU1.out hup); clear hup))
 go_ret
 exact ⟨rfl, HU2.out⟩
theorem sorted_one (hF : Fine T) (c : Int) : sortedG (numF T 2 (·.n)) 0 [c] = true := by
 have h := hp_of hF.toGood c
 unfold sortedG
 rw [if_neg (by omega)]
 rfl
theorem RSafe_calls (hT : TabAt w At T) (ct : Nat) (c : Int) (hc : -2147483648 ≤ c ∧ c ≤ 2147483647) (b : Bool) (hb : safeF T c = b) :
 Calls Tryz.prog 61 #[.slice At T.length ct, .int .i32 c] w fun e w' => e = .returned (.bool b) ∧ Up w w' := by
 rw [safeF_found] at hb
 obtain ⟨n, hn⟩ : ∃ n, numF T 2 (·.n) c = n := ⟨_, rfl⟩
 obtain ⟨f, hf⟩ : ∃ f, foundF T c = f := ⟨_, rfl⟩
 have hq : quickF T [c] = 2 - f := by
  unfold quickF
  rw [sorted_one hT.fine]
  show 2 - max 0 (foundF T c) = 2 - f
  have := foundF_cases T c
  omega
 have hfc := foundF_cases T c
 rw [hf] at hfc
 rw [show classF T c = n from hn, hf] at hb
 have HB := Az.mk hb
 have HQ : Az (∀ W, Up w W → Calls Tryz.prog 59 #[.slice At T.length ct, .slice (some ⟨W.heap.size, 0, none⟩) 1 1] (W.alloc (.cells #[.int .i32 c] 21)) fun e w' => e = .returned (.int .i64 (2 - f)) ∧ Up W w') := ⟨fun W hW => (RQuick_calls (hT.up (up_trans hW (up_alloc (up_refl W) _))) ct _ 1 [c] 1 rfl (ints_new W [c]) (fun z hz => by rw [List.mem_singleton.1 hz]; exact hc) (by simp) (2 - f) hq).mono (by rintro e w' ⟨rfl, h⟩; exact ⟨rfl, up_trans (up_alloc (up_refl W) _) h⟩)⟩
 have HT := Az.mk hT
 have HN := Az.mk hn
 have HC := Az.mk hc
 clear hT hb hn hf hq hc
 by_cases hz : n = 0
 ·have e0 : (n == 0) = true := beq_iff_eq.mpr hz
  have HZ := Az.mk hz
  clear hz
  rcases hfc with rfl | rfl | rfl
  all_goals
   go_enter Tryz.func61, Tryz.ntmps61
   go_wp2_with (first | (go_at_call 59; (with_reducible refine (HQ.out _ (up_refl _)).mono ?_); rintro e w1 ⟨rfl, hup⟩; have HU1 := Az.mk hup; clear hup) | (go_at_call 82; (with_reducible refine ((HT.out.up HU1.out).Class ct c n HN.out HC.out).mono ?_); rintro e w2 ⟨rfl, hup⟩; have HU2 := Az.mk (up_trans HU1.out hup); clear hup))
   go_ret
   exact ⟨by rw [← HB.out, HZ.out]; rfl, by first | exact HU2.out | exact HU1.out⟩
 ·have e0 : (n == 0) = false := bqf hz
  have HZ := Az.mk hz
  clear hz
  rcases hfc with rfl | rfl | rfl
  all_goals
   go_enter Tryz.func61, Tryz.ntmps61
   go_wp2_with (first | (go_at_call 59; (with_reducible refine (HQ.out _ (up_refl _)).mono ?_); rintro e w1 ⟨rfl, hup⟩; have HU1 := Az.mk hup; clear hup) | (go_at_call 82; (with_reducible refine ((HT.out.up HU1.out).Class ct c n HN.out HC.out).mono ?_); rintro e w2 ⟨rfl, hup⟩; have HU2 := Az.mk (up_trans HU1.out hup); clear hup))
   go_ret
   exact ⟨by rw [← HB.out, dFz HZ.out]; rfl, by first | exact HU2.out | exact HU1.out⟩
end
end Go.Proofs.YtnohcnneflogjaaGreat.M.Nm
namespace Go.Proofs.YtnohcnneflogjaaGreat.M.Nm
open Go.Shelf Go.RowKit Go.Lib Go.Sort St
theorem NormQuick_no (A : Option Addr) (c : Nat) (T : List Rec) (A1 : Option Addr) (n1 c1 : Nat) (w : World) (hT : Table w A T) (hW : ∀ x ∈ T, x.Wf) (hc : T.length ≤ c) (he : (checkE (T.take 150)).2 ≠ 0) :
 Calls Tryz.prog 16 #[.slice A T.length c, .slice A1 n1 c1] w fun e w' => e = .returned (.bool true) ∧ Up w w' := by
 have HM := Az.mk (Made_no A c T w hT hW hc he)
 clear hT hW hc he
 go_enter Tryz.func16, Tryz.ntmps16
 go_wp2_with (first | (go_at_call 21; (with_reducible refine HM.out.mono ?_); rintro e w1 ⟨rfl, hup1⟩) | (go_at_call 41; (with_reducible refine (told13_calls _).mono ?_); rintro e w2 ⟨rfl, hup2⟩))
 go_ret
 exact ⟨rfl, up_trans hup1 hup2⟩
theorem NormQuick_yes (A : Option Addr) (c : Nat) (T P : List Rec) (X1 : Option Addr) (x1 : List Int) (k1 : Nat) (w : World) (hP : T.take 150 = P) (hT : Table w A T) (hW : ∀ x ∈ T, x.Wf) (hc : T.length ≤ c) (he : (checkE P).2 = 0)
 (hI1 : Ints .i32 w X1 x1) (hx1 : x1.length < 4611686018427387904) (hc1 : x1.length ≤ k1) (hwf1 : ∀ z ∈ x1, (Lit.int .i32 z).wf = true) :
 Calls Tryz.prog 16 #[.slice A T.length c, .slice X1 x1.length k1] w fun e w' => e = .returned (.bool true) ∧ Up w w' := by
 have HM := Az.mk (Made_yes A c T P w hP hT hW hc he)
 have HF : Az (Fine P) := ⟨fine_of (fun x hx => hW x (by rw [← hP] at hx; exact List.mem_of_mem_take hx)) he⟩
 have HJ1 := Az.mk hI1
 have HX1 := Az.mk hx1
 have HXC1 := Az.mk hc1
 have HWF1 := Az.mk hwf1
 clear hT hW hc he hP hI1 hx1 hc1 hwf1
 obtain ⟨s, hs⟩ : ∃ s, x1.take 200 = s := ⟨_, rfl⟩
 have HsE := Az.mk hs
 have HsL : Az (s.length ≤ 200) := ⟨by rw [← hs, List.length_take]; omega⟩
 have HsR : Az (InI32 s) := ⟨fun z hz => St.wf_i32 (HWF1.out z (by rw [← hs] at hz; exact List.mem_of_mem_take hz))⟩
 have Hs2 : Az (s.length ≤ 65536) := ⟨by have := HsL.out; omega⟩
 have HsB : Az (s.length ≤ 35184372087808) := ⟨by have := HsL.out; omega⟩
 clear hs
 obtain ⟨q, hq⟩ : ∃ q, quickF P s = q := ⟨_, rfl⟩
 have HqE := Az.mk hq
 obtain ⟨b, hb⟩ : ∃ b, (s == nfcF P s) = b := ⟨_, rfl⟩
 have HbE := Az.mk hb
 have HSX : Az (s.length ≤ x1.length) := ⟨by rw [← HsE.out, List.length_take]; omega⟩
 have HSL3 : Az (s.length ≤ 100000) := ⟨by have := HsL.out; omega⟩
 have HXS : Az (Ints .i32 w X1 s) := ⟨by rw [← HsE.out]; exact ints_take12 HJ1.out 200⟩
 have hqq : (q != q) = false := by simp
 have hbb : (b != b) = false := by cases b <;> rfl
 have u1 : 0 ≤ (s.length : Int) := by omega
 have u2 : (s.length : Int) ≤ (k1 : Int) := by have := HSX.out; have := HXC1.out; omega
 clear hq hb
 go_enter Tryz.func16, Tryz.ntmps16
 go_wp2_with (first | (go_at_call 50; (with_reducible refine (whole13_calls _ X1 c2 k1 s s.length rfl _ (HI2.out.up (up_trans HS3.out (up_trans HS4.out (up_trans HS5.out HS6.out)))) HCAP.out (HXS.out.up (up_trans HS1.out (up_trans HS2.out (up_trans HS3.out (up_trans HS4.out (up_trans HS5.out HS6.out)))))) (Nat.le_trans HSX.out HXC1.out) HSL3.out).mono ?_); rintro e w7 ⟨rfl, hup⟩; have HS7 := Az.mk hup; clear hup) |
  (go_at_call 60; (with_reducible refine (RIs_calls (HTA.out.up (up_trans HS2.out (up_trans HS3.out (up_trans HS4.out HS5.out)))) c1 X1 k1 s (HXS.out.up (up_trans HS1.out (up_trans HS2.out (up_trans HS3.out (up_trans HS4.out HS5.out))))) HsR.out Hs2.out b HbE.out).mono ?_); rintro e w6 ⟨rfl, hup⟩; have HS6 := Az.mk hup; clear hup) |
  (go_at_call 59; (with_reducible refine (RQuick_calls (HTA.out.up (up_trans HS2.out (up_trans HS3.out HS4.out))) c1 X1 k1 s s.length rfl (HXS.out.up (up_trans HS1.out (up_trans HS2.out (up_trans HS3.out HS4.out)))) HsR.out Hs2.out q HqE.out).mono ?_); rintro e w5 ⟨rfl, hup⟩; have HS5 := Az.mk hup; clear hup) |
  (go_at_call 58; (with_reducible refine (Is_calls (HD.out.up (up_trans HS2.out HS3.out)) HF.out _ c2 s s.length rfl ((two_left HI2.out).up HS3.out) HsR.out Hs2.out b HbE.out).mono ?_); rintro e w4 ⟨rfl, hup⟩; have HS4 := Az.mk hup; clear hup) |
  (go_at_call 43; (with_reducible refine (Quick_calls (HD.out.up HS2.out) HF.out _ c2 s s.length rfl (two_left HI2.out) HsR.out Hs2.out q HqE.out).mono ?_); rintro e w3 ⟨rfl, hup⟩; have HS3 := Az.mk hup; clear hup) |
  (go_at_call 42; (with_reducible refine (few13_own X1 k1 x1 s 200 200 rfl _ (HJ1.out.up HS1.out) HX1.out HXC1.out (by decide) HsE.out).mono ?_); rintro e w2 ⟨gi, c2, rfl, hcap, hown, hup⟩; have HS2 := Az.mk hup; have HO2 := Az.mk hown; have HCAP := Az.mk hcap; have HI2 := Az.mk (own_two_ints hown); clear hup hcap hown) |
  (go_at_call 21; (with_reducible refine (HM.out).mono ?_); rintro e w1 ⟨bd, D, A1, c1, rfl, hD, hTab, hup⟩; have HS1 := Az.mk hup; have HD := Az.mk hD; have HTA : Az (TabAt w1 A1 P) := ⟨hTab.table, HF.out⟩; have HTF := Az.mk hTab; clear hup hD hTab))
 have HUU : Az (Up w w7) := ⟨(up_trans HS1.out (up_trans HS2.out (up_trans HS3.out (up_trans HS4.out (up_trans HS5.out (up_trans HS6.out HS7.out))))))⟩
 have HU1W : Az (Up w1 w7) := ⟨(up_trans HS2.out (up_trans HS3.out (up_trans HS4.out (up_trans HS5.out (up_trans HS6.out HS7.out)))))⟩
 go_loopg [13] s.length (fun k v13 wr => ∃ (i : Nat), v13 = .int .i64 i ∧ Az (i + k = s.length) ∧ Az (Up w7 wr))
 case atStart => exact ⟨0, rfl, ⟨Nat.zero_add _⟩, ⟨up_refl _⟩⟩
 case round =>
  obtain ⟨i, rfl, HI, HU⟩ := hrel
  cases gk with
  | zero =>
    have hlt : decide ((i : Int) < (s.length : Int)) = false := dFz (by have := HI.out; omega)
    have hlt1 : ¬ (i < s.length) := by have := HI.out; omega
    go_wp2_with (first | (go_at_call 45; (with_reducible refine (Safe_nil _ _).mono ?_); rintro e w8 ⟨rfl, hup⟩; have HS8 := Az.mk hup; clear hup))
    go_ret
    exact ⟨rfl, up_trans HUU.out (up_trans HU.out HS8.out)⟩
  | succ k =>
    have hi : i < s.length := by have := HI.out; omega
    have hlt : decide ((i : Int) < (s.length : Int)) = true := dTz (by omega)
    have z1 : (i : Int) < (s.length : Int) := by omega
    have z2 : (i : Int) < 100000 := by have := HsL.out; omega
    obtain ⟨ad, hA, y1⟩ := HXS.out.at_ i (by omega) z1
    have y2 := up_cell (up_trans HUU.out HU.out) y1
    rw [Int.toNat_natCast] at y2
    subst hA
    clear y1
    obtain ⟨d, hd⟩ : ∃ d, s[i] = d := ⟨_, rfl⟩
    rw [rd_elem s i hi, hd] at y2
    have HDR : Az (-2147483648 ≤ d ∧ d ≤ 2147483647) := ⟨HsR.out d (by rw [← hd]; exact List.getElem_mem _)⟩
    obtain ⟨g, hg⟩ : ∃ g, safeF P d = g := ⟨_, rfl⟩
    have HG := Az.mk hg
    have hgg : (g != g) = false := by cases g <;> rfl
    have HY := Az.mk y2
    clear hd hg hi
    go_wp2
    have HSP : Az (∀ W, Up wr W → (fun w' => w'.cell? (ad.add i) = some (.int .i32 d)) W) := ⟨fun W hW => up_cell hW HY.out⟩
    have HV0 : Az (Up wr wr) := ⟨up_refl _⟩
    go_region_held3 (fun w' => w'.cell? (ad.add i) = some (.int .i32 d)) (first | exact HSP.out _ (up_drew (up_refl _)) | exact HSP.out _ HV.out | exact HSP.out _ HW9.out) (first | (go_at_call 61; (with_reducible refine (RSafe_calls (HTA.out.up (up_trans HU1W.out (up_trans HU.out HV.out))) c1 d HDR.out g HG.out).mono ?_); rintro e w9 ⟨rfl, hup⟩; have HW9 := Az.mk (up_trans HV.out hup); have HV9 := Az.mk (up_trans HU.out (up_trans HV.out hup)); clear hup) | (go_at_call 45; (with_reducible refine (Safe_calls (HD.out.up (up_trans HU1W.out (up_drew HU.out))) HF.out d HDR.out g HG.out).mono ?_); rintro e w8 ⟨rfl, hup⟩; have HV := Az.mk (up_trans (up_drew (up_refl wr)) hup); clear hup))
    go_wp2
    go_roundg k
    case measure => omega
    case rel => exact ⟨i + 1, by go_num, ⟨by have := HI.out; omega⟩, HV9⟩
end Go.Proofs.YtnohcnneflogjaaGreat.M.Nm
