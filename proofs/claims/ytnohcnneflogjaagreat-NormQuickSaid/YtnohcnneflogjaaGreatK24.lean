/- What is wrong with a list of records, walked: the program's, which keeps the records ahead by their family. -/
import Derived.Test.YtnohcnneflogjaaGreatK05
import Derived.Test.YtnohcnneflogjaaGreatK01
import Derived.Test.YtnohcnneflogjaaGreatK06
import Derived.Test.YtnohcnneflogjaaGreatK21
import Derived.StillTailTactics
import Derived.Deep.DeepMust
set_option maxHeartbeats 16000000
set_option maxRecDepth 100000
set_option linter.unusedVariables false
set_option linter.unusedSimpArgs false
namespace Go.Proofs.YtnohcnneflogjaaGreat.M
open Go.RowKit
theorem rec_new (w : World) (x : Rec) (A : Option Addr) (c : Nat) : ∀ j u, (pcells (x, A, c))[j]? = some u → (w.alloc (recO x A c)).cell? ((⟨w.heap.size, 0, none⟩ : Addr).add j) = some u := by
 intro j u hu
 have hadd : (⟨w.heap.size, 0, none⟩ : Addr).add j = ⟨w.heap.size, j, none⟩ := by unfold Addr.add; split <;> simp_all
 rw [hadd, cell_of_row (w.alloc (recO x A c)) w.heap.size j (recCells x A c) _ (0, 0) (heap_alloc_new w _)]
 simpa [pcells] using hu
theorem wf_small {a : Int} (h0 : 0 ≤ a) (h1 : a ≤ 1114112) : (Lit.int .i64 a).wf = true := by
 simp only [Lit.wf, Bool.and_eq_true, decide_eq_true_eq]
 show (-9223372036854775808 : Int) ≤ a ∧ a ≤ 9223372036854775807
 omega
theorem build_rec (x : Rec) (A : Option Addr) (c : Nat) (w : World) : (Instr.buildSlice 22 1 #[(0, recV x A c)]).run Tryz.prog w = .ok (.slice (some ⟨w.heap.size, 0, none⟩) 1 1) (w.alloc (recO x A c)) := by kernel_rfl
theorem zero_recs (w : World) : (zeroValue 22).run Tryz.prog w = .ok (.slice none 0 0) w := by kernel_rfl
theorem keyed_int : Go.Maps.Keyed Tryz.prog 3 := Go.Maps.int_keyed Tryz.underlying3
theorem head_mem {T : List Rec} {i : Nat} {f : Int} {L : List RecP} (h : L.map (·.1) = (T.take i).filter (fun x => decide (fam x.kind = f))) {q : Nat} {p : RecP} (hp : L[q]? = some p) : ∃ k, k < i ∧ T[k]? = some p.1 ∧ fam p.1.kind = f := by
 have h1 : p.1 ∈ L.map (·.1) := List.mem_map.2 ⟨p, List.mem_of_getElem? hp, rfl⟩
 rw [h, List.mem_filter] at h1
 obtain ⟨k, hk⟩ := List.mem_iff_getElem?.1 h1.1
 rw [List.getElem?_take] at hk
 split at hk
 ·exact ⟨k, by assumption, hk, by simpa using h1.2⟩
 ·cases hk
theorem head_all {T : List Rec} {i : Nat} {L : List RecP} {x : Rec} (h : L.map (·.1) = (T.take i).filter (fun y => decide (fam y.kind = fam x.kind))) (hall : ∀ a (p : RecP), a < L.length → L[a]? = some p → clashB p.1 x = false) : ∀ a p, a < i → T[a]? = some p → clashB p x = false := by
 intro a p ha hp
 by_cases hf : fam p.kind = fam x.kind
 ·have h1 : p ∈ L.map (·.1) := by
   rw [h, List.mem_filter]
   exact ⟨List.mem_iff_getElem?.2 ⟨a, by rw [List.getElem?_take, if_pos ha]; exact hp⟩, by simpa using hf⟩
  obtain ⟨r, hr, rfl⟩ := List.mem_map.1 h1
  obtain ⟨b, hb⟩ := List.mem_iff_getElem?.1 hr
  exact hall b r (List.getElem?_eq_some_iff.1 hb).1 hb
 ·unfold clashB
  rw [dFz hf, Bool.false_and]
theorem mcheck6_1 {p : Prop} (h : p := by
 have hbs := fun W => build_rec x A' c' W
 obtain ⟨ie, ze, hie, hze, hsi, hby, hzc⟩ := rec_info
 have hHQ := HM1.out.up HB.out
 have HMQ := Az.mk hHQ
 have hoq := (hHQ.2.2.2.1 (fam x.kind) (fam_le x.kind).1 (fam_le x.kind).2).2
 rw [HV.out, HLF.out] at hoq
 have HOQ := Az.mk (hoq.alloc (recO x A' c'))
 clear hHQ hoq
 go_wp2_with (first | (at_lookup; refine wpList_look _ rfl _ _ 202 false rfl 3 22 keyed_int Tryz.underlying202 (zero_recs _) wm.heap.size n F rfl HMQ.out.1 _ rfl (key_int .i64 _ 3 Tryz.underlying3 HFW.out) _ HV.out ?_) | (at_builtin; refine (wpList_append_own_at _ rfl _ _ 22 rfl (wm.heap.size + 1) 113 ie ze 8 96 Tryz.underlying22 hie hze hsi hby hzc (by decide) _ LF.length (recsCells LF) rfl HOQ.out ⟨wr.heap.size, 0, none⟩ 1 1 (pcells (x, A', c')) rfl rfl (rec_new _ _ _ _) (pcells_one _) ?ha ?hb ?hc ?_); (case ha => exact HLEN.out.1); (case hb => exact HLEN.out.2); (case hc => exact Nat.le_trans HMQ.out.2.2.1 (by simp)); intro v' w3 hown' hgrow hnil hat) | (at_mapUpdate; refine wpList_store _ rfl _ _ _ 202 rfl 3 22 keyed_int Tryz.underlying202 wm.heap.size n F rfl ?hd ?he _ _ rfl rfl (key_int .i64 _ 3 Tryz.underlying3 HFW.out) ?_; (case hd => exact (HMQ.out.1.alloc (recO x A' c')).grown hgrow HBM.out); (case he => exact HNM.out); intro w4 hmap4 hgrow4))
 have hstep := HMQ.out.step (A := A') (c := c') HX.out HV.out (by rw [HLF.out]; exact hown') hgrow hat hmap4 hgrow4
 have HST := Az.mk hstep
 have hup4 : Up w w4 := ((up_trans HB0.out (up_trans HU1.out HB.out)).alloc (up_trans HB0.out (up_trans HU1.out HB.out)).size (recO x A' c')).grown hgrow (by have := (up_trans HB0.out (up_trans HU1.out HB.out)).size; simp; omega) (HROW.out) |>.grown hgrow4 (Nat.le_trans (up_trans HB0.out (up_trans HU1.out HB.out)).size (Nat.le_trans (by simp) hgrow.size)) (fun k hk => by cases hk; exact HWM.out)
 have HUP4 := Az.mk hup4
 clear hstep hup4 hown' hgrow hat hmap4 hgrow4 hnil
 go_roundg k
 case measure => have := HI.out.1; omega
 case rel => exact ⟨i + 1, rfl, ⟨by have := HI.out.1; omega, fun a b p r hab hb hp hr => by
  by_cases hbi : b = i
  ·subst hbi
   rw [HX.out] at hr
   cases hr
   exact HALL0.out a p hab hp
  ·exact HI.out.2 a b p r hab (by omega) hp hr⟩, HUP4, ⟨n + 1, _, _, by have := HNI.out; omega, HST.out⟩⟩) : p := h
theorem Check6_calls (A : Option Addr) (c : Nat) (T : List Rec) (n : Nat) (e : Int) (w : World) (hT : Table w A T) (hW : ∀ x ∈ T, x.Wf) (h : tableE T = (n, e)) :
 Calls Tryz.prog 157 #[.slice A T.length c] w fun r w' => r = .returned (.tuple #[.int .i64 n, .int .i64 e]) ∧ Up w w' := by
 have hu96 := Tryz.underlying113
 have HT := Az.mk hT
 have HW := Az.mk hW
 have HE := Az.mk h
 clear hT hW h
 by_cases hl : 4096 < T.length
 ·have d1 : decide (4096 < (T.length : Int)) = true := dTz (by omega)
  have h1 := HE.out
  unfold tableE at h1
  rw [if_pos hl] at h1
  simp only [Prod.mk.injEq] at h1
  obtain ⟨h1, h2⟩ := h1
  subst h1
  subst h2
  clear HE hl
  go_enter Tryz.func157, Tryz.ntmps157
  go_wp2
  go_ret2
  exact ⟨rfl, up_refl _⟩
 have d1 : decide (4096 < (T.length : Int)) = false := dFz (by omega)
 have hl' : T.length ≤ 4096 := by omega
 clear hl
 have hmm := @run_makeMap Tryz.prog
 go_enter Tryz.func157, Tryz.ntmps157
 go_wp2
 go_loopg [18] T.length (fun k v4 w' => ∃ i : Nat, v4 = .int .i64 i ∧ Az (i + k = T.length ∧ ∀ j y, j < i → T[j]? = some y → Right y) ∧ Az (Up w w'))
 case atStart => exact ⟨0, rfl, ⟨Nat.zero_add _, fun j y hj => absurd hj (Nat.not_lt_zero _)⟩, ⟨up_refl _⟩⟩
 case round =>
  obtain ⟨i, rfl, HI, HB⟩ := hrel
  have hi := HI.out.1
  cases gk with
  | succ k =>
    have hlt : decide ((i : Int) < (T.length : Int)) = true := dTz (by omega)
    have hln : decide (i < T.length) = true := dTz (by omega)
    have p1 : 0 ≤ (i : Int) := by omega
    have p2 : (i : Int) < (T.length : Int) := by omega
    have hx : T[i]? = some T[i] := List.getElem?_eq_getElem (by omega)
    obtain ⟨x, hxx⟩ : ∃ x, T[i]'(by omega) = x := ⟨_, rfl⟩
    rw [hxx] at hx
    have hWx : x.Wf := by rw [← hxx]; exact HW.out _ (List.getElem_mem _)
    have hls := hWx.small
    have hwt := hWx.weight
    have HX := Az.mk hx
    obtain ⟨ad, hA, A', c', hrec, hto⟩ := HT.out i x hx
    subst hA
    obtain ⟨g0, g1, g2, g3, g4, g5, g6, g7⟩ := hrec.up HB.out
    have HTO := Az.mk (Cells.up hto (up_trans HB.out (up_alloc (up_refl _) (recO x A' c'))))
    clear hx hxx hto hrec hWx
    by_cases he : rightE x = 0
    ·have HR := Az.mk he
     clear he
     go_wp2_with (first | (go_at_call 182; (with_reducible refine (Right_calls x A' c' 0 _ HTO.out hls hwt HR.out).mono ?_); rintro e w1 ⟨rfl, hb1⟩))
     go_roundg k
     case measure => have := HI.out.1; omega
     case rel => exact ⟨i + 1, rfl, ⟨by have := HI.out.1; omega, fun j y hj hy => by
      by_cases hji : j = i
      ·subst hji
       rw [HX.out] at hy
       cases hy
       exact HR.out
      ·exact HI.out.2 j y (by omega) hy⟩, ⟨up_trans HB.out (up_trans (up_alloc (up_refl _) _) hb1)⟩⟩
    ·have h1 := tableE_wrong hl' HX.out he HI.out.2
     rw [HE.out] at h1
     simp only [Prod.mk.injEq] at h1
     obtain ⟨h1, h2⟩ := h1
     subst h1
     subst h2
     have d2 : (rightE x == 0) = false := bqf he
     have d3 : (rightE x != 0) = true := bne_iff_ne.mpr he
     clear he
     go_wp2_with (first | (go_at_call 182; (with_reducible refine (Right_calls x A' c' _ _ HTO.out hls hwt rfl).mono ?_); rintro e w1 ⟨rfl, hb1⟩))
     go_ret2
     exact ⟨rfl, up_trans HB.out (up_trans (up_alloc (up_refl _) _) hb1)⟩
  | zero =>
    have hlt : decide ((i : Int) < (T.length : Int)) = false := dFz (by omega)
    have hln : decide (i < T.length) = false := dFz (by omega)
    have HR : Az (∀ x ∈ T, Right x) := ⟨fun x hx => by
     obtain ⟨j, hj, rfl⟩ := List.getElem_of_mem hx
     exact HI.out.2 j _ (by omega) (List.getElem?_eq_getElem hj)⟩
    clear HI hi
    go_wp2
    have HM := Az.mk (HeadsF.start (T := T) (MapIs.made Tryz.prog 3 wr))
    obtain ⟨wm, rfl⟩ : ∃ wm : World, wm = wr := ⟨_, rfl⟩
    have HWM : Az (w.heap.size ≤ wm.heap.size) := ⟨HB.out.size⟩
    go_loopg [33] T.length (fun k v6 w' => ∃ i : Nat, v6 = .int .i64 i ∧ Az (i + k = T.length ∧ ∀ (a b : Nat) (p q : Rec), a < b → b < i → T[a]? = some p → T[b]? = some q → clashB p q = false) ∧ Az (Up w w') ∧ Az (∃ n F L, n ≤ i ∧ HeadsF w' (wm.heap.size + 1) wm.heap.size n T i F L))
    case atStart => exact ⟨0, rfl, ⟨Nat.zero_add _, fun a b p q _ hb => absurd hb (Nat.not_lt_zero _)⟩, ⟨up_trans HB.out (up_alloc (up_refl _) _)⟩, ⟨0, _, _, Nat.le_refl _, HM.out⟩⟩
    case round =>
     clear HM HB hlt hln
     obtain ⟨i, rfl, HI, HB0, HH⟩ := hrel
     have hi := HI.out.1
     cases gk with
     | zero =>
       have hlt : decide ((i : Int) < (T.length : Int)) = false := dFz (by omega)
       have hln : decide (i < T.length) = false := dFz (by omega)
       have h1 := tableE_right' hl' HR.out (fun a b p q hab hp hq => HI.out.2 a b p q hab (by have := (List.getElem?_eq_some_iff.1 hq).1; omega) hp hq)
       rw [HE.out] at h1
       simp only [Prod.mk.injEq] at h1
       obtain ⟨h1, h2⟩ := h1
       subst h1
       subst h2
       go_wp2
       go_ret2
       exact ⟨rfl, HB0.out⟩
     | succ k =>
       have hlt : decide ((i : Int) < (T.length : Int)) = true := dTz (by omega)
       have hln : decide (i < T.length) = true := dTz (by omega)
       have p1 : 0 ≤ (i : Int) := by omega
       have p2 : (i : Int) < (T.length : Int) := by omega
       have hx : T[i]? = some T[i] := List.getElem?_eq_getElem (by omega)
       obtain ⟨x, hxx⟩ : ∃ x, T[i]'(by omega) = x := ⟨_, rfl⟩
       rw [hxx] at hx
       have HRx : Az (Right x) := ⟨by rw [← hxx]; exact HR.out _ (List.getElem_mem _)⟩
       have HX := Az.mk hx
       obtain ⟨ad, hA, A', c', hrec, hto⟩ := HT.out i x hx
       subst hA
       obtain ⟨g0, g1, g2, g3, g4, g5, g6, g7⟩ := hrec.up HB0.out
       clear hx hxx hto hrec
       obtain ⟨n, F, L, hni, hHH⟩ := HH.out
       have HNI := Az.mk hni
       have RB := Az.mk (recBox_new wr x A' c')
       have HHB := Az.mk (hHH.up (up_alloc (up_refl _) (recO x A' c')))
       have HFW : Az ((Lit.int .i64 (fam x.kind)).wf = true) := ⟨wf_small (fam_le x.kind).1 (Int.le_trans (fam_le x.kind).2 (by decide))⟩
       clear HH hni
       obtain ⟨v, hv⟩ : ∃ v, (F (.int .i64 (fam x.kind))).getD nilS = v := ⟨_, rfl⟩
       obtain ⟨LF, hLF⟩ : ∃ LF, L (fam x.kind) = LF := ⟨_, rfl⟩
       have hown := hHH.2.2.2.1 (fam x.kind) (fam_le x.kind).1 (fam_le x.kind).2
       rw [hv, hLF] at hown
       have hLF4 : LF.length ≤ 4096 := by
        have h1 := congrArg List.length hown.1
        rw [List.length_map] at h1
        have h2 := List.length_filter_le (fun y => decide (fam y.kind = fam x.kind)) (T.take i)
        rw [← h1, List.length_take] at h2
        omega
       have HLEN : Az (LF.length + 1 ≤ maxLen ∧ (LF.length + 1) * 96 ≤ 140737488355328) := ⟨by unfold maxLen; omega⟩
       have HNM : Az (n < maxLen) := ⟨by have := HNI.out; unfold maxLen; omega⟩
       have HL1 := Az.mk hown.1
       have HLF := Az.mk hLF
       have HBM : Az (some wm.heap.size ≠ v.ownBlock) := ⟨fun e => by
        have := (hown.2.lt _ e.symm).1
        omega⟩
       have HROW : Az (∀ k, v.ownBlock = some k → w.heap.size ≤ k) := ⟨fun k hk => by
        have := (hown.2.lt _ hk).1
        have := HWM.out
        omega⟩
       have hcases := own_cases hown.2
       have HV := Az.mk hv
       clear hHH hLF hown hv
       rcases hcases with ⟨hv, hn, hxs⟩ | ⟨g, cap, hv, hg1, hg2, hcell⟩
       ·subst hv
        have HN0 := Az.mk hn
        clear hn hxs
        go_wp2_with (first | (go_at_call 167; (with_reducible refine (Family_calls x.kind _).mono ?_); rintro e w1 ⟨rfl, hb1⟩; obtain ⟨k0, k1, k2, k3, k4, k5, k6, k7⟩ := RB.out.keep hb1; have HM1 := Az.mk (HHB.out.up hb1); have HB1 := Az.mk hb1) | (at_lookup; refine wpList_look _ rfl _ _ 202 false rfl 3 22 keyed_int Tryz.underlying202 (zero_recs _) wm.heap.size n F rfl HM1.out.1 _ rfl (key_int .i64 _ 3 Tryz.underlying3 HFW.out) _ HV.out ?_))
        have HU1 : Az (Up wr w1) := ⟨up_trans (up_alloc (up_refl _) _) HB1.out⟩
        go_loopg [45] 0 (fun m v45 w' => v45 = .int .i64 0 ∧ Az (Up w1 w'))
        case atStart => exact ⟨rfl, ⟨up_refl _⟩⟩
        case round =>
         obtain ⟨rfl, HB⟩ := hrel
         have HALL0 : Az (∀ a p, a < i → T[a]? = some p → clashB p x = false) := ⟨head_all HL1.out (fun a p ha => by have := HN0.out; omega)⟩
         clear k0 k1 k2 k3 k4 k5 k6 k7
         obtain ⟨k0, k1, k2, k3, k4, k5, k6, k7⟩ := (RB.out.keep HB1.out).keep HB.out
         exact mcheck6_1
       ·subst hv
        go_wp2_with (first | (go_at_call 167; (with_reducible refine (Family_calls x.kind _).mono ?_); rintro e w1 ⟨rfl, hb1⟩; obtain ⟨k0, k1, k2, k3, k4, k5, k6, k7⟩ := RB.out.keep hb1; have HM1 := Az.mk (HHB.out.up hb1); have HB1 := Az.mk hb1) | (at_lookup; refine wpList_look _ rfl _ _ 202 false rfl 3 22 keyed_int Tryz.underlying202 (zero_recs _) wm.heap.size n F rfl HM1.out.1 _ rfl (key_int .i64 _ 3 Tryz.underlying3 HFW.out) _ HV.out ?_))
        have HU1 : Az (Up wr w1) := ⟨up_trans (up_alloc (up_refl _) _) HB1.out⟩
        have HCELL : Az (∀ j u, (recsCells LF)[j]? = some u → w1.cell? ⟨g, j, none⟩ = some u) := ⟨fun j u hu => up_cell HU1.out (hcell j u hu)⟩
        clear hcell hg1 hg2
        go_loopg [45] LF.length (fun m v45 w' => ∃ q : Nat, v45 = .int .i64 q ∧ Az (q + m = LF.length ∧ ∀ a p, a < q → LF[a]? = some p → clashB p.1 x = false) ∧ Az (Up w1 w'))
        case atStart => exact ⟨0, rfl, ⟨Nat.zero_add _, fun a p ha => absurd ha (Nat.not_lt_zero _)⟩, ⟨up_refl _⟩⟩
        case round =>
         obtain ⟨q, rfl, HQ, HB⟩ := hrel
         have hq := HQ.out.1
         clear k0 k1 k2 k3 k4 k5 k6 k7
         obtain ⟨k0, k1, k2, k3, k4, k5, k6, k7⟩ := (RB.out.keep HB1.out).keep HB.out
         cases gk with
         | zero =>
           have hlq : decide ((q : Int) < (LF.length : Int)) = false := dFz (by omega)
           have hlqn : decide (q < LF.length) = false := dFz (by omega)
           have HALL : ∀ a p, a < i → T[a]? = some p → clashB p x = false := head_all HL1.out (fun a p ha hp => HQ.out.2 a p (by omega) hp)
           have HALL0 := Az.mk HALL
           clear HALL
           exact mcheck6_1
         | succ m =>
           have hlq : decide ((q : Int) < (LF.length : Int)) = true := dTz (by omega)
           have hlqn : decide (q < LF.length) = true := dTz (by omega)
           have p3 : 0 ≤ (q : Int) := by omega
           have p4 : (q : Int) < (LF.length : Int) := by omega
           have hp : LF[q]? = some LF[q] := List.getElem?_eq_getElem (by omega)
           obtain ⟨⟨p, Ap, cp⟩, hpp⟩ : ∃ p, LF[q]'(by omega) = p := ⟨_, rfl⟩
           rw [hpp] at hp
           have HP := Az.mk hp
           have hm := row_recAt (fun j u hu => up_cell HB.out (HCELL.out j u hu)) hp
           dsimp only [RecAt] at hm
           obtain ⟨f0, f1, f2, f3, f4, f5, f6, f7⟩ := hm
           clear k0 k1 k2 k3 k4 k5 k6 k7
           obtain ⟨k0, k1, k2, k3, k4, k5, k6, k7⟩ := ((RB.out.keep HB1.out).keep HB.out).keep (up_alloc (up_refl _) (recO p Ap cp))
           have RP := Az.mk (recBox_new wr p Ap cp)
           obtain ⟨kk, hkk, hTk, hfk⟩ := head_mem HL1.out hp
           have HRp : Az (Right p) := ⟨HR.out _ (List.mem_of_getElem? hTk)⟩
           have HTW : Az (clashB p x = true → tableE T = (i, 62)) := ⟨fun hc => tableE_twice hl' HR.out HX.out hTk hkk hc HI.out.2⟩
           clear hp hpp hkk hTk
           by_cases h15 : p.kind = 15
           ·have hfx : fam x.kind = 10 := by rw [← hfk, (fam_ten _).2 h15]
            have hcl := clash_mixB hfk h15
            have f10 : decide (fam x.kind < 10) = false := dFz (by omega)
            have f11 : (fam x.kind == 10) = true := beq_iff_eq.mpr hfx
            have HCL := Az.mk hcl
            clear hcl hfx h15 hfk
            cases s1 : (p.name.toList == x.name.toList) <;> cases s2 : (p.other.toList == x.other.toList) <;> cases s3 : (p.name.toList == x.other.toList) <;> cases s4 : (p.other.toList == x.name.toList)
            all_goals
             have hcl := HCL.out
             rw [s1, s2, s3, s4] at hcl
             clear HCL
             first
             | (have hcf : clashB p x = false := hcl
                have HCF := Az.mk hcf
                clear hcf hcl
                go_wp2
                go_roundg m
                case measure => omega
                case rel => exact ⟨q + 1, rfl, ⟨by have := HQ.out.1; omega, fun a r ha hr => by
                 by_cases haq : a = q
                 ·subst haq
                  rw [HP.out] at hr
                  cases hr
                  exact HCF.out
                 ·exact HQ.out.2 a r (by omega) hr⟩, ⟨up_trans HB.out (up_alloc (up_refl _) _)⟩⟩)
             | (have h1 := HTW.out hcl
                rw [HE.out] at h1
                simp only [Prod.mk.injEq] at h1
                obtain ⟨h1, h2⟩ := h1
                subst h1
                subst h2
                clear hcl
                go_wp2
                go_ret2
                exact ⟨rfl, up_trans HB0.out (up_trans HU1.out (up_trans HB.out (up_alloc (up_refl _) _)))⟩)
           ·have hcl := clash_same hfk h15
            have hx15 : x.kind ≠ 15 := fun h => h15 ((fam_ten _).1 (by rw [hfk, h]; rfl))
            have hfx : fam x.kind < 10 := by
             have := fam_le x.kind
             have h2 : fam x.kind ≠ 10 := fun h => hx15 ((fam_ten _).1 h)
             omega
            have f10 : decide (fam x.kind < 10) = true := dTz hfx
            have f11 : (fam x.kind == 10) = false := bqf (by omega)
            have H15 := Az.mk h15
            have HX15 := Az.mk hx15
            clear hfx hx15 h15 hfk
            cases hmt : meetB p x with
            | true =>
              rw [hmt] at hcl
              have h1 := HTW.out hcl
              rw [HE.out] at h1
              simp only [Prod.mk.injEq] at h1
              obtain ⟨h1, h2⟩ := h1
              subst h1
              subst h2
              clear hcl
              go_wp2_with (first | (go_at_call 183; (with_reducible refine (meet_calls p x Ap A' cp c' _ _ HRp.out HRx.out H15.out HX15.out hmt).mono ?_); rintro e w2 ⟨rfl, hb2⟩))
              go_ret2
              exact ⟨rfl, up_trans HB0.out (up_trans HU1.out (up_trans HB.out (up_trans (up_alloc (up_refl _) _) hb2)))⟩
            | false =>
              rw [hmt] at hcl
              have HCF := Az.mk hcl
              clear hcl
              go_wp2_with (first | (go_at_call 183; (with_reducible refine (meet_calls p x Ap A' cp c' _ _ HRp.out HRx.out H15.out HX15.out hmt).mono ?_); rintro e w2 ⟨rfl, hb2⟩))
              go_roundg m
              case measure => omega
              case rel => exact ⟨q + 1, rfl, ⟨by have := HQ.out.1; omega, fun a r ha hr => by
               by_cases haq : a = q
               ·subst haq
                rw [HP.out] at hr
                cases hr
                exact HCF.out
               ·exact HQ.out.2 a r (by omega) hr⟩, ⟨up_trans HB.out (up_trans (up_alloc (up_refl _) _) hb2)⟩⟩
end Go.Proofs.YtnohcnneflogjaaGreat.M
