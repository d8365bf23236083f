/- A step down of the full decomposition, walked: the program's, which gives up by panic. -/
import Derived.Test.YtnohcnneflogjaaGreatK09
import Derived.Deep.DeepMust
import Derived.StillTailTactics
import Derived.Defers
import Derived.Recover
set_option maxHeartbeats 16000000
set_option maxRecDepth 100000
set_option linter.unusedVariables false
set_option linter.unusedSimpArgs false
namespace Go.Proofs.YtnohcnneflogjaaGreat.M
open Go.RowKit
theorem box_cells {B : Nat} {w w1 : World} {bw : Nat} {tv vo vp : Value} {out path : List Int} {o : Obj} (h : Walk B w bw tv vo vp out path) (hg : (w.alloc o).grownBy w1 vo.ownBlock) : w1.cell? ⟨bw, 1, none⟩ = some vo ∧ w1.frozen? ⟨bw, 1, none⟩ = false := by
 have hb : w1.heap[bw]? = w.heap[bw]? := by
  rw [hg.block bw (by have := h.lt; simp; omega) (fun e => h.bo e.symm)]
  exact Below.heap_alloc w o bw h.lt
 refine ⟨?_, ?_⟩
 ·rw [World.cell?_of_block (w := w) hb]; exact h.cells.2.1
 ·rw [World.frozen?_of_block (w := w) hb]; exact h.cells.2.2.2.1
theorem box_cells2 {B : Nat} {w w1 : World} {bw : Nat} {tv vo vp : Value} {out path : List Int} {o : Obj} (h : Walk B w bw tv vo vp out path) (hg : (w.alloc o).grownBy w1 vp.ownBlock) : w1.cell? ⟨bw, 2, none⟩ = some vp ∧ w1.frozen? ⟨bw, 2, none⟩ = false := by
 have hb : w1.heap[bw]? = w.heap[bw]? := by
  rw [hg.block bw (by have := h.lt; simp; omega) (fun e => h.bp e.symm)]
  exact Below.heap_alloc w o bw h.lt
 refine ⟨?_, ?_⟩
 ·rw [World.cell?_of_block (w := w) hb]; exact h.cells.2.2.1
 ·rw [World.frozen?_of_block (w := w) hb]; exact h.cells.2.2.2.2
theorem walkM_at {w : World} {bw : Nat} {vo vp vo' vp' : Value} (h1 : AtOr w vo.ownBlock vo'.ownBlock) (h2 : AtOr w vp.ownBlock vp'.ownBlock) (k : Nat) (h : WalkM bw vo' vp' k) : WalkM bw vo vp k ∨ w.heap.size ≤ k := by
 rcases h with h | h | h
 ·exact .inl (.inl h)
 ·rcases h1 with e | ⟨j, e, hj⟩
  ·exact .inl (.inr (.inl (by rw [← e]; exact h)))
  ·rw [e] at h; cases h; exact .inr hj
 ·rcases h2 with e | ⟨j, e, hj⟩
  ·exact .inl (.inr (.inr (by rw [← e]; exact h)))
  ·rw [e] at h; cases h; exact .inr hj
def DownC (w0 : World) (A : Option Addr) (c : Nat) (T : List Rec) (fuel : Nat) : Prop :=
 ∀ (d : Int) (out path : List Int) (bw : Nat) (vo vp : Value) (w : World), -2147483648 ≤ d → d ≤ 2147483647 → Below w0.heap.size w0 w → path.length + fuel = 16 → out.length ≤ 32 → Walk w0.heap.size w bw (.slice A T.length c) vo vp out path →
   Calls Tryz.prog 191 #[.pointer (some ⟨bw, 0, none⟩), .int .i32 d] w (RetDown (walkF T fuel d path out) w0.heap.size bw (.slice A T.length c) vo vp path w)
theorem down_leaf (w0 : World) (A : Option Addr) (c : Nat) (T : List Rec) (hT : Table w0 A T) (hR : ∀ x ∈ T, Right x) (hW : ∀ x ∈ T, x.Wf) (hl : T.length ≤ 4096) (fuel : Nat) (d : Int) (out path : List Int) (bw : Nat) (vo vp : Value) (w : World) (hd1 : -2147483648 ≤ d) (hd2 : d ≤ 2147483647) (hB : Below w0.heap.size w0 w)
 (hol : out.length ≤ 32) (hwk : Walk w0.heap.size w bw (.slice A T.length c) vo vp out path) (ho : openF T d = []) :
 Calls Tryz.prog 191 #[.pointer (some ⟨bw, 0, none⟩), .int .i32 d] w (RetDown (walkF T fuel d path out) w0.heap.size bw (.slice A T.length c) vo vp path w) := by
 rw [walkF_nil ho]
 have hu192 := Tryz.underlying212
 have HT := Az.mk (hT.up hB)
 have HR := Az.mk hR
 have HW := Az.mk hW
 have HO := Az.mk ho
 have HWK := Az.mk hwk
 have HB := Az.mk hB
 have hbi := fun a W => build_i32 a W
 obtain ⟨ie, ze, hie, hze, hsi, hby, hzc⟩ := i32_info
 have HLEN : Az (out.length + 1 ≤ maxLen ∧ (out.length + 1) * 4 ≤ 140737488355328) := ⟨by unfold maxLen; omega⟩
 obtain ⟨Ao, co, rfl⟩ := own_any hwk.out
 obtain ⟨b0, b1, b2, g1, g2⟩ := hwk.cells
 clear hT hR hW ho hB hwk
 by_cases hfull : out.length = 32
 ·rw [if_pos hfull]
  have d1 : ((out.length : Int) == 32) = true := beq_iff_eq.mpr (by omega)
  have d2 : (out.length == 32) = true := beq_iff_eq.mpr hfull
  clear hfull
  go_enter Tryz.func191, Tryz.ntmps191
  go_wp2_with (first | (go_at_call 83; (with_reducible refine (Open_calls A c T d _ HT.out HR.out HW.out hl hd1 hd2).mono ?_); rintro e w2 ⟨v, rfl, hownx, hb2⟩; rw [HO.out] at hownx; obtain ⟨Ax, cx, rfl⟩ := own_any hownx; clear hownx; obtain ⟨c0, c1, c2, f1, f2⟩ := (HWK.out.up hb2).cells))
  exact ⟨rfl, rfl, Chg.of_up hb2⟩
 ·rw [if_neg hfull]
  have d1 : ((out.length : Int) == 32) = false := bqf (by omega)
  have d2 : (out.length == 32) = false := bqf hfull
  have HL32 : Az ((out ++ [d]).length ≤ 32) := ⟨by simp; omega⟩
  clear hfull
  go_enter Tryz.func191, Tryz.ntmps191
  go_wp2_with (first | (go_at_call 83; (with_reducible refine (Open_calls A c T d _ HT.out HR.out HW.out hl hd1 hd2).mono ?_); rintro e w2 ⟨v, rfl, hownx, hb2⟩; rw [HO.out] at hownx; obtain ⟨Ax, cx, rfl⟩ := own_any hownx; clear hownx; obtain ⟨c0, c1, c2, f1, f2⟩ := (HWK.out.up hb2).cells) | (at_builtin; refine wpList_append_row _ rfl _ _ 23 rfl w0.heap.size 21 ie ze 1 4 Tryz.underlying23 hie hze hsi hby hzc (by decide) (.slice Ao out.length co) out.length (out.map (Value.int .i32)) rfl ((HWK.out.up hb2).out.alloc _) (some ⟨w2.heap.size, 0, none⟩) 1 1 [.int .i32 d] rfl rfl (cells_one _ _ _) (ints_one .i32 [d]) ?ha ?hb ?hc ?_; (case ha => exact HLEN.out.1); (case hb => exact HLEN.out.2); (case hc => exact Nat.le_trans HB.out.size (up_trans hb2 (up_alloc (up_refl _) _)).size); intro v3 w3 hown3 hgrow3 hat3; have hs3 := Walk.setOut (out' := out ++ [d]) (HWK.out.up hb2) (by simpa using hown3) hgrow3 hat3; have hcc := box_cells (HWK.out.up hb2) hgrow3; obtain ⟨cc1, cf1⟩ := hcc; obtain ⟨A3, c3, rfl⟩ := own_any hown3))
  refine bodyPost_ret (results_none rfl _ _ _) rfl ?_
  exact ⟨_, _, rfl, hs3.1, (Chg.of_up (M := WalkM bw (.slice Ao out.length co) vp) hb2).trans hs3.2.1 (fun k h => .inl h), AtOr.trans (.inl rfl) hs3.2.2 hb2.size, .inl rfl, HL32.out⟩
theorem down_node (w0 : World) (A : Option Addr) (c : Nat) (T : List Rec) (hT : Table w0 A T) (hR : ∀ x ∈ T, Right x) (hW : ∀ x ∈ T, x.Wf) (hl : T.length ≤ 4096) (fuel : Nat) (IH : ∀ m, fuel = m + 1 → DownC w0 A c T m) (d : Int) (out path : List Int) (bw : Nat) (vo vp : Value) (w : World) (hd1 : -2147483648 ≤ d) (hd2 : d ≤ 2147483647) (hB : Below w0.heap.size w0 w)
 (hfu : path.length + fuel = 16) (hol : out.length ≤ 32) (hwk : Walk w0.heap.size w bw (.slice A T.length c) vo vp out path) (ho : openF T d ≠ []) :
 Calls Tryz.prog 191 #[.pointer (some ⟨bw, 0, none⟩), .int .i32 d] w (RetDown (walkF T fuel d path out) w0.heap.size bw (.slice A T.length c) vo vp path w) := by
 have hu192 := Tryz.underlying212
 have HT := Az.mk (hT.up hB)
 have HR := Az.mk hR
 have HW := Az.mk hW
 have HWK := Az.mk hwk
 have HB := Az.mk hB
 have HIH := Az.mk IH
 have hbi := fun a W => build_i32 a W
 obtain ⟨ie, ze, hie, hze, hsi, hby, hzc⟩ := i32_info
 have hwl : path.length ≤ 16 := by omega
 have HLEN : Az (path.length + 1 ≤ maxLen ∧ (path.length + 1) * 4 ≤ 140737488355328) := ⟨by unfold maxLen; omega⟩
 obtain ⟨r, hr⟩ : ∃ r, walkF T fuel d path out = r := ⟨_, rfl⟩
 rw [hr]
 have HRES := Az.mk hr
 obtain ⟨X, hX⟩ : ∃ X, openF T d = X := ⟨_, rfl⟩
 have HXR : Az (∀ t ∈ X, -2147483648 ≤ t ∧ t ≤ 2147483647) := ⟨by rw [← hX]; exact openF_range hW⟩
 have hXl : X.length ≤ 35184372087808 := by have := openF_len (T := T) (d := d) hW; rw [hX] at this; omega
 have hX1 : 0 < X.length := List.length_pos_iff.2 (by rw [← hX]; exact ho)
 have z1 : ((X.length : Int) == 0) = false := bqf (by omega)
 have HO := Az.mk hX
 have HFU := Az.mk hfu
 have HNE := Az.mk ho
 obtain ⟨Ap, cp, rfl⟩ := own_any hwk.path
 obtain ⟨b0, b1, b2, g1, g2⟩ := hwk.cells
 have HPR : Az (Ints .i32 w Ap path) := ⟨by
  obtain ⟨A2, c2, h1, h2, _⟩ := own_ints hwk.path
  simp only [Value.slice.injEq] at h1
  obtain ⟨rfl, _⟩ := h1
  exact h2⟩
 clear hT hR hW hB IH hr hX hfu ho hwk
 go_enter Tryz.func191, Tryz.ntmps191
 go_wp2_with (first | (go_at_call 83; (with_reducible refine (Open_calls A c T d _ HT.out HR.out HW.out hl hd1 hd2).mono ?_); rintro e w2 ⟨v, rfl, hownx, hb2⟩; rw [HO.out] at hownx; obtain ⟨Ax, cx, rfl⟩ := own_any hownx; have HXO := Az.mk hownx; clear hownx; obtain ⟨c0, c1, c2, f1, f2⟩ := (HWK.out.up hb2).cells))
 have HB2 := Az.mk hb2
 clear hb2
 go_loopg [40] path.length (fun k v40 w' => ∃ i : Nat, v40 = .int .i64 i ∧ Az (i + k = path.length ∧ ∀ j, j < i → rd path (j : Int) ≠ d) ∧ w2 = w')
 case atStart => exact ⟨0, rfl, ⟨Nat.zero_add _, fun j hj => absurd hj (Nat.not_lt_zero _)⟩, rfl⟩
 case round =>
  obtain ⟨i, rfl, HI, hww⟩ := hrel
  subst hww
  have hi := HI.out.1
  cases gk with
  | succ k =>
    have hlt : decide ((i : Int) < (path.length : Int)) = true := dTz (by omega)
    have hln : decide (i < path.length) = true := dTz (by omega)
    have p1 : 0 ≤ (i : Int) := by omega
    have p2 : (i : Int) < (path.length : Int) := by omega
    obtain ⟨ad, hA, hcell⟩ := Ints.at_ HPR.out i p1 p2
    replace hcell := up_cell HB2.out hcell
    rw [Int.toNat_natCast] at hcell
    subst hA
    by_cases hq : rd path (i : Int) = d
    ·have t1 : (rd path (i : Int) == d) = true := beq_iff_eq.mpr hq
     have hmem : d ∈ path := by
      rw [rd_get path i (by omega)] at hq
      rw [← hq]
      exact List.getElem_mem _
     have h1 := walkF_loop (fuel := fuel) (out := out) HNE.out hmem
     rw [HRES.out] at h1
     subst h1
     clear hq hmem
     go_wp2
     exact ⟨rfl, rfl, Chg.of_up HB2.out⟩
    ·have t1 : (rd path (i : Int) == d) = false := bqf hq
     have HQ := Az.mk hq
     clear hq
     go_wp2
     go_roundg k
     case measure => have := HI.out.1; omega
     case rel => exact ⟨i + 1, rfl, ⟨by have := HI.out.1; omega, fun j hj => by
      by_cases hji : j = i
      ·subst hji; exact HQ.out
      ·exact HI.out.2 j (by omega)⟩, rfl⟩
  | zero =>
    have hlt : decide ((i : Int) < (path.length : Int)) = false := dFz (by omega)
    have hln : decide (i < path.length) = false := dFz (by omega)
    have HNM : Az (d ∉ path) := ⟨fun hm => by
     obtain ⟨j, hj, hjd⟩ := List.getElem_of_mem hm
     exact HI.out.2 j (by omega) (by rw [rd_get path j hj]; exact hjd)⟩
    clear HI hi
    cases fuel with
    | zero =>
      have t2 : decide ((16 : Int) ≤ (path.length : Int)) = true := dTz (by have := HFU.out; omega)
      have t3 : decide (16 ≤ path.length) = true := dTz (by have := HFU.out; omega)
      have h1 := walkF_deep (out := out) HNE.out HNM.out
      rw [HRES.out] at h1
      subst h1
      go_wp2
      exact ⟨rfl, rfl, Chg.of_up HB2.out⟩
    | succ fuel =>
      have t2 : decide ((16 : Int) ≤ (path.length : Int)) = false := dFz (by have := HFU.out; omega)
      have t3 : decide (16 ≤ path.length) = false := dFz (by have := HFU.out; omega)
      go_wp2_with (first | (at_builtin; refine wpList_append_row _ rfl _ _ 23 rfl w0.heap.size 21 ie ze 1 4 Tryz.underlying23 hie hze hsi hby hzc (by decide) (.slice Ap path.length cp) path.length (path.map (Value.int .i32)) rfl ((HWK.out.up HB2.out).path.alloc _) (some ⟨w2.heap.size, 0, none⟩) 1 1 [.int .i32 d] rfl rfl (cells_one _ _ _) (ints_one .i32 [d]) ?ha ?hb ?hc ?_; (case ha => exact HLEN.out.1); (case hb => exact HLEN.out.2); (case hc => exact Nat.le_trans HB.out.size (up_trans HB2.out (up_alloc (up_refl _) _)).size); intro v3 w3 hown3 hgrow3 hat3; have hs3 := Walk.setPath (path' := path ++ [d]) (HWK.out.up HB2.out) (by simpa using hown3) hgrow3 hat3; obtain ⟨cc2, cf2⟩ := box_cells2 (HWK.out.up HB2.out) hgrow3; obtain ⟨A3, c3, rfl⟩ := own_any hown3))
      obtain ⟨hwk3, hch3, hat3'⟩ := hs3
      have HXC : Az (Ints .i32 w2 Ax X) := ⟨by
       obtain ⟨A2, c2, h1, h2, _⟩ := own_ints HXO.out
       simp only [Value.slice.injEq] at h1
       obtain ⟨rfl, _⟩ := h1
       exact h2⟩
      have HAX : Az (∀ ad, Ax = some ad → ¬ WalkM bw vo (.slice Ap path.length cp) ad.block) := ⟨fun ad h => by
       subst h
       have hx := HXO.out.lt ad.block rfl
       rintro (e | e | e)
       ·have := HWK.out.lt; omega
       ·have := (HWK.out.out.lt _ e).2; omega
       ·have := (HWK.out.path.lt _ e).2; omega⟩
      have HR0 : Az (X.foldlM (fun o t => walkF T fuel t (path ++ [d]) o) out = r) := ⟨by
       rw [← HO.out, ← walkF_step HNE.out HNM.out]; exact HRES.out⟩
      have HWL : Az ((path ++ [d]).length + fuel = 16) := ⟨by have := HFU.out; simp; omega⟩
      have HWK3 := Az.mk hwk3
      have HCH3 := Az.mk hch3
      have HAT3 := Az.mk hat3'
      clear hwk3 hch3 hat3' hown3 hgrow3 hat3 cc2 cf2 b0 b1 b2 g1 g2 c0 c1 c2 f1 f2
      go_loopg [68] X.length (fun k v68 w' => ∃ i : Nat, v68 = .int .i64 i ∧ Az (i + k = X.length) ∧ ∃ o vo' vp', Az (o.length ≤ 32 ∧ (X.drop i).foldlM (fun o t => walkF T fuel t (path ++ [d]) o) o = r ∧ Walk w0.heap.size w' bw (.slice A T.length c) vo' vp' o (path ++ [d]) ∧ Chg (WalkM bw vo (.slice Ap path.length cp)) w2 w' ∧ AtOr w2 vo.ownBlock vo'.ownBlock ∧ AtOr w2 (Value.slice Ap path.length cp).ownBlock vp'.ownBlock))
      case atStart => exact ⟨0, rfl, ⟨Nat.zero_add _⟩, out, _, _, ⟨hol, HR0.out, HWK3.out, HCH3.out, .inl rfl, HAT3.out⟩⟩
      case round =>
       obtain ⟨i, rfl, HI, o, vo', vp', HQ⟩ := hrel
       have hi := HI.out
       cases gk with
       | zero =>
         have hlt : decide ((i : Int) < (X.length : Int)) = false := dFz (by omega)
         have hln : decide (i < X.length) = false := dFz (by omega)
         obtain ⟨q1, q2, q3, q4, q5, q6⟩ := HQ.out
         rw [List.drop_of_length_le (by omega)] at q2
         have q2' : Except.ok o = r := q2
         subst q2'
         obtain ⟨b0, b1, b2, g1, g2⟩ := q3.cells
         have hpp := q3.path
         rcases own_cases hpp with ⟨_, hn0, _⟩ | ⟨g, cap, rfl, _, _, _⟩
         ·simp at hn0
         have hpl : (path ++ [d]).length = path.length + 1 := by simp
         rw [hpl] at q3 b2
         have HQ3 := Az.mk q3
         have HQ6 := Az.mk q6
         have hcap : path.length + 1 ≤ cap := by
          rcases q3.path.2 with ⟨h1, _⟩ | ⟨_, _, _, hv, _, _, h1, _⟩
          ·cases h1
          ·simp only [Value.slice.injEq] at hv
           have := hv.2.2
           have h2 : (path ++ [d]).length = path.length + 1 := by simp
           omega
         clear q1 q2 q3 q4 q5 q6 hpp hpl
         have hc0 : path.length ≤ cap := by omega
         have hc1 : (path.length : Int) ≤ (cap : Int) := by omega
         have hc2 : 0 ≤ (path.length : Int) := by omega
         have hwr : IntKind.i64.wrap (path.length : Int) = (path.length : Int) := by rw [IntKind.wrap_i64]; omega
         go_wp2
         go_still_tail 14, (by kernel_rfl)
         go_wp2
         obtain ⟨q1, q2, q3, q4, q5, q6⟩ := HQ.out
         refine bodyPost_ret (results_none rfl _ _ _) rfl ?_
         have hfin : Chg (WalkM bw vo (.slice Ap path.length cp)) w (wr.setCell ⟨bw, 2, none⟩ (.slice (some ⟨g, 0, none⟩) path.length cap)) :=
          (Chg.of_up (M := WalkM bw vo (.slice Ap path.length cp)) HB2.out).trans (q4.trans (Chg.of_set (M := WalkM bw vo (.slice Ap path.length cp)) wr ⟨bw, 2, none⟩ _ (.inl rfl)) (fun k h => .inl h)) (fun k h => .inl h)
         exact ⟨_, _, rfl, (HQ3.out.back (n := 0)).up (up_drew (up_refl _)), hfin.trans (Chg.of_up (M := WalkM bw vo (.slice Ap path.length cp)) (up_drew (up_refl _))) (fun k h => .inl h), AtOr.trans (.inl rfl) q5 HB2.out.size, AtOr.trans (.inl rfl) HQ6.out HB2.out.size, q1⟩
       | succ k =>
         have hlt : decide ((i : Int) < (X.length : Int)) = true := dTz (by omega)
         have hln : decide (i < X.length) = true := dTz (by omega)
         have p1 : 0 ≤ (i : Int) := by omega
         have p2 : (i : Int) < (X.length : Int) := by omega
         obtain ⟨q1, q2, q3, q4, q5, q6⟩ := HQ.out
         obtain ⟨ad, hA, hcell⟩ := Ints.at_ (cells_chg HXC.out q4 HAX.out) i p1 p2
         rw [Int.toNat_natCast] at hcell
         have hrng := HXR.out (rd X (i : Int)) (by rw [rd_get X i (by omega)]; exact List.getElem_mem _)
         have hMb : ∀ k, WalkM bw vo (.slice Ap path.length cp) k → w0.heap.size ≤ k := by
          rintro k (e | e | e)
          ·rw [e]; exact HWK.out.base
          ·exact (HWK.out.out.lt k e).1
          ·exact (HWK.out.path.lt k e).1
         have hcall := HIH.out fuel rfl (rd X (i : Int)) o (path ++ [d]) bw vo' vp' wr hrng.1 hrng.2 ((HB.out.trans (HB2.out.mono HB.out.size)).trans (q4.below (Nat.le_trans HB.out.size HB2.out.size) hMb)) HWL.out q1 q3
         rw [fold_drop _ X i o (by omega), ← rd_get X i (by omega)] at q2
         have HQ4 := Az.mk q4
         have HQ5 := Az.mk q5
         have HQ6 := Az.mk q6
         subst hA
         cases hres : walkF T fuel (rd X (i : Int)) (path ++ [d]) o with
         | error n =>
           rw [hres] at q2 hcall
           have q2' : Except.error n = r := q2
           subst q2'
           have HC := Az.mk hcall
           clear hcall q1 q2 q3 q4 q5 q6 hres hrng hMb
           go_wp2_with (first | (go_at_call 191; (with_reducible refine (HC.out).mono ?_); rintro e w5 ⟨rfl, hg5⟩))
           exact ⟨rfl, rfl, (Chg.of_up (M := WalkM bw vo (.slice Ap path.length cp)) HB2.out).trans (HQ4.out.trans hg5 (fun k h => walkM_at HQ5.out HQ6.out k h)) (fun k h => .inl h)⟩
         | ok l =>
           rw [hres] at q2 hcall
           have q2' : (X.drop (i + 1)).foldlM (fun o t => walkF T fuel t (path ++ [d]) o) l = r := q2
           have HC := Az.mk hcall
           have HQ2 := Az.mk q2'
           clear hcall q1 q2 q2' q3 q4 q5 q6 hres hrng hMb
           go_wp2_with (first | (go_at_call 191; (with_reducible refine (HC.out).mono ?_); rintro e w5 ⟨vo5, vp5, rfl, hwk5, hg5, ha5, hb5, hl5⟩))
           go_roundg k
           case measure => have := HI.out; omega
           case rel => exact ⟨i + 1, rfl, ⟨by have := HI.out; omega⟩, l, _, _, ⟨hl5, HQ2.out, hwk5, HQ4.out.trans hg5 (fun k h => walkM_at HQ5.out HQ6.out k h), AtOr.trans HQ5.out ha5 HQ4.out.size, AtOr.trans HQ6.out hb5 HQ4.out.size⟩⟩
theorem down_calls (w0 : World) (A : Option Addr) (c : Nat) (T : List Rec) (hT : Table w0 A T) (hR : ∀ x ∈ T, Right x) (hW : ∀ x ∈ T, x.Wf) (hl : T.length ≤ 4096) : ∀ fuel, DownC w0 A c T fuel := by
 have step : ∀ fuel, (∀ m, fuel = m + 1 → DownC w0 A c T m) → DownC w0 A c T fuel := by
  intro fuel IH d out path bw vo vp w hd1 hd2 hB hfu hol hwk
  by_cases ho : openF T d = []
  ·exact down_leaf w0 A c T hT hR hW hl fuel d out path bw vo vp w hd1 hd2 hB hol hwk ho
  ·exact down_node w0 A c T hT hR hW hl fuel IH d out path bw vo vp w hd1 hd2 hB hfu hol hwk ho
 intro fuel
 induction fuel with
 | zero => exact step 0 (fun m h => by cases h)
 | succ m ih => exact step (m + 1) (fun k h => by cases h; exact ih)
end Go.Proofs.YtnohcnneflogjaaGreat.M
namespace Go.Proofs.YtnohcnneflogjaaGreat.M
open Go.RowKit
theorem assert_some (n : Int) (w : World) : (Instr.typeAssert (.iface 30 (.int .i64 n)) 20 30 true).run Tryz.prog w = .ok (.tuple #[.int .i64 n, .bool true]) w := by kernel_rfl
theorem assert_none (w : World) : (Instr.typeAssert .nilIface 20 30 true).run Tryz.prog w = .ok (.tuple #[.int .i64 0, .bool false]) w := by kernel_rfl
theorem catch_panicking (p q : Addr) (n : Int) (x y : Value) (older : List PanicEntry) (w : World) (hx : w.cell? p = some x) (hfx : w.frozen? p = false) (hy : w.cell? q = some y) (hfy : w.frozen? q = false) (hpq : q ≠ p) :
 CallsD Tryz.prog 190 #[.pointer (some p), .pointer (some q)] (.panicking ({ v := .iface 30 (.int .i64 n), recovered := false } :: older)) w fun e u' w' =>
  e = .returned (.tuple #[]) ∧ u' = .panicking ({ v := .iface 30 (.int .i64 n), recovered := true } :: older) ∧ w' = (w.setCell p nilS).setCell q (.int .i64 n) := by
 have h1 := assert_some n
 refine callsD_of_wpS Tryz.func190 rfl fun c₀ cs hu => ?_
 apply wpS_seq
 apply wpS_region
 simp [wpOpsS, go_sem, recoverD, hu, Tryz.ntmps190, Exit.thenS, h1]
 apply wpS_seq
 apply wpS_region
 simp [wpOpsS, go_sem, Exit.thenS]
 refine wpS_cond (t := true) (by simp [Act.eval, Array.replicate]) ?_
 simp only [if_true]
 apply wpS_region
 have hy2 : (w.setCell p nilS).cell? q = some y := by rw [World.cell?_setCell_other _ _ _ _ (Ne.symm hpq)]; exact hy
 have hfy2 : (w.setCell p nilS).frozen? q = false := by rw [World.frozen?_setCell]; exact hfy
 simp [wpOpsS, go_sem, hx, hfx, hy2, hfy2, bodyPostS, results, Tryz.results190, Array.replicate]
theorem catch_idle (p q : Addr) (w : World) :
 CallsD Tryz.prog 190 #[.pointer (some p), .pointer (some q)] .returning w fun e u' w' => e = .returned (.tuple #[]) ∧ u' = .returning ∧ w' = w := by
 have h1 := assert_none
 refine callsD_of_wpS Tryz.func190 rfl fun c₀ cs hu => ?_
 apply wpS_seq
 apply wpS_region
 simp [wpOpsS, go_sem, recoverD, hu, Tryz.ntmps190, Exit.thenS, h1]
 apply wpS_seq
 apply wpS_region
 simp [wpOpsS, go_sem, Exit.thenS]
 refine wpS_cond (t := false) (by simp [Act.eval, Array.replicate]) ?_
 simp only [Bool.false_eq_true, if_false]
 refine wpS_of_wp (wp_skip ?_)
 cases c₀
 simp_all [bodyPostS, results, Tryz.results190]
theorem full_x {w W w5 : World} {o : Obj} (h : W.heap[w.heap.size]? = some o) (hg : Chg (WalkM (w.heap.size + 1 + 1) nilS nilS) W w5) (hs : W.heap.size = w.heap.size + 1 + 1 + 1) : w5.heap[w.heap.size]? = some o := by
 rw [hg.block _ (by omega) (by rintro (h | h | h); omega; cases h; cases h)]
 exact h
theorem full_y {w W w5 : World} {o : Obj} (h : W.heap[w.heap.size + 1]? = some o) (hg : Chg (WalkM (w.heap.size + 1 + 1) nilS nilS) W w5) (hs : W.heap.size = w.heap.size + 1 + 1 + 1) : w5.heap[w.heap.size + 1]? = some o := by
 rw [hg.block _ (by omega) (by rintro (h | h | h); omega; cases h; cases h)]
 exact h
theorem Full_calls (A : Option Addr) (c : Nat) (T : List Rec) (d : Int) (w : World) (hT : Table w A T) (hR : ∀ x ∈ T, Right x) (hW : ∀ x ∈ T, x.Wf) (hl : T.length ≤ 4096) (hd1 : -2147483648 ≤ d) (hd2 : d ≤ 2147483647) :
 Calls Tryz.prog 161 #[.slice A T.length c, .int .i32 d] w (RetFull (fullF T d) w) := by
 have hu192 := Tryz.underlying212
 have hmf : ∀ (fn : Fn) (first cap : Array Value) (w : World), (Instr.makeFunc fn first cap).run Tryz.prog w = .ok (.func fn first cap) w := fun _ _ _ _ => rfl
 have HF : Az (Walk w.heap.size (((w.alloc (.cells #[.slice none 0 0] 23)).alloc (.cells #[.int .i64 0] 30)).alloc (.cells #[.slice A T.length c, .slice none 0 0, .slice none 0 0] 212)) (w.heap.size + 1 + 1) (.slice A T.length c) nilS nilS [] []) := ⟨by
  have hn : ((w.alloc (.cells #[.slice none 0 0] 23)).alloc (.cells #[.int .i64 0] 30)).heap.size = w.heap.size + 1 + 1 := by simp
  refine ⟨?_, World.ownsRow_nil _ _ _ _, World.ownsRow_nil _ _ _ _, by omega, by simp [Value.ownBlock], by simp [Value.ownBlock], fun k hk => by cases hk⟩
  have := heap_alloc_new ((w.alloc (.cells #[.slice none 0 0] 23)).alloc (.cells #[.int .i64 0] 30)) (.cells #[.slice A T.length c, .slice none 0 0, .slice none 0 0] 212)
  rwa [hn] at this⟩
 have HU : Az (Up w (((w.alloc (.cells #[.slice none 0 0] 23)).alloc (.cells #[.int .i64 0] 30)).alloc (.cells #[.slice A T.length c, .slice none 0 0, .slice none 0 0] 212))) := ⟨up_alloc (up_alloc (up_alloc (up_refl _) _) _) _⟩
 have hcall := down_calls w A c T hT hR hW hl 16 d [] [] (w.heap.size + 1 + 1) nilS nilS _ hd1 hd2 HU.out rfl (by decide) HF.out
 have hf : walkF T 16 d [] [] = fullF T d := rfl
 rw [hf] at hcall
 have hx0 : (((w.alloc (.cells #[.slice none 0 0] 23)).alloc (.cells #[.int .i64 0] 30)).alloc (.cells #[.slice A T.length c, .slice none 0 0, .slice none 0 0] 212)).heap[w.heap.size]? = some (.cells #[.slice none 0 0] 23 (0, 0)) := by
  rw [Below.heap_alloc _ _ _ (by simp; omega), Below.heap_alloc _ _ _ (by simp)]
  exact heap_alloc_new w _
 have hy0 : (((w.alloc (.cells #[.slice none 0 0] 23)).alloc (.cells #[.int .i64 0] 30)).alloc (.cells #[.slice A T.length c, .slice none 0 0, .slice none 0 0] 212)).heap[w.heap.size + 1]? = some (.cells #[.int .i64 0] 30 (0, 0)) := by
  rw [Below.heap_alloc _ _ _ (by simp)]
  have := heap_alloc_new (w.alloc (.cells #[.slice none 0 0] 23)) (.cells #[.int .i64 0] 30)
  rwa [show (w.alloc (.cells #[.slice none 0 0] 23)).heap.size = w.heap.size + 1 by simp] at this
 have HX0 := Az.mk hx0
 have HY0 := Az.mk hy0
 have HS3 : Az ((((w.alloc (.cells #[.slice none 0 0] 23)).alloc (.cells #[.int .i64 0] 30)).alloc (.cells #[.slice A T.length c, .slice none 0 0, .slice none 0 0] 212)).heap.size = w.heap.size + 1 + 1 + 1) := ⟨by simp⟩
 clear hT hR hW hf hx0 hy0
 cases hr : fullF T d with
 | error n =>
   have HNE : Az (n ≠ 0) := ⟨walkF_err hr⟩
   rw [hr] at hcall
   have HC := Az.mk hcall
   clear hcall hr
   go_enter_defers Tryz.func161, Tryz.ntmps161
   go_wp2_with (first | (go_at_call 191; (with_reducible refine (HC.out).mono ?_); rintro e w5 ⟨rfl, hg5⟩))
   have hx5 : w5.heap[w.heap.size]? = some (.cells #[.slice none 0 0] 23 (0, 0)) := by
    rw [hg5.block _ (by rw [HS3.out]; omega) (by rintro (h | h | h); omega; cases h; cases h)]
    exact HX0.out
   have hy5 : w5.heap[w.heap.size + 1]? = some (.cells #[.int .i64 0] 30 (0, 0)) := by
    rw [hg5.block _ (by rw [HS3.out]; omega) (by rintro (h | h | h); omega; cases h; cases h)]
    exact HY0.out
   have hu5 : Up w w5 := HU.out.trans (hg5.below (by rw [HS3.out]; omega) (by rintro k (h | h | h); omega; cases h; cases h))
   refine leaves_cons (f := 190) (args := #[.pointer (some ⟨w.heap.size, 0, none⟩), .pointer (some ⟨w.heap.size + 1, 0, none⟩)]) (by simp) (by simp [go_sem]) ?_
   refine (catch_panicking ⟨w.heap.size, 0, none⟩ ⟨w.heap.size + 1, 0, none⟩ n (.slice none 0 0) (.int .i64 0) [] w5 ?_ ?_ ?_ ?_ ?_).mono ?_
   ·simp [World.cell?, hx5]
   ·simp [World.frozen?, hx5]
   ·simp [World.cell?, hy5]
   ·simp [World.frozen?, hy5]
   ·simp
   rintro e u' w'' ⟨rfl, rfl, rfl⟩
   have hx6 : ((w5.setCell ⟨w.heap.size, 0, none⟩ nilS).setCell ⟨w.heap.size + 1, 0, none⟩ (.int .i64 n)).heap[w.heap.size]? = some (.cells #[nilS] 23 (0, 0)) := by
    rw [Below.heap_setCell _ _ _ _ (by simp), box_set hx5]
    rfl
   have hy6 : ((w5.setCell ⟨w.heap.size, 0, none⟩ nilS).setCell ⟨w.heap.size + 1, 0, none⟩ (.int .i64 n)).heap[w.heap.size + 1]? = some (.cells #[.int .i64 n] 30 (0, 0)) := by
    have : (w5.setCell ⟨w.heap.size, 0, none⟩ nilS).heap[w.heap.size + 1]? = some (.cells #[.int .i64 0] 30 (0, 0)) := by
     rw [Below.heap_setCell _ _ _ _ (by simp)]
     exact hy5
    rw [box_set this]
    rfl
   have hu6 : Up w ((w5.setCell ⟨w.heap.size, 0, none⟩ nilS).setCell ⟨w.heap.size + 1, 0, none⟩ (.int .i64 n)) := (hu5.setCell (Nat.le_refl _) _).setCell (by simp) _
   generalize (w5.setCell ⟨w.heap.size, 0, none⟩ nilS).setCell ⟨w.heap.size + 1, 0, none⟩ (.int .i64 n) = w6 at *
   have hc1 : w6.cell? ⟨w.heap.size, 0, none⟩ = some nilS := by simp [World.cell?, hx6]
   have hc2 : w6.cell? ⟨w.heap.size + 1, 0, none⟩ = some (.int .i64 n) := by simp [World.cell?, hy6]
   simp [Leaves, settle, results, Tryz.results161, go_sem, hc1, hc2]
   exact ⟨rfl, hu6, HNE.out⟩
 | ok l =>
   rw [hr] at hcall
   have HC := Az.mk hcall
   clear hcall hr
   go_enter_defers Tryz.func161, Tryz.ntmps161
   go_wp2_with fail
   refine (HC.out).mono ?_
   rintro e w5 ⟨vo5, vp5, rfl, hwk5, hg5, ha5, hb5, hl5⟩
   obtain ⟨Ao, co, rfl⟩ := own_any hwk5.out
   have hx5 : w5.heap[w.heap.size]? = some (.cells #[.slice none 0 0] 23 (0, 0)) := full_x HX0.out hg5 HS3.out
   have hy5 : w5.heap[w.heap.size + 1]? = some (.cells #[.int .i64 0] 30 (0, 0)) := full_y HY0.out hg5 HS3.out
   obtain ⟨b0, b1, b2, g1, g2⟩ := hwk5.cells
   have m1 : w5.cell? ⟨w.heap.size, 0, none⟩ = some (.slice none 0 0) := by simp [World.cell?, hx5]
   have m2 : w5.cell? ⟨w.heap.size + 1, 0, none⟩ = some (.int .i64 0) := by simp [World.cell?, hy5]
   have m3 : w5.frozen? ⟨w.heap.size, 0, none⟩ = false := by simp [World.frozen?, hx5]
   have m4 : w5.frozen? ⟨w.heap.size + 1, 0, none⟩ = false := by simp [World.frozen?, hy5]
   have HX5 := Az.mk hx5
   have HY5 := Az.mk hy5
   have HWK5 := Az.mk hwk5
   have HG5 := Az.mk hg5
   clear hx5 hy5 hwk5 hg5 ha5 hb5
   go_wp2
   refine leaves_cons (f := 190) (args := #[.pointer (some ⟨w.heap.size, 0, none⟩), .pointer (some ⟨w.heap.size + 1, 0, none⟩)]) (by simp) (by simp [go_sem]) ?_
   refine (catch_idle ⟨w.heap.size, 0, none⟩ ⟨w.heap.size + 1, 0, none⟩ _).mono ?_
   rintro e u' w'' ⟨rfl, rfl, rfl⟩
   have hx6 : ((w5.setCell ⟨w.heap.size, 0, none⟩ (.slice Ao l.length co)).setCell ⟨w.heap.size + 1, 0, none⟩ (.int .i64 0)).heap[w.heap.size]? = some (.cells #[.slice Ao l.length co] 23 (0, 0)) := by
    rw [Below.heap_setCell _ _ _ _ (by simp), box_set HX5.out]
    rfl
   have hy6 : ((w5.setCell ⟨w.heap.size, 0, none⟩ (.slice Ao l.length co)).setCell ⟨w.heap.size + 1, 0, none⟩ (.int .i64 0)).heap[w.heap.size + 1]? = some (.cells #[.int .i64 0] 30 (0, 0)) := by
    have : (w5.setCell ⟨w.heap.size, 0, none⟩ (.slice Ao l.length co)).heap[w.heap.size + 1]? = some (.cells #[.int .i64 0] 30 (0, 0)) := by
     rw [Below.heap_setCell _ _ _ _ (by simp)]
     exact HY5.out
    rw [box_set this]
    rfl
   have hu5 : Up w w5 := HU.out.trans (HG5.out.below (by rw [HS3.out]; omega) (by rintro k (h | h | h); omega; cases h; cases h))
   have hu6 : Up w ((w5.setCell ⟨w.heap.size, 0, none⟩ (.slice Ao l.length co)).setCell ⟨w.heap.size + 1, 0, none⟩ (.int .i64 0)) := (hu5.setCell (Nat.le_refl _) _).setCell (by simp) _
   have hrow : ((w5.setCell ⟨w.heap.size, 0, none⟩ (.slice Ao l.length co)).setCell ⟨w.heap.size + 1, 0, none⟩ (.int .i64 0)).ownsRow w.heap.size 21 1 (.slice Ao l.length co) l.length (l.map (Value.int .i32)) := by
    refine own_block HWK5.out.out fun g hg => ?_
    have hh : w5.heap[g]? ≠ some (.cells #[.slice none 0 0] 23 (0, 0)) ∧ w5.heap[g]? ≠ some (.cells #[.int .i64 0] 30 (0, 0)) := by
     rcases HWK5.out.out.2 with ⟨h1, _⟩ | ⟨g', cap, cur, hv, _, hh, _⟩
     ·rw [h1] at hg; cases hg
     ·rw [hv] at hg
      cases hg
      rw [hh]
      refine ⟨fun h => ?_, fun h => ?_⟩ <;> (simp only [Option.some.injEq, Obj.cells.injEq] at h; exact absurd h.2.1 (by decide))
    rw [Below.heap_setCell _ _ _ _ (fun e => hh.2 (by rw [e]; exact HY5.out)), Below.heap_setCell _ _ _ _ (fun e => hh.1 (by rw [e]; exact HX5.out))]
   generalize (w5.setCell ⟨w.heap.size, 0, none⟩ (.slice Ao l.length co)).setCell ⟨w.heap.size + 1, 0, none⟩ (.int .i64 0) = w6 at *
   have hc1 : w6.cell? ⟨w.heap.size, 0, none⟩ = some (.slice Ao l.length co) := by simp [World.cell?, hx6]
   have hc2 : w6.cell? ⟨w.heap.size + 1, 0, none⟩ = some (.int .i64 0) := by simp [World.cell?, hy6]
   simp [Leaves, settle, results, Tryz.results161, go_sem, hc1, hc2]
   exact ⟨_, rfl, hrow, hu6, hl5⟩
end Go.Proofs.YtnohcnneflogjaaGreat.M
namespace Go.Proofs.YtnohcnneflogjaaGreat.M
open Go.RowKit
def fallAt (T : List Rec) (X : List Int) (i : Nat) : Bool := decide (classF T (X.getD i 0) ≠ 0) && decide (classF T (X.getD (i - 1) 0) > classF T (X.getD i 0))
theorem fallsB_eq (T : List Rec) (X : List Int) : fallsB T X = (List.range' 1 (X.length - 1)).any (fallAt T X) := rfl
theorem any_range {f : Nat → Bool} {i n : Nat} : (List.range' i (n + 1)).any f = (f i || (List.range' (i + 1) n).any f) := by
 rw [List.range'_succ, List.any_cons]
structure Asked (w : World) (A : Option Addr) (T : List Rec) : Prop where
 tab : Table w A T
 right : ∀ x ∈ T, Right x
 wf : ∀ x ∈ T, x.Wf
 len : T.length ≤ 4096
theorem Asked.up {w w' : World} {A : Option Addr} {T : List Rec} (h : Asked w A T) (hu : Up w w') : Asked w' A T := ⟨h.tab.up hu, h.right, h.wf, h.len⟩
def InI32 (X : List Int) : Prop := ∀ t ∈ X, -2147483648 ≤ t ∧ t ≤ 2147483647
theorem InI32.rd {X : List Int} (h : InI32 X) (i : Nat) (hi : i < X.length) : -2147483648 ≤ rd X (i : Int) ∧ rd X (i : Int) ≤ 2147483647 := by
 rw [rd_get X i hi]
 exact h _ (List.getElem_mem _)
theorem RFalls_calls (A : Option Addr) (c : Nat) (T : List Rec) (Ax : Option Addr) (cx : Nat) (X : List Int) (r : Bool) (w : World) (hA : Asked w A T) (hX : Ints .i32 w Ax X) (hXr : InI32 X) (hXl : X.length ≤ 35184372087808) (h : fallsB T X = r) :
 Calls Tryz.prog 155 #[.slice A T.length c, .slice Ax X.length cx] w fun e w' => e = .returned (.bool r) ∧ Up w w' := by
 have HA := Az.mk hA
 have HX := Az.mk hX
 have HXR := Az.mk hXr
 rw [fallsB_eq] at h
 have HR := Az.mk h
 clear hA hX hXr h
 go_enter Tryz.func155, Tryz.ntmps155
 go_wp2
 go_loopg [5] (X.length - 1) (fun k v5 w' => ∃ i : Nat, v5 = .int .i64 i ∧ Az (1 ≤ i ∧ X.length - i = k ∧ (List.range' i k).any (fallAt T X) = r) ∧ Az (Up w w'))
 case atStart => exact ⟨1, rfl, ⟨Nat.le_refl _, rfl, HR.out⟩, ⟨up_refl _⟩⟩
 case round =>
  obtain ⟨i, rfl, HI, HB⟩ := hrel
  have hi := HI.out.1
  have hi2 := HI.out.2.1
  cases gk with
  | zero =>
    have hlt : decide ((i : Int) < (X.length : Int)) = false := dFz (by omega)
    have hln : decide (i < X.length) = false := dFz (by omega)
    have hr : false = r := HI.out.2.2
    subst hr
    clear hi2
    go_wp2
    go_ret
    exact ⟨rfl, HB.out⟩
  | succ k =>
    have hlt : decide ((i : Int) < (X.length : Int)) = true := dTz (by omega)
    have hln : decide (i < X.length) = true := dTz (by omega)
    have p1 : 0 ≤ (i : Int) := by omega
    have p2 : (i : Int) < (X.length : Int) := by omega
    obtain ⟨ad, hAx, hcell⟩ := Ints.at_ HX.out i p1 p2
    replace hcell := up_cell HB.out hcell
    rw [Int.toNat_natCast] at hcell
    have p3 : 0 ≤ ((i - 1 : Nat) : Int) := by omega
    have p4 : ((i - 1 : Nat) : Int) < (X.length : Int) := by omega
    obtain ⟨ad', hAx', hcell'⟩ := Ints.at_ HX.out ((i - 1 : Nat) : Int) p3 p4
    replace hcell' := up_cell HB.out hcell'
    rw [Int.toNat_natCast] at hcell'
    rw [hAx] at hAx'
    cases hAx'
    have r1 := HXR.out.rd i (by omega)
    have r2 := HXR.out.rd (i - 1) (by omega)
    have hr := HI.out.2.2
    rw [any_range] at hr
    have hfa : fallAt T X i = (decide (classF T (rd X (i : Int)) ≠ 0) && decide (classF T (rd X ((i - 1 : Nat) : Int)) > classF T (rd X (i : Int)))) := rfl
    obtain ⟨n, hn⟩ : ∃ n, classF T (rd X (i : Int)) = n := ⟨_, rfl⟩
    obtain ⟨m, hm⟩ : ∃ m, classF T (rd X ((i - 1 : Nat) : Int)) = m := ⟨_, rfl⟩
    rw [hn, hm] at hfa
    have HN := Az.mk hn
    have HM := Az.mk hm
    have hsub : ((i : Int) - 1) = ((i - 1 : Nat) : Int) := by omega
    have q1 : 0 ≤ (i : Int) - 1 := by omega
    have q2 : (i : Int) - 1 < (X.length : Int) := by omega
    have q3 : ((i : Int) - 1).toNat = i - 1 := by omega
    subst hAx
    have R1 := Az.mk r1
    have R2 := Az.mk r2
    have HSUB := Az.mk hsub
    clear hn hm hi2 r1 r2 hsub
    by_cases h0 : n = 0
    ·have t1 : (n == 0) = true := beq_iff_eq.mpr h0
     have t2 : (n != 0) = false := by rw [bne, t1]; rfl
     have hfa' : fallAt T X i = false := by rw [hfa, h0]; rfl
     rw [hfa', Bool.false_or] at hr
     have HR2 := Az.mk hr
     clear h0 hfa hfa' hr
     go_wp2_with (first | (go_at_call 132; (with_reducible refine (RClass_calls _ c T (rd X (i : Int)) _ (HA.out.up HB.out).tab HA.out.right HA.out.wf HA.out.len R1.out.1 R1.out.2 n HN.out).mono ?_); rintro e w1 ⟨rfl, hb1⟩))
     go_roundg k
     case measure => have := HI.out.2.1; omega
     case rel => exact ⟨i + 1, rfl, ⟨by omega, by have := HI.out.2.1; omega, HR2.out⟩, ⟨up_trans HB.out hb1⟩⟩
    ·have t1 : (n == 0) = false := bqf h0
     have t2 : (n != 0) = true := bne_iff_ne.mpr h0
     by_cases hgt : n < m
     ·have t3 : decide (n < m) = true := dTz hgt
      have hfa' : fallAt T X i = true := by rw [hfa, dTz h0, dTz (show m > n from hgt)]; rfl
      rw [hfa', Bool.true_or] at hr
      subst hr
      clear h0 hfa hfa' hgt
      go_wp2_with (first | (go_at_call 132; (with_reducible refine (RClass_calls _ c T (rd X (i : Int)) _ (HA.out.up HB.out).tab HA.out.right HA.out.wf HA.out.len R1.out.1 R1.out.2 n HN.out).mono ?_); rintro e w1 ⟨rfl, hb1⟩; replace hcell' := up_cell hb1 hcell'; have HB1 := Az.mk (up_trans HB.out hb1)) | (go_at_call 132; (with_reducible refine (RClass_calls _ c T (rd X ((i - 1 : Nat) : Int)) _ (HA.out.up HB1.out).tab HA.out.right HA.out.wf HA.out.len R2.out.1 R2.out.2 m HM.out).mono ?_); rintro e w2 ⟨rfl, hb2⟩))
      go_ret
      exact ⟨rfl, up_trans HB1.out hb2⟩
     ·have t3 : decide (n < m) = false := dFz hgt
      have hfa' : fallAt T X i = false := by rw [hfa, dFz (show ¬ m > n from hgt), Bool.and_false]
      rw [hfa', Bool.false_or] at hr
      have HR2 := Az.mk hr
      clear h0 hfa hfa' hgt hr
      go_wp2_with (first | (go_at_call 132; (with_reducible refine (RClass_calls _ c T (rd X (i : Int)) _ (HA.out.up HB.out).tab HA.out.right HA.out.wf HA.out.len R1.out.1 R1.out.2 n HN.out).mono ?_); rintro e w1 ⟨rfl, hb1⟩; replace hcell' := up_cell hb1 hcell'; have HB1 := Az.mk (up_trans HB.out hb1)) | (go_at_call 132; (with_reducible refine (RClass_calls _ c T (rd X ((i - 1 : Nat) : Int)) _ (HA.out.up HB1.out).tab HA.out.right HA.out.wf HA.out.len R2.out.1 R2.out.2 m HM.out).mono ?_); rintro e w2 ⟨rfl, hb2⟩))
      go_roundg k
      case measure => have := HI.out.2.1; omega
      case rel => exact ⟨i + 1, rfl, ⟨by omega, by have := HI.out.2.1; omega, HR2.out⟩, ⟨up_trans HB1.out hb2⟩⟩
end Go.Proofs.YtnohcnneflogjaaGreat.M
